/- DERIVED. Regions that draw their order, third part. -/
import Derived.Test.YtloboanoionagaaSymCode5
set_option linter.unusedVariables false
set_option linter.unusedSimpArgs false
namespace Go.Sym
variable {F : Fence} {P : Program} {call : CallFn} {C : Cfg} {Γe Γ Δ : Cx} {N : Nat} {st st' : St} {a : Act}

theorem mem_nub_fold {i : Nat} : ∀ (l acc : List Nat), i ∈ l.foldl (fun acc x => if acc.any (Nat.beq x) then acc else x :: acc) acc → i ∈ l ∨ i ∈ acc
  | [], _, h => .inr h
  | x :: r, acc, h => by
    rw [List.foldl_cons] at h
    rcases mem_nub_fold r _ h with h | h
    · exact .inl (List.mem_cons_of_mem _ h)
    · split at h
      · exact .inr h
      · rcases List.mem_cons.1 h with h | h
        · exact .inl (h ▸ List.mem_cons_self)
        · exact .inr h
theorem mem_nub {i : Nat} {l : List Nat} (h : i ∈ nub l) : i ∈ l := (mem_nub_fold l [] h).resolve_right (by simp)
def aheadF (acc : List (List Nat)) (o : Oper) : List (List Nat) := acc ++ [nub (o.after.toList.flatMap fun e => if Region.binds .any e then e.on :: acc.getD e.on [] else [])]
theorem ahead_eq (L : List Oper) : ahead L = L.foldl aheadF [] := rfl
theorem ahead_fold : ∀ (r : List Oper) (acc : List (List Nat)), (∀ k, k < acc.length → (r.foldl aheadF acc)[k]? = acc[k]?) ∧
    ∀ j o, r[j]? = some o → ∀ i ∈ (r.foldl aheadF acc).getD (acc.length + j) [], ∃ e ∈ o.after.toList, Region.binds .any e = true ∧ (i = e.on ∨ i ∈ (r.foldl aheadF acc).getD e.on []) := by
  intro r
  induction r with
  | nil => intro acc; exact ⟨fun _ _ => rfl, fun j o h => by simp at h⟩
  | cons o r ih =>
    intro acc
    obtain ⟨h1, h2⟩ := ih (aheadF acc o)
    have hlen : (aheadF acc o).length = acc.length + 1 := by simp [aheadF]
    simp only [List.foldl_cons]
    refine ⟨fun k hk => ?_, fun j o' hj i hi => ?_⟩
    · rw [h1 k (by omega)]; simp [aheadF, List.getElem?_append_left hk]
    · cases j with
      | zero =>
        simp only [List.getElem?_cons_zero, Option.some.injEq] at hj
        subst hj
        rw [Nat.add_zero, List.getD_eq_getElem?_getD, h1 acc.length (by omega)] at hi
        simp only [aheadF, List.getElem?_concat_length, Option.getD_some] at hi
        have hi := List.mem_flatMap.1 (mem_nub hi)
        obtain ⟨e, he, hi⟩ := hi
        refine ⟨e, he, ?_⟩
        split at hi
        · rename_i hb
          refine ⟨hb, ?_⟩
          rcases List.mem_cons.1 hi with hi | hi
          · exact .inl hi
          · right
            by_cases hk : e.on < acc.length
            · rw [List.getD_eq_getElem?_getD, h1 e.on (by omega)]
              simp only [aheadF, List.getElem?_append_left hk]
              rw [← List.getD_eq_getElem?_getD]; exact hi
            · rw [List.getD_eq_getElem?_getD, List.getElem?_eq_none (by omega)] at hi; cases hi
        · cases hi
      | succ j =>
        refine h2 j o' (by simpa using hj) i ?_
        rw [hlen, show acc.length + 1 + j = acc.length + (j + 1) by omega]; exact hi

theorem ahead_mem {L : List Oper} {i j : Nat} {o : Oper} (ho : L[j]? = some o) (h : i ∈ (ahead L).getD j []) : ∃ e ∈ o.after.toList, Region.binds .any e = true ∧ (i = e.on ∨ i ∈ (ahead L).getD e.on []) := by
  have := (ahead_fold L []).2 j o ho i
  simp only [List.length_nil, Nat.zero_add] at this
  exact this h

theorem getD_set {l : Array Bool} {i j : Nat} (hi : i < l.size) : (l.setIfInBounds i true).getD j false = if i = j then true else l.getD j false := by
  rw [Array.getD_eq_getD_getElem?, Array.getD_eq_getD_getElem?, Array.getElem?_setIfInBounds]
  by_cases h : i = j
  · subst h; simp [hi]
  · simp [h]

section
variable {L : List Oper} {l : List (List Nat × List Nat)} {sts : Nat → St} {vs : Nat → V} {wss : Nat → List (Nat × Ob)} {pairs : List (Nat × Nat)}

theorem wpAny_ok (hF : ∀ f, F.fn f) (hdep : F.depth = none) (hc : CallOk F P call) {ops : Array Oper} (hL : ops.toList = L) (R : Reg N P C call L st st' l sts vs wss pairs) {n : Nat} {Q : Exit → Act → World → Prop}
    (hQ : ∀ a' Δ, StR Γe N st' a' Δ → Q .normal a' Δ.w) : ∀ (fuel : Nat) (listed : Array Bool) (a : Act) (Γ : Cx), listed.size = L.length → L.length ≤ fuel + listed.toList.count true →
    Closed L (fun i => listed.getD i false) → Inv Γe N L st vs wss (fun i => listed.getD i false) a Γ → wpAnyIn F n P .any ops Q fuel listed a Γ.w := by
  have all_of_nil : ∀ (listed : Array Bool), listed.size = L.length → Region.ready .any ops listed = [] → ∀ i, i < L.length → listed.getD i false = true := by
    intro listed hsz hr i
    induction i using Nat.strongRecOn with
    | _ i ih =>
      intro hi
      cases hli : listed.getD i false with
      | true => rfl
      | false =>
        have ho : L[i]? = some L[i] := List.getElem?_eq_getElem hi
        have hmem : i ∈ Region.ready .any ops listed := by
          rw [mem_ready]
          refine ⟨?_, L[i], by rw [← Array.getElem?_toList, hL]; exact ho, fun e he hb => ?_⟩
          · rw [Array.getD_eq_getD_getElem?] at hli ⊢
            rw [Array.getElem?_eq_getElem (by omega)] at hli ⊢
            exact hli
          · have hed := R.edges
            simp only [edgesOk, List.all_eq_true] at hed
            have hei := hed i (by simpa using hi)
            simp only [ho, Bool.and_eq_true] at hei
            have := List.all_eq_true.1 hei.1 e (by simpa using he)
            simp only [hb, Bool.not_true, Bool.false_or] at this
            have hlt : e.on < i := by simpa [Nat.blt_eq] using this
            exact ih e.on hlt (by omega)
        rw [hr] at hmem; cases hmem
  intro fuel
  induction fuel with
  | zero =>
    intro listed a Γ hsz hcnt hcl I
    have hall : ∀ i, i < L.length → listed.getD i false = true := by
      intro i hi
      have h1 : listed.toList.count true = listed.toList.length := by
        have := List.count_le_length (a := true) (l := listed.toList)
        simp only [Array.length_toList] at this ⊢
        omega
      have h2 := List.count_eq_length.1 h1
      rw [Array.getD_eq_getD_getElem?, Array.getElem?_eq_getElem (by omega)]
      exact (h2 listed[i] (by simp)).symm
    refine ⟨?_, hQ _ _ (I.toStR R hall)⟩
    rw [List.eq_nil_iff_forall_not_mem]
    intro i hi
    obtain ⟨hu, o, ho, _⟩ := mem_ready.1 hi
    have hil : i < L.length := by rw [← hL]; simpa using (Array.getElem?_eq_some_iff.1 ho).1
    have := hall i hil
    rw [Array.getD_eq_getD_getElem?, Array.getElem?_eq_getElem (by omega)] at hu this
    simp only [Option.getD_some] at hu this
    rw [hu] at this; cases this
  | succ fuel ih =>
    intro listed a Γ hsz hcnt hcl I
    refine ⟨fun hr => hQ _ _ (I.toStR R (all_of_nil listed hsz hr)), fun i hi => ?_⟩
    obtain ⟨hu, o, ho, hall⟩ := mem_ready.1 hi
    have hil : i < L.length := by rw [← hL]; simpa using (Array.getElem?_eq_some_iff.1 ho).1
    have hoL : L[i]? = some o := by rw [← hL, Array.getElem?_toList]; exact ho
    have hiS : listed.getD i false = false := by
      rw [Array.getD_eq_getD_getElem?, Array.getElem?_eq_getElem (by omega)] at hu ⊢
      exact hu
    have hah : ∀ k ∈ (ahead L).getD i [], listed.getD k false = true := by
      intro k hk
      obtain ⟨e, he, hb, hk⟩ := ahead_mem hoL hk
      have h1 := hall e (by simpa using he) hb
      rcases hk with rfl | hk
      · exact h1
      · by_cases heL : e.on < L.length
        · exact hcl e.on heL h1 k hk
        · rw [Array.getD_eq_getD_getElem?, Array.getElem?_eq_none (by omega)] at h1
          cases h1
    have hset : ∀ j, (listed.setIfInBounds i true).getD j false = if i = j then true else listed.getD j false := fun j => getD_set (by omega)
    refine Inv.step hF hdep hc hL R I hcl hil hiS hah (S' := fun j => (listed.setIfInBounds i true).getD j false) (by rw [hset, if_pos rfl]) (fun j hj => by rw [hset, if_neg (fun e => hj e.symm)]) ?_
    intro a' Δ I'
    refine ih _ a' Δ (by simp [hsz]) ?_ ?_ I'
    · have : (listed.setIfInBounds i true).toList.count true = listed.toList.count true + 1 := by
        rw [Array.toList_setIfInBounds, List.count_set (by simp; omega)]
        have h0 : listed.toList[i]'(by simp; omega) = false := by
          rw [Array.getD_eq_getD_getElem?, Array.getElem?_eq_getElem (by omega)] at hiS
          simpa using hiS
        simp [h0]
      omega
    · intro j hj hs k hk
      simp only [hset] at hs ⊢
      by_cases hik : i = k
      · rw [if_pos hik]
      · rw [if_neg hik]
        by_cases hij : i = j
        · subst hij; exact hah k hk
        · rw [if_neg hij] at hs; exact hcl j hj hs k hk
end

/-- **A region that draws its order.** -/
theorem draw_ok (hF : ∀ f, F.fn f) (hdep : F.depth = none) (hc : CallOk F P call) (hm : P.follows .mixedOrders = true) {id : Nat} {ops : Array Oper} {pairs : List (Nat × Nat)} {l : List (List Nat × List Nat)} (h : StR Γe N st a Γ) (hdst : dstsOk N ops.toList = true)
    (hed : edgesOk ops.toList = true) (hreg : regionOk ops.toList pairs = true) (hs : evalD P C call ops.toList ops.toList st = some (st', l)) (hp : (pairs.all fun p => pairOk l p.1 p.2) = true) {n : Nat} {Q : Exit → Act → World → Prop}
    (hQ : ∀ a' Δ, StR Γe N st' a' Δ → Q .normal a' Δ.w) : (Code.region id ops true).wpIn F n P Q a Γ.w := by
  obtain ⟨sts, vs, wss, T⟩ := trace hs
  obtain ⟨H1, E1⟩ := step_same h.ok { Γ.w with drawn := Γ.w.drawn + 1 } Γ.n rfl rfl rfl rfl (fun _ h => h)
  refine wpIn_region_any hm ?_
  have R : Reg N P C call ops.toList st st' l sts vs wss pairs := ⟨T, hreg, hed, hdst, hp⟩
  have e0 : ∀ i, (Array.replicate ops.size false).getD i false = false := by
    intro i
    rw [Array.getD_eq_getD_getElem?, Array.getElem?_replicate]
    split <;> rfl
  have a0 : ∀ {α : Type} (h0 : Nat → Option α) (W : Nat → List (Nat × α)) (n : Nat), acc h0 W (fun i => (Array.replicate ops.size false).getD i false) n = h0 := by
    intro α h0 W n
    induction n with
    | zero => rfl
    | succ n ih =>
      show (if (Array.replicate ops.size false).getD n false = true then _ else _) = h0
      rw [e0, if_neg (by simp)]; exact ih
  refine wpAny_ok hF hdep hc rfl R hQ ops.size _ a { Γ with w := { Γ.w with drawn := Γ.w.drawn + 1 } } (by simp) (by simp) (fun j _ hs => by simp only [e0] at hs; cases hs) ?_
  refine ⟨H1, by rw [a0]; exact h.hp, fun k hk => .inl ?_, h.gone.trans E1, fun t v ht => ?_, h.sz, h.df.evo E1⟩
  · by_cases hlt : k < st.nx
    · exact hlt
    · exact absurd hk (h.n k (by omega))
  · rw [a0] at ht; exact (h.tm t v ht).evo E1
end Go.Sym
