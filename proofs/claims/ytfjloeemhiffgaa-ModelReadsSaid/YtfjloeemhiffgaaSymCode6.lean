/- DERIVED. Regions that draw their order, third part. -/
import Derived.Test.YtfjloeemhiffgaaSymCode5
set_option linter.unusedVariables false
set_option linter.unusedSimpArgs false
namespace Go.Sym
variable {F : Fence} {P : Program} {call : CallFn} {C : Cfg} {Γe Γ Δ : Cx} {N : Nat} {st st' : St} {a : Act}

theorem mem_nub_fold {i : Nat} : ∀ (l acc : List Nat), i ∈ l.foldl (fun acc x => if acc.any (Nat.beq x) then acc else x :: acc) acc → i ∈ l ∨ i ∈ acc
  | [], _, h => .inr h
  | x :: r, acc, h => by
    rw [List.foldl_cons] at h
    rcases mem_nub_fold r _ h with h | h
    · exact .inl (List.mem_cons_of_mem _ h)
    · split at h
      · exact .inr h
      · rcases List.mem_cons.1 h with h | h
        · exact .inl (h ▸ List.mem_cons_self)
        · exact .inr h
theorem mem_nub {i : Nat} {l : List Nat} (h : i ∈ nub l) : i ∈ l := (mem_nub_fold l [] h).resolve_right (by simp)
def aheadF (acc : List (List Nat)) (o : Oper) : List (List Nat) := acc ++ [nub (o.after.toList.flatMap fun e => if Region.binds .any e then e.on :: acc.getD e.on [] else [])]
theorem ahead_eq (L : List Oper) : ahead L = L.foldl aheadF [] := rfl
theorem ahead_fold : ∀ (r : List Oper) (acc : List (List Nat)), (∀ k, k < acc.length → (r.foldl aheadF acc)[k]? = acc[k]?) ∧
    ∀ j o, r[j]? = some o → ∀ i ∈ (r.foldl aheadF acc).getD (acc.length + j) [], ∃ e ∈ o.after.toList, Region.binds .any e = true ∧ (i = e.on ∨ i ∈ (r.foldl aheadF acc).getD e.on []) := by
  intro r
  induction r with
  | nil => intro acc; exact ⟨fun _ _ => rfl, fun j o h => by simp at h⟩
  | cons o r ih =>
    intro acc
    obtain ⟨h1, h2⟩ := ih (aheadF acc o)
    have hlen : (aheadF acc o).length = acc.length + 1 := by simp [aheadF]
    simp only [List.foldl_cons]
    refine ⟨fun k hk => ?_, fun j o' hj i hi => ?_⟩
    · rw [h1 k (by omega)]; simp [aheadF, List.getElem?_append_left hk]
    · cases j with
      | zero =>
        simp only [List.getElem?_cons_zero, Option.some.injEq] at hj
        subst hj
        rw [Nat.add_zero, List.getD_eq_getElem?_getD, h1 acc.length (by omega)] at hi
        simp only [aheadF, List.getElem?_concat_length, Option.getD_some] at hi
        have hi := List.mem_flatMap.1 (mem_nub hi)
        obtain ⟨e, he, hi⟩ := hi
        refine ⟨e, he, ?_⟩
        split at hi
        · rename_i hb
          refine ⟨hb, ?_⟩
          rcases List.mem_cons.1 hi with hi | hi
          · exact .inl hi
          · right
            by_cases hk : e.on < acc.length
            · rw [List.getD_eq_getElem?_getD, h1 e.on (by omega)]
              simp only [aheadF, List.getElem?_append_left hk]
              rw [← List.getD_eq_getElem?_getD]; exact hi
            · rw [List.getD_eq_getElem?_getD, List.getElem?_eq_none (by omega)] at hi; cases hi
        · cases hi
      | succ j =>
        refine h2 j o' (by simpa using hj) i ?_
        rw [hlen, show acc.length + 1 + j = acc.length + (j + 1) by omega]; exact hi

theorem ahead_mem {L : List Oper} {i j : Nat} {o : Oper} (ho : L[j]? = some o) (h : i ∈ (ahead L).getD j []) : ∃ e ∈ o.after.toList, Region.binds .any e = true ∧ (i = e.on ∨ i ∈ (ahead L).getD e.on []) := by
  have := (ahead_fold L []).2 j o ho i
  simp only [List.length_nil, Nat.zero_add] at this
  exact this h

theorem getD_set {l : Array Bool} {i j : Nat} (hi : i < l.size) : (l.setIfInBounds i true).getD j false = if i = j then true else l.getD j false := by
  rw [Array.getD_eq_getD_getElem?, Array.getD_eq_getD_getElem?, Array.getElem?_setIfInBounds]
  by_cases h : i = j
  · subst h; simp [hi]
  · simp [h]

section
variable {L : List Oper} {l : List (List Nat × List Nat)} {sts : Nat → St} {vs : Nat → V} {wss : Nat → List (Nat × Ob)} {pairs : List (Nat × Nat)}

theorem wpAny_ok (hF : ∀ f, F.fn f) (hdep : F.depth = none) (hc : CallOk F P call) {ops : Array Oper} (hL : ops.toList = L) (R : Reg N P C call L st st' l sts vs wss pairs) {n : Nat} {Q : Exit → Act → World → Prop}
    (hQ : ∀ a' Δ, StR Γe N st' a' Δ → Q .normal a' Δ.w) : ∀ (fuel : Nat) (listed : Array Bool) (a : Act) (Γ : Cx), listed.size = L.length → L.length ≤ fuel + listed.toList.count true →
    Closed L (fun i => listed.getD i false) → Inv Γe N L st vs wss (fun i => listed.getD i false) a Γ → wpAnyIn F n P .any ops Q fuel listed a Γ.w := by
  have all_of_nil : ∀ (listed : Array Bool), listed.size = L.length → Region.ready .any ops listed = [] → ∀ i, i < L.length → listed.getD i false = true := by
    intro listed hsz hr i
    induction i using Nat.strongRecOn with
    | _ i ih =>
      intro hi
      cases hli : listed.getD i false with
      | true => rfl
      | false =>
        have ho : L[i]? = some L[i] := List.getElem?_eq_getElem hi
        have hmem : i ∈ Region.ready .any ops listed := by
          rw [mem_ready]
          refine ⟨?_, L[i], by rw [← Array.getElem?_toList, hL]; exact ho, fun e he hb => ?_⟩
          · rw [Array.getD_eq_getD_getElem?] at hli ⊢
            rw [Array.getElem?_eq_getElem (by omega)] at hli ⊢
            exact hli
          · have hed := R.edges
            simp only [edgesOk, List.all_eq_true] at hed
            have hei := hed i (by simpa using hi)
            simp only [ho, Bool.and_eq_true] at hei
            have := List.all_eq_true.1 hei.1 e (by simpa using he)
            simp only [hb, Bool.not_true, Bool.false_or] at this
            have hlt : e.on < i := by simpa [Nat.blt_eq] using this
            exact ih e.on hlt (by omega)
        rw [hr] at hmem; cases hmem
  intro fuel
  induction fuel with
  | zero =>
    intro listed a Γ hsz hcnt hcl I
    have hall : ∀ i, i < L.length → listed.getD i false = true := by
      intro i hi
      have h1 : listed.toList.count true = listed.toList.length := by
        have := List.count_le_length (a := true) (l := listed.toList)
        simp only [Array.length_toList] at this ⊢
        omega
      have h2 := List.count_eq_length.1 h1
      rw [Array.getD_eq_getD_getElem?, Array.getElem?_eq_getElem (by omega)]
      exact (h2 listed[i] (by simp)).symm
    refine ⟨?_, hQ _ _ (I.toStR R hall)⟩
    rw [List.eq_nil_iff_forall_not_mem]
    intro i hi
    obtain ⟨hu, o, ho, _⟩ := mem_ready.1 hi
    have hil : i < L.length := by rw [← hL]; simpa using (Array.getElem?_eq_some_iff.1 ho).1
    have := hall i hil
    rw [Array.getD_eq_getD_getElem?, Array.getElem?_eq_getElem (by omega)] at hu this
    simp only [Option.getD_some] at hu this
    rw [hu] at this; cases this
  | succ fuel ih =>
    intro listed a Γ hsz hcnt hcl I
    refine ⟨fun hr => hQ _ _ (I.toStR R (all_of_nil listed hsz hr)), fun i hi => ?_⟩
    obtain ⟨hu, o, ho, hall⟩ := mem_ready.1 hi
    have hil : i < L.length := by rw [← hL]; simpa using (Array.getElem?_eq_some_iff.1 ho).1
    have hoL : L[i]? = some o := by rw [← hL, Array.getElem?_toList]; exact ho
    have hiS : listed.getD i false = false := by
      rw [Array.getD_eq_getD_getElem?, Array.getElem?_eq_getElem (by omega)] at hu ⊢
      exact hu
    have hah : ∀ k ∈ (ahead L).getD i [], listed.getD k false = true := by
      intro k hk
      obtain ⟨e, he, hb, hk⟩ := ahead_mem hoL hk
      have h1 := hall e (by simpa using he) hb
      rcases hk with rfl | hk
      · exact h1
      · by_cases heL : e.on < L.length
        · exact hcl e.on heL h1 k hk
        · rw [Array.getD_eq_getD_getElem?, Array.getElem?_eq_none (by omega)] at h1
          cases h1
    have hset : ∀ j, (listed.setIfInBounds i true).getD j false = if i = j then true else listed.getD j false := fun j => getD_set (by omega)
    refine Inv.step hF hdep hc (fun j x hx => by rw [← Array.getElem?_toList, hL]; exact hx) R I hcl hil hiS hah (S' := fun j => (listed.setIfInBounds i true).getD j false) (by rw [hset, if_pos rfl]) (fun j hj => by rw [hset, if_neg (fun e => hj e.symm)]) ?_
    intro a' Δ I'
    refine ih _ a' Δ (by simp [hsz]) ?_ ?_ I'
    · have : (listed.setIfInBounds i true).toList.count true = listed.toList.count true + 1 := by
        rw [Array.toList_setIfInBounds, List.count_set (by simp; omega)]
        have h0 : listed.toList[i]'(by simp; omega) = false := by
          rw [Array.getD_eq_getD_getElem?, Array.getElem?_eq_getElem (by omega)] at hiS
          simpa using hiS
        simp [h0]
      omega
    · intro j hj hs k hk
      simp only [hset] at hs ⊢
      by_cases hik : i = k
      · rw [if_pos hik]
      · rw [if_neg hik]
        by_cases hij : i = j
        · subst hij; exact hah k hk
        · rw [if_neg hij] at hs; exact hcl j hj hs k hk
/-- .. whose last operation is behind all others. -/
theorem wpLast_ok (hF : ∀ f, F.fn f) (hdep : F.depth = none) (hc : CallOk F P call) {ops : Array Oper} {o : Oper} (hL : ops.toList = L ++ [o]) (hlast : lastOk (L ++ [o]) = true) (hed : edgesOk (L ++ [o]) = true) (hdo : ∀ d, o.dst = some d → d < N)
    (R : Reg N P C call L st st' l sts vs wss pairs) {st2 : St} (hs2 : evalOp P C call o st' = some st2) {n : Nat} {Q : Exit → Act → World → Prop}
    (hQ : ∀ a' Δ, StR Γe N st2 a' Δ → Q .normal a' Δ.w) : ∀ (fuel : Nat) (listed : Array Bool) (a : Act) (Γ : Cx), listed.size = L.length + 1 → L.length + 1 ≤ fuel + listed.toList.count true → listed.getD L.length false = false →
    Closed L (fun i => listed.getD i false) → Inv Γe N L st vs wss (fun i => listed.getD i false) a Γ → wpAnyIn F n P .any ops Q fuel listed a Γ.w := by
  have hpre : ∀ (j : Nat) (x : Oper), L[j]? = some x → ops[j]? = some x := by
    intro j x hx
    rw [← Array.getElem?_toList, hL, List.getElem?_append_left (List.getElem?_eq_some_iff.1 hx).1]
    exact hx
  have hopo : ops[L.length]? = some o := by rw [← Array.getElem?_toList, hL]; simp
  have hsz : ops.size = L.length + 1 := by rw [← Array.length_toList, hL]; simp
  have edge : ∀ (j : Nat) (x : Oper), (L ++ [o])[j]? = some x → ∀ e ∈ x.after.toList, Region.binds .any e = true → e.on < j := by
    intro j x hx e he hb
    have hed := hed
    simp only [edgesOk, List.all_eq_true] at hed
    have hei := hed j (by have := (List.getElem?_eq_some_iff.1 hx).1; simpa using this)
    simp only [hx, Bool.and_eq_true] at hei
    have := List.all_eq_true.1 hei.1 e he
    simp only [hb, Bool.not_true, Bool.false_or] at this
    simpa [Nat.blt_eq] using this
  have hahead : ∀ j, j < L.length → (ahead (L ++ [o])).getD j [] = (ahead L).getD j [] := by
    intro j hj
    have hlen : ∀ (r : List Oper) (acc : List (List Nat)), (r.foldl aheadF acc).length = acc.length + r.length := by
      intro r
      induction r with
      | nil => intro acc; rfl
      | cons x r ih => intro acc; rw [List.foldl_cons, ih]; simp [aheadF]; omega
    have h1 : (ahead L).length = L.length := by rw [ahead_eq, hlen]; simp
    rw [ahead_eq, List.foldl_append, ← ahead_eq]
    show ((aheadF (ahead L) o)).getD j [] = _
    unfold aheadF
    rw [List.getD_eq_getElem?_getD, List.getD_eq_getElem?_getD, List.getElem?_append_left (by omega)]
  have hbehind : ∀ (S : Nat → Bool), Closed L S → (∀ e ∈ o.after.toList, Region.binds .any e = true → S e.on = true) → ∀ k, k < L.length → S k = true := by
    intro S hcl hS k hk
    simp only [lastOk, List.getLast?_concat, Bool.and_eq_true, List.all_eq_true, List.mem_range, List.length_append, List.length_cons, List.length_nil, Nat.zero_add, Nat.add_sub_cancel, List.any_eq_true] at hlast
    obtain ⟨x, hx, hkx⟩ := hlast.2 k hk
    have hkx := Nat.eq_of_beq_eq_true hkx
    subst hkx
    have hlo : (L ++ [o])[L.length]? = some o := by simp
    obtain ⟨e, he, hb, h⟩ := ahead_mem hlo hx
    have h1 := hS e he hb
    rcases h with rfl | h
    · exact h1
    · have hlt := edge _ _ hlo e he hb
      rw [hahead _ hlt] at h
      exact hcl _ hlt h1 _ h
  have fin : ∀ (fuel : Nat) (listed : Array Bool) (a : Act) (w : World), listed.size = L.length + 1 → (∀ i, i < L.length + 1 → listed.getD i false = true) → Q .normal a w → wpAnyIn F n P .any ops Q fuel listed a w := by
    intro fuel listed a w hls hall hq
    have hnone : Region.ready .any ops listed = [] := by
      rw [List.eq_nil_iff_forall_not_mem]
      intro i hi
      obtain ⟨hu, x, hx, _⟩ := mem_ready.1 hi
      have hil : i < L.length + 1 := by rw [← hsz]; exact (Array.getElem?_eq_some_iff.1 hx).1
      have := hall i hil
      rw [Array.getD_eq_getD_getElem?, Array.getElem?_eq_getElem (by omega)] at hu this
      simp only [Option.getD_some] at hu this
      rw [hu] at this; cases this
    cases fuel with
    | zero => exact ⟨hnone, hq⟩
    | succ fuel => exact ⟨fun _ => hq, fun i hi => by rw [hnone] at hi; cases hi⟩
  intro fuel
  induction fuel with
  | zero =>
    intro listed a Γ hls hcnt hlf hcl I
    exfalso
    have h1 : listed.toList.count true = listed.toList.length := by
      have := List.count_le_length (a := true) (l := listed.toList)
      simp only [Array.length_toList] at this ⊢
      omega
    have h2 := List.count_eq_length.1 h1
    rw [Array.getD_eq_getD_getElem?, Array.getElem?_eq_getElem (by omega)] at hlf
    have := h2 listed[L.length] (by simp)
    simp only [Option.getD_some] at hlf
    rw [hlf] at this; cases this
  | succ fuel ih =>
    intro listed a Γ hls hcnt hlf hcl I
    have unl : ∀ i, i < L.length + 1 → listed.getD i false = false → listed.getD i true = false := by
      intro i hi h
      rw [Array.getD_eq_getD_getElem?, Array.getElem?_eq_getElem (by omega)] at h ⊢
      exact h
    refine ⟨fun hr => ?_, fun i hi => ?_⟩
    · exfalso
      have hall : ∀ i, i < L.length → listed.getD i false = true := by
        intro i
        induction i using Nat.strongRecOn with
        | _ i ihi =>
          intro hil
          cases hli : listed.getD i false with
          | true => rfl
          | false =>
            exfalso
            have hmem : i ∈ Region.ready .any ops listed := by
              rw [mem_ready]
              refine ⟨unl i (by omega) hli, L[i], hpre i _ (List.getElem?_eq_getElem hil), fun e he hb => ?_⟩
              have hlt := edge i L[i] (by rw [List.getElem?_append_left hil]; exact List.getElem?_eq_getElem hil) e (by simpa using he) hb
              exact ihi e.on hlt (by omega)
            rw [hr] at hmem; cases hmem
      have hmem : L.length ∈ Region.ready .any ops listed := by
        rw [mem_ready]
        refine ⟨unl _ (by omega) hlf, o, hopo, fun e he hb => ?_⟩
        exact hall e.on (edge L.length o (by simp) e (by simpa using he) hb)
      rw [hr] at hmem; cases hmem
    · obtain ⟨hu, x, hx, hall⟩ := mem_ready.1 hi
      have hil : i < L.length + 1 := by rw [← hsz]; exact (Array.getElem?_eq_some_iff.1 hx).1
      have hiS : listed.getD i false = false := by
        rw [Array.getD_eq_getD_getElem?, Array.getElem?_eq_getElem (by omega)] at hu ⊢
        exact hu
      have hset : ∀ j, (listed.setIfInBounds i true).getD j false = if i = j then true else listed.getD j false := fun j => getD_set (by omega)
      by_cases hlt : i < L.length
      · have hoL : L[i]? = some x := by
          have := hpre i _ (List.getElem?_eq_getElem hlt)
          rw [hx] at this; cases this
          exact List.getElem?_eq_getElem hlt
        have hah : ∀ k ∈ (ahead L).getD i [], listed.getD k false = true := by
          intro k hk
          obtain ⟨e, he, hb, hk⟩ := ahead_mem hoL hk
          have h1 := hall e (by simpa using he) hb
          rcases hk with rfl | hk
          · exact h1
          · have hel := edge i x (by rw [List.getElem?_append_left hlt]; exact hoL) e he hb
            exact hcl e.on (by omega) h1 k hk
        refine Inv.step hF hdep hc hpre R I hcl hlt hiS hah (S' := fun j => (listed.setIfInBounds i true).getD j false) (by rw [hset, if_pos rfl]) (fun j hj => by rw [hset, if_neg (fun e => hj e.symm)]) ?_
        intro a' Δ I'
        refine ih _ a' Δ (by simp [hls]) ?_ (by rw [hset, if_neg (by omega)]; exact hlf) ?_ I'
        · have : (listed.setIfInBounds i true).toList.count true = listed.toList.count true + 1 := by
            rw [Array.toList_setIfInBounds, List.count_set (by simp; omega)]
            have h0 : listed.toList[i]'(by simp; omega) = false := by
              rw [Array.getD_eq_getD_getElem?, Array.getElem?_eq_getElem (by omega)] at hiS
              simpa using hiS
            simp [h0]
          omega
        · intro j hj hs k hk
          simp only [hset] at hs ⊢
          by_cases hik : i = k
          · rw [if_pos hik]
          · rw [if_neg hik]
            by_cases hij : i = j
            · subst hij; exact hah k hk
            · rw [if_neg hij] at hs; exact hcl j hj hs k hk
      · have hie : i = L.length := by omega
        subst hie
        rw [hopo] at hx; cases hx
        have hdone := hbehind (fun i => listed.getD i false) hcl (fun e he hb => hall e (by simpa using he) hb)
        have hg : o.guard = none := by
          simp only [lastOk, List.getLast?_concat, Bool.and_eq_true] at hlast
          simpa using hlast.1
        have hw : Region.wanted o (yielded ops a.tmps) = true := by simp [Region.wanted, hg]
        unfold wpOpIn
        simp only [hopo, hw, if_true]
        refine evalOp_ok hF hdep hc (I.toStR R hdone) hdo hs2 fun a' Δ h' => fin _ _ _ _ (by simp [hls]) (fun j hj => ?_) (hQ a' Δ h')
        rw [hset]
        by_cases hij : L.length = j
        · rw [if_pos hij]
        · rw [if_neg hij]; exact hdone j (by omega)
end

/-- **A region that draws its order.** -/
theorem draw_ok (hF : ∀ f, F.fn f) (hdep : F.depth = none) (hc : CallOk F P call) (hm : P.follows .mixedOrders = true) {id : Nat} {ops : Array Oper} {pairs : List (Nat × Nat)} {l : List (List Nat × List Nat)} (h : StR Γe N st a Γ) (hdst : dstsOk N ops.toList = true)
    (hed : edgesOk ops.toList = true) (hreg : regionOk ops.toList pairs = true) (hs : evalD P C call ops.toList ops.toList st = some (st', l)) (hp : (pairs.all fun p => pairOk l p.1 p.2) = true) {n : Nat} {Q : Exit → Act → World → Prop}
    (hQ : ∀ a' Δ, StR Γe N st' a' Δ → Q .normal a' Δ.w) : (Code.region id ops true).wpIn F n P Q a Γ.w := by
  obtain ⟨sts, vs, wss, T⟩ := trace hs
  obtain ⟨H1, E1⟩ := step_same h.ok { Γ.w with drawn := Γ.w.drawn + 1 } Γ.n rfl rfl rfl rfl (fun _ h => h)
  refine wpIn_region_any hm ?_
  have R : Reg N P C call ops.toList st st' l sts vs wss pairs := ⟨T, hreg, hed, hdst, hp⟩
  have e0 : ∀ i, (Array.replicate ops.size false).getD i false = false := by
    intro i
    rw [Array.getD_eq_getD_getElem?, Array.getElem?_replicate]
    split <;> rfl
  have a0 : ∀ {α : Type} (h0 : Nat → Option α) (W : Nat → List (Nat × α)) (n : Nat), acc h0 W (fun i => (Array.replicate ops.size false).getD i false) n = h0 := by
    intro α h0 W n
    induction n with
    | zero => rfl
    | succ n ih =>
      show (if (Array.replicate ops.size false).getD n false = true then _ else _) = h0
      rw [e0, if_neg (by simp)]; exact ih
  refine wpAny_ok hF hdep hc rfl R hQ ops.size _ a { Γ with w := { Γ.w with drawn := Γ.w.drawn + 1 } } (by simp) (by simp) (fun j _ hs => by simp only [e0] at hs; cases hs) ?_
  refine ⟨H1, by rw [a0]; exact h.hp, fun k hk => .inl ?_, h.gone.trans E1, fun t v ht => ?_, h.sz, h.df.evo E1⟩
  · by_cases hlt : k < st.nx
    · exact hlt
    · exact absurd hk (h.n k (by omega))
  · rw [a0] at ht; exact (h.tm t v ht).evo E1
theorem last_ok (hF : ∀ f, F.fn f) (hdep : F.depth = none) (hc : CallOk F P call) (hm : P.follows .mixedOrders = true) {id : Nat} {ops : Array Oper} {pairs : List (Nat × Nat)} {l : List (List Nat × List Nat)} (h : StR Γe N st a Γ) (hdst : dstsOk N ops.toList = true)
    (hed : edgesOk ops.toList = true) (hlast : lastOk ops.toList = true) (hreg : regionOk ops.toList.dropLast pairs = true) (hs : evalD P C call ops.toList.dropLast ops.toList.dropLast st = some (st', l)) (hp : (pairs.all fun p => pairOk l p.1 p.2) = true)
    {o : Oper} (ho : ops.toList.getLast? = some o) {st2 : St} (hs2 : evalOp P C call o st' = some st2) {n : Nat} {Q : Exit → Act → World → Prop}
    (hQ : ∀ a' Δ, StR Γe N st2 a' Δ → Q .normal a' Δ.w) : (Code.region id ops true).wpIn F n P Q a Γ.w := by
  obtain ⟨sts, vs, wss, T⟩ := trace hs
  obtain ⟨H1, E1⟩ := step_same h.ok { Γ.w with drawn := Γ.w.drawn + 1 } Γ.n rfl rfl rfl rfl (fun _ h => h)
  refine wpIn_region_any hm ?_
  have hL : ops.toList = ops.toList.dropLast ++ [o] := by
    obtain ⟨ys, hys⟩ := List.getLast?_eq_some_iff.1 ho
    rw [hys]; simp
  obtain ⟨L, hLd⟩ : ∃ L, L = ops.toList.dropLast := ⟨_, rfl⟩
  rw [← hLd] at hL T hreg hs
  rw [hL] at hdst hed hlast
  simp only [dstsOk, List.all_append, Bool.and_eq_true, List.all_cons, List.all_nil, Bool.and_true] at hdst
  have hdo : ∀ d, o.dst = some d → d < N := by
    intro d hd
    have := hdst.2
    rw [hd] at this
    simpa [Nat.blt_eq] using this
  have hedL : edgesOk L = true := by
    simp only [edgesOk, List.all_eq_true, List.mem_range] at hed ⊢
    intro j hj
    have := hed j (by simp; omega)
    rw [List.getElem?_append_left hj] at this
    exact this
  have R : Reg N P C call L st st' l sts vs wss pairs := ⟨T, hreg, hedL, hdst.1, hp⟩
  have hsz : ops.size = L.length + 1 := by rw [← Array.length_toList, hL]; simp
  have e0 : ∀ i, (Array.replicate ops.size false).getD i false = false := by
    intro i
    rw [Array.getD_eq_getD_getElem?, Array.getElem?_replicate]
    split <;> rfl
  have a0 : ∀ {α : Type} (h0 : Nat → Option α) (W : Nat → List (Nat × α)) (n : Nat), acc h0 W (fun i => (Array.replicate ops.size false).getD i false) n = h0 := by
    intro α h0 W n
    induction n with
    | zero => rfl
    | succ n ih =>
      show (if (Array.replicate ops.size false).getD n false = true then _ else _) = h0
      rw [e0, if_neg (by simp)]; exact ih
  refine wpLast_ok hF hdep hc hL hlast hed hdo R hs2 hQ ops.size _ a { Γ with w := { Γ.w with drawn := Γ.w.drawn + 1 } } (by simp [hsz]) (by simp [hsz]) (e0 _) (fun j _ hs => by simp only [e0] at hs; cases hs) ?_
  refine ⟨H1, by rw [a0]; exact h.hp, fun k hk => .inl ?_, h.gone.trans E1, fun t v ht => ?_, h.sz, h.df.evo E1⟩
  · by_cases hlt : k < st.nx
    · exact hlt
    · exact absurd hk (h.n k (by omega))
  · rw [a0] at ht; exact (h.tm t v ht).evo E1
end Go.Sym
