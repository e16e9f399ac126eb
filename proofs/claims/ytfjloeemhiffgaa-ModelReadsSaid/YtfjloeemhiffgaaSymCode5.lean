/- DERIVED. Regions that draw their order, second part. -/
import Derived.Test.YtfjloeemhiffgaaSymCode4
set_option linter.unusedVariables false
set_option linter.unusedSimpArgs false
namespace Go.Sym
variable {F : Fence} {P : Program} {call : CallFn} {C : Cfg} {Γe Γ Δ : Cx} {N : Nat} {st st' : St} {a : Act}

theorem look_put_upd {α : Type} (l : List (Nat × α)) (n : Nat) (v : α) : look (put l n v) = upd (look l) n (some v) := by
  funext m
  rw [look_put]
  unfold upd
  by_cases h : n = m
  · rw [if_pos h, if_pos h.symm]
  · rw [if_neg h, if_neg (fun e => h e.symm)]

def wt (L : List Oper) (vs : Nat → V) (i : Nat) : List (Nat × V) :=
  match L[i]? with
  | some o => (match o.dst with | some d => [(d, vs i)] | none => [])
  | none => []

theorem wt_mem {L : List Oper} {vs : Nat → V} {i : Nat} {o : Oper} (ho : L[i]? = some o) {k : Nat} (h : k ∈ (wt L vs i).map (·.1)) : o.dst = some k := by
  unfold wt at h
  rw [ho] at h
  simp only at h
  cases hd : o.dst with
  | none => rw [hd] at h; simp at h
  | some d => rw [hd] at h; simp at h; rw [h]
theorem disjoint_iff {a b : List Nat} (h : disjoint a b = true) : ∀ x ∈ a, x ∉ b := by
  intro x hx hb
  simp only [disjoint, List.all_eq_true] at h
  have := h x hx
  simp at this
  exact this hb

/-- What is known of a region that draws its order. -/
structure Reg (N : Nat) (P : Program) (C : Cfg) (call : CallFn) (L : List Oper) (st st' : St) (l : List (List Nat × List Nat)) (sts : Nat → St) (vs : Nat → V) (wss : Nat → List (Nat × Ob)) (pairs : List (Nat × Nat)) : Prop where
  tr : Trace P C call L L st st' l sts vs wss
  reg : regionOk L pairs = true
  edges : edgesOk L = true
  dsts : dstsOk N L = true
  ok : (pairs.all fun p => pairOk l p.1 p.2) = true

section
variable {L : List Oper} {l : List (List Nat × List Nat)} {sts : Nat → St} {vs : Nat → V} {wss : Nat → List (Nat × Ob)} {pairs : List (Nat × Nat)}

theorem Reg.nx (R : Reg N P C call L st st' l sts vs wss pairs) : ∀ {i : Nat}, i ≤ L.length → (sts i).nx = st.nx + 4 * i := by
  intro i
  induction i with
  | zero => intro _; rw [R.tr.first]; omega
  | succ i ih =>
    intro hi
    obtain ⟨h1, _⟩ := R.tr.step i L[i] (List.getElem?_eq_getElem (by omega))
    rw [h1]
    simp only
    rw [ih (by omega)]
    omega

theorem Reg.fullT (R : Reg N P C call L st st' l sts vs wss pairs) : ∀ {i : Nat}, i ≤ L.length → acc (look st.tm) (wt L vs) (fun _ => true) i = look (sts i).tm := by
  intro i
  induction i with
  | zero => intro _; rw [R.tr.first]; rfl
  | succ i ih =>
    intro hi
    have ho : L[i]? = some L[i] := List.getElem?_eq_getElem (by omega)
    obtain ⟨h1, _⟩ := R.tr.step i L[i] ho
    rw [h1]
    simp only [acc, if_true]
    rw [ih (by omega)]
    unfold wt
    rw [ho]
    simp only
    cases hd : L[i].dst with
    | none => rfl
    | some d => simp only [putD, updA, look_put_upd]

theorem Reg.fullH (R : Reg N P C call L st st' l sts vs wss pairs) : ∀ {i : Nat}, i ≤ L.length → acc (look st.hp) wss (fun _ => true) i = look (sts i).hp := by
  intro i
  induction i with
  | zero => intro _; rw [R.tr.first]; rfl
  | succ i ih =>
    intro hi
    obtain ⟨h1, _⟩ := R.tr.step i L[i] (List.getElem?_eq_getElem (by omega))
    rw [h1]
    simp only [acc, if_true]
    rw [ih (by omega), look_puts, updA_upds]

theorem Reg.look_l (R : Reg N P C call L st st' l sts vs wss pairs) {i : Nat} {o : Oper} (ho : L[i]? = some o) : ∃ r, l.getD i ([], []) = (r, (wss i).map (·.1)) ∧
    ((wantedV L (sts i).tm o = some true ∧ stepD P C call o (sts i) = some (vs i, wss i) ∧ r = hreads o.op (ev (sts i).tm)) ∨ (wantedV L (sts i).tm o = some false ∧ vs i = .tup [] ∧ wss i = [] ∧ r = [])) := by
  obtain ⟨_, h | h⟩ := R.tr.step i o ho
  · obtain ⟨h1, h2, h3⟩ := h
    exact ⟨_, by rw [List.getD_eq_getElem?_getD, h3]; rfl, .inl ⟨h1, h2, rfl⟩⟩
  · obtain ⟨h1, h2, h3, h4⟩ := h
    exact ⟨[], by rw [List.getD_eq_getElem?_getD, h4, h3]; rfl, .inr ⟨h1, h2, h3, rfl⟩⟩

theorem Reg.pair (R : Reg N P C call L st st' l sts vs wss pairs) {i j : Nat} {oi oj : Oper} (hij : i < j) (hi : L[i]? = some oi) (hj : L[j]? = some oj) (hna : i ∉ (ahead L).getD j []) :
    tmpsApart L oi oj = true ∧ (∀ k ∈ (wss i).map (·.1), k ∉ (l.getD j ([], [])).1 ∧ k ∉ (wss j).map (·.1)) ∧ (∀ k ∈ (wss j).map (·.1), k ∉ (l.getD i ([], [])).1) := by
  have hjl : j < L.length := (List.getElem?_eq_some_iff.1 hj).1
  have h := R.reg
  simp only [regionOk, List.all_eq_true] at h
  have h := h j (by simpa using hjl) i (by simpa using hij)
  simp only [hi, hj, Bool.or_eq_true, Bool.and_eq_true] at h
  rcases h with h | ⟨h1, h2⟩
  · exact absurd (by simpa using h) hna
  refine ⟨h1, ?_⟩
  obtain ⟨ri, ei, ci⟩ := R.look_l hi
  obtain ⟨rj, ej, cj⟩ := R.look_l hj
  have ti : touch oi.op ≤ 1 → wss i = [] := by
    intro ht
    rcases ci with ⟨_, hs, _⟩ | ⟨_, _, hs, _⟩
    · exact (stepE_touch hs).1 ht
    · exact hs
  have tj : touch oj.op ≤ 1 → wss j = [] := by
    intro ht
    rcases cj with ⟨_, hs, _⟩ | ⟨_, _, hs, _⟩
    · exact (stepE_touch hs).1 ht
    · exact hs
  have ti0 : touch oi.op = 0 → ri = [] := by
    intro ht
    rcases ci with ⟨_, hs, hr⟩ | ⟨_, _, hs, hr⟩
    · rw [hr]; exact (stepE_touch hs).2 ht
    · exact hr
  have tj0 : touch oj.op = 0 → rj = [] := by
    intro ht
    rcases cj with ⟨_, hs, hr⟩ | ⟨_, _, hs, hr⟩
    · rw [hr]; exact (stepE_touch hs).2 ht
    · exact hr
  rw [ei, ej]
  rcases h2 with ((h2 | h2) | h2) | h2
  · have h2 : touch oi.op = 0 := by simpa using h2
    rw [ti (by omega), ti0 h2]; simp
  · have h2 : touch oj.op = 0 := by simpa using h2
    rw [tj (by omega), tj0 h2]; simp
  · have h2 : touch oi.op ≤ 1 ∧ touch oj.op ≤ 1 := by simpa using h2
    rw [ti h2.1, tj h2.2]; simp
  · have hp := List.all_eq_true.1 R.ok (i, j) (by simpa using h2)
    simp only [pairOk, Bool.and_eq_true] at hp
    rw [ei, ej] at hp
    obtain ⟨⟨p1, p2⟩, p3⟩ := hp
    exact ⟨fun k hk => ⟨disjoint_iff p1 k hk, disjoint_iff p2 k hk⟩, fun k hk => disjoint_iff p3 k hk⟩

theorem apart_inv {x y : Oper} (h : tmpsApart L x y = true) : (∀ d, x.dst = some d → d ∉ names L y ∧ y.dst ≠ some d) ∧ (∀ d, y.dst = some d → d ∉ names L x) := by
  simp only [tmpsApart, Bool.and_eq_true] at h
  obtain ⟨h1, h2⟩ := h
  constructor
  · intro d hd
    rw [hd] at h1
    simp at h1
    exact h1
  · intro d hd
    rw [hd] at h2
    simpa using h2

/-- The members of a set of operations have been carried out. -/
structure Inv (Γe : Cx) (N : Nat) (L : List Oper) (st : St) (vs : Nat → V) (wss : Nat → List (Nat × Ob)) (S : Nat → Bool) (a : Act) (Γ : Cx) : Prop where
  ok : HOk Γ
  hp : Γ.h = acc (look st.hp) wss S L.length
  n : ∀ k, Γ.n k → k < st.nx ∨ ∃ i, i < L.length ∧ S i = true ∧ st.nx + 4 * i ≤ k ∧ k < st.nx + 4 * i + 4
  gone : Evo Γe Γ
  tm : ∀ t v, acc (look st.tm) (wt L vs) S L.length t = some v → VR Γ v (a.tmps.getD t undef)
  sz : N ≤ a.tmps.size
  df : Marks Γe Γ a.defers

def Closed (L : List Oper) (S : Nat → Bool) : Prop := ∀ j, j < L.length → S j = true → ∀ i ∈ (ahead L).getD j [], S i = true

theorem Inv.toStR {S : Nat → Bool} (R : Reg N P C call L st st' l sts vs wss pairs) (I : Inv Γe N L st vs wss S a Γ) (hS : ∀ i, i < L.length → S i = true) : StR Γe N st' a Γ := by
  have e1 : acc (look st.hp) wss S L.length = look st'.hp := by
    rw [← R.tr.last, ← R.fullH (Nat.le_refl _)]
    funext k
    exact acc_agree fun i hi hne => absurd (hS i hi) hne
  have e2 : acc (look st.tm) (wt L vs) S L.length = look st'.tm := by
    rw [← R.tr.last, ← R.fullT (Nat.le_refl _)]
    funext k
    exact acc_agree fun i hi hne => absurd (hS i hi) hne
  refine ⟨I.ok, I.hp.trans e1, ?_, I.gone, fun t v h => I.tm t v (by rw [e2]; exact h), I.sz, I.df⟩
  intro k hk hn
  rw [← R.tr.last, R.nx (Nat.le_refl _)] at hk
  rcases I.n k hn with h | ⟨i, hi, _, h1, h2⟩
  · omega
  · omega

theorem Inv.step (hF : ∀ f, F.fn f) (hdep : F.depth = none) (hc : CallOk F P call) {ops : Array Oper} (hL : ∀ (j : Nat) (x : Oper), L[j]? = some x → ops[j]? = some x) {S S' : Nat → Bool} {i : Nat} (R : Reg N P C call L st st' l sts vs wss pairs) (I : Inv Γe N L st vs wss S a Γ)
    (hcl : Closed L S) (hil : i < L.length) (hiS : S i = false) (hah : ∀ k ∈ (ahead L).getD i [], S k = true) (hS' : S' i = true) (hSo : ∀ j, j ≠ i → S' j = S j) {n : Nat} {Q : Exit → Act → World → Prop} {K : Act → World → Prop}
    (hK : ∀ a' Δ, Inv Γe N L st vs wss S' a' Δ → K a' Δ.w) : wpOpIn F n P ops Q i K a Γ.w := by
  have ho : L[i]? = some L[i] := List.getElem?_eq_getElem hil
  generalize hoo : L[i] = o at ho
  -- others
  have before : ∀ j oj, j < i → L[j]? = some oj → S j = false → tmpsApart L oj o = true ∧ (∀ k ∈ (wss j).map (·.1), k ∉ (l.getD i ([], [])).1 ∧ k ∉ (wss i).map (·.1)) ∧ (∀ k ∈ (wss i).map (·.1), k ∉ (l.getD j ([], [])).1) := fun j oj hj hoj hs =>
    R.pair hj hoj ho fun hm => by rw [hah j hm] at hs; cases hs
  have after : ∀ j oj, i < j → L[j]? = some oj → S j = true → tmpsApart L o oj = true ∧ (∀ k ∈ (wss i).map (·.1), k ∉ (l.getD j ([], [])).1 ∧ k ∉ (wss j).map (·.1)) ∧ (∀ k ∈ (wss j).map (·.1), k ∉ (l.getD i ([], [])).1) := fun j oj hj hoj hs =>
    R.pair hj ho hoj fun hm => by
      have := hcl j (List.getElem?_eq_some_iff.1 hoj).1 hs i hm
      rw [hiS] at this; cases this
  have hTm : ∀ t ∈ names L o, acc (look st.tm) (wt L vs) S L.length t = look (sts i).tm t := by
    intro t ht
    rw [← R.fullT (by omega : i ≤ L.length), acc_stop (i := i) (by omega)]
    · refine acc_agree fun j hj hne hk => ?_
      have hjl : L[j]? = some L[j] := List.getElem?_eq_getElem (by omega)
      have hs : S j = false := by cases h : S j <;> simp_all
      exact ((apart_inv (before j _ hj hjl hs).1).1 t (wt_mem hjl hk)).1 ht
    · intro j h1 h2 hs hk
      have hjl : L[j]? = some L[j] := List.getElem?_eq_getElem (by omega)
      have hji : i ≠ j := fun e => by subst e; rw [hiS] at hs; cases hs
      exact (apart_inv (after j _ (by omega) hjl hs).1).2 t (wt_mem hjl hk) ht
  have hTv : ∀ t ∈ names L o, ∀ v, look (sts i).tm t = some v → VR Γ v (a.tmps.getD t undef) := fun t ht v hv => I.tm t v (by rw [hTm t ht]; exact hv)
  have hopi : ops[i]? = some o := hL i o ho
  have hdo : ∀ d, o.dst = some d → d < N := by
    intro d hdd
    have hd := R.dsts
    simp only [dstsOk, List.all_eq_true] at hd
    have := hd o (List.mem_of_getElem? ho)
    rw [hdd] at this
    simpa [Nat.blt_eq] using this
  -- what holds afterwards
  have fin : ∀ u Δ, Δ.h = upds Γ.h (wss i) → (∀ k, Δ.n k → more Γ.n (st.nx + 4 * i) k) → HOk Δ → Evo Γ Δ → VR Δ (vs i) u → Inv Γe N L st vs wss S' (a.put o.dst u) Δ := by
    intro u Δ hh hn' H E hv
    refine ⟨H, ?_, ?_, I.gone.trans E, ?_, ?_, ?_⟩
    · rw [hh, I.hp, updA_upds, acc_insert hil hiS hS' hSo]
      intro j h1 h2 hs k hk
      exact ((after j _ h1 (List.getElem?_eq_getElem h2) hs).2.1 k hk).2
    · intro k hk
      rcases hn' k hk with h | h
      · rcases I.n k h with h | ⟨j, hj, hs, h1, h2⟩
        · exact .inl h
        · refine .inr ⟨j, hj, ?_, h1, h2⟩
          by_cases hji : j = i
          · subst hji; exact hS'
          · rw [hSo j hji]; exact hs
      · exact .inr ⟨i, hil, hS', h.1, by omega⟩
    · intro t v ht
      rw [acc_insert (S := S) hil hiS hS' hSo] at ht
      · cases hd : o.dst with
        | none =>
          have : wt L vs i = [] := by unfold wt; rw [ho]; simp only [hd]
          rw [this] at ht
          exact (I.tm t v ht).evo E
        | some d =>
          have : wt L vs i = [(d, vs i)] := by unfold wt; rw [ho]; simp only [hd]
          rw [this] at ht
          simp only [updA, upd] at ht
          simp only [Act.put, getD_put (Nat.lt_of_lt_of_le (hdo d hd) I.sz)]
          by_cases hdt : d = t
          · rw [if_pos hdt.symm] at ht; rw [if_pos hdt]; cases ht; exact hv
          · rw [if_neg (fun e => hdt e.symm)] at ht; rw [if_neg hdt]; exact (I.tm t v ht).evo E
      · intro j h1 h2 hs k hk hk'
        have hjl : L[j]? = some L[j] := List.getElem?_eq_getElem h2
        exact ((apart_inv (after j _ h1 hjl hs).1).1 k (wt_mem ho hk)).2 (wt_mem hjl hk')
    · cases o.dst <;> simp [Act.put, I.sz]
    · have := I.df.evo E
      cases o.dst <;> exact this
  obtain ⟨r, er, cr⟩ := R.look_l ho
  have hwant : ∀ b, wantedV L (sts i).tm o = some b → Region.wanted o (yielded ops a.tmps) = b := by
    intro b hb
    have hb' : wantedV ops.toList (sts i).tm o = some b := by
      unfold wantedV at hb ⊢
      cases hg : o.guard with
      | none => rw [hg] at hb; exact hb
      | some p =>
        rw [hg] at hb
        simp only at hb ⊢
        cases hp : L[p.1]? with
        | none => rw [hp] at hb; cases hb
        | some x =>
          rw [hp] at hb
          rw [Array.getElem?_toList, hL _ _ hp]
          exact hb
    refine wantedV_ok (fun j d hj hd v hv => hTv d ?_ v hv) hb'
    cases hg : o.guard with
    | none => rw [hg] at hj; cases hj
    | some p =>
      rw [hg] at hj
      simp only [Option.map_some, Option.some.injEq] at hj
      subst hj
      unfold wantedV at hb
      rw [hg] at hb
      simp only at hb
      simp only [names, hg, List.mem_append]
      right
      cases hp : L[p.1]? with
      | none => rw [hp] at hb; cases hb
      | some x =>
        rw [hL _ _ hp] at hd
        rw [hd]
        simp
  unfold wpOpIn
  simp only [hopi]
  rcases cr with ⟨hw, hs, hr⟩ | ⟨hw, hv, hws, hr⟩
  · rw [hwant true hw]
    simp only [if_true]
    have hnx := R.nx (by omega : i ≤ L.length)
    unfold stepD at hs
    rw [hnx] at hs
    refine stepE_ok hF hdep hc I.ok ?_ ?_ ?_ hs n a K Q rfl ?_
    · intro k h1 h2 hk
      rcases I.n k hk with h | ⟨j, hj, hsj, h3, h4⟩
      · omega
      · have : i = j := by omega
        subst this; rw [hiS] at hsj; cases hsj
    · intro x hx
      cases x with
      | tmp t =>
        have htn : t ∈ names L o := by
          simp only [names, List.mem_append, List.mem_filterMap]
          exact .inl ⟨.tmp t, hx, rfl⟩
        simp only [ev, Act.eval]
        cases hl : look (sts i).tm t with
        | none => exact .junk _
        | some v => exact hTv t htn v hl
      | const v => exact VR_const Γ v
      | global g => exact .junk _
      | func f => exact .pure (.fnc f [] #[] rfl (by simp))
    · intro id hid
      rw [I.hp, ← R.fullH (by omega : i ≤ L.length)]
      have hid' : id ∈ (l.getD i ([], [])).1 := by rw [er, hr]; exact hid
      rw [acc_stop (S := S) (i := i) (by omega)]
      · refine (acc_agree fun j hj hne hk => ?_).symm
        have hjl : L[j]? = some L[j] := List.getElem?_eq_getElem (by omega)
        have hs : S j = false := by cases h : S j <;> simp_all
        exact ((before j _ hj hjl hs).2.1 id hk).1 hid'
      · intro j h1 h2 hs hk
        have hjl : L[j]? = some L[j] := List.getElem?_eq_getElem (by omega)
        have hji : i ≠ j := fun e => by subst e; rw [hiS] at hs; cases hs
        exact (after j _ (by omega) hjl hs).2.2 id hk hid'
    · intro u Δ hh hn' H E hv
      exact hK _ _ (fin u Δ hh (fun k hk => by rw [hn'] at hk; exact hk) H E hv)
  · rw [hwant false hw]
    simp only [Bool.false_eq_true, if_false]
    exact ⟨about_ok hF _, hK _ _ (fin undef Γ (by rw [hws]; rfl) (fun k hk => .inl hk) I.ok (Evo.refl Γ) (by rw [hv]; exact VR_undef Γ))⟩
end
end Go.Sym
