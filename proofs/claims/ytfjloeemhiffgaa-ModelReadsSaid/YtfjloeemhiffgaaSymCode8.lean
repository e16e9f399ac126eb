/- DERIVED. Rows that grow from nil; the head of a loop. -/
import Derived.Test.YtfjloeemhiffgaaSymCode7
set_option linter.unusedVariables false
set_option linter.unusedSimpArgs false
namespace Go.Sym
variable {Γe Γ Δ : Cx} {N : Nat} {st st' : St} {a : Act}

/-- What a variable holds is told in another way. -/
theorem step_revar {Γ : Cx} (H : HOk Γ) {id : Nat} {cs cs' : List V} (e0 : Γ.h id = some (.var cs)) (hl : cs'.length = cs.length)
    (hv : ∀ (b : Nat) (c : Array Value) (E : TypeId) (z : Nat × Nat) (j : Nat) (x : V) (u : Value), Γ.ρ id = some (b, 0) → Γ.w.heap[b]? = some (.cells c E z) → cs'[j]? = some x → c[j]? = some u → (∀ y, cs[j]? = some y → VR Γ y u) → VR Γ x u) :
    HOk { Γ with h := upd Γ.h id (some (.var cs')) } ∧ Evo Γ { Γ with h := upd Γ.h id (some (.var cs')) } := by
  have hlive : ∀ i, live (upd Γ.h id (some (.var cs'))) i → live Γ.h i := by
    rintro i ⟨o, e, h⟩
    by_cases hi : i = id
    · subst hi; exact live_var e0
    · rw [upd_other _ _ hi] at e; exact ⟨o, e, h⟩
  have EV : Evo Γ { Γ with h := upd Γ.h id (some (.var cs')) } := by
    refine ⟨fun _ h => h, fun i _ h => ⟨hlive i h, rfl⟩, ?_, ?_, ?_, (fun i t e r s1 _ h => by
        by_cases hi : i = id
        · subst hi; simp [upd] at h
        · simp only [upd_other _ _ hi] at h; exact ⟨r, s1, h⟩), (fun i o _ h => by
        by_cases hi : i = id
        · subst hi; simp [upd] at h
        · simp only [upd_other _ _ hi] at h; exact ⟨o, h⟩), fun _ r h => ⟨r, h, .refl r⟩, fun _ _ _ c E z _ _ _ h => ⟨c, E, z, h, rfl⟩, fun _ _ h => ⟨h, rfl⟩, fun _ _ h => .inl h, fun k _ hno => ⟨rfl, fun i base h => hno i base (hlive i h)⟩, Nat.le_refl _, rfl, rfl, rfl⟩
    · intro i cs1 _ e
      by_cases hi : i = id
      · subst hi; simp only [upd_same, Option.some.injEq, Ob.var.injEq] at e; subst e; exact ⟨cs, e0, hl.symm⟩
      · simp only [upd_other _ _ hi] at e; exact ⟨cs1, e, rfl⟩
    · intro i fz s xs _ e
      by_cases hi : i = id
      · subst hi; simp at e
      · simp only [upd_other _ _ hi] at e; exact ⟨fz, xs, e, rfl⟩
    · intro i s fc c1 tm _ e
      by_cases hi : i = id
      · subst hi; simp at e
      · simp only [upd_other _ _ hi] at e; exact ⟨s, tm, e⟩
  have hB : ∀ i, isB (upd Γ.h id (some (.var cs'))) i → i ≠ id ∧ isB Γ.h i := by
    rintro i (⟨t, e', r, s', e⟩ | ⟨o, e⟩)
    all_goals
      by_cases hi : i = id
      · subst hi; simp [upd] at e
      · rw [upd_other _ _ hi] at e; first | exact ⟨hi, .inl ⟨_, _, _, _, e⟩⟩ | exact ⟨hi, .inr ⟨_, e⟩⟩
  refine ⟨H.step EV ?_ ?_ ?_ (fun i t e r s1 hb hr => by
      obtain ⟨hi, hbi⟩ := hB i (.inl ⟨_, _, _, _, hb⟩)
      obtain ⟨hj, hbj⟩ := hB r (.inr ⟨_, hr⟩)
      simp only [upd_other _ _ hi] at hb
      simp only [upd_other _ _ hj] at hr
      exact .inl ⟨H.lt i hbi.live, H.lt r hbj.live, hb, hr, fun _ _ _ => rfl, fun _ _ _ => rfl⟩) (fun i hb => .inl (H.lt i (hB i hb).2.live)) (fun i j b bi bj hi hj => H.inj i j b bi bj (hlive i hi) (hlive j hj)) (fun i hi => H.lt i (hlive i hi)) ?_, EV⟩
  · intro i cs1 e
    by_cases hi : i = id
    · subst hi
      simp only [upd_same, Option.some.injEq, Ob.var.injEq] at e
      subst e
      obtain ⟨b, c, E, z, hr, hb, hz, hs, h1, hx⟩ := H.var _ cs e0
      exact .inr ⟨b, c, E, z, hr, hb, hz, by omega, h1, fun j x u hj hu => (hv b c E z j x u hr hb hj hu (fun y hy => hx j y u hy hu)).evo EV⟩
    · simp only [upd_other _ _ hi] at e; exact .inl ⟨H.lt i (live_var e), e, fun _ _ _ => rfl⟩
  · intro i fz s xs e
    by_cases hi : i = id
    · subst hi; simp at e
    · simp only [upd_other _ _ hi] at e; exact .inl ⟨H.lt i (live_row e), ⟨fz, e⟩, fun _ _ _ => rfl⟩
  · intro i s fc c1 tm e
    by_cases hi : i = id
    · subst hi; simp at e
    · simp only [upd_other _ _ hi] at e; exact .inl ⟨H.lt i (live_loop e), e, fun _ _ _ => rfl⟩
  · intro b o hz
    obtain ⟨h1, h2⟩ := H.z b o hz
    refine ⟨h1, fun i base hli hr => ?_⟩
    obtain ⟨s, xs, e, ho⟩ := h2 i base (hlive i hli) hr
    by_cases hi : i = id
    · subst hi; rw [e0] at e; cases e
    · exact ⟨s, xs, by simp only [upd_other _ _ hi]; exact e, ho⟩

/-- An empty slice without spare places is a row that has nothing yet. -/
theorem VR_empty {Γ Δ : Cx} {nl : Option Bool} {s s' id : Nat} {u : Value} (h : VR Γ (.sl nl true s []) u) (hn : Δ.n id) (hid : ∀ fz s xs, Δ.h id = some (.row fz s xs) → xs = []) : VR Δ (.ref id) u := by
  have := h.sl_inv
  cases this with
  | sl _ _ _ _ a cap hc hclip ht hf hnn hs hsp hx he hv =>
    have hcap : cap = 0 := hclip rfl
    subst hcap
    refine .ref id _ rfl hn fun fz s2 xs2 e => ?_
    obtain rfl := hid fz s2 xs2 e
    exact ⟨a, 0, rfl, Nat.le_refl _, hsp, fun h => absurd h (Nat.lt_irrefl 0)⟩

theorem look_putO (l : List (Nat × Ob)) (n : Nat) (v : Ob) : look (put l n v) = upd (look l) n (some v) := look_put_upd l n v

theorem accs_ok : ∀ (l : List (Nat × Nat)) {st : St} {Γ : Cx}, StR Γe N st a Γ → ∃ Γ', Γ'.w = Γ.w ∧ StR Γe N (accs l st) a Γ' := by
  intro l
  induction l with
  | nil => intro st Γ h; exact ⟨Γ, rfl, h⟩
  | cons p r ih =>
    intro st Γ h
    have hvirt := step_virtual h.ok st.nx (p.2 % 1000) (fun k => Γ.n k ∨ k = st.nx) false (h.n _ (Nat.le_refl _)) ⟨fun i hi => .inl hi, .inr rfl⟩
    obtain ⟨H1, E1⟩ := hvirt
    simp only [accs]
    split
    · rename_i nl s hlk
      have h' : StR Γe N { tm := put st.tm p.1 (.ref st.nx), hp := put st.hp st.nx (.row false (p.2 % 1000) []), nx := st.nx + 1 } a { Γ with ρ := upd Γ.ρ st.nx none, h := upd Γ.h st.nx (some (.row false (p.2 % 1000) [])), n := fun k => Γ.n k ∨ k = st.nx } := by
        refine ⟨H1, by rw [look_putO, h.hp], fun k hk => ?_, h.gone.trans E1, fun t v hv => ?_, h.sz, h.df.evo E1⟩
        · rintro (hk' | hk')
          · exact h.n k (by simp only at hk; omega) hk'
          · simp only at hk; omega
        · simp only [look_put] at hv
          by_cases ht : p.1 = t
          · rw [if_pos ht] at hv
            cases hv
            subst ht
            exact VR_empty (s' := s) (h.tm p.1 _ hlk) (.inr rfl) fun fz s xs e => by simp at e; exact e.2.2
          · rw [if_neg ht] at hv
            exact (h.tm t v hv).evo E1
      obtain ⟨Γ', hw, hΓ'⟩ := ih h'
      exact ⟨Γ', hw, hΓ'⟩
    · rename_i id hlk
      split
      · rename_i s xs hid
        have hid0 : Γ.h id = some (.row false s xs) := by rw [h.hp]; exact hid
        obtain ⟨H2, E2⟩ := step_shrink (id' := st.nx) (m := fun k => Γ.n k ∨ k = st.nx) h.ok hid0 (h.n _ (Nat.le_refl _)) ⟨fun i hi => .inl hi, .inr rfl⟩
        have h' : StR Γe N { tm := put st.tm p.1 (.ref st.nx), hp := put (put st.hp id .dead) st.nx (.row false s []), nx := st.nx + 1 } a (Γ.shrink id st.nx (.row false s []) (fun k => Γ.n k ∨ k = st.nx)) := by
          refine ⟨H2, by simp only [Cx.shrink]; rw [look_putO, look_putO, h.hp], fun k hk => ?_, h.gone.trans E2, fun t v hv => ?_, h.sz, h.df.evo E2⟩
          · rintro (hk' | hk')
            · exact h.n k (by simp only at hk; omega) hk'
            · simp only at hk; omega
          · simp only [look_put] at hv
            by_cases ht : p.1 = t
            · rw [if_pos ht] at hv
              cases hv
              subst ht
              have hs := h.tm p.1 _ hlk
              obtain ⟨ho1, hin, hr⟩ := hs.sub_inv
              obtain ⟨_, a0, cap, hu, hle, hspot, hca⟩ := hr false s xs hid0
              refine .ref st.nx _ ho1 (.inr rfl) fun fz s2 xs2 e => ?_
              simp only [Cx.shrink, upd_same, Option.some.injEq, Ob.row.injEq] at e
              obtain ⟨_, rfl, rfl⟩ := e
              refine ⟨a0, cap, hu, Nat.zero_le _, hspot, fun hc => ?_⟩
              obtain ⟨b, base, c, E, z, hρ, ha, hb, hcs⟩ := hca hc
              exact ⟨b, base, c, E, z, by simp only [Cx.shrink, upd_same]; exact hρ, ha, hb, hcs⟩
            · rw [if_neg ht] at hv
              exact (h.tm t v hv).evo E2
        obtain ⟨Γ', hw, hΓ'⟩ := ih h'
        exact ⟨Γ', hw, hΓ'⟩
      · exact ih h
    · rename_i id hlk
      split
      · rename_i cs hid
        split
        · rename_i nl s hcs
          have hid0 : Γ.h id = some (.var cs) := by rw [h.hp]; exact hid
          have hne : id ≠ st.nx := fun e => h.n st.nx (Nat.le_refl _) (e ▸ h.ok.lt id (live_var hid0))
          have hlt := (List.getElem?_eq_some_iff.1 hcs).1
          obtain ⟨H2, E2⟩ := step_revar (cs := cs) (cs' := cs.set (p.2 / 1000) (.ref st.nx)) H1 (id := id) (by simp only [upd_other _ _ hne]; exact hid0) (by simp) (by
            intro b c E z j x u hr hb hx hu hy
            by_cases hj : p.2 / 1000 = j
            · subst hj
              rw [List.getElem?_set_self hlt] at hx
              cases hx
              exact VR_empty (s' := s) (hy _ hcs) (.inr rfl) fun fz s xs e => by simp at e; exact e.2.2
            · rw [List.getElem?_set_ne hj] at hx
              exact hy x hx)
          have h' : StR Γe N { tm := st.tm, hp := put (put st.hp st.nx (.row false (p.2 % 1000) [])) id (.var (cs.set (p.2 / 1000) (.ref st.nx))), nx := st.nx + 1 } a
              { Γ with ρ := upd Γ.ρ st.nx none, h := upd (upd Γ.h st.nx (some (.row false (p.2 % 1000) []))) id (some (.var (cs.set (p.2 / 1000) (.ref st.nx)))), n := fun k => Γ.n k ∨ k = st.nx } := by
            refine ⟨H2, by rw [look_putO, look_putO, h.hp], fun k hk => ?_, (h.gone.trans E1).trans E2, fun t v hv => ((h.tm t v hv).evo E1).evo E2, h.sz, (h.df.evo E1).evo E2⟩
            rintro (hk' | hk')
            · exact h.n k (by simp only at hk; omega) hk'
            · simp only at hk; omega
          obtain ⟨Γ', hw, hΓ'⟩ := ih h'
          exact ⟨Γ', hw, hΓ'⟩
        · exact ih h
      · exact ih h
    · exact ih h

theorem head_ok (h : StR Γe N st a Γ) {n0 : Nat} (hn : ∀ k, n0 ≤ k → ¬ Γe.n k) (slots : List Nat) (acc : List (Nat × Nat)) : ∃ Γ', Γ'.w = Γ.w ∧ StR Γe N (head n0 slots acc st) a Γ' := by
  obtain ⟨Γ1, hw1, h1⟩ := accs_ok acc (h.restrict slots)
  obtain ⟨Γ2, hw2, h2⟩ := gc_ok h1 n0 hn
  exact ⟨Γ2, hw2.trans hw1, h2⟩
end Go.Sym
