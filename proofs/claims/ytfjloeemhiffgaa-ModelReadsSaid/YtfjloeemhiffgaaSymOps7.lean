/- DERIVED. The operations, seventh part: append; slices that are made and written out; all of them together. -/
import Derived.Test.YtfjloeemhiffgaaSymOps6
set_option linter.unusedVariables false
set_option linter.unusedSimpArgs false
namespace Go.Sym
variable {P : Program} {o : Oper} {α : Operand → Value} {e : Operand → V} {Γ : Cx} {b : Nat}

theorem grow_row (H : HOk Γ) (hb : Fresh Γ.n b) (fz : Bool) {s : Nat} (hs : 0 < s) {xs ys : List V} {old new : Array Value} (ho : RowE Γ.w Γ.Z s xs old) (hn : RowE Γ.w Γ.Z s ys new)
    {zero : Array Value} (hz1 : ∀ (i : Nat) (u : Value), zero[i]? = some u → u.oneCell = true) (hzs : zero.size = s) (el : TypeId) {cap need : Nat} (hneed : need = xs.length + ys.length) (hcap : need ≤ cap) :
    ∃ Δ : Cx, Δ.w = Γ.w.drew.alloc (.cells (old ++ new ++ Builtin.zeroCells zero (cap - need)) el) ∧ Δ.h = upd Γ.h b (some (.row fz s (xs ++ ys))) ∧ Δ.n = more Γ.n b ∧ HOk Δ ∧ Evo Γ Δ ∧
      VR Δ (.ref b) (.slice (some ⟨Γ.w.heap.size, 0, none⟩) need cap) := by
  obtain ⟨H1, E1⟩ := step_same H Γ.w.drew Γ.n rfl rfl rfl rfl (fun _ h => h)
  have hz : ∀ b o, Γ.Z b o → Γ.Z b o ∧ Γ.w.drew.cell? ⟨b, o, none⟩ = Γ.w.cell? ⟨b, o, none⟩ := fun b o h => ⟨h, rfl⟩
  have hE := ho.append hn
  have hE' : RowE Γ.w.drew Γ.Z s (xs ++ ys) (old ++ new) := ⟨hE.1, hE.2.1, hE.2.2.1, fun i x j y u hx hy hu => (hE.2.2.2 i x j y u hx hy hu).evo hz⟩
  have hC := hE'.toC hs (fun j u hu => zeroCells_one hz1 (cap - need) j u hu)
  have hsize : (old ++ new ++ Builtin.zeroCells zero (cap - need)).size = cap * s := by
    have h1 : (old ++ new).size = need * s := by rw [hE.1, List.length_append, ← hneed]
    rw [Array.size_append, h1, zeroCells_size, hzs, ← Nat.add_mul]; congr 1; omega
  obtain ⟨Δ, hw, hh, hn', hok, hev, hvr⟩ := new_row (b := b) H1 hb fz hC el (0, 0) (fun o _ h => by simp only at h; omega) (cap := cap) (by rw [List.length_append]; omega) (by omega)
  refine ⟨Δ, hw, hh, hn', hok, E1.trans hev, ?_⟩
  rw [hneed, ← List.length_append]; exact hvr

theorem setBlk_self {w : World} {b : Nat} {o : Obj} (h : w.heap[b]? = some o) : setBlk w b o = w := by
  have : w.heap.setIfInBounds b o = w.heap := by
    apply Array.ext_getElem?
    intro k
    by_cases hk : b = k
    · subst hk
      rw [h]
      simp [(Array.getElem?_eq_some_iff.1 h).1]
    · rw [Array.getElem?_setIfInBounds_ne hk]
  unfold setBlk; rw [this]

/-- What comes in by an append. -/
theorem src_any (H : HOk Γ) (he : ∀ x, VR Γ (e x) (α x)) {y : Operand} {sz : Nat} {ys : List V}
    (h : (∃ s, e y = .str s ∧ sz = 1 ∧ ys = s.map fun c => V.int .u8 c.toNat) ∨ (∃ s, elems Γ.h (e y) = some (s, ys) ∧ (s = sz ∨ ys = []))) :
    (∀ w', (Builtin.lenOf (α y)).run P w' = .ok ys.length w') ∧ ∃ new, (∀ w' : World, w'.heap = Γ.w.heap → (Builtin.firstCells sz ys.length (α y)).run P w' = .ok new w') ∧ RowE Γ.w Γ.Z sz ys new := by
  rcases h with ⟨s, hy, rfl, rfl⟩ | ⟨s, hy, hs⟩
  · have hv := he y
    rw [hy] at hv
    obtain ⟨bs, hα, hbs⟩ := hv.str_inv
    have hlen : bs.size = s.length := by rw [← hbs, Array.length_toList]; rfl
    refine ⟨fun w' => by simp [hα, Builtin.lenOf, hlen], bs.data.map (fun c => Value.int .u8 c.toNat), fun w' _ => ?_, ?_, ?_, ?_, ?_⟩
    · simp [hα, Builtin.firstCells]
      exact .inr (by omega)
    · simp [← hbs]
    · intro j u hu
      simp only [Array.getElem?_map, Option.map_eq_some_iff] at hu
      obtain ⟨_, _, rfl⟩ := hu; rfl
    · intro i x hx
      simp only [List.getElem?_map, Option.map_eq_some_iff] at hx
      obtain ⟨_, _, rfl⟩ := hx; rfl
    · intro i x j y u hx hy hu
      simp only [List.getElem?_map, Option.map_eq_some_iff] at hx
      obtain ⟨x0, hx0, rfl⟩ := hx
      cases j with
      | zero =>
        simp [V.cells] at hy
        subst hy
        rw [Nat.mul_one, Nat.add_zero, Array.getElem?_map, ← Array.getElem?_toList, hbs, hx0] at hu
        cases hu; exact .int _ _
      | succ j => simp [V.cells] at hy
  · obtain ⟨a, cap, hα, arr, hrun, hE⟩ := src_cells (P := P) H (he y) hy hs
    exact ⟨fun w' => by simp [hα, Builtin.lenOf], arr, hrun, hE⟩

theorem upds_append (l1 : List (Nat × Ob)) : ∀ (h : Nat → Option Ob) (l2 : List (Nat × Ob)), upds h (l1 ++ l2) = upds (upds h l1) l2 := by
  induction l1 with
  | nil => intro h l2; rfl
  | cons a r ih => intro h l2; simp only [List.cons_append, upds]; exact ih _ l2

theorem append_sound (H : HOk Γ) (hb : Fresh Γ.n b) (he : ∀ x, VR Γ (e x) (α x)) {args : Array Operand} {tys : Array TypeId} (ho : o.op = .call { callee := .builtin .append, args := args, argTypes := tys })
    {x y : Operand} (ha : args = #[x, y]) {t ut el : TypeId} (hty : tys = #[t, ut]) {d : TypeDesc} (ht : P.underlying t = some (.slice el)) (hu : P.underlying ut = some d) (hd : ∀ k, d ≠ .int k)
    {z : V} (hz : tzero P el = some z) (hzs : solid z = true) (hzl : z.cells.length = tsize P el) {ys : List V}
    (hsrc : (∃ s, e y = .str s ∧ tsize P el = 1 ∧ ys = s.map fun c => V.int .u8 c.toNat) ∨ (∃ s, elems Γ.h (e y) = some (s, ys) ∧ (s = tsize P el ∨ ys = [])))
    {v : V} {ws : List (Nat × Ob)} (h : appendV Γ.h b (tsize P el) (tbytes P el) (e x) ys = some (v, ws)) : OpOk P o α Γ b v ws := by
  obtain ⟨i, zv, hi, hzv, rfl, _⟩ := tzero_inv (w := Γ.w) hz
  obtain ⟨hn, new, hnew, hE⟩ := src_any (P := P) H he hsrc
  obtain ⟨hzc, hz1, _⟩ := (VR_const Γ zv).cells hzs
  have hzsize : zv.cells.size = tsize P el := by omega
  have hx := he x
  have hexec : ∀ (base : Option Addr) (sLen sCap : Nat), α x = .slice base sLen sCap → ∀ u w', (Builtin.append_ tys o.type #[.slice base sLen sCap, α y]).run P Γ.w = .ok u w' → (execOp α o).run P Γ.w = .ok (.value u) w' := by
    intro base sLen sCap hα u w' hr
    obtain ⟨consts, hexb⟩ := exec_builtin (P := P) (α := α) ho Γ.w
    rw [hexb]
    simp [builtin, ha, hα, hr]
  have hgrown : ∀ (w : World) (need old : Nat), need ≤ grownCap w need old el := by intro w need old; simp [grownCap, Question.cut]
  unfold appendV at h
  split at h
  · -- an empty slice without room
    rename_i nl s hex
    rw [guardP_some] at h
    obtain ⟨⟨hsz, hby, hlen⟩, hh⟩ := h
    cases hh
    rw [hex] at hx
    have hp := hx.sl_inv
    generalize hα : α x = u0 at hp
    cases hp with
    | sl _ _ _ _ a cap hc hclip hnt hnf hnn hs0 hspot hxl hee hvv =>
      have hcap : cap = 0 := hclip rfl
      subst hcap
      have hold : ∀ w' : World, w'.heap = Γ.w.heap → (Builtin.firstCells (tsize P el) 0 (.slice a 0 0)).run P w' = .ok #[] w' := by
        intro w' _; cases a <;> simp [Builtin.firstCells, loadCells, loadCellsFrom]
      have hrun := run_append (P := P) (ty := o.type) hty ht hu hd hsz hby hi hzv (base := a) (sLen := 0) (sCap := 0) (w := Γ.w) (hn Γ.w) hnew hold (by omega)
      by_cases hy0 : ys.length = 0
      · have hys : ys = [] := List.length_eq_zero_iff.1 hy0
        subst hys
        have hnew0 : new = #[] := by apply Array.eq_empty_of_size_eq_zero; simpa using hE.1
        subst hnew0
        rw [if_pos (by simp)] at hrun
        have hrun' : (Builtin.append_ tys o.type #[.slice a 0 0, α y]).run P Γ.w = .ok (.slice a 0 0) Γ.w := by
          rw [hrun]; cases a <;> simp [storeCells, Result.andThen]
        obtain ⟨H1, E1⟩ := step_virtual H b (tsize P el) (more Γ.n b) false hb.at ⟨more_of, more_at _ _⟩
        refine ⟨_, { Γ with ρ := upd Γ.ρ b none, h := upd Γ.h b (some (.row false (tsize P el) [])), n := more Γ.n b }, .inl (hexec a 0 0 (by simpa using hα) _ _ hrun'), rfl, rfl, H1, E1, .ref b _ rfl (more_at _ _) fun fz s xs hid => ?_⟩
        simp only [upd_same, Option.some.injEq, Ob.row.injEq] at hid
        obtain ⟨_, _, rfl⟩ := hid
        exact ⟨a, 0, rfl, Nat.le_refl _, hspot, fun h => absurd h (by omega)⟩
      · rw [if_neg (by omega)] at hrun
        obtain ⟨Δ, hw, hh, hn', hok, hev, hvr⟩ := grow_row H hb false hsz (RowE.nil _ _ _) hE hz1 hzsize el (need := 0 + ys.length) (by simp) (hgrown Γ.w (0 + ys.length) 0)
        refine ⟨_, Δ, .inl (hexec a 0 0 (by simpa using hα) _ _ (by rw [hrun, hw])), ?_, hn', hok, hev, hvr⟩
        rw [hh]; rfl
  · -- a slice without room that has elements
    rename_i nl s x0 xs hex
    split at h
    · cases h
    · rename_i y0 ys'
      rw [guardP_some] at h
      obtain ⟨⟨hss, hsz, hby, hlen⟩, hh⟩ := h
      cases hh
      rw [hex] at hx
      have hp := hx.sl_inv
      obtain ⟨a, cap, hα, old, hold, hEo⟩ := src_cells (P := P) H hx (s := s) (ys := x0 :: xs) rfl (.inl hss)
      rw [hα] at hp
      have hcap : cap = (x0 :: xs).length := by cases hp with | sl _ _ _ _ _ _ hc hclip => exact hclip rfl
      have hrun := run_append (P := P) (ty := o.type) hty ht hu hd hsz hby hi hzv (base := a) (sLen := (x0 :: xs).length) (sCap := cap) (w := Γ.w) (hn Γ.w) hnew (fun w' hw' => by rw [← hα]; exact hold w' hw') hlen
      rw [if_neg (by rw [hcap]; simp only [List.length_cons]; omega)] at hrun
      obtain ⟨Δ, hw, hh, hn', hok, hev, hvr⟩ := grow_row H hb false hsz hEo hE hz1 hzsize el rfl (hgrown Γ.w ((x0 :: xs).length + (y0 :: ys').length) cap)
      refine ⟨_, Δ, .inl (hexec a _ cap hα _ _ (by rw [hrun, hw])), ?_, hn', hok, hev, hvr⟩
      rw [hh]; rfl
  · -- a row of the call's own
    rename_i id hex
    split at h
    · rename_i fz s xs hid
      rw [guardP_some] at h
      obtain ⟨⟨hss, hsz, hby, hlen⟩, hh⟩ := h
      cases hh
      rw [hex] at hx
      obtain ⟨_, hidn, hr0⟩ := hx.ref_inv
      obtain ⟨a, cap, hα, hle, hspot, hca⟩ := hr0 fz s xs hid
      obtain ⟨a', cap', hα', old, hold, hEo⟩ := src_cells (P := P) H hx (s := s) (ys := xs) (by simp [elems, hid]) (.inl hss)
      rw [hα] at hα'; cases hα'
      have hrun := run_append (P := P) (ty := o.type) hty ht hu hd hsz hby hi hzv (base := a) (sLen := xs.length) (sCap := cap) (w := Γ.w) (hn Γ.w) hnew (fun w' hw' => by rw [← hα]; exact hold w' hw') hlen
      by_cases hfit : xs.length + ys.length ≤ cap
      · rw [if_pos hfit] at hrun
        by_cases hc0 : cap = 0
        · -- nothing comes to nothing
          subst hc0
          have hx0 : xs = [] := List.length_eq_zero_iff.1 (by omega)
          have hy0 : ys = [] := List.length_eq_zero_iff.1 (by omega)
          subst hx0 hy0
          have hnew0 : new = #[] := by apply Array.eq_empty_of_size_eq_zero; simpa using hE.1
          subst hnew0
          have hrun' : (Builtin.append_ tys o.type #[.slice a 0 0, α y]).run P Γ.w = .ok (.slice a 0 0) Γ.w := by
            have := hrun
            simp only [List.length_nil, Nat.add_zero] at this
            rw [this]; cases a <;> simp [storeCells, Result.andThen]
          obtain ⟨H1, E1⟩ := step_kill H id
          obtain ⟨H2, E2⟩ := step_virtual H1 b (tsize P el) (more Γ.n b) fz hb.at ⟨more_of, more_at _ _⟩
          refine ⟨_, { Γ with ρ := upd Γ.ρ b none, h := upd (upd Γ.h id (some .dead)) b (some (.row fz (tsize P el) [])), n := more Γ.n b }, .inl (hexec a 0 0 (by simpa using hα) _ _ hrun'), ?_, rfl, H2, E1.trans E2, .ref b _ rfl (more_at _ _) fun fz s xs hid => ?_⟩
          · simp [upds]
          · simp only [upd_same, Option.some.injEq, Ob.row.injEq] at hid
            obtain ⟨_, _, rfl⟩ := hid
            exact ⟨a, 0, rfl, Nat.le_refl _, hspot, fun h => absurd h (by omega)⟩
        · -- in its place
          obtain ⟨b0, base, c, E, zz, hρ, ha', hbl, hcs⟩ := hca (by omega)
          subst ha'
          rcases H.row id fz s xs hid with ⟨hnn, _⟩ | ⟨b1, base1, c1, E1, z1, hr1, hb1, hz1', h0, hsz1, h11, hl1, hv1⟩
          · rw [hρ] at hnn; cases hnn
          rw [hρ] at hr1; cases hr1
          rw [hbl] at hb1; cases hb1
          subst hss
          have hnl : new.toList.length = ys.length * tsize P el := by rw [Array.length_toList]; exact hE.1
          have hroom : base + xs.length * tsize P el + ys.length * tsize P el ≤ c.size := by
            have h1 : (xs.length + ys.length) * tsize P el ≤ cap * tsize P el := Nat.mul_le_mul_right _ hfit
            rw [Nat.add_mul] at h1
            have h2 := hcs
            rw [Nat.zero_add] at h2
            omega
          have hst := run_storeCells P b0 E zz new.toList Γ.w c (base + 0 * tsize P el + xs.length * tsize P el) 0 hbl (fun o ho => hz1' o (by omega)) (by rw [hnl]; omega) (fun u hu => by
            obtain ⟨k, hk, rfl⟩ := List.getElem_of_mem hu
            exact hE.2.1 k _ (by rw [← Array.getElem?_toList]; exact List.getElem?_eq_getElem hk))
          have hst' : (storeCells ((⟨b0, base + 0 * tsize P el, none⟩ : Addr).add (xs.length * tsize P el)) new.toList).run P Γ.w = .ok () (setBlk Γ.w b0 (.cells (wr c (base + xs.length * tsize P el) new.toList) E zz)) := by
            rw [add_none, hst]
            congr 1
            by_cases hnn : new.toList = []
            · rw [if_pos hnn, hnn]; exact (setBlk_self hbl).symm
            · rw [if_neg hnn]; simp
          have hwr : ∀ k, (wr c (base + xs.length * tsize P el) new.toList)[k]? = if base + xs.length * tsize P el ≤ k ∧ k < base + xs.length * tsize P el + ys.length * tsize P el then new[k - (base + xs.length * tsize P el)]? else c[k]? := by
            intro k
            rw [wr_get _ _ _ _ (by rw [hnl]; omega), hnl]
            simp
          have hzk : ∀ k, k < base + xs.length * tsize P el → (wr c (base + xs.length * tsize P el) new.toList)[k]? = c[k]? := by
            intro k hk; rw [hwr, if_neg (by omega)]
          have hVPz : ∀ b' o', Γ.Z b' o' → Γ.Z b' o' ∧ (setBlk Γ.w b0 (.cells (wr c (base + xs.length * tsize P el) new.toList) E zz)).cell? ⟨b', o', none⟩ = Γ.w.cell? ⟨b', o', none⟩ := by
            intro b' o' hZ
            refine ⟨hZ, ?_⟩
            by_cases hk : b' = b0
            · subst hk
              obtain ⟨s', xs', e', ho'⟩ := (H.z _ o' hZ).2 id base (live_row hid) hρ
              rw [hid] at e'; cases e'
              simp only [World.cell?, setBlk_same (Array.getElem?_eq_some_iff.1 hbl).1, hbl]
              simp [hzk o' ho']
            · exact cell_of_block (setBlk_other hk)
          obtain ⟨H2, E2⟩ := step_grow (id' := b) (m := more Γ.n b) (ys := ys) H hid hρ hbl (wr_size new.toList c (base + xs.length * tsize P el)) hzk hb.at ⟨more_of, more_at _ _⟩ (by
            refine .inr ⟨b0, base, wr c (base + xs.length * tsize P el) new.toList, E, zz, by simp [Cx.grow], setBlk_same (Array.getElem?_eq_some_iff.1 hbl).1, by rw [wr_size]; exact hz1', hsz, ?_, ?_, ?_, ?_⟩
            · rw [wr_size, List.length_append, Nat.add_mul]; omega
            · intro j u hu
              rw [hwr] at hu
              split at hu
              · exact hE.2.1 _ u hu
              · exact h11 _ u hu
            · intro k x hx
              rw [List.getElem?_append] at hx
              split at hx
              · exact hl1 _ x hx
              · exact hE.2.2.1 _ x hx
            · intro k x j yv u hx hy hu
              have hj : j < tsize P el := by
                have hlt := (List.getElem?_eq_some_iff.1 hy).1
                rw [List.getElem?_append] at hx
                split at hx
                · rw [hl1 _ x hx] at hlt; exact hlt
                · rw [hE.2.2.1 _ x hx] at hlt; exact hlt
              rw [hwr] at hu
              rw [List.getElem?_append] at hx
              split at hx
              · rename_i hk
                have : (k + 1) * tsize P el ≤ xs.length * tsize P el := Nat.mul_le_mul_right _ hk
                rw [Nat.add_mul, Nat.one_mul] at this
                rw [if_neg (by omega)] at hu
                exact (hv1 k x j yv u hx hy hu).evo hVPz
              · rename_i hk
                have hk2 := (List.getElem?_eq_some_iff.1 hx).1
                have e1 : k * tsize P el = xs.length * tsize P el + (k - xs.length) * tsize P el := by rw [← Nat.add_mul]; congr 1; omega
                have e2 : (k - xs.length + 1) * tsize P el ≤ ys.length * tsize P el := Nat.mul_le_mul_right _ (by omega)
                rw [Nat.add_mul, Nat.one_mul] at e2
                rw [if_pos (by omega)] at hu
                rw [show base + (k * tsize P el + j) - (base + xs.length * tsize P el) = (k - xs.length) * tsize P el + j by omega] at hu
                exact (hE.2.2.2 _ x j yv u hx hy hu).evo hVPz)
          refine ⟨_, _, .inl (hexec _ _ cap hα _ _ (by rw [hrun]; simp only; rw [hst']; rfl)), rfl, rfl, H2, E2, .ref b _ rfl (more_at _ _) fun fz' s' xs' hid' => ?_⟩
          simp only [Cx.grow, upd_same, Option.some.injEq, Ob.row.injEq] at hid'
          obtain ⟨_, rfl, rfl⟩ := hid'
          refine ⟨_, cap, by rw [List.length_append], by rw [List.length_append]; exact hfit, hspot, fun _ => ⟨b0, base, wr c (base + xs.length * tsize P el) new.toList, E, zz, by simp [Cx.grow], rfl, setBlk_same (Array.getElem?_eq_some_iff.1 hbl).1, by rw [wr_size]; exact hcs⟩⟩
      · rw [if_neg hfit] at hrun
        obtain ⟨H1, E1⟩ := step_kill H id
        subst hss
        obtain ⟨Δ, hw, hh, hn', hok, hev, hvr⟩ := grow_row (Γ := { Γ with h := upd Γ.h id (some .dead) }) H1 hb fz hsz hEo hE hz1 hzsize el rfl (hgrown Γ.w (xs.length + ys.length) cap)
        refine ⟨_, Δ, .inl (hexec a _ cap hα _ _ (by rw [hrun, hw])), ?_, hn', hok, E1.trans hev, hvr⟩
        rw [hh]; rfl
    · cases h
  · cases h

end Go.Sym
