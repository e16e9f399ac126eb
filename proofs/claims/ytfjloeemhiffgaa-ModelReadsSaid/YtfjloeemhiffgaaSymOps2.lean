/- DERIVED. The operations that make, read and write memory. -/
import Derived.Test.YtfjloeemhiffgaaSymOps1
set_option linter.unusedVariables false
set_option linter.unusedSimpArgs false
namespace Go.Sym
variable {P : Program} {o : Oper} {α : Operand → Value} {e : Operand → V} {Γ : Cx} {b : Nat}

/-- A new variable. -/
theorem new_var (H : HOk Γ) (hb : Fresh Γ.n b) {v : V} {u : Value} (hv : VR Γ v u) (hs : solid v = true) (E : TypeId) :
    ∃ Δ : Cx, Δ.w = Γ.w.alloc (.cells u.cells E) ∧ Δ.h = upd Γ.h b (some (.var v.cells)) ∧ Δ.n = more Γ.n b ∧ HOk Δ ∧ Evo Γ Δ ∧ VR Δ (.ptr b 0) (.pointer (some ⟨Γ.w.heap.size, 0, none⟩)) := by
  have EV := evo_new H b (.var v.cells) u.cells E (0, 0) (more Γ.n b) hb.at ⟨more_of, more_at _ _⟩
  obtain ⟨hl, h1, hc⟩ := hv.cells hs
  have hok := ok_new H b (.var v.cells) u.cells E (0, 0) (more Γ.n b) hb.at ⟨more_of, more_at _ _⟩ (fun cs hcs => by
      cases hcs
      exact ⟨Γ.w.heap.size, u.cells, E, (0, 0), by simp [Cx.new], alloc_new _ _, fun o _ h => by omega, hl.symm, h1, fun j x u' hx hu => (hc j x u' hx hu).evo EV⟩) (by simp)
  refine ⟨_, rfl, rfl, rfl, hok, EV, .ptr b 0 _ (more_at _ _) fun ob hob _ => by simp [Cx.new]⟩

def RowC (w : World) (Z : Nat → Nat → Prop) (s : Nat) (xs : List V) (c : Array Value) : Prop :=
  0 < s ∧ xs.length * s ≤ c.size ∧ (∀ (j : Nat) (u : Value), c[j]? = some u → u.oneCell = true) ∧ (∀ (i : Nat) (x : V), xs[i]? = some x → x.cells.length = s) ∧
    ∀ (i : Nat) (x : V) (j : Nat) (y : V) (u : Value), xs[i]? = some x → x.cells[j]? = some y → c[i * s + j]? = some u → VP w Z y u

/-- A new row. -/
theorem new_row (H : HOk Γ) (hb : Fresh Γ.n b) (fz : Bool) {s : Nat} {xs : List V} {c : Array Value} (hc : RowC Γ.w Γ.Z s xs c) (E : TypeId) (z : Nat × Nat) (hz : unfrozen z (c.size + (s - 1))) {cap : Nat} (hcap : xs.length ≤ cap) (hcs : cap * s ≤ c.size) :
    ∃ Δ : Cx, Δ.w = Γ.w.alloc (.cells c E z) ∧ Δ.h = upd Γ.h b (some (.row fz s xs)) ∧ Δ.n = more Γ.n b ∧ HOk Δ ∧ Evo Γ Δ ∧ VR Δ (.ref b) (.slice (some ⟨Γ.w.heap.size, 0, none⟩) xs.length cap) := by
  have EV := evo_new H b (.row fz s xs) c E z (more Γ.n b) hb.at ⟨more_of, more_at _ _⟩
  obtain ⟨h0, hsz, h1, hl, hv⟩ := hc
  have hok := ok_new H b (.row fz s xs) c E z (more Γ.n b) hb.at ⟨more_of, more_at _ _⟩ (by simp) (fun fz' s' xs' hcs => by
      cases hcs
      exact .inr ⟨Γ.w.heap.size, 0, c, E, z, by simp [Cx.new], alloc_new _ _, hz, h0, by omega, h1, hl, fun i x j y u hx hy hu => (hv i x j y u hx hy (by simpa using hu)).evo EV.zc⟩)
  refine ⟨_, rfl, rfl, rfl, hok, EV, .ref b _ rfl (more_at _ _) fun fz' s' xs' hcs => ?_⟩
  simp only [Cx.new, upd_same, Option.some.injEq, Ob.row.injEq] at hcs
  obtain ⟨_, rfl, rfl⟩ := hcs
  exact ⟨_, cap, rfl, hcap, by simp, fun _ => ⟨Γ.w.heap.size, 0, c, E, z, by simp [Cx.new], by simp, alloc_new _ _, by simpa using hcs⟩⟩

/-- A new builder. -/
theorem new_bld (H : HOk Γ) (hb : Fresh Γ.n b) (t e : TypeId) :
    ∃ Δ : Cx, Δ.w = Γ.w.alloc (.cells #[.pointer none, .slice none 0 0] t) ∧ Δ.h = upds Γ.h [(b, .bld t e (b + 1) []), (b + 1, .raw b)] ∧ Δ.n = more Γ.n b ∧ HOk Δ ∧ Evo Γ Δ ∧ VR Δ (.ptr b 0) (.pointer (some ⟨Γ.w.heap.size, 0, none⟩)) := by
  have hne : b + 1 ≠ b := by omega
  obtain ⟨h', hh', h0, h1, h2⟩ : ∃ h', h' = upds Γ.h [(b, .bld t e (b + 1) []), (b + 1, .raw b)] ∧ h' b = some (.bld t e (b + 1) []) ∧ h' (b + 1) = some (.raw b) ∧ ∀ i, i ≠ b → i ≠ b + 1 → h' i = Γ.h i :=
    ⟨_, rfl, by simp [upds, upd], by simp [upds, upd], fun i g1 g2 => by simp [upds, upd, g1, g2]⟩
  obtain ⟨ρ', r0, r1, r2⟩ : ∃ ρ' : Nat → Option (Nat × Nat), ρ' b = some (Γ.w.heap.size, 0) ∧ ρ' (b + 1) = none ∧ ∀ i, i ≠ b → i ≠ b + 1 → ρ' i = Γ.ρ i :=
    ⟨fun i => if i = b + 1 then none else if i = b then some (Γ.w.heap.size, 0) else Γ.ρ i, by simp, by simp, fun i g1 g2 => by simp [g1, g2]⟩
  rw [← hh']
  have nb : ¬ Γ.n b := hb b (Nat.le_refl _) (by omega)
  have nb1 : ¬ Γ.n (b + 1) := hb (b + 1) (by omega) (by omega)
  have lvo : ∀ i, (i = b ∨ i = b + 1) → ¬ live Γ.h i := by
    rintro i (rfl | rfl) hl
    · exact nb (H.lt _ hl)
    · exact nb1 (H.lt _ hl)
  refine ⟨{ Γ with ρ := ρ', h := h', n := more Γ.n b, w := Γ.w.alloc (.cells #[.pointer none, .slice none 0 0] t) }, rfl, rfl, rfl, ?_⟩
  have S : BStep Γ { Γ with ρ := ρ', h := h', n := more Γ.n b, w := Γ.w.alloc (.cells #[.pointer none, .slice none 0 0] t) } (fun i => i = b ∨ i = b + 1) := by
    refine ⟨rfl, more_of, ?_, fun i hT hl => absurd hl (lvo i hT), ?_, ?_, ?_, fun k hk _ => alloc_block _ _ _ hk, by simp, rfl, rfl, rfl, ?_⟩
    · intro i hT
      simp only [not_or] at hT
      exact ⟨h2 i hT.1 hT.2, r2 i hT.1 hT.2⟩
    · rintro i (rfl | rfl) hl
      · refine ⟨.inl ⟨t, e, i + 1, [], h0⟩, more_at _ _, fun b0 base (hr : ρ' i = _) => ?_⟩
        rw [r0] at hr
        cases hr
        exact ⟨by simp, .inl (Nat.le_refl _)⟩
      · refine ⟨.inr ⟨b, h1⟩, .inr ⟨by omega, by omega⟩, fun b0 base (hr : ρ' (b + 1) = _) => ?_⟩
        rw [r1] at hr
        cases hr
    · rintro i (rfl | rfl) hn _
      · exact absurd hn nb
      · exact absurd hn nb1
    · rintro i j b0 bi bj (rfl | rfl) (rfl | rfl) _ _ (ei : ρ' _ = _) (ej : ρ' _ = _)
      · rfl
      · rw [r1] at ej; cases ej
      · rw [r1] at ei; cases ei
      · rfl
    · intro id t' e' r s (g1 : h' id = _) (g2 : h' r = _)
      by_cases hi : id = b
      · subst hi
        rw [h0] at g1
        cases g1
        exact .inl ⟨.inl rfl, .inr rfl, Γ.w.heap.size, .pointer none, .slice none 0 0, r0, alloc_new _ _, .inl rfl, .inl ⟨rfl, rfl, r1⟩⟩
      · have hi1 : id ≠ b + 1 := by
          intro h; subst h
          rw [h1] at g1; cases g1
        refine .inr ⟨by simp only [not_or]; exact ⟨hi, hi1⟩, ?_⟩
        rintro (rfl | rfl)
        · rw [h0] at g2; cases g2
        · rw [h1] at g2; cases g2; exact hi rfl
  obtain ⟨hok, hev⟩ := S.ok H
  exact ⟨hok, hev, .ptr b 0 _ (more_at _ _) fun ob hob _ => r0⟩

theorem op_alloc (H : HOk Γ) (hb : Fresh Γ.n b) {t : TypeId} (ho : o.op = .alloc t) {v : V} {ws : List (Nat × Ob)} (h : opSem P o.op e Γ.h b = some (v, ws)) : OpOk P o α Γ b v ws := by
  rw [ho] at h
  simp only [opSem] at h
  split at h
  · rename_i e' hbe
    rw [guardP_some] at h
    obtain ⟨_, h⟩ := h
    cases h
    unfold bldElem at hbe
    split at hbe
    · rename_i f g hz0 _
      have hz : tzero P t = some (ofValue (.agg ⟨[.pointer none, .slice none 0 0]⟩)) := by unfold tzero; rw [hz0]; rfl
      obtain ⟨i, zv, hi, hzv, _, hrun⟩ := tzero_inv (w := Γ.w) hz
      rw [hi, Option.bind_some, hzv] at hz0
      cases hz0
      obtain ⟨Δ, hw, hh, hn, hok, hev, hvr⟩ := new_bld H hb t e'
      refine ⟨_, Δ, .inl ?_, hh, hn, hok, hev, hvr⟩
      rw [hw]
      simp [execOp, ho, Instr.alloc, hrun, newVar, newRow, newObj, Sem.run, Value.cells]
    · cases hbe
  simp only [Option.bind_eq_some_iff] at h
  obtain ⟨z, hz, h⟩ := h
  rw [guardP_some] at h
  obtain ⟨hsol, h⟩ := h
  cases h
  obtain ⟨i, zv, hi, hzv, rfl, hrun⟩ := tzero_inv (w := Γ.w) hz
  obtain ⟨Δ, hw, hh, hn, hok, hev, hvr⟩ := new_var H hb (VR_const Γ zv) hsol t
  refine ⟨_, Δ, .inl ?_, hh, hn, hok, hev, hvr⟩
  rw [hw]
  simp [execOp, ho, Instr.alloc, hrun, newVar, newRow, newObj, Sem.run]

theorem op_box (H : HOk Γ) (hb : Fresh Γ.n b) (he : ∀ x, VR Γ (e x) (α x)) {t : TypeId} {x : Operand} (ho : o.op = .box t x) {v : V} {ws : List (Nat × Ob)} (h : opSem P o.op e Γ.h b = some (v, ws)) : OpOk P o α Γ b v ws := by
  rw [ho] at h
  simp only [opSem] at h
  have hx := he x
  rw [guardP_some] at h
  obtain ⟨hsol, h⟩ := h
  cases h
  obtain ⟨Δ, hw, hh, hn, hok, hev, hvr⟩ := new_var H hb hx hsol t
  refine ⟨_, Δ, .inl ?_, hh, hn, hok, hev, hvr⟩
  rw [hw]
  simp [execOp, ho, Instr.box, newVar, newRow, newObj, Sem.run]

/-- Memory that a pointer shows. -/
theorem var_cells (H : HOk Γ) {id : Nat} {cs : List V} (hid : Γ.h id = some (.var cs)) {b0 : Nat} (hr : Γ.ρ id = some (b0, 0)) :
    ∀ (j : Nat) (c : V), cs[j]? = some c → ∃ u, Γ.w.cell? ⟨b0, 0 + j, none⟩ = some u ∧ u.oneCell = true ∧ VR Γ c u := by
  obtain ⟨b1, c, E, z, hr1, hbl, hz, hs, h1, hv⟩ := H.var id cs hid
  rw [hr] at hr1; cases hr1
  intro j x hx
  have hj : j < c.size := by rw [hs]; exact (List.getElem?_eq_some_iff.1 hx).1
  refine ⟨c[j], by simp [World.cell?, hbl, hj], h1 j _ (Array.getElem?_eq_getElem hj), hv j x _ hx (Array.getElem?_eq_getElem hj)⟩

theorem row_cells (H : HOk Γ) {id s : Nat} {fz : Bool} {xs : List V} (hid : Γ.h id = some (.row fz s xs)) {b0 base : Nat} (hr : Γ.ρ id = some (b0, base)) {i : Nat} {x : V} (hx : xs[i]? = some x) :
    x.cells.length = s ∧ ∀ (j : Nat) (c : V), x.cells[j]? = some c → ∃ u, Γ.w.cell? ⟨b0, base + i * s + j, none⟩ = some u ∧ u.oneCell = true ∧ VP Γ.w Γ.Z c u := by
  rcases H.row id fz s xs hid with ⟨hn, hx0⟩ | ⟨b1, base1, c, E, z, hr1, hbl, hz, h0, hsz, h1, hl, hv⟩
  · rw [hr] at hn; cases hn
  · rw [hr] at hr1; cases hr1
    refine ⟨hl i x hx, fun j y hy => ?_⟩
    have hi := (List.getElem?_eq_some_iff.1 hx).1
    have hj : j < s := by rw [← hl i x hx]; exact (List.getElem?_eq_some_iff.1 hy).1
    have : (i + 1) * s ≤ xs.length * s := Nat.mul_le_mul_right s hi
    rw [Nat.add_mul, Nat.one_mul] at this
    have hlt : base + i * s + j < c.size := by omega
    refine ⟨c[base + i * s + j], by simp [World.cell?, hbl, hlt], h1 _ _ (Array.getElem?_eq_getElem hlt), hv i x j y _ hx hy ?_⟩
    rw [← Nat.add_assoc]; exact Array.getElem?_eq_getElem hlt

theorem op_load (H : HOk Γ) (hb : Fresh Γ.n b) (he : ∀ x, VR Γ (e x) (α x)) {t : TypeId} {a : Operand} (ho : o.op = .load t a) {v : V} {ws : List (Nat × Ob)} (h : opSem P o.op e Γ.h b = some (v, ws)) : OpOk P o α Γ b v ws := by
  rw [ho] at h
  simp only [opSem] at h
  have ha := he a
  split at h
  · rename_i id off hea
    split at h
    · rename_i cs hid
      simp only [Option.map_eq_some_iff] at h
      obtain ⟨x, hx, hh⟩ := h
      cases hh
      rw [hea] at ha
      obtain ⟨b0, hu, _, hr⟩ := ha.ptr_inv
      have hr := hr _ hid rfl
      obtain ⟨u, hrun, hv⟩ := readC_load (P := P) (o := 0) (b := b0) hx (var_cells H hid hr)
      refine ok_quiet H hb ?_ hv
      rw [Nat.zero_add] at hrun
      simp [execOp, ho, Instr.loadAt, hu, Instr.sureAddr, hrun]
    · cases h
  · rename_i id i off hea
    split at h
    · rename_i fz s xs hid
      rw [hea] at ha
      obtain ⟨b0, o0, hu, _, hr0⟩ := ha.ept_inv
      obtain ⟨base, hr, rfl⟩ := hr0 fz s xs hid
      clear hr0
      split at h
      · rw [guardP_some] at h
        obtain ⟨⟨rfl, rfl⟩, h⟩ := h
        simp only [Option.bind_eq_some_iff, Option.map_eq_some_iff] at h
        obtain ⟨x, hx, y, hy, hh⟩ := h
        cases hh
        unfold arr? at hx
        rw [guardP_some] at hx
        obtain ⟨⟨hle, hone⟩, hx⟩ := hx
        cases hx
        obtain ⟨u, hrun, hv⟩ := readC_load (P := P) (Γ := Γ) (o := base + i * 1) (b := b0) hy (fun j c hj => by
          simp only [V.cells] at hj
          have hc1 : one1 c = true := List.all_eq_true.1 hone c (List.mem_of_getElem? hj)
          rw [List.getElem?_take] at hj
          split at hj
          · rw [List.getElem?_drop] at hj
            obtain ⟨_, hc⟩ := row_cells H hid hr hj
            have hcc : c.cells = [c] := by cases c <;> first | rfl | cases hc1
            obtain ⟨u, h1, h2, h3⟩ := hc 0 c (by rw [hcc]; rfl)
            refine ⟨u, ?_, h2, .pure h3⟩
            rw [show base + i * 1 + j = base + (i + j) * 1 + 0 by omega]; exact h1
          · cases hj)
        refine ok_quiet H hb ?_ hv
        simp [execOp, ho, Instr.loadAt, hu, Instr.sureAddr] at hrun ⊢
        simp [hrun]
      simp only [Option.bind_eq_some_iff, Option.map_eq_some_iff] at h
      obtain ⟨x, hx, y, hy, hh⟩ := h
      cases hh
      obtain ⟨_, hc⟩ := row_cells H hid hr hx
      obtain ⟨u, hrun, hv⟩ := readC_load (P := P) (Γ := Γ) (o := base + i * s) (b := b0) hy (fun j c hj => let ⟨u, h1, h2, h3⟩ := hc j c hj; ⟨u, h1, h2, .pure h3⟩)
      refine ok_quiet H hb ?_ hv
      simp [execOp, ho, Instr.loadAt, hu, Instr.sureAddr, hrun]
    · cases h
  · rename_i x off hea
    simp only [Option.map_eq_some_iff] at h
    obtain ⟨y, hy, hh⟩ := h
    cases hh
    rw [hea] at ha
    obtain ⟨b0, base, hu, hc⟩ := ha.cpt_inv
    obtain ⟨u, hrun, hv⟩ := readC_load (P := P) (Γ := Γ) (o := base) (b := b0) hy (fun j c hj => let ⟨_, u, h1, h2, h3⟩ := hc j c hj; ⟨u, h1, h2, .pure h3⟩)
    refine ok_quiet H hb ?_ hv
    simp [execOp, ho, Instr.loadAt, hu, Instr.sureAddr, hrun]
  · cases h

theorem run_storeAt {t : TypeId} {b0 o0 : Nat} {u : Value} {w : World} {c : Array Value} {E : TypeId} {z : Nat × Nat} (ht : 0 < tsize P t) (hsz : u.cells.size = tsize P t) (h1 : ∀ (i : Nat) (x : Value), u.cells[i]? = some x → x.oneCell = true)
    (hb : w.heap[b0]? = some (.cells c E z)) (hz : unfrozen z c.size) (hle : o0 + u.cells.size ≤ c.size) :
    (Instr.storeAt t (.pointer (some ⟨b0, o0, none⟩)) u).run P w = .ok () (setBlk w b0 (.cells (wr c o0 u.cells.toList) E z)) := by
  have hne : u.cells.toList ≠ [] := by
    intro hn
    have : u.cells.size = 0 := by rw [← Array.length_toList, hn]; rfl
    omega
  have := run_storeCells P b0 E z u.cells.toList w c o0 0 hb hz (by rw [Array.length_toList]; omega) (fun x hx => by
    obtain ⟨i, hi, hx⟩ := List.getElem_of_mem hx
    exact h1 i x (by rw [← hx]; simp))
  rw [if_neg hne] at this
  simp only [Nat.add_zero] at this
  simp [Instr.storeAt, Instr.sureAddr, storeVar, run_size' ht, hsz, this]

theorem writeC_get {cs vs cs' : List V} {off : Nat} (h : writeC cs off vs = some cs') : off + vs.length ≤ cs.length ∧ cs'.length = cs.length ∧ ∀ j, cs'[j]? = if off ≤ j ∧ j < off + vs.length then vs[j - off]? else cs[j]? := by
  unfold writeC at h
  rw [guardP_some] at h
  obtain ⟨hle, h⟩ := h
  cases h
  refine ⟨hle, by simp; omega, fun j => ?_⟩
  rw [List.getElem?_append]
  by_cases h1 : j < off
  · rw [if_pos (by simp; omega), if_neg (by omega), List.getElem?_take_of_lt h1]
  · rw [if_neg (by simp; omega), List.getElem?_append]
    simp only [List.length_take, Nat.min_eq_left (show off ≤ cs.length by omega)]
    by_cases h2 : j < off + vs.length
    · rw [if_pos (by omega), if_pos (by omega)]
    · rw [if_neg (by omega), if_neg (by omega), List.getElem?_drop]
      congr 1; omega

theorem op_store (H : HOk Γ) (hb : Fresh Γ.n b) (he : ∀ x, VR Γ (e x) (α x)) {t : TypeId} {a x : Operand} (ho : o.op = .store t a x) {v : V} {ws : List (Nat × Ob)} (h : opSem P o.op e Γ.h b = some (v, ws)) : OpOk P o α Γ b v ws := by
  rw [ho] at h
  simp only [opSem] at h
  have ha := he a
  have hx := he x
  rw [guardP_some] at h
  obtain ⟨⟨hsol, hlen, ht⟩, h⟩ := h
  obtain ⟨hcl, hc1, hcv⟩ := hx.cells hsol
  have hsz : (α x).cells.size = tsize P t := by omega
  have hul : (α x).cells.toList.length = (e x).cells.length := by rw [Array.length_toList]; omega
  split at h
  · rename_i id off hea
    split at h
    · rename_i cs hid
      simp only [Option.map_eq_some_iff] at h
      obtain ⟨cs', hw, hh⟩ := h
      cases hh
      rw [hea] at ha
      obtain ⟨b0, hu, _, hr⟩ := ha.ptr_inv
      have hr := hr _ hid rfl
      obtain ⟨b1, c, E, z, hr1, hbl, hz, hs, h1, hv⟩ := H.var id cs hid
      rw [hr] at hr1; cases hr1
      obtain ⟨hle, hlen', hget⟩ := writeC_get hw
      have hwr : ∀ k, (wr c off (α x).cells.toList)[k]? = if off ≤ k ∧ k < off + (e x).cells.length then (α x).cells[k - off]? else c[k]? := by
        intro k
        rw [wr_get _ _ _ _ (by rw [hul]; omega), hul]
        simp
      have hZ : ∀ o', Γ.Z b0 o' → (wr c off (α x).cells.toList)[o']? = c[o']? := by
        intro o' hzz
        obtain ⟨s', xs', e', _⟩ := (H.z b0 o' hzz).2 id 0 (live_var hid) hr
        rw [hid] at e'; cases e'
      have EV := evo_write H (live_var hid) hr hbl (wr_size _ c off) hZ (.var cs') (fun cs2 h2 => by cases h2; exact ⟨cs, hid, hlen'.symm⟩) (by simp) (by simp)
      have hok := ok_write H (live_var hid) hr hbl (wr_size _ c off) hZ (.var cs') (fun cs2 h2 => by cases h2; exact ⟨cs, hid, hlen'.symm⟩) (by simp) (by simp)
        (fun cs2 h2 => by
          cases h2
          refine ⟨b0, wr c off (α x).cells.toList, E, z, hr, setBlk_same (Array.getElem?_eq_some_iff.1 hbl).1, by rw [wr_size]; exact hz, by rw [wr_size]; omega, ?_, ?_⟩
          · intro j u hj
            rw [hwr] at hj
            split at hj
            · exact hc1 _ u hj
            · exact h1 _ u hj
          · intro j y u hy hj
            rw [hwr] at hj
            rw [hget] at hy
            split at hj
            · rw [if_pos (by assumption)] at hy; exact (hcv _ y u hy hj).evo EV
            · rw [if_neg (by assumption)] at hy; exact (hv j y u hy hj).evo EV) (by simp)
      obtain ⟨H2, E2⟩ := step_same hok _ (more Γ.n b) rfl rfl rfl rfl more_of
      refine ⟨undef, _, .inr ⟨?_, rfl⟩, rfl, rfl, H2, EV.trans E2, .tup [] #[] rfl (by simp)⟩
      have hrun := run_storeAt (P := P) ht hsz hc1 hbl hz (show off + (α x).cells.size ≤ c.size by omega)
      simp [execOp, ho, hu, hrun]
    · cases h
  · rename_i id i off hea
    split at h
    · rename_i fz s xs hid
      rw [guardP_some, Option.bind_eq_some_iff] at h
      obtain ⟨⟨hfz, hnid, hi⟩, p, hp, h⟩ := h
      rw [hea] at ha
      obtain ⟨b0, o0, hu, _, hr0⟩ := ha.ept_inv
      obtain ⟨base, hr, rfl⟩ := hr0 fz s xs hid
      clear hr0
      have hvp := purify_sound H hx hp
      -- the rows that what is stored names are frozen
      obtain ⟨Γf, Hf, Ef, hhf, hwf, hnf, hρf, hzf, hzsf⟩ := step_freezes (rid (e x)) H Γ.h (fun id fz s xs h => ⟨fz, h⟩)
      have hvp' : VP Γf.w Γf.Z p (α x) := by
        rw [hwf]
        refine hvp.zmono fun b' o' hz => ?_
        rcases hz with hz | ⟨id', fz', s', xs', base', hm, h1, h2, h3, h4⟩
        · exact hzf _ _ hz
        · exact hzsf id' fz' s' xs' base' b' o' hm h1 h2 h3 h4
      have hidf : Γf.h id = some (.row fz s xs) := by
        rw [hhf]
        have : ∀ (ids : List Nat) (h : Nat → Option Ob), id ∉ ids → upds h (freeze Γ.h ids) id = h id := by
          intro ids
          induction ids with
          | nil => intro h _; rfl
          | cons i r ih =>
            intro h hm
            simp only [List.mem_cons, not_or] at hm
            simp only [freeze]
            split
            · simp only [upds]; rw [ih _ hm.2, upd_other _ _ hm.1]
            · exact ih h hm.2
        rw [this _ _ (by simpa using hnid)]; exact hid
      have hrf : Γf.ρ id = some (b0, base) := by rw [hρf]; exact hr
      rcases Hf.row id fz s xs hidf with ⟨hn, _⟩ | ⟨b1, base1, c, E, z, hr1, hbl, hz, h0, hle, h1, hl, hv⟩
      · rw [hrf] at hn; cases hn
      rw [hrf] at hr1; cases hr1
      obtain ⟨hpl, hp1, hpv⟩ := hvp'.cells
      have hup : (α x).cells.toList.length = p.cells.length := by rw [Array.length_toList]; omega
      -- the element's new cells
      have main : ∀ (y' : V), y'.cells.length = s → off + p.cells.length ≤ s → (∀ j, y'.cells[j]? = if off ≤ j ∧ j < off + p.cells.length then p.cells[j - off]? else (xs[i]'hi).cells[j]?) →
          (v, ws) = (V.tup [], freeze Γ.h (rid (e x)) ++ [(id, .row fz s (xs.set i y'))]) → OpOk P o α Γ b v ws := by
        intro y' hy' hoff hget hvw
        cases hvw
        have his : (i + 1) * s ≤ xs.length * s := Nat.mul_le_mul_right s hi
        rw [Nat.add_mul, Nat.one_mul] at his
        have hwr : ∀ k, (wr c (base + (i * s + off)) (α x).cells.toList)[k]? = if base + (i * s + off) ≤ k ∧ k < base + (i * s + off) + p.cells.length then (α x).cells[k - (base + (i * s + off))]? else c[k]? := by
          intro k
          rw [wr_get _ _ _ _ (by rw [hup]; omega), hup]
          simp
        have hZ : ∀ o', Γf.Z b0 o' → (wr c (base + (i * s + off)) (α x).cells.toList)[o']? = c[o']? := by
          intro o' hzz
          obtain ⟨s', xs', e', _⟩ := (Hf.z b0 o' hzz).2 id base (live_row hidf) hrf
          rw [hidf, hfz] at e'; cases e'
        have EV := evo_write Hf (live_row hidf) hrf hbl (wr_size _ c _) hZ (.row fz s (xs.set i y')) (by simp) (fun fz2 s2 xs2 h2 => by cases h2; exact ⟨fz, xs, hidf, by simp⟩) (by simp)
        have hok := ok_write Hf (live_row hidf) hrf hbl (wr_size _ c _) hZ (.row fz s (xs.set i y')) (by simp) (fun fz2 s2 xs2 h2 => by cases h2; exact ⟨fz, xs, hidf, by simp, rfl⟩) (by simp) (by simp)
          (fun fz2 s2 xs2 h2 => by
            cases h2
            refine .inr ⟨b0, base, wr c (base + (i * s + off)) (α x).cells.toList, E, z, hrf, setBlk_same (Array.getElem?_eq_some_iff.1 hbl).1, by rw [wr_size]; exact hz, h0, by rw [wr_size]; simpa using hle, ?_, ?_, ?_⟩
            · intro j u hj
              rw [hwr] at hj
              split at hj
              · exact hc1 _ u hj
              · exact h1 _ u hj
            · intro k y hy
              by_cases hki : i = k
              · subst hki
                rw [List.getElem?_set_self hi] at hy
                cases hy; exact hy'
              · rw [List.getElem?_set_ne hki] at hy
                exact hl k y hy
            · intro k y j yc u hy hj hu'
              have hjs : j < s := by
                by_cases hki : i = k
                · subst hki
                  rw [List.getElem?_set_self hi] at hy
                  cases hy; rw [← hy']; exact (List.getElem?_eq_some_iff.1 hj).1
                · rw [List.getElem?_set_ne hki] at hy
                  rw [← hl k y hy]; exact (List.getElem?_eq_some_iff.1 hj).1
              rw [hwr] at hu'
              by_cases hki : i = k
              · subst hki
                rw [List.getElem?_set_self hi] at hy
                cases hy
                rw [hget] at hj
                by_cases hin : off ≤ j ∧ j < off + p.cells.length
                · rw [if_pos hin] at hj
                  rw [if_pos (by omega), show base + (i * s + j) - (base + (i * s + off)) = j - off by omega] at hu'
                  exact (hpv _ yc u hj hu').evo EV.zc
                · rw [if_neg hin] at hj
                  rw [if_neg (by omega)] at hu'
                  exact (hv i _ j yc u (List.getElem?_eq_getElem hi) hj hu').evo EV.zc
              · rw [List.getElem?_set_ne hki] at hy
                have : ¬ (base + (i * s + off) ≤ base + (k * s + j) ∧ base + (k * s + j) < base + (i * s + off) + p.cells.length) := by
                  rcases Nat.lt_or_gt_of_ne hki with hlt | hgt
                  · have : (i + 1) * s ≤ k * s := Nat.mul_le_mul_right s hlt
                    rw [Nat.add_mul, Nat.one_mul] at this; omega
                  · have : (k + 1) * s ≤ i * s := Nat.mul_le_mul_right s hgt
                    rw [Nat.add_mul, Nat.one_mul] at this; omega
                rw [if_neg this] at hu'
                exact (hv k y j yc u hy hj hu').evo EV.zc)
        obtain ⟨H2, E2⟩ := step_same hok _ (more Γ.n b) rfl rfl rfl rfl (by intro i hi; exact .inl (by first | exact hi | (rw [← hnf]; exact hi)))
        refine ⟨undef, _, .inr ⟨?_, rfl⟩, ?_, rfl, H2, (Ef.trans EV).trans E2, .tup [] #[] rfl (by simp)⟩
        · have hblg : Γ.w.heap[b0]? = some (.cells c E z) := by rw [← hwf]; exact hbl
          simp only [execOp, ho, hu, Sem.run_bind]
          rw [Nat.add_assoc, run_storeAt ht hsz hc1 hblg (fun o ho => hz o (by omega)) (show base + (i * s + off) + (α x).cells.size ≤ c.size by omega)]
          simp [hwf]
        · show upd Γf.h id _ = _
          rw [hhf]
          have : ∀ (l1 : List (Nat × Ob)) (h : Nat → Option Ob) (q : Nat × Ob), upds h (l1 ++ [q]) = upd (upds h l1) q.1 (some q.2) := by
            intro l1
            induction l1 with
            | nil => intro h q; rfl
            | cons a r ih => intro h q; simp only [List.cons_append, upds]; exact ih _ q
          rw [this]
      split at h
      · rename_i hc
        cases h
        refine main p hc.2 (by omega) (fun j => ?_) rfl
        by_cases hj : j < p.cells.length
        · rw [if_pos (by omega)]; simp [hc.1]
        · rw [if_neg (by omega)]
          have hxi := hl i _ (List.getElem?_eq_getElem hi)
          rw [List.getElem?_eq_none (by omega), List.getElem?_eq_none (by omega)]
      · rw [Option.bind_eq_some_iff] at h
        obtain ⟨y, hy, h⟩ := h
        have hyi : xs[i]'hi = y := by rw [List.getElem?_eq_getElem hi] at hy; exact Option.some.inj hy
        split at h
        · rename_i cs
          simp only [Option.map_eq_some_iff] at h
          obtain ⟨cs', hw, hh⟩ := h
          obtain ⟨hle', hlen', hget⟩ := writeC_get hw
          have hcs : cs.length = s := by have := hl i _ hy; simpa [V.cells] using this
          refine main (.agg cs') (by simp [V.cells]; omega) (by omega) (fun j => ?_) hh.symm
          rw [hyi]
          exact hget j
        · cases h
    · cases h
  · cases h

end Go.Sym
