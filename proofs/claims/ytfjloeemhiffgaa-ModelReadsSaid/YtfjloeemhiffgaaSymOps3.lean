/- DERIVED. The operations, third part: places, slices, small ones. -/
import Derived.Test.YtfjloeemhiffgaaSymOps2
set_option linter.unusedVariables false
set_option linter.unusedSimpArgs false
namespace Go.Sym
variable {P : Program} {o : Oper} {α : Operand → Value} {e : Operand → V} {Γ : Cx} {b : Nat}

theorem tfield_inv {t : TypeId} {f : Nat} {r : Nat × TypeId} (h : tfield P t f = some r) : ∃ fs fd, P.underlying t = some (.struct fs) ∧ fs[f]? = some fd ∧ r = (fd.offset, fd.type) := by
  unfold tfield at h
  split at h
  · rename_i fs hu
    simp only [Option.map_eq_some_iff] at h
    obtain ⟨fd, hf, rfl⟩ := h
    exact ⟨fs, fd, hu, hf, rfl⟩
  · cases h

theorem op_fieldAddr (H : HOk Γ) (hb : Fresh Γ.n b) (he : ∀ x, VR Γ (e x) (α x)) {t : TypeId} {x : Operand} {f : Nat} (ho : o.op = .fieldAddr t x f) {v : V} {ws : List (Nat × Ob)} (h : opSem P o.op e Γ.h b = some (v, ws)) : OpOk P o α Γ b v ws := by
  rw [ho] at h
  simp only [opSem, Option.bind_eq_some_iff, guardP_some] at h
  obtain ⟨r, hr, hts, h⟩ := h
  obtain ⟨fs, fd, hu, hf, rfl⟩ := tfield_inv hr
  have hx := he x
  have run : ∀ (b0 o0 : Nat), α x = .pointer (some ⟨b0, o0, none⟩) → (execOp α o).run P Γ.w = .ok (.value (.pointer (some ⟨b0, o0 + fd.offset, none⟩))) Γ.w := by
    intro b0 o0 ha
    have hne : tsize P fd.type ≠ 0 := by simp only at hts; omega
    simp [execOp, ho, Instr.fieldAt, run_underlying hu, hf, ha, Instr.sureAddr, fieldPlace, run_size' hts, hne, add_none]
  split at h
  · rename_i id off hex
    cases h
    rw [hex] at hx
    obtain ⟨b0, hu', hn, hr'⟩ := hx.ptr_inv
    exact ok_quiet H hb (run b0 off hu') (.ptr id _ b0 hn hr')
  · rename_i id i off hex
    cases h
    rw [hex] at hx
    obtain ⟨b0, o0, hu', hn, hr'⟩ := hx.ept_inv
    refine ok_quiet H hb (run b0 _ hu') ?_
    rw [Nat.add_assoc]; exact .ept id i _ b0 o0 hn hr'
  · rename_i v off hex
    cases h
    rw [hex] at hx
    obtain ⟨b0, o0, hu', hc⟩ := hx.cpt_inv
    refine ok_quiet H hb (run b0 _ hu') ?_
    rw [Nat.add_assoc]; exact .cpt v _ b0 o0 hc
  · cases h

theorem op_field (H : HOk Γ) (hb : Fresh Γ.n b) (he : ∀ x, VR Γ (e x) (α x)) {t : TypeId} {x : Operand} {f : Nat} (ho : o.op = .field t x f) {v : V} {ws : List (Nat × Ob)} (h : opSem P o.op e Γ.h b = some (v, ws)) : OpOk P o α Γ b v ws := by
  rw [ho] at h
  simp only [opSem, Option.bind_eq_some_iff] at h
  obtain ⟨r, hr, h⟩ := h
  obtain ⟨fs, fd, hu, hf, rfl⟩ := tfield_inv hr
  have hx := he x
  split at h
  · rename_i cs hex
    simp only [Option.map_eq_some_iff] at h
    obtain ⟨y, hy, hh⟩ := h
    cases hh
    rw [hex] at hx
    obtain ⟨us, hu', hcr⟩ := hx.agg_inv
    obtain ⟨u, hrun, hv⟩ := readC_part (P := P) hcr hy Γ.w
    refine ok_quiet H hb ?_ hv
    simp [execOp, ho, Instr.field, run_underlying hu, hf, hu', asAgg, hrun]
  · cases h

theorem VP_row_elem {w : World} {Z : Nat → Nat → Prop} {nl : Option Bool} {clip : Bool} {s : Nat} {xs : List V} {u : Value} (h : VP w Z (.sl nl clip s xs) u) {i : Nat} {x : V} (hx : xs[i]? = some x) :
    ∃ b o cap, u = .slice (some ⟨b, o, none⟩) xs.length cap ∧ x.cells.length = s ∧ ∀ (j : Nat) (c : V), x.cells[j]? = some c → Z b (o + i * s + j) ∧ ∃ u' : Value, w.cell? ⟨b, o + i * s + j, none⟩ = some u' ∧ u'.oneCell = true ∧ VP w Z c u' := by
  cases h with
  | sl _ _ _ _ a cap hc hclip ht hf hn hs hsp hxl he hv =>
    have hi := (List.getElem?_eq_some_iff.1 hx).1
    cases a with
    | none => have := hn rfl; omega
    | some ad =>
      obtain ⟨b, o, sp⟩ := ad
      have hsp' := hsp (by omega) _ rfl
      simp only at hsp'
      subst hsp'
      refine ⟨b, o, cap, rfl, hxl i x hx, fun j c hj => ?_⟩
      obtain ⟨hz, u', hu', h1⟩ := he _ i x j c rfl hx hj
      have := hv _ i x j c u' rfl hx hj hu'
      simp only [← Nat.add_assoc] at hz hu' this
      exact ⟨hz, u', hu', h1, this⟩

theorem VP_sl_pos {w : World} {Z : Nat → Nat → Prop} {nl : Option Bool} {clip : Bool} {s : Nat} {xs : List V} {u : Value} (h : VP w Z (.sl nl clip s xs) u) (hne : xs ≠ []) : 0 < s := by
  cases h with
  | sl _ _ _ _ _ _ _ _ _ _ _ hs0 _ _ _ _ => exact hs0 hne

theorem op_indexAddr (H : HOk Γ) (hb : Fresh Γ.n b) (he : ∀ x, VR Γ (e x) (α x)) {t : TypeId} {x i : Operand} (ho : o.op = .indexAddr t x i) {v : V} {ws : List (Nat × Ob)} (h : opSem P o.op e Γ.h b = some (v, ws)) : OpOk P o α Γ b v ws := by
  rw [ho] at h
  simp only [opSem] at h
  have hx := he x
  have hi := he i
  split at h
  · rename_i ki n hei
    rw [hei] at hi
    have hαi := hi.int_inv
    split at h
    · -- a slice that nobody writes to
      rename_i el nl clip s xs hu hex
      simp only [guardP_some, Option.map_eq_some_iff] at h
      obtain ⟨⟨h0, hlt, hs⟩, y, hy, hh⟩ := h
      cases hh
      rw [hex] at hx
      obtain ⟨b0, o0, cap, hu', hl, hc⟩ := VP_row_elem hx.sl_inv hy
      have hts : 0 < tsize P el := by
        rw [← hs]; exact VP_sl_pos hx.sl_inv (by intro hn; subst hn; simp at hlt; omega)
      refine ok_quiet H hb (u := .pointer (some ⟨b0, o0 + n.toNat * s, none⟩)) ?_ ?_
      · simp [execOp, ho, Instr.indexAt, hαi, asIntOf, run_underlying hu, hu', h0, hlt, run_size' hts, hs, add_none]
      · exact .cpt y 0 b0 (o0 + n.toNat * s) fun j c hj => hc j c hj
    · -- a row
      rename_i el id hu hex
      split at h
      · rename_i fz s xs hid
        rw [guardP_some] at h
        obtain ⟨⟨h0, hlt, hs⟩, hh⟩ := h
        cases hh
        rw [hex] at hx
        obtain ⟨_, hn, hr⟩ := hx.ref_inv
        obtain ⟨a, cap, hu', hle, _, hc⟩ := hr fz s xs hid
        obtain ⟨b0, base, c, E, z, hρ, ha, _, _⟩ := hc (by omega)
        subst ha
        have hts : 0 < tsize P el := by
          rcases H.row id fz s xs hid with ⟨hn, _⟩ | ⟨_, _, _, _, _, _, _, _, h0, _⟩
          · rw [hρ] at hn; cases hn
          · omega
        refine ok_quiet H hb (u := .pointer (some ⟨b0, base + n.toNat * s, none⟩)) ?_ ?_
        · simp [execOp, ho, Instr.indexAt, hαi, asIntOf, run_underlying hu, hu', h0, hlt, run_size' hts, hs, add_none]
        · exact .ept id n.toNat 0 b0 (base + n.toNat * s) hn fun fz' s' xs' hid' => by rw [hid] at hid'; cases hid'; exact ⟨base, hρ, rfl⟩
      · cases h
    · rename_i el id off len hu hex
      split at h
      · rename_i fz s xs hid
        rw [guardP_some] at h
        obtain ⟨⟨h0, hlt, hs⟩, hh⟩ := h
        cases hh
        rw [hex] at hx
        obtain ⟨_, hn, hr⟩ := hx.sub_inv
        obtain ⟨hle2, a, cap, hu', hle, _, hc⟩ := hr fz s xs hid
        obtain ⟨b0, base, c, E, z, hρ, ha, _, _⟩ := hc (by omega)
        subst ha
        have hts : 0 < tsize P el := by
          rcases H.row id fz s xs hid with ⟨hn, _⟩ | ⟨_, _, _, _, _, _, _, _, h0, _⟩
          · rw [hρ] at hn; cases hn
          · omega
        refine ok_quiet H hb (u := .pointer (some ⟨b0, base + (off + n.toNat) * s, none⟩)) ?_ ?_
        · simp [execOp, ho, Instr.indexAt, hαi, asIntOf, run_underlying hu, hu', h0, hlt, run_size' hts, hs, add_none, Nat.add_mul, Nat.add_assoc]
        · exact .ept id (off + n.toNat) 0 b0 (base + (off + n.toNat) * s) hn fun fz' s' xs' hid' => by rw [hid] at hid'; cases hid'; exact ⟨base, hρ, rfl⟩
      · cases h
    · rename_i n' el id off hu hex
      rw [guardP_some] at h
      obtain ⟨⟨h0, hlt, hts⟩, hh⟩ := h
      cases hh
      rw [hex] at hx
      obtain ⟨b0, hu', hn, hr⟩ := hx.ptr_inv
      refine ok_quiet H hb (u := .pointer (some ⟨b0, off + n.toNat * tsize P el, none⟩)) ?_ (.ptr id _ b0 hn hr)
      simp [execOp, ho, Instr.indexAt, hαi, asIntOf, run_underlying hu, hu', Instr.sureAddr, h0, hlt, run_size' hts, add_none]
    · rename_i n' el v' off hu hex
      rw [guardP_some] at h
      obtain ⟨⟨h0, hlt, hts⟩, hh⟩ := h
      cases hh
      rw [hex] at hx
      obtain ⟨b0, o0, hu', hc⟩ := hx.cpt_inv
      refine ok_quiet H hb (u := .pointer (some ⟨b0, o0 + (off + n.toNat * tsize P el), none⟩)) ?_ (.cpt v' _ b0 o0 hc)
      simp [execOp, ho, Instr.indexAt, hαi, asIntOf, run_underlying hu, hu', Instr.sureAddr, h0, hlt, run_size' hts, add_none, Nat.add_assoc]
    · rename_i n' el id j off hu hex
      rw [guardP_some] at h
      obtain ⟨⟨h0, hlt, hts⟩, hh⟩ := h
      cases hh
      rw [hex] at hx
      obtain ⟨b0, o0, hu', hn, hr⟩ := hx.ept_inv
      refine ok_quiet H hb (u := .pointer (some ⟨b0, o0 + (off + n.toNat * tsize P el), none⟩)) ?_ (.ept id j _ b0 o0 hn hr)
      simp [execOp, ho, Instr.indexAt, hαi, asIntOf, run_underlying hu, hu', Instr.sureAddr, h0, hlt, run_size' hts, add_none, Nat.add_assoc]
    · cases h
  · cases h

theorem op_index (H : HOk Γ) (hb : Fresh Γ.n b) (he : ∀ x, VR Γ (e x) (α x)) {t : TypeId} {x i : Operand} (ho : o.op = .index t x i) {v : V} {ws : List (Nat × Ob)} (h : opSem P o.op e Γ.h b = some (v, ws)) : OpOk P o α Γ b v ws := by
  rw [ho] at h
  simp only [opSem] at h
  have hx := he x
  have hi := he i
  split at h
  · rename_i ki n hei
    rw [hei] at hi
    have hαi := hi.int_inv
    split at h
    · rename_i n' el cs hu hex
      simp only [guardP_some, Option.map_eq_some_iff] at h
      obtain ⟨⟨h0, hlt, hts⟩, y, hy, hh⟩ := h
      cases hh
      rw [hex] at hx
      obtain ⟨us, hu', hcr⟩ := hx.agg_inv
      obtain ⟨u, hrun, hv⟩ := readC_part (P := P) hcr hy Γ.w
      refine ok_quiet H hb ?_ hv
      simp [execOp, ho, Instr.index, hαi, asIntOf, run_underlying hu, hu', h0, hlt, run_size' hts, hrun]
    · rename_i s hu hex
      simp only [guardP_some, Option.map_eq_some_iff] at h
      obtain ⟨h0, c, hc, hh⟩ := h
      cases hh
      rw [hex] at hx
      obtain ⟨bs, hu', hbs⟩ := hx.str_inv
      have hg : bs[n.toNat]? = some c := by
        rw [← hbs] at hc
        have hlt := (List.getElem?_eq_some_iff.1 hc).1
        have hlt' : n.toNat < bs.size := by rw [Array.length_toList] at hlt; exact hlt
        rw [getElem?_pos bs n.toNat hlt']
        rw [Array.getElem?_toList] at hc
        rw [← hc]
        exact (Array.getElem?_eq_getElem (by rw [Array.length_toList] at hlt; exact hlt)).symm
      refine ok_quiet H hb (u := .int .u8 c.toNat) ?_ (.pure (.int _ _))
      simp [execOp, ho, Instr.index, hαi, asIntOf, run_underlying hu, hu', h0, hg]
    · cases h
  · cases h

theorem op_extract (H : HOk Γ) (hb : Fresh Γ.n b) (he : ∀ x, VR Γ (e x) (α x)) {x : Operand} {i : Nat} (ho : o.op = .extract x i) {v : V} {ws : List (Nat × Ob)} (h : opSem P o.op e Γ.h b = some (v, ws)) : OpOk P o α Γ b v ws := by
  rw [ho] at h
  simp only [opSem] at h
  have hx := he x
  split at h
  · rename_i vs hex
    simp only [Option.map_eq_some_iff] at h
    obtain ⟨y, hy, hh⟩ := h
    cases hh
    rw [hex] at hx
    obtain ⟨us, hu', hl, hc⟩ := hx.tup_inv
    have hlt : i < us.size := by rw [← hl]; exact (List.getElem?_eq_some_iff.1 hy).1
    refine ok_quiet H hb (u := us[i]) ?_ (hc i _ _ hy (Array.getElem?_eq_getElem hlt))
    simp [execOp, ho, Instr.extract, hu', hlt]
  · cases h

theorem op_small (H : HOk Γ) (hb : Fresh Γ.n b) (he : ∀ x, VR Γ (e x) (α x)) {x : Operand} (ho : o.op = .move x ∨ o.op = .assign x) {v : V} {ws : List (Nat × Ob)} (h : opSem P o.op e Γ.h b = some (v, ws)) : OpOk P o α Γ b v ws := by
  rcases ho with ho | ho <;> (rw [ho] at h; simp only [opSem] at h; cases h; exact ok_quiet H hb (by simp [execOp, ho]) (he x))

theorem op_pick (H : HOk Γ) (hb : Fresh Γ.n b) (he : ∀ x, VR Γ (e x) (α x)) {c x y : Operand} (ho : o.op = .pick c x y) {v : V} {ws : List (Nat × Ob)} (h : opSem P o.op e Γ.h b = some (v, ws)) : OpOk P o α Γ b v ws := by
  rw [ho] at h
  simp only [opSem] at h
  have hc := he c
  split at h
  · rename_i t hec
    cases h
    rw [hec] at hc
    cases t with
    | true => exact ok_quiet H hb (u := α x) (by simp [execOp, ho, hc.bool_inv, asBool]) (by simpa using he x)
    | false => exact ok_quiet H hb (u := α y) (by simp [execOp, ho, hc.bool_inv, asBool]) (by simpa using he y)
  · cases h

theorem op_bin (H : HOk Γ) (hb : Fresh Γ.n b) (he : ∀ x, VR Γ (e x) (α x)) {op : BinOp} {t t' : TypeId} {x y : Operand} (ho : o.op = .binOp op t x y t') {v : V} {ws : List (Nat × Ob)} (h : opSem P o.op e Γ.h b = some (v, ws)) : OpOk P o α Γ b v ws := by
  rw [ho] at h
  simp only [opSem, Option.map_eq_some_iff] at h
  obtain ⟨r, hr, hh⟩ := h
  cases hh
  obtain ⟨u, hrun, hv⟩ := binV_sound (P := P) (ox := x) (oy := y) Γ.w hr rfl (he x) (he y)
  refine ok_quiet H hb ?_ (hv Γ)
  rw [Sem.run_bind] at hrun
  simp only [execOp, ho, Sem.run_bind]
  cases hg : (eqGuard op t x y (α x) (α y)).run P Γ.w with
  | ok a w' => rw [hg] at hrun; simp only [Result.andThen] at hrun ⊢; simp [hrun]
  | halt hh w' => rw [hg] at hrun; simp [Result.andThen] at hrun

theorem op_un (H : HOk Γ) (hb : Fresh Γ.n b) (he : ∀ x, VR Γ (e x) (α x)) {op : UnOp} {t : TypeId} {x : Operand} (ho : o.op = .unOp op t x) {v : V} {ws : List (Nat × Ob)} (h : opSem P o.op e Γ.h b = some (v, ws)) : OpOk P o α Γ b v ws := by
  rw [ho] at h
  simp only [opSem, Option.map_eq_some_iff] at h
  obtain ⟨r, hr, hh⟩ := h
  cases hh
  obtain ⟨u, hrun, hv⟩ := unV_sound (P := P) Γ.w hr (he x)
  exact ok_quiet H hb (by simp [execOp, ho, hrun]) (hv Γ)

theorem op_nilCheck (H : HOk Γ) (hb : Fresh Γ.n b) (he : ∀ x, VR Γ (e x) (α x)) {x : Operand} (ho : o.op = .nilCheck x) {v : V} {ws : List (Nat × Ob)} (h : opSem P o.op e Γ.h b = some (v, ws)) : OpOk P o α Γ b v ws := by
  rw [ho] at h
  simp only [opSem] at h
  have hx := he x
  split at h
  · rename_i id off hex
    cases h
    rw [hex] at hx
    obtain ⟨b0, hu, _⟩ := hx.ptr_inv
    exact ok_quiet H hb (u := α x) (by simp [execOp, ho, hu]) hx
  · rename_i id i off hex
    cases h
    rw [hex] at hx
    obtain ⟨b0, o0, hu, _⟩ := hx.ept_inv
    exact ok_quiet H hb (u := α x) (by simp [execOp, ho, hu]) hx
  · rename_i v off hex
    cases h
    rw [hex] at hx
    obtain ⟨b0, o0, hu, _⟩ := hx.cpt_inv
    exact ok_quiet H hb (u := α x) (by simp [execOp, ho, hu]) hx
  · rename_i f a c hex
    cases h
    rw [hex] at hx
    obtain ⟨ua, uc, hu, _⟩ := hx.fn_inv
    exact ok_quiet H hb (u := α x) (by simp [execOp, ho, hu]) hx
  · rename_i l hex
    cases h
    rw [hex] at hx
    obtain ⟨b0, hu, _⟩ := hx.yld_inv
    exact ok_quiet H hb (u := α x) (by simp [execOp, ho, hu]) hx
  · cases h

/-- A slice's elements as an array. -/
theorem op_arrayPtr (H : HOk Γ) (hb : Fresh Γ.n b) (he : ∀ x, VR Γ (e x) (α x)) {t : TypeId} {x : Operand} (ho : o.op = .sliceToArrayPointer t x) {v : V} {ws : List (Nat × Ob)} (h : opSem P o.op e Γ.h b = some (v, ws)) : OpOk P o α Γ b v ws := by
  rw [ho] at h
  simp only [opSem] at h
  have hx := he x
  split at h
  · rename_i n el hu
    rw [guardP_some] at h
    obtain ⟨⟨hn0, hts⟩, h⟩ := h
    split at h
    · rename_i id off len hex
      split at h
      · rename_i cs hid
        rw [guardP_some] at h
        obtain ⟨hle, hh⟩ := h
        cases hh
        rw [hex] at hx
        obtain ⟨b0, cap, hu', _, hn, hc⟩ := hx.vsl_inv
        refine ok_quiet H hb (u := .pointer (some ⟨b0, off, none⟩)) ?_ (.ptr id off b0 hn fun ob hob _ => (hc cs hid).2)
        simp [execOp, ho, Instr.arrayAt, run_underlying hu, hu', show ¬ len < n by omega]
      · cases h
    · rename_i id hex
      split at h
      · rename_i fz s xs hid
        rw [guardP_some] at h
        obtain ⟨hle, hh⟩ := h
        cases hh
        rw [hex] at hx
        obtain ⟨_, hn, hr⟩ := hx.ref_inv
        obtain ⟨a, cap, hu', hle', _, hc⟩ := hr fz s xs hid
        obtain ⟨b0, base, c, E, z, hρ, ha, _, _⟩ := hc (by omega)
        subst ha
        refine ok_quiet H hb (u := .pointer (some ⟨b0, base + 0 * s + 0, none⟩)) ?_ (.ept id 0 0 b0 (base + 0 * s) hn fun fz' s' xs' hid' => by rw [hid] at hid'; cases hid'; exact ⟨base, hρ, rfl⟩)
        simp [execOp, ho, Instr.arrayAt, run_underlying hu, hu', show ¬ xs.length < n by omega]
      · cases h
    · rename_i id off len hex
      split at h
      · rename_i fz s xs hid
        rw [guardP_some] at h
        obtain ⟨hle, hh⟩ := h
        cases hh
        rw [hex] at hx
        obtain ⟨_, hn, hr⟩ := hx.sub_inv
        obtain ⟨hle2, a, cap, hu', hle', _, hc⟩ := hr fz s xs hid
        obtain ⟨b0, base, c, E, z, hρ, ha, _, _⟩ := hc (by omega)
        subst ha
        refine ok_quiet H hb (u := .pointer (some ⟨b0, base + off * s + 0, none⟩)) ?_ (.ept id off 0 b0 (base + off * s) hn fun fz' s' xs' hid' => by rw [hid] at hid'; cases hid'; exact ⟨base, hρ, rfl⟩)
        simp [execOp, ho, Instr.arrayAt, run_underlying hu, hu', show ¬ len < n by omega]
      · cases h
    · cases h
  · cases h

theorem op_makeFunc (H : HOk Γ) (hb : Fresh Γ.n b) (he : ∀ x, VR Γ (e x) (α x)) {f : Fn} {a c : Array Operand} (ho : o.op = .makeFunc f a c) {v : V} {ws : List (Nat × Ob)} (h : opSem P o.op e Γ.h b = some (v, ws)) : OpOk P o α Γ b v ws := by
  rw [ho] at h
  simp only [opSem] at h
  cases h
  have key : ∀ (a : Array Operand) (i : Nat) (c : V) (u : Value), (a.toList.map e)[i]? = some c → (a.map α)[i]? = some u → VR Γ c u := by
    intro a i c u hc hu
    simp only [List.getElem?_map, Array.getElem?_toList, Array.getElem?_map, Option.map_eq_some_iff] at hc hu
    obtain ⟨x, hx, rfl⟩ := hc
    obtain ⟨y, hy, rfl⟩ := hu
    rw [hx] at hy; cases hy
    exact he x
  exact ok_quiet H hb (by simp [execOp, ho, Instr.makeFunc]) (.fn f _ _ (a.map α) (c.map α) (by simp) (by simp) (key a) (key c))

end Go.Sym
