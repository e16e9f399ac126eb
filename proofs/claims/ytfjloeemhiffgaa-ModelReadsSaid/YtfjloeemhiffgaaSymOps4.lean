/- DERIVED. The operations, fourth part: cutting; lengths; conversions. -/
import Derived.Test.YtfjloeemhiffgaaSymOps3
import Derived.Lib.ConvBytes
set_option linter.unusedVariables false
set_option linter.unusedSimpArgs false
namespace Go.Sym
variable {P : Program} {o : Oper} {α : Operand → Value} {e : Operand → V} {Γ : Cx} {b : Nat}

theorem bound_inv {x : V} {n : Nat} {u : Value} (h : bound x = some n) (hv : VR Γ x u) : ∃ k, u = .int k n := by
  unfold bound at h
  split at h
  · rename_i k i
    simp only [guardP_some, Option.some.injEq] at h
    obtain ⟨h0, rfl⟩ := h
    rw [hv.int_inv]
    exact ⟨k, by rw [Int.toNat_of_nonneg h0]⟩
  · cases h

theorem run_sliceBound {k : IntKind} {n y : Nat} {c : BoundsCode} {w : World} (h : n ≤ y) : (Instr.sliceBound (.int k n) y c).run P w = .ok n w := by
  simp [Instr.sliceBound, asIntOf, h]

theorem opt_VR (he : ∀ x, VR Γ (e x) (α x)) {lo : Option Operand} {d n : Nat} (h : boundD (lo.map e) d = some n) : (lo = none ∧ n = d) ∨ ∃ x k, lo = some x ∧ α x = .int k n := by
  cases lo with
  | none => simp [boundD] at h; exact .inl ⟨rfl, h.symm⟩
  | some x =>
    simp only [Option.map_some, boundD] at h
    obtain ⟨k, hk⟩ := bound_inv h (he x)
    exact .inr ⟨x, k, rfl, hk⟩

/-- The bounds go through. -/
theorem run_bounds (he : ∀ x, VR Γ (e x) (α x)) {lo hi mx : Option Operand} {isS : Bool} {len cap l r m : Nat} {w : World}
    (hl : boundD (lo.map e) 0 = some l) (hr : boundD (hi.map e) len = some r) (hm : (mx = none ∧ m = cap) ∨ (∃ x k, mx = some x ∧ α x = .int k m ∧ hi ≠ none)) (h1 : l ≤ r) (h2 : r ≤ m) (h3 : m ≤ cap) (h4 : len ≤ cap) :
    (Instr.sliceBounds isS len cap (lo.map α) (hi.map α) (mx.map α)).run P w = .ok (l, r, m) w := by
  rcases hm with ⟨rfl, rfl⟩ | ⟨xm, km, rfl, hxm, hhi⟩ <;> rcases opt_VR he hr with ⟨rfl, rfl⟩ | ⟨x, k, rfl, hx⟩ <;> rcases opt_VR he hl with ⟨rfl, rfl⟩ | ⟨x', k', rfl, hx'⟩ <;>
    first
      | exact absurd rfl hhi
      | (simp [Instr.sliceBounds, *, run_sliceBound h1, run_sliceBound h2, run_sliceBound h3]; done)

theorem run_sliceAt_slice {t el : TypeId} (ht : P.underlying t = some (.slice el)) (hz : 0 < tsize P el) {a : Option Addr} {len cap l r m : Nat} {lo hi mx : Option Value} {w : World}
    (h : (Instr.sliceBounds true len cap lo hi mx).run P w = .ok (l, r, m) w) :
    (Instr.sliceAt t (.slice a len cap) lo hi mx).run P w = .ok (.slice (if m = l then a else a.map (·.add (l * tsize P el))) (r - l) (m - l)) w := by
  simp [Instr.sliceAt, Instr.slice, run_underlying ht, h, run_size' hz]

theorem op_slice (H : HOk Γ) (hb : Fresh Γ.n b) (he : ∀ x, VR Γ (e x) (α x)) {t : TypeId} {x : Operand} {lo hi mx : Option Operand} (ho : o.op = .slice t x lo hi mx) {v : V} {ws : List (Nat × Ob)} (h : opSem P o.op e Γ.h b = some (v, ws)) : OpOk P o α Γ b v ws := by
  rw [ho] at h
  simp only [opSem] at h
  have hx := he x
  have hexec : ∀ u, (Instr.sliceAt t (α x) (lo.map α) (hi.map α) (mx.map α)).run P Γ.w = .ok u Γ.w → (execOp α o).run P Γ.w = .ok (.value u) Γ.w := by
    intro u hu; simp [execOp, ho, hu]
  split at h
  · -- an array's cells
    rename_i n el id off hu hex
    simp only [Option.bind_eq_some_iff] at h
    obtain ⟨l, hl, r, hr, h⟩ := h
    split at h
    · rename_i cs hid
      rw [guardP_some] at h
      obtain ⟨⟨h1, h2, h3, h4, h5, h6⟩, hh⟩ := h
      cases hh
      subst h4
      rw [hex] at hx
      obtain ⟨b0, hαx, hn, hρ⟩ := hx.ptr_inv
      have hb2 := run_bounds (P := P) (Γ := Γ) (w := Γ.w) (isS := false) (len := n) (cap := n) (m := n) (mx := none) he hl hr (.inl ⟨rfl, rfl⟩) h1 h2 (Nat.le_refl _) (Nat.le_refl _)
      refine ok_quiet H hb (hexec (.slice (some ⟨b0, off + l, none⟩) (r - l) (n - l)) ?_) (.vsl id (off + l) (r - l) b0 (n - l) hn (by omega) fun cs' e => ?_)
      · have hne : ¬ n = l := by omega
        simp only [Option.map_none] at hb2
        have hts : 0 < tsize P el := by omega
        simp [Instr.sliceAt, run_underlying hu, hαx, Instr.sureAddr, hb2, run_size' hts, h5, hne, Addr.add]
      · rw [hid] at e
        cases e
        exact ⟨by omega, hρ _ hid rfl⟩
    · cases h
  · cases h
  simp only [guardP_some, Option.map_eq_some_iff] at h
  obtain ⟨hts, y, hy, hh⟩ := h
  cases hh
  have htel : ∀ sz, sz = ((telem P t).map (tsize P)).getD 0 → 0 < sz → ∃ el, P.underlying t = some (.slice el) ∧ tsize P el = sz := by
    intro sz h1 h2
    cases hel : telem P t with
    | none => simp [hel] at h1; omega
    | some el => simp [hel] at h1; exact ⟨el, telem_inv hel, h1.symm⟩
  unfold sliceV at hy
  split at hy
  · -- a text
    rename_i s hex
    split at hy
    · rename_i hmx
      simp only [Option.bind_eq_some_iff, guardP_some, Option.some.injEq] at hy
      obtain ⟨l, hl, r, hr, ⟨h1, h2, h3⟩, rfl⟩ := hy
      rw [hex] at hx
      obtain ⟨bs, hu, hbs⟩ := hx.str_inv
      have hmx' : mx = none := by cases mx <;> simp_all
      subst hmx'
      have ht : P.underlying t = some .string := by
        unfold tslice at hts; unfold telem at h3
        split at hts
        · assumption
        · rename_i e hu; simp [hu] at h3
        · cases hts
      have hlen : s.length = bs.size := by rw [← hbs, Array.length_toList]; rfl
      have hb2 := run_bounds (P := P) (Γ := Γ) (w := Γ.w) (isS := false) (len := s.length) (cap := s.length) (m := s.length) (mx := none) he hl hr (.inl ⟨rfl, rfl⟩) h1 h2 (Nat.le_refl _) (Nat.le_refl _)
      have e2 : (bs.extract l r).data.toList = (s.drop l).take (r - l) := by
        rw [← hbs]
        simp [List.extract_eq_take_drop]
      refine ok_quiet H hb (hexec (.string (bs.extract l r)) ?_) (by rw [← e2]; exact .pure (.str _))
      simp only [Option.map_none] at hb2
      rw [hlen] at hb2
      simp [Instr.sliceAt, Instr.slice, run_underlying ht, hu, hb2]
    · cases hy
  · -- a slice that nobody writes to
    rename_i nl cl s xs hex
    simp only [Option.bind_eq_some_iff, guardP_some, Option.some.injEq] at hy
    obtain ⟨l, hl, r, hr, m, hm, ⟨h1, h2, h3, h4, h5, h6⟩, rfl⟩ := hy
    rw [hex] at hx
    obtain ⟨el, ht, hsz⟩ := htel _ rfl h5
    have hsp := hx.sl_inv
    generalize hα : α x = u at hsp
    cases hsp with
    | sl _ _ _ _ a cap hc hclip hnt hnf hnn hs0 hspot hxl hee hvv =>
      -- the bound of the room
      obtain ⟨m', hm', hmc, hm2, hm3⟩ : ∃ m', ((mx = none ∧ m' = cap) ∨ (∃ x k, mx = some x ∧ α x = .int k m' ∧ hi ≠ none)) ∧ m' ≤ cap ∧ r ≤ m' ∧ (mx.isSome = true → m' = r) := by
        rcases opt_VR he hm with ⟨rfl, hmd⟩ | ⟨xm, k, rfl, hxm⟩
        · exact ⟨cap, .inl ⟨rfl, rfl⟩, Nat.le_refl _, by omega, by simp⟩
        · subst h3
          have hhi : hi ≠ none := by intro hn; subst hn; simp at h6
          exact ⟨m, .inr ⟨xm, k, rfl, hxm, hhi⟩, by omega, Nat.le_refl _, fun _ => rfl⟩
      have hb2 := run_bounds (P := P) (Γ := Γ) (w := Γ.w) (isS := true) (len := xs.length) (cap := cap) (m := m') (mx := mx) he hl hr hm' h1 hm2 hmc hc
      have hrun := run_sliceAt_slice (P := P) ht (by omega) (a := a) hb2
      rw [← hα] at hrun
      have hlen : ((xs.drop l).take (r - l)).length = r - l := by simp; omega
      refine ok_quiet H hb (hexec _ hrun) (.pure ?_)
      have hget : ∀ (i : Nat) (x : V), ((xs.drop l).take (r - l))[i]? = some x → i < r - l ∧ xs[l + i]? = some x := by
        intro i x hx
        have hi : i < r - l := by have := (List.getElem?_eq_some_iff.1 hx).1; omega
        rw [List.getElem?_take_of_lt hi, List.getElem?_drop] at hx
        exact ⟨hi, hx⟩
      rw [show (.slice (if m' = l then a else a.map (·.add (l * tsize P el))) (r - l) (m' - l) : Value) = .slice (if m' = l then a else a.map (·.add (l * tsize P el))) ((xs.drop l).take (r - l)).length (m' - l) by rw [hlen]]
      have hne : ∀ (i : Nat) (x : V), ((xs.drop l).take (r - l))[i]? = some x → m' ≠ l ∧ s = tsize P el := by
        intro i x hx
        obtain ⟨hi, hx'⟩ := hget i x hx
        refine ⟨by omega, ?_⟩
        rcases h4 with h4 | h4
        · omega
        · rw [List.isEmpty_iff] at h4; subst h4; simp at hx'
      refine .sl nl _ s _ _ _ (by omega) ?_ ?_ ?_ ?_ ?_ ?_ ?_ ?_ ?_
      · intro hcl
        rw [hlen]
        simp only [Bool.or_eq_true, Bool.and_eq_true, Option.isSome_map, Option.isNone_map] at hcl
        rcases hcl with hcl | ⟨hcl, hhi⟩
        · rw [hm3 hcl]
        · have := hclip hcl
          have hhn : hi = none := by cases hi <;> simp_all
          subst hhn
          simp only [Option.map_none, boundD, Option.some.injEq] at hr
          rcases hm' with ⟨_, h⟩ | ⟨_, _, _, _, h⟩
          · omega
          · exact absurd rfl h
      · intro hn; have := hnt hn; subst this; simp
      · intro hn
        have := hnf hn
        split
        · exact this
        · simpa using this
      · intro hn
        split at hn
        · omega
        · have : a = none := by simpa using hn
          have := hnn this; omega
      · intro hne'
        refine hs0 (fun h => hne' (by simp [h]))
      · intro hpos0 ad had
        have hspot := hspot (by omega)
        split at had
        · exact hspot ad had
        · simp only [Option.map_eq_some_iff] at had
          obtain ⟨a0, ha0, rfl⟩ := had
          have := hspot a0 ha0
          obtain ⟨b0, o0, sp⟩ := a0
          simp only at this; subst this
          rw [add_none]
      · intro i x hx
        exact hxl _ x (hget i x hx).2
      · intro ad i x j c had hx hj
        obtain ⟨hi, hx'⟩ := hget i x hx
        obtain ⟨hml, hs⟩ := hne i x hx
        rw [if_neg hml] at had
        simp only [Option.map_eq_some_iff] at had
        obtain ⟨a0, ha0, rfl⟩ := had
        have hsp0 := hspot (by have := (List.getElem?_eq_some_iff.1 hx').1; omega) a0 ha0
        obtain ⟨b0, o0, sp⟩ := a0
        simp only at hsp0; subst hsp0
        have := hee _ (l + i) x j c ha0 hx' hj
        rw [add_none]
        simp only at this ⊢
        rw [show o0 + l * tsize P el + (i * s + j) = o0 + ((l + i) * s + j) by rw [← hs, Nat.add_mul]; omega]
        exact this
      · intro ad i x j c u had hx hj hu
        obtain ⟨hi, hx'⟩ := hget i x hx
        obtain ⟨hml, hs⟩ := hne i x hx
        rw [if_neg hml] at had
        simp only [Option.map_eq_some_iff] at had
        obtain ⟨a0, ha0, rfl⟩ := had
        have hsp0 := hspot (by have := (List.getElem?_eq_some_iff.1 hx').1; omega) a0 ha0
        obtain ⟨b0, o0, sp⟩ := a0
        simp only at hsp0; subst hsp0
        rw [add_none] at hu
        simp only at hu
        rw [show o0 + l * tsize P el + (i * s + j) = o0 + ((l + i) * s + j) by rw [← hs, Nat.add_mul]; omega] at hu
        exact hvv _ (l + i) x j c u ha0 hx' hj hu
  · -- a row
    rename_i id hex
    split at hy
    · rename_i fz s xs hid
      simp only [Option.bind_eq_some_iff, guardP_some, Option.some.injEq] at hy
      obtain ⟨l, hl, r, hr, ⟨h1, h2, h3, h4, h5⟩, rfl⟩ := hy
      rw [hex] at hx
      have hmx : mx = none := by cases mx <;> simp_all
      subst hmx
      obtain ⟨el, ht, hsz⟩ := htel _ rfl h5
      obtain ⟨_, hn, hr0⟩ := hx.ref_inv
      obtain ⟨a, cap, hu, hle, hspot, hca⟩ := hr0 fz s xs hid
      have hb2 := run_bounds (P := P) (Γ := Γ) (w := Γ.w) (isS := true) (len := xs.length) (cap := cap) (m := cap) (mx := none) he hl hr (.inl ⟨rfl, rfl⟩) h1 (by omega) (Nat.le_refl _) hle
      have hrun := run_sliceAt_slice (P := P) ht (by omega) (a := a) hb2
      rw [← hu] at hrun
      refine ok_quiet H hb (hexec _ hrun) (.sub id l (r - l) _ rfl hn fun fz' s' xs' hid' => ?_)
      rw [hid] at hid'; cases hid'
      refine ⟨by omega, _, cap - l, rfl, by omega, ?_, ?_⟩
      · intro hpos0 ad had
        have hspot := hspot (by omega)
        split at had
        · exact hspot ad had
        · simp only [Option.map_eq_some_iff] at had
          obtain ⟨a0, ha0, rfl⟩ := had
          have := hspot a0 ha0
          obtain ⟨b0, o0, sp⟩ := a0
          simp only at this; subst this
          rw [add_none]
      · intro hpos
        obtain ⟨b0, base, c, E, z, hρ, ha, hbl, hcs⟩ := hca (by omega)
        refine ⟨b0, base, c, E, z, hρ, ?_, hbl, ?_⟩
        · rw [if_neg (by omega), ha]
          simp [add_none, h4, hsz]
        · rw [show l + (cap - l) = cap by omega]
          simpa using hcs
    · cases hy
  · rename_i id off len hex
    split at hy
    · rename_i fz s xs hid
      simp only [Option.bind_eq_some_iff, guardP_some, Option.some.injEq] at hy
      obtain ⟨l, hl, r, hr, ⟨h1, h2, h3, h4, h5⟩, rfl⟩ := hy
      rw [hex] at hx
      have hmx : mx = none := by cases mx <;> simp_all
      subst hmx
      obtain ⟨el, ht, hsz⟩ := htel _ rfl h5
      obtain ⟨_, hn, hr0⟩ := hx.sub_inv
      obtain ⟨hlen2, a, cap, hu, hle, hspot, hca⟩ := hr0 fz s xs hid
      have hb2 := run_bounds (P := P) (Γ := Γ) (w := Γ.w) (isS := true) (len := len) (cap := cap) (m := cap) (mx := none) he hl hr (.inl ⟨rfl, rfl⟩) h1 (by omega) (Nat.le_refl _) hle
      have hrun := run_sliceAt_slice (P := P) ht (by omega) (a := a) hb2
      rw [← hu] at hrun
      refine ok_quiet H hb (hexec _ hrun) (.sub id (off + l) (r - l) _ rfl hn fun fz' s' xs' hid' => ?_)
      rw [hid] at hid'; cases hid'
      refine ⟨by omega, _, cap - l, rfl, by omega, ?_, ?_⟩
      · intro hpos0 ad had
        have hspot := hspot (by omega)
        split at had
        · exact hspot ad had
        · simp only [Option.map_eq_some_iff] at had
          obtain ⟨a0, ha0, rfl⟩ := had
          have := hspot a0 ha0
          obtain ⟨b0, o0, sp⟩ := a0
          simp only at this; subst this
          rw [add_none]
      · intro hpos
        obtain ⟨b0, base, c, E, z, hρ, ha, hbl, hcs⟩ := hca (by omega)
        refine ⟨b0, base, c, E, z, hρ, ?_, hbl, ?_⟩
        · rw [if_neg (by omega), ha]
          simp [add_none, h4, hsz, Nat.add_mul, Nat.add_assoc]
        · rw [show off + l + (cap - l) = off + cap by omega]
          exact hcs
    · cases hy
  · cases hy

theorem lenV_sound (H : HOk Γ) {x : V} {u : Value} {n : Nat} (h : lenV Γ.h x = some n) (hv : VR Γ x u) : ∃ a cap, u = .slice a n cap := by
  unfold lenV at h
  split at h
  · cases h
    cases hv.sl_inv
    exact ⟨_, _, rfl⟩
  · split at h
    · rename_i fz s xs hid
      cases h
      obtain ⟨a, cap, hu, _⟩ := hv.ref_inv.2.2 _ _ _ hid
      exact ⟨a, cap, hu⟩
    · cases h
  · split at h
    · rename_i fz s xs hid
      cases h
      obtain ⟨_, a, cap, hu, _⟩ := hv.sub_inv.2.2 _ _ _ hid
      exact ⟨a, cap, hu⟩
    · cases h
  · split at h
    · cases h
      obtain ⟨b0, cap, hu, _⟩ := hv.vsl_inv
      exact ⟨_, cap, hu⟩
    · cases h
  · cases h

theorem toList_one {A : Type} {a : Array A} {x : A} (h : a.toList = [x]) : a = #[x] := by
  apply Array.ext'; simpa using h
theorem toList_two {A : Type} {a : Array A} {x y : A} (h : a.toList = [x, y]) : a = #[x, y] := by
  apply Array.ext'; simpa using h

theorem bytesWorld_eq (w : World) (el : TypeId) (s : ByteArray) : Lib.bytesWorld w el s = w.drew.alloc (.cells (Lib.bytesCells w el s) el ((Lib.bytesCells w el s).size, (Lib.bytesCells w el s).size + 1)) := by
  have hh : (Lib.bytesWorld w el s).heap = (w.drew.alloc (.cells (Lib.bytesCells w el s) el ((Lib.bytesCells w el s).size, (Lib.bytesCells w el s).size + 1))).heap := by
    apply Array.ext_getElem?
    intro k
    rcases Nat.lt_trichotomy k w.heap.size with h | h | h
    · rw [Lib.bytesWorld_at_old w el s k h]; exact (alloc_block w.drew _ k h).symm
    · subst h; rw [Lib.bytesWorld_at_new]; exact (alloc_new w.drew _).symm
    · rw [Array.getElem?_eq_none (by rw [Lib.bytesWorld_size]; omega), Array.getElem?_eq_none (by simp; omega)]
  have h2 : ∀ a b : World, a.heap = b.heap → a.tape = b.tape → a.drawn = b.drawn → a.os = b.os → a.output = b.output → a = b := by
    intro a b; cases a; cases b; simp_all
  refine h2 _ _ hh ?_ ?_ ?_ ?_ <;> (unfold Lib.bytesWorld World.freeze; rw [if_neg (by omega)]; rfl)

end Go.Sym
