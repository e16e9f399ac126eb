/-
  CodecRises: a greater number's bytes, the other way round, are greater as texts are; all have 8, for all numbers.
-/
import Derived.Test.YtegmincienhapaaCdA
set_option linter.unusedVariables false
set_option linter.unusedSimpArgs false
set_option maxRecDepth 100000
namespace Go.Proofs
open Go Go.Sym

theorem rev1 (k : Nat) (s : List UInt8) (b0 b1 b2 b3 b4 b5 b6 b7 : UInt8) : L3_1 k s (k + 10) 0 (IntKind.i64.wrap ((([b0, b1, b2, b3, b4, b5, b6, b7].map ub).length : Int) - 1)) ([b0, b1, b2, b3, b4, b5, b6, b7].map ub) = some (.e0 4 3 ([b7, b6, b5, b4, b3, b2, b1, b0].map ub)) := by kernel_rfl
theorem rev2 (k : Nat) (x : List V) (b0 b1 b2 b3 b4 b5 b6 b7 : UInt8) : L3_2 k x (k + 10) 0 (IntKind.i64.wrap ((([b0, b1, b2, b3, b4, b5, b6, b7].map ub).length : Int) - 1)) ([b0, b1, b2, b3, b4, b5, b6, b7].map ub) = some (.e0 4 3 ([b7, b6, b5, b4, b3, b2, b1, b0].map ub)) := by kernel_rfl
/-- The number of bytes, the highest first. -/
def valH : List UInt8 → Nat
  | [] => 0
  | c :: r => c.toNat * 256 ^ r.length + valH r
theorem valH_lt (l : List UInt8) : valH l < 256 ^ l.length := by
  induction l with
  | nil => simp [valH]
  | cons c r ih =>
    simp only [valH, List.length_cons, Nat.pow_succ]
    have := c.toNat_lt
    have h : c.toNat * 256 ^ r.length ≤ 255 * 256 ^ r.length := Nat.mul_le_mul_right _ (by omega)
    omega
theorem less_iff : ∀ (a b : List UInt8), a.length = b.length → (Op.bytesLess a b = true ↔ valH a < valH b) := by
  intro a
  induction a with
  | nil => intro b h; cases b with | nil => simp [Op.bytesLess, valH] | cons y t => cases h
  | cons x r ih =>
    intro b h
    cases b with
    | nil => cases h
    | cons y t =>
      have hl : r.length = t.length := by simpa using h
      have h1 := valH_lt r
      have h2 := valH_lt t
      have hi := ih t hl
      simp only [Op.bytesLess, valH]
      rw [← hl] at h2 ⊢
      generalize 256 ^ r.length = p at h1 h2
      rw [Bool.or_eq_true, Bool.and_eq_true, hi, decide_eq_true_iff, beq_iff_eq]
      rcases Nat.lt_trichotomy x.toNat y.toNat with hlt | heq | hgt
      · have h3 : (x.toNat + 1) * p ≤ y.toNat * p := Nat.mul_le_mul_right _ hlt
        rw [Nat.add_mul, Nat.one_mul] at h3
        exact ⟨fun _ => by omega, fun _ => .inl hlt⟩
      · have e : x = y := UInt8.toNat_inj.1 heq
        subst e
        have : ¬x < x := fun h => Nat.lt_irrefl _ (show x.toNat < x.toNat from h)
        constructor
        · rintro (h | ⟨_, h⟩)
          · exact absurd h this
          · omega
        · intro h; exact .inr ⟨rfl, by omega⟩
      · have h3 : (y.toNat + 1) * p ≤ x.toNat * p := Nat.mul_le_mul_right _ hgt
        rw [Nat.add_mul, Nat.one_mul] at h3
        constructor
        · rintro (h | ⟨h, _⟩)
          · exact absurd (show x.toNat < y.toNat from h) (by omega)
          · subst h; omega
        · intro h; omega
theorem less_val (a b : List UInt8) (h : a.length = b.length) : Op.bytesLess a b = decide (valH a < valH b) := by
  rw [Bool.eq_iff_iff, decide_eq_true_iff]; exact less_iff a b h
def revL (w : Wd) : List UInt8 := [byteAt w 7, byteAt w 6, byteAt w 5, byteAt w 4, byteAt w 3, byteAt w 2, byteAt w 1, byteAt w 0]
theorem val_rev (w : Wd) : valH (revL w) = w.toNat := by
  have h := w.isLt
  simp only [revL, valH, byteAt, UInt8.toNat_ofNat', List.length_cons, List.length_nil]
  generalize w.toNat = x at *
  simp only [Nat.reducePow, Nat.reduceAdd, Nat.pow_zero, Nat.pow_one, Nat.div_one]
  omega
theorem low8 (w : Wd) : lowN w 8 = [byteAt w 0, byteAt w 1, byteAt w 2, byteAt w 3, byteAt w 4, byteAt w 5, byteAt w 6, byteAt w 7] := rfl
theorem law_codecRises {k : Nat} {n m : Wd} (hk : 10 ≤ k) : F3 k (n.toNat : Int) (m.toNat : Int) = some true := by
  unfold F3
  rw [g13 (by omega), Option.bind_some, gp (by simp [lowN, maxLen']), g13 (by omega), Option.bind_some, gp (by simp [lowN, maxLen'])]
  have r1 := rev1 k (lowN m 8) (byteAt n 0) (byteAt n 1) (byteAt n 2) (byteAt n 3) (byteAt n 4) (byteAt n 5) (byteAt n 6) (byteAt n 7)
  have r2 := rev2 k ((revL n).map ub) (byteAt m 0) (byteAt m 1) (byteAt m 2) (byteAt m 3) (byteAt m 4) (byteAt m 5) (byteAt m 6) (byteAt m 7)
  rw [← low8] at r1 r2
  show ((L3_1 k (lowN m 8) (k + 10) 0 (IntKind.i64.wrap ((((lowN n 8).map ub).length : Int) - 1)) ((lowN n 8).map ub)).bind _) = _
  rw [r1, Option.bind_some]
  show ((L3_2 k ((revL n).map ub) (k + 10) 0 (IntKind.i64.wrap ((((lowN m 8).map ub).length : Int) - 1)) ((lowN m 8).map ub)).bind _) = _
  rw [r2, Option.bind_some]
  show ((F15 (k + 2)).bind _) = _
  rw [g15 (by omega), Option.bind_some, cond_true]
  show (bif decide ((((revL n).map ub).length : Int) = 8) then (bif decide ((((revL m).map ub).length : Int) = 8) then (guardP (((revL n).map ub).all isByte = true) (guardP (((revL m).map ub).all isByte = true) (bif decide (decide ((n.toNat : Int) < (m.toNat : Int)) = Op.bytesLess (((revL n).map ub).map Sym.byteOf) (((revL m).map ub).map Sym.byteOf)) then (some (decide (decide ((n.toNat : Int) = (m.toNat : Int)) = decide (((revL n).map ub).map Sym.byteOf = ((revL m).map ub).map Sym.byteOf)))) else (some (false))))) else (some (false))) else (some (false))) = some true
  rw [cT (by simp [revL]), cT (by simp [revL]), gp (all_ub _), gp (all_ub _), byteOf_ub, byteOf_ub, less_val (revL n) (revL m) rfl, val_rev, val_rev]
  have e1 : decide ((n.toNat : Int) < (m.toNat : Int)) = decide (n.toNat < m.toNat) := decide_eq_decide.2 Int.ofNat_lt
  have e2 : decide ((n.toNat : Int) = (m.toNat : Int)) = decide (revL n = revL m) := decide_eq_decide.2 ⟨fun h => by rw [(eq_w n m).1 h], fun h => by rw [← val_rev n, ← val_rev m, h]⟩
  rw [e1, e2, cT rfl, dec_t rfl]
theorem ta22 : tagg Try.prog 22 = some false := by kernel_rfl
theorem VArgs_two {P : Program} {k : Nat} {a b : TypeId} {xs : List V} (h : VArgs P k [a, b] xs) : ∃ x y, xs = [x, y] ∧ VArg P k a x ∧ VArg P k b y := by
  match xs, h with
  | [x, y], ⟨hx, hy, _⟩ => exact ⟨x, y, rfl, hx, hy⟩
theorem open22 {k : Nat} {v : V} (h : VArg Try.prog (k + 1) 22 v) : ∃ w : Wd, v = V.int .u64 (w.toNat : Int) := by
  unfold VArg at h
  obtain ⟨vs, hv, h⟩ := h
  simp only [VT, Try.underlying22] at h
  obtain ⟨n, h1, hw⟩ := h
  obtain ⟨h2, h3⟩ := wf_u64 hw
  refine ⟨BitVec.ofNat 64 n.toNat, hv.trans ?_⟩
  rw [h1, BitVec.toNat_ofNat, Nat.mod_eq_of_lt (by omega), show ((n.toNat : Nat) : Int) = n by omega]
  simp only [Sym.mk, ta22, List.headD_cons]
end Go.Proofs
namespace Go.Proofs.Ytegmincienhapaa
open Go.Sym
theorem codecRises_lifted (os : Os) (started : os.Started) (H : Type) (enc : TypeId × Value → H) :
    ReturnsInHanded {} Try.checked os 3 .any (Rows.codecRisesSpec.pre6 enc Try.prog Try.f3 Rows.codecRisesRow.domain false) (Rows.codecRisesSpec.post enc Try.prog Try.f3 false true false false) := by
  refine returnsInHanded_of_change (C := Try.checked) Try.own started (by kernel_rfl) Try.func3
    (ChangeSpec.witness6 (enc := enc) (C := Try.checked) false ⟨#[], #[.int .u64 0, .int .u64 0], []⟩ 8 (by kernel_rfl) (by kernel_rfl) (by kernel_rfl) (by kernel_rfl)) ?_
  intro W base args ds gs before hval hW hcnd _
  refine law_end (P := Try.prog) (C := Try.cfg) (k := 4) (tb := 4) Try.mixed Try.progOk Try.laidOut (by kernel_rfl) rfl rfl Try.underlying4 ?_ ?_ (fun j t v h1 h2 => ⟨base, hval j t v h1 h2⟩) hW
  · intro ds hds
    match ds, hds with
    | [d, e], _ => exact ⟨rfl, rfl, rfl⟩
  · intro xs hxs
    obtain ⟨x, y, rfl, hx, hy⟩ := VArgs_two (P := Try.prog) (k := 4) (a := 22) (b := 22) hxs
    obtain ⟨n, rfl⟩ := open22 hx
    obtain ⟨m, rfl⟩ := open22 hy
    exact ⟨_, F3_ok (law_codecRises (k := 10) (Nat.le_refl _))⟩

theorem codecRises_holds : Rows.CodecRisesSaid :=
  OpenClaim.holds_of_wide 3 Try.f3 rfl rfl rfl rfl rfl rfl rfl ⟨rfl, rfl, rfl, rfl, rfl⟩ rfl rfl rfl rfl rfl (by kernel_rfl) Try.func3 (by kernel_rfl)
    (of_decide_eq_true (by kernel_rfl)) (by unfold Func.isWrapper; first | (rw [if_pos (by decide +kernel)]; kernel_rfl) | (rw [if_neg (by decide +kernel)]; exact ⟨rfl, rfl⟩))
    (fun os started H enc _ => codecRises_lifted os started H enc)
end Go.Proofs.Ytegmincienhapaa
