/-
  SpanCovers: the blocks that any span touches are as the document says, or refused, for every span and every size.
-/
import Derived.Test.YtloboanoionagaaSpans
set_option linter.unusedVariables false
set_option linter.unusedSimpArgs false
namespace Go.Proofs
open Go.Sym
theorem p5_0 (a : Int) (b : Int) (z : Int) (k : Nat)
    (c0 : callP (evalFn Try.prog Try.cfg k) 21 [V.agg [V.int IntKind.u64 a, V.int IntKind.u64 b], V.int IntKind.u64 z] = some (V.tup [V.agg [V.int IntKind.u64 (i21_0 a b z), V.int IntKind.u64 (i21_1 a b z)], V.int IntKind.i64 (i21_2 a b z)]))
    (c1 : callP (evalFn Try.prog Try.cfg k) 10 [V.agg [V.int IntKind.u64 a, V.int IntKind.u64 b]] = some (V.int IntKind.i64 (i10_0 a b)))
    (c2 : decide (i10_0 a b = 0) = true)
    (c3 : decide (z = 0) = true)
    (c4 : callP (evalFn Try.prog Try.cfg k) 11 [] = some (V.bool true))
    (c5 : decide (i21_2 a b z = 1) = true) :
    callP (evalFn Try.prog Try.cfg (k + 1)) 5 [V.agg [V.int IntKind.u64 a, V.int IntKind.u64 b], V.int IntKind.u64 z] = some (V.bool (decide (i21_0 a b z = 0) && (decide (i21_1 a b z = 0) && true))) :=
  byP [Hint.call 13 (V.tup [V.agg [V.int IntKind.u64 (i21_0 a b z), V.int IntKind.u64 (i21_1 a b z)], V.int IntKind.i64 (i21_2 a b z)]), Hint.call 17 (V.int IntKind.i64 (i10_0 a b)), Hint.br 20 true, Hint.br 23 true, Hint.call 26 (V.bool true), Hint.br 32 true] ((callP (evalFn Try.prog Try.cfg k) 21 [V.agg [V.int IntKind.u64 a, V.int IntKind.u64 b], V.int IntKind.u64 z] = some (V.tup [V.agg [V.int IntKind.u64 (i21_0 a b z), V.int IntKind.u64 (i21_1 a b z)], V.int IntKind.i64 (i21_2 a b z)])) ∧ (callP (evalFn Try.prog Try.cfg k) 10 [V.agg [V.int IntKind.u64 a, V.int IntKind.u64 b]] = some (V.int IntKind.i64 (i10_0 a b))) ∧ (decide (i10_0 a b = 0) = true) ∧ (decide (z = 0) = true) ∧ (callP (evalFn Try.prog Try.cfg k) 11 [] = some (V.bool true)) ∧ (decide (i21_2 a b z = 1) = true) ∧ True) (by kernel_rfl) ⟨c0, c1, c2, c3, c4, c5, trivial⟩
theorem p5_2 (a : Int) (b : Int) (z : Int) (k : Nat)
    (c0 : callP (evalFn Try.prog Try.cfg k) 21 [V.agg [V.int IntKind.u64 a, V.int IntKind.u64 b], V.int IntKind.u64 z] = some (V.tup [V.agg [V.int IntKind.u64 (i21_0 a b z), V.int IntKind.u64 (i21_1 a b z)], V.int IntKind.i64 (i21_2 a b z)]))
    (c1 : callP (evalFn Try.prog Try.cfg k) 10 [V.agg [V.int IntKind.u64 a, V.int IntKind.u64 b]] = some (V.int IntKind.i64 (i10_0 a b)))
    (c2 : decide (i10_0 a b = 0) = true)
    (c3 : decide (z = 0) = false)
    (c4 : (!decide (i10_0 a b = 0)) = false)
    (c5 : GrdP (IntKind.u64 = IntKind.u64 ∧ z ≠ 0) (V.int IntKind.u64 (IntKind.u64.wrap (a.tdiv z))))
    (c6 : callP (evalFn Try.prog Try.cfg k) 13 [V.agg [V.int IntKind.u64 a, V.int IntKind.u64 b]] = some (V.int IntKind.u64 (i13_0 a b)))
    (c7 : GrdP (IntKind.u64 = IntKind.u64 ∧ z ≠ 0) (V.int IntKind.u64 (IntKind.u64.wrap ((i13_0 a b).tdiv z))))
    (c8 : decide (IntKind.u64.wrap (a.tdiv z) = 0) = true)
    (c9 : decide (IntKind.u64.wrap ((i13_0 a b).tdiv z) = 18446744073709551615) = true)
    (c10 : callP (evalFn Try.prog Try.cfg k) 11 [] = some (V.bool true))
    (c11 : decide (i21_2 a b z = 2) = true) :
    callP (evalFn Try.prog Try.cfg (k + 1)) 5 [V.agg [V.int IntKind.u64 a, V.int IntKind.u64 b], V.int IntKind.u64 z] = some (V.bool (decide (i21_0 a b z = 0) && (decide (i21_1 a b z = 0) && true))) :=
  byP [Hint.call 13 (V.tup [V.agg [V.int IntKind.u64 (i21_0 a b z), V.int IntKind.u64 (i21_1 a b z)], V.int IntKind.i64 (i21_2 a b z)]), Hint.call 17 (V.int IntKind.i64 (i10_0 a b)), Hint.br 20 true, Hint.br 23 false, Hint.br 25 false, Hint.op 40 (V.int IntKind.u64 (IntKind.u64.wrap (a.tdiv z))) [], Hint.call 42 (V.int IntKind.u64 (i13_0 a b)), Hint.op 44 (V.int IntKind.u64 (IntKind.u64.wrap ((i13_0 a b).tdiv z))) [], Hint.br 47 true, Hint.br 50 true, Hint.call 51 (V.bool true), Hint.br 56 true] ((callP (evalFn Try.prog Try.cfg k) 21 [V.agg [V.int IntKind.u64 a, V.int IntKind.u64 b], V.int IntKind.u64 z] = some (V.tup [V.agg [V.int IntKind.u64 (i21_0 a b z), V.int IntKind.u64 (i21_1 a b z)], V.int IntKind.i64 (i21_2 a b z)])) ∧ (callP (evalFn Try.prog Try.cfg k) 10 [V.agg [V.int IntKind.u64 a, V.int IntKind.u64 b]] = some (V.int IntKind.i64 (i10_0 a b))) ∧ (decide (i10_0 a b = 0) = true) ∧ (decide (z = 0) = false) ∧ ((!decide (i10_0 a b = 0)) = false) ∧ (GrdP (IntKind.u64 = IntKind.u64 ∧ z ≠ 0) (V.int IntKind.u64 (IntKind.u64.wrap (a.tdiv z)))) ∧ (callP (evalFn Try.prog Try.cfg k) 13 [V.agg [V.int IntKind.u64 a, V.int IntKind.u64 b]] = some (V.int IntKind.u64 (i13_0 a b))) ∧ (GrdP (IntKind.u64 = IntKind.u64 ∧ z ≠ 0) (V.int IntKind.u64 (IntKind.u64.wrap ((i13_0 a b).tdiv z)))) ∧ (decide (IntKind.u64.wrap (a.tdiv z) = 0) = true) ∧ (decide (IntKind.u64.wrap ((i13_0 a b).tdiv z) = 18446744073709551615) = true) ∧ (callP (evalFn Try.prog Try.cfg k) 11 [] = some (V.bool true)) ∧ (decide (i21_2 a b z = 2) = true) ∧ True) (by kernel_rfl) ⟨c0, c1, c2, c3, c4, c5, c6, c7, c8, c9, c10, c11, trivial⟩
theorem p5_4 (a : Int) (b : Int) (z : Int) (k : Nat)
    (c0 : callP (evalFn Try.prog Try.cfg k) 21 [V.agg [V.int IntKind.u64 a, V.int IntKind.u64 b], V.int IntKind.u64 z] = some (V.tup [V.agg [V.int IntKind.u64 (i21_0 a b z), V.int IntKind.u64 (i21_1 a b z)], V.int IntKind.i64 (i21_2 a b z)]))
    (c1 : callP (evalFn Try.prog Try.cfg k) 10 [V.agg [V.int IntKind.u64 a, V.int IntKind.u64 b]] = some (V.int IntKind.i64 (i10_0 a b)))
    (c2 : decide (i10_0 a b = 0) = true)
    (c3 : decide (z = 0) = false)
    (c4 : (!decide (i10_0 a b = 0)) = false)
    (c5 : GrdP (IntKind.u64 = IntKind.u64 ∧ z ≠ 0) (V.int IntKind.u64 (IntKind.u64.wrap (a.tdiv z))))
    (c6 : callP (evalFn Try.prog Try.cfg k) 13 [V.agg [V.int IntKind.u64 a, V.int IntKind.u64 b]] = some (V.int IntKind.u64 (i13_0 a b)))
    (c7 : GrdP (IntKind.u64 = IntKind.u64 ∧ z ≠ 0) (V.int IntKind.u64 (IntKind.u64.wrap ((i13_0 a b).tdiv z))))
    (c8 : decide (IntKind.u64.wrap (a.tdiv z) = 0) = true)
    (c9 : decide (IntKind.u64.wrap ((i13_0 a b).tdiv z) = 18446744073709551615) = false)
    (c10 : callP (evalFn Try.prog Try.cfg k) 11 [] = some (V.bool true))
    (c11 : decide (i21_2 a b z = 0) = true)
    (c12 : callP (evalFn Try.prog Try.cfg k) 22 [V.int IntKind.u64 (IntKind.u64.wrap (a.tdiv z)), V.int IntKind.u64 (IntKind.u64.wrap ((i13_0 a b).tdiv z))] = some (V.agg [V.int IntKind.u64 (IntKind.u64.wrap (a.tdiv z)), V.int IntKind.u64 (i22_0 (IntKind.u64.wrap (a.tdiv z)) (IntKind.u64.wrap ((i13_0 a b).tdiv z)))])) :
    callP (evalFn Try.prog Try.cfg (k + 1)) 5 [V.agg [V.int IntKind.u64 a, V.int IntKind.u64 b], V.int IntKind.u64 z] = some (V.bool (decide (i21_0 a b z = IntKind.u64.wrap (a.tdiv z)) && (decide (i21_1 a b z = i22_0 (IntKind.u64.wrap (a.tdiv z)) (IntKind.u64.wrap ((i13_0 a b).tdiv z))) && true))) :=
  byP [Hint.call 13 (V.tup [V.agg [V.int IntKind.u64 (i21_0 a b z), V.int IntKind.u64 (i21_1 a b z)], V.int IntKind.i64 (i21_2 a b z)]), Hint.call 17 (V.int IntKind.i64 (i10_0 a b)), Hint.br 20 true, Hint.br 23 false, Hint.br 25 false, Hint.op 40 (V.int IntKind.u64 (IntKind.u64.wrap (a.tdiv z))) [], Hint.call 42 (V.int IntKind.u64 (i13_0 a b)), Hint.op 44 (V.int IntKind.u64 (IntKind.u64.wrap ((i13_0 a b).tdiv z))) [], Hint.br 47 true, Hint.br 50 false, Hint.call 61 (V.bool true), Hint.br 66 true, Hint.call 70 (V.agg [V.int IntKind.u64 (IntKind.u64.wrap (a.tdiv z)), V.int IntKind.u64 (i22_0 (IntKind.u64.wrap (a.tdiv z)) (IntKind.u64.wrap ((i13_0 a b).tdiv z)))])] ((callP (evalFn Try.prog Try.cfg k) 21 [V.agg [V.int IntKind.u64 a, V.int IntKind.u64 b], V.int IntKind.u64 z] = some (V.tup [V.agg [V.int IntKind.u64 (i21_0 a b z), V.int IntKind.u64 (i21_1 a b z)], V.int IntKind.i64 (i21_2 a b z)])) ∧ (callP (evalFn Try.prog Try.cfg k) 10 [V.agg [V.int IntKind.u64 a, V.int IntKind.u64 b]] = some (V.int IntKind.i64 (i10_0 a b))) ∧ (decide (i10_0 a b = 0) = true) ∧ (decide (z = 0) = false) ∧ ((!decide (i10_0 a b = 0)) = false) ∧ (GrdP (IntKind.u64 = IntKind.u64 ∧ z ≠ 0) (V.int IntKind.u64 (IntKind.u64.wrap (a.tdiv z)))) ∧ (callP (evalFn Try.prog Try.cfg k) 13 [V.agg [V.int IntKind.u64 a, V.int IntKind.u64 b]] = some (V.int IntKind.u64 (i13_0 a b))) ∧ (GrdP (IntKind.u64 = IntKind.u64 ∧ z ≠ 0) (V.int IntKind.u64 (IntKind.u64.wrap ((i13_0 a b).tdiv z)))) ∧ (decide (IntKind.u64.wrap (a.tdiv z) = 0) = true) ∧ (decide (IntKind.u64.wrap ((i13_0 a b).tdiv z) = 18446744073709551615) = false) ∧ (callP (evalFn Try.prog Try.cfg k) 11 [] = some (V.bool true)) ∧ (decide (i21_2 a b z = 0) = true) ∧ (callP (evalFn Try.prog Try.cfg k) 22 [V.int IntKind.u64 (IntKind.u64.wrap (a.tdiv z)), V.int IntKind.u64 (IntKind.u64.wrap ((i13_0 a b).tdiv z))] = some (V.agg [V.int IntKind.u64 (IntKind.u64.wrap (a.tdiv z)), V.int IntKind.u64 (i22_0 (IntKind.u64.wrap (a.tdiv z)) (IntKind.u64.wrap ((i13_0 a b).tdiv z)))])) ∧ True) (by kernel_rfl) ⟨c0, c1, c2, c3, c4, c5, c6, c7, c8, c9, c10, c11, c12, trivial⟩
theorem p5_6 (a : Int) (b : Int) (z : Int) (k : Nat)
    (c0 : callP (evalFn Try.prog Try.cfg k) 21 [V.agg [V.int IntKind.u64 a, V.int IntKind.u64 b], V.int IntKind.u64 z] = some (V.tup [V.agg [V.int IntKind.u64 (i21_0 a b z), V.int IntKind.u64 (i21_1 a b z)], V.int IntKind.i64 (i21_2 a b z)]))
    (c1 : callP (evalFn Try.prog Try.cfg k) 10 [V.agg [V.int IntKind.u64 a, V.int IntKind.u64 b]] = some (V.int IntKind.i64 (i10_0 a b)))
    (c2 : decide (i10_0 a b = 0) = true)
    (c3 : decide (z = 0) = false)
    (c4 : (!decide (i10_0 a b = 0)) = false)
    (c5 : GrdP (IntKind.u64 = IntKind.u64 ∧ z ≠ 0) (V.int IntKind.u64 (IntKind.u64.wrap (a.tdiv z))))
    (c6 : callP (evalFn Try.prog Try.cfg k) 13 [V.agg [V.int IntKind.u64 a, V.int IntKind.u64 b]] = some (V.int IntKind.u64 (i13_0 a b)))
    (c7 : GrdP (IntKind.u64 = IntKind.u64 ∧ z ≠ 0) (V.int IntKind.u64 (IntKind.u64.wrap ((i13_0 a b).tdiv z))))
    (c8 : decide (IntKind.u64.wrap (a.tdiv z) = 0) = false)
    (c9 : callP (evalFn Try.prog Try.cfg k) 11 [] = some (V.bool true))
    (c10 : decide (i21_2 a b z = 0) = true)
    (c11 : callP (evalFn Try.prog Try.cfg k) 22 [V.int IntKind.u64 (IntKind.u64.wrap (a.tdiv z)), V.int IntKind.u64 (IntKind.u64.wrap ((i13_0 a b).tdiv z))] = some (V.agg [V.int IntKind.u64 (IntKind.u64.wrap (a.tdiv z)), V.int IntKind.u64 (i22_0 (IntKind.u64.wrap (a.tdiv z)) (IntKind.u64.wrap ((i13_0 a b).tdiv z)))])) :
    callP (evalFn Try.prog Try.cfg (k + 1)) 5 [V.agg [V.int IntKind.u64 a, V.int IntKind.u64 b], V.int IntKind.u64 z] = some (V.bool (decide (i21_0 a b z = IntKind.u64.wrap (a.tdiv z)) && (decide (i21_1 a b z = i22_0 (IntKind.u64.wrap (a.tdiv z)) (IntKind.u64.wrap ((i13_0 a b).tdiv z))) && true))) :=
  byP [Hint.call 13 (V.tup [V.agg [V.int IntKind.u64 (i21_0 a b z), V.int IntKind.u64 (i21_1 a b z)], V.int IntKind.i64 (i21_2 a b z)]), Hint.call 17 (V.int IntKind.i64 (i10_0 a b)), Hint.br 20 true, Hint.br 23 false, Hint.br 25 false, Hint.op 40 (V.int IntKind.u64 (IntKind.u64.wrap (a.tdiv z))) [], Hint.call 42 (V.int IntKind.u64 (i13_0 a b)), Hint.op 44 (V.int IntKind.u64 (IntKind.u64.wrap ((i13_0 a b).tdiv z))) [], Hint.br 47 false, Hint.call 61 (V.bool true), Hint.br 66 true, Hint.call 70 (V.agg [V.int IntKind.u64 (IntKind.u64.wrap (a.tdiv z)), V.int IntKind.u64 (i22_0 (IntKind.u64.wrap (a.tdiv z)) (IntKind.u64.wrap ((i13_0 a b).tdiv z)))])] ((callP (evalFn Try.prog Try.cfg k) 21 [V.agg [V.int IntKind.u64 a, V.int IntKind.u64 b], V.int IntKind.u64 z] = some (V.tup [V.agg [V.int IntKind.u64 (i21_0 a b z), V.int IntKind.u64 (i21_1 a b z)], V.int IntKind.i64 (i21_2 a b z)])) ∧ (callP (evalFn Try.prog Try.cfg k) 10 [V.agg [V.int IntKind.u64 a, V.int IntKind.u64 b]] = some (V.int IntKind.i64 (i10_0 a b))) ∧ (decide (i10_0 a b = 0) = true) ∧ (decide (z = 0) = false) ∧ ((!decide (i10_0 a b = 0)) = false) ∧ (GrdP (IntKind.u64 = IntKind.u64 ∧ z ≠ 0) (V.int IntKind.u64 (IntKind.u64.wrap (a.tdiv z)))) ∧ (callP (evalFn Try.prog Try.cfg k) 13 [V.agg [V.int IntKind.u64 a, V.int IntKind.u64 b]] = some (V.int IntKind.u64 (i13_0 a b))) ∧ (GrdP (IntKind.u64 = IntKind.u64 ∧ z ≠ 0) (V.int IntKind.u64 (IntKind.u64.wrap ((i13_0 a b).tdiv z)))) ∧ (decide (IntKind.u64.wrap (a.tdiv z) = 0) = false) ∧ (callP (evalFn Try.prog Try.cfg k) 11 [] = some (V.bool true)) ∧ (decide (i21_2 a b z = 0) = true) ∧ (callP (evalFn Try.prog Try.cfg k) 22 [V.int IntKind.u64 (IntKind.u64.wrap (a.tdiv z)), V.int IntKind.u64 (IntKind.u64.wrap ((i13_0 a b).tdiv z))] = some (V.agg [V.int IntKind.u64 (IntKind.u64.wrap (a.tdiv z)), V.int IntKind.u64 (i22_0 (IntKind.u64.wrap (a.tdiv z)) (IntKind.u64.wrap ((i13_0 a b).tdiv z)))])) ∧ True) (by kernel_rfl) ⟨c0, c1, c2, c3, c4, c5, c6, c7, c8, c9, c10, c11, trivial⟩
theorem p5_8 (a : Int) (b : Int) (z : Int) (k : Nat)
    (c0 : callP (evalFn Try.prog Try.cfg k) 21 [V.agg [V.int IntKind.u64 a, V.int IntKind.u64 b], V.int IntKind.u64 z] = some (V.tup [V.agg [V.int IntKind.u64 (i21_0 a b z), V.int IntKind.u64 (i21_1 a b z)], V.int IntKind.i64 (i21_2 a b z)]))
    (c1 : callP (evalFn Try.prog Try.cfg k) 10 [V.agg [V.int IntKind.u64 a, V.int IntKind.u64 b]] = some (V.int IntKind.i64 (i10_0 a b)))
    (c2 : decide (i10_0 a b = 0) = false)
    (c3 : (!decide (i10_0 a b = 0)) = true)
    (c4 : callP (evalFn Try.prog Try.cfg k) 11 [] = some (V.bool true))
    (c5 : decide (i21_2 a b z = i10_0 a b) = true) :
    callP (evalFn Try.prog Try.cfg (k + 1)) 5 [V.agg [V.int IntKind.u64 a, V.int IntKind.u64 b], V.int IntKind.u64 z] = some (V.bool (decide (i21_0 a b z = 0) && (decide (i21_1 a b z = 0) && true))) :=
  byP [Hint.call 13 (V.tup [V.agg [V.int IntKind.u64 (i21_0 a b z), V.int IntKind.u64 (i21_1 a b z)], V.int IntKind.i64 (i21_2 a b z)]), Hint.call 17 (V.int IntKind.i64 (i10_0 a b)), Hint.br 20 false, Hint.br 25 true, Hint.call 26 (V.bool true), Hint.br 32 true] ((callP (evalFn Try.prog Try.cfg k) 21 [V.agg [V.int IntKind.u64 a, V.int IntKind.u64 b], V.int IntKind.u64 z] = some (V.tup [V.agg [V.int IntKind.u64 (i21_0 a b z), V.int IntKind.u64 (i21_1 a b z)], V.int IntKind.i64 (i21_2 a b z)])) ∧ (callP (evalFn Try.prog Try.cfg k) 10 [V.agg [V.int IntKind.u64 a, V.int IntKind.u64 b]] = some (V.int IntKind.i64 (i10_0 a b))) ∧ (decide (i10_0 a b = 0) = false) ∧ ((!decide (i10_0 a b = 0)) = true) ∧ (callP (evalFn Try.prog Try.cfg k) 11 [] = some (V.bool true)) ∧ (decide (i21_2 a b z = i10_0 a b) = true) ∧ True) (by kernel_rfl) ⟨c0, c1, c2, c3, c4, c5, trivial⟩

def inU (a : Int) : Prop := 0 ≤ a ∧ a < 18446744073709551616

theorem chk_eq {a b : Int} (ha : inU a) (hb : inU b) : i12_0 a b = i10_0 a b := by
  unfold inU at ha hb
  unfold i12_0 i10_0
  simp only [wrap_u64]
  by_cases h : b = 0
  · simp [h]
  · by_cases h2 : ((a + b) % 18446744073709551616 - 1) % 18446744073709551616 < a
    · rw [decide_eq_true h2, decide_eq_true (show (18446744073709551615 - a) % 18446744073709551616 < (b - 1) % 18446744073709551616 by omega)]
    · rw [decide_eq_false h2, decide_eq_false (show ¬ (18446744073709551615 - a) % 18446744073709551616 < (b - 1) % 18446744073709551616 by omega)]
theorem lst_eq (a b : Int) : i28_0 a b = i13_0 a b := by
  unfold i28_0 i13_0
  simp only [wrap_u64]; omega
theorem ok_iff {a b : Int} (ha : inU a) (hb : inU b) : i10_0 a b = 0 ↔ b ≠ 0 ∧ a ≤ i13_0 a b ∧ i13_0 a b = a + b - 1 := by
  unfold inU at ha hb
  unfold i10_0 i13_0
  simp only [wrap_u64]
  by_cases h : b = 0
  · simp [h]
  · have e1 : (b - 1) % 18446744073709551616 = b - 1 := by omega
    have e2 : (18446744073709551615 - a) % 18446744073709551616 = 18446744073709551615 - a := by omega
    rw [e1, e2]
    by_cases h2 : 18446744073709551615 - a < b - 1
    · simp only [decide_eq_false h, decide_eq_true h2, cond_true, cond_false]
      refine ⟨fun h => absurd h (by decide), fun ⟨_, _, h3⟩ => ?_⟩
      omega
    · have e3 : (a + (b - 1)) % 18446744073709551616 = a + (b - 1) := by omega
      simp only [decide_eq_false h, decide_eq_false h2, cond_true, cond_false, e3]
      exact ⟨fun _ => ⟨h, by omega, by omega⟩, fun _ => by trivial⟩


theorem h11 (k : Nat) : callP (evalFn Try.prog Try.cfg (k + 10)) 11 [] = some (.bool true) := by kernel_rfl

theorem div_facts {x z : Int} (hx : inU x) (hz : inU z) (h0 : z ≠ 0) : IntKind.u64.wrap (x.tdiv z) = x / z ∧ 0 ≤ x / z ∧ x / z ≤ x := by
  unfold inU at hx hz
  have h1 : x.tdiv z = x / z := Int.tdiv_eq_ediv_of_nonneg hx.1
  have h2 : 0 ≤ x / z := Int.ediv_nonneg hx.1 hz.1
  have h3 : x / z ≤ x := Int.ediv_le_self z hx.1
  refine ⟨?_, h2, h3⟩
  rw [h1, wrap_u64]
  omega

theorem law_spanCovers {a b z : Int} (ha : inU a) (hb : inU b) (hz : inU z) : callP (evalFn Try.prog Try.cfg (10 + 1)) 5 [V.agg [V.int IntKind.u64 a, V.int IntKind.u64 b], V.int IntKind.u64 z] = some (.bool true) := by
  have ec := chk_eq ha hb
  by_cases h : i10_0 a b = 0
  · have h' : i12_0 a b = 0 := by rw [ec]; exact h
    by_cases h0 : z = 0
    · refine (p5_0 a b z 10 (h21 a b z 8) (h10 a b 9) (decide_eq_true h) (decide_eq_true h0) (h11 0) ?_).trans ?_
      · unfold i21_2; rw [decide_eq_true h', decide_eq_true h0]; rfl
      · unfold i21_0 i21_1; rw [decide_eq_true h', decide_eq_true h0]; rfl
    · obtain ⟨p1, p2, p3⟩ := (ok_iff ha hb).1 h
      have hl : inU (i13_0 a b) := by
        unfold inU at *
        have : i13_0 a b < 18446744073709551616 := by unfold i13_0; simp only [wrap_u64]; omega
        exact ⟨by omega, this⟩
      obtain ⟨x1, x2, x3⟩ := div_facts ha hz h0
      obtain ⟨y1, y2, y3⟩ := div_facts hl hz h0
      have hxy : a / z ≤ i13_0 a b / z := Int.ediv_le_ediv (by unfold inU at hz; omega) p2
      unfold inU at ha hl
      have e30 : i30_0 (a / z) (i13_0 a b / z) = 0 ↔ a / z = 0 ∧ i13_0 a b / z = 18446744073709551615 := by
        unfold i30_0; simp only [wrap_u64]; omega
      have hg : ∀ n : Int, GrdP (IntKind.u64 = IntKind.u64 ∧ z ≠ 0) (V.int IntKind.u64 n) := fun n => GrdP.mk ⟨rfl, h0⟩
      by_cases q : a / z = 0 ∧ i13_0 a b / z = 18446744073709551615
      · have e0 := e30.2 q
        refine (p5_2 a b z 10 (h21 a b z 8) (h10 a b 9) (decide_eq_true h) (decide_eq_false h0) (by rw [decide_eq_true h]; rfl) (hg _) (h13 a b 9) (hg _) (by rw [x1]; exact decide_eq_true q.1) (by rw [y1]; exact decide_eq_true q.2) (h11 0) ?_).trans ?_
        · unfold i21_2; rw [lst_eq, x1, y1, decide_eq_true h', decide_eq_false h0, decide_eq_true e0]; rfl
        · unfold i21_0 i21_1; rw [lst_eq, x1, y1, decide_eq_true h', decide_eq_false h0, decide_eq_true e0]; rfl
      · have e0 : ¬ i30_0 (a / z) (i13_0 a b / z) = 0 := fun e => q (e30.1 e)
        have k2 : decide (i21_2 a b z = 0) = true := by unfold i21_2; rw [lst_eq, x1, y1, decide_eq_true h', decide_eq_false h0, decide_eq_false e0]; rfl
        have k0 : i21_0 a b z = a / z := by unfold i21_0; rw [lst_eq, x1, y1, decide_eq_true h', decide_eq_false h0, decide_eq_false e0]; rfl
        have k1 : i21_1 a b z = i22_0 (a / z) (i13_0 a b / z) := by unfold i21_1; rw [lst_eq, x1, y1, decide_eq_true h', decide_eq_false h0, decide_eq_false e0]; rfl
        by_cases q1 : a / z = 0
        · refine (p5_4 a b z 10 (h21 a b z 8) (h10 a b 9) (decide_eq_true h) (decide_eq_false h0) (by rw [decide_eq_true h]; rfl) (hg _) (h13 a b 9) (hg _) (by rw [x1]; exact decide_eq_true q1) (by rw [y1]; exact decide_eq_false fun e => q ⟨q1, e⟩) (h11 0) k2 (h22 _ _ 9)).trans ?_
          rw [k0, k1, x1, y1]; simp
        · refine (p5_6 a b z 10 (h21 a b z 8) (h10 a b 9) (decide_eq_true h) (decide_eq_false h0) (by rw [decide_eq_true h]; rfl) (hg _) (h13 a b 9) (hg _) (by rw [x1]; exact decide_eq_false q1) (h11 0) k2 (h22 _ _ 9)).trans ?_
          rw [k0, k1, x1, y1]; simp
  · have h' : ¬ i12_0 a b = 0 := by rw [ec]; exact h
    refine (p5_8 a b z 10 (h21 a b z 8) (h10 a b 9) (decide_eq_false h) (by rw [decide_eq_false h]; rfl) (h11 0) ?_).trans ?_
    · unfold i21_2; rw [decide_eq_false h']; exact decide_eq_true ec
    · unfold i21_0 i21_1; rw [decide_eq_false h']; rfl
end Go.Proofs
namespace Go.Proofs.Ytloboanoionagaa
open Go.Sym
theorem spanCovers_lifted (os : Os) (started : os.Started) (H : Type) (enc : TypeId × Value → H) :
    ReturnsInHanded {} Try.checked os 5 .any (Rows.spanCoversSpec.pre6 enc Try.prog Try.f5 Rows.spanCoversRow.domain false) (Rows.spanCoversSpec.post enc Try.prog Try.f5 false true false false) := by
  refine returnsInHanded_of_change (C := Try.checked) Try.own started (by kernel_rfl) Try.func5
    (ChangeSpec.witness6 (enc := enc) (C := Try.checked) false ⟨#[], #[.agg #[.int .u64 0, .int .u64 0], .int .u64 0], []⟩ 8 (by kernel_rfl) (by kernel_rfl) (by kernel_rfl) (by kernel_rfl)) ?_
  intro W base args ds gs before hval hW hcnd _
  refine law_end (P := Try.prog) (C := Try.cfg) (k := 2) (tb := 4) Try.mixed Try.progOk Try.laidOut (by kernel_rfl) rfl rfl Try.underlying4 ?_ ?_ (fun j t v h1 h2 => ⟨base, hval j t v h1 h2⟩) hW
  · intro ds hds
    match ds, hds with
    | [d, e], _ => exact ⟨rfl, rfl, rfl⟩
  · intro xs hxs
    match xs, hxs with
    | [x, y], ⟨hx, hy, _⟩ =>
      obtain ⟨a, b, rfl, ha, hb⟩ := open24 hx
      obtain ⟨z, rfl, hz⟩ := open22 hy
      exact ⟨_, law_spanCovers ha hb hz⟩

theorem spanCovers_holds : Rows.SpanCoversSaid :=
  OpenClaim.holds_of_wide 5 Try.f5 rfl rfl rfl rfl rfl rfl rfl ⟨rfl, rfl, rfl, rfl, rfl⟩ rfl rfl rfl rfl rfl (by kernel_rfl) Try.func5 (by kernel_rfl)
    (of_decide_eq_true (by kernel_rfl)) (by unfold Func.isWrapper; first | (rw [if_pos (by decide +kernel)]; kernel_rfl) | (rw [if_neg (by decide +kernel)]; exact ⟨rfl, rfl⟩))
    (fun os started H enc _ => spanCovers_lifted os started H enc)
end Go.Proofs.Ytloboanoionagaa
