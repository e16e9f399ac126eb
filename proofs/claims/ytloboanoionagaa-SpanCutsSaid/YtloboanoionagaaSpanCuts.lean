/-
  SpanCuts: what any two spans have in common, and one without the other, is as the document says, or refused, for every two spans.
-/
import Derived.Test.YtloboanoionagaaSpans
import Derived.Test.YtloboanoionagaaSame
set_option linter.unusedVariables false
set_option linter.unusedSimpArgs false
namespace Go.Proofs
open Go.Sym
theorem p4_0 (a : Int) (b : Int) (c : Int) (d : Int) (k : Nat)
    (c0 : callP (evalFn Try.prog Try.cfg k) 14 [V.agg [V.int IntKind.u64 a, V.int IntKind.u64 b], V.agg [V.int IntKind.u64 c, V.int IntKind.u64 d]] = some (V.tup [V.agg [V.int IntKind.u64 (i14_0 a b c d), V.int IntKind.u64 (i14_1 a b c d)], V.int IntKind.i64 (i14_2 a b c d)]))
    (c1 : callP (evalFn Try.prog Try.cfg k) 15 [V.agg [V.int IntKind.u64 a, V.int IntKind.u64 b], V.agg [V.int IntKind.u64 c, V.int IntKind.u64 d]] = some (V.tup [V.sl (bif !decide (i29_0 a b c d = 0) then some true else bif decide (i28_0 a b < c) then none else bif decide (i28_0 c d < a) then none else bif decide (a < c) then none else bif decide (i28_0 c d < i28_0 a b) then none else some true) (!decide (i29_0 a b c d = 0) || bif decide (i28_0 a b < c) then false else bif decide (i28_0 c d < a) then false else bif decide (a < c) then false else !decide (i28_0 c d < i28_0 a b)) (bif !decide (i29_0 a b c d = 0) then 0 else bif decide (i28_0 a b < c) then 2 else bif decide (i28_0 c d < a) then 2 else bif decide (a < c) then 2 else bif decide (i28_0 c d < i28_0 a b) then 2 else 0) (i15_0 a b c d), V.int IntKind.i64 (i15_1 a b c d)]))
    (c2 : callP (evalFn Try.prog Try.cfg k) 16 [V.sl none false 2 [V.agg [V.int IntKind.u64 a, V.int IntKind.u64 b], V.agg [V.int IntKind.u64 c, V.int IntKind.u64 d]]] = some (V.int IntKind.i64 (i16_0 a b c d)))
    (c3 : (!decide (i16_0 a b c d = 0)) = true)
    (c4 : callP (evalFn Try.prog Try.cfg k) 11 [] = some (V.bool true))
    (c5 : decide (i14_2 a b c d = i16_0 a b c d) = true)
    (c6 : decide (i15_1 a b c d = i16_0 a b c d) = true)
    (c7 : (decide (i14_0 a b c d = 0) && (decide (i14_1 a b c d = 0) && true)) = true) :
    callP (evalFn Try.prog Try.cfg (k + 1)) 4 [V.agg [V.int IntKind.u64 a, V.int IntKind.u64 b], V.agg [V.int IntKind.u64 c, V.int IntKind.u64 d]] = some (V.bool (decide ((↑(i15_0 a b c d).length : Int) = 0))) :=
  byP [Hint.call 13 (V.tup [V.agg [V.int IntKind.u64 (i14_0 a b c d), V.int IntKind.u64 (i14_1 a b c d)], V.int IntKind.i64 (i14_2 a b c d)]), Hint.call 19 (V.tup [V.sl (bif !decide (i29_0 a b c d = 0) then some true else bif decide (i28_0 a b < c) then none else bif decide (i28_0 c d < a) then none else bif decide (a < c) then none else bif decide (i28_0 c d < i28_0 a b) then none else some true) (!decide (i29_0 a b c d = 0) || bif decide (i28_0 a b < c) then false else bif decide (i28_0 c d < a) then false else bif decide (a < c) then false else !decide (i28_0 c d < i28_0 a b)) (bif !decide (i29_0 a b c d = 0) then 0 else bif decide (i28_0 a b < c) then 2 else bif decide (i28_0 c d < a) then 2 else bif decide (a < c) then 2 else bif decide (i28_0 c d < i28_0 a b) then 2 else 0) (i15_0 a b c d), V.int IntKind.i64 (i15_1 a b c d)]), Hint.call 25 (V.int IntKind.i64 (i16_0 a b c d)), Hint.br 27 true, Hint.call 28 (V.bool true), Hint.br 34 true, Hint.br 39 true, Hint.br 44 true] ((callP (evalFn Try.prog Try.cfg k) 14 [V.agg [V.int IntKind.u64 a, V.int IntKind.u64 b], V.agg [V.int IntKind.u64 c, V.int IntKind.u64 d]] = some (V.tup [V.agg [V.int IntKind.u64 (i14_0 a b c d), V.int IntKind.u64 (i14_1 a b c d)], V.int IntKind.i64 (i14_2 a b c d)])) ∧ (callP (evalFn Try.prog Try.cfg k) 15 [V.agg [V.int IntKind.u64 a, V.int IntKind.u64 b], V.agg [V.int IntKind.u64 c, V.int IntKind.u64 d]] = some (V.tup [V.sl (bif !decide (i29_0 a b c d = 0) then some true else bif decide (i28_0 a b < c) then none else bif decide (i28_0 c d < a) then none else bif decide (a < c) then none else bif decide (i28_0 c d < i28_0 a b) then none else some true) (!decide (i29_0 a b c d = 0) || bif decide (i28_0 a b < c) then false else bif decide (i28_0 c d < a) then false else bif decide (a < c) then false else !decide (i28_0 c d < i28_0 a b)) (bif !decide (i29_0 a b c d = 0) then 0 else bif decide (i28_0 a b < c) then 2 else bif decide (i28_0 c d < a) then 2 else bif decide (a < c) then 2 else bif decide (i28_0 c d < i28_0 a b) then 2 else 0) (i15_0 a b c d), V.int IntKind.i64 (i15_1 a b c d)])) ∧ (callP (evalFn Try.prog Try.cfg k) 16 [V.sl none false 2 [V.agg [V.int IntKind.u64 a, V.int IntKind.u64 b], V.agg [V.int IntKind.u64 c, V.int IntKind.u64 d]]] = some (V.int IntKind.i64 (i16_0 a b c d))) ∧ ((!decide (i16_0 a b c d = 0)) = true) ∧ (callP (evalFn Try.prog Try.cfg k) 11 [] = some (V.bool true)) ∧ (decide (i14_2 a b c d = i16_0 a b c d) = true) ∧ (decide (i15_1 a b c d = i16_0 a b c d) = true) ∧ ((decide (i14_0 a b c d = 0) && (decide (i14_1 a b c d = 0) && true)) = true) ∧ True) (by kernel_rfl) ⟨c0, c1, c2, c3, c4, c5, c6, c7, trivial⟩
theorem p4_6 (a : Int) (b : Int) (c : Int) (d : Int) (k : Nat)
    (c0 : callP (evalFn Try.prog Try.cfg k) 14 [V.agg [V.int IntKind.u64 a, V.int IntKind.u64 b], V.agg [V.int IntKind.u64 c, V.int IntKind.u64 d]] = some (V.tup [V.agg [V.int IntKind.u64 (i14_0 a b c d), V.int IntKind.u64 (i14_1 a b c d)], V.int IntKind.i64 (i14_2 a b c d)]))
    (c1 : callP (evalFn Try.prog Try.cfg k) 15 [V.agg [V.int IntKind.u64 a, V.int IntKind.u64 b], V.agg [V.int IntKind.u64 c, V.int IntKind.u64 d]] = some (V.tup [V.sl (bif !decide (i29_0 a b c d = 0) then some true else bif decide (i28_0 a b < c) then none else bif decide (i28_0 c d < a) then none else bif decide (a < c) then none else bif decide (i28_0 c d < i28_0 a b) then none else some true) (!decide (i29_0 a b c d = 0) || bif decide (i28_0 a b < c) then false else bif decide (i28_0 c d < a) then false else bif decide (a < c) then false else !decide (i28_0 c d < i28_0 a b)) (bif !decide (i29_0 a b c d = 0) then 0 else bif decide (i28_0 a b < c) then 2 else bif decide (i28_0 c d < a) then 2 else bif decide (a < c) then 2 else bif decide (i28_0 c d < i28_0 a b) then 2 else 0) (i15_0 a b c d), V.int IntKind.i64 (i15_1 a b c d)]))
    (c2 : callP (evalFn Try.prog Try.cfg k) 16 [V.sl none false 2 [V.agg [V.int IntKind.u64 a, V.int IntKind.u64 b], V.agg [V.int IntKind.u64 c, V.int IntKind.u64 d]]] = some (V.int IntKind.i64 (i16_0 a b c d)))
    (c3 : (!decide (i16_0 a b c d = 0)) = false)
    (c4 : (!decide (i15_1 a b c d = 0)) = false)
    (c5 : callP (evalFn Try.prog Try.cfg k) 18 [V.agg [V.int IntKind.u64 a, V.int IntKind.u64 b], V.agg [V.int IntKind.u64 c, V.int IntKind.u64 d]] = some (V.sl none false 2 (i18_0 a b c d)))
    (c6 : callP (evalFn Try.prog Try.cfg k) 17 [V.sl (bif !decide (i29_0 a b c d = 0) then some true else bif decide (i28_0 a b < c) then none else bif decide (i28_0 c d < a) then none else bif decide (a < c) then none else bif decide (i28_0 c d < i28_0 a b) then none else some true) (!decide (i29_0 a b c d = 0) || bif decide (i28_0 a b < c) then false else bif decide (i28_0 c d < a) then false else bif decide (a < c) then false else !decide (i28_0 c d < i28_0 a b)) (bif !decide (i29_0 a b c d = 0) then 0 else bif decide (i28_0 a b < c) then 2 else bif decide (i28_0 c d < a) then 2 else bif decide (a < c) then 2 else bif decide (i28_0 c d < i28_0 a b) then 2 else 0) (i15_0 a b c d), V.sl none false 2 (i18_0 a b c d)] = some (V.bool (sameS (i15_0 a b c d) (i18_0 a b c d))))
    (c7 : (!sameS (i15_0 a b c d) (i18_0 a b c d)) = false)
    (c8 : callP (evalFn Try.prog Try.cfg k) 11 [] = some (V.bool true))
    (c9 : callP (evalFn Try.prog Try.cfg k) 19 [V.agg [V.int IntKind.u64 a, V.int IntKind.u64 b], V.agg [V.int IntKind.u64 c, V.int IntKind.u64 d]] = some (V.bool (i19_0 a b c d)))
    (c10 : (!i19_0 a b c d) = true)
    (c11 : decide (i14_2 a b c d = 3) = true) :
    callP (evalFn Try.prog Try.cfg (k + 1)) 4 [V.agg [V.int IntKind.u64 a, V.int IntKind.u64 b], V.agg [V.int IntKind.u64 c, V.int IntKind.u64 d]] = some (V.bool (decide (i14_0 a b c d = 0) && (decide (i14_1 a b c d = 0) && true))) :=
  byP [Hint.call 13 (V.tup [V.agg [V.int IntKind.u64 (i14_0 a b c d), V.int IntKind.u64 (i14_1 a b c d)], V.int IntKind.i64 (i14_2 a b c d)]), Hint.call 19 (V.tup [V.sl (bif !decide (i29_0 a b c d = 0) then some true else bif decide (i28_0 a b < c) then none else bif decide (i28_0 c d < a) then none else bif decide (a < c) then none else bif decide (i28_0 c d < i28_0 a b) then none else some true) (!decide (i29_0 a b c d = 0) || bif decide (i28_0 a b < c) then false else bif decide (i28_0 c d < a) then false else bif decide (a < c) then false else !decide (i28_0 c d < i28_0 a b)) (bif !decide (i29_0 a b c d = 0) then 0 else bif decide (i28_0 a b < c) then 2 else bif decide (i28_0 c d < a) then 2 else bif decide (a < c) then 2 else bif decide (i28_0 c d < i28_0 a b) then 2 else 0) (i15_0 a b c d), V.int IntKind.i64 (i15_1 a b c d)]), Hint.call 25 (V.int IntKind.i64 (i16_0 a b c d)), Hint.br 27 false, Hint.br 51 false, Hint.call 55 (V.sl none false 2 (i18_0 a b c d)), Hint.call 56 (V.bool (sameS (i15_0 a b c d) (i18_0 a b c d))), Hint.br 59 false, Hint.call 60 (V.bool true), Hint.call 65 (V.bool (i19_0 a b c d)), Hint.br 66 true, Hint.br 69 true] ((callP (evalFn Try.prog Try.cfg k) 14 [V.agg [V.int IntKind.u64 a, V.int IntKind.u64 b], V.agg [V.int IntKind.u64 c, V.int IntKind.u64 d]] = some (V.tup [V.agg [V.int IntKind.u64 (i14_0 a b c d), V.int IntKind.u64 (i14_1 a b c d)], V.int IntKind.i64 (i14_2 a b c d)])) ∧ (callP (evalFn Try.prog Try.cfg k) 15 [V.agg [V.int IntKind.u64 a, V.int IntKind.u64 b], V.agg [V.int IntKind.u64 c, V.int IntKind.u64 d]] = some (V.tup [V.sl (bif !decide (i29_0 a b c d = 0) then some true else bif decide (i28_0 a b < c) then none else bif decide (i28_0 c d < a) then none else bif decide (a < c) then none else bif decide (i28_0 c d < i28_0 a b) then none else some true) (!decide (i29_0 a b c d = 0) || bif decide (i28_0 a b < c) then false else bif decide (i28_0 c d < a) then false else bif decide (a < c) then false else !decide (i28_0 c d < i28_0 a b)) (bif !decide (i29_0 a b c d = 0) then 0 else bif decide (i28_0 a b < c) then 2 else bif decide (i28_0 c d < a) then 2 else bif decide (a < c) then 2 else bif decide (i28_0 c d < i28_0 a b) then 2 else 0) (i15_0 a b c d), V.int IntKind.i64 (i15_1 a b c d)])) ∧ (callP (evalFn Try.prog Try.cfg k) 16 [V.sl none false 2 [V.agg [V.int IntKind.u64 a, V.int IntKind.u64 b], V.agg [V.int IntKind.u64 c, V.int IntKind.u64 d]]] = some (V.int IntKind.i64 (i16_0 a b c d))) ∧ ((!decide (i16_0 a b c d = 0)) = false) ∧ ((!decide (i15_1 a b c d = 0)) = false) ∧ (callP (evalFn Try.prog Try.cfg k) 18 [V.agg [V.int IntKind.u64 a, V.int IntKind.u64 b], V.agg [V.int IntKind.u64 c, V.int IntKind.u64 d]] = some (V.sl none false 2 (i18_0 a b c d))) ∧ (callP (evalFn Try.prog Try.cfg k) 17 [V.sl (bif !decide (i29_0 a b c d = 0) then some true else bif decide (i28_0 a b < c) then none else bif decide (i28_0 c d < a) then none else bif decide (a < c) then none else bif decide (i28_0 c d < i28_0 a b) then none else some true) (!decide (i29_0 a b c d = 0) || bif decide (i28_0 a b < c) then false else bif decide (i28_0 c d < a) then false else bif decide (a < c) then false else !decide (i28_0 c d < i28_0 a b)) (bif !decide (i29_0 a b c d = 0) then 0 else bif decide (i28_0 a b < c) then 2 else bif decide (i28_0 c d < a) then 2 else bif decide (a < c) then 2 else bif decide (i28_0 c d < i28_0 a b) then 2 else 0) (i15_0 a b c d), V.sl none false 2 (i18_0 a b c d)] = some (V.bool (sameS (i15_0 a b c d) (i18_0 a b c d)))) ∧ ((!sameS (i15_0 a b c d) (i18_0 a b c d)) = false) ∧ (callP (evalFn Try.prog Try.cfg k) 11 [] = some (V.bool true)) ∧ (callP (evalFn Try.prog Try.cfg k) 19 [V.agg [V.int IntKind.u64 a, V.int IntKind.u64 b], V.agg [V.int IntKind.u64 c, V.int IntKind.u64 d]] = some (V.bool (i19_0 a b c d))) ∧ ((!i19_0 a b c d) = true) ∧ (decide (i14_2 a b c d = 3) = true) ∧ True) (by kernel_rfl) ⟨c0, c1, c2, c3, c4, c5, c6, c7, c8, c9, c10, c11, trivial⟩
theorem p4_8 (a : Int) (b : Int) (c : Int) (d : Int) (k : Nat)
    (c0 : callP (evalFn Try.prog Try.cfg k) 14 [V.agg [V.int IntKind.u64 a, V.int IntKind.u64 b], V.agg [V.int IntKind.u64 c, V.int IntKind.u64 d]] = some (V.tup [V.agg [V.int IntKind.u64 (i14_0 a b c d), V.int IntKind.u64 (i14_1 a b c d)], V.int IntKind.i64 (i14_2 a b c d)]))
    (c1 : callP (evalFn Try.prog Try.cfg k) 15 [V.agg [V.int IntKind.u64 a, V.int IntKind.u64 b], V.agg [V.int IntKind.u64 c, V.int IntKind.u64 d]] = some (V.tup [V.sl (bif !decide (i29_0 a b c d = 0) then some true else bif decide (i28_0 a b < c) then none else bif decide (i28_0 c d < a) then none else bif decide (a < c) then none else bif decide (i28_0 c d < i28_0 a b) then none else some true) (!decide (i29_0 a b c d = 0) || bif decide (i28_0 a b < c) then false else bif decide (i28_0 c d < a) then false else bif decide (a < c) then false else !decide (i28_0 c d < i28_0 a b)) (bif !decide (i29_0 a b c d = 0) then 0 else bif decide (i28_0 a b < c) then 2 else bif decide (i28_0 c d < a) then 2 else bif decide (a < c) then 2 else bif decide (i28_0 c d < i28_0 a b) then 2 else 0) (i15_0 a b c d), V.int IntKind.i64 (i15_1 a b c d)]))
    (c2 : callP (evalFn Try.prog Try.cfg k) 16 [V.sl none false 2 [V.agg [V.int IntKind.u64 a, V.int IntKind.u64 b], V.agg [V.int IntKind.u64 c, V.int IntKind.u64 d]]] = some (V.int IntKind.i64 (i16_0 a b c d)))
    (c3 : (!decide (i16_0 a b c d = 0)) = false)
    (c4 : (!decide (i15_1 a b c d = 0)) = false)
    (c5 : callP (evalFn Try.prog Try.cfg k) 18 [V.agg [V.int IntKind.u64 a, V.int IntKind.u64 b], V.agg [V.int IntKind.u64 c, V.int IntKind.u64 d]] = some (V.sl none false 2 (i18_0 a b c d)))
    (c6 : callP (evalFn Try.prog Try.cfg k) 17 [V.sl (bif !decide (i29_0 a b c d = 0) then some true else bif decide (i28_0 a b < c) then none else bif decide (i28_0 c d < a) then none else bif decide (a < c) then none else bif decide (i28_0 c d < i28_0 a b) then none else some true) (!decide (i29_0 a b c d = 0) || bif decide (i28_0 a b < c) then false else bif decide (i28_0 c d < a) then false else bif decide (a < c) then false else !decide (i28_0 c d < i28_0 a b)) (bif !decide (i29_0 a b c d = 0) then 0 else bif decide (i28_0 a b < c) then 2 else bif decide (i28_0 c d < a) then 2 else bif decide (a < c) then 2 else bif decide (i28_0 c d < i28_0 a b) then 2 else 0) (i15_0 a b c d), V.sl none false 2 (i18_0 a b c d)] = some (V.bool (sameS (i15_0 a b c d) (i18_0 a b c d))))
    (c7 : (!sameS (i15_0 a b c d) (i18_0 a b c d)) = false)
    (c8 : callP (evalFn Try.prog Try.cfg k) 11 [] = some (V.bool true))
    (c9 : callP (evalFn Try.prog Try.cfg k) 19 [V.agg [V.int IntKind.u64 a, V.int IntKind.u64 b], V.agg [V.int IntKind.u64 c, V.int IntKind.u64 d]] = some (V.bool (i19_0 a b c d)))
    (c10 : (!i19_0 a b c d) = false)
    (c11 : decide (i14_2 a b c d = 0) = true)
    (c12 : callP (evalFn Try.prog Try.cfg k) 20 [V.agg [V.int IntKind.u64 a, V.int IntKind.u64 b], V.agg [V.int IntKind.u64 c, V.int IntKind.u64 d]] = some (V.agg [V.int IntKind.u64 (i20_0 a b c d), V.int IntKind.u64 (i20_1 a b c d)])) :
    callP (evalFn Try.prog Try.cfg (k + 1)) 4 [V.agg [V.int IntKind.u64 a, V.int IntKind.u64 b], V.agg [V.int IntKind.u64 c, V.int IntKind.u64 d]] = some (V.bool (decide (i14_0 a b c d = i20_0 a b c d) && (decide (i14_1 a b c d = i20_1 a b c d) && true))) :=
  byP [Hint.call 13 (V.tup [V.agg [V.int IntKind.u64 (i14_0 a b c d), V.int IntKind.u64 (i14_1 a b c d)], V.int IntKind.i64 (i14_2 a b c d)]), Hint.call 19 (V.tup [V.sl (bif !decide (i29_0 a b c d = 0) then some true else bif decide (i28_0 a b < c) then none else bif decide (i28_0 c d < a) then none else bif decide (a < c) then none else bif decide (i28_0 c d < i28_0 a b) then none else some true) (!decide (i29_0 a b c d = 0) || bif decide (i28_0 a b < c) then false else bif decide (i28_0 c d < a) then false else bif decide (a < c) then false else !decide (i28_0 c d < i28_0 a b)) (bif !decide (i29_0 a b c d = 0) then 0 else bif decide (i28_0 a b < c) then 2 else bif decide (i28_0 c d < a) then 2 else bif decide (a < c) then 2 else bif decide (i28_0 c d < i28_0 a b) then 2 else 0) (i15_0 a b c d), V.int IntKind.i64 (i15_1 a b c d)]), Hint.call 25 (V.int IntKind.i64 (i16_0 a b c d)), Hint.br 27 false, Hint.br 51 false, Hint.call 55 (V.sl none false 2 (i18_0 a b c d)), Hint.call 56 (V.bool (sameS (i15_0 a b c d) (i18_0 a b c d))), Hint.br 59 false, Hint.call 60 (V.bool true), Hint.call 65 (V.bool (i19_0 a b c d)), Hint.br 66 false, Hint.br 76 true, Hint.call 80 (V.agg [V.int IntKind.u64 (i20_0 a b c d), V.int IntKind.u64 (i20_1 a b c d)])] ((callP (evalFn Try.prog Try.cfg k) 14 [V.agg [V.int IntKind.u64 a, V.int IntKind.u64 b], V.agg [V.int IntKind.u64 c, V.int IntKind.u64 d]] = some (V.tup [V.agg [V.int IntKind.u64 (i14_0 a b c d), V.int IntKind.u64 (i14_1 a b c d)], V.int IntKind.i64 (i14_2 a b c d)])) ∧ (callP (evalFn Try.prog Try.cfg k) 15 [V.agg [V.int IntKind.u64 a, V.int IntKind.u64 b], V.agg [V.int IntKind.u64 c, V.int IntKind.u64 d]] = some (V.tup [V.sl (bif !decide (i29_0 a b c d = 0) then some true else bif decide (i28_0 a b < c) then none else bif decide (i28_0 c d < a) then none else bif decide (a < c) then none else bif decide (i28_0 c d < i28_0 a b) then none else some true) (!decide (i29_0 a b c d = 0) || bif decide (i28_0 a b < c) then false else bif decide (i28_0 c d < a) then false else bif decide (a < c) then false else !decide (i28_0 c d < i28_0 a b)) (bif !decide (i29_0 a b c d = 0) then 0 else bif decide (i28_0 a b < c) then 2 else bif decide (i28_0 c d < a) then 2 else bif decide (a < c) then 2 else bif decide (i28_0 c d < i28_0 a b) then 2 else 0) (i15_0 a b c d), V.int IntKind.i64 (i15_1 a b c d)])) ∧ (callP (evalFn Try.prog Try.cfg k) 16 [V.sl none false 2 [V.agg [V.int IntKind.u64 a, V.int IntKind.u64 b], V.agg [V.int IntKind.u64 c, V.int IntKind.u64 d]]] = some (V.int IntKind.i64 (i16_0 a b c d))) ∧ ((!decide (i16_0 a b c d = 0)) = false) ∧ ((!decide (i15_1 a b c d = 0)) = false) ∧ (callP (evalFn Try.prog Try.cfg k) 18 [V.agg [V.int IntKind.u64 a, V.int IntKind.u64 b], V.agg [V.int IntKind.u64 c, V.int IntKind.u64 d]] = some (V.sl none false 2 (i18_0 a b c d))) ∧ (callP (evalFn Try.prog Try.cfg k) 17 [V.sl (bif !decide (i29_0 a b c d = 0) then some true else bif decide (i28_0 a b < c) then none else bif decide (i28_0 c d < a) then none else bif decide (a < c) then none else bif decide (i28_0 c d < i28_0 a b) then none else some true) (!decide (i29_0 a b c d = 0) || bif decide (i28_0 a b < c) then false else bif decide (i28_0 c d < a) then false else bif decide (a < c) then false else !decide (i28_0 c d < i28_0 a b)) (bif !decide (i29_0 a b c d = 0) then 0 else bif decide (i28_0 a b < c) then 2 else bif decide (i28_0 c d < a) then 2 else bif decide (a < c) then 2 else bif decide (i28_0 c d < i28_0 a b) then 2 else 0) (i15_0 a b c d), V.sl none false 2 (i18_0 a b c d)] = some (V.bool (sameS (i15_0 a b c d) (i18_0 a b c d)))) ∧ ((!sameS (i15_0 a b c d) (i18_0 a b c d)) = false) ∧ (callP (evalFn Try.prog Try.cfg k) 11 [] = some (V.bool true)) ∧ (callP (evalFn Try.prog Try.cfg k) 19 [V.agg [V.int IntKind.u64 a, V.int IntKind.u64 b], V.agg [V.int IntKind.u64 c, V.int IntKind.u64 d]] = some (V.bool (i19_0 a b c d))) ∧ ((!i19_0 a b c d) = false) ∧ (decide (i14_2 a b c d = 0) = true) ∧ (callP (evalFn Try.prog Try.cfg k) 20 [V.agg [V.int IntKind.u64 a, V.int IntKind.u64 b], V.agg [V.int IntKind.u64 c, V.int IntKind.u64 d]] = some (V.agg [V.int IntKind.u64 (i20_0 a b c d), V.int IntKind.u64 (i20_1 a b c d)])) ∧ True) (by kernel_rfl) ⟨c0, c1, c2, c3, c4, c5, c6, c7, c8, c9, c10, c11, c12, trivial⟩

def inU (a : Int) : Prop := 0 ≤ a ∧ a < 18446744073709551616

theorem chk_eq {a b : Int} (ha : inU a) (hb : inU b) : i12_0 a b = i10_0 a b := by
  unfold inU at ha hb
  unfold i12_0 i10_0
  simp only [wrap_u64]
  by_cases h : b = 0
  · simp [h]
  · by_cases h2 : ((a + b) % 18446744073709551616 - 1) % 18446744073709551616 < a
    · rw [decide_eq_true h2, decide_eq_true (show (18446744073709551615 - a) % 18446744073709551616 < (b - 1) % 18446744073709551616 by omega)]
    · rw [decide_eq_false h2, decide_eq_false (show ¬ (18446744073709551615 - a) % 18446744073709551616 < (b - 1) % 18446744073709551616 by omega)]
theorem lst_eq (a b : Int) : i28_0 a b = i13_0 a b := by
  unfold i28_0 i13_0
  simp only [wrap_u64]; omega
theorem ok_iff {a b : Int} (ha : inU a) (hb : inU b) : i10_0 a b = 0 ↔ b ≠ 0 ∧ a ≤ i13_0 a b ∧ i13_0 a b = a + b - 1 := by
  unfold inU at ha hb
  unfold i10_0 i13_0
  simp only [wrap_u64]
  by_cases h : b = 0
  · simp [h]
  · have e1 : (b - 1) % 18446744073709551616 = b - 1 := by omega
    have e2 : (18446744073709551615 - a) % 18446744073709551616 = 18446744073709551615 - a := by omega
    rw [e1, e2]
    by_cases h2 : 18446744073709551615 - a < b - 1
    · simp only [decide_eq_false h, decide_eq_true h2, cond_true, cond_false]
      refine ⟨fun h => absurd h (by decide), fun ⟨_, _, h3⟩ => ?_⟩
      omega
    · have e3 : (a + (b - 1)) % 18446744073709551616 = a + (b - 1) := by omega
      simp only [decide_eq_false h, decide_eq_false h2, cond_true, cond_false, e3]
      exact ⟨fun _ => ⟨h, by omega, by omega⟩, fun _ => by trivial⟩

/-- Two spans that may be. -/
structure Two (a b c d : Int) : Prop where
  ha : inU a
  hb : inU b
  hc : inU c
  hd : inU d
  b0 : b ≠ 0
  d0 : d ≠ 0
  x : i13_0 a b = a + b - 1
  y : i13_0 c d = c + d - 1
  xl : a + b - 1 < 18446744073709551616
  yl : c + d - 1 < 18446744073709551616

theorem first_eq {a b c d : Int} (ha : inU a) (hb : inU b) (hc : inU c) (hd : inU d) : i29_0 a b c d = i16_0 a b c d := by
  unfold i29_0 i16_0
  rw [chk_eq ha hb, chk_eq hc hd]
theorem two_of {a b c d : Int} (ha : inU a) (hb : inU b) (hc : inU c) (hd : inU d) (h : i16_0 a b c d = 0) : Two a b c d := by
  unfold i16_0 at h
  have h1 : i10_0 a b = 0 := by
    by_cases h1 : i10_0 a b = 0
    · exact h1
    · rw [decide_eq_false h1] at h; exact absurd h h1
  rw [decide_eq_true h1] at h
  have h2 : i10_0 c d = 0 := by
    by_cases h2 : i10_0 c d = 0
    · exact h2
    · rw [decide_eq_false h2] at h; exact absurd h h2
  obtain ⟨p1, p2, p3⟩ := (ok_iff ha hb).1 h1
  obtain ⟨q1, q2, q3⟩ := (ok_iff hc hd).1 h2
  have w1 : i13_0 a b < 18446744073709551616 := by unfold i13_0; simp only [wrap_u64]; omega
  have w2 : i13_0 c d < 18446744073709551616 := by unfold i13_0; simp only [wrap_u64]; omega
  exact ⟨ha, hb, hc, hd, p1, q1, p3, q3, by omega, by omega⟩

theorem meet_iff {a b c d : Int} (t : Two a b c d) : i19_0 a b c d = decide (c ≤ a + b - 1 ∧ a ≤ c + d - 1) := by
  unfold i19_0 i31_0
  rw [t.x, t.y]
  have h1 := t.ha; have h2 := t.hb; have h3 := t.hc; have h4 := t.hd; have h5 := t.b0; have h6 := t.d0
  unfold inU at h1 h2 h3 h4
  by_cases p : c ≤ a <;> by_cases q : a ≤ c <;> by_cases r : a ≤ c + d - 1 <;> by_cases s : c ≤ a + b - 1 <;> simp [p, q, r, s] <;> omega


theorem mn (x y : Int) : (if y < x then y else x) = min x y := by omega
theorem mx (x y : Int) : (if x < y then y else x) = max x y := by omega

theorem bad_facts {a b c d : Int} (ha : inU a) (hb : inU b) (hc : inU c) (hd : inU d) (h : i16_0 a b c d ≠ 0) :
    i14_2 a b c d = i16_0 a b c d ∧ i15_1 a b c d = i16_0 a b c d ∧ i14_0 a b c d = 0 ∧ i14_1 a b c d = 0 ∧ i15_0 a b c d = [] := by
  have e := first_eq ha hb hc hd
  have h' : i29_0 a b c d ≠ 0 := by rw [e]; exact h
  unfold i14_2 i15_1 i14_0 i14_1 i15_0
  rw [decide_eq_false h']
  exact ⟨e, e, rfl, rfl, rfl⟩

theorem less_facts {a b c d : Int} (t : Two a b c d) (he : i29_0 a b c d = 0) : i15_1 a b c d = 0 ∧ sameS (i15_0 a b c d) (i18_0 a b c d) = true := by
  have h1 := t.ha; have h2 := t.hb; have h3 := t.hc; have h4 := t.hd; have h5 := t.b0; have h6 := t.d0; have h7 := t.xl; have h8 := t.yl
  unfold inU at h1 h2 h3 h4
  have hm := meet_iff t
  unfold i15_1 i15_0 i18_0
  rw [hm]
  simp only [lst_eq, t.x, t.y, he, i30_0, i22_0, wrap_u64]
  refine ⟨rfl, ?_⟩
  have hd0 : decide True = true := by simp
  by_cases m : c ≤ a + b - 1 ∧ a ≤ c + d - 1
  · rw [decide_eq_true m, hd0, decide_eq_false (show ¬ a + b - 1 < c by omega), decide_eq_false (show ¬ c + d - 1 < a by omega)]
    cases hr : decide (a < c) <;> cases hs : decide (c + d - 1 < a + b - 1) <;> simp [sameS, eqS]
  · rw [decide_eq_false m, hd0]
    by_cases p : a + b - 1 < c
    · rw [decide_eq_true p]; simp [sameS, eqS]
    · rw [decide_eq_false p, decide_eq_true (show c + d - 1 < a by omega)]; simp [sameS, eqS]

theorem cut_none {a b c d : Int} (t : Two a b c d) (he : i29_0 a b c d = 0) (hm : i19_0 a b c d = false) : i14_2 a b c d = 3 ∧ i14_0 a b c d = 0 ∧ i14_1 a b c d = 0 := by
  rw [meet_iff t] at hm
  have hm := of_decide_eq_false hm
  have h1 := t.ha; have h2 := t.hb; have h3 := t.hc; have h4 := t.hd; have h5 := t.b0; have h6 := t.d0
  unfold inU at h1 h2 h3 h4
  have hc : (if c + d - 1 < a + b - 1 then c + d - 1 else a + b - 1) < if a < c then c else a := by
    rw [mn, mx]; omega
  unfold i14_2 i14_0 i14_1
  simp only [lst_eq, t.x, t.y, he, decide_eq_true hc]
  exact ⟨rfl, rfl, rfl⟩

theorem cut_some {a b c d : Int} (t : Two a b c d) (he : i29_0 a b c d = 0) (hm : i19_0 a b c d = true) : i14_2 a b c d = 0 ∧ i14_0 a b c d = i20_0 a b c d ∧ i14_1 a b c d = i20_1 a b c d := by
  rw [meet_iff t] at hm
  have hm := of_decide_eq_true hm
  have h1 := t.ha; have h2 := t.hb; have h3 := t.hc; have h4 := t.hd; have h5 := t.b0; have h6 := t.d0
  unfold inU at h1 h2 h3 h4
  have hc : ¬ ((if c + d - 1 < a + b - 1 then c + d - 1 else a + b - 1) < if a < c then c else a) := by
    rw [mn, mx]; omega
  unfold i14_2 i14_0 i14_1 i20_0 i20_1
  simp only [lst_eq, t.x, t.y, he, decide_eq_false hc, i30_0, i22_0]
  refine ⟨rfl, ?_, ?_⟩
  · by_cases p : a < c <;> simp [p]
  · by_cases p : a < c <;> by_cases q : c + d - 1 < a + b - 1 <;> simp [p, q]

theorem spans18 {a b c d : Int} : ∀ x ∈ i18_0 a b c d, isSpan x := by
  unfold i18_0
  intro x hx
  cases h1 : (!i19_0 a b c d) <;> cases h2 : (decide (a < c)) <;> cases h3 : (decide (i13_0 c d < i13_0 a b)) <;> rw [h1, h2, h3] at hx <;> simp at hx <;>
    first | (subst hx; exact ⟨_, _, rfl⟩) | (rcases hx with hx | hx <;> subst hx <;> exact ⟨_, _, rfl⟩)
theorem spans15 {a b c d : Int} : (∀ x ∈ i15_0 a b c d, isSpan x) ∧ (i15_0 a b c d).length ≤ 2 := by
  unfold i15_0
  cases h0 : (!decide (i29_0 a b c d = 0)) <;> cases h1 : (decide (i28_0 a b < c)) <;> cases h2 : (decide (i28_0 c d < a)) <;> cases h3 : (decide (a < c)) <;> cases h4 : (decide (i28_0 c d < i28_0 a b)) <;>
    simp [isSpan]

theorem h11 (k : Nat) : callP (evalFn Try.prog Try.cfg (k + 10)) 11 [] = some (.bool true) := by kernel_rfl

theorem law_spanCuts {a b c d : Int} (ha : inU a) (hb : inU b) (hc : inU c) (hd : inU d) : callP (evalFn Try.prog Try.cfg (10 + 1)) 4 [V.agg [V.int IntKind.u64 a, V.int IntKind.u64 b], V.agg [V.int IntKind.u64 c, V.int IntKind.u64 d]] = some (.bool true) := by
  by_cases h : i16_0 a b c d = 0
  · have t := two_of ha hb hc hd h
    have he : i29_0 a b c d = 0 := by rw [first_eq ha hb hc hd]; exact h
    obtain ⟨l1, l2⟩ := less_facts t he
    have hml : (2 : Nat) ≤ maxLen := by decide
    have hs := @spans15 a b c d
    rcases Bool.eq_false_or_eq_true (i19_0 a b c d) with hm | hm
    · obtain ⟨k1, k2, k3⟩ := cut_some t he hm
      refine (p4_8 a b c d 10 (h14 a b c d 3) (h15 a b c d 3) (h16 a b c d 4) (by rw [h]; rfl) (by rw [l1]; rfl) (h18 a b c d 6)
        (h17 (Nat.le_trans hs.2 hml) hs.1 spans18 ?_ (fun _ => rfl) (by omega)) (by rw [l2]; rfl) (h11 0) (h19 a b c d 7) (by rw [hm]; rfl) (decide_eq_true k1) (h20 a b c d 8)).trans ?_
      · unfold i15_0
        cases (!decide (i29_0 a b c d = 0)) <;> cases (decide (i28_0 a b < c)) <;> cases (decide (i28_0 c d < a)) <;> cases (decide (a < c)) <;> cases (decide (i28_0 c d < i28_0 a b)) <;> simp
      · rw [decide_eq_true k2, decide_eq_true k3]; rfl
    · obtain ⟨k1, k2, k3⟩ := cut_none t he hm
      refine (p4_6 a b c d 10 (h14 a b c d 3) (h15 a b c d 3) (h16 a b c d 4) (by rw [h]; rfl) (by rw [l1]; rfl) (h18 a b c d 6)
        (h17 (Nat.le_trans hs.2 hml) hs.1 spans18 ?_ (fun _ => rfl) (by omega)) (by rw [l2]; rfl) (h11 0) (h19 a b c d 7) (by rw [hm]; rfl) (decide_eq_true k1)).trans ?_
      · unfold i15_0
        cases (!decide (i29_0 a b c d = 0)) <;> cases (decide (i28_0 a b < c)) <;> cases (decide (i28_0 c d < a)) <;> cases (decide (a < c)) <;> cases (decide (i28_0 c d < i28_0 a b)) <;> simp
      · rw [decide_eq_true k2, decide_eq_true k3]; rfl
  · obtain ⟨k1, k2, k3, k4, k5⟩ := bad_facts ha hb hc hd h
    refine (p4_0 a b c d 10 (h14 a b c d 3) (h15 a b c d 3) (h16 a b c d 4) (by rw [decide_eq_false h]; rfl) (h11 0) (decide_eq_true k1) (decide_eq_true k2) (by rw [decide_eq_true k3, decide_eq_true k4]; rfl)).trans ?_
    rw [k5]; rfl
end Go.Proofs
namespace Go.Proofs.Ytloboanoionagaa
open Go.Sym
theorem spanCuts_lifted (os : Os) (started : os.Started) (H : Type) (enc : TypeId × Value → H) :
    ReturnsInHanded {} Try.checked os 4 .any (Rows.spanCutsSpec.pre6 enc Try.prog Try.f4 Rows.spanCutsRow.domain false) (Rows.spanCutsSpec.post enc Try.prog Try.f4 false true false false) := by
  refine returnsInHanded_of_change (C := Try.checked) Try.own started (by kernel_rfl) Try.func4
    (ChangeSpec.witness6 (enc := enc) (C := Try.checked) false ⟨#[], #[.agg #[.int .u64 0, .int .u64 0], .agg #[.int .u64 0, .int .u64 0]], []⟩ 8 (by kernel_rfl) (by kernel_rfl) (by kernel_rfl) (by kernel_rfl)) ?_
  intro W base args ds gs before hval hW hcnd _
  refine law_end (P := Try.prog) (C := Try.cfg) (k := 2) (tb := 4) Try.mixed Try.progOk Try.laidOut (by kernel_rfl) rfl rfl Try.underlying4 ?_ ?_ (fun j t v h1 h2 => ⟨base, hval j t v h1 h2⟩) hW
  · intro ds hds
    match ds, hds with
    | [d, e], _ => exact ⟨rfl, rfl, rfl⟩
  · intro xs hxs
    match xs, hxs with
    | [x, y], ⟨hx, hy, _⟩ =>
      obtain ⟨a, b, rfl, ha, hb⟩ := open24 hx
      obtain ⟨c, d, rfl, hc, hd⟩ := open24 hy
      exact ⟨_, law_spanCuts ha hb hc hd⟩

theorem spanCuts_holds : Rows.SpanCutsSaid :=
  OpenClaim.holds_of_wide 4 Try.f4 rfl rfl rfl rfl rfl rfl rfl ⟨rfl, rfl, rfl, rfl, rfl⟩ rfl rfl rfl rfl rfl (by kernel_rfl) Try.func4 (by kernel_rfl)
    (of_decide_eq_true (by kernel_rfl)) (by unfold Func.isWrapper; first | (rw [if_pos (by decide +kernel)]; kernel_rfl) | (rw [if_neg (by decide +kernel)]; exact ⟨rfl, rfl⟩))
    (fun os started H enc _ => spanCuts_lifted os started H enc)
end Go.Proofs.Ytloboanoionagaa
