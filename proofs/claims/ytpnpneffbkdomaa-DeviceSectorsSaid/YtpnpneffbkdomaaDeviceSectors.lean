/-
  DeviceSectors: any sector written and read is as the document says, or refused, for all devices, numbers and texts.
-/
import Derived.Test.YtpnpneffbkdomaaDevF
set_option linter.unusedVariables false
set_option linter.unusedSimpArgs false
set_option linter.constructorNameAsVariable false
set_option maxRecDepth 100000
namespace Go.Proofs
open Go.Sym
theorem p3_0 (n : Option Bool) (m : Option Bool) (c : Bool) (d : Bool) (xs : List V) (ys : List V) (a : Int) (t : List UInt8) (k : Nat)
    (c0 : callP (evalFn Try.prog Try.cfg k) 14 [V.agg [V.sl n c 1 xs, V.sl m d 2 ys]] = some (V.agg [V.sl n false 1 (List.take 70 xs), V.sl m false 2 (List.take 65 ys)]))
    (c1 : callP (evalFn Try.prog Try.cfg k) 15 [V.agg [V.sl n false 1 (List.take 70 xs), V.sl m false 2 (List.take 65 ys)], V.int IntKind.i64 a, V.str t] = some (V.tup [V.agg [V.sl (some true) true 0 [], V.sl (some true) true 0 []], V.int IntKind.i64 (whyV (List.take 70 xs) (List.take 65 ys) a)]))
    (c2 : callP (evalFn Try.prog Try.cfg k) 16 [V.agg [V.sl n false 1 (List.take 70 xs), V.sl m false 2 (List.take 65 ys)], V.int IntKind.i64 a] = some (V.tup [V.str [], V.int IntKind.i64 (whyV (List.take 70 xs) (List.take 65 ys) a)]))
    (c3 : callP (evalFn Try.prog Try.cfg k) 17 [V.agg [V.sl n false 1 (List.take 70 xs), V.sl m false 2 (List.take 65 ys)], V.int IntKind.i64 a] = some (V.int IntKind.i64 (whyV (List.take 70 xs) (List.take 65 ys) a)))
    (c4 : (!decide (whyV (List.take 70 xs) (List.take 65 ys) a = 0)) = true)
    (c5 : callP (evalFn Try.prog Try.cfg k) 18 [] = some (V.bool true))
    (c6 : decide (whyV (List.take 70 xs) (List.take 65 ys) a = whyV (List.take 70 xs) (List.take 65 ys) a) = true)
    (c7 : decide (whyV (List.take 70 xs) (List.take 65 ys) a = whyV (List.take 70 xs) (List.take 65 ys) a) = true)
    (c8 : callP (evalFn Try.prog Try.cfg k) 19 [V.agg [V.sl (some true) true 0 [], V.sl (some true) true 0 []], V.agg [V.sl (some true) true 0 [], V.sl (some true) true 0 []]] = some (V.bool true)) :
    callP (evalFn Try.prog Try.cfg (k + 1)) 3 [V.agg [V.sl n c 1 xs, V.sl m d 2 ys], V.int IntKind.i64 a, V.str t] = some (V.bool true) :=
  byP [Hint.call 13 (V.agg [V.sl n false 1 (List.take 70 xs), V.sl m false 2 (List.take 65 ys)]), Hint.call 18 (V.tup [V.agg [V.sl (some true) true 0 [], V.sl (some true) true 0 []], V.int IntKind.i64 (whyV (List.take 70 xs) (List.take 65 ys) a)]), Hint.call 24 (V.tup [V.str [], V.int IntKind.i64 (whyV (List.take 70 xs) (List.take 65 ys) a)]), Hint.call 29 (V.int IntKind.i64 (whyV (List.take 70 xs) (List.take 65 ys) a)), Hint.br 31 true, Hint.call 32 (V.bool true), Hint.br 38 true, Hint.br 43 true, Hint.call 50 (V.bool true)] ((callP (evalFn Try.prog Try.cfg k) 14 [V.agg [V.sl n c 1 xs, V.sl m d 2 ys]] = some (V.agg [V.sl n false 1 (List.take 70 xs), V.sl m false 2 (List.take 65 ys)])) ∧ (callP (evalFn Try.prog Try.cfg k) 15 [V.agg [V.sl n false 1 (List.take 70 xs), V.sl m false 2 (List.take 65 ys)], V.int IntKind.i64 a, V.str t] = some (V.tup [V.agg [V.sl (some true) true 0 [], V.sl (some true) true 0 []], V.int IntKind.i64 (whyV (List.take 70 xs) (List.take 65 ys) a)])) ∧ (callP (evalFn Try.prog Try.cfg k) 16 [V.agg [V.sl n false 1 (List.take 70 xs), V.sl m false 2 (List.take 65 ys)], V.int IntKind.i64 a] = some (V.tup [V.str [], V.int IntKind.i64 (whyV (List.take 70 xs) (List.take 65 ys) a)])) ∧ (callP (evalFn Try.prog Try.cfg k) 17 [V.agg [V.sl n false 1 (List.take 70 xs), V.sl m false 2 (List.take 65 ys)], V.int IntKind.i64 a] = some (V.int IntKind.i64 (whyV (List.take 70 xs) (List.take 65 ys) a))) ∧ ((!decide (whyV (List.take 70 xs) (List.take 65 ys) a = 0)) = true) ∧ (callP (evalFn Try.prog Try.cfg k) 18 [] = some (V.bool true)) ∧ (decide (whyV (List.take 70 xs) (List.take 65 ys) a = whyV (List.take 70 xs) (List.take 65 ys) a) = true) ∧ (decide (whyV (List.take 70 xs) (List.take 65 ys) a = whyV (List.take 70 xs) (List.take 65 ys) a) = true) ∧ (callP (evalFn Try.prog Try.cfg k) 19 [V.agg [V.sl (some true) true 0 [], V.sl (some true) true 0 []], V.agg [V.sl (some true) true 0 [], V.sl (some true) true 0 []]] = some (V.bool true)) ∧ True) (by kernel_rfl) ⟨c0, c1, c2, c3, c4, c5, c6, c7, c8, trivial⟩
theorem p3_3 (n : Option Bool) (m : Option Bool) (c : Bool) (d : Bool) (xs : List V) (ys : List V) (a : Int) (t : List UInt8) (k : Nat)
    (c0 : callP (evalFn Try.prog Try.cfg k) 14 [V.agg [V.sl n c 1 xs, V.sl m d 2 ys]] = some (V.agg [V.sl n false 1 (List.take 70 xs), V.sl m false 2 (List.take 65 ys)]))
    (c1 : callP (evalFn Try.prog Try.cfg k) 15 [V.agg [V.sl n false 1 (List.take 70 xs), V.sl m false 2 (List.take 65 ys)], V.int IntKind.i64 a, V.str t] = some (V.tup [V.agg [V.sl (some true) true 0 [], V.sl (some true) true 0 []], V.int IntKind.i64 4]))
    (c2 : callP (evalFn Try.prog Try.cfg k) 16 [V.agg [V.sl n false 1 (List.take 70 xs), V.sl m false 2 (List.take 65 ys)], V.int IntKind.i64 a] = some (V.tup [V.str (readR (List.take 70 xs) (List.take 65 ys) a), V.int IntKind.i64 0]))
    (c3 : callP (evalFn Try.prog Try.cfg k) 17 [V.agg [V.sl n false 1 (List.take 70 xs), V.sl m false 2 (List.take 65 ys)], V.int IntKind.i64 a] = some (V.int IntKind.i64 (whyV (List.take 70 xs) (List.take 65 ys) a)))
    (c4 : (!decide (whyV (List.take 70 xs) (List.take 65 ys) a = 0)) = false)
    (c5 : callP (evalFn Try.prog Try.cfg k) 20 [V.agg [V.sl n false 1 (List.take 70 xs), V.sl m false 2 (List.take 65 ys)], V.int IntKind.i64 a] = some (V.str (readR (List.take 70 xs) (List.take 65 ys) a)))
    (c6 : (!decide (readR (List.take 70 xs) (List.take 65 ys) a = readR (List.take 70 xs) (List.take 65 ys) a)) = false)
    (c7 : callP (evalFn Try.prog Try.cfg k) 18 [] = some (V.bool true))
    (c8 : decide (128 < (↑t.length : Int)) = true)
    (c9 : callP (evalFn Try.prog Try.cfg k) 19 [V.agg [V.sl (some true) true 0 [], V.sl (some true) true 0 []], V.agg [V.sl (some true) true 0 [], V.sl (some true) true 0 []]] = some (V.bool true)) :
    callP (evalFn Try.prog Try.cfg (k + 1)) 3 [V.agg [V.sl n c 1 xs, V.sl m d 2 ys], V.int IntKind.i64 a, V.str t] = some (V.bool true) :=
  byP [Hint.call 13 (V.agg [V.sl n false 1 (List.take 70 xs), V.sl m false 2 (List.take 65 ys)]), Hint.call 18 (V.tup [V.agg [V.sl (some true) true 0 [], V.sl (some true) true 0 []], V.int IntKind.i64 4]), Hint.call 24 (V.tup [V.str (readR (List.take 70 xs) (List.take 65 ys) a), V.int IntKind.i64 0]), Hint.call 29 (V.int IntKind.i64 (whyV (List.take 70 xs) (List.take 65 ys) a)), Hint.br 31 false, Hint.call 58 (V.str (readR (List.take 70 xs) (List.take 65 ys) a)), Hint.br 61 false, Hint.call 62 (V.bool true), Hint.br 65 true, Hint.call 74 (V.bool true)] ((callP (evalFn Try.prog Try.cfg k) 14 [V.agg [V.sl n c 1 xs, V.sl m d 2 ys]] = some (V.agg [V.sl n false 1 (List.take 70 xs), V.sl m false 2 (List.take 65 ys)])) ∧ (callP (evalFn Try.prog Try.cfg k) 15 [V.agg [V.sl n false 1 (List.take 70 xs), V.sl m false 2 (List.take 65 ys)], V.int IntKind.i64 a, V.str t] = some (V.tup [V.agg [V.sl (some true) true 0 [], V.sl (some true) true 0 []], V.int IntKind.i64 4])) ∧ (callP (evalFn Try.prog Try.cfg k) 16 [V.agg [V.sl n false 1 (List.take 70 xs), V.sl m false 2 (List.take 65 ys)], V.int IntKind.i64 a] = some (V.tup [V.str (readR (List.take 70 xs) (List.take 65 ys) a), V.int IntKind.i64 0])) ∧ (callP (evalFn Try.prog Try.cfg k) 17 [V.agg [V.sl n false 1 (List.take 70 xs), V.sl m false 2 (List.take 65 ys)], V.int IntKind.i64 a] = some (V.int IntKind.i64 (whyV (List.take 70 xs) (List.take 65 ys) a))) ∧ ((!decide (whyV (List.take 70 xs) (List.take 65 ys) a = 0)) = false) ∧ (callP (evalFn Try.prog Try.cfg k) 20 [V.agg [V.sl n false 1 (List.take 70 xs), V.sl m false 2 (List.take 65 ys)], V.int IntKind.i64 a] = some (V.str (readR (List.take 70 xs) (List.take 65 ys) a))) ∧ ((!decide (readR (List.take 70 xs) (List.take 65 ys) a = readR (List.take 70 xs) (List.take 65 ys) a)) = false) ∧ (callP (evalFn Try.prog Try.cfg k) 18 [] = some (V.bool true)) ∧ (decide (128 < (↑t.length : Int)) = true) ∧ (callP (evalFn Try.prog Try.cfg k) 19 [V.agg [V.sl (some true) true 0 [], V.sl (some true) true 0 []], V.agg [V.sl (some true) true 0 [], V.sl (some true) true 0 []]] = some (V.bool true)) ∧ True) (by kernel_rfl) ⟨c0, c1, c2, c3, c4, c5, c6, c7, c8, c9, trivial⟩
theorem p3_5 (n : Option Bool) (m : Option Bool) (c : Bool) (d : Bool) (xs : List V) (ys : List V) (a : Int) (t : List UInt8) (k : Nat)
    (c0 : callP (evalFn Try.prog Try.cfg k) 14 [V.agg [V.sl n c 1 xs, V.sl m d 2 ys]] = some (V.agg [V.sl n false 1 (List.take 70 xs), V.sl m false 2 (List.take 65 ys)]))
    (c1 : callP (evalFn Try.prog Try.cfg k) 15 [V.agg [V.sl n false 1 (List.take 70 xs), V.sl m false 2 (List.take 65 ys)], V.int IntKind.i64 a, V.str t] = some (V.tup [V.agg [V.sl (some true) true 0 [], V.sl (some true) true 0 []], V.int IntKind.i64 6]))
    (c2 : callP (evalFn Try.prog Try.cfg k) 16 [V.agg [V.sl n false 1 (List.take 70 xs), V.sl m false 2 (List.take 65 ys)], V.int IntKind.i64 a] = some (V.tup [V.str (readR (List.take 70 xs) (List.take 65 ys) a), V.int IntKind.i64 0]))
    (c3 : callP (evalFn Try.prog Try.cfg k) 17 [V.agg [V.sl n false 1 (List.take 70 xs), V.sl m false 2 (List.take 65 ys)], V.int IntKind.i64 a] = some (V.int IntKind.i64 (whyV (List.take 70 xs) (List.take 65 ys) a)))
    (c4 : (!decide (whyV (List.take 70 xs) (List.take 65 ys) a = 0)) = false)
    (c5 : callP (evalFn Try.prog Try.cfg k) 20 [V.agg [V.sl n false 1 (List.take 70 xs), V.sl m false 2 (List.take 65 ys)], V.int IntKind.i64 a] = some (V.str (readR (List.take 70 xs) (List.take 65 ys) a)))
    (c6 : (!decide (readR (List.take 70 xs) (List.take 65 ys) a = readR (List.take 70 xs) (List.take 65 ys) a)) = false)
    (c7 : callP (evalFn Try.prog Try.cfg k) 18 [] = some (V.bool true))
    (c8 : decide (128 < (↑t.length : Int)) = false)
    (c9 : decide ((↑(List.take 65 ys).length : Int) = 60) = true)
    (c10 : callP (evalFn Try.prog Try.cfg k) 19 [V.agg [V.sl (some true) true 0 [], V.sl (some true) true 0 []], V.agg [V.sl (some true) true 0 [], V.sl (some true) true 0 []]] = some (V.bool true)) :
    callP (evalFn Try.prog Try.cfg (k + 1)) 3 [V.agg [V.sl n c 1 xs, V.sl m d 2 ys], V.int IntKind.i64 a, V.str t] = some (V.bool true) :=
  byP [Hint.call 13 (V.agg [V.sl n false 1 (List.take 70 xs), V.sl m false 2 (List.take 65 ys)]), Hint.call 18 (V.tup [V.agg [V.sl (some true) true 0 [], V.sl (some true) true 0 []], V.int IntKind.i64 6]), Hint.call 24 (V.tup [V.str (readR (List.take 70 xs) (List.take 65 ys) a), V.int IntKind.i64 0]), Hint.call 29 (V.int IntKind.i64 (whyV (List.take 70 xs) (List.take 65 ys) a)), Hint.br 31 false, Hint.call 58 (V.str (readR (List.take 70 xs) (List.take 65 ys) a)), Hint.br 61 false, Hint.call 62 (V.bool true), Hint.br 65 false, Hint.br 76 true, Hint.call 86 (V.bool true)] ((callP (evalFn Try.prog Try.cfg k) 14 [V.agg [V.sl n c 1 xs, V.sl m d 2 ys]] = some (V.agg [V.sl n false 1 (List.take 70 xs), V.sl m false 2 (List.take 65 ys)])) ∧ (callP (evalFn Try.prog Try.cfg k) 15 [V.agg [V.sl n false 1 (List.take 70 xs), V.sl m false 2 (List.take 65 ys)], V.int IntKind.i64 a, V.str t] = some (V.tup [V.agg [V.sl (some true) true 0 [], V.sl (some true) true 0 []], V.int IntKind.i64 6])) ∧ (callP (evalFn Try.prog Try.cfg k) 16 [V.agg [V.sl n false 1 (List.take 70 xs), V.sl m false 2 (List.take 65 ys)], V.int IntKind.i64 a] = some (V.tup [V.str (readR (List.take 70 xs) (List.take 65 ys) a), V.int IntKind.i64 0])) ∧ (callP (evalFn Try.prog Try.cfg k) 17 [V.agg [V.sl n false 1 (List.take 70 xs), V.sl m false 2 (List.take 65 ys)], V.int IntKind.i64 a] = some (V.int IntKind.i64 (whyV (List.take 70 xs) (List.take 65 ys) a))) ∧ ((!decide (whyV (List.take 70 xs) (List.take 65 ys) a = 0)) = false) ∧ (callP (evalFn Try.prog Try.cfg k) 20 [V.agg [V.sl n false 1 (List.take 70 xs), V.sl m false 2 (List.take 65 ys)], V.int IntKind.i64 a] = some (V.str (readR (List.take 70 xs) (List.take 65 ys) a))) ∧ ((!decide (readR (List.take 70 xs) (List.take 65 ys) a = readR (List.take 70 xs) (List.take 65 ys) a)) = false) ∧ (callP (evalFn Try.prog Try.cfg k) 18 [] = some (V.bool true)) ∧ (decide (128 < (↑t.length : Int)) = false) ∧ (decide ((↑(List.take 65 ys).length : Int) = 60) = true) ∧ (callP (evalFn Try.prog Try.cfg k) 19 [V.agg [V.sl (some true) true 0 [], V.sl (some true) true 0 []], V.agg [V.sl (some true) true 0 [], V.sl (some true) true 0 []]] = some (V.bool true)) ∧ True) (by kernel_rfl) ⟨c0, c1, c2, c3, c4, c5, c6, c7, c8, c9, c10, trivial⟩
theorem p3_7 (n : Option Bool) (m : Option Bool) (c : Bool) (d : Bool) (xs : List V) (ys : List V) (a : Int) (t : List UInt8) (k : Nat)
    (c0 : callP (evalFn Try.prog Try.cfg k) 14 [V.agg [V.sl n c 1 xs, V.sl m d 2 ys]] = some (V.agg [V.sl n false 1 (List.take 70 xs), V.sl m false 2 (List.take 65 ys)]))
    (c1 : callP (evalFn Try.prog Try.cfg k) 15 [V.agg [V.sl n false 1 (List.take 70 xs), V.sl m false 2 (List.take 65 ys)], V.int IntKind.i64 a, V.str t] = some (V.tup [V.agg [V.sl n false 1 (List.take 70 xs), V.sl none false 2 (List.take 65 ys ++ [putV a t])], V.int IntKind.i64 0]))
    (c2 : callP (evalFn Try.prog Try.cfg k) 16 [V.agg [V.sl n false 1 (List.take 70 xs), V.sl m false 2 (List.take 65 ys)], V.int IntKind.i64 a] = some (V.tup [V.str (readR (List.take 70 xs) (List.take 65 ys) a), V.int IntKind.i64 0]))
    (c3 : callP (evalFn Try.prog Try.cfg k) 17 [V.agg [V.sl n false 1 (List.take 70 xs), V.sl m false 2 (List.take 65 ys)], V.int IntKind.i64 a] = some (V.int IntKind.i64 (whyV (List.take 70 xs) (List.take 65 ys) a)))
    (c4 : (!decide (whyV (List.take 70 xs) (List.take 65 ys) a = 0)) = false)
    (c5 : callP (evalFn Try.prog Try.cfg k) 20 [V.agg [V.sl n false 1 (List.take 70 xs), V.sl m false 2 (List.take 65 ys)], V.int IntKind.i64 a] = some (V.str (readR (List.take 70 xs) (List.take 65 ys) a)))
    (c6 : (!decide (readR (List.take 70 xs) (List.take 65 ys) a = readR (List.take 70 xs) (List.take 65 ys) a)) = false)
    (c7 : callP (evalFn Try.prog Try.cfg k) 18 [] = some (V.bool true))
    (c8 : decide (128 < (↑t.length : Int)) = false)
    (c9 : decide ((↑(List.take 65 ys).length : Int) = 60) = false)
    (c10 : callP (evalFn Try.prog Try.cfg k) 21 [V.agg [V.sl n false 1 (List.take 70 xs), V.sl m false 2 (List.take 65 ys)], V.int IntKind.i64 a, V.str t] = some (V.agg [V.sl n false 1 (List.take 70 xs), V.sl none false 2 (List.take 65 ys ++ [putV a t])]))
    (c11 : callP (evalFn Try.prog Try.cfg k) 19 [V.agg [V.sl n false 1 (List.take 70 xs), V.sl none false 2 (List.take 65 ys ++ [putV a t])], V.agg [V.sl n false 1 (List.take 70 xs), V.sl none false 2 (List.take 65 ys ++ [putV a t])]] = some (V.bool (eqL (List.take 70 xs) (List.take 70 xs) && eqL (List.take 65 ys ++ [putV a t]) (List.take 65 ys ++ [putV a t])))) :
    callP (evalFn Try.prog Try.cfg (k + 1)) 3 [V.agg [V.sl n c 1 xs, V.sl m d 2 ys], V.int IntKind.i64 a, V.str t] = some (V.bool (eqL (List.take 70 xs) (List.take 70 xs) && eqL (List.take 65 ys ++ [putV a t]) (List.take 65 ys ++ [putV a t]))) :=
  byP [Hint.call 13 (V.agg [V.sl n false 1 (List.take 70 xs), V.sl m false 2 (List.take 65 ys)]), Hint.call 18 (V.tup [V.agg [V.sl n false 1 (List.take 70 xs), V.sl none false 2 (List.take 65 ys ++ [putV a t])], V.int IntKind.i64 0]), Hint.call 24 (V.tup [V.str (readR (List.take 70 xs) (List.take 65 ys) a), V.int IntKind.i64 0]), Hint.call 29 (V.int IntKind.i64 (whyV (List.take 70 xs) (List.take 65 ys) a)), Hint.br 31 false, Hint.call 58 (V.str (readR (List.take 70 xs) (List.take 65 ys) a)), Hint.br 61 false, Hint.call 62 (V.bool true), Hint.br 65 false, Hint.br 76 false, Hint.call 95 (V.agg [V.sl n false 1 (List.take 70 xs), V.sl none false 2 (List.take 65 ys ++ [putV a t])]), Hint.call 96 (V.bool (eqL (List.take 70 xs) (List.take 70 xs) && eqL (List.take 65 ys ++ [putV a t]) (List.take 65 ys ++ [putV a t])))] ((callP (evalFn Try.prog Try.cfg k) 14 [V.agg [V.sl n c 1 xs, V.sl m d 2 ys]] = some (V.agg [V.sl n false 1 (List.take 70 xs), V.sl m false 2 (List.take 65 ys)])) ∧ (callP (evalFn Try.prog Try.cfg k) 15 [V.agg [V.sl n false 1 (List.take 70 xs), V.sl m false 2 (List.take 65 ys)], V.int IntKind.i64 a, V.str t] = some (V.tup [V.agg [V.sl n false 1 (List.take 70 xs), V.sl none false 2 (List.take 65 ys ++ [putV a t])], V.int IntKind.i64 0])) ∧ (callP (evalFn Try.prog Try.cfg k) 16 [V.agg [V.sl n false 1 (List.take 70 xs), V.sl m false 2 (List.take 65 ys)], V.int IntKind.i64 a] = some (V.tup [V.str (readR (List.take 70 xs) (List.take 65 ys) a), V.int IntKind.i64 0])) ∧ (callP (evalFn Try.prog Try.cfg k) 17 [V.agg [V.sl n false 1 (List.take 70 xs), V.sl m false 2 (List.take 65 ys)], V.int IntKind.i64 a] = some (V.int IntKind.i64 (whyV (List.take 70 xs) (List.take 65 ys) a))) ∧ ((!decide (whyV (List.take 70 xs) (List.take 65 ys) a = 0)) = false) ∧ (callP (evalFn Try.prog Try.cfg k) 20 [V.agg [V.sl n false 1 (List.take 70 xs), V.sl m false 2 (List.take 65 ys)], V.int IntKind.i64 a] = some (V.str (readR (List.take 70 xs) (List.take 65 ys) a))) ∧ ((!decide (readR (List.take 70 xs) (List.take 65 ys) a = readR (List.take 70 xs) (List.take 65 ys) a)) = false) ∧ (callP (evalFn Try.prog Try.cfg k) 18 [] = some (V.bool true)) ∧ (decide (128 < (↑t.length : Int)) = false) ∧ (decide ((↑(List.take 65 ys).length : Int) = 60) = false) ∧ (callP (evalFn Try.prog Try.cfg k) 21 [V.agg [V.sl n false 1 (List.take 70 xs), V.sl m false 2 (List.take 65 ys)], V.int IntKind.i64 a, V.str t] = some (V.agg [V.sl n false 1 (List.take 70 xs), V.sl none false 2 (List.take 65 ys ++ [putV a t])])) ∧ (callP (evalFn Try.prog Try.cfg k) 19 [V.agg [V.sl n false 1 (List.take 70 xs), V.sl none false 2 (List.take 65 ys ++ [putV a t])], V.agg [V.sl n false 1 (List.take 70 xs), V.sl none false 2 (List.take 65 ys ++ [putV a t])]] = some (V.bool (eqL (List.take 70 xs) (List.take 70 xs) && eqL (List.take 65 ys ++ [putV a t]) (List.take 65 ys ++ [putV a t])))) ∧ True) (by kernel_rfl) ⟨c0, c1, c2, c3, c4, c5, c6, c7, c8, c9, c10, c11, trivial⟩

theorem law_deviceSectors {n m : Option Bool} {c d : Bool} {xs ys : List V} (hx : ∀ x ∈ xs, isStr x) (hy : ∀ x ∈ ys, isPut x) (a : Int) (t : List UInt8) (k : Nat) (hk : 1100 ≤ k) :
    callP (evalFn Try.prog Try.cfg (k + 1 + 1)) 3 [V.agg [V.sl n c 1 xs, V.sl m d 2 ys], V.int IntKind.i64 a, V.str t] = some (V.bool true) := by
  have tx : ∀ x ∈ xs.take 70, isStr x := fun x h => hx x (List.mem_of_mem_take h)
  have ty : ∀ x ∈ ys.take 65, isPut x := fun x h => hy x (List.mem_of_mem_take h)
  have lx : (xs.take 70).length ≤ 1000 := by simp; omega
  have ly : (ys.take 65).length ≤ 1000 := by simp; omega
  have a1 := h14 n m c d xs ys k
  have k6 : 1006 ≤ k + 1 := by omega
  have k7 : 1007 ≤ k + 1 := by omega
  have k3 : 1003 ≤ k + 1 := by omega
  have al := g18 (show 100 ≤ k + 1 by omega)
  have em := g19e (show 10 ≤ k + 1 by omega)
  have w := g17 (n := n) (m := m) (c := false) (d := false) tx ty lx ly a k6
  by_cases hw : whyV (xs.take 70) (ys.take 65) a = 0
  · have nw : (!decide (whyV (xs.take 70) (ys.take 65) a = 0)) = false := by rw [decide_eq_true hw]; rfl
    obtain ⟨h0, h1⟩ := why_zero hw
    have r1 := g16 (n := n) (m := m) (c := false) (d := false) tx ty lx ly hw k7
    have r2 := g20 (n := n) (m := m) (c := false) (d := false) tx ty ly h0 h1 k6
    by_cases ht : 128 < (↑t.length : Int)
    · exact p3_3 n m c d xs ys a t (k + 1) a1 (g15b (n := n) (m := m) (c := false) (d := false) tx ty lx ly hw ht k7) r1 w nw r2 (by simp) al (decide_eq_true ht) em
    · by_cases hn : (↑(ys.take 65).length : Int) = 60
      · exact p3_5 n m c d xs ys a t (k + 1) a1 (g15c (n := n) (m := m) (c := false) (d := false) tx ty lx ly hw ht hn k7) r1 w nw r2 (by simp) al (decide_eq_false ht) (decide_eq_true hn) em
      · have ty2 : ∀ x ∈ ys.take 65 ++ [putV a t], isPut x := fun x h => by
          rcases List.mem_append.1 h with h | h
          · exact ty x h
          · rw [List.mem_singleton] at h; exact ⟨a, t, h⟩
        have e1 : (eqL (xs.take 70) (xs.take 70) && eqL (ys.take 65 ++ [putV a t]) (ys.take 65 ++ [putV a t])) = true := by
          rw [eqL_refl fun x h => .inl (tx x h), eqL_refl fun x h => .inr (ty2 x h)]; rfl
        refine (p3_7 n m c d xs ys a t (k + 1) a1 (g15d (n := n) (m := m) (c := false) (d := false) tx ty lx ly hw ht hn k7) r1 w nw r2 (by simp) al (decide_eq_false ht) (decide_eq_false hn) (h21 (n := n) (m := m) (c := false) (d := false) ly k)
          (g19 tx tx ty2 ty2 lx (by simp; omega) k3)).trans ?_
        rw [e1]
  · have nw : (!decide (whyV (xs.take 70) (ys.take 65) a = 0)) = true := by rw [decide_eq_false hw]; rfl
    exact p3_0 n m c d xs ys a t (k + 1) a1 (g15a (n := n) (m := m) (c := false) (d := false) tx ty lx ly t hw k7) (g16no (n := n) (m := m) (c := false) (d := false) tx ty lx ly hw k7) w nw al (by simp) (by simp) em
end Go.Proofs
namespace Go.Proofs.Ytpnpneffbkdomaa
open Go.Sym
theorem deviceSectors_lifted (os : Os) (started : os.Started) (H : Type) (enc : TypeId × Value → H) :
    ReturnsInHanded {} Try.checked os 3 .any (Rows.deviceSectorsSpec.pre6 enc Try.prog Try.f3 Rows.deviceSectorsRow.domain false) (Rows.deviceSectorsSpec.post enc Try.prog Try.f3 false true false false) := by
  refine returnsInHanded_of_change (C := Try.checked) Try.own started (by kernel_rfl) Try.func3
    (ChangeSpec.witness6 (enc := enc) (C := Try.checked) false ⟨#[], #[.agg #[.slice none 0 0, .slice none 0 0], .int .i64 0, .string ByteArray.empty], []⟩ 8 (by kernel_rfl) (by kernel_rfl) (by kernel_rfl) (by kernel_rfl)) ?_
  intro W base args ds gs before hval hW hcnd _
  refine law_end (P := Try.prog) (C := Try.cfg) (k := 4) (tb := 4) Try.mixed Try.progOk Try.laidOut (by kernel_rfl) rfl rfl Try.underlying4 ?_ ?_ (fun j t v h1 h2 => ⟨base, hval j t v h1 h2⟩) hW
  · intro ds hds
    match ds, hds with
    | [d, e, f], _ => exact ⟨rfl, rfl, rfl⟩
  · intro xs hxs
    obtain ⟨x, y, z, rfl, hx, hy, hz⟩ := VArgs_three (P := Try.prog) (k := 4) (a := 25) (b := 3) (c := 9) hxs
    obtain ⟨n, c, xs, m, d, ys, rfl, h1, h2⟩ := open25 hx
    obtain ⟨a, rfl, _⟩ := open3 hy
    obtain ⟨t, rfl⟩ := open9 hz
    exact ⟨1100 + 1 + 1, law_deviceSectors h1 h2 a t 1100 (Nat.le_refl _)⟩

theorem deviceSectors_holds : Rows.DeviceSectorsSaid :=
  OpenClaim.holds_of_wide 3 Try.f3 rfl rfl rfl rfl rfl rfl rfl ⟨rfl, rfl, rfl, rfl, rfl⟩ rfl rfl rfl rfl rfl (by kernel_rfl) Try.func3 (by kernel_rfl)
    (of_decide_eq_true (by kernel_rfl)) (by unfold Func.isWrapper; first | (rw [if_pos (by decide +kernel)]; kernel_rfl) | (rw [if_neg (by decide +kernel)]; exact ⟨rfl, rfl⟩))
    (fun os started H enc _ => deviceSectors_lifted os started H enc)
end Go.Proofs.Ytpnpneffbkdomaa
