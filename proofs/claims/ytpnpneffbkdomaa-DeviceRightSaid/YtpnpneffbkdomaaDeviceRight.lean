/-
  DeviceRight: which devices may be, a new one, and which two are the same, is as the document says, or refused, for all devices and numbers.
-/
import Derived.Test.YtpnpneffbkdomaaDevC
set_option linter.unusedVariables false
set_option linter.unusedSimpArgs false
set_option linter.constructorNameAsVariable false
set_option maxRecDepth 100000
namespace Go.Proofs
open Go.Sym
theorem p4_3 (n : Option Bool) (m : Option Bool) (c : Bool) (d : Bool) (xs : List V) (ys : List V) (nb : Option Bool) (mb : Option Bool) (cb : Bool) (db : Bool) (xs2 : List V) (ys2 : List V) (num : Int) (k : Nat)
    (c0 : callP (evalFn Try.prog Try.cfg k) 14 [V.agg [V.sl n c 1 xs, V.sl m d 2 ys]] = some (V.agg [V.sl n false 1 (List.take 70 xs), V.sl m false 2 (List.take 65 ys)]))
    (c1 : callP (evalFn Try.prog Try.cfg k) 14 [V.agg [V.sl nb cb 1 xs2, V.sl mb db 2 ys2]] = some (V.agg [V.sl nb false 1 (List.take 70 xs2), V.sl mb false 2 (List.take 65 ys2)]))
    (c2 : callP (evalFn Try.prog Try.cfg k) 22 [V.int IntKind.i64 num] = some (V.tup [V.agg [V.sl (some true) true 0 [], V.sl (some true) true 0 []], V.int IntKind.i64 4]))
    (c3 : callP (evalFn Try.prog Try.cfg k) 23 [V.agg [V.sl n false 1 (List.take 70 xs), V.sl m false 2 (List.take 65 ys)]] = some (V.bool (rightV (List.take 70 xs) (List.take 65 ys))))
    (c4 : callP (evalFn Try.prog Try.cfg k) 24 [V.agg [V.sl n false 1 (List.take 70 xs), V.sl m false 2 (List.take 65 ys)]] = some (V.bool (rightV (List.take 70 xs) (List.take 65 ys))))
    (c5 : (!decide (rightV (List.take 70 xs) (List.take 65 ys) = rightV (List.take 70 xs) (List.take 65 ys))) = false)
    (c6 : callP (evalFn Try.prog Try.cfg k) 25 [V.agg [V.sl n false 1 (List.take 70 xs), V.sl m false 2 (List.take 65 ys)], V.agg [V.sl nb false 1 (List.take 70 xs2), V.sl mb false 2 (List.take 65 ys2)]] = some (V.bool (eqL (List.take 70 xs) (List.take 70 xs2) && eqL (List.take 65 ys) (List.take 65 ys2))))
    (c7 : callP (evalFn Try.prog Try.cfg k) 19 [V.agg [V.sl n false 1 (List.take 70 xs), V.sl m false 2 (List.take 65 ys)], V.agg [V.sl nb false 1 (List.take 70 xs2), V.sl mb false 2 (List.take 65 ys2)]] = some (V.bool (eqL (List.take 70 xs) (List.take 70 xs2) && eqL (List.take 65 ys) (List.take 65 ys2))))
    (c8 : (!decide ((eqL (List.take 70 xs) (List.take 70 xs2) && eqL (List.take 65 ys) (List.take 65 ys2)) = (eqL (List.take 70 xs) (List.take 70 xs2) && eqL (List.take 65 ys) (List.take 65 ys2)))) = false)
    (c9 : callP (evalFn Try.prog Try.cfg k) 25 [V.agg [V.sl n false 1 (List.take 70 xs), V.sl m false 2 (List.take 65 ys)], V.agg [V.sl n false 1 (List.take 70 xs), V.sl m false 2 (List.take 65 ys)]] = some (V.bool (eqL (List.take 70 xs) (List.take 70 xs) && eqL (List.take 65 ys) (List.take 65 ys))))
    (c10 : (!(eqL (List.take 70 xs) (List.take 70 xs) && eqL (List.take 65 ys) (List.take 65 ys))) = false)
    (c11 : callP (evalFn Try.prog Try.cfg k) 18 [] = some (V.bool true))
    (c12 : decide (num < 1) = true)
    (c13 : callP (evalFn Try.prog Try.cfg k) 19 [V.agg [V.sl (some true) true 0 [], V.sl (some true) true 0 []], V.agg [V.sl (some true) true 0 [], V.sl (some true) true 0 []]] = some (V.bool true)) :
    callP (evalFn Try.prog Try.cfg (k + 1)) 4 [V.agg [V.sl n c 1 xs, V.sl m d 2 ys], V.agg [V.sl nb cb 1 xs2, V.sl mb db 2 ys2], V.int IntKind.i64 num] = some (V.bool true) :=
  byP [Hint.call 10 (V.agg [V.sl n false 1 (List.take 70 xs), V.sl m false 2 (List.take 65 ys)]), Hint.call 12 (V.agg [V.sl nb false 1 (List.take 70 xs2), V.sl mb false 2 (List.take 65 ys2)]), Hint.call 15 (V.tup [V.agg [V.sl (some true) true 0 [], V.sl (some true) true 0 []], V.int IntKind.i64 4]), Hint.call 19 (V.bool (rightV (List.take 70 xs) (List.take 65 ys))), Hint.call 21 (V.bool (rightV (List.take 70 xs) (List.take 65 ys))), Hint.br 23 false, Hint.call 26 (V.bool (eqL (List.take 70 xs) (List.take 70 xs2) && eqL (List.take 65 ys) (List.take 65 ys2))), Hint.call 29 (V.bool (eqL (List.take 70 xs) (List.take 70 xs2) && eqL (List.take 65 ys) (List.take 65 ys2))), Hint.br 32 false, Hint.call 35 (V.bool (eqL (List.take 70 xs) (List.take 70 xs) && eqL (List.take 65 ys) (List.take 65 ys))), Hint.br 38 false, Hint.call 39 (V.bool true), Hint.br 44 true, Hint.call 53 (V.bool true)] ((callP (evalFn Try.prog Try.cfg k) 14 [V.agg [V.sl n c 1 xs, V.sl m d 2 ys]] = some (V.agg [V.sl n false 1 (List.take 70 xs), V.sl m false 2 (List.take 65 ys)])) ∧ (callP (evalFn Try.prog Try.cfg k) 14 [V.agg [V.sl nb cb 1 xs2, V.sl mb db 2 ys2]] = some (V.agg [V.sl nb false 1 (List.take 70 xs2), V.sl mb false 2 (List.take 65 ys2)])) ∧ (callP (evalFn Try.prog Try.cfg k) 22 [V.int IntKind.i64 num] = some (V.tup [V.agg [V.sl (some true) true 0 [], V.sl (some true) true 0 []], V.int IntKind.i64 4])) ∧ (callP (evalFn Try.prog Try.cfg k) 23 [V.agg [V.sl n false 1 (List.take 70 xs), V.sl m false 2 (List.take 65 ys)]] = some (V.bool (rightV (List.take 70 xs) (List.take 65 ys)))) ∧ (callP (evalFn Try.prog Try.cfg k) 24 [V.agg [V.sl n false 1 (List.take 70 xs), V.sl m false 2 (List.take 65 ys)]] = some (V.bool (rightV (List.take 70 xs) (List.take 65 ys)))) ∧ ((!decide (rightV (List.take 70 xs) (List.take 65 ys) = rightV (List.take 70 xs) (List.take 65 ys))) = false) ∧ (callP (evalFn Try.prog Try.cfg k) 25 [V.agg [V.sl n false 1 (List.take 70 xs), V.sl m false 2 (List.take 65 ys)], V.agg [V.sl nb false 1 (List.take 70 xs2), V.sl mb false 2 (List.take 65 ys2)]] = some (V.bool (eqL (List.take 70 xs) (List.take 70 xs2) && eqL (List.take 65 ys) (List.take 65 ys2)))) ∧ (callP (evalFn Try.prog Try.cfg k) 19 [V.agg [V.sl n false 1 (List.take 70 xs), V.sl m false 2 (List.take 65 ys)], V.agg [V.sl nb false 1 (List.take 70 xs2), V.sl mb false 2 (List.take 65 ys2)]] = some (V.bool (eqL (List.take 70 xs) (List.take 70 xs2) && eqL (List.take 65 ys) (List.take 65 ys2)))) ∧ ((!decide ((eqL (List.take 70 xs) (List.take 70 xs2) && eqL (List.take 65 ys) (List.take 65 ys2)) = (eqL (List.take 70 xs) (List.take 70 xs2) && eqL (List.take 65 ys) (List.take 65 ys2)))) = false) ∧ (callP (evalFn Try.prog Try.cfg k) 25 [V.agg [V.sl n false 1 (List.take 70 xs), V.sl m false 2 (List.take 65 ys)], V.agg [V.sl n false 1 (List.take 70 xs), V.sl m false 2 (List.take 65 ys)]] = some (V.bool (eqL (List.take 70 xs) (List.take 70 xs) && eqL (List.take 65 ys) (List.take 65 ys)))) ∧ ((!(eqL (List.take 70 xs) (List.take 70 xs) && eqL (List.take 65 ys) (List.take 65 ys))) = false) ∧ (callP (evalFn Try.prog Try.cfg k) 18 [] = some (V.bool true)) ∧ (decide (num < 1) = true) ∧ (callP (evalFn Try.prog Try.cfg k) 19 [V.agg [V.sl (some true) true 0 [], V.sl (some true) true 0 []], V.agg [V.sl (some true) true 0 [], V.sl (some true) true 0 []]] = some (V.bool true)) ∧ True) (by kernel_rfl) ⟨c0, c1, c2, c3, c4, c5, c6, c7, c8, c9, c10, c11, c12, c13, trivial⟩
theorem p4_7 (n : Option Bool) (m : Option Bool) (c : Bool) (d : Bool) (xs : List V) (ys : List V) (nb : Option Bool) (mb : Option Bool) (cb : Bool) (db : Bool) (xs2 : List V) (ys2 : List V) (num : Int) (k : Nat)
    (c0 : callP (evalFn Try.prog Try.cfg k) 14 [V.agg [V.sl n c 1 xs, V.sl m d 2 ys]] = some (V.agg [V.sl n false 1 (List.take 70 xs), V.sl m false 2 (List.take 65 ys)]))
    (c1 : callP (evalFn Try.prog Try.cfg k) 14 [V.agg [V.sl nb cb 1 xs2, V.sl mb db 2 ys2]] = some (V.agg [V.sl nb false 1 (List.take 70 xs2), V.sl mb false 2 (List.take 65 ys2)]))
    (c2 : callP (evalFn Try.prog Try.cfg k) 22 [V.int IntKind.i64 num] = some (V.tup [V.agg [V.sl (some true) true 0 [], V.sl (some true) true 0 []], V.int IntKind.i64 4]))
    (c3 : callP (evalFn Try.prog Try.cfg k) 23 [V.agg [V.sl n false 1 (List.take 70 xs), V.sl m false 2 (List.take 65 ys)]] = some (V.bool (rightV (List.take 70 xs) (List.take 65 ys))))
    (c4 : callP (evalFn Try.prog Try.cfg k) 24 [V.agg [V.sl n false 1 (List.take 70 xs), V.sl m false 2 (List.take 65 ys)]] = some (V.bool (rightV (List.take 70 xs) (List.take 65 ys))))
    (c5 : (!decide (rightV (List.take 70 xs) (List.take 65 ys) = rightV (List.take 70 xs) (List.take 65 ys))) = false)
    (c6 : callP (evalFn Try.prog Try.cfg k) 25 [V.agg [V.sl n false 1 (List.take 70 xs), V.sl m false 2 (List.take 65 ys)], V.agg [V.sl nb false 1 (List.take 70 xs2), V.sl mb false 2 (List.take 65 ys2)]] = some (V.bool (eqL (List.take 70 xs) (List.take 70 xs2) && eqL (List.take 65 ys) (List.take 65 ys2))))
    (c7 : callP (evalFn Try.prog Try.cfg k) 19 [V.agg [V.sl n false 1 (List.take 70 xs), V.sl m false 2 (List.take 65 ys)], V.agg [V.sl nb false 1 (List.take 70 xs2), V.sl mb false 2 (List.take 65 ys2)]] = some (V.bool (eqL (List.take 70 xs) (List.take 70 xs2) && eqL (List.take 65 ys) (List.take 65 ys2))))
    (c8 : (!decide ((eqL (List.take 70 xs) (List.take 70 xs2) && eqL (List.take 65 ys) (List.take 65 ys2)) = (eqL (List.take 70 xs) (List.take 70 xs2) && eqL (List.take 65 ys) (List.take 65 ys2)))) = false)
    (c9 : callP (evalFn Try.prog Try.cfg k) 25 [V.agg [V.sl n false 1 (List.take 70 xs), V.sl m false 2 (List.take 65 ys)], V.agg [V.sl n false 1 (List.take 70 xs), V.sl m false 2 (List.take 65 ys)]] = some (V.bool (eqL (List.take 70 xs) (List.take 70 xs) && eqL (List.take 65 ys) (List.take 65 ys))))
    (c10 : (!(eqL (List.take 70 xs) (List.take 70 xs) && eqL (List.take 65 ys) (List.take 65 ys))) = false)
    (c11 : callP (evalFn Try.prog Try.cfg k) 18 [] = some (V.bool true))
    (c12 : decide (num < 1) = false)
    (c13 : decide (64 < num) = true)
    (c14 : callP (evalFn Try.prog Try.cfg k) 19 [V.agg [V.sl (some true) true 0 [], V.sl (some true) true 0 []], V.agg [V.sl (some true) true 0 [], V.sl (some true) true 0 []]] = some (V.bool true)) :
    callP (evalFn Try.prog Try.cfg (k + 1)) 4 [V.agg [V.sl n c 1 xs, V.sl m d 2 ys], V.agg [V.sl nb cb 1 xs2, V.sl mb db 2 ys2], V.int IntKind.i64 num] = some (V.bool true) :=
  byP [Hint.call 10 (V.agg [V.sl n false 1 (List.take 70 xs), V.sl m false 2 (List.take 65 ys)]), Hint.call 12 (V.agg [V.sl nb false 1 (List.take 70 xs2), V.sl mb false 2 (List.take 65 ys2)]), Hint.call 15 (V.tup [V.agg [V.sl (some true) true 0 [], V.sl (some true) true 0 []], V.int IntKind.i64 4]), Hint.call 19 (V.bool (rightV (List.take 70 xs) (List.take 65 ys))), Hint.call 21 (V.bool (rightV (List.take 70 xs) (List.take 65 ys))), Hint.br 23 false, Hint.call 26 (V.bool (eqL (List.take 70 xs) (List.take 70 xs2) && eqL (List.take 65 ys) (List.take 65 ys2))), Hint.call 29 (V.bool (eqL (List.take 70 xs) (List.take 70 xs2) && eqL (List.take 65 ys) (List.take 65 ys2))), Hint.br 32 false, Hint.call 35 (V.bool (eqL (List.take 70 xs) (List.take 70 xs) && eqL (List.take 65 ys) (List.take 65 ys))), Hint.br 38 false, Hint.call 39 (V.bool true), Hint.br 44 false, Hint.br 47 true, Hint.call 53 (V.bool true)] ((callP (evalFn Try.prog Try.cfg k) 14 [V.agg [V.sl n c 1 xs, V.sl m d 2 ys]] = some (V.agg [V.sl n false 1 (List.take 70 xs), V.sl m false 2 (List.take 65 ys)])) ∧ (callP (evalFn Try.prog Try.cfg k) 14 [V.agg [V.sl nb cb 1 xs2, V.sl mb db 2 ys2]] = some (V.agg [V.sl nb false 1 (List.take 70 xs2), V.sl mb false 2 (List.take 65 ys2)])) ∧ (callP (evalFn Try.prog Try.cfg k) 22 [V.int IntKind.i64 num] = some (V.tup [V.agg [V.sl (some true) true 0 [], V.sl (some true) true 0 []], V.int IntKind.i64 4])) ∧ (callP (evalFn Try.prog Try.cfg k) 23 [V.agg [V.sl n false 1 (List.take 70 xs), V.sl m false 2 (List.take 65 ys)]] = some (V.bool (rightV (List.take 70 xs) (List.take 65 ys)))) ∧ (callP (evalFn Try.prog Try.cfg k) 24 [V.agg [V.sl n false 1 (List.take 70 xs), V.sl m false 2 (List.take 65 ys)]] = some (V.bool (rightV (List.take 70 xs) (List.take 65 ys)))) ∧ ((!decide (rightV (List.take 70 xs) (List.take 65 ys) = rightV (List.take 70 xs) (List.take 65 ys))) = false) ∧ (callP (evalFn Try.prog Try.cfg k) 25 [V.agg [V.sl n false 1 (List.take 70 xs), V.sl m false 2 (List.take 65 ys)], V.agg [V.sl nb false 1 (List.take 70 xs2), V.sl mb false 2 (List.take 65 ys2)]] = some (V.bool (eqL (List.take 70 xs) (List.take 70 xs2) && eqL (List.take 65 ys) (List.take 65 ys2)))) ∧ (callP (evalFn Try.prog Try.cfg k) 19 [V.agg [V.sl n false 1 (List.take 70 xs), V.sl m false 2 (List.take 65 ys)], V.agg [V.sl nb false 1 (List.take 70 xs2), V.sl mb false 2 (List.take 65 ys2)]] = some (V.bool (eqL (List.take 70 xs) (List.take 70 xs2) && eqL (List.take 65 ys) (List.take 65 ys2)))) ∧ ((!decide ((eqL (List.take 70 xs) (List.take 70 xs2) && eqL (List.take 65 ys) (List.take 65 ys2)) = (eqL (List.take 70 xs) (List.take 70 xs2) && eqL (List.take 65 ys) (List.take 65 ys2)))) = false) ∧ (callP (evalFn Try.prog Try.cfg k) 25 [V.agg [V.sl n false 1 (List.take 70 xs), V.sl m false 2 (List.take 65 ys)], V.agg [V.sl n false 1 (List.take 70 xs), V.sl m false 2 (List.take 65 ys)]] = some (V.bool (eqL (List.take 70 xs) (List.take 70 xs) && eqL (List.take 65 ys) (List.take 65 ys)))) ∧ ((!(eqL (List.take 70 xs) (List.take 70 xs) && eqL (List.take 65 ys) (List.take 65 ys))) = false) ∧ (callP (evalFn Try.prog Try.cfg k) 18 [] = some (V.bool true)) ∧ (decide (num < 1) = false) ∧ (decide (64 < num) = true) ∧ (callP (evalFn Try.prog Try.cfg k) 19 [V.agg [V.sl (some true) true 0 [], V.sl (some true) true 0 []], V.agg [V.sl (some true) true 0 [], V.sl (some true) true 0 []]] = some (V.bool true)) ∧ True) (by kernel_rfl) ⟨c0, c1, c2, c3, c4, c5, c6, c7, c8, c9, c10, c11, c12, c13, c14, trivial⟩
theorem p4_11 (n : Option Bool) (m : Option Bool) (c : Bool) (d : Bool) (xs : List V) (ys : List V) (nb : Option Bool) (mb : Option Bool) (cb : Bool) (db : Bool) (xs2 : List V) (ys2 : List V) (num : Int) (k : Nat)
    (c0 : callP (evalFn Try.prog Try.cfg k) 14 [V.agg [V.sl n c 1 xs, V.sl m d 2 ys]] = some (V.agg [V.sl n false 1 (List.take 70 xs), V.sl m false 2 (List.take 65 ys)]))
    (c1 : callP (evalFn Try.prog Try.cfg k) 14 [V.agg [V.sl nb cb 1 xs2, V.sl mb db 2 ys2]] = some (V.agg [V.sl nb false 1 (List.take 70 xs2), V.sl mb false 2 (List.take 65 ys2)]))
    (c2 : callP (evalFn Try.prog Try.cfg k) 22 [V.int IntKind.i64 num] = some (V.tup [V.agg [V.sl none false 1 (List.replicate num.toNat (V.str [])), V.sl (some true) true 0 []], V.int IntKind.i64 0]))
    (c3 : callP (evalFn Try.prog Try.cfg k) 23 [V.agg [V.sl n false 1 (List.take 70 xs), V.sl m false 2 (List.take 65 ys)]] = some (V.bool (rightV (List.take 70 xs) (List.take 65 ys))))
    (c4 : callP (evalFn Try.prog Try.cfg k) 24 [V.agg [V.sl n false 1 (List.take 70 xs), V.sl m false 2 (List.take 65 ys)]] = some (V.bool (rightV (List.take 70 xs) (List.take 65 ys))))
    (c5 : (!decide (rightV (List.take 70 xs) (List.take 65 ys) = rightV (List.take 70 xs) (List.take 65 ys))) = false)
    (c6 : callP (evalFn Try.prog Try.cfg k) 25 [V.agg [V.sl n false 1 (List.take 70 xs), V.sl m false 2 (List.take 65 ys)], V.agg [V.sl nb false 1 (List.take 70 xs2), V.sl mb false 2 (List.take 65 ys2)]] = some (V.bool (eqL (List.take 70 xs) (List.take 70 xs2) && eqL (List.take 65 ys) (List.take 65 ys2))))
    (c7 : callP (evalFn Try.prog Try.cfg k) 19 [V.agg [V.sl n false 1 (List.take 70 xs), V.sl m false 2 (List.take 65 ys)], V.agg [V.sl nb false 1 (List.take 70 xs2), V.sl mb false 2 (List.take 65 ys2)]] = some (V.bool (eqL (List.take 70 xs) (List.take 70 xs2) && eqL (List.take 65 ys) (List.take 65 ys2))))
    (c8 : (!decide ((eqL (List.take 70 xs) (List.take 70 xs2) && eqL (List.take 65 ys) (List.take 65 ys2)) = (eqL (List.take 70 xs) (List.take 70 xs2) && eqL (List.take 65 ys) (List.take 65 ys2)))) = false)
    (c9 : callP (evalFn Try.prog Try.cfg k) 25 [V.agg [V.sl n false 1 (List.take 70 xs), V.sl m false 2 (List.take 65 ys)], V.agg [V.sl n false 1 (List.take 70 xs), V.sl m false 2 (List.take 65 ys)]] = some (V.bool (eqL (List.take 70 xs) (List.take 70 xs) && eqL (List.take 65 ys) (List.take 65 ys))))
    (c10 : (!(eqL (List.take 70 xs) (List.take 70 xs) && eqL (List.take 65 ys) (List.take 65 ys))) = false)
    (c11 : callP (evalFn Try.prog Try.cfg k) 18 [] = some (V.bool true))
    (c12 : decide (num < 1) = false)
    (c13 : decide (64 < num) = false)
    (c14 : GrdW (0 < 1 ∧ 16 ≤ 64 ∧ (V.str []).cells.length = 1 ∧ 0 ≤ num ∧ num ≤ num ∧ num ≤ (↑maxLen' : Int)) (V.ref 208) [(208, Ob.row false 1 (List.replicate num.toNat (V.str [])))])
    (c15 : callP (evalFn Try.prog Try.cfg k) 19 [V.agg [V.sl none false 1 (List.replicate num.toNat (V.str [])), V.sl (some true) true 0 []], V.agg [V.sl none false 1 (List.replicate num.toNat (V.str [])), V.sl (some true) true 0 []]] = some (V.bool (eqL (List.replicate num.toNat (V.str [])) (List.replicate num.toNat (V.str [])) && eqL [] []))) :
    callP (evalFn Try.prog Try.cfg (k + 1)) 4 [V.agg [V.sl n c 1 xs, V.sl m d 2 ys], V.agg [V.sl nb cb 1 xs2, V.sl mb db 2 ys2], V.int IntKind.i64 num] = some (V.bool (eqL (List.replicate num.toNat (V.str [])) (List.replicate num.toNat (V.str [])) && eqL [] [])) :=
  byP [Hint.call 10 (V.agg [V.sl n false 1 (List.take 70 xs), V.sl m false 2 (List.take 65 ys)]), Hint.call 12 (V.agg [V.sl nb false 1 (List.take 70 xs2), V.sl mb false 2 (List.take 65 ys2)]), Hint.call 15 (V.tup [V.agg [V.sl none false 1 (List.replicate num.toNat (V.str [])), V.sl (some true) true 0 []], V.int IntKind.i64 0]), Hint.call 19 (V.bool (rightV (List.take 70 xs) (List.take 65 ys))), Hint.call 21 (V.bool (rightV (List.take 70 xs) (List.take 65 ys))), Hint.br 23 false, Hint.call 26 (V.bool (eqL (List.take 70 xs) (List.take 70 xs2) && eqL (List.take 65 ys) (List.take 65 ys2))), Hint.call 29 (V.bool (eqL (List.take 70 xs) (List.take 70 xs2) && eqL (List.take 65 ys) (List.take 65 ys2))), Hint.br 32 false, Hint.call 35 (V.bool (eqL (List.take 70 xs) (List.take 70 xs) && eqL (List.take 65 ys) (List.take 65 ys))), Hint.br 38 false, Hint.call 39 (V.bool true), Hint.br 44 false, Hint.br 47 false, Hint.op 60 (V.ref 208) [(208, Ob.row false 1 (List.replicate num.toNat (V.str [])))], Hint.call 62 (V.bool (eqL (List.replicate num.toNat (V.str [])) (List.replicate num.toNat (V.str [])) && eqL [] []))] ((callP (evalFn Try.prog Try.cfg k) 14 [V.agg [V.sl n c 1 xs, V.sl m d 2 ys]] = some (V.agg [V.sl n false 1 (List.take 70 xs), V.sl m false 2 (List.take 65 ys)])) ∧ (callP (evalFn Try.prog Try.cfg k) 14 [V.agg [V.sl nb cb 1 xs2, V.sl mb db 2 ys2]] = some (V.agg [V.sl nb false 1 (List.take 70 xs2), V.sl mb false 2 (List.take 65 ys2)])) ∧ (callP (evalFn Try.prog Try.cfg k) 22 [V.int IntKind.i64 num] = some (V.tup [V.agg [V.sl none false 1 (List.replicate num.toNat (V.str [])), V.sl (some true) true 0 []], V.int IntKind.i64 0])) ∧ (callP (evalFn Try.prog Try.cfg k) 23 [V.agg [V.sl n false 1 (List.take 70 xs), V.sl m false 2 (List.take 65 ys)]] = some (V.bool (rightV (List.take 70 xs) (List.take 65 ys)))) ∧ (callP (evalFn Try.prog Try.cfg k) 24 [V.agg [V.sl n false 1 (List.take 70 xs), V.sl m false 2 (List.take 65 ys)]] = some (V.bool (rightV (List.take 70 xs) (List.take 65 ys)))) ∧ ((!decide (rightV (List.take 70 xs) (List.take 65 ys) = rightV (List.take 70 xs) (List.take 65 ys))) = false) ∧ (callP (evalFn Try.prog Try.cfg k) 25 [V.agg [V.sl n false 1 (List.take 70 xs), V.sl m false 2 (List.take 65 ys)], V.agg [V.sl nb false 1 (List.take 70 xs2), V.sl mb false 2 (List.take 65 ys2)]] = some (V.bool (eqL (List.take 70 xs) (List.take 70 xs2) && eqL (List.take 65 ys) (List.take 65 ys2)))) ∧ (callP (evalFn Try.prog Try.cfg k) 19 [V.agg [V.sl n false 1 (List.take 70 xs), V.sl m false 2 (List.take 65 ys)], V.agg [V.sl nb false 1 (List.take 70 xs2), V.sl mb false 2 (List.take 65 ys2)]] = some (V.bool (eqL (List.take 70 xs) (List.take 70 xs2) && eqL (List.take 65 ys) (List.take 65 ys2)))) ∧ ((!decide ((eqL (List.take 70 xs) (List.take 70 xs2) && eqL (List.take 65 ys) (List.take 65 ys2)) = (eqL (List.take 70 xs) (List.take 70 xs2) && eqL (List.take 65 ys) (List.take 65 ys2)))) = false) ∧ (callP (evalFn Try.prog Try.cfg k) 25 [V.agg [V.sl n false 1 (List.take 70 xs), V.sl m false 2 (List.take 65 ys)], V.agg [V.sl n false 1 (List.take 70 xs), V.sl m false 2 (List.take 65 ys)]] = some (V.bool (eqL (List.take 70 xs) (List.take 70 xs) && eqL (List.take 65 ys) (List.take 65 ys)))) ∧ ((!(eqL (List.take 70 xs) (List.take 70 xs) && eqL (List.take 65 ys) (List.take 65 ys))) = false) ∧ (callP (evalFn Try.prog Try.cfg k) 18 [] = some (V.bool true)) ∧ (decide (num < 1) = false) ∧ (decide (64 < num) = false) ∧ (GrdW (0 < 1 ∧ 16 ≤ 64 ∧ (V.str []).cells.length = 1 ∧ 0 ≤ num ∧ num ≤ num ∧ num ≤ (↑maxLen' : Int)) (V.ref 208) [(208, Ob.row false 1 (List.replicate num.toNat (V.str [])))]) ∧ (callP (evalFn Try.prog Try.cfg k) 19 [V.agg [V.sl none false 1 (List.replicate num.toNat (V.str [])), V.sl (some true) true 0 []], V.agg [V.sl none false 1 (List.replicate num.toNat (V.str [])), V.sl (some true) true 0 []]] = some (V.bool (eqL (List.replicate num.toNat (V.str [])) (List.replicate num.toNat (V.str [])) && eqL [] []))) ∧ True) (by kernel_rfl) ⟨c0, c1, c2, c3, c4, c5, c6, c7, c8, c9, c10, c11, c12, c13, c14, c15, trivial⟩
theorem l19n_b_0 (n : Option Bool) (nb : Option Bool) (c : Bool) (cb : Bool) (xs : List V) (xs2 : List V) (v0 : Int) (t_00 : List UInt8) (t_10 : List UInt8) (K : Nat)
    (c0 : decide (v0 < (↑xs.length : Int)) = true)
    (c1 : IdxP xs v0 1 1 (V.str t_00))
    (c2 : IdxP xs2 v0 1 1 (V.str t_10))
    (c3 : (!decide (t_00 = t_10)) = true) :
    evalCode Try.prog Try.cfg (evalFn Try.prog Try.cfg K) 0 (Try.cfg.fc 19) K (loopBody Try.f19 0) { tm := [(0, V.agg [V.sl n c 1 xs, V.sl (some true) true 0 []]), (1, V.agg [V.sl nb cb 1 xs2, V.sl (some true) true 0 []]), (2, V.ptr 0 0), (3, V.ptr 1 0), (4, V.bool false), (22, V.bool false), (25, V.int IntKind.i64 (↑xs.length : Int)), (26, V.int IntKind.i64 v0)], hp := [(0, Ob.var [V.sl n c 1 xs, V.sl (some true) true 0 []]), (1, Ob.var [V.sl nb cb 1 xs2, V.sl (some true) true 0 []])], nx := 2 } = some (Exit.ret, { tm := [(0, V.agg [V.sl n c 1 xs, V.sl (some true) true 0 []]), (1, V.agg [V.sl nb cb 1 xs2, V.sl (some true) true 0 []]), (2, V.ptr 0 0), (3, V.ptr 1 0), (4, V.bool false), (5, V.int IntKind.i64 v0), (22, V.bool false), (25, V.int IntKind.i64 (↑xs.length : Int)), (26, V.int IntKind.i64 v0), (27, V.bool true), (39, V.bool true)], hp := [(0, Ob.var [V.sl n c 1 xs, V.sl (some true) true 0 []]), (1, Ob.var [V.sl nb cb 1 xs2, V.sl (some true) true 0 []])], nx := 62 }) :=
  byC [Hint.br 27 true, Hint.op 32 ((V.str t_00).cpt 0) [], Hint.op 37 ((V.str t_10).cpt 0) [], Hint.br 39 true] ((decide (v0 < (↑xs.length : Int)) = true) ∧ (IdxP xs v0 1 1 (V.str t_00)) ∧ (IdxP xs2 v0 1 1 (V.str t_10)) ∧ ((!decide (t_00 = t_10)) = true) ∧ True) (by kernel_rfl) ⟨c0, c1, c2, c3, trivial⟩
theorem l19n_b_1 (n : Option Bool) (nb : Option Bool) (c : Bool) (cb : Bool) (xs : List V) (xs2 : List V) (v0 : Int) (t_00 : List UInt8) (t_10 : List UInt8) (K : Nat)
    (c0 : decide (v0 < (↑xs.length : Int)) = true)
    (c1 : IdxP xs v0 1 1 (V.str t_00))
    (c2 : IdxP xs2 v0 1 1 (V.str t_10))
    (c3 : (!decide (t_00 = t_10)) = false) :
    evalCode Try.prog Try.cfg (evalFn Try.prog Try.cfg K) 0 (Try.cfg.fc 19) K (loopBody Try.f19 0) { tm := [(0, V.agg [V.sl n c 1 xs, V.sl (some true) true 0 []]), (1, V.agg [V.sl nb cb 1 xs2, V.sl (some true) true 0 []]), (2, V.ptr 0 0), (3, V.ptr 1 0), (4, V.bool false), (22, V.bool false), (25, V.int IntKind.i64 (↑xs.length : Int)), (26, V.int IntKind.i64 v0)], hp := [(0, Ob.var [V.sl n c 1 xs, V.sl (some true) true 0 []]), (1, Ob.var [V.sl nb cb 1 xs2, V.sl (some true) true 0 []])], nx := 2 } = some (Exit.normal, { tm := [(0, V.agg [V.sl n c 1 xs, V.sl (some true) true 0 []]), (1, V.agg [V.sl nb cb 1 xs2, V.sl (some true) true 0 []]), (2, V.ptr 0 0), (3, V.ptr 1 0), (4, V.bool false), (5, V.int IntKind.i64 v0), (22, V.bool false), (25, V.int IntKind.i64 (↑xs.length : Int)), (26, V.int IntKind.i64 (IntKind.i64.wrap (v0 + 1))), (27, V.bool true), (39, V.bool false)], hp := [(0, Ob.var [V.sl n c 1 xs, V.sl (some true) true 0 []]), (1, Ob.var [V.sl nb cb 1 xs2, V.sl (some true) true 0 []])], nx := 66 }) :=
  byC [Hint.br 27 true, Hint.op 32 ((V.str t_00).cpt 0) [], Hint.op 37 ((V.str t_10).cpt 0) [], Hint.br 39 false] ((decide (v0 < (↑xs.length : Int)) = true) ∧ (IdxP xs v0 1 1 (V.str t_00)) ∧ (IdxP xs2 v0 1 1 (V.str t_10)) ∧ ((!decide (t_00 = t_10)) = false) ∧ True) (by kernel_rfl) ⟨c0, c1, c2, c3, trivial⟩
theorem l19n_b_1h (n : Option Bool) (nb : Option Bool) (c : Bool) (cb : Bool) (xs : List V) (xs2 : List V) (v0 : Int) (t_00 : List UInt8) (t_10 : List UInt8) : head 0 [0, 1, 2, 3, 4, 22, 25, 26] (Try.cfg.fc 19).acc { tm := [(0, V.agg [V.sl n c 1 xs, V.sl (some true) true 0 []]), (1, V.agg [V.sl nb cb 1 xs2, V.sl (some true) true 0 []]), (2, V.ptr 0 0), (3, V.ptr 1 0), (4, V.bool false), (5, V.int IntKind.i64 v0), (22, V.bool false), (25, V.int IntKind.i64 (↑xs.length : Int)), (26, V.int IntKind.i64 (IntKind.i64.wrap (v0 + 1))), (27, V.bool true), (39, V.bool false)], hp := [(0, Ob.var [V.sl n c 1 xs, V.sl (some true) true 0 []]), (1, Ob.var [V.sl nb cb 1 xs2, V.sl (some true) true 0 []])], nx := 66 } = { tm := [(0, V.agg [V.sl n c 1 xs, V.sl (some true) true 0 []]), (1, V.agg [V.sl nb cb 1 xs2, V.sl (some true) true 0 []]), (2, V.ptr 0 0), (3, V.ptr 1 0), (4, V.bool false), (22, V.bool false), (25, V.int IntKind.i64 (↑xs.length : Int)), (26, V.int IntKind.i64 (IntKind.i64.wrap (v0 + 1)))], hp := [(0, Ob.var [V.sl n c 1 xs, V.sl (some true) true 0 []]), (1, Ob.var [V.sl nb cb 1 xs2, V.sl (some true) true 0 []])], nx := 2 } := by kernel_rfl
theorem l19n_b_2 (n : Option Bool) (nb : Option Bool) (c : Bool) (cb : Bool) (xs : List V) (xs2 : List V) (v0 : Int) (K : Nat)
    (c0 : decide (v0 < (↑xs.length : Int)) = false) :
    evalCode Try.prog Try.cfg (evalFn Try.prog Try.cfg K) 0 (Try.cfg.fc 19) K (loopBody Try.f19 0) { tm := [(0, V.agg [V.sl n c 1 xs, V.sl (some true) true 0 []]), (1, V.agg [V.sl nb cb 1 xs2, V.sl (some true) true 0 []]), (2, V.ptr 0 0), (3, V.ptr 1 0), (4, V.bool false), (22, V.bool false), (25, V.int IntKind.i64 (↑xs.length : Int)), (26, V.int IntKind.i64 v0)], hp := [(0, Ob.var [V.sl n c 1 xs, V.sl (some true) true 0 []]), (1, Ob.var [V.sl nb cb 1 xs2, V.sl (some true) true 0 []])], nx := 2 } = some (Exit.exit 0, { tm := [(0, V.agg [V.sl n c 1 xs, V.sl (some true) true 0 []]), (1, V.agg [V.sl nb cb 1 xs2, V.sl (some true) true 0 []]), (2, V.ptr 0 0), (3, V.ptr 1 0), (4, V.bool false), (22, V.bool false), (25, V.int IntKind.i64 (↑xs.length : Int)), (26, V.int IntKind.i64 v0), (27, V.bool false)], hp := [(0, Ob.var [V.sl n c 1 xs, V.sl (some true) true 0 []]), (1, Ob.var [V.sl nb cb 1 xs2, V.sl (some true) true 0 []])], nx := 6 }) :=
  byC [Hint.br 27 false] ((decide (v0 < (↑xs.length : Int)) = false) ∧ True) (by kernel_rfl) ⟨c0, trivial⟩
inductive l19n_R where
  | e0 (v0 : Int)
  | e2 (v0 : Int)
def l19n_end (n : Option Bool) (nb : Option Bool) (c : Bool) (cb : Bool) (xs : List V) (xs2 : List V) : l19n_R → Exit × St
  | .e0 v0 => (Exit.ret, { tm := [(0, V.agg [V.sl n c 1 xs, V.sl (some true) true 0 []]), (1, V.agg [V.sl nb cb 1 xs2, V.sl (some true) true 0 []]), (2, V.ptr 0 0), (3, V.ptr 1 0), (4, V.bool false), (5, V.int IntKind.i64 v0), (22, V.bool false), (25, V.int IntKind.i64 (↑xs.length : Int)), (26, V.int IntKind.i64 v0), (27, V.bool true), (39, V.bool true)], hp := [(0, Ob.var [V.sl n c 1 xs, V.sl (some true) true 0 []]), (1, Ob.var [V.sl nb cb 1 xs2, V.sl (some true) true 0 []])], nx := 62 })
  | .e2 v0 => (Exit.exit 0, { tm := [(0, V.agg [V.sl n c 1 xs, V.sl (some true) true 0 []]), (1, V.agg [V.sl nb cb 1 xs2, V.sl (some true) true 0 []]), (2, V.ptr 0 0), (3, V.ptr 1 0), (4, V.bool false), (22, V.bool false), (25, V.int IntKind.i64 (↑xs.length : Int)), (26, V.int IntKind.i64 v0), (27, V.bool false)], hp := [(0, Ob.var [V.sl n c 1 xs, V.sl (some true) true 0 []]), (1, Ob.var [V.sl nb cb 1 xs2, V.sl (some true) true 0 []])], nx := 6 })
def l19n (n : Option Bool) (nb : Option Bool) (c : Bool) (cb : Bool) (xs : List V) (xs2 : List V) : Nat → Int → Option l19n_R
  | 0, _ => none
  | f + 1, v0 => (bif decide (v0 < (↑xs.length : Int)) then (match at? xs (v0) with | some (V.str t_00) => (match at? xs2 (v0) with | some (V.str t_10) => (bif !decide (t_00 = t_10) then some (l19n_R.e0 v0) else l19n n nb c cb xs xs2 f (IntKind.i64.wrap (v0 + 1))) | _ => none) | _ => none) else some (l19n_R.e2 v0))
theorem l19n_ok (n : Option Bool) (nb : Option Bool) (c : Bool) (cb : Bool) (xs : List V) (xs2 : List V) (K : Nat) : ∀ (f : Nat) (v0 : Int) (r : l19n_R), l19n n nb c cb xs xs2 f v0 = some r →
    LoopsN Try.prog Try.cfg K 0 Try.f19 (Try.cfg.fc 19) 0 [0, 1, 2, 3, 4, 22, 25, 26] f { tm := [(0, V.agg [V.sl n c 1 xs, V.sl (some true) true 0 []]), (1, V.agg [V.sl nb cb 1 xs2, V.sl (some true) true 0 []]), (2, V.ptr 0 0), (3, V.ptr 1 0), (4, V.bool false), (22, V.bool false), (25, V.int IntKind.i64 (↑xs.length : Int)), (26, V.int IntKind.i64 v0)], hp := [(0, Ob.var [V.sl n c 1 xs, V.sl (some true) true 0 []]), (1, Ob.var [V.sl nb cb 1 xs2, V.sl (some true) true 0 []])], nx := 2 } (l19n_end n nb c cb xs xs2 r) := by
  intro f
  induction f with
  | zero => intro v0 r h; cases h
  | succ f ih =>
    intro v0 r h
    rw [l19n] at h
    cases d0 : (decide (v0 < (↑xs.length : Int)))
    · rw [d0, cond_false] at h
      cases h
      exact LoopsN.done (l19n_b_2 n nb c cb xs xs2 v0 K d0) (fun h => by cases h)
    · rw [d0, cond_true] at h
      split at h
      · rename_i t_00 a1
        split at h
        · rename_i t_10 a2
          cases d13000 : (!decide (t_00 = t_10))
          · rw [d13000, cond_false] at h
            exact LoopsN.next (l19n_b_1 n nb c cb xs xs2 v0 t_00 t_10 K d0 (IdxP.of_at ‹_›) (IdxP.of_at ‹_›) d13000) (l19n_b_1h n nb c cb xs xs2 v0 t_00 t_10) (ih _ _ h)
          · rw [d13000, cond_true] at h
            cases h
            exact LoopsN.done (l19n_b_0 n nb c cb xs xs2 v0 t_00 t_10 K d0 (IdxP.of_at ‹_›) (IdxP.of_at ‹_›) d13000) (fun h => by cases h)
        · cases h
      · cases h
theorem l19q_b_0 (n : Option Bool) (nb : Option Bool) (c : Bool) (cb : Bool) (xs : List V) (xs2 : List V) (v : Int) (K : Nat) :
    evalCode Try.prog Try.cfg (evalFn Try.prog Try.cfg K) 0 (Try.cfg.fc 19) K (loopBody Try.f19 1) { tm := [(0, V.agg [V.sl n c 1 xs, V.sl (some true) true 0 []]), (1, V.agg [V.sl nb cb 1 xs2, V.sl (some true) true 0 []]), (2, V.ptr 0 0), (3, V.ptr 1 0), (4, V.bool false), (22, V.bool false), (25, V.int IntKind.i64 (↑xs.length : Int)), (26, V.int IntKind.i64 v), (27, V.bool false), (43, V.int IntKind.i64 0), (44, V.int IntKind.i64 0)], hp := [(0, Ob.var [V.sl n c 1 xs, V.sl (some true) true 0 []]), (1, Ob.var [V.sl nb cb 1 xs2, V.sl (some true) true 0 []])], nx := 2 } = some (Exit.exit 2, { tm := [(0, V.agg [V.sl n c 1 xs, V.sl (some true) true 0 []]), (1, V.agg [V.sl nb cb 1 xs2, V.sl (some true) true 0 []]), (2, V.ptr 0 0), (3, V.ptr 1 0), (4, V.bool false), (22, V.bool false), (25, V.int IntKind.i64 (↑xs.length : Int)), (26, V.int IntKind.i64 v), (27, V.bool false), (43, V.int IntKind.i64 0), (44, V.int IntKind.i64 0), (45, V.bool false)], hp := [(0, Ob.var [V.sl n c 1 xs, V.sl (some true) true 0 []]), (1, Ob.var [V.sl nb cb 1 xs2, V.sl (some true) true 0 []])], nx := 6 }) :=
  byC [] (True) (by kernel_rfl) trivial
inductive l19q_R where
  | e0 
def l19q_end (n : Option Bool) (nb : Option Bool) (c : Bool) (cb : Bool) (xs : List V) (xs2 : List V) (v : Int) : l19q_R → Exit × St
  | .e0  => (Exit.exit 2, { tm := [(0, V.agg [V.sl n c 1 xs, V.sl (some true) true 0 []]), (1, V.agg [V.sl nb cb 1 xs2, V.sl (some true) true 0 []]), (2, V.ptr 0 0), (3, V.ptr 1 0), (4, V.bool false), (22, V.bool false), (25, V.int IntKind.i64 (↑xs.length : Int)), (26, V.int IntKind.i64 v), (27, V.bool false), (43, V.int IntKind.i64 0), (44, V.int IntKind.i64 0), (45, V.bool false)], hp := [(0, Ob.var [V.sl n c 1 xs, V.sl (some true) true 0 []]), (1, Ob.var [V.sl nb cb 1 xs2, V.sl (some true) true 0 []])], nx := 6 })
def l19q (n : Option Bool) (nb : Option Bool) (c : Bool) (cb : Bool) (xs : List V) (xs2 : List V) (v : Int) : Nat → Option l19q_R
  | 0 => none
  | f + 1 => some (l19q_R.e0 )
theorem l19q_ok (n : Option Bool) (nb : Option Bool) (c : Bool) (cb : Bool) (xs : List V) (xs2 : List V) (v : Int) (K : Nat) : ∀ (f : Nat)  (r : l19q_R), l19q n nb c cb xs xs2 v f  = some r →
    LoopsN Try.prog Try.cfg K 0 Try.f19 (Try.cfg.fc 19) 1 [0, 1, 2, 3, 4, 22, 25, 26, 27, 43, 44] f { tm := [(0, V.agg [V.sl n c 1 xs, V.sl (some true) true 0 []]), (1, V.agg [V.sl nb cb 1 xs2, V.sl (some true) true 0 []]), (2, V.ptr 0 0), (3, V.ptr 1 0), (4, V.bool false), (22, V.bool false), (25, V.int IntKind.i64 (↑xs.length : Int)), (26, V.int IntKind.i64 v), (27, V.bool false), (43, V.int IntKind.i64 0), (44, V.int IntKind.i64 0)], hp := [(0, Ob.var [V.sl n c 1 xs, V.sl (some true) true 0 []]), (1, Ob.var [V.sl nb cb 1 xs2, V.sl (some true) true 0 []])], nx := 2 } (l19q_end n nb c cb xs xs2 v r) := by
  intro f
  induction f with
  | zero => intro  r h; cases h
  | succ f ih =>
    intro  r h
    rw [l19q] at h
    cases h
    exact LoopsN.done (l19q_b_0 n nb c cb xs xs2 v K) (fun h => by cases h)
theorem p19n_0 (n : Option Bool) (nb : Option Bool) (c : Bool) (cb : Bool) (xs : List V) (xs2 : List V) (v : Int) (k : Nat)
    (c0 : (!decide ((↑xs.length : Int) = (↑xs2.length : Int))) = true) :
    callP (evalFn Try.prog Try.cfg (k + 1)) 19 [V.agg [V.sl n c 1 xs, V.sl (some true) true 0 []], V.agg [V.sl nb cb 1 xs2, V.sl (some true) true 0 []]] = some (V.bool false) :=
  byP [Hint.br 14 true] (((!decide ((↑xs.length : Int) = (↑xs2.length : Int))) = true) ∧ True) (by kernel_rfl) ⟨c0, trivial⟩
theorem p19n_1 (n : Option Bool) (nb : Option Bool) (c : Bool) (cb : Bool) (xs : List V) (xs2 : List V) (v : Int) (k : Nat)
    (c0 : (!decide ((↑xs.length : Int) = (↑xs2.length : Int))) = false)
    (c1 : LoopsN Try.prog Try.cfg k 0 Try.f19 (Try.cfg.fc 19) 0 [0, 1, 2, 3, 4, 22, 25, 26] k { tm := [(0, V.agg [V.sl n c 1 xs, V.sl (some true) true 0 []]), (1, V.agg [V.sl nb cb 1 xs2, V.sl (some true) true 0 []]), (2, V.ptr 0 0), (3, V.ptr 1 0), (4, V.bool false), (22, V.bool false), (25, V.int IntKind.i64 (↑xs.length : Int)), (26, V.int IntKind.i64 0)], hp := [(0, Ob.var [V.sl n c 1 xs, V.sl (some true) true 0 []]), (1, Ob.var [V.sl nb cb 1 xs2, V.sl (some true) true 0 []])], nx := 2 } (Exit.exit 0, { tm := [(0, V.agg [V.sl n c 1 xs, V.sl (some true) true 0 []]), (1, V.agg [V.sl nb cb 1 xs2, V.sl (some true) true 0 []]), (2, V.ptr 0 0), (3, V.ptr 1 0), (4, V.bool false), (22, V.bool false), (25, V.int IntKind.i64 (↑xs.length : Int)), (26, V.int IntKind.i64 v), (27, V.bool false)], hp := [(0, Ob.var [V.sl n c 1 xs, V.sl (some true) true 0 []]), (1, Ob.var [V.sl nb cb 1 xs2, V.sl (some true) true 0 []])], nx := 6 }))
    (c2 : LoopsN Try.prog Try.cfg k 0 Try.f19 (Try.cfg.fc 19) 1 [0, 1, 2, 3, 4, 22, 25, 26, 27, 43, 44] k { tm := [(0, V.agg [V.sl n c 1 xs, V.sl (some true) true 0 []]), (1, V.agg [V.sl nb cb 1 xs2, V.sl (some true) true 0 []]), (2, V.ptr 0 0), (3, V.ptr 1 0), (4, V.bool false), (22, V.bool false), (25, V.int IntKind.i64 (↑xs.length : Int)), (26, V.int IntKind.i64 v), (27, V.bool false), (43, V.int IntKind.i64 0), (44, V.int IntKind.i64 0)], hp := [(0, Ob.var [V.sl n c 1 xs, V.sl (some true) true 0 []]), (1, Ob.var [V.sl nb cb 1 xs2, V.sl (some true) true 0 []])], nx := 2 } (Exit.exit 2, { tm := [(0, V.agg [V.sl n c 1 xs, V.sl (some true) true 0 []]), (1, V.agg [V.sl nb cb 1 xs2, V.sl (some true) true 0 []]), (2, V.ptr 0 0), (3, V.ptr 1 0), (4, V.bool false), (22, V.bool false), (25, V.int IntKind.i64 (↑xs.length : Int)), (26, V.int IntKind.i64 v), (27, V.bool false), (43, V.int IntKind.i64 0), (44, V.int IntKind.i64 0), (45, V.bool false)], hp := [(0, Ob.var [V.sl n c 1 xs, V.sl (some true) true 0 []]), (1, Ob.var [V.sl nb cb 1 xs2, V.sl (some true) true 0 []])], nx := 6 })) :
    callP (evalFn Try.prog Try.cfg (k + 1)) 19 [V.agg [V.sl n c 1 xs, V.sl (some true) true 0 []], V.agg [V.sl nb cb 1 xs2, V.sl (some true) true 0 []]] = some (V.bool true) :=
  byP [Hint.br 14 false, Hint.loop (Exit.exit 0, { tm := [(0, V.agg [V.sl n c 1 xs, V.sl (some true) true 0 []]), (1, V.agg [V.sl nb cb 1 xs2, V.sl (some true) true 0 []]), (2, V.ptr 0 0), (3, V.ptr 1 0), (4, V.bool false), (22, V.bool false), (25, V.int IntKind.i64 (↑xs.length : Int)), (26, V.int IntKind.i64 v), (27, V.bool false)], hp := [(0, Ob.var [V.sl n c 1 xs, V.sl (some true) true 0 []]), (1, Ob.var [V.sl nb cb 1 xs2, V.sl (some true) true 0 []])], nx := 6 }), Hint.loop (Exit.exit 2, { tm := [(0, V.agg [V.sl n c 1 xs, V.sl (some true) true 0 []]), (1, V.agg [V.sl nb cb 1 xs2, V.sl (some true) true 0 []]), (2, V.ptr 0 0), (3, V.ptr 1 0), (4, V.bool false), (22, V.bool false), (25, V.int IntKind.i64 (↑xs.length : Int)), (26, V.int IntKind.i64 v), (27, V.bool false), (43, V.int IntKind.i64 0), (44, V.int IntKind.i64 0), (45, V.bool false)], hp := [(0, Ob.var [V.sl n c 1 xs, V.sl (some true) true 0 []]), (1, Ob.var [V.sl nb cb 1 xs2, V.sl (some true) true 0 []])], nx := 6 })] (((!decide ((↑xs.length : Int) = (↑xs2.length : Int))) = false) ∧ (LoopsN Try.prog Try.cfg k 0 Try.f19 (Try.cfg.fc 19) 0 [0, 1, 2, 3, 4, 22, 25, 26] k { tm := [(0, V.agg [V.sl n c 1 xs, V.sl (some true) true 0 []]), (1, V.agg [V.sl nb cb 1 xs2, V.sl (some true) true 0 []]), (2, V.ptr 0 0), (3, V.ptr 1 0), (4, V.bool false), (22, V.bool false), (25, V.int IntKind.i64 (↑xs.length : Int)), (26, V.int IntKind.i64 0)], hp := [(0, Ob.var [V.sl n c 1 xs, V.sl (some true) true 0 []]), (1, Ob.var [V.sl nb cb 1 xs2, V.sl (some true) true 0 []])], nx := 2 } (Exit.exit 0, { tm := [(0, V.agg [V.sl n c 1 xs, V.sl (some true) true 0 []]), (1, V.agg [V.sl nb cb 1 xs2, V.sl (some true) true 0 []]), (2, V.ptr 0 0), (3, V.ptr 1 0), (4, V.bool false), (22, V.bool false), (25, V.int IntKind.i64 (↑xs.length : Int)), (26, V.int IntKind.i64 v), (27, V.bool false)], hp := [(0, Ob.var [V.sl n c 1 xs, V.sl (some true) true 0 []]), (1, Ob.var [V.sl nb cb 1 xs2, V.sl (some true) true 0 []])], nx := 6 })) ∧ (LoopsN Try.prog Try.cfg k 0 Try.f19 (Try.cfg.fc 19) 1 [0, 1, 2, 3, 4, 22, 25, 26, 27, 43, 44] k { tm := [(0, V.agg [V.sl n c 1 xs, V.sl (some true) true 0 []]), (1, V.agg [V.sl nb cb 1 xs2, V.sl (some true) true 0 []]), (2, V.ptr 0 0), (3, V.ptr 1 0), (4, V.bool false), (22, V.bool false), (25, V.int IntKind.i64 (↑xs.length : Int)), (26, V.int IntKind.i64 v), (27, V.bool false), (43, V.int IntKind.i64 0), (44, V.int IntKind.i64 0)], hp := [(0, Ob.var [V.sl n c 1 xs, V.sl (some true) true 0 []]), (1, Ob.var [V.sl nb cb 1 xs2, V.sl (some true) true 0 []])], nx := 2 } (Exit.exit 2, { tm := [(0, V.agg [V.sl n c 1 xs, V.sl (some true) true 0 []]), (1, V.agg [V.sl nb cb 1 xs2, V.sl (some true) true 0 []]), (2, V.ptr 0 0), (3, V.ptr 1 0), (4, V.bool false), (22, V.bool false), (25, V.int IntKind.i64 (↑xs.length : Int)), (26, V.int IntKind.i64 v), (27, V.bool false), (43, V.int IntKind.i64 0), (44, V.int IntKind.i64 0), (45, V.bool false)], hp := [(0, Ob.var [V.sl n c 1 xs, V.sl (some true) true 0 []]), (1, Ob.var [V.sl nb cb 1 xs2, V.sl (some true) true 0 []])], nx := 6 })) ∧ True) (by kernel_rfl) ⟨c0, c1, c2, trivial⟩

theorem ts3 : tsize Try.prog 3 = 1 := by kernel_rfl
theorem ts9 : tsize Try.prog 9 = 1 := by kernel_rfl
theorem ts22 : tsize Try.prog 22 = 1 := by kernel_rfl
theorem ts23 : tsize Try.prog 23 = 1 := by kernel_rfl
theorem ts47 : tsize Try.prog 47 = 2 := by kernel_rfl
theorem ta3 : tagg Try.prog 3 = some false := by kernel_rfl
theorem ta9 : tagg Try.prog 9 = some false := by kernel_rfl
theorem ta25 : tagg Try.prog 25 = some true := by kernel_rfl
theorem ta47 : tagg Try.prog 47 = some true := by kernel_rfl
theorem VArgs_three {P : Program} {k : Nat} {a b c : TypeId} {xs : List V} (h : VArgs P k [a, b, c] xs) : ∃ x y z, xs = [x, y, z] ∧ VArg P k a x ∧ VArg P k b y ∧ VArg P k c z := by
  match xs, h with
  | [x, y, z], ⟨hx, hy, hz, _⟩ => exact ⟨x, y, z, rfl, hx, hy, hz⟩
theorem take_one {vs : List V} {x : V} (h : vs.take 1 = [x]) : vs = x :: vs.drop 1 := by
  cases vs with
  | nil => simp at h
  | cons y r => simp at h; subst h; simp
theorem open3 {k : Nat} {v : V} (h : VArg Try.prog (k + 1) 3 v) : ∃ a, v = V.int .i64 a ∧ -9223372036854775808 ≤ a ∧ a < 9223372036854775808 := by
  unfold VArg at h
  obtain ⟨vs, hv, h⟩ := h
  simp only [VT, Try.underlying3] at h
  obtain ⟨n, h1, hw⟩ := h
  exact ⟨n, hv.trans (by rw [h1]; simp only [Sym.mk, ta3, List.headD_cons]), wf_i64 hw⟩
theorem open25 {k : Nat} {v : V} (h : VArg Try.prog (k + 4) 25 v) : ∃ n c xs m d ys, v = V.agg [V.sl n c 1 xs, V.sl m d 2 ys] ∧ (∀ x ∈ xs, isStr x) ∧ ∀ y ∈ ys, isPut y := by
  unfold VArg at h
  obtain ⟨vs, hv, h⟩ := h
  simp only [VT, Try.underlying25, VTs, Try.underlying22, Try.underlying23, Try.underlying9, Try.underlying47, Try.underlying3, ts22, ts23, ts3, ts9, ts47] at h
  obtain ⟨⟨n, xs, h1, _, _, hx⟩, ⟨m, ys, h2, _, _, hy⟩, h3⟩ := h
  have e1 := take_one h1
  have e2 := take_one h2
  rw [h3] at e2
  rw [e2] at e1
  refine ⟨some n, n, xs, some m, m, ys, hv.trans (by simp only [Sym.mk, ta25, e1]), fun x hm => ?_, fun y hm => ?_⟩
  · obtain ⟨zs, hz, s, h4, _⟩ := hx x hm
    exact ⟨s, hz.trans (by rw [h4]; simp only [Sym.mk, ta9, List.headD_cons])⟩
  · obtain ⟨zs, hz, ⟨a, g1, _⟩, ⟨s, g2, _⟩, g3⟩ := hy y hm
    have f1 := take_one g1
    have f2 := take_one g2
    rw [g3] at f2
    rw [f2] at f1
    exact ⟨a, s, hz.trans (by simp only [Sym.mk, ta47, f1])⟩

theorem take_min {xs : List V} {b : Nat} : List.take (if (b : Int) < (↑xs.length : Int) then (b : Int) else (↑xs.length : Int)).toNat xs = xs.take b := by
  split
  · simp
  · rw [List.take_of_length_le (by omega), List.take_of_length_le (by omega)]
theorem h14 (n m : Option Bool) (c d : Bool) (xs ys : List V) (k : Nat) : callP (evalFn Try.prog Try.cfg (k + 1)) 14 [V.agg [V.sl n c 1 xs, V.sl m d 2 ys]] = some (V.agg [V.sl n false 1 (xs.take 70), V.sl m false 2 (ys.take 65)]) := by
  refine (p14_0 n m c d xs ys k (SlcP.upto ?_ ?_) (SlcP.upto ?_ ?_)).trans ?_
  · split <;> omega
  · split <;> omega
  · split <;> omega
  · split <;> omega
  · rw [show (70 : Int) = ((70 : Nat) : Int) from rfl, show (65 : Int) = ((65 : Nat) : Int) from rfl, take_min, take_min]
theorem h18 (k : Nat) : callP (evalFn Try.prog Try.cfg (k + 100)) 18 [] = some (V.bool true) := by kernel_rfl
theorem h19e (k : Nat) : callP (evalFn Try.prog Try.cfg (k + 10)) 19 [V.agg [V.sl (some true) true 0 [], V.sl (some true) true 0 []], V.agg [V.sl (some true) true 0 [], V.sl (some true) true 0 []]] = some (V.bool true) := by kernel_rfl
theorem l19n_run {n nb : Option Bool} {c cb : Bool} {xs : List V} (hx : ∀ x ∈ xs, isStr x) (hb : xs.length ≤ 1000) : ∀ (r i f : Nat), xs.length - i = r → i ≤ xs.length → r < f →
    l19n n nb c cb xs xs f i = some (.e2 xs.length) := by
  intro r
  induction r with
  | zero =>
    intro i f hr hi hf
    obtain ⟨f, rfl⟩ : ∃ g, f = g + 1 := ⟨f - 1, by omega⟩
    obtain rfl : i = xs.length := by omega
    rw [l19n, decide_eq_false (by omega), cond_false]
  | succ r ih =>
    intro i f hr hi hf
    obtain ⟨f, rfl⟩ : ∃ g, f = g + 1 := ⟨f - 1, by omega⟩
    have hi1 : i < xs.length := by omega
    obtain ⟨t, ht⟩ := hx xs[i] (List.getElem_mem hi1)
    rw [l19n, decide_eq_true (by omega), cond_true, at_get hi1 ht]
    simp only
    rw [show decide True = true from rfl, Bool.not_true, cond_false, wrap_succ (by omega)]
    exact ih (i + 1) f (by omega) (by omega) (by omega)
theorem h19n {n nb : Option Bool} {c cb : Bool} {xs : List V} (hx : ∀ x ∈ xs, isStr x) (hb : xs.length ≤ 1000) (k : Nat) :
    callP (evalFn Try.prog Try.cfg (k + 1003)) 19 [V.agg [V.sl n c 1 xs, V.sl (some true) true 0 []], V.agg [V.sl nb cb 1 xs, V.sl (some true) true 0 []]] = some (V.bool true) :=
  p19n_1 n nb c cb xs xs xs.length (k + 1002) (by rw [decide_eq_true rfl]; rfl) (l19n_ok n nb c cb xs xs (k + 1002) (k + 1002) 0 _ (l19n_run hx hb xs.length 0 (k + 1002) (by omega) (by omega) (by omega)))
    (l19q_ok n nb c cb xs xs xs.length (k + 1002) (k + 1002) _ rfl)
theorem eqV_refl {x : V} (h : isStr x ∨ isPut x) : eqV x x = true := by
  rcases h with ⟨t, rfl⟩ | ⟨a, t, rfl⟩ <;> simp [eqV]
theorem eqL_refl : ∀ {xs : List V}, (∀ x ∈ xs, isStr x ∨ isPut x) → eqL xs xs = true := by
  intro xs
  induction xs with
  | nil => intro _; rfl
  | cons x r ih => intro h; simp only [eqL, eqV_refl (h x (by simp)), ih fun y hy => h y (by simp [hy])]; rfl

theorem g23 {n m : Option Bool} {c d : Bool} {xs ys : List V} (hx : ∀ x ∈ xs, isStr x) (hy : ∀ y ∈ ys, isPut y) (hbx : xs.length ≤ 1000) (hby : ys.length ≤ 1000) {K : Nat} (hK : 1005 ≤ K) :
    callP (evalFn Try.prog Try.cfg K) 23 [V.agg [V.sl n c 1 xs, V.sl m d 2 ys]] = some (V.bool (rightV xs ys)) := by
  obtain ⟨k, rfl⟩ : ∃ k, K = k + 1005 := ⟨K - 1005, by omega⟩
  exact h23 hx hy hbx hby k
theorem g24 {n m : Option Bool} {c d : Bool} {xs ys : List V} (hx : ∀ x ∈ xs, isStr x) (hy : ∀ y ∈ ys, isPut y) (hbx : xs.length ≤ 1000) (hby : ys.length ≤ 1000) {K : Nat} (hK : 1005 ≤ K) :
    callP (evalFn Try.prog Try.cfg K) 24 [V.agg [V.sl n c 1 xs, V.sl m d 2 ys]] = some (V.bool (rightV xs ys)) := by
  obtain ⟨k, rfl⟩ : ∃ k, K = k + 1005 := ⟨K - 1005, by omega⟩
  exact h24 hx hy hbx hby k
theorem g25 {n m : Option Bool} {c d : Bool} {xs ys : List V} {nb mb : Option Bool} {cb db : Bool} {xs2 ys2 : List V} (hx : ∀ x ∈ xs, isStr x) (hx2 : ∀ y ∈ xs2, isStr y) (hy : ∀ x ∈ ys, isPut x) (hy2 : ∀ y ∈ ys2, isPut y) (hbx : xs.length ≤ 1000) (hby : ys.length ≤ 1000) {K : Nat} (hK : 1003 ≤ K) :
    callP (evalFn Try.prog Try.cfg K) 25 [V.agg [V.sl n c 1 xs, V.sl m d 2 ys], V.agg [V.sl nb cb 1 xs2, V.sl mb db 2 ys2]] = some (V.bool (eqL xs xs2 && eqL ys ys2)) := by
  obtain ⟨k, rfl⟩ : ∃ k, K = k + 1003 := ⟨K - 1003, by omega⟩
  exact h25 hx hx2 hy hy2 hbx hby k
theorem g19 {n m : Option Bool} {c d : Bool} {xs ys : List V} {nb mb : Option Bool} {cb db : Bool} {xs2 ys2 : List V} (hx : ∀ x ∈ xs, isStr x) (hx2 : ∀ y ∈ xs2, isStr y) (hy : ∀ x ∈ ys, isPut x) (hy2 : ∀ y ∈ ys2, isPut y) (hbx : xs.length ≤ 1000) (hby : ys.length ≤ 1000) {K : Nat} (hK : 1003 ≤ K) :
    callP (evalFn Try.prog Try.cfg K) 19 [V.agg [V.sl n c 1 xs, V.sl m d 2 ys], V.agg [V.sl nb cb 1 xs2, V.sl mb db 2 ys2]] = some (V.bool (eqL xs xs2 && eqL ys ys2)) := by
  obtain ⟨k, rfl⟩ : ∃ k, K = k + 1003 := ⟨K - 1003, by omega⟩
  exact h19 hx hx2 hy hy2 hbx hby k
theorem g19n {n nb : Option Bool} {c cb : Bool} {xs : List V} (hx : ∀ x ∈ xs, isStr x) (hb : xs.length ≤ 1000) {K : Nat} (hK : 1003 ≤ K) :
    callP (evalFn Try.prog Try.cfg K) 19 [V.agg [V.sl n c 1 xs, V.sl (some true) true 0 []], V.agg [V.sl nb cb 1 xs, V.sl (some true) true 0 []]] = some (V.bool true) := by
  obtain ⟨k, rfl⟩ : ∃ k, K = k + 1003 := ⟨K - 1003, by omega⟩
  exact h19n hx hb k
theorem g18 {K : Nat} (hK : 100 ≤ K) : callP (evalFn Try.prog Try.cfg K) 18 [] = some (V.bool true) := by
  obtain ⟨k, rfl⟩ : ∃ k, K = k + 100 := ⟨K - 100, by omega⟩
  exact h18 k
theorem g19e {K : Nat} (hK : 10 ≤ K) : callP (evalFn Try.prog Try.cfg K) 19 [V.agg [V.sl (some true) true 0 [], V.sl (some true) true 0 []], V.agg [V.sl (some true) true 0 [], V.sl (some true) true 0 []]] = some (V.bool true) := by
  obtain ⟨k, rfl⟩ : ∃ k, K = k + 10 := ⟨K - 10, by omega⟩
  exact h19e k
theorem law_deviceRight {n m : Option Bool} {c d : Bool} {xs ys : List V} {nb mb : Option Bool} {cb db : Bool} {xs2 ys2 : List V} (hx : ∀ x ∈ xs, isStr x) (hx2 : ∀ y ∈ xs2, isStr y) (hy : ∀ x ∈ ys, isPut x) (hy2 : ∀ y ∈ ys2, isPut y) (num : Int) (k : Nat) (hk : 1100 ≤ k) :
    callP (evalFn Try.prog Try.cfg (k + 1 + 1)) 4 [V.agg [V.sl n c 1 xs, V.sl m d 2 ys], V.agg [V.sl nb cb 1 xs2, V.sl mb db 2 ys2], V.int IntKind.i64 num] = some (V.bool true) := by
  have tx : ∀ x ∈ xs.take 70, isStr x := fun x h => hx x (List.mem_of_mem_take h)
  have ty : ∀ x ∈ ys.take 65, isPut x := fun x h => hy x (List.mem_of_mem_take h)
  have tx2 : ∀ x ∈ xs2.take 70, isStr x := fun x h => hx2 x (List.mem_of_mem_take h)
  have ty2 : ∀ x ∈ ys2.take 65, isPut x := fun x h => hy2 x (List.mem_of_mem_take h)
  have lx : (xs.take 70).length ≤ 1000 := by simp; omega
  have ly : (ys.take 65).length ≤ 1000 := by simp; omega
  have a1 := h14 n m c d xs ys k
  have a2 := h14 nb mb cb db xs2 ys2 k
  have k5 : 1005 ≤ k + 1 := by omega
  have k3 : 1003 ≤ k + 1 := by omega
  have r1 := g23 (n := n) (m := m) (c := false) (d := false) tx ty lx ly k5
  have r2 := g24 (n := n) (m := m) (c := false) (d := false) tx ty lx ly k5
  have s1 := g25 (n := n) (m := m) (c := false) (d := false) (nb := nb) (mb := mb) (cb := false) (db := false) tx tx2 ty ty2 lx ly k3
  have s2 := g19 (n := n) (m := m) (c := false) (d := false) (nb := nb) (mb := mb) (cb := false) (db := false) tx tx2 ty ty2 lx ly k3
  have s3 := g25 (n := n) (m := m) (c := false) (d := false) (nb := n) (mb := m) (cb := false) (db := false) tx tx ty ty lx ly k3
  have al := g18 (show 100 ≤ k + 1 by omega)
  have em := g19e (show 10 ≤ k + 1 by omega)
  have z3 : (!(eqL (xs.take 70) (xs.take 70) && eqL (ys.take 65) (ys.take 65))) = false := by
    rw [eqL_refl fun x h => .inl (tx x h), eqL_refl fun x h => .inr (ty x h)]; rfl
  by_cases h1 : num < 1
  · exact p4_3 n m c d xs ys nb mb cb db xs2 ys2 num (k + 1) a1 a2 (p22_0 num k (decide_eq_true h1)) r1 r2 (by simp) s1 s2 (by simp) s3 z3 al (decide_eq_true h1) em
  · by_cases h2 : 64 < num
    · exact p4_7 n m c d xs ys nb mb cb db xs2 ys2 num (k + 1) a1 a2 (p22_1 num k (decide_eq_false h1) (decide_eq_true h2)) r1 r2 (by simp) s1 s2 (by simp) s3 z3 al (decide_eq_false h1) (decide_eq_true h2) em
    · have g : 0 < 1 ∧ 16 ≤ 64 ∧ (V.str []).cells.length = 1 ∧ 0 ≤ num ∧ num ≤ num ∧ num ≤ (↑maxLen' : Int) := by
        refine ⟨by decide, by decide, rfl, by omega, by omega, ?_⟩
        have : (maxLen' : Int) = 1099511627776 := by decide
        omega
      have tr : ∀ x ∈ List.replicate num.toNat (V.str []), isStr x := fun x h => ⟨[], List.eq_of_mem_replicate h⟩
      have lr : (List.replicate num.toNat (V.str [])).length ≤ 1000 := by simp; omega
      have re : (eqL (List.replicate num.toNat (V.str [])) (List.replicate num.toNat (V.str [])) && eqL [] []) = true := by rw [eqL_refl fun x h => .inl (tr x h)]; rfl
      refine (p4_11 n m c d xs ys nb mb cb db xs2 ys2 num (k + 1) a1 a2 (p22_2 num k (decide_eq_false h1) (decide_eq_false h2) (GrdW.mk g)) r1 r2 (by simp) s1 s2 (by simp) s3 z3 al (decide_eq_false h1) (decide_eq_false h2) (GrdW.mk g) (by rw [re]; exact g19n tr lr k3)).trans ?_
      rw [re]
end Go.Proofs
namespace Go.Proofs.Ytpnpneffbkdomaa
open Go.Sym
theorem deviceRight_lifted (os : Os) (started : os.Started) (H : Type) (enc : TypeId × Value → H) :
    ReturnsInHanded {} Try.checked os 4 .any (Rows.deviceRightSpec.pre6 enc Try.prog Try.f4 Rows.deviceRightRow.domain false) (Rows.deviceRightSpec.post enc Try.prog Try.f4 false true false false) := by
  refine returnsInHanded_of_change (C := Try.checked) Try.own started (by kernel_rfl) Try.func4
    (ChangeSpec.witness6 (enc := enc) (C := Try.checked) false ⟨#[], #[.agg #[.slice none 0 0, .slice none 0 0], .agg #[.slice none 0 0, .slice none 0 0], .int .i64 0], []⟩ 8 (by kernel_rfl) (by kernel_rfl) (by kernel_rfl) (by kernel_rfl)) ?_
  intro W base args ds gs before hval hW hcnd _
  refine law_end (P := Try.prog) (C := Try.cfg) (k := 4) (tb := 4) Try.mixed Try.progOk Try.laidOut (by kernel_rfl) rfl rfl Try.underlying4 ?_ ?_ (fun j t v h1 h2 => ⟨base, hval j t v h1 h2⟩) hW
  · intro ds hds
    match ds, hds with
    | [d, e, f], _ => exact ⟨rfl, rfl, rfl⟩
  · intro xs hxs
    obtain ⟨x, y, z, rfl, hx, hy, hz⟩ := VArgs_three (P := Try.prog) (k := 4) (a := 25) (b := 25) (c := 3) hxs
    · obtain ⟨n, c, xs, m, d, ys, rfl, h1, h2⟩ := open25 hx
      obtain ⟨nb, cb, xs2, mb, db, ys2, rfl, h3, h4⟩ := open25 hy
      obtain ⟨num, rfl, _⟩ := open3 hz
      exact ⟨1100 + 1 + 1, law_deviceRight h1 h3 h2 h4 num 1100 (Nat.le_refl _)⟩

theorem deviceRight_holds : Rows.DeviceRightSaid :=
  OpenClaim.holds_of_wide 4 Try.f4 rfl rfl rfl rfl rfl rfl rfl ⟨rfl, rfl, rfl, rfl, rfl⟩ rfl rfl rfl rfl rfl (by kernel_rfl) Try.func4 (by kernel_rfl)
    (of_decide_eq_true (by kernel_rfl)) (by unfold Func.isWrapper; first | (rw [if_pos (by decide +kernel)]; kernel_rfl) | (rw [if_neg (by decide +kernel)]; exact ⟨rfl, rfl⟩))
    (fun os started H enc _ => deviceRight_lifted os started H enc)
end Go.Proofs.Ytpnpneffbkdomaa
