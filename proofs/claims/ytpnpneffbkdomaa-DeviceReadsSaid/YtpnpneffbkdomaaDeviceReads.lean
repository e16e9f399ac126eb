/-
  DeviceReads: what was written is read, and nothing else changes; a barrier changes nothing that is read; a crash keeps of each sector one that was written to it, or what was in the store, for all devices, places, texts and numbers.
-/
import Derived.Test.YtpnpneffbkdomaaDevI
set_option linter.unusedVariables false
set_option linter.unusedSimpArgs false
set_option linter.constructorNameAsVariable false
set_option maxRecDepth 100000
namespace Go.Proofs
open Go.Sym
theorem p6n_0 (n : Option Bool) (m : Option Bool) (c : Bool) (d : Bool) (xs : List V) (ys : List V) (a : Int) (t : List UInt8) (keep : Int) (k : Nat)
    (c0 : callP (evalFn Try.prog Try.cfg k) 14 [V.agg [V.sl n c 1 xs, V.sl m d 2 ys]] = some (V.agg [V.sl n false 1 (List.take 70 xs), V.sl m false 2 (List.take 65 ys)]))
    (c1 : callP (evalFn Try.prog Try.cfg k) 15 [V.agg [V.sl n false 1 (List.take 70 xs), V.sl m false 2 (List.take 65 ys)], V.int IntKind.i64 a, V.str t] = some (V.tup [V.agg [V.sl (some true) true 0 [], V.sl (some true) true 0 []], V.int IntKind.i64 (whyV (List.take 70 xs) (List.take 65 ys) a)]))
    (c2 : (!decide (whyV (List.take 70 xs) (List.take 65 ys) a = 0)) = true)
    (c3 : callP (evalFn Try.prog Try.cfg k) 18 [] = some (V.bool true)) :
    callP (evalFn Try.prog Try.cfg (k + 1)) 6 [V.agg [V.sl n c 1 xs, V.sl m d 2 ys], V.int IntKind.i64 a, V.str t, V.int IntKind.u64 keep] = some (V.bool true) :=
  byP [Hint.call 28 (V.agg [V.sl n false 1 (List.take 70 xs), V.sl m false 2 (List.take 65 ys)]), Hint.call 33 (V.tup [V.agg [V.sl (some true) true 0 [], V.sl (some true) true 0 []], V.int IntKind.i64 (whyV (List.take 70 xs) (List.take 65 ys) a)]), Hint.br 37 true, Hint.call 38 (V.bool true)] ((callP (evalFn Try.prog Try.cfg k) 14 [V.agg [V.sl n c 1 xs, V.sl m d 2 ys]] = some (V.agg [V.sl n false 1 (List.take 70 xs), V.sl m false 2 (List.take 65 ys)])) ∧ (callP (evalFn Try.prog Try.cfg k) 15 [V.agg [V.sl n false 1 (List.take 70 xs), V.sl m false 2 (List.take 65 ys)], V.int IntKind.i64 a, V.str t] = some (V.tup [V.agg [V.sl (some true) true 0 [], V.sl (some true) true 0 []], V.int IntKind.i64 (whyV (List.take 70 xs) (List.take 65 ys) a)])) ∧ ((!decide (whyV (List.take 70 xs) (List.take 65 ys) a = 0)) = true) ∧ (callP (evalFn Try.prog Try.cfg k) 18 [] = some (V.bool true)) ∧ True) (by kernel_rfl) ⟨c0, c1, c2, c3, trivial⟩
theorem p6n_1 (n : Option Bool) (m : Option Bool) (c : Bool) (d : Bool) (xs : List V) (ys : List V) (a : Int) (t : List UInt8) (keep : Int) (k : Nat)
    (c0 : callP (evalFn Try.prog Try.cfg k) 14 [V.agg [V.sl n c 1 xs, V.sl m d 2 ys]] = some (V.agg [V.sl n false 1 (List.take 70 xs), V.sl m false 2 (List.take 65 ys)]))
    (c1 : callP (evalFn Try.prog Try.cfg k) 15 [V.agg [V.sl n false 1 (List.take 70 xs), V.sl m false 2 (List.take 65 ys)], V.int IntKind.i64 a, V.str t] = some (V.tup [V.agg [V.sl (some true) true 0 [], V.sl (some true) true 0 []], V.int IntKind.i64 4]))
    (c2 : callP (evalFn Try.prog Try.cfg k) 18 [] = some (V.bool true)) :
    callP (evalFn Try.prog Try.cfg (k + 1)) 6 [V.agg [V.sl n c 1 xs, V.sl m d 2 ys], V.int IntKind.i64 a, V.str t, V.int IntKind.u64 keep] = some (V.bool true) :=
  byP [Hint.call 28 (V.agg [V.sl n false 1 (List.take 70 xs), V.sl m false 2 (List.take 65 ys)]), Hint.call 33 (V.tup [V.agg [V.sl (some true) true 0 [], V.sl (some true) true 0 []], V.int IntKind.i64 4]), Hint.call 38 (V.bool true)] ((callP (evalFn Try.prog Try.cfg k) 14 [V.agg [V.sl n c 1 xs, V.sl m d 2 ys]] = some (V.agg [V.sl n false 1 (List.take 70 xs), V.sl m false 2 (List.take 65 ys)])) ∧ (callP (evalFn Try.prog Try.cfg k) 15 [V.agg [V.sl n false 1 (List.take 70 xs), V.sl m false 2 (List.take 65 ys)], V.int IntKind.i64 a, V.str t] = some (V.tup [V.agg [V.sl (some true) true 0 [], V.sl (some true) true 0 []], V.int IntKind.i64 4])) ∧ (callP (evalFn Try.prog Try.cfg k) 18 [] = some (V.bool true)) ∧ True) (by kernel_rfl) ⟨c0, c1, c2, trivial⟩
theorem p6n_2 (n : Option Bool) (m : Option Bool) (c : Bool) (d : Bool) (xs : List V) (ys : List V) (a : Int) (t : List UInt8) (keep : Int) (k : Nat)
    (c0 : callP (evalFn Try.prog Try.cfg k) 14 [V.agg [V.sl n c 1 xs, V.sl m d 2 ys]] = some (V.agg [V.sl n false 1 (List.take 70 xs), V.sl m false 2 (List.take 65 ys)]))
    (c1 : callP (evalFn Try.prog Try.cfg k) 15 [V.agg [V.sl n false 1 (List.take 70 xs), V.sl m false 2 (List.take 65 ys)], V.int IntKind.i64 a, V.str t] = some (V.tup [V.agg [V.sl (some true) true 0 [], V.sl (some true) true 0 []], V.int IntKind.i64 6]))
    (c2 : callP (evalFn Try.prog Try.cfg k) 18 [] = some (V.bool true)) :
    callP (evalFn Try.prog Try.cfg (k + 1)) 6 [V.agg [V.sl n c 1 xs, V.sl m d 2 ys], V.int IntKind.i64 a, V.str t, V.int IntKind.u64 keep] = some (V.bool true) :=
  byP [Hint.call 28 (V.agg [V.sl n false 1 (List.take 70 xs), V.sl m false 2 (List.take 65 ys)]), Hint.call 33 (V.tup [V.agg [V.sl (some true) true 0 [], V.sl (some true) true 0 []], V.int IntKind.i64 6]), Hint.call 38 (V.bool true)] ((callP (evalFn Try.prog Try.cfg k) 14 [V.agg [V.sl n c 1 xs, V.sl m d 2 ys]] = some (V.agg [V.sl n false 1 (List.take 70 xs), V.sl m false 2 (List.take 65 ys)])) ∧ (callP (evalFn Try.prog Try.cfg k) 15 [V.agg [V.sl n false 1 (List.take 70 xs), V.sl m false 2 (List.take 65 ys)], V.int IntKind.i64 a, V.str t] = some (V.tup [V.agg [V.sl (some true) true 0 [], V.sl (some true) true 0 []], V.int IntKind.i64 6])) ∧ (callP (evalFn Try.prog Try.cfg k) 18 [] = some (V.bool true)) ∧ True) (by kernel_rfl) ⟨c0, c1, c2, trivial⟩
theorem p6_5 (m : Option Bool) (c : Bool) (d : Bool) (xs : List V) (ys : List V) (a : Int) (t : List UInt8) (keep : Int) (v : Int) (k : Nat)
    (c0 : callP (evalFn Try.prog Try.cfg k) 14 [V.agg [V.sl (some false) c 1 xs, V.sl m d 2 ys]] = some (V.agg [V.sl (some false) false 1 (List.take 70 xs), V.sl m false 2 (List.take 65 ys)]))
    (c1 : callP (evalFn Try.prog Try.cfg k) 15 [V.agg [V.sl (some false) false 1 (List.take 70 xs), V.sl m false 2 (List.take 65 ys)], V.int IntKind.i64 a, V.str t] = some (V.tup [V.agg [V.sl (some false) false 1 (List.take 70 xs), V.sl none false 2 (List.take 65 ys ++ [putV a t])], V.int IntKind.i64 0]))
    (c2 : callP (evalFn Try.prog Try.cfg k) 26 [V.agg [V.sl (some false) false 1 (List.take 70 xs), V.sl none false 2 (List.take 65 ys ++ [putV a t])]] = some (V.tup [V.agg [V.sl none false 1 (crashV 1152921504606846975 0 (List.take 65 ys ++ [putV a t]) (List.take 70 xs)), V.sl (some true) true 0 []], V.int IntKind.i64 0]))
    (c3 : callP (evalFn Try.prog Try.cfg k) 27 [V.agg [V.sl (some false) false 1 (List.take 70 xs), V.sl none false 2 (List.take 65 ys ++ [putV a t])], V.int IntKind.u64 keep] = some (V.tup [V.agg [V.sl none false 1 (crashV keep 0 (List.take 65 ys ++ [putV a t]) (List.take 70 xs)), V.sl (some true) true 0 []], V.int IntKind.i64 0]))
    (c4 : callP (evalFn Try.prog Try.cfg k) 27 [V.agg [V.sl (some false) false 1 (List.take 70 xs), V.sl none false 2 (List.take 65 ys ++ [putV a t])], V.int IntKind.u64 0] = some (V.tup [V.agg [V.sl none false 1 (crashV 0 0 (List.take 65 ys ++ [putV a t]) (List.take 70 xs)), V.sl (some true) true 0 []], V.int IntKind.i64 0]))
    (c5 : (!decide ((↑(crashV keep 0 (List.take 65 ys ++ [putV a t]) (List.take 70 xs)).length : Int) = (↑(List.take 70 xs).length : Int))) = false)
    (c6 : callP (evalFn Try.prog Try.cfg k) 19 [V.agg [V.sl none false 1 (crashV 0 0 (List.take 65 ys ++ [putV a t]) (List.take 70 xs)), V.sl (some true) true 0 []], V.agg [V.sl (some false) false 1 (List.take 70 xs), V.sl (some true) true 0 []]] = some (V.bool (eqL (crashV 0 0 (List.take 65 ys ++ [putV a t]) (List.take 70 xs)) (List.take 70 xs) && eqL [] [])))
    (c7 : (!(eqL (crashV 0 0 (List.take 65 ys ++ [putV a t]) (List.take 70 xs)) (List.take 70 xs) && eqL [] [])) = false)
    (c8 : callP (evalFn Try.prog Try.cfg k) 18 [] = some (V.bool true))
    (c9 : LoopsN Try.prog Try.cfg k 0 Try.f6 (Try.cfg.fc 6) 0 [0, 1, 2, 3, 4, 8, 9, 10, 11, 12, 13, 14, 15, 16, 37, 105, 108, 109] k { tm := [(0, V.agg [V.sl (some false) c 1 xs, V.sl m d 2 ys]), (1, V.int IntKind.i64 a), (2, V.str t), (3, V.int IntKind.u64 keep), (4, V.ptr 0 0), (8, V.bool false), (9, V.ptr 1 0), (10, V.int IntKind.i64 0), (11, V.ptr 2 0), (12, V.int IntKind.i64 0), (13, V.ptr 3 0), (14, V.int IntKind.i64 0), (15, V.ptr 4 0), (16, V.int IntKind.i64 0), (37, V.bool false), (105, V.bool false), (108, V.int IntKind.i64 (↑(List.take 70 xs).length : Int)), (109, V.int IntKind.i64 0)], hp := [(0, Ob.var [V.sl (some false) false 1 (List.take 70 xs), V.sl m false 2 (List.take 65 ys)]), (1, Ob.var [V.sl (some false) false 1 (List.take 70 xs), V.sl none false 2 (List.take 65 ys ++ [putV a t])]), (2, Ob.var [V.sl none false 1 (crashV 1152921504606846975 0 (List.take 65 ys ++ [putV a t]) (List.take 70 xs)), V.sl (some true) true 0 []]), (3, Ob.var [V.sl none false 1 (crashV keep 0 (List.take 65 ys ++ [putV a t]) (List.take 70 xs)), V.sl (some true) true 0 []]), (4, Ob.var [V.sl none false 1 (crashV 0 0 (List.take 65 ys ++ [putV a t]) (List.take 70 xs)), V.sl (some true) true 0 []])], nx := 5 } (Exit.exit 0, { tm := [(0, V.agg [V.sl (some false) c 1 xs, V.sl m d 2 ys]), (1, V.int IntKind.i64 a), (2, V.str t), (3, V.int IntKind.u64 keep), (4, V.ptr 0 0), (8, V.bool false), (9, V.ptr 1 0), (10, V.int IntKind.i64 0), (11, V.ptr 2 0), (12, V.int IntKind.i64 0), (13, V.ptr 3 0), (14, V.int IntKind.i64 0), (15, V.ptr 4 0), (16, V.int IntKind.i64 0), (37, V.bool false), (105, V.bool false), (108, V.int IntKind.i64 (↑(List.take 70 xs).length : Int)), (109, V.int IntKind.i64 v), (110, V.bool false)], hp := [(0, Ob.var [V.sl (some false) false 1 (List.take 70 xs), V.sl m false 2 (List.take 65 ys)]), (1, Ob.var [V.sl (some false) false 1 (List.take 70 xs), V.sl none false 2 (List.take 65 ys ++ [putV a t])]), (2, Ob.var [V.sl none false 1 (crashV 1152921504606846975 0 (List.take 65 ys ++ [putV a t]) (List.take 70 xs)), V.sl (some true) true 0 []]), (3, Ob.var [V.sl none false 1 (crashV keep 0 (List.take 65 ys ++ [putV a t]) (List.take 70 xs)), V.sl (some true) true 0 []]), (4, Ob.var [V.sl none false 1 (crashV 0 0 (List.take 65 ys ++ [putV a t]) (List.take 70 xs)), V.sl (some true) true 0 []])], nx := 9 })) :
    callP (evalFn Try.prog Try.cfg (k + 1)) 6 [V.agg [V.sl (some false) c 1 xs, V.sl m d 2 ys], V.int IntKind.i64 a, V.str t, V.int IntKind.u64 keep] = some (V.bool true) :=
  byP [Hint.call 28 (V.agg [V.sl (some false) false 1 (List.take 70 xs), V.sl m false 2 (List.take 65 ys)]), Hint.call 33 (V.tup [V.agg [V.sl (some false) false 1 (List.take 70 xs), V.sl none false 2 (List.take 65 ys ++ [putV a t])], V.int IntKind.i64 0]), Hint.call 47 (V.tup [V.agg [V.sl none false 1 (crashV 1152921504606846975 0 (List.take 65 ys ++ [putV a t]) (List.take 70 xs)), V.sl (some true) true 0 []], V.int IntKind.i64 0]), Hint.call 53 (V.tup [V.agg [V.sl none false 1 (crashV keep 0 (List.take 65 ys ++ [putV a t]) (List.take 70 xs)), V.sl (some true) true 0 []], V.int IntKind.i64 0]), Hint.call 58 (V.tup [V.agg [V.sl none false 1 (crashV 0 0 (List.take 65 ys ++ [putV a t]) (List.take 70 xs)), V.sl (some true) true 0 []], V.int IntKind.i64 0]), Hint.br 94 false, Hint.call 99 (V.bool (eqL (crashV 0 0 (List.take 65 ys ++ [putV a t]) (List.take 70 xs)) (List.take 70 xs) && eqL [] [])), Hint.br 102 false, Hint.call 103 (V.bool true), Hint.loop (Exit.exit 0, { tm := [(0, V.agg [V.sl (some false) c 1 xs, V.sl m d 2 ys]), (1, V.int IntKind.i64 a), (2, V.str t), (3, V.int IntKind.u64 keep), (4, V.ptr 0 0), (8, V.bool false), (9, V.ptr 1 0), (10, V.int IntKind.i64 0), (11, V.ptr 2 0), (12, V.int IntKind.i64 0), (13, V.ptr 3 0), (14, V.int IntKind.i64 0), (15, V.ptr 4 0), (16, V.int IntKind.i64 0), (37, V.bool false), (105, V.bool false), (108, V.int IntKind.i64 (↑(List.take 70 xs).length : Int)), (109, V.int IntKind.i64 v), (110, V.bool false)], hp := [(0, Ob.var [V.sl (some false) false 1 (List.take 70 xs), V.sl m false 2 (List.take 65 ys)]), (1, Ob.var [V.sl (some false) false 1 (List.take 70 xs), V.sl none false 2 (List.take 65 ys ++ [putV a t])]), (2, Ob.var [V.sl none false 1 (crashV 1152921504606846975 0 (List.take 65 ys ++ [putV a t]) (List.take 70 xs)), V.sl (some true) true 0 []]), (3, Ob.var [V.sl none false 1 (crashV keep 0 (List.take 65 ys ++ [putV a t]) (List.take 70 xs)), V.sl (some true) true 0 []]), (4, Ob.var [V.sl none false 1 (crashV 0 0 (List.take 65 ys ++ [putV a t]) (List.take 70 xs)), V.sl (some true) true 0 []])], nx := 9 })] ((callP (evalFn Try.prog Try.cfg k) 14 [V.agg [V.sl (some false) c 1 xs, V.sl m d 2 ys]] = some (V.agg [V.sl (some false) false 1 (List.take 70 xs), V.sl m false 2 (List.take 65 ys)])) ∧ (callP (evalFn Try.prog Try.cfg k) 15 [V.agg [V.sl (some false) false 1 (List.take 70 xs), V.sl m false 2 (List.take 65 ys)], V.int IntKind.i64 a, V.str t] = some (V.tup [V.agg [V.sl (some false) false 1 (List.take 70 xs), V.sl none false 2 (List.take 65 ys ++ [putV a t])], V.int IntKind.i64 0])) ∧ (callP (evalFn Try.prog Try.cfg k) 26 [V.agg [V.sl (some false) false 1 (List.take 70 xs), V.sl none false 2 (List.take 65 ys ++ [putV a t])]] = some (V.tup [V.agg [V.sl none false 1 (crashV 1152921504606846975 0 (List.take 65 ys ++ [putV a t]) (List.take 70 xs)), V.sl (some true) true 0 []], V.int IntKind.i64 0])) ∧ (callP (evalFn Try.prog Try.cfg k) 27 [V.agg [V.sl (some false) false 1 (List.take 70 xs), V.sl none false 2 (List.take 65 ys ++ [putV a t])], V.int IntKind.u64 keep] = some (V.tup [V.agg [V.sl none false 1 (crashV keep 0 (List.take 65 ys ++ [putV a t]) (List.take 70 xs)), V.sl (some true) true 0 []], V.int IntKind.i64 0])) ∧ (callP (evalFn Try.prog Try.cfg k) 27 [V.agg [V.sl (some false) false 1 (List.take 70 xs), V.sl none false 2 (List.take 65 ys ++ [putV a t])], V.int IntKind.u64 0] = some (V.tup [V.agg [V.sl none false 1 (crashV 0 0 (List.take 65 ys ++ [putV a t]) (List.take 70 xs)), V.sl (some true) true 0 []], V.int IntKind.i64 0])) ∧ ((!decide ((↑(crashV keep 0 (List.take 65 ys ++ [putV a t]) (List.take 70 xs)).length : Int) = (↑(List.take 70 xs).length : Int))) = false) ∧ (callP (evalFn Try.prog Try.cfg k) 19 [V.agg [V.sl none false 1 (crashV 0 0 (List.take 65 ys ++ [putV a t]) (List.take 70 xs)), V.sl (some true) true 0 []], V.agg [V.sl (some false) false 1 (List.take 70 xs), V.sl (some true) true 0 []]] = some (V.bool (eqL (crashV 0 0 (List.take 65 ys ++ [putV a t]) (List.take 70 xs)) (List.take 70 xs) && eqL [] []))) ∧ ((!(eqL (crashV 0 0 (List.take 65 ys ++ [putV a t]) (List.take 70 xs)) (List.take 70 xs) && eqL [] [])) = false) ∧ (callP (evalFn Try.prog Try.cfg k) 18 [] = some (V.bool true)) ∧ (LoopsN Try.prog Try.cfg k 0 Try.f6 (Try.cfg.fc 6) 0 [0, 1, 2, 3, 4, 8, 9, 10, 11, 12, 13, 14, 15, 16, 37, 105, 108, 109] k { tm := [(0, V.agg [V.sl (some false) c 1 xs, V.sl m d 2 ys]), (1, V.int IntKind.i64 a), (2, V.str t), (3, V.int IntKind.u64 keep), (4, V.ptr 0 0), (8, V.bool false), (9, V.ptr 1 0), (10, V.int IntKind.i64 0), (11, V.ptr 2 0), (12, V.int IntKind.i64 0), (13, V.ptr 3 0), (14, V.int IntKind.i64 0), (15, V.ptr 4 0), (16, V.int IntKind.i64 0), (37, V.bool false), (105, V.bool false), (108, V.int IntKind.i64 (↑(List.take 70 xs).length : Int)), (109, V.int IntKind.i64 0)], hp := [(0, Ob.var [V.sl (some false) false 1 (List.take 70 xs), V.sl m false 2 (List.take 65 ys)]), (1, Ob.var [V.sl (some false) false 1 (List.take 70 xs), V.sl none false 2 (List.take 65 ys ++ [putV a t])]), (2, Ob.var [V.sl none false 1 (crashV 1152921504606846975 0 (List.take 65 ys ++ [putV a t]) (List.take 70 xs)), V.sl (some true) true 0 []]), (3, Ob.var [V.sl none false 1 (crashV keep 0 (List.take 65 ys ++ [putV a t]) (List.take 70 xs)), V.sl (some true) true 0 []]), (4, Ob.var [V.sl none false 1 (crashV 0 0 (List.take 65 ys ++ [putV a t]) (List.take 70 xs)), V.sl (some true) true 0 []])], nx := 5 } (Exit.exit 0, { tm := [(0, V.agg [V.sl (some false) c 1 xs, V.sl m d 2 ys]), (1, V.int IntKind.i64 a), (2, V.str t), (3, V.int IntKind.u64 keep), (4, V.ptr 0 0), (8, V.bool false), (9, V.ptr 1 0), (10, V.int IntKind.i64 0), (11, V.ptr 2 0), (12, V.int IntKind.i64 0), (13, V.ptr 3 0), (14, V.int IntKind.i64 0), (15, V.ptr 4 0), (16, V.int IntKind.i64 0), (37, V.bool false), (105, V.bool false), (108, V.int IntKind.i64 (↑(List.take 70 xs).length : Int)), (109, V.int IntKind.i64 v), (110, V.bool false)], hp := [(0, Ob.var [V.sl (some false) false 1 (List.take 70 xs), V.sl m false 2 (List.take 65 ys)]), (1, Ob.var [V.sl (some false) false 1 (List.take 70 xs), V.sl none false 2 (List.take 65 ys ++ [putV a t])]), (2, Ob.var [V.sl none false 1 (crashV 1152921504606846975 0 (List.take 65 ys ++ [putV a t]) (List.take 70 xs)), V.sl (some true) true 0 []]), (3, Ob.var [V.sl none false 1 (crashV keep 0 (List.take 65 ys ++ [putV a t]) (List.take 70 xs)), V.sl (some true) true 0 []]), (4, Ob.var [V.sl none false 1 (crashV 0 0 (List.take 65 ys ++ [putV a t]) (List.take 70 xs)), V.sl (some true) true 0 []])], nx := 9 })) ∧ True) (by kernel_rfl) ⟨c0, c1, c2, c3, c4, c5, c6, c7, c8, c9, trivial⟩
theorem p23e_0 (n : Option Bool) (c : Bool) (xs : List V) (k : Nat)
    (c0 : decide (1 ≤ (↑xs.length : Int)) = true)
    (c1 : decide ((↑xs.length : Int) ≤ 64) = true)
    (c2 : callP (evalFn Try.prog Try.cfg (k + 10)) 64 [V.sl n c 1 xs, V.fn (Fn.func 62) [] []] = some (V.bool (xs.any longV)))
    (c3 : (!xs.any longV) = true)
    (c4 : evalFn Try.prog Try.cfg (k + 10) 65 [V.sl (some true) true 0 [], V.fn (Fn.func 63) [] [V.ptr 0 0, V.ptr 8 0]] [(0, Ob.var [V.sl n c 1 xs, V.sl (some true) true 0 []]), (8, Ob.var [V.fn (Fn.func 62) [] []])] 132 = some (V.bool false, [(0, Ob.var [V.sl n c 1 xs, V.sl (some true) true 0 []]), (8, Ob.var [V.fn (Fn.func 62) [] []])], 160)) :
    callP (evalFn Try.prog Try.cfg (k + 11)) 23 [V.agg [V.sl n c 1 xs, V.sl (some true) true 0 []]] = some (V.bool true) :=
  byP [Hint.br 10 true, Hint.br 16 true, Hint.call 26 (V.bool (xs.any longV)), Hint.br 29 true, Hint.inl 33 (V.bool false) [(0, Ob.var [V.sl n c 1 xs, V.sl (some true) true 0 []]), (8, Ob.var [V.fn (Fn.func 62) [] []])] 160] ((decide (1 ≤ (↑xs.length : Int)) = true) ∧ (decide ((↑xs.length : Int) ≤ 64) = true) ∧ (callP (evalFn Try.prog Try.cfg (k + 10)) 64 [V.sl n c 1 xs, V.fn (Fn.func 62) [] []] = some (V.bool (xs.any longV))) ∧ ((!xs.any longV) = true) ∧ (evalFn Try.prog Try.cfg (k + 10) 65 [V.sl (some true) true 0 [], V.fn (Fn.func 63) [] [V.ptr 0 0, V.ptr 8 0]] [(0, Ob.var [V.sl n c 1 xs, V.sl (some true) true 0 []]), (8, Ob.var [V.fn (Fn.func 62) [] []])] 132 = some (V.bool false, [(0, Ob.var [V.sl n c 1 xs, V.sl (some true) true 0 []]), (8, Ob.var [V.fn (Fn.func 62) [] []])], 160)) ∧ True) (by kernel_rfl) ⟨c0, c1, c2, c3, c4, trivial⟩
theorem p23e_1 (n : Option Bool) (c : Bool) (xs : List V) (k : Nat)
    (c0 : decide (1 ≤ (↑xs.length : Int)) = true)
    (c1 : decide ((↑xs.length : Int) ≤ 64) = true)
    (c2 : callP (evalFn Try.prog Try.cfg (k + 10)) 64 [V.sl n c 1 xs, V.fn (Fn.func 62) [] []] = some (V.bool (xs.any longV)))
    (c3 : (!xs.any longV) = false) :
    callP (evalFn Try.prog Try.cfg (k + 11)) 23 [V.agg [V.sl n c 1 xs, V.sl (some true) true 0 []]] = some (V.bool false) :=
  byP [Hint.br 10 true, Hint.br 16 true, Hint.call 26 (V.bool (xs.any longV)), Hint.br 29 false] ((decide (1 ≤ (↑xs.length : Int)) = true) ∧ (decide ((↑xs.length : Int) ≤ 64) = true) ∧ (callP (evalFn Try.prog Try.cfg (k + 10)) 64 [V.sl n c 1 xs, V.fn (Fn.func 62) [] []] = some (V.bool (xs.any longV))) ∧ ((!xs.any longV) = false) ∧ True) (by kernel_rfl) ⟨c0, c1, c2, c3, trivial⟩
theorem p23e_2 (n : Option Bool) (c : Bool) (xs : List V) (k : Nat)
    (c0 : decide (1 ≤ (↑xs.length : Int)) = true)
    (c1 : decide ((↑xs.length : Int) ≤ 64) = false) :
    callP (evalFn Try.prog Try.cfg (k + 11)) 23 [V.agg [V.sl n c 1 xs, V.sl (some true) true 0 []]] = some (V.bool false) :=
  byP [Hint.br 10 true, Hint.br 16 false] ((decide (1 ≤ (↑xs.length : Int)) = true) ∧ (decide ((↑xs.length : Int) ≤ 64) = false) ∧ True) (by kernel_rfl) ⟨c0, c1, trivial⟩
theorem p23e_3 (n : Option Bool) (c : Bool) (xs : List V) (k : Nat)
    (c0 : decide (1 ≤ (↑xs.length : Int)) = false) :
    callP (evalFn Try.prog Try.cfg (k + 11)) 23 [V.agg [V.sl n c 1 xs, V.sl (some true) true 0 []]] = some (V.bool false) :=
  byP [Hint.br 10 false] ((decide (1 ≤ (↑xs.length : Int)) = false) ∧ True) (by kernel_rfl) ⟨c0, trivial⟩
theorem p59e_3 (n : Option Bool) (c : Bool) (xs : List V) (a : Int) (k : Nat)
    (c0 : callP (evalFn Try.prog Try.cfg k) 23 [V.agg [V.sl n c 1 xs, V.sl (some true) true 0 []]] = some (V.bool (rightV xs [])))
    (c1 : (!rightV xs []) = false)
    (c2 : decide (a < 0) = false)
    (c3 : decide ((↑xs.length : Int) ≤ a) = false) :
    callP (evalFn Try.prog Try.cfg (k + 1)) 59 [V.agg [V.sl n c 1 xs, V.sl (some true) true 0 []], V.int IntKind.i64 a] = some (V.int IntKind.i64 0) :=
  byP [Hint.call 7 (V.bool (rightV xs [])), Hint.br 5 false, Hint.br 12 false, Hint.br 9 false] ((callP (evalFn Try.prog Try.cfg k) 23 [V.agg [V.sl n c 1 xs, V.sl (some true) true 0 []]] = some (V.bool (rightV xs []))) ∧ ((!rightV xs []) = false) ∧ (decide (a < 0) = false) ∧ (decide ((↑xs.length : Int) ≤ a) = false) ∧ True) (by kernel_rfl) ⟨c0, c1, c2, c3, trivial⟩
theorem p16e_1 (n : Option Bool) (c : Bool) (xs : List V) (a : Int) (u : List UInt8) (k : Nat)
    (c0 : callP (evalFn Try.prog Try.cfg (k + 10)) 59 [V.agg [V.sl n c 1 xs, V.sl (some true) true 0 []], V.int IntKind.i64 a] = some (V.int IntKind.i64 (whyV xs [] a)))
    (c1 : (!decide (whyV xs [] a = 0)) = false)
    (c2 : evalFn Try.prog Try.cfg (k + 10) 61 [V.sl (some true) true 0 []] [(0, Ob.var [V.sl n c 1 xs, V.sl (some true) true 0 []]), (4, Ob.var [V.int IntKind.i64 a]), (8, Ob.var [V.str []]), (12, Ob.var [V.int IntKind.i64 0])] 48 = some (V.fn (Fn.func 83) [] [V.ptr 48 0], [(0, Ob.var [V.sl n c 1 xs, V.sl (some true) true 0 []]), (4, Ob.var [V.int IntKind.i64 a]), (8, Ob.var [V.str []]), (12, Ob.var [V.int IntKind.i64 0]), (48, Ob.var [V.sl (some true) true 0 []])], 64))
    (c3 : evalFn Try.prog Try.cfg (k + 10) 83 [V.yld 64, V.ptr 48 0] [(0, Ob.var [V.sl n c 1 xs, V.sl (some true) true 0 []]), (4, Ob.var [V.int IntKind.i64 a]), (8, Ob.var [V.str []]), (12, Ob.var [V.int IntKind.i64 0]), (48, Ob.var [V.sl (some true) true 0 []]), (64, Ob.loop LS.ready (Try.cfg.fc 16) (rangeCode Try.f16 0) [(0, V.agg [V.sl n c 1 xs, V.sl (some true) true 0 []]), (1, V.int IntKind.i64 a), (2, V.ptr 0 0), (3, V.ptr 4 0), (4, V.ptr 8 0), (5, V.ptr 12 0), (6, V.int IntKind.i64 (whyV xs [] a)), (13, V.bool false), (17, V.fn (Fn.func 83) [] [V.ptr 48 0])])] 65 = some (V.tup [], [(0, Ob.var [V.sl n c 1 xs, V.sl (some true) true 0 []]), (4, Ob.var [V.int IntKind.i64 a]), (8, Ob.var [V.str []]), (12, Ob.var [V.int IntKind.i64 0]), (48, Ob.var [V.sl (some true) true 0 []]), (64, Ob.loop LS.ready (Try.cfg.fc 16) (rangeCode Try.f16 0) [(0, V.agg [V.sl n c 1 xs, V.sl (some true) true 0 []]), (1, V.int IntKind.i64 a), (2, V.ptr 0 0), (3, V.ptr 4 0), (4, V.ptr 8 0), (5, V.ptr 12 0), (6, V.int IntKind.i64 (whyV xs [] a)), (13, V.bool false), (17, V.fn (Fn.func 83) [] [V.ptr 48 0])])], 73))
    (c4 : IdxP xs a 1 1 (V.str u)) :
    callP (evalFn Try.prog Try.cfg (k + 11)) 16 [V.agg [V.sl n c 1 xs, V.sl (some true) true 0 []], V.int IntKind.i64 a] = some (V.tup [V.str u, V.int IntKind.i64 0]) :=
  byP [Hint.call 11 (V.int IntKind.i64 (whyV xs [] a)), Hint.br 13 false, Hint.inl 17 (V.fn (Fn.func 83) [] [V.ptr 48 0]) [(0, Ob.var [V.sl n c 1 xs, V.sl (some true) true 0 []]), (4, Ob.var [V.int IntKind.i64 a]), (8, Ob.var [V.str []]), (12, Ob.var [V.int IntKind.i64 0]), (48, Ob.var [V.sl (some true) true 0 []])] 64, Hint.range (V.tup []) [(0, Ob.var [V.sl n c 1 xs, V.sl (some true) true 0 []]), (4, Ob.var [V.int IntKind.i64 a]), (8, Ob.var [V.str []]), (12, Ob.var [V.int IntKind.i64 0]), (48, Ob.var [V.sl (some true) true 0 []]), (64, Ob.loop LS.ready (Try.cfg.fc 16) (rangeCode Try.f16 0) [(0, V.agg [V.sl n c 1 xs, V.sl (some true) true 0 []]), (1, V.int IntKind.i64 a), (2, V.ptr 0 0), (3, V.ptr 4 0), (4, V.ptr 8 0), (5, V.ptr 12 0), (6, V.int IntKind.i64 (whyV xs [] a)), (13, V.bool false), (17, V.fn (Fn.func 83) [] [V.ptr 48 0])])] 73, Hint.op 29 ((V.str u).cpt 0) []] ((callP (evalFn Try.prog Try.cfg (k + 10)) 59 [V.agg [V.sl n c 1 xs, V.sl (some true) true 0 []], V.int IntKind.i64 a] = some (V.int IntKind.i64 (whyV xs [] a))) ∧ ((!decide (whyV xs [] a = 0)) = false) ∧ (evalFn Try.prog Try.cfg (k + 10) 61 [V.sl (some true) true 0 []] [(0, Ob.var [V.sl n c 1 xs, V.sl (some true) true 0 []]), (4, Ob.var [V.int IntKind.i64 a]), (8, Ob.var [V.str []]), (12, Ob.var [V.int IntKind.i64 0])] 48 = some (V.fn (Fn.func 83) [] [V.ptr 48 0], [(0, Ob.var [V.sl n c 1 xs, V.sl (some true) true 0 []]), (4, Ob.var [V.int IntKind.i64 a]), (8, Ob.var [V.str []]), (12, Ob.var [V.int IntKind.i64 0]), (48, Ob.var [V.sl (some true) true 0 []])], 64)) ∧ (evalFn Try.prog Try.cfg (k + 10) 83 [V.yld 64, V.ptr 48 0] [(0, Ob.var [V.sl n c 1 xs, V.sl (some true) true 0 []]), (4, Ob.var [V.int IntKind.i64 a]), (8, Ob.var [V.str []]), (12, Ob.var [V.int IntKind.i64 0]), (48, Ob.var [V.sl (some true) true 0 []]), (64, Ob.loop LS.ready (Try.cfg.fc 16) (rangeCode Try.f16 0) [(0, V.agg [V.sl n c 1 xs, V.sl (some true) true 0 []]), (1, V.int IntKind.i64 a), (2, V.ptr 0 0), (3, V.ptr 4 0), (4, V.ptr 8 0), (5, V.ptr 12 0), (6, V.int IntKind.i64 (whyV xs [] a)), (13, V.bool false), (17, V.fn (Fn.func 83) [] [V.ptr 48 0])])] 65 = some (V.tup [], [(0, Ob.var [V.sl n c 1 xs, V.sl (some true) true 0 []]), (4, Ob.var [V.int IntKind.i64 a]), (8, Ob.var [V.str []]), (12, Ob.var [V.int IntKind.i64 0]), (48, Ob.var [V.sl (some true) true 0 []]), (64, Ob.loop LS.ready (Try.cfg.fc 16) (rangeCode Try.f16 0) [(0, V.agg [V.sl n c 1 xs, V.sl (some true) true 0 []]), (1, V.int IntKind.i64 a), (2, V.ptr 0 0), (3, V.ptr 4 0), (4, V.ptr 8 0), (5, V.ptr 12 0), (6, V.int IntKind.i64 (whyV xs [] a)), (13, V.bool false), (17, V.fn (Fn.func 83) [] [V.ptr 48 0])])], 73)) ∧ (IdxP xs a 1 1 (V.str u)) ∧ True) (by kernel_rfl) ⟨c0, c1, c2, c3, c4, trivial⟩

theorem ts41r : tsize Try.prog 41 = 1 := by kernel_rfl
theorem ta41r : tagg Try.prog 41 = some false := by kernel_rfl
theorem VArgs_four {P : Program} {k : Nat} {a b c d : TypeId} {xs : List V} (h : VArgs P k [a, b, c, d] xs) : ∃ x y z w, xs = [x, y, z, w] ∧ VArg P k a x ∧ VArg P k b y ∧ VArg P k c z ∧ VArg P k d w := by
  match xs, h with
  | [x, y, z, w], ⟨hx, hy, hz, hw, _⟩ => exact ⟨x, y, z, w, rfl, hx, hy, hz, hw⟩
theorem open41r {k : Nat} {v : V} (h : VArg Try.prog (k + 1) 41 v) : ∃ a, v = V.int .u64 a ∧ 0 ≤ a ∧ a < 18446744073709551616 := by
  unfold VArg at h
  obtain ⟨vs, hv, h⟩ := h
  simp only [VT, Try.underlying41] at h
  obtain ⟨n, h1, hw⟩ := h
  exact ⟨n, hv.trans (by rw [h1]; simp only [Sym.mk, ta41r, List.headD_cons]), wf_u64 hw⟩
theorem open25r {k : Nat} {v : V} (h : VArg Try.prog (k + 4) 25 v) : ∃ n c xs m d ys, v = V.agg [V.sl (some n) c 1 xs, V.sl m d 2 ys] ∧ (n = true → xs = []) ∧ (∀ x ∈ xs, isStr x) ∧ ∀ y ∈ ys, isPut y := by
  unfold VArg at h
  obtain ⟨vs, hv, h⟩ := h
  simp only [VT, Try.underlying25, VTs, Try.underlying22, Try.underlying23, Try.underlying9, Try.underlying47, Try.underlying3, ts22, ts23, ts3, ts9, ts47] at h
  obtain ⟨⟨n, xs, h1, hn, _, hx⟩, ⟨m, ys, h2, _, _, hy⟩, h3⟩ := h
  have e1 := take_one h1
  have e2 := take_one h2
  rw [h3] at e2
  rw [e2] at e1
  refine ⟨n, n, xs, some m, m, ys, hv.trans (by simp only [Sym.mk, ta25, e1]), hn, fun x hm => ?_, fun y hm => ?_⟩
  · obtain ⟨zs, hz, s, h4, _⟩ := hx x hm
    exact ⟨s, hz.trans (by rw [h4]; simp only [Sym.mk, ta9, List.headD_cons])⟩
  · obtain ⟨zs, hz, ⟨a, g1, _⟩, ⟨s, g2, _⟩, g3⟩ := hy y hm
    have f1 := take_one g1
    have f2 := take_one g2
    rw [g3] at f2
    rw [f2] at f1
    exact ⟨a, s, hz.trans (by simp only [Sym.mk, ta47, f1])⟩

theorem r27 {m : Option Bool} {c d : Bool} {xs ys : List V} (hx : ∀ x ∈ xs, isStr x) (hy : ∀ y ∈ ys, isPut y) (hbx : xs.length ≤ 1000) (hby : ys.length ≤ 1000) {keep : Int} (k0 : 0 ≤ keep) (k1 : keep < 18446744073709551616) (h : rightV xs ys = true) {K : Nat} (hK : 1006 ≤ K) :
    callP (evalFn Try.prog Try.cfg K) 27 [V.agg [V.sl (some false) c 1 xs, V.sl m d 2 ys], V.int IntKind.u64 keep] = some (V.tup [V.agg [V.sl none false 1 (crashV keep 0 ys xs), V.sl (some true) true 0 []], V.int IntKind.i64 0]) := by
  obtain ⟨k, rfl⟩ : ∃ k, K = k + 1006 := ⟨K - 1006, by omega⟩
  exact h27 hx hy hbx hby k0 k1 h k

/-! ### What stays -/
theorem crash_str' {keep : Int} {ys xs : List V} (hx : ∀ x ∈ xs, isStr x) (hy : ∀ y ∈ ys, putIn xs.length y) : (∀ x ∈ crashV keep 0 ys xs, isStr x) ∧ (crashV keep 0 ys xs).length = xs.length := by
  rw [crash_eq ys 0 xs hx hy]
  refine ⟨fun x h => ?_, by simp⟩
  obtain ⟨j, _, rfl⟩ := List.mem_map.1 h
  exact ⟨_, rfl⟩
theorem crash_none : ∀ (ys : List V) (i : Nat) (s : List V), crashV 0 i ys s = s := by
  intro ys
  induction ys with
  | nil => intro i s; rfl
  | cons y r ih =>
    intro i s
    have : bitV 0 i = false := by unfold bitV; rw [Int.zero_ediv]; rfl
    simp only [crashV, this, cond_false]
    exact ih (i + 1) s
theorem kept_all : ∀ (l : List V) (m : Nat), l.length ≤ m → keptV (2 ^ m - 1) l = l := by
  intro l
  induction l with
  | nil => intro m _; rfl
  | cons y r ih =>
    intro m h
    obtain ⟨m, rfl⟩ : ∃ n, m = n + 1 := ⟨m - 1, by simp at h; omega⟩
    have e1 : ((2 : Int) ^ (m + 1) - 1) % 2 = 1 := by rw [Int.pow_succ]; omega
    have e2 : ((2 : Int) ^ (m + 1) - 1) / 2 = 2 ^ m - 1 := by rw [Int.pow_succ]; omega
    simp only [keptV]
    rw [decide_eq_true e1, cond_true, e2, ih m (by simp at h; omega)]
theorem kept_sub : ∀ (l : List V) (q : Int), ∀ y ∈ keptV q l, y ∈ l := by
  intro l
  induction l with
  | nil => intro q y h; cases h
  | cons z r ih =>
    intro q y h
    simp only [keptV] at h
    cases hd : decide (q % 2 = 1)
    · rw [hd, cond_false] at h; exact List.mem_cons_of_mem _ (ih _ y h)
    · rw [hd, cond_true] at h
      rcases List.mem_cons.1 h with rfl | h
      · exact List.mem_cons_self ..
      · exact List.mem_cons_of_mem _ (ih _ y h)
theorem last_hit {a : Int} {u : List UInt8} : ∀ (l : List V), lastP a l = some u → ∃ y ∈ l, hitV u a y = true := by
  intro l
  induction l with
  | nil => intro h; cases h
  | cons x r ih =>
    intro h
    simp only [lastP] at h
    cases hl : lastP a r with
    | some w =>
      rw [hl] at h
      obtain rfl : w = u := by simpa using h
      obtain ⟨y, hy, hh⟩ := ih hl
      exact ⟨y, List.mem_cons_of_mem _ hy, hh⟩
    | none =>
      rw [hl] at h
      simp only at h
      split at h
      · rename_i k b t
        split at h
        · rename_i hb
          obtain rfl : t = u := by simpa using h
          exact ⟨_, List.mem_cons_self .., by simp [hitV, hb]⟩
        · cases h
      · cases h
theorem crash_at {keep : Int} {ys xs : List V} (hx : ∀ x ∈ xs, isStr x) (hy : ∀ y ∈ ys, putIn xs.length y) {i : Nat} (hi : i < xs.length) : at? (crashV keep 0 ys xs) i = some (V.str (readR xs (keptV keep ys) i)) := by
  rw [crash_eq ys 0 xs hx hy, at_nat, List.getElem?_map, List.getElem?_range' (by omega)]
  simp

/-! ### The loops -/
theorem l6i_run {m : Option Bool} {c d : Bool} {xs ys : List V} {a : Int} {t : List UInt8} {keep : Int} {zs bs cs ns xq yq : List V} {i : Int} {r1 r2 r3 : List UInt8} {s : Bool} {w : List UInt8} (hw : at? cs i = some (V.str w)) (hz : ∀ y ∈ zs, isPut y) (hb : zs.length ≤ 900) : ∀ (r j f : Nat) (v : Bool), zs.length - j = r → j ≤ zs.length → r < f →
    l6i m c d xs ys a t keep zs bs cs ns xq yq i r1 r2 r3 s f v j = some (.e3 (v || (zs.drop j).any (hitV w i)) zs.length) := by
  intro r
  induction r with
  | zero =>
    intro j f v hr hi hf
    obtain ⟨f, rfl⟩ : ∃ g, f = g + 1 := ⟨f - 1, by omega⟩
    obtain rfl : j = zs.length := by omega
    rw [l6i, decide_eq_false (by omega), cond_false, List.drop_length, List.any_nil, Bool.or_false]
  | succ r ih =>
    intro j f v hr hi hf
    obtain ⟨f, rfl⟩ : ∃ g, f = g + 1 := ⟨f - 1, by omega⟩
    have hi1 : j < zs.length := by omega
    obtain ⟨b, u, ht⟩ := hz zs[j] (List.getElem_mem hi1)
    rw [l6i, decide_eq_true (by omega), cond_true, at_get hi1 ht, List.drop_eq_getElem_cons hi1, ht, List.any_cons]
    simp only [hitV]
    rw [wrap_succ (by omega)]
    cases v
    · rw [cond_false]
      by_cases h : b = i
      · rw [decide_eq_true h, cond_true, hw]
        simp only
        rw [ih (j + 1) f _ (by omega) (by omega) (by omega), Bool.true_and, Bool.false_or]
      · rw [decide_eq_false h, cond_false, ih (j + 1) f _ (by omega) (by omega) (by omega), Bool.false_and, Bool.false_or, Bool.false_or]
    · rw [cond_true, ih (j + 1) f _ (by omega) (by omega) (by omega), Bool.true_or, Bool.true_or]

theorem l6_run {m : Option Bool} {c d : Bool} {xs ys : List V} {a : Int} {t : List UInt8} {keep : Int} {zs bs cs ns xq yq : List V} (hx : ∀ x ∈ xs, isStr x) (hc : ∀ x ∈ cs, isStr x) (hb : xs.length ≤ 900) (lb : bs.length = xs.length) (lc : cs.length = xs.length)
    (e1 : ∀ i : Nat, i < xs.length → readR xs zs i = readR bs [] i) (e2 : ∀ i : Nat, i < xs.length → (i : Int) = a → readR xs zs i = t) (e3 : ∀ i : Nat, i < xs.length → ¬ (i : Int) = a → readR xs zs i = readR xs ys i)
    (e4 : ∀ (i : Nat) (u w : List UInt8), i < xs.length → at? cs i = some (V.str u) → at? xs i = some (V.str w) → anyV cs zs i (decide (u = w)) = true) : ∀ (r i f : Nat), xs.length - i = r → i ≤ xs.length → r < f →
    l6 m c d xs ys a t keep zs bs cs ns xq yq f i = some (.e9 xs.length) := by
  intro r
  induction r with
  | zero =>
    intro i f hr hi hf
    obtain ⟨f, rfl⟩ : ∃ g, f = g + 1 := ⟨f - 1, by omega⟩
    obtain rfl : i = xs.length := by omega
    rw [l6, decide_eq_false (by omega), cond_false]
  | succ r ih =>
    intro i f hr hi hf
    obtain ⟨f, rfl⟩ : ∃ g, f = g + 1 := ⟨f - 1, by omega⟩
    have hi1 : i < xs.length := by omega
    obtain ⟨w, hw⟩ := at_str (a := (i : Int)) hx (by omega) (by omega)
    obtain ⟨u, hu⟩ := at_str (a := (i : Int)) hc (by omega) (by omega)
    have n1 : (!decide (readR xs zs i = readR bs [] i)) = false := by rw [decide_eq_true (e1 i hi1)]; rfl
    have n4 : (!anyV cs zs i (decide (u = w))) = false := by rw [e4 i u w hi1 hu hw]; rfl
    rw [l6, decide_eq_true (by omega), cond_true, decide_eq_true (by omega), cond_true, decide_eq_true (by omega), cond_true, n1, cond_false, hu, hw]
    simp only
    rw [n4, cond_false, wrap_succ (by omega)]
    by_cases h : (i : Int) = a
    · rw [decide_eq_true h, cond_true, decide_eq_true (e2 i hi1 h), Bool.not_true, cond_false]
      exact ih (i + 1) f (by omega) (by omega) (by omega)
    · rw [decide_eq_false h, cond_false, decide_eq_true (e3 i hi1 h), Bool.not_true, cond_false]
      exact ih (i + 1) f (by omega) (by omega) (by omega)

theorem right_snoc {xs ys : List V} {a : Int} {t : List UInt8} (h : rightV xs ys = true) (h0 : 0 ≤ a) (h1 : a < xs.length) (ht : ¬ 128 < (↑t.length : Int)) (hn : ¬ (↑ys.length : Int) = 60) : rightV xs (ys ++ [putV a t]) = true := by
  unfold rightV at h ⊢
  simp only [Bool.and_eq_true, decide_eq_true_eq, Bool.not_eq_true', List.any_append, List.any_cons, List.any_nil, Bool.or_false, Bool.or_eq_false_iff, List.length_append, List.length_cons, List.length_nil] at h ⊢
  obtain ⟨g1, g2, g3, g4, g5⟩ := h
  refine ⟨g1, g2, by omega, g4, g5, ?_⟩
  simp only [putV, oddV]
  rw [decide_eq_false (by omega), decide_eq_false (by omega), decide_eq_false ht]
  rfl

theorem right_crash {keep : Int} {xs ys : List V} (hx : ∀ x ∈ xs, isStr x) (hy : ∀ y ∈ ys, putIn xs.length y) (h : rightV xs ys = true) : rightV (crashV keep 0 ys xs) [] = true := by
  unfold rightV at h ⊢
  simp only [Bool.and_eq_true, decide_eq_true_eq, Bool.not_eq_true', List.any_eq_false, List.length_nil, List.any_nil] at h ⊢
  obtain ⟨g1, g2, g3, g4, g5⟩ := h
  rw [crash_eq ys 0 xs hx hy]
  refine ⟨by simpa using g1, by simpa using g2, by omega, fun x hm => ?_, trivial⟩
  obtain ⟨j, hj, rfl⟩ := List.mem_map.1 hm
  have hj' : j < xs.length := by simpa using hj
  obtain ⟨u, hu⟩ := hx xs[j] (List.getElem_mem hj')
  unfold readR
  cases hl : lastP (↑j : Int) (keptV (keep / 2 ^ 0) ys) with
  | none =>
    rw [at_get hj' hu]
    have := g4 _ (List.getElem_mem hj')
    rw [hu] at this
    exact this
  | some v =>
    obtain ⟨y, hy1, hh⟩ := last_hit _ hl
    have hy2 := kept_sub _ _ y hy1
    obtain ⟨b, t, rfl, _⟩ := hy y hy2
    have := g5 _ hy2
    simp only [hitV, Bool.and_eq_true, decide_eq_true_eq] at hh
    simp only [oddV, Bool.or_eq_true, decide_eq_true_eq, not_or] at this
    show ¬ longV (V.str v) = true
    simp only [longV, decide_eq_true_eq]
    rw [← hh.2]
    exact this.2.2

theorem h23e {n : Option Bool} {c : Bool} {xs : List V} (hx : ∀ x ∈ xs, isStr x) (hbx : xs.length ≤ 1000) (k : Nat) :
    callP (evalFn Try.prog Try.cfg (k + 993 + 11)) 23 [V.agg [V.sl n c 1 xs, V.sl (some true) true 0 []]] = some (V.bool (rightV xs [])) := by
  unfold rightV
  have h64' := h64 (n := n) (c := c) hx hbx k
  cases h1 : decide (1 ≤ (↑xs.length : Int))
  · exact p23e_3 n c xs (k + 993) h1
  cases h2 : decide ((↑xs.length : Int) ≤ 64)
  · exact p23e_2 n c xs (k + 993) h1 h2
  cases h4 : xs.any longV
  · exact p23e_0 n c xs (k + 993) h1 h2 h64' (by rw [h4]; rfl) (by kernel_rfl)
  · exact p23e_1 n c xs (k + 993) h1 h2 h64' (by rw [h4]; rfl)
theorem g16s {n : Option Bool} {c : Bool} {xs : List V} (hx : ∀ x ∈ xs, isStr x) (hbx : xs.length ≤ 1000) {a : Int} (h : whyV xs [] a = 0) {K : Nat} (hK : 1100 ≤ K) :
    callP (evalFn Try.prog Try.cfg K) 16 [V.agg [V.sl n c 1 xs, V.sl (some true) true 0 []], V.int IntKind.i64 a] = some (V.tup [V.str (readR xs [] a), V.int IntKind.i64 0]) := by
  obtain ⟨k, rfl⟩ : ∃ k, K = k + 995 + 11 := ⟨K - 1006, by omega⟩
  obtain ⟨h0, h1⟩ := why_zero h
  obtain ⟨u, hu⟩ := at_str hx h0 h1
  have hr : rightV xs [] = true := by
    cases hr : rightV xs [] with
    | true => rfl
    | false => unfold whyV at h; rw [hr] at h; exact absurd h (show ¬ (1 : Int) = 0 by decide)
  have e : readR xs [] a = u := by unfold readR; rw [hu]; rfl
  have c0 : callP (evalFn Try.prog Try.cfg (k + 995 + 10)) 59 [V.agg [V.sl n c 1 xs, V.sl (some true) true 0 []], V.int IntKind.i64 a] = some (V.int IntKind.i64 (whyV xs [] a)) := by
    rw [h]
    exact p59e_3 n c xs a (k + 995 + 9) (h23e hx hbx k) (by rw [hr]; rfl) (decide_eq_false (by omega)) (decide_eq_false (by omega))
  rw [e]
  exact p16e_1 n c xs a u (k + 995) c0 (by rw [decide_eq_true h]; rfl) (by kernel_rfl) (by kernel_rfl) (IdxP.of_at hu)

theorem law_deviceReads {n : Bool} {m : Option Bool} {c d : Bool} {xs ys : List V} (hn : n = true → xs = []) (hx : ∀ x ∈ xs, isStr x) (hy : ∀ x ∈ ys, isPut x) {a : Int} {t : List UInt8} {keep : Int} (k0 : 0 ≤ keep) (k1 : keep < 18446744073709551616) (k : Nat) (hk : 2100 ≤ k) :
    callP (evalFn Try.prog Try.cfg (k + 1 + 1)) 6 [V.agg [V.sl (some n) c 1 xs, V.sl m d 2 ys], V.int IntKind.i64 a, V.str t, V.int IntKind.u64 keep] = some (V.bool true) := by
  have tx : ∀ x ∈ xs.take 70, isStr x := fun x h => hx x (List.mem_of_mem_take h)
  have ty : ∀ x ∈ ys.take 65, isPut x := fun x h => hy x (List.mem_of_mem_take h)
  have lx : (xs.take 70).length ≤ 900 := by simp; omega
  have ly : (ys.take 65).length ≤ 800 := by simp; omega
  have a1 := h14 (some n) m c d xs ys k
  have al := g18 (show 100 ≤ k + 1 by omega)
  generalize hX : xs.take 70 = X at *
  generalize hY : ys.take 65 = Y at *
  by_cases hw : whyV X Y a = 0
  case neg =>
    have := p6n_0 (some n) m c d xs ys a t keep (k + 1)
    rw [hX, hY] at this
    exact this a1 (g15a tx ty (by omega) (by omega) t hw (by omega)) (by rw [decide_eq_false hw]; rfl) al
  by_cases ht : 128 < (↑t.length : Int)
  · have := p6n_1 (some n) m c d xs ys a t keep (k + 1)
    rw [hX, hY] at this
    exact this a1 (g15b tx ty (by omega) (by omega) hw ht (by omega)) al
  by_cases h6 : (↑Y.length : Int) = 60
  · have := p6n_2 (some n) m c d xs ys a t keep (k + 1)
    rw [hX, hY] at this
    exact this a1 (g15c tx ty (by omega) (by omega) hw ht h6 (by omega)) al
  have hr : rightV X Y = true := by
    cases hr : rightV X Y with
    | true => rfl
    | false => unfold whyV at hw; rw [hr] at hw; exact absurd hw (show ¬ (1 : Int) = 0 by decide)
  obtain ⟨h0, h1⟩ := why_zero hw
  have hrz := right_snoc (t := t) hr h0 h1 ht h6
  have tz : ∀ y ∈ Y ++ [putV a t], isPut y := by
    intro y h
    rcases List.mem_append.1 h with h | h
    · exact ty y h
    · obtain rfl : y = putV a t := by simpa using h
      exact ⟨a, t, rfl⟩
  obtain ⟨hp, hx1, _⟩ := right_put tz hrz
  obtain ⟨_, _, hy6⟩ := right_put ty hr
  have lz : (Y ++ [putV a t]).length ≤ 900 := by simp; omega
  have lz60 : (Y ++ [putV a t]).length ≤ 60 := by simp; omega
  obtain rfl : n = false := by
    cases n with
    | false => rfl
    | true => rw [hn rfl] at hX; rw [← hX] at hx1; simp at hx1
  obtain ⟨q1, q2⟩ := crash_str' (keep := 1152921504606846975) tx hp
  obtain ⟨q3, q4⟩ := crash_str' (keep := keep) tx hp
  have q5 := crash_none (Y ++ [putV a t]) 0 X
  have w15 := g15d (n := some false) (m := m) (c := false) (d := false) tx ty (by omega) (by omega) hw ht h6 (show 1007 ≤ k + 1 by omega)
  have cb := r27 (m := none) (c := false) (d := false) tx tz (by omega) (by omega) (keep := 1152921504606846975) (by decide) (by decide) hrz (show 1006 ≤ k by omega)
  have cc := r27 (m := none) (c := false) (d := false) tx tz (by omega) (by omega) k0 k1 hrz (show 1006 ≤ k + 1 by omega)
  have cn := r27 (m := none) (c := false) (d := false) tx tz (by omega) (by omega) (keep := 0) (by decide) (by decide) hrz (show 1006 ≤ k + 1 by omega)
  have key := p6_5 m c d xs ys a t keep X.length (k + 1)
  rw [hX, hY] at key
  have e0 : (eqL (crashV 0 0 (Y ++ [putV a t]) X) X && eqL [] []) = true := by rw [q5, eqL_refl fun x h => .inl (tx x h)]; rfl
  have c19 := g19n (n := none) (nb := some false) (c := false) (cb := false) tx (by omega) (show 1003 ≤ k + 1 by omega)
  have all : ∀ i : Nat, i < X.length → readR X (Y ++ [putV a t]) i = readR (crashV 1152921504606846975 0 (Y ++ [putV a t]) X) [] i := by
    intro i hi
    have := crash_at (keep := 1152921504606846975) tx hp hi
    rw [show (1152921504606846975 : Int) = 2 ^ 60 - 1 by decide, kept_all _ 60 lz60] at this
    rw [show (1152921504606846975 : Int) = 2 ^ 60 - 1 by decide]
    conv => rhs; unfold readR
    rw [this]
    rfl
  have hl := l6_run (m := m) (c := c) (d := d) (xs := X) (ys := Y) (a := a) (t := t) (keep := keep) (zs := Y ++ [putV a t]) (bs := crashV 1152921504606846975 0 (Y ++ [putV a t]) X) (cs := crashV keep 0 (Y ++ [putV a t]) X) (ns := crashV 0 0 (Y ++ [putV a t]) X) (xq := xs) (yq := ys)
    tx q3 lx q2 q4 all
    (fun i hi ha => by unfold readR putV; rw [lastP_snoc, if_pos ha.symm]; rfl)
    (fun i hi ha => by unfold readR putV; rw [lastP_snoc, if_neg fun h => ha h.symm])
    (fun i u w hi hu hw => by
      have := crash_at (keep := keep) tx hp hi
      have eu : u = readR X (keptV keep (Y ++ [putV a t])) i := by
        rw [this] at hu
        simpa using hu.symm
      unfold anyV
      cases hl : lastP (↑i : Int) (keptV keep (Y ++ [putV a t])) with
      | none =>
        have : u = w := by
          rw [eu]; unfold readR; rw [hl, hw]; rfl
        rw [decide_eq_true this, Bool.true_or]
      | some v =>
        have e : u = v := by rw [eu]; unfold readR; rw [hl]; rfl
        obtain ⟨y, hy, hh⟩ := last_hit _ hl
        have ea : atS (crashV keep 0 (Y ++ [putV a t]) X) i = v := by unfold atS; rw [hu]; exact e
        rw [ea]
        have : (Y ++ [putV a t]).any (hitV v i) = true := List.any_eq_true.2 ⟨y, kept_sub _ _ y hy, hh⟩
        rw [this, Bool.or_true])
    X.length 0 (k + 1) (by omega) (by omega) (by omega)
  have hlo := l6_ok m c d X Y a t keep (Y ++ [putV a t]) (crashV 1152921504606846975 0 (Y ++ [putV a t]) X) (crashV keep 0 (Y ++ [putV a t]) X) (crashV 0 0 (Y ++ [putV a t]) X) xs ys (k + 1)
    (fun v hv => ?_) (fun v hv => ?_) (fun v hv => ?_) (fun v u w hv => ?_) (k + 1) 0 _ hl
  · exact key a1 w15 (p26_1 (some false) none false false X (Y ++ [putV a t]) k cb) cc cn (by rw [q4]; simp) (by rw [q5] at e0 ⊢; rw [e0]; exact c19) (by rw [e0]; rfl) al hlo
  all_goals have hv := of_decide_eq_true hv
  · have hz : whyV X Y v = 0 := by unfold whyV; rw [hr, decide_eq_false (by omega), decide_eq_false (by omega)]; rfl
    exact g16 tx ty (by omega) (by omega) hz (by omega)
  · have hz : whyV X (Y ++ [putV a t]) v = 0 := by unfold whyV; rw [hrz, decide_eq_false (by omega), decide_eq_false (by omega)]; rfl
    exact g16 tx tz (by omega) (by omega) hz (by omega)
  · have hrb : rightV (crashV 1152921504606846975 0 (Y ++ [putV a t]) X) [] = true := right_crash tx hp hrz
    have hz : whyV (crashV 1152921504606846975 0 (Y ++ [putV a t]) X) [] v = 0 := by unfold whyV; rw [hrb, decide_eq_false (by omega), decide_eq_false (by omega)]; rfl
    exact g16s q1 (by omega) hz (by omega)
  · obtain ⟨w', hw'⟩ := at_str q3 hv.1 (by omega)
    have hi := l6i_run (m := m) (c := c) (d := d) (xs := X) (ys := Y) (a := a) (t := t) (keep := keep) (bs := crashV 1152921504606846975 0 (Y ++ [putV a t]) X) (ns := crashV 0 0 (Y ++ [putV a t]) X) (xq := xs) (yq := ys) (r1 := readR X Y v) (r2 := readR X (Y ++ [putV a t]) v) (r3 := readR (crashV 1152921504606846975 0 (Y ++ [putV a t]) X) [] v) (s := decide (u = w)) hw' tz lz (Y ++ [putV a t]).length 0 (k + 1) (decide (u = w)) (by omega) (by omega) (by omega)
    have ho := l6i_ok m c d X Y a t keep _ _ _ _ xs ys v _ _ _ (decide (u = w)) (k + 1) (k + 1) (decide (u = w)) 0 _ hi
    have ew : atS (crashV keep 0 (Y ++ [putV a t]) X) v = w' := by unfold atS; rw [hw']
    unfold anyV
    rw [ew]
    exact ho
end Go.Proofs
namespace Go.Proofs.Ytpnpneffbkdomaa
open Go.Sym
theorem deviceReads_lifted (os : Os) (started : os.Started) (H : Type) (enc : TypeId × Value → H) :
    ReturnsInHanded {} Try.checked os 6 .any (Rows.deviceReadsSpec.pre6 enc Try.prog Try.f6 Rows.deviceReadsRow.domain false) (Rows.deviceReadsSpec.post enc Try.prog Try.f6 false true false false) := by
  refine returnsInHanded_of_change (C := Try.checked) Try.own started (by kernel_rfl) Try.func6
    (ChangeSpec.witness6 (enc := enc) (C := Try.checked) false ⟨#[], #[.agg #[.slice none 0 0, .slice none 0 0], .int .i64 0, .string ByteArray.empty, .int .u64 0], []⟩ 8 (by kernel_rfl) (by kernel_rfl) (by kernel_rfl) (by kernel_rfl)) ?_
  intro W base args ds gs before hval hW hcnd _
  refine law_end (P := Try.prog) (C := Try.cfg) (k := 4) (tb := 4) Try.mixed Try.progOk Try.laidOut (by kernel_rfl) rfl rfl Try.underlying4 ?_ ?_ (fun j t v h1 h2 => ⟨base, hval j t v h1 h2⟩) hW
  · intro ds hds
    match ds, hds with
    | [d, e, f, g], _ => exact ⟨rfl, rfl, rfl⟩
  · intro xs hxs
    obtain ⟨x, y, z, w, rfl, hx, hy, hz, hw⟩ := VArgs_four (P := Try.prog) (k := 4) (a := 25) (b := 3) (c := 9) (d := 41) hxs
    obtain ⟨n, c, xs, m, d, ys, rfl, hn, h1, h2⟩ := open25r hx
    obtain ⟨a, rfl, _⟩ := open3 hy
    obtain ⟨t, rfl⟩ := open9 hz
    obtain ⟨keep, rfl, k0, k1⟩ := open41r hw
    exact ⟨2100 + 1 + 1, law_deviceReads hn h1 h2 k0 k1 2100 (Nat.le_refl _)⟩

theorem deviceReads_holds : Rows.DeviceReadsSaid :=
  OpenClaim.holds_of_wide 6 Try.f6 rfl rfl rfl rfl rfl rfl rfl ⟨rfl, rfl, rfl, rfl, rfl⟩ rfl rfl rfl rfl rfl (by kernel_rfl) Try.func6 (by kernel_rfl)
    (of_decide_eq_true (by kernel_rfl)) (by unfold Func.isWrapper; first | (rw [if_pos (by decide +kernel)]; kernel_rfl) | (rw [if_neg (by decide +kernel)]; exact ⟨rfl, rfl⟩))
    (fun os started H enc _ => deviceReads_lifted os started H enc)
end Go.Proofs.Ytpnpneffbkdomaa
