/-
  What the law GhashField answers, checked against the program.
-/
import Derived.Test.YtegmincienhapaaGhB
set_option linter.unusedVariables false
set_option maxHeartbeats 0
set_option maxRecDepth 100000
namespace Go.Proofs
open Go Go.Sym

theorem P6_0 (i0 : Int) (b0 : Bool) (s0 : List UInt8) (s1 : List UInt8) (s2 : List UInt8) (s3 : List UInt8) (k : Nat)
    (c0 : (!decide ((↑s0.length : Int) = 16)) = true)
    (c1 : SlcP false 0 (V.str s0) none (some (V.int IntKind.i64 (if 15 < (↑s0.length : Int) then 15 else (↑s0.length : Int)))) none (V.str (List.take (if 15 < (↑s0.length : Int) then 15 else (↑s0.length : Int)).toNat s0)))
    (c2 : callP (evalFn Try.prog Try.cfg (k + 23)) 23 [V.str (List.take (if 15 < (↑s0.length : Int) then 15 else (↑s0.length : Int)).toNat s0), V.str s1] = some (V.tup [V.str s3, V.int IntKind.i64 i0]))
    (c3 : callP (evalFn Try.prog Try.cfg (k + 23)) 24 [] = some (V.bool b0))
    (c4 : b0 = true) :
    callP (evalFn Try.prog Try.cfg (k + 24)) 6 [V.str s0, V.str s1, V.str s2] = some (V.bool (decide (i0 = 4))) :=
  byF (k := k) (d := 24) [Hn.br 29 true, Hn.op 44 (V.str (List.take (if 15 < (↑s0.length : Int) then 15 else (↑s0.length : Int)).toNat s0)) [], Hn.call 46 (V.tup [V.str s3, V.int IntKind.i64 i0]), Hn.call 49 (V.bool b0), Hn.br 50 true] (And.intro c0 (And.intro c1 (And.intro c2 (And.intro c3 (And.intro c4 trivial))))) (by kernel_rfl)
theorem P6_1 (i0 : Int) (b0 : Bool) (s0 : List UInt8) (s1 : List UInt8) (s2 : List UInt8) (s3 : List UInt8) (k : Nat)
    (c0 : (!decide ((↑s0.length : Int) = 16)) = true)
    (c1 : SlcP false 0 (V.str s0) none (some (V.int IntKind.i64 (if 15 < (↑s0.length : Int) then 15 else (↑s0.length : Int)))) none (V.str (List.take (if 15 < (↑s0.length : Int) then 15 else (↑s0.length : Int)).toNat s0)))
    (c2 : callP (evalFn Try.prog Try.cfg (k + 23)) 23 [V.str (List.take (if 15 < (↑s0.length : Int) then 15 else (↑s0.length : Int)).toNat s0), V.str s1] = some (V.tup [V.str s3, V.int IntKind.i64 i0]))
    (c3 : callP (evalFn Try.prog Try.cfg (k + 23)) 24 [] = some (V.bool b0))
    (c4 : b0 = false) :
    callP (evalFn Try.prog Try.cfg (k + 24)) 6 [V.str s0, V.str s1, V.str s2] = some (V.bool false) :=
  byF (k := k) (d := 24) [Hn.br 29 true, Hn.op 44 (V.str (List.take (if 15 < (↑s0.length : Int) then 15 else (↑s0.length : Int)).toNat s0)) [], Hn.call 46 (V.tup [V.str s3, V.int IntKind.i64 i0]), Hn.call 49 (V.bool b0), Hn.br 50 false] (And.intro c0 (And.intro c1 (And.intro c2 (And.intro c3 (And.intro c4 trivial))))) (by kernel_rfl)
theorem P6_2 (i0 : Int) (b0 : Bool) (s0 : List UInt8) (s1 : List UInt8) (s2 : List UInt8) (s3 : List UInt8) (k : Nat)
    (c0 : (!decide ((↑s0.length : Int) = 16)) = false)
    (c1 : (!decide ((↑s1.length : Int) = 16)) = true)
    (c2 : SlcP false 0 (V.str s0) none (some (V.int IntKind.i64 (if 15 < (↑s0.length : Int) then 15 else (↑s0.length : Int)))) none (V.str (List.take (if 15 < (↑s0.length : Int) then 15 else (↑s0.length : Int)).toNat s0)))
    (c3 : callP (evalFn Try.prog Try.cfg (k + 23)) 23 [V.str (List.take (if 15 < (↑s0.length : Int) then 15 else (↑s0.length : Int)).toNat s0), V.str s1] = some (V.tup [V.str s3, V.int IntKind.i64 i0]))
    (c4 : callP (evalFn Try.prog Try.cfg (k + 23)) 24 [] = some (V.bool b0))
    (c5 : b0 = true) :
    callP (evalFn Try.prog Try.cfg (k + 24)) 6 [V.str s0, V.str s1, V.str s2] = some (V.bool (decide (i0 = 4))) :=
  byF (k := k) (d := 24) [Hn.br 29 false, Hn.br 34 true, Hn.op 44 (V.str (List.take (if 15 < (↑s0.length : Int) then 15 else (↑s0.length : Int)).toNat s0)) [], Hn.call 46 (V.tup [V.str s3, V.int IntKind.i64 i0]), Hn.call 49 (V.bool b0), Hn.br 50 true] (And.intro c0 (And.intro c1 (And.intro c2 (And.intro c3 (And.intro c4 (And.intro c5 trivial)))))) (by kernel_rfl)
theorem P6_3 (i0 : Int) (b0 : Bool) (s0 : List UInt8) (s1 : List UInt8) (s2 : List UInt8) (s3 : List UInt8) (k : Nat)
    (c0 : (!decide ((↑s0.length : Int) = 16)) = false)
    (c1 : (!decide ((↑s1.length : Int) = 16)) = true)
    (c2 : SlcP false 0 (V.str s0) none (some (V.int IntKind.i64 (if 15 < (↑s0.length : Int) then 15 else (↑s0.length : Int)))) none (V.str (List.take (if 15 < (↑s0.length : Int) then 15 else (↑s0.length : Int)).toNat s0)))
    (c3 : callP (evalFn Try.prog Try.cfg (k + 23)) 23 [V.str (List.take (if 15 < (↑s0.length : Int) then 15 else (↑s0.length : Int)).toNat s0), V.str s1] = some (V.tup [V.str s3, V.int IntKind.i64 i0]))
    (c4 : callP (evalFn Try.prog Try.cfg (k + 23)) 24 [] = some (V.bool b0))
    (c5 : b0 = false) :
    callP (evalFn Try.prog Try.cfg (k + 24)) 6 [V.str s0, V.str s1, V.str s2] = some (V.bool false) :=
  byF (k := k) (d := 24) [Hn.br 29 false, Hn.br 34 true, Hn.op 44 (V.str (List.take (if 15 < (↑s0.length : Int) then 15 else (↑s0.length : Int)).toNat s0)) [], Hn.call 46 (V.tup [V.str s3, V.int IntKind.i64 i0]), Hn.call 49 (V.bool b0), Hn.br 50 false] (And.intro c0 (And.intro c1 (And.intro c2 (And.intro c3 (And.intro c4 (And.intro c5 trivial)))))) (by kernel_rfl)
theorem P6_4 (i0 : Int) (b0 : Bool) (s0 : List UInt8) (s1 : List UInt8) (s2 : List UInt8) (s3 : List UInt8) (k : Nat)
    (c0 : (!decide ((↑s0.length : Int) = 16)) = false)
    (c1 : (!decide ((↑s1.length : Int) = 16)) = false)
    (c2 : (!decide ((↑s2.length : Int) = 16)) = true)
    (c3 : SlcP false 0 (V.str s0) none (some (V.int IntKind.i64 (if 15 < (↑s0.length : Int) then 15 else (↑s0.length : Int)))) none (V.str (List.take (if 15 < (↑s0.length : Int) then 15 else (↑s0.length : Int)).toNat s0)))
    (c4 : callP (evalFn Try.prog Try.cfg (k + 23)) 23 [V.str (List.take (if 15 < (↑s0.length : Int) then 15 else (↑s0.length : Int)).toNat s0), V.str s1] = some (V.tup [V.str s3, V.int IntKind.i64 i0]))
    (c5 : callP (evalFn Try.prog Try.cfg (k + 23)) 24 [] = some (V.bool b0))
    (c6 : b0 = true) :
    callP (evalFn Try.prog Try.cfg (k + 24)) 6 [V.str s0, V.str s1, V.str s2] = some (V.bool (decide (i0 = 4))) :=
  byF (k := k) (d := 24) [Hn.br 29 false, Hn.br 34 false, Hn.br 38 true, Hn.op 44 (V.str (List.take (if 15 < (↑s0.length : Int) then 15 else (↑s0.length : Int)).toNat s0)) [], Hn.call 46 (V.tup [V.str s3, V.int IntKind.i64 i0]), Hn.call 49 (V.bool b0), Hn.br 50 true] (And.intro c0 (And.intro c1 (And.intro c2 (And.intro c3 (And.intro c4 (And.intro c5 (And.intro c6 trivial))))))) (by kernel_rfl)
theorem P6_5 (i0 : Int) (b0 : Bool) (s0 : List UInt8) (s1 : List UInt8) (s2 : List UInt8) (s3 : List UInt8) (k : Nat)
    (c0 : (!decide ((↑s0.length : Int) = 16)) = false)
    (c1 : (!decide ((↑s1.length : Int) = 16)) = false)
    (c2 : (!decide ((↑s2.length : Int) = 16)) = true)
    (c3 : SlcP false 0 (V.str s0) none (some (V.int IntKind.i64 (if 15 < (↑s0.length : Int) then 15 else (↑s0.length : Int)))) none (V.str (List.take (if 15 < (↑s0.length : Int) then 15 else (↑s0.length : Int)).toNat s0)))
    (c4 : callP (evalFn Try.prog Try.cfg (k + 23)) 23 [V.str (List.take (if 15 < (↑s0.length : Int) then 15 else (↑s0.length : Int)).toNat s0), V.str s1] = some (V.tup [V.str s3, V.int IntKind.i64 i0]))
    (c5 : callP (evalFn Try.prog Try.cfg (k + 23)) 24 [] = some (V.bool b0))
    (c6 : b0 = false) :
    callP (evalFn Try.prog Try.cfg (k + 24)) 6 [V.str s0, V.str s1, V.str s2] = some (V.bool false) :=
  byF (k := k) (d := 24) [Hn.br 29 false, Hn.br 34 false, Hn.br 38 true, Hn.op 44 (V.str (List.take (if 15 < (↑s0.length : Int) then 15 else (↑s0.length : Int)).toNat s0)) [], Hn.call 46 (V.tup [V.str s3, V.int IntKind.i64 i0]), Hn.call 49 (V.bool b0), Hn.br 50 false] (And.intro c0 (And.intro c1 (And.intro c2 (And.intro c3 (And.intro c4 (And.intro c5 (And.intro c6 trivial))))))) (by kernel_rfl)
theorem P6_6 (i0 : Int) (i1 : Int) (i2 : Int) (i3 : Int) (i4 : Int) (i5 : Int) (s0 : List UInt8) (s1 : List UInt8) (s2 : List UInt8) (s3 : List UInt8) (s4 : List UInt8) (s5 : List UInt8) (s6 : List UInt8) (s7 : List UInt8) (s8 : List UInt8) (k : Nat)
    (c0 : (!decide ((↑s0.length : Int) = 16)) = false)
    (c1 : (!decide ((↑s1.length : Int) = 16)) = false)
    (c2 : (!decide ((↑s2.length : Int) = 16)) = false)
    (c3 : callP (evalFn Try.prog Try.cfg (k + 23)) 23 [V.str s0, V.str s1] = some (V.tup [V.str s3, V.int IntKind.i64 i0]))
    (c4 : callP (evalFn Try.prog Try.cfg (k + 23)) 23 [V.str s1, V.str s0] = some (V.tup [V.str s4, V.int IntKind.i64 i1]))
    (c5 : callP (evalFn Try.prog Try.cfg (k + 23)) 23 [V.str s0, V.str s2] = some (V.tup [V.str s5, V.int IntKind.i64 i2]))
    (c6 : callP (evalFn Try.prog Try.cfg (k + 23)) 23 [V.str s3, V.str s2] = some (V.tup [V.str s6, V.int IntKind.i64 i3]))
    (c7 : callP (evalFn Try.prog Try.cfg (k + 23)) 23 [V.str s1, V.str s2] = some (V.tup [V.str s7, V.int IntKind.i64 i4]))
    (c8 : callP (evalFn Try.prog Try.cfg (k + 23)) 23 [V.str s0, V.str s7] = some (V.tup [V.str s8, V.int IntKind.i64 i5]))
    (c9 : (!decide (i0 = 0)) = true) :
    callP (evalFn Try.prog Try.cfg (k + 24)) 6 [V.str s0, V.str s1, V.str s2] = some (V.bool false) :=
  byF (k := k) (d := 24) [Hn.br 29 false, Hn.br 34 false, Hn.br 38 false, Hn.call 59 (V.tup [V.str s3, V.int IntKind.i64 i0]), Hn.call 65 (V.tup [V.str s4, V.int IntKind.i64 i1]), Hn.call 71 (V.tup [V.str s5, V.int IntKind.i64 i2]), Hn.call 77 (V.tup [V.str s6, V.int IntKind.i64 i3]), Hn.call 83 (V.tup [V.str s7, V.int IntKind.i64 i4]), Hn.call 89 (V.tup [V.str s8, V.int IntKind.i64 i5]), Hn.br 94 true] (And.intro c0 (And.intro c1 (And.intro c2 (And.intro c3 (And.intro c4 (And.intro c5 (And.intro c6 (And.intro c7 (And.intro c8 (And.intro c9 trivial)))))))))) (by kernel_rfl)
theorem P6_7 (i0 : Int) (i1 : Int) (i2 : Int) (i3 : Int) (i4 : Int) (i5 : Int) (s0 : List UInt8) (s1 : List UInt8) (s2 : List UInt8) (s3 : List UInt8) (s4 : List UInt8) (s5 : List UInt8) (s6 : List UInt8) (s7 : List UInt8) (s8 : List UInt8) (k : Nat)
    (c0 : (!decide ((↑s0.length : Int) = 16)) = false)
    (c1 : (!decide ((↑s1.length : Int) = 16)) = false)
    (c2 : (!decide ((↑s2.length : Int) = 16)) = false)
    (c3 : callP (evalFn Try.prog Try.cfg (k + 23)) 23 [V.str s0, V.str s1] = some (V.tup [V.str s3, V.int IntKind.i64 i0]))
    (c4 : callP (evalFn Try.prog Try.cfg (k + 23)) 23 [V.str s1, V.str s0] = some (V.tup [V.str s4, V.int IntKind.i64 i1]))
    (c5 : callP (evalFn Try.prog Try.cfg (k + 23)) 23 [V.str s0, V.str s2] = some (V.tup [V.str s5, V.int IntKind.i64 i2]))
    (c6 : callP (evalFn Try.prog Try.cfg (k + 23)) 23 [V.str s3, V.str s2] = some (V.tup [V.str s6, V.int IntKind.i64 i3]))
    (c7 : callP (evalFn Try.prog Try.cfg (k + 23)) 23 [V.str s1, V.str s2] = some (V.tup [V.str s7, V.int IntKind.i64 i4]))
    (c8 : callP (evalFn Try.prog Try.cfg (k + 23)) 23 [V.str s0, V.str s7] = some (V.tup [V.str s8, V.int IntKind.i64 i5]))
    (c9 : (!decide (i0 = 0)) = false)
    (c10 : (!decide (i1 = 0)) = true) :
    callP (evalFn Try.prog Try.cfg (k + 24)) 6 [V.str s0, V.str s1, V.str s2] = some (V.bool false) :=
  byF (k := k) (d := 24) [Hn.br 29 false, Hn.br 34 false, Hn.br 38 false, Hn.call 59 (V.tup [V.str s3, V.int IntKind.i64 i0]), Hn.call 65 (V.tup [V.str s4, V.int IntKind.i64 i1]), Hn.call 71 (V.tup [V.str s5, V.int IntKind.i64 i2]), Hn.call 77 (V.tup [V.str s6, V.int IntKind.i64 i3]), Hn.call 83 (V.tup [V.str s7, V.int IntKind.i64 i4]), Hn.call 89 (V.tup [V.str s8, V.int IntKind.i64 i5]), Hn.br 94 false, Hn.br 98 true] (And.intro c0 (And.intro c1 (And.intro c2 (And.intro c3 (And.intro c4 (And.intro c5 (And.intro c6 (And.intro c7 (And.intro c8 (And.intro c9 (And.intro c10 trivial))))))))))) (by kernel_rfl)
theorem P6_8 (i0 : Int) (i1 : Int) (i2 : Int) (i3 : Int) (i4 : Int) (i5 : Int) (s0 : List UInt8) (s1 : List UInt8) (s2 : List UInt8) (s3 : List UInt8) (s4 : List UInt8) (s5 : List UInt8) (s6 : List UInt8) (s7 : List UInt8) (s8 : List UInt8) (k : Nat)
    (c0 : (!decide ((↑s0.length : Int) = 16)) = false)
    (c1 : (!decide ((↑s1.length : Int) = 16)) = false)
    (c2 : (!decide ((↑s2.length : Int) = 16)) = false)
    (c3 : callP (evalFn Try.prog Try.cfg (k + 23)) 23 [V.str s0, V.str s1] = some (V.tup [V.str s3, V.int IntKind.i64 i0]))
    (c4 : callP (evalFn Try.prog Try.cfg (k + 23)) 23 [V.str s1, V.str s0] = some (V.tup [V.str s4, V.int IntKind.i64 i1]))
    (c5 : callP (evalFn Try.prog Try.cfg (k + 23)) 23 [V.str s0, V.str s2] = some (V.tup [V.str s5, V.int IntKind.i64 i2]))
    (c6 : callP (evalFn Try.prog Try.cfg (k + 23)) 23 [V.str s3, V.str s2] = some (V.tup [V.str s6, V.int IntKind.i64 i3]))
    (c7 : callP (evalFn Try.prog Try.cfg (k + 23)) 23 [V.str s1, V.str s2] = some (V.tup [V.str s7, V.int IntKind.i64 i4]))
    (c8 : callP (evalFn Try.prog Try.cfg (k + 23)) 23 [V.str s0, V.str s7] = some (V.tup [V.str s8, V.int IntKind.i64 i5]))
    (c9 : (!decide (i0 = 0)) = false)
    (c10 : (!decide (i1 = 0)) = false)
    (c11 : (!decide (i2 = 0)) = true) :
    callP (evalFn Try.prog Try.cfg (k + 24)) 6 [V.str s0, V.str s1, V.str s2] = some (V.bool false) :=
  byF (k := k) (d := 24) [Hn.br 29 false, Hn.br 34 false, Hn.br 38 false, Hn.call 59 (V.tup [V.str s3, V.int IntKind.i64 i0]), Hn.call 65 (V.tup [V.str s4, V.int IntKind.i64 i1]), Hn.call 71 (V.tup [V.str s5, V.int IntKind.i64 i2]), Hn.call 77 (V.tup [V.str s6, V.int IntKind.i64 i3]), Hn.call 83 (V.tup [V.str s7, V.int IntKind.i64 i4]), Hn.call 89 (V.tup [V.str s8, V.int IntKind.i64 i5]), Hn.br 94 false, Hn.br 98 false, Hn.br 102 true] (And.intro c0 (And.intro c1 (And.intro c2 (And.intro c3 (And.intro c4 (And.intro c5 (And.intro c6 (And.intro c7 (And.intro c8 (And.intro c9 (And.intro c10 (And.intro c11 trivial)))))))))))) (by kernel_rfl)
theorem P6_9 (i0 : Int) (i1 : Int) (i2 : Int) (i3 : Int) (i4 : Int) (i5 : Int) (s0 : List UInt8) (s1 : List UInt8) (s2 : List UInt8) (s3 : List UInt8) (s4 : List UInt8) (s5 : List UInt8) (s6 : List UInt8) (s7 : List UInt8) (s8 : List UInt8) (k : Nat)
    (c0 : (!decide ((↑s0.length : Int) = 16)) = false)
    (c1 : (!decide ((↑s1.length : Int) = 16)) = false)
    (c2 : (!decide ((↑s2.length : Int) = 16)) = false)
    (c3 : callP (evalFn Try.prog Try.cfg (k + 23)) 23 [V.str s0, V.str s1] = some (V.tup [V.str s3, V.int IntKind.i64 i0]))
    (c4 : callP (evalFn Try.prog Try.cfg (k + 23)) 23 [V.str s1, V.str s0] = some (V.tup [V.str s4, V.int IntKind.i64 i1]))
    (c5 : callP (evalFn Try.prog Try.cfg (k + 23)) 23 [V.str s0, V.str s2] = some (V.tup [V.str s5, V.int IntKind.i64 i2]))
    (c6 : callP (evalFn Try.prog Try.cfg (k + 23)) 23 [V.str s3, V.str s2] = some (V.tup [V.str s6, V.int IntKind.i64 i3]))
    (c7 : callP (evalFn Try.prog Try.cfg (k + 23)) 23 [V.str s1, V.str s2] = some (V.tup [V.str s7, V.int IntKind.i64 i4]))
    (c8 : callP (evalFn Try.prog Try.cfg (k + 23)) 23 [V.str s0, V.str s7] = some (V.tup [V.str s8, V.int IntKind.i64 i5]))
    (c9 : (!decide (i0 = 0)) = false)
    (c10 : (!decide (i1 = 0)) = false)
    (c11 : (!decide (i2 = 0)) = false)
    (c12 : (!decide (i3 = 0)) = true) :
    callP (evalFn Try.prog Try.cfg (k + 24)) 6 [V.str s0, V.str s1, V.str s2] = some (V.bool false) :=
  byF (k := k) (d := 24) [Hn.br 29 false, Hn.br 34 false, Hn.br 38 false, Hn.call 59 (V.tup [V.str s3, V.int IntKind.i64 i0]), Hn.call 65 (V.tup [V.str s4, V.int IntKind.i64 i1]), Hn.call 71 (V.tup [V.str s5, V.int IntKind.i64 i2]), Hn.call 77 (V.tup [V.str s6, V.int IntKind.i64 i3]), Hn.call 83 (V.tup [V.str s7, V.int IntKind.i64 i4]), Hn.call 89 (V.tup [V.str s8, V.int IntKind.i64 i5]), Hn.br 94 false, Hn.br 98 false, Hn.br 102 false, Hn.br 106 true] (And.intro c0 (And.intro c1 (And.intro c2 (And.intro c3 (And.intro c4 (And.intro c5 (And.intro c6 (And.intro c7 (And.intro c8 (And.intro c9 (And.intro c10 (And.intro c11 (And.intro c12 trivial))))))))))))) (by kernel_rfl)
theorem P6_10 (i0 : Int) (i1 : Int) (i2 : Int) (i3 : Int) (i4 : Int) (i5 : Int) (s0 : List UInt8) (s1 : List UInt8) (s2 : List UInt8) (s3 : List UInt8) (s4 : List UInt8) (s5 : List UInt8) (s6 : List UInt8) (s7 : List UInt8) (s8 : List UInt8) (k : Nat)
    (c0 : (!decide ((↑s0.length : Int) = 16)) = false)
    (c1 : (!decide ((↑s1.length : Int) = 16)) = false)
    (c2 : (!decide ((↑s2.length : Int) = 16)) = false)
    (c3 : callP (evalFn Try.prog Try.cfg (k + 23)) 23 [V.str s0, V.str s1] = some (V.tup [V.str s3, V.int IntKind.i64 i0]))
    (c4 : callP (evalFn Try.prog Try.cfg (k + 23)) 23 [V.str s1, V.str s0] = some (V.tup [V.str s4, V.int IntKind.i64 i1]))
    (c5 : callP (evalFn Try.prog Try.cfg (k + 23)) 23 [V.str s0, V.str s2] = some (V.tup [V.str s5, V.int IntKind.i64 i2]))
    (c6 : callP (evalFn Try.prog Try.cfg (k + 23)) 23 [V.str s3, V.str s2] = some (V.tup [V.str s6, V.int IntKind.i64 i3]))
    (c7 : callP (evalFn Try.prog Try.cfg (k + 23)) 23 [V.str s1, V.str s2] = some (V.tup [V.str s7, V.int IntKind.i64 i4]))
    (c8 : callP (evalFn Try.prog Try.cfg (k + 23)) 23 [V.str s0, V.str s7] = some (V.tup [V.str s8, V.int IntKind.i64 i5]))
    (c9 : (!decide (i0 = 0)) = false)
    (c10 : (!decide (i1 = 0)) = false)
    (c11 : (!decide (i2 = 0)) = false)
    (c12 : (!decide (i3 = 0)) = false)
    (c13 : (!decide (i4 = 0)) = true) :
    callP (evalFn Try.prog Try.cfg (k + 24)) 6 [V.str s0, V.str s1, V.str s2] = some (V.bool false) :=
  byF (k := k) (d := 24) [Hn.br 29 false, Hn.br 34 false, Hn.br 38 false, Hn.call 59 (V.tup [V.str s3, V.int IntKind.i64 i0]), Hn.call 65 (V.tup [V.str s4, V.int IntKind.i64 i1]), Hn.call 71 (V.tup [V.str s5, V.int IntKind.i64 i2]), Hn.call 77 (V.tup [V.str s6, V.int IntKind.i64 i3]), Hn.call 83 (V.tup [V.str s7, V.int IntKind.i64 i4]), Hn.call 89 (V.tup [V.str s8, V.int IntKind.i64 i5]), Hn.br 94 false, Hn.br 98 false, Hn.br 102 false, Hn.br 106 false, Hn.br 110 true] (And.intro c0 (And.intro c1 (And.intro c2 (And.intro c3 (And.intro c4 (And.intro c5 (And.intro c6 (And.intro c7 (And.intro c8 (And.intro c9 (And.intro c10 (And.intro c11 (And.intro c12 (And.intro c13 trivial)))))))))))))) (by kernel_rfl)
theorem P6_11 (i0 : Int) (i1 : Int) (i2 : Int) (i3 : Int) (i4 : Int) (i5 : Int) (s0 : List UInt8) (s1 : List UInt8) (s2 : List UInt8) (s3 : List UInt8) (s4 : List UInt8) (s5 : List UInt8) (s6 : List UInt8) (s7 : List UInt8) (s8 : List UInt8) (k : Nat)
    (c0 : (!decide ((↑s0.length : Int) = 16)) = false)
    (c1 : (!decide ((↑s1.length : Int) = 16)) = false)
    (c2 : (!decide ((↑s2.length : Int) = 16)) = false)
    (c3 : callP (evalFn Try.prog Try.cfg (k + 23)) 23 [V.str s0, V.str s1] = some (V.tup [V.str s3, V.int IntKind.i64 i0]))
    (c4 : callP (evalFn Try.prog Try.cfg (k + 23)) 23 [V.str s1, V.str s0] = some (V.tup [V.str s4, V.int IntKind.i64 i1]))
    (c5 : callP (evalFn Try.prog Try.cfg (k + 23)) 23 [V.str s0, V.str s2] = some (V.tup [V.str s5, V.int IntKind.i64 i2]))
    (c6 : callP (evalFn Try.prog Try.cfg (k + 23)) 23 [V.str s3, V.str s2] = some (V.tup [V.str s6, V.int IntKind.i64 i3]))
    (c7 : callP (evalFn Try.prog Try.cfg (k + 23)) 23 [V.str s1, V.str s2] = some (V.tup [V.str s7, V.int IntKind.i64 i4]))
    (c8 : callP (evalFn Try.prog Try.cfg (k + 23)) 23 [V.str s0, V.str s7] = some (V.tup [V.str s8, V.int IntKind.i64 i5]))
    (c9 : (!decide (i0 = 0)) = false)
    (c10 : (!decide (i1 = 0)) = false)
    (c11 : (!decide (i2 = 0)) = false)
    (c12 : (!decide (i3 = 0)) = false)
    (c13 : (!decide (i4 = 0)) = false)
    (c14 : (!decide (i5 = 0)) = true) :
    callP (evalFn Try.prog Try.cfg (k + 24)) 6 [V.str s0, V.str s1, V.str s2] = some (V.bool false) :=
  byF (k := k) (d := 24) [Hn.br 29 false, Hn.br 34 false, Hn.br 38 false, Hn.call 59 (V.tup [V.str s3, V.int IntKind.i64 i0]), Hn.call 65 (V.tup [V.str s4, V.int IntKind.i64 i1]), Hn.call 71 (V.tup [V.str s5, V.int IntKind.i64 i2]), Hn.call 77 (V.tup [V.str s6, V.int IntKind.i64 i3]), Hn.call 83 (V.tup [V.str s7, V.int IntKind.i64 i4]), Hn.call 89 (V.tup [V.str s8, V.int IntKind.i64 i5]), Hn.br 94 false, Hn.br 98 false, Hn.br 102 false, Hn.br 106 false, Hn.br 110 false, Hn.br 114 true] (And.intro c0 (And.intro c1 (And.intro c2 (And.intro c3 (And.intro c4 (And.intro c5 (And.intro c6 (And.intro c7 (And.intro c8 (And.intro c9 (And.intro c10 (And.intro c11 (And.intro c12 (And.intro c13 (And.intro c14 trivial))))))))))))))) (by kernel_rfl)
theorem P6_12 (i0 : Int) (i1 : Int) (i2 : Int) (i3 : Int) (i4 : Int) (i5 : Int) (s0 : List UInt8) (s1 : List UInt8) (s2 : List UInt8) (s3 : List UInt8) (s4 : List UInt8) (s5 : List UInt8) (s6 : List UInt8) (s7 : List UInt8) (s8 : List UInt8) (k : Nat)
    (c0 : (!decide ((↑s0.length : Int) = 16)) = false)
    (c1 : (!decide ((↑s1.length : Int) = 16)) = false)
    (c2 : (!decide ((↑s2.length : Int) = 16)) = false)
    (c3 : callP (evalFn Try.prog Try.cfg (k + 23)) 23 [V.str s0, V.str s1] = some (V.tup [V.str s3, V.int IntKind.i64 i0]))
    (c4 : callP (evalFn Try.prog Try.cfg (k + 23)) 23 [V.str s1, V.str s0] = some (V.tup [V.str s4, V.int IntKind.i64 i1]))
    (c5 : callP (evalFn Try.prog Try.cfg (k + 23)) 23 [V.str s0, V.str s2] = some (V.tup [V.str s5, V.int IntKind.i64 i2]))
    (c6 : callP (evalFn Try.prog Try.cfg (k + 23)) 23 [V.str s3, V.str s2] = some (V.tup [V.str s6, V.int IntKind.i64 i3]))
    (c7 : callP (evalFn Try.prog Try.cfg (k + 23)) 23 [V.str s1, V.str s2] = some (V.tup [V.str s7, V.int IntKind.i64 i4]))
    (c8 : callP (evalFn Try.prog Try.cfg (k + 23)) 23 [V.str s0, V.str s7] = some (V.tup [V.str s8, V.int IntKind.i64 i5]))
    (c9 : (!decide (i0 = 0)) = false)
    (c10 : (!decide (i1 = 0)) = false)
    (c11 : (!decide (i2 = 0)) = false)
    (c12 : (!decide (i3 = 0)) = false)
    (c13 : (!decide (i4 = 0)) = false)
    (c14 : (!decide (i5 = 0)) = false)
    (c15 : (!decide ((↑s3.length : Int) = 16)) = true) :
    callP (evalFn Try.prog Try.cfg (k + 24)) 6 [V.str s0, V.str s1, V.str s2] = some (V.bool false) :=
  byF (k := k) (d := 24) [Hn.br 29 false, Hn.br 34 false, Hn.br 38 false, Hn.call 59 (V.tup [V.str s3, V.int IntKind.i64 i0]), Hn.call 65 (V.tup [V.str s4, V.int IntKind.i64 i1]), Hn.call 71 (V.tup [V.str s5, V.int IntKind.i64 i2]), Hn.call 77 (V.tup [V.str s6, V.int IntKind.i64 i3]), Hn.call 83 (V.tup [V.str s7, V.int IntKind.i64 i4]), Hn.call 89 (V.tup [V.str s8, V.int IntKind.i64 i5]), Hn.br 94 false, Hn.br 98 false, Hn.br 102 false, Hn.br 106 false, Hn.br 110 false, Hn.br 114 false, Hn.br 119 true] (And.intro c0 (And.intro c1 (And.intro c2 (And.intro c3 (And.intro c4 (And.intro c5 (And.intro c6 (And.intro c7 (And.intro c8 (And.intro c9 (And.intro c10 (And.intro c11 (And.intro c12 (And.intro c13 (And.intro c14 (And.intro c15 trivial)))))))))))))))) (by kernel_rfl)
theorem P6_13 (i0 : Int) (i1 : Int) (i2 : Int) (i3 : Int) (i4 : Int) (i5 : Int) (s0 : List UInt8) (s1 : List UInt8) (s2 : List UInt8) (s3 : List UInt8) (s4 : List UInt8) (s5 : List UInt8) (s6 : List UInt8) (s7 : List UInt8) (s8 : List UInt8) (k : Nat)
    (c0 : (!decide ((↑s0.length : Int) = 16)) = false)
    (c1 : (!decide ((↑s1.length : Int) = 16)) = false)
    (c2 : (!decide ((↑s2.length : Int) = 16)) = false)
    (c3 : callP (evalFn Try.prog Try.cfg (k + 23)) 23 [V.str s0, V.str s1] = some (V.tup [V.str s3, V.int IntKind.i64 i0]))
    (c4 : callP (evalFn Try.prog Try.cfg (k + 23)) 23 [V.str s1, V.str s0] = some (V.tup [V.str s4, V.int IntKind.i64 i1]))
    (c5 : callP (evalFn Try.prog Try.cfg (k + 23)) 23 [V.str s0, V.str s2] = some (V.tup [V.str s5, V.int IntKind.i64 i2]))
    (c6 : callP (evalFn Try.prog Try.cfg (k + 23)) 23 [V.str s3, V.str s2] = some (V.tup [V.str s6, V.int IntKind.i64 i3]))
    (c7 : callP (evalFn Try.prog Try.cfg (k + 23)) 23 [V.str s1, V.str s2] = some (V.tup [V.str s7, V.int IntKind.i64 i4]))
    (c8 : callP (evalFn Try.prog Try.cfg (k + 23)) 23 [V.str s0, V.str s7] = some (V.tup [V.str s8, V.int IntKind.i64 i5]))
    (c9 : (!decide (i0 = 0)) = false)
    (c10 : (!decide (i1 = 0)) = false)
    (c11 : (!decide (i2 = 0)) = false)
    (c12 : (!decide (i3 = 0)) = false)
    (c13 : (!decide (i4 = 0)) = false)
    (c14 : (!decide (i5 = 0)) = false)
    (c15 : (!decide ((↑s3.length : Int) = 16)) = false)
    (c16 : (!decide ((↑s5.length : Int) = 16)) = true) :
    callP (evalFn Try.prog Try.cfg (k + 24)) 6 [V.str s0, V.str s1, V.str s2] = some (V.bool false) :=
  byF (k := k) (d := 24) [Hn.br 29 false, Hn.br 34 false, Hn.br 38 false, Hn.call 59 (V.tup [V.str s3, V.int IntKind.i64 i0]), Hn.call 65 (V.tup [V.str s4, V.int IntKind.i64 i1]), Hn.call 71 (V.tup [V.str s5, V.int IntKind.i64 i2]), Hn.call 77 (V.tup [V.str s6, V.int IntKind.i64 i3]), Hn.call 83 (V.tup [V.str s7, V.int IntKind.i64 i4]), Hn.call 89 (V.tup [V.str s8, V.int IntKind.i64 i5]), Hn.br 94 false, Hn.br 98 false, Hn.br 102 false, Hn.br 106 false, Hn.br 110 false, Hn.br 114 false, Hn.br 119 false, Hn.br 123 true] (And.intro c0 (And.intro c1 (And.intro c2 (And.intro c3 (And.intro c4 (And.intro c5 (And.intro c6 (And.intro c7 (And.intro c8 (And.intro c9 (And.intro c10 (And.intro c11 (And.intro c12 (And.intro c13 (And.intro c14 (And.intro c15 (And.intro c16 trivial))))))))))))))))) (by kernel_rfl)
theorem P6_14 (i0 : Int) (i1 : Int) (i2 : Int) (i3 : Int) (i4 : Int) (i5 : Int) (i6 : Int) (i7 : Int) (b0 : Bool) (s0 : List UInt8) (s1 : List UInt8) (s2 : List UInt8) (s3 : List UInt8) (s4 : List UInt8) (s5 : List UInt8) (s6 : List UInt8) (s7 : List UInt8) (s8 : List UInt8) (s9 : List UInt8) (s10 : List UInt8) (s11 : List UInt8) (s12 : List UInt8) (k : Nat)
    (c0 : (!decide ((↑s0.length : Int) = 16)) = false)
    (c1 : (!decide ((↑s1.length : Int) = 16)) = false)
    (c2 : (!decide ((↑s2.length : Int) = 16)) = false)
    (c3 : callP (evalFn Try.prog Try.cfg (k + 23)) 23 [V.str s0, V.str s1] = some (V.tup [V.str s3, V.int IntKind.i64 i0]))
    (c4 : callP (evalFn Try.prog Try.cfg (k + 23)) 23 [V.str s1, V.str s0] = some (V.tup [V.str s4, V.int IntKind.i64 i1]))
    (c5 : callP (evalFn Try.prog Try.cfg (k + 23)) 23 [V.str s0, V.str s2] = some (V.tup [V.str s5, V.int IntKind.i64 i2]))
    (c6 : callP (evalFn Try.prog Try.cfg (k + 23)) 23 [V.str s3, V.str s2] = some (V.tup [V.str s6, V.int IntKind.i64 i3]))
    (c7 : callP (evalFn Try.prog Try.cfg (k + 23)) 23 [V.str s1, V.str s2] = some (V.tup [V.str s7, V.int IntKind.i64 i4]))
    (c8 : callP (evalFn Try.prog Try.cfg (k + 23)) 23 [V.str s0, V.str s7] = some (V.tup [V.str s8, V.int IntKind.i64 i5]))
    (c9 : (!decide (i0 = 0)) = false)
    (c10 : (!decide (i1 = 0)) = false)
    (c11 : (!decide (i2 = 0)) = false)
    (c12 : (!decide (i3 = 0)) = false)
    (c13 : (!decide (i4 = 0)) = false)
    (c14 : (!decide (i5 = 0)) = false)
    (c15 : (!decide ((↑s3.length : Int) = 16)) = false)
    (c16 : (!decide ((↑s5.length : Int) = 16)) = false)
    (c17 : callP (evalFn Try.prog Try.cfg (k + 23)) 26 [V.str s1, V.str s2] = some (V.str s9))
    (c18 : callP (evalFn Try.prog Try.cfg (k + 23)) 23 [V.str s0, V.str s9] = some (V.tup [V.str s10, V.int IntKind.i64 i6]))
    (c19 : callP (evalFn Try.prog Try.cfg (k + 23)) 23 [V.str s0, V.str [128, 0, 0, 0, 0, 0, 0, 0, 0, 0, 0, 0, 0, 0, 0, 0]] = some (V.tup [V.str s11, V.int IntKind.i64 i7]))
    (c20 : callP (evalFn Try.prog Try.cfg (k + 23)) 24 [] = some (V.bool b0))
    (c21 : b0 = true)
    (c22 : decide (i6 = 0) = true)
    (c23 : decide (i7 = 0) = true)
    (c24 : decide (s3 = s4) = true)
    (c25 : decide (s6 = s8) = true)
    (c26 : callP (evalFn Try.prog Try.cfg (k + 23)) 26 [V.str s3, V.str s5] = some (V.str s12))
    (c27 : decide (s10 = s12) = true)
    (c28 : decide (s11 = s0) = true)
    (c29 : decide (s0 = [0, 0, 0, 0, 0, 0, 0, 0, 0, 0, 0, 0, 0, 0, 0, 0]) = true) :
    callP (evalFn Try.prog Try.cfg (k + 24)) 6 [V.str s0, V.str s1, V.str s2] = some (V.bool (decide (decide (s3 = [0, 0, 0, 0, 0, 0, 0, 0, 0, 0, 0, 0, 0, 0, 0, 0]) = true))) :=
  byF (k := k) (d := 24) [Hn.br 29 false, Hn.br 34 false, Hn.br 38 false, Hn.call 59 (V.tup [V.str s3, V.int IntKind.i64 i0]), Hn.call 65 (V.tup [V.str s4, V.int IntKind.i64 i1]), Hn.call 71 (V.tup [V.str s5, V.int IntKind.i64 i2]), Hn.call 77 (V.tup [V.str s6, V.int IntKind.i64 i3]), Hn.call 83 (V.tup [V.str s7, V.int IntKind.i64 i4]), Hn.call 89 (V.tup [V.str s8, V.int IntKind.i64 i5]), Hn.br 94 false, Hn.br 98 false, Hn.br 102 false, Hn.br 106 false, Hn.br 110 false, Hn.br 114 false, Hn.br 119 false, Hn.br 123 false, Hn.call 128 (V.str s9), Hn.call 129 (V.tup [V.str s10, V.int IntKind.i64 i6]), Hn.call 134 (V.tup [V.str s11, V.int IntKind.i64 i7]), Hn.call 137 (V.bool b0), Hn.br 138 true, Hn.br 142 true, Hn.br 146 true, Hn.br 151 true, Hn.br 156 true, Hn.call 160 (V.str s12), Hn.br 163 true, Hn.br 168 true, Hn.br 175 true] (And.intro c0 (And.intro c1 (And.intro c2 (And.intro c3 (And.intro c4 (And.intro c5 (And.intro c6 (And.intro c7 (And.intro c8 (And.intro c9 (And.intro c10 (And.intro c11 (And.intro c12 (And.intro c13 (And.intro c14 (And.intro c15 (And.intro c16 (And.intro c17 (And.intro c18 (And.intro c19 (And.intro c20 (And.intro c21 (And.intro c22 (And.intro c23 (And.intro c24 (And.intro c25 (And.intro c26 (And.intro c27 (And.intro c28 (And.intro c29 trivial)))))))))))))))))))))))))))))) (by kernel_rfl)
theorem P6_15 (i0 : Int) (i1 : Int) (i2 : Int) (i3 : Int) (i4 : Int) (i5 : Int) (i6 : Int) (i7 : Int) (b0 : Bool) (s0 : List UInt8) (s1 : List UInt8) (s2 : List UInt8) (s3 : List UInt8) (s4 : List UInt8) (s5 : List UInt8) (s6 : List UInt8) (s7 : List UInt8) (s8 : List UInt8) (s9 : List UInt8) (s10 : List UInt8) (s11 : List UInt8) (s12 : List UInt8) (k : Nat)
    (c0 : (!decide ((↑s0.length : Int) = 16)) = false)
    (c1 : (!decide ((↑s1.length : Int) = 16)) = false)
    (c2 : (!decide ((↑s2.length : Int) = 16)) = false)
    (c3 : callP (evalFn Try.prog Try.cfg (k + 23)) 23 [V.str s0, V.str s1] = some (V.tup [V.str s3, V.int IntKind.i64 i0]))
    (c4 : callP (evalFn Try.prog Try.cfg (k + 23)) 23 [V.str s1, V.str s0] = some (V.tup [V.str s4, V.int IntKind.i64 i1]))
    (c5 : callP (evalFn Try.prog Try.cfg (k + 23)) 23 [V.str s0, V.str s2] = some (V.tup [V.str s5, V.int IntKind.i64 i2]))
    (c6 : callP (evalFn Try.prog Try.cfg (k + 23)) 23 [V.str s3, V.str s2] = some (V.tup [V.str s6, V.int IntKind.i64 i3]))
    (c7 : callP (evalFn Try.prog Try.cfg (k + 23)) 23 [V.str s1, V.str s2] = some (V.tup [V.str s7, V.int IntKind.i64 i4]))
    (c8 : callP (evalFn Try.prog Try.cfg (k + 23)) 23 [V.str s0, V.str s7] = some (V.tup [V.str s8, V.int IntKind.i64 i5]))
    (c9 : (!decide (i0 = 0)) = false)
    (c10 : (!decide (i1 = 0)) = false)
    (c11 : (!decide (i2 = 0)) = false)
    (c12 : (!decide (i3 = 0)) = false)
    (c13 : (!decide (i4 = 0)) = false)
    (c14 : (!decide (i5 = 0)) = false)
    (c15 : (!decide ((↑s3.length : Int) = 16)) = false)
    (c16 : (!decide ((↑s5.length : Int) = 16)) = false)
    (c17 : callP (evalFn Try.prog Try.cfg (k + 23)) 26 [V.str s1, V.str s2] = some (V.str s9))
    (c18 : callP (evalFn Try.prog Try.cfg (k + 23)) 23 [V.str s0, V.str s9] = some (V.tup [V.str s10, V.int IntKind.i64 i6]))
    (c19 : callP (evalFn Try.prog Try.cfg (k + 23)) 23 [V.str s0, V.str [128, 0, 0, 0, 0, 0, 0, 0, 0, 0, 0, 0, 0, 0, 0, 0]] = some (V.tup [V.str s11, V.int IntKind.i64 i7]))
    (c20 : callP (evalFn Try.prog Try.cfg (k + 23)) 24 [] = some (V.bool b0))
    (c21 : b0 = true)
    (c22 : decide (i6 = 0) = true)
    (c23 : decide (i7 = 0) = true)
    (c24 : decide (s3 = s4) = true)
    (c25 : decide (s6 = s8) = true)
    (c26 : callP (evalFn Try.prog Try.cfg (k + 23)) 26 [V.str s3, V.str s5] = some (V.str s12))
    (c27 : decide (s10 = s12) = true)
    (c28 : decide (s11 = s0) = true)
    (c29 : decide (s0 = [0, 0, 0, 0, 0, 0, 0, 0, 0, 0, 0, 0, 0, 0, 0, 0]) = false) :
    callP (evalFn Try.prog Try.cfg (k + 24)) 6 [V.str s0, V.str s1, V.str s2] = some (V.bool (decide (decide (s3 = [0, 0, 0, 0, 0, 0, 0, 0, 0, 0, 0, 0, 0, 0, 0, 0]) = decide (s1 = [0, 0, 0, 0, 0, 0, 0, 0, 0, 0, 0, 0, 0, 0, 0, 0])))) :=
  byF (k := k) (d := 24) [Hn.br 29 false, Hn.br 34 false, Hn.br 38 false, Hn.call 59 (V.tup [V.str s3, V.int IntKind.i64 i0]), Hn.call 65 (V.tup [V.str s4, V.int IntKind.i64 i1]), Hn.call 71 (V.tup [V.str s5, V.int IntKind.i64 i2]), Hn.call 77 (V.tup [V.str s6, V.int IntKind.i64 i3]), Hn.call 83 (V.tup [V.str s7, V.int IntKind.i64 i4]), Hn.call 89 (V.tup [V.str s8, V.int IntKind.i64 i5]), Hn.br 94 false, Hn.br 98 false, Hn.br 102 false, Hn.br 106 false, Hn.br 110 false, Hn.br 114 false, Hn.br 119 false, Hn.br 123 false, Hn.call 128 (V.str s9), Hn.call 129 (V.tup [V.str s10, V.int IntKind.i64 i6]), Hn.call 134 (V.tup [V.str s11, V.int IntKind.i64 i7]), Hn.call 137 (V.bool b0), Hn.br 138 true, Hn.br 142 true, Hn.br 146 true, Hn.br 151 true, Hn.br 156 true, Hn.call 160 (V.str s12), Hn.br 163 true, Hn.br 168 true, Hn.br 175 false] (And.intro c0 (And.intro c1 (And.intro c2 (And.intro c3 (And.intro c4 (And.intro c5 (And.intro c6 (And.intro c7 (And.intro c8 (And.intro c9 (And.intro c10 (And.intro c11 (And.intro c12 (And.intro c13 (And.intro c14 (And.intro c15 (And.intro c16 (And.intro c17 (And.intro c18 (And.intro c19 (And.intro c20 (And.intro c21 (And.intro c22 (And.intro c23 (And.intro c24 (And.intro c25 (And.intro c26 (And.intro c27 (And.intro c28 (And.intro c29 trivial)))))))))))))))))))))))))))))) (by kernel_rfl)
theorem P6_16 (i0 : Int) (i1 : Int) (i2 : Int) (i3 : Int) (i4 : Int) (i5 : Int) (i6 : Int) (i7 : Int) (b0 : Bool) (s0 : List UInt8) (s1 : List UInt8) (s2 : List UInt8) (s3 : List UInt8) (s4 : List UInt8) (s5 : List UInt8) (s6 : List UInt8) (s7 : List UInt8) (s8 : List UInt8) (s9 : List UInt8) (s10 : List UInt8) (s11 : List UInt8) (s12 : List UInt8) (k : Nat)
    (c0 : (!decide ((↑s0.length : Int) = 16)) = false)
    (c1 : (!decide ((↑s1.length : Int) = 16)) = false)
    (c2 : (!decide ((↑s2.length : Int) = 16)) = false)
    (c3 : callP (evalFn Try.prog Try.cfg (k + 23)) 23 [V.str s0, V.str s1] = some (V.tup [V.str s3, V.int IntKind.i64 i0]))
    (c4 : callP (evalFn Try.prog Try.cfg (k + 23)) 23 [V.str s1, V.str s0] = some (V.tup [V.str s4, V.int IntKind.i64 i1]))
    (c5 : callP (evalFn Try.prog Try.cfg (k + 23)) 23 [V.str s0, V.str s2] = some (V.tup [V.str s5, V.int IntKind.i64 i2]))
    (c6 : callP (evalFn Try.prog Try.cfg (k + 23)) 23 [V.str s3, V.str s2] = some (V.tup [V.str s6, V.int IntKind.i64 i3]))
    (c7 : callP (evalFn Try.prog Try.cfg (k + 23)) 23 [V.str s1, V.str s2] = some (V.tup [V.str s7, V.int IntKind.i64 i4]))
    (c8 : callP (evalFn Try.prog Try.cfg (k + 23)) 23 [V.str s0, V.str s7] = some (V.tup [V.str s8, V.int IntKind.i64 i5]))
    (c9 : (!decide (i0 = 0)) = false)
    (c10 : (!decide (i1 = 0)) = false)
    (c11 : (!decide (i2 = 0)) = false)
    (c12 : (!decide (i3 = 0)) = false)
    (c13 : (!decide (i4 = 0)) = false)
    (c14 : (!decide (i5 = 0)) = false)
    (c15 : (!decide ((↑s3.length : Int) = 16)) = false)
    (c16 : (!decide ((↑s5.length : Int) = 16)) = false)
    (c17 : callP (evalFn Try.prog Try.cfg (k + 23)) 26 [V.str s1, V.str s2] = some (V.str s9))
    (c18 : callP (evalFn Try.prog Try.cfg (k + 23)) 23 [V.str s0, V.str s9] = some (V.tup [V.str s10, V.int IntKind.i64 i6]))
    (c19 : callP (evalFn Try.prog Try.cfg (k + 23)) 23 [V.str s0, V.str [128, 0, 0, 0, 0, 0, 0, 0, 0, 0, 0, 0, 0, 0, 0, 0]] = some (V.tup [V.str s11, V.int IntKind.i64 i7]))
    (c20 : callP (evalFn Try.prog Try.cfg (k + 23)) 24 [] = some (V.bool b0))
    (c21 : b0 = true)
    (c22 : decide (i6 = 0) = true)
    (c23 : decide (i7 = 0) = true)
    (c24 : decide (s3 = s4) = true)
    (c25 : decide (s6 = s8) = true)
    (c26 : callP (evalFn Try.prog Try.cfg (k + 23)) 26 [V.str s3, V.str s5] = some (V.str s12))
    (c27 : decide (s10 = s12) = true)
    (c28 : decide (s11 = s0) = false) :
    callP (evalFn Try.prog Try.cfg (k + 24)) 6 [V.str s0, V.str s1, V.str s2] = some (V.bool false) :=
  byF (k := k) (d := 24) [Hn.br 29 false, Hn.br 34 false, Hn.br 38 false, Hn.call 59 (V.tup [V.str s3, V.int IntKind.i64 i0]), Hn.call 65 (V.tup [V.str s4, V.int IntKind.i64 i1]), Hn.call 71 (V.tup [V.str s5, V.int IntKind.i64 i2]), Hn.call 77 (V.tup [V.str s6, V.int IntKind.i64 i3]), Hn.call 83 (V.tup [V.str s7, V.int IntKind.i64 i4]), Hn.call 89 (V.tup [V.str s8, V.int IntKind.i64 i5]), Hn.br 94 false, Hn.br 98 false, Hn.br 102 false, Hn.br 106 false, Hn.br 110 false, Hn.br 114 false, Hn.br 119 false, Hn.br 123 false, Hn.call 128 (V.str s9), Hn.call 129 (V.tup [V.str s10, V.int IntKind.i64 i6]), Hn.call 134 (V.tup [V.str s11, V.int IntKind.i64 i7]), Hn.call 137 (V.bool b0), Hn.br 138 true, Hn.br 142 true, Hn.br 146 true, Hn.br 151 true, Hn.br 156 true, Hn.call 160 (V.str s12), Hn.br 163 true, Hn.br 168 false] (And.intro c0 (And.intro c1 (And.intro c2 (And.intro c3 (And.intro c4 (And.intro c5 (And.intro c6 (And.intro c7 (And.intro c8 (And.intro c9 (And.intro c10 (And.intro c11 (And.intro c12 (And.intro c13 (And.intro c14 (And.intro c15 (And.intro c16 (And.intro c17 (And.intro c18 (And.intro c19 (And.intro c20 (And.intro c21 (And.intro c22 (And.intro c23 (And.intro c24 (And.intro c25 (And.intro c26 (And.intro c27 (And.intro c28 trivial))))))))))))))))))))))))))))) (by kernel_rfl)
theorem P6_17 (i0 : Int) (i1 : Int) (i2 : Int) (i3 : Int) (i4 : Int) (i5 : Int) (i6 : Int) (i7 : Int) (b0 : Bool) (s0 : List UInt8) (s1 : List UInt8) (s2 : List UInt8) (s3 : List UInt8) (s4 : List UInt8) (s5 : List UInt8) (s6 : List UInt8) (s7 : List UInt8) (s8 : List UInt8) (s9 : List UInt8) (s10 : List UInt8) (s11 : List UInt8) (s12 : List UInt8) (k : Nat)
    (c0 : (!decide ((↑s0.length : Int) = 16)) = false)
    (c1 : (!decide ((↑s1.length : Int) = 16)) = false)
    (c2 : (!decide ((↑s2.length : Int) = 16)) = false)
    (c3 : callP (evalFn Try.prog Try.cfg (k + 23)) 23 [V.str s0, V.str s1] = some (V.tup [V.str s3, V.int IntKind.i64 i0]))
    (c4 : callP (evalFn Try.prog Try.cfg (k + 23)) 23 [V.str s1, V.str s0] = some (V.tup [V.str s4, V.int IntKind.i64 i1]))
    (c5 : callP (evalFn Try.prog Try.cfg (k + 23)) 23 [V.str s0, V.str s2] = some (V.tup [V.str s5, V.int IntKind.i64 i2]))
    (c6 : callP (evalFn Try.prog Try.cfg (k + 23)) 23 [V.str s3, V.str s2] = some (V.tup [V.str s6, V.int IntKind.i64 i3]))
    (c7 : callP (evalFn Try.prog Try.cfg (k + 23)) 23 [V.str s1, V.str s2] = some (V.tup [V.str s7, V.int IntKind.i64 i4]))
    (c8 : callP (evalFn Try.prog Try.cfg (k + 23)) 23 [V.str s0, V.str s7] = some (V.tup [V.str s8, V.int IntKind.i64 i5]))
    (c9 : (!decide (i0 = 0)) = false)
    (c10 : (!decide (i1 = 0)) = false)
    (c11 : (!decide (i2 = 0)) = false)
    (c12 : (!decide (i3 = 0)) = false)
    (c13 : (!decide (i4 = 0)) = false)
    (c14 : (!decide (i5 = 0)) = false)
    (c15 : (!decide ((↑s3.length : Int) = 16)) = false)
    (c16 : (!decide ((↑s5.length : Int) = 16)) = false)
    (c17 : callP (evalFn Try.prog Try.cfg (k + 23)) 26 [V.str s1, V.str s2] = some (V.str s9))
    (c18 : callP (evalFn Try.prog Try.cfg (k + 23)) 23 [V.str s0, V.str s9] = some (V.tup [V.str s10, V.int IntKind.i64 i6]))
    (c19 : callP (evalFn Try.prog Try.cfg (k + 23)) 23 [V.str s0, V.str [128, 0, 0, 0, 0, 0, 0, 0, 0, 0, 0, 0, 0, 0, 0, 0]] = some (V.tup [V.str s11, V.int IntKind.i64 i7]))
    (c20 : callP (evalFn Try.prog Try.cfg (k + 23)) 24 [] = some (V.bool b0))
    (c21 : b0 = true)
    (c22 : decide (i6 = 0) = true)
    (c23 : decide (i7 = 0) = true)
    (c24 : decide (s3 = s4) = true)
    (c25 : decide (s6 = s8) = true)
    (c26 : callP (evalFn Try.prog Try.cfg (k + 23)) 26 [V.str s3, V.str s5] = some (V.str s12))
    (c27 : decide (s10 = s12) = false) :
    callP (evalFn Try.prog Try.cfg (k + 24)) 6 [V.str s0, V.str s1, V.str s2] = some (V.bool false) :=
  byF (k := k) (d := 24) [Hn.br 29 false, Hn.br 34 false, Hn.br 38 false, Hn.call 59 (V.tup [V.str s3, V.int IntKind.i64 i0]), Hn.call 65 (V.tup [V.str s4, V.int IntKind.i64 i1]), Hn.call 71 (V.tup [V.str s5, V.int IntKind.i64 i2]), Hn.call 77 (V.tup [V.str s6, V.int IntKind.i64 i3]), Hn.call 83 (V.tup [V.str s7, V.int IntKind.i64 i4]), Hn.call 89 (V.tup [V.str s8, V.int IntKind.i64 i5]), Hn.br 94 false, Hn.br 98 false, Hn.br 102 false, Hn.br 106 false, Hn.br 110 false, Hn.br 114 false, Hn.br 119 false, Hn.br 123 false, Hn.call 128 (V.str s9), Hn.call 129 (V.tup [V.str s10, V.int IntKind.i64 i6]), Hn.call 134 (V.tup [V.str s11, V.int IntKind.i64 i7]), Hn.call 137 (V.bool b0), Hn.br 138 true, Hn.br 142 true, Hn.br 146 true, Hn.br 151 true, Hn.br 156 true, Hn.call 160 (V.str s12), Hn.br 163 false] (And.intro c0 (And.intro c1 (And.intro c2 (And.intro c3 (And.intro c4 (And.intro c5 (And.intro c6 (And.intro c7 (And.intro c8 (And.intro c9 (And.intro c10 (And.intro c11 (And.intro c12 (And.intro c13 (And.intro c14 (And.intro c15 (And.intro c16 (And.intro c17 (And.intro c18 (And.intro c19 (And.intro c20 (And.intro c21 (And.intro c22 (And.intro c23 (And.intro c24 (And.intro c25 (And.intro c26 (And.intro c27 trivial)))))))))))))))))))))))))))) (by kernel_rfl)
theorem P6_18 (i0 : Int) (i1 : Int) (i2 : Int) (i3 : Int) (i4 : Int) (i5 : Int) (i6 : Int) (i7 : Int) (b0 : Bool) (s0 : List UInt8) (s1 : List UInt8) (s2 : List UInt8) (s3 : List UInt8) (s4 : List UInt8) (s5 : List UInt8) (s6 : List UInt8) (s7 : List UInt8) (s8 : List UInt8) (s9 : List UInt8) (s10 : List UInt8) (s11 : List UInt8) (k : Nat)
    (c0 : (!decide ((↑s0.length : Int) = 16)) = false)
    (c1 : (!decide ((↑s1.length : Int) = 16)) = false)
    (c2 : (!decide ((↑s2.length : Int) = 16)) = false)
    (c3 : callP (evalFn Try.prog Try.cfg (k + 23)) 23 [V.str s0, V.str s1] = some (V.tup [V.str s3, V.int IntKind.i64 i0]))
    (c4 : callP (evalFn Try.prog Try.cfg (k + 23)) 23 [V.str s1, V.str s0] = some (V.tup [V.str s4, V.int IntKind.i64 i1]))
    (c5 : callP (evalFn Try.prog Try.cfg (k + 23)) 23 [V.str s0, V.str s2] = some (V.tup [V.str s5, V.int IntKind.i64 i2]))
    (c6 : callP (evalFn Try.prog Try.cfg (k + 23)) 23 [V.str s3, V.str s2] = some (V.tup [V.str s6, V.int IntKind.i64 i3]))
    (c7 : callP (evalFn Try.prog Try.cfg (k + 23)) 23 [V.str s1, V.str s2] = some (V.tup [V.str s7, V.int IntKind.i64 i4]))
    (c8 : callP (evalFn Try.prog Try.cfg (k + 23)) 23 [V.str s0, V.str s7] = some (V.tup [V.str s8, V.int IntKind.i64 i5]))
    (c9 : (!decide (i0 = 0)) = false)
    (c10 : (!decide (i1 = 0)) = false)
    (c11 : (!decide (i2 = 0)) = false)
    (c12 : (!decide (i3 = 0)) = false)
    (c13 : (!decide (i4 = 0)) = false)
    (c14 : (!decide (i5 = 0)) = false)
    (c15 : (!decide ((↑s3.length : Int) = 16)) = false)
    (c16 : (!decide ((↑s5.length : Int) = 16)) = false)
    (c17 : callP (evalFn Try.prog Try.cfg (k + 23)) 26 [V.str s1, V.str s2] = some (V.str s9))
    (c18 : callP (evalFn Try.prog Try.cfg (k + 23)) 23 [V.str s0, V.str s9] = some (V.tup [V.str s10, V.int IntKind.i64 i6]))
    (c19 : callP (evalFn Try.prog Try.cfg (k + 23)) 23 [V.str s0, V.str [128, 0, 0, 0, 0, 0, 0, 0, 0, 0, 0, 0, 0, 0, 0, 0]] = some (V.tup [V.str s11, V.int IntKind.i64 i7]))
    (c20 : callP (evalFn Try.prog Try.cfg (k + 23)) 24 [] = some (V.bool b0))
    (c21 : b0 = true)
    (c22 : decide (i6 = 0) = true)
    (c23 : decide (i7 = 0) = true)
    (c24 : decide (s3 = s4) = true)
    (c25 : decide (s6 = s8) = false) :
    callP (evalFn Try.prog Try.cfg (k + 24)) 6 [V.str s0, V.str s1, V.str s2] = some (V.bool false) :=
  byF (k := k) (d := 24) [Hn.br 29 false, Hn.br 34 false, Hn.br 38 false, Hn.call 59 (V.tup [V.str s3, V.int IntKind.i64 i0]), Hn.call 65 (V.tup [V.str s4, V.int IntKind.i64 i1]), Hn.call 71 (V.tup [V.str s5, V.int IntKind.i64 i2]), Hn.call 77 (V.tup [V.str s6, V.int IntKind.i64 i3]), Hn.call 83 (V.tup [V.str s7, V.int IntKind.i64 i4]), Hn.call 89 (V.tup [V.str s8, V.int IntKind.i64 i5]), Hn.br 94 false, Hn.br 98 false, Hn.br 102 false, Hn.br 106 false, Hn.br 110 false, Hn.br 114 false, Hn.br 119 false, Hn.br 123 false, Hn.call 128 (V.str s9), Hn.call 129 (V.tup [V.str s10, V.int IntKind.i64 i6]), Hn.call 134 (V.tup [V.str s11, V.int IntKind.i64 i7]), Hn.call 137 (V.bool b0), Hn.br 138 true, Hn.br 142 true, Hn.br 146 true, Hn.br 151 true, Hn.br 156 false] (And.intro c0 (And.intro c1 (And.intro c2 (And.intro c3 (And.intro c4 (And.intro c5 (And.intro c6 (And.intro c7 (And.intro c8 (And.intro c9 (And.intro c10 (And.intro c11 (And.intro c12 (And.intro c13 (And.intro c14 (And.intro c15 (And.intro c16 (And.intro c17 (And.intro c18 (And.intro c19 (And.intro c20 (And.intro c21 (And.intro c22 (And.intro c23 (And.intro c24 (And.intro c25 trivial)))))))))))))))))))))))))) (by kernel_rfl)
theorem P6_19 (i0 : Int) (i1 : Int) (i2 : Int) (i3 : Int) (i4 : Int) (i5 : Int) (i6 : Int) (i7 : Int) (b0 : Bool) (s0 : List UInt8) (s1 : List UInt8) (s2 : List UInt8) (s3 : List UInt8) (s4 : List UInt8) (s5 : List UInt8) (s6 : List UInt8) (s7 : List UInt8) (s8 : List UInt8) (s9 : List UInt8) (s10 : List UInt8) (s11 : List UInt8) (k : Nat)
    (c0 : (!decide ((↑s0.length : Int) = 16)) = false)
    (c1 : (!decide ((↑s1.length : Int) = 16)) = false)
    (c2 : (!decide ((↑s2.length : Int) = 16)) = false)
    (c3 : callP (evalFn Try.prog Try.cfg (k + 23)) 23 [V.str s0, V.str s1] = some (V.tup [V.str s3, V.int IntKind.i64 i0]))
    (c4 : callP (evalFn Try.prog Try.cfg (k + 23)) 23 [V.str s1, V.str s0] = some (V.tup [V.str s4, V.int IntKind.i64 i1]))
    (c5 : callP (evalFn Try.prog Try.cfg (k + 23)) 23 [V.str s0, V.str s2] = some (V.tup [V.str s5, V.int IntKind.i64 i2]))
    (c6 : callP (evalFn Try.prog Try.cfg (k + 23)) 23 [V.str s3, V.str s2] = some (V.tup [V.str s6, V.int IntKind.i64 i3]))
    (c7 : callP (evalFn Try.prog Try.cfg (k + 23)) 23 [V.str s1, V.str s2] = some (V.tup [V.str s7, V.int IntKind.i64 i4]))
    (c8 : callP (evalFn Try.prog Try.cfg (k + 23)) 23 [V.str s0, V.str s7] = some (V.tup [V.str s8, V.int IntKind.i64 i5]))
    (c9 : (!decide (i0 = 0)) = false)
    (c10 : (!decide (i1 = 0)) = false)
    (c11 : (!decide (i2 = 0)) = false)
    (c12 : (!decide (i3 = 0)) = false)
    (c13 : (!decide (i4 = 0)) = false)
    (c14 : (!decide (i5 = 0)) = false)
    (c15 : (!decide ((↑s3.length : Int) = 16)) = false)
    (c16 : (!decide ((↑s5.length : Int) = 16)) = false)
    (c17 : callP (evalFn Try.prog Try.cfg (k + 23)) 26 [V.str s1, V.str s2] = some (V.str s9))
    (c18 : callP (evalFn Try.prog Try.cfg (k + 23)) 23 [V.str s0, V.str s9] = some (V.tup [V.str s10, V.int IntKind.i64 i6]))
    (c19 : callP (evalFn Try.prog Try.cfg (k + 23)) 23 [V.str s0, V.str [128, 0, 0, 0, 0, 0, 0, 0, 0, 0, 0, 0, 0, 0, 0, 0]] = some (V.tup [V.str s11, V.int IntKind.i64 i7]))
    (c20 : callP (evalFn Try.prog Try.cfg (k + 23)) 24 [] = some (V.bool b0))
    (c21 : b0 = true)
    (c22 : decide (i6 = 0) = true)
    (c23 : decide (i7 = 0) = true)
    (c24 : decide (s3 = s4) = false) :
    callP (evalFn Try.prog Try.cfg (k + 24)) 6 [V.str s0, V.str s1, V.str s2] = some (V.bool false) :=
  byF (k := k) (d := 24) [Hn.br 29 false, Hn.br 34 false, Hn.br 38 false, Hn.call 59 (V.tup [V.str s3, V.int IntKind.i64 i0]), Hn.call 65 (V.tup [V.str s4, V.int IntKind.i64 i1]), Hn.call 71 (V.tup [V.str s5, V.int IntKind.i64 i2]), Hn.call 77 (V.tup [V.str s6, V.int IntKind.i64 i3]), Hn.call 83 (V.tup [V.str s7, V.int IntKind.i64 i4]), Hn.call 89 (V.tup [V.str s8, V.int IntKind.i64 i5]), Hn.br 94 false, Hn.br 98 false, Hn.br 102 false, Hn.br 106 false, Hn.br 110 false, Hn.br 114 false, Hn.br 119 false, Hn.br 123 false, Hn.call 128 (V.str s9), Hn.call 129 (V.tup [V.str s10, V.int IntKind.i64 i6]), Hn.call 134 (V.tup [V.str s11, V.int IntKind.i64 i7]), Hn.call 137 (V.bool b0), Hn.br 138 true, Hn.br 142 true, Hn.br 146 true, Hn.br 151 false] (And.intro c0 (And.intro c1 (And.intro c2 (And.intro c3 (And.intro c4 (And.intro c5 (And.intro c6 (And.intro c7 (And.intro c8 (And.intro c9 (And.intro c10 (And.intro c11 (And.intro c12 (And.intro c13 (And.intro c14 (And.intro c15 (And.intro c16 (And.intro c17 (And.intro c18 (And.intro c19 (And.intro c20 (And.intro c21 (And.intro c22 (And.intro c23 (And.intro c24 trivial))))))))))))))))))))))))) (by kernel_rfl)
theorem P6_20 (i0 : Int) (i1 : Int) (i2 : Int) (i3 : Int) (i4 : Int) (i5 : Int) (i6 : Int) (i7 : Int) (b0 : Bool) (s0 : List UInt8) (s1 : List UInt8) (s2 : List UInt8) (s3 : List UInt8) (s4 : List UInt8) (s5 : List UInt8) (s6 : List UInt8) (s7 : List UInt8) (s8 : List UInt8) (s9 : List UInt8) (s10 : List UInt8) (s11 : List UInt8) (k : Nat)
    (c0 : (!decide ((↑s0.length : Int) = 16)) = false)
    (c1 : (!decide ((↑s1.length : Int) = 16)) = false)
    (c2 : (!decide ((↑s2.length : Int) = 16)) = false)
    (c3 : callP (evalFn Try.prog Try.cfg (k + 23)) 23 [V.str s0, V.str s1] = some (V.tup [V.str s3, V.int IntKind.i64 i0]))
    (c4 : callP (evalFn Try.prog Try.cfg (k + 23)) 23 [V.str s1, V.str s0] = some (V.tup [V.str s4, V.int IntKind.i64 i1]))
    (c5 : callP (evalFn Try.prog Try.cfg (k + 23)) 23 [V.str s0, V.str s2] = some (V.tup [V.str s5, V.int IntKind.i64 i2]))
    (c6 : callP (evalFn Try.prog Try.cfg (k + 23)) 23 [V.str s3, V.str s2] = some (V.tup [V.str s6, V.int IntKind.i64 i3]))
    (c7 : callP (evalFn Try.prog Try.cfg (k + 23)) 23 [V.str s1, V.str s2] = some (V.tup [V.str s7, V.int IntKind.i64 i4]))
    (c8 : callP (evalFn Try.prog Try.cfg (k + 23)) 23 [V.str s0, V.str s7] = some (V.tup [V.str s8, V.int IntKind.i64 i5]))
    (c9 : (!decide (i0 = 0)) = false)
    (c10 : (!decide (i1 = 0)) = false)
    (c11 : (!decide (i2 = 0)) = false)
    (c12 : (!decide (i3 = 0)) = false)
    (c13 : (!decide (i4 = 0)) = false)
    (c14 : (!decide (i5 = 0)) = false)
    (c15 : (!decide ((↑s3.length : Int) = 16)) = false)
    (c16 : (!decide ((↑s5.length : Int) = 16)) = false)
    (c17 : callP (evalFn Try.prog Try.cfg (k + 23)) 26 [V.str s1, V.str s2] = some (V.str s9))
    (c18 : callP (evalFn Try.prog Try.cfg (k + 23)) 23 [V.str s0, V.str s9] = some (V.tup [V.str s10, V.int IntKind.i64 i6]))
    (c19 : callP (evalFn Try.prog Try.cfg (k + 23)) 23 [V.str s0, V.str [128, 0, 0, 0, 0, 0, 0, 0, 0, 0, 0, 0, 0, 0, 0, 0]] = some (V.tup [V.str s11, V.int IntKind.i64 i7]))
    (c20 : callP (evalFn Try.prog Try.cfg (k + 23)) 24 [] = some (V.bool b0))
    (c21 : b0 = true)
    (c22 : decide (i6 = 0) = true)
    (c23 : decide (i7 = 0) = false) :
    callP (evalFn Try.prog Try.cfg (k + 24)) 6 [V.str s0, V.str s1, V.str s2] = some (V.bool false) :=
  byF (k := k) (d := 24) [Hn.br 29 false, Hn.br 34 false, Hn.br 38 false, Hn.call 59 (V.tup [V.str s3, V.int IntKind.i64 i0]), Hn.call 65 (V.tup [V.str s4, V.int IntKind.i64 i1]), Hn.call 71 (V.tup [V.str s5, V.int IntKind.i64 i2]), Hn.call 77 (V.tup [V.str s6, V.int IntKind.i64 i3]), Hn.call 83 (V.tup [V.str s7, V.int IntKind.i64 i4]), Hn.call 89 (V.tup [V.str s8, V.int IntKind.i64 i5]), Hn.br 94 false, Hn.br 98 false, Hn.br 102 false, Hn.br 106 false, Hn.br 110 false, Hn.br 114 false, Hn.br 119 false, Hn.br 123 false, Hn.call 128 (V.str s9), Hn.call 129 (V.tup [V.str s10, V.int IntKind.i64 i6]), Hn.call 134 (V.tup [V.str s11, V.int IntKind.i64 i7]), Hn.call 137 (V.bool b0), Hn.br 138 true, Hn.br 142 true, Hn.br 146 false] (And.intro c0 (And.intro c1 (And.intro c2 (And.intro c3 (And.intro c4 (And.intro c5 (And.intro c6 (And.intro c7 (And.intro c8 (And.intro c9 (And.intro c10 (And.intro c11 (And.intro c12 (And.intro c13 (And.intro c14 (And.intro c15 (And.intro c16 (And.intro c17 (And.intro c18 (And.intro c19 (And.intro c20 (And.intro c21 (And.intro c22 (And.intro c23 trivial)))))))))))))))))))))))) (by kernel_rfl)
theorem P6_21 (i0 : Int) (i1 : Int) (i2 : Int) (i3 : Int) (i4 : Int) (i5 : Int) (i6 : Int) (i7 : Int) (b0 : Bool) (s0 : List UInt8) (s1 : List UInt8) (s2 : List UInt8) (s3 : List UInt8) (s4 : List UInt8) (s5 : List UInt8) (s6 : List UInt8) (s7 : List UInt8) (s8 : List UInt8) (s9 : List UInt8) (s10 : List UInt8) (s11 : List UInt8) (k : Nat)
    (c0 : (!decide ((↑s0.length : Int) = 16)) = false)
    (c1 : (!decide ((↑s1.length : Int) = 16)) = false)
    (c2 : (!decide ((↑s2.length : Int) = 16)) = false)
    (c3 : callP (evalFn Try.prog Try.cfg (k + 23)) 23 [V.str s0, V.str s1] = some (V.tup [V.str s3, V.int IntKind.i64 i0]))
    (c4 : callP (evalFn Try.prog Try.cfg (k + 23)) 23 [V.str s1, V.str s0] = some (V.tup [V.str s4, V.int IntKind.i64 i1]))
    (c5 : callP (evalFn Try.prog Try.cfg (k + 23)) 23 [V.str s0, V.str s2] = some (V.tup [V.str s5, V.int IntKind.i64 i2]))
    (c6 : callP (evalFn Try.prog Try.cfg (k + 23)) 23 [V.str s3, V.str s2] = some (V.tup [V.str s6, V.int IntKind.i64 i3]))
    (c7 : callP (evalFn Try.prog Try.cfg (k + 23)) 23 [V.str s1, V.str s2] = some (V.tup [V.str s7, V.int IntKind.i64 i4]))
    (c8 : callP (evalFn Try.prog Try.cfg (k + 23)) 23 [V.str s0, V.str s7] = some (V.tup [V.str s8, V.int IntKind.i64 i5]))
    (c9 : (!decide (i0 = 0)) = false)
    (c10 : (!decide (i1 = 0)) = false)
    (c11 : (!decide (i2 = 0)) = false)
    (c12 : (!decide (i3 = 0)) = false)
    (c13 : (!decide (i4 = 0)) = false)
    (c14 : (!decide (i5 = 0)) = false)
    (c15 : (!decide ((↑s3.length : Int) = 16)) = false)
    (c16 : (!decide ((↑s5.length : Int) = 16)) = false)
    (c17 : callP (evalFn Try.prog Try.cfg (k + 23)) 26 [V.str s1, V.str s2] = some (V.str s9))
    (c18 : callP (evalFn Try.prog Try.cfg (k + 23)) 23 [V.str s0, V.str s9] = some (V.tup [V.str s10, V.int IntKind.i64 i6]))
    (c19 : callP (evalFn Try.prog Try.cfg (k + 23)) 23 [V.str s0, V.str [128, 0, 0, 0, 0, 0, 0, 0, 0, 0, 0, 0, 0, 0, 0, 0]] = some (V.tup [V.str s11, V.int IntKind.i64 i7]))
    (c20 : callP (evalFn Try.prog Try.cfg (k + 23)) 24 [] = some (V.bool b0))
    (c21 : b0 = true)
    (c22 : decide (i6 = 0) = false) :
    callP (evalFn Try.prog Try.cfg (k + 24)) 6 [V.str s0, V.str s1, V.str s2] = some (V.bool false) :=
  byF (k := k) (d := 24) [Hn.br 29 false, Hn.br 34 false, Hn.br 38 false, Hn.call 59 (V.tup [V.str s3, V.int IntKind.i64 i0]), Hn.call 65 (V.tup [V.str s4, V.int IntKind.i64 i1]), Hn.call 71 (V.tup [V.str s5, V.int IntKind.i64 i2]), Hn.call 77 (V.tup [V.str s6, V.int IntKind.i64 i3]), Hn.call 83 (V.tup [V.str s7, V.int IntKind.i64 i4]), Hn.call 89 (V.tup [V.str s8, V.int IntKind.i64 i5]), Hn.br 94 false, Hn.br 98 false, Hn.br 102 false, Hn.br 106 false, Hn.br 110 false, Hn.br 114 false, Hn.br 119 false, Hn.br 123 false, Hn.call 128 (V.str s9), Hn.call 129 (V.tup [V.str s10, V.int IntKind.i64 i6]), Hn.call 134 (V.tup [V.str s11, V.int IntKind.i64 i7]), Hn.call 137 (V.bool b0), Hn.br 138 true, Hn.br 142 false] (And.intro c0 (And.intro c1 (And.intro c2 (And.intro c3 (And.intro c4 (And.intro c5 (And.intro c6 (And.intro c7 (And.intro c8 (And.intro c9 (And.intro c10 (And.intro c11 (And.intro c12 (And.intro c13 (And.intro c14 (And.intro c15 (And.intro c16 (And.intro c17 (And.intro c18 (And.intro c19 (And.intro c20 (And.intro c21 (And.intro c22 trivial))))))))))))))))))))))) (by kernel_rfl)
theorem P6_22 (i0 : Int) (i1 : Int) (i2 : Int) (i3 : Int) (i4 : Int) (i5 : Int) (i6 : Int) (i7 : Int) (b0 : Bool) (s0 : List UInt8) (s1 : List UInt8) (s2 : List UInt8) (s3 : List UInt8) (s4 : List UInt8) (s5 : List UInt8) (s6 : List UInt8) (s7 : List UInt8) (s8 : List UInt8) (s9 : List UInt8) (s10 : List UInt8) (s11 : List UInt8) (k : Nat)
    (c0 : (!decide ((↑s0.length : Int) = 16)) = false)
    (c1 : (!decide ((↑s1.length : Int) = 16)) = false)
    (c2 : (!decide ((↑s2.length : Int) = 16)) = false)
    (c3 : callP (evalFn Try.prog Try.cfg (k + 23)) 23 [V.str s0, V.str s1] = some (V.tup [V.str s3, V.int IntKind.i64 i0]))
    (c4 : callP (evalFn Try.prog Try.cfg (k + 23)) 23 [V.str s1, V.str s0] = some (V.tup [V.str s4, V.int IntKind.i64 i1]))
    (c5 : callP (evalFn Try.prog Try.cfg (k + 23)) 23 [V.str s0, V.str s2] = some (V.tup [V.str s5, V.int IntKind.i64 i2]))
    (c6 : callP (evalFn Try.prog Try.cfg (k + 23)) 23 [V.str s3, V.str s2] = some (V.tup [V.str s6, V.int IntKind.i64 i3]))
    (c7 : callP (evalFn Try.prog Try.cfg (k + 23)) 23 [V.str s1, V.str s2] = some (V.tup [V.str s7, V.int IntKind.i64 i4]))
    (c8 : callP (evalFn Try.prog Try.cfg (k + 23)) 23 [V.str s0, V.str s7] = some (V.tup [V.str s8, V.int IntKind.i64 i5]))
    (c9 : (!decide (i0 = 0)) = false)
    (c10 : (!decide (i1 = 0)) = false)
    (c11 : (!decide (i2 = 0)) = false)
    (c12 : (!decide (i3 = 0)) = false)
    (c13 : (!decide (i4 = 0)) = false)
    (c14 : (!decide (i5 = 0)) = false)
    (c15 : (!decide ((↑s3.length : Int) = 16)) = false)
    (c16 : (!decide ((↑s5.length : Int) = 16)) = false)
    (c17 : callP (evalFn Try.prog Try.cfg (k + 23)) 26 [V.str s1, V.str s2] = some (V.str s9))
    (c18 : callP (evalFn Try.prog Try.cfg (k + 23)) 23 [V.str s0, V.str s9] = some (V.tup [V.str s10, V.int IntKind.i64 i6]))
    (c19 : callP (evalFn Try.prog Try.cfg (k + 23)) 23 [V.str s0, V.str [128, 0, 0, 0, 0, 0, 0, 0, 0, 0, 0, 0, 0, 0, 0, 0]] = some (V.tup [V.str s11, V.int IntKind.i64 i7]))
    (c20 : callP (evalFn Try.prog Try.cfg (k + 23)) 24 [] = some (V.bool b0))
    (c21 : b0 = false) :
    callP (evalFn Try.prog Try.cfg (k + 24)) 6 [V.str s0, V.str s1, V.str s2] = some (V.bool false) :=
  byF (k := k) (d := 24) [Hn.br 29 false, Hn.br 34 false, Hn.br 38 false, Hn.call 59 (V.tup [V.str s3, V.int IntKind.i64 i0]), Hn.call 65 (V.tup [V.str s4, V.int IntKind.i64 i1]), Hn.call 71 (V.tup [V.str s5, V.int IntKind.i64 i2]), Hn.call 77 (V.tup [V.str s6, V.int IntKind.i64 i3]), Hn.call 83 (V.tup [V.str s7, V.int IntKind.i64 i4]), Hn.call 89 (V.tup [V.str s8, V.int IntKind.i64 i5]), Hn.br 94 false, Hn.br 98 false, Hn.br 102 false, Hn.br 106 false, Hn.br 110 false, Hn.br 114 false, Hn.br 119 false, Hn.br 123 false, Hn.call 128 (V.str s9), Hn.call 129 (V.tup [V.str s10, V.int IntKind.i64 i6]), Hn.call 134 (V.tup [V.str s11, V.int IntKind.i64 i7]), Hn.call 137 (V.bool b0), Hn.br 138 false] (And.intro c0 (And.intro c1 (And.intro c2 (And.intro c3 (And.intro c4 (And.intro c5 (And.intro c6 (And.intro c7 (And.intro c8 (And.intro c9 (And.intro c10 (And.intro c11 (And.intro c12 (And.intro c13 (And.intro c14 (And.intro c15 (And.intro c16 (And.intro c17 (And.intro c18 (And.intro c19 (And.intro c20 (And.intro c21 trivial)))))))))))))))))))))) (by kernel_rfl)
def F6 (k : Nat) (s0 : List UInt8) (s1 : List UInt8) (s2 : List UInt8) : Option (Bool) :=
  (bif !decide ((↑s0.length : Int) = 16) then (guardP (((0 : Int) ≤ if (15 : Int) < (↑s0.length : Int) then (15 : Int) else (↑s0.length : Int)) ∧ (if (15 : Int) < (↑s0.length : Int) then (15 : Int) else (↑s0.length : Int)) ≤ (↑s0.length : Int)) ((F23 (k + 5) (List.take (if 15 < (↑s0.length : Int) then 15 else (↑s0.length : Int)).toNat s0) (s1)).bind fun (s3, i0) => ((F24 (k + 2)).bind fun b0 => (bif b0 then (some (decide (i0 = 4))) else (some (false)))))) else (bif !decide ((↑s1.length : Int) = 16) then (guardP (((0 : Int) ≤ if (15 : Int) < (↑s0.length : Int) then (15 : Int) else (↑s0.length : Int)) ∧ (if (15 : Int) < (↑s0.length : Int) then (15 : Int) else (↑s0.length : Int)) ≤ (↑s0.length : Int)) ((F23 (k + 5) (List.take (if 15 < (↑s0.length : Int) then 15 else (↑s0.length : Int)).toNat s0) (s1)).bind fun (s3, i0) => ((F24 (k + 2)).bind fun b0 => (bif b0 then (some (decide (i0 = 4))) else (some (false)))))) else (bif !decide ((↑s2.length : Int) = 16) then (guardP (((0 : Int) ≤ if (15 : Int) < (↑s0.length : Int) then (15 : Int) else (↑s0.length : Int)) ∧ (if (15 : Int) < (↑s0.length : Int) then (15 : Int) else (↑s0.length : Int)) ≤ (↑s0.length : Int)) ((F23 (k + 5) (List.take (if 15 < (↑s0.length : Int) then 15 else (↑s0.length : Int)).toNat s0) (s1)).bind fun (s3, i0) => ((F24 (k + 2)).bind fun b0 => (bif b0 then (some (decide (i0 = 4))) else (some (false)))))) else ((F23 (k + 5) (s0) (s1)).bind fun (s3, i0) => ((F23 (k + 5) (s1) (s0)).bind fun (s4, i1) => ((F23 (k + 5) (s0) (s2)).bind fun (s5, i2) => ((F23 (k + 5) (s3) (s2)).bind fun (s6, i3) => ((F23 (k + 5) (s1) (s2)).bind fun (s7, i4) => ((F23 (k + 5) (s0) (s7)).bind fun (s8, i5) => (bif !decide (i0 = 0) then (some (false)) else (bif !decide (i1 = 0) then (some (false)) else (bif !decide (i2 = 0) then (some (false)) else (bif !decide (i3 = 0) then (some (false)) else (bif !decide (i4 = 0) then (some (false)) else (bif !decide (i5 = 0) then (some (false)) else (bif !decide ((↑s3.length : Int) = 16) then (some (false)) else (bif !decide ((↑s5.length : Int) = 16) then (some (false)) else ((F26 (k + 20) (s1) (s2)).bind fun s9 => ((F23 (k + 5) (s0) (s9)).bind fun (s10, i6) => ((F23 (k + 5) (s0) ([128, 0, 0, 0, 0, 0, 0, 0, 0, 0, 0, 0, 0, 0, 0, 0])).bind fun (s11, i7) => ((F24 (k + 2)).bind fun b0 => (bif b0 then (bif decide (i6 = 0) then (bif decide (i7 = 0) then (bif decide (s3 = s4) then (bif decide (s6 = s8) then ((F26 (k + 20) (s3) (s5)).bind fun s12 => (bif decide (s10 = s12) then (bif decide (s11 = s0) then (bif decide (s0 = [0, 0, 0, 0, 0, 0, 0, 0, 0, 0, 0, 0, 0, 0, 0, 0]) then (some (decide (decide (s3 = [0, 0, 0, 0, 0, 0, 0, 0, 0, 0, 0, 0, 0, 0, 0, 0]) = true))) else (some (decide (decide (s3 = [0, 0, 0, 0, 0, 0, 0, 0, 0, 0, 0, 0, 0, 0, 0, 0]) = decide (s1 = [0, 0, 0, 0, 0, 0, 0, 0, 0, 0, 0, 0, 0, 0, 0, 0]))))) else (some (false))) else (some (false)))) else (some (false))) else (some (false))) else (some (false))) else (some (false))) else (some (false))))))))))))))))))))))))
theorem F6_ok {s0 : List UInt8} {s1 : List UInt8} {s2 : List UInt8} {k : Nat} {r : Bool} (h : F6 k s0 s1 s2 = some r) :
    callP (evalFn Try.prog Try.cfg (k + 24)) 6 [V.str s0, V.str s1, V.str s2] = some (V.bool r) := by
  unfold F6 at h
  rcases cond_elim h with ⟨e0, h⟩ | ⟨e0, h⟩
  ·
    obtain ⟨e1, h⟩ := guardP_some.1 h
    obtain ⟨⟨s3, i0⟩, e2, h⟩ := Option.bind_eq_some_iff.1 h
    obtain ⟨b0, e3, h⟩ := Option.bind_eq_some_iff.1 h
    rcases cond_elim h with ⟨e4, h⟩ | ⟨e4, h⟩
    ·
      have h := Option.some.inj h; subst h; exact P6_0 i0 b0 s0 s1 s2 s3 k e0 (SlcP.strUptoS e1) (F23_ok e2) (F24_ok e3) e4
    ·
      have h := Option.some.inj h; subst h; exact P6_1 i0 b0 s0 s1 s2 s3 k e0 (SlcP.strUptoS e1) (F23_ok e2) (F24_ok e3) e4
  ·
    rcases cond_elim h with ⟨e1, h⟩ | ⟨e1, h⟩
    ·
      obtain ⟨e2, h⟩ := guardP_some.1 h
      obtain ⟨⟨s3, i0⟩, e3, h⟩ := Option.bind_eq_some_iff.1 h
      obtain ⟨b0, e4, h⟩ := Option.bind_eq_some_iff.1 h
      rcases cond_elim h with ⟨e5, h⟩ | ⟨e5, h⟩
      ·
        have h := Option.some.inj h; subst h; exact P6_2 i0 b0 s0 s1 s2 s3 k e0 e1 (SlcP.strUptoS e2) (F23_ok e3) (F24_ok e4) e5
      ·
        have h := Option.some.inj h; subst h; exact P6_3 i0 b0 s0 s1 s2 s3 k e0 e1 (SlcP.strUptoS e2) (F23_ok e3) (F24_ok e4) e5
    ·
      rcases cond_elim h with ⟨e2, h⟩ | ⟨e2, h⟩
      ·
        obtain ⟨e3, h⟩ := guardP_some.1 h
        obtain ⟨⟨s3, i0⟩, e4, h⟩ := Option.bind_eq_some_iff.1 h
        obtain ⟨b0, e5, h⟩ := Option.bind_eq_some_iff.1 h
        rcases cond_elim h with ⟨e6, h⟩ | ⟨e6, h⟩
        ·
          have h := Option.some.inj h; subst h; exact P6_4 i0 b0 s0 s1 s2 s3 k e0 e1 e2 (SlcP.strUptoS e3) (F23_ok e4) (F24_ok e5) e6
        ·
          have h := Option.some.inj h; subst h; exact P6_5 i0 b0 s0 s1 s2 s3 k e0 e1 e2 (SlcP.strUptoS e3) (F23_ok e4) (F24_ok e5) e6
      ·
        obtain ⟨⟨s3, i0⟩, e3, h⟩ := Option.bind_eq_some_iff.1 h
        obtain ⟨⟨s4, i1⟩, e4, h⟩ := Option.bind_eq_some_iff.1 h
        obtain ⟨⟨s5, i2⟩, e5, h⟩ := Option.bind_eq_some_iff.1 h
        obtain ⟨⟨s6, i3⟩, e6, h⟩ := Option.bind_eq_some_iff.1 h
        obtain ⟨⟨s7, i4⟩, e7, h⟩ := Option.bind_eq_some_iff.1 h
        obtain ⟨⟨s8, i5⟩, e8, h⟩ := Option.bind_eq_some_iff.1 h
        rcases cond_elim h with ⟨e9, h⟩ | ⟨e9, h⟩
        ·
          have h := Option.some.inj h; subst h; exact P6_6 i0 i1 i2 i3 i4 i5 s0 s1 s2 s3 s4 s5 s6 s7 s8 k e0 e1 e2 (F23_ok e3) (F23_ok e4) (F23_ok e5) (F23_ok e6) (F23_ok e7) (F23_ok e8) e9
        ·
          rcases cond_elim h with ⟨e10, h⟩ | ⟨e10, h⟩
          ·
            have h := Option.some.inj h; subst h; exact P6_7 i0 i1 i2 i3 i4 i5 s0 s1 s2 s3 s4 s5 s6 s7 s8 k e0 e1 e2 (F23_ok e3) (F23_ok e4) (F23_ok e5) (F23_ok e6) (F23_ok e7) (F23_ok e8) e9 e10
          ·
            rcases cond_elim h with ⟨e11, h⟩ | ⟨e11, h⟩
            ·
              have h := Option.some.inj h; subst h; exact P6_8 i0 i1 i2 i3 i4 i5 s0 s1 s2 s3 s4 s5 s6 s7 s8 k e0 e1 e2 (F23_ok e3) (F23_ok e4) (F23_ok e5) (F23_ok e6) (F23_ok e7) (F23_ok e8) e9 e10 e11
            ·
              rcases cond_elim h with ⟨e12, h⟩ | ⟨e12, h⟩
              ·
                have h := Option.some.inj h; subst h; exact P6_9 i0 i1 i2 i3 i4 i5 s0 s1 s2 s3 s4 s5 s6 s7 s8 k e0 e1 e2 (F23_ok e3) (F23_ok e4) (F23_ok e5) (F23_ok e6) (F23_ok e7) (F23_ok e8) e9 e10 e11 e12
              ·
                rcases cond_elim h with ⟨e13, h⟩ | ⟨e13, h⟩
                ·
                  have h := Option.some.inj h; subst h; exact P6_10 i0 i1 i2 i3 i4 i5 s0 s1 s2 s3 s4 s5 s6 s7 s8 k e0 e1 e2 (F23_ok e3) (F23_ok e4) (F23_ok e5) (F23_ok e6) (F23_ok e7) (F23_ok e8) e9 e10 e11 e12 e13
                ·
                  rcases cond_elim h with ⟨e14, h⟩ | ⟨e14, h⟩
                  ·
                    have h := Option.some.inj h; subst h; exact P6_11 i0 i1 i2 i3 i4 i5 s0 s1 s2 s3 s4 s5 s6 s7 s8 k e0 e1 e2 (F23_ok e3) (F23_ok e4) (F23_ok e5) (F23_ok e6) (F23_ok e7) (F23_ok e8) e9 e10 e11 e12 e13 e14
                  ·
                    rcases cond_elim h with ⟨e15, h⟩ | ⟨e15, h⟩
                    ·
                      have h := Option.some.inj h; subst h; exact P6_12 i0 i1 i2 i3 i4 i5 s0 s1 s2 s3 s4 s5 s6 s7 s8 k e0 e1 e2 (F23_ok e3) (F23_ok e4) (F23_ok e5) (F23_ok e6) (F23_ok e7) (F23_ok e8) e9 e10 e11 e12 e13 e14 e15
                    ·
                      rcases cond_elim h with ⟨e16, h⟩ | ⟨e16, h⟩
                      ·
                        have h := Option.some.inj h; subst h; exact P6_13 i0 i1 i2 i3 i4 i5 s0 s1 s2 s3 s4 s5 s6 s7 s8 k e0 e1 e2 (F23_ok e3) (F23_ok e4) (F23_ok e5) (F23_ok e6) (F23_ok e7) (F23_ok e8) e9 e10 e11 e12 e13 e14 e15 e16
                      ·
                        obtain ⟨s9, e17, h⟩ := Option.bind_eq_some_iff.1 h
                        obtain ⟨⟨s10, i6⟩, e18, h⟩ := Option.bind_eq_some_iff.1 h
                        obtain ⟨⟨s11, i7⟩, e19, h⟩ := Option.bind_eq_some_iff.1 h
                        obtain ⟨b0, e20, h⟩ := Option.bind_eq_some_iff.1 h
                        rcases cond_elim h with ⟨e21, h⟩ | ⟨e21, h⟩
                        ·
                          rcases cond_elim h with ⟨e22, h⟩ | ⟨e22, h⟩
                          ·
                            rcases cond_elim h with ⟨e23, h⟩ | ⟨e23, h⟩
                            ·
                              rcases cond_elim h with ⟨e24, h⟩ | ⟨e24, h⟩
                              ·
                                rcases cond_elim h with ⟨e25, h⟩ | ⟨e25, h⟩
                                ·
                                  obtain ⟨s12, e26, h⟩ := Option.bind_eq_some_iff.1 h
                                  rcases cond_elim h with ⟨e27, h⟩ | ⟨e27, h⟩
                                  ·
                                    rcases cond_elim h with ⟨e28, h⟩ | ⟨e28, h⟩
                                    ·
                                      rcases cond_elim h with ⟨e29, h⟩ | ⟨e29, h⟩
                                      ·
                                        have h := Option.some.inj h; subst h; exact P6_14 i0 i1 i2 i3 i4 i5 i6 i7 b0 s0 s1 s2 s3 s4 s5 s6 s7 s8 s9 s10 s11 s12 k e0 e1 e2 (F23_ok e3) (F23_ok e4) (F23_ok e5) (F23_ok e6) (F23_ok e7) (F23_ok e8) e9 e10 e11 e12 e13 e14 e15 e16 (F26_ok e17) (F23_ok e18) (F23_ok e19) (F24_ok e20) e21 e22 e23 e24 e25 (F26_ok e26) e27 e28 e29
                                      ·
                                        have h := Option.some.inj h; subst h; exact P6_15 i0 i1 i2 i3 i4 i5 i6 i7 b0 s0 s1 s2 s3 s4 s5 s6 s7 s8 s9 s10 s11 s12 k e0 e1 e2 (F23_ok e3) (F23_ok e4) (F23_ok e5) (F23_ok e6) (F23_ok e7) (F23_ok e8) e9 e10 e11 e12 e13 e14 e15 e16 (F26_ok e17) (F23_ok e18) (F23_ok e19) (F24_ok e20) e21 e22 e23 e24 e25 (F26_ok e26) e27 e28 e29
                                    ·
                                      have h := Option.some.inj h; subst h; exact P6_16 i0 i1 i2 i3 i4 i5 i6 i7 b0 s0 s1 s2 s3 s4 s5 s6 s7 s8 s9 s10 s11 s12 k e0 e1 e2 (F23_ok e3) (F23_ok e4) (F23_ok e5) (F23_ok e6) (F23_ok e7) (F23_ok e8) e9 e10 e11 e12 e13 e14 e15 e16 (F26_ok e17) (F23_ok e18) (F23_ok e19) (F24_ok e20) e21 e22 e23 e24 e25 (F26_ok e26) e27 e28
                                  ·
                                    have h := Option.some.inj h; subst h; exact P6_17 i0 i1 i2 i3 i4 i5 i6 i7 b0 s0 s1 s2 s3 s4 s5 s6 s7 s8 s9 s10 s11 s12 k e0 e1 e2 (F23_ok e3) (F23_ok e4) (F23_ok e5) (F23_ok e6) (F23_ok e7) (F23_ok e8) e9 e10 e11 e12 e13 e14 e15 e16 (F26_ok e17) (F23_ok e18) (F23_ok e19) (F24_ok e20) e21 e22 e23 e24 e25 (F26_ok e26) e27
                                ·
                                  have h := Option.some.inj h; subst h; exact P6_18 i0 i1 i2 i3 i4 i5 i6 i7 b0 s0 s1 s2 s3 s4 s5 s6 s7 s8 s9 s10 s11 k e0 e1 e2 (F23_ok e3) (F23_ok e4) (F23_ok e5) (F23_ok e6) (F23_ok e7) (F23_ok e8) e9 e10 e11 e12 e13 e14 e15 e16 (F26_ok e17) (F23_ok e18) (F23_ok e19) (F24_ok e20) e21 e22 e23 e24 e25
                              ·
                                have h := Option.some.inj h; subst h; exact P6_19 i0 i1 i2 i3 i4 i5 i6 i7 b0 s0 s1 s2 s3 s4 s5 s6 s7 s8 s9 s10 s11 k e0 e1 e2 (F23_ok e3) (F23_ok e4) (F23_ok e5) (F23_ok e6) (F23_ok e7) (F23_ok e8) e9 e10 e11 e12 e13 e14 e15 e16 (F26_ok e17) (F23_ok e18) (F23_ok e19) (F24_ok e20) e21 e22 e23 e24
                            ·
                              have h := Option.some.inj h; subst h; exact P6_20 i0 i1 i2 i3 i4 i5 i6 i7 b0 s0 s1 s2 s3 s4 s5 s6 s7 s8 s9 s10 s11 k e0 e1 e2 (F23_ok e3) (F23_ok e4) (F23_ok e5) (F23_ok e6) (F23_ok e7) (F23_ok e8) e9 e10 e11 e12 e13 e14 e15 e16 (F26_ok e17) (F23_ok e18) (F23_ok e19) (F24_ok e20) e21 e22 e23
                          ·
                            have h := Option.some.inj h; subst h; exact P6_21 i0 i1 i2 i3 i4 i5 i6 i7 b0 s0 s1 s2 s3 s4 s5 s6 s7 s8 s9 s10 s11 k e0 e1 e2 (F23_ok e3) (F23_ok e4) (F23_ok e5) (F23_ok e6) (F23_ok e7) (F23_ok e8) e9 e10 e11 e12 e13 e14 e15 e16 (F26_ok e17) (F23_ok e18) (F23_ok e19) (F24_ok e20) e21 e22
                        ·
                          have h := Option.some.inj h; subst h; exact P6_22 i0 i1 i2 i3 i4 i5 i6 i7 b0 s0 s1 s2 s3 s4 s5 s6 s7 s8 s9 s10 s11 k e0 e1 e2 (F23_ok e3) (F23_ok e4) (F23_ok e5) (F23_ok e6) (F23_ok e7) (F23_ok e8) e9 e10 e11 e12 e13 e14 e15 e16 (F26_ok e17) (F23_ok e18) (F23_ok e19) (F24_ok e20) e21
end Go.Proofs
