/-
  What the law GcmStreams answers, checked against the program.
-/
import Derived.Test.YtegmincienhapaaGcA
set_option linter.unusedVariables false
set_option maxHeartbeats 0
set_option maxRecDepth 100000
namespace Go.Proofs
open Go Go.Sym

theorem P10_0 (i0 i1 i2 : Int) (b0 b1 : Bool) (s0 s1 s2 s3 s4 : List UInt8) (k : Nat)
    (c0 : cP ((k + 54)) 32 [V.str s0] = some (V.str s2))
    (c1 : cP ((k + 54)) 32 [V.str s1] = some (V.str s3))
    (c2 : decide (80 < i1) = true)
    (c3 : decide (i1 ≤ 5000) = true)
    (c4 : cP ((k + 54)) 37 [V.str s2, V.str s3, V.int .u32 i0, vi 80] = some (V.tup [V.str s4, vi i2]))
    (c5 : cP ((k + 54)) 34 [V.str s2, V.str s3] = some (V.bool b0))
    (c6 : (!b0) = true)
    (c7 : cP ((k + 54)) 35 [] = some (V.bool b1))
    (c8 : b1 = true)
    (c9 : decide (i2 = 4) = true) :
    cP ((k + 55)) 10 [V.str s0, V.str s1, V.int .u32 i0, vi i1] = some (V.bool (decide (s4 = []))) :=
  byF (k := k) (d := 55) [Hn.call 12 (V.str s2), Hn.call 14 (V.str s3), Hn.br 17 true, Hn.br 20 true, Hn.call 26 (V.tup [V.str s4, vi i2]), Hn.call 31 (V.bool b0), Hn.br 33 true, Hn.call 41 (V.bool b1), Hn.br 42 true, Hn.br 46 true] (aI c0 (aI c1 (aI c2 (aI c3 (aI c4 (aI c5 (aI c6 (aI c7 (aI c8 (aI c9 trivial)))))))))) (by kernel_rfl)
theorem P10_1 (i0 i1 i2 : Int) (b0 b1 : Bool) (s0 s1 s2 s3 s4 : List UInt8) (k : Nat)
    (c0 : cP ((k + 54)) 32 [V.str s0] = some (V.str s2))
    (c1 : cP ((k + 54)) 32 [V.str s1] = some (V.str s3))
    (c2 : decide (80 < i1) = true)
    (c3 : decide (i1 ≤ 5000) = true)
    (c4 : cP ((k + 54)) 37 [V.str s2, V.str s3, V.int .u32 i0, vi 80] = some (V.tup [V.str s4, vi i2]))
    (c5 : cP ((k + 54)) 34 [V.str s2, V.str s3] = some (V.bool b0))
    (c6 : (!b0) = true)
    (c7 : cP ((k + 54)) 35 [] = some (V.bool b1))
    (c8 : b1 = true)
    (c9 : decide (i2 = 4) = false) :
    cP ((k + 55)) 10 [V.str s0, V.str s1, V.int .u32 i0, vi i1] = some (V.bool false) :=
  byF (k := k) (d := 55) [Hn.call 12 (V.str s2), Hn.call 14 (V.str s3), Hn.br 17 true, Hn.br 20 true, Hn.call 26 (V.tup [V.str s4, vi i2]), Hn.call 31 (V.bool b0), Hn.br 33 true, Hn.call 41 (V.bool b1), Hn.br 42 true, Hn.br 46 false] (aI c0 (aI c1 (aI c2 (aI c3 (aI c4 (aI c5 (aI c6 (aI c7 (aI c8 (aI c9 trivial)))))))))) (by kernel_rfl)
theorem P10_2 (i0 i1 i2 : Int) (b0 b1 : Bool) (s0 s1 s2 s3 s4 : List UInt8) (k : Nat)
    (c0 : cP ((k + 54)) 32 [V.str s0] = some (V.str s2))
    (c1 : cP ((k + 54)) 32 [V.str s1] = some (V.str s3))
    (c2 : decide (80 < i1) = true)
    (c3 : decide (i1 ≤ 5000) = true)
    (c4 : cP ((k + 54)) 37 [V.str s2, V.str s3, V.int .u32 i0, vi 80] = some (V.tup [V.str s4, vi i2]))
    (c5 : cP ((k + 54)) 34 [V.str s2, V.str s3] = some (V.bool b0))
    (c6 : (!b0) = true)
    (c7 : cP ((k + 54)) 35 [] = some (V.bool b1))
    (c8 : b1 = false) :
    cP ((k + 55)) 10 [V.str s0, V.str s1, V.int .u32 i0, vi i1] = some (V.bool false) :=
  byF (k := k) (d := 55) [Hn.call 12 (V.str s2), Hn.call 14 (V.str s3), Hn.br 17 true, Hn.br 20 true, Hn.call 26 (V.tup [V.str s4, vi i2]), Hn.call 31 (V.bool b0), Hn.br 33 true, Hn.call 41 (V.bool b1), Hn.br 42 false] (aI c0 (aI c1 (aI c2 (aI c3 (aI c4 (aI c5 (aI c6 (aI c7 (aI c8 trivial))))))))) (by kernel_rfl)
theorem P10_3 (i0 i1 i2 : Int) (b0 b1 : Bool) (s0 s1 s2 s3 s4 s5 : List UInt8) (k : Nat)
    (c0 : cP ((k + 54)) 32 [V.str s0] = some (V.str s2))
    (c1 : cP ((k + 54)) 32 [V.str s1] = some (V.str s3))
    (c2 : decide (80 < i1) = true)
    (c3 : decide (i1 ≤ 5000) = true)
    (c4 : cP ((k + 54)) 37 [V.str s2, V.str s3, V.int .u32 i0, vi 80] = some (V.tup [V.str s4, vi i2]))
    (c5 : cP ((k + 54)) 34 [V.str s2, V.str s3] = some (V.bool b0))
    (c6 : (!b0) = false)
    (c7 : cP ((k + 54)) 35 [] = some (V.bool b1))
    (c8 : b1 = true)
    (c9 : decide (i2 = 0) = true)
    (c10 : cP ((k + 54)) 38 [V.str s2, V.str s3, V.int .u32 i0, vi 80] = some (V.str s5)) :
    cP ((k + 55)) 10 [V.str s0, V.str s1, V.int .u32 i0, vi i1] = some (V.bool (decide (s4 = s5))) :=
  byF (k := k) (d := 55) [Hn.call 12 (V.str s2), Hn.call 14 (V.str s3), Hn.br 17 true, Hn.br 20 true, Hn.call 26 (V.tup [V.str s4, vi i2]), Hn.call 31 (V.bool b0), Hn.br 33 false, Hn.call 50 (V.bool b1), Hn.br 51 true, Hn.br 55 true, Hn.call 61 (V.str s5)] (aI c0 (aI c1 (aI c2 (aI c3 (aI c4 (aI c5 (aI c6 (aI c7 (aI c8 (aI c9 (aI c10 trivial))))))))))) (by kernel_rfl)
theorem P10_4 (i0 i1 i2 : Int) (b0 b1 : Bool) (s0 s1 s2 s3 s4 : List UInt8) (k : Nat)
    (c0 : cP ((k + 54)) 32 [V.str s0] = some (V.str s2))
    (c1 : cP ((k + 54)) 32 [V.str s1] = some (V.str s3))
    (c2 : decide (80 < i1) = true)
    (c3 : decide (i1 ≤ 5000) = true)
    (c4 : cP ((k + 54)) 37 [V.str s2, V.str s3, V.int .u32 i0, vi 80] = some (V.tup [V.str s4, vi i2]))
    (c5 : cP ((k + 54)) 34 [V.str s2, V.str s3] = some (V.bool b0))
    (c6 : (!b0) = false)
    (c7 : cP ((k + 54)) 35 [] = some (V.bool b1))
    (c8 : b1 = true)
    (c9 : decide (i2 = 0) = false) :
    cP ((k + 55)) 10 [V.str s0, V.str s1, V.int .u32 i0, vi i1] = some (V.bool false) :=
  byF (k := k) (d := 55) [Hn.call 12 (V.str s2), Hn.call 14 (V.str s3), Hn.br 17 true, Hn.br 20 true, Hn.call 26 (V.tup [V.str s4, vi i2]), Hn.call 31 (V.bool b0), Hn.br 33 false, Hn.call 50 (V.bool b1), Hn.br 51 true, Hn.br 55 false] (aI c0 (aI c1 (aI c2 (aI c3 (aI c4 (aI c5 (aI c6 (aI c7 (aI c8 (aI c9 trivial)))))))))) (by kernel_rfl)
theorem P10_5 (i0 i1 i2 : Int) (b0 b1 : Bool) (s0 s1 s2 s3 s4 : List UInt8) (k : Nat)
    (c0 : cP ((k + 54)) 32 [V.str s0] = some (V.str s2))
    (c1 : cP ((k + 54)) 32 [V.str s1] = some (V.str s3))
    (c2 : decide (80 < i1) = true)
    (c3 : decide (i1 ≤ 5000) = true)
    (c4 : cP ((k + 54)) 37 [V.str s2, V.str s3, V.int .u32 i0, vi 80] = some (V.tup [V.str s4, vi i2]))
    (c5 : cP ((k + 54)) 34 [V.str s2, V.str s3] = some (V.bool b0))
    (c6 : (!b0) = false)
    (c7 : cP ((k + 54)) 35 [] = some (V.bool b1))
    (c8 : b1 = false) :
    cP ((k + 55)) 10 [V.str s0, V.str s1, V.int .u32 i0, vi i1] = some (V.bool false) :=
  byF (k := k) (d := 55) [Hn.call 12 (V.str s2), Hn.call 14 (V.str s3), Hn.br 17 true, Hn.br 20 true, Hn.call 26 (V.tup [V.str s4, vi i2]), Hn.call 31 (V.bool b0), Hn.br 33 false, Hn.call 50 (V.bool b1), Hn.br 51 false] (aI c0 (aI c1 (aI c2 (aI c3 (aI c4 (aI c5 (aI c6 (aI c7 (aI c8 trivial))))))))) (by kernel_rfl)
theorem P10_6 (i0 i1 i2 : Int) (b0 b1 : Bool) (s0 s1 s2 s3 s4 : List UInt8) (k : Nat)
    (c0 : cP ((k + 54)) 32 [V.str s0] = some (V.str s2))
    (c1 : cP ((k + 54)) 32 [V.str s1] = some (V.str s3))
    (c2 : decide (80 < i1) = true)
    (c3 : decide (i1 ≤ 5000) = false)
    (c4 : cP ((k + 54)) 37 [V.str s2, V.str s3, V.int .u32 i0, vi i1] = some (V.tup [V.str s4, vi i2]))
    (c5 : cP ((k + 54)) 34 [V.str s2, V.str s3] = some (V.bool b0))
    (c6 : (!b0) = true)
    (c7 : cP ((k + 54)) 35 [] = some (V.bool b1))
    (c8 : b1 = true)
    (c9 : decide (i2 = 4) = true) :
    cP ((k + 55)) 10 [V.str s0, V.str s1, V.int .u32 i0, vi i1] = some (V.bool (decide (s4 = []))) :=
  byF (k := k) (d := 55) [Hn.call 12 (V.str s2), Hn.call 14 (V.str s3), Hn.br 17 true, Hn.br 20 false, Hn.call 26 (V.tup [V.str s4, vi i2]), Hn.call 31 (V.bool b0), Hn.br 33 true, Hn.call 41 (V.bool b1), Hn.br 42 true, Hn.br 46 true] (aI c0 (aI c1 (aI c2 (aI c3 (aI c4 (aI c5 (aI c6 (aI c7 (aI c8 (aI c9 trivial)))))))))) (by kernel_rfl)
theorem P10_7 (i0 i1 i2 : Int) (b0 b1 : Bool) (s0 s1 s2 s3 s4 : List UInt8) (k : Nat)
    (c0 : cP ((k + 54)) 32 [V.str s0] = some (V.str s2))
    (c1 : cP ((k + 54)) 32 [V.str s1] = some (V.str s3))
    (c2 : decide (80 < i1) = true)
    (c3 : decide (i1 ≤ 5000) = false)
    (c4 : cP ((k + 54)) 37 [V.str s2, V.str s3, V.int .u32 i0, vi i1] = some (V.tup [V.str s4, vi i2]))
    (c5 : cP ((k + 54)) 34 [V.str s2, V.str s3] = some (V.bool b0))
    (c6 : (!b0) = true)
    (c7 : cP ((k + 54)) 35 [] = some (V.bool b1))
    (c8 : b1 = true)
    (c9 : decide (i2 = 4) = false) :
    cP ((k + 55)) 10 [V.str s0, V.str s1, V.int .u32 i0, vi i1] = some (V.bool false) :=
  byF (k := k) (d := 55) [Hn.call 12 (V.str s2), Hn.call 14 (V.str s3), Hn.br 17 true, Hn.br 20 false, Hn.call 26 (V.tup [V.str s4, vi i2]), Hn.call 31 (V.bool b0), Hn.br 33 true, Hn.call 41 (V.bool b1), Hn.br 42 true, Hn.br 46 false] (aI c0 (aI c1 (aI c2 (aI c3 (aI c4 (aI c5 (aI c6 (aI c7 (aI c8 (aI c9 trivial)))))))))) (by kernel_rfl)
theorem P10_8 (i0 i1 i2 : Int) (b0 b1 : Bool) (s0 s1 s2 s3 s4 : List UInt8) (k : Nat)
    (c0 : cP ((k + 54)) 32 [V.str s0] = some (V.str s2))
    (c1 : cP ((k + 54)) 32 [V.str s1] = some (V.str s3))
    (c2 : decide (80 < i1) = true)
    (c3 : decide (i1 ≤ 5000) = false)
    (c4 : cP ((k + 54)) 37 [V.str s2, V.str s3, V.int .u32 i0, vi i1] = some (V.tup [V.str s4, vi i2]))
    (c5 : cP ((k + 54)) 34 [V.str s2, V.str s3] = some (V.bool b0))
    (c6 : (!b0) = true)
    (c7 : cP ((k + 54)) 35 [] = some (V.bool b1))
    (c8 : b1 = false) :
    cP ((k + 55)) 10 [V.str s0, V.str s1, V.int .u32 i0, vi i1] = some (V.bool false) :=
  byF (k := k) (d := 55) [Hn.call 12 (V.str s2), Hn.call 14 (V.str s3), Hn.br 17 true, Hn.br 20 false, Hn.call 26 (V.tup [V.str s4, vi i2]), Hn.call 31 (V.bool b0), Hn.br 33 true, Hn.call 41 (V.bool b1), Hn.br 42 false] (aI c0 (aI c1 (aI c2 (aI c3 (aI c4 (aI c5 (aI c6 (aI c7 (aI c8 trivial))))))))) (by kernel_rfl)
theorem P10_9 (i0 i1 i2 : Int) (b0 b1 : Bool) (s0 s1 s2 s3 s4 : List UInt8) (k : Nat)
    (c0 : cP ((k + 54)) 32 [V.str s0] = some (V.str s2))
    (c1 : cP ((k + 54)) 32 [V.str s1] = some (V.str s3))
    (c2 : decide (80 < i1) = true)
    (c3 : decide (i1 ≤ 5000) = false)
    (c4 : cP ((k + 54)) 37 [V.str s2, V.str s3, V.int .u32 i0, vi i1] = some (V.tup [V.str s4, vi i2]))
    (c5 : cP ((k + 54)) 34 [V.str s2, V.str s3] = some (V.bool b0))
    (c6 : (!b0) = false)
    (c7 : decide (i1 < 0) = true)
    (c8 : cP ((k + 54)) 35 [] = some (V.bool b1))
    (c9 : b1 = true)
    (c10 : decide (i2 = 4) = true) :
    cP ((k + 55)) 10 [V.str s0, V.str s1, V.int .u32 i0, vi i1] = some (V.bool (decide (s4 = []))) :=
  byF (k := k) (d := 55) [Hn.call 12 (V.str s2), Hn.call 14 (V.str s3), Hn.br 17 true, Hn.br 20 false, Hn.call 26 (V.tup [V.str s4, vi i2]), Hn.call 31 (V.bool b0), Hn.br 33 false, Hn.br 37 true, Hn.call 41 (V.bool b1), Hn.br 42 true, Hn.br 46 true] (aI c0 (aI c1 (aI c2 (aI c3 (aI c4 (aI c5 (aI c6 (aI c7 (aI c8 (aI c9 (aI c10 trivial))))))))))) (by kernel_rfl)
theorem P10_10 (i0 i1 i2 : Int) (b0 b1 : Bool) (s0 s1 s2 s3 s4 : List UInt8) (k : Nat)
    (c0 : cP ((k + 54)) 32 [V.str s0] = some (V.str s2))
    (c1 : cP ((k + 54)) 32 [V.str s1] = some (V.str s3))
    (c2 : decide (80 < i1) = true)
    (c3 : decide (i1 ≤ 5000) = false)
    (c4 : cP ((k + 54)) 37 [V.str s2, V.str s3, V.int .u32 i0, vi i1] = some (V.tup [V.str s4, vi i2]))
    (c5 : cP ((k + 54)) 34 [V.str s2, V.str s3] = some (V.bool b0))
    (c6 : (!b0) = false)
    (c7 : decide (i1 < 0) = true)
    (c8 : cP ((k + 54)) 35 [] = some (V.bool b1))
    (c9 : b1 = true)
    (c10 : decide (i2 = 4) = false) :
    cP ((k + 55)) 10 [V.str s0, V.str s1, V.int .u32 i0, vi i1] = some (V.bool false) :=
  byF (k := k) (d := 55) [Hn.call 12 (V.str s2), Hn.call 14 (V.str s3), Hn.br 17 true, Hn.br 20 false, Hn.call 26 (V.tup [V.str s4, vi i2]), Hn.call 31 (V.bool b0), Hn.br 33 false, Hn.br 37 true, Hn.call 41 (V.bool b1), Hn.br 42 true, Hn.br 46 false] (aI c0 (aI c1 (aI c2 (aI c3 (aI c4 (aI c5 (aI c6 (aI c7 (aI c8 (aI c9 (aI c10 trivial))))))))))) (by kernel_rfl)
theorem P10_11 (i0 i1 i2 : Int) (b0 b1 : Bool) (s0 s1 s2 s3 s4 : List UInt8) (k : Nat)
    (c0 : cP ((k + 54)) 32 [V.str s0] = some (V.str s2))
    (c1 : cP ((k + 54)) 32 [V.str s1] = some (V.str s3))
    (c2 : decide (80 < i1) = true)
    (c3 : decide (i1 ≤ 5000) = false)
    (c4 : cP ((k + 54)) 37 [V.str s2, V.str s3, V.int .u32 i0, vi i1] = some (V.tup [V.str s4, vi i2]))
    (c5 : cP ((k + 54)) 34 [V.str s2, V.str s3] = some (V.bool b0))
    (c6 : (!b0) = false)
    (c7 : decide (i1 < 0) = true)
    (c8 : cP ((k + 54)) 35 [] = some (V.bool b1))
    (c9 : b1 = false) :
    cP ((k + 55)) 10 [V.str s0, V.str s1, V.int .u32 i0, vi i1] = some (V.bool false) :=
  byF (k := k) (d := 55) [Hn.call 12 (V.str s2), Hn.call 14 (V.str s3), Hn.br 17 true, Hn.br 20 false, Hn.call 26 (V.tup [V.str s4, vi i2]), Hn.call 31 (V.bool b0), Hn.br 33 false, Hn.br 37 true, Hn.call 41 (V.bool b1), Hn.br 42 false] (aI c0 (aI c1 (aI c2 (aI c3 (aI c4 (aI c5 (aI c6 (aI c7 (aI c8 (aI c9 trivial)))))))))) (by kernel_rfl)
theorem P10_12 (i0 i1 i2 : Int) (b0 b1 : Bool) (s0 s1 s2 s3 s4 : List UInt8) (k : Nat)
    (c0 : cP ((k + 54)) 32 [V.str s0] = some (V.str s2))
    (c1 : cP ((k + 54)) 32 [V.str s1] = some (V.str s3))
    (c2 : decide (80 < i1) = true)
    (c3 : decide (i1 ≤ 5000) = false)
    (c4 : cP ((k + 54)) 37 [V.str s2, V.str s3, V.int .u32 i0, vi i1] = some (V.tup [V.str s4, vi i2]))
    (c5 : cP ((k + 54)) 34 [V.str s2, V.str s3] = some (V.bool b0))
    (c6 : (!b0) = false)
    (c7 : decide (i1 < 0) = false)
    (c8 : decide (5000 < i1) = true)
    (c9 : cP ((k + 54)) 35 [] = some (V.bool b1))
    (c10 : b1 = true)
    (c11 : decide (i2 = 4) = true) :
    cP ((k + 55)) 10 [V.str s0, V.str s1, V.int .u32 i0, vi i1] = some (V.bool (decide (s4 = []))) :=
  byF (k := k) (d := 55) [Hn.call 12 (V.str s2), Hn.call 14 (V.str s3), Hn.br 17 true, Hn.br 20 false, Hn.call 26 (V.tup [V.str s4, vi i2]), Hn.call 31 (V.bool b0), Hn.br 33 false, Hn.br 37 false, Hn.br 40 true, Hn.call 41 (V.bool b1), Hn.br 42 true, Hn.br 46 true] (aI c0 (aI c1 (aI c2 (aI c3 (aI c4 (aI c5 (aI c6 (aI c7 (aI c8 (aI c9 (aI c10 (aI c11 trivial)))))))))))) (by kernel_rfl)
theorem P10_13 (i0 i1 i2 : Int) (b0 b1 : Bool) (s0 s1 s2 s3 s4 : List UInt8) (k : Nat)
    (c0 : cP ((k + 54)) 32 [V.str s0] = some (V.str s2))
    (c1 : cP ((k + 54)) 32 [V.str s1] = some (V.str s3))
    (c2 : decide (80 < i1) = true)
    (c3 : decide (i1 ≤ 5000) = false)
    (c4 : cP ((k + 54)) 37 [V.str s2, V.str s3, V.int .u32 i0, vi i1] = some (V.tup [V.str s4, vi i2]))
    (c5 : cP ((k + 54)) 34 [V.str s2, V.str s3] = some (V.bool b0))
    (c6 : (!b0) = false)
    (c7 : decide (i1 < 0) = false)
    (c8 : decide (5000 < i1) = true)
    (c9 : cP ((k + 54)) 35 [] = some (V.bool b1))
    (c10 : b1 = true)
    (c11 : decide (i2 = 4) = false) :
    cP ((k + 55)) 10 [V.str s0, V.str s1, V.int .u32 i0, vi i1] = some (V.bool false) :=
  byF (k := k) (d := 55) [Hn.call 12 (V.str s2), Hn.call 14 (V.str s3), Hn.br 17 true, Hn.br 20 false, Hn.call 26 (V.tup [V.str s4, vi i2]), Hn.call 31 (V.bool b0), Hn.br 33 false, Hn.br 37 false, Hn.br 40 true, Hn.call 41 (V.bool b1), Hn.br 42 true, Hn.br 46 false] (aI c0 (aI c1 (aI c2 (aI c3 (aI c4 (aI c5 (aI c6 (aI c7 (aI c8 (aI c9 (aI c10 (aI c11 trivial)))))))))))) (by kernel_rfl)
theorem P10_14 (i0 i1 i2 : Int) (b0 b1 : Bool) (s0 s1 s2 s3 s4 : List UInt8) (k : Nat)
    (c0 : cP ((k + 54)) 32 [V.str s0] = some (V.str s2))
    (c1 : cP ((k + 54)) 32 [V.str s1] = some (V.str s3))
    (c2 : decide (80 < i1) = true)
    (c3 : decide (i1 ≤ 5000) = false)
    (c4 : cP ((k + 54)) 37 [V.str s2, V.str s3, V.int .u32 i0, vi i1] = some (V.tup [V.str s4, vi i2]))
    (c5 : cP ((k + 54)) 34 [V.str s2, V.str s3] = some (V.bool b0))
    (c6 : (!b0) = false)
    (c7 : decide (i1 < 0) = false)
    (c8 : decide (5000 < i1) = true)
    (c9 : cP ((k + 54)) 35 [] = some (V.bool b1))
    (c10 : b1 = false) :
    cP ((k + 55)) 10 [V.str s0, V.str s1, V.int .u32 i0, vi i1] = some (V.bool false) :=
  byF (k := k) (d := 55) [Hn.call 12 (V.str s2), Hn.call 14 (V.str s3), Hn.br 17 true, Hn.br 20 false, Hn.call 26 (V.tup [V.str s4, vi i2]), Hn.call 31 (V.bool b0), Hn.br 33 false, Hn.br 37 false, Hn.br 40 true, Hn.call 41 (V.bool b1), Hn.br 42 false] (aI c0 (aI c1 (aI c2 (aI c3 (aI c4 (aI c5 (aI c6 (aI c7 (aI c8 (aI c9 (aI c10 trivial))))))))))) (by kernel_rfl)
theorem P10_15 (i0 i1 i2 : Int) (b0 b1 : Bool) (s0 s1 s2 s3 s4 s5 : List UInt8) (k : Nat)
    (c0 : cP ((k + 54)) 32 [V.str s0] = some (V.str s2))
    (c1 : cP ((k + 54)) 32 [V.str s1] = some (V.str s3))
    (c2 : decide (80 < i1) = true)
    (c3 : decide (i1 ≤ 5000) = false)
    (c4 : cP ((k + 54)) 37 [V.str s2, V.str s3, V.int .u32 i0, vi i1] = some (V.tup [V.str s4, vi i2]))
    (c5 : cP ((k + 54)) 34 [V.str s2, V.str s3] = some (V.bool b0))
    (c6 : (!b0) = false)
    (c7 : decide (i1 < 0) = false)
    (c8 : decide (5000 < i1) = false)
    (c9 : cP ((k + 54)) 35 [] = some (V.bool b1))
    (c10 : b1 = true)
    (c11 : decide (i2 = 0) = true)
    (c12 : cP ((k + 54)) 38 [V.str s2, V.str s3, V.int .u32 i0, vi i1] = some (V.str s5)) :
    cP ((k + 55)) 10 [V.str s0, V.str s1, V.int .u32 i0, vi i1] = some (V.bool (decide (s4 = s5))) :=
  byF (k := k) (d := 55) [Hn.call 12 (V.str s2), Hn.call 14 (V.str s3), Hn.br 17 true, Hn.br 20 false, Hn.call 26 (V.tup [V.str s4, vi i2]), Hn.call 31 (V.bool b0), Hn.br 33 false, Hn.br 37 false, Hn.br 40 false, Hn.call 50 (V.bool b1), Hn.br 51 true, Hn.br 55 true, Hn.call 61 (V.str s5)] (aI c0 (aI c1 (aI c2 (aI c3 (aI c4 (aI c5 (aI c6 (aI c7 (aI c8 (aI c9 (aI c10 (aI c11 (aI c12 trivial))))))))))))) (by kernel_rfl)
theorem P10_16 (i0 i1 i2 : Int) (b0 b1 : Bool) (s0 s1 s2 s3 s4 : List UInt8) (k : Nat)
    (c0 : cP ((k + 54)) 32 [V.str s0] = some (V.str s2))
    (c1 : cP ((k + 54)) 32 [V.str s1] = some (V.str s3))
    (c2 : decide (80 < i1) = true)
    (c3 : decide (i1 ≤ 5000) = false)
    (c4 : cP ((k + 54)) 37 [V.str s2, V.str s3, V.int .u32 i0, vi i1] = some (V.tup [V.str s4, vi i2]))
    (c5 : cP ((k + 54)) 34 [V.str s2, V.str s3] = some (V.bool b0))
    (c6 : (!b0) = false)
    (c7 : decide (i1 < 0) = false)
    (c8 : decide (5000 < i1) = false)
    (c9 : cP ((k + 54)) 35 [] = some (V.bool b1))
    (c10 : b1 = true)
    (c11 : decide (i2 = 0) = false) :
    cP ((k + 55)) 10 [V.str s0, V.str s1, V.int .u32 i0, vi i1] = some (V.bool false) :=
  byF (k := k) (d := 55) [Hn.call 12 (V.str s2), Hn.call 14 (V.str s3), Hn.br 17 true, Hn.br 20 false, Hn.call 26 (V.tup [V.str s4, vi i2]), Hn.call 31 (V.bool b0), Hn.br 33 false, Hn.br 37 false, Hn.br 40 false, Hn.call 50 (V.bool b1), Hn.br 51 true, Hn.br 55 false] (aI c0 (aI c1 (aI c2 (aI c3 (aI c4 (aI c5 (aI c6 (aI c7 (aI c8 (aI c9 (aI c10 (aI c11 trivial)))))))))))) (by kernel_rfl)
theorem P10_17 (i0 i1 i2 : Int) (b0 b1 : Bool) (s0 s1 s2 s3 s4 : List UInt8) (k : Nat)
    (c0 : cP ((k + 54)) 32 [V.str s0] = some (V.str s2))
    (c1 : cP ((k + 54)) 32 [V.str s1] = some (V.str s3))
    (c2 : decide (80 < i1) = true)
    (c3 : decide (i1 ≤ 5000) = false)
    (c4 : cP ((k + 54)) 37 [V.str s2, V.str s3, V.int .u32 i0, vi i1] = some (V.tup [V.str s4, vi i2]))
    (c5 : cP ((k + 54)) 34 [V.str s2, V.str s3] = some (V.bool b0))
    (c6 : (!b0) = false)
    (c7 : decide (i1 < 0) = false)
    (c8 : decide (5000 < i1) = false)
    (c9 : cP ((k + 54)) 35 [] = some (V.bool b1))
    (c10 : b1 = false) :
    cP ((k + 55)) 10 [V.str s0, V.str s1, V.int .u32 i0, vi i1] = some (V.bool false) :=
  byF (k := k) (d := 55) [Hn.call 12 (V.str s2), Hn.call 14 (V.str s3), Hn.br 17 true, Hn.br 20 false, Hn.call 26 (V.tup [V.str s4, vi i2]), Hn.call 31 (V.bool b0), Hn.br 33 false, Hn.br 37 false, Hn.br 40 false, Hn.call 50 (V.bool b1), Hn.br 51 false] (aI c0 (aI c1 (aI c2 (aI c3 (aI c4 (aI c5 (aI c6 (aI c7 (aI c8 (aI c9 (aI c10 trivial))))))))))) (by kernel_rfl)
theorem P10_18 (i0 i1 i2 : Int) (b0 b1 : Bool) (s0 s1 s2 s3 s4 : List UInt8) (k : Nat)
    (c0 : cP ((k + 54)) 32 [V.str s0] = some (V.str s2))
    (c1 : cP ((k + 54)) 32 [V.str s1] = some (V.str s3))
    (c2 : decide (80 < i1) = false)
    (c3 : cP ((k + 54)) 37 [V.str s2, V.str s3, V.int .u32 i0, vi i1] = some (V.tup [V.str s4, vi i2]))
    (c4 : cP ((k + 54)) 34 [V.str s2, V.str s3] = some (V.bool b0))
    (c5 : (!b0) = true)
    (c6 : cP ((k + 54)) 35 [] = some (V.bool b1))
    (c7 : b1 = true)
    (c8 : decide (i2 = 4) = true) :
    cP ((k + 55)) 10 [V.str s0, V.str s1, V.int .u32 i0, vi i1] = some (V.bool (decide (s4 = []))) :=
  byF (k := k) (d := 55) [Hn.call 12 (V.str s2), Hn.call 14 (V.str s3), Hn.br 17 false, Hn.call 26 (V.tup [V.str s4, vi i2]), Hn.call 31 (V.bool b0), Hn.br 33 true, Hn.call 41 (V.bool b1), Hn.br 42 true, Hn.br 46 true] (aI c0 (aI c1 (aI c2 (aI c3 (aI c4 (aI c5 (aI c6 (aI c7 (aI c8 trivial))))))))) (by kernel_rfl)
theorem P10_19 (i0 i1 i2 : Int) (b0 b1 : Bool) (s0 s1 s2 s3 s4 : List UInt8) (k : Nat)
    (c0 : cP ((k + 54)) 32 [V.str s0] = some (V.str s2))
    (c1 : cP ((k + 54)) 32 [V.str s1] = some (V.str s3))
    (c2 : decide (80 < i1) = false)
    (c3 : cP ((k + 54)) 37 [V.str s2, V.str s3, V.int .u32 i0, vi i1] = some (V.tup [V.str s4, vi i2]))
    (c4 : cP ((k + 54)) 34 [V.str s2, V.str s3] = some (V.bool b0))
    (c5 : (!b0) = true)
    (c6 : cP ((k + 54)) 35 [] = some (V.bool b1))
    (c7 : b1 = true)
    (c8 : decide (i2 = 4) = false) :
    cP ((k + 55)) 10 [V.str s0, V.str s1, V.int .u32 i0, vi i1] = some (V.bool false) :=
  byF (k := k) (d := 55) [Hn.call 12 (V.str s2), Hn.call 14 (V.str s3), Hn.br 17 false, Hn.call 26 (V.tup [V.str s4, vi i2]), Hn.call 31 (V.bool b0), Hn.br 33 true, Hn.call 41 (V.bool b1), Hn.br 42 true, Hn.br 46 false] (aI c0 (aI c1 (aI c2 (aI c3 (aI c4 (aI c5 (aI c6 (aI c7 (aI c8 trivial))))))))) (by kernel_rfl)
theorem P10_20 (i0 i1 i2 : Int) (b0 b1 : Bool) (s0 s1 s2 s3 s4 : List UInt8) (k : Nat)
    (c0 : cP ((k + 54)) 32 [V.str s0] = some (V.str s2))
    (c1 : cP ((k + 54)) 32 [V.str s1] = some (V.str s3))
    (c2 : decide (80 < i1) = false)
    (c3 : cP ((k + 54)) 37 [V.str s2, V.str s3, V.int .u32 i0, vi i1] = some (V.tup [V.str s4, vi i2]))
    (c4 : cP ((k + 54)) 34 [V.str s2, V.str s3] = some (V.bool b0))
    (c5 : (!b0) = true)
    (c6 : cP ((k + 54)) 35 [] = some (V.bool b1))
    (c7 : b1 = false) :
    cP ((k + 55)) 10 [V.str s0, V.str s1, V.int .u32 i0, vi i1] = some (V.bool false) :=
  byF (k := k) (d := 55) [Hn.call 12 (V.str s2), Hn.call 14 (V.str s3), Hn.br 17 false, Hn.call 26 (V.tup [V.str s4, vi i2]), Hn.call 31 (V.bool b0), Hn.br 33 true, Hn.call 41 (V.bool b1), Hn.br 42 false] (aI c0 (aI c1 (aI c2 (aI c3 (aI c4 (aI c5 (aI c6 (aI c7 trivial)))))))) (by kernel_rfl)
theorem P10_21 (i0 i1 i2 : Int) (b0 b1 : Bool) (s0 s1 s2 s3 s4 : List UInt8) (k : Nat)
    (c0 : cP ((k + 54)) 32 [V.str s0] = some (V.str s2))
    (c1 : cP ((k + 54)) 32 [V.str s1] = some (V.str s3))
    (c2 : decide (80 < i1) = false)
    (c3 : cP ((k + 54)) 37 [V.str s2, V.str s3, V.int .u32 i0, vi i1] = some (V.tup [V.str s4, vi i2]))
    (c4 : cP ((k + 54)) 34 [V.str s2, V.str s3] = some (V.bool b0))
    (c5 : (!b0) = false)
    (c6 : decide (i1 < 0) = true)
    (c7 : cP ((k + 54)) 35 [] = some (V.bool b1))
    (c8 : b1 = true)
    (c9 : decide (i2 = 4) = true) :
    cP ((k + 55)) 10 [V.str s0, V.str s1, V.int .u32 i0, vi i1] = some (V.bool (decide (s4 = []))) :=
  byF (k := k) (d := 55) [Hn.call 12 (V.str s2), Hn.call 14 (V.str s3), Hn.br 17 false, Hn.call 26 (V.tup [V.str s4, vi i2]), Hn.call 31 (V.bool b0), Hn.br 33 false, Hn.br 37 true, Hn.call 41 (V.bool b1), Hn.br 42 true, Hn.br 46 true] (aI c0 (aI c1 (aI c2 (aI c3 (aI c4 (aI c5 (aI c6 (aI c7 (aI c8 (aI c9 trivial)))))))))) (by kernel_rfl)
theorem P10_22 (i0 i1 i2 : Int) (b0 b1 : Bool) (s0 s1 s2 s3 s4 : List UInt8) (k : Nat)
    (c0 : cP ((k + 54)) 32 [V.str s0] = some (V.str s2))
    (c1 : cP ((k + 54)) 32 [V.str s1] = some (V.str s3))
    (c2 : decide (80 < i1) = false)
    (c3 : cP ((k + 54)) 37 [V.str s2, V.str s3, V.int .u32 i0, vi i1] = some (V.tup [V.str s4, vi i2]))
    (c4 : cP ((k + 54)) 34 [V.str s2, V.str s3] = some (V.bool b0))
    (c5 : (!b0) = false)
    (c6 : decide (i1 < 0) = true)
    (c7 : cP ((k + 54)) 35 [] = some (V.bool b1))
    (c8 : b1 = true)
    (c9 : decide (i2 = 4) = false) :
    cP ((k + 55)) 10 [V.str s0, V.str s1, V.int .u32 i0, vi i1] = some (V.bool false) :=
  byF (k := k) (d := 55) [Hn.call 12 (V.str s2), Hn.call 14 (V.str s3), Hn.br 17 false, Hn.call 26 (V.tup [V.str s4, vi i2]), Hn.call 31 (V.bool b0), Hn.br 33 false, Hn.br 37 true, Hn.call 41 (V.bool b1), Hn.br 42 true, Hn.br 46 false] (aI c0 (aI c1 (aI c2 (aI c3 (aI c4 (aI c5 (aI c6 (aI c7 (aI c8 (aI c9 trivial)))))))))) (by kernel_rfl)
theorem P10_23 (i0 i1 i2 : Int) (b0 b1 : Bool) (s0 s1 s2 s3 s4 : List UInt8) (k : Nat)
    (c0 : cP ((k + 54)) 32 [V.str s0] = some (V.str s2))
    (c1 : cP ((k + 54)) 32 [V.str s1] = some (V.str s3))
    (c2 : decide (80 < i1) = false)
    (c3 : cP ((k + 54)) 37 [V.str s2, V.str s3, V.int .u32 i0, vi i1] = some (V.tup [V.str s4, vi i2]))
    (c4 : cP ((k + 54)) 34 [V.str s2, V.str s3] = some (V.bool b0))
    (c5 : (!b0) = false)
    (c6 : decide (i1 < 0) = true)
    (c7 : cP ((k + 54)) 35 [] = some (V.bool b1))
    (c8 : b1 = false) :
    cP ((k + 55)) 10 [V.str s0, V.str s1, V.int .u32 i0, vi i1] = some (V.bool false) :=
  byF (k := k) (d := 55) [Hn.call 12 (V.str s2), Hn.call 14 (V.str s3), Hn.br 17 false, Hn.call 26 (V.tup [V.str s4, vi i2]), Hn.call 31 (V.bool b0), Hn.br 33 false, Hn.br 37 true, Hn.call 41 (V.bool b1), Hn.br 42 false] (aI c0 (aI c1 (aI c2 (aI c3 (aI c4 (aI c5 (aI c6 (aI c7 (aI c8 trivial))))))))) (by kernel_rfl)
theorem P10_24 (i0 i1 i2 : Int) (b0 b1 : Bool) (s0 s1 s2 s3 s4 : List UInt8) (k : Nat)
    (c0 : cP ((k + 54)) 32 [V.str s0] = some (V.str s2))
    (c1 : cP ((k + 54)) 32 [V.str s1] = some (V.str s3))
    (c2 : decide (80 < i1) = false)
    (c3 : cP ((k + 54)) 37 [V.str s2, V.str s3, V.int .u32 i0, vi i1] = some (V.tup [V.str s4, vi i2]))
    (c4 : cP ((k + 54)) 34 [V.str s2, V.str s3] = some (V.bool b0))
    (c5 : (!b0) = false)
    (c6 : decide (i1 < 0) = false)
    (c7 : decide (5000 < i1) = true)
    (c8 : cP ((k + 54)) 35 [] = some (V.bool b1))
    (c9 : b1 = true)
    (c10 : decide (i2 = 4) = true) :
    cP ((k + 55)) 10 [V.str s0, V.str s1, V.int .u32 i0, vi i1] = some (V.bool (decide (s4 = []))) :=
  byF (k := k) (d := 55) [Hn.call 12 (V.str s2), Hn.call 14 (V.str s3), Hn.br 17 false, Hn.call 26 (V.tup [V.str s4, vi i2]), Hn.call 31 (V.bool b0), Hn.br 33 false, Hn.br 37 false, Hn.br 40 true, Hn.call 41 (V.bool b1), Hn.br 42 true, Hn.br 46 true] (aI c0 (aI c1 (aI c2 (aI c3 (aI c4 (aI c5 (aI c6 (aI c7 (aI c8 (aI c9 (aI c10 trivial))))))))))) (by kernel_rfl)
theorem P10_25 (i0 i1 i2 : Int) (b0 b1 : Bool) (s0 s1 s2 s3 s4 : List UInt8) (k : Nat)
    (c0 : cP ((k + 54)) 32 [V.str s0] = some (V.str s2))
    (c1 : cP ((k + 54)) 32 [V.str s1] = some (V.str s3))
    (c2 : decide (80 < i1) = false)
    (c3 : cP ((k + 54)) 37 [V.str s2, V.str s3, V.int .u32 i0, vi i1] = some (V.tup [V.str s4, vi i2]))
    (c4 : cP ((k + 54)) 34 [V.str s2, V.str s3] = some (V.bool b0))
    (c5 : (!b0) = false)
    (c6 : decide (i1 < 0) = false)
    (c7 : decide (5000 < i1) = true)
    (c8 : cP ((k + 54)) 35 [] = some (V.bool b1))
    (c9 : b1 = true)
    (c10 : decide (i2 = 4) = false) :
    cP ((k + 55)) 10 [V.str s0, V.str s1, V.int .u32 i0, vi i1] = some (V.bool false) :=
  byF (k := k) (d := 55) [Hn.call 12 (V.str s2), Hn.call 14 (V.str s3), Hn.br 17 false, Hn.call 26 (V.tup [V.str s4, vi i2]), Hn.call 31 (V.bool b0), Hn.br 33 false, Hn.br 37 false, Hn.br 40 true, Hn.call 41 (V.bool b1), Hn.br 42 true, Hn.br 46 false] (aI c0 (aI c1 (aI c2 (aI c3 (aI c4 (aI c5 (aI c6 (aI c7 (aI c8 (aI c9 (aI c10 trivial))))))))))) (by kernel_rfl)
theorem P10_26 (i0 i1 i2 : Int) (b0 b1 : Bool) (s0 s1 s2 s3 s4 : List UInt8) (k : Nat)
    (c0 : cP ((k + 54)) 32 [V.str s0] = some (V.str s2))
    (c1 : cP ((k + 54)) 32 [V.str s1] = some (V.str s3))
    (c2 : decide (80 < i1) = false)
    (c3 : cP ((k + 54)) 37 [V.str s2, V.str s3, V.int .u32 i0, vi i1] = some (V.tup [V.str s4, vi i2]))
    (c4 : cP ((k + 54)) 34 [V.str s2, V.str s3] = some (V.bool b0))
    (c5 : (!b0) = false)
    (c6 : decide (i1 < 0) = false)
    (c7 : decide (5000 < i1) = true)
    (c8 : cP ((k + 54)) 35 [] = some (V.bool b1))
    (c9 : b1 = false) :
    cP ((k + 55)) 10 [V.str s0, V.str s1, V.int .u32 i0, vi i1] = some (V.bool false) :=
  byF (k := k) (d := 55) [Hn.call 12 (V.str s2), Hn.call 14 (V.str s3), Hn.br 17 false, Hn.call 26 (V.tup [V.str s4, vi i2]), Hn.call 31 (V.bool b0), Hn.br 33 false, Hn.br 37 false, Hn.br 40 true, Hn.call 41 (V.bool b1), Hn.br 42 false] (aI c0 (aI c1 (aI c2 (aI c3 (aI c4 (aI c5 (aI c6 (aI c7 (aI c8 (aI c9 trivial)))))))))) (by kernel_rfl)
theorem P10_27 (i0 i1 i2 : Int) (b0 b1 : Bool) (s0 s1 s2 s3 s4 s5 : List UInt8) (k : Nat)
    (c0 : cP ((k + 54)) 32 [V.str s0] = some (V.str s2))
    (c1 : cP ((k + 54)) 32 [V.str s1] = some (V.str s3))
    (c2 : decide (80 < i1) = false)
    (c3 : cP ((k + 54)) 37 [V.str s2, V.str s3, V.int .u32 i0, vi i1] = some (V.tup [V.str s4, vi i2]))
    (c4 : cP ((k + 54)) 34 [V.str s2, V.str s3] = some (V.bool b0))
    (c5 : (!b0) = false)
    (c6 : decide (i1 < 0) = false)
    (c7 : decide (5000 < i1) = false)
    (c8 : cP ((k + 54)) 35 [] = some (V.bool b1))
    (c9 : b1 = true)
    (c10 : decide (i2 = 0) = true)
    (c11 : cP ((k + 54)) 38 [V.str s2, V.str s3, V.int .u32 i0, vi i1] = some (V.str s5)) :
    cP ((k + 55)) 10 [V.str s0, V.str s1, V.int .u32 i0, vi i1] = some (V.bool (decide (s4 = s5))) :=
  byF (k := k) (d := 55) [Hn.call 12 (V.str s2), Hn.call 14 (V.str s3), Hn.br 17 false, Hn.call 26 (V.tup [V.str s4, vi i2]), Hn.call 31 (V.bool b0), Hn.br 33 false, Hn.br 37 false, Hn.br 40 false, Hn.call 50 (V.bool b1), Hn.br 51 true, Hn.br 55 true, Hn.call 61 (V.str s5)] (aI c0 (aI c1 (aI c2 (aI c3 (aI c4 (aI c5 (aI c6 (aI c7 (aI c8 (aI c9 (aI c10 (aI c11 trivial)))))))))))) (by kernel_rfl)
theorem P10_28 (i0 i1 i2 : Int) (b0 b1 : Bool) (s0 s1 s2 s3 s4 : List UInt8) (k : Nat)
    (c0 : cP ((k + 54)) 32 [V.str s0] = some (V.str s2))
    (c1 : cP ((k + 54)) 32 [V.str s1] = some (V.str s3))
    (c2 : decide (80 < i1) = false)
    (c3 : cP ((k + 54)) 37 [V.str s2, V.str s3, V.int .u32 i0, vi i1] = some (V.tup [V.str s4, vi i2]))
    (c4 : cP ((k + 54)) 34 [V.str s2, V.str s3] = some (V.bool b0))
    (c5 : (!b0) = false)
    (c6 : decide (i1 < 0) = false)
    (c7 : decide (5000 < i1) = false)
    (c8 : cP ((k + 54)) 35 [] = some (V.bool b1))
    (c9 : b1 = true)
    (c10 : decide (i2 = 0) = false) :
    cP ((k + 55)) 10 [V.str s0, V.str s1, V.int .u32 i0, vi i1] = some (V.bool false) :=
  byF (k := k) (d := 55) [Hn.call 12 (V.str s2), Hn.call 14 (V.str s3), Hn.br 17 false, Hn.call 26 (V.tup [V.str s4, vi i2]), Hn.call 31 (V.bool b0), Hn.br 33 false, Hn.br 37 false, Hn.br 40 false, Hn.call 50 (V.bool b1), Hn.br 51 true, Hn.br 55 false] (aI c0 (aI c1 (aI c2 (aI c3 (aI c4 (aI c5 (aI c6 (aI c7 (aI c8 (aI c9 (aI c10 trivial))))))))))) (by kernel_rfl)
theorem P10_29 (i0 i1 i2 : Int) (b0 b1 : Bool) (s0 s1 s2 s3 s4 : List UInt8) (k : Nat)
    (c0 : cP ((k + 54)) 32 [V.str s0] = some (V.str s2))
    (c1 : cP ((k + 54)) 32 [V.str s1] = some (V.str s3))
    (c2 : decide (80 < i1) = false)
    (c3 : cP ((k + 54)) 37 [V.str s2, V.str s3, V.int .u32 i0, vi i1] = some (V.tup [V.str s4, vi i2]))
    (c4 : cP ((k + 54)) 34 [V.str s2, V.str s3] = some (V.bool b0))
    (c5 : (!b0) = false)
    (c6 : decide (i1 < 0) = false)
    (c7 : decide (5000 < i1) = false)
    (c8 : cP ((k + 54)) 35 [] = some (V.bool b1))
    (c9 : b1 = false) :
    cP ((k + 55)) 10 [V.str s0, V.str s1, V.int .u32 i0, vi i1] = some (V.bool false) :=
  byF (k := k) (d := 55) [Hn.call 12 (V.str s2), Hn.call 14 (V.str s3), Hn.br 17 false, Hn.call 26 (V.tup [V.str s4, vi i2]), Hn.call 31 (V.bool b0), Hn.br 33 false, Hn.br 37 false, Hn.br 40 false, Hn.call 50 (V.bool b1), Hn.br 51 false] (aI c0 (aI c1 (aI c2 (aI c3 (aI c4 (aI c5 (aI c6 (aI c7 (aI c8 (aI c9 trivial)))))))))) (by kernel_rfl)
def F10 (k : Nat) (s0 s1 : List UInt8) (i0 i1 : Int) : Option (Bool) :=
  ((F32 (k + 51) (s0)).bind fun s2 => ((F32 (k + 51) (s1)).bind fun s3 => (bif decide (80 < i1) then (bif decide (i1 ≤ 5000) then ((F37 (k + 9) (s2) (s3) (i0) (80)).bind fun (s4, i2) => ((F34 (k + 48) (s2) (s3)).bind fun b0 => (bif !b0 then ((F35 (k + 2)).bind fun b1 => (bif b1 then (bif decide (i2 = 4) then (some (decide (s4 = []))) else (some (false))) else (some (false)))) else ((F35 (k + 2)).bind fun b1 => (bif b1 then (bif decide (i2 = 0) then ((F38 (k + 27) (s2) (s3) (i0) (80)).bind fun s5 => (some (decide (s4 = s5)))) else (some (false))) else (some (false))))))) else ((F37 (k + 9) (s2) (s3) (i0) (i1)).bind fun (s4, i2) => ((F34 (k + 48) (s2) (s3)).bind fun b0 => (bif !b0 then ((F35 (k + 2)).bind fun b1 => (bif b1 then (bif decide (i2 = 4) then (some (decide (s4 = []))) else (some (false))) else (some (false)))) else (bif decide (i1 < 0) then ((F35 (k + 2)).bind fun b1 => (bif b1 then (bif decide (i2 = 4) then (some (decide (s4 = []))) else (some (false))) else (some (false)))) else (bif decide (5000 < i1) then ((F35 (k + 2)).bind fun b1 => (bif b1 then (bif decide (i2 = 4) then (some (decide (s4 = []))) else (some (false))) else (some (false)))) else ((F35 (k + 2)).bind fun b1 => (bif b1 then (bif decide (i2 = 0) then ((F38 (k + 27) (s2) (s3) (i0) (i1)).bind fun s5 => (some (decide (s4 = s5)))) else (some (false))) else (some (false)))))))))) else ((F37 (k + 9) (s2) (s3) (i0) (i1)).bind fun (s4, i2) => ((F34 (k + 48) (s2) (s3)).bind fun b0 => (bif !b0 then ((F35 (k + 2)).bind fun b1 => (bif b1 then (bif decide (i2 = 4) then (some (decide (s4 = []))) else (some (false))) else (some (false)))) else (bif decide (i1 < 0) then ((F35 (k + 2)).bind fun b1 => (bif b1 then (bif decide (i2 = 4) then (some (decide (s4 = []))) else (some (false))) else (some (false)))) else (bif decide (5000 < i1) then ((F35 (k + 2)).bind fun b1 => (bif b1 then (bif decide (i2 = 4) then (some (decide (s4 = []))) else (some (false))) else (some (false)))) else ((F35 (k + 2)).bind fun b1 => (bif b1 then (bif decide (i2 = 0) then ((F38 (k + 27) (s2) (s3) (i0) (i1)).bind fun s5 => (some (decide (s4 = s5)))) else (some (false))) else (some (false))))))))))))
theorem F10_ok {s0 s1 : List UInt8} {i0 i1 : Int} {k : Nat} {r : Bool} (h : F10 k s0 s1 i0 i1 = some r) :
    cP ((k + 55)) 10 [V.str s0, V.str s1, V.int .u32 i0, vi i1] = some (V.bool r) := by
  unfold F10 at h
  obtain ⟨s2, e0, h⟩ := bE h
  obtain ⟨s3, e1, h⟩ := bE h
  rcases cond_elim h with ⟨e2, h⟩ | ⟨e2, h⟩
  ·
    rcases cond_elim h with ⟨e3, h⟩ | ⟨e3, h⟩
    ·
      obtain ⟨⟨s4, i2⟩, e4, h⟩ := bE h
      obtain ⟨b0, e5, h⟩ := bE h
      rcases cond_elim h with ⟨e6, h⟩ | ⟨e6, h⟩
      ·
        obtain ⟨b1, e7, h⟩ := bE h
        rcases cond_elim h with ⟨e8, h⟩ | ⟨e8, h⟩
        ·
          rcases cond_elim h with ⟨e9, h⟩ | ⟨e9, h⟩
          ·
            have h := Option.some.inj h; subst h; exact P10_0 i0 i1 i2 b0 b1 s0 s1 s2 s3 s4 k (F32_ok e0) (F32_ok e1) e2 e3 (F37_ok e4) (F34_ok e5) e6 (F35_ok e7) e8 e9
          ·
            have h := Option.some.inj h; subst h; exact P10_1 i0 i1 i2 b0 b1 s0 s1 s2 s3 s4 k (F32_ok e0) (F32_ok e1) e2 e3 (F37_ok e4) (F34_ok e5) e6 (F35_ok e7) e8 e9
        ·
          have h := Option.some.inj h; subst h; exact P10_2 i0 i1 i2 b0 b1 s0 s1 s2 s3 s4 k (F32_ok e0) (F32_ok e1) e2 e3 (F37_ok e4) (F34_ok e5) e6 (F35_ok e7) e8
      ·
        obtain ⟨b1, e7, h⟩ := bE h
        rcases cond_elim h with ⟨e8, h⟩ | ⟨e8, h⟩
        ·
          rcases cond_elim h with ⟨e9, h⟩ | ⟨e9, h⟩
          ·
            obtain ⟨s5, e10, h⟩ := bE h
            have h := Option.some.inj h; subst h; exact P10_3 i0 i1 i2 b0 b1 s0 s1 s2 s3 s4 s5 k (F32_ok e0) (F32_ok e1) e2 e3 (F37_ok e4) (F34_ok e5) e6 (F35_ok e7) e8 e9 (F38_ok e10)
          ·
            have h := Option.some.inj h; subst h; exact P10_4 i0 i1 i2 b0 b1 s0 s1 s2 s3 s4 k (F32_ok e0) (F32_ok e1) e2 e3 (F37_ok e4) (F34_ok e5) e6 (F35_ok e7) e8 e9
        ·
          have h := Option.some.inj h; subst h; exact P10_5 i0 i1 i2 b0 b1 s0 s1 s2 s3 s4 k (F32_ok e0) (F32_ok e1) e2 e3 (F37_ok e4) (F34_ok e5) e6 (F35_ok e7) e8
    ·
      obtain ⟨⟨s4, i2⟩, e4, h⟩ := bE h
      obtain ⟨b0, e5, h⟩ := bE h
      rcases cond_elim h with ⟨e6, h⟩ | ⟨e6, h⟩
      ·
        obtain ⟨b1, e7, h⟩ := bE h
        rcases cond_elim h with ⟨e8, h⟩ | ⟨e8, h⟩
        ·
          rcases cond_elim h with ⟨e9, h⟩ | ⟨e9, h⟩
          ·
            have h := Option.some.inj h; subst h; exact P10_6 i0 i1 i2 b0 b1 s0 s1 s2 s3 s4 k (F32_ok e0) (F32_ok e1) e2 e3 (F37_ok e4) (F34_ok e5) e6 (F35_ok e7) e8 e9
          ·
            have h := Option.some.inj h; subst h; exact P10_7 i0 i1 i2 b0 b1 s0 s1 s2 s3 s4 k (F32_ok e0) (F32_ok e1) e2 e3 (F37_ok e4) (F34_ok e5) e6 (F35_ok e7) e8 e9
        ·
          have h := Option.some.inj h; subst h; exact P10_8 i0 i1 i2 b0 b1 s0 s1 s2 s3 s4 k (F32_ok e0) (F32_ok e1) e2 e3 (F37_ok e4) (F34_ok e5) e6 (F35_ok e7) e8
      ·
        rcases cond_elim h with ⟨e7, h⟩ | ⟨e7, h⟩
        ·
          obtain ⟨b1, e8, h⟩ := bE h
          rcases cond_elim h with ⟨e9, h⟩ | ⟨e9, h⟩
          ·
            rcases cond_elim h with ⟨e10, h⟩ | ⟨e10, h⟩
            ·
              have h := Option.some.inj h; subst h; exact P10_9 i0 i1 i2 b0 b1 s0 s1 s2 s3 s4 k (F32_ok e0) (F32_ok e1) e2 e3 (F37_ok e4) (F34_ok e5) e6 e7 (F35_ok e8) e9 e10
            ·
              have h := Option.some.inj h; subst h; exact P10_10 i0 i1 i2 b0 b1 s0 s1 s2 s3 s4 k (F32_ok e0) (F32_ok e1) e2 e3 (F37_ok e4) (F34_ok e5) e6 e7 (F35_ok e8) e9 e10
          ·
            have h := Option.some.inj h; subst h; exact P10_11 i0 i1 i2 b0 b1 s0 s1 s2 s3 s4 k (F32_ok e0) (F32_ok e1) e2 e3 (F37_ok e4) (F34_ok e5) e6 e7 (F35_ok e8) e9
        ·
          rcases cond_elim h with ⟨e8, h⟩ | ⟨e8, h⟩
          ·
            obtain ⟨b1, e9, h⟩ := bE h
            rcases cond_elim h with ⟨e10, h⟩ | ⟨e10, h⟩
            ·
              rcases cond_elim h with ⟨e11, h⟩ | ⟨e11, h⟩
              ·
                have h := Option.some.inj h; subst h; exact P10_12 i0 i1 i2 b0 b1 s0 s1 s2 s3 s4 k (F32_ok e0) (F32_ok e1) e2 e3 (F37_ok e4) (F34_ok e5) e6 e7 e8 (F35_ok e9) e10 e11
              ·
                have h := Option.some.inj h; subst h; exact P10_13 i0 i1 i2 b0 b1 s0 s1 s2 s3 s4 k (F32_ok e0) (F32_ok e1) e2 e3 (F37_ok e4) (F34_ok e5) e6 e7 e8 (F35_ok e9) e10 e11
            ·
              have h := Option.some.inj h; subst h; exact P10_14 i0 i1 i2 b0 b1 s0 s1 s2 s3 s4 k (F32_ok e0) (F32_ok e1) e2 e3 (F37_ok e4) (F34_ok e5) e6 e7 e8 (F35_ok e9) e10
          ·
            obtain ⟨b1, e9, h⟩ := bE h
            rcases cond_elim h with ⟨e10, h⟩ | ⟨e10, h⟩
            ·
              rcases cond_elim h with ⟨e11, h⟩ | ⟨e11, h⟩
              ·
                obtain ⟨s5, e12, h⟩ := bE h
                have h := Option.some.inj h; subst h; exact P10_15 i0 i1 i2 b0 b1 s0 s1 s2 s3 s4 s5 k (F32_ok e0) (F32_ok e1) e2 e3 (F37_ok e4) (F34_ok e5) e6 e7 e8 (F35_ok e9) e10 e11 (F38_ok e12)
              ·
                have h := Option.some.inj h; subst h; exact P10_16 i0 i1 i2 b0 b1 s0 s1 s2 s3 s4 k (F32_ok e0) (F32_ok e1) e2 e3 (F37_ok e4) (F34_ok e5) e6 e7 e8 (F35_ok e9) e10 e11
            ·
              have h := Option.some.inj h; subst h; exact P10_17 i0 i1 i2 b0 b1 s0 s1 s2 s3 s4 k (F32_ok e0) (F32_ok e1) e2 e3 (F37_ok e4) (F34_ok e5) e6 e7 e8 (F35_ok e9) e10
  ·
    obtain ⟨⟨s4, i2⟩, e3, h⟩ := bE h
    obtain ⟨b0, e4, h⟩ := bE h
    rcases cond_elim h with ⟨e5, h⟩ | ⟨e5, h⟩
    ·
      obtain ⟨b1, e6, h⟩ := bE h
      rcases cond_elim h with ⟨e7, h⟩ | ⟨e7, h⟩
      ·
        rcases cond_elim h with ⟨e8, h⟩ | ⟨e8, h⟩
        ·
          have h := Option.some.inj h; subst h; exact P10_18 i0 i1 i2 b0 b1 s0 s1 s2 s3 s4 k (F32_ok e0) (F32_ok e1) e2 (F37_ok e3) (F34_ok e4) e5 (F35_ok e6) e7 e8
        ·
          have h := Option.some.inj h; subst h; exact P10_19 i0 i1 i2 b0 b1 s0 s1 s2 s3 s4 k (F32_ok e0) (F32_ok e1) e2 (F37_ok e3) (F34_ok e4) e5 (F35_ok e6) e7 e8
      ·
        have h := Option.some.inj h; subst h; exact P10_20 i0 i1 i2 b0 b1 s0 s1 s2 s3 s4 k (F32_ok e0) (F32_ok e1) e2 (F37_ok e3) (F34_ok e4) e5 (F35_ok e6) e7
    ·
      rcases cond_elim h with ⟨e6, h⟩ | ⟨e6, h⟩
      ·
        obtain ⟨b1, e7, h⟩ := bE h
        rcases cond_elim h with ⟨e8, h⟩ | ⟨e8, h⟩
        ·
          rcases cond_elim h with ⟨e9, h⟩ | ⟨e9, h⟩
          ·
            have h := Option.some.inj h; subst h; exact P10_21 i0 i1 i2 b0 b1 s0 s1 s2 s3 s4 k (F32_ok e0) (F32_ok e1) e2 (F37_ok e3) (F34_ok e4) e5 e6 (F35_ok e7) e8 e9
          ·
            have h := Option.some.inj h; subst h; exact P10_22 i0 i1 i2 b0 b1 s0 s1 s2 s3 s4 k (F32_ok e0) (F32_ok e1) e2 (F37_ok e3) (F34_ok e4) e5 e6 (F35_ok e7) e8 e9
        ·
          have h := Option.some.inj h; subst h; exact P10_23 i0 i1 i2 b0 b1 s0 s1 s2 s3 s4 k (F32_ok e0) (F32_ok e1) e2 (F37_ok e3) (F34_ok e4) e5 e6 (F35_ok e7) e8
      ·
        rcases cond_elim h with ⟨e7, h⟩ | ⟨e7, h⟩
        ·
          obtain ⟨b1, e8, h⟩ := bE h
          rcases cond_elim h with ⟨e9, h⟩ | ⟨e9, h⟩
          ·
            rcases cond_elim h with ⟨e10, h⟩ | ⟨e10, h⟩
            ·
              have h := Option.some.inj h; subst h; exact P10_24 i0 i1 i2 b0 b1 s0 s1 s2 s3 s4 k (F32_ok e0) (F32_ok e1) e2 (F37_ok e3) (F34_ok e4) e5 e6 e7 (F35_ok e8) e9 e10
            ·
              have h := Option.some.inj h; subst h; exact P10_25 i0 i1 i2 b0 b1 s0 s1 s2 s3 s4 k (F32_ok e0) (F32_ok e1) e2 (F37_ok e3) (F34_ok e4) e5 e6 e7 (F35_ok e8) e9 e10
          ·
            have h := Option.some.inj h; subst h; exact P10_26 i0 i1 i2 b0 b1 s0 s1 s2 s3 s4 k (F32_ok e0) (F32_ok e1) e2 (F37_ok e3) (F34_ok e4) e5 e6 e7 (F35_ok e8) e9
        ·
          obtain ⟨b1, e8, h⟩ := bE h
          rcases cond_elim h with ⟨e9, h⟩ | ⟨e9, h⟩
          ·
            rcases cond_elim h with ⟨e10, h⟩ | ⟨e10, h⟩
            ·
              obtain ⟨s5, e11, h⟩ := bE h
              have h := Option.some.inj h; subst h; exact P10_27 i0 i1 i2 b0 b1 s0 s1 s2 s3 s4 s5 k (F32_ok e0) (F32_ok e1) e2 (F37_ok e3) (F34_ok e4) e5 e6 e7 (F35_ok e8) e9 e10 (F38_ok e11)
            ·
              have h := Option.some.inj h; subst h; exact P10_28 i0 i1 i2 b0 b1 s0 s1 s2 s3 s4 k (F32_ok e0) (F32_ok e1) e2 (F37_ok e3) (F34_ok e4) e5 e6 e7 (F35_ok e8) e9 e10
          ·
            have h := Option.some.inj h; subst h; exact P10_29 i0 i1 i2 b0 b1 s0 s1 s2 s3 s4 k (F32_ok e0) (F32_ok e1) e2 (F37_ok e3) (F34_ok e4) e5 e6 e7 (F35_ok e8) e9
end Go.Proofs
