/-
  What the law GcmSeals answers, checked against the program.
-/
import Derived.Test.YtegmincienhapaaGcA
set_option linter.unusedVariables false
set_option maxHeartbeats 0
set_option maxRecDepth 100000
namespace Go.Proofs
open Go Go.Sym

theorem P9_0 (i0 : Int) (b0 b1 : Bool) (s0 s1 s2 s3 s4 s5 s6 s7 s8 : List UInt8) (k : Nat)
    (c0 : cP ((k + 54)) 32 [V.str s0] = some (V.str s4))
    (c1 : cP ((k + 54)) 32 [V.str s1] = some (V.str s5))
    (c2 : decide ((↑s2.length : Int) ≤ 4096) = true)
    (c3 : decide ((↑s3.length : Int) ≤ 4096) = true)
    (c4 : cP ((k + 54)) 32 [V.str s2] = some (V.str s6))
    (c5 : cP ((k + 54)) 32 [V.str s3] = some (V.str s7))
    (c6 : cP ((k + 54)) 33 [V.str s4, V.str s5, V.str s6, V.str s7] = some (V.tup [V.str s8, vi i0]))
    (c7 : cP ((k + 54)) 34 [V.str s4, V.str s5] = some (V.bool b0))
    (c8 : (!b0) = true)
    (c9 : cP ((k + 54)) 35 [] = some (V.bool b1))
    (c10 : b1 = true)
    (c11 : decide (i0 = 4) = true) :
    cP ((k + 55)) 9 [V.str s0, V.str s1, V.str s2, V.str s3] = some (V.bool (decide (s8 = []))) :=
  byF (k := k) (d := 55) [Hn.call 12 (V.str s4), Hn.call 14 (V.str s5), Hn.br 18 true, Hn.br 22 true, Hn.call 24 (V.str s6), Hn.call 26 (V.str s7), Hn.call 32 (V.tup [V.str s8, vi i0]), Hn.call 37 (V.bool b0), Hn.br 39 true, Hn.call 49 (V.bool b1), Hn.br 50 true, Hn.br 54 true] (aI c0 (aI c1 (aI c2 (aI c3 (aI c4 (aI c5 (aI c6 (aI c7 (aI c8 (aI c9 (aI c10 (aI c11 trivial)))))))))))) (by kernel_rfl)
theorem P9_1 (i0 : Int) (b0 b1 : Bool) (s0 s1 s2 s3 s4 s5 s6 s7 s8 : List UInt8) (k : Nat)
    (c0 : cP ((k + 54)) 32 [V.str s0] = some (V.str s4))
    (c1 : cP ((k + 54)) 32 [V.str s1] = some (V.str s5))
    (c2 : decide ((↑s2.length : Int) ≤ 4096) = true)
    (c3 : decide ((↑s3.length : Int) ≤ 4096) = true)
    (c4 : cP ((k + 54)) 32 [V.str s2] = some (V.str s6))
    (c5 : cP ((k + 54)) 32 [V.str s3] = some (V.str s7))
    (c6 : cP ((k + 54)) 33 [V.str s4, V.str s5, V.str s6, V.str s7] = some (V.tup [V.str s8, vi i0]))
    (c7 : cP ((k + 54)) 34 [V.str s4, V.str s5] = some (V.bool b0))
    (c8 : (!b0) = true)
    (c9 : cP ((k + 54)) 35 [] = some (V.bool b1))
    (c10 : b1 = true)
    (c11 : decide (i0 = 4) = false) :
    cP ((k + 55)) 9 [V.str s0, V.str s1, V.str s2, V.str s3] = some (V.bool false) :=
  byF (k := k) (d := 55) [Hn.call 12 (V.str s4), Hn.call 14 (V.str s5), Hn.br 18 true, Hn.br 22 true, Hn.call 24 (V.str s6), Hn.call 26 (V.str s7), Hn.call 32 (V.tup [V.str s8, vi i0]), Hn.call 37 (V.bool b0), Hn.br 39 true, Hn.call 49 (V.bool b1), Hn.br 50 true, Hn.br 54 false] (aI c0 (aI c1 (aI c2 (aI c3 (aI c4 (aI c5 (aI c6 (aI c7 (aI c8 (aI c9 (aI c10 (aI c11 trivial)))))))))))) (by kernel_rfl)
theorem P9_2 (i0 : Int) (b0 b1 : Bool) (s0 s1 s2 s3 s4 s5 s6 s7 s8 : List UInt8) (k : Nat)
    (c0 : cP ((k + 54)) 32 [V.str s0] = some (V.str s4))
    (c1 : cP ((k + 54)) 32 [V.str s1] = some (V.str s5))
    (c2 : decide ((↑s2.length : Int) ≤ 4096) = true)
    (c3 : decide ((↑s3.length : Int) ≤ 4096) = true)
    (c4 : cP ((k + 54)) 32 [V.str s2] = some (V.str s6))
    (c5 : cP ((k + 54)) 32 [V.str s3] = some (V.str s7))
    (c6 : cP ((k + 54)) 33 [V.str s4, V.str s5, V.str s6, V.str s7] = some (V.tup [V.str s8, vi i0]))
    (c7 : cP ((k + 54)) 34 [V.str s4, V.str s5] = some (V.bool b0))
    (c8 : (!b0) = true)
    (c9 : cP ((k + 54)) 35 [] = some (V.bool b1))
    (c10 : b1 = false) :
    cP ((k + 55)) 9 [V.str s0, V.str s1, V.str s2, V.str s3] = some (V.bool false) :=
  byF (k := k) (d := 55) [Hn.call 12 (V.str s4), Hn.call 14 (V.str s5), Hn.br 18 true, Hn.br 22 true, Hn.call 24 (V.str s6), Hn.call 26 (V.str s7), Hn.call 32 (V.tup [V.str s8, vi i0]), Hn.call 37 (V.bool b0), Hn.br 39 true, Hn.call 49 (V.bool b1), Hn.br 50 false] (aI c0 (aI c1 (aI c2 (aI c3 (aI c4 (aI c5 (aI c6 (aI c7 (aI c8 (aI c9 (aI c10 trivial))))))))))) (by kernel_rfl)
theorem P9_3 (i0 : Int) (b0 b1 : Bool) (s0 s1 s2 s3 s4 s5 s6 s7 s8 : List UInt8) (k : Nat)
    (c0 : cP ((k + 54)) 32 [V.str s0] = some (V.str s4))
    (c1 : cP ((k + 54)) 32 [V.str s1] = some (V.str s5))
    (c2 : decide ((↑s2.length : Int) ≤ 4096) = true)
    (c3 : decide ((↑s3.length : Int) ≤ 4096) = true)
    (c4 : cP ((k + 54)) 32 [V.str s2] = some (V.str s6))
    (c5 : cP ((k + 54)) 32 [V.str s3] = some (V.str s7))
    (c6 : cP ((k + 54)) 33 [V.str s4, V.str s5, V.str s6, V.str s7] = some (V.tup [V.str s8, vi i0]))
    (c7 : cP ((k + 54)) 34 [V.str s4, V.str s5] = some (V.bool b0))
    (c8 : (!b0) = false)
    (c9 : decide (4096 < (↑s6.length : Int)) = true)
    (c10 : cP ((k + 54)) 35 [] = some (V.bool b1))
    (c11 : b1 = true)
    (c12 : decide (i0 = 4) = true) :
    cP ((k + 55)) 9 [V.str s0, V.str s1, V.str s2, V.str s3] = some (V.bool (decide (s8 = []))) :=
  byF (k := k) (d := 55) [Hn.call 12 (V.str s4), Hn.call 14 (V.str s5), Hn.br 18 true, Hn.br 22 true, Hn.call 24 (V.str s6), Hn.call 26 (V.str s7), Hn.call 32 (V.tup [V.str s8, vi i0]), Hn.call 37 (V.bool b0), Hn.br 39 false, Hn.br 44 true, Hn.call 49 (V.bool b1), Hn.br 50 true, Hn.br 54 true] (aI c0 (aI c1 (aI c2 (aI c3 (aI c4 (aI c5 (aI c6 (aI c7 (aI c8 (aI c9 (aI c10 (aI c11 (aI c12 trivial))))))))))))) (by kernel_rfl)
theorem P9_4 (i0 : Int) (b0 b1 : Bool) (s0 s1 s2 s3 s4 s5 s6 s7 s8 : List UInt8) (k : Nat)
    (c0 : cP ((k + 54)) 32 [V.str s0] = some (V.str s4))
    (c1 : cP ((k + 54)) 32 [V.str s1] = some (V.str s5))
    (c2 : decide ((↑s2.length : Int) ≤ 4096) = true)
    (c3 : decide ((↑s3.length : Int) ≤ 4096) = true)
    (c4 : cP ((k + 54)) 32 [V.str s2] = some (V.str s6))
    (c5 : cP ((k + 54)) 32 [V.str s3] = some (V.str s7))
    (c6 : cP ((k + 54)) 33 [V.str s4, V.str s5, V.str s6, V.str s7] = some (V.tup [V.str s8, vi i0]))
    (c7 : cP ((k + 54)) 34 [V.str s4, V.str s5] = some (V.bool b0))
    (c8 : (!b0) = false)
    (c9 : decide (4096 < (↑s6.length : Int)) = true)
    (c10 : cP ((k + 54)) 35 [] = some (V.bool b1))
    (c11 : b1 = true)
    (c12 : decide (i0 = 4) = false) :
    cP ((k + 55)) 9 [V.str s0, V.str s1, V.str s2, V.str s3] = some (V.bool false) :=
  byF (k := k) (d := 55) [Hn.call 12 (V.str s4), Hn.call 14 (V.str s5), Hn.br 18 true, Hn.br 22 true, Hn.call 24 (V.str s6), Hn.call 26 (V.str s7), Hn.call 32 (V.tup [V.str s8, vi i0]), Hn.call 37 (V.bool b0), Hn.br 39 false, Hn.br 44 true, Hn.call 49 (V.bool b1), Hn.br 50 true, Hn.br 54 false] (aI c0 (aI c1 (aI c2 (aI c3 (aI c4 (aI c5 (aI c6 (aI c7 (aI c8 (aI c9 (aI c10 (aI c11 (aI c12 trivial))))))))))))) (by kernel_rfl)
theorem P9_5 (i0 : Int) (b0 b1 : Bool) (s0 s1 s2 s3 s4 s5 s6 s7 s8 : List UInt8) (k : Nat)
    (c0 : cP ((k + 54)) 32 [V.str s0] = some (V.str s4))
    (c1 : cP ((k + 54)) 32 [V.str s1] = some (V.str s5))
    (c2 : decide ((↑s2.length : Int) ≤ 4096) = true)
    (c3 : decide ((↑s3.length : Int) ≤ 4096) = true)
    (c4 : cP ((k + 54)) 32 [V.str s2] = some (V.str s6))
    (c5 : cP ((k + 54)) 32 [V.str s3] = some (V.str s7))
    (c6 : cP ((k + 54)) 33 [V.str s4, V.str s5, V.str s6, V.str s7] = some (V.tup [V.str s8, vi i0]))
    (c7 : cP ((k + 54)) 34 [V.str s4, V.str s5] = some (V.bool b0))
    (c8 : (!b0) = false)
    (c9 : decide (4096 < (↑s6.length : Int)) = true)
    (c10 : cP ((k + 54)) 35 [] = some (V.bool b1))
    (c11 : b1 = false) :
    cP ((k + 55)) 9 [V.str s0, V.str s1, V.str s2, V.str s3] = some (V.bool false) :=
  byF (k := k) (d := 55) [Hn.call 12 (V.str s4), Hn.call 14 (V.str s5), Hn.br 18 true, Hn.br 22 true, Hn.call 24 (V.str s6), Hn.call 26 (V.str s7), Hn.call 32 (V.tup [V.str s8, vi i0]), Hn.call 37 (V.bool b0), Hn.br 39 false, Hn.br 44 true, Hn.call 49 (V.bool b1), Hn.br 50 false] (aI c0 (aI c1 (aI c2 (aI c3 (aI c4 (aI c5 (aI c6 (aI c7 (aI c8 (aI c9 (aI c10 (aI c11 trivial)))))))))))) (by kernel_rfl)
theorem P9_6 (i0 : Int) (b0 b1 : Bool) (s0 s1 s2 s3 s4 s5 s6 s7 s8 : List UInt8) (k : Nat)
    (c0 : cP ((k + 54)) 32 [V.str s0] = some (V.str s4))
    (c1 : cP ((k + 54)) 32 [V.str s1] = some (V.str s5))
    (c2 : decide ((↑s2.length : Int) ≤ 4096) = true)
    (c3 : decide ((↑s3.length : Int) ≤ 4096) = true)
    (c4 : cP ((k + 54)) 32 [V.str s2] = some (V.str s6))
    (c5 : cP ((k + 54)) 32 [V.str s3] = some (V.str s7))
    (c6 : cP ((k + 54)) 33 [V.str s4, V.str s5, V.str s6, V.str s7] = some (V.tup [V.str s8, vi i0]))
    (c7 : cP ((k + 54)) 34 [V.str s4, V.str s5] = some (V.bool b0))
    (c8 : (!b0) = false)
    (c9 : decide (4096 < (↑s6.length : Int)) = false)
    (c10 : decide (4096 < (↑s7.length : Int)) = true)
    (c11 : cP ((k + 54)) 35 [] = some (V.bool b1))
    (c12 : b1 = true)
    (c13 : decide (i0 = 4) = true) :
    cP ((k + 55)) 9 [V.str s0, V.str s1, V.str s2, V.str s3] = some (V.bool (decide (s8 = []))) :=
  byF (k := k) (d := 55) [Hn.call 12 (V.str s4), Hn.call 14 (V.str s5), Hn.br 18 true, Hn.br 22 true, Hn.call 24 (V.str s6), Hn.call 26 (V.str s7), Hn.call 32 (V.tup [V.str s8, vi i0]), Hn.call 37 (V.bool b0), Hn.br 39 false, Hn.br 44 false, Hn.br 48 true, Hn.call 49 (V.bool b1), Hn.br 50 true, Hn.br 54 true] (aI c0 (aI c1 (aI c2 (aI c3 (aI c4 (aI c5 (aI c6 (aI c7 (aI c8 (aI c9 (aI c10 (aI c11 (aI c12 (aI c13 trivial)))))))))))))) (by kernel_rfl)
theorem P9_7 (i0 : Int) (b0 b1 : Bool) (s0 s1 s2 s3 s4 s5 s6 s7 s8 : List UInt8) (k : Nat)
    (c0 : cP ((k + 54)) 32 [V.str s0] = some (V.str s4))
    (c1 : cP ((k + 54)) 32 [V.str s1] = some (V.str s5))
    (c2 : decide ((↑s2.length : Int) ≤ 4096) = true)
    (c3 : decide ((↑s3.length : Int) ≤ 4096) = true)
    (c4 : cP ((k + 54)) 32 [V.str s2] = some (V.str s6))
    (c5 : cP ((k + 54)) 32 [V.str s3] = some (V.str s7))
    (c6 : cP ((k + 54)) 33 [V.str s4, V.str s5, V.str s6, V.str s7] = some (V.tup [V.str s8, vi i0]))
    (c7 : cP ((k + 54)) 34 [V.str s4, V.str s5] = some (V.bool b0))
    (c8 : (!b0) = false)
    (c9 : decide (4096 < (↑s6.length : Int)) = false)
    (c10 : decide (4096 < (↑s7.length : Int)) = true)
    (c11 : cP ((k + 54)) 35 [] = some (V.bool b1))
    (c12 : b1 = true)
    (c13 : decide (i0 = 4) = false) :
    cP ((k + 55)) 9 [V.str s0, V.str s1, V.str s2, V.str s3] = some (V.bool false) :=
  byF (k := k) (d := 55) [Hn.call 12 (V.str s4), Hn.call 14 (V.str s5), Hn.br 18 true, Hn.br 22 true, Hn.call 24 (V.str s6), Hn.call 26 (V.str s7), Hn.call 32 (V.tup [V.str s8, vi i0]), Hn.call 37 (V.bool b0), Hn.br 39 false, Hn.br 44 false, Hn.br 48 true, Hn.call 49 (V.bool b1), Hn.br 50 true, Hn.br 54 false] (aI c0 (aI c1 (aI c2 (aI c3 (aI c4 (aI c5 (aI c6 (aI c7 (aI c8 (aI c9 (aI c10 (aI c11 (aI c12 (aI c13 trivial)))))))))))))) (by kernel_rfl)
theorem P9_8 (i0 : Int) (b0 b1 : Bool) (s0 s1 s2 s3 s4 s5 s6 s7 s8 : List UInt8) (k : Nat)
    (c0 : cP ((k + 54)) 32 [V.str s0] = some (V.str s4))
    (c1 : cP ((k + 54)) 32 [V.str s1] = some (V.str s5))
    (c2 : decide ((↑s2.length : Int) ≤ 4096) = true)
    (c3 : decide ((↑s3.length : Int) ≤ 4096) = true)
    (c4 : cP ((k + 54)) 32 [V.str s2] = some (V.str s6))
    (c5 : cP ((k + 54)) 32 [V.str s3] = some (V.str s7))
    (c6 : cP ((k + 54)) 33 [V.str s4, V.str s5, V.str s6, V.str s7] = some (V.tup [V.str s8, vi i0]))
    (c7 : cP ((k + 54)) 34 [V.str s4, V.str s5] = some (V.bool b0))
    (c8 : (!b0) = false)
    (c9 : decide (4096 < (↑s6.length : Int)) = false)
    (c10 : decide (4096 < (↑s7.length : Int)) = true)
    (c11 : cP ((k + 54)) 35 [] = some (V.bool b1))
    (c12 : b1 = false) :
    cP ((k + 55)) 9 [V.str s0, V.str s1, V.str s2, V.str s3] = some (V.bool false) :=
  byF (k := k) (d := 55) [Hn.call 12 (V.str s4), Hn.call 14 (V.str s5), Hn.br 18 true, Hn.br 22 true, Hn.call 24 (V.str s6), Hn.call 26 (V.str s7), Hn.call 32 (V.tup [V.str s8, vi i0]), Hn.call 37 (V.bool b0), Hn.br 39 false, Hn.br 44 false, Hn.br 48 true, Hn.call 49 (V.bool b1), Hn.br 50 false] (aI c0 (aI c1 (aI c2 (aI c3 (aI c4 (aI c5 (aI c6 (aI c7 (aI c8 (aI c9 (aI c10 (aI c11 (aI c12 trivial))))))))))))) (by kernel_rfl)
theorem P9_9 (i0 : Int) (b0 b1 : Bool) (s0 s1 s2 s3 s4 s5 s6 s7 s8 s9 : List UInt8) (k : Nat)
    (c0 : cP ((k + 54)) 32 [V.str s0] = some (V.str s4))
    (c1 : cP ((k + 54)) 32 [V.str s1] = some (V.str s5))
    (c2 : decide ((↑s2.length : Int) ≤ 4096) = true)
    (c3 : decide ((↑s3.length : Int) ≤ 4096) = true)
    (c4 : cP ((k + 54)) 32 [V.str s2] = some (V.str s6))
    (c5 : cP ((k + 54)) 32 [V.str s3] = some (V.str s7))
    (c6 : cP ((k + 54)) 33 [V.str s4, V.str s5, V.str s6, V.str s7] = some (V.tup [V.str s8, vi i0]))
    (c7 : cP ((k + 54)) 34 [V.str s4, V.str s5] = some (V.bool b0))
    (c8 : (!b0) = false)
    (c9 : decide (4096 < (↑s6.length : Int)) = false)
    (c10 : decide (4096 < (↑s7.length : Int)) = false)
    (c11 : cP ((k + 54)) 35 [] = some (V.bool b1))
    (c12 : b1 = true)
    (c13 : decide (i0 = 0) = true)
    (c14 : cP ((k + 54)) 36 [V.str s4, V.str s5, V.str s6, V.str s7] = some (V.str s9)) :
    cP ((k + 55)) 9 [V.str s0, V.str s1, V.str s2, V.str s3] = some (V.bool (decide (s8 = s9))) :=
  byF (k := k) (d := 55) [Hn.call 12 (V.str s4), Hn.call 14 (V.str s5), Hn.br 18 true, Hn.br 22 true, Hn.call 24 (V.str s6), Hn.call 26 (V.str s7), Hn.call 32 (V.tup [V.str s8, vi i0]), Hn.call 37 (V.bool b0), Hn.br 39 false, Hn.br 44 false, Hn.br 48 false, Hn.call 58 (V.bool b1), Hn.br 59 true, Hn.br 63 true, Hn.call 69 (V.str s9)] (aI c0 (aI c1 (aI c2 (aI c3 (aI c4 (aI c5 (aI c6 (aI c7 (aI c8 (aI c9 (aI c10 (aI c11 (aI c12 (aI c13 (aI c14 trivial))))))))))))))) (by kernel_rfl)
theorem P9_10 (i0 : Int) (b0 b1 : Bool) (s0 s1 s2 s3 s4 s5 s6 s7 s8 : List UInt8) (k : Nat)
    (c0 : cP ((k + 54)) 32 [V.str s0] = some (V.str s4))
    (c1 : cP ((k + 54)) 32 [V.str s1] = some (V.str s5))
    (c2 : decide ((↑s2.length : Int) ≤ 4096) = true)
    (c3 : decide ((↑s3.length : Int) ≤ 4096) = true)
    (c4 : cP ((k + 54)) 32 [V.str s2] = some (V.str s6))
    (c5 : cP ((k + 54)) 32 [V.str s3] = some (V.str s7))
    (c6 : cP ((k + 54)) 33 [V.str s4, V.str s5, V.str s6, V.str s7] = some (V.tup [V.str s8, vi i0]))
    (c7 : cP ((k + 54)) 34 [V.str s4, V.str s5] = some (V.bool b0))
    (c8 : (!b0) = false)
    (c9 : decide (4096 < (↑s6.length : Int)) = false)
    (c10 : decide (4096 < (↑s7.length : Int)) = false)
    (c11 : cP ((k + 54)) 35 [] = some (V.bool b1))
    (c12 : b1 = true)
    (c13 : decide (i0 = 0) = false) :
    cP ((k + 55)) 9 [V.str s0, V.str s1, V.str s2, V.str s3] = some (V.bool false) :=
  byF (k := k) (d := 55) [Hn.call 12 (V.str s4), Hn.call 14 (V.str s5), Hn.br 18 true, Hn.br 22 true, Hn.call 24 (V.str s6), Hn.call 26 (V.str s7), Hn.call 32 (V.tup [V.str s8, vi i0]), Hn.call 37 (V.bool b0), Hn.br 39 false, Hn.br 44 false, Hn.br 48 false, Hn.call 58 (V.bool b1), Hn.br 59 true, Hn.br 63 false] (aI c0 (aI c1 (aI c2 (aI c3 (aI c4 (aI c5 (aI c6 (aI c7 (aI c8 (aI c9 (aI c10 (aI c11 (aI c12 (aI c13 trivial)))))))))))))) (by kernel_rfl)
theorem P9_11 (i0 : Int) (b0 b1 : Bool) (s0 s1 s2 s3 s4 s5 s6 s7 s8 : List UInt8) (k : Nat)
    (c0 : cP ((k + 54)) 32 [V.str s0] = some (V.str s4))
    (c1 : cP ((k + 54)) 32 [V.str s1] = some (V.str s5))
    (c2 : decide ((↑s2.length : Int) ≤ 4096) = true)
    (c3 : decide ((↑s3.length : Int) ≤ 4096) = true)
    (c4 : cP ((k + 54)) 32 [V.str s2] = some (V.str s6))
    (c5 : cP ((k + 54)) 32 [V.str s3] = some (V.str s7))
    (c6 : cP ((k + 54)) 33 [V.str s4, V.str s5, V.str s6, V.str s7] = some (V.tup [V.str s8, vi i0]))
    (c7 : cP ((k + 54)) 34 [V.str s4, V.str s5] = some (V.bool b0))
    (c8 : (!b0) = false)
    (c9 : decide (4096 < (↑s6.length : Int)) = false)
    (c10 : decide (4096 < (↑s7.length : Int)) = false)
    (c11 : cP ((k + 54)) 35 [] = some (V.bool b1))
    (c12 : b1 = false) :
    cP ((k + 55)) 9 [V.str s0, V.str s1, V.str s2, V.str s3] = some (V.bool false) :=
  byF (k := k) (d := 55) [Hn.call 12 (V.str s4), Hn.call 14 (V.str s5), Hn.br 18 true, Hn.br 22 true, Hn.call 24 (V.str s6), Hn.call 26 (V.str s7), Hn.call 32 (V.tup [V.str s8, vi i0]), Hn.call 37 (V.bool b0), Hn.br 39 false, Hn.br 44 false, Hn.br 48 false, Hn.call 58 (V.bool b1), Hn.br 59 false] (aI c0 (aI c1 (aI c2 (aI c3 (aI c4 (aI c5 (aI c6 (aI c7 (aI c8 (aI c9 (aI c10 (aI c11 (aI c12 trivial))))))))))))) (by kernel_rfl)
theorem P9_12 (i0 : Int) (b0 b1 : Bool) (s0 s1 s2 s3 s4 s5 s6 : List UInt8) (k : Nat)
    (c0 : cP ((k + 54)) 32 [V.str s0] = some (V.str s4))
    (c1 : cP ((k + 54)) 32 [V.str s1] = some (V.str s5))
    (c2 : decide ((↑s2.length : Int) ≤ 4096) = true)
    (c3 : decide ((↑s3.length : Int) ≤ 4096) = false)
    (c4 : cP ((k + 54)) 33 [V.str s4, V.str s5, V.str s2, V.str s3] = some (V.tup [V.str s6, vi i0]))
    (c5 : cP ((k + 54)) 34 [V.str s4, V.str s5] = some (V.bool b0))
    (c6 : (!b0) = true)
    (c7 : cP ((k + 54)) 35 [] = some (V.bool b1))
    (c8 : b1 = true)
    (c9 : decide (i0 = 4) = true) :
    cP ((k + 55)) 9 [V.str s0, V.str s1, V.str s2, V.str s3] = some (V.bool (decide (s6 = []))) :=
  byF (k := k) (d := 55) [Hn.call 12 (V.str s4), Hn.call 14 (V.str s5), Hn.br 18 true, Hn.br 22 false, Hn.call 32 (V.tup [V.str s6, vi i0]), Hn.call 37 (V.bool b0), Hn.br 39 true, Hn.call 49 (V.bool b1), Hn.br 50 true, Hn.br 54 true] (aI c0 (aI c1 (aI c2 (aI c3 (aI c4 (aI c5 (aI c6 (aI c7 (aI c8 (aI c9 trivial)))))))))) (by kernel_rfl)
theorem P9_13 (i0 : Int) (b0 b1 : Bool) (s0 s1 s2 s3 s4 s5 s6 : List UInt8) (k : Nat)
    (c0 : cP ((k + 54)) 32 [V.str s0] = some (V.str s4))
    (c1 : cP ((k + 54)) 32 [V.str s1] = some (V.str s5))
    (c2 : decide ((↑s2.length : Int) ≤ 4096) = true)
    (c3 : decide ((↑s3.length : Int) ≤ 4096) = false)
    (c4 : cP ((k + 54)) 33 [V.str s4, V.str s5, V.str s2, V.str s3] = some (V.tup [V.str s6, vi i0]))
    (c5 : cP ((k + 54)) 34 [V.str s4, V.str s5] = some (V.bool b0))
    (c6 : (!b0) = true)
    (c7 : cP ((k + 54)) 35 [] = some (V.bool b1))
    (c8 : b1 = true)
    (c9 : decide (i0 = 4) = false) :
    cP ((k + 55)) 9 [V.str s0, V.str s1, V.str s2, V.str s3] = some (V.bool false) :=
  byF (k := k) (d := 55) [Hn.call 12 (V.str s4), Hn.call 14 (V.str s5), Hn.br 18 true, Hn.br 22 false, Hn.call 32 (V.tup [V.str s6, vi i0]), Hn.call 37 (V.bool b0), Hn.br 39 true, Hn.call 49 (V.bool b1), Hn.br 50 true, Hn.br 54 false] (aI c0 (aI c1 (aI c2 (aI c3 (aI c4 (aI c5 (aI c6 (aI c7 (aI c8 (aI c9 trivial)))))))))) (by kernel_rfl)
theorem P9_14 (i0 : Int) (b0 b1 : Bool) (s0 s1 s2 s3 s4 s5 s6 : List UInt8) (k : Nat)
    (c0 : cP ((k + 54)) 32 [V.str s0] = some (V.str s4))
    (c1 : cP ((k + 54)) 32 [V.str s1] = some (V.str s5))
    (c2 : decide ((↑s2.length : Int) ≤ 4096) = true)
    (c3 : decide ((↑s3.length : Int) ≤ 4096) = false)
    (c4 : cP ((k + 54)) 33 [V.str s4, V.str s5, V.str s2, V.str s3] = some (V.tup [V.str s6, vi i0]))
    (c5 : cP ((k + 54)) 34 [V.str s4, V.str s5] = some (V.bool b0))
    (c6 : (!b0) = true)
    (c7 : cP ((k + 54)) 35 [] = some (V.bool b1))
    (c8 : b1 = false) :
    cP ((k + 55)) 9 [V.str s0, V.str s1, V.str s2, V.str s3] = some (V.bool false) :=
  byF (k := k) (d := 55) [Hn.call 12 (V.str s4), Hn.call 14 (V.str s5), Hn.br 18 true, Hn.br 22 false, Hn.call 32 (V.tup [V.str s6, vi i0]), Hn.call 37 (V.bool b0), Hn.br 39 true, Hn.call 49 (V.bool b1), Hn.br 50 false] (aI c0 (aI c1 (aI c2 (aI c3 (aI c4 (aI c5 (aI c6 (aI c7 (aI c8 trivial))))))))) (by kernel_rfl)
theorem P9_15 (i0 : Int) (b0 b1 : Bool) (s0 s1 s2 s3 s4 s5 s6 : List UInt8) (k : Nat)
    (c0 : cP ((k + 54)) 32 [V.str s0] = some (V.str s4))
    (c1 : cP ((k + 54)) 32 [V.str s1] = some (V.str s5))
    (c2 : decide ((↑s2.length : Int) ≤ 4096) = true)
    (c3 : decide ((↑s3.length : Int) ≤ 4096) = false)
    (c4 : cP ((k + 54)) 33 [V.str s4, V.str s5, V.str s2, V.str s3] = some (V.tup [V.str s6, vi i0]))
    (c5 : cP ((k + 54)) 34 [V.str s4, V.str s5] = some (V.bool b0))
    (c6 : (!b0) = false)
    (c7 : decide (4096 < (↑s2.length : Int)) = true)
    (c8 : cP ((k + 54)) 35 [] = some (V.bool b1))
    (c9 : b1 = true)
    (c10 : decide (i0 = 4) = true) :
    cP ((k + 55)) 9 [V.str s0, V.str s1, V.str s2, V.str s3] = some (V.bool (decide (s6 = []))) :=
  byF (k := k) (d := 55) [Hn.call 12 (V.str s4), Hn.call 14 (V.str s5), Hn.br 18 true, Hn.br 22 false, Hn.call 32 (V.tup [V.str s6, vi i0]), Hn.call 37 (V.bool b0), Hn.br 39 false, Hn.br 44 true, Hn.call 49 (V.bool b1), Hn.br 50 true, Hn.br 54 true] (aI c0 (aI c1 (aI c2 (aI c3 (aI c4 (aI c5 (aI c6 (aI c7 (aI c8 (aI c9 (aI c10 trivial))))))))))) (by kernel_rfl)
theorem P9_16 (i0 : Int) (b0 b1 : Bool) (s0 s1 s2 s3 s4 s5 s6 : List UInt8) (k : Nat)
    (c0 : cP ((k + 54)) 32 [V.str s0] = some (V.str s4))
    (c1 : cP ((k + 54)) 32 [V.str s1] = some (V.str s5))
    (c2 : decide ((↑s2.length : Int) ≤ 4096) = true)
    (c3 : decide ((↑s3.length : Int) ≤ 4096) = false)
    (c4 : cP ((k + 54)) 33 [V.str s4, V.str s5, V.str s2, V.str s3] = some (V.tup [V.str s6, vi i0]))
    (c5 : cP ((k + 54)) 34 [V.str s4, V.str s5] = some (V.bool b0))
    (c6 : (!b0) = false)
    (c7 : decide (4096 < (↑s2.length : Int)) = true)
    (c8 : cP ((k + 54)) 35 [] = some (V.bool b1))
    (c9 : b1 = true)
    (c10 : decide (i0 = 4) = false) :
    cP ((k + 55)) 9 [V.str s0, V.str s1, V.str s2, V.str s3] = some (V.bool false) :=
  byF (k := k) (d := 55) [Hn.call 12 (V.str s4), Hn.call 14 (V.str s5), Hn.br 18 true, Hn.br 22 false, Hn.call 32 (V.tup [V.str s6, vi i0]), Hn.call 37 (V.bool b0), Hn.br 39 false, Hn.br 44 true, Hn.call 49 (V.bool b1), Hn.br 50 true, Hn.br 54 false] (aI c0 (aI c1 (aI c2 (aI c3 (aI c4 (aI c5 (aI c6 (aI c7 (aI c8 (aI c9 (aI c10 trivial))))))))))) (by kernel_rfl)
theorem P9_17 (i0 : Int) (b0 b1 : Bool) (s0 s1 s2 s3 s4 s5 s6 : List UInt8) (k : Nat)
    (c0 : cP ((k + 54)) 32 [V.str s0] = some (V.str s4))
    (c1 : cP ((k + 54)) 32 [V.str s1] = some (V.str s5))
    (c2 : decide ((↑s2.length : Int) ≤ 4096) = true)
    (c3 : decide ((↑s3.length : Int) ≤ 4096) = false)
    (c4 : cP ((k + 54)) 33 [V.str s4, V.str s5, V.str s2, V.str s3] = some (V.tup [V.str s6, vi i0]))
    (c5 : cP ((k + 54)) 34 [V.str s4, V.str s5] = some (V.bool b0))
    (c6 : (!b0) = false)
    (c7 : decide (4096 < (↑s2.length : Int)) = true)
    (c8 : cP ((k + 54)) 35 [] = some (V.bool b1))
    (c9 : b1 = false) :
    cP ((k + 55)) 9 [V.str s0, V.str s1, V.str s2, V.str s3] = some (V.bool false) :=
  byF (k := k) (d := 55) [Hn.call 12 (V.str s4), Hn.call 14 (V.str s5), Hn.br 18 true, Hn.br 22 false, Hn.call 32 (V.tup [V.str s6, vi i0]), Hn.call 37 (V.bool b0), Hn.br 39 false, Hn.br 44 true, Hn.call 49 (V.bool b1), Hn.br 50 false] (aI c0 (aI c1 (aI c2 (aI c3 (aI c4 (aI c5 (aI c6 (aI c7 (aI c8 (aI c9 trivial)))))))))) (by kernel_rfl)
theorem P9_18 (i0 : Int) (b0 b1 : Bool) (s0 s1 s2 s3 s4 s5 s6 : List UInt8) (k : Nat)
    (c0 : cP ((k + 54)) 32 [V.str s0] = some (V.str s4))
    (c1 : cP ((k + 54)) 32 [V.str s1] = some (V.str s5))
    (c2 : decide ((↑s2.length : Int) ≤ 4096) = true)
    (c3 : decide ((↑s3.length : Int) ≤ 4096) = false)
    (c4 : cP ((k + 54)) 33 [V.str s4, V.str s5, V.str s2, V.str s3] = some (V.tup [V.str s6, vi i0]))
    (c5 : cP ((k + 54)) 34 [V.str s4, V.str s5] = some (V.bool b0))
    (c6 : (!b0) = false)
    (c7 : decide (4096 < (↑s2.length : Int)) = false)
    (c8 : decide (4096 < (↑s3.length : Int)) = true)
    (c9 : cP ((k + 54)) 35 [] = some (V.bool b1))
    (c10 : b1 = true)
    (c11 : decide (i0 = 4) = true) :
    cP ((k + 55)) 9 [V.str s0, V.str s1, V.str s2, V.str s3] = some (V.bool (decide (s6 = []))) :=
  byF (k := k) (d := 55) [Hn.call 12 (V.str s4), Hn.call 14 (V.str s5), Hn.br 18 true, Hn.br 22 false, Hn.call 32 (V.tup [V.str s6, vi i0]), Hn.call 37 (V.bool b0), Hn.br 39 false, Hn.br 44 false, Hn.br 48 true, Hn.call 49 (V.bool b1), Hn.br 50 true, Hn.br 54 true] (aI c0 (aI c1 (aI c2 (aI c3 (aI c4 (aI c5 (aI c6 (aI c7 (aI c8 (aI c9 (aI c10 (aI c11 trivial)))))))))))) (by kernel_rfl)
theorem P9_19 (i0 : Int) (b0 b1 : Bool) (s0 s1 s2 s3 s4 s5 s6 : List UInt8) (k : Nat)
    (c0 : cP ((k + 54)) 32 [V.str s0] = some (V.str s4))
    (c1 : cP ((k + 54)) 32 [V.str s1] = some (V.str s5))
    (c2 : decide ((↑s2.length : Int) ≤ 4096) = true)
    (c3 : decide ((↑s3.length : Int) ≤ 4096) = false)
    (c4 : cP ((k + 54)) 33 [V.str s4, V.str s5, V.str s2, V.str s3] = some (V.tup [V.str s6, vi i0]))
    (c5 : cP ((k + 54)) 34 [V.str s4, V.str s5] = some (V.bool b0))
    (c6 : (!b0) = false)
    (c7 : decide (4096 < (↑s2.length : Int)) = false)
    (c8 : decide (4096 < (↑s3.length : Int)) = true)
    (c9 : cP ((k + 54)) 35 [] = some (V.bool b1))
    (c10 : b1 = true)
    (c11 : decide (i0 = 4) = false) :
    cP ((k + 55)) 9 [V.str s0, V.str s1, V.str s2, V.str s3] = some (V.bool false) :=
  byF (k := k) (d := 55) [Hn.call 12 (V.str s4), Hn.call 14 (V.str s5), Hn.br 18 true, Hn.br 22 false, Hn.call 32 (V.tup [V.str s6, vi i0]), Hn.call 37 (V.bool b0), Hn.br 39 false, Hn.br 44 false, Hn.br 48 true, Hn.call 49 (V.bool b1), Hn.br 50 true, Hn.br 54 false] (aI c0 (aI c1 (aI c2 (aI c3 (aI c4 (aI c5 (aI c6 (aI c7 (aI c8 (aI c9 (aI c10 (aI c11 trivial)))))))))))) (by kernel_rfl)
theorem P9_20 (i0 : Int) (b0 b1 : Bool) (s0 s1 s2 s3 s4 s5 s6 : List UInt8) (k : Nat)
    (c0 : cP ((k + 54)) 32 [V.str s0] = some (V.str s4))
    (c1 : cP ((k + 54)) 32 [V.str s1] = some (V.str s5))
    (c2 : decide ((↑s2.length : Int) ≤ 4096) = true)
    (c3 : decide ((↑s3.length : Int) ≤ 4096) = false)
    (c4 : cP ((k + 54)) 33 [V.str s4, V.str s5, V.str s2, V.str s3] = some (V.tup [V.str s6, vi i0]))
    (c5 : cP ((k + 54)) 34 [V.str s4, V.str s5] = some (V.bool b0))
    (c6 : (!b0) = false)
    (c7 : decide (4096 < (↑s2.length : Int)) = false)
    (c8 : decide (4096 < (↑s3.length : Int)) = true)
    (c9 : cP ((k + 54)) 35 [] = some (V.bool b1))
    (c10 : b1 = false) :
    cP ((k + 55)) 9 [V.str s0, V.str s1, V.str s2, V.str s3] = some (V.bool false) :=
  byF (k := k) (d := 55) [Hn.call 12 (V.str s4), Hn.call 14 (V.str s5), Hn.br 18 true, Hn.br 22 false, Hn.call 32 (V.tup [V.str s6, vi i0]), Hn.call 37 (V.bool b0), Hn.br 39 false, Hn.br 44 false, Hn.br 48 true, Hn.call 49 (V.bool b1), Hn.br 50 false] (aI c0 (aI c1 (aI c2 (aI c3 (aI c4 (aI c5 (aI c6 (aI c7 (aI c8 (aI c9 (aI c10 trivial))))))))))) (by kernel_rfl)
theorem P9_21 (i0 : Int) (b0 b1 : Bool) (s0 s1 s2 s3 s4 s5 s6 s7 : List UInt8) (k : Nat)
    (c0 : cP ((k + 54)) 32 [V.str s0] = some (V.str s4))
    (c1 : cP ((k + 54)) 32 [V.str s1] = some (V.str s5))
    (c2 : decide ((↑s2.length : Int) ≤ 4096) = true)
    (c3 : decide ((↑s3.length : Int) ≤ 4096) = false)
    (c4 : cP ((k + 54)) 33 [V.str s4, V.str s5, V.str s2, V.str s3] = some (V.tup [V.str s6, vi i0]))
    (c5 : cP ((k + 54)) 34 [V.str s4, V.str s5] = some (V.bool b0))
    (c6 : (!b0) = false)
    (c7 : decide (4096 < (↑s2.length : Int)) = false)
    (c8 : decide (4096 < (↑s3.length : Int)) = false)
    (c9 : cP ((k + 54)) 35 [] = some (V.bool b1))
    (c10 : b1 = true)
    (c11 : decide (i0 = 0) = true)
    (c12 : cP ((k + 54)) 36 [V.str s4, V.str s5, V.str s2, V.str s3] = some (V.str s7)) :
    cP ((k + 55)) 9 [V.str s0, V.str s1, V.str s2, V.str s3] = some (V.bool (decide (s6 = s7))) :=
  byF (k := k) (d := 55) [Hn.call 12 (V.str s4), Hn.call 14 (V.str s5), Hn.br 18 true, Hn.br 22 false, Hn.call 32 (V.tup [V.str s6, vi i0]), Hn.call 37 (V.bool b0), Hn.br 39 false, Hn.br 44 false, Hn.br 48 false, Hn.call 58 (V.bool b1), Hn.br 59 true, Hn.br 63 true, Hn.call 69 (V.str s7)] (aI c0 (aI c1 (aI c2 (aI c3 (aI c4 (aI c5 (aI c6 (aI c7 (aI c8 (aI c9 (aI c10 (aI c11 (aI c12 trivial))))))))))))) (by kernel_rfl)
theorem P9_22 (i0 : Int) (b0 b1 : Bool) (s0 s1 s2 s3 s4 s5 s6 : List UInt8) (k : Nat)
    (c0 : cP ((k + 54)) 32 [V.str s0] = some (V.str s4))
    (c1 : cP ((k + 54)) 32 [V.str s1] = some (V.str s5))
    (c2 : decide ((↑s2.length : Int) ≤ 4096) = true)
    (c3 : decide ((↑s3.length : Int) ≤ 4096) = false)
    (c4 : cP ((k + 54)) 33 [V.str s4, V.str s5, V.str s2, V.str s3] = some (V.tup [V.str s6, vi i0]))
    (c5 : cP ((k + 54)) 34 [V.str s4, V.str s5] = some (V.bool b0))
    (c6 : (!b0) = false)
    (c7 : decide (4096 < (↑s2.length : Int)) = false)
    (c8 : decide (4096 < (↑s3.length : Int)) = false)
    (c9 : cP ((k + 54)) 35 [] = some (V.bool b1))
    (c10 : b1 = true)
    (c11 : decide (i0 = 0) = false) :
    cP ((k + 55)) 9 [V.str s0, V.str s1, V.str s2, V.str s3] = some (V.bool false) :=
  byF (k := k) (d := 55) [Hn.call 12 (V.str s4), Hn.call 14 (V.str s5), Hn.br 18 true, Hn.br 22 false, Hn.call 32 (V.tup [V.str s6, vi i0]), Hn.call 37 (V.bool b0), Hn.br 39 false, Hn.br 44 false, Hn.br 48 false, Hn.call 58 (V.bool b1), Hn.br 59 true, Hn.br 63 false] (aI c0 (aI c1 (aI c2 (aI c3 (aI c4 (aI c5 (aI c6 (aI c7 (aI c8 (aI c9 (aI c10 (aI c11 trivial)))))))))))) (by kernel_rfl)
theorem P9_23 (i0 : Int) (b0 b1 : Bool) (s0 s1 s2 s3 s4 s5 s6 : List UInt8) (k : Nat)
    (c0 : cP ((k + 54)) 32 [V.str s0] = some (V.str s4))
    (c1 : cP ((k + 54)) 32 [V.str s1] = some (V.str s5))
    (c2 : decide ((↑s2.length : Int) ≤ 4096) = true)
    (c3 : decide ((↑s3.length : Int) ≤ 4096) = false)
    (c4 : cP ((k + 54)) 33 [V.str s4, V.str s5, V.str s2, V.str s3] = some (V.tup [V.str s6, vi i0]))
    (c5 : cP ((k + 54)) 34 [V.str s4, V.str s5] = some (V.bool b0))
    (c6 : (!b0) = false)
    (c7 : decide (4096 < (↑s2.length : Int)) = false)
    (c8 : decide (4096 < (↑s3.length : Int)) = false)
    (c9 : cP ((k + 54)) 35 [] = some (V.bool b1))
    (c10 : b1 = false) :
    cP ((k + 55)) 9 [V.str s0, V.str s1, V.str s2, V.str s3] = some (V.bool false) :=
  byF (k := k) (d := 55) [Hn.call 12 (V.str s4), Hn.call 14 (V.str s5), Hn.br 18 true, Hn.br 22 false, Hn.call 32 (V.tup [V.str s6, vi i0]), Hn.call 37 (V.bool b0), Hn.br 39 false, Hn.br 44 false, Hn.br 48 false, Hn.call 58 (V.bool b1), Hn.br 59 false] (aI c0 (aI c1 (aI c2 (aI c3 (aI c4 (aI c5 (aI c6 (aI c7 (aI c8 (aI c9 (aI c10 trivial))))))))))) (by kernel_rfl)
theorem P9_24 (i0 : Int) (b0 b1 : Bool) (s0 s1 s2 s3 s4 s5 s6 : List UInt8) (k : Nat)
    (c0 : cP ((k + 54)) 32 [V.str s0] = some (V.str s4))
    (c1 : cP ((k + 54)) 32 [V.str s1] = some (V.str s5))
    (c2 : decide ((↑s2.length : Int) ≤ 4096) = false)
    (c3 : cP ((k + 54)) 33 [V.str s4, V.str s5, V.str s2, V.str s3] = some (V.tup [V.str s6, vi i0]))
    (c4 : cP ((k + 54)) 34 [V.str s4, V.str s5] = some (V.bool b0))
    (c5 : (!b0) = true)
    (c6 : cP ((k + 54)) 35 [] = some (V.bool b1))
    (c7 : b1 = true)
    (c8 : decide (i0 = 4) = true) :
    cP ((k + 55)) 9 [V.str s0, V.str s1, V.str s2, V.str s3] = some (V.bool (decide (s6 = []))) :=
  byF (k := k) (d := 55) [Hn.call 12 (V.str s4), Hn.call 14 (V.str s5), Hn.br 18 false, Hn.call 32 (V.tup [V.str s6, vi i0]), Hn.call 37 (V.bool b0), Hn.br 39 true, Hn.call 49 (V.bool b1), Hn.br 50 true, Hn.br 54 true] (aI c0 (aI c1 (aI c2 (aI c3 (aI c4 (aI c5 (aI c6 (aI c7 (aI c8 trivial))))))))) (by kernel_rfl)
theorem P9_25 (i0 : Int) (b0 b1 : Bool) (s0 s1 s2 s3 s4 s5 s6 : List UInt8) (k : Nat)
    (c0 : cP ((k + 54)) 32 [V.str s0] = some (V.str s4))
    (c1 : cP ((k + 54)) 32 [V.str s1] = some (V.str s5))
    (c2 : decide ((↑s2.length : Int) ≤ 4096) = false)
    (c3 : cP ((k + 54)) 33 [V.str s4, V.str s5, V.str s2, V.str s3] = some (V.tup [V.str s6, vi i0]))
    (c4 : cP ((k + 54)) 34 [V.str s4, V.str s5] = some (V.bool b0))
    (c5 : (!b0) = true)
    (c6 : cP ((k + 54)) 35 [] = some (V.bool b1))
    (c7 : b1 = true)
    (c8 : decide (i0 = 4) = false) :
    cP ((k + 55)) 9 [V.str s0, V.str s1, V.str s2, V.str s3] = some (V.bool false) :=
  byF (k := k) (d := 55) [Hn.call 12 (V.str s4), Hn.call 14 (V.str s5), Hn.br 18 false, Hn.call 32 (V.tup [V.str s6, vi i0]), Hn.call 37 (V.bool b0), Hn.br 39 true, Hn.call 49 (V.bool b1), Hn.br 50 true, Hn.br 54 false] (aI c0 (aI c1 (aI c2 (aI c3 (aI c4 (aI c5 (aI c6 (aI c7 (aI c8 trivial))))))))) (by kernel_rfl)
theorem P9_26 (i0 : Int) (b0 b1 : Bool) (s0 s1 s2 s3 s4 s5 s6 : List UInt8) (k : Nat)
    (c0 : cP ((k + 54)) 32 [V.str s0] = some (V.str s4))
    (c1 : cP ((k + 54)) 32 [V.str s1] = some (V.str s5))
    (c2 : decide ((↑s2.length : Int) ≤ 4096) = false)
    (c3 : cP ((k + 54)) 33 [V.str s4, V.str s5, V.str s2, V.str s3] = some (V.tup [V.str s6, vi i0]))
    (c4 : cP ((k + 54)) 34 [V.str s4, V.str s5] = some (V.bool b0))
    (c5 : (!b0) = true)
    (c6 : cP ((k + 54)) 35 [] = some (V.bool b1))
    (c7 : b1 = false) :
    cP ((k + 55)) 9 [V.str s0, V.str s1, V.str s2, V.str s3] = some (V.bool false) :=
  byF (k := k) (d := 55) [Hn.call 12 (V.str s4), Hn.call 14 (V.str s5), Hn.br 18 false, Hn.call 32 (V.tup [V.str s6, vi i0]), Hn.call 37 (V.bool b0), Hn.br 39 true, Hn.call 49 (V.bool b1), Hn.br 50 false] (aI c0 (aI c1 (aI c2 (aI c3 (aI c4 (aI c5 (aI c6 (aI c7 trivial)))))))) (by kernel_rfl)
theorem P9_27 (i0 : Int) (b0 b1 : Bool) (s0 s1 s2 s3 s4 s5 s6 : List UInt8) (k : Nat)
    (c0 : cP ((k + 54)) 32 [V.str s0] = some (V.str s4))
    (c1 : cP ((k + 54)) 32 [V.str s1] = some (V.str s5))
    (c2 : decide ((↑s2.length : Int) ≤ 4096) = false)
    (c3 : cP ((k + 54)) 33 [V.str s4, V.str s5, V.str s2, V.str s3] = some (V.tup [V.str s6, vi i0]))
    (c4 : cP ((k + 54)) 34 [V.str s4, V.str s5] = some (V.bool b0))
    (c5 : (!b0) = false)
    (c6 : decide (4096 < (↑s2.length : Int)) = true)
    (c7 : cP ((k + 54)) 35 [] = some (V.bool b1))
    (c8 : b1 = true)
    (c9 : decide (i0 = 4) = true) :
    cP ((k + 55)) 9 [V.str s0, V.str s1, V.str s2, V.str s3] = some (V.bool (decide (s6 = []))) :=
  byF (k := k) (d := 55) [Hn.call 12 (V.str s4), Hn.call 14 (V.str s5), Hn.br 18 false, Hn.call 32 (V.tup [V.str s6, vi i0]), Hn.call 37 (V.bool b0), Hn.br 39 false, Hn.br 44 true, Hn.call 49 (V.bool b1), Hn.br 50 true, Hn.br 54 true] (aI c0 (aI c1 (aI c2 (aI c3 (aI c4 (aI c5 (aI c6 (aI c7 (aI c8 (aI c9 trivial)))))))))) (by kernel_rfl)
theorem P9_28 (i0 : Int) (b0 b1 : Bool) (s0 s1 s2 s3 s4 s5 s6 : List UInt8) (k : Nat)
    (c0 : cP ((k + 54)) 32 [V.str s0] = some (V.str s4))
    (c1 : cP ((k + 54)) 32 [V.str s1] = some (V.str s5))
    (c2 : decide ((↑s2.length : Int) ≤ 4096) = false)
    (c3 : cP ((k + 54)) 33 [V.str s4, V.str s5, V.str s2, V.str s3] = some (V.tup [V.str s6, vi i0]))
    (c4 : cP ((k + 54)) 34 [V.str s4, V.str s5] = some (V.bool b0))
    (c5 : (!b0) = false)
    (c6 : decide (4096 < (↑s2.length : Int)) = true)
    (c7 : cP ((k + 54)) 35 [] = some (V.bool b1))
    (c8 : b1 = true)
    (c9 : decide (i0 = 4) = false) :
    cP ((k + 55)) 9 [V.str s0, V.str s1, V.str s2, V.str s3] = some (V.bool false) :=
  byF (k := k) (d := 55) [Hn.call 12 (V.str s4), Hn.call 14 (V.str s5), Hn.br 18 false, Hn.call 32 (V.tup [V.str s6, vi i0]), Hn.call 37 (V.bool b0), Hn.br 39 false, Hn.br 44 true, Hn.call 49 (V.bool b1), Hn.br 50 true, Hn.br 54 false] (aI c0 (aI c1 (aI c2 (aI c3 (aI c4 (aI c5 (aI c6 (aI c7 (aI c8 (aI c9 trivial)))))))))) (by kernel_rfl)
theorem P9_29 (i0 : Int) (b0 b1 : Bool) (s0 s1 s2 s3 s4 s5 s6 : List UInt8) (k : Nat)
    (c0 : cP ((k + 54)) 32 [V.str s0] = some (V.str s4))
    (c1 : cP ((k + 54)) 32 [V.str s1] = some (V.str s5))
    (c2 : decide ((↑s2.length : Int) ≤ 4096) = false)
    (c3 : cP ((k + 54)) 33 [V.str s4, V.str s5, V.str s2, V.str s3] = some (V.tup [V.str s6, vi i0]))
    (c4 : cP ((k + 54)) 34 [V.str s4, V.str s5] = some (V.bool b0))
    (c5 : (!b0) = false)
    (c6 : decide (4096 < (↑s2.length : Int)) = true)
    (c7 : cP ((k + 54)) 35 [] = some (V.bool b1))
    (c8 : b1 = false) :
    cP ((k + 55)) 9 [V.str s0, V.str s1, V.str s2, V.str s3] = some (V.bool false) :=
  byF (k := k) (d := 55) [Hn.call 12 (V.str s4), Hn.call 14 (V.str s5), Hn.br 18 false, Hn.call 32 (V.tup [V.str s6, vi i0]), Hn.call 37 (V.bool b0), Hn.br 39 false, Hn.br 44 true, Hn.call 49 (V.bool b1), Hn.br 50 false] (aI c0 (aI c1 (aI c2 (aI c3 (aI c4 (aI c5 (aI c6 (aI c7 (aI c8 trivial))))))))) (by kernel_rfl)
theorem P9_30 (i0 : Int) (b0 b1 : Bool) (s0 s1 s2 s3 s4 s5 s6 : List UInt8) (k : Nat)
    (c0 : cP ((k + 54)) 32 [V.str s0] = some (V.str s4))
    (c1 : cP ((k + 54)) 32 [V.str s1] = some (V.str s5))
    (c2 : decide ((↑s2.length : Int) ≤ 4096) = false)
    (c3 : cP ((k + 54)) 33 [V.str s4, V.str s5, V.str s2, V.str s3] = some (V.tup [V.str s6, vi i0]))
    (c4 : cP ((k + 54)) 34 [V.str s4, V.str s5] = some (V.bool b0))
    (c5 : (!b0) = false)
    (c6 : decide (4096 < (↑s2.length : Int)) = false)
    (c7 : decide (4096 < (↑s3.length : Int)) = true)
    (c8 : cP ((k + 54)) 35 [] = some (V.bool b1))
    (c9 : b1 = true)
    (c10 : decide (i0 = 4) = true) :
    cP ((k + 55)) 9 [V.str s0, V.str s1, V.str s2, V.str s3] = some (V.bool (decide (s6 = []))) :=
  byF (k := k) (d := 55) [Hn.call 12 (V.str s4), Hn.call 14 (V.str s5), Hn.br 18 false, Hn.call 32 (V.tup [V.str s6, vi i0]), Hn.call 37 (V.bool b0), Hn.br 39 false, Hn.br 44 false, Hn.br 48 true, Hn.call 49 (V.bool b1), Hn.br 50 true, Hn.br 54 true] (aI c0 (aI c1 (aI c2 (aI c3 (aI c4 (aI c5 (aI c6 (aI c7 (aI c8 (aI c9 (aI c10 trivial))))))))))) (by kernel_rfl)
theorem P9_31 (i0 : Int) (b0 b1 : Bool) (s0 s1 s2 s3 s4 s5 s6 : List UInt8) (k : Nat)
    (c0 : cP ((k + 54)) 32 [V.str s0] = some (V.str s4))
    (c1 : cP ((k + 54)) 32 [V.str s1] = some (V.str s5))
    (c2 : decide ((↑s2.length : Int) ≤ 4096) = false)
    (c3 : cP ((k + 54)) 33 [V.str s4, V.str s5, V.str s2, V.str s3] = some (V.tup [V.str s6, vi i0]))
    (c4 : cP ((k + 54)) 34 [V.str s4, V.str s5] = some (V.bool b0))
    (c5 : (!b0) = false)
    (c6 : decide (4096 < (↑s2.length : Int)) = false)
    (c7 : decide (4096 < (↑s3.length : Int)) = true)
    (c8 : cP ((k + 54)) 35 [] = some (V.bool b1))
    (c9 : b1 = true)
    (c10 : decide (i0 = 4) = false) :
    cP ((k + 55)) 9 [V.str s0, V.str s1, V.str s2, V.str s3] = some (V.bool false) :=
  byF (k := k) (d := 55) [Hn.call 12 (V.str s4), Hn.call 14 (V.str s5), Hn.br 18 false, Hn.call 32 (V.tup [V.str s6, vi i0]), Hn.call 37 (V.bool b0), Hn.br 39 false, Hn.br 44 false, Hn.br 48 true, Hn.call 49 (V.bool b1), Hn.br 50 true, Hn.br 54 false] (aI c0 (aI c1 (aI c2 (aI c3 (aI c4 (aI c5 (aI c6 (aI c7 (aI c8 (aI c9 (aI c10 trivial))))))))))) (by kernel_rfl)
theorem P9_32 (i0 : Int) (b0 b1 : Bool) (s0 s1 s2 s3 s4 s5 s6 : List UInt8) (k : Nat)
    (c0 : cP ((k + 54)) 32 [V.str s0] = some (V.str s4))
    (c1 : cP ((k + 54)) 32 [V.str s1] = some (V.str s5))
    (c2 : decide ((↑s2.length : Int) ≤ 4096) = false)
    (c3 : cP ((k + 54)) 33 [V.str s4, V.str s5, V.str s2, V.str s3] = some (V.tup [V.str s6, vi i0]))
    (c4 : cP ((k + 54)) 34 [V.str s4, V.str s5] = some (V.bool b0))
    (c5 : (!b0) = false)
    (c6 : decide (4096 < (↑s2.length : Int)) = false)
    (c7 : decide (4096 < (↑s3.length : Int)) = true)
    (c8 : cP ((k + 54)) 35 [] = some (V.bool b1))
    (c9 : b1 = false) :
    cP ((k + 55)) 9 [V.str s0, V.str s1, V.str s2, V.str s3] = some (V.bool false) :=
  byF (k := k) (d := 55) [Hn.call 12 (V.str s4), Hn.call 14 (V.str s5), Hn.br 18 false, Hn.call 32 (V.tup [V.str s6, vi i0]), Hn.call 37 (V.bool b0), Hn.br 39 false, Hn.br 44 false, Hn.br 48 true, Hn.call 49 (V.bool b1), Hn.br 50 false] (aI c0 (aI c1 (aI c2 (aI c3 (aI c4 (aI c5 (aI c6 (aI c7 (aI c8 (aI c9 trivial)))))))))) (by kernel_rfl)
theorem P9_33 (i0 : Int) (b0 b1 : Bool) (s0 s1 s2 s3 s4 s5 s6 s7 : List UInt8) (k : Nat)
    (c0 : cP ((k + 54)) 32 [V.str s0] = some (V.str s4))
    (c1 : cP ((k + 54)) 32 [V.str s1] = some (V.str s5))
    (c2 : decide ((↑s2.length : Int) ≤ 4096) = false)
    (c3 : cP ((k + 54)) 33 [V.str s4, V.str s5, V.str s2, V.str s3] = some (V.tup [V.str s6, vi i0]))
    (c4 : cP ((k + 54)) 34 [V.str s4, V.str s5] = some (V.bool b0))
    (c5 : (!b0) = false)
    (c6 : decide (4096 < (↑s2.length : Int)) = false)
    (c7 : decide (4096 < (↑s3.length : Int)) = false)
    (c8 : cP ((k + 54)) 35 [] = some (V.bool b1))
    (c9 : b1 = true)
    (c10 : decide (i0 = 0) = true)
    (c11 : cP ((k + 54)) 36 [V.str s4, V.str s5, V.str s2, V.str s3] = some (V.str s7)) :
    cP ((k + 55)) 9 [V.str s0, V.str s1, V.str s2, V.str s3] = some (V.bool (decide (s6 = s7))) :=
  byF (k := k) (d := 55) [Hn.call 12 (V.str s4), Hn.call 14 (V.str s5), Hn.br 18 false, Hn.call 32 (V.tup [V.str s6, vi i0]), Hn.call 37 (V.bool b0), Hn.br 39 false, Hn.br 44 false, Hn.br 48 false, Hn.call 58 (V.bool b1), Hn.br 59 true, Hn.br 63 true, Hn.call 69 (V.str s7)] (aI c0 (aI c1 (aI c2 (aI c3 (aI c4 (aI c5 (aI c6 (aI c7 (aI c8 (aI c9 (aI c10 (aI c11 trivial)))))))))))) (by kernel_rfl)
theorem P9_34 (i0 : Int) (b0 b1 : Bool) (s0 s1 s2 s3 s4 s5 s6 : List UInt8) (k : Nat)
    (c0 : cP ((k + 54)) 32 [V.str s0] = some (V.str s4))
    (c1 : cP ((k + 54)) 32 [V.str s1] = some (V.str s5))
    (c2 : decide ((↑s2.length : Int) ≤ 4096) = false)
    (c3 : cP ((k + 54)) 33 [V.str s4, V.str s5, V.str s2, V.str s3] = some (V.tup [V.str s6, vi i0]))
    (c4 : cP ((k + 54)) 34 [V.str s4, V.str s5] = some (V.bool b0))
    (c5 : (!b0) = false)
    (c6 : decide (4096 < (↑s2.length : Int)) = false)
    (c7 : decide (4096 < (↑s3.length : Int)) = false)
    (c8 : cP ((k + 54)) 35 [] = some (V.bool b1))
    (c9 : b1 = true)
    (c10 : decide (i0 = 0) = false) :
    cP ((k + 55)) 9 [V.str s0, V.str s1, V.str s2, V.str s3] = some (V.bool false) :=
  byF (k := k) (d := 55) [Hn.call 12 (V.str s4), Hn.call 14 (V.str s5), Hn.br 18 false, Hn.call 32 (V.tup [V.str s6, vi i0]), Hn.call 37 (V.bool b0), Hn.br 39 false, Hn.br 44 false, Hn.br 48 false, Hn.call 58 (V.bool b1), Hn.br 59 true, Hn.br 63 false] (aI c0 (aI c1 (aI c2 (aI c3 (aI c4 (aI c5 (aI c6 (aI c7 (aI c8 (aI c9 (aI c10 trivial))))))))))) (by kernel_rfl)
theorem P9_35 (i0 : Int) (b0 b1 : Bool) (s0 s1 s2 s3 s4 s5 s6 : List UInt8) (k : Nat)
    (c0 : cP ((k + 54)) 32 [V.str s0] = some (V.str s4))
    (c1 : cP ((k + 54)) 32 [V.str s1] = some (V.str s5))
    (c2 : decide ((↑s2.length : Int) ≤ 4096) = false)
    (c3 : cP ((k + 54)) 33 [V.str s4, V.str s5, V.str s2, V.str s3] = some (V.tup [V.str s6, vi i0]))
    (c4 : cP ((k + 54)) 34 [V.str s4, V.str s5] = some (V.bool b0))
    (c5 : (!b0) = false)
    (c6 : decide (4096 < (↑s2.length : Int)) = false)
    (c7 : decide (4096 < (↑s3.length : Int)) = false)
    (c8 : cP ((k + 54)) 35 [] = some (V.bool b1))
    (c9 : b1 = false) :
    cP ((k + 55)) 9 [V.str s0, V.str s1, V.str s2, V.str s3] = some (V.bool false) :=
  byF (k := k) (d := 55) [Hn.call 12 (V.str s4), Hn.call 14 (V.str s5), Hn.br 18 false, Hn.call 32 (V.tup [V.str s6, vi i0]), Hn.call 37 (V.bool b0), Hn.br 39 false, Hn.br 44 false, Hn.br 48 false, Hn.call 58 (V.bool b1), Hn.br 59 false] (aI c0 (aI c1 (aI c2 (aI c3 (aI c4 (aI c5 (aI c6 (aI c7 (aI c8 (aI c9 trivial)))))))))) (by kernel_rfl)
def F9 (k : Nat) (s0 s1 s2 s3 : List UInt8) : Option (Bool) :=
  ((F32 (k + 51) (s0)).bind fun s4 => ((F32 (k + 51) (s1)).bind fun s5 => (bif decide ((↑s2.length : Int) ≤ 4096) then (bif decide ((↑s3.length : Int) ≤ 4096) then ((F32 (k + 51) (s2)).bind fun s6 => ((F32 (k + 51) (s3)).bind fun s7 => ((F33 (k + 5) (s4) (s5) (s6) (s7)).bind fun (s8, i0) => ((F34 (k + 48) (s4) (s5)).bind fun b0 => (bif !b0 then ((F35 (k + 2)).bind fun b1 => (bif b1 then (bif decide (i0 = 4) then (some (decide (s8 = []))) else (some (false))) else (some (false)))) else (bif decide (4096 < (↑s6.length : Int)) then ((F35 (k + 2)).bind fun b1 => (bif b1 then (bif decide (i0 = 4) then (some (decide (s8 = []))) else (some (false))) else (some (false)))) else (bif decide (4096 < (↑s7.length : Int)) then ((F35 (k + 2)).bind fun b1 => (bif b1 then (bif decide (i0 = 4) then (some (decide (s8 = []))) else (some (false))) else (some (false)))) else ((F35 (k + 2)).bind fun b1 => (bif b1 then (bif decide (i0 = 0) then ((F36 (k + 21) (s4) (s5) (s6) (s7)).bind fun s9 => (some (decide (s8 = s9)))) else (some (false))) else (some (false))))))))))) else ((F33 (k + 5) (s4) (s5) (s2) (s3)).bind fun (s6, i0) => ((F34 (k + 48) (s4) (s5)).bind fun b0 => (bif !b0 then ((F35 (k + 2)).bind fun b1 => (bif b1 then (bif decide (i0 = 4) then (some (decide (s6 = []))) else (some (false))) else (some (false)))) else (bif decide (4096 < (↑s2.length : Int)) then ((F35 (k + 2)).bind fun b1 => (bif b1 then (bif decide (i0 = 4) then (some (decide (s6 = []))) else (some (false))) else (some (false)))) else (bif decide (4096 < (↑s3.length : Int)) then ((F35 (k + 2)).bind fun b1 => (bif b1 then (bif decide (i0 = 4) then (some (decide (s6 = []))) else (some (false))) else (some (false)))) else ((F35 (k + 2)).bind fun b1 => (bif b1 then (bif decide (i0 = 0) then ((F36 (k + 21) (s4) (s5) (s2) (s3)).bind fun s7 => (some (decide (s6 = s7)))) else (some (false))) else (some (false)))))))))) else ((F33 (k + 5) (s4) (s5) (s2) (s3)).bind fun (s6, i0) => ((F34 (k + 48) (s4) (s5)).bind fun b0 => (bif !b0 then ((F35 (k + 2)).bind fun b1 => (bif b1 then (bif decide (i0 = 4) then (some (decide (s6 = []))) else (some (false))) else (some (false)))) else (bif decide (4096 < (↑s2.length : Int)) then ((F35 (k + 2)).bind fun b1 => (bif b1 then (bif decide (i0 = 4) then (some (decide (s6 = []))) else (some (false))) else (some (false)))) else (bif decide (4096 < (↑s3.length : Int)) then ((F35 (k + 2)).bind fun b1 => (bif b1 then (bif decide (i0 = 4) then (some (decide (s6 = []))) else (some (false))) else (some (false)))) else ((F35 (k + 2)).bind fun b1 => (bif b1 then (bif decide (i0 = 0) then ((F36 (k + 21) (s4) (s5) (s2) (s3)).bind fun s7 => (some (decide (s6 = s7)))) else (some (false))) else (some (false))))))))))))
theorem F9_ok {s0 s1 s2 s3 : List UInt8} {k : Nat} {r : Bool} (h : F9 k s0 s1 s2 s3 = some r) :
    cP ((k + 55)) 9 [V.str s0, V.str s1, V.str s2, V.str s3] = some (V.bool r) := by
  unfold F9 at h
  obtain ⟨s4, e0, h⟩ := bE h
  obtain ⟨s5, e1, h⟩ := bE h
  rcases cond_elim h with ⟨e2, h⟩ | ⟨e2, h⟩
  ·
    rcases cond_elim h with ⟨e3, h⟩ | ⟨e3, h⟩
    ·
      obtain ⟨s6, e4, h⟩ := bE h
      obtain ⟨s7, e5, h⟩ := bE h
      obtain ⟨⟨s8, i0⟩, e6, h⟩ := bE h
      obtain ⟨b0, e7, h⟩ := bE h
      rcases cond_elim h with ⟨e8, h⟩ | ⟨e8, h⟩
      ·
        obtain ⟨b1, e9, h⟩ := bE h
        rcases cond_elim h with ⟨e10, h⟩ | ⟨e10, h⟩
        ·
          rcases cond_elim h with ⟨e11, h⟩ | ⟨e11, h⟩
          ·
            have h := Option.some.inj h; subst h; exact P9_0 i0 b0 b1 s0 s1 s2 s3 s4 s5 s6 s7 s8 k (F32_ok e0) (F32_ok e1) e2 e3 (F32_ok e4) (F32_ok e5) (F33_ok e6) (F34_ok e7) e8 (F35_ok e9) e10 e11
          ·
            have h := Option.some.inj h; subst h; exact P9_1 i0 b0 b1 s0 s1 s2 s3 s4 s5 s6 s7 s8 k (F32_ok e0) (F32_ok e1) e2 e3 (F32_ok e4) (F32_ok e5) (F33_ok e6) (F34_ok e7) e8 (F35_ok e9) e10 e11
        ·
          have h := Option.some.inj h; subst h; exact P9_2 i0 b0 b1 s0 s1 s2 s3 s4 s5 s6 s7 s8 k (F32_ok e0) (F32_ok e1) e2 e3 (F32_ok e4) (F32_ok e5) (F33_ok e6) (F34_ok e7) e8 (F35_ok e9) e10
      ·
        rcases cond_elim h with ⟨e9, h⟩ | ⟨e9, h⟩
        ·
          obtain ⟨b1, e10, h⟩ := bE h
          rcases cond_elim h with ⟨e11, h⟩ | ⟨e11, h⟩
          ·
            rcases cond_elim h with ⟨e12, h⟩ | ⟨e12, h⟩
            ·
              have h := Option.some.inj h; subst h; exact P9_3 i0 b0 b1 s0 s1 s2 s3 s4 s5 s6 s7 s8 k (F32_ok e0) (F32_ok e1) e2 e3 (F32_ok e4) (F32_ok e5) (F33_ok e6) (F34_ok e7) e8 e9 (F35_ok e10) e11 e12
            ·
              have h := Option.some.inj h; subst h; exact P9_4 i0 b0 b1 s0 s1 s2 s3 s4 s5 s6 s7 s8 k (F32_ok e0) (F32_ok e1) e2 e3 (F32_ok e4) (F32_ok e5) (F33_ok e6) (F34_ok e7) e8 e9 (F35_ok e10) e11 e12
          ·
            have h := Option.some.inj h; subst h; exact P9_5 i0 b0 b1 s0 s1 s2 s3 s4 s5 s6 s7 s8 k (F32_ok e0) (F32_ok e1) e2 e3 (F32_ok e4) (F32_ok e5) (F33_ok e6) (F34_ok e7) e8 e9 (F35_ok e10) e11
        ·
          rcases cond_elim h with ⟨e10, h⟩ | ⟨e10, h⟩
          ·
            obtain ⟨b1, e11, h⟩ := bE h
            rcases cond_elim h with ⟨e12, h⟩ | ⟨e12, h⟩
            ·
              rcases cond_elim h with ⟨e13, h⟩ | ⟨e13, h⟩
              ·
                have h := Option.some.inj h; subst h; exact P9_6 i0 b0 b1 s0 s1 s2 s3 s4 s5 s6 s7 s8 k (F32_ok e0) (F32_ok e1) e2 e3 (F32_ok e4) (F32_ok e5) (F33_ok e6) (F34_ok e7) e8 e9 e10 (F35_ok e11) e12 e13
              ·
                have h := Option.some.inj h; subst h; exact P9_7 i0 b0 b1 s0 s1 s2 s3 s4 s5 s6 s7 s8 k (F32_ok e0) (F32_ok e1) e2 e3 (F32_ok e4) (F32_ok e5) (F33_ok e6) (F34_ok e7) e8 e9 e10 (F35_ok e11) e12 e13
            ·
              have h := Option.some.inj h; subst h; exact P9_8 i0 b0 b1 s0 s1 s2 s3 s4 s5 s6 s7 s8 k (F32_ok e0) (F32_ok e1) e2 e3 (F32_ok e4) (F32_ok e5) (F33_ok e6) (F34_ok e7) e8 e9 e10 (F35_ok e11) e12
          ·
            obtain ⟨b1, e11, h⟩ := bE h
            rcases cond_elim h with ⟨e12, h⟩ | ⟨e12, h⟩
            ·
              rcases cond_elim h with ⟨e13, h⟩ | ⟨e13, h⟩
              ·
                obtain ⟨s9, e14, h⟩ := bE h
                have h := Option.some.inj h; subst h; exact P9_9 i0 b0 b1 s0 s1 s2 s3 s4 s5 s6 s7 s8 s9 k (F32_ok e0) (F32_ok e1) e2 e3 (F32_ok e4) (F32_ok e5) (F33_ok e6) (F34_ok e7) e8 e9 e10 (F35_ok e11) e12 e13 (F36_ok e14)
              ·
                have h := Option.some.inj h; subst h; exact P9_10 i0 b0 b1 s0 s1 s2 s3 s4 s5 s6 s7 s8 k (F32_ok e0) (F32_ok e1) e2 e3 (F32_ok e4) (F32_ok e5) (F33_ok e6) (F34_ok e7) e8 e9 e10 (F35_ok e11) e12 e13
            ·
              have h := Option.some.inj h; subst h; exact P9_11 i0 b0 b1 s0 s1 s2 s3 s4 s5 s6 s7 s8 k (F32_ok e0) (F32_ok e1) e2 e3 (F32_ok e4) (F32_ok e5) (F33_ok e6) (F34_ok e7) e8 e9 e10 (F35_ok e11) e12
    ·
      obtain ⟨⟨s6, i0⟩, e4, h⟩ := bE h
      obtain ⟨b0, e5, h⟩ := bE h
      rcases cond_elim h with ⟨e6, h⟩ | ⟨e6, h⟩
      ·
        obtain ⟨b1, e7, h⟩ := bE h
        rcases cond_elim h with ⟨e8, h⟩ | ⟨e8, h⟩
        ·
          rcases cond_elim h with ⟨e9, h⟩ | ⟨e9, h⟩
          ·
            have h := Option.some.inj h; subst h; exact P9_12 i0 b0 b1 s0 s1 s2 s3 s4 s5 s6 k (F32_ok e0) (F32_ok e1) e2 e3 (F33_ok e4) (F34_ok e5) e6 (F35_ok e7) e8 e9
          ·
            have h := Option.some.inj h; subst h; exact P9_13 i0 b0 b1 s0 s1 s2 s3 s4 s5 s6 k (F32_ok e0) (F32_ok e1) e2 e3 (F33_ok e4) (F34_ok e5) e6 (F35_ok e7) e8 e9
        ·
          have h := Option.some.inj h; subst h; exact P9_14 i0 b0 b1 s0 s1 s2 s3 s4 s5 s6 k (F32_ok e0) (F32_ok e1) e2 e3 (F33_ok e4) (F34_ok e5) e6 (F35_ok e7) e8
      ·
        rcases cond_elim h with ⟨e7, h⟩ | ⟨e7, h⟩
        ·
          obtain ⟨b1, e8, h⟩ := bE h
          rcases cond_elim h with ⟨e9, h⟩ | ⟨e9, h⟩
          ·
            rcases cond_elim h with ⟨e10, h⟩ | ⟨e10, h⟩
            ·
              have h := Option.some.inj h; subst h; exact P9_15 i0 b0 b1 s0 s1 s2 s3 s4 s5 s6 k (F32_ok e0) (F32_ok e1) e2 e3 (F33_ok e4) (F34_ok e5) e6 e7 (F35_ok e8) e9 e10
            ·
              have h := Option.some.inj h; subst h; exact P9_16 i0 b0 b1 s0 s1 s2 s3 s4 s5 s6 k (F32_ok e0) (F32_ok e1) e2 e3 (F33_ok e4) (F34_ok e5) e6 e7 (F35_ok e8) e9 e10
          ·
            have h := Option.some.inj h; subst h; exact P9_17 i0 b0 b1 s0 s1 s2 s3 s4 s5 s6 k (F32_ok e0) (F32_ok e1) e2 e3 (F33_ok e4) (F34_ok e5) e6 e7 (F35_ok e8) e9
        ·
          rcases cond_elim h with ⟨e8, h⟩ | ⟨e8, h⟩
          ·
            obtain ⟨b1, e9, h⟩ := bE h
            rcases cond_elim h with ⟨e10, h⟩ | ⟨e10, h⟩
            ·
              rcases cond_elim h with ⟨e11, h⟩ | ⟨e11, h⟩
              ·
                have h := Option.some.inj h; subst h; exact P9_18 i0 b0 b1 s0 s1 s2 s3 s4 s5 s6 k (F32_ok e0) (F32_ok e1) e2 e3 (F33_ok e4) (F34_ok e5) e6 e7 e8 (F35_ok e9) e10 e11
              ·
                have h := Option.some.inj h; subst h; exact P9_19 i0 b0 b1 s0 s1 s2 s3 s4 s5 s6 k (F32_ok e0) (F32_ok e1) e2 e3 (F33_ok e4) (F34_ok e5) e6 e7 e8 (F35_ok e9) e10 e11
            ·
              have h := Option.some.inj h; subst h; exact P9_20 i0 b0 b1 s0 s1 s2 s3 s4 s5 s6 k (F32_ok e0) (F32_ok e1) e2 e3 (F33_ok e4) (F34_ok e5) e6 e7 e8 (F35_ok e9) e10
          ·
            obtain ⟨b1, e9, h⟩ := bE h
            rcases cond_elim h with ⟨e10, h⟩ | ⟨e10, h⟩
            ·
              rcases cond_elim h with ⟨e11, h⟩ | ⟨e11, h⟩
              ·
                obtain ⟨s7, e12, h⟩ := bE h
                have h := Option.some.inj h; subst h; exact P9_21 i0 b0 b1 s0 s1 s2 s3 s4 s5 s6 s7 k (F32_ok e0) (F32_ok e1) e2 e3 (F33_ok e4) (F34_ok e5) e6 e7 e8 (F35_ok e9) e10 e11 (F36_ok e12)
              ·
                have h := Option.some.inj h; subst h; exact P9_22 i0 b0 b1 s0 s1 s2 s3 s4 s5 s6 k (F32_ok e0) (F32_ok e1) e2 e3 (F33_ok e4) (F34_ok e5) e6 e7 e8 (F35_ok e9) e10 e11
            ·
              have h := Option.some.inj h; subst h; exact P9_23 i0 b0 b1 s0 s1 s2 s3 s4 s5 s6 k (F32_ok e0) (F32_ok e1) e2 e3 (F33_ok e4) (F34_ok e5) e6 e7 e8 (F35_ok e9) e10
  ·
    obtain ⟨⟨s6, i0⟩, e3, h⟩ := bE h
    obtain ⟨b0, e4, h⟩ := bE h
    rcases cond_elim h with ⟨e5, h⟩ | ⟨e5, h⟩
    ·
      obtain ⟨b1, e6, h⟩ := bE h
      rcases cond_elim h with ⟨e7, h⟩ | ⟨e7, h⟩
      ·
        rcases cond_elim h with ⟨e8, h⟩ | ⟨e8, h⟩
        ·
          have h := Option.some.inj h; subst h; exact P9_24 i0 b0 b1 s0 s1 s2 s3 s4 s5 s6 k (F32_ok e0) (F32_ok e1) e2 (F33_ok e3) (F34_ok e4) e5 (F35_ok e6) e7 e8
        ·
          have h := Option.some.inj h; subst h; exact P9_25 i0 b0 b1 s0 s1 s2 s3 s4 s5 s6 k (F32_ok e0) (F32_ok e1) e2 (F33_ok e3) (F34_ok e4) e5 (F35_ok e6) e7 e8
      ·
        have h := Option.some.inj h; subst h; exact P9_26 i0 b0 b1 s0 s1 s2 s3 s4 s5 s6 k (F32_ok e0) (F32_ok e1) e2 (F33_ok e3) (F34_ok e4) e5 (F35_ok e6) e7
    ·
      rcases cond_elim h with ⟨e6, h⟩ | ⟨e6, h⟩
      ·
        obtain ⟨b1, e7, h⟩ := bE h
        rcases cond_elim h with ⟨e8, h⟩ | ⟨e8, h⟩
        ·
          rcases cond_elim h with ⟨e9, h⟩ | ⟨e9, h⟩
          ·
            have h := Option.some.inj h; subst h; exact P9_27 i0 b0 b1 s0 s1 s2 s3 s4 s5 s6 k (F32_ok e0) (F32_ok e1) e2 (F33_ok e3) (F34_ok e4) e5 e6 (F35_ok e7) e8 e9
          ·
            have h := Option.some.inj h; subst h; exact P9_28 i0 b0 b1 s0 s1 s2 s3 s4 s5 s6 k (F32_ok e0) (F32_ok e1) e2 (F33_ok e3) (F34_ok e4) e5 e6 (F35_ok e7) e8 e9
        ·
          have h := Option.some.inj h; subst h; exact P9_29 i0 b0 b1 s0 s1 s2 s3 s4 s5 s6 k (F32_ok e0) (F32_ok e1) e2 (F33_ok e3) (F34_ok e4) e5 e6 (F35_ok e7) e8
      ·
        rcases cond_elim h with ⟨e7, h⟩ | ⟨e7, h⟩
        ·
          obtain ⟨b1, e8, h⟩ := bE h
          rcases cond_elim h with ⟨e9, h⟩ | ⟨e9, h⟩
          ·
            rcases cond_elim h with ⟨e10, h⟩ | ⟨e10, h⟩
            ·
              have h := Option.some.inj h; subst h; exact P9_30 i0 b0 b1 s0 s1 s2 s3 s4 s5 s6 k (F32_ok e0) (F32_ok e1) e2 (F33_ok e3) (F34_ok e4) e5 e6 e7 (F35_ok e8) e9 e10
            ·
              have h := Option.some.inj h; subst h; exact P9_31 i0 b0 b1 s0 s1 s2 s3 s4 s5 s6 k (F32_ok e0) (F32_ok e1) e2 (F33_ok e3) (F34_ok e4) e5 e6 e7 (F35_ok e8) e9 e10
          ·
            have h := Option.some.inj h; subst h; exact P9_32 i0 b0 b1 s0 s1 s2 s3 s4 s5 s6 k (F32_ok e0) (F32_ok e1) e2 (F33_ok e3) (F34_ok e4) e5 e6 e7 (F35_ok e8) e9
        ·
          obtain ⟨b1, e8, h⟩ := bE h
          rcases cond_elim h with ⟨e9, h⟩ | ⟨e9, h⟩
          ·
            rcases cond_elim h with ⟨e10, h⟩ | ⟨e10, h⟩
            ·
              obtain ⟨s7, e11, h⟩ := bE h
              have h := Option.some.inj h; subst h; exact P9_33 i0 b0 b1 s0 s1 s2 s3 s4 s5 s6 s7 k (F32_ok e0) (F32_ok e1) e2 (F33_ok e3) (F34_ok e4) e5 e6 e7 (F35_ok e8) e9 e10 (F36_ok e11)
            ·
              have h := Option.some.inj h; subst h; exact P9_34 i0 b0 b1 s0 s1 s2 s3 s4 s5 s6 k (F32_ok e0) (F32_ok e1) e2 (F33_ok e3) (F34_ok e4) e5 e6 e7 (F35_ok e8) e9 e10
          ·
            have h := Option.some.inj h; subst h; exact P9_35 i0 b0 b1 s0 s1 s2 s3 s4 s5 s6 k (F32_ok e0) (F32_ok e1) e2 (F33_ok e3) (F34_ok e4) e5 e6 e7 (F35_ok e8) e9
end Go.Proofs
