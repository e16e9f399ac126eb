/-
  What the law GcmOpens answers, checked against the program.
-/
import Derived.Test.YtegmincienhapaaGcA
set_option linter.unusedVariables false
set_option maxHeartbeats 0
set_option maxRecDepth 100000
namespace Go.Proofs
open Go Go.Sym

theorem P11_0 (i0 : Int) (b0 b1 : Bool) (s0 s1 s2 s3 s4 s5 s6 s7 : List UInt8) (k : Nat)
    (c0 : cP ((k + 54)) 32 [V.str s0] = some (V.str s4))
    (c1 : cP ((k + 54)) 32 [V.str s1] = some (V.str s5))
    (c2 : decide ((↑s2.length : Int) ≤ 4096) = true)
    (c3 : decide ((↑s3.length : Int) ≤ 4112) = true)
    (c4 : cP ((k + 54)) 32 [V.str s2] = some (V.str s6))
    (c5 : SlcP false 0 (V.str s3) none (some (vi (if 90 < (↑s3.length : Int) then 90 else (↑s3.length : Int)))) none (V.str (List.take (if 90 < (↑s3.length : Int) then 90 else (↑s3.length : Int)).toNat s3)))
    (c6 : cP ((k + 54)) 39 [V.str s4, V.str s5, V.str s6, V.str (List.take (if 90 < (↑s3.length : Int) then 90 else (↑s3.length : Int)).toNat s3)] = some (V.tup [V.str s7, vi i0]))
    (c7 : cP ((k + 54)) 34 [V.str s4, V.str s5] = some (V.bool b0))
    (c8 : (!b0) = true)
    (c9 : cP ((k + 54)) 35 [] = some (V.bool b1))
    (c10 : b1 = true)
    (c11 : decide (i0 = 4) = true) :
    cP ((k + 55)) 11 [V.str s0, V.str s1, V.str s2, V.str s3] = some (V.bool (decide (s7 = []))) :=
  byF (k := k) (d := 55) [Hn.call 13 (V.str s4), Hn.call 15 (V.str s5), Hn.br 19 true, Hn.br 23 true, Hn.call 25 (V.str s6), Hn.op 30 (V.str (List.take (if 90 < (↑s3.length : Int) then 90 else (↑s3.length : Int)).toNat s3)) [], Hn.call 36 (V.tup [V.str s7, vi i0]), Hn.call 41 (V.bool b0), Hn.br 43 true, Hn.call 58 (V.bool b1), Hn.br 59 true, Hn.br 63 true] (aI c0 (aI c1 (aI c2 (aI c3 (aI c4 (aI c5 (aI c6 (aI c7 (aI c8 (aI c9 (aI c10 (aI c11 trivial)))))))))))) (by kernel_rfl)
theorem P11_1 (i0 : Int) (b0 b1 : Bool) (s0 s1 s2 s3 s4 s5 s6 s7 : List UInt8) (k : Nat)
    (c0 : cP ((k + 54)) 32 [V.str s0] = some (V.str s4))
    (c1 : cP ((k + 54)) 32 [V.str s1] = some (V.str s5))
    (c2 : decide ((↑s2.length : Int) ≤ 4096) = true)
    (c3 : decide ((↑s3.length : Int) ≤ 4112) = true)
    (c4 : cP ((k + 54)) 32 [V.str s2] = some (V.str s6))
    (c5 : SlcP false 0 (V.str s3) none (some (vi (if 90 < (↑s3.length : Int) then 90 else (↑s3.length : Int)))) none (V.str (List.take (if 90 < (↑s3.length : Int) then 90 else (↑s3.length : Int)).toNat s3)))
    (c6 : cP ((k + 54)) 39 [V.str s4, V.str s5, V.str s6, V.str (List.take (if 90 < (↑s3.length : Int) then 90 else (↑s3.length : Int)).toNat s3)] = some (V.tup [V.str s7, vi i0]))
    (c7 : cP ((k + 54)) 34 [V.str s4, V.str s5] = some (V.bool b0))
    (c8 : (!b0) = true)
    (c9 : cP ((k + 54)) 35 [] = some (V.bool b1))
    (c10 : b1 = true)
    (c11 : decide (i0 = 4) = false) :
    cP ((k + 55)) 11 [V.str s0, V.str s1, V.str s2, V.str s3] = some (V.bool false) :=
  byF (k := k) (d := 55) [Hn.call 13 (V.str s4), Hn.call 15 (V.str s5), Hn.br 19 true, Hn.br 23 true, Hn.call 25 (V.str s6), Hn.op 30 (V.str (List.take (if 90 < (↑s3.length : Int) then 90 else (↑s3.length : Int)).toNat s3)) [], Hn.call 36 (V.tup [V.str s7, vi i0]), Hn.call 41 (V.bool b0), Hn.br 43 true, Hn.call 58 (V.bool b1), Hn.br 59 true, Hn.br 63 false] (aI c0 (aI c1 (aI c2 (aI c3 (aI c4 (aI c5 (aI c6 (aI c7 (aI c8 (aI c9 (aI c10 (aI c11 trivial)))))))))))) (by kernel_rfl)
theorem P11_2 (i0 : Int) (b0 b1 : Bool) (s0 s1 s2 s3 s4 s5 s6 s7 : List UInt8) (k : Nat)
    (c0 : cP ((k + 54)) 32 [V.str s0] = some (V.str s4))
    (c1 : cP ((k + 54)) 32 [V.str s1] = some (V.str s5))
    (c2 : decide ((↑s2.length : Int) ≤ 4096) = true)
    (c3 : decide ((↑s3.length : Int) ≤ 4112) = true)
    (c4 : cP ((k + 54)) 32 [V.str s2] = some (V.str s6))
    (c5 : SlcP false 0 (V.str s3) none (some (vi (if 90 < (↑s3.length : Int) then 90 else (↑s3.length : Int)))) none (V.str (List.take (if 90 < (↑s3.length : Int) then 90 else (↑s3.length : Int)).toNat s3)))
    (c6 : cP ((k + 54)) 39 [V.str s4, V.str s5, V.str s6, V.str (List.take (if 90 < (↑s3.length : Int) then 90 else (↑s3.length : Int)).toNat s3)] = some (V.tup [V.str s7, vi i0]))
    (c7 : cP ((k + 54)) 34 [V.str s4, V.str s5] = some (V.bool b0))
    (c8 : (!b0) = true)
    (c9 : cP ((k + 54)) 35 [] = some (V.bool b1))
    (c10 : b1 = false) :
    cP ((k + 55)) 11 [V.str s0, V.str s1, V.str s2, V.str s3] = some (V.bool false) :=
  byF (k := k) (d := 55) [Hn.call 13 (V.str s4), Hn.call 15 (V.str s5), Hn.br 19 true, Hn.br 23 true, Hn.call 25 (V.str s6), Hn.op 30 (V.str (List.take (if 90 < (↑s3.length : Int) then 90 else (↑s3.length : Int)).toNat s3)) [], Hn.call 36 (V.tup [V.str s7, vi i0]), Hn.call 41 (V.bool b0), Hn.br 43 true, Hn.call 58 (V.bool b1), Hn.br 59 false] (aI c0 (aI c1 (aI c2 (aI c3 (aI c4 (aI c5 (aI c6 (aI c7 (aI c8 (aI c9 (aI c10 trivial))))))))))) (by kernel_rfl)
theorem P11_3 (i0 : Int) (b0 b1 : Bool) (s0 s1 s2 s3 s4 s5 s6 s7 : List UInt8) (k : Nat)
    (c0 : cP ((k + 54)) 32 [V.str s0] = some (V.str s4))
    (c1 : cP ((k + 54)) 32 [V.str s1] = some (V.str s5))
    (c2 : decide ((↑s2.length : Int) ≤ 4096) = true)
    (c3 : decide ((↑s3.length : Int) ≤ 4112) = true)
    (c4 : cP ((k + 54)) 32 [V.str s2] = some (V.str s6))
    (c5 : SlcP false 0 (V.str s3) none (some (vi (if 90 < (↑s3.length : Int) then 90 else (↑s3.length : Int)))) none (V.str (List.take (if 90 < (↑s3.length : Int) then 90 else (↑s3.length : Int)).toNat s3)))
    (c6 : cP ((k + 54)) 39 [V.str s4, V.str s5, V.str s6, V.str (List.take (if 90 < (↑s3.length : Int) then 90 else (↑s3.length : Int)).toNat s3)] = some (V.tup [V.str s7, vi i0]))
    (c7 : cP ((k + 54)) 34 [V.str s4, V.str s5] = some (V.bool b0))
    (c8 : (!b0) = false)
    (c9 : decide (4096 < (↑s6.length : Int)) = true)
    (c10 : cP ((k + 54)) 35 [] = some (V.bool b1))
    (c11 : b1 = true)
    (c12 : decide (i0 = 4) = true) :
    cP ((k + 55)) 11 [V.str s0, V.str s1, V.str s2, V.str s3] = some (V.bool (decide (s7 = []))) :=
  byF (k := k) (d := 55) [Hn.call 13 (V.str s4), Hn.call 15 (V.str s5), Hn.br 19 true, Hn.br 23 true, Hn.call 25 (V.str s6), Hn.op 30 (V.str (List.take (if 90 < (↑s3.length : Int) then 90 else (↑s3.length : Int)).toNat s3)) [], Hn.call 36 (V.tup [V.str s7, vi i0]), Hn.call 41 (V.bool b0), Hn.br 43 false, Hn.br 48 true, Hn.call 58 (V.bool b1), Hn.br 59 true, Hn.br 63 true] (aI c0 (aI c1 (aI c2 (aI c3 (aI c4 (aI c5 (aI c6 (aI c7 (aI c8 (aI c9 (aI c10 (aI c11 (aI c12 trivial))))))))))))) (by kernel_rfl)
theorem P11_4 (i0 : Int) (b0 b1 : Bool) (s0 s1 s2 s3 s4 s5 s6 s7 : List UInt8) (k : Nat)
    (c0 : cP ((k + 54)) 32 [V.str s0] = some (V.str s4))
    (c1 : cP ((k + 54)) 32 [V.str s1] = some (V.str s5))
    (c2 : decide ((↑s2.length : Int) ≤ 4096) = true)
    (c3 : decide ((↑s3.length : Int) ≤ 4112) = true)
    (c4 : cP ((k + 54)) 32 [V.str s2] = some (V.str s6))
    (c5 : SlcP false 0 (V.str s3) none (some (vi (if 90 < (↑s3.length : Int) then 90 else (↑s3.length : Int)))) none (V.str (List.take (if 90 < (↑s3.length : Int) then 90 else (↑s3.length : Int)).toNat s3)))
    (c6 : cP ((k + 54)) 39 [V.str s4, V.str s5, V.str s6, V.str (List.take (if 90 < (↑s3.length : Int) then 90 else (↑s3.length : Int)).toNat s3)] = some (V.tup [V.str s7, vi i0]))
    (c7 : cP ((k + 54)) 34 [V.str s4, V.str s5] = some (V.bool b0))
    (c8 : (!b0) = false)
    (c9 : decide (4096 < (↑s6.length : Int)) = true)
    (c10 : cP ((k + 54)) 35 [] = some (V.bool b1))
    (c11 : b1 = true)
    (c12 : decide (i0 = 4) = false) :
    cP ((k + 55)) 11 [V.str s0, V.str s1, V.str s2, V.str s3] = some (V.bool false) :=
  byF (k := k) (d := 55) [Hn.call 13 (V.str s4), Hn.call 15 (V.str s5), Hn.br 19 true, Hn.br 23 true, Hn.call 25 (V.str s6), Hn.op 30 (V.str (List.take (if 90 < (↑s3.length : Int) then 90 else (↑s3.length : Int)).toNat s3)) [], Hn.call 36 (V.tup [V.str s7, vi i0]), Hn.call 41 (V.bool b0), Hn.br 43 false, Hn.br 48 true, Hn.call 58 (V.bool b1), Hn.br 59 true, Hn.br 63 false] (aI c0 (aI c1 (aI c2 (aI c3 (aI c4 (aI c5 (aI c6 (aI c7 (aI c8 (aI c9 (aI c10 (aI c11 (aI c12 trivial))))))))))))) (by kernel_rfl)
theorem P11_5 (i0 : Int) (b0 b1 : Bool) (s0 s1 s2 s3 s4 s5 s6 s7 : List UInt8) (k : Nat)
    (c0 : cP ((k + 54)) 32 [V.str s0] = some (V.str s4))
    (c1 : cP ((k + 54)) 32 [V.str s1] = some (V.str s5))
    (c2 : decide ((↑s2.length : Int) ≤ 4096) = true)
    (c3 : decide ((↑s3.length : Int) ≤ 4112) = true)
    (c4 : cP ((k + 54)) 32 [V.str s2] = some (V.str s6))
    (c5 : SlcP false 0 (V.str s3) none (some (vi (if 90 < (↑s3.length : Int) then 90 else (↑s3.length : Int)))) none (V.str (List.take (if 90 < (↑s3.length : Int) then 90 else (↑s3.length : Int)).toNat s3)))
    (c6 : cP ((k + 54)) 39 [V.str s4, V.str s5, V.str s6, V.str (List.take (if 90 < (↑s3.length : Int) then 90 else (↑s3.length : Int)).toNat s3)] = some (V.tup [V.str s7, vi i0]))
    (c7 : cP ((k + 54)) 34 [V.str s4, V.str s5] = some (V.bool b0))
    (c8 : (!b0) = false)
    (c9 : decide (4096 < (↑s6.length : Int)) = true)
    (c10 : cP ((k + 54)) 35 [] = some (V.bool b1))
    (c11 : b1 = false) :
    cP ((k + 55)) 11 [V.str s0, V.str s1, V.str s2, V.str s3] = some (V.bool false) :=
  byF (k := k) (d := 55) [Hn.call 13 (V.str s4), Hn.call 15 (V.str s5), Hn.br 19 true, Hn.br 23 true, Hn.call 25 (V.str s6), Hn.op 30 (V.str (List.take (if 90 < (↑s3.length : Int) then 90 else (↑s3.length : Int)).toNat s3)) [], Hn.call 36 (V.tup [V.str s7, vi i0]), Hn.call 41 (V.bool b0), Hn.br 43 false, Hn.br 48 true, Hn.call 58 (V.bool b1), Hn.br 59 false] (aI c0 (aI c1 (aI c2 (aI c3 (aI c4 (aI c5 (aI c6 (aI c7 (aI c8 (aI c9 (aI c10 (aI c11 trivial)))))))))))) (by kernel_rfl)
theorem P11_6 (i0 : Int) (b0 b1 : Bool) (s0 s1 s2 s3 s4 s5 s6 s7 : List UInt8) (k : Nat)
    (c0 : cP ((k + 54)) 32 [V.str s0] = some (V.str s4))
    (c1 : cP ((k + 54)) 32 [V.str s1] = some (V.str s5))
    (c2 : decide ((↑s2.length : Int) ≤ 4096) = true)
    (c3 : decide ((↑s3.length : Int) ≤ 4112) = true)
    (c4 : cP ((k + 54)) 32 [V.str s2] = some (V.str s6))
    (c5 : SlcP false 0 (V.str s3) none (some (vi (if 90 < (↑s3.length : Int) then 90 else (↑s3.length : Int)))) none (V.str (List.take (if 90 < (↑s3.length : Int) then 90 else (↑s3.length : Int)).toNat s3)))
    (c6 : cP ((k + 54)) 39 [V.str s4, V.str s5, V.str s6, V.str (List.take (if 90 < (↑s3.length : Int) then 90 else (↑s3.length : Int)).toNat s3)] = some (V.tup [V.str s7, vi i0]))
    (c7 : cP ((k + 54)) 34 [V.str s4, V.str s5] = some (V.bool b0))
    (c8 : (!b0) = false)
    (c9 : decide (4096 < (↑s6.length : Int)) = false)
    (c10 : decide (4112 < (↑(List.take (if 90 < (↑s3.length : Int) then 90 else (↑s3.length : Int)).toNat s3).length : Int)) = true)
    (c11 : cP ((k + 54)) 35 [] = some (V.bool b1))
    (c12 : b1 = true)
    (c13 : decide (i0 = 4) = true) :
    cP ((k + 55)) 11 [V.str s0, V.str s1, V.str s2, V.str s3] = some (V.bool (decide (s7 = []))) :=
  byF (k := k) (d := 55) [Hn.call 13 (V.str s4), Hn.call 15 (V.str s5), Hn.br 19 true, Hn.br 23 true, Hn.call 25 (V.str s6), Hn.op 30 (V.str (List.take (if 90 < (↑s3.length : Int) then 90 else (↑s3.length : Int)).toNat s3)) [], Hn.call 36 (V.tup [V.str s7, vi i0]), Hn.call 41 (V.bool b0), Hn.br 43 false, Hn.br 48 false, Hn.br 53 true, Hn.call 58 (V.bool b1), Hn.br 59 true, Hn.br 63 true] (aI c0 (aI c1 (aI c2 (aI c3 (aI c4 (aI c5 (aI c6 (aI c7 (aI c8 (aI c9 (aI c10 (aI c11 (aI c12 (aI c13 trivial)))))))))))))) (by kernel_rfl)
theorem P11_7 (i0 : Int) (b0 b1 : Bool) (s0 s1 s2 s3 s4 s5 s6 s7 : List UInt8) (k : Nat)
    (c0 : cP ((k + 54)) 32 [V.str s0] = some (V.str s4))
    (c1 : cP ((k + 54)) 32 [V.str s1] = some (V.str s5))
    (c2 : decide ((↑s2.length : Int) ≤ 4096) = true)
    (c3 : decide ((↑s3.length : Int) ≤ 4112) = true)
    (c4 : cP ((k + 54)) 32 [V.str s2] = some (V.str s6))
    (c5 : SlcP false 0 (V.str s3) none (some (vi (if 90 < (↑s3.length : Int) then 90 else (↑s3.length : Int)))) none (V.str (List.take (if 90 < (↑s3.length : Int) then 90 else (↑s3.length : Int)).toNat s3)))
    (c6 : cP ((k + 54)) 39 [V.str s4, V.str s5, V.str s6, V.str (List.take (if 90 < (↑s3.length : Int) then 90 else (↑s3.length : Int)).toNat s3)] = some (V.tup [V.str s7, vi i0]))
    (c7 : cP ((k + 54)) 34 [V.str s4, V.str s5] = some (V.bool b0))
    (c8 : (!b0) = false)
    (c9 : decide (4096 < (↑s6.length : Int)) = false)
    (c10 : decide (4112 < (↑(List.take (if 90 < (↑s3.length : Int) then 90 else (↑s3.length : Int)).toNat s3).length : Int)) = true)
    (c11 : cP ((k + 54)) 35 [] = some (V.bool b1))
    (c12 : b1 = true)
    (c13 : decide (i0 = 4) = false) :
    cP ((k + 55)) 11 [V.str s0, V.str s1, V.str s2, V.str s3] = some (V.bool false) :=
  byF (k := k) (d := 55) [Hn.call 13 (V.str s4), Hn.call 15 (V.str s5), Hn.br 19 true, Hn.br 23 true, Hn.call 25 (V.str s6), Hn.op 30 (V.str (List.take (if 90 < (↑s3.length : Int) then 90 else (↑s3.length : Int)).toNat s3)) [], Hn.call 36 (V.tup [V.str s7, vi i0]), Hn.call 41 (V.bool b0), Hn.br 43 false, Hn.br 48 false, Hn.br 53 true, Hn.call 58 (V.bool b1), Hn.br 59 true, Hn.br 63 false] (aI c0 (aI c1 (aI c2 (aI c3 (aI c4 (aI c5 (aI c6 (aI c7 (aI c8 (aI c9 (aI c10 (aI c11 (aI c12 (aI c13 trivial)))))))))))))) (by kernel_rfl)
theorem P11_8 (i0 : Int) (b0 b1 : Bool) (s0 s1 s2 s3 s4 s5 s6 s7 : List UInt8) (k : Nat)
    (c0 : cP ((k + 54)) 32 [V.str s0] = some (V.str s4))
    (c1 : cP ((k + 54)) 32 [V.str s1] = some (V.str s5))
    (c2 : decide ((↑s2.length : Int) ≤ 4096) = true)
    (c3 : decide ((↑s3.length : Int) ≤ 4112) = true)
    (c4 : cP ((k + 54)) 32 [V.str s2] = some (V.str s6))
    (c5 : SlcP false 0 (V.str s3) none (some (vi (if 90 < (↑s3.length : Int) then 90 else (↑s3.length : Int)))) none (V.str (List.take (if 90 < (↑s3.length : Int) then 90 else (↑s3.length : Int)).toNat s3)))
    (c6 : cP ((k + 54)) 39 [V.str s4, V.str s5, V.str s6, V.str (List.take (if 90 < (↑s3.length : Int) then 90 else (↑s3.length : Int)).toNat s3)] = some (V.tup [V.str s7, vi i0]))
    (c7 : cP ((k + 54)) 34 [V.str s4, V.str s5] = some (V.bool b0))
    (c8 : (!b0) = false)
    (c9 : decide (4096 < (↑s6.length : Int)) = false)
    (c10 : decide (4112 < (↑(List.take (if 90 < (↑s3.length : Int) then 90 else (↑s3.length : Int)).toNat s3).length : Int)) = true)
    (c11 : cP ((k + 54)) 35 [] = some (V.bool b1))
    (c12 : b1 = false) :
    cP ((k + 55)) 11 [V.str s0, V.str s1, V.str s2, V.str s3] = some (V.bool false) :=
  byF (k := k) (d := 55) [Hn.call 13 (V.str s4), Hn.call 15 (V.str s5), Hn.br 19 true, Hn.br 23 true, Hn.call 25 (V.str s6), Hn.op 30 (V.str (List.take (if 90 < (↑s3.length : Int) then 90 else (↑s3.length : Int)).toNat s3)) [], Hn.call 36 (V.tup [V.str s7, vi i0]), Hn.call 41 (V.bool b0), Hn.br 43 false, Hn.br 48 false, Hn.br 53 true, Hn.call 58 (V.bool b1), Hn.br 59 false] (aI c0 (aI c1 (aI c2 (aI c3 (aI c4 (aI c5 (aI c6 (aI c7 (aI c8 (aI c9 (aI c10 (aI c11 (aI c12 trivial))))))))))))) (by kernel_rfl)
theorem P11_9 (i0 : Int) (b0 b1 : Bool) (s0 s1 s2 s3 s4 s5 s6 s7 : List UInt8) (k : Nat)
    (c0 : cP ((k + 54)) 32 [V.str s0] = some (V.str s4))
    (c1 : cP ((k + 54)) 32 [V.str s1] = some (V.str s5))
    (c2 : decide ((↑s2.length : Int) ≤ 4096) = true)
    (c3 : decide ((↑s3.length : Int) ≤ 4112) = true)
    (c4 : cP ((k + 54)) 32 [V.str s2] = some (V.str s6))
    (c5 : SlcP false 0 (V.str s3) none (some (vi (if 90 < (↑s3.length : Int) then 90 else (↑s3.length : Int)))) none (V.str (List.take (if 90 < (↑s3.length : Int) then 90 else (↑s3.length : Int)).toNat s3)))
    (c6 : cP ((k + 54)) 39 [V.str s4, V.str s5, V.str s6, V.str (List.take (if 90 < (↑s3.length : Int) then 90 else (↑s3.length : Int)).toNat s3)] = some (V.tup [V.str s7, vi i0]))
    (c7 : cP ((k + 54)) 34 [V.str s4, V.str s5] = some (V.bool b0))
    (c8 : (!b0) = false)
    (c9 : decide (4096 < (↑s6.length : Int)) = false)
    (c10 : decide (4112 < (↑(List.take (if 90 < (↑s3.length : Int) then 90 else (↑s3.length : Int)).toNat s3).length : Int)) = false)
    (c11 : decide ((↑(List.take (if 90 < (↑s3.length : Int) then 90 else (↑s3.length : Int)).toNat s3).length : Int) < 16) = true)
    (c12 : cP ((k + 54)) 35 [] = some (V.bool b1))
    (c13 : b1 = true)
    (c14 : decide (i0 = 4) = true) :
    cP ((k + 55)) 11 [V.str s0, V.str s1, V.str s2, V.str s3] = some (V.bool (decide (s7 = []))) :=
  byF (k := k) (d := 55) [Hn.call 13 (V.str s4), Hn.call 15 (V.str s5), Hn.br 19 true, Hn.br 23 true, Hn.call 25 (V.str s6), Hn.op 30 (V.str (List.take (if 90 < (↑s3.length : Int) then 90 else (↑s3.length : Int)).toNat s3)) [], Hn.call 36 (V.tup [V.str s7, vi i0]), Hn.call 41 (V.bool b0), Hn.br 43 false, Hn.br 48 false, Hn.br 53 false, Hn.br 57 true, Hn.call 58 (V.bool b1), Hn.br 59 true, Hn.br 63 true] (aI c0 (aI c1 (aI c2 (aI c3 (aI c4 (aI c5 (aI c6 (aI c7 (aI c8 (aI c9 (aI c10 (aI c11 (aI c12 (aI c13 (aI c14 trivial))))))))))))))) (by kernel_rfl)
theorem P11_10 (i0 : Int) (b0 b1 : Bool) (s0 s1 s2 s3 s4 s5 s6 s7 : List UInt8) (k : Nat)
    (c0 : cP ((k + 54)) 32 [V.str s0] = some (V.str s4))
    (c1 : cP ((k + 54)) 32 [V.str s1] = some (V.str s5))
    (c2 : decide ((↑s2.length : Int) ≤ 4096) = true)
    (c3 : decide ((↑s3.length : Int) ≤ 4112) = true)
    (c4 : cP ((k + 54)) 32 [V.str s2] = some (V.str s6))
    (c5 : SlcP false 0 (V.str s3) none (some (vi (if 90 < (↑s3.length : Int) then 90 else (↑s3.length : Int)))) none (V.str (List.take (if 90 < (↑s3.length : Int) then 90 else (↑s3.length : Int)).toNat s3)))
    (c6 : cP ((k + 54)) 39 [V.str s4, V.str s5, V.str s6, V.str (List.take (if 90 < (↑s3.length : Int) then 90 else (↑s3.length : Int)).toNat s3)] = some (V.tup [V.str s7, vi i0]))
    (c7 : cP ((k + 54)) 34 [V.str s4, V.str s5] = some (V.bool b0))
    (c8 : (!b0) = false)
    (c9 : decide (4096 < (↑s6.length : Int)) = false)
    (c10 : decide (4112 < (↑(List.take (if 90 < (↑s3.length : Int) then 90 else (↑s3.length : Int)).toNat s3).length : Int)) = false)
    (c11 : decide ((↑(List.take (if 90 < (↑s3.length : Int) then 90 else (↑s3.length : Int)).toNat s3).length : Int) < 16) = true)
    (c12 : cP ((k + 54)) 35 [] = some (V.bool b1))
    (c13 : b1 = true)
    (c14 : decide (i0 = 4) = false) :
    cP ((k + 55)) 11 [V.str s0, V.str s1, V.str s2, V.str s3] = some (V.bool false) :=
  byF (k := k) (d := 55) [Hn.call 13 (V.str s4), Hn.call 15 (V.str s5), Hn.br 19 true, Hn.br 23 true, Hn.call 25 (V.str s6), Hn.op 30 (V.str (List.take (if 90 < (↑s3.length : Int) then 90 else (↑s3.length : Int)).toNat s3)) [], Hn.call 36 (V.tup [V.str s7, vi i0]), Hn.call 41 (V.bool b0), Hn.br 43 false, Hn.br 48 false, Hn.br 53 false, Hn.br 57 true, Hn.call 58 (V.bool b1), Hn.br 59 true, Hn.br 63 false] (aI c0 (aI c1 (aI c2 (aI c3 (aI c4 (aI c5 (aI c6 (aI c7 (aI c8 (aI c9 (aI c10 (aI c11 (aI c12 (aI c13 (aI c14 trivial))))))))))))))) (by kernel_rfl)
theorem P11_11 (i0 : Int) (b0 b1 : Bool) (s0 s1 s2 s3 s4 s5 s6 s7 : List UInt8) (k : Nat)
    (c0 : cP ((k + 54)) 32 [V.str s0] = some (V.str s4))
    (c1 : cP ((k + 54)) 32 [V.str s1] = some (V.str s5))
    (c2 : decide ((↑s2.length : Int) ≤ 4096) = true)
    (c3 : decide ((↑s3.length : Int) ≤ 4112) = true)
    (c4 : cP ((k + 54)) 32 [V.str s2] = some (V.str s6))
    (c5 : SlcP false 0 (V.str s3) none (some (vi (if 90 < (↑s3.length : Int) then 90 else (↑s3.length : Int)))) none (V.str (List.take (if 90 < (↑s3.length : Int) then 90 else (↑s3.length : Int)).toNat s3)))
    (c6 : cP ((k + 54)) 39 [V.str s4, V.str s5, V.str s6, V.str (List.take (if 90 < (↑s3.length : Int) then 90 else (↑s3.length : Int)).toNat s3)] = some (V.tup [V.str s7, vi i0]))
    (c7 : cP ((k + 54)) 34 [V.str s4, V.str s5] = some (V.bool b0))
    (c8 : (!b0) = false)
    (c9 : decide (4096 < (↑s6.length : Int)) = false)
    (c10 : decide (4112 < (↑(List.take (if 90 < (↑s3.length : Int) then 90 else (↑s3.length : Int)).toNat s3).length : Int)) = false)
    (c11 : decide ((↑(List.take (if 90 < (↑s3.length : Int) then 90 else (↑s3.length : Int)).toNat s3).length : Int) < 16) = true)
    (c12 : cP ((k + 54)) 35 [] = some (V.bool b1))
    (c13 : b1 = false) :
    cP ((k + 55)) 11 [V.str s0, V.str s1, V.str s2, V.str s3] = some (V.bool false) :=
  byF (k := k) (d := 55) [Hn.call 13 (V.str s4), Hn.call 15 (V.str s5), Hn.br 19 true, Hn.br 23 true, Hn.call 25 (V.str s6), Hn.op 30 (V.str (List.take (if 90 < (↑s3.length : Int) then 90 else (↑s3.length : Int)).toNat s3)) [], Hn.call 36 (V.tup [V.str s7, vi i0]), Hn.call 41 (V.bool b0), Hn.br 43 false, Hn.br 48 false, Hn.br 53 false, Hn.br 57 true, Hn.call 58 (V.bool b1), Hn.br 59 false] (aI c0 (aI c1 (aI c2 (aI c3 (aI c4 (aI c5 (aI c6 (aI c7 (aI c8 (aI c9 (aI c10 (aI c11 (aI c12 (aI c13 trivial)))))))))))))) (by kernel_rfl)
theorem P11_12 (i0 : Int) (b0 b1 b2 : Bool) (s0 s1 s2 s3 s4 s5 s6 s7 s8 : List UInt8) (k : Nat)
    (c0 : cP ((k + 54)) 32 [V.str s0] = some (V.str s4))
    (c1 : cP ((k + 54)) 32 [V.str s1] = some (V.str s5))
    (c2 : decide ((↑s2.length : Int) ≤ 4096) = true)
    (c3 : decide ((↑s3.length : Int) ≤ 4112) = true)
    (c4 : cP ((k + 54)) 32 [V.str s2] = some (V.str s6))
    (c5 : SlcP false 0 (V.str s3) none (some (vi (if 90 < (↑s3.length : Int) then 90 else (↑s3.length : Int)))) none (V.str (List.take (if 90 < (↑s3.length : Int) then 90 else (↑s3.length : Int)).toNat s3)))
    (c6 : cP ((k + 54)) 39 [V.str s4, V.str s5, V.str s6, V.str (List.take (if 90 < (↑s3.length : Int) then 90 else (↑s3.length : Int)).toNat s3)] = some (V.tup [V.str s7, vi i0]))
    (c7 : cP ((k + 54)) 34 [V.str s4, V.str s5] = some (V.bool b0))
    (c8 : (!b0) = false)
    (c9 : decide (4096 < (↑s6.length : Int)) = false)
    (c10 : decide (4112 < (↑(List.take (if 90 < (↑s3.length : Int) then 90 else (↑s3.length : Int)).toNat s3).length : Int)) = false)
    (c11 : decide ((↑(List.take (if 90 < (↑s3.length : Int) then 90 else (↑s3.length : Int)).toNat s3).length : Int) < 16) = false)
    (c12 : cP ((k + 54)) 40 [V.str s4, V.str s5, V.str s6, V.str (List.take (if 90 < (↑s3.length : Int) then 90 else (↑s3.length : Int)).toNat s3)] = some (V.agg [V.str s8, V.bool b1]))
    (c13 : cP ((k + 54)) 35 [] = some (V.bool b2))
    (c14 : b2 = true)
    (c15 : decide (s7 = s8) = true)
    (c16 : b1 = true)
    (c17 : decide (i0 = 0) = true) :
    cP ((k + 55)) 11 [V.str s0, V.str s1, V.str s2, V.str s3] = some (V.bool true) :=
  byF (k := k) (d := 55) [Hn.call 13 (V.str s4), Hn.call 15 (V.str s5), Hn.br 19 true, Hn.br 23 true, Hn.call 25 (V.str s6), Hn.op 30 (V.str (List.take (if 90 < (↑s3.length : Int) then 90 else (↑s3.length : Int)).toNat s3)) [], Hn.call 36 (V.tup [V.str s7, vi i0]), Hn.call 41 (V.bool b0), Hn.br 43 false, Hn.br 48 false, Hn.br 53 false, Hn.br 57 false, Hn.call 71 (V.agg [V.str s8, V.bool b1]), Hn.call 72 (V.bool b2), Hn.br 73 true, Hn.br 79 true, Hn.br 82 true, Hn.br 86 true] (aI c0 (aI c1 (aI c2 (aI c3 (aI c4 (aI c5 (aI c6 (aI c7 (aI c8 (aI c9 (aI c10 (aI c11 (aI c12 (aI c13 (aI c14 (aI c15 (aI c16 (aI c17 trivial)))))))))))))))))) (by kernel_rfl)
theorem P11_13 (i0 : Int) (b0 b1 b2 : Bool) (s0 s1 s2 s3 s4 s5 s6 s7 s8 : List UInt8) (k : Nat)
    (c0 : cP ((k + 54)) 32 [V.str s0] = some (V.str s4))
    (c1 : cP ((k + 54)) 32 [V.str s1] = some (V.str s5))
    (c2 : decide ((↑s2.length : Int) ≤ 4096) = true)
    (c3 : decide ((↑s3.length : Int) ≤ 4112) = true)
    (c4 : cP ((k + 54)) 32 [V.str s2] = some (V.str s6))
    (c5 : SlcP false 0 (V.str s3) none (some (vi (if 90 < (↑s3.length : Int) then 90 else (↑s3.length : Int)))) none (V.str (List.take (if 90 < (↑s3.length : Int) then 90 else (↑s3.length : Int)).toNat s3)))
    (c6 : cP ((k + 54)) 39 [V.str s4, V.str s5, V.str s6, V.str (List.take (if 90 < (↑s3.length : Int) then 90 else (↑s3.length : Int)).toNat s3)] = some (V.tup [V.str s7, vi i0]))
    (c7 : cP ((k + 54)) 34 [V.str s4, V.str s5] = some (V.bool b0))
    (c8 : (!b0) = false)
    (c9 : decide (4096 < (↑s6.length : Int)) = false)
    (c10 : decide (4112 < (↑(List.take (if 90 < (↑s3.length : Int) then 90 else (↑s3.length : Int)).toNat s3).length : Int)) = false)
    (c11 : decide ((↑(List.take (if 90 < (↑s3.length : Int) then 90 else (↑s3.length : Int)).toNat s3).length : Int) < 16) = false)
    (c12 : cP ((k + 54)) 40 [V.str s4, V.str s5, V.str s6, V.str (List.take (if 90 < (↑s3.length : Int) then 90 else (↑s3.length : Int)).toNat s3)] = some (V.agg [V.str s8, V.bool b1]))
    (c13 : cP ((k + 54)) 35 [] = some (V.bool b2))
    (c14 : b2 = true)
    (c15 : decide (s7 = s8) = true)
    (c16 : b1 = true)
    (c17 : decide (i0 = 0) = false)
    (c18 : b1 = true) :
    cP ((k + 55)) 11 [V.str s0, V.str s1, V.str s2, V.str s3] = some (V.bool false) :=
  byF (k := k) (d := 55) [Hn.call 13 (V.str s4), Hn.call 15 (V.str s5), Hn.br 19 true, Hn.br 23 true, Hn.call 25 (V.str s6), Hn.op 30 (V.str (List.take (if 90 < (↑s3.length : Int) then 90 else (↑s3.length : Int)).toNat s3)) [], Hn.call 36 (V.tup [V.str s7, vi i0]), Hn.call 41 (V.bool b0), Hn.br 43 false, Hn.br 48 false, Hn.br 53 false, Hn.br 57 false, Hn.call 71 (V.agg [V.str s8, V.bool b1]), Hn.call 72 (V.bool b2), Hn.br 73 true, Hn.br 79 true, Hn.br 82 true, Hn.br 86 false, Hn.br 88 true] (aI c0 (aI c1 (aI c2 (aI c3 (aI c4 (aI c5 (aI c6 (aI c7 (aI c8 (aI c9 (aI c10 (aI c11 (aI c12 (aI c13 (aI c14 (aI c15 (aI c16 (aI c17 (aI c18 trivial))))))))))))))))))) (by kernel_rfl)
theorem P11_14 (i0 : Int) (b0 b1 b2 : Bool) (s0 s1 s2 s3 s4 s5 s6 s7 s8 : List UInt8) (k : Nat)
    (c0 : cP ((k + 54)) 32 [V.str s0] = some (V.str s4))
    (c1 : cP ((k + 54)) 32 [V.str s1] = some (V.str s5))
    (c2 : decide ((↑s2.length : Int) ≤ 4096) = true)
    (c3 : decide ((↑s3.length : Int) ≤ 4112) = true)
    (c4 : cP ((k + 54)) 32 [V.str s2] = some (V.str s6))
    (c5 : SlcP false 0 (V.str s3) none (some (vi (if 90 < (↑s3.length : Int) then 90 else (↑s3.length : Int)))) none (V.str (List.take (if 90 < (↑s3.length : Int) then 90 else (↑s3.length : Int)).toNat s3)))
    (c6 : cP ((k + 54)) 39 [V.str s4, V.str s5, V.str s6, V.str (List.take (if 90 < (↑s3.length : Int) then 90 else (↑s3.length : Int)).toNat s3)] = some (V.tup [V.str s7, vi i0]))
    (c7 : cP ((k + 54)) 34 [V.str s4, V.str s5] = some (V.bool b0))
    (c8 : (!b0) = false)
    (c9 : decide (4096 < (↑s6.length : Int)) = false)
    (c10 : decide (4112 < (↑(List.take (if 90 < (↑s3.length : Int) then 90 else (↑s3.length : Int)).toNat s3).length : Int)) = false)
    (c11 : decide ((↑(List.take (if 90 < (↑s3.length : Int) then 90 else (↑s3.length : Int)).toNat s3).length : Int) < 16) = false)
    (c12 : cP ((k + 54)) 40 [V.str s4, V.str s5, V.str s6, V.str (List.take (if 90 < (↑s3.length : Int) then 90 else (↑s3.length : Int)).toNat s3)] = some (V.agg [V.str s8, V.bool b1]))
    (c13 : cP ((k + 54)) 35 [] = some (V.bool b2))
    (c14 : b2 = true)
    (c15 : decide (s7 = s8) = true)
    (c16 : b1 = false)
    (c17 : b1 = false) :
    cP ((k + 55)) 11 [V.str s0, V.str s1, V.str s2, V.str s3] = some (V.bool (decide (i0 = 5))) :=
  byF (k := k) (d := 55) [Hn.call 13 (V.str s4), Hn.call 15 (V.str s5), Hn.br 19 true, Hn.br 23 true, Hn.call 25 (V.str s6), Hn.op 30 (V.str (List.take (if 90 < (↑s3.length : Int) then 90 else (↑s3.length : Int)).toNat s3)) [], Hn.call 36 (V.tup [V.str s7, vi i0]), Hn.call 41 (V.bool b0), Hn.br 43 false, Hn.br 48 false, Hn.br 53 false, Hn.br 57 false, Hn.call 71 (V.agg [V.str s8, V.bool b1]), Hn.call 72 (V.bool b2), Hn.br 73 true, Hn.br 79 true, Hn.br 82 false, Hn.br 88 false] (aI c0 (aI c1 (aI c2 (aI c3 (aI c4 (aI c5 (aI c6 (aI c7 (aI c8 (aI c9 (aI c10 (aI c11 (aI c12 (aI c13 (aI c14 (aI c15 (aI c16 (aI c17 trivial)))))))))))))))))) (by kernel_rfl)
theorem P11_15 (i0 : Int) (b0 b1 b2 : Bool) (s0 s1 s2 s3 s4 s5 s6 s7 s8 : List UInt8) (k : Nat)
    (c0 : cP ((k + 54)) 32 [V.str s0] = some (V.str s4))
    (c1 : cP ((k + 54)) 32 [V.str s1] = some (V.str s5))
    (c2 : decide ((↑s2.length : Int) ≤ 4096) = true)
    (c3 : decide ((↑s3.length : Int) ≤ 4112) = true)
    (c4 : cP ((k + 54)) 32 [V.str s2] = some (V.str s6))
    (c5 : SlcP false 0 (V.str s3) none (some (vi (if 90 < (↑s3.length : Int) then 90 else (↑s3.length : Int)))) none (V.str (List.take (if 90 < (↑s3.length : Int) then 90 else (↑s3.length : Int)).toNat s3)))
    (c6 : cP ((k + 54)) 39 [V.str s4, V.str s5, V.str s6, V.str (List.take (if 90 < (↑s3.length : Int) then 90 else (↑s3.length : Int)).toNat s3)] = some (V.tup [V.str s7, vi i0]))
    (c7 : cP ((k + 54)) 34 [V.str s4, V.str s5] = some (V.bool b0))
    (c8 : (!b0) = false)
    (c9 : decide (4096 < (↑s6.length : Int)) = false)
    (c10 : decide (4112 < (↑(List.take (if 90 < (↑s3.length : Int) then 90 else (↑s3.length : Int)).toNat s3).length : Int)) = false)
    (c11 : decide ((↑(List.take (if 90 < (↑s3.length : Int) then 90 else (↑s3.length : Int)).toNat s3).length : Int) < 16) = false)
    (c12 : cP ((k + 54)) 40 [V.str s4, V.str s5, V.str s6, V.str (List.take (if 90 < (↑s3.length : Int) then 90 else (↑s3.length : Int)).toNat s3)] = some (V.agg [V.str s8, V.bool b1]))
    (c13 : cP ((k + 54)) 35 [] = some (V.bool b2))
    (c14 : b2 = true)
    (c15 : decide (s7 = s8) = false) :
    cP ((k + 55)) 11 [V.str s0, V.str s1, V.str s2, V.str s3] = some (V.bool false) :=
  byF (k := k) (d := 55) [Hn.call 13 (V.str s4), Hn.call 15 (V.str s5), Hn.br 19 true, Hn.br 23 true, Hn.call 25 (V.str s6), Hn.op 30 (V.str (List.take (if 90 < (↑s3.length : Int) then 90 else (↑s3.length : Int)).toNat s3)) [], Hn.call 36 (V.tup [V.str s7, vi i0]), Hn.call 41 (V.bool b0), Hn.br 43 false, Hn.br 48 false, Hn.br 53 false, Hn.br 57 false, Hn.call 71 (V.agg [V.str s8, V.bool b1]), Hn.call 72 (V.bool b2), Hn.br 73 true, Hn.br 79 false] (aI c0 (aI c1 (aI c2 (aI c3 (aI c4 (aI c5 (aI c6 (aI c7 (aI c8 (aI c9 (aI c10 (aI c11 (aI c12 (aI c13 (aI c14 (aI c15 trivial)))))))))))))))) (by kernel_rfl)
theorem P11_16 (i0 : Int) (b0 b1 b2 : Bool) (s0 s1 s2 s3 s4 s5 s6 s7 s8 : List UInt8) (k : Nat)
    (c0 : cP ((k + 54)) 32 [V.str s0] = some (V.str s4))
    (c1 : cP ((k + 54)) 32 [V.str s1] = some (V.str s5))
    (c2 : decide ((↑s2.length : Int) ≤ 4096) = true)
    (c3 : decide ((↑s3.length : Int) ≤ 4112) = true)
    (c4 : cP ((k + 54)) 32 [V.str s2] = some (V.str s6))
    (c5 : SlcP false 0 (V.str s3) none (some (vi (if 90 < (↑s3.length : Int) then 90 else (↑s3.length : Int)))) none (V.str (List.take (if 90 < (↑s3.length : Int) then 90 else (↑s3.length : Int)).toNat s3)))
    (c6 : cP ((k + 54)) 39 [V.str s4, V.str s5, V.str s6, V.str (List.take (if 90 < (↑s3.length : Int) then 90 else (↑s3.length : Int)).toNat s3)] = some (V.tup [V.str s7, vi i0]))
    (c7 : cP ((k + 54)) 34 [V.str s4, V.str s5] = some (V.bool b0))
    (c8 : (!b0) = false)
    (c9 : decide (4096 < (↑s6.length : Int)) = false)
    (c10 : decide (4112 < (↑(List.take (if 90 < (↑s3.length : Int) then 90 else (↑s3.length : Int)).toNat s3).length : Int)) = false)
    (c11 : decide ((↑(List.take (if 90 < (↑s3.length : Int) then 90 else (↑s3.length : Int)).toNat s3).length : Int) < 16) = false)
    (c12 : cP ((k + 54)) 40 [V.str s4, V.str s5, V.str s6, V.str (List.take (if 90 < (↑s3.length : Int) then 90 else (↑s3.length : Int)).toNat s3)] = some (V.agg [V.str s8, V.bool b1]))
    (c13 : cP ((k + 54)) 35 [] = some (V.bool b2))
    (c14 : b2 = false) :
    cP ((k + 55)) 11 [V.str s0, V.str s1, V.str s2, V.str s3] = some (V.bool false) :=
  byF (k := k) (d := 55) [Hn.call 13 (V.str s4), Hn.call 15 (V.str s5), Hn.br 19 true, Hn.br 23 true, Hn.call 25 (V.str s6), Hn.op 30 (V.str (List.take (if 90 < (↑s3.length : Int) then 90 else (↑s3.length : Int)).toNat s3)) [], Hn.call 36 (V.tup [V.str s7, vi i0]), Hn.call 41 (V.bool b0), Hn.br 43 false, Hn.br 48 false, Hn.br 53 false, Hn.br 57 false, Hn.call 71 (V.agg [V.str s8, V.bool b1]), Hn.call 72 (V.bool b2), Hn.br 73 false] (aI c0 (aI c1 (aI c2 (aI c3 (aI c4 (aI c5 (aI c6 (aI c7 (aI c8 (aI c9 (aI c10 (aI c11 (aI c12 (aI c13 (aI c14 trivial))))))))))))))) (by kernel_rfl)
theorem P11_17 (i0 : Int) (b0 b1 : Bool) (s0 s1 s2 s3 s4 s5 s6 : List UInt8) (k : Nat)
    (c0 : cP ((k + 54)) 32 [V.str s0] = some (V.str s4))
    (c1 : cP ((k + 54)) 32 [V.str s1] = some (V.str s5))
    (c2 : decide ((↑s2.length : Int) ≤ 4096) = true)
    (c3 : decide ((↑s3.length : Int) ≤ 4112) = false)
    (c4 : cP ((k + 54)) 39 [V.str s4, V.str s5, V.str s2, V.str s3] = some (V.tup [V.str s6, vi i0]))
    (c5 : cP ((k + 54)) 34 [V.str s4, V.str s5] = some (V.bool b0))
    (c6 : (!b0) = true)
    (c7 : cP ((k + 54)) 35 [] = some (V.bool b1))
    (c8 : b1 = true)
    (c9 : decide (i0 = 4) = true) :
    cP ((k + 55)) 11 [V.str s0, V.str s1, V.str s2, V.str s3] = some (V.bool (decide (s6 = []))) :=
  byF (k := k) (d := 55) [Hn.call 13 (V.str s4), Hn.call 15 (V.str s5), Hn.br 19 true, Hn.br 23 false, Hn.call 36 (V.tup [V.str s6, vi i0]), Hn.call 41 (V.bool b0), Hn.br 43 true, Hn.call 58 (V.bool b1), Hn.br 59 true, Hn.br 63 true] (aI c0 (aI c1 (aI c2 (aI c3 (aI c4 (aI c5 (aI c6 (aI c7 (aI c8 (aI c9 trivial)))))))))) (by kernel_rfl)
theorem P11_18 (i0 : Int) (b0 b1 : Bool) (s0 s1 s2 s3 s4 s5 s6 : List UInt8) (k : Nat)
    (c0 : cP ((k + 54)) 32 [V.str s0] = some (V.str s4))
    (c1 : cP ((k + 54)) 32 [V.str s1] = some (V.str s5))
    (c2 : decide ((↑s2.length : Int) ≤ 4096) = true)
    (c3 : decide ((↑s3.length : Int) ≤ 4112) = false)
    (c4 : cP ((k + 54)) 39 [V.str s4, V.str s5, V.str s2, V.str s3] = some (V.tup [V.str s6, vi i0]))
    (c5 : cP ((k + 54)) 34 [V.str s4, V.str s5] = some (V.bool b0))
    (c6 : (!b0) = true)
    (c7 : cP ((k + 54)) 35 [] = some (V.bool b1))
    (c8 : b1 = true)
    (c9 : decide (i0 = 4) = false) :
    cP ((k + 55)) 11 [V.str s0, V.str s1, V.str s2, V.str s3] = some (V.bool false) :=
  byF (k := k) (d := 55) [Hn.call 13 (V.str s4), Hn.call 15 (V.str s5), Hn.br 19 true, Hn.br 23 false, Hn.call 36 (V.tup [V.str s6, vi i0]), Hn.call 41 (V.bool b0), Hn.br 43 true, Hn.call 58 (V.bool b1), Hn.br 59 true, Hn.br 63 false] (aI c0 (aI c1 (aI c2 (aI c3 (aI c4 (aI c5 (aI c6 (aI c7 (aI c8 (aI c9 trivial)))))))))) (by kernel_rfl)
theorem P11_19 (i0 : Int) (b0 b1 : Bool) (s0 s1 s2 s3 s4 s5 s6 : List UInt8) (k : Nat)
    (c0 : cP ((k + 54)) 32 [V.str s0] = some (V.str s4))
    (c1 : cP ((k + 54)) 32 [V.str s1] = some (V.str s5))
    (c2 : decide ((↑s2.length : Int) ≤ 4096) = true)
    (c3 : decide ((↑s3.length : Int) ≤ 4112) = false)
    (c4 : cP ((k + 54)) 39 [V.str s4, V.str s5, V.str s2, V.str s3] = some (V.tup [V.str s6, vi i0]))
    (c5 : cP ((k + 54)) 34 [V.str s4, V.str s5] = some (V.bool b0))
    (c6 : (!b0) = true)
    (c7 : cP ((k + 54)) 35 [] = some (V.bool b1))
    (c8 : b1 = false) :
    cP ((k + 55)) 11 [V.str s0, V.str s1, V.str s2, V.str s3] = some (V.bool false) :=
  byF (k := k) (d := 55) [Hn.call 13 (V.str s4), Hn.call 15 (V.str s5), Hn.br 19 true, Hn.br 23 false, Hn.call 36 (V.tup [V.str s6, vi i0]), Hn.call 41 (V.bool b0), Hn.br 43 true, Hn.call 58 (V.bool b1), Hn.br 59 false] (aI c0 (aI c1 (aI c2 (aI c3 (aI c4 (aI c5 (aI c6 (aI c7 (aI c8 trivial))))))))) (by kernel_rfl)
theorem P11_20 (i0 : Int) (b0 b1 : Bool) (s0 s1 s2 s3 s4 s5 s6 : List UInt8) (k : Nat)
    (c0 : cP ((k + 54)) 32 [V.str s0] = some (V.str s4))
    (c1 : cP ((k + 54)) 32 [V.str s1] = some (V.str s5))
    (c2 : decide ((↑s2.length : Int) ≤ 4096) = true)
    (c3 : decide ((↑s3.length : Int) ≤ 4112) = false)
    (c4 : cP ((k + 54)) 39 [V.str s4, V.str s5, V.str s2, V.str s3] = some (V.tup [V.str s6, vi i0]))
    (c5 : cP ((k + 54)) 34 [V.str s4, V.str s5] = some (V.bool b0))
    (c6 : (!b0) = false)
    (c7 : decide (4096 < (↑s2.length : Int)) = true)
    (c8 : cP ((k + 54)) 35 [] = some (V.bool b1))
    (c9 : b1 = true)
    (c10 : decide (i0 = 4) = true) :
    cP ((k + 55)) 11 [V.str s0, V.str s1, V.str s2, V.str s3] = some (V.bool (decide (s6 = []))) :=
  byF (k := k) (d := 55) [Hn.call 13 (V.str s4), Hn.call 15 (V.str s5), Hn.br 19 true, Hn.br 23 false, Hn.call 36 (V.tup [V.str s6, vi i0]), Hn.call 41 (V.bool b0), Hn.br 43 false, Hn.br 48 true, Hn.call 58 (V.bool b1), Hn.br 59 true, Hn.br 63 true] (aI c0 (aI c1 (aI c2 (aI c3 (aI c4 (aI c5 (aI c6 (aI c7 (aI c8 (aI c9 (aI c10 trivial))))))))))) (by kernel_rfl)
theorem P11_21 (i0 : Int) (b0 b1 : Bool) (s0 s1 s2 s3 s4 s5 s6 : List UInt8) (k : Nat)
    (c0 : cP ((k + 54)) 32 [V.str s0] = some (V.str s4))
    (c1 : cP ((k + 54)) 32 [V.str s1] = some (V.str s5))
    (c2 : decide ((↑s2.length : Int) ≤ 4096) = true)
    (c3 : decide ((↑s3.length : Int) ≤ 4112) = false)
    (c4 : cP ((k + 54)) 39 [V.str s4, V.str s5, V.str s2, V.str s3] = some (V.tup [V.str s6, vi i0]))
    (c5 : cP ((k + 54)) 34 [V.str s4, V.str s5] = some (V.bool b0))
    (c6 : (!b0) = false)
    (c7 : decide (4096 < (↑s2.length : Int)) = true)
    (c8 : cP ((k + 54)) 35 [] = some (V.bool b1))
    (c9 : b1 = true)
    (c10 : decide (i0 = 4) = false) :
    cP ((k + 55)) 11 [V.str s0, V.str s1, V.str s2, V.str s3] = some (V.bool false) :=
  byF (k := k) (d := 55) [Hn.call 13 (V.str s4), Hn.call 15 (V.str s5), Hn.br 19 true, Hn.br 23 false, Hn.call 36 (V.tup [V.str s6, vi i0]), Hn.call 41 (V.bool b0), Hn.br 43 false, Hn.br 48 true, Hn.call 58 (V.bool b1), Hn.br 59 true, Hn.br 63 false] (aI c0 (aI c1 (aI c2 (aI c3 (aI c4 (aI c5 (aI c6 (aI c7 (aI c8 (aI c9 (aI c10 trivial))))))))))) (by kernel_rfl)
theorem P11_22 (i0 : Int) (b0 b1 : Bool) (s0 s1 s2 s3 s4 s5 s6 : List UInt8) (k : Nat)
    (c0 : cP ((k + 54)) 32 [V.str s0] = some (V.str s4))
    (c1 : cP ((k + 54)) 32 [V.str s1] = some (V.str s5))
    (c2 : decide ((↑s2.length : Int) ≤ 4096) = true)
    (c3 : decide ((↑s3.length : Int) ≤ 4112) = false)
    (c4 : cP ((k + 54)) 39 [V.str s4, V.str s5, V.str s2, V.str s3] = some (V.tup [V.str s6, vi i0]))
    (c5 : cP ((k + 54)) 34 [V.str s4, V.str s5] = some (V.bool b0))
    (c6 : (!b0) = false)
    (c7 : decide (4096 < (↑s2.length : Int)) = true)
    (c8 : cP ((k + 54)) 35 [] = some (V.bool b1))
    (c9 : b1 = false) :
    cP ((k + 55)) 11 [V.str s0, V.str s1, V.str s2, V.str s3] = some (V.bool false) :=
  byF (k := k) (d := 55) [Hn.call 13 (V.str s4), Hn.call 15 (V.str s5), Hn.br 19 true, Hn.br 23 false, Hn.call 36 (V.tup [V.str s6, vi i0]), Hn.call 41 (V.bool b0), Hn.br 43 false, Hn.br 48 true, Hn.call 58 (V.bool b1), Hn.br 59 false] (aI c0 (aI c1 (aI c2 (aI c3 (aI c4 (aI c5 (aI c6 (aI c7 (aI c8 (aI c9 trivial)))))))))) (by kernel_rfl)
theorem P11_23 (i0 : Int) (b0 b1 : Bool) (s0 s1 s2 s3 s4 s5 s6 : List UInt8) (k : Nat)
    (c0 : cP ((k + 54)) 32 [V.str s0] = some (V.str s4))
    (c1 : cP ((k + 54)) 32 [V.str s1] = some (V.str s5))
    (c2 : decide ((↑s2.length : Int) ≤ 4096) = true)
    (c3 : decide ((↑s3.length : Int) ≤ 4112) = false)
    (c4 : cP ((k + 54)) 39 [V.str s4, V.str s5, V.str s2, V.str s3] = some (V.tup [V.str s6, vi i0]))
    (c5 : cP ((k + 54)) 34 [V.str s4, V.str s5] = some (V.bool b0))
    (c6 : (!b0) = false)
    (c7 : decide (4096 < (↑s2.length : Int)) = false)
    (c8 : decide (4112 < (↑s3.length : Int)) = true)
    (c9 : cP ((k + 54)) 35 [] = some (V.bool b1))
    (c10 : b1 = true)
    (c11 : decide (i0 = 4) = true) :
    cP ((k + 55)) 11 [V.str s0, V.str s1, V.str s2, V.str s3] = some (V.bool (decide (s6 = []))) :=
  byF (k := k) (d := 55) [Hn.call 13 (V.str s4), Hn.call 15 (V.str s5), Hn.br 19 true, Hn.br 23 false, Hn.call 36 (V.tup [V.str s6, vi i0]), Hn.call 41 (V.bool b0), Hn.br 43 false, Hn.br 48 false, Hn.br 53 true, Hn.call 58 (V.bool b1), Hn.br 59 true, Hn.br 63 true] (aI c0 (aI c1 (aI c2 (aI c3 (aI c4 (aI c5 (aI c6 (aI c7 (aI c8 (aI c9 (aI c10 (aI c11 trivial)))))))))))) (by kernel_rfl)
theorem P11_24 (i0 : Int) (b0 b1 : Bool) (s0 s1 s2 s3 s4 s5 s6 : List UInt8) (k : Nat)
    (c0 : cP ((k + 54)) 32 [V.str s0] = some (V.str s4))
    (c1 : cP ((k + 54)) 32 [V.str s1] = some (V.str s5))
    (c2 : decide ((↑s2.length : Int) ≤ 4096) = true)
    (c3 : decide ((↑s3.length : Int) ≤ 4112) = false)
    (c4 : cP ((k + 54)) 39 [V.str s4, V.str s5, V.str s2, V.str s3] = some (V.tup [V.str s6, vi i0]))
    (c5 : cP ((k + 54)) 34 [V.str s4, V.str s5] = some (V.bool b0))
    (c6 : (!b0) = false)
    (c7 : decide (4096 < (↑s2.length : Int)) = false)
    (c8 : decide (4112 < (↑s3.length : Int)) = true)
    (c9 : cP ((k + 54)) 35 [] = some (V.bool b1))
    (c10 : b1 = true)
    (c11 : decide (i0 = 4) = false) :
    cP ((k + 55)) 11 [V.str s0, V.str s1, V.str s2, V.str s3] = some (V.bool false) :=
  byF (k := k) (d := 55) [Hn.call 13 (V.str s4), Hn.call 15 (V.str s5), Hn.br 19 true, Hn.br 23 false, Hn.call 36 (V.tup [V.str s6, vi i0]), Hn.call 41 (V.bool b0), Hn.br 43 false, Hn.br 48 false, Hn.br 53 true, Hn.call 58 (V.bool b1), Hn.br 59 true, Hn.br 63 false] (aI c0 (aI c1 (aI c2 (aI c3 (aI c4 (aI c5 (aI c6 (aI c7 (aI c8 (aI c9 (aI c10 (aI c11 trivial)))))))))))) (by kernel_rfl)
theorem P11_25 (i0 : Int) (b0 b1 : Bool) (s0 s1 s2 s3 s4 s5 s6 : List UInt8) (k : Nat)
    (c0 : cP ((k + 54)) 32 [V.str s0] = some (V.str s4))
    (c1 : cP ((k + 54)) 32 [V.str s1] = some (V.str s5))
    (c2 : decide ((↑s2.length : Int) ≤ 4096) = true)
    (c3 : decide ((↑s3.length : Int) ≤ 4112) = false)
    (c4 : cP ((k + 54)) 39 [V.str s4, V.str s5, V.str s2, V.str s3] = some (V.tup [V.str s6, vi i0]))
    (c5 : cP ((k + 54)) 34 [V.str s4, V.str s5] = some (V.bool b0))
    (c6 : (!b0) = false)
    (c7 : decide (4096 < (↑s2.length : Int)) = false)
    (c8 : decide (4112 < (↑s3.length : Int)) = true)
    (c9 : cP ((k + 54)) 35 [] = some (V.bool b1))
    (c10 : b1 = false) :
    cP ((k + 55)) 11 [V.str s0, V.str s1, V.str s2, V.str s3] = some (V.bool false) :=
  byF (k := k) (d := 55) [Hn.call 13 (V.str s4), Hn.call 15 (V.str s5), Hn.br 19 true, Hn.br 23 false, Hn.call 36 (V.tup [V.str s6, vi i0]), Hn.call 41 (V.bool b0), Hn.br 43 false, Hn.br 48 false, Hn.br 53 true, Hn.call 58 (V.bool b1), Hn.br 59 false] (aI c0 (aI c1 (aI c2 (aI c3 (aI c4 (aI c5 (aI c6 (aI c7 (aI c8 (aI c9 (aI c10 trivial))))))))))) (by kernel_rfl)
theorem P11_26 (i0 : Int) (b0 b1 : Bool) (s0 s1 s2 s3 s4 s5 s6 : List UInt8) (k : Nat)
    (c0 : cP ((k + 54)) 32 [V.str s0] = some (V.str s4))
    (c1 : cP ((k + 54)) 32 [V.str s1] = some (V.str s5))
    (c2 : decide ((↑s2.length : Int) ≤ 4096) = true)
    (c3 : decide ((↑s3.length : Int) ≤ 4112) = false)
    (c4 : cP ((k + 54)) 39 [V.str s4, V.str s5, V.str s2, V.str s3] = some (V.tup [V.str s6, vi i0]))
    (c5 : cP ((k + 54)) 34 [V.str s4, V.str s5] = some (V.bool b0))
    (c6 : (!b0) = false)
    (c7 : decide (4096 < (↑s2.length : Int)) = false)
    (c8 : decide (4112 < (↑s3.length : Int)) = false)
    (c9 : decide ((↑s3.length : Int) < 16) = true)
    (c10 : cP ((k + 54)) 35 [] = some (V.bool b1))
    (c11 : b1 = true)
    (c12 : decide (i0 = 4) = true) :
    cP ((k + 55)) 11 [V.str s0, V.str s1, V.str s2, V.str s3] = some (V.bool (decide (s6 = []))) :=
  byF (k := k) (d := 55) [Hn.call 13 (V.str s4), Hn.call 15 (V.str s5), Hn.br 19 true, Hn.br 23 false, Hn.call 36 (V.tup [V.str s6, vi i0]), Hn.call 41 (V.bool b0), Hn.br 43 false, Hn.br 48 false, Hn.br 53 false, Hn.br 57 true, Hn.call 58 (V.bool b1), Hn.br 59 true, Hn.br 63 true] (aI c0 (aI c1 (aI c2 (aI c3 (aI c4 (aI c5 (aI c6 (aI c7 (aI c8 (aI c9 (aI c10 (aI c11 (aI c12 trivial))))))))))))) (by kernel_rfl)
theorem P11_27 (i0 : Int) (b0 b1 : Bool) (s0 s1 s2 s3 s4 s5 s6 : List UInt8) (k : Nat)
    (c0 : cP ((k + 54)) 32 [V.str s0] = some (V.str s4))
    (c1 : cP ((k + 54)) 32 [V.str s1] = some (V.str s5))
    (c2 : decide ((↑s2.length : Int) ≤ 4096) = true)
    (c3 : decide ((↑s3.length : Int) ≤ 4112) = false)
    (c4 : cP ((k + 54)) 39 [V.str s4, V.str s5, V.str s2, V.str s3] = some (V.tup [V.str s6, vi i0]))
    (c5 : cP ((k + 54)) 34 [V.str s4, V.str s5] = some (V.bool b0))
    (c6 : (!b0) = false)
    (c7 : decide (4096 < (↑s2.length : Int)) = false)
    (c8 : decide (4112 < (↑s3.length : Int)) = false)
    (c9 : decide ((↑s3.length : Int) < 16) = true)
    (c10 : cP ((k + 54)) 35 [] = some (V.bool b1))
    (c11 : b1 = true)
    (c12 : decide (i0 = 4) = false) :
    cP ((k + 55)) 11 [V.str s0, V.str s1, V.str s2, V.str s3] = some (V.bool false) :=
  byF (k := k) (d := 55) [Hn.call 13 (V.str s4), Hn.call 15 (V.str s5), Hn.br 19 true, Hn.br 23 false, Hn.call 36 (V.tup [V.str s6, vi i0]), Hn.call 41 (V.bool b0), Hn.br 43 false, Hn.br 48 false, Hn.br 53 false, Hn.br 57 true, Hn.call 58 (V.bool b1), Hn.br 59 true, Hn.br 63 false] (aI c0 (aI c1 (aI c2 (aI c3 (aI c4 (aI c5 (aI c6 (aI c7 (aI c8 (aI c9 (aI c10 (aI c11 (aI c12 trivial))))))))))))) (by kernel_rfl)
theorem P11_28 (i0 : Int) (b0 b1 : Bool) (s0 s1 s2 s3 s4 s5 s6 : List UInt8) (k : Nat)
    (c0 : cP ((k + 54)) 32 [V.str s0] = some (V.str s4))
    (c1 : cP ((k + 54)) 32 [V.str s1] = some (V.str s5))
    (c2 : decide ((↑s2.length : Int) ≤ 4096) = true)
    (c3 : decide ((↑s3.length : Int) ≤ 4112) = false)
    (c4 : cP ((k + 54)) 39 [V.str s4, V.str s5, V.str s2, V.str s3] = some (V.tup [V.str s6, vi i0]))
    (c5 : cP ((k + 54)) 34 [V.str s4, V.str s5] = some (V.bool b0))
    (c6 : (!b0) = false)
    (c7 : decide (4096 < (↑s2.length : Int)) = false)
    (c8 : decide (4112 < (↑s3.length : Int)) = false)
    (c9 : decide ((↑s3.length : Int) < 16) = true)
    (c10 : cP ((k + 54)) 35 [] = some (V.bool b1))
    (c11 : b1 = false) :
    cP ((k + 55)) 11 [V.str s0, V.str s1, V.str s2, V.str s3] = some (V.bool false) :=
  byF (k := k) (d := 55) [Hn.call 13 (V.str s4), Hn.call 15 (V.str s5), Hn.br 19 true, Hn.br 23 false, Hn.call 36 (V.tup [V.str s6, vi i0]), Hn.call 41 (V.bool b0), Hn.br 43 false, Hn.br 48 false, Hn.br 53 false, Hn.br 57 true, Hn.call 58 (V.bool b1), Hn.br 59 false] (aI c0 (aI c1 (aI c2 (aI c3 (aI c4 (aI c5 (aI c6 (aI c7 (aI c8 (aI c9 (aI c10 (aI c11 trivial)))))))))))) (by kernel_rfl)
theorem P11_29 (i0 : Int) (b0 b1 b2 : Bool) (s0 s1 s2 s3 s4 s5 s6 s7 : List UInt8) (k : Nat)
    (c0 : cP ((k + 54)) 32 [V.str s0] = some (V.str s4))
    (c1 : cP ((k + 54)) 32 [V.str s1] = some (V.str s5))
    (c2 : decide ((↑s2.length : Int) ≤ 4096) = true)
    (c3 : decide ((↑s3.length : Int) ≤ 4112) = false)
    (c4 : cP ((k + 54)) 39 [V.str s4, V.str s5, V.str s2, V.str s3] = some (V.tup [V.str s6, vi i0]))
    (c5 : cP ((k + 54)) 34 [V.str s4, V.str s5] = some (V.bool b0))
    (c6 : (!b0) = false)
    (c7 : decide (4096 < (↑s2.length : Int)) = false)
    (c8 : decide (4112 < (↑s3.length : Int)) = false)
    (c9 : decide ((↑s3.length : Int) < 16) = false)
    (c10 : cP ((k + 54)) 40 [V.str s4, V.str s5, V.str s2, V.str s3] = some (V.agg [V.str s7, V.bool b1]))
    (c11 : cP ((k + 54)) 35 [] = some (V.bool b2))
    (c12 : b2 = true)
    (c13 : decide (s6 = s7) = true)
    (c14 : b1 = true)
    (c15 : decide (i0 = 0) = true) :
    cP ((k + 55)) 11 [V.str s0, V.str s1, V.str s2, V.str s3] = some (V.bool true) :=
  byF (k := k) (d := 55) [Hn.call 13 (V.str s4), Hn.call 15 (V.str s5), Hn.br 19 true, Hn.br 23 false, Hn.call 36 (V.tup [V.str s6, vi i0]), Hn.call 41 (V.bool b0), Hn.br 43 false, Hn.br 48 false, Hn.br 53 false, Hn.br 57 false, Hn.call 71 (V.agg [V.str s7, V.bool b1]), Hn.call 72 (V.bool b2), Hn.br 73 true, Hn.br 79 true, Hn.br 82 true, Hn.br 86 true] (aI c0 (aI c1 (aI c2 (aI c3 (aI c4 (aI c5 (aI c6 (aI c7 (aI c8 (aI c9 (aI c10 (aI c11 (aI c12 (aI c13 (aI c14 (aI c15 trivial)))))))))))))))) (by kernel_rfl)
theorem P11_30 (i0 : Int) (b0 b1 b2 : Bool) (s0 s1 s2 s3 s4 s5 s6 s7 : List UInt8) (k : Nat)
    (c0 : cP ((k + 54)) 32 [V.str s0] = some (V.str s4))
    (c1 : cP ((k + 54)) 32 [V.str s1] = some (V.str s5))
    (c2 : decide ((↑s2.length : Int) ≤ 4096) = true)
    (c3 : decide ((↑s3.length : Int) ≤ 4112) = false)
    (c4 : cP ((k + 54)) 39 [V.str s4, V.str s5, V.str s2, V.str s3] = some (V.tup [V.str s6, vi i0]))
    (c5 : cP ((k + 54)) 34 [V.str s4, V.str s5] = some (V.bool b0))
    (c6 : (!b0) = false)
    (c7 : decide (4096 < (↑s2.length : Int)) = false)
    (c8 : decide (4112 < (↑s3.length : Int)) = false)
    (c9 : decide ((↑s3.length : Int) < 16) = false)
    (c10 : cP ((k + 54)) 40 [V.str s4, V.str s5, V.str s2, V.str s3] = some (V.agg [V.str s7, V.bool b1]))
    (c11 : cP ((k + 54)) 35 [] = some (V.bool b2))
    (c12 : b2 = true)
    (c13 : decide (s6 = s7) = true)
    (c14 : b1 = true)
    (c15 : decide (i0 = 0) = false)
    (c16 : b1 = true) :
    cP ((k + 55)) 11 [V.str s0, V.str s1, V.str s2, V.str s3] = some (V.bool false) :=
  byF (k := k) (d := 55) [Hn.call 13 (V.str s4), Hn.call 15 (V.str s5), Hn.br 19 true, Hn.br 23 false, Hn.call 36 (V.tup [V.str s6, vi i0]), Hn.call 41 (V.bool b0), Hn.br 43 false, Hn.br 48 false, Hn.br 53 false, Hn.br 57 false, Hn.call 71 (V.agg [V.str s7, V.bool b1]), Hn.call 72 (V.bool b2), Hn.br 73 true, Hn.br 79 true, Hn.br 82 true, Hn.br 86 false, Hn.br 88 true] (aI c0 (aI c1 (aI c2 (aI c3 (aI c4 (aI c5 (aI c6 (aI c7 (aI c8 (aI c9 (aI c10 (aI c11 (aI c12 (aI c13 (aI c14 (aI c15 (aI c16 trivial))))))))))))))))) (by kernel_rfl)
theorem P11_31 (i0 : Int) (b0 b1 b2 : Bool) (s0 s1 s2 s3 s4 s5 s6 s7 : List UInt8) (k : Nat)
    (c0 : cP ((k + 54)) 32 [V.str s0] = some (V.str s4))
    (c1 : cP ((k + 54)) 32 [V.str s1] = some (V.str s5))
    (c2 : decide ((↑s2.length : Int) ≤ 4096) = true)
    (c3 : decide ((↑s3.length : Int) ≤ 4112) = false)
    (c4 : cP ((k + 54)) 39 [V.str s4, V.str s5, V.str s2, V.str s3] = some (V.tup [V.str s6, vi i0]))
    (c5 : cP ((k + 54)) 34 [V.str s4, V.str s5] = some (V.bool b0))
    (c6 : (!b0) = false)
    (c7 : decide (4096 < (↑s2.length : Int)) = false)
    (c8 : decide (4112 < (↑s3.length : Int)) = false)
    (c9 : decide ((↑s3.length : Int) < 16) = false)
    (c10 : cP ((k + 54)) 40 [V.str s4, V.str s5, V.str s2, V.str s3] = some (V.agg [V.str s7, V.bool b1]))
    (c11 : cP ((k + 54)) 35 [] = some (V.bool b2))
    (c12 : b2 = true)
    (c13 : decide (s6 = s7) = true)
    (c14 : b1 = false)
    (c15 : b1 = false) :
    cP ((k + 55)) 11 [V.str s0, V.str s1, V.str s2, V.str s3] = some (V.bool (decide (i0 = 5))) :=
  byF (k := k) (d := 55) [Hn.call 13 (V.str s4), Hn.call 15 (V.str s5), Hn.br 19 true, Hn.br 23 false, Hn.call 36 (V.tup [V.str s6, vi i0]), Hn.call 41 (V.bool b0), Hn.br 43 false, Hn.br 48 false, Hn.br 53 false, Hn.br 57 false, Hn.call 71 (V.agg [V.str s7, V.bool b1]), Hn.call 72 (V.bool b2), Hn.br 73 true, Hn.br 79 true, Hn.br 82 false, Hn.br 88 false] (aI c0 (aI c1 (aI c2 (aI c3 (aI c4 (aI c5 (aI c6 (aI c7 (aI c8 (aI c9 (aI c10 (aI c11 (aI c12 (aI c13 (aI c14 (aI c15 trivial)))))))))))))))) (by kernel_rfl)
theorem P11_32 (i0 : Int) (b0 b1 b2 : Bool) (s0 s1 s2 s3 s4 s5 s6 s7 : List UInt8) (k : Nat)
    (c0 : cP ((k + 54)) 32 [V.str s0] = some (V.str s4))
    (c1 : cP ((k + 54)) 32 [V.str s1] = some (V.str s5))
    (c2 : decide ((↑s2.length : Int) ≤ 4096) = true)
    (c3 : decide ((↑s3.length : Int) ≤ 4112) = false)
    (c4 : cP ((k + 54)) 39 [V.str s4, V.str s5, V.str s2, V.str s3] = some (V.tup [V.str s6, vi i0]))
    (c5 : cP ((k + 54)) 34 [V.str s4, V.str s5] = some (V.bool b0))
    (c6 : (!b0) = false)
    (c7 : decide (4096 < (↑s2.length : Int)) = false)
    (c8 : decide (4112 < (↑s3.length : Int)) = false)
    (c9 : decide ((↑s3.length : Int) < 16) = false)
    (c10 : cP ((k + 54)) 40 [V.str s4, V.str s5, V.str s2, V.str s3] = some (V.agg [V.str s7, V.bool b1]))
    (c11 : cP ((k + 54)) 35 [] = some (V.bool b2))
    (c12 : b2 = true)
    (c13 : decide (s6 = s7) = false) :
    cP ((k + 55)) 11 [V.str s0, V.str s1, V.str s2, V.str s3] = some (V.bool false) :=
  byF (k := k) (d := 55) [Hn.call 13 (V.str s4), Hn.call 15 (V.str s5), Hn.br 19 true, Hn.br 23 false, Hn.call 36 (V.tup [V.str s6, vi i0]), Hn.call 41 (V.bool b0), Hn.br 43 false, Hn.br 48 false, Hn.br 53 false, Hn.br 57 false, Hn.call 71 (V.agg [V.str s7, V.bool b1]), Hn.call 72 (V.bool b2), Hn.br 73 true, Hn.br 79 false] (aI c0 (aI c1 (aI c2 (aI c3 (aI c4 (aI c5 (aI c6 (aI c7 (aI c8 (aI c9 (aI c10 (aI c11 (aI c12 (aI c13 trivial)))))))))))))) (by kernel_rfl)
theorem P11_33 (i0 : Int) (b0 b1 b2 : Bool) (s0 s1 s2 s3 s4 s5 s6 s7 : List UInt8) (k : Nat)
    (c0 : cP ((k + 54)) 32 [V.str s0] = some (V.str s4))
    (c1 : cP ((k + 54)) 32 [V.str s1] = some (V.str s5))
    (c2 : decide ((↑s2.length : Int) ≤ 4096) = true)
    (c3 : decide ((↑s3.length : Int) ≤ 4112) = false)
    (c4 : cP ((k + 54)) 39 [V.str s4, V.str s5, V.str s2, V.str s3] = some (V.tup [V.str s6, vi i0]))
    (c5 : cP ((k + 54)) 34 [V.str s4, V.str s5] = some (V.bool b0))
    (c6 : (!b0) = false)
    (c7 : decide (4096 < (↑s2.length : Int)) = false)
    (c8 : decide (4112 < (↑s3.length : Int)) = false)
    (c9 : decide ((↑s3.length : Int) < 16) = false)
    (c10 : cP ((k + 54)) 40 [V.str s4, V.str s5, V.str s2, V.str s3] = some (V.agg [V.str s7, V.bool b1]))
    (c11 : cP ((k + 54)) 35 [] = some (V.bool b2))
    (c12 : b2 = false) :
    cP ((k + 55)) 11 [V.str s0, V.str s1, V.str s2, V.str s3] = some (V.bool false) :=
  byF (k := k) (d := 55) [Hn.call 13 (V.str s4), Hn.call 15 (V.str s5), Hn.br 19 true, Hn.br 23 false, Hn.call 36 (V.tup [V.str s6, vi i0]), Hn.call 41 (V.bool b0), Hn.br 43 false, Hn.br 48 false, Hn.br 53 false, Hn.br 57 false, Hn.call 71 (V.agg [V.str s7, V.bool b1]), Hn.call 72 (V.bool b2), Hn.br 73 false] (aI c0 (aI c1 (aI c2 (aI c3 (aI c4 (aI c5 (aI c6 (aI c7 (aI c8 (aI c9 (aI c10 (aI c11 (aI c12 trivial))))))))))))) (by kernel_rfl)
theorem P11_34 (i0 : Int) (b0 b1 : Bool) (s0 s1 s2 s3 s4 s5 s6 : List UInt8) (k : Nat)
    (c0 : cP ((k + 54)) 32 [V.str s0] = some (V.str s4))
    (c1 : cP ((k + 54)) 32 [V.str s1] = some (V.str s5))
    (c2 : decide ((↑s2.length : Int) ≤ 4096) = false)
    (c3 : cP ((k + 54)) 39 [V.str s4, V.str s5, V.str s2, V.str s3] = some (V.tup [V.str s6, vi i0]))
    (c4 : cP ((k + 54)) 34 [V.str s4, V.str s5] = some (V.bool b0))
    (c5 : (!b0) = true)
    (c6 : cP ((k + 54)) 35 [] = some (V.bool b1))
    (c7 : b1 = true)
    (c8 : decide (i0 = 4) = true) :
    cP ((k + 55)) 11 [V.str s0, V.str s1, V.str s2, V.str s3] = some (V.bool (decide (s6 = []))) :=
  byF (k := k) (d := 55) [Hn.call 13 (V.str s4), Hn.call 15 (V.str s5), Hn.br 19 false, Hn.call 36 (V.tup [V.str s6, vi i0]), Hn.call 41 (V.bool b0), Hn.br 43 true, Hn.call 58 (V.bool b1), Hn.br 59 true, Hn.br 63 true] (aI c0 (aI c1 (aI c2 (aI c3 (aI c4 (aI c5 (aI c6 (aI c7 (aI c8 trivial))))))))) (by kernel_rfl)
theorem P11_35 (i0 : Int) (b0 b1 : Bool) (s0 s1 s2 s3 s4 s5 s6 : List UInt8) (k : Nat)
    (c0 : cP ((k + 54)) 32 [V.str s0] = some (V.str s4))
    (c1 : cP ((k + 54)) 32 [V.str s1] = some (V.str s5))
    (c2 : decide ((↑s2.length : Int) ≤ 4096) = false)
    (c3 : cP ((k + 54)) 39 [V.str s4, V.str s5, V.str s2, V.str s3] = some (V.tup [V.str s6, vi i0]))
    (c4 : cP ((k + 54)) 34 [V.str s4, V.str s5] = some (V.bool b0))
    (c5 : (!b0) = true)
    (c6 : cP ((k + 54)) 35 [] = some (V.bool b1))
    (c7 : b1 = true)
    (c8 : decide (i0 = 4) = false) :
    cP ((k + 55)) 11 [V.str s0, V.str s1, V.str s2, V.str s3] = some (V.bool false) :=
  byF (k := k) (d := 55) [Hn.call 13 (V.str s4), Hn.call 15 (V.str s5), Hn.br 19 false, Hn.call 36 (V.tup [V.str s6, vi i0]), Hn.call 41 (V.bool b0), Hn.br 43 true, Hn.call 58 (V.bool b1), Hn.br 59 true, Hn.br 63 false] (aI c0 (aI c1 (aI c2 (aI c3 (aI c4 (aI c5 (aI c6 (aI c7 (aI c8 trivial))))))))) (by kernel_rfl)
theorem P11_36 (i0 : Int) (b0 b1 : Bool) (s0 s1 s2 s3 s4 s5 s6 : List UInt8) (k : Nat)
    (c0 : cP ((k + 54)) 32 [V.str s0] = some (V.str s4))
    (c1 : cP ((k + 54)) 32 [V.str s1] = some (V.str s5))
    (c2 : decide ((↑s2.length : Int) ≤ 4096) = false)
    (c3 : cP ((k + 54)) 39 [V.str s4, V.str s5, V.str s2, V.str s3] = some (V.tup [V.str s6, vi i0]))
    (c4 : cP ((k + 54)) 34 [V.str s4, V.str s5] = some (V.bool b0))
    (c5 : (!b0) = true)
    (c6 : cP ((k + 54)) 35 [] = some (V.bool b1))
    (c7 : b1 = false) :
    cP ((k + 55)) 11 [V.str s0, V.str s1, V.str s2, V.str s3] = some (V.bool false) :=
  byF (k := k) (d := 55) [Hn.call 13 (V.str s4), Hn.call 15 (V.str s5), Hn.br 19 false, Hn.call 36 (V.tup [V.str s6, vi i0]), Hn.call 41 (V.bool b0), Hn.br 43 true, Hn.call 58 (V.bool b1), Hn.br 59 false] (aI c0 (aI c1 (aI c2 (aI c3 (aI c4 (aI c5 (aI c6 (aI c7 trivial)))))))) (by kernel_rfl)
theorem P11_37 (i0 : Int) (b0 b1 : Bool) (s0 s1 s2 s3 s4 s5 s6 : List UInt8) (k : Nat)
    (c0 : cP ((k + 54)) 32 [V.str s0] = some (V.str s4))
    (c1 : cP ((k + 54)) 32 [V.str s1] = some (V.str s5))
    (c2 : decide ((↑s2.length : Int) ≤ 4096) = false)
    (c3 : cP ((k + 54)) 39 [V.str s4, V.str s5, V.str s2, V.str s3] = some (V.tup [V.str s6, vi i0]))
    (c4 : cP ((k + 54)) 34 [V.str s4, V.str s5] = some (V.bool b0))
    (c5 : (!b0) = false)
    (c6 : decide (4096 < (↑s2.length : Int)) = true)
    (c7 : cP ((k + 54)) 35 [] = some (V.bool b1))
    (c8 : b1 = true)
    (c9 : decide (i0 = 4) = true) :
    cP ((k + 55)) 11 [V.str s0, V.str s1, V.str s2, V.str s3] = some (V.bool (decide (s6 = []))) :=
  byF (k := k) (d := 55) [Hn.call 13 (V.str s4), Hn.call 15 (V.str s5), Hn.br 19 false, Hn.call 36 (V.tup [V.str s6, vi i0]), Hn.call 41 (V.bool b0), Hn.br 43 false, Hn.br 48 true, Hn.call 58 (V.bool b1), Hn.br 59 true, Hn.br 63 true] (aI c0 (aI c1 (aI c2 (aI c3 (aI c4 (aI c5 (aI c6 (aI c7 (aI c8 (aI c9 trivial)))))))))) (by kernel_rfl)
theorem P11_38 (i0 : Int) (b0 b1 : Bool) (s0 s1 s2 s3 s4 s5 s6 : List UInt8) (k : Nat)
    (c0 : cP ((k + 54)) 32 [V.str s0] = some (V.str s4))
    (c1 : cP ((k + 54)) 32 [V.str s1] = some (V.str s5))
    (c2 : decide ((↑s2.length : Int) ≤ 4096) = false)
    (c3 : cP ((k + 54)) 39 [V.str s4, V.str s5, V.str s2, V.str s3] = some (V.tup [V.str s6, vi i0]))
    (c4 : cP ((k + 54)) 34 [V.str s4, V.str s5] = some (V.bool b0))
    (c5 : (!b0) = false)
    (c6 : decide (4096 < (↑s2.length : Int)) = true)
    (c7 : cP ((k + 54)) 35 [] = some (V.bool b1))
    (c8 : b1 = true)
    (c9 : decide (i0 = 4) = false) :
    cP ((k + 55)) 11 [V.str s0, V.str s1, V.str s2, V.str s3] = some (V.bool false) :=
  byF (k := k) (d := 55) [Hn.call 13 (V.str s4), Hn.call 15 (V.str s5), Hn.br 19 false, Hn.call 36 (V.tup [V.str s6, vi i0]), Hn.call 41 (V.bool b0), Hn.br 43 false, Hn.br 48 true, Hn.call 58 (V.bool b1), Hn.br 59 true, Hn.br 63 false] (aI c0 (aI c1 (aI c2 (aI c3 (aI c4 (aI c5 (aI c6 (aI c7 (aI c8 (aI c9 trivial)))))))))) (by kernel_rfl)
theorem P11_39 (i0 : Int) (b0 b1 : Bool) (s0 s1 s2 s3 s4 s5 s6 : List UInt8) (k : Nat)
    (c0 : cP ((k + 54)) 32 [V.str s0] = some (V.str s4))
    (c1 : cP ((k + 54)) 32 [V.str s1] = some (V.str s5))
    (c2 : decide ((↑s2.length : Int) ≤ 4096) = false)
    (c3 : cP ((k + 54)) 39 [V.str s4, V.str s5, V.str s2, V.str s3] = some (V.tup [V.str s6, vi i0]))
    (c4 : cP ((k + 54)) 34 [V.str s4, V.str s5] = some (V.bool b0))
    (c5 : (!b0) = false)
    (c6 : decide (4096 < (↑s2.length : Int)) = true)
    (c7 : cP ((k + 54)) 35 [] = some (V.bool b1))
    (c8 : b1 = false) :
    cP ((k + 55)) 11 [V.str s0, V.str s1, V.str s2, V.str s3] = some (V.bool false) :=
  byF (k := k) (d := 55) [Hn.call 13 (V.str s4), Hn.call 15 (V.str s5), Hn.br 19 false, Hn.call 36 (V.tup [V.str s6, vi i0]), Hn.call 41 (V.bool b0), Hn.br 43 false, Hn.br 48 true, Hn.call 58 (V.bool b1), Hn.br 59 false] (aI c0 (aI c1 (aI c2 (aI c3 (aI c4 (aI c5 (aI c6 (aI c7 (aI c8 trivial))))))))) (by kernel_rfl)
theorem P11_40 (i0 : Int) (b0 b1 : Bool) (s0 s1 s2 s3 s4 s5 s6 : List UInt8) (k : Nat)
    (c0 : cP ((k + 54)) 32 [V.str s0] = some (V.str s4))
    (c1 : cP ((k + 54)) 32 [V.str s1] = some (V.str s5))
    (c2 : decide ((↑s2.length : Int) ≤ 4096) = false)
    (c3 : cP ((k + 54)) 39 [V.str s4, V.str s5, V.str s2, V.str s3] = some (V.tup [V.str s6, vi i0]))
    (c4 : cP ((k + 54)) 34 [V.str s4, V.str s5] = some (V.bool b0))
    (c5 : (!b0) = false)
    (c6 : decide (4096 < (↑s2.length : Int)) = false)
    (c7 : decide (4112 < (↑s3.length : Int)) = true)
    (c8 : cP ((k + 54)) 35 [] = some (V.bool b1))
    (c9 : b1 = true)
    (c10 : decide (i0 = 4) = true) :
    cP ((k + 55)) 11 [V.str s0, V.str s1, V.str s2, V.str s3] = some (V.bool (decide (s6 = []))) :=
  byF (k := k) (d := 55) [Hn.call 13 (V.str s4), Hn.call 15 (V.str s5), Hn.br 19 false, Hn.call 36 (V.tup [V.str s6, vi i0]), Hn.call 41 (V.bool b0), Hn.br 43 false, Hn.br 48 false, Hn.br 53 true, Hn.call 58 (V.bool b1), Hn.br 59 true, Hn.br 63 true] (aI c0 (aI c1 (aI c2 (aI c3 (aI c4 (aI c5 (aI c6 (aI c7 (aI c8 (aI c9 (aI c10 trivial))))))))))) (by kernel_rfl)
theorem P11_41 (i0 : Int) (b0 b1 : Bool) (s0 s1 s2 s3 s4 s5 s6 : List UInt8) (k : Nat)
    (c0 : cP ((k + 54)) 32 [V.str s0] = some (V.str s4))
    (c1 : cP ((k + 54)) 32 [V.str s1] = some (V.str s5))
    (c2 : decide ((↑s2.length : Int) ≤ 4096) = false)
    (c3 : cP ((k + 54)) 39 [V.str s4, V.str s5, V.str s2, V.str s3] = some (V.tup [V.str s6, vi i0]))
    (c4 : cP ((k + 54)) 34 [V.str s4, V.str s5] = some (V.bool b0))
    (c5 : (!b0) = false)
    (c6 : decide (4096 < (↑s2.length : Int)) = false)
    (c7 : decide (4112 < (↑s3.length : Int)) = true)
    (c8 : cP ((k + 54)) 35 [] = some (V.bool b1))
    (c9 : b1 = true)
    (c10 : decide (i0 = 4) = false) :
    cP ((k + 55)) 11 [V.str s0, V.str s1, V.str s2, V.str s3] = some (V.bool false) :=
  byF (k := k) (d := 55) [Hn.call 13 (V.str s4), Hn.call 15 (V.str s5), Hn.br 19 false, Hn.call 36 (V.tup [V.str s6, vi i0]), Hn.call 41 (V.bool b0), Hn.br 43 false, Hn.br 48 false, Hn.br 53 true, Hn.call 58 (V.bool b1), Hn.br 59 true, Hn.br 63 false] (aI c0 (aI c1 (aI c2 (aI c3 (aI c4 (aI c5 (aI c6 (aI c7 (aI c8 (aI c9 (aI c10 trivial))))))))))) (by kernel_rfl)
theorem P11_42 (i0 : Int) (b0 b1 : Bool) (s0 s1 s2 s3 s4 s5 s6 : List UInt8) (k : Nat)
    (c0 : cP ((k + 54)) 32 [V.str s0] = some (V.str s4))
    (c1 : cP ((k + 54)) 32 [V.str s1] = some (V.str s5))
    (c2 : decide ((↑s2.length : Int) ≤ 4096) = false)
    (c3 : cP ((k + 54)) 39 [V.str s4, V.str s5, V.str s2, V.str s3] = some (V.tup [V.str s6, vi i0]))
    (c4 : cP ((k + 54)) 34 [V.str s4, V.str s5] = some (V.bool b0))
    (c5 : (!b0) = false)
    (c6 : decide (4096 < (↑s2.length : Int)) = false)
    (c7 : decide (4112 < (↑s3.length : Int)) = true)
    (c8 : cP ((k + 54)) 35 [] = some (V.bool b1))
    (c9 : b1 = false) :
    cP ((k + 55)) 11 [V.str s0, V.str s1, V.str s2, V.str s3] = some (V.bool false) :=
  byF (k := k) (d := 55) [Hn.call 13 (V.str s4), Hn.call 15 (V.str s5), Hn.br 19 false, Hn.call 36 (V.tup [V.str s6, vi i0]), Hn.call 41 (V.bool b0), Hn.br 43 false, Hn.br 48 false, Hn.br 53 true, Hn.call 58 (V.bool b1), Hn.br 59 false] (aI c0 (aI c1 (aI c2 (aI c3 (aI c4 (aI c5 (aI c6 (aI c7 (aI c8 (aI c9 trivial)))))))))) (by kernel_rfl)
theorem P11_43 (i0 : Int) (b0 b1 : Bool) (s0 s1 s2 s3 s4 s5 s6 : List UInt8) (k : Nat)
    (c0 : cP ((k + 54)) 32 [V.str s0] = some (V.str s4))
    (c1 : cP ((k + 54)) 32 [V.str s1] = some (V.str s5))
    (c2 : decide ((↑s2.length : Int) ≤ 4096) = false)
    (c3 : cP ((k + 54)) 39 [V.str s4, V.str s5, V.str s2, V.str s3] = some (V.tup [V.str s6, vi i0]))
    (c4 : cP ((k + 54)) 34 [V.str s4, V.str s5] = some (V.bool b0))
    (c5 : (!b0) = false)
    (c6 : decide (4096 < (↑s2.length : Int)) = false)
    (c7 : decide (4112 < (↑s3.length : Int)) = false)
    (c8 : decide ((↑s3.length : Int) < 16) = true)
    (c9 : cP ((k + 54)) 35 [] = some (V.bool b1))
    (c10 : b1 = true)
    (c11 : decide (i0 = 4) = true) :
    cP ((k + 55)) 11 [V.str s0, V.str s1, V.str s2, V.str s3] = some (V.bool (decide (s6 = []))) :=
  byF (k := k) (d := 55) [Hn.call 13 (V.str s4), Hn.call 15 (V.str s5), Hn.br 19 false, Hn.call 36 (V.tup [V.str s6, vi i0]), Hn.call 41 (V.bool b0), Hn.br 43 false, Hn.br 48 false, Hn.br 53 false, Hn.br 57 true, Hn.call 58 (V.bool b1), Hn.br 59 true, Hn.br 63 true] (aI c0 (aI c1 (aI c2 (aI c3 (aI c4 (aI c5 (aI c6 (aI c7 (aI c8 (aI c9 (aI c10 (aI c11 trivial)))))))))))) (by kernel_rfl)
theorem P11_44 (i0 : Int) (b0 b1 : Bool) (s0 s1 s2 s3 s4 s5 s6 : List UInt8) (k : Nat)
    (c0 : cP ((k + 54)) 32 [V.str s0] = some (V.str s4))
    (c1 : cP ((k + 54)) 32 [V.str s1] = some (V.str s5))
    (c2 : decide ((↑s2.length : Int) ≤ 4096) = false)
    (c3 : cP ((k + 54)) 39 [V.str s4, V.str s5, V.str s2, V.str s3] = some (V.tup [V.str s6, vi i0]))
    (c4 : cP ((k + 54)) 34 [V.str s4, V.str s5] = some (V.bool b0))
    (c5 : (!b0) = false)
    (c6 : decide (4096 < (↑s2.length : Int)) = false)
    (c7 : decide (4112 < (↑s3.length : Int)) = false)
    (c8 : decide ((↑s3.length : Int) < 16) = true)
    (c9 : cP ((k + 54)) 35 [] = some (V.bool b1))
    (c10 : b1 = true)
    (c11 : decide (i0 = 4) = false) :
    cP ((k + 55)) 11 [V.str s0, V.str s1, V.str s2, V.str s3] = some (V.bool false) :=
  byF (k := k) (d := 55) [Hn.call 13 (V.str s4), Hn.call 15 (V.str s5), Hn.br 19 false, Hn.call 36 (V.tup [V.str s6, vi i0]), Hn.call 41 (V.bool b0), Hn.br 43 false, Hn.br 48 false, Hn.br 53 false, Hn.br 57 true, Hn.call 58 (V.bool b1), Hn.br 59 true, Hn.br 63 false] (aI c0 (aI c1 (aI c2 (aI c3 (aI c4 (aI c5 (aI c6 (aI c7 (aI c8 (aI c9 (aI c10 (aI c11 trivial)))))))))))) (by kernel_rfl)
theorem P11_45 (i0 : Int) (b0 b1 : Bool) (s0 s1 s2 s3 s4 s5 s6 : List UInt8) (k : Nat)
    (c0 : cP ((k + 54)) 32 [V.str s0] = some (V.str s4))
    (c1 : cP ((k + 54)) 32 [V.str s1] = some (V.str s5))
    (c2 : decide ((↑s2.length : Int) ≤ 4096) = false)
    (c3 : cP ((k + 54)) 39 [V.str s4, V.str s5, V.str s2, V.str s3] = some (V.tup [V.str s6, vi i0]))
    (c4 : cP ((k + 54)) 34 [V.str s4, V.str s5] = some (V.bool b0))
    (c5 : (!b0) = false)
    (c6 : decide (4096 < (↑s2.length : Int)) = false)
    (c7 : decide (4112 < (↑s3.length : Int)) = false)
    (c8 : decide ((↑s3.length : Int) < 16) = true)
    (c9 : cP ((k + 54)) 35 [] = some (V.bool b1))
    (c10 : b1 = false) :
    cP ((k + 55)) 11 [V.str s0, V.str s1, V.str s2, V.str s3] = some (V.bool false) :=
  byF (k := k) (d := 55) [Hn.call 13 (V.str s4), Hn.call 15 (V.str s5), Hn.br 19 false, Hn.call 36 (V.tup [V.str s6, vi i0]), Hn.call 41 (V.bool b0), Hn.br 43 false, Hn.br 48 false, Hn.br 53 false, Hn.br 57 true, Hn.call 58 (V.bool b1), Hn.br 59 false] (aI c0 (aI c1 (aI c2 (aI c3 (aI c4 (aI c5 (aI c6 (aI c7 (aI c8 (aI c9 (aI c10 trivial))))))))))) (by kernel_rfl)
theorem P11_46 (i0 : Int) (b0 b1 b2 : Bool) (s0 s1 s2 s3 s4 s5 s6 s7 : List UInt8) (k : Nat)
    (c0 : cP ((k + 54)) 32 [V.str s0] = some (V.str s4))
    (c1 : cP ((k + 54)) 32 [V.str s1] = some (V.str s5))
    (c2 : decide ((↑s2.length : Int) ≤ 4096) = false)
    (c3 : cP ((k + 54)) 39 [V.str s4, V.str s5, V.str s2, V.str s3] = some (V.tup [V.str s6, vi i0]))
    (c4 : cP ((k + 54)) 34 [V.str s4, V.str s5] = some (V.bool b0))
    (c5 : (!b0) = false)
    (c6 : decide (4096 < (↑s2.length : Int)) = false)
    (c7 : decide (4112 < (↑s3.length : Int)) = false)
    (c8 : decide ((↑s3.length : Int) < 16) = false)
    (c9 : cP ((k + 54)) 40 [V.str s4, V.str s5, V.str s2, V.str s3] = some (V.agg [V.str s7, V.bool b1]))
    (c10 : cP ((k + 54)) 35 [] = some (V.bool b2))
    (c11 : b2 = true)
    (c12 : decide (s6 = s7) = true)
    (c13 : b1 = true)
    (c14 : decide (i0 = 0) = true) :
    cP ((k + 55)) 11 [V.str s0, V.str s1, V.str s2, V.str s3] = some (V.bool true) :=
  byF (k := k) (d := 55) [Hn.call 13 (V.str s4), Hn.call 15 (V.str s5), Hn.br 19 false, Hn.call 36 (V.tup [V.str s6, vi i0]), Hn.call 41 (V.bool b0), Hn.br 43 false, Hn.br 48 false, Hn.br 53 false, Hn.br 57 false, Hn.call 71 (V.agg [V.str s7, V.bool b1]), Hn.call 72 (V.bool b2), Hn.br 73 true, Hn.br 79 true, Hn.br 82 true, Hn.br 86 true] (aI c0 (aI c1 (aI c2 (aI c3 (aI c4 (aI c5 (aI c6 (aI c7 (aI c8 (aI c9 (aI c10 (aI c11 (aI c12 (aI c13 (aI c14 trivial))))))))))))))) (by kernel_rfl)
theorem P11_47 (i0 : Int) (b0 b1 b2 : Bool) (s0 s1 s2 s3 s4 s5 s6 s7 : List UInt8) (k : Nat)
    (c0 : cP ((k + 54)) 32 [V.str s0] = some (V.str s4))
    (c1 : cP ((k + 54)) 32 [V.str s1] = some (V.str s5))
    (c2 : decide ((↑s2.length : Int) ≤ 4096) = false)
    (c3 : cP ((k + 54)) 39 [V.str s4, V.str s5, V.str s2, V.str s3] = some (V.tup [V.str s6, vi i0]))
    (c4 : cP ((k + 54)) 34 [V.str s4, V.str s5] = some (V.bool b0))
    (c5 : (!b0) = false)
    (c6 : decide (4096 < (↑s2.length : Int)) = false)
    (c7 : decide (4112 < (↑s3.length : Int)) = false)
    (c8 : decide ((↑s3.length : Int) < 16) = false)
    (c9 : cP ((k + 54)) 40 [V.str s4, V.str s5, V.str s2, V.str s3] = some (V.agg [V.str s7, V.bool b1]))
    (c10 : cP ((k + 54)) 35 [] = some (V.bool b2))
    (c11 : b2 = true)
    (c12 : decide (s6 = s7) = true)
    (c13 : b1 = true)
    (c14 : decide (i0 = 0) = false)
    (c15 : b1 = true) :
    cP ((k + 55)) 11 [V.str s0, V.str s1, V.str s2, V.str s3] = some (V.bool false) :=
  byF (k := k) (d := 55) [Hn.call 13 (V.str s4), Hn.call 15 (V.str s5), Hn.br 19 false, Hn.call 36 (V.tup [V.str s6, vi i0]), Hn.call 41 (V.bool b0), Hn.br 43 false, Hn.br 48 false, Hn.br 53 false, Hn.br 57 false, Hn.call 71 (V.agg [V.str s7, V.bool b1]), Hn.call 72 (V.bool b2), Hn.br 73 true, Hn.br 79 true, Hn.br 82 true, Hn.br 86 false, Hn.br 88 true] (aI c0 (aI c1 (aI c2 (aI c3 (aI c4 (aI c5 (aI c6 (aI c7 (aI c8 (aI c9 (aI c10 (aI c11 (aI c12 (aI c13 (aI c14 (aI c15 trivial)))))))))))))))) (by kernel_rfl)
theorem P11_48 (i0 : Int) (b0 b1 b2 : Bool) (s0 s1 s2 s3 s4 s5 s6 s7 : List UInt8) (k : Nat)
    (c0 : cP ((k + 54)) 32 [V.str s0] = some (V.str s4))
    (c1 : cP ((k + 54)) 32 [V.str s1] = some (V.str s5))
    (c2 : decide ((↑s2.length : Int) ≤ 4096) = false)
    (c3 : cP ((k + 54)) 39 [V.str s4, V.str s5, V.str s2, V.str s3] = some (V.tup [V.str s6, vi i0]))
    (c4 : cP ((k + 54)) 34 [V.str s4, V.str s5] = some (V.bool b0))
    (c5 : (!b0) = false)
    (c6 : decide (4096 < (↑s2.length : Int)) = false)
    (c7 : decide (4112 < (↑s3.length : Int)) = false)
    (c8 : decide ((↑s3.length : Int) < 16) = false)
    (c9 : cP ((k + 54)) 40 [V.str s4, V.str s5, V.str s2, V.str s3] = some (V.agg [V.str s7, V.bool b1]))
    (c10 : cP ((k + 54)) 35 [] = some (V.bool b2))
    (c11 : b2 = true)
    (c12 : decide (s6 = s7) = true)
    (c13 : b1 = false)
    (c14 : b1 = false) :
    cP ((k + 55)) 11 [V.str s0, V.str s1, V.str s2, V.str s3] = some (V.bool (decide (i0 = 5))) :=
  byF (k := k) (d := 55) [Hn.call 13 (V.str s4), Hn.call 15 (V.str s5), Hn.br 19 false, Hn.call 36 (V.tup [V.str s6, vi i0]), Hn.call 41 (V.bool b0), Hn.br 43 false, Hn.br 48 false, Hn.br 53 false, Hn.br 57 false, Hn.call 71 (V.agg [V.str s7, V.bool b1]), Hn.call 72 (V.bool b2), Hn.br 73 true, Hn.br 79 true, Hn.br 82 false, Hn.br 88 false] (aI c0 (aI c1 (aI c2 (aI c3 (aI c4 (aI c5 (aI c6 (aI c7 (aI c8 (aI c9 (aI c10 (aI c11 (aI c12 (aI c13 (aI c14 trivial))))))))))))))) (by kernel_rfl)
theorem P11_49 (i0 : Int) (b0 b1 b2 : Bool) (s0 s1 s2 s3 s4 s5 s6 s7 : List UInt8) (k : Nat)
    (c0 : cP ((k + 54)) 32 [V.str s0] = some (V.str s4))
    (c1 : cP ((k + 54)) 32 [V.str s1] = some (V.str s5))
    (c2 : decide ((↑s2.length : Int) ≤ 4096) = false)
    (c3 : cP ((k + 54)) 39 [V.str s4, V.str s5, V.str s2, V.str s3] = some (V.tup [V.str s6, vi i0]))
    (c4 : cP ((k + 54)) 34 [V.str s4, V.str s5] = some (V.bool b0))
    (c5 : (!b0) = false)
    (c6 : decide (4096 < (↑s2.length : Int)) = false)
    (c7 : decide (4112 < (↑s3.length : Int)) = false)
    (c8 : decide ((↑s3.length : Int) < 16) = false)
    (c9 : cP ((k + 54)) 40 [V.str s4, V.str s5, V.str s2, V.str s3] = some (V.agg [V.str s7, V.bool b1]))
    (c10 : cP ((k + 54)) 35 [] = some (V.bool b2))
    (c11 : b2 = true)
    (c12 : decide (s6 = s7) = false) :
    cP ((k + 55)) 11 [V.str s0, V.str s1, V.str s2, V.str s3] = some (V.bool false) :=
  byF (k := k) (d := 55) [Hn.call 13 (V.str s4), Hn.call 15 (V.str s5), Hn.br 19 false, Hn.call 36 (V.tup [V.str s6, vi i0]), Hn.call 41 (V.bool b0), Hn.br 43 false, Hn.br 48 false, Hn.br 53 false, Hn.br 57 false, Hn.call 71 (V.agg [V.str s7, V.bool b1]), Hn.call 72 (V.bool b2), Hn.br 73 true, Hn.br 79 false] (aI c0 (aI c1 (aI c2 (aI c3 (aI c4 (aI c5 (aI c6 (aI c7 (aI c8 (aI c9 (aI c10 (aI c11 (aI c12 trivial))))))))))))) (by kernel_rfl)
theorem P11_50 (i0 : Int) (b0 b1 b2 : Bool) (s0 s1 s2 s3 s4 s5 s6 s7 : List UInt8) (k : Nat)
    (c0 : cP ((k + 54)) 32 [V.str s0] = some (V.str s4))
    (c1 : cP ((k + 54)) 32 [V.str s1] = some (V.str s5))
    (c2 : decide ((↑s2.length : Int) ≤ 4096) = false)
    (c3 : cP ((k + 54)) 39 [V.str s4, V.str s5, V.str s2, V.str s3] = some (V.tup [V.str s6, vi i0]))
    (c4 : cP ((k + 54)) 34 [V.str s4, V.str s5] = some (V.bool b0))
    (c5 : (!b0) = false)
    (c6 : decide (4096 < (↑s2.length : Int)) = false)
    (c7 : decide (4112 < (↑s3.length : Int)) = false)
    (c8 : decide ((↑s3.length : Int) < 16) = false)
    (c9 : cP ((k + 54)) 40 [V.str s4, V.str s5, V.str s2, V.str s3] = some (V.agg [V.str s7, V.bool b1]))
    (c10 : cP ((k + 54)) 35 [] = some (V.bool b2))
    (c11 : b2 = false) :
    cP ((k + 55)) 11 [V.str s0, V.str s1, V.str s2, V.str s3] = some (V.bool false) :=
  byF (k := k) (d := 55) [Hn.call 13 (V.str s4), Hn.call 15 (V.str s5), Hn.br 19 false, Hn.call 36 (V.tup [V.str s6, vi i0]), Hn.call 41 (V.bool b0), Hn.br 43 false, Hn.br 48 false, Hn.br 53 false, Hn.br 57 false, Hn.call 71 (V.agg [V.str s7, V.bool b1]), Hn.call 72 (V.bool b2), Hn.br 73 false] (aI c0 (aI c1 (aI c2 (aI c3 (aI c4 (aI c5 (aI c6 (aI c7 (aI c8 (aI c9 (aI c10 (aI c11 trivial)))))))))))) (by kernel_rfl)
def F11 (k : Nat) (s0 s1 s2 s3 : List UInt8) : Option (Bool) :=
  ((F32 (k + 51) (s0)).bind fun s4 => ((F32 (k + 51) (s1)).bind fun s5 => (bif decide ((↑s2.length : Int) ≤ 4096) then (bif decide ((↑s3.length : Int) ≤ 4112) then ((F32 (k + 51) (s2)).bind fun s6 => (guardP (((0 : Int) ≤ if (90 : Int) < (↑s3.length : Int) then (90 : Int) else (↑s3.length : Int)) ∧ (if (90 : Int) < (↑s3.length : Int) then (90 : Int) else (↑s3.length : Int)) ≤ (↑s3.length : Int)) ((F39 (k + 5) (s4) (s5) (s6) (List.take (if 90 < (↑s3.length : Int) then 90 else (↑s3.length : Int)).toNat s3)).bind fun (s7, i0) => ((F34 (k + 48) (s4) (s5)).bind fun b0 => (bif !b0 then ((F35 (k + 2)).bind fun b1 => (bif b1 then (bif decide (i0 = 4) then (some (decide (s7 = []))) else (some (false))) else (some (false)))) else (bif decide (4096 < (↑s6.length : Int)) then ((F35 (k + 2)).bind fun b1 => (bif b1 then (bif decide (i0 = 4) then (some (decide (s7 = []))) else (some (false))) else (some (false)))) else (bif decide (4112 < (↑(List.take (if 90 < (↑s3.length : Int) then 90 else (↑s3.length : Int)).toNat s3).length : Int)) then ((F35 (k + 2)).bind fun b1 => (bif b1 then (bif decide (i0 = 4) then (some (decide (s7 = []))) else (some (false))) else (some (false)))) else (bif decide ((↑(List.take (if 90 < (↑s3.length : Int) then 90 else (↑s3.length : Int)).toNat s3).length : Int) < 16) then ((F35 (k + 2)).bind fun b1 => (bif b1 then (bif decide (i0 = 4) then (some (decide (s7 = []))) else (some (false))) else (some (false)))) else ((F40 (k + 21) (s4) (s5) (s6) (List.take (if 90 < (↑s3.length : Int) then 90 else (↑s3.length : Int)).toNat s3)).bind fun (s8, b1) => ((F35 (k + 2)).bind fun b2 => (bif b2 then (bif decide (s7 = s8) then (bif b1 then (bif decide (i0 = 0) then (some (true)) else (some (false))) else (some (decide (i0 = 5)))) else (some (false))) else (some (false))))))))))))) else ((F39 (k + 5) (s4) (s5) (s2) (s3)).bind fun (s6, i0) => ((F34 (k + 48) (s4) (s5)).bind fun b0 => (bif !b0 then ((F35 (k + 2)).bind fun b1 => (bif b1 then (bif decide (i0 = 4) then (some (decide (s6 = []))) else (some (false))) else (some (false)))) else (bif decide (4096 < (↑s2.length : Int)) then ((F35 (k + 2)).bind fun b1 => (bif b1 then (bif decide (i0 = 4) then (some (decide (s6 = []))) else (some (false))) else (some (false)))) else (bif decide (4112 < (↑s3.length : Int)) then ((F35 (k + 2)).bind fun b1 => (bif b1 then (bif decide (i0 = 4) then (some (decide (s6 = []))) else (some (false))) else (some (false)))) else (bif decide ((↑s3.length : Int) < 16) then ((F35 (k + 2)).bind fun b1 => (bif b1 then (bif decide (i0 = 4) then (some (decide (s6 = []))) else (some (false))) else (some (false)))) else ((F40 (k + 21) (s4) (s5) (s2) (s3)).bind fun (s7, b1) => ((F35 (k + 2)).bind fun b2 => (bif b2 then (bif decide (s6 = s7) then (bif b1 then (bif decide (i0 = 0) then (some (true)) else (some (false))) else (some (decide (i0 = 5)))) else (some (false))) else (some (false)))))))))))) else ((F39 (k + 5) (s4) (s5) (s2) (s3)).bind fun (s6, i0) => ((F34 (k + 48) (s4) (s5)).bind fun b0 => (bif !b0 then ((F35 (k + 2)).bind fun b1 => (bif b1 then (bif decide (i0 = 4) then (some (decide (s6 = []))) else (some (false))) else (some (false)))) else (bif decide (4096 < (↑s2.length : Int)) then ((F35 (k + 2)).bind fun b1 => (bif b1 then (bif decide (i0 = 4) then (some (decide (s6 = []))) else (some (false))) else (some (false)))) else (bif decide (4112 < (↑s3.length : Int)) then ((F35 (k + 2)).bind fun b1 => (bif b1 then (bif decide (i0 = 4) then (some (decide (s6 = []))) else (some (false))) else (some (false)))) else (bif decide ((↑s3.length : Int) < 16) then ((F35 (k + 2)).bind fun b1 => (bif b1 then (bif decide (i0 = 4) then (some (decide (s6 = []))) else (some (false))) else (some (false)))) else ((F40 (k + 21) (s4) (s5) (s2) (s3)).bind fun (s7, b1) => ((F35 (k + 2)).bind fun b2 => (bif b2 then (bif decide (s6 = s7) then (bif b1 then (bif decide (i0 = 0) then (some (true)) else (some (false))) else (some (decide (i0 = 5)))) else (some (false))) else (some (false))))))))))))))
theorem F11_ok {s0 s1 s2 s3 : List UInt8} {k : Nat} {r : Bool} (h : F11 k s0 s1 s2 s3 = some r) :
    cP ((k + 55)) 11 [V.str s0, V.str s1, V.str s2, V.str s3] = some (V.bool r) := by
  unfold F11 at h
  obtain ⟨s4, e0, h⟩ := bE h
  obtain ⟨s5, e1, h⟩ := bE h
  rcases cond_elim h with ⟨e2, h⟩ | ⟨e2, h⟩
  ·
    rcases cond_elim h with ⟨e3, h⟩ | ⟨e3, h⟩
    ·
      obtain ⟨s6, e4, h⟩ := bE h
      obtain ⟨e5, h⟩ := guardP_some.1 h
      obtain ⟨⟨s7, i0⟩, e6, h⟩ := bE h
      obtain ⟨b0, e7, h⟩ := bE h
      rcases cond_elim h with ⟨e8, h⟩ | ⟨e8, h⟩
      ·
        obtain ⟨b1, e9, h⟩ := bE h
        rcases cond_elim h with ⟨e10, h⟩ | ⟨e10, h⟩
        ·
          rcases cond_elim h with ⟨e11, h⟩ | ⟨e11, h⟩
          ·
            have h := Option.some.inj h; subst h; exact P11_0 i0 b0 b1 s0 s1 s2 s3 s4 s5 s6 s7 k (F32_ok e0) (F32_ok e1) e2 e3 (F32_ok e4) (SlcP.strUptoS e5) (F39_ok e6) (F34_ok e7) e8 (F35_ok e9) e10 e11
          ·
            have h := Option.some.inj h; subst h; exact P11_1 i0 b0 b1 s0 s1 s2 s3 s4 s5 s6 s7 k (F32_ok e0) (F32_ok e1) e2 e3 (F32_ok e4) (SlcP.strUptoS e5) (F39_ok e6) (F34_ok e7) e8 (F35_ok e9) e10 e11
        ·
          have h := Option.some.inj h; subst h; exact P11_2 i0 b0 b1 s0 s1 s2 s3 s4 s5 s6 s7 k (F32_ok e0) (F32_ok e1) e2 e3 (F32_ok e4) (SlcP.strUptoS e5) (F39_ok e6) (F34_ok e7) e8 (F35_ok e9) e10
      ·
        rcases cond_elim h with ⟨e9, h⟩ | ⟨e9, h⟩
        ·
          obtain ⟨b1, e10, h⟩ := bE h
          rcases cond_elim h with ⟨e11, h⟩ | ⟨e11, h⟩
          ·
            rcases cond_elim h with ⟨e12, h⟩ | ⟨e12, h⟩
            ·
              have h := Option.some.inj h; subst h; exact P11_3 i0 b0 b1 s0 s1 s2 s3 s4 s5 s6 s7 k (F32_ok e0) (F32_ok e1) e2 e3 (F32_ok e4) (SlcP.strUptoS e5) (F39_ok e6) (F34_ok e7) e8 e9 (F35_ok e10) e11 e12
            ·
              have h := Option.some.inj h; subst h; exact P11_4 i0 b0 b1 s0 s1 s2 s3 s4 s5 s6 s7 k (F32_ok e0) (F32_ok e1) e2 e3 (F32_ok e4) (SlcP.strUptoS e5) (F39_ok e6) (F34_ok e7) e8 e9 (F35_ok e10) e11 e12
          ·
            have h := Option.some.inj h; subst h; exact P11_5 i0 b0 b1 s0 s1 s2 s3 s4 s5 s6 s7 k (F32_ok e0) (F32_ok e1) e2 e3 (F32_ok e4) (SlcP.strUptoS e5) (F39_ok e6) (F34_ok e7) e8 e9 (F35_ok e10) e11
        ·
          rcases cond_elim h with ⟨e10, h⟩ | ⟨e10, h⟩
          ·
            obtain ⟨b1, e11, h⟩ := bE h
            rcases cond_elim h with ⟨e12, h⟩ | ⟨e12, h⟩
            ·
              rcases cond_elim h with ⟨e13, h⟩ | ⟨e13, h⟩
              ·
                have h := Option.some.inj h; subst h; exact P11_6 i0 b0 b1 s0 s1 s2 s3 s4 s5 s6 s7 k (F32_ok e0) (F32_ok e1) e2 e3 (F32_ok e4) (SlcP.strUptoS e5) (F39_ok e6) (F34_ok e7) e8 e9 e10 (F35_ok e11) e12 e13
              ·
                have h := Option.some.inj h; subst h; exact P11_7 i0 b0 b1 s0 s1 s2 s3 s4 s5 s6 s7 k (F32_ok e0) (F32_ok e1) e2 e3 (F32_ok e4) (SlcP.strUptoS e5) (F39_ok e6) (F34_ok e7) e8 e9 e10 (F35_ok e11) e12 e13
            ·
              have h := Option.some.inj h; subst h; exact P11_8 i0 b0 b1 s0 s1 s2 s3 s4 s5 s6 s7 k (F32_ok e0) (F32_ok e1) e2 e3 (F32_ok e4) (SlcP.strUptoS e5) (F39_ok e6) (F34_ok e7) e8 e9 e10 (F35_ok e11) e12
          ·
            rcases cond_elim h with ⟨e11, h⟩ | ⟨e11, h⟩
            ·
              obtain ⟨b1, e12, h⟩ := bE h
              rcases cond_elim h with ⟨e13, h⟩ | ⟨e13, h⟩
              ·
                rcases cond_elim h with ⟨e14, h⟩ | ⟨e14, h⟩
                ·
                  have h := Option.some.inj h; subst h; exact P11_9 i0 b0 b1 s0 s1 s2 s3 s4 s5 s6 s7 k (F32_ok e0) (F32_ok e1) e2 e3 (F32_ok e4) (SlcP.strUptoS e5) (F39_ok e6) (F34_ok e7) e8 e9 e10 e11 (F35_ok e12) e13 e14
                ·
                  have h := Option.some.inj h; subst h; exact P11_10 i0 b0 b1 s0 s1 s2 s3 s4 s5 s6 s7 k (F32_ok e0) (F32_ok e1) e2 e3 (F32_ok e4) (SlcP.strUptoS e5) (F39_ok e6) (F34_ok e7) e8 e9 e10 e11 (F35_ok e12) e13 e14
              ·
                have h := Option.some.inj h; subst h; exact P11_11 i0 b0 b1 s0 s1 s2 s3 s4 s5 s6 s7 k (F32_ok e0) (F32_ok e1) e2 e3 (F32_ok e4) (SlcP.strUptoS e5) (F39_ok e6) (F34_ok e7) e8 e9 e10 e11 (F35_ok e12) e13
            ·
              obtain ⟨⟨s8, b1⟩, e12, h⟩ := bE h
              obtain ⟨b2, e13, h⟩ := bE h
              rcases cond_elim h with ⟨e14, h⟩ | ⟨e14, h⟩
              ·
                rcases cond_elim h with ⟨e15, h⟩ | ⟨e15, h⟩
                ·
                  rcases cond_elim h with ⟨e16, h⟩ | ⟨e16, h⟩
                  ·
                    rcases cond_elim h with ⟨e17, h⟩ | ⟨e17, h⟩
                    ·
                      have h := Option.some.inj h; subst h; exact P11_12 i0 b0 b1 b2 s0 s1 s2 s3 s4 s5 s6 s7 s8 k (F32_ok e0) (F32_ok e1) e2 e3 (F32_ok e4) (SlcP.strUptoS e5) (F39_ok e6) (F34_ok e7) e8 e9 e10 e11 (F40_ok e12) (F35_ok e13) e14 e15 e16 e17
                    ·
                      have h := Option.some.inj h; subst h; exact P11_13 i0 b0 b1 b2 s0 s1 s2 s3 s4 s5 s6 s7 s8 k (F32_ok e0) (F32_ok e1) e2 e3 (F32_ok e4) (SlcP.strUptoS e5) (F39_ok e6) (F34_ok e7) e8 e9 e10 e11 (F40_ok e12) (F35_ok e13) e14 e15 e16 e17 e16
                  ·
                    have h := Option.some.inj h; subst h; exact P11_14 i0 b0 b1 b2 s0 s1 s2 s3 s4 s5 s6 s7 s8 k (F32_ok e0) (F32_ok e1) e2 e3 (F32_ok e4) (SlcP.strUptoS e5) (F39_ok e6) (F34_ok e7) e8 e9 e10 e11 (F40_ok e12) (F35_ok e13) e14 e15 e16 e16
                ·
                  have h := Option.some.inj h; subst h; exact P11_15 i0 b0 b1 b2 s0 s1 s2 s3 s4 s5 s6 s7 s8 k (F32_ok e0) (F32_ok e1) e2 e3 (F32_ok e4) (SlcP.strUptoS e5) (F39_ok e6) (F34_ok e7) e8 e9 e10 e11 (F40_ok e12) (F35_ok e13) e14 e15
              ·
                have h := Option.some.inj h; subst h; exact P11_16 i0 b0 b1 b2 s0 s1 s2 s3 s4 s5 s6 s7 s8 k (F32_ok e0) (F32_ok e1) e2 e3 (F32_ok e4) (SlcP.strUptoS e5) (F39_ok e6) (F34_ok e7) e8 e9 e10 e11 (F40_ok e12) (F35_ok e13) e14
    ·
      obtain ⟨⟨s6, i0⟩, e4, h⟩ := bE h
      obtain ⟨b0, e5, h⟩ := bE h
      rcases cond_elim h with ⟨e6, h⟩ | ⟨e6, h⟩
      ·
        obtain ⟨b1, e7, h⟩ := bE h
        rcases cond_elim h with ⟨e8, h⟩ | ⟨e8, h⟩
        ·
          rcases cond_elim h with ⟨e9, h⟩ | ⟨e9, h⟩
          ·
            have h := Option.some.inj h; subst h; exact P11_17 i0 b0 b1 s0 s1 s2 s3 s4 s5 s6 k (F32_ok e0) (F32_ok e1) e2 e3 (F39_ok e4) (F34_ok e5) e6 (F35_ok e7) e8 e9
          ·
            have h := Option.some.inj h; subst h; exact P11_18 i0 b0 b1 s0 s1 s2 s3 s4 s5 s6 k (F32_ok e0) (F32_ok e1) e2 e3 (F39_ok e4) (F34_ok e5) e6 (F35_ok e7) e8 e9
        ·
          have h := Option.some.inj h; subst h; exact P11_19 i0 b0 b1 s0 s1 s2 s3 s4 s5 s6 k (F32_ok e0) (F32_ok e1) e2 e3 (F39_ok e4) (F34_ok e5) e6 (F35_ok e7) e8
      ·
        rcases cond_elim h with ⟨e7, h⟩ | ⟨e7, h⟩
        ·
          obtain ⟨b1, e8, h⟩ := bE h
          rcases cond_elim h with ⟨e9, h⟩ | ⟨e9, h⟩
          ·
            rcases cond_elim h with ⟨e10, h⟩ | ⟨e10, h⟩
            ·
              have h := Option.some.inj h; subst h; exact P11_20 i0 b0 b1 s0 s1 s2 s3 s4 s5 s6 k (F32_ok e0) (F32_ok e1) e2 e3 (F39_ok e4) (F34_ok e5) e6 e7 (F35_ok e8) e9 e10
            ·
              have h := Option.some.inj h; subst h; exact P11_21 i0 b0 b1 s0 s1 s2 s3 s4 s5 s6 k (F32_ok e0) (F32_ok e1) e2 e3 (F39_ok e4) (F34_ok e5) e6 e7 (F35_ok e8) e9 e10
          ·
            have h := Option.some.inj h; subst h; exact P11_22 i0 b0 b1 s0 s1 s2 s3 s4 s5 s6 k (F32_ok e0) (F32_ok e1) e2 e3 (F39_ok e4) (F34_ok e5) e6 e7 (F35_ok e8) e9
        ·
          rcases cond_elim h with ⟨e8, h⟩ | ⟨e8, h⟩
          ·
            obtain ⟨b1, e9, h⟩ := bE h
            rcases cond_elim h with ⟨e10, h⟩ | ⟨e10, h⟩
            ·
              rcases cond_elim h with ⟨e11, h⟩ | ⟨e11, h⟩
              ·
                have h := Option.some.inj h; subst h; exact P11_23 i0 b0 b1 s0 s1 s2 s3 s4 s5 s6 k (F32_ok e0) (F32_ok e1) e2 e3 (F39_ok e4) (F34_ok e5) e6 e7 e8 (F35_ok e9) e10 e11
              ·
                have h := Option.some.inj h; subst h; exact P11_24 i0 b0 b1 s0 s1 s2 s3 s4 s5 s6 k (F32_ok e0) (F32_ok e1) e2 e3 (F39_ok e4) (F34_ok e5) e6 e7 e8 (F35_ok e9) e10 e11
            ·
              have h := Option.some.inj h; subst h; exact P11_25 i0 b0 b1 s0 s1 s2 s3 s4 s5 s6 k (F32_ok e0) (F32_ok e1) e2 e3 (F39_ok e4) (F34_ok e5) e6 e7 e8 (F35_ok e9) e10
          ·
            rcases cond_elim h with ⟨e9, h⟩ | ⟨e9, h⟩
            ·
              obtain ⟨b1, e10, h⟩ := bE h
              rcases cond_elim h with ⟨e11, h⟩ | ⟨e11, h⟩
              ·
                rcases cond_elim h with ⟨e12, h⟩ | ⟨e12, h⟩
                ·
                  have h := Option.some.inj h; subst h; exact P11_26 i0 b0 b1 s0 s1 s2 s3 s4 s5 s6 k (F32_ok e0) (F32_ok e1) e2 e3 (F39_ok e4) (F34_ok e5) e6 e7 e8 e9 (F35_ok e10) e11 e12
                ·
                  have h := Option.some.inj h; subst h; exact P11_27 i0 b0 b1 s0 s1 s2 s3 s4 s5 s6 k (F32_ok e0) (F32_ok e1) e2 e3 (F39_ok e4) (F34_ok e5) e6 e7 e8 e9 (F35_ok e10) e11 e12
              ·
                have h := Option.some.inj h; subst h; exact P11_28 i0 b0 b1 s0 s1 s2 s3 s4 s5 s6 k (F32_ok e0) (F32_ok e1) e2 e3 (F39_ok e4) (F34_ok e5) e6 e7 e8 e9 (F35_ok e10) e11
            ·
              obtain ⟨⟨s7, b1⟩, e10, h⟩ := bE h
              obtain ⟨b2, e11, h⟩ := bE h
              rcases cond_elim h with ⟨e12, h⟩ | ⟨e12, h⟩
              ·
                rcases cond_elim h with ⟨e13, h⟩ | ⟨e13, h⟩
                ·
                  rcases cond_elim h with ⟨e14, h⟩ | ⟨e14, h⟩
                  ·
                    rcases cond_elim h with ⟨e15, h⟩ | ⟨e15, h⟩
                    ·
                      have h := Option.some.inj h; subst h; exact P11_29 i0 b0 b1 b2 s0 s1 s2 s3 s4 s5 s6 s7 k (F32_ok e0) (F32_ok e1) e2 e3 (F39_ok e4) (F34_ok e5) e6 e7 e8 e9 (F40_ok e10) (F35_ok e11) e12 e13 e14 e15
                    ·
                      have h := Option.some.inj h; subst h; exact P11_30 i0 b0 b1 b2 s0 s1 s2 s3 s4 s5 s6 s7 k (F32_ok e0) (F32_ok e1) e2 e3 (F39_ok e4) (F34_ok e5) e6 e7 e8 e9 (F40_ok e10) (F35_ok e11) e12 e13 e14 e15 e14
                  ·
                    have h := Option.some.inj h; subst h; exact P11_31 i0 b0 b1 b2 s0 s1 s2 s3 s4 s5 s6 s7 k (F32_ok e0) (F32_ok e1) e2 e3 (F39_ok e4) (F34_ok e5) e6 e7 e8 e9 (F40_ok e10) (F35_ok e11) e12 e13 e14 e14
                ·
                  have h := Option.some.inj h; subst h; exact P11_32 i0 b0 b1 b2 s0 s1 s2 s3 s4 s5 s6 s7 k (F32_ok e0) (F32_ok e1) e2 e3 (F39_ok e4) (F34_ok e5) e6 e7 e8 e9 (F40_ok e10) (F35_ok e11) e12 e13
              ·
                have h := Option.some.inj h; subst h; exact P11_33 i0 b0 b1 b2 s0 s1 s2 s3 s4 s5 s6 s7 k (F32_ok e0) (F32_ok e1) e2 e3 (F39_ok e4) (F34_ok e5) e6 e7 e8 e9 (F40_ok e10) (F35_ok e11) e12
  ·
    obtain ⟨⟨s6, i0⟩, e3, h⟩ := bE h
    obtain ⟨b0, e4, h⟩ := bE h
    rcases cond_elim h with ⟨e5, h⟩ | ⟨e5, h⟩
    ·
      obtain ⟨b1, e6, h⟩ := bE h
      rcases cond_elim h with ⟨e7, h⟩ | ⟨e7, h⟩
      ·
        rcases cond_elim h with ⟨e8, h⟩ | ⟨e8, h⟩
        ·
          have h := Option.some.inj h; subst h; exact P11_34 i0 b0 b1 s0 s1 s2 s3 s4 s5 s6 k (F32_ok e0) (F32_ok e1) e2 (F39_ok e3) (F34_ok e4) e5 (F35_ok e6) e7 e8
        ·
          have h := Option.some.inj h; subst h; exact P11_35 i0 b0 b1 s0 s1 s2 s3 s4 s5 s6 k (F32_ok e0) (F32_ok e1) e2 (F39_ok e3) (F34_ok e4) e5 (F35_ok e6) e7 e8
      ·
        have h := Option.some.inj h; subst h; exact P11_36 i0 b0 b1 s0 s1 s2 s3 s4 s5 s6 k (F32_ok e0) (F32_ok e1) e2 (F39_ok e3) (F34_ok e4) e5 (F35_ok e6) e7
    ·
      rcases cond_elim h with ⟨e6, h⟩ | ⟨e6, h⟩
      ·
        obtain ⟨b1, e7, h⟩ := bE h
        rcases cond_elim h with ⟨e8, h⟩ | ⟨e8, h⟩
        ·
          rcases cond_elim h with ⟨e9, h⟩ | ⟨e9, h⟩
          ·
            have h := Option.some.inj h; subst h; exact P11_37 i0 b0 b1 s0 s1 s2 s3 s4 s5 s6 k (F32_ok e0) (F32_ok e1) e2 (F39_ok e3) (F34_ok e4) e5 e6 (F35_ok e7) e8 e9
          ·
            have h := Option.some.inj h; subst h; exact P11_38 i0 b0 b1 s0 s1 s2 s3 s4 s5 s6 k (F32_ok e0) (F32_ok e1) e2 (F39_ok e3) (F34_ok e4) e5 e6 (F35_ok e7) e8 e9
        ·
          have h := Option.some.inj h; subst h; exact P11_39 i0 b0 b1 s0 s1 s2 s3 s4 s5 s6 k (F32_ok e0) (F32_ok e1) e2 (F39_ok e3) (F34_ok e4) e5 e6 (F35_ok e7) e8
      ·
        rcases cond_elim h with ⟨e7, h⟩ | ⟨e7, h⟩
        ·
          obtain ⟨b1, e8, h⟩ := bE h
          rcases cond_elim h with ⟨e9, h⟩ | ⟨e9, h⟩
          ·
            rcases cond_elim h with ⟨e10, h⟩ | ⟨e10, h⟩
            ·
              have h := Option.some.inj h; subst h; exact P11_40 i0 b0 b1 s0 s1 s2 s3 s4 s5 s6 k (F32_ok e0) (F32_ok e1) e2 (F39_ok e3) (F34_ok e4) e5 e6 e7 (F35_ok e8) e9 e10
            ·
              have h := Option.some.inj h; subst h; exact P11_41 i0 b0 b1 s0 s1 s2 s3 s4 s5 s6 k (F32_ok e0) (F32_ok e1) e2 (F39_ok e3) (F34_ok e4) e5 e6 e7 (F35_ok e8) e9 e10
          ·
            have h := Option.some.inj h; subst h; exact P11_42 i0 b0 b1 s0 s1 s2 s3 s4 s5 s6 k (F32_ok e0) (F32_ok e1) e2 (F39_ok e3) (F34_ok e4) e5 e6 e7 (F35_ok e8) e9
        ·
          rcases cond_elim h with ⟨e8, h⟩ | ⟨e8, h⟩
          ·
            obtain ⟨b1, e9, h⟩ := bE h
            rcases cond_elim h with ⟨e10, h⟩ | ⟨e10, h⟩
            ·
              rcases cond_elim h with ⟨e11, h⟩ | ⟨e11, h⟩
              ·
                have h := Option.some.inj h; subst h; exact P11_43 i0 b0 b1 s0 s1 s2 s3 s4 s5 s6 k (F32_ok e0) (F32_ok e1) e2 (F39_ok e3) (F34_ok e4) e5 e6 e7 e8 (F35_ok e9) e10 e11
              ·
                have h := Option.some.inj h; subst h; exact P11_44 i0 b0 b1 s0 s1 s2 s3 s4 s5 s6 k (F32_ok e0) (F32_ok e1) e2 (F39_ok e3) (F34_ok e4) e5 e6 e7 e8 (F35_ok e9) e10 e11
            ·
              have h := Option.some.inj h; subst h; exact P11_45 i0 b0 b1 s0 s1 s2 s3 s4 s5 s6 k (F32_ok e0) (F32_ok e1) e2 (F39_ok e3) (F34_ok e4) e5 e6 e7 e8 (F35_ok e9) e10
          ·
            obtain ⟨⟨s7, b1⟩, e9, h⟩ := bE h
            obtain ⟨b2, e10, h⟩ := bE h
            rcases cond_elim h with ⟨e11, h⟩ | ⟨e11, h⟩
            ·
              rcases cond_elim h with ⟨e12, h⟩ | ⟨e12, h⟩
              ·
                rcases cond_elim h with ⟨e13, h⟩ | ⟨e13, h⟩
                ·
                  rcases cond_elim h with ⟨e14, h⟩ | ⟨e14, h⟩
                  ·
                    have h := Option.some.inj h; subst h; exact P11_46 i0 b0 b1 b2 s0 s1 s2 s3 s4 s5 s6 s7 k (F32_ok e0) (F32_ok e1) e2 (F39_ok e3) (F34_ok e4) e5 e6 e7 e8 (F40_ok e9) (F35_ok e10) e11 e12 e13 e14
                  ·
                    have h := Option.some.inj h; subst h; exact P11_47 i0 b0 b1 b2 s0 s1 s2 s3 s4 s5 s6 s7 k (F32_ok e0) (F32_ok e1) e2 (F39_ok e3) (F34_ok e4) e5 e6 e7 e8 (F40_ok e9) (F35_ok e10) e11 e12 e13 e14 e13
                ·
                  have h := Option.some.inj h; subst h; exact P11_48 i0 b0 b1 b2 s0 s1 s2 s3 s4 s5 s6 s7 k (F32_ok e0) (F32_ok e1) e2 (F39_ok e3) (F34_ok e4) e5 e6 e7 e8 (F40_ok e9) (F35_ok e10) e11 e12 e13 e13
              ·
                have h := Option.some.inj h; subst h; exact P11_49 i0 b0 b1 b2 s0 s1 s2 s3 s4 s5 s6 s7 k (F32_ok e0) (F32_ok e1) e2 (F39_ok e3) (F34_ok e4) e5 e6 e7 e8 (F40_ok e9) (F35_ok e10) e11 e12
            ·
              have h := Option.some.inj h; subst h; exact P11_50 i0 b0 b1 b2 s0 s1 s2 s3 s4 s5 s6 s7 k (F32_ok e0) (F32_ok e1) e2 (F39_ok e3) (F34_ok e4) e5 e6 e7 e8 (F40_ok e9) (F35_ok e10) e11
end Go.Proofs
