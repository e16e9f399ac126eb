/-
  What the law SpanUnions answers, checked against the program.
-/
import Derived.Test.YtloboanoionagaaUnB
import Derived.Test.YtloboanoionagaaUnC
set_option linter.unusedVariables false
set_option maxHeartbeats 0
set_option maxRecDepth 100000
namespace Go.Proofs
open Go Go.Sym

theorem P7_0 (i0 i1 : Int) (b0 b1 b2 : Bool) (x0 x1 : List V) (o0 o1 : Option Bool) (n0 n1 k : Nat)
    (c0 : SlcP true 2 (V.sl o0 b0 n0 x0) none (some (vi (if 12 < (↑x0.length : Int) then 12 else (↑x0.length : Int)))) none (V.sl o0 false n0 (List.take (if 12 < (↑x0.length : Int) then 12 else (↑x0.length : Int)).toNat x0)))
    (c1 : cP ((k + 17)) 24 [V.sl o0 false n0 (List.take (if 12 < (↑x0.length : Int) then 12 else (↑x0.length : Int)).toNat x0)] = some (V.tup [V.sl o1 b1 n1 x1, vi i0]))
    (c2 : cP ((k + 17)) 16 [V.sl o0 false n0 (List.take (if 12 < (↑x0.length : Int) then 12 else (↑x0.length : Int)).toNat x0)] = some (vi i1))
    (c3 : (!decide (i1 = 0)) = true)
    (c4 : cP ((k + 17)) 11 [] = some (V.bool b2))
    (c5 : b2 = true)
    (c6 : decide (i0 = i1) = true) :
    cP ((k + 18)) 7 [V.sl o0 b0 n0 x0] = some (V.bool (decide ((↑x1.length : Int) = 0))) :=
  byF (k := k) (d := 18) [Hn.op 11 (V.sl o0 false n0 (List.take (if 12 < (↑x0.length : Int) then 12 else (↑x0.length : Int)).toNat x0)) [], Hn.call 14 (V.tup [V.sl o1 b1 n1 x1, vi i0]), Hn.call 18 (vi i1), Hn.br 20 true, Hn.call 21 (V.bool b2), Hn.br 22 true, Hn.br 27 true] (aI c0 (aI c1 (aI c2 (aI c3 (aI c4 (aI c5 (aI c6 trivial))))))) (by kernel_rfl)
theorem P7_1 (i0 i1 : Int) (b0 b1 b2 : Bool) (x0 x1 : List V) (o0 o1 : Option Bool) (n0 n1 k : Nat)
    (c0 : SlcP true 2 (V.sl o0 b0 n0 x0) none (some (vi (if 12 < (↑x0.length : Int) then 12 else (↑x0.length : Int)))) none (V.sl o0 false n0 (List.take (if 12 < (↑x0.length : Int) then 12 else (↑x0.length : Int)).toNat x0)))
    (c1 : cP ((k + 17)) 24 [V.sl o0 false n0 (List.take (if 12 < (↑x0.length : Int) then 12 else (↑x0.length : Int)).toNat x0)] = some (V.tup [V.sl o1 b1 n1 x1, vi i0]))
    (c2 : cP ((k + 17)) 16 [V.sl o0 false n0 (List.take (if 12 < (↑x0.length : Int) then 12 else (↑x0.length : Int)).toNat x0)] = some (vi i1))
    (c3 : (!decide (i1 = 0)) = true)
    (c4 : cP ((k + 17)) 11 [] = some (V.bool b2))
    (c5 : b2 = true)
    (c6 : decide (i0 = i1) = false) :
    cP ((k + 18)) 7 [V.sl o0 b0 n0 x0] = some (V.bool false) :=
  byF (k := k) (d := 18) [Hn.op 11 (V.sl o0 false n0 (List.take (if 12 < (↑x0.length : Int) then 12 else (↑x0.length : Int)).toNat x0)) [], Hn.call 14 (V.tup [V.sl o1 b1 n1 x1, vi i0]), Hn.call 18 (vi i1), Hn.br 20 true, Hn.call 21 (V.bool b2), Hn.br 22 true, Hn.br 27 false] (aI c0 (aI c1 (aI c2 (aI c3 (aI c4 (aI c5 (aI c6 trivial))))))) (by kernel_rfl)
theorem P7_2 (i0 i1 : Int) (b0 b1 b2 : Bool) (x0 x1 : List V) (o0 o1 : Option Bool) (n0 n1 k : Nat)
    (c0 : SlcP true 2 (V.sl o0 b0 n0 x0) none (some (vi (if 12 < (↑x0.length : Int) then 12 else (↑x0.length : Int)))) none (V.sl o0 false n0 (List.take (if 12 < (↑x0.length : Int) then 12 else (↑x0.length : Int)).toNat x0)))
    (c1 : cP ((k + 17)) 24 [V.sl o0 false n0 (List.take (if 12 < (↑x0.length : Int) then 12 else (↑x0.length : Int)).toNat x0)] = some (V.tup [V.sl o1 b1 n1 x1, vi i0]))
    (c2 : cP ((k + 17)) 16 [V.sl o0 false n0 (List.take (if 12 < (↑x0.length : Int) then 12 else (↑x0.length : Int)).toNat x0)] = some (vi i1))
    (c3 : (!decide (i1 = 0)) = true)
    (c4 : cP ((k + 17)) 11 [] = some (V.bool b2))
    (c5 : b2 = false) :
    cP ((k + 18)) 7 [V.sl o0 b0 n0 x0] = some (V.bool false) :=
  byF (k := k) (d := 18) [Hn.op 11 (V.sl o0 false n0 (List.take (if 12 < (↑x0.length : Int) then 12 else (↑x0.length : Int)).toNat x0)) [], Hn.call 14 (V.tup [V.sl o1 b1 n1 x1, vi i0]), Hn.call 18 (vi i1), Hn.br 20 true, Hn.call 21 (V.bool b2), Hn.br 22 false] (aI c0 (aI c1 (aI c2 (aI c3 (aI c4 (aI c5 trivial)))))) (by kernel_rfl)
theorem P7_3 (i0 i1 i2 i3 : Int) (b0 b1 b2 b3 : Bool) (x0 x1 x2 : List V) (o0 o1 o2 : Option Bool) (n0 n1 n2 k : Nat)
    (c0 : SlcP true 2 (V.sl o0 b0 n0 x0) none (some (vi (if 12 < (↑x0.length : Int) then 12 else (↑x0.length : Int)))) none (V.sl o0 false n0 (List.take (if 12 < (↑x0.length : Int) then 12 else (↑x0.length : Int)).toNat x0)))
    (c1 : cP ((k + 17)) 24 [V.sl o0 false n0 (List.take (if 12 < (↑x0.length : Int) then 12 else (↑x0.length : Int)).toNat x0)] = some (V.tup [V.sl o1 b1 n1 x1, vi i0]))
    (c2 : cP ((k + 17)) 16 [V.sl o0 false n0 (List.take (if 12 < (↑x0.length : Int) then 12 else (↑x0.length : Int)).toNat x0)] = some (vi i1))
    (c3 : (!decide (i1 = 0)) = false)
    (c4 : cP ((k + 17)) 25 [V.sl o0 false n0 (List.take (if 12 < (↑x0.length : Int) then 12 else (↑x0.length : Int)).toNat x0)] = some (V.sl o2 b2 n2 x2))
    (c5 : decide ((↑x2.length : Int) = 1) = true)
    (c6 : IdxP x2 0 n2 2 (V.agg [vu i2, vu i3]))
    (c7 : (decide (i2 = 0) && (decide (i3 = 18446744073709551615) && true)) = true)
    (c8 : cP ((k + 17)) 11 [] = some (V.bool b3))
    (c9 : b3 = true)
    (c10 : decide (i0 = 2) = true) :
    cP ((k + 18)) 7 [V.sl o0 b0 n0 x0] = some (V.bool (decide ((↑x1.length : Int) = 0))) :=
  byF (k := k) (d := 18) [Hn.op 11 (V.sl o0 false n0 (List.take (if 12 < (↑x0.length : Int) then 12 else (↑x0.length : Int)).toNat x0)) [], Hn.call 14 (V.tup [V.sl o1 b1 n1 x1, vi i0]), Hn.call 18 (vi i1), Hn.br 20 false, Hn.call 33 (V.sl o2 b2 n2 x2), Hn.br 37 true, Hn.op 39 ((V.agg [vu i2, vu i3]).cpt 0) [], Hn.br 43 true, Hn.call 44 (V.bool b3), Hn.br 45 true, Hn.br 49 true] (aI c0 (aI c1 (aI c2 (aI c3 (aI c4 (aI c5 (aI c6 (aI c7 (aI c8 (aI c9 (aI c10 trivial))))))))))) (by kernel_rfl)
theorem P7_4 (i0 i1 i2 i3 : Int) (b0 b1 b2 b3 : Bool) (x0 x1 x2 : List V) (o0 o1 o2 : Option Bool) (n0 n1 n2 k : Nat)
    (c0 : SlcP true 2 (V.sl o0 b0 n0 x0) none (some (vi (if 12 < (↑x0.length : Int) then 12 else (↑x0.length : Int)))) none (V.sl o0 false n0 (List.take (if 12 < (↑x0.length : Int) then 12 else (↑x0.length : Int)).toNat x0)))
    (c1 : cP ((k + 17)) 24 [V.sl o0 false n0 (List.take (if 12 < (↑x0.length : Int) then 12 else (↑x0.length : Int)).toNat x0)] = some (V.tup [V.sl o1 b1 n1 x1, vi i0]))
    (c2 : cP ((k + 17)) 16 [V.sl o0 false n0 (List.take (if 12 < (↑x0.length : Int) then 12 else (↑x0.length : Int)).toNat x0)] = some (vi i1))
    (c3 : (!decide (i1 = 0)) = false)
    (c4 : cP ((k + 17)) 25 [V.sl o0 false n0 (List.take (if 12 < (↑x0.length : Int) then 12 else (↑x0.length : Int)).toNat x0)] = some (V.sl o2 b2 n2 x2))
    (c5 : decide ((↑x2.length : Int) = 1) = true)
    (c6 : IdxP x2 0 n2 2 (V.agg [vu i2, vu i3]))
    (c7 : (decide (i2 = 0) && (decide (i3 = 18446744073709551615) && true)) = true)
    (c8 : cP ((k + 17)) 11 [] = some (V.bool b3))
    (c9 : b3 = true)
    (c10 : decide (i0 = 2) = false) :
    cP ((k + 18)) 7 [V.sl o0 b0 n0 x0] = some (V.bool false) :=
  byF (k := k) (d := 18) [Hn.op 11 (V.sl o0 false n0 (List.take (if 12 < (↑x0.length : Int) then 12 else (↑x0.length : Int)).toNat x0)) [], Hn.call 14 (V.tup [V.sl o1 b1 n1 x1, vi i0]), Hn.call 18 (vi i1), Hn.br 20 false, Hn.call 33 (V.sl o2 b2 n2 x2), Hn.br 37 true, Hn.op 39 ((V.agg [vu i2, vu i3]).cpt 0) [], Hn.br 43 true, Hn.call 44 (V.bool b3), Hn.br 45 true, Hn.br 49 false] (aI c0 (aI c1 (aI c2 (aI c3 (aI c4 (aI c5 (aI c6 (aI c7 (aI c8 (aI c9 (aI c10 trivial))))))))))) (by kernel_rfl)
theorem P7_5 (i0 i1 i2 i3 : Int) (b0 b1 b2 b3 : Bool) (x0 x1 x2 : List V) (o0 o1 o2 : Option Bool) (n0 n1 n2 k : Nat)
    (c0 : SlcP true 2 (V.sl o0 b0 n0 x0) none (some (vi (if 12 < (↑x0.length : Int) then 12 else (↑x0.length : Int)))) none (V.sl o0 false n0 (List.take (if 12 < (↑x0.length : Int) then 12 else (↑x0.length : Int)).toNat x0)))
    (c1 : cP ((k + 17)) 24 [V.sl o0 false n0 (List.take (if 12 < (↑x0.length : Int) then 12 else (↑x0.length : Int)).toNat x0)] = some (V.tup [V.sl o1 b1 n1 x1, vi i0]))
    (c2 : cP ((k + 17)) 16 [V.sl o0 false n0 (List.take (if 12 < (↑x0.length : Int) then 12 else (↑x0.length : Int)).toNat x0)] = some (vi i1))
    (c3 : (!decide (i1 = 0)) = false)
    (c4 : cP ((k + 17)) 25 [V.sl o0 false n0 (List.take (if 12 < (↑x0.length : Int) then 12 else (↑x0.length : Int)).toNat x0)] = some (V.sl o2 b2 n2 x2))
    (c5 : decide ((↑x2.length : Int) = 1) = true)
    (c6 : IdxP x2 0 n2 2 (V.agg [vu i2, vu i3]))
    (c7 : (decide (i2 = 0) && (decide (i3 = 18446744073709551615) && true)) = true)
    (c8 : cP ((k + 17)) 11 [] = some (V.bool b3))
    (c9 : b3 = false) :
    cP ((k + 18)) 7 [V.sl o0 b0 n0 x0] = some (V.bool false) :=
  byF (k := k) (d := 18) [Hn.op 11 (V.sl o0 false n0 (List.take (if 12 < (↑x0.length : Int) then 12 else (↑x0.length : Int)).toNat x0)) [], Hn.call 14 (V.tup [V.sl o1 b1 n1 x1, vi i0]), Hn.call 18 (vi i1), Hn.br 20 false, Hn.call 33 (V.sl o2 b2 n2 x2), Hn.br 37 true, Hn.op 39 ((V.agg [vu i2, vu i3]).cpt 0) [], Hn.br 43 true, Hn.call 44 (V.bool b3), Hn.br 45 false] (aI c0 (aI c1 (aI c2 (aI c3 (aI c4 (aI c5 (aI c6 (aI c7 (aI c8 (aI c9 trivial)))))))))) (by kernel_rfl)
theorem P7_6 (i0 i1 i2 i3 : Int) (b0 b1 b2 b3 b4 b5 : Bool) (x0 x1 x2 x3 : List V) (o0 o1 o2 o3 : Option Bool) (n0 n1 n2 n3 k : Nat)
    (c0 : SlcP true 2 (V.sl o0 b0 n0 x0) none (some (vi (if 12 < (↑x0.length : Int) then 12 else (↑x0.length : Int)))) none (V.sl o0 false n0 (List.take (if 12 < (↑x0.length : Int) then 12 else (↑x0.length : Int)).toNat x0)))
    (c1 : cP ((k + 17)) 24 [V.sl o0 false n0 (List.take (if 12 < (↑x0.length : Int) then 12 else (↑x0.length : Int)).toNat x0)] = some (V.tup [V.sl o1 b1 n1 x1, vi i0]))
    (c2 : cP ((k + 17)) 16 [V.sl o0 false n0 (List.take (if 12 < (↑x0.length : Int) then 12 else (↑x0.length : Int)).toNat x0)] = some (vi i1))
    (c3 : (!decide (i1 = 0)) = false)
    (c4 : cP ((k + 17)) 25 [V.sl o0 false n0 (List.take (if 12 < (↑x0.length : Int) then 12 else (↑x0.length : Int)).toNat x0)] = some (V.sl o2 b2 n2 x2))
    (c5 : decide ((↑x2.length : Int) = 1) = true)
    (c6 : IdxP x2 0 n2 2 (V.agg [vu i2, vu i3]))
    (c7 : (decide (i2 = 0) && (decide (i3 = 18446744073709551615) && true)) = false)
    (c8 : cP ((k + 17)) 11 [] = some (V.bool b3))
    (c9 : b3 = true)
    (c10 : decide (i0 = 0) = true)
    (c11 : cP ((k + 17)) 26 [V.sl o0 false n0 (List.take (if 12 < (↑x0.length : Int) then 12 else (↑x0.length : Int)).toNat x0)] = some (V.sl o3 b4 n3 x3))
    (c12 : cP ((k + 17)) 17 [V.sl o1 b1 n1 x1, V.sl o3 b4 n3 x3] = some (V.bool b5)) :
    cP ((k + 18)) 7 [V.sl o0 b0 n0 x0] = some (V.bool b5) :=
  byF (k := k) (d := 18) [Hn.op 11 (V.sl o0 false n0 (List.take (if 12 < (↑x0.length : Int) then 12 else (↑x0.length : Int)).toNat x0)) [], Hn.call 14 (V.tup [V.sl o1 b1 n1 x1, vi i0]), Hn.call 18 (vi i1), Hn.br 20 false, Hn.call 33 (V.sl o2 b2 n2 x2), Hn.br 37 true, Hn.op 39 ((V.agg [vu i2, vu i3]).cpt 0) [], Hn.br 43 false, Hn.call 54 (V.bool b3), Hn.br 55 true, Hn.br 59 true, Hn.call 62 (V.sl o3 b4 n3 x3), Hn.call 63 (V.bool b5)] (aI c0 (aI c1 (aI c2 (aI c3 (aI c4 (aI c5 (aI c6 (aI c7 (aI c8 (aI c9 (aI c10 (aI c11 (aI c12 trivial))))))))))))) (by kernel_rfl)
theorem P7_7 (i0 i1 i2 i3 : Int) (b0 b1 b2 b3 : Bool) (x0 x1 x2 : List V) (o0 o1 o2 : Option Bool) (n0 n1 n2 k : Nat)
    (c0 : SlcP true 2 (V.sl o0 b0 n0 x0) none (some (vi (if 12 < (↑x0.length : Int) then 12 else (↑x0.length : Int)))) none (V.sl o0 false n0 (List.take (if 12 < (↑x0.length : Int) then 12 else (↑x0.length : Int)).toNat x0)))
    (c1 : cP ((k + 17)) 24 [V.sl o0 false n0 (List.take (if 12 < (↑x0.length : Int) then 12 else (↑x0.length : Int)).toNat x0)] = some (V.tup [V.sl o1 b1 n1 x1, vi i0]))
    (c2 : cP ((k + 17)) 16 [V.sl o0 false n0 (List.take (if 12 < (↑x0.length : Int) then 12 else (↑x0.length : Int)).toNat x0)] = some (vi i1))
    (c3 : (!decide (i1 = 0)) = false)
    (c4 : cP ((k + 17)) 25 [V.sl o0 false n0 (List.take (if 12 < (↑x0.length : Int) then 12 else (↑x0.length : Int)).toNat x0)] = some (V.sl o2 b2 n2 x2))
    (c5 : decide ((↑x2.length : Int) = 1) = true)
    (c6 : IdxP x2 0 n2 2 (V.agg [vu i2, vu i3]))
    (c7 : (decide (i2 = 0) && (decide (i3 = 18446744073709551615) && true)) = false)
    (c8 : cP ((k + 17)) 11 [] = some (V.bool b3))
    (c9 : b3 = true)
    (c10 : decide (i0 = 0) = false) :
    cP ((k + 18)) 7 [V.sl o0 b0 n0 x0] = some (V.bool false) :=
  byF (k := k) (d := 18) [Hn.op 11 (V.sl o0 false n0 (List.take (if 12 < (↑x0.length : Int) then 12 else (↑x0.length : Int)).toNat x0)) [], Hn.call 14 (V.tup [V.sl o1 b1 n1 x1, vi i0]), Hn.call 18 (vi i1), Hn.br 20 false, Hn.call 33 (V.sl o2 b2 n2 x2), Hn.br 37 true, Hn.op 39 ((V.agg [vu i2, vu i3]).cpt 0) [], Hn.br 43 false, Hn.call 54 (V.bool b3), Hn.br 55 true, Hn.br 59 false] (aI c0 (aI c1 (aI c2 (aI c3 (aI c4 (aI c5 (aI c6 (aI c7 (aI c8 (aI c9 (aI c10 trivial))))))))))) (by kernel_rfl)
theorem P7_8 (i0 i1 i2 i3 : Int) (b0 b1 b2 b3 : Bool) (x0 x1 x2 : List V) (o0 o1 o2 : Option Bool) (n0 n1 n2 k : Nat)
    (c0 : SlcP true 2 (V.sl o0 b0 n0 x0) none (some (vi (if 12 < (↑x0.length : Int) then 12 else (↑x0.length : Int)))) none (V.sl o0 false n0 (List.take (if 12 < (↑x0.length : Int) then 12 else (↑x0.length : Int)).toNat x0)))
    (c1 : cP ((k + 17)) 24 [V.sl o0 false n0 (List.take (if 12 < (↑x0.length : Int) then 12 else (↑x0.length : Int)).toNat x0)] = some (V.tup [V.sl o1 b1 n1 x1, vi i0]))
    (c2 : cP ((k + 17)) 16 [V.sl o0 false n0 (List.take (if 12 < (↑x0.length : Int) then 12 else (↑x0.length : Int)).toNat x0)] = some (vi i1))
    (c3 : (!decide (i1 = 0)) = false)
    (c4 : cP ((k + 17)) 25 [V.sl o0 false n0 (List.take (if 12 < (↑x0.length : Int) then 12 else (↑x0.length : Int)).toNat x0)] = some (V.sl o2 b2 n2 x2))
    (c5 : decide ((↑x2.length : Int) = 1) = true)
    (c6 : IdxP x2 0 n2 2 (V.agg [vu i2, vu i3]))
    (c7 : (decide (i2 = 0) && (decide (i3 = 18446744073709551615) && true)) = false)
    (c8 : cP ((k + 17)) 11 [] = some (V.bool b3))
    (c9 : b3 = false) :
    cP ((k + 18)) 7 [V.sl o0 b0 n0 x0] = some (V.bool false) :=
  byF (k := k) (d := 18) [Hn.op 11 (V.sl o0 false n0 (List.take (if 12 < (↑x0.length : Int) then 12 else (↑x0.length : Int)).toNat x0)) [], Hn.call 14 (V.tup [V.sl o1 b1 n1 x1, vi i0]), Hn.call 18 (vi i1), Hn.br 20 false, Hn.call 33 (V.sl o2 b2 n2 x2), Hn.br 37 true, Hn.op 39 ((V.agg [vu i2, vu i3]).cpt 0) [], Hn.br 43 false, Hn.call 54 (V.bool b3), Hn.br 55 false] (aI c0 (aI c1 (aI c2 (aI c3 (aI c4 (aI c5 (aI c6 (aI c7 (aI c8 (aI c9 trivial)))))))))) (by kernel_rfl)
theorem P7_9 (i0 i1 : Int) (b0 b1 b2 b3 b4 b5 : Bool) (x0 x1 x2 x3 : List V) (o0 o1 o2 o3 : Option Bool) (n0 n1 n2 n3 k : Nat)
    (c0 : SlcP true 2 (V.sl o0 b0 n0 x0) none (some (vi (if 12 < (↑x0.length : Int) then 12 else (↑x0.length : Int)))) none (V.sl o0 false n0 (List.take (if 12 < (↑x0.length : Int) then 12 else (↑x0.length : Int)).toNat x0)))
    (c1 : cP ((k + 17)) 24 [V.sl o0 false n0 (List.take (if 12 < (↑x0.length : Int) then 12 else (↑x0.length : Int)).toNat x0)] = some (V.tup [V.sl o1 b1 n1 x1, vi i0]))
    (c2 : cP ((k + 17)) 16 [V.sl o0 false n0 (List.take (if 12 < (↑x0.length : Int) then 12 else (↑x0.length : Int)).toNat x0)] = some (vi i1))
    (c3 : (!decide (i1 = 0)) = false)
    (c4 : cP ((k + 17)) 25 [V.sl o0 false n0 (List.take (if 12 < (↑x0.length : Int) then 12 else (↑x0.length : Int)).toNat x0)] = some (V.sl o2 b2 n2 x2))
    (c5 : decide ((↑x2.length : Int) = 1) = false)
    (c6 : cP ((k + 17)) 11 [] = some (V.bool b3))
    (c7 : b3 = true)
    (c8 : decide (i0 = 0) = true)
    (c9 : cP ((k + 17)) 26 [V.sl o0 false n0 (List.take (if 12 < (↑x0.length : Int) then 12 else (↑x0.length : Int)).toNat x0)] = some (V.sl o3 b4 n3 x3))
    (c10 : cP ((k + 17)) 17 [V.sl o1 b1 n1 x1, V.sl o3 b4 n3 x3] = some (V.bool b5)) :
    cP ((k + 18)) 7 [V.sl o0 b0 n0 x0] = some (V.bool b5) :=
  byF (k := k) (d := 18) [Hn.op 11 (V.sl o0 false n0 (List.take (if 12 < (↑x0.length : Int) then 12 else (↑x0.length : Int)).toNat x0)) [], Hn.call 14 (V.tup [V.sl o1 b1 n1 x1, vi i0]), Hn.call 18 (vi i1), Hn.br 20 false, Hn.call 33 (V.sl o2 b2 n2 x2), Hn.br 37 false, Hn.call 54 (V.bool b3), Hn.br 55 true, Hn.br 59 true, Hn.call 62 (V.sl o3 b4 n3 x3), Hn.call 63 (V.bool b5)] (aI c0 (aI c1 (aI c2 (aI c3 (aI c4 (aI c5 (aI c6 (aI c7 (aI c8 (aI c9 (aI c10 trivial))))))))))) (by kernel_rfl)
theorem P7_10 (i0 i1 : Int) (b0 b1 b2 b3 : Bool) (x0 x1 x2 : List V) (o0 o1 o2 : Option Bool) (n0 n1 n2 k : Nat)
    (c0 : SlcP true 2 (V.sl o0 b0 n0 x0) none (some (vi (if 12 < (↑x0.length : Int) then 12 else (↑x0.length : Int)))) none (V.sl o0 false n0 (List.take (if 12 < (↑x0.length : Int) then 12 else (↑x0.length : Int)).toNat x0)))
    (c1 : cP ((k + 17)) 24 [V.sl o0 false n0 (List.take (if 12 < (↑x0.length : Int) then 12 else (↑x0.length : Int)).toNat x0)] = some (V.tup [V.sl o1 b1 n1 x1, vi i0]))
    (c2 : cP ((k + 17)) 16 [V.sl o0 false n0 (List.take (if 12 < (↑x0.length : Int) then 12 else (↑x0.length : Int)).toNat x0)] = some (vi i1))
    (c3 : (!decide (i1 = 0)) = false)
    (c4 : cP ((k + 17)) 25 [V.sl o0 false n0 (List.take (if 12 < (↑x0.length : Int) then 12 else (↑x0.length : Int)).toNat x0)] = some (V.sl o2 b2 n2 x2))
    (c5 : decide ((↑x2.length : Int) = 1) = false)
    (c6 : cP ((k + 17)) 11 [] = some (V.bool b3))
    (c7 : b3 = true)
    (c8 : decide (i0 = 0) = false) :
    cP ((k + 18)) 7 [V.sl o0 b0 n0 x0] = some (V.bool false) :=
  byF (k := k) (d := 18) [Hn.op 11 (V.sl o0 false n0 (List.take (if 12 < (↑x0.length : Int) then 12 else (↑x0.length : Int)).toNat x0)) [], Hn.call 14 (V.tup [V.sl o1 b1 n1 x1, vi i0]), Hn.call 18 (vi i1), Hn.br 20 false, Hn.call 33 (V.sl o2 b2 n2 x2), Hn.br 37 false, Hn.call 54 (V.bool b3), Hn.br 55 true, Hn.br 59 false] (aI c0 (aI c1 (aI c2 (aI c3 (aI c4 (aI c5 (aI c6 (aI c7 (aI c8 trivial))))))))) (by kernel_rfl)
theorem P7_11 (i0 i1 : Int) (b0 b1 b2 b3 : Bool) (x0 x1 x2 : List V) (o0 o1 o2 : Option Bool) (n0 n1 n2 k : Nat)
    (c0 : SlcP true 2 (V.sl o0 b0 n0 x0) none (some (vi (if 12 < (↑x0.length : Int) then 12 else (↑x0.length : Int)))) none (V.sl o0 false n0 (List.take (if 12 < (↑x0.length : Int) then 12 else (↑x0.length : Int)).toNat x0)))
    (c1 : cP ((k + 17)) 24 [V.sl o0 false n0 (List.take (if 12 < (↑x0.length : Int) then 12 else (↑x0.length : Int)).toNat x0)] = some (V.tup [V.sl o1 b1 n1 x1, vi i0]))
    (c2 : cP ((k + 17)) 16 [V.sl o0 false n0 (List.take (if 12 < (↑x0.length : Int) then 12 else (↑x0.length : Int)).toNat x0)] = some (vi i1))
    (c3 : (!decide (i1 = 0)) = false)
    (c4 : cP ((k + 17)) 25 [V.sl o0 false n0 (List.take (if 12 < (↑x0.length : Int) then 12 else (↑x0.length : Int)).toNat x0)] = some (V.sl o2 b2 n2 x2))
    (c5 : decide ((↑x2.length : Int) = 1) = false)
    (c6 : cP ((k + 17)) 11 [] = some (V.bool b3))
    (c7 : b3 = false) :
    cP ((k + 18)) 7 [V.sl o0 b0 n0 x0] = some (V.bool false) :=
  byF (k := k) (d := 18) [Hn.op 11 (V.sl o0 false n0 (List.take (if 12 < (↑x0.length : Int) then 12 else (↑x0.length : Int)).toNat x0)) [], Hn.call 14 (V.tup [V.sl o1 b1 n1 x1, vi i0]), Hn.call 18 (vi i1), Hn.br 20 false, Hn.call 33 (V.sl o2 b2 n2 x2), Hn.br 37 false, Hn.call 54 (V.bool b3), Hn.br 55 false] (aI c0 (aI c1 (aI c2 (aI c3 (aI c4 (aI c5 (aI c6 (aI c7 trivial)))))))) (by kernel_rfl)
def F7 (k : Nat) (o0 : Option Bool) (b0 : Bool) (n0 : Nat) (x0 : List V) : Option (Bool) :=
  (guardP (n0 = (2 : Nat)) (guardP (((0 : Int) ≤ if (12 : Int) < (↑x0.length : Int) then (12 : Int) else (↑x0.length : Int)) ∧ (if (12 : Int) < (↑x0.length : Int) then (12 : Int) else (↑x0.length : Int)) ≤ (↑x0.length : Int)) ((F24 (k + 8) (o0) (false) (n0) (List.take (if 12 < (↑x0.length : Int) then 12 else (↑x0.length : Int)).toNat x0)).bind fun (o1, b1, n1, x1, i0) => ((F16 (k + 11) (o0) (false) (n0) (List.take (if 12 < (↑x0.length : Int) then 12 else (↑x0.length : Int)).toNat x0)).bind fun i1 => (bif !decide (i1 = 0) then ((F11 (k + 5)).bind fun b2 => (bif b2 then (bif decide (i0 = i1) then (some (decide ((↑x1.length : Int) = 0))) else (some (false))) else (some (false)))) else ((F25 (k + 5) (o0) (false) (n0) (List.take (if 12 < (↑x0.length : Int) then 12 else (↑x0.length : Int)).toNat x0)).bind fun (o2, b2, n2, x2) => (bif decide ((↑x2.length : Int) = 1) then (guardP (n2 = (2 : Nat)) (((at? (x2) (0)).bind dAu64u64Z).bind fun (i2, i3) => (bif decide (i2 = 0) && (decide (i3 = 18446744073709551615) && true) then ((F11 (k + 5)).bind fun b3 => (bif b3 then (bif decide (i0 = 2) then (some (decide ((↑x1.length : Int) = 0))) else (some (false))) else (some (false)))) else ((F11 (k + 5)).bind fun b3 => (bif b3 then (bif decide (i0 = 0) then ((F26 (k + 2) (o0) (false) (n0) (List.take (if 12 < (↑x0.length : Int) then 12 else (↑x0.length : Int)).toNat x0)).bind fun (o3, b4, n3, x3) => ((F17 (k + 14) (o1) (b1) (n1) (x1) (o3) (b4) (n3) (x3)).bind fun b5 => (some (b5)))) else (some (false))) else (some (false))))))) else ((F11 (k + 5)).bind fun b3 => (bif b3 then (bif decide (i0 = 0) then ((F26 (k + 2) (o0) (false) (n0) (List.take (if 12 < (↑x0.length : Int) then 12 else (↑x0.length : Int)).toNat x0)).bind fun (o3, b4, n3, x3) => ((F17 (k + 14) (o1) (b1) (n1) (x1) (o3) (b4) (n3) (x3)).bind fun b5 => (some (b5)))) else (some (false))) else (some (false)))))))))))
theorem F7_ok {o0 : Option Bool} {b0 : Bool} {n0 : Nat} {x0 : List V} {k : Nat} {r : Bool} (h : F7 k o0 b0 n0 x0 = some r) :
    cP ((k + 18)) 7 [V.sl o0 b0 n0 x0] = some (V.bool r) := by
  unfold F7 at h
  obtain ⟨e0, h⟩ := guardP_some.1 h
  obtain ⟨e1, h⟩ := guardP_some.1 h
  obtain ⟨⟨o1, b1, n1, x1, i0⟩, e2, h⟩ := bE h
  obtain ⟨i1, e3, h⟩ := bE h
  rcases cond_elim h with ⟨e4, h⟩ | ⟨e4, h⟩
  ·
    obtain ⟨b2, e5, h⟩ := bE h
    rcases cond_elim h with ⟨e6, h⟩ | ⟨e6, h⟩
    ·
      rcases cond_elim h with ⟨e7, h⟩ | ⟨e7, h⟩
      ·
        have h := Option.some.inj h; subst h; exact P7_0 i0 i1 b0 b1 b2 x0 x1 o0 o1 n0 n1 k (SlcP.uptoS e1 e0) (F24_ok e2) (F16_ok e3) e4 (F11_ok e5) e6 e7
      ·
        have h := Option.some.inj h; subst h; exact P7_1 i0 i1 b0 b1 b2 x0 x1 o0 o1 n0 n1 k (SlcP.uptoS e1 e0) (F24_ok e2) (F16_ok e3) e4 (F11_ok e5) e6 e7
    ·
      have h := Option.some.inj h; subst h; exact P7_2 i0 i1 b0 b1 b2 x0 x1 o0 o1 n0 n1 k (SlcP.uptoS e1 e0) (F24_ok e2) (F16_ok e3) e4 (F11_ok e5) e6
  ·
    obtain ⟨⟨o2, b2, n2, x2⟩, e5, h⟩ := bE h
    rcases cond_elim h with ⟨e6, h⟩ | ⟨e6, h⟩
    ·
      obtain ⟨e7, h⟩ := guardP_some.1 h
      obtain ⟨⟨i2, i3⟩, e8, h⟩ := bE h
      rcases cond_elim h with ⟨e9, h⟩ | ⟨e9, h⟩
      ·
        obtain ⟨b3, e10, h⟩ := bE h
        rcases cond_elim h with ⟨e11, h⟩ | ⟨e11, h⟩
        ·
          rcases cond_elim h with ⟨e12, h⟩ | ⟨e12, h⟩
          ·
            have h := Option.some.inj h; subst h; exact P7_3 i0 i1 i2 i3 b0 b1 b2 b3 x0 x1 x2 o0 o1 o2 n0 n1 n2 k (SlcP.uptoS e1 e0) (F24_ok e2) (F16_ok e3) e4 (F25_ok e5) e6 (IdxP.of_at' (at_d dAu64u64Z_ok e8 :) e7) e9 (F11_ok e10) e11 e12
          ·
            have h := Option.some.inj h; subst h; exact P7_4 i0 i1 i2 i3 b0 b1 b2 b3 x0 x1 x2 o0 o1 o2 n0 n1 n2 k (SlcP.uptoS e1 e0) (F24_ok e2) (F16_ok e3) e4 (F25_ok e5) e6 (IdxP.of_at' (at_d dAu64u64Z_ok e8 :) e7) e9 (F11_ok e10) e11 e12
        ·
          have h := Option.some.inj h; subst h; exact P7_5 i0 i1 i2 i3 b0 b1 b2 b3 x0 x1 x2 o0 o1 o2 n0 n1 n2 k (SlcP.uptoS e1 e0) (F24_ok e2) (F16_ok e3) e4 (F25_ok e5) e6 (IdxP.of_at' (at_d dAu64u64Z_ok e8 :) e7) e9 (F11_ok e10) e11
      ·
        obtain ⟨b3, e10, h⟩ := bE h
        rcases cond_elim h with ⟨e11, h⟩ | ⟨e11, h⟩
        ·
          rcases cond_elim h with ⟨e12, h⟩ | ⟨e12, h⟩
          ·
            obtain ⟨⟨o3, b4, n3, x3⟩, e13, h⟩ := bE h
            obtain ⟨b5, e14, h⟩ := bE h
            have h := Option.some.inj h; subst h; exact P7_6 i0 i1 i2 i3 b0 b1 b2 b3 b4 b5 x0 x1 x2 x3 o0 o1 o2 o3 n0 n1 n2 n3 k (SlcP.uptoS e1 e0) (F24_ok e2) (F16_ok e3) e4 (F25_ok e5) e6 (IdxP.of_at' (at_d dAu64u64Z_ok e8 :) e7) e9 (F11_ok e10) e11 e12 (F26_ok e13) (F17_ok e14)
          ·
            have h := Option.some.inj h; subst h; exact P7_7 i0 i1 i2 i3 b0 b1 b2 b3 x0 x1 x2 o0 o1 o2 n0 n1 n2 k (SlcP.uptoS e1 e0) (F24_ok e2) (F16_ok e3) e4 (F25_ok e5) e6 (IdxP.of_at' (at_d dAu64u64Z_ok e8 :) e7) e9 (F11_ok e10) e11 e12
        ·
          have h := Option.some.inj h; subst h; exact P7_8 i0 i1 i2 i3 b0 b1 b2 b3 x0 x1 x2 o0 o1 o2 n0 n1 n2 k (SlcP.uptoS e1 e0) (F24_ok e2) (F16_ok e3) e4 (F25_ok e5) e6 (IdxP.of_at' (at_d dAu64u64Z_ok e8 :) e7) e9 (F11_ok e10) e11
    ·
      obtain ⟨b3, e7, h⟩ := bE h
      rcases cond_elim h with ⟨e8, h⟩ | ⟨e8, h⟩
      ·
        rcases cond_elim h with ⟨e9, h⟩ | ⟨e9, h⟩
        ·
          obtain ⟨⟨o3, b4, n3, x3⟩, e10, h⟩ := bE h
          obtain ⟨b5, e11, h⟩ := bE h
          have h := Option.some.inj h; subst h; exact P7_9 i0 i1 b0 b1 b2 b3 b4 b5 x0 x1 x2 x3 o0 o1 o2 o3 n0 n1 n2 n3 k (SlcP.uptoS e1 e0) (F24_ok e2) (F16_ok e3) e4 (F25_ok e5) e6 (F11_ok e7) e8 e9 (F26_ok e10) (F17_ok e11)
        ·
          have h := Option.some.inj h; subst h; exact P7_10 i0 i1 b0 b1 b2 b3 x0 x1 x2 o0 o1 o2 n0 n1 n2 k (SlcP.uptoS e1 e0) (F24_ok e2) (F16_ok e3) e4 (F25_ok e5) e6 (F11_ok e7) e8 e9
      ·
        have h := Option.some.inj h; subst h; exact P7_11 i0 i1 b0 b1 b2 b3 x0 x1 x2 o0 o1 o2 n0 n1 n2 k (SlcP.uptoS e1 e0) (F24_ok e2) (F16_ok e3) e4 (F25_ok e5) e6 (F11_ok e7) e8
end Go.Proofs
