/-
  What the laws CodecSplits and CodecBack answer, each checked against the program.
-/
import Derived.Test.YtegmincienhapaaDoorCd5
set_option linter.unusedVariables false
set_option maxHeartbeats 0
set_option maxRecDepth 100000
namespace Go.Proofs
open Go Go.Sym

theorem P3_0 (i0 i1 i2 i3 : Int) (b0 b1 b2 b3 : Bool) (s0 s1 : List UInt8) (x0 x1 : List V) (o0 o1 : Option Bool) (n0 n1 k : Nat)
    (c0 : SlcP false 0 (V.str s1) none (some (vi (if 30 < (↑s1.length : Int) then 30 else (↑s1.length : Int)))) none (V.str (List.take (if 30 < (↑s1.length : Int) then 30 else (↑s1.length : Int)).toNat s1)))
    (c1 : cP ((k + 11)) 6 [V.str s0, V.str (List.take (if 30 < (↑s1.length : Int) then 30 else (↑s1.length : Int)).toNat s1)] = some (V.tup [V.sl o0 b0 n0 x0, vi i0, vi i1]))
    (c2 : cP ((k + 11)) 7 [V.str s0, V.str (List.take (if 30 < (↑s1.length : Int) then 30 else (↑s1.length : Int)).toNat s1)] = some (V.agg [V.sl o1 b1 n1 x1, vi i2, vi i3]))
    (c3 : cP ((k + 11)) 8 [] = some (V.bool b2))
    (c4 : b2 = true)
    (c5 : decide (i1 = i3) = true)
    (c6 : decide (i0 = i2) = true)
    (c7 : cP ((k + 11)) 9 [V.sl o0 b0 n0 x0, V.sl o1 b1 n1 x1] = some (V.bool b3)) :
    cP ((k + 12)) 3 [V.str s0, V.str s1] = some (V.bool b3) :=
  byF (k := k) (d := 12) [Hn.op 13 (V.str (List.take (if 30 < (↑s1.length : Int) then 30 else (↑s1.length : Int)).toNat s1)) [], Hn.call 17 (V.tup [V.sl o0 b0 n0 x0, vi i0, vi i1]), Hn.call 23 (V.agg [V.sl o1 b1 n1 x1, vi i2, vi i3]), Hn.call 24 (V.bool b2), Hn.br 25 true, Hn.br 31 true, Hn.br 37 true, Hn.call 41 (V.bool b3)] (aI c0 (aI c1 (aI c2 (aI c3 (aI c4 (aI c5 (aI c6 (aI c7 trivial)))))))) (by kernel_rfl)
theorem P3_1 (i0 i1 i2 i3 : Int) (b0 b1 b2 : Bool) (s0 s1 : List UInt8) (x0 x1 : List V) (o0 o1 : Option Bool) (n0 n1 k : Nat)
    (c0 : SlcP false 0 (V.str s1) none (some (vi (if 30 < (↑s1.length : Int) then 30 else (↑s1.length : Int)))) none (V.str (List.take (if 30 < (↑s1.length : Int) then 30 else (↑s1.length : Int)).toNat s1)))
    (c1 : cP ((k + 11)) 6 [V.str s0, V.str (List.take (if 30 < (↑s1.length : Int) then 30 else (↑s1.length : Int)).toNat s1)] = some (V.tup [V.sl o0 b0 n0 x0, vi i0, vi i1]))
    (c2 : cP ((k + 11)) 7 [V.str s0, V.str (List.take (if 30 < (↑s1.length : Int) then 30 else (↑s1.length : Int)).toNat s1)] = some (V.agg [V.sl o1 b1 n1 x1, vi i2, vi i3]))
    (c3 : cP ((k + 11)) 8 [] = some (V.bool b2))
    (c4 : b2 = true)
    (c5 : decide (i1 = i3) = true)
    (c6 : decide (i0 = i2) = false) :
    cP ((k + 12)) 3 [V.str s0, V.str s1] = some (V.bool false) :=
  byF (k := k) (d := 12) [Hn.op 13 (V.str (List.take (if 30 < (↑s1.length : Int) then 30 else (↑s1.length : Int)).toNat s1)) [], Hn.call 17 (V.tup [V.sl o0 b0 n0 x0, vi i0, vi i1]), Hn.call 23 (V.agg [V.sl o1 b1 n1 x1, vi i2, vi i3]), Hn.call 24 (V.bool b2), Hn.br 25 true, Hn.br 31 true, Hn.br 37 false] (aI c0 (aI c1 (aI c2 (aI c3 (aI c4 (aI c5 (aI c6 trivial))))))) (by kernel_rfl)
theorem P3_2 (i0 i1 i2 i3 : Int) (b0 b1 b2 : Bool) (s0 s1 : List UInt8) (x0 x1 : List V) (o0 o1 : Option Bool) (n0 n1 k : Nat)
    (c0 : SlcP false 0 (V.str s1) none (some (vi (if 30 < (↑s1.length : Int) then 30 else (↑s1.length : Int)))) none (V.str (List.take (if 30 < (↑s1.length : Int) then 30 else (↑s1.length : Int)).toNat s1)))
    (c1 : cP ((k + 11)) 6 [V.str s0, V.str (List.take (if 30 < (↑s1.length : Int) then 30 else (↑s1.length : Int)).toNat s1)] = some (V.tup [V.sl o0 b0 n0 x0, vi i0, vi i1]))
    (c2 : cP ((k + 11)) 7 [V.str s0, V.str (List.take (if 30 < (↑s1.length : Int) then 30 else (↑s1.length : Int)).toNat s1)] = some (V.agg [V.sl o1 b1 n1 x1, vi i2, vi i3]))
    (c3 : cP ((k + 11)) 8 [] = some (V.bool b2))
    (c4 : b2 = true)
    (c5 : decide (i1 = i3) = false) :
    cP ((k + 12)) 3 [V.str s0, V.str s1] = some (V.bool false) :=
  byF (k := k) (d := 12) [Hn.op 13 (V.str (List.take (if 30 < (↑s1.length : Int) then 30 else (↑s1.length : Int)).toNat s1)) [], Hn.call 17 (V.tup [V.sl o0 b0 n0 x0, vi i0, vi i1]), Hn.call 23 (V.agg [V.sl o1 b1 n1 x1, vi i2, vi i3]), Hn.call 24 (V.bool b2), Hn.br 25 true, Hn.br 31 false] (aI c0 (aI c1 (aI c2 (aI c3 (aI c4 (aI c5 trivial)))))) (by kernel_rfl)
theorem P3_3 (i0 i1 i2 i3 : Int) (b0 b1 b2 : Bool) (s0 s1 : List UInt8) (x0 x1 : List V) (o0 o1 : Option Bool) (n0 n1 k : Nat)
    (c0 : SlcP false 0 (V.str s1) none (some (vi (if 30 < (↑s1.length : Int) then 30 else (↑s1.length : Int)))) none (V.str (List.take (if 30 < (↑s1.length : Int) then 30 else (↑s1.length : Int)).toNat s1)))
    (c1 : cP ((k + 11)) 6 [V.str s0, V.str (List.take (if 30 < (↑s1.length : Int) then 30 else (↑s1.length : Int)).toNat s1)] = some (V.tup [V.sl o0 b0 n0 x0, vi i0, vi i1]))
    (c2 : cP ((k + 11)) 7 [V.str s0, V.str (List.take (if 30 < (↑s1.length : Int) then 30 else (↑s1.length : Int)).toNat s1)] = some (V.agg [V.sl o1 b1 n1 x1, vi i2, vi i3]))
    (c3 : cP ((k + 11)) 8 [] = some (V.bool b2))
    (c4 : b2 = false) :
    cP ((k + 12)) 3 [V.str s0, V.str s1] = some (V.bool false) :=
  byF (k := k) (d := 12) [Hn.op 13 (V.str (List.take (if 30 < (↑s1.length : Int) then 30 else (↑s1.length : Int)).toNat s1)) [], Hn.call 17 (V.tup [V.sl o0 b0 n0 x0, vi i0, vi i1]), Hn.call 23 (V.agg [V.sl o1 b1 n1 x1, vi i2, vi i3]), Hn.call 24 (V.bool b2), Hn.br 25 false] (aI c0 (aI c1 (aI c2 (aI c3 (aI c4 trivial))))) (by kernel_rfl)
def F3 (k : Nat) (s0 s1 : List UInt8) : Option (Bool) :=
  (guardP (((0 : Int) ≤ if (30 : Int) < (↑s1.length : Int) then (30 : Int) else (↑s1.length : Int)) ∧ (if (30 : Int) < (↑s1.length : Int) then (30 : Int) else (↑s1.length : Int)) ≤ (↑s1.length : Int)) ((F6 (k + 2) (s0) (List.take (if 30 < (↑s1.length : Int) then 30 else (↑s1.length : Int)).toNat s1)).bind fun (o0, b0, n0, x0, i0, i1) => ((F7 (k + 2) (s0) (List.take (if 30 < (↑s1.length : Int) then 30 else (↑s1.length : Int)).toNat s1)).bind fun (o1, b1, n1, x1, i2, i3) => ((F8 (k + 2)).bind fun b2 => (bif b2 then (bif decide (i1 = i3) then (bif decide (i0 = i2) then ((F9 (k + 8) (o0) (b0) (n0) (x0) (o1) (b1) (n1) (x1)).bind fun b3 => (some (b3))) else (some (false))) else (some (false))) else (some (false)))))))
theorem F3_ok {s0 s1 : List UInt8} {k : Nat} {r : Bool} (h : F3 k s0 s1 = some r) :
    cP ((k + 12)) 3 [V.str s0, V.str s1] = some (V.bool r) := by
  unfold F3 at h
  obtain ⟨e0, h⟩ := guardP_some.1 h
  obtain ⟨⟨o0, b0, n0, x0, i0, i1⟩, e1, h⟩ := bE h
  obtain ⟨⟨o1, b1, n1, x1, i2, i3⟩, e2, h⟩ := bE h
  obtain ⟨b2, e3, h⟩ := bE h
  rcases cond_elim h with ⟨e4, h⟩ | ⟨e4, h⟩
  ·
    rcases cond_elim h with ⟨e5, h⟩ | ⟨e5, h⟩
    ·
      rcases cond_elim h with ⟨e6, h⟩ | ⟨e6, h⟩
      ·
        obtain ⟨b3, e7, h⟩ := bE h
        have h := Option.some.inj h; subst h; exact P3_0 i0 i1 i2 i3 b0 b1 b2 b3 s0 s1 x0 x1 o0 o1 n0 n1 k (SlcP.strUptoS e0) (F6_ok e1) (F7_ok e2) (F8_ok e3) e4 e5 e6 (F9_ok e7)
      ·
        have h := Option.some.inj h; subst h; exact P3_1 i0 i1 i2 i3 b0 b1 b2 s0 s1 x0 x1 o0 o1 n0 n1 k (SlcP.strUptoS e0) (F6_ok e1) (F7_ok e2) (F8_ok e3) e4 e5 e6
    ·
      have h := Option.some.inj h; subst h; exact P3_2 i0 i1 i2 i3 b0 b1 b2 s0 s1 x0 x1 o0 o1 n0 n1 k (SlcP.strUptoS e0) (F6_ok e1) (F7_ok e2) (F8_ok e3) e4 e5
  ·
    have h := Option.some.inj h; subst h; exact P3_3 i0 i1 i2 i3 b0 b1 b2 s0 s1 x0 x1 o0 o1 n0 n1 k (SlcP.strUptoS e0) (F6_ok e1) (F7_ok e2) (F8_ok e3) e4
theorem P4_0 (i0 i1 i2 : Int) (b0 b1 : Bool) (s0 s1 s2 s3 : List UInt8) (x0 x1 : List V) (o0 o1 : Option Bool) (n0 n1 k : Nat)
    (c0 : SlcP true 3 (V.sl o0 b0 n0 x0) none (some (vi (if 12 < (↑x0.length : Int) then 12 else (↑x0.length : Int)))) none (V.sl o0 false n0 (List.take (if 12 < (↑x0.length : Int) then 12 else (↑x0.length : Int)).toNat x0)))
    (c1 : SlcP false 0 (V.str s1) none (some (vi (if 30 < (↑s1.length : Int) then 30 else (↑s1.length : Int)))) none (V.str (List.take (if 30 < (↑s1.length : Int) then 30 else (↑s1.length : Int)).toNat s1)))
    (c2 : cP ((k + 11)) 10 [V.sl o0 false n0 (List.take (if 12 < (↑x0.length : Int) then 12 else (↑x0.length : Int)).toNat x0)] = some (V.tup [V.str s2, vi i0]))
    (c3 : decide (i0 = 0) = true)
    (c4 : cP ((k + 11)) 11 [V.sl o0 false n0 (List.take (if 12 < (↑x0.length : Int) then 12 else (↑x0.length : Int)).toNat x0)] = some (V.str s3))
    (c5 : cP ((k + 11)) 6 [V.str s2, V.str s3] = some (V.tup [V.sl o1 b1 n1 x1, vi i1, vi i2]))
    (c6 : (!decide (i2 = 0)) = true) :
    cP ((k + 12)) 4 [V.sl o0 b0 n0 x0, V.str s0, V.str s1] = some (V.bool false) :=
  byF (k := k) (d := 12) [Hn.op 21 (V.sl o0 false n0 (List.take (if 12 < (↑x0.length : Int) then 12 else (↑x0.length : Int)).toNat x0)) [], Hn.op 26 (V.str (List.take (if 30 < (↑s1.length : Int) then 30 else (↑s1.length : Int)).toNat s1)) [], Hn.call 29 (V.tup [V.str s2, vi i0]), Hn.br 33 true, Hn.call 37 (V.str s3), Hn.call 38 (V.tup [V.sl o1 b1 n1 x1, vi i1, vi i2]), Hn.br 44 true] (aI c0 (aI c1 (aI c2 (aI c3 (aI c4 (aI c5 (aI c6 trivial))))))) (by kernel_rfl)
theorem P4_1 (i0 i1 i2 : Int) (b0 b1 : Bool) (s0 s1 s2 s3 : List UInt8) (x0 x1 : List V) (o0 o1 : Option Bool) (n0 n1 k : Nat)
    (c0 : SlcP true 3 (V.sl o0 b0 n0 x0) none (some (vi (if 12 < (↑x0.length : Int) then 12 else (↑x0.length : Int)))) none (V.sl o0 false n0 (List.take (if 12 < (↑x0.length : Int) then 12 else (↑x0.length : Int)).toNat x0)))
    (c1 : SlcP false 0 (V.str s1) none (some (vi (if 30 < (↑s1.length : Int) then 30 else (↑s1.length : Int)))) none (V.str (List.take (if 30 < (↑s1.length : Int) then 30 else (↑s1.length : Int)).toNat s1)))
    (c2 : cP ((k + 11)) 10 [V.sl o0 false n0 (List.take (if 12 < (↑x0.length : Int) then 12 else (↑x0.length : Int)).toNat x0)] = some (V.tup [V.str s2, vi i0]))
    (c3 : decide (i0 = 0) = true)
    (c4 : cP ((k + 11)) 11 [V.sl o0 false n0 (List.take (if 12 < (↑x0.length : Int) then 12 else (↑x0.length : Int)).toNat x0)] = some (V.str s3))
    (c5 : cP ((k + 11)) 6 [V.str s2, V.str s3] = some (V.tup [V.sl o1 b1 n1 x1, vi i1, vi i2]))
    (c6 : (!decide (i2 = 0)) = false)
    (c7 : (!decide (i1 = 0)) = true) :
    cP ((k + 12)) 4 [V.sl o0 b0 n0 x0, V.str s0, V.str s1] = some (V.bool false) :=
  byF (k := k) (d := 12) [Hn.op 21 (V.sl o0 false n0 (List.take (if 12 < (↑x0.length : Int) then 12 else (↑x0.length : Int)).toNat x0)) [], Hn.op 26 (V.str (List.take (if 30 < (↑s1.length : Int) then 30 else (↑s1.length : Int)).toNat s1)) [], Hn.call 29 (V.tup [V.str s2, vi i0]), Hn.br 33 true, Hn.call 37 (V.str s3), Hn.call 38 (V.tup [V.sl o1 b1 n1 x1, vi i1, vi i2]), Hn.br 44 false, Hn.br 48 true] (aI c0 (aI c1 (aI c2 (aI c3 (aI c4 (aI c5 (aI c6 (aI c7 trivial)))))))) (by kernel_rfl)
theorem P4_2 (i0 i1 i2 : Int) (b0 b1 b2 : Bool) (s0 s1 s2 s3 : List UInt8) (x0 x1 : List V) (o0 o1 : Option Bool) (n0 n1 k : Nat)
    (c0 : SlcP true 3 (V.sl o0 b0 n0 x0) none (some (vi (if 12 < (↑x0.length : Int) then 12 else (↑x0.length : Int)))) none (V.sl o0 false n0 (List.take (if 12 < (↑x0.length : Int) then 12 else (↑x0.length : Int)).toNat x0)))
    (c1 : SlcP false 0 (V.str s1) none (some (vi (if 30 < (↑s1.length : Int) then 30 else (↑s1.length : Int)))) none (V.str (List.take (if 30 < (↑s1.length : Int) then 30 else (↑s1.length : Int)).toNat s1)))
    (c2 : cP ((k + 11)) 10 [V.sl o0 false n0 (List.take (if 12 < (↑x0.length : Int) then 12 else (↑x0.length : Int)).toNat x0)] = some (V.tup [V.str s2, vi i0]))
    (c3 : decide (i0 = 0) = true)
    (c4 : cP ((k + 11)) 11 [V.sl o0 false n0 (List.take (if 12 < (↑x0.length : Int) then 12 else (↑x0.length : Int)).toNat x0)] = some (V.str s3))
    (c5 : cP ((k + 11)) 6 [V.str s2, V.str s3] = some (V.tup [V.sl o1 b1 n1 x1, vi i1, vi i2]))
    (c6 : (!decide (i2 = 0)) = false)
    (c7 : (!decide (i1 = 0)) = false)
    (c8 : cP ((k + 11)) 9 [V.sl o1 b1 n1 x1, V.sl o0 false n0 (List.take (if 12 < (↑x0.length : Int) then 12 else (↑x0.length : Int)).toNat x0)] = some (V.bool b2))
    (c9 : (!b2) = true) :
    cP ((k + 12)) 4 [V.sl o0 b0 n0 x0, V.str s0, V.str s1] = some (V.bool false) :=
  byF (k := k) (d := 12) [Hn.op 21 (V.sl o0 false n0 (List.take (if 12 < (↑x0.length : Int) then 12 else (↑x0.length : Int)).toNat x0)) [], Hn.op 26 (V.str (List.take (if 30 < (↑s1.length : Int) then 30 else (↑s1.length : Int)).toNat s1)) [], Hn.call 29 (V.tup [V.str s2, vi i0]), Hn.br 33 true, Hn.call 37 (V.str s3), Hn.call 38 (V.tup [V.sl o1 b1 n1 x1, vi i1, vi i2]), Hn.br 44 false, Hn.br 48 false, Hn.call 51 (V.bool b2), Hn.br 53 true] (aI c0 (aI c1 (aI c2 (aI c3 (aI c4 (aI c5 (aI c6 (aI c7 (aI c8 (aI c9 trivial)))))))))) (by kernel_rfl)
theorem P4_3 (i0 i1 i2 i3 i4 : Int) (b0 b1 b2 b3 b4 : Bool) (s0 s1 s2 s3 : List UInt8) (x0 x1 x2 : List V) (o0 o1 o2 : Option Bool) (n0 n1 n2 k : Nat)
    (c0 : SlcP true 3 (V.sl o0 b0 n0 x0) none (some (vi (if 12 < (↑x0.length : Int) then 12 else (↑x0.length : Int)))) none (V.sl o0 false n0 (List.take (if 12 < (↑x0.length : Int) then 12 else (↑x0.length : Int)).toNat x0)))
    (c1 : SlcP false 0 (V.str s1) none (some (vi (if 30 < (↑s1.length : Int) then 30 else (↑s1.length : Int)))) none (V.str (List.take (if 30 < (↑s1.length : Int) then 30 else (↑s1.length : Int)).toNat s1)))
    (c2 : cP ((k + 11)) 10 [V.sl o0 false n0 (List.take (if 12 < (↑x0.length : Int) then 12 else (↑x0.length : Int)).toNat x0)] = some (V.tup [V.str s2, vi i0]))
    (c3 : decide (i0 = 0) = true)
    (c4 : cP ((k + 11)) 11 [V.sl o0 false n0 (List.take (if 12 < (↑x0.length : Int) then 12 else (↑x0.length : Int)).toNat x0)] = some (V.str s3))
    (c5 : cP ((k + 11)) 6 [V.str s2, V.str s3] = some (V.tup [V.sl o1 b1 n1 x1, vi i1, vi i2]))
    (c6 : (!decide (i2 = 0)) = false)
    (c7 : (!decide (i1 = 0)) = false)
    (c8 : cP ((k + 11)) 9 [V.sl o1 b1 n1 x1, V.sl o0 false n0 (List.take (if 12 < (↑x0.length : Int) then 12 else (↑x0.length : Int)).toNat x0)] = some (V.bool b2))
    (c9 : (!b2) = false)
    (c10 : cP ((k + 11)) 6 [V.str s0, V.str (List.take (if 30 < (↑s1.length : Int) then 30 else (↑s1.length : Int)).toNat s1)] = some (V.tup [V.sl o2 b3 n2 x2, vi i3, vi i4]))
    (c11 : (!decide (i4 = 0)) = true)
    (c12 : cP ((k + 11)) 8 [] = some (V.bool b4))
    (c13 : b4 = true)
    (c14 : decide ((↑x2.length : Int) = 0) = true)
    (c15 : decide (0 ≤ i3) = true) :
    cP ((k + 12)) 4 [V.sl o0 b0 n0 x0, V.str s0, V.str s1] = some (V.bool (decide (i3 ≤ (↑s0.length : Int)))) :=
  byF (k := k) (d := 12) [Hn.op 21 (V.sl o0 false n0 (List.take (if 12 < (↑x0.length : Int) then 12 else (↑x0.length : Int)).toNat x0)) [], Hn.op 26 (V.str (List.take (if 30 < (↑s1.length : Int) then 30 else (↑s1.length : Int)).toNat s1)) [], Hn.call 29 (V.tup [V.str s2, vi i0]), Hn.br 33 true, Hn.call 37 (V.str s3), Hn.call 38 (V.tup [V.sl o1 b1 n1 x1, vi i1, vi i2]), Hn.br 44 false, Hn.br 48 false, Hn.call 51 (V.bool b2), Hn.br 53 false, Hn.call 57 (V.tup [V.sl o2 b3 n2 x2, vi i3, vi i4]), Hn.br 62 true, Hn.call 63 (V.bool b4), Hn.br 64 true, Hn.br 69 true, Hn.br 73 true] (aI c0 (aI c1 (aI c2 (aI c3 (aI c4 (aI c5 (aI c6 (aI c7 (aI c8 (aI c9 (aI c10 (aI c11 (aI c12 (aI c13 (aI c14 (aI c15 trivial)))))))))))))))) (by kernel_rfl)
theorem P4_4 (i0 i1 i2 i3 i4 : Int) (b0 b1 b2 b3 b4 : Bool) (s0 s1 s2 s3 : List UInt8) (x0 x1 x2 : List V) (o0 o1 o2 : Option Bool) (n0 n1 n2 k : Nat)
    (c0 : SlcP true 3 (V.sl o0 b0 n0 x0) none (some (vi (if 12 < (↑x0.length : Int) then 12 else (↑x0.length : Int)))) none (V.sl o0 false n0 (List.take (if 12 < (↑x0.length : Int) then 12 else (↑x0.length : Int)).toNat x0)))
    (c1 : SlcP false 0 (V.str s1) none (some (vi (if 30 < (↑s1.length : Int) then 30 else (↑s1.length : Int)))) none (V.str (List.take (if 30 < (↑s1.length : Int) then 30 else (↑s1.length : Int)).toNat s1)))
    (c2 : cP ((k + 11)) 10 [V.sl o0 false n0 (List.take (if 12 < (↑x0.length : Int) then 12 else (↑x0.length : Int)).toNat x0)] = some (V.tup [V.str s2, vi i0]))
    (c3 : decide (i0 = 0) = true)
    (c4 : cP ((k + 11)) 11 [V.sl o0 false n0 (List.take (if 12 < (↑x0.length : Int) then 12 else (↑x0.length : Int)).toNat x0)] = some (V.str s3))
    (c5 : cP ((k + 11)) 6 [V.str s2, V.str s3] = some (V.tup [V.sl o1 b1 n1 x1, vi i1, vi i2]))
    (c6 : (!decide (i2 = 0)) = false)
    (c7 : (!decide (i1 = 0)) = false)
    (c8 : cP ((k + 11)) 9 [V.sl o1 b1 n1 x1, V.sl o0 false n0 (List.take (if 12 < (↑x0.length : Int) then 12 else (↑x0.length : Int)).toNat x0)] = some (V.bool b2))
    (c9 : (!b2) = false)
    (c10 : cP ((k + 11)) 6 [V.str s0, V.str (List.take (if 30 < (↑s1.length : Int) then 30 else (↑s1.length : Int)).toNat s1)] = some (V.tup [V.sl o2 b3 n2 x2, vi i3, vi i4]))
    (c11 : (!decide (i4 = 0)) = true)
    (c12 : cP ((k + 11)) 8 [] = some (V.bool b4))
    (c13 : b4 = true)
    (c14 : decide ((↑x2.length : Int) = 0) = true)
    (c15 : decide (0 ≤ i3) = false) :
    cP ((k + 12)) 4 [V.sl o0 b0 n0 x0, V.str s0, V.str s1] = some (V.bool false) :=
  byF (k := k) (d := 12) [Hn.op 21 (V.sl o0 false n0 (List.take (if 12 < (↑x0.length : Int) then 12 else (↑x0.length : Int)).toNat x0)) [], Hn.op 26 (V.str (List.take (if 30 < (↑s1.length : Int) then 30 else (↑s1.length : Int)).toNat s1)) [], Hn.call 29 (V.tup [V.str s2, vi i0]), Hn.br 33 true, Hn.call 37 (V.str s3), Hn.call 38 (V.tup [V.sl o1 b1 n1 x1, vi i1, vi i2]), Hn.br 44 false, Hn.br 48 false, Hn.call 51 (V.bool b2), Hn.br 53 false, Hn.call 57 (V.tup [V.sl o2 b3 n2 x2, vi i3, vi i4]), Hn.br 62 true, Hn.call 63 (V.bool b4), Hn.br 64 true, Hn.br 69 true, Hn.br 73 false] (aI c0 (aI c1 (aI c2 (aI c3 (aI c4 (aI c5 (aI c6 (aI c7 (aI c8 (aI c9 (aI c10 (aI c11 (aI c12 (aI c13 (aI c14 (aI c15 trivial)))))))))))))))) (by kernel_rfl)
theorem P4_5 (i0 i1 i2 i3 i4 : Int) (b0 b1 b2 b3 b4 : Bool) (s0 s1 s2 s3 : List UInt8) (x0 x1 x2 : List V) (o0 o1 o2 : Option Bool) (n0 n1 n2 k : Nat)
    (c0 : SlcP true 3 (V.sl o0 b0 n0 x0) none (some (vi (if 12 < (↑x0.length : Int) then 12 else (↑x0.length : Int)))) none (V.sl o0 false n0 (List.take (if 12 < (↑x0.length : Int) then 12 else (↑x0.length : Int)).toNat x0)))
    (c1 : SlcP false 0 (V.str s1) none (some (vi (if 30 < (↑s1.length : Int) then 30 else (↑s1.length : Int)))) none (V.str (List.take (if 30 < (↑s1.length : Int) then 30 else (↑s1.length : Int)).toNat s1)))
    (c2 : cP ((k + 11)) 10 [V.sl o0 false n0 (List.take (if 12 < (↑x0.length : Int) then 12 else (↑x0.length : Int)).toNat x0)] = some (V.tup [V.str s2, vi i0]))
    (c3 : decide (i0 = 0) = true)
    (c4 : cP ((k + 11)) 11 [V.sl o0 false n0 (List.take (if 12 < (↑x0.length : Int) then 12 else (↑x0.length : Int)).toNat x0)] = some (V.str s3))
    (c5 : cP ((k + 11)) 6 [V.str s2, V.str s3] = some (V.tup [V.sl o1 b1 n1 x1, vi i1, vi i2]))
    (c6 : (!decide (i2 = 0)) = false)
    (c7 : (!decide (i1 = 0)) = false)
    (c8 : cP ((k + 11)) 9 [V.sl o1 b1 n1 x1, V.sl o0 false n0 (List.take (if 12 < (↑x0.length : Int) then 12 else (↑x0.length : Int)).toNat x0)] = some (V.bool b2))
    (c9 : (!b2) = false)
    (c10 : cP ((k + 11)) 6 [V.str s0, V.str (List.take (if 30 < (↑s1.length : Int) then 30 else (↑s1.length : Int)).toNat s1)] = some (V.tup [V.sl o2 b3 n2 x2, vi i3, vi i4]))
    (c11 : (!decide (i4 = 0)) = true)
    (c12 : cP ((k + 11)) 8 [] = some (V.bool b4))
    (c13 : b4 = true)
    (c14 : decide ((↑x2.length : Int) = 0) = false) :
    cP ((k + 12)) 4 [V.sl o0 b0 n0 x0, V.str s0, V.str s1] = some (V.bool false) :=
  byF (k := k) (d := 12) [Hn.op 21 (V.sl o0 false n0 (List.take (if 12 < (↑x0.length : Int) then 12 else (↑x0.length : Int)).toNat x0)) [], Hn.op 26 (V.str (List.take (if 30 < (↑s1.length : Int) then 30 else (↑s1.length : Int)).toNat s1)) [], Hn.call 29 (V.tup [V.str s2, vi i0]), Hn.br 33 true, Hn.call 37 (V.str s3), Hn.call 38 (V.tup [V.sl o1 b1 n1 x1, vi i1, vi i2]), Hn.br 44 false, Hn.br 48 false, Hn.call 51 (V.bool b2), Hn.br 53 false, Hn.call 57 (V.tup [V.sl o2 b3 n2 x2, vi i3, vi i4]), Hn.br 62 true, Hn.call 63 (V.bool b4), Hn.br 64 true, Hn.br 69 false] (aI c0 (aI c1 (aI c2 (aI c3 (aI c4 (aI c5 (aI c6 (aI c7 (aI c8 (aI c9 (aI c10 (aI c11 (aI c12 (aI c13 (aI c14 trivial))))))))))))))) (by kernel_rfl)
theorem P4_6 (i0 i1 i2 i3 i4 : Int) (b0 b1 b2 b3 b4 : Bool) (s0 s1 s2 s3 : List UInt8) (x0 x1 x2 : List V) (o0 o1 o2 : Option Bool) (n0 n1 n2 k : Nat)
    (c0 : SlcP true 3 (V.sl o0 b0 n0 x0) none (some (vi (if 12 < (↑x0.length : Int) then 12 else (↑x0.length : Int)))) none (V.sl o0 false n0 (List.take (if 12 < (↑x0.length : Int) then 12 else (↑x0.length : Int)).toNat x0)))
    (c1 : SlcP false 0 (V.str s1) none (some (vi (if 30 < (↑s1.length : Int) then 30 else (↑s1.length : Int)))) none (V.str (List.take (if 30 < (↑s1.length : Int) then 30 else (↑s1.length : Int)).toNat s1)))
    (c2 : cP ((k + 11)) 10 [V.sl o0 false n0 (List.take (if 12 < (↑x0.length : Int) then 12 else (↑x0.length : Int)).toNat x0)] = some (V.tup [V.str s2, vi i0]))
    (c3 : decide (i0 = 0) = true)
    (c4 : cP ((k + 11)) 11 [V.sl o0 false n0 (List.take (if 12 < (↑x0.length : Int) then 12 else (↑x0.length : Int)).toNat x0)] = some (V.str s3))
    (c5 : cP ((k + 11)) 6 [V.str s2, V.str s3] = some (V.tup [V.sl o1 b1 n1 x1, vi i1, vi i2]))
    (c6 : (!decide (i2 = 0)) = false)
    (c7 : (!decide (i1 = 0)) = false)
    (c8 : cP ((k + 11)) 9 [V.sl o1 b1 n1 x1, V.sl o0 false n0 (List.take (if 12 < (↑x0.length : Int) then 12 else (↑x0.length : Int)).toNat x0)] = some (V.bool b2))
    (c9 : (!b2) = false)
    (c10 : cP ((k + 11)) 6 [V.str s0, V.str (List.take (if 30 < (↑s1.length : Int) then 30 else (↑s1.length : Int)).toNat s1)] = some (V.tup [V.sl o2 b3 n2 x2, vi i3, vi i4]))
    (c11 : (!decide (i4 = 0)) = true)
    (c12 : cP ((k + 11)) 8 [] = some (V.bool b4))
    (c13 : b4 = false) :
    cP ((k + 12)) 4 [V.sl o0 b0 n0 x0, V.str s0, V.str s1] = some (V.bool false) :=
  byF (k := k) (d := 12) [Hn.op 21 (V.sl o0 false n0 (List.take (if 12 < (↑x0.length : Int) then 12 else (↑x0.length : Int)).toNat x0)) [], Hn.op 26 (V.str (List.take (if 30 < (↑s1.length : Int) then 30 else (↑s1.length : Int)).toNat s1)) [], Hn.call 29 (V.tup [V.str s2, vi i0]), Hn.br 33 true, Hn.call 37 (V.str s3), Hn.call 38 (V.tup [V.sl o1 b1 n1 x1, vi i1, vi i2]), Hn.br 44 false, Hn.br 48 false, Hn.call 51 (V.bool b2), Hn.br 53 false, Hn.call 57 (V.tup [V.sl o2 b3 n2 x2, vi i3, vi i4]), Hn.br 62 true, Hn.call 63 (V.bool b4), Hn.br 64 false] (aI c0 (aI c1 (aI c2 (aI c3 (aI c4 (aI c5 (aI c6 (aI c7 (aI c8 (aI c9 (aI c10 (aI c11 (aI c12 (aI c13 trivial)))))))))))))) (by kernel_rfl)
theorem P4_7 (i0 i1 i2 i3 i4 i5 : Int) (b0 b1 b2 b3 b4 : Bool) (s0 s1 s2 s3 s4 s5 : List UInt8) (x0 x1 x2 : List V) (o0 o1 o2 : Option Bool) (n0 n1 n2 k : Nat)
    (c0 : SlcP true 3 (V.sl o0 b0 n0 x0) none (some (vi (if 12 < (↑x0.length : Int) then 12 else (↑x0.length : Int)))) none (V.sl o0 false n0 (List.take (if 12 < (↑x0.length : Int) then 12 else (↑x0.length : Int)).toNat x0)))
    (c1 : SlcP false 0 (V.str s1) none (some (vi (if 30 < (↑s1.length : Int) then 30 else (↑s1.length : Int)))) none (V.str (List.take (if 30 < (↑s1.length : Int) then 30 else (↑s1.length : Int)).toNat s1)))
    (c2 : cP ((k + 11)) 10 [V.sl o0 false n0 (List.take (if 12 < (↑x0.length : Int) then 12 else (↑x0.length : Int)).toNat x0)] = some (V.tup [V.str s2, vi i0]))
    (c3 : decide (i0 = 0) = true)
    (c4 : cP ((k + 11)) 11 [V.sl o0 false n0 (List.take (if 12 < (↑x0.length : Int) then 12 else (↑x0.length : Int)).toNat x0)] = some (V.str s3))
    (c5 : cP ((k + 11)) 6 [V.str s2, V.str s3] = some (V.tup [V.sl o1 b1 n1 x1, vi i1, vi i2]))
    (c6 : (!decide (i2 = 0)) = false)
    (c7 : (!decide (i1 = 0)) = false)
    (c8 : cP ((k + 11)) 9 [V.sl o1 b1 n1 x1, V.sl o0 false n0 (List.take (if 12 < (↑x0.length : Int) then 12 else (↑x0.length : Int)).toNat x0)] = some (V.bool b2))
    (c9 : (!b2) = false)
    (c10 : cP ((k + 11)) 6 [V.str s0, V.str (List.take (if 30 < (↑s1.length : Int) then 30 else (↑s1.length : Int)).toNat s1)] = some (V.tup [V.sl o2 b3 n2 x2, vi i3, vi i4]))
    (c11 : (!decide (i4 = 0)) = false)
    (c12 : cP ((k + 11)) 10 [V.sl o2 b3 n2 x2] = some (V.tup [V.str s4, vi i5]))
    (c13 : cP ((k + 11)) 8 [] = some (V.bool b4))
    (c14 : b4 = true)
    (c15 : decide (i5 = 0) = true)
    (c16 : decide (s4 = s0) = true)
    (c17 : cP ((k + 11)) 11 [V.sl o2 b3 n2 x2] = some (V.str s5)) :
    cP ((k + 12)) 4 [V.sl o0 b0 n0 x0, V.str s0, V.str s1] = some (V.bool (decide (s5 = List.take (if 30 < (↑s1.length : Int) then 30 else (↑s1.length : Int)).toNat s1))) :=
  byF (k := k) (d := 12) [Hn.op 21 (V.sl o0 false n0 (List.take (if 12 < (↑x0.length : Int) then 12 else (↑x0.length : Int)).toNat x0)) [], Hn.op 26 (V.str (List.take (if 30 < (↑s1.length : Int) then 30 else (↑s1.length : Int)).toNat s1)) [], Hn.call 29 (V.tup [V.str s2, vi i0]), Hn.br 33 true, Hn.call 37 (V.str s3), Hn.call 38 (V.tup [V.sl o1 b1 n1 x1, vi i1, vi i2]), Hn.br 44 false, Hn.br 48 false, Hn.call 51 (V.bool b2), Hn.br 53 false, Hn.call 57 (V.tup [V.sl o2 b3 n2 x2, vi i3, vi i4]), Hn.br 62 false, Hn.call 81 (V.tup [V.str s4, vi i5]), Hn.call 84 (V.bool b4), Hn.br 85 true, Hn.br 89 true, Hn.br 94 true, Hn.call 96 (V.str s5)] (aI c0 (aI c1 (aI c2 (aI c3 (aI c4 (aI c5 (aI c6 (aI c7 (aI c8 (aI c9 (aI c10 (aI c11 (aI c12 (aI c13 (aI c14 (aI c15 (aI c16 (aI c17 trivial)))))))))))))))))) (by kernel_rfl)
theorem P4_8 (i0 i1 i2 i3 i4 i5 : Int) (b0 b1 b2 b3 b4 : Bool) (s0 s1 s2 s3 s4 : List UInt8) (x0 x1 x2 : List V) (o0 o1 o2 : Option Bool) (n0 n1 n2 k : Nat)
    (c0 : SlcP true 3 (V.sl o0 b0 n0 x0) none (some (vi (if 12 < (↑x0.length : Int) then 12 else (↑x0.length : Int)))) none (V.sl o0 false n0 (List.take (if 12 < (↑x0.length : Int) then 12 else (↑x0.length : Int)).toNat x0)))
    (c1 : SlcP false 0 (V.str s1) none (some (vi (if 30 < (↑s1.length : Int) then 30 else (↑s1.length : Int)))) none (V.str (List.take (if 30 < (↑s1.length : Int) then 30 else (↑s1.length : Int)).toNat s1)))
    (c2 : cP ((k + 11)) 10 [V.sl o0 false n0 (List.take (if 12 < (↑x0.length : Int) then 12 else (↑x0.length : Int)).toNat x0)] = some (V.tup [V.str s2, vi i0]))
    (c3 : decide (i0 = 0) = true)
    (c4 : cP ((k + 11)) 11 [V.sl o0 false n0 (List.take (if 12 < (↑x0.length : Int) then 12 else (↑x0.length : Int)).toNat x0)] = some (V.str s3))
    (c5 : cP ((k + 11)) 6 [V.str s2, V.str s3] = some (V.tup [V.sl o1 b1 n1 x1, vi i1, vi i2]))
    (c6 : (!decide (i2 = 0)) = false)
    (c7 : (!decide (i1 = 0)) = false)
    (c8 : cP ((k + 11)) 9 [V.sl o1 b1 n1 x1, V.sl o0 false n0 (List.take (if 12 < (↑x0.length : Int) then 12 else (↑x0.length : Int)).toNat x0)] = some (V.bool b2))
    (c9 : (!b2) = false)
    (c10 : cP ((k + 11)) 6 [V.str s0, V.str (List.take (if 30 < (↑s1.length : Int) then 30 else (↑s1.length : Int)).toNat s1)] = some (V.tup [V.sl o2 b3 n2 x2, vi i3, vi i4]))
    (c11 : (!decide (i4 = 0)) = false)
    (c12 : cP ((k + 11)) 10 [V.sl o2 b3 n2 x2] = some (V.tup [V.str s4, vi i5]))
    (c13 : cP ((k + 11)) 8 [] = some (V.bool b4))
    (c14 : b4 = true)
    (c15 : decide (i5 = 0) = true)
    (c16 : decide (s4 = s0) = false) :
    cP ((k + 12)) 4 [V.sl o0 b0 n0 x0, V.str s0, V.str s1] = some (V.bool false) :=
  byF (k := k) (d := 12) [Hn.op 21 (V.sl o0 false n0 (List.take (if 12 < (↑x0.length : Int) then 12 else (↑x0.length : Int)).toNat x0)) [], Hn.op 26 (V.str (List.take (if 30 < (↑s1.length : Int) then 30 else (↑s1.length : Int)).toNat s1)) [], Hn.call 29 (V.tup [V.str s2, vi i0]), Hn.br 33 true, Hn.call 37 (V.str s3), Hn.call 38 (V.tup [V.sl o1 b1 n1 x1, vi i1, vi i2]), Hn.br 44 false, Hn.br 48 false, Hn.call 51 (V.bool b2), Hn.br 53 false, Hn.call 57 (V.tup [V.sl o2 b3 n2 x2, vi i3, vi i4]), Hn.br 62 false, Hn.call 81 (V.tup [V.str s4, vi i5]), Hn.call 84 (V.bool b4), Hn.br 85 true, Hn.br 89 true, Hn.br 94 false] (aI c0 (aI c1 (aI c2 (aI c3 (aI c4 (aI c5 (aI c6 (aI c7 (aI c8 (aI c9 (aI c10 (aI c11 (aI c12 (aI c13 (aI c14 (aI c15 (aI c16 trivial))))))))))))))))) (by kernel_rfl)
theorem P4_9 (i0 i1 i2 i3 i4 i5 : Int) (b0 b1 b2 b3 b4 : Bool) (s0 s1 s2 s3 s4 : List UInt8) (x0 x1 x2 : List V) (o0 o1 o2 : Option Bool) (n0 n1 n2 k : Nat)
    (c0 : SlcP true 3 (V.sl o0 b0 n0 x0) none (some (vi (if 12 < (↑x0.length : Int) then 12 else (↑x0.length : Int)))) none (V.sl o0 false n0 (List.take (if 12 < (↑x0.length : Int) then 12 else (↑x0.length : Int)).toNat x0)))
    (c1 : SlcP false 0 (V.str s1) none (some (vi (if 30 < (↑s1.length : Int) then 30 else (↑s1.length : Int)))) none (V.str (List.take (if 30 < (↑s1.length : Int) then 30 else (↑s1.length : Int)).toNat s1)))
    (c2 : cP ((k + 11)) 10 [V.sl o0 false n0 (List.take (if 12 < (↑x0.length : Int) then 12 else (↑x0.length : Int)).toNat x0)] = some (V.tup [V.str s2, vi i0]))
    (c3 : decide (i0 = 0) = true)
    (c4 : cP ((k + 11)) 11 [V.sl o0 false n0 (List.take (if 12 < (↑x0.length : Int) then 12 else (↑x0.length : Int)).toNat x0)] = some (V.str s3))
    (c5 : cP ((k + 11)) 6 [V.str s2, V.str s3] = some (V.tup [V.sl o1 b1 n1 x1, vi i1, vi i2]))
    (c6 : (!decide (i2 = 0)) = false)
    (c7 : (!decide (i1 = 0)) = false)
    (c8 : cP ((k + 11)) 9 [V.sl o1 b1 n1 x1, V.sl o0 false n0 (List.take (if 12 < (↑x0.length : Int) then 12 else (↑x0.length : Int)).toNat x0)] = some (V.bool b2))
    (c9 : (!b2) = false)
    (c10 : cP ((k + 11)) 6 [V.str s0, V.str (List.take (if 30 < (↑s1.length : Int) then 30 else (↑s1.length : Int)).toNat s1)] = some (V.tup [V.sl o2 b3 n2 x2, vi i3, vi i4]))
    (c11 : (!decide (i4 = 0)) = false)
    (c12 : cP ((k + 11)) 10 [V.sl o2 b3 n2 x2] = some (V.tup [V.str s4, vi i5]))
    (c13 : cP ((k + 11)) 8 [] = some (V.bool b4))
    (c14 : b4 = true)
    (c15 : decide (i5 = 0) = false) :
    cP ((k + 12)) 4 [V.sl o0 b0 n0 x0, V.str s0, V.str s1] = some (V.bool false) :=
  byF (k := k) (d := 12) [Hn.op 21 (V.sl o0 false n0 (List.take (if 12 < (↑x0.length : Int) then 12 else (↑x0.length : Int)).toNat x0)) [], Hn.op 26 (V.str (List.take (if 30 < (↑s1.length : Int) then 30 else (↑s1.length : Int)).toNat s1)) [], Hn.call 29 (V.tup [V.str s2, vi i0]), Hn.br 33 true, Hn.call 37 (V.str s3), Hn.call 38 (V.tup [V.sl o1 b1 n1 x1, vi i1, vi i2]), Hn.br 44 false, Hn.br 48 false, Hn.call 51 (V.bool b2), Hn.br 53 false, Hn.call 57 (V.tup [V.sl o2 b3 n2 x2, vi i3, vi i4]), Hn.br 62 false, Hn.call 81 (V.tup [V.str s4, vi i5]), Hn.call 84 (V.bool b4), Hn.br 85 true, Hn.br 89 false] (aI c0 (aI c1 (aI c2 (aI c3 (aI c4 (aI c5 (aI c6 (aI c7 (aI c8 (aI c9 (aI c10 (aI c11 (aI c12 (aI c13 (aI c14 (aI c15 trivial)))))))))))))))) (by kernel_rfl)
theorem P4_10 (i0 i1 i2 i3 i4 i5 : Int) (b0 b1 b2 b3 b4 : Bool) (s0 s1 s2 s3 s4 : List UInt8) (x0 x1 x2 : List V) (o0 o1 o2 : Option Bool) (n0 n1 n2 k : Nat)
    (c0 : SlcP true 3 (V.sl o0 b0 n0 x0) none (some (vi (if 12 < (↑x0.length : Int) then 12 else (↑x0.length : Int)))) none (V.sl o0 false n0 (List.take (if 12 < (↑x0.length : Int) then 12 else (↑x0.length : Int)).toNat x0)))
    (c1 : SlcP false 0 (V.str s1) none (some (vi (if 30 < (↑s1.length : Int) then 30 else (↑s1.length : Int)))) none (V.str (List.take (if 30 < (↑s1.length : Int) then 30 else (↑s1.length : Int)).toNat s1)))
    (c2 : cP ((k + 11)) 10 [V.sl o0 false n0 (List.take (if 12 < (↑x0.length : Int) then 12 else (↑x0.length : Int)).toNat x0)] = some (V.tup [V.str s2, vi i0]))
    (c3 : decide (i0 = 0) = true)
    (c4 : cP ((k + 11)) 11 [V.sl o0 false n0 (List.take (if 12 < (↑x0.length : Int) then 12 else (↑x0.length : Int)).toNat x0)] = some (V.str s3))
    (c5 : cP ((k + 11)) 6 [V.str s2, V.str s3] = some (V.tup [V.sl o1 b1 n1 x1, vi i1, vi i2]))
    (c6 : (!decide (i2 = 0)) = false)
    (c7 : (!decide (i1 = 0)) = false)
    (c8 : cP ((k + 11)) 9 [V.sl o1 b1 n1 x1, V.sl o0 false n0 (List.take (if 12 < (↑x0.length : Int) then 12 else (↑x0.length : Int)).toNat x0)] = some (V.bool b2))
    (c9 : (!b2) = false)
    (c10 : cP ((k + 11)) 6 [V.str s0, V.str (List.take (if 30 < (↑s1.length : Int) then 30 else (↑s1.length : Int)).toNat s1)] = some (V.tup [V.sl o2 b3 n2 x2, vi i3, vi i4]))
    (c11 : (!decide (i4 = 0)) = false)
    (c12 : cP ((k + 11)) 10 [V.sl o2 b3 n2 x2] = some (V.tup [V.str s4, vi i5]))
    (c13 : cP ((k + 11)) 8 [] = some (V.bool b4))
    (c14 : b4 = false) :
    cP ((k + 12)) 4 [V.sl o0 b0 n0 x0, V.str s0, V.str s1] = some (V.bool false) :=
  byF (k := k) (d := 12) [Hn.op 21 (V.sl o0 false n0 (List.take (if 12 < (↑x0.length : Int) then 12 else (↑x0.length : Int)).toNat x0)) [], Hn.op 26 (V.str (List.take (if 30 < (↑s1.length : Int) then 30 else (↑s1.length : Int)).toNat s1)) [], Hn.call 29 (V.tup [V.str s2, vi i0]), Hn.br 33 true, Hn.call 37 (V.str s3), Hn.call 38 (V.tup [V.sl o1 b1 n1 x1, vi i1, vi i2]), Hn.br 44 false, Hn.br 48 false, Hn.call 51 (V.bool b2), Hn.br 53 false, Hn.call 57 (V.tup [V.sl o2 b3 n2 x2, vi i3, vi i4]), Hn.br 62 false, Hn.call 81 (V.tup [V.str s4, vi i5]), Hn.call 84 (V.bool b4), Hn.br 85 false] (aI c0 (aI c1 (aI c2 (aI c3 (aI c4 (aI c5 (aI c6 (aI c7 (aI c8 (aI c9 (aI c10 (aI c11 (aI c12 (aI c13 (aI c14 trivial))))))))))))))) (by kernel_rfl)
theorem P4_11 (i0 i1 i2 : Int) (b0 b1 b2 : Bool) (s0 s1 s2 : List UInt8) (x0 x1 : List V) (o0 o1 : Option Bool) (n0 n1 k : Nat)
    (c0 : SlcP true 3 (V.sl o0 b0 n0 x0) none (some (vi (if 12 < (↑x0.length : Int) then 12 else (↑x0.length : Int)))) none (V.sl o0 false n0 (List.take (if 12 < (↑x0.length : Int) then 12 else (↑x0.length : Int)).toNat x0)))
    (c1 : SlcP false 0 (V.str s1) none (some (vi (if 30 < (↑s1.length : Int) then 30 else (↑s1.length : Int)))) none (V.str (List.take (if 30 < (↑s1.length : Int) then 30 else (↑s1.length : Int)).toNat s1)))
    (c2 : cP ((k + 11)) 10 [V.sl o0 false n0 (List.take (if 12 < (↑x0.length : Int) then 12 else (↑x0.length : Int)).toNat x0)] = some (V.tup [V.str s2, vi i0]))
    (c3 : decide (i0 = 0) = false)
    (c4 : cP ((k + 11)) 6 [V.str s0, V.str (List.take (if 30 < (↑s1.length : Int) then 30 else (↑s1.length : Int)).toNat s1)] = some (V.tup [V.sl o1 b1 n1 x1, vi i1, vi i2]))
    (c5 : (!decide (i2 = 0)) = true)
    (c6 : cP ((k + 11)) 8 [] = some (V.bool b2))
    (c7 : b2 = true)
    (c8 : decide ((↑x1.length : Int) = 0) = true)
    (c9 : decide (0 ≤ i1) = true) :
    cP ((k + 12)) 4 [V.sl o0 b0 n0 x0, V.str s0, V.str s1] = some (V.bool (decide (i1 ≤ (↑s0.length : Int)))) :=
  byF (k := k) (d := 12) [Hn.op 21 (V.sl o0 false n0 (List.take (if 12 < (↑x0.length : Int) then 12 else (↑x0.length : Int)).toNat x0)) [], Hn.op 26 (V.str (List.take (if 30 < (↑s1.length : Int) then 30 else (↑s1.length : Int)).toNat s1)) [], Hn.call 29 (V.tup [V.str s2, vi i0]), Hn.br 33 false, Hn.call 57 (V.tup [V.sl o1 b1 n1 x1, vi i1, vi i2]), Hn.br 62 true, Hn.call 63 (V.bool b2), Hn.br 64 true, Hn.br 69 true, Hn.br 73 true] (aI c0 (aI c1 (aI c2 (aI c3 (aI c4 (aI c5 (aI c6 (aI c7 (aI c8 (aI c9 trivial)))))))))) (by kernel_rfl)
theorem P4_12 (i0 i1 i2 : Int) (b0 b1 b2 : Bool) (s0 s1 s2 : List UInt8) (x0 x1 : List V) (o0 o1 : Option Bool) (n0 n1 k : Nat)
    (c0 : SlcP true 3 (V.sl o0 b0 n0 x0) none (some (vi (if 12 < (↑x0.length : Int) then 12 else (↑x0.length : Int)))) none (V.sl o0 false n0 (List.take (if 12 < (↑x0.length : Int) then 12 else (↑x0.length : Int)).toNat x0)))
    (c1 : SlcP false 0 (V.str s1) none (some (vi (if 30 < (↑s1.length : Int) then 30 else (↑s1.length : Int)))) none (V.str (List.take (if 30 < (↑s1.length : Int) then 30 else (↑s1.length : Int)).toNat s1)))
    (c2 : cP ((k + 11)) 10 [V.sl o0 false n0 (List.take (if 12 < (↑x0.length : Int) then 12 else (↑x0.length : Int)).toNat x0)] = some (V.tup [V.str s2, vi i0]))
    (c3 : decide (i0 = 0) = false)
    (c4 : cP ((k + 11)) 6 [V.str s0, V.str (List.take (if 30 < (↑s1.length : Int) then 30 else (↑s1.length : Int)).toNat s1)] = some (V.tup [V.sl o1 b1 n1 x1, vi i1, vi i2]))
    (c5 : (!decide (i2 = 0)) = true)
    (c6 : cP ((k + 11)) 8 [] = some (V.bool b2))
    (c7 : b2 = true)
    (c8 : decide ((↑x1.length : Int) = 0) = true)
    (c9 : decide (0 ≤ i1) = false) :
    cP ((k + 12)) 4 [V.sl o0 b0 n0 x0, V.str s0, V.str s1] = some (V.bool false) :=
  byF (k := k) (d := 12) [Hn.op 21 (V.sl o0 false n0 (List.take (if 12 < (↑x0.length : Int) then 12 else (↑x0.length : Int)).toNat x0)) [], Hn.op 26 (V.str (List.take (if 30 < (↑s1.length : Int) then 30 else (↑s1.length : Int)).toNat s1)) [], Hn.call 29 (V.tup [V.str s2, vi i0]), Hn.br 33 false, Hn.call 57 (V.tup [V.sl o1 b1 n1 x1, vi i1, vi i2]), Hn.br 62 true, Hn.call 63 (V.bool b2), Hn.br 64 true, Hn.br 69 true, Hn.br 73 false] (aI c0 (aI c1 (aI c2 (aI c3 (aI c4 (aI c5 (aI c6 (aI c7 (aI c8 (aI c9 trivial)))))))))) (by kernel_rfl)
theorem P4_13 (i0 i1 i2 : Int) (b0 b1 b2 : Bool) (s0 s1 s2 : List UInt8) (x0 x1 : List V) (o0 o1 : Option Bool) (n0 n1 k : Nat)
    (c0 : SlcP true 3 (V.sl o0 b0 n0 x0) none (some (vi (if 12 < (↑x0.length : Int) then 12 else (↑x0.length : Int)))) none (V.sl o0 false n0 (List.take (if 12 < (↑x0.length : Int) then 12 else (↑x0.length : Int)).toNat x0)))
    (c1 : SlcP false 0 (V.str s1) none (some (vi (if 30 < (↑s1.length : Int) then 30 else (↑s1.length : Int)))) none (V.str (List.take (if 30 < (↑s1.length : Int) then 30 else (↑s1.length : Int)).toNat s1)))
    (c2 : cP ((k + 11)) 10 [V.sl o0 false n0 (List.take (if 12 < (↑x0.length : Int) then 12 else (↑x0.length : Int)).toNat x0)] = some (V.tup [V.str s2, vi i0]))
    (c3 : decide (i0 = 0) = false)
    (c4 : cP ((k + 11)) 6 [V.str s0, V.str (List.take (if 30 < (↑s1.length : Int) then 30 else (↑s1.length : Int)).toNat s1)] = some (V.tup [V.sl o1 b1 n1 x1, vi i1, vi i2]))
    (c5 : (!decide (i2 = 0)) = true)
    (c6 : cP ((k + 11)) 8 [] = some (V.bool b2))
    (c7 : b2 = true)
    (c8 : decide ((↑x1.length : Int) = 0) = false) :
    cP ((k + 12)) 4 [V.sl o0 b0 n0 x0, V.str s0, V.str s1] = some (V.bool false) :=
  byF (k := k) (d := 12) [Hn.op 21 (V.sl o0 false n0 (List.take (if 12 < (↑x0.length : Int) then 12 else (↑x0.length : Int)).toNat x0)) [], Hn.op 26 (V.str (List.take (if 30 < (↑s1.length : Int) then 30 else (↑s1.length : Int)).toNat s1)) [], Hn.call 29 (V.tup [V.str s2, vi i0]), Hn.br 33 false, Hn.call 57 (V.tup [V.sl o1 b1 n1 x1, vi i1, vi i2]), Hn.br 62 true, Hn.call 63 (V.bool b2), Hn.br 64 true, Hn.br 69 false] (aI c0 (aI c1 (aI c2 (aI c3 (aI c4 (aI c5 (aI c6 (aI c7 (aI c8 trivial))))))))) (by kernel_rfl)
theorem P4_14 (i0 i1 i2 : Int) (b0 b1 b2 : Bool) (s0 s1 s2 : List UInt8) (x0 x1 : List V) (o0 o1 : Option Bool) (n0 n1 k : Nat)
    (c0 : SlcP true 3 (V.sl o0 b0 n0 x0) none (some (vi (if 12 < (↑x0.length : Int) then 12 else (↑x0.length : Int)))) none (V.sl o0 false n0 (List.take (if 12 < (↑x0.length : Int) then 12 else (↑x0.length : Int)).toNat x0)))
    (c1 : SlcP false 0 (V.str s1) none (some (vi (if 30 < (↑s1.length : Int) then 30 else (↑s1.length : Int)))) none (V.str (List.take (if 30 < (↑s1.length : Int) then 30 else (↑s1.length : Int)).toNat s1)))
    (c2 : cP ((k + 11)) 10 [V.sl o0 false n0 (List.take (if 12 < (↑x0.length : Int) then 12 else (↑x0.length : Int)).toNat x0)] = some (V.tup [V.str s2, vi i0]))
    (c3 : decide (i0 = 0) = false)
    (c4 : cP ((k + 11)) 6 [V.str s0, V.str (List.take (if 30 < (↑s1.length : Int) then 30 else (↑s1.length : Int)).toNat s1)] = some (V.tup [V.sl o1 b1 n1 x1, vi i1, vi i2]))
    (c5 : (!decide (i2 = 0)) = true)
    (c6 : cP ((k + 11)) 8 [] = some (V.bool b2))
    (c7 : b2 = false) :
    cP ((k + 12)) 4 [V.sl o0 b0 n0 x0, V.str s0, V.str s1] = some (V.bool false) :=
  byF (k := k) (d := 12) [Hn.op 21 (V.sl o0 false n0 (List.take (if 12 < (↑x0.length : Int) then 12 else (↑x0.length : Int)).toNat x0)) [], Hn.op 26 (V.str (List.take (if 30 < (↑s1.length : Int) then 30 else (↑s1.length : Int)).toNat s1)) [], Hn.call 29 (V.tup [V.str s2, vi i0]), Hn.br 33 false, Hn.call 57 (V.tup [V.sl o1 b1 n1 x1, vi i1, vi i2]), Hn.br 62 true, Hn.call 63 (V.bool b2), Hn.br 64 false] (aI c0 (aI c1 (aI c2 (aI c3 (aI c4 (aI c5 (aI c6 (aI c7 trivial)))))))) (by kernel_rfl)
theorem P4_15 (i0 i1 i2 i3 : Int) (b0 b1 b2 : Bool) (s0 s1 s2 s3 s4 : List UInt8) (x0 x1 : List V) (o0 o1 : Option Bool) (n0 n1 k : Nat)
    (c0 : SlcP true 3 (V.sl o0 b0 n0 x0) none (some (vi (if 12 < (↑x0.length : Int) then 12 else (↑x0.length : Int)))) none (V.sl o0 false n0 (List.take (if 12 < (↑x0.length : Int) then 12 else (↑x0.length : Int)).toNat x0)))
    (c1 : SlcP false 0 (V.str s1) none (some (vi (if 30 < (↑s1.length : Int) then 30 else (↑s1.length : Int)))) none (V.str (List.take (if 30 < (↑s1.length : Int) then 30 else (↑s1.length : Int)).toNat s1)))
    (c2 : cP ((k + 11)) 10 [V.sl o0 false n0 (List.take (if 12 < (↑x0.length : Int) then 12 else (↑x0.length : Int)).toNat x0)] = some (V.tup [V.str s2, vi i0]))
    (c3 : decide (i0 = 0) = false)
    (c4 : cP ((k + 11)) 6 [V.str s0, V.str (List.take (if 30 < (↑s1.length : Int) then 30 else (↑s1.length : Int)).toNat s1)] = some (V.tup [V.sl o1 b1 n1 x1, vi i1, vi i2]))
    (c5 : (!decide (i2 = 0)) = false)
    (c6 : cP ((k + 11)) 10 [V.sl o1 b1 n1 x1] = some (V.tup [V.str s3, vi i3]))
    (c7 : cP ((k + 11)) 8 [] = some (V.bool b2))
    (c8 : b2 = true)
    (c9 : decide (i3 = 0) = true)
    (c10 : decide (s3 = s0) = true)
    (c11 : cP ((k + 11)) 11 [V.sl o1 b1 n1 x1] = some (V.str s4)) :
    cP ((k + 12)) 4 [V.sl o0 b0 n0 x0, V.str s0, V.str s1] = some (V.bool (decide (s4 = List.take (if 30 < (↑s1.length : Int) then 30 else (↑s1.length : Int)).toNat s1))) :=
  byF (k := k) (d := 12) [Hn.op 21 (V.sl o0 false n0 (List.take (if 12 < (↑x0.length : Int) then 12 else (↑x0.length : Int)).toNat x0)) [], Hn.op 26 (V.str (List.take (if 30 < (↑s1.length : Int) then 30 else (↑s1.length : Int)).toNat s1)) [], Hn.call 29 (V.tup [V.str s2, vi i0]), Hn.br 33 false, Hn.call 57 (V.tup [V.sl o1 b1 n1 x1, vi i1, vi i2]), Hn.br 62 false, Hn.call 81 (V.tup [V.str s3, vi i3]), Hn.call 84 (V.bool b2), Hn.br 85 true, Hn.br 89 true, Hn.br 94 true, Hn.call 96 (V.str s4)] (aI c0 (aI c1 (aI c2 (aI c3 (aI c4 (aI c5 (aI c6 (aI c7 (aI c8 (aI c9 (aI c10 (aI c11 trivial)))))))))))) (by kernel_rfl)
theorem P4_16 (i0 i1 i2 i3 : Int) (b0 b1 b2 : Bool) (s0 s1 s2 s3 : List UInt8) (x0 x1 : List V) (o0 o1 : Option Bool) (n0 n1 k : Nat)
    (c0 : SlcP true 3 (V.sl o0 b0 n0 x0) none (some (vi (if 12 < (↑x0.length : Int) then 12 else (↑x0.length : Int)))) none (V.sl o0 false n0 (List.take (if 12 < (↑x0.length : Int) then 12 else (↑x0.length : Int)).toNat x0)))
    (c1 : SlcP false 0 (V.str s1) none (some (vi (if 30 < (↑s1.length : Int) then 30 else (↑s1.length : Int)))) none (V.str (List.take (if 30 < (↑s1.length : Int) then 30 else (↑s1.length : Int)).toNat s1)))
    (c2 : cP ((k + 11)) 10 [V.sl o0 false n0 (List.take (if 12 < (↑x0.length : Int) then 12 else (↑x0.length : Int)).toNat x0)] = some (V.tup [V.str s2, vi i0]))
    (c3 : decide (i0 = 0) = false)
    (c4 : cP ((k + 11)) 6 [V.str s0, V.str (List.take (if 30 < (↑s1.length : Int) then 30 else (↑s1.length : Int)).toNat s1)] = some (V.tup [V.sl o1 b1 n1 x1, vi i1, vi i2]))
    (c5 : (!decide (i2 = 0)) = false)
    (c6 : cP ((k + 11)) 10 [V.sl o1 b1 n1 x1] = some (V.tup [V.str s3, vi i3]))
    (c7 : cP ((k + 11)) 8 [] = some (V.bool b2))
    (c8 : b2 = true)
    (c9 : decide (i3 = 0) = true)
    (c10 : decide (s3 = s0) = false) :
    cP ((k + 12)) 4 [V.sl o0 b0 n0 x0, V.str s0, V.str s1] = some (V.bool false) :=
  byF (k := k) (d := 12) [Hn.op 21 (V.sl o0 false n0 (List.take (if 12 < (↑x0.length : Int) then 12 else (↑x0.length : Int)).toNat x0)) [], Hn.op 26 (V.str (List.take (if 30 < (↑s1.length : Int) then 30 else (↑s1.length : Int)).toNat s1)) [], Hn.call 29 (V.tup [V.str s2, vi i0]), Hn.br 33 false, Hn.call 57 (V.tup [V.sl o1 b1 n1 x1, vi i1, vi i2]), Hn.br 62 false, Hn.call 81 (V.tup [V.str s3, vi i3]), Hn.call 84 (V.bool b2), Hn.br 85 true, Hn.br 89 true, Hn.br 94 false] (aI c0 (aI c1 (aI c2 (aI c3 (aI c4 (aI c5 (aI c6 (aI c7 (aI c8 (aI c9 (aI c10 trivial))))))))))) (by kernel_rfl)
theorem P4_17 (i0 i1 i2 i3 : Int) (b0 b1 b2 : Bool) (s0 s1 s2 s3 : List UInt8) (x0 x1 : List V) (o0 o1 : Option Bool) (n0 n1 k : Nat)
    (c0 : SlcP true 3 (V.sl o0 b0 n0 x0) none (some (vi (if 12 < (↑x0.length : Int) then 12 else (↑x0.length : Int)))) none (V.sl o0 false n0 (List.take (if 12 < (↑x0.length : Int) then 12 else (↑x0.length : Int)).toNat x0)))
    (c1 : SlcP false 0 (V.str s1) none (some (vi (if 30 < (↑s1.length : Int) then 30 else (↑s1.length : Int)))) none (V.str (List.take (if 30 < (↑s1.length : Int) then 30 else (↑s1.length : Int)).toNat s1)))
    (c2 : cP ((k + 11)) 10 [V.sl o0 false n0 (List.take (if 12 < (↑x0.length : Int) then 12 else (↑x0.length : Int)).toNat x0)] = some (V.tup [V.str s2, vi i0]))
    (c3 : decide (i0 = 0) = false)
    (c4 : cP ((k + 11)) 6 [V.str s0, V.str (List.take (if 30 < (↑s1.length : Int) then 30 else (↑s1.length : Int)).toNat s1)] = some (V.tup [V.sl o1 b1 n1 x1, vi i1, vi i2]))
    (c5 : (!decide (i2 = 0)) = false)
    (c6 : cP ((k + 11)) 10 [V.sl o1 b1 n1 x1] = some (V.tup [V.str s3, vi i3]))
    (c7 : cP ((k + 11)) 8 [] = some (V.bool b2))
    (c8 : b2 = true)
    (c9 : decide (i3 = 0) = false) :
    cP ((k + 12)) 4 [V.sl o0 b0 n0 x0, V.str s0, V.str s1] = some (V.bool false) :=
  byF (k := k) (d := 12) [Hn.op 21 (V.sl o0 false n0 (List.take (if 12 < (↑x0.length : Int) then 12 else (↑x0.length : Int)).toNat x0)) [], Hn.op 26 (V.str (List.take (if 30 < (↑s1.length : Int) then 30 else (↑s1.length : Int)).toNat s1)) [], Hn.call 29 (V.tup [V.str s2, vi i0]), Hn.br 33 false, Hn.call 57 (V.tup [V.sl o1 b1 n1 x1, vi i1, vi i2]), Hn.br 62 false, Hn.call 81 (V.tup [V.str s3, vi i3]), Hn.call 84 (V.bool b2), Hn.br 85 true, Hn.br 89 false] (aI c0 (aI c1 (aI c2 (aI c3 (aI c4 (aI c5 (aI c6 (aI c7 (aI c8 (aI c9 trivial)))))))))) (by kernel_rfl)
theorem P4_18 (i0 i1 i2 i3 : Int) (b0 b1 b2 : Bool) (s0 s1 s2 s3 : List UInt8) (x0 x1 : List V) (o0 o1 : Option Bool) (n0 n1 k : Nat)
    (c0 : SlcP true 3 (V.sl o0 b0 n0 x0) none (some (vi (if 12 < (↑x0.length : Int) then 12 else (↑x0.length : Int)))) none (V.sl o0 false n0 (List.take (if 12 < (↑x0.length : Int) then 12 else (↑x0.length : Int)).toNat x0)))
    (c1 : SlcP false 0 (V.str s1) none (some (vi (if 30 < (↑s1.length : Int) then 30 else (↑s1.length : Int)))) none (V.str (List.take (if 30 < (↑s1.length : Int) then 30 else (↑s1.length : Int)).toNat s1)))
    (c2 : cP ((k + 11)) 10 [V.sl o0 false n0 (List.take (if 12 < (↑x0.length : Int) then 12 else (↑x0.length : Int)).toNat x0)] = some (V.tup [V.str s2, vi i0]))
    (c3 : decide (i0 = 0) = false)
    (c4 : cP ((k + 11)) 6 [V.str s0, V.str (List.take (if 30 < (↑s1.length : Int) then 30 else (↑s1.length : Int)).toNat s1)] = some (V.tup [V.sl o1 b1 n1 x1, vi i1, vi i2]))
    (c5 : (!decide (i2 = 0)) = false)
    (c6 : cP ((k + 11)) 10 [V.sl o1 b1 n1 x1] = some (V.tup [V.str s3, vi i3]))
    (c7 : cP ((k + 11)) 8 [] = some (V.bool b2))
    (c8 : b2 = false) :
    cP ((k + 12)) 4 [V.sl o0 b0 n0 x0, V.str s0, V.str s1] = some (V.bool false) :=
  byF (k := k) (d := 12) [Hn.op 21 (V.sl o0 false n0 (List.take (if 12 < (↑x0.length : Int) then 12 else (↑x0.length : Int)).toNat x0)) [], Hn.op 26 (V.str (List.take (if 30 < (↑s1.length : Int) then 30 else (↑s1.length : Int)).toNat s1)) [], Hn.call 29 (V.tup [V.str s2, vi i0]), Hn.br 33 false, Hn.call 57 (V.tup [V.sl o1 b1 n1 x1, vi i1, vi i2]), Hn.br 62 false, Hn.call 81 (V.tup [V.str s3, vi i3]), Hn.call 84 (V.bool b2), Hn.br 85 false] (aI c0 (aI c1 (aI c2 (aI c3 (aI c4 (aI c5 (aI c6 (aI c7 (aI c8 trivial))))))))) (by kernel_rfl)
def F4 (k : Nat) (o0 : Option Bool) (b0 : Bool) (n0 : Nat) (x0 : List V) (s0 s1 : List UInt8) : Option (Bool) :=
  (guardP (n0 = (3 : Nat)) (guardP (((0 : Int) ≤ if (12 : Int) < (↑x0.length : Int) then (12 : Int) else (↑x0.length : Int)) ∧ (if (12 : Int) < (↑x0.length : Int) then (12 : Int) else (↑x0.length : Int)) ≤ (↑x0.length : Int)) (guardP (((0 : Int) ≤ if (30 : Int) < (↑s1.length : Int) then (30 : Int) else (↑s1.length : Int)) ∧ (if (30 : Int) < (↑s1.length : Int) then (30 : Int) else (↑s1.length : Int)) ≤ (↑s1.length : Int)) ((F10 (k + 2) (o0) (false) (n0) (List.take (if 12 < (↑x0.length : Int) then 12 else (↑x0.length : Int)).toNat x0)).bind fun (s2, i0) => (bif decide (i0 = 0) then ((F11 (k + 8) (o0) (false) (n0) (List.take (if 12 < (↑x0.length : Int) then 12 else (↑x0.length : Int)).toNat x0)).bind fun s3 => ((F6 (k + 2) (s2) (s3)).bind fun (o1, b1, n1, x1, i1, i2) => (bif !decide (i2 = 0) then (some (false)) else (bif !decide (i1 = 0) then (some (false)) else ((F9 (k + 8) (o1) (b1) (n1) (x1) (o0) (false) (n0) (List.take (if 12 < (↑x0.length : Int) then 12 else (↑x0.length : Int)).toNat x0)).bind fun b2 => (bif !b2 then (some (false)) else ((F6 (k + 2) (s0) (List.take (if 30 < (↑s1.length : Int) then 30 else (↑s1.length : Int)).toNat s1)).bind fun (o2, b3, n2, x2, i3, i4) => (bif !decide (i4 = 0) then ((F8 (k + 2)).bind fun b4 => (bif b4 then (bif decide ((↑x2.length : Int) = 0) then (bif decide (0 ≤ i3) then (some (decide (i3 ≤ (↑s0.length : Int)))) else (some (false))) else (some (false))) else (some (false)))) else ((F10 (k + 2) (o2) (b3) (n2) (x2)).bind fun (s4, i5) => ((F8 (k + 2)).bind fun b4 => (bif b4 then (bif decide (i5 = 0) then (bif decide (s4 = s0) then ((F11 (k + 8) (o2) (b3) (n2) (x2)).bind fun s5 => (some (decide (s5 = List.take (if 30 < (↑s1.length : Int) then 30 else (↑s1.length : Int)).toNat s1)))) else (some (false))) else (some (false))) else (some (false))))))))))))) else ((F6 (k + 2) (s0) (List.take (if 30 < (↑s1.length : Int) then 30 else (↑s1.length : Int)).toNat s1)).bind fun (o1, b1, n1, x1, i1, i2) => (bif !decide (i2 = 0) then ((F8 (k + 2)).bind fun b2 => (bif b2 then (bif decide ((↑x1.length : Int) = 0) then (bif decide (0 ≤ i1) then (some (decide (i1 ≤ (↑s0.length : Int)))) else (some (false))) else (some (false))) else (some (false)))) else ((F10 (k + 2) (o1) (b1) (n1) (x1)).bind fun (s3, i3) => ((F8 (k + 2)).bind fun b2 => (bif b2 then (bif decide (i3 = 0) then (bif decide (s3 = s0) then ((F11 (k + 8) (o1) (b1) (n1) (x1)).bind fun s4 => (some (decide (s4 = List.take (if 30 < (↑s1.length : Int) then 30 else (↑s1.length : Int)).toNat s1)))) else (some (false))) else (some (false))) else (some (false))))))))))))
theorem F4_ok {o0 : Option Bool} {b0 : Bool} {n0 : Nat} {x0 : List V} {s0 s1 : List UInt8} {k : Nat} {r : Bool} (h : F4 k o0 b0 n0 x0 s0 s1 = some r) :
    cP ((k + 12)) 4 [V.sl o0 b0 n0 x0, V.str s0, V.str s1] = some (V.bool r) := by
  unfold F4 at h
  obtain ⟨e0, h⟩ := guardP_some.1 h
  obtain ⟨e1, h⟩ := guardP_some.1 h
  obtain ⟨e2, h⟩ := guardP_some.1 h
  obtain ⟨⟨s2, i0⟩, e3, h⟩ := bE h
  rcases cond_elim h with ⟨e4, h⟩ | ⟨e4, h⟩
  ·
    obtain ⟨s3, e5, h⟩ := bE h
    obtain ⟨⟨o1, b1, n1, x1, i1, i2⟩, e6, h⟩ := bE h
    rcases cond_elim h with ⟨e7, h⟩ | ⟨e7, h⟩
    ·
      have h := Option.some.inj h; subst h; exact P4_0 i0 i1 i2 b0 b1 s0 s1 s2 s3 x0 x1 o0 o1 n0 n1 k (SlcP.uptoS e1 e0) (SlcP.strUptoS e2) (F10_ok e3) e4 (F11_ok e5) (F6_ok e6) e7
    ·
      rcases cond_elim h with ⟨e8, h⟩ | ⟨e8, h⟩
      ·
        have h := Option.some.inj h; subst h; exact P4_1 i0 i1 i2 b0 b1 s0 s1 s2 s3 x0 x1 o0 o1 n0 n1 k (SlcP.uptoS e1 e0) (SlcP.strUptoS e2) (F10_ok e3) e4 (F11_ok e5) (F6_ok e6) e7 e8
      ·
        obtain ⟨b2, e9, h⟩ := bE h
        rcases cond_elim h with ⟨e10, h⟩ | ⟨e10, h⟩
        ·
          have h := Option.some.inj h; subst h; exact P4_2 i0 i1 i2 b0 b1 b2 s0 s1 s2 s3 x0 x1 o0 o1 n0 n1 k (SlcP.uptoS e1 e0) (SlcP.strUptoS e2) (F10_ok e3) e4 (F11_ok e5) (F6_ok e6) e7 e8 (F9_ok e9) e10
        ·
          obtain ⟨⟨o2, b3, n2, x2, i3, i4⟩, e11, h⟩ := bE h
          rcases cond_elim h with ⟨e12, h⟩ | ⟨e12, h⟩
          ·
            obtain ⟨b4, e13, h⟩ := bE h
            rcases cond_elim h with ⟨e14, h⟩ | ⟨e14, h⟩
            ·
              rcases cond_elim h with ⟨e15, h⟩ | ⟨e15, h⟩
              ·
                rcases cond_elim h with ⟨e16, h⟩ | ⟨e16, h⟩
                ·
                  have h := Option.some.inj h; subst h; exact P4_3 i0 i1 i2 i3 i4 b0 b1 b2 b3 b4 s0 s1 s2 s3 x0 x1 x2 o0 o1 o2 n0 n1 n2 k (SlcP.uptoS e1 e0) (SlcP.strUptoS e2) (F10_ok e3) e4 (F11_ok e5) (F6_ok e6) e7 e8 (F9_ok e9) e10 (F6_ok e11) e12 (F8_ok e13) e14 e15 e16
                ·
                  have h := Option.some.inj h; subst h; exact P4_4 i0 i1 i2 i3 i4 b0 b1 b2 b3 b4 s0 s1 s2 s3 x0 x1 x2 o0 o1 o2 n0 n1 n2 k (SlcP.uptoS e1 e0) (SlcP.strUptoS e2) (F10_ok e3) e4 (F11_ok e5) (F6_ok e6) e7 e8 (F9_ok e9) e10 (F6_ok e11) e12 (F8_ok e13) e14 e15 e16
              ·
                have h := Option.some.inj h; subst h; exact P4_5 i0 i1 i2 i3 i4 b0 b1 b2 b3 b4 s0 s1 s2 s3 x0 x1 x2 o0 o1 o2 n0 n1 n2 k (SlcP.uptoS e1 e0) (SlcP.strUptoS e2) (F10_ok e3) e4 (F11_ok e5) (F6_ok e6) e7 e8 (F9_ok e9) e10 (F6_ok e11) e12 (F8_ok e13) e14 e15
            ·
              have h := Option.some.inj h; subst h; exact P4_6 i0 i1 i2 i3 i4 b0 b1 b2 b3 b4 s0 s1 s2 s3 x0 x1 x2 o0 o1 o2 n0 n1 n2 k (SlcP.uptoS e1 e0) (SlcP.strUptoS e2) (F10_ok e3) e4 (F11_ok e5) (F6_ok e6) e7 e8 (F9_ok e9) e10 (F6_ok e11) e12 (F8_ok e13) e14
          ·
            obtain ⟨⟨s4, i5⟩, e13, h⟩ := bE h
            obtain ⟨b4, e14, h⟩ := bE h
            rcases cond_elim h with ⟨e15, h⟩ | ⟨e15, h⟩
            ·
              rcases cond_elim h with ⟨e16, h⟩ | ⟨e16, h⟩
              ·
                rcases cond_elim h with ⟨e17, h⟩ | ⟨e17, h⟩
                ·
                  obtain ⟨s5, e18, h⟩ := bE h
                  have h := Option.some.inj h; subst h; exact P4_7 i0 i1 i2 i3 i4 i5 b0 b1 b2 b3 b4 s0 s1 s2 s3 s4 s5 x0 x1 x2 o0 o1 o2 n0 n1 n2 k (SlcP.uptoS e1 e0) (SlcP.strUptoS e2) (F10_ok e3) e4 (F11_ok e5) (F6_ok e6) e7 e8 (F9_ok e9) e10 (F6_ok e11) e12 (F10_ok e13) (F8_ok e14) e15 e16 e17 (F11_ok e18)
                ·
                  have h := Option.some.inj h; subst h; exact P4_8 i0 i1 i2 i3 i4 i5 b0 b1 b2 b3 b4 s0 s1 s2 s3 s4 x0 x1 x2 o0 o1 o2 n0 n1 n2 k (SlcP.uptoS e1 e0) (SlcP.strUptoS e2) (F10_ok e3) e4 (F11_ok e5) (F6_ok e6) e7 e8 (F9_ok e9) e10 (F6_ok e11) e12 (F10_ok e13) (F8_ok e14) e15 e16 e17
              ·
                have h := Option.some.inj h; subst h; exact P4_9 i0 i1 i2 i3 i4 i5 b0 b1 b2 b3 b4 s0 s1 s2 s3 s4 x0 x1 x2 o0 o1 o2 n0 n1 n2 k (SlcP.uptoS e1 e0) (SlcP.strUptoS e2) (F10_ok e3) e4 (F11_ok e5) (F6_ok e6) e7 e8 (F9_ok e9) e10 (F6_ok e11) e12 (F10_ok e13) (F8_ok e14) e15 e16
            ·
              have h := Option.some.inj h; subst h; exact P4_10 i0 i1 i2 i3 i4 i5 b0 b1 b2 b3 b4 s0 s1 s2 s3 s4 x0 x1 x2 o0 o1 o2 n0 n1 n2 k (SlcP.uptoS e1 e0) (SlcP.strUptoS e2) (F10_ok e3) e4 (F11_ok e5) (F6_ok e6) e7 e8 (F9_ok e9) e10 (F6_ok e11) e12 (F10_ok e13) (F8_ok e14) e15
  ·
    obtain ⟨⟨o1, b1, n1, x1, i1, i2⟩, e5, h⟩ := bE h
    rcases cond_elim h with ⟨e6, h⟩ | ⟨e6, h⟩
    ·
      obtain ⟨b2, e7, h⟩ := bE h
      rcases cond_elim h with ⟨e8, h⟩ | ⟨e8, h⟩
      ·
        rcases cond_elim h with ⟨e9, h⟩ | ⟨e9, h⟩
        ·
          rcases cond_elim h with ⟨e10, h⟩ | ⟨e10, h⟩
          ·
            have h := Option.some.inj h; subst h; exact P4_11 i0 i1 i2 b0 b1 b2 s0 s1 s2 x0 x1 o0 o1 n0 n1 k (SlcP.uptoS e1 e0) (SlcP.strUptoS e2) (F10_ok e3) e4 (F6_ok e5) e6 (F8_ok e7) e8 e9 e10
          ·
            have h := Option.some.inj h; subst h; exact P4_12 i0 i1 i2 b0 b1 b2 s0 s1 s2 x0 x1 o0 o1 n0 n1 k (SlcP.uptoS e1 e0) (SlcP.strUptoS e2) (F10_ok e3) e4 (F6_ok e5) e6 (F8_ok e7) e8 e9 e10
        ·
          have h := Option.some.inj h; subst h; exact P4_13 i0 i1 i2 b0 b1 b2 s0 s1 s2 x0 x1 o0 o1 n0 n1 k (SlcP.uptoS e1 e0) (SlcP.strUptoS e2) (F10_ok e3) e4 (F6_ok e5) e6 (F8_ok e7) e8 e9
      ·
        have h := Option.some.inj h; subst h; exact P4_14 i0 i1 i2 b0 b1 b2 s0 s1 s2 x0 x1 o0 o1 n0 n1 k (SlcP.uptoS e1 e0) (SlcP.strUptoS e2) (F10_ok e3) e4 (F6_ok e5) e6 (F8_ok e7) e8
    ·
      obtain ⟨⟨s3, i3⟩, e7, h⟩ := bE h
      obtain ⟨b2, e8, h⟩ := bE h
      rcases cond_elim h with ⟨e9, h⟩ | ⟨e9, h⟩
      ·
        rcases cond_elim h with ⟨e10, h⟩ | ⟨e10, h⟩
        ·
          rcases cond_elim h with ⟨e11, h⟩ | ⟨e11, h⟩
          ·
            obtain ⟨s4, e12, h⟩ := bE h
            have h := Option.some.inj h; subst h; exact P4_15 i0 i1 i2 i3 b0 b1 b2 s0 s1 s2 s3 s4 x0 x1 o0 o1 n0 n1 k (SlcP.uptoS e1 e0) (SlcP.strUptoS e2) (F10_ok e3) e4 (F6_ok e5) e6 (F10_ok e7) (F8_ok e8) e9 e10 e11 (F11_ok e12)
          ·
            have h := Option.some.inj h; subst h; exact P4_16 i0 i1 i2 i3 b0 b1 b2 s0 s1 s2 s3 x0 x1 o0 o1 n0 n1 k (SlcP.uptoS e1 e0) (SlcP.strUptoS e2) (F10_ok e3) e4 (F6_ok e5) e6 (F10_ok e7) (F8_ok e8) e9 e10 e11
        ·
          have h := Option.some.inj h; subst h; exact P4_17 i0 i1 i2 i3 b0 b1 b2 s0 s1 s2 s3 x0 x1 o0 o1 n0 n1 k (SlcP.uptoS e1 e0) (SlcP.strUptoS e2) (F10_ok e3) e4 (F6_ok e5) e6 (F10_ok e7) (F8_ok e8) e9 e10
      ·
        have h := Option.some.inj h; subst h; exact P4_18 i0 i1 i2 i3 b0 b1 b2 s0 s1 s2 s3 x0 x1 o0 o1 n0 n1 k (SlcP.uptoS e1 e0) (SlcP.strUptoS e2) (F10_ok e3) e4 (F6_ok e5) e6 (F10_ok e7) (F8_ok e8) e9
end Go.Proofs
