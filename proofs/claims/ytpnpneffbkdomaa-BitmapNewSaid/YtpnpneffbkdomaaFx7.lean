/-
  What the law BitmapNew answers, checked against the program.
-/
import Derived.Test.YtpnpneffbkdomaaFxB
set_option linter.unusedVariables false
set_option maxHeartbeats 0
set_option maxRecDepth 100000
namespace Go.Proofs
open Go Go.Sym

theorem P7_0 (i0 : Int) (i1 : Int) (i2 : Int) (i3 : Int) (i4 : Int) (i5 : Int) (i6 : Int) (i7 : Int) (i8 : Int) (i9 : Int) (i10 : Int) (i11 : Int) (b0 : Bool) (b1 : Bool) (b2 : Bool) (b3 : Bool) (b4 : Bool) (b5 : Bool) (b6 : Bool) (x0 : List V) (x1 : List V) (x2 : List V) (x3 : List V) (x4 : List V) (o0 : Option Bool) (o1 : Option Bool) (o2 : Option Bool) (o3 : Option Bool) (o4 : Option Bool) (n0 : Nat) (n1 : Nat) (n2 : Nat) (n3 : Nat) (n4 : Nat) (k : Nat)
    (c0 : callP (evalFn Try.prog Try.cfg (k + 14)) 29 [V.agg [V.int IntKind.i64 i0, V.sl o0 b0 n0 x0, V.int IntKind.u64 i1]] = some (V.agg [V.int IntKind.i64 i5, V.sl o2 b2 n2 x2, V.int IntKind.u64 i6]))
    (c1 : callP (evalFn Try.prog Try.cfg (k + 14)) 29 [V.agg [V.int IntKind.i64 i2, V.sl o1 b1 n1 x1, V.int IntKind.u64 i3]] = some (V.agg [V.int IntKind.i64 i7, V.sl o3 b3 n3 x3, V.int IntKind.u64 i8]))
    (c2 : callP (evalFn Try.prog Try.cfg (k + 14)) 30 [V.int IntKind.i64 i4] = some (V.tup [V.agg [V.int IntKind.i64 i9, V.sl o4 b4 n4 x4, V.int IntKind.u64 i10], V.int IntKind.i64 i11]))
    (c3 : callP (evalFn Try.prog Try.cfg (k + 14)) 31 [V.agg [V.int IntKind.i64 i5, V.sl o2 b2 n2 x2, V.int IntKind.u64 i6]] = some (V.bool b5))
    (c4 : callP (evalFn Try.prog Try.cfg (k + 14)) 32 [V.agg [V.int IntKind.i64 i5, V.sl o2 b2 n2 x2, V.int IntKind.u64 i6]] = some (V.bool b6))
    (c5 : (!decide (b5 = b6)) = true) :
    callP (evalFn Try.prog Try.cfg (k + 15)) 7 [V.agg [V.int IntKind.i64 i0, V.sl o0 b0 n0 x0, V.int IntKind.u64 i1], V.agg [V.int IntKind.i64 i2, V.sl o1 b1 n1 x1, V.int IntKind.u64 i3], V.int IntKind.i64 i4] = some (V.bool false) :=
  byF (k := k) (d := 15) [Hn.call 10 (V.agg [V.int IntKind.i64 i5, V.sl o2 b2 n2 x2, V.int IntKind.u64 i6]), Hn.call 12 (V.agg [V.int IntKind.i64 i7, V.sl o3 b3 n3 x3, V.int IntKind.u64 i8]), Hn.call 15 (V.tup [V.agg [V.int IntKind.i64 i9, V.sl o4 b4 n4 x4, V.int IntKind.u64 i10], V.int IntKind.i64 i11]), Hn.call 19 (V.bool b5), Hn.call 21 (V.bool b6), Hn.br 23 true] (And.intro c0 (And.intro c1 (And.intro c2 (And.intro c3 (And.intro c4 (And.intro c5 trivial)))))) (by kernel_rfl)
theorem P7_1 (i0 : Int) (i1 : Int) (i2 : Int) (i3 : Int) (i4 : Int) (i5 : Int) (i6 : Int) (i7 : Int) (i8 : Int) (i9 : Int) (i10 : Int) (i11 : Int) (b0 : Bool) (b1 : Bool) (b2 : Bool) (b3 : Bool) (b4 : Bool) (b5 : Bool) (b6 : Bool) (b7 : Bool) (b8 : Bool) (x0 : List V) (x1 : List V) (x2 : List V) (x3 : List V) (x4 : List V) (o0 : Option Bool) (o1 : Option Bool) (o2 : Option Bool) (o3 : Option Bool) (o4 : Option Bool) (n0 : Nat) (n1 : Nat) (n2 : Nat) (n3 : Nat) (n4 : Nat) (k : Nat)
    (c0 : callP (evalFn Try.prog Try.cfg (k + 14)) 29 [V.agg [V.int IntKind.i64 i0, V.sl o0 b0 n0 x0, V.int IntKind.u64 i1]] = some (V.agg [V.int IntKind.i64 i5, V.sl o2 b2 n2 x2, V.int IntKind.u64 i6]))
    (c1 : callP (evalFn Try.prog Try.cfg (k + 14)) 29 [V.agg [V.int IntKind.i64 i2, V.sl o1 b1 n1 x1, V.int IntKind.u64 i3]] = some (V.agg [V.int IntKind.i64 i7, V.sl o3 b3 n3 x3, V.int IntKind.u64 i8]))
    (c2 : callP (evalFn Try.prog Try.cfg (k + 14)) 30 [V.int IntKind.i64 i4] = some (V.tup [V.agg [V.int IntKind.i64 i9, V.sl o4 b4 n4 x4, V.int IntKind.u64 i10], V.int IntKind.i64 i11]))
    (c3 : callP (evalFn Try.prog Try.cfg (k + 14)) 31 [V.agg [V.int IntKind.i64 i5, V.sl o2 b2 n2 x2, V.int IntKind.u64 i6]] = some (V.bool b5))
    (c4 : callP (evalFn Try.prog Try.cfg (k + 14)) 32 [V.agg [V.int IntKind.i64 i5, V.sl o2 b2 n2 x2, V.int IntKind.u64 i6]] = some (V.bool b6))
    (c5 : (!decide (b5 = b6)) = false)
    (c6 : callP (evalFn Try.prog Try.cfg (k + 14)) 33 [V.agg [V.int IntKind.i64 i5, V.sl o2 b2 n2 x2, V.int IntKind.u64 i6], V.agg [V.int IntKind.i64 i7, V.sl o3 b3 n3 x3, V.int IntKind.u64 i8]] = some (V.bool b7))
    (c7 : callP (evalFn Try.prog Try.cfg (k + 14)) 34 [V.agg [V.int IntKind.i64 i5, V.sl o2 b2 n2 x2, V.int IntKind.u64 i6], V.agg [V.int IntKind.i64 i7, V.sl o3 b3 n3 x3, V.int IntKind.u64 i8]] = some (V.bool b8))
    (c8 : (!decide (b7 = b8)) = true) :
    callP (evalFn Try.prog Try.cfg (k + 15)) 7 [V.agg [V.int IntKind.i64 i0, V.sl o0 b0 n0 x0, V.int IntKind.u64 i1], V.agg [V.int IntKind.i64 i2, V.sl o1 b1 n1 x1, V.int IntKind.u64 i3], V.int IntKind.i64 i4] = some (V.bool false) :=
  byF (k := k) (d := 15) [Hn.call 10 (V.agg [V.int IntKind.i64 i5, V.sl o2 b2 n2 x2, V.int IntKind.u64 i6]), Hn.call 12 (V.agg [V.int IntKind.i64 i7, V.sl o3 b3 n3 x3, V.int IntKind.u64 i8]), Hn.call 15 (V.tup [V.agg [V.int IntKind.i64 i9, V.sl o4 b4 n4 x4, V.int IntKind.u64 i10], V.int IntKind.i64 i11]), Hn.call 19 (V.bool b5), Hn.call 21 (V.bool b6), Hn.br 23 false, Hn.call 26 (V.bool b7), Hn.call 29 (V.bool b8), Hn.br 32 true] (And.intro c0 (And.intro c1 (And.intro c2 (And.intro c3 (And.intro c4 (And.intro c5 (And.intro c6 (And.intro c7 (And.intro c8 trivial))))))))) (by kernel_rfl)
theorem P7_2 (i0 : Int) (i1 : Int) (i2 : Int) (i3 : Int) (i4 : Int) (i5 : Int) (i6 : Int) (i7 : Int) (i8 : Int) (i9 : Int) (i10 : Int) (i11 : Int) (b0 : Bool) (b1 : Bool) (b2 : Bool) (b3 : Bool) (b4 : Bool) (b5 : Bool) (b6 : Bool) (b7 : Bool) (b8 : Bool) (b9 : Bool) (x0 : List V) (x1 : List V) (x2 : List V) (x3 : List V) (x4 : List V) (o0 : Option Bool) (o1 : Option Bool) (o2 : Option Bool) (o3 : Option Bool) (o4 : Option Bool) (n0 : Nat) (n1 : Nat) (n2 : Nat) (n3 : Nat) (n4 : Nat) (k : Nat)
    (c0 : callP (evalFn Try.prog Try.cfg (k + 14)) 29 [V.agg [V.int IntKind.i64 i0, V.sl o0 b0 n0 x0, V.int IntKind.u64 i1]] = some (V.agg [V.int IntKind.i64 i5, V.sl o2 b2 n2 x2, V.int IntKind.u64 i6]))
    (c1 : callP (evalFn Try.prog Try.cfg (k + 14)) 29 [V.agg [V.int IntKind.i64 i2, V.sl o1 b1 n1 x1, V.int IntKind.u64 i3]] = some (V.agg [V.int IntKind.i64 i7, V.sl o3 b3 n3 x3, V.int IntKind.u64 i8]))
    (c2 : callP (evalFn Try.prog Try.cfg (k + 14)) 30 [V.int IntKind.i64 i4] = some (V.tup [V.agg [V.int IntKind.i64 i9, V.sl o4 b4 n4 x4, V.int IntKind.u64 i10], V.int IntKind.i64 i11]))
    (c3 : callP (evalFn Try.prog Try.cfg (k + 14)) 31 [V.agg [V.int IntKind.i64 i5, V.sl o2 b2 n2 x2, V.int IntKind.u64 i6]] = some (V.bool b5))
    (c4 : callP (evalFn Try.prog Try.cfg (k + 14)) 32 [V.agg [V.int IntKind.i64 i5, V.sl o2 b2 n2 x2, V.int IntKind.u64 i6]] = some (V.bool b6))
    (c5 : (!decide (b5 = b6)) = false)
    (c6 : callP (evalFn Try.prog Try.cfg (k + 14)) 33 [V.agg [V.int IntKind.i64 i5, V.sl o2 b2 n2 x2, V.int IntKind.u64 i6], V.agg [V.int IntKind.i64 i7, V.sl o3 b3 n3 x3, V.int IntKind.u64 i8]] = some (V.bool b7))
    (c7 : callP (evalFn Try.prog Try.cfg (k + 14)) 34 [V.agg [V.int IntKind.i64 i5, V.sl o2 b2 n2 x2, V.int IntKind.u64 i6], V.agg [V.int IntKind.i64 i7, V.sl o3 b3 n3 x3, V.int IntKind.u64 i8]] = some (V.bool b8))
    (c8 : (!decide (b7 = b8)) = false)
    (c9 : callP (evalFn Try.prog Try.cfg (k + 14)) 33 [V.agg [V.int IntKind.i64 i5, V.sl o2 b2 n2 x2, V.int IntKind.u64 i6], V.agg [V.int IntKind.i64 i5, V.sl o2 b2 n2 x2, V.int IntKind.u64 i6]] = some (V.bool b9))
    (c10 : (!b9) = true) :
    callP (evalFn Try.prog Try.cfg (k + 15)) 7 [V.agg [V.int IntKind.i64 i0, V.sl o0 b0 n0 x0, V.int IntKind.u64 i1], V.agg [V.int IntKind.i64 i2, V.sl o1 b1 n1 x1, V.int IntKind.u64 i3], V.int IntKind.i64 i4] = some (V.bool false) :=
  byF (k := k) (d := 15) [Hn.call 10 (V.agg [V.int IntKind.i64 i5, V.sl o2 b2 n2 x2, V.int IntKind.u64 i6]), Hn.call 12 (V.agg [V.int IntKind.i64 i7, V.sl o3 b3 n3 x3, V.int IntKind.u64 i8]), Hn.call 15 (V.tup [V.agg [V.int IntKind.i64 i9, V.sl o4 b4 n4 x4, V.int IntKind.u64 i10], V.int IntKind.i64 i11]), Hn.call 19 (V.bool b5), Hn.call 21 (V.bool b6), Hn.br 23 false, Hn.call 26 (V.bool b7), Hn.call 29 (V.bool b8), Hn.br 32 false, Hn.call 35 (V.bool b9), Hn.br 38 true] (And.intro c0 (And.intro c1 (And.intro c2 (And.intro c3 (And.intro c4 (And.intro c5 (And.intro c6 (And.intro c7 (And.intro c8 (And.intro c9 (And.intro c10 trivial))))))))))) (by kernel_rfl)
theorem P7_3 (i0 : Int) (i1 : Int) (i2 : Int) (i3 : Int) (i4 : Int) (i5 : Int) (i6 : Int) (i7 : Int) (i8 : Int) (i9 : Int) (i10 : Int) (i11 : Int) (b0 : Bool) (b1 : Bool) (b2 : Bool) (b3 : Bool) (b4 : Bool) (b5 : Bool) (b6 : Bool) (b7 : Bool) (b8 : Bool) (b9 : Bool) (b10 : Bool) (x0 : List V) (x1 : List V) (x2 : List V) (x3 : List V) (x4 : List V) (o0 : Option Bool) (o1 : Option Bool) (o2 : Option Bool) (o3 : Option Bool) (o4 : Option Bool) (n0 : Nat) (n1 : Nat) (n2 : Nat) (n3 : Nat) (n4 : Nat) (k : Nat)
    (c0 : callP (evalFn Try.prog Try.cfg (k + 14)) 29 [V.agg [V.int IntKind.i64 i0, V.sl o0 b0 n0 x0, V.int IntKind.u64 i1]] = some (V.agg [V.int IntKind.i64 i5, V.sl o2 b2 n2 x2, V.int IntKind.u64 i6]))
    (c1 : callP (evalFn Try.prog Try.cfg (k + 14)) 29 [V.agg [V.int IntKind.i64 i2, V.sl o1 b1 n1 x1, V.int IntKind.u64 i3]] = some (V.agg [V.int IntKind.i64 i7, V.sl o3 b3 n3 x3, V.int IntKind.u64 i8]))
    (c2 : callP (evalFn Try.prog Try.cfg (k + 14)) 30 [V.int IntKind.i64 i4] = some (V.tup [V.agg [V.int IntKind.i64 i9, V.sl o4 b4 n4 x4, V.int IntKind.u64 i10], V.int IntKind.i64 i11]))
    (c3 : callP (evalFn Try.prog Try.cfg (k + 14)) 31 [V.agg [V.int IntKind.i64 i5, V.sl o2 b2 n2 x2, V.int IntKind.u64 i6]] = some (V.bool b5))
    (c4 : callP (evalFn Try.prog Try.cfg (k + 14)) 32 [V.agg [V.int IntKind.i64 i5, V.sl o2 b2 n2 x2, V.int IntKind.u64 i6]] = some (V.bool b6))
    (c5 : (!decide (b5 = b6)) = false)
    (c6 : callP (evalFn Try.prog Try.cfg (k + 14)) 33 [V.agg [V.int IntKind.i64 i5, V.sl o2 b2 n2 x2, V.int IntKind.u64 i6], V.agg [V.int IntKind.i64 i7, V.sl o3 b3 n3 x3, V.int IntKind.u64 i8]] = some (V.bool b7))
    (c7 : callP (evalFn Try.prog Try.cfg (k + 14)) 34 [V.agg [V.int IntKind.i64 i5, V.sl o2 b2 n2 x2, V.int IntKind.u64 i6], V.agg [V.int IntKind.i64 i7, V.sl o3 b3 n3 x3, V.int IntKind.u64 i8]] = some (V.bool b8))
    (c8 : (!decide (b7 = b8)) = false)
    (c9 : callP (evalFn Try.prog Try.cfg (k + 14)) 33 [V.agg [V.int IntKind.i64 i5, V.sl o2 b2 n2 x2, V.int IntKind.u64 i6], V.agg [V.int IntKind.i64 i5, V.sl o2 b2 n2 x2, V.int IntKind.u64 i6]] = some (V.bool b9))
    (c10 : (!b9) = false)
    (c11 : callP (evalFn Try.prog Try.cfg (k + 14)) 35 [] = some (V.bool b10))
    (c12 : (!b10) = true) :
    callP (evalFn Try.prog Try.cfg (k + 15)) 7 [V.agg [V.int IntKind.i64 i0, V.sl o0 b0 n0 x0, V.int IntKind.u64 i1], V.agg [V.int IntKind.i64 i2, V.sl o1 b1 n1 x1, V.int IntKind.u64 i3], V.int IntKind.i64 i4] = some (V.bool false) :=
  byF (k := k) (d := 15) [Hn.call 10 (V.agg [V.int IntKind.i64 i5, V.sl o2 b2 n2 x2, V.int IntKind.u64 i6]), Hn.call 12 (V.agg [V.int IntKind.i64 i7, V.sl o3 b3 n3 x3, V.int IntKind.u64 i8]), Hn.call 15 (V.tup [V.agg [V.int IntKind.i64 i9, V.sl o4 b4 n4 x4, V.int IntKind.u64 i10], V.int IntKind.i64 i11]), Hn.call 19 (V.bool b5), Hn.call 21 (V.bool b6), Hn.br 23 false, Hn.call 26 (V.bool b7), Hn.call 29 (V.bool b8), Hn.br 32 false, Hn.call 35 (V.bool b9), Hn.br 38 false, Hn.call 39 (V.bool b10), Hn.br 41 true] (And.intro c0 (And.intro c1 (And.intro c2 (And.intro c3 (And.intro c4 (And.intro c5 (And.intro c6 (And.intro c7 (And.intro c8 (And.intro c9 (And.intro c10 (And.intro c11 (And.intro c12 trivial))))))))))))) (by kernel_rfl)
theorem P7_4 (i0 : Int) (i1 : Int) (i2 : Int) (i3 : Int) (i4 : Int) (i5 : Int) (i6 : Int) (i7 : Int) (i8 : Int) (i9 : Int) (i10 : Int) (i11 : Int) (b0 : Bool) (b1 : Bool) (b2 : Bool) (b3 : Bool) (b4 : Bool) (b5 : Bool) (b6 : Bool) (b7 : Bool) (b8 : Bool) (b9 : Bool) (b10 : Bool) (b11 : Bool) (x0 : List V) (x1 : List V) (x2 : List V) (x3 : List V) (x4 : List V) (o0 : Option Bool) (o1 : Option Bool) (o2 : Option Bool) (o3 : Option Bool) (o4 : Option Bool) (n0 : Nat) (n1 : Nat) (n2 : Nat) (n3 : Nat) (n4 : Nat) (k : Nat)
    (c0 : callP (evalFn Try.prog Try.cfg (k + 14)) 29 [V.agg [V.int IntKind.i64 i0, V.sl o0 b0 n0 x0, V.int IntKind.u64 i1]] = some (V.agg [V.int IntKind.i64 i5, V.sl o2 b2 n2 x2, V.int IntKind.u64 i6]))
    (c1 : callP (evalFn Try.prog Try.cfg (k + 14)) 29 [V.agg [V.int IntKind.i64 i2, V.sl o1 b1 n1 x1, V.int IntKind.u64 i3]] = some (V.agg [V.int IntKind.i64 i7, V.sl o3 b3 n3 x3, V.int IntKind.u64 i8]))
    (c2 : callP (evalFn Try.prog Try.cfg (k + 14)) 30 [V.int IntKind.i64 i4] = some (V.tup [V.agg [V.int IntKind.i64 i9, V.sl o4 b4 n4 x4, V.int IntKind.u64 i10], V.int IntKind.i64 i11]))
    (c3 : callP (evalFn Try.prog Try.cfg (k + 14)) 31 [V.agg [V.int IntKind.i64 i5, V.sl o2 b2 n2 x2, V.int IntKind.u64 i6]] = some (V.bool b5))
    (c4 : callP (evalFn Try.prog Try.cfg (k + 14)) 32 [V.agg [V.int IntKind.i64 i5, V.sl o2 b2 n2 x2, V.int IntKind.u64 i6]] = some (V.bool b6))
    (c5 : (!decide (b5 = b6)) = false)
    (c6 : callP (evalFn Try.prog Try.cfg (k + 14)) 33 [V.agg [V.int IntKind.i64 i5, V.sl o2 b2 n2 x2, V.int IntKind.u64 i6], V.agg [V.int IntKind.i64 i7, V.sl o3 b3 n3 x3, V.int IntKind.u64 i8]] = some (V.bool b7))
    (c7 : callP (evalFn Try.prog Try.cfg (k + 14)) 34 [V.agg [V.int IntKind.i64 i5, V.sl o2 b2 n2 x2, V.int IntKind.u64 i6], V.agg [V.int IntKind.i64 i7, V.sl o3 b3 n3 x3, V.int IntKind.u64 i8]] = some (V.bool b8))
    (c8 : (!decide (b7 = b8)) = false)
    (c9 : callP (evalFn Try.prog Try.cfg (k + 14)) 33 [V.agg [V.int IntKind.i64 i5, V.sl o2 b2 n2 x2, V.int IntKind.u64 i6], V.agg [V.int IntKind.i64 i5, V.sl o2 b2 n2 x2, V.int IntKind.u64 i6]] = some (V.bool b9))
    (c10 : (!b9) = false)
    (c11 : callP (evalFn Try.prog Try.cfg (k + 14)) 35 [] = some (V.bool b10))
    (c12 : (!b10) = false)
    (c13 : decide (i4 < 1) = true)
    (c14 : decide (i11 = 4) = true)
    (c15 : callP (evalFn Try.prog Try.cfg (k + 14)) 34 [V.agg [V.int IntKind.i64 i9, V.sl o4 b4 n4 x4, V.int IntKind.u64 i10], V.agg [V.int IntKind.i64 0, V.sl (some true) true 0 [], V.int IntKind.u64 0]] = some (V.bool b11)) :
    callP (evalFn Try.prog Try.cfg (k + 15)) 7 [V.agg [V.int IntKind.i64 i0, V.sl o0 b0 n0 x0, V.int IntKind.u64 i1], V.agg [V.int IntKind.i64 i2, V.sl o1 b1 n1 x1, V.int IntKind.u64 i3], V.int IntKind.i64 i4] = some (V.bool b11) :=
  byF (k := k) (d := 15) [Hn.call 10 (V.agg [V.int IntKind.i64 i5, V.sl o2 b2 n2 x2, V.int IntKind.u64 i6]), Hn.call 12 (V.agg [V.int IntKind.i64 i7, V.sl o3 b3 n3 x3, V.int IntKind.u64 i8]), Hn.call 15 (V.tup [V.agg [V.int IntKind.i64 i9, V.sl o4 b4 n4 x4, V.int IntKind.u64 i10], V.int IntKind.i64 i11]), Hn.call 19 (V.bool b5), Hn.call 21 (V.bool b6), Hn.br 23 false, Hn.call 26 (V.bool b7), Hn.call 29 (V.bool b8), Hn.br 32 false, Hn.call 35 (V.bool b9), Hn.br 38 false, Hn.call 39 (V.bool b10), Hn.br 41 false, Hn.br 44 true, Hn.br 50 true, Hn.call 53 (V.bool b11)] (And.intro c0 (And.intro c1 (And.intro c2 (And.intro c3 (And.intro c4 (And.intro c5 (And.intro c6 (And.intro c7 (And.intro c8 (And.intro c9 (And.intro c10 (And.intro c11 (And.intro c12 (And.intro c13 (And.intro c14 (And.intro c15 trivial)))))))))))))))) (by kernel_rfl)
theorem P7_5 (i0 : Int) (i1 : Int) (i2 : Int) (i3 : Int) (i4 : Int) (i5 : Int) (i6 : Int) (i7 : Int) (i8 : Int) (i9 : Int) (i10 : Int) (i11 : Int) (b0 : Bool) (b1 : Bool) (b2 : Bool) (b3 : Bool) (b4 : Bool) (b5 : Bool) (b6 : Bool) (b7 : Bool) (b8 : Bool) (b9 : Bool) (b10 : Bool) (x0 : List V) (x1 : List V) (x2 : List V) (x3 : List V) (x4 : List V) (o0 : Option Bool) (o1 : Option Bool) (o2 : Option Bool) (o3 : Option Bool) (o4 : Option Bool) (n0 : Nat) (n1 : Nat) (n2 : Nat) (n3 : Nat) (n4 : Nat) (k : Nat)
    (c0 : callP (evalFn Try.prog Try.cfg (k + 14)) 29 [V.agg [V.int IntKind.i64 i0, V.sl o0 b0 n0 x0, V.int IntKind.u64 i1]] = some (V.agg [V.int IntKind.i64 i5, V.sl o2 b2 n2 x2, V.int IntKind.u64 i6]))
    (c1 : callP (evalFn Try.prog Try.cfg (k + 14)) 29 [V.agg [V.int IntKind.i64 i2, V.sl o1 b1 n1 x1, V.int IntKind.u64 i3]] = some (V.agg [V.int IntKind.i64 i7, V.sl o3 b3 n3 x3, V.int IntKind.u64 i8]))
    (c2 : callP (evalFn Try.prog Try.cfg (k + 14)) 30 [V.int IntKind.i64 i4] = some (V.tup [V.agg [V.int IntKind.i64 i9, V.sl o4 b4 n4 x4, V.int IntKind.u64 i10], V.int IntKind.i64 i11]))
    (c3 : callP (evalFn Try.prog Try.cfg (k + 14)) 31 [V.agg [V.int IntKind.i64 i5, V.sl o2 b2 n2 x2, V.int IntKind.u64 i6]] = some (V.bool b5))
    (c4 : callP (evalFn Try.prog Try.cfg (k + 14)) 32 [V.agg [V.int IntKind.i64 i5, V.sl o2 b2 n2 x2, V.int IntKind.u64 i6]] = some (V.bool b6))
    (c5 : (!decide (b5 = b6)) = false)
    (c6 : callP (evalFn Try.prog Try.cfg (k + 14)) 33 [V.agg [V.int IntKind.i64 i5, V.sl o2 b2 n2 x2, V.int IntKind.u64 i6], V.agg [V.int IntKind.i64 i7, V.sl o3 b3 n3 x3, V.int IntKind.u64 i8]] = some (V.bool b7))
    (c7 : callP (evalFn Try.prog Try.cfg (k + 14)) 34 [V.agg [V.int IntKind.i64 i5, V.sl o2 b2 n2 x2, V.int IntKind.u64 i6], V.agg [V.int IntKind.i64 i7, V.sl o3 b3 n3 x3, V.int IntKind.u64 i8]] = some (V.bool b8))
    (c8 : (!decide (b7 = b8)) = false)
    (c9 : callP (evalFn Try.prog Try.cfg (k + 14)) 33 [V.agg [V.int IntKind.i64 i5, V.sl o2 b2 n2 x2, V.int IntKind.u64 i6], V.agg [V.int IntKind.i64 i5, V.sl o2 b2 n2 x2, V.int IntKind.u64 i6]] = some (V.bool b9))
    (c10 : (!b9) = false)
    (c11 : callP (evalFn Try.prog Try.cfg (k + 14)) 35 [] = some (V.bool b10))
    (c12 : (!b10) = false)
    (c13 : decide (i4 < 1) = true)
    (c14 : decide (i11 = 4) = false) :
    callP (evalFn Try.prog Try.cfg (k + 15)) 7 [V.agg [V.int IntKind.i64 i0, V.sl o0 b0 n0 x0, V.int IntKind.u64 i1], V.agg [V.int IntKind.i64 i2, V.sl o1 b1 n1 x1, V.int IntKind.u64 i3], V.int IntKind.i64 i4] = some (V.bool false) :=
  byF (k := k) (d := 15) [Hn.call 10 (V.agg [V.int IntKind.i64 i5, V.sl o2 b2 n2 x2, V.int IntKind.u64 i6]), Hn.call 12 (V.agg [V.int IntKind.i64 i7, V.sl o3 b3 n3 x3, V.int IntKind.u64 i8]), Hn.call 15 (V.tup [V.agg [V.int IntKind.i64 i9, V.sl o4 b4 n4 x4, V.int IntKind.u64 i10], V.int IntKind.i64 i11]), Hn.call 19 (V.bool b5), Hn.call 21 (V.bool b6), Hn.br 23 false, Hn.call 26 (V.bool b7), Hn.call 29 (V.bool b8), Hn.br 32 false, Hn.call 35 (V.bool b9), Hn.br 38 false, Hn.call 39 (V.bool b10), Hn.br 41 false, Hn.br 44 true, Hn.br 50 false] (And.intro c0 (And.intro c1 (And.intro c2 (And.intro c3 (And.intro c4 (And.intro c5 (And.intro c6 (And.intro c7 (And.intro c8 (And.intro c9 (And.intro c10 (And.intro c11 (And.intro c12 (And.intro c13 (And.intro c14 trivial))))))))))))))) (by kernel_rfl)
theorem P7_6 (i0 : Int) (i1 : Int) (i2 : Int) (i3 : Int) (i4 : Int) (i5 : Int) (i6 : Int) (i7 : Int) (i8 : Int) (i9 : Int) (i10 : Int) (i11 : Int) (b0 : Bool) (b1 : Bool) (b2 : Bool) (b3 : Bool) (b4 : Bool) (b5 : Bool) (b6 : Bool) (b7 : Bool) (b8 : Bool) (b9 : Bool) (b10 : Bool) (b11 : Bool) (x0 : List V) (x1 : List V) (x2 : List V) (x3 : List V) (x4 : List V) (o0 : Option Bool) (o1 : Option Bool) (o2 : Option Bool) (o3 : Option Bool) (o4 : Option Bool) (n0 : Nat) (n1 : Nat) (n2 : Nat) (n3 : Nat) (n4 : Nat) (k : Nat)
    (c0 : callP (evalFn Try.prog Try.cfg (k + 14)) 29 [V.agg [V.int IntKind.i64 i0, V.sl o0 b0 n0 x0, V.int IntKind.u64 i1]] = some (V.agg [V.int IntKind.i64 i5, V.sl o2 b2 n2 x2, V.int IntKind.u64 i6]))
    (c1 : callP (evalFn Try.prog Try.cfg (k + 14)) 29 [V.agg [V.int IntKind.i64 i2, V.sl o1 b1 n1 x1, V.int IntKind.u64 i3]] = some (V.agg [V.int IntKind.i64 i7, V.sl o3 b3 n3 x3, V.int IntKind.u64 i8]))
    (c2 : callP (evalFn Try.prog Try.cfg (k + 14)) 30 [V.int IntKind.i64 i4] = some (V.tup [V.agg [V.int IntKind.i64 i9, V.sl o4 b4 n4 x4, V.int IntKind.u64 i10], V.int IntKind.i64 i11]))
    (c3 : callP (evalFn Try.prog Try.cfg (k + 14)) 31 [V.agg [V.int IntKind.i64 i5, V.sl o2 b2 n2 x2, V.int IntKind.u64 i6]] = some (V.bool b5))
    (c4 : callP (evalFn Try.prog Try.cfg (k + 14)) 32 [V.agg [V.int IntKind.i64 i5, V.sl o2 b2 n2 x2, V.int IntKind.u64 i6]] = some (V.bool b6))
    (c5 : (!decide (b5 = b6)) = false)
    (c6 : callP (evalFn Try.prog Try.cfg (k + 14)) 33 [V.agg [V.int IntKind.i64 i5, V.sl o2 b2 n2 x2, V.int IntKind.u64 i6], V.agg [V.int IntKind.i64 i7, V.sl o3 b3 n3 x3, V.int IntKind.u64 i8]] = some (V.bool b7))
    (c7 : callP (evalFn Try.prog Try.cfg (k + 14)) 34 [V.agg [V.int IntKind.i64 i5, V.sl o2 b2 n2 x2, V.int IntKind.u64 i6], V.agg [V.int IntKind.i64 i7, V.sl o3 b3 n3 x3, V.int IntKind.u64 i8]] = some (V.bool b8))
    (c8 : (!decide (b7 = b8)) = false)
    (c9 : callP (evalFn Try.prog Try.cfg (k + 14)) 33 [V.agg [V.int IntKind.i64 i5, V.sl o2 b2 n2 x2, V.int IntKind.u64 i6], V.agg [V.int IntKind.i64 i5, V.sl o2 b2 n2 x2, V.int IntKind.u64 i6]] = some (V.bool b9))
    (c10 : (!b9) = false)
    (c11 : callP (evalFn Try.prog Try.cfg (k + 14)) 35 [] = some (V.bool b10))
    (c12 : (!b10) = false)
    (c13 : decide (i4 < 1) = false)
    (c14 : decide (4096 < i4) = true)
    (c15 : decide (i11 = 4) = true)
    (c16 : callP (evalFn Try.prog Try.cfg (k + 14)) 34 [V.agg [V.int IntKind.i64 i9, V.sl o4 b4 n4 x4, V.int IntKind.u64 i10], V.agg [V.int IntKind.i64 0, V.sl (some true) true 0 [], V.int IntKind.u64 0]] = some (V.bool b11)) :
    callP (evalFn Try.prog Try.cfg (k + 15)) 7 [V.agg [V.int IntKind.i64 i0, V.sl o0 b0 n0 x0, V.int IntKind.u64 i1], V.agg [V.int IntKind.i64 i2, V.sl o1 b1 n1 x1, V.int IntKind.u64 i3], V.int IntKind.i64 i4] = some (V.bool b11) :=
  byF (k := k) (d := 15) [Hn.call 10 (V.agg [V.int IntKind.i64 i5, V.sl o2 b2 n2 x2, V.int IntKind.u64 i6]), Hn.call 12 (V.agg [V.int IntKind.i64 i7, V.sl o3 b3 n3 x3, V.int IntKind.u64 i8]), Hn.call 15 (V.tup [V.agg [V.int IntKind.i64 i9, V.sl o4 b4 n4 x4, V.int IntKind.u64 i10], V.int IntKind.i64 i11]), Hn.call 19 (V.bool b5), Hn.call 21 (V.bool b6), Hn.br 23 false, Hn.call 26 (V.bool b7), Hn.call 29 (V.bool b8), Hn.br 32 false, Hn.call 35 (V.bool b9), Hn.br 38 false, Hn.call 39 (V.bool b10), Hn.br 41 false, Hn.br 44 false, Hn.br 47 true, Hn.br 50 true, Hn.call 53 (V.bool b11)] (And.intro c0 (And.intro c1 (And.intro c2 (And.intro c3 (And.intro c4 (And.intro c5 (And.intro c6 (And.intro c7 (And.intro c8 (And.intro c9 (And.intro c10 (And.intro c11 (And.intro c12 (And.intro c13 (And.intro c14 (And.intro c15 (And.intro c16 trivial))))))))))))))))) (by kernel_rfl)
theorem P7_7 (i0 : Int) (i1 : Int) (i2 : Int) (i3 : Int) (i4 : Int) (i5 : Int) (i6 : Int) (i7 : Int) (i8 : Int) (i9 : Int) (i10 : Int) (i11 : Int) (b0 : Bool) (b1 : Bool) (b2 : Bool) (b3 : Bool) (b4 : Bool) (b5 : Bool) (b6 : Bool) (b7 : Bool) (b8 : Bool) (b9 : Bool) (b10 : Bool) (x0 : List V) (x1 : List V) (x2 : List V) (x3 : List V) (x4 : List V) (o0 : Option Bool) (o1 : Option Bool) (o2 : Option Bool) (o3 : Option Bool) (o4 : Option Bool) (n0 : Nat) (n1 : Nat) (n2 : Nat) (n3 : Nat) (n4 : Nat) (k : Nat)
    (c0 : callP (evalFn Try.prog Try.cfg (k + 14)) 29 [V.agg [V.int IntKind.i64 i0, V.sl o0 b0 n0 x0, V.int IntKind.u64 i1]] = some (V.agg [V.int IntKind.i64 i5, V.sl o2 b2 n2 x2, V.int IntKind.u64 i6]))
    (c1 : callP (evalFn Try.prog Try.cfg (k + 14)) 29 [V.agg [V.int IntKind.i64 i2, V.sl o1 b1 n1 x1, V.int IntKind.u64 i3]] = some (V.agg [V.int IntKind.i64 i7, V.sl o3 b3 n3 x3, V.int IntKind.u64 i8]))
    (c2 : callP (evalFn Try.prog Try.cfg (k + 14)) 30 [V.int IntKind.i64 i4] = some (V.tup [V.agg [V.int IntKind.i64 i9, V.sl o4 b4 n4 x4, V.int IntKind.u64 i10], V.int IntKind.i64 i11]))
    (c3 : callP (evalFn Try.prog Try.cfg (k + 14)) 31 [V.agg [V.int IntKind.i64 i5, V.sl o2 b2 n2 x2, V.int IntKind.u64 i6]] = some (V.bool b5))
    (c4 : callP (evalFn Try.prog Try.cfg (k + 14)) 32 [V.agg [V.int IntKind.i64 i5, V.sl o2 b2 n2 x2, V.int IntKind.u64 i6]] = some (V.bool b6))
    (c5 : (!decide (b5 = b6)) = false)
    (c6 : callP (evalFn Try.prog Try.cfg (k + 14)) 33 [V.agg [V.int IntKind.i64 i5, V.sl o2 b2 n2 x2, V.int IntKind.u64 i6], V.agg [V.int IntKind.i64 i7, V.sl o3 b3 n3 x3, V.int IntKind.u64 i8]] = some (V.bool b7))
    (c7 : callP (evalFn Try.prog Try.cfg (k + 14)) 34 [V.agg [V.int IntKind.i64 i5, V.sl o2 b2 n2 x2, V.int IntKind.u64 i6], V.agg [V.int IntKind.i64 i7, V.sl o3 b3 n3 x3, V.int IntKind.u64 i8]] = some (V.bool b8))
    (c8 : (!decide (b7 = b8)) = false)
    (c9 : callP (evalFn Try.prog Try.cfg (k + 14)) 33 [V.agg [V.int IntKind.i64 i5, V.sl o2 b2 n2 x2, V.int IntKind.u64 i6], V.agg [V.int IntKind.i64 i5, V.sl o2 b2 n2 x2, V.int IntKind.u64 i6]] = some (V.bool b9))
    (c10 : (!b9) = false)
    (c11 : callP (evalFn Try.prog Try.cfg (k + 14)) 35 [] = some (V.bool b10))
    (c12 : (!b10) = false)
    (c13 : decide (i4 < 1) = false)
    (c14 : decide (4096 < i4) = true)
    (c15 : decide (i11 = 4) = false) :
    callP (evalFn Try.prog Try.cfg (k + 15)) 7 [V.agg [V.int IntKind.i64 i0, V.sl o0 b0 n0 x0, V.int IntKind.u64 i1], V.agg [V.int IntKind.i64 i2, V.sl o1 b1 n1 x1, V.int IntKind.u64 i3], V.int IntKind.i64 i4] = some (V.bool false) :=
  byF (k := k) (d := 15) [Hn.call 10 (V.agg [V.int IntKind.i64 i5, V.sl o2 b2 n2 x2, V.int IntKind.u64 i6]), Hn.call 12 (V.agg [V.int IntKind.i64 i7, V.sl o3 b3 n3 x3, V.int IntKind.u64 i8]), Hn.call 15 (V.tup [V.agg [V.int IntKind.i64 i9, V.sl o4 b4 n4 x4, V.int IntKind.u64 i10], V.int IntKind.i64 i11]), Hn.call 19 (V.bool b5), Hn.call 21 (V.bool b6), Hn.br 23 false, Hn.call 26 (V.bool b7), Hn.call 29 (V.bool b8), Hn.br 32 false, Hn.call 35 (V.bool b9), Hn.br 38 false, Hn.call 39 (V.bool b10), Hn.br 41 false, Hn.br 44 false, Hn.br 47 true, Hn.br 50 false] (And.intro c0 (And.intro c1 (And.intro c2 (And.intro c3 (And.intro c4 (And.intro c5 (And.intro c6 (And.intro c7 (And.intro c8 (And.intro c9 (And.intro c10 (And.intro c11 (And.intro c12 (And.intro c13 (And.intro c14 (And.intro c15 trivial)))))))))))))))) (by kernel_rfl)
theorem P7_8 (i0 : Int) (i1 : Int) (i2 : Int) (i3 : Int) (i4 : Int) (i5 : Int) (i6 : Int) (i7 : Int) (i8 : Int) (i9 : Int) (i10 : Int) (i11 : Int) (i12 : Int) (i13 : Int) (b0 : Bool) (b1 : Bool) (b2 : Bool) (b3 : Bool) (b4 : Bool) (b5 : Bool) (b6 : Bool) (b7 : Bool) (b8 : Bool) (b9 : Bool) (b10 : Bool) (b11 : Bool) (b12 : Bool) (b13 : Bool) (x0 : List V) (x1 : List V) (x2 : List V) (x3 : List V) (x4 : List V) (x5 : List V) (o0 : Option Bool) (o1 : Option Bool) (o2 : Option Bool) (o3 : Option Bool) (o4 : Option Bool) (o5 : Option Bool) (n0 : Nat) (n1 : Nat) (n2 : Nat) (n3 : Nat) (n4 : Nat) (n5 : Nat) (k : Nat)
    (c0 : callP (evalFn Try.prog Try.cfg (k + 14)) 29 [V.agg [V.int IntKind.i64 i0, V.sl o0 b0 n0 x0, V.int IntKind.u64 i1]] = some (V.agg [V.int IntKind.i64 i5, V.sl o2 b2 n2 x2, V.int IntKind.u64 i6]))
    (c1 : callP (evalFn Try.prog Try.cfg (k + 14)) 29 [V.agg [V.int IntKind.i64 i2, V.sl o1 b1 n1 x1, V.int IntKind.u64 i3]] = some (V.agg [V.int IntKind.i64 i7, V.sl o3 b3 n3 x3, V.int IntKind.u64 i8]))
    (c2 : callP (evalFn Try.prog Try.cfg (k + 14)) 30 [V.int IntKind.i64 i4] = some (V.tup [V.agg [V.int IntKind.i64 i9, V.sl o4 b4 n4 x4, V.int IntKind.u64 i10], V.int IntKind.i64 i11]))
    (c3 : callP (evalFn Try.prog Try.cfg (k + 14)) 31 [V.agg [V.int IntKind.i64 i5, V.sl o2 b2 n2 x2, V.int IntKind.u64 i6]] = some (V.bool b5))
    (c4 : callP (evalFn Try.prog Try.cfg (k + 14)) 32 [V.agg [V.int IntKind.i64 i5, V.sl o2 b2 n2 x2, V.int IntKind.u64 i6]] = some (V.bool b6))
    (c5 : (!decide (b5 = b6)) = false)
    (c6 : callP (evalFn Try.prog Try.cfg (k + 14)) 33 [V.agg [V.int IntKind.i64 i5, V.sl o2 b2 n2 x2, V.int IntKind.u64 i6], V.agg [V.int IntKind.i64 i7, V.sl o3 b3 n3 x3, V.int IntKind.u64 i8]] = some (V.bool b7))
    (c7 : callP (evalFn Try.prog Try.cfg (k + 14)) 34 [V.agg [V.int IntKind.i64 i5, V.sl o2 b2 n2 x2, V.int IntKind.u64 i6], V.agg [V.int IntKind.i64 i7, V.sl o3 b3 n3 x3, V.int IntKind.u64 i8]] = some (V.bool b8))
    (c8 : (!decide (b7 = b8)) = false)
    (c9 : callP (evalFn Try.prog Try.cfg (k + 14)) 33 [V.agg [V.int IntKind.i64 i5, V.sl o2 b2 n2 x2, V.int IntKind.u64 i6], V.agg [V.int IntKind.i64 i5, V.sl o2 b2 n2 x2, V.int IntKind.u64 i6]] = some (V.bool b9))
    (c10 : (!b9) = false)
    (c11 : callP (evalFn Try.prog Try.cfg (k + 14)) 35 [] = some (V.bool b10))
    (c12 : (!b10) = false)
    (c13 : decide (i4 < 1) = false)
    (c14 : decide (4096 < i4) = false)
    (c15 : decide (i11 = 0) = true)
    (c16 : callP (evalFn Try.prog Try.cfg (k + 14)) 36 [V.int IntKind.i64 i4] = some (V.agg [V.int IntKind.i64 i12, V.sl o5 b11 n5 x5, V.int IntKind.u64 i13]))
    (c17 : callP (evalFn Try.prog Try.cfg (k + 14)) 34 [V.agg [V.int IntKind.i64 i9, V.sl o4 b4 n4 x4, V.int IntKind.u64 i10], V.agg [V.int IntKind.i64 i12, V.sl o5 b11 n5 x5, V.int IntKind.u64 i13]] = some (V.bool b12))
    (c18 : b12 = true)
    (c19 : callP (evalFn Try.prog Try.cfg (k + 14)) 31 [V.agg [V.int IntKind.i64 i9, V.sl o4 b4 n4 x4, V.int IntKind.u64 i10]] = some (V.bool b13)) :
    callP (evalFn Try.prog Try.cfg (k + 15)) 7 [V.agg [V.int IntKind.i64 i0, V.sl o0 b0 n0 x0, V.int IntKind.u64 i1], V.agg [V.int IntKind.i64 i2, V.sl o1 b1 n1 x1, V.int IntKind.u64 i3], V.int IntKind.i64 i4] = some (V.bool b13) :=
  byF (k := k) (d := 15) [Hn.call 10 (V.agg [V.int IntKind.i64 i5, V.sl o2 b2 n2 x2, V.int IntKind.u64 i6]), Hn.call 12 (V.agg [V.int IntKind.i64 i7, V.sl o3 b3 n3 x3, V.int IntKind.u64 i8]), Hn.call 15 (V.tup [V.agg [V.int IntKind.i64 i9, V.sl o4 b4 n4 x4, V.int IntKind.u64 i10], V.int IntKind.i64 i11]), Hn.call 19 (V.bool b5), Hn.call 21 (V.bool b6), Hn.br 23 false, Hn.call 26 (V.bool b7), Hn.call 29 (V.bool b8), Hn.br 32 false, Hn.call 35 (V.bool b9), Hn.br 38 false, Hn.call 39 (V.bool b10), Hn.br 41 false, Hn.br 44 false, Hn.br 47 false, Hn.br 57 true, Hn.call 60 (V.agg [V.int IntKind.i64 i12, V.sl o5 b11 n5 x5, V.int IntKind.u64 i13]), Hn.call 61 (V.bool b12), Hn.br 63 true, Hn.call 65 (V.bool b13)] (And.intro c0 (And.intro c1 (And.intro c2 (And.intro c3 (And.intro c4 (And.intro c5 (And.intro c6 (And.intro c7 (And.intro c8 (And.intro c9 (And.intro c10 (And.intro c11 (And.intro c12 (And.intro c13 (And.intro c14 (And.intro c15 (And.intro c16 (And.intro c17 (And.intro c18 (And.intro c19 trivial)))))))))))))))))))) (by kernel_rfl)
theorem P7_9 (i0 : Int) (i1 : Int) (i2 : Int) (i3 : Int) (i4 : Int) (i5 : Int) (i6 : Int) (i7 : Int) (i8 : Int) (i9 : Int) (i10 : Int) (i11 : Int) (i12 : Int) (i13 : Int) (b0 : Bool) (b1 : Bool) (b2 : Bool) (b3 : Bool) (b4 : Bool) (b5 : Bool) (b6 : Bool) (b7 : Bool) (b8 : Bool) (b9 : Bool) (b10 : Bool) (b11 : Bool) (b12 : Bool) (x0 : List V) (x1 : List V) (x2 : List V) (x3 : List V) (x4 : List V) (x5 : List V) (o0 : Option Bool) (o1 : Option Bool) (o2 : Option Bool) (o3 : Option Bool) (o4 : Option Bool) (o5 : Option Bool) (n0 : Nat) (n1 : Nat) (n2 : Nat) (n3 : Nat) (n4 : Nat) (n5 : Nat) (k : Nat)
    (c0 : callP (evalFn Try.prog Try.cfg (k + 14)) 29 [V.agg [V.int IntKind.i64 i0, V.sl o0 b0 n0 x0, V.int IntKind.u64 i1]] = some (V.agg [V.int IntKind.i64 i5, V.sl o2 b2 n2 x2, V.int IntKind.u64 i6]))
    (c1 : callP (evalFn Try.prog Try.cfg (k + 14)) 29 [V.agg [V.int IntKind.i64 i2, V.sl o1 b1 n1 x1, V.int IntKind.u64 i3]] = some (V.agg [V.int IntKind.i64 i7, V.sl o3 b3 n3 x3, V.int IntKind.u64 i8]))
    (c2 : callP (evalFn Try.prog Try.cfg (k + 14)) 30 [V.int IntKind.i64 i4] = some (V.tup [V.agg [V.int IntKind.i64 i9, V.sl o4 b4 n4 x4, V.int IntKind.u64 i10], V.int IntKind.i64 i11]))
    (c3 : callP (evalFn Try.prog Try.cfg (k + 14)) 31 [V.agg [V.int IntKind.i64 i5, V.sl o2 b2 n2 x2, V.int IntKind.u64 i6]] = some (V.bool b5))
    (c4 : callP (evalFn Try.prog Try.cfg (k + 14)) 32 [V.agg [V.int IntKind.i64 i5, V.sl o2 b2 n2 x2, V.int IntKind.u64 i6]] = some (V.bool b6))
    (c5 : (!decide (b5 = b6)) = false)
    (c6 : callP (evalFn Try.prog Try.cfg (k + 14)) 33 [V.agg [V.int IntKind.i64 i5, V.sl o2 b2 n2 x2, V.int IntKind.u64 i6], V.agg [V.int IntKind.i64 i7, V.sl o3 b3 n3 x3, V.int IntKind.u64 i8]] = some (V.bool b7))
    (c7 : callP (evalFn Try.prog Try.cfg (k + 14)) 34 [V.agg [V.int IntKind.i64 i5, V.sl o2 b2 n2 x2, V.int IntKind.u64 i6], V.agg [V.int IntKind.i64 i7, V.sl o3 b3 n3 x3, V.int IntKind.u64 i8]] = some (V.bool b8))
    (c8 : (!decide (b7 = b8)) = false)
    (c9 : callP (evalFn Try.prog Try.cfg (k + 14)) 33 [V.agg [V.int IntKind.i64 i5, V.sl o2 b2 n2 x2, V.int IntKind.u64 i6], V.agg [V.int IntKind.i64 i5, V.sl o2 b2 n2 x2, V.int IntKind.u64 i6]] = some (V.bool b9))
    (c10 : (!b9) = false)
    (c11 : callP (evalFn Try.prog Try.cfg (k + 14)) 35 [] = some (V.bool b10))
    (c12 : (!b10) = false)
    (c13 : decide (i4 < 1) = false)
    (c14 : decide (4096 < i4) = false)
    (c15 : decide (i11 = 0) = true)
    (c16 : callP (evalFn Try.prog Try.cfg (k + 14)) 36 [V.int IntKind.i64 i4] = some (V.agg [V.int IntKind.i64 i12, V.sl o5 b11 n5 x5, V.int IntKind.u64 i13]))
    (c17 : callP (evalFn Try.prog Try.cfg (k + 14)) 34 [V.agg [V.int IntKind.i64 i9, V.sl o4 b4 n4 x4, V.int IntKind.u64 i10], V.agg [V.int IntKind.i64 i12, V.sl o5 b11 n5 x5, V.int IntKind.u64 i13]] = some (V.bool b12))
    (c18 : b12 = false) :
    callP (evalFn Try.prog Try.cfg (k + 15)) 7 [V.agg [V.int IntKind.i64 i0, V.sl o0 b0 n0 x0, V.int IntKind.u64 i1], V.agg [V.int IntKind.i64 i2, V.sl o1 b1 n1 x1, V.int IntKind.u64 i3], V.int IntKind.i64 i4] = some (V.bool false) :=
  byF (k := k) (d := 15) [Hn.call 10 (V.agg [V.int IntKind.i64 i5, V.sl o2 b2 n2 x2, V.int IntKind.u64 i6]), Hn.call 12 (V.agg [V.int IntKind.i64 i7, V.sl o3 b3 n3 x3, V.int IntKind.u64 i8]), Hn.call 15 (V.tup [V.agg [V.int IntKind.i64 i9, V.sl o4 b4 n4 x4, V.int IntKind.u64 i10], V.int IntKind.i64 i11]), Hn.call 19 (V.bool b5), Hn.call 21 (V.bool b6), Hn.br 23 false, Hn.call 26 (V.bool b7), Hn.call 29 (V.bool b8), Hn.br 32 false, Hn.call 35 (V.bool b9), Hn.br 38 false, Hn.call 39 (V.bool b10), Hn.br 41 false, Hn.br 44 false, Hn.br 47 false, Hn.br 57 true, Hn.call 60 (V.agg [V.int IntKind.i64 i12, V.sl o5 b11 n5 x5, V.int IntKind.u64 i13]), Hn.call 61 (V.bool b12), Hn.br 63 false] (And.intro c0 (And.intro c1 (And.intro c2 (And.intro c3 (And.intro c4 (And.intro c5 (And.intro c6 (And.intro c7 (And.intro c8 (And.intro c9 (And.intro c10 (And.intro c11 (And.intro c12 (And.intro c13 (And.intro c14 (And.intro c15 (And.intro c16 (And.intro c17 (And.intro c18 trivial))))))))))))))))))) (by kernel_rfl)
theorem P7_10 (i0 : Int) (i1 : Int) (i2 : Int) (i3 : Int) (i4 : Int) (i5 : Int) (i6 : Int) (i7 : Int) (i8 : Int) (i9 : Int) (i10 : Int) (i11 : Int) (b0 : Bool) (b1 : Bool) (b2 : Bool) (b3 : Bool) (b4 : Bool) (b5 : Bool) (b6 : Bool) (b7 : Bool) (b8 : Bool) (b9 : Bool) (b10 : Bool) (x0 : List V) (x1 : List V) (x2 : List V) (x3 : List V) (x4 : List V) (o0 : Option Bool) (o1 : Option Bool) (o2 : Option Bool) (o3 : Option Bool) (o4 : Option Bool) (n0 : Nat) (n1 : Nat) (n2 : Nat) (n3 : Nat) (n4 : Nat) (k : Nat)
    (c0 : callP (evalFn Try.prog Try.cfg (k + 14)) 29 [V.agg [V.int IntKind.i64 i0, V.sl o0 b0 n0 x0, V.int IntKind.u64 i1]] = some (V.agg [V.int IntKind.i64 i5, V.sl o2 b2 n2 x2, V.int IntKind.u64 i6]))
    (c1 : callP (evalFn Try.prog Try.cfg (k + 14)) 29 [V.agg [V.int IntKind.i64 i2, V.sl o1 b1 n1 x1, V.int IntKind.u64 i3]] = some (V.agg [V.int IntKind.i64 i7, V.sl o3 b3 n3 x3, V.int IntKind.u64 i8]))
    (c2 : callP (evalFn Try.prog Try.cfg (k + 14)) 30 [V.int IntKind.i64 i4] = some (V.tup [V.agg [V.int IntKind.i64 i9, V.sl o4 b4 n4 x4, V.int IntKind.u64 i10], V.int IntKind.i64 i11]))
    (c3 : callP (evalFn Try.prog Try.cfg (k + 14)) 31 [V.agg [V.int IntKind.i64 i5, V.sl o2 b2 n2 x2, V.int IntKind.u64 i6]] = some (V.bool b5))
    (c4 : callP (evalFn Try.prog Try.cfg (k + 14)) 32 [V.agg [V.int IntKind.i64 i5, V.sl o2 b2 n2 x2, V.int IntKind.u64 i6]] = some (V.bool b6))
    (c5 : (!decide (b5 = b6)) = false)
    (c6 : callP (evalFn Try.prog Try.cfg (k + 14)) 33 [V.agg [V.int IntKind.i64 i5, V.sl o2 b2 n2 x2, V.int IntKind.u64 i6], V.agg [V.int IntKind.i64 i7, V.sl o3 b3 n3 x3, V.int IntKind.u64 i8]] = some (V.bool b7))
    (c7 : callP (evalFn Try.prog Try.cfg (k + 14)) 34 [V.agg [V.int IntKind.i64 i5, V.sl o2 b2 n2 x2, V.int IntKind.u64 i6], V.agg [V.int IntKind.i64 i7, V.sl o3 b3 n3 x3, V.int IntKind.u64 i8]] = some (V.bool b8))
    (c8 : (!decide (b7 = b8)) = false)
    (c9 : callP (evalFn Try.prog Try.cfg (k + 14)) 33 [V.agg [V.int IntKind.i64 i5, V.sl o2 b2 n2 x2, V.int IntKind.u64 i6], V.agg [V.int IntKind.i64 i5, V.sl o2 b2 n2 x2, V.int IntKind.u64 i6]] = some (V.bool b9))
    (c10 : (!b9) = false)
    (c11 : callP (evalFn Try.prog Try.cfg (k + 14)) 35 [] = some (V.bool b10))
    (c12 : (!b10) = false)
    (c13 : decide (i4 < 1) = false)
    (c14 : decide (4096 < i4) = false)
    (c15 : decide (i11 = 0) = false) :
    callP (evalFn Try.prog Try.cfg (k + 15)) 7 [V.agg [V.int IntKind.i64 i0, V.sl o0 b0 n0 x0, V.int IntKind.u64 i1], V.agg [V.int IntKind.i64 i2, V.sl o1 b1 n1 x1, V.int IntKind.u64 i3], V.int IntKind.i64 i4] = some (V.bool false) :=
  byF (k := k) (d := 15) [Hn.call 10 (V.agg [V.int IntKind.i64 i5, V.sl o2 b2 n2 x2, V.int IntKind.u64 i6]), Hn.call 12 (V.agg [V.int IntKind.i64 i7, V.sl o3 b3 n3 x3, V.int IntKind.u64 i8]), Hn.call 15 (V.tup [V.agg [V.int IntKind.i64 i9, V.sl o4 b4 n4 x4, V.int IntKind.u64 i10], V.int IntKind.i64 i11]), Hn.call 19 (V.bool b5), Hn.call 21 (V.bool b6), Hn.br 23 false, Hn.call 26 (V.bool b7), Hn.call 29 (V.bool b8), Hn.br 32 false, Hn.call 35 (V.bool b9), Hn.br 38 false, Hn.call 39 (V.bool b10), Hn.br 41 false, Hn.br 44 false, Hn.br 47 false, Hn.br 57 false] (And.intro c0 (And.intro c1 (And.intro c2 (And.intro c3 (And.intro c4 (And.intro c5 (And.intro c6 (And.intro c7 (And.intro c8 (And.intro c9 (And.intro c10 (And.intro c11 (And.intro c12 (And.intro c13 (And.intro c14 (And.intro c15 trivial)))))))))))))))) (by kernel_rfl)
def F7 (k : Nat) (i0 : Int) (o0 : Option Bool) (b0 : Bool) (n0 : Nat) (x0 : List V) (i1 : Int) (i2 : Int) (o1 : Option Bool) (b1 : Bool) (n1 : Nat) (x1 : List V) (i3 : Int) (i4 : Int) : Option (Bool) :=
  ((F29 (k + 11) (i0) (o0) (b0) (n0) (x0) (i1)).bind fun (i5, o2, b2, n2, x2, i6) => ((F29 (k + 11) (i2) (o1) (b1) (n1) (x1) (i3)).bind fun (i7, o3, b3, n3, x3, i8) => ((F30 (k + 8) (i4)).bind fun (i9, o4, b4, n4, x4, i10, i11) => ((F31 (k + 8) (i5) (o2) (b2) (n2) (x2) (i6)).bind fun b5 => ((F32 (k + 5) (i5) (o2) (b2) (n2) (x2) (i6)).bind fun b6 => (bif !decide (b5 = b6) then (some (false)) else ((F33 (k + 8) (i5) (o2) (b2) (n2) (x2) (i6) (i7) (o3) (b3) (n3) (x3) (i8)).bind fun b7 => ((F34 (k + 11) (i5) (o2) (b2) (n2) (x2) (i6) (i7) (o3) (b3) (n3) (x3) (i8)).bind fun b8 => (bif !decide (b7 = b8) then (some (false)) else ((F33 (k + 8) (i5) (o2) (b2) (n2) (x2) (i6) (i5) (o2) (b2) (n2) (x2) (i6)).bind fun b9 => (bif !b9 then (some (false)) else ((F35 (k + 2)).bind fun b10 => (bif !b10 then (some (false)) else (bif decide (i4 < 1) then (bif decide (i11 = 4) then ((F34 (k + 11) (i9) (o4) (b4) (n4) (x4) (i10) (0) (some true) (true) (0) ([]) (0)).bind fun b11 => (some (b11))) else (some (false))) else (bif decide (4096 < i4) then (bif decide (i11 = 4) then ((F34 (k + 11) (i9) (o4) (b4) (n4) (x4) (i10) (0) (some true) (true) (0) ([]) (0)).bind fun b11 => (some (b11))) else (some (false))) else (bif decide (i11 = 0) then ((F36 (k + 11) (i4)).bind fun (i12, o5, b11, n5, x5, i13) => ((F34 (k + 11) (i9) (o4) (b4) (n4) (x4) (i10) (i12) (o5) (b11) (n5) (x5) (i13)).bind fun b12 => (bif b12 then ((F31 (k + 8) (i9) (o4) (b4) (n4) (x4) (i10)).bind fun b13 => (some (b13))) else (some (false))))) else (some (false))))))))))))))))))
theorem F7_ok {i0 : Int} {o0 : Option Bool} {b0 : Bool} {n0 : Nat} {x0 : List V} {i1 : Int} {i2 : Int} {o1 : Option Bool} {b1 : Bool} {n1 : Nat} {x1 : List V} {i3 : Int} {i4 : Int} {k : Nat} {r : Bool} (h : F7 k i0 o0 b0 n0 x0 i1 i2 o1 b1 n1 x1 i3 i4 = some r) :
    callP (evalFn Try.prog Try.cfg (k + 15)) 7 [V.agg [V.int IntKind.i64 i0, V.sl o0 b0 n0 x0, V.int IntKind.u64 i1], V.agg [V.int IntKind.i64 i2, V.sl o1 b1 n1 x1, V.int IntKind.u64 i3], V.int IntKind.i64 i4] = some (V.bool r) := by
  unfold F7 at h
  obtain ⟨⟨i5, o2, b2, n2, x2, i6⟩, e0, h⟩ := Option.bind_eq_some_iff.1 h
  obtain ⟨⟨i7, o3, b3, n3, x3, i8⟩, e1, h⟩ := Option.bind_eq_some_iff.1 h
  obtain ⟨⟨i9, o4, b4, n4, x4, i10, i11⟩, e2, h⟩ := Option.bind_eq_some_iff.1 h
  obtain ⟨b5, e3, h⟩ := Option.bind_eq_some_iff.1 h
  obtain ⟨b6, e4, h⟩ := Option.bind_eq_some_iff.1 h
  rcases cond_elim h with ⟨e5, h⟩ | ⟨e5, h⟩
  ·
    have h := Option.some.inj h; subst h; exact P7_0 i0 i1 i2 i3 i4 i5 i6 i7 i8 i9 i10 i11 b0 b1 b2 b3 b4 b5 b6 x0 x1 x2 x3 x4 o0 o1 o2 o3 o4 n0 n1 n2 n3 n4 k (F29_ok e0) (F29_ok e1) (F30_ok e2) (F31_ok e3) (F32_ok e4) e5
  ·
    obtain ⟨b7, e6, h⟩ := Option.bind_eq_some_iff.1 h
    obtain ⟨b8, e7, h⟩ := Option.bind_eq_some_iff.1 h
    rcases cond_elim h with ⟨e8, h⟩ | ⟨e8, h⟩
    ·
      have h := Option.some.inj h; subst h; exact P7_1 i0 i1 i2 i3 i4 i5 i6 i7 i8 i9 i10 i11 b0 b1 b2 b3 b4 b5 b6 b7 b8 x0 x1 x2 x3 x4 o0 o1 o2 o3 o4 n0 n1 n2 n3 n4 k (F29_ok e0) (F29_ok e1) (F30_ok e2) (F31_ok e3) (F32_ok e4) e5 (F33_ok e6) (F34_ok e7) e8
    ·
      obtain ⟨b9, e9, h⟩ := Option.bind_eq_some_iff.1 h
      rcases cond_elim h with ⟨e10, h⟩ | ⟨e10, h⟩
      ·
        have h := Option.some.inj h; subst h; exact P7_2 i0 i1 i2 i3 i4 i5 i6 i7 i8 i9 i10 i11 b0 b1 b2 b3 b4 b5 b6 b7 b8 b9 x0 x1 x2 x3 x4 o0 o1 o2 o3 o4 n0 n1 n2 n3 n4 k (F29_ok e0) (F29_ok e1) (F30_ok e2) (F31_ok e3) (F32_ok e4) e5 (F33_ok e6) (F34_ok e7) e8 (F33_ok e9) e10
      ·
        obtain ⟨b10, e11, h⟩ := Option.bind_eq_some_iff.1 h
        rcases cond_elim h with ⟨e12, h⟩ | ⟨e12, h⟩
        ·
          have h := Option.some.inj h; subst h; exact P7_3 i0 i1 i2 i3 i4 i5 i6 i7 i8 i9 i10 i11 b0 b1 b2 b3 b4 b5 b6 b7 b8 b9 b10 x0 x1 x2 x3 x4 o0 o1 o2 o3 o4 n0 n1 n2 n3 n4 k (F29_ok e0) (F29_ok e1) (F30_ok e2) (F31_ok e3) (F32_ok e4) e5 (F33_ok e6) (F34_ok e7) e8 (F33_ok e9) e10 (F35_ok e11) e12
        ·
          rcases cond_elim h with ⟨e13, h⟩ | ⟨e13, h⟩
          ·
            rcases cond_elim h with ⟨e14, h⟩ | ⟨e14, h⟩
            ·
              obtain ⟨b11, e15, h⟩ := Option.bind_eq_some_iff.1 h
              have h := Option.some.inj h; subst h; exact P7_4 i0 i1 i2 i3 i4 i5 i6 i7 i8 i9 i10 i11 b0 b1 b2 b3 b4 b5 b6 b7 b8 b9 b10 b11 x0 x1 x2 x3 x4 o0 o1 o2 o3 o4 n0 n1 n2 n3 n4 k (F29_ok e0) (F29_ok e1) (F30_ok e2) (F31_ok e3) (F32_ok e4) e5 (F33_ok e6) (F34_ok e7) e8 (F33_ok e9) e10 (F35_ok e11) e12 e13 e14 (F34_ok e15)
            ·
              have h := Option.some.inj h; subst h; exact P7_5 i0 i1 i2 i3 i4 i5 i6 i7 i8 i9 i10 i11 b0 b1 b2 b3 b4 b5 b6 b7 b8 b9 b10 x0 x1 x2 x3 x4 o0 o1 o2 o3 o4 n0 n1 n2 n3 n4 k (F29_ok e0) (F29_ok e1) (F30_ok e2) (F31_ok e3) (F32_ok e4) e5 (F33_ok e6) (F34_ok e7) e8 (F33_ok e9) e10 (F35_ok e11) e12 e13 e14
          ·
            rcases cond_elim h with ⟨e14, h⟩ | ⟨e14, h⟩
            ·
              rcases cond_elim h with ⟨e15, h⟩ | ⟨e15, h⟩
              ·
                obtain ⟨b11, e16, h⟩ := Option.bind_eq_some_iff.1 h
                have h := Option.some.inj h; subst h; exact P7_6 i0 i1 i2 i3 i4 i5 i6 i7 i8 i9 i10 i11 b0 b1 b2 b3 b4 b5 b6 b7 b8 b9 b10 b11 x0 x1 x2 x3 x4 o0 o1 o2 o3 o4 n0 n1 n2 n3 n4 k (F29_ok e0) (F29_ok e1) (F30_ok e2) (F31_ok e3) (F32_ok e4) e5 (F33_ok e6) (F34_ok e7) e8 (F33_ok e9) e10 (F35_ok e11) e12 e13 e14 e15 (F34_ok e16)
              ·
                have h := Option.some.inj h; subst h; exact P7_7 i0 i1 i2 i3 i4 i5 i6 i7 i8 i9 i10 i11 b0 b1 b2 b3 b4 b5 b6 b7 b8 b9 b10 x0 x1 x2 x3 x4 o0 o1 o2 o3 o4 n0 n1 n2 n3 n4 k (F29_ok e0) (F29_ok e1) (F30_ok e2) (F31_ok e3) (F32_ok e4) e5 (F33_ok e6) (F34_ok e7) e8 (F33_ok e9) e10 (F35_ok e11) e12 e13 e14 e15
            ·
              rcases cond_elim h with ⟨e15, h⟩ | ⟨e15, h⟩
              ·
                obtain ⟨⟨i12, o5, b11, n5, x5, i13⟩, e16, h⟩ := Option.bind_eq_some_iff.1 h
                obtain ⟨b12, e17, h⟩ := Option.bind_eq_some_iff.1 h
                rcases cond_elim h with ⟨e18, h⟩ | ⟨e18, h⟩
                ·
                  obtain ⟨b13, e19, h⟩ := Option.bind_eq_some_iff.1 h
                  have h := Option.some.inj h; subst h; exact P7_8 i0 i1 i2 i3 i4 i5 i6 i7 i8 i9 i10 i11 i12 i13 b0 b1 b2 b3 b4 b5 b6 b7 b8 b9 b10 b11 b12 b13 x0 x1 x2 x3 x4 x5 o0 o1 o2 o3 o4 o5 n0 n1 n2 n3 n4 n5 k (F29_ok e0) (F29_ok e1) (F30_ok e2) (F31_ok e3) (F32_ok e4) e5 (F33_ok e6) (F34_ok e7) e8 (F33_ok e9) e10 (F35_ok e11) e12 e13 e14 e15 (F36_ok e16) (F34_ok e17) e18 (F31_ok e19)
                ·
                  have h := Option.some.inj h; subst h; exact P7_9 i0 i1 i2 i3 i4 i5 i6 i7 i8 i9 i10 i11 i12 i13 b0 b1 b2 b3 b4 b5 b6 b7 b8 b9 b10 b11 b12 x0 x1 x2 x3 x4 x5 o0 o1 o2 o3 o4 o5 n0 n1 n2 n3 n4 n5 k (F29_ok e0) (F29_ok e1) (F30_ok e2) (F31_ok e3) (F32_ok e4) e5 (F33_ok e6) (F34_ok e7) e8 (F33_ok e9) e10 (F35_ok e11) e12 e13 e14 e15 (F36_ok e16) (F34_ok e17) e18
              ·
                have h := Option.some.inj h; subst h; exact P7_10 i0 i1 i2 i3 i4 i5 i6 i7 i8 i9 i10 i11 b0 b1 b2 b3 b4 b5 b6 b7 b8 b9 b10 x0 x1 x2 x3 x4 o0 o1 o2 o3 o4 n0 n1 n2 n3 n4 k (F29_ok e0) (F29_ok e1) (F30_ok e2) (F31_ok e3) (F32_ok e4) e5 (F33_ok e6) (F34_ok e7) e8 (F33_ok e9) e10 (F35_ok e11) e12 e13 e14 e15
end Go.Proofs
