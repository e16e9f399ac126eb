/-
  What the law BitmapFinds answers, checked against the program.
-/
import Derived.Test.YtpnpneffbkdomaaFxB
set_option linter.unusedVariables false
set_option maxHeartbeats 0
set_option maxRecDepth 100000
namespace Go.Proofs
open Go Go.Sym

theorem P9_0 (i0 : Int) (i1 : Int) (i2 : Int) (i3 : Int) (i4 : Int) (i5 : Int) (i6 : Int) (i7 : Int) (i8 : Int) (b0 : Bool) (b1 : Bool) (b2 : Bool) (b3 : Bool) (x0 : List V) (x1 : List V) (o0 : Option Bool) (o1 : Option Bool) (n0 : Nat) (n1 : Nat) (k : Nat)
    (c0 : callP (evalFn Try.prog Try.cfg (k + 14)) 29 [V.agg [V.int IntKind.i64 i0, V.sl o0 b0 n0 x0, V.int IntKind.u64 i1]] = some (V.agg [V.int IntKind.i64 i3, V.sl o1 b1 n1 x1, V.int IntKind.u64 i4]))
    (c1 : callP (evalFn Try.prog Try.cfg (k + 14)) 41 [V.agg [V.int IntKind.i64 i3, V.sl o1 b1 n1 x1, V.int IntKind.u64 i4]] = some (V.tup [V.int IntKind.i64 i5, V.int IntKind.i64 i6]))
    (c2 : callP (evalFn Try.prog Try.cfg (k + 14)) 42 [V.agg [V.int IntKind.i64 i3, V.sl o1 b1 n1 x1, V.int IntKind.u64 i4], V.int IntKind.i64 i2] = some (V.tup [V.int IntKind.i64 i7, V.int IntKind.i64 i8]))
    (c3 : callP (evalFn Try.prog Try.cfg (k + 14)) 32 [V.agg [V.int IntKind.i64 i3, V.sl o1 b1 n1 x1, V.int IntKind.u64 i4]] = some (V.bool b2))
    (c4 : (!b2) = true)
    (c5 : callP (evalFn Try.prog Try.cfg (k + 14)) 35 [] = some (V.bool b3))
    (c6 : b3 = true)
    (c7 : decide (i6 = 1) = true)
    (c8 : decide (i8 = 1) = true)
    (c9 : decide (i5 = 0) = true) :
    callP (evalFn Try.prog Try.cfg (k + 15)) 9 [V.agg [V.int IntKind.i64 i0, V.sl o0 b0 n0 x0, V.int IntKind.u64 i1], V.int IntKind.i64 i2] = some (V.bool (decide (i7 = 0))) :=
  byF (k := k) (d := 15) [Hn.call 10 (V.agg [V.int IntKind.i64 i3, V.sl o1 b1 n1 x1, V.int IntKind.u64 i4]), Hn.call 13 (V.tup [V.int IntKind.i64 i5, V.int IntKind.i64 i6]), Hn.call 19 (V.tup [V.int IntKind.i64 i7, V.int IntKind.i64 i8]), Hn.call 23 (V.bool b2), Hn.br 24 true, Hn.call 25 (V.bool b3), Hn.br 26 true, Hn.br 30 true, Hn.br 34 true, Hn.br 38 true] (And.intro c0 (And.intro c1 (And.intro c2 (And.intro c3 (And.intro c4 (And.intro c5 (And.intro c6 (And.intro c7 (And.intro c8 (And.intro c9 trivial)))))))))) (by kernel_rfl)
theorem P9_1 (i0 : Int) (i1 : Int) (i2 : Int) (i3 : Int) (i4 : Int) (i5 : Int) (i6 : Int) (i7 : Int) (i8 : Int) (b0 : Bool) (b1 : Bool) (b2 : Bool) (b3 : Bool) (x0 : List V) (x1 : List V) (o0 : Option Bool) (o1 : Option Bool) (n0 : Nat) (n1 : Nat) (k : Nat)
    (c0 : callP (evalFn Try.prog Try.cfg (k + 14)) 29 [V.agg [V.int IntKind.i64 i0, V.sl o0 b0 n0 x0, V.int IntKind.u64 i1]] = some (V.agg [V.int IntKind.i64 i3, V.sl o1 b1 n1 x1, V.int IntKind.u64 i4]))
    (c1 : callP (evalFn Try.prog Try.cfg (k + 14)) 41 [V.agg [V.int IntKind.i64 i3, V.sl o1 b1 n1 x1, V.int IntKind.u64 i4]] = some (V.tup [V.int IntKind.i64 i5, V.int IntKind.i64 i6]))
    (c2 : callP (evalFn Try.prog Try.cfg (k + 14)) 42 [V.agg [V.int IntKind.i64 i3, V.sl o1 b1 n1 x1, V.int IntKind.u64 i4], V.int IntKind.i64 i2] = some (V.tup [V.int IntKind.i64 i7, V.int IntKind.i64 i8]))
    (c3 : callP (evalFn Try.prog Try.cfg (k + 14)) 32 [V.agg [V.int IntKind.i64 i3, V.sl o1 b1 n1 x1, V.int IntKind.u64 i4]] = some (V.bool b2))
    (c4 : (!b2) = true)
    (c5 : callP (evalFn Try.prog Try.cfg (k + 14)) 35 [] = some (V.bool b3))
    (c6 : b3 = true)
    (c7 : decide (i6 = 1) = true)
    (c8 : decide (i8 = 1) = true)
    (c9 : decide (i5 = 0) = false) :
    callP (evalFn Try.prog Try.cfg (k + 15)) 9 [V.agg [V.int IntKind.i64 i0, V.sl o0 b0 n0 x0, V.int IntKind.u64 i1], V.int IntKind.i64 i2] = some (V.bool false) :=
  byF (k := k) (d := 15) [Hn.call 10 (V.agg [V.int IntKind.i64 i3, V.sl o1 b1 n1 x1, V.int IntKind.u64 i4]), Hn.call 13 (V.tup [V.int IntKind.i64 i5, V.int IntKind.i64 i6]), Hn.call 19 (V.tup [V.int IntKind.i64 i7, V.int IntKind.i64 i8]), Hn.call 23 (V.bool b2), Hn.br 24 true, Hn.call 25 (V.bool b3), Hn.br 26 true, Hn.br 30 true, Hn.br 34 true, Hn.br 38 false] (And.intro c0 (And.intro c1 (And.intro c2 (And.intro c3 (And.intro c4 (And.intro c5 (And.intro c6 (And.intro c7 (And.intro c8 (And.intro c9 trivial)))))))))) (by kernel_rfl)
theorem P9_2 (i0 : Int) (i1 : Int) (i2 : Int) (i3 : Int) (i4 : Int) (i5 : Int) (i6 : Int) (i7 : Int) (i8 : Int) (b0 : Bool) (b1 : Bool) (b2 : Bool) (b3 : Bool) (x0 : List V) (x1 : List V) (o0 : Option Bool) (o1 : Option Bool) (n0 : Nat) (n1 : Nat) (k : Nat)
    (c0 : callP (evalFn Try.prog Try.cfg (k + 14)) 29 [V.agg [V.int IntKind.i64 i0, V.sl o0 b0 n0 x0, V.int IntKind.u64 i1]] = some (V.agg [V.int IntKind.i64 i3, V.sl o1 b1 n1 x1, V.int IntKind.u64 i4]))
    (c1 : callP (evalFn Try.prog Try.cfg (k + 14)) 41 [V.agg [V.int IntKind.i64 i3, V.sl o1 b1 n1 x1, V.int IntKind.u64 i4]] = some (V.tup [V.int IntKind.i64 i5, V.int IntKind.i64 i6]))
    (c2 : callP (evalFn Try.prog Try.cfg (k + 14)) 42 [V.agg [V.int IntKind.i64 i3, V.sl o1 b1 n1 x1, V.int IntKind.u64 i4], V.int IntKind.i64 i2] = some (V.tup [V.int IntKind.i64 i7, V.int IntKind.i64 i8]))
    (c3 : callP (evalFn Try.prog Try.cfg (k + 14)) 32 [V.agg [V.int IntKind.i64 i3, V.sl o1 b1 n1 x1, V.int IntKind.u64 i4]] = some (V.bool b2))
    (c4 : (!b2) = true)
    (c5 : callP (evalFn Try.prog Try.cfg (k + 14)) 35 [] = some (V.bool b3))
    (c6 : b3 = true)
    (c7 : decide (i6 = 1) = true)
    (c8 : decide (i8 = 1) = false) :
    callP (evalFn Try.prog Try.cfg (k + 15)) 9 [V.agg [V.int IntKind.i64 i0, V.sl o0 b0 n0 x0, V.int IntKind.u64 i1], V.int IntKind.i64 i2] = some (V.bool false) :=
  byF (k := k) (d := 15) [Hn.call 10 (V.agg [V.int IntKind.i64 i3, V.sl o1 b1 n1 x1, V.int IntKind.u64 i4]), Hn.call 13 (V.tup [V.int IntKind.i64 i5, V.int IntKind.i64 i6]), Hn.call 19 (V.tup [V.int IntKind.i64 i7, V.int IntKind.i64 i8]), Hn.call 23 (V.bool b2), Hn.br 24 true, Hn.call 25 (V.bool b3), Hn.br 26 true, Hn.br 30 true, Hn.br 34 false] (And.intro c0 (And.intro c1 (And.intro c2 (And.intro c3 (And.intro c4 (And.intro c5 (And.intro c6 (And.intro c7 (And.intro c8 trivial))))))))) (by kernel_rfl)
theorem P9_3 (i0 : Int) (i1 : Int) (i2 : Int) (i3 : Int) (i4 : Int) (i5 : Int) (i6 : Int) (i7 : Int) (i8 : Int) (b0 : Bool) (b1 : Bool) (b2 : Bool) (b3 : Bool) (x0 : List V) (x1 : List V) (o0 : Option Bool) (o1 : Option Bool) (n0 : Nat) (n1 : Nat) (k : Nat)
    (c0 : callP (evalFn Try.prog Try.cfg (k + 14)) 29 [V.agg [V.int IntKind.i64 i0, V.sl o0 b0 n0 x0, V.int IntKind.u64 i1]] = some (V.agg [V.int IntKind.i64 i3, V.sl o1 b1 n1 x1, V.int IntKind.u64 i4]))
    (c1 : callP (evalFn Try.prog Try.cfg (k + 14)) 41 [V.agg [V.int IntKind.i64 i3, V.sl o1 b1 n1 x1, V.int IntKind.u64 i4]] = some (V.tup [V.int IntKind.i64 i5, V.int IntKind.i64 i6]))
    (c2 : callP (evalFn Try.prog Try.cfg (k + 14)) 42 [V.agg [V.int IntKind.i64 i3, V.sl o1 b1 n1 x1, V.int IntKind.u64 i4], V.int IntKind.i64 i2] = some (V.tup [V.int IntKind.i64 i7, V.int IntKind.i64 i8]))
    (c3 : callP (evalFn Try.prog Try.cfg (k + 14)) 32 [V.agg [V.int IntKind.i64 i3, V.sl o1 b1 n1 x1, V.int IntKind.u64 i4]] = some (V.bool b2))
    (c4 : (!b2) = true)
    (c5 : callP (evalFn Try.prog Try.cfg (k + 14)) 35 [] = some (V.bool b3))
    (c6 : b3 = true)
    (c7 : decide (i6 = 1) = false) :
    callP (evalFn Try.prog Try.cfg (k + 15)) 9 [V.agg [V.int IntKind.i64 i0, V.sl o0 b0 n0 x0, V.int IntKind.u64 i1], V.int IntKind.i64 i2] = some (V.bool false) :=
  byF (k := k) (d := 15) [Hn.call 10 (V.agg [V.int IntKind.i64 i3, V.sl o1 b1 n1 x1, V.int IntKind.u64 i4]), Hn.call 13 (V.tup [V.int IntKind.i64 i5, V.int IntKind.i64 i6]), Hn.call 19 (V.tup [V.int IntKind.i64 i7, V.int IntKind.i64 i8]), Hn.call 23 (V.bool b2), Hn.br 24 true, Hn.call 25 (V.bool b3), Hn.br 26 true, Hn.br 30 false] (And.intro c0 (And.intro c1 (And.intro c2 (And.intro c3 (And.intro c4 (And.intro c5 (And.intro c6 (And.intro c7 trivial)))))))) (by kernel_rfl)
theorem P9_4 (i0 : Int) (i1 : Int) (i2 : Int) (i3 : Int) (i4 : Int) (i5 : Int) (i6 : Int) (i7 : Int) (i8 : Int) (b0 : Bool) (b1 : Bool) (b2 : Bool) (b3 : Bool) (x0 : List V) (x1 : List V) (o0 : Option Bool) (o1 : Option Bool) (n0 : Nat) (n1 : Nat) (k : Nat)
    (c0 : callP (evalFn Try.prog Try.cfg (k + 14)) 29 [V.agg [V.int IntKind.i64 i0, V.sl o0 b0 n0 x0, V.int IntKind.u64 i1]] = some (V.agg [V.int IntKind.i64 i3, V.sl o1 b1 n1 x1, V.int IntKind.u64 i4]))
    (c1 : callP (evalFn Try.prog Try.cfg (k + 14)) 41 [V.agg [V.int IntKind.i64 i3, V.sl o1 b1 n1 x1, V.int IntKind.u64 i4]] = some (V.tup [V.int IntKind.i64 i5, V.int IntKind.i64 i6]))
    (c2 : callP (evalFn Try.prog Try.cfg (k + 14)) 42 [V.agg [V.int IntKind.i64 i3, V.sl o1 b1 n1 x1, V.int IntKind.u64 i4], V.int IntKind.i64 i2] = some (V.tup [V.int IntKind.i64 i7, V.int IntKind.i64 i8]))
    (c3 : callP (evalFn Try.prog Try.cfg (k + 14)) 32 [V.agg [V.int IntKind.i64 i3, V.sl o1 b1 n1 x1, V.int IntKind.u64 i4]] = some (V.bool b2))
    (c4 : (!b2) = true)
    (c5 : callP (evalFn Try.prog Try.cfg (k + 14)) 35 [] = some (V.bool b3))
    (c6 : b3 = false) :
    callP (evalFn Try.prog Try.cfg (k + 15)) 9 [V.agg [V.int IntKind.i64 i0, V.sl o0 b0 n0 x0, V.int IntKind.u64 i1], V.int IntKind.i64 i2] = some (V.bool false) :=
  byF (k := k) (d := 15) [Hn.call 10 (V.agg [V.int IntKind.i64 i3, V.sl o1 b1 n1 x1, V.int IntKind.u64 i4]), Hn.call 13 (V.tup [V.int IntKind.i64 i5, V.int IntKind.i64 i6]), Hn.call 19 (V.tup [V.int IntKind.i64 i7, V.int IntKind.i64 i8]), Hn.call 23 (V.bool b2), Hn.br 24 true, Hn.call 25 (V.bool b3), Hn.br 26 false] (And.intro c0 (And.intro c1 (And.intro c2 (And.intro c3 (And.intro c4 (And.intro c5 (And.intro c6 trivial))))))) (by kernel_rfl)
theorem P9_5 (i0 : Int) (i1 : Int) (i2 : Int) (i3 : Int) (i4 : Int) (i5 : Int) (i6 : Int) (i7 : Int) (i8 : Int) (b0 : Bool) (b1 : Bool) (b2 : Bool) (x0 : List V) (x1 : List V) (o0 : Option Bool) (o1 : Option Bool) (n0 : Nat) (n1 : Nat) (k : Nat)
    (c0 : callP (evalFn Try.prog Try.cfg (k + 14)) 29 [V.agg [V.int IntKind.i64 i0, V.sl o0 b0 n0 x0, V.int IntKind.u64 i1]] = some (V.agg [V.int IntKind.i64 i3, V.sl o1 b1 n1 x1, V.int IntKind.u64 i4]))
    (c1 : callP (evalFn Try.prog Try.cfg (k + 14)) 41 [V.agg [V.int IntKind.i64 i3, V.sl o1 b1 n1 x1, V.int IntKind.u64 i4]] = some (V.tup [V.int IntKind.i64 i5, V.int IntKind.i64 i6]))
    (c2 : callP (evalFn Try.prog Try.cfg (k + 14)) 42 [V.agg [V.int IntKind.i64 i3, V.sl o1 b1 n1 x1, V.int IntKind.u64 i4], V.int IntKind.i64 i2] = some (V.tup [V.int IntKind.i64 i7, V.int IntKind.i64 i8]))
    (c3 : callP (evalFn Try.prog Try.cfg (k + 14)) 32 [V.agg [V.int IntKind.i64 i3, V.sl o1 b1 n1 x1, V.int IntKind.u64 i4]] = some (V.bool b2))
    (c4 : (!b2) = false)
    (c5 : (!decide (i6 = 0)) = true) :
    callP (evalFn Try.prog Try.cfg (k + 15)) 9 [V.agg [V.int IntKind.i64 i0, V.sl o0 b0 n0 x0, V.int IntKind.u64 i1], V.int IntKind.i64 i2] = some (V.bool false) :=
  byF (k := k) (d := 15) [Hn.call 10 (V.agg [V.int IntKind.i64 i3, V.sl o1 b1 n1 x1, V.int IntKind.u64 i4]), Hn.call 13 (V.tup [V.int IntKind.i64 i5, V.int IntKind.i64 i6]), Hn.call 19 (V.tup [V.int IntKind.i64 i7, V.int IntKind.i64 i8]), Hn.call 23 (V.bool b2), Hn.br 24 false, Hn.br 44 true] (And.intro c0 (And.intro c1 (And.intro c2 (And.intro c3 (And.intro c4 (And.intro c5 trivial)))))) (by kernel_rfl)
theorem P9_6 (i0 : Int) (i1 : Int) (i2 : Int) (i3 : Int) (i4 : Int) (i5 : Int) (i6 : Int) (i7 : Int) (i8 : Int) (i9 : Int) (b0 : Bool) (b1 : Bool) (b2 : Bool) (x0 : List V) (x1 : List V) (o0 : Option Bool) (o1 : Option Bool) (n0 : Nat) (n1 : Nat) (k : Nat)
    (c0 : callP (evalFn Try.prog Try.cfg (k + 14)) 29 [V.agg [V.int IntKind.i64 i0, V.sl o0 b0 n0 x0, V.int IntKind.u64 i1]] = some (V.agg [V.int IntKind.i64 i3, V.sl o1 b1 n1 x1, V.int IntKind.u64 i4]))
    (c1 : callP (evalFn Try.prog Try.cfg (k + 14)) 41 [V.agg [V.int IntKind.i64 i3, V.sl o1 b1 n1 x1, V.int IntKind.u64 i4]] = some (V.tup [V.int IntKind.i64 i5, V.int IntKind.i64 i6]))
    (c2 : callP (evalFn Try.prog Try.cfg (k + 14)) 42 [V.agg [V.int IntKind.i64 i3, V.sl o1 b1 n1 x1, V.int IntKind.u64 i4], V.int IntKind.i64 i2] = some (V.tup [V.int IntKind.i64 i7, V.int IntKind.i64 i8]))
    (c3 : callP (evalFn Try.prog Try.cfg (k + 14)) 32 [V.agg [V.int IntKind.i64 i3, V.sl o1 b1 n1 x1, V.int IntKind.u64 i4]] = some (V.bool b2))
    (c4 : (!b2) = false)
    (c5 : (!decide (i6 = 0)) = false)
    (c6 : callP (evalFn Try.prog Try.cfg (k + 14)) 43 [V.agg [V.int IntKind.i64 i3, V.sl o1 b1 n1 x1, V.int IntKind.u64 i4]] = some (V.int IntKind.i64 i9))
    (c7 : (!decide (i5 = i9)) = true) :
    callP (evalFn Try.prog Try.cfg (k + 15)) 9 [V.agg [V.int IntKind.i64 i0, V.sl o0 b0 n0 x0, V.int IntKind.u64 i1], V.int IntKind.i64 i2] = some (V.bool false) :=
  byF (k := k) (d := 15) [Hn.call 10 (V.agg [V.int IntKind.i64 i3, V.sl o1 b1 n1 x1, V.int IntKind.u64 i4]), Hn.call 13 (V.tup [V.int IntKind.i64 i5, V.int IntKind.i64 i6]), Hn.call 19 (V.tup [V.int IntKind.i64 i7, V.int IntKind.i64 i8]), Hn.call 23 (V.bool b2), Hn.br 24 false, Hn.br 44 false, Hn.call 47 (V.int IntKind.i64 i9), Hn.br 50 true] (And.intro c0 (And.intro c1 (And.intro c2 (And.intro c3 (And.intro c4 (And.intro c5 (And.intro c6 (And.intro c7 trivial)))))))) (by kernel_rfl)
theorem P9_7 (i0 : Int) (i1 : Int) (i2 : Int) (i3 : Int) (i4 : Int) (i5 : Int) (i6 : Int) (i7 : Int) (i8 : Int) (i9 : Int) (b0 : Bool) (b1 : Bool) (b2 : Bool) (b3 : Bool) (x0 : List V) (x1 : List V) (o0 : Option Bool) (o1 : Option Bool) (n0 : Nat) (n1 : Nat) (k : Nat)
    (c0 : callP (evalFn Try.prog Try.cfg (k + 14)) 29 [V.agg [V.int IntKind.i64 i0, V.sl o0 b0 n0 x0, V.int IntKind.u64 i1]] = some (V.agg [V.int IntKind.i64 i3, V.sl o1 b1 n1 x1, V.int IntKind.u64 i4]))
    (c1 : callP (evalFn Try.prog Try.cfg (k + 14)) 41 [V.agg [V.int IntKind.i64 i3, V.sl o1 b1 n1 x1, V.int IntKind.u64 i4]] = some (V.tup [V.int IntKind.i64 i5, V.int IntKind.i64 i6]))
    (c2 : callP (evalFn Try.prog Try.cfg (k + 14)) 42 [V.agg [V.int IntKind.i64 i3, V.sl o1 b1 n1 x1, V.int IntKind.u64 i4], V.int IntKind.i64 i2] = some (V.tup [V.int IntKind.i64 i7, V.int IntKind.i64 i8]))
    (c3 : callP (evalFn Try.prog Try.cfg (k + 14)) 32 [V.agg [V.int IntKind.i64 i3, V.sl o1 b1 n1 x1, V.int IntKind.u64 i4]] = some (V.bool b2))
    (c4 : (!b2) = false)
    (c5 : (!decide (i6 = 0)) = false)
    (c6 : callP (evalFn Try.prog Try.cfg (k + 14)) 43 [V.agg [V.int IntKind.i64 i3, V.sl o1 b1 n1 x1, V.int IntKind.u64 i4]] = some (V.int IntKind.i64 i9))
    (c7 : (!decide (i5 = i9)) = false)
    (c8 : callP (evalFn Try.prog Try.cfg (k + 14)) 35 [] = some (V.bool b3))
    (c9 : (!b3) = true) :
    callP (evalFn Try.prog Try.cfg (k + 15)) 9 [V.agg [V.int IntKind.i64 i0, V.sl o0 b0 n0 x0, V.int IntKind.u64 i1], V.int IntKind.i64 i2] = some (V.bool false) :=
  byF (k := k) (d := 15) [Hn.call 10 (V.agg [V.int IntKind.i64 i3, V.sl o1 b1 n1 x1, V.int IntKind.u64 i4]), Hn.call 13 (V.tup [V.int IntKind.i64 i5, V.int IntKind.i64 i6]), Hn.call 19 (V.tup [V.int IntKind.i64 i7, V.int IntKind.i64 i8]), Hn.call 23 (V.bool b2), Hn.br 24 false, Hn.br 44 false, Hn.call 47 (V.int IntKind.i64 i9), Hn.br 50 false, Hn.call 51 (V.bool b3), Hn.br 53 true] (And.intro c0 (And.intro c1 (And.intro c2 (And.intro c3 (And.intro c4 (And.intro c5 (And.intro c6 (And.intro c7 (And.intro c8 (And.intro c9 trivial)))))))))) (by kernel_rfl)
theorem P9_8 (i0 : Int) (i1 : Int) (i2 : Int) (i3 : Int) (i4 : Int) (i5 : Int) (i6 : Int) (i7 : Int) (i8 : Int) (i9 : Int) (b0 : Bool) (b1 : Bool) (b2 : Bool) (b3 : Bool) (x0 : List V) (x1 : List V) (o0 : Option Bool) (o1 : Option Bool) (n0 : Nat) (n1 : Nat) (k : Nat)
    (c0 : callP (evalFn Try.prog Try.cfg (k + 14)) 29 [V.agg [V.int IntKind.i64 i0, V.sl o0 b0 n0 x0, V.int IntKind.u64 i1]] = some (V.agg [V.int IntKind.i64 i3, V.sl o1 b1 n1 x1, V.int IntKind.u64 i4]))
    (c1 : callP (evalFn Try.prog Try.cfg (k + 14)) 41 [V.agg [V.int IntKind.i64 i3, V.sl o1 b1 n1 x1, V.int IntKind.u64 i4]] = some (V.tup [V.int IntKind.i64 i5, V.int IntKind.i64 i6]))
    (c2 : callP (evalFn Try.prog Try.cfg (k + 14)) 42 [V.agg [V.int IntKind.i64 i3, V.sl o1 b1 n1 x1, V.int IntKind.u64 i4], V.int IntKind.i64 i2] = some (V.tup [V.int IntKind.i64 i7, V.int IntKind.i64 i8]))
    (c3 : callP (evalFn Try.prog Try.cfg (k + 14)) 32 [V.agg [V.int IntKind.i64 i3, V.sl o1 b1 n1 x1, V.int IntKind.u64 i4]] = some (V.bool b2))
    (c4 : (!b2) = false)
    (c5 : (!decide (i6 = 0)) = false)
    (c6 : callP (evalFn Try.prog Try.cfg (k + 14)) 43 [V.agg [V.int IntKind.i64 i3, V.sl o1 b1 n1 x1, V.int IntKind.u64 i4]] = some (V.int IntKind.i64 i9))
    (c7 : (!decide (i5 = i9)) = false)
    (c8 : callP (evalFn Try.prog Try.cfg (k + 14)) 35 [] = some (V.bool b3))
    (c9 : (!b3) = false)
    (c10 : decide (i2 < 1) = true)
    (c11 : decide (i8 = 4) = true) :
    callP (evalFn Try.prog Try.cfg (k + 15)) 9 [V.agg [V.int IntKind.i64 i0, V.sl o0 b0 n0 x0, V.int IntKind.u64 i1], V.int IntKind.i64 i2] = some (V.bool (decide (i7 = 0))) :=
  byF (k := k) (d := 15) [Hn.call 10 (V.agg [V.int IntKind.i64 i3, V.sl o1 b1 n1 x1, V.int IntKind.u64 i4]), Hn.call 13 (V.tup [V.int IntKind.i64 i5, V.int IntKind.i64 i6]), Hn.call 19 (V.tup [V.int IntKind.i64 i7, V.int IntKind.i64 i8]), Hn.call 23 (V.bool b2), Hn.br 24 false, Hn.br 44 false, Hn.call 47 (V.int IntKind.i64 i9), Hn.br 50 false, Hn.call 51 (V.bool b3), Hn.br 53 false, Hn.br 54 true, Hn.br 59 true] (And.intro c0 (And.intro c1 (And.intro c2 (And.intro c3 (And.intro c4 (And.intro c5 (And.intro c6 (And.intro c7 (And.intro c8 (And.intro c9 (And.intro c10 (And.intro c11 trivial)))))))))))) (by kernel_rfl)
theorem P9_9 (i0 : Int) (i1 : Int) (i2 : Int) (i3 : Int) (i4 : Int) (i5 : Int) (i6 : Int) (i7 : Int) (i8 : Int) (i9 : Int) (b0 : Bool) (b1 : Bool) (b2 : Bool) (b3 : Bool) (x0 : List V) (x1 : List V) (o0 : Option Bool) (o1 : Option Bool) (n0 : Nat) (n1 : Nat) (k : Nat)
    (c0 : callP (evalFn Try.prog Try.cfg (k + 14)) 29 [V.agg [V.int IntKind.i64 i0, V.sl o0 b0 n0 x0, V.int IntKind.u64 i1]] = some (V.agg [V.int IntKind.i64 i3, V.sl o1 b1 n1 x1, V.int IntKind.u64 i4]))
    (c1 : callP (evalFn Try.prog Try.cfg (k + 14)) 41 [V.agg [V.int IntKind.i64 i3, V.sl o1 b1 n1 x1, V.int IntKind.u64 i4]] = some (V.tup [V.int IntKind.i64 i5, V.int IntKind.i64 i6]))
    (c2 : callP (evalFn Try.prog Try.cfg (k + 14)) 42 [V.agg [V.int IntKind.i64 i3, V.sl o1 b1 n1 x1, V.int IntKind.u64 i4], V.int IntKind.i64 i2] = some (V.tup [V.int IntKind.i64 i7, V.int IntKind.i64 i8]))
    (c3 : callP (evalFn Try.prog Try.cfg (k + 14)) 32 [V.agg [V.int IntKind.i64 i3, V.sl o1 b1 n1 x1, V.int IntKind.u64 i4]] = some (V.bool b2))
    (c4 : (!b2) = false)
    (c5 : (!decide (i6 = 0)) = false)
    (c6 : callP (evalFn Try.prog Try.cfg (k + 14)) 43 [V.agg [V.int IntKind.i64 i3, V.sl o1 b1 n1 x1, V.int IntKind.u64 i4]] = some (V.int IntKind.i64 i9))
    (c7 : (!decide (i5 = i9)) = false)
    (c8 : callP (evalFn Try.prog Try.cfg (k + 14)) 35 [] = some (V.bool b3))
    (c9 : (!b3) = false)
    (c10 : decide (i2 < 1) = true)
    (c11 : decide (i8 = 4) = false) :
    callP (evalFn Try.prog Try.cfg (k + 15)) 9 [V.agg [V.int IntKind.i64 i0, V.sl o0 b0 n0 x0, V.int IntKind.u64 i1], V.int IntKind.i64 i2] = some (V.bool false) :=
  byF (k := k) (d := 15) [Hn.call 10 (V.agg [V.int IntKind.i64 i3, V.sl o1 b1 n1 x1, V.int IntKind.u64 i4]), Hn.call 13 (V.tup [V.int IntKind.i64 i5, V.int IntKind.i64 i6]), Hn.call 19 (V.tup [V.int IntKind.i64 i7, V.int IntKind.i64 i8]), Hn.call 23 (V.bool b2), Hn.br 24 false, Hn.br 44 false, Hn.call 47 (V.int IntKind.i64 i9), Hn.br 50 false, Hn.call 51 (V.bool b3), Hn.br 53 false, Hn.br 54 true, Hn.br 59 false] (And.intro c0 (And.intro c1 (And.intro c2 (And.intro c3 (And.intro c4 (And.intro c5 (And.intro c6 (And.intro c7 (And.intro c8 (And.intro c9 (And.intro c10 (And.intro c11 trivial)))))))))))) (by kernel_rfl)
theorem P9_10 (i0 : Int) (i1 : Int) (i2 : Int) (i3 : Int) (i4 : Int) (i5 : Int) (i6 : Int) (i7 : Int) (i8 : Int) (i9 : Int) (i10 : Int) (b0 : Bool) (b1 : Bool) (b2 : Bool) (b3 : Bool) (x0 : List V) (x1 : List V) (o0 : Option Bool) (o1 : Option Bool) (n0 : Nat) (n1 : Nat) (k : Nat)
    (c0 : callP (evalFn Try.prog Try.cfg (k + 14)) 29 [V.agg [V.int IntKind.i64 i0, V.sl o0 b0 n0 x0, V.int IntKind.u64 i1]] = some (V.agg [V.int IntKind.i64 i3, V.sl o1 b1 n1 x1, V.int IntKind.u64 i4]))
    (c1 : callP (evalFn Try.prog Try.cfg (k + 14)) 41 [V.agg [V.int IntKind.i64 i3, V.sl o1 b1 n1 x1, V.int IntKind.u64 i4]] = some (V.tup [V.int IntKind.i64 i5, V.int IntKind.i64 i6]))
    (c2 : callP (evalFn Try.prog Try.cfg (k + 14)) 42 [V.agg [V.int IntKind.i64 i3, V.sl o1 b1 n1 x1, V.int IntKind.u64 i4], V.int IntKind.i64 i2] = some (V.tup [V.int IntKind.i64 i7, V.int IntKind.i64 i8]))
    (c3 : callP (evalFn Try.prog Try.cfg (k + 14)) 32 [V.agg [V.int IntKind.i64 i3, V.sl o1 b1 n1 x1, V.int IntKind.u64 i4]] = some (V.bool b2))
    (c4 : (!b2) = false)
    (c5 : (!decide (i6 = 0)) = false)
    (c6 : callP (evalFn Try.prog Try.cfg (k + 14)) 43 [V.agg [V.int IntKind.i64 i3, V.sl o1 b1 n1 x1, V.int IntKind.u64 i4]] = some (V.int IntKind.i64 i9))
    (c7 : (!decide (i5 = i9)) = false)
    (c8 : callP (evalFn Try.prog Try.cfg (k + 14)) 35 [] = some (V.bool b3))
    (c9 : (!b3) = false)
    (c10 : decide (i2 < 1) = false)
    (c11 : callP (evalFn Try.prog Try.cfg (k + 14)) 44 [V.agg [V.int IntKind.i64 i3, V.sl o1 b1 n1 x1, V.int IntKind.u64 i4], V.int IntKind.i64 i2] = some (V.int IntKind.i64 i10))
    (c12 : decide (i10 < 0) = true)
    (c13 : decide (i8 = 6) = true) :
    callP (evalFn Try.prog Try.cfg (k + 15)) 9 [V.agg [V.int IntKind.i64 i0, V.sl o0 b0 n0 x0, V.int IntKind.u64 i1], V.int IntKind.i64 i2] = some (V.bool (decide (i7 = 0))) :=
  byF (k := k) (d := 15) [Hn.call 10 (V.agg [V.int IntKind.i64 i3, V.sl o1 b1 n1 x1, V.int IntKind.u64 i4]), Hn.call 13 (V.tup [V.int IntKind.i64 i5, V.int IntKind.i64 i6]), Hn.call 19 (V.tup [V.int IntKind.i64 i7, V.int IntKind.i64 i8]), Hn.call 23 (V.bool b2), Hn.br 24 false, Hn.br 44 false, Hn.call 47 (V.int IntKind.i64 i9), Hn.br 50 false, Hn.call 51 (V.bool b3), Hn.br 53 false, Hn.br 54 false, Hn.call 66 (V.int IntKind.i64 i10), Hn.br 63 true, Hn.br 70 true] (And.intro c0 (And.intro c1 (And.intro c2 (And.intro c3 (And.intro c4 (And.intro c5 (And.intro c6 (And.intro c7 (And.intro c8 (And.intro c9 (And.intro c10 (And.intro c11 (And.intro c12 (And.intro c13 trivial)))))))))))))) (by kernel_rfl)
theorem P9_11 (i0 : Int) (i1 : Int) (i2 : Int) (i3 : Int) (i4 : Int) (i5 : Int) (i6 : Int) (i7 : Int) (i8 : Int) (i9 : Int) (i10 : Int) (b0 : Bool) (b1 : Bool) (b2 : Bool) (b3 : Bool) (x0 : List V) (x1 : List V) (o0 : Option Bool) (o1 : Option Bool) (n0 : Nat) (n1 : Nat) (k : Nat)
    (c0 : callP (evalFn Try.prog Try.cfg (k + 14)) 29 [V.agg [V.int IntKind.i64 i0, V.sl o0 b0 n0 x0, V.int IntKind.u64 i1]] = some (V.agg [V.int IntKind.i64 i3, V.sl o1 b1 n1 x1, V.int IntKind.u64 i4]))
    (c1 : callP (evalFn Try.prog Try.cfg (k + 14)) 41 [V.agg [V.int IntKind.i64 i3, V.sl o1 b1 n1 x1, V.int IntKind.u64 i4]] = some (V.tup [V.int IntKind.i64 i5, V.int IntKind.i64 i6]))
    (c2 : callP (evalFn Try.prog Try.cfg (k + 14)) 42 [V.agg [V.int IntKind.i64 i3, V.sl o1 b1 n1 x1, V.int IntKind.u64 i4], V.int IntKind.i64 i2] = some (V.tup [V.int IntKind.i64 i7, V.int IntKind.i64 i8]))
    (c3 : callP (evalFn Try.prog Try.cfg (k + 14)) 32 [V.agg [V.int IntKind.i64 i3, V.sl o1 b1 n1 x1, V.int IntKind.u64 i4]] = some (V.bool b2))
    (c4 : (!b2) = false)
    (c5 : (!decide (i6 = 0)) = false)
    (c6 : callP (evalFn Try.prog Try.cfg (k + 14)) 43 [V.agg [V.int IntKind.i64 i3, V.sl o1 b1 n1 x1, V.int IntKind.u64 i4]] = some (V.int IntKind.i64 i9))
    (c7 : (!decide (i5 = i9)) = false)
    (c8 : callP (evalFn Try.prog Try.cfg (k + 14)) 35 [] = some (V.bool b3))
    (c9 : (!b3) = false)
    (c10 : decide (i2 < 1) = false)
    (c11 : callP (evalFn Try.prog Try.cfg (k + 14)) 44 [V.agg [V.int IntKind.i64 i3, V.sl o1 b1 n1 x1, V.int IntKind.u64 i4], V.int IntKind.i64 i2] = some (V.int IntKind.i64 i10))
    (c12 : decide (i10 < 0) = true)
    (c13 : decide (i8 = 6) = false) :
    callP (evalFn Try.prog Try.cfg (k + 15)) 9 [V.agg [V.int IntKind.i64 i0, V.sl o0 b0 n0 x0, V.int IntKind.u64 i1], V.int IntKind.i64 i2] = some (V.bool false) :=
  byF (k := k) (d := 15) [Hn.call 10 (V.agg [V.int IntKind.i64 i3, V.sl o1 b1 n1 x1, V.int IntKind.u64 i4]), Hn.call 13 (V.tup [V.int IntKind.i64 i5, V.int IntKind.i64 i6]), Hn.call 19 (V.tup [V.int IntKind.i64 i7, V.int IntKind.i64 i8]), Hn.call 23 (V.bool b2), Hn.br 24 false, Hn.br 44 false, Hn.call 47 (V.int IntKind.i64 i9), Hn.br 50 false, Hn.call 51 (V.bool b3), Hn.br 53 false, Hn.br 54 false, Hn.call 66 (V.int IntKind.i64 i10), Hn.br 63 true, Hn.br 70 false] (And.intro c0 (And.intro c1 (And.intro c2 (And.intro c3 (And.intro c4 (And.intro c5 (And.intro c6 (And.intro c7 (And.intro c8 (And.intro c9 (And.intro c10 (And.intro c11 (And.intro c12 (And.intro c13 trivial)))))))))))))) (by kernel_rfl)
theorem P9_12 (i0 : Int) (i1 : Int) (i2 : Int) (i3 : Int) (i4 : Int) (i5 : Int) (i6 : Int) (i7 : Int) (i8 : Int) (i9 : Int) (i10 : Int) (b0 : Bool) (b1 : Bool) (b2 : Bool) (b3 : Bool) (x0 : List V) (x1 : List V) (o0 : Option Bool) (o1 : Option Bool) (n0 : Nat) (n1 : Nat) (k : Nat)
    (c0 : callP (evalFn Try.prog Try.cfg (k + 14)) 29 [V.agg [V.int IntKind.i64 i0, V.sl o0 b0 n0 x0, V.int IntKind.u64 i1]] = some (V.agg [V.int IntKind.i64 i3, V.sl o1 b1 n1 x1, V.int IntKind.u64 i4]))
    (c1 : callP (evalFn Try.prog Try.cfg (k + 14)) 41 [V.agg [V.int IntKind.i64 i3, V.sl o1 b1 n1 x1, V.int IntKind.u64 i4]] = some (V.tup [V.int IntKind.i64 i5, V.int IntKind.i64 i6]))
    (c2 : callP (evalFn Try.prog Try.cfg (k + 14)) 42 [V.agg [V.int IntKind.i64 i3, V.sl o1 b1 n1 x1, V.int IntKind.u64 i4], V.int IntKind.i64 i2] = some (V.tup [V.int IntKind.i64 i7, V.int IntKind.i64 i8]))
    (c3 : callP (evalFn Try.prog Try.cfg (k + 14)) 32 [V.agg [V.int IntKind.i64 i3, V.sl o1 b1 n1 x1, V.int IntKind.u64 i4]] = some (V.bool b2))
    (c4 : (!b2) = false)
    (c5 : (!decide (i6 = 0)) = false)
    (c6 : callP (evalFn Try.prog Try.cfg (k + 14)) 43 [V.agg [V.int IntKind.i64 i3, V.sl o1 b1 n1 x1, V.int IntKind.u64 i4]] = some (V.int IntKind.i64 i9))
    (c7 : (!decide (i5 = i9)) = false)
    (c8 : callP (evalFn Try.prog Try.cfg (k + 14)) 35 [] = some (V.bool b3))
    (c9 : (!b3) = false)
    (c10 : decide (i2 < 1) = false)
    (c11 : callP (evalFn Try.prog Try.cfg (k + 14)) 44 [V.agg [V.int IntKind.i64 i3, V.sl o1 b1 n1 x1, V.int IntKind.u64 i4], V.int IntKind.i64 i2] = some (V.int IntKind.i64 i10))
    (c12 : decide (i10 < 0) = false)
    (c13 : decide (i8 = 0) = true)
    (c14 : callP (evalFn Try.prog Try.cfg (k + 14)) 44 [V.agg [V.int IntKind.i64 i3, V.sl o1 b1 n1 x1, V.int IntKind.u64 i4], V.int IntKind.i64 i2] = some (V.int IntKind.i64 i10)) :
    callP (evalFn Try.prog Try.cfg (k + 15)) 9 [V.agg [V.int IntKind.i64 i0, V.sl o0 b0 n0 x0, V.int IntKind.u64 i1], V.int IntKind.i64 i2] = some (V.bool (decide (i7 = i10))) :=
  byF (k := k) (d := 15) [Hn.call 10 (V.agg [V.int IntKind.i64 i3, V.sl o1 b1 n1 x1, V.int IntKind.u64 i4]), Hn.call 13 (V.tup [V.int IntKind.i64 i5, V.int IntKind.i64 i6]), Hn.call 19 (V.tup [V.int IntKind.i64 i7, V.int IntKind.i64 i8]), Hn.call 23 (V.bool b2), Hn.br 24 false, Hn.br 44 false, Hn.call 47 (V.int IntKind.i64 i9), Hn.br 50 false, Hn.call 51 (V.bool b3), Hn.br 53 false, Hn.br 54 false, Hn.call 66 (V.int IntKind.i64 i10), Hn.br 63 false, Hn.br 76 true, Hn.call 80 (V.int IntKind.i64 i10)] (And.intro c0 (And.intro c1 (And.intro c2 (And.intro c3 (And.intro c4 (And.intro c5 (And.intro c6 (And.intro c7 (And.intro c8 (And.intro c9 (And.intro c10 (And.intro c11 (And.intro c12 (And.intro c13 (And.intro c14 trivial))))))))))))))) (by kernel_rfl)
theorem P9_13 (i0 : Int) (i1 : Int) (i2 : Int) (i3 : Int) (i4 : Int) (i5 : Int) (i6 : Int) (i7 : Int) (i8 : Int) (i9 : Int) (i10 : Int) (b0 : Bool) (b1 : Bool) (b2 : Bool) (b3 : Bool) (x0 : List V) (x1 : List V) (o0 : Option Bool) (o1 : Option Bool) (n0 : Nat) (n1 : Nat) (k : Nat)
    (c0 : callP (evalFn Try.prog Try.cfg (k + 14)) 29 [V.agg [V.int IntKind.i64 i0, V.sl o0 b0 n0 x0, V.int IntKind.u64 i1]] = some (V.agg [V.int IntKind.i64 i3, V.sl o1 b1 n1 x1, V.int IntKind.u64 i4]))
    (c1 : callP (evalFn Try.prog Try.cfg (k + 14)) 41 [V.agg [V.int IntKind.i64 i3, V.sl o1 b1 n1 x1, V.int IntKind.u64 i4]] = some (V.tup [V.int IntKind.i64 i5, V.int IntKind.i64 i6]))
    (c2 : callP (evalFn Try.prog Try.cfg (k + 14)) 42 [V.agg [V.int IntKind.i64 i3, V.sl o1 b1 n1 x1, V.int IntKind.u64 i4], V.int IntKind.i64 i2] = some (V.tup [V.int IntKind.i64 i7, V.int IntKind.i64 i8]))
    (c3 : callP (evalFn Try.prog Try.cfg (k + 14)) 32 [V.agg [V.int IntKind.i64 i3, V.sl o1 b1 n1 x1, V.int IntKind.u64 i4]] = some (V.bool b2))
    (c4 : (!b2) = false)
    (c5 : (!decide (i6 = 0)) = false)
    (c6 : callP (evalFn Try.prog Try.cfg (k + 14)) 43 [V.agg [V.int IntKind.i64 i3, V.sl o1 b1 n1 x1, V.int IntKind.u64 i4]] = some (V.int IntKind.i64 i9))
    (c7 : (!decide (i5 = i9)) = false)
    (c8 : callP (evalFn Try.prog Try.cfg (k + 14)) 35 [] = some (V.bool b3))
    (c9 : (!b3) = false)
    (c10 : decide (i2 < 1) = false)
    (c11 : callP (evalFn Try.prog Try.cfg (k + 14)) 44 [V.agg [V.int IntKind.i64 i3, V.sl o1 b1 n1 x1, V.int IntKind.u64 i4], V.int IntKind.i64 i2] = some (V.int IntKind.i64 i10))
    (c12 : decide (i10 < 0) = false)
    (c13 : decide (i8 = 0) = false) :
    callP (evalFn Try.prog Try.cfg (k + 15)) 9 [V.agg [V.int IntKind.i64 i0, V.sl o0 b0 n0 x0, V.int IntKind.u64 i1], V.int IntKind.i64 i2] = some (V.bool false) :=
  byF (k := k) (d := 15) [Hn.call 10 (V.agg [V.int IntKind.i64 i3, V.sl o1 b1 n1 x1, V.int IntKind.u64 i4]), Hn.call 13 (V.tup [V.int IntKind.i64 i5, V.int IntKind.i64 i6]), Hn.call 19 (V.tup [V.int IntKind.i64 i7, V.int IntKind.i64 i8]), Hn.call 23 (V.bool b2), Hn.br 24 false, Hn.br 44 false, Hn.call 47 (V.int IntKind.i64 i9), Hn.br 50 false, Hn.call 51 (V.bool b3), Hn.br 53 false, Hn.br 54 false, Hn.call 66 (V.int IntKind.i64 i10), Hn.br 63 false, Hn.br 76 false] (And.intro c0 (And.intro c1 (And.intro c2 (And.intro c3 (And.intro c4 (And.intro c5 (And.intro c6 (And.intro c7 (And.intro c8 (And.intro c9 (And.intro c10 (And.intro c11 (And.intro c12 (And.intro c13 trivial)))))))))))))) (by kernel_rfl)
def F9 (k : Nat) (i0 : Int) (o0 : Option Bool) (b0 : Bool) (n0 : Nat) (x0 : List V) (i1 : Int) (i2 : Int) : Option (Bool) :=
  ((F29 (k + 11) (i0) (o0) (b0) (n0) (x0) (i1)).bind fun (i3, o1, b1, n1, x1, i4) => ((F41 (k + 5) (i3) (o1) (b1) (n1) (x1) (i4)).bind fun (i5, i6) => ((F42 (k + 5) (i3) (o1) (b1) (n1) (x1) (i4) (i2)).bind fun (i7, i8) => ((F32 (k + 5) (i3) (o1) (b1) (n1) (x1) (i4)).bind fun b2 => (bif !b2 then ((F35 (k + 2)).bind fun b3 => (bif b3 then (bif decide (i6 = 1) then (bif decide (i8 = 1) then (bif decide (i5 = 0) then (some (decide (i7 = 0))) else (some (false))) else (some (false))) else (some (false))) else (some (false)))) else (bif !decide (i6 = 0) then (some (false)) else ((F43 (k + 5) (i3) (o1) (b1) (n1) (x1) (i4)).bind fun i9 => (bif !decide (i5 = i9) then (some (false)) else ((F35 (k + 2)).bind fun b3 => (bif !b3 then (some (false)) else (bif decide (i2 < 1) then (bif decide (i8 = 4) then (some (decide (i7 = 0))) else (some (false))) else ((F44 (k + 5) (i3) (o1) (b1) (n1) (x1) (i4) (i2)).bind fun i10 => (bif decide (i10 < 0) then (bif decide (i8 = 6) then (some (decide (i7 = 0))) else (some (false))) else (bif decide (i8 = 0) then (some (decide (i7 = i10))) else (some (false))))))))))))))))
theorem F9_ok {i0 : Int} {o0 : Option Bool} {b0 : Bool} {n0 : Nat} {x0 : List V} {i1 : Int} {i2 : Int} {k : Nat} {r : Bool} (h : F9 k i0 o0 b0 n0 x0 i1 i2 = some r) :
    callP (evalFn Try.prog Try.cfg (k + 15)) 9 [V.agg [V.int IntKind.i64 i0, V.sl o0 b0 n0 x0, V.int IntKind.u64 i1], V.int IntKind.i64 i2] = some (V.bool r) := by
  unfold F9 at h
  obtain ⟨⟨i3, o1, b1, n1, x1, i4⟩, e0, h⟩ := Option.bind_eq_some_iff.1 h
  obtain ⟨⟨i5, i6⟩, e1, h⟩ := Option.bind_eq_some_iff.1 h
  obtain ⟨⟨i7, i8⟩, e2, h⟩ := Option.bind_eq_some_iff.1 h
  obtain ⟨b2, e3, h⟩ := Option.bind_eq_some_iff.1 h
  rcases cond_elim h with ⟨e4, h⟩ | ⟨e4, h⟩
  ·
    obtain ⟨b3, e5, h⟩ := Option.bind_eq_some_iff.1 h
    rcases cond_elim h with ⟨e6, h⟩ | ⟨e6, h⟩
    ·
      rcases cond_elim h with ⟨e7, h⟩ | ⟨e7, h⟩
      ·
        rcases cond_elim h with ⟨e8, h⟩ | ⟨e8, h⟩
        ·
          rcases cond_elim h with ⟨e9, h⟩ | ⟨e9, h⟩
          ·
            have h := Option.some.inj h; subst h; exact P9_0 i0 i1 i2 i3 i4 i5 i6 i7 i8 b0 b1 b2 b3 x0 x1 o0 o1 n0 n1 k (F29_ok e0) (F41_ok e1) (F42_ok e2) (F32_ok e3) e4 (F35_ok e5) e6 e7 e8 e9
          ·
            have h := Option.some.inj h; subst h; exact P9_1 i0 i1 i2 i3 i4 i5 i6 i7 i8 b0 b1 b2 b3 x0 x1 o0 o1 n0 n1 k (F29_ok e0) (F41_ok e1) (F42_ok e2) (F32_ok e3) e4 (F35_ok e5) e6 e7 e8 e9
        ·
          have h := Option.some.inj h; subst h; exact P9_2 i0 i1 i2 i3 i4 i5 i6 i7 i8 b0 b1 b2 b3 x0 x1 o0 o1 n0 n1 k (F29_ok e0) (F41_ok e1) (F42_ok e2) (F32_ok e3) e4 (F35_ok e5) e6 e7 e8
      ·
        have h := Option.some.inj h; subst h; exact P9_3 i0 i1 i2 i3 i4 i5 i6 i7 i8 b0 b1 b2 b3 x0 x1 o0 o1 n0 n1 k (F29_ok e0) (F41_ok e1) (F42_ok e2) (F32_ok e3) e4 (F35_ok e5) e6 e7
    ·
      have h := Option.some.inj h; subst h; exact P9_4 i0 i1 i2 i3 i4 i5 i6 i7 i8 b0 b1 b2 b3 x0 x1 o0 o1 n0 n1 k (F29_ok e0) (F41_ok e1) (F42_ok e2) (F32_ok e3) e4 (F35_ok e5) e6
  ·
    rcases cond_elim h with ⟨e5, h⟩ | ⟨e5, h⟩
    ·
      have h := Option.some.inj h; subst h; exact P9_5 i0 i1 i2 i3 i4 i5 i6 i7 i8 b0 b1 b2 x0 x1 o0 o1 n0 n1 k (F29_ok e0) (F41_ok e1) (F42_ok e2) (F32_ok e3) e4 e5
    ·
      obtain ⟨i9, e6, h⟩ := Option.bind_eq_some_iff.1 h
      rcases cond_elim h with ⟨e7, h⟩ | ⟨e7, h⟩
      ·
        have h := Option.some.inj h; subst h; exact P9_6 i0 i1 i2 i3 i4 i5 i6 i7 i8 i9 b0 b1 b2 x0 x1 o0 o1 n0 n1 k (F29_ok e0) (F41_ok e1) (F42_ok e2) (F32_ok e3) e4 e5 (F43_ok e6) e7
      ·
        obtain ⟨b3, e8, h⟩ := Option.bind_eq_some_iff.1 h
        rcases cond_elim h with ⟨e9, h⟩ | ⟨e9, h⟩
        ·
          have h := Option.some.inj h; subst h; exact P9_7 i0 i1 i2 i3 i4 i5 i6 i7 i8 i9 b0 b1 b2 b3 x0 x1 o0 o1 n0 n1 k (F29_ok e0) (F41_ok e1) (F42_ok e2) (F32_ok e3) e4 e5 (F43_ok e6) e7 (F35_ok e8) e9
        ·
          rcases cond_elim h with ⟨e10, h⟩ | ⟨e10, h⟩
          ·
            rcases cond_elim h with ⟨e11, h⟩ | ⟨e11, h⟩
            ·
              have h := Option.some.inj h; subst h; exact P9_8 i0 i1 i2 i3 i4 i5 i6 i7 i8 i9 b0 b1 b2 b3 x0 x1 o0 o1 n0 n1 k (F29_ok e0) (F41_ok e1) (F42_ok e2) (F32_ok e3) e4 e5 (F43_ok e6) e7 (F35_ok e8) e9 e10 e11
            ·
              have h := Option.some.inj h; subst h; exact P9_9 i0 i1 i2 i3 i4 i5 i6 i7 i8 i9 b0 b1 b2 b3 x0 x1 o0 o1 n0 n1 k (F29_ok e0) (F41_ok e1) (F42_ok e2) (F32_ok e3) e4 e5 (F43_ok e6) e7 (F35_ok e8) e9 e10 e11
          ·
            obtain ⟨i10, e11, h⟩ := Option.bind_eq_some_iff.1 h
            rcases cond_elim h with ⟨e12, h⟩ | ⟨e12, h⟩
            ·
              rcases cond_elim h with ⟨e13, h⟩ | ⟨e13, h⟩
              ·
                have h := Option.some.inj h; subst h; exact P9_10 i0 i1 i2 i3 i4 i5 i6 i7 i8 i9 i10 b0 b1 b2 b3 x0 x1 o0 o1 n0 n1 k (F29_ok e0) (F41_ok e1) (F42_ok e2) (F32_ok e3) e4 e5 (F43_ok e6) e7 (F35_ok e8) e9 e10 (F44_ok e11) e12 e13
              ·
                have h := Option.some.inj h; subst h; exact P9_11 i0 i1 i2 i3 i4 i5 i6 i7 i8 i9 i10 b0 b1 b2 b3 x0 x1 o0 o1 n0 n1 k (F29_ok e0) (F41_ok e1) (F42_ok e2) (F32_ok e3) e4 e5 (F43_ok e6) e7 (F35_ok e8) e9 e10 (F44_ok e11) e12 e13
            ·
              rcases cond_elim h with ⟨e13, h⟩ | ⟨e13, h⟩
              ·
                have h := Option.some.inj h; subst h; exact P9_12 i0 i1 i2 i3 i4 i5 i6 i7 i8 i9 i10 b0 b1 b2 b3 x0 x1 o0 o1 n0 n1 k (F29_ok e0) (F41_ok e1) (F42_ok e2) (F32_ok e3) e4 e5 (F43_ok e6) e7 (F35_ok e8) e9 e10 (F44_ok e11) e12 e13 (F44_ok e11)
              ·
                have h := Option.some.inj h; subst h; exact P9_13 i0 i1 i2 i3 i4 i5 i6 i7 i8 i9 i10 b0 b1 b2 b3 x0 x1 o0 o1 n0 n1 k (F29_ok e0) (F41_ok e1) (F42_ok e2) (F32_ok e3) e4 e5 (F43_ok e6) e7 (F35_ok e8) e9 e10 (F44_ok e11) e12 e13
end Go.Proofs
