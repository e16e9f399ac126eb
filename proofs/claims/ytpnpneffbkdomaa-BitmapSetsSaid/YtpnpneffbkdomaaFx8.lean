/-
  What the law BitmapSets answers, checked against the program.
-/
import Derived.Test.YtpnpneffbkdomaaFxB
set_option linter.unusedVariables false
set_option maxHeartbeats 0
set_option maxRecDepth 100000
namespace Go.Proofs
open Go Go.Sym

theorem P8_0 (i0 : Int) (i1 : Int) (i2 : Int) (i3 : Int) (i4 : Int) (i5 : Int) (i6 : Int) (i7 : Int) (i8 : Int) (b0 : Bool) (b1 : Bool) (b2 : Bool) (b3 : Bool) (b4 : Bool) (b5 : Bool) (b6 : Bool) (b7 : Bool) (x0 : List V) (x1 : List V) (x2 : List V) (o0 : Option Bool) (o1 : Option Bool) (o2 : Option Bool) (n0 : Nat) (n1 : Nat) (n2 : Nat) (k : Nat)
    (c0 : callP (evalFn Try.prog Try.cfg (k + 14)) 29 [V.agg [V.int IntKind.i64 i0, V.sl o0 b0 n0 x0, V.int IntKind.u64 i1]] = some (V.agg [V.int IntKind.i64 i3, V.sl o1 b2 n1 x1, V.int IntKind.u64 i4]))
    (c1 : callP (evalFn Try.prog Try.cfg (k + 14)) 37 [V.agg [V.int IntKind.i64 i3, V.sl o1 b2 n1 x1, V.int IntKind.u64 i4], V.int IntKind.i64 i2, V.bool b1] = some (V.tup [V.agg [V.int IntKind.i64 i5, V.sl o2 b3 n2 x2, V.int IntKind.u64 i6], V.int IntKind.i64 i7]))
    (c2 : callP (evalFn Try.prog Try.cfg (k + 14)) 38 [V.agg [V.int IntKind.i64 i3, V.sl o1 b2 n1 x1, V.int IntKind.u64 i4], V.int IntKind.i64 i2] = some (V.tup [V.bool b4, V.int IntKind.i64 i8]))
    (c3 : callP (evalFn Try.prog Try.cfg (k + 14)) 32 [V.agg [V.int IntKind.i64 i3, V.sl o1 b2 n1 x1, V.int IntKind.u64 i4]] = some (V.bool b5))
    (c4 : (!b5) = true)
    (c5 : callP (evalFn Try.prog Try.cfg (k + 14)) 35 [] = some (V.bool b6))
    (c6 : b6 = true)
    (c7 : decide (i7 = 1) = true)
    (c8 : decide (i8 = 1) = true)
    (c9 : (!b4) = true)
    (c10 : callP (evalFn Try.prog Try.cfg (k + 14)) 34 [V.agg [V.int IntKind.i64 i5, V.sl o2 b3 n2 x2, V.int IntKind.u64 i6], V.agg [V.int IntKind.i64 0, V.sl (some true) true 0 [], V.int IntKind.u64 0]] = some (V.bool b7)) :
    callP (evalFn Try.prog Try.cfg (k + 15)) 8 [V.agg [V.int IntKind.i64 i0, V.sl o0 b0 n0 x0, V.int IntKind.u64 i1], V.int IntKind.i64 i2, V.bool b1] = some (V.bool b7) :=
  byF (k := k) (d := 15) [Hn.call 13 (V.agg [V.int IntKind.i64 i3, V.sl o1 b2 n1 x1, V.int IntKind.u64 i4]), Hn.call 18 (V.tup [V.agg [V.int IntKind.i64 i5, V.sl o2 b3 n2 x2, V.int IntKind.u64 i6], V.int IntKind.i64 i7]), Hn.call 24 (V.tup [V.bool b4, V.int IntKind.i64 i8]), Hn.call 29 (V.bool b5), Hn.br 27 true, Hn.call 42 (V.bool b6), Hn.br 43 true, Hn.br 48 true, Hn.br 53 true, Hn.br 57 true, Hn.call 60 (V.bool b7)] (And.intro c0 (And.intro c1 (And.intro c2 (And.intro c3 (And.intro c4 (And.intro c5 (And.intro c6 (And.intro c7 (And.intro c8 (And.intro c9 (And.intro c10 trivial))))))))))) (by kernel_rfl)
theorem P8_1 (i0 : Int) (i1 : Int) (i2 : Int) (i3 : Int) (i4 : Int) (i5 : Int) (i6 : Int) (i7 : Int) (i8 : Int) (b0 : Bool) (b1 : Bool) (b2 : Bool) (b3 : Bool) (b4 : Bool) (b5 : Bool) (b6 : Bool) (x0 : List V) (x1 : List V) (x2 : List V) (o0 : Option Bool) (o1 : Option Bool) (o2 : Option Bool) (n0 : Nat) (n1 : Nat) (n2 : Nat) (k : Nat)
    (c0 : callP (evalFn Try.prog Try.cfg (k + 14)) 29 [V.agg [V.int IntKind.i64 i0, V.sl o0 b0 n0 x0, V.int IntKind.u64 i1]] = some (V.agg [V.int IntKind.i64 i3, V.sl o1 b2 n1 x1, V.int IntKind.u64 i4]))
    (c1 : callP (evalFn Try.prog Try.cfg (k + 14)) 37 [V.agg [V.int IntKind.i64 i3, V.sl o1 b2 n1 x1, V.int IntKind.u64 i4], V.int IntKind.i64 i2, V.bool b1] = some (V.tup [V.agg [V.int IntKind.i64 i5, V.sl o2 b3 n2 x2, V.int IntKind.u64 i6], V.int IntKind.i64 i7]))
    (c2 : callP (evalFn Try.prog Try.cfg (k + 14)) 38 [V.agg [V.int IntKind.i64 i3, V.sl o1 b2 n1 x1, V.int IntKind.u64 i4], V.int IntKind.i64 i2] = some (V.tup [V.bool b4, V.int IntKind.i64 i8]))
    (c3 : callP (evalFn Try.prog Try.cfg (k + 14)) 32 [V.agg [V.int IntKind.i64 i3, V.sl o1 b2 n1 x1, V.int IntKind.u64 i4]] = some (V.bool b5))
    (c4 : (!b5) = true)
    (c5 : callP (evalFn Try.prog Try.cfg (k + 14)) 35 [] = some (V.bool b6))
    (c6 : b6 = true)
    (c7 : decide (i7 = 1) = true)
    (c8 : decide (i8 = 1) = true)
    (c9 : (!b4) = false) :
    callP (evalFn Try.prog Try.cfg (k + 15)) 8 [V.agg [V.int IntKind.i64 i0, V.sl o0 b0 n0 x0, V.int IntKind.u64 i1], V.int IntKind.i64 i2, V.bool b1] = some (V.bool false) :=
  byF (k := k) (d := 15) [Hn.call 13 (V.agg [V.int IntKind.i64 i3, V.sl o1 b2 n1 x1, V.int IntKind.u64 i4]), Hn.call 18 (V.tup [V.agg [V.int IntKind.i64 i5, V.sl o2 b3 n2 x2, V.int IntKind.u64 i6], V.int IntKind.i64 i7]), Hn.call 24 (V.tup [V.bool b4, V.int IntKind.i64 i8]), Hn.call 29 (V.bool b5), Hn.br 27 true, Hn.call 42 (V.bool b6), Hn.br 43 true, Hn.br 48 true, Hn.br 53 true, Hn.br 57 false] (And.intro c0 (And.intro c1 (And.intro c2 (And.intro c3 (And.intro c4 (And.intro c5 (And.intro c6 (And.intro c7 (And.intro c8 (And.intro c9 trivial)))))))))) (by kernel_rfl)
theorem P8_2 (i0 : Int) (i1 : Int) (i2 : Int) (i3 : Int) (i4 : Int) (i5 : Int) (i6 : Int) (i7 : Int) (i8 : Int) (b0 : Bool) (b1 : Bool) (b2 : Bool) (b3 : Bool) (b4 : Bool) (b5 : Bool) (b6 : Bool) (x0 : List V) (x1 : List V) (x2 : List V) (o0 : Option Bool) (o1 : Option Bool) (o2 : Option Bool) (n0 : Nat) (n1 : Nat) (n2 : Nat) (k : Nat)
    (c0 : callP (evalFn Try.prog Try.cfg (k + 14)) 29 [V.agg [V.int IntKind.i64 i0, V.sl o0 b0 n0 x0, V.int IntKind.u64 i1]] = some (V.agg [V.int IntKind.i64 i3, V.sl o1 b2 n1 x1, V.int IntKind.u64 i4]))
    (c1 : callP (evalFn Try.prog Try.cfg (k + 14)) 37 [V.agg [V.int IntKind.i64 i3, V.sl o1 b2 n1 x1, V.int IntKind.u64 i4], V.int IntKind.i64 i2, V.bool b1] = some (V.tup [V.agg [V.int IntKind.i64 i5, V.sl o2 b3 n2 x2, V.int IntKind.u64 i6], V.int IntKind.i64 i7]))
    (c2 : callP (evalFn Try.prog Try.cfg (k + 14)) 38 [V.agg [V.int IntKind.i64 i3, V.sl o1 b2 n1 x1, V.int IntKind.u64 i4], V.int IntKind.i64 i2] = some (V.tup [V.bool b4, V.int IntKind.i64 i8]))
    (c3 : callP (evalFn Try.prog Try.cfg (k + 14)) 32 [V.agg [V.int IntKind.i64 i3, V.sl o1 b2 n1 x1, V.int IntKind.u64 i4]] = some (V.bool b5))
    (c4 : (!b5) = true)
    (c5 : callP (evalFn Try.prog Try.cfg (k + 14)) 35 [] = some (V.bool b6))
    (c6 : b6 = true)
    (c7 : decide (i7 = 1) = true)
    (c8 : decide (i8 = 1) = false) :
    callP (evalFn Try.prog Try.cfg (k + 15)) 8 [V.agg [V.int IntKind.i64 i0, V.sl o0 b0 n0 x0, V.int IntKind.u64 i1], V.int IntKind.i64 i2, V.bool b1] = some (V.bool false) :=
  byF (k := k) (d := 15) [Hn.call 13 (V.agg [V.int IntKind.i64 i3, V.sl o1 b2 n1 x1, V.int IntKind.u64 i4]), Hn.call 18 (V.tup [V.agg [V.int IntKind.i64 i5, V.sl o2 b3 n2 x2, V.int IntKind.u64 i6], V.int IntKind.i64 i7]), Hn.call 24 (V.tup [V.bool b4, V.int IntKind.i64 i8]), Hn.call 29 (V.bool b5), Hn.br 27 true, Hn.call 42 (V.bool b6), Hn.br 43 true, Hn.br 48 true, Hn.br 53 false] (And.intro c0 (And.intro c1 (And.intro c2 (And.intro c3 (And.intro c4 (And.intro c5 (And.intro c6 (And.intro c7 (And.intro c8 trivial))))))))) (by kernel_rfl)
theorem P8_3 (i0 : Int) (i1 : Int) (i2 : Int) (i3 : Int) (i4 : Int) (i5 : Int) (i6 : Int) (i7 : Int) (i8 : Int) (b0 : Bool) (b1 : Bool) (b2 : Bool) (b3 : Bool) (b4 : Bool) (b5 : Bool) (b6 : Bool) (x0 : List V) (x1 : List V) (x2 : List V) (o0 : Option Bool) (o1 : Option Bool) (o2 : Option Bool) (n0 : Nat) (n1 : Nat) (n2 : Nat) (k : Nat)
    (c0 : callP (evalFn Try.prog Try.cfg (k + 14)) 29 [V.agg [V.int IntKind.i64 i0, V.sl o0 b0 n0 x0, V.int IntKind.u64 i1]] = some (V.agg [V.int IntKind.i64 i3, V.sl o1 b2 n1 x1, V.int IntKind.u64 i4]))
    (c1 : callP (evalFn Try.prog Try.cfg (k + 14)) 37 [V.agg [V.int IntKind.i64 i3, V.sl o1 b2 n1 x1, V.int IntKind.u64 i4], V.int IntKind.i64 i2, V.bool b1] = some (V.tup [V.agg [V.int IntKind.i64 i5, V.sl o2 b3 n2 x2, V.int IntKind.u64 i6], V.int IntKind.i64 i7]))
    (c2 : callP (evalFn Try.prog Try.cfg (k + 14)) 38 [V.agg [V.int IntKind.i64 i3, V.sl o1 b2 n1 x1, V.int IntKind.u64 i4], V.int IntKind.i64 i2] = some (V.tup [V.bool b4, V.int IntKind.i64 i8]))
    (c3 : callP (evalFn Try.prog Try.cfg (k + 14)) 32 [V.agg [V.int IntKind.i64 i3, V.sl o1 b2 n1 x1, V.int IntKind.u64 i4]] = some (V.bool b5))
    (c4 : (!b5) = true)
    (c5 : callP (evalFn Try.prog Try.cfg (k + 14)) 35 [] = some (V.bool b6))
    (c6 : b6 = true)
    (c7 : decide (i7 = 1) = false) :
    callP (evalFn Try.prog Try.cfg (k + 15)) 8 [V.agg [V.int IntKind.i64 i0, V.sl o0 b0 n0 x0, V.int IntKind.u64 i1], V.int IntKind.i64 i2, V.bool b1] = some (V.bool false) :=
  byF (k := k) (d := 15) [Hn.call 13 (V.agg [V.int IntKind.i64 i3, V.sl o1 b2 n1 x1, V.int IntKind.u64 i4]), Hn.call 18 (V.tup [V.agg [V.int IntKind.i64 i5, V.sl o2 b3 n2 x2, V.int IntKind.u64 i6], V.int IntKind.i64 i7]), Hn.call 24 (V.tup [V.bool b4, V.int IntKind.i64 i8]), Hn.call 29 (V.bool b5), Hn.br 27 true, Hn.call 42 (V.bool b6), Hn.br 43 true, Hn.br 48 false] (And.intro c0 (And.intro c1 (And.intro c2 (And.intro c3 (And.intro c4 (And.intro c5 (And.intro c6 (And.intro c7 trivial)))))))) (by kernel_rfl)
theorem P8_4 (i0 : Int) (i1 : Int) (i2 : Int) (i3 : Int) (i4 : Int) (i5 : Int) (i6 : Int) (i7 : Int) (i8 : Int) (b0 : Bool) (b1 : Bool) (b2 : Bool) (b3 : Bool) (b4 : Bool) (b5 : Bool) (b6 : Bool) (x0 : List V) (x1 : List V) (x2 : List V) (o0 : Option Bool) (o1 : Option Bool) (o2 : Option Bool) (n0 : Nat) (n1 : Nat) (n2 : Nat) (k : Nat)
    (c0 : callP (evalFn Try.prog Try.cfg (k + 14)) 29 [V.agg [V.int IntKind.i64 i0, V.sl o0 b0 n0 x0, V.int IntKind.u64 i1]] = some (V.agg [V.int IntKind.i64 i3, V.sl o1 b2 n1 x1, V.int IntKind.u64 i4]))
    (c1 : callP (evalFn Try.prog Try.cfg (k + 14)) 37 [V.agg [V.int IntKind.i64 i3, V.sl o1 b2 n1 x1, V.int IntKind.u64 i4], V.int IntKind.i64 i2, V.bool b1] = some (V.tup [V.agg [V.int IntKind.i64 i5, V.sl o2 b3 n2 x2, V.int IntKind.u64 i6], V.int IntKind.i64 i7]))
    (c2 : callP (evalFn Try.prog Try.cfg (k + 14)) 38 [V.agg [V.int IntKind.i64 i3, V.sl o1 b2 n1 x1, V.int IntKind.u64 i4], V.int IntKind.i64 i2] = some (V.tup [V.bool b4, V.int IntKind.i64 i8]))
    (c3 : callP (evalFn Try.prog Try.cfg (k + 14)) 32 [V.agg [V.int IntKind.i64 i3, V.sl o1 b2 n1 x1, V.int IntKind.u64 i4]] = some (V.bool b5))
    (c4 : (!b5) = true)
    (c5 : callP (evalFn Try.prog Try.cfg (k + 14)) 35 [] = some (V.bool b6))
    (c6 : b6 = false) :
    callP (evalFn Try.prog Try.cfg (k + 15)) 8 [V.agg [V.int IntKind.i64 i0, V.sl o0 b0 n0 x0, V.int IntKind.u64 i1], V.int IntKind.i64 i2, V.bool b1] = some (V.bool false) :=
  byF (k := k) (d := 15) [Hn.call 13 (V.agg [V.int IntKind.i64 i3, V.sl o1 b2 n1 x1, V.int IntKind.u64 i4]), Hn.call 18 (V.tup [V.agg [V.int IntKind.i64 i5, V.sl o2 b3 n2 x2, V.int IntKind.u64 i6], V.int IntKind.i64 i7]), Hn.call 24 (V.tup [V.bool b4, V.int IntKind.i64 i8]), Hn.call 29 (V.bool b5), Hn.br 27 true, Hn.call 42 (V.bool b6), Hn.br 43 false] (And.intro c0 (And.intro c1 (And.intro c2 (And.intro c3 (And.intro c4 (And.intro c5 (And.intro c6 trivial))))))) (by kernel_rfl)
theorem P8_5 (i0 : Int) (i1 : Int) (i2 : Int) (i3 : Int) (i4 : Int) (i5 : Int) (i6 : Int) (i7 : Int) (i8 : Int) (b0 : Bool) (b1 : Bool) (b2 : Bool) (b3 : Bool) (b4 : Bool) (b5 : Bool) (b6 : Bool) (b7 : Bool) (x0 : List V) (x1 : List V) (x2 : List V) (o0 : Option Bool) (o1 : Option Bool) (o2 : Option Bool) (n0 : Nat) (n1 : Nat) (n2 : Nat) (k : Nat)
    (c0 : callP (evalFn Try.prog Try.cfg (k + 14)) 29 [V.agg [V.int IntKind.i64 i0, V.sl o0 b0 n0 x0, V.int IntKind.u64 i1]] = some (V.agg [V.int IntKind.i64 i3, V.sl o1 b2 n1 x1, V.int IntKind.u64 i4]))
    (c1 : callP (evalFn Try.prog Try.cfg (k + 14)) 37 [V.agg [V.int IntKind.i64 i3, V.sl o1 b2 n1 x1, V.int IntKind.u64 i4], V.int IntKind.i64 i2, V.bool b1] = some (V.tup [V.agg [V.int IntKind.i64 i5, V.sl o2 b3 n2 x2, V.int IntKind.u64 i6], V.int IntKind.i64 i7]))
    (c2 : callP (evalFn Try.prog Try.cfg (k + 14)) 38 [V.agg [V.int IntKind.i64 i3, V.sl o1 b2 n1 x1, V.int IntKind.u64 i4], V.int IntKind.i64 i2] = some (V.tup [V.bool b4, V.int IntKind.i64 i8]))
    (c3 : callP (evalFn Try.prog Try.cfg (k + 14)) 32 [V.agg [V.int IntKind.i64 i3, V.sl o1 b2 n1 x1, V.int IntKind.u64 i4]] = some (V.bool b5))
    (c4 : (!b5) = false)
    (c5 : decide (i2 < 0) = true)
    (c6 : callP (evalFn Try.prog Try.cfg (k + 14)) 35 [] = some (V.bool b6))
    (c7 : b6 = true)
    (c8 : decide (i7 = 2) = true)
    (c9 : decide (i8 = 2) = true)
    (c10 : (!b4) = true)
    (c11 : callP (evalFn Try.prog Try.cfg (k + 14)) 34 [V.agg [V.int IntKind.i64 i5, V.sl o2 b3 n2 x2, V.int IntKind.u64 i6], V.agg [V.int IntKind.i64 0, V.sl (some true) true 0 [], V.int IntKind.u64 0]] = some (V.bool b7)) :
    callP (evalFn Try.prog Try.cfg (k + 15)) 8 [V.agg [V.int IntKind.i64 i0, V.sl o0 b0 n0 x0, V.int IntKind.u64 i1], V.int IntKind.i64 i2, V.bool b1] = some (V.bool b7) :=
  byF (k := k) (d := 15) [Hn.call 13 (V.agg [V.int IntKind.i64 i3, V.sl o1 b2 n1 x1, V.int IntKind.u64 i4]), Hn.call 18 (V.tup [V.agg [V.int IntKind.i64 i5, V.sl o2 b3 n2 x2, V.int IntKind.u64 i6], V.int IntKind.i64 i7]), Hn.call 24 (V.tup [V.bool b4, V.int IntKind.i64 i8]), Hn.call 29 (V.bool b5), Hn.br 27 false, Hn.br 34 true, Hn.call 42 (V.bool b6), Hn.br 43 true, Hn.br 48 true, Hn.br 53 true, Hn.br 57 true, Hn.call 60 (V.bool b7)] (And.intro c0 (And.intro c1 (And.intro c2 (And.intro c3 (And.intro c4 (And.intro c5 (And.intro c6 (And.intro c7 (And.intro c8 (And.intro c9 (And.intro c10 (And.intro c11 trivial)))))))))))) (by kernel_rfl)
theorem P8_6 (i0 : Int) (i1 : Int) (i2 : Int) (i3 : Int) (i4 : Int) (i5 : Int) (i6 : Int) (i7 : Int) (i8 : Int) (b0 : Bool) (b1 : Bool) (b2 : Bool) (b3 : Bool) (b4 : Bool) (b5 : Bool) (b6 : Bool) (x0 : List V) (x1 : List V) (x2 : List V) (o0 : Option Bool) (o1 : Option Bool) (o2 : Option Bool) (n0 : Nat) (n1 : Nat) (n2 : Nat) (k : Nat)
    (c0 : callP (evalFn Try.prog Try.cfg (k + 14)) 29 [V.agg [V.int IntKind.i64 i0, V.sl o0 b0 n0 x0, V.int IntKind.u64 i1]] = some (V.agg [V.int IntKind.i64 i3, V.sl o1 b2 n1 x1, V.int IntKind.u64 i4]))
    (c1 : callP (evalFn Try.prog Try.cfg (k + 14)) 37 [V.agg [V.int IntKind.i64 i3, V.sl o1 b2 n1 x1, V.int IntKind.u64 i4], V.int IntKind.i64 i2, V.bool b1] = some (V.tup [V.agg [V.int IntKind.i64 i5, V.sl o2 b3 n2 x2, V.int IntKind.u64 i6], V.int IntKind.i64 i7]))
    (c2 : callP (evalFn Try.prog Try.cfg (k + 14)) 38 [V.agg [V.int IntKind.i64 i3, V.sl o1 b2 n1 x1, V.int IntKind.u64 i4], V.int IntKind.i64 i2] = some (V.tup [V.bool b4, V.int IntKind.i64 i8]))
    (c3 : callP (evalFn Try.prog Try.cfg (k + 14)) 32 [V.agg [V.int IntKind.i64 i3, V.sl o1 b2 n1 x1, V.int IntKind.u64 i4]] = some (V.bool b5))
    (c4 : (!b5) = false)
    (c5 : decide (i2 < 0) = true)
    (c6 : callP (evalFn Try.prog Try.cfg (k + 14)) 35 [] = some (V.bool b6))
    (c7 : b6 = true)
    (c8 : decide (i7 = 2) = true)
    (c9 : decide (i8 = 2) = true)
    (c10 : (!b4) = false) :
    callP (evalFn Try.prog Try.cfg (k + 15)) 8 [V.agg [V.int IntKind.i64 i0, V.sl o0 b0 n0 x0, V.int IntKind.u64 i1], V.int IntKind.i64 i2, V.bool b1] = some (V.bool false) :=
  byF (k := k) (d := 15) [Hn.call 13 (V.agg [V.int IntKind.i64 i3, V.sl o1 b2 n1 x1, V.int IntKind.u64 i4]), Hn.call 18 (V.tup [V.agg [V.int IntKind.i64 i5, V.sl o2 b3 n2 x2, V.int IntKind.u64 i6], V.int IntKind.i64 i7]), Hn.call 24 (V.tup [V.bool b4, V.int IntKind.i64 i8]), Hn.call 29 (V.bool b5), Hn.br 27 false, Hn.br 34 true, Hn.call 42 (V.bool b6), Hn.br 43 true, Hn.br 48 true, Hn.br 53 true, Hn.br 57 false] (And.intro c0 (And.intro c1 (And.intro c2 (And.intro c3 (And.intro c4 (And.intro c5 (And.intro c6 (And.intro c7 (And.intro c8 (And.intro c9 (And.intro c10 trivial))))))))))) (by kernel_rfl)
theorem P8_7 (i0 : Int) (i1 : Int) (i2 : Int) (i3 : Int) (i4 : Int) (i5 : Int) (i6 : Int) (i7 : Int) (i8 : Int) (b0 : Bool) (b1 : Bool) (b2 : Bool) (b3 : Bool) (b4 : Bool) (b5 : Bool) (b6 : Bool) (x0 : List V) (x1 : List V) (x2 : List V) (o0 : Option Bool) (o1 : Option Bool) (o2 : Option Bool) (n0 : Nat) (n1 : Nat) (n2 : Nat) (k : Nat)
    (c0 : callP (evalFn Try.prog Try.cfg (k + 14)) 29 [V.agg [V.int IntKind.i64 i0, V.sl o0 b0 n0 x0, V.int IntKind.u64 i1]] = some (V.agg [V.int IntKind.i64 i3, V.sl o1 b2 n1 x1, V.int IntKind.u64 i4]))
    (c1 : callP (evalFn Try.prog Try.cfg (k + 14)) 37 [V.agg [V.int IntKind.i64 i3, V.sl o1 b2 n1 x1, V.int IntKind.u64 i4], V.int IntKind.i64 i2, V.bool b1] = some (V.tup [V.agg [V.int IntKind.i64 i5, V.sl o2 b3 n2 x2, V.int IntKind.u64 i6], V.int IntKind.i64 i7]))
    (c2 : callP (evalFn Try.prog Try.cfg (k + 14)) 38 [V.agg [V.int IntKind.i64 i3, V.sl o1 b2 n1 x1, V.int IntKind.u64 i4], V.int IntKind.i64 i2] = some (V.tup [V.bool b4, V.int IntKind.i64 i8]))
    (c3 : callP (evalFn Try.prog Try.cfg (k + 14)) 32 [V.agg [V.int IntKind.i64 i3, V.sl o1 b2 n1 x1, V.int IntKind.u64 i4]] = some (V.bool b5))
    (c4 : (!b5) = false)
    (c5 : decide (i2 < 0) = true)
    (c6 : callP (evalFn Try.prog Try.cfg (k + 14)) 35 [] = some (V.bool b6))
    (c7 : b6 = true)
    (c8 : decide (i7 = 2) = true)
    (c9 : decide (i8 = 2) = false) :
    callP (evalFn Try.prog Try.cfg (k + 15)) 8 [V.agg [V.int IntKind.i64 i0, V.sl o0 b0 n0 x0, V.int IntKind.u64 i1], V.int IntKind.i64 i2, V.bool b1] = some (V.bool false) :=
  byF (k := k) (d := 15) [Hn.call 13 (V.agg [V.int IntKind.i64 i3, V.sl o1 b2 n1 x1, V.int IntKind.u64 i4]), Hn.call 18 (V.tup [V.agg [V.int IntKind.i64 i5, V.sl o2 b3 n2 x2, V.int IntKind.u64 i6], V.int IntKind.i64 i7]), Hn.call 24 (V.tup [V.bool b4, V.int IntKind.i64 i8]), Hn.call 29 (V.bool b5), Hn.br 27 false, Hn.br 34 true, Hn.call 42 (V.bool b6), Hn.br 43 true, Hn.br 48 true, Hn.br 53 false] (And.intro c0 (And.intro c1 (And.intro c2 (And.intro c3 (And.intro c4 (And.intro c5 (And.intro c6 (And.intro c7 (And.intro c8 (And.intro c9 trivial)))))))))) (by kernel_rfl)
theorem P8_8 (i0 : Int) (i1 : Int) (i2 : Int) (i3 : Int) (i4 : Int) (i5 : Int) (i6 : Int) (i7 : Int) (i8 : Int) (b0 : Bool) (b1 : Bool) (b2 : Bool) (b3 : Bool) (b4 : Bool) (b5 : Bool) (b6 : Bool) (x0 : List V) (x1 : List V) (x2 : List V) (o0 : Option Bool) (o1 : Option Bool) (o2 : Option Bool) (n0 : Nat) (n1 : Nat) (n2 : Nat) (k : Nat)
    (c0 : callP (evalFn Try.prog Try.cfg (k + 14)) 29 [V.agg [V.int IntKind.i64 i0, V.sl o0 b0 n0 x0, V.int IntKind.u64 i1]] = some (V.agg [V.int IntKind.i64 i3, V.sl o1 b2 n1 x1, V.int IntKind.u64 i4]))
    (c1 : callP (evalFn Try.prog Try.cfg (k + 14)) 37 [V.agg [V.int IntKind.i64 i3, V.sl o1 b2 n1 x1, V.int IntKind.u64 i4], V.int IntKind.i64 i2, V.bool b1] = some (V.tup [V.agg [V.int IntKind.i64 i5, V.sl o2 b3 n2 x2, V.int IntKind.u64 i6], V.int IntKind.i64 i7]))
    (c2 : callP (evalFn Try.prog Try.cfg (k + 14)) 38 [V.agg [V.int IntKind.i64 i3, V.sl o1 b2 n1 x1, V.int IntKind.u64 i4], V.int IntKind.i64 i2] = some (V.tup [V.bool b4, V.int IntKind.i64 i8]))
    (c3 : callP (evalFn Try.prog Try.cfg (k + 14)) 32 [V.agg [V.int IntKind.i64 i3, V.sl o1 b2 n1 x1, V.int IntKind.u64 i4]] = some (V.bool b5))
    (c4 : (!b5) = false)
    (c5 : decide (i2 < 0) = true)
    (c6 : callP (evalFn Try.prog Try.cfg (k + 14)) 35 [] = some (V.bool b6))
    (c7 : b6 = true)
    (c8 : decide (i7 = 2) = false) :
    callP (evalFn Try.prog Try.cfg (k + 15)) 8 [V.agg [V.int IntKind.i64 i0, V.sl o0 b0 n0 x0, V.int IntKind.u64 i1], V.int IntKind.i64 i2, V.bool b1] = some (V.bool false) :=
  byF (k := k) (d := 15) [Hn.call 13 (V.agg [V.int IntKind.i64 i3, V.sl o1 b2 n1 x1, V.int IntKind.u64 i4]), Hn.call 18 (V.tup [V.agg [V.int IntKind.i64 i5, V.sl o2 b3 n2 x2, V.int IntKind.u64 i6], V.int IntKind.i64 i7]), Hn.call 24 (V.tup [V.bool b4, V.int IntKind.i64 i8]), Hn.call 29 (V.bool b5), Hn.br 27 false, Hn.br 34 true, Hn.call 42 (V.bool b6), Hn.br 43 true, Hn.br 48 false] (And.intro c0 (And.intro c1 (And.intro c2 (And.intro c3 (And.intro c4 (And.intro c5 (And.intro c6 (And.intro c7 (And.intro c8 trivial))))))))) (by kernel_rfl)
theorem P8_9 (i0 : Int) (i1 : Int) (i2 : Int) (i3 : Int) (i4 : Int) (i5 : Int) (i6 : Int) (i7 : Int) (i8 : Int) (b0 : Bool) (b1 : Bool) (b2 : Bool) (b3 : Bool) (b4 : Bool) (b5 : Bool) (b6 : Bool) (x0 : List V) (x1 : List V) (x2 : List V) (o0 : Option Bool) (o1 : Option Bool) (o2 : Option Bool) (n0 : Nat) (n1 : Nat) (n2 : Nat) (k : Nat)
    (c0 : callP (evalFn Try.prog Try.cfg (k + 14)) 29 [V.agg [V.int IntKind.i64 i0, V.sl o0 b0 n0 x0, V.int IntKind.u64 i1]] = some (V.agg [V.int IntKind.i64 i3, V.sl o1 b2 n1 x1, V.int IntKind.u64 i4]))
    (c1 : callP (evalFn Try.prog Try.cfg (k + 14)) 37 [V.agg [V.int IntKind.i64 i3, V.sl o1 b2 n1 x1, V.int IntKind.u64 i4], V.int IntKind.i64 i2, V.bool b1] = some (V.tup [V.agg [V.int IntKind.i64 i5, V.sl o2 b3 n2 x2, V.int IntKind.u64 i6], V.int IntKind.i64 i7]))
    (c2 : callP (evalFn Try.prog Try.cfg (k + 14)) 38 [V.agg [V.int IntKind.i64 i3, V.sl o1 b2 n1 x1, V.int IntKind.u64 i4], V.int IntKind.i64 i2] = some (V.tup [V.bool b4, V.int IntKind.i64 i8]))
    (c3 : callP (evalFn Try.prog Try.cfg (k + 14)) 32 [V.agg [V.int IntKind.i64 i3, V.sl o1 b2 n1 x1, V.int IntKind.u64 i4]] = some (V.bool b5))
    (c4 : (!b5) = false)
    (c5 : decide (i2 < 0) = true)
    (c6 : callP (evalFn Try.prog Try.cfg (k + 14)) 35 [] = some (V.bool b6))
    (c7 : b6 = false) :
    callP (evalFn Try.prog Try.cfg (k + 15)) 8 [V.agg [V.int IntKind.i64 i0, V.sl o0 b0 n0 x0, V.int IntKind.u64 i1], V.int IntKind.i64 i2, V.bool b1] = some (V.bool false) :=
  byF (k := k) (d := 15) [Hn.call 13 (V.agg [V.int IntKind.i64 i3, V.sl o1 b2 n1 x1, V.int IntKind.u64 i4]), Hn.call 18 (V.tup [V.agg [V.int IntKind.i64 i5, V.sl o2 b3 n2 x2, V.int IntKind.u64 i6], V.int IntKind.i64 i7]), Hn.call 24 (V.tup [V.bool b4, V.int IntKind.i64 i8]), Hn.call 29 (V.bool b5), Hn.br 27 false, Hn.br 34 true, Hn.call 42 (V.bool b6), Hn.br 43 false] (And.intro c0 (And.intro c1 (And.intro c2 (And.intro c3 (And.intro c4 (And.intro c5 (And.intro c6 (And.intro c7 trivial)))))))) (by kernel_rfl)
theorem P8_10 (i0 : Int) (i1 : Int) (i2 : Int) (i3 : Int) (i4 : Int) (i5 : Int) (i6 : Int) (i7 : Int) (i8 : Int) (b0 : Bool) (b1 : Bool) (b2 : Bool) (b3 : Bool) (b4 : Bool) (b5 : Bool) (b6 : Bool) (b7 : Bool) (x0 : List V) (x1 : List V) (x2 : List V) (o0 : Option Bool) (o1 : Option Bool) (o2 : Option Bool) (n0 : Nat) (n1 : Nat) (n2 : Nat) (k : Nat)
    (c0 : callP (evalFn Try.prog Try.cfg (k + 14)) 29 [V.agg [V.int IntKind.i64 i0, V.sl o0 b0 n0 x0, V.int IntKind.u64 i1]] = some (V.agg [V.int IntKind.i64 i3, V.sl o1 b2 n1 x1, V.int IntKind.u64 i4]))
    (c1 : callP (evalFn Try.prog Try.cfg (k + 14)) 37 [V.agg [V.int IntKind.i64 i3, V.sl o1 b2 n1 x1, V.int IntKind.u64 i4], V.int IntKind.i64 i2, V.bool b1] = some (V.tup [V.agg [V.int IntKind.i64 i5, V.sl o2 b3 n2 x2, V.int IntKind.u64 i6], V.int IntKind.i64 i7]))
    (c2 : callP (evalFn Try.prog Try.cfg (k + 14)) 38 [V.agg [V.int IntKind.i64 i3, V.sl o1 b2 n1 x1, V.int IntKind.u64 i4], V.int IntKind.i64 i2] = some (V.tup [V.bool b4, V.int IntKind.i64 i8]))
    (c3 : callP (evalFn Try.prog Try.cfg (k + 14)) 32 [V.agg [V.int IntKind.i64 i3, V.sl o1 b2 n1 x1, V.int IntKind.u64 i4]] = some (V.bool b5))
    (c4 : (!b5) = false)
    (c5 : decide (i2 < 0) = false)
    (c6 : decide (i3 ≤ i2) = true)
    (c7 : callP (evalFn Try.prog Try.cfg (k + 14)) 35 [] = some (V.bool b6))
    (c8 : b6 = true)
    (c9 : decide (i7 = 2) = true)
    (c10 : decide (i8 = 2) = true)
    (c11 : (!b4) = true)
    (c12 : callP (evalFn Try.prog Try.cfg (k + 14)) 34 [V.agg [V.int IntKind.i64 i5, V.sl o2 b3 n2 x2, V.int IntKind.u64 i6], V.agg [V.int IntKind.i64 0, V.sl (some true) true 0 [], V.int IntKind.u64 0]] = some (V.bool b7)) :
    callP (evalFn Try.prog Try.cfg (k + 15)) 8 [V.agg [V.int IntKind.i64 i0, V.sl o0 b0 n0 x0, V.int IntKind.u64 i1], V.int IntKind.i64 i2, V.bool b1] = some (V.bool b7) :=
  byF (k := k) (d := 15) [Hn.call 13 (V.agg [V.int IntKind.i64 i3, V.sl o1 b2 n1 x1, V.int IntKind.u64 i4]), Hn.call 18 (V.tup [V.agg [V.int IntKind.i64 i5, V.sl o2 b3 n2 x2, V.int IntKind.u64 i6], V.int IntKind.i64 i7]), Hn.call 24 (V.tup [V.bool b4, V.int IntKind.i64 i8]), Hn.call 29 (V.bool b5), Hn.br 27 false, Hn.br 34 false, Hn.br 31 true, Hn.call 42 (V.bool b6), Hn.br 43 true, Hn.br 48 true, Hn.br 53 true, Hn.br 57 true, Hn.call 60 (V.bool b7)] (And.intro c0 (And.intro c1 (And.intro c2 (And.intro c3 (And.intro c4 (And.intro c5 (And.intro c6 (And.intro c7 (And.intro c8 (And.intro c9 (And.intro c10 (And.intro c11 (And.intro c12 trivial))))))))))))) (by kernel_rfl)
theorem P8_11 (i0 : Int) (i1 : Int) (i2 : Int) (i3 : Int) (i4 : Int) (i5 : Int) (i6 : Int) (i7 : Int) (i8 : Int) (b0 : Bool) (b1 : Bool) (b2 : Bool) (b3 : Bool) (b4 : Bool) (b5 : Bool) (b6 : Bool) (x0 : List V) (x1 : List V) (x2 : List V) (o0 : Option Bool) (o1 : Option Bool) (o2 : Option Bool) (n0 : Nat) (n1 : Nat) (n2 : Nat) (k : Nat)
    (c0 : callP (evalFn Try.prog Try.cfg (k + 14)) 29 [V.agg [V.int IntKind.i64 i0, V.sl o0 b0 n0 x0, V.int IntKind.u64 i1]] = some (V.agg [V.int IntKind.i64 i3, V.sl o1 b2 n1 x1, V.int IntKind.u64 i4]))
    (c1 : callP (evalFn Try.prog Try.cfg (k + 14)) 37 [V.agg [V.int IntKind.i64 i3, V.sl o1 b2 n1 x1, V.int IntKind.u64 i4], V.int IntKind.i64 i2, V.bool b1] = some (V.tup [V.agg [V.int IntKind.i64 i5, V.sl o2 b3 n2 x2, V.int IntKind.u64 i6], V.int IntKind.i64 i7]))
    (c2 : callP (evalFn Try.prog Try.cfg (k + 14)) 38 [V.agg [V.int IntKind.i64 i3, V.sl o1 b2 n1 x1, V.int IntKind.u64 i4], V.int IntKind.i64 i2] = some (V.tup [V.bool b4, V.int IntKind.i64 i8]))
    (c3 : callP (evalFn Try.prog Try.cfg (k + 14)) 32 [V.agg [V.int IntKind.i64 i3, V.sl o1 b2 n1 x1, V.int IntKind.u64 i4]] = some (V.bool b5))
    (c4 : (!b5) = false)
    (c5 : decide (i2 < 0) = false)
    (c6 : decide (i3 ≤ i2) = true)
    (c7 : callP (evalFn Try.prog Try.cfg (k + 14)) 35 [] = some (V.bool b6))
    (c8 : b6 = true)
    (c9 : decide (i7 = 2) = true)
    (c10 : decide (i8 = 2) = true)
    (c11 : (!b4) = false) :
    callP (evalFn Try.prog Try.cfg (k + 15)) 8 [V.agg [V.int IntKind.i64 i0, V.sl o0 b0 n0 x0, V.int IntKind.u64 i1], V.int IntKind.i64 i2, V.bool b1] = some (V.bool false) :=
  byF (k := k) (d := 15) [Hn.call 13 (V.agg [V.int IntKind.i64 i3, V.sl o1 b2 n1 x1, V.int IntKind.u64 i4]), Hn.call 18 (V.tup [V.agg [V.int IntKind.i64 i5, V.sl o2 b3 n2 x2, V.int IntKind.u64 i6], V.int IntKind.i64 i7]), Hn.call 24 (V.tup [V.bool b4, V.int IntKind.i64 i8]), Hn.call 29 (V.bool b5), Hn.br 27 false, Hn.br 34 false, Hn.br 31 true, Hn.call 42 (V.bool b6), Hn.br 43 true, Hn.br 48 true, Hn.br 53 true, Hn.br 57 false] (And.intro c0 (And.intro c1 (And.intro c2 (And.intro c3 (And.intro c4 (And.intro c5 (And.intro c6 (And.intro c7 (And.intro c8 (And.intro c9 (And.intro c10 (And.intro c11 trivial)))))))))))) (by kernel_rfl)
theorem P8_12 (i0 : Int) (i1 : Int) (i2 : Int) (i3 : Int) (i4 : Int) (i5 : Int) (i6 : Int) (i7 : Int) (i8 : Int) (b0 : Bool) (b1 : Bool) (b2 : Bool) (b3 : Bool) (b4 : Bool) (b5 : Bool) (b6 : Bool) (x0 : List V) (x1 : List V) (x2 : List V) (o0 : Option Bool) (o1 : Option Bool) (o2 : Option Bool) (n0 : Nat) (n1 : Nat) (n2 : Nat) (k : Nat)
    (c0 : callP (evalFn Try.prog Try.cfg (k + 14)) 29 [V.agg [V.int IntKind.i64 i0, V.sl o0 b0 n0 x0, V.int IntKind.u64 i1]] = some (V.agg [V.int IntKind.i64 i3, V.sl o1 b2 n1 x1, V.int IntKind.u64 i4]))
    (c1 : callP (evalFn Try.prog Try.cfg (k + 14)) 37 [V.agg [V.int IntKind.i64 i3, V.sl o1 b2 n1 x1, V.int IntKind.u64 i4], V.int IntKind.i64 i2, V.bool b1] = some (V.tup [V.agg [V.int IntKind.i64 i5, V.sl o2 b3 n2 x2, V.int IntKind.u64 i6], V.int IntKind.i64 i7]))
    (c2 : callP (evalFn Try.prog Try.cfg (k + 14)) 38 [V.agg [V.int IntKind.i64 i3, V.sl o1 b2 n1 x1, V.int IntKind.u64 i4], V.int IntKind.i64 i2] = some (V.tup [V.bool b4, V.int IntKind.i64 i8]))
    (c3 : callP (evalFn Try.prog Try.cfg (k + 14)) 32 [V.agg [V.int IntKind.i64 i3, V.sl o1 b2 n1 x1, V.int IntKind.u64 i4]] = some (V.bool b5))
    (c4 : (!b5) = false)
    (c5 : decide (i2 < 0) = false)
    (c6 : decide (i3 ≤ i2) = true)
    (c7 : callP (evalFn Try.prog Try.cfg (k + 14)) 35 [] = some (V.bool b6))
    (c8 : b6 = true)
    (c9 : decide (i7 = 2) = true)
    (c10 : decide (i8 = 2) = false) :
    callP (evalFn Try.prog Try.cfg (k + 15)) 8 [V.agg [V.int IntKind.i64 i0, V.sl o0 b0 n0 x0, V.int IntKind.u64 i1], V.int IntKind.i64 i2, V.bool b1] = some (V.bool false) :=
  byF (k := k) (d := 15) [Hn.call 13 (V.agg [V.int IntKind.i64 i3, V.sl o1 b2 n1 x1, V.int IntKind.u64 i4]), Hn.call 18 (V.tup [V.agg [V.int IntKind.i64 i5, V.sl o2 b3 n2 x2, V.int IntKind.u64 i6], V.int IntKind.i64 i7]), Hn.call 24 (V.tup [V.bool b4, V.int IntKind.i64 i8]), Hn.call 29 (V.bool b5), Hn.br 27 false, Hn.br 34 false, Hn.br 31 true, Hn.call 42 (V.bool b6), Hn.br 43 true, Hn.br 48 true, Hn.br 53 false] (And.intro c0 (And.intro c1 (And.intro c2 (And.intro c3 (And.intro c4 (And.intro c5 (And.intro c6 (And.intro c7 (And.intro c8 (And.intro c9 (And.intro c10 trivial))))))))))) (by kernel_rfl)
theorem P8_13 (i0 : Int) (i1 : Int) (i2 : Int) (i3 : Int) (i4 : Int) (i5 : Int) (i6 : Int) (i7 : Int) (i8 : Int) (b0 : Bool) (b1 : Bool) (b2 : Bool) (b3 : Bool) (b4 : Bool) (b5 : Bool) (b6 : Bool) (x0 : List V) (x1 : List V) (x2 : List V) (o0 : Option Bool) (o1 : Option Bool) (o2 : Option Bool) (n0 : Nat) (n1 : Nat) (n2 : Nat) (k : Nat)
    (c0 : callP (evalFn Try.prog Try.cfg (k + 14)) 29 [V.agg [V.int IntKind.i64 i0, V.sl o0 b0 n0 x0, V.int IntKind.u64 i1]] = some (V.agg [V.int IntKind.i64 i3, V.sl o1 b2 n1 x1, V.int IntKind.u64 i4]))
    (c1 : callP (evalFn Try.prog Try.cfg (k + 14)) 37 [V.agg [V.int IntKind.i64 i3, V.sl o1 b2 n1 x1, V.int IntKind.u64 i4], V.int IntKind.i64 i2, V.bool b1] = some (V.tup [V.agg [V.int IntKind.i64 i5, V.sl o2 b3 n2 x2, V.int IntKind.u64 i6], V.int IntKind.i64 i7]))
    (c2 : callP (evalFn Try.prog Try.cfg (k + 14)) 38 [V.agg [V.int IntKind.i64 i3, V.sl o1 b2 n1 x1, V.int IntKind.u64 i4], V.int IntKind.i64 i2] = some (V.tup [V.bool b4, V.int IntKind.i64 i8]))
    (c3 : callP (evalFn Try.prog Try.cfg (k + 14)) 32 [V.agg [V.int IntKind.i64 i3, V.sl o1 b2 n1 x1, V.int IntKind.u64 i4]] = some (V.bool b5))
    (c4 : (!b5) = false)
    (c5 : decide (i2 < 0) = false)
    (c6 : decide (i3 ≤ i2) = true)
    (c7 : callP (evalFn Try.prog Try.cfg (k + 14)) 35 [] = some (V.bool b6))
    (c8 : b6 = true)
    (c9 : decide (i7 = 2) = false) :
    callP (evalFn Try.prog Try.cfg (k + 15)) 8 [V.agg [V.int IntKind.i64 i0, V.sl o0 b0 n0 x0, V.int IntKind.u64 i1], V.int IntKind.i64 i2, V.bool b1] = some (V.bool false) :=
  byF (k := k) (d := 15) [Hn.call 13 (V.agg [V.int IntKind.i64 i3, V.sl o1 b2 n1 x1, V.int IntKind.u64 i4]), Hn.call 18 (V.tup [V.agg [V.int IntKind.i64 i5, V.sl o2 b3 n2 x2, V.int IntKind.u64 i6], V.int IntKind.i64 i7]), Hn.call 24 (V.tup [V.bool b4, V.int IntKind.i64 i8]), Hn.call 29 (V.bool b5), Hn.br 27 false, Hn.br 34 false, Hn.br 31 true, Hn.call 42 (V.bool b6), Hn.br 43 true, Hn.br 48 false] (And.intro c0 (And.intro c1 (And.intro c2 (And.intro c3 (And.intro c4 (And.intro c5 (And.intro c6 (And.intro c7 (And.intro c8 (And.intro c9 trivial)))))))))) (by kernel_rfl)
theorem P8_14 (i0 : Int) (i1 : Int) (i2 : Int) (i3 : Int) (i4 : Int) (i5 : Int) (i6 : Int) (i7 : Int) (i8 : Int) (b0 : Bool) (b1 : Bool) (b2 : Bool) (b3 : Bool) (b4 : Bool) (b5 : Bool) (b6 : Bool) (x0 : List V) (x1 : List V) (x2 : List V) (o0 : Option Bool) (o1 : Option Bool) (o2 : Option Bool) (n0 : Nat) (n1 : Nat) (n2 : Nat) (k : Nat)
    (c0 : callP (evalFn Try.prog Try.cfg (k + 14)) 29 [V.agg [V.int IntKind.i64 i0, V.sl o0 b0 n0 x0, V.int IntKind.u64 i1]] = some (V.agg [V.int IntKind.i64 i3, V.sl o1 b2 n1 x1, V.int IntKind.u64 i4]))
    (c1 : callP (evalFn Try.prog Try.cfg (k + 14)) 37 [V.agg [V.int IntKind.i64 i3, V.sl o1 b2 n1 x1, V.int IntKind.u64 i4], V.int IntKind.i64 i2, V.bool b1] = some (V.tup [V.agg [V.int IntKind.i64 i5, V.sl o2 b3 n2 x2, V.int IntKind.u64 i6], V.int IntKind.i64 i7]))
    (c2 : callP (evalFn Try.prog Try.cfg (k + 14)) 38 [V.agg [V.int IntKind.i64 i3, V.sl o1 b2 n1 x1, V.int IntKind.u64 i4], V.int IntKind.i64 i2] = some (V.tup [V.bool b4, V.int IntKind.i64 i8]))
    (c3 : callP (evalFn Try.prog Try.cfg (k + 14)) 32 [V.agg [V.int IntKind.i64 i3, V.sl o1 b2 n1 x1, V.int IntKind.u64 i4]] = some (V.bool b5))
    (c4 : (!b5) = false)
    (c5 : decide (i2 < 0) = false)
    (c6 : decide (i3 ≤ i2) = true)
    (c7 : callP (evalFn Try.prog Try.cfg (k + 14)) 35 [] = some (V.bool b6))
    (c8 : b6 = false) :
    callP (evalFn Try.prog Try.cfg (k + 15)) 8 [V.agg [V.int IntKind.i64 i0, V.sl o0 b0 n0 x0, V.int IntKind.u64 i1], V.int IntKind.i64 i2, V.bool b1] = some (V.bool false) :=
  byF (k := k) (d := 15) [Hn.call 13 (V.agg [V.int IntKind.i64 i3, V.sl o1 b2 n1 x1, V.int IntKind.u64 i4]), Hn.call 18 (V.tup [V.agg [V.int IntKind.i64 i5, V.sl o2 b3 n2 x2, V.int IntKind.u64 i6], V.int IntKind.i64 i7]), Hn.call 24 (V.tup [V.bool b4, V.int IntKind.i64 i8]), Hn.call 29 (V.bool b5), Hn.br 27 false, Hn.br 34 false, Hn.br 31 true, Hn.call 42 (V.bool b6), Hn.br 43 false] (And.intro c0 (And.intro c1 (And.intro c2 (And.intro c3 (And.intro c4 (And.intro c5 (And.intro c6 (And.intro c7 (And.intro c8 trivial))))))))) (by kernel_rfl)
theorem P8_15 (i0 : Int) (i1 : Int) (i2 : Int) (i3 : Int) (i4 : Int) (i5 : Int) (i6 : Int) (i7 : Int) (i8 : Int) (i9 : Int) (i10 : Int) (b0 : Bool) (b1 : Bool) (b2 : Bool) (b3 : Bool) (b4 : Bool) (b5 : Bool) (b6 : Bool) (b7 : Bool) (b8 : Bool) (b9 : Bool) (x0 : List V) (x1 : List V) (x2 : List V) (x3 : List V) (o0 : Option Bool) (o1 : Option Bool) (o2 : Option Bool) (o3 : Option Bool) (n0 : Nat) (n1 : Nat) (n2 : Nat) (n3 : Nat) (k : Nat)
    (c0 : callP (evalFn Try.prog Try.cfg (k + 14)) 29 [V.agg [V.int IntKind.i64 i0, V.sl o0 b0 n0 x0, V.int IntKind.u64 i1]] = some (V.agg [V.int IntKind.i64 i3, V.sl o1 b2 n1 x1, V.int IntKind.u64 i4]))
    (c1 : callP (evalFn Try.prog Try.cfg (k + 14)) 37 [V.agg [V.int IntKind.i64 i3, V.sl o1 b2 n1 x1, V.int IntKind.u64 i4], V.int IntKind.i64 i2, V.bool b1] = some (V.tup [V.agg [V.int IntKind.i64 i5, V.sl o2 b3 n2 x2, V.int IntKind.u64 i6], V.int IntKind.i64 i7]))
    (c2 : callP (evalFn Try.prog Try.cfg (k + 14)) 38 [V.agg [V.int IntKind.i64 i3, V.sl o1 b2 n1 x1, V.int IntKind.u64 i4], V.int IntKind.i64 i2] = some (V.tup [V.bool b4, V.int IntKind.i64 i8]))
    (c3 : callP (evalFn Try.prog Try.cfg (k + 14)) 32 [V.agg [V.int IntKind.i64 i3, V.sl o1 b2 n1 x1, V.int IntKind.u64 i4]] = some (V.bool b5))
    (c4 : (!b5) = false)
    (c5 : decide (i2 < 0) = false)
    (c6 : decide (i3 ≤ i2) = false)
    (c7 : callP (evalFn Try.prog Try.cfg (k + 14)) 35 [] = some (V.bool b6))
    (c8 : b6 = true)
    (c9 : decide (i7 = 0) = true)
    (c10 : decide (i8 = 0) = true)
    (c11 : callP (evalFn Try.prog Try.cfg (k + 14)) 39 [V.agg [V.int IntKind.i64 i3, V.sl o1 b2 n1 x1, V.int IntKind.u64 i4], V.int IntKind.i64 i2] = some (V.bool b7))
    (c12 : decide (b4 = b7) = true)
    (c13 : callP (evalFn Try.prog Try.cfg (k + 14)) 40 [V.agg [V.int IntKind.i64 i3, V.sl o1 b2 n1 x1, V.int IntKind.u64 i4], V.int IntKind.i64 i2, V.bool b1] = some (V.agg [V.int IntKind.i64 i9, V.sl o3 b8 n3 x3, V.int IntKind.u64 i10]))
    (c14 : callP (evalFn Try.prog Try.cfg (k + 14)) 34 [V.agg [V.int IntKind.i64 i5, V.sl o2 b3 n2 x2, V.int IntKind.u64 i6], V.agg [V.int IntKind.i64 i9, V.sl o3 b8 n3 x3, V.int IntKind.u64 i10]] = some (V.bool b9)) :
    callP (evalFn Try.prog Try.cfg (k + 15)) 8 [V.agg [V.int IntKind.i64 i0, V.sl o0 b0 n0 x0, V.int IntKind.u64 i1], V.int IntKind.i64 i2, V.bool b1] = some (V.bool b9) :=
  byF (k := k) (d := 15) [Hn.call 13 (V.agg [V.int IntKind.i64 i3, V.sl o1 b2 n1 x1, V.int IntKind.u64 i4]), Hn.call 18 (V.tup [V.agg [V.int IntKind.i64 i5, V.sl o2 b3 n2 x2, V.int IntKind.u64 i6], V.int IntKind.i64 i7]), Hn.call 24 (V.tup [V.bool b4, V.int IntKind.i64 i8]), Hn.call 29 (V.bool b5), Hn.br 27 false, Hn.br 34 false, Hn.br 31 false, Hn.call 62 (V.bool b6), Hn.br 63 true, Hn.br 67 true, Hn.br 71 true, Hn.call 75 (V.bool b7), Hn.br 78 true, Hn.call 83 (V.agg [V.int IntKind.i64 i9, V.sl o3 b8 n3 x3, V.int IntKind.u64 i10]), Hn.call 84 (V.bool b9)] (And.intro c0 (And.intro c1 (And.intro c2 (And.intro c3 (And.intro c4 (And.intro c5 (And.intro c6 (And.intro c7 (And.intro c8 (And.intro c9 (And.intro c10 (And.intro c11 (And.intro c12 (And.intro c13 (And.intro c14 trivial))))))))))))))) (by kernel_rfl)
theorem P8_16 (i0 : Int) (i1 : Int) (i2 : Int) (i3 : Int) (i4 : Int) (i5 : Int) (i6 : Int) (i7 : Int) (i8 : Int) (b0 : Bool) (b1 : Bool) (b2 : Bool) (b3 : Bool) (b4 : Bool) (b5 : Bool) (b6 : Bool) (b7 : Bool) (x0 : List V) (x1 : List V) (x2 : List V) (o0 : Option Bool) (o1 : Option Bool) (o2 : Option Bool) (n0 : Nat) (n1 : Nat) (n2 : Nat) (k : Nat)
    (c0 : callP (evalFn Try.prog Try.cfg (k + 14)) 29 [V.agg [V.int IntKind.i64 i0, V.sl o0 b0 n0 x0, V.int IntKind.u64 i1]] = some (V.agg [V.int IntKind.i64 i3, V.sl o1 b2 n1 x1, V.int IntKind.u64 i4]))
    (c1 : callP (evalFn Try.prog Try.cfg (k + 14)) 37 [V.agg [V.int IntKind.i64 i3, V.sl o1 b2 n1 x1, V.int IntKind.u64 i4], V.int IntKind.i64 i2, V.bool b1] = some (V.tup [V.agg [V.int IntKind.i64 i5, V.sl o2 b3 n2 x2, V.int IntKind.u64 i6], V.int IntKind.i64 i7]))
    (c2 : callP (evalFn Try.prog Try.cfg (k + 14)) 38 [V.agg [V.int IntKind.i64 i3, V.sl o1 b2 n1 x1, V.int IntKind.u64 i4], V.int IntKind.i64 i2] = some (V.tup [V.bool b4, V.int IntKind.i64 i8]))
    (c3 : callP (evalFn Try.prog Try.cfg (k + 14)) 32 [V.agg [V.int IntKind.i64 i3, V.sl o1 b2 n1 x1, V.int IntKind.u64 i4]] = some (V.bool b5))
    (c4 : (!b5) = false)
    (c5 : decide (i2 < 0) = false)
    (c6 : decide (i3 ≤ i2) = false)
    (c7 : callP (evalFn Try.prog Try.cfg (k + 14)) 35 [] = some (V.bool b6))
    (c8 : b6 = true)
    (c9 : decide (i7 = 0) = true)
    (c10 : decide (i8 = 0) = true)
    (c11 : callP (evalFn Try.prog Try.cfg (k + 14)) 39 [V.agg [V.int IntKind.i64 i3, V.sl o1 b2 n1 x1, V.int IntKind.u64 i4], V.int IntKind.i64 i2] = some (V.bool b7))
    (c12 : decide (b4 = b7) = false) :
    callP (evalFn Try.prog Try.cfg (k + 15)) 8 [V.agg [V.int IntKind.i64 i0, V.sl o0 b0 n0 x0, V.int IntKind.u64 i1], V.int IntKind.i64 i2, V.bool b1] = some (V.bool false) :=
  byF (k := k) (d := 15) [Hn.call 13 (V.agg [V.int IntKind.i64 i3, V.sl o1 b2 n1 x1, V.int IntKind.u64 i4]), Hn.call 18 (V.tup [V.agg [V.int IntKind.i64 i5, V.sl o2 b3 n2 x2, V.int IntKind.u64 i6], V.int IntKind.i64 i7]), Hn.call 24 (V.tup [V.bool b4, V.int IntKind.i64 i8]), Hn.call 29 (V.bool b5), Hn.br 27 false, Hn.br 34 false, Hn.br 31 false, Hn.call 62 (V.bool b6), Hn.br 63 true, Hn.br 67 true, Hn.br 71 true, Hn.call 75 (V.bool b7), Hn.br 78 false] (And.intro c0 (And.intro c1 (And.intro c2 (And.intro c3 (And.intro c4 (And.intro c5 (And.intro c6 (And.intro c7 (And.intro c8 (And.intro c9 (And.intro c10 (And.intro c11 (And.intro c12 trivial))))))))))))) (by kernel_rfl)
theorem P8_17 (i0 : Int) (i1 : Int) (i2 : Int) (i3 : Int) (i4 : Int) (i5 : Int) (i6 : Int) (i7 : Int) (i8 : Int) (b0 : Bool) (b1 : Bool) (b2 : Bool) (b3 : Bool) (b4 : Bool) (b5 : Bool) (b6 : Bool) (x0 : List V) (x1 : List V) (x2 : List V) (o0 : Option Bool) (o1 : Option Bool) (o2 : Option Bool) (n0 : Nat) (n1 : Nat) (n2 : Nat) (k : Nat)
    (c0 : callP (evalFn Try.prog Try.cfg (k + 14)) 29 [V.agg [V.int IntKind.i64 i0, V.sl o0 b0 n0 x0, V.int IntKind.u64 i1]] = some (V.agg [V.int IntKind.i64 i3, V.sl o1 b2 n1 x1, V.int IntKind.u64 i4]))
    (c1 : callP (evalFn Try.prog Try.cfg (k + 14)) 37 [V.agg [V.int IntKind.i64 i3, V.sl o1 b2 n1 x1, V.int IntKind.u64 i4], V.int IntKind.i64 i2, V.bool b1] = some (V.tup [V.agg [V.int IntKind.i64 i5, V.sl o2 b3 n2 x2, V.int IntKind.u64 i6], V.int IntKind.i64 i7]))
    (c2 : callP (evalFn Try.prog Try.cfg (k + 14)) 38 [V.agg [V.int IntKind.i64 i3, V.sl o1 b2 n1 x1, V.int IntKind.u64 i4], V.int IntKind.i64 i2] = some (V.tup [V.bool b4, V.int IntKind.i64 i8]))
    (c3 : callP (evalFn Try.prog Try.cfg (k + 14)) 32 [V.agg [V.int IntKind.i64 i3, V.sl o1 b2 n1 x1, V.int IntKind.u64 i4]] = some (V.bool b5))
    (c4 : (!b5) = false)
    (c5 : decide (i2 < 0) = false)
    (c6 : decide (i3 ≤ i2) = false)
    (c7 : callP (evalFn Try.prog Try.cfg (k + 14)) 35 [] = some (V.bool b6))
    (c8 : b6 = true)
    (c9 : decide (i7 = 0) = true)
    (c10 : decide (i8 = 0) = false) :
    callP (evalFn Try.prog Try.cfg (k + 15)) 8 [V.agg [V.int IntKind.i64 i0, V.sl o0 b0 n0 x0, V.int IntKind.u64 i1], V.int IntKind.i64 i2, V.bool b1] = some (V.bool false) :=
  byF (k := k) (d := 15) [Hn.call 13 (V.agg [V.int IntKind.i64 i3, V.sl o1 b2 n1 x1, V.int IntKind.u64 i4]), Hn.call 18 (V.tup [V.agg [V.int IntKind.i64 i5, V.sl o2 b3 n2 x2, V.int IntKind.u64 i6], V.int IntKind.i64 i7]), Hn.call 24 (V.tup [V.bool b4, V.int IntKind.i64 i8]), Hn.call 29 (V.bool b5), Hn.br 27 false, Hn.br 34 false, Hn.br 31 false, Hn.call 62 (V.bool b6), Hn.br 63 true, Hn.br 67 true, Hn.br 71 false] (And.intro c0 (And.intro c1 (And.intro c2 (And.intro c3 (And.intro c4 (And.intro c5 (And.intro c6 (And.intro c7 (And.intro c8 (And.intro c9 (And.intro c10 trivial))))))))))) (by kernel_rfl)
theorem P8_18 (i0 : Int) (i1 : Int) (i2 : Int) (i3 : Int) (i4 : Int) (i5 : Int) (i6 : Int) (i7 : Int) (i8 : Int) (b0 : Bool) (b1 : Bool) (b2 : Bool) (b3 : Bool) (b4 : Bool) (b5 : Bool) (b6 : Bool) (x0 : List V) (x1 : List V) (x2 : List V) (o0 : Option Bool) (o1 : Option Bool) (o2 : Option Bool) (n0 : Nat) (n1 : Nat) (n2 : Nat) (k : Nat)
    (c0 : callP (evalFn Try.prog Try.cfg (k + 14)) 29 [V.agg [V.int IntKind.i64 i0, V.sl o0 b0 n0 x0, V.int IntKind.u64 i1]] = some (V.agg [V.int IntKind.i64 i3, V.sl o1 b2 n1 x1, V.int IntKind.u64 i4]))
    (c1 : callP (evalFn Try.prog Try.cfg (k + 14)) 37 [V.agg [V.int IntKind.i64 i3, V.sl o1 b2 n1 x1, V.int IntKind.u64 i4], V.int IntKind.i64 i2, V.bool b1] = some (V.tup [V.agg [V.int IntKind.i64 i5, V.sl o2 b3 n2 x2, V.int IntKind.u64 i6], V.int IntKind.i64 i7]))
    (c2 : callP (evalFn Try.prog Try.cfg (k + 14)) 38 [V.agg [V.int IntKind.i64 i3, V.sl o1 b2 n1 x1, V.int IntKind.u64 i4], V.int IntKind.i64 i2] = some (V.tup [V.bool b4, V.int IntKind.i64 i8]))
    (c3 : callP (evalFn Try.prog Try.cfg (k + 14)) 32 [V.agg [V.int IntKind.i64 i3, V.sl o1 b2 n1 x1, V.int IntKind.u64 i4]] = some (V.bool b5))
    (c4 : (!b5) = false)
    (c5 : decide (i2 < 0) = false)
    (c6 : decide (i3 ≤ i2) = false)
    (c7 : callP (evalFn Try.prog Try.cfg (k + 14)) 35 [] = some (V.bool b6))
    (c8 : b6 = true)
    (c9 : decide (i7 = 0) = false) :
    callP (evalFn Try.prog Try.cfg (k + 15)) 8 [V.agg [V.int IntKind.i64 i0, V.sl o0 b0 n0 x0, V.int IntKind.u64 i1], V.int IntKind.i64 i2, V.bool b1] = some (V.bool false) :=
  byF (k := k) (d := 15) [Hn.call 13 (V.agg [V.int IntKind.i64 i3, V.sl o1 b2 n1 x1, V.int IntKind.u64 i4]), Hn.call 18 (V.tup [V.agg [V.int IntKind.i64 i5, V.sl o2 b3 n2 x2, V.int IntKind.u64 i6], V.int IntKind.i64 i7]), Hn.call 24 (V.tup [V.bool b4, V.int IntKind.i64 i8]), Hn.call 29 (V.bool b5), Hn.br 27 false, Hn.br 34 false, Hn.br 31 false, Hn.call 62 (V.bool b6), Hn.br 63 true, Hn.br 67 false] (And.intro c0 (And.intro c1 (And.intro c2 (And.intro c3 (And.intro c4 (And.intro c5 (And.intro c6 (And.intro c7 (And.intro c8 (And.intro c9 trivial)))))))))) (by kernel_rfl)
theorem P8_19 (i0 : Int) (i1 : Int) (i2 : Int) (i3 : Int) (i4 : Int) (i5 : Int) (i6 : Int) (i7 : Int) (i8 : Int) (b0 : Bool) (b1 : Bool) (b2 : Bool) (b3 : Bool) (b4 : Bool) (b5 : Bool) (b6 : Bool) (x0 : List V) (x1 : List V) (x2 : List V) (o0 : Option Bool) (o1 : Option Bool) (o2 : Option Bool) (n0 : Nat) (n1 : Nat) (n2 : Nat) (k : Nat)
    (c0 : callP (evalFn Try.prog Try.cfg (k + 14)) 29 [V.agg [V.int IntKind.i64 i0, V.sl o0 b0 n0 x0, V.int IntKind.u64 i1]] = some (V.agg [V.int IntKind.i64 i3, V.sl o1 b2 n1 x1, V.int IntKind.u64 i4]))
    (c1 : callP (evalFn Try.prog Try.cfg (k + 14)) 37 [V.agg [V.int IntKind.i64 i3, V.sl o1 b2 n1 x1, V.int IntKind.u64 i4], V.int IntKind.i64 i2, V.bool b1] = some (V.tup [V.agg [V.int IntKind.i64 i5, V.sl o2 b3 n2 x2, V.int IntKind.u64 i6], V.int IntKind.i64 i7]))
    (c2 : callP (evalFn Try.prog Try.cfg (k + 14)) 38 [V.agg [V.int IntKind.i64 i3, V.sl o1 b2 n1 x1, V.int IntKind.u64 i4], V.int IntKind.i64 i2] = some (V.tup [V.bool b4, V.int IntKind.i64 i8]))
    (c3 : callP (evalFn Try.prog Try.cfg (k + 14)) 32 [V.agg [V.int IntKind.i64 i3, V.sl o1 b2 n1 x1, V.int IntKind.u64 i4]] = some (V.bool b5))
    (c4 : (!b5) = false)
    (c5 : decide (i2 < 0) = false)
    (c6 : decide (i3 ≤ i2) = false)
    (c7 : callP (evalFn Try.prog Try.cfg (k + 14)) 35 [] = some (V.bool b6))
    (c8 : b6 = false) :
    callP (evalFn Try.prog Try.cfg (k + 15)) 8 [V.agg [V.int IntKind.i64 i0, V.sl o0 b0 n0 x0, V.int IntKind.u64 i1], V.int IntKind.i64 i2, V.bool b1] = some (V.bool false) :=
  byF (k := k) (d := 15) [Hn.call 13 (V.agg [V.int IntKind.i64 i3, V.sl o1 b2 n1 x1, V.int IntKind.u64 i4]), Hn.call 18 (V.tup [V.agg [V.int IntKind.i64 i5, V.sl o2 b3 n2 x2, V.int IntKind.u64 i6], V.int IntKind.i64 i7]), Hn.call 24 (V.tup [V.bool b4, V.int IntKind.i64 i8]), Hn.call 29 (V.bool b5), Hn.br 27 false, Hn.br 34 false, Hn.br 31 false, Hn.call 62 (V.bool b6), Hn.br 63 false] (And.intro c0 (And.intro c1 (And.intro c2 (And.intro c3 (And.intro c4 (And.intro c5 (And.intro c6 (And.intro c7 (And.intro c8 trivial))))))))) (by kernel_rfl)
def F8 (k : Nat) (i0 : Int) (o0 : Option Bool) (b0 : Bool) (n0 : Nat) (x0 : List V) (i1 : Int) (i2 : Int) (b1 : Bool) : Option (Bool) :=
  ((F29 (k + 11) (i0) (o0) (b0) (n0) (x0) (i1)).bind fun (i3, o1, b2, n1, x1, i4) => ((F37 (k + 2) (i3) (o1) (b2) (n1) (x1) (i4) (i2) (b1)).bind fun (i5, o2, b3, n2, x2, i6, i7) => ((F38 (k + 2) (i3) (o1) (b2) (n1) (x1) (i4) (i2)).bind fun (b4, i8) => ((F32 (k + 5) (i3) (o1) (b2) (n1) (x1) (i4)).bind fun b5 => (bif !b5 then ((F35 (k + 2)).bind fun b6 => (bif b6 then (bif decide (i7 = 1) then (bif decide (i8 = 1) then (bif !b4 then ((F34 (k + 11) (i5) (o2) (b3) (n2) (x2) (i6) (0) (some true) (true) (0) ([]) (0)).bind fun b7 => (some (b7))) else (some (false))) else (some (false))) else (some (false))) else (some (false)))) else (bif decide (i2 < 0) then ((F35 (k + 2)).bind fun b6 => (bif b6 then (bif decide (i7 = 2) then (bif decide (i8 = 2) then (bif !b4 then ((F34 (k + 11) (i5) (o2) (b3) (n2) (x2) (i6) (0) (some true) (true) (0) ([]) (0)).bind fun b7 => (some (b7))) else (some (false))) else (some (false))) else (some (false))) else (some (false)))) else (bif decide (i3 ≤ i2) then ((F35 (k + 2)).bind fun b6 => (bif b6 then (bif decide (i7 = 2) then (bif decide (i8 = 2) then (bif !b4 then ((F34 (k + 11) (i5) (o2) (b3) (n2) (x2) (i6) (0) (some true) (true) (0) ([]) (0)).bind fun b7 => (some (b7))) else (some (false))) else (some (false))) else (some (false))) else (some (false)))) else ((F35 (k + 2)).bind fun b6 => (bif b6 then (bif decide (i7 = 0) then (bif decide (i8 = 0) then ((F39 (k + 8) (i3) (o1) (b2) (n1) (x1) (i4) (i2)).bind fun b7 => (bif decide (b4 = b7) then ((F40 (k + 2) (i3) (o1) (b2) (n1) (x1) (i4) (i2) (b1)).bind fun (i9, o3, b8, n3, x3, i10) => ((F34 (k + 11) (i5) (o2) (b3) (n2) (x2) (i6) (i9) (o3) (b8) (n3) (x3) (i10)).bind fun b9 => (some (b9)))) else (some (false)))) else (some (false))) else (some (false))) else (some (false)))))))))))
theorem F8_ok {i0 : Int} {o0 : Option Bool} {b0 : Bool} {n0 : Nat} {x0 : List V} {i1 : Int} {i2 : Int} {b1 : Bool} {k : Nat} {r : Bool} (h : F8 k i0 o0 b0 n0 x0 i1 i2 b1 = some r) :
    callP (evalFn Try.prog Try.cfg (k + 15)) 8 [V.agg [V.int IntKind.i64 i0, V.sl o0 b0 n0 x0, V.int IntKind.u64 i1], V.int IntKind.i64 i2, V.bool b1] = some (V.bool r) := by
  unfold F8 at h
  obtain ⟨⟨i3, o1, b2, n1, x1, i4⟩, e0, h⟩ := Option.bind_eq_some_iff.1 h
  obtain ⟨⟨i5, o2, b3, n2, x2, i6, i7⟩, e1, h⟩ := Option.bind_eq_some_iff.1 h
  obtain ⟨⟨b4, i8⟩, e2, h⟩ := Option.bind_eq_some_iff.1 h
  obtain ⟨b5, e3, h⟩ := Option.bind_eq_some_iff.1 h
  rcases cond_elim h with ⟨e4, h⟩ | ⟨e4, h⟩
  ·
    obtain ⟨b6, e5, h⟩ := Option.bind_eq_some_iff.1 h
    rcases cond_elim h with ⟨e6, h⟩ | ⟨e6, h⟩
    ·
      rcases cond_elim h with ⟨e7, h⟩ | ⟨e7, h⟩
      ·
        rcases cond_elim h with ⟨e8, h⟩ | ⟨e8, h⟩
        ·
          rcases cond_elim h with ⟨e9, h⟩ | ⟨e9, h⟩
          ·
            obtain ⟨b7, e10, h⟩ := Option.bind_eq_some_iff.1 h
            have h := Option.some.inj h; subst h; exact P8_0 i0 i1 i2 i3 i4 i5 i6 i7 i8 b0 b1 b2 b3 b4 b5 b6 b7 x0 x1 x2 o0 o1 o2 n0 n1 n2 k (F29_ok e0) (F37_ok e1) (F38_ok e2) (F32_ok e3) e4 (F35_ok e5) e6 e7 e8 e9 (F34_ok e10)
          ·
            have h := Option.some.inj h; subst h; exact P8_1 i0 i1 i2 i3 i4 i5 i6 i7 i8 b0 b1 b2 b3 b4 b5 b6 x0 x1 x2 o0 o1 o2 n0 n1 n2 k (F29_ok e0) (F37_ok e1) (F38_ok e2) (F32_ok e3) e4 (F35_ok e5) e6 e7 e8 e9
        ·
          have h := Option.some.inj h; subst h; exact P8_2 i0 i1 i2 i3 i4 i5 i6 i7 i8 b0 b1 b2 b3 b4 b5 b6 x0 x1 x2 o0 o1 o2 n0 n1 n2 k (F29_ok e0) (F37_ok e1) (F38_ok e2) (F32_ok e3) e4 (F35_ok e5) e6 e7 e8
      ·
        have h := Option.some.inj h; subst h; exact P8_3 i0 i1 i2 i3 i4 i5 i6 i7 i8 b0 b1 b2 b3 b4 b5 b6 x0 x1 x2 o0 o1 o2 n0 n1 n2 k (F29_ok e0) (F37_ok e1) (F38_ok e2) (F32_ok e3) e4 (F35_ok e5) e6 e7
    ·
      have h := Option.some.inj h; subst h; exact P8_4 i0 i1 i2 i3 i4 i5 i6 i7 i8 b0 b1 b2 b3 b4 b5 b6 x0 x1 x2 o0 o1 o2 n0 n1 n2 k (F29_ok e0) (F37_ok e1) (F38_ok e2) (F32_ok e3) e4 (F35_ok e5) e6
  ·
    rcases cond_elim h with ⟨e5, h⟩ | ⟨e5, h⟩
    ·
      obtain ⟨b6, e6, h⟩ := Option.bind_eq_some_iff.1 h
      rcases cond_elim h with ⟨e7, h⟩ | ⟨e7, h⟩
      ·
        rcases cond_elim h with ⟨e8, h⟩ | ⟨e8, h⟩
        ·
          rcases cond_elim h with ⟨e9, h⟩ | ⟨e9, h⟩
          ·
            rcases cond_elim h with ⟨e10, h⟩ | ⟨e10, h⟩
            ·
              obtain ⟨b7, e11, h⟩ := Option.bind_eq_some_iff.1 h
              have h := Option.some.inj h; subst h; exact P8_5 i0 i1 i2 i3 i4 i5 i6 i7 i8 b0 b1 b2 b3 b4 b5 b6 b7 x0 x1 x2 o0 o1 o2 n0 n1 n2 k (F29_ok e0) (F37_ok e1) (F38_ok e2) (F32_ok e3) e4 e5 (F35_ok e6) e7 e8 e9 e10 (F34_ok e11)
            ·
              have h := Option.some.inj h; subst h; exact P8_6 i0 i1 i2 i3 i4 i5 i6 i7 i8 b0 b1 b2 b3 b4 b5 b6 x0 x1 x2 o0 o1 o2 n0 n1 n2 k (F29_ok e0) (F37_ok e1) (F38_ok e2) (F32_ok e3) e4 e5 (F35_ok e6) e7 e8 e9 e10
          ·
            have h := Option.some.inj h; subst h; exact P8_7 i0 i1 i2 i3 i4 i5 i6 i7 i8 b0 b1 b2 b3 b4 b5 b6 x0 x1 x2 o0 o1 o2 n0 n1 n2 k (F29_ok e0) (F37_ok e1) (F38_ok e2) (F32_ok e3) e4 e5 (F35_ok e6) e7 e8 e9
        ·
          have h := Option.some.inj h; subst h; exact P8_8 i0 i1 i2 i3 i4 i5 i6 i7 i8 b0 b1 b2 b3 b4 b5 b6 x0 x1 x2 o0 o1 o2 n0 n1 n2 k (F29_ok e0) (F37_ok e1) (F38_ok e2) (F32_ok e3) e4 e5 (F35_ok e6) e7 e8
      ·
        have h := Option.some.inj h; subst h; exact P8_9 i0 i1 i2 i3 i4 i5 i6 i7 i8 b0 b1 b2 b3 b4 b5 b6 x0 x1 x2 o0 o1 o2 n0 n1 n2 k (F29_ok e0) (F37_ok e1) (F38_ok e2) (F32_ok e3) e4 e5 (F35_ok e6) e7
    ·
      rcases cond_elim h with ⟨e6, h⟩ | ⟨e6, h⟩
      ·
        obtain ⟨b6, e7, h⟩ := Option.bind_eq_some_iff.1 h
        rcases cond_elim h with ⟨e8, h⟩ | ⟨e8, h⟩
        ·
          rcases cond_elim h with ⟨e9, h⟩ | ⟨e9, h⟩
          ·
            rcases cond_elim h with ⟨e10, h⟩ | ⟨e10, h⟩
            ·
              rcases cond_elim h with ⟨e11, h⟩ | ⟨e11, h⟩
              ·
                obtain ⟨b7, e12, h⟩ := Option.bind_eq_some_iff.1 h
                have h := Option.some.inj h; subst h; exact P8_10 i0 i1 i2 i3 i4 i5 i6 i7 i8 b0 b1 b2 b3 b4 b5 b6 b7 x0 x1 x2 o0 o1 o2 n0 n1 n2 k (F29_ok e0) (F37_ok e1) (F38_ok e2) (F32_ok e3) e4 e5 e6 (F35_ok e7) e8 e9 e10 e11 (F34_ok e12)
              ·
                have h := Option.some.inj h; subst h; exact P8_11 i0 i1 i2 i3 i4 i5 i6 i7 i8 b0 b1 b2 b3 b4 b5 b6 x0 x1 x2 o0 o1 o2 n0 n1 n2 k (F29_ok e0) (F37_ok e1) (F38_ok e2) (F32_ok e3) e4 e5 e6 (F35_ok e7) e8 e9 e10 e11
            ·
              have h := Option.some.inj h; subst h; exact P8_12 i0 i1 i2 i3 i4 i5 i6 i7 i8 b0 b1 b2 b3 b4 b5 b6 x0 x1 x2 o0 o1 o2 n0 n1 n2 k (F29_ok e0) (F37_ok e1) (F38_ok e2) (F32_ok e3) e4 e5 e6 (F35_ok e7) e8 e9 e10
          ·
            have h := Option.some.inj h; subst h; exact P8_13 i0 i1 i2 i3 i4 i5 i6 i7 i8 b0 b1 b2 b3 b4 b5 b6 x0 x1 x2 o0 o1 o2 n0 n1 n2 k (F29_ok e0) (F37_ok e1) (F38_ok e2) (F32_ok e3) e4 e5 e6 (F35_ok e7) e8 e9
        ·
          have h := Option.some.inj h; subst h; exact P8_14 i0 i1 i2 i3 i4 i5 i6 i7 i8 b0 b1 b2 b3 b4 b5 b6 x0 x1 x2 o0 o1 o2 n0 n1 n2 k (F29_ok e0) (F37_ok e1) (F38_ok e2) (F32_ok e3) e4 e5 e6 (F35_ok e7) e8
      ·
        obtain ⟨b6, e7, h⟩ := Option.bind_eq_some_iff.1 h
        rcases cond_elim h with ⟨e8, h⟩ | ⟨e8, h⟩
        ·
          rcases cond_elim h with ⟨e9, h⟩ | ⟨e9, h⟩
          ·
            rcases cond_elim h with ⟨e10, h⟩ | ⟨e10, h⟩
            ·
              obtain ⟨b7, e11, h⟩ := Option.bind_eq_some_iff.1 h
              rcases cond_elim h with ⟨e12, h⟩ | ⟨e12, h⟩
              ·
                obtain ⟨⟨i9, o3, b8, n3, x3, i10⟩, e13, h⟩ := Option.bind_eq_some_iff.1 h
                obtain ⟨b9, e14, h⟩ := Option.bind_eq_some_iff.1 h
                have h := Option.some.inj h; subst h; exact P8_15 i0 i1 i2 i3 i4 i5 i6 i7 i8 i9 i10 b0 b1 b2 b3 b4 b5 b6 b7 b8 b9 x0 x1 x2 x3 o0 o1 o2 o3 n0 n1 n2 n3 k (F29_ok e0) (F37_ok e1) (F38_ok e2) (F32_ok e3) e4 e5 e6 (F35_ok e7) e8 e9 e10 (F39_ok e11) e12 (F40_ok e13) (F34_ok e14)
              ·
                have h := Option.some.inj h; subst h; exact P8_16 i0 i1 i2 i3 i4 i5 i6 i7 i8 b0 b1 b2 b3 b4 b5 b6 b7 x0 x1 x2 o0 o1 o2 n0 n1 n2 k (F29_ok e0) (F37_ok e1) (F38_ok e2) (F32_ok e3) e4 e5 e6 (F35_ok e7) e8 e9 e10 (F39_ok e11) e12
            ·
              have h := Option.some.inj h; subst h; exact P8_17 i0 i1 i2 i3 i4 i5 i6 i7 i8 b0 b1 b2 b3 b4 b5 b6 x0 x1 x2 o0 o1 o2 n0 n1 n2 k (F29_ok e0) (F37_ok e1) (F38_ok e2) (F32_ok e3) e4 e5 e6 (F35_ok e7) e8 e9 e10
          ·
            have h := Option.some.inj h; subst h; exact P8_18 i0 i1 i2 i3 i4 i5 i6 i7 i8 b0 b1 b2 b3 b4 b5 b6 x0 x1 x2 o0 o1 o2 n0 n1 n2 k (F29_ok e0) (F37_ok e1) (F38_ok e2) (F32_ok e3) e4 e5 e6 (F35_ok e7) e8 e9
        ·
          have h := Option.some.inj h; subst h; exact P8_19 i0 i1 i2 i3 i4 i5 i6 i7 i8 b0 b1 b2 b3 b4 b5 b6 x0 x1 x2 o0 o1 o2 n0 n1 n2 k (F29_ok e0) (F37_ok e1) (F38_ok e2) (F32_ok e3) e4 e5 e6 (F35_ok e7) e8
end Go.Proofs
