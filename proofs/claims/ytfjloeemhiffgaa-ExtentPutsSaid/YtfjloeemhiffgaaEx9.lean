/-
  What the law ExtentPuts answers, checked against the program.
-/
import Derived.Test.YtfjloeemhiffgaaExD
set_option linter.unusedVariables false
set_option maxHeartbeats 0
set_option maxRecDepth 100000
namespace Go.Proofs
open Go Go.Sym

theorem P9_0 (i0 : Int) (i1 : Int) (i2 : Int) (i3 : Int) (i4 : Int) (b0 : Bool) (b1 : Bool) (b2 : Bool) (b3 : Bool) (b4 : Bool) (x0 : List V) (x1 : List V) (x2 : List V) (o0 : Option Bool) (o1 : Option Bool) (o2 : Option Bool) (n0 : Nat) (n1 : Nat) (n2 : Nat) (k : Nat)
    (c0 : callP (evalFn Try.prog Try.cfg (k + 17)) 35 [V.sl o0 b0 n0 x0] = some (V.sl o1 b1 n1 x1))
    (c1 : callP (evalFn Try.prog Try.cfg (k + 17)) 36 [V.sl o1 b1 n1 x1, V.agg [V.int IntKind.u64 i0, V.int IntKind.u64 i1], V.int IntKind.i64 i2] = some (V.tup [V.sl o2 b2 n2 x2, V.int IntKind.i64 i3]))
    (c2 : callP (evalFn Try.prog Try.cfg (k + 17)) 37 [V.agg [V.int IntKind.u64 i0, V.int IntKind.u64 i1]] = some (V.int IntKind.i64 i4))
    (c3 : callP (evalFn Try.prog Try.cfg (k + 17)) 38 [V.sl o1 b1 n1 x1] = some (V.bool b3))
    (c4 : (!b3) = true)
    (c5 : callP (evalFn Try.prog Try.cfg (k + 17)) 39 [] = some (V.bool b4))
    (c6 : b4 = true)
    (c7 : decide (i3 = 1) = true) :
    callP (evalFn Try.prog Try.cfg (k + 18)) 9 [V.sl o0 b0 n0 x0, V.agg [V.int IntKind.u64 i0, V.int IntKind.u64 i1], V.int IntKind.i64 i2] = some (V.bool (decide ((↑x2.length : Int) = 0))) :=
  byF (k := k) (d := 18) [Hn.call 12 (V.sl o1 b1 n1 x1), Hn.call 17 (V.tup [V.sl o2 b2 n2 x2, V.int IntKind.i64 i3]), Hn.call 21 (V.int IntKind.i64 i4), Hn.call 23 (V.bool b3), Hn.br 25 true, Hn.call 35 (V.bool b4), Hn.br 36 true, Hn.br 41 true] (And.intro c0 (And.intro c1 (And.intro c2 (And.intro c3 (And.intro c4 (And.intro c5 (And.intro c6 (And.intro c7 trivial)))))))) (by kernel_rfl)
theorem P9_1 (i0 : Int) (i1 : Int) (i2 : Int) (i3 : Int) (i4 : Int) (b0 : Bool) (b1 : Bool) (b2 : Bool) (b3 : Bool) (b4 : Bool) (x0 : List V) (x1 : List V) (x2 : List V) (o0 : Option Bool) (o1 : Option Bool) (o2 : Option Bool) (n0 : Nat) (n1 : Nat) (n2 : Nat) (k : Nat)
    (c0 : callP (evalFn Try.prog Try.cfg (k + 17)) 35 [V.sl o0 b0 n0 x0] = some (V.sl o1 b1 n1 x1))
    (c1 : callP (evalFn Try.prog Try.cfg (k + 17)) 36 [V.sl o1 b1 n1 x1, V.agg [V.int IntKind.u64 i0, V.int IntKind.u64 i1], V.int IntKind.i64 i2] = some (V.tup [V.sl o2 b2 n2 x2, V.int IntKind.i64 i3]))
    (c2 : callP (evalFn Try.prog Try.cfg (k + 17)) 37 [V.agg [V.int IntKind.u64 i0, V.int IntKind.u64 i1]] = some (V.int IntKind.i64 i4))
    (c3 : callP (evalFn Try.prog Try.cfg (k + 17)) 38 [V.sl o1 b1 n1 x1] = some (V.bool b3))
    (c4 : (!b3) = true)
    (c5 : callP (evalFn Try.prog Try.cfg (k + 17)) 39 [] = some (V.bool b4))
    (c6 : b4 = true)
    (c7 : decide (i3 = 1) = false) :
    callP (evalFn Try.prog Try.cfg (k + 18)) 9 [V.sl o0 b0 n0 x0, V.agg [V.int IntKind.u64 i0, V.int IntKind.u64 i1], V.int IntKind.i64 i2] = some (V.bool false) :=
  byF (k := k) (d := 18) [Hn.call 12 (V.sl o1 b1 n1 x1), Hn.call 17 (V.tup [V.sl o2 b2 n2 x2, V.int IntKind.i64 i3]), Hn.call 21 (V.int IntKind.i64 i4), Hn.call 23 (V.bool b3), Hn.br 25 true, Hn.call 35 (V.bool b4), Hn.br 36 true, Hn.br 41 false] (And.intro c0 (And.intro c1 (And.intro c2 (And.intro c3 (And.intro c4 (And.intro c5 (And.intro c6 (And.intro c7 trivial)))))))) (by kernel_rfl)
theorem P9_2 (i0 : Int) (i1 : Int) (i2 : Int) (i3 : Int) (i4 : Int) (b0 : Bool) (b1 : Bool) (b2 : Bool) (b3 : Bool) (b4 : Bool) (x0 : List V) (x1 : List V) (x2 : List V) (o0 : Option Bool) (o1 : Option Bool) (o2 : Option Bool) (n0 : Nat) (n1 : Nat) (n2 : Nat) (k : Nat)
    (c0 : callP (evalFn Try.prog Try.cfg (k + 17)) 35 [V.sl o0 b0 n0 x0] = some (V.sl o1 b1 n1 x1))
    (c1 : callP (evalFn Try.prog Try.cfg (k + 17)) 36 [V.sl o1 b1 n1 x1, V.agg [V.int IntKind.u64 i0, V.int IntKind.u64 i1], V.int IntKind.i64 i2] = some (V.tup [V.sl o2 b2 n2 x2, V.int IntKind.i64 i3]))
    (c2 : callP (evalFn Try.prog Try.cfg (k + 17)) 37 [V.agg [V.int IntKind.u64 i0, V.int IntKind.u64 i1]] = some (V.int IntKind.i64 i4))
    (c3 : callP (evalFn Try.prog Try.cfg (k + 17)) 38 [V.sl o1 b1 n1 x1] = some (V.bool b3))
    (c4 : (!b3) = true)
    (c5 : callP (evalFn Try.prog Try.cfg (k + 17)) 39 [] = some (V.bool b4))
    (c6 : b4 = false) :
    callP (evalFn Try.prog Try.cfg (k + 18)) 9 [V.sl o0 b0 n0 x0, V.agg [V.int IntKind.u64 i0, V.int IntKind.u64 i1], V.int IntKind.i64 i2] = some (V.bool false) :=
  byF (k := k) (d := 18) [Hn.call 12 (V.sl o1 b1 n1 x1), Hn.call 17 (V.tup [V.sl o2 b2 n2 x2, V.int IntKind.i64 i3]), Hn.call 21 (V.int IntKind.i64 i4), Hn.call 23 (V.bool b3), Hn.br 25 true, Hn.call 35 (V.bool b4), Hn.br 36 false] (And.intro c0 (And.intro c1 (And.intro c2 (And.intro c3 (And.intro c4 (And.intro c5 (And.intro c6 trivial))))))) (by kernel_rfl)
theorem P9_3 (i0 : Int) (i1 : Int) (i2 : Int) (i3 : Int) (i4 : Int) (b0 : Bool) (b1 : Bool) (b2 : Bool) (b3 : Bool) (b4 : Bool) (x0 : List V) (x1 : List V) (x2 : List V) (o0 : Option Bool) (o1 : Option Bool) (o2 : Option Bool) (n0 : Nat) (n1 : Nat) (n2 : Nat) (k : Nat)
    (c0 : callP (evalFn Try.prog Try.cfg (k + 17)) 35 [V.sl o0 b0 n0 x0] = some (V.sl o1 b1 n1 x1))
    (c1 : callP (evalFn Try.prog Try.cfg (k + 17)) 36 [V.sl o1 b1 n1 x1, V.agg [V.int IntKind.u64 i0, V.int IntKind.u64 i1], V.int IntKind.i64 i2] = some (V.tup [V.sl o2 b2 n2 x2, V.int IntKind.i64 i3]))
    (c2 : callP (evalFn Try.prog Try.cfg (k + 17)) 37 [V.agg [V.int IntKind.u64 i0, V.int IntKind.u64 i1]] = some (V.int IntKind.i64 i4))
    (c3 : callP (evalFn Try.prog Try.cfg (k + 17)) 38 [V.sl o1 b1 n1 x1] = some (V.bool b3))
    (c4 : (!b3) = false)
    (c5 : decide (i2 < 0) = true)
    (c6 : callP (evalFn Try.prog Try.cfg (k + 17)) 39 [] = some (V.bool b4))
    (c7 : b4 = true)
    (c8 : decide (i3 = 1) = true) :
    callP (evalFn Try.prog Try.cfg (k + 18)) 9 [V.sl o0 b0 n0 x0, V.agg [V.int IntKind.u64 i0, V.int IntKind.u64 i1], V.int IntKind.i64 i2] = some (V.bool (decide ((↑x2.length : Int) = 0))) :=
  byF (k := k) (d := 18) [Hn.call 12 (V.sl o1 b1 n1 x1), Hn.call 17 (V.tup [V.sl o2 b2 n2 x2, V.int IntKind.i64 i3]), Hn.call 21 (V.int IntKind.i64 i4), Hn.call 23 (V.bool b3), Hn.br 25 false, Hn.br 29 true, Hn.call 35 (V.bool b4), Hn.br 36 true, Hn.br 41 true] (And.intro c0 (And.intro c1 (And.intro c2 (And.intro c3 (And.intro c4 (And.intro c5 (And.intro c6 (And.intro c7 (And.intro c8 trivial))))))))) (by kernel_rfl)
theorem P9_4 (i0 : Int) (i1 : Int) (i2 : Int) (i3 : Int) (i4 : Int) (b0 : Bool) (b1 : Bool) (b2 : Bool) (b3 : Bool) (b4 : Bool) (x0 : List V) (x1 : List V) (x2 : List V) (o0 : Option Bool) (o1 : Option Bool) (o2 : Option Bool) (n0 : Nat) (n1 : Nat) (n2 : Nat) (k : Nat)
    (c0 : callP (evalFn Try.prog Try.cfg (k + 17)) 35 [V.sl o0 b0 n0 x0] = some (V.sl o1 b1 n1 x1))
    (c1 : callP (evalFn Try.prog Try.cfg (k + 17)) 36 [V.sl o1 b1 n1 x1, V.agg [V.int IntKind.u64 i0, V.int IntKind.u64 i1], V.int IntKind.i64 i2] = some (V.tup [V.sl o2 b2 n2 x2, V.int IntKind.i64 i3]))
    (c2 : callP (evalFn Try.prog Try.cfg (k + 17)) 37 [V.agg [V.int IntKind.u64 i0, V.int IntKind.u64 i1]] = some (V.int IntKind.i64 i4))
    (c3 : callP (evalFn Try.prog Try.cfg (k + 17)) 38 [V.sl o1 b1 n1 x1] = some (V.bool b3))
    (c4 : (!b3) = false)
    (c5 : decide (i2 < 0) = true)
    (c6 : callP (evalFn Try.prog Try.cfg (k + 17)) 39 [] = some (V.bool b4))
    (c7 : b4 = true)
    (c8 : decide (i3 = 1) = false) :
    callP (evalFn Try.prog Try.cfg (k + 18)) 9 [V.sl o0 b0 n0 x0, V.agg [V.int IntKind.u64 i0, V.int IntKind.u64 i1], V.int IntKind.i64 i2] = some (V.bool false) :=
  byF (k := k) (d := 18) [Hn.call 12 (V.sl o1 b1 n1 x1), Hn.call 17 (V.tup [V.sl o2 b2 n2 x2, V.int IntKind.i64 i3]), Hn.call 21 (V.int IntKind.i64 i4), Hn.call 23 (V.bool b3), Hn.br 25 false, Hn.br 29 true, Hn.call 35 (V.bool b4), Hn.br 36 true, Hn.br 41 false] (And.intro c0 (And.intro c1 (And.intro c2 (And.intro c3 (And.intro c4 (And.intro c5 (And.intro c6 (And.intro c7 (And.intro c8 trivial))))))))) (by kernel_rfl)
theorem P9_5 (i0 : Int) (i1 : Int) (i2 : Int) (i3 : Int) (i4 : Int) (b0 : Bool) (b1 : Bool) (b2 : Bool) (b3 : Bool) (b4 : Bool) (x0 : List V) (x1 : List V) (x2 : List V) (o0 : Option Bool) (o1 : Option Bool) (o2 : Option Bool) (n0 : Nat) (n1 : Nat) (n2 : Nat) (k : Nat)
    (c0 : callP (evalFn Try.prog Try.cfg (k + 17)) 35 [V.sl o0 b0 n0 x0] = some (V.sl o1 b1 n1 x1))
    (c1 : callP (evalFn Try.prog Try.cfg (k + 17)) 36 [V.sl o1 b1 n1 x1, V.agg [V.int IntKind.u64 i0, V.int IntKind.u64 i1], V.int IntKind.i64 i2] = some (V.tup [V.sl o2 b2 n2 x2, V.int IntKind.i64 i3]))
    (c2 : callP (evalFn Try.prog Try.cfg (k + 17)) 37 [V.agg [V.int IntKind.u64 i0, V.int IntKind.u64 i1]] = some (V.int IntKind.i64 i4))
    (c3 : callP (evalFn Try.prog Try.cfg (k + 17)) 38 [V.sl o1 b1 n1 x1] = some (V.bool b3))
    (c4 : (!b3) = false)
    (c5 : decide (i2 < 0) = true)
    (c6 : callP (evalFn Try.prog Try.cfg (k + 17)) 39 [] = some (V.bool b4))
    (c7 : b4 = false) :
    callP (evalFn Try.prog Try.cfg (k + 18)) 9 [V.sl o0 b0 n0 x0, V.agg [V.int IntKind.u64 i0, V.int IntKind.u64 i1], V.int IntKind.i64 i2] = some (V.bool false) :=
  byF (k := k) (d := 18) [Hn.call 12 (V.sl o1 b1 n1 x1), Hn.call 17 (V.tup [V.sl o2 b2 n2 x2, V.int IntKind.i64 i3]), Hn.call 21 (V.int IntKind.i64 i4), Hn.call 23 (V.bool b3), Hn.br 25 false, Hn.br 29 true, Hn.call 35 (V.bool b4), Hn.br 36 false] (And.intro c0 (And.intro c1 (And.intro c2 (And.intro c3 (And.intro c4 (And.intro c5 (And.intro c6 (And.intro c7 trivial)))))))) (by kernel_rfl)
theorem P9_6 (i0 : Int) (i1 : Int) (i2 : Int) (i3 : Int) (i4 : Int) (b0 : Bool) (b1 : Bool) (b2 : Bool) (b3 : Bool) (b4 : Bool) (x0 : List V) (x1 : List V) (x2 : List V) (o0 : Option Bool) (o1 : Option Bool) (o2 : Option Bool) (n0 : Nat) (n1 : Nat) (n2 : Nat) (k : Nat)
    (c0 : callP (evalFn Try.prog Try.cfg (k + 17)) 35 [V.sl o0 b0 n0 x0] = some (V.sl o1 b1 n1 x1))
    (c1 : callP (evalFn Try.prog Try.cfg (k + 17)) 36 [V.sl o1 b1 n1 x1, V.agg [V.int IntKind.u64 i0, V.int IntKind.u64 i1], V.int IntKind.i64 i2] = some (V.tup [V.sl o2 b2 n2 x2, V.int IntKind.i64 i3]))
    (c2 : callP (evalFn Try.prog Try.cfg (k + 17)) 37 [V.agg [V.int IntKind.u64 i0, V.int IntKind.u64 i1]] = some (V.int IntKind.i64 i4))
    (c3 : callP (evalFn Try.prog Try.cfg (k + 17)) 38 [V.sl o1 b1 n1 x1] = some (V.bool b3))
    (c4 : (!b3) = false)
    (c5 : decide (i2 < 0) = false)
    (c6 : decide (2 < i2) = true)
    (c7 : callP (evalFn Try.prog Try.cfg (k + 17)) 39 [] = some (V.bool b4))
    (c8 : b4 = true)
    (c9 : decide (i3 = 1) = true) :
    callP (evalFn Try.prog Try.cfg (k + 18)) 9 [V.sl o0 b0 n0 x0, V.agg [V.int IntKind.u64 i0, V.int IntKind.u64 i1], V.int IntKind.i64 i2] = some (V.bool (decide ((↑x2.length : Int) = 0))) :=
  byF (k := k) (d := 18) [Hn.call 12 (V.sl o1 b1 n1 x1), Hn.call 17 (V.tup [V.sl o2 b2 n2 x2, V.int IntKind.i64 i3]), Hn.call 21 (V.int IntKind.i64 i4), Hn.call 23 (V.bool b3), Hn.br 25 false, Hn.br 29 false, Hn.br 32 true, Hn.call 35 (V.bool b4), Hn.br 36 true, Hn.br 41 true] (And.intro c0 (And.intro c1 (And.intro c2 (And.intro c3 (And.intro c4 (And.intro c5 (And.intro c6 (And.intro c7 (And.intro c8 (And.intro c9 trivial)))))))))) (by kernel_rfl)
theorem P9_7 (i0 : Int) (i1 : Int) (i2 : Int) (i3 : Int) (i4 : Int) (b0 : Bool) (b1 : Bool) (b2 : Bool) (b3 : Bool) (b4 : Bool) (x0 : List V) (x1 : List V) (x2 : List V) (o0 : Option Bool) (o1 : Option Bool) (o2 : Option Bool) (n0 : Nat) (n1 : Nat) (n2 : Nat) (k : Nat)
    (c0 : callP (evalFn Try.prog Try.cfg (k + 17)) 35 [V.sl o0 b0 n0 x0] = some (V.sl o1 b1 n1 x1))
    (c1 : callP (evalFn Try.prog Try.cfg (k + 17)) 36 [V.sl o1 b1 n1 x1, V.agg [V.int IntKind.u64 i0, V.int IntKind.u64 i1], V.int IntKind.i64 i2] = some (V.tup [V.sl o2 b2 n2 x2, V.int IntKind.i64 i3]))
    (c2 : callP (evalFn Try.prog Try.cfg (k + 17)) 37 [V.agg [V.int IntKind.u64 i0, V.int IntKind.u64 i1]] = some (V.int IntKind.i64 i4))
    (c3 : callP (evalFn Try.prog Try.cfg (k + 17)) 38 [V.sl o1 b1 n1 x1] = some (V.bool b3))
    (c4 : (!b3) = false)
    (c5 : decide (i2 < 0) = false)
    (c6 : decide (2 < i2) = true)
    (c7 : callP (evalFn Try.prog Try.cfg (k + 17)) 39 [] = some (V.bool b4))
    (c8 : b4 = true)
    (c9 : decide (i3 = 1) = false) :
    callP (evalFn Try.prog Try.cfg (k + 18)) 9 [V.sl o0 b0 n0 x0, V.agg [V.int IntKind.u64 i0, V.int IntKind.u64 i1], V.int IntKind.i64 i2] = some (V.bool false) :=
  byF (k := k) (d := 18) [Hn.call 12 (V.sl o1 b1 n1 x1), Hn.call 17 (V.tup [V.sl o2 b2 n2 x2, V.int IntKind.i64 i3]), Hn.call 21 (V.int IntKind.i64 i4), Hn.call 23 (V.bool b3), Hn.br 25 false, Hn.br 29 false, Hn.br 32 true, Hn.call 35 (V.bool b4), Hn.br 36 true, Hn.br 41 false] (And.intro c0 (And.intro c1 (And.intro c2 (And.intro c3 (And.intro c4 (And.intro c5 (And.intro c6 (And.intro c7 (And.intro c8 (And.intro c9 trivial)))))))))) (by kernel_rfl)
theorem P9_8 (i0 : Int) (i1 : Int) (i2 : Int) (i3 : Int) (i4 : Int) (b0 : Bool) (b1 : Bool) (b2 : Bool) (b3 : Bool) (b4 : Bool) (x0 : List V) (x1 : List V) (x2 : List V) (o0 : Option Bool) (o1 : Option Bool) (o2 : Option Bool) (n0 : Nat) (n1 : Nat) (n2 : Nat) (k : Nat)
    (c0 : callP (evalFn Try.prog Try.cfg (k + 17)) 35 [V.sl o0 b0 n0 x0] = some (V.sl o1 b1 n1 x1))
    (c1 : callP (evalFn Try.prog Try.cfg (k + 17)) 36 [V.sl o1 b1 n1 x1, V.agg [V.int IntKind.u64 i0, V.int IntKind.u64 i1], V.int IntKind.i64 i2] = some (V.tup [V.sl o2 b2 n2 x2, V.int IntKind.i64 i3]))
    (c2 : callP (evalFn Try.prog Try.cfg (k + 17)) 37 [V.agg [V.int IntKind.u64 i0, V.int IntKind.u64 i1]] = some (V.int IntKind.i64 i4))
    (c3 : callP (evalFn Try.prog Try.cfg (k + 17)) 38 [V.sl o1 b1 n1 x1] = some (V.bool b3))
    (c4 : (!b3) = false)
    (c5 : decide (i2 < 0) = false)
    (c6 : decide (2 < i2) = true)
    (c7 : callP (evalFn Try.prog Try.cfg (k + 17)) 39 [] = some (V.bool b4))
    (c8 : b4 = false) :
    callP (evalFn Try.prog Try.cfg (k + 18)) 9 [V.sl o0 b0 n0 x0, V.agg [V.int IntKind.u64 i0, V.int IntKind.u64 i1], V.int IntKind.i64 i2] = some (V.bool false) :=
  byF (k := k) (d := 18) [Hn.call 12 (V.sl o1 b1 n1 x1), Hn.call 17 (V.tup [V.sl o2 b2 n2 x2, V.int IntKind.i64 i3]), Hn.call 21 (V.int IntKind.i64 i4), Hn.call 23 (V.bool b3), Hn.br 25 false, Hn.br 29 false, Hn.br 32 true, Hn.call 35 (V.bool b4), Hn.br 36 false] (And.intro c0 (And.intro c1 (And.intro c2 (And.intro c3 (And.intro c4 (And.intro c5 (And.intro c6 (And.intro c7 (And.intro c8 trivial))))))))) (by kernel_rfl)
theorem P9_9 (i0 : Int) (i1 : Int) (i2 : Int) (i3 : Int) (i4 : Int) (b0 : Bool) (b1 : Bool) (b2 : Bool) (b3 : Bool) (b4 : Bool) (x0 : List V) (x1 : List V) (x2 : List V) (o0 : Option Bool) (o1 : Option Bool) (o2 : Option Bool) (n0 : Nat) (n1 : Nat) (n2 : Nat) (k : Nat)
    (c0 : callP (evalFn Try.prog Try.cfg (k + 17)) 35 [V.sl o0 b0 n0 x0] = some (V.sl o1 b1 n1 x1))
    (c1 : callP (evalFn Try.prog Try.cfg (k + 17)) 36 [V.sl o1 b1 n1 x1, V.agg [V.int IntKind.u64 i0, V.int IntKind.u64 i1], V.int IntKind.i64 i2] = some (V.tup [V.sl o2 b2 n2 x2, V.int IntKind.i64 i3]))
    (c2 : callP (evalFn Try.prog Try.cfg (k + 17)) 37 [V.agg [V.int IntKind.u64 i0, V.int IntKind.u64 i1]] = some (V.int IntKind.i64 i4))
    (c3 : callP (evalFn Try.prog Try.cfg (k + 17)) 38 [V.sl o1 b1 n1 x1] = some (V.bool b3))
    (c4 : (!b3) = false)
    (c5 : decide (i2 < 0) = false)
    (c6 : decide (2 < i2) = false)
    (c7 : (!decide (i4 = 0)) = true)
    (c8 : callP (evalFn Try.prog Try.cfg (k + 17)) 39 [] = some (V.bool b4))
    (c9 : b4 = true)
    (c10 : decide (i3 = i4) = true) :
    callP (evalFn Try.prog Try.cfg (k + 18)) 9 [V.sl o0 b0 n0 x0, V.agg [V.int IntKind.u64 i0, V.int IntKind.u64 i1], V.int IntKind.i64 i2] = some (V.bool (decide ((↑x2.length : Int) = 0))) :=
  byF (k := k) (d := 18) [Hn.call 12 (V.sl o1 b1 n1 x1), Hn.call 17 (V.tup [V.sl o2 b2 n2 x2, V.int IntKind.i64 i3]), Hn.call 21 (V.int IntKind.i64 i4), Hn.call 23 (V.bool b3), Hn.br 25 false, Hn.br 29 false, Hn.br 32 false, Hn.br 34 true, Hn.call 35 (V.bool b4), Hn.br 36 true, Hn.br 41 true] (And.intro c0 (And.intro c1 (And.intro c2 (And.intro c3 (And.intro c4 (And.intro c5 (And.intro c6 (And.intro c7 (And.intro c8 (And.intro c9 (And.intro c10 trivial))))))))))) (by kernel_rfl)
theorem P9_10 (i0 : Int) (i1 : Int) (i2 : Int) (i3 : Int) (i4 : Int) (b0 : Bool) (b1 : Bool) (b2 : Bool) (b3 : Bool) (b4 : Bool) (x0 : List V) (x1 : List V) (x2 : List V) (o0 : Option Bool) (o1 : Option Bool) (o2 : Option Bool) (n0 : Nat) (n1 : Nat) (n2 : Nat) (k : Nat)
    (c0 : callP (evalFn Try.prog Try.cfg (k + 17)) 35 [V.sl o0 b0 n0 x0] = some (V.sl o1 b1 n1 x1))
    (c1 : callP (evalFn Try.prog Try.cfg (k + 17)) 36 [V.sl o1 b1 n1 x1, V.agg [V.int IntKind.u64 i0, V.int IntKind.u64 i1], V.int IntKind.i64 i2] = some (V.tup [V.sl o2 b2 n2 x2, V.int IntKind.i64 i3]))
    (c2 : callP (evalFn Try.prog Try.cfg (k + 17)) 37 [V.agg [V.int IntKind.u64 i0, V.int IntKind.u64 i1]] = some (V.int IntKind.i64 i4))
    (c3 : callP (evalFn Try.prog Try.cfg (k + 17)) 38 [V.sl o1 b1 n1 x1] = some (V.bool b3))
    (c4 : (!b3) = false)
    (c5 : decide (i2 < 0) = false)
    (c6 : decide (2 < i2) = false)
    (c7 : (!decide (i4 = 0)) = true)
    (c8 : callP (evalFn Try.prog Try.cfg (k + 17)) 39 [] = some (V.bool b4))
    (c9 : b4 = true)
    (c10 : decide (i3 = i4) = false) :
    callP (evalFn Try.prog Try.cfg (k + 18)) 9 [V.sl o0 b0 n0 x0, V.agg [V.int IntKind.u64 i0, V.int IntKind.u64 i1], V.int IntKind.i64 i2] = some (V.bool false) :=
  byF (k := k) (d := 18) [Hn.call 12 (V.sl o1 b1 n1 x1), Hn.call 17 (V.tup [V.sl o2 b2 n2 x2, V.int IntKind.i64 i3]), Hn.call 21 (V.int IntKind.i64 i4), Hn.call 23 (V.bool b3), Hn.br 25 false, Hn.br 29 false, Hn.br 32 false, Hn.br 34 true, Hn.call 35 (V.bool b4), Hn.br 36 true, Hn.br 41 false] (And.intro c0 (And.intro c1 (And.intro c2 (And.intro c3 (And.intro c4 (And.intro c5 (And.intro c6 (And.intro c7 (And.intro c8 (And.intro c9 (And.intro c10 trivial))))))))))) (by kernel_rfl)
theorem P9_11 (i0 : Int) (i1 : Int) (i2 : Int) (i3 : Int) (i4 : Int) (b0 : Bool) (b1 : Bool) (b2 : Bool) (b3 : Bool) (b4 : Bool) (x0 : List V) (x1 : List V) (x2 : List V) (o0 : Option Bool) (o1 : Option Bool) (o2 : Option Bool) (n0 : Nat) (n1 : Nat) (n2 : Nat) (k : Nat)
    (c0 : callP (evalFn Try.prog Try.cfg (k + 17)) 35 [V.sl o0 b0 n0 x0] = some (V.sl o1 b1 n1 x1))
    (c1 : callP (evalFn Try.prog Try.cfg (k + 17)) 36 [V.sl o1 b1 n1 x1, V.agg [V.int IntKind.u64 i0, V.int IntKind.u64 i1], V.int IntKind.i64 i2] = some (V.tup [V.sl o2 b2 n2 x2, V.int IntKind.i64 i3]))
    (c2 : callP (evalFn Try.prog Try.cfg (k + 17)) 37 [V.agg [V.int IntKind.u64 i0, V.int IntKind.u64 i1]] = some (V.int IntKind.i64 i4))
    (c3 : callP (evalFn Try.prog Try.cfg (k + 17)) 38 [V.sl o1 b1 n1 x1] = some (V.bool b3))
    (c4 : (!b3) = false)
    (c5 : decide (i2 < 0) = false)
    (c6 : decide (2 < i2) = false)
    (c7 : (!decide (i4 = 0)) = true)
    (c8 : callP (evalFn Try.prog Try.cfg (k + 17)) 39 [] = some (V.bool b4))
    (c9 : b4 = false) :
    callP (evalFn Try.prog Try.cfg (k + 18)) 9 [V.sl o0 b0 n0 x0, V.agg [V.int IntKind.u64 i0, V.int IntKind.u64 i1], V.int IntKind.i64 i2] = some (V.bool false) :=
  byF (k := k) (d := 18) [Hn.call 12 (V.sl o1 b1 n1 x1), Hn.call 17 (V.tup [V.sl o2 b2 n2 x2, V.int IntKind.i64 i3]), Hn.call 21 (V.int IntKind.i64 i4), Hn.call 23 (V.bool b3), Hn.br 25 false, Hn.br 29 false, Hn.br 32 false, Hn.br 34 true, Hn.call 35 (V.bool b4), Hn.br 36 false] (And.intro c0 (And.intro c1 (And.intro c2 (And.intro c3 (And.intro c4 (And.intro c5 (And.intro c6 (And.intro c7 (And.intro c8 (And.intro c9 trivial)))))))))) (by kernel_rfl)
theorem P9_12 (i0 : Int) (i1 : Int) (i2 : Int) (i3 : Int) (i4 : Int) (b0 : Bool) (b1 : Bool) (b2 : Bool) (b3 : Bool) (b4 : Bool) (b5 : Bool) (x0 : List V) (x1 : List V) (x2 : List V) (x3 : List V) (o0 : Option Bool) (o1 : Option Bool) (o2 : Option Bool) (o3 : Option Bool) (n0 : Nat) (n1 : Nat) (n2 : Nat) (n3 : Nat) (k : Nat)
    (c0 : callP (evalFn Try.prog Try.cfg (k + 17)) 35 [V.sl o0 b0 n0 x0] = some (V.sl o1 b1 n1 x1))
    (c1 : callP (evalFn Try.prog Try.cfg (k + 17)) 36 [V.sl o1 b1 n1 x1, V.agg [V.int IntKind.u64 i0, V.int IntKind.u64 i1], V.int IntKind.i64 i2] = some (V.tup [V.sl o2 b2 n2 x2, V.int IntKind.i64 i3]))
    (c2 : callP (evalFn Try.prog Try.cfg (k + 17)) 37 [V.agg [V.int IntKind.u64 i0, V.int IntKind.u64 i1]] = some (V.int IntKind.i64 i4))
    (c3 : callP (evalFn Try.prog Try.cfg (k + 17)) 38 [V.sl o1 b1 n1 x1] = some (V.bool b3))
    (c4 : (!b3) = false)
    (c5 : decide (i2 < 0) = false)
    (c6 : decide (2 < i2) = false)
    (c7 : (!decide (i4 = 0)) = false)
    (c8 : callP (evalFn Try.prog Try.cfg (k + 17)) 40 [V.sl o1 b1 n1 x1, V.agg [V.int IntKind.u64 i0, V.int IntKind.u64 i1], V.int IntKind.i64 i2] = some (V.sl o3 b4 n3 x3))
    (c9 : decide (64 < (↑x3.length : Int)) = true)
    (c10 : callP (evalFn Try.prog Try.cfg (k + 17)) 39 [] = some (V.bool b5))
    (c11 : b5 = true)
    (c12 : decide (i3 = 6) = true) :
    callP (evalFn Try.prog Try.cfg (k + 18)) 9 [V.sl o0 b0 n0 x0, V.agg [V.int IntKind.u64 i0, V.int IntKind.u64 i1], V.int IntKind.i64 i2] = some (V.bool (decide ((↑x2.length : Int) = 0))) :=
  byF (k := k) (d := 18) [Hn.call 12 (V.sl o1 b1 n1 x1), Hn.call 17 (V.tup [V.sl o2 b2 n2 x2, V.int IntKind.i64 i3]), Hn.call 21 (V.int IntKind.i64 i4), Hn.call 23 (V.bool b3), Hn.br 25 false, Hn.br 29 false, Hn.br 32 false, Hn.br 34 false, Hn.call 49 (V.sl o3 b4 n3 x3), Hn.br 52 true, Hn.call 53 (V.bool b5), Hn.br 54 true, Hn.br 58 true] (And.intro c0 (And.intro c1 (And.intro c2 (And.intro c3 (And.intro c4 (And.intro c5 (And.intro c6 (And.intro c7 (And.intro c8 (And.intro c9 (And.intro c10 (And.intro c11 (And.intro c12 trivial))))))))))))) (by kernel_rfl)
theorem P9_13 (i0 : Int) (i1 : Int) (i2 : Int) (i3 : Int) (i4 : Int) (b0 : Bool) (b1 : Bool) (b2 : Bool) (b3 : Bool) (b4 : Bool) (b5 : Bool) (x0 : List V) (x1 : List V) (x2 : List V) (x3 : List V) (o0 : Option Bool) (o1 : Option Bool) (o2 : Option Bool) (o3 : Option Bool) (n0 : Nat) (n1 : Nat) (n2 : Nat) (n3 : Nat) (k : Nat)
    (c0 : callP (evalFn Try.prog Try.cfg (k + 17)) 35 [V.sl o0 b0 n0 x0] = some (V.sl o1 b1 n1 x1))
    (c1 : callP (evalFn Try.prog Try.cfg (k + 17)) 36 [V.sl o1 b1 n1 x1, V.agg [V.int IntKind.u64 i0, V.int IntKind.u64 i1], V.int IntKind.i64 i2] = some (V.tup [V.sl o2 b2 n2 x2, V.int IntKind.i64 i3]))
    (c2 : callP (evalFn Try.prog Try.cfg (k + 17)) 37 [V.agg [V.int IntKind.u64 i0, V.int IntKind.u64 i1]] = some (V.int IntKind.i64 i4))
    (c3 : callP (evalFn Try.prog Try.cfg (k + 17)) 38 [V.sl o1 b1 n1 x1] = some (V.bool b3))
    (c4 : (!b3) = false)
    (c5 : decide (i2 < 0) = false)
    (c6 : decide (2 < i2) = false)
    (c7 : (!decide (i4 = 0)) = false)
    (c8 : callP (evalFn Try.prog Try.cfg (k + 17)) 40 [V.sl o1 b1 n1 x1, V.agg [V.int IntKind.u64 i0, V.int IntKind.u64 i1], V.int IntKind.i64 i2] = some (V.sl o3 b4 n3 x3))
    (c9 : decide (64 < (↑x3.length : Int)) = true)
    (c10 : callP (evalFn Try.prog Try.cfg (k + 17)) 39 [] = some (V.bool b5))
    (c11 : b5 = true)
    (c12 : decide (i3 = 6) = false) :
    callP (evalFn Try.prog Try.cfg (k + 18)) 9 [V.sl o0 b0 n0 x0, V.agg [V.int IntKind.u64 i0, V.int IntKind.u64 i1], V.int IntKind.i64 i2] = some (V.bool false) :=
  byF (k := k) (d := 18) [Hn.call 12 (V.sl o1 b1 n1 x1), Hn.call 17 (V.tup [V.sl o2 b2 n2 x2, V.int IntKind.i64 i3]), Hn.call 21 (V.int IntKind.i64 i4), Hn.call 23 (V.bool b3), Hn.br 25 false, Hn.br 29 false, Hn.br 32 false, Hn.br 34 false, Hn.call 49 (V.sl o3 b4 n3 x3), Hn.br 52 true, Hn.call 53 (V.bool b5), Hn.br 54 true, Hn.br 58 false] (And.intro c0 (And.intro c1 (And.intro c2 (And.intro c3 (And.intro c4 (And.intro c5 (And.intro c6 (And.intro c7 (And.intro c8 (And.intro c9 (And.intro c10 (And.intro c11 (And.intro c12 trivial))))))))))))) (by kernel_rfl)
theorem P9_14 (i0 : Int) (i1 : Int) (i2 : Int) (i3 : Int) (i4 : Int) (b0 : Bool) (b1 : Bool) (b2 : Bool) (b3 : Bool) (b4 : Bool) (b5 : Bool) (x0 : List V) (x1 : List V) (x2 : List V) (x3 : List V) (o0 : Option Bool) (o1 : Option Bool) (o2 : Option Bool) (o3 : Option Bool) (n0 : Nat) (n1 : Nat) (n2 : Nat) (n3 : Nat) (k : Nat)
    (c0 : callP (evalFn Try.prog Try.cfg (k + 17)) 35 [V.sl o0 b0 n0 x0] = some (V.sl o1 b1 n1 x1))
    (c1 : callP (evalFn Try.prog Try.cfg (k + 17)) 36 [V.sl o1 b1 n1 x1, V.agg [V.int IntKind.u64 i0, V.int IntKind.u64 i1], V.int IntKind.i64 i2] = some (V.tup [V.sl o2 b2 n2 x2, V.int IntKind.i64 i3]))
    (c2 : callP (evalFn Try.prog Try.cfg (k + 17)) 37 [V.agg [V.int IntKind.u64 i0, V.int IntKind.u64 i1]] = some (V.int IntKind.i64 i4))
    (c3 : callP (evalFn Try.prog Try.cfg (k + 17)) 38 [V.sl o1 b1 n1 x1] = some (V.bool b3))
    (c4 : (!b3) = false)
    (c5 : decide (i2 < 0) = false)
    (c6 : decide (2 < i2) = false)
    (c7 : (!decide (i4 = 0)) = false)
    (c8 : callP (evalFn Try.prog Try.cfg (k + 17)) 40 [V.sl o1 b1 n1 x1, V.agg [V.int IntKind.u64 i0, V.int IntKind.u64 i1], V.int IntKind.i64 i2] = some (V.sl o3 b4 n3 x3))
    (c9 : decide (64 < (↑x3.length : Int)) = true)
    (c10 : callP (evalFn Try.prog Try.cfg (k + 17)) 39 [] = some (V.bool b5))
    (c11 : b5 = false) :
    callP (evalFn Try.prog Try.cfg (k + 18)) 9 [V.sl o0 b0 n0 x0, V.agg [V.int IntKind.u64 i0, V.int IntKind.u64 i1], V.int IntKind.i64 i2] = some (V.bool false) :=
  byF (k := k) (d := 18) [Hn.call 12 (V.sl o1 b1 n1 x1), Hn.call 17 (V.tup [V.sl o2 b2 n2 x2, V.int IntKind.i64 i3]), Hn.call 21 (V.int IntKind.i64 i4), Hn.call 23 (V.bool b3), Hn.br 25 false, Hn.br 29 false, Hn.br 32 false, Hn.br 34 false, Hn.call 49 (V.sl o3 b4 n3 x3), Hn.br 52 true, Hn.call 53 (V.bool b5), Hn.br 54 false] (And.intro c0 (And.intro c1 (And.intro c2 (And.intro c3 (And.intro c4 (And.intro c5 (And.intro c6 (And.intro c7 (And.intro c8 (And.intro c9 (And.intro c10 (And.intro c11 trivial)))))))))))) (by kernel_rfl)
theorem P9_15 (i0 : Int) (i1 : Int) (i2 : Int) (i3 : Int) (i4 : Int) (b0 : Bool) (b1 : Bool) (b2 : Bool) (b3 : Bool) (b4 : Bool) (b5 : Bool) (b6 : Bool) (x0 : List V) (x1 : List V) (x2 : List V) (x3 : List V) (o0 : Option Bool) (o1 : Option Bool) (o2 : Option Bool) (o3 : Option Bool) (n0 : Nat) (n1 : Nat) (n2 : Nat) (n3 : Nat) (k : Nat)
    (c0 : callP (evalFn Try.prog Try.cfg (k + 17)) 35 [V.sl o0 b0 n0 x0] = some (V.sl o1 b1 n1 x1))
    (c1 : callP (evalFn Try.prog Try.cfg (k + 17)) 36 [V.sl o1 b1 n1 x1, V.agg [V.int IntKind.u64 i0, V.int IntKind.u64 i1], V.int IntKind.i64 i2] = some (V.tup [V.sl o2 b2 n2 x2, V.int IntKind.i64 i3]))
    (c2 : callP (evalFn Try.prog Try.cfg (k + 17)) 37 [V.agg [V.int IntKind.u64 i0, V.int IntKind.u64 i1]] = some (V.int IntKind.i64 i4))
    (c3 : callP (evalFn Try.prog Try.cfg (k + 17)) 38 [V.sl o1 b1 n1 x1] = some (V.bool b3))
    (c4 : (!b3) = false)
    (c5 : decide (i2 < 0) = false)
    (c6 : decide (2 < i2) = false)
    (c7 : (!decide (i4 = 0)) = false)
    (c8 : callP (evalFn Try.prog Try.cfg (k + 17)) 40 [V.sl o1 b1 n1 x1, V.agg [V.int IntKind.u64 i0, V.int IntKind.u64 i1], V.int IntKind.i64 i2] = some (V.sl o3 b4 n3 x3))
    (c9 : decide (64 < (↑x3.length : Int)) = false)
    (c10 : callP (evalFn Try.prog Try.cfg (k + 17)) 39 [] = some (V.bool b5))
    (c11 : b5 = true)
    (c12 : decide (i3 = 0) = true)
    (c13 : callP (evalFn Try.prog Try.cfg (k + 17)) 41 [V.sl o2 b2 n2 x2, V.sl o3 b4 n3 x3] = some (V.bool b6)) :
    callP (evalFn Try.prog Try.cfg (k + 18)) 9 [V.sl o0 b0 n0 x0, V.agg [V.int IntKind.u64 i0, V.int IntKind.u64 i1], V.int IntKind.i64 i2] = some (V.bool b6) :=
  byF (k := k) (d := 18) [Hn.call 12 (V.sl o1 b1 n1 x1), Hn.call 17 (V.tup [V.sl o2 b2 n2 x2, V.int IntKind.i64 i3]), Hn.call 21 (V.int IntKind.i64 i4), Hn.call 23 (V.bool b3), Hn.br 25 false, Hn.br 29 false, Hn.br 32 false, Hn.br 34 false, Hn.call 49 (V.sl o3 b4 n3 x3), Hn.br 52 false, Hn.call 63 (V.bool b5), Hn.br 64 true, Hn.br 68 true, Hn.call 71 (V.bool b6)] (And.intro c0 (And.intro c1 (And.intro c2 (And.intro c3 (And.intro c4 (And.intro c5 (And.intro c6 (And.intro c7 (And.intro c8 (And.intro c9 (And.intro c10 (And.intro c11 (And.intro c12 (And.intro c13 trivial)))))))))))))) (by kernel_rfl)
theorem P9_16 (i0 : Int) (i1 : Int) (i2 : Int) (i3 : Int) (i4 : Int) (b0 : Bool) (b1 : Bool) (b2 : Bool) (b3 : Bool) (b4 : Bool) (b5 : Bool) (x0 : List V) (x1 : List V) (x2 : List V) (x3 : List V) (o0 : Option Bool) (o1 : Option Bool) (o2 : Option Bool) (o3 : Option Bool) (n0 : Nat) (n1 : Nat) (n2 : Nat) (n3 : Nat) (k : Nat)
    (c0 : callP (evalFn Try.prog Try.cfg (k + 17)) 35 [V.sl o0 b0 n0 x0] = some (V.sl o1 b1 n1 x1))
    (c1 : callP (evalFn Try.prog Try.cfg (k + 17)) 36 [V.sl o1 b1 n1 x1, V.agg [V.int IntKind.u64 i0, V.int IntKind.u64 i1], V.int IntKind.i64 i2] = some (V.tup [V.sl o2 b2 n2 x2, V.int IntKind.i64 i3]))
    (c2 : callP (evalFn Try.prog Try.cfg (k + 17)) 37 [V.agg [V.int IntKind.u64 i0, V.int IntKind.u64 i1]] = some (V.int IntKind.i64 i4))
    (c3 : callP (evalFn Try.prog Try.cfg (k + 17)) 38 [V.sl o1 b1 n1 x1] = some (V.bool b3))
    (c4 : (!b3) = false)
    (c5 : decide (i2 < 0) = false)
    (c6 : decide (2 < i2) = false)
    (c7 : (!decide (i4 = 0)) = false)
    (c8 : callP (evalFn Try.prog Try.cfg (k + 17)) 40 [V.sl o1 b1 n1 x1, V.agg [V.int IntKind.u64 i0, V.int IntKind.u64 i1], V.int IntKind.i64 i2] = some (V.sl o3 b4 n3 x3))
    (c9 : decide (64 < (↑x3.length : Int)) = false)
    (c10 : callP (evalFn Try.prog Try.cfg (k + 17)) 39 [] = some (V.bool b5))
    (c11 : b5 = true)
    (c12 : decide (i3 = 0) = false) :
    callP (evalFn Try.prog Try.cfg (k + 18)) 9 [V.sl o0 b0 n0 x0, V.agg [V.int IntKind.u64 i0, V.int IntKind.u64 i1], V.int IntKind.i64 i2] = some (V.bool false) :=
  byF (k := k) (d := 18) [Hn.call 12 (V.sl o1 b1 n1 x1), Hn.call 17 (V.tup [V.sl o2 b2 n2 x2, V.int IntKind.i64 i3]), Hn.call 21 (V.int IntKind.i64 i4), Hn.call 23 (V.bool b3), Hn.br 25 false, Hn.br 29 false, Hn.br 32 false, Hn.br 34 false, Hn.call 49 (V.sl o3 b4 n3 x3), Hn.br 52 false, Hn.call 63 (V.bool b5), Hn.br 64 true, Hn.br 68 false] (And.intro c0 (And.intro c1 (And.intro c2 (And.intro c3 (And.intro c4 (And.intro c5 (And.intro c6 (And.intro c7 (And.intro c8 (And.intro c9 (And.intro c10 (And.intro c11 (And.intro c12 trivial))))))))))))) (by kernel_rfl)
theorem P9_17 (i0 : Int) (i1 : Int) (i2 : Int) (i3 : Int) (i4 : Int) (b0 : Bool) (b1 : Bool) (b2 : Bool) (b3 : Bool) (b4 : Bool) (b5 : Bool) (x0 : List V) (x1 : List V) (x2 : List V) (x3 : List V) (o0 : Option Bool) (o1 : Option Bool) (o2 : Option Bool) (o3 : Option Bool) (n0 : Nat) (n1 : Nat) (n2 : Nat) (n3 : Nat) (k : Nat)
    (c0 : callP (evalFn Try.prog Try.cfg (k + 17)) 35 [V.sl o0 b0 n0 x0] = some (V.sl o1 b1 n1 x1))
    (c1 : callP (evalFn Try.prog Try.cfg (k + 17)) 36 [V.sl o1 b1 n1 x1, V.agg [V.int IntKind.u64 i0, V.int IntKind.u64 i1], V.int IntKind.i64 i2] = some (V.tup [V.sl o2 b2 n2 x2, V.int IntKind.i64 i3]))
    (c2 : callP (evalFn Try.prog Try.cfg (k + 17)) 37 [V.agg [V.int IntKind.u64 i0, V.int IntKind.u64 i1]] = some (V.int IntKind.i64 i4))
    (c3 : callP (evalFn Try.prog Try.cfg (k + 17)) 38 [V.sl o1 b1 n1 x1] = some (V.bool b3))
    (c4 : (!b3) = false)
    (c5 : decide (i2 < 0) = false)
    (c6 : decide (2 < i2) = false)
    (c7 : (!decide (i4 = 0)) = false)
    (c8 : callP (evalFn Try.prog Try.cfg (k + 17)) 40 [V.sl o1 b1 n1 x1, V.agg [V.int IntKind.u64 i0, V.int IntKind.u64 i1], V.int IntKind.i64 i2] = some (V.sl o3 b4 n3 x3))
    (c9 : decide (64 < (↑x3.length : Int)) = false)
    (c10 : callP (evalFn Try.prog Try.cfg (k + 17)) 39 [] = some (V.bool b5))
    (c11 : b5 = false) :
    callP (evalFn Try.prog Try.cfg (k + 18)) 9 [V.sl o0 b0 n0 x0, V.agg [V.int IntKind.u64 i0, V.int IntKind.u64 i1], V.int IntKind.i64 i2] = some (V.bool false) :=
  byF (k := k) (d := 18) [Hn.call 12 (V.sl o1 b1 n1 x1), Hn.call 17 (V.tup [V.sl o2 b2 n2 x2, V.int IntKind.i64 i3]), Hn.call 21 (V.int IntKind.i64 i4), Hn.call 23 (V.bool b3), Hn.br 25 false, Hn.br 29 false, Hn.br 32 false, Hn.br 34 false, Hn.call 49 (V.sl o3 b4 n3 x3), Hn.br 52 false, Hn.call 63 (V.bool b5), Hn.br 64 false] (And.intro c0 (And.intro c1 (And.intro c2 (And.intro c3 (And.intro c4 (And.intro c5 (And.intro c6 (And.intro c7 (And.intro c8 (And.intro c9 (And.intro c10 (And.intro c11 trivial)))))))))))) (by kernel_rfl)
def F9 (k : Nat) (o0 : Option Bool) (b0 : Bool) (n0 : Nat) (x0 : List V) (i0 : Int) (i1 : Int) (i2 : Int) : Option (Bool) :=
  ((F35 (k + 14) (o0) (b0) (n0) (x0)).bind fun (o1, b1, n1, x1) => ((F36 (k + 5) (o1) (b1) (n1) (x1) (i0) (i1) (i2)).bind fun (o2, b2, n2, x2, i3) => ((F37 (k + 11) (i0) (i1)).bind fun i4 => ((F38 (k + 11) (o1) (b1) (n1) (x1)).bind fun b3 => (bif !b3 then ((F39 (k + 2)).bind fun b4 => (bif b4 then (bif decide (i3 = 1) then (some (decide ((↑x2.length : Int) = 0))) else (some (false))) else (some (false)))) else (bif decide (i2 < 0) then ((F39 (k + 2)).bind fun b4 => (bif b4 then (bif decide (i3 = 1) then (some (decide ((↑x2.length : Int) = 0))) else (some (false))) else (some (false)))) else (bif decide (2 < i2) then ((F39 (k + 2)).bind fun b4 => (bif b4 then (bif decide (i3 = 1) then (some (decide ((↑x2.length : Int) = 0))) else (some (false))) else (some (false)))) else (bif !decide (i4 = 0) then ((F39 (k + 2)).bind fun b4 => (bif b4 then (bif decide (i3 = i4) then (some (decide ((↑x2.length : Int) = 0))) else (some (false))) else (some (false)))) else ((F40 (k + 5) (o1) (b1) (n1) (x1) (i0) (i1) (i2)).bind fun (o3, b4, n3, x3) => (bif decide (64 < (↑x3.length : Int)) then ((F39 (k + 2)).bind fun b5 => (bif b5 then (bif decide (i3 = 6) then (some (decide ((↑x2.length : Int) = 0))) else (some (false))) else (some (false)))) else ((F39 (k + 2)).bind fun b5 => (bif b5 then (bif decide (i3 = 0) then ((F41 (k + 14) (o2) (b2) (n2) (x2) (o3) (b4) (n3) (x3)).bind fun b6 => (some (b6))) else (some (false))) else (some (false))))))))))))))
theorem F9_ok {o0 : Option Bool} {b0 : Bool} {n0 : Nat} {x0 : List V} {i0 : Int} {i1 : Int} {i2 : Int} {k : Nat} {r : Bool} (h : F9 k o0 b0 n0 x0 i0 i1 i2 = some r) :
    callP (evalFn Try.prog Try.cfg (k + 18)) 9 [V.sl o0 b0 n0 x0, V.agg [V.int IntKind.u64 i0, V.int IntKind.u64 i1], V.int IntKind.i64 i2] = some (V.bool r) := by
  unfold F9 at h
  obtain ⟨⟨o1, b1, n1, x1⟩, e0, h⟩ := Option.bind_eq_some_iff.1 h
  obtain ⟨⟨o2, b2, n2, x2, i3⟩, e1, h⟩ := Option.bind_eq_some_iff.1 h
  obtain ⟨i4, e2, h⟩ := Option.bind_eq_some_iff.1 h
  obtain ⟨b3, e3, h⟩ := Option.bind_eq_some_iff.1 h
  rcases cond_elim h with ⟨e4, h⟩ | ⟨e4, h⟩
  ·
    obtain ⟨b4, e5, h⟩ := Option.bind_eq_some_iff.1 h
    rcases cond_elim h with ⟨e6, h⟩ | ⟨e6, h⟩
    ·
      rcases cond_elim h with ⟨e7, h⟩ | ⟨e7, h⟩
      ·
        have h := Option.some.inj h; subst h; exact P9_0 i0 i1 i2 i3 i4 b0 b1 b2 b3 b4 x0 x1 x2 o0 o1 o2 n0 n1 n2 k (F35_ok e0) (F36_ok e1) (F37_ok e2) (F38_ok e3) e4 (F39_ok e5) e6 e7
      ·
        have h := Option.some.inj h; subst h; exact P9_1 i0 i1 i2 i3 i4 b0 b1 b2 b3 b4 x0 x1 x2 o0 o1 o2 n0 n1 n2 k (F35_ok e0) (F36_ok e1) (F37_ok e2) (F38_ok e3) e4 (F39_ok e5) e6 e7
    ·
      have h := Option.some.inj h; subst h; exact P9_2 i0 i1 i2 i3 i4 b0 b1 b2 b3 b4 x0 x1 x2 o0 o1 o2 n0 n1 n2 k (F35_ok e0) (F36_ok e1) (F37_ok e2) (F38_ok e3) e4 (F39_ok e5) e6
  ·
    rcases cond_elim h with ⟨e5, h⟩ | ⟨e5, h⟩
    ·
      obtain ⟨b4, e6, h⟩ := Option.bind_eq_some_iff.1 h
      rcases cond_elim h with ⟨e7, h⟩ | ⟨e7, h⟩
      ·
        rcases cond_elim h with ⟨e8, h⟩ | ⟨e8, h⟩
        ·
          have h := Option.some.inj h; subst h; exact P9_3 i0 i1 i2 i3 i4 b0 b1 b2 b3 b4 x0 x1 x2 o0 o1 o2 n0 n1 n2 k (F35_ok e0) (F36_ok e1) (F37_ok e2) (F38_ok e3) e4 e5 (F39_ok e6) e7 e8
        ·
          have h := Option.some.inj h; subst h; exact P9_4 i0 i1 i2 i3 i4 b0 b1 b2 b3 b4 x0 x1 x2 o0 o1 o2 n0 n1 n2 k (F35_ok e0) (F36_ok e1) (F37_ok e2) (F38_ok e3) e4 e5 (F39_ok e6) e7 e8
      ·
        have h := Option.some.inj h; subst h; exact P9_5 i0 i1 i2 i3 i4 b0 b1 b2 b3 b4 x0 x1 x2 o0 o1 o2 n0 n1 n2 k (F35_ok e0) (F36_ok e1) (F37_ok e2) (F38_ok e3) e4 e5 (F39_ok e6) e7
    ·
      rcases cond_elim h with ⟨e6, h⟩ | ⟨e6, h⟩
      ·
        obtain ⟨b4, e7, h⟩ := Option.bind_eq_some_iff.1 h
        rcases cond_elim h with ⟨e8, h⟩ | ⟨e8, h⟩
        ·
          rcases cond_elim h with ⟨e9, h⟩ | ⟨e9, h⟩
          ·
            have h := Option.some.inj h; subst h; exact P9_6 i0 i1 i2 i3 i4 b0 b1 b2 b3 b4 x0 x1 x2 o0 o1 o2 n0 n1 n2 k (F35_ok e0) (F36_ok e1) (F37_ok e2) (F38_ok e3) e4 e5 e6 (F39_ok e7) e8 e9
          ·
            have h := Option.some.inj h; subst h; exact P9_7 i0 i1 i2 i3 i4 b0 b1 b2 b3 b4 x0 x1 x2 o0 o1 o2 n0 n1 n2 k (F35_ok e0) (F36_ok e1) (F37_ok e2) (F38_ok e3) e4 e5 e6 (F39_ok e7) e8 e9
        ·
          have h := Option.some.inj h; subst h; exact P9_8 i0 i1 i2 i3 i4 b0 b1 b2 b3 b4 x0 x1 x2 o0 o1 o2 n0 n1 n2 k (F35_ok e0) (F36_ok e1) (F37_ok e2) (F38_ok e3) e4 e5 e6 (F39_ok e7) e8
      ·
        rcases cond_elim h with ⟨e7, h⟩ | ⟨e7, h⟩
        ·
          obtain ⟨b4, e8, h⟩ := Option.bind_eq_some_iff.1 h
          rcases cond_elim h with ⟨e9, h⟩ | ⟨e9, h⟩
          ·
            rcases cond_elim h with ⟨e10, h⟩ | ⟨e10, h⟩
            ·
              have h := Option.some.inj h; subst h; exact P9_9 i0 i1 i2 i3 i4 b0 b1 b2 b3 b4 x0 x1 x2 o0 o1 o2 n0 n1 n2 k (F35_ok e0) (F36_ok e1) (F37_ok e2) (F38_ok e3) e4 e5 e6 e7 (F39_ok e8) e9 e10
            ·
              have h := Option.some.inj h; subst h; exact P9_10 i0 i1 i2 i3 i4 b0 b1 b2 b3 b4 x0 x1 x2 o0 o1 o2 n0 n1 n2 k (F35_ok e0) (F36_ok e1) (F37_ok e2) (F38_ok e3) e4 e5 e6 e7 (F39_ok e8) e9 e10
          ·
            have h := Option.some.inj h; subst h; exact P9_11 i0 i1 i2 i3 i4 b0 b1 b2 b3 b4 x0 x1 x2 o0 o1 o2 n0 n1 n2 k (F35_ok e0) (F36_ok e1) (F37_ok e2) (F38_ok e3) e4 e5 e6 e7 (F39_ok e8) e9
        ·
          obtain ⟨⟨o3, b4, n3, x3⟩, e8, h⟩ := Option.bind_eq_some_iff.1 h
          rcases cond_elim h with ⟨e9, h⟩ | ⟨e9, h⟩
          ·
            obtain ⟨b5, e10, h⟩ := Option.bind_eq_some_iff.1 h
            rcases cond_elim h with ⟨e11, h⟩ | ⟨e11, h⟩
            ·
              rcases cond_elim h with ⟨e12, h⟩ | ⟨e12, h⟩
              ·
                have h := Option.some.inj h; subst h; exact P9_12 i0 i1 i2 i3 i4 b0 b1 b2 b3 b4 b5 x0 x1 x2 x3 o0 o1 o2 o3 n0 n1 n2 n3 k (F35_ok e0) (F36_ok e1) (F37_ok e2) (F38_ok e3) e4 e5 e6 e7 (F40_ok e8) e9 (F39_ok e10) e11 e12
              ·
                have h := Option.some.inj h; subst h; exact P9_13 i0 i1 i2 i3 i4 b0 b1 b2 b3 b4 b5 x0 x1 x2 x3 o0 o1 o2 o3 n0 n1 n2 n3 k (F35_ok e0) (F36_ok e1) (F37_ok e2) (F38_ok e3) e4 e5 e6 e7 (F40_ok e8) e9 (F39_ok e10) e11 e12
            ·
              have h := Option.some.inj h; subst h; exact P9_14 i0 i1 i2 i3 i4 b0 b1 b2 b3 b4 b5 x0 x1 x2 x3 o0 o1 o2 o3 n0 n1 n2 n3 k (F35_ok e0) (F36_ok e1) (F37_ok e2) (F38_ok e3) e4 e5 e6 e7 (F40_ok e8) e9 (F39_ok e10) e11
          ·
            obtain ⟨b5, e10, h⟩ := Option.bind_eq_some_iff.1 h
            rcases cond_elim h with ⟨e11, h⟩ | ⟨e11, h⟩
            ·
              rcases cond_elim h with ⟨e12, h⟩ | ⟨e12, h⟩
              ·
                obtain ⟨b6, e13, h⟩ := Option.bind_eq_some_iff.1 h
                have h := Option.some.inj h; subst h; exact P9_15 i0 i1 i2 i3 i4 b0 b1 b2 b3 b4 b5 b6 x0 x1 x2 x3 o0 o1 o2 o3 n0 n1 n2 n3 k (F35_ok e0) (F36_ok e1) (F37_ok e2) (F38_ok e3) e4 e5 e6 e7 (F40_ok e8) e9 (F39_ok e10) e11 e12 (F41_ok e13)
              ·
                have h := Option.some.inj h; subst h; exact P9_16 i0 i1 i2 i3 i4 b0 b1 b2 b3 b4 b5 x0 x1 x2 x3 o0 o1 o2 o3 n0 n1 n2 n3 k (F35_ok e0) (F36_ok e1) (F37_ok e2) (F38_ok e3) e4 e5 e6 e7 (F40_ok e8) e9 (F39_ok e10) e11 e12
            ·
              have h := Option.some.inj h; subst h; exact P9_17 i0 i1 i2 i3 i4 b0 b1 b2 b3 b4 b5 x0 x1 x2 x3 o0 o1 o2 o3 n0 n1 n2 n3 k (F35_ok e0) (F36_ok e1) (F37_ok e2) (F38_ok e3) e4 e5 e6 e7 (F40_ok e8) e9 (F39_ok e10) e11
end Go.Proofs
