/-
  What the law ExtentQueries answers, checked against the program.
-/
import Derived.Test.YtfjloeemhiffgaaExD
set_option linter.unusedVariables false
set_option maxHeartbeats 0
set_option maxRecDepth 100000
namespace Go.Proofs
open Go Go.Sym

theorem P10_0 (i0 : Int) (i1 : Int) (i2 : Int) (i3 : Int) (b0 : Bool) (b1 : Bool) (b2 : Bool) (b3 : Bool) (b4 : Bool) (x0 : List V) (x1 : List V) (x2 : List V) (o0 : Option Bool) (o1 : Option Bool) (o2 : Option Bool) (n0 : Nat) (n1 : Nat) (n2 : Nat) (k : Nat)
    (c0 : callP (evalFn Try.prog Try.cfg (k + 17)) 35 [V.sl o0 b0 n0 x0] = some (V.sl o1 b1 n1 x1))
    (c1 : callP (evalFn Try.prog Try.cfg (k + 17)) 42 [V.sl o1 b1 n1 x1, V.agg [V.int IntKind.u64 i0, V.int IntKind.u64 i1]] = some (V.tup [V.sl o2 b2 n2 x2, V.int IntKind.i64 i2]))
    (c2 : callP (evalFn Try.prog Try.cfg (k + 17)) 37 [V.agg [V.int IntKind.u64 i0, V.int IntKind.u64 i1]] = some (V.int IntKind.i64 i3))
    (c3 : callP (evalFn Try.prog Try.cfg (k + 17)) 38 [V.sl o1 b1 n1 x1] = some (V.bool b3))
    (c4 : (!b3) = true)
    (c5 : callP (evalFn Try.prog Try.cfg (k + 17)) 39 [] = some (V.bool b4))
    (c6 : b4 = true)
    (c7 : decide (i2 = 1) = true) :
    callP (evalFn Try.prog Try.cfg (k + 18)) 10 [V.sl o0 b0 n0 x0, V.agg [V.int IntKind.u64 i0, V.int IntKind.u64 i1]] = some (V.bool (decide ((↑x2.length : Int) = 0))) :=
  byF (k := k) (d := 18) [Hn.call 9 (V.sl o1 b1 n1 x1), Hn.call 13 (V.tup [V.sl o2 b2 n2 x2, V.int IntKind.i64 i2]), Hn.call 17 (V.int IntKind.i64 i3), Hn.call 19 (V.bool b3), Hn.br 20 true, Hn.call 23 (V.bool b4), Hn.br 24 true, Hn.br 29 true] (And.intro c0 (And.intro c1 (And.intro c2 (And.intro c3 (And.intro c4 (And.intro c5 (And.intro c6 (And.intro c7 trivial)))))))) (by kernel_rfl)
theorem P10_1 (i0 : Int) (i1 : Int) (i2 : Int) (i3 : Int) (b0 : Bool) (b1 : Bool) (b2 : Bool) (b3 : Bool) (b4 : Bool) (x0 : List V) (x1 : List V) (x2 : List V) (o0 : Option Bool) (o1 : Option Bool) (o2 : Option Bool) (n0 : Nat) (n1 : Nat) (n2 : Nat) (k : Nat)
    (c0 : callP (evalFn Try.prog Try.cfg (k + 17)) 35 [V.sl o0 b0 n0 x0] = some (V.sl o1 b1 n1 x1))
    (c1 : callP (evalFn Try.prog Try.cfg (k + 17)) 42 [V.sl o1 b1 n1 x1, V.agg [V.int IntKind.u64 i0, V.int IntKind.u64 i1]] = some (V.tup [V.sl o2 b2 n2 x2, V.int IntKind.i64 i2]))
    (c2 : callP (evalFn Try.prog Try.cfg (k + 17)) 37 [V.agg [V.int IntKind.u64 i0, V.int IntKind.u64 i1]] = some (V.int IntKind.i64 i3))
    (c3 : callP (evalFn Try.prog Try.cfg (k + 17)) 38 [V.sl o1 b1 n1 x1] = some (V.bool b3))
    (c4 : (!b3) = true)
    (c5 : callP (evalFn Try.prog Try.cfg (k + 17)) 39 [] = some (V.bool b4))
    (c6 : b4 = true)
    (c7 : decide (i2 = 1) = false) :
    callP (evalFn Try.prog Try.cfg (k + 18)) 10 [V.sl o0 b0 n0 x0, V.agg [V.int IntKind.u64 i0, V.int IntKind.u64 i1]] = some (V.bool false) :=
  byF (k := k) (d := 18) [Hn.call 9 (V.sl o1 b1 n1 x1), Hn.call 13 (V.tup [V.sl o2 b2 n2 x2, V.int IntKind.i64 i2]), Hn.call 17 (V.int IntKind.i64 i3), Hn.call 19 (V.bool b3), Hn.br 20 true, Hn.call 23 (V.bool b4), Hn.br 24 true, Hn.br 29 false] (And.intro c0 (And.intro c1 (And.intro c2 (And.intro c3 (And.intro c4 (And.intro c5 (And.intro c6 (And.intro c7 trivial)))))))) (by kernel_rfl)
theorem P10_2 (i0 : Int) (i1 : Int) (i2 : Int) (i3 : Int) (b0 : Bool) (b1 : Bool) (b2 : Bool) (b3 : Bool) (b4 : Bool) (x0 : List V) (x1 : List V) (x2 : List V) (o0 : Option Bool) (o1 : Option Bool) (o2 : Option Bool) (n0 : Nat) (n1 : Nat) (n2 : Nat) (k : Nat)
    (c0 : callP (evalFn Try.prog Try.cfg (k + 17)) 35 [V.sl o0 b0 n0 x0] = some (V.sl o1 b1 n1 x1))
    (c1 : callP (evalFn Try.prog Try.cfg (k + 17)) 42 [V.sl o1 b1 n1 x1, V.agg [V.int IntKind.u64 i0, V.int IntKind.u64 i1]] = some (V.tup [V.sl o2 b2 n2 x2, V.int IntKind.i64 i2]))
    (c2 : callP (evalFn Try.prog Try.cfg (k + 17)) 37 [V.agg [V.int IntKind.u64 i0, V.int IntKind.u64 i1]] = some (V.int IntKind.i64 i3))
    (c3 : callP (evalFn Try.prog Try.cfg (k + 17)) 38 [V.sl o1 b1 n1 x1] = some (V.bool b3))
    (c4 : (!b3) = true)
    (c5 : callP (evalFn Try.prog Try.cfg (k + 17)) 39 [] = some (V.bool b4))
    (c6 : b4 = false) :
    callP (evalFn Try.prog Try.cfg (k + 18)) 10 [V.sl o0 b0 n0 x0, V.agg [V.int IntKind.u64 i0, V.int IntKind.u64 i1]] = some (V.bool false) :=
  byF (k := k) (d := 18) [Hn.call 9 (V.sl o1 b1 n1 x1), Hn.call 13 (V.tup [V.sl o2 b2 n2 x2, V.int IntKind.i64 i2]), Hn.call 17 (V.int IntKind.i64 i3), Hn.call 19 (V.bool b3), Hn.br 20 true, Hn.call 23 (V.bool b4), Hn.br 24 false] (And.intro c0 (And.intro c1 (And.intro c2 (And.intro c3 (And.intro c4 (And.intro c5 (And.intro c6 trivial))))))) (by kernel_rfl)
theorem P10_3 (i0 : Int) (i1 : Int) (i2 : Int) (i3 : Int) (b0 : Bool) (b1 : Bool) (b2 : Bool) (b3 : Bool) (b4 : Bool) (x0 : List V) (x1 : List V) (x2 : List V) (o0 : Option Bool) (o1 : Option Bool) (o2 : Option Bool) (n0 : Nat) (n1 : Nat) (n2 : Nat) (k : Nat)
    (c0 : callP (evalFn Try.prog Try.cfg (k + 17)) 35 [V.sl o0 b0 n0 x0] = some (V.sl o1 b1 n1 x1))
    (c1 : callP (evalFn Try.prog Try.cfg (k + 17)) 42 [V.sl o1 b1 n1 x1, V.agg [V.int IntKind.u64 i0, V.int IntKind.u64 i1]] = some (V.tup [V.sl o2 b2 n2 x2, V.int IntKind.i64 i2]))
    (c2 : callP (evalFn Try.prog Try.cfg (k + 17)) 37 [V.agg [V.int IntKind.u64 i0, V.int IntKind.u64 i1]] = some (V.int IntKind.i64 i3))
    (c3 : callP (evalFn Try.prog Try.cfg (k + 17)) 38 [V.sl o1 b1 n1 x1] = some (V.bool b3))
    (c4 : (!b3) = false)
    (c5 : (!decide (i3 = 0)) = true)
    (c6 : callP (evalFn Try.prog Try.cfg (k + 17)) 39 [] = some (V.bool b4))
    (c7 : b4 = true)
    (c8 : decide (i2 = i3) = true) :
    callP (evalFn Try.prog Try.cfg (k + 18)) 10 [V.sl o0 b0 n0 x0, V.agg [V.int IntKind.u64 i0, V.int IntKind.u64 i1]] = some (V.bool (decide ((↑x2.length : Int) = 0))) :=
  byF (k := k) (d := 18) [Hn.call 9 (V.sl o1 b1 n1 x1), Hn.call 13 (V.tup [V.sl o2 b2 n2 x2, V.int IntKind.i64 i2]), Hn.call 17 (V.int IntKind.i64 i3), Hn.call 19 (V.bool b3), Hn.br 20 false, Hn.br 22 true, Hn.call 23 (V.bool b4), Hn.br 24 true, Hn.br 29 true] (And.intro c0 (And.intro c1 (And.intro c2 (And.intro c3 (And.intro c4 (And.intro c5 (And.intro c6 (And.intro c7 (And.intro c8 trivial))))))))) (by kernel_rfl)
theorem P10_4 (i0 : Int) (i1 : Int) (i2 : Int) (i3 : Int) (b0 : Bool) (b1 : Bool) (b2 : Bool) (b3 : Bool) (b4 : Bool) (x0 : List V) (x1 : List V) (x2 : List V) (o0 : Option Bool) (o1 : Option Bool) (o2 : Option Bool) (n0 : Nat) (n1 : Nat) (n2 : Nat) (k : Nat)
    (c0 : callP (evalFn Try.prog Try.cfg (k + 17)) 35 [V.sl o0 b0 n0 x0] = some (V.sl o1 b1 n1 x1))
    (c1 : callP (evalFn Try.prog Try.cfg (k + 17)) 42 [V.sl o1 b1 n1 x1, V.agg [V.int IntKind.u64 i0, V.int IntKind.u64 i1]] = some (V.tup [V.sl o2 b2 n2 x2, V.int IntKind.i64 i2]))
    (c2 : callP (evalFn Try.prog Try.cfg (k + 17)) 37 [V.agg [V.int IntKind.u64 i0, V.int IntKind.u64 i1]] = some (V.int IntKind.i64 i3))
    (c3 : callP (evalFn Try.prog Try.cfg (k + 17)) 38 [V.sl o1 b1 n1 x1] = some (V.bool b3))
    (c4 : (!b3) = false)
    (c5 : (!decide (i3 = 0)) = true)
    (c6 : callP (evalFn Try.prog Try.cfg (k + 17)) 39 [] = some (V.bool b4))
    (c7 : b4 = true)
    (c8 : decide (i2 = i3) = false) :
    callP (evalFn Try.prog Try.cfg (k + 18)) 10 [V.sl o0 b0 n0 x0, V.agg [V.int IntKind.u64 i0, V.int IntKind.u64 i1]] = some (V.bool false) :=
  byF (k := k) (d := 18) [Hn.call 9 (V.sl o1 b1 n1 x1), Hn.call 13 (V.tup [V.sl o2 b2 n2 x2, V.int IntKind.i64 i2]), Hn.call 17 (V.int IntKind.i64 i3), Hn.call 19 (V.bool b3), Hn.br 20 false, Hn.br 22 true, Hn.call 23 (V.bool b4), Hn.br 24 true, Hn.br 29 false] (And.intro c0 (And.intro c1 (And.intro c2 (And.intro c3 (And.intro c4 (And.intro c5 (And.intro c6 (And.intro c7 (And.intro c8 trivial))))))))) (by kernel_rfl)
theorem P10_5 (i0 : Int) (i1 : Int) (i2 : Int) (i3 : Int) (b0 : Bool) (b1 : Bool) (b2 : Bool) (b3 : Bool) (b4 : Bool) (x0 : List V) (x1 : List V) (x2 : List V) (o0 : Option Bool) (o1 : Option Bool) (o2 : Option Bool) (n0 : Nat) (n1 : Nat) (n2 : Nat) (k : Nat)
    (c0 : callP (evalFn Try.prog Try.cfg (k + 17)) 35 [V.sl o0 b0 n0 x0] = some (V.sl o1 b1 n1 x1))
    (c1 : callP (evalFn Try.prog Try.cfg (k + 17)) 42 [V.sl o1 b1 n1 x1, V.agg [V.int IntKind.u64 i0, V.int IntKind.u64 i1]] = some (V.tup [V.sl o2 b2 n2 x2, V.int IntKind.i64 i2]))
    (c2 : callP (evalFn Try.prog Try.cfg (k + 17)) 37 [V.agg [V.int IntKind.u64 i0, V.int IntKind.u64 i1]] = some (V.int IntKind.i64 i3))
    (c3 : callP (evalFn Try.prog Try.cfg (k + 17)) 38 [V.sl o1 b1 n1 x1] = some (V.bool b3))
    (c4 : (!b3) = false)
    (c5 : (!decide (i3 = 0)) = true)
    (c6 : callP (evalFn Try.prog Try.cfg (k + 17)) 39 [] = some (V.bool b4))
    (c7 : b4 = false) :
    callP (evalFn Try.prog Try.cfg (k + 18)) 10 [V.sl o0 b0 n0 x0, V.agg [V.int IntKind.u64 i0, V.int IntKind.u64 i1]] = some (V.bool false) :=
  byF (k := k) (d := 18) [Hn.call 9 (V.sl o1 b1 n1 x1), Hn.call 13 (V.tup [V.sl o2 b2 n2 x2, V.int IntKind.i64 i2]), Hn.call 17 (V.int IntKind.i64 i3), Hn.call 19 (V.bool b3), Hn.br 20 false, Hn.br 22 true, Hn.call 23 (V.bool b4), Hn.br 24 false] (And.intro c0 (And.intro c1 (And.intro c2 (And.intro c3 (And.intro c4 (And.intro c5 (And.intro c6 (And.intro c7 trivial)))))))) (by kernel_rfl)
theorem P10_6 (i0 : Int) (i1 : Int) (i2 : Int) (i3 : Int) (b0 : Bool) (b1 : Bool) (b2 : Bool) (b3 : Bool) (b4 : Bool) (b5 : Bool) (b6 : Bool) (x0 : List V) (x1 : List V) (x2 : List V) (x3 : List V) (o0 : Option Bool) (o1 : Option Bool) (o2 : Option Bool) (o3 : Option Bool) (n0 : Nat) (n1 : Nat) (n2 : Nat) (n3 : Nat) (k : Nat)
    (c0 : callP (evalFn Try.prog Try.cfg (k + 17)) 35 [V.sl o0 b0 n0 x0] = some (V.sl o1 b1 n1 x1))
    (c1 : callP (evalFn Try.prog Try.cfg (k + 17)) 42 [V.sl o1 b1 n1 x1, V.agg [V.int IntKind.u64 i0, V.int IntKind.u64 i1]] = some (V.tup [V.sl o2 b2 n2 x2, V.int IntKind.i64 i2]))
    (c2 : callP (evalFn Try.prog Try.cfg (k + 17)) 37 [V.agg [V.int IntKind.u64 i0, V.int IntKind.u64 i1]] = some (V.int IntKind.i64 i3))
    (c3 : callP (evalFn Try.prog Try.cfg (k + 17)) 38 [V.sl o1 b1 n1 x1] = some (V.bool b3))
    (c4 : (!b3) = false)
    (c5 : (!decide (i3 = 0)) = false)
    (c6 : callP (evalFn Try.prog Try.cfg (k + 17)) 39 [] = some (V.bool b4))
    (c7 : b4 = true)
    (c8 : decide (i2 = 0) = true)
    (c9 : callP (evalFn Try.prog Try.cfg (k + 17)) 43 [V.sl o1 b1 n1 x1, V.agg [V.int IntKind.u64 i0, V.int IntKind.u64 i1]] = some (V.sl o3 b5 n3 x3))
    (c10 : callP (evalFn Try.prog Try.cfg (k + 17)) 41 [V.sl o2 b2 n2 x2, V.sl o3 b5 n3 x3] = some (V.bool b6)) :
    callP (evalFn Try.prog Try.cfg (k + 18)) 10 [V.sl o0 b0 n0 x0, V.agg [V.int IntKind.u64 i0, V.int IntKind.u64 i1]] = some (V.bool b6) :=
  byF (k := k) (d := 18) [Hn.call 9 (V.sl o1 b1 n1 x1), Hn.call 13 (V.tup [V.sl o2 b2 n2 x2, V.int IntKind.i64 i2]), Hn.call 17 (V.int IntKind.i64 i3), Hn.call 19 (V.bool b3), Hn.br 20 false, Hn.br 22 false, Hn.call 34 (V.bool b4), Hn.br 35 true, Hn.br 39 true, Hn.call 43 (V.sl o3 b5 n3 x3), Hn.call 44 (V.bool b6)] (And.intro c0 (And.intro c1 (And.intro c2 (And.intro c3 (And.intro c4 (And.intro c5 (And.intro c6 (And.intro c7 (And.intro c8 (And.intro c9 (And.intro c10 trivial))))))))))) (by kernel_rfl)
theorem P10_7 (i0 : Int) (i1 : Int) (i2 : Int) (i3 : Int) (b0 : Bool) (b1 : Bool) (b2 : Bool) (b3 : Bool) (b4 : Bool) (x0 : List V) (x1 : List V) (x2 : List V) (o0 : Option Bool) (o1 : Option Bool) (o2 : Option Bool) (n0 : Nat) (n1 : Nat) (n2 : Nat) (k : Nat)
    (c0 : callP (evalFn Try.prog Try.cfg (k + 17)) 35 [V.sl o0 b0 n0 x0] = some (V.sl o1 b1 n1 x1))
    (c1 : callP (evalFn Try.prog Try.cfg (k + 17)) 42 [V.sl o1 b1 n1 x1, V.agg [V.int IntKind.u64 i0, V.int IntKind.u64 i1]] = some (V.tup [V.sl o2 b2 n2 x2, V.int IntKind.i64 i2]))
    (c2 : callP (evalFn Try.prog Try.cfg (k + 17)) 37 [V.agg [V.int IntKind.u64 i0, V.int IntKind.u64 i1]] = some (V.int IntKind.i64 i3))
    (c3 : callP (evalFn Try.prog Try.cfg (k + 17)) 38 [V.sl o1 b1 n1 x1] = some (V.bool b3))
    (c4 : (!b3) = false)
    (c5 : (!decide (i3 = 0)) = false)
    (c6 : callP (evalFn Try.prog Try.cfg (k + 17)) 39 [] = some (V.bool b4))
    (c7 : b4 = true)
    (c8 : decide (i2 = 0) = false) :
    callP (evalFn Try.prog Try.cfg (k + 18)) 10 [V.sl o0 b0 n0 x0, V.agg [V.int IntKind.u64 i0, V.int IntKind.u64 i1]] = some (V.bool false) :=
  byF (k := k) (d := 18) [Hn.call 9 (V.sl o1 b1 n1 x1), Hn.call 13 (V.tup [V.sl o2 b2 n2 x2, V.int IntKind.i64 i2]), Hn.call 17 (V.int IntKind.i64 i3), Hn.call 19 (V.bool b3), Hn.br 20 false, Hn.br 22 false, Hn.call 34 (V.bool b4), Hn.br 35 true, Hn.br 39 false] (And.intro c0 (And.intro c1 (And.intro c2 (And.intro c3 (And.intro c4 (And.intro c5 (And.intro c6 (And.intro c7 (And.intro c8 trivial))))))))) (by kernel_rfl)
theorem P10_8 (i0 : Int) (i1 : Int) (i2 : Int) (i3 : Int) (b0 : Bool) (b1 : Bool) (b2 : Bool) (b3 : Bool) (b4 : Bool) (x0 : List V) (x1 : List V) (x2 : List V) (o0 : Option Bool) (o1 : Option Bool) (o2 : Option Bool) (n0 : Nat) (n1 : Nat) (n2 : Nat) (k : Nat)
    (c0 : callP (evalFn Try.prog Try.cfg (k + 17)) 35 [V.sl o0 b0 n0 x0] = some (V.sl o1 b1 n1 x1))
    (c1 : callP (evalFn Try.prog Try.cfg (k + 17)) 42 [V.sl o1 b1 n1 x1, V.agg [V.int IntKind.u64 i0, V.int IntKind.u64 i1]] = some (V.tup [V.sl o2 b2 n2 x2, V.int IntKind.i64 i2]))
    (c2 : callP (evalFn Try.prog Try.cfg (k + 17)) 37 [V.agg [V.int IntKind.u64 i0, V.int IntKind.u64 i1]] = some (V.int IntKind.i64 i3))
    (c3 : callP (evalFn Try.prog Try.cfg (k + 17)) 38 [V.sl o1 b1 n1 x1] = some (V.bool b3))
    (c4 : (!b3) = false)
    (c5 : (!decide (i3 = 0)) = false)
    (c6 : callP (evalFn Try.prog Try.cfg (k + 17)) 39 [] = some (V.bool b4))
    (c7 : b4 = false) :
    callP (evalFn Try.prog Try.cfg (k + 18)) 10 [V.sl o0 b0 n0 x0, V.agg [V.int IntKind.u64 i0, V.int IntKind.u64 i1]] = some (V.bool false) :=
  byF (k := k) (d := 18) [Hn.call 9 (V.sl o1 b1 n1 x1), Hn.call 13 (V.tup [V.sl o2 b2 n2 x2, V.int IntKind.i64 i2]), Hn.call 17 (V.int IntKind.i64 i3), Hn.call 19 (V.bool b3), Hn.br 20 false, Hn.br 22 false, Hn.call 34 (V.bool b4), Hn.br 35 false] (And.intro c0 (And.intro c1 (And.intro c2 (And.intro c3 (And.intro c4 (And.intro c5 (And.intro c6 (And.intro c7 trivial)))))))) (by kernel_rfl)
def F10 (k : Nat) (o0 : Option Bool) (b0 : Bool) (n0 : Nat) (x0 : List V) (i0 : Int) (i1 : Int) : Option (Bool) :=
  ((F35 (k + 14) (o0) (b0) (n0) (x0)).bind fun (o1, b1, n1, x1) => ((F42 (k + 5) (o1) (b1) (n1) (x1) (i0) (i1)).bind fun (o2, b2, n2, x2, i2) => ((F37 (k + 11) (i0) (i1)).bind fun i3 => ((F38 (k + 11) (o1) (b1) (n1) (x1)).bind fun b3 => (bif !b3 then ((F39 (k + 2)).bind fun b4 => (bif b4 then (bif decide (i2 = 1) then (some (decide ((↑x2.length : Int) = 0))) else (some (false))) else (some (false)))) else (bif !decide (i3 = 0) then ((F39 (k + 2)).bind fun b4 => (bif b4 then (bif decide (i2 = i3) then (some (decide ((↑x2.length : Int) = 0))) else (some (false))) else (some (false)))) else ((F39 (k + 2)).bind fun b4 => (bif b4 then (bif decide (i2 = 0) then ((F43 (k + 5) (o1) (b1) (n1) (x1) (i0) (i1)).bind fun (o3, b5, n3, x3) => ((F41 (k + 14) (o2) (b2) (n2) (x2) (o3) (b5) (n3) (x3)).bind fun b6 => (some (b6)))) else (some (false))) else (some (false))))))))))
theorem F10_ok {o0 : Option Bool} {b0 : Bool} {n0 : Nat} {x0 : List V} {i0 : Int} {i1 : Int} {k : Nat} {r : Bool} (h : F10 k o0 b0 n0 x0 i0 i1 = some r) :
    callP (evalFn Try.prog Try.cfg (k + 18)) 10 [V.sl o0 b0 n0 x0, V.agg [V.int IntKind.u64 i0, V.int IntKind.u64 i1]] = some (V.bool r) := by
  unfold F10 at h
  obtain ⟨⟨o1, b1, n1, x1⟩, e0, h⟩ := Option.bind_eq_some_iff.1 h
  obtain ⟨⟨o2, b2, n2, x2, i2⟩, e1, h⟩ := Option.bind_eq_some_iff.1 h
  obtain ⟨i3, e2, h⟩ := Option.bind_eq_some_iff.1 h
  obtain ⟨b3, e3, h⟩ := Option.bind_eq_some_iff.1 h
  rcases cond_elim h with ⟨e4, h⟩ | ⟨e4, h⟩
  ·
    obtain ⟨b4, e5, h⟩ := Option.bind_eq_some_iff.1 h
    rcases cond_elim h with ⟨e6, h⟩ | ⟨e6, h⟩
    ·
      rcases cond_elim h with ⟨e7, h⟩ | ⟨e7, h⟩
      ·
        have h := Option.some.inj h; subst h; exact P10_0 i0 i1 i2 i3 b0 b1 b2 b3 b4 x0 x1 x2 o0 o1 o2 n0 n1 n2 k (F35_ok e0) (F42_ok e1) (F37_ok e2) (F38_ok e3) e4 (F39_ok e5) e6 e7
      ·
        have h := Option.some.inj h; subst h; exact P10_1 i0 i1 i2 i3 b0 b1 b2 b3 b4 x0 x1 x2 o0 o1 o2 n0 n1 n2 k (F35_ok e0) (F42_ok e1) (F37_ok e2) (F38_ok e3) e4 (F39_ok e5) e6 e7
    ·
      have h := Option.some.inj h; subst h; exact P10_2 i0 i1 i2 i3 b0 b1 b2 b3 b4 x0 x1 x2 o0 o1 o2 n0 n1 n2 k (F35_ok e0) (F42_ok e1) (F37_ok e2) (F38_ok e3) e4 (F39_ok e5) e6
  ·
    rcases cond_elim h with ⟨e5, h⟩ | ⟨e5, h⟩
    ·
      obtain ⟨b4, e6, h⟩ := Option.bind_eq_some_iff.1 h
      rcases cond_elim h with ⟨e7, h⟩ | ⟨e7, h⟩
      ·
        rcases cond_elim h with ⟨e8, h⟩ | ⟨e8, h⟩
        ·
          have h := Option.some.inj h; subst h; exact P10_3 i0 i1 i2 i3 b0 b1 b2 b3 b4 x0 x1 x2 o0 o1 o2 n0 n1 n2 k (F35_ok e0) (F42_ok e1) (F37_ok e2) (F38_ok e3) e4 e5 (F39_ok e6) e7 e8
        ·
          have h := Option.some.inj h; subst h; exact P10_4 i0 i1 i2 i3 b0 b1 b2 b3 b4 x0 x1 x2 o0 o1 o2 n0 n1 n2 k (F35_ok e0) (F42_ok e1) (F37_ok e2) (F38_ok e3) e4 e5 (F39_ok e6) e7 e8
      ·
        have h := Option.some.inj h; subst h; exact P10_5 i0 i1 i2 i3 b0 b1 b2 b3 b4 x0 x1 x2 o0 o1 o2 n0 n1 n2 k (F35_ok e0) (F42_ok e1) (F37_ok e2) (F38_ok e3) e4 e5 (F39_ok e6) e7
    ·
      obtain ⟨b4, e6, h⟩ := Option.bind_eq_some_iff.1 h
      rcases cond_elim h with ⟨e7, h⟩ | ⟨e7, h⟩
      ·
        rcases cond_elim h with ⟨e8, h⟩ | ⟨e8, h⟩
        ·
          obtain ⟨⟨o3, b5, n3, x3⟩, e9, h⟩ := Option.bind_eq_some_iff.1 h
          obtain ⟨b6, e10, h⟩ := Option.bind_eq_some_iff.1 h
          have h := Option.some.inj h; subst h; exact P10_6 i0 i1 i2 i3 b0 b1 b2 b3 b4 b5 b6 x0 x1 x2 x3 o0 o1 o2 o3 n0 n1 n2 n3 k (F35_ok e0) (F42_ok e1) (F37_ok e2) (F38_ok e3) e4 e5 (F39_ok e6) e7 e8 (F43_ok e9) (F41_ok e10)
        ·
          have h := Option.some.inj h; subst h; exact P10_7 i0 i1 i2 i3 b0 b1 b2 b3 b4 x0 x1 x2 o0 o1 o2 n0 n1 n2 k (F35_ok e0) (F42_ok e1) (F37_ok e2) (F38_ok e3) e4 e5 (F39_ok e6) e7 e8
      ·
        have h := Option.some.inj h; subst h; exact P10_8 i0 i1 i2 i3 b0 b1 b2 b3 b4 x0 x1 x2 o0 o1 o2 n0 n1 n2 k (F35_ok e0) (F42_ok e1) (F37_ok e2) (F38_ok e3) e4 e5 (F39_ok e6) e7
end Go.Proofs
