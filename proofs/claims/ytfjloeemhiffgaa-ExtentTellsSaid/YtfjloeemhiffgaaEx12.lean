/-
  What the law ExtentTells answers, checked against the program.
-/
import Derived.Test.YtfjloeemhiffgaaExD
set_option linter.unusedVariables false
set_option maxHeartbeats 0
set_option maxRecDepth 100000
namespace Go.Proofs
open Go Go.Sym

theorem P12_0 (i0 : Int) (i1 : Int) (i2 : Int) (i3 : Int) (i4 : Int) (b0 : Bool) (b1 : Bool) (b2 : Bool) (b3 : Bool) (b4 : Bool) (b5 : Bool) (x0 : List V) (x1 : List V) (x2 : List V) (x3 : List V) (o0 : Option Bool) (o1 : Option Bool) (o2 : Option Bool) (o3 : Option Bool) (n0 : Nat) (n1 : Nat) (n2 : Nat) (n3 : Nat) (k : Nat)
    (c0 : callP (evalFn Try.prog Try.cfg (k + 17)) 35 [V.sl o0 b0 n0 x0] = some (V.sl o2 b2 n2 x2))
    (c1 : callP (evalFn Try.prog Try.cfg (k + 17)) 35 [V.sl o1 b1 n1 x1] = some (V.sl o3 b3 n3 x3))
    (c2 : callP (evalFn Try.prog Try.cfg (k + 17)) 46 [V.sl o2 b2 n2 x2] = some (V.tup [V.int IntKind.u64 i1, V.int IntKind.i64 i2]))
    (c3 : callP (evalFn Try.prog Try.cfg (k + 17)) 44 [V.sl o2 b2 n2 x2, V.int IntKind.u64 i0] = some (V.tup [V.int IntKind.i64 i3, V.int IntKind.i64 i4]))
    (c4 : callP (evalFn Try.prog Try.cfg (k + 17)) 45 [V.sl o2 b2 n2 x2] = some (V.bool b4))
    (c5 : callP (evalFn Try.prog Try.cfg (k + 17)) 38 [V.sl o2 b2 n2 x2] = some (V.bool b5))
    (c6 : (!decide (b4 = b5)) = true) :
    callP (evalFn Try.prog Try.cfg (k + 18)) 12 [V.sl o0 b0 n0 x0, V.sl o1 b1 n1 x1, V.int IntKind.u64 i0] = some (V.bool false) :=
  byF (k := k) (d := 18) [Hn.call 12 (V.sl o2 b2 n2 x2), Hn.call 14 (V.sl o3 b3 n3 x3), Hn.call 17 (V.tup [V.int IntKind.u64 i1, V.int IntKind.i64 i2]), Hn.call 23 (V.tup [V.int IntKind.i64 i3, V.int IntKind.i64 i4]), Hn.call 27 (V.bool b4), Hn.call 29 (V.bool b5), Hn.br 31 true] (And.intro c0 (And.intro c1 (And.intro c2 (And.intro c3 (And.intro c4 (And.intro c5 (And.intro c6 trivial))))))) (by kernel_rfl)
theorem P12_1 (i0 : Int) (i1 : Int) (i2 : Int) (i3 : Int) (i4 : Int) (b0 : Bool) (b1 : Bool) (b2 : Bool) (b3 : Bool) (b4 : Bool) (b5 : Bool) (b6 : Bool) (b7 : Bool) (x0 : List V) (x1 : List V) (x2 : List V) (x3 : List V) (o0 : Option Bool) (o1 : Option Bool) (o2 : Option Bool) (o3 : Option Bool) (n0 : Nat) (n1 : Nat) (n2 : Nat) (n3 : Nat) (k : Nat)
    (c0 : callP (evalFn Try.prog Try.cfg (k + 17)) 35 [V.sl o0 b0 n0 x0] = some (V.sl o2 b2 n2 x2))
    (c1 : callP (evalFn Try.prog Try.cfg (k + 17)) 35 [V.sl o1 b1 n1 x1] = some (V.sl o3 b3 n3 x3))
    (c2 : callP (evalFn Try.prog Try.cfg (k + 17)) 46 [V.sl o2 b2 n2 x2] = some (V.tup [V.int IntKind.u64 i1, V.int IntKind.i64 i2]))
    (c3 : callP (evalFn Try.prog Try.cfg (k + 17)) 44 [V.sl o2 b2 n2 x2, V.int IntKind.u64 i0] = some (V.tup [V.int IntKind.i64 i3, V.int IntKind.i64 i4]))
    (c4 : callP (evalFn Try.prog Try.cfg (k + 17)) 45 [V.sl o2 b2 n2 x2] = some (V.bool b4))
    (c5 : callP (evalFn Try.prog Try.cfg (k + 17)) 38 [V.sl o2 b2 n2 x2] = some (V.bool b5))
    (c6 : (!decide (b4 = b5)) = false)
    (c7 : callP (evalFn Try.prog Try.cfg (k + 17)) 47 [V.sl o2 b2 n2 x2, V.sl o3 b3 n3 x3] = some (V.bool b6))
    (c8 : callP (evalFn Try.prog Try.cfg (k + 17)) 41 [V.sl o2 b2 n2 x2, V.sl o3 b3 n3 x3] = some (V.bool b7))
    (c9 : (!decide (b6 = b7)) = true) :
    callP (evalFn Try.prog Try.cfg (k + 18)) 12 [V.sl o0 b0 n0 x0, V.sl o1 b1 n1 x1, V.int IntKind.u64 i0] = some (V.bool false) :=
  byF (k := k) (d := 18) [Hn.call 12 (V.sl o2 b2 n2 x2), Hn.call 14 (V.sl o3 b3 n3 x3), Hn.call 17 (V.tup [V.int IntKind.u64 i1, V.int IntKind.i64 i2]), Hn.call 23 (V.tup [V.int IntKind.i64 i3, V.int IntKind.i64 i4]), Hn.call 27 (V.bool b4), Hn.call 29 (V.bool b5), Hn.br 31 false, Hn.call 34 (V.bool b6), Hn.call 37 (V.bool b7), Hn.br 40 true] (And.intro c0 (And.intro c1 (And.intro c2 (And.intro c3 (And.intro c4 (And.intro c5 (And.intro c6 (And.intro c7 (And.intro c8 (And.intro c9 trivial)))))))))) (by kernel_rfl)
theorem P12_2 (i0 : Int) (i1 : Int) (i2 : Int) (i3 : Int) (i4 : Int) (b0 : Bool) (b1 : Bool) (b2 : Bool) (b3 : Bool) (b4 : Bool) (b5 : Bool) (b6 : Bool) (b7 : Bool) (b8 : Bool) (x0 : List V) (x1 : List V) (x2 : List V) (x3 : List V) (o0 : Option Bool) (o1 : Option Bool) (o2 : Option Bool) (o3 : Option Bool) (n0 : Nat) (n1 : Nat) (n2 : Nat) (n3 : Nat) (k : Nat)
    (c0 : callP (evalFn Try.prog Try.cfg (k + 17)) 35 [V.sl o0 b0 n0 x0] = some (V.sl o2 b2 n2 x2))
    (c1 : callP (evalFn Try.prog Try.cfg (k + 17)) 35 [V.sl o1 b1 n1 x1] = some (V.sl o3 b3 n3 x3))
    (c2 : callP (evalFn Try.prog Try.cfg (k + 17)) 46 [V.sl o2 b2 n2 x2] = some (V.tup [V.int IntKind.u64 i1, V.int IntKind.i64 i2]))
    (c3 : callP (evalFn Try.prog Try.cfg (k + 17)) 44 [V.sl o2 b2 n2 x2, V.int IntKind.u64 i0] = some (V.tup [V.int IntKind.i64 i3, V.int IntKind.i64 i4]))
    (c4 : callP (evalFn Try.prog Try.cfg (k + 17)) 45 [V.sl o2 b2 n2 x2] = some (V.bool b4))
    (c5 : callP (evalFn Try.prog Try.cfg (k + 17)) 38 [V.sl o2 b2 n2 x2] = some (V.bool b5))
    (c6 : (!decide (b4 = b5)) = false)
    (c7 : callP (evalFn Try.prog Try.cfg (k + 17)) 47 [V.sl o2 b2 n2 x2, V.sl o3 b3 n3 x3] = some (V.bool b6))
    (c8 : callP (evalFn Try.prog Try.cfg (k + 17)) 41 [V.sl o2 b2 n2 x2, V.sl o3 b3 n3 x3] = some (V.bool b7))
    (c9 : (!decide (b6 = b7)) = false)
    (c10 : callP (evalFn Try.prog Try.cfg (k + 17)) 47 [V.sl o2 b2 n2 x2, V.sl o2 b2 n2 x2] = some (V.bool b8))
    (c11 : (!b8) = true) :
    callP (evalFn Try.prog Try.cfg (k + 18)) 12 [V.sl o0 b0 n0 x0, V.sl o1 b1 n1 x1, V.int IntKind.u64 i0] = some (V.bool false) :=
  byF (k := k) (d := 18) [Hn.call 12 (V.sl o2 b2 n2 x2), Hn.call 14 (V.sl o3 b3 n3 x3), Hn.call 17 (V.tup [V.int IntKind.u64 i1, V.int IntKind.i64 i2]), Hn.call 23 (V.tup [V.int IntKind.i64 i3, V.int IntKind.i64 i4]), Hn.call 27 (V.bool b4), Hn.call 29 (V.bool b5), Hn.br 31 false, Hn.call 34 (V.bool b6), Hn.call 37 (V.bool b7), Hn.br 40 false, Hn.call 43 (V.bool b8), Hn.br 46 true] (And.intro c0 (And.intro c1 (And.intro c2 (And.intro c3 (And.intro c4 (And.intro c5 (And.intro c6 (And.intro c7 (And.intro c8 (And.intro c9 (And.intro c10 (And.intro c11 trivial)))))))))))) (by kernel_rfl)
theorem P12_3 (i0 : Int) (i1 : Int) (i2 : Int) (i3 : Int) (i4 : Int) (b0 : Bool) (b1 : Bool) (b2 : Bool) (b3 : Bool) (b4 : Bool) (b5 : Bool) (b6 : Bool) (b7 : Bool) (b8 : Bool) (b9 : Bool) (x0 : List V) (x1 : List V) (x2 : List V) (x3 : List V) (o0 : Option Bool) (o1 : Option Bool) (o2 : Option Bool) (o3 : Option Bool) (n0 : Nat) (n1 : Nat) (n2 : Nat) (n3 : Nat) (k : Nat)
    (c0 : callP (evalFn Try.prog Try.cfg (k + 17)) 35 [V.sl o0 b0 n0 x0] = some (V.sl o2 b2 n2 x2))
    (c1 : callP (evalFn Try.prog Try.cfg (k + 17)) 35 [V.sl o1 b1 n1 x1] = some (V.sl o3 b3 n3 x3))
    (c2 : callP (evalFn Try.prog Try.cfg (k + 17)) 46 [V.sl o2 b2 n2 x2] = some (V.tup [V.int IntKind.u64 i1, V.int IntKind.i64 i2]))
    (c3 : callP (evalFn Try.prog Try.cfg (k + 17)) 44 [V.sl o2 b2 n2 x2, V.int IntKind.u64 i0] = some (V.tup [V.int IntKind.i64 i3, V.int IntKind.i64 i4]))
    (c4 : callP (evalFn Try.prog Try.cfg (k + 17)) 45 [V.sl o2 b2 n2 x2] = some (V.bool b4))
    (c5 : callP (evalFn Try.prog Try.cfg (k + 17)) 38 [V.sl o2 b2 n2 x2] = some (V.bool b5))
    (c6 : (!decide (b4 = b5)) = false)
    (c7 : callP (evalFn Try.prog Try.cfg (k + 17)) 47 [V.sl o2 b2 n2 x2, V.sl o3 b3 n3 x3] = some (V.bool b6))
    (c8 : callP (evalFn Try.prog Try.cfg (k + 17)) 41 [V.sl o2 b2 n2 x2, V.sl o3 b3 n3 x3] = some (V.bool b7))
    (c9 : (!decide (b6 = b7)) = false)
    (c10 : callP (evalFn Try.prog Try.cfg (k + 17)) 47 [V.sl o2 b2 n2 x2, V.sl o2 b2 n2 x2] = some (V.bool b8))
    (c11 : (!b8) = false)
    (c12 : callP (evalFn Try.prog Try.cfg (k + 17)) 39 [] = some (V.bool b9))
    (c13 : (!b9) = true) :
    callP (evalFn Try.prog Try.cfg (k + 18)) 12 [V.sl o0 b0 n0 x0, V.sl o1 b1 n1 x1, V.int IntKind.u64 i0] = some (V.bool false) :=
  byF (k := k) (d := 18) [Hn.call 12 (V.sl o2 b2 n2 x2), Hn.call 14 (V.sl o3 b3 n3 x3), Hn.call 17 (V.tup [V.int IntKind.u64 i1, V.int IntKind.i64 i2]), Hn.call 23 (V.tup [V.int IntKind.i64 i3, V.int IntKind.i64 i4]), Hn.call 27 (V.bool b4), Hn.call 29 (V.bool b5), Hn.br 31 false, Hn.call 34 (V.bool b6), Hn.call 37 (V.bool b7), Hn.br 40 false, Hn.call 43 (V.bool b8), Hn.br 46 false, Hn.call 47 (V.bool b9), Hn.br 49 true] (And.intro c0 (And.intro c1 (And.intro c2 (And.intro c3 (And.intro c4 (And.intro c5 (And.intro c6 (And.intro c7 (And.intro c8 (And.intro c9 (And.intro c10 (And.intro c11 (And.intro c12 (And.intro c13 trivial)))))))))))))) (by kernel_rfl)
theorem P12_4 (i0 : Int) (i1 : Int) (i2 : Int) (i3 : Int) (i4 : Int) (b0 : Bool) (b1 : Bool) (b2 : Bool) (b3 : Bool) (b4 : Bool) (b5 : Bool) (b6 : Bool) (b7 : Bool) (b8 : Bool) (b9 : Bool) (x0 : List V) (x1 : List V) (x2 : List V) (x3 : List V) (o0 : Option Bool) (o1 : Option Bool) (o2 : Option Bool) (o3 : Option Bool) (n0 : Nat) (n1 : Nat) (n2 : Nat) (n3 : Nat) (k : Nat)
    (c0 : callP (evalFn Try.prog Try.cfg (k + 17)) 35 [V.sl o0 b0 n0 x0] = some (V.sl o2 b2 n2 x2))
    (c1 : callP (evalFn Try.prog Try.cfg (k + 17)) 35 [V.sl o1 b1 n1 x1] = some (V.sl o3 b3 n3 x3))
    (c2 : callP (evalFn Try.prog Try.cfg (k + 17)) 46 [V.sl o2 b2 n2 x2] = some (V.tup [V.int IntKind.u64 i1, V.int IntKind.i64 i2]))
    (c3 : callP (evalFn Try.prog Try.cfg (k + 17)) 44 [V.sl o2 b2 n2 x2, V.int IntKind.u64 i0] = some (V.tup [V.int IntKind.i64 i3, V.int IntKind.i64 i4]))
    (c4 : callP (evalFn Try.prog Try.cfg (k + 17)) 45 [V.sl o2 b2 n2 x2] = some (V.bool b4))
    (c5 : callP (evalFn Try.prog Try.cfg (k + 17)) 38 [V.sl o2 b2 n2 x2] = some (V.bool b5))
    (c6 : (!decide (b4 = b5)) = false)
    (c7 : callP (evalFn Try.prog Try.cfg (k + 17)) 47 [V.sl o2 b2 n2 x2, V.sl o3 b3 n3 x3] = some (V.bool b6))
    (c8 : callP (evalFn Try.prog Try.cfg (k + 17)) 41 [V.sl o2 b2 n2 x2, V.sl o3 b3 n3 x3] = some (V.bool b7))
    (c9 : (!decide (b6 = b7)) = false)
    (c10 : callP (evalFn Try.prog Try.cfg (k + 17)) 47 [V.sl o2 b2 n2 x2, V.sl o2 b2 n2 x2] = some (V.bool b8))
    (c11 : (!b8) = false)
    (c12 : callP (evalFn Try.prog Try.cfg (k + 17)) 39 [] = some (V.bool b9))
    (c13 : (!b9) = false)
    (c14 : callP (evalFn Try.prog Try.cfg (k + 17)) 38 [V.sl o2 b2 n2 x2] = some (V.bool b5))
    (c15 : (!b5) = true)
    (c16 : decide (i2 = 1) = true)
    (c17 : decide (i4 = 1) = true)
    (c18 : decide (i1 = 0) = true) :
    callP (evalFn Try.prog Try.cfg (k + 18)) 12 [V.sl o0 b0 n0 x0, V.sl o1 b1 n1 x1, V.int IntKind.u64 i0] = some (V.bool (decide (i3 = 0))) :=
  byF (k := k) (d := 18) [Hn.call 12 (V.sl o2 b2 n2 x2), Hn.call 14 (V.sl o3 b3 n3 x3), Hn.call 17 (V.tup [V.int IntKind.u64 i1, V.int IntKind.i64 i2]), Hn.call 23 (V.tup [V.int IntKind.i64 i3, V.int IntKind.i64 i4]), Hn.call 27 (V.bool b4), Hn.call 29 (V.bool b5), Hn.br 31 false, Hn.call 34 (V.bool b6), Hn.call 37 (V.bool b7), Hn.br 40 false, Hn.call 43 (V.bool b8), Hn.br 46 false, Hn.call 47 (V.bool b9), Hn.br 49 false, Hn.call 51 (V.bool b5), Hn.br 52 true, Hn.br 55 true, Hn.br 59 true, Hn.br 63 true] (And.intro c0 (And.intro c1 (And.intro c2 (And.intro c3 (And.intro c4 (And.intro c5 (And.intro c6 (And.intro c7 (And.intro c8 (And.intro c9 (And.intro c10 (And.intro c11 (And.intro c12 (And.intro c13 (And.intro c14 (And.intro c15 (And.intro c16 (And.intro c17 (And.intro c18 trivial))))))))))))))))))) (by kernel_rfl)
theorem P12_5 (i0 : Int) (i1 : Int) (i2 : Int) (i3 : Int) (i4 : Int) (b0 : Bool) (b1 : Bool) (b2 : Bool) (b3 : Bool) (b4 : Bool) (b5 : Bool) (b6 : Bool) (b7 : Bool) (b8 : Bool) (b9 : Bool) (x0 : List V) (x1 : List V) (x2 : List V) (x3 : List V) (o0 : Option Bool) (o1 : Option Bool) (o2 : Option Bool) (o3 : Option Bool) (n0 : Nat) (n1 : Nat) (n2 : Nat) (n3 : Nat) (k : Nat)
    (c0 : callP (evalFn Try.prog Try.cfg (k + 17)) 35 [V.sl o0 b0 n0 x0] = some (V.sl o2 b2 n2 x2))
    (c1 : callP (evalFn Try.prog Try.cfg (k + 17)) 35 [V.sl o1 b1 n1 x1] = some (V.sl o3 b3 n3 x3))
    (c2 : callP (evalFn Try.prog Try.cfg (k + 17)) 46 [V.sl o2 b2 n2 x2] = some (V.tup [V.int IntKind.u64 i1, V.int IntKind.i64 i2]))
    (c3 : callP (evalFn Try.prog Try.cfg (k + 17)) 44 [V.sl o2 b2 n2 x2, V.int IntKind.u64 i0] = some (V.tup [V.int IntKind.i64 i3, V.int IntKind.i64 i4]))
    (c4 : callP (evalFn Try.prog Try.cfg (k + 17)) 45 [V.sl o2 b2 n2 x2] = some (V.bool b4))
    (c5 : callP (evalFn Try.prog Try.cfg (k + 17)) 38 [V.sl o2 b2 n2 x2] = some (V.bool b5))
    (c6 : (!decide (b4 = b5)) = false)
    (c7 : callP (evalFn Try.prog Try.cfg (k + 17)) 47 [V.sl o2 b2 n2 x2, V.sl o3 b3 n3 x3] = some (V.bool b6))
    (c8 : callP (evalFn Try.prog Try.cfg (k + 17)) 41 [V.sl o2 b2 n2 x2, V.sl o3 b3 n3 x3] = some (V.bool b7))
    (c9 : (!decide (b6 = b7)) = false)
    (c10 : callP (evalFn Try.prog Try.cfg (k + 17)) 47 [V.sl o2 b2 n2 x2, V.sl o2 b2 n2 x2] = some (V.bool b8))
    (c11 : (!b8) = false)
    (c12 : callP (evalFn Try.prog Try.cfg (k + 17)) 39 [] = some (V.bool b9))
    (c13 : (!b9) = false)
    (c14 : callP (evalFn Try.prog Try.cfg (k + 17)) 38 [V.sl o2 b2 n2 x2] = some (V.bool b5))
    (c15 : (!b5) = true)
    (c16 : decide (i2 = 1) = true)
    (c17 : decide (i4 = 1) = true)
    (c18 : decide (i1 = 0) = false) :
    callP (evalFn Try.prog Try.cfg (k + 18)) 12 [V.sl o0 b0 n0 x0, V.sl o1 b1 n1 x1, V.int IntKind.u64 i0] = some (V.bool false) :=
  byF (k := k) (d := 18) [Hn.call 12 (V.sl o2 b2 n2 x2), Hn.call 14 (V.sl o3 b3 n3 x3), Hn.call 17 (V.tup [V.int IntKind.u64 i1, V.int IntKind.i64 i2]), Hn.call 23 (V.tup [V.int IntKind.i64 i3, V.int IntKind.i64 i4]), Hn.call 27 (V.bool b4), Hn.call 29 (V.bool b5), Hn.br 31 false, Hn.call 34 (V.bool b6), Hn.call 37 (V.bool b7), Hn.br 40 false, Hn.call 43 (V.bool b8), Hn.br 46 false, Hn.call 47 (V.bool b9), Hn.br 49 false, Hn.call 51 (V.bool b5), Hn.br 52 true, Hn.br 55 true, Hn.br 59 true, Hn.br 63 false] (And.intro c0 (And.intro c1 (And.intro c2 (And.intro c3 (And.intro c4 (And.intro c5 (And.intro c6 (And.intro c7 (And.intro c8 (And.intro c9 (And.intro c10 (And.intro c11 (And.intro c12 (And.intro c13 (And.intro c14 (And.intro c15 (And.intro c16 (And.intro c17 (And.intro c18 trivial))))))))))))))))))) (by kernel_rfl)
theorem P12_6 (i0 : Int) (i1 : Int) (i2 : Int) (i3 : Int) (i4 : Int) (b0 : Bool) (b1 : Bool) (b2 : Bool) (b3 : Bool) (b4 : Bool) (b5 : Bool) (b6 : Bool) (b7 : Bool) (b8 : Bool) (b9 : Bool) (x0 : List V) (x1 : List V) (x2 : List V) (x3 : List V) (o0 : Option Bool) (o1 : Option Bool) (o2 : Option Bool) (o3 : Option Bool) (n0 : Nat) (n1 : Nat) (n2 : Nat) (n3 : Nat) (k : Nat)
    (c0 : callP (evalFn Try.prog Try.cfg (k + 17)) 35 [V.sl o0 b0 n0 x0] = some (V.sl o2 b2 n2 x2))
    (c1 : callP (evalFn Try.prog Try.cfg (k + 17)) 35 [V.sl o1 b1 n1 x1] = some (V.sl o3 b3 n3 x3))
    (c2 : callP (evalFn Try.prog Try.cfg (k + 17)) 46 [V.sl o2 b2 n2 x2] = some (V.tup [V.int IntKind.u64 i1, V.int IntKind.i64 i2]))
    (c3 : callP (evalFn Try.prog Try.cfg (k + 17)) 44 [V.sl o2 b2 n2 x2, V.int IntKind.u64 i0] = some (V.tup [V.int IntKind.i64 i3, V.int IntKind.i64 i4]))
    (c4 : callP (evalFn Try.prog Try.cfg (k + 17)) 45 [V.sl o2 b2 n2 x2] = some (V.bool b4))
    (c5 : callP (evalFn Try.prog Try.cfg (k + 17)) 38 [V.sl o2 b2 n2 x2] = some (V.bool b5))
    (c6 : (!decide (b4 = b5)) = false)
    (c7 : callP (evalFn Try.prog Try.cfg (k + 17)) 47 [V.sl o2 b2 n2 x2, V.sl o3 b3 n3 x3] = some (V.bool b6))
    (c8 : callP (evalFn Try.prog Try.cfg (k + 17)) 41 [V.sl o2 b2 n2 x2, V.sl o3 b3 n3 x3] = some (V.bool b7))
    (c9 : (!decide (b6 = b7)) = false)
    (c10 : callP (evalFn Try.prog Try.cfg (k + 17)) 47 [V.sl o2 b2 n2 x2, V.sl o2 b2 n2 x2] = some (V.bool b8))
    (c11 : (!b8) = false)
    (c12 : callP (evalFn Try.prog Try.cfg (k + 17)) 39 [] = some (V.bool b9))
    (c13 : (!b9) = false)
    (c14 : callP (evalFn Try.prog Try.cfg (k + 17)) 38 [V.sl o2 b2 n2 x2] = some (V.bool b5))
    (c15 : (!b5) = true)
    (c16 : decide (i2 = 1) = true)
    (c17 : decide (i4 = 1) = false) :
    callP (evalFn Try.prog Try.cfg (k + 18)) 12 [V.sl o0 b0 n0 x0, V.sl o1 b1 n1 x1, V.int IntKind.u64 i0] = some (V.bool false) :=
  byF (k := k) (d := 18) [Hn.call 12 (V.sl o2 b2 n2 x2), Hn.call 14 (V.sl o3 b3 n3 x3), Hn.call 17 (V.tup [V.int IntKind.u64 i1, V.int IntKind.i64 i2]), Hn.call 23 (V.tup [V.int IntKind.i64 i3, V.int IntKind.i64 i4]), Hn.call 27 (V.bool b4), Hn.call 29 (V.bool b5), Hn.br 31 false, Hn.call 34 (V.bool b6), Hn.call 37 (V.bool b7), Hn.br 40 false, Hn.call 43 (V.bool b8), Hn.br 46 false, Hn.call 47 (V.bool b9), Hn.br 49 false, Hn.call 51 (V.bool b5), Hn.br 52 true, Hn.br 55 true, Hn.br 59 false] (And.intro c0 (And.intro c1 (And.intro c2 (And.intro c3 (And.intro c4 (And.intro c5 (And.intro c6 (And.intro c7 (And.intro c8 (And.intro c9 (And.intro c10 (And.intro c11 (And.intro c12 (And.intro c13 (And.intro c14 (And.intro c15 (And.intro c16 (And.intro c17 trivial)))))))))))))))))) (by kernel_rfl)
theorem P12_7 (i0 : Int) (i1 : Int) (i2 : Int) (i3 : Int) (i4 : Int) (b0 : Bool) (b1 : Bool) (b2 : Bool) (b3 : Bool) (b4 : Bool) (b5 : Bool) (b6 : Bool) (b7 : Bool) (b8 : Bool) (b9 : Bool) (x0 : List V) (x1 : List V) (x2 : List V) (x3 : List V) (o0 : Option Bool) (o1 : Option Bool) (o2 : Option Bool) (o3 : Option Bool) (n0 : Nat) (n1 : Nat) (n2 : Nat) (n3 : Nat) (k : Nat)
    (c0 : callP (evalFn Try.prog Try.cfg (k + 17)) 35 [V.sl o0 b0 n0 x0] = some (V.sl o2 b2 n2 x2))
    (c1 : callP (evalFn Try.prog Try.cfg (k + 17)) 35 [V.sl o1 b1 n1 x1] = some (V.sl o3 b3 n3 x3))
    (c2 : callP (evalFn Try.prog Try.cfg (k + 17)) 46 [V.sl o2 b2 n2 x2] = some (V.tup [V.int IntKind.u64 i1, V.int IntKind.i64 i2]))
    (c3 : callP (evalFn Try.prog Try.cfg (k + 17)) 44 [V.sl o2 b2 n2 x2, V.int IntKind.u64 i0] = some (V.tup [V.int IntKind.i64 i3, V.int IntKind.i64 i4]))
    (c4 : callP (evalFn Try.prog Try.cfg (k + 17)) 45 [V.sl o2 b2 n2 x2] = some (V.bool b4))
    (c5 : callP (evalFn Try.prog Try.cfg (k + 17)) 38 [V.sl o2 b2 n2 x2] = some (V.bool b5))
    (c6 : (!decide (b4 = b5)) = false)
    (c7 : callP (evalFn Try.prog Try.cfg (k + 17)) 47 [V.sl o2 b2 n2 x2, V.sl o3 b3 n3 x3] = some (V.bool b6))
    (c8 : callP (evalFn Try.prog Try.cfg (k + 17)) 41 [V.sl o2 b2 n2 x2, V.sl o3 b3 n3 x3] = some (V.bool b7))
    (c9 : (!decide (b6 = b7)) = false)
    (c10 : callP (evalFn Try.prog Try.cfg (k + 17)) 47 [V.sl o2 b2 n2 x2, V.sl o2 b2 n2 x2] = some (V.bool b8))
    (c11 : (!b8) = false)
    (c12 : callP (evalFn Try.prog Try.cfg (k + 17)) 39 [] = some (V.bool b9))
    (c13 : (!b9) = false)
    (c14 : callP (evalFn Try.prog Try.cfg (k + 17)) 38 [V.sl o2 b2 n2 x2] = some (V.bool b5))
    (c15 : (!b5) = true)
    (c16 : decide (i2 = 1) = false) :
    callP (evalFn Try.prog Try.cfg (k + 18)) 12 [V.sl o0 b0 n0 x0, V.sl o1 b1 n1 x1, V.int IntKind.u64 i0] = some (V.bool false) :=
  byF (k := k) (d := 18) [Hn.call 12 (V.sl o2 b2 n2 x2), Hn.call 14 (V.sl o3 b3 n3 x3), Hn.call 17 (V.tup [V.int IntKind.u64 i1, V.int IntKind.i64 i2]), Hn.call 23 (V.tup [V.int IntKind.i64 i3, V.int IntKind.i64 i4]), Hn.call 27 (V.bool b4), Hn.call 29 (V.bool b5), Hn.br 31 false, Hn.call 34 (V.bool b6), Hn.call 37 (V.bool b7), Hn.br 40 false, Hn.call 43 (V.bool b8), Hn.br 46 false, Hn.call 47 (V.bool b9), Hn.br 49 false, Hn.call 51 (V.bool b5), Hn.br 52 true, Hn.br 55 false] (And.intro c0 (And.intro c1 (And.intro c2 (And.intro c3 (And.intro c4 (And.intro c5 (And.intro c6 (And.intro c7 (And.intro c8 (And.intro c9 (And.intro c10 (And.intro c11 (And.intro c12 (And.intro c13 (And.intro c14 (And.intro c15 (And.intro c16 trivial))))))))))))))))) (by kernel_rfl)
theorem P12_8 (i0 : Int) (i1 : Int) (i2 : Int) (i3 : Int) (i4 : Int) (b0 : Bool) (b1 : Bool) (b2 : Bool) (b3 : Bool) (b4 : Bool) (b5 : Bool) (b6 : Bool) (b7 : Bool) (b8 : Bool) (b9 : Bool) (x0 : List V) (x1 : List V) (x2 : List V) (x3 : List V) (o0 : Option Bool) (o1 : Option Bool) (o2 : Option Bool) (o3 : Option Bool) (n0 : Nat) (n1 : Nat) (n2 : Nat) (n3 : Nat) (k : Nat)
    (c0 : callP (evalFn Try.prog Try.cfg (k + 17)) 35 [V.sl o0 b0 n0 x0] = some (V.sl o2 b2 n2 x2))
    (c1 : callP (evalFn Try.prog Try.cfg (k + 17)) 35 [V.sl o1 b1 n1 x1] = some (V.sl o3 b3 n3 x3))
    (c2 : callP (evalFn Try.prog Try.cfg (k + 17)) 46 [V.sl o2 b2 n2 x2] = some (V.tup [V.int IntKind.u64 i1, V.int IntKind.i64 i2]))
    (c3 : callP (evalFn Try.prog Try.cfg (k + 17)) 44 [V.sl o2 b2 n2 x2, V.int IntKind.u64 i0] = some (V.tup [V.int IntKind.i64 i3, V.int IntKind.i64 i4]))
    (c4 : callP (evalFn Try.prog Try.cfg (k + 17)) 45 [V.sl o2 b2 n2 x2] = some (V.bool b4))
    (c5 : callP (evalFn Try.prog Try.cfg (k + 17)) 38 [V.sl o2 b2 n2 x2] = some (V.bool b5))
    (c6 : (!decide (b4 = b5)) = false)
    (c7 : callP (evalFn Try.prog Try.cfg (k + 17)) 47 [V.sl o2 b2 n2 x2, V.sl o3 b3 n3 x3] = some (V.bool b6))
    (c8 : callP (evalFn Try.prog Try.cfg (k + 17)) 41 [V.sl o2 b2 n2 x2, V.sl o3 b3 n3 x3] = some (V.bool b7))
    (c9 : (!decide (b6 = b7)) = false)
    (c10 : callP (evalFn Try.prog Try.cfg (k + 17)) 47 [V.sl o2 b2 n2 x2, V.sl o2 b2 n2 x2] = some (V.bool b8))
    (c11 : (!b8) = false)
    (c12 : callP (evalFn Try.prog Try.cfg (k + 17)) 39 [] = some (V.bool b9))
    (c13 : (!b9) = false)
    (c14 : callP (evalFn Try.prog Try.cfg (k + 17)) 38 [V.sl o2 b2 n2 x2] = some (V.bool b5))
    (c15 : (!b5) = false)
    (c16 : (!decide (i2 = 0)) = true) :
    callP (evalFn Try.prog Try.cfg (k + 18)) 12 [V.sl o0 b0 n0 x0, V.sl o1 b1 n1 x1, V.int IntKind.u64 i0] = some (V.bool false) :=
  byF (k := k) (d := 18) [Hn.call 12 (V.sl o2 b2 n2 x2), Hn.call 14 (V.sl o3 b3 n3 x3), Hn.call 17 (V.tup [V.int IntKind.u64 i1, V.int IntKind.i64 i2]), Hn.call 23 (V.tup [V.int IntKind.i64 i3, V.int IntKind.i64 i4]), Hn.call 27 (V.bool b4), Hn.call 29 (V.bool b5), Hn.br 31 false, Hn.call 34 (V.bool b6), Hn.call 37 (V.bool b7), Hn.br 40 false, Hn.call 43 (V.bool b8), Hn.br 46 false, Hn.call 47 (V.bool b9), Hn.br 49 false, Hn.call 51 (V.bool b5), Hn.br 52 false, Hn.br 69 true] (And.intro c0 (And.intro c1 (And.intro c2 (And.intro c3 (And.intro c4 (And.intro c5 (And.intro c6 (And.intro c7 (And.intro c8 (And.intro c9 (And.intro c10 (And.intro c11 (And.intro c12 (And.intro c13 (And.intro c14 (And.intro c15 (And.intro c16 trivial))))))))))))))))) (by kernel_rfl)
theorem P12_9 (i0 : Int) (i1 : Int) (i2 : Int) (i3 : Int) (i4 : Int) (i5 : Int) (b0 : Bool) (b1 : Bool) (b2 : Bool) (b3 : Bool) (b4 : Bool) (b5 : Bool) (b6 : Bool) (b7 : Bool) (b8 : Bool) (b9 : Bool) (x0 : List V) (x1 : List V) (x2 : List V) (x3 : List V) (o0 : Option Bool) (o1 : Option Bool) (o2 : Option Bool) (o3 : Option Bool) (n0 : Nat) (n1 : Nat) (n2 : Nat) (n3 : Nat) (k : Nat)
    (c0 : callP (evalFn Try.prog Try.cfg (k + 17)) 35 [V.sl o0 b0 n0 x0] = some (V.sl o2 b2 n2 x2))
    (c1 : callP (evalFn Try.prog Try.cfg (k + 17)) 35 [V.sl o1 b1 n1 x1] = some (V.sl o3 b3 n3 x3))
    (c2 : callP (evalFn Try.prog Try.cfg (k + 17)) 46 [V.sl o2 b2 n2 x2] = some (V.tup [V.int IntKind.u64 i1, V.int IntKind.i64 i2]))
    (c3 : callP (evalFn Try.prog Try.cfg (k + 17)) 44 [V.sl o2 b2 n2 x2, V.int IntKind.u64 i0] = some (V.tup [V.int IntKind.i64 i3, V.int IntKind.i64 i4]))
    (c4 : callP (evalFn Try.prog Try.cfg (k + 17)) 45 [V.sl o2 b2 n2 x2] = some (V.bool b4))
    (c5 : callP (evalFn Try.prog Try.cfg (k + 17)) 38 [V.sl o2 b2 n2 x2] = some (V.bool b5))
    (c6 : (!decide (b4 = b5)) = false)
    (c7 : callP (evalFn Try.prog Try.cfg (k + 17)) 47 [V.sl o2 b2 n2 x2, V.sl o3 b3 n3 x3] = some (V.bool b6))
    (c8 : callP (evalFn Try.prog Try.cfg (k + 17)) 41 [V.sl o2 b2 n2 x2, V.sl o3 b3 n3 x3] = some (V.bool b7))
    (c9 : (!decide (b6 = b7)) = false)
    (c10 : callP (evalFn Try.prog Try.cfg (k + 17)) 47 [V.sl o2 b2 n2 x2, V.sl o2 b2 n2 x2] = some (V.bool b8))
    (c11 : (!b8) = false)
    (c12 : callP (evalFn Try.prog Try.cfg (k + 17)) 39 [] = some (V.bool b9))
    (c13 : (!b9) = false)
    (c14 : callP (evalFn Try.prog Try.cfg (k + 17)) 38 [V.sl o2 b2 n2 x2] = some (V.bool b5))
    (c15 : (!b5) = false)
    (c16 : (!decide (i2 = 0)) = false)
    (c17 : callP (evalFn Try.prog Try.cfg (k + 17)) 48 [V.sl o2 b2 n2 x2] = some (V.int IntKind.u64 i5))
    (c18 : (!decide (i1 = i5)) = true) :
    callP (evalFn Try.prog Try.cfg (k + 18)) 12 [V.sl o0 b0 n0 x0, V.sl o1 b1 n1 x1, V.int IntKind.u64 i0] = some (V.bool false) :=
  byF (k := k) (d := 18) [Hn.call 12 (V.sl o2 b2 n2 x2), Hn.call 14 (V.sl o3 b3 n3 x3), Hn.call 17 (V.tup [V.int IntKind.u64 i1, V.int IntKind.i64 i2]), Hn.call 23 (V.tup [V.int IntKind.i64 i3, V.int IntKind.i64 i4]), Hn.call 27 (V.bool b4), Hn.call 29 (V.bool b5), Hn.br 31 false, Hn.call 34 (V.bool b6), Hn.call 37 (V.bool b7), Hn.br 40 false, Hn.call 43 (V.bool b8), Hn.br 46 false, Hn.call 47 (V.bool b9), Hn.br 49 false, Hn.call 51 (V.bool b5), Hn.br 52 false, Hn.br 69 false, Hn.call 72 (V.int IntKind.u64 i5), Hn.br 74 true] (And.intro c0 (And.intro c1 (And.intro c2 (And.intro c3 (And.intro c4 (And.intro c5 (And.intro c6 (And.intro c7 (And.intro c8 (And.intro c9 (And.intro c10 (And.intro c11 (And.intro c12 (And.intro c13 (And.intro c14 (And.intro c15 (And.intro c16 (And.intro c17 (And.intro c18 trivial))))))))))))))))))) (by kernel_rfl)
theorem P12_10 (i0 : Int) (i1 : Int) (i2 : Int) (i3 : Int) (i4 : Int) (i5 : Int) (b0 : Bool) (b1 : Bool) (b2 : Bool) (b3 : Bool) (b4 : Bool) (b5 : Bool) (b6 : Bool) (b7 : Bool) (b8 : Bool) (b9 : Bool) (x0 : List V) (x1 : List V) (x2 : List V) (x3 : List V) (o0 : Option Bool) (o1 : Option Bool) (o2 : Option Bool) (o3 : Option Bool) (n0 : Nat) (n1 : Nat) (n2 : Nat) (n3 : Nat) (k : Nat)
    (c0 : callP (evalFn Try.prog Try.cfg (k + 17)) 35 [V.sl o0 b0 n0 x0] = some (V.sl o2 b2 n2 x2))
    (c1 : callP (evalFn Try.prog Try.cfg (k + 17)) 35 [V.sl o1 b1 n1 x1] = some (V.sl o3 b3 n3 x3))
    (c2 : callP (evalFn Try.prog Try.cfg (k + 17)) 46 [V.sl o2 b2 n2 x2] = some (V.tup [V.int IntKind.u64 i1, V.int IntKind.i64 i2]))
    (c3 : callP (evalFn Try.prog Try.cfg (k + 17)) 44 [V.sl o2 b2 n2 x2, V.int IntKind.u64 i0] = some (V.tup [V.int IntKind.i64 i3, V.int IntKind.i64 i4]))
    (c4 : callP (evalFn Try.prog Try.cfg (k + 17)) 45 [V.sl o2 b2 n2 x2] = some (V.bool b4))
    (c5 : callP (evalFn Try.prog Try.cfg (k + 17)) 38 [V.sl o2 b2 n2 x2] = some (V.bool b5))
    (c6 : (!decide (b4 = b5)) = false)
    (c7 : callP (evalFn Try.prog Try.cfg (k + 17)) 47 [V.sl o2 b2 n2 x2, V.sl o3 b3 n3 x3] = some (V.bool b6))
    (c8 : callP (evalFn Try.prog Try.cfg (k + 17)) 41 [V.sl o2 b2 n2 x2, V.sl o3 b3 n3 x3] = some (V.bool b7))
    (c9 : (!decide (b6 = b7)) = false)
    (c10 : callP (evalFn Try.prog Try.cfg (k + 17)) 47 [V.sl o2 b2 n2 x2, V.sl o2 b2 n2 x2] = some (V.bool b8))
    (c11 : (!b8) = false)
    (c12 : callP (evalFn Try.prog Try.cfg (k + 17)) 39 [] = some (V.bool b9))
    (c13 : (!b9) = false)
    (c14 : callP (evalFn Try.prog Try.cfg (k + 17)) 38 [V.sl o2 b2 n2 x2] = some (V.bool b5))
    (c15 : (!b5) = false)
    (c16 : (!decide (i2 = 0)) = false)
    (c17 : callP (evalFn Try.prog Try.cfg (k + 17)) 48 [V.sl o2 b2 n2 x2] = some (V.int IntKind.u64 i5))
    (c18 : (!decide (i1 = i5)) = false)
    (c19 : decide (576460752303423488 ≤ i0) = true)
    (c20 : decide (i4 = 2) = true) :
    callP (evalFn Try.prog Try.cfg (k + 18)) 12 [V.sl o0 b0 n0 x0, V.sl o1 b1 n1 x1, V.int IntKind.u64 i0] = some (V.bool (decide (i3 = 0))) :=
  byF (k := k) (d := 18) [Hn.call 12 (V.sl o2 b2 n2 x2), Hn.call 14 (V.sl o3 b3 n3 x3), Hn.call 17 (V.tup [V.int IntKind.u64 i1, V.int IntKind.i64 i2]), Hn.call 23 (V.tup [V.int IntKind.i64 i3, V.int IntKind.i64 i4]), Hn.call 27 (V.bool b4), Hn.call 29 (V.bool b5), Hn.br 31 false, Hn.call 34 (V.bool b6), Hn.call 37 (V.bool b7), Hn.br 40 false, Hn.call 43 (V.bool b8), Hn.br 46 false, Hn.call 47 (V.bool b9), Hn.br 49 false, Hn.call 51 (V.bool b5), Hn.br 52 false, Hn.br 69 false, Hn.call 72 (V.int IntKind.u64 i5), Hn.br 74 false, Hn.br 76 true, Hn.br 79 true] (And.intro c0 (And.intro c1 (And.intro c2 (And.intro c3 (And.intro c4 (And.intro c5 (And.intro c6 (And.intro c7 (And.intro c8 (And.intro c9 (And.intro c10 (And.intro c11 (And.intro c12 (And.intro c13 (And.intro c14 (And.intro c15 (And.intro c16 (And.intro c17 (And.intro c18 (And.intro c19 (And.intro c20 trivial))))))))))))))))))))) (by kernel_rfl)
theorem P12_11 (i0 : Int) (i1 : Int) (i2 : Int) (i3 : Int) (i4 : Int) (i5 : Int) (b0 : Bool) (b1 : Bool) (b2 : Bool) (b3 : Bool) (b4 : Bool) (b5 : Bool) (b6 : Bool) (b7 : Bool) (b8 : Bool) (b9 : Bool) (x0 : List V) (x1 : List V) (x2 : List V) (x3 : List V) (o0 : Option Bool) (o1 : Option Bool) (o2 : Option Bool) (o3 : Option Bool) (n0 : Nat) (n1 : Nat) (n2 : Nat) (n3 : Nat) (k : Nat)
    (c0 : callP (evalFn Try.prog Try.cfg (k + 17)) 35 [V.sl o0 b0 n0 x0] = some (V.sl o2 b2 n2 x2))
    (c1 : callP (evalFn Try.prog Try.cfg (k + 17)) 35 [V.sl o1 b1 n1 x1] = some (V.sl o3 b3 n3 x3))
    (c2 : callP (evalFn Try.prog Try.cfg (k + 17)) 46 [V.sl o2 b2 n2 x2] = some (V.tup [V.int IntKind.u64 i1, V.int IntKind.i64 i2]))
    (c3 : callP (evalFn Try.prog Try.cfg (k + 17)) 44 [V.sl o2 b2 n2 x2, V.int IntKind.u64 i0] = some (V.tup [V.int IntKind.i64 i3, V.int IntKind.i64 i4]))
    (c4 : callP (evalFn Try.prog Try.cfg (k + 17)) 45 [V.sl o2 b2 n2 x2] = some (V.bool b4))
    (c5 : callP (evalFn Try.prog Try.cfg (k + 17)) 38 [V.sl o2 b2 n2 x2] = some (V.bool b5))
    (c6 : (!decide (b4 = b5)) = false)
    (c7 : callP (evalFn Try.prog Try.cfg (k + 17)) 47 [V.sl o2 b2 n2 x2, V.sl o3 b3 n3 x3] = some (V.bool b6))
    (c8 : callP (evalFn Try.prog Try.cfg (k + 17)) 41 [V.sl o2 b2 n2 x2, V.sl o3 b3 n3 x3] = some (V.bool b7))
    (c9 : (!decide (b6 = b7)) = false)
    (c10 : callP (evalFn Try.prog Try.cfg (k + 17)) 47 [V.sl o2 b2 n2 x2, V.sl o2 b2 n2 x2] = some (V.bool b8))
    (c11 : (!b8) = false)
    (c12 : callP (evalFn Try.prog Try.cfg (k + 17)) 39 [] = some (V.bool b9))
    (c13 : (!b9) = false)
    (c14 : callP (evalFn Try.prog Try.cfg (k + 17)) 38 [V.sl o2 b2 n2 x2] = some (V.bool b5))
    (c15 : (!b5) = false)
    (c16 : (!decide (i2 = 0)) = false)
    (c17 : callP (evalFn Try.prog Try.cfg (k + 17)) 48 [V.sl o2 b2 n2 x2] = some (V.int IntKind.u64 i5))
    (c18 : (!decide (i1 = i5)) = false)
    (c19 : decide (576460752303423488 ≤ i0) = true)
    (c20 : decide (i4 = 2) = false) :
    callP (evalFn Try.prog Try.cfg (k + 18)) 12 [V.sl o0 b0 n0 x0, V.sl o1 b1 n1 x1, V.int IntKind.u64 i0] = some (V.bool false) :=
  byF (k := k) (d := 18) [Hn.call 12 (V.sl o2 b2 n2 x2), Hn.call 14 (V.sl o3 b3 n3 x3), Hn.call 17 (V.tup [V.int IntKind.u64 i1, V.int IntKind.i64 i2]), Hn.call 23 (V.tup [V.int IntKind.i64 i3, V.int IntKind.i64 i4]), Hn.call 27 (V.bool b4), Hn.call 29 (V.bool b5), Hn.br 31 false, Hn.call 34 (V.bool b6), Hn.call 37 (V.bool b7), Hn.br 40 false, Hn.call 43 (V.bool b8), Hn.br 46 false, Hn.call 47 (V.bool b9), Hn.br 49 false, Hn.call 51 (V.bool b5), Hn.br 52 false, Hn.br 69 false, Hn.call 72 (V.int IntKind.u64 i5), Hn.br 74 false, Hn.br 76 true, Hn.br 79 false] (And.intro c0 (And.intro c1 (And.intro c2 (And.intro c3 (And.intro c4 (And.intro c5 (And.intro c6 (And.intro c7 (And.intro c8 (And.intro c9 (And.intro c10 (And.intro c11 (And.intro c12 (And.intro c13 (And.intro c14 (And.intro c15 (And.intro c16 (And.intro c17 (And.intro c18 (And.intro c19 (And.intro c20 trivial))))))))))))))))))))) (by kernel_rfl)
theorem P12_12 (i0 : Int) (i1 : Int) (i2 : Int) (i3 : Int) (i4 : Int) (i5 : Int) (i6 : Int) (b0 : Bool) (b1 : Bool) (b2 : Bool) (b3 : Bool) (b4 : Bool) (b5 : Bool) (b6 : Bool) (b7 : Bool) (b8 : Bool) (b9 : Bool) (x0 : List V) (x1 : List V) (x2 : List V) (x3 : List V) (o0 : Option Bool) (o1 : Option Bool) (o2 : Option Bool) (o3 : Option Bool) (n0 : Nat) (n1 : Nat) (n2 : Nat) (n3 : Nat) (k : Nat)
    (c0 : callP (evalFn Try.prog Try.cfg (k + 17)) 35 [V.sl o0 b0 n0 x0] = some (V.sl o2 b2 n2 x2))
    (c1 : callP (evalFn Try.prog Try.cfg (k + 17)) 35 [V.sl o1 b1 n1 x1] = some (V.sl o3 b3 n3 x3))
    (c2 : callP (evalFn Try.prog Try.cfg (k + 17)) 46 [V.sl o2 b2 n2 x2] = some (V.tup [V.int IntKind.u64 i1, V.int IntKind.i64 i2]))
    (c3 : callP (evalFn Try.prog Try.cfg (k + 17)) 44 [V.sl o2 b2 n2 x2, V.int IntKind.u64 i0] = some (V.tup [V.int IntKind.i64 i3, V.int IntKind.i64 i4]))
    (c4 : callP (evalFn Try.prog Try.cfg (k + 17)) 45 [V.sl o2 b2 n2 x2] = some (V.bool b4))
    (c5 : callP (evalFn Try.prog Try.cfg (k + 17)) 38 [V.sl o2 b2 n2 x2] = some (V.bool b5))
    (c6 : (!decide (b4 = b5)) = false)
    (c7 : callP (evalFn Try.prog Try.cfg (k + 17)) 47 [V.sl o2 b2 n2 x2, V.sl o3 b3 n3 x3] = some (V.bool b6))
    (c8 : callP (evalFn Try.prog Try.cfg (k + 17)) 41 [V.sl o2 b2 n2 x2, V.sl o3 b3 n3 x3] = some (V.bool b7))
    (c9 : (!decide (b6 = b7)) = false)
    (c10 : callP (evalFn Try.prog Try.cfg (k + 17)) 47 [V.sl o2 b2 n2 x2, V.sl o2 b2 n2 x2] = some (V.bool b8))
    (c11 : (!b8) = false)
    (c12 : callP (evalFn Try.prog Try.cfg (k + 17)) 39 [] = some (V.bool b9))
    (c13 : (!b9) = false)
    (c14 : callP (evalFn Try.prog Try.cfg (k + 17)) 38 [V.sl o2 b2 n2 x2] = some (V.bool b5))
    (c15 : (!b5) = false)
    (c16 : (!decide (i2 = 0)) = false)
    (c17 : callP (evalFn Try.prog Try.cfg (k + 17)) 48 [V.sl o2 b2 n2 x2] = some (V.int IntKind.u64 i5))
    (c18 : (!decide (i1 = i5)) = false)
    (c19 : decide (576460752303423488 ≤ i0) = false)
    (c20 : decide (i4 = 0) = true)
    (c21 : callP (evalFn Try.prog Try.cfg (k + 17)) 49 [V.sl o2 b2 n2 x2, V.int IntKind.u64 i0] = some (V.int IntKind.i64 i6)) :
    callP (evalFn Try.prog Try.cfg (k + 18)) 12 [V.sl o0 b0 n0 x0, V.sl o1 b1 n1 x1, V.int IntKind.u64 i0] = some (V.bool (decide (i3 = i6))) :=
  byF (k := k) (d := 18) [Hn.call 12 (V.sl o2 b2 n2 x2), Hn.call 14 (V.sl o3 b3 n3 x3), Hn.call 17 (V.tup [V.int IntKind.u64 i1, V.int IntKind.i64 i2]), Hn.call 23 (V.tup [V.int IntKind.i64 i3, V.int IntKind.i64 i4]), Hn.call 27 (V.bool b4), Hn.call 29 (V.bool b5), Hn.br 31 false, Hn.call 34 (V.bool b6), Hn.call 37 (V.bool b7), Hn.br 40 false, Hn.call 43 (V.bool b8), Hn.br 46 false, Hn.call 47 (V.bool b9), Hn.br 49 false, Hn.call 51 (V.bool b5), Hn.br 52 false, Hn.br 69 false, Hn.call 72 (V.int IntKind.u64 i5), Hn.br 74 false, Hn.br 76 false, Hn.br 85 true, Hn.call 89 (V.int IntKind.i64 i6)] (And.intro c0 (And.intro c1 (And.intro c2 (And.intro c3 (And.intro c4 (And.intro c5 (And.intro c6 (And.intro c7 (And.intro c8 (And.intro c9 (And.intro c10 (And.intro c11 (And.intro c12 (And.intro c13 (And.intro c14 (And.intro c15 (And.intro c16 (And.intro c17 (And.intro c18 (And.intro c19 (And.intro c20 (And.intro c21 trivial)))))))))))))))))))))) (by kernel_rfl)
theorem P12_13 (i0 : Int) (i1 : Int) (i2 : Int) (i3 : Int) (i4 : Int) (i5 : Int) (b0 : Bool) (b1 : Bool) (b2 : Bool) (b3 : Bool) (b4 : Bool) (b5 : Bool) (b6 : Bool) (b7 : Bool) (b8 : Bool) (b9 : Bool) (x0 : List V) (x1 : List V) (x2 : List V) (x3 : List V) (o0 : Option Bool) (o1 : Option Bool) (o2 : Option Bool) (o3 : Option Bool) (n0 : Nat) (n1 : Nat) (n2 : Nat) (n3 : Nat) (k : Nat)
    (c0 : callP (evalFn Try.prog Try.cfg (k + 17)) 35 [V.sl o0 b0 n0 x0] = some (V.sl o2 b2 n2 x2))
    (c1 : callP (evalFn Try.prog Try.cfg (k + 17)) 35 [V.sl o1 b1 n1 x1] = some (V.sl o3 b3 n3 x3))
    (c2 : callP (evalFn Try.prog Try.cfg (k + 17)) 46 [V.sl o2 b2 n2 x2] = some (V.tup [V.int IntKind.u64 i1, V.int IntKind.i64 i2]))
    (c3 : callP (evalFn Try.prog Try.cfg (k + 17)) 44 [V.sl o2 b2 n2 x2, V.int IntKind.u64 i0] = some (V.tup [V.int IntKind.i64 i3, V.int IntKind.i64 i4]))
    (c4 : callP (evalFn Try.prog Try.cfg (k + 17)) 45 [V.sl o2 b2 n2 x2] = some (V.bool b4))
    (c5 : callP (evalFn Try.prog Try.cfg (k + 17)) 38 [V.sl o2 b2 n2 x2] = some (V.bool b5))
    (c6 : (!decide (b4 = b5)) = false)
    (c7 : callP (evalFn Try.prog Try.cfg (k + 17)) 47 [V.sl o2 b2 n2 x2, V.sl o3 b3 n3 x3] = some (V.bool b6))
    (c8 : callP (evalFn Try.prog Try.cfg (k + 17)) 41 [V.sl o2 b2 n2 x2, V.sl o3 b3 n3 x3] = some (V.bool b7))
    (c9 : (!decide (b6 = b7)) = false)
    (c10 : callP (evalFn Try.prog Try.cfg (k + 17)) 47 [V.sl o2 b2 n2 x2, V.sl o2 b2 n2 x2] = some (V.bool b8))
    (c11 : (!b8) = false)
    (c12 : callP (evalFn Try.prog Try.cfg (k + 17)) 39 [] = some (V.bool b9))
    (c13 : (!b9) = false)
    (c14 : callP (evalFn Try.prog Try.cfg (k + 17)) 38 [V.sl o2 b2 n2 x2] = some (V.bool b5))
    (c15 : (!b5) = false)
    (c16 : (!decide (i2 = 0)) = false)
    (c17 : callP (evalFn Try.prog Try.cfg (k + 17)) 48 [V.sl o2 b2 n2 x2] = some (V.int IntKind.u64 i5))
    (c18 : (!decide (i1 = i5)) = false)
    (c19 : decide (576460752303423488 ≤ i0) = false)
    (c20 : decide (i4 = 0) = false) :
    callP (evalFn Try.prog Try.cfg (k + 18)) 12 [V.sl o0 b0 n0 x0, V.sl o1 b1 n1 x1, V.int IntKind.u64 i0] = some (V.bool false) :=
  byF (k := k) (d := 18) [Hn.call 12 (V.sl o2 b2 n2 x2), Hn.call 14 (V.sl o3 b3 n3 x3), Hn.call 17 (V.tup [V.int IntKind.u64 i1, V.int IntKind.i64 i2]), Hn.call 23 (V.tup [V.int IntKind.i64 i3, V.int IntKind.i64 i4]), Hn.call 27 (V.bool b4), Hn.call 29 (V.bool b5), Hn.br 31 false, Hn.call 34 (V.bool b6), Hn.call 37 (V.bool b7), Hn.br 40 false, Hn.call 43 (V.bool b8), Hn.br 46 false, Hn.call 47 (V.bool b9), Hn.br 49 false, Hn.call 51 (V.bool b5), Hn.br 52 false, Hn.br 69 false, Hn.call 72 (V.int IntKind.u64 i5), Hn.br 74 false, Hn.br 76 false, Hn.br 85 false] (And.intro c0 (And.intro c1 (And.intro c2 (And.intro c3 (And.intro c4 (And.intro c5 (And.intro c6 (And.intro c7 (And.intro c8 (And.intro c9 (And.intro c10 (And.intro c11 (And.intro c12 (And.intro c13 (And.intro c14 (And.intro c15 (And.intro c16 (And.intro c17 (And.intro c18 (And.intro c19 (And.intro c20 trivial))))))))))))))))))))) (by kernel_rfl)
def F12 (k : Nat) (o0 : Option Bool) (b0 : Bool) (n0 : Nat) (x0 : List V) (o1 : Option Bool) (b1 : Bool) (n1 : Nat) (x1 : List V) (i0 : Int) : Option (Bool) :=
  ((F35 (k + 14) (o0) (b0) (n0) (x0)).bind fun (o2, b2, n2, x2) => ((F35 (k + 14) (o1) (b1) (n1) (x1)).bind fun (o3, b3, n3, x3) => ((F46 (k + 8) (o2) (b2) (n2) (x2)).bind fun (i1, i2) => ((F44 (k + 8) (o2) (b2) (n2) (x2) (i0)).bind fun (i3, i4) => ((F45 (k + 11) (o2) (b2) (n2) (x2)).bind fun b4 => ((F38 (k + 11) (o2) (b2) (n2) (x2)).bind fun b5 => (bif !decide (b4 = b5) then (some (false)) else ((F47 (k + 11) (o2) (b2) (n2) (x2) (o3) (b3) (n3) (x3)).bind fun b6 => ((F41 (k + 14) (o2) (b2) (n2) (x2) (o3) (b3) (n3) (x3)).bind fun b7 => (bif !decide (b6 = b7) then (some (false)) else ((F47 (k + 11) (o2) (b2) (n2) (x2) (o2) (b2) (n2) (x2)).bind fun b8 => (bif !b8 then (some (false)) else ((F39 (k + 2)).bind fun b9 => (bif !b9 then (some (false)) else (bif !b5 then (bif decide (i2 = 1) then (bif decide (i4 = 1) then (bif decide (i1 = 0) then (some (decide (i3 = 0))) else (some (false))) else (some (false))) else (some (false))) else (bif !decide (i2 = 0) then (some (false)) else ((F48 (k + 14) (o2) (b2) (n2) (x2)).bind fun i5 => (bif !decide (i1 = i5) then (some (false)) else (bif decide (576460752303423488 ≤ i0) then (bif decide (i4 = 2) then (some (decide (i3 = 0))) else (some (false))) else (bif decide (i4 = 0) then ((F49 (k + 14) (o2) (b2) (n2) (x2) (i0)).bind fun i6 => (some (decide (i3 = i6)))) else (some (false))))))))))))))))))))))
theorem F12_ok {o0 : Option Bool} {b0 : Bool} {n0 : Nat} {x0 : List V} {o1 : Option Bool} {b1 : Bool} {n1 : Nat} {x1 : List V} {i0 : Int} {k : Nat} {r : Bool} (h : F12 k o0 b0 n0 x0 o1 b1 n1 x1 i0 = some r) :
    callP (evalFn Try.prog Try.cfg (k + 18)) 12 [V.sl o0 b0 n0 x0, V.sl o1 b1 n1 x1, V.int IntKind.u64 i0] = some (V.bool r) := by
  unfold F12 at h
  obtain ⟨⟨o2, b2, n2, x2⟩, e0, h⟩ := Option.bind_eq_some_iff.1 h
  obtain ⟨⟨o3, b3, n3, x3⟩, e1, h⟩ := Option.bind_eq_some_iff.1 h
  obtain ⟨⟨i1, i2⟩, e2, h⟩ := Option.bind_eq_some_iff.1 h
  obtain ⟨⟨i3, i4⟩, e3, h⟩ := Option.bind_eq_some_iff.1 h
  obtain ⟨b4, e4, h⟩ := Option.bind_eq_some_iff.1 h
  obtain ⟨b5, e5, h⟩ := Option.bind_eq_some_iff.1 h
  rcases cond_elim h with ⟨e6, h⟩ | ⟨e6, h⟩
  ·
    have h := Option.some.inj h; subst h; exact P12_0 i0 i1 i2 i3 i4 b0 b1 b2 b3 b4 b5 x0 x1 x2 x3 o0 o1 o2 o3 n0 n1 n2 n3 k (F35_ok e0) (F35_ok e1) (F46_ok e2) (F44_ok e3) (F45_ok e4) (F38_ok e5) e6
  ·
    obtain ⟨b6, e7, h⟩ := Option.bind_eq_some_iff.1 h
    obtain ⟨b7, e8, h⟩ := Option.bind_eq_some_iff.1 h
    rcases cond_elim h with ⟨e9, h⟩ | ⟨e9, h⟩
    ·
      have h := Option.some.inj h; subst h; exact P12_1 i0 i1 i2 i3 i4 b0 b1 b2 b3 b4 b5 b6 b7 x0 x1 x2 x3 o0 o1 o2 o3 n0 n1 n2 n3 k (F35_ok e0) (F35_ok e1) (F46_ok e2) (F44_ok e3) (F45_ok e4) (F38_ok e5) e6 (F47_ok e7) (F41_ok e8) e9
    ·
      obtain ⟨b8, e10, h⟩ := Option.bind_eq_some_iff.1 h
      rcases cond_elim h with ⟨e11, h⟩ | ⟨e11, h⟩
      ·
        have h := Option.some.inj h; subst h; exact P12_2 i0 i1 i2 i3 i4 b0 b1 b2 b3 b4 b5 b6 b7 b8 x0 x1 x2 x3 o0 o1 o2 o3 n0 n1 n2 n3 k (F35_ok e0) (F35_ok e1) (F46_ok e2) (F44_ok e3) (F45_ok e4) (F38_ok e5) e6 (F47_ok e7) (F41_ok e8) e9 (F47_ok e10) e11
      ·
        obtain ⟨b9, e12, h⟩ := Option.bind_eq_some_iff.1 h
        rcases cond_elim h with ⟨e13, h⟩ | ⟨e13, h⟩
        ·
          have h := Option.some.inj h; subst h; exact P12_3 i0 i1 i2 i3 i4 b0 b1 b2 b3 b4 b5 b6 b7 b8 b9 x0 x1 x2 x3 o0 o1 o2 o3 n0 n1 n2 n3 k (F35_ok e0) (F35_ok e1) (F46_ok e2) (F44_ok e3) (F45_ok e4) (F38_ok e5) e6 (F47_ok e7) (F41_ok e8) e9 (F47_ok e10) e11 (F39_ok e12) e13
        ·
          rcases cond_elim h with ⟨e14, h⟩ | ⟨e14, h⟩
          ·
            rcases cond_elim h with ⟨e15, h⟩ | ⟨e15, h⟩
            ·
              rcases cond_elim h with ⟨e16, h⟩ | ⟨e16, h⟩
              ·
                rcases cond_elim h with ⟨e17, h⟩ | ⟨e17, h⟩
                ·
                  have h := Option.some.inj h; subst h; exact P12_4 i0 i1 i2 i3 i4 b0 b1 b2 b3 b4 b5 b6 b7 b8 b9 x0 x1 x2 x3 o0 o1 o2 o3 n0 n1 n2 n3 k (F35_ok e0) (F35_ok e1) (F46_ok e2) (F44_ok e3) (F45_ok e4) (F38_ok e5) e6 (F47_ok e7) (F41_ok e8) e9 (F47_ok e10) e11 (F39_ok e12) e13 (F38_ok e5) e14 e15 e16 e17
                ·
                  have h := Option.some.inj h; subst h; exact P12_5 i0 i1 i2 i3 i4 b0 b1 b2 b3 b4 b5 b6 b7 b8 b9 x0 x1 x2 x3 o0 o1 o2 o3 n0 n1 n2 n3 k (F35_ok e0) (F35_ok e1) (F46_ok e2) (F44_ok e3) (F45_ok e4) (F38_ok e5) e6 (F47_ok e7) (F41_ok e8) e9 (F47_ok e10) e11 (F39_ok e12) e13 (F38_ok e5) e14 e15 e16 e17
              ·
                have h := Option.some.inj h; subst h; exact P12_6 i0 i1 i2 i3 i4 b0 b1 b2 b3 b4 b5 b6 b7 b8 b9 x0 x1 x2 x3 o0 o1 o2 o3 n0 n1 n2 n3 k (F35_ok e0) (F35_ok e1) (F46_ok e2) (F44_ok e3) (F45_ok e4) (F38_ok e5) e6 (F47_ok e7) (F41_ok e8) e9 (F47_ok e10) e11 (F39_ok e12) e13 (F38_ok e5) e14 e15 e16
            ·
              have h := Option.some.inj h; subst h; exact P12_7 i0 i1 i2 i3 i4 b0 b1 b2 b3 b4 b5 b6 b7 b8 b9 x0 x1 x2 x3 o0 o1 o2 o3 n0 n1 n2 n3 k (F35_ok e0) (F35_ok e1) (F46_ok e2) (F44_ok e3) (F45_ok e4) (F38_ok e5) e6 (F47_ok e7) (F41_ok e8) e9 (F47_ok e10) e11 (F39_ok e12) e13 (F38_ok e5) e14 e15
          ·
            rcases cond_elim h with ⟨e15, h⟩ | ⟨e15, h⟩
            ·
              have h := Option.some.inj h; subst h; exact P12_8 i0 i1 i2 i3 i4 b0 b1 b2 b3 b4 b5 b6 b7 b8 b9 x0 x1 x2 x3 o0 o1 o2 o3 n0 n1 n2 n3 k (F35_ok e0) (F35_ok e1) (F46_ok e2) (F44_ok e3) (F45_ok e4) (F38_ok e5) e6 (F47_ok e7) (F41_ok e8) e9 (F47_ok e10) e11 (F39_ok e12) e13 (F38_ok e5) e14 e15
            ·
              obtain ⟨i5, e16, h⟩ := Option.bind_eq_some_iff.1 h
              rcases cond_elim h with ⟨e17, h⟩ | ⟨e17, h⟩
              ·
                have h := Option.some.inj h; subst h; exact P12_9 i0 i1 i2 i3 i4 i5 b0 b1 b2 b3 b4 b5 b6 b7 b8 b9 x0 x1 x2 x3 o0 o1 o2 o3 n0 n1 n2 n3 k (F35_ok e0) (F35_ok e1) (F46_ok e2) (F44_ok e3) (F45_ok e4) (F38_ok e5) e6 (F47_ok e7) (F41_ok e8) e9 (F47_ok e10) e11 (F39_ok e12) e13 (F38_ok e5) e14 e15 (F48_ok e16) e17
              ·
                rcases cond_elim h with ⟨e18, h⟩ | ⟨e18, h⟩
                ·
                  rcases cond_elim h with ⟨e19, h⟩ | ⟨e19, h⟩
                  ·
                    have h := Option.some.inj h; subst h; exact P12_10 i0 i1 i2 i3 i4 i5 b0 b1 b2 b3 b4 b5 b6 b7 b8 b9 x0 x1 x2 x3 o0 o1 o2 o3 n0 n1 n2 n3 k (F35_ok e0) (F35_ok e1) (F46_ok e2) (F44_ok e3) (F45_ok e4) (F38_ok e5) e6 (F47_ok e7) (F41_ok e8) e9 (F47_ok e10) e11 (F39_ok e12) e13 (F38_ok e5) e14 e15 (F48_ok e16) e17 e18 e19
                  ·
                    have h := Option.some.inj h; subst h; exact P12_11 i0 i1 i2 i3 i4 i5 b0 b1 b2 b3 b4 b5 b6 b7 b8 b9 x0 x1 x2 x3 o0 o1 o2 o3 n0 n1 n2 n3 k (F35_ok e0) (F35_ok e1) (F46_ok e2) (F44_ok e3) (F45_ok e4) (F38_ok e5) e6 (F47_ok e7) (F41_ok e8) e9 (F47_ok e10) e11 (F39_ok e12) e13 (F38_ok e5) e14 e15 (F48_ok e16) e17 e18 e19
                ·
                  rcases cond_elim h with ⟨e19, h⟩ | ⟨e19, h⟩
                  ·
                    obtain ⟨i6, e20, h⟩ := Option.bind_eq_some_iff.1 h
                    have h := Option.some.inj h; subst h; exact P12_12 i0 i1 i2 i3 i4 i5 i6 b0 b1 b2 b3 b4 b5 b6 b7 b8 b9 x0 x1 x2 x3 o0 o1 o2 o3 n0 n1 n2 n3 k (F35_ok e0) (F35_ok e1) (F46_ok e2) (F44_ok e3) (F45_ok e4) (F38_ok e5) e6 (F47_ok e7) (F41_ok e8) e9 (F47_ok e10) e11 (F39_ok e12) e13 (F38_ok e5) e14 e15 (F48_ok e16) e17 e18 e19 (F49_ok e20)
                  ·
                    have h := Option.some.inj h; subst h; exact P12_13 i0 i1 i2 i3 i4 i5 b0 b1 b2 b3 b4 b5 b6 b7 b8 b9 x0 x1 x2 x3 o0 o1 o2 o3 n0 n1 n2 n3 k (F35_ok e0) (F35_ok e1) (F46_ok e2) (F44_ok e3) (F45_ok e4) (F38_ok e5) e6 (F47_ok e7) (F41_ok e8) e9 (F47_ok e10) e11 (F39_ok e12) e13 (F38_ok e5) e14 e15 (F48_ok e16) e17 e18 e19
end Go.Proofs
