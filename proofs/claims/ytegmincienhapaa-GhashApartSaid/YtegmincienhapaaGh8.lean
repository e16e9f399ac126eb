/-
  What the law GhashApart answers, checked against the program.
-/
import Derived.Test.YtegmincienhapaaGhC
set_option linter.unusedVariables false
set_option maxHeartbeats 0
set_option maxRecDepth 100000
namespace Go.Proofs
open Go Go.Sym

theorem P8_0 (i0 : Int) (b0 b1 b2 b3 : Bool) (s0 : List UInt8) (s1 : List UInt8) (s2 : List UInt8) (s3 : List UInt8) (s4 : List UInt8) (s5 : List UInt8) (s6 : List UInt8) (s7 : List UInt8) (s8 : List UInt8) (x0 : List V) (x1 : List V) (o0 : Option Bool) (o1 : Option Bool) (n0 : Nat) (n1 : Nat) (k : Nat)
    (c0 : callP (evalFn Try.prog Try.cfg (k + 23)) 22 [V.str s0] = some (V.str s4))
    (c1 : callP (evalFn Try.prog Try.cfg (k + 23)) 22 [V.str s1] = some (V.str s5))
    (c2 : callP (evalFn Try.prog Try.cfg (k + 23)) 22 [V.str s2] = some (V.str s6))
    (c3 : callP (evalFn Try.prog Try.cfg (k + 23)) 22 [V.str s3] = some (V.str s7))
    (c4 : callP (evalFn Try.prog Try.cfg (k + 23)) 29 [V.str s4, V.str s5] = some (V.sl o0 b0 n0 x0))
    (c5 : callP (evalFn Try.prog Try.cfg (k + 23)) 29 [V.str s6, V.str s7] = some (V.sl o1 b1 n1 x1))
    (c6 : callP (evalFn Try.prog Try.cfg (k + 23)) 27 [V.str [0, 0, 0, 0, 0, 0, 0, 0, 0, 0, 0, 0, 0, 0, 0, 0], V.str s4, V.str s5] = some (V.tup [V.str s8, V.int .i64 i0]))
    (c7 : callP (evalFn Try.prog Try.cfg (k + 23)) 24 [] = some (V.bool b2))
    (c8 : b2 = true)
    (c9 : callP (evalFn Try.prog Try.cfg (k + 23)) 28 [V.sl o0 b0 n0 x0, V.sl o1 b1 n1 x1] = some (V.bool b3))
    (c10 : decide (s4 = s6) = true)
    (c11 : decide (b3 = decide (s5 = s7)) = true)
    (c12 : decide ((↑x0.length : Int) = IntKind.i64.wrap (IntKind.i64.wrap (IntKind.i64.wrap ((IntKind.i64.wrap ((↑s4.length : Int) + 15)).tdiv 16) + IntKind.i64.wrap ((IntKind.i64.wrap ((↑s5.length : Int) + 15)).tdiv 16)) + 1)) = true)
    (c13 : decide (i0 = 0) = true) :
    callP (evalFn Try.prog Try.cfg (k + 24)) 8 [V.str s0, V.str s1, V.str s2, V.str s3] = some (V.bool (decide (s8 = [0, 0, 0, 0, 0, 0, 0, 0, 0, 0, 0, 0, 0, 0, 0, 0]))) :=
  byF (k := k) (d := 24) [Hn.call 14 (V.str s4), Hn.call 16 (V.str s5), Hn.call 18 (V.str s6), Hn.call 20 (V.str s7), Hn.call 23 (V.sl o0 b0 n0 x0), Hn.call 26 (V.sl o1 b1 n1 x1), Hn.call 32 (V.tup [V.str s8, V.int .i64 i0]), Hn.call 35 (V.bool b2), Hn.br 36 true, Hn.call 39 (V.bool b3), Hn.br 43 true, Hn.br 50 true, Hn.br 65 true, Hn.br 69 true] (And.intro c0 (And.intro c1 (And.intro c2 (And.intro c3 (And.intro c4 (And.intro c5 (And.intro c6 (And.intro c7 (And.intro c8 (And.intro c9 (And.intro c10 (And.intro c11 (And.intro c12 (And.intro c13 trivial)))))))))))))) (by kernel_rfl)
theorem P8_1 (i0 : Int) (b0 b1 b2 b3 : Bool) (s0 : List UInt8) (s1 : List UInt8) (s2 : List UInt8) (s3 : List UInt8) (s4 : List UInt8) (s5 : List UInt8) (s6 : List UInt8) (s7 : List UInt8) (s8 : List UInt8) (x0 : List V) (x1 : List V) (o0 : Option Bool) (o1 : Option Bool) (n0 : Nat) (n1 : Nat) (k : Nat)
    (c0 : callP (evalFn Try.prog Try.cfg (k + 23)) 22 [V.str s0] = some (V.str s4))
    (c1 : callP (evalFn Try.prog Try.cfg (k + 23)) 22 [V.str s1] = some (V.str s5))
    (c2 : callP (evalFn Try.prog Try.cfg (k + 23)) 22 [V.str s2] = some (V.str s6))
    (c3 : callP (evalFn Try.prog Try.cfg (k + 23)) 22 [V.str s3] = some (V.str s7))
    (c4 : callP (evalFn Try.prog Try.cfg (k + 23)) 29 [V.str s4, V.str s5] = some (V.sl o0 b0 n0 x0))
    (c5 : callP (evalFn Try.prog Try.cfg (k + 23)) 29 [V.str s6, V.str s7] = some (V.sl o1 b1 n1 x1))
    (c6 : callP (evalFn Try.prog Try.cfg (k + 23)) 27 [V.str [0, 0, 0, 0, 0, 0, 0, 0, 0, 0, 0, 0, 0, 0, 0, 0], V.str s4, V.str s5] = some (V.tup [V.str s8, V.int .i64 i0]))
    (c7 : callP (evalFn Try.prog Try.cfg (k + 23)) 24 [] = some (V.bool b2))
    (c8 : b2 = true)
    (c9 : callP (evalFn Try.prog Try.cfg (k + 23)) 28 [V.sl o0 b0 n0 x0, V.sl o1 b1 n1 x1] = some (V.bool b3))
    (c10 : decide (s4 = s6) = true)
    (c11 : decide (b3 = decide (s5 = s7)) = true)
    (c12 : decide ((↑x0.length : Int) = IntKind.i64.wrap (IntKind.i64.wrap (IntKind.i64.wrap ((IntKind.i64.wrap ((↑s4.length : Int) + 15)).tdiv 16) + IntKind.i64.wrap ((IntKind.i64.wrap ((↑s5.length : Int) + 15)).tdiv 16)) + 1)) = true)
    (c13 : decide (i0 = 0) = false) :
    callP (evalFn Try.prog Try.cfg (k + 24)) 8 [V.str s0, V.str s1, V.str s2, V.str s3] = some (V.bool false) :=
  byF (k := k) (d := 24) [Hn.call 14 (V.str s4), Hn.call 16 (V.str s5), Hn.call 18 (V.str s6), Hn.call 20 (V.str s7), Hn.call 23 (V.sl o0 b0 n0 x0), Hn.call 26 (V.sl o1 b1 n1 x1), Hn.call 32 (V.tup [V.str s8, V.int .i64 i0]), Hn.call 35 (V.bool b2), Hn.br 36 true, Hn.call 39 (V.bool b3), Hn.br 43 true, Hn.br 50 true, Hn.br 65 true, Hn.br 69 false] (And.intro c0 (And.intro c1 (And.intro c2 (And.intro c3 (And.intro c4 (And.intro c5 (And.intro c6 (And.intro c7 (And.intro c8 (And.intro c9 (And.intro c10 (And.intro c11 (And.intro c12 (And.intro c13 trivial)))))))))))))) (by kernel_rfl)
theorem P8_2 (i0 : Int) (b0 b1 b2 b3 : Bool) (s0 : List UInt8) (s1 : List UInt8) (s2 : List UInt8) (s3 : List UInt8) (s4 : List UInt8) (s5 : List UInt8) (s6 : List UInt8) (s7 : List UInt8) (s8 : List UInt8) (x0 : List V) (x1 : List V) (o0 : Option Bool) (o1 : Option Bool) (n0 : Nat) (n1 : Nat) (k : Nat)
    (c0 : callP (evalFn Try.prog Try.cfg (k + 23)) 22 [V.str s0] = some (V.str s4))
    (c1 : callP (evalFn Try.prog Try.cfg (k + 23)) 22 [V.str s1] = some (V.str s5))
    (c2 : callP (evalFn Try.prog Try.cfg (k + 23)) 22 [V.str s2] = some (V.str s6))
    (c3 : callP (evalFn Try.prog Try.cfg (k + 23)) 22 [V.str s3] = some (V.str s7))
    (c4 : callP (evalFn Try.prog Try.cfg (k + 23)) 29 [V.str s4, V.str s5] = some (V.sl o0 b0 n0 x0))
    (c5 : callP (evalFn Try.prog Try.cfg (k + 23)) 29 [V.str s6, V.str s7] = some (V.sl o1 b1 n1 x1))
    (c6 : callP (evalFn Try.prog Try.cfg (k + 23)) 27 [V.str [0, 0, 0, 0, 0, 0, 0, 0, 0, 0, 0, 0, 0, 0, 0, 0], V.str s4, V.str s5] = some (V.tup [V.str s8, V.int .i64 i0]))
    (c7 : callP (evalFn Try.prog Try.cfg (k + 23)) 24 [] = some (V.bool b2))
    (c8 : b2 = true)
    (c9 : callP (evalFn Try.prog Try.cfg (k + 23)) 28 [V.sl o0 b0 n0 x0, V.sl o1 b1 n1 x1] = some (V.bool b3))
    (c10 : decide (s4 = s6) = true)
    (c11 : decide (b3 = decide (s5 = s7)) = true)
    (c12 : decide ((↑x0.length : Int) = IntKind.i64.wrap (IntKind.i64.wrap (IntKind.i64.wrap ((IntKind.i64.wrap ((↑s4.length : Int) + 15)).tdiv 16) + IntKind.i64.wrap ((IntKind.i64.wrap ((↑s5.length : Int) + 15)).tdiv 16)) + 1)) = false) :
    callP (evalFn Try.prog Try.cfg (k + 24)) 8 [V.str s0, V.str s1, V.str s2, V.str s3] = some (V.bool false) :=
  byF (k := k) (d := 24) [Hn.call 14 (V.str s4), Hn.call 16 (V.str s5), Hn.call 18 (V.str s6), Hn.call 20 (V.str s7), Hn.call 23 (V.sl o0 b0 n0 x0), Hn.call 26 (V.sl o1 b1 n1 x1), Hn.call 32 (V.tup [V.str s8, V.int .i64 i0]), Hn.call 35 (V.bool b2), Hn.br 36 true, Hn.call 39 (V.bool b3), Hn.br 43 true, Hn.br 50 true, Hn.br 65 false] (And.intro c0 (And.intro c1 (And.intro c2 (And.intro c3 (And.intro c4 (And.intro c5 (And.intro c6 (And.intro c7 (And.intro c8 (And.intro c9 (And.intro c10 (And.intro c11 (And.intro c12 trivial))))))))))))) (by kernel_rfl)
theorem P8_3 (i0 : Int) (b0 b1 b2 b3 : Bool) (s0 : List UInt8) (s1 : List UInt8) (s2 : List UInt8) (s3 : List UInt8) (s4 : List UInt8) (s5 : List UInt8) (s6 : List UInt8) (s7 : List UInt8) (s8 : List UInt8) (x0 : List V) (x1 : List V) (o0 : Option Bool) (o1 : Option Bool) (n0 : Nat) (n1 : Nat) (k : Nat)
    (c0 : callP (evalFn Try.prog Try.cfg (k + 23)) 22 [V.str s0] = some (V.str s4))
    (c1 : callP (evalFn Try.prog Try.cfg (k + 23)) 22 [V.str s1] = some (V.str s5))
    (c2 : callP (evalFn Try.prog Try.cfg (k + 23)) 22 [V.str s2] = some (V.str s6))
    (c3 : callP (evalFn Try.prog Try.cfg (k + 23)) 22 [V.str s3] = some (V.str s7))
    (c4 : callP (evalFn Try.prog Try.cfg (k + 23)) 29 [V.str s4, V.str s5] = some (V.sl o0 b0 n0 x0))
    (c5 : callP (evalFn Try.prog Try.cfg (k + 23)) 29 [V.str s6, V.str s7] = some (V.sl o1 b1 n1 x1))
    (c6 : callP (evalFn Try.prog Try.cfg (k + 23)) 27 [V.str [0, 0, 0, 0, 0, 0, 0, 0, 0, 0, 0, 0, 0, 0, 0, 0], V.str s4, V.str s5] = some (V.tup [V.str s8, V.int .i64 i0]))
    (c7 : callP (evalFn Try.prog Try.cfg (k + 23)) 24 [] = some (V.bool b2))
    (c8 : b2 = true)
    (c9 : callP (evalFn Try.prog Try.cfg (k + 23)) 28 [V.sl o0 b0 n0 x0, V.sl o1 b1 n1 x1] = some (V.bool b3))
    (c10 : decide (s4 = s6) = true)
    (c11 : decide (b3 = decide (s5 = s7)) = false) :
    callP (evalFn Try.prog Try.cfg (k + 24)) 8 [V.str s0, V.str s1, V.str s2, V.str s3] = some (V.bool false) :=
  byF (k := k) (d := 24) [Hn.call 14 (V.str s4), Hn.call 16 (V.str s5), Hn.call 18 (V.str s6), Hn.call 20 (V.str s7), Hn.call 23 (V.sl o0 b0 n0 x0), Hn.call 26 (V.sl o1 b1 n1 x1), Hn.call 32 (V.tup [V.str s8, V.int .i64 i0]), Hn.call 35 (V.bool b2), Hn.br 36 true, Hn.call 39 (V.bool b3), Hn.br 43 true, Hn.br 50 false] (And.intro c0 (And.intro c1 (And.intro c2 (And.intro c3 (And.intro c4 (And.intro c5 (And.intro c6 (And.intro c7 (And.intro c8 (And.intro c9 (And.intro c10 (And.intro c11 trivial)))))))))))) (by kernel_rfl)
theorem P8_4 (i0 : Int) (b0 b1 b2 b3 : Bool) (s0 : List UInt8) (s1 : List UInt8) (s2 : List UInt8) (s3 : List UInt8) (s4 : List UInt8) (s5 : List UInt8) (s6 : List UInt8) (s7 : List UInt8) (s8 : List UInt8) (x0 : List V) (x1 : List V) (o0 : Option Bool) (o1 : Option Bool) (n0 : Nat) (n1 : Nat) (k : Nat)
    (c0 : callP (evalFn Try.prog Try.cfg (k + 23)) 22 [V.str s0] = some (V.str s4))
    (c1 : callP (evalFn Try.prog Try.cfg (k + 23)) 22 [V.str s1] = some (V.str s5))
    (c2 : callP (evalFn Try.prog Try.cfg (k + 23)) 22 [V.str s2] = some (V.str s6))
    (c3 : callP (evalFn Try.prog Try.cfg (k + 23)) 22 [V.str s3] = some (V.str s7))
    (c4 : callP (evalFn Try.prog Try.cfg (k + 23)) 29 [V.str s4, V.str s5] = some (V.sl o0 b0 n0 x0))
    (c5 : callP (evalFn Try.prog Try.cfg (k + 23)) 29 [V.str s6, V.str s7] = some (V.sl o1 b1 n1 x1))
    (c6 : callP (evalFn Try.prog Try.cfg (k + 23)) 27 [V.str [0, 0, 0, 0, 0, 0, 0, 0, 0, 0, 0, 0, 0, 0, 0, 0], V.str s4, V.str s5] = some (V.tup [V.str s8, V.int .i64 i0]))
    (c7 : callP (evalFn Try.prog Try.cfg (k + 23)) 24 [] = some (V.bool b2))
    (c8 : b2 = true)
    (c9 : callP (evalFn Try.prog Try.cfg (k + 23)) 28 [V.sl o0 b0 n0 x0, V.sl o1 b1 n1 x1] = some (V.bool b3))
    (c10 : decide (s4 = s6) = false)
    (c11 : decide (b3 = false) = true)
    (c12 : decide ((↑x0.length : Int) = IntKind.i64.wrap (IntKind.i64.wrap (IntKind.i64.wrap ((IntKind.i64.wrap ((↑s4.length : Int) + 15)).tdiv 16) + IntKind.i64.wrap ((IntKind.i64.wrap ((↑s5.length : Int) + 15)).tdiv 16)) + 1)) = true)
    (c13 : decide (i0 = 0) = true) :
    callP (evalFn Try.prog Try.cfg (k + 24)) 8 [V.str s0, V.str s1, V.str s2, V.str s3] = some (V.bool (decide (s8 = [0, 0, 0, 0, 0, 0, 0, 0, 0, 0, 0, 0, 0, 0, 0, 0]))) :=
  byF (k := k) (d := 24) [Hn.call 14 (V.str s4), Hn.call 16 (V.str s5), Hn.call 18 (V.str s6), Hn.call 20 (V.str s7), Hn.call 23 (V.sl o0 b0 n0 x0), Hn.call 26 (V.sl o1 b1 n1 x1), Hn.call 32 (V.tup [V.str s8, V.int .i64 i0]), Hn.call 35 (V.bool b2), Hn.br 36 true, Hn.call 39 (V.bool b3), Hn.br 43 false, Hn.br 50 true, Hn.br 65 true, Hn.br 69 true] (And.intro c0 (And.intro c1 (And.intro c2 (And.intro c3 (And.intro c4 (And.intro c5 (And.intro c6 (And.intro c7 (And.intro c8 (And.intro c9 (And.intro c10 (And.intro c11 (And.intro c12 (And.intro c13 trivial)))))))))))))) (by kernel_rfl)
theorem P8_5 (i0 : Int) (b0 b1 b2 b3 : Bool) (s0 : List UInt8) (s1 : List UInt8) (s2 : List UInt8) (s3 : List UInt8) (s4 : List UInt8) (s5 : List UInt8) (s6 : List UInt8) (s7 : List UInt8) (s8 : List UInt8) (x0 : List V) (x1 : List V) (o0 : Option Bool) (o1 : Option Bool) (n0 : Nat) (n1 : Nat) (k : Nat)
    (c0 : callP (evalFn Try.prog Try.cfg (k + 23)) 22 [V.str s0] = some (V.str s4))
    (c1 : callP (evalFn Try.prog Try.cfg (k + 23)) 22 [V.str s1] = some (V.str s5))
    (c2 : callP (evalFn Try.prog Try.cfg (k + 23)) 22 [V.str s2] = some (V.str s6))
    (c3 : callP (evalFn Try.prog Try.cfg (k + 23)) 22 [V.str s3] = some (V.str s7))
    (c4 : callP (evalFn Try.prog Try.cfg (k + 23)) 29 [V.str s4, V.str s5] = some (V.sl o0 b0 n0 x0))
    (c5 : callP (evalFn Try.prog Try.cfg (k + 23)) 29 [V.str s6, V.str s7] = some (V.sl o1 b1 n1 x1))
    (c6 : callP (evalFn Try.prog Try.cfg (k + 23)) 27 [V.str [0, 0, 0, 0, 0, 0, 0, 0, 0, 0, 0, 0, 0, 0, 0, 0], V.str s4, V.str s5] = some (V.tup [V.str s8, V.int .i64 i0]))
    (c7 : callP (evalFn Try.prog Try.cfg (k + 23)) 24 [] = some (V.bool b2))
    (c8 : b2 = true)
    (c9 : callP (evalFn Try.prog Try.cfg (k + 23)) 28 [V.sl o0 b0 n0 x0, V.sl o1 b1 n1 x1] = some (V.bool b3))
    (c10 : decide (s4 = s6) = false)
    (c11 : decide (b3 = false) = true)
    (c12 : decide ((↑x0.length : Int) = IntKind.i64.wrap (IntKind.i64.wrap (IntKind.i64.wrap ((IntKind.i64.wrap ((↑s4.length : Int) + 15)).tdiv 16) + IntKind.i64.wrap ((IntKind.i64.wrap ((↑s5.length : Int) + 15)).tdiv 16)) + 1)) = true)
    (c13 : decide (i0 = 0) = false) :
    callP (evalFn Try.prog Try.cfg (k + 24)) 8 [V.str s0, V.str s1, V.str s2, V.str s3] = some (V.bool false) :=
  byF (k := k) (d := 24) [Hn.call 14 (V.str s4), Hn.call 16 (V.str s5), Hn.call 18 (V.str s6), Hn.call 20 (V.str s7), Hn.call 23 (V.sl o0 b0 n0 x0), Hn.call 26 (V.sl o1 b1 n1 x1), Hn.call 32 (V.tup [V.str s8, V.int .i64 i0]), Hn.call 35 (V.bool b2), Hn.br 36 true, Hn.call 39 (V.bool b3), Hn.br 43 false, Hn.br 50 true, Hn.br 65 true, Hn.br 69 false] (And.intro c0 (And.intro c1 (And.intro c2 (And.intro c3 (And.intro c4 (And.intro c5 (And.intro c6 (And.intro c7 (And.intro c8 (And.intro c9 (And.intro c10 (And.intro c11 (And.intro c12 (And.intro c13 trivial)))))))))))))) (by kernel_rfl)
theorem P8_6 (i0 : Int) (b0 b1 b2 b3 : Bool) (s0 : List UInt8) (s1 : List UInt8) (s2 : List UInt8) (s3 : List UInt8) (s4 : List UInt8) (s5 : List UInt8) (s6 : List UInt8) (s7 : List UInt8) (s8 : List UInt8) (x0 : List V) (x1 : List V) (o0 : Option Bool) (o1 : Option Bool) (n0 : Nat) (n1 : Nat) (k : Nat)
    (c0 : callP (evalFn Try.prog Try.cfg (k + 23)) 22 [V.str s0] = some (V.str s4))
    (c1 : callP (evalFn Try.prog Try.cfg (k + 23)) 22 [V.str s1] = some (V.str s5))
    (c2 : callP (evalFn Try.prog Try.cfg (k + 23)) 22 [V.str s2] = some (V.str s6))
    (c3 : callP (evalFn Try.prog Try.cfg (k + 23)) 22 [V.str s3] = some (V.str s7))
    (c4 : callP (evalFn Try.prog Try.cfg (k + 23)) 29 [V.str s4, V.str s5] = some (V.sl o0 b0 n0 x0))
    (c5 : callP (evalFn Try.prog Try.cfg (k + 23)) 29 [V.str s6, V.str s7] = some (V.sl o1 b1 n1 x1))
    (c6 : callP (evalFn Try.prog Try.cfg (k + 23)) 27 [V.str [0, 0, 0, 0, 0, 0, 0, 0, 0, 0, 0, 0, 0, 0, 0, 0], V.str s4, V.str s5] = some (V.tup [V.str s8, V.int .i64 i0]))
    (c7 : callP (evalFn Try.prog Try.cfg (k + 23)) 24 [] = some (V.bool b2))
    (c8 : b2 = true)
    (c9 : callP (evalFn Try.prog Try.cfg (k + 23)) 28 [V.sl o0 b0 n0 x0, V.sl o1 b1 n1 x1] = some (V.bool b3))
    (c10 : decide (s4 = s6) = false)
    (c11 : decide (b3 = false) = true)
    (c12 : decide ((↑x0.length : Int) = IntKind.i64.wrap (IntKind.i64.wrap (IntKind.i64.wrap ((IntKind.i64.wrap ((↑s4.length : Int) + 15)).tdiv 16) + IntKind.i64.wrap ((IntKind.i64.wrap ((↑s5.length : Int) + 15)).tdiv 16)) + 1)) = false) :
    callP (evalFn Try.prog Try.cfg (k + 24)) 8 [V.str s0, V.str s1, V.str s2, V.str s3] = some (V.bool false) :=
  byF (k := k) (d := 24) [Hn.call 14 (V.str s4), Hn.call 16 (V.str s5), Hn.call 18 (V.str s6), Hn.call 20 (V.str s7), Hn.call 23 (V.sl o0 b0 n0 x0), Hn.call 26 (V.sl o1 b1 n1 x1), Hn.call 32 (V.tup [V.str s8, V.int .i64 i0]), Hn.call 35 (V.bool b2), Hn.br 36 true, Hn.call 39 (V.bool b3), Hn.br 43 false, Hn.br 50 true, Hn.br 65 false] (And.intro c0 (And.intro c1 (And.intro c2 (And.intro c3 (And.intro c4 (And.intro c5 (And.intro c6 (And.intro c7 (And.intro c8 (And.intro c9 (And.intro c10 (And.intro c11 (And.intro c12 trivial))))))))))))) (by kernel_rfl)
theorem P8_7 (i0 : Int) (b0 b1 b2 b3 : Bool) (s0 : List UInt8) (s1 : List UInt8) (s2 : List UInt8) (s3 : List UInt8) (s4 : List UInt8) (s5 : List UInt8) (s6 : List UInt8) (s7 : List UInt8) (s8 : List UInt8) (x0 : List V) (x1 : List V) (o0 : Option Bool) (o1 : Option Bool) (n0 : Nat) (n1 : Nat) (k : Nat)
    (c0 : callP (evalFn Try.prog Try.cfg (k + 23)) 22 [V.str s0] = some (V.str s4))
    (c1 : callP (evalFn Try.prog Try.cfg (k + 23)) 22 [V.str s1] = some (V.str s5))
    (c2 : callP (evalFn Try.prog Try.cfg (k + 23)) 22 [V.str s2] = some (V.str s6))
    (c3 : callP (evalFn Try.prog Try.cfg (k + 23)) 22 [V.str s3] = some (V.str s7))
    (c4 : callP (evalFn Try.prog Try.cfg (k + 23)) 29 [V.str s4, V.str s5] = some (V.sl o0 b0 n0 x0))
    (c5 : callP (evalFn Try.prog Try.cfg (k + 23)) 29 [V.str s6, V.str s7] = some (V.sl o1 b1 n1 x1))
    (c6 : callP (evalFn Try.prog Try.cfg (k + 23)) 27 [V.str [0, 0, 0, 0, 0, 0, 0, 0, 0, 0, 0, 0, 0, 0, 0, 0], V.str s4, V.str s5] = some (V.tup [V.str s8, V.int .i64 i0]))
    (c7 : callP (evalFn Try.prog Try.cfg (k + 23)) 24 [] = some (V.bool b2))
    (c8 : b2 = true)
    (c9 : callP (evalFn Try.prog Try.cfg (k + 23)) 28 [V.sl o0 b0 n0 x0, V.sl o1 b1 n1 x1] = some (V.bool b3))
    (c10 : decide (s4 = s6) = false)
    (c11 : decide (b3 = false) = false) :
    callP (evalFn Try.prog Try.cfg (k + 24)) 8 [V.str s0, V.str s1, V.str s2, V.str s3] = some (V.bool false) :=
  byF (k := k) (d := 24) [Hn.call 14 (V.str s4), Hn.call 16 (V.str s5), Hn.call 18 (V.str s6), Hn.call 20 (V.str s7), Hn.call 23 (V.sl o0 b0 n0 x0), Hn.call 26 (V.sl o1 b1 n1 x1), Hn.call 32 (V.tup [V.str s8, V.int .i64 i0]), Hn.call 35 (V.bool b2), Hn.br 36 true, Hn.call 39 (V.bool b3), Hn.br 43 false, Hn.br 50 false] (And.intro c0 (And.intro c1 (And.intro c2 (And.intro c3 (And.intro c4 (And.intro c5 (And.intro c6 (And.intro c7 (And.intro c8 (And.intro c9 (And.intro c10 (And.intro c11 trivial)))))))))))) (by kernel_rfl)
theorem P8_8 (i0 : Int) (b0 b1 b2 : Bool) (s0 : List UInt8) (s1 : List UInt8) (s2 : List UInt8) (s3 : List UInt8) (s4 : List UInt8) (s5 : List UInt8) (s6 : List UInt8) (s7 : List UInt8) (s8 : List UInt8) (x0 : List V) (x1 : List V) (o0 : Option Bool) (o1 : Option Bool) (n0 : Nat) (n1 : Nat) (k : Nat)
    (c0 : callP (evalFn Try.prog Try.cfg (k + 23)) 22 [V.str s0] = some (V.str s4))
    (c1 : callP (evalFn Try.prog Try.cfg (k + 23)) 22 [V.str s1] = some (V.str s5))
    (c2 : callP (evalFn Try.prog Try.cfg (k + 23)) 22 [V.str s2] = some (V.str s6))
    (c3 : callP (evalFn Try.prog Try.cfg (k + 23)) 22 [V.str s3] = some (V.str s7))
    (c4 : callP (evalFn Try.prog Try.cfg (k + 23)) 29 [V.str s4, V.str s5] = some (V.sl o0 b0 n0 x0))
    (c5 : callP (evalFn Try.prog Try.cfg (k + 23)) 29 [V.str s6, V.str s7] = some (V.sl o1 b1 n1 x1))
    (c6 : callP (evalFn Try.prog Try.cfg (k + 23)) 27 [V.str [0, 0, 0, 0, 0, 0, 0, 0, 0, 0, 0, 0, 0, 0, 0, 0], V.str s4, V.str s5] = some (V.tup [V.str s8, V.int .i64 i0]))
    (c7 : callP (evalFn Try.prog Try.cfg (k + 23)) 24 [] = some (V.bool b2))
    (c8 : b2 = false) :
    callP (evalFn Try.prog Try.cfg (k + 24)) 8 [V.str s0, V.str s1, V.str s2, V.str s3] = some (V.bool false) :=
  byF (k := k) (d := 24) [Hn.call 14 (V.str s4), Hn.call 16 (V.str s5), Hn.call 18 (V.str s6), Hn.call 20 (V.str s7), Hn.call 23 (V.sl o0 b0 n0 x0), Hn.call 26 (V.sl o1 b1 n1 x1), Hn.call 32 (V.tup [V.str s8, V.int .i64 i0]), Hn.call 35 (V.bool b2), Hn.br 36 false] (And.intro c0 (And.intro c1 (And.intro c2 (And.intro c3 (And.intro c4 (And.intro c5 (And.intro c6 (And.intro c7 (And.intro c8 trivial))))))))) (by kernel_rfl)
def F8 (k : Nat) (s0 : List UInt8) (s1 : List UInt8) (s2 : List UInt8) (s3 : List UInt8) : Option (Bool) :=
  ((F22 (k + 20) (s0)).bind fun s4 => ((F22 (k + 20) (s1)).bind fun s5 => ((F22 (k + 20) (s2)).bind fun s6 => ((F22 (k + 20) (s3)).bind fun s7 => ((F29 (k + 8) (s4) (s5)).bind fun (o0, b0, n0, x0) => ((F29 (k + 8) (s6) (s7)).bind fun (o1, b1, n1, x1) => ((F27 (k + 5) ([0, 0, 0, 0, 0, 0, 0, 0, 0, 0, 0, 0, 0, 0, 0, 0]) (s4) (s5)).bind fun (s8, i0) => ((F24 (k + 2)).bind fun b2 => (bif b2 then ((F28 (k + 20) (o0) (b0) (n0) (x0) (o1) (b1) (n1) (x1)).bind fun b3 => (bif decide (s4 = s6) then (bif decide (b3 = decide (s5 = s7)) then (bif decide ((↑x0.length : Int) = IntKind.i64.wrap (IntKind.i64.wrap (IntKind.i64.wrap ((IntKind.i64.wrap ((↑s4.length : Int) + 15)).tdiv 16) + IntKind.i64.wrap ((IntKind.i64.wrap ((↑s5.length : Int) + 15)).tdiv 16)) + 1)) then (bif decide (i0 = 0) then (some (decide (s8 = [0, 0, 0, 0, 0, 0, 0, 0, 0, 0, 0, 0, 0, 0, 0, 0]))) else (some (false))) else (some (false))) else (some (false))) else (bif decide (b3 = false) then (bif decide ((↑x0.length : Int) = IntKind.i64.wrap (IntKind.i64.wrap (IntKind.i64.wrap ((IntKind.i64.wrap ((↑s4.length : Int) + 15)).tdiv 16) + IntKind.i64.wrap ((IntKind.i64.wrap ((↑s5.length : Int) + 15)).tdiv 16)) + 1)) then (bif decide (i0 = 0) then (some (decide (s8 = [0, 0, 0, 0, 0, 0, 0, 0, 0, 0, 0, 0, 0, 0, 0, 0]))) else (some (false))) else (some (false))) else (some (false))))) else (some (false)))))))))))
theorem F8_ok {s0 : List UInt8} {s1 : List UInt8} {s2 : List UInt8} {s3 : List UInt8} {k : Nat} {r : Bool} (h : F8 k s0 s1 s2 s3 = some r) :
    callP (evalFn Try.prog Try.cfg (k + 24)) 8 [V.str s0, V.str s1, V.str s2, V.str s3] = some (V.bool r) := by
  unfold F8 at h
  obtain ⟨s4, e0, h⟩ := Option.bind_eq_some_iff.1 h
  obtain ⟨s5, e1, h⟩ := Option.bind_eq_some_iff.1 h
  obtain ⟨s6, e2, h⟩ := Option.bind_eq_some_iff.1 h
  obtain ⟨s7, e3, h⟩ := Option.bind_eq_some_iff.1 h
  obtain ⟨⟨o0, b0, n0, x0⟩, e4, h⟩ := Option.bind_eq_some_iff.1 h
  obtain ⟨⟨o1, b1, n1, x1⟩, e5, h⟩ := Option.bind_eq_some_iff.1 h
  obtain ⟨⟨s8, i0⟩, e6, h⟩ := Option.bind_eq_some_iff.1 h
  obtain ⟨b2, e7, h⟩ := Option.bind_eq_some_iff.1 h
  rcases cond_elim h with ⟨e8, h⟩ | ⟨e8, h⟩
  ·
    obtain ⟨b3, e9, h⟩ := Option.bind_eq_some_iff.1 h
    rcases cond_elim h with ⟨e10, h⟩ | ⟨e10, h⟩
    ·
      rcases cond_elim h with ⟨e11, h⟩ | ⟨e11, h⟩
      ·
        rcases cond_elim h with ⟨e12, h⟩ | ⟨e12, h⟩
        ·
          rcases cond_elim h with ⟨e13, h⟩ | ⟨e13, h⟩
          ·
            have h := Option.some.inj h; subst h; exact P8_0 i0 b0 b1 b2 b3 s0 s1 s2 s3 s4 s5 s6 s7 s8 x0 x1 o0 o1 n0 n1 k (F22_ok e0) (F22_ok e1) (F22_ok e2) (F22_ok e3) (F29_ok e4) (F29_ok e5) (F27_ok e6) (F24_ok e7) e8 (F28_ok e9) e10 e11 e12 e13
          ·
            have h := Option.some.inj h; subst h; exact P8_1 i0 b0 b1 b2 b3 s0 s1 s2 s3 s4 s5 s6 s7 s8 x0 x1 o0 o1 n0 n1 k (F22_ok e0) (F22_ok e1) (F22_ok e2) (F22_ok e3) (F29_ok e4) (F29_ok e5) (F27_ok e6) (F24_ok e7) e8 (F28_ok e9) e10 e11 e12 e13
        ·
          have h := Option.some.inj h; subst h; exact P8_2 i0 b0 b1 b2 b3 s0 s1 s2 s3 s4 s5 s6 s7 s8 x0 x1 o0 o1 n0 n1 k (F22_ok e0) (F22_ok e1) (F22_ok e2) (F22_ok e3) (F29_ok e4) (F29_ok e5) (F27_ok e6) (F24_ok e7) e8 (F28_ok e9) e10 e11 e12
      ·
        have h := Option.some.inj h; subst h; exact P8_3 i0 b0 b1 b2 b3 s0 s1 s2 s3 s4 s5 s6 s7 s8 x0 x1 o0 o1 n0 n1 k (F22_ok e0) (F22_ok e1) (F22_ok e2) (F22_ok e3) (F29_ok e4) (F29_ok e5) (F27_ok e6) (F24_ok e7) e8 (F28_ok e9) e10 e11
    ·
      rcases cond_elim h with ⟨e11, h⟩ | ⟨e11, h⟩
      ·
        rcases cond_elim h with ⟨e12, h⟩ | ⟨e12, h⟩
        ·
          rcases cond_elim h with ⟨e13, h⟩ | ⟨e13, h⟩
          ·
            have h := Option.some.inj h; subst h; exact P8_4 i0 b0 b1 b2 b3 s0 s1 s2 s3 s4 s5 s6 s7 s8 x0 x1 o0 o1 n0 n1 k (F22_ok e0) (F22_ok e1) (F22_ok e2) (F22_ok e3) (F29_ok e4) (F29_ok e5) (F27_ok e6) (F24_ok e7) e8 (F28_ok e9) e10 e11 e12 e13
          ·
            have h := Option.some.inj h; subst h; exact P8_5 i0 b0 b1 b2 b3 s0 s1 s2 s3 s4 s5 s6 s7 s8 x0 x1 o0 o1 n0 n1 k (F22_ok e0) (F22_ok e1) (F22_ok e2) (F22_ok e3) (F29_ok e4) (F29_ok e5) (F27_ok e6) (F24_ok e7) e8 (F28_ok e9) e10 e11 e12 e13
        ·
          have h := Option.some.inj h; subst h; exact P8_6 i0 b0 b1 b2 b3 s0 s1 s2 s3 s4 s5 s6 s7 s8 x0 x1 o0 o1 n0 n1 k (F22_ok e0) (F22_ok e1) (F22_ok e2) (F22_ok e3) (F29_ok e4) (F29_ok e5) (F27_ok e6) (F24_ok e7) e8 (F28_ok e9) e10 e11 e12
      ·
        have h := Option.some.inj h; subst h; exact P8_7 i0 b0 b1 b2 b3 s0 s1 s2 s3 s4 s5 s6 s7 s8 x0 x1 o0 o1 n0 n1 k (F22_ok e0) (F22_ok e1) (F22_ok e2) (F22_ok e3) (F29_ok e4) (F29_ok e5) (F27_ok e6) (F24_ok e7) e8 (F28_ok e9) e10 e11
  ·
    have h := Option.some.inj h; subst h; exact P8_8 i0 b0 b1 b2 s0 s1 s2 s3 s4 s5 s6 s7 s8 x0 x1 o0 o1 n0 n1 k (F22_ok e0) (F22_ok e1) (F22_ok e2) (F22_ok e3) (F29_ok e4) (F29_ok e5) (F27_ok e6) (F24_ok e7) e8
end Go.Proofs
