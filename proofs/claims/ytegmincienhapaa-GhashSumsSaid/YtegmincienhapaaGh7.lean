/-
  What the law GhashSums answers, checked against the program.
-/
import Derived.Test.YtegmincienhapaaGhC
set_option linter.unusedVariables false
set_option maxHeartbeats 0
set_option maxRecDepth 100000
namespace Go.Proofs
open Go Go.Sym

theorem P7_0 (i0 : Int) (b0 b1 b2 : Bool) (s0 : List UInt8) (s1 : List UInt8) (s2 : List UInt8) (s3 : List UInt8) (s4 : List UInt8) (s5 : List UInt8) (s6 : List UInt8) (x0 : List V) (x1 : List V) (o0 : Option Bool) (o1 : Option Bool) (n0 : Nat) (n1 : Nat) (k : Nat)
    (c0 : callP (evalFn Try.prog Try.cfg (k + 23)) 22 [V.str s0] = some (V.str s3))
    (c1 : callP (evalFn Try.prog Try.cfg (k + 23)) 22 [V.str s1] = some (V.str s4))
    (c2 : callP (evalFn Try.prog Try.cfg (k + 23)) 22 [V.str s2] = some (V.str s5))
    (c3 : callP (evalFn Try.prog Try.cfg (k + 23)) 27 [V.str s3, V.str s4, V.str s5] = some (V.tup [V.str s6, V.int .i64 i0]))
    (c4 : callP (evalFn Try.prog Try.cfg (k + 23)) 29 [V.str s4, V.str s5] = some (V.sl o0 b0 n0 x0))
    (c5 : callP (evalFn Try.prog Try.cfg (k + 23)) 30 [V.str s4, V.str s5] = some (V.sl o1 b1 n1 x1))
    (c6 : callP (evalFn Try.prog Try.cfg (k + 23)) 28 [V.sl o0 b0 n0 x0, V.sl o1 b1 n1 x1] = some (V.bool b2))
    (c7 : (!b2) = true) :
    callP (evalFn Try.prog Try.cfg (k + 24)) 7 [V.str s0, V.str s1, V.str s2] = some (V.bool false) :=
  byF (k := k) (d := 24) [Hn.call 10 (V.str s3), Hn.call 12 (V.str s4), Hn.call 14 (V.str s5), Hn.call 19 (V.tup [V.str s6, V.int .i64 i0]), Hn.call 24 (V.sl o0 b0 n0 x0), Hn.call 27 (V.sl o1 b1 n1 x1), Hn.call 28 (V.bool b2), Hn.br 30 true] (And.intro c0 (And.intro c1 (And.intro c2 (And.intro c3 (And.intro c4 (And.intro c5 (And.intro c6 (And.intro c7 trivial)))))))) (by kernel_rfl)
theorem P7_1 (i0 : Int) (b0 b1 b2 b3 : Bool) (s0 : List UInt8) (s1 : List UInt8) (s2 : List UInt8) (s3 : List UInt8) (s4 : List UInt8) (s5 : List UInt8) (s6 : List UInt8) (x0 : List V) (x1 : List V) (o0 : Option Bool) (o1 : Option Bool) (n0 : Nat) (n1 : Nat) (k : Nat)
    (c0 : callP (evalFn Try.prog Try.cfg (k + 23)) 22 [V.str s0] = some (V.str s3))
    (c1 : callP (evalFn Try.prog Try.cfg (k + 23)) 22 [V.str s1] = some (V.str s4))
    (c2 : callP (evalFn Try.prog Try.cfg (k + 23)) 22 [V.str s2] = some (V.str s5))
    (c3 : callP (evalFn Try.prog Try.cfg (k + 23)) 27 [V.str s3, V.str s4, V.str s5] = some (V.tup [V.str s6, V.int .i64 i0]))
    (c4 : callP (evalFn Try.prog Try.cfg (k + 23)) 29 [V.str s4, V.str s5] = some (V.sl o0 b0 n0 x0))
    (c5 : callP (evalFn Try.prog Try.cfg (k + 23)) 30 [V.str s4, V.str s5] = some (V.sl o1 b1 n1 x1))
    (c6 : callP (evalFn Try.prog Try.cfg (k + 23)) 28 [V.sl o0 b0 n0 x0, V.sl o1 b1 n1 x1] = some (V.bool b2))
    (c7 : (!b2) = false)
    (c8 : callP (evalFn Try.prog Try.cfg (k + 23)) 24 [] = some (V.bool b3))
    (c9 : (!b3) = true) :
    callP (evalFn Try.prog Try.cfg (k + 24)) 7 [V.str s0, V.str s1, V.str s2] = some (V.bool false) :=
  byF (k := k) (d := 24) [Hn.call 10 (V.str s3), Hn.call 12 (V.str s4), Hn.call 14 (V.str s5), Hn.call 19 (V.tup [V.str s6, V.int .i64 i0]), Hn.call 24 (V.sl o0 b0 n0 x0), Hn.call 27 (V.sl o1 b1 n1 x1), Hn.call 28 (V.bool b2), Hn.br 30 false, Hn.call 31 (V.bool b3), Hn.br 33 true] (And.intro c0 (And.intro c1 (And.intro c2 (And.intro c3 (And.intro c4 (And.intro c5 (And.intro c6 (And.intro c7 (And.intro c8 (And.intro c9 trivial)))))))))) (by kernel_rfl)
theorem P7_2 (i0 : Int) (b0 b1 b2 b3 : Bool) (s0 : List UInt8) (s1 : List UInt8) (s2 : List UInt8) (s3 : List UInt8) (s4 : List UInt8) (s5 : List UInt8) (s6 : List UInt8) (x0 : List V) (x1 : List V) (o0 : Option Bool) (o1 : Option Bool) (n0 : Nat) (n1 : Nat) (k : Nat)
    (c0 : callP (evalFn Try.prog Try.cfg (k + 23)) 22 [V.str s0] = some (V.str s3))
    (c1 : callP (evalFn Try.prog Try.cfg (k + 23)) 22 [V.str s1] = some (V.str s4))
    (c2 : callP (evalFn Try.prog Try.cfg (k + 23)) 22 [V.str s2] = some (V.str s5))
    (c3 : callP (evalFn Try.prog Try.cfg (k + 23)) 27 [V.str s3, V.str s4, V.str s5] = some (V.tup [V.str s6, V.int .i64 i0]))
    (c4 : callP (evalFn Try.prog Try.cfg (k + 23)) 29 [V.str s4, V.str s5] = some (V.sl o0 b0 n0 x0))
    (c5 : callP (evalFn Try.prog Try.cfg (k + 23)) 30 [V.str s4, V.str s5] = some (V.sl o1 b1 n1 x1))
    (c6 : callP (evalFn Try.prog Try.cfg (k + 23)) 28 [V.sl o0 b0 n0 x0, V.sl o1 b1 n1 x1] = some (V.bool b2))
    (c7 : (!b2) = false)
    (c8 : callP (evalFn Try.prog Try.cfg (k + 23)) 24 [] = some (V.bool b3))
    (c9 : (!b3) = false)
    (c10 : (!decide ((↑s3.length : Int) = 16)) = true)
    (c11 : decide (i0 = 4) = true) :
    callP (evalFn Try.prog Try.cfg (k + 24)) 7 [V.str s0, V.str s1, V.str s2] = some (V.bool (decide (s6 = []))) :=
  byF (k := k) (d := 24) [Hn.call 10 (V.str s3), Hn.call 12 (V.str s4), Hn.call 14 (V.str s5), Hn.call 19 (V.tup [V.str s6, V.int .i64 i0]), Hn.call 24 (V.sl o0 b0 n0 x0), Hn.call 27 (V.sl o1 b1 n1 x1), Hn.call 28 (V.bool b2), Hn.br 30 false, Hn.call 31 (V.bool b3), Hn.br 33 false, Hn.br 36 true, Hn.br 39 true] (And.intro c0 (And.intro c1 (And.intro c2 (And.intro c3 (And.intro c4 (And.intro c5 (And.intro c6 (And.intro c7 (And.intro c8 (And.intro c9 (And.intro c10 (And.intro c11 trivial)))))))))))) (by kernel_rfl)
theorem P7_3 (i0 : Int) (b0 b1 b2 b3 : Bool) (s0 : List UInt8) (s1 : List UInt8) (s2 : List UInt8) (s3 : List UInt8) (s4 : List UInt8) (s5 : List UInt8) (s6 : List UInt8) (x0 : List V) (x1 : List V) (o0 : Option Bool) (o1 : Option Bool) (n0 : Nat) (n1 : Nat) (k : Nat)
    (c0 : callP (evalFn Try.prog Try.cfg (k + 23)) 22 [V.str s0] = some (V.str s3))
    (c1 : callP (evalFn Try.prog Try.cfg (k + 23)) 22 [V.str s1] = some (V.str s4))
    (c2 : callP (evalFn Try.prog Try.cfg (k + 23)) 22 [V.str s2] = some (V.str s5))
    (c3 : callP (evalFn Try.prog Try.cfg (k + 23)) 27 [V.str s3, V.str s4, V.str s5] = some (V.tup [V.str s6, V.int .i64 i0]))
    (c4 : callP (evalFn Try.prog Try.cfg (k + 23)) 29 [V.str s4, V.str s5] = some (V.sl o0 b0 n0 x0))
    (c5 : callP (evalFn Try.prog Try.cfg (k + 23)) 30 [V.str s4, V.str s5] = some (V.sl o1 b1 n1 x1))
    (c6 : callP (evalFn Try.prog Try.cfg (k + 23)) 28 [V.sl o0 b0 n0 x0, V.sl o1 b1 n1 x1] = some (V.bool b2))
    (c7 : (!b2) = false)
    (c8 : callP (evalFn Try.prog Try.cfg (k + 23)) 24 [] = some (V.bool b3))
    (c9 : (!b3) = false)
    (c10 : (!decide ((↑s3.length : Int) = 16)) = true)
    (c11 : decide (i0 = 4) = false) :
    callP (evalFn Try.prog Try.cfg (k + 24)) 7 [V.str s0, V.str s1, V.str s2] = some (V.bool false) :=
  byF (k := k) (d := 24) [Hn.call 10 (V.str s3), Hn.call 12 (V.str s4), Hn.call 14 (V.str s5), Hn.call 19 (V.tup [V.str s6, V.int .i64 i0]), Hn.call 24 (V.sl o0 b0 n0 x0), Hn.call 27 (V.sl o1 b1 n1 x1), Hn.call 28 (V.bool b2), Hn.br 30 false, Hn.call 31 (V.bool b3), Hn.br 33 false, Hn.br 36 true, Hn.br 39 false] (And.intro c0 (And.intro c1 (And.intro c2 (And.intro c3 (And.intro c4 (And.intro c5 (And.intro c6 (And.intro c7 (And.intro c8 (And.intro c9 (And.intro c10 (And.intro c11 trivial)))))))))))) (by kernel_rfl)
theorem P7_4 (i0 : Int) (b0 b1 b2 b3 : Bool) (s0 : List UInt8) (s1 : List UInt8) (s2 : List UInt8) (s3 : List UInt8) (s4 : List UInt8) (s5 : List UInt8) (s6 : List UInt8) (s7 : List UInt8) (x0 : List V) (x1 : List V) (o0 : Option Bool) (o1 : Option Bool) (n0 : Nat) (n1 : Nat) (k : Nat)
    (c0 : callP (evalFn Try.prog Try.cfg (k + 23)) 22 [V.str s0] = some (V.str s3))
    (c1 : callP (evalFn Try.prog Try.cfg (k + 23)) 22 [V.str s1] = some (V.str s4))
    (c2 : callP (evalFn Try.prog Try.cfg (k + 23)) 22 [V.str s2] = some (V.str s5))
    (c3 : callP (evalFn Try.prog Try.cfg (k + 23)) 27 [V.str s3, V.str s4, V.str s5] = some (V.tup [V.str s6, V.int .i64 i0]))
    (c4 : callP (evalFn Try.prog Try.cfg (k + 23)) 29 [V.str s4, V.str s5] = some (V.sl o0 b0 n0 x0))
    (c5 : callP (evalFn Try.prog Try.cfg (k + 23)) 30 [V.str s4, V.str s5] = some (V.sl o1 b1 n1 x1))
    (c6 : callP (evalFn Try.prog Try.cfg (k + 23)) 28 [V.sl o0 b0 n0 x0, V.sl o1 b1 n1 x1] = some (V.bool b2))
    (c7 : (!b2) = false)
    (c8 : callP (evalFn Try.prog Try.cfg (k + 23)) 24 [] = some (V.bool b3))
    (c9 : (!b3) = false)
    (c10 : (!decide ((↑s3.length : Int) = 16)) = false)
    (c11 : decide (i0 = 0) = true)
    (c12 : callP (evalFn Try.prog Try.cfg (k + 23)) 31 [V.str s3, V.str s4, V.str s5] = some (V.str s7)) :
    callP (evalFn Try.prog Try.cfg (k + 24)) 7 [V.str s0, V.str s1, V.str s2] = some (V.bool (decide (s6 = s7))) :=
  byF (k := k) (d := 24) [Hn.call 10 (V.str s3), Hn.call 12 (V.str s4), Hn.call 14 (V.str s5), Hn.call 19 (V.tup [V.str s6, V.int .i64 i0]), Hn.call 24 (V.sl o0 b0 n0 x0), Hn.call 27 (V.sl o1 b1 n1 x1), Hn.call 28 (V.bool b2), Hn.br 30 false, Hn.call 31 (V.bool b3), Hn.br 33 false, Hn.br 36 false, Hn.br 45 true, Hn.call 50 (V.str s7)] (And.intro c0 (And.intro c1 (And.intro c2 (And.intro c3 (And.intro c4 (And.intro c5 (And.intro c6 (And.intro c7 (And.intro c8 (And.intro c9 (And.intro c10 (And.intro c11 (And.intro c12 trivial))))))))))))) (by kernel_rfl)
theorem P7_5 (i0 : Int) (b0 b1 b2 b3 : Bool) (s0 : List UInt8) (s1 : List UInt8) (s2 : List UInt8) (s3 : List UInt8) (s4 : List UInt8) (s5 : List UInt8) (s6 : List UInt8) (x0 : List V) (x1 : List V) (o0 : Option Bool) (o1 : Option Bool) (n0 : Nat) (n1 : Nat) (k : Nat)
    (c0 : callP (evalFn Try.prog Try.cfg (k + 23)) 22 [V.str s0] = some (V.str s3))
    (c1 : callP (evalFn Try.prog Try.cfg (k + 23)) 22 [V.str s1] = some (V.str s4))
    (c2 : callP (evalFn Try.prog Try.cfg (k + 23)) 22 [V.str s2] = some (V.str s5))
    (c3 : callP (evalFn Try.prog Try.cfg (k + 23)) 27 [V.str s3, V.str s4, V.str s5] = some (V.tup [V.str s6, V.int .i64 i0]))
    (c4 : callP (evalFn Try.prog Try.cfg (k + 23)) 29 [V.str s4, V.str s5] = some (V.sl o0 b0 n0 x0))
    (c5 : callP (evalFn Try.prog Try.cfg (k + 23)) 30 [V.str s4, V.str s5] = some (V.sl o1 b1 n1 x1))
    (c6 : callP (evalFn Try.prog Try.cfg (k + 23)) 28 [V.sl o0 b0 n0 x0, V.sl o1 b1 n1 x1] = some (V.bool b2))
    (c7 : (!b2) = false)
    (c8 : callP (evalFn Try.prog Try.cfg (k + 23)) 24 [] = some (V.bool b3))
    (c9 : (!b3) = false)
    (c10 : (!decide ((↑s3.length : Int) = 16)) = false)
    (c11 : decide (i0 = 0) = false) :
    callP (evalFn Try.prog Try.cfg (k + 24)) 7 [V.str s0, V.str s1, V.str s2] = some (V.bool false) :=
  byF (k := k) (d := 24) [Hn.call 10 (V.str s3), Hn.call 12 (V.str s4), Hn.call 14 (V.str s5), Hn.call 19 (V.tup [V.str s6, V.int .i64 i0]), Hn.call 24 (V.sl o0 b0 n0 x0), Hn.call 27 (V.sl o1 b1 n1 x1), Hn.call 28 (V.bool b2), Hn.br 30 false, Hn.call 31 (V.bool b3), Hn.br 33 false, Hn.br 36 false, Hn.br 45 false] (And.intro c0 (And.intro c1 (And.intro c2 (And.intro c3 (And.intro c4 (And.intro c5 (And.intro c6 (And.intro c7 (And.intro c8 (And.intro c9 (And.intro c10 (And.intro c11 trivial)))))))))))) (by kernel_rfl)
def F7 (k : Nat) (s0 : List UInt8) (s1 : List UInt8) (s2 : List UInt8) : Option (Bool) :=
  ((F22 (k + 20) (s0)).bind fun s3 => ((F22 (k + 20) (s1)).bind fun s4 => ((F22 (k + 20) (s2)).bind fun s5 => ((F27 (k + 5) (s3) (s4) (s5)).bind fun (s6, i0) => ((F29 (k + 8) (s4) (s5)).bind fun (o0, b0, n0, x0) => ((F30 (k + 17) (s4) (s5)).bind fun (o1, b1, n1, x1) => ((F28 (k + 20) (o0) (b0) (n0) (x0) (o1) (b1) (n1) (x1)).bind fun b2 => (bif !b2 then (some (false)) else ((F24 (k + 2)).bind fun b3 => (bif !b3 then (some (false)) else (bif !decide ((↑s3.length : Int) = 16) then (bif decide (i0 = 4) then (some (decide (s6 = []))) else (some (false))) else (bif decide (i0 = 0) then ((F31 (k + 11) (s3) (s4) (s5)).bind fun s7 => (some (decide (s6 = s7)))) else (some (false))))))))))))))
theorem F7_ok {s0 : List UInt8} {s1 : List UInt8} {s2 : List UInt8} {k : Nat} {r : Bool} (h : F7 k s0 s1 s2 = some r) :
    callP (evalFn Try.prog Try.cfg (k + 24)) 7 [V.str s0, V.str s1, V.str s2] = some (V.bool r) := by
  unfold F7 at h
  obtain ⟨s3, e0, h⟩ := Option.bind_eq_some_iff.1 h
  obtain ⟨s4, e1, h⟩ := Option.bind_eq_some_iff.1 h
  obtain ⟨s5, e2, h⟩ := Option.bind_eq_some_iff.1 h
  obtain ⟨⟨s6, i0⟩, e3, h⟩ := Option.bind_eq_some_iff.1 h
  obtain ⟨⟨o0, b0, n0, x0⟩, e4, h⟩ := Option.bind_eq_some_iff.1 h
  obtain ⟨⟨o1, b1, n1, x1⟩, e5, h⟩ := Option.bind_eq_some_iff.1 h
  obtain ⟨b2, e6, h⟩ := Option.bind_eq_some_iff.1 h
  rcases cond_elim h with ⟨e7, h⟩ | ⟨e7, h⟩
  ·
    have h := Option.some.inj h; subst h; exact P7_0 i0 b0 b1 b2 s0 s1 s2 s3 s4 s5 s6 x0 x1 o0 o1 n0 n1 k (F22_ok e0) (F22_ok e1) (F22_ok e2) (F27_ok e3) (F29_ok e4) (F30_ok e5) (F28_ok e6) e7
  ·
    obtain ⟨b3, e8, h⟩ := Option.bind_eq_some_iff.1 h
    rcases cond_elim h with ⟨e9, h⟩ | ⟨e9, h⟩
    ·
      have h := Option.some.inj h; subst h; exact P7_1 i0 b0 b1 b2 b3 s0 s1 s2 s3 s4 s5 s6 x0 x1 o0 o1 n0 n1 k (F22_ok e0) (F22_ok e1) (F22_ok e2) (F27_ok e3) (F29_ok e4) (F30_ok e5) (F28_ok e6) e7 (F24_ok e8) e9
    ·
      rcases cond_elim h with ⟨e10, h⟩ | ⟨e10, h⟩
      ·
        rcases cond_elim h with ⟨e11, h⟩ | ⟨e11, h⟩
        ·
          have h := Option.some.inj h; subst h; exact P7_2 i0 b0 b1 b2 b3 s0 s1 s2 s3 s4 s5 s6 x0 x1 o0 o1 n0 n1 k (F22_ok e0) (F22_ok e1) (F22_ok e2) (F27_ok e3) (F29_ok e4) (F30_ok e5) (F28_ok e6) e7 (F24_ok e8) e9 e10 e11
        ·
          have h := Option.some.inj h; subst h; exact P7_3 i0 b0 b1 b2 b3 s0 s1 s2 s3 s4 s5 s6 x0 x1 o0 o1 n0 n1 k (F22_ok e0) (F22_ok e1) (F22_ok e2) (F27_ok e3) (F29_ok e4) (F30_ok e5) (F28_ok e6) e7 (F24_ok e8) e9 e10 e11
      ·
        rcases cond_elim h with ⟨e11, h⟩ | ⟨e11, h⟩
        ·
          obtain ⟨s7, e12, h⟩ := Option.bind_eq_some_iff.1 h
          have h := Option.some.inj h; subst h; exact P7_4 i0 b0 b1 b2 b3 s0 s1 s2 s3 s4 s5 s6 s7 x0 x1 o0 o1 n0 n1 k (F22_ok e0) (F22_ok e1) (F22_ok e2) (F27_ok e3) (F29_ok e4) (F30_ok e5) (F28_ok e6) e7 (F24_ok e8) e9 e10 e11 (F31_ok e12)
        ·
          have h := Option.some.inj h; subst h; exact P7_5 i0 b0 b1 b2 b3 s0 s1 s2 s3 s4 s5 s6 x0 x1 o0 o1 n0 n1 k (F22_ok e0) (F22_ok e1) (F22_ok e2) (F27_ok e3) (F29_ok e4) (F30_ok e5) (F28_ok e6) e7 (F24_ok e8) e9 e10 e11
end Go.Proofs
