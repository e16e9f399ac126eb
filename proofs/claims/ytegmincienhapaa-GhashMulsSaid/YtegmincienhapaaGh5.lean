/-
  What the law GhashMuls answers, checked against the program.
-/
import Derived.Test.YtegmincienhapaaGhB
set_option linter.unusedVariables false
set_option maxHeartbeats 0
set_option maxRecDepth 100000
namespace Go.Proofs
open Go Go.Sym

theorem P5_0 (i0 : Int) (b0 : Bool) (s0 : List UInt8) (s1 : List UInt8) (s2 : List UInt8) (s3 : List UInt8) (s4 : List UInt8) (k : Nat)
    (c0 : callP (evalFn Try.prog Try.cfg (k + 23)) 22 [V.str s0] = some (V.str s2))
    (c1 : callP (evalFn Try.prog Try.cfg (k + 23)) 22 [V.str s1] = some (V.str s3))
    (c2 : callP (evalFn Try.prog Try.cfg (k + 23)) 23 [V.str s2, V.str s3] = some (V.tup [V.str s4, V.int IntKind.i64 i0]))
    (c3 : (!decide ((↑s2.length : Int) = 16)) = true)
    (c4 : callP (evalFn Try.prog Try.cfg (k + 23)) 24 [] = some (V.bool b0))
    (c5 : b0 = true)
    (c6 : decide (i0 = 4) = true) :
    callP (evalFn Try.prog Try.cfg (k + 24)) 5 [V.str s0, V.str s1] = some (V.bool (decide (s4 = []))) :=
  byF (k := k) (d := 24) [Hn.call 8 (V.str s2), Hn.call 10 (V.str s3), Hn.call 14 (V.tup [V.str s4, V.int IntKind.i64 i0]), Hn.br 20 true, Hn.call 25 (V.bool b0), Hn.br 26 true, Hn.br 30 true] (And.intro c0 (And.intro c1 (And.intro c2 (And.intro c3 (And.intro c4 (And.intro c5 (And.intro c6 trivial))))))) (by kernel_rfl)
theorem P5_1 (i0 : Int) (b0 : Bool) (s0 : List UInt8) (s1 : List UInt8) (s2 : List UInt8) (s3 : List UInt8) (s4 : List UInt8) (k : Nat)
    (c0 : callP (evalFn Try.prog Try.cfg (k + 23)) 22 [V.str s0] = some (V.str s2))
    (c1 : callP (evalFn Try.prog Try.cfg (k + 23)) 22 [V.str s1] = some (V.str s3))
    (c2 : callP (evalFn Try.prog Try.cfg (k + 23)) 23 [V.str s2, V.str s3] = some (V.tup [V.str s4, V.int IntKind.i64 i0]))
    (c3 : (!decide ((↑s2.length : Int) = 16)) = true)
    (c4 : callP (evalFn Try.prog Try.cfg (k + 23)) 24 [] = some (V.bool b0))
    (c5 : b0 = true)
    (c6 : decide (i0 = 4) = false) :
    callP (evalFn Try.prog Try.cfg (k + 24)) 5 [V.str s0, V.str s1] = some (V.bool false) :=
  byF (k := k) (d := 24) [Hn.call 8 (V.str s2), Hn.call 10 (V.str s3), Hn.call 14 (V.tup [V.str s4, V.int IntKind.i64 i0]), Hn.br 20 true, Hn.call 25 (V.bool b0), Hn.br 26 true, Hn.br 30 false] (And.intro c0 (And.intro c1 (And.intro c2 (And.intro c3 (And.intro c4 (And.intro c5 (And.intro c6 trivial))))))) (by kernel_rfl)
theorem P5_2 (i0 : Int) (b0 : Bool) (s0 : List UInt8) (s1 : List UInt8) (s2 : List UInt8) (s3 : List UInt8) (s4 : List UInt8) (k : Nat)
    (c0 : callP (evalFn Try.prog Try.cfg (k + 23)) 22 [V.str s0] = some (V.str s2))
    (c1 : callP (evalFn Try.prog Try.cfg (k + 23)) 22 [V.str s1] = some (V.str s3))
    (c2 : callP (evalFn Try.prog Try.cfg (k + 23)) 23 [V.str s2, V.str s3] = some (V.tup [V.str s4, V.int IntKind.i64 i0]))
    (c3 : (!decide ((↑s2.length : Int) = 16)) = true)
    (c4 : callP (evalFn Try.prog Try.cfg (k + 23)) 24 [] = some (V.bool b0))
    (c5 : b0 = false) :
    callP (evalFn Try.prog Try.cfg (k + 24)) 5 [V.str s0, V.str s1] = some (V.bool false) :=
  byF (k := k) (d := 24) [Hn.call 8 (V.str s2), Hn.call 10 (V.str s3), Hn.call 14 (V.tup [V.str s4, V.int IntKind.i64 i0]), Hn.br 20 true, Hn.call 25 (V.bool b0), Hn.br 26 false] (And.intro c0 (And.intro c1 (And.intro c2 (And.intro c3 (And.intro c4 (And.intro c5 trivial)))))) (by kernel_rfl)
theorem P5_3 (i0 : Int) (b0 : Bool) (s0 : List UInt8) (s1 : List UInt8) (s2 : List UInt8) (s3 : List UInt8) (s4 : List UInt8) (k : Nat)
    (c0 : callP (evalFn Try.prog Try.cfg (k + 23)) 22 [V.str s0] = some (V.str s2))
    (c1 : callP (evalFn Try.prog Try.cfg (k + 23)) 22 [V.str s1] = some (V.str s3))
    (c2 : callP (evalFn Try.prog Try.cfg (k + 23)) 23 [V.str s2, V.str s3] = some (V.tup [V.str s4, V.int IntKind.i64 i0]))
    (c3 : (!decide ((↑s2.length : Int) = 16)) = false)
    (c4 : (!decide ((↑s3.length : Int) = 16)) = true)
    (c5 : callP (evalFn Try.prog Try.cfg (k + 23)) 24 [] = some (V.bool b0))
    (c6 : b0 = true)
    (c7 : decide (i0 = 4) = true) :
    callP (evalFn Try.prog Try.cfg (k + 24)) 5 [V.str s0, V.str s1] = some (V.bool (decide (s4 = []))) :=
  byF (k := k) (d := 24) [Hn.call 8 (V.str s2), Hn.call 10 (V.str s3), Hn.call 14 (V.tup [V.str s4, V.int IntKind.i64 i0]), Hn.br 20 false, Hn.br 24 true, Hn.call 25 (V.bool b0), Hn.br 26 true, Hn.br 30 true] (And.intro c0 (And.intro c1 (And.intro c2 (And.intro c3 (And.intro c4 (And.intro c5 (And.intro c6 (And.intro c7 trivial)))))))) (by kernel_rfl)
theorem P5_4 (i0 : Int) (b0 : Bool) (s0 : List UInt8) (s1 : List UInt8) (s2 : List UInt8) (s3 : List UInt8) (s4 : List UInt8) (k : Nat)
    (c0 : callP (evalFn Try.prog Try.cfg (k + 23)) 22 [V.str s0] = some (V.str s2))
    (c1 : callP (evalFn Try.prog Try.cfg (k + 23)) 22 [V.str s1] = some (V.str s3))
    (c2 : callP (evalFn Try.prog Try.cfg (k + 23)) 23 [V.str s2, V.str s3] = some (V.tup [V.str s4, V.int IntKind.i64 i0]))
    (c3 : (!decide ((↑s2.length : Int) = 16)) = false)
    (c4 : (!decide ((↑s3.length : Int) = 16)) = true)
    (c5 : callP (evalFn Try.prog Try.cfg (k + 23)) 24 [] = some (V.bool b0))
    (c6 : b0 = true)
    (c7 : decide (i0 = 4) = false) :
    callP (evalFn Try.prog Try.cfg (k + 24)) 5 [V.str s0, V.str s1] = some (V.bool false) :=
  byF (k := k) (d := 24) [Hn.call 8 (V.str s2), Hn.call 10 (V.str s3), Hn.call 14 (V.tup [V.str s4, V.int IntKind.i64 i0]), Hn.br 20 false, Hn.br 24 true, Hn.call 25 (V.bool b0), Hn.br 26 true, Hn.br 30 false] (And.intro c0 (And.intro c1 (And.intro c2 (And.intro c3 (And.intro c4 (And.intro c5 (And.intro c6 (And.intro c7 trivial)))))))) (by kernel_rfl)
theorem P5_5 (i0 : Int) (b0 : Bool) (s0 : List UInt8) (s1 : List UInt8) (s2 : List UInt8) (s3 : List UInt8) (s4 : List UInt8) (k : Nat)
    (c0 : callP (evalFn Try.prog Try.cfg (k + 23)) 22 [V.str s0] = some (V.str s2))
    (c1 : callP (evalFn Try.prog Try.cfg (k + 23)) 22 [V.str s1] = some (V.str s3))
    (c2 : callP (evalFn Try.prog Try.cfg (k + 23)) 23 [V.str s2, V.str s3] = some (V.tup [V.str s4, V.int IntKind.i64 i0]))
    (c3 : (!decide ((↑s2.length : Int) = 16)) = false)
    (c4 : (!decide ((↑s3.length : Int) = 16)) = true)
    (c5 : callP (evalFn Try.prog Try.cfg (k + 23)) 24 [] = some (V.bool b0))
    (c6 : b0 = false) :
    callP (evalFn Try.prog Try.cfg (k + 24)) 5 [V.str s0, V.str s1] = some (V.bool false) :=
  byF (k := k) (d := 24) [Hn.call 8 (V.str s2), Hn.call 10 (V.str s3), Hn.call 14 (V.tup [V.str s4, V.int IntKind.i64 i0]), Hn.br 20 false, Hn.br 24 true, Hn.call 25 (V.bool b0), Hn.br 26 false] (And.intro c0 (And.intro c1 (And.intro c2 (And.intro c3 (And.intro c4 (And.intro c5 (And.intro c6 trivial))))))) (by kernel_rfl)
theorem P5_6 (i0 : Int) (b0 : Bool) (s0 : List UInt8) (s1 : List UInt8) (s2 : List UInt8) (s3 : List UInt8) (s4 : List UInt8) (s5 : List UInt8) (k : Nat)
    (c0 : callP (evalFn Try.prog Try.cfg (k + 23)) 22 [V.str s0] = some (V.str s2))
    (c1 : callP (evalFn Try.prog Try.cfg (k + 23)) 22 [V.str s1] = some (V.str s3))
    (c2 : callP (evalFn Try.prog Try.cfg (k + 23)) 23 [V.str s2, V.str s3] = some (V.tup [V.str s4, V.int IntKind.i64 i0]))
    (c3 : (!decide ((↑s2.length : Int) = 16)) = false)
    (c4 : (!decide ((↑s3.length : Int) = 16)) = false)
    (c5 : callP (evalFn Try.prog Try.cfg (k + 23)) 24 [] = some (V.bool b0))
    (c6 : b0 = true)
    (c7 : decide (i0 = 0) = true)
    (c8 : callP (evalFn Try.prog Try.cfg (k + 23)) 25 [V.str s2, V.str s3] = some (V.str s5)) :
    callP (evalFn Try.prog Try.cfg (k + 24)) 5 [V.str s0, V.str s1] = some (V.bool (decide (s4 = s5))) :=
  byF (k := k) (d := 24) [Hn.call 8 (V.str s2), Hn.call 10 (V.str s3), Hn.call 14 (V.tup [V.str s4, V.int IntKind.i64 i0]), Hn.br 20 false, Hn.br 24 false, Hn.call 34 (V.bool b0), Hn.br 35 true, Hn.br 39 true, Hn.call 43 (V.str s5)] (And.intro c0 (And.intro c1 (And.intro c2 (And.intro c3 (And.intro c4 (And.intro c5 (And.intro c6 (And.intro c7 (And.intro c8 trivial))))))))) (by kernel_rfl)
theorem P5_7 (i0 : Int) (b0 : Bool) (s0 : List UInt8) (s1 : List UInt8) (s2 : List UInt8) (s3 : List UInt8) (s4 : List UInt8) (k : Nat)
    (c0 : callP (evalFn Try.prog Try.cfg (k + 23)) 22 [V.str s0] = some (V.str s2))
    (c1 : callP (evalFn Try.prog Try.cfg (k + 23)) 22 [V.str s1] = some (V.str s3))
    (c2 : callP (evalFn Try.prog Try.cfg (k + 23)) 23 [V.str s2, V.str s3] = some (V.tup [V.str s4, V.int IntKind.i64 i0]))
    (c3 : (!decide ((↑s2.length : Int) = 16)) = false)
    (c4 : (!decide ((↑s3.length : Int) = 16)) = false)
    (c5 : callP (evalFn Try.prog Try.cfg (k + 23)) 24 [] = some (V.bool b0))
    (c6 : b0 = true)
    (c7 : decide (i0 = 0) = false) :
    callP (evalFn Try.prog Try.cfg (k + 24)) 5 [V.str s0, V.str s1] = some (V.bool false) :=
  byF (k := k) (d := 24) [Hn.call 8 (V.str s2), Hn.call 10 (V.str s3), Hn.call 14 (V.tup [V.str s4, V.int IntKind.i64 i0]), Hn.br 20 false, Hn.br 24 false, Hn.call 34 (V.bool b0), Hn.br 35 true, Hn.br 39 false] (And.intro c0 (And.intro c1 (And.intro c2 (And.intro c3 (And.intro c4 (And.intro c5 (And.intro c6 (And.intro c7 trivial)))))))) (by kernel_rfl)
theorem P5_8 (i0 : Int) (b0 : Bool) (s0 : List UInt8) (s1 : List UInt8) (s2 : List UInt8) (s3 : List UInt8) (s4 : List UInt8) (k : Nat)
    (c0 : callP (evalFn Try.prog Try.cfg (k + 23)) 22 [V.str s0] = some (V.str s2))
    (c1 : callP (evalFn Try.prog Try.cfg (k + 23)) 22 [V.str s1] = some (V.str s3))
    (c2 : callP (evalFn Try.prog Try.cfg (k + 23)) 23 [V.str s2, V.str s3] = some (V.tup [V.str s4, V.int IntKind.i64 i0]))
    (c3 : (!decide ((↑s2.length : Int) = 16)) = false)
    (c4 : (!decide ((↑s3.length : Int) = 16)) = false)
    (c5 : callP (evalFn Try.prog Try.cfg (k + 23)) 24 [] = some (V.bool b0))
    (c6 : b0 = false) :
    callP (evalFn Try.prog Try.cfg (k + 24)) 5 [V.str s0, V.str s1] = some (V.bool false) :=
  byF (k := k) (d := 24) [Hn.call 8 (V.str s2), Hn.call 10 (V.str s3), Hn.call 14 (V.tup [V.str s4, V.int IntKind.i64 i0]), Hn.br 20 false, Hn.br 24 false, Hn.call 34 (V.bool b0), Hn.br 35 false] (And.intro c0 (And.intro c1 (And.intro c2 (And.intro c3 (And.intro c4 (And.intro c5 (And.intro c6 trivial))))))) (by kernel_rfl)
def F5 (k : Nat) (s0 : List UInt8) (s1 : List UInt8) : Option (Bool) :=
  ((F22 (k + 20) (s0)).bind fun s2 => ((F22 (k + 20) (s1)).bind fun s3 => ((F23 (k + 5) (s2) (s3)).bind fun (s4, i0) => (bif !decide ((↑s2.length : Int) = 16) then ((F24 (k + 2)).bind fun b0 => (bif b0 then (bif decide (i0 = 4) then (some (decide (s4 = []))) else (some (false))) else (some (false)))) else (bif !decide ((↑s3.length : Int) = 16) then ((F24 (k + 2)).bind fun b0 => (bif b0 then (bif decide (i0 = 4) then (some (decide (s4 = []))) else (some (false))) else (some (false)))) else ((F24 (k + 2)).bind fun b0 => (bif b0 then (bif decide (i0 = 0) then ((F25 (k + 14) (s2) (s3)).bind fun s5 => (some (decide (s4 = s5)))) else (some (false))) else (some (false)))))))))
theorem F5_ok {s0 : List UInt8} {s1 : List UInt8} {k : Nat} {r : Bool} (h : F5 k s0 s1 = some r) :
    callP (evalFn Try.prog Try.cfg (k + 24)) 5 [V.str s0, V.str s1] = some (V.bool r) := by
  unfold F5 at h
  obtain ⟨s2, e0, h⟩ := Option.bind_eq_some_iff.1 h
  obtain ⟨s3, e1, h⟩ := Option.bind_eq_some_iff.1 h
  obtain ⟨⟨s4, i0⟩, e2, h⟩ := Option.bind_eq_some_iff.1 h
  rcases cond_elim h with ⟨e3, h⟩ | ⟨e3, h⟩
  ·
    obtain ⟨b0, e4, h⟩ := Option.bind_eq_some_iff.1 h
    rcases cond_elim h with ⟨e5, h⟩ | ⟨e5, h⟩
    ·
      rcases cond_elim h with ⟨e6, h⟩ | ⟨e6, h⟩
      ·
        have h := Option.some.inj h; subst h; exact P5_0 i0 b0 s0 s1 s2 s3 s4 k (F22_ok e0) (F22_ok e1) (F23_ok e2) e3 (F24_ok e4) e5 e6
      ·
        have h := Option.some.inj h; subst h; exact P5_1 i0 b0 s0 s1 s2 s3 s4 k (F22_ok e0) (F22_ok e1) (F23_ok e2) e3 (F24_ok e4) e5 e6
    ·
      have h := Option.some.inj h; subst h; exact P5_2 i0 b0 s0 s1 s2 s3 s4 k (F22_ok e0) (F22_ok e1) (F23_ok e2) e3 (F24_ok e4) e5
  ·
    rcases cond_elim h with ⟨e4, h⟩ | ⟨e4, h⟩
    ·
      obtain ⟨b0, e5, h⟩ := Option.bind_eq_some_iff.1 h
      rcases cond_elim h with ⟨e6, h⟩ | ⟨e6, h⟩
      ·
        rcases cond_elim h with ⟨e7, h⟩ | ⟨e7, h⟩
        ·
          have h := Option.some.inj h; subst h; exact P5_3 i0 b0 s0 s1 s2 s3 s4 k (F22_ok e0) (F22_ok e1) (F23_ok e2) e3 e4 (F24_ok e5) e6 e7
        ·
          have h := Option.some.inj h; subst h; exact P5_4 i0 b0 s0 s1 s2 s3 s4 k (F22_ok e0) (F22_ok e1) (F23_ok e2) e3 e4 (F24_ok e5) e6 e7
      ·
        have h := Option.some.inj h; subst h; exact P5_5 i0 b0 s0 s1 s2 s3 s4 k (F22_ok e0) (F22_ok e1) (F23_ok e2) e3 e4 (F24_ok e5) e6
    ·
      obtain ⟨b0, e5, h⟩ := Option.bind_eq_some_iff.1 h
      rcases cond_elim h with ⟨e6, h⟩ | ⟨e6, h⟩
      ·
        rcases cond_elim h with ⟨e7, h⟩ | ⟨e7, h⟩
        ·
          obtain ⟨s5, e8, h⟩ := Option.bind_eq_some_iff.1 h
          have h := Option.some.inj h; subst h; exact P5_6 i0 b0 s0 s1 s2 s3 s4 s5 k (F22_ok e0) (F22_ok e1) (F23_ok e2) e3 e4 (F24_ok e5) e6 e7 (F25_ok e8)
        ·
          have h := Option.some.inj h; subst h; exact P5_7 i0 b0 s0 s1 s2 s3 s4 k (F22_ok e0) (F22_ok e1) (F23_ok e2) e3 e4 (F24_ok e5) e6 e7
      ·
        have h := Option.some.inj h; subst h; exact P5_8 i0 b0 s0 s1 s2 s3 s4 k (F22_ok e0) (F22_ok e1) (F23_ok e2) e3 e4 (F24_ok e5) e6
end Go.Proofs
