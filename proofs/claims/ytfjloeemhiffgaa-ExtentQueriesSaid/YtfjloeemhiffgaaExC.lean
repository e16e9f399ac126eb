/-
  What the reference's functions answer, each checked against the program.
-/
import Derived.Test.YtfjloeemhiffgaaExB
set_option linter.unusedVariables false
set_option maxHeartbeats 0
set_option maxRecDepth 100000
namespace Go.Proofs
open Go Go.Sym

theorem P17_0 (i0 : Int) (i1 : Int) (k : Nat)
    (c0 : decide (i1 = 0) = true) :
    callP (evalFn Try.prog Try.cfg (k + 3)) 17 [V.agg [V.int IntKind.u64 i0, V.int IntKind.u64 i1]] = some (V.int IntKind.i64 1) :=
  byF (k := k) (d := 3) [Hn.br 5 true] (And.intro c0 trivial) (by kernel_rfl)
theorem P17_1 (i0 : Int) (i1 : Int) (k : Nat)
    (c0 : decide (i1 = 0) = false)
    (c1 : decide (IntKind.u64.wrap (18446744073709551615 - i0) < IntKind.u64.wrap (i1 - 1)) = true) :
    callP (evalFn Try.prog Try.cfg (k + 3)) 17 [V.agg [V.int IntKind.u64 i0, V.int IntKind.u64 i1]] = some (V.int IntKind.i64 2) :=
  byF (k := k) (d := 3) [Hn.br 5 false, Hn.br 12 true] (And.intro c0 (And.intro c1 trivial)) (by kernel_rfl)
theorem P17_2 (i0 : Int) (i1 : Int) (k : Nat)
    (c0 : decide (i1 = 0) = false)
    (c1 : decide (IntKind.u64.wrap (18446744073709551615 - i0) < IntKind.u64.wrap (i1 - 1)) = false) :
    callP (evalFn Try.prog Try.cfg (k + 3)) 17 [V.agg [V.int IntKind.u64 i0, V.int IntKind.u64 i1]] = some (V.int IntKind.i64 0) :=
  byF (k := k) (d := 3) [Hn.br 5 false, Hn.br 12 false] (And.intro c0 (And.intro c1 trivial)) (by kernel_rfl)
def F17 (k : Nat) (i0 : Int) (i1 : Int) : Option (Int) :=
  (bif decide (i1 = 0) then (some (1)) else (bif decide (IntKind.u64.wrap (18446744073709551615 - i0) < IntKind.u64.wrap (i1 - 1)) then (some (2)) else (some (0))))
theorem F17_ok {i0 : Int} {i1 : Int} {k : Nat} {r : Int} (h : F17 k i0 i1 = some r) :
    callP (evalFn Try.prog Try.cfg (k + 3)) 17 [V.agg [V.int IntKind.u64 i0, V.int IntKind.u64 i1]] = some (V.int IntKind.i64 r) := by
  unfold F17 at h
  rcases cond_elim h with ⟨e0, h⟩ | ⟨e0, h⟩
  ·
    have h := Option.some.inj h; subst h; exact P17_0 i0 i1 k e0
  ·
    rcases cond_elim h with ⟨e1, h⟩ | ⟨e1, h⟩
    ·
      have h := Option.some.inj h; subst h; exact P17_1 i0 i1 k e0 e1
    ·
      have h := Option.some.inj h; subst h; exact P17_2 i0 i1 k e0 e1
theorem P20_0 (i0 : Int) (i1 : Int) (k : Nat) :
    callP (evalFn Try.prog Try.cfg (k + 3)) 20 [V.agg [V.int IntKind.u64 i0, V.int IntKind.u64 i1]] = some (V.int IntKind.u64 (IntKind.u64.wrap (i0 + IntKind.u64.wrap (i1 - 1)))) :=
  byF (k := k) (d := 3) [] trivial (by kernel_rfl)
def F20 (k : Nat) (i0 : Int) (i1 : Int) : Option (Int) :=
  (some (IntKind.u64.wrap (i0 + IntKind.u64.wrap (i1 - 1))))
theorem F20_ok {i0 : Int} {i1 : Int} {k : Nat} {r : Int} (h : F20 k i0 i1 = some r) :
    callP (evalFn Try.prog Try.cfg (k + 3)) 20 [V.agg [V.int IntKind.u64 i0, V.int IntKind.u64 i1]] = some (V.int IntKind.u64 r) := by
  unfold F20 at h
  have h := Option.some.inj h; subst h; exact P20_0 i0 i1 k
theorem P37_0 (i0 : Int) (i1 : Int) (i2 : Int) (i3 : Int) (k : Nat)
    (c0 : callP (evalFn Try.prog Try.cfg (k + 5)) 17 [V.agg [V.int IntKind.u64 i0, V.int IntKind.u64 i1]] = some (V.int IntKind.i64 i2))
    (c1 : decide (i2 = 0) = true)
    (c2 : callP (evalFn Try.prog Try.cfg (k + 5)) 20 [V.agg [V.int IntKind.u64 i0, V.int IntKind.u64 i1]] = some (V.int IntKind.u64 i3))
    (c3 : decide (576460752303423488 ≤ i3) = true) :
    callP (evalFn Try.prog Try.cfg (k + 6)) 37 [V.agg [V.int IntKind.u64 i0, V.int IntKind.u64 i1]] = some (V.int IntKind.i64 2) :=
  byF (k := k) (d := 6) [Hn.call 5 (V.int IntKind.i64 i2), Hn.br 8 true, Hn.call 10 (V.int IntKind.u64 i3), Hn.br 12 true] (And.intro c0 (And.intro c1 (And.intro c2 (And.intro c3 trivial)))) (by kernel_rfl)
theorem P37_1 (i0 : Int) (i1 : Int) (i2 : Int) (i3 : Int) (k : Nat)
    (c0 : callP (evalFn Try.prog Try.cfg (k + 5)) 17 [V.agg [V.int IntKind.u64 i0, V.int IntKind.u64 i1]] = some (V.int IntKind.i64 i2))
    (c1 : decide (i2 = 0) = true)
    (c2 : callP (evalFn Try.prog Try.cfg (k + 5)) 20 [V.agg [V.int IntKind.u64 i0, V.int IntKind.u64 i1]] = some (V.int IntKind.u64 i3))
    (c3 : decide (576460752303423488 ≤ i3) = false) :
    callP (evalFn Try.prog Try.cfg (k + 6)) 37 [V.agg [V.int IntKind.u64 i0, V.int IntKind.u64 i1]] = some (V.int IntKind.i64 i2) :=
  byF (k := k) (d := 6) [Hn.call 5 (V.int IntKind.i64 i2), Hn.br 8 true, Hn.call 10 (V.int IntKind.u64 i3), Hn.br 12 false] (And.intro c0 (And.intro c1 (And.intro c2 (And.intro c3 trivial)))) (by kernel_rfl)
theorem P37_2 (i0 : Int) (i1 : Int) (i2 : Int) (k : Nat)
    (c0 : callP (evalFn Try.prog Try.cfg (k + 5)) 17 [V.agg [V.int IntKind.u64 i0, V.int IntKind.u64 i1]] = some (V.int IntKind.i64 i2))
    (c1 : decide (i2 = 0) = false) :
    callP (evalFn Try.prog Try.cfg (k + 6)) 37 [V.agg [V.int IntKind.u64 i0, V.int IntKind.u64 i1]] = some (V.int IntKind.i64 i2) :=
  byF (k := k) (d := 6) [Hn.call 5 (V.int IntKind.i64 i2), Hn.br 8 false] (And.intro c0 (And.intro c1 trivial)) (by kernel_rfl)
def F37 (k : Nat) (i0 : Int) (i1 : Int) : Option (Int) :=
  ((F17 (k + 2) (i0) (i1)).bind fun i2 => (bif decide (i2 = 0) then ((F20 (k + 2) (i0) (i1)).bind fun i3 => (bif decide (576460752303423488 ≤ i3) then (some (2)) else (some (i2)))) else (some (i2))))
theorem F37_ok {i0 : Int} {i1 : Int} {k : Nat} {r : Int} (h : F37 k i0 i1 = some r) :
    callP (evalFn Try.prog Try.cfg (k + 6)) 37 [V.agg [V.int IntKind.u64 i0, V.int IntKind.u64 i1]] = some (V.int IntKind.i64 r) := by
  unfold F37 at h
  obtain ⟨i2, e0, h⟩ := Option.bind_eq_some_iff.1 h
  rcases cond_elim h with ⟨e1, h⟩ | ⟨e1, h⟩
  ·
    obtain ⟨i3, e2, h⟩ := Option.bind_eq_some_iff.1 h
    rcases cond_elim h with ⟨e3, h⟩ | ⟨e3, h⟩
    ·
      have h := Option.some.inj h; subst h; exact P37_0 i0 i1 i2 i3 k (F17_ok e0) e1 (F20_ok e2) e3
    ·
      have h := Option.some.inj h; subst h; exact P37_1 i0 i1 i2 i3 k (F17_ok e0) e1 (F20_ok e2) e3
  ·
    have h := Option.some.inj h; subst h; exact P37_2 i0 i1 i2 k (F17_ok e0) e1
theorem P77_0 (i0 : Int) (i1 : Int) (i2 : Int) (k : Nat)
    (c0 : decide (0 < i1) = true)
    (c1 : decide (i1 ≤ 576460752303423488) = true)
    (c2 : decide (i0 < 576460752303423488) = true)
    (c3 : decide (i1 ≤ IntKind.u64.wrap (576460752303423488 - i0)) = true)
    (c4 : decide (i2 = 1) = true) :
    callP (evalFn Try.prog Try.cfg (k + 3)) 77 [V.agg [V.int IntKind.u64 i0, V.int IntKind.u64 i1, V.int IntKind.i64 i2]] = some (V.bool true) :=
  byF (k := k) (d := 3) [Hn.br 6 true, Hn.br 11 true, Hn.br 16 true, Hn.br 24 true, Hn.br 28 true] (And.intro c0 (And.intro c1 (And.intro c2 (And.intro c3 (And.intro c4 trivial))))) (by kernel_rfl)
theorem P77_1 (i0 : Int) (i1 : Int) (i2 : Int) (k : Nat)
    (c0 : decide (0 < i1) = true)
    (c1 : decide (i1 ≤ 576460752303423488) = true)
    (c2 : decide (i0 < 576460752303423488) = true)
    (c3 : decide (i1 ≤ IntKind.u64.wrap (576460752303423488 - i0)) = true)
    (c4 : decide (i2 = 1) = false) :
    callP (evalFn Try.prog Try.cfg (k + 3)) 77 [V.agg [V.int IntKind.u64 i0, V.int IntKind.u64 i1, V.int IntKind.i64 i2]] = some (V.bool (decide (i2 = 2))) :=
  byF (k := k) (d := 3) [Hn.br 6 true, Hn.br 11 true, Hn.br 16 true, Hn.br 24 true, Hn.br 28 false] (And.intro c0 (And.intro c1 (And.intro c2 (And.intro c3 (And.intro c4 trivial))))) (by kernel_rfl)
theorem P77_2 (i0 : Int) (i1 : Int) (i2 : Int) (k : Nat)
    (c0 : decide (0 < i1) = true)
    (c1 : decide (i1 ≤ 576460752303423488) = true)
    (c2 : decide (i0 < 576460752303423488) = true)
    (c3 : decide (i1 ≤ IntKind.u64.wrap (576460752303423488 - i0)) = false) :
    callP (evalFn Try.prog Try.cfg (k + 3)) 77 [V.agg [V.int IntKind.u64 i0, V.int IntKind.u64 i1, V.int IntKind.i64 i2]] = some (V.bool false) :=
  byF (k := k) (d := 3) [Hn.br 6 true, Hn.br 11 true, Hn.br 16 true, Hn.br 24 false] (And.intro c0 (And.intro c1 (And.intro c2 (And.intro c3 trivial)))) (by kernel_rfl)
theorem P77_3 (i0 : Int) (i1 : Int) (i2 : Int) (k : Nat)
    (c0 : decide (0 < i1) = true)
    (c1 : decide (i1 ≤ 576460752303423488) = true)
    (c2 : decide (i0 < 576460752303423488) = false) :
    callP (evalFn Try.prog Try.cfg (k + 3)) 77 [V.agg [V.int IntKind.u64 i0, V.int IntKind.u64 i1, V.int IntKind.i64 i2]] = some (V.bool false) :=
  byF (k := k) (d := 3) [Hn.br 6 true, Hn.br 11 true, Hn.br 16 false] (And.intro c0 (And.intro c1 (And.intro c2 trivial))) (by kernel_rfl)
theorem P77_4 (i0 : Int) (i1 : Int) (i2 : Int) (k : Nat)
    (c0 : decide (0 < i1) = true)
    (c1 : decide (i1 ≤ 576460752303423488) = false) :
    callP (evalFn Try.prog Try.cfg (k + 3)) 77 [V.agg [V.int IntKind.u64 i0, V.int IntKind.u64 i1, V.int IntKind.i64 i2]] = some (V.bool false) :=
  byF (k := k) (d := 3) [Hn.br 6 true, Hn.br 11 false] (And.intro c0 (And.intro c1 trivial)) (by kernel_rfl)
theorem P77_5 (i0 : Int) (i1 : Int) (i2 : Int) (k : Nat)
    (c0 : decide (0 < i1) = false) :
    callP (evalFn Try.prog Try.cfg (k + 3)) 77 [V.agg [V.int IntKind.u64 i0, V.int IntKind.u64 i1, V.int IntKind.i64 i2]] = some (V.bool false) :=
  byF (k := k) (d := 3) [Hn.br 6 false] (And.intro c0 trivial) (by kernel_rfl)
def F77 (k : Nat) (i0 : Int) (i1 : Int) (i2 : Int) : Option (Bool) :=
  (bif decide (0 < i1) then (bif decide (i1 ≤ 576460752303423488) then (bif decide (i0 < 576460752303423488) then (bif decide (i1 ≤ IntKind.u64.wrap (576460752303423488 - i0)) then (bif decide (i2 = 1) then (some (true)) else (some (decide (i2 = 2)))) else (some (false))) else (some (false))) else (some (false))) else (some (false)))
theorem F77_ok {i0 : Int} {i1 : Int} {i2 : Int} {k : Nat} {r : Bool} (h : F77 k i0 i1 i2 = some r) :
    callP (evalFn Try.prog Try.cfg (k + 3)) 77 [V.agg [V.int IntKind.u64 i0, V.int IntKind.u64 i1, V.int IntKind.i64 i2]] = some (V.bool r) := by
  unfold F77 at h
  rcases cond_elim h with ⟨e0, h⟩ | ⟨e0, h⟩
  ·
    rcases cond_elim h with ⟨e1, h⟩ | ⟨e1, h⟩
    ·
      rcases cond_elim h with ⟨e2, h⟩ | ⟨e2, h⟩
      ·
        rcases cond_elim h with ⟨e3, h⟩ | ⟨e3, h⟩
        ·
          rcases cond_elim h with ⟨e4, h⟩ | ⟨e4, h⟩
          ·
            have h := Option.some.inj h; subst h; exact P77_0 i0 i1 i2 k e0 e1 e2 e3 e4
          ·
            have h := Option.some.inj h; subst h; exact P77_1 i0 i1 i2 k e0 e1 e2 e3 e4
        ·
          have h := Option.some.inj h; subst h; exact P77_2 i0 i1 i2 k e0 e1 e2 e3
      ·
        have h := Option.some.inj h; subst h; exact P77_3 i0 i1 i2 k e0 e1 e2
    ·
      have h := Option.some.inj h; subst h; exact P77_4 i0 i1 i2 k e0 e1
  ·
    have h := Option.some.inj h; subst h; exact P77_5 i0 i1 i2 k e0
theorem L38_12_b0 (i0 : Int) (i1 : Int) (i2 : Int) (i3 : Int) (b0 : Bool) (b1 : Bool) (x0 : List V) (o0 : Option Bool) (n0 : Nat) (k : Nat)
    (c0 : decide (i0 < (↑x0.length : Int)) = true)
    (c1 : IdxP x0 i0 n0 3 (V.agg [V.int IntKind.u64 i1, V.int IntKind.u64 i2, V.int IntKind.i64 i3]))
    (c2 : callP (evalFn Try.prog Try.cfg (k + 5)) 77 [V.agg [V.int IntKind.u64 i1, V.int IntKind.u64 i2, V.int IntKind.i64 i3]] = some (V.bool b1))
    (c3 : (!b1) = true) :
    evalCode Try.prog Try.cfg (evalFn Try.prog Try.cfg (k + 5)) 0 (Try.cfg.fc 38) (k + 5) (loopBody Try.f38 0) { tm := [(0, V.sl o0 b0 n0 x0), (2, V.bool false), (6, V.sl o0 b0 n0 x0), (7, V.int IntKind.i64 (↑x0.length : Int)), (8, V.int IntKind.i64 i0)], hp := [], nx := 0 } = some (Exit.ret, { tm := [(0, V.sl o0 b0 n0 x0), (2, V.bool false), (3, V.int IntKind.i64 i0), (4, V.ptr 16 0), (6, V.sl o0 b0 n0 x0), (7, V.int IntKind.i64 (↑x0.length : Int)), (8, V.int IntKind.i64 i0), (9, V.bool true), (15, V.bool true)], hp := [(16, Ob.var [V.int IntKind.u64 i1, V.int IntKind.u64 i2, V.int IntKind.i64 i3])], nx := 44 }) :=
  byL (k := k) (d := 5) [Hn.br 9 true, Hn.op 11 ((V.agg [V.int IntKind.u64 i1, V.int IntKind.u64 i2, V.int IntKind.i64 i3]).cpt 0) [], Hn.call 14 (V.bool b1), Hn.br 15 true] (And.intro c0 (And.intro c1 (And.intro c2 (And.intro c3 trivial)))) (by kernel_rfl)
theorem L38_12_b1 (i0 : Int) (i1 : Int) (i2 : Int) (i3 : Int) (i4 : Int) (i5 : Int) (i6 : Int) (b0 : Bool) (b1 : Bool) (x0 : List V) (o0 : Option Bool) (n0 : Nat) (k : Nat)
    (c0 : decide (i0 < (↑x0.length : Int)) = true)
    (c1 : IdxP x0 i0 n0 3 (V.agg [V.int IntKind.u64 i1, V.int IntKind.u64 i2, V.int IntKind.i64 i3]))
    (c2 : callP (evalFn Try.prog Try.cfg (k + 5)) 77 [V.agg [V.int IntKind.u64 i1, V.int IntKind.u64 i2, V.int IntKind.i64 i3]] = some (V.bool b1))
    (c3 : (!b1) = false)
    (c4 : decide (0 < i0) = true)
    (c5 : IdxP x0 (IntKind.i64.wrap (i0 - 1)) n0 3 (V.agg [V.int IntKind.u64 i4, V.int IntKind.u64 i5, V.int IntKind.i64 i6]))
    (c6 : IdxP x0 (IntKind.i64.wrap (i0 - 1)) n0 3 (V.agg [V.int IntKind.u64 i4, V.int IntKind.u64 i5, V.int IntKind.i64 i6]))
    (c7 : decide (i1 < IntKind.u64.wrap (i4 + i5)) = true) :
    evalCode Try.prog Try.cfg (evalFn Try.prog Try.cfg (k + 5)) 0 (Try.cfg.fc 38) (k + 5) (loopBody Try.f38 0) { tm := [(0, V.sl o0 b0 n0 x0), (2, V.bool false), (6, V.sl o0 b0 n0 x0), (7, V.int IntKind.i64 (↑x0.length : Int)), (8, V.int IntKind.i64 i0)], hp := [], nx := 0 } = some (Exit.ret, { tm := [(0, V.sl o0 b0 n0 x0), (2, V.bool false), (3, V.int IntKind.i64 i0), (4, V.ptr 16 0), (5, V.int IntKind.u64 (IntKind.u64.wrap (i4 + i5))), (6, V.sl o0 b0 n0 x0), (7, V.int IntKind.i64 (↑x0.length : Int)), (8, V.int IntKind.i64 i0), (9, V.bool true), (15, V.bool false), (17, V.bool true), (51, V.bool true)], hp := [(16, Ob.var [V.int IntKind.u64 i1, V.int IntKind.u64 i2, V.int IntKind.i64 i3])], nx := 192 }) :=
  byL (k := k) (d := 5) [Hn.br 9 true, Hn.op 11 ((V.agg [V.int IntKind.u64 i1, V.int IntKind.u64 i2, V.int IntKind.i64 i3]).cpt 0) [], Hn.call 14 (V.bool b1), Hn.br 15 false, Hn.br 17 true, Hn.op 21 ((V.agg [V.int IntKind.u64 i4, V.int IntKind.u64 i5, V.int IntKind.i64 i6]).cpt 0) [], Hn.op 27 ((V.agg [V.int IntKind.u64 i4, V.int IntKind.u64 i5, V.int IntKind.i64 i6]).cpt 0) [], Hn.br 35 true] (And.intro c0 (And.intro c1 (And.intro c2 (And.intro c3 (And.intro c4 (And.intro c5 (And.intro c6 (And.intro c7 trivial)))))))) (by kernel_rfl)
theorem L38_12_b2 (i0 : Int) (i1 : Int) (i2 : Int) (i3 : Int) (i4 : Int) (i5 : Int) (i6 : Int) (b0 : Bool) (b1 : Bool) (x0 : List V) (o0 : Option Bool) (n0 : Nat) (k : Nat)
    (c0 : decide (i0 < (↑x0.length : Int)) = true)
    (c1 : IdxP x0 i0 n0 3 (V.agg [V.int IntKind.u64 i1, V.int IntKind.u64 i2, V.int IntKind.i64 i3]))
    (c2 : callP (evalFn Try.prog Try.cfg (k + 5)) 77 [V.agg [V.int IntKind.u64 i1, V.int IntKind.u64 i2, V.int IntKind.i64 i3]] = some (V.bool b1))
    (c3 : (!b1) = false)
    (c4 : decide (0 < i0) = true)
    (c5 : IdxP x0 (IntKind.i64.wrap (i0 - 1)) n0 3 (V.agg [V.int IntKind.u64 i4, V.int IntKind.u64 i5, V.int IntKind.i64 i6]))
    (c6 : IdxP x0 (IntKind.i64.wrap (i0 - 1)) n0 3 (V.agg [V.int IntKind.u64 i4, V.int IntKind.u64 i5, V.int IntKind.i64 i6]))
    (c7 : decide (i1 < IntKind.u64.wrap (i4 + i5)) = false)
    (c8 : decide (IntKind.u64.wrap (i4 + i5) = i1) = true)
    (c9 : IdxP x0 (IntKind.i64.wrap (i0 - 1)) n0 3 (V.agg [V.int IntKind.u64 i4, V.int IntKind.u64 i5, V.int IntKind.i64 i6]))
    (c10 : decide (i6 = i3) = true) :
    evalCode Try.prog Try.cfg (evalFn Try.prog Try.cfg (k + 5)) 0 (Try.cfg.fc 38) (k + 5) (loopBody Try.f38 0) { tm := [(0, V.sl o0 b0 n0 x0), (2, V.bool false), (6, V.sl o0 b0 n0 x0), (7, V.int IntKind.i64 (↑x0.length : Int)), (8, V.int IntKind.i64 i0)], hp := [], nx := 0 } = some (Exit.ret, { tm := [(0, V.sl o0 b0 n0 x0), (2, V.bool false), (3, V.int IntKind.i64 i0), (4, V.ptr 16 0), (5, V.int IntKind.u64 (IntKind.u64.wrap (i4 + i5))), (6, V.sl o0 b0 n0 x0), (7, V.int IntKind.i64 (↑x0.length : Int)), (8, V.int IntKind.i64 i0), (9, V.bool true), (15, V.bool false), (17, V.bool true), (51, V.bool true)], hp := [(16, Ob.var [V.int IntKind.u64 i1, V.int IntKind.u64 i2, V.int IntKind.i64 i3])], nx := 192 }) :=
  byL (k := k) (d := 5) [Hn.br 9 true, Hn.op 11 ((V.agg [V.int IntKind.u64 i1, V.int IntKind.u64 i2, V.int IntKind.i64 i3]).cpt 0) [], Hn.call 14 (V.bool b1), Hn.br 15 false, Hn.br 17 true, Hn.op 21 ((V.agg [V.int IntKind.u64 i4, V.int IntKind.u64 i5, V.int IntKind.i64 i6]).cpt 0) [], Hn.op 27 ((V.agg [V.int IntKind.u64 i4, V.int IntKind.u64 i5, V.int IntKind.i64 i6]).cpt 0) [], Hn.br 35 false, Hn.br 40 true, Hn.op 44 ((V.agg [V.int IntKind.u64 i4, V.int IntKind.u64 i5, V.int IntKind.i64 i6]).cpt 0) [], Hn.br 51 true] (And.intro c0 (And.intro c1 (And.intro c2 (And.intro c3 (And.intro c4 (And.intro c5 (And.intro c6 (And.intro c7 (And.intro c8 (And.intro c9 (And.intro c10 trivial))))))))))) (by kernel_rfl)
theorem L38_12_b3 (i0 : Int) (i1 : Int) (i2 : Int) (i3 : Int) (i4 : Int) (i5 : Int) (i6 : Int) (b0 : Bool) (b1 : Bool) (x0 : List V) (o0 : Option Bool) (n0 : Nat) (k : Nat)
    (c0 : decide (i0 < (↑x0.length : Int)) = true)
    (c1 : IdxP x0 i0 n0 3 (V.agg [V.int IntKind.u64 i1, V.int IntKind.u64 i2, V.int IntKind.i64 i3]))
    (c2 : callP (evalFn Try.prog Try.cfg (k + 5)) 77 [V.agg [V.int IntKind.u64 i1, V.int IntKind.u64 i2, V.int IntKind.i64 i3]] = some (V.bool b1))
    (c3 : (!b1) = false)
    (c4 : decide (0 < i0) = true)
    (c5 : IdxP x0 (IntKind.i64.wrap (i0 - 1)) n0 3 (V.agg [V.int IntKind.u64 i4, V.int IntKind.u64 i5, V.int IntKind.i64 i6]))
    (c6 : IdxP x0 (IntKind.i64.wrap (i0 - 1)) n0 3 (V.agg [V.int IntKind.u64 i4, V.int IntKind.u64 i5, V.int IntKind.i64 i6]))
    (c7 : decide (i1 < IntKind.u64.wrap (i4 + i5)) = false)
    (c8 : decide (IntKind.u64.wrap (i4 + i5) = i1) = true)
    (c9 : IdxP x0 (IntKind.i64.wrap (i0 - 1)) n0 3 (V.agg [V.int IntKind.u64 i4, V.int IntKind.u64 i5, V.int IntKind.i64 i6]))
    (c10 : decide (i6 = i3) = false) :
    evalCode Try.prog Try.cfg (evalFn Try.prog Try.cfg (k + 5)) 0 (Try.cfg.fc 38) (k + 5) (loopBody Try.f38 0) { tm := [(0, V.sl o0 b0 n0 x0), (2, V.bool false), (6, V.sl o0 b0 n0 x0), (7, V.int IntKind.i64 (↑x0.length : Int)), (8, V.int IntKind.i64 i0)], hp := [], nx := 0 } = some (Exit.normal, { tm := [(0, V.sl o0 b0 n0 x0), (2, V.bool false), (3, V.int IntKind.i64 i0), (4, V.ptr 16 0), (5, V.int IntKind.u64 (IntKind.u64.wrap (i4 + i5))), (6, V.sl o0 b0 n0 x0), (7, V.int IntKind.i64 (↑x0.length : Int)), (8, V.int IntKind.i64 (IntKind.i64.wrap (i0 + 1))), (9, V.bool true), (15, V.bool false), (17, V.bool true), (51, V.bool false)], hp := [(16, Ob.var [V.int IntKind.u64 i1, V.int IntKind.u64 i2, V.int IntKind.i64 i3])], nx := 196 }) :=
  byL (k := k) (d := 5) [Hn.br 9 true, Hn.op 11 ((V.agg [V.int IntKind.u64 i1, V.int IntKind.u64 i2, V.int IntKind.i64 i3]).cpt 0) [], Hn.call 14 (V.bool b1), Hn.br 15 false, Hn.br 17 true, Hn.op 21 ((V.agg [V.int IntKind.u64 i4, V.int IntKind.u64 i5, V.int IntKind.i64 i6]).cpt 0) [], Hn.op 27 ((V.agg [V.int IntKind.u64 i4, V.int IntKind.u64 i5, V.int IntKind.i64 i6]).cpt 0) [], Hn.br 35 false, Hn.br 40 true, Hn.op 44 ((V.agg [V.int IntKind.u64 i4, V.int IntKind.u64 i5, V.int IntKind.i64 i6]).cpt 0) [], Hn.br 51 false] (And.intro c0 (And.intro c1 (And.intro c2 (And.intro c3 (And.intro c4 (And.intro c5 (And.intro c6 (And.intro c7 (And.intro c8 (And.intro c9 (And.intro c10 trivial))))))))))) (by kernel_rfl)
theorem L38_12_b3h (i0 : Int) (i1 : Int) (i2 : Int) (i3 : Int) (i4 : Int) (i5 : Int) (b0 : Bool) (x0 : List V) (o0 : Option Bool) (n0 : Nat) : head 0 [0, 2, 6, 7, 8] (Try.cfg.fc 38).acc { tm := [(0, V.sl o0 b0 n0 x0), (2, V.bool false), (3, V.int IntKind.i64 i0), (4, V.ptr 16 0), (5, V.int IntKind.u64 (IntKind.u64.wrap (i4 + i5))), (6, V.sl o0 b0 n0 x0), (7, V.int IntKind.i64 (↑x0.length : Int)), (8, V.int IntKind.i64 (IntKind.i64.wrap (i0 + 1))), (9, V.bool true), (15, V.bool false), (17, V.bool true), (51, V.bool false)], hp := [(16, Ob.var [V.int IntKind.u64 i1, V.int IntKind.u64 i2, V.int IntKind.i64 i3])], nx := 196 } = { tm := [(0, V.sl o0 b0 n0 x0), (2, V.bool false), (6, V.sl o0 b0 n0 x0), (7, V.int IntKind.i64 (↑x0.length : Int)), (8, V.int IntKind.i64 (IntKind.i64.wrap (i0 + 1)))], hp := [], nx := 0 } := by kernel_rfl
theorem L38_12_b4 (i0 : Int) (i1 : Int) (i2 : Int) (i3 : Int) (i4 : Int) (i5 : Int) (i6 : Int) (b0 : Bool) (b1 : Bool) (x0 : List V) (o0 : Option Bool) (n0 : Nat) (k : Nat)
    (c0 : decide (i0 < (↑x0.length : Int)) = true)
    (c1 : IdxP x0 i0 n0 3 (V.agg [V.int IntKind.u64 i1, V.int IntKind.u64 i2, V.int IntKind.i64 i3]))
    (c2 : callP (evalFn Try.prog Try.cfg (k + 5)) 77 [V.agg [V.int IntKind.u64 i1, V.int IntKind.u64 i2, V.int IntKind.i64 i3]] = some (V.bool b1))
    (c3 : (!b1) = false)
    (c4 : decide (0 < i0) = true)
    (c5 : IdxP x0 (IntKind.i64.wrap (i0 - 1)) n0 3 (V.agg [V.int IntKind.u64 i4, V.int IntKind.u64 i5, V.int IntKind.i64 i6]))
    (c6 : IdxP x0 (IntKind.i64.wrap (i0 - 1)) n0 3 (V.agg [V.int IntKind.u64 i4, V.int IntKind.u64 i5, V.int IntKind.i64 i6]))
    (c7 : decide (i1 < IntKind.u64.wrap (i4 + i5)) = false)
    (c8 : decide (IntKind.u64.wrap (i4 + i5) = i1) = false) :
    evalCode Try.prog Try.cfg (evalFn Try.prog Try.cfg (k + 5)) 0 (Try.cfg.fc 38) (k + 5) (loopBody Try.f38 0) { tm := [(0, V.sl o0 b0 n0 x0), (2, V.bool false), (6, V.sl o0 b0 n0 x0), (7, V.int IntKind.i64 (↑x0.length : Int)), (8, V.int IntKind.i64 i0)], hp := [], nx := 0 } = some (Exit.normal, { tm := [(0, V.sl o0 b0 n0 x0), (2, V.bool false), (3, V.int IntKind.i64 i0), (4, V.ptr 16 0), (5, V.int IntKind.u64 (IntKind.u64.wrap (i4 + i5))), (6, V.sl o0 b0 n0 x0), (7, V.int IntKind.i64 (↑x0.length : Int)), (8, V.int IntKind.i64 (IntKind.i64.wrap (i0 + 1))), (9, V.bool true), (15, V.bool false), (17, V.bool true), (51, V.bool false)], hp := [(16, Ob.var [V.int IntKind.u64 i1, V.int IntKind.u64 i2, V.int IntKind.i64 i3])], nx := 196 }) :=
  byL (k := k) (d := 5) [Hn.br 9 true, Hn.op 11 ((V.agg [V.int IntKind.u64 i1, V.int IntKind.u64 i2, V.int IntKind.i64 i3]).cpt 0) [], Hn.call 14 (V.bool b1), Hn.br 15 false, Hn.br 17 true, Hn.op 21 ((V.agg [V.int IntKind.u64 i4, V.int IntKind.u64 i5, V.int IntKind.i64 i6]).cpt 0) [], Hn.op 27 ((V.agg [V.int IntKind.u64 i4, V.int IntKind.u64 i5, V.int IntKind.i64 i6]).cpt 0) [], Hn.br 35 false, Hn.br 40 false] (And.intro c0 (And.intro c1 (And.intro c2 (And.intro c3 (And.intro c4 (And.intro c5 (And.intro c6 (And.intro c7 (And.intro c8 trivial))))))))) (by kernel_rfl)
theorem L38_12_b4h (i0 : Int) (i1 : Int) (i2 : Int) (i3 : Int) (i4 : Int) (i5 : Int) (b0 : Bool) (x0 : List V) (o0 : Option Bool) (n0 : Nat) : head 0 [0, 2, 6, 7, 8] (Try.cfg.fc 38).acc { tm := [(0, V.sl o0 b0 n0 x0), (2, V.bool false), (3, V.int IntKind.i64 i0), (4, V.ptr 16 0), (5, V.int IntKind.u64 (IntKind.u64.wrap (i4 + i5))), (6, V.sl o0 b0 n0 x0), (7, V.int IntKind.i64 (↑x0.length : Int)), (8, V.int IntKind.i64 (IntKind.i64.wrap (i0 + 1))), (9, V.bool true), (15, V.bool false), (17, V.bool true), (51, V.bool false)], hp := [(16, Ob.var [V.int IntKind.u64 i1, V.int IntKind.u64 i2, V.int IntKind.i64 i3])], nx := 196 } = { tm := [(0, V.sl o0 b0 n0 x0), (2, V.bool false), (6, V.sl o0 b0 n0 x0), (7, V.int IntKind.i64 (↑x0.length : Int)), (8, V.int IntKind.i64 (IntKind.i64.wrap (i0 + 1)))], hp := [], nx := 0 } := by kernel_rfl
theorem L38_12_b5 (i0 : Int) (i1 : Int) (i2 : Int) (i3 : Int) (b0 : Bool) (b1 : Bool) (x0 : List V) (o0 : Option Bool) (n0 : Nat) (k : Nat)
    (c0 : decide (i0 < (↑x0.length : Int)) = true)
    (c1 : IdxP x0 i0 n0 3 (V.agg [V.int IntKind.u64 i1, V.int IntKind.u64 i2, V.int IntKind.i64 i3]))
    (c2 : callP (evalFn Try.prog Try.cfg (k + 5)) 77 [V.agg [V.int IntKind.u64 i1, V.int IntKind.u64 i2, V.int IntKind.i64 i3]] = some (V.bool b1))
    (c3 : (!b1) = false)
    (c4 : decide (0 < i0) = false) :
    evalCode Try.prog Try.cfg (evalFn Try.prog Try.cfg (k + 5)) 0 (Try.cfg.fc 38) (k + 5) (loopBody Try.f38 0) { tm := [(0, V.sl o0 b0 n0 x0), (2, V.bool false), (6, V.sl o0 b0 n0 x0), (7, V.int IntKind.i64 (↑x0.length : Int)), (8, V.int IntKind.i64 i0)], hp := [], nx := 0 } = some (Exit.normal, { tm := [(0, V.sl o0 b0 n0 x0), (2, V.bool false), (3, V.int IntKind.i64 i0), (4, V.ptr 16 0), (6, V.sl o0 b0 n0 x0), (7, V.int IntKind.i64 (↑x0.length : Int)), (8, V.int IntKind.i64 (IntKind.i64.wrap (i0 + 1))), (9, V.bool true), (15, V.bool false), (17, V.bool false)], hp := [(16, Ob.var [V.int IntKind.u64 i1, V.int IntKind.u64 i2, V.int IntKind.i64 i3])], nx := 56 }) :=
  byL (k := k) (d := 5) [Hn.br 9 true, Hn.op 11 ((V.agg [V.int IntKind.u64 i1, V.int IntKind.u64 i2, V.int IntKind.i64 i3]).cpt 0) [], Hn.call 14 (V.bool b1), Hn.br 15 false, Hn.br 17 false] (And.intro c0 (And.intro c1 (And.intro c2 (And.intro c3 (And.intro c4 trivial))))) (by kernel_rfl)
theorem L38_12_b5h (i0 : Int) (i1 : Int) (i2 : Int) (i3 : Int) (b0 : Bool) (x0 : List V) (o0 : Option Bool) (n0 : Nat) : head 0 [0, 2, 6, 7, 8] (Try.cfg.fc 38).acc { tm := [(0, V.sl o0 b0 n0 x0), (2, V.bool false), (3, V.int IntKind.i64 i0), (4, V.ptr 16 0), (6, V.sl o0 b0 n0 x0), (7, V.int IntKind.i64 (↑x0.length : Int)), (8, V.int IntKind.i64 (IntKind.i64.wrap (i0 + 1))), (9, V.bool true), (15, V.bool false), (17, V.bool false)], hp := [(16, Ob.var [V.int IntKind.u64 i1, V.int IntKind.u64 i2, V.int IntKind.i64 i3])], nx := 56 } = { tm := [(0, V.sl o0 b0 n0 x0), (2, V.bool false), (6, V.sl o0 b0 n0 x0), (7, V.int IntKind.i64 (↑x0.length : Int)), (8, V.int IntKind.i64 (IntKind.i64.wrap (i0 + 1)))], hp := [], nx := 0 } := by kernel_rfl
theorem L38_12_b6 (i0 : Int) (b0 : Bool) (x0 : List V) (o0 : Option Bool) (n0 : Nat) (k : Nat)
    (c0 : decide (i0 < (↑x0.length : Int)) = false) :
    evalCode Try.prog Try.cfg (evalFn Try.prog Try.cfg (k + 5)) 0 (Try.cfg.fc 38) (k + 5) (loopBody Try.f38 0) { tm := [(0, V.sl o0 b0 n0 x0), (2, V.bool false), (6, V.sl o0 b0 n0 x0), (7, V.int IntKind.i64 (↑x0.length : Int)), (8, V.int IntKind.i64 i0)], hp := [], nx := 0 } = some (Exit.exit 0, { tm := [(0, V.sl o0 b0 n0 x0), (2, V.bool false), (6, V.sl o0 b0 n0 x0), (7, V.int IntKind.i64 (↑x0.length : Int)), (8, V.int IntKind.i64 i0), (9, V.bool false)], hp := [], nx := 4 }) :=
  byL (k := k) (d := 5) [Hn.br 9 false] (And.intro c0 trivial) (by kernel_rfl)
inductive L38_12_R where
  | e0 (i0 : Int) (i1 : Int) (i2 : Int) (i3 : Int)
  | e1 (i0 : Int) (i1 : Int) (i2 : Int) (i3 : Int) (i4 : Int) (i5 : Int)
  | e2 (i0 : Int) (i1 : Int) (i2 : Int) (i3 : Int) (i4 : Int) (i5 : Int)
  | e3 (i0 : Int)
noncomputable def L38_12_end (b0 : Bool) (x0 : List V) (o0 : Option Bool) (n0 : Nat) : L38_12_R → Exit × St
  | .e0 i0 i1 i2 i3 => (Exit.ret, { tm := [(0, V.sl o0 b0 n0 x0), (2, V.bool false), (3, V.int IntKind.i64 i0), (4, V.ptr 16 0), (6, V.sl o0 b0 n0 x0), (7, V.int IntKind.i64 (↑x0.length : Int)), (8, V.int IntKind.i64 i0), (9, V.bool true), (15, V.bool true)], hp := [(16, Ob.var [V.int IntKind.u64 i1, V.int IntKind.u64 i2, V.int IntKind.i64 i3])], nx := 44 })
  | .e1 i0 i1 i2 i3 i4 i5 => (Exit.ret, { tm := [(0, V.sl o0 b0 n0 x0), (2, V.bool false), (3, V.int IntKind.i64 i0), (4, V.ptr 16 0), (5, V.int IntKind.u64 (IntKind.u64.wrap (i4 + i5))), (6, V.sl o0 b0 n0 x0), (7, V.int IntKind.i64 (↑x0.length : Int)), (8, V.int IntKind.i64 i0), (9, V.bool true), (15, V.bool false), (17, V.bool true), (51, V.bool true)], hp := [(16, Ob.var [V.int IntKind.u64 i1, V.int IntKind.u64 i2, V.int IntKind.i64 i3])], nx := 192 })
  | .e2 i0 i1 i2 i3 i4 i5 => (Exit.ret, { tm := [(0, V.sl o0 b0 n0 x0), (2, V.bool false), (3, V.int IntKind.i64 i0), (4, V.ptr 16 0), (5, V.int IntKind.u64 (IntKind.u64.wrap (i4 + i5))), (6, V.sl o0 b0 n0 x0), (7, V.int IntKind.i64 (↑x0.length : Int)), (8, V.int IntKind.i64 i0), (9, V.bool true), (15, V.bool false), (17, V.bool true), (51, V.bool true)], hp := [(16, Ob.var [V.int IntKind.u64 i1, V.int IntKind.u64 i2, V.int IntKind.i64 i3])], nx := 192 })
  | .e3 i0 => (Exit.exit 0, { tm := [(0, V.sl o0 b0 n0 x0), (2, V.bool false), (6, V.sl o0 b0 n0 x0), (7, V.int IntKind.i64 (↑x0.length : Int)), (8, V.int IntKind.i64 i0), (9, V.bool false)], hp := [], nx := 4 })
def L38_12 (k : Nat) (b0 : Bool) (x0 : List V) (o0 : Option Bool) (n0 : Nat) : Nat → Int → Option L38_12_R
  | 0, _ => none
  | f + 1, i0 => (bif decide (i0 < (↑x0.length : Int)) then (guardP (n0 = (3 : Nat)) (((at? (x0) (i0)).bind dAu64u64i64Z).bind fun (i1, i2, i3) => ((F77 (k + 2) (i1) (i2) (i3)).bind fun b1 => (bif !b1 then (some (L38_12_R.e0 i0 i1 i2 i3)) else (bif decide (0 < i0) then (((at? (x0) (IntKind.i64.wrap (i0 - 1))).bind dAu64u64i64Z).bind fun (i4, i5, i6) => (bif decide (i1 < IntKind.u64.wrap (i4 + i5)) then (some (L38_12_R.e1 i0 i1 i2 i3 i4 i5)) else (bif decide (IntKind.u64.wrap (i4 + i5) = i1) then (bif decide (i6 = i3) then (some (L38_12_R.e2 i0 i1 i2 i3 i4 i5)) else (L38_12 k b0 x0 o0 n0 f (IntKind.i64.wrap (i0 + 1)))) else (L38_12 k b0 x0 o0 n0 f (IntKind.i64.wrap (i0 + 1)))))) else (L38_12 k b0 x0 o0 n0 f (IntKind.i64.wrap (i0 + 1)))))))) else (some (L38_12_R.e3 i0)))
theorem L38_12_ok {b0 : Bool} {x0 : List V} {o0 : Option Bool} {n0 : Nat} {k : Nat} : ∀ {f : Nat} {i0 : Int} {r : L38_12_R}, L38_12 k b0 x0 o0 n0 f i0 = some r →
    LoopsN Try.prog Try.cfg (k + 5) 0 Try.f38 (Try.cfg.fc 38) 0 [0, 2, 6, 7, 8] f { tm := [(0, V.sl o0 b0 n0 x0), (2, V.bool false), (6, V.sl o0 b0 n0 x0), (7, V.int IntKind.i64 (↑x0.length : Int)), (8, V.int IntKind.i64 i0)], hp := [], nx := 0 } (L38_12_end b0 x0 o0 n0 r) := by
  intro f
  induction f with
  | zero => intro i0 r h; cases h
  | succ f ih =>
    intro i0 r h
    rw [L38_12] at h
    rcases cond_elim h with ⟨e0, h⟩ | ⟨e0, h⟩
    ·
      obtain ⟨e1, h⟩ := guardP_some.1 h
      obtain ⟨⟨i1, i2, i3⟩, e2, h⟩ := Option.bind_eq_some_iff.1 h
      obtain ⟨b1, e3, h⟩ := Option.bind_eq_some_iff.1 h
      rcases cond_elim h with ⟨e4, h⟩ | ⟨e4, h⟩
      ·
        cases h; exact LoopsN.done (L38_12_b0 i0 i1 i2 i3 b0 b1 x0 o0 n0 k e0 (IdxP.of_at' (at_d dAu64u64i64Z_ok e2 :) e1) (F77_ok e3) e4) (fun h => by cases h)
      ·
        rcases cond_elim h with ⟨e5, h⟩ | ⟨e5, h⟩
        ·
          obtain ⟨⟨i4, i5, i6⟩, e6, h⟩ := Option.bind_eq_some_iff.1 h
          rcases cond_elim h with ⟨e7, h⟩ | ⟨e7, h⟩
          ·
            cases h; exact LoopsN.done (L38_12_b1 i0 i1 i2 i3 i4 i5 i6 b0 b1 x0 o0 n0 k e0 (IdxP.of_at' (at_d dAu64u64i64Z_ok e2 :) e1) (F77_ok e3) e4 e5 (IdxP.of_at' (at_d dAu64u64i64Z_ok e6 :) e1) (IdxP.of_at' (at_d dAu64u64i64Z_ok e6 :) e1) e7) (fun h => by cases h)
          ·
            rcases cond_elim h with ⟨e8, h⟩ | ⟨e8, h⟩
            ·
              rcases cond_elim h with ⟨e9, h⟩ | ⟨e9, h⟩
              ·
                cases h; exact LoopsN.done (L38_12_b2 i0 i1 i2 i3 i4 i5 i6 b0 b1 x0 o0 n0 k e0 (IdxP.of_at' (at_d dAu64u64i64Z_ok e2 :) e1) (F77_ok e3) e4 e5 (IdxP.of_at' (at_d dAu64u64i64Z_ok e6 :) e1) (IdxP.of_at' (at_d dAu64u64i64Z_ok e6 :) e1) e7 e8 (IdxP.of_at' (at_d dAu64u64i64Z_ok e6 :) e1) e9) (fun h => by cases h)
              ·
                exact LoopsN.next (L38_12_b3 i0 i1 i2 i3 i4 i5 i6 b0 b1 x0 o0 n0 k e0 (IdxP.of_at' (at_d dAu64u64i64Z_ok e2 :) e1) (F77_ok e3) e4 e5 (IdxP.of_at' (at_d dAu64u64i64Z_ok e6 :) e1) (IdxP.of_at' (at_d dAu64u64i64Z_ok e6 :) e1) e7 e8 (IdxP.of_at' (at_d dAu64u64i64Z_ok e6 :) e1) e9) (L38_12_b3h i0 i1 i2 i3 i4 i5 b0 x0 o0 n0) (ih h)
            ·
              exact LoopsN.next (L38_12_b4 i0 i1 i2 i3 i4 i5 i6 b0 b1 x0 o0 n0 k e0 (IdxP.of_at' (at_d dAu64u64i64Z_ok e2 :) e1) (F77_ok e3) e4 e5 (IdxP.of_at' (at_d dAu64u64i64Z_ok e6 :) e1) (IdxP.of_at' (at_d dAu64u64i64Z_ok e6 :) e1) e7 e8) (L38_12_b4h i0 i1 i2 i3 i4 i5 b0 x0 o0 n0) (ih h)
        ·
          exact LoopsN.next (L38_12_b5 i0 i1 i2 i3 b0 b1 x0 o0 n0 k e0 (IdxP.of_at' (at_d dAu64u64i64Z_ok e2 :) e1) (F77_ok e3) e4 e5) (L38_12_b5h i0 i1 i2 i3 b0 x0 o0 n0) (ih h)
    ·
      cases h; exact LoopsN.done (L38_12_b6 i0 b0 x0 o0 n0 k e0) (fun h => by cases h)
theorem P38_0 (i0 : Int) (b0 : Bool) (x0 : List V) (o0 : Option Bool) (n0 : Nat) (k : Nat)
    (c0 : LoopsN Try.prog Try.cfg (k + 5) 0 Try.f38 (Try.cfg.fc 38) 0 [0, 2, 6, 7, 8] (k + 5) { tm := [(0, V.sl o0 b0 n0 x0), (2, V.bool false), (6, V.sl o0 b0 n0 x0), (7, V.int IntKind.i64 (↑x0.length : Int)), (8, V.int IntKind.i64 0)], hp := [], nx := 0 } (Exit.exit 0, { tm := [(0, V.sl o0 b0 n0 x0), (2, V.bool false), (6, V.sl o0 b0 n0 x0), (7, V.int IntKind.i64 (↑x0.length : Int)), (8, V.int IntKind.i64 i0), (9, V.bool false)], hp := [], nx := 4 })) :
    callP (evalFn Try.prog Try.cfg (k + 6)) 38 [V.sl o0 b0 n0 x0] = some (V.bool (decide ((↑x0.length : Int) ≤ 64))) :=
  byF (k := k) (d := 6) [Hn.loop (Exit.exit 0, { tm := [(0, V.sl o0 b0 n0 x0), (2, V.bool false), (6, V.sl o0 b0 n0 x0), (7, V.int IntKind.i64 (↑x0.length : Int)), (8, V.int IntKind.i64 i0), (9, V.bool false)], hp := [], nx := 4 })] (And.intro c0 trivial) (by kernel_rfl)
theorem P38_1 (i0 : Int) (i1 : Int) (i2 : Int) (i3 : Int) (i4 : Int) (i5 : Int) (b0 : Bool) (x0 : List V) (o0 : Option Bool) (n0 : Nat) (k : Nat)
    (c0 : LoopsN Try.prog Try.cfg (k + 5) 0 Try.f38 (Try.cfg.fc 38) 0 [0, 2, 6, 7, 8] (k + 5) { tm := [(0, V.sl o0 b0 n0 x0), (2, V.bool false), (6, V.sl o0 b0 n0 x0), (7, V.int IntKind.i64 (↑x0.length : Int)), (8, V.int IntKind.i64 0)], hp := [], nx := 0 } (Exit.ret, { tm := [(0, V.sl o0 b0 n0 x0), (2, V.bool false), (3, V.int IntKind.i64 i0), (4, V.ptr 16 0), (5, V.int IntKind.u64 (IntKind.u64.wrap (i4 + i5))), (6, V.sl o0 b0 n0 x0), (7, V.int IntKind.i64 (↑x0.length : Int)), (8, V.int IntKind.i64 i0), (9, V.bool true), (15, V.bool false), (17, V.bool true), (51, V.bool true)], hp := [(16, Ob.var [V.int IntKind.u64 i1, V.int IntKind.u64 i2, V.int IntKind.i64 i3])], nx := 192 })) :
    callP (evalFn Try.prog Try.cfg (k + 6)) 38 [V.sl o0 b0 n0 x0] = some (V.bool false) :=
  byF (k := k) (d := 6) [Hn.loop (Exit.ret, { tm := [(0, V.sl o0 b0 n0 x0), (2, V.bool false), (3, V.int IntKind.i64 i0), (4, V.ptr 16 0), (5, V.int IntKind.u64 (IntKind.u64.wrap (i4 + i5))), (6, V.sl o0 b0 n0 x0), (7, V.int IntKind.i64 (↑x0.length : Int)), (8, V.int IntKind.i64 i0), (9, V.bool true), (15, V.bool false), (17, V.bool true), (51, V.bool true)], hp := [(16, Ob.var [V.int IntKind.u64 i1, V.int IntKind.u64 i2, V.int IntKind.i64 i3])], nx := 192 })] (And.intro c0 trivial) (by kernel_rfl)
theorem P38_2 (i0 : Int) (i1 : Int) (i2 : Int) (i3 : Int) (i4 : Int) (i5 : Int) (b0 : Bool) (x0 : List V) (o0 : Option Bool) (n0 : Nat) (k : Nat)
    (c0 : LoopsN Try.prog Try.cfg (k + 5) 0 Try.f38 (Try.cfg.fc 38) 0 [0, 2, 6, 7, 8] (k + 5) { tm := [(0, V.sl o0 b0 n0 x0), (2, V.bool false), (6, V.sl o0 b0 n0 x0), (7, V.int IntKind.i64 (↑x0.length : Int)), (8, V.int IntKind.i64 0)], hp := [], nx := 0 } (Exit.ret, { tm := [(0, V.sl o0 b0 n0 x0), (2, V.bool false), (3, V.int IntKind.i64 i0), (4, V.ptr 16 0), (5, V.int IntKind.u64 (IntKind.u64.wrap (i4 + i5))), (6, V.sl o0 b0 n0 x0), (7, V.int IntKind.i64 (↑x0.length : Int)), (8, V.int IntKind.i64 i0), (9, V.bool true), (15, V.bool false), (17, V.bool true), (51, V.bool true)], hp := [(16, Ob.var [V.int IntKind.u64 i1, V.int IntKind.u64 i2, V.int IntKind.i64 i3])], nx := 192 })) :
    callP (evalFn Try.prog Try.cfg (k + 6)) 38 [V.sl o0 b0 n0 x0] = some (V.bool false) :=
  byF (k := k) (d := 6) [Hn.loop (Exit.ret, { tm := [(0, V.sl o0 b0 n0 x0), (2, V.bool false), (3, V.int IntKind.i64 i0), (4, V.ptr 16 0), (5, V.int IntKind.u64 (IntKind.u64.wrap (i4 + i5))), (6, V.sl o0 b0 n0 x0), (7, V.int IntKind.i64 (↑x0.length : Int)), (8, V.int IntKind.i64 i0), (9, V.bool true), (15, V.bool false), (17, V.bool true), (51, V.bool true)], hp := [(16, Ob.var [V.int IntKind.u64 i1, V.int IntKind.u64 i2, V.int IntKind.i64 i3])], nx := 192 })] (And.intro c0 trivial) (by kernel_rfl)
theorem P38_3 (i0 : Int) (i1 : Int) (i2 : Int) (i3 : Int) (b0 : Bool) (x0 : List V) (o0 : Option Bool) (n0 : Nat) (k : Nat)
    (c0 : LoopsN Try.prog Try.cfg (k + 5) 0 Try.f38 (Try.cfg.fc 38) 0 [0, 2, 6, 7, 8] (k + 5) { tm := [(0, V.sl o0 b0 n0 x0), (2, V.bool false), (6, V.sl o0 b0 n0 x0), (7, V.int IntKind.i64 (↑x0.length : Int)), (8, V.int IntKind.i64 0)], hp := [], nx := 0 } (Exit.ret, { tm := [(0, V.sl o0 b0 n0 x0), (2, V.bool false), (3, V.int IntKind.i64 i0), (4, V.ptr 16 0), (6, V.sl o0 b0 n0 x0), (7, V.int IntKind.i64 (↑x0.length : Int)), (8, V.int IntKind.i64 i0), (9, V.bool true), (15, V.bool true)], hp := [(16, Ob.var [V.int IntKind.u64 i1, V.int IntKind.u64 i2, V.int IntKind.i64 i3])], nx := 44 })) :
    callP (evalFn Try.prog Try.cfg (k + 6)) 38 [V.sl o0 b0 n0 x0] = some (V.bool false) :=
  byF (k := k) (d := 6) [Hn.loop (Exit.ret, { tm := [(0, V.sl o0 b0 n0 x0), (2, V.bool false), (3, V.int IntKind.i64 i0), (4, V.ptr 16 0), (6, V.sl o0 b0 n0 x0), (7, V.int IntKind.i64 (↑x0.length : Int)), (8, V.int IntKind.i64 i0), (9, V.bool true), (15, V.bool true)], hp := [(16, Ob.var [V.int IntKind.u64 i1, V.int IntKind.u64 i2, V.int IntKind.i64 i3])], nx := 44 })] (And.intro c0 trivial) (by kernel_rfl)
def F38 (k : Nat) (o0 : Option Bool) (b0 : Bool) (n0 : Nat) (x0 : List V) : Option (Bool) :=
  ((L38_12 k b0 x0 o0 n0 (k + 5) (0)).bind fun
    | L38_12_R.e0 i0 i1 i2 i3 => (some (false))
    | L38_12_R.e1 i0 i1 i2 i3 i4 i5 => (some (false))
    | L38_12_R.e2 i0 i1 i2 i3 i4 i5 => (some (false))
    | L38_12_R.e3 i0 => (some (decide ((↑x0.length : Int) ≤ 64))))
theorem F38_ok {o0 : Option Bool} {b0 : Bool} {n0 : Nat} {x0 : List V} {k : Nat} {r : Bool} (h : F38 k o0 b0 n0 x0 = some r) :
    callP (evalFn Try.prog Try.cfg (k + 6)) 38 [V.sl o0 b0 n0 x0] = some (V.bool r) := by
  unfold F38 at h
  obtain ⟨ee, e0, h⟩ := Option.bind_eq_some_iff.1 h
  cases ee with
  | e0 i0 i1 i2 i3 =>
    have h := Option.some.inj h; subst h; exact P38_3 i0 i1 i2 i3 b0 x0 o0 n0 k (L38_12_ok e0)
  | e1 i0 i1 i2 i3 i4 i5 =>
    have h := Option.some.inj h; subst h; exact P38_2 i0 i1 i2 i3 i4 i5 b0 x0 o0 n0 k (L38_12_ok e0)
  | e2 i0 i1 i2 i3 i4 i5 =>
    have h := Option.some.inj h; subst h; exact P38_1 i0 i1 i2 i3 i4 i5 b0 x0 o0 n0 k (L38_12_ok e0)
  | e3 i0 =>
    have h := Option.some.inj h; subst h; exact P38_0 i0 b0 x0 o0 n0 k (L38_12_ok e0)
theorem L41_13_b0 (i0 : Int) (i1 : Int) (i2 : Int) (i3 : Int) (i4 : Int) (i5 : Int) (i6 : Int) (b0 : Bool) (b1 : Bool) (x0 : List V) (x1 : List V) (o0 : Option Bool) (o1 : Option Bool) (n0 : Nat) (n1 : Nat) (k : Nat)
    (c0 : decide (i0 < (↑x0.length : Int)) = true)
    (c1 : IdxP x0 i0 n0 3 (V.agg [V.int IntKind.u64 i1, V.int IntKind.u64 i2, V.int IntKind.i64 i3]))
    (c2 : IdxP x1 i0 n1 3 (V.agg [V.int IntKind.u64 i4, V.int IntKind.u64 i5, V.int IntKind.i64 i6]))
    (c3 : (!(decide (i1 = i4) && (decide (i2 = i5) && (decide (i3 = i6) && true)))) = true) :
    evalCode Try.prog Try.cfg (evalFn Try.prog Try.cfg (k + 2)) 0 (Try.cfg.fc 41) (k + 2) (loopBody Try.f41 0) { tm := [(0, V.sl o0 b0 n0 x0), (1, V.sl o1 b1 n1 x1), (4, V.bool false), (10, V.bool false), (12, V.int IntKind.i64 (↑x0.length : Int)), (13, V.int IntKind.i64 i0)], hp := [], nx := 0 } = some (Exit.ret, { tm := [(0, V.sl o0 b0 n0 x0), (1, V.sl o1 b1 n1 x1), (4, V.bool false), (5, V.int IntKind.i64 i0), (10, V.bool false), (12, V.int IntKind.i64 (↑x0.length : Int)), (13, V.int IntKind.i64 i0), (14, V.bool true), (24, V.bool true)], hp := [], nx := 52 }) :=
  byL (k := k) (d := 2) [Hn.br 14 true, Hn.op 18 ((V.agg [V.int IntKind.u64 i1, V.int IntKind.u64 i2, V.int IntKind.i64 i3]).cpt 0) [], Hn.op 22 ((V.agg [V.int IntKind.u64 i4, V.int IntKind.u64 i5, V.int IntKind.i64 i6]).cpt 0) [], Hn.br 24 true] (And.intro c0 (And.intro c1 (And.intro c2 (And.intro c3 trivial)))) (by kernel_rfl)
theorem L41_13_b1 (i0 : Int) (i1 : Int) (i2 : Int) (i3 : Int) (i4 : Int) (i5 : Int) (i6 : Int) (b0 : Bool) (b1 : Bool) (x0 : List V) (x1 : List V) (o0 : Option Bool) (o1 : Option Bool) (n0 : Nat) (n1 : Nat) (k : Nat)
    (c0 : decide (i0 < (↑x0.length : Int)) = true)
    (c1 : IdxP x0 i0 n0 3 (V.agg [V.int IntKind.u64 i1, V.int IntKind.u64 i2, V.int IntKind.i64 i3]))
    (c2 : IdxP x1 i0 n1 3 (V.agg [V.int IntKind.u64 i4, V.int IntKind.u64 i5, V.int IntKind.i64 i6]))
    (c3 : (!(decide (i1 = i4) && (decide (i2 = i5) && (decide (i3 = i6) && true)))) = false) :
    evalCode Try.prog Try.cfg (evalFn Try.prog Try.cfg (k + 2)) 0 (Try.cfg.fc 41) (k + 2) (loopBody Try.f41 0) { tm := [(0, V.sl o0 b0 n0 x0), (1, V.sl o1 b1 n1 x1), (4, V.bool false), (10, V.bool false), (12, V.int IntKind.i64 (↑x0.length : Int)), (13, V.int IntKind.i64 i0)], hp := [], nx := 0 } = some (Exit.normal, { tm := [(0, V.sl o0 b0 n0 x0), (1, V.sl o1 b1 n1 x1), (4, V.bool false), (5, V.int IntKind.i64 i0), (10, V.bool false), (12, V.int IntKind.i64 (↑x0.length : Int)), (13, V.int IntKind.i64 (IntKind.i64.wrap (i0 + 1))), (14, V.bool true), (24, V.bool false)], hp := [], nx := 56 }) :=
  byL (k := k) (d := 2) [Hn.br 14 true, Hn.op 18 ((V.agg [V.int IntKind.u64 i1, V.int IntKind.u64 i2, V.int IntKind.i64 i3]).cpt 0) [], Hn.op 22 ((V.agg [V.int IntKind.u64 i4, V.int IntKind.u64 i5, V.int IntKind.i64 i6]).cpt 0) [], Hn.br 24 false] (And.intro c0 (And.intro c1 (And.intro c2 (And.intro c3 trivial)))) (by kernel_rfl)
theorem L41_13_b1h (i0 : Int) (b0 : Bool) (b1 : Bool) (x0 : List V) (x1 : List V) (o0 : Option Bool) (o1 : Option Bool) (n0 : Nat) (n1 : Nat) : head 0 [0, 1, 4, 10, 12, 13] (Try.cfg.fc 41).acc { tm := [(0, V.sl o0 b0 n0 x0), (1, V.sl o1 b1 n1 x1), (4, V.bool false), (5, V.int IntKind.i64 i0), (10, V.bool false), (12, V.int IntKind.i64 (↑x0.length : Int)), (13, V.int IntKind.i64 (IntKind.i64.wrap (i0 + 1))), (14, V.bool true), (24, V.bool false)], hp := [], nx := 56 } = { tm := [(0, V.sl o0 b0 n0 x0), (1, V.sl o1 b1 n1 x1), (4, V.bool false), (10, V.bool false), (12, V.int IntKind.i64 (↑x0.length : Int)), (13, V.int IntKind.i64 (IntKind.i64.wrap (i0 + 1)))], hp := [], nx := 0 } := by kernel_rfl
theorem L41_13_b2 (i0 : Int) (b0 : Bool) (b1 : Bool) (x0 : List V) (x1 : List V) (o0 : Option Bool) (o1 : Option Bool) (n0 : Nat) (n1 : Nat) (k : Nat)
    (c0 : decide (i0 < (↑x0.length : Int)) = false) :
    evalCode Try.prog Try.cfg (evalFn Try.prog Try.cfg (k + 2)) 0 (Try.cfg.fc 41) (k + 2) (loopBody Try.f41 0) { tm := [(0, V.sl o0 b0 n0 x0), (1, V.sl o1 b1 n1 x1), (4, V.bool false), (10, V.bool false), (12, V.int IntKind.i64 (↑x0.length : Int)), (13, V.int IntKind.i64 i0)], hp := [], nx := 0 } = some (Exit.exit 0, { tm := [(0, V.sl o0 b0 n0 x0), (1, V.sl o1 b1 n1 x1), (4, V.bool false), (10, V.bool false), (12, V.int IntKind.i64 (↑x0.length : Int)), (13, V.int IntKind.i64 i0), (14, V.bool false)], hp := [], nx := 4 }) :=
  byL (k := k) (d := 2) [Hn.br 14 false] (And.intro c0 trivial) (by kernel_rfl)
inductive L41_13_R where
  | e0 (i0 : Int)
  | e1 (i0 : Int)
noncomputable def L41_13_end (b0 : Bool) (b1 : Bool) (x0 : List V) (x1 : List V) (o0 : Option Bool) (o1 : Option Bool) (n0 : Nat) (n1 : Nat) : L41_13_R → Exit × St
  | .e0 i0 => (Exit.ret, { tm := [(0, V.sl o0 b0 n0 x0), (1, V.sl o1 b1 n1 x1), (4, V.bool false), (5, V.int IntKind.i64 i0), (10, V.bool false), (12, V.int IntKind.i64 (↑x0.length : Int)), (13, V.int IntKind.i64 i0), (14, V.bool true), (24, V.bool true)], hp := [], nx := 52 })
  | .e1 i0 => (Exit.exit 0, { tm := [(0, V.sl o0 b0 n0 x0), (1, V.sl o1 b1 n1 x1), (4, V.bool false), (10, V.bool false), (12, V.int IntKind.i64 (↑x0.length : Int)), (13, V.int IntKind.i64 i0), (14, V.bool false)], hp := [], nx := 4 })
def L41_13 (k : Nat) (b0 : Bool) (b1 : Bool) (x0 : List V) (x1 : List V) (o0 : Option Bool) (o1 : Option Bool) (n0 : Nat) (n1 : Nat) : Nat → Int → Option L41_13_R
  | 0, _ => none
  | f + 1, i0 => (bif decide (i0 < (↑x0.length : Int)) then (guardP (n0 = (3 : Nat)) (((at? (x0) (i0)).bind dAu64u64i64Z).bind fun (i1, i2, i3) => (guardP (n1 = (3 : Nat)) (((at? (x1) (i0)).bind dAu64u64i64Z).bind fun (i4, i5, i6) => (bif !(decide (i1 = i4) && (decide (i2 = i5) && (decide (i3 = i6) && true))) then (some (L41_13_R.e0 i0)) else (L41_13 k b0 b1 x0 x1 o0 o1 n0 n1 f (IntKind.i64.wrap (i0 + 1)))))))) else (some (L41_13_R.e1 i0)))
theorem L41_13_ok {b0 : Bool} {b1 : Bool} {x0 : List V} {x1 : List V} {o0 : Option Bool} {o1 : Option Bool} {n0 : Nat} {n1 : Nat} {k : Nat} : ∀ {f : Nat} {i0 : Int} {r : L41_13_R}, L41_13 k b0 b1 x0 x1 o0 o1 n0 n1 f i0 = some r →
    LoopsN Try.prog Try.cfg (k + 2) 0 Try.f41 (Try.cfg.fc 41) 0 [0, 1, 4, 10, 12, 13] f { tm := [(0, V.sl o0 b0 n0 x0), (1, V.sl o1 b1 n1 x1), (4, V.bool false), (10, V.bool false), (12, V.int IntKind.i64 (↑x0.length : Int)), (13, V.int IntKind.i64 i0)], hp := [], nx := 0 } (L41_13_end b0 b1 x0 x1 o0 o1 n0 n1 r) := by
  intro f
  induction f with
  | zero => intro i0 r h; cases h
  | succ f ih =>
    intro i0 r h
    rw [L41_13] at h
    rcases cond_elim h with ⟨e0, h⟩ | ⟨e0, h⟩
    ·
      obtain ⟨e1, h⟩ := guardP_some.1 h
      obtain ⟨⟨i1, i2, i3⟩, e2, h⟩ := Option.bind_eq_some_iff.1 h
      obtain ⟨e3, h⟩ := guardP_some.1 h
      obtain ⟨⟨i4, i5, i6⟩, e4, h⟩ := Option.bind_eq_some_iff.1 h
      rcases cond_elim h with ⟨e5, h⟩ | ⟨e5, h⟩
      ·
        cases h; exact LoopsN.done (L41_13_b0 i0 i1 i2 i3 i4 i5 i6 b0 b1 x0 x1 o0 o1 n0 n1 k e0 (IdxP.of_at' (at_d dAu64u64i64Z_ok e2 :) e1) (IdxP.of_at' (at_d dAu64u64i64Z_ok e4 :) e3) e5) (fun h => by cases h)
      ·
        exact LoopsN.next (L41_13_b1 i0 i1 i2 i3 i4 i5 i6 b0 b1 x0 x1 o0 o1 n0 n1 k e0 (IdxP.of_at' (at_d dAu64u64i64Z_ok e2 :) e1) (IdxP.of_at' (at_d dAu64u64i64Z_ok e4 :) e3) e5) (L41_13_b1h i0 b0 b1 x0 x1 o0 o1 n0 n1) (ih h)
    ·
      cases h; exact LoopsN.done (L41_13_b2 i0 b0 b1 x0 x1 o0 o1 n0 n1 k e0) (fun h => by cases h)
theorem P41_0 (b0 : Bool) (b1 : Bool) (x0 : List V) (x1 : List V) (o0 : Option Bool) (o1 : Option Bool) (n0 : Nat) (n1 : Nat) (k : Nat)
    (c0 : (!decide ((↑x0.length : Int) = (↑x1.length : Int))) = true) :
    callP (evalFn Try.prog Try.cfg (k + 3)) 41 [V.sl o0 b0 n0 x0, V.sl o1 b1 n1 x1] = some (V.bool false) :=
  byF (k := k) (d := 3) [Hn.br 10 true] (And.intro c0 trivial) (by kernel_rfl)
theorem P41_1 (i0 : Int) (b0 : Bool) (b1 : Bool) (x0 : List V) (x1 : List V) (o0 : Option Bool) (o1 : Option Bool) (n0 : Nat) (n1 : Nat) (k : Nat)
    (c0 : (!decide ((↑x0.length : Int) = (↑x1.length : Int))) = false)
    (c1 : LoopsN Try.prog Try.cfg (k + 2) 0 Try.f41 (Try.cfg.fc 41) 0 [0, 1, 4, 10, 12, 13] (k + 2) { tm := [(0, V.sl o0 b0 n0 x0), (1, V.sl o1 b1 n1 x1), (4, V.bool false), (10, V.bool false), (12, V.int IntKind.i64 (↑x0.length : Int)), (13, V.int IntKind.i64 0)], hp := [], nx := 0 } (Exit.exit 0, { tm := [(0, V.sl o0 b0 n0 x0), (1, V.sl o1 b1 n1 x1), (4, V.bool false), (10, V.bool false), (12, V.int IntKind.i64 (↑x0.length : Int)), (13, V.int IntKind.i64 i0), (14, V.bool false)], hp := [], nx := 4 })) :
    callP (evalFn Try.prog Try.cfg (k + 3)) 41 [V.sl o0 b0 n0 x0, V.sl o1 b1 n1 x1] = some (V.bool true) :=
  byF (k := k) (d := 3) [Hn.br 10 false, Hn.loop (Exit.exit 0, { tm := [(0, V.sl o0 b0 n0 x0), (1, V.sl o1 b1 n1 x1), (4, V.bool false), (10, V.bool false), (12, V.int IntKind.i64 (↑x0.length : Int)), (13, V.int IntKind.i64 i0), (14, V.bool false)], hp := [], nx := 4 })] (And.intro c0 (And.intro c1 trivial)) (by kernel_rfl)
theorem P41_2 (i0 : Int) (b0 : Bool) (b1 : Bool) (x0 : List V) (x1 : List V) (o0 : Option Bool) (o1 : Option Bool) (n0 : Nat) (n1 : Nat) (k : Nat)
    (c0 : (!decide ((↑x0.length : Int) = (↑x1.length : Int))) = false)
    (c1 : LoopsN Try.prog Try.cfg (k + 2) 0 Try.f41 (Try.cfg.fc 41) 0 [0, 1, 4, 10, 12, 13] (k + 2) { tm := [(0, V.sl o0 b0 n0 x0), (1, V.sl o1 b1 n1 x1), (4, V.bool false), (10, V.bool false), (12, V.int IntKind.i64 (↑x0.length : Int)), (13, V.int IntKind.i64 0)], hp := [], nx := 0 } (Exit.ret, { tm := [(0, V.sl o0 b0 n0 x0), (1, V.sl o1 b1 n1 x1), (4, V.bool false), (5, V.int IntKind.i64 i0), (10, V.bool false), (12, V.int IntKind.i64 (↑x0.length : Int)), (13, V.int IntKind.i64 i0), (14, V.bool true), (24, V.bool true)], hp := [], nx := 52 })) :
    callP (evalFn Try.prog Try.cfg (k + 3)) 41 [V.sl o0 b0 n0 x0, V.sl o1 b1 n1 x1] = some (V.bool false) :=
  byF (k := k) (d := 3) [Hn.br 10 false, Hn.loop (Exit.ret, { tm := [(0, V.sl o0 b0 n0 x0), (1, V.sl o1 b1 n1 x1), (4, V.bool false), (5, V.int IntKind.i64 i0), (10, V.bool false), (12, V.int IntKind.i64 (↑x0.length : Int)), (13, V.int IntKind.i64 i0), (14, V.bool true), (24, V.bool true)], hp := [], nx := 52 })] (And.intro c0 (And.intro c1 trivial)) (by kernel_rfl)
def F41 (k : Nat) (o0 : Option Bool) (b0 : Bool) (n0 : Nat) (x0 : List V) (o1 : Option Bool) (b1 : Bool) (n1 : Nat) (x1 : List V) : Option (Bool) :=
  (bif !decide ((↑x0.length : Int) = (↑x1.length : Int)) then (some (false)) else ((L41_13 k b0 b1 x0 x1 o0 o1 n0 n1 (k + 2) (0)).bind fun
    | L41_13_R.e0 i0 => (some (false))
    | L41_13_R.e1 i0 => (some (true))))
theorem F41_ok {o0 : Option Bool} {b0 : Bool} {n0 : Nat} {x0 : List V} {o1 : Option Bool} {b1 : Bool} {n1 : Nat} {x1 : List V} {k : Nat} {r : Bool} (h : F41 k o0 b0 n0 x0 o1 b1 n1 x1 = some r) :
    callP (evalFn Try.prog Try.cfg (k + 3)) 41 [V.sl o0 b0 n0 x0, V.sl o1 b1 n1 x1] = some (V.bool r) := by
  unfold F41 at h
  rcases cond_elim h with ⟨e0, h⟩ | ⟨e0, h⟩
  ·
    have h := Option.some.inj h; subst h; exact P41_0 b0 b1 x0 x1 o0 o1 n0 n1 k e0
  ·
    obtain ⟨ee, e1, h⟩ := Option.bind_eq_some_iff.1 h
    cases ee with
    | e0 i0 =>
      have h := Option.some.inj h; subst h; exact P41_2 i0 b0 b1 x0 x1 o0 o1 n0 n1 k e0 (L41_13_ok e1)
    | e1 i0 =>
      have h := Option.some.inj h; subst h; exact P41_1 i0 b0 b1 x0 x1 o0 o1 n0 n1 k e0 (L41_13_ok e1)
theorem L49_14_b0 (i0 : Int) (i1 : Int) (i2 : Int) (i3 : Int) (i4 : Int) (b0 : Bool) (x0 : List V) (o0 : Option Bool) (n0 : Nat) (k : Nat)
    (c0 : decide (i1 < (↑x0.length : Int)) = true)
    (c1 : IdxP x0 i1 n0 3 (V.agg [V.int IntKind.u64 i2, V.int IntKind.u64 i3, V.int IntKind.i64 i4]))
    (c2 : decide (i2 ≤ i0) = true)
    (c3 : decide (IntKind.u64.wrap (i0 - i2) < i3) = true) :
    evalCode Try.prog Try.cfg (evalFn Try.prog Try.cfg (k + 2)) 0 (Try.cfg.fc 49) (k + 2) (loopBody Try.f49 0) { tm := [(0, V.sl o0 b0 n0 x0), (1, V.int IntKind.u64 i0), (4, V.int IntKind.i64 0), (7, V.sl o0 b0 n0 x0), (8, V.int IntKind.i64 (↑x0.length : Int)), (9, V.int IntKind.i64 i1)], hp := [], nx := 0 } = some (Exit.ret, { tm := [(0, V.sl o0 b0 n0 x0), (1, V.int IntKind.u64 i0), (4, V.int IntKind.i64 i4), (6, V.ptr 12 0), (7, V.sl o0 b0 n0 x0), (8, V.int IntKind.i64 (↑x0.length : Int)), (9, V.int IntKind.i64 i1), (10, V.bool true), (25, V.bool true)], hp := [(12, Ob.var [V.int IntKind.u64 i2, V.int IntKind.u64 i3, V.int IntKind.i64 i4])], nx := 84 }) :=
  byL (k := k) (d := 2) [Hn.br 10 true, Hn.op 11 ((V.agg [V.int IntKind.u64 i2, V.int IntKind.u64 i3, V.int IntKind.i64 i4]).cpt 0) [], Hn.br 17 true, Hn.br 25 true] (And.intro c0 (And.intro c1 (And.intro c2 (And.intro c3 trivial)))) (by kernel_rfl)
theorem L49_14_b1 (i0 : Int) (i1 : Int) (i2 : Int) (i3 : Int) (i4 : Int) (b0 : Bool) (x0 : List V) (o0 : Option Bool) (n0 : Nat) (k : Nat)
    (c0 : decide (i1 < (↑x0.length : Int)) = true)
    (c1 : IdxP x0 i1 n0 3 (V.agg [V.int IntKind.u64 i2, V.int IntKind.u64 i3, V.int IntKind.i64 i4]))
    (c2 : decide (i2 ≤ i0) = true)
    (c3 : decide (IntKind.u64.wrap (i0 - i2) < i3) = false) :
    evalCode Try.prog Try.cfg (evalFn Try.prog Try.cfg (k + 2)) 0 (Try.cfg.fc 49) (k + 2) (loopBody Try.f49 0) { tm := [(0, V.sl o0 b0 n0 x0), (1, V.int IntKind.u64 i0), (4, V.int IntKind.i64 0), (7, V.sl o0 b0 n0 x0), (8, V.int IntKind.i64 (↑x0.length : Int)), (9, V.int IntKind.i64 i1)], hp := [], nx := 0 } = some (Exit.normal, { tm := [(0, V.sl o0 b0 n0 x0), (1, V.int IntKind.u64 i0), (4, V.int IntKind.i64 0), (6, V.ptr 12 0), (7, V.sl o0 b0 n0 x0), (8, V.int IntKind.i64 (↑x0.length : Int)), (9, V.int IntKind.i64 (IntKind.i64.wrap (i1 + 1))), (10, V.bool true), (25, V.bool false)], hp := [(12, Ob.var [V.int IntKind.u64 i2, V.int IntKind.u64 i3, V.int IntKind.i64 i4])], nx := 80 }) :=
  byL (k := k) (d := 2) [Hn.br 10 true, Hn.op 11 ((V.agg [V.int IntKind.u64 i2, V.int IntKind.u64 i3, V.int IntKind.i64 i4]).cpt 0) [], Hn.br 17 true, Hn.br 25 false] (And.intro c0 (And.intro c1 (And.intro c2 (And.intro c3 trivial)))) (by kernel_rfl)
theorem L49_14_b1h (i0 : Int) (i1 : Int) (i2 : Int) (i3 : Int) (i4 : Int) (b0 : Bool) (x0 : List V) (o0 : Option Bool) (n0 : Nat) : head 0 [0, 1, 4, 7, 8, 9] (Try.cfg.fc 49).acc { tm := [(0, V.sl o0 b0 n0 x0), (1, V.int IntKind.u64 i0), (4, V.int IntKind.i64 0), (6, V.ptr 12 0), (7, V.sl o0 b0 n0 x0), (8, V.int IntKind.i64 (↑x0.length : Int)), (9, V.int IntKind.i64 (IntKind.i64.wrap (i1 + 1))), (10, V.bool true), (25, V.bool false)], hp := [(12, Ob.var [V.int IntKind.u64 i2, V.int IntKind.u64 i3, V.int IntKind.i64 i4])], nx := 80 } = { tm := [(0, V.sl o0 b0 n0 x0), (1, V.int IntKind.u64 i0), (4, V.int IntKind.i64 0), (7, V.sl o0 b0 n0 x0), (8, V.int IntKind.i64 (↑x0.length : Int)), (9, V.int IntKind.i64 (IntKind.i64.wrap (i1 + 1)))], hp := [], nx := 0 } := by kernel_rfl
theorem L49_14_b2 (i0 : Int) (i1 : Int) (i2 : Int) (i3 : Int) (i4 : Int) (b0 : Bool) (x0 : List V) (o0 : Option Bool) (n0 : Nat) (k : Nat)
    (c0 : decide (i1 < (↑x0.length : Int)) = true)
    (c1 : IdxP x0 i1 n0 3 (V.agg [V.int IntKind.u64 i2, V.int IntKind.u64 i3, V.int IntKind.i64 i4]))
    (c2 : decide (i2 ≤ i0) = false) :
    evalCode Try.prog Try.cfg (evalFn Try.prog Try.cfg (k + 2)) 0 (Try.cfg.fc 49) (k + 2) (loopBody Try.f49 0) { tm := [(0, V.sl o0 b0 n0 x0), (1, V.int IntKind.u64 i0), (4, V.int IntKind.i64 0), (7, V.sl o0 b0 n0 x0), (8, V.int IntKind.i64 (↑x0.length : Int)), (9, V.int IntKind.i64 i1)], hp := [], nx := 0 } = some (Exit.normal, { tm := [(0, V.sl o0 b0 n0 x0), (1, V.int IntKind.u64 i0), (4, V.int IntKind.i64 0), (6, V.ptr 12 0), (7, V.sl o0 b0 n0 x0), (8, V.int IntKind.i64 (↑x0.length : Int)), (9, V.int IntKind.i64 (IntKind.i64.wrap (i1 + 1))), (10, V.bool true), (25, V.bool false)], hp := [(12, Ob.var [V.int IntKind.u64 i2, V.int IntKind.u64 i3, V.int IntKind.i64 i4])], nx := 80 }) :=
  byL (k := k) (d := 2) [Hn.br 10 true, Hn.op 11 ((V.agg [V.int IntKind.u64 i2, V.int IntKind.u64 i3, V.int IntKind.i64 i4]).cpt 0) [], Hn.br 17 false] (And.intro c0 (And.intro c1 (And.intro c2 trivial))) (by kernel_rfl)
theorem L49_14_b2h (i0 : Int) (i1 : Int) (i2 : Int) (i3 : Int) (i4 : Int) (b0 : Bool) (x0 : List V) (o0 : Option Bool) (n0 : Nat) : head 0 [0, 1, 4, 7, 8, 9] (Try.cfg.fc 49).acc { tm := [(0, V.sl o0 b0 n0 x0), (1, V.int IntKind.u64 i0), (4, V.int IntKind.i64 0), (6, V.ptr 12 0), (7, V.sl o0 b0 n0 x0), (8, V.int IntKind.i64 (↑x0.length : Int)), (9, V.int IntKind.i64 (IntKind.i64.wrap (i1 + 1))), (10, V.bool true), (25, V.bool false)], hp := [(12, Ob.var [V.int IntKind.u64 i2, V.int IntKind.u64 i3, V.int IntKind.i64 i4])], nx := 80 } = { tm := [(0, V.sl o0 b0 n0 x0), (1, V.int IntKind.u64 i0), (4, V.int IntKind.i64 0), (7, V.sl o0 b0 n0 x0), (8, V.int IntKind.i64 (↑x0.length : Int)), (9, V.int IntKind.i64 (IntKind.i64.wrap (i1 + 1)))], hp := [], nx := 0 } := by kernel_rfl
theorem L49_14_b3 (i0 : Int) (i1 : Int) (b0 : Bool) (x0 : List V) (o0 : Option Bool) (n0 : Nat) (k : Nat)
    (c0 : decide (i1 < (↑x0.length : Int)) = false) :
    evalCode Try.prog Try.cfg (evalFn Try.prog Try.cfg (k + 2)) 0 (Try.cfg.fc 49) (k + 2) (loopBody Try.f49 0) { tm := [(0, V.sl o0 b0 n0 x0), (1, V.int IntKind.u64 i0), (4, V.int IntKind.i64 0), (7, V.sl o0 b0 n0 x0), (8, V.int IntKind.i64 (↑x0.length : Int)), (9, V.int IntKind.i64 i1)], hp := [], nx := 0 } = some (Exit.exit 0, { tm := [(0, V.sl o0 b0 n0 x0), (1, V.int IntKind.u64 i0), (4, V.int IntKind.i64 0), (7, V.sl o0 b0 n0 x0), (8, V.int IntKind.i64 (↑x0.length : Int)), (9, V.int IntKind.i64 i1), (10, V.bool false)], hp := [], nx := 4 }) :=
  byL (k := k) (d := 2) [Hn.br 10 false] (And.intro c0 trivial) (by kernel_rfl)
inductive L49_14_R where
  | e0 (i1 : Int) (i2 : Int) (i3 : Int) (i4 : Int)
  | e1 (i1 : Int)
noncomputable def L49_14_end (i0 : Int) (b0 : Bool) (x0 : List V) (o0 : Option Bool) (n0 : Nat) : L49_14_R → Exit × St
  | .e0 i1 i2 i3 i4 => (Exit.ret, { tm := [(0, V.sl o0 b0 n0 x0), (1, V.int IntKind.u64 i0), (4, V.int IntKind.i64 i4), (6, V.ptr 12 0), (7, V.sl o0 b0 n0 x0), (8, V.int IntKind.i64 (↑x0.length : Int)), (9, V.int IntKind.i64 i1), (10, V.bool true), (25, V.bool true)], hp := [(12, Ob.var [V.int IntKind.u64 i2, V.int IntKind.u64 i3, V.int IntKind.i64 i4])], nx := 84 })
  | .e1 i1 => (Exit.exit 0, { tm := [(0, V.sl o0 b0 n0 x0), (1, V.int IntKind.u64 i0), (4, V.int IntKind.i64 0), (7, V.sl o0 b0 n0 x0), (8, V.int IntKind.i64 (↑x0.length : Int)), (9, V.int IntKind.i64 i1), (10, V.bool false)], hp := [], nx := 4 })
def L49_14 (k : Nat) (i0 : Int) (b0 : Bool) (x0 : List V) (o0 : Option Bool) (n0 : Nat) : Nat → Int → Option L49_14_R
  | 0, _ => none
  | f + 1, i1 => (bif decide (i1 < (↑x0.length : Int)) then (guardP (n0 = (3 : Nat)) (((at? (x0) (i1)).bind dAu64u64i64Z).bind fun (i2, i3, i4) => (bif decide (i2 ≤ i0) then (bif decide (IntKind.u64.wrap (i0 - i2) < i3) then (some (L49_14_R.e0 i1 i2 i3 i4)) else (L49_14 k i0 b0 x0 o0 n0 f (IntKind.i64.wrap (i1 + 1)))) else (L49_14 k i0 b0 x0 o0 n0 f (IntKind.i64.wrap (i1 + 1)))))) else (some (L49_14_R.e1 i1)))
theorem L49_14_ok {i0 : Int} {b0 : Bool} {x0 : List V} {o0 : Option Bool} {n0 : Nat} {k : Nat} : ∀ {f : Nat} {i1 : Int} {r : L49_14_R}, L49_14 k i0 b0 x0 o0 n0 f i1 = some r →
    LoopsN Try.prog Try.cfg (k + 2) 0 Try.f49 (Try.cfg.fc 49) 0 [0, 1, 4, 7, 8, 9] f { tm := [(0, V.sl o0 b0 n0 x0), (1, V.int IntKind.u64 i0), (4, V.int IntKind.i64 0), (7, V.sl o0 b0 n0 x0), (8, V.int IntKind.i64 (↑x0.length : Int)), (9, V.int IntKind.i64 i1)], hp := [], nx := 0 } (L49_14_end i0 b0 x0 o0 n0 r) := by
  intro f
  induction f with
  | zero => intro i1 r h; cases h
  | succ f ih =>
    intro i1 r h
    rw [L49_14] at h
    rcases cond_elim h with ⟨e0, h⟩ | ⟨e0, h⟩
    ·
      obtain ⟨e1, h⟩ := guardP_some.1 h
      obtain ⟨⟨i2, i3, i4⟩, e2, h⟩ := Option.bind_eq_some_iff.1 h
      rcases cond_elim h with ⟨e3, h⟩ | ⟨e3, h⟩
      ·
        rcases cond_elim h with ⟨e4, h⟩ | ⟨e4, h⟩
        ·
          cases h; exact LoopsN.done (L49_14_b0 i0 i1 i2 i3 i4 b0 x0 o0 n0 k e0 (IdxP.of_at' (at_d dAu64u64i64Z_ok e2 :) e1) e3 e4) (fun h => by cases h)
        ·
          exact LoopsN.next (L49_14_b1 i0 i1 i2 i3 i4 b0 x0 o0 n0 k e0 (IdxP.of_at' (at_d dAu64u64i64Z_ok e2 :) e1) e3 e4) (L49_14_b1h i0 i1 i2 i3 i4 b0 x0 o0 n0) (ih h)
      ·
        exact LoopsN.next (L49_14_b2 i0 i1 i2 i3 i4 b0 x0 o0 n0 k e0 (IdxP.of_at' (at_d dAu64u64i64Z_ok e2 :) e1) e3) (L49_14_b2h i0 i1 i2 i3 i4 b0 x0 o0 n0) (ih h)
    ·
      cases h; exact LoopsN.done (L49_14_b3 i0 i1 b0 x0 o0 n0 k e0) (fun h => by cases h)
theorem P49_0 (i0 : Int) (i1 : Int) (b0 : Bool) (x0 : List V) (o0 : Option Bool) (n0 : Nat) (k : Nat)
    (c0 : LoopsN Try.prog Try.cfg (k + 2) 0 Try.f49 (Try.cfg.fc 49) 0 [0, 1, 4, 7, 8, 9] (k + 2) { tm := [(0, V.sl o0 b0 n0 x0), (1, V.int IntKind.u64 i0), (4, V.int IntKind.i64 0), (7, V.sl o0 b0 n0 x0), (8, V.int IntKind.i64 (↑x0.length : Int)), (9, V.int IntKind.i64 0)], hp := [], nx := 0 } (Exit.exit 0, { tm := [(0, V.sl o0 b0 n0 x0), (1, V.int IntKind.u64 i0), (4, V.int IntKind.i64 0), (7, V.sl o0 b0 n0 x0), (8, V.int IntKind.i64 (↑x0.length : Int)), (9, V.int IntKind.i64 i1), (10, V.bool false)], hp := [], nx := 4 })) :
    callP (evalFn Try.prog Try.cfg (k + 3)) 49 [V.sl o0 b0 n0 x0, V.int IntKind.u64 i0] = some (V.int IntKind.i64 0) :=
  byF (k := k) (d := 3) [Hn.loop (Exit.exit 0, { tm := [(0, V.sl o0 b0 n0 x0), (1, V.int IntKind.u64 i0), (4, V.int IntKind.i64 0), (7, V.sl o0 b0 n0 x0), (8, V.int IntKind.i64 (↑x0.length : Int)), (9, V.int IntKind.i64 i1), (10, V.bool false)], hp := [], nx := 4 })] (And.intro c0 trivial) (by kernel_rfl)
theorem P49_1 (i0 : Int) (i1 : Int) (i2 : Int) (i3 : Int) (i4 : Int) (b0 : Bool) (x0 : List V) (o0 : Option Bool) (n0 : Nat) (k : Nat)
    (c0 : LoopsN Try.prog Try.cfg (k + 2) 0 Try.f49 (Try.cfg.fc 49) 0 [0, 1, 4, 7, 8, 9] (k + 2) { tm := [(0, V.sl o0 b0 n0 x0), (1, V.int IntKind.u64 i0), (4, V.int IntKind.i64 0), (7, V.sl o0 b0 n0 x0), (8, V.int IntKind.i64 (↑x0.length : Int)), (9, V.int IntKind.i64 0)], hp := [], nx := 0 } (Exit.ret, { tm := [(0, V.sl o0 b0 n0 x0), (1, V.int IntKind.u64 i0), (4, V.int IntKind.i64 i4), (6, V.ptr 12 0), (7, V.sl o0 b0 n0 x0), (8, V.int IntKind.i64 (↑x0.length : Int)), (9, V.int IntKind.i64 i1), (10, V.bool true), (25, V.bool true)], hp := [(12, Ob.var [V.int IntKind.u64 i2, V.int IntKind.u64 i3, V.int IntKind.i64 i4])], nx := 84 })) :
    callP (evalFn Try.prog Try.cfg (k + 3)) 49 [V.sl o0 b0 n0 x0, V.int IntKind.u64 i0] = some (V.int IntKind.i64 i4) :=
  byF (k := k) (d := 3) [Hn.loop (Exit.ret, { tm := [(0, V.sl o0 b0 n0 x0), (1, V.int IntKind.u64 i0), (4, V.int IntKind.i64 i4), (6, V.ptr 12 0), (7, V.sl o0 b0 n0 x0), (8, V.int IntKind.i64 (↑x0.length : Int)), (9, V.int IntKind.i64 i1), (10, V.bool true), (25, V.bool true)], hp := [(12, Ob.var [V.int IntKind.u64 i2, V.int IntKind.u64 i3, V.int IntKind.i64 i4])], nx := 84 })] (And.intro c0 trivial) (by kernel_rfl)
def F49 (k : Nat) (o0 : Option Bool) (b0 : Bool) (n0 : Nat) (x0 : List V) (i0 : Int) : Option (Int) :=
  ((L49_14 k i0 b0 x0 o0 n0 (k + 2) (0)).bind fun
    | L49_14_R.e0 i1 i2 i3 i4 => (some (i4))
    | L49_14_R.e1 i1 => (some (0)))
theorem F49_ok {o0 : Option Bool} {b0 : Bool} {n0 : Nat} {x0 : List V} {i0 : Int} {k : Nat} {r : Int} (h : F49 k o0 b0 n0 x0 i0 = some r) :
    callP (evalFn Try.prog Try.cfg (k + 3)) 49 [V.sl o0 b0 n0 x0, V.int IntKind.u64 i0] = some (V.int IntKind.i64 r) := by
  unfold F49 at h
  obtain ⟨ee, e0, h⟩ := Option.bind_eq_some_iff.1 h
  cases ee with
  | e0 i1 i2 i3 i4 =>
    have h := Option.some.inj h; subst h; exact P49_1 i0 i1 i2 i3 i4 b0 x0 o0 n0 k (L49_14_ok e0)
  | e1 i1 =>
    have h := Option.some.inj h; subst h; exact P49_0 i0 i1 b0 x0 o0 n0 k (L49_14_ok e0)
theorem L112_15_b0 (i0 : Int) (i1 : Int) (i2 : Int) (i3 : Int) (b0 : Bool) (b1 : Bool) (x0 : List V) (x1 : List V) (o0 : Option Bool) (n0 : Nat) (k : Nat)
    (c0 : decide (i2 < (↑x0.length : Int)) = true)
    (c1 : IdxP x0 i2 n0 1 (V.int IntKind.u64 i3))
    (c2 : decide (i0 ≤ i3) = true)
    (c3 : (!b1) = true)
    (c4 : GrdW ((1 : Nat) = (1 : Nat) ∧ (0 : Nat) < (1 : Nat) ∧ (8 : Nat) ≤ (64 : Nat) ∧ x1.length + (1 : Nat) ≤ maxLen') (V.ref (57 : Nat)) [((0 : Nat), Ob.dead), ((57 : Nat), Ob.row false (1 : Nat) (x1 ++ [V.int IntKind.u64 i0]))])
    (c5 : (!decide (i3 = i0)) = true)
    (c6 : GrdW ((1 : Nat) = (1 : Nat) ∧ (0 : Nat) < (1 : Nat) ∧ (8 : Nat) ≤ (64 : Nat) ∧ (x1 ++ [V.int IntKind.u64 i0]).length + (1 : Nat) ≤ maxLen') (V.ref (93 : Nat)) [((57 : Nat), Ob.dead), ((93 : Nat), Ob.row false (1 : Nat) (x1 ++ [V.int IntKind.u64 i0] ++ [V.int IntKind.u64 i3]))]) :
    evalCode Try.prog Try.cfg (evalFn Try.prog Try.cfg (k + 2)) 0 (Try.cfg.fc 112) (k + 2) (loopBody Try.f112 0) { tm := [(0, V.sl o0 b0 n0 x0), (1, V.int IntKind.u64 i0), (2, V.int IntKind.u64 i1), (6, V.sl (some true) true 0 []), (7, V.ref 0), (8, V.bool b1), (13, V.bool false), (16, V.sl o0 b0 n0 x0), (17, V.int IntKind.i64 (↑x0.length : Int)), (18, V.int IntKind.i64 i2)], hp := [(0, Ob.row false 1 x1)], nx := 1 } = some (Exit.normal, { tm := [(0, V.sl o0 b0 n0 x0), (1, V.int IntKind.u64 i0), (2, V.int IntKind.u64 i1), (6, V.sl (some true) true 0 []), (7, V.ref 93), (8, V.bool true), (10, V.int IntKind.u64 i3), (13, V.bool false), (16, V.sl o0 b0 n0 x0), (17, V.int IntKind.i64 (↑x0.length : Int)), (18, V.int IntKind.i64 (IntKind.i64.wrap (i2 + 1))), (19, V.bool true), (28, V.bool true), (35, V.bool true)], hp := [(0, Ob.dead), (53, Ob.row false 1 [V.int IntKind.u64 i0]), (57, Ob.dead), (89, Ob.row false 1 [V.int IntKind.u64 i3]), (93, Ob.row false 1 (x1 ++ [V.int IntKind.u64 i0] ++ [V.int IntKind.u64 i3]))], nx := 109 }) :=
  byL (k := k) (d := 2) [Hn.br 19 true, Hn.op 20 ((V.int IntKind.u64 i3).cpt 0) [], Hn.br 25 true, Hn.br 28 true, Hn.op 32 (V.ref 57) [(0, Ob.dead), (57, Ob.row false 1 (x1 ++ [V.int IntKind.u64 i0]))], Hn.br 35 true, Hn.op 39 (V.ref 93) [(57, Ob.dead), (93, Ob.row false 1 (x1 ++ [V.int IntKind.u64 i0] ++ [V.int IntKind.u64 i3]))]] (And.intro c0 (And.intro c1 (And.intro c2 (And.intro c3 (And.intro c4 (And.intro c5 (And.intro c6 trivial))))))) (by kernel_rfl)
theorem L112_15_b0h (i0 : Int) (i1 : Int) (i2 : Int) (i3 : Int) (b0 : Bool) (x0 : List V) (x1 : List V) (o0 : Option Bool) (n0 : Nat) : head 0 [0, 1, 2, 6, 7, 8, 13, 16, 17, 18] (Try.cfg.fc 112).acc { tm := [(0, V.sl o0 b0 n0 x0), (1, V.int IntKind.u64 i0), (2, V.int IntKind.u64 i1), (6, V.sl (some true) true 0 []), (7, V.ref 93), (8, V.bool true), (10, V.int IntKind.u64 i3), (13, V.bool false), (16, V.sl o0 b0 n0 x0), (17, V.int IntKind.i64 (↑x0.length : Int)), (18, V.int IntKind.i64 (IntKind.i64.wrap (i2 + 1))), (19, V.bool true), (28, V.bool true), (35, V.bool true)], hp := [(0, Ob.dead), (53, Ob.row false 1 [V.int IntKind.u64 i0]), (57, Ob.dead), (89, Ob.row false 1 [V.int IntKind.u64 i3]), (93, Ob.row false 1 (x1 ++ [V.int IntKind.u64 i0] ++ [V.int IntKind.u64 i3]))], nx := 109 } = { tm := [(0, V.sl o0 b0 n0 x0), (1, V.int IntKind.u64 i0), (2, V.int IntKind.u64 i1), (6, V.sl (some true) true 0 []), (7, V.ref 0), (8, V.bool true), (13, V.bool false), (16, V.sl o0 b0 n0 x0), (17, V.int IntKind.i64 (↑x0.length : Int)), (18, V.int IntKind.i64 (IntKind.i64.wrap (i2 + 1)))], hp := [(0, Ob.row false 1 (x1 ++ [V.int IntKind.u64 i0] ++ [V.int IntKind.u64 i3]))], nx := 1 } := by kernel_rfl
theorem L112_15_b1 (i0 : Int) (i1 : Int) (i2 : Int) (i3 : Int) (b0 : Bool) (b1 : Bool) (x0 : List V) (x1 : List V) (o0 : Option Bool) (n0 : Nat) (k : Nat)
    (c0 : decide (i2 < (↑x0.length : Int)) = true)
    (c1 : IdxP x0 i2 n0 1 (V.int IntKind.u64 i3))
    (c2 : decide (i0 ≤ i3) = true)
    (c3 : (!b1) = true)
    (c4 : GrdW ((1 : Nat) = (1 : Nat) ∧ (0 : Nat) < (1 : Nat) ∧ (8 : Nat) ≤ (64 : Nat) ∧ x1.length + (1 : Nat) ≤ maxLen') (V.ref (57 : Nat)) [((0 : Nat), Ob.dead), ((57 : Nat), Ob.row false (1 : Nat) (x1 ++ [V.int IntKind.u64 i0]))])
    (c5 : (!decide (i3 = i0)) = false) :
    evalCode Try.prog Try.cfg (evalFn Try.prog Try.cfg (k + 2)) 0 (Try.cfg.fc 112) (k + 2) (loopBody Try.f112 0) { tm := [(0, V.sl o0 b0 n0 x0), (1, V.int IntKind.u64 i0), (2, V.int IntKind.u64 i1), (6, V.sl (some true) true 0 []), (7, V.ref 0), (8, V.bool b1), (13, V.bool false), (16, V.sl o0 b0 n0 x0), (17, V.int IntKind.i64 (↑x0.length : Int)), (18, V.int IntKind.i64 i2)], hp := [(0, Ob.row false 1 x1)], nx := 1 } = some (Exit.normal, { tm := [(0, V.sl o0 b0 n0 x0), (1, V.int IntKind.u64 i0), (2, V.int IntKind.u64 i1), (6, V.sl (some true) true 0 []), (7, V.ref 57), (8, V.bool true), (10, V.int IntKind.u64 i3), (13, V.bool false), (16, V.sl o0 b0 n0 x0), (17, V.int IntKind.i64 (↑x0.length : Int)), (18, V.int IntKind.i64 (IntKind.i64.wrap (i2 + 1))), (19, V.bool true), (28, V.bool true), (35, V.bool false)], hp := [(0, Ob.dead), (53, Ob.row false 1 [V.int IntKind.u64 i0]), (57, Ob.row false 1 (x1 ++ [V.int IntKind.u64 i0]))], nx := 89 }) :=
  byL (k := k) (d := 2) [Hn.br 19 true, Hn.op 20 ((V.int IntKind.u64 i3).cpt 0) [], Hn.br 25 true, Hn.br 28 true, Hn.op 32 (V.ref 57) [(0, Ob.dead), (57, Ob.row false 1 (x1 ++ [V.int IntKind.u64 i0]))], Hn.br 35 false] (And.intro c0 (And.intro c1 (And.intro c2 (And.intro c3 (And.intro c4 (And.intro c5 trivial)))))) (by kernel_rfl)
theorem L112_15_b1h (i0 : Int) (i1 : Int) (i2 : Int) (i3 : Int) (b0 : Bool) (x0 : List V) (x1 : List V) (o0 : Option Bool) (n0 : Nat) : head 0 [0, 1, 2, 6, 7, 8, 13, 16, 17, 18] (Try.cfg.fc 112).acc { tm := [(0, V.sl o0 b0 n0 x0), (1, V.int IntKind.u64 i0), (2, V.int IntKind.u64 i1), (6, V.sl (some true) true 0 []), (7, V.ref 57), (8, V.bool true), (10, V.int IntKind.u64 i3), (13, V.bool false), (16, V.sl o0 b0 n0 x0), (17, V.int IntKind.i64 (↑x0.length : Int)), (18, V.int IntKind.i64 (IntKind.i64.wrap (i2 + 1))), (19, V.bool true), (28, V.bool true), (35, V.bool false)], hp := [(0, Ob.dead), (53, Ob.row false 1 [V.int IntKind.u64 i0]), (57, Ob.row false 1 (x1 ++ [V.int IntKind.u64 i0]))], nx := 89 } = { tm := [(0, V.sl o0 b0 n0 x0), (1, V.int IntKind.u64 i0), (2, V.int IntKind.u64 i1), (6, V.sl (some true) true 0 []), (7, V.ref 0), (8, V.bool true), (13, V.bool false), (16, V.sl o0 b0 n0 x0), (17, V.int IntKind.i64 (↑x0.length : Int)), (18, V.int IntKind.i64 (IntKind.i64.wrap (i2 + 1)))], hp := [(0, Ob.row false 1 (x1 ++ [V.int IntKind.u64 i0]))], nx := 1 } := by kernel_rfl
theorem L112_15_b2 (i0 : Int) (i1 : Int) (i2 : Int) (i3 : Int) (b0 : Bool) (b1 : Bool) (x0 : List V) (x1 : List V) (o0 : Option Bool) (n0 : Nat) (k : Nat)
    (c0 : decide (i2 < (↑x0.length : Int)) = true)
    (c1 : IdxP x0 i2 n0 1 (V.int IntKind.u64 i3))
    (c2 : decide (i0 ≤ i3) = true)
    (c3 : (!b1) = false)
    (c4 : (!decide (i3 = i0)) = true)
    (c5 : GrdW ((1 : Nat) = (1 : Nat) ∧ (0 : Nat) < (1 : Nat) ∧ (8 : Nat) ≤ (64 : Nat) ∧ x1.length + (1 : Nat) ≤ maxLen') (V.ref (69 : Nat)) [((0 : Nat), Ob.dead), ((69 : Nat), Ob.row false (1 : Nat) (x1 ++ [V.int IntKind.u64 i3]))]) :
    evalCode Try.prog Try.cfg (evalFn Try.prog Try.cfg (k + 2)) 0 (Try.cfg.fc 112) (k + 2) (loopBody Try.f112 0) { tm := [(0, V.sl o0 b0 n0 x0), (1, V.int IntKind.u64 i0), (2, V.int IntKind.u64 i1), (6, V.sl (some true) true 0 []), (7, V.ref 0), (8, V.bool b1), (13, V.bool false), (16, V.sl o0 b0 n0 x0), (17, V.int IntKind.i64 (↑x0.length : Int)), (18, V.int IntKind.i64 i2)], hp := [(0, Ob.row false 1 x1)], nx := 1 } = some (Exit.normal, { tm := [(0, V.sl o0 b0 n0 x0), (1, V.int IntKind.u64 i0), (2, V.int IntKind.u64 i1), (6, V.sl (some true) true 0 []), (7, V.ref 69), (8, V.bool b1), (10, V.int IntKind.u64 i3), (13, V.bool false), (16, V.sl o0 b0 n0 x0), (17, V.int IntKind.i64 (↑x0.length : Int)), (18, V.int IntKind.i64 (IntKind.i64.wrap (i2 + 1))), (19, V.bool true), (28, V.bool false), (35, V.bool true)], hp := [(0, Ob.dead), (65, Ob.row false 1 [V.int IntKind.u64 i3]), (69, Ob.row false 1 (x1 ++ [V.int IntKind.u64 i3]))], nx := 85 }) :=
  byL (k := k) (d := 2) [Hn.br 19 true, Hn.op 20 ((V.int IntKind.u64 i3).cpt 0) [], Hn.br 25 true, Hn.br 28 false, Hn.br 35 true, Hn.op 39 (V.ref 69) [(0, Ob.dead), (69, Ob.row false 1 (x1 ++ [V.int IntKind.u64 i3]))]] (And.intro c0 (And.intro c1 (And.intro c2 (And.intro c3 (And.intro c4 (And.intro c5 trivial)))))) (by kernel_rfl)
theorem L112_15_b2h (i0 : Int) (i1 : Int) (i2 : Int) (i3 : Int) (b0 : Bool) (b1 : Bool) (x0 : List V) (x1 : List V) (o0 : Option Bool) (n0 : Nat) : head 0 [0, 1, 2, 6, 7, 8, 13, 16, 17, 18] (Try.cfg.fc 112).acc { tm := [(0, V.sl o0 b0 n0 x0), (1, V.int IntKind.u64 i0), (2, V.int IntKind.u64 i1), (6, V.sl (some true) true 0 []), (7, V.ref 69), (8, V.bool b1), (10, V.int IntKind.u64 i3), (13, V.bool false), (16, V.sl o0 b0 n0 x0), (17, V.int IntKind.i64 (↑x0.length : Int)), (18, V.int IntKind.i64 (IntKind.i64.wrap (i2 + 1))), (19, V.bool true), (28, V.bool false), (35, V.bool true)], hp := [(0, Ob.dead), (65, Ob.row false 1 [V.int IntKind.u64 i3]), (69, Ob.row false 1 (x1 ++ [V.int IntKind.u64 i3]))], nx := 85 } = { tm := [(0, V.sl o0 b0 n0 x0), (1, V.int IntKind.u64 i0), (2, V.int IntKind.u64 i1), (6, V.sl (some true) true 0 []), (7, V.ref 0), (8, V.bool b1), (13, V.bool false), (16, V.sl o0 b0 n0 x0), (17, V.int IntKind.i64 (↑x0.length : Int)), (18, V.int IntKind.i64 (IntKind.i64.wrap (i2 + 1)))], hp := [(0, Ob.row false 1 (x1 ++ [V.int IntKind.u64 i3]))], nx := 1 } := by kernel_rfl
theorem L112_15_b3 (i0 : Int) (i1 : Int) (i2 : Int) (i3 : Int) (b0 : Bool) (b1 : Bool) (x0 : List V) (x1 : List V) (o0 : Option Bool) (n0 : Nat) (k : Nat)
    (c0 : decide (i2 < (↑x0.length : Int)) = true)
    (c1 : IdxP x0 i2 n0 1 (V.int IntKind.u64 i3))
    (c2 : decide (i0 ≤ i3) = true)
    (c3 : (!b1) = false)
    (c4 : (!decide (i3 = i0)) = false) :
    evalCode Try.prog Try.cfg (evalFn Try.prog Try.cfg (k + 2)) 0 (Try.cfg.fc 112) (k + 2) (loopBody Try.f112 0) { tm := [(0, V.sl o0 b0 n0 x0), (1, V.int IntKind.u64 i0), (2, V.int IntKind.u64 i1), (6, V.sl (some true) true 0 []), (7, V.ref 0), (8, V.bool b1), (13, V.bool false), (16, V.sl o0 b0 n0 x0), (17, V.int IntKind.i64 (↑x0.length : Int)), (18, V.int IntKind.i64 i2)], hp := [(0, Ob.row false 1 x1)], nx := 1 } = some (Exit.normal, { tm := [(0, V.sl o0 b0 n0 x0), (1, V.int IntKind.u64 i0), (2, V.int IntKind.u64 i1), (6, V.sl (some true) true 0 []), (7, V.ref 0), (8, V.bool b1), (10, V.int IntKind.u64 i3), (13, V.bool false), (16, V.sl o0 b0 n0 x0), (17, V.int IntKind.i64 (↑x0.length : Int)), (18, V.int IntKind.i64 (IntKind.i64.wrap (i2 + 1))), (19, V.bool true), (28, V.bool false), (35, V.bool false)], hp := [(0, Ob.row false 1 x1)], nx := 65 }) :=
  byL (k := k) (d := 2) [Hn.br 19 true, Hn.op 20 ((V.int IntKind.u64 i3).cpt 0) [], Hn.br 25 true, Hn.br 28 false, Hn.br 35 false] (And.intro c0 (And.intro c1 (And.intro c2 (And.intro c3 (And.intro c4 trivial))))) (by kernel_rfl)
theorem L112_15_b3h (i0 : Int) (i1 : Int) (i2 : Int) (i3 : Int) (b0 : Bool) (b1 : Bool) (x0 : List V) (x1 : List V) (o0 : Option Bool) (n0 : Nat) : head 0 [0, 1, 2, 6, 7, 8, 13, 16, 17, 18] (Try.cfg.fc 112).acc { tm := [(0, V.sl o0 b0 n0 x0), (1, V.int IntKind.u64 i0), (2, V.int IntKind.u64 i1), (6, V.sl (some true) true 0 []), (7, V.ref 0), (8, V.bool b1), (10, V.int IntKind.u64 i3), (13, V.bool false), (16, V.sl o0 b0 n0 x0), (17, V.int IntKind.i64 (↑x0.length : Int)), (18, V.int IntKind.i64 (IntKind.i64.wrap (i2 + 1))), (19, V.bool true), (28, V.bool false), (35, V.bool false)], hp := [(0, Ob.row false 1 x1)], nx := 65 } = { tm := [(0, V.sl o0 b0 n0 x0), (1, V.int IntKind.u64 i0), (2, V.int IntKind.u64 i1), (6, V.sl (some true) true 0 []), (7, V.ref 0), (8, V.bool b1), (13, V.bool false), (16, V.sl o0 b0 n0 x0), (17, V.int IntKind.i64 (↑x0.length : Int)), (18, V.int IntKind.i64 (IntKind.i64.wrap (i2 + 1)))], hp := [(0, Ob.row false 1 x1)], nx := 1 } := by kernel_rfl
theorem L112_15_b4 (i0 : Int) (i1 : Int) (i2 : Int) (i3 : Int) (b0 : Bool) (b1 : Bool) (x0 : List V) (x1 : List V) (o0 : Option Bool) (n0 : Nat) (k : Nat)
    (c0 : decide (i2 < (↑x0.length : Int)) = true)
    (c1 : IdxP x0 i2 n0 1 (V.int IntKind.u64 i3))
    (c2 : decide (i0 ≤ i3) = false)
    (c3 : (!decide (i3 = i0)) = true)
    (c4 : GrdW ((1 : Nat) = (1 : Nat) ∧ (0 : Nat) < (1 : Nat) ∧ (8 : Nat) ≤ (64 : Nat) ∧ x1.length + (1 : Nat) ≤ maxLen') (V.ref (69 : Nat)) [((0 : Nat), Ob.dead), ((69 : Nat), Ob.row false (1 : Nat) (x1 ++ [V.int IntKind.u64 i3]))]) :
    evalCode Try.prog Try.cfg (evalFn Try.prog Try.cfg (k + 2)) 0 (Try.cfg.fc 112) (k + 2) (loopBody Try.f112 0) { tm := [(0, V.sl o0 b0 n0 x0), (1, V.int IntKind.u64 i0), (2, V.int IntKind.u64 i1), (6, V.sl (some true) true 0 []), (7, V.ref 0), (8, V.bool b1), (13, V.bool false), (16, V.sl o0 b0 n0 x0), (17, V.int IntKind.i64 (↑x0.length : Int)), (18, V.int IntKind.i64 i2)], hp := [(0, Ob.row false 1 x1)], nx := 1 } = some (Exit.normal, { tm := [(0, V.sl o0 b0 n0 x0), (1, V.int IntKind.u64 i0), (2, V.int IntKind.u64 i1), (6, V.sl (some true) true 0 []), (7, V.ref 69), (8, V.bool b1), (10, V.int IntKind.u64 i3), (13, V.bool false), (16, V.sl o0 b0 n0 x0), (17, V.int IntKind.i64 (↑x0.length : Int)), (18, V.int IntKind.i64 (IntKind.i64.wrap (i2 + 1))), (19, V.bool true), (28, V.bool false), (35, V.bool true)], hp := [(0, Ob.dead), (65, Ob.row false 1 [V.int IntKind.u64 i3]), (69, Ob.row false 1 (x1 ++ [V.int IntKind.u64 i3]))], nx := 85 }) :=
  byL (k := k) (d := 2) [Hn.br 19 true, Hn.op 20 ((V.int IntKind.u64 i3).cpt 0) [], Hn.br 25 false, Hn.br 35 true, Hn.op 39 (V.ref 69) [(0, Ob.dead), (69, Ob.row false 1 (x1 ++ [V.int IntKind.u64 i3]))]] (And.intro c0 (And.intro c1 (And.intro c2 (And.intro c3 (And.intro c4 trivial))))) (by kernel_rfl)
theorem L112_15_b4h (i0 : Int) (i1 : Int) (i2 : Int) (i3 : Int) (b0 : Bool) (b1 : Bool) (x0 : List V) (x1 : List V) (o0 : Option Bool) (n0 : Nat) : head 0 [0, 1, 2, 6, 7, 8, 13, 16, 17, 18] (Try.cfg.fc 112).acc { tm := [(0, V.sl o0 b0 n0 x0), (1, V.int IntKind.u64 i0), (2, V.int IntKind.u64 i1), (6, V.sl (some true) true 0 []), (7, V.ref 69), (8, V.bool b1), (10, V.int IntKind.u64 i3), (13, V.bool false), (16, V.sl o0 b0 n0 x0), (17, V.int IntKind.i64 (↑x0.length : Int)), (18, V.int IntKind.i64 (IntKind.i64.wrap (i2 + 1))), (19, V.bool true), (28, V.bool false), (35, V.bool true)], hp := [(0, Ob.dead), (65, Ob.row false 1 [V.int IntKind.u64 i3]), (69, Ob.row false 1 (x1 ++ [V.int IntKind.u64 i3]))], nx := 85 } = { tm := [(0, V.sl o0 b0 n0 x0), (1, V.int IntKind.u64 i0), (2, V.int IntKind.u64 i1), (6, V.sl (some true) true 0 []), (7, V.ref 0), (8, V.bool b1), (13, V.bool false), (16, V.sl o0 b0 n0 x0), (17, V.int IntKind.i64 (↑x0.length : Int)), (18, V.int IntKind.i64 (IntKind.i64.wrap (i2 + 1)))], hp := [(0, Ob.row false 1 (x1 ++ [V.int IntKind.u64 i3]))], nx := 1 } := by kernel_rfl
theorem L112_15_b5 (i0 : Int) (i1 : Int) (i2 : Int) (i3 : Int) (b0 : Bool) (b1 : Bool) (x0 : List V) (x1 : List V) (o0 : Option Bool) (n0 : Nat) (k : Nat)
    (c0 : decide (i2 < (↑x0.length : Int)) = true)
    (c1 : IdxP x0 i2 n0 1 (V.int IntKind.u64 i3))
    (c2 : decide (i0 ≤ i3) = false)
    (c3 : (!decide (i3 = i0)) = false) :
    evalCode Try.prog Try.cfg (evalFn Try.prog Try.cfg (k + 2)) 0 (Try.cfg.fc 112) (k + 2) (loopBody Try.f112 0) { tm := [(0, V.sl o0 b0 n0 x0), (1, V.int IntKind.u64 i0), (2, V.int IntKind.u64 i1), (6, V.sl (some true) true 0 []), (7, V.ref 0), (8, V.bool b1), (13, V.bool false), (16, V.sl o0 b0 n0 x0), (17, V.int IntKind.i64 (↑x0.length : Int)), (18, V.int IntKind.i64 i2)], hp := [(0, Ob.row false 1 x1)], nx := 1 } = some (Exit.normal, { tm := [(0, V.sl o0 b0 n0 x0), (1, V.int IntKind.u64 i0), (2, V.int IntKind.u64 i1), (6, V.sl (some true) true 0 []), (7, V.ref 0), (8, V.bool b1), (10, V.int IntKind.u64 i3), (13, V.bool false), (16, V.sl o0 b0 n0 x0), (17, V.int IntKind.i64 (↑x0.length : Int)), (18, V.int IntKind.i64 (IntKind.i64.wrap (i2 + 1))), (19, V.bool true), (28, V.bool false), (35, V.bool false)], hp := [(0, Ob.row false 1 x1)], nx := 65 }) :=
  byL (k := k) (d := 2) [Hn.br 19 true, Hn.op 20 ((V.int IntKind.u64 i3).cpt 0) [], Hn.br 25 false, Hn.br 35 false] (And.intro c0 (And.intro c1 (And.intro c2 (And.intro c3 trivial)))) (by kernel_rfl)
theorem L112_15_b5h (i0 : Int) (i1 : Int) (i2 : Int) (i3 : Int) (b0 : Bool) (b1 : Bool) (x0 : List V) (x1 : List V) (o0 : Option Bool) (n0 : Nat) : head 0 [0, 1, 2, 6, 7, 8, 13, 16, 17, 18] (Try.cfg.fc 112).acc { tm := [(0, V.sl o0 b0 n0 x0), (1, V.int IntKind.u64 i0), (2, V.int IntKind.u64 i1), (6, V.sl (some true) true 0 []), (7, V.ref 0), (8, V.bool b1), (10, V.int IntKind.u64 i3), (13, V.bool false), (16, V.sl o0 b0 n0 x0), (17, V.int IntKind.i64 (↑x0.length : Int)), (18, V.int IntKind.i64 (IntKind.i64.wrap (i2 + 1))), (19, V.bool true), (28, V.bool false), (35, V.bool false)], hp := [(0, Ob.row false 1 x1)], nx := 65 } = { tm := [(0, V.sl o0 b0 n0 x0), (1, V.int IntKind.u64 i0), (2, V.int IntKind.u64 i1), (6, V.sl (some true) true 0 []), (7, V.ref 0), (8, V.bool b1), (13, V.bool false), (16, V.sl o0 b0 n0 x0), (17, V.int IntKind.i64 (↑x0.length : Int)), (18, V.int IntKind.i64 (IntKind.i64.wrap (i2 + 1)))], hp := [(0, Ob.row false 1 x1)], nx := 1 } := by kernel_rfl
theorem L112_15_b6 (i0 : Int) (i1 : Int) (i2 : Int) (b0 : Bool) (b1 : Bool) (x0 : List V) (x1 : List V) (o0 : Option Bool) (n0 : Nat) (k : Nat)
    (c0 : decide (i2 < (↑x0.length : Int)) = false) :
    evalCode Try.prog Try.cfg (evalFn Try.prog Try.cfg (k + 2)) 0 (Try.cfg.fc 112) (k + 2) (loopBody Try.f112 0) { tm := [(0, V.sl o0 b0 n0 x0), (1, V.int IntKind.u64 i0), (2, V.int IntKind.u64 i1), (6, V.sl (some true) true 0 []), (7, V.ref 0), (8, V.bool b1), (13, V.bool false), (16, V.sl o0 b0 n0 x0), (17, V.int IntKind.i64 (↑x0.length : Int)), (18, V.int IntKind.i64 i2)], hp := [(0, Ob.row false 1 x1)], nx := 1 } = some (Exit.exit 0, { tm := [(0, V.sl o0 b0 n0 x0), (1, V.int IntKind.u64 i0), (2, V.int IntKind.u64 i1), (6, V.sl (some true) true 0 []), (7, V.ref 0), (8, V.bool b1), (13, V.bool false), (16, V.sl o0 b0 n0 x0), (17, V.int IntKind.i64 (↑x0.length : Int)), (18, V.int IntKind.i64 i2), (19, V.bool false)], hp := [(0, Ob.row false 1 x1)], nx := 5 }) :=
  byL (k := k) (d := 2) [Hn.br 19 false] (And.intro c0 trivial) (by kernel_rfl)
inductive L112_15_R where
  | e0 (i2 : Int) (b1 : Bool) (x1 : List V)
noncomputable def L112_15_end (i0 : Int) (i1 : Int) (b0 : Bool) (x0 : List V) (o0 : Option Bool) (n0 : Nat) : L112_15_R → Exit × St
  | .e0 i2 b1 x1 => (Exit.exit 0, { tm := [(0, V.sl o0 b0 n0 x0), (1, V.int IntKind.u64 i0), (2, V.int IntKind.u64 i1), (6, V.sl (some true) true 0 []), (7, V.ref 0), (8, V.bool b1), (13, V.bool false), (16, V.sl o0 b0 n0 x0), (17, V.int IntKind.i64 (↑x0.length : Int)), (18, V.int IntKind.i64 i2), (19, V.bool false)], hp := [(0, Ob.row false 1 x1)], nx := 5 })
def L112_15 (k : Nat) (i0 : Int) (i1 : Int) (b0 : Bool) (x0 : List V) (o0 : Option Bool) (n0 : Nat) : Nat → Bool → Int → List V → Option L112_15_R
  | 0, _, _, _ => none
  | f + 1, b1, i2, x1 => (bif decide (i2 < (↑x0.length : Int)) then (guardP (n0 = (1 : Nat)) (((at? (x0) (i2)).bind (dI IntKind.u64)).bind fun i3 => (bif decide (i0 ≤ i3) then (bif !b1 then (guardP (x1.length + (1 : Nat) ≤ maxLen') (bif !decide (i3 = i0) then (guardP ((x1 ++ [V.int IntKind.u64 i0]).length + (1 : Nat) ≤ maxLen') (L112_15 k i0 i1 b0 x0 o0 n0 f (true) (IntKind.i64.wrap (i2 + 1)) (x1 ++ [V.int IntKind.u64 i0] ++ [V.int IntKind.u64 i3]))) else (L112_15 k i0 i1 b0 x0 o0 n0 f (true) (IntKind.i64.wrap (i2 + 1)) (x1 ++ [V.int IntKind.u64 i0])))) else (bif !decide (i3 = i0) then (guardP (x1.length + (1 : Nat) ≤ maxLen') (L112_15 k i0 i1 b0 x0 o0 n0 f (b1) (IntKind.i64.wrap (i2 + 1)) (x1 ++ [V.int IntKind.u64 i3]))) else (L112_15 k i0 i1 b0 x0 o0 n0 f (b1) (IntKind.i64.wrap (i2 + 1)) (x1)))) else (bif !decide (i3 = i0) then (guardP (x1.length + (1 : Nat) ≤ maxLen') (L112_15 k i0 i1 b0 x0 o0 n0 f (b1) (IntKind.i64.wrap (i2 + 1)) (x1 ++ [V.int IntKind.u64 i3]))) else (L112_15 k i0 i1 b0 x0 o0 n0 f (b1) (IntKind.i64.wrap (i2 + 1)) (x1)))))) else (some (L112_15_R.e0 i2 b1 x1)))
theorem L112_15_ok {i0 : Int} {i1 : Int} {b0 : Bool} {x0 : List V} {o0 : Option Bool} {n0 : Nat} {k : Nat} : ∀ {f : Nat} {b1 : Bool} {i2 : Int} {x1 : List V} {r : L112_15_R}, L112_15 k i0 i1 b0 x0 o0 n0 f b1 i2 x1 = some r →
    LoopsN Try.prog Try.cfg (k + 2) 0 Try.f112 (Try.cfg.fc 112) 0 [0, 1, 2, 6, 7, 8, 13, 16, 17, 18] f { tm := [(0, V.sl o0 b0 n0 x0), (1, V.int IntKind.u64 i0), (2, V.int IntKind.u64 i1), (6, V.sl (some true) true 0 []), (7, V.ref 0), (8, V.bool b1), (13, V.bool false), (16, V.sl o0 b0 n0 x0), (17, V.int IntKind.i64 (↑x0.length : Int)), (18, V.int IntKind.i64 i2)], hp := [(0, Ob.row false 1 x1)], nx := 1 } (L112_15_end i0 i1 b0 x0 o0 n0 r) := by
  intro f
  induction f with
  | zero => intro b1 i2 x1 r h; cases h
  | succ f ih =>
    intro b1 i2 x1 r h
    rw [L112_15] at h
    rcases cond_elim h with ⟨e0, h⟩ | ⟨e0, h⟩
    ·
      obtain ⟨e1, h⟩ := guardP_some.1 h
      obtain ⟨i3, e2, h⟩ := Option.bind_eq_some_iff.1 h
      rcases cond_elim h with ⟨e3, h⟩ | ⟨e3, h⟩
      ·
        rcases cond_elim h with ⟨e4, h⟩ | ⟨e4, h⟩
        ·
          obtain ⟨e5, h⟩ := guardP_some.1 h
          rcases cond_elim h with ⟨e6, h⟩ | ⟨e6, h⟩
          ·
            obtain ⟨e7, h⟩ := guardP_some.1 h
            exact LoopsN.next (L112_15_b0 i0 i1 i2 i3 b0 b1 x0 x1 o0 n0 k e0 (IdxP.of_at' (at_d dI_ok e2 :) e1) e3 e4 (GrdW.mk ⟨rfl, by decide, by decide, e5⟩) e6 (GrdW.mk ⟨rfl, by decide, by decide, e7⟩)) (L112_15_b0h i0 i1 i2 i3 b0 x0 x1 o0 n0) (ih h)
          ·
            exact LoopsN.next (L112_15_b1 i0 i1 i2 i3 b0 b1 x0 x1 o0 n0 k e0 (IdxP.of_at' (at_d dI_ok e2 :) e1) e3 e4 (GrdW.mk ⟨rfl, by decide, by decide, e5⟩) e6) (L112_15_b1h i0 i1 i2 i3 b0 x0 x1 o0 n0) (ih h)
        ·
          rcases cond_elim h with ⟨e5, h⟩ | ⟨e5, h⟩
          ·
            obtain ⟨e6, h⟩ := guardP_some.1 h
            exact LoopsN.next (L112_15_b2 i0 i1 i2 i3 b0 b1 x0 x1 o0 n0 k e0 (IdxP.of_at' (at_d dI_ok e2 :) e1) e3 e4 e5 (GrdW.mk ⟨rfl, by decide, by decide, e6⟩)) (L112_15_b2h i0 i1 i2 i3 b0 b1 x0 x1 o0 n0) (ih h)
          ·
            exact LoopsN.next (L112_15_b3 i0 i1 i2 i3 b0 b1 x0 x1 o0 n0 k e0 (IdxP.of_at' (at_d dI_ok e2 :) e1) e3 e4 e5) (L112_15_b3h i0 i1 i2 i3 b0 b1 x0 x1 o0 n0) (ih h)
      ·
        rcases cond_elim h with ⟨e4, h⟩ | ⟨e4, h⟩
        ·
          obtain ⟨e5, h⟩ := guardP_some.1 h
          exact LoopsN.next (L112_15_b4 i0 i1 i2 i3 b0 b1 x0 x1 o0 n0 k e0 (IdxP.of_at' (at_d dI_ok e2 :) e1) e3 e4 (GrdW.mk ⟨rfl, by decide, by decide, e5⟩)) (L112_15_b4h i0 i1 i2 i3 b0 b1 x0 x1 o0 n0) (ih h)
        ·
          exact LoopsN.next (L112_15_b5 i0 i1 i2 i3 b0 b1 x0 x1 o0 n0 k e0 (IdxP.of_at' (at_d dI_ok e2 :) e1) e3 e4) (L112_15_b5h i0 i1 i2 i3 b0 b1 x0 x1 o0 n0) (ih h)
    ·
      cases h; exact LoopsN.done (L112_15_b6 i0 i1 i2 b0 b1 x0 x1 o0 n0 k e0) (fun h => by cases h)
theorem P112_0 (i0 : Int) (i1 : Int) (b0 : Bool) (x0 : List V) (o0 : Option Bool) (n0 : Nat) (k : Nat)
    (c0 : decide (i1 ≤ i0) = true) :
    callP (evalFn Try.prog Try.cfg (k + 3)) 112 [V.sl o0 b0 n0 x0, V.int IntKind.u64 i0, V.int IntKind.u64 i1] = some (V.sl o0 b0 n0 x0) :=
  byF (k := k) (d := 3) [Hn.br 13 true] (And.intro c0 trivial) (by kernel_rfl)
theorem P112_1 (i0 : Int) (i1 : Int) (i2 : Int) (b0 : Bool) (b1 : Bool) (x0 : List V) (x1 : List V) (o0 : Option Bool) (n0 : Nat) (k : Nat)
    (c0 : decide (i1 ≤ i0) = false)
    (c1 : LoopsN Try.prog Try.cfg (k + 2) 0 Try.f112 (Try.cfg.fc 112) 0 [0, 1, 2, 6, 7, 8, 13, 16, 17, 18] (k + 2) { tm := [(0, V.sl o0 b0 n0 x0), (1, V.int IntKind.u64 i0), (2, V.int IntKind.u64 i1), (6, V.sl (some true) true 0 []), (7, V.ref 0), (8, V.bool false), (13, V.bool false), (16, V.sl o0 b0 n0 x0), (17, V.int IntKind.i64 (↑x0.length : Int)), (18, V.int IntKind.i64 0)], hp := [(0, Ob.row false 1 [])], nx := 1 } (Exit.exit 0, { tm := [(0, V.sl o0 b0 n0 x0), (1, V.int IntKind.u64 i0), (2, V.int IntKind.u64 i1), (6, V.sl (some true) true 0 []), (7, V.ref 0), (8, V.bool b1), (13, V.bool false), (16, V.sl o0 b0 n0 x0), (17, V.int IntKind.i64 (↑x0.length : Int)), (18, V.int IntKind.i64 i2), (19, V.bool false)], hp := [(0, Ob.row false 1 x1)], nx := 5 }))
    (c2 : (!b1) = true)
    (c3 : GrdW ((1 : Nat) = (1 : Nat) ∧ (0 : Nat) < (1 : Nat) ∧ (8 : Nat) ≤ (64 : Nat) ∧ x1.length + (1 : Nat) ≤ maxLen') (V.ref (25 : Nat)) [((0 : Nat), Ob.dead), ((25 : Nat), Ob.row false (1 : Nat) (x1 ++ [V.int IntKind.u64 i0]))]) :
    callP (evalFn Try.prog Try.cfg (k + 3)) 112 [V.sl o0 b0 n0 x0, V.int IntKind.u64 i0, V.int IntKind.u64 i1] = some (V.sl none false 1 (x1 ++ [V.int IntKind.u64 i0])) :=
  byF (k := k) (d := 3) [Hn.br 13 false, Hn.loop (Exit.exit 0, { tm := [(0, V.sl o0 b0 n0 x0), (1, V.int IntKind.u64 i0), (2, V.int IntKind.u64 i1), (6, V.sl (some true) true 0 []), (7, V.ref 0), (8, V.bool b1), (13, V.bool false), (16, V.sl o0 b0 n0 x0), (17, V.int IntKind.i64 (↑x0.length : Int)), (18, V.int IntKind.i64 i2), (19, V.bool false)], hp := [(0, Ob.row false 1 x1)], nx := 5 }), Hn.br 42 true, Hn.op 46 (V.ref 25) [(0, Ob.dead), (25, Ob.row false 1 (x1 ++ [V.int IntKind.u64 i0]))]] (And.intro c0 (And.intro c1 (And.intro c2 (And.intro c3 trivial)))) (by kernel_rfl)
theorem P112_2 (i0 : Int) (i1 : Int) (i2 : Int) (b0 : Bool) (b1 : Bool) (x0 : List V) (x1 : List V) (o0 : Option Bool) (n0 : Nat) (k : Nat)
    (c0 : decide (i1 ≤ i0) = false)
    (c1 : LoopsN Try.prog Try.cfg (k + 2) 0 Try.f112 (Try.cfg.fc 112) 0 [0, 1, 2, 6, 7, 8, 13, 16, 17, 18] (k + 2) { tm := [(0, V.sl o0 b0 n0 x0), (1, V.int IntKind.u64 i0), (2, V.int IntKind.u64 i1), (6, V.sl (some true) true 0 []), (7, V.ref 0), (8, V.bool false), (13, V.bool false), (16, V.sl o0 b0 n0 x0), (17, V.int IntKind.i64 (↑x0.length : Int)), (18, V.int IntKind.i64 0)], hp := [(0, Ob.row false 1 [])], nx := 1 } (Exit.exit 0, { tm := [(0, V.sl o0 b0 n0 x0), (1, V.int IntKind.u64 i0), (2, V.int IntKind.u64 i1), (6, V.sl (some true) true 0 []), (7, V.ref 0), (8, V.bool b1), (13, V.bool false), (16, V.sl o0 b0 n0 x0), (17, V.int IntKind.i64 (↑x0.length : Int)), (18, V.int IntKind.i64 i2), (19, V.bool false)], hp := [(0, Ob.row false 1 x1)], nx := 5 }))
    (c2 : (!b1) = false) :
    callP (evalFn Try.prog Try.cfg (k + 3)) 112 [V.sl o0 b0 n0 x0, V.int IntKind.u64 i0, V.int IntKind.u64 i1] = some (V.sl none false 1 x1) :=
  byF (k := k) (d := 3) [Hn.br 13 false, Hn.loop (Exit.exit 0, { tm := [(0, V.sl o0 b0 n0 x0), (1, V.int IntKind.u64 i0), (2, V.int IntKind.u64 i1), (6, V.sl (some true) true 0 []), (7, V.ref 0), (8, V.bool b1), (13, V.bool false), (16, V.sl o0 b0 n0 x0), (17, V.int IntKind.i64 (↑x0.length : Int)), (18, V.int IntKind.i64 i2), (19, V.bool false)], hp := [(0, Ob.row false 1 x1)], nx := 5 }), Hn.br 42 false] (And.intro c0 (And.intro c1 (And.intro c2 trivial))) (by kernel_rfl)
def F112 (k : Nat) (o0 : Option Bool) (b0 : Bool) (n0 : Nat) (x0 : List V) (i0 : Int) (i1 : Int) : Option (Option Bool × Bool × Nat × List V) :=
  (bif decide (i1 ≤ i0) then (some ((o0), (b0), (n0), (x0))) else ((L112_15 k i0 i1 b0 x0 o0 n0 (k + 2) (false) (0) ([])).bind fun
    | L112_15_R.e0 i2 b1 x1 => (bif !b1 then (guardP (x1.length + (1 : Nat) ≤ maxLen') (some ((none), (false), (1), (x1 ++ [V.int IntKind.u64 i0])))) else (some ((none), (false), (1), (x1))))))
theorem F112_ok {o0 : Option Bool} {b0 : Bool} {n0 : Nat} {x0 : List V} {i0 : Int} {i1 : Int} {k : Nat} {r : Option Bool × Bool × Nat × List V} (h : F112 k o0 b0 n0 x0 i0 i1 = some r) :
    callP (evalFn Try.prog Try.cfg (k + 3)) 112 [V.sl o0 b0 n0 x0, V.int IntKind.u64 i0, V.int IntKind.u64 i1] = some (V.sl r.1 r.2.1 r.2.2.1 r.2.2.2) := by
  unfold F112 at h
  rcases cond_elim h with ⟨e0, h⟩ | ⟨e0, h⟩
  ·
    have h := Option.some.inj h; subst h; exact P112_0 i0 i1 b0 x0 o0 n0 k e0
  ·
    obtain ⟨ee, e1, h⟩ := Option.bind_eq_some_iff.1 h
    cases ee with
    | e0 i2 b1 x1 =>
      rcases cond_elim h with ⟨e2, h⟩ | ⟨e2, h⟩
      ·
        obtain ⟨e3, h⟩ := guardP_some.1 h
        have h := Option.some.inj h; subst h; exact P112_1 i0 i1 i2 b0 b1 x0 x1 o0 n0 k e0 (L112_15_ok e1) e2 (GrdW.mk ⟨rfl, by decide, by decide, e3⟩)
      ·
        have h := Option.some.inj h; subst h; exact P112_2 i0 i1 i2 b0 b1 x0 x1 o0 n0 k e0 (L112_15_ok e1) e2
theorem P114_0 (i0 : Int) (i1 : Int) (i2 : Int) (i3 : Int) (b0 : Bool) (x0 : List V) (o0 : Option Bool) (n0 : Nat) (k : Nat)
    (c0 : decide (i0 ≤ i3) = true)
    (c1 : decide (IntKind.u64.wrap (i3 - i0) < i1) = true) :
    callP (evalFn Try.prog Try.cfg (k + 6)) 114 [V.sl o0 b0 n0 x0, V.agg [V.int IntKind.u64 i0, V.int IntKind.u64 i1], V.int IntKind.i64 i2, V.int IntKind.u64 i3] = some (V.int IntKind.i64 i2) :=
  byF (k := k) (d := 6) [Hn.br 13 true, Hn.br 21 true] (And.intro c0 (And.intro c1 trivial)) (by kernel_rfl)
theorem P114_1 (i0 : Int) (i1 : Int) (i2 : Int) (i3 : Int) (i4 : Int) (b0 : Bool) (x0 : List V) (o0 : Option Bool) (n0 : Nat) (k : Nat)
    (c0 : decide (i0 ≤ i3) = true)
    (c1 : decide (IntKind.u64.wrap (i3 - i0) < i1) = false)
    (c2 : callP (evalFn Try.prog Try.cfg (k + 5)) 49 [V.sl o0 b0 n0 x0, V.int IntKind.u64 i3] = some (V.int IntKind.i64 i4)) :
    callP (evalFn Try.prog Try.cfg (k + 6)) 114 [V.sl o0 b0 n0 x0, V.agg [V.int IntKind.u64 i0, V.int IntKind.u64 i1], V.int IntKind.i64 i2, V.int IntKind.u64 i3] = some (V.int IntKind.i64 i4) :=
  byF (k := k) (d := 6) [Hn.br 13 true, Hn.br 21 false, Hn.call 25 (V.int IntKind.i64 i4)] (And.intro c0 (And.intro c1 (And.intro c2 trivial))) (by kernel_rfl)
theorem P114_2 (i0 : Int) (i1 : Int) (i2 : Int) (i3 : Int) (i4 : Int) (b0 : Bool) (x0 : List V) (o0 : Option Bool) (n0 : Nat) (k : Nat)
    (c0 : decide (i0 ≤ i3) = false)
    (c1 : callP (evalFn Try.prog Try.cfg (k + 5)) 49 [V.sl o0 b0 n0 x0, V.int IntKind.u64 i3] = some (V.int IntKind.i64 i4)) :
    callP (evalFn Try.prog Try.cfg (k + 6)) 114 [V.sl o0 b0 n0 x0, V.agg [V.int IntKind.u64 i0, V.int IntKind.u64 i1], V.int IntKind.i64 i2, V.int IntKind.u64 i3] = some (V.int IntKind.i64 i4) :=
  byF (k := k) (d := 6) [Hn.br 13 false, Hn.call 25 (V.int IntKind.i64 i4)] (And.intro c0 (And.intro c1 trivial)) (by kernel_rfl)
def F114 (k : Nat) (o0 : Option Bool) (b0 : Bool) (n0 : Nat) (x0 : List V) (i0 : Int) (i1 : Int) (i2 : Int) (i3 : Int) : Option (Int) :=
  (bif decide (i0 ≤ i3) then (bif decide (IntKind.u64.wrap (i3 - i0) < i1) then (some (i2)) else ((F49 (k + 2) (o0) (b0) (n0) (x0) (i3)).bind fun i4 => (some (i4)))) else ((F49 (k + 2) (o0) (b0) (n0) (x0) (i3)).bind fun i4 => (some (i4))))
theorem F114_ok {o0 : Option Bool} {b0 : Bool} {n0 : Nat} {x0 : List V} {i0 : Int} {i1 : Int} {i2 : Int} {i3 : Int} {k : Nat} {r : Int} (h : F114 k o0 b0 n0 x0 i0 i1 i2 i3 = some r) :
    callP (evalFn Try.prog Try.cfg (k + 6)) 114 [V.sl o0 b0 n0 x0, V.agg [V.int IntKind.u64 i0, V.int IntKind.u64 i1], V.int IntKind.i64 i2, V.int IntKind.u64 i3] = some (V.int IntKind.i64 r) := by
  unfold F114 at h
  rcases cond_elim h with ⟨e0, h⟩ | ⟨e0, h⟩
  ·
    rcases cond_elim h with ⟨e1, h⟩ | ⟨e1, h⟩
    ·
      have h := Option.some.inj h; subst h; exact P114_0 i0 i1 i2 i3 b0 x0 o0 n0 k e0 e1
    ·
      obtain ⟨i4, e2, h⟩ := Option.bind_eq_some_iff.1 h
      have h := Option.some.inj h; subst h; exact P114_1 i0 i1 i2 i3 i4 b0 x0 o0 n0 k e0 e1 (F49_ok e2)
  ·
    obtain ⟨i4, e1, h⟩ := Option.bind_eq_some_iff.1 h
    have h := Option.some.inj h; subst h; exact P114_2 i0 i1 i2 i3 i4 b0 x0 o0 n0 k e0 (F49_ok e1)
theorem L78_16_b0 (i0 : Int) (i1 : Int) (i2 : Int) (i3 : Int) (i4 : Int) (i5 : Int) (i6 : Int) (i7 : Int) (i8 : Int) (b0 : Bool) (b3 : Bool) (b4 : Bool) (b5 : Bool) (x0 : List V) (x3 : List V) (x4 : List V) (x5 : List V) (o0 : Option Bool) (o3 : Option Bool) (o4 : Option Bool) (o5 : Option Bool) (n0 : Nat) (n3 : Nat) (n4 : Nat) (n5 : Nat) (k : Nat)
    (c0 : decide (i5 < (↑x0.length : Int)) = true)
    (c1 : IdxP x0 i5 n0 3 (V.agg [V.int IntKind.u64 i6, V.int IntKind.u64 i7, V.int IntKind.i64 i8]))
    (c2 : callP (evalFn Try.prog Try.cfg (k + 8)) 112 [V.sl o3 b3 n3 x3, V.int IntKind.u64 i6, V.int IntKind.u64 i4] = some (V.sl o4 b4 n4 x4))
    (c3 : callP (evalFn Try.prog Try.cfg (k + 8)) 112 [V.sl o4 b4 n4 x4, V.int IntKind.u64 (IntKind.u64.wrap (i6 + i7)), V.int IntKind.u64 i4] = some (V.sl o5 b5 n5 x5)) :
    evalCode Try.prog Try.cfg (evalFn Try.prog Try.cfg (k + 8)) 0 (Try.cfg.fc 78) (k + 8) (loopBody Try.f78 0) { tm := [(0, V.sl o0 b0 n0 x0), (1, V.agg [V.int IntKind.u64 i0, V.int IntKind.u64 i1]), (2, V.int IntKind.i64 i2), (3, V.int IntKind.u64 i3), (4, V.int IntKind.u64 i4), (6, V.ptr 0 0), (10, V.sl (some true) true 0 []), (11, V.sl o3 b3 n3 x3), (32, V.sl o0 b0 n0 x0), (33, V.int IntKind.i64 (↑x0.length : Int)), (34, V.int IntKind.i64 i5)], hp := [(0, Ob.var [V.int IntKind.u64 i0, V.int IntKind.u64 i1])], nx := 1 } = some (Exit.normal, { tm := [(0, V.sl o0 b0 n0 x0), (1, V.agg [V.int IntKind.u64 i0, V.int IntKind.u64 i1]), (2, V.int IntKind.i64 i2), (3, V.int IntKind.u64 i3), (4, V.int IntKind.u64 i4), (6, V.ptr 0 0), (10, V.sl (some true) true 0 []), (11, V.sl o5 b5 n5 x5), (13, V.ptr 13 0), (32, V.sl o0 b0 n0 x0), (33, V.int IntKind.i64 (↑x0.length : Int)), (34, V.int IntKind.i64 (IntKind.i64.wrap (i5 + 1))), (35, V.bool true)], hp := [(0, Ob.var [V.int IntKind.u64 i0, V.int IntKind.u64 i1]), (13, Ob.var [V.int IntKind.u64 i6, V.int IntKind.u64 i7, V.int IntKind.i64 i8])], nx := 81 }) :=
  byL (k := k) (d := 8) [Hn.br 35 true, Hn.op 36 ((V.agg [V.int IntKind.u64 i6, V.int IntKind.u64 i7, V.int IntKind.i64 i8]).cpt 0) [], Hn.call 42 (V.sl o4 b4 n4 x4), Hn.call 49 (V.sl o5 b5 n5 x5)] (And.intro c0 (And.intro c1 (And.intro c2 (And.intro c3 trivial)))) (by kernel_rfl)
theorem L78_16_b0h (i0 : Int) (i1 : Int) (i2 : Int) (i3 : Int) (i4 : Int) (i5 : Int) (i6 : Int) (i7 : Int) (i8 : Int) (b0 : Bool) (b5 : Bool) (x0 : List V) (x5 : List V) (o0 : Option Bool) (o5 : Option Bool) (n0 : Nat) (n5 : Nat) : head 0 [0, 1, 2, 3, 4, 6, 10, 11, 32, 33, 34] (Try.cfg.fc 78).acc { tm := [(0, V.sl o0 b0 n0 x0), (1, V.agg [V.int IntKind.u64 i0, V.int IntKind.u64 i1]), (2, V.int IntKind.i64 i2), (3, V.int IntKind.u64 i3), (4, V.int IntKind.u64 i4), (6, V.ptr 0 0), (10, V.sl (some true) true 0 []), (11, V.sl o5 b5 n5 x5), (13, V.ptr 13 0), (32, V.sl o0 b0 n0 x0), (33, V.int IntKind.i64 (↑x0.length : Int)), (34, V.int IntKind.i64 (IntKind.i64.wrap (i5 + 1))), (35, V.bool true)], hp := [(0, Ob.var [V.int IntKind.u64 i0, V.int IntKind.u64 i1]), (13, Ob.var [V.int IntKind.u64 i6, V.int IntKind.u64 i7, V.int IntKind.i64 i8])], nx := 81 } = { tm := [(0, V.sl o0 b0 n0 x0), (1, V.agg [V.int IntKind.u64 i0, V.int IntKind.u64 i1]), (2, V.int IntKind.i64 i2), (3, V.int IntKind.u64 i3), (4, V.int IntKind.u64 i4), (6, V.ptr 0 0), (10, V.sl (some true) true 0 []), (11, V.sl o5 b5 n5 x5), (32, V.sl o0 b0 n0 x0), (33, V.int IntKind.i64 (↑x0.length : Int)), (34, V.int IntKind.i64 (IntKind.i64.wrap (i5 + 1)))], hp := [(0, Ob.var [V.int IntKind.u64 i0, V.int IntKind.u64 i1])], nx := 1 } := by kernel_rfl
theorem L78_16_b1 (i0 : Int) (i1 : Int) (i2 : Int) (i3 : Int) (i4 : Int) (i5 : Int) (b0 : Bool) (b3 : Bool) (x0 : List V) (x3 : List V) (o0 : Option Bool) (o3 : Option Bool) (n0 : Nat) (n3 : Nat) (k : Nat)
    (c0 : decide (i5 < (↑x0.length : Int)) = false) :
    evalCode Try.prog Try.cfg (evalFn Try.prog Try.cfg (k + 8)) 0 (Try.cfg.fc 78) (k + 8) (loopBody Try.f78 0) { tm := [(0, V.sl o0 b0 n0 x0), (1, V.agg [V.int IntKind.u64 i0, V.int IntKind.u64 i1]), (2, V.int IntKind.i64 i2), (3, V.int IntKind.u64 i3), (4, V.int IntKind.u64 i4), (6, V.ptr 0 0), (10, V.sl (some true) true 0 []), (11, V.sl o3 b3 n3 x3), (32, V.sl o0 b0 n0 x0), (33, V.int IntKind.i64 (↑x0.length : Int)), (34, V.int IntKind.i64 i5)], hp := [(0, Ob.var [V.int IntKind.u64 i0, V.int IntKind.u64 i1])], nx := 1 } = some (Exit.exit 0, { tm := [(0, V.sl o0 b0 n0 x0), (1, V.agg [V.int IntKind.u64 i0, V.int IntKind.u64 i1]), (2, V.int IntKind.i64 i2), (3, V.int IntKind.u64 i3), (4, V.int IntKind.u64 i4), (6, V.ptr 0 0), (10, V.sl (some true) true 0 []), (11, V.sl o3 b3 n3 x3), (32, V.sl o0 b0 n0 x0), (33, V.int IntKind.i64 (↑x0.length : Int)), (34, V.int IntKind.i64 i5), (35, V.bool false)], hp := [(0, Ob.var [V.int IntKind.u64 i0, V.int IntKind.u64 i1])], nx := 5 }) :=
  byL (k := k) (d := 8) [Hn.br 35 false] (And.intro c0 trivial) (by kernel_rfl)
inductive L78_16_R where
  | e0 (i5 : Int) (b3 : Bool) (x3 : List V) (o3 : Option Bool) (n3 : Nat)
noncomputable def L78_16_end (i0 : Int) (i1 : Int) (i2 : Int) (i3 : Int) (i4 : Int) (b0 : Bool) (x0 : List V) (o0 : Option Bool) (n0 : Nat) : L78_16_R → Exit × St
  | .e0 i5 b3 x3 o3 n3 => (Exit.exit 0, { tm := [(0, V.sl o0 b0 n0 x0), (1, V.agg [V.int IntKind.u64 i0, V.int IntKind.u64 i1]), (2, V.int IntKind.i64 i2), (3, V.int IntKind.u64 i3), (4, V.int IntKind.u64 i4), (6, V.ptr 0 0), (10, V.sl (some true) true 0 []), (11, V.sl o3 b3 n3 x3), (32, V.sl o0 b0 n0 x0), (33, V.int IntKind.i64 (↑x0.length : Int)), (34, V.int IntKind.i64 i5), (35, V.bool false)], hp := [(0, Ob.var [V.int IntKind.u64 i0, V.int IntKind.u64 i1])], nx := 5 })
def L78_16 (k : Nat) (i0 : Int) (i1 : Int) (i2 : Int) (i3 : Int) (i4 : Int) (b0 : Bool) (x0 : List V) (o0 : Option Bool) (n0 : Nat) : Nat → Option Bool → Bool → Nat → List V → Int → Option L78_16_R
  | 0, _, _, _, _, _ => none
  | f + 1, o3, b3, n3, x3, i5 => (bif decide (i5 < (↑x0.length : Int)) then (guardP (n0 = (3 : Nat)) (((at? (x0) (i5)).bind dAu64u64i64Z).bind fun (i6, i7, i8) => ((F112 (k + 5) (o3) (b3) (n3) (x3) (i6) (i4)).bind fun (o4, b4, n4, x4) => ((F112 (k + 5) (o4) (b4) (n4) (x4) (IntKind.u64.wrap (i6 + i7)) (i4)).bind fun (o5, b5, n5, x5) => (L78_16 k i0 i1 i2 i3 i4 b0 x0 o0 n0 f (o5) (b5) (n5) (x5) (IntKind.i64.wrap (i5 + 1))))))) else (some (L78_16_R.e0 i5 b3 x3 o3 n3)))
theorem L78_16_ok {i0 : Int} {i1 : Int} {i2 : Int} {i3 : Int} {i4 : Int} {b0 : Bool} {x0 : List V} {o0 : Option Bool} {n0 : Nat} {k : Nat} : ∀ {f : Nat} {o3 : Option Bool} {b3 : Bool} {n3 : Nat} {x3 : List V} {i5 : Int} {r : L78_16_R}, L78_16 k i0 i1 i2 i3 i4 b0 x0 o0 n0 f o3 b3 n3 x3 i5 = some r →
    LoopsN Try.prog Try.cfg (k + 8) 0 Try.f78 (Try.cfg.fc 78) 0 [0, 1, 2, 3, 4, 6, 10, 11, 32, 33, 34] f { tm := [(0, V.sl o0 b0 n0 x0), (1, V.agg [V.int IntKind.u64 i0, V.int IntKind.u64 i1]), (2, V.int IntKind.i64 i2), (3, V.int IntKind.u64 i3), (4, V.int IntKind.u64 i4), (6, V.ptr 0 0), (10, V.sl (some true) true 0 []), (11, V.sl o3 b3 n3 x3), (32, V.sl o0 b0 n0 x0), (33, V.int IntKind.i64 (↑x0.length : Int)), (34, V.int IntKind.i64 i5)], hp := [(0, Ob.var [V.int IntKind.u64 i0, V.int IntKind.u64 i1])], nx := 1 } (L78_16_end i0 i1 i2 i3 i4 b0 x0 o0 n0 r) := by
  intro f
  induction f with
  | zero => intro o3 b3 n3 x3 i5 r h; cases h
  | succ f ih =>
    intro o3 b3 n3 x3 i5 r h
    rw [L78_16] at h
    rcases cond_elim h with ⟨e0, h⟩ | ⟨e0, h⟩
    ·
      obtain ⟨e1, h⟩ := guardP_some.1 h
      obtain ⟨⟨i6, i7, i8⟩, e2, h⟩ := Option.bind_eq_some_iff.1 h
      obtain ⟨⟨o4, b4, n4, x4⟩, e3, h⟩ := Option.bind_eq_some_iff.1 h
      obtain ⟨⟨o5, b5, n5, x5⟩, e4, h⟩ := Option.bind_eq_some_iff.1 h
      exact LoopsN.next (L78_16_b0 i0 i1 i2 i3 i4 i5 i6 i7 i8 b0 b3 b4 b5 x0 x3 x4 x5 o0 o3 o4 o5 n0 n3 n4 n5 k e0 (IdxP.of_at' (at_d dAu64u64i64Z_ok e2 :) e1) (F112_ok e3) (F112_ok e4)) (L78_16_b0h i0 i1 i2 i3 i4 i5 i6 i7 i8 b0 b5 x0 x5 o0 o5 n0 n5) (ih h)
    ·
      cases h; exact LoopsN.done (L78_16_b1 i0 i1 i2 i3 i4 i5 b0 b3 x0 x3 o0 o3 n0 n3 k e0) (fun h => by cases h)
theorem L78_17_b0 (i0 : Int) (i1 : Int) (i2 : Int) (i3 : Int) (i4 : Int) (i5 : Int) (i6 : Int) (i7 : Int) (b0 : Bool) (b3 : Bool) (x0 : List V) (x3 : List V) (x4 : List V) (o0 : Option Bool) (o3 : Option Bool) (n0 : Nat) (n3 : Nat) (k : Nat)
    (c0 : decide (i6 < (↑x3.length : Int)) = true)
    (c1 : IdxP x3 i6 n3 1 (V.int IntKind.u64 i7))
    (c2 : decide (i7 < i3) = true) :
    evalCode Try.prog Try.cfg (evalFn Try.prog Try.cfg (k + 8)) 0 (Try.cfg.fc 78) (k + 8) (loopBody Try.f78 1) { tm := [(0, V.sl o0 b0 n0 x0), (1, V.agg [V.int IntKind.u64 i0, V.int IntKind.u64 i1]), (2, V.int IntKind.i64 i2), (3, V.int IntKind.u64 i3), (4, V.int IntKind.u64 i4), (6, V.ptr 0 0), (10, V.sl (some true) true 0 []), (11, V.sl o3 b3 n3 x3), (14, V.ref 1), (32, V.sl o0 b0 n0 x0), (33, V.int IntKind.i64 (↑x0.length : Int)), (34, V.int IntKind.i64 i5), (35, V.bool false), (52, V.sl o3 b3 n3 x3), (53, V.int IntKind.i64 (↑x3.length : Int)), (54, V.int IntKind.i64 i6)], hp := [(0, Ob.var [V.int IntKind.u64 i0, V.int IntKind.u64 i1]), (1, Ob.row false 3 x4)], nx := 2 } = some (Exit.normal, { tm := [(0, V.sl o0 b0 n0 x0), (1, V.agg [V.int IntKind.u64 i0, V.int IntKind.u64 i1]), (2, V.int IntKind.i64 i2), (3, V.int IntKind.u64 i3), (4, V.int IntKind.u64 i4), (6, V.ptr 0 0), (10, V.sl (some true) true 0 []), (11, V.sl o3 b3 n3 x3), (14, V.ref 1), (15, V.int IntKind.i64 i6), (16, V.int IntKind.u64 i7), (32, V.sl o0 b0 n0 x0), (33, V.int IntKind.i64 (↑x0.length : Int)), (34, V.int IntKind.i64 i5), (35, V.bool false), (52, V.sl o3 b3 n3 x3), (53, V.int IntKind.i64 (↑x3.length : Int)), (54, V.int IntKind.i64 (IntKind.i64.wrap (i6 + 1))), (55, V.bool true), (61, V.bool true)], hp := [(0, Ob.var [V.int IntKind.u64 i0, V.int IntKind.u64 i1]), (1, Ob.row false 3 x4)], nx := 46 }) :=
  byL (k := k) (d := 8) [Hn.br 55 true, Hn.op 57 ((V.int IntKind.u64 i7).cpt 0) [], Hn.br 61 true] (And.intro c0 (And.intro c1 (And.intro c2 trivial))) (by kernel_rfl)
theorem L78_17_b0h (i0 : Int) (i1 : Int) (i2 : Int) (i3 : Int) (i4 : Int) (i5 : Int) (i6 : Int) (i7 : Int) (b0 : Bool) (b3 : Bool) (x0 : List V) (x3 : List V) (x4 : List V) (o0 : Option Bool) (o3 : Option Bool) (n0 : Nat) (n3 : Nat) : head 0 [0, 1, 2, 3, 4, 6, 10, 11, 14, 32, 33, 34, 35, 52, 53, 54] (Try.cfg.fc 78).acc { tm := [(0, V.sl o0 b0 n0 x0), (1, V.agg [V.int IntKind.u64 i0, V.int IntKind.u64 i1]), (2, V.int IntKind.i64 i2), (3, V.int IntKind.u64 i3), (4, V.int IntKind.u64 i4), (6, V.ptr 0 0), (10, V.sl (some true) true 0 []), (11, V.sl o3 b3 n3 x3), (14, V.ref 1), (15, V.int IntKind.i64 i6), (16, V.int IntKind.u64 i7), (32, V.sl o0 b0 n0 x0), (33, V.int IntKind.i64 (↑x0.length : Int)), (34, V.int IntKind.i64 i5), (35, V.bool false), (52, V.sl o3 b3 n3 x3), (53, V.int IntKind.i64 (↑x3.length : Int)), (54, V.int IntKind.i64 (IntKind.i64.wrap (i6 + 1))), (55, V.bool true), (61, V.bool true)], hp := [(0, Ob.var [V.int IntKind.u64 i0, V.int IntKind.u64 i1]), (1, Ob.row false 3 x4)], nx := 46 } = { tm := [(0, V.sl o0 b0 n0 x0), (1, V.agg [V.int IntKind.u64 i0, V.int IntKind.u64 i1]), (2, V.int IntKind.i64 i2), (3, V.int IntKind.u64 i3), (4, V.int IntKind.u64 i4), (6, V.ptr 0 0), (10, V.sl (some true) true 0 []), (11, V.sl o3 b3 n3 x3), (14, V.ref 1), (32, V.sl o0 b0 n0 x0), (33, V.int IntKind.i64 (↑x0.length : Int)), (34, V.int IntKind.i64 i5), (35, V.bool false), (52, V.sl o3 b3 n3 x3), (53, V.int IntKind.i64 (↑x3.length : Int)), (54, V.int IntKind.i64 (IntKind.i64.wrap (i6 + 1)))], hp := [(0, Ob.var [V.int IntKind.u64 i0, V.int IntKind.u64 i1]), (1, Ob.row false 3 x4)], nx := 2 } := by kernel_rfl
theorem L78_17_b1 (i0 : Int) (i1 : Int) (i2 : Int) (i3 : Int) (i4 : Int) (i5 : Int) (i6 : Int) (i7 : Int) (i8 : Int) (i9 : Int) (i10 : Int) (i11 : Int) (i12 : Int) (b0 : Bool) (b3 : Bool) (x0 : List V) (x3 : List V) (x4 : List V) (o0 : Option Bool) (o3 : Option Bool) (n0 : Nat) (n3 : Nat) (k : Nat)
    (c0 : decide (i6 < (↑x3.length : Int)) = true)
    (c1 : IdxP x3 i6 n3 1 (V.int IntKind.u64 i7))
    (c2 : decide (i7 < i3) = false)
    (c3 : decide (IntKind.i64.wrap (i6 + 1) < (↑x3.length : Int)) = true)
    (c4 : IdxP x3 (IntKind.i64.wrap (i6 + 1)) n3 1 (V.int IntKind.u64 i8))
    (c5 : callP (evalFn Try.prog Try.cfg (k + 8)) 114 [V.sl o0 b0 n0 x0, V.agg [V.int IntKind.u64 i0, V.int IntKind.u64 i1], V.int IntKind.i64 i2, V.int IntKind.u64 i7] = some (V.int IntKind.i64 i9))
    (c6 : GrdW ((3 : Nat) = (3 : Nat) ∧ (0 : Nat) < (3 : Nat) ∧ (24 : Nat) ≤ (64 : Nat) ∧ (0 : Nat) + x4.length ≤ maxLen') (V.ref (142 : Nat)) [((126 : Nat), Ob.dead), ((142 : Nat), Ob.row false (3 : Nat) x4)])
    (c7 : decide (0 ≤ IntKind.i64.wrap ((↑x4.length : Int) - 1)) = true)
    (c8 : IdxR x4.length (IntKind.i64.wrap ((↑x4.length : Int) - 1)) 3 3 (V.ept 142 (IntKind.i64.wrap ((↑x4.length : Int) - 1)).toNat 0))
    (c9 : LdP Try.prog 3 x4 (IntKind.i64.wrap ((↑x4.length : Int) - 1)).toNat 2 (V.int IntKind.i64 i12))
    (c10 : decide (i12 = i9) = true)
    (c11 : IdxR x4.length (IntKind.i64.wrap ((↑x4.length : Int) - 1)) 3 3 (V.ept 142 (IntKind.i64.wrap ((↑x4.length : Int) - 1)).toNat 0))
    (c12 : LdP Try.prog 22 x4 (IntKind.i64.wrap ((↑x4.length : Int) - 1)).toNat 0 (V.int IntKind.u64 i10))
    (c13 : IdxR x4.length (IntKind.i64.wrap ((↑x4.length : Int) - 1)) 3 3 (V.ept 142 (IntKind.i64.wrap ((↑x4.length : Int) - 1)).toNat 0))
    (c14 : LdP Try.prog 22 x4 (IntKind.i64.wrap ((↑x4.length : Int) - 1)).toNat 1 (V.int IntKind.u64 i11))
    (c15 : decide (IntKind.u64.wrap (i10 + i11) = i7) = true)
    (c16 : IdxR x4.length (IntKind.i64.wrap ((↑x4.length : Int) - 1)) 3 3 (V.ept 142 (IntKind.i64.wrap ((↑x4.length : Int) - 1)).toNat 0))
    (c17 : LdP Try.prog 22 x4 (IntKind.i64.wrap ((↑x4.length : Int) - 1)).toNat 0 (V.int IntKind.u64 i10))
    (c18 : IdxR x4.length (IntKind.i64.wrap ((↑x4.length : Int) - 1)) 3 3 (V.ept 142 (IntKind.i64.wrap ((↑x4.length : Int) - 1)).toNat 0))
    (c19 : StE (false = false ∧ (rid (V.int IntKind.u64 (IntKind.u64.wrap (i8 - i10)))).contains 142 = false ∧ (IntKind.i64.wrap ((↑x4.length : Int) - 1)).toNat < x4.length) x4 (IntKind.i64.wrap ((↑x4.length : Int) - 1)).toNat 142 3 1 [V.int IntKind.u64 (IntKind.u64.wrap (i8 - i10))] (V.tup []) [(142, Ob.row false 3 (x4.set (IntKind.i64.wrap ((↑x4.length : Int) - 1)).toNat (V.agg [V.int IntKind.u64 i10, V.int IntKind.u64 (IntKind.u64.wrap (i8 - i10)), V.int IntKind.i64 i12])))]) :
    evalCode Try.prog Try.cfg (evalFn Try.prog Try.cfg (k + 8)) 0 (Try.cfg.fc 78) (k + 8) (loopBody Try.f78 1) { tm := [(0, V.sl o0 b0 n0 x0), (1, V.agg [V.int IntKind.u64 i0, V.int IntKind.u64 i1]), (2, V.int IntKind.i64 i2), (3, V.int IntKind.u64 i3), (4, V.int IntKind.u64 i4), (6, V.ptr 0 0), (10, V.sl (some true) true 0 []), (11, V.sl o3 b3 n3 x3), (14, V.ref 1), (32, V.sl o0 b0 n0 x0), (33, V.int IntKind.i64 (↑x0.length : Int)), (34, V.int IntKind.i64 i5), (35, V.bool false), (52, V.sl o3 b3 n3 x3), (53, V.int IntKind.i64 (↑x3.length : Int)), (54, V.int IntKind.i64 i6)], hp := [(0, Ob.var [V.int IntKind.u64 i0, V.int IntKind.u64 i1]), (1, Ob.row false 3 x4)], nx := 2 } = some (Exit.normal, { tm := [(0, V.sl o0 b0 n0 x0), (1, V.agg [V.int IntKind.u64 i0, V.int IntKind.u64 i1]), (2, V.int IntKind.i64 i2), (3, V.int IntKind.u64 i3), (4, V.int IntKind.u64 i4), (6, V.ptr 0 0), (10, V.sl (some true) true 0 []), (11, V.sl o3 b3 n3 x3), (14, V.ref 142), (15, V.int IntKind.i64 i6), (16, V.int IntKind.u64 i7), (17, V.int IntKind.u64 i8), (32, V.sl o0 b0 n0 x0), (33, V.int IntKind.i64 (↑x0.length : Int)), (34, V.int IntKind.i64 i5), (35, V.bool false), (52, V.sl o3 b3 n3 x3), (53, V.int IntKind.i64 (↑x3.length : Int)), (54, V.int IntKind.i64 (IntKind.i64.wrap (i6 + 1))), (55, V.bool true), (61, V.bool false), (67, V.bool true)], hp := [(0, Ob.var [V.int IntKind.u64 i0, V.int IntKind.u64 i1]), (1, Ob.row false 3 x4), (126, Ob.dead), (142, Ob.row false 3 (x4.set (IntKind.i64.wrap ((↑x4.length : Int) - 1)).toNat (V.agg [V.int IntKind.u64 i10, V.int IntKind.u64 (IntKind.u64.wrap (i8 - i10)), V.int IntKind.i64 i12])))], nx := 338 }) :=
  byL (k := k) (d := 8) [Hn.br 55 true, Hn.op 57 ((V.int IntKind.u64 i7).cpt 0) [], Hn.br 61 false, Hn.br 67 true, Hn.op 71 ((V.int IntKind.u64 i8).cpt 0) [], Hn.call 80 (V.int IntKind.i64 i9), Hn.enter, Hn.op 14 (V.ref 142) [(126, Ob.dead), (142, Ob.row false 3 x4)], Hn.br 20 true, Hn.op 23 (V.ept 142 (IntKind.i64.wrap ((↑x4.length : Int) - 1)).toNat 0) [], Hn.op 25 (V.int IntKind.i64 i12) [], Hn.br 29 true, Hn.op 32 (V.ept 142 (IntKind.i64.wrap ((↑x4.length : Int) - 1)).toNat 0) [], Hn.op 34 (V.int IntKind.u64 i10) [], Hn.op 37 (V.ept 142 (IntKind.i64.wrap ((↑x4.length : Int) - 1)).toNat 0) [], Hn.op 39 (V.int IntKind.u64 i11) [], Hn.br 43 true, Hn.op 49 (V.ept 142 (IntKind.i64.wrap ((↑x4.length : Int) - 1)).toNat 0) [], Hn.op 51 (V.int IntKind.u64 i10) [], Hn.op 53 (V.ept 142 (IntKind.i64.wrap ((↑x4.length : Int) - 1)).toNat 0) [], Hn.wr 314 (V.tup []) [(142, Ob.row false 3 (x4.set (IntKind.i64.wrap ((↑x4.length : Int) - 1)).toNat (V.agg [V.int IntKind.u64 i10, V.int IntKind.u64 (IntKind.u64.wrap (i8 - i10)), V.int IntKind.i64 i12])))]] (And.intro c0 (And.intro c1 (And.intro c2 (And.intro c3 (And.intro c4 (And.intro c5 (And.intro c6 (And.intro c7 (And.intro c8 (And.intro c9 (And.intro c10 (And.intro c11 (And.intro c12 (And.intro c13 (And.intro c14 (And.intro c15 (And.intro c16 (And.intro c17 (And.intro c18 (And.intro c19 trivial)))))))))))))))))))) (by kernel_rfl)
theorem L78_17_b1h (i0 : Int) (i1 : Int) (i2 : Int) (i3 : Int) (i4 : Int) (i5 : Int) (i6 : Int) (i7 : Int) (i8 : Int) (i10 : Int) (i12 : Int) (b0 : Bool) (b3 : Bool) (x0 : List V) (x3 : List V) (x4 : List V) (o0 : Option Bool) (o3 : Option Bool) (n0 : Nat) (n3 : Nat) : head 0 [0, 1, 2, 3, 4, 6, 10, 11, 14, 32, 33, 34, 35, 52, 53, 54] (Try.cfg.fc 78).acc { tm := [(0, V.sl o0 b0 n0 x0), (1, V.agg [V.int IntKind.u64 i0, V.int IntKind.u64 i1]), (2, V.int IntKind.i64 i2), (3, V.int IntKind.u64 i3), (4, V.int IntKind.u64 i4), (6, V.ptr 0 0), (10, V.sl (some true) true 0 []), (11, V.sl o3 b3 n3 x3), (14, V.ref 142), (15, V.int IntKind.i64 i6), (16, V.int IntKind.u64 i7), (17, V.int IntKind.u64 i8), (32, V.sl o0 b0 n0 x0), (33, V.int IntKind.i64 (↑x0.length : Int)), (34, V.int IntKind.i64 i5), (35, V.bool false), (52, V.sl o3 b3 n3 x3), (53, V.int IntKind.i64 (↑x3.length : Int)), (54, V.int IntKind.i64 (IntKind.i64.wrap (i6 + 1))), (55, V.bool true), (61, V.bool false), (67, V.bool true)], hp := [(0, Ob.var [V.int IntKind.u64 i0, V.int IntKind.u64 i1]), (1, Ob.row false 3 x4), (126, Ob.dead), (142, Ob.row false 3 (x4.set (IntKind.i64.wrap ((↑x4.length : Int) - 1)).toNat (V.agg [V.int IntKind.u64 i10, V.int IntKind.u64 (IntKind.u64.wrap (i8 - i10)), V.int IntKind.i64 i12])))], nx := 338 } = { tm := [(0, V.sl o0 b0 n0 x0), (1, V.agg [V.int IntKind.u64 i0, V.int IntKind.u64 i1]), (2, V.int IntKind.i64 i2), (3, V.int IntKind.u64 i3), (4, V.int IntKind.u64 i4), (6, V.ptr 0 0), (10, V.sl (some true) true 0 []), (11, V.sl o3 b3 n3 x3), (14, V.ref 1), (32, V.sl o0 b0 n0 x0), (33, V.int IntKind.i64 (↑x0.length : Int)), (34, V.int IntKind.i64 i5), (35, V.bool false), (52, V.sl o3 b3 n3 x3), (53, V.int IntKind.i64 (↑x3.length : Int)), (54, V.int IntKind.i64 (IntKind.i64.wrap (i6 + 1)))], hp := [(0, Ob.var [V.int IntKind.u64 i0, V.int IntKind.u64 i1]), (1, Ob.row false 3 (x4.set (IntKind.i64.wrap ((↑x4.length : Int) - 1)).toNat (V.agg [V.int IntKind.u64 i10, V.int IntKind.u64 (IntKind.u64.wrap (i8 - i10)), V.int IntKind.i64 i12])))], nx := 2 } := by kernel_rfl
theorem L78_17_b2 (i0 : Int) (i1 : Int) (i2 : Int) (i3 : Int) (i4 : Int) (i5 : Int) (i6 : Int) (i7 : Int) (i8 : Int) (i9 : Int) (i10 : Int) (i11 : Int) (i12 : Int) (b0 : Bool) (b3 : Bool) (x0 : List V) (x3 : List V) (x4 : List V) (o0 : Option Bool) (o3 : Option Bool) (n0 : Nat) (n3 : Nat) (k : Nat)
    (c0 : decide (i6 < (↑x3.length : Int)) = true)
    (c1 : IdxP x3 i6 n3 1 (V.int IntKind.u64 i7))
    (c2 : decide (i7 < i3) = false)
    (c3 : decide (IntKind.i64.wrap (i6 + 1) < (↑x3.length : Int)) = true)
    (c4 : IdxP x3 (IntKind.i64.wrap (i6 + 1)) n3 1 (V.int IntKind.u64 i8))
    (c5 : callP (evalFn Try.prog Try.cfg (k + 8)) 114 [V.sl o0 b0 n0 x0, V.agg [V.int IntKind.u64 i0, V.int IntKind.u64 i1], V.int IntKind.i64 i2, V.int IntKind.u64 i7] = some (V.int IntKind.i64 i9))
    (c6 : GrdW ((3 : Nat) = (3 : Nat) ∧ (0 : Nat) < (3 : Nat) ∧ (24 : Nat) ≤ (64 : Nat) ∧ (0 : Nat) + x4.length ≤ maxLen') (V.ref (142 : Nat)) [((126 : Nat), Ob.dead), ((142 : Nat), Ob.row false (3 : Nat) x4)])
    (c7 : decide (0 ≤ IntKind.i64.wrap ((↑x4.length : Int) - 1)) = true)
    (c8 : IdxR x4.length (IntKind.i64.wrap ((↑x4.length : Int) - 1)) 3 3 (V.ept 142 (IntKind.i64.wrap ((↑x4.length : Int) - 1)).toNat 0))
    (c9 : LdP Try.prog 3 x4 (IntKind.i64.wrap ((↑x4.length : Int) - 1)).toNat 2 (V.int IntKind.i64 i12))
    (c10 : decide (i12 = i9) = true)
    (c11 : IdxR x4.length (IntKind.i64.wrap ((↑x4.length : Int) - 1)) 3 3 (V.ept 142 (IntKind.i64.wrap ((↑x4.length : Int) - 1)).toNat 0))
    (c12 : LdP Try.prog 22 x4 (IntKind.i64.wrap ((↑x4.length : Int) - 1)).toNat 0 (V.int IntKind.u64 i10))
    (c13 : IdxR x4.length (IntKind.i64.wrap ((↑x4.length : Int) - 1)) 3 3 (V.ept 142 (IntKind.i64.wrap ((↑x4.length : Int) - 1)).toNat 0))
    (c14 : LdP Try.prog 22 x4 (IntKind.i64.wrap ((↑x4.length : Int) - 1)).toNat 1 (V.int IntKind.u64 i11))
    (c15 : decide (IntKind.u64.wrap (i10 + i11) = i7) = false)
    (c16 : GrdW ((3 : Nat) = (3 : Nat) ∧ (0 : Nat) < (3 : Nat) ∧ (24 : Nat) ≤ (64 : Nat) ∧ x4.length + (1 : Nat) ≤ maxLen') (V.ref (302 : Nat)) [((142 : Nat), Ob.dead), ((302 : Nat), Ob.row false (3 : Nat) (x4 ++ [V.agg [V.int IntKind.u64 i7, V.int IntKind.u64 (IntKind.u64.wrap (i8 - i7)), V.int IntKind.i64 i9]]))]) :
    evalCode Try.prog Try.cfg (evalFn Try.prog Try.cfg (k + 8)) 0 (Try.cfg.fc 78) (k + 8) (loopBody Try.f78 1) { tm := [(0, V.sl o0 b0 n0 x0), (1, V.agg [V.int IntKind.u64 i0, V.int IntKind.u64 i1]), (2, V.int IntKind.i64 i2), (3, V.int IntKind.u64 i3), (4, V.int IntKind.u64 i4), (6, V.ptr 0 0), (10, V.sl (some true) true 0 []), (11, V.sl o3 b3 n3 x3), (14, V.ref 1), (32, V.sl o0 b0 n0 x0), (33, V.int IntKind.i64 (↑x0.length : Int)), (34, V.int IntKind.i64 i5), (35, V.bool false), (52, V.sl o3 b3 n3 x3), (53, V.int IntKind.i64 (↑x3.length : Int)), (54, V.int IntKind.i64 i6)], hp := [(0, Ob.var [V.int IntKind.u64 i0, V.int IntKind.u64 i1]), (1, Ob.row false 3 x4)], nx := 2 } = some (Exit.normal, { tm := [(0, V.sl o0 b0 n0 x0), (1, V.agg [V.int IntKind.u64 i0, V.int IntKind.u64 i1]), (2, V.int IntKind.i64 i2), (3, V.int IntKind.u64 i3), (4, V.int IntKind.u64 i4), (6, V.ptr 0 0), (10, V.sl (some true) true 0 []), (11, V.sl o3 b3 n3 x3), (14, V.ref 302), (15, V.int IntKind.i64 i6), (16, V.int IntKind.u64 i7), (17, V.int IntKind.u64 i8), (32, V.sl o0 b0 n0 x0), (33, V.int IntKind.i64 (↑x0.length : Int)), (34, V.int IntKind.i64 i5), (35, V.bool false), (52, V.sl o3 b3 n3 x3), (53, V.int IntKind.i64 (↑x3.length : Int)), (54, V.int IntKind.i64 (IntKind.i64.wrap (i6 + 1))), (55, V.bool true), (61, V.bool false), (67, V.bool true)], hp := [(0, Ob.var [V.int IntKind.u64 i0, V.int IntKind.u64 i1]), (1, Ob.row false 3 x4), (126, Ob.dead), (142, Ob.dead), (298, Ob.row false 3 [V.agg [V.int IntKind.u64 i7, V.int IntKind.u64 (IntKind.u64.wrap (i8 - i7)), V.int IntKind.i64 i9]]), (302, Ob.row false 3 (x4 ++ [V.agg [V.int IntKind.u64 i7, V.int IntKind.u64 (IntKind.u64.wrap (i8 - i7)), V.int IntKind.i64 i9]]))], nx := 330 }) :=
  byL (k := k) (d := 8) [Hn.br 55 true, Hn.op 57 ((V.int IntKind.u64 i7).cpt 0) [], Hn.br 61 false, Hn.br 67 true, Hn.op 71 ((V.int IntKind.u64 i8).cpt 0) [], Hn.call 80 (V.int IntKind.i64 i9), Hn.enter, Hn.op 14 (V.ref 142) [(126, Ob.dead), (142, Ob.row false 3 x4)], Hn.br 20 true, Hn.op 23 (V.ept 142 (IntKind.i64.wrap ((↑x4.length : Int) - 1)).toNat 0) [], Hn.op 25 (V.int IntKind.i64 i12) [], Hn.br 29 true, Hn.op 32 (V.ept 142 (IntKind.i64.wrap ((↑x4.length : Int) - 1)).toNat 0) [], Hn.op 34 (V.int IntKind.u64 i10) [], Hn.op 37 (V.ept 142 (IntKind.i64.wrap ((↑x4.length : Int) - 1)).toNat 0) [], Hn.op 39 (V.int IntKind.u64 i11) [], Hn.br 43 false, Hn.op 64 (V.ref 302) [(142, Ob.dead), (302, Ob.row false 3 (x4 ++ [V.agg [V.int IntKind.u64 i7, V.int IntKind.u64 (IntKind.u64.wrap (i8 - i7)), V.int IntKind.i64 i9]]))]] (And.intro c0 (And.intro c1 (And.intro c2 (And.intro c3 (And.intro c4 (And.intro c5 (And.intro c6 (And.intro c7 (And.intro c8 (And.intro c9 (And.intro c10 (And.intro c11 (And.intro c12 (And.intro c13 (And.intro c14 (And.intro c15 (And.intro c16 trivial))))))))))))))))) (by kernel_rfl)
theorem L78_17_b2h (i0 : Int) (i1 : Int) (i2 : Int) (i3 : Int) (i4 : Int) (i5 : Int) (i6 : Int) (i7 : Int) (i8 : Int) (i9 : Int) (b0 : Bool) (b3 : Bool) (x0 : List V) (x3 : List V) (x4 : List V) (o0 : Option Bool) (o3 : Option Bool) (n0 : Nat) (n3 : Nat) : head 0 [0, 1, 2, 3, 4, 6, 10, 11, 14, 32, 33, 34, 35, 52, 53, 54] (Try.cfg.fc 78).acc { tm := [(0, V.sl o0 b0 n0 x0), (1, V.agg [V.int IntKind.u64 i0, V.int IntKind.u64 i1]), (2, V.int IntKind.i64 i2), (3, V.int IntKind.u64 i3), (4, V.int IntKind.u64 i4), (6, V.ptr 0 0), (10, V.sl (some true) true 0 []), (11, V.sl o3 b3 n3 x3), (14, V.ref 302), (15, V.int IntKind.i64 i6), (16, V.int IntKind.u64 i7), (17, V.int IntKind.u64 i8), (32, V.sl o0 b0 n0 x0), (33, V.int IntKind.i64 (↑x0.length : Int)), (34, V.int IntKind.i64 i5), (35, V.bool false), (52, V.sl o3 b3 n3 x3), (53, V.int IntKind.i64 (↑x3.length : Int)), (54, V.int IntKind.i64 (IntKind.i64.wrap (i6 + 1))), (55, V.bool true), (61, V.bool false), (67, V.bool true)], hp := [(0, Ob.var [V.int IntKind.u64 i0, V.int IntKind.u64 i1]), (1, Ob.row false 3 x4), (126, Ob.dead), (142, Ob.dead), (298, Ob.row false 3 [V.agg [V.int IntKind.u64 i7, V.int IntKind.u64 (IntKind.u64.wrap (i8 - i7)), V.int IntKind.i64 i9]]), (302, Ob.row false 3 (x4 ++ [V.agg [V.int IntKind.u64 i7, V.int IntKind.u64 (IntKind.u64.wrap (i8 - i7)), V.int IntKind.i64 i9]]))], nx := 330 } = { tm := [(0, V.sl o0 b0 n0 x0), (1, V.agg [V.int IntKind.u64 i0, V.int IntKind.u64 i1]), (2, V.int IntKind.i64 i2), (3, V.int IntKind.u64 i3), (4, V.int IntKind.u64 i4), (6, V.ptr 0 0), (10, V.sl (some true) true 0 []), (11, V.sl o3 b3 n3 x3), (14, V.ref 1), (32, V.sl o0 b0 n0 x0), (33, V.int IntKind.i64 (↑x0.length : Int)), (34, V.int IntKind.i64 i5), (35, V.bool false), (52, V.sl o3 b3 n3 x3), (53, V.int IntKind.i64 (↑x3.length : Int)), (54, V.int IntKind.i64 (IntKind.i64.wrap (i6 + 1)))], hp := [(0, Ob.var [V.int IntKind.u64 i0, V.int IntKind.u64 i1]), (1, Ob.row false 3 (x4 ++ [V.agg [V.int IntKind.u64 i7, V.int IntKind.u64 (IntKind.u64.wrap (i8 - i7)), V.int IntKind.i64 i9]]))], nx := 2 } := by kernel_rfl
theorem L78_17_b3 (i0 : Int) (i1 : Int) (i2 : Int) (i3 : Int) (i4 : Int) (i5 : Int) (i6 : Int) (i7 : Int) (i8 : Int) (i9 : Int) (i12 : Int) (b0 : Bool) (b3 : Bool) (x0 : List V) (x3 : List V) (x4 : List V) (o0 : Option Bool) (o3 : Option Bool) (n0 : Nat) (n3 : Nat) (k : Nat)
    (c0 : decide (i6 < (↑x3.length : Int)) = true)
    (c1 : IdxP x3 i6 n3 1 (V.int IntKind.u64 i7))
    (c2 : decide (i7 < i3) = false)
    (c3 : decide (IntKind.i64.wrap (i6 + 1) < (↑x3.length : Int)) = true)
    (c4 : IdxP x3 (IntKind.i64.wrap (i6 + 1)) n3 1 (V.int IntKind.u64 i8))
    (c5 : callP (evalFn Try.prog Try.cfg (k + 8)) 114 [V.sl o0 b0 n0 x0, V.agg [V.int IntKind.u64 i0, V.int IntKind.u64 i1], V.int IntKind.i64 i2, V.int IntKind.u64 i7] = some (V.int IntKind.i64 i9))
    (c6 : GrdW ((3 : Nat) = (3 : Nat) ∧ (0 : Nat) < (3 : Nat) ∧ (24 : Nat) ≤ (64 : Nat) ∧ (0 : Nat) + x4.length ≤ maxLen') (V.ref (142 : Nat)) [((126 : Nat), Ob.dead), ((142 : Nat), Ob.row false (3 : Nat) x4)])
    (c7 : decide (0 ≤ IntKind.i64.wrap ((↑x4.length : Int) - 1)) = true)
    (c8 : IdxR x4.length (IntKind.i64.wrap ((↑x4.length : Int) - 1)) 3 3 (V.ept 142 (IntKind.i64.wrap ((↑x4.length : Int) - 1)).toNat 0))
    (c9 : LdP Try.prog 3 x4 (IntKind.i64.wrap ((↑x4.length : Int) - 1)).toNat 2 (V.int IntKind.i64 i12))
    (c10 : decide (i12 = i9) = false)
    (c11 : GrdW ((3 : Nat) = (3 : Nat) ∧ (0 : Nat) < (3 : Nat) ∧ (24 : Nat) ≤ (64 : Nat) ∧ x4.length + (1 : Nat) ≤ maxLen') (V.ref (302 : Nat)) [((142 : Nat), Ob.dead), ((302 : Nat), Ob.row false (3 : Nat) (x4 ++ [V.agg [V.int IntKind.u64 i7, V.int IntKind.u64 (IntKind.u64.wrap (i8 - i7)), V.int IntKind.i64 i9]]))]) :
    evalCode Try.prog Try.cfg (evalFn Try.prog Try.cfg (k + 8)) 0 (Try.cfg.fc 78) (k + 8) (loopBody Try.f78 1) { tm := [(0, V.sl o0 b0 n0 x0), (1, V.agg [V.int IntKind.u64 i0, V.int IntKind.u64 i1]), (2, V.int IntKind.i64 i2), (3, V.int IntKind.u64 i3), (4, V.int IntKind.u64 i4), (6, V.ptr 0 0), (10, V.sl (some true) true 0 []), (11, V.sl o3 b3 n3 x3), (14, V.ref 1), (32, V.sl o0 b0 n0 x0), (33, V.int IntKind.i64 (↑x0.length : Int)), (34, V.int IntKind.i64 i5), (35, V.bool false), (52, V.sl o3 b3 n3 x3), (53, V.int IntKind.i64 (↑x3.length : Int)), (54, V.int IntKind.i64 i6)], hp := [(0, Ob.var [V.int IntKind.u64 i0, V.int IntKind.u64 i1]), (1, Ob.row false 3 x4)], nx := 2 } = some (Exit.normal, { tm := [(0, V.sl o0 b0 n0 x0), (1, V.agg [V.int IntKind.u64 i0, V.int IntKind.u64 i1]), (2, V.int IntKind.i64 i2), (3, V.int IntKind.u64 i3), (4, V.int IntKind.u64 i4), (6, V.ptr 0 0), (10, V.sl (some true) true 0 []), (11, V.sl o3 b3 n3 x3), (14, V.ref 302), (15, V.int IntKind.i64 i6), (16, V.int IntKind.u64 i7), (17, V.int IntKind.u64 i8), (32, V.sl o0 b0 n0 x0), (33, V.int IntKind.i64 (↑x0.length : Int)), (34, V.int IntKind.i64 i5), (35, V.bool false), (52, V.sl o3 b3 n3 x3), (53, V.int IntKind.i64 (↑x3.length : Int)), (54, V.int IntKind.i64 (IntKind.i64.wrap (i6 + 1))), (55, V.bool true), (61, V.bool false), (67, V.bool true)], hp := [(0, Ob.var [V.int IntKind.u64 i0, V.int IntKind.u64 i1]), (1, Ob.row false 3 x4), (126, Ob.dead), (142, Ob.dead), (298, Ob.row false 3 [V.agg [V.int IntKind.u64 i7, V.int IntKind.u64 (IntKind.u64.wrap (i8 - i7)), V.int IntKind.i64 i9]]), (302, Ob.row false 3 (x4 ++ [V.agg [V.int IntKind.u64 i7, V.int IntKind.u64 (IntKind.u64.wrap (i8 - i7)), V.int IntKind.i64 i9]]))], nx := 330 }) :=
  byL (k := k) (d := 8) [Hn.br 55 true, Hn.op 57 ((V.int IntKind.u64 i7).cpt 0) [], Hn.br 61 false, Hn.br 67 true, Hn.op 71 ((V.int IntKind.u64 i8).cpt 0) [], Hn.call 80 (V.int IntKind.i64 i9), Hn.enter, Hn.op 14 (V.ref 142) [(126, Ob.dead), (142, Ob.row false 3 x4)], Hn.br 20 true, Hn.op 23 (V.ept 142 (IntKind.i64.wrap ((↑x4.length : Int) - 1)).toNat 0) [], Hn.op 25 (V.int IntKind.i64 i12) [], Hn.br 29 false, Hn.op 64 (V.ref 302) [(142, Ob.dead), (302, Ob.row false 3 (x4 ++ [V.agg [V.int IntKind.u64 i7, V.int IntKind.u64 (IntKind.u64.wrap (i8 - i7)), V.int IntKind.i64 i9]]))]] (And.intro c0 (And.intro c1 (And.intro c2 (And.intro c3 (And.intro c4 (And.intro c5 (And.intro c6 (And.intro c7 (And.intro c8 (And.intro c9 (And.intro c10 (And.intro c11 trivial)))))))))))) (by kernel_rfl)
theorem L78_17_b3h (i0 : Int) (i1 : Int) (i2 : Int) (i3 : Int) (i4 : Int) (i5 : Int) (i6 : Int) (i7 : Int) (i8 : Int) (i9 : Int) (b0 : Bool) (b3 : Bool) (x0 : List V) (x3 : List V) (x4 : List V) (o0 : Option Bool) (o3 : Option Bool) (n0 : Nat) (n3 : Nat) : head 0 [0, 1, 2, 3, 4, 6, 10, 11, 14, 32, 33, 34, 35, 52, 53, 54] (Try.cfg.fc 78).acc { tm := [(0, V.sl o0 b0 n0 x0), (1, V.agg [V.int IntKind.u64 i0, V.int IntKind.u64 i1]), (2, V.int IntKind.i64 i2), (3, V.int IntKind.u64 i3), (4, V.int IntKind.u64 i4), (6, V.ptr 0 0), (10, V.sl (some true) true 0 []), (11, V.sl o3 b3 n3 x3), (14, V.ref 302), (15, V.int IntKind.i64 i6), (16, V.int IntKind.u64 i7), (17, V.int IntKind.u64 i8), (32, V.sl o0 b0 n0 x0), (33, V.int IntKind.i64 (↑x0.length : Int)), (34, V.int IntKind.i64 i5), (35, V.bool false), (52, V.sl o3 b3 n3 x3), (53, V.int IntKind.i64 (↑x3.length : Int)), (54, V.int IntKind.i64 (IntKind.i64.wrap (i6 + 1))), (55, V.bool true), (61, V.bool false), (67, V.bool true)], hp := [(0, Ob.var [V.int IntKind.u64 i0, V.int IntKind.u64 i1]), (1, Ob.row false 3 x4), (126, Ob.dead), (142, Ob.dead), (298, Ob.row false 3 [V.agg [V.int IntKind.u64 i7, V.int IntKind.u64 (IntKind.u64.wrap (i8 - i7)), V.int IntKind.i64 i9]]), (302, Ob.row false 3 (x4 ++ [V.agg [V.int IntKind.u64 i7, V.int IntKind.u64 (IntKind.u64.wrap (i8 - i7)), V.int IntKind.i64 i9]]))], nx := 330 } = { tm := [(0, V.sl o0 b0 n0 x0), (1, V.agg [V.int IntKind.u64 i0, V.int IntKind.u64 i1]), (2, V.int IntKind.i64 i2), (3, V.int IntKind.u64 i3), (4, V.int IntKind.u64 i4), (6, V.ptr 0 0), (10, V.sl (some true) true 0 []), (11, V.sl o3 b3 n3 x3), (14, V.ref 1), (32, V.sl o0 b0 n0 x0), (33, V.int IntKind.i64 (↑x0.length : Int)), (34, V.int IntKind.i64 i5), (35, V.bool false), (52, V.sl o3 b3 n3 x3), (53, V.int IntKind.i64 (↑x3.length : Int)), (54, V.int IntKind.i64 (IntKind.i64.wrap (i6 + 1)))], hp := [(0, Ob.var [V.int IntKind.u64 i0, V.int IntKind.u64 i1]), (1, Ob.row false 3 (x4 ++ [V.agg [V.int IntKind.u64 i7, V.int IntKind.u64 (IntKind.u64.wrap (i8 - i7)), V.int IntKind.i64 i9]]))], nx := 2 } := by kernel_rfl
theorem L78_17_b4 (i0 : Int) (i1 : Int) (i2 : Int) (i3 : Int) (i4 : Int) (i5 : Int) (i6 : Int) (i7 : Int) (i8 : Int) (i9 : Int) (b0 : Bool) (b3 : Bool) (x0 : List V) (x3 : List V) (x4 : List V) (o0 : Option Bool) (o3 : Option Bool) (n0 : Nat) (n3 : Nat) (k : Nat)
    (c0 : decide (i6 < (↑x3.length : Int)) = true)
    (c1 : IdxP x3 i6 n3 1 (V.int IntKind.u64 i7))
    (c2 : decide (i7 < i3) = false)
    (c3 : decide (IntKind.i64.wrap (i6 + 1) < (↑x3.length : Int)) = true)
    (c4 : IdxP x3 (IntKind.i64.wrap (i6 + 1)) n3 1 (V.int IntKind.u64 i8))
    (c5 : callP (evalFn Try.prog Try.cfg (k + 8)) 114 [V.sl o0 b0 n0 x0, V.agg [V.int IntKind.u64 i0, V.int IntKind.u64 i1], V.int IntKind.i64 i2, V.int IntKind.u64 i7] = some (V.int IntKind.i64 i9))
    (c6 : GrdW ((3 : Nat) = (3 : Nat) ∧ (0 : Nat) < (3 : Nat) ∧ (24 : Nat) ≤ (64 : Nat) ∧ (0 : Nat) + x4.length ≤ maxLen') (V.ref (142 : Nat)) [((126 : Nat), Ob.dead), ((142 : Nat), Ob.row false (3 : Nat) x4)])
    (c7 : decide (0 ≤ IntKind.i64.wrap ((↑x4.length : Int) - 1)) = false)
    (c8 : GrdW ((3 : Nat) = (3 : Nat) ∧ (0 : Nat) < (3 : Nat) ∧ (24 : Nat) ≤ (64 : Nat) ∧ x4.length + (1 : Nat) ≤ maxLen') (V.ref (302 : Nat)) [((142 : Nat), Ob.dead), ((302 : Nat), Ob.row false (3 : Nat) (x4 ++ [V.agg [V.int IntKind.u64 i7, V.int IntKind.u64 (IntKind.u64.wrap (i8 - i7)), V.int IntKind.i64 i9]]))]) :
    evalCode Try.prog Try.cfg (evalFn Try.prog Try.cfg (k + 8)) 0 (Try.cfg.fc 78) (k + 8) (loopBody Try.f78 1) { tm := [(0, V.sl o0 b0 n0 x0), (1, V.agg [V.int IntKind.u64 i0, V.int IntKind.u64 i1]), (2, V.int IntKind.i64 i2), (3, V.int IntKind.u64 i3), (4, V.int IntKind.u64 i4), (6, V.ptr 0 0), (10, V.sl (some true) true 0 []), (11, V.sl o3 b3 n3 x3), (14, V.ref 1), (32, V.sl o0 b0 n0 x0), (33, V.int IntKind.i64 (↑x0.length : Int)), (34, V.int IntKind.i64 i5), (35, V.bool false), (52, V.sl o3 b3 n3 x3), (53, V.int IntKind.i64 (↑x3.length : Int)), (54, V.int IntKind.i64 i6)], hp := [(0, Ob.var [V.int IntKind.u64 i0, V.int IntKind.u64 i1]), (1, Ob.row false 3 x4)], nx := 2 } = some (Exit.normal, { tm := [(0, V.sl o0 b0 n0 x0), (1, V.agg [V.int IntKind.u64 i0, V.int IntKind.u64 i1]), (2, V.int IntKind.i64 i2), (3, V.int IntKind.u64 i3), (4, V.int IntKind.u64 i4), (6, V.ptr 0 0), (10, V.sl (some true) true 0 []), (11, V.sl o3 b3 n3 x3), (14, V.ref 302), (15, V.int IntKind.i64 i6), (16, V.int IntKind.u64 i7), (17, V.int IntKind.u64 i8), (32, V.sl o0 b0 n0 x0), (33, V.int IntKind.i64 (↑x0.length : Int)), (34, V.int IntKind.i64 i5), (35, V.bool false), (52, V.sl o3 b3 n3 x3), (53, V.int IntKind.i64 (↑x3.length : Int)), (54, V.int IntKind.i64 (IntKind.i64.wrap (i6 + 1))), (55, V.bool true), (61, V.bool false), (67, V.bool true)], hp := [(0, Ob.var [V.int IntKind.u64 i0, V.int IntKind.u64 i1]), (1, Ob.row false 3 x4), (126, Ob.dead), (142, Ob.dead), (298, Ob.row false 3 [V.agg [V.int IntKind.u64 i7, V.int IntKind.u64 (IntKind.u64.wrap (i8 - i7)), V.int IntKind.i64 i9]]), (302, Ob.row false 3 (x4 ++ [V.agg [V.int IntKind.u64 i7, V.int IntKind.u64 (IntKind.u64.wrap (i8 - i7)), V.int IntKind.i64 i9]]))], nx := 330 }) :=
  byL (k := k) (d := 8) [Hn.br 55 true, Hn.op 57 ((V.int IntKind.u64 i7).cpt 0) [], Hn.br 61 false, Hn.br 67 true, Hn.op 71 ((V.int IntKind.u64 i8).cpt 0) [], Hn.call 80 (V.int IntKind.i64 i9), Hn.enter, Hn.op 14 (V.ref 142) [(126, Ob.dead), (142, Ob.row false 3 x4)], Hn.br 20 false, Hn.op 64 (V.ref 302) [(142, Ob.dead), (302, Ob.row false 3 (x4 ++ [V.agg [V.int IntKind.u64 i7, V.int IntKind.u64 (IntKind.u64.wrap (i8 - i7)), V.int IntKind.i64 i9]]))]] (And.intro c0 (And.intro c1 (And.intro c2 (And.intro c3 (And.intro c4 (And.intro c5 (And.intro c6 (And.intro c7 (And.intro c8 trivial))))))))) (by kernel_rfl)
theorem L78_17_b4h (i0 : Int) (i1 : Int) (i2 : Int) (i3 : Int) (i4 : Int) (i5 : Int) (i6 : Int) (i7 : Int) (i8 : Int) (i9 : Int) (b0 : Bool) (b3 : Bool) (x0 : List V) (x3 : List V) (x4 : List V) (o0 : Option Bool) (o3 : Option Bool) (n0 : Nat) (n3 : Nat) : head 0 [0, 1, 2, 3, 4, 6, 10, 11, 14, 32, 33, 34, 35, 52, 53, 54] (Try.cfg.fc 78).acc { tm := [(0, V.sl o0 b0 n0 x0), (1, V.agg [V.int IntKind.u64 i0, V.int IntKind.u64 i1]), (2, V.int IntKind.i64 i2), (3, V.int IntKind.u64 i3), (4, V.int IntKind.u64 i4), (6, V.ptr 0 0), (10, V.sl (some true) true 0 []), (11, V.sl o3 b3 n3 x3), (14, V.ref 302), (15, V.int IntKind.i64 i6), (16, V.int IntKind.u64 i7), (17, V.int IntKind.u64 i8), (32, V.sl o0 b0 n0 x0), (33, V.int IntKind.i64 (↑x0.length : Int)), (34, V.int IntKind.i64 i5), (35, V.bool false), (52, V.sl o3 b3 n3 x3), (53, V.int IntKind.i64 (↑x3.length : Int)), (54, V.int IntKind.i64 (IntKind.i64.wrap (i6 + 1))), (55, V.bool true), (61, V.bool false), (67, V.bool true)], hp := [(0, Ob.var [V.int IntKind.u64 i0, V.int IntKind.u64 i1]), (1, Ob.row false 3 x4), (126, Ob.dead), (142, Ob.dead), (298, Ob.row false 3 [V.agg [V.int IntKind.u64 i7, V.int IntKind.u64 (IntKind.u64.wrap (i8 - i7)), V.int IntKind.i64 i9]]), (302, Ob.row false 3 (x4 ++ [V.agg [V.int IntKind.u64 i7, V.int IntKind.u64 (IntKind.u64.wrap (i8 - i7)), V.int IntKind.i64 i9]]))], nx := 330 } = { tm := [(0, V.sl o0 b0 n0 x0), (1, V.agg [V.int IntKind.u64 i0, V.int IntKind.u64 i1]), (2, V.int IntKind.i64 i2), (3, V.int IntKind.u64 i3), (4, V.int IntKind.u64 i4), (6, V.ptr 0 0), (10, V.sl (some true) true 0 []), (11, V.sl o3 b3 n3 x3), (14, V.ref 1), (32, V.sl o0 b0 n0 x0), (33, V.int IntKind.i64 (↑x0.length : Int)), (34, V.int IntKind.i64 i5), (35, V.bool false), (52, V.sl o3 b3 n3 x3), (53, V.int IntKind.i64 (↑x3.length : Int)), (54, V.int IntKind.i64 (IntKind.i64.wrap (i6 + 1)))], hp := [(0, Ob.var [V.int IntKind.u64 i0, V.int IntKind.u64 i1]), (1, Ob.row false 3 (x4 ++ [V.agg [V.int IntKind.u64 i7, V.int IntKind.u64 (IntKind.u64.wrap (i8 - i7)), V.int IntKind.i64 i9]]))], nx := 2 } := by kernel_rfl
theorem L78_17_b5 (i0 : Int) (i1 : Int) (i2 : Int) (i3 : Int) (i4 : Int) (i5 : Int) (i6 : Int) (i7 : Int) (i8 : Int) (i9 : Int) (i10 : Int) (i11 : Int) (b0 : Bool) (b3 : Bool) (x0 : List V) (x3 : List V) (x4 : List V) (o0 : Option Bool) (o3 : Option Bool) (n0 : Nat) (n3 : Nat) (k : Nat)
    (c0 : decide (i6 < (↑x3.length : Int)) = true)
    (c1 : IdxP x3 i6 n3 1 (V.int IntKind.u64 i7))
    (c2 : decide (i7 < i3) = false)
    (c3 : decide (IntKind.i64.wrap (i6 + 1) < (↑x3.length : Int)) = false)
    (c4 : callP (evalFn Try.prog Try.cfg (k + 8)) 114 [V.sl o0 b0 n0 x0, V.agg [V.int IntKind.u64 i0, V.int IntKind.u64 i1], V.int IntKind.i64 i2, V.int IntKind.u64 i7] = some (V.int IntKind.i64 i8))
    (c5 : GrdW ((3 : Nat) = (3 : Nat) ∧ (0 : Nat) < (3 : Nat) ∧ (24 : Nat) ≤ (64 : Nat) ∧ (0 : Nat) + x4.length ≤ maxLen') (V.ref (118 : Nat)) [((102 : Nat), Ob.dead), ((118 : Nat), Ob.row false (3 : Nat) x4)])
    (c6 : decide (0 ≤ IntKind.i64.wrap ((↑x4.length : Int) - 1)) = true)
    (c7 : IdxR x4.length (IntKind.i64.wrap ((↑x4.length : Int) - 1)) 3 3 (V.ept 118 (IntKind.i64.wrap ((↑x4.length : Int) - 1)).toNat 0))
    (c8 : LdP Try.prog 3 x4 (IntKind.i64.wrap ((↑x4.length : Int) - 1)).toNat 2 (V.int IntKind.i64 i11))
    (c9 : decide (i11 = i8) = true)
    (c10 : IdxR x4.length (IntKind.i64.wrap ((↑x4.length : Int) - 1)) 3 3 (V.ept 118 (IntKind.i64.wrap ((↑x4.length : Int) - 1)).toNat 0))
    (c11 : LdP Try.prog 22 x4 (IntKind.i64.wrap ((↑x4.length : Int) - 1)).toNat 0 (V.int IntKind.u64 i9))
    (c12 : IdxR x4.length (IntKind.i64.wrap ((↑x4.length : Int) - 1)) 3 3 (V.ept 118 (IntKind.i64.wrap ((↑x4.length : Int) - 1)).toNat 0))
    (c13 : LdP Try.prog 22 x4 (IntKind.i64.wrap ((↑x4.length : Int) - 1)).toNat 1 (V.int IntKind.u64 i10))
    (c14 : decide (IntKind.u64.wrap (i9 + i10) = i7) = true)
    (c15 : IdxR x4.length (IntKind.i64.wrap ((↑x4.length : Int) - 1)) 3 3 (V.ept 118 (IntKind.i64.wrap ((↑x4.length : Int) - 1)).toNat 0))
    (c16 : LdP Try.prog 22 x4 (IntKind.i64.wrap ((↑x4.length : Int) - 1)).toNat 0 (V.int IntKind.u64 i9))
    (c17 : IdxR x4.length (IntKind.i64.wrap ((↑x4.length : Int) - 1)) 3 3 (V.ept 118 (IntKind.i64.wrap ((↑x4.length : Int) - 1)).toNat 0))
    (c18 : StE (false = false ∧ (rid (V.int IntKind.u64 (IntKind.u64.wrap (i4 - i9)))).contains 118 = false ∧ (IntKind.i64.wrap ((↑x4.length : Int) - 1)).toNat < x4.length) x4 (IntKind.i64.wrap ((↑x4.length : Int) - 1)).toNat 118 3 1 [V.int IntKind.u64 (IntKind.u64.wrap (i4 - i9))] (V.tup []) [(118, Ob.row false 3 (x4.set (IntKind.i64.wrap ((↑x4.length : Int) - 1)).toNat (V.agg [V.int IntKind.u64 i9, V.int IntKind.u64 (IntKind.u64.wrap (i4 - i9)), V.int IntKind.i64 i11])))]) :
    evalCode Try.prog Try.cfg (evalFn Try.prog Try.cfg (k + 8)) 0 (Try.cfg.fc 78) (k + 8) (loopBody Try.f78 1) { tm := [(0, V.sl o0 b0 n0 x0), (1, V.agg [V.int IntKind.u64 i0, V.int IntKind.u64 i1]), (2, V.int IntKind.i64 i2), (3, V.int IntKind.u64 i3), (4, V.int IntKind.u64 i4), (6, V.ptr 0 0), (10, V.sl (some true) true 0 []), (11, V.sl o3 b3 n3 x3), (14, V.ref 1), (32, V.sl o0 b0 n0 x0), (33, V.int IntKind.i64 (↑x0.length : Int)), (34, V.int IntKind.i64 i5), (35, V.bool false), (52, V.sl o3 b3 n3 x3), (53, V.int IntKind.i64 (↑x3.length : Int)), (54, V.int IntKind.i64 i6)], hp := [(0, Ob.var [V.int IntKind.u64 i0, V.int IntKind.u64 i1]), (1, Ob.row false 3 x4)], nx := 2 } = some (Exit.normal, { tm := [(0, V.sl o0 b0 n0 x0), (1, V.agg [V.int IntKind.u64 i0, V.int IntKind.u64 i1]), (2, V.int IntKind.i64 i2), (3, V.int IntKind.u64 i3), (4, V.int IntKind.u64 i4), (6, V.ptr 0 0), (10, V.sl (some true) true 0 []), (11, V.sl o3 b3 n3 x3), (14, V.ref 118), (15, V.int IntKind.i64 i6), (16, V.int IntKind.u64 i7), (17, V.int IntKind.u64 i4), (32, V.sl o0 b0 n0 x0), (33, V.int IntKind.i64 (↑x0.length : Int)), (34, V.int IntKind.i64 i5), (35, V.bool false), (52, V.sl o3 b3 n3 x3), (53, V.int IntKind.i64 (↑x3.length : Int)), (54, V.int IntKind.i64 (IntKind.i64.wrap (i6 + 1))), (55, V.bool true), (61, V.bool false), (67, V.bool false)], hp := [(0, Ob.var [V.int IntKind.u64 i0, V.int IntKind.u64 i1]), (1, Ob.row false 3 x4), (102, Ob.dead), (118, Ob.row false 3 (x4.set (IntKind.i64.wrap ((↑x4.length : Int) - 1)).toNat (V.agg [V.int IntKind.u64 i9, V.int IntKind.u64 (IntKind.u64.wrap (i4 - i9)), V.int IntKind.i64 i11])))], nx := 314 }) :=
  byL (k := k) (d := 8) [Hn.br 55 true, Hn.op 57 ((V.int IntKind.u64 i7).cpt 0) [], Hn.br 61 false, Hn.br 67 false, Hn.call 80 (V.int IntKind.i64 i8), Hn.enter, Hn.op 14 (V.ref 118) [(102, Ob.dead), (118, Ob.row false 3 x4)], Hn.br 20 true, Hn.op 23 (V.ept 118 (IntKind.i64.wrap ((↑x4.length : Int) - 1)).toNat 0) [], Hn.op 25 (V.int IntKind.i64 i11) [], Hn.br 29 true, Hn.op 32 (V.ept 118 (IntKind.i64.wrap ((↑x4.length : Int) - 1)).toNat 0) [], Hn.op 34 (V.int IntKind.u64 i9) [], Hn.op 37 (V.ept 118 (IntKind.i64.wrap ((↑x4.length : Int) - 1)).toNat 0) [], Hn.op 39 (V.int IntKind.u64 i10) [], Hn.br 43 true, Hn.op 49 (V.ept 118 (IntKind.i64.wrap ((↑x4.length : Int) - 1)).toNat 0) [], Hn.op 51 (V.int IntKind.u64 i9) [], Hn.op 53 (V.ept 118 (IntKind.i64.wrap ((↑x4.length : Int) - 1)).toNat 0) [], Hn.wr 290 (V.tup []) [(118, Ob.row false 3 (x4.set (IntKind.i64.wrap ((↑x4.length : Int) - 1)).toNat (V.agg [V.int IntKind.u64 i9, V.int IntKind.u64 (IntKind.u64.wrap (i4 - i9)), V.int IntKind.i64 i11])))]] (And.intro c0 (And.intro c1 (And.intro c2 (And.intro c3 (And.intro c4 (And.intro c5 (And.intro c6 (And.intro c7 (And.intro c8 (And.intro c9 (And.intro c10 (And.intro c11 (And.intro c12 (And.intro c13 (And.intro c14 (And.intro c15 (And.intro c16 (And.intro c17 (And.intro c18 trivial))))))))))))))))))) (by kernel_rfl)
theorem L78_17_b5h (i0 : Int) (i1 : Int) (i2 : Int) (i3 : Int) (i4 : Int) (i5 : Int) (i6 : Int) (i7 : Int) (i9 : Int) (i11 : Int) (b0 : Bool) (b3 : Bool) (x0 : List V) (x3 : List V) (x4 : List V) (o0 : Option Bool) (o3 : Option Bool) (n0 : Nat) (n3 : Nat) : head 0 [0, 1, 2, 3, 4, 6, 10, 11, 14, 32, 33, 34, 35, 52, 53, 54] (Try.cfg.fc 78).acc { tm := [(0, V.sl o0 b0 n0 x0), (1, V.agg [V.int IntKind.u64 i0, V.int IntKind.u64 i1]), (2, V.int IntKind.i64 i2), (3, V.int IntKind.u64 i3), (4, V.int IntKind.u64 i4), (6, V.ptr 0 0), (10, V.sl (some true) true 0 []), (11, V.sl o3 b3 n3 x3), (14, V.ref 118), (15, V.int IntKind.i64 i6), (16, V.int IntKind.u64 i7), (17, V.int IntKind.u64 i4), (32, V.sl o0 b0 n0 x0), (33, V.int IntKind.i64 (↑x0.length : Int)), (34, V.int IntKind.i64 i5), (35, V.bool false), (52, V.sl o3 b3 n3 x3), (53, V.int IntKind.i64 (↑x3.length : Int)), (54, V.int IntKind.i64 (IntKind.i64.wrap (i6 + 1))), (55, V.bool true), (61, V.bool false), (67, V.bool false)], hp := [(0, Ob.var [V.int IntKind.u64 i0, V.int IntKind.u64 i1]), (1, Ob.row false 3 x4), (102, Ob.dead), (118, Ob.row false 3 (x4.set (IntKind.i64.wrap ((↑x4.length : Int) - 1)).toNat (V.agg [V.int IntKind.u64 i9, V.int IntKind.u64 (IntKind.u64.wrap (i4 - i9)), V.int IntKind.i64 i11])))], nx := 314 } = { tm := [(0, V.sl o0 b0 n0 x0), (1, V.agg [V.int IntKind.u64 i0, V.int IntKind.u64 i1]), (2, V.int IntKind.i64 i2), (3, V.int IntKind.u64 i3), (4, V.int IntKind.u64 i4), (6, V.ptr 0 0), (10, V.sl (some true) true 0 []), (11, V.sl o3 b3 n3 x3), (14, V.ref 1), (32, V.sl o0 b0 n0 x0), (33, V.int IntKind.i64 (↑x0.length : Int)), (34, V.int IntKind.i64 i5), (35, V.bool false), (52, V.sl o3 b3 n3 x3), (53, V.int IntKind.i64 (↑x3.length : Int)), (54, V.int IntKind.i64 (IntKind.i64.wrap (i6 + 1)))], hp := [(0, Ob.var [V.int IntKind.u64 i0, V.int IntKind.u64 i1]), (1, Ob.row false 3 (x4.set (IntKind.i64.wrap ((↑x4.length : Int) - 1)).toNat (V.agg [V.int IntKind.u64 i9, V.int IntKind.u64 (IntKind.u64.wrap (i4 - i9)), V.int IntKind.i64 i11])))], nx := 2 } := by kernel_rfl
theorem L78_17_b6 (i0 : Int) (i1 : Int) (i2 : Int) (i3 : Int) (i4 : Int) (i5 : Int) (i6 : Int) (i7 : Int) (i8 : Int) (i9 : Int) (i10 : Int) (i11 : Int) (b0 : Bool) (b3 : Bool) (x0 : List V) (x3 : List V) (x4 : List V) (o0 : Option Bool) (o3 : Option Bool) (n0 : Nat) (n3 : Nat) (k : Nat)
    (c0 : decide (i6 < (↑x3.length : Int)) = true)
    (c1 : IdxP x3 i6 n3 1 (V.int IntKind.u64 i7))
    (c2 : decide (i7 < i3) = false)
    (c3 : decide (IntKind.i64.wrap (i6 + 1) < (↑x3.length : Int)) = false)
    (c4 : callP (evalFn Try.prog Try.cfg (k + 8)) 114 [V.sl o0 b0 n0 x0, V.agg [V.int IntKind.u64 i0, V.int IntKind.u64 i1], V.int IntKind.i64 i2, V.int IntKind.u64 i7] = some (V.int IntKind.i64 i8))
    (c5 : GrdW ((3 : Nat) = (3 : Nat) ∧ (0 : Nat) < (3 : Nat) ∧ (24 : Nat) ≤ (64 : Nat) ∧ (0 : Nat) + x4.length ≤ maxLen') (V.ref (118 : Nat)) [((102 : Nat), Ob.dead), ((118 : Nat), Ob.row false (3 : Nat) x4)])
    (c6 : decide (0 ≤ IntKind.i64.wrap ((↑x4.length : Int) - 1)) = true)
    (c7 : IdxR x4.length (IntKind.i64.wrap ((↑x4.length : Int) - 1)) 3 3 (V.ept 118 (IntKind.i64.wrap ((↑x4.length : Int) - 1)).toNat 0))
    (c8 : LdP Try.prog 3 x4 (IntKind.i64.wrap ((↑x4.length : Int) - 1)).toNat 2 (V.int IntKind.i64 i11))
    (c9 : decide (i11 = i8) = true)
    (c10 : IdxR x4.length (IntKind.i64.wrap ((↑x4.length : Int) - 1)) 3 3 (V.ept 118 (IntKind.i64.wrap ((↑x4.length : Int) - 1)).toNat 0))
    (c11 : LdP Try.prog 22 x4 (IntKind.i64.wrap ((↑x4.length : Int) - 1)).toNat 0 (V.int IntKind.u64 i9))
    (c12 : IdxR x4.length (IntKind.i64.wrap ((↑x4.length : Int) - 1)) 3 3 (V.ept 118 (IntKind.i64.wrap ((↑x4.length : Int) - 1)).toNat 0))
    (c13 : LdP Try.prog 22 x4 (IntKind.i64.wrap ((↑x4.length : Int) - 1)).toNat 1 (V.int IntKind.u64 i10))
    (c14 : decide (IntKind.u64.wrap (i9 + i10) = i7) = false)
    (c15 : GrdW ((3 : Nat) = (3 : Nat) ∧ (0 : Nat) < (3 : Nat) ∧ (24 : Nat) ≤ (64 : Nat) ∧ x4.length + (1 : Nat) ≤ maxLen') (V.ref (278 : Nat)) [((118 : Nat), Ob.dead), ((278 : Nat), Ob.row false (3 : Nat) (x4 ++ [V.agg [V.int IntKind.u64 i7, V.int IntKind.u64 (IntKind.u64.wrap (i4 - i7)), V.int IntKind.i64 i8]]))]) :
    evalCode Try.prog Try.cfg (evalFn Try.prog Try.cfg (k + 8)) 0 (Try.cfg.fc 78) (k + 8) (loopBody Try.f78 1) { tm := [(0, V.sl o0 b0 n0 x0), (1, V.agg [V.int IntKind.u64 i0, V.int IntKind.u64 i1]), (2, V.int IntKind.i64 i2), (3, V.int IntKind.u64 i3), (4, V.int IntKind.u64 i4), (6, V.ptr 0 0), (10, V.sl (some true) true 0 []), (11, V.sl o3 b3 n3 x3), (14, V.ref 1), (32, V.sl o0 b0 n0 x0), (33, V.int IntKind.i64 (↑x0.length : Int)), (34, V.int IntKind.i64 i5), (35, V.bool false), (52, V.sl o3 b3 n3 x3), (53, V.int IntKind.i64 (↑x3.length : Int)), (54, V.int IntKind.i64 i6)], hp := [(0, Ob.var [V.int IntKind.u64 i0, V.int IntKind.u64 i1]), (1, Ob.row false 3 x4)], nx := 2 } = some (Exit.normal, { tm := [(0, V.sl o0 b0 n0 x0), (1, V.agg [V.int IntKind.u64 i0, V.int IntKind.u64 i1]), (2, V.int IntKind.i64 i2), (3, V.int IntKind.u64 i3), (4, V.int IntKind.u64 i4), (6, V.ptr 0 0), (10, V.sl (some true) true 0 []), (11, V.sl o3 b3 n3 x3), (14, V.ref 278), (15, V.int IntKind.i64 i6), (16, V.int IntKind.u64 i7), (17, V.int IntKind.u64 i4), (32, V.sl o0 b0 n0 x0), (33, V.int IntKind.i64 (↑x0.length : Int)), (34, V.int IntKind.i64 i5), (35, V.bool false), (52, V.sl o3 b3 n3 x3), (53, V.int IntKind.i64 (↑x3.length : Int)), (54, V.int IntKind.i64 (IntKind.i64.wrap (i6 + 1))), (55, V.bool true), (61, V.bool false), (67, V.bool false)], hp := [(0, Ob.var [V.int IntKind.u64 i0, V.int IntKind.u64 i1]), (1, Ob.row false 3 x4), (102, Ob.dead), (118, Ob.dead), (274, Ob.row false 3 [V.agg [V.int IntKind.u64 i7, V.int IntKind.u64 (IntKind.u64.wrap (i4 - i7)), V.int IntKind.i64 i8]]), (278, Ob.row false 3 (x4 ++ [V.agg [V.int IntKind.u64 i7, V.int IntKind.u64 (IntKind.u64.wrap (i4 - i7)), V.int IntKind.i64 i8]]))], nx := 306 }) :=
  byL (k := k) (d := 8) [Hn.br 55 true, Hn.op 57 ((V.int IntKind.u64 i7).cpt 0) [], Hn.br 61 false, Hn.br 67 false, Hn.call 80 (V.int IntKind.i64 i8), Hn.enter, Hn.op 14 (V.ref 118) [(102, Ob.dead), (118, Ob.row false 3 x4)], Hn.br 20 true, Hn.op 23 (V.ept 118 (IntKind.i64.wrap ((↑x4.length : Int) - 1)).toNat 0) [], Hn.op 25 (V.int IntKind.i64 i11) [], Hn.br 29 true, Hn.op 32 (V.ept 118 (IntKind.i64.wrap ((↑x4.length : Int) - 1)).toNat 0) [], Hn.op 34 (V.int IntKind.u64 i9) [], Hn.op 37 (V.ept 118 (IntKind.i64.wrap ((↑x4.length : Int) - 1)).toNat 0) [], Hn.op 39 (V.int IntKind.u64 i10) [], Hn.br 43 false, Hn.op 64 (V.ref 278) [(118, Ob.dead), (278, Ob.row false 3 (x4 ++ [V.agg [V.int IntKind.u64 i7, V.int IntKind.u64 (IntKind.u64.wrap (i4 - i7)), V.int IntKind.i64 i8]]))]] (And.intro c0 (And.intro c1 (And.intro c2 (And.intro c3 (And.intro c4 (And.intro c5 (And.intro c6 (And.intro c7 (And.intro c8 (And.intro c9 (And.intro c10 (And.intro c11 (And.intro c12 (And.intro c13 (And.intro c14 (And.intro c15 trivial)))))))))))))))) (by kernel_rfl)
theorem L78_17_b6h (i0 : Int) (i1 : Int) (i2 : Int) (i3 : Int) (i4 : Int) (i5 : Int) (i6 : Int) (i7 : Int) (i8 : Int) (b0 : Bool) (b3 : Bool) (x0 : List V) (x3 : List V) (x4 : List V) (o0 : Option Bool) (o3 : Option Bool) (n0 : Nat) (n3 : Nat) : head 0 [0, 1, 2, 3, 4, 6, 10, 11, 14, 32, 33, 34, 35, 52, 53, 54] (Try.cfg.fc 78).acc { tm := [(0, V.sl o0 b0 n0 x0), (1, V.agg [V.int IntKind.u64 i0, V.int IntKind.u64 i1]), (2, V.int IntKind.i64 i2), (3, V.int IntKind.u64 i3), (4, V.int IntKind.u64 i4), (6, V.ptr 0 0), (10, V.sl (some true) true 0 []), (11, V.sl o3 b3 n3 x3), (14, V.ref 278), (15, V.int IntKind.i64 i6), (16, V.int IntKind.u64 i7), (17, V.int IntKind.u64 i4), (32, V.sl o0 b0 n0 x0), (33, V.int IntKind.i64 (↑x0.length : Int)), (34, V.int IntKind.i64 i5), (35, V.bool false), (52, V.sl o3 b3 n3 x3), (53, V.int IntKind.i64 (↑x3.length : Int)), (54, V.int IntKind.i64 (IntKind.i64.wrap (i6 + 1))), (55, V.bool true), (61, V.bool false), (67, V.bool false)], hp := [(0, Ob.var [V.int IntKind.u64 i0, V.int IntKind.u64 i1]), (1, Ob.row false 3 x4), (102, Ob.dead), (118, Ob.dead), (274, Ob.row false 3 [V.agg [V.int IntKind.u64 i7, V.int IntKind.u64 (IntKind.u64.wrap (i4 - i7)), V.int IntKind.i64 i8]]), (278, Ob.row false 3 (x4 ++ [V.agg [V.int IntKind.u64 i7, V.int IntKind.u64 (IntKind.u64.wrap (i4 - i7)), V.int IntKind.i64 i8]]))], nx := 306 } = { tm := [(0, V.sl o0 b0 n0 x0), (1, V.agg [V.int IntKind.u64 i0, V.int IntKind.u64 i1]), (2, V.int IntKind.i64 i2), (3, V.int IntKind.u64 i3), (4, V.int IntKind.u64 i4), (6, V.ptr 0 0), (10, V.sl (some true) true 0 []), (11, V.sl o3 b3 n3 x3), (14, V.ref 1), (32, V.sl o0 b0 n0 x0), (33, V.int IntKind.i64 (↑x0.length : Int)), (34, V.int IntKind.i64 i5), (35, V.bool false), (52, V.sl o3 b3 n3 x3), (53, V.int IntKind.i64 (↑x3.length : Int)), (54, V.int IntKind.i64 (IntKind.i64.wrap (i6 + 1)))], hp := [(0, Ob.var [V.int IntKind.u64 i0, V.int IntKind.u64 i1]), (1, Ob.row false 3 (x4 ++ [V.agg [V.int IntKind.u64 i7, V.int IntKind.u64 (IntKind.u64.wrap (i4 - i7)), V.int IntKind.i64 i8]]))], nx := 2 } := by kernel_rfl
theorem L78_17_b7 (i0 : Int) (i1 : Int) (i2 : Int) (i3 : Int) (i4 : Int) (i5 : Int) (i6 : Int) (i7 : Int) (i8 : Int) (i11 : Int) (b0 : Bool) (b3 : Bool) (x0 : List V) (x3 : List V) (x4 : List V) (o0 : Option Bool) (o3 : Option Bool) (n0 : Nat) (n3 : Nat) (k : Nat)
    (c0 : decide (i6 < (↑x3.length : Int)) = true)
    (c1 : IdxP x3 i6 n3 1 (V.int IntKind.u64 i7))
    (c2 : decide (i7 < i3) = false)
    (c3 : decide (IntKind.i64.wrap (i6 + 1) < (↑x3.length : Int)) = false)
    (c4 : callP (evalFn Try.prog Try.cfg (k + 8)) 114 [V.sl o0 b0 n0 x0, V.agg [V.int IntKind.u64 i0, V.int IntKind.u64 i1], V.int IntKind.i64 i2, V.int IntKind.u64 i7] = some (V.int IntKind.i64 i8))
    (c5 : GrdW ((3 : Nat) = (3 : Nat) ∧ (0 : Nat) < (3 : Nat) ∧ (24 : Nat) ≤ (64 : Nat) ∧ (0 : Nat) + x4.length ≤ maxLen') (V.ref (118 : Nat)) [((102 : Nat), Ob.dead), ((118 : Nat), Ob.row false (3 : Nat) x4)])
    (c6 : decide (0 ≤ IntKind.i64.wrap ((↑x4.length : Int) - 1)) = true)
    (c7 : IdxR x4.length (IntKind.i64.wrap ((↑x4.length : Int) - 1)) 3 3 (V.ept 118 (IntKind.i64.wrap ((↑x4.length : Int) - 1)).toNat 0))
    (c8 : LdP Try.prog 3 x4 (IntKind.i64.wrap ((↑x4.length : Int) - 1)).toNat 2 (V.int IntKind.i64 i11))
    (c9 : decide (i11 = i8) = false)
    (c10 : GrdW ((3 : Nat) = (3 : Nat) ∧ (0 : Nat) < (3 : Nat) ∧ (24 : Nat) ≤ (64 : Nat) ∧ x4.length + (1 : Nat) ≤ maxLen') (V.ref (278 : Nat)) [((118 : Nat), Ob.dead), ((278 : Nat), Ob.row false (3 : Nat) (x4 ++ [V.agg [V.int IntKind.u64 i7, V.int IntKind.u64 (IntKind.u64.wrap (i4 - i7)), V.int IntKind.i64 i8]]))]) :
    evalCode Try.prog Try.cfg (evalFn Try.prog Try.cfg (k + 8)) 0 (Try.cfg.fc 78) (k + 8) (loopBody Try.f78 1) { tm := [(0, V.sl o0 b0 n0 x0), (1, V.agg [V.int IntKind.u64 i0, V.int IntKind.u64 i1]), (2, V.int IntKind.i64 i2), (3, V.int IntKind.u64 i3), (4, V.int IntKind.u64 i4), (6, V.ptr 0 0), (10, V.sl (some true) true 0 []), (11, V.sl o3 b3 n3 x3), (14, V.ref 1), (32, V.sl o0 b0 n0 x0), (33, V.int IntKind.i64 (↑x0.length : Int)), (34, V.int IntKind.i64 i5), (35, V.bool false), (52, V.sl o3 b3 n3 x3), (53, V.int IntKind.i64 (↑x3.length : Int)), (54, V.int IntKind.i64 i6)], hp := [(0, Ob.var [V.int IntKind.u64 i0, V.int IntKind.u64 i1]), (1, Ob.row false 3 x4)], nx := 2 } = some (Exit.normal, { tm := [(0, V.sl o0 b0 n0 x0), (1, V.agg [V.int IntKind.u64 i0, V.int IntKind.u64 i1]), (2, V.int IntKind.i64 i2), (3, V.int IntKind.u64 i3), (4, V.int IntKind.u64 i4), (6, V.ptr 0 0), (10, V.sl (some true) true 0 []), (11, V.sl o3 b3 n3 x3), (14, V.ref 278), (15, V.int IntKind.i64 i6), (16, V.int IntKind.u64 i7), (17, V.int IntKind.u64 i4), (32, V.sl o0 b0 n0 x0), (33, V.int IntKind.i64 (↑x0.length : Int)), (34, V.int IntKind.i64 i5), (35, V.bool false), (52, V.sl o3 b3 n3 x3), (53, V.int IntKind.i64 (↑x3.length : Int)), (54, V.int IntKind.i64 (IntKind.i64.wrap (i6 + 1))), (55, V.bool true), (61, V.bool false), (67, V.bool false)], hp := [(0, Ob.var [V.int IntKind.u64 i0, V.int IntKind.u64 i1]), (1, Ob.row false 3 x4), (102, Ob.dead), (118, Ob.dead), (274, Ob.row false 3 [V.agg [V.int IntKind.u64 i7, V.int IntKind.u64 (IntKind.u64.wrap (i4 - i7)), V.int IntKind.i64 i8]]), (278, Ob.row false 3 (x4 ++ [V.agg [V.int IntKind.u64 i7, V.int IntKind.u64 (IntKind.u64.wrap (i4 - i7)), V.int IntKind.i64 i8]]))], nx := 306 }) :=
  byL (k := k) (d := 8) [Hn.br 55 true, Hn.op 57 ((V.int IntKind.u64 i7).cpt 0) [], Hn.br 61 false, Hn.br 67 false, Hn.call 80 (V.int IntKind.i64 i8), Hn.enter, Hn.op 14 (V.ref 118) [(102, Ob.dead), (118, Ob.row false 3 x4)], Hn.br 20 true, Hn.op 23 (V.ept 118 (IntKind.i64.wrap ((↑x4.length : Int) - 1)).toNat 0) [], Hn.op 25 (V.int IntKind.i64 i11) [], Hn.br 29 false, Hn.op 64 (V.ref 278) [(118, Ob.dead), (278, Ob.row false 3 (x4 ++ [V.agg [V.int IntKind.u64 i7, V.int IntKind.u64 (IntKind.u64.wrap (i4 - i7)), V.int IntKind.i64 i8]]))]] (And.intro c0 (And.intro c1 (And.intro c2 (And.intro c3 (And.intro c4 (And.intro c5 (And.intro c6 (And.intro c7 (And.intro c8 (And.intro c9 (And.intro c10 trivial))))))))))) (by kernel_rfl)
theorem L78_17_b7h (i0 : Int) (i1 : Int) (i2 : Int) (i3 : Int) (i4 : Int) (i5 : Int) (i6 : Int) (i7 : Int) (i8 : Int) (b0 : Bool) (b3 : Bool) (x0 : List V) (x3 : List V) (x4 : List V) (o0 : Option Bool) (o3 : Option Bool) (n0 : Nat) (n3 : Nat) : head 0 [0, 1, 2, 3, 4, 6, 10, 11, 14, 32, 33, 34, 35, 52, 53, 54] (Try.cfg.fc 78).acc { tm := [(0, V.sl o0 b0 n0 x0), (1, V.agg [V.int IntKind.u64 i0, V.int IntKind.u64 i1]), (2, V.int IntKind.i64 i2), (3, V.int IntKind.u64 i3), (4, V.int IntKind.u64 i4), (6, V.ptr 0 0), (10, V.sl (some true) true 0 []), (11, V.sl o3 b3 n3 x3), (14, V.ref 278), (15, V.int IntKind.i64 i6), (16, V.int IntKind.u64 i7), (17, V.int IntKind.u64 i4), (32, V.sl o0 b0 n0 x0), (33, V.int IntKind.i64 (↑x0.length : Int)), (34, V.int IntKind.i64 i5), (35, V.bool false), (52, V.sl o3 b3 n3 x3), (53, V.int IntKind.i64 (↑x3.length : Int)), (54, V.int IntKind.i64 (IntKind.i64.wrap (i6 + 1))), (55, V.bool true), (61, V.bool false), (67, V.bool false)], hp := [(0, Ob.var [V.int IntKind.u64 i0, V.int IntKind.u64 i1]), (1, Ob.row false 3 x4), (102, Ob.dead), (118, Ob.dead), (274, Ob.row false 3 [V.agg [V.int IntKind.u64 i7, V.int IntKind.u64 (IntKind.u64.wrap (i4 - i7)), V.int IntKind.i64 i8]]), (278, Ob.row false 3 (x4 ++ [V.agg [V.int IntKind.u64 i7, V.int IntKind.u64 (IntKind.u64.wrap (i4 - i7)), V.int IntKind.i64 i8]]))], nx := 306 } = { tm := [(0, V.sl o0 b0 n0 x0), (1, V.agg [V.int IntKind.u64 i0, V.int IntKind.u64 i1]), (2, V.int IntKind.i64 i2), (3, V.int IntKind.u64 i3), (4, V.int IntKind.u64 i4), (6, V.ptr 0 0), (10, V.sl (some true) true 0 []), (11, V.sl o3 b3 n3 x3), (14, V.ref 1), (32, V.sl o0 b0 n0 x0), (33, V.int IntKind.i64 (↑x0.length : Int)), (34, V.int IntKind.i64 i5), (35, V.bool false), (52, V.sl o3 b3 n3 x3), (53, V.int IntKind.i64 (↑x3.length : Int)), (54, V.int IntKind.i64 (IntKind.i64.wrap (i6 + 1)))], hp := [(0, Ob.var [V.int IntKind.u64 i0, V.int IntKind.u64 i1]), (1, Ob.row false 3 (x4 ++ [V.agg [V.int IntKind.u64 i7, V.int IntKind.u64 (IntKind.u64.wrap (i4 - i7)), V.int IntKind.i64 i8]]))], nx := 2 } := by kernel_rfl
theorem L78_17_b8 (i0 : Int) (i1 : Int) (i2 : Int) (i3 : Int) (i4 : Int) (i5 : Int) (i6 : Int) (i7 : Int) (i8 : Int) (b0 : Bool) (b3 : Bool) (x0 : List V) (x3 : List V) (x4 : List V) (o0 : Option Bool) (o3 : Option Bool) (n0 : Nat) (n3 : Nat) (k : Nat)
    (c0 : decide (i6 < (↑x3.length : Int)) = true)
    (c1 : IdxP x3 i6 n3 1 (V.int IntKind.u64 i7))
    (c2 : decide (i7 < i3) = false)
    (c3 : decide (IntKind.i64.wrap (i6 + 1) < (↑x3.length : Int)) = false)
    (c4 : callP (evalFn Try.prog Try.cfg (k + 8)) 114 [V.sl o0 b0 n0 x0, V.agg [V.int IntKind.u64 i0, V.int IntKind.u64 i1], V.int IntKind.i64 i2, V.int IntKind.u64 i7] = some (V.int IntKind.i64 i8))
    (c5 : GrdW ((3 : Nat) = (3 : Nat) ∧ (0 : Nat) < (3 : Nat) ∧ (24 : Nat) ≤ (64 : Nat) ∧ (0 : Nat) + x4.length ≤ maxLen') (V.ref (118 : Nat)) [((102 : Nat), Ob.dead), ((118 : Nat), Ob.row false (3 : Nat) x4)])
    (c6 : decide (0 ≤ IntKind.i64.wrap ((↑x4.length : Int) - 1)) = false)
    (c7 : GrdW ((3 : Nat) = (3 : Nat) ∧ (0 : Nat) < (3 : Nat) ∧ (24 : Nat) ≤ (64 : Nat) ∧ x4.length + (1 : Nat) ≤ maxLen') (V.ref (278 : Nat)) [((118 : Nat), Ob.dead), ((278 : Nat), Ob.row false (3 : Nat) (x4 ++ [V.agg [V.int IntKind.u64 i7, V.int IntKind.u64 (IntKind.u64.wrap (i4 - i7)), V.int IntKind.i64 i8]]))]) :
    evalCode Try.prog Try.cfg (evalFn Try.prog Try.cfg (k + 8)) 0 (Try.cfg.fc 78) (k + 8) (loopBody Try.f78 1) { tm := [(0, V.sl o0 b0 n0 x0), (1, V.agg [V.int IntKind.u64 i0, V.int IntKind.u64 i1]), (2, V.int IntKind.i64 i2), (3, V.int IntKind.u64 i3), (4, V.int IntKind.u64 i4), (6, V.ptr 0 0), (10, V.sl (some true) true 0 []), (11, V.sl o3 b3 n3 x3), (14, V.ref 1), (32, V.sl o0 b0 n0 x0), (33, V.int IntKind.i64 (↑x0.length : Int)), (34, V.int IntKind.i64 i5), (35, V.bool false), (52, V.sl o3 b3 n3 x3), (53, V.int IntKind.i64 (↑x3.length : Int)), (54, V.int IntKind.i64 i6)], hp := [(0, Ob.var [V.int IntKind.u64 i0, V.int IntKind.u64 i1]), (1, Ob.row false 3 x4)], nx := 2 } = some (Exit.normal, { tm := [(0, V.sl o0 b0 n0 x0), (1, V.agg [V.int IntKind.u64 i0, V.int IntKind.u64 i1]), (2, V.int IntKind.i64 i2), (3, V.int IntKind.u64 i3), (4, V.int IntKind.u64 i4), (6, V.ptr 0 0), (10, V.sl (some true) true 0 []), (11, V.sl o3 b3 n3 x3), (14, V.ref 278), (15, V.int IntKind.i64 i6), (16, V.int IntKind.u64 i7), (17, V.int IntKind.u64 i4), (32, V.sl o0 b0 n0 x0), (33, V.int IntKind.i64 (↑x0.length : Int)), (34, V.int IntKind.i64 i5), (35, V.bool false), (52, V.sl o3 b3 n3 x3), (53, V.int IntKind.i64 (↑x3.length : Int)), (54, V.int IntKind.i64 (IntKind.i64.wrap (i6 + 1))), (55, V.bool true), (61, V.bool false), (67, V.bool false)], hp := [(0, Ob.var [V.int IntKind.u64 i0, V.int IntKind.u64 i1]), (1, Ob.row false 3 x4), (102, Ob.dead), (118, Ob.dead), (274, Ob.row false 3 [V.agg [V.int IntKind.u64 i7, V.int IntKind.u64 (IntKind.u64.wrap (i4 - i7)), V.int IntKind.i64 i8]]), (278, Ob.row false 3 (x4 ++ [V.agg [V.int IntKind.u64 i7, V.int IntKind.u64 (IntKind.u64.wrap (i4 - i7)), V.int IntKind.i64 i8]]))], nx := 306 }) :=
  byL (k := k) (d := 8) [Hn.br 55 true, Hn.op 57 ((V.int IntKind.u64 i7).cpt 0) [], Hn.br 61 false, Hn.br 67 false, Hn.call 80 (V.int IntKind.i64 i8), Hn.enter, Hn.op 14 (V.ref 118) [(102, Ob.dead), (118, Ob.row false 3 x4)], Hn.br 20 false, Hn.op 64 (V.ref 278) [(118, Ob.dead), (278, Ob.row false 3 (x4 ++ [V.agg [V.int IntKind.u64 i7, V.int IntKind.u64 (IntKind.u64.wrap (i4 - i7)), V.int IntKind.i64 i8]]))]] (And.intro c0 (And.intro c1 (And.intro c2 (And.intro c3 (And.intro c4 (And.intro c5 (And.intro c6 (And.intro c7 trivial)))))))) (by kernel_rfl)
theorem L78_17_b8h (i0 : Int) (i1 : Int) (i2 : Int) (i3 : Int) (i4 : Int) (i5 : Int) (i6 : Int) (i7 : Int) (i8 : Int) (b0 : Bool) (b3 : Bool) (x0 : List V) (x3 : List V) (x4 : List V) (o0 : Option Bool) (o3 : Option Bool) (n0 : Nat) (n3 : Nat) : head 0 [0, 1, 2, 3, 4, 6, 10, 11, 14, 32, 33, 34, 35, 52, 53, 54] (Try.cfg.fc 78).acc { tm := [(0, V.sl o0 b0 n0 x0), (1, V.agg [V.int IntKind.u64 i0, V.int IntKind.u64 i1]), (2, V.int IntKind.i64 i2), (3, V.int IntKind.u64 i3), (4, V.int IntKind.u64 i4), (6, V.ptr 0 0), (10, V.sl (some true) true 0 []), (11, V.sl o3 b3 n3 x3), (14, V.ref 278), (15, V.int IntKind.i64 i6), (16, V.int IntKind.u64 i7), (17, V.int IntKind.u64 i4), (32, V.sl o0 b0 n0 x0), (33, V.int IntKind.i64 (↑x0.length : Int)), (34, V.int IntKind.i64 i5), (35, V.bool false), (52, V.sl o3 b3 n3 x3), (53, V.int IntKind.i64 (↑x3.length : Int)), (54, V.int IntKind.i64 (IntKind.i64.wrap (i6 + 1))), (55, V.bool true), (61, V.bool false), (67, V.bool false)], hp := [(0, Ob.var [V.int IntKind.u64 i0, V.int IntKind.u64 i1]), (1, Ob.row false 3 x4), (102, Ob.dead), (118, Ob.dead), (274, Ob.row false 3 [V.agg [V.int IntKind.u64 i7, V.int IntKind.u64 (IntKind.u64.wrap (i4 - i7)), V.int IntKind.i64 i8]]), (278, Ob.row false 3 (x4 ++ [V.agg [V.int IntKind.u64 i7, V.int IntKind.u64 (IntKind.u64.wrap (i4 - i7)), V.int IntKind.i64 i8]]))], nx := 306 } = { tm := [(0, V.sl o0 b0 n0 x0), (1, V.agg [V.int IntKind.u64 i0, V.int IntKind.u64 i1]), (2, V.int IntKind.i64 i2), (3, V.int IntKind.u64 i3), (4, V.int IntKind.u64 i4), (6, V.ptr 0 0), (10, V.sl (some true) true 0 []), (11, V.sl o3 b3 n3 x3), (14, V.ref 1), (32, V.sl o0 b0 n0 x0), (33, V.int IntKind.i64 (↑x0.length : Int)), (34, V.int IntKind.i64 i5), (35, V.bool false), (52, V.sl o3 b3 n3 x3), (53, V.int IntKind.i64 (↑x3.length : Int)), (54, V.int IntKind.i64 (IntKind.i64.wrap (i6 + 1)))], hp := [(0, Ob.var [V.int IntKind.u64 i0, V.int IntKind.u64 i1]), (1, Ob.row false 3 (x4 ++ [V.agg [V.int IntKind.u64 i7, V.int IntKind.u64 (IntKind.u64.wrap (i4 - i7)), V.int IntKind.i64 i8]]))], nx := 2 } := by kernel_rfl
theorem L78_17_b9 (i0 : Int) (i1 : Int) (i2 : Int) (i3 : Int) (i4 : Int) (i5 : Int) (i6 : Int) (b0 : Bool) (b3 : Bool) (x0 : List V) (x3 : List V) (x4 : List V) (o0 : Option Bool) (o3 : Option Bool) (n0 : Nat) (n3 : Nat) (k : Nat)
    (c0 : decide (i6 < (↑x3.length : Int)) = false) :
    evalCode Try.prog Try.cfg (evalFn Try.prog Try.cfg (k + 8)) 0 (Try.cfg.fc 78) (k + 8) (loopBody Try.f78 1) { tm := [(0, V.sl o0 b0 n0 x0), (1, V.agg [V.int IntKind.u64 i0, V.int IntKind.u64 i1]), (2, V.int IntKind.i64 i2), (3, V.int IntKind.u64 i3), (4, V.int IntKind.u64 i4), (6, V.ptr 0 0), (10, V.sl (some true) true 0 []), (11, V.sl o3 b3 n3 x3), (14, V.ref 1), (32, V.sl o0 b0 n0 x0), (33, V.int IntKind.i64 (↑x0.length : Int)), (34, V.int IntKind.i64 i5), (35, V.bool false), (52, V.sl o3 b3 n3 x3), (53, V.int IntKind.i64 (↑x3.length : Int)), (54, V.int IntKind.i64 i6)], hp := [(0, Ob.var [V.int IntKind.u64 i0, V.int IntKind.u64 i1]), (1, Ob.row false 3 x4)], nx := 2 } = some (Exit.exit 2, { tm := [(0, V.sl o0 b0 n0 x0), (1, V.agg [V.int IntKind.u64 i0, V.int IntKind.u64 i1]), (2, V.int IntKind.i64 i2), (3, V.int IntKind.u64 i3), (4, V.int IntKind.u64 i4), (6, V.ptr 0 0), (10, V.sl (some true) true 0 []), (11, V.sl o3 b3 n3 x3), (14, V.ref 1), (32, V.sl o0 b0 n0 x0), (33, V.int IntKind.i64 (↑x0.length : Int)), (34, V.int IntKind.i64 i5), (35, V.bool false), (52, V.sl o3 b3 n3 x3), (53, V.int IntKind.i64 (↑x3.length : Int)), (54, V.int IntKind.i64 i6), (55, V.bool false)], hp := [(0, Ob.var [V.int IntKind.u64 i0, V.int IntKind.u64 i1]), (1, Ob.row false 3 x4)], nx := 6 }) :=
  byL (k := k) (d := 8) [Hn.br 55 false] (And.intro c0 trivial) (by kernel_rfl)
inductive L78_17_R where
  | e0 (i6 : Int) (x4 : List V)
noncomputable def L78_17_end (i0 : Int) (i1 : Int) (i2 : Int) (i3 : Int) (i4 : Int) (i5 : Int) (b0 : Bool) (b3 : Bool) (x0 : List V) (x3 : List V) (o0 : Option Bool) (o3 : Option Bool) (n0 : Nat) (n3 : Nat) : L78_17_R → Exit × St
  | .e0 i6 x4 => (Exit.exit 2, { tm := [(0, V.sl o0 b0 n0 x0), (1, V.agg [V.int IntKind.u64 i0, V.int IntKind.u64 i1]), (2, V.int IntKind.i64 i2), (3, V.int IntKind.u64 i3), (4, V.int IntKind.u64 i4), (6, V.ptr 0 0), (10, V.sl (some true) true 0 []), (11, V.sl o3 b3 n3 x3), (14, V.ref 1), (32, V.sl o0 b0 n0 x0), (33, V.int IntKind.i64 (↑x0.length : Int)), (34, V.int IntKind.i64 i5), (35, V.bool false), (52, V.sl o3 b3 n3 x3), (53, V.int IntKind.i64 (↑x3.length : Int)), (54, V.int IntKind.i64 i6), (55, V.bool false)], hp := [(0, Ob.var [V.int IntKind.u64 i0, V.int IntKind.u64 i1]), (1, Ob.row false 3 x4)], nx := 6 })
def L78_17 (k : Nat) (i0 : Int) (i1 : Int) (i2 : Int) (i3 : Int) (i4 : Int) (i5 : Int) (b0 : Bool) (b3 : Bool) (x0 : List V) (x3 : List V) (o0 : Option Bool) (o3 : Option Bool) (n0 : Nat) (n3 : Nat) : Nat → Int → List V → Option L78_17_R
  | 0, _, _ => none
  | f + 1, i6, x4 => (bif decide (i6 < (↑x3.length : Int)) then (guardP (n3 = (1 : Nat)) (((at? (x3) (i6)).bind (dI IntKind.u64)).bind fun i7 => (bif decide (i7 < i3) then (L78_17 k i0 i1 i2 i3 i4 i5 b0 b3 x0 x3 o0 o3 n0 n3 f (IntKind.i64.wrap (i6 + 1)) (x4)) else (bif decide (IntKind.i64.wrap (i6 + 1) < (↑x3.length : Int)) then (((at? (x3) (IntKind.i64.wrap (i6 + 1))).bind (dI IntKind.u64)).bind fun i8 => ((F114 (k + 2) (o0) (b0) (n0) (x0) (i0) (i1) (i2) (i7)).bind fun i9 => (guardP ((0 : Nat) + x4.length ≤ maxLen') (bif decide (0 ≤ IntKind.i64.wrap ((↑x4.length : Int) - 1)) then (guardP ((0 : Int) ≤ IntKind.i64.wrap ((↑x4.length : Int) - (1 : Int)) ∧ IntKind.i64.wrap ((↑x4.length : Int) - (1 : Int)) < (↑x4.length : Int)) ((((x4)[(IntKind.i64.wrap ((↑x4.length : Int) - 1)).toNat]?).bind dAu64u64i64Z).bind fun (i10, i11, i12) => (bif decide (i12 = i9) then (bif decide (IntKind.u64.wrap (i10 + i11) = i7) then (guardP ((IntKind.i64.wrap ((↑x4.length : Int) - (1 : Int))).toNat < x4.length) (L78_17 k i0 i1 i2 i3 i4 i5 b0 b3 x0 x3 o0 o3 n0 n3 f (IntKind.i64.wrap (i6 + 1)) (x4.set (IntKind.i64.wrap ((↑x4.length : Int) - 1)).toNat (V.agg [V.int IntKind.u64 i10, V.int IntKind.u64 (IntKind.u64.wrap (i8 - i10)), V.int IntKind.i64 i12])))) else (guardP (x4.length + (1 : Nat) ≤ maxLen') (L78_17 k i0 i1 i2 i3 i4 i5 b0 b3 x0 x3 o0 o3 n0 n3 f (IntKind.i64.wrap (i6 + 1)) (x4 ++ [V.agg [V.int IntKind.u64 i7, V.int IntKind.u64 (IntKind.u64.wrap (i8 - i7)), V.int IntKind.i64 i9]])))) else (guardP (x4.length + (1 : Nat) ≤ maxLen') (L78_17 k i0 i1 i2 i3 i4 i5 b0 b3 x0 x3 o0 o3 n0 n3 f (IntKind.i64.wrap (i6 + 1)) (x4 ++ [V.agg [V.int IntKind.u64 i7, V.int IntKind.u64 (IntKind.u64.wrap (i8 - i7)), V.int IntKind.i64 i9]])))))) else (guardP (x4.length + (1 : Nat) ≤ maxLen') (L78_17 k i0 i1 i2 i3 i4 i5 b0 b3 x0 x3 o0 o3 n0 n3 f (IntKind.i64.wrap (i6 + 1)) (x4 ++ [V.agg [V.int IntKind.u64 i7, V.int IntKind.u64 (IntKind.u64.wrap (i8 - i7)), V.int IntKind.i64 i9]]))))))) else ((F114 (k + 2) (o0) (b0) (n0) (x0) (i0) (i1) (i2) (i7)).bind fun i8 => (guardP ((0 : Nat) + x4.length ≤ maxLen') (bif decide (0 ≤ IntKind.i64.wrap ((↑x4.length : Int) - 1)) then (guardP ((0 : Int) ≤ IntKind.i64.wrap ((↑x4.length : Int) - (1 : Int)) ∧ IntKind.i64.wrap ((↑x4.length : Int) - (1 : Int)) < (↑x4.length : Int)) ((((x4)[(IntKind.i64.wrap ((↑x4.length : Int) - 1)).toNat]?).bind dAu64u64i64Z).bind fun (i9, i10, i11) => (bif decide (i11 = i8) then (bif decide (IntKind.u64.wrap (i9 + i10) = i7) then (guardP ((IntKind.i64.wrap ((↑x4.length : Int) - (1 : Int))).toNat < x4.length) (L78_17 k i0 i1 i2 i3 i4 i5 b0 b3 x0 x3 o0 o3 n0 n3 f (IntKind.i64.wrap (i6 + 1)) (x4.set (IntKind.i64.wrap ((↑x4.length : Int) - 1)).toNat (V.agg [V.int IntKind.u64 i9, V.int IntKind.u64 (IntKind.u64.wrap (i4 - i9)), V.int IntKind.i64 i11])))) else (guardP (x4.length + (1 : Nat) ≤ maxLen') (L78_17 k i0 i1 i2 i3 i4 i5 b0 b3 x0 x3 o0 o3 n0 n3 f (IntKind.i64.wrap (i6 + 1)) (x4 ++ [V.agg [V.int IntKind.u64 i7, V.int IntKind.u64 (IntKind.u64.wrap (i4 - i7)), V.int IntKind.i64 i8]])))) else (guardP (x4.length + (1 : Nat) ≤ maxLen') (L78_17 k i0 i1 i2 i3 i4 i5 b0 b3 x0 x3 o0 o3 n0 n3 f (IntKind.i64.wrap (i6 + 1)) (x4 ++ [V.agg [V.int IntKind.u64 i7, V.int IntKind.u64 (IntKind.u64.wrap (i4 - i7)), V.int IntKind.i64 i8]])))))) else (guardP (x4.length + (1 : Nat) ≤ maxLen') (L78_17 k i0 i1 i2 i3 i4 i5 b0 b3 x0 x3 o0 o3 n0 n3 f (IntKind.i64.wrap (i6 + 1)) (x4 ++ [V.agg [V.int IntKind.u64 i7, V.int IntKind.u64 (IntKind.u64.wrap (i4 - i7)), V.int IntKind.i64 i8]])))))))))) else (some (L78_17_R.e0 i6 x4)))
theorem L78_17_ok {i0 : Int} {i1 : Int} {i2 : Int} {i3 : Int} {i4 : Int} {i5 : Int} {b0 : Bool} {b3 : Bool} {x0 : List V} {x3 : List V} {o0 : Option Bool} {o3 : Option Bool} {n0 : Nat} {n3 : Nat} {k : Nat} : ∀ {f : Nat} {i6 : Int} {x4 : List V} {r : L78_17_R}, L78_17 k i0 i1 i2 i3 i4 i5 b0 b3 x0 x3 o0 o3 n0 n3 f i6 x4 = some r →
    LoopsN Try.prog Try.cfg (k + 8) 0 Try.f78 (Try.cfg.fc 78) 1 [0, 1, 2, 3, 4, 6, 10, 11, 14, 32, 33, 34, 35, 52, 53, 54] f { tm := [(0, V.sl o0 b0 n0 x0), (1, V.agg [V.int IntKind.u64 i0, V.int IntKind.u64 i1]), (2, V.int IntKind.i64 i2), (3, V.int IntKind.u64 i3), (4, V.int IntKind.u64 i4), (6, V.ptr 0 0), (10, V.sl (some true) true 0 []), (11, V.sl o3 b3 n3 x3), (14, V.ref 1), (32, V.sl o0 b0 n0 x0), (33, V.int IntKind.i64 (↑x0.length : Int)), (34, V.int IntKind.i64 i5), (35, V.bool false), (52, V.sl o3 b3 n3 x3), (53, V.int IntKind.i64 (↑x3.length : Int)), (54, V.int IntKind.i64 i6)], hp := [(0, Ob.var [V.int IntKind.u64 i0, V.int IntKind.u64 i1]), (1, Ob.row false 3 x4)], nx := 2 } (L78_17_end i0 i1 i2 i3 i4 i5 b0 b3 x0 x3 o0 o3 n0 n3 r) := by
  intro f
  induction f with
  | zero => intro i6 x4 r h; cases h
  | succ f ih =>
    intro i6 x4 r h
    rw [L78_17] at h
    rcases cond_elim h with ⟨e0, h⟩ | ⟨e0, h⟩
    ·
      obtain ⟨e1, h⟩ := guardP_some.1 h
      obtain ⟨i7, e2, h⟩ := Option.bind_eq_some_iff.1 h
      rcases cond_elim h with ⟨e3, h⟩ | ⟨e3, h⟩
      ·
        exact LoopsN.next (L78_17_b0 i0 i1 i2 i3 i4 i5 i6 i7 b0 b3 x0 x3 x4 o0 o3 n0 n3 k e0 (IdxP.of_at' (at_d dI_ok e2 :) e1) e3) (L78_17_b0h i0 i1 i2 i3 i4 i5 i6 i7 b0 b3 x0 x3 x4 o0 o3 n0 n3) (ih h)
      ·
        rcases cond_elim h with ⟨e4, h⟩ | ⟨e4, h⟩
        ·
          obtain ⟨i8, e5, h⟩ := Option.bind_eq_some_iff.1 h
          obtain ⟨i9, e6, h⟩ := Option.bind_eq_some_iff.1 h
          obtain ⟨e7, h⟩ := guardP_some.1 h
          rcases cond_elim h with ⟨e8, h⟩ | ⟨e8, h⟩
          ·
            obtain ⟨e9, h⟩ := guardP_some.1 h
            obtain ⟨⟨i10, i11, i12⟩, e10, h⟩ := Option.bind_eq_some_iff.1 h
            rcases cond_elim h with ⟨e11, h⟩ | ⟨e11, h⟩
            ·
              rcases cond_elim h with ⟨e12, h⟩ | ⟨e12, h⟩
              ·
                obtain ⟨e13, h⟩ := guardP_some.1 h
                exact LoopsN.next (L78_17_b1 i0 i1 i2 i3 i4 i5 i6 i7 i8 i9 i10 i11 i12 b0 b3 x0 x3 x4 o0 o3 n0 n3 k e0 (IdxP.of_at' (at_d dI_ok e2 :) e1) e3 e4 (IdxP.of_at' (at_d dI_ok e5 :) e1) (F114_ok e6) (GrdW.mk ⟨rfl, by decide, by decide, e7⟩) e8 (IdxR.mk' e9 rfl) (LdP.mk (get_d dAu64u64i64Z_ok e10 :) (by kernel_rfl)) e11 (IdxR.mk' e9 rfl) (LdP.mk (get_d dAu64u64i64Z_ok e10 :) (by kernel_rfl)) (IdxR.mk' e9 rfl) (LdP.mk (get_d dAu64u64i64Z_ok e10 :) (by kernel_rfl)) e12 (IdxR.mk' e9 rfl) (LdP.mk (get_d dAu64u64i64Z_ok e10 :) (by kernel_rfl)) (IdxR.mk' e9 rfl) (StE.mk ⟨rfl, rfl, e13⟩ (get_d dAu64u64i64Z_ok e10 :) rfl)) (L78_17_b1h i0 i1 i2 i3 i4 i5 i6 i7 i8 i10 i12 b0 b3 x0 x3 x4 o0 o3 n0 n3) (ih h)
              ·
                obtain ⟨e13, h⟩ := guardP_some.1 h
                exact LoopsN.next (L78_17_b2 i0 i1 i2 i3 i4 i5 i6 i7 i8 i9 i10 i11 i12 b0 b3 x0 x3 x4 o0 o3 n0 n3 k e0 (IdxP.of_at' (at_d dI_ok e2 :) e1) e3 e4 (IdxP.of_at' (at_d dI_ok e5 :) e1) (F114_ok e6) (GrdW.mk ⟨rfl, by decide, by decide, e7⟩) e8 (IdxR.mk' e9 rfl) (LdP.mk (get_d dAu64u64i64Z_ok e10 :) (by kernel_rfl)) e11 (IdxR.mk' e9 rfl) (LdP.mk (get_d dAu64u64i64Z_ok e10 :) (by kernel_rfl)) (IdxR.mk' e9 rfl) (LdP.mk (get_d dAu64u64i64Z_ok e10 :) (by kernel_rfl)) e12 (GrdW.mk ⟨rfl, by decide, by decide, e13⟩)) (L78_17_b2h i0 i1 i2 i3 i4 i5 i6 i7 i8 i9 b0 b3 x0 x3 x4 o0 o3 n0 n3) (ih h)
            ·
              obtain ⟨e12, h⟩ := guardP_some.1 h
              exact LoopsN.next (L78_17_b3 i0 i1 i2 i3 i4 i5 i6 i7 i8 i9 i12 b0 b3 x0 x3 x4 o0 o3 n0 n3 k e0 (IdxP.of_at' (at_d dI_ok e2 :) e1) e3 e4 (IdxP.of_at' (at_d dI_ok e5 :) e1) (F114_ok e6) (GrdW.mk ⟨rfl, by decide, by decide, e7⟩) e8 (IdxR.mk' e9 rfl) (LdP.mk (get_d dAu64u64i64Z_ok e10 :) (by kernel_rfl)) e11 (GrdW.mk ⟨rfl, by decide, by decide, e12⟩)) (L78_17_b3h i0 i1 i2 i3 i4 i5 i6 i7 i8 i9 b0 b3 x0 x3 x4 o0 o3 n0 n3) (ih h)
          ·
            obtain ⟨e9, h⟩ := guardP_some.1 h
            exact LoopsN.next (L78_17_b4 i0 i1 i2 i3 i4 i5 i6 i7 i8 i9 b0 b3 x0 x3 x4 o0 o3 n0 n3 k e0 (IdxP.of_at' (at_d dI_ok e2 :) e1) e3 e4 (IdxP.of_at' (at_d dI_ok e5 :) e1) (F114_ok e6) (GrdW.mk ⟨rfl, by decide, by decide, e7⟩) e8 (GrdW.mk ⟨rfl, by decide, by decide, e9⟩)) (L78_17_b4h i0 i1 i2 i3 i4 i5 i6 i7 i8 i9 b0 b3 x0 x3 x4 o0 o3 n0 n3) (ih h)
        ·
          obtain ⟨i8, e5, h⟩ := Option.bind_eq_some_iff.1 h
          obtain ⟨e6, h⟩ := guardP_some.1 h
          rcases cond_elim h with ⟨e7, h⟩ | ⟨e7, h⟩
          ·
            obtain ⟨e8, h⟩ := guardP_some.1 h
            obtain ⟨⟨i9, i10, i11⟩, e9, h⟩ := Option.bind_eq_some_iff.1 h
            rcases cond_elim h with ⟨e10, h⟩ | ⟨e10, h⟩
            ·
              rcases cond_elim h with ⟨e11, h⟩ | ⟨e11, h⟩
              ·
                obtain ⟨e12, h⟩ := guardP_some.1 h
                exact LoopsN.next (L78_17_b5 i0 i1 i2 i3 i4 i5 i6 i7 i8 i9 i10 i11 b0 b3 x0 x3 x4 o0 o3 n0 n3 k e0 (IdxP.of_at' (at_d dI_ok e2 :) e1) e3 e4 (F114_ok e5) (GrdW.mk ⟨rfl, by decide, by decide, e6⟩) e7 (IdxR.mk' e8 rfl) (LdP.mk (get_d dAu64u64i64Z_ok e9 :) (by kernel_rfl)) e10 (IdxR.mk' e8 rfl) (LdP.mk (get_d dAu64u64i64Z_ok e9 :) (by kernel_rfl)) (IdxR.mk' e8 rfl) (LdP.mk (get_d dAu64u64i64Z_ok e9 :) (by kernel_rfl)) e11 (IdxR.mk' e8 rfl) (LdP.mk (get_d dAu64u64i64Z_ok e9 :) (by kernel_rfl)) (IdxR.mk' e8 rfl) (StE.mk ⟨rfl, rfl, e12⟩ (get_d dAu64u64i64Z_ok e9 :) rfl)) (L78_17_b5h i0 i1 i2 i3 i4 i5 i6 i7 i9 i11 b0 b3 x0 x3 x4 o0 o3 n0 n3) (ih h)
              ·
                obtain ⟨e12, h⟩ := guardP_some.1 h
                exact LoopsN.next (L78_17_b6 i0 i1 i2 i3 i4 i5 i6 i7 i8 i9 i10 i11 b0 b3 x0 x3 x4 o0 o3 n0 n3 k e0 (IdxP.of_at' (at_d dI_ok e2 :) e1) e3 e4 (F114_ok e5) (GrdW.mk ⟨rfl, by decide, by decide, e6⟩) e7 (IdxR.mk' e8 rfl) (LdP.mk (get_d dAu64u64i64Z_ok e9 :) (by kernel_rfl)) e10 (IdxR.mk' e8 rfl) (LdP.mk (get_d dAu64u64i64Z_ok e9 :) (by kernel_rfl)) (IdxR.mk' e8 rfl) (LdP.mk (get_d dAu64u64i64Z_ok e9 :) (by kernel_rfl)) e11 (GrdW.mk ⟨rfl, by decide, by decide, e12⟩)) (L78_17_b6h i0 i1 i2 i3 i4 i5 i6 i7 i8 b0 b3 x0 x3 x4 o0 o3 n0 n3) (ih h)
            ·
              obtain ⟨e11, h⟩ := guardP_some.1 h
              exact LoopsN.next (L78_17_b7 i0 i1 i2 i3 i4 i5 i6 i7 i8 i11 b0 b3 x0 x3 x4 o0 o3 n0 n3 k e0 (IdxP.of_at' (at_d dI_ok e2 :) e1) e3 e4 (F114_ok e5) (GrdW.mk ⟨rfl, by decide, by decide, e6⟩) e7 (IdxR.mk' e8 rfl) (LdP.mk (get_d dAu64u64i64Z_ok e9 :) (by kernel_rfl)) e10 (GrdW.mk ⟨rfl, by decide, by decide, e11⟩)) (L78_17_b7h i0 i1 i2 i3 i4 i5 i6 i7 i8 b0 b3 x0 x3 x4 o0 o3 n0 n3) (ih h)
          ·
            obtain ⟨e8, h⟩ := guardP_some.1 h
            exact LoopsN.next (L78_17_b8 i0 i1 i2 i3 i4 i5 i6 i7 i8 b0 b3 x0 x3 x4 o0 o3 n0 n3 k e0 (IdxP.of_at' (at_d dI_ok e2 :) e1) e3 e4 (F114_ok e5) (GrdW.mk ⟨rfl, by decide, by decide, e6⟩) e7 (GrdW.mk ⟨rfl, by decide, by decide, e8⟩)) (L78_17_b8h i0 i1 i2 i3 i4 i5 i6 i7 i8 b0 b3 x0 x3 x4 o0 o3 n0 n3) (ih h)
    ·
      cases h; exact LoopsN.done (L78_17_b9 i0 i1 i2 i3 i4 i5 i6 b0 b3 x0 x3 x4 o0 o3 n0 n3 k e0) (fun h => by cases h)
theorem P78_0 (i0 : Int) (i1 : Int) (i2 : Int) (i3 : Int) (i4 : Int) (i5 : Int) (i6 : Int) (b0 : Bool) (b1 : Bool) (b2 : Bool) (b3 : Bool) (x0 : List V) (x1 : List V) (x2 : List V) (x3 : List V) (x4 : List V) (o0 : Option Bool) (o1 : Option Bool) (o2 : Option Bool) (o3 : Option Bool) (n0 : Nat) (n1 : Nat) (n2 : Nat) (n3 : Nat) (k : Nat)
    (c0 : callP (evalFn Try.prog Try.cfg (k + 8)) 112 [V.sl none false 1 [V.int IntKind.u64 i3], V.int IntKind.u64 i0, V.int IntKind.u64 i4] = some (V.sl o1 b1 n1 x1))
    (c1 : callP (evalFn Try.prog Try.cfg (k + 8)) 112 [V.sl o1 b1 n1 x1, V.int IntKind.u64 (IntKind.u64.wrap (i0 + i1)), V.int IntKind.u64 i4] = some (V.sl o2 b2 n2 x2))
    (c2 : LoopsN Try.prog Try.cfg (k + 8) 0 Try.f78 (Try.cfg.fc 78) 0 [0, 1, 2, 3, 4, 6, 10, 11, 32, 33, 34] (k + 8) { tm := [(0, V.sl o0 b0 n0 x0), (1, V.agg [V.int IntKind.u64 i0, V.int IntKind.u64 i1]), (2, V.int IntKind.i64 i2), (3, V.int IntKind.u64 i3), (4, V.int IntKind.u64 i4), (6, V.ptr 0 0), (10, V.sl (some true) true 0 []), (11, V.sl o2 b2 n2 x2), (32, V.sl o0 b0 n0 x0), (33, V.int IntKind.i64 (↑x0.length : Int)), (34, V.int IntKind.i64 0)], hp := [(0, Ob.var [V.int IntKind.u64 i0, V.int IntKind.u64 i1])], nx := 1 } (Exit.exit 0, { tm := [(0, V.sl o0 b0 n0 x0), (1, V.agg [V.int IntKind.u64 i0, V.int IntKind.u64 i1]), (2, V.int IntKind.i64 i2), (3, V.int IntKind.u64 i3), (4, V.int IntKind.u64 i4), (6, V.ptr 0 0), (10, V.sl (some true) true 0 []), (11, V.sl o3 b3 n3 x3), (32, V.sl o0 b0 n0 x0), (33, V.int IntKind.i64 (↑x0.length : Int)), (34, V.int IntKind.i64 i5), (35, V.bool false)], hp := [(0, Ob.var [V.int IntKind.u64 i0, V.int IntKind.u64 i1])], nx := 5 }))
    (c3 : LoopsN Try.prog Try.cfg (k + 8) 0 Try.f78 (Try.cfg.fc 78) 1 [0, 1, 2, 3, 4, 6, 10, 11, 14, 32, 33, 34, 35, 52, 53, 54] (k + 8) { tm := [(0, V.sl o0 b0 n0 x0), (1, V.agg [V.int IntKind.u64 i0, V.int IntKind.u64 i1]), (2, V.int IntKind.i64 i2), (3, V.int IntKind.u64 i3), (4, V.int IntKind.u64 i4), (6, V.ptr 0 0), (10, V.sl (some true) true 0 []), (11, V.sl o3 b3 n3 x3), (14, V.ref 1), (32, V.sl o0 b0 n0 x0), (33, V.int IntKind.i64 (↑x0.length : Int)), (34, V.int IntKind.i64 i5), (35, V.bool false), (52, V.sl o3 b3 n3 x3), (53, V.int IntKind.i64 (↑x3.length : Int)), (54, V.int IntKind.i64 0)], hp := [(0, Ob.var [V.int IntKind.u64 i0, V.int IntKind.u64 i1]), (1, Ob.row false 3 [])], nx := 2 } (Exit.exit 2, { tm := [(0, V.sl o0 b0 n0 x0), (1, V.agg [V.int IntKind.u64 i0, V.int IntKind.u64 i1]), (2, V.int IntKind.i64 i2), (3, V.int IntKind.u64 i3), (4, V.int IntKind.u64 i4), (6, V.ptr 0 0), (10, V.sl (some true) true 0 []), (11, V.sl o3 b3 n3 x3), (14, V.ref 1), (32, V.sl o0 b0 n0 x0), (33, V.int IntKind.i64 (↑x0.length : Int)), (34, V.int IntKind.i64 i5), (35, V.bool false), (52, V.sl o3 b3 n3 x3), (53, V.int IntKind.i64 (↑x3.length : Int)), (54, V.int IntKind.i64 i6), (55, V.bool false)], hp := [(0, Ob.var [V.int IntKind.u64 i0, V.int IntKind.u64 i1]), (1, Ob.row false 3 x4)], nx := 6 })) :
    callP (evalFn Try.prog Try.cfg (k + 9)) 78 [V.sl o0 b0 n0 x0, V.agg [V.int IntKind.u64 i0, V.int IntKind.u64 i1], V.int IntKind.i64 i2, V.int IntKind.u64 i3, V.int IntKind.u64 i4] = some (V.sl none false 3 x4) :=
  byF (k := k) (d := 9) [Hn.call 24 (V.sl o1 b1 n1 x1), Hn.call 31 (V.sl o2 b2 n2 x2), Hn.loop (Exit.exit 0, { tm := [(0, V.sl o0 b0 n0 x0), (1, V.agg [V.int IntKind.u64 i0, V.int IntKind.u64 i1]), (2, V.int IntKind.i64 i2), (3, V.int IntKind.u64 i3), (4, V.int IntKind.u64 i4), (6, V.ptr 0 0), (10, V.sl (some true) true 0 []), (11, V.sl o3 b3 n3 x3), (32, V.sl o0 b0 n0 x0), (33, V.int IntKind.i64 (↑x0.length : Int)), (34, V.int IntKind.i64 i5), (35, V.bool false)], hp := [(0, Ob.var [V.int IntKind.u64 i0, V.int IntKind.u64 i1])], nx := 5 }), Hn.loop (Exit.exit 2, { tm := [(0, V.sl o0 b0 n0 x0), (1, V.agg [V.int IntKind.u64 i0, V.int IntKind.u64 i1]), (2, V.int IntKind.i64 i2), (3, V.int IntKind.u64 i3), (4, V.int IntKind.u64 i4), (6, V.ptr 0 0), (10, V.sl (some true) true 0 []), (11, V.sl o3 b3 n3 x3), (14, V.ref 1), (32, V.sl o0 b0 n0 x0), (33, V.int IntKind.i64 (↑x0.length : Int)), (34, V.int IntKind.i64 i5), (35, V.bool false), (52, V.sl o3 b3 n3 x3), (53, V.int IntKind.i64 (↑x3.length : Int)), (54, V.int IntKind.i64 i6), (55, V.bool false)], hp := [(0, Ob.var [V.int IntKind.u64 i0, V.int IntKind.u64 i1]), (1, Ob.row false 3 x4)], nx := 6 })] (And.intro c0 (And.intro c1 (And.intro c2 (And.intro c3 trivial)))) (by kernel_rfl)
def F78 (k : Nat) (o0 : Option Bool) (b0 : Bool) (n0 : Nat) (x0 : List V) (i0 : Int) (i1 : Int) (i2 : Int) (i3 : Int) (i4 : Int) : Option (Option Bool × Bool × Nat × List V) :=
  ((F112 (k + 5) (none) (false) (1) ([V.int IntKind.u64 i3]) (i0) (i4)).bind fun (o1, b1, n1, x1) => ((F112 (k + 5) (o1) (b1) (n1) (x1) (IntKind.u64.wrap (i0 + i1)) (i4)).bind fun (o2, b2, n2, x2) => ((L78_16 k i0 i1 i2 i3 i4 b0 x0 o0 n0 (k + 8) (o2) (b2) (n2) (x2) (0)).bind fun
    | L78_16_R.e0 i5 b3 x3 o3 n3 => ((L78_17 k i0 i1 i2 i3 i4 i5 b0 b3 x0 x3 o0 o3 n0 n3 (k + 8) (0) ([])).bind fun
    | L78_17_R.e0 i6 x4 => (some ((none), (false), (3), (x4)))))))
theorem F78_ok {o0 : Option Bool} {b0 : Bool} {n0 : Nat} {x0 : List V} {i0 : Int} {i1 : Int} {i2 : Int} {i3 : Int} {i4 : Int} {k : Nat} {r : Option Bool × Bool × Nat × List V} (h : F78 k o0 b0 n0 x0 i0 i1 i2 i3 i4 = some r) :
    callP (evalFn Try.prog Try.cfg (k + 9)) 78 [V.sl o0 b0 n0 x0, V.agg [V.int IntKind.u64 i0, V.int IntKind.u64 i1], V.int IntKind.i64 i2, V.int IntKind.u64 i3, V.int IntKind.u64 i4] = some (V.sl r.1 r.2.1 r.2.2.1 r.2.2.2) := by
  unfold F78 at h
  obtain ⟨⟨o1, b1, n1, x1⟩, e0, h⟩ := Option.bind_eq_some_iff.1 h
  obtain ⟨⟨o2, b2, n2, x2⟩, e1, h⟩ := Option.bind_eq_some_iff.1 h
  obtain ⟨ee, e2, h⟩ := Option.bind_eq_some_iff.1 h
  cases ee with
  | e0 i5 b3 x3 o3 n3 =>
    obtain ⟨ee, e3, h⟩ := Option.bind_eq_some_iff.1 h
    cases ee with
    | e0 i6 x4 =>
      have h := Option.some.inj h; subst h; exact P78_0 i0 i1 i2 i3 i4 i5 i6 b0 b1 b2 b3 x0 x1 x2 x3 x4 o0 o1 o2 o3 n0 n1 n2 n3 k (F112_ok e0) (F112_ok e1) (L78_16_ok e2) (L78_17_ok e3)
theorem L40_18_b0 (i0 : Int) (i1 : Int) (i2 : Int) (i3 : Int) (i4 : Int) (i5 : Int) (i6 : Int) (b0 : Bool) (b1 : Bool) (x0 : List V) (x1 : List V) (x2 : List V) (o0 : Option Bool) (o1 : Option Bool) (n0 : Nat) (n1 : Nat) (k : Nat)
    (c0 : decide (i3 < (↑x1.length : Int)) = true)
    (c1 : IdxP x1 i3 n1 3 (V.agg [V.int IntKind.u64 i4, V.int IntKind.u64 i5, V.int IntKind.i64 i6]))
    (c2 : (!decide (i6 = 0)) = true)
    (c3 : GrdW ((3 : Nat) = (3 : Nat) ∧ (0 : Nat) < (3 : Nat) ∧ (24 : Nat) ≤ (64 : Nat) ∧ x2.length + (1 : Nat) ≤ maxLen') (V.ref (46 : Nat)) [((1 : Nat), Ob.dead), ((46 : Nat), Ob.row false (3 : Nat) (x2 ++ [V.agg [V.int IntKind.u64 i4, V.int IntKind.u64 i5, V.int IntKind.i64 i6]]))]) :
    evalCode Try.prog Try.cfg (evalFn Try.prog Try.cfg (k + 11)) 0 (Try.cfg.fc 40) (k + 11) (loopBody Try.f40 0) { tm := [(0, V.sl o0 b0 n0 x0), (1, V.agg [V.int IntKind.u64 i0, V.int IntKind.u64 i1]), (2, V.int IntKind.i64 i2), (4, V.ptr 0 0), (6, V.sl (some true) true 0 []), (7, V.ref 1), (14, V.sl o1 b1 n1 x1), (15, V.int IntKind.i64 (↑x1.length : Int)), (16, V.int IntKind.i64 i3)], hp := [(0, Ob.var [V.int IntKind.u64 i0, V.int IntKind.u64 i1]), (1, Ob.row false 3 x2)], nx := 2 } = some (Exit.normal, { tm := [(0, V.sl o0 b0 n0 x0), (1, V.agg [V.int IntKind.u64 i0, V.int IntKind.u64 i1]), (2, V.int IntKind.i64 i2), (4, V.ptr 0 0), (6, V.sl (some true) true 0 []), (7, V.ref 46), (9, V.ptr 14 0), (14, V.sl o1 b1 n1 x1), (15, V.int IntKind.i64 (↑x1.length : Int)), (16, V.int IntKind.i64 (IntKind.i64.wrap (i3 + 1))), (17, V.bool true), (22, V.bool true)], hp := [(0, Ob.var [V.int IntKind.u64 i0, V.int IntKind.u64 i1]), (1, Ob.dead), (14, Ob.var [V.int IntKind.u64 i4, V.int IntKind.u64 i5, V.int IntKind.i64 i6]), (42, Ob.row false 3 [V.agg [V.int IntKind.u64 i4, V.int IntKind.u64 i5, V.int IntKind.i64 i6]]), (46, Ob.row false 3 (x2 ++ [V.agg [V.int IntKind.u64 i4, V.int IntKind.u64 i5, V.int IntKind.i64 i6]]))], nx := 62 }) :=
  byL (k := k) (d := 11) [Hn.br 17 true, Hn.op 18 ((V.agg [V.int IntKind.u64 i4, V.int IntKind.u64 i5, V.int IntKind.i64 i6]).cpt 0) [], Hn.br 22 true, Hn.op 26 (V.ref 46) [(1, Ob.dead), (46, Ob.row false 3 (x2 ++ [V.agg [V.int IntKind.u64 i4, V.int IntKind.u64 i5, V.int IntKind.i64 i6]]))]] (And.intro c0 (And.intro c1 (And.intro c2 (And.intro c3 trivial)))) (by kernel_rfl)
theorem L40_18_b0h (i0 : Int) (i1 : Int) (i2 : Int) (i3 : Int) (i4 : Int) (i5 : Int) (i6 : Int) (b0 : Bool) (b1 : Bool) (x0 : List V) (x1 : List V) (x2 : List V) (o0 : Option Bool) (o1 : Option Bool) (n0 : Nat) (n1 : Nat) : head 0 [0, 1, 2, 4, 6, 7, 14, 15, 16] (Try.cfg.fc 40).acc { tm := [(0, V.sl o0 b0 n0 x0), (1, V.agg [V.int IntKind.u64 i0, V.int IntKind.u64 i1]), (2, V.int IntKind.i64 i2), (4, V.ptr 0 0), (6, V.sl (some true) true 0 []), (7, V.ref 46), (9, V.ptr 14 0), (14, V.sl o1 b1 n1 x1), (15, V.int IntKind.i64 (↑x1.length : Int)), (16, V.int IntKind.i64 (IntKind.i64.wrap (i3 + 1))), (17, V.bool true), (22, V.bool true)], hp := [(0, Ob.var [V.int IntKind.u64 i0, V.int IntKind.u64 i1]), (1, Ob.dead), (14, Ob.var [V.int IntKind.u64 i4, V.int IntKind.u64 i5, V.int IntKind.i64 i6]), (42, Ob.row false 3 [V.agg [V.int IntKind.u64 i4, V.int IntKind.u64 i5, V.int IntKind.i64 i6]]), (46, Ob.row false 3 (x2 ++ [V.agg [V.int IntKind.u64 i4, V.int IntKind.u64 i5, V.int IntKind.i64 i6]]))], nx := 62 } = { tm := [(0, V.sl o0 b0 n0 x0), (1, V.agg [V.int IntKind.u64 i0, V.int IntKind.u64 i1]), (2, V.int IntKind.i64 i2), (4, V.ptr 0 0), (6, V.sl (some true) true 0 []), (7, V.ref 1), (14, V.sl o1 b1 n1 x1), (15, V.int IntKind.i64 (↑x1.length : Int)), (16, V.int IntKind.i64 (IntKind.i64.wrap (i3 + 1)))], hp := [(0, Ob.var [V.int IntKind.u64 i0, V.int IntKind.u64 i1]), (1, Ob.row false 3 (x2 ++ [V.agg [V.int IntKind.u64 i4, V.int IntKind.u64 i5, V.int IntKind.i64 i6]]))], nx := 2 } := by kernel_rfl
theorem L40_18_b1 (i0 : Int) (i1 : Int) (i2 : Int) (i3 : Int) (i4 : Int) (i5 : Int) (i6 : Int) (b0 : Bool) (b1 : Bool) (x0 : List V) (x1 : List V) (x2 : List V) (o0 : Option Bool) (o1 : Option Bool) (n0 : Nat) (n1 : Nat) (k : Nat)
    (c0 : decide (i3 < (↑x1.length : Int)) = true)
    (c1 : IdxP x1 i3 n1 3 (V.agg [V.int IntKind.u64 i4, V.int IntKind.u64 i5, V.int IntKind.i64 i6]))
    (c2 : (!decide (i6 = 0)) = false) :
    evalCode Try.prog Try.cfg (evalFn Try.prog Try.cfg (k + 11)) 0 (Try.cfg.fc 40) (k + 11) (loopBody Try.f40 0) { tm := [(0, V.sl o0 b0 n0 x0), (1, V.agg [V.int IntKind.u64 i0, V.int IntKind.u64 i1]), (2, V.int IntKind.i64 i2), (4, V.ptr 0 0), (6, V.sl (some true) true 0 []), (7, V.ref 1), (14, V.sl o1 b1 n1 x1), (15, V.int IntKind.i64 (↑x1.length : Int)), (16, V.int IntKind.i64 i3)], hp := [(0, Ob.var [V.int IntKind.u64 i0, V.int IntKind.u64 i1]), (1, Ob.row false 3 x2)], nx := 2 } = some (Exit.normal, { tm := [(0, V.sl o0 b0 n0 x0), (1, V.agg [V.int IntKind.u64 i0, V.int IntKind.u64 i1]), (2, V.int IntKind.i64 i2), (4, V.ptr 0 0), (6, V.sl (some true) true 0 []), (7, V.ref 1), (9, V.ptr 14 0), (14, V.sl o1 b1 n1 x1), (15, V.int IntKind.i64 (↑x1.length : Int)), (16, V.int IntKind.i64 (IntKind.i64.wrap (i3 + 1))), (17, V.bool true), (22, V.bool false)], hp := [(0, Ob.var [V.int IntKind.u64 i0, V.int IntKind.u64 i1]), (1, Ob.row false 3 x2), (14, Ob.var [V.int IntKind.u64 i4, V.int IntKind.u64 i5, V.int IntKind.i64 i6])], nx := 42 }) :=
  byL (k := k) (d := 11) [Hn.br 17 true, Hn.op 18 ((V.agg [V.int IntKind.u64 i4, V.int IntKind.u64 i5, V.int IntKind.i64 i6]).cpt 0) [], Hn.br 22 false] (And.intro c0 (And.intro c1 (And.intro c2 trivial))) (by kernel_rfl)
theorem L40_18_b1h (i0 : Int) (i1 : Int) (i2 : Int) (i3 : Int) (i4 : Int) (i5 : Int) (i6 : Int) (b0 : Bool) (b1 : Bool) (x0 : List V) (x1 : List V) (x2 : List V) (o0 : Option Bool) (o1 : Option Bool) (n0 : Nat) (n1 : Nat) : head 0 [0, 1, 2, 4, 6, 7, 14, 15, 16] (Try.cfg.fc 40).acc { tm := [(0, V.sl o0 b0 n0 x0), (1, V.agg [V.int IntKind.u64 i0, V.int IntKind.u64 i1]), (2, V.int IntKind.i64 i2), (4, V.ptr 0 0), (6, V.sl (some true) true 0 []), (7, V.ref 1), (9, V.ptr 14 0), (14, V.sl o1 b1 n1 x1), (15, V.int IntKind.i64 (↑x1.length : Int)), (16, V.int IntKind.i64 (IntKind.i64.wrap (i3 + 1))), (17, V.bool true), (22, V.bool false)], hp := [(0, Ob.var [V.int IntKind.u64 i0, V.int IntKind.u64 i1]), (1, Ob.row false 3 x2), (14, Ob.var [V.int IntKind.u64 i4, V.int IntKind.u64 i5, V.int IntKind.i64 i6])], nx := 42 } = { tm := [(0, V.sl o0 b0 n0 x0), (1, V.agg [V.int IntKind.u64 i0, V.int IntKind.u64 i1]), (2, V.int IntKind.i64 i2), (4, V.ptr 0 0), (6, V.sl (some true) true 0 []), (7, V.ref 1), (14, V.sl o1 b1 n1 x1), (15, V.int IntKind.i64 (↑x1.length : Int)), (16, V.int IntKind.i64 (IntKind.i64.wrap (i3 + 1)))], hp := [(0, Ob.var [V.int IntKind.u64 i0, V.int IntKind.u64 i1]), (1, Ob.row false 3 x2)], nx := 2 } := by kernel_rfl
theorem L40_18_b2 (i0 : Int) (i1 : Int) (i2 : Int) (i3 : Int) (b0 : Bool) (b1 : Bool) (x0 : List V) (x1 : List V) (x2 : List V) (o0 : Option Bool) (o1 : Option Bool) (n0 : Nat) (n1 : Nat) (k : Nat)
    (c0 : decide (i3 < (↑x1.length : Int)) = false) :
    evalCode Try.prog Try.cfg (evalFn Try.prog Try.cfg (k + 11)) 0 (Try.cfg.fc 40) (k + 11) (loopBody Try.f40 0) { tm := [(0, V.sl o0 b0 n0 x0), (1, V.agg [V.int IntKind.u64 i0, V.int IntKind.u64 i1]), (2, V.int IntKind.i64 i2), (4, V.ptr 0 0), (6, V.sl (some true) true 0 []), (7, V.ref 1), (14, V.sl o1 b1 n1 x1), (15, V.int IntKind.i64 (↑x1.length : Int)), (16, V.int IntKind.i64 i3)], hp := [(0, Ob.var [V.int IntKind.u64 i0, V.int IntKind.u64 i1]), (1, Ob.row false 3 x2)], nx := 2 } = some (Exit.exit 0, { tm := [(0, V.sl o0 b0 n0 x0), (1, V.agg [V.int IntKind.u64 i0, V.int IntKind.u64 i1]), (2, V.int IntKind.i64 i2), (4, V.ptr 0 0), (6, V.sl (some true) true 0 []), (7, V.ref 1), (14, V.sl o1 b1 n1 x1), (15, V.int IntKind.i64 (↑x1.length : Int)), (16, V.int IntKind.i64 i3), (17, V.bool false)], hp := [(0, Ob.var [V.int IntKind.u64 i0, V.int IntKind.u64 i1]), (1, Ob.row false 3 x2)], nx := 6 }) :=
  byL (k := k) (d := 11) [Hn.br 17 false] (And.intro c0 trivial) (by kernel_rfl)
inductive L40_18_R where
  | e0 (i3 : Int) (x2 : List V)
noncomputable def L40_18_end (i0 : Int) (i1 : Int) (i2 : Int) (b0 : Bool) (b1 : Bool) (x0 : List V) (x1 : List V) (o0 : Option Bool) (o1 : Option Bool) (n0 : Nat) (n1 : Nat) : L40_18_R → Exit × St
  | .e0 i3 x2 => (Exit.exit 0, { tm := [(0, V.sl o0 b0 n0 x0), (1, V.agg [V.int IntKind.u64 i0, V.int IntKind.u64 i1]), (2, V.int IntKind.i64 i2), (4, V.ptr 0 0), (6, V.sl (some true) true 0 []), (7, V.ref 1), (14, V.sl o1 b1 n1 x1), (15, V.int IntKind.i64 (↑x1.length : Int)), (16, V.int IntKind.i64 i3), (17, V.bool false)], hp := [(0, Ob.var [V.int IntKind.u64 i0, V.int IntKind.u64 i1]), (1, Ob.row false 3 x2)], nx := 6 })
def L40_18 (k : Nat) (i0 : Int) (i1 : Int) (i2 : Int) (b0 : Bool) (b1 : Bool) (x0 : List V) (x1 : List V) (o0 : Option Bool) (o1 : Option Bool) (n0 : Nat) (n1 : Nat) : Nat → Int → List V → Option L40_18_R
  | 0, _, _ => none
  | f + 1, i3, x2 => (bif decide (i3 < (↑x1.length : Int)) then (guardP (n1 = (3 : Nat)) (((at? (x1) (i3)).bind dAu64u64i64Z).bind fun (i4, i5, i6) => (bif !decide (i6 = 0) then (guardP (x2.length + (1 : Nat) ≤ maxLen') (L40_18 k i0 i1 i2 b0 b1 x0 x1 o0 o1 n0 n1 f (IntKind.i64.wrap (i3 + 1)) (x2 ++ [V.agg [V.int IntKind.u64 i4, V.int IntKind.u64 i5, V.int IntKind.i64 i6]]))) else (L40_18 k i0 i1 i2 b0 b1 x0 x1 o0 o1 n0 n1 f (IntKind.i64.wrap (i3 + 1)) (x2))))) else (some (L40_18_R.e0 i3 x2)))
theorem L40_18_ok {i0 : Int} {i1 : Int} {i2 : Int} {b0 : Bool} {b1 : Bool} {x0 : List V} {x1 : List V} {o0 : Option Bool} {o1 : Option Bool} {n0 : Nat} {n1 : Nat} {k : Nat} : ∀ {f : Nat} {i3 : Int} {x2 : List V} {r : L40_18_R}, L40_18 k i0 i1 i2 b0 b1 x0 x1 o0 o1 n0 n1 f i3 x2 = some r →
    LoopsN Try.prog Try.cfg (k + 11) 0 Try.f40 (Try.cfg.fc 40) 0 [0, 1, 2, 4, 6, 7, 14, 15, 16] f { tm := [(0, V.sl o0 b0 n0 x0), (1, V.agg [V.int IntKind.u64 i0, V.int IntKind.u64 i1]), (2, V.int IntKind.i64 i2), (4, V.ptr 0 0), (6, V.sl (some true) true 0 []), (7, V.ref 1), (14, V.sl o1 b1 n1 x1), (15, V.int IntKind.i64 (↑x1.length : Int)), (16, V.int IntKind.i64 i3)], hp := [(0, Ob.var [V.int IntKind.u64 i0, V.int IntKind.u64 i1]), (1, Ob.row false 3 x2)], nx := 2 } (L40_18_end i0 i1 i2 b0 b1 x0 x1 o0 o1 n0 n1 r) := by
  intro f
  induction f with
  | zero => intro i3 x2 r h; cases h
  | succ f ih =>
    intro i3 x2 r h
    rw [L40_18] at h
    rcases cond_elim h with ⟨e0, h⟩ | ⟨e0, h⟩
    ·
      obtain ⟨e1, h⟩ := guardP_some.1 h
      obtain ⟨⟨i4, i5, i6⟩, e2, h⟩ := Option.bind_eq_some_iff.1 h
      rcases cond_elim h with ⟨e3, h⟩ | ⟨e3, h⟩
      ·
        obtain ⟨e4, h⟩ := guardP_some.1 h
        exact LoopsN.next (L40_18_b0 i0 i1 i2 i3 i4 i5 i6 b0 b1 x0 x1 x2 o0 o1 n0 n1 k e0 (IdxP.of_at' (at_d dAu64u64i64Z_ok e2 :) e1) e3 (GrdW.mk ⟨rfl, by decide, by decide, e4⟩)) (L40_18_b0h i0 i1 i2 i3 i4 i5 i6 b0 b1 x0 x1 x2 o0 o1 n0 n1) (ih h)
      ·
        exact LoopsN.next (L40_18_b1 i0 i1 i2 i3 i4 i5 i6 b0 b1 x0 x1 x2 o0 o1 n0 n1 k e0 (IdxP.of_at' (at_d dAu64u64i64Z_ok e2 :) e1) e3) (L40_18_b1h i0 i1 i2 i3 i4 i5 i6 b0 b1 x0 x1 x2 o0 o1 n0 n1) (ih h)
    ·
      cases h; exact LoopsN.done (L40_18_b2 i0 i1 i2 i3 b0 b1 x0 x1 x2 o0 o1 n0 n1 k e0) (fun h => by cases h)
theorem P40_0 (i0 : Int) (i1 : Int) (i2 : Int) (i3 : Int) (b0 : Bool) (b1 : Bool) (x0 : List V) (x1 : List V) (x2 : List V) (o0 : Option Bool) (o1 : Option Bool) (n0 : Nat) (n1 : Nat) (k : Nat)
    (c0 : callP (evalFn Try.prog Try.cfg (k + 11)) 78 [V.sl o0 b0 n0 x0, V.agg [V.int IntKind.u64 i0, V.int IntKind.u64 i1], V.int IntKind.i64 i2, V.int IntKind.u64 0, V.int IntKind.u64 576460752303423488] = some (V.sl o1 b1 n1 x1))
    (c1 : LoopsN Try.prog Try.cfg (k + 11) 0 Try.f40 (Try.cfg.fc 40) 0 [0, 1, 2, 4, 6, 7, 14, 15, 16] (k + 11) { tm := [(0, V.sl o0 b0 n0 x0), (1, V.agg [V.int IntKind.u64 i0, V.int IntKind.u64 i1]), (2, V.int IntKind.i64 i2), (4, V.ptr 0 0), (6, V.sl (some true) true 0 []), (7, V.ref 1), (14, V.sl o1 b1 n1 x1), (15, V.int IntKind.i64 (↑x1.length : Int)), (16, V.int IntKind.i64 0)], hp := [(0, Ob.var [V.int IntKind.u64 i0, V.int IntKind.u64 i1]), (1, Ob.row false 3 [])], nx := 2 } (Exit.exit 0, { tm := [(0, V.sl o0 b0 n0 x0), (1, V.agg [V.int IntKind.u64 i0, V.int IntKind.u64 i1]), (2, V.int IntKind.i64 i2), (4, V.ptr 0 0), (6, V.sl (some true) true 0 []), (7, V.ref 1), (14, V.sl o1 b1 n1 x1), (15, V.int IntKind.i64 (↑x1.length : Int)), (16, V.int IntKind.i64 i3), (17, V.bool false)], hp := [(0, Ob.var [V.int IntKind.u64 i0, V.int IntKind.u64 i1]), (1, Ob.row false 3 x2)], nx := 6 })) :
    callP (evalFn Try.prog Try.cfg (k + 12)) 40 [V.sl o0 b0 n0 x0, V.agg [V.int IntKind.u64 i0, V.int IntKind.u64 i1], V.int IntKind.i64 i2] = some (V.sl none false 3 x2) :=
  byF (k := k) (d := 12) [Hn.call 14 (V.sl o1 b1 n1 x1), Hn.loop (Exit.exit 0, { tm := [(0, V.sl o0 b0 n0 x0), (1, V.agg [V.int IntKind.u64 i0, V.int IntKind.u64 i1]), (2, V.int IntKind.i64 i2), (4, V.ptr 0 0), (6, V.sl (some true) true 0 []), (7, V.ref 1), (14, V.sl o1 b1 n1 x1), (15, V.int IntKind.i64 (↑x1.length : Int)), (16, V.int IntKind.i64 i3), (17, V.bool false)], hp := [(0, Ob.var [V.int IntKind.u64 i0, V.int IntKind.u64 i1]), (1, Ob.row false 3 x2)], nx := 6 })] (And.intro c0 (And.intro c1 trivial)) (by kernel_rfl)
def F40 (k : Nat) (o0 : Option Bool) (b0 : Bool) (n0 : Nat) (x0 : List V) (i0 : Int) (i1 : Int) (i2 : Int) : Option (Option Bool × Bool × Nat × List V) :=
  ((F78 (k + 2) (o0) (b0) (n0) (x0) (i0) (i1) (i2) (0) (576460752303423488)).bind fun (o1, b1, n1, x1) => ((L40_18 k i0 i1 i2 b0 b1 x0 x1 o0 o1 n0 n1 (k + 11) (0) ([])).bind fun
    | L40_18_R.e0 i3 x2 => (some ((none), (false), (3), (x2)))))
theorem F40_ok {o0 : Option Bool} {b0 : Bool} {n0 : Nat} {x0 : List V} {i0 : Int} {i1 : Int} {i2 : Int} {k : Nat} {r : Option Bool × Bool × Nat × List V} (h : F40 k o0 b0 n0 x0 i0 i1 i2 = some r) :
    callP (evalFn Try.prog Try.cfg (k + 12)) 40 [V.sl o0 b0 n0 x0, V.agg [V.int IntKind.u64 i0, V.int IntKind.u64 i1], V.int IntKind.i64 i2] = some (V.sl r.1 r.2.1 r.2.2.1 r.2.2.2) := by
  unfold F40 at h
  obtain ⟨⟨o1, b1, n1, x1⟩, e0, h⟩ := Option.bind_eq_some_iff.1 h
  obtain ⟨ee, e1, h⟩ := Option.bind_eq_some_iff.1 h
  cases ee with
  | e0 i3 x2 =>
    have h := Option.some.inj h; subst h; exact P40_0 i0 i1 i2 i3 b0 b1 x0 x1 x2 o0 o1 n0 n1 k (F78_ok e0) (L40_18_ok e1)
end Go.Proofs
