/-
  What functions of extent answer, as functions on numbers and runs, each checked against the program.
-/
import Derived.Test.YtfjloeemhiffgaaBase
import Derived.Test.YtfjloeemhiffgaaSymPath2
set_option linter.unusedVariables false
set_option maxHeartbeats 0
set_option maxRecDepth 100000
namespace Go.Proofs
open Go Go.Sym

theorem P35_0 (b0 : Bool) (x0 : List V) (o0 : Option Bool) (n0 k : Nat)
    (c0 : SlcP true 3 (V.sl o0 b0 n0 x0) none (some (V.int .i64 (if 66 < (↑x0.length : Int) then 66 else (↑x0.length : Int)))) none (V.sl o0 false n0 (List.take (if 66 < (↑x0.length : Int) then 66 else (↑x0.length : Int)).toNat x0))) :
    callP (evalFn Try.prog Try.cfg (k + 3)) 35 [V.sl o0 b0 n0 x0] = some (V.sl o0 false n0 (List.take (if 66 < (↑x0.length : Int) then 66 else (↑x0.length : Int)).toNat x0)) :=
  byF (k := k) (d := 3) [Hn.op 7 (V.sl o0 false n0 (List.take (if 66 < (↑x0.length : Int) then 66 else (↑x0.length : Int)).toNat x0)) []] (And.intro c0 trivial) (by kernel_rfl)
def F35 (k : Nat) (o0 : Option Bool) (b0 : Bool) (n0 : Nat) (x0 : List V) : Option (Option Bool × Bool × Nat × List V) :=
  (guardP (n0 = (3 : Nat)) (guardP (((0 : Int) ≤ if (66 : Int) < (↑x0.length : Int) then (66 : Int) else (↑x0.length : Int)) ∧ (if (66 : Int) < (↑x0.length : Int) then (66 : Int) else (↑x0.length : Int)) ≤ (↑x0.length : Int)) (some ((o0), (false), (n0), (List.take (if 66 < (↑x0.length : Int) then 66 else (↑x0.length : Int)).toNat x0)))))
theorem F35_ok {o0 : Option Bool} {b0 : Bool} {n0 : Nat} {x0 : List V} {k : Nat} {r : Option Bool × Bool × Nat × List V} (h : F35 k o0 b0 n0 x0 = some r) :
    callP (evalFn Try.prog Try.cfg (k + 3)) 35 [V.sl o0 b0 n0 x0] = some (V.sl r.1 r.2.1 r.2.2.1 r.2.2.2) := by
  unfold F35 at h
  obtain ⟨e0, h⟩ := guardP_some.1 h
  obtain ⟨e1, h⟩ := guardP_some.1 h
  have h := Option.some.inj h; subst h; exact P35_0 b0 x0 o0 n0 k (SlcP.uptoS e1 e0)
theorem P79_0 (i0 i1 i2 : Int) (k : Nat) :
    callP (evalFn Try.prog Try.cfg (k + 3)) 79 [V.agg [V.int .u64 i0, V.int .u64 i1, V.int .i64 i2]] = some (V.int .u64 (IntKind.u64.wrap (i0 + i1))) :=
  byF (k := k) (d := 3) [] trivial (by kernel_rfl)
def F79 (k : Nat) (i0 i1 i2 : Int) : Option (Int) :=
  (some (IntKind.u64.wrap (i0 + i1)))
theorem F79_ok {i0 : Int} {i1 : Int} {i2 : Int} {k : Nat} {r : Int} (h : F79 k i0 i1 i2 = some r) :
    callP (evalFn Try.prog Try.cfg (k + 3)) 79 [V.agg [V.int .u64 i0, V.int .u64 i1, V.int .i64 i2]] = some (V.int .u64 r) := by
  unfold F79 at h
  have h := Option.some.inj h; subst h; exact P79_0 i0 i1 i2 k
theorem P71_0 (i0 : Int) (k : Nat)
    (c0 : decide (i0 = 1) = true) :
    callP (evalFn Try.prog Try.cfg (k + 3)) 71 [V.int .i64 i0] = some (V.bool true) :=
  byF (k := k) (d := 3) [Hn.br 5 true] (And.intro c0 trivial) (by kernel_rfl)
theorem P71_1 (i0 : Int) (k : Nat)
    (c0 : decide (i0 = 1) = false) :
    callP (evalFn Try.prog Try.cfg (k + 3)) 71 [V.int .i64 i0] = some (V.bool (decide (i0 = 2))) :=
  byF (k := k) (d := 3) [Hn.br 5 false] (And.intro c0 trivial) (by kernel_rfl)
def F71 (k : Nat) (i0 : Int) : Option (Bool) :=
  (bif decide (i0 = 1) then (some (true)) else (some (decide (i0 = 2))))
theorem F71_ok {i0 : Int} {k : Nat} {r : Bool} (h : F71 k i0 = some r) :
    callP (evalFn Try.prog Try.cfg (k + 3)) 71 [V.int .i64 i0] = some (V.bool r) := by
  unfold F71 at h
  rcases cond_elim h with ⟨e0, h⟩ | ⟨e0, h⟩
  ·
    have h := Option.some.inj h; subst h; exact P71_0 i0 k e0
  ·
    have h := Option.some.inj h; subst h; exact P71_1 i0 k e0
def dAu64u64i64Z : V → Option (Int × Int × Int)
  | V.agg [V.int .u64 a0, V.int .u64 a1, V.int .i64 a2] => some (a0, a1, a2)
  | _ => none
theorem dAu64u64i64Z_ok {v : V} {a : Int × Int × Int} (h : dAu64u64i64Z v = some a) : v = (fun (a : Int × Int × Int) => V.agg [V.int .u64 a.1, V.int .u64 a.2.1, V.int .i64 a.2.2] ) a := by
  unfold dAu64u64i64Z at h; split at h
  · cases h; rfl
  · cases h
theorem L45_0_b0 (i0 i1 i2 i3 : Int) (b0 : Bool) (x0 : List V) (o0 : Option Bool) (n0 k : Nat)
    (c0 : decide (i0 < (↑x0.length : Int)) = true)
    (c1 : IdxP x0 i0 n0 3 (V.agg [V.int .u64 i1, V.int .u64 i2, V.int .i64 i3]))
    (c2 : decide (i2 < 1) = true) :
    evalCode Try.prog Try.cfg (evalFn Try.prog Try.cfg (k + 5)) 0 (Try.cfg.fc 45) (k + 5) (loopBody Try.f45 0) { tm := [(0, V.sl o0 b0 n0 x0), (2, V.bool false), (5, V.sl o0 b0 n0 x0), (6, V.int .i64 (↑x0.length : Int)), (7, V.int .i64 i0)], hp := [], nx := 0 } = some (Exit.ret, { tm := [(0, V.sl o0 b0 n0 x0), (2, V.bool false), (3, V.int .i64 i0), (4, V.ptr 16 0), (5, V.sl o0 b0 n0 x0), (6, V.int .i64 (↑x0.length : Int)), (7, V.int .i64 i0), (8, V.bool true), (35, V.bool true)], hp := [(16, Ob.var [V.int .u64 i1, V.int .u64 i2, V.int .i64 i3])], nx := 128 }) :=
  byL (k := k) (d := 5) [Hn.br 8 true, Hn.op 10 ((V.agg [V.int .u64 i1, V.int .u64 i2, V.int .i64 i3]).cpt 0) [], Hn.br 15 true] (And.intro c0 (And.intro c1 (And.intro c2 trivial))) (by kernel_rfl)
theorem L45_0_b1 (i0 i1 i2 i3 : Int) (b0 : Bool) (x0 : List V) (o0 : Option Bool) (n0 k : Nat)
    (c0 : decide (i0 < (↑x0.length : Int)) = true)
    (c1 : IdxP x0 i0 n0 3 (V.agg [V.int .u64 i1, V.int .u64 i2, V.int .i64 i3]))
    (c2 : decide (i2 < 1) = false)
    (c3 : decide (576460752303423488 < i2) = true) :
    evalCode Try.prog Try.cfg (evalFn Try.prog Try.cfg (k + 5)) 0 (Try.cfg.fc 45) (k + 5) (loopBody Try.f45 0) { tm := [(0, V.sl o0 b0 n0 x0), (2, V.bool false), (5, V.sl o0 b0 n0 x0), (6, V.int .i64 (↑x0.length : Int)), (7, V.int .i64 i0)], hp := [], nx := 0 } = some (Exit.ret, { tm := [(0, V.sl o0 b0 n0 x0), (2, V.bool false), (3, V.int .i64 i0), (4, V.ptr 16 0), (5, V.sl o0 b0 n0 x0), (6, V.int .i64 (↑x0.length : Int)), (7, V.int .i64 i0), (8, V.bool true), (35, V.bool true)], hp := [(16, Ob.var [V.int .u64 i1, V.int .u64 i2, V.int .i64 i3])], nx := 128 }) :=
  byL (k := k) (d := 5) [Hn.br 8 true, Hn.op 10 ((V.agg [V.int .u64 i1, V.int .u64 i2, V.int .i64 i3]).cpt 0) [], Hn.br 15 false, Hn.br 20 true] (And.intro c0 (And.intro c1 (And.intro c2 (And.intro c3 trivial)))) (by kernel_rfl)
theorem L45_0_b2 (i0 i1 i2 i3 : Int) (b0 : Bool) (x0 : List V) (o0 : Option Bool) (n0 k : Nat)
    (c0 : decide (i0 < (↑x0.length : Int)) = true)
    (c1 : IdxP x0 i0 n0 3 (V.agg [V.int .u64 i1, V.int .u64 i2, V.int .i64 i3]))
    (c2 : decide (i2 < 1) = false)
    (c3 : decide (576460752303423488 < i2) = false)
    (c4 : decide (576460752303423488 ≤ i1) = true) :
    evalCode Try.prog Try.cfg (evalFn Try.prog Try.cfg (k + 5)) 0 (Try.cfg.fc 45) (k + 5) (loopBody Try.f45 0) { tm := [(0, V.sl o0 b0 n0 x0), (2, V.bool false), (5, V.sl o0 b0 n0 x0), (6, V.int .i64 (↑x0.length : Int)), (7, V.int .i64 i0)], hp := [], nx := 0 } = some (Exit.ret, { tm := [(0, V.sl o0 b0 n0 x0), (2, V.bool false), (3, V.int .i64 i0), (4, V.ptr 16 0), (5, V.sl o0 b0 n0 x0), (6, V.int .i64 (↑x0.length : Int)), (7, V.int .i64 i0), (8, V.bool true), (35, V.bool true)], hp := [(16, Ob.var [V.int .u64 i1, V.int .u64 i2, V.int .i64 i3])], nx := 128 }) :=
  byL (k := k) (d := 5) [Hn.br 8 true, Hn.op 10 ((V.agg [V.int .u64 i1, V.int .u64 i2, V.int .i64 i3]).cpt 0) [], Hn.br 15 false, Hn.br 20 false, Hn.br 25 true] (And.intro c0 (And.intro c1 (And.intro c2 (And.intro c3 (And.intro c4 trivial))))) (by kernel_rfl)
theorem L45_0_b3 (i0 i1 i2 i3 i4 : Int) (b0 : Bool) (x0 : List V) (o0 : Option Bool) (n0 k : Nat)
    (c0 : decide (i0 < (↑x0.length : Int)) = true)
    (c1 : IdxP x0 i0 n0 3 (V.agg [V.int .u64 i1, V.int .u64 i2, V.int .i64 i3]))
    (c2 : decide (i2 < 1) = false)
    (c3 : decide (576460752303423488 < i2) = false)
    (c4 : decide (576460752303423488 ≤ i1) = false)
    (c5 : callP (evalFn Try.prog Try.cfg (k + 5)) 79 [V.agg [V.int .u64 i1, V.int .u64 i2, V.int .i64 i3]] = some (V.int .u64 i4))
    (c6 : decide (576460752303423488 < i4) = true) :
    evalCode Try.prog Try.cfg (evalFn Try.prog Try.cfg (k + 5)) 0 (Try.cfg.fc 45) (k + 5) (loopBody Try.f45 0) { tm := [(0, V.sl o0 b0 n0 x0), (2, V.bool false), (5, V.sl o0 b0 n0 x0), (6, V.int .i64 (↑x0.length : Int)), (7, V.int .i64 i0)], hp := [], nx := 0 } = some (Exit.ret, { tm := [(0, V.sl o0 b0 n0 x0), (2, V.bool false), (3, V.int .i64 i0), (4, V.ptr 16 0), (5, V.sl o0 b0 n0 x0), (6, V.int .i64 (↑x0.length : Int)), (7, V.int .i64 i0), (8, V.bool true), (35, V.bool true)], hp := [(16, Ob.var [V.int .u64 i1, V.int .u64 i2, V.int .i64 i3])], nx := 128 }) :=
  byL (k := k) (d := 5) [Hn.br 8 true, Hn.op 10 ((V.agg [V.int .u64 i1, V.int .u64 i2, V.int .i64 i3]).cpt 0) [], Hn.br 15 false, Hn.br 20 false, Hn.br 25 false, Hn.call 27 (V.int .u64 i4), Hn.br 30 true] (And.intro c0 (And.intro c1 (And.intro c2 (And.intro c3 (And.intro c4 (And.intro c5 (And.intro c6 trivial))))))) (by kernel_rfl)
theorem L45_0_b4 (i0 i1 i2 i3 i4 : Int) (b0 b1 : Bool) (x0 : List V) (o0 : Option Bool) (n0 k : Nat)
    (c0 : decide (i0 < (↑x0.length : Int)) = true)
    (c1 : IdxP x0 i0 n0 3 (V.agg [V.int .u64 i1, V.int .u64 i2, V.int .i64 i3]))
    (c2 : decide (i2 < 1) = false)
    (c3 : decide (576460752303423488 < i2) = false)
    (c4 : decide (576460752303423488 ≤ i1) = false)
    (c5 : callP (evalFn Try.prog Try.cfg (k + 5)) 79 [V.agg [V.int .u64 i1, V.int .u64 i2, V.int .i64 i3]] = some (V.int .u64 i4))
    (c6 : decide (576460752303423488 < i4) = false)
    (c7 : callP (evalFn Try.prog Try.cfg (k + 5)) 71 [V.int .i64 i3] = some (V.bool b1))
    (c8 : (!b1) = true) :
    evalCode Try.prog Try.cfg (evalFn Try.prog Try.cfg (k + 5)) 0 (Try.cfg.fc 45) (k + 5) (loopBody Try.f45 0) { tm := [(0, V.sl o0 b0 n0 x0), (2, V.bool false), (5, V.sl o0 b0 n0 x0), (6, V.int .i64 (↑x0.length : Int)), (7, V.int .i64 i0)], hp := [], nx := 0 } = some (Exit.ret, { tm := [(0, V.sl o0 b0 n0 x0), (2, V.bool false), (3, V.int .i64 i0), (4, V.ptr 16 0), (5, V.sl o0 b0 n0 x0), (6, V.int .i64 (↑x0.length : Int)), (7, V.int .i64 i0), (8, V.bool true), (35, V.bool true)], hp := [(16, Ob.var [V.int .u64 i1, V.int .u64 i2, V.int .i64 i3])], nx := 128 }) :=
  byL (k := k) (d := 5) [Hn.br 8 true, Hn.op 10 ((V.agg [V.int .u64 i1, V.int .u64 i2, V.int .i64 i3]).cpt 0) [], Hn.br 15 false, Hn.br 20 false, Hn.br 25 false, Hn.call 27 (V.int .u64 i4), Hn.br 30 false, Hn.call 33 (V.bool b1), Hn.br 35 true] (And.intro c0 (And.intro c1 (And.intro c2 (And.intro c3 (And.intro c4 (And.intro c5 (And.intro c6 (And.intro c7 (And.intro c8 trivial))))))))) (by kernel_rfl)
theorem L45_0_b5 (i0 i1 i2 i3 i4 i5 i6 i7 i8 : Int) (b0 b1 : Bool) (x0 : List V) (o0 : Option Bool) (n0 k : Nat)
    (c0 : decide (i0 < (↑x0.length : Int)) = true)
    (c1 : IdxP x0 i0 n0 3 (V.agg [V.int .u64 i1, V.int .u64 i2, V.int .i64 i3]))
    (c2 : decide (i2 < 1) = false)
    (c3 : decide (576460752303423488 < i2) = false)
    (c4 : decide (576460752303423488 ≤ i1) = false)
    (c5 : callP (evalFn Try.prog Try.cfg (k + 5)) 79 [V.agg [V.int .u64 i1, V.int .u64 i2, V.int .i64 i3]] = some (V.int .u64 i4))
    (c6 : decide (576460752303423488 < i4) = false)
    (c7 : callP (evalFn Try.prog Try.cfg (k + 5)) 71 [V.int .i64 i3] = some (V.bool b1))
    (c8 : (!b1) = false)
    (c9 : decide (0 < i0) = true)
    (c10 : IdxP x0 (IntKind.i64.wrap (i0 - 1)) n0 3 (V.agg [V.int .u64 i5, V.int .u64 i6, V.int .i64 i7]))
    (c11 : callP (evalFn Try.prog Try.cfg (k + 5)) 79 [V.agg [V.int .u64 i5, V.int .u64 i6, V.int .i64 i7]] = some (V.int .u64 i8))
    (c12 : decide (i1 < i8) = true) :
    evalCode Try.prog Try.cfg (evalFn Try.prog Try.cfg (k + 5)) 0 (Try.cfg.fc 45) (k + 5) (loopBody Try.f45 0) { tm := [(0, V.sl o0 b0 n0 x0), (2, V.bool false), (5, V.sl o0 b0 n0 x0), (6, V.int .i64 (↑x0.length : Int)), (7, V.int .i64 i0)], hp := [], nx := 0 } = some (Exit.ret, { tm := [(0, V.sl o0 b0 n0 x0), (2, V.bool false), (3, V.int .i64 i0), (4, V.ptr 16 0), (5, V.sl o0 b0 n0 x0), (6, V.int .i64 (↑x0.length : Int)), (7, V.int .i64 i0), (8, V.bool true), (35, V.bool false), (70, V.bool true)], hp := [(16, Ob.var [V.int .u64 i1, V.int .u64 i2, V.int .i64 i3])], nx := 268 }) :=
  byL (k := k) (d := 5) [Hn.br 8 true, Hn.op 10 ((V.agg [V.int .u64 i1, V.int .u64 i2, V.int .i64 i3]).cpt 0) [], Hn.br 15 false, Hn.br 20 false, Hn.br 25 false, Hn.call 27 (V.int .u64 i4), Hn.br 30 false, Hn.call 33 (V.bool b1), Hn.br 35 false, Hn.br 38 true, Hn.op 42 ((V.agg [V.int .u64 i5, V.int .u64 i6, V.int .i64 i7]).cpt 0) [], Hn.call 44 (V.int .u64 i8), Hn.br 48 true] (And.intro c0 (And.intro c1 (And.intro c2 (And.intro c3 (And.intro c4 (And.intro c5 (And.intro c6 (And.intro c7 (And.intro c8 (And.intro c9 (And.intro c10 (And.intro c11 (And.intro c12 trivial))))))))))))) (by kernel_rfl)
theorem L45_0_b6 (i0 i1 i2 i3 i4 i5 i6 i7 i8 : Int) (b0 b1 : Bool) (x0 : List V) (o0 : Option Bool) (n0 k : Nat)
    (c0 : decide (i0 < (↑x0.length : Int)) = true)
    (c1 : IdxP x0 i0 n0 3 (V.agg [V.int .u64 i1, V.int .u64 i2, V.int .i64 i3]))
    (c2 : decide (i2 < 1) = false)
    (c3 : decide (576460752303423488 < i2) = false)
    (c4 : decide (576460752303423488 ≤ i1) = false)
    (c5 : callP (evalFn Try.prog Try.cfg (k + 5)) 79 [V.agg [V.int .u64 i1, V.int .u64 i2, V.int .i64 i3]] = some (V.int .u64 i4))
    (c6 : decide (576460752303423488 < i4) = false)
    (c7 : callP (evalFn Try.prog Try.cfg (k + 5)) 71 [V.int .i64 i3] = some (V.bool b1))
    (c8 : (!b1) = false)
    (c9 : decide (0 < i0) = true)
    (c10 : IdxP x0 (IntKind.i64.wrap (i0 - 1)) n0 3 (V.agg [V.int .u64 i5, V.int .u64 i6, V.int .i64 i7]))
    (c11 : callP (evalFn Try.prog Try.cfg (k + 5)) 79 [V.agg [V.int .u64 i5, V.int .u64 i6, V.int .i64 i7]] = some (V.int .u64 i8))
    (c12 : decide (i1 < i8) = false)
    (c13 : IdxP x0 (IntKind.i64.wrap (i0 - 1)) n0 3 (V.agg [V.int .u64 i5, V.int .u64 i6, V.int .i64 i7]))
    (c14 : callP (evalFn Try.prog Try.cfg (k + 5)) 79 [V.agg [V.int .u64 i5, V.int .u64 i6, V.int .i64 i7]] = some (V.int .u64 i8))
    (c15 : decide (i8 = i1) = true)
    (c16 : IdxP x0 (IntKind.i64.wrap (i0 - 1)) n0 3 (V.agg [V.int .u64 i5, V.int .u64 i6, V.int .i64 i7]))
    (c17 : decide (i7 = i3) = true) :
    evalCode Try.prog Try.cfg (evalFn Try.prog Try.cfg (k + 5)) 0 (Try.cfg.fc 45) (k + 5) (loopBody Try.f45 0) { tm := [(0, V.sl o0 b0 n0 x0), (2, V.bool false), (5, V.sl o0 b0 n0 x0), (6, V.int .i64 (↑x0.length : Int)), (7, V.int .i64 i0)], hp := [], nx := 0 } = some (Exit.ret, { tm := [(0, V.sl o0 b0 n0 x0), (2, V.bool false), (3, V.int .i64 i0), (4, V.ptr 16 0), (5, V.sl o0 b0 n0 x0), (6, V.int .i64 (↑x0.length : Int)), (7, V.int .i64 i0), (8, V.bool true), (35, V.bool false), (70, V.bool true)], hp := [(16, Ob.var [V.int .u64 i1, V.int .u64 i2, V.int .i64 i3])], nx := 268 }) :=
  byL (k := k) (d := 5) [Hn.br 8 true, Hn.op 10 ((V.agg [V.int .u64 i1, V.int .u64 i2, V.int .i64 i3]).cpt 0) [], Hn.br 15 false, Hn.br 20 false, Hn.br 25 false, Hn.call 27 (V.int .u64 i4), Hn.br 30 false, Hn.call 33 (V.bool b1), Hn.br 35 false, Hn.br 38 true, Hn.op 42 ((V.agg [V.int .u64 i5, V.int .u64 i6, V.int .i64 i7]).cpt 0) [], Hn.call 44 (V.int .u64 i8), Hn.br 48 false, Hn.op 52 ((V.agg [V.int .u64 i5, V.int .u64 i6, V.int .i64 i7]).cpt 0) [], Hn.call 54 (V.int .u64 i8), Hn.br 58 true, Hn.op 62 ((V.agg [V.int .u64 i5, V.int .u64 i6, V.int .i64 i7]).cpt 0) [], Hn.br 70 true] (And.intro c0 (And.intro c1 (And.intro c2 (And.intro c3 (And.intro c4 (And.intro c5 (And.intro c6 (And.intro c7 (And.intro c8 (And.intro c9 (And.intro c10 (And.intro c11 (And.intro c12 (And.intro c13 (And.intro c14 (And.intro c15 (And.intro c16 (And.intro c17 trivial)))))))))))))))))) (by kernel_rfl)
theorem L45_0_b7 (i0 i1 i2 i3 i4 i5 i6 i7 i8 : Int) (b0 b1 : Bool) (x0 : List V) (o0 : Option Bool) (n0 k : Nat)
    (c0 : decide (i0 < (↑x0.length : Int)) = true)
    (c1 : IdxP x0 i0 n0 3 (V.agg [V.int .u64 i1, V.int .u64 i2, V.int .i64 i3]))
    (c2 : decide (i2 < 1) = false)
    (c3 : decide (576460752303423488 < i2) = false)
    (c4 : decide (576460752303423488 ≤ i1) = false)
    (c5 : callP (evalFn Try.prog Try.cfg (k + 5)) 79 [V.agg [V.int .u64 i1, V.int .u64 i2, V.int .i64 i3]] = some (V.int .u64 i4))
    (c6 : decide (576460752303423488 < i4) = false)
    (c7 : callP (evalFn Try.prog Try.cfg (k + 5)) 71 [V.int .i64 i3] = some (V.bool b1))
    (c8 : (!b1) = false)
    (c9 : decide (0 < i0) = true)
    (c10 : IdxP x0 (IntKind.i64.wrap (i0 - 1)) n0 3 (V.agg [V.int .u64 i5, V.int .u64 i6, V.int .i64 i7]))
    (c11 : callP (evalFn Try.prog Try.cfg (k + 5)) 79 [V.agg [V.int .u64 i5, V.int .u64 i6, V.int .i64 i7]] = some (V.int .u64 i8))
    (c12 : decide (i1 < i8) = false)
    (c13 : IdxP x0 (IntKind.i64.wrap (i0 - 1)) n0 3 (V.agg [V.int .u64 i5, V.int .u64 i6, V.int .i64 i7]))
    (c14 : callP (evalFn Try.prog Try.cfg (k + 5)) 79 [V.agg [V.int .u64 i5, V.int .u64 i6, V.int .i64 i7]] = some (V.int .u64 i8))
    (c15 : decide (i8 = i1) = true)
    (c16 : IdxP x0 (IntKind.i64.wrap (i0 - 1)) n0 3 (V.agg [V.int .u64 i5, V.int .u64 i6, V.int .i64 i7]))
    (c17 : decide (i7 = i3) = false) :
    evalCode Try.prog Try.cfg (evalFn Try.prog Try.cfg (k + 5)) 0 (Try.cfg.fc 45) (k + 5) (loopBody Try.f45 0) { tm := [(0, V.sl o0 b0 n0 x0), (2, V.bool false), (5, V.sl o0 b0 n0 x0), (6, V.int .i64 (↑x0.length : Int)), (7, V.int .i64 i0)], hp := [], nx := 0 } = some (Exit.normal, { tm := [(0, V.sl o0 b0 n0 x0), (2, V.bool false), (3, V.int .i64 i0), (4, V.ptr 16 0), (5, V.sl o0 b0 n0 x0), (6, V.int .i64 (↑x0.length : Int)), (7, V.int .i64 (IntKind.i64.wrap (i0 + 1))), (8, V.bool true), (35, V.bool false), (70, V.bool false)], hp := [(16, Ob.var [V.int .u64 i1, V.int .u64 i2, V.int .i64 i3])], nx := 272 }) :=
  byL (k := k) (d := 5) [Hn.br 8 true, Hn.op 10 ((V.agg [V.int .u64 i1, V.int .u64 i2, V.int .i64 i3]).cpt 0) [], Hn.br 15 false, Hn.br 20 false, Hn.br 25 false, Hn.call 27 (V.int .u64 i4), Hn.br 30 false, Hn.call 33 (V.bool b1), Hn.br 35 false, Hn.br 38 true, Hn.op 42 ((V.agg [V.int .u64 i5, V.int .u64 i6, V.int .i64 i7]).cpt 0) [], Hn.call 44 (V.int .u64 i8), Hn.br 48 false, Hn.op 52 ((V.agg [V.int .u64 i5, V.int .u64 i6, V.int .i64 i7]).cpt 0) [], Hn.call 54 (V.int .u64 i8), Hn.br 58 true, Hn.op 62 ((V.agg [V.int .u64 i5, V.int .u64 i6, V.int .i64 i7]).cpt 0) [], Hn.br 70 false] (And.intro c0 (And.intro c1 (And.intro c2 (And.intro c3 (And.intro c4 (And.intro c5 (And.intro c6 (And.intro c7 (And.intro c8 (And.intro c9 (And.intro c10 (And.intro c11 (And.intro c12 (And.intro c13 (And.intro c14 (And.intro c15 (And.intro c16 (And.intro c17 trivial)))))))))))))))))) (by kernel_rfl)
theorem L45_0_b7h (i0 i1 i2 i3 : Int) (b0 : Bool) (x0 : List V) (o0 : Option Bool) (n0 : Nat) : head 0 [0, 2, 5, 6, 7] (Try.cfg.fc 45).acc { tm := [(0, V.sl o0 b0 n0 x0), (2, V.bool false), (3, V.int .i64 i0), (4, V.ptr 16 0), (5, V.sl o0 b0 n0 x0), (6, V.int .i64 (↑x0.length : Int)), (7, V.int .i64 (IntKind.i64.wrap (i0 + 1))), (8, V.bool true), (35, V.bool false), (70, V.bool false)], hp := [(16, Ob.var [V.int .u64 i1, V.int .u64 i2, V.int .i64 i3])], nx := 272 } = { tm := [(0, V.sl o0 b0 n0 x0), (2, V.bool false), (5, V.sl o0 b0 n0 x0), (6, V.int .i64 (↑x0.length : Int)), (7, V.int .i64 (IntKind.i64.wrap (i0 + 1)))], hp := [], nx := 0 } := by kernel_rfl
theorem L45_0_b8 (i0 i1 i2 i3 i4 i5 i6 i7 i8 : Int) (b0 b1 : Bool) (x0 : List V) (o0 : Option Bool) (n0 k : Nat)
    (c0 : decide (i0 < (↑x0.length : Int)) = true)
    (c1 : IdxP x0 i0 n0 3 (V.agg [V.int .u64 i1, V.int .u64 i2, V.int .i64 i3]))
    (c2 : decide (i2 < 1) = false)
    (c3 : decide (576460752303423488 < i2) = false)
    (c4 : decide (576460752303423488 ≤ i1) = false)
    (c5 : callP (evalFn Try.prog Try.cfg (k + 5)) 79 [V.agg [V.int .u64 i1, V.int .u64 i2, V.int .i64 i3]] = some (V.int .u64 i4))
    (c6 : decide (576460752303423488 < i4) = false)
    (c7 : callP (evalFn Try.prog Try.cfg (k + 5)) 71 [V.int .i64 i3] = some (V.bool b1))
    (c8 : (!b1) = false)
    (c9 : decide (0 < i0) = true)
    (c10 : IdxP x0 (IntKind.i64.wrap (i0 - 1)) n0 3 (V.agg [V.int .u64 i5, V.int .u64 i6, V.int .i64 i7]))
    (c11 : callP (evalFn Try.prog Try.cfg (k + 5)) 79 [V.agg [V.int .u64 i5, V.int .u64 i6, V.int .i64 i7]] = some (V.int .u64 i8))
    (c12 : decide (i1 < i8) = false)
    (c13 : IdxP x0 (IntKind.i64.wrap (i0 - 1)) n0 3 (V.agg [V.int .u64 i5, V.int .u64 i6, V.int .i64 i7]))
    (c14 : callP (evalFn Try.prog Try.cfg (k + 5)) 79 [V.agg [V.int .u64 i5, V.int .u64 i6, V.int .i64 i7]] = some (V.int .u64 i8))
    (c15 : decide (i8 = i1) = false) :
    evalCode Try.prog Try.cfg (evalFn Try.prog Try.cfg (k + 5)) 0 (Try.cfg.fc 45) (k + 5) (loopBody Try.f45 0) { tm := [(0, V.sl o0 b0 n0 x0), (2, V.bool false), (5, V.sl o0 b0 n0 x0), (6, V.int .i64 (↑x0.length : Int)), (7, V.int .i64 i0)], hp := [], nx := 0 } = some (Exit.normal, { tm := [(0, V.sl o0 b0 n0 x0), (2, V.bool false), (3, V.int .i64 i0), (4, V.ptr 16 0), (5, V.sl o0 b0 n0 x0), (6, V.int .i64 (↑x0.length : Int)), (7, V.int .i64 (IntKind.i64.wrap (i0 + 1))), (8, V.bool true), (35, V.bool false), (70, V.bool false)], hp := [(16, Ob.var [V.int .u64 i1, V.int .u64 i2, V.int .i64 i3])], nx := 272 }) :=
  byL (k := k) (d := 5) [Hn.br 8 true, Hn.op 10 ((V.agg [V.int .u64 i1, V.int .u64 i2, V.int .i64 i3]).cpt 0) [], Hn.br 15 false, Hn.br 20 false, Hn.br 25 false, Hn.call 27 (V.int .u64 i4), Hn.br 30 false, Hn.call 33 (V.bool b1), Hn.br 35 false, Hn.br 38 true, Hn.op 42 ((V.agg [V.int .u64 i5, V.int .u64 i6, V.int .i64 i7]).cpt 0) [], Hn.call 44 (V.int .u64 i8), Hn.br 48 false, Hn.op 52 ((V.agg [V.int .u64 i5, V.int .u64 i6, V.int .i64 i7]).cpt 0) [], Hn.call 54 (V.int .u64 i8), Hn.br 58 false] (And.intro c0 (And.intro c1 (And.intro c2 (And.intro c3 (And.intro c4 (And.intro c5 (And.intro c6 (And.intro c7 (And.intro c8 (And.intro c9 (And.intro c10 (And.intro c11 (And.intro c12 (And.intro c13 (And.intro c14 (And.intro c15 trivial)))))))))))))))) (by kernel_rfl)
theorem L45_0_b8h (i0 i1 i2 i3 : Int) (b0 : Bool) (x0 : List V) (o0 : Option Bool) (n0 : Nat) : head 0 [0, 2, 5, 6, 7] (Try.cfg.fc 45).acc { tm := [(0, V.sl o0 b0 n0 x0), (2, V.bool false), (3, V.int .i64 i0), (4, V.ptr 16 0), (5, V.sl o0 b0 n0 x0), (6, V.int .i64 (↑x0.length : Int)), (7, V.int .i64 (IntKind.i64.wrap (i0 + 1))), (8, V.bool true), (35, V.bool false), (70, V.bool false)], hp := [(16, Ob.var [V.int .u64 i1, V.int .u64 i2, V.int .i64 i3])], nx := 272 } = { tm := [(0, V.sl o0 b0 n0 x0), (2, V.bool false), (5, V.sl o0 b0 n0 x0), (6, V.int .i64 (↑x0.length : Int)), (7, V.int .i64 (IntKind.i64.wrap (i0 + 1)))], hp := [], nx := 0 } := by kernel_rfl
theorem L45_0_b9 (i0 i1 i2 i3 i4 : Int) (b0 b1 : Bool) (x0 : List V) (o0 : Option Bool) (n0 k : Nat)
    (c0 : decide (i0 < (↑x0.length : Int)) = true)
    (c1 : IdxP x0 i0 n0 3 (V.agg [V.int .u64 i1, V.int .u64 i2, V.int .i64 i3]))
    (c2 : decide (i2 < 1) = false)
    (c3 : decide (576460752303423488 < i2) = false)
    (c4 : decide (576460752303423488 ≤ i1) = false)
    (c5 : callP (evalFn Try.prog Try.cfg (k + 5)) 79 [V.agg [V.int .u64 i1, V.int .u64 i2, V.int .i64 i3]] = some (V.int .u64 i4))
    (c6 : decide (576460752303423488 < i4) = false)
    (c7 : callP (evalFn Try.prog Try.cfg (k + 5)) 71 [V.int .i64 i3] = some (V.bool b1))
    (c8 : (!b1) = false)
    (c9 : decide (0 < i0) = false) :
    evalCode Try.prog Try.cfg (evalFn Try.prog Try.cfg (k + 5)) 0 (Try.cfg.fc 45) (k + 5) (loopBody Try.f45 0) { tm := [(0, V.sl o0 b0 n0 x0), (2, V.bool false), (5, V.sl o0 b0 n0 x0), (6, V.int .i64 (↑x0.length : Int)), (7, V.int .i64 i0)], hp := [], nx := 0 } = some (Exit.normal, { tm := [(0, V.sl o0 b0 n0 x0), (2, V.bool false), (3, V.int .i64 i0), (4, V.ptr 16 0), (5, V.sl o0 b0 n0 x0), (6, V.int .i64 (↑x0.length : Int)), (7, V.int .i64 (IntKind.i64.wrap (i0 + 1))), (8, V.bool true), (35, V.bool false), (70, V.bool false)], hp := [(16, Ob.var [V.int .u64 i1, V.int .u64 i2, V.int .i64 i3])], nx := 272 }) :=
  byL (k := k) (d := 5) [Hn.br 8 true, Hn.op 10 ((V.agg [V.int .u64 i1, V.int .u64 i2, V.int .i64 i3]).cpt 0) [], Hn.br 15 false, Hn.br 20 false, Hn.br 25 false, Hn.call 27 (V.int .u64 i4), Hn.br 30 false, Hn.call 33 (V.bool b1), Hn.br 35 false, Hn.br 38 false] (And.intro c0 (And.intro c1 (And.intro c2 (And.intro c3 (And.intro c4 (And.intro c5 (And.intro c6 (And.intro c7 (And.intro c8 (And.intro c9 trivial)))))))))) (by kernel_rfl)
theorem L45_0_b9h (i0 i1 i2 i3 : Int) (b0 : Bool) (x0 : List V) (o0 : Option Bool) (n0 : Nat) : head 0 [0, 2, 5, 6, 7] (Try.cfg.fc 45).acc { tm := [(0, V.sl o0 b0 n0 x0), (2, V.bool false), (3, V.int .i64 i0), (4, V.ptr 16 0), (5, V.sl o0 b0 n0 x0), (6, V.int .i64 (↑x0.length : Int)), (7, V.int .i64 (IntKind.i64.wrap (i0 + 1))), (8, V.bool true), (35, V.bool false), (70, V.bool false)], hp := [(16, Ob.var [V.int .u64 i1, V.int .u64 i2, V.int .i64 i3])], nx := 272 } = { tm := [(0, V.sl o0 b0 n0 x0), (2, V.bool false), (5, V.sl o0 b0 n0 x0), (6, V.int .i64 (↑x0.length : Int)), (7, V.int .i64 (IntKind.i64.wrap (i0 + 1)))], hp := [], nx := 0 } := by kernel_rfl
theorem L45_0_b10 (i0 : Int) (b0 : Bool) (x0 : List V) (o0 : Option Bool) (n0 k : Nat)
    (c0 : decide (i0 < (↑x0.length : Int)) = false) :
    evalCode Try.prog Try.cfg (evalFn Try.prog Try.cfg (k + 5)) 0 (Try.cfg.fc 45) (k + 5) (loopBody Try.f45 0) { tm := [(0, V.sl o0 b0 n0 x0), (2, V.bool false), (5, V.sl o0 b0 n0 x0), (6, V.int .i64 (↑x0.length : Int)), (7, V.int .i64 i0)], hp := [], nx := 0 } = some (Exit.exit 0, { tm := [(0, V.sl o0 b0 n0 x0), (2, V.bool false), (5, V.sl o0 b0 n0 x0), (6, V.int .i64 (↑x0.length : Int)), (7, V.int .i64 i0), (8, V.bool false)], hp := [], nx := 4 }) :=
  byL (k := k) (d := 5) [Hn.br 8 false] (And.intro c0 trivial) (by kernel_rfl)
inductive L45_0_R where
  | e0 (i0 : Int) (i1 : Int) (i2 : Int) (i3 : Int)
  | e1 (i0 : Int) (i1 : Int) (i2 : Int) (i3 : Int)
  | e2 (i0 : Int) (i1 : Int) (i2 : Int) (i3 : Int)
  | e3 (i0 : Int) (i1 : Int) (i2 : Int) (i3 : Int)
  | e4 (i0 : Int) (i1 : Int) (i2 : Int) (i3 : Int)
  | e5 (i0 : Int) (i1 : Int) (i2 : Int) (i3 : Int)
  | e6 (i0 : Int) (i1 : Int) (i2 : Int) (i3 : Int)
  | e7 (i0 : Int)
noncomputable def L45_0_end (b0 : Bool) (x0 : List V) (o0 : Option Bool) (n0 : Nat) : L45_0_R → Exit × St
  | .e0 i0 i1 i2 i3 => (Exit.ret, { tm := [(0, V.sl o0 b0 n0 x0), (2, V.bool false), (3, V.int .i64 i0), (4, V.ptr 16 0), (5, V.sl o0 b0 n0 x0), (6, V.int .i64 (↑x0.length : Int)), (7, V.int .i64 i0), (8, V.bool true), (35, V.bool true)], hp := [(16, Ob.var [V.int .u64 i1, V.int .u64 i2, V.int .i64 i3])], nx := 128 })
  | .e1 i0 i1 i2 i3 => (Exit.ret, { tm := [(0, V.sl o0 b0 n0 x0), (2, V.bool false), (3, V.int .i64 i0), (4, V.ptr 16 0), (5, V.sl o0 b0 n0 x0), (6, V.int .i64 (↑x0.length : Int)), (7, V.int .i64 i0), (8, V.bool true), (35, V.bool true)], hp := [(16, Ob.var [V.int .u64 i1, V.int .u64 i2, V.int .i64 i3])], nx := 128 })
  | .e2 i0 i1 i2 i3 => (Exit.ret, { tm := [(0, V.sl o0 b0 n0 x0), (2, V.bool false), (3, V.int .i64 i0), (4, V.ptr 16 0), (5, V.sl o0 b0 n0 x0), (6, V.int .i64 (↑x0.length : Int)), (7, V.int .i64 i0), (8, V.bool true), (35, V.bool true)], hp := [(16, Ob.var [V.int .u64 i1, V.int .u64 i2, V.int .i64 i3])], nx := 128 })
  | .e3 i0 i1 i2 i3 => (Exit.ret, { tm := [(0, V.sl o0 b0 n0 x0), (2, V.bool false), (3, V.int .i64 i0), (4, V.ptr 16 0), (5, V.sl o0 b0 n0 x0), (6, V.int .i64 (↑x0.length : Int)), (7, V.int .i64 i0), (8, V.bool true), (35, V.bool true)], hp := [(16, Ob.var [V.int .u64 i1, V.int .u64 i2, V.int .i64 i3])], nx := 128 })
  | .e4 i0 i1 i2 i3 => (Exit.ret, { tm := [(0, V.sl o0 b0 n0 x0), (2, V.bool false), (3, V.int .i64 i0), (4, V.ptr 16 0), (5, V.sl o0 b0 n0 x0), (6, V.int .i64 (↑x0.length : Int)), (7, V.int .i64 i0), (8, V.bool true), (35, V.bool true)], hp := [(16, Ob.var [V.int .u64 i1, V.int .u64 i2, V.int .i64 i3])], nx := 128 })
  | .e5 i0 i1 i2 i3 => (Exit.ret, { tm := [(0, V.sl o0 b0 n0 x0), (2, V.bool false), (3, V.int .i64 i0), (4, V.ptr 16 0), (5, V.sl o0 b0 n0 x0), (6, V.int .i64 (↑x0.length : Int)), (7, V.int .i64 i0), (8, V.bool true), (35, V.bool false), (70, V.bool true)], hp := [(16, Ob.var [V.int .u64 i1, V.int .u64 i2, V.int .i64 i3])], nx := 268 })
  | .e6 i0 i1 i2 i3 => (Exit.ret, { tm := [(0, V.sl o0 b0 n0 x0), (2, V.bool false), (3, V.int .i64 i0), (4, V.ptr 16 0), (5, V.sl o0 b0 n0 x0), (6, V.int .i64 (↑x0.length : Int)), (7, V.int .i64 i0), (8, V.bool true), (35, V.bool false), (70, V.bool true)], hp := [(16, Ob.var [V.int .u64 i1, V.int .u64 i2, V.int .i64 i3])], nx := 268 })
  | .e7 i0 => (Exit.exit 0, { tm := [(0, V.sl o0 b0 n0 x0), (2, V.bool false), (5, V.sl o0 b0 n0 x0), (6, V.int .i64 (↑x0.length : Int)), (7, V.int .i64 i0), (8, V.bool false)], hp := [], nx := 4 })
def L45_0 (k : Nat) (b0 : Bool) (x0 : List V) (o0 : Option Bool) (n0 : Nat) : Nat → Int → Option L45_0_R
  | 0, _ => none
  | f + 1, i0 => (bif decide (i0 < (↑x0.length : Int)) then (guardP (n0 = (3 : Nat)) (((at? (x0) (i0)).bind dAu64u64i64Z).bind fun (i1, i2, i3) => (bif decide (i2 < 1) then (some (L45_0_R.e0 i0 i1 i2 i3)) else (bif decide (576460752303423488 < i2) then (some (L45_0_R.e1 i0 i1 i2 i3)) else (bif decide (576460752303423488 ≤ i1) then (some (L45_0_R.e2 i0 i1 i2 i3)) else ((F79 (k + 2) (i1) (i2) (i3)).bind fun i4 => (bif decide (576460752303423488 < i4) then (some (L45_0_R.e3 i0 i1 i2 i3)) else ((F71 (k + 2) (i3)).bind fun b1 => (bif !b1 then (some (L45_0_R.e4 i0 i1 i2 i3)) else (bif decide (0 < i0) then (((at? (x0) (IntKind.i64.wrap (i0 - 1))).bind dAu64u64i64Z).bind fun (i5, i6, i7) => ((F79 (k + 2) (i5) (i6) (i7)).bind fun i8 => (bif decide (i1 < i8) then (some (L45_0_R.e5 i0 i1 i2 i3)) else (bif decide (i8 = i1) then (bif decide (i7 = i3) then (some (L45_0_R.e6 i0 i1 i2 i3)) else (L45_0 k b0 x0 o0 n0 f (IntKind.i64.wrap (i0 + 1)))) else (L45_0 k b0 x0 o0 n0 f (IntKind.i64.wrap (i0 + 1))))))) else (L45_0 k b0 x0 o0 n0 f (IntKind.i64.wrap (i0 + 1))))))))))))) else (some (L45_0_R.e7 i0)))
theorem L45_0_ok {b0 : Bool} {x0 : List V} {o0 : Option Bool} {n0 : Nat} {k : Nat} : ∀ {f : Nat} {i0 : Int} {r : L45_0_R}, L45_0 k b0 x0 o0 n0 f i0 = some r →
    LoopsN Try.prog Try.cfg (k + 5) 0 Try.f45 (Try.cfg.fc 45) 0 [0, 2, 5, 6, 7] f { tm := [(0, V.sl o0 b0 n0 x0), (2, V.bool false), (5, V.sl o0 b0 n0 x0), (6, V.int .i64 (↑x0.length : Int)), (7, V.int .i64 i0)], hp := [], nx := 0 } (L45_0_end b0 x0 o0 n0 r) := by
  intro f
  induction f with
  | zero => intro i0 r h; cases h
  | succ f ih =>
    intro i0 r h
    rw [L45_0] at h
    rcases cond_elim h with ⟨e0, h⟩ | ⟨e0, h⟩
    ·
      obtain ⟨e1, h⟩ := guardP_some.1 h
      obtain ⟨⟨i1, i2, i3⟩, e2, h⟩ := Option.bind_eq_some_iff.1 h
      rcases cond_elim h with ⟨e3, h⟩ | ⟨e3, h⟩
      ·
        cases h; exact LoopsN.done (L45_0_b0 i0 i1 i2 i3 b0 x0 o0 n0 k e0 (IdxP.of_at' (at_d dAu64u64i64Z_ok e2 :) e1) e3) (fun h => by cases h)
      ·
        rcases cond_elim h with ⟨e4, h⟩ | ⟨e4, h⟩
        ·
          cases h; exact LoopsN.done (L45_0_b1 i0 i1 i2 i3 b0 x0 o0 n0 k e0 (IdxP.of_at' (at_d dAu64u64i64Z_ok e2 :) e1) e3 e4) (fun h => by cases h)
        ·
          rcases cond_elim h with ⟨e5, h⟩ | ⟨e5, h⟩
          ·
            cases h; exact LoopsN.done (L45_0_b2 i0 i1 i2 i3 b0 x0 o0 n0 k e0 (IdxP.of_at' (at_d dAu64u64i64Z_ok e2 :) e1) e3 e4 e5) (fun h => by cases h)
          ·
            obtain ⟨i4, e6, h⟩ := Option.bind_eq_some_iff.1 h
            rcases cond_elim h with ⟨e7, h⟩ | ⟨e7, h⟩
            ·
              cases h; exact LoopsN.done (L45_0_b3 i0 i1 i2 i3 i4 b0 x0 o0 n0 k e0 (IdxP.of_at' (at_d dAu64u64i64Z_ok e2 :) e1) e3 e4 e5 (F79_ok e6) e7) (fun h => by cases h)
            ·
              obtain ⟨b1, e8, h⟩ := Option.bind_eq_some_iff.1 h
              rcases cond_elim h with ⟨e9, h⟩ | ⟨e9, h⟩
              ·
                cases h; exact LoopsN.done (L45_0_b4 i0 i1 i2 i3 i4 b0 b1 x0 o0 n0 k e0 (IdxP.of_at' (at_d dAu64u64i64Z_ok e2 :) e1) e3 e4 e5 (F79_ok e6) e7 (F71_ok e8) e9) (fun h => by cases h)
              ·
                rcases cond_elim h with ⟨e10, h⟩ | ⟨e10, h⟩
                ·
                  obtain ⟨⟨i5, i6, i7⟩, e11, h⟩ := Option.bind_eq_some_iff.1 h
                  obtain ⟨i8, e12, h⟩ := Option.bind_eq_some_iff.1 h
                  rcases cond_elim h with ⟨e13, h⟩ | ⟨e13, h⟩
                  ·
                    cases h; exact LoopsN.done (L45_0_b5 i0 i1 i2 i3 i4 i5 i6 i7 i8 b0 b1 x0 o0 n0 k e0 (IdxP.of_at' (at_d dAu64u64i64Z_ok e2 :) e1) e3 e4 e5 (F79_ok e6) e7 (F71_ok e8) e9 e10 (IdxP.of_at' (at_d dAu64u64i64Z_ok e11 :) e1) (F79_ok e12) e13) (fun h => by cases h)
                  ·
                    rcases cond_elim h with ⟨e14, h⟩ | ⟨e14, h⟩
                    ·
                      rcases cond_elim h with ⟨e15, h⟩ | ⟨e15, h⟩
                      ·
                        cases h; exact LoopsN.done (L45_0_b6 i0 i1 i2 i3 i4 i5 i6 i7 i8 b0 b1 x0 o0 n0 k e0 (IdxP.of_at' (at_d dAu64u64i64Z_ok e2 :) e1) e3 e4 e5 (F79_ok e6) e7 (F71_ok e8) e9 e10 (IdxP.of_at' (at_d dAu64u64i64Z_ok e11 :) e1) (F79_ok e12) e13 (IdxP.of_at' (at_d dAu64u64i64Z_ok e11 :) e1) (F79_ok e12) e14 (IdxP.of_at' (at_d dAu64u64i64Z_ok e11 :) e1) e15) (fun h => by cases h)
                      ·
                        exact LoopsN.next (L45_0_b7 i0 i1 i2 i3 i4 i5 i6 i7 i8 b0 b1 x0 o0 n0 k e0 (IdxP.of_at' (at_d dAu64u64i64Z_ok e2 :) e1) e3 e4 e5 (F79_ok e6) e7 (F71_ok e8) e9 e10 (IdxP.of_at' (at_d dAu64u64i64Z_ok e11 :) e1) (F79_ok e12) e13 (IdxP.of_at' (at_d dAu64u64i64Z_ok e11 :) e1) (F79_ok e12) e14 (IdxP.of_at' (at_d dAu64u64i64Z_ok e11 :) e1) e15) (L45_0_b7h i0 i1 i2 i3 b0 x0 o0 n0) (ih h)
                    ·
                      exact LoopsN.next (L45_0_b8 i0 i1 i2 i3 i4 i5 i6 i7 i8 b0 b1 x0 o0 n0 k e0 (IdxP.of_at' (at_d dAu64u64i64Z_ok e2 :) e1) e3 e4 e5 (F79_ok e6) e7 (F71_ok e8) e9 e10 (IdxP.of_at' (at_d dAu64u64i64Z_ok e11 :) e1) (F79_ok e12) e13 (IdxP.of_at' (at_d dAu64u64i64Z_ok e11 :) e1) (F79_ok e12) e14) (L45_0_b8h i0 i1 i2 i3 b0 x0 o0 n0) (ih h)
                ·
                  exact LoopsN.next (L45_0_b9 i0 i1 i2 i3 i4 b0 b1 x0 o0 n0 k e0 (IdxP.of_at' (at_d dAu64u64i64Z_ok e2 :) e1) e3 e4 e5 (F79_ok e6) e7 (F71_ok e8) e9 e10) (L45_0_b9h i0 i1 i2 i3 b0 x0 o0 n0) (ih h)
    ·
      cases h; exact LoopsN.done (L45_0_b10 i0 b0 x0 o0 n0 k e0) (fun h => by cases h)
theorem P45_0 (i0 : Int) (b0 : Bool) (x0 : List V) (o0 : Option Bool) (n0 k : Nat)
    (c0 : LoopsN Try.prog Try.cfg (k + 5) 0 Try.f45 (Try.cfg.fc 45) 0 [0, 2, 5, 6, 7] (k + 5) { tm := [(0, V.sl o0 b0 n0 x0), (2, V.bool false), (5, V.sl o0 b0 n0 x0), (6, V.int .i64 (↑x0.length : Int)), (7, V.int .i64 0)], hp := [], nx := 0 } (Exit.exit 0, { tm := [(0, V.sl o0 b0 n0 x0), (2, V.bool false), (5, V.sl o0 b0 n0 x0), (6, V.int .i64 (↑x0.length : Int)), (7, V.int .i64 i0), (8, V.bool false)], hp := [], nx := 4 })) :
    callP (evalFn Try.prog Try.cfg (k + 6)) 45 [V.sl o0 b0 n0 x0] = some (V.bool (decide ((↑x0.length : Int) ≤ 64))) :=
  byF (k := k) (d := 6) [Hn.loop (Exit.exit 0, { tm := [(0, V.sl o0 b0 n0 x0), (2, V.bool false), (5, V.sl o0 b0 n0 x0), (6, V.int .i64 (↑x0.length : Int)), (7, V.int .i64 i0), (8, V.bool false)], hp := [], nx := 4 })] (And.intro c0 trivial) (by kernel_rfl)
theorem P45_1 (i0 i1 i2 i3 : Int) (b0 : Bool) (x0 : List V) (o0 : Option Bool) (n0 k : Nat)
    (c0 : LoopsN Try.prog Try.cfg (k + 5) 0 Try.f45 (Try.cfg.fc 45) 0 [0, 2, 5, 6, 7] (k + 5) { tm := [(0, V.sl o0 b0 n0 x0), (2, V.bool false), (5, V.sl o0 b0 n0 x0), (6, V.int .i64 (↑x0.length : Int)), (7, V.int .i64 0)], hp := [], nx := 0 } (Exit.ret, { tm := [(0, V.sl o0 b0 n0 x0), (2, V.bool false), (3, V.int .i64 i0), (4, V.ptr 16 0), (5, V.sl o0 b0 n0 x0), (6, V.int .i64 (↑x0.length : Int)), (7, V.int .i64 i0), (8, V.bool true), (35, V.bool false), (70, V.bool true)], hp := [(16, Ob.var [V.int .u64 i1, V.int .u64 i2, V.int .i64 i3])], nx := 268 })) :
    callP (evalFn Try.prog Try.cfg (k + 6)) 45 [V.sl o0 b0 n0 x0] = some (V.bool false) :=
  byF (k := k) (d := 6) [Hn.loop (Exit.ret, { tm := [(0, V.sl o0 b0 n0 x0), (2, V.bool false), (3, V.int .i64 i0), (4, V.ptr 16 0), (5, V.sl o0 b0 n0 x0), (6, V.int .i64 (↑x0.length : Int)), (7, V.int .i64 i0), (8, V.bool true), (35, V.bool false), (70, V.bool true)], hp := [(16, Ob.var [V.int .u64 i1, V.int .u64 i2, V.int .i64 i3])], nx := 268 })] (And.intro c0 trivial) (by kernel_rfl)
theorem P45_2 (i0 i1 i2 i3 : Int) (b0 : Bool) (x0 : List V) (o0 : Option Bool) (n0 k : Nat)
    (c0 : LoopsN Try.prog Try.cfg (k + 5) 0 Try.f45 (Try.cfg.fc 45) 0 [0, 2, 5, 6, 7] (k + 5) { tm := [(0, V.sl o0 b0 n0 x0), (2, V.bool false), (5, V.sl o0 b0 n0 x0), (6, V.int .i64 (↑x0.length : Int)), (7, V.int .i64 0)], hp := [], nx := 0 } (Exit.ret, { tm := [(0, V.sl o0 b0 n0 x0), (2, V.bool false), (3, V.int .i64 i0), (4, V.ptr 16 0), (5, V.sl o0 b0 n0 x0), (6, V.int .i64 (↑x0.length : Int)), (7, V.int .i64 i0), (8, V.bool true), (35, V.bool false), (70, V.bool true)], hp := [(16, Ob.var [V.int .u64 i1, V.int .u64 i2, V.int .i64 i3])], nx := 268 })) :
    callP (evalFn Try.prog Try.cfg (k + 6)) 45 [V.sl o0 b0 n0 x0] = some (V.bool false) :=
  byF (k := k) (d := 6) [Hn.loop (Exit.ret, { tm := [(0, V.sl o0 b0 n0 x0), (2, V.bool false), (3, V.int .i64 i0), (4, V.ptr 16 0), (5, V.sl o0 b0 n0 x0), (6, V.int .i64 (↑x0.length : Int)), (7, V.int .i64 i0), (8, V.bool true), (35, V.bool false), (70, V.bool true)], hp := [(16, Ob.var [V.int .u64 i1, V.int .u64 i2, V.int .i64 i3])], nx := 268 })] (And.intro c0 trivial) (by kernel_rfl)
theorem P45_3 (i0 i1 i2 i3 : Int) (b0 : Bool) (x0 : List V) (o0 : Option Bool) (n0 k : Nat)
    (c0 : LoopsN Try.prog Try.cfg (k + 5) 0 Try.f45 (Try.cfg.fc 45) 0 [0, 2, 5, 6, 7] (k + 5) { tm := [(0, V.sl o0 b0 n0 x0), (2, V.bool false), (5, V.sl o0 b0 n0 x0), (6, V.int .i64 (↑x0.length : Int)), (7, V.int .i64 0)], hp := [], nx := 0 } (Exit.ret, { tm := [(0, V.sl o0 b0 n0 x0), (2, V.bool false), (3, V.int .i64 i0), (4, V.ptr 16 0), (5, V.sl o0 b0 n0 x0), (6, V.int .i64 (↑x0.length : Int)), (7, V.int .i64 i0), (8, V.bool true), (35, V.bool true)], hp := [(16, Ob.var [V.int .u64 i1, V.int .u64 i2, V.int .i64 i3])], nx := 128 })) :
    callP (evalFn Try.prog Try.cfg (k + 6)) 45 [V.sl o0 b0 n0 x0] = some (V.bool false) :=
  byF (k := k) (d := 6) [Hn.loop (Exit.ret, { tm := [(0, V.sl o0 b0 n0 x0), (2, V.bool false), (3, V.int .i64 i0), (4, V.ptr 16 0), (5, V.sl o0 b0 n0 x0), (6, V.int .i64 (↑x0.length : Int)), (7, V.int .i64 i0), (8, V.bool true), (35, V.bool true)], hp := [(16, Ob.var [V.int .u64 i1, V.int .u64 i2, V.int .i64 i3])], nx := 128 })] (And.intro c0 trivial) (by kernel_rfl)
theorem P45_4 (i0 i1 i2 i3 : Int) (b0 : Bool) (x0 : List V) (o0 : Option Bool) (n0 k : Nat)
    (c0 : LoopsN Try.prog Try.cfg (k + 5) 0 Try.f45 (Try.cfg.fc 45) 0 [0, 2, 5, 6, 7] (k + 5) { tm := [(0, V.sl o0 b0 n0 x0), (2, V.bool false), (5, V.sl o0 b0 n0 x0), (6, V.int .i64 (↑x0.length : Int)), (7, V.int .i64 0)], hp := [], nx := 0 } (Exit.ret, { tm := [(0, V.sl o0 b0 n0 x0), (2, V.bool false), (3, V.int .i64 i0), (4, V.ptr 16 0), (5, V.sl o0 b0 n0 x0), (6, V.int .i64 (↑x0.length : Int)), (7, V.int .i64 i0), (8, V.bool true), (35, V.bool true)], hp := [(16, Ob.var [V.int .u64 i1, V.int .u64 i2, V.int .i64 i3])], nx := 128 })) :
    callP (evalFn Try.prog Try.cfg (k + 6)) 45 [V.sl o0 b0 n0 x0] = some (V.bool false) :=
  byF (k := k) (d := 6) [Hn.loop (Exit.ret, { tm := [(0, V.sl o0 b0 n0 x0), (2, V.bool false), (3, V.int .i64 i0), (4, V.ptr 16 0), (5, V.sl o0 b0 n0 x0), (6, V.int .i64 (↑x0.length : Int)), (7, V.int .i64 i0), (8, V.bool true), (35, V.bool true)], hp := [(16, Ob.var [V.int .u64 i1, V.int .u64 i2, V.int .i64 i3])], nx := 128 })] (And.intro c0 trivial) (by kernel_rfl)
theorem P45_5 (i0 i1 i2 i3 : Int) (b0 : Bool) (x0 : List V) (o0 : Option Bool) (n0 k : Nat)
    (c0 : LoopsN Try.prog Try.cfg (k + 5) 0 Try.f45 (Try.cfg.fc 45) 0 [0, 2, 5, 6, 7] (k + 5) { tm := [(0, V.sl o0 b0 n0 x0), (2, V.bool false), (5, V.sl o0 b0 n0 x0), (6, V.int .i64 (↑x0.length : Int)), (7, V.int .i64 0)], hp := [], nx := 0 } (Exit.ret, { tm := [(0, V.sl o0 b0 n0 x0), (2, V.bool false), (3, V.int .i64 i0), (4, V.ptr 16 0), (5, V.sl o0 b0 n0 x0), (6, V.int .i64 (↑x0.length : Int)), (7, V.int .i64 i0), (8, V.bool true), (35, V.bool true)], hp := [(16, Ob.var [V.int .u64 i1, V.int .u64 i2, V.int .i64 i3])], nx := 128 })) :
    callP (evalFn Try.prog Try.cfg (k + 6)) 45 [V.sl o0 b0 n0 x0] = some (V.bool false) :=
  byF (k := k) (d := 6) [Hn.loop (Exit.ret, { tm := [(0, V.sl o0 b0 n0 x0), (2, V.bool false), (3, V.int .i64 i0), (4, V.ptr 16 0), (5, V.sl o0 b0 n0 x0), (6, V.int .i64 (↑x0.length : Int)), (7, V.int .i64 i0), (8, V.bool true), (35, V.bool true)], hp := [(16, Ob.var [V.int .u64 i1, V.int .u64 i2, V.int .i64 i3])], nx := 128 })] (And.intro c0 trivial) (by kernel_rfl)
theorem P45_6 (i0 i1 i2 i3 : Int) (b0 : Bool) (x0 : List V) (o0 : Option Bool) (n0 k : Nat)
    (c0 : LoopsN Try.prog Try.cfg (k + 5) 0 Try.f45 (Try.cfg.fc 45) 0 [0, 2, 5, 6, 7] (k + 5) { tm := [(0, V.sl o0 b0 n0 x0), (2, V.bool false), (5, V.sl o0 b0 n0 x0), (6, V.int .i64 (↑x0.length : Int)), (7, V.int .i64 0)], hp := [], nx := 0 } (Exit.ret, { tm := [(0, V.sl o0 b0 n0 x0), (2, V.bool false), (3, V.int .i64 i0), (4, V.ptr 16 0), (5, V.sl o0 b0 n0 x0), (6, V.int .i64 (↑x0.length : Int)), (7, V.int .i64 i0), (8, V.bool true), (35, V.bool true)], hp := [(16, Ob.var [V.int .u64 i1, V.int .u64 i2, V.int .i64 i3])], nx := 128 })) :
    callP (evalFn Try.prog Try.cfg (k + 6)) 45 [V.sl o0 b0 n0 x0] = some (V.bool false) :=
  byF (k := k) (d := 6) [Hn.loop (Exit.ret, { tm := [(0, V.sl o0 b0 n0 x0), (2, V.bool false), (3, V.int .i64 i0), (4, V.ptr 16 0), (5, V.sl o0 b0 n0 x0), (6, V.int .i64 (↑x0.length : Int)), (7, V.int .i64 i0), (8, V.bool true), (35, V.bool true)], hp := [(16, Ob.var [V.int .u64 i1, V.int .u64 i2, V.int .i64 i3])], nx := 128 })] (And.intro c0 trivial) (by kernel_rfl)
theorem P45_7 (i0 i1 i2 i3 : Int) (b0 : Bool) (x0 : List V) (o0 : Option Bool) (n0 k : Nat)
    (c0 : LoopsN Try.prog Try.cfg (k + 5) 0 Try.f45 (Try.cfg.fc 45) 0 [0, 2, 5, 6, 7] (k + 5) { tm := [(0, V.sl o0 b0 n0 x0), (2, V.bool false), (5, V.sl o0 b0 n0 x0), (6, V.int .i64 (↑x0.length : Int)), (7, V.int .i64 0)], hp := [], nx := 0 } (Exit.ret, { tm := [(0, V.sl o0 b0 n0 x0), (2, V.bool false), (3, V.int .i64 i0), (4, V.ptr 16 0), (5, V.sl o0 b0 n0 x0), (6, V.int .i64 (↑x0.length : Int)), (7, V.int .i64 i0), (8, V.bool true), (35, V.bool true)], hp := [(16, Ob.var [V.int .u64 i1, V.int .u64 i2, V.int .i64 i3])], nx := 128 })) :
    callP (evalFn Try.prog Try.cfg (k + 6)) 45 [V.sl o0 b0 n0 x0] = some (V.bool false) :=
  byF (k := k) (d := 6) [Hn.loop (Exit.ret, { tm := [(0, V.sl o0 b0 n0 x0), (2, V.bool false), (3, V.int .i64 i0), (4, V.ptr 16 0), (5, V.sl o0 b0 n0 x0), (6, V.int .i64 (↑x0.length : Int)), (7, V.int .i64 i0), (8, V.bool true), (35, V.bool true)], hp := [(16, Ob.var [V.int .u64 i1, V.int .u64 i2, V.int .i64 i3])], nx := 128 })] (And.intro c0 trivial) (by kernel_rfl)
def F45 (k : Nat) (o0 : Option Bool) (b0 : Bool) (n0 : Nat) (x0 : List V) : Option (Bool) :=
  ((L45_0 k b0 x0 o0 n0 (k + 5) (0)).bind fun
    | L45_0_R.e0 i0 i1 i2 i3 => (some (false))
    | L45_0_R.e1 i0 i1 i2 i3 => (some (false))
    | L45_0_R.e2 i0 i1 i2 i3 => (some (false))
    | L45_0_R.e3 i0 i1 i2 i3 => (some (false))
    | L45_0_R.e4 i0 i1 i2 i3 => (some (false))
    | L45_0_R.e5 i0 i1 i2 i3 => (some (false))
    | L45_0_R.e6 i0 i1 i2 i3 => (some (false))
    | L45_0_R.e7 i0 => (some (decide ((↑x0.length : Int) ≤ 64))))
theorem F45_ok {o0 : Option Bool} {b0 : Bool} {n0 : Nat} {x0 : List V} {k : Nat} {r : Bool} (h : F45 k o0 b0 n0 x0 = some r) :
    callP (evalFn Try.prog Try.cfg (k + 6)) 45 [V.sl o0 b0 n0 x0] = some (V.bool r) := by
  unfold F45 at h
  obtain ⟨ee, e0, h⟩ := Option.bind_eq_some_iff.1 h
  cases ee with
  | e0 i0 i1 i2 i3 =>
    have h := Option.some.inj h; subst h; exact P45_7 i0 i1 i2 i3 b0 x0 o0 n0 k (L45_0_ok e0)
  | e1 i0 i1 i2 i3 =>
    have h := Option.some.inj h; subst h; exact P45_6 i0 i1 i2 i3 b0 x0 o0 n0 k (L45_0_ok e0)
  | e2 i0 i1 i2 i3 =>
    have h := Option.some.inj h; subst h; exact P45_5 i0 i1 i2 i3 b0 x0 o0 n0 k (L45_0_ok e0)
  | e3 i0 i1 i2 i3 =>
    have h := Option.some.inj h; subst h; exact P45_4 i0 i1 i2 i3 b0 x0 o0 n0 k (L45_0_ok e0)
  | e4 i0 i1 i2 i3 =>
    have h := Option.some.inj h; subst h; exact P45_3 i0 i1 i2 i3 b0 x0 o0 n0 k (L45_0_ok e0)
  | e5 i0 i1 i2 i3 =>
    have h := Option.some.inj h; subst h; exact P45_2 i0 i1 i2 i3 b0 x0 o0 n0 k (L45_0_ok e0)
  | e6 i0 i1 i2 i3 =>
    have h := Option.some.inj h; subst h; exact P45_1 i0 i1 i2 i3 b0 x0 o0 n0 k (L45_0_ok e0)
  | e7 i0 =>
    have h := Option.some.inj h; subst h; exact P45_0 i0 b0 x0 o0 n0 k (L45_0_ok e0)
theorem P61_0 (i0 i1 : Int) (k : Nat) :
    callP (evalFn Try.prog Try.cfg (k + 3)) 61 [V.agg [V.int .u64 i0, V.int .u64 i1]] = some (V.agg [V.int .u64 i0, V.int .u64 (IntKind.u64.wrap (IntKind.u64.wrap (i0 + i1) - 1))]) :=
  byF (k := k) (d := 3) [] trivial (by kernel_rfl)
def F61 (k : Nat) (i0 i1 : Int) : Option (Int × Int) :=
  (some ((i0), (IntKind.u64.wrap (IntKind.u64.wrap (i0 + i1) - 1))))
theorem F61_ok {i0 : Int} {i1 : Int} {k : Nat} {r : Int × Int} (h : F61 k i0 i1 = some r) :
    callP (evalFn Try.prog Try.cfg (k + 3)) 61 [V.agg [V.int .u64 i0, V.int .u64 i1]] = some (V.agg [V.int .u64 r.1, V.int .u64 r.2]) := by
  unfold F61 at h
  have h := Option.some.inj h; subst h; exact P61_0 i0 i1 k
theorem P19_0 (i0 i1 : Int) (k : Nat)
    (c0 : decide (i1 = 0) = true) :
    callP (evalFn Try.prog Try.cfg (k + 3)) 19 [V.agg [V.int .u64 i0, V.int .u64 i1]] = some (V.int .i64 1) :=
  byF (k := k) (d := 3) [Hn.br 3 true] (And.intro c0 trivial) (by kernel_rfl)
theorem P19_1 (i0 i1 : Int) (k : Nat)
    (c0 : decide (i1 = 0) = false)
    (c1 : decide (IntKind.u64.wrap (IntKind.u64.wrap (i0 + i1) - 1) < i0) = true) :
    callP (evalFn Try.prog Try.cfg (k + 3)) 19 [V.agg [V.int .u64 i0, V.int .u64 i1]] = some (V.int .i64 2) :=
  byF (k := k) (d := 3) [Hn.br 3 false, Hn.br 7 true] (And.intro c0 (And.intro c1 trivial)) (by kernel_rfl)
theorem P19_2 (i0 i1 : Int) (k : Nat)
    (c0 : decide (i1 = 0) = false)
    (c1 : decide (IntKind.u64.wrap (IntKind.u64.wrap (i0 + i1) - 1) < i0) = false) :
    callP (evalFn Try.prog Try.cfg (k + 3)) 19 [V.agg [V.int .u64 i0, V.int .u64 i1]] = some (V.int .i64 0) :=
  byF (k := k) (d := 3) [Hn.br 3 false, Hn.br 7 false] (And.intro c0 (And.intro c1 trivial)) (by kernel_rfl)
def F19 (k : Nat) (i0 i1 : Int) : Option (Int) :=
  (bif decide (i1 = 0) then (some (1)) else (bif decide (IntKind.u64.wrap (IntKind.u64.wrap (i0 + i1) - 1) < i0) then (some (2)) else (some (0))))
theorem F19_ok {i0 : Int} {i1 : Int} {k : Nat} {r : Int} (h : F19 k i0 i1 = some r) :
    callP (evalFn Try.prog Try.cfg (k + 3)) 19 [V.agg [V.int .u64 i0, V.int .u64 i1]] = some (V.int .i64 r) := by
  unfold F19 at h
  rcases cond_elim h with ⟨e0, h⟩ | ⟨e0, h⟩
  ·
    have h := Option.some.inj h; subst h; exact P19_0 i0 i1 k e0
  ·
    rcases cond_elim h with ⟨e1, h⟩ | ⟨e1, h⟩
    ·
      have h := Option.some.inj h; subst h; exact P19_1 i0 i1 k e0 e1
    ·
      have h := Option.some.inj h; subst h; exact P19_2 i0 i1 k e0 e1
theorem P16_0 (i0 i1 i2 : Int) (k : Nat)
    (c0 : callP (evalFn Try.prog Try.cfg (k + 5)) 19 [V.agg [V.int .u64 i0, V.int .u64 i1]] = some (V.int .i64 i2))
    (c1 : (!decide (i2 = 0)) = true) :
    callP (evalFn Try.prog Try.cfg (k + 6)) 16 [V.agg [V.int .u64 i0, V.int .u64 i1]] = some (V.tup [V.int .u64 0, V.int .i64 i2]) :=
  byF (k := k) (d := 6) [Hn.call 6 (V.int .i64 i2), Hn.br 8 true] (And.intro c0 (And.intro c1 trivial)) (by kernel_rfl)
theorem P16_1 (i0 i1 i2 i3 i4 : Int) (k : Nat)
    (c0 : callP (evalFn Try.prog Try.cfg (k + 5)) 19 [V.agg [V.int .u64 i0, V.int .u64 i1]] = some (V.int .i64 i2))
    (c1 : (!decide (i2 = 0)) = false)
    (c2 : callP (evalFn Try.prog Try.cfg (k + 5)) 61 [V.agg [V.int .u64 i0, V.int .u64 i1]] = some (V.agg [V.int .u64 i3, V.int .u64 i4])) :
    callP (evalFn Try.prog Try.cfg (k + 6)) 16 [V.agg [V.int .u64 i0, V.int .u64 i1]] = some (V.tup [V.int .u64 i4, V.int .i64 0]) :=
  byF (k := k) (d := 6) [Hn.call 6 (V.int .i64 i2), Hn.br 8 false, Hn.call 11 (V.agg [V.int .u64 i3, V.int .u64 i4])] (And.intro c0 (And.intro c1 (And.intro c2 trivial))) (by kernel_rfl)
def F16 (k : Nat) (i0 i1 : Int) : Option (Int × Int) :=
  ((F19 (k + 2) (i0) (i1)).bind fun i2 => (bif !decide (i2 = 0) then (some ((0), (i2))) else ((F61 (k + 2) (i0) (i1)).bind fun (i3, i4) => (some ((i4), (0))))))
theorem F16_ok {i0 : Int} {i1 : Int} {k : Nat} {r : Int × Int} (h : F16 k i0 i1 = some r) :
    callP (evalFn Try.prog Try.cfg (k + 6)) 16 [V.agg [V.int .u64 i0, V.int .u64 i1]] = some (V.tup [V.int .u64 r.1, V.int .i64 r.2]) := by
  unfold F16 at h
  obtain ⟨i2, e0, h⟩ := Option.bind_eq_some_iff.1 h
  rcases cond_elim h with ⟨e1, h⟩ | ⟨e1, h⟩
  ·
    have h := Option.some.inj h; subst h; exact P16_0 i0 i1 i2 k (F19_ok e0) e1
  ·
    obtain ⟨⟨i3, i4⟩, e2, h⟩ := Option.bind_eq_some_iff.1 h
    have h := Option.some.inj h; subst h; exact P16_1 i0 i1 i2 i3 i4 k (F19_ok e0) e1 (F61_ok e2)
theorem P72_0 (i0 i1 : Int) (b0 b1 : Bool) (x0 : List V) (o0 : Option Bool) (n0 k : Nat)
    (c0 : callP (evalFn Try.prog Try.cfg (k + 8)) 45 [V.sl o0 b0 n0 x0] = some (V.bool b1))
    (c1 : (!b1) = true) :
    callP (evalFn Try.prog Try.cfg (k + 9)) 72 [V.sl o0 b0 n0 x0, V.agg [V.int .u64 i0, V.int .u64 i1]] = some (V.int .i64 1) :=
  byF (k := k) (d := 9) [Hn.call 8 (V.bool b1), Hn.br 9 true] (And.intro c0 (And.intro c1 trivial)) (by kernel_rfl)
theorem P72_1 (i0 i1 i2 i3 : Int) (b0 b1 : Bool) (x0 : List V) (o0 : Option Bool) (n0 k : Nat)
    (c0 : callP (evalFn Try.prog Try.cfg (k + 8)) 45 [V.sl o0 b0 n0 x0] = some (V.bool b1))
    (c1 : (!b1) = false)
    (c2 : callP (evalFn Try.prog Try.cfg (k + 8)) 16 [V.agg [V.int .u64 i0, V.int .u64 i1]] = some (V.tup [V.int .u64 i2, V.int .i64 i3]))
    (c3 : decide (i3 = 0) = true)
    (c4 : decide (576460752303423488 ≤ i2) = true) :
    callP (evalFn Try.prog Try.cfg (k + 9)) 72 [V.sl o0 b0 n0 x0, V.agg [V.int .u64 i0, V.int .u64 i1]] = some (V.int .i64 2) :=
  byF (k := k) (d := 9) [Hn.call 8 (V.bool b1), Hn.br 9 false, Hn.call 12 (V.tup [V.int .u64 i2, V.int .i64 i3]), Hn.br 17 true, Hn.br 20 true] (And.intro c0 (And.intro c1 (And.intro c2 (And.intro c3 (And.intro c4 trivial))))) (by kernel_rfl)
theorem P72_2 (i0 i1 i2 i3 : Int) (b0 b1 : Bool) (x0 : List V) (o0 : Option Bool) (n0 k : Nat)
    (c0 : callP (evalFn Try.prog Try.cfg (k + 8)) 45 [V.sl o0 b0 n0 x0] = some (V.bool b1))
    (c1 : (!b1) = false)
    (c2 : callP (evalFn Try.prog Try.cfg (k + 8)) 16 [V.agg [V.int .u64 i0, V.int .u64 i1]] = some (V.tup [V.int .u64 i2, V.int .i64 i3]))
    (c3 : decide (i3 = 0) = true)
    (c4 : decide (576460752303423488 ≤ i2) = false) :
    callP (evalFn Try.prog Try.cfg (k + 9)) 72 [V.sl o0 b0 n0 x0, V.agg [V.int .u64 i0, V.int .u64 i1]] = some (V.int .i64 i3) :=
  byF (k := k) (d := 9) [Hn.call 8 (V.bool b1), Hn.br 9 false, Hn.call 12 (V.tup [V.int .u64 i2, V.int .i64 i3]), Hn.br 17 true, Hn.br 20 false] (And.intro c0 (And.intro c1 (And.intro c2 (And.intro c3 (And.intro c4 trivial))))) (by kernel_rfl)
theorem P72_3 (i0 i1 i2 i3 : Int) (b0 b1 : Bool) (x0 : List V) (o0 : Option Bool) (n0 k : Nat)
    (c0 : callP (evalFn Try.prog Try.cfg (k + 8)) 45 [V.sl o0 b0 n0 x0] = some (V.bool b1))
    (c1 : (!b1) = false)
    (c2 : callP (evalFn Try.prog Try.cfg (k + 8)) 16 [V.agg [V.int .u64 i0, V.int .u64 i1]] = some (V.tup [V.int .u64 i2, V.int .i64 i3]))
    (c3 : decide (i3 = 0) = false) :
    callP (evalFn Try.prog Try.cfg (k + 9)) 72 [V.sl o0 b0 n0 x0, V.agg [V.int .u64 i0, V.int .u64 i1]] = some (V.int .i64 i3) :=
  byF (k := k) (d := 9) [Hn.call 8 (V.bool b1), Hn.br 9 false, Hn.call 12 (V.tup [V.int .u64 i2, V.int .i64 i3]), Hn.br 17 false] (And.intro c0 (And.intro c1 (And.intro c2 (And.intro c3 trivial)))) (by kernel_rfl)
def F72 (k : Nat) (o0 : Option Bool) (b0 : Bool) (n0 : Nat) (x0 : List V) (i0 i1 : Int) : Option (Int) :=
  ((F45 (k + 2) (o0) (b0) (n0) (x0)).bind fun b1 => (bif !b1 then (some (1)) else ((F16 (k + 2) (i0) (i1)).bind fun (i2, i3) => (bif decide (i3 = 0) then (bif decide (576460752303423488 ≤ i2) then (some (2)) else (some (i3))) else (some (i3))))))
theorem F72_ok {o0 : Option Bool} {b0 : Bool} {n0 : Nat} {x0 : List V} {i0 : Int} {i1 : Int} {k : Nat} {r : Int} (h : F72 k o0 b0 n0 x0 i0 i1 = some r) :
    callP (evalFn Try.prog Try.cfg (k + 9)) 72 [V.sl o0 b0 n0 x0, V.agg [V.int .u64 i0, V.int .u64 i1]] = some (V.int .i64 r) := by
  unfold F72 at h
  obtain ⟨b1, e0, h⟩ := Option.bind_eq_some_iff.1 h
  rcases cond_elim h with ⟨e1, h⟩ | ⟨e1, h⟩
  ·
    have h := Option.some.inj h; subst h; exact P72_0 i0 i1 b0 b1 x0 o0 n0 k (F45_ok e0) e1
  ·
    obtain ⟨⟨i2, i3⟩, e2, h⟩ := Option.bind_eq_some_iff.1 h
    rcases cond_elim h with ⟨e3, h⟩ | ⟨e3, h⟩
    ·
      rcases cond_elim h with ⟨e4, h⟩ | ⟨e4, h⟩
      ·
        have h := Option.some.inj h; subst h; exact P72_1 i0 i1 i2 i3 b0 b1 x0 o0 n0 k (F45_ok e0) e1 (F16_ok e2) e3 e4
      ·
        have h := Option.some.inj h; subst h; exact P72_2 i0 i1 i2 i3 b0 b1 x0 o0 n0 k (F45_ok e0) e1 (F16_ok e2) e3 e4
    ·
      have h := Option.some.inj h; subst h; exact P72_3 i0 i1 i2 i3 b0 b1 x0 o0 n0 k (F45_ok e0) e1 (F16_ok e2) e3
theorem L73_1_b0 (i0 i1 i2 i3 i4 i5 i6 : Int) (b0 : Bool) (x0 x1 x2 x3 : List V) (o0 : Option Bool) (n0 k : Nat)
    (c0 : decide (i2 < (↑x0.length : Int)) = true)
    (c1 : IdxP x0 i2 n0 3 (V.agg [V.int .u64 i3, V.int .u64 i4, V.int .i64 i5]))
    (c2 : decide (i3 < i0) = true)
    (c3 : callP (evalFn Try.prog Try.cfg (k + 5)) 79 [V.agg [V.int .u64 i3, V.int .u64 i4, V.int .i64 i5]] = some (V.int .u64 i6))
    (c4 : GrdW ((3 : Nat) = (3 : Nat) ∧ (0 : Nat) < (3 : Nat) ∧ (24 : Nat) ≤ (64 : Nat) ∧ x1.length + (1 : Nat) ≤ maxLen') (V.ref (104 : Nat)) [((1 : Nat), Ob.dead), ((104 : Nat), Ob.row false (3 : Nat) (x1 ++ [V.agg [V.int .u64 i3, V.int .u64 (IntKind.u64.wrap ((if i0 < i6 then i0 else i6) - i3)), V.int .i64 i5]]))])
    (c5 : callP (evalFn Try.prog Try.cfg (k + 5)) 79 [V.agg [V.int .u64 i3, V.int .u64 i4, V.int .i64 i5]] = some (V.int .u64 i6))
    (c6 : decide ((if i3 < i0 then i0 else i3) < if IntKind.u64.wrap (i0 + i1) < i6 then IntKind.u64.wrap (i0 + i1) else i6) = true)
    (c7 : GrdW ((3 : Nat) = (3 : Nat) ∧ (0 : Nat) < (3 : Nat) ∧ (24 : Nat) ≤ (64 : Nat) ∧ x2.length + (1 : Nat) ≤ maxLen') (V.ref (204 : Nat)) [((2 : Nat), Ob.dead), ((204 : Nat), Ob.row false (3 : Nat) (x2 ++ [V.agg [V.int .u64 (if i3 < i0 then i0 else i3), V.int .u64 (IntKind.u64.wrap ((if IntKind.u64.wrap (i0 + i1) < i6 then IntKind.u64.wrap (i0 + i1) else i6) - if i3 < i0 then i0 else i3)), V.int .i64 i5]]))])
    (c8 : callP (evalFn Try.prog Try.cfg (k + 5)) 79 [V.agg [V.int .u64 i3, V.int .u64 i4, V.int .i64 i5]] = some (V.int .u64 i6))
    (c9 : decide (IntKind.u64.wrap (i0 + i1) < i6) = true)
    (c10 : callP (evalFn Try.prog Try.cfg (k + 5)) 79 [V.agg [V.int .u64 i3, V.int .u64 i4, V.int .i64 i5]] = some (V.int .u64 i6))
    (c11 : GrdW ((3 : Nat) = (3 : Nat) ∧ (0 : Nat) < (3 : Nat) ∧ (24 : Nat) ≤ (64 : Nat) ∧ x3.length + (1 : Nat) ≤ maxLen') (V.ref (288 : Nat)) [((3 : Nat), Ob.dead), ((288 : Nat), Ob.row false (3 : Nat) (x3 ++ [V.agg [V.int .u64 (if i3 < IntKind.u64.wrap (i0 + i1) then IntKind.u64.wrap (i0 + i1) else i3), V.int .u64 (IntKind.u64.wrap (i6 - if i3 < IntKind.u64.wrap (i0 + i1) then IntKind.u64.wrap (i0 + i1) else i3)), V.int .i64 i5]]))]) :
    evalCode Try.prog Try.cfg (evalFn Try.prog Try.cfg (k + 5)) 0 (Try.cfg.fc 73) (k + 5) (loopBody Try.f73 0) { tm := [(0, V.sl o0 b0 n0 x0), (1, V.agg [V.int .u64 i0, V.int .u64 i1]), (3, V.ptr 0 0), (4, V.ref 1), (5, V.ref 2), (6, V.ref 3), (7, V.int .u64 (IntKind.u64.wrap (i0 + i1))), (18, V.sl o0 b0 n0 x0), (19, V.int .i64 (↑x0.length : Int)), (20, V.int .i64 i2)], hp := [(0, Ob.var [V.int .u64 i0, V.int .u64 i1]), (1, Ob.row false 3 x1), (2, Ob.row false 3 x2), (3, Ob.row false 3 x3)], nx := 4 } = some (Exit.normal, { tm := [(0, V.sl o0 b0 n0 x0), (1, V.agg [V.int .u64 i0, V.int .u64 i1]), (3, V.ptr 0 0), (4, V.ref 104), (5, V.ref 204), (6, V.ref 288), (7, V.int .u64 (IntKind.u64.wrap (i0 + i1))), (9, V.ptr 16 0), (10, V.int .u64 (if i3 < i0 then i0 else i3)), (11, V.int .u64 (if IntKind.u64.wrap (i0 + i1) < i6 then IntKind.u64.wrap (i0 + i1) else i6)), (12, V.int .u64 (if i3 < IntKind.u64.wrap (i0 + i1) then IntKind.u64.wrap (i0 + i1) else i3)), (18, V.sl o0 b0 n0 x0), (19, V.int .i64 (↑x0.length : Int)), (20, V.int .i64 (IntKind.i64.wrap (i2 + 1))), (21, V.bool true), (28, V.bool true), (56, V.bool true), (70, V.bool true)], hp := [(0, Ob.var [V.int .u64 i0, V.int .u64 i1]), (1, Ob.dead), (2, Ob.dead), (3, Ob.dead), (16, Ob.var [V.int .u64 i3, V.int .u64 i4, V.int .i64 i5]), (100, Ob.row false 3 [V.agg [V.int .u64 i3, V.int .u64 (IntKind.u64.wrap ((if i0 < i6 then i0 else i6) - i3)), V.int .i64 i5]]), (104, Ob.row false 3 (x1 ++ [V.agg [V.int .u64 i3, V.int .u64 (IntKind.u64.wrap ((if i0 < i6 then i0 else i6) - i3)), V.int .i64 i5]])), (200, Ob.row false 3 [V.agg [V.int .u64 (if i3 < i0 then i0 else i3), V.int .u64 (IntKind.u64.wrap ((if IntKind.u64.wrap (i0 + i1) < i6 then IntKind.u64.wrap (i0 + i1) else i6) - if i3 < i0 then i0 else i3)), V.int .i64 i5]]), (204, Ob.row false 3 (x2 ++ [V.agg [V.int .u64 (if i3 < i0 then i0 else i3), V.int .u64 (IntKind.u64.wrap ((if IntKind.u64.wrap (i0 + i1) < i6 then IntKind.u64.wrap (i0 + i1) else i6) - if i3 < i0 then i0 else i3)), V.int .i64 i5]])), (284, Ob.row false 3 [V.agg [V.int .u64 (if i3 < IntKind.u64.wrap (i0 + i1) then IntKind.u64.wrap (i0 + i1) else i3), V.int .u64 (IntKind.u64.wrap (i6 - if i3 < IntKind.u64.wrap (i0 + i1) then IntKind.u64.wrap (i0 + i1) else i3)), V.int .i64 i5]]), (288, Ob.row false 3 (x3 ++ [V.agg [V.int .u64 (if i3 < IntKind.u64.wrap (i0 + i1) then IntKind.u64.wrap (i0 + i1) else i3), V.int .u64 (IntKind.u64.wrap (i6 - if i3 < IntKind.u64.wrap (i0 + i1) then IntKind.u64.wrap (i0 + i1) else i3)), V.int .i64 i5]]))], nx := 304 }) :=
  byL (k := k) (d := 5) [Hn.br 21 true, Hn.op 22 ((V.agg [V.int .u64 i3, V.int .u64 i4, V.int .i64 i5]).cpt 0) [], Hn.br 28 true, Hn.call 33 (V.int .u64 i6), Hn.op 44 (V.ref 104) [(1, Ob.dead), (104, Ob.row false 3 (x1 ++ [V.agg [V.int .u64 i3, V.int .u64 (IntKind.u64.wrap ((if i0 < i6 then i0 else i6) - i3)), V.int .i64 i5]]))], Hn.call 51 (V.int .u64 i6), Hn.br 56 true, Hn.op 66 (V.ref 204) [(2, Ob.dead), (204, Ob.row false 3 (x2 ++ [V.agg [V.int .u64 (if i3 < i0 then i0 else i3), V.int .u64 (IntKind.u64.wrap ((if IntKind.u64.wrap (i0 + i1) < i6 then IntKind.u64.wrap (i0 + i1) else i6) - if i3 < i0 then i0 else i3)), V.int .i64 i5]]))], Hn.call 68 (V.int .u64 i6), Hn.br 70 true, Hn.call 78 (V.int .u64 i6), Hn.op 85 (V.ref 288) [(3, Ob.dead), (288, Ob.row false 3 (x3 ++ [V.agg [V.int .u64 (if i3 < IntKind.u64.wrap (i0 + i1) then IntKind.u64.wrap (i0 + i1) else i3), V.int .u64 (IntKind.u64.wrap (i6 - if i3 < IntKind.u64.wrap (i0 + i1) then IntKind.u64.wrap (i0 + i1) else i3)), V.int .i64 i5]]))]] (And.intro c0 (And.intro c1 (And.intro c2 (And.intro c3 (And.intro c4 (And.intro c5 (And.intro c6 (And.intro c7 (And.intro c8 (And.intro c9 (And.intro c10 (And.intro c11 trivial)))))))))))) (by kernel_rfl)
theorem L73_1_b0h (i0 i1 i2 i3 i4 i5 i6 : Int) (b0 : Bool) (x0 x1 x2 x3 : List V) (o0 : Option Bool) (n0 : Nat) : head 0 [0, 1, 3, 4, 5, 6, 7, 18, 19, 20] (Try.cfg.fc 73).acc { tm := [(0, V.sl o0 b0 n0 x0), (1, V.agg [V.int .u64 i0, V.int .u64 i1]), (3, V.ptr 0 0), (4, V.ref 104), (5, V.ref 204), (6, V.ref 288), (7, V.int .u64 (IntKind.u64.wrap (i0 + i1))), (9, V.ptr 16 0), (10, V.int .u64 (if i3 < i0 then i0 else i3)), (11, V.int .u64 (if IntKind.u64.wrap (i0 + i1) < i6 then IntKind.u64.wrap (i0 + i1) else i6)), (12, V.int .u64 (if i3 < IntKind.u64.wrap (i0 + i1) then IntKind.u64.wrap (i0 + i1) else i3)), (18, V.sl o0 b0 n0 x0), (19, V.int .i64 (↑x0.length : Int)), (20, V.int .i64 (IntKind.i64.wrap (i2 + 1))), (21, V.bool true), (28, V.bool true), (56, V.bool true), (70, V.bool true)], hp := [(0, Ob.var [V.int .u64 i0, V.int .u64 i1]), (1, Ob.dead), (2, Ob.dead), (3, Ob.dead), (16, Ob.var [V.int .u64 i3, V.int .u64 i4, V.int .i64 i5]), (100, Ob.row false 3 [V.agg [V.int .u64 i3, V.int .u64 (IntKind.u64.wrap ((if i0 < i6 then i0 else i6) - i3)), V.int .i64 i5]]), (104, Ob.row false 3 (x1 ++ [V.agg [V.int .u64 i3, V.int .u64 (IntKind.u64.wrap ((if i0 < i6 then i0 else i6) - i3)), V.int .i64 i5]])), (200, Ob.row false 3 [V.agg [V.int .u64 (if i3 < i0 then i0 else i3), V.int .u64 (IntKind.u64.wrap ((if IntKind.u64.wrap (i0 + i1) < i6 then IntKind.u64.wrap (i0 + i1) else i6) - if i3 < i0 then i0 else i3)), V.int .i64 i5]]), (204, Ob.row false 3 (x2 ++ [V.agg [V.int .u64 (if i3 < i0 then i0 else i3), V.int .u64 (IntKind.u64.wrap ((if IntKind.u64.wrap (i0 + i1) < i6 then IntKind.u64.wrap (i0 + i1) else i6) - if i3 < i0 then i0 else i3)), V.int .i64 i5]])), (284, Ob.row false 3 [V.agg [V.int .u64 (if i3 < IntKind.u64.wrap (i0 + i1) then IntKind.u64.wrap (i0 + i1) else i3), V.int .u64 (IntKind.u64.wrap (i6 - if i3 < IntKind.u64.wrap (i0 + i1) then IntKind.u64.wrap (i0 + i1) else i3)), V.int .i64 i5]]), (288, Ob.row false 3 (x3 ++ [V.agg [V.int .u64 (if i3 < IntKind.u64.wrap (i0 + i1) then IntKind.u64.wrap (i0 + i1) else i3), V.int .u64 (IntKind.u64.wrap (i6 - if i3 < IntKind.u64.wrap (i0 + i1) then IntKind.u64.wrap (i0 + i1) else i3)), V.int .i64 i5]]))], nx := 304 } = { tm := [(0, V.sl o0 b0 n0 x0), (1, V.agg [V.int .u64 i0, V.int .u64 i1]), (3, V.ptr 0 0), (4, V.ref 1), (5, V.ref 2), (6, V.ref 3), (7, V.int .u64 (IntKind.u64.wrap (i0 + i1))), (18, V.sl o0 b0 n0 x0), (19, V.int .i64 (↑x0.length : Int)), (20, V.int .i64 (IntKind.i64.wrap (i2 + 1)))], hp := [(0, Ob.var [V.int .u64 i0, V.int .u64 i1]), (1, Ob.row false 3 (x1 ++ [V.agg [V.int .u64 i3, V.int .u64 (IntKind.u64.wrap ((if i0 < i6 then i0 else i6) - i3)), V.int .i64 i5]])), (2, Ob.row false 3 (x2 ++ [V.agg [V.int .u64 (if i3 < i0 then i0 else i3), V.int .u64 (IntKind.u64.wrap ((if IntKind.u64.wrap (i0 + i1) < i6 then IntKind.u64.wrap (i0 + i1) else i6) - if i3 < i0 then i0 else i3)), V.int .i64 i5]])), (3, Ob.row false 3 (x3 ++ [V.agg [V.int .u64 (if i3 < IntKind.u64.wrap (i0 + i1) then IntKind.u64.wrap (i0 + i1) else i3), V.int .u64 (IntKind.u64.wrap (i6 - if i3 < IntKind.u64.wrap (i0 + i1) then IntKind.u64.wrap (i0 + i1) else i3)), V.int .i64 i5]]))], nx := 4 } := by kernel_rfl
theorem L73_1_b1 (i0 i1 i2 i3 i4 i5 i6 : Int) (b0 : Bool) (x0 x1 x2 x3 : List V) (o0 : Option Bool) (n0 k : Nat)
    (c0 : decide (i2 < (↑x0.length : Int)) = true)
    (c1 : IdxP x0 i2 n0 3 (V.agg [V.int .u64 i3, V.int .u64 i4, V.int .i64 i5]))
    (c2 : decide (i3 < i0) = true)
    (c3 : callP (evalFn Try.prog Try.cfg (k + 5)) 79 [V.agg [V.int .u64 i3, V.int .u64 i4, V.int .i64 i5]] = some (V.int .u64 i6))
    (c4 : GrdW ((3 : Nat) = (3 : Nat) ∧ (0 : Nat) < (3 : Nat) ∧ (24 : Nat) ≤ (64 : Nat) ∧ x1.length + (1 : Nat) ≤ maxLen') (V.ref (104 : Nat)) [((1 : Nat), Ob.dead), ((104 : Nat), Ob.row false (3 : Nat) (x1 ++ [V.agg [V.int .u64 i3, V.int .u64 (IntKind.u64.wrap ((if i0 < i6 then i0 else i6) - i3)), V.int .i64 i5]]))])
    (c5 : callP (evalFn Try.prog Try.cfg (k + 5)) 79 [V.agg [V.int .u64 i3, V.int .u64 i4, V.int .i64 i5]] = some (V.int .u64 i6))
    (c6 : decide ((if i3 < i0 then i0 else i3) < if IntKind.u64.wrap (i0 + i1) < i6 then IntKind.u64.wrap (i0 + i1) else i6) = true)
    (c7 : GrdW ((3 : Nat) = (3 : Nat) ∧ (0 : Nat) < (3 : Nat) ∧ (24 : Nat) ≤ (64 : Nat) ∧ x2.length + (1 : Nat) ≤ maxLen') (V.ref (204 : Nat)) [((2 : Nat), Ob.dead), ((204 : Nat), Ob.row false (3 : Nat) (x2 ++ [V.agg [V.int .u64 (if i3 < i0 then i0 else i3), V.int .u64 (IntKind.u64.wrap ((if IntKind.u64.wrap (i0 + i1) < i6 then IntKind.u64.wrap (i0 + i1) else i6) - if i3 < i0 then i0 else i3)), V.int .i64 i5]]))])
    (c8 : callP (evalFn Try.prog Try.cfg (k + 5)) 79 [V.agg [V.int .u64 i3, V.int .u64 i4, V.int .i64 i5]] = some (V.int .u64 i6))
    (c9 : decide (IntKind.u64.wrap (i0 + i1) < i6) = false) :
    evalCode Try.prog Try.cfg (evalFn Try.prog Try.cfg (k + 5)) 0 (Try.cfg.fc 73) (k + 5) (loopBody Try.f73 0) { tm := [(0, V.sl o0 b0 n0 x0), (1, V.agg [V.int .u64 i0, V.int .u64 i1]), (3, V.ptr 0 0), (4, V.ref 1), (5, V.ref 2), (6, V.ref 3), (7, V.int .u64 (IntKind.u64.wrap (i0 + i1))), (18, V.sl o0 b0 n0 x0), (19, V.int .i64 (↑x0.length : Int)), (20, V.int .i64 i2)], hp := [(0, Ob.var [V.int .u64 i0, V.int .u64 i1]), (1, Ob.row false 3 x1), (2, Ob.row false 3 x2), (3, Ob.row false 3 x3)], nx := 4 } = some (Exit.normal, { tm := [(0, V.sl o0 b0 n0 x0), (1, V.agg [V.int .u64 i0, V.int .u64 i1]), (3, V.ptr 0 0), (4, V.ref 104), (5, V.ref 204), (6, V.ref 3), (7, V.int .u64 (IntKind.u64.wrap (i0 + i1))), (9, V.ptr 16 0), (10, V.int .u64 (if i3 < i0 then i0 else i3)), (11, V.int .u64 (if IntKind.u64.wrap (i0 + i1) < i6 then IntKind.u64.wrap (i0 + i1) else i6)), (18, V.sl o0 b0 n0 x0), (19, V.int .i64 (↑x0.length : Int)), (20, V.int .i64 (IntKind.i64.wrap (i2 + 1))), (21, V.bool true), (28, V.bool true), (56, V.bool true), (70, V.bool false)], hp := [(0, Ob.var [V.int .u64 i0, V.int .u64 i1]), (1, Ob.dead), (2, Ob.dead), (3, Ob.row false 3 x3), (16, Ob.var [V.int .u64 i3, V.int .u64 i4, V.int .i64 i5]), (100, Ob.row false 3 [V.agg [V.int .u64 i3, V.int .u64 (IntKind.u64.wrap ((if i0 < i6 then i0 else i6) - i3)), V.int .i64 i5]]), (104, Ob.row false 3 (x1 ++ [V.agg [V.int .u64 i3, V.int .u64 (IntKind.u64.wrap ((if i0 < i6 then i0 else i6) - i3)), V.int .i64 i5]])), (200, Ob.row false 3 [V.agg [V.int .u64 (if i3 < i0 then i0 else i3), V.int .u64 (IntKind.u64.wrap ((if IntKind.u64.wrap (i0 + i1) < i6 then IntKind.u64.wrap (i0 + i1) else i6) - if i3 < i0 then i0 else i3)), V.int .i64 i5]]), (204, Ob.row false 3 (x2 ++ [V.agg [V.int .u64 (if i3 < i0 then i0 else i3), V.int .u64 (IntKind.u64.wrap ((if IntKind.u64.wrap (i0 + i1) < i6 then IntKind.u64.wrap (i0 + i1) else i6) - if i3 < i0 then i0 else i3)), V.int .i64 i5]]))], nx := 236 }) :=
  byL (k := k) (d := 5) [Hn.br 21 true, Hn.op 22 ((V.agg [V.int .u64 i3, V.int .u64 i4, V.int .i64 i5]).cpt 0) [], Hn.br 28 true, Hn.call 33 (V.int .u64 i6), Hn.op 44 (V.ref 104) [(1, Ob.dead), (104, Ob.row false 3 (x1 ++ [V.agg [V.int .u64 i3, V.int .u64 (IntKind.u64.wrap ((if i0 < i6 then i0 else i6) - i3)), V.int .i64 i5]]))], Hn.call 51 (V.int .u64 i6), Hn.br 56 true, Hn.op 66 (V.ref 204) [(2, Ob.dead), (204, Ob.row false 3 (x2 ++ [V.agg [V.int .u64 (if i3 < i0 then i0 else i3), V.int .u64 (IntKind.u64.wrap ((if IntKind.u64.wrap (i0 + i1) < i6 then IntKind.u64.wrap (i0 + i1) else i6) - if i3 < i0 then i0 else i3)), V.int .i64 i5]]))], Hn.call 68 (V.int .u64 i6), Hn.br 70 false] (And.intro c0 (And.intro c1 (And.intro c2 (And.intro c3 (And.intro c4 (And.intro c5 (And.intro c6 (And.intro c7 (And.intro c8 (And.intro c9 trivial)))))))))) (by kernel_rfl)
theorem L73_1_b1h (i0 i1 i2 i3 i4 i5 i6 : Int) (b0 : Bool) (x0 x1 x2 x3 : List V) (o0 : Option Bool) (n0 : Nat) : head 0 [0, 1, 3, 4, 5, 6, 7, 18, 19, 20] (Try.cfg.fc 73).acc { tm := [(0, V.sl o0 b0 n0 x0), (1, V.agg [V.int .u64 i0, V.int .u64 i1]), (3, V.ptr 0 0), (4, V.ref 104), (5, V.ref 204), (6, V.ref 3), (7, V.int .u64 (IntKind.u64.wrap (i0 + i1))), (9, V.ptr 16 0), (10, V.int .u64 (if i3 < i0 then i0 else i3)), (11, V.int .u64 (if IntKind.u64.wrap (i0 + i1) < i6 then IntKind.u64.wrap (i0 + i1) else i6)), (18, V.sl o0 b0 n0 x0), (19, V.int .i64 (↑x0.length : Int)), (20, V.int .i64 (IntKind.i64.wrap (i2 + 1))), (21, V.bool true), (28, V.bool true), (56, V.bool true), (70, V.bool false)], hp := [(0, Ob.var [V.int .u64 i0, V.int .u64 i1]), (1, Ob.dead), (2, Ob.dead), (3, Ob.row false 3 x3), (16, Ob.var [V.int .u64 i3, V.int .u64 i4, V.int .i64 i5]), (100, Ob.row false 3 [V.agg [V.int .u64 i3, V.int .u64 (IntKind.u64.wrap ((if i0 < i6 then i0 else i6) - i3)), V.int .i64 i5]]), (104, Ob.row false 3 (x1 ++ [V.agg [V.int .u64 i3, V.int .u64 (IntKind.u64.wrap ((if i0 < i6 then i0 else i6) - i3)), V.int .i64 i5]])), (200, Ob.row false 3 [V.agg [V.int .u64 (if i3 < i0 then i0 else i3), V.int .u64 (IntKind.u64.wrap ((if IntKind.u64.wrap (i0 + i1) < i6 then IntKind.u64.wrap (i0 + i1) else i6) - if i3 < i0 then i0 else i3)), V.int .i64 i5]]), (204, Ob.row false 3 (x2 ++ [V.agg [V.int .u64 (if i3 < i0 then i0 else i3), V.int .u64 (IntKind.u64.wrap ((if IntKind.u64.wrap (i0 + i1) < i6 then IntKind.u64.wrap (i0 + i1) else i6) - if i3 < i0 then i0 else i3)), V.int .i64 i5]]))], nx := 236 } = { tm := [(0, V.sl o0 b0 n0 x0), (1, V.agg [V.int .u64 i0, V.int .u64 i1]), (3, V.ptr 0 0), (4, V.ref 1), (5, V.ref 2), (6, V.ref 3), (7, V.int .u64 (IntKind.u64.wrap (i0 + i1))), (18, V.sl o0 b0 n0 x0), (19, V.int .i64 (↑x0.length : Int)), (20, V.int .i64 (IntKind.i64.wrap (i2 + 1)))], hp := [(0, Ob.var [V.int .u64 i0, V.int .u64 i1]), (1, Ob.row false 3 (x1 ++ [V.agg [V.int .u64 i3, V.int .u64 (IntKind.u64.wrap ((if i0 < i6 then i0 else i6) - i3)), V.int .i64 i5]])), (2, Ob.row false 3 (x2 ++ [V.agg [V.int .u64 (if i3 < i0 then i0 else i3), V.int .u64 (IntKind.u64.wrap ((if IntKind.u64.wrap (i0 + i1) < i6 then IntKind.u64.wrap (i0 + i1) else i6) - if i3 < i0 then i0 else i3)), V.int .i64 i5]])), (3, Ob.row false 3 x3)], nx := 4 } := by kernel_rfl
theorem L73_1_b2 (i0 i1 i2 i3 i4 i5 i6 : Int) (b0 : Bool) (x0 x1 x2 x3 : List V) (o0 : Option Bool) (n0 k : Nat)
    (c0 : decide (i2 < (↑x0.length : Int)) = true)
    (c1 : IdxP x0 i2 n0 3 (V.agg [V.int .u64 i3, V.int .u64 i4, V.int .i64 i5]))
    (c2 : decide (i3 < i0) = true)
    (c3 : callP (evalFn Try.prog Try.cfg (k + 5)) 79 [V.agg [V.int .u64 i3, V.int .u64 i4, V.int .i64 i5]] = some (V.int .u64 i6))
    (c4 : GrdW ((3 : Nat) = (3 : Nat) ∧ (0 : Nat) < (3 : Nat) ∧ (24 : Nat) ≤ (64 : Nat) ∧ x1.length + (1 : Nat) ≤ maxLen') (V.ref (104 : Nat)) [((1 : Nat), Ob.dead), ((104 : Nat), Ob.row false (3 : Nat) (x1 ++ [V.agg [V.int .u64 i3, V.int .u64 (IntKind.u64.wrap ((if i0 < i6 then i0 else i6) - i3)), V.int .i64 i5]]))])
    (c5 : callP (evalFn Try.prog Try.cfg (k + 5)) 79 [V.agg [V.int .u64 i3, V.int .u64 i4, V.int .i64 i5]] = some (V.int .u64 i6))
    (c6 : decide ((if i3 < i0 then i0 else i3) < if IntKind.u64.wrap (i0 + i1) < i6 then IntKind.u64.wrap (i0 + i1) else i6) = false)
    (c7 : callP (evalFn Try.prog Try.cfg (k + 5)) 79 [V.agg [V.int .u64 i3, V.int .u64 i4, V.int .i64 i5]] = some (V.int .u64 i6))
    (c8 : decide (IntKind.u64.wrap (i0 + i1) < i6) = true)
    (c9 : callP (evalFn Try.prog Try.cfg (k + 5)) 79 [V.agg [V.int .u64 i3, V.int .u64 i4, V.int .i64 i5]] = some (V.int .u64 i6))
    (c10 : GrdW ((3 : Nat) = (3 : Nat) ∧ (0 : Nat) < (3 : Nat) ∧ (24 : Nat) ≤ (64 : Nat) ∧ x3.length + (1 : Nat) ≤ maxLen') (V.ref (244 : Nat)) [((3 : Nat), Ob.dead), ((244 : Nat), Ob.row false (3 : Nat) (x3 ++ [V.agg [V.int .u64 (if i3 < IntKind.u64.wrap (i0 + i1) then IntKind.u64.wrap (i0 + i1) else i3), V.int .u64 (IntKind.u64.wrap (i6 - if i3 < IntKind.u64.wrap (i0 + i1) then IntKind.u64.wrap (i0 + i1) else i3)), V.int .i64 i5]]))]) :
    evalCode Try.prog Try.cfg (evalFn Try.prog Try.cfg (k + 5)) 0 (Try.cfg.fc 73) (k + 5) (loopBody Try.f73 0) { tm := [(0, V.sl o0 b0 n0 x0), (1, V.agg [V.int .u64 i0, V.int .u64 i1]), (3, V.ptr 0 0), (4, V.ref 1), (5, V.ref 2), (6, V.ref 3), (7, V.int .u64 (IntKind.u64.wrap (i0 + i1))), (18, V.sl o0 b0 n0 x0), (19, V.int .i64 (↑x0.length : Int)), (20, V.int .i64 i2)], hp := [(0, Ob.var [V.int .u64 i0, V.int .u64 i1]), (1, Ob.row false 3 x1), (2, Ob.row false 3 x2), (3, Ob.row false 3 x3)], nx := 4 } = some (Exit.normal, { tm := [(0, V.sl o0 b0 n0 x0), (1, V.agg [V.int .u64 i0, V.int .u64 i1]), (3, V.ptr 0 0), (4, V.ref 104), (5, V.ref 2), (6, V.ref 244), (7, V.int .u64 (IntKind.u64.wrap (i0 + i1))), (9, V.ptr 16 0), (10, V.int .u64 (if i3 < i0 then i0 else i3)), (11, V.int .u64 (if IntKind.u64.wrap (i0 + i1) < i6 then IntKind.u64.wrap (i0 + i1) else i6)), (12, V.int .u64 (if i3 < IntKind.u64.wrap (i0 + i1) then IntKind.u64.wrap (i0 + i1) else i3)), (18, V.sl o0 b0 n0 x0), (19, V.int .i64 (↑x0.length : Int)), (20, V.int .i64 (IntKind.i64.wrap (i2 + 1))), (21, V.bool true), (28, V.bool true), (56, V.bool false), (70, V.bool true)], hp := [(0, Ob.var [V.int .u64 i0, V.int .u64 i1]), (1, Ob.dead), (2, Ob.row false 3 x2), (3, Ob.dead), (16, Ob.var [V.int .u64 i3, V.int .u64 i4, V.int .i64 i5]), (100, Ob.row false 3 [V.agg [V.int .u64 i3, V.int .u64 (IntKind.u64.wrap ((if i0 < i6 then i0 else i6) - i3)), V.int .i64 i5]]), (104, Ob.row false 3 (x1 ++ [V.agg [V.int .u64 i3, V.int .u64 (IntKind.u64.wrap ((if i0 < i6 then i0 else i6) - i3)), V.int .i64 i5]])), (240, Ob.row false 3 [V.agg [V.int .u64 (if i3 < IntKind.u64.wrap (i0 + i1) then IntKind.u64.wrap (i0 + i1) else i3), V.int .u64 (IntKind.u64.wrap (i6 - if i3 < IntKind.u64.wrap (i0 + i1) then IntKind.u64.wrap (i0 + i1) else i3)), V.int .i64 i5]]), (244, Ob.row false 3 (x3 ++ [V.agg [V.int .u64 (if i3 < IntKind.u64.wrap (i0 + i1) then IntKind.u64.wrap (i0 + i1) else i3), V.int .u64 (IntKind.u64.wrap (i6 - if i3 < IntKind.u64.wrap (i0 + i1) then IntKind.u64.wrap (i0 + i1) else i3)), V.int .i64 i5]]))], nx := 260 }) :=
  byL (k := k) (d := 5) [Hn.br 21 true, Hn.op 22 ((V.agg [V.int .u64 i3, V.int .u64 i4, V.int .i64 i5]).cpt 0) [], Hn.br 28 true, Hn.call 33 (V.int .u64 i6), Hn.op 44 (V.ref 104) [(1, Ob.dead), (104, Ob.row false 3 (x1 ++ [V.agg [V.int .u64 i3, V.int .u64 (IntKind.u64.wrap ((if i0 < i6 then i0 else i6) - i3)), V.int .i64 i5]]))], Hn.call 51 (V.int .u64 i6), Hn.br 56 false, Hn.call 68 (V.int .u64 i6), Hn.br 70 true, Hn.call 78 (V.int .u64 i6), Hn.op 85 (V.ref 244) [(3, Ob.dead), (244, Ob.row false 3 (x3 ++ [V.agg [V.int .u64 (if i3 < IntKind.u64.wrap (i0 + i1) then IntKind.u64.wrap (i0 + i1) else i3), V.int .u64 (IntKind.u64.wrap (i6 - if i3 < IntKind.u64.wrap (i0 + i1) then IntKind.u64.wrap (i0 + i1) else i3)), V.int .i64 i5]]))]] (And.intro c0 (And.intro c1 (And.intro c2 (And.intro c3 (And.intro c4 (And.intro c5 (And.intro c6 (And.intro c7 (And.intro c8 (And.intro c9 (And.intro c10 trivial))))))))))) (by kernel_rfl)
theorem L73_1_b2h (i0 i1 i2 i3 i4 i5 i6 : Int) (b0 : Bool) (x0 x1 x2 x3 : List V) (o0 : Option Bool) (n0 : Nat) : head 0 [0, 1, 3, 4, 5, 6, 7, 18, 19, 20] (Try.cfg.fc 73).acc { tm := [(0, V.sl o0 b0 n0 x0), (1, V.agg [V.int .u64 i0, V.int .u64 i1]), (3, V.ptr 0 0), (4, V.ref 104), (5, V.ref 2), (6, V.ref 244), (7, V.int .u64 (IntKind.u64.wrap (i0 + i1))), (9, V.ptr 16 0), (10, V.int .u64 (if i3 < i0 then i0 else i3)), (11, V.int .u64 (if IntKind.u64.wrap (i0 + i1) < i6 then IntKind.u64.wrap (i0 + i1) else i6)), (12, V.int .u64 (if i3 < IntKind.u64.wrap (i0 + i1) then IntKind.u64.wrap (i0 + i1) else i3)), (18, V.sl o0 b0 n0 x0), (19, V.int .i64 (↑x0.length : Int)), (20, V.int .i64 (IntKind.i64.wrap (i2 + 1))), (21, V.bool true), (28, V.bool true), (56, V.bool false), (70, V.bool true)], hp := [(0, Ob.var [V.int .u64 i0, V.int .u64 i1]), (1, Ob.dead), (2, Ob.row false 3 x2), (3, Ob.dead), (16, Ob.var [V.int .u64 i3, V.int .u64 i4, V.int .i64 i5]), (100, Ob.row false 3 [V.agg [V.int .u64 i3, V.int .u64 (IntKind.u64.wrap ((if i0 < i6 then i0 else i6) - i3)), V.int .i64 i5]]), (104, Ob.row false 3 (x1 ++ [V.agg [V.int .u64 i3, V.int .u64 (IntKind.u64.wrap ((if i0 < i6 then i0 else i6) - i3)), V.int .i64 i5]])), (240, Ob.row false 3 [V.agg [V.int .u64 (if i3 < IntKind.u64.wrap (i0 + i1) then IntKind.u64.wrap (i0 + i1) else i3), V.int .u64 (IntKind.u64.wrap (i6 - if i3 < IntKind.u64.wrap (i0 + i1) then IntKind.u64.wrap (i0 + i1) else i3)), V.int .i64 i5]]), (244, Ob.row false 3 (x3 ++ [V.agg [V.int .u64 (if i3 < IntKind.u64.wrap (i0 + i1) then IntKind.u64.wrap (i0 + i1) else i3), V.int .u64 (IntKind.u64.wrap (i6 - if i3 < IntKind.u64.wrap (i0 + i1) then IntKind.u64.wrap (i0 + i1) else i3)), V.int .i64 i5]]))], nx := 260 } = { tm := [(0, V.sl o0 b0 n0 x0), (1, V.agg [V.int .u64 i0, V.int .u64 i1]), (3, V.ptr 0 0), (4, V.ref 1), (5, V.ref 2), (6, V.ref 3), (7, V.int .u64 (IntKind.u64.wrap (i0 + i1))), (18, V.sl o0 b0 n0 x0), (19, V.int .i64 (↑x0.length : Int)), (20, V.int .i64 (IntKind.i64.wrap (i2 + 1)))], hp := [(0, Ob.var [V.int .u64 i0, V.int .u64 i1]), (1, Ob.row false 3 (x1 ++ [V.agg [V.int .u64 i3, V.int .u64 (IntKind.u64.wrap ((if i0 < i6 then i0 else i6) - i3)), V.int .i64 i5]])), (2, Ob.row false 3 x2), (3, Ob.row false 3 (x3 ++ [V.agg [V.int .u64 (if i3 < IntKind.u64.wrap (i0 + i1) then IntKind.u64.wrap (i0 + i1) else i3), V.int .u64 (IntKind.u64.wrap (i6 - if i3 < IntKind.u64.wrap (i0 + i1) then IntKind.u64.wrap (i0 + i1) else i3)), V.int .i64 i5]]))], nx := 4 } := by kernel_rfl
theorem L73_1_b3 (i0 i1 i2 i3 i4 i5 i6 : Int) (b0 : Bool) (x0 x1 x2 x3 : List V) (o0 : Option Bool) (n0 k : Nat)
    (c0 : decide (i2 < (↑x0.length : Int)) = true)
    (c1 : IdxP x0 i2 n0 3 (V.agg [V.int .u64 i3, V.int .u64 i4, V.int .i64 i5]))
    (c2 : decide (i3 < i0) = true)
    (c3 : callP (evalFn Try.prog Try.cfg (k + 5)) 79 [V.agg [V.int .u64 i3, V.int .u64 i4, V.int .i64 i5]] = some (V.int .u64 i6))
    (c4 : GrdW ((3 : Nat) = (3 : Nat) ∧ (0 : Nat) < (3 : Nat) ∧ (24 : Nat) ≤ (64 : Nat) ∧ x1.length + (1 : Nat) ≤ maxLen') (V.ref (104 : Nat)) [((1 : Nat), Ob.dead), ((104 : Nat), Ob.row false (3 : Nat) (x1 ++ [V.agg [V.int .u64 i3, V.int .u64 (IntKind.u64.wrap ((if i0 < i6 then i0 else i6) - i3)), V.int .i64 i5]]))])
    (c5 : callP (evalFn Try.prog Try.cfg (k + 5)) 79 [V.agg [V.int .u64 i3, V.int .u64 i4, V.int .i64 i5]] = some (V.int .u64 i6))
    (c6 : decide ((if i3 < i0 then i0 else i3) < if IntKind.u64.wrap (i0 + i1) < i6 then IntKind.u64.wrap (i0 + i1) else i6) = false)
    (c7 : callP (evalFn Try.prog Try.cfg (k + 5)) 79 [V.agg [V.int .u64 i3, V.int .u64 i4, V.int .i64 i5]] = some (V.int .u64 i6))
    (c8 : decide (IntKind.u64.wrap (i0 + i1) < i6) = false) :
    evalCode Try.prog Try.cfg (evalFn Try.prog Try.cfg (k + 5)) 0 (Try.cfg.fc 73) (k + 5) (loopBody Try.f73 0) { tm := [(0, V.sl o0 b0 n0 x0), (1, V.agg [V.int .u64 i0, V.int .u64 i1]), (3, V.ptr 0 0), (4, V.ref 1), (5, V.ref 2), (6, V.ref 3), (7, V.int .u64 (IntKind.u64.wrap (i0 + i1))), (18, V.sl o0 b0 n0 x0), (19, V.int .i64 (↑x0.length : Int)), (20, V.int .i64 i2)], hp := [(0, Ob.var [V.int .u64 i0, V.int .u64 i1]), (1, Ob.row false 3 x1), (2, Ob.row false 3 x2), (3, Ob.row false 3 x3)], nx := 4 } = some (Exit.normal, { tm := [(0, V.sl o0 b0 n0 x0), (1, V.agg [V.int .u64 i0, V.int .u64 i1]), (3, V.ptr 0 0), (4, V.ref 104), (5, V.ref 2), (6, V.ref 3), (7, V.int .u64 (IntKind.u64.wrap (i0 + i1))), (9, V.ptr 16 0), (10, V.int .u64 (if i3 < i0 then i0 else i3)), (11, V.int .u64 (if IntKind.u64.wrap (i0 + i1) < i6 then IntKind.u64.wrap (i0 + i1) else i6)), (18, V.sl o0 b0 n0 x0), (19, V.int .i64 (↑x0.length : Int)), (20, V.int .i64 (IntKind.i64.wrap (i2 + 1))), (21, V.bool true), (28, V.bool true), (56, V.bool false), (70, V.bool false)], hp := [(0, Ob.var [V.int .u64 i0, V.int .u64 i1]), (1, Ob.dead), (2, Ob.row false 3 x2), (3, Ob.row false 3 x3), (16, Ob.var [V.int .u64 i3, V.int .u64 i4, V.int .i64 i5]), (100, Ob.row false 3 [V.agg [V.int .u64 i3, V.int .u64 (IntKind.u64.wrap ((if i0 < i6 then i0 else i6) - i3)), V.int .i64 i5]]), (104, Ob.row false 3 (x1 ++ [V.agg [V.int .u64 i3, V.int .u64 (IntKind.u64.wrap ((if i0 < i6 then i0 else i6) - i3)), V.int .i64 i5]]))], nx := 192 }) :=
  byL (k := k) (d := 5) [Hn.br 21 true, Hn.op 22 ((V.agg [V.int .u64 i3, V.int .u64 i4, V.int .i64 i5]).cpt 0) [], Hn.br 28 true, Hn.call 33 (V.int .u64 i6), Hn.op 44 (V.ref 104) [(1, Ob.dead), (104, Ob.row false 3 (x1 ++ [V.agg [V.int .u64 i3, V.int .u64 (IntKind.u64.wrap ((if i0 < i6 then i0 else i6) - i3)), V.int .i64 i5]]))], Hn.call 51 (V.int .u64 i6), Hn.br 56 false, Hn.call 68 (V.int .u64 i6), Hn.br 70 false] (And.intro c0 (And.intro c1 (And.intro c2 (And.intro c3 (And.intro c4 (And.intro c5 (And.intro c6 (And.intro c7 (And.intro c8 trivial))))))))) (by kernel_rfl)
theorem L73_1_b3h (i0 i1 i2 i3 i4 i5 i6 : Int) (b0 : Bool) (x0 x1 x2 x3 : List V) (o0 : Option Bool) (n0 : Nat) : head 0 [0, 1, 3, 4, 5, 6, 7, 18, 19, 20] (Try.cfg.fc 73).acc { tm := [(0, V.sl o0 b0 n0 x0), (1, V.agg [V.int .u64 i0, V.int .u64 i1]), (3, V.ptr 0 0), (4, V.ref 104), (5, V.ref 2), (6, V.ref 3), (7, V.int .u64 (IntKind.u64.wrap (i0 + i1))), (9, V.ptr 16 0), (10, V.int .u64 (if i3 < i0 then i0 else i3)), (11, V.int .u64 (if IntKind.u64.wrap (i0 + i1) < i6 then IntKind.u64.wrap (i0 + i1) else i6)), (18, V.sl o0 b0 n0 x0), (19, V.int .i64 (↑x0.length : Int)), (20, V.int .i64 (IntKind.i64.wrap (i2 + 1))), (21, V.bool true), (28, V.bool true), (56, V.bool false), (70, V.bool false)], hp := [(0, Ob.var [V.int .u64 i0, V.int .u64 i1]), (1, Ob.dead), (2, Ob.row false 3 x2), (3, Ob.row false 3 x3), (16, Ob.var [V.int .u64 i3, V.int .u64 i4, V.int .i64 i5]), (100, Ob.row false 3 [V.agg [V.int .u64 i3, V.int .u64 (IntKind.u64.wrap ((if i0 < i6 then i0 else i6) - i3)), V.int .i64 i5]]), (104, Ob.row false 3 (x1 ++ [V.agg [V.int .u64 i3, V.int .u64 (IntKind.u64.wrap ((if i0 < i6 then i0 else i6) - i3)), V.int .i64 i5]]))], nx := 192 } = { tm := [(0, V.sl o0 b0 n0 x0), (1, V.agg [V.int .u64 i0, V.int .u64 i1]), (3, V.ptr 0 0), (4, V.ref 1), (5, V.ref 2), (6, V.ref 3), (7, V.int .u64 (IntKind.u64.wrap (i0 + i1))), (18, V.sl o0 b0 n0 x0), (19, V.int .i64 (↑x0.length : Int)), (20, V.int .i64 (IntKind.i64.wrap (i2 + 1)))], hp := [(0, Ob.var [V.int .u64 i0, V.int .u64 i1]), (1, Ob.row false 3 (x1 ++ [V.agg [V.int .u64 i3, V.int .u64 (IntKind.u64.wrap ((if i0 < i6 then i0 else i6) - i3)), V.int .i64 i5]])), (2, Ob.row false 3 x2), (3, Ob.row false 3 x3)], nx := 4 } := by kernel_rfl
theorem L73_1_b4 (i0 i1 i2 i3 i4 i5 i6 : Int) (b0 : Bool) (x0 x1 x2 x3 : List V) (o0 : Option Bool) (n0 k : Nat)
    (c0 : decide (i2 < (↑x0.length : Int)) = true)
    (c1 : IdxP x0 i2 n0 3 (V.agg [V.int .u64 i3, V.int .u64 i4, V.int .i64 i5]))
    (c2 : decide (i3 < i0) = false)
    (c3 : callP (evalFn Try.prog Try.cfg (k + 5)) 79 [V.agg [V.int .u64 i3, V.int .u64 i4, V.int .i64 i5]] = some (V.int .u64 i6))
    (c4 : decide ((if i3 < i0 then i0 else i3) < if IntKind.u64.wrap (i0 + i1) < i6 then IntKind.u64.wrap (i0 + i1) else i6) = true)
    (c5 : GrdW ((3 : Nat) = (3 : Nat) ∧ (0 : Nat) < (3 : Nat) ∧ (24 : Nat) ≤ (64 : Nat) ∧ x2.length + (1 : Nat) ≤ maxLen') (V.ref (136 : Nat)) [((2 : Nat), Ob.dead), ((136 : Nat), Ob.row false (3 : Nat) (x2 ++ [V.agg [V.int .u64 (if i3 < i0 then i0 else i3), V.int .u64 (IntKind.u64.wrap ((if IntKind.u64.wrap (i0 + i1) < i6 then IntKind.u64.wrap (i0 + i1) else i6) - if i3 < i0 then i0 else i3)), V.int .i64 i5]]))])
    (c6 : callP (evalFn Try.prog Try.cfg (k + 5)) 79 [V.agg [V.int .u64 i3, V.int .u64 i4, V.int .i64 i5]] = some (V.int .u64 i6))
    (c7 : decide (IntKind.u64.wrap (i0 + i1) < i6) = true)
    (c8 : callP (evalFn Try.prog Try.cfg (k + 5)) 79 [V.agg [V.int .u64 i3, V.int .u64 i4, V.int .i64 i5]] = some (V.int .u64 i6))
    (c9 : GrdW ((3 : Nat) = (3 : Nat) ∧ (0 : Nat) < (3 : Nat) ∧ (24 : Nat) ≤ (64 : Nat) ∧ x3.length + (1 : Nat) ≤ maxLen') (V.ref (220 : Nat)) [((3 : Nat), Ob.dead), ((220 : Nat), Ob.row false (3 : Nat) (x3 ++ [V.agg [V.int .u64 (if i3 < IntKind.u64.wrap (i0 + i1) then IntKind.u64.wrap (i0 + i1) else i3), V.int .u64 (IntKind.u64.wrap (i6 - if i3 < IntKind.u64.wrap (i0 + i1) then IntKind.u64.wrap (i0 + i1) else i3)), V.int .i64 i5]]))]) :
    evalCode Try.prog Try.cfg (evalFn Try.prog Try.cfg (k + 5)) 0 (Try.cfg.fc 73) (k + 5) (loopBody Try.f73 0) { tm := [(0, V.sl o0 b0 n0 x0), (1, V.agg [V.int .u64 i0, V.int .u64 i1]), (3, V.ptr 0 0), (4, V.ref 1), (5, V.ref 2), (6, V.ref 3), (7, V.int .u64 (IntKind.u64.wrap (i0 + i1))), (18, V.sl o0 b0 n0 x0), (19, V.int .i64 (↑x0.length : Int)), (20, V.int .i64 i2)], hp := [(0, Ob.var [V.int .u64 i0, V.int .u64 i1]), (1, Ob.row false 3 x1), (2, Ob.row false 3 x2), (3, Ob.row false 3 x3)], nx := 4 } = some (Exit.normal, { tm := [(0, V.sl o0 b0 n0 x0), (1, V.agg [V.int .u64 i0, V.int .u64 i1]), (3, V.ptr 0 0), (4, V.ref 1), (5, V.ref 136), (6, V.ref 220), (7, V.int .u64 (IntKind.u64.wrap (i0 + i1))), (9, V.ptr 16 0), (10, V.int .u64 (if i3 < i0 then i0 else i3)), (11, V.int .u64 (if IntKind.u64.wrap (i0 + i1) < i6 then IntKind.u64.wrap (i0 + i1) else i6)), (12, V.int .u64 (if i3 < IntKind.u64.wrap (i0 + i1) then IntKind.u64.wrap (i0 + i1) else i3)), (18, V.sl o0 b0 n0 x0), (19, V.int .i64 (↑x0.length : Int)), (20, V.int .i64 (IntKind.i64.wrap (i2 + 1))), (21, V.bool true), (28, V.bool false), (56, V.bool true), (70, V.bool true)], hp := [(0, Ob.var [V.int .u64 i0, V.int .u64 i1]), (1, Ob.row false 3 x1), (2, Ob.dead), (3, Ob.dead), (16, Ob.var [V.int .u64 i3, V.int .u64 i4, V.int .i64 i5]), (132, Ob.row false 3 [V.agg [V.int .u64 (if i3 < i0 then i0 else i3), V.int .u64 (IntKind.u64.wrap ((if IntKind.u64.wrap (i0 + i1) < i6 then IntKind.u64.wrap (i0 + i1) else i6) - if i3 < i0 then i0 else i3)), V.int .i64 i5]]), (136, Ob.row false 3 (x2 ++ [V.agg [V.int .u64 (if i3 < i0 then i0 else i3), V.int .u64 (IntKind.u64.wrap ((if IntKind.u64.wrap (i0 + i1) < i6 then IntKind.u64.wrap (i0 + i1) else i6) - if i3 < i0 then i0 else i3)), V.int .i64 i5]])), (216, Ob.row false 3 [V.agg [V.int .u64 (if i3 < IntKind.u64.wrap (i0 + i1) then IntKind.u64.wrap (i0 + i1) else i3), V.int .u64 (IntKind.u64.wrap (i6 - if i3 < IntKind.u64.wrap (i0 + i1) then IntKind.u64.wrap (i0 + i1) else i3)), V.int .i64 i5]]), (220, Ob.row false 3 (x3 ++ [V.agg [V.int .u64 (if i3 < IntKind.u64.wrap (i0 + i1) then IntKind.u64.wrap (i0 + i1) else i3), V.int .u64 (IntKind.u64.wrap (i6 - if i3 < IntKind.u64.wrap (i0 + i1) then IntKind.u64.wrap (i0 + i1) else i3)), V.int .i64 i5]]))], nx := 236 }) :=
  byL (k := k) (d := 5) [Hn.br 21 true, Hn.op 22 ((V.agg [V.int .u64 i3, V.int .u64 i4, V.int .i64 i5]).cpt 0) [], Hn.br 28 false, Hn.call 51 (V.int .u64 i6), Hn.br 56 true, Hn.op 66 (V.ref 136) [(2, Ob.dead), (136, Ob.row false 3 (x2 ++ [V.agg [V.int .u64 (if i3 < i0 then i0 else i3), V.int .u64 (IntKind.u64.wrap ((if IntKind.u64.wrap (i0 + i1) < i6 then IntKind.u64.wrap (i0 + i1) else i6) - if i3 < i0 then i0 else i3)), V.int .i64 i5]]))], Hn.call 68 (V.int .u64 i6), Hn.br 70 true, Hn.call 78 (V.int .u64 i6), Hn.op 85 (V.ref 220) [(3, Ob.dead), (220, Ob.row false 3 (x3 ++ [V.agg [V.int .u64 (if i3 < IntKind.u64.wrap (i0 + i1) then IntKind.u64.wrap (i0 + i1) else i3), V.int .u64 (IntKind.u64.wrap (i6 - if i3 < IntKind.u64.wrap (i0 + i1) then IntKind.u64.wrap (i0 + i1) else i3)), V.int .i64 i5]]))]] (And.intro c0 (And.intro c1 (And.intro c2 (And.intro c3 (And.intro c4 (And.intro c5 (And.intro c6 (And.intro c7 (And.intro c8 (And.intro c9 trivial)))))))))) (by kernel_rfl)
theorem L73_1_b4h (i0 i1 i2 i3 i4 i5 i6 : Int) (b0 : Bool) (x0 x1 x2 x3 : List V) (o0 : Option Bool) (n0 : Nat) : head 0 [0, 1, 3, 4, 5, 6, 7, 18, 19, 20] (Try.cfg.fc 73).acc { tm := [(0, V.sl o0 b0 n0 x0), (1, V.agg [V.int .u64 i0, V.int .u64 i1]), (3, V.ptr 0 0), (4, V.ref 1), (5, V.ref 136), (6, V.ref 220), (7, V.int .u64 (IntKind.u64.wrap (i0 + i1))), (9, V.ptr 16 0), (10, V.int .u64 (if i3 < i0 then i0 else i3)), (11, V.int .u64 (if IntKind.u64.wrap (i0 + i1) < i6 then IntKind.u64.wrap (i0 + i1) else i6)), (12, V.int .u64 (if i3 < IntKind.u64.wrap (i0 + i1) then IntKind.u64.wrap (i0 + i1) else i3)), (18, V.sl o0 b0 n0 x0), (19, V.int .i64 (↑x0.length : Int)), (20, V.int .i64 (IntKind.i64.wrap (i2 + 1))), (21, V.bool true), (28, V.bool false), (56, V.bool true), (70, V.bool true)], hp := [(0, Ob.var [V.int .u64 i0, V.int .u64 i1]), (1, Ob.row false 3 x1), (2, Ob.dead), (3, Ob.dead), (16, Ob.var [V.int .u64 i3, V.int .u64 i4, V.int .i64 i5]), (132, Ob.row false 3 [V.agg [V.int .u64 (if i3 < i0 then i0 else i3), V.int .u64 (IntKind.u64.wrap ((if IntKind.u64.wrap (i0 + i1) < i6 then IntKind.u64.wrap (i0 + i1) else i6) - if i3 < i0 then i0 else i3)), V.int .i64 i5]]), (136, Ob.row false 3 (x2 ++ [V.agg [V.int .u64 (if i3 < i0 then i0 else i3), V.int .u64 (IntKind.u64.wrap ((if IntKind.u64.wrap (i0 + i1) < i6 then IntKind.u64.wrap (i0 + i1) else i6) - if i3 < i0 then i0 else i3)), V.int .i64 i5]])), (216, Ob.row false 3 [V.agg [V.int .u64 (if i3 < IntKind.u64.wrap (i0 + i1) then IntKind.u64.wrap (i0 + i1) else i3), V.int .u64 (IntKind.u64.wrap (i6 - if i3 < IntKind.u64.wrap (i0 + i1) then IntKind.u64.wrap (i0 + i1) else i3)), V.int .i64 i5]]), (220, Ob.row false 3 (x3 ++ [V.agg [V.int .u64 (if i3 < IntKind.u64.wrap (i0 + i1) then IntKind.u64.wrap (i0 + i1) else i3), V.int .u64 (IntKind.u64.wrap (i6 - if i3 < IntKind.u64.wrap (i0 + i1) then IntKind.u64.wrap (i0 + i1) else i3)), V.int .i64 i5]]))], nx := 236 } = { tm := [(0, V.sl o0 b0 n0 x0), (1, V.agg [V.int .u64 i0, V.int .u64 i1]), (3, V.ptr 0 0), (4, V.ref 1), (5, V.ref 2), (6, V.ref 3), (7, V.int .u64 (IntKind.u64.wrap (i0 + i1))), (18, V.sl o0 b0 n0 x0), (19, V.int .i64 (↑x0.length : Int)), (20, V.int .i64 (IntKind.i64.wrap (i2 + 1)))], hp := [(0, Ob.var [V.int .u64 i0, V.int .u64 i1]), (1, Ob.row false 3 x1), (2, Ob.row false 3 (x2 ++ [V.agg [V.int .u64 (if i3 < i0 then i0 else i3), V.int .u64 (IntKind.u64.wrap ((if IntKind.u64.wrap (i0 + i1) < i6 then IntKind.u64.wrap (i0 + i1) else i6) - if i3 < i0 then i0 else i3)), V.int .i64 i5]])), (3, Ob.row false 3 (x3 ++ [V.agg [V.int .u64 (if i3 < IntKind.u64.wrap (i0 + i1) then IntKind.u64.wrap (i0 + i1) else i3), V.int .u64 (IntKind.u64.wrap (i6 - if i3 < IntKind.u64.wrap (i0 + i1) then IntKind.u64.wrap (i0 + i1) else i3)), V.int .i64 i5]]))], nx := 4 } := by kernel_rfl
theorem L73_1_b5 (i0 i1 i2 i3 i4 i5 i6 : Int) (b0 : Bool) (x0 x1 x2 x3 : List V) (o0 : Option Bool) (n0 k : Nat)
    (c0 : decide (i2 < (↑x0.length : Int)) = true)
    (c1 : IdxP x0 i2 n0 3 (V.agg [V.int .u64 i3, V.int .u64 i4, V.int .i64 i5]))
    (c2 : decide (i3 < i0) = false)
    (c3 : callP (evalFn Try.prog Try.cfg (k + 5)) 79 [V.agg [V.int .u64 i3, V.int .u64 i4, V.int .i64 i5]] = some (V.int .u64 i6))
    (c4 : decide ((if i3 < i0 then i0 else i3) < if IntKind.u64.wrap (i0 + i1) < i6 then IntKind.u64.wrap (i0 + i1) else i6) = true)
    (c5 : GrdW ((3 : Nat) = (3 : Nat) ∧ (0 : Nat) < (3 : Nat) ∧ (24 : Nat) ≤ (64 : Nat) ∧ x2.length + (1 : Nat) ≤ maxLen') (V.ref (136 : Nat)) [((2 : Nat), Ob.dead), ((136 : Nat), Ob.row false (3 : Nat) (x2 ++ [V.agg [V.int .u64 (if i3 < i0 then i0 else i3), V.int .u64 (IntKind.u64.wrap ((if IntKind.u64.wrap (i0 + i1) < i6 then IntKind.u64.wrap (i0 + i1) else i6) - if i3 < i0 then i0 else i3)), V.int .i64 i5]]))])
    (c6 : callP (evalFn Try.prog Try.cfg (k + 5)) 79 [V.agg [V.int .u64 i3, V.int .u64 i4, V.int .i64 i5]] = some (V.int .u64 i6))
    (c7 : decide (IntKind.u64.wrap (i0 + i1) < i6) = false) :
    evalCode Try.prog Try.cfg (evalFn Try.prog Try.cfg (k + 5)) 0 (Try.cfg.fc 73) (k + 5) (loopBody Try.f73 0) { tm := [(0, V.sl o0 b0 n0 x0), (1, V.agg [V.int .u64 i0, V.int .u64 i1]), (3, V.ptr 0 0), (4, V.ref 1), (5, V.ref 2), (6, V.ref 3), (7, V.int .u64 (IntKind.u64.wrap (i0 + i1))), (18, V.sl o0 b0 n0 x0), (19, V.int .i64 (↑x0.length : Int)), (20, V.int .i64 i2)], hp := [(0, Ob.var [V.int .u64 i0, V.int .u64 i1]), (1, Ob.row false 3 x1), (2, Ob.row false 3 x2), (3, Ob.row false 3 x3)], nx := 4 } = some (Exit.normal, { tm := [(0, V.sl o0 b0 n0 x0), (1, V.agg [V.int .u64 i0, V.int .u64 i1]), (3, V.ptr 0 0), (4, V.ref 1), (5, V.ref 136), (6, V.ref 3), (7, V.int .u64 (IntKind.u64.wrap (i0 + i1))), (9, V.ptr 16 0), (10, V.int .u64 (if i3 < i0 then i0 else i3)), (11, V.int .u64 (if IntKind.u64.wrap (i0 + i1) < i6 then IntKind.u64.wrap (i0 + i1) else i6)), (18, V.sl o0 b0 n0 x0), (19, V.int .i64 (↑x0.length : Int)), (20, V.int .i64 (IntKind.i64.wrap (i2 + 1))), (21, V.bool true), (28, V.bool false), (56, V.bool true), (70, V.bool false)], hp := [(0, Ob.var [V.int .u64 i0, V.int .u64 i1]), (1, Ob.row false 3 x1), (2, Ob.dead), (3, Ob.row false 3 x3), (16, Ob.var [V.int .u64 i3, V.int .u64 i4, V.int .i64 i5]), (132, Ob.row false 3 [V.agg [V.int .u64 (if i3 < i0 then i0 else i3), V.int .u64 (IntKind.u64.wrap ((if IntKind.u64.wrap (i0 + i1) < i6 then IntKind.u64.wrap (i0 + i1) else i6) - if i3 < i0 then i0 else i3)), V.int .i64 i5]]), (136, Ob.row false 3 (x2 ++ [V.agg [V.int .u64 (if i3 < i0 then i0 else i3), V.int .u64 (IntKind.u64.wrap ((if IntKind.u64.wrap (i0 + i1) < i6 then IntKind.u64.wrap (i0 + i1) else i6) - if i3 < i0 then i0 else i3)), V.int .i64 i5]]))], nx := 168 }) :=
  byL (k := k) (d := 5) [Hn.br 21 true, Hn.op 22 ((V.agg [V.int .u64 i3, V.int .u64 i4, V.int .i64 i5]).cpt 0) [], Hn.br 28 false, Hn.call 51 (V.int .u64 i6), Hn.br 56 true, Hn.op 66 (V.ref 136) [(2, Ob.dead), (136, Ob.row false 3 (x2 ++ [V.agg [V.int .u64 (if i3 < i0 then i0 else i3), V.int .u64 (IntKind.u64.wrap ((if IntKind.u64.wrap (i0 + i1) < i6 then IntKind.u64.wrap (i0 + i1) else i6) - if i3 < i0 then i0 else i3)), V.int .i64 i5]]))], Hn.call 68 (V.int .u64 i6), Hn.br 70 false] (And.intro c0 (And.intro c1 (And.intro c2 (And.intro c3 (And.intro c4 (And.intro c5 (And.intro c6 (And.intro c7 trivial)))))))) (by kernel_rfl)
theorem L73_1_b5h (i0 i1 i2 i3 i4 i5 i6 : Int) (b0 : Bool) (x0 x1 x2 x3 : List V) (o0 : Option Bool) (n0 : Nat) : head 0 [0, 1, 3, 4, 5, 6, 7, 18, 19, 20] (Try.cfg.fc 73).acc { tm := [(0, V.sl o0 b0 n0 x0), (1, V.agg [V.int .u64 i0, V.int .u64 i1]), (3, V.ptr 0 0), (4, V.ref 1), (5, V.ref 136), (6, V.ref 3), (7, V.int .u64 (IntKind.u64.wrap (i0 + i1))), (9, V.ptr 16 0), (10, V.int .u64 (if i3 < i0 then i0 else i3)), (11, V.int .u64 (if IntKind.u64.wrap (i0 + i1) < i6 then IntKind.u64.wrap (i0 + i1) else i6)), (18, V.sl o0 b0 n0 x0), (19, V.int .i64 (↑x0.length : Int)), (20, V.int .i64 (IntKind.i64.wrap (i2 + 1))), (21, V.bool true), (28, V.bool false), (56, V.bool true), (70, V.bool false)], hp := [(0, Ob.var [V.int .u64 i0, V.int .u64 i1]), (1, Ob.row false 3 x1), (2, Ob.dead), (3, Ob.row false 3 x3), (16, Ob.var [V.int .u64 i3, V.int .u64 i4, V.int .i64 i5]), (132, Ob.row false 3 [V.agg [V.int .u64 (if i3 < i0 then i0 else i3), V.int .u64 (IntKind.u64.wrap ((if IntKind.u64.wrap (i0 + i1) < i6 then IntKind.u64.wrap (i0 + i1) else i6) - if i3 < i0 then i0 else i3)), V.int .i64 i5]]), (136, Ob.row false 3 (x2 ++ [V.agg [V.int .u64 (if i3 < i0 then i0 else i3), V.int .u64 (IntKind.u64.wrap ((if IntKind.u64.wrap (i0 + i1) < i6 then IntKind.u64.wrap (i0 + i1) else i6) - if i3 < i0 then i0 else i3)), V.int .i64 i5]]))], nx := 168 } = { tm := [(0, V.sl o0 b0 n0 x0), (1, V.agg [V.int .u64 i0, V.int .u64 i1]), (3, V.ptr 0 0), (4, V.ref 1), (5, V.ref 2), (6, V.ref 3), (7, V.int .u64 (IntKind.u64.wrap (i0 + i1))), (18, V.sl o0 b0 n0 x0), (19, V.int .i64 (↑x0.length : Int)), (20, V.int .i64 (IntKind.i64.wrap (i2 + 1)))], hp := [(0, Ob.var [V.int .u64 i0, V.int .u64 i1]), (1, Ob.row false 3 x1), (2, Ob.row false 3 (x2 ++ [V.agg [V.int .u64 (if i3 < i0 then i0 else i3), V.int .u64 (IntKind.u64.wrap ((if IntKind.u64.wrap (i0 + i1) < i6 then IntKind.u64.wrap (i0 + i1) else i6) - if i3 < i0 then i0 else i3)), V.int .i64 i5]])), (3, Ob.row false 3 x3)], nx := 4 } := by kernel_rfl
theorem L73_1_b6 (i0 i1 i2 i3 i4 i5 i6 : Int) (b0 : Bool) (x0 x1 x2 x3 : List V) (o0 : Option Bool) (n0 k : Nat)
    (c0 : decide (i2 < (↑x0.length : Int)) = true)
    (c1 : IdxP x0 i2 n0 3 (V.agg [V.int .u64 i3, V.int .u64 i4, V.int .i64 i5]))
    (c2 : decide (i3 < i0) = false)
    (c3 : callP (evalFn Try.prog Try.cfg (k + 5)) 79 [V.agg [V.int .u64 i3, V.int .u64 i4, V.int .i64 i5]] = some (V.int .u64 i6))
    (c4 : decide ((if i3 < i0 then i0 else i3) < if IntKind.u64.wrap (i0 + i1) < i6 then IntKind.u64.wrap (i0 + i1) else i6) = false)
    (c5 : callP (evalFn Try.prog Try.cfg (k + 5)) 79 [V.agg [V.int .u64 i3, V.int .u64 i4, V.int .i64 i5]] = some (V.int .u64 i6))
    (c6 : decide (IntKind.u64.wrap (i0 + i1) < i6) = true)
    (c7 : callP (evalFn Try.prog Try.cfg (k + 5)) 79 [V.agg [V.int .u64 i3, V.int .u64 i4, V.int .i64 i5]] = some (V.int .u64 i6))
    (c8 : GrdW ((3 : Nat) = (3 : Nat) ∧ (0 : Nat) < (3 : Nat) ∧ (24 : Nat) ≤ (64 : Nat) ∧ x3.length + (1 : Nat) ≤ maxLen') (V.ref (176 : Nat)) [((3 : Nat), Ob.dead), ((176 : Nat), Ob.row false (3 : Nat) (x3 ++ [V.agg [V.int .u64 (if i3 < IntKind.u64.wrap (i0 + i1) then IntKind.u64.wrap (i0 + i1) else i3), V.int .u64 (IntKind.u64.wrap (i6 - if i3 < IntKind.u64.wrap (i0 + i1) then IntKind.u64.wrap (i0 + i1) else i3)), V.int .i64 i5]]))]) :
    evalCode Try.prog Try.cfg (evalFn Try.prog Try.cfg (k + 5)) 0 (Try.cfg.fc 73) (k + 5) (loopBody Try.f73 0) { tm := [(0, V.sl o0 b0 n0 x0), (1, V.agg [V.int .u64 i0, V.int .u64 i1]), (3, V.ptr 0 0), (4, V.ref 1), (5, V.ref 2), (6, V.ref 3), (7, V.int .u64 (IntKind.u64.wrap (i0 + i1))), (18, V.sl o0 b0 n0 x0), (19, V.int .i64 (↑x0.length : Int)), (20, V.int .i64 i2)], hp := [(0, Ob.var [V.int .u64 i0, V.int .u64 i1]), (1, Ob.row false 3 x1), (2, Ob.row false 3 x2), (3, Ob.row false 3 x3)], nx := 4 } = some (Exit.normal, { tm := [(0, V.sl o0 b0 n0 x0), (1, V.agg [V.int .u64 i0, V.int .u64 i1]), (3, V.ptr 0 0), (4, V.ref 1), (5, V.ref 2), (6, V.ref 176), (7, V.int .u64 (IntKind.u64.wrap (i0 + i1))), (9, V.ptr 16 0), (10, V.int .u64 (if i3 < i0 then i0 else i3)), (11, V.int .u64 (if IntKind.u64.wrap (i0 + i1) < i6 then IntKind.u64.wrap (i0 + i1) else i6)), (12, V.int .u64 (if i3 < IntKind.u64.wrap (i0 + i1) then IntKind.u64.wrap (i0 + i1) else i3)), (18, V.sl o0 b0 n0 x0), (19, V.int .i64 (↑x0.length : Int)), (20, V.int .i64 (IntKind.i64.wrap (i2 + 1))), (21, V.bool true), (28, V.bool false), (56, V.bool false), (70, V.bool true)], hp := [(0, Ob.var [V.int .u64 i0, V.int .u64 i1]), (1, Ob.row false 3 x1), (2, Ob.row false 3 x2), (3, Ob.dead), (16, Ob.var [V.int .u64 i3, V.int .u64 i4, V.int .i64 i5]), (172, Ob.row false 3 [V.agg [V.int .u64 (if i3 < IntKind.u64.wrap (i0 + i1) then IntKind.u64.wrap (i0 + i1) else i3), V.int .u64 (IntKind.u64.wrap (i6 - if i3 < IntKind.u64.wrap (i0 + i1) then IntKind.u64.wrap (i0 + i1) else i3)), V.int .i64 i5]]), (176, Ob.row false 3 (x3 ++ [V.agg [V.int .u64 (if i3 < IntKind.u64.wrap (i0 + i1) then IntKind.u64.wrap (i0 + i1) else i3), V.int .u64 (IntKind.u64.wrap (i6 - if i3 < IntKind.u64.wrap (i0 + i1) then IntKind.u64.wrap (i0 + i1) else i3)), V.int .i64 i5]]))], nx := 192 }) :=
  byL (k := k) (d := 5) [Hn.br 21 true, Hn.op 22 ((V.agg [V.int .u64 i3, V.int .u64 i4, V.int .i64 i5]).cpt 0) [], Hn.br 28 false, Hn.call 51 (V.int .u64 i6), Hn.br 56 false, Hn.call 68 (V.int .u64 i6), Hn.br 70 true, Hn.call 78 (V.int .u64 i6), Hn.op 85 (V.ref 176) [(3, Ob.dead), (176, Ob.row false 3 (x3 ++ [V.agg [V.int .u64 (if i3 < IntKind.u64.wrap (i0 + i1) then IntKind.u64.wrap (i0 + i1) else i3), V.int .u64 (IntKind.u64.wrap (i6 - if i3 < IntKind.u64.wrap (i0 + i1) then IntKind.u64.wrap (i0 + i1) else i3)), V.int .i64 i5]]))]] (And.intro c0 (And.intro c1 (And.intro c2 (And.intro c3 (And.intro c4 (And.intro c5 (And.intro c6 (And.intro c7 (And.intro c8 trivial))))))))) (by kernel_rfl)
theorem L73_1_b6h (i0 i1 i2 i3 i4 i5 i6 : Int) (b0 : Bool) (x0 x1 x2 x3 : List V) (o0 : Option Bool) (n0 : Nat) : head 0 [0, 1, 3, 4, 5, 6, 7, 18, 19, 20] (Try.cfg.fc 73).acc { tm := [(0, V.sl o0 b0 n0 x0), (1, V.agg [V.int .u64 i0, V.int .u64 i1]), (3, V.ptr 0 0), (4, V.ref 1), (5, V.ref 2), (6, V.ref 176), (7, V.int .u64 (IntKind.u64.wrap (i0 + i1))), (9, V.ptr 16 0), (10, V.int .u64 (if i3 < i0 then i0 else i3)), (11, V.int .u64 (if IntKind.u64.wrap (i0 + i1) < i6 then IntKind.u64.wrap (i0 + i1) else i6)), (12, V.int .u64 (if i3 < IntKind.u64.wrap (i0 + i1) then IntKind.u64.wrap (i0 + i1) else i3)), (18, V.sl o0 b0 n0 x0), (19, V.int .i64 (↑x0.length : Int)), (20, V.int .i64 (IntKind.i64.wrap (i2 + 1))), (21, V.bool true), (28, V.bool false), (56, V.bool false), (70, V.bool true)], hp := [(0, Ob.var [V.int .u64 i0, V.int .u64 i1]), (1, Ob.row false 3 x1), (2, Ob.row false 3 x2), (3, Ob.dead), (16, Ob.var [V.int .u64 i3, V.int .u64 i4, V.int .i64 i5]), (172, Ob.row false 3 [V.agg [V.int .u64 (if i3 < IntKind.u64.wrap (i0 + i1) then IntKind.u64.wrap (i0 + i1) else i3), V.int .u64 (IntKind.u64.wrap (i6 - if i3 < IntKind.u64.wrap (i0 + i1) then IntKind.u64.wrap (i0 + i1) else i3)), V.int .i64 i5]]), (176, Ob.row false 3 (x3 ++ [V.agg [V.int .u64 (if i3 < IntKind.u64.wrap (i0 + i1) then IntKind.u64.wrap (i0 + i1) else i3), V.int .u64 (IntKind.u64.wrap (i6 - if i3 < IntKind.u64.wrap (i0 + i1) then IntKind.u64.wrap (i0 + i1) else i3)), V.int .i64 i5]]))], nx := 192 } = { tm := [(0, V.sl o0 b0 n0 x0), (1, V.agg [V.int .u64 i0, V.int .u64 i1]), (3, V.ptr 0 0), (4, V.ref 1), (5, V.ref 2), (6, V.ref 3), (7, V.int .u64 (IntKind.u64.wrap (i0 + i1))), (18, V.sl o0 b0 n0 x0), (19, V.int .i64 (↑x0.length : Int)), (20, V.int .i64 (IntKind.i64.wrap (i2 + 1)))], hp := [(0, Ob.var [V.int .u64 i0, V.int .u64 i1]), (1, Ob.row false 3 x1), (2, Ob.row false 3 x2), (3, Ob.row false 3 (x3 ++ [V.agg [V.int .u64 (if i3 < IntKind.u64.wrap (i0 + i1) then IntKind.u64.wrap (i0 + i1) else i3), V.int .u64 (IntKind.u64.wrap (i6 - if i3 < IntKind.u64.wrap (i0 + i1) then IntKind.u64.wrap (i0 + i1) else i3)), V.int .i64 i5]]))], nx := 4 } := by kernel_rfl
theorem L73_1_b7 (i0 i1 i2 i3 i4 i5 i6 : Int) (b0 : Bool) (x0 x1 x2 x3 : List V) (o0 : Option Bool) (n0 k : Nat)
    (c0 : decide (i2 < (↑x0.length : Int)) = true)
    (c1 : IdxP x0 i2 n0 3 (V.agg [V.int .u64 i3, V.int .u64 i4, V.int .i64 i5]))
    (c2 : decide (i3 < i0) = false)
    (c3 : callP (evalFn Try.prog Try.cfg (k + 5)) 79 [V.agg [V.int .u64 i3, V.int .u64 i4, V.int .i64 i5]] = some (V.int .u64 i6))
    (c4 : decide ((if i3 < i0 then i0 else i3) < if IntKind.u64.wrap (i0 + i1) < i6 then IntKind.u64.wrap (i0 + i1) else i6) = false)
    (c5 : callP (evalFn Try.prog Try.cfg (k + 5)) 79 [V.agg [V.int .u64 i3, V.int .u64 i4, V.int .i64 i5]] = some (V.int .u64 i6))
    (c6 : decide (IntKind.u64.wrap (i0 + i1) < i6) = false) :
    evalCode Try.prog Try.cfg (evalFn Try.prog Try.cfg (k + 5)) 0 (Try.cfg.fc 73) (k + 5) (loopBody Try.f73 0) { tm := [(0, V.sl o0 b0 n0 x0), (1, V.agg [V.int .u64 i0, V.int .u64 i1]), (3, V.ptr 0 0), (4, V.ref 1), (5, V.ref 2), (6, V.ref 3), (7, V.int .u64 (IntKind.u64.wrap (i0 + i1))), (18, V.sl o0 b0 n0 x0), (19, V.int .i64 (↑x0.length : Int)), (20, V.int .i64 i2)], hp := [(0, Ob.var [V.int .u64 i0, V.int .u64 i1]), (1, Ob.row false 3 x1), (2, Ob.row false 3 x2), (3, Ob.row false 3 x3)], nx := 4 } = some (Exit.normal, { tm := [(0, V.sl o0 b0 n0 x0), (1, V.agg [V.int .u64 i0, V.int .u64 i1]), (3, V.ptr 0 0), (4, V.ref 1), (5, V.ref 2), (6, V.ref 3), (7, V.int .u64 (IntKind.u64.wrap (i0 + i1))), (9, V.ptr 16 0), (10, V.int .u64 (if i3 < i0 then i0 else i3)), (11, V.int .u64 (if IntKind.u64.wrap (i0 + i1) < i6 then IntKind.u64.wrap (i0 + i1) else i6)), (18, V.sl o0 b0 n0 x0), (19, V.int .i64 (↑x0.length : Int)), (20, V.int .i64 (IntKind.i64.wrap (i2 + 1))), (21, V.bool true), (28, V.bool false), (56, V.bool false), (70, V.bool false)], hp := [(0, Ob.var [V.int .u64 i0, V.int .u64 i1]), (1, Ob.row false 3 x1), (2, Ob.row false 3 x2), (3, Ob.row false 3 x3), (16, Ob.var [V.int .u64 i3, V.int .u64 i4, V.int .i64 i5])], nx := 124 }) :=
  byL (k := k) (d := 5) [Hn.br 21 true, Hn.op 22 ((V.agg [V.int .u64 i3, V.int .u64 i4, V.int .i64 i5]).cpt 0) [], Hn.br 28 false, Hn.call 51 (V.int .u64 i6), Hn.br 56 false, Hn.call 68 (V.int .u64 i6), Hn.br 70 false] (And.intro c0 (And.intro c1 (And.intro c2 (And.intro c3 (And.intro c4 (And.intro c5 (And.intro c6 trivial))))))) (by kernel_rfl)
theorem L73_1_b7h (i0 i1 i2 i3 i4 i5 i6 : Int) (b0 : Bool) (x0 x1 x2 x3 : List V) (o0 : Option Bool) (n0 : Nat) : head 0 [0, 1, 3, 4, 5, 6, 7, 18, 19, 20] (Try.cfg.fc 73).acc { tm := [(0, V.sl o0 b0 n0 x0), (1, V.agg [V.int .u64 i0, V.int .u64 i1]), (3, V.ptr 0 0), (4, V.ref 1), (5, V.ref 2), (6, V.ref 3), (7, V.int .u64 (IntKind.u64.wrap (i0 + i1))), (9, V.ptr 16 0), (10, V.int .u64 (if i3 < i0 then i0 else i3)), (11, V.int .u64 (if IntKind.u64.wrap (i0 + i1) < i6 then IntKind.u64.wrap (i0 + i1) else i6)), (18, V.sl o0 b0 n0 x0), (19, V.int .i64 (↑x0.length : Int)), (20, V.int .i64 (IntKind.i64.wrap (i2 + 1))), (21, V.bool true), (28, V.bool false), (56, V.bool false), (70, V.bool false)], hp := [(0, Ob.var [V.int .u64 i0, V.int .u64 i1]), (1, Ob.row false 3 x1), (2, Ob.row false 3 x2), (3, Ob.row false 3 x3), (16, Ob.var [V.int .u64 i3, V.int .u64 i4, V.int .i64 i5])], nx := 124 } = { tm := [(0, V.sl o0 b0 n0 x0), (1, V.agg [V.int .u64 i0, V.int .u64 i1]), (3, V.ptr 0 0), (4, V.ref 1), (5, V.ref 2), (6, V.ref 3), (7, V.int .u64 (IntKind.u64.wrap (i0 + i1))), (18, V.sl o0 b0 n0 x0), (19, V.int .i64 (↑x0.length : Int)), (20, V.int .i64 (IntKind.i64.wrap (i2 + 1)))], hp := [(0, Ob.var [V.int .u64 i0, V.int .u64 i1]), (1, Ob.row false 3 x1), (2, Ob.row false 3 x2), (3, Ob.row false 3 x3)], nx := 4 } := by kernel_rfl
theorem L73_1_b8 (i0 i1 i2 : Int) (b0 : Bool) (x0 x1 x2 x3 : List V) (o0 : Option Bool) (n0 k : Nat)
    (c0 : decide (i2 < (↑x0.length : Int)) = false) :
    evalCode Try.prog Try.cfg (evalFn Try.prog Try.cfg (k + 5)) 0 (Try.cfg.fc 73) (k + 5) (loopBody Try.f73 0) { tm := [(0, V.sl o0 b0 n0 x0), (1, V.agg [V.int .u64 i0, V.int .u64 i1]), (3, V.ptr 0 0), (4, V.ref 1), (5, V.ref 2), (6, V.ref 3), (7, V.int .u64 (IntKind.u64.wrap (i0 + i1))), (18, V.sl o0 b0 n0 x0), (19, V.int .i64 (↑x0.length : Int)), (20, V.int .i64 i2)], hp := [(0, Ob.var [V.int .u64 i0, V.int .u64 i1]), (1, Ob.row false 3 x1), (2, Ob.row false 3 x2), (3, Ob.row false 3 x3)], nx := 4 } = some (Exit.exit 0, { tm := [(0, V.sl o0 b0 n0 x0), (1, V.agg [V.int .u64 i0, V.int .u64 i1]), (3, V.ptr 0 0), (4, V.ref 1), (5, V.ref 2), (6, V.ref 3), (7, V.int .u64 (IntKind.u64.wrap (i0 + i1))), (18, V.sl o0 b0 n0 x0), (19, V.int .i64 (↑x0.length : Int)), (20, V.int .i64 i2), (21, V.bool false)], hp := [(0, Ob.var [V.int .u64 i0, V.int .u64 i1]), (1, Ob.row false 3 x1), (2, Ob.row false 3 x2), (3, Ob.row false 3 x3)], nx := 8 }) :=
  byL (k := k) (d := 5) [Hn.br 21 false] (And.intro c0 trivial) (by kernel_rfl)
inductive L73_1_R where
  | e0 (i2 : Int) (x1 : List V) (x2 : List V) (x3 : List V)
noncomputable def L73_1_end (i0 : Int) (i1 : Int) (b0 : Bool) (x0 : List V) (o0 : Option Bool) (n0 : Nat) : L73_1_R → Exit × St
  | .e0 i2 x1 x2 x3 => (Exit.exit 0, { tm := [(0, V.sl o0 b0 n0 x0), (1, V.agg [V.int .u64 i0, V.int .u64 i1]), (3, V.ptr 0 0), (4, V.ref 1), (5, V.ref 2), (6, V.ref 3), (7, V.int .u64 (IntKind.u64.wrap (i0 + i1))), (18, V.sl o0 b0 n0 x0), (19, V.int .i64 (↑x0.length : Int)), (20, V.int .i64 i2), (21, V.bool false)], hp := [(0, Ob.var [V.int .u64 i0, V.int .u64 i1]), (1, Ob.row false 3 x1), (2, Ob.row false 3 x2), (3, Ob.row false 3 x3)], nx := 8 })
def L73_1 (k : Nat) (i0 i1 : Int) (b0 : Bool) (x0 : List V) (o0 : Option Bool) (n0 : Nat) : Nat → Int → List V → List V → List V → Option L73_1_R
  | 0, _, _, _, _ => none
  | f + 1, i2, x1, x2, x3 => (bif decide (i2 < (↑x0.length : Int)) then (guardP (n0 = (3 : Nat)) (((at? (x0) (i2)).bind dAu64u64i64Z).bind fun (i3, i4, i5) => (bif decide (i3 < i0) then ((F79 (k + 2) (i3) (i4) (i5)).bind fun i6 => (guardP (x1.length + (1 : Nat) ≤ maxLen') (bif decide ((if i3 < i0 then i0 else i3) < if IntKind.u64.wrap (i0 + i1) < i6 then IntKind.u64.wrap (i0 + i1) else i6) then (guardP (x2.length + (1 : Nat) ≤ maxLen') (bif decide (IntKind.u64.wrap (i0 + i1) < i6) then (guardP (x3.length + (1 : Nat) ≤ maxLen') (L73_1 k i0 i1 b0 x0 o0 n0 f (IntKind.i64.wrap (i2 + 1)) (x1 ++ [V.agg [V.int .u64 i3, V.int .u64 (IntKind.u64.wrap ((if i0 < i6 then i0 else i6) - i3)), V.int .i64 i5]]) (x2 ++ [V.agg [V.int .u64 (if i3 < i0 then i0 else i3), V.int .u64 (IntKind.u64.wrap ((if IntKind.u64.wrap (i0 + i1) < i6 then IntKind.u64.wrap (i0 + i1) else i6) - if i3 < i0 then i0 else i3)), V.int .i64 i5]]) (x3 ++ [V.agg [V.int .u64 (if i3 < IntKind.u64.wrap (i0 + i1) then IntKind.u64.wrap (i0 + i1) else i3), V.int .u64 (IntKind.u64.wrap (i6 - if i3 < IntKind.u64.wrap (i0 + i1) then IntKind.u64.wrap (i0 + i1) else i3)), V.int .i64 i5]]))) else (L73_1 k i0 i1 b0 x0 o0 n0 f (IntKind.i64.wrap (i2 + 1)) (x1 ++ [V.agg [V.int .u64 i3, V.int .u64 (IntKind.u64.wrap ((if i0 < i6 then i0 else i6) - i3)), V.int .i64 i5]]) (x2 ++ [V.agg [V.int .u64 (if i3 < i0 then i0 else i3), V.int .u64 (IntKind.u64.wrap ((if IntKind.u64.wrap (i0 + i1) < i6 then IntKind.u64.wrap (i0 + i1) else i6) - if i3 < i0 then i0 else i3)), V.int .i64 i5]]) (x3)))) else (bif decide (IntKind.u64.wrap (i0 + i1) < i6) then (guardP (x3.length + (1 : Nat) ≤ maxLen') (L73_1 k i0 i1 b0 x0 o0 n0 f (IntKind.i64.wrap (i2 + 1)) (x1 ++ [V.agg [V.int .u64 i3, V.int .u64 (IntKind.u64.wrap ((if i0 < i6 then i0 else i6) - i3)), V.int .i64 i5]]) (x2) (x3 ++ [V.agg [V.int .u64 (if i3 < IntKind.u64.wrap (i0 + i1) then IntKind.u64.wrap (i0 + i1) else i3), V.int .u64 (IntKind.u64.wrap (i6 - if i3 < IntKind.u64.wrap (i0 + i1) then IntKind.u64.wrap (i0 + i1) else i3)), V.int .i64 i5]]))) else (L73_1 k i0 i1 b0 x0 o0 n0 f (IntKind.i64.wrap (i2 + 1)) (x1 ++ [V.agg [V.int .u64 i3, V.int .u64 (IntKind.u64.wrap ((if i0 < i6 then i0 else i6) - i3)), V.int .i64 i5]]) (x2) (x3)))))) else ((F79 (k + 2) (i3) (i4) (i5)).bind fun i6 => (bif decide ((if i3 < i0 then i0 else i3) < if IntKind.u64.wrap (i0 + i1) < i6 then IntKind.u64.wrap (i0 + i1) else i6) then (guardP (x2.length + (1 : Nat) ≤ maxLen') (bif decide (IntKind.u64.wrap (i0 + i1) < i6) then (guardP (x3.length + (1 : Nat) ≤ maxLen') (L73_1 k i0 i1 b0 x0 o0 n0 f (IntKind.i64.wrap (i2 + 1)) (x1) (x2 ++ [V.agg [V.int .u64 (if i3 < i0 then i0 else i3), V.int .u64 (IntKind.u64.wrap ((if IntKind.u64.wrap (i0 + i1) < i6 then IntKind.u64.wrap (i0 + i1) else i6) - if i3 < i0 then i0 else i3)), V.int .i64 i5]]) (x3 ++ [V.agg [V.int .u64 (if i3 < IntKind.u64.wrap (i0 + i1) then IntKind.u64.wrap (i0 + i1) else i3), V.int .u64 (IntKind.u64.wrap (i6 - if i3 < IntKind.u64.wrap (i0 + i1) then IntKind.u64.wrap (i0 + i1) else i3)), V.int .i64 i5]]))) else (L73_1 k i0 i1 b0 x0 o0 n0 f (IntKind.i64.wrap (i2 + 1)) (x1) (x2 ++ [V.agg [V.int .u64 (if i3 < i0 then i0 else i3), V.int .u64 (IntKind.u64.wrap ((if IntKind.u64.wrap (i0 + i1) < i6 then IntKind.u64.wrap (i0 + i1) else i6) - if i3 < i0 then i0 else i3)), V.int .i64 i5]]) (x3)))) else (bif decide (IntKind.u64.wrap (i0 + i1) < i6) then (guardP (x3.length + (1 : Nat) ≤ maxLen') (L73_1 k i0 i1 b0 x0 o0 n0 f (IntKind.i64.wrap (i2 + 1)) (x1) (x2) (x3 ++ [V.agg [V.int .u64 (if i3 < IntKind.u64.wrap (i0 + i1) then IntKind.u64.wrap (i0 + i1) else i3), V.int .u64 (IntKind.u64.wrap (i6 - if i3 < IntKind.u64.wrap (i0 + i1) then IntKind.u64.wrap (i0 + i1) else i3)), V.int .i64 i5]]))) else (L73_1 k i0 i1 b0 x0 o0 n0 f (IntKind.i64.wrap (i2 + 1)) (x1) (x2) (x3)))))))) else (some (L73_1_R.e0 i2 x1 x2 x3)))
theorem L73_1_ok {i0 : Int} {i1 : Int} {b0 : Bool} {x0 : List V} {o0 : Option Bool} {n0 : Nat} {k : Nat} : ∀ {f : Nat} {i2 : Int} {x1 : List V} {x2 : List V} {x3 : List V} {r : L73_1_R}, L73_1 k i0 i1 b0 x0 o0 n0 f i2 x1 x2 x3 = some r →
    LoopsN Try.prog Try.cfg (k + 5) 0 Try.f73 (Try.cfg.fc 73) 0 [0, 1, 3, 4, 5, 6, 7, 18, 19, 20] f { tm := [(0, V.sl o0 b0 n0 x0), (1, V.agg [V.int .u64 i0, V.int .u64 i1]), (3, V.ptr 0 0), (4, V.ref 1), (5, V.ref 2), (6, V.ref 3), (7, V.int .u64 (IntKind.u64.wrap (i0 + i1))), (18, V.sl o0 b0 n0 x0), (19, V.int .i64 (↑x0.length : Int)), (20, V.int .i64 i2)], hp := [(0, Ob.var [V.int .u64 i0, V.int .u64 i1]), (1, Ob.row false 3 x1), (2, Ob.row false 3 x2), (3, Ob.row false 3 x3)], nx := 4 } (L73_1_end i0 i1 b0 x0 o0 n0 r) := by
  intro f
  induction f with
  | zero => intro i2 x1 x2 x3 r h; cases h
  | succ f ih =>
    intro i2 x1 x2 x3 r h
    rw [L73_1] at h
    rcases cond_elim h with ⟨e0, h⟩ | ⟨e0, h⟩
    ·
      obtain ⟨e1, h⟩ := guardP_some.1 h
      obtain ⟨⟨i3, i4, i5⟩, e2, h⟩ := Option.bind_eq_some_iff.1 h
      rcases cond_elim h with ⟨e3, h⟩ | ⟨e3, h⟩
      ·
        obtain ⟨i6, e4, h⟩ := Option.bind_eq_some_iff.1 h
        obtain ⟨e5, h⟩ := guardP_some.1 h
        rcases cond_elim h with ⟨e6, h⟩ | ⟨e6, h⟩
        ·
          obtain ⟨e7, h⟩ := guardP_some.1 h
          rcases cond_elim h with ⟨e8, h⟩ | ⟨e8, h⟩
          ·
            obtain ⟨e9, h⟩ := guardP_some.1 h
            exact LoopsN.next (L73_1_b0 i0 i1 i2 i3 i4 i5 i6 b0 x0 x1 x2 x3 o0 n0 k e0 (IdxP.of_at' (at_d dAu64u64i64Z_ok e2 :) e1) e3 (F79_ok e4) (GrdW.mk ⟨rfl, by decide, by decide, e5⟩) (F79_ok e4) e6 (GrdW.mk ⟨rfl, by decide, by decide, e7⟩) (F79_ok e4) e8 (F79_ok e4) (GrdW.mk ⟨rfl, by decide, by decide, e9⟩)) (L73_1_b0h i0 i1 i2 i3 i4 i5 i6 b0 x0 x1 x2 x3 o0 n0) (ih h)
          ·
            exact LoopsN.next (L73_1_b1 i0 i1 i2 i3 i4 i5 i6 b0 x0 x1 x2 x3 o0 n0 k e0 (IdxP.of_at' (at_d dAu64u64i64Z_ok e2 :) e1) e3 (F79_ok e4) (GrdW.mk ⟨rfl, by decide, by decide, e5⟩) (F79_ok e4) e6 (GrdW.mk ⟨rfl, by decide, by decide, e7⟩) (F79_ok e4) e8) (L73_1_b1h i0 i1 i2 i3 i4 i5 i6 b0 x0 x1 x2 x3 o0 n0) (ih h)
        ·
          rcases cond_elim h with ⟨e7, h⟩ | ⟨e7, h⟩
          ·
            obtain ⟨e8, h⟩ := guardP_some.1 h
            exact LoopsN.next (L73_1_b2 i0 i1 i2 i3 i4 i5 i6 b0 x0 x1 x2 x3 o0 n0 k e0 (IdxP.of_at' (at_d dAu64u64i64Z_ok e2 :) e1) e3 (F79_ok e4) (GrdW.mk ⟨rfl, by decide, by decide, e5⟩) (F79_ok e4) e6 (F79_ok e4) e7 (F79_ok e4) (GrdW.mk ⟨rfl, by decide, by decide, e8⟩)) (L73_1_b2h i0 i1 i2 i3 i4 i5 i6 b0 x0 x1 x2 x3 o0 n0) (ih h)
          ·
            exact LoopsN.next (L73_1_b3 i0 i1 i2 i3 i4 i5 i6 b0 x0 x1 x2 x3 o0 n0 k e0 (IdxP.of_at' (at_d dAu64u64i64Z_ok e2 :) e1) e3 (F79_ok e4) (GrdW.mk ⟨rfl, by decide, by decide, e5⟩) (F79_ok e4) e6 (F79_ok e4) e7) (L73_1_b3h i0 i1 i2 i3 i4 i5 i6 b0 x0 x1 x2 x3 o0 n0) (ih h)
      ·
        obtain ⟨i6, e4, h⟩ := Option.bind_eq_some_iff.1 h
        rcases cond_elim h with ⟨e5, h⟩ | ⟨e5, h⟩
        ·
          obtain ⟨e6, h⟩ := guardP_some.1 h
          rcases cond_elim h with ⟨e7, h⟩ | ⟨e7, h⟩
          ·
            obtain ⟨e8, h⟩ := guardP_some.1 h
            exact LoopsN.next (L73_1_b4 i0 i1 i2 i3 i4 i5 i6 b0 x0 x1 x2 x3 o0 n0 k e0 (IdxP.of_at' (at_d dAu64u64i64Z_ok e2 :) e1) e3 (F79_ok e4) e5 (GrdW.mk ⟨rfl, by decide, by decide, e6⟩) (F79_ok e4) e7 (F79_ok e4) (GrdW.mk ⟨rfl, by decide, by decide, e8⟩)) (L73_1_b4h i0 i1 i2 i3 i4 i5 i6 b0 x0 x1 x2 x3 o0 n0) (ih h)
          ·
            exact LoopsN.next (L73_1_b5 i0 i1 i2 i3 i4 i5 i6 b0 x0 x1 x2 x3 o0 n0 k e0 (IdxP.of_at' (at_d dAu64u64i64Z_ok e2 :) e1) e3 (F79_ok e4) e5 (GrdW.mk ⟨rfl, by decide, by decide, e6⟩) (F79_ok e4) e7) (L73_1_b5h i0 i1 i2 i3 i4 i5 i6 b0 x0 x1 x2 x3 o0 n0) (ih h)
        ·
          rcases cond_elim h with ⟨e6, h⟩ | ⟨e6, h⟩
          ·
            obtain ⟨e7, h⟩ := guardP_some.1 h
            exact LoopsN.next (L73_1_b6 i0 i1 i2 i3 i4 i5 i6 b0 x0 x1 x2 x3 o0 n0 k e0 (IdxP.of_at' (at_d dAu64u64i64Z_ok e2 :) e1) e3 (F79_ok e4) e5 (F79_ok e4) e6 (F79_ok e4) (GrdW.mk ⟨rfl, by decide, by decide, e7⟩)) (L73_1_b6h i0 i1 i2 i3 i4 i5 i6 b0 x0 x1 x2 x3 o0 n0) (ih h)
          ·
            exact LoopsN.next (L73_1_b7 i0 i1 i2 i3 i4 i5 i6 b0 x0 x1 x2 x3 o0 n0 k e0 (IdxP.of_at' (at_d dAu64u64i64Z_ok e2 :) e1) e3 (F79_ok e4) e5 (F79_ok e4) e6) (L73_1_b7h i0 i1 i2 i3 i4 i5 i6 b0 x0 x1 x2 x3 o0 n0) (ih h)
    ·
      cases h; exact LoopsN.done (L73_1_b8 i0 i1 i2 b0 x0 x1 x2 x3 o0 n0 k e0) (fun h => by cases h)
theorem P73_0 (i0 i1 i2 : Int) (b0 : Bool) (x0 x1 x2 x3 : List V) (o0 : Option Bool) (n0 k : Nat)
    (c0 : LoopsN Try.prog Try.cfg (k + 5) 0 Try.f73 (Try.cfg.fc 73) 0 [0, 1, 3, 4, 5, 6, 7, 18, 19, 20] (k + 5) { tm := [(0, V.sl o0 b0 n0 x0), (1, V.agg [V.int .u64 i0, V.int .u64 i1]), (3, V.ptr 0 0), (4, V.ref 1), (5, V.ref 2), (6, V.ref 3), (7, V.int .u64 (IntKind.u64.wrap (i0 + i1))), (18, V.sl o0 b0 n0 x0), (19, V.int .i64 (↑x0.length : Int)), (20, V.int .i64 0)], hp := [(0, Ob.var [V.int .u64 i0, V.int .u64 i1]), (1, Ob.row false 3 []), (2, Ob.row false 3 []), (3, Ob.row false 3 [])], nx := 4 } (Exit.exit 0, { tm := [(0, V.sl o0 b0 n0 x0), (1, V.agg [V.int .u64 i0, V.int .u64 i1]), (3, V.ptr 0 0), (4, V.ref 1), (5, V.ref 2), (6, V.ref 3), (7, V.int .u64 (IntKind.u64.wrap (i0 + i1))), (18, V.sl o0 b0 n0 x0), (19, V.int .i64 (↑x0.length : Int)), (20, V.int .i64 i2), (21, V.bool false)], hp := [(0, Ob.var [V.int .u64 i0, V.int .u64 i1]), (1, Ob.row false 3 x1), (2, Ob.row false 3 x2), (3, Ob.row false 3 x3)], nx := 8 })) :
    callP (evalFn Try.prog Try.cfg (k + 6)) 73 [V.sl o0 b0 n0 x0, V.agg [V.int .u64 i0, V.int .u64 i1]] = some (V.tup [V.sl none false 3 x1, V.sl none false 3 x2, V.sl none false 3 x3]) :=
  byF (k := k) (d := 6) [Hn.loop (Exit.exit 0, { tm := [(0, V.sl o0 b0 n0 x0), (1, V.agg [V.int .u64 i0, V.int .u64 i1]), (3, V.ptr 0 0), (4, V.ref 1), (5, V.ref 2), (6, V.ref 3), (7, V.int .u64 (IntKind.u64.wrap (i0 + i1))), (18, V.sl o0 b0 n0 x0), (19, V.int .i64 (↑x0.length : Int)), (20, V.int .i64 i2), (21, V.bool false)], hp := [(0, Ob.var [V.int .u64 i0, V.int .u64 i1]), (1, Ob.row false 3 x1), (2, Ob.row false 3 x2), (3, Ob.row false 3 x3)], nx := 8 })] (And.intro c0 trivial) (by kernel_rfl)
def F73 (k : Nat) (o0 : Option Bool) (b0 : Bool) (n0 : Nat) (x0 : List V) (i0 i1 : Int) : Option (Option Bool × Bool × Nat × List V × Option Bool × Bool × Nat × List V × Option Bool × Bool × Nat × List V) :=
  ((L73_1 k i0 i1 b0 x0 o0 n0 (k + 5) (0) ([]) ([]) ([])).bind fun
    | L73_1_R.e0 i2 x1 x2 x3 => (some ((none), (false), (3), (x1), (none), (false), (3), (x2), (none), (false), (3), (x3))))
theorem F73_ok {o0 : Option Bool} {b0 : Bool} {n0 : Nat} {x0 : List V} {i0 : Int} {i1 : Int} {k : Nat} {r : Option Bool × Bool × Nat × List V × Option Bool × Bool × Nat × List V × Option Bool × Bool × Nat × List V} (h : F73 k o0 b0 n0 x0 i0 i1 = some r) :
    callP (evalFn Try.prog Try.cfg (k + 6)) 73 [V.sl o0 b0 n0 x0, V.agg [V.int .u64 i0, V.int .u64 i1]] = some (V.tup [V.sl r.1 r.2.1 r.2.2.1 r.2.2.2.1, V.sl r.2.2.2.2.1 r.2.2.2.2.2.1 r.2.2.2.2.2.2.1 r.2.2.2.2.2.2.2.1, V.sl r.2.2.2.2.2.2.2.2.1 r.2.2.2.2.2.2.2.2.2.1 r.2.2.2.2.2.2.2.2.2.2.1 r.2.2.2.2.2.2.2.2.2.2.2]) := by
  unfold F73 at h
  obtain ⟨ee, e0, h⟩ := Option.bind_eq_some_iff.1 h
  cases ee with
  | e0 i2 x1 x2 x3 =>
    have h := Option.some.inj h; subst h; exact P73_0 i0 i1 i2 b0 x0 x1 x2 x3 o0 n0 k (L73_1_ok e0)
end Go.Proofs
