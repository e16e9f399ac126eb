/-
  What functions of rings answer, as functions on numbers and lists, each checked against the program.
-/
import Derived.Test.YtpnpneffbkdomaaBase3
import Derived.Test.YtpnpneffbkdomaaSymPath2
set_option linter.unusedVariables false
set_option maxHeartbeats 0
set_option maxRecDepth 100000
namespace Go.Proofs
open Go Go.Sym

theorem P45_0 (i0 : Int) (i1 : Int) (b0 : Bool) (x0 : List V) (o0 : Option Bool) (n0 : Nat) (k : Nat)
    (c0 : SlcP true 1 (V.sl o0 b0 n0 x0) none (some (V.int IntKind.i64 (if 70 < (↑x0.length : Int) then 70 else (↑x0.length : Int)))) none (V.sl o0 false n0 (List.take (if 70 < (↑x0.length : Int) then 70 else (↑x0.length : Int)).toNat x0))) :
    callP (evalFn Try.prog Try.cfg (k + 3)) 45 [V.agg [V.sl o0 b0 n0 x0, V.int IntKind.i64 i0, V.int IntKind.i64 i1]] = some (V.agg [V.sl o0 false n0 (List.take (if 70 < (↑x0.length : Int) then 70 else (↑x0.length : Int)).toNat x0), V.int IntKind.i64 i0, V.int IntKind.i64 i1]) :=
  byF (k := k) (d := 3) [Hn.op 9 (V.sl o0 false n0 (List.take (if 70 < (↑x0.length : Int) then 70 else (↑x0.length : Int)).toNat x0)) []] (And.intro c0 trivial) (by kernel_rfl)
def F45 (k : Nat) (o0 : Option Bool) (b0 : Bool) (n0 : Nat) (x0 : List V) (i0 : Int) (i1 : Int) : Option (Option Bool × Bool × Nat × List V × Int × Int) :=
  (guardP (n0 = 1) (guardP ((0 ≤ if 70 < (↑x0.length : Int) then 70 else (↑x0.length : Int)) ∧ (if 70 < (↑x0.length : Int) then 70 else (↑x0.length : Int)) ≤ (↑x0.length : Int)) (some ((o0), (false), (n0), (List.take (if 70 < (↑x0.length : Int) then 70 else (↑x0.length : Int)).toNat x0), (i0), (i1)))))
theorem F45_ok {o0 : Option Bool} {b0 : Bool} {n0 : Nat} {x0 : List V} {i0 : Int} {i1 : Int} {k : Nat} {r : Option Bool × Bool × Nat × List V × Int × Int} (h : F45 k o0 b0 n0 x0 i0 i1 = some r) :
    callP (evalFn Try.prog Try.cfg (k + 3)) 45 [V.agg [V.sl o0 b0 n0 x0, V.int IntKind.i64 i0, V.int IntKind.i64 i1]] = some (V.agg [V.sl r.1 r.2.1 r.2.2.1 r.2.2.2.1, V.int IntKind.i64 r.2.2.2.2.1, V.int IntKind.i64 r.2.2.2.2.2]) := by
  unfold F45 at h
  obtain ⟨e0, h⟩ := guardP_some.1 h
  obtain ⟨e1, h⟩ := guardP_some.1 h
  have h := Option.some.inj h; subst h; exact P45_0 i0 i1 b0 x0 o0 n0 k (SlcP.uptoS e1 e0)
theorem P46_0 (i0 : Int) (k : Nat)
    (c0 : decide (i0 < 1) = true) :
    callP (evalFn Try.prog Try.cfg (k + 3)) 46 [V.int IntKind.i64 i0] = some (V.tup [V.agg [V.sl (some true) true 0 [], V.int IntKind.i64 0, V.int IntKind.i64 0], V.int IntKind.i64 4]) :=
  byF (k := k) (d := 3) [Hn.br 6 true] (And.intro c0 trivial) (by kernel_rfl)
theorem P46_1 (i0 : Int) (k : Nat)
    (c0 : decide (i0 < 1) = false)
    (c1 : decide (64 < i0) = true) :
    callP (evalFn Try.prog Try.cfg (k + 3)) 46 [V.int IntKind.i64 i0] = some (V.tup [V.agg [V.sl (some true) true 0 [], V.int IntKind.i64 0, V.int IntKind.i64 0], V.int IntKind.i64 4]) :=
  byF (k := k) (d := 3) [Hn.br 6 false, Hn.br 9 true] (And.intro c0 (And.intro c1 trivial)) (by kernel_rfl)
theorem P46_2 (i0 : Int) (k : Nat)
    (c0 : decide (i0 < 1) = false)
    (c1 : decide (64 < i0) = false)
    (c2 : GrdW (0 < 1 ∧ 16 ≤ 64 ∧ (V.str []).cells.length = 1 ∧ 0 ≤ i0 ∧ i0 ≤ i0 ∧ i0 ≤ (↑maxLen' : Int)) (V.ref 36) [(36, Ob.row false 1 (List.replicate i0.toNat (V.str [])))]) :
    callP (evalFn Try.prog Try.cfg (k + 3)) 46 [V.int IntKind.i64 i0] = some (V.tup [V.agg [V.sl none false 1 (List.replicate i0.toNat (V.str [])), V.int IntKind.i64 0, V.int IntKind.i64 0], V.int IntKind.i64 0]) :=
  byF (k := k) (d := 3) [Hn.br 6 false, Hn.br 9 false, Hn.op 12 (V.ref 36) [(36, Ob.row false 1 (List.replicate i0.toNat (V.str [])))]] (And.intro c0 (And.intro c1 (And.intro c2 trivial))) (by kernel_rfl)
def F46 (k : Nat) (i0 : Int) : Option (Option Bool × Bool × Nat × List V × Int × Int × Int) :=
  (bif decide (i0 < 1) then (some ((some true), (true), (0), ([]), (0), (0), (4))) else (bif decide (64 < i0) then (some ((some true), (true), (0), ([]), (0), (0), (4))) else (guardP (0 ≤ i0 ∧ i0 ≤ i0 ∧ i0 ≤ (↑maxLen' : Int)) (some ((none), (false), (1), (List.replicate i0.toNat (V.str [])), (0), (0), (0))))))
theorem F46_ok {i0 : Int} {k : Nat} {r : Option Bool × Bool × Nat × List V × Int × Int × Int} (h : F46 k i0 = some r) :
    callP (evalFn Try.prog Try.cfg (k + 3)) 46 [V.int IntKind.i64 i0] = some (V.tup [V.agg [V.sl r.1 r.2.1 r.2.2.1 r.2.2.2.1, V.int IntKind.i64 r.2.2.2.2.1, V.int IntKind.i64 r.2.2.2.2.2.1], V.int IntKind.i64 r.2.2.2.2.2.2]) := by
  unfold F46 at h
  rcases cond_elim h with ⟨e0, h⟩ | ⟨e0, h⟩
  ·
    have h := Option.some.inj h; subst h; exact P46_0 i0 k e0
  ·
    rcases cond_elim h with ⟨e1, h⟩ | ⟨e1, h⟩
    ·
      have h := Option.some.inj h; subst h; exact P46_1 i0 k e0 e1
    ·
      obtain ⟨e2, h⟩ := guardP_some.1 h
      have h := Option.some.inj h; subst h; exact P46_2 i0 k e0 e1 (GrdW.mk ⟨by decide, by decide, rfl, e2⟩)
theorem P80_0 (s0 : List UInt8) (k : Nat) :
    callP (evalFn Try.prog Try.cfg (k + 3)) 80 [V.str s0] = some (V.bool !decide (s0 = [])) :=
  byF (k := k) (d := 3) [] trivial (by kernel_rfl)
def F80 (k : Nat) (s0 : List UInt8) : Option (Bool) :=
  (some (!decide (s0 = [])))
theorem F80_ok {s0 : List UInt8} {k : Nat} {r : Bool} (h : F80 k s0 = some r) :
    callP (evalFn Try.prog Try.cfg (k + 3)) 80 [V.str s0] = some (V.bool r) := by
  unfold F80 at h
  have h := Option.some.inj h; subst h; exact P80_0 s0 k
theorem L47_0_b0 (i0 : Int) (i1 : Int) (b0 : Bool) (x0 : List V) (o0 : Option Bool) (n0 : Nat) (k : Nat)
    (c0 : decide (0 < i1) = false) :
    evalCode Try.prog Try.cfg (evalFn Try.prog Try.cfg (k + 4)) 189 (Try.cfg.fc 87) (k + 4) (loopBody Try.f87 0) { tm := [(0, V.yld 188), (1, V.ptr 172 0), (5, V.int IntKind.i64 i1), (6, V.int IntKind.i64 0)], hp := [(0, Ob.var [V.sl o0 b0 n0 x0, V.int IntKind.i64 i0, V.int IntKind.i64 i1]), (160, Ob.var [V.sl (some true) true 0 []]), (172, Ob.var [V.sl o0 b0 n0 x0, V.int IntKind.i64 i0, V.int IntKind.i64 i1]), (188, Ob.loop LS.ready (Try.cfg.fc 47) (rangeCode Try.f47 0) [(0, V.agg [V.sl o0 b0 n0 x0, V.int IntKind.i64 i0, V.int IntKind.i64 i1]), (1, V.ptr 0 0), (2, V.bool false), (3, V.int IntKind.i64 (↑x0.length : Int)), (4, V.ptr 160 0), (36, V.bool false), (41, V.fn (Fn.func 87) [] [V.ptr 172 0])])], nx := 189 } = some (Exit.exit 0, { tm := [(0, V.yld 188), (1, V.ptr 172 0), (5, V.int IntKind.i64 i1), (6, V.int IntKind.i64 0), (7, V.bool false)], hp := [(0, Ob.var [V.sl o0 b0 n0 x0, V.int IntKind.i64 i0, V.int IntKind.i64 i1]), (160, Ob.var [V.sl (some true) true 0 []]), (172, Ob.var [V.sl o0 b0 n0 x0, V.int IntKind.i64 i0, V.int IntKind.i64 i1]), (188, Ob.loop LS.ready (Try.cfg.fc 47) (rangeCode Try.f47 0) [(0, V.agg [V.sl o0 b0 n0 x0, V.int IntKind.i64 i0, V.int IntKind.i64 i1]), (1, V.ptr 0 0), (2, V.bool false), (3, V.int IntKind.i64 (↑x0.length : Int)), (4, V.ptr 160 0), (36, V.bool false), (41, V.fn (Fn.func 87) [] [V.ptr 172 0])])], nx := 193 }) :=
  byL (k := k) (d := 4) [Hn.br 7 false] (And.intro c0 trivial) (by kernel_rfl)
inductive L47_0_R where
  | e0 
noncomputable def L47_0_end (i0 : Int) (i1 : Int) (b0 : Bool) (x0 : List V) (o0 : Option Bool) (n0 : Nat) : L47_0_R → Exit × St
  | .e0 => (Exit.exit 0, { tm := [(0, V.yld 188), (1, V.ptr 172 0), (5, V.int IntKind.i64 i1), (6, V.int IntKind.i64 0), (7, V.bool false)], hp := [(0, Ob.var [V.sl o0 b0 n0 x0, V.int IntKind.i64 i0, V.int IntKind.i64 i1]), (160, Ob.var [V.sl (some true) true 0 []]), (172, Ob.var [V.sl o0 b0 n0 x0, V.int IntKind.i64 i0, V.int IntKind.i64 i1]), (188, Ob.loop LS.ready (Try.cfg.fc 47) (rangeCode Try.f47 0) [(0, V.agg [V.sl o0 b0 n0 x0, V.int IntKind.i64 i0, V.int IntKind.i64 i1]), (1, V.ptr 0 0), (2, V.bool false), (3, V.int IntKind.i64 (↑x0.length : Int)), (4, V.ptr 160 0), (36, V.bool false), (41, V.fn (Fn.func 87) [] [V.ptr 172 0])])], nx := 193 })
def L47_0 (k : Nat) (i0 : Int) (i1 : Int) (b0 : Bool) (x0 : List V) (o0 : Option Bool) (n0 : Nat) : Nat → Option L47_0_R
  | 0 => none
  | f + 1 => (bif decide (0 < i1) then (guardP ((↑x0.length : Int) ≠ 0) none) else (some (L47_0_R.e0)))
theorem L47_0_ok {i0 : Int} {i1 : Int} {b0 : Bool} {x0 : List V} {o0 : Option Bool} {n0 : Nat} {k : Nat} : ∀ {f : Nat} {r : L47_0_R}, L47_0 k i0 i1 b0 x0 o0 n0 f = some r →
    LoopsN Try.prog Try.cfg (k + 4) 189 Try.f87 (Try.cfg.fc 87) 0 [0, 1, 5, 6] f { tm := [(0, V.yld 188), (1, V.ptr 172 0), (5, V.int IntKind.i64 i1), (6, V.int IntKind.i64 0)], hp := [(0, Ob.var [V.sl o0 b0 n0 x0, V.int IntKind.i64 i0, V.int IntKind.i64 i1]), (160, Ob.var [V.sl (some true) true 0 []]), (172, Ob.var [V.sl o0 b0 n0 x0, V.int IntKind.i64 i0, V.int IntKind.i64 i1]), (188, Ob.loop LS.ready (Try.cfg.fc 47) (rangeCode Try.f47 0) [(0, V.agg [V.sl o0 b0 n0 x0, V.int IntKind.i64 i0, V.int IntKind.i64 i1]), (1, V.ptr 0 0), (2, V.bool false), (3, V.int IntKind.i64 (↑x0.length : Int)), (4, V.ptr 160 0), (36, V.bool false), (41, V.fn (Fn.func 87) [] [V.ptr 172 0])])], nx := 189 } (L47_0_end i0 i1 b0 x0 o0 n0 r) := by
  intro f
  induction f with
  | zero => intro r h; cases h
  | succ f ih =>
    intro r h
    rw [L47_0] at h
    rcases cond_elim h with ⟨e0, h⟩ | ⟨e0, h⟩
    ·
      obtain ⟨e1, h⟩ := guardP_some.1 h
      cases h
    ·
      cases h; exact LoopsN.done (L47_0_b0 i0 i1 b0 x0 o0 n0 k e0) (fun h => by cases h)
theorem L47_1_b0  (k : Nat) :
    evalCode Try.prog Try.cfg (evalFn Try.prog Try.cfg (k + 3)) 0 (Try.cfg.fc 84) (k + 3) (loopBody Try.f84 0) { tm := [(0, V.sl (some true) true 0 []), (1, V.fn (Fn.func 80) [] []), (4, V.int IntKind.i64 0), (7, V.int IntKind.i64 0), (8, V.int IntKind.i64 0)], hp := [], nx := 0 } = some (Exit.exit 0, { tm := [(0, V.sl (some true) true 0 []), (1, V.fn (Fn.func 80) [] []), (4, V.int IntKind.i64 0), (7, V.int IntKind.i64 0), (8, V.int IntKind.i64 0), (9, V.bool false)], hp := [], nx := 4 }) :=
  byL (k := k) (d := 3) [] trivial (by kernel_rfl)
inductive L47_1_R where
  | e0 
noncomputable def L47_1_end : L47_1_R → Exit × St
  | .e0 => (Exit.exit 0, { tm := [(0, V.sl (some true) true 0 []), (1, V.fn (Fn.func 80) [] []), (4, V.int IntKind.i64 0), (7, V.int IntKind.i64 0), (8, V.int IntKind.i64 0), (9, V.bool false)], hp := [], nx := 4 })
def L47_1 (k : Nat) : Nat → Option L47_1_R
  | 0 => none
  | f + 1 => (some (L47_1_R.e0))
theorem L47_1_ok {k : Nat} : ∀ {f : Nat} {r : L47_1_R}, L47_1 k f = some r →
    LoopsN Try.prog Try.cfg (k + 3) 0 Try.f84 (Try.cfg.fc 84) 0 [0, 1, 4, 7, 8] f { tm := [(0, V.sl (some true) true 0 []), (1, V.fn (Fn.func 80) [] []), (4, V.int IntKind.i64 0), (7, V.int IntKind.i64 0), (8, V.int IntKind.i64 0)], hp := [], nx := 0 } (L47_1_end r) := by
  intro f
  induction f with
  | zero => intro r h; cases h
  | succ f ih =>
    intro r h
    rw [L47_1] at h
    cases h; exact LoopsN.done (L47_1_b0 k) (fun h => by cases h)
theorem L47_2_b0 (i0 : Int) (i1 : Int) (i2 : Int) (b0 : Bool) (x0 : List V) (x1 : List V) (o0 : Option Bool) (n0 : Nat) (k : Nat)
    (c0 : decide (i2 < i1) = true)
    (c1 : GrdP (IntKind.i64 = IntKind.i64 ∧ (↑x0.length : Int) ≠ 0) (V.int IntKind.i64 ((IntKind.i64.wrap (i0 + i2)).tmod (↑x0.length : Int))))
    (c2 : IdxR x1.length ((IntKind.i64.wrap (i0 + i2)).tmod (↑x0.length : Int)) 1 1 (V.ept 201 ((IntKind.i64.wrap (i0 + i2)).tmod (↑x0.length : Int)).toNat 0))
    (c3 : GrdW (false = false ∧ (rid (V.str [])).contains 201 = false ∧ ((IntKind.i64.wrap (i0 + i2)).tmod (↑x0.length : Int)).toNat < x1.length) (V.tup []) [(201, Ob.row false 1 (x1.set ((IntKind.i64.wrap (i0 + i2)).tmod (↑x0.length : Int)).toNat (V.str [])))]) :
    evalCode Try.prog Try.cfg (evalFn Try.prog Try.cfg (k + 4)) 201 (Try.cfg.fc 87) (k + 4) (loopBody Try.f87 0) { tm := [(0, V.yld 200), (1, V.ptr 184 0), (5, V.int IntKind.i64 i1), (6, V.int IntKind.i64 i2)], hp := [(0, Ob.var [V.sl o0 b0 n0 x0, V.int IntKind.i64 i0, V.int IntKind.i64 i1]), (156, Ob.dead), (172, Ob.var [V.ref 201]), (184, Ob.var [V.sl o0 b0 n0 x0, V.int IntKind.i64 i0, V.int IntKind.i64 i1]), (200, Ob.loop LS.ready (Try.cfg.fc 47) (rangeCode Try.f47 0) [(0, V.agg [V.sl o0 b0 n0 x0, V.int IntKind.i64 i0, V.int IntKind.i64 i1]), (1, V.ptr 0 0), (2, V.bool false), (3, V.int IntKind.i64 (↑x0.length : Int)), (4, V.ptr 172 0), (36, V.bool false), (41, V.fn (Fn.func 87) [] [V.ptr 184 0])]), (201, Ob.row false 1 x1)], nx := 202 } = some (Exit.normal, { tm := [(0, V.yld 200), (1, V.ptr 184 0), (3, V.int IntKind.i64 i2), (5, V.int IntKind.i64 i1), (6, V.int IntKind.i64 (IntKind.i64.wrap (i2 + 1))), (7, V.bool true), (19, V.bool false)], hp := [(0, Ob.var [V.sl o0 b0 n0 x0, V.int IntKind.i64 i0, V.int IntKind.i64 i1]), (156, Ob.dead), (172, Ob.var [V.ref 201]), (184, Ob.var [V.sl o0 b0 n0 x0, V.int IntKind.i64 i0, V.int IntKind.i64 i1]), (200, Ob.loop LS.ready (Try.cfg.fc 47) (rangeCode Try.f47 0) [(0, V.agg [V.sl o0 b0 n0 x0, V.int IntKind.i64 i0, V.int IntKind.i64 i1]), (1, V.ptr 0 0), (2, V.bool false), (3, V.int IntKind.i64 (↑x0.length : Int)), (4, V.ptr 172 0), (36, V.bool false), (41, V.fn (Fn.func 87) [] [V.ptr 184 0])]), (201, Ob.row false 1 (x1.set ((IntKind.i64.wrap (i0 + i2)).tmod (↑x0.length : Int)).toNat (V.str [])))], nx := 282 }) :=
  byL (k := k) (d := 4) [Hn.br 7 true, Hn.op 17 (V.int IntKind.i64 ((IntKind.i64.wrap (i0 + i2)).tmod (↑x0.length : Int))) [], Hn.enter, Hn.op 45 (V.ept 201 ((IntKind.i64.wrap (i0 + i2)).tmod (↑x0.length : Int)).toNat 0) [], Hn.wr 266 (V.tup []) [(201, Ob.row false 1 (x1.set ((IntKind.i64.wrap (i0 + i2)).tmod (↑x0.length : Int)).toNat (V.str [])))]] (And.intro c0 (And.intro c1 (And.intro c2 (And.intro c3 trivial)))) (by kernel_rfl)
theorem L47_2_b0h (i0 : Int) (i1 : Int) (i2 : Int) (b0 : Bool) (x0 : List V) (x1 : List V) (o0 : Option Bool) (n0 : Nat) : head 201 [0, 1, 5, 6] (Try.cfg.fc 87).acc { tm := [(0, V.yld 200), (1, V.ptr 184 0), (3, V.int IntKind.i64 i2), (5, V.int IntKind.i64 i1), (6, V.int IntKind.i64 (IntKind.i64.wrap (i2 + 1))), (7, V.bool true), (19, V.bool false)], hp := [(0, Ob.var [V.sl o0 b0 n0 x0, V.int IntKind.i64 i0, V.int IntKind.i64 i1]), (156, Ob.dead), (172, Ob.var [V.ref 201]), (184, Ob.var [V.sl o0 b0 n0 x0, V.int IntKind.i64 i0, V.int IntKind.i64 i1]), (200, Ob.loop LS.ready (Try.cfg.fc 47) (rangeCode Try.f47 0) [(0, V.agg [V.sl o0 b0 n0 x0, V.int IntKind.i64 i0, V.int IntKind.i64 i1]), (1, V.ptr 0 0), (2, V.bool false), (3, V.int IntKind.i64 (↑x0.length : Int)), (4, V.ptr 172 0), (36, V.bool false), (41, V.fn (Fn.func 87) [] [V.ptr 184 0])]), (201, Ob.row false 1 (x1.set ((IntKind.i64.wrap (i0 + i2)).tmod (↑x0.length : Int)).toNat (V.str [])))], nx := 282 } = { tm := [(0, V.yld 200), (1, V.ptr 184 0), (5, V.int IntKind.i64 i1), (6, V.int IntKind.i64 (IntKind.i64.wrap (i2 + 1)))], hp := [(0, Ob.var [V.sl o0 b0 n0 x0, V.int IntKind.i64 i0, V.int IntKind.i64 i1]), (156, Ob.dead), (172, Ob.var [V.ref 201]), (184, Ob.var [V.sl o0 b0 n0 x0, V.int IntKind.i64 i0, V.int IntKind.i64 i1]), (200, Ob.loop LS.ready (Try.cfg.fc 47) (rangeCode Try.f47 0) [(0, V.agg [V.sl o0 b0 n0 x0, V.int IntKind.i64 i0, V.int IntKind.i64 i1]), (1, V.ptr 0 0), (2, V.bool false), (3, V.int IntKind.i64 (↑x0.length : Int)), (4, V.ptr 172 0), (36, V.bool false), (41, V.fn (Fn.func 87) [] [V.ptr 184 0])]), (201, Ob.row false 1 (x1.set ((IntKind.i64.wrap (i0 + i2)).tmod (↑x0.length : Int)).toNat (V.str [])))], nx := 202 } := by kernel_rfl
theorem L47_2_b1 (i0 : Int) (i1 : Int) (i2 : Int) (b0 : Bool) (x0 : List V) (x1 : List V) (o0 : Option Bool) (n0 : Nat) (k : Nat)
    (c0 : decide (i2 < i1) = false) :
    evalCode Try.prog Try.cfg (evalFn Try.prog Try.cfg (k + 4)) 201 (Try.cfg.fc 87) (k + 4) (loopBody Try.f87 0) { tm := [(0, V.yld 200), (1, V.ptr 184 0), (5, V.int IntKind.i64 i1), (6, V.int IntKind.i64 i2)], hp := [(0, Ob.var [V.sl o0 b0 n0 x0, V.int IntKind.i64 i0, V.int IntKind.i64 i1]), (156, Ob.dead), (172, Ob.var [V.ref 201]), (184, Ob.var [V.sl o0 b0 n0 x0, V.int IntKind.i64 i0, V.int IntKind.i64 i1]), (200, Ob.loop LS.ready (Try.cfg.fc 47) (rangeCode Try.f47 0) [(0, V.agg [V.sl o0 b0 n0 x0, V.int IntKind.i64 i0, V.int IntKind.i64 i1]), (1, V.ptr 0 0), (2, V.bool false), (3, V.int IntKind.i64 (↑x0.length : Int)), (4, V.ptr 172 0), (36, V.bool false), (41, V.fn (Fn.func 87) [] [V.ptr 184 0])]), (201, Ob.row false 1 x1)], nx := 202 } = some (Exit.exit 0, { tm := [(0, V.yld 200), (1, V.ptr 184 0), (5, V.int IntKind.i64 i1), (6, V.int IntKind.i64 i2), (7, V.bool false)], hp := [(0, Ob.var [V.sl o0 b0 n0 x0, V.int IntKind.i64 i0, V.int IntKind.i64 i1]), (156, Ob.dead), (172, Ob.var [V.ref 201]), (184, Ob.var [V.sl o0 b0 n0 x0, V.int IntKind.i64 i0, V.int IntKind.i64 i1]), (200, Ob.loop LS.ready (Try.cfg.fc 47) (rangeCode Try.f47 0) [(0, V.agg [V.sl o0 b0 n0 x0, V.int IntKind.i64 i0, V.int IntKind.i64 i1]), (1, V.ptr 0 0), (2, V.bool false), (3, V.int IntKind.i64 (↑x0.length : Int)), (4, V.ptr 172 0), (36, V.bool false), (41, V.fn (Fn.func 87) [] [V.ptr 184 0])]), (201, Ob.row false 1 x1)], nx := 206 }) :=
  byL (k := k) (d := 4) [Hn.br 7 false] (And.intro c0 trivial) (by kernel_rfl)
inductive L47_2_R where
  | e0 (i2 : Int) (x1 : List V)
noncomputable def L47_2_end (i0 : Int) (i1 : Int) (b0 : Bool) (x0 : List V) (o0 : Option Bool) (n0 : Nat) : L47_2_R → Exit × St
  | .e0 i2 x1 => (Exit.exit 0, { tm := [(0, V.yld 200), (1, V.ptr 184 0), (5, V.int IntKind.i64 i1), (6, V.int IntKind.i64 i2), (7, V.bool false)], hp := [(0, Ob.var [V.sl o0 b0 n0 x0, V.int IntKind.i64 i0, V.int IntKind.i64 i1]), (156, Ob.dead), (172, Ob.var [V.ref 201]), (184, Ob.var [V.sl o0 b0 n0 x0, V.int IntKind.i64 i0, V.int IntKind.i64 i1]), (200, Ob.loop LS.ready (Try.cfg.fc 47) (rangeCode Try.f47 0) [(0, V.agg [V.sl o0 b0 n0 x0, V.int IntKind.i64 i0, V.int IntKind.i64 i1]), (1, V.ptr 0 0), (2, V.bool false), (3, V.int IntKind.i64 (↑x0.length : Int)), (4, V.ptr 172 0), (36, V.bool false), (41, V.fn (Fn.func 87) [] [V.ptr 184 0])]), (201, Ob.row false 1 x1)], nx := 206 })
def L47_2 (k : Nat) (i0 : Int) (i1 : Int) (b0 : Bool) (x0 : List V) (o0 : Option Bool) (n0 : Nat) : Nat → Int → List V → Option L47_2_R
  | 0, _, _ => none
  | f + 1, i2, x1 => (bif decide (i2 < i1) then (guardP ((↑x0.length : Int) ≠ 0) (guardP (0 ≤ (IntKind.i64.wrap (i0 + i2)).tmod (↑x0.length : Int) ∧ (IntKind.i64.wrap (i0 + i2)).tmod (↑x0.length : Int) < (↑x1.length : Int)) (guardP (((IntKind.i64.wrap (i0 + i2)).tmod (↑x0.length : Int)).toNat < x1.length) (L47_2 k i0 i1 b0 x0 o0 n0 f (IntKind.i64.wrap (i2 + 1)) (x1.set ((IntKind.i64.wrap (i0 + i2)).tmod (↑x0.length : Int)).toNat (V.str [])))))) else (some (L47_2_R.e0 i2 x1)))
theorem L47_2_ok {i0 : Int} {i1 : Int} {b0 : Bool} {x0 : List V} {o0 : Option Bool} {n0 : Nat} {k : Nat} : ∀ {f : Nat} {i2 : Int} {x1 : List V} {r : L47_2_R}, L47_2 k i0 i1 b0 x0 o0 n0 f i2 x1 = some r →
    LoopsN Try.prog Try.cfg (k + 4) 201 Try.f87 (Try.cfg.fc 87) 0 [0, 1, 5, 6] f { tm := [(0, V.yld 200), (1, V.ptr 184 0), (5, V.int IntKind.i64 i1), (6, V.int IntKind.i64 i2)], hp := [(0, Ob.var [V.sl o0 b0 n0 x0, V.int IntKind.i64 i0, V.int IntKind.i64 i1]), (156, Ob.dead), (172, Ob.var [V.ref 201]), (184, Ob.var [V.sl o0 b0 n0 x0, V.int IntKind.i64 i0, V.int IntKind.i64 i1]), (200, Ob.loop LS.ready (Try.cfg.fc 47) (rangeCode Try.f47 0) [(0, V.agg [V.sl o0 b0 n0 x0, V.int IntKind.i64 i0, V.int IntKind.i64 i1]), (1, V.ptr 0 0), (2, V.bool false), (3, V.int IntKind.i64 (↑x0.length : Int)), (4, V.ptr 172 0), (36, V.bool false), (41, V.fn (Fn.func 87) [] [V.ptr 184 0])]), (201, Ob.row false 1 x1)], nx := 202 } (L47_2_end i0 i1 b0 x0 o0 n0 r) := by
  intro f
  induction f with
  | zero => intro i2 x1 r h; cases h
  | succ f ih =>
    intro i2 x1 r h
    rw [L47_2] at h
    rcases cond_elim h with ⟨e0, h⟩ | ⟨e0, h⟩
    ·
      obtain ⟨e1, h⟩ := guardP_some.1 h
      obtain ⟨e2, h⟩ := guardP_some.1 h
      obtain ⟨e3, h⟩ := guardP_some.1 h
      exact LoopsN.next (L47_2_b0 i0 i1 i2 b0 x0 x1 o0 n0 k e0 (GrdP.mk ⟨rfl, e1⟩) (IdxR.mk' e2 rfl) (GrdW.mk ⟨rfl, rfl, e3⟩)) (L47_2_b0h i0 i1 i2 b0 x0 x1 o0 n0) (ih h)
    ·
      cases h; exact LoopsN.done (L47_2_b1 i0 i1 i2 b0 x0 x1 o0 n0 k e0) (fun h => by cases h)
theorem L47_3_b0 (i3 : Int) (s0 : List UInt8) (x1 : List V) (k : Nat)
    (c0 : decide (i3 < (↑x1.length : Int)) = true)
    (c1 : IdxP x1 i3 1 1 (V.str s0))
    (c2 : callP (evalFn Try.prog Try.cfg (k + 3)) 80 [V.str s0] = some (V.bool true)) :
    evalCode Try.prog Try.cfg (evalFn Try.prog Try.cfg (k + 3)) 0 (Try.cfg.fc 84) (k + 3) (loopBody Try.f84 0) { tm := [(0, V.sl none false 1 x1), (1, V.fn (Fn.func 80) [] []), (4, V.int IntKind.i64 0), (7, V.int IntKind.i64 (↑x1.length : Int)), (8, V.int IntKind.i64 i3)], hp := [], nx := 0 } = some (Exit.ret, { tm := [(0, V.sl none false 1 x1), (1, V.fn (Fn.func 80) [] []), (4, V.int IntKind.i64 i3), (5, V.int IntKind.i64 i3), (7, V.int IntKind.i64 (↑x1.length : Int)), (8, V.int IntKind.i64 i3), (9, V.bool true), (16, V.bool true)], hp := [], nx := 44 }) :=
  byL (k := k) (d := 3) [Hn.br 9 true, Hn.op 14 ((V.str s0).cpt 0) [], Hn.call 16 (V.bool true)] (And.intro c0 (And.intro c1 (And.intro c2 trivial))) (by kernel_rfl)
theorem L47_3_b1 (i3 : Int) (s0 : List UInt8) (x1 : List V) (k : Nat)
    (c0 : decide (i3 < (↑x1.length : Int)) = true)
    (c1 : IdxP x1 i3 1 1 (V.str s0))
    (c2 : callP (evalFn Try.prog Try.cfg (k + 3)) 80 [V.str s0] = some (V.bool false)) :
    evalCode Try.prog Try.cfg (evalFn Try.prog Try.cfg (k + 3)) 0 (Try.cfg.fc 84) (k + 3) (loopBody Try.f84 0) { tm := [(0, V.sl none false 1 x1), (1, V.fn (Fn.func 80) [] []), (4, V.int IntKind.i64 0), (7, V.int IntKind.i64 (↑x1.length : Int)), (8, V.int IntKind.i64 i3)], hp := [], nx := 0 } = some (Exit.normal, { tm := [(0, V.sl none false 1 x1), (1, V.fn (Fn.func 80) [] []), (4, V.int IntKind.i64 0), (5, V.int IntKind.i64 i3), (7, V.int IntKind.i64 (↑x1.length : Int)), (8, V.int IntKind.i64 (IntKind.i64.wrap (i3 + 1))), (9, V.bool true), (16, V.bool false)], hp := [], nx := 44 }) :=
  byL (k := k) (d := 3) [Hn.br 9 true, Hn.op 14 ((V.str s0).cpt 0) [], Hn.call 16 (V.bool false)] (And.intro c0 (And.intro c1 (And.intro c2 trivial))) (by kernel_rfl)
theorem L47_3_b1h (i3 : Int) (x1 : List V) : head 0 [0, 1, 4, 7, 8] (Try.cfg.fc 84).acc { tm := [(0, V.sl none false 1 x1), (1, V.fn (Fn.func 80) [] []), (4, V.int IntKind.i64 0), (5, V.int IntKind.i64 i3), (7, V.int IntKind.i64 (↑x1.length : Int)), (8, V.int IntKind.i64 (IntKind.i64.wrap (i3 + 1))), (9, V.bool true), (16, V.bool false)], hp := [], nx := 44 } = { tm := [(0, V.sl none false 1 x1), (1, V.fn (Fn.func 80) [] []), (4, V.int IntKind.i64 0), (7, V.int IntKind.i64 (↑x1.length : Int)), (8, V.int IntKind.i64 (IntKind.i64.wrap (i3 + 1)))], hp := [], nx := 0 } := by kernel_rfl
theorem L47_3_b2 (i3 : Int) (x1 : List V) (k : Nat)
    (c0 : decide (i3 < (↑x1.length : Int)) = false) :
    evalCode Try.prog Try.cfg (evalFn Try.prog Try.cfg (k + 3)) 0 (Try.cfg.fc 84) (k + 3) (loopBody Try.f84 0) { tm := [(0, V.sl none false 1 x1), (1, V.fn (Fn.func 80) [] []), (4, V.int IntKind.i64 0), (7, V.int IntKind.i64 (↑x1.length : Int)), (8, V.int IntKind.i64 i3)], hp := [], nx := 0 } = some (Exit.exit 0, { tm := [(0, V.sl none false 1 x1), (1, V.fn (Fn.func 80) [] []), (4, V.int IntKind.i64 0), (7, V.int IntKind.i64 (↑x1.length : Int)), (8, V.int IntKind.i64 i3), (9, V.bool false)], hp := [], nx := 4 }) :=
  byL (k := k) (d := 3) [Hn.br 9 false] (And.intro c0 trivial) (by kernel_rfl)
inductive L47_3_R where
  | e0 (i3 : Int)
  | e1 (i3 : Int)
noncomputable def L47_3_end (x1 : List V) : L47_3_R → Exit × St
  | .e0 i3 => (Exit.ret, { tm := [(0, V.sl none false 1 x1), (1, V.fn (Fn.func 80) [] []), (4, V.int IntKind.i64 i3), (5, V.int IntKind.i64 i3), (7, V.int IntKind.i64 (↑x1.length : Int)), (8, V.int IntKind.i64 i3), (9, V.bool true), (16, V.bool true)], hp := [], nx := 44 })
  | .e1 i3 => (Exit.exit 0, { tm := [(0, V.sl none false 1 x1), (1, V.fn (Fn.func 80) [] []), (4, V.int IntKind.i64 0), (7, V.int IntKind.i64 (↑x1.length : Int)), (8, V.int IntKind.i64 i3), (9, V.bool false)], hp := [], nx := 4 })
def L47_3 (k : Nat) (x1 : List V) : Nat → Int → Option L47_3_R
  | 0, _ => none
  | f + 1, i3 => (bif decide (i3 < (↑x1.length : Int)) then (((at? (x1) (i3)).bind dS).bind fun s0 => ((F80 (k + 0) (s0)).bind fun b2 => (bif b2 then (some (L47_3_R.e0 i3)) else (L47_3 k x1 f (IntKind.i64.wrap (i3 + 1)))))) else (some (L47_3_R.e1 i3)))
theorem L47_3_ok {x1 : List V} {k : Nat} : ∀ {f : Nat} {i3 : Int} {r : L47_3_R}, L47_3 k x1 f i3 = some r →
    LoopsN Try.prog Try.cfg (k + 3) 0 Try.f84 (Try.cfg.fc 84) 0 [0, 1, 4, 7, 8] f { tm := [(0, V.sl none false 1 x1), (1, V.fn (Fn.func 80) [] []), (4, V.int IntKind.i64 0), (7, V.int IntKind.i64 (↑x1.length : Int)), (8, V.int IntKind.i64 i3)], hp := [], nx := 0 } (L47_3_end x1 r) := by
  intro f
  induction f with
  | zero => intro i3 r h; cases h
  | succ f ih =>
    intro i3 r h
    rw [L47_3] at h
    rcases cond_elim h with ⟨e0, h⟩ | ⟨e0, h⟩
    ·
      obtain ⟨s0, e1, h⟩ := Option.bind_eq_some_iff.1 h
      obtain ⟨b2, e2, h⟩ := Option.bind_eq_some_iff.1 h
      rcases cond_elim h with ⟨e3, h⟩ | ⟨e3, h⟩
      ·
        cases h; exact LoopsN.done (L47_3_b0 i3 s0 x1 k e0 (IdxP.of_at' (at_d dS_ok e1) rfl) ((F80_ok e2).trans (by rw [e3]))) (fun h => by cases h)
      ·
        exact LoopsN.next (L47_3_b1 i3 s0 x1 k e0 (IdxP.of_at' (at_d dS_ok e1) rfl) ((F80_ok e2).trans (by rw [e3]))) (L47_3_b1h i3 x1) (ih h)
    ·
      cases h; exact LoopsN.done (L47_3_b2 i3 x1 k e0) (fun h => by cases h)
theorem P47_0 (i0 : Int) (i1 : Int) (b0 : Bool) (x0 : List V) (o0 : Option Bool) (n0 : Nat) (k : Nat)
    (c0 : decide ((↑x0.length : Int) < 1) = true) :
    callP (evalFn Try.prog Try.cfg (k + 6)) 47 [V.agg [V.sl o0 b0 n0 x0, V.int IntKind.i64 i0, V.int IntKind.i64 i1]] = some (V.bool false) :=
  byF (k := k) (d := 6) [Hn.br 11 true] (And.intro c0 trivial) (by kernel_rfl)
theorem P47_1 (i0 : Int) (i1 : Int) (b0 : Bool) (x0 : List V) (o0 : Option Bool) (n0 : Nat) (k : Nat)
    (c0 : decide ((↑x0.length : Int) < 1) = false)
    (c1 : decide (64 < (↑x0.length : Int)) = true) :
    callP (evalFn Try.prog Try.cfg (k + 6)) 47 [V.agg [V.sl o0 b0 n0 x0, V.int IntKind.i64 i0, V.int IntKind.i64 i1]] = some (V.bool false) :=
  byF (k := k) (d := 6) [Hn.br 11 false, Hn.br 15 true] (And.intro c0 (And.intro c1 trivial)) (by kernel_rfl)
theorem P47_2 (i0 : Int) (i1 : Int) (b0 : Bool) (x0 : List V) (o0 : Option Bool) (n0 : Nat) (k : Nat)
    (c0 : decide ((↑x0.length : Int) < 1) = false)
    (c1 : decide (64 < (↑x0.length : Int)) = false)
    (c2 : decide (i0 < 0) = true) :
    callP (evalFn Try.prog Try.cfg (k + 6)) 47 [V.agg [V.sl o0 b0 n0 x0, V.int IntKind.i64 i0, V.int IntKind.i64 i1]] = some (V.bool false) :=
  byF (k := k) (d := 6) [Hn.br 11 false, Hn.br 15 false, Hn.br 20 true] (And.intro c0 (And.intro c1 (And.intro c2 trivial))) (by kernel_rfl)
theorem P47_3 (i0 : Int) (i1 : Int) (b0 : Bool) (x0 : List V) (o0 : Option Bool) (n0 : Nat) (k : Nat)
    (c0 : decide ((↑x0.length : Int) < 1) = false)
    (c1 : decide (64 < (↑x0.length : Int)) = false)
    (c2 : decide (i0 < 0) = false)
    (c3 : decide ((↑x0.length : Int) ≤ i0) = true) :
    callP (evalFn Try.prog Try.cfg (k + 6)) 47 [V.agg [V.sl o0 b0 n0 x0, V.int IntKind.i64 i0, V.int IntKind.i64 i1]] = some (V.bool false) :=
  byF (k := k) (d := 6) [Hn.br 11 false, Hn.br 15 false, Hn.br 20 false, Hn.br 26 true] (And.intro c0 (And.intro c1 (And.intro c2 (And.intro c3 trivial)))) (by kernel_rfl)
theorem P47_4 (i0 : Int) (i1 : Int) (b0 : Bool) (x0 : List V) (o0 : Option Bool) (n0 : Nat) (k : Nat)
    (c0 : decide ((↑x0.length : Int) < 1) = false)
    (c1 : decide (64 < (↑x0.length : Int)) = false)
    (c2 : decide (i0 < 0) = false)
    (c3 : decide ((↑x0.length : Int) ≤ i0) = false)
    (c4 : decide (i1 < 0) = true) :
    callP (evalFn Try.prog Try.cfg (k + 6)) 47 [V.agg [V.sl o0 b0 n0 x0, V.int IntKind.i64 i0, V.int IntKind.i64 i1]] = some (V.bool false) :=
  byF (k := k) (d := 6) [Hn.br 11 false, Hn.br 15 false, Hn.br 20 false, Hn.br 26 false, Hn.br 31 true] (And.intro c0 (And.intro c1 (And.intro c2 (And.intro c3 (And.intro c4 trivial))))) (by kernel_rfl)
theorem P47_5 (i0 : Int) (i1 : Int) (b0 : Bool) (x0 : List V) (o0 : Option Bool) (n0 : Nat) (k : Nat)
    (c0 : decide ((↑x0.length : Int) < 1) = false)
    (c1 : decide (64 < (↑x0.length : Int)) = false)
    (c2 : decide (i0 < 0) = false)
    (c3 : decide ((↑x0.length : Int) ≤ i0) = false)
    (c4 : decide (i1 < 0) = false)
    (c5 : decide ((↑x0.length : Int) < i1) = true) :
    callP (evalFn Try.prog Try.cfg (k + 6)) 47 [V.agg [V.sl o0 b0 n0 x0, V.int IntKind.i64 i0, V.int IntKind.i64 i1]] = some (V.bool false) :=
  byF (k := k) (d := 6) [Hn.br 11 false, Hn.br 15 false, Hn.br 20 false, Hn.br 26 false, Hn.br 31 false, Hn.br 36 true] (And.intro c0 (And.intro c1 (And.intro c2 (And.intro c3 (And.intro c4 (And.intro c5 trivial)))))) (by kernel_rfl)
theorem P47_6 (i0 : Int) (i1 : Int) (b0 : Bool) (x0 : List V) (o0 : Option Bool) (n0 : Nat) (k : Nat)
    (c0 : decide ((↑x0.length : Int) < 1) = false)
    (c1 : decide (64 < (↑x0.length : Int)) = false)
    (c2 : decide (i0 < 0) = false)
    (c3 : decide ((↑x0.length : Int) ≤ i0) = false)
    (c4 : decide (i1 < 0) = false)
    (c5 : decide ((↑x0.length : Int) < i1) = false)
    (c6 : NilP o0 x0 false true)
    (c7 : LoopsN Try.prog Try.cfg (k + 4) 189 Try.f87 (Try.cfg.fc 87) 0 [0, 1, 5, 6] (k + 4) { tm := [(0, V.yld 188), (1, V.ptr 172 0), (5, V.int IntKind.i64 i1), (6, V.int IntKind.i64 0)], hp := [(0, Ob.var [V.sl o0 b0 n0 x0, V.int IntKind.i64 i0, V.int IntKind.i64 i1]), (160, Ob.var [V.sl (some true) true 0 []]), (172, Ob.var [V.sl o0 b0 n0 x0, V.int IntKind.i64 i0, V.int IntKind.i64 i1]), (188, Ob.loop LS.ready (Try.cfg.fc 47) (rangeCode Try.f47 0) [(0, V.agg [V.sl o0 b0 n0 x0, V.int IntKind.i64 i0, V.int IntKind.i64 i1]), (1, V.ptr 0 0), (2, V.bool false), (3, V.int IntKind.i64 (↑x0.length : Int)), (4, V.ptr 160 0), (36, V.bool false), (41, V.fn (Fn.func 87) [] [V.ptr 172 0])])], nx := 189 } (Exit.exit 0, { tm := [(0, V.yld 188), (1, V.ptr 172 0), (5, V.int IntKind.i64 i1), (6, V.int IntKind.i64 0), (7, V.bool false)], hp := [(0, Ob.var [V.sl o0 b0 n0 x0, V.int IntKind.i64 i0, V.int IntKind.i64 i1]), (160, Ob.var [V.sl (some true) true 0 []]), (172, Ob.var [V.sl o0 b0 n0 x0, V.int IntKind.i64 i0, V.int IntKind.i64 i1]), (188, Ob.loop LS.ready (Try.cfg.fc 47) (rangeCode Try.f47 0) [(0, V.agg [V.sl o0 b0 n0 x0, V.int IntKind.i64 i0, V.int IntKind.i64 i1]), (1, V.ptr 0 0), (2, V.bool false), (3, V.int IntKind.i64 (↑x0.length : Int)), (4, V.ptr 160 0), (36, V.bool false), (41, V.fn (Fn.func 87) [] [V.ptr 172 0])])], nx := 193 }))
    (c8 : LoopsN Try.prog Try.cfg (k + 3) 0 Try.f84 (Try.cfg.fc 84) 0 [0, 1, 4, 7, 8] (k + 3) { tm := [(0, V.sl (some true) true 0 []), (1, V.fn (Fn.func 80) [] []), (4, V.int IntKind.i64 0), (7, V.int IntKind.i64 0), (8, V.int IntKind.i64 0)], hp := [], nx := 0 } (Exit.exit 0, { tm := [(0, V.sl (some true) true 0 []), (1, V.fn (Fn.func 80) [] []), (4, V.int IntKind.i64 0), (7, V.int IntKind.i64 0), (8, V.int IntKind.i64 0), (9, V.bool false)], hp := [], nx := 4 })) :
    callP (evalFn Try.prog Try.cfg (k + 6)) 47 [V.agg [V.sl o0 b0 n0 x0, V.int IntKind.i64 i0, V.int IntKind.i64 i1]] = some (V.bool true) :=
  byF (k := k) (d := 6) [Hn.br 11 false, Hn.br 15 false, Hn.br 20 false, Hn.br 26 false, Hn.br 31 false, Hn.br 36 false, Hn.enter, Hn.op 4 (V.bool true) [], Hn.enter, Hn.enter, Hn.loop (Exit.exit 0, { tm := [(0, V.yld 188), (1, V.ptr 172 0), (5, V.int IntKind.i64 i1), (6, V.int IntKind.i64 0), (7, V.bool false)], hp := [(0, Ob.var [V.sl o0 b0 n0 x0, V.int IntKind.i64 i0, V.int IntKind.i64 i1]), (160, Ob.var [V.sl (some true) true 0 []]), (172, Ob.var [V.sl o0 b0 n0 x0, V.int IntKind.i64 i0, V.int IntKind.i64 i1]), (188, Ob.loop LS.ready (Try.cfg.fc 47) (rangeCode Try.f47 0) [(0, V.agg [V.sl o0 b0 n0 x0, V.int IntKind.i64 i0, V.int IntKind.i64 i1]), (1, V.ptr 0 0), (2, V.bool false), (3, V.int IntKind.i64 (↑x0.length : Int)), (4, V.ptr 160 0), (36, V.bool false), (41, V.fn (Fn.func 87) [] [V.ptr 172 0])])], nx := 193 }), Hn.enter, Hn.enter, Hn.loop (Exit.exit 0, { tm := [(0, V.sl (some true) true 0 []), (1, V.fn (Fn.func 80) [] []), (4, V.int IntKind.i64 0), (7, V.int IntKind.i64 0), (8, V.int IntKind.i64 0), (9, V.bool false)], hp := [], nx := 4 })] (And.intro c0 (And.intro c1 (And.intro c2 (And.intro c3 (And.intro c4 (And.intro c5 (And.intro c6 (And.intro c7 (And.intro c8 trivial))))))))) (by kernel_rfl)
theorem P47_7 (i0 : Int) (i1 : Int) (i2 : Int) (i3 : Int) (b0 : Bool) (x0 : List V) (x1 : List V) (o0 : Option Bool) (n0 : Nat) (k : Nat)
    (c0 : decide ((↑x0.length : Int) < 1) = false)
    (c1 : decide (64 < (↑x0.length : Int)) = false)
    (c2 : decide (i0 < 0) = false)
    (c3 : decide ((↑x0.length : Int) ≤ i0) = false)
    (c4 : decide (i1 < 0) = false)
    (c5 : decide ((↑x0.length : Int) < i1) = false)
    (c6 : NilP o0 x0 false false)
    (c7 : GrdV (n0 = 1 ∨ x0.isEmpty = true) (1 = 1 ∧ 0 < 1 ∧ 16 ≤ 64 ∧ 0 + x0.length ≤ maxLen') (V.ref 164) [(156, Ob.dead), (164, Ob.row false 1 x0)])
    (c8 : LoopsN Try.prog Try.cfg (k + 4) 201 Try.f87 (Try.cfg.fc 87) 0 [0, 1, 5, 6] (k + 4) { tm := [(0, V.yld 200), (1, V.ptr 184 0), (5, V.int IntKind.i64 i1), (6, V.int IntKind.i64 0)], hp := [(0, Ob.var [V.sl o0 b0 n0 x0, V.int IntKind.i64 i0, V.int IntKind.i64 i1]), (156, Ob.dead), (172, Ob.var [V.ref 201]), (184, Ob.var [V.sl o0 b0 n0 x0, V.int IntKind.i64 i0, V.int IntKind.i64 i1]), (200, Ob.loop LS.ready (Try.cfg.fc 47) (rangeCode Try.f47 0) [(0, V.agg [V.sl o0 b0 n0 x0, V.int IntKind.i64 i0, V.int IntKind.i64 i1]), (1, V.ptr 0 0), (2, V.bool false), (3, V.int IntKind.i64 (↑x0.length : Int)), (4, V.ptr 172 0), (36, V.bool false), (41, V.fn (Fn.func 87) [] [V.ptr 184 0])]), (201, Ob.row false 1 x0)], nx := 202 } (Exit.exit 0, { tm := [(0, V.yld 200), (1, V.ptr 184 0), (5, V.int IntKind.i64 i1), (6, V.int IntKind.i64 i2), (7, V.bool false)], hp := [(0, Ob.var [V.sl o0 b0 n0 x0, V.int IntKind.i64 i0, V.int IntKind.i64 i1]), (156, Ob.dead), (172, Ob.var [V.ref 201]), (184, Ob.var [V.sl o0 b0 n0 x0, V.int IntKind.i64 i0, V.int IntKind.i64 i1]), (200, Ob.loop LS.ready (Try.cfg.fc 47) (rangeCode Try.f47 0) [(0, V.agg [V.sl o0 b0 n0 x0, V.int IntKind.i64 i0, V.int IntKind.i64 i1]), (1, V.ptr 0 0), (2, V.bool false), (3, V.int IntKind.i64 (↑x0.length : Int)), (4, V.ptr 172 0), (36, V.bool false), (41, V.fn (Fn.func 87) [] [V.ptr 184 0])]), (201, Ob.row false 1 x1)], nx := 206 }))
    (c9 : LoopsN Try.prog Try.cfg (k + 3) 0 Try.f84 (Try.cfg.fc 84) 0 [0, 1, 4, 7, 8] (k + 3) { tm := [(0, V.sl none false 1 x1), (1, V.fn (Fn.func 80) [] []), (4, V.int IntKind.i64 0), (7, V.int IntKind.i64 (↑x1.length : Int)), (8, V.int IntKind.i64 0)], hp := [], nx := 0 } (Exit.exit 0, { tm := [(0, V.sl none false 1 x1), (1, V.fn (Fn.func 80) [] []), (4, V.int IntKind.i64 0), (7, V.int IntKind.i64 (↑x1.length : Int)), (8, V.int IntKind.i64 i3), (9, V.bool false)], hp := [], nx := 4 })) :
    callP (evalFn Try.prog Try.cfg (k + 6)) 47 [V.agg [V.sl o0 b0 n0 x0, V.int IntKind.i64 i0, V.int IntKind.i64 i1]] = some (V.bool true) :=
  byF (k := k) (d := 6) [Hn.br 11 false, Hn.br 15 false, Hn.br 20 false, Hn.br 26 false, Hn.br 31 false, Hn.br 36 false, Hn.enter, Hn.op 4 (V.bool false) [], Hn.op 7 (V.ref 164) [(156, Ob.dead), (164, Ob.row false 1 x0)], Hn.enter, Hn.enter, Hn.loop (Exit.exit 0, { tm := [(0, V.yld 200), (1, V.ptr 184 0), (5, V.int IntKind.i64 i1), (6, V.int IntKind.i64 i2), (7, V.bool false)], hp := [(0, Ob.var [V.sl o0 b0 n0 x0, V.int IntKind.i64 i0, V.int IntKind.i64 i1]), (156, Ob.dead), (172, Ob.var [V.ref 201]), (184, Ob.var [V.sl o0 b0 n0 x0, V.int IntKind.i64 i0, V.int IntKind.i64 i1]), (200, Ob.loop LS.ready (Try.cfg.fc 47) (rangeCode Try.f47 0) [(0, V.agg [V.sl o0 b0 n0 x0, V.int IntKind.i64 i0, V.int IntKind.i64 i1]), (1, V.ptr 0 0), (2, V.bool false), (3, V.int IntKind.i64 (↑x0.length : Int)), (4, V.ptr 172 0), (36, V.bool false), (41, V.fn (Fn.func 87) [] [V.ptr 184 0])]), (201, Ob.row false 1 x1)], nx := 206 }), Hn.enter, Hn.enter, Hn.loop (Exit.exit 0, { tm := [(0, V.sl none false 1 x1), (1, V.fn (Fn.func 80) [] []), (4, V.int IntKind.i64 0), (7, V.int IntKind.i64 (↑x1.length : Int)), (8, V.int IntKind.i64 i3), (9, V.bool false)], hp := [], nx := 4 })] (And.intro c0 (And.intro c1 (And.intro c2 (And.intro c3 (And.intro c4 (And.intro c5 (And.intro c6 (And.intro c7 (And.intro c8 (And.intro c9 trivial)))))))))) (by kernel_rfl)
theorem P47_8 (i0 : Int) (i1 : Int) (i2 : Int) (i3 : Int) (b0 : Bool) (x0 : List V) (x1 : List V) (o0 : Option Bool) (n0 : Nat) (k : Nat)
    (c0 : decide ((↑x0.length : Int) < 1) = false)
    (c1 : decide (64 < (↑x0.length : Int)) = false)
    (c2 : decide (i0 < 0) = false)
    (c3 : decide ((↑x0.length : Int) ≤ i0) = false)
    (c4 : decide (i1 < 0) = false)
    (c5 : decide ((↑x0.length : Int) < i1) = false)
    (c6 : NilP o0 x0 false false)
    (c7 : GrdV (n0 = 1 ∨ x0.isEmpty = true) (1 = 1 ∧ 0 < 1 ∧ 16 ≤ 64 ∧ 0 + x0.length ≤ maxLen') (V.ref 164) [(156, Ob.dead), (164, Ob.row false 1 x0)])
    (c8 : LoopsN Try.prog Try.cfg (k + 4) 201 Try.f87 (Try.cfg.fc 87) 0 [0, 1, 5, 6] (k + 4) { tm := [(0, V.yld 200), (1, V.ptr 184 0), (5, V.int IntKind.i64 i1), (6, V.int IntKind.i64 0)], hp := [(0, Ob.var [V.sl o0 b0 n0 x0, V.int IntKind.i64 i0, V.int IntKind.i64 i1]), (156, Ob.dead), (172, Ob.var [V.ref 201]), (184, Ob.var [V.sl o0 b0 n0 x0, V.int IntKind.i64 i0, V.int IntKind.i64 i1]), (200, Ob.loop LS.ready (Try.cfg.fc 47) (rangeCode Try.f47 0) [(0, V.agg [V.sl o0 b0 n0 x0, V.int IntKind.i64 i0, V.int IntKind.i64 i1]), (1, V.ptr 0 0), (2, V.bool false), (3, V.int IntKind.i64 (↑x0.length : Int)), (4, V.ptr 172 0), (36, V.bool false), (41, V.fn (Fn.func 87) [] [V.ptr 184 0])]), (201, Ob.row false 1 x0)], nx := 202 } (Exit.exit 0, { tm := [(0, V.yld 200), (1, V.ptr 184 0), (5, V.int IntKind.i64 i1), (6, V.int IntKind.i64 i2), (7, V.bool false)], hp := [(0, Ob.var [V.sl o0 b0 n0 x0, V.int IntKind.i64 i0, V.int IntKind.i64 i1]), (156, Ob.dead), (172, Ob.var [V.ref 201]), (184, Ob.var [V.sl o0 b0 n0 x0, V.int IntKind.i64 i0, V.int IntKind.i64 i1]), (200, Ob.loop LS.ready (Try.cfg.fc 47) (rangeCode Try.f47 0) [(0, V.agg [V.sl o0 b0 n0 x0, V.int IntKind.i64 i0, V.int IntKind.i64 i1]), (1, V.ptr 0 0), (2, V.bool false), (3, V.int IntKind.i64 (↑x0.length : Int)), (4, V.ptr 172 0), (36, V.bool false), (41, V.fn (Fn.func 87) [] [V.ptr 184 0])]), (201, Ob.row false 1 x1)], nx := 206 }))
    (c9 : LoopsN Try.prog Try.cfg (k + 3) 0 Try.f84 (Try.cfg.fc 84) 0 [0, 1, 4, 7, 8] (k + 3) { tm := [(0, V.sl none false 1 x1), (1, V.fn (Fn.func 80) [] []), (4, V.int IntKind.i64 0), (7, V.int IntKind.i64 (↑x1.length : Int)), (8, V.int IntKind.i64 0)], hp := [], nx := 0 } (Exit.ret, { tm := [(0, V.sl none false 1 x1), (1, V.fn (Fn.func 80) [] []), (4, V.int IntKind.i64 i3), (5, V.int IntKind.i64 i3), (7, V.int IntKind.i64 (↑x1.length : Int)), (8, V.int IntKind.i64 i3), (9, V.bool true), (16, V.bool true)], hp := [], nx := 44 })) :
    callP (evalFn Try.prog Try.cfg (k + 6)) 47 [V.agg [V.sl o0 b0 n0 x0, V.int IntKind.i64 i0, V.int IntKind.i64 i1]] = some (V.bool !decide (0 ≤ i3)) :=
  byF (k := k) (d := 6) [Hn.br 11 false, Hn.br 15 false, Hn.br 20 false, Hn.br 26 false, Hn.br 31 false, Hn.br 36 false, Hn.enter, Hn.op 4 (V.bool false) [], Hn.op 7 (V.ref 164) [(156, Ob.dead), (164, Ob.row false 1 x0)], Hn.enter, Hn.enter, Hn.loop (Exit.exit 0, { tm := [(0, V.yld 200), (1, V.ptr 184 0), (5, V.int IntKind.i64 i1), (6, V.int IntKind.i64 i2), (7, V.bool false)], hp := [(0, Ob.var [V.sl o0 b0 n0 x0, V.int IntKind.i64 i0, V.int IntKind.i64 i1]), (156, Ob.dead), (172, Ob.var [V.ref 201]), (184, Ob.var [V.sl o0 b0 n0 x0, V.int IntKind.i64 i0, V.int IntKind.i64 i1]), (200, Ob.loop LS.ready (Try.cfg.fc 47) (rangeCode Try.f47 0) [(0, V.agg [V.sl o0 b0 n0 x0, V.int IntKind.i64 i0, V.int IntKind.i64 i1]), (1, V.ptr 0 0), (2, V.bool false), (3, V.int IntKind.i64 (↑x0.length : Int)), (4, V.ptr 172 0), (36, V.bool false), (41, V.fn (Fn.func 87) [] [V.ptr 184 0])]), (201, Ob.row false 1 x1)], nx := 206 }), Hn.enter, Hn.enter, Hn.loop (Exit.ret, { tm := [(0, V.sl none false 1 x1), (1, V.fn (Fn.func 80) [] []), (4, V.int IntKind.i64 i3), (5, V.int IntKind.i64 i3), (7, V.int IntKind.i64 (↑x1.length : Int)), (8, V.int IntKind.i64 i3), (9, V.bool true), (16, V.bool true)], hp := [], nx := 44 })] (And.intro c0 (And.intro c1 (And.intro c2 (And.intro c3 (And.intro c4 (And.intro c5 (And.intro c6 (And.intro c7 (And.intro c8 (And.intro c9 trivial)))))))))) (by kernel_rfl)
def F47 (k : Nat) (o0 : Option Bool) (b0 : Bool) (n0 : Nat) (x0 : List V) (i0 : Int) (i1 : Int) : Option (Bool) :=
  (bif decide ((↑x0.length : Int) < 1) then (some (false)) else (bif decide (64 < (↑x0.length : Int)) then (some (false)) else (bif decide (i0 < 0) then (some (false)) else (bif decide ((↑x0.length : Int) ≤ i0) then (some (false)) else (bif decide (i1 < 0) then (some (false)) else (bif decide ((↑x0.length : Int) < i1) then (some (false)) else ((isNil o0 x0).bind fun b1 => (bif b1 then ((L47_0 k i0 i1 b0 x0 o0 n0 (k + 4)).bind fun
    | L47_0_R.e0 => ((L47_1 k (k + 3)).bind fun
    | L47_1_R.e0 => (some (true)))) else (guardP (n0 = 1 ∨ x0.isEmpty = true) (guardP (0 + x0.length ≤ maxLen') ((L47_2 k i0 i1 b0 x0 o0 n0 (k + 4) (0) (x0)).bind fun
    | L47_2_R.e0 i2 x1 => ((L47_3 k x1 (k + 3) (0)).bind fun
    | L47_3_R.e0 i3 => (some (!decide (0 ≤ i3)))
    | L47_3_R.e1 i3 => (some (true))))))))))))))
theorem F47_ok {o0 : Option Bool} {b0 : Bool} {n0 : Nat} {x0 : List V} {i0 : Int} {i1 : Int} {k : Nat} {r : Bool} (h : F47 k o0 b0 n0 x0 i0 i1 = some r) :
    callP (evalFn Try.prog Try.cfg (k + 6)) 47 [V.agg [V.sl o0 b0 n0 x0, V.int IntKind.i64 i0, V.int IntKind.i64 i1]] = some (V.bool r) := by
  unfold F47 at h
  rcases cond_elim h with ⟨e0, h⟩ | ⟨e0, h⟩
  ·
    have h := Option.some.inj h; subst h; exact P47_0 i0 i1 b0 x0 o0 n0 k e0
  ·
    rcases cond_elim h with ⟨e1, h⟩ | ⟨e1, h⟩
    ·
      have h := Option.some.inj h; subst h; exact P47_1 i0 i1 b0 x0 o0 n0 k e0 e1
    ·
      rcases cond_elim h with ⟨e2, h⟩ | ⟨e2, h⟩
      ·
        have h := Option.some.inj h; subst h; exact P47_2 i0 i1 b0 x0 o0 n0 k e0 e1 e2
      ·
        rcases cond_elim h with ⟨e3, h⟩ | ⟨e3, h⟩
        ·
          have h := Option.some.inj h; subst h; exact P47_3 i0 i1 b0 x0 o0 n0 k e0 e1 e2 e3
        ·
          rcases cond_elim h with ⟨e4, h⟩ | ⟨e4, h⟩
          ·
            have h := Option.some.inj h; subst h; exact P47_4 i0 i1 b0 x0 o0 n0 k e0 e1 e2 e3 e4
          ·
            rcases cond_elim h with ⟨e5, h⟩ | ⟨e5, h⟩
            ·
              have h := Option.some.inj h; subst h; exact P47_5 i0 i1 b0 x0 o0 n0 k e0 e1 e2 e3 e4 e5
            ·
              obtain ⟨b1, e6, h⟩ := Option.bind_eq_some_iff.1 h
              rcases cond_elim h with ⟨e7, h⟩ | ⟨e7, h⟩
              ·
                obtain ⟨ee, e8, h⟩ := Option.bind_eq_some_iff.1 h
                cases ee with
                | e0 =>
                  obtain ⟨ee, e9, h⟩ := Option.bind_eq_some_iff.1 h
                  cases ee with
                  | e0 =>
                    have h := Option.some.inj h; subst h; exact P47_6 i0 i1 b0 x0 o0 n0 k e0 e1 e2 e3 e4 e5 ((by have q := NilP.eql e6; rw [e7] at q; exact q)) (L47_0_ok e8) (L47_1_ok e9)
              ·
                obtain ⟨e8, h⟩ := guardP_some.1 h
                obtain ⟨e9, h⟩ := guardP_some.1 h
                obtain ⟨ee, e10, h⟩ := Option.bind_eq_some_iff.1 h
                cases ee with
                | e0 i2 x1 =>
                  obtain ⟨ee, e11, h⟩ := Option.bind_eq_some_iff.1 h
                  cases ee with
                  | e0 i3 =>
                    have h := Option.some.inj h; subst h; exact P47_8 i0 i1 i2 i3 b0 x0 x1 o0 n0 k e0 e1 e2 e3 e4 e5 ((by have q := NilP.eql e6; rw [e7] at q; exact q)) (GrdV.mk e8 ⟨rfl, by decide, by decide, e9⟩) (L47_2_ok e10) (L47_3_ok e11)
                  | e1 i3 =>
                    have h := Option.some.inj h; subst h; exact P47_7 i0 i1 i2 i3 b0 x0 x1 o0 n0 k e0 e1 e2 e3 e4 e5 ((by have q := NilP.eql e6; rw [e7] at q; exact q)) (GrdV.mk e8 ⟨rfl, by decide, by decide, e9⟩) (L47_2_ok e10) (L47_3_ok e11)
theorem P81_0 (i0 : Int) (i1 : Int) (i2 : Int) (b0 : Bool) (x0 : List V) (o0 : Option Bool) (n0 : Nat) (k : Nat)
    (c0 : GrdP (IntKind.i64 = IntKind.i64 ∧ (↑x0.length : Int) ≠ 0) (V.int IntKind.i64 ((IntKind.i64.wrap (IntKind.i64.wrap (i2 - i0) + (↑x0.length : Int))).tmod (↑x0.length : Int)))) :
    callP (evalFn Try.prog Try.cfg (k + 3)) 81 [V.agg [V.sl o0 b0 n0 x0, V.int IntKind.i64 i0, V.int IntKind.i64 i1], V.int IntKind.i64 i2] = some (V.int IntKind.i64 ((IntKind.i64.wrap (IntKind.i64.wrap (i2 - i0) + (↑x0.length : Int))).tmod (↑x0.length : Int))) :=
  byF (k := k) (d := 3) [Hn.op 16 (V.int IntKind.i64 ((IntKind.i64.wrap (IntKind.i64.wrap (i2 - i0) + (↑x0.length : Int))).tmod (↑x0.length : Int))) []] (And.intro c0 trivial) (by kernel_rfl)
def F81 (k : Nat) (o0 : Option Bool) (b0 : Bool) (n0 : Nat) (x0 : List V) (i0 : Int) (i1 : Int) (i2 : Int) : Option (Int) :=
  (guardP ((↑x0.length : Int) ≠ 0) (some ((IntKind.i64.wrap (IntKind.i64.wrap (i2 - i0) + (↑x0.length : Int))).tmod (↑x0.length : Int))))
theorem F81_ok {o0 : Option Bool} {b0 : Bool} {n0 : Nat} {x0 : List V} {i0 : Int} {i1 : Int} {i2 : Int} {k : Nat} {r : Int} (h : F81 k o0 b0 n0 x0 i0 i1 i2 = some r) :
    callP (evalFn Try.prog Try.cfg (k + 3)) 81 [V.agg [V.sl o0 b0 n0 x0, V.int IntKind.i64 i0, V.int IntKind.i64 i1], V.int IntKind.i64 i2] = some (V.int IntKind.i64 r) := by
  unfold F81 at h
  obtain ⟨e0, h⟩ := guardP_some.1 h
  have h := Option.some.inj h; subst h; exact P81_0 i0 i1 i2 b0 x0 o0 n0 k (GrdP.mk ⟨rfl, e0⟩)
theorem L48_4_b0 (i0 : Int) (i1 : Int) (i2 : Int) (i3 : Int) (b0 : Bool) (s0 : List UInt8) (x0 : List V) (o0 : Option Bool) (n0 : Nat) (k : Nat)
    (c0 : decide (i2 < (↑x0.length : Int)) = true)
    (c1 : IdxP x0 i2 n0 1 (V.str s0))
    (c2 : (!decide (s0 = [])) = true)
    (c3 : callP (evalFn Try.prog Try.cfg (k + 5)) 81 [V.agg [V.sl o0 b0 n0 x0, V.int IntKind.i64 i0, V.int IntKind.i64 i1], V.int IntKind.i64 i2] = some (V.int IntKind.i64 i3))
    (c4 : decide (i1 ≤ i3) = true) :
    evalCode Try.prog Try.cfg (evalFn Try.prog Try.cfg (k + 5)) 0 (Try.cfg.fc 48) (k + 5) (loopBody Try.f48 0) { tm := [(0, V.agg [V.sl o0 b0 n0 x0, V.int IntKind.i64 i0, V.int IntKind.i64 i1]), (1, V.ptr 0 0), (2, V.bool false), (3, V.int IntKind.i64 (↑x0.length : Int)), (36, V.bool false), (38, V.sl o0 b0 n0 x0), (39, V.int IntKind.i64 (↑x0.length : Int)), (40, V.int IntKind.i64 i2)], hp := [(0, Ob.var [V.sl o0 b0 n0 x0, V.int IntKind.i64 i0, V.int IntKind.i64 i1])], nx := 1 } = some (Exit.ret, { tm := [(0, V.agg [V.sl o0 b0 n0 x0, V.int IntKind.i64 i0, V.int IntKind.i64 i1]), (1, V.ptr 0 0), (2, V.bool false), (3, V.int IntKind.i64 (↑x0.length : Int)), (4, V.int IntKind.i64 i2), (5, V.str s0), (36, V.bool false), (38, V.sl o0 b0 n0 x0), (39, V.int IntKind.i64 (↑x0.length : Int)), (40, V.int IntKind.i64 i2), (41, V.bool true), (54, V.bool true)], hp := [(0, Ob.var [V.sl o0 b0 n0 x0, V.int IntKind.i64 i0, V.int IntKind.i64 i1])], nx := 69 }) :=
  byL (k := k) (d := 5) [Hn.br 41 true, Hn.op 43 ((V.str s0).cpt 0) [], Hn.br 47 true, Hn.call 50 (V.int IntKind.i64 i3), Hn.br 54 true] (And.intro c0 (And.intro c1 (And.intro c2 (And.intro c3 (And.intro c4 trivial))))) (by kernel_rfl)
theorem L48_4_b1 (i0 : Int) (i1 : Int) (i2 : Int) (i3 : Int) (b0 : Bool) (s0 : List UInt8) (x0 : List V) (o0 : Option Bool) (n0 : Nat) (k : Nat)
    (c0 : decide (i2 < (↑x0.length : Int)) = true)
    (c1 : IdxP x0 i2 n0 1 (V.str s0))
    (c2 : (!decide (s0 = [])) = true)
    (c3 : callP (evalFn Try.prog Try.cfg (k + 5)) 81 [V.agg [V.sl o0 b0 n0 x0, V.int IntKind.i64 i0, V.int IntKind.i64 i1], V.int IntKind.i64 i2] = some (V.int IntKind.i64 i3))
    (c4 : decide (i1 ≤ i3) = false) :
    evalCode Try.prog Try.cfg (evalFn Try.prog Try.cfg (k + 5)) 0 (Try.cfg.fc 48) (k + 5) (loopBody Try.f48 0) { tm := [(0, V.agg [V.sl o0 b0 n0 x0, V.int IntKind.i64 i0, V.int IntKind.i64 i1]), (1, V.ptr 0 0), (2, V.bool false), (3, V.int IntKind.i64 (↑x0.length : Int)), (36, V.bool false), (38, V.sl o0 b0 n0 x0), (39, V.int IntKind.i64 (↑x0.length : Int)), (40, V.int IntKind.i64 i2)], hp := [(0, Ob.var [V.sl o0 b0 n0 x0, V.int IntKind.i64 i0, V.int IntKind.i64 i1])], nx := 1 } = some (Exit.normal, { tm := [(0, V.agg [V.sl o0 b0 n0 x0, V.int IntKind.i64 i0, V.int IntKind.i64 i1]), (1, V.ptr 0 0), (2, V.bool false), (3, V.int IntKind.i64 (↑x0.length : Int)), (4, V.int IntKind.i64 i2), (5, V.str s0), (36, V.bool false), (38, V.sl o0 b0 n0 x0), (39, V.int IntKind.i64 (↑x0.length : Int)), (40, V.int IntKind.i64 (IntKind.i64.wrap (i2 + 1))), (41, V.bool true), (54, V.bool false)], hp := [(0, Ob.var [V.sl o0 b0 n0 x0, V.int IntKind.i64 i0, V.int IntKind.i64 i1])], nx := 73 }) :=
  byL (k := k) (d := 5) [Hn.br 41 true, Hn.op 43 ((V.str s0).cpt 0) [], Hn.br 47 true, Hn.call 50 (V.int IntKind.i64 i3), Hn.br 54 false] (And.intro c0 (And.intro c1 (And.intro c2 (And.intro c3 (And.intro c4 trivial))))) (by kernel_rfl)
theorem L48_4_b1h (i0 : Int) (i1 : Int) (i2 : Int) (b0 : Bool) (s0 : List UInt8) (x0 : List V) (o0 : Option Bool) (n0 : Nat) : head 0 [0, 1, 2, 3, 36, 38, 39, 40] (Try.cfg.fc 48).acc { tm := [(0, V.agg [V.sl o0 b0 n0 x0, V.int IntKind.i64 i0, V.int IntKind.i64 i1]), (1, V.ptr 0 0), (2, V.bool false), (3, V.int IntKind.i64 (↑x0.length : Int)), (4, V.int IntKind.i64 i2), (5, V.str s0), (36, V.bool false), (38, V.sl o0 b0 n0 x0), (39, V.int IntKind.i64 (↑x0.length : Int)), (40, V.int IntKind.i64 (IntKind.i64.wrap (i2 + 1))), (41, V.bool true), (54, V.bool false)], hp := [(0, Ob.var [V.sl o0 b0 n0 x0, V.int IntKind.i64 i0, V.int IntKind.i64 i1])], nx := 73 } = { tm := [(0, V.agg [V.sl o0 b0 n0 x0, V.int IntKind.i64 i0, V.int IntKind.i64 i1]), (1, V.ptr 0 0), (2, V.bool false), (3, V.int IntKind.i64 (↑x0.length : Int)), (36, V.bool false), (38, V.sl o0 b0 n0 x0), (39, V.int IntKind.i64 (↑x0.length : Int)), (40, V.int IntKind.i64 (IntKind.i64.wrap (i2 + 1)))], hp := [(0, Ob.var [V.sl o0 b0 n0 x0, V.int IntKind.i64 i0, V.int IntKind.i64 i1])], nx := 1 } := by kernel_rfl
theorem L48_4_b2 (i0 : Int) (i1 : Int) (i2 : Int) (b0 : Bool) (s0 : List UInt8) (x0 : List V) (o0 : Option Bool) (n0 : Nat) (k : Nat)
    (c0 : decide (i2 < (↑x0.length : Int)) = true)
    (c1 : IdxP x0 i2 n0 1 (V.str s0))
    (c2 : (!decide (s0 = [])) = false) :
    evalCode Try.prog Try.cfg (evalFn Try.prog Try.cfg (k + 5)) 0 (Try.cfg.fc 48) (k + 5) (loopBody Try.f48 0) { tm := [(0, V.agg [V.sl o0 b0 n0 x0, V.int IntKind.i64 i0, V.int IntKind.i64 i1]), (1, V.ptr 0 0), (2, V.bool false), (3, V.int IntKind.i64 (↑x0.length : Int)), (36, V.bool false), (38, V.sl o0 b0 n0 x0), (39, V.int IntKind.i64 (↑x0.length : Int)), (40, V.int IntKind.i64 i2)], hp := [(0, Ob.var [V.sl o0 b0 n0 x0, V.int IntKind.i64 i0, V.int IntKind.i64 i1])], nx := 1 } = some (Exit.normal, { tm := [(0, V.agg [V.sl o0 b0 n0 x0, V.int IntKind.i64 i0, V.int IntKind.i64 i1]), (1, V.ptr 0 0), (2, V.bool false), (3, V.int IntKind.i64 (↑x0.length : Int)), (4, V.int IntKind.i64 i2), (5, V.str s0), (36, V.bool false), (38, V.sl o0 b0 n0 x0), (39, V.int IntKind.i64 (↑x0.length : Int)), (40, V.int IntKind.i64 (IntKind.i64.wrap (i2 + 1))), (41, V.bool true), (54, V.bool false)], hp := [(0, Ob.var [V.sl o0 b0 n0 x0, V.int IntKind.i64 i0, V.int IntKind.i64 i1])], nx := 73 }) :=
  byL (k := k) (d := 5) [Hn.br 41 true, Hn.op 43 ((V.str s0).cpt 0) [], Hn.br 47 false] (And.intro c0 (And.intro c1 (And.intro c2 trivial))) (by kernel_rfl)
theorem L48_4_b2h (i0 : Int) (i1 : Int) (i2 : Int) (b0 : Bool) (s0 : List UInt8) (x0 : List V) (o0 : Option Bool) (n0 : Nat) : head 0 [0, 1, 2, 3, 36, 38, 39, 40] (Try.cfg.fc 48).acc { tm := [(0, V.agg [V.sl o0 b0 n0 x0, V.int IntKind.i64 i0, V.int IntKind.i64 i1]), (1, V.ptr 0 0), (2, V.bool false), (3, V.int IntKind.i64 (↑x0.length : Int)), (4, V.int IntKind.i64 i2), (5, V.str s0), (36, V.bool false), (38, V.sl o0 b0 n0 x0), (39, V.int IntKind.i64 (↑x0.length : Int)), (40, V.int IntKind.i64 (IntKind.i64.wrap (i2 + 1))), (41, V.bool true), (54, V.bool false)], hp := [(0, Ob.var [V.sl o0 b0 n0 x0, V.int IntKind.i64 i0, V.int IntKind.i64 i1])], nx := 73 } = { tm := [(0, V.agg [V.sl o0 b0 n0 x0, V.int IntKind.i64 i0, V.int IntKind.i64 i1]), (1, V.ptr 0 0), (2, V.bool false), (3, V.int IntKind.i64 (↑x0.length : Int)), (36, V.bool false), (38, V.sl o0 b0 n0 x0), (39, V.int IntKind.i64 (↑x0.length : Int)), (40, V.int IntKind.i64 (IntKind.i64.wrap (i2 + 1)))], hp := [(0, Ob.var [V.sl o0 b0 n0 x0, V.int IntKind.i64 i0, V.int IntKind.i64 i1])], nx := 1 } := by kernel_rfl
theorem L48_4_b3 (i0 : Int) (i1 : Int) (i2 : Int) (b0 : Bool) (x0 : List V) (o0 : Option Bool) (n0 : Nat) (k : Nat)
    (c0 : decide (i2 < (↑x0.length : Int)) = false) :
    evalCode Try.prog Try.cfg (evalFn Try.prog Try.cfg (k + 5)) 0 (Try.cfg.fc 48) (k + 5) (loopBody Try.f48 0) { tm := [(0, V.agg [V.sl o0 b0 n0 x0, V.int IntKind.i64 i0, V.int IntKind.i64 i1]), (1, V.ptr 0 0), (2, V.bool false), (3, V.int IntKind.i64 (↑x0.length : Int)), (36, V.bool false), (38, V.sl o0 b0 n0 x0), (39, V.int IntKind.i64 (↑x0.length : Int)), (40, V.int IntKind.i64 i2)], hp := [(0, Ob.var [V.sl o0 b0 n0 x0, V.int IntKind.i64 i0, V.int IntKind.i64 i1])], nx := 1 } = some (Exit.exit 0, { tm := [(0, V.agg [V.sl o0 b0 n0 x0, V.int IntKind.i64 i0, V.int IntKind.i64 i1]), (1, V.ptr 0 0), (2, V.bool false), (3, V.int IntKind.i64 (↑x0.length : Int)), (36, V.bool false), (38, V.sl o0 b0 n0 x0), (39, V.int IntKind.i64 (↑x0.length : Int)), (40, V.int IntKind.i64 i2), (41, V.bool false)], hp := [(0, Ob.var [V.sl o0 b0 n0 x0, V.int IntKind.i64 i0, V.int IntKind.i64 i1])], nx := 5 }) :=
  byL (k := k) (d := 5) [Hn.br 41 false] (And.intro c0 trivial) (by kernel_rfl)
inductive L48_4_R where
  | e0 (i2 : Int) (s0 : List UInt8)
  | e1 (i2 : Int)
noncomputable def L48_4_end (i0 : Int) (i1 : Int) (b0 : Bool) (x0 : List V) (o0 : Option Bool) (n0 : Nat) : L48_4_R → Exit × St
  | .e0 i2 s0 => (Exit.ret, { tm := [(0, V.agg [V.sl o0 b0 n0 x0, V.int IntKind.i64 i0, V.int IntKind.i64 i1]), (1, V.ptr 0 0), (2, V.bool false), (3, V.int IntKind.i64 (↑x0.length : Int)), (4, V.int IntKind.i64 i2), (5, V.str s0), (36, V.bool false), (38, V.sl o0 b0 n0 x0), (39, V.int IntKind.i64 (↑x0.length : Int)), (40, V.int IntKind.i64 i2), (41, V.bool true), (54, V.bool true)], hp := [(0, Ob.var [V.sl o0 b0 n0 x0, V.int IntKind.i64 i0, V.int IntKind.i64 i1])], nx := 69 })
  | .e1 i2 => (Exit.exit 0, { tm := [(0, V.agg [V.sl o0 b0 n0 x0, V.int IntKind.i64 i0, V.int IntKind.i64 i1]), (1, V.ptr 0 0), (2, V.bool false), (3, V.int IntKind.i64 (↑x0.length : Int)), (36, V.bool false), (38, V.sl o0 b0 n0 x0), (39, V.int IntKind.i64 (↑x0.length : Int)), (40, V.int IntKind.i64 i2), (41, V.bool false)], hp := [(0, Ob.var [V.sl o0 b0 n0 x0, V.int IntKind.i64 i0, V.int IntKind.i64 i1])], nx := 5 })
def L48_4 (k : Nat) (i0 : Int) (i1 : Int) (b0 : Bool) (x0 : List V) (o0 : Option Bool) (n0 : Nat) : Nat → Int → Option L48_4_R
  | 0, _ => none
  | f + 1, i2 => (bif decide (i2 < (↑x0.length : Int)) then (guardP (n0 = 1) (((at? (x0) (i2)).bind dS).bind fun s0 => (bif !decide (s0 = []) then ((F81 (k + 2) (o0) (b0) (n0) (x0) (i0) (i1) (i2)).bind fun i3 => (bif decide (i1 ≤ i3) then (some (L48_4_R.e0 i2 s0)) else (L48_4 k i0 i1 b0 x0 o0 n0 f (IntKind.i64.wrap (i2 + 1))))) else (L48_4 k i0 i1 b0 x0 o0 n0 f (IntKind.i64.wrap (i2 + 1)))))) else (some (L48_4_R.e1 i2)))
theorem L48_4_ok {i0 : Int} {i1 : Int} {b0 : Bool} {x0 : List V} {o0 : Option Bool} {n0 : Nat} {k : Nat} : ∀ {f : Nat} {i2 : Int} {r : L48_4_R}, L48_4 k i0 i1 b0 x0 o0 n0 f i2 = some r →
    LoopsN Try.prog Try.cfg (k + 5) 0 Try.f48 (Try.cfg.fc 48) 0 [0, 1, 2, 3, 36, 38, 39, 40] f { tm := [(0, V.agg [V.sl o0 b0 n0 x0, V.int IntKind.i64 i0, V.int IntKind.i64 i1]), (1, V.ptr 0 0), (2, V.bool false), (3, V.int IntKind.i64 (↑x0.length : Int)), (36, V.bool false), (38, V.sl o0 b0 n0 x0), (39, V.int IntKind.i64 (↑x0.length : Int)), (40, V.int IntKind.i64 i2)], hp := [(0, Ob.var [V.sl o0 b0 n0 x0, V.int IntKind.i64 i0, V.int IntKind.i64 i1])], nx := 1 } (L48_4_end i0 i1 b0 x0 o0 n0 r) := by
  intro f
  induction f with
  | zero => intro i2 r h; cases h
  | succ f ih =>
    intro i2 r h
    rw [L48_4] at h
    rcases cond_elim h with ⟨e0, h⟩ | ⟨e0, h⟩
    ·
      obtain ⟨e1, h⟩ := guardP_some.1 h
      obtain ⟨s0, e2, h⟩ := Option.bind_eq_some_iff.1 h
      rcases cond_elim h with ⟨e3, h⟩ | ⟨e3, h⟩
      ·
        obtain ⟨i3, e4, h⟩ := Option.bind_eq_some_iff.1 h
        rcases cond_elim h with ⟨e5, h⟩ | ⟨e5, h⟩
        ·
          cases h; exact LoopsN.done (L48_4_b0 i0 i1 i2 i3 b0 s0 x0 o0 n0 k e0 (IdxP.of_at' (at_d dS_ok e2) e1) e3 (F81_ok e4) e5) (fun h => by cases h)
        ·
          exact LoopsN.next (L48_4_b1 i0 i1 i2 i3 b0 s0 x0 o0 n0 k e0 (IdxP.of_at' (at_d dS_ok e2) e1) e3 (F81_ok e4) e5) (L48_4_b1h i0 i1 i2 b0 s0 x0 o0 n0) (ih h)
      ·
        exact LoopsN.next (L48_4_b2 i0 i1 i2 b0 s0 x0 o0 n0 k e0 (IdxP.of_at' (at_d dS_ok e2) e1) e3) (L48_4_b2h i0 i1 i2 b0 s0 x0 o0 n0) (ih h)
    ·
      cases h; exact LoopsN.done (L48_4_b3 i0 i1 i2 b0 x0 o0 n0 k e0) (fun h => by cases h)
theorem P48_0 (i0 : Int) (i1 : Int) (b0 : Bool) (x0 : List V) (o0 : Option Bool) (n0 : Nat) (k : Nat)
    (c0 : decide ((↑x0.length : Int) < 1) = true) :
    callP (evalFn Try.prog Try.cfg (k + 6)) 48 [V.agg [V.sl o0 b0 n0 x0, V.int IntKind.i64 i0, V.int IntKind.i64 i1]] = some (V.bool false) :=
  byF (k := k) (d := 6) [Hn.br 11 true] (And.intro c0 trivial) (by kernel_rfl)
theorem P48_1 (i0 : Int) (i1 : Int) (b0 : Bool) (x0 : List V) (o0 : Option Bool) (n0 : Nat) (k : Nat)
    (c0 : decide ((↑x0.length : Int) < 1) = false)
    (c1 : decide (64 < (↑x0.length : Int)) = true) :
    callP (evalFn Try.prog Try.cfg (k + 6)) 48 [V.agg [V.sl o0 b0 n0 x0, V.int IntKind.i64 i0, V.int IntKind.i64 i1]] = some (V.bool false) :=
  byF (k := k) (d := 6) [Hn.br 11 false, Hn.br 15 true] (And.intro c0 (And.intro c1 trivial)) (by kernel_rfl)
theorem P48_2 (i0 : Int) (i1 : Int) (b0 : Bool) (x0 : List V) (o0 : Option Bool) (n0 : Nat) (k : Nat)
    (c0 : decide ((↑x0.length : Int) < 1) = false)
    (c1 : decide (64 < (↑x0.length : Int)) = false)
    (c2 : decide (i0 < 0) = true) :
    callP (evalFn Try.prog Try.cfg (k + 6)) 48 [V.agg [V.sl o0 b0 n0 x0, V.int IntKind.i64 i0, V.int IntKind.i64 i1]] = some (V.bool false) :=
  byF (k := k) (d := 6) [Hn.br 11 false, Hn.br 15 false, Hn.br 20 true] (And.intro c0 (And.intro c1 (And.intro c2 trivial))) (by kernel_rfl)
theorem P48_3 (i0 : Int) (i1 : Int) (b0 : Bool) (x0 : List V) (o0 : Option Bool) (n0 : Nat) (k : Nat)
    (c0 : decide ((↑x0.length : Int) < 1) = false)
    (c1 : decide (64 < (↑x0.length : Int)) = false)
    (c2 : decide (i0 < 0) = false)
    (c3 : decide ((↑x0.length : Int) ≤ i0) = true) :
    callP (evalFn Try.prog Try.cfg (k + 6)) 48 [V.agg [V.sl o0 b0 n0 x0, V.int IntKind.i64 i0, V.int IntKind.i64 i1]] = some (V.bool false) :=
  byF (k := k) (d := 6) [Hn.br 11 false, Hn.br 15 false, Hn.br 20 false, Hn.br 26 true] (And.intro c0 (And.intro c1 (And.intro c2 (And.intro c3 trivial)))) (by kernel_rfl)
theorem P48_4 (i0 : Int) (i1 : Int) (b0 : Bool) (x0 : List V) (o0 : Option Bool) (n0 : Nat) (k : Nat)
    (c0 : decide ((↑x0.length : Int) < 1) = false)
    (c1 : decide (64 < (↑x0.length : Int)) = false)
    (c2 : decide (i0 < 0) = false)
    (c3 : decide ((↑x0.length : Int) ≤ i0) = false)
    (c4 : decide (i1 < 0) = true) :
    callP (evalFn Try.prog Try.cfg (k + 6)) 48 [V.agg [V.sl o0 b0 n0 x0, V.int IntKind.i64 i0, V.int IntKind.i64 i1]] = some (V.bool false) :=
  byF (k := k) (d := 6) [Hn.br 11 false, Hn.br 15 false, Hn.br 20 false, Hn.br 26 false, Hn.br 31 true] (And.intro c0 (And.intro c1 (And.intro c2 (And.intro c3 (And.intro c4 trivial))))) (by kernel_rfl)
theorem P48_5 (i0 : Int) (i1 : Int) (b0 : Bool) (x0 : List V) (o0 : Option Bool) (n0 : Nat) (k : Nat)
    (c0 : decide ((↑x0.length : Int) < 1) = false)
    (c1 : decide (64 < (↑x0.length : Int)) = false)
    (c2 : decide (i0 < 0) = false)
    (c3 : decide ((↑x0.length : Int) ≤ i0) = false)
    (c4 : decide (i1 < 0) = false)
    (c5 : decide ((↑x0.length : Int) < i1) = true) :
    callP (evalFn Try.prog Try.cfg (k + 6)) 48 [V.agg [V.sl o0 b0 n0 x0, V.int IntKind.i64 i0, V.int IntKind.i64 i1]] = some (V.bool false) :=
  byF (k := k) (d := 6) [Hn.br 11 false, Hn.br 15 false, Hn.br 20 false, Hn.br 26 false, Hn.br 31 false, Hn.br 36 true] (And.intro c0 (And.intro c1 (And.intro c2 (And.intro c3 (And.intro c4 (And.intro c5 trivial)))))) (by kernel_rfl)
theorem P48_6 (i0 : Int) (i1 : Int) (i2 : Int) (b0 : Bool) (x0 : List V) (o0 : Option Bool) (n0 : Nat) (k : Nat)
    (c0 : decide ((↑x0.length : Int) < 1) = false)
    (c1 : decide (64 < (↑x0.length : Int)) = false)
    (c2 : decide (i0 < 0) = false)
    (c3 : decide ((↑x0.length : Int) ≤ i0) = false)
    (c4 : decide (i1 < 0) = false)
    (c5 : decide ((↑x0.length : Int) < i1) = false)
    (c6 : LoopsN Try.prog Try.cfg (k + 5) 0 Try.f48 (Try.cfg.fc 48) 0 [0, 1, 2, 3, 36, 38, 39, 40] (k + 5) { tm := [(0, V.agg [V.sl o0 b0 n0 x0, V.int IntKind.i64 i0, V.int IntKind.i64 i1]), (1, V.ptr 0 0), (2, V.bool false), (3, V.int IntKind.i64 (↑x0.length : Int)), (36, V.bool false), (38, V.sl o0 b0 n0 x0), (39, V.int IntKind.i64 (↑x0.length : Int)), (40, V.int IntKind.i64 0)], hp := [(0, Ob.var [V.sl o0 b0 n0 x0, V.int IntKind.i64 i0, V.int IntKind.i64 i1])], nx := 1 } (Exit.exit 0, { tm := [(0, V.agg [V.sl o0 b0 n0 x0, V.int IntKind.i64 i0, V.int IntKind.i64 i1]), (1, V.ptr 0 0), (2, V.bool false), (3, V.int IntKind.i64 (↑x0.length : Int)), (36, V.bool false), (38, V.sl o0 b0 n0 x0), (39, V.int IntKind.i64 (↑x0.length : Int)), (40, V.int IntKind.i64 i2), (41, V.bool false)], hp := [(0, Ob.var [V.sl o0 b0 n0 x0, V.int IntKind.i64 i0, V.int IntKind.i64 i1])], nx := 5 })) :
    callP (evalFn Try.prog Try.cfg (k + 6)) 48 [V.agg [V.sl o0 b0 n0 x0, V.int IntKind.i64 i0, V.int IntKind.i64 i1]] = some (V.bool true) :=
  byF (k := k) (d := 6) [Hn.br 11 false, Hn.br 15 false, Hn.br 20 false, Hn.br 26 false, Hn.br 31 false, Hn.br 36 false, Hn.loop (Exit.exit 0, { tm := [(0, V.agg [V.sl o0 b0 n0 x0, V.int IntKind.i64 i0, V.int IntKind.i64 i1]), (1, V.ptr 0 0), (2, V.bool false), (3, V.int IntKind.i64 (↑x0.length : Int)), (36, V.bool false), (38, V.sl o0 b0 n0 x0), (39, V.int IntKind.i64 (↑x0.length : Int)), (40, V.int IntKind.i64 i2), (41, V.bool false)], hp := [(0, Ob.var [V.sl o0 b0 n0 x0, V.int IntKind.i64 i0, V.int IntKind.i64 i1])], nx := 5 })] (And.intro c0 (And.intro c1 (And.intro c2 (And.intro c3 (And.intro c4 (And.intro c5 (And.intro c6 trivial))))))) (by kernel_rfl)
theorem P48_7 (i0 : Int) (i1 : Int) (i2 : Int) (b0 : Bool) (s0 : List UInt8) (x0 : List V) (o0 : Option Bool) (n0 : Nat) (k : Nat)
    (c0 : decide ((↑x0.length : Int) < 1) = false)
    (c1 : decide (64 < (↑x0.length : Int)) = false)
    (c2 : decide (i0 < 0) = false)
    (c3 : decide ((↑x0.length : Int) ≤ i0) = false)
    (c4 : decide (i1 < 0) = false)
    (c5 : decide ((↑x0.length : Int) < i1) = false)
    (c6 : LoopsN Try.prog Try.cfg (k + 5) 0 Try.f48 (Try.cfg.fc 48) 0 [0, 1, 2, 3, 36, 38, 39, 40] (k + 5) { tm := [(0, V.agg [V.sl o0 b0 n0 x0, V.int IntKind.i64 i0, V.int IntKind.i64 i1]), (1, V.ptr 0 0), (2, V.bool false), (3, V.int IntKind.i64 (↑x0.length : Int)), (36, V.bool false), (38, V.sl o0 b0 n0 x0), (39, V.int IntKind.i64 (↑x0.length : Int)), (40, V.int IntKind.i64 0)], hp := [(0, Ob.var [V.sl o0 b0 n0 x0, V.int IntKind.i64 i0, V.int IntKind.i64 i1])], nx := 1 } (Exit.ret, { tm := [(0, V.agg [V.sl o0 b0 n0 x0, V.int IntKind.i64 i0, V.int IntKind.i64 i1]), (1, V.ptr 0 0), (2, V.bool false), (3, V.int IntKind.i64 (↑x0.length : Int)), (4, V.int IntKind.i64 i2), (5, V.str s0), (36, V.bool false), (38, V.sl o0 b0 n0 x0), (39, V.int IntKind.i64 (↑x0.length : Int)), (40, V.int IntKind.i64 i2), (41, V.bool true), (54, V.bool true)], hp := [(0, Ob.var [V.sl o0 b0 n0 x0, V.int IntKind.i64 i0, V.int IntKind.i64 i1])], nx := 69 })) :
    callP (evalFn Try.prog Try.cfg (k + 6)) 48 [V.agg [V.sl o0 b0 n0 x0, V.int IntKind.i64 i0, V.int IntKind.i64 i1]] = some (V.bool false) :=
  byF (k := k) (d := 6) [Hn.br 11 false, Hn.br 15 false, Hn.br 20 false, Hn.br 26 false, Hn.br 31 false, Hn.br 36 false, Hn.loop (Exit.ret, { tm := [(0, V.agg [V.sl o0 b0 n0 x0, V.int IntKind.i64 i0, V.int IntKind.i64 i1]), (1, V.ptr 0 0), (2, V.bool false), (3, V.int IntKind.i64 (↑x0.length : Int)), (4, V.int IntKind.i64 i2), (5, V.str s0), (36, V.bool false), (38, V.sl o0 b0 n0 x0), (39, V.int IntKind.i64 (↑x0.length : Int)), (40, V.int IntKind.i64 i2), (41, V.bool true), (54, V.bool true)], hp := [(0, Ob.var [V.sl o0 b0 n0 x0, V.int IntKind.i64 i0, V.int IntKind.i64 i1])], nx := 69 })] (And.intro c0 (And.intro c1 (And.intro c2 (And.intro c3 (And.intro c4 (And.intro c5 (And.intro c6 trivial))))))) (by kernel_rfl)
def F48 (k : Nat) (o0 : Option Bool) (b0 : Bool) (n0 : Nat) (x0 : List V) (i0 : Int) (i1 : Int) : Option (Bool) :=
  (bif decide ((↑x0.length : Int) < 1) then (some (false)) else (bif decide (64 < (↑x0.length : Int)) then (some (false)) else (bif decide (i0 < 0) then (some (false)) else (bif decide ((↑x0.length : Int) ≤ i0) then (some (false)) else (bif decide (i1 < 0) then (some (false)) else (bif decide ((↑x0.length : Int) < i1) then (some (false)) else ((L48_4 k i0 i1 b0 x0 o0 n0 (k + 5) (0)).bind fun
    | L48_4_R.e0 i2 s0 => (some (false))
    | L48_4_R.e1 i2 => (some (true)))))))))
theorem F48_ok {o0 : Option Bool} {b0 : Bool} {n0 : Nat} {x0 : List V} {i0 : Int} {i1 : Int} {k : Nat} {r : Bool} (h : F48 k o0 b0 n0 x0 i0 i1 = some r) :
    callP (evalFn Try.prog Try.cfg (k + 6)) 48 [V.agg [V.sl o0 b0 n0 x0, V.int IntKind.i64 i0, V.int IntKind.i64 i1]] = some (V.bool r) := by
  unfold F48 at h
  rcases cond_elim h with ⟨e0, h⟩ | ⟨e0, h⟩
  ·
    have h := Option.some.inj h; subst h; exact P48_0 i0 i1 b0 x0 o0 n0 k e0
  ·
    rcases cond_elim h with ⟨e1, h⟩ | ⟨e1, h⟩
    ·
      have h := Option.some.inj h; subst h; exact P48_1 i0 i1 b0 x0 o0 n0 k e0 e1
    ·
      rcases cond_elim h with ⟨e2, h⟩ | ⟨e2, h⟩
      ·
        have h := Option.some.inj h; subst h; exact P48_2 i0 i1 b0 x0 o0 n0 k e0 e1 e2
      ·
        rcases cond_elim h with ⟨e3, h⟩ | ⟨e3, h⟩
        ·
          have h := Option.some.inj h; subst h; exact P48_3 i0 i1 b0 x0 o0 n0 k e0 e1 e2 e3
        ·
          rcases cond_elim h with ⟨e4, h⟩ | ⟨e4, h⟩
          ·
            have h := Option.some.inj h; subst h; exact P48_4 i0 i1 b0 x0 o0 n0 k e0 e1 e2 e3 e4
          ·
            rcases cond_elim h with ⟨e5, h⟩ | ⟨e5, h⟩
            ·
              have h := Option.some.inj h; subst h; exact P48_5 i0 i1 b0 x0 o0 n0 k e0 e1 e2 e3 e4 e5
            ·
              obtain ⟨ee, e6, h⟩ := Option.bind_eq_some_iff.1 h
              cases ee with
              | e0 i2 s0 =>
                have h := Option.some.inj h; subst h; exact P48_7 i0 i1 i2 b0 s0 x0 o0 n0 k e0 e1 e2 e3 e4 e5 (L48_4_ok e6)
              | e1 i2 =>
                have h := Option.some.inj h; subst h; exact P48_6 i0 i1 i2 b0 x0 o0 n0 k e0 e1 e2 e3 e4 e5 (L48_4_ok e6)
theorem L55_5_b0 (i0 : Int) (b0 : Bool) (b1 : Bool) (s0 : List UInt8) (s1 : List UInt8) (x0 : List V) (x1 : List V) (o0 : Option Bool) (o1 : Option Bool) (n0 : Nat) (n1 : Nat) (k : Nat)
    (c0 : decide (i0 < (↑x0.length : Int)) = true)
    (c1 : IdxP x0 i0 n0 1 (V.str s0))
    (c2 : IdxP x1 i0 n1 1 (V.str s1))
    (c3 : (!decide (s0 = s1)) = true) :
    evalCode Try.prog Try.cfg (evalFn Try.prog Try.cfg (k + 2)) 0 (Try.cfg.fc 55) (k + 2) (loopBody Try.f55 0) { tm := [(0, V.sl o0 b0 n0 x0), (1, V.sl o1 b1 n1 x1), (4, V.bool false), (10, V.bool false), (12, V.int IntKind.i64 (↑x0.length : Int)), (13, V.int IntKind.i64 i0)], hp := [], nx := 0 } = some (Exit.ret, { tm := [(0, V.sl o0 b0 n0 x0), (1, V.sl o1 b1 n1 x1), (4, V.bool false), (5, V.int IntKind.i64 i0), (10, V.bool false), (12, V.int IntKind.i64 (↑x0.length : Int)), (13, V.int IntKind.i64 i0), (14, V.bool true), (24, V.bool true)], hp := [], nx := 52 }) :=
  byL (k := k) (d := 2) [Hn.br 14 true, Hn.op 18 ((V.str s0).cpt 0) [], Hn.op 22 ((V.str s1).cpt 0) [], Hn.br 24 true] (And.intro c0 (And.intro c1 (And.intro c2 (And.intro c3 trivial)))) (by kernel_rfl)
theorem L55_5_b1 (i0 : Int) (b0 : Bool) (b1 : Bool) (s0 : List UInt8) (s1 : List UInt8) (x0 : List V) (x1 : List V) (o0 : Option Bool) (o1 : Option Bool) (n0 : Nat) (n1 : Nat) (k : Nat)
    (c0 : decide (i0 < (↑x0.length : Int)) = true)
    (c1 : IdxP x0 i0 n0 1 (V.str s0))
    (c2 : IdxP x1 i0 n1 1 (V.str s1))
    (c3 : (!decide (s0 = s1)) = false) :
    evalCode Try.prog Try.cfg (evalFn Try.prog Try.cfg (k + 2)) 0 (Try.cfg.fc 55) (k + 2) (loopBody Try.f55 0) { tm := [(0, V.sl o0 b0 n0 x0), (1, V.sl o1 b1 n1 x1), (4, V.bool false), (10, V.bool false), (12, V.int IntKind.i64 (↑x0.length : Int)), (13, V.int IntKind.i64 i0)], hp := [], nx := 0 } = some (Exit.normal, { tm := [(0, V.sl o0 b0 n0 x0), (1, V.sl o1 b1 n1 x1), (4, V.bool false), (5, V.int IntKind.i64 i0), (10, V.bool false), (12, V.int IntKind.i64 (↑x0.length : Int)), (13, V.int IntKind.i64 (IntKind.i64.wrap (i0 + 1))), (14, V.bool true), (24, V.bool false)], hp := [], nx := 56 }) :=
  byL (k := k) (d := 2) [Hn.br 14 true, Hn.op 18 ((V.str s0).cpt 0) [], Hn.op 22 ((V.str s1).cpt 0) [], Hn.br 24 false] (And.intro c0 (And.intro c1 (And.intro c2 (And.intro c3 trivial)))) (by kernel_rfl)
theorem L55_5_b1h (i0 : Int) (b0 : Bool) (b1 : Bool) (x0 : List V) (x1 : List V) (o0 : Option Bool) (o1 : Option Bool) (n0 : Nat) (n1 : Nat) : head 0 [0, 1, 4, 10, 12, 13] (Try.cfg.fc 55).acc { tm := [(0, V.sl o0 b0 n0 x0), (1, V.sl o1 b1 n1 x1), (4, V.bool false), (5, V.int IntKind.i64 i0), (10, V.bool false), (12, V.int IntKind.i64 (↑x0.length : Int)), (13, V.int IntKind.i64 (IntKind.i64.wrap (i0 + 1))), (14, V.bool true), (24, V.bool false)], hp := [], nx := 56 } = { tm := [(0, V.sl o0 b0 n0 x0), (1, V.sl o1 b1 n1 x1), (4, V.bool false), (10, V.bool false), (12, V.int IntKind.i64 (↑x0.length : Int)), (13, V.int IntKind.i64 (IntKind.i64.wrap (i0 + 1)))], hp := [], nx := 0 } := by kernel_rfl
theorem L55_5_b2 (i0 : Int) (b0 : Bool) (b1 : Bool) (x0 : List V) (x1 : List V) (o0 : Option Bool) (o1 : Option Bool) (n0 : Nat) (n1 : Nat) (k : Nat)
    (c0 : decide (i0 < (↑x0.length : Int)) = false) :
    evalCode Try.prog Try.cfg (evalFn Try.prog Try.cfg (k + 2)) 0 (Try.cfg.fc 55) (k + 2) (loopBody Try.f55 0) { tm := [(0, V.sl o0 b0 n0 x0), (1, V.sl o1 b1 n1 x1), (4, V.bool false), (10, V.bool false), (12, V.int IntKind.i64 (↑x0.length : Int)), (13, V.int IntKind.i64 i0)], hp := [], nx := 0 } = some (Exit.exit 0, { tm := [(0, V.sl o0 b0 n0 x0), (1, V.sl o1 b1 n1 x1), (4, V.bool false), (10, V.bool false), (12, V.int IntKind.i64 (↑x0.length : Int)), (13, V.int IntKind.i64 i0), (14, V.bool false)], hp := [], nx := 4 }) :=
  byL (k := k) (d := 2) [Hn.br 14 false] (And.intro c0 trivial) (by kernel_rfl)
inductive L55_5_R where
  | e0 (i0 : Int)
  | e1 (i0 : Int)
noncomputable def L55_5_end (b0 : Bool) (b1 : Bool) (x0 : List V) (x1 : List V) (o0 : Option Bool) (o1 : Option Bool) (n0 : Nat) (n1 : Nat) : L55_5_R → Exit × St
  | .e0 i0 => (Exit.ret, { tm := [(0, V.sl o0 b0 n0 x0), (1, V.sl o1 b1 n1 x1), (4, V.bool false), (5, V.int IntKind.i64 i0), (10, V.bool false), (12, V.int IntKind.i64 (↑x0.length : Int)), (13, V.int IntKind.i64 i0), (14, V.bool true), (24, V.bool true)], hp := [], nx := 52 })
  | .e1 i0 => (Exit.exit 0, { tm := [(0, V.sl o0 b0 n0 x0), (1, V.sl o1 b1 n1 x1), (4, V.bool false), (10, V.bool false), (12, V.int IntKind.i64 (↑x0.length : Int)), (13, V.int IntKind.i64 i0), (14, V.bool false)], hp := [], nx := 4 })
def L55_5 (k : Nat) (b0 : Bool) (b1 : Bool) (x0 : List V) (x1 : List V) (o0 : Option Bool) (o1 : Option Bool) (n0 : Nat) (n1 : Nat) : Nat → Int → Option L55_5_R
  | 0, _ => none
  | f + 1, i0 => (bif decide (i0 < (↑x0.length : Int)) then (guardP (n0 = 1) (((at? (x0) (i0)).bind dS).bind fun s0 => (guardP (n1 = 1) (((at? (x1) (i0)).bind dS).bind fun s1 => (bif !decide (s0 = s1) then (some (L55_5_R.e0 i0)) else (L55_5 k b0 b1 x0 x1 o0 o1 n0 n1 f (IntKind.i64.wrap (i0 + 1)))))))) else (some (L55_5_R.e1 i0)))
theorem L55_5_ok {b0 : Bool} {b1 : Bool} {x0 : List V} {x1 : List V} {o0 : Option Bool} {o1 : Option Bool} {n0 : Nat} {n1 : Nat} {k : Nat} : ∀ {f : Nat} {i0 : Int} {r : L55_5_R}, L55_5 k b0 b1 x0 x1 o0 o1 n0 n1 f i0 = some r →
    LoopsN Try.prog Try.cfg (k + 2) 0 Try.f55 (Try.cfg.fc 55) 0 [0, 1, 4, 10, 12, 13] f { tm := [(0, V.sl o0 b0 n0 x0), (1, V.sl o1 b1 n1 x1), (4, V.bool false), (10, V.bool false), (12, V.int IntKind.i64 (↑x0.length : Int)), (13, V.int IntKind.i64 i0)], hp := [], nx := 0 } (L55_5_end b0 b1 x0 x1 o0 o1 n0 n1 r) := by
  intro f
  induction f with
  | zero => intro i0 r h; cases h
  | succ f ih =>
    intro i0 r h
    rw [L55_5] at h
    rcases cond_elim h with ⟨e0, h⟩ | ⟨e0, h⟩
    ·
      obtain ⟨e1, h⟩ := guardP_some.1 h
      obtain ⟨s0, e2, h⟩ := Option.bind_eq_some_iff.1 h
      obtain ⟨e3, h⟩ := guardP_some.1 h
      obtain ⟨s1, e4, h⟩ := Option.bind_eq_some_iff.1 h
      rcases cond_elim h with ⟨e5, h⟩ | ⟨e5, h⟩
      ·
        cases h; exact LoopsN.done (L55_5_b0 i0 b0 b1 s0 s1 x0 x1 o0 o1 n0 n1 k e0 (IdxP.of_at' (at_d dS_ok e2) e1) (IdxP.of_at' (at_d dS_ok e4) e3) e5) (fun h => by cases h)
      ·
        exact LoopsN.next (L55_5_b1 i0 b0 b1 s0 s1 x0 x1 o0 o1 n0 n1 k e0 (IdxP.of_at' (at_d dS_ok e2) e1) (IdxP.of_at' (at_d dS_ok e4) e3) e5) (L55_5_b1h i0 b0 b1 x0 x1 o0 o1 n0 n1) (ih h)
    ·
      cases h; exact LoopsN.done (L55_5_b2 i0 b0 b1 x0 x1 o0 o1 n0 n1 k e0) (fun h => by cases h)
theorem P55_0 (b0 : Bool) (b1 : Bool) (x0 : List V) (x1 : List V) (o0 : Option Bool) (o1 : Option Bool) (n0 : Nat) (n1 : Nat) (k : Nat)
    (c0 : (!decide ((↑x0.length : Int) = (↑x1.length : Int))) = true) :
    callP (evalFn Try.prog Try.cfg (k + 3)) 55 [V.sl o0 b0 n0 x0, V.sl o1 b1 n1 x1] = some (V.bool false) :=
  byF (k := k) (d := 3) [Hn.br 10 true] (And.intro c0 trivial) (by kernel_rfl)
theorem P55_1 (i0 : Int) (b0 : Bool) (b1 : Bool) (x0 : List V) (x1 : List V) (o0 : Option Bool) (o1 : Option Bool) (n0 : Nat) (n1 : Nat) (k : Nat)
    (c0 : (!decide ((↑x0.length : Int) = (↑x1.length : Int))) = false)
    (c1 : LoopsN Try.prog Try.cfg (k + 2) 0 Try.f55 (Try.cfg.fc 55) 0 [0, 1, 4, 10, 12, 13] (k + 2) { tm := [(0, V.sl o0 b0 n0 x0), (1, V.sl o1 b1 n1 x1), (4, V.bool false), (10, V.bool false), (12, V.int IntKind.i64 (↑x0.length : Int)), (13, V.int IntKind.i64 0)], hp := [], nx := 0 } (Exit.exit 0, { tm := [(0, V.sl o0 b0 n0 x0), (1, V.sl o1 b1 n1 x1), (4, V.bool false), (10, V.bool false), (12, V.int IntKind.i64 (↑x0.length : Int)), (13, V.int IntKind.i64 i0), (14, V.bool false)], hp := [], nx := 4 })) :
    callP (evalFn Try.prog Try.cfg (k + 3)) 55 [V.sl o0 b0 n0 x0, V.sl o1 b1 n1 x1] = some (V.bool true) :=
  byF (k := k) (d := 3) [Hn.br 10 false, Hn.loop (Exit.exit 0, { tm := [(0, V.sl o0 b0 n0 x0), (1, V.sl o1 b1 n1 x1), (4, V.bool false), (10, V.bool false), (12, V.int IntKind.i64 (↑x0.length : Int)), (13, V.int IntKind.i64 i0), (14, V.bool false)], hp := [], nx := 4 })] (And.intro c0 (And.intro c1 trivial)) (by kernel_rfl)
theorem P55_2 (i0 : Int) (b0 : Bool) (b1 : Bool) (x0 : List V) (x1 : List V) (o0 : Option Bool) (o1 : Option Bool) (n0 : Nat) (n1 : Nat) (k : Nat)
    (c0 : (!decide ((↑x0.length : Int) = (↑x1.length : Int))) = false)
    (c1 : LoopsN Try.prog Try.cfg (k + 2) 0 Try.f55 (Try.cfg.fc 55) 0 [0, 1, 4, 10, 12, 13] (k + 2) { tm := [(0, V.sl o0 b0 n0 x0), (1, V.sl o1 b1 n1 x1), (4, V.bool false), (10, V.bool false), (12, V.int IntKind.i64 (↑x0.length : Int)), (13, V.int IntKind.i64 0)], hp := [], nx := 0 } (Exit.ret, { tm := [(0, V.sl o0 b0 n0 x0), (1, V.sl o1 b1 n1 x1), (4, V.bool false), (5, V.int IntKind.i64 i0), (10, V.bool false), (12, V.int IntKind.i64 (↑x0.length : Int)), (13, V.int IntKind.i64 i0), (14, V.bool true), (24, V.bool true)], hp := [], nx := 52 })) :
    callP (evalFn Try.prog Try.cfg (k + 3)) 55 [V.sl o0 b0 n0 x0, V.sl o1 b1 n1 x1] = some (V.bool false) :=
  byF (k := k) (d := 3) [Hn.br 10 false, Hn.loop (Exit.ret, { tm := [(0, V.sl o0 b0 n0 x0), (1, V.sl o1 b1 n1 x1), (4, V.bool false), (5, V.int IntKind.i64 i0), (10, V.bool false), (12, V.int IntKind.i64 (↑x0.length : Int)), (13, V.int IntKind.i64 i0), (14, V.bool true), (24, V.bool true)], hp := [], nx := 52 })] (And.intro c0 (And.intro c1 trivial)) (by kernel_rfl)
def F55 (k : Nat) (o0 : Option Bool) (b0 : Bool) (n0 : Nat) (x0 : List V) (o1 : Option Bool) (b1 : Bool) (n1 : Nat) (x1 : List V) : Option (Bool) :=
  (bif !decide ((↑x0.length : Int) = (↑x1.length : Int)) then (some (false)) else ((L55_5 k b0 b1 x0 x1 o0 o1 n0 n1 (k + 2) (0)).bind fun
    | L55_5_R.e0 i0 => (some (false))
    | L55_5_R.e1 i0 => (some (true))))
theorem F55_ok {o0 : Option Bool} {b0 : Bool} {n0 : Nat} {x0 : List V} {o1 : Option Bool} {b1 : Bool} {n1 : Nat} {x1 : List V} {k : Nat} {r : Bool} (h : F55 k o0 b0 n0 x0 o1 b1 n1 x1 = some r) :
    callP (evalFn Try.prog Try.cfg (k + 3)) 55 [V.sl o0 b0 n0 x0, V.sl o1 b1 n1 x1] = some (V.bool r) := by
  unfold F55 at h
  rcases cond_elim h with ⟨e0, h⟩ | ⟨e0, h⟩
  ·
    have h := Option.some.inj h; subst h; exact P55_0 b0 b1 x0 x1 o0 o1 n0 n1 k e0
  ·
    obtain ⟨ee, e1, h⟩ := Option.bind_eq_some_iff.1 h
    cases ee with
    | e0 i0 =>
      have h := Option.some.inj h; subst h; exact P55_2 i0 b0 b1 x0 x1 o0 o1 n0 n1 k e0 (L55_5_ok e1)
    | e1 i0 =>
      have h := Option.some.inj h; subst h; exact P55_1 i0 b0 b1 x0 x1 o0 o1 n0 n1 k e0 (L55_5_ok e1)
theorem L49_6_b0 (i4 : Int) (b0 : Bool) (b1 : Bool) (s0 : List UInt8) (s1 : List UInt8) (x0 : List V) (x1 : List V) (o0 : Option Bool) (o1 : Option Bool) (n0 : Nat) (n1 : Nat) (k : Nat)
    (c0 : decide (i4 < (↑x0.length : Int)) = true)
    (c1 : IdxP x0 i4 n0 1 (V.str s0))
    (c2 : IdxP x1 i4 n1 1 (V.str s1))
    (c3 : (!decide (s0 = s1)) = true) :
    evalCode Try.prog Try.cfg (evalFn Try.prog Try.cfg (k + 2)) 0 (Try.cfg.fc 66) (k + 2) (loopBody Try.f66 0) { tm := [(0, V.sl o0 b0 n0 x0), (1, V.sl o1 b1 n1 x1), (4, V.bool false), (10, V.bool false), (12, V.int IntKind.i64 (↑x0.length : Int)), (13, V.int IntKind.i64 i4)], hp := [], nx := 0 } = some (Exit.ret, { tm := [(0, V.sl o0 b0 n0 x0), (1, V.sl o1 b1 n1 x1), (4, V.bool false), (5, V.int IntKind.i64 i4), (10, V.bool false), (12, V.int IntKind.i64 (↑x0.length : Int)), (13, V.int IntKind.i64 i4), (14, V.bool true), (24, V.bool true)], hp := [], nx := 52 }) :=
  byL (k := k) (d := 2) [Hn.br 14 true, Hn.op 18 ((V.str s0).cpt 0) [], Hn.op 22 ((V.str s1).cpt 0) [], Hn.br 24 true] (And.intro c0 (And.intro c1 (And.intro c2 (And.intro c3 trivial)))) (by kernel_rfl)
theorem L49_6_b1 (i4 : Int) (b0 : Bool) (b1 : Bool) (s0 : List UInt8) (s1 : List UInt8) (x0 : List V) (x1 : List V) (o0 : Option Bool) (o1 : Option Bool) (n0 : Nat) (n1 : Nat) (k : Nat)
    (c0 : decide (i4 < (↑x0.length : Int)) = true)
    (c1 : IdxP x0 i4 n0 1 (V.str s0))
    (c2 : IdxP x1 i4 n1 1 (V.str s1))
    (c3 : (!decide (s0 = s1)) = false) :
    evalCode Try.prog Try.cfg (evalFn Try.prog Try.cfg (k + 2)) 0 (Try.cfg.fc 66) (k + 2) (loopBody Try.f66 0) { tm := [(0, V.sl o0 b0 n0 x0), (1, V.sl o1 b1 n1 x1), (4, V.bool false), (10, V.bool false), (12, V.int IntKind.i64 (↑x0.length : Int)), (13, V.int IntKind.i64 i4)], hp := [], nx := 0 } = some (Exit.normal, { tm := [(0, V.sl o0 b0 n0 x0), (1, V.sl o1 b1 n1 x1), (4, V.bool false), (5, V.int IntKind.i64 i4), (10, V.bool false), (12, V.int IntKind.i64 (↑x0.length : Int)), (13, V.int IntKind.i64 (IntKind.i64.wrap (i4 + 1))), (14, V.bool true), (24, V.bool false)], hp := [], nx := 56 }) :=
  byL (k := k) (d := 2) [Hn.br 14 true, Hn.op 18 ((V.str s0).cpt 0) [], Hn.op 22 ((V.str s1).cpt 0) [], Hn.br 24 false] (And.intro c0 (And.intro c1 (And.intro c2 (And.intro c3 trivial)))) (by kernel_rfl)
theorem L49_6_b1h (i4 : Int) (b0 : Bool) (b1 : Bool) (x0 : List V) (x1 : List V) (o0 : Option Bool) (o1 : Option Bool) (n0 : Nat) (n1 : Nat) : head 0 [0, 1, 4, 10, 12, 13] (Try.cfg.fc 66).acc { tm := [(0, V.sl o0 b0 n0 x0), (1, V.sl o1 b1 n1 x1), (4, V.bool false), (5, V.int IntKind.i64 i4), (10, V.bool false), (12, V.int IntKind.i64 (↑x0.length : Int)), (13, V.int IntKind.i64 (IntKind.i64.wrap (i4 + 1))), (14, V.bool true), (24, V.bool false)], hp := [], nx := 56 } = { tm := [(0, V.sl o0 b0 n0 x0), (1, V.sl o1 b1 n1 x1), (4, V.bool false), (10, V.bool false), (12, V.int IntKind.i64 (↑x0.length : Int)), (13, V.int IntKind.i64 (IntKind.i64.wrap (i4 + 1)))], hp := [], nx := 0 } := by kernel_rfl
theorem L49_6_b2 (i4 : Int) (b0 : Bool) (b1 : Bool) (x0 : List V) (x1 : List V) (o0 : Option Bool) (o1 : Option Bool) (n0 : Nat) (n1 : Nat) (k : Nat)
    (c0 : decide (i4 < (↑x0.length : Int)) = false) :
    evalCode Try.prog Try.cfg (evalFn Try.prog Try.cfg (k + 2)) 0 (Try.cfg.fc 66) (k + 2) (loopBody Try.f66 0) { tm := [(0, V.sl o0 b0 n0 x0), (1, V.sl o1 b1 n1 x1), (4, V.bool false), (10, V.bool false), (12, V.int IntKind.i64 (↑x0.length : Int)), (13, V.int IntKind.i64 i4)], hp := [], nx := 0 } = some (Exit.exit 0, { tm := [(0, V.sl o0 b0 n0 x0), (1, V.sl o1 b1 n1 x1), (4, V.bool false), (10, V.bool false), (12, V.int IntKind.i64 (↑x0.length : Int)), (13, V.int IntKind.i64 i4), (14, V.bool false)], hp := [], nx := 4 }) :=
  byL (k := k) (d := 2) [Hn.br 14 false] (And.intro c0 trivial) (by kernel_rfl)
inductive L49_6_R where
  | e0 (i4 : Int)
  | e1 (i4 : Int)
noncomputable def L49_6_end (b0 : Bool) (b1 : Bool) (x0 : List V) (x1 : List V) (o0 : Option Bool) (o1 : Option Bool) (n0 : Nat) (n1 : Nat) : L49_6_R → Exit × St
  | .e0 i4 => (Exit.ret, { tm := [(0, V.sl o0 b0 n0 x0), (1, V.sl o1 b1 n1 x1), (4, V.bool false), (5, V.int IntKind.i64 i4), (10, V.bool false), (12, V.int IntKind.i64 (↑x0.length : Int)), (13, V.int IntKind.i64 i4), (14, V.bool true), (24, V.bool true)], hp := [], nx := 52 })
  | .e1 i4 => (Exit.exit 0, { tm := [(0, V.sl o0 b0 n0 x0), (1, V.sl o1 b1 n1 x1), (4, V.bool false), (10, V.bool false), (12, V.int IntKind.i64 (↑x0.length : Int)), (13, V.int IntKind.i64 i4), (14, V.bool false)], hp := [], nx := 4 })
def L49_6 (k : Nat) (b0 : Bool) (b1 : Bool) (x0 : List V) (x1 : List V) (o0 : Option Bool) (o1 : Option Bool) (n0 : Nat) (n1 : Nat) : Nat → Int → Option L49_6_R
  | 0, _ => none
  | f + 1, i4 => (bif decide (i4 < (↑x0.length : Int)) then (guardP (n0 = 1) (((at? (x0) (i4)).bind dS).bind fun s0 => (guardP (n1 = 1) (((at? (x1) (i4)).bind dS).bind fun s1 => (bif !decide (s0 = s1) then (some (L49_6_R.e0 i4)) else (L49_6 k b0 b1 x0 x1 o0 o1 n0 n1 f (IntKind.i64.wrap (i4 + 1)))))))) else (some (L49_6_R.e1 i4)))
theorem L49_6_ok {b0 : Bool} {b1 : Bool} {x0 : List V} {x1 : List V} {o0 : Option Bool} {o1 : Option Bool} {n0 : Nat} {n1 : Nat} {k : Nat} : ∀ {f : Nat} {i4 : Int} {r : L49_6_R}, L49_6 k b0 b1 x0 x1 o0 o1 n0 n1 f i4 = some r →
    LoopsN Try.prog Try.cfg (k + 2) 0 Try.f66 (Try.cfg.fc 66) 0 [0, 1, 4, 10, 12, 13] f { tm := [(0, V.sl o0 b0 n0 x0), (1, V.sl o1 b1 n1 x1), (4, V.bool false), (10, V.bool false), (12, V.int IntKind.i64 (↑x0.length : Int)), (13, V.int IntKind.i64 i4)], hp := [], nx := 0 } (L49_6_end b0 b1 x0 x1 o0 o1 n0 n1 r) := by
  intro f
  induction f with
  | zero => intro i4 r h; cases h
  | succ f ih =>
    intro i4 r h
    rw [L49_6] at h
    rcases cond_elim h with ⟨e0, h⟩ | ⟨e0, h⟩
    ·
      obtain ⟨e1, h⟩ := guardP_some.1 h
      obtain ⟨s0, e2, h⟩ := Option.bind_eq_some_iff.1 h
      obtain ⟨e3, h⟩ := guardP_some.1 h
      obtain ⟨s1, e4, h⟩ := Option.bind_eq_some_iff.1 h
      rcases cond_elim h with ⟨e5, h⟩ | ⟨e5, h⟩
      ·
        cases h; exact LoopsN.done (L49_6_b0 i4 b0 b1 s0 s1 x0 x1 o0 o1 n0 n1 k e0 (IdxP.of_at' (at_d dS_ok e2) e1) (IdxP.of_at' (at_d dS_ok e4) e3) e5) (fun h => by cases h)
      ·
        exact LoopsN.next (L49_6_b1 i4 b0 b1 s0 s1 x0 x1 o0 o1 n0 n1 k e0 (IdxP.of_at' (at_d dS_ok e2) e1) (IdxP.of_at' (at_d dS_ok e4) e3) e5) (L49_6_b1h i4 b0 b1 x0 x1 o0 o1 n0 n1) (ih h)
    ·
      cases h; exact LoopsN.done (L49_6_b2 i4 b0 b1 x0 x1 o0 o1 n0 n1 k e0) (fun h => by cases h)
theorem P49_0 (i0 : Int) (i1 : Int) (i2 : Int) (i3 : Int) (b0 : Bool) (b1 : Bool) (x0 : List V) (x1 : List V) (o0 : Option Bool) (o1 : Option Bool) (n0 : Nat) (n1 : Nat) (k : Nat)
    (c0 : (!decide ((↑x0.length : Int) = (↑x1.length : Int))) = true) :
    callP (evalFn Try.prog Try.cfg (k + 4)) 49 [V.agg [V.sl o0 b0 n0 x0, V.int IntKind.i64 i0, V.int IntKind.i64 i1], V.agg [V.sl o1 b1 n1 x1, V.int IntKind.i64 i2, V.int IntKind.i64 i3]] = some (V.bool false) :=
  byF (k := k) (d := 4) [Hn.enter, Hn.br 10 true] (And.intro c0 trivial) (by kernel_rfl)
theorem P49_1 (i0 : Int) (i1 : Int) (i2 : Int) (i3 : Int) (i4 : Int) (b0 : Bool) (b1 : Bool) (x0 : List V) (x1 : List V) (o0 : Option Bool) (o1 : Option Bool) (n0 : Nat) (n1 : Nat) (k : Nat)
    (c0 : (!decide ((↑x0.length : Int) = (↑x1.length : Int))) = false)
    (c1 : LoopsN Try.prog Try.cfg (k + 2) 0 Try.f66 (Try.cfg.fc 66) 0 [0, 1, 4, 10, 12, 13] (k + 2) { tm := [(0, V.sl o0 b0 n0 x0), (1, V.sl o1 b1 n1 x1), (4, V.bool false), (10, V.bool false), (12, V.int IntKind.i64 (↑x0.length : Int)), (13, V.int IntKind.i64 0)], hp := [], nx := 0 } (Exit.exit 0, { tm := [(0, V.sl o0 b0 n0 x0), (1, V.sl o1 b1 n1 x1), (4, V.bool false), (10, V.bool false), (12, V.int IntKind.i64 (↑x0.length : Int)), (13, V.int IntKind.i64 i4), (14, V.bool false)], hp := [], nx := 4 }))
    (c2 : decide (i0 = i2) = true) :
    callP (evalFn Try.prog Try.cfg (k + 4)) 49 [V.agg [V.sl o0 b0 n0 x0, V.int IntKind.i64 i0, V.int IntKind.i64 i1], V.agg [V.sl o1 b1 n1 x1, V.int IntKind.i64 i2, V.int IntKind.i64 i3]] = some (V.bool (decide (i1 = i3))) :=
  byF (k := k) (d := 4) [Hn.enter, Hn.br 10 false, Hn.loop (Exit.exit 0, { tm := [(0, V.sl o0 b0 n0 x0), (1, V.sl o1 b1 n1 x1), (4, V.bool false), (10, V.bool false), (12, V.int IntKind.i64 (↑x0.length : Int)), (13, V.int IntKind.i64 i4), (14, V.bool false)], hp := [], nx := 4 }), Hn.br 17 true] (And.intro c0 (And.intro c1 (And.intro c2 trivial))) (by kernel_rfl)
theorem P49_2 (i0 : Int) (i1 : Int) (i2 : Int) (i3 : Int) (i4 : Int) (b0 : Bool) (b1 : Bool) (x0 : List V) (x1 : List V) (o0 : Option Bool) (o1 : Option Bool) (n0 : Nat) (n1 : Nat) (k : Nat)
    (c0 : (!decide ((↑x0.length : Int) = (↑x1.length : Int))) = false)
    (c1 : LoopsN Try.prog Try.cfg (k + 2) 0 Try.f66 (Try.cfg.fc 66) 0 [0, 1, 4, 10, 12, 13] (k + 2) { tm := [(0, V.sl o0 b0 n0 x0), (1, V.sl o1 b1 n1 x1), (4, V.bool false), (10, V.bool false), (12, V.int IntKind.i64 (↑x0.length : Int)), (13, V.int IntKind.i64 0)], hp := [], nx := 0 } (Exit.exit 0, { tm := [(0, V.sl o0 b0 n0 x0), (1, V.sl o1 b1 n1 x1), (4, V.bool false), (10, V.bool false), (12, V.int IntKind.i64 (↑x0.length : Int)), (13, V.int IntKind.i64 i4), (14, V.bool false)], hp := [], nx := 4 }))
    (c2 : decide (i0 = i2) = false) :
    callP (evalFn Try.prog Try.cfg (k + 4)) 49 [V.agg [V.sl o0 b0 n0 x0, V.int IntKind.i64 i0, V.int IntKind.i64 i1], V.agg [V.sl o1 b1 n1 x1, V.int IntKind.i64 i2, V.int IntKind.i64 i3]] = some (V.bool false) :=
  byF (k := k) (d := 4) [Hn.enter, Hn.br 10 false, Hn.loop (Exit.exit 0, { tm := [(0, V.sl o0 b0 n0 x0), (1, V.sl o1 b1 n1 x1), (4, V.bool false), (10, V.bool false), (12, V.int IntKind.i64 (↑x0.length : Int)), (13, V.int IntKind.i64 i4), (14, V.bool false)], hp := [], nx := 4 }), Hn.br 17 false] (And.intro c0 (And.intro c1 (And.intro c2 trivial))) (by kernel_rfl)
theorem P49_3 (i0 : Int) (i1 : Int) (i2 : Int) (i3 : Int) (i4 : Int) (b0 : Bool) (b1 : Bool) (x0 : List V) (x1 : List V) (o0 : Option Bool) (o1 : Option Bool) (n0 : Nat) (n1 : Nat) (k : Nat)
    (c0 : (!decide ((↑x0.length : Int) = (↑x1.length : Int))) = false)
    (c1 : LoopsN Try.prog Try.cfg (k + 2) 0 Try.f66 (Try.cfg.fc 66) 0 [0, 1, 4, 10, 12, 13] (k + 2) { tm := [(0, V.sl o0 b0 n0 x0), (1, V.sl o1 b1 n1 x1), (4, V.bool false), (10, V.bool false), (12, V.int IntKind.i64 (↑x0.length : Int)), (13, V.int IntKind.i64 0)], hp := [], nx := 0 } (Exit.ret, { tm := [(0, V.sl o0 b0 n0 x0), (1, V.sl o1 b1 n1 x1), (4, V.bool false), (5, V.int IntKind.i64 i4), (10, V.bool false), (12, V.int IntKind.i64 (↑x0.length : Int)), (13, V.int IntKind.i64 i4), (14, V.bool true), (24, V.bool true)], hp := [], nx := 52 })) :
    callP (evalFn Try.prog Try.cfg (k + 4)) 49 [V.agg [V.sl o0 b0 n0 x0, V.int IntKind.i64 i0, V.int IntKind.i64 i1], V.agg [V.sl o1 b1 n1 x1, V.int IntKind.i64 i2, V.int IntKind.i64 i3]] = some (V.bool false) :=
  byF (k := k) (d := 4) [Hn.enter, Hn.br 10 false, Hn.loop (Exit.ret, { tm := [(0, V.sl o0 b0 n0 x0), (1, V.sl o1 b1 n1 x1), (4, V.bool false), (5, V.int IntKind.i64 i4), (10, V.bool false), (12, V.int IntKind.i64 (↑x0.length : Int)), (13, V.int IntKind.i64 i4), (14, V.bool true), (24, V.bool true)], hp := [], nx := 52 })] (And.intro c0 (And.intro c1 trivial)) (by kernel_rfl)
def F49 (k : Nat) (o0 : Option Bool) (b0 : Bool) (n0 : Nat) (x0 : List V) (i0 : Int) (i1 : Int) (o1 : Option Bool) (b1 : Bool) (n1 : Nat) (x1 : List V) (i2 : Int) (i3 : Int) : Option (Bool) :=
  (bif !decide ((↑x0.length : Int) = (↑x1.length : Int)) then (some (false)) else ((L49_6 k b0 b1 x0 x1 o0 o1 n0 n1 (k + 2) (0)).bind fun
    | L49_6_R.e0 i4 => (some (false))
    | L49_6_R.e1 i4 => (bif decide (i0 = i2) then (some (decide (i1 = i3))) else (some (false)))))
theorem F49_ok {o0 : Option Bool} {b0 : Bool} {n0 : Nat} {x0 : List V} {i0 : Int} {i1 : Int} {o1 : Option Bool} {b1 : Bool} {n1 : Nat} {x1 : List V} {i2 : Int} {i3 : Int} {k : Nat} {r : Bool} (h : F49 k o0 b0 n0 x0 i0 i1 o1 b1 n1 x1 i2 i3 = some r) :
    callP (evalFn Try.prog Try.cfg (k + 4)) 49 [V.agg [V.sl o0 b0 n0 x0, V.int IntKind.i64 i0, V.int IntKind.i64 i1], V.agg [V.sl o1 b1 n1 x1, V.int IntKind.i64 i2, V.int IntKind.i64 i3]] = some (V.bool r) := by
  unfold F49 at h
  rcases cond_elim h with ⟨e0, h⟩ | ⟨e0, h⟩
  ·
    have h := Option.some.inj h; subst h; exact P49_0 i0 i1 i2 i3 b0 b1 x0 x1 o0 o1 n0 n1 k e0
  ·
    obtain ⟨ee, e1, h⟩ := Option.bind_eq_some_iff.1 h
    cases ee with
    | e0 i4 =>
      have h := Option.some.inj h; subst h; exact P49_3 i0 i1 i2 i3 i4 b0 b1 x0 x1 o0 o1 n0 n1 k e0 (L49_6_ok e1)
    | e1 i4 =>
      rcases cond_elim h with ⟨e2, h⟩ | ⟨e2, h⟩
      ·
        have h := Option.some.inj h; subst h; exact P49_1 i0 i1 i2 i3 i4 b0 b1 x0 x1 o0 o1 n0 n1 k e0 (L49_6_ok e1) e2
      ·
        have h := Option.some.inj h; subst h; exact P49_2 i0 i1 i2 i3 i4 b0 b1 x0 x1 o0 o1 n0 n1 k e0 (L49_6_ok e1) e2
theorem P50_0 (i0 : Int) (i1 : Int) (i2 : Int) (i3 : Int) (b0 : Bool) (b1 : Bool) (b2 : Bool) (x0 : List V) (x1 : List V) (o0 : Option Bool) (o1 : Option Bool) (n0 : Nat) (n1 : Nat) (k : Nat)
    (c0 : callP (evalFn Try.prog Try.cfg (k + 5)) 55 [V.sl o0 b0 n0 x0, V.sl o1 b1 n1 x1] = some (V.bool b2))
    (c1 : b2 = true)
    (c2 : decide (i0 = i2) = true) :
    callP (evalFn Try.prog Try.cfg (k + 6)) 50 [V.agg [V.sl o0 b0 n0 x0, V.int IntKind.i64 i0, V.int IntKind.i64 i1], V.agg [V.sl o1 b1 n1 x1, V.int IntKind.i64 i2, V.int IntKind.i64 i3]] = some (V.bool (decide (i1 = i3))) :=
  byF (k := k) (d := 6) [Hn.call 9 (V.bool b2), Hn.br 10 true, Hn.br 17 true] (And.intro c0 (And.intro c1 (And.intro c2 trivial))) (by kernel_rfl)
theorem P50_1 (i0 : Int) (i1 : Int) (i2 : Int) (i3 : Int) (b0 : Bool) (b1 : Bool) (b2 : Bool) (x0 : List V) (x1 : List V) (o0 : Option Bool) (o1 : Option Bool) (n0 : Nat) (n1 : Nat) (k : Nat)
    (c0 : callP (evalFn Try.prog Try.cfg (k + 5)) 55 [V.sl o0 b0 n0 x0, V.sl o1 b1 n1 x1] = some (V.bool b2))
    (c1 : b2 = true)
    (c2 : decide (i0 = i2) = false) :
    callP (evalFn Try.prog Try.cfg (k + 6)) 50 [V.agg [V.sl o0 b0 n0 x0, V.int IntKind.i64 i0, V.int IntKind.i64 i1], V.agg [V.sl o1 b1 n1 x1, V.int IntKind.i64 i2, V.int IntKind.i64 i3]] = some (V.bool false) :=
  byF (k := k) (d := 6) [Hn.call 9 (V.bool b2), Hn.br 10 true, Hn.br 17 false] (And.intro c0 (And.intro c1 (And.intro c2 trivial))) (by kernel_rfl)
theorem P50_2 (i0 : Int) (i1 : Int) (i2 : Int) (i3 : Int) (b0 : Bool) (b1 : Bool) (b2 : Bool) (x0 : List V) (x1 : List V) (o0 : Option Bool) (o1 : Option Bool) (n0 : Nat) (n1 : Nat) (k : Nat)
    (c0 : callP (evalFn Try.prog Try.cfg (k + 5)) 55 [V.sl o0 b0 n0 x0, V.sl o1 b1 n1 x1] = some (V.bool b2))
    (c1 : b2 = false) :
    callP (evalFn Try.prog Try.cfg (k + 6)) 50 [V.agg [V.sl o0 b0 n0 x0, V.int IntKind.i64 i0, V.int IntKind.i64 i1], V.agg [V.sl o1 b1 n1 x1, V.int IntKind.i64 i2, V.int IntKind.i64 i3]] = some (V.bool false) :=
  byF (k := k) (d := 6) [Hn.call 9 (V.bool b2), Hn.br 10 false] (And.intro c0 (And.intro c1 trivial)) (by kernel_rfl)
def F50 (k : Nat) (o0 : Option Bool) (b0 : Bool) (n0 : Nat) (x0 : List V) (i0 : Int) (i1 : Int) (o1 : Option Bool) (b1 : Bool) (n1 : Nat) (x1 : List V) (i2 : Int) (i3 : Int) : Option (Bool) :=
  ((F55 (k + 2) (o0) (b0) (n0) (x0) (o1) (b1) (n1) (x1)).bind fun b2 => (bif b2 then (bif decide (i0 = i2) then (some (decide (i1 = i3))) else (some (false))) else (some (false))))
theorem F50_ok {o0 : Option Bool} {b0 : Bool} {n0 : Nat} {x0 : List V} {i0 : Int} {i1 : Int} {o1 : Option Bool} {b1 : Bool} {n1 : Nat} {x1 : List V} {i2 : Int} {i3 : Int} {k : Nat} {r : Bool} (h : F50 k o0 b0 n0 x0 i0 i1 o1 b1 n1 x1 i2 i3 = some r) :
    callP (evalFn Try.prog Try.cfg (k + 6)) 50 [V.agg [V.sl o0 b0 n0 x0, V.int IntKind.i64 i0, V.int IntKind.i64 i1], V.agg [V.sl o1 b1 n1 x1, V.int IntKind.i64 i2, V.int IntKind.i64 i3]] = some (V.bool r) := by
  unfold F50 at h
  obtain ⟨b2, e0, h⟩ := Option.bind_eq_some_iff.1 h
  rcases cond_elim h with ⟨e1, h⟩ | ⟨e1, h⟩
  ·
    rcases cond_elim h with ⟨e2, h⟩ | ⟨e2, h⟩
    ·
      have h := Option.some.inj h; subst h; exact P50_0 i0 i1 i2 i3 b0 b1 b2 x0 x1 o0 o1 n0 n1 k (F55_ok e0) e1 e2
    ·
      have h := Option.some.inj h; subst h; exact P50_1 i0 i1 i2 i3 b0 b1 b2 x0 x1 o0 o1 n0 n1 k (F55_ok e0) e1 e2
  ·
    have h := Option.some.inj h; subst h; exact P50_2 i0 i1 i2 i3 b0 b1 b2 x0 x1 o0 o1 n0 n1 k (F55_ok e0) e1
theorem P52_0 (i0 : Int) (i1 : Int) (b0 : Bool) (b1 : Bool) (s0 : List UInt8) (x0 : List V) (o0 : Option Bool) (n0 : Nat) (k : Nat)
    (c0 : callP (evalFn Try.prog Try.cfg (k + 8)) 47 [V.agg [V.sl o0 b0 n0 x0, V.int IntKind.i64 i0, V.int IntKind.i64 i1]] = some (V.bool b1))
    (c1 : (!b1) = true) :
    callP (evalFn Try.prog Try.cfg (k + 9)) 52 [V.agg [V.sl o0 b0 n0 x0, V.int IntKind.i64 i0, V.int IntKind.i64 i1], V.str s0] = some (V.tup [V.agg [V.sl (some true) true 0 [], V.int IntKind.i64 0, V.int IntKind.i64 0], V.int IntKind.i64 1]) :=
  byF (k := k) (d := 9) [Hn.call 8 (V.bool b1), Hn.br 6 true] (And.intro c0 (And.intro c1 trivial)) (by kernel_rfl)
theorem P52_1 (i0 : Int) (i1 : Int) (b0 : Bool) (b1 : Bool) (s0 : List UInt8) (x0 : List V) (o0 : Option Bool) (n0 : Nat) (k : Nat)
    (c0 : callP (evalFn Try.prog Try.cfg (k + 8)) 47 [V.agg [V.sl o0 b0 n0 x0, V.int IntKind.i64 i0, V.int IntKind.i64 i1]] = some (V.bool b1))
    (c1 : (!b1) = false)
    (c2 : decide (i1 = (↑x0.length : Int)) = true) :
    callP (evalFn Try.prog Try.cfg (k + 9)) 52 [V.agg [V.sl o0 b0 n0 x0, V.int IntKind.i64 i0, V.int IntKind.i64 i1], V.str s0] = some (V.tup [V.agg [V.sl (some true) true 0 [], V.int IntKind.i64 0, V.int IntKind.i64 0], V.int IntKind.i64 6]) :=
  byF (k := k) (d := 9) [Hn.call 8 (V.bool b1), Hn.br 6 false, Hn.br 11 true] (And.intro c0 (And.intro c1 (And.intro c2 trivial))) (by kernel_rfl)
theorem P52_2 (i0 : Int) (i1 : Int) (b0 : Bool) (b1 : Bool) (s0 : List UInt8) (x0 : List V) (o0 : Option Bool) (n0 : Nat) (k : Nat)
    (c0 : callP (evalFn Try.prog Try.cfg (k + 8)) 47 [V.agg [V.sl o0 b0 n0 x0, V.int IntKind.i64 i0, V.int IntKind.i64 i1]] = some (V.bool b1))
    (c1 : (!b1) = false)
    (c2 : decide (i1 = (↑x0.length : Int)) = false)
    (c3 : NilP o0 x0 false false)
    (c4 : GrdV (n0 = 1 ∨ x0.isEmpty = true) (1 = 1 ∧ 0 < 1 ∧ 16 ≤ 64 ∧ 0 + x0.length ≤ maxLen') (V.ref 84) [(76, Ob.dead), (84, Ob.row false 1 x0)])
    (c5 : GrdP (IntKind.i64 = IntKind.i64 ∧ (↑x0.length : Int) ≠ 0) (V.int IntKind.i64 ((IntKind.i64.wrap (i0 + i1)).tmod (↑x0.length : Int))))
    (c6 : IdxR x0.length ((IntKind.i64.wrap (i0 + i1)).tmod (↑x0.length : Int)) 1 1 (V.ept 84 ((IntKind.i64.wrap (i0 + i1)).tmod (↑x0.length : Int)).toNat 0))
    (c7 : GrdW (false = false ∧ (rid (V.str s0)).contains 84 = false ∧ ((IntKind.i64.wrap (i0 + i1)).tmod (↑x0.length : Int)).toNat < x0.length) (V.tup []) [(84, Ob.row false 1 (x0.set ((IntKind.i64.wrap (i0 + i1)).tmod (↑x0.length : Int)).toNat (V.str s0)))]) :
    callP (evalFn Try.prog Try.cfg (k + 9)) 52 [V.agg [V.sl o0 b0 n0 x0, V.int IntKind.i64 i0, V.int IntKind.i64 i1], V.str s0] = some (V.tup [V.agg [V.sl none false 1 (x0.set ((IntKind.i64.wrap (i0 + i1)).tmod (↑x0.length : Int)).toNat (V.str s0)), V.int IntKind.i64 i0, V.int IntKind.i64 (IntKind.i64.wrap (i1 + 1))], V.int IntKind.i64 0]) :=
  byF (k := k) (d := 9) [Hn.call 8 (V.bool b1), Hn.br 6 false, Hn.br 11 false, Hn.enter, Hn.op 4 (V.bool false) [], Hn.op 7 (V.ref 84) [(76, Ob.dead), (84, Ob.row false 1 x0)], Hn.op 33 (V.int IntKind.i64 ((IntKind.i64.wrap (i0 + i1)).tmod (↑x0.length : Int))) [], Hn.op 35 (V.ept 84 ((IntKind.i64.wrap (i0 + i1)).tmod (↑x0.length : Int)).toNat 0) [], Hn.wr 152 (V.tup []) [(84, Ob.row false 1 (x0.set ((IntKind.i64.wrap (i0 + i1)).tmod (↑x0.length : Int)).toNat (V.str s0)))]] (And.intro c0 (And.intro c1 (And.intro c2 (And.intro c3 (And.intro c4 (And.intro c5 (And.intro c6 (And.intro c7 trivial)))))))) (by kernel_rfl)
def F52 (k : Nat) (o0 : Option Bool) (b0 : Bool) (n0 : Nat) (x0 : List V) (i0 : Int) (i1 : Int) (s0 : List UInt8) : Option (Option Bool × Bool × Nat × List V × Int × Int × Int) :=
  ((F47 (k + 2) (o0) (b0) (n0) (x0) (i0) (i1)).bind fun b1 => (bif !b1 then (some ((some true), (true), (0), ([]), (0), (0), (1))) else (bif decide (i1 = (↑x0.length : Int)) then (some ((some true), (true), (0), ([]), (0), (0), (6))) else ((isNil o0 x0).bind fun b2 => (bif b2 then none else (guardP (n0 = 1 ∨ x0.isEmpty = true) (guardP (0 + x0.length ≤ maxLen') (guardP ((↑x0.length : Int) ≠ 0) (guardP (0 ≤ (IntKind.i64.wrap (i0 + i1)).tmod (↑x0.length : Int) ∧ (IntKind.i64.wrap (i0 + i1)).tmod (↑x0.length : Int) < (↑x0.length : Int)) (guardP (((IntKind.i64.wrap (i0 + i1)).tmod (↑x0.length : Int)).toNat < x0.length) (some ((none), (false), (1), (x0.set ((IntKind.i64.wrap (i0 + i1)).tmod (↑x0.length : Int)).toNat (V.str s0)), (i0), (IntKind.i64.wrap (i1 + 1)), (0)))))))))))))
theorem F52_ok {o0 : Option Bool} {b0 : Bool} {n0 : Nat} {x0 : List V} {i0 : Int} {i1 : Int} {s0 : List UInt8} {k : Nat} {r : Option Bool × Bool × Nat × List V × Int × Int × Int} (h : F52 k o0 b0 n0 x0 i0 i1 s0 = some r) :
    callP (evalFn Try.prog Try.cfg (k + 9)) 52 [V.agg [V.sl o0 b0 n0 x0, V.int IntKind.i64 i0, V.int IntKind.i64 i1], V.str s0] = some (V.tup [V.agg [V.sl r.1 r.2.1 r.2.2.1 r.2.2.2.1, V.int IntKind.i64 r.2.2.2.2.1, V.int IntKind.i64 r.2.2.2.2.2.1], V.int IntKind.i64 r.2.2.2.2.2.2]) := by
  unfold F52 at h
  obtain ⟨b1, e0, h⟩ := Option.bind_eq_some_iff.1 h
  rcases cond_elim h with ⟨e1, h⟩ | ⟨e1, h⟩
  ·
    have h := Option.some.inj h; subst h; exact P52_0 i0 i1 b0 b1 s0 x0 o0 n0 k (F47_ok e0) e1
  ·
    rcases cond_elim h with ⟨e2, h⟩ | ⟨e2, h⟩
    ·
      have h := Option.some.inj h; subst h; exact P52_1 i0 i1 b0 b1 s0 x0 o0 n0 k (F47_ok e0) e1 e2
    ·
      obtain ⟨b2, e3, h⟩ := Option.bind_eq_some_iff.1 h
      rcases cond_elim h with ⟨e4, h⟩ | ⟨e4, h⟩
      ·
        cases h
      ·
        obtain ⟨e5, h⟩ := guardP_some.1 h
        obtain ⟨e6, h⟩ := guardP_some.1 h
        obtain ⟨e7, h⟩ := guardP_some.1 h
        obtain ⟨e8, h⟩ := guardP_some.1 h
        obtain ⟨e9, h⟩ := guardP_some.1 h
        have h := Option.some.inj h; subst h; exact P52_2 i0 i1 b0 b1 s0 x0 o0 n0 k (F47_ok e0) e1 e2 ((by have q := NilP.eql e3; rw [e4] at q; exact q)) (GrdV.mk e5 ⟨rfl, by decide, by decide, e6⟩) (GrdP.mk ⟨rfl, e7⟩) (IdxR.mk' e8 rfl) (GrdW.mk ⟨rfl, rfl, e9⟩)
theorem L53_7_b0 (i0 : Int) (i1 : Int) (i2 : Int) (i3 : Int) (b0 : Bool) (s0 : List UInt8) (x0 : List V) (x1 : List V) (o0 : Option Bool) (n0 : Nat) (k : Nat)
    (c0 : decide (i3 < IntKind.i64.wrap (i1 - i2)) = true)
    (c1 : GrdP (IntKind.i64 = IntKind.i64 ∧ (↑x1.length : Int) ≠ 0) (V.int IntKind.i64 ((IntKind.i64.wrap ((IntKind.i64.wrap (i0 + i2)).tmod (↑x0.length : Int) + i3)).tmod (↑x1.length : Int))))
    (c2 : IdxP x0 ((IntKind.i64.wrap ((IntKind.i64.wrap (i0 + i2)).tmod (↑x0.length : Int) + i3)).tmod (↑x1.length : Int)) n0 1 (V.str s0))
    (c3 : IdxR x1.length ((IntKind.i64.wrap ((IntKind.i64.wrap (i0 + i2)).tmod (↑x0.length : Int) + i3)).tmod (↑x1.length : Int)) 1 1 (V.ept 161 ((IntKind.i64.wrap ((IntKind.i64.wrap (i0 + i2)).tmod (↑x0.length : Int) + i3)).tmod (↑x1.length : Int)).toNat 0))
    (c4 : GrdW (false = false ∧ (rid (V.str s0)).contains 161 = false ∧ ((IntKind.i64.wrap ((IntKind.i64.wrap (i0 + i2)).tmod (↑x0.length : Int) + i3)).tmod (↑x1.length : Int)).toNat < x1.length) (V.tup []) [(161, Ob.row false 1 (x1.set ((IntKind.i64.wrap ((IntKind.i64.wrap (i0 + i2)).tmod (↑x0.length : Int) + i3)).tmod (↑x1.length : Int)).toNat (V.str s0)))]) :
    evalCode Try.prog Try.cfg (evalFn Try.prog Try.cfg (k + 7)) 161 (Try.cfg.fc 87) (k + 7) (loopBody Try.f87 0) { tm := [(0, V.yld 160), (1, V.ptr 144 0), (5, V.int IntKind.i64 (IntKind.i64.wrap (i1 - i2))), (6, V.int IntKind.i64 i3)], hp := [(0, Ob.var [V.sl o0 b0 n0 x0, V.int IntKind.i64 i0, V.int IntKind.i64 i1]), (4, Ob.var [V.sl (some true) true 0 [], V.int IntKind.i64 0, V.int IntKind.i64 0]), (132, Ob.var [V.ref 161, V.int IntKind.i64 ((IntKind.i64.wrap (i0 + i2)).tmod (↑x0.length : Int)), V.int IntKind.i64 (IntKind.i64.wrap (i1 - i2))]), (144, Ob.var [V.ref 161, V.int IntKind.i64 ((IntKind.i64.wrap (i0 + i2)).tmod (↑x0.length : Int)), V.int IntKind.i64 (IntKind.i64.wrap (i1 - i2))]), (160, Ob.loop LS.ready (Try.cfg.fc 53) (rangeCode Try.f53 0) [(0, V.agg [V.sl o0 b0 n0 x0, V.int IntKind.i64 i0, V.int IntKind.i64 i1]), (1, V.int IntKind.i64 i2), (2, V.ptr 0 0), (4, V.ptr 4 0), (5, V.int IntKind.i64 0), (6, V.ptr 132 0), (8, V.bool false), (13, V.bool false), (41, V.fn (Fn.func 87) [] [V.ptr 144 0])]), (161, Ob.row false 1 x1)], nx := 162 } = some (Exit.normal, { tm := [(0, V.yld 160), (1, V.ptr 144 0), (3, V.int IntKind.i64 i3), (5, V.int IntKind.i64 (IntKind.i64.wrap (i1 - i2))), (6, V.int IntKind.i64 (IntKind.i64.wrap (i3 + 1))), (7, V.bool true), (19, V.bool false)], hp := [(0, Ob.var [V.sl o0 b0 n0 x0, V.int IntKind.i64 i0, V.int IntKind.i64 i1]), (4, Ob.var [V.sl (some true) true 0 [], V.int IntKind.i64 0, V.int IntKind.i64 0]), (132, Ob.var [V.ref 161, V.int IntKind.i64 ((IntKind.i64.wrap (i0 + i2)).tmod (↑x0.length : Int)), V.int IntKind.i64 (IntKind.i64.wrap (i1 - i2))]), (144, Ob.var [V.ref 161, V.int IntKind.i64 ((IntKind.i64.wrap (i0 + i2)).tmod (↑x0.length : Int)), V.int IntKind.i64 (IntKind.i64.wrap (i1 - i2))]), (160, Ob.loop LS.ready (Try.cfg.fc 53) (rangeCode Try.f53 0) [(0, V.agg [V.sl o0 b0 n0 x0, V.int IntKind.i64 i0, V.int IntKind.i64 i1]), (1, V.int IntKind.i64 i2), (2, V.ptr 0 0), (4, V.ptr 4 0), (5, V.int IntKind.i64 0), (6, V.ptr 132 0), (8, V.bool false), (13, V.bool false), (41, V.fn (Fn.func 87) [] [V.ptr 144 0])]), (161, Ob.row false 1 (x1.set ((IntKind.i64.wrap ((IntKind.i64.wrap (i0 + i2)).tmod (↑x0.length : Int) + i3)).tmod (↑x1.length : Int)).toNat (V.str s0)))], nx := 266 }) :=
  byL (k := k) (d := 7) [Hn.br 7 true, Hn.op 17 (V.int IntKind.i64 ((IntKind.i64.wrap ((IntKind.i64.wrap (i0 + i2)).tmod (↑x0.length : Int) + i3)).tmod (↑x1.length : Int))) [], Hn.enter, Hn.op 49 ((V.str s0).cpt 0) [], Hn.op 51 (V.ept 161 ((IntKind.i64.wrap ((IntKind.i64.wrap (i0 + i2)).tmod (↑x0.length : Int) + i3)).tmod (↑x1.length : Int)).toNat 0) [], Hn.wr 250 (V.tup []) [(161, Ob.row false 1 (x1.set ((IntKind.i64.wrap ((IntKind.i64.wrap (i0 + i2)).tmod (↑x0.length : Int) + i3)).tmod (↑x1.length : Int)).toNat (V.str s0)))]] (And.intro c0 (And.intro c1 (And.intro c2 (And.intro c3 (And.intro c4 trivial))))) (by kernel_rfl)
theorem L53_7_b0h (i0 : Int) (i1 : Int) (i2 : Int) (i3 : Int) (b0 : Bool) (s0 : List UInt8) (x0 : List V) (x1 : List V) (o0 : Option Bool) (n0 : Nat) : head 161 [0, 1, 5, 6] (Try.cfg.fc 87).acc { tm := [(0, V.yld 160), (1, V.ptr 144 0), (3, V.int IntKind.i64 i3), (5, V.int IntKind.i64 (IntKind.i64.wrap (i1 - i2))), (6, V.int IntKind.i64 (IntKind.i64.wrap (i3 + 1))), (7, V.bool true), (19, V.bool false)], hp := [(0, Ob.var [V.sl o0 b0 n0 x0, V.int IntKind.i64 i0, V.int IntKind.i64 i1]), (4, Ob.var [V.sl (some true) true 0 [], V.int IntKind.i64 0, V.int IntKind.i64 0]), (132, Ob.var [V.ref 161, V.int IntKind.i64 ((IntKind.i64.wrap (i0 + i2)).tmod (↑x0.length : Int)), V.int IntKind.i64 (IntKind.i64.wrap (i1 - i2))]), (144, Ob.var [V.ref 161, V.int IntKind.i64 ((IntKind.i64.wrap (i0 + i2)).tmod (↑x0.length : Int)), V.int IntKind.i64 (IntKind.i64.wrap (i1 - i2))]), (160, Ob.loop LS.ready (Try.cfg.fc 53) (rangeCode Try.f53 0) [(0, V.agg [V.sl o0 b0 n0 x0, V.int IntKind.i64 i0, V.int IntKind.i64 i1]), (1, V.int IntKind.i64 i2), (2, V.ptr 0 0), (4, V.ptr 4 0), (5, V.int IntKind.i64 0), (6, V.ptr 132 0), (8, V.bool false), (13, V.bool false), (41, V.fn (Fn.func 87) [] [V.ptr 144 0])]), (161, Ob.row false 1 (x1.set ((IntKind.i64.wrap ((IntKind.i64.wrap (i0 + i2)).tmod (↑x0.length : Int) + i3)).tmod (↑x1.length : Int)).toNat (V.str s0)))], nx := 266 } = { tm := [(0, V.yld 160), (1, V.ptr 144 0), (5, V.int IntKind.i64 (IntKind.i64.wrap (i1 - i2))), (6, V.int IntKind.i64 (IntKind.i64.wrap (i3 + 1)))], hp := [(0, Ob.var [V.sl o0 b0 n0 x0, V.int IntKind.i64 i0, V.int IntKind.i64 i1]), (4, Ob.var [V.sl (some true) true 0 [], V.int IntKind.i64 0, V.int IntKind.i64 0]), (132, Ob.var [V.ref 161, V.int IntKind.i64 ((IntKind.i64.wrap (i0 + i2)).tmod (↑x0.length : Int)), V.int IntKind.i64 (IntKind.i64.wrap (i1 - i2))]), (144, Ob.var [V.ref 161, V.int IntKind.i64 ((IntKind.i64.wrap (i0 + i2)).tmod (↑x0.length : Int)), V.int IntKind.i64 (IntKind.i64.wrap (i1 - i2))]), (160, Ob.loop LS.ready (Try.cfg.fc 53) (rangeCode Try.f53 0) [(0, V.agg [V.sl o0 b0 n0 x0, V.int IntKind.i64 i0, V.int IntKind.i64 i1]), (1, V.int IntKind.i64 i2), (2, V.ptr 0 0), (4, V.ptr 4 0), (5, V.int IntKind.i64 0), (6, V.ptr 132 0), (8, V.bool false), (13, V.bool false), (41, V.fn (Fn.func 87) [] [V.ptr 144 0])]), (161, Ob.row false 1 (x1.set ((IntKind.i64.wrap ((IntKind.i64.wrap (i0 + i2)).tmod (↑x0.length : Int) + i3)).tmod (↑x1.length : Int)).toNat (V.str s0)))], nx := 162 } := by kernel_rfl
theorem L53_7_b1 (i0 : Int) (i1 : Int) (i2 : Int) (i3 : Int) (b0 : Bool) (x0 : List V) (x1 : List V) (o0 : Option Bool) (n0 : Nat) (k : Nat)
    (c0 : decide (i3 < IntKind.i64.wrap (i1 - i2)) = false) :
    evalCode Try.prog Try.cfg (evalFn Try.prog Try.cfg (k + 7)) 161 (Try.cfg.fc 87) (k + 7) (loopBody Try.f87 0) { tm := [(0, V.yld 160), (1, V.ptr 144 0), (5, V.int IntKind.i64 (IntKind.i64.wrap (i1 - i2))), (6, V.int IntKind.i64 i3)], hp := [(0, Ob.var [V.sl o0 b0 n0 x0, V.int IntKind.i64 i0, V.int IntKind.i64 i1]), (4, Ob.var [V.sl (some true) true 0 [], V.int IntKind.i64 0, V.int IntKind.i64 0]), (132, Ob.var [V.ref 161, V.int IntKind.i64 ((IntKind.i64.wrap (i0 + i2)).tmod (↑x0.length : Int)), V.int IntKind.i64 (IntKind.i64.wrap (i1 - i2))]), (144, Ob.var [V.ref 161, V.int IntKind.i64 ((IntKind.i64.wrap (i0 + i2)).tmod (↑x0.length : Int)), V.int IntKind.i64 (IntKind.i64.wrap (i1 - i2))]), (160, Ob.loop LS.ready (Try.cfg.fc 53) (rangeCode Try.f53 0) [(0, V.agg [V.sl o0 b0 n0 x0, V.int IntKind.i64 i0, V.int IntKind.i64 i1]), (1, V.int IntKind.i64 i2), (2, V.ptr 0 0), (4, V.ptr 4 0), (5, V.int IntKind.i64 0), (6, V.ptr 132 0), (8, V.bool false), (13, V.bool false), (41, V.fn (Fn.func 87) [] [V.ptr 144 0])]), (161, Ob.row false 1 x1)], nx := 162 } = some (Exit.exit 0, { tm := [(0, V.yld 160), (1, V.ptr 144 0), (5, V.int IntKind.i64 (IntKind.i64.wrap (i1 - i2))), (6, V.int IntKind.i64 i3), (7, V.bool false)], hp := [(0, Ob.var [V.sl o0 b0 n0 x0, V.int IntKind.i64 i0, V.int IntKind.i64 i1]), (4, Ob.var [V.sl (some true) true 0 [], V.int IntKind.i64 0, V.int IntKind.i64 0]), (132, Ob.var [V.ref 161, V.int IntKind.i64 ((IntKind.i64.wrap (i0 + i2)).tmod (↑x0.length : Int)), V.int IntKind.i64 (IntKind.i64.wrap (i1 - i2))]), (144, Ob.var [V.ref 161, V.int IntKind.i64 ((IntKind.i64.wrap (i0 + i2)).tmod (↑x0.length : Int)), V.int IntKind.i64 (IntKind.i64.wrap (i1 - i2))]), (160, Ob.loop LS.ready (Try.cfg.fc 53) (rangeCode Try.f53 0) [(0, V.agg [V.sl o0 b0 n0 x0, V.int IntKind.i64 i0, V.int IntKind.i64 i1]), (1, V.int IntKind.i64 i2), (2, V.ptr 0 0), (4, V.ptr 4 0), (5, V.int IntKind.i64 0), (6, V.ptr 132 0), (8, V.bool false), (13, V.bool false), (41, V.fn (Fn.func 87) [] [V.ptr 144 0])]), (161, Ob.row false 1 x1)], nx := 166 }) :=
  byL (k := k) (d := 7) [Hn.br 7 false] (And.intro c0 trivial) (by kernel_rfl)
inductive L53_7_R where
  | e0 (i3 : Int) (x1 : List V)
noncomputable def L53_7_end (i0 : Int) (i1 : Int) (i2 : Int) (b0 : Bool) (x0 : List V) (o0 : Option Bool) (n0 : Nat) : L53_7_R → Exit × St
  | .e0 i3 x1 => (Exit.exit 0, { tm := [(0, V.yld 160), (1, V.ptr 144 0), (5, V.int IntKind.i64 (IntKind.i64.wrap (i1 - i2))), (6, V.int IntKind.i64 i3), (7, V.bool false)], hp := [(0, Ob.var [V.sl o0 b0 n0 x0, V.int IntKind.i64 i0, V.int IntKind.i64 i1]), (4, Ob.var [V.sl (some true) true 0 [], V.int IntKind.i64 0, V.int IntKind.i64 0]), (132, Ob.var [V.ref 161, V.int IntKind.i64 ((IntKind.i64.wrap (i0 + i2)).tmod (↑x0.length : Int)), V.int IntKind.i64 (IntKind.i64.wrap (i1 - i2))]), (144, Ob.var [V.ref 161, V.int IntKind.i64 ((IntKind.i64.wrap (i0 + i2)).tmod (↑x0.length : Int)), V.int IntKind.i64 (IntKind.i64.wrap (i1 - i2))]), (160, Ob.loop LS.ready (Try.cfg.fc 53) (rangeCode Try.f53 0) [(0, V.agg [V.sl o0 b0 n0 x0, V.int IntKind.i64 i0, V.int IntKind.i64 i1]), (1, V.int IntKind.i64 i2), (2, V.ptr 0 0), (4, V.ptr 4 0), (5, V.int IntKind.i64 0), (6, V.ptr 132 0), (8, V.bool false), (13, V.bool false), (41, V.fn (Fn.func 87) [] [V.ptr 144 0])]), (161, Ob.row false 1 x1)], nx := 166 })
def L53_7 (k : Nat) (i0 : Int) (i1 : Int) (i2 : Int) (b0 : Bool) (x0 : List V) (o0 : Option Bool) (n0 : Nat) : Nat → Int → List V → Option L53_7_R
  | 0, _, _ => none
  | f + 1, i3, x1 => (bif decide (i3 < IntKind.i64.wrap (i1 - i2)) then (guardP ((↑x1.length : Int) ≠ 0) (guardP (n0 = 1) (((at? (x0) ((IntKind.i64.wrap ((IntKind.i64.wrap (i0 + i2)).tmod (↑x0.length : Int) + i3)).tmod (↑x1.length : Int))).bind dS).bind fun s0 => (guardP (0 ≤ (IntKind.i64.wrap ((IntKind.i64.wrap (i0 + i2)).tmod (↑x0.length : Int) + i3)).tmod (↑x1.length : Int) ∧ (IntKind.i64.wrap ((IntKind.i64.wrap (i0 + i2)).tmod (↑x0.length : Int) + i3)).tmod (↑x1.length : Int) < (↑x1.length : Int)) (guardP (((IntKind.i64.wrap ((IntKind.i64.wrap (i0 + i2)).tmod (↑x0.length : Int) + i3)).tmod (↑x1.length : Int)).toNat < x1.length) (L53_7 k i0 i1 i2 b0 x0 o0 n0 f (IntKind.i64.wrap (i3 + 1)) (x1.set ((IntKind.i64.wrap ((IntKind.i64.wrap (i0 + i2)).tmod (↑x0.length : Int) + i3)).tmod (↑x1.length : Int)).toNat (V.str s0)))))))) else (some (L53_7_R.e0 i3 x1)))
theorem L53_7_ok {i0 : Int} {i1 : Int} {i2 : Int} {b0 : Bool} {x0 : List V} {o0 : Option Bool} {n0 : Nat} {k : Nat} : ∀ {f : Nat} {i3 : Int} {x1 : List V} {r : L53_7_R}, L53_7 k i0 i1 i2 b0 x0 o0 n0 f i3 x1 = some r →
    LoopsN Try.prog Try.cfg (k + 7) 161 Try.f87 (Try.cfg.fc 87) 0 [0, 1, 5, 6] f { tm := [(0, V.yld 160), (1, V.ptr 144 0), (5, V.int IntKind.i64 (IntKind.i64.wrap (i1 - i2))), (6, V.int IntKind.i64 i3)], hp := [(0, Ob.var [V.sl o0 b0 n0 x0, V.int IntKind.i64 i0, V.int IntKind.i64 i1]), (4, Ob.var [V.sl (some true) true 0 [], V.int IntKind.i64 0, V.int IntKind.i64 0]), (132, Ob.var [V.ref 161, V.int IntKind.i64 ((IntKind.i64.wrap (i0 + i2)).tmod (↑x0.length : Int)), V.int IntKind.i64 (IntKind.i64.wrap (i1 - i2))]), (144, Ob.var [V.ref 161, V.int IntKind.i64 ((IntKind.i64.wrap (i0 + i2)).tmod (↑x0.length : Int)), V.int IntKind.i64 (IntKind.i64.wrap (i1 - i2))]), (160, Ob.loop LS.ready (Try.cfg.fc 53) (rangeCode Try.f53 0) [(0, V.agg [V.sl o0 b0 n0 x0, V.int IntKind.i64 i0, V.int IntKind.i64 i1]), (1, V.int IntKind.i64 i2), (2, V.ptr 0 0), (4, V.ptr 4 0), (5, V.int IntKind.i64 0), (6, V.ptr 132 0), (8, V.bool false), (13, V.bool false), (41, V.fn (Fn.func 87) [] [V.ptr 144 0])]), (161, Ob.row false 1 x1)], nx := 162 } (L53_7_end i0 i1 i2 b0 x0 o0 n0 r) := by
  intro f
  induction f with
  | zero => intro i3 x1 r h; cases h
  | succ f ih =>
    intro i3 x1 r h
    rw [L53_7] at h
    rcases cond_elim h with ⟨e0, h⟩ | ⟨e0, h⟩
    ·
      obtain ⟨e1, h⟩ := guardP_some.1 h
      obtain ⟨e2, h⟩ := guardP_some.1 h
      obtain ⟨s0, e3, h⟩ := Option.bind_eq_some_iff.1 h
      obtain ⟨e4, h⟩ := guardP_some.1 h
      obtain ⟨e5, h⟩ := guardP_some.1 h
      exact LoopsN.next (L53_7_b0 i0 i1 i2 i3 b0 s0 x0 x1 o0 n0 k e0 (GrdP.mk ⟨rfl, e1⟩) (IdxP.of_at' (at_d dS_ok e3) e2) (IdxR.mk' e4 rfl) (GrdW.mk ⟨rfl, rfl, e5⟩)) (L53_7_b0h i0 i1 i2 i3 b0 s0 x0 x1 o0 n0) (ih h)
    ·
      cases h; exact LoopsN.done (L53_7_b1 i0 i1 i2 i3 b0 x0 x1 o0 n0 k e0) (fun h => by cases h)
theorem P53_0 (i0 : Int) (i1 : Int) (i2 : Int) (b0 : Bool) (b1 : Bool) (x0 : List V) (o0 : Option Bool) (n0 : Nat) (k : Nat)
    (c0 : callP (evalFn Try.prog Try.cfg (k + 8)) 47 [V.agg [V.sl o0 b0 n0 x0, V.int IntKind.i64 i0, V.int IntKind.i64 i1]] = some (V.bool b1))
    (c1 : (!b1) = true) :
    callP (evalFn Try.prog Try.cfg (k + 9)) 53 [V.agg [V.sl o0 b0 n0 x0, V.int IntKind.i64 i0, V.int IntKind.i64 i1], V.int IntKind.i64 i2] = some (V.tup [V.agg [V.sl (some true) true 0 [], V.int IntKind.i64 0, V.int IntKind.i64 0], V.int IntKind.i64 1]) :=
  byF (k := k) (d := 9) [Hn.call 10 (V.bool b1), Hn.br 8 true] (And.intro c0 (And.intro c1 trivial)) (by kernel_rfl)
theorem P53_1 (i0 : Int) (i1 : Int) (i2 : Int) (b0 : Bool) (b1 : Bool) (x0 : List V) (o0 : Option Bool) (n0 : Nat) (k : Nat)
    (c0 : callP (evalFn Try.prog Try.cfg (k + 8)) 47 [V.agg [V.sl o0 b0 n0 x0, V.int IntKind.i64 i0, V.int IntKind.i64 i1]] = some (V.bool b1))
    (c1 : (!b1) = false)
    (c2 : decide (i2 < 0) = true) :
    callP (evalFn Try.prog Try.cfg (k + 9)) 53 [V.agg [V.sl o0 b0 n0 x0, V.int IntKind.i64 i0, V.int IntKind.i64 i1], V.int IntKind.i64 i2] = some (V.tup [V.agg [V.sl (some true) true 0 [], V.int IntKind.i64 0, V.int IntKind.i64 0], V.int IntKind.i64 2]) :=
  byF (k := k) (d := 9) [Hn.call 10 (V.bool b1), Hn.br 8 false, Hn.br 16 true] (And.intro c0 (And.intro c1 (And.intro c2 trivial))) (by kernel_rfl)
theorem P53_2 (i0 : Int) (i1 : Int) (i2 : Int) (b0 : Bool) (b1 : Bool) (x0 : List V) (o0 : Option Bool) (n0 : Nat) (k : Nat)
    (c0 : callP (evalFn Try.prog Try.cfg (k + 8)) 47 [V.agg [V.sl o0 b0 n0 x0, V.int IntKind.i64 i0, V.int IntKind.i64 i1]] = some (V.bool b1))
    (c1 : (!b1) = false)
    (c2 : decide (i2 < 0) = false)
    (c3 : decide (i1 < i2) = true) :
    callP (evalFn Try.prog Try.cfg (k + 9)) 53 [V.agg [V.sl o0 b0 n0 x0, V.int IntKind.i64 i0, V.int IntKind.i64 i1], V.int IntKind.i64 i2] = some (V.tup [V.agg [V.sl (some true) true 0 [], V.int IntKind.i64 0, V.int IntKind.i64 0], V.int IntKind.i64 2]) :=
  byF (k := k) (d := 9) [Hn.call 10 (V.bool b1), Hn.br 8 false, Hn.br 16 false, Hn.br 13 true] (And.intro c0 (And.intro c1 (And.intro c2 (And.intro c3 trivial)))) (by kernel_rfl)
theorem P53_3 (i0 : Int) (i1 : Int) (i2 : Int) (i3 : Int) (b0 : Bool) (b1 : Bool) (x0 : List V) (x1 : List V) (o0 : Option Bool) (n0 : Nat) (k : Nat)
    (c0 : callP (evalFn Try.prog Try.cfg (k + 8)) 47 [V.agg [V.sl o0 b0 n0 x0, V.int IntKind.i64 i0, V.int IntKind.i64 i1]] = some (V.bool b1))
    (c1 : (!b1) = false)
    (c2 : decide (i2 < 0) = false)
    (c3 : decide (i1 < i2) = false)
    (c4 : GrdW (0 < 1 ∧ 16 ≤ 64 ∧ (V.str []).cells.length = 1 ∧ 0 ≤ (↑x0.length : Int) ∧ (↑x0.length : Int) ≤ (↑x0.length : Int) ∧ (↑x0.length : Int) ≤ (↑maxLen' : Int)) (V.ref 76) [(76, Ob.row false 1 (List.replicate (↑x0.length : Int).toNat (V.str [])))])
    (c5 : GrdP (IntKind.i64 = IntKind.i64 ∧ (↑x0.length : Int) ≠ 0) (V.int IntKind.i64 ((IntKind.i64.wrap (i0 + i2)).tmod (↑x0.length : Int))))
    (c6 : LoopsN Try.prog Try.cfg (k + 7) 161 Try.f87 (Try.cfg.fc 87) 0 [0, 1, 5, 6] (k + 7) { tm := [(0, V.yld 160), (1, V.ptr 144 0), (5, V.int IntKind.i64 (IntKind.i64.wrap (i1 - i2))), (6, V.int IntKind.i64 0)], hp := [(0, Ob.var [V.sl o0 b0 n0 x0, V.int IntKind.i64 i0, V.int IntKind.i64 i1]), (4, Ob.var [V.sl (some true) true 0 [], V.int IntKind.i64 0, V.int IntKind.i64 0]), (132, Ob.var [V.ref 161, V.int IntKind.i64 ((IntKind.i64.wrap (i0 + i2)).tmod (↑x0.length : Int)), V.int IntKind.i64 (IntKind.i64.wrap (i1 - i2))]), (144, Ob.var [V.ref 161, V.int IntKind.i64 ((IntKind.i64.wrap (i0 + i2)).tmod (↑x0.length : Int)), V.int IntKind.i64 (IntKind.i64.wrap (i1 - i2))]), (160, Ob.loop LS.ready (Try.cfg.fc 53) (rangeCode Try.f53 0) [(0, V.agg [V.sl o0 b0 n0 x0, V.int IntKind.i64 i0, V.int IntKind.i64 i1]), (1, V.int IntKind.i64 i2), (2, V.ptr 0 0), (4, V.ptr 4 0), (5, V.int IntKind.i64 0), (6, V.ptr 132 0), (8, V.bool false), (13, V.bool false), (41, V.fn (Fn.func 87) [] [V.ptr 144 0])]), (161, Ob.row false 1 (List.replicate (↑x0.length : Int).toNat (V.str [])))], nx := 162 } (Exit.exit 0, { tm := [(0, V.yld 160), (1, V.ptr 144 0), (5, V.int IntKind.i64 (IntKind.i64.wrap (i1 - i2))), (6, V.int IntKind.i64 i3), (7, V.bool false)], hp := [(0, Ob.var [V.sl o0 b0 n0 x0, V.int IntKind.i64 i0, V.int IntKind.i64 i1]), (4, Ob.var [V.sl (some true) true 0 [], V.int IntKind.i64 0, V.int IntKind.i64 0]), (132, Ob.var [V.ref 161, V.int IntKind.i64 ((IntKind.i64.wrap (i0 + i2)).tmod (↑x0.length : Int)), V.int IntKind.i64 (IntKind.i64.wrap (i1 - i2))]), (144, Ob.var [V.ref 161, V.int IntKind.i64 ((IntKind.i64.wrap (i0 + i2)).tmod (↑x0.length : Int)), V.int IntKind.i64 (IntKind.i64.wrap (i1 - i2))]), (160, Ob.loop LS.ready (Try.cfg.fc 53) (rangeCode Try.f53 0) [(0, V.agg [V.sl o0 b0 n0 x0, V.int IntKind.i64 i0, V.int IntKind.i64 i1]), (1, V.int IntKind.i64 i2), (2, V.ptr 0 0), (4, V.ptr 4 0), (5, V.int IntKind.i64 0), (6, V.ptr 132 0), (8, V.bool false), (13, V.bool false), (41, V.fn (Fn.func 87) [] [V.ptr 144 0])]), (161, Ob.row false 1 x1)], nx := 166 })) :
    callP (evalFn Try.prog Try.cfg (k + 9)) 53 [V.agg [V.sl o0 b0 n0 x0, V.int IntKind.i64 i0, V.int IntKind.i64 i1], V.int IntKind.i64 i2] = some (V.tup [V.agg [V.sl none false 1 x1, V.int IntKind.i64 ((IntKind.i64.wrap (i0 + i2)).tmod (↑x0.length : Int)), V.int IntKind.i64 (IntKind.i64.wrap (i1 - i2))], V.int IntKind.i64 0]) :=
  byF (k := k) (d := 9) [Hn.call 10 (V.bool b1), Hn.br 8 false, Hn.br 16 false, Hn.br 13 false, Hn.op 26 (V.ref 76) [(76, Ob.row false 1 (List.replicate (↑x0.length : Int).toNat (V.str [])))], Hn.op 34 (V.int IntKind.i64 ((IntKind.i64.wrap (i0 + i2)).tmod (↑x0.length : Int))) [], Hn.enter, Hn.enter, Hn.loop (Exit.exit 0, { tm := [(0, V.yld 160), (1, V.ptr 144 0), (5, V.int IntKind.i64 (IntKind.i64.wrap (i1 - i2))), (6, V.int IntKind.i64 i3), (7, V.bool false)], hp := [(0, Ob.var [V.sl o0 b0 n0 x0, V.int IntKind.i64 i0, V.int IntKind.i64 i1]), (4, Ob.var [V.sl (some true) true 0 [], V.int IntKind.i64 0, V.int IntKind.i64 0]), (132, Ob.var [V.ref 161, V.int IntKind.i64 ((IntKind.i64.wrap (i0 + i2)).tmod (↑x0.length : Int)), V.int IntKind.i64 (IntKind.i64.wrap (i1 - i2))]), (144, Ob.var [V.ref 161, V.int IntKind.i64 ((IntKind.i64.wrap (i0 + i2)).tmod (↑x0.length : Int)), V.int IntKind.i64 (IntKind.i64.wrap (i1 - i2))]), (160, Ob.loop LS.ready (Try.cfg.fc 53) (rangeCode Try.f53 0) [(0, V.agg [V.sl o0 b0 n0 x0, V.int IntKind.i64 i0, V.int IntKind.i64 i1]), (1, V.int IntKind.i64 i2), (2, V.ptr 0 0), (4, V.ptr 4 0), (5, V.int IntKind.i64 0), (6, V.ptr 132 0), (8, V.bool false), (13, V.bool false), (41, V.fn (Fn.func 87) [] [V.ptr 144 0])]), (161, Ob.row false 1 x1)], nx := 166 })] (And.intro c0 (And.intro c1 (And.intro c2 (And.intro c3 (And.intro c4 (And.intro c5 (And.intro c6 trivial))))))) (by kernel_rfl)
def F53 (k : Nat) (o0 : Option Bool) (b0 : Bool) (n0 : Nat) (x0 : List V) (i0 : Int) (i1 : Int) (i2 : Int) : Option (Option Bool × Bool × Nat × List V × Int × Int × Int) :=
  ((F47 (k + 2) (o0) (b0) (n0) (x0) (i0) (i1)).bind fun b1 => (bif !b1 then (some ((some true), (true), (0), ([]), (0), (0), (1))) else (bif decide (i2 < 0) then (some ((some true), (true), (0), ([]), (0), (0), (2))) else (bif decide (i1 < i2) then (some ((some true), (true), (0), ([]), (0), (0), (2))) else (guardP (0 ≤ (↑x0.length : Int) ∧ (↑x0.length : Int) ≤ (↑x0.length : Int) ∧ (↑x0.length : Int) ≤ (↑maxLen' : Int)) (guardP ((↑x0.length : Int) ≠ 0) ((L53_7 k i0 i1 i2 b0 x0 o0 n0 (k + 7) (0) (List.replicate (↑x0.length : Int).toNat (V.str []))).bind fun
    | L53_7_R.e0 i3 x1 => (some ((none), (false), (1), (x1), ((IntKind.i64.wrap (i0 + i2)).tmod (↑x0.length : Int)), (IntKind.i64.wrap (i1 - i2)), (0))))))))))
theorem F53_ok {o0 : Option Bool} {b0 : Bool} {n0 : Nat} {x0 : List V} {i0 : Int} {i1 : Int} {i2 : Int} {k : Nat} {r : Option Bool × Bool × Nat × List V × Int × Int × Int} (h : F53 k o0 b0 n0 x0 i0 i1 i2 = some r) :
    callP (evalFn Try.prog Try.cfg (k + 9)) 53 [V.agg [V.sl o0 b0 n0 x0, V.int IntKind.i64 i0, V.int IntKind.i64 i1], V.int IntKind.i64 i2] = some (V.tup [V.agg [V.sl r.1 r.2.1 r.2.2.1 r.2.2.2.1, V.int IntKind.i64 r.2.2.2.2.1, V.int IntKind.i64 r.2.2.2.2.2.1], V.int IntKind.i64 r.2.2.2.2.2.2]) := by
  unfold F53 at h
  obtain ⟨b1, e0, h⟩ := Option.bind_eq_some_iff.1 h
  rcases cond_elim h with ⟨e1, h⟩ | ⟨e1, h⟩
  ·
    have h := Option.some.inj h; subst h; exact P53_0 i0 i1 i2 b0 b1 x0 o0 n0 k (F47_ok e0) e1
  ·
    rcases cond_elim h with ⟨e2, h⟩ | ⟨e2, h⟩
    ·
      have h := Option.some.inj h; subst h; exact P53_1 i0 i1 i2 b0 b1 x0 o0 n0 k (F47_ok e0) e1 e2
    ·
      rcases cond_elim h with ⟨e3, h⟩ | ⟨e3, h⟩
      ·
        have h := Option.some.inj h; subst h; exact P53_2 i0 i1 i2 b0 b1 x0 o0 n0 k (F47_ok e0) e1 e2 e3
      ·
        obtain ⟨e4, h⟩ := guardP_some.1 h
        obtain ⟨e5, h⟩ := guardP_some.1 h
        obtain ⟨ee, e6, h⟩ := Option.bind_eq_some_iff.1 h
        cases ee with
        | e0 i3 x1 =>
          have h := Option.some.inj h; subst h; exact P53_3 i0 i1 i2 i3 b0 b1 x0 x1 o0 n0 k (F47_ok e0) e1 e2 e3 (GrdW.mk ⟨by decide, by decide, rfl, e4⟩) (GrdP.mk ⟨rfl, e5⟩) (L53_7_ok e6)
theorem L54_8_b0 (i0 : Int) (i1 : Int) (i2 : Int) (b0 : Bool) (s0 : List UInt8) (x0 : List V) (x1 : List V) (o0 : Option Bool) (n0 : Nat) (k : Nat)
    (c0 : decide (i2 < i1) = true)
    (c1 : GrdP (IntKind.i64 = IntKind.i64 ∧ (↑x0.length : Int) ≠ 0) (V.int IntKind.i64 ((IntKind.i64.wrap (i0 + i2)).tmod (↑x0.length : Int))))
    (c2 : IdxP x0 ((IntKind.i64.wrap (i0 + i2)).tmod (↑x0.length : Int)) n0 1 (V.str s0))
    (c3 : GrdW (1 = 1 ∧ 0 < 1 ∧ 16 ≤ 64 ∧ x1.length + 1 ≤ maxLen') (V.ref 131) [(50, Ob.dead), (131, Ob.row false 1 (x1 ++ [V.str s0]))]) :
    evalCode Try.prog Try.cfg (evalFn Try.prog Try.cfg (k + 7)) 50 (Try.cfg.fc 87) (k + 7) (loopBody Try.f87 0) { tm := [(0, V.yld 49), (1, V.ptr 32 0), (5, V.int IntKind.i64 i1), (6, V.int IntKind.i64 i2)], hp := [(0, Ob.var [V.sl o0 b0 n0 x0, V.int IntKind.i64 i0, V.int IntKind.i64 i1]), (24, Ob.var [V.ref 50]), (32, Ob.var [V.sl o0 b0 n0 x0, V.int IntKind.i64 i0, V.int IntKind.i64 i1]), (49, Ob.loop LS.ready (Try.cfg.fc 54) (rangeCode Try.f54 0) [(0, V.agg [V.sl o0 b0 n0 x0, V.int IntKind.i64 i0, V.int IntKind.i64 i1]), (1, V.ptr 0 0), (2, V.sl (some true) true 0 []), (3, V.int IntKind.i64 0), (4, V.ptr 24 0), (8, V.bool false), (10, V.fn (Fn.func 87) [] [V.ptr 32 0])]), (50, Ob.row false 1 x1)], nx := 51 } = some (Exit.normal, { tm := [(0, V.yld 49), (1, V.ptr 32 0), (3, V.int IntKind.i64 i2), (5, V.int IntKind.i64 i1), (6, V.int IntKind.i64 (IntKind.i64.wrap (i2 + 1))), (7, V.bool true), (19, V.bool false)], hp := [(0, Ob.var [V.sl o0 b0 n0 x0, V.int IntKind.i64 i0, V.int IntKind.i64 i1]), (24, Ob.var [V.ref 131]), (32, Ob.var [V.sl o0 b0 n0 x0, V.int IntKind.i64 i0, V.int IntKind.i64 i1]), (49, Ob.loop LS.ready (Try.cfg.fc 54) (rangeCode Try.f54 0) [(0, V.agg [V.sl o0 b0 n0 x0, V.int IntKind.i64 i0, V.int IntKind.i64 i1]), (1, V.ptr 0 0), (2, V.sl (some true) true 0 []), (3, V.int IntKind.i64 0), (4, V.ptr 24 0), (8, V.bool false), (10, V.fn (Fn.func 87) [] [V.ptr 32 0])]), (50, Ob.dead), (127, Ob.row false 1 [V.str s0]), (131, Ob.row false 1 (x1 ++ [V.str s0]))], nx := 151 }) :=
  byL (k := k) (d := 7) [Hn.br 7 true, Hn.op 17 (V.int IntKind.i64 ((IntKind.i64.wrap (i0 + i2)).tmod (↑x0.length : Int))) [], Hn.enter, Hn.op 16 ((V.str s0).cpt 0) [], Hn.op 19 (V.ref 131) [(50, Ob.dead), (131, Ob.row false 1 (x1 ++ [V.str s0]))]] (And.intro c0 (And.intro c1 (And.intro c2 (And.intro c3 trivial)))) (by kernel_rfl)
theorem L54_8_b0h (i0 : Int) (i1 : Int) (i2 : Int) (b0 : Bool) (s0 : List UInt8) (x0 : List V) (x1 : List V) (o0 : Option Bool) (n0 : Nat) : head 50 [0, 1, 5, 6] (Try.cfg.fc 87).acc { tm := [(0, V.yld 49), (1, V.ptr 32 0), (3, V.int IntKind.i64 i2), (5, V.int IntKind.i64 i1), (6, V.int IntKind.i64 (IntKind.i64.wrap (i2 + 1))), (7, V.bool true), (19, V.bool false)], hp := [(0, Ob.var [V.sl o0 b0 n0 x0, V.int IntKind.i64 i0, V.int IntKind.i64 i1]), (24, Ob.var [V.ref 131]), (32, Ob.var [V.sl o0 b0 n0 x0, V.int IntKind.i64 i0, V.int IntKind.i64 i1]), (49, Ob.loop LS.ready (Try.cfg.fc 54) (rangeCode Try.f54 0) [(0, V.agg [V.sl o0 b0 n0 x0, V.int IntKind.i64 i0, V.int IntKind.i64 i1]), (1, V.ptr 0 0), (2, V.sl (some true) true 0 []), (3, V.int IntKind.i64 0), (4, V.ptr 24 0), (8, V.bool false), (10, V.fn (Fn.func 87) [] [V.ptr 32 0])]), (50, Ob.dead), (127, Ob.row false 1 [V.str s0]), (131, Ob.row false 1 (x1 ++ [V.str s0]))], nx := 151 } = { tm := [(0, V.yld 49), (1, V.ptr 32 0), (5, V.int IntKind.i64 i1), (6, V.int IntKind.i64 (IntKind.i64.wrap (i2 + 1)))], hp := [(0, Ob.var [V.sl o0 b0 n0 x0, V.int IntKind.i64 i0, V.int IntKind.i64 i1]), (24, Ob.var [V.ref 50]), (32, Ob.var [V.sl o0 b0 n0 x0, V.int IntKind.i64 i0, V.int IntKind.i64 i1]), (49, Ob.loop LS.ready (Try.cfg.fc 54) (rangeCode Try.f54 0) [(0, V.agg [V.sl o0 b0 n0 x0, V.int IntKind.i64 i0, V.int IntKind.i64 i1]), (1, V.ptr 0 0), (2, V.sl (some true) true 0 []), (3, V.int IntKind.i64 0), (4, V.ptr 24 0), (8, V.bool false), (10, V.fn (Fn.func 87) [] [V.ptr 32 0])]), (50, Ob.row false 1 (x1 ++ [V.str s0]))], nx := 51 } := by kernel_rfl
theorem L54_8_b1 (i0 : Int) (i1 : Int) (i2 : Int) (b0 : Bool) (x0 : List V) (x1 : List V) (o0 : Option Bool) (n0 : Nat) (k : Nat)
    (c0 : decide (i2 < i1) = false) :
    evalCode Try.prog Try.cfg (evalFn Try.prog Try.cfg (k + 7)) 50 (Try.cfg.fc 87) (k + 7) (loopBody Try.f87 0) { tm := [(0, V.yld 49), (1, V.ptr 32 0), (5, V.int IntKind.i64 i1), (6, V.int IntKind.i64 i2)], hp := [(0, Ob.var [V.sl o0 b0 n0 x0, V.int IntKind.i64 i0, V.int IntKind.i64 i1]), (24, Ob.var [V.ref 50]), (32, Ob.var [V.sl o0 b0 n0 x0, V.int IntKind.i64 i0, V.int IntKind.i64 i1]), (49, Ob.loop LS.ready (Try.cfg.fc 54) (rangeCode Try.f54 0) [(0, V.agg [V.sl o0 b0 n0 x0, V.int IntKind.i64 i0, V.int IntKind.i64 i1]), (1, V.ptr 0 0), (2, V.sl (some true) true 0 []), (3, V.int IntKind.i64 0), (4, V.ptr 24 0), (8, V.bool false), (10, V.fn (Fn.func 87) [] [V.ptr 32 0])]), (50, Ob.row false 1 x1)], nx := 51 } = some (Exit.exit 0, { tm := [(0, V.yld 49), (1, V.ptr 32 0), (5, V.int IntKind.i64 i1), (6, V.int IntKind.i64 i2), (7, V.bool false)], hp := [(0, Ob.var [V.sl o0 b0 n0 x0, V.int IntKind.i64 i0, V.int IntKind.i64 i1]), (24, Ob.var [V.ref 50]), (32, Ob.var [V.sl o0 b0 n0 x0, V.int IntKind.i64 i0, V.int IntKind.i64 i1]), (49, Ob.loop LS.ready (Try.cfg.fc 54) (rangeCode Try.f54 0) [(0, V.agg [V.sl o0 b0 n0 x0, V.int IntKind.i64 i0, V.int IntKind.i64 i1]), (1, V.ptr 0 0), (2, V.sl (some true) true 0 []), (3, V.int IntKind.i64 0), (4, V.ptr 24 0), (8, V.bool false), (10, V.fn (Fn.func 87) [] [V.ptr 32 0])]), (50, Ob.row false 1 x1)], nx := 55 }) :=
  byL (k := k) (d := 7) [Hn.br 7 false] (And.intro c0 trivial) (by kernel_rfl)
inductive L54_8_R where
  | e0 (i2 : Int) (x1 : List V)
noncomputable def L54_8_end (i0 : Int) (i1 : Int) (b0 : Bool) (x0 : List V) (o0 : Option Bool) (n0 : Nat) : L54_8_R → Exit × St
  | .e0 i2 x1 => (Exit.exit 0, { tm := [(0, V.yld 49), (1, V.ptr 32 0), (5, V.int IntKind.i64 i1), (6, V.int IntKind.i64 i2), (7, V.bool false)], hp := [(0, Ob.var [V.sl o0 b0 n0 x0, V.int IntKind.i64 i0, V.int IntKind.i64 i1]), (24, Ob.var [V.ref 50]), (32, Ob.var [V.sl o0 b0 n0 x0, V.int IntKind.i64 i0, V.int IntKind.i64 i1]), (49, Ob.loop LS.ready (Try.cfg.fc 54) (rangeCode Try.f54 0) [(0, V.agg [V.sl o0 b0 n0 x0, V.int IntKind.i64 i0, V.int IntKind.i64 i1]), (1, V.ptr 0 0), (2, V.sl (some true) true 0 []), (3, V.int IntKind.i64 0), (4, V.ptr 24 0), (8, V.bool false), (10, V.fn (Fn.func 87) [] [V.ptr 32 0])]), (50, Ob.row false 1 x1)], nx := 55 })
def L54_8 (k : Nat) (i0 : Int) (i1 : Int) (b0 : Bool) (x0 : List V) (o0 : Option Bool) (n0 : Nat) : Nat → Int → List V → Option L54_8_R
  | 0, _, _ => none
  | f + 1, i2, x1 => (bif decide (i2 < i1) then (guardP ((↑x0.length : Int) ≠ 0) (guardP (n0 = 1) (((at? (x0) ((IntKind.i64.wrap (i0 + i2)).tmod (↑x0.length : Int))).bind dS).bind fun s0 => (guardP (x1.length + 1 ≤ maxLen') (L54_8 k i0 i1 b0 x0 o0 n0 f (IntKind.i64.wrap (i2 + 1)) (x1 ++ [V.str s0])))))) else (some (L54_8_R.e0 i2 x1)))
theorem L54_8_ok {i0 : Int} {i1 : Int} {b0 : Bool} {x0 : List V} {o0 : Option Bool} {n0 : Nat} {k : Nat} : ∀ {f : Nat} {i2 : Int} {x1 : List V} {r : L54_8_R}, L54_8 k i0 i1 b0 x0 o0 n0 f i2 x1 = some r →
    LoopsN Try.prog Try.cfg (k + 7) 50 Try.f87 (Try.cfg.fc 87) 0 [0, 1, 5, 6] f { tm := [(0, V.yld 49), (1, V.ptr 32 0), (5, V.int IntKind.i64 i1), (6, V.int IntKind.i64 i2)], hp := [(0, Ob.var [V.sl o0 b0 n0 x0, V.int IntKind.i64 i0, V.int IntKind.i64 i1]), (24, Ob.var [V.ref 50]), (32, Ob.var [V.sl o0 b0 n0 x0, V.int IntKind.i64 i0, V.int IntKind.i64 i1]), (49, Ob.loop LS.ready (Try.cfg.fc 54) (rangeCode Try.f54 0) [(0, V.agg [V.sl o0 b0 n0 x0, V.int IntKind.i64 i0, V.int IntKind.i64 i1]), (1, V.ptr 0 0), (2, V.sl (some true) true 0 []), (3, V.int IntKind.i64 0), (4, V.ptr 24 0), (8, V.bool false), (10, V.fn (Fn.func 87) [] [V.ptr 32 0])]), (50, Ob.row false 1 x1)], nx := 51 } (L54_8_end i0 i1 b0 x0 o0 n0 r) := by
  intro f
  induction f with
  | zero => intro i2 x1 r h; cases h
  | succ f ih =>
    intro i2 x1 r h
    rw [L54_8] at h
    rcases cond_elim h with ⟨e0, h⟩ | ⟨e0, h⟩
    ·
      obtain ⟨e1, h⟩ := guardP_some.1 h
      obtain ⟨e2, h⟩ := guardP_some.1 h
      obtain ⟨s0, e3, h⟩ := Option.bind_eq_some_iff.1 h
      obtain ⟨e4, h⟩ := guardP_some.1 h
      exact LoopsN.next (L54_8_b0 i0 i1 i2 b0 s0 x0 x1 o0 n0 k e0 (GrdP.mk ⟨rfl, e1⟩) (IdxP.of_at' (at_d dS_ok e3) e2) (GrdW.mk ⟨rfl, by decide, by decide, e4⟩)) (L54_8_b0h i0 i1 i2 b0 s0 x0 x1 o0 n0) (ih h)
    ·
      cases h; exact LoopsN.done (L54_8_b1 i0 i1 i2 b0 x0 x1 o0 n0 k e0) (fun h => by cases h)
theorem P54_0 (i0 : Int) (i1 : Int) (b0 : Bool) (b1 : Bool) (x0 : List V) (o0 : Option Bool) (n0 : Nat) (k : Nat)
    (c0 : callP (evalFn Try.prog Try.cfg (k + 8)) 47 [V.agg [V.sl o0 b0 n0 x0, V.int IntKind.i64 i0, V.int IntKind.i64 i1]] = some (V.bool b1))
    (c1 : (!b1) = true) :
    callP (evalFn Try.prog Try.cfg (k + 9)) 54 [V.agg [V.sl o0 b0 n0 x0, V.int IntKind.i64 i0, V.int IntKind.i64 i1]] = some (V.tup [V.sl (some true) true 0 [], V.int IntKind.i64 1]) :=
  byF (k := k) (d := 9) [Hn.call 7 (V.bool b1), Hn.br 8 true] (And.intro c0 (And.intro c1 trivial)) (by kernel_rfl)
theorem P54_1 (i0 : Int) (i1 : Int) (i2 : Int) (b0 : Bool) (b1 : Bool) (x0 : List V) (x1 : List V) (o0 : Option Bool) (n0 : Nat) (k : Nat)
    (c0 : callP (evalFn Try.prog Try.cfg (k + 8)) 47 [V.agg [V.sl o0 b0 n0 x0, V.int IntKind.i64 i0, V.int IntKind.i64 i1]] = some (V.bool b1))
    (c1 : (!b1) = false)
    (c2 : LoopsN Try.prog Try.cfg (k + 7) 50 Try.f87 (Try.cfg.fc 87) 0 [0, 1, 5, 6] (k + 7) { tm := [(0, V.yld 49), (1, V.ptr 32 0), (5, V.int IntKind.i64 i1), (6, V.int IntKind.i64 0)], hp := [(0, Ob.var [V.sl o0 b0 n0 x0, V.int IntKind.i64 i0, V.int IntKind.i64 i1]), (24, Ob.var [V.ref 50]), (32, Ob.var [V.sl o0 b0 n0 x0, V.int IntKind.i64 i0, V.int IntKind.i64 i1]), (49, Ob.loop LS.ready (Try.cfg.fc 54) (rangeCode Try.f54 0) [(0, V.agg [V.sl o0 b0 n0 x0, V.int IntKind.i64 i0, V.int IntKind.i64 i1]), (1, V.ptr 0 0), (2, V.sl (some true) true 0 []), (3, V.int IntKind.i64 0), (4, V.ptr 24 0), (8, V.bool false), (10, V.fn (Fn.func 87) [] [V.ptr 32 0])]), (50, Ob.row false 1 [])], nx := 51 } (Exit.exit 0, { tm := [(0, V.yld 49), (1, V.ptr 32 0), (5, V.int IntKind.i64 i1), (6, V.int IntKind.i64 i2), (7, V.bool false)], hp := [(0, Ob.var [V.sl o0 b0 n0 x0, V.int IntKind.i64 i0, V.int IntKind.i64 i1]), (24, Ob.var [V.ref 50]), (32, Ob.var [V.sl o0 b0 n0 x0, V.int IntKind.i64 i0, V.int IntKind.i64 i1]), (49, Ob.loop LS.ready (Try.cfg.fc 54) (rangeCode Try.f54 0) [(0, V.agg [V.sl o0 b0 n0 x0, V.int IntKind.i64 i0, V.int IntKind.i64 i1]), (1, V.ptr 0 0), (2, V.sl (some true) true 0 []), (3, V.int IntKind.i64 0), (4, V.ptr 24 0), (8, V.bool false), (10, V.fn (Fn.func 87) [] [V.ptr 32 0])]), (50, Ob.row false 1 x1)], nx := 55 })) :
    callP (evalFn Try.prog Try.cfg (k + 9)) 54 [V.agg [V.sl o0 b0 n0 x0, V.int IntKind.i64 i0, V.int IntKind.i64 i1]] = some (V.tup [V.sl none false 1 x1, V.int IntKind.i64 0]) :=
  byF (k := k) (d := 9) [Hn.call 7 (V.bool b1), Hn.br 8 false, Hn.enter, Hn.enter, Hn.loop (Exit.exit 0, { tm := [(0, V.yld 49), (1, V.ptr 32 0), (5, V.int IntKind.i64 i1), (6, V.int IntKind.i64 i2), (7, V.bool false)], hp := [(0, Ob.var [V.sl o0 b0 n0 x0, V.int IntKind.i64 i0, V.int IntKind.i64 i1]), (24, Ob.var [V.ref 50]), (32, Ob.var [V.sl o0 b0 n0 x0, V.int IntKind.i64 i0, V.int IntKind.i64 i1]), (49, Ob.loop LS.ready (Try.cfg.fc 54) (rangeCode Try.f54 0) [(0, V.agg [V.sl o0 b0 n0 x0, V.int IntKind.i64 i0, V.int IntKind.i64 i1]), (1, V.ptr 0 0), (2, V.sl (some true) true 0 []), (3, V.int IntKind.i64 0), (4, V.ptr 24 0), (8, V.bool false), (10, V.fn (Fn.func 87) [] [V.ptr 32 0])]), (50, Ob.row false 1 x1)], nx := 55 })] (And.intro c0 (And.intro c1 (And.intro c2 trivial))) (by kernel_rfl)
def F54 (k : Nat) (o0 : Option Bool) (b0 : Bool) (n0 : Nat) (x0 : List V) (i0 : Int) (i1 : Int) : Option (Option Bool × Bool × Nat × List V × Int) :=
  ((F47 (k + 2) (o0) (b0) (n0) (x0) (i0) (i1)).bind fun b1 => (bif !b1 then (some ((some true), (true), (0), ([]), (1))) else ((L54_8 k i0 i1 b0 x0 o0 n0 (k + 7) (0) ([])).bind fun
    | L54_8_R.e0 i2 x1 => (some ((none), (false), (1), (x1), (0))))))
theorem F54_ok {o0 : Option Bool} {b0 : Bool} {n0 : Nat} {x0 : List V} {i0 : Int} {i1 : Int} {k : Nat} {r : Option Bool × Bool × Nat × List V × Int} (h : F54 k o0 b0 n0 x0 i0 i1 = some r) :
    callP (evalFn Try.prog Try.cfg (k + 9)) 54 [V.agg [V.sl o0 b0 n0 x0, V.int IntKind.i64 i0, V.int IntKind.i64 i1]] = some (V.tup [V.sl r.1 r.2.1 r.2.2.1 r.2.2.2.1, V.int IntKind.i64 r.2.2.2.2]) := by
  unfold F54 at h
  obtain ⟨b1, e0, h⟩ := Option.bind_eq_some_iff.1 h
  rcases cond_elim h with ⟨e1, h⟩ | ⟨e1, h⟩
  ·
    have h := Option.some.inj h; subst h; exact P54_0 i0 i1 b0 b1 x0 o0 n0 k (F47_ok e0) e1
  ·
    obtain ⟨ee, e2, h⟩ := Option.bind_eq_some_iff.1 h
    cases ee with
    | e0 i2 x1 =>
      have h := Option.some.inj h; subst h; exact P54_1 i0 i1 i2 b0 b1 x0 x1 o0 n0 k (F47_ok e0) e1 (L54_8_ok e2)
theorem P51_0 (i0 : Int) (b0 : Bool) (b1 : Bool) (x0 : List V) (o0 : Option Bool) (n0 : Nat) (k : Nat)
    (c0 : callP (evalFn Try.prog Try.cfg (k + 11)) 54 [V.agg [V.sl none false 1 [V.str [99], V.str [], V.str [98]], V.int IntKind.i64 2, V.int IntKind.i64 2]] = some (V.tup [V.sl o0 b0 n0 x0, V.int IntKind.i64 i0]))
    (c1 : decide (i0 = 0) = true)
    (c2 : callP (evalFn Try.prog Try.cfg (k + 11)) 55 [V.sl o0 b0 n0 x0, V.sl none false 1 [V.str [98], V.str [99]]] = some (V.bool b1)) :
    callP (evalFn Try.prog Try.cfg (k + 12)) 51 [] = some (V.bool b1) :=
  byF (k := k) (d := 12) [Hn.call 6 (V.tup [V.sl o0 b0 n0 x0, V.int IntKind.i64 i0]), Hn.br 11 true, Hn.call 14 (V.bool b1)] (And.intro c0 (And.intro c1 (And.intro c2 trivial))) (by kernel_rfl)
theorem P51_1 (i0 : Int) (b0 : Bool) (x0 : List V) (o0 : Option Bool) (n0 : Nat) (k : Nat)
    (c0 : callP (evalFn Try.prog Try.cfg (k + 11)) 54 [V.agg [V.sl none false 1 [V.str [99], V.str [], V.str [98]], V.int IntKind.i64 2, V.int IntKind.i64 2]] = some (V.tup [V.sl o0 b0 n0 x0, V.int IntKind.i64 i0]))
    (c1 : decide (i0 = 0) = false) :
    callP (evalFn Try.prog Try.cfg (k + 12)) 51 [] = some (V.bool false) :=
  byF (k := k) (d := 12) [Hn.call 6 (V.tup [V.sl o0 b0 n0 x0, V.int IntKind.i64 i0]), Hn.br 11 false] (And.intro c0 (And.intro c1 trivial)) (by kernel_rfl)
def F51 (k : Nat) : Option (Bool) :=
  ((F54 (k + 2) (none) (false) (1) ([V.str [99], V.str [], V.str [98]]) (2) (2)).bind fun (o0, b0, n0, x0, i0) => (bif decide (i0 = 0) then ((F55 (k + 8) (o0) (b0) (n0) (x0) (none) (false) (1) ([V.str [98], V.str [99]])).bind fun b1 => (some (b1))) else (some (false))))
theorem F51_ok {k : Nat} {r : Bool} (h : F51 k = some r) :
    callP (evalFn Try.prog Try.cfg (k + 12)) 51 [] = some (V.bool r) := by
  unfold F51 at h
  obtain ⟨⟨o0, b0, n0, x0, i0⟩, e0, h⟩ := Option.bind_eq_some_iff.1 h
  rcases cond_elim h with ⟨e1, h⟩ | ⟨e1, h⟩
  ·
    obtain ⟨b1, e2, h⟩ := Option.bind_eq_some_iff.1 h
    have h := Option.some.inj h; subst h; exact P51_0 i0 b0 b1 x0 o0 n0 k (F54_ok e0) e1 (F55_ok e2)
  ·
    have h := Option.some.inj h; subst h; exact P51_1 i0 b0 x0 o0 n0 k (F54_ok e0) e1
end Go.Proofs
