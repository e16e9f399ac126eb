/-
  What functions of span and its reference answer, as functions on numbers and rows, each checked against the program.
-/
import Derived.Test.YtloboanoionagaaShort
set_option linter.unusedVariables false
set_option maxHeartbeats 0
set_option maxRecDepth 100000
namespace Go.Proofs
open Go Go.Sym

theorem P12_0 (i0 i1 : Int) (k : Nat)
    (c0 : decide (i1 = 0) = true) :
    cP ((k + 3)) 12 [V.agg [vu i0, vu i1]] = some (vi 1) :=
  byF (k := k) (d := 3) [Hn.br 3 true] (aI c0 trivial) (by kernel_rfl)
theorem P12_1 (i0 i1 : Int) (k : Nat)
    (c0 : decide (i1 = 0) = false)
    (c1 : decide (IntKind.u64.wrap (IntKind.u64.wrap (i0 + i1) - 1) < i0) = true) :
    cP ((k + 3)) 12 [V.agg [vu i0, vu i1]] = some (vi 2) :=
  byF (k := k) (d := 3) [Hn.br 3 false, Hn.br 7 true] (aI c0 (aI c1 trivial)) (by kernel_rfl)
theorem P12_2 (i0 i1 : Int) (k : Nat)
    (c0 : decide (i1 = 0) = false)
    (c1 : decide (IntKind.u64.wrap (IntKind.u64.wrap (i0 + i1) - 1) < i0) = false) :
    cP ((k + 3)) 12 [V.agg [vu i0, vu i1]] = some (vi 0) :=
  byF (k := k) (d := 3) [Hn.br 3 false, Hn.br 7 false] (aI c0 (aI c1 trivial)) (by kernel_rfl)
def F12 (k : Nat) (i0 i1 : Int) : Option (Int) :=
  (bif decide (i1 = 0) then (some (1)) else (bif decide (IntKind.u64.wrap (IntKind.u64.wrap (i0 + i1) - 1) < i0) then (some (2)) else (some (0))))
theorem F12_ok {i0 i1 : Int} {k : Nat} {r : Int} (h : F12 k i0 i1 = some r) :
    cP ((k + 3)) 12 [V.agg [vu i0, vu i1]] = some (vi r) := by
  unfold F12 at h
  rcases cond_elim h with ⟨e0, h⟩ | ⟨e0, h⟩
  ·
    have h := Option.some.inj h; subst h; exact P12_0 i0 i1 k e0
  ·
    rcases cond_elim h with ⟨e1, h⟩ | ⟨e1, h⟩
    ·
      have h := Option.some.inj h; subst h; exact P12_1 i0 i1 k e0 e1
    ·
      have h := Option.some.inj h; subst h; exact P12_2 i0 i1 k e0 e1
theorem P28_0 (i0 i1 : Int) (k : Nat) :
    cP ((k + 3)) 28 [V.agg [vu i0, vu i1]] = some (V.agg [vu i0, vu (IntKind.u64.wrap (IntKind.u64.wrap (i0 + i1) - 1))]) :=
  byF (k := k) (d := 3) [] trivial (by kernel_rfl)
def F28 (k : Nat) (i0 i1 : Int) : Option (Int × Int) :=
  (some ((i0), (IntKind.u64.wrap (IntKind.u64.wrap (i0 + i1) - 1))))
theorem F28_ok {i0 i1 : Int} {k : Nat} {r : Int × Int} (h : F28 k i0 i1 = some r) :
    cP ((k + 3)) 28 [V.agg [vu i0, vu i1]] = some (V.agg [vu r.1, vu r.2]) := by
  unfold F28 at h
  have h := Option.some.inj h; subst h; exact P28_0 i0 i1 k
def dAu64u64Z : V → Option (Int × Int)
  | V.agg [V.int .u64 a0, V.int .u64 a1] => some (a0, a1)
  | _ => none
theorem dAu64u64Z_ok {v : V} {a : Int × Int} (h : dAu64u64Z v = some a) : v = (fun (a : Int × Int) => V.agg [vu a.1, vu a.2] ) a := by
  unfold dAu64u64Z at h; split at h
  · cases h; rfl
  · cases h
theorem L29_0_b0 (i0 i1 i2 i3 : Int) (b0 : Bool) (x0 : List V) (o0 : Option Bool) (n0 k : Nat)
    (c0 : decide (i0 < (↑x0.length : Int)) = true)
    (c1 : IdxP x0 i0 n0 2 (V.agg [vu i1, vu i2]))
    (c2 : cP ((k + 5)) 12 [V.agg [vu i1, vu i2]] = some (vi i3))
    (c3 : (!decide (i3 = 0)) = true) :
    evalCode Try.prog Try.cfg (evalFn Try.prog Try.cfg (k + 5)) 0 (Try.cfg.fc 29) (k + 5) (loopBody Try.f29 0) { tm := [(0, V.sl o0 b0 n0 x0), (2, vi 0), (6, V.sl o0 b0 n0 x0), (7, vi (↑x0.length : Int)), (8, vi i0)], hp := [], nx := 0 } = some (Exit.ret, { tm := [(0, V.sl o0 b0 n0 x0), (2, vi i3), (4, V.ptr 12 0), (5, vi i3), (6, V.sl o0 b0 n0 x0), (7, vi (↑x0.length : Int)), (8, vi i0), (9, V.bool true), (15, V.bool true)], hp := [(12, Ob.var [vu i1, vu i2])], nx := 48 }) :=
  byL (k := k) (d := 5) [Hn.br 9 true, Hn.op 10 ((V.agg [vu i1, vu i2]).cpt 0) [], Hn.call 13 (vi i3), Hn.br 15 true] (aI c0 (aI c1 (aI c2 (aI c3 trivial)))) (by kernel_rfl)
theorem L29_0_b1 (i0 i1 i2 i3 : Int) (b0 : Bool) (x0 : List V) (o0 : Option Bool) (n0 k : Nat)
    (c0 : decide (i0 < (↑x0.length : Int)) = true)
    (c1 : IdxP x0 i0 n0 2 (V.agg [vu i1, vu i2]))
    (c2 : cP ((k + 5)) 12 [V.agg [vu i1, vu i2]] = some (vi i3))
    (c3 : (!decide (i3 = 0)) = false) :
    evalCode Try.prog Try.cfg (evalFn Try.prog Try.cfg (k + 5)) 0 (Try.cfg.fc 29) (k + 5) (loopBody Try.f29 0) { tm := [(0, V.sl o0 b0 n0 x0), (2, vi 0), (6, V.sl o0 b0 n0 x0), (7, vi (↑x0.length : Int)), (8, vi i0)], hp := [], nx := 0 } = some (Exit.normal, { tm := [(0, V.sl o0 b0 n0 x0), (2, vi 0), (4, V.ptr 12 0), (5, vi i3), (6, V.sl o0 b0 n0 x0), (7, vi (↑x0.length : Int)), (8, vi (IntKind.i64.wrap (i0 + 1))), (9, V.bool true), (15, V.bool false)], hp := [(12, Ob.var [vu i1, vu i2])], nx := 48 }) :=
  byL (k := k) (d := 5) [Hn.br 9 true, Hn.op 10 ((V.agg [vu i1, vu i2]).cpt 0) [], Hn.call 13 (vi i3), Hn.br 15 false] (aI c0 (aI c1 (aI c2 (aI c3 trivial)))) (by kernel_rfl)
theorem L29_0_b1h (i0 i1 i2 i3 : Int) (b0 : Bool) (x0 : List V) (o0 : Option Bool) (n0 : Nat) : head 0 [0, 2, 6, 7, 8] (Try.cfg.fc 29).acc { tm := [(0, V.sl o0 b0 n0 x0), (2, vi 0), (4, V.ptr 12 0), (5, vi i3), (6, V.sl o0 b0 n0 x0), (7, vi (↑x0.length : Int)), (8, vi (IntKind.i64.wrap (i0 + 1))), (9, V.bool true), (15, V.bool false)], hp := [(12, Ob.var [vu i1, vu i2])], nx := 48 } = { tm := [(0, V.sl o0 b0 n0 x0), (2, vi 0), (6, V.sl o0 b0 n0 x0), (7, vi (↑x0.length : Int)), (8, vi (IntKind.i64.wrap (i0 + 1)))], hp := [], nx := 0 } := by kernel_rfl
theorem L29_0_b2 (i0 : Int) (b0 : Bool) (x0 : List V) (o0 : Option Bool) (n0 k : Nat)
    (c0 : decide (i0 < (↑x0.length : Int)) = false) :
    evalCode Try.prog Try.cfg (evalFn Try.prog Try.cfg (k + 5)) 0 (Try.cfg.fc 29) (k + 5) (loopBody Try.f29 0) { tm := [(0, V.sl o0 b0 n0 x0), (2, vi 0), (6, V.sl o0 b0 n0 x0), (7, vi (↑x0.length : Int)), (8, vi i0)], hp := [], nx := 0 } = some (Exit.exit 0, { tm := [(0, V.sl o0 b0 n0 x0), (2, vi 0), (6, V.sl o0 b0 n0 x0), (7, vi (↑x0.length : Int)), (8, vi i0), (9, V.bool false)], hp := [], nx := 4 }) :=
  byL (k := k) (d := 5) [Hn.br 9 false] (aI c0 trivial) (by kernel_rfl)
inductive L29_0_R where
  | e0 (i0 : Int) (i1 : Int) (i2 : Int) (i3 : Int)
  | e1 (i0 : Int)
noncomputable def L29_0_end (b0 : Bool) (x0 : List V) (o0 : Option Bool) (n0 : Nat) : L29_0_R → Exit × St
  | .e0 i0 i1 i2 i3 => (Exit.ret, { tm := [(0, V.sl o0 b0 n0 x0), (2, V.int .i64 i3), (4, V.ptr 12 0), (5, V.int .i64 i3), (6, V.sl o0 b0 n0 x0), (7, V.int .i64 (↑x0.length : Int)), (8, V.int .i64 i0), (9, V.bool true), (15, V.bool true)], hp := [(12, Ob.var [V.int .u64 i1, V.int .u64 i2])], nx := 48 })
  | .e1 i0 => (Exit.exit 0, { tm := [(0, V.sl o0 b0 n0 x0), (2, V.int .i64 0), (6, V.sl o0 b0 n0 x0), (7, V.int .i64 (↑x0.length : Int)), (8, V.int .i64 i0), (9, V.bool false)], hp := [], nx := 4 })
def L29_0 (k : Nat) (b0 : Bool) (x0 : List V) (o0 : Option Bool) (n0 : Nat) : Nat → Int → Option L29_0_R
  | 0, _ => none
  | f + 1, i0 => (bif decide (i0 < (↑x0.length : Int)) then (guardP (n0 = (2 : Nat)) (((at? (x0) (i0)).bind dAu64u64Z).bind fun (i1, i2) => ((F12 (k + 2) (i1) (i2)).bind fun i3 => (bif !decide (i3 = 0) then (some (L29_0_R.e0 i0 i1 i2 i3)) else (L29_0 k b0 x0 o0 n0 f (IntKind.i64.wrap (i0 + 1))))))) else (some (L29_0_R.e1 i0)))
theorem L29_0_ok {b0 : Bool} {x0 : List V} {o0 : Option Bool} {n0 k : Nat} : ∀ {f : Nat} {i0 : Int} {r : L29_0_R}, L29_0 k b0 x0 o0 n0 f i0 = some r →
    LoopsN Try.prog Try.cfg (k + 5) 0 Try.f29 (Try.cfg.fc 29) 0 [0, 2, 6, 7, 8] f { tm := [(0, V.sl o0 b0 n0 x0), (2, vi 0), (6, V.sl o0 b0 n0 x0), (7, vi (↑x0.length : Int)), (8, vi i0)], hp := [], nx := 0 } (L29_0_end b0 x0 o0 n0 r) := by
  intro f
  induction f with
  | zero => intro i0 r h; cases h
  | succ f ih =>
    intro i0 r h
    rw [L29_0] at h
    rcases cond_elim h with ⟨e0, h⟩ | ⟨e0, h⟩
    ·
      obtain ⟨e1, h⟩ := guardP_some.1 h
      obtain ⟨⟨i1, i2⟩, e2, h⟩ := bE h
      obtain ⟨i3, e3, h⟩ := bE h
      rcases cond_elim h with ⟨e4, h⟩ | ⟨e4, h⟩
      ·
        cases h; exact LoopsN.done (L29_0_b0 i0 i1 i2 i3 b0 x0 o0 n0 k e0 (IdxP.of_at' (at_d dAu64u64Z_ok e2 :) e1) (F12_ok e3) e4) (fun h => by cases h)
      ·
        exact LoopsN.next (L29_0_b1 i0 i1 i2 i3 b0 x0 o0 n0 k e0 (IdxP.of_at' (at_d dAu64u64Z_ok e2 :) e1) (F12_ok e3) e4) (L29_0_b1h i0 i1 i2 i3 b0 x0 o0 n0) (ih h)
    ·
      cases h; exact LoopsN.done (L29_0_b2 i0 b0 x0 o0 n0 k e0) (fun h => by cases h)
theorem P29_0 (i0 : Int) (b0 : Bool) (x0 : List V) (o0 : Option Bool) (n0 k : Nat)
    (c0 : LoopsN Try.prog Try.cfg (k + 5) 0 Try.f29 (Try.cfg.fc 29) 0 [0, 2, 6, 7, 8] (k + 5) { tm := [(0, V.sl o0 b0 n0 x0), (2, vi 0), (6, V.sl o0 b0 n0 x0), (7, vi (↑x0.length : Int)), (8, vi 0)], hp := [], nx := 0 } (Exit.exit 0, { tm := [(0, V.sl o0 b0 n0 x0), (2, vi 0), (6, V.sl o0 b0 n0 x0), (7, vi (↑x0.length : Int)), (8, vi i0), (9, V.bool false)], hp := [], nx := 4 })) :
    cP ((k + 6)) 29 [V.sl o0 b0 n0 x0] = some (vi 0) :=
  byF (k := k) (d := 6) [Hn.loop (Exit.exit 0, { tm := [(0, V.sl o0 b0 n0 x0), (2, vi 0), (6, V.sl o0 b0 n0 x0), (7, vi (↑x0.length : Int)), (8, vi i0), (9, V.bool false)], hp := [], nx := 4 })] (aI c0 trivial) (by kernel_rfl)
theorem P29_1 (i0 i1 i2 i3 : Int) (b0 : Bool) (x0 : List V) (o0 : Option Bool) (n0 k : Nat)
    (c0 : LoopsN Try.prog Try.cfg (k + 5) 0 Try.f29 (Try.cfg.fc 29) 0 [0, 2, 6, 7, 8] (k + 5) { tm := [(0, V.sl o0 b0 n0 x0), (2, vi 0), (6, V.sl o0 b0 n0 x0), (7, vi (↑x0.length : Int)), (8, vi 0)], hp := [], nx := 0 } (Exit.ret, { tm := [(0, V.sl o0 b0 n0 x0), (2, vi i3), (4, V.ptr 12 0), (5, vi i3), (6, V.sl o0 b0 n0 x0), (7, vi (↑x0.length : Int)), (8, vi i0), (9, V.bool true), (15, V.bool true)], hp := [(12, Ob.var [vu i1, vu i2])], nx := 48 })) :
    cP ((k + 6)) 29 [V.sl o0 b0 n0 x0] = some (vi i3) :=
  byF (k := k) (d := 6) [Hn.loop (Exit.ret, { tm := [(0, V.sl o0 b0 n0 x0), (2, vi i3), (4, V.ptr 12 0), (5, vi i3), (6, V.sl o0 b0 n0 x0), (7, vi (↑x0.length : Int)), (8, vi i0), (9, V.bool true), (15, V.bool true)], hp := [(12, Ob.var [vu i1, vu i2])], nx := 48 })] (aI c0 trivial) (by kernel_rfl)
def F29 (k : Nat) (o0 : Option Bool) (b0 : Bool) (n0 : Nat) (x0 : List V) : Option (Int) :=
  ((L29_0 k b0 x0 o0 n0 (k + 5) (0)).bind fun
    | L29_0_R.e0 i0 i1 i2 i3 => (some (i3))
    | L29_0_R.e1 i0 => (some (0)))
theorem F29_ok {o0 : Option Bool} {b0 : Bool} {n0 : Nat} {x0 : List V} {k : Nat} {r : Int} (h : F29 k o0 b0 n0 x0 = some r) :
    cP ((k + 6)) 29 [V.sl o0 b0 n0 x0] = some (vi r) := by
  unfold F29 at h
  obtain ⟨ee, e0, h⟩ := bE h
  cases ee with
  | e0 i0 i1 i2 i3 =>
    have h := Option.some.inj h; subst h; exact P29_1 i0 i1 i2 i3 b0 x0 o0 n0 k (L29_0_ok e0)
  | e1 i0 =>
    have h := Option.some.inj h; subst h; exact P29_0 i0 b0 x0 o0 n0 k (L29_0_ok e0)
theorem P30_0 (i0 i1 : Int) (k : Nat) :
    cP ((k + 3)) 30 [V.agg [vu i0, vu i1]] = some (V.agg [vu i0, vu (IntKind.u64.wrap (IntKind.u64.wrap (i1 - i0) + 1))]) :=
  byF (k := k) (d := 3) [] trivial (by kernel_rfl)
def F30 (k : Nat) (i0 i1 : Int) : Option (Int × Int) :=
  (some ((i0), (IntKind.u64.wrap (IntKind.u64.wrap (i1 - i0) + 1))))
theorem F30_ok {i0 i1 : Int} {k : Nat} {r : Int × Int} (h : F30 k i0 i1 = some r) :
    cP ((k + 3)) 30 [V.agg [vu i0, vu i1]] = some (V.agg [vu r.1, vu r.2]) := by
  unfold F30 at h
  have h := Option.some.inj h; subst h; exact P30_0 i0 i1 k
theorem P10_0 (i0 i1 : Int) (k : Nat)
    (c0 : decide (i1 = 0) = true) :
    cP ((k + 3)) 10 [V.agg [vu i0, vu i1]] = some (vi 1) :=
  byF (k := k) (d := 3) [Hn.br 5 true] (aI c0 trivial) (by kernel_rfl)
theorem P10_1 (i0 i1 : Int) (k : Nat)
    (c0 : decide (i1 = 0) = false)
    (c1 : decide (IntKind.u64.wrap (18446744073709551615 - i0) < IntKind.u64.wrap (i1 - 1)) = true) :
    cP ((k + 3)) 10 [V.agg [vu i0, vu i1]] = some (vi 2) :=
  byF (k := k) (d := 3) [Hn.br 5 false, Hn.br 12 true] (aI c0 (aI c1 trivial)) (by kernel_rfl)
theorem P10_2 (i0 i1 : Int) (k : Nat)
    (c0 : decide (i1 = 0) = false)
    (c1 : decide (IntKind.u64.wrap (18446744073709551615 - i0) < IntKind.u64.wrap (i1 - 1)) = false) :
    cP ((k + 3)) 10 [V.agg [vu i0, vu i1]] = some (vi 0) :=
  byF (k := k) (d := 3) [Hn.br 5 false, Hn.br 12 false] (aI c0 (aI c1 trivial)) (by kernel_rfl)
def F10 (k : Nat) (i0 i1 : Int) : Option (Int) :=
  (bif decide (i1 = 0) then (some (1)) else (bif decide (IntKind.u64.wrap (18446744073709551615 - i0) < IntKind.u64.wrap (i1 - 1)) then (some (2)) else (some (0))))
theorem F10_ok {i0 i1 : Int} {k : Nat} {r : Int} (h : F10 k i0 i1 = some r) :
    cP ((k + 3)) 10 [V.agg [vu i0, vu i1]] = some (vi r) := by
  unfold F10 at h
  rcases cond_elim h with ⟨e0, h⟩ | ⟨e0, h⟩
  ·
    have h := Option.some.inj h; subst h; exact P10_0 i0 i1 k e0
  ·
    rcases cond_elim h with ⟨e1, h⟩ | ⟨e1, h⟩
    ·
      have h := Option.some.inj h; subst h; exact P10_1 i0 i1 k e0 e1
    ·
      have h := Option.some.inj h; subst h; exact P10_2 i0 i1 k e0 e1
theorem P13_0 (i0 i1 : Int) (k : Nat) :
    cP ((k + 3)) 13 [V.agg [vu i0, vu i1]] = some (vu (IntKind.u64.wrap (i0 + IntKind.u64.wrap (i1 - 1)))) :=
  byF (k := k) (d := 3) [] trivial (by kernel_rfl)
def F13 (k : Nat) (i0 i1 : Int) : Option (Int) :=
  (some (IntKind.u64.wrap (i0 + IntKind.u64.wrap (i1 - 1))))
theorem F13_ok {i0 i1 : Int} {k : Nat} {r : Int} (h : F13 k i0 i1 = some r) :
    cP ((k + 3)) 13 [V.agg [vu i0, vu i1]] = some (vu r) := by
  unfold F13 at h
  have h := Option.some.inj h; subst h; exact P13_0 i0 i1 k
theorem L16_0_b0 (i0 i1 i2 i3 : Int) (b0 : Bool) (x0 : List V) (o0 : Option Bool) (n0 k : Nat)
    (c0 : decide (i0 < (↑x0.length : Int)) = true)
    (c1 : IdxP x0 i0 n0 2 (V.agg [vu i1, vu i2]))
    (c2 : cP ((k + 5)) 10 [V.agg [vu i1, vu i2]] = some (vi i3))
    (c3 : (!decide (i3 = 0)) = true)
    (c4 : cP ((k + 5)) 10 [V.agg [vu i1, vu i2]] = some (vi i3)) :
    evalCode Try.prog Try.cfg (evalFn Try.prog Try.cfg (k + 5)) 0 (Try.cfg.fc 16) (k + 5) (loopBody Try.f16 0) { tm := [(0, V.sl o0 b0 n0 x0), (2, vi 0), (5, V.sl o0 b0 n0 x0), (6, vi (↑x0.length : Int)), (7, vi i0)], hp := [], nx := 0 } = some (Exit.ret, { tm := [(0, V.sl o0 b0 n0 x0), (2, vi i3), (4, V.ptr 12 0), (5, V.sl o0 b0 n0 x0), (6, vi (↑x0.length : Int)), (7, vi i0), (8, V.bool true), (13, V.bool true)], hp := [(12, Ob.var [vu i1, vu i2])], nx := 44 }) :=
  byL (k := k) (d := 5) [Hn.br 8 true, Hn.op 9 ((V.agg [vu i1, vu i2]).cpt 0) [], Hn.call 12 (vi i3), Hn.br 13 true, Hn.call 15 (vi i3)] (aI c0 (aI c1 (aI c2 (aI c3 (aI c4 trivial))))) (by kernel_rfl)
theorem L16_0_b1 (i0 i1 i2 i3 : Int) (b0 : Bool) (x0 : List V) (o0 : Option Bool) (n0 k : Nat)
    (c0 : decide (i0 < (↑x0.length : Int)) = true)
    (c1 : IdxP x0 i0 n0 2 (V.agg [vu i1, vu i2]))
    (c2 : cP ((k + 5)) 10 [V.agg [vu i1, vu i2]] = some (vi i3))
    (c3 : (!decide (i3 = 0)) = false) :
    evalCode Try.prog Try.cfg (evalFn Try.prog Try.cfg (k + 5)) 0 (Try.cfg.fc 16) (k + 5) (loopBody Try.f16 0) { tm := [(0, V.sl o0 b0 n0 x0), (2, vi 0), (5, V.sl o0 b0 n0 x0), (6, vi (↑x0.length : Int)), (7, vi i0)], hp := [], nx := 0 } = some (Exit.normal, { tm := [(0, V.sl o0 b0 n0 x0), (2, vi 0), (4, V.ptr 12 0), (5, V.sl o0 b0 n0 x0), (6, vi (↑x0.length : Int)), (7, vi (IntKind.i64.wrap (i0 + 1))), (8, V.bool true), (13, V.bool false)], hp := [(12, Ob.var [vu i1, vu i2])], nx := 40 }) :=
  byL (k := k) (d := 5) [Hn.br 8 true, Hn.op 9 ((V.agg [vu i1, vu i2]).cpt 0) [], Hn.call 12 (vi i3), Hn.br 13 false] (aI c0 (aI c1 (aI c2 (aI c3 trivial)))) (by kernel_rfl)
theorem L16_0_b1h (i0 i1 i2 : Int) (b0 : Bool) (x0 : List V) (o0 : Option Bool) (n0 : Nat) : head 0 [0, 2, 5, 6, 7] (Try.cfg.fc 16).acc { tm := [(0, V.sl o0 b0 n0 x0), (2, vi 0), (4, V.ptr 12 0), (5, V.sl o0 b0 n0 x0), (6, vi (↑x0.length : Int)), (7, vi (IntKind.i64.wrap (i0 + 1))), (8, V.bool true), (13, V.bool false)], hp := [(12, Ob.var [vu i1, vu i2])], nx := 40 } = { tm := [(0, V.sl o0 b0 n0 x0), (2, vi 0), (5, V.sl o0 b0 n0 x0), (6, vi (↑x0.length : Int)), (7, vi (IntKind.i64.wrap (i0 + 1)))], hp := [], nx := 0 } := by kernel_rfl
theorem L16_0_b2 (i0 : Int) (b0 : Bool) (x0 : List V) (o0 : Option Bool) (n0 k : Nat)
    (c0 : decide (i0 < (↑x0.length : Int)) = false) :
    evalCode Try.prog Try.cfg (evalFn Try.prog Try.cfg (k + 5)) 0 (Try.cfg.fc 16) (k + 5) (loopBody Try.f16 0) { tm := [(0, V.sl o0 b0 n0 x0), (2, vi 0), (5, V.sl o0 b0 n0 x0), (6, vi (↑x0.length : Int)), (7, vi i0)], hp := [], nx := 0 } = some (Exit.exit 0, { tm := [(0, V.sl o0 b0 n0 x0), (2, vi 0), (5, V.sl o0 b0 n0 x0), (6, vi (↑x0.length : Int)), (7, vi i0), (8, V.bool false)], hp := [], nx := 4 }) :=
  byL (k := k) (d := 5) [Hn.br 8 false] (aI c0 trivial) (by kernel_rfl)
inductive L16_0_R where
  | e0 (i0 : Int) (i1 : Int) (i2 : Int) (i3 : Int)
  | e1 (i0 : Int)
noncomputable def L16_0_end (b0 : Bool) (x0 : List V) (o0 : Option Bool) (n0 : Nat) : L16_0_R → Exit × St
  | .e0 i0 i1 i2 i3 => (Exit.ret, { tm := [(0, V.sl o0 b0 n0 x0), (2, V.int .i64 i3), (4, V.ptr 12 0), (5, V.sl o0 b0 n0 x0), (6, V.int .i64 (↑x0.length : Int)), (7, V.int .i64 i0), (8, V.bool true), (13, V.bool true)], hp := [(12, Ob.var [V.int .u64 i1, V.int .u64 i2])], nx := 44 })
  | .e1 i0 => (Exit.exit 0, { tm := [(0, V.sl o0 b0 n0 x0), (2, V.int .i64 0), (5, V.sl o0 b0 n0 x0), (6, V.int .i64 (↑x0.length : Int)), (7, V.int .i64 i0), (8, V.bool false)], hp := [], nx := 4 })
def L16_0 (k : Nat) (b0 : Bool) (x0 : List V) (o0 : Option Bool) (n0 : Nat) : Nat → Int → Option L16_0_R
  | 0, _ => none
  | f + 1, i0 => (bif decide (i0 < (↑x0.length : Int)) then (guardP (n0 = (2 : Nat)) (((at? (x0) (i0)).bind dAu64u64Z).bind fun (i1, i2) => ((F10 (k + 2) (i1) (i2)).bind fun i3 => (bif !decide (i3 = 0) then (some (L16_0_R.e0 i0 i1 i2 i3)) else (L16_0 k b0 x0 o0 n0 f (IntKind.i64.wrap (i0 + 1))))))) else (some (L16_0_R.e1 i0)))
theorem L16_0_ok {b0 : Bool} {x0 : List V} {o0 : Option Bool} {n0 k : Nat} : ∀ {f : Nat} {i0 : Int} {r : L16_0_R}, L16_0 k b0 x0 o0 n0 f i0 = some r →
    LoopsN Try.prog Try.cfg (k + 5) 0 Try.f16 (Try.cfg.fc 16) 0 [0, 2, 5, 6, 7] f { tm := [(0, V.sl o0 b0 n0 x0), (2, vi 0), (5, V.sl o0 b0 n0 x0), (6, vi (↑x0.length : Int)), (7, vi i0)], hp := [], nx := 0 } (L16_0_end b0 x0 o0 n0 r) := by
  intro f
  induction f with
  | zero => intro i0 r h; cases h
  | succ f ih =>
    intro i0 r h
    rw [L16_0] at h
    rcases cond_elim h with ⟨e0, h⟩ | ⟨e0, h⟩
    ·
      obtain ⟨e1, h⟩ := guardP_some.1 h
      obtain ⟨⟨i1, i2⟩, e2, h⟩ := bE h
      obtain ⟨i3, e3, h⟩ := bE h
      rcases cond_elim h with ⟨e4, h⟩ | ⟨e4, h⟩
      ·
        cases h; exact LoopsN.done (L16_0_b0 i0 i1 i2 i3 b0 x0 o0 n0 k e0 (IdxP.of_at' (at_d dAu64u64Z_ok e2 :) e1) (F10_ok e3) e4 (F10_ok e3)) (fun h => by cases h)
      ·
        exact LoopsN.next (L16_0_b1 i0 i1 i2 i3 b0 x0 o0 n0 k e0 (IdxP.of_at' (at_d dAu64u64Z_ok e2 :) e1) (F10_ok e3) e4) (L16_0_b1h i0 i1 i2 b0 x0 o0 n0) (ih h)
    ·
      cases h; exact LoopsN.done (L16_0_b2 i0 b0 x0 o0 n0 k e0) (fun h => by cases h)
theorem P16_0 (i0 : Int) (b0 : Bool) (x0 : List V) (o0 : Option Bool) (n0 k : Nat)
    (c0 : LoopsN Try.prog Try.cfg (k + 5) 0 Try.f16 (Try.cfg.fc 16) 0 [0, 2, 5, 6, 7] (k + 5) { tm := [(0, V.sl o0 b0 n0 x0), (2, vi 0), (5, V.sl o0 b0 n0 x0), (6, vi (↑x0.length : Int)), (7, vi 0)], hp := [], nx := 0 } (Exit.exit 0, { tm := [(0, V.sl o0 b0 n0 x0), (2, vi 0), (5, V.sl o0 b0 n0 x0), (6, vi (↑x0.length : Int)), (7, vi i0), (8, V.bool false)], hp := [], nx := 4 })) :
    cP ((k + 6)) 16 [V.sl o0 b0 n0 x0] = some (vi 0) :=
  byF (k := k) (d := 6) [Hn.loop (Exit.exit 0, { tm := [(0, V.sl o0 b0 n0 x0), (2, vi 0), (5, V.sl o0 b0 n0 x0), (6, vi (↑x0.length : Int)), (7, vi i0), (8, V.bool false)], hp := [], nx := 4 })] (aI c0 trivial) (by kernel_rfl)
theorem P16_1 (i0 i1 i2 i3 : Int) (b0 : Bool) (x0 : List V) (o0 : Option Bool) (n0 k : Nat)
    (c0 : LoopsN Try.prog Try.cfg (k + 5) 0 Try.f16 (Try.cfg.fc 16) 0 [0, 2, 5, 6, 7] (k + 5) { tm := [(0, V.sl o0 b0 n0 x0), (2, vi 0), (5, V.sl o0 b0 n0 x0), (6, vi (↑x0.length : Int)), (7, vi 0)], hp := [], nx := 0 } (Exit.ret, { tm := [(0, V.sl o0 b0 n0 x0), (2, vi i3), (4, V.ptr 12 0), (5, V.sl o0 b0 n0 x0), (6, vi (↑x0.length : Int)), (7, vi i0), (8, V.bool true), (13, V.bool true)], hp := [(12, Ob.var [vu i1, vu i2])], nx := 44 })) :
    cP ((k + 6)) 16 [V.sl o0 b0 n0 x0] = some (vi i3) :=
  byF (k := k) (d := 6) [Hn.loop (Exit.ret, { tm := [(0, V.sl o0 b0 n0 x0), (2, vi i3), (4, V.ptr 12 0), (5, V.sl o0 b0 n0 x0), (6, vi (↑x0.length : Int)), (7, vi i0), (8, V.bool true), (13, V.bool true)], hp := [(12, Ob.var [vu i1, vu i2])], nx := 44 })] (aI c0 trivial) (by kernel_rfl)
def F16 (k : Nat) (o0 : Option Bool) (b0 : Bool) (n0 : Nat) (x0 : List V) : Option (Int) :=
  ((L16_0 k b0 x0 o0 n0 (k + 5) (0)).bind fun
    | L16_0_R.e0 i0 i1 i2 i3 => (some (i3))
    | L16_0_R.e1 i0 => (some (0)))
theorem F16_ok {o0 : Option Bool} {b0 : Bool} {n0 : Nat} {x0 : List V} {k : Nat} {r : Int} (h : F16 k o0 b0 n0 x0 = some r) :
    cP ((k + 6)) 16 [V.sl o0 b0 n0 x0] = some (vi r) := by
  unfold F16 at h
  obtain ⟨ee, e0, h⟩ := bE h
  cases ee with
  | e0 i0 i1 i2 i3 =>
    have h := Option.some.inj h; subst h; exact P16_1 i0 i1 i2 i3 b0 x0 o0 n0 k (L16_0_ok e0)
  | e1 i0 =>
    have h := Option.some.inj h; subst h; exact P16_0 i0 b0 x0 o0 n0 k (L16_0_ok e0)
theorem P42_0 (i0 i1 i2 i3 : Int) (k : Nat)
    (c0 : decide (i1 < i2) = true) :
    cP ((k + 6)) 42 [vu i0, vu i1, V.agg [vu i2, vu i3]] = some (V.bool (decide (IntKind.u64.wrap (i2 - i1) = 1))) :=
  byF (k := k) (d := 6) [Hn.br 10 true] (aI c0 trivial) (by kernel_rfl)
theorem P42_1 (i0 i1 i2 i3 i4 : Int) (k : Nat)
    (c0 : decide (i1 < i2) = false)
    (c1 : cP ((k + 5)) 13 [V.agg [vu i2, vu i3]] = some (vu i4))
    (c2 : decide (i4 < i0) = true)
    (c3 : cP ((k + 5)) 13 [V.agg [vu i2, vu i3]] = some (vu i4)) :
    cP ((k + 6)) 42 [vu i0, vu i1, V.agg [vu i2, vu i3]] = some (V.bool (decide (IntKind.u64.wrap (i0 - i4) = 1))) :=
  byF (k := k) (d := 6) [Hn.br 10 false, Hn.call 17 (vu i4), Hn.br 19 true, Hn.call 22 (vu i4)] (aI c0 (aI c1 (aI c2 (aI c3 trivial)))) (by kernel_rfl)
theorem P42_2 (i0 i1 i2 i3 i4 : Int) (k : Nat)
    (c0 : decide (i1 < i2) = false)
    (c1 : cP ((k + 5)) 13 [V.agg [vu i2, vu i3]] = some (vu i4))
    (c2 : decide (i4 < i0) = false) :
    cP ((k + 6)) 42 [vu i0, vu i1, V.agg [vu i2, vu i3]] = some (V.bool true) :=
  byF (k := k) (d := 6) [Hn.br 10 false, Hn.call 17 (vu i4), Hn.br 19 false] (aI c0 (aI c1 (aI c2 trivial))) (by kernel_rfl)
def F42 (k : Nat) (i0 i1 i2 i3 : Int) : Option (Bool) :=
  (bif decide (i1 < i2) then (some (decide (IntKind.u64.wrap (i2 - i1) = 1))) else ((F13 (k + 2) (i2) (i3)).bind fun i4 => (bif decide (i4 < i0) then (some (decide (IntKind.u64.wrap (i0 - i4) = 1))) else (some (true)))))
theorem F42_ok {i0 i1 i2 i3 : Int} {k : Nat} {r : Bool} (h : F42 k i0 i1 i2 i3 = some r) :
    cP ((k + 6)) 42 [vu i0, vu i1, V.agg [vu i2, vu i3]] = some (V.bool r) := by
  unfold F42 at h
  rcases cond_elim h with ⟨e0, h⟩ | ⟨e0, h⟩
  ·
    have h := Option.some.inj h; subst h; exact P42_0 i0 i1 i2 i3 k e0
  ·
    obtain ⟨i4, e1, h⟩ := bE h
    rcases cond_elim h with ⟨e2, h⟩ | ⟨e2, h⟩
    ·
      have h := Option.some.inj h; subst h; exact P42_1 i0 i1 i2 i3 i4 k e0 (F13_ok e1) e2 (F13_ok e1)
    ·
      have h := Option.some.inj h; subst h; exact P42_2 i0 i1 i2 i3 i4 k e0 (F13_ok e1) e2
end Go.Proofs
