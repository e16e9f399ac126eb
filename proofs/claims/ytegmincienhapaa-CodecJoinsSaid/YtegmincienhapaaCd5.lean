/-
  What functions of codec and its reference answer, each checked against the program.
-/
import Derived.Test.YtegmincienhapaaCd4
set_option linter.unusedVariables false
set_option maxHeartbeats 0
set_option maxRecDepth 100000
namespace Go.Proofs
open Go Go.Sym

theorem P16_0 (s0 : List UInt8) (k : Nat)
    (c0 : decide (4096 < (↑s0.length : Int)) = true) :
    callP (evalFn Try.prog Try.cfg (k + 6)) 16 [V.str s0] = some (V.tup [V.str [], V.int .i64 4]) :=
  byF (k := k) (d := 6) [Hn.br 6 true] (And.intro c0 trivial) (by kernel_rfl)
theorem P16_1 (s0 : List UInt8) (s1 : List UInt8) (k : Nat)
    (c0 : decide (4096 < (↑s0.length : Int)) = false)
    (c1 : callP (evalFn Try.prog Try.cfg (k + 5)) 43 [V.int .u64 (IntKind.u64.wrap (↑s0.length : Int)), V.int .i64 2] = some (V.str s1))
    (c2 : GrdP (s1.length + s0.length ≤ maxText) (V.str (s1 ++ s0))) :
    callP (evalFn Try.prog Try.cfg (k + 6)) 16 [V.str s0] = some (V.tup [V.str (s1 ++ s0), V.int .i64 0]) :=
  byF (k := k) (d := 6) [Hn.br 6 false, Hn.call 10 (V.str s1), Hn.op 12 (V.str (s1 ++ s0)) []] (And.intro c0 (And.intro c1 (And.intro c2 trivial))) (by kernel_rfl)
def F16 (k : Nat) (s0 : List UInt8) : Option (List UInt8 × Int) :=
  (bif decide (4096 < (↑s0.length : Int)) then (some (([]), (4))) else ((F43 (k + 2) (IntKind.u64.wrap (↑s0.length : Int)) (2)).bind fun s1 => (guardP (s1.length + s0.length ≤ maxText) (some ((s1 ++ s0), (0))))))
theorem F16_ok {s0 : List UInt8} {k : Nat} {r : List UInt8 × Int} (h : F16 k s0 = some r) :
    callP (evalFn Try.prog Try.cfg (k + 6)) 16 [V.str s0] = some (V.tup [V.str r.1, V.int .i64 r.2]) := by
  unfold F16 at h
  rcases cond_elim h with ⟨e0, h⟩ | ⟨e0, h⟩
  ·
    have h := Option.some.inj h; subst h; exact P16_0 s0 k e0
  ·
    obtain ⟨s1, e1, h⟩ := Option.bind_eq_some_iff.1 h
    obtain ⟨e2, h⟩ := guardP_some.1 h
    have h := Option.some.inj h; subst h; exact P16_1 s0 s1 k e0 (F43_ok e1) (GrdP.mk e2)
def dAbu64sZ : V → Option (Bool × Int × List UInt8)
  | V.agg [V.bool a0, V.int .u64 a1, V.str a2] => some (a0, a1, a2)
  | _ => none
theorem dAbu64sZ_ok {v : V} {a : Bool × Int × List UInt8} (h : dAbu64sZ v = some a) : v = (fun (a : Bool × Int × List UInt8) => V.agg [V.bool a.1, V.int .u64 a.2.1, V.str a.2.2] ) a := by
  unfold dAbu64sZ at h; split at h
  · cases h; rfl
  · cases h
theorem L17_1_b0 (i0 i1 : Int) (b0 b1 : Bool) (s0 : List UInt8) (s1 : List UInt8) (s2 : List UInt8) (x0 : List V) (o0 : Option Bool) (n0 : Nat) (k : Nat)
    (c0 : decide (i0 < (↑x0.length : Int)) = true)
    (c1 : IdxP x0 i0 n0 3 (V.agg [V.bool b1, V.int .u64 i1, V.str s1]))
    (c2 : (!b1) = true)
    (c3 : callP (evalFn Try.prog Try.cfg (k + 8)) 13 [V.int .u64 i1] = some (V.str s2))
    (c4 : libSem { k := 1, t := 64, e := 5 } [V.ptr 0 0, V.str s2] [(0, Ob.bld 64 5 1 s0), (1, Ob.raw 0), (14, Ob.var [V.bool b1, V.int .u64 i1, V.str s1])] 46 = some (V.tup [V.int .i64 (↑s2.length : Int), V.nili], [(0, Ob.bld 64 5 46 (s0 ++ s2)), (1, Ob.dead), (14, Ob.var [V.bool b1, V.int .u64 i1, V.str s1]), (46, Ob.raw 0)], 47)) :
    evalCode Try.prog Try.cfg (evalFn Try.prog Try.cfg (k + 8)) 0 (Try.cfg.fc 17) (k + 8) (loopBody Try.f17 0) { tm := [(0, V.sl o0 b0 n0 x0), (2, V.str []), (3, V.int .i64 0), (4, V.ptr 0 0), (9, V.sl o0 b0 n0 x0), (10, V.int .i64 (↑x0.length : Int)), (11, V.int .i64 i0)], hp := [(0, Ob.bld 64 5 1 s0), (1, Ob.raw 0)], nx := 2 } = some (Exit.normal, { tm := [(0, V.sl o0 b0 n0 x0), (2, V.str []), (3, V.int .i64 0), (4, V.ptr 0 0), (6, V.ptr 14 0), (9, V.sl o0 b0 n0 x0), (10, V.int .i64 (↑x0.length : Int)), (11, V.int .i64 (IntKind.i64.wrap (i0 + 1))), (12, V.bool true), (17, V.bool true)], hp := [(0, Ob.bld 64 5 46 (s0 ++ s2)), (1, Ob.dead), (14, Ob.var [V.bool b1, V.int .u64 i1, V.str s1]), (46, Ob.raw 0)], nx := 55 }) :=
  byL (k := k) (d := 8) [Hn.br 12 true, Hn.op 13 ((V.agg [V.bool b1, V.int .u64 i1, V.str s1]).cpt 0) [], Hn.br 17 true, Hn.call 20 (V.str s2), Hn.enter, Hn.lib (V.tup [V.int .i64 (↑s2.length : Int), V.nili], [(0, Ob.bld 64 5 46 (s0 ++ s2)), (1, Ob.dead), (14, Ob.var [V.bool b1, V.int .u64 i1, V.str s1]), (46, Ob.raw 0)], 47)] (And.intro c0 (And.intro c1 (And.intro c2 (And.intro c3 (And.intro c4 trivial))))) (by kernel_rfl)
theorem L17_1_b0h (i0 i1 : Int) (b0 b1 : Bool) (s0 : List UInt8) (s1 : List UInt8) (s2 : List UInt8) (x0 : List V) (o0 : Option Bool) (n0 : Nat) : head 0 [0, 2, 3, 4, 9, 10, 11] (Try.cfg.fc 17).acc { tm := [(0, V.sl o0 b0 n0 x0), (2, V.str []), (3, V.int .i64 0), (4, V.ptr 0 0), (6, V.ptr 14 0), (9, V.sl o0 b0 n0 x0), (10, V.int .i64 (↑x0.length : Int)), (11, V.int .i64 (IntKind.i64.wrap (i0 + 1))), (12, V.bool true), (17, V.bool true)], hp := [(0, Ob.bld 64 5 46 (s0 ++ s2)), (1, Ob.dead), (14, Ob.var [V.bool b1, V.int .u64 i1, V.str s1]), (46, Ob.raw 0)], nx := 55 } = { tm := [(0, V.sl o0 b0 n0 x0), (2, V.str []), (3, V.int .i64 0), (4, V.ptr 0 0), (9, V.sl o0 b0 n0 x0), (10, V.int .i64 (↑x0.length : Int)), (11, V.int .i64 (IntKind.i64.wrap (i0 + 1)))], hp := [(0, Ob.bld 64 5 1 (s0 ++ s2)), (1, Ob.raw 0)], nx := 2 } := by kernel_rfl
theorem L17_1_b1 (i0 i1 i2 : Int) (b0 b1 : Bool) (s0 : List UInt8) (s1 : List UInt8) (s2 : List UInt8) (x0 : List V) (o0 : Option Bool) (n0 : Nat) (k : Nat)
    (c0 : decide (i0 < (↑x0.length : Int)) = true)
    (c1 : IdxP x0 i0 n0 3 (V.agg [V.bool b1, V.int .u64 i1, V.str s1]))
    (c2 : (!b1) = false)
    (c3 : callP (evalFn Try.prog Try.cfg (k + 8)) 16 [V.str s1] = some (V.tup [V.str s2, V.int .i64 i2]))
    (c4 : (!decide (i2 = 0)) = true) :
    evalCode Try.prog Try.cfg (evalFn Try.prog Try.cfg (k + 8)) 0 (Try.cfg.fc 17) (k + 8) (loopBody Try.f17 0) { tm := [(0, V.sl o0 b0 n0 x0), (2, V.str []), (3, V.int .i64 0), (4, V.ptr 0 0), (9, V.sl o0 b0 n0 x0), (10, V.int .i64 (↑x0.length : Int)), (11, V.int .i64 i0)], hp := [(0, Ob.bld 64 5 1 s0), (1, Ob.raw 0)], nx := 2 } = some (Exit.ret, { tm := [(0, V.sl o0 b0 n0 x0), (2, V.str []), (3, V.int .i64 i2), (4, V.ptr 0 0), (6, V.ptr 14 0), (7, V.str s2), (8, V.int .i64 i2), (9, V.sl o0 b0 n0 x0), (10, V.int .i64 (↑x0.length : Int)), (11, V.int .i64 i0), (12, V.bool true), (17, V.bool false), (29, V.bool true)], hp := [(0, Ob.bld 64 5 1 s0), (1, Ob.raw 0), (14, Ob.var [V.bool b1, V.int .u64 i1, V.str s1])], nx := 86 }) :=
  byL (k := k) (d := 8) [Hn.br 12 true, Hn.op 13 ((V.agg [V.bool b1, V.int .u64 i1, V.str s1]).cpt 0) [], Hn.br 17 false, Hn.call 25 (V.tup [V.str s2, V.int .i64 i2]), Hn.br 29 true] (And.intro c0 (And.intro c1 (And.intro c2 (And.intro c3 (And.intro c4 trivial))))) (by kernel_rfl)
theorem L17_1_b2 (i0 i1 i2 : Int) (b0 b1 : Bool) (s0 : List UInt8) (s1 : List UInt8) (s2 : List UInt8) (x0 : List V) (o0 : Option Bool) (n0 : Nat) (k : Nat)
    (c0 : decide (i0 < (↑x0.length : Int)) = true)
    (c1 : IdxP x0 i0 n0 3 (V.agg [V.bool b1, V.int .u64 i1, V.str s1]))
    (c2 : (!b1) = false)
    (c3 : callP (evalFn Try.prog Try.cfg (k + 8)) 16 [V.str s1] = some (V.tup [V.str s2, V.int .i64 i2]))
    (c4 : (!decide (i2 = 0)) = false)
    (c5 : libSem { k := 1, t := 64, e := 5 } [V.ptr 0 0, V.str s2] [(0, Ob.bld 64 5 1 s0), (1, Ob.raw 0), (14, Ob.var [V.bool b1, V.int .u64 i1, V.str s1])] 78 = some (V.tup [V.int .i64 (↑s2.length : Int), V.nili], [(0, Ob.bld 64 5 78 (s0 ++ s2)), (1, Ob.dead), (14, Ob.var [V.bool b1, V.int .u64 i1, V.str s1]), (78, Ob.raw 0)], 79)) :
    evalCode Try.prog Try.cfg (evalFn Try.prog Try.cfg (k + 8)) 0 (Try.cfg.fc 17) (k + 8) (loopBody Try.f17 0) { tm := [(0, V.sl o0 b0 n0 x0), (2, V.str []), (3, V.int .i64 0), (4, V.ptr 0 0), (9, V.sl o0 b0 n0 x0), (10, V.int .i64 (↑x0.length : Int)), (11, V.int .i64 i0)], hp := [(0, Ob.bld 64 5 1 s0), (1, Ob.raw 0)], nx := 2 } = some (Exit.normal, { tm := [(0, V.sl o0 b0 n0 x0), (2, V.str []), (3, V.int .i64 0), (4, V.ptr 0 0), (6, V.ptr 14 0), (7, V.str s2), (8, V.int .i64 i2), (9, V.sl o0 b0 n0 x0), (10, V.int .i64 (↑x0.length : Int)), (11, V.int .i64 (IntKind.i64.wrap (i0 + 1))), (12, V.bool true), (17, V.bool false), (29, V.bool false)], hp := [(0, Ob.bld 64 5 78 (s0 ++ s2)), (1, Ob.dead), (14, Ob.var [V.bool b1, V.int .u64 i1, V.str s1]), (78, Ob.raw 0)], nx := 87 }) :=
  byL (k := k) (d := 8) [Hn.br 12 true, Hn.op 13 ((V.agg [V.bool b1, V.int .u64 i1, V.str s1]).cpt 0) [], Hn.br 17 false, Hn.call 25 (V.tup [V.str s2, V.int .i64 i2]), Hn.br 29 false, Hn.enter, Hn.lib (V.tup [V.int .i64 (↑s2.length : Int), V.nili], [(0, Ob.bld 64 5 78 (s0 ++ s2)), (1, Ob.dead), (14, Ob.var [V.bool b1, V.int .u64 i1, V.str s1]), (78, Ob.raw 0)], 79)] (And.intro c0 (And.intro c1 (And.intro c2 (And.intro c3 (And.intro c4 (And.intro c5 trivial)))))) (by kernel_rfl)
theorem L17_1_b2h (i0 i1 i2 : Int) (b0 b1 : Bool) (s0 : List UInt8) (s1 : List UInt8) (s2 : List UInt8) (x0 : List V) (o0 : Option Bool) (n0 : Nat) : head 0 [0, 2, 3, 4, 9, 10, 11] (Try.cfg.fc 17).acc { tm := [(0, V.sl o0 b0 n0 x0), (2, V.str []), (3, V.int .i64 0), (4, V.ptr 0 0), (6, V.ptr 14 0), (7, V.str s2), (8, V.int .i64 i2), (9, V.sl o0 b0 n0 x0), (10, V.int .i64 (↑x0.length : Int)), (11, V.int .i64 (IntKind.i64.wrap (i0 + 1))), (12, V.bool true), (17, V.bool false), (29, V.bool false)], hp := [(0, Ob.bld 64 5 78 (s0 ++ s2)), (1, Ob.dead), (14, Ob.var [V.bool b1, V.int .u64 i1, V.str s1]), (78, Ob.raw 0)], nx := 87 } = { tm := [(0, V.sl o0 b0 n0 x0), (2, V.str []), (3, V.int .i64 0), (4, V.ptr 0 0), (9, V.sl o0 b0 n0 x0), (10, V.int .i64 (↑x0.length : Int)), (11, V.int .i64 (IntKind.i64.wrap (i0 + 1)))], hp := [(0, Ob.bld 64 5 1 (s0 ++ s2)), (1, Ob.raw 0)], nx := 2 } := by kernel_rfl
theorem L17_1_b3 (i0 : Int) (b0 : Bool) (s0 : List UInt8) (x0 : List V) (o0 : Option Bool) (n0 : Nat) (k : Nat)
    (c0 : decide (i0 < (↑x0.length : Int)) = false) :
    evalCode Try.prog Try.cfg (evalFn Try.prog Try.cfg (k + 8)) 0 (Try.cfg.fc 17) (k + 8) (loopBody Try.f17 0) { tm := [(0, V.sl o0 b0 n0 x0), (2, V.str []), (3, V.int .i64 0), (4, V.ptr 0 0), (9, V.sl o0 b0 n0 x0), (10, V.int .i64 (↑x0.length : Int)), (11, V.int .i64 i0)], hp := [(0, Ob.bld 64 5 1 s0), (1, Ob.raw 0)], nx := 2 } = some (Exit.exit 0, { tm := [(0, V.sl o0 b0 n0 x0), (2, V.str []), (3, V.int .i64 0), (4, V.ptr 0 0), (9, V.sl o0 b0 n0 x0), (10, V.int .i64 (↑x0.length : Int)), (11, V.int .i64 i0), (12, V.bool false)], hp := [(0, Ob.bld 64 5 1 s0), (1, Ob.raw 0)], nx := 6 }) :=
  byL (k := k) (d := 8) [Hn.br 12 false] (And.intro c0 trivial) (by kernel_rfl)
inductive L17_1_R where
  | e0 (i0 : Int) (i1 : Int) (i2 : Int) (b1 : Bool) (s0 : List UInt8) (s1 : List UInt8) (s2 : List UInt8)
  | e1 (i0 : Int) (s0 : List UInt8)
noncomputable def L17_1_end (b0 : Bool) (x0 : List V) (o0 : Option Bool) (n0 : Nat) : L17_1_R → Exit × St
  | .e0 i0 i1 i2 b1 s0 s1 s2 => (Exit.ret, { tm := [(0, V.sl o0 b0 n0 x0), (2, V.str []), (3, V.int .i64 i2), (4, V.ptr 0 0), (6, V.ptr 14 0), (7, V.str s2), (8, V.int .i64 i2), (9, V.sl o0 b0 n0 x0), (10, V.int .i64 (↑x0.length : Int)), (11, V.int .i64 i0), (12, V.bool true), (17, V.bool false), (29, V.bool true)], hp := [(0, Ob.bld 64 5 1 s0), (1, Ob.raw 0), (14, Ob.var [V.bool b1, V.int .u64 i1, V.str s1])], nx := 86 })
  | .e1 i0 s0 => (Exit.exit 0, { tm := [(0, V.sl o0 b0 n0 x0), (2, V.str []), (3, V.int .i64 0), (4, V.ptr 0 0), (9, V.sl o0 b0 n0 x0), (10, V.int .i64 (↑x0.length : Int)), (11, V.int .i64 i0), (12, V.bool false)], hp := [(0, Ob.bld 64 5 1 s0), (1, Ob.raw 0)], nx := 6 })
def L17_1 (k : Nat) (b0 : Bool) (x0 : List V) (o0 : Option Bool) (n0 : Nat) : Nat → Int → List UInt8 → Option L17_1_R
  | 0, _, _ => none
  | f + 1, i0, s0 => (bif decide (i0 < (↑x0.length : Int)) then (guardP (n0 = (3 : Nat)) (((at? (x0) (i0)).bind dAbu64sZ).bind fun (b1, i1, s1) => (bif !b1 then ((F13 (k + 2) (i1)).bind fun s2 => (guardP (s0.length + s2.length ≤ maxBld) (L17_1 k b0 x0 o0 n0 f (IntKind.i64.wrap (i0 + 1)) (s0 ++ s2)))) else ((F16 (k + 2) (s1)).bind fun (s2, i2) => (bif !decide (i2 = 0) then (some (L17_1_R.e0 i0 i1 i2 b1 s0 s1 s2)) else (guardP (s0.length + s2.length ≤ maxBld) (L17_1 k b0 x0 o0 n0 f (IntKind.i64.wrap (i0 + 1)) (s0 ++ s2)))))))) else (some (L17_1_R.e1 i0 s0)))
theorem L17_1_ok {b0 : Bool} {x0 : List V} {o0 : Option Bool} {n0 : Nat} {k : Nat} : ∀ {f : Nat} {i0 : Int} {s0 : List UInt8} {r : L17_1_R}, L17_1 k b0 x0 o0 n0 f i0 s0 = some r →
    LoopsN Try.prog Try.cfg (k + 8) 0 Try.f17 (Try.cfg.fc 17) 0 [0, 2, 3, 4, 9, 10, 11] f { tm := [(0, V.sl o0 b0 n0 x0), (2, V.str []), (3, V.int .i64 0), (4, V.ptr 0 0), (9, V.sl o0 b0 n0 x0), (10, V.int .i64 (↑x0.length : Int)), (11, V.int .i64 i0)], hp := [(0, Ob.bld 64 5 1 s0), (1, Ob.raw 0)], nx := 2 } (L17_1_end b0 x0 o0 n0 r) := by
  intro f
  induction f with
  | zero => intro i0 s0 r h; cases h
  | succ f ih =>
    intro i0 s0 r h
    rw [L17_1] at h
    rcases cond_elim h with ⟨e0, h⟩ | ⟨e0, h⟩
    ·
      obtain ⟨e1, h⟩ := guardP_some.1 h
      obtain ⟨⟨b1, i1, s1⟩, e2, h⟩ := Option.bind_eq_some_iff.1 h
      rcases cond_elim h with ⟨e3, h⟩ | ⟨e3, h⟩
      ·
        obtain ⟨s2, e4, h⟩ := Option.bind_eq_some_iff.1 h
        obtain ⟨e5, h⟩ := guardP_some.1 h
        exact LoopsN.next (L17_1_b0 i0 i1 b0 b1 s0 s1 s2 x0 o0 n0 k e0 (IdxP.of_at' (at_d dAbu64sZ_ok e2 :) e1) e3 (F13_ok e4) (libG e5 (by kernel_rfl))) (L17_1_b0h i0 i1 b0 b1 s0 s1 s2 x0 o0 n0) (ih h)
      ·
        obtain ⟨⟨s2, i2⟩, e4, h⟩ := Option.bind_eq_some_iff.1 h
        rcases cond_elim h with ⟨e5, h⟩ | ⟨e5, h⟩
        ·
          cases h; exact LoopsN.done (L17_1_b1 i0 i1 i2 b0 b1 s0 s1 s2 x0 o0 n0 k e0 (IdxP.of_at' (at_d dAbu64sZ_ok e2 :) e1) e3 (F16_ok e4) e5) (fun h => by cases h)
        ·
          obtain ⟨e6, h⟩ := guardP_some.1 h
          exact LoopsN.next (L17_1_b2 i0 i1 i2 b0 b1 s0 s1 s2 x0 o0 n0 k e0 (IdxP.of_at' (at_d dAbu64sZ_ok e2 :) e1) e3 (F16_ok e4) e5 (libG e6 (by kernel_rfl))) (L17_1_b2h i0 i1 i2 b0 b1 s0 s1 s2 x0 o0 n0) (ih h)
    ·
      cases h; exact LoopsN.done (L17_1_b3 i0 b0 s0 x0 o0 n0 k e0) (fun h => by cases h)
theorem P17_0 (i0 : Int) (b0 : Bool) (s0 : List UInt8) (x0 : List V) (o0 : Option Bool) (n0 : Nat) (k : Nat)
    (c0 : LoopsN Try.prog Try.cfg (k + 8) 0 Try.f17 (Try.cfg.fc 17) 0 [0, 2, 3, 4, 9, 10, 11] (k + 8) { tm := [(0, V.sl o0 b0 n0 x0), (2, V.str []), (3, V.int .i64 0), (4, V.ptr 0 0), (9, V.sl o0 b0 n0 x0), (10, V.int .i64 (↑x0.length : Int)), (11, V.int .i64 0)], hp := [(0, Ob.bld 64 5 1 []), (1, Ob.raw 0)], nx := 2 } (Exit.exit 0, { tm := [(0, V.sl o0 b0 n0 x0), (2, V.str []), (3, V.int .i64 0), (4, V.ptr 0 0), (9, V.sl o0 b0 n0 x0), (10, V.int .i64 (↑x0.length : Int)), (11, V.int .i64 i0), (12, V.bool false)], hp := [(0, Ob.bld 64 5 1 s0), (1, Ob.raw 0)], nx := 6 })) :
    callP (evalFn Try.prog Try.cfg (k + 9)) 17 [V.sl o0 b0 n0 x0] = some (V.tup [V.str s0, V.int .i64 0]) :=
  byF (k := k) (d := 9) [Hn.loop (Exit.exit 0, { tm := [(0, V.sl o0 b0 n0 x0), (2, V.str []), (3, V.int .i64 0), (4, V.ptr 0 0), (9, V.sl o0 b0 n0 x0), (10, V.int .i64 (↑x0.length : Int)), (11, V.int .i64 i0), (12, V.bool false)], hp := [(0, Ob.bld 64 5 1 s0), (1, Ob.raw 0)], nx := 6 }), Hn.enter] (And.intro c0 trivial) (by kernel_rfl)
theorem P17_1 (i0 i1 i2 : Int) (b0 b1 : Bool) (s0 : List UInt8) (s1 : List UInt8) (s2 : List UInt8) (x0 : List V) (o0 : Option Bool) (n0 : Nat) (k : Nat)
    (c0 : LoopsN Try.prog Try.cfg (k + 8) 0 Try.f17 (Try.cfg.fc 17) 0 [0, 2, 3, 4, 9, 10, 11] (k + 8) { tm := [(0, V.sl o0 b0 n0 x0), (2, V.str []), (3, V.int .i64 0), (4, V.ptr 0 0), (9, V.sl o0 b0 n0 x0), (10, V.int .i64 (↑x0.length : Int)), (11, V.int .i64 0)], hp := [(0, Ob.bld 64 5 1 []), (1, Ob.raw 0)], nx := 2 } (Exit.ret, { tm := [(0, V.sl o0 b0 n0 x0), (2, V.str []), (3, V.int .i64 i2), (4, V.ptr 0 0), (6, V.ptr 14 0), (7, V.str s2), (8, V.int .i64 i2), (9, V.sl o0 b0 n0 x0), (10, V.int .i64 (↑x0.length : Int)), (11, V.int .i64 i0), (12, V.bool true), (17, V.bool false), (29, V.bool true)], hp := [(0, Ob.bld 64 5 1 s0), (1, Ob.raw 0), (14, Ob.var [V.bool b1, V.int .u64 i1, V.str s1])], nx := 86 })) :
    callP (evalFn Try.prog Try.cfg (k + 9)) 17 [V.sl o0 b0 n0 x0] = some (V.tup [V.str [], V.int .i64 i2]) :=
  byF (k := k) (d := 9) [Hn.loop (Exit.ret, { tm := [(0, V.sl o0 b0 n0 x0), (2, V.str []), (3, V.int .i64 i2), (4, V.ptr 0 0), (6, V.ptr 14 0), (7, V.str s2), (8, V.int .i64 i2), (9, V.sl o0 b0 n0 x0), (10, V.int .i64 (↑x0.length : Int)), (11, V.int .i64 i0), (12, V.bool true), (17, V.bool false), (29, V.bool true)], hp := [(0, Ob.bld 64 5 1 s0), (1, Ob.raw 0), (14, Ob.var [V.bool b1, V.int .u64 i1, V.str s1])], nx := 86 })] (And.intro c0 trivial) (by kernel_rfl)
def F17 (k : Nat) (o0 : Option Bool) (b0 : Bool) (n0 : Nat) (x0 : List V) : Option (List UInt8 × Int) :=
  ((L17_1 k b0 x0 o0 n0 (k + 8) (0) ([])).bind fun
    | L17_1_R.e0 i0 i1 i2 b1 s0 s1 s2 => (some (([]), (i2)))
    | L17_1_R.e1 i0 s0 => (some ((s0), (0))))
theorem F17_ok {o0 : Option Bool} {b0 : Bool} {n0 : Nat} {x0 : List V} {k : Nat} {r : List UInt8 × Int} (h : F17 k o0 b0 n0 x0 = some r) :
    callP (evalFn Try.prog Try.cfg (k + 9)) 17 [V.sl o0 b0 n0 x0] = some (V.tup [V.str r.1, V.int .i64 r.2]) := by
  unfold F17 at h
  obtain ⟨ee, e0, h⟩ := Option.bind_eq_some_iff.1 h
  cases ee with
  | e0 i0 i1 i2 b1 s0 s1 s2 =>
    have h := Option.some.inj h; subst h; exact P17_1 i0 i1 i2 b0 b1 s0 s1 s2 x0 o0 n0 k (L17_1_ok e0)
  | e1 i0 s0 =>
    have h := Option.some.inj h; subst h; exact P17_0 i0 b0 s0 x0 o0 n0 k (L17_1_ok e0)
theorem L18_2_b0 (i1 i2 i3 : Int) (s0 : List UInt8) (k : Nat)
    (c0 : decide (i3 < i1) = true)
    (c1 : GrdP (s0.length + (List.map Sym.byteOf ((1 : Nat), [V.int .u8 (IntKind.u8.wrap (i2.tmod (256 : Int)))]).snd).length ≤ maxText) (V.str (s0 ++ List.map Sym.byteOf ((1 : Nat), [V.int .u8 (IntKind.u8.wrap (i2.tmod (256 : Int)))]).snd))) :
    evalCode Try.prog Try.cfg (evalFn Try.prog Try.cfg (k + 2)) 0 (Try.cfg.fc 18) (k + 2) (loopBody Try.f18 0) { tm := [(0, V.int .u64 i2), (1, V.int .i64 i1), (4, V.str []), (5, V.str s0), (6, V.int .i64 i3)], hp := [], nx := 0 } = some (Exit.normal, { tm := [(0, V.int .u64 (IntKind.u64.wrap (i2.tdiv 256))), (1, V.int .i64 i1), (4, V.str []), (5, V.str (s0 ++ List.map Sym.byteOf (1, [V.int .u8 (IntKind.u8.wrap (i2.tmod 256))]).snd)), (6, V.int .i64 (IntKind.i64.wrap (i3 + 1))), (9, V.bool true)], hp := [(28, Ob.row false 1 [V.int .u8 (IntKind.u8.wrap (i2.tmod 256))])], nx := 68 }) :=
  byL (k := k) (d := 2) [Hn.br 9 true, Hn.op 18 (V.str (s0 ++ List.map Sym.byteOf (1, [V.int .u8 (IntKind.u8.wrap (i2.tmod 256))]).snd)) []] (And.intro c0 (And.intro c1 trivial)) (by kernel_rfl)
theorem L18_2_b0h (i1 i2 i3 : Int) (s0 : List UInt8) : head 0 [0, 1, 4, 5, 6] (Try.cfg.fc 18).acc { tm := [(0, V.int .u64 (IntKind.u64.wrap (i2.tdiv 256))), (1, V.int .i64 i1), (4, V.str []), (5, V.str (s0 ++ List.map Sym.byteOf (1, [V.int .u8 (IntKind.u8.wrap (i2.tmod 256))]).snd)), (6, V.int .i64 (IntKind.i64.wrap (i3 + 1))), (9, V.bool true)], hp := [(28, Ob.row false 1 [V.int .u8 (IntKind.u8.wrap (i2.tmod 256))])], nx := 68 } = { tm := [(0, V.int .u64 (IntKind.u64.wrap (i2.tdiv 256))), (1, V.int .i64 i1), (4, V.str []), (5, V.str (s0 ++ List.map Sym.byteOf (1, [V.int .u8 (IntKind.u8.wrap (i2.tmod 256))]).snd)), (6, V.int .i64 (IntKind.i64.wrap (i3 + 1)))], hp := [], nx := 0 } := by kernel_rfl
theorem L18_2_b1 (i1 i2 i3 : Int) (s0 : List UInt8) (k : Nat)
    (c0 : decide (i3 < i1) = false) :
    evalCode Try.prog Try.cfg (evalFn Try.prog Try.cfg (k + 2)) 0 (Try.cfg.fc 18) (k + 2) (loopBody Try.f18 0) { tm := [(0, V.int .u64 i2), (1, V.int .i64 i1), (4, V.str []), (5, V.str s0), (6, V.int .i64 i3)], hp := [], nx := 0 } = some (Exit.exit 0, { tm := [(0, V.int .u64 i2), (1, V.int .i64 i1), (4, V.str []), (5, V.str s0), (6, V.int .i64 i3), (9, V.bool false)], hp := [], nx := 12 }) :=
  byL (k := k) (d := 2) [Hn.br 9 false] (And.intro c0 trivial) (by kernel_rfl)
inductive L18_2_R where
  | e0 (i2 : Int) (i3 : Int) (s0 : List UInt8)
noncomputable def L18_2_end (i1 : Int) : L18_2_R → Exit × St
  | .e0 i2 i3 s0 => (Exit.exit 0, { tm := [(0, V.int .u64 i2), (1, V.int .i64 i1), (4, V.str []), (5, V.str s0), (6, V.int .i64 i3), (9, V.bool false)], hp := [], nx := 12 })
def L18_2 (k : Nat) (i1 : Int) : Nat → Int → List UInt8 → Int → Option L18_2_R
  | 0, _, _, _ => none
  | f + 1, i2, s0, i3 => (bif decide (i3 < i1) then (guardP (s0.length + (List.map Sym.byteOf ((1 : Nat), [V.int .u8 (IntKind.u8.wrap (i2.tmod (256 : Int)))]).snd).length ≤ maxText) (L18_2 k i1 f (IntKind.u64.wrap (i2.tdiv 256)) (s0 ++ List.map Sym.byteOf (1, [V.int .u8 (IntKind.u8.wrap (i2.tmod 256))]).snd) (IntKind.i64.wrap (i3 + 1)))) else (some (L18_2_R.e0 i2 i3 s0)))
theorem L18_2_ok {i1 : Int} {k : Nat} : ∀ {f : Nat} {i2 : Int} {s0 : List UInt8} {i3 : Int} {r : L18_2_R}, L18_2 k i1 f i2 s0 i3 = some r →
    LoopsN Try.prog Try.cfg (k + 2) 0 Try.f18 (Try.cfg.fc 18) 0 [0, 1, 4, 5, 6] f { tm := [(0, V.int .u64 i2), (1, V.int .i64 i1), (4, V.str []), (5, V.str s0), (6, V.int .i64 i3)], hp := [], nx := 0 } (L18_2_end i1 r) := by
  intro f
  induction f with
  | zero => intro i2 s0 i3 r h; cases h
  | succ f ih =>
    intro i2 s0 i3 r h
    rw [L18_2] at h
    rcases cond_elim h with ⟨e0, h⟩ | ⟨e0, h⟩
    ·
      obtain ⟨e1, h⟩ := guardP_some.1 h
      exact LoopsN.next (L18_2_b0 i1 i2 i3 s0 k e0 (GrdP.mk e1)) (L18_2_b0h i1 i2 i3 s0) (ih h)
    ·
      cases h; exact LoopsN.done (L18_2_b1 i1 i2 i3 s0 k e0) (fun h => by cases h)
theorem P18_0 (i0 i1 i2 i3 : Int) (s0 : List UInt8) (k : Nat)
    (c0 : LoopsN Try.prog Try.cfg (k + 2) 0 Try.f18 (Try.cfg.fc 18) 0 [0, 1, 4, 5, 6] (k + 2) { tm := [(0, V.int .u64 i0), (1, V.int .i64 i1), (4, V.str []), (5, V.str []), (6, V.int .i64 0)], hp := [], nx := 0 } (Exit.exit 0, { tm := [(0, V.int .u64 i2), (1, V.int .i64 i1), (4, V.str []), (5, V.str s0), (6, V.int .i64 i3), (9, V.bool false)], hp := [], nx := 12 })) :
    callP (evalFn Try.prog Try.cfg (k + 3)) 18 [V.int .u64 i0, V.int .i64 i1] = some (V.str s0) :=
  byF (k := k) (d := 3) [Hn.loop (Exit.exit 0, { tm := [(0, V.int .u64 i2), (1, V.int .i64 i1), (4, V.str []), (5, V.str s0), (6, V.int .i64 i3), (9, V.bool false)], hp := [], nx := 12 })] (And.intro c0 trivial) (by kernel_rfl)
def F18 (k : Nat) (i0 i1 : Int) : Option (List UInt8) :=
  ((L18_2 k i1 (k + 2) (i0) ([]) (0)).bind fun
    | L18_2_R.e0 i2 i3 s0 => (some (s0)))
theorem F18_ok {i0 : Int} {i1 : Int} {k : Nat} {r : List UInt8} (h : F18 k i0 i1 = some r) :
    callP (evalFn Try.prog Try.cfg (k + 3)) 18 [V.int .u64 i0, V.int .i64 i1] = some (V.str r) := by
  unfold F18 at h
  obtain ⟨ee, e0, h⟩ := Option.bind_eq_some_iff.1 h
  cases ee with
  | e0 i2 i3 s0 =>
    have h := Option.some.inj h; subst h; exact P18_0 i0 i1 i2 i3 s0 k (L18_2_ok e0)
theorem P19_0 (i0 : Int) (b0 : Bool) (s0 : List UInt8) (s1 : List UInt8) (k : Nat)
    (c0 : b0 = true)
    (c1 : callP (evalFn Try.prog Try.cfg (k + 5)) 18 [V.int .u64 (IntKind.u64.wrap (↑s0.length : Int)), V.int .i64 2] = some (V.str s1))
    (c2 : GrdP (s1.length + s0.length ≤ maxText) (V.str (s1 ++ s0))) :
    callP (evalFn Try.prog Try.cfg (k + 6)) 19 [V.agg [V.bool b0, V.int .u64 i0, V.str s0]] = some (V.str (s1 ++ s0)) :=
  byF (k := k) (d := 6) [Hn.br 4 true, Hn.call 9 (V.str s1), Hn.op 12 (V.str (s1 ++ s0)) []] (And.intro c0 (And.intro c1 (And.intro c2 trivial))) (by kernel_rfl)
theorem P19_1 (i0 : Int) (b0 : Bool) (s0 : List UInt8) (s1 : List UInt8) (k : Nat)
    (c0 : b0 = false)
    (c1 : callP (evalFn Try.prog Try.cfg (k + 5)) 18 [V.int .u64 i0, V.int .i64 8] = some (V.str s1)) :
    callP (evalFn Try.prog Try.cfg (k + 6)) 19 [V.agg [V.bool b0, V.int .u64 i0, V.str s0]] = some (V.str s1) :=
  byF (k := k) (d := 6) [Hn.br 4 false, Hn.call 15 (V.str s1)] (And.intro c0 (And.intro c1 trivial)) (by kernel_rfl)
def F19 (k : Nat) (b0 : Bool) (i0 : Int) (s0 : List UInt8) : Option (List UInt8) :=
  (bif b0 then ((F18 (k + 2) (IntKind.u64.wrap (↑s0.length : Int)) (2)).bind fun s1 => (guardP (s1.length + s0.length ≤ maxText) (some (s1 ++ s0)))) else ((F18 (k + 2) (i0) (8)).bind fun s1 => (some (s1))))
theorem F19_ok {b0 : Bool} {i0 : Int} {s0 : List UInt8} {k : Nat} {r : List UInt8} (h : F19 k b0 i0 s0 = some r) :
    callP (evalFn Try.prog Try.cfg (k + 6)) 19 [V.agg [V.bool b0, V.int .u64 i0, V.str s0]] = some (V.str r) := by
  unfold F19 at h
  rcases cond_elim h with ⟨e0, h⟩ | ⟨e0, h⟩
  ·
    obtain ⟨s1, e1, h⟩ := Option.bind_eq_some_iff.1 h
    obtain ⟨e2, h⟩ := guardP_some.1 h
    have h := Option.some.inj h; subst h; exact P19_0 i0 b0 s0 s1 k e0 (F18_ok e1) (GrdP.mk e2)
  ·
    obtain ⟨s1, e1, h⟩ := Option.bind_eq_some_iff.1 h
    have h := Option.some.inj h; subst h; exact P19_1 i0 b0 s0 s1 k e0 (F18_ok e1)
theorem L20_3_b0 (i0 i1 : Int) (b0 b1 : Bool) (s0 : List UInt8) (x0 : List V) (o0 : Option Bool) (n0 : Nat) (k : Nat)
    (c0 : decide (i0 < (↑x0.length : Int)) = true)
    (c1 : IdxP x0 i0 n0 3 (V.agg [V.bool b1, V.int .u64 i1, V.str s0]))
    (c2 : b1 = true)
    (c3 : decide (4096 < (↑s0.length : Int)) = true) :
    evalCode Try.prog Try.cfg (evalFn Try.prog Try.cfg (k + 2)) 0 (Try.cfg.fc 20) (k + 2) (loopBody Try.f20 0) { tm := [(0, V.sl o0 b0 n0 x0), (2, V.bool false), (5, V.sl o0 b0 n0 x0), (6, V.int .i64 (↑x0.length : Int)), (7, V.int .i64 i0)], hp := [], nx := 0 } = some (Exit.ret, { tm := [(0, V.sl o0 b0 n0 x0), (2, V.bool true), (4, V.ptr 12 0), (5, V.sl o0 b0 n0 x0), (6, V.int .i64 (↑x0.length : Int)), (7, V.int .i64 i0), (8, V.bool true), (18, V.bool true)], hp := [(12, Ob.var [V.bool b1, V.int .u64 i1, V.str s0])], nx := 56 }) :=
  byL (k := k) (d := 2) [Hn.br 8 true, Hn.op 9 ((V.agg [V.bool b1, V.int .u64 i1, V.str s0]).cpt 0) [], Hn.br 13 true, Hn.br 18 true] (And.intro c0 (And.intro c1 (And.intro c2 (And.intro c3 trivial)))) (by kernel_rfl)
theorem L20_3_b1 (i0 i1 : Int) (b0 b1 : Bool) (s0 : List UInt8) (x0 : List V) (o0 : Option Bool) (n0 : Nat) (k : Nat)
    (c0 : decide (i0 < (↑x0.length : Int)) = true)
    (c1 : IdxP x0 i0 n0 3 (V.agg [V.bool b1, V.int .u64 i1, V.str s0]))
    (c2 : b1 = true)
    (c3 : decide (4096 < (↑s0.length : Int)) = false) :
    evalCode Try.prog Try.cfg (evalFn Try.prog Try.cfg (k + 2)) 0 (Try.cfg.fc 20) (k + 2) (loopBody Try.f20 0) { tm := [(0, V.sl o0 b0 n0 x0), (2, V.bool false), (5, V.sl o0 b0 n0 x0), (6, V.int .i64 (↑x0.length : Int)), (7, V.int .i64 i0)], hp := [], nx := 0 } = some (Exit.normal, { tm := [(0, V.sl o0 b0 n0 x0), (2, V.bool false), (4, V.ptr 12 0), (5, V.sl o0 b0 n0 x0), (6, V.int .i64 (↑x0.length : Int)), (7, V.int .i64 (IntKind.i64.wrap (i0 + 1))), (8, V.bool true), (18, V.bool false)], hp := [(12, Ob.var [V.bool b1, V.int .u64 i1, V.str s0])], nx := 60 }) :=
  byL (k := k) (d := 2) [Hn.br 8 true, Hn.op 9 ((V.agg [V.bool b1, V.int .u64 i1, V.str s0]).cpt 0) [], Hn.br 13 true, Hn.br 18 false] (And.intro c0 (And.intro c1 (And.intro c2 (And.intro c3 trivial)))) (by kernel_rfl)
theorem L20_3_b1h (i0 i1 : Int) (b0 b1 : Bool) (s0 : List UInt8) (x0 : List V) (o0 : Option Bool) (n0 : Nat) : head 0 [0, 2, 5, 6, 7] (Try.cfg.fc 20).acc { tm := [(0, V.sl o0 b0 n0 x0), (2, V.bool false), (4, V.ptr 12 0), (5, V.sl o0 b0 n0 x0), (6, V.int .i64 (↑x0.length : Int)), (7, V.int .i64 (IntKind.i64.wrap (i0 + 1))), (8, V.bool true), (18, V.bool false)], hp := [(12, Ob.var [V.bool b1, V.int .u64 i1, V.str s0])], nx := 60 } = { tm := [(0, V.sl o0 b0 n0 x0), (2, V.bool false), (5, V.sl o0 b0 n0 x0), (6, V.int .i64 (↑x0.length : Int)), (7, V.int .i64 (IntKind.i64.wrap (i0 + 1)))], hp := [], nx := 0 } := by kernel_rfl
theorem L20_3_b2 (i0 i1 : Int) (b0 b1 : Bool) (s0 : List UInt8) (x0 : List V) (o0 : Option Bool) (n0 : Nat) (k : Nat)
    (c0 : decide (i0 < (↑x0.length : Int)) = true)
    (c1 : IdxP x0 i0 n0 3 (V.agg [V.bool b1, V.int .u64 i1, V.str s0]))
    (c2 : b1 = false) :
    evalCode Try.prog Try.cfg (evalFn Try.prog Try.cfg (k + 2)) 0 (Try.cfg.fc 20) (k + 2) (loopBody Try.f20 0) { tm := [(0, V.sl o0 b0 n0 x0), (2, V.bool false), (5, V.sl o0 b0 n0 x0), (6, V.int .i64 (↑x0.length : Int)), (7, V.int .i64 i0)], hp := [], nx := 0 } = some (Exit.normal, { tm := [(0, V.sl o0 b0 n0 x0), (2, V.bool false), (4, V.ptr 12 0), (5, V.sl o0 b0 n0 x0), (6, V.int .i64 (↑x0.length : Int)), (7, V.int .i64 (IntKind.i64.wrap (i0 + 1))), (8, V.bool true), (18, V.bool false)], hp := [(12, Ob.var [V.bool b1, V.int .u64 i1, V.str s0])], nx := 60 }) :=
  byL (k := k) (d := 2) [Hn.br 8 true, Hn.op 9 ((V.agg [V.bool b1, V.int .u64 i1, V.str s0]).cpt 0) [], Hn.br 13 false] (And.intro c0 (And.intro c1 (And.intro c2 trivial))) (by kernel_rfl)
theorem L20_3_b2h (i0 i1 : Int) (b0 b1 : Bool) (s0 : List UInt8) (x0 : List V) (o0 : Option Bool) (n0 : Nat) : head 0 [0, 2, 5, 6, 7] (Try.cfg.fc 20).acc { tm := [(0, V.sl o0 b0 n0 x0), (2, V.bool false), (4, V.ptr 12 0), (5, V.sl o0 b0 n0 x0), (6, V.int .i64 (↑x0.length : Int)), (7, V.int .i64 (IntKind.i64.wrap (i0 + 1))), (8, V.bool true), (18, V.bool false)], hp := [(12, Ob.var [V.bool b1, V.int .u64 i1, V.str s0])], nx := 60 } = { tm := [(0, V.sl o0 b0 n0 x0), (2, V.bool false), (5, V.sl o0 b0 n0 x0), (6, V.int .i64 (↑x0.length : Int)), (7, V.int .i64 (IntKind.i64.wrap (i0 + 1)))], hp := [], nx := 0 } := by kernel_rfl
theorem L20_3_b3 (i0 : Int) (b0 : Bool) (x0 : List V) (o0 : Option Bool) (n0 k : Nat)
    (c0 : decide (i0 < (↑x0.length : Int)) = false) :
    evalCode Try.prog Try.cfg (evalFn Try.prog Try.cfg (k + 2)) 0 (Try.cfg.fc 20) (k + 2) (loopBody Try.f20 0) { tm := [(0, V.sl o0 b0 n0 x0), (2, V.bool false), (5, V.sl o0 b0 n0 x0), (6, V.int .i64 (↑x0.length : Int)), (7, V.int .i64 i0)], hp := [], nx := 0 } = some (Exit.exit 0, { tm := [(0, V.sl o0 b0 n0 x0), (2, V.bool false), (5, V.sl o0 b0 n0 x0), (6, V.int .i64 (↑x0.length : Int)), (7, V.int .i64 i0), (8, V.bool false)], hp := [], nx := 4 }) :=
  byL (k := k) (d := 2) [Hn.br 8 false] (And.intro c0 trivial) (by kernel_rfl)
inductive L20_3_R where
  | e0 (i0 : Int) (i1 : Int) (b1 : Bool) (s0 : List UInt8)
  | e1 (i0 : Int)
noncomputable def L20_3_end (b0 : Bool) (x0 : List V) (o0 : Option Bool) (n0 : Nat) : L20_3_R → Exit × St
  | .e0 i0 i1 b1 s0 => (Exit.ret, { tm := [(0, V.sl o0 b0 n0 x0), (2, V.bool true), (4, V.ptr 12 0), (5, V.sl o0 b0 n0 x0), (6, V.int .i64 (↑x0.length : Int)), (7, V.int .i64 i0), (8, V.bool true), (18, V.bool true)], hp := [(12, Ob.var [V.bool b1, V.int .u64 i1, V.str s0])], nx := 56 })
  | .e1 i0 => (Exit.exit 0, { tm := [(0, V.sl o0 b0 n0 x0), (2, V.bool false), (5, V.sl o0 b0 n0 x0), (6, V.int .i64 (↑x0.length : Int)), (7, V.int .i64 i0), (8, V.bool false)], hp := [], nx := 4 })
def L20_3 (k : Nat) (b0 : Bool) (x0 : List V) (o0 : Option Bool) (n0 : Nat) : Nat → Int → Option L20_3_R
  | 0, _ => none
  | f + 1, i0 => (bif decide (i0 < (↑x0.length : Int)) then (guardP (n0 = (3 : Nat)) (((at? (x0) (i0)).bind dAbu64sZ).bind fun (b1, i1, s0) => (bif b1 then (bif decide (4096 < (↑s0.length : Int)) then (some (L20_3_R.e0 i0 i1 b1 s0)) else (L20_3 k b0 x0 o0 n0 f (IntKind.i64.wrap (i0 + 1)))) else (L20_3 k b0 x0 o0 n0 f (IntKind.i64.wrap (i0 + 1)))))) else (some (L20_3_R.e1 i0)))
theorem L20_3_ok {b0 : Bool} {x0 : List V} {o0 : Option Bool} {n0 : Nat} {k : Nat} : ∀ {f : Nat} {i0 : Int} {r : L20_3_R}, L20_3 k b0 x0 o0 n0 f i0 = some r →
    LoopsN Try.prog Try.cfg (k + 2) 0 Try.f20 (Try.cfg.fc 20) 0 [0, 2, 5, 6, 7] f { tm := [(0, V.sl o0 b0 n0 x0), (2, V.bool false), (5, V.sl o0 b0 n0 x0), (6, V.int .i64 (↑x0.length : Int)), (7, V.int .i64 i0)], hp := [], nx := 0 } (L20_3_end b0 x0 o0 n0 r) := by
  intro f
  induction f with
  | zero => intro i0 r h; cases h
  | succ f ih =>
    intro i0 r h
    rw [L20_3] at h
    rcases cond_elim h with ⟨e0, h⟩ | ⟨e0, h⟩
    ·
      obtain ⟨e1, h⟩ := guardP_some.1 h
      obtain ⟨⟨b1, i1, s0⟩, e2, h⟩ := Option.bind_eq_some_iff.1 h
      rcases cond_elim h with ⟨e3, h⟩ | ⟨e3, h⟩
      ·
        rcases cond_elim h with ⟨e4, h⟩ | ⟨e4, h⟩
        ·
          cases h; exact LoopsN.done (L20_3_b0 i0 i1 b0 b1 s0 x0 o0 n0 k e0 (IdxP.of_at' (at_d dAbu64sZ_ok e2 :) e1) e3 e4) (fun h => by cases h)
        ·
          exact LoopsN.next (L20_3_b1 i0 i1 b0 b1 s0 x0 o0 n0 k e0 (IdxP.of_at' (at_d dAbu64sZ_ok e2 :) e1) e3 e4) (L20_3_b1h i0 i1 b0 b1 s0 x0 o0 n0) (ih h)
      ·
        exact LoopsN.next (L20_3_b2 i0 i1 b0 b1 s0 x0 o0 n0 k e0 (IdxP.of_at' (at_d dAbu64sZ_ok e2 :) e1) e3) (L20_3_b2h i0 i1 b0 b1 s0 x0 o0 n0) (ih h)
    ·
      cases h; exact LoopsN.done (L20_3_b3 i0 b0 x0 o0 n0 k e0) (fun h => by cases h)
theorem P20_0 (i0 : Int) (b0 : Bool) (x0 : List V) (o0 : Option Bool) (n0 k : Nat)
    (c0 : LoopsN Try.prog Try.cfg (k + 2) 0 Try.f20 (Try.cfg.fc 20) 0 [0, 2, 5, 6, 7] (k + 2) { tm := [(0, V.sl o0 b0 n0 x0), (2, V.bool false), (5, V.sl o0 b0 n0 x0), (6, V.int .i64 (↑x0.length : Int)), (7, V.int .i64 0)], hp := [], nx := 0 } (Exit.exit 0, { tm := [(0, V.sl o0 b0 n0 x0), (2, V.bool false), (5, V.sl o0 b0 n0 x0), (6, V.int .i64 (↑x0.length : Int)), (7, V.int .i64 i0), (8, V.bool false)], hp := [], nx := 4 })) :
    callP (evalFn Try.prog Try.cfg (k + 3)) 20 [V.sl o0 b0 n0 x0] = some (V.bool false) :=
  byF (k := k) (d := 3) [Hn.loop (Exit.exit 0, { tm := [(0, V.sl o0 b0 n0 x0), (2, V.bool false), (5, V.sl o0 b0 n0 x0), (6, V.int .i64 (↑x0.length : Int)), (7, V.int .i64 i0), (8, V.bool false)], hp := [], nx := 4 })] (And.intro c0 trivial) (by kernel_rfl)
theorem P20_1 (i0 i1 : Int) (b0 b1 : Bool) (s0 : List UInt8) (x0 : List V) (o0 : Option Bool) (n0 : Nat) (k : Nat)
    (c0 : LoopsN Try.prog Try.cfg (k + 2) 0 Try.f20 (Try.cfg.fc 20) 0 [0, 2, 5, 6, 7] (k + 2) { tm := [(0, V.sl o0 b0 n0 x0), (2, V.bool false), (5, V.sl o0 b0 n0 x0), (6, V.int .i64 (↑x0.length : Int)), (7, V.int .i64 0)], hp := [], nx := 0 } (Exit.ret, { tm := [(0, V.sl o0 b0 n0 x0), (2, V.bool true), (4, V.ptr 12 0), (5, V.sl o0 b0 n0 x0), (6, V.int .i64 (↑x0.length : Int)), (7, V.int .i64 i0), (8, V.bool true), (18, V.bool true)], hp := [(12, Ob.var [V.bool b1, V.int .u64 i1, V.str s0])], nx := 56 })) :
    callP (evalFn Try.prog Try.cfg (k + 3)) 20 [V.sl o0 b0 n0 x0] = some (V.bool true) :=
  byF (k := k) (d := 3) [Hn.loop (Exit.ret, { tm := [(0, V.sl o0 b0 n0 x0), (2, V.bool true), (4, V.ptr 12 0), (5, V.sl o0 b0 n0 x0), (6, V.int .i64 (↑x0.length : Int)), (7, V.int .i64 i0), (8, V.bool true), (18, V.bool true)], hp := [(12, Ob.var [V.bool b1, V.int .u64 i1, V.str s0])], nx := 56 })] (And.intro c0 trivial) (by kernel_rfl)
def F20 (k : Nat) (o0 : Option Bool) (b0 : Bool) (n0 : Nat) (x0 : List V) : Option (Bool) :=
  ((L20_3 k b0 x0 o0 n0 (k + 2) (0)).bind fun
    | L20_3_R.e0 i0 i1 b1 s0 => (some (true))
    | L20_3_R.e1 i0 => (some (false)))
theorem F20_ok {o0 : Option Bool} {b0 : Bool} {n0 : Nat} {x0 : List V} {k : Nat} {r : Bool} (h : F20 k o0 b0 n0 x0 = some r) :
    callP (evalFn Try.prog Try.cfg (k + 3)) 20 [V.sl o0 b0 n0 x0] = some (V.bool r) := by
  unfold F20 at h
  obtain ⟨ee, e0, h⟩ := Option.bind_eq_some_iff.1 h
  cases ee with
  | e0 i0 i1 b1 s0 =>
    have h := Option.some.inj h; subst h; exact P20_1 i0 i1 b0 b1 s0 x0 o0 n0 k (L20_3_ok e0)
  | e1 i0 =>
    have h := Option.some.inj h; subst h; exact P20_0 i0 b0 x0 o0 n0 k (L20_3_ok e0)
theorem L21_4_b0 (i0 i1 : Int) (b0 b1 : Bool) (s0 : List UInt8) (s1 : List UInt8) (s2 : List UInt8) (x0 : List V) (o0 : Option Bool) (n0 : Nat) (k : Nat)
    (c0 : decide (i0 < (↑x0.length : Int)) = true)
    (c1 : IdxP x0 i0 n0 3 (V.agg [V.bool b1, V.int .u64 i1, V.str s1]))
    (c2 : callP (evalFn Try.prog Try.cfg (k + 8)) 19 [V.agg [V.bool b1, V.int .u64 i1, V.str s1]] = some (V.str s2))
    (c3 : GrdP (s0.length + s2.length ≤ maxText) (V.str (s0 ++ s2))) :
    evalCode Try.prog Try.cfg (evalFn Try.prog Try.cfg (k + 8)) 0 (Try.cfg.fc 21) (k + 8) (loopBody Try.f21 0) { tm := [(0, V.sl o0 b0 n0 x0), (2, V.str []), (3, V.str s0), (6, V.sl o0 b0 n0 x0), (7, V.int .i64 (↑x0.length : Int)), (8, V.int .i64 i0)], hp := [], nx := 0 } = some (Exit.normal, { tm := [(0, V.sl o0 b0 n0 x0), (2, V.str []), (3, V.str (s0 ++ s2)), (5, V.ptr 12 0), (6, V.sl o0 b0 n0 x0), (7, V.int .i64 (↑x0.length : Int)), (8, V.int .i64 (IntKind.i64.wrap (i0 + 1))), (9, V.bool true)], hp := [(12, Ob.var [V.bool b1, V.int .u64 i1, V.str s1])], nx := 48 }) :=
  byL (k := k) (d := 8) [Hn.br 9 true, Hn.op 10 ((V.agg [V.bool b1, V.int .u64 i1, V.str s1]).cpt 0) [], Hn.call 14 (V.str s2), Hn.op 15 (V.str (s0 ++ s2)) []] (And.intro c0 (And.intro c1 (And.intro c2 (And.intro c3 trivial)))) (by kernel_rfl)
theorem L21_4_b0h (i0 i1 : Int) (b0 b1 : Bool) (s0 : List UInt8) (s1 : List UInt8) (s2 : List UInt8) (x0 : List V) (o0 : Option Bool) (n0 : Nat) : head 0 [0, 2, 3, 6, 7, 8] (Try.cfg.fc 21).acc { tm := [(0, V.sl o0 b0 n0 x0), (2, V.str []), (3, V.str (s0 ++ s2)), (5, V.ptr 12 0), (6, V.sl o0 b0 n0 x0), (7, V.int .i64 (↑x0.length : Int)), (8, V.int .i64 (IntKind.i64.wrap (i0 + 1))), (9, V.bool true)], hp := [(12, Ob.var [V.bool b1, V.int .u64 i1, V.str s1])], nx := 48 } = { tm := [(0, V.sl o0 b0 n0 x0), (2, V.str []), (3, V.str (s0 ++ s2)), (6, V.sl o0 b0 n0 x0), (7, V.int .i64 (↑x0.length : Int)), (8, V.int .i64 (IntKind.i64.wrap (i0 + 1)))], hp := [], nx := 0 } := by kernel_rfl
theorem L21_4_b1 (i0 : Int) (b0 : Bool) (s0 : List UInt8) (x0 : List V) (o0 : Option Bool) (n0 : Nat) (k : Nat)
    (c0 : decide (i0 < (↑x0.length : Int)) = false) :
    evalCode Try.prog Try.cfg (evalFn Try.prog Try.cfg (k + 8)) 0 (Try.cfg.fc 21) (k + 8) (loopBody Try.f21 0) { tm := [(0, V.sl o0 b0 n0 x0), (2, V.str []), (3, V.str s0), (6, V.sl o0 b0 n0 x0), (7, V.int .i64 (↑x0.length : Int)), (8, V.int .i64 i0)], hp := [], nx := 0 } = some (Exit.exit 0, { tm := [(0, V.sl o0 b0 n0 x0), (2, V.str []), (3, V.str s0), (6, V.sl o0 b0 n0 x0), (7, V.int .i64 (↑x0.length : Int)), (8, V.int .i64 i0), (9, V.bool false)], hp := [], nx := 4 }) :=
  byL (k := k) (d := 8) [Hn.br 9 false] (And.intro c0 trivial) (by kernel_rfl)
inductive L21_4_R where
  | e0 (i0 : Int) (s0 : List UInt8)
noncomputable def L21_4_end (b0 : Bool) (x0 : List V) (o0 : Option Bool) (n0 : Nat) : L21_4_R → Exit × St
  | .e0 i0 s0 => (Exit.exit 0, { tm := [(0, V.sl o0 b0 n0 x0), (2, V.str []), (3, V.str s0), (6, V.sl o0 b0 n0 x0), (7, V.int .i64 (↑x0.length : Int)), (8, V.int .i64 i0), (9, V.bool false)], hp := [], nx := 4 })
def L21_4 (k : Nat) (b0 : Bool) (x0 : List V) (o0 : Option Bool) (n0 : Nat) : Nat → List UInt8 → Int → Option L21_4_R
  | 0, _, _ => none
  | f + 1, s0, i0 => (bif decide (i0 < (↑x0.length : Int)) then (guardP (n0 = (3 : Nat)) (((at? (x0) (i0)).bind dAbu64sZ).bind fun (b1, i1, s1) => ((F19 (k + 2) (b1) (i1) (s1)).bind fun s2 => (guardP (s0.length + s2.length ≤ maxText) (L21_4 k b0 x0 o0 n0 f (s0 ++ s2) (IntKind.i64.wrap (i0 + 1))))))) else (some (L21_4_R.e0 i0 s0)))
theorem L21_4_ok {b0 : Bool} {x0 : List V} {o0 : Option Bool} {n0 : Nat} {k : Nat} : ∀ {f : Nat} {s0 : List UInt8} {i0 : Int} {r : L21_4_R}, L21_4 k b0 x0 o0 n0 f s0 i0 = some r →
    LoopsN Try.prog Try.cfg (k + 8) 0 Try.f21 (Try.cfg.fc 21) 0 [0, 2, 3, 6, 7, 8] f { tm := [(0, V.sl o0 b0 n0 x0), (2, V.str []), (3, V.str s0), (6, V.sl o0 b0 n0 x0), (7, V.int .i64 (↑x0.length : Int)), (8, V.int .i64 i0)], hp := [], nx := 0 } (L21_4_end b0 x0 o0 n0 r) := by
  intro f
  induction f with
  | zero => intro s0 i0 r h; cases h
  | succ f ih =>
    intro s0 i0 r h
    rw [L21_4] at h
    rcases cond_elim h with ⟨e0, h⟩ | ⟨e0, h⟩
    ·
      obtain ⟨e1, h⟩ := guardP_some.1 h
      obtain ⟨⟨b1, i1, s1⟩, e2, h⟩ := Option.bind_eq_some_iff.1 h
      obtain ⟨s2, e3, h⟩ := Option.bind_eq_some_iff.1 h
      obtain ⟨e4, h⟩ := guardP_some.1 h
      exact LoopsN.next (L21_4_b0 i0 i1 b0 b1 s0 s1 s2 x0 o0 n0 k e0 (IdxP.of_at' (at_d dAbu64sZ_ok e2 :) e1) (F19_ok e3) (GrdP.mk e4)) (L21_4_b0h i0 i1 b0 b1 s0 s1 s2 x0 o0 n0) (ih h)
    ·
      cases h; exact LoopsN.done (L21_4_b1 i0 b0 s0 x0 o0 n0 k e0) (fun h => by cases h)
theorem P21_0 (i0 : Int) (b0 : Bool) (s0 : List UInt8) (x0 : List V) (o0 : Option Bool) (n0 : Nat) (k : Nat)
    (c0 : LoopsN Try.prog Try.cfg (k + 8) 0 Try.f21 (Try.cfg.fc 21) 0 [0, 2, 3, 6, 7, 8] (k + 8) { tm := [(0, V.sl o0 b0 n0 x0), (2, V.str []), (3, V.str []), (6, V.sl o0 b0 n0 x0), (7, V.int .i64 (↑x0.length : Int)), (8, V.int .i64 0)], hp := [], nx := 0 } (Exit.exit 0, { tm := [(0, V.sl o0 b0 n0 x0), (2, V.str []), (3, V.str s0), (6, V.sl o0 b0 n0 x0), (7, V.int .i64 (↑x0.length : Int)), (8, V.int .i64 i0), (9, V.bool false)], hp := [], nx := 4 })) :
    callP (evalFn Try.prog Try.cfg (k + 9)) 21 [V.sl o0 b0 n0 x0] = some (V.str s0) :=
  byF (k := k) (d := 9) [Hn.loop (Exit.exit 0, { tm := [(0, V.sl o0 b0 n0 x0), (2, V.str []), (3, V.str s0), (6, V.sl o0 b0 n0 x0), (7, V.int .i64 (↑x0.length : Int)), (8, V.int .i64 i0), (9, V.bool false)], hp := [], nx := 4 })] (And.intro c0 trivial) (by kernel_rfl)
def F21 (k : Nat) (o0 : Option Bool) (b0 : Bool) (n0 : Nat) (x0 : List V) : Option (List UInt8) :=
  ((L21_4 k b0 x0 o0 n0 (k + 8) ([]) (0)).bind fun
    | L21_4_R.e0 i0 s0 => (some (s0)))
theorem F21_ok {o0 : Option Bool} {b0 : Bool} {n0 : Nat} {x0 : List V} {k : Nat} {r : List UInt8} (h : F21 k o0 b0 n0 x0 = some r) :
    callP (evalFn Try.prog Try.cfg (k + 9)) 21 [V.sl o0 b0 n0 x0] = some (V.str r) := by
  unfold F21 at h
  obtain ⟨ee, e0, h⟩ := Option.bind_eq_some_iff.1 h
  cases ee with
  | e0 i0 s0 =>
    have h := Option.some.inj h; subst h; exact P21_0 i0 b0 s0 x0 o0 n0 k (L21_4_ok e0)
theorem P4_0 (i0 i1 i2 : Int) (b0 : Bool) (s0 : List UInt8) (s1 : List UInt8) (s2 : List UInt8) (s3 : List UInt8) (s4 : List UInt8) (x0 : List V) (o0 : Option Bool) (n0 : Nat) (k : Nat)
    (c0 : SlcP true 3 (V.sl o0 b0 n0 x0) none (some (V.int .i64 (if 12 < (↑x0.length : Int) then 12 else (↑x0.length : Int)))) none (V.sl o0 false n0 (List.take (if 12 < (↑x0.length : Int) then 12 else (↑x0.length : Int)).toNat x0)))
    (c1 : callP (evalFn Try.prog Try.cfg (k + 11)) 16 [V.str s0] = some (V.tup [V.str s1, V.int .i64 i1]))
    (c2 : callP (evalFn Try.prog Try.cfg (k + 11)) 17 [V.sl o0 false n0 (List.take (if 12 < (↑x0.length : Int) then 12 else (↑x0.length : Int)).toNat x0)] = some (V.tup [V.str s2, V.int .i64 i2]))
    (c3 : callP (evalFn Try.prog Try.cfg (k + 11)) 13 [V.int .u64 i0] = some (V.str s3))
    (c4 : callP (evalFn Try.prog Try.cfg (k + 11)) 18 [V.int .u64 i0, V.int .i64 8] = some (V.str s4))
    (c5 : (!decide (s3 = s4)) = true) :
    callP (evalFn Try.prog Try.cfg (k + 12)) 4 [V.int .u64 i0, V.str s0, V.sl o0 b0 n0 x0] = some (V.bool false) :=
  byF (k := k) (d := 12) [Hn.op 16 (V.sl o0 false n0 (List.take (if 12 < (↑x0.length : Int) then 12 else (↑x0.length : Int)).toNat x0)) [], Hn.call 19 (V.tup [V.str s1, V.int .i64 i1]), Hn.call 24 (V.tup [V.str s2, V.int .i64 i2]), Hn.call 28 (V.str s3), Hn.call 30 (V.str s4), Hn.br 32 true] (And.intro c0 (And.intro c1 (And.intro c2 (And.intro c3 (And.intro c4 (And.intro c5 trivial)))))) (by kernel_rfl)
theorem P4_1 (i0 i1 i2 : Int) (b0 b1 : Bool) (s0 : List UInt8) (s1 : List UInt8) (s2 : List UInt8) (s3 : List UInt8) (s4 : List UInt8) (x0 : List V) (o0 : Option Bool) (n0 : Nat) (k : Nat)
    (c0 : SlcP true 3 (V.sl o0 b0 n0 x0) none (some (V.int .i64 (if 12 < (↑x0.length : Int) then 12 else (↑x0.length : Int)))) none (V.sl o0 false n0 (List.take (if 12 < (↑x0.length : Int) then 12 else (↑x0.length : Int)).toNat x0)))
    (c1 : callP (evalFn Try.prog Try.cfg (k + 11)) 16 [V.str s0] = some (V.tup [V.str s1, V.int .i64 i1]))
    (c2 : callP (evalFn Try.prog Try.cfg (k + 11)) 17 [V.sl o0 false n0 (List.take (if 12 < (↑x0.length : Int) then 12 else (↑x0.length : Int)).toNat x0)] = some (V.tup [V.str s2, V.int .i64 i2]))
    (c3 : callP (evalFn Try.prog Try.cfg (k + 11)) 13 [V.int .u64 i0] = some (V.str s3))
    (c4 : callP (evalFn Try.prog Try.cfg (k + 11)) 18 [V.int .u64 i0, V.int .i64 8] = some (V.str s4))
    (c5 : (!decide (s3 = s4)) = false)
    (c6 : callP (evalFn Try.prog Try.cfg (k + 11)) 15 [] = some (V.bool b1))
    (c7 : (!b1) = true) :
    callP (evalFn Try.prog Try.cfg (k + 12)) 4 [V.int .u64 i0, V.str s0, V.sl o0 b0 n0 x0] = some (V.bool false) :=
  byF (k := k) (d := 12) [Hn.op 16 (V.sl o0 false n0 (List.take (if 12 < (↑x0.length : Int) then 12 else (↑x0.length : Int)).toNat x0)) [], Hn.call 19 (V.tup [V.str s1, V.int .i64 i1]), Hn.call 24 (V.tup [V.str s2, V.int .i64 i2]), Hn.call 28 (V.str s3), Hn.call 30 (V.str s4), Hn.br 32 false, Hn.call 33 (V.bool b1), Hn.br 35 true] (And.intro c0 (And.intro c1 (And.intro c2 (And.intro c3 (And.intro c4 (And.intro c5 (And.intro c6 (And.intro c7 trivial)))))))) (by kernel_rfl)
theorem P4_2 (i0 i1 i2 : Int) (b0 b1 : Bool) (s0 : List UInt8) (s1 : List UInt8) (s2 : List UInt8) (s3 : List UInt8) (s4 : List UInt8) (x0 : List V) (o0 : Option Bool) (n0 : Nat) (k : Nat)
    (c0 : SlcP true 3 (V.sl o0 b0 n0 x0) none (some (V.int .i64 (if 12 < (↑x0.length : Int) then 12 else (↑x0.length : Int)))) none (V.sl o0 false n0 (List.take (if 12 < (↑x0.length : Int) then 12 else (↑x0.length : Int)).toNat x0)))
    (c1 : callP (evalFn Try.prog Try.cfg (k + 11)) 16 [V.str s0] = some (V.tup [V.str s1, V.int .i64 i1]))
    (c2 : callP (evalFn Try.prog Try.cfg (k + 11)) 17 [V.sl o0 false n0 (List.take (if 12 < (↑x0.length : Int) then 12 else (↑x0.length : Int)).toNat x0)] = some (V.tup [V.str s2, V.int .i64 i2]))
    (c3 : callP (evalFn Try.prog Try.cfg (k + 11)) 13 [V.int .u64 i0] = some (V.str s3))
    (c4 : callP (evalFn Try.prog Try.cfg (k + 11)) 18 [V.int .u64 i0, V.int .i64 8] = some (V.str s4))
    (c5 : (!decide (s3 = s4)) = false)
    (c6 : callP (evalFn Try.prog Try.cfg (k + 11)) 15 [] = some (V.bool b1))
    (c7 : (!b1) = false)
    (c8 : decide (4096 < (↑s0.length : Int)) = true)
    (c9 : (!decide (i1 = 4)) = true) :
    callP (evalFn Try.prog Try.cfg (k + 12)) 4 [V.int .u64 i0, V.str s0, V.sl o0 b0 n0 x0] = some (V.bool false) :=
  byF (k := k) (d := 12) [Hn.op 16 (V.sl o0 false n0 (List.take (if 12 < (↑x0.length : Int) then 12 else (↑x0.length : Int)).toNat x0)) [], Hn.call 19 (V.tup [V.str s1, V.int .i64 i1]), Hn.call 24 (V.tup [V.str s2, V.int .i64 i2]), Hn.call 28 (V.str s3), Hn.call 30 (V.str s4), Hn.br 32 false, Hn.call 33 (V.bool b1), Hn.br 35 false, Hn.br 40 true, Hn.br 43 true] (And.intro c0 (And.intro c1 (And.intro c2 (And.intro c3 (And.intro c4 (And.intro c5 (And.intro c6 (And.intro c7 (And.intro c8 (And.intro c9 trivial)))))))))) (by kernel_rfl)
theorem P4_3 (i0 i1 i2 : Int) (b0 b1 : Bool) (s0 : List UInt8) (s1 : List UInt8) (s2 : List UInt8) (s3 : List UInt8) (s4 : List UInt8) (x0 : List V) (o0 : Option Bool) (n0 : Nat) (k : Nat)
    (c0 : SlcP true 3 (V.sl o0 b0 n0 x0) none (some (V.int .i64 (if 12 < (↑x0.length : Int) then 12 else (↑x0.length : Int)))) none (V.sl o0 false n0 (List.take (if 12 < (↑x0.length : Int) then 12 else (↑x0.length : Int)).toNat x0)))
    (c1 : callP (evalFn Try.prog Try.cfg (k + 11)) 16 [V.str s0] = some (V.tup [V.str s1, V.int .i64 i1]))
    (c2 : callP (evalFn Try.prog Try.cfg (k + 11)) 17 [V.sl o0 false n0 (List.take (if 12 < (↑x0.length : Int) then 12 else (↑x0.length : Int)).toNat x0)] = some (V.tup [V.str s2, V.int .i64 i2]))
    (c3 : callP (evalFn Try.prog Try.cfg (k + 11)) 13 [V.int .u64 i0] = some (V.str s3))
    (c4 : callP (evalFn Try.prog Try.cfg (k + 11)) 18 [V.int .u64 i0, V.int .i64 8] = some (V.str s4))
    (c5 : (!decide (s3 = s4)) = false)
    (c6 : callP (evalFn Try.prog Try.cfg (k + 11)) 15 [] = some (V.bool b1))
    (c7 : (!b1) = false)
    (c8 : decide (4096 < (↑s0.length : Int)) = true)
    (c9 : (!decide (i1 = 4)) = false)
    (c10 : (!decide (s1 = [])) = true) :
    callP (evalFn Try.prog Try.cfg (k + 12)) 4 [V.int .u64 i0, V.str s0, V.sl o0 b0 n0 x0] = some (V.bool false) :=
  byF (k := k) (d := 12) [Hn.op 16 (V.sl o0 false n0 (List.take (if 12 < (↑x0.length : Int) then 12 else (↑x0.length : Int)).toNat x0)) [], Hn.call 19 (V.tup [V.str s1, V.int .i64 i1]), Hn.call 24 (V.tup [V.str s2, V.int .i64 i2]), Hn.call 28 (V.str s3), Hn.call 30 (V.str s4), Hn.br 32 false, Hn.call 33 (V.bool b1), Hn.br 35 false, Hn.br 40 true, Hn.br 43 false, Hn.br 48 true] (And.intro c0 (And.intro c1 (And.intro c2 (And.intro c3 (And.intro c4 (And.intro c5 (And.intro c6 (And.intro c7 (And.intro c8 (And.intro c9 (And.intro c10 trivial))))))))))) (by kernel_rfl)
theorem P4_4 (i0 i1 i2 : Int) (b0 b1 : Bool) (s0 : List UInt8) (s1 : List UInt8) (s2 : List UInt8) (s3 : List UInt8) (s4 : List UInt8) (x0 : List V) (o0 : Option Bool) (n0 : Nat) (k : Nat)
    (c0 : SlcP true 3 (V.sl o0 b0 n0 x0) none (some (V.int .i64 (if 12 < (↑x0.length : Int) then 12 else (↑x0.length : Int)))) none (V.sl o0 false n0 (List.take (if 12 < (↑x0.length : Int) then 12 else (↑x0.length : Int)).toNat x0)))
    (c1 : callP (evalFn Try.prog Try.cfg (k + 11)) 16 [V.str s0] = some (V.tup [V.str s1, V.int .i64 i1]))
    (c2 : callP (evalFn Try.prog Try.cfg (k + 11)) 17 [V.sl o0 false n0 (List.take (if 12 < (↑x0.length : Int) then 12 else (↑x0.length : Int)).toNat x0)] = some (V.tup [V.str s2, V.int .i64 i2]))
    (c3 : callP (evalFn Try.prog Try.cfg (k + 11)) 13 [V.int .u64 i0] = some (V.str s3))
    (c4 : callP (evalFn Try.prog Try.cfg (k + 11)) 18 [V.int .u64 i0, V.int .i64 8] = some (V.str s4))
    (c5 : (!decide (s3 = s4)) = false)
    (c6 : callP (evalFn Try.prog Try.cfg (k + 11)) 15 [] = some (V.bool b1))
    (c7 : (!b1) = false)
    (c8 : decide (4096 < (↑s0.length : Int)) = true)
    (c9 : (!decide (i1 = 4)) = false)
    (c10 : (!decide (s1 = [])) = false)
    (c11 : decide (4096 < (↑s0.length : Int)) = true)
    (c12 : callP (evalFn Try.prog Try.cfg (k + 11)) 20 [V.sl o0 false n0 (List.take (if 12 < (↑x0.length : Int) then 12 else (↑x0.length : Int)).toNat x0)] = some (V.bool true))
    (c13 : decide (i2 = 4) = true) :
    callP (evalFn Try.prog Try.cfg (k + 12)) 4 [V.int .u64 i0, V.str s0, V.sl o0 b0 n0 x0] = some (V.bool (decide (s2 = []))) :=
  byF (k := k) (d := 12) [Hn.op 16 (V.sl o0 false n0 (List.take (if 12 < (↑x0.length : Int) then 12 else (↑x0.length : Int)).toNat x0)) [], Hn.call 19 (V.tup [V.str s1, V.int .i64 i1]), Hn.call 24 (V.tup [V.str s2, V.int .i64 i2]), Hn.call 28 (V.str s3), Hn.call 30 (V.str s4), Hn.br 32 false, Hn.call 33 (V.bool b1), Hn.br 35 false, Hn.br 40 true, Hn.br 43 false, Hn.br 48 false, Hn.br 49 true, Hn.call 64 (V.bool true), Hn.br 67 true] (And.intro c0 (And.intro c1 (And.intro c2 (And.intro c3 (And.intro c4 (And.intro c5 (And.intro c6 (And.intro c7 (And.intro c8 (And.intro c9 (And.intro c10 (And.intro c11 (And.intro c12 (And.intro c13 trivial)))))))))))))) (by kernel_rfl)
theorem P4_5 (i0 i1 i2 : Int) (b0 b1 : Bool) (s0 : List UInt8) (s1 : List UInt8) (s2 : List UInt8) (s3 : List UInt8) (s4 : List UInt8) (x0 : List V) (o0 : Option Bool) (n0 : Nat) (k : Nat)
    (c0 : SlcP true 3 (V.sl o0 b0 n0 x0) none (some (V.int .i64 (if 12 < (↑x0.length : Int) then 12 else (↑x0.length : Int)))) none (V.sl o0 false n0 (List.take (if 12 < (↑x0.length : Int) then 12 else (↑x0.length : Int)).toNat x0)))
    (c1 : callP (evalFn Try.prog Try.cfg (k + 11)) 16 [V.str s0] = some (V.tup [V.str s1, V.int .i64 i1]))
    (c2 : callP (evalFn Try.prog Try.cfg (k + 11)) 17 [V.sl o0 false n0 (List.take (if 12 < (↑x0.length : Int) then 12 else (↑x0.length : Int)).toNat x0)] = some (V.tup [V.str s2, V.int .i64 i2]))
    (c3 : callP (evalFn Try.prog Try.cfg (k + 11)) 13 [V.int .u64 i0] = some (V.str s3))
    (c4 : callP (evalFn Try.prog Try.cfg (k + 11)) 18 [V.int .u64 i0, V.int .i64 8] = some (V.str s4))
    (c5 : (!decide (s3 = s4)) = false)
    (c6 : callP (evalFn Try.prog Try.cfg (k + 11)) 15 [] = some (V.bool b1))
    (c7 : (!b1) = false)
    (c8 : decide (4096 < (↑s0.length : Int)) = true)
    (c9 : (!decide (i1 = 4)) = false)
    (c10 : (!decide (s1 = [])) = false)
    (c11 : decide (4096 < (↑s0.length : Int)) = true)
    (c12 : callP (evalFn Try.prog Try.cfg (k + 11)) 20 [V.sl o0 false n0 (List.take (if 12 < (↑x0.length : Int) then 12 else (↑x0.length : Int)).toNat x0)] = some (V.bool true))
    (c13 : decide (i2 = 4) = false) :
    callP (evalFn Try.prog Try.cfg (k + 12)) 4 [V.int .u64 i0, V.str s0, V.sl o0 b0 n0 x0] = some (V.bool false) :=
  byF (k := k) (d := 12) [Hn.op 16 (V.sl o0 false n0 (List.take (if 12 < (↑x0.length : Int) then 12 else (↑x0.length : Int)).toNat x0)) [], Hn.call 19 (V.tup [V.str s1, V.int .i64 i1]), Hn.call 24 (V.tup [V.str s2, V.int .i64 i2]), Hn.call 28 (V.str s3), Hn.call 30 (V.str s4), Hn.br 32 false, Hn.call 33 (V.bool b1), Hn.br 35 false, Hn.br 40 true, Hn.br 43 false, Hn.br 48 false, Hn.br 49 true, Hn.call 64 (V.bool true), Hn.br 67 false] (And.intro c0 (And.intro c1 (And.intro c2 (And.intro c3 (And.intro c4 (And.intro c5 (And.intro c6 (And.intro c7 (And.intro c8 (And.intro c9 (And.intro c10 (And.intro c11 (And.intro c12 (And.intro c13 trivial)))))))))))))) (by kernel_rfl)
theorem P4_6 (i0 i1 i2 : Int) (b0 b1 : Bool) (s0 : List UInt8) (s1 : List UInt8) (s2 : List UInt8) (s3 : List UInt8) (s4 : List UInt8) (s5 : List UInt8) (x0 : List V) (o0 : Option Bool) (n0 : Nat) (k : Nat)
    (c0 : SlcP true 3 (V.sl o0 b0 n0 x0) none (some (V.int .i64 (if 12 < (↑x0.length : Int) then 12 else (↑x0.length : Int)))) none (V.sl o0 false n0 (List.take (if 12 < (↑x0.length : Int) then 12 else (↑x0.length : Int)).toNat x0)))
    (c1 : callP (evalFn Try.prog Try.cfg (k + 11)) 16 [V.str s0] = some (V.tup [V.str s1, V.int .i64 i1]))
    (c2 : callP (evalFn Try.prog Try.cfg (k + 11)) 17 [V.sl o0 false n0 (List.take (if 12 < (↑x0.length : Int) then 12 else (↑x0.length : Int)).toNat x0)] = some (V.tup [V.str s2, V.int .i64 i2]))
    (c3 : callP (evalFn Try.prog Try.cfg (k + 11)) 13 [V.int .u64 i0] = some (V.str s3))
    (c4 : callP (evalFn Try.prog Try.cfg (k + 11)) 18 [V.int .u64 i0, V.int .i64 8] = some (V.str s4))
    (c5 : (!decide (s3 = s4)) = false)
    (c6 : callP (evalFn Try.prog Try.cfg (k + 11)) 15 [] = some (V.bool b1))
    (c7 : (!b1) = false)
    (c8 : decide (4096 < (↑s0.length : Int)) = true)
    (c9 : (!decide (i1 = 4)) = false)
    (c10 : (!decide (s1 = [])) = false)
    (c11 : decide (4096 < (↑s0.length : Int)) = true)
    (c12 : callP (evalFn Try.prog Try.cfg (k + 11)) 20 [V.sl o0 false n0 (List.take (if 12 < (↑x0.length : Int) then 12 else (↑x0.length : Int)).toNat x0)] = some (V.bool false))
    (c13 : decide (i2 = 0) = true)
    (c14 : callP (evalFn Try.prog Try.cfg (k + 11)) 21 [V.sl o0 false n0 (List.take (if 12 < (↑x0.length : Int) then 12 else (↑x0.length : Int)).toNat x0)] = some (V.str s5)) :
    callP (evalFn Try.prog Try.cfg (k + 12)) 4 [V.int .u64 i0, V.str s0, V.sl o0 b0 n0 x0] = some (V.bool (decide (s2 = s5))) :=
  byF (k := k) (d := 12) [Hn.op 16 (V.sl o0 false n0 (List.take (if 12 < (↑x0.length : Int) then 12 else (↑x0.length : Int)).toNat x0)) [], Hn.call 19 (V.tup [V.str s1, V.int .i64 i1]), Hn.call 24 (V.tup [V.str s2, V.int .i64 i2]), Hn.call 28 (V.str s3), Hn.call 30 (V.str s4), Hn.br 32 false, Hn.call 33 (V.bool b1), Hn.br 35 false, Hn.br 40 true, Hn.br 43 false, Hn.br 48 false, Hn.br 49 true, Hn.call 64 (V.bool false), Hn.br 73 true, Hn.call 76 (V.str s5)] (And.intro c0 (And.intro c1 (And.intro c2 (And.intro c3 (And.intro c4 (And.intro c5 (And.intro c6 (And.intro c7 (And.intro c8 (And.intro c9 (And.intro c10 (And.intro c11 (And.intro c12 (And.intro c13 (And.intro c14 trivial))))))))))))))) (by kernel_rfl)
theorem P4_7 (i0 i1 i2 : Int) (b0 b1 : Bool) (s0 : List UInt8) (s1 : List UInt8) (s2 : List UInt8) (s3 : List UInt8) (s4 : List UInt8) (x0 : List V) (o0 : Option Bool) (n0 : Nat) (k : Nat)
    (c0 : SlcP true 3 (V.sl o0 b0 n0 x0) none (some (V.int .i64 (if 12 < (↑x0.length : Int) then 12 else (↑x0.length : Int)))) none (V.sl o0 false n0 (List.take (if 12 < (↑x0.length : Int) then 12 else (↑x0.length : Int)).toNat x0)))
    (c1 : callP (evalFn Try.prog Try.cfg (k + 11)) 16 [V.str s0] = some (V.tup [V.str s1, V.int .i64 i1]))
    (c2 : callP (evalFn Try.prog Try.cfg (k + 11)) 17 [V.sl o0 false n0 (List.take (if 12 < (↑x0.length : Int) then 12 else (↑x0.length : Int)).toNat x0)] = some (V.tup [V.str s2, V.int .i64 i2]))
    (c3 : callP (evalFn Try.prog Try.cfg (k + 11)) 13 [V.int .u64 i0] = some (V.str s3))
    (c4 : callP (evalFn Try.prog Try.cfg (k + 11)) 18 [V.int .u64 i0, V.int .i64 8] = some (V.str s4))
    (c5 : (!decide (s3 = s4)) = false)
    (c6 : callP (evalFn Try.prog Try.cfg (k + 11)) 15 [] = some (V.bool b1))
    (c7 : (!b1) = false)
    (c8 : decide (4096 < (↑s0.length : Int)) = true)
    (c9 : (!decide (i1 = 4)) = false)
    (c10 : (!decide (s1 = [])) = false)
    (c11 : decide (4096 < (↑s0.length : Int)) = true)
    (c12 : callP (evalFn Try.prog Try.cfg (k + 11)) 20 [V.sl o0 false n0 (List.take (if 12 < (↑x0.length : Int) then 12 else (↑x0.length : Int)).toNat x0)] = some (V.bool false))
    (c13 : decide (i2 = 0) = false) :
    callP (evalFn Try.prog Try.cfg (k + 12)) 4 [V.int .u64 i0, V.str s0, V.sl o0 b0 n0 x0] = some (V.bool false) :=
  byF (k := k) (d := 12) [Hn.op 16 (V.sl o0 false n0 (List.take (if 12 < (↑x0.length : Int) then 12 else (↑x0.length : Int)).toNat x0)) [], Hn.call 19 (V.tup [V.str s1, V.int .i64 i1]), Hn.call 24 (V.tup [V.str s2, V.int .i64 i2]), Hn.call 28 (V.str s3), Hn.call 30 (V.str s4), Hn.br 32 false, Hn.call 33 (V.bool b1), Hn.br 35 false, Hn.br 40 true, Hn.br 43 false, Hn.br 48 false, Hn.br 49 true, Hn.call 64 (V.bool false), Hn.br 73 false] (And.intro c0 (And.intro c1 (And.intro c2 (And.intro c3 (And.intro c4 (And.intro c5 (And.intro c6 (And.intro c7 (And.intro c8 (And.intro c9 (And.intro c10 (And.intro c11 (And.intro c12 (And.intro c13 trivial)))))))))))))) (by kernel_rfl)
theorem P4_8 (i0 i1 i2 : Int) (b0 b1 : Bool) (s0 : List UInt8) (s1 : List UInt8) (s2 : List UInt8) (s3 : List UInt8) (s4 : List UInt8) (x0 : List V) (o0 : Option Bool) (n0 : Nat) (k : Nat)
    (c0 : SlcP true 3 (V.sl o0 b0 n0 x0) none (some (V.int .i64 (if 12 < (↑x0.length : Int) then 12 else (↑x0.length : Int)))) none (V.sl o0 false n0 (List.take (if 12 < (↑x0.length : Int) then 12 else (↑x0.length : Int)).toNat x0)))
    (c1 : callP (evalFn Try.prog Try.cfg (k + 11)) 16 [V.str s0] = some (V.tup [V.str s1, V.int .i64 i1]))
    (c2 : callP (evalFn Try.prog Try.cfg (k + 11)) 17 [V.sl o0 false n0 (List.take (if 12 < (↑x0.length : Int) then 12 else (↑x0.length : Int)).toNat x0)] = some (V.tup [V.str s2, V.int .i64 i2]))
    (c3 : callP (evalFn Try.prog Try.cfg (k + 11)) 13 [V.int .u64 i0] = some (V.str s3))
    (c4 : callP (evalFn Try.prog Try.cfg (k + 11)) 18 [V.int .u64 i0, V.int .i64 8] = some (V.str s4))
    (c5 : (!decide (s3 = s4)) = false)
    (c6 : callP (evalFn Try.prog Try.cfg (k + 11)) 15 [] = some (V.bool b1))
    (c7 : (!b1) = false)
    (c8 : decide (4096 < (↑s0.length : Int)) = false)
    (c9 : decide (4096 < (↑s0.length : Int)) = false)
    (c10 : (!decide (i1 = 0)) = true) :
    callP (evalFn Try.prog Try.cfg (k + 12)) 4 [V.int .u64 i0, V.str s0, V.sl o0 b0 n0 x0] = some (V.bool false) :=
  byF (k := k) (d := 12) [Hn.op 16 (V.sl o0 false n0 (List.take (if 12 < (↑x0.length : Int) then 12 else (↑x0.length : Int)).toNat x0)) [], Hn.call 19 (V.tup [V.str s1, V.int .i64 i1]), Hn.call 24 (V.tup [V.str s2, V.int .i64 i2]), Hn.call 28 (V.str s3), Hn.call 30 (V.str s4), Hn.br 32 false, Hn.call 33 (V.bool b1), Hn.br 35 false, Hn.br 40 false, Hn.br 49 false, Hn.br 54 true] (And.intro c0 (And.intro c1 (And.intro c2 (And.intro c3 (And.intro c4 (And.intro c5 (And.intro c6 (And.intro c7 (And.intro c8 (And.intro c9 (And.intro c10 trivial))))))))))) (by kernel_rfl)
theorem P4_9 (i0 i1 i2 : Int) (b0 b1 : Bool) (s0 : List UInt8) (s1 : List UInt8) (s2 : List UInt8) (s3 : List UInt8) (s4 : List UInt8) (s5 : List UInt8) (x0 : List V) (o0 : Option Bool) (n0 : Nat) (k : Nat)
    (c0 : SlcP true 3 (V.sl o0 b0 n0 x0) none (some (V.int .i64 (if 12 < (↑x0.length : Int) then 12 else (↑x0.length : Int)))) none (V.sl o0 false n0 (List.take (if 12 < (↑x0.length : Int) then 12 else (↑x0.length : Int)).toNat x0)))
    (c1 : callP (evalFn Try.prog Try.cfg (k + 11)) 16 [V.str s0] = some (V.tup [V.str s1, V.int .i64 i1]))
    (c2 : callP (evalFn Try.prog Try.cfg (k + 11)) 17 [V.sl o0 false n0 (List.take (if 12 < (↑x0.length : Int) then 12 else (↑x0.length : Int)).toNat x0)] = some (V.tup [V.str s2, V.int .i64 i2]))
    (c3 : callP (evalFn Try.prog Try.cfg (k + 11)) 13 [V.int .u64 i0] = some (V.str s3))
    (c4 : callP (evalFn Try.prog Try.cfg (k + 11)) 18 [V.int .u64 i0, V.int .i64 8] = some (V.str s4))
    (c5 : (!decide (s3 = s4)) = false)
    (c6 : callP (evalFn Try.prog Try.cfg (k + 11)) 15 [] = some (V.bool b1))
    (c7 : (!b1) = false)
    (c8 : decide (4096 < (↑s0.length : Int)) = false)
    (c9 : decide (4096 < (↑s0.length : Int)) = false)
    (c10 : (!decide (i1 = 0)) = false)
    (c11 : callP (evalFn Try.prog Try.cfg (k + 11)) 19 [V.agg [V.bool true, V.int .u64 0, V.str s0]] = some (V.str s5))
    (c12 : (!decide (s1 = s5)) = true) :
    callP (evalFn Try.prog Try.cfg (k + 12)) 4 [V.int .u64 i0, V.str s0, V.sl o0 b0 n0 x0] = some (V.bool false) :=
  byF (k := k) (d := 12) [Hn.op 16 (V.sl o0 false n0 (List.take (if 12 < (↑x0.length : Int) then 12 else (↑x0.length : Int)).toNat x0)) [], Hn.call 19 (V.tup [V.str s1, V.int .i64 i1]), Hn.call 24 (V.tup [V.str s2, V.int .i64 i2]), Hn.call 28 (V.str s3), Hn.call 30 (V.str s4), Hn.br 32 false, Hn.call 33 (V.bool b1), Hn.br 35 false, Hn.br 40 false, Hn.br 49 false, Hn.br 54 false, Hn.call 58 (V.str s5), Hn.br 62 true] (And.intro c0 (And.intro c1 (And.intro c2 (And.intro c3 (And.intro c4 (And.intro c5 (And.intro c6 (And.intro c7 (And.intro c8 (And.intro c9 (And.intro c10 (And.intro c11 (And.intro c12 trivial))))))))))))) (by kernel_rfl)
theorem P4_10 (i0 i1 i2 : Int) (b0 b1 : Bool) (s0 : List UInt8) (s1 : List UInt8) (s2 : List UInt8) (s3 : List UInt8) (s4 : List UInt8) (s5 : List UInt8) (x0 : List V) (o0 : Option Bool) (n0 : Nat) (k : Nat)
    (c0 : SlcP true 3 (V.sl o0 b0 n0 x0) none (some (V.int .i64 (if 12 < (↑x0.length : Int) then 12 else (↑x0.length : Int)))) none (V.sl o0 false n0 (List.take (if 12 < (↑x0.length : Int) then 12 else (↑x0.length : Int)).toNat x0)))
    (c1 : callP (evalFn Try.prog Try.cfg (k + 11)) 16 [V.str s0] = some (V.tup [V.str s1, V.int .i64 i1]))
    (c2 : callP (evalFn Try.prog Try.cfg (k + 11)) 17 [V.sl o0 false n0 (List.take (if 12 < (↑x0.length : Int) then 12 else (↑x0.length : Int)).toNat x0)] = some (V.tup [V.str s2, V.int .i64 i2]))
    (c3 : callP (evalFn Try.prog Try.cfg (k + 11)) 13 [V.int .u64 i0] = some (V.str s3))
    (c4 : callP (evalFn Try.prog Try.cfg (k + 11)) 18 [V.int .u64 i0, V.int .i64 8] = some (V.str s4))
    (c5 : (!decide (s3 = s4)) = false)
    (c6 : callP (evalFn Try.prog Try.cfg (k + 11)) 15 [] = some (V.bool b1))
    (c7 : (!b1) = false)
    (c8 : decide (4096 < (↑s0.length : Int)) = false)
    (c9 : decide (4096 < (↑s0.length : Int)) = false)
    (c10 : (!decide (i1 = 0)) = false)
    (c11 : callP (evalFn Try.prog Try.cfg (k + 11)) 19 [V.agg [V.bool true, V.int .u64 0, V.str s0]] = some (V.str s5))
    (c12 : (!decide (s1 = s5)) = false)
    (c13 : callP (evalFn Try.prog Try.cfg (k + 11)) 20 [V.sl o0 false n0 (List.take (if 12 < (↑x0.length : Int) then 12 else (↑x0.length : Int)).toNat x0)] = some (V.bool true))
    (c14 : decide (i2 = 4) = true) :
    callP (evalFn Try.prog Try.cfg (k + 12)) 4 [V.int .u64 i0, V.str s0, V.sl o0 b0 n0 x0] = some (V.bool (decide (s2 = []))) :=
  byF (k := k) (d := 12) [Hn.op 16 (V.sl o0 false n0 (List.take (if 12 < (↑x0.length : Int) then 12 else (↑x0.length : Int)).toNat x0)) [], Hn.call 19 (V.tup [V.str s1, V.int .i64 i1]), Hn.call 24 (V.tup [V.str s2, V.int .i64 i2]), Hn.call 28 (V.str s3), Hn.call 30 (V.str s4), Hn.br 32 false, Hn.call 33 (V.bool b1), Hn.br 35 false, Hn.br 40 false, Hn.br 49 false, Hn.br 54 false, Hn.call 58 (V.str s5), Hn.br 62 false, Hn.call 64 (V.bool true), Hn.br 67 true] (And.intro c0 (And.intro c1 (And.intro c2 (And.intro c3 (And.intro c4 (And.intro c5 (And.intro c6 (And.intro c7 (And.intro c8 (And.intro c9 (And.intro c10 (And.intro c11 (And.intro c12 (And.intro c13 (And.intro c14 trivial))))))))))))))) (by kernel_rfl)
theorem P4_11 (i0 i1 i2 : Int) (b0 b1 : Bool) (s0 : List UInt8) (s1 : List UInt8) (s2 : List UInt8) (s3 : List UInt8) (s4 : List UInt8) (s5 : List UInt8) (x0 : List V) (o0 : Option Bool) (n0 : Nat) (k : Nat)
    (c0 : SlcP true 3 (V.sl o0 b0 n0 x0) none (some (V.int .i64 (if 12 < (↑x0.length : Int) then 12 else (↑x0.length : Int)))) none (V.sl o0 false n0 (List.take (if 12 < (↑x0.length : Int) then 12 else (↑x0.length : Int)).toNat x0)))
    (c1 : callP (evalFn Try.prog Try.cfg (k + 11)) 16 [V.str s0] = some (V.tup [V.str s1, V.int .i64 i1]))
    (c2 : callP (evalFn Try.prog Try.cfg (k + 11)) 17 [V.sl o0 false n0 (List.take (if 12 < (↑x0.length : Int) then 12 else (↑x0.length : Int)).toNat x0)] = some (V.tup [V.str s2, V.int .i64 i2]))
    (c3 : callP (evalFn Try.prog Try.cfg (k + 11)) 13 [V.int .u64 i0] = some (V.str s3))
    (c4 : callP (evalFn Try.prog Try.cfg (k + 11)) 18 [V.int .u64 i0, V.int .i64 8] = some (V.str s4))
    (c5 : (!decide (s3 = s4)) = false)
    (c6 : callP (evalFn Try.prog Try.cfg (k + 11)) 15 [] = some (V.bool b1))
    (c7 : (!b1) = false)
    (c8 : decide (4096 < (↑s0.length : Int)) = false)
    (c9 : decide (4096 < (↑s0.length : Int)) = false)
    (c10 : (!decide (i1 = 0)) = false)
    (c11 : callP (evalFn Try.prog Try.cfg (k + 11)) 19 [V.agg [V.bool true, V.int .u64 0, V.str s0]] = some (V.str s5))
    (c12 : (!decide (s1 = s5)) = false)
    (c13 : callP (evalFn Try.prog Try.cfg (k + 11)) 20 [V.sl o0 false n0 (List.take (if 12 < (↑x0.length : Int) then 12 else (↑x0.length : Int)).toNat x0)] = some (V.bool true))
    (c14 : decide (i2 = 4) = false) :
    callP (evalFn Try.prog Try.cfg (k + 12)) 4 [V.int .u64 i0, V.str s0, V.sl o0 b0 n0 x0] = some (V.bool false) :=
  byF (k := k) (d := 12) [Hn.op 16 (V.sl o0 false n0 (List.take (if 12 < (↑x0.length : Int) then 12 else (↑x0.length : Int)).toNat x0)) [], Hn.call 19 (V.tup [V.str s1, V.int .i64 i1]), Hn.call 24 (V.tup [V.str s2, V.int .i64 i2]), Hn.call 28 (V.str s3), Hn.call 30 (V.str s4), Hn.br 32 false, Hn.call 33 (V.bool b1), Hn.br 35 false, Hn.br 40 false, Hn.br 49 false, Hn.br 54 false, Hn.call 58 (V.str s5), Hn.br 62 false, Hn.call 64 (V.bool true), Hn.br 67 false] (And.intro c0 (And.intro c1 (And.intro c2 (And.intro c3 (And.intro c4 (And.intro c5 (And.intro c6 (And.intro c7 (And.intro c8 (And.intro c9 (And.intro c10 (And.intro c11 (And.intro c12 (And.intro c13 (And.intro c14 trivial))))))))))))))) (by kernel_rfl)
theorem P4_12 (i0 i1 i2 : Int) (b0 b1 : Bool) (s0 : List UInt8) (s1 : List UInt8) (s2 : List UInt8) (s3 : List UInt8) (s4 : List UInt8) (s5 : List UInt8) (s6 : List UInt8) (x0 : List V) (o0 : Option Bool) (n0 : Nat) (k : Nat)
    (c0 : SlcP true 3 (V.sl o0 b0 n0 x0) none (some (V.int .i64 (if 12 < (↑x0.length : Int) then 12 else (↑x0.length : Int)))) none (V.sl o0 false n0 (List.take (if 12 < (↑x0.length : Int) then 12 else (↑x0.length : Int)).toNat x0)))
    (c1 : callP (evalFn Try.prog Try.cfg (k + 11)) 16 [V.str s0] = some (V.tup [V.str s1, V.int .i64 i1]))
    (c2 : callP (evalFn Try.prog Try.cfg (k + 11)) 17 [V.sl o0 false n0 (List.take (if 12 < (↑x0.length : Int) then 12 else (↑x0.length : Int)).toNat x0)] = some (V.tup [V.str s2, V.int .i64 i2]))
    (c3 : callP (evalFn Try.prog Try.cfg (k + 11)) 13 [V.int .u64 i0] = some (V.str s3))
    (c4 : callP (evalFn Try.prog Try.cfg (k + 11)) 18 [V.int .u64 i0, V.int .i64 8] = some (V.str s4))
    (c5 : (!decide (s3 = s4)) = false)
    (c6 : callP (evalFn Try.prog Try.cfg (k + 11)) 15 [] = some (V.bool b1))
    (c7 : (!b1) = false)
    (c8 : decide (4096 < (↑s0.length : Int)) = false)
    (c9 : decide (4096 < (↑s0.length : Int)) = false)
    (c10 : (!decide (i1 = 0)) = false)
    (c11 : callP (evalFn Try.prog Try.cfg (k + 11)) 19 [V.agg [V.bool true, V.int .u64 0, V.str s0]] = some (V.str s5))
    (c12 : (!decide (s1 = s5)) = false)
    (c13 : callP (evalFn Try.prog Try.cfg (k + 11)) 20 [V.sl o0 false n0 (List.take (if 12 < (↑x0.length : Int) then 12 else (↑x0.length : Int)).toNat x0)] = some (V.bool false))
    (c14 : decide (i2 = 0) = true)
    (c15 : callP (evalFn Try.prog Try.cfg (k + 11)) 21 [V.sl o0 false n0 (List.take (if 12 < (↑x0.length : Int) then 12 else (↑x0.length : Int)).toNat x0)] = some (V.str s6)) :
    callP (evalFn Try.prog Try.cfg (k + 12)) 4 [V.int .u64 i0, V.str s0, V.sl o0 b0 n0 x0] = some (V.bool (decide (s2 = s6))) :=
  byF (k := k) (d := 12) [Hn.op 16 (V.sl o0 false n0 (List.take (if 12 < (↑x0.length : Int) then 12 else (↑x0.length : Int)).toNat x0)) [], Hn.call 19 (V.tup [V.str s1, V.int .i64 i1]), Hn.call 24 (V.tup [V.str s2, V.int .i64 i2]), Hn.call 28 (V.str s3), Hn.call 30 (V.str s4), Hn.br 32 false, Hn.call 33 (V.bool b1), Hn.br 35 false, Hn.br 40 false, Hn.br 49 false, Hn.br 54 false, Hn.call 58 (V.str s5), Hn.br 62 false, Hn.call 64 (V.bool false), Hn.br 73 true, Hn.call 76 (V.str s6)] (And.intro c0 (And.intro c1 (And.intro c2 (And.intro c3 (And.intro c4 (And.intro c5 (And.intro c6 (And.intro c7 (And.intro c8 (And.intro c9 (And.intro c10 (And.intro c11 (And.intro c12 (And.intro c13 (And.intro c14 (And.intro c15 trivial)))))))))))))))) (by kernel_rfl)
theorem P4_13 (i0 i1 i2 : Int) (b0 b1 : Bool) (s0 : List UInt8) (s1 : List UInt8) (s2 : List UInt8) (s3 : List UInt8) (s4 : List UInt8) (s5 : List UInt8) (x0 : List V) (o0 : Option Bool) (n0 : Nat) (k : Nat)
    (c0 : SlcP true 3 (V.sl o0 b0 n0 x0) none (some (V.int .i64 (if 12 < (↑x0.length : Int) then 12 else (↑x0.length : Int)))) none (V.sl o0 false n0 (List.take (if 12 < (↑x0.length : Int) then 12 else (↑x0.length : Int)).toNat x0)))
    (c1 : callP (evalFn Try.prog Try.cfg (k + 11)) 16 [V.str s0] = some (V.tup [V.str s1, V.int .i64 i1]))
    (c2 : callP (evalFn Try.prog Try.cfg (k + 11)) 17 [V.sl o0 false n0 (List.take (if 12 < (↑x0.length : Int) then 12 else (↑x0.length : Int)).toNat x0)] = some (V.tup [V.str s2, V.int .i64 i2]))
    (c3 : callP (evalFn Try.prog Try.cfg (k + 11)) 13 [V.int .u64 i0] = some (V.str s3))
    (c4 : callP (evalFn Try.prog Try.cfg (k + 11)) 18 [V.int .u64 i0, V.int .i64 8] = some (V.str s4))
    (c5 : (!decide (s3 = s4)) = false)
    (c6 : callP (evalFn Try.prog Try.cfg (k + 11)) 15 [] = some (V.bool b1))
    (c7 : (!b1) = false)
    (c8 : decide (4096 < (↑s0.length : Int)) = false)
    (c9 : decide (4096 < (↑s0.length : Int)) = false)
    (c10 : (!decide (i1 = 0)) = false)
    (c11 : callP (evalFn Try.prog Try.cfg (k + 11)) 19 [V.agg [V.bool true, V.int .u64 0, V.str s0]] = some (V.str s5))
    (c12 : (!decide (s1 = s5)) = false)
    (c13 : callP (evalFn Try.prog Try.cfg (k + 11)) 20 [V.sl o0 false n0 (List.take (if 12 < (↑x0.length : Int) then 12 else (↑x0.length : Int)).toNat x0)] = some (V.bool false))
    (c14 : decide (i2 = 0) = false) :
    callP (evalFn Try.prog Try.cfg (k + 12)) 4 [V.int .u64 i0, V.str s0, V.sl o0 b0 n0 x0] = some (V.bool false) :=
  byF (k := k) (d := 12) [Hn.op 16 (V.sl o0 false n0 (List.take (if 12 < (↑x0.length : Int) then 12 else (↑x0.length : Int)).toNat x0)) [], Hn.call 19 (V.tup [V.str s1, V.int .i64 i1]), Hn.call 24 (V.tup [V.str s2, V.int .i64 i2]), Hn.call 28 (V.str s3), Hn.call 30 (V.str s4), Hn.br 32 false, Hn.call 33 (V.bool b1), Hn.br 35 false, Hn.br 40 false, Hn.br 49 false, Hn.br 54 false, Hn.call 58 (V.str s5), Hn.br 62 false, Hn.call 64 (V.bool false), Hn.br 73 false] (And.intro c0 (And.intro c1 (And.intro c2 (And.intro c3 (And.intro c4 (And.intro c5 (And.intro c6 (And.intro c7 (And.intro c8 (And.intro c9 (And.intro c10 (And.intro c11 (And.intro c12 (And.intro c13 (And.intro c14 trivial))))))))))))))) (by kernel_rfl)
def F4 (k : Nat) (i0 : Int) (s0 : List UInt8) (o0 : Option Bool) (b0 : Bool) (n0 : Nat) (x0 : List V) : Option (Bool) :=
  (guardP (n0 = (3 : Nat)) (guardP (((0 : Int) ≤ if (12 : Int) < (↑x0.length : Int) then (12 : Int) else (↑x0.length : Int)) ∧ (if (12 : Int) < (↑x0.length : Int) then (12 : Int) else (↑x0.length : Int)) ≤ (↑x0.length : Int)) ((F16 (k + 5) (s0)).bind fun (s1, i1) => ((F17 (k + 2) (o0) (false) (n0) (List.take (if 12 < (↑x0.length : Int) then 12 else (↑x0.length : Int)).toNat x0)).bind fun (s2, i2) => ((F13 (k + 5) (i0)).bind fun s3 => ((F18 (k + 8) (i0) (8)).bind fun s4 => (bif !decide (s3 = s4) then (some (false)) else ((F15 (k + 2)).bind fun b1 => (bif !b1 then (some (false)) else (bif decide (4096 < (↑s0.length : Int)) then (bif !decide (i1 = 4) then (some (false)) else (bif !decide (s1 = []) then (some (false)) else ((F20 (k + 8) (o0) (false) (n0) (List.take (if 12 < (↑x0.length : Int) then 12 else (↑x0.length : Int)).toNat x0)).bind fun b2 => (bif b2 then (bif decide (i2 = 4) then (some (decide (s2 = []))) else (some (false))) else (bif decide (i2 = 0) then ((F21 (k + 2) (o0) (false) (n0) (List.take (if 12 < (↑x0.length : Int) then 12 else (↑x0.length : Int)).toNat x0)).bind fun s5 => (some (decide (s2 = s5)))) else (some (false))))))) else (bif !decide (i1 = 0) then (some (false)) else ((F19 (k + 5) (true) (0) (s0)).bind fun s5 => (bif !decide (s1 = s5) then (some (false)) else ((F20 (k + 8) (o0) (false) (n0) (List.take (if 12 < (↑x0.length : Int) then 12 else (↑x0.length : Int)).toNat x0)).bind fun b2 => (bif b2 then (bif decide (i2 = 4) then (some (decide (s2 = []))) else (some (false))) else (bif decide (i2 = 0) then ((F21 (k + 2) (o0) (false) (n0) (List.take (if 12 < (↑x0.length : Int) then 12 else (↑x0.length : Int)).toNat x0)).bind fun s6 => (some (decide (s2 = s6)))) else (some (false))))))))))))))))))
theorem F4_ok {i0 : Int} {s0 : List UInt8} {o0 : Option Bool} {b0 : Bool} {n0 : Nat} {x0 : List V} {k : Nat} {r : Bool} (h : F4 k i0 s0 o0 b0 n0 x0 = some r) :
    callP (evalFn Try.prog Try.cfg (k + 12)) 4 [V.int .u64 i0, V.str s0, V.sl o0 b0 n0 x0] = some (V.bool r) := by
  unfold F4 at h
  obtain ⟨e0, h⟩ := guardP_some.1 h
  obtain ⟨e1, h⟩ := guardP_some.1 h
  obtain ⟨⟨s1, i1⟩, e2, h⟩ := Option.bind_eq_some_iff.1 h
  obtain ⟨⟨s2, i2⟩, e3, h⟩ := Option.bind_eq_some_iff.1 h
  obtain ⟨s3, e4, h⟩ := Option.bind_eq_some_iff.1 h
  obtain ⟨s4, e5, h⟩ := Option.bind_eq_some_iff.1 h
  rcases cond_elim h with ⟨e6, h⟩ | ⟨e6, h⟩
  ·
    have h := Option.some.inj h; subst h; exact P4_0 i0 i1 i2 b0 s0 s1 s2 s3 s4 x0 o0 n0 k (SlcP.uptoS e1 e0) (F16_ok e2) (F17_ok e3) (F13_ok e4) (F18_ok e5) e6
  ·
    obtain ⟨b1, e7, h⟩ := Option.bind_eq_some_iff.1 h
    rcases cond_elim h with ⟨e8, h⟩ | ⟨e8, h⟩
    ·
      have h := Option.some.inj h; subst h; exact P4_1 i0 i1 i2 b0 b1 s0 s1 s2 s3 s4 x0 o0 n0 k (SlcP.uptoS e1 e0) (F16_ok e2) (F17_ok e3) (F13_ok e4) (F18_ok e5) e6 (F15_ok e7) e8
    ·
      rcases cond_elim h with ⟨e9, h⟩ | ⟨e9, h⟩
      ·
        rcases cond_elim h with ⟨e10, h⟩ | ⟨e10, h⟩
        ·
          have h := Option.some.inj h; subst h; exact P4_2 i0 i1 i2 b0 b1 s0 s1 s2 s3 s4 x0 o0 n0 k (SlcP.uptoS e1 e0) (F16_ok e2) (F17_ok e3) (F13_ok e4) (F18_ok e5) e6 (F15_ok e7) e8 e9 e10
        ·
          rcases cond_elim h with ⟨e11, h⟩ | ⟨e11, h⟩
          ·
            have h := Option.some.inj h; subst h; exact P4_3 i0 i1 i2 b0 b1 s0 s1 s2 s3 s4 x0 o0 n0 k (SlcP.uptoS e1 e0) (F16_ok e2) (F17_ok e3) (F13_ok e4) (F18_ok e5) e6 (F15_ok e7) e8 e9 e10 e11
          ·
            obtain ⟨b2, e12, h⟩ := Option.bind_eq_some_iff.1 h
            rcases cond_elim h with ⟨e13, h⟩ | ⟨e13, h⟩
            ·
              rcases cond_elim h with ⟨e14, h⟩ | ⟨e14, h⟩
              ·
                have h := Option.some.inj h; subst h; exact P4_4 i0 i1 i2 b0 b1 s0 s1 s2 s3 s4 x0 o0 n0 k (SlcP.uptoS e1 e0) (F16_ok e2) (F17_ok e3) (F13_ok e4) (F18_ok e5) e6 (F15_ok e7) e8 e9 e10 e11 e9 ((F20_ok e12).trans (by rw [e13])) e14
              ·
                have h := Option.some.inj h; subst h; exact P4_5 i0 i1 i2 b0 b1 s0 s1 s2 s3 s4 x0 o0 n0 k (SlcP.uptoS e1 e0) (F16_ok e2) (F17_ok e3) (F13_ok e4) (F18_ok e5) e6 (F15_ok e7) e8 e9 e10 e11 e9 ((F20_ok e12).trans (by rw [e13])) e14
            ·
              rcases cond_elim h with ⟨e14, h⟩ | ⟨e14, h⟩
              ·
                obtain ⟨s5, e15, h⟩ := Option.bind_eq_some_iff.1 h
                have h := Option.some.inj h; subst h; exact P4_6 i0 i1 i2 b0 b1 s0 s1 s2 s3 s4 s5 x0 o0 n0 k (SlcP.uptoS e1 e0) (F16_ok e2) (F17_ok e3) (F13_ok e4) (F18_ok e5) e6 (F15_ok e7) e8 e9 e10 e11 e9 ((F20_ok e12).trans (by rw [e13])) e14 (F21_ok e15)
              ·
                have h := Option.some.inj h; subst h; exact P4_7 i0 i1 i2 b0 b1 s0 s1 s2 s3 s4 x0 o0 n0 k (SlcP.uptoS e1 e0) (F16_ok e2) (F17_ok e3) (F13_ok e4) (F18_ok e5) e6 (F15_ok e7) e8 e9 e10 e11 e9 ((F20_ok e12).trans (by rw [e13])) e14
      ·
        rcases cond_elim h with ⟨e10, h⟩ | ⟨e10, h⟩
        ·
          have h := Option.some.inj h; subst h; exact P4_8 i0 i1 i2 b0 b1 s0 s1 s2 s3 s4 x0 o0 n0 k (SlcP.uptoS e1 e0) (F16_ok e2) (F17_ok e3) (F13_ok e4) (F18_ok e5) e6 (F15_ok e7) e8 e9 e9 e10
        ·
          obtain ⟨s5, e11, h⟩ := Option.bind_eq_some_iff.1 h
          rcases cond_elim h with ⟨e12, h⟩ | ⟨e12, h⟩
          ·
            have h := Option.some.inj h; subst h; exact P4_9 i0 i1 i2 b0 b1 s0 s1 s2 s3 s4 s5 x0 o0 n0 k (SlcP.uptoS e1 e0) (F16_ok e2) (F17_ok e3) (F13_ok e4) (F18_ok e5) e6 (F15_ok e7) e8 e9 e9 e10 (F19_ok e11) e12
          ·
            obtain ⟨b2, e13, h⟩ := Option.bind_eq_some_iff.1 h
            rcases cond_elim h with ⟨e14, h⟩ | ⟨e14, h⟩
            ·
              rcases cond_elim h with ⟨e15, h⟩ | ⟨e15, h⟩
              ·
                have h := Option.some.inj h; subst h; exact P4_10 i0 i1 i2 b0 b1 s0 s1 s2 s3 s4 s5 x0 o0 n0 k (SlcP.uptoS e1 e0) (F16_ok e2) (F17_ok e3) (F13_ok e4) (F18_ok e5) e6 (F15_ok e7) e8 e9 e9 e10 (F19_ok e11) e12 ((F20_ok e13).trans (by rw [e14])) e15
              ·
                have h := Option.some.inj h; subst h; exact P4_11 i0 i1 i2 b0 b1 s0 s1 s2 s3 s4 s5 x0 o0 n0 k (SlcP.uptoS e1 e0) (F16_ok e2) (F17_ok e3) (F13_ok e4) (F18_ok e5) e6 (F15_ok e7) e8 e9 e9 e10 (F19_ok e11) e12 ((F20_ok e13).trans (by rw [e14])) e15
            ·
              rcases cond_elim h with ⟨e15, h⟩ | ⟨e15, h⟩
              ·
                obtain ⟨s6, e16, h⟩ := Option.bind_eq_some_iff.1 h
                have h := Option.some.inj h; subst h; exact P4_12 i0 i1 i2 b0 b1 s0 s1 s2 s3 s4 s5 s6 x0 o0 n0 k (SlcP.uptoS e1 e0) (F16_ok e2) (F17_ok e3) (F13_ok e4) (F18_ok e5) e6 (F15_ok e7) e8 e9 e9 e10 (F19_ok e11) e12 ((F20_ok e13).trans (by rw [e14])) e15 (F21_ok e16)
              ·
                have h := Option.some.inj h; subst h; exact P4_13 i0 i1 i2 b0 b1 s0 s1 s2 s3 s4 s5 x0 o0 n0 k (SlcP.uptoS e1 e0) (F16_ok e2) (F17_ok e3) (F13_ok e4) (F18_ok e5) e6 (F15_ok e7) e8 e9 e9 e10 (F19_ok e11) e12 ((F20_ok e13).trans (by rw [e14])) e15
end Go.Proofs
