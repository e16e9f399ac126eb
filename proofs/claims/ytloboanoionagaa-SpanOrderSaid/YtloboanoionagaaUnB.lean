/-
  What the reference of unions answers, each checked against the program.
-/
import Derived.Test.YtloboanoionagaaUnA
set_option linter.unusedVariables false
set_option maxHeartbeats 0
set_option maxRecDepth 100000
namespace Go.Proofs
open Go Go.Sym

theorem L36_1_b0 (i0 i1 i2 i5 i6 i7 i8 i9 i10 : Int) (b0 : Bool) (x0 : List V) (o0 : Option Bool) (n0 k : Nat)
    (c0 : decide (i5 < (↑x0.length : Int)) = true)
    (c1 : IdxP x0 i5 n0 2 (V.agg [vu i8, vu i9]))
    (c2 : cP ((k + 8)) 42 [vu i6, vu i7, V.agg [vu i8, vu i9]] = some (V.bool true))
    (c3 : decide (i8 < i6) = true)
    (c4 : cP ((k + 8)) 13 [V.agg [vu i8, vu i9]] = some (vu i10))
    (c5 : decide (i7 < i10) = true)
    (c6 : cP ((k + 8)) 13 [V.agg [vu i8, vu i9]] = some (vu i10)) :
    evalCode Try.prog Try.cfg (evalFn Try.prog Try.cfg (k + 8)) 0 (Try.cfg.fc 36) (k + 8) (loopBody Try.f36 1) { tm := [(0, V.sl o0 b0 n0 x0), (1, V.agg [vu i0, vu i1]), (3, V.ptr 0 0), (4, V.ptr 1 0), (8, vi (↑x0.length : Int)), (9, vi i2), (10, V.bool true), (11, V.sl o0 b0 n0 x0), (12, vi (↑x0.length : Int)), (13, vi i5)], hp := [(0, Ob.var [vu i6, vu i7]), (1, Ob.var [vu 0, vu 0])], nx := 2 } = some (Exit.normal, { tm := [(0, V.sl o0 b0 n0 x0), (1, V.agg [vu i0, vu i1]), (3, V.ptr 0 0), (4, V.ptr 1 0), (6, V.ptr 14 0), (8, vi (↑x0.length : Int)), (9, vi i2), (10, V.bool true), (11, V.sl o0 b0 n0 x0), (12, vi (↑x0.length : Int)), (13, vi (IntKind.i64.wrap (i5 + 1))), (14, V.bool true), (22, V.bool true), (27, V.bool true), (35, V.bool true)], hp := [(0, Ob.var [vu i8, vu i10]), (1, Ob.var [vu 0, vu 0]), (14, Ob.var [vu i8, vu i9])], nx := 126 }) :=
  byL (k := k) (d := 8) [Hn.br 14 true, Hn.op 15 ((V.agg [vu i8, vu i9]).cpt 0) [], Hn.call 22 (V.bool true), Hn.br 27 true, Hn.call 32 (vu i10), Hn.br 35 true, Hn.call 37 (vu i10)] (aI c0 (aI c1 (aI c2 (aI c3 (aI c4 (aI c5 (aI c6 trivial))))))) (by kernel_rfl)
theorem L36_1_b0h (i0 i1 i2 i5 i8 i9 i10 : Int) (b0 : Bool) (x0 : List V) (o0 : Option Bool) (n0 : Nat) : head 0 [0, 1, 3, 4, 8, 9, 10, 11, 12, 13] (Try.cfg.fc 36).acc { tm := [(0, V.sl o0 b0 n0 x0), (1, V.agg [vu i0, vu i1]), (3, V.ptr 0 0), (4, V.ptr 1 0), (6, V.ptr 14 0), (8, vi (↑x0.length : Int)), (9, vi i2), (10, V.bool true), (11, V.sl o0 b0 n0 x0), (12, vi (↑x0.length : Int)), (13, vi (IntKind.i64.wrap (i5 + 1))), (14, V.bool true), (22, V.bool true), (27, V.bool true), (35, V.bool true)], hp := [(0, Ob.var [vu i8, vu i10]), (1, Ob.var [vu 0, vu 0]), (14, Ob.var [vu i8, vu i9])], nx := 126 } = { tm := [(0, V.sl o0 b0 n0 x0), (1, V.agg [vu i0, vu i1]), (3, V.ptr 0 0), (4, V.ptr 1 0), (8, vi (↑x0.length : Int)), (9, vi i2), (10, V.bool true), (11, V.sl o0 b0 n0 x0), (12, vi (↑x0.length : Int)), (13, vi (IntKind.i64.wrap (i5 + 1)))], hp := [(0, Ob.var [vu i8, vu i10]), (1, Ob.var [vu 0, vu 0])], nx := 2 } := by kernel_rfl
theorem L36_1_b1 (i0 i1 i2 i5 i6 i7 i8 i9 i10 : Int) (b0 : Bool) (x0 : List V) (o0 : Option Bool) (n0 k : Nat)
    (c0 : decide (i5 < (↑x0.length : Int)) = true)
    (c1 : IdxP x0 i5 n0 2 (V.agg [vu i8, vu i9]))
    (c2 : cP ((k + 8)) 42 [vu i6, vu i7, V.agg [vu i8, vu i9]] = some (V.bool true))
    (c3 : decide (i8 < i6) = true)
    (c4 : cP ((k + 8)) 13 [V.agg [vu i8, vu i9]] = some (vu i10))
    (c5 : decide (i7 < i10) = false) :
    evalCode Try.prog Try.cfg (evalFn Try.prog Try.cfg (k + 8)) 0 (Try.cfg.fc 36) (k + 8) (loopBody Try.f36 1) { tm := [(0, V.sl o0 b0 n0 x0), (1, V.agg [vu i0, vu i1]), (3, V.ptr 0 0), (4, V.ptr 1 0), (8, vi (↑x0.length : Int)), (9, vi i2), (10, V.bool true), (11, V.sl o0 b0 n0 x0), (12, vi (↑x0.length : Int)), (13, vi i5)], hp := [(0, Ob.var [vu i6, vu i7]), (1, Ob.var [vu 0, vu 0])], nx := 2 } = some (Exit.normal, { tm := [(0, V.sl o0 b0 n0 x0), (1, V.agg [vu i0, vu i1]), (3, V.ptr 0 0), (4, V.ptr 1 0), (6, V.ptr 14 0), (8, vi (↑x0.length : Int)), (9, vi i2), (10, V.bool true), (11, V.sl o0 b0 n0 x0), (12, vi (↑x0.length : Int)), (13, vi (IntKind.i64.wrap (i5 + 1))), (14, V.bool true), (22, V.bool true), (27, V.bool true), (35, V.bool false)], hp := [(0, Ob.var [vu i8, vu i7]), (1, Ob.var [vu 0, vu 0]), (14, Ob.var [vu i8, vu i9])], nx := 110 }) :=
  byL (k := k) (d := 8) [Hn.br 14 true, Hn.op 15 ((V.agg [vu i8, vu i9]).cpt 0) [], Hn.call 22 (V.bool true), Hn.br 27 true, Hn.call 32 (vu i10), Hn.br 35 false] (aI c0 (aI c1 (aI c2 (aI c3 (aI c4 (aI c5 trivial)))))) (by kernel_rfl)
theorem L36_1_b1h (i0 i1 i2 i5 i7 i8 i9 : Int) (b0 : Bool) (x0 : List V) (o0 : Option Bool) (n0 : Nat) : head 0 [0, 1, 3, 4, 8, 9, 10, 11, 12, 13] (Try.cfg.fc 36).acc { tm := [(0, V.sl o0 b0 n0 x0), (1, V.agg [vu i0, vu i1]), (3, V.ptr 0 0), (4, V.ptr 1 0), (6, V.ptr 14 0), (8, vi (↑x0.length : Int)), (9, vi i2), (10, V.bool true), (11, V.sl o0 b0 n0 x0), (12, vi (↑x0.length : Int)), (13, vi (IntKind.i64.wrap (i5 + 1))), (14, V.bool true), (22, V.bool true), (27, V.bool true), (35, V.bool false)], hp := [(0, Ob.var [vu i8, vu i7]), (1, Ob.var [vu 0, vu 0]), (14, Ob.var [vu i8, vu i9])], nx := 110 } = { tm := [(0, V.sl o0 b0 n0 x0), (1, V.agg [vu i0, vu i1]), (3, V.ptr 0 0), (4, V.ptr 1 0), (8, vi (↑x0.length : Int)), (9, vi i2), (10, V.bool true), (11, V.sl o0 b0 n0 x0), (12, vi (↑x0.length : Int)), (13, vi (IntKind.i64.wrap (i5 + 1)))], hp := [(0, Ob.var [vu i8, vu i7]), (1, Ob.var [vu 0, vu 0])], nx := 2 } := by kernel_rfl
theorem L36_1_b2 (i0 i1 i2 i5 i6 i7 i8 i9 i10 : Int) (b0 : Bool) (x0 : List V) (o0 : Option Bool) (n0 k : Nat)
    (c0 : decide (i5 < (↑x0.length : Int)) = true)
    (c1 : IdxP x0 i5 n0 2 (V.agg [vu i8, vu i9]))
    (c2 : cP ((k + 8)) 42 [vu i6, vu i7, V.agg [vu i8, vu i9]] = some (V.bool true))
    (c3 : decide (i8 < i6) = false)
    (c4 : cP ((k + 8)) 13 [V.agg [vu i8, vu i9]] = some (vu i10))
    (c5 : decide (i7 < i10) = true)
    (c6 : cP ((k + 8)) 13 [V.agg [vu i8, vu i9]] = some (vu i10)) :
    evalCode Try.prog Try.cfg (evalFn Try.prog Try.cfg (k + 8)) 0 (Try.cfg.fc 36) (k + 8) (loopBody Try.f36 1) { tm := [(0, V.sl o0 b0 n0 x0), (1, V.agg [vu i0, vu i1]), (3, V.ptr 0 0), (4, V.ptr 1 0), (8, vi (↑x0.length : Int)), (9, vi i2), (10, V.bool true), (11, V.sl o0 b0 n0 x0), (12, vi (↑x0.length : Int)), (13, vi i5)], hp := [(0, Ob.var [vu i6, vu i7]), (1, Ob.var [vu 0, vu 0])], nx := 2 } = some (Exit.normal, { tm := [(0, V.sl o0 b0 n0 x0), (1, V.agg [vu i0, vu i1]), (3, V.ptr 0 0), (4, V.ptr 1 0), (6, V.ptr 14 0), (8, vi (↑x0.length : Int)), (9, vi i2), (10, V.bool true), (11, V.sl o0 b0 n0 x0), (12, vi (↑x0.length : Int)), (13, vi (IntKind.i64.wrap (i5 + 1))), (14, V.bool true), (22, V.bool true), (27, V.bool false), (35, V.bool true)], hp := [(0, Ob.var [vu i6, vu i10]), (1, Ob.var [vu 0, vu 0]), (14, Ob.var [vu i8, vu i9])], nx := 110 }) :=
  byL (k := k) (d := 8) [Hn.br 14 true, Hn.op 15 ((V.agg [vu i8, vu i9]).cpt 0) [], Hn.call 22 (V.bool true), Hn.br 27 false, Hn.call 32 (vu i10), Hn.br 35 true, Hn.call 37 (vu i10)] (aI c0 (aI c1 (aI c2 (aI c3 (aI c4 (aI c5 (aI c6 trivial))))))) (by kernel_rfl)
theorem L36_1_b2h (i0 i1 i2 i5 i6 i8 i9 i10 : Int) (b0 : Bool) (x0 : List V) (o0 : Option Bool) (n0 : Nat) : head 0 [0, 1, 3, 4, 8, 9, 10, 11, 12, 13] (Try.cfg.fc 36).acc { tm := [(0, V.sl o0 b0 n0 x0), (1, V.agg [vu i0, vu i1]), (3, V.ptr 0 0), (4, V.ptr 1 0), (6, V.ptr 14 0), (8, vi (↑x0.length : Int)), (9, vi i2), (10, V.bool true), (11, V.sl o0 b0 n0 x0), (12, vi (↑x0.length : Int)), (13, vi (IntKind.i64.wrap (i5 + 1))), (14, V.bool true), (22, V.bool true), (27, V.bool false), (35, V.bool true)], hp := [(0, Ob.var [vu i6, vu i10]), (1, Ob.var [vu 0, vu 0]), (14, Ob.var [vu i8, vu i9])], nx := 110 } = { tm := [(0, V.sl o0 b0 n0 x0), (1, V.agg [vu i0, vu i1]), (3, V.ptr 0 0), (4, V.ptr 1 0), (8, vi (↑x0.length : Int)), (9, vi i2), (10, V.bool true), (11, V.sl o0 b0 n0 x0), (12, vi (↑x0.length : Int)), (13, vi (IntKind.i64.wrap (i5 + 1)))], hp := [(0, Ob.var [vu i6, vu i10]), (1, Ob.var [vu 0, vu 0])], nx := 2 } := by kernel_rfl
theorem L36_1_b3 (i0 i1 i2 i5 i6 i7 i8 i9 i10 : Int) (b0 : Bool) (x0 : List V) (o0 : Option Bool) (n0 k : Nat)
    (c0 : decide (i5 < (↑x0.length : Int)) = true)
    (c1 : IdxP x0 i5 n0 2 (V.agg [vu i8, vu i9]))
    (c2 : cP ((k + 8)) 42 [vu i6, vu i7, V.agg [vu i8, vu i9]] = some (V.bool true))
    (c3 : decide (i8 < i6) = false)
    (c4 : cP ((k + 8)) 13 [V.agg [vu i8, vu i9]] = some (vu i10))
    (c5 : decide (i7 < i10) = false) :
    evalCode Try.prog Try.cfg (evalFn Try.prog Try.cfg (k + 8)) 0 (Try.cfg.fc 36) (k + 8) (loopBody Try.f36 1) { tm := [(0, V.sl o0 b0 n0 x0), (1, V.agg [vu i0, vu i1]), (3, V.ptr 0 0), (4, V.ptr 1 0), (8, vi (↑x0.length : Int)), (9, vi i2), (10, V.bool true), (11, V.sl o0 b0 n0 x0), (12, vi (↑x0.length : Int)), (13, vi i5)], hp := [(0, Ob.var [vu i6, vu i7]), (1, Ob.var [vu 0, vu 0])], nx := 2 } = some (Exit.normal, { tm := [(0, V.sl o0 b0 n0 x0), (1, V.agg [vu i0, vu i1]), (3, V.ptr 0 0), (4, V.ptr 1 0), (6, V.ptr 14 0), (8, vi (↑x0.length : Int)), (9, vi i2), (10, V.bool true), (11, V.sl o0 b0 n0 x0), (12, vi (↑x0.length : Int)), (13, vi (IntKind.i64.wrap (i5 + 1))), (14, V.bool true), (22, V.bool true), (27, V.bool false), (35, V.bool false)], hp := [(0, Ob.var [vu i6, vu i7]), (1, Ob.var [vu 0, vu 0]), (14, Ob.var [vu i8, vu i9])], nx := 94 }) :=
  byL (k := k) (d := 8) [Hn.br 14 true, Hn.op 15 ((V.agg [vu i8, vu i9]).cpt 0) [], Hn.call 22 (V.bool true), Hn.br 27 false, Hn.call 32 (vu i10), Hn.br 35 false] (aI c0 (aI c1 (aI c2 (aI c3 (aI c4 (aI c5 trivial)))))) (by kernel_rfl)
theorem L36_1_b3h (i0 i1 i2 i5 i6 i7 i8 i9 : Int) (b0 : Bool) (x0 : List V) (o0 : Option Bool) (n0 : Nat) : head 0 [0, 1, 3, 4, 8, 9, 10, 11, 12, 13] (Try.cfg.fc 36).acc { tm := [(0, V.sl o0 b0 n0 x0), (1, V.agg [vu i0, vu i1]), (3, V.ptr 0 0), (4, V.ptr 1 0), (6, V.ptr 14 0), (8, vi (↑x0.length : Int)), (9, vi i2), (10, V.bool true), (11, V.sl o0 b0 n0 x0), (12, vi (↑x0.length : Int)), (13, vi (IntKind.i64.wrap (i5 + 1))), (14, V.bool true), (22, V.bool true), (27, V.bool false), (35, V.bool false)], hp := [(0, Ob.var [vu i6, vu i7]), (1, Ob.var [vu 0, vu 0]), (14, Ob.var [vu i8, vu i9])], nx := 94 } = { tm := [(0, V.sl o0 b0 n0 x0), (1, V.agg [vu i0, vu i1]), (3, V.ptr 0 0), (4, V.ptr 1 0), (8, vi (↑x0.length : Int)), (9, vi i2), (10, V.bool true), (11, V.sl o0 b0 n0 x0), (12, vi (↑x0.length : Int)), (13, vi (IntKind.i64.wrap (i5 + 1)))], hp := [(0, Ob.var [vu i6, vu i7]), (1, Ob.var [vu 0, vu 0])], nx := 2 } := by kernel_rfl
theorem L36_1_b4 (i0 i1 i2 i5 i6 i7 i8 i9 : Int) (b0 : Bool) (x0 : List V) (o0 : Option Bool) (n0 k : Nat)
    (c0 : decide (i5 < (↑x0.length : Int)) = true)
    (c1 : IdxP x0 i5 n0 2 (V.agg [vu i8, vu i9]))
    (c2 : cP ((k + 8)) 42 [vu i6, vu i7, V.agg [vu i8, vu i9]] = some (V.bool false)) :
    evalCode Try.prog Try.cfg (evalFn Try.prog Try.cfg (k + 8)) 0 (Try.cfg.fc 36) (k + 8) (loopBody Try.f36 1) { tm := [(0, V.sl o0 b0 n0 x0), (1, V.agg [vu i0, vu i1]), (3, V.ptr 0 0), (4, V.ptr 1 0), (8, vi (↑x0.length : Int)), (9, vi i2), (10, V.bool true), (11, V.sl o0 b0 n0 x0), (12, vi (↑x0.length : Int)), (13, vi i5)], hp := [(0, Ob.var [vu i6, vu i7]), (1, Ob.var [vu 0, vu 0])], nx := 2 } = some (Exit.normal, { tm := [(0, V.sl o0 b0 n0 x0), (1, V.agg [vu i0, vu i1]), (3, V.ptr 0 0), (4, V.ptr 1 0), (6, V.ptr 14 0), (8, vi (↑x0.length : Int)), (9, vi i2), (10, V.bool true), (11, V.sl o0 b0 n0 x0), (12, vi (↑x0.length : Int)), (13, vi (IntKind.i64.wrap (i5 + 1))), (14, V.bool true), (22, V.bool false)], hp := [(0, Ob.var [vu i6, vu i7]), (1, Ob.var [vu 0, vu 0]), (14, Ob.var [vu i8, vu i9])], nx := 54 }) :=
  byL (k := k) (d := 8) [Hn.br 14 true, Hn.op 15 ((V.agg [vu i8, vu i9]).cpt 0) [], Hn.call 22 (V.bool false)] (aI c0 (aI c1 (aI c2 trivial))) (by kernel_rfl)
theorem L36_1_b4h (i0 i1 i2 i5 i6 i7 i8 i9 : Int) (b0 : Bool) (x0 : List V) (o0 : Option Bool) (n0 : Nat) : head 0 [0, 1, 3, 4, 8, 9, 10, 11, 12, 13] (Try.cfg.fc 36).acc { tm := [(0, V.sl o0 b0 n0 x0), (1, V.agg [vu i0, vu i1]), (3, V.ptr 0 0), (4, V.ptr 1 0), (6, V.ptr 14 0), (8, vi (↑x0.length : Int)), (9, vi i2), (10, V.bool true), (11, V.sl o0 b0 n0 x0), (12, vi (↑x0.length : Int)), (13, vi (IntKind.i64.wrap (i5 + 1))), (14, V.bool true), (22, V.bool false)], hp := [(0, Ob.var [vu i6, vu i7]), (1, Ob.var [vu 0, vu 0]), (14, Ob.var [vu i8, vu i9])], nx := 54 } = { tm := [(0, V.sl o0 b0 n0 x0), (1, V.agg [vu i0, vu i1]), (3, V.ptr 0 0), (4, V.ptr 1 0), (8, vi (↑x0.length : Int)), (9, vi i2), (10, V.bool true), (11, V.sl o0 b0 n0 x0), (12, vi (↑x0.length : Int)), (13, vi (IntKind.i64.wrap (i5 + 1)))], hp := [(0, Ob.var [vu i6, vu i7]), (1, Ob.var [vu 0, vu 0])], nx := 2 } := by kernel_rfl
theorem L36_1_b5 (i0 i1 i2 i5 i6 i7 : Int) (b0 : Bool) (x0 : List V) (o0 : Option Bool) (n0 k : Nat)
    (c0 : decide (i5 < (↑x0.length : Int)) = false) :
    evalCode Try.prog Try.cfg (evalFn Try.prog Try.cfg (k + 8)) 0 (Try.cfg.fc 36) (k + 8) (loopBody Try.f36 1) { tm := [(0, V.sl o0 b0 n0 x0), (1, V.agg [vu i0, vu i1]), (3, V.ptr 0 0), (4, V.ptr 1 0), (8, vi (↑x0.length : Int)), (9, vi i2), (10, V.bool true), (11, V.sl o0 b0 n0 x0), (12, vi (↑x0.length : Int)), (13, vi i5)], hp := [(0, Ob.var [vu i6, vu i7]), (1, Ob.var [vu 0, vu 0])], nx := 2 } = some (Exit.exit 2, { tm := [(0, V.sl o0 b0 n0 x0), (1, V.agg [vu i0, vu i1]), (3, V.ptr 0 0), (4, V.ptr 1 0), (8, vi (↑x0.length : Int)), (9, vi i2), (10, V.bool true), (11, V.sl o0 b0 n0 x0), (12, vi (↑x0.length : Int)), (13, vi i5), (14, V.bool false)], hp := [(0, Ob.var [vu i6, vu i7]), (1, Ob.var [vu 0, vu 0])], nx := 6 }) :=
  byL (k := k) (d := 8) [Hn.br 14 false] (aI c0 trivial) (by kernel_rfl)
inductive L36_1_R where
  | e0 (i5 : Int) (i6 : Int) (i7 : Int)
noncomputable def L36_1_end (i0 : Int) (i1 : Int) (i2 : Int) (b0 : Bool) (x0 : List V) (o0 : Option Bool) (n0 : Nat) : L36_1_R → Exit × St
  | .e0 i5 i6 i7 => (Exit.exit 2, { tm := [(0, V.sl o0 b0 n0 x0), (1, V.agg [V.int .u64 i0, V.int .u64 i1]), (3, V.ptr 0 0), (4, V.ptr 1 0), (8, V.int .i64 (↑x0.length : Int)), (9, V.int .i64 i2), (10, V.bool true), (11, V.sl o0 b0 n0 x0), (12, V.int .i64 (↑x0.length : Int)), (13, V.int .i64 i5), (14, V.bool false)], hp := [(0, Ob.var [V.int .u64 i6, V.int .u64 i7]), (1, Ob.var [V.int .u64 0, V.int .u64 0])], nx := 6 })
def L36_1 (k : Nat) (i0 i1 i2 : Int) (b0 : Bool) (x0 : List V) (o0 : Option Bool) (n0 : Nat) : Nat → Int → Int → Int → Option L36_1_R
  | 0, _, _, _ => none
  | f + 1, i5, i6, i7 => (bif decide (i5 < (↑x0.length : Int)) then (guardP (n0 = (2 : Nat)) (((at? (x0) (i5)).bind dAu64u64Z).bind fun (i8, i9) => ((F42 (k + 2) (i6) (i7) (i8) (i9)).bind fun b1 => (bif b1 then (bif decide (i8 < i6) then ((F13 (k + 5) (i8) (i9)).bind fun i10 => (bif decide (i7 < i10) then (L36_1 k i0 i1 i2 b0 x0 o0 n0 f (IntKind.i64.wrap (i5 + 1)) (i8) (i10)) else (L36_1 k i0 i1 i2 b0 x0 o0 n0 f (IntKind.i64.wrap (i5 + 1)) (i8) (i7)))) else ((F13 (k + 5) (i8) (i9)).bind fun i10 => (bif decide (i7 < i10) then (L36_1 k i0 i1 i2 b0 x0 o0 n0 f (IntKind.i64.wrap (i5 + 1)) (i6) (i10)) else (L36_1 k i0 i1 i2 b0 x0 o0 n0 f (IntKind.i64.wrap (i5 + 1)) (i6) (i7))))) else (L36_1 k i0 i1 i2 b0 x0 o0 n0 f (IntKind.i64.wrap (i5 + 1)) (i6) (i7)))))) else (some (L36_1_R.e0 i5 i6 i7)))
theorem L36_1_ok {i0 i1 i2 : Int} {b0 : Bool} {x0 : List V} {o0 : Option Bool} {n0 k : Nat} : ∀ {f : Nat} {i5 : Int} {i6 : Int} {i7 : Int} {r : L36_1_R}, L36_1 k i0 i1 i2 b0 x0 o0 n0 f i5 i6 i7 = some r →
    LoopsN Try.prog Try.cfg (k + 8) 0 Try.f36 (Try.cfg.fc 36) 1 [0, 1, 3, 4, 8, 9, 10, 11, 12, 13] f { tm := [(0, V.sl o0 b0 n0 x0), (1, V.agg [vu i0, vu i1]), (3, V.ptr 0 0), (4, V.ptr 1 0), (8, vi (↑x0.length : Int)), (9, vi i2), (10, V.bool true), (11, V.sl o0 b0 n0 x0), (12, vi (↑x0.length : Int)), (13, vi i5)], hp := [(0, Ob.var [vu i6, vu i7]), (1, Ob.var [vu 0, vu 0])], nx := 2 } (L36_1_end i0 i1 i2 b0 x0 o0 n0 r) := by
  intro f
  induction f with
  | zero => intro i5 i6 i7 r h; cases h
  | succ f ih =>
    intro i5 i6 i7 r h
    rw [L36_1] at h
    rcases cond_elim h with ⟨e0, h⟩ | ⟨e0, h⟩
    ·
      obtain ⟨e1, h⟩ := guardP_some.1 h
      obtain ⟨⟨i8, i9⟩, e2, h⟩ := bE h
      obtain ⟨b1, e3, h⟩ := bE h
      rcases cond_elim h with ⟨e4, h⟩ | ⟨e4, h⟩
      ·
        rcases cond_elim h with ⟨e5, h⟩ | ⟨e5, h⟩
        ·
          obtain ⟨i10, e6, h⟩ := bE h
          rcases cond_elim h with ⟨e7, h⟩ | ⟨e7, h⟩
          ·
            exact LoopsN.next (L36_1_b0 i0 i1 i2 i5 i6 i7 i8 i9 i10 b0 x0 o0 n0 k e0 (IdxP.of_at' (at_d dAu64u64Z_ok e2 :) e1) ((F42_ok e3).trans (by rw [e4])) e5 (F13_ok e6) e7 (F13_ok e6)) (L36_1_b0h i0 i1 i2 i5 i8 i9 i10 b0 x0 o0 n0) (ih h)
          ·
            exact LoopsN.next (L36_1_b1 i0 i1 i2 i5 i6 i7 i8 i9 i10 b0 x0 o0 n0 k e0 (IdxP.of_at' (at_d dAu64u64Z_ok e2 :) e1) ((F42_ok e3).trans (by rw [e4])) e5 (F13_ok e6) e7) (L36_1_b1h i0 i1 i2 i5 i7 i8 i9 b0 x0 o0 n0) (ih h)
        ·
          obtain ⟨i10, e6, h⟩ := bE h
          rcases cond_elim h with ⟨e7, h⟩ | ⟨e7, h⟩
          ·
            exact LoopsN.next (L36_1_b2 i0 i1 i2 i5 i6 i7 i8 i9 i10 b0 x0 o0 n0 k e0 (IdxP.of_at' (at_d dAu64u64Z_ok e2 :) e1) ((F42_ok e3).trans (by rw [e4])) e5 (F13_ok e6) e7 (F13_ok e6)) (L36_1_b2h i0 i1 i2 i5 i6 i8 i9 i10 b0 x0 o0 n0) (ih h)
          ·
            exact LoopsN.next (L36_1_b3 i0 i1 i2 i5 i6 i7 i8 i9 i10 b0 x0 o0 n0 k e0 (IdxP.of_at' (at_d dAu64u64Z_ok e2 :) e1) ((F42_ok e3).trans (by rw [e4])) e5 (F13_ok e6) e7) (L36_1_b3h i0 i1 i2 i5 i6 i7 i8 i9 b0 x0 o0 n0) (ih h)
      ·
        exact LoopsN.next (L36_1_b4 i0 i1 i2 i5 i6 i7 i8 i9 b0 x0 o0 n0 k e0 (IdxP.of_at' (at_d dAu64u64Z_ok e2 :) e1) ((F42_ok e3).trans (by rw [e4]))) (L36_1_b4h i0 i1 i2 i5 i6 i7 i8 i9 b0 x0 o0 n0) (ih h)
    ·
      cases h; exact LoopsN.done (L36_1_b5 i0 i1 i2 i5 i6 i7 b0 x0 o0 n0 k e0) (fun h => by cases h)
theorem L36_0_b0 (i0 i1 i2 i3 i4 i5 i6 i7 : Int) (b0 : Bool) (x0 : List V) (o0 : Option Bool) (n0 k : Nat)
    (c0 : decide (i2 < (↑x0.length : Int)) = true)
    (c1 : LoopsN Try.prog Try.cfg (k + 8) 0 Try.f36 (Try.cfg.fc 36) 1 [0, 1, 3, 4, 8, 9, 10, 11, 12, 13] (k + 8) { tm := [(0, V.sl o0 b0 n0 x0), (1, V.agg [vu i0, vu i1]), (3, V.ptr 0 0), (4, V.ptr 1 0), (8, vi (↑x0.length : Int)), (9, vi i2), (10, V.bool true), (11, V.sl o0 b0 n0 x0), (12, vi (↑x0.length : Int)), (13, vi 0)], hp := [(0, Ob.var [vu i3, vu i4]), (1, Ob.var [vu 0, vu 0])], nx := 2 } (Exit.exit 2, { tm := [(0, V.sl o0 b0 n0 x0), (1, V.agg [vu i0, vu i1]), (3, V.ptr 0 0), (4, V.ptr 1 0), (8, vi (↑x0.length : Int)), (9, vi i2), (10, V.bool true), (11, V.sl o0 b0 n0 x0), (12, vi (↑x0.length : Int)), (13, vi i5), (14, V.bool false)], hp := [(0, Ob.var [vu i6, vu i7]), (1, Ob.var [vu 0, vu 0])], nx := 6 })) :
    evalCode Try.prog Try.cfg (evalFn Try.prog Try.cfg (k + 8)) 0 (Try.cfg.fc 36) (k + 8) (loopBody Try.f36 0) { tm := [(0, V.sl o0 b0 n0 x0), (1, V.agg [vu i0, vu i1]), (3, V.ptr 0 0), (4, V.ptr 1 0), (8, vi (↑x0.length : Int)), (9, vi i2)], hp := [(0, Ob.var [vu i3, vu i4]), (1, Ob.var [vu 0, vu 0])], nx := 2 } = some (Exit.normal, { tm := [(0, V.sl o0 b0 n0 x0), (1, V.agg [vu i0, vu i1]), (3, V.ptr 0 0), (4, V.ptr 1 0), (8, vi (↑x0.length : Int)), (9, vi (IntKind.i64.wrap (i2 + 1))), (10, V.bool true), (11, V.sl o0 b0 n0 x0), (12, vi (↑x0.length : Int)), (13, vi i5), (14, V.bool false)], hp := [(0, Ob.var [vu i6, vu i7]), (1, Ob.var [vu 0, vu 0])], nx := 14 }) :=
  byL (k := k) (d := 8) [Hn.br 10 true, Hn.loop (Exit.exit 2, { tm := [(0, V.sl o0 b0 n0 x0), (1, V.agg [vu i0, vu i1]), (3, V.ptr 0 0), (4, V.ptr 1 0), (8, vi (↑x0.length : Int)), (9, vi i2), (10, V.bool true), (11, V.sl o0 b0 n0 x0), (12, vi (↑x0.length : Int)), (13, vi i5), (14, V.bool false)], hp := [(0, Ob.var [vu i6, vu i7]), (1, Ob.var [vu 0, vu 0])], nx := 6 })] (aI c0 (aI c1 trivial)) (by kernel_rfl)
theorem L36_0_b0h (i0 i1 i2 i5 i6 i7 : Int) (b0 : Bool) (x0 : List V) (o0 : Option Bool) (n0 : Nat) : head 0 [0, 1, 3, 4, 8, 9] (Try.cfg.fc 36).acc { tm := [(0, V.sl o0 b0 n0 x0), (1, V.agg [vu i0, vu i1]), (3, V.ptr 0 0), (4, V.ptr 1 0), (8, vi (↑x0.length : Int)), (9, vi (IntKind.i64.wrap (i2 + 1))), (10, V.bool true), (11, V.sl o0 b0 n0 x0), (12, vi (↑x0.length : Int)), (13, vi i5), (14, V.bool false)], hp := [(0, Ob.var [vu i6, vu i7]), (1, Ob.var [vu 0, vu 0])], nx := 14 } = { tm := [(0, V.sl o0 b0 n0 x0), (1, V.agg [vu i0, vu i1]), (3, V.ptr 0 0), (4, V.ptr 1 0), (8, vi (↑x0.length : Int)), (9, vi (IntKind.i64.wrap (i2 + 1)))], hp := [(0, Ob.var [vu i6, vu i7]), (1, Ob.var [vu 0, vu 0])], nx := 2 } := by kernel_rfl
theorem L36_0_b1 (i0 i1 i2 i3 i4 : Int) (b0 : Bool) (x0 : List V) (o0 : Option Bool) (n0 k : Nat)
    (c0 : decide (i2 < (↑x0.length : Int)) = false) :
    evalCode Try.prog Try.cfg (evalFn Try.prog Try.cfg (k + 8)) 0 (Try.cfg.fc 36) (k + 8) (loopBody Try.f36 0) { tm := [(0, V.sl o0 b0 n0 x0), (1, V.agg [vu i0, vu i1]), (3, V.ptr 0 0), (4, V.ptr 1 0), (8, vi (↑x0.length : Int)), (9, vi i2)], hp := [(0, Ob.var [vu i3, vu i4]), (1, Ob.var [vu 0, vu 0])], nx := 2 } = some (Exit.exit 0, { tm := [(0, V.sl o0 b0 n0 x0), (1, V.agg [vu i0, vu i1]), (3, V.ptr 0 0), (4, V.ptr 1 0), (8, vi (↑x0.length : Int)), (9, vi i2), (10, V.bool false)], hp := [(0, Ob.var [vu i3, vu i4]), (1, Ob.var [vu 0, vu 0])], nx := 6 }) :=
  byL (k := k) (d := 8) [Hn.br 10 false] (aI c0 trivial) (by kernel_rfl)
inductive L36_0_R where
  | e0 (i2 : Int) (i3 : Int) (i4 : Int)
noncomputable def L36_0_end (i0 : Int) (i1 : Int) (b0 : Bool) (x0 : List V) (o0 : Option Bool) (n0 : Nat) : L36_0_R → Exit × St
  | .e0 i2 i3 i4 => (Exit.exit 0, { tm := [(0, V.sl o0 b0 n0 x0), (1, V.agg [V.int .u64 i0, V.int .u64 i1]), (3, V.ptr 0 0), (4, V.ptr 1 0), (8, V.int .i64 (↑x0.length : Int)), (9, V.int .i64 i2), (10, V.bool false)], hp := [(0, Ob.var [V.int .u64 i3, V.int .u64 i4]), (1, Ob.var [V.int .u64 0, V.int .u64 0])], nx := 6 })
def L36_0 (k : Nat) (i0 i1 : Int) (b0 : Bool) (x0 : List V) (o0 : Option Bool) (n0 : Nat) : Nat → Int → Int → Int → Option L36_0_R
  | 0, _, _, _ => none
  | f + 1, i2, i3, i4 => (bif decide (i2 < (↑x0.length : Int)) then ((L36_1 k i0 i1 i2 b0 x0 o0 n0 (k + 8) (0) (i3) (i4)).bind fun
    | L36_1_R.e0 i5 i6 i7 => (L36_0 k i0 i1 b0 x0 o0 n0 f (IntKind.i64.wrap (i2 + 1)) (i6) (i7))) else (some (L36_0_R.e0 i2 i3 i4)))
theorem L36_0_ok {i0 i1 : Int} {b0 : Bool} {x0 : List V} {o0 : Option Bool} {n0 k : Nat} : ∀ {f : Nat} {i2 : Int} {i3 : Int} {i4 : Int} {r : L36_0_R}, L36_0 k i0 i1 b0 x0 o0 n0 f i2 i3 i4 = some r →
    LoopsN Try.prog Try.cfg (k + 8) 0 Try.f36 (Try.cfg.fc 36) 0 [0, 1, 3, 4, 8, 9] f { tm := [(0, V.sl o0 b0 n0 x0), (1, V.agg [vu i0, vu i1]), (3, V.ptr 0 0), (4, V.ptr 1 0), (8, vi (↑x0.length : Int)), (9, vi i2)], hp := [(0, Ob.var [vu i3, vu i4]), (1, Ob.var [vu 0, vu 0])], nx := 2 } (L36_0_end i0 i1 b0 x0 o0 n0 r) := by
  intro f
  induction f with
  | zero => intro i2 i3 i4 r h; cases h
  | succ f ih =>
    intro i2 i3 i4 r h
    rw [L36_0] at h
    rcases cond_elim h with ⟨e0, h⟩ | ⟨e0, h⟩
    ·
      obtain ⟨ee, e1, h⟩ := bE h
      cases ee with
      | e0 i5 i6 i7 =>
        exact LoopsN.next (L36_0_b0 i0 i1 i2 i3 i4 i5 i6 i7 b0 x0 o0 n0 k e0 (L36_1_ok e1)) (L36_0_b0h i0 i1 i2 i5 i6 i7 b0 x0 o0 n0) (ih h)
    ·
      cases h; exact LoopsN.done (L36_0_b1 i0 i1 i2 i3 i4 b0 x0 o0 n0 k e0) (fun h => by cases h)
theorem P36_0 (i0 i1 i2 i3 i4 : Int) (b0 : Bool) (x0 : List V) (o0 : Option Bool) (n0 k : Nat)
    (c0 : LoopsN Try.prog Try.cfg (k + 8) 0 Try.f36 (Try.cfg.fc 36) 0 [0, 1, 3, 4, 8, 9] (k + 8) { tm := [(0, V.sl o0 b0 n0 x0), (1, V.agg [vu i0, vu i1]), (3, V.ptr 0 0), (4, V.ptr 1 0), (8, vi (↑x0.length : Int)), (9, vi 0)], hp := [(0, Ob.var [vu i0, vu i1]), (1, Ob.var [vu 0, vu 0])], nx := 2 } (Exit.exit 0, { tm := [(0, V.sl o0 b0 n0 x0), (1, V.agg [vu i0, vu i1]), (3, V.ptr 0 0), (4, V.ptr 1 0), (8, vi (↑x0.length : Int)), (9, vi i2), (10, V.bool false)], hp := [(0, Ob.var [vu i3, vu i4]), (1, Ob.var [vu 0, vu 0])], nx := 6 })) :
    cP ((k + 9)) 36 [V.sl o0 b0 n0 x0, V.agg [vu i0, vu i1]] = some (V.agg [vu i3, vu i4]) :=
  byF (k := k) (d := 9) [Hn.loop (Exit.exit 0, { tm := [(0, V.sl o0 b0 n0 x0), (1, V.agg [vu i0, vu i1]), (3, V.ptr 0 0), (4, V.ptr 1 0), (8, vi (↑x0.length : Int)), (9, vi i2), (10, V.bool false)], hp := [(0, Ob.var [vu i3, vu i4]), (1, Ob.var [vu 0, vu 0])], nx := 6 })] (aI c0 trivial) (by kernel_rfl)
def F36 (k : Nat) (o0 : Option Bool) (b0 : Bool) (n0 : Nat) (x0 : List V) (i0 i1 : Int) : Option (Int × Int) :=
  ((L36_0 k i0 i1 b0 x0 o0 n0 (k + 8) (0) (i0) (i1)).bind fun
    | L36_0_R.e0 i2 i3 i4 => (some ((i3), (i4))))
theorem F36_ok {o0 : Option Bool} {b0 : Bool} {n0 : Nat} {x0 : List V} {i0 i1 : Int} {k : Nat} {r : Int × Int} (h : F36 k o0 b0 n0 x0 i0 i1 = some r) :
    cP ((k + 9)) 36 [V.sl o0 b0 n0 x0, V.agg [vu i0, vu i1]] = some (V.agg [vu r.1, vu r.2]) := by
  unfold F36 at h
  obtain ⟨ee, e0, h⟩ := bE h
  cases ee with
  | e0 i2 i3 i4 =>
    have h := Option.some.inj h; subst h; exact P36_0 i0 i1 i2 i3 i4 b0 x0 o0 n0 k (L36_0_ok e0)
theorem L25_1_b0 (i0 i1 i2 i4 i5 i6 i7 i8 i9 : Int) (b0 b1 : Bool) (x0 x1 : List V) (o0 : Option Bool) (n0 k : Nat)
    (c0 : decide (i7 < (↑x1.length : Int)) = true)
    (c1 : IdxR x1.length i7 2 2 (V.ept 0 i7.toNat 0))
    (c2 : LdP Try.prog 50 x1 i7.toNat 0 (V.agg [vu i8, vu i9]))
    (c3 : b1 = true)
    (c4 : decide (i8 < i4) = true) :
    evalCode Try.prog Try.cfg (evalFn Try.prog Try.cfg (k + 11)) 0 (Try.cfg.fc 25) (k + 11) (loopBody Try.f25 1) { tm := [(0, V.sl o0 b0 n0 x0), (2, V.sl (some true) true 0 []), (3, V.ref 0), (5, V.ptr 1 0), (6, V.ptr 2 0), (7, vi i6), (8, V.bool b1), (13, V.sl o0 b0 n0 x0), (14, vi (↑x0.length : Int)), (15, vi i0), (16, V.bool true), (26, V.ref 0), (27, vi (↑x1.length : Int)), (28, vi i7)], hp := [(0, Ob.row false 2 x1), (1, Ob.var [vu i1, vu i2]), (2, Ob.var [vu i4, vu i5])], nx := 3 } = some (Exit.normal, { tm := [(0, V.sl o0 b0 n0 x0), (2, V.sl (some true) true 0 []), (3, V.ref 0), (5, V.ptr 1 0), (6, V.ptr 2 0), (7, vi (IntKind.i64.wrap (i7 + 1))), (8, V.bool true), (9, vi i7), (10, V.ptr 19 0), (13, V.sl o0 b0 n0 x0), (14, vi (↑x0.length : Int)), (15, vi i0), (16, V.bool true), (26, V.ref 0), (27, vi (↑x1.length : Int)), (28, vi (IntKind.i64.wrap (i7 + 1))), (29, V.bool true), (43, V.bool true)], hp := [(0, Ob.row false 2 x1), (1, Ob.var [vu i1, vu i2]), (2, Ob.var [vu i4, vu i5]), (19, Ob.var [vu i8, vu i9])], nx := 99 }) :=
  byL (k := k) (d := 11) [Hn.br 29 true, Hn.op 31 (V.ept 0 i7.toNat 0) [], Hn.op 32 (V.agg [vu i8, vu i9]) [], Hn.br 34 true, Hn.br 43 true] (aI c0 (aI c1 (aI c2 (aI c3 (aI c4 trivial))))) (by kernel_rfl)
theorem L25_1_b0h (i0 i1 i2 i4 i5 i7 i8 i9 : Int) (b0 : Bool) (x0 x1 : List V) (o0 : Option Bool) (n0 : Nat) : head 0 [0, 2, 3, 5, 6, 7, 8, 13, 14, 15, 16, 26, 27, 28] (Try.cfg.fc 25).acc { tm := [(0, V.sl o0 b0 n0 x0), (2, V.sl (some true) true 0 []), (3, V.ref 0), (5, V.ptr 1 0), (6, V.ptr 2 0), (7, vi (IntKind.i64.wrap (i7 + 1))), (8, V.bool true), (9, vi i7), (10, V.ptr 19 0), (13, V.sl o0 b0 n0 x0), (14, vi (↑x0.length : Int)), (15, vi i0), (16, V.bool true), (26, V.ref 0), (27, vi (↑x1.length : Int)), (28, vi (IntKind.i64.wrap (i7 + 1))), (29, V.bool true), (43, V.bool true)], hp := [(0, Ob.row false 2 x1), (1, Ob.var [vu i1, vu i2]), (2, Ob.var [vu i4, vu i5]), (19, Ob.var [vu i8, vu i9])], nx := 99 } = { tm := [(0, V.sl o0 b0 n0 x0), (2, V.sl (some true) true 0 []), (3, V.ref 0), (5, V.ptr 1 0), (6, V.ptr 2 0), (7, vi (IntKind.i64.wrap (i7 + 1))), (8, V.bool true), (13, V.sl o0 b0 n0 x0), (14, vi (↑x0.length : Int)), (15, vi i0), (16, V.bool true), (26, V.ref 0), (27, vi (↑x1.length : Int)), (28, vi (IntKind.i64.wrap (i7 + 1)))], hp := [(0, Ob.row false 2 x1), (1, Ob.var [vu i1, vu i2]), (2, Ob.var [vu i4, vu i5])], nx := 3 } := by kernel_rfl
theorem L25_1_b1 (i0 i1 i2 i4 i5 i6 i7 i8 i9 : Int) (b0 b1 : Bool) (x0 x1 : List V) (o0 : Option Bool) (n0 k : Nat)
    (c0 : decide (i7 < (↑x1.length : Int)) = true)
    (c1 : IdxR x1.length i7 2 2 (V.ept 0 i7.toNat 0))
    (c2 : LdP Try.prog 50 x1 i7.toNat 0 (V.agg [vu i8, vu i9]))
    (c3 : b1 = true)
    (c4 : decide (i8 < i4) = false) :
    evalCode Try.prog Try.cfg (evalFn Try.prog Try.cfg (k + 11)) 0 (Try.cfg.fc 25) (k + 11) (loopBody Try.f25 1) { tm := [(0, V.sl o0 b0 n0 x0), (2, V.sl (some true) true 0 []), (3, V.ref 0), (5, V.ptr 1 0), (6, V.ptr 2 0), (7, vi i6), (8, V.bool b1), (13, V.sl o0 b0 n0 x0), (14, vi (↑x0.length : Int)), (15, vi i0), (16, V.bool true), (26, V.ref 0), (27, vi (↑x1.length : Int)), (28, vi i7)], hp := [(0, Ob.row false 2 x1), (1, Ob.var [vu i1, vu i2]), (2, Ob.var [vu i4, vu i5])], nx := 3 } = some (Exit.normal, { tm := [(0, V.sl o0 b0 n0 x0), (2, V.sl (some true) true 0 []), (3, V.ref 0), (5, V.ptr 1 0), (6, V.ptr 2 0), (7, vi i6), (8, V.bool true), (9, vi i7), (10, V.ptr 19 0), (13, V.sl o0 b0 n0 x0), (14, vi (↑x0.length : Int)), (15, vi i0), (16, V.bool true), (26, V.ref 0), (27, vi (↑x1.length : Int)), (28, vi (IntKind.i64.wrap (i7 + 1))), (29, V.bool true), (43, V.bool false)], hp := [(0, Ob.row false 2 x1), (1, Ob.var [vu i1, vu i2]), (2, Ob.var [vu i4, vu i5]), (19, Ob.var [vu i8, vu i9])], nx := 87 }) :=
  byL (k := k) (d := 11) [Hn.br 29 true, Hn.op 31 (V.ept 0 i7.toNat 0) [], Hn.op 32 (V.agg [vu i8, vu i9]) [], Hn.br 34 true, Hn.br 43 false] (aI c0 (aI c1 (aI c2 (aI c3 (aI c4 trivial))))) (by kernel_rfl)
theorem L25_1_b1h (i0 i1 i2 i4 i5 i6 i7 i8 i9 : Int) (b0 : Bool) (x0 x1 : List V) (o0 : Option Bool) (n0 : Nat) : head 0 [0, 2, 3, 5, 6, 7, 8, 13, 14, 15, 16, 26, 27, 28] (Try.cfg.fc 25).acc { tm := [(0, V.sl o0 b0 n0 x0), (2, V.sl (some true) true 0 []), (3, V.ref 0), (5, V.ptr 1 0), (6, V.ptr 2 0), (7, vi i6), (8, V.bool true), (9, vi i7), (10, V.ptr 19 0), (13, V.sl o0 b0 n0 x0), (14, vi (↑x0.length : Int)), (15, vi i0), (16, V.bool true), (26, V.ref 0), (27, vi (↑x1.length : Int)), (28, vi (IntKind.i64.wrap (i7 + 1))), (29, V.bool true), (43, V.bool false)], hp := [(0, Ob.row false 2 x1), (1, Ob.var [vu i1, vu i2]), (2, Ob.var [vu i4, vu i5]), (19, Ob.var [vu i8, vu i9])], nx := 87 } = { tm := [(0, V.sl o0 b0 n0 x0), (2, V.sl (some true) true 0 []), (3, V.ref 0), (5, V.ptr 1 0), (6, V.ptr 2 0), (7, vi i6), (8, V.bool true), (13, V.sl o0 b0 n0 x0), (14, vi (↑x0.length : Int)), (15, vi i0), (16, V.bool true), (26, V.ref 0), (27, vi (↑x1.length : Int)), (28, vi (IntKind.i64.wrap (i7 + 1)))], hp := [(0, Ob.row false 2 x1), (1, Ob.var [vu i1, vu i2]), (2, Ob.var [vu i4, vu i5])], nx := 3 } := by kernel_rfl
theorem L25_1_b2 (i0 i1 i2 i4 i5 i6 i7 i8 i9 : Int) (b0 b1 : Bool) (x0 x1 : List V) (o0 : Option Bool) (n0 k : Nat)
    (c0 : decide (i7 < (↑x1.length : Int)) = true)
    (c1 : IdxR x1.length i7 2 2 (V.ept 0 i7.toNat 0))
    (c2 : LdP Try.prog 50 x1 i7.toNat 0 (V.agg [vu i8, vu i9]))
    (c3 : b1 = false)
    (c4 : decide (i8 < i4) = true) :
    evalCode Try.prog Try.cfg (evalFn Try.prog Try.cfg (k + 11)) 0 (Try.cfg.fc 25) (k + 11) (loopBody Try.f25 1) { tm := [(0, V.sl o0 b0 n0 x0), (2, V.sl (some true) true 0 []), (3, V.ref 0), (5, V.ptr 1 0), (6, V.ptr 2 0), (7, vi i6), (8, V.bool b1), (13, V.sl o0 b0 n0 x0), (14, vi (↑x0.length : Int)), (15, vi i0), (16, V.bool true), (26, V.ref 0), (27, vi (↑x1.length : Int)), (28, vi i7)], hp := [(0, Ob.row false 2 x1), (1, Ob.var [vu i1, vu i2]), (2, Ob.var [vu i4, vu i5])], nx := 3 } = some (Exit.normal, { tm := [(0, V.sl o0 b0 n0 x0), (2, V.sl (some true) true 0 []), (3, V.ref 0), (5, V.ptr 1 0), (6, V.ptr 2 0), (7, vi (IntKind.i64.wrap (i7 + 1))), (8, V.bool (decide (i8 = i4) && (decide (i9 = i5) && true))), (9, vi i7), (10, V.ptr 19 0), (13, V.sl o0 b0 n0 x0), (14, vi (↑x0.length : Int)), (15, vi i0), (16, V.bool true), (26, V.ref 0), (27, vi (↑x1.length : Int)), (28, vi (IntKind.i64.wrap (i7 + 1))), (29, V.bool true), (43, V.bool true)], hp := [(0, Ob.row false 2 x1), (1, Ob.var [vu i1, vu i2]), (2, Ob.var [vu i4, vu i5]), (19, Ob.var [vu i8, vu i9])], nx := 99 }) :=
  byL (k := k) (d := 11) [Hn.br 29 true, Hn.op 31 (V.ept 0 i7.toNat 0) [], Hn.op 32 (V.agg [vu i8, vu i9]) [], Hn.br 34 false, Hn.br 43 true] (aI c0 (aI c1 (aI c2 (aI c3 (aI c4 trivial))))) (by kernel_rfl)
theorem L25_1_b2h (i0 i1 i2 i4 i5 i7 i8 i9 : Int) (b0 : Bool) (x0 x1 : List V) (o0 : Option Bool) (n0 : Nat) : head 0 [0, 2, 3, 5, 6, 7, 8, 13, 14, 15, 16, 26, 27, 28] (Try.cfg.fc 25).acc { tm := [(0, V.sl o0 b0 n0 x0), (2, V.sl (some true) true 0 []), (3, V.ref 0), (5, V.ptr 1 0), (6, V.ptr 2 0), (7, vi (IntKind.i64.wrap (i7 + 1))), (8, V.bool (decide (i8 = i4) && (decide (i9 = i5) && true))), (9, vi i7), (10, V.ptr 19 0), (13, V.sl o0 b0 n0 x0), (14, vi (↑x0.length : Int)), (15, vi i0), (16, V.bool true), (26, V.ref 0), (27, vi (↑x1.length : Int)), (28, vi (IntKind.i64.wrap (i7 + 1))), (29, V.bool true), (43, V.bool true)], hp := [(0, Ob.row false 2 x1), (1, Ob.var [vu i1, vu i2]), (2, Ob.var [vu i4, vu i5]), (19, Ob.var [vu i8, vu i9])], nx := 99 } = { tm := [(0, V.sl o0 b0 n0 x0), (2, V.sl (some true) true 0 []), (3, V.ref 0), (5, V.ptr 1 0), (6, V.ptr 2 0), (7, vi (IntKind.i64.wrap (i7 + 1))), (8, V.bool (decide (i8 = i4) && (decide (i9 = i5) && true))), (13, V.sl o0 b0 n0 x0), (14, vi (↑x0.length : Int)), (15, vi i0), (16, V.bool true), (26, V.ref 0), (27, vi (↑x1.length : Int)), (28, vi (IntKind.i64.wrap (i7 + 1)))], hp := [(0, Ob.row false 2 x1), (1, Ob.var [vu i1, vu i2]), (2, Ob.var [vu i4, vu i5])], nx := 3 } := by kernel_rfl
theorem L25_1_b3 (i0 i1 i2 i4 i5 i6 i7 i8 i9 : Int) (b0 b1 : Bool) (x0 x1 : List V) (o0 : Option Bool) (n0 k : Nat)
    (c0 : decide (i7 < (↑x1.length : Int)) = true)
    (c1 : IdxR x1.length i7 2 2 (V.ept 0 i7.toNat 0))
    (c2 : LdP Try.prog 50 x1 i7.toNat 0 (V.agg [vu i8, vu i9]))
    (c3 : b1 = false)
    (c4 : decide (i8 < i4) = false) :
    evalCode Try.prog Try.cfg (evalFn Try.prog Try.cfg (k + 11)) 0 (Try.cfg.fc 25) (k + 11) (loopBody Try.f25 1) { tm := [(0, V.sl o0 b0 n0 x0), (2, V.sl (some true) true 0 []), (3, V.ref 0), (5, V.ptr 1 0), (6, V.ptr 2 0), (7, vi i6), (8, V.bool b1), (13, V.sl o0 b0 n0 x0), (14, vi (↑x0.length : Int)), (15, vi i0), (16, V.bool true), (26, V.ref 0), (27, vi (↑x1.length : Int)), (28, vi i7)], hp := [(0, Ob.row false 2 x1), (1, Ob.var [vu i1, vu i2]), (2, Ob.var [vu i4, vu i5])], nx := 3 } = some (Exit.normal, { tm := [(0, V.sl o0 b0 n0 x0), (2, V.sl (some true) true 0 []), (3, V.ref 0), (5, V.ptr 1 0), (6, V.ptr 2 0), (7, vi i6), (8, V.bool (decide (i8 = i4) && (decide (i9 = i5) && true))), (9, vi i7), (10, V.ptr 19 0), (13, V.sl o0 b0 n0 x0), (14, vi (↑x0.length : Int)), (15, vi i0), (16, V.bool true), (26, V.ref 0), (27, vi (↑x1.length : Int)), (28, vi (IntKind.i64.wrap (i7 + 1))), (29, V.bool true), (43, V.bool false)], hp := [(0, Ob.row false 2 x1), (1, Ob.var [vu i1, vu i2]), (2, Ob.var [vu i4, vu i5]), (19, Ob.var [vu i8, vu i9])], nx := 87 }) :=
  byL (k := k) (d := 11) [Hn.br 29 true, Hn.op 31 (V.ept 0 i7.toNat 0) [], Hn.op 32 (V.agg [vu i8, vu i9]) [], Hn.br 34 false, Hn.br 43 false] (aI c0 (aI c1 (aI c2 (aI c3 (aI c4 trivial))))) (by kernel_rfl)
theorem L25_1_b3h (i0 i1 i2 i4 i5 i6 i7 i8 i9 : Int) (b0 : Bool) (x0 x1 : List V) (o0 : Option Bool) (n0 : Nat) : head 0 [0, 2, 3, 5, 6, 7, 8, 13, 14, 15, 16, 26, 27, 28] (Try.cfg.fc 25).acc { tm := [(0, V.sl o0 b0 n0 x0), (2, V.sl (some true) true 0 []), (3, V.ref 0), (5, V.ptr 1 0), (6, V.ptr 2 0), (7, vi i6), (8, V.bool (decide (i8 = i4) && (decide (i9 = i5) && true))), (9, vi i7), (10, V.ptr 19 0), (13, V.sl o0 b0 n0 x0), (14, vi (↑x0.length : Int)), (15, vi i0), (16, V.bool true), (26, V.ref 0), (27, vi (↑x1.length : Int)), (28, vi (IntKind.i64.wrap (i7 + 1))), (29, V.bool true), (43, V.bool false)], hp := [(0, Ob.row false 2 x1), (1, Ob.var [vu i1, vu i2]), (2, Ob.var [vu i4, vu i5]), (19, Ob.var [vu i8, vu i9])], nx := 87 } = { tm := [(0, V.sl o0 b0 n0 x0), (2, V.sl (some true) true 0 []), (3, V.ref 0), (5, V.ptr 1 0), (6, V.ptr 2 0), (7, vi i6), (8, V.bool (decide (i8 = i4) && (decide (i9 = i5) && true))), (13, V.sl o0 b0 n0 x0), (14, vi (↑x0.length : Int)), (15, vi i0), (16, V.bool true), (26, V.ref 0), (27, vi (↑x1.length : Int)), (28, vi (IntKind.i64.wrap (i7 + 1)))], hp := [(0, Ob.row false 2 x1), (1, Ob.var [vu i1, vu i2]), (2, Ob.var [vu i4, vu i5])], nx := 3 } := by kernel_rfl
theorem L25_1_b4 (i0 i1 i2 i4 i5 i6 i7 : Int) (b0 b1 : Bool) (x0 x1 : List V) (o0 : Option Bool) (n0 k : Nat)
    (c0 : decide (i7 < (↑x1.length : Int)) = false) :
    evalCode Try.prog Try.cfg (evalFn Try.prog Try.cfg (k + 11)) 0 (Try.cfg.fc 25) (k + 11) (loopBody Try.f25 1) { tm := [(0, V.sl o0 b0 n0 x0), (2, V.sl (some true) true 0 []), (3, V.ref 0), (5, V.ptr 1 0), (6, V.ptr 2 0), (7, vi i6), (8, V.bool b1), (13, V.sl o0 b0 n0 x0), (14, vi (↑x0.length : Int)), (15, vi i0), (16, V.bool true), (26, V.ref 0), (27, vi (↑x1.length : Int)), (28, vi i7)], hp := [(0, Ob.row false 2 x1), (1, Ob.var [vu i1, vu i2]), (2, Ob.var [vu i4, vu i5])], nx := 3 } = some (Exit.exit 2, { tm := [(0, V.sl o0 b0 n0 x0), (2, V.sl (some true) true 0 []), (3, V.ref 0), (5, V.ptr 1 0), (6, V.ptr 2 0), (7, vi i6), (8, V.bool b1), (13, V.sl o0 b0 n0 x0), (14, vi (↑x0.length : Int)), (15, vi i0), (16, V.bool true), (26, V.ref 0), (27, vi (↑x1.length : Int)), (28, vi i7), (29, V.bool false)], hp := [(0, Ob.row false 2 x1), (1, Ob.var [vu i1, vu i2]), (2, Ob.var [vu i4, vu i5])], nx := 7 }) :=
  byL (k := k) (d := 11) [Hn.br 29 false] (aI c0 trivial) (by kernel_rfl)
inductive L25_1_R where
  | e0 (i6 : Int) (i7 : Int) (b1 : Bool)
noncomputable def L25_1_end (i0 : Int) (i1 : Int) (i2 : Int) (i4 : Int) (i5 : Int) (b0 : Bool) (x0 : List V) (x1 : List V) (o0 : Option Bool) (n0 : Nat) : L25_1_R → Exit × St
  | .e0 i6 i7 b1 => (Exit.exit 2, { tm := [(0, V.sl o0 b0 n0 x0), (2, V.sl (some true) true 0 []), (3, V.ref 0), (5, V.ptr 1 0), (6, V.ptr 2 0), (7, V.int .i64 i6), (8, V.bool b1), (13, V.sl o0 b0 n0 x0), (14, V.int .i64 (↑x0.length : Int)), (15, V.int .i64 i0), (16, V.bool true), (26, V.ref 0), (27, V.int .i64 (↑x1.length : Int)), (28, V.int .i64 i7), (29, V.bool false)], hp := [(0, Ob.row false 2 x1), (1, Ob.var [V.int .u64 i1, V.int .u64 i2]), (2, Ob.var [V.int .u64 i4, V.int .u64 i5])], nx := 7 })
def L25_1 (k : Nat) (i0 i1 i2 i4 i5 : Int) (b0 : Bool) (x0 x1 : List V) (o0 : Option Bool) (n0 : Nat) : Nat → Int → Bool → Int → Option L25_1_R
  | 0, _, _, _ => none
  | f + 1, i6, b1, i7 => (bif decide (i7 < (↑x1.length : Int)) then (guardP ((0 : Int) ≤ i7 ∧ i7 < (↑x1.length : Int)) ((((x1)[i7.toNat]?).bind dAu64u64Z).bind fun (i8, i9) => (bif b1 then (bif decide (i8 < i4) then (L25_1 k i0 i1 i2 i4 i5 b0 x0 x1 o0 n0 f (IntKind.i64.wrap (i7 + 1)) (true) (IntKind.i64.wrap (i7 + 1))) else (L25_1 k i0 i1 i2 i4 i5 b0 x0 x1 o0 n0 f (i6) (true) (IntKind.i64.wrap (i7 + 1)))) else (bif decide (i8 < i4) then (L25_1 k i0 i1 i2 i4 i5 b0 x0 x1 o0 n0 f (IntKind.i64.wrap (i7 + 1)) (decide (i8 = i4) && (decide (i9 = i5) && true)) (IntKind.i64.wrap (i7 + 1))) else (L25_1 k i0 i1 i2 i4 i5 b0 x0 x1 o0 n0 f (i6) (decide (i8 = i4) && (decide (i9 = i5) && true)) (IntKind.i64.wrap (i7 + 1))))))) else (some (L25_1_R.e0 i6 i7 b1)))
theorem L25_1_ok {i0 i1 i2 i4 i5 : Int} {b0 : Bool} {x0 x1 : List V} {o0 : Option Bool} {n0 k : Nat} : ∀ {f : Nat} {i6 : Int} {b1 : Bool} {i7 : Int} {r : L25_1_R}, L25_1 k i0 i1 i2 i4 i5 b0 x0 x1 o0 n0 f i6 b1 i7 = some r →
    LoopsN Try.prog Try.cfg (k + 11) 0 Try.f25 (Try.cfg.fc 25) 1 [0, 2, 3, 5, 6, 7, 8, 13, 14, 15, 16, 26, 27, 28] f { tm := [(0, V.sl o0 b0 n0 x0), (2, V.sl (some true) true 0 []), (3, V.ref 0), (5, V.ptr 1 0), (6, V.ptr 2 0), (7, vi i6), (8, V.bool b1), (13, V.sl o0 b0 n0 x0), (14, vi (↑x0.length : Int)), (15, vi i0), (16, V.bool true), (26, V.ref 0), (27, vi (↑x1.length : Int)), (28, vi i7)], hp := [(0, Ob.row false 2 x1), (1, Ob.var [vu i1, vu i2]), (2, Ob.var [vu i4, vu i5])], nx := 3 } (L25_1_end i0 i1 i2 i4 i5 b0 x0 x1 o0 n0 r) := by
  intro f
  induction f with
  | zero => intro i6 b1 i7 r h; cases h
  | succ f ih =>
    intro i6 b1 i7 r h
    rw [L25_1] at h
    rcases cond_elim h with ⟨e0, h⟩ | ⟨e0, h⟩
    ·
      obtain ⟨e1, h⟩ := guardP_some.1 h
      obtain ⟨⟨i8, i9⟩, e2, h⟩ := bE h
      rcases cond_elim h with ⟨e3, h⟩ | ⟨e3, h⟩
      ·
        rcases cond_elim h with ⟨e4, h⟩ | ⟨e4, h⟩
        ·
          exact LoopsN.next (L25_1_b0 i0 i1 i2 i4 i5 i6 i7 i8 i9 b0 b1 x0 x1 o0 n0 k e0 (IdxR.mk' e1 rfl) (LdP.mk (get_d dAu64u64Z_ok e2 :) (by kernel_rfl)) e3 e4) (L25_1_b0h i0 i1 i2 i4 i5 i7 i8 i9 b0 x0 x1 o0 n0) (ih h)
        ·
          exact LoopsN.next (L25_1_b1 i0 i1 i2 i4 i5 i6 i7 i8 i9 b0 b1 x0 x1 o0 n0 k e0 (IdxR.mk' e1 rfl) (LdP.mk (get_d dAu64u64Z_ok e2 :) (by kernel_rfl)) e3 e4) (L25_1_b1h i0 i1 i2 i4 i5 i6 i7 i8 i9 b0 x0 x1 o0 n0) (ih h)
      ·
        rcases cond_elim h with ⟨e4, h⟩ | ⟨e4, h⟩
        ·
          exact LoopsN.next (L25_1_b2 i0 i1 i2 i4 i5 i6 i7 i8 i9 b0 b1 x0 x1 o0 n0 k e0 (IdxR.mk' e1 rfl) (LdP.mk (get_d dAu64u64Z_ok e2 :) (by kernel_rfl)) e3 e4) (L25_1_b2h i0 i1 i2 i4 i5 i7 i8 i9 b0 x0 x1 o0 n0) (ih h)
        ·
          exact LoopsN.next (L25_1_b3 i0 i1 i2 i4 i5 i6 i7 i8 i9 b0 b1 x0 x1 o0 n0 k e0 (IdxR.mk' e1 rfl) (LdP.mk (get_d dAu64u64Z_ok e2 :) (by kernel_rfl)) e3 e4) (L25_1_b3h i0 i1 i2 i4 i5 i6 i7 i8 i9 b0 x0 x1 o0 n0) (ih h)
    ·
      cases h; exact LoopsN.done (L25_1_b4 i0 i1 i2 i4 i5 i6 i7 b0 b1 x0 x1 o0 n0 k e0) (fun h => by cases h)
theorem L25_0_b0 (i0 i1 i2 i3 i4 i5 i6 i7 : Int) (b0 b1 : Bool) (x0 x1 : List V) (o0 : Option Bool) (n0 k : Nat)
    (c0 : decide (i0 < (↑x0.length : Int)) = true)
    (c1 : IdxP x0 i0 n0 2 (V.agg [vu i1, vu i2]))
    (c2 : cP ((k + 11)) 13 [V.agg [vu i1, vu i2]] = some (vu i3))
    (c3 : cP ((k + 11)) 36 [V.sl o0 b0 n0 x0, V.agg [vu i1, vu i3]] = some (V.agg [vu i4, vu i5]))
    (c4 : LoopsN Try.prog Try.cfg (k + 11) 0 Try.f25 (Try.cfg.fc 25) 1 [0, 2, 3, 5, 6, 7, 8, 13, 14, 15, 16, 26, 27, 28] (k + 11) { tm := [(0, V.sl o0 b0 n0 x0), (2, V.sl (some true) true 0 []), (3, V.ref 0), (5, V.ptr 1 0), (6, V.ptr 2 0), (7, vi 0), (8, V.bool false), (13, V.sl o0 b0 n0 x0), (14, vi (↑x0.length : Int)), (15, vi i0), (16, V.bool true), (26, V.ref 0), (27, vi (↑x1.length : Int)), (28, vi 0)], hp := [(0, Ob.row false 2 x1), (1, Ob.var [vu i1, vu i2]), (2, Ob.var [vu i4, vu i5])], nx := 3 } (Exit.exit 2, { tm := [(0, V.sl o0 b0 n0 x0), (2, V.sl (some true) true 0 []), (3, V.ref 0), (5, V.ptr 1 0), (6, V.ptr 2 0), (7, vi i6), (8, V.bool b1), (13, V.sl o0 b0 n0 x0), (14, vi (↑x0.length : Int)), (15, vi i0), (16, V.bool true), (26, V.ref 0), (27, vi (↑x1.length : Int)), (28, vi i7), (29, V.bool false)], hp := [(0, Ob.row false 2 x1), (1, Ob.var [vu i1, vu i2]), (2, Ob.var [vu i4, vu i5])], nx := 7 }))
    (c5 : (!b1) = true)
    (c6 : SlcR x1.length 2 2 0 none (some (vi i6)) (V.sub 0 0 i6.toNat))
    (c7 : GrdW ((2 : Nat) = (2 : Nat) ∧ (0 : Nat) < (2 : Nat) ∧ (16 : Nat) ≤ (64 : Nat) ∧ (0 : Nat) + (List.take i6.toNat (List.drop (0 : Nat) x1)).length ≤ maxLen') (V.ref (39 : Nat)) [((15 : Nat), Ob.dead), ((39 : Nat), Ob.row false (2 : Nat) (List.take i6.toNat (List.drop (0 : Nat) x1)))])
    (c8 : GrdW ((2 : Nat) = (2 : Nat) ∧ (0 : Nat) < (2 : Nat) ∧ (16 : Nat) ≤ (64 : Nat) ∧ (List.take i6.toNat (List.drop (0 : Nat) x1)).length + (1 : Nat) ≤ maxLen') (V.ref (59 : Nat)) [((39 : Nat), Ob.dead), ((59 : Nat), Ob.row false (2 : Nat) (List.take i6.toNat (List.drop (0 : Nat) x1) ++ [V.agg [vu i4, vu i5]]))])
    (c9 : SlcR x1.length 2 2 0 (some (vi i6)) none (V.sub 0 i6.toNat (x1.length - i6.toNat)))
    (c10 : GrdW ((2 : Nat) = (2 : Nat) ∧ (0 : Nat) < (2 : Nat) ∧ (16 : Nat) ≤ (64 : Nat) ∧ (List.take i6.toNat (List.drop (0 : Nat) x1) ++ [V.agg [vu i4, vu i5]]).length + (List.take (x1.length - i6.toNat) (List.drop i6.toNat x1)).length ≤ maxLen') (V.ref (83 : Nat)) [((59 : Nat), Ob.dead), ((83 : Nat), Ob.row false (2 : Nat) (List.take i6.toNat (List.drop (0 : Nat) x1) ++ [V.agg [vu i4, vu i5]] ++ List.take (x1.length - i6.toNat) (List.drop i6.toNat x1)))]) :
    evalCode Try.prog Try.cfg (evalFn Try.prog Try.cfg (k + 11)) 0 (Try.cfg.fc 25) (k + 11) (loopBody Try.f25 0) { tm := [(0, V.sl o0 b0 n0 x0), (2, V.sl (some true) true 0 []), (3, V.ref 0), (13, V.sl o0 b0 n0 x0), (14, vi (↑x0.length : Int)), (15, vi i0)], hp := [(0, Ob.row false 2 x1)], nx := 1 } = some (Exit.normal, { tm := [(0, V.sl o0 b0 n0 x0), (2, V.sl (some true) true 0 []), (3, V.ref 83), (5, V.ptr 1 0), (6, V.ptr 2 0), (7, vi i6), (8, V.bool b1), (11, V.ref 83), (13, V.sl o0 b0 n0 x0), (14, vi (↑x0.length : Int)), (15, vi (IntKind.i64.wrap (i0 + 1))), (16, V.bool true), (26, V.ref 0), (27, vi (↑x1.length : Int)), (28, vi i7), (29, V.bool false), (48, V.bool true)], hp := [(0, Ob.row false 2 x1), (1, Ob.var [vu i1, vu i2]), (2, Ob.var [vu i4, vu i5]), (15, Ob.dead), (39, Ob.dead), (55, Ob.row false 2 [V.agg [vu i4, vu i5]]), (59, Ob.dead), (83, Ob.row false 2 (List.take i6.toNat (List.drop 0 x1) ++ [V.agg [vu i4, vu i5]] ++ List.take (x1.length - i6.toNat) (List.drop i6.toNat x1)))], nx := 107 }) :=
  byL (k := k) (d := 11) [Hn.br 16 true, Hn.op 17 ((V.agg [vu i1, vu i2]).cpt 0) [], Hn.call 23 (vu i3), Hn.call 25 (V.agg [vu i4, vu i5]), Hn.loop (Exit.exit 2, { tm := [(0, V.sl o0 b0 n0 x0), (2, V.sl (some true) true 0 []), (3, V.ref 0), (5, V.ptr 1 0), (6, V.ptr 2 0), (7, vi i6), (8, V.bool b1), (13, V.sl o0 b0 n0 x0), (14, vi (↑x0.length : Int)), (15, vi i0), (16, V.bool true), (26, V.ref 0), (27, vi (↑x1.length : Int)), (28, vi i7), (29, V.bool false)], hp := [(0, Ob.row false 2 x1), (1, Ob.var [vu i1, vu i2]), (2, Ob.var [vu i4, vu i5])], nx := 7 }), Hn.br 48 true, Hn.op 53 (V.sub 0 0 i6.toNat) [], Hn.op 54 (V.ref 39) [(15, Ob.dead), (39, Ob.row false 2 (List.take i6.toNat (List.drop 0 x1)))], Hn.op 58 (V.ref 59) [(39, Ob.dead), (59, Ob.row false 2 (List.take i6.toNat (List.drop 0 x1) ++ [V.agg [vu i4, vu i5]]))], Hn.op 62 (V.sub 0 i6.toNat (x1.length - i6.toNat)) [], Hn.op 63 (V.ref 83) [(59, Ob.dead), (83, Ob.row false 2 (List.take i6.toNat (List.drop 0 x1) ++ [V.agg [vu i4, vu i5]] ++ List.take (x1.length - i6.toNat) (List.drop i6.toNat x1)))]] (aI c0 (aI c1 (aI c2 (aI c3 (aI c4 (aI c5 (aI c6 (aI c7 (aI c8 (aI c9 (aI c10 trivial))))))))))) (by kernel_rfl)
theorem L25_0_b0h (i0 i1 i2 i4 i5 i6 i7 : Int) (b0 b1 : Bool) (x0 x1 : List V) (o0 : Option Bool) (n0 : Nat) : head 0 [0, 2, 3, 13, 14, 15] (Try.cfg.fc 25).acc { tm := [(0, V.sl o0 b0 n0 x0), (2, V.sl (some true) true 0 []), (3, V.ref 83), (5, V.ptr 1 0), (6, V.ptr 2 0), (7, vi i6), (8, V.bool b1), (11, V.ref 83), (13, V.sl o0 b0 n0 x0), (14, vi (↑x0.length : Int)), (15, vi (IntKind.i64.wrap (i0 + 1))), (16, V.bool true), (26, V.ref 0), (27, vi (↑x1.length : Int)), (28, vi i7), (29, V.bool false), (48, V.bool true)], hp := [(0, Ob.row false 2 x1), (1, Ob.var [vu i1, vu i2]), (2, Ob.var [vu i4, vu i5]), (15, Ob.dead), (39, Ob.dead), (55, Ob.row false 2 [V.agg [vu i4, vu i5]]), (59, Ob.dead), (83, Ob.row false 2 (List.take i6.toNat (List.drop 0 x1) ++ [V.agg [vu i4, vu i5]] ++ List.take (x1.length - i6.toNat) (List.drop i6.toNat x1)))], nx := 107 } = { tm := [(0, V.sl o0 b0 n0 x0), (2, V.sl (some true) true 0 []), (3, V.ref 0), (13, V.sl o0 b0 n0 x0), (14, vi (↑x0.length : Int)), (15, vi (IntKind.i64.wrap (i0 + 1)))], hp := [(0, Ob.row false 2 (List.take i6.toNat (List.drop 0 x1) ++ [V.agg [vu i4, vu i5]] ++ List.take (x1.length - i6.toNat) (List.drop i6.toNat x1)))], nx := 1 } := by kernel_rfl
theorem L25_0_b1 (i0 i1 i2 i3 i4 i5 i6 i7 : Int) (b0 b1 : Bool) (x0 x1 : List V) (o0 : Option Bool) (n0 k : Nat)
    (c0 : decide (i0 < (↑x0.length : Int)) = true)
    (c1 : IdxP x0 i0 n0 2 (V.agg [vu i1, vu i2]))
    (c2 : cP ((k + 11)) 13 [V.agg [vu i1, vu i2]] = some (vu i3))
    (c3 : cP ((k + 11)) 36 [V.sl o0 b0 n0 x0, V.agg [vu i1, vu i3]] = some (V.agg [vu i4, vu i5]))
    (c4 : LoopsN Try.prog Try.cfg (k + 11) 0 Try.f25 (Try.cfg.fc 25) 1 [0, 2, 3, 5, 6, 7, 8, 13, 14, 15, 16, 26, 27, 28] (k + 11) { tm := [(0, V.sl o0 b0 n0 x0), (2, V.sl (some true) true 0 []), (3, V.ref 0), (5, V.ptr 1 0), (6, V.ptr 2 0), (7, vi 0), (8, V.bool false), (13, V.sl o0 b0 n0 x0), (14, vi (↑x0.length : Int)), (15, vi i0), (16, V.bool true), (26, V.ref 0), (27, vi (↑x1.length : Int)), (28, vi 0)], hp := [(0, Ob.row false 2 x1), (1, Ob.var [vu i1, vu i2]), (2, Ob.var [vu i4, vu i5])], nx := 3 } (Exit.exit 2, { tm := [(0, V.sl o0 b0 n0 x0), (2, V.sl (some true) true 0 []), (3, V.ref 0), (5, V.ptr 1 0), (6, V.ptr 2 0), (7, vi i6), (8, V.bool b1), (13, V.sl o0 b0 n0 x0), (14, vi (↑x0.length : Int)), (15, vi i0), (16, V.bool true), (26, V.ref 0), (27, vi (↑x1.length : Int)), (28, vi i7), (29, V.bool false)], hp := [(0, Ob.row false 2 x1), (1, Ob.var [vu i1, vu i2]), (2, Ob.var [vu i4, vu i5])], nx := 7 }))
    (c5 : (!b1) = false) :
    evalCode Try.prog Try.cfg (evalFn Try.prog Try.cfg (k + 11)) 0 (Try.cfg.fc 25) (k + 11) (loopBody Try.f25 0) { tm := [(0, V.sl o0 b0 n0 x0), (2, V.sl (some true) true 0 []), (3, V.ref 0), (13, V.sl o0 b0 n0 x0), (14, vi (↑x0.length : Int)), (15, vi i0)], hp := [(0, Ob.row false 2 x1)], nx := 1 } = some (Exit.normal, { tm := [(0, V.sl o0 b0 n0 x0), (2, V.sl (some true) true 0 []), (3, V.ref 0), (5, V.ptr 1 0), (6, V.ptr 2 0), (7, vi i6), (8, V.bool b1), (13, V.sl o0 b0 n0 x0), (14, vi (↑x0.length : Int)), (15, vi (IntKind.i64.wrap (i0 + 1))), (16, V.bool true), (26, V.ref 0), (27, vi (↑x1.length : Int)), (28, vi i7), (29, V.bool false), (48, V.bool false)], hp := [(0, Ob.row false 2 x1), (1, Ob.var [vu i1, vu i2]), (2, Ob.var [vu i4, vu i5])], nx := 23 }) :=
  byL (k := k) (d := 11) [Hn.br 16 true, Hn.op 17 ((V.agg [vu i1, vu i2]).cpt 0) [], Hn.call 23 (vu i3), Hn.call 25 (V.agg [vu i4, vu i5]), Hn.loop (Exit.exit 2, { tm := [(0, V.sl o0 b0 n0 x0), (2, V.sl (some true) true 0 []), (3, V.ref 0), (5, V.ptr 1 0), (6, V.ptr 2 0), (7, vi i6), (8, V.bool b1), (13, V.sl o0 b0 n0 x0), (14, vi (↑x0.length : Int)), (15, vi i0), (16, V.bool true), (26, V.ref 0), (27, vi (↑x1.length : Int)), (28, vi i7), (29, V.bool false)], hp := [(0, Ob.row false 2 x1), (1, Ob.var [vu i1, vu i2]), (2, Ob.var [vu i4, vu i5])], nx := 7 }), Hn.br 48 false] (aI c0 (aI c1 (aI c2 (aI c3 (aI c4 (aI c5 trivial)))))) (by kernel_rfl)
theorem L25_0_b1h (i0 i1 i2 i4 i5 i6 i7 : Int) (b0 b1 : Bool) (x0 x1 : List V) (o0 : Option Bool) (n0 : Nat) : head 0 [0, 2, 3, 13, 14, 15] (Try.cfg.fc 25).acc { tm := [(0, V.sl o0 b0 n0 x0), (2, V.sl (some true) true 0 []), (3, V.ref 0), (5, V.ptr 1 0), (6, V.ptr 2 0), (7, vi i6), (8, V.bool b1), (13, V.sl o0 b0 n0 x0), (14, vi (↑x0.length : Int)), (15, vi (IntKind.i64.wrap (i0 + 1))), (16, V.bool true), (26, V.ref 0), (27, vi (↑x1.length : Int)), (28, vi i7), (29, V.bool false), (48, V.bool false)], hp := [(0, Ob.row false 2 x1), (1, Ob.var [vu i1, vu i2]), (2, Ob.var [vu i4, vu i5])], nx := 23 } = { tm := [(0, V.sl o0 b0 n0 x0), (2, V.sl (some true) true 0 []), (3, V.ref 0), (13, V.sl o0 b0 n0 x0), (14, vi (↑x0.length : Int)), (15, vi (IntKind.i64.wrap (i0 + 1)))], hp := [(0, Ob.row false 2 x1)], nx := 1 } := by kernel_rfl
theorem L25_0_b2 (i0 : Int) (b0 : Bool) (x0 x1 : List V) (o0 : Option Bool) (n0 k : Nat)
    (c0 : decide (i0 < (↑x0.length : Int)) = false) :
    evalCode Try.prog Try.cfg (evalFn Try.prog Try.cfg (k + 11)) 0 (Try.cfg.fc 25) (k + 11) (loopBody Try.f25 0) { tm := [(0, V.sl o0 b0 n0 x0), (2, V.sl (some true) true 0 []), (3, V.ref 0), (13, V.sl o0 b0 n0 x0), (14, vi (↑x0.length : Int)), (15, vi i0)], hp := [(0, Ob.row false 2 x1)], nx := 1 } = some (Exit.exit 0, { tm := [(0, V.sl o0 b0 n0 x0), (2, V.sl (some true) true 0 []), (3, V.ref 0), (13, V.sl o0 b0 n0 x0), (14, vi (↑x0.length : Int)), (15, vi i0), (16, V.bool false)], hp := [(0, Ob.row false 2 x1)], nx := 5 }) :=
  byL (k := k) (d := 11) [Hn.br 16 false] (aI c0 trivial) (by kernel_rfl)
inductive L25_0_R where
  | e0 (i0 : Int) (x1 : List V)
noncomputable def L25_0_end (b0 : Bool) (x0 : List V) (o0 : Option Bool) (n0 : Nat) : L25_0_R → Exit × St
  | .e0 i0 x1 => (Exit.exit 0, { tm := [(0, V.sl o0 b0 n0 x0), (2, V.sl (some true) true 0 []), (3, V.ref 0), (13, V.sl o0 b0 n0 x0), (14, V.int .i64 (↑x0.length : Int)), (15, V.int .i64 i0), (16, V.bool false)], hp := [(0, Ob.row false 2 x1)], nx := 5 })
def L25_0 (k : Nat) (b0 : Bool) (x0 : List V) (o0 : Option Bool) (n0 : Nat) : Nat → Int → List V → Option L25_0_R
  | 0, _, _ => none
  | f + 1, i0, x1 => (bif decide (i0 < (↑x0.length : Int)) then (guardP (n0 = (2 : Nat)) (((at? (x0) (i0)).bind dAu64u64Z).bind fun (i1, i2) => ((F13 (k + 8) (i1) (i2)).bind fun i3 => ((F36 (k + 2) (o0) (b0) (n0) (x0) (i1) (i3)).bind fun (i4, i5) => ((L25_1 k i0 i1 i2 i4 i5 b0 x0 x1 o0 n0 (k + 11) (0) (false) (0)).bind fun
    | L25_1_R.e0 i6 i7 b1 => (bif !b1 then (guardP ((0 : Int) ≤ i6 ∧ i6 ≤ (↑x1.length : Int)) (guardP ((0 : Nat) + (List.take i6.toNat (List.drop (0 : Nat) x1)).length ≤ maxLen') (guardP ((List.take i6.toNat (List.drop (0 : Nat) x1)).length + (1 : Nat) ≤ maxLen') (guardP ((List.take i6.toNat (List.drop (0 : Nat) x1) ++ [V.agg [V.int .u64 i4, V.int .u64 i5]]).length + (List.take (x1.length - i6.toNat) (List.drop i6.toNat x1)).length ≤ maxLen') (L25_0 k b0 x0 o0 n0 f (IntKind.i64.wrap (i0 + 1)) (List.take i6.toNat (List.drop 0 x1) ++ [V.agg [V.int .u64 i4, V.int .u64 i5]] ++ List.take (x1.length - i6.toNat) (List.drop i6.toNat x1))))))) else (L25_0 k b0 x0 o0 n0 f (IntKind.i64.wrap (i0 + 1)) (x1)))))))) else (some (L25_0_R.e0 i0 x1)))
theorem L25_0_ok {b0 : Bool} {x0 : List V} {o0 : Option Bool} {n0 k : Nat} : ∀ {f : Nat} {i0 : Int} {x1 : List V} {r : L25_0_R}, L25_0 k b0 x0 o0 n0 f i0 x1 = some r →
    LoopsN Try.prog Try.cfg (k + 11) 0 Try.f25 (Try.cfg.fc 25) 0 [0, 2, 3, 13, 14, 15] f { tm := [(0, V.sl o0 b0 n0 x0), (2, V.sl (some true) true 0 []), (3, V.ref 0), (13, V.sl o0 b0 n0 x0), (14, vi (↑x0.length : Int)), (15, vi i0)], hp := [(0, Ob.row false 2 x1)], nx := 1 } (L25_0_end b0 x0 o0 n0 r) := by
  intro f
  induction f with
  | zero => intro i0 x1 r h; cases h
  | succ f ih =>
    intro i0 x1 r h
    rw [L25_0] at h
    rcases cond_elim h with ⟨e0, h⟩ | ⟨e0, h⟩
    ·
      obtain ⟨e1, h⟩ := guardP_some.1 h
      obtain ⟨⟨i1, i2⟩, e2, h⟩ := bE h
      obtain ⟨i3, e3, h⟩ := bE h
      obtain ⟨⟨i4, i5⟩, e4, h⟩ := bE h
      obtain ⟨ee, e5, h⟩ := bE h
      cases ee with
      | e0 i6 i7 b1 =>
        rcases cond_elim h with ⟨e6, h⟩ | ⟨e6, h⟩
        ·
          obtain ⟨e7, h⟩ := guardP_some.1 h
          obtain ⟨e8, h⟩ := guardP_some.1 h
          obtain ⟨e9, h⟩ := guardP_some.1 h
          obtain ⟨e10, h⟩ := guardP_some.1 h
          exact LoopsN.next (L25_0_b0 i0 i1 i2 i3 i4 i5 i6 i7 b0 b1 x0 x1 o0 n0 k e0 (IdxP.of_at' (at_d dAu64u64Z_ok e2 :) e1) (F13_ok e3) (F36_ok e4) (L25_1_ok e5) e6 (SlcR.upto e7 rfl) (GrdW.mk ⟨rfl, by decide, by decide, e8⟩) (GrdW.mk ⟨rfl, by decide, by decide, e9⟩) (SlcR.from e7 rfl) (GrdW.mk ⟨rfl, by decide, by decide, e10⟩)) (L25_0_b0h i0 i1 i2 i4 i5 i6 i7 b0 b1 x0 x1 o0 n0) (ih h)
        ·
          exact LoopsN.next (L25_0_b1 i0 i1 i2 i3 i4 i5 i6 i7 b0 b1 x0 x1 o0 n0 k e0 (IdxP.of_at' (at_d dAu64u64Z_ok e2 :) e1) (F13_ok e3) (F36_ok e4) (L25_1_ok e5) e6) (L25_0_b1h i0 i1 i2 i4 i5 i6 i7 b0 b1 x0 x1 o0 n0) (ih h)
    ·
      cases h; exact LoopsN.done (L25_0_b2 i0 b0 x0 x1 o0 n0 k e0) (fun h => by cases h)
theorem P25_0 (i0 : Int) (b0 : Bool) (x0 x1 : List V) (o0 : Option Bool) (n0 k : Nat)
    (c0 : LoopsN Try.prog Try.cfg (k + 11) 0 Try.f25 (Try.cfg.fc 25) 0 [0, 2, 3, 13, 14, 15] (k + 11) { tm := [(0, V.sl o0 b0 n0 x0), (2, V.sl (some true) true 0 []), (3, V.ref 0), (13, V.sl o0 b0 n0 x0), (14, vi (↑x0.length : Int)), (15, vi 0)], hp := [(0, Ob.row false 2 [])], nx := 1 } (Exit.exit 0, { tm := [(0, V.sl o0 b0 n0 x0), (2, V.sl (some true) true 0 []), (3, V.ref 0), (13, V.sl o0 b0 n0 x0), (14, vi (↑x0.length : Int)), (15, vi i0), (16, V.bool false)], hp := [(0, Ob.row false 2 x1)], nx := 5 })) :
    cP ((k + 12)) 25 [V.sl o0 b0 n0 x0] = some (V.sl none false 2 x1) :=
  byF (k := k) (d := 12) [Hn.loop (Exit.exit 0, { tm := [(0, V.sl o0 b0 n0 x0), (2, V.sl (some true) true 0 []), (3, V.ref 0), (13, V.sl o0 b0 n0 x0), (14, vi (↑x0.length : Int)), (15, vi i0), (16, V.bool false)], hp := [(0, Ob.row false 2 x1)], nx := 5 })] (aI c0 trivial) (by kernel_rfl)
def F25 (k : Nat) (o0 : Option Bool) (b0 : Bool) (n0 : Nat) (x0 : List V) : Option (Option Bool × Bool × Nat × List V) :=
  ((L25_0 k b0 x0 o0 n0 (k + 11) (0) ([])).bind fun
    | L25_0_R.e0 i0 x1 => (some ((none), (false), (2), (x1))))
theorem F25_ok {o0 : Option Bool} {b0 : Bool} {n0 : Nat} {x0 : List V} {k : Nat} {r : Option Bool × Bool × Nat × List V} (h : F25 k o0 b0 n0 x0 = some r) :
    cP ((k + 12)) 25 [V.sl o0 b0 n0 x0] = some (V.sl r.1 r.2.1 r.2.2.1 r.2.2.2) := by
  unfold F25 at h
  obtain ⟨ee, e0, h⟩ := bE h
  cases ee with
  | e0 i0 x1 =>
    have h := Option.some.inj h; subst h; exact P25_0 i0 b0 x0 x1 o0 n0 k (L25_0_ok e0)
theorem P22_0 (i0 i1 : Int) (k : Nat) :
    cP ((k + 3)) 22 [vu i0, vu i1] = some (V.agg [vu i0, vu (IntKind.u64.wrap (IntKind.u64.wrap (i1 - i0) + 1))]) :=
  byF (k := k) (d := 3) [] trivial (by kernel_rfl)
def F22 (k : Nat) (i0 i1 : Int) : Option (Int × Int) :=
  (some ((i0), (IntKind.u64.wrap (IntKind.u64.wrap (i1 - i0) + 1))))
theorem F22_ok {i0 i1 : Int} {k : Nat} {r : Int × Int} (h : F22 k i0 i1 = some r) :
    cP ((k + 3)) 22 [vu i0, vu i1] = some (V.agg [vu r.1, vu r.2]) := by
  unfold F22 at h
  have h := Option.some.inj h; subst h; exact P22_0 i0 i1 k
theorem L26_0_b0 (i0 i1 i2 i3 i4 : Int) (b0 b1 : Bool) (x0 x1 x2 : List V) (o0 o1 : Option Bool) (n0 n1 k : Nat)
    (c0 : decide (i0 < (↑x1.length : Int)) = true)
    (c1 : IdxP x1 i0 n1 2 (V.agg [vu i1, vu i2]))
    (c2 : cP ((k + 14)) 22 [vu i1, vu i2] = some (V.agg [vu i3, vu i4]))
    (c3 : GrdW ((2 : Nat) = (2 : Nat) ∧ (0 : Nat) < (2 : Nat) ∧ (16 : Nat) ≤ (64 : Nat) ∧ x2.length + (1 : Nat) ≤ maxLen') (V.ref (49 : Nat)) [((0 : Nat), Ob.dead), ((49 : Nat), Ob.row false (2 : Nat) (x2 ++ [V.agg [vu i3, vu i4]]))]) :
    evalCode Try.prog Try.cfg (evalFn Try.prog Try.cfg (k + 14)) 0 (Try.cfg.fc 26) (k + 14) (loopBody Try.f26 0) { tm := [(0, V.sl o0 b0 n0 x0), (2, V.sl (some true) true 0 []), (3, V.ref 0), (8, V.sl o1 b1 n1 x1), (9, vi (↑x1.length : Int)), (10, vi i0)], hp := [(0, Ob.row false 2 x2)], nx := 1 } = some (Exit.normal, { tm := [(0, V.sl o0 b0 n0 x0), (2, V.sl (some true) true 0 []), (3, V.ref 49), (5, V.ptr 13 0), (8, V.sl o1 b1 n1 x1), (9, vi (↑x1.length : Int)), (10, vi (IntKind.i64.wrap (i0 + 1))), (11, V.bool true)], hp := [(0, Ob.dead), (13, Ob.var [vu i1, vu i2]), (45, Ob.row false 2 [V.agg [vu i3, vu i4]]), (49, Ob.row false 2 (x2 ++ [V.agg [vu i3, vu i4]]))], nx := 65 }) :=
  byL (k := k) (d := 14) [Hn.br 11 true, Hn.op 12 ((V.agg [vu i1, vu i2]).cpt 0) [], Hn.call 19 (V.agg [vu i3, vu i4]), Hn.op 21 (V.ref 49) [(0, Ob.dead), (49, Ob.row false 2 (x2 ++ [V.agg [vu i3, vu i4]]))]] (aI c0 (aI c1 (aI c2 (aI c3 trivial)))) (by kernel_rfl)
theorem L26_0_b0h (i0 i1 i2 i3 i4 : Int) (b0 b1 : Bool) (x0 x1 x2 : List V) (o0 o1 : Option Bool) (n0 n1 : Nat) : head 0 [0, 2, 3, 8, 9, 10] (Try.cfg.fc 26).acc { tm := [(0, V.sl o0 b0 n0 x0), (2, V.sl (some true) true 0 []), (3, V.ref 49), (5, V.ptr 13 0), (8, V.sl o1 b1 n1 x1), (9, vi (↑x1.length : Int)), (10, vi (IntKind.i64.wrap (i0 + 1))), (11, V.bool true)], hp := [(0, Ob.dead), (13, Ob.var [vu i1, vu i2]), (45, Ob.row false 2 [V.agg [vu i3, vu i4]]), (49, Ob.row false 2 (x2 ++ [V.agg [vu i3, vu i4]]))], nx := 65 } = { tm := [(0, V.sl o0 b0 n0 x0), (2, V.sl (some true) true 0 []), (3, V.ref 0), (8, V.sl o1 b1 n1 x1), (9, vi (↑x1.length : Int)), (10, vi (IntKind.i64.wrap (i0 + 1)))], hp := [(0, Ob.row false 2 (x2 ++ [V.agg [vu i3, vu i4]]))], nx := 1 } := by kernel_rfl
theorem L26_0_b1 (i0 : Int) (b0 b1 : Bool) (x0 x1 x2 : List V) (o0 o1 : Option Bool) (n0 n1 k : Nat)
    (c0 : decide (i0 < (↑x1.length : Int)) = false) :
    evalCode Try.prog Try.cfg (evalFn Try.prog Try.cfg (k + 14)) 0 (Try.cfg.fc 26) (k + 14) (loopBody Try.f26 0) { tm := [(0, V.sl o0 b0 n0 x0), (2, V.sl (some true) true 0 []), (3, V.ref 0), (8, V.sl o1 b1 n1 x1), (9, vi (↑x1.length : Int)), (10, vi i0)], hp := [(0, Ob.row false 2 x2)], nx := 1 } = some (Exit.exit 0, { tm := [(0, V.sl o0 b0 n0 x0), (2, V.sl (some true) true 0 []), (3, V.ref 0), (8, V.sl o1 b1 n1 x1), (9, vi (↑x1.length : Int)), (10, vi i0), (11, V.bool false)], hp := [(0, Ob.row false 2 x2)], nx := 5 }) :=
  byL (k := k) (d := 14) [Hn.br 11 false] (aI c0 trivial) (by kernel_rfl)
inductive L26_0_R where
  | e0 (i0 : Int) (x2 : List V)
noncomputable def L26_0_end (b0 : Bool) (b1 : Bool) (x0 : List V) (x1 : List V) (o0 : Option Bool) (o1 : Option Bool) (n0 : Nat) (n1 : Nat) : L26_0_R → Exit × St
  | .e0 i0 x2 => (Exit.exit 0, { tm := [(0, V.sl o0 b0 n0 x0), (2, V.sl (some true) true 0 []), (3, V.ref 0), (8, V.sl o1 b1 n1 x1), (9, V.int .i64 (↑x1.length : Int)), (10, V.int .i64 i0), (11, V.bool false)], hp := [(0, Ob.row false 2 x2)], nx := 5 })
def L26_0 (k : Nat) (b0 b1 : Bool) (x0 x1 : List V) (o0 o1 : Option Bool) (n0 n1 : Nat) : Nat → Int → List V → Option L26_0_R
  | 0, _, _ => none
  | f + 1, i0, x2 => (bif decide (i0 < (↑x1.length : Int)) then (guardP (n1 = (2 : Nat)) (((at? (x1) (i0)).bind dAu64u64Z).bind fun (i1, i2) => ((F22 (k + 11) (i1) (i2)).bind fun (i3, i4) => (guardP (x2.length + (1 : Nat) ≤ maxLen') (L26_0 k b0 b1 x0 x1 o0 o1 n0 n1 f (IntKind.i64.wrap (i0 + 1)) (x2 ++ [V.agg [V.int .u64 i3, V.int .u64 i4]])))))) else (some (L26_0_R.e0 i0 x2)))
theorem L26_0_ok {b0 b1 : Bool} {x0 x1 : List V} {o0 o1 : Option Bool} {n0 n1 k : Nat} : ∀ {f : Nat} {i0 : Int} {x2 : List V} {r : L26_0_R}, L26_0 k b0 b1 x0 x1 o0 o1 n0 n1 f i0 x2 = some r →
    LoopsN Try.prog Try.cfg (k + 14) 0 Try.f26 (Try.cfg.fc 26) 0 [0, 2, 3, 8, 9, 10] f { tm := [(0, V.sl o0 b0 n0 x0), (2, V.sl (some true) true 0 []), (3, V.ref 0), (8, V.sl o1 b1 n1 x1), (9, vi (↑x1.length : Int)), (10, vi i0)], hp := [(0, Ob.row false 2 x2)], nx := 1 } (L26_0_end b0 b1 x0 x1 o0 o1 n0 n1 r) := by
  intro f
  induction f with
  | zero => intro i0 x2 r h; cases h
  | succ f ih =>
    intro i0 x2 r h
    rw [L26_0] at h
    rcases cond_elim h with ⟨e0, h⟩ | ⟨e0, h⟩
    ·
      obtain ⟨e1, h⟩ := guardP_some.1 h
      obtain ⟨⟨i1, i2⟩, e2, h⟩ := bE h
      obtain ⟨⟨i3, i4⟩, e3, h⟩ := bE h
      obtain ⟨e4, h⟩ := guardP_some.1 h
      exact LoopsN.next (L26_0_b0 i0 i1 i2 i3 i4 b0 b1 x0 x1 x2 o0 o1 n0 n1 k e0 (IdxP.of_at' (at_d dAu64u64Z_ok e2 :) e1) (F22_ok e3) (GrdW.mk ⟨rfl, by decide, by decide, e4⟩)) (L26_0_b0h i0 i1 i2 i3 i4 b0 b1 x0 x1 x2 o0 o1 n0 n1) (ih h)
    ·
      cases h; exact LoopsN.done (L26_0_b1 i0 b0 b1 x0 x1 x2 o0 o1 n0 n1 k e0) (fun h => by cases h)
theorem P26_0 (i0 : Int) (b0 b1 : Bool) (x0 x1 x2 : List V) (o0 o1 : Option Bool) (n0 n1 k : Nat)
    (c0 : cP ((k + 14)) 25 [V.sl o0 b0 n0 x0] = some (V.sl o1 b1 n1 x1))
    (c1 : LoopsN Try.prog Try.cfg (k + 14) 0 Try.f26 (Try.cfg.fc 26) 0 [0, 2, 3, 8, 9, 10] (k + 14) { tm := [(0, V.sl o0 b0 n0 x0), (2, V.sl (some true) true 0 []), (3, V.ref 0), (8, V.sl o1 b1 n1 x1), (9, vi (↑x1.length : Int)), (10, vi 0)], hp := [(0, Ob.row false 2 [])], nx := 1 } (Exit.exit 0, { tm := [(0, V.sl o0 b0 n0 x0), (2, V.sl (some true) true 0 []), (3, V.ref 0), (8, V.sl o1 b1 n1 x1), (9, vi (↑x1.length : Int)), (10, vi i0), (11, V.bool false)], hp := [(0, Ob.row false 2 x2)], nx := 5 })) :
    cP ((k + 15)) 26 [V.sl o0 b0 n0 x0] = some (V.sl none false 2 x2) :=
  byF (k := k) (d := 15) [Hn.call 8 (V.sl o1 b1 n1 x1), Hn.loop (Exit.exit 0, { tm := [(0, V.sl o0 b0 n0 x0), (2, V.sl (some true) true 0 []), (3, V.ref 0), (8, V.sl o1 b1 n1 x1), (9, vi (↑x1.length : Int)), (10, vi i0), (11, V.bool false)], hp := [(0, Ob.row false 2 x2)], nx := 5 })] (aI c0 (aI c1 trivial)) (by kernel_rfl)
def F26 (k : Nat) (o0 : Option Bool) (b0 : Bool) (n0 : Nat) (x0 : List V) : Option (Option Bool × Bool × Nat × List V) :=
  ((F25 (k + 2) (o0) (b0) (n0) (x0)).bind fun (o1, b1, n1, x1) => ((L26_0 k b0 b1 x0 x1 o0 o1 n0 n1 (k + 14) (0) ([])).bind fun
    | L26_0_R.e0 i0 x2 => (some ((none), (false), (2), (x2)))))
theorem F26_ok {o0 : Option Bool} {b0 : Bool} {n0 : Nat} {x0 : List V} {k : Nat} {r : Option Bool × Bool × Nat × List V} (h : F26 k o0 b0 n0 x0 = some r) :
    cP ((k + 15)) 26 [V.sl o0 b0 n0 x0] = some (V.sl r.1 r.2.1 r.2.2.1 r.2.2.2) := by
  unfold F26 at h
  obtain ⟨⟨o1, b1, n1, x1⟩, e0, h⟩ := bE h
  obtain ⟨ee, e1, h⟩ := bE h
  cases ee with
  | e0 i0 x2 =>
    have h := Option.some.inj h; subst h; exact P26_0 i0 b0 b1 x0 x1 x2 o0 o1 n0 n1 k (F25_ok e0) (L26_0_ok e1)
theorem L17_0_b0 (i0 i1 i2 i3 i4 : Int) (b0 b1 : Bool) (x0 x1 : List V) (o0 o1 : Option Bool) (n0 n1 k : Nat)
    (c0 : decide (i0 < (↑x0.length : Int)) = true)
    (c1 : IdxP x0 i0 n0 2 (V.agg [vu i1, vu i2]))
    (c2 : IdxP x1 i0 n1 2 (V.agg [vu i3, vu i4]))
    (c3 : (!(decide (i1 = i3) && (decide (i2 = i4) && true))) = true) :
    evalCode Try.prog Try.cfg (evalFn Try.prog Try.cfg (k + 2)) 0 (Try.cfg.fc 17) (k + 2) (loopBody Try.f17 0) { tm := [(0, V.sl o0 b0 n0 x0), (1, V.sl o1 b1 n1 x1), (4, V.bool false), (10, V.bool false), (12, vi (↑x0.length : Int)), (13, vi i0)], hp := [], nx := 0 } = some (Exit.ret, { tm := [(0, V.sl o0 b0 n0 x0), (1, V.sl o1 b1 n1 x1), (4, V.bool false), (5, vi i0), (10, V.bool false), (12, vi (↑x0.length : Int)), (13, vi i0), (14, V.bool true), (24, V.bool true)], hp := [], nx := 52 }) :=
  byL (k := k) (d := 2) [Hn.br 14 true, Hn.op 18 ((V.agg [vu i1, vu i2]).cpt 0) [], Hn.op 22 ((V.agg [vu i3, vu i4]).cpt 0) [], Hn.br 24 true] (aI c0 (aI c1 (aI c2 (aI c3 trivial)))) (by kernel_rfl)
theorem L17_0_b1 (i0 i1 i2 i3 i4 : Int) (b0 b1 : Bool) (x0 x1 : List V) (o0 o1 : Option Bool) (n0 n1 k : Nat)
    (c0 : decide (i0 < (↑x0.length : Int)) = true)
    (c1 : IdxP x0 i0 n0 2 (V.agg [vu i1, vu i2]))
    (c2 : IdxP x1 i0 n1 2 (V.agg [vu i3, vu i4]))
    (c3 : (!(decide (i1 = i3) && (decide (i2 = i4) && true))) = false) :
    evalCode Try.prog Try.cfg (evalFn Try.prog Try.cfg (k + 2)) 0 (Try.cfg.fc 17) (k + 2) (loopBody Try.f17 0) { tm := [(0, V.sl o0 b0 n0 x0), (1, V.sl o1 b1 n1 x1), (4, V.bool false), (10, V.bool false), (12, vi (↑x0.length : Int)), (13, vi i0)], hp := [], nx := 0 } = some (Exit.normal, { tm := [(0, V.sl o0 b0 n0 x0), (1, V.sl o1 b1 n1 x1), (4, V.bool false), (5, vi i0), (10, V.bool false), (12, vi (↑x0.length : Int)), (13, vi (IntKind.i64.wrap (i0 + 1))), (14, V.bool true), (24, V.bool false)], hp := [], nx := 56 }) :=
  byL (k := k) (d := 2) [Hn.br 14 true, Hn.op 18 ((V.agg [vu i1, vu i2]).cpt 0) [], Hn.op 22 ((V.agg [vu i3, vu i4]).cpt 0) [], Hn.br 24 false] (aI c0 (aI c1 (aI c2 (aI c3 trivial)))) (by kernel_rfl)
theorem L17_0_b1h (i0 : Int) (b0 b1 : Bool) (x0 x1 : List V) (o0 o1 : Option Bool) (n0 n1 : Nat) : head 0 [0, 1, 4, 10, 12, 13] (Try.cfg.fc 17).acc { tm := [(0, V.sl o0 b0 n0 x0), (1, V.sl o1 b1 n1 x1), (4, V.bool false), (5, vi i0), (10, V.bool false), (12, vi (↑x0.length : Int)), (13, vi (IntKind.i64.wrap (i0 + 1))), (14, V.bool true), (24, V.bool false)], hp := [], nx := 56 } = { tm := [(0, V.sl o0 b0 n0 x0), (1, V.sl o1 b1 n1 x1), (4, V.bool false), (10, V.bool false), (12, vi (↑x0.length : Int)), (13, vi (IntKind.i64.wrap (i0 + 1)))], hp := [], nx := 0 } := by kernel_rfl
theorem L17_0_b2 (i0 : Int) (b0 b1 : Bool) (x0 x1 : List V) (o0 o1 : Option Bool) (n0 n1 k : Nat)
    (c0 : decide (i0 < (↑x0.length : Int)) = false) :
    evalCode Try.prog Try.cfg (evalFn Try.prog Try.cfg (k + 2)) 0 (Try.cfg.fc 17) (k + 2) (loopBody Try.f17 0) { tm := [(0, V.sl o0 b0 n0 x0), (1, V.sl o1 b1 n1 x1), (4, V.bool false), (10, V.bool false), (12, vi (↑x0.length : Int)), (13, vi i0)], hp := [], nx := 0 } = some (Exit.exit 0, { tm := [(0, V.sl o0 b0 n0 x0), (1, V.sl o1 b1 n1 x1), (4, V.bool false), (10, V.bool false), (12, vi (↑x0.length : Int)), (13, vi i0), (14, V.bool false)], hp := [], nx := 4 }) :=
  byL (k := k) (d := 2) [Hn.br 14 false] (aI c0 trivial) (by kernel_rfl)
inductive L17_0_R where
  | e0 (i0 : Int)
  | e1 (i0 : Int)
noncomputable def L17_0_end (b0 : Bool) (b1 : Bool) (x0 : List V) (x1 : List V) (o0 : Option Bool) (o1 : Option Bool) (n0 : Nat) (n1 : Nat) : L17_0_R → Exit × St
  | .e0 i0 => (Exit.ret, { tm := [(0, V.sl o0 b0 n0 x0), (1, V.sl o1 b1 n1 x1), (4, V.bool false), (5, V.int .i64 i0), (10, V.bool false), (12, V.int .i64 (↑x0.length : Int)), (13, V.int .i64 i0), (14, V.bool true), (24, V.bool true)], hp := [], nx := 52 })
  | .e1 i0 => (Exit.exit 0, { tm := [(0, V.sl o0 b0 n0 x0), (1, V.sl o1 b1 n1 x1), (4, V.bool false), (10, V.bool false), (12, V.int .i64 (↑x0.length : Int)), (13, V.int .i64 i0), (14, V.bool false)], hp := [], nx := 4 })
def L17_0 (k : Nat) (b0 b1 : Bool) (x0 x1 : List V) (o0 o1 : Option Bool) (n0 n1 : Nat) : Nat → Int → Option L17_0_R
  | 0, _ => none
  | f + 1, i0 => (bif decide (i0 < (↑x0.length : Int)) then (guardP (n0 = (2 : Nat)) (((at? (x0) (i0)).bind dAu64u64Z).bind fun (i1, i2) => (guardP (n1 = (2 : Nat)) (((at? (x1) (i0)).bind dAu64u64Z).bind fun (i3, i4) => (bif !(decide (i1 = i3) && (decide (i2 = i4) && true)) then (some (L17_0_R.e0 i0)) else (L17_0 k b0 b1 x0 x1 o0 o1 n0 n1 f (IntKind.i64.wrap (i0 + 1)))))))) else (some (L17_0_R.e1 i0)))
theorem L17_0_ok {b0 b1 : Bool} {x0 x1 : List V} {o0 o1 : Option Bool} {n0 n1 k : Nat} : ∀ {f : Nat} {i0 : Int} {r : L17_0_R}, L17_0 k b0 b1 x0 x1 o0 o1 n0 n1 f i0 = some r →
    LoopsN Try.prog Try.cfg (k + 2) 0 Try.f17 (Try.cfg.fc 17) 0 [0, 1, 4, 10, 12, 13] f { tm := [(0, V.sl o0 b0 n0 x0), (1, V.sl o1 b1 n1 x1), (4, V.bool false), (10, V.bool false), (12, vi (↑x0.length : Int)), (13, vi i0)], hp := [], nx := 0 } (L17_0_end b0 b1 x0 x1 o0 o1 n0 n1 r) := by
  intro f
  induction f with
  | zero => intro i0 r h; cases h
  | succ f ih =>
    intro i0 r h
    rw [L17_0] at h
    rcases cond_elim h with ⟨e0, h⟩ | ⟨e0, h⟩
    ·
      obtain ⟨e1, h⟩ := guardP_some.1 h
      obtain ⟨⟨i1, i2⟩, e2, h⟩ := bE h
      obtain ⟨e3, h⟩ := guardP_some.1 h
      obtain ⟨⟨i3, i4⟩, e4, h⟩ := bE h
      rcases cond_elim h with ⟨e5, h⟩ | ⟨e5, h⟩
      ·
        cases h; exact LoopsN.done (L17_0_b0 i0 i1 i2 i3 i4 b0 b1 x0 x1 o0 o1 n0 n1 k e0 (IdxP.of_at' (at_d dAu64u64Z_ok e2 :) e1) (IdxP.of_at' (at_d dAu64u64Z_ok e4 :) e3) e5) (fun h => by cases h)
      ·
        exact LoopsN.next (L17_0_b1 i0 i1 i2 i3 i4 b0 b1 x0 x1 o0 o1 n0 n1 k e0 (IdxP.of_at' (at_d dAu64u64Z_ok e2 :) e1) (IdxP.of_at' (at_d dAu64u64Z_ok e4 :) e3) e5) (L17_0_b1h i0 b0 b1 x0 x1 o0 o1 n0 n1) (ih h)
    ·
      cases h; exact LoopsN.done (L17_0_b2 i0 b0 b1 x0 x1 o0 o1 n0 n1 k e0) (fun h => by cases h)
theorem P17_0 (b0 b1 : Bool) (x0 x1 : List V) (o0 o1 : Option Bool) (n0 n1 k : Nat)
    (c0 : (!decide ((↑x0.length : Int) = (↑x1.length : Int))) = true) :
    cP ((k + 3)) 17 [V.sl o0 b0 n0 x0, V.sl o1 b1 n1 x1] = some (V.bool false) :=
  byF (k := k) (d := 3) [Hn.br 10 true] (aI c0 trivial) (by kernel_rfl)
theorem P17_1 (i0 : Int) (b0 b1 : Bool) (x0 x1 : List V) (o0 o1 : Option Bool) (n0 n1 k : Nat)
    (c0 : (!decide ((↑x0.length : Int) = (↑x1.length : Int))) = false)
    (c1 : LoopsN Try.prog Try.cfg (k + 2) 0 Try.f17 (Try.cfg.fc 17) 0 [0, 1, 4, 10, 12, 13] (k + 2) { tm := [(0, V.sl o0 b0 n0 x0), (1, V.sl o1 b1 n1 x1), (4, V.bool false), (10, V.bool false), (12, vi (↑x0.length : Int)), (13, vi 0)], hp := [], nx := 0 } (Exit.exit 0, { tm := [(0, V.sl o0 b0 n0 x0), (1, V.sl o1 b1 n1 x1), (4, V.bool false), (10, V.bool false), (12, vi (↑x0.length : Int)), (13, vi i0), (14, V.bool false)], hp := [], nx := 4 })) :
    cP ((k + 3)) 17 [V.sl o0 b0 n0 x0, V.sl o1 b1 n1 x1] = some (V.bool true) :=
  byF (k := k) (d := 3) [Hn.br 10 false, Hn.loop (Exit.exit 0, { tm := [(0, V.sl o0 b0 n0 x0), (1, V.sl o1 b1 n1 x1), (4, V.bool false), (10, V.bool false), (12, vi (↑x0.length : Int)), (13, vi i0), (14, V.bool false)], hp := [], nx := 4 })] (aI c0 (aI c1 trivial)) (by kernel_rfl)
theorem P17_2 (i0 : Int) (b0 b1 : Bool) (x0 x1 : List V) (o0 o1 : Option Bool) (n0 n1 k : Nat)
    (c0 : (!decide ((↑x0.length : Int) = (↑x1.length : Int))) = false)
    (c1 : LoopsN Try.prog Try.cfg (k + 2) 0 Try.f17 (Try.cfg.fc 17) 0 [0, 1, 4, 10, 12, 13] (k + 2) { tm := [(0, V.sl o0 b0 n0 x0), (1, V.sl o1 b1 n1 x1), (4, V.bool false), (10, V.bool false), (12, vi (↑x0.length : Int)), (13, vi 0)], hp := [], nx := 0 } (Exit.ret, { tm := [(0, V.sl o0 b0 n0 x0), (1, V.sl o1 b1 n1 x1), (4, V.bool false), (5, vi i0), (10, V.bool false), (12, vi (↑x0.length : Int)), (13, vi i0), (14, V.bool true), (24, V.bool true)], hp := [], nx := 52 })) :
    cP ((k + 3)) 17 [V.sl o0 b0 n0 x0, V.sl o1 b1 n1 x1] = some (V.bool false) :=
  byF (k := k) (d := 3) [Hn.br 10 false, Hn.loop (Exit.ret, { tm := [(0, V.sl o0 b0 n0 x0), (1, V.sl o1 b1 n1 x1), (4, V.bool false), (5, vi i0), (10, V.bool false), (12, vi (↑x0.length : Int)), (13, vi i0), (14, V.bool true), (24, V.bool true)], hp := [], nx := 52 })] (aI c0 (aI c1 trivial)) (by kernel_rfl)
def F17 (k : Nat) (o0 : Option Bool) (b0 : Bool) (n0 : Nat) (x0 : List V) (o1 : Option Bool) (b1 : Bool) (n1 : Nat) (x1 : List V) : Option (Bool) :=
  (bif !decide ((↑x0.length : Int) = (↑x1.length : Int)) then (some (false)) else ((L17_0 k b0 b1 x0 x1 o0 o1 n0 n1 (k + 2) (0)).bind fun
    | L17_0_R.e0 i0 => (some (false))
    | L17_0_R.e1 i0 => (some (true))))
theorem F17_ok {o0 : Option Bool} {b0 : Bool} {n0 : Nat} {x0 : List V} {o1 : Option Bool} {b1 : Bool} {n1 : Nat} {x1 : List V} {k : Nat} {r : Bool} (h : F17 k o0 b0 n0 x0 o1 b1 n1 x1 = some r) :
    cP ((k + 3)) 17 [V.sl o0 b0 n0 x0, V.sl o1 b1 n1 x1] = some (V.bool r) := by
  unfold F17 at h
  rcases cond_elim h with ⟨e0, h⟩ | ⟨e0, h⟩
  ·
    have h := Option.some.inj h; subst h; exact P17_0 b0 b1 x0 x1 o0 o1 n0 n1 k e0
  ·
    obtain ⟨ee, e1, h⟩ := bE h
    cases ee with
    | e0 i0 =>
      have h := Option.some.inj h; subst h; exact P17_2 i0 b0 b1 x0 x1 o0 o1 n0 n1 k e0 (L17_0_ok e1)
    | e1 i0 =>
      have h := Option.some.inj h; subst h; exact P17_1 i0 b0 b1 x0 x1 o0 o1 n0 n1 k e0 (L17_0_ok e1)
theorem P15_0 (i0 i1 i2 i3 i4 : Int) (k : Nat)
    (c0 : cP ((k + 8)) 29 [V.sl none false 2 [V.agg [vu i0, vu i1], V.agg [vu i2, vu i3]]] = some (vi i4))
    (c1 : (!decide (i4 = 0)) = true) :
    cP ((k + 9)) 15 [V.agg [vu i0, vu i1], V.agg [vu i2, vu i3]] = some (V.tup [V.sl (some true) true 0 [], vi i4]) :=
  byF (k := k) (d := 9) [Hn.call 13 (vi i4), Hn.br 15 true] (aI c0 (aI c1 trivial)) (by kernel_rfl)
theorem P15_1 (i0 i1 i2 i3 i4 i5 i6 i7 i8 : Int) (k : Nat)
    (c0 : cP ((k + 8)) 29 [V.sl none false 2 [V.agg [vu i0, vu i1], V.agg [vu i2, vu i3]]] = some (vi i4))
    (c1 : (!decide (i4 = 0)) = false)
    (c2 : cP ((k + 8)) 28 [V.agg [vu i0, vu i1]] = some (V.agg [vu i5, vu i6]))
    (c3 : cP ((k + 8)) 28 [V.agg [vu i2, vu i3]] = some (V.agg [vu i7, vu i8]))
    (c4 : decide (i6 < i7) = true) :
    cP ((k + 9)) 15 [V.agg [vu i0, vu i1], V.agg [vu i2, vu i3]] = some (V.tup [V.sl none false 2 [V.agg [vu i0, vu i1]], vi 0]) :=
  byF (k := k) (d := 9) [Hn.call 13 (vi i4), Hn.br 15 false, Hn.call 18 (V.agg [vu i5, vu i6]), Hn.call 20 (V.agg [vu i7, vu i8]), Hn.br 26 true] (aI c0 (aI c1 (aI c2 (aI c3 (aI c4 trivial))))) (by kernel_rfl)
theorem P15_2 (i0 i1 i2 i3 i4 i5 i6 i7 i8 : Int) (k : Nat)
    (c0 : cP ((k + 8)) 29 [V.sl none false 2 [V.agg [vu i0, vu i1], V.agg [vu i2, vu i3]]] = some (vi i4))
    (c1 : (!decide (i4 = 0)) = false)
    (c2 : cP ((k + 8)) 28 [V.agg [vu i0, vu i1]] = some (V.agg [vu i5, vu i6]))
    (c3 : cP ((k + 8)) 28 [V.agg [vu i2, vu i3]] = some (V.agg [vu i7, vu i8]))
    (c4 : decide (i6 < i7) = false)
    (c5 : decide (i8 < i5) = true) :
    cP ((k + 9)) 15 [V.agg [vu i0, vu i1], V.agg [vu i2, vu i3]] = some (V.tup [V.sl none false 2 [V.agg [vu i0, vu i1]], vi 0]) :=
  byF (k := k) (d := 9) [Hn.call 13 (vi i4), Hn.br 15 false, Hn.call 18 (V.agg [vu i5, vu i6]), Hn.call 20 (V.agg [vu i7, vu i8]), Hn.br 26 false, Hn.br 32 true] (aI c0 (aI c1 (aI c2 (aI c3 (aI c4 (aI c5 trivial)))))) (by kernel_rfl)
theorem P15_3 (i0 i1 i2 i3 i4 i5 i6 i7 i8 i9 i10 i11 i12 : Int) (k : Nat)
    (c0 : cP ((k + 8)) 29 [V.sl none false 2 [V.agg [vu i0, vu i1], V.agg [vu i2, vu i3]]] = some (vi i4))
    (c1 : (!decide (i4 = 0)) = false)
    (c2 : cP ((k + 8)) 28 [V.agg [vu i0, vu i1]] = some (V.agg [vu i5, vu i6]))
    (c3 : cP ((k + 8)) 28 [V.agg [vu i2, vu i3]] = some (V.agg [vu i7, vu i8]))
    (c4 : decide (i6 < i7) = false)
    (c5 : decide (i8 < i5) = false)
    (c6 : decide (i5 < i7) = true)
    (c7 : cP ((k + 8)) 30 [V.agg [vu i5, vu (IntKind.u64.wrap (i7 - 1))]] = some (V.agg [vu i9, vu i10]))
    (c8 : decide (i8 < i6) = true)
    (c9 : cP ((k + 8)) 30 [V.agg [vu (IntKind.u64.wrap (i8 + 1)), vu i6]] = some (V.agg [vu i11, vu i12])) :
    cP ((k + 9)) 15 [V.agg [vu i0, vu i1], V.agg [vu i2, vu i3]] = some (V.tup [V.sl none false 2 [V.agg [vu i9, vu i10], V.agg [vu i11, vu i12]], vi 0]) :=
  byF (k := k) (d := 9) [Hn.call 13 (vi i4), Hn.br 15 false, Hn.call 18 (V.agg [vu i5, vu i6]), Hn.call 20 (V.agg [vu i7, vu i8]), Hn.br 26 false, Hn.br 32 false, Hn.br 39 true, Hn.call 47 (V.agg [vu i9, vu i10]), Hn.br 54 true, Hn.call 62 (V.agg [vu i11, vu i12])] (aI c0 (aI c1 (aI c2 (aI c3 (aI c4 (aI c5 (aI c6 (aI c7 (aI c8 (aI c9 trivial)))))))))) (by kernel_rfl)
theorem P15_4 (i0 i1 i2 i3 i4 i5 i6 i7 i8 i9 i10 : Int) (k : Nat)
    (c0 : cP ((k + 8)) 29 [V.sl none false 2 [V.agg [vu i0, vu i1], V.agg [vu i2, vu i3]]] = some (vi i4))
    (c1 : (!decide (i4 = 0)) = false)
    (c2 : cP ((k + 8)) 28 [V.agg [vu i0, vu i1]] = some (V.agg [vu i5, vu i6]))
    (c3 : cP ((k + 8)) 28 [V.agg [vu i2, vu i3]] = some (V.agg [vu i7, vu i8]))
    (c4 : decide (i6 < i7) = false)
    (c5 : decide (i8 < i5) = false)
    (c6 : decide (i5 < i7) = true)
    (c7 : cP ((k + 8)) 30 [V.agg [vu i5, vu (IntKind.u64.wrap (i7 - 1))]] = some (V.agg [vu i9, vu i10]))
    (c8 : decide (i8 < i6) = false) :
    cP ((k + 9)) 15 [V.agg [vu i0, vu i1], V.agg [vu i2, vu i3]] = some (V.tup [V.sl none false 2 [V.agg [vu i9, vu i10]], vi 0]) :=
  byF (k := k) (d := 9) [Hn.call 13 (vi i4), Hn.br 15 false, Hn.call 18 (V.agg [vu i5, vu i6]), Hn.call 20 (V.agg [vu i7, vu i8]), Hn.br 26 false, Hn.br 32 false, Hn.br 39 true, Hn.call 47 (V.agg [vu i9, vu i10]), Hn.br 54 false] (aI c0 (aI c1 (aI c2 (aI c3 (aI c4 (aI c5 (aI c6 (aI c7 (aI c8 trivial))))))))) (by kernel_rfl)
theorem P15_5 (i0 i1 i2 i3 i4 i5 i6 i7 i8 i9 i10 : Int) (k : Nat)
    (c0 : cP ((k + 8)) 29 [V.sl none false 2 [V.agg [vu i0, vu i1], V.agg [vu i2, vu i3]]] = some (vi i4))
    (c1 : (!decide (i4 = 0)) = false)
    (c2 : cP ((k + 8)) 28 [V.agg [vu i0, vu i1]] = some (V.agg [vu i5, vu i6]))
    (c3 : cP ((k + 8)) 28 [V.agg [vu i2, vu i3]] = some (V.agg [vu i7, vu i8]))
    (c4 : decide (i6 < i7) = false)
    (c5 : decide (i8 < i5) = false)
    (c6 : decide (i5 < i7) = false)
    (c7 : decide (i8 < i6) = true)
    (c8 : cP ((k + 8)) 30 [V.agg [vu (IntKind.u64.wrap (i8 + 1)), vu i6]] = some (V.agg [vu i9, vu i10])) :
    cP ((k + 9)) 15 [V.agg [vu i0, vu i1], V.agg [vu i2, vu i3]] = some (V.tup [V.sl none false 2 [V.agg [vu i9, vu i10]], vi 0]) :=
  byF (k := k) (d := 9) [Hn.call 13 (vi i4), Hn.br 15 false, Hn.call 18 (V.agg [vu i5, vu i6]), Hn.call 20 (V.agg [vu i7, vu i8]), Hn.br 26 false, Hn.br 32 false, Hn.br 39 false, Hn.br 54 true, Hn.call 62 (V.agg [vu i9, vu i10])] (aI c0 (aI c1 (aI c2 (aI c3 (aI c4 (aI c5 (aI c6 (aI c7 (aI c8 trivial))))))))) (by kernel_rfl)
theorem P15_6 (i0 i1 i2 i3 i4 i5 i6 i7 i8 : Int) (k : Nat)
    (c0 : cP ((k + 8)) 29 [V.sl none false 2 [V.agg [vu i0, vu i1], V.agg [vu i2, vu i3]]] = some (vi i4))
    (c1 : (!decide (i4 = 0)) = false)
    (c2 : cP ((k + 8)) 28 [V.agg [vu i0, vu i1]] = some (V.agg [vu i5, vu i6]))
    (c3 : cP ((k + 8)) 28 [V.agg [vu i2, vu i3]] = some (V.agg [vu i7, vu i8]))
    (c4 : decide (i6 < i7) = false)
    (c5 : decide (i8 < i5) = false)
    (c6 : decide (i5 < i7) = false)
    (c7 : decide (i8 < i6) = false) :
    cP ((k + 9)) 15 [V.agg [vu i0, vu i1], V.agg [vu i2, vu i3]] = some (V.tup [V.sl (some true) true 0 [], vi 0]) :=
  byF (k := k) (d := 9) [Hn.call 13 (vi i4), Hn.br 15 false, Hn.call 18 (V.agg [vu i5, vu i6]), Hn.call 20 (V.agg [vu i7, vu i8]), Hn.br 26 false, Hn.br 32 false, Hn.br 39 false, Hn.br 54 false] (aI c0 (aI c1 (aI c2 (aI c3 (aI c4 (aI c5 (aI c6 (aI c7 trivial)))))))) (by kernel_rfl)
def F15 (k : Nat) (i0 i1 i2 i3 : Int) : Option (Option Bool × Bool × Nat × List V × Int) :=
  ((F29 (k + 2) (none) (false) (2) ([V.agg [V.int .u64 i0, V.int .u64 i1], V.agg [V.int .u64 i2, V.int .u64 i3]])).bind fun i4 => (bif !decide (i4 = 0) then (some ((some true), (true), (0), ([]), (i4))) else ((F28 (k + 5) (i0) (i1)).bind fun (i5, i6) => ((F28 (k + 5) (i2) (i3)).bind fun (i7, i8) => (bif decide (i6 < i7) then (some ((none), (false), (2), ([V.agg [V.int .u64 i0, V.int .u64 i1]]), (0))) else (bif decide (i8 < i5) then (some ((none), (false), (2), ([V.agg [V.int .u64 i0, V.int .u64 i1]]), (0))) else (bif decide (i5 < i7) then ((F30 (k + 5) (i5) (IntKind.u64.wrap (i7 - 1))).bind fun (i9, i10) => (bif decide (i8 < i6) then ((F30 (k + 5) (IntKind.u64.wrap (i8 + 1)) (i6)).bind fun (i11, i12) => (some ((none), (false), (2), ([V.agg [V.int .u64 i9, V.int .u64 i10], V.agg [V.int .u64 i11, V.int .u64 i12]]), (0)))) else (some ((none), (false), (2), ([V.agg [V.int .u64 i9, V.int .u64 i10]]), (0))))) else (bif decide (i8 < i6) then ((F30 (k + 5) (IntKind.u64.wrap (i8 + 1)) (i6)).bind fun (i9, i10) => (some ((none), (false), (2), ([V.agg [V.int .u64 i9, V.int .u64 i10]]), (0)))) else (some ((some true), (true), (0), ([]), (0)))))))))))
theorem F15_ok {i0 i1 i2 i3 : Int} {k : Nat} {r : Option Bool × Bool × Nat × List V × Int} (h : F15 k i0 i1 i2 i3 = some r) :
    cP ((k + 9)) 15 [V.agg [vu i0, vu i1], V.agg [vu i2, vu i3]] = some (V.tup [V.sl r.1 r.2.1 r.2.2.1 r.2.2.2.1, vi r.2.2.2.2]) := by
  unfold F15 at h
  obtain ⟨i4, e0, h⟩ := bE h
  rcases cond_elim h with ⟨e1, h⟩ | ⟨e1, h⟩
  ·
    have h := Option.some.inj h; subst h; exact P15_0 i0 i1 i2 i3 i4 k (F29_ok e0) e1
  ·
    obtain ⟨⟨i5, i6⟩, e2, h⟩ := bE h
    obtain ⟨⟨i7, i8⟩, e3, h⟩ := bE h
    rcases cond_elim h with ⟨e4, h⟩ | ⟨e4, h⟩
    ·
      have h := Option.some.inj h; subst h; exact P15_1 i0 i1 i2 i3 i4 i5 i6 i7 i8 k (F29_ok e0) e1 (F28_ok e2) (F28_ok e3) e4
    ·
      rcases cond_elim h with ⟨e5, h⟩ | ⟨e5, h⟩
      ·
        have h := Option.some.inj h; subst h; exact P15_2 i0 i1 i2 i3 i4 i5 i6 i7 i8 k (F29_ok e0) e1 (F28_ok e2) (F28_ok e3) e4 e5
      ·
        rcases cond_elim h with ⟨e6, h⟩ | ⟨e6, h⟩
        ·
          obtain ⟨⟨i9, i10⟩, e7, h⟩ := bE h
          rcases cond_elim h with ⟨e8, h⟩ | ⟨e8, h⟩
          ·
            obtain ⟨⟨i11, i12⟩, e9, h⟩ := bE h
            have h := Option.some.inj h; subst h; exact P15_3 i0 i1 i2 i3 i4 i5 i6 i7 i8 i9 i10 i11 i12 k (F29_ok e0) e1 (F28_ok e2) (F28_ok e3) e4 e5 e6 (F30_ok e7) e8 (F30_ok e9)
          ·
            have h := Option.some.inj h; subst h; exact P15_4 i0 i1 i2 i3 i4 i5 i6 i7 i8 i9 i10 k (F29_ok e0) e1 (F28_ok e2) (F28_ok e3) e4 e5 e6 (F30_ok e7) e8
        ·
          rcases cond_elim h with ⟨e7, h⟩ | ⟨e7, h⟩
          ·
            obtain ⟨⟨i9, i10⟩, e8, h⟩ := bE h
            have h := Option.some.inj h; subst h; exact P15_5 i0 i1 i2 i3 i4 i5 i6 i7 i8 i9 i10 k (F29_ok e0) e1 (F28_ok e2) (F28_ok e3) e4 e5 e6 e7 (F30_ok e8)
          ·
            have h := Option.some.inj h; subst h; exact P15_6 i0 i1 i2 i3 i4 i5 i6 i7 i8 k (F29_ok e0) e1 (F28_ok e2) (F28_ok e3) e4 e5 e6 e7
theorem P11_0 (i0 : Int) (b0 b1 : Bool) (x0 : List V) (o0 : Option Bool) (n0 k : Nat)
    (c0 : cP ((k + 11)) 15 [V.agg [vu 0, vu 10], V.agg [vu 4, vu 2]] = some (V.tup [V.sl o0 b0 n0 x0, vi i0]))
    (c1 : decide (i0 = 0) = true)
    (c2 : cP ((k + 11)) 17 [V.sl o0 b0 n0 x0, V.sl none false 2 [V.agg [vu 0, vu 4], V.agg [vu 6, vu 4]]] = some (V.bool b1)) :
    cP ((k + 12)) 11 [] = some (V.bool b1) :=
  byF (k := k) (d := 12) [Hn.call 6 (V.tup [V.sl o0 b0 n0 x0, vi i0]), Hn.br 11 true, Hn.call 16 (V.bool b1)] (aI c0 (aI c1 (aI c2 trivial))) (by kernel_rfl)
theorem P11_1 (i0 : Int) (b0 : Bool) (x0 : List V) (o0 : Option Bool) (n0 k : Nat)
    (c0 : cP ((k + 11)) 15 [V.agg [vu 0, vu 10], V.agg [vu 4, vu 2]] = some (V.tup [V.sl o0 b0 n0 x0, vi i0]))
    (c1 : decide (i0 = 0) = false) :
    cP ((k + 12)) 11 [] = some (V.bool false) :=
  byF (k := k) (d := 12) [Hn.call 6 (V.tup [V.sl o0 b0 n0 x0, vi i0]), Hn.br 11 false] (aI c0 (aI c1 trivial)) (by kernel_rfl)
def F11 (k : Nat) : Option (Bool) :=
  ((F15 (k + 2) (0) (10) (4) (2)).bind fun (o0, b0, n0, x0, i0) => (bif decide (i0 = 0) then ((F17 (k + 8) (o0) (b0) (n0) (x0) (none) (false) (2) ([V.agg [V.int .u64 0, V.int .u64 4], V.agg [V.int .u64 6, V.int .u64 4]])).bind fun b1 => (some (b1))) else (some (false))))
theorem F11_ok {k : Nat} {r : Bool} (h : F11 k = some r) :
    cP ((k + 12)) 11 [] = some (V.bool r) := by
  unfold F11 at h
  obtain ⟨⟨o0, b0, n0, x0, i0⟩, e0, h⟩ := bE h
  rcases cond_elim h with ⟨e1, h⟩ | ⟨e1, h⟩
  ·
    obtain ⟨b1, e2, h⟩ := bE h
    have h := Option.some.inj h; subst h; exact P11_0 i0 b0 b1 x0 o0 n0 k (F15_ok e0) e1 (F17_ok e2)
  ·
    have h := Option.some.inj h; subst h; exact P11_1 i0 b0 x0 o0 n0 k (F15_ok e0) e1
end Go.Proofs
