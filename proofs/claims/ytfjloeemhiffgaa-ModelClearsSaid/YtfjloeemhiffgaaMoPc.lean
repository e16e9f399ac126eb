/-
  What the reference of the model answers, checked against the program.
-/
import Derived.Test.YtfjloeemhiffgaaMoPb
set_option linter.unusedVariables false
set_option maxHeartbeats 0
set_option maxRecDepth 100000
namespace Go.Proofs
open Go Go.Sym

theorem L116_0_b0 (i0 i1 i2 : Int) (b0 : Bool) (s0 : List UInt8) (x0 : List V) (o0 : Option Bool) (n0 k : Nat)
    (c0 : decide (i0 < (↑x0.length : Int)) = true)
    (c1 : IdxP x0 i0 n0 3 (V.agg [vu i1, vi i2, V.str s0]))
    (c2 : decide (576460752303423488 ≤ i1) = true) :
    eC k 2 0 116 (loopBody Try.f116 0) { tm := [(0, V.sl o0 b0 n0 x0), (2, V.bool false), (5, V.sl o0 b0 n0 x0), (6, vi (↑x0.length : Int)), (7, vi i0)], hp := [], nx := 0 } = some (Exit.ret, { tm := [(0, V.sl o0 b0 n0 x0), (2, V.bool false), (3, vi i0), (4, V.ptr 16 0), (5, V.sl o0 b0 n0 x0), (6, vi (↑x0.length : Int)), (7, vi i0), (8, V.bool true), (29, V.bool true)], hp := [(16, Ob.var [vu i1, vi i2, V.str s0])], nx := 104 }) :=
  byL (k := k) (d := 2) [Hn.br 8 true, Hn.op 10 ((V.agg [vu i1, vi i2, V.str s0]).cpt 0) [], Hn.br 15 true] (aI c0 (aI c1 (aI c2 trivial))) (by kernel_rfl)
theorem L116_0_b1 (i0 i1 i2 i3 i4 : Int) (b0 : Bool) (s0 s1 : List UInt8) (x0 : List V) (o0 : Option Bool) (n0 k : Nat)
    (c0 : decide (i0 < (↑x0.length : Int)) = true)
    (c1 : IdxP x0 i0 n0 3 (V.agg [vu i1, vi i2, V.str s0]))
    (c2 : decide (576460752303423488 ≤ i1) = false)
    (c3 : decide (0 < i0) = true)
    (c4 : IdxP x0 (wI (i0 - 1)) n0 3 (V.agg [vu i3, vi i4, V.str s1]))
    (c5 : decide (i1 ≤ i3) = true) :
    eC k 2 0 116 (loopBody Try.f116 0) { tm := [(0, V.sl o0 b0 n0 x0), (2, V.bool false), (5, V.sl o0 b0 n0 x0), (6, vi (↑x0.length : Int)), (7, vi i0)], hp := [], nx := 0 } = some (Exit.ret, { tm := [(0, V.sl o0 b0 n0 x0), (2, V.bool false), (3, vi i0), (4, V.ptr 16 0), (5, V.sl o0 b0 n0 x0), (6, vi (↑x0.length : Int)), (7, vi i0), (8, V.bool true), (29, V.bool true)], hp := [(16, Ob.var [vu i1, vi i2, V.str s0])], nx := 104 }) :=
  byL (k := k) (d := 2) [Hn.br 8 true, Hn.op 10 ((V.agg [vu i1, vi i2, V.str s0]).cpt 0) [], Hn.br 15 false, Hn.br 18 true, Hn.op 22 ((V.agg [vu i3, vi i4, V.str s1]).cpt 0) [], Hn.br 29 true] (aI c0 (aI c1 (aI c2 (aI c3 (aI c4 (aI c5 trivial)))))) (by kernel_rfl)
theorem L116_0_b2 (i0 i1 i2 i3 i4 : Int) (b0 : Bool) (s0 s1 : List UInt8) (x0 : List V) (o0 : Option Bool) (n0 k : Nat)
    (c0 : decide (i0 < (↑x0.length : Int)) = true)
    (c1 : IdxP x0 i0 n0 3 (V.agg [vu i1, vi i2, V.str s0]))
    (c2 : decide (576460752303423488 ≤ i1) = false)
    (c3 : decide (0 < i0) = true)
    (c4 : IdxP x0 (wI (i0 - 1)) n0 3 (V.agg [vu i3, vi i4, V.str s1]))
    (c5 : decide (i1 ≤ i3) = false)
    (c6 : decide (i2 = 1) = true)
    (c7 : (!decide ((↑s0.length : Int) = 32)) = true) :
    eC k 2 0 116 (loopBody Try.f116 0) { tm := [(0, V.sl o0 b0 n0 x0), (2, V.bool false), (5, V.sl o0 b0 n0 x0), (6, vi (↑x0.length : Int)), (7, vi i0)], hp := [], nx := 0 } = some (Exit.ret, { tm := [(0, V.sl o0 b0 n0 x0), (2, V.bool false), (3, vi i0), (4, V.ptr 16 0), (5, V.sl o0 b0 n0 x0), (6, vi (↑x0.length : Int)), (7, vi i0), (8, V.bool true), (29, V.bool false), (58, V.bool true)], hp := [(16, Ob.var [vu i1, vi i2, V.str s0])], nx := 220 }) :=
  byL (k := k) (d := 2) [Hn.br 8 true, Hn.op 10 ((V.agg [vu i1, vi i2, V.str s0]).cpt 0) [], Hn.br 15 false, Hn.br 18 true, Hn.op 22 ((V.agg [vu i3, vi i4, V.str s1]).cpt 0) [], Hn.br 29 false, Hn.br 33 true, Hn.br 39 true] (aI c0 (aI c1 (aI c2 (aI c3 (aI c4 (aI c5 (aI c6 (aI c7 trivial)))))))) (by kernel_rfl)
theorem L116_0_b3 (i0 i1 i2 i3 i4 : Int) (b0 : Bool) (s0 s1 : List UInt8) (x0 : List V) (o0 : Option Bool) (n0 k : Nat)
    (c0 : decide (i0 < (↑x0.length : Int)) = true)
    (c1 : IdxP x0 i0 n0 3 (V.agg [vu i1, vi i2, V.str s0]))
    (c2 : decide (576460752303423488 ≤ i1) = false)
    (c3 : decide (0 < i0) = true)
    (c4 : IdxP x0 (wI (i0 - 1)) n0 3 (V.agg [vu i3, vi i4, V.str s1]))
    (c5 : decide (i1 ≤ i3) = false)
    (c6 : decide (i2 = 1) = true)
    (c7 : (!decide ((↑s0.length : Int) = 32)) = false)
    (c8 : decide (i2 = 2) = true)
    (c9 : (!decide (s0 = [])) = true) :
    eC k 2 0 116 (loopBody Try.f116 0) { tm := [(0, V.sl o0 b0 n0 x0), (2, V.bool false), (5, V.sl o0 b0 n0 x0), (6, vi (↑x0.length : Int)), (7, vi i0)], hp := [], nx := 0 } = some (Exit.ret, { tm := [(0, V.sl o0 b0 n0 x0), (2, V.bool false), (3, vi i0), (4, V.ptr 16 0), (5, V.sl o0 b0 n0 x0), (6, vi (↑x0.length : Int)), (7, vi i0), (8, V.bool true), (29, V.bool false), (58, V.bool true)], hp := [(16, Ob.var [vu i1, vi i2, V.str s0])], nx := 220 }) :=
  byL (k := k) (d := 2) [Hn.br 8 true, Hn.op 10 ((V.agg [vu i1, vi i2, V.str s0]).cpt 0) [], Hn.br 15 false, Hn.br 18 true, Hn.op 22 ((V.agg [vu i3, vi i4, V.str s1]).cpt 0) [], Hn.br 29 false, Hn.br 33 true, Hn.br 39 false, Hn.br 43 true, Hn.br 49 true] (aI c0 (aI c1 (aI c2 (aI c3 (aI c4 (aI c5 (aI c6 (aI c7 (aI c8 (aI c9 trivial)))))))))) (by kernel_rfl)
theorem L116_0_b4 (i0 i1 i2 i3 i4 : Int) (b0 : Bool) (s0 s1 : List UInt8) (x0 : List V) (o0 : Option Bool) (n0 k : Nat)
    (c0 : decide (i0 < (↑x0.length : Int)) = true)
    (c1 : IdxP x0 i0 n0 3 (V.agg [vu i1, vi i2, V.str s0]))
    (c2 : decide (576460752303423488 ≤ i1) = false)
    (c3 : decide (0 < i0) = true)
    (c4 : IdxP x0 (wI (i0 - 1)) n0 3 (V.agg [vu i3, vi i4, V.str s1]))
    (c5 : decide (i1 ≤ i3) = false)
    (c6 : decide (i2 = 1) = true)
    (c7 : (!decide ((↑s0.length : Int) = 32)) = false)
    (c8 : decide (i2 = 2) = true)
    (c9 : (!decide (s0 = [])) = false)
    (c10 : (!decide (i2 = 1)) = false) :
    eC k 2 0 116 (loopBody Try.f116 0) { tm := [(0, V.sl o0 b0 n0 x0), (2, V.bool false), (5, V.sl o0 b0 n0 x0), (6, vi (↑x0.length : Int)), (7, vi i0)], hp := [], nx := 0 } = some (Exit.normal, { tm := [(0, V.sl o0 b0 n0 x0), (2, V.bool false), (3, vi i0), (4, V.ptr 16 0), (5, V.sl o0 b0 n0 x0), (6, vi (↑x0.length : Int)), (7, vi (wI (i0 + 1))), (8, V.bool true), (29, V.bool false), (58, V.bool false)], hp := [(16, Ob.var [vu i1, vi i2, V.str s0])], nx := 224 }) :=
  byL (k := k) (d := 2) [Hn.br 8 true, Hn.op 10 ((V.agg [vu i1, vi i2, V.str s0]).cpt 0) [], Hn.br 15 false, Hn.br 18 true, Hn.op 22 ((V.agg [vu i3, vi i4, V.str s1]).cpt 0) [], Hn.br 29 false, Hn.br 33 true, Hn.br 39 false, Hn.br 43 true, Hn.br 49 false, Hn.br 52 false] (aI c0 (aI c1 (aI c2 (aI c3 (aI c4 (aI c5 (aI c6 (aI c7 (aI c8 (aI c9 (aI c10 trivial))))))))))) (by kernel_rfl)
theorem L116_0_b4h (i0 i1 i2 : Int) (b0 : Bool) (s0 : List UInt8) (x0 : List V) (o0 : Option Bool) (n0 : Nat) : head 0 [0, 2, 5, 6, 7] (Try.cfg.fc 116).acc { tm := [(0, V.sl o0 b0 n0 x0), (2, V.bool false), (3, vi i0), (4, V.ptr 16 0), (5, V.sl o0 b0 n0 x0), (6, vi (↑x0.length : Int)), (7, vi (wI (i0 + 1))), (8, V.bool true), (29, V.bool false), (58, V.bool false)], hp := [(16, Ob.var [vu i1, vi i2, V.str s0])], nx := 224 } = { tm := [(0, V.sl o0 b0 n0 x0), (2, V.bool false), (5, V.sl o0 b0 n0 x0), (6, vi (↑x0.length : Int)), (7, vi (wI (i0 + 1)))], hp := [], nx := 0 } := by kernel_rfl
theorem L116_0_b5 (i0 i1 i2 i3 i4 : Int) (b0 : Bool) (s0 s1 : List UInt8) (x0 : List V) (o0 : Option Bool) (n0 k : Nat)
    (c0 : decide (i0 < (↑x0.length : Int)) = true)
    (c1 : IdxP x0 i0 n0 3 (V.agg [vu i1, vi i2, V.str s0]))
    (c2 : decide (576460752303423488 ≤ i1) = false)
    (c3 : decide (0 < i0) = true)
    (c4 : IdxP x0 (wI (i0 - 1)) n0 3 (V.agg [vu i3, vi i4, V.str s1]))
    (c5 : decide (i1 ≤ i3) = false)
    (c6 : decide (i2 = 1) = true)
    (c7 : (!decide ((↑s0.length : Int) = 32)) = false)
    (c8 : decide (i2 = 2) = false)
    (c9 : (!decide (i2 = 1)) = false) :
    eC k 2 0 116 (loopBody Try.f116 0) { tm := [(0, V.sl o0 b0 n0 x0), (2, V.bool false), (5, V.sl o0 b0 n0 x0), (6, vi (↑x0.length : Int)), (7, vi i0)], hp := [], nx := 0 } = some (Exit.normal, { tm := [(0, V.sl o0 b0 n0 x0), (2, V.bool false), (3, vi i0), (4, V.ptr 16 0), (5, V.sl o0 b0 n0 x0), (6, vi (↑x0.length : Int)), (7, vi (wI (i0 + 1))), (8, V.bool true), (29, V.bool false), (58, V.bool false)], hp := [(16, Ob.var [vu i1, vi i2, V.str s0])], nx := 224 }) :=
  byL (k := k) (d := 2) [Hn.br 8 true, Hn.op 10 ((V.agg [vu i1, vi i2, V.str s0]).cpt 0) [], Hn.br 15 false, Hn.br 18 true, Hn.op 22 ((V.agg [vu i3, vi i4, V.str s1]).cpt 0) [], Hn.br 29 false, Hn.br 33 true, Hn.br 39 false, Hn.br 43 false, Hn.br 52 false] (aI c0 (aI c1 (aI c2 (aI c3 (aI c4 (aI c5 (aI c6 (aI c7 (aI c8 (aI c9 trivial)))))))))) (by kernel_rfl)
theorem L116_0_b5h (i0 i1 i2 : Int) (b0 : Bool) (s0 : List UInt8) (x0 : List V) (o0 : Option Bool) (n0 : Nat) : head 0 [0, 2, 5, 6, 7] (Try.cfg.fc 116).acc { tm := [(0, V.sl o0 b0 n0 x0), (2, V.bool false), (3, vi i0), (4, V.ptr 16 0), (5, V.sl o0 b0 n0 x0), (6, vi (↑x0.length : Int)), (7, vi (wI (i0 + 1))), (8, V.bool true), (29, V.bool false), (58, V.bool false)], hp := [(16, Ob.var [vu i1, vi i2, V.str s0])], nx := 224 } = { tm := [(0, V.sl o0 b0 n0 x0), (2, V.bool false), (5, V.sl o0 b0 n0 x0), (6, vi (↑x0.length : Int)), (7, vi (wI (i0 + 1)))], hp := [], nx := 0 } := by kernel_rfl
theorem L116_0_b6 (i0 i1 i2 i3 i4 : Int) (b0 : Bool) (s0 s1 : List UInt8) (x0 : List V) (o0 : Option Bool) (n0 k : Nat)
    (c0 : decide (i0 < (↑x0.length : Int)) = true)
    (c1 : IdxP x0 i0 n0 3 (V.agg [vu i1, vi i2, V.str s0]))
    (c2 : decide (576460752303423488 ≤ i1) = false)
    (c3 : decide (0 < i0) = true)
    (c4 : IdxP x0 (wI (i0 - 1)) n0 3 (V.agg [vu i3, vi i4, V.str s1]))
    (c5 : decide (i1 ≤ i3) = false)
    (c6 : decide (i2 = 1) = false)
    (c7 : decide (i2 = 2) = true)
    (c8 : (!decide (s0 = [])) = true) :
    eC k 2 0 116 (loopBody Try.f116 0) { tm := [(0, V.sl o0 b0 n0 x0), (2, V.bool false), (5, V.sl o0 b0 n0 x0), (6, vi (↑x0.length : Int)), (7, vi i0)], hp := [], nx := 0 } = some (Exit.ret, { tm := [(0, V.sl o0 b0 n0 x0), (2, V.bool false), (3, vi i0), (4, V.ptr 16 0), (5, V.sl o0 b0 n0 x0), (6, vi (↑x0.length : Int)), (7, vi i0), (8, V.bool true), (29, V.bool false), (58, V.bool true)], hp := [(16, Ob.var [vu i1, vi i2, V.str s0])], nx := 220 }) :=
  byL (k := k) (d := 2) [Hn.br 8 true, Hn.op 10 ((V.agg [vu i1, vi i2, V.str s0]).cpt 0) [], Hn.br 15 false, Hn.br 18 true, Hn.op 22 ((V.agg [vu i3, vi i4, V.str s1]).cpt 0) [], Hn.br 29 false, Hn.br 33 false, Hn.br 43 true, Hn.br 49 true] (aI c0 (aI c1 (aI c2 (aI c3 (aI c4 (aI c5 (aI c6 (aI c7 (aI c8 trivial))))))))) (by kernel_rfl)
theorem L116_0_b7 (i0 i1 i2 i3 i4 : Int) (b0 : Bool) (s0 s1 : List UInt8) (x0 : List V) (o0 : Option Bool) (n0 k : Nat)
    (c0 : decide (i0 < (↑x0.length : Int)) = true)
    (c1 : IdxP x0 i0 n0 3 (V.agg [vu i1, vi i2, V.str s0]))
    (c2 : decide (576460752303423488 ≤ i1) = false)
    (c3 : decide (0 < i0) = true)
    (c4 : IdxP x0 (wI (i0 - 1)) n0 3 (V.agg [vu i3, vi i4, V.str s1]))
    (c5 : decide (i1 ≤ i3) = false)
    (c6 : decide (i2 = 1) = false)
    (c7 : decide (i2 = 2) = true)
    (c8 : (!decide (s0 = [])) = false)
    (c9 : (!decide (i2 = 1)) = true)
    (c10 : (!decide (i2 = 2)) = false) :
    eC k 2 0 116 (loopBody Try.f116 0) { tm := [(0, V.sl o0 b0 n0 x0), (2, V.bool false), (5, V.sl o0 b0 n0 x0), (6, vi (↑x0.length : Int)), (7, vi i0)], hp := [], nx := 0 } = some (Exit.normal, { tm := [(0, V.sl o0 b0 n0 x0), (2, V.bool false), (3, vi i0), (4, V.ptr 16 0), (5, V.sl o0 b0 n0 x0), (6, vi (↑x0.length : Int)), (7, vi (wI (i0 + 1))), (8, V.bool true), (29, V.bool false), (58, V.bool false)], hp := [(16, Ob.var [vu i1, vi i2, V.str s0])], nx := 224 }) :=
  byL (k := k) (d := 2) [Hn.br 8 true, Hn.op 10 ((V.agg [vu i1, vi i2, V.str s0]).cpt 0) [], Hn.br 15 false, Hn.br 18 true, Hn.op 22 ((V.agg [vu i3, vi i4, V.str s1]).cpt 0) [], Hn.br 29 false, Hn.br 33 false, Hn.br 43 true, Hn.br 49 false, Hn.br 52 true, Hn.br 56 false] (aI c0 (aI c1 (aI c2 (aI c3 (aI c4 (aI c5 (aI c6 (aI c7 (aI c8 (aI c9 (aI c10 trivial))))))))))) (by kernel_rfl)
theorem L116_0_b7h (i0 i1 i2 : Int) (b0 : Bool) (s0 : List UInt8) (x0 : List V) (o0 : Option Bool) (n0 : Nat) : head 0 [0, 2, 5, 6, 7] (Try.cfg.fc 116).acc { tm := [(0, V.sl o0 b0 n0 x0), (2, V.bool false), (3, vi i0), (4, V.ptr 16 0), (5, V.sl o0 b0 n0 x0), (6, vi (↑x0.length : Int)), (7, vi (wI (i0 + 1))), (8, V.bool true), (29, V.bool false), (58, V.bool false)], hp := [(16, Ob.var [vu i1, vi i2, V.str s0])], nx := 224 } = { tm := [(0, V.sl o0 b0 n0 x0), (2, V.bool false), (5, V.sl o0 b0 n0 x0), (6, vi (↑x0.length : Int)), (7, vi (wI (i0 + 1)))], hp := [], nx := 0 } := by kernel_rfl
theorem L116_0_b8 (i0 i1 i2 i3 i4 : Int) (b0 : Bool) (s0 s1 : List UInt8) (x0 : List V) (o0 : Option Bool) (n0 k : Nat)
    (c0 : decide (i0 < (↑x0.length : Int)) = true)
    (c1 : IdxP x0 i0 n0 3 (V.agg [vu i1, vi i2, V.str s0]))
    (c2 : decide (576460752303423488 ≤ i1) = false)
    (c3 : decide (0 < i0) = true)
    (c4 : IdxP x0 (wI (i0 - 1)) n0 3 (V.agg [vu i3, vi i4, V.str s1]))
    (c5 : decide (i1 ≤ i3) = false)
    (c6 : decide (i2 = 1) = false)
    (c7 : decide (i2 = 2) = false)
    (c8 : (!decide (i2 = 1)) = true)
    (c9 : (!decide (i2 = 2)) = true) :
    eC k 2 0 116 (loopBody Try.f116 0) { tm := [(0, V.sl o0 b0 n0 x0), (2, V.bool false), (5, V.sl o0 b0 n0 x0), (6, vi (↑x0.length : Int)), (7, vi i0)], hp := [], nx := 0 } = some (Exit.ret, { tm := [(0, V.sl o0 b0 n0 x0), (2, V.bool false), (3, vi i0), (4, V.ptr 16 0), (5, V.sl o0 b0 n0 x0), (6, vi (↑x0.length : Int)), (7, vi i0), (8, V.bool true), (29, V.bool false), (58, V.bool true)], hp := [(16, Ob.var [vu i1, vi i2, V.str s0])], nx := 220 }) :=
  byL (k := k) (d := 2) [Hn.br 8 true, Hn.op 10 ((V.agg [vu i1, vi i2, V.str s0]).cpt 0) [], Hn.br 15 false, Hn.br 18 true, Hn.op 22 ((V.agg [vu i3, vi i4, V.str s1]).cpt 0) [], Hn.br 29 false, Hn.br 33 false, Hn.br 43 false, Hn.br 52 true, Hn.br 56 true] (aI c0 (aI c1 (aI c2 (aI c3 (aI c4 (aI c5 (aI c6 (aI c7 (aI c8 (aI c9 trivial)))))))))) (by kernel_rfl)
theorem L116_0_b9 (i0 i1 i2 : Int) (b0 : Bool) (s0 : List UInt8) (x0 : List V) (o0 : Option Bool) (n0 k : Nat)
    (c0 : decide (i0 < (↑x0.length : Int)) = true)
    (c1 : IdxP x0 i0 n0 3 (V.agg [vu i1, vi i2, V.str s0]))
    (c2 : decide (576460752303423488 ≤ i1) = false)
    (c3 : decide (0 < i0) = false)
    (c4 : decide (i2 = 1) = true)
    (c5 : (!decide ((↑s0.length : Int) = 32)) = true) :
    eC k 2 0 116 (loopBody Try.f116 0) { tm := [(0, V.sl o0 b0 n0 x0), (2, V.bool false), (5, V.sl o0 b0 n0 x0), (6, vi (↑x0.length : Int)), (7, vi i0)], hp := [], nx := 0 } = some (Exit.ret, { tm := [(0, V.sl o0 b0 n0 x0), (2, V.bool false), (3, vi i0), (4, V.ptr 16 0), (5, V.sl o0 b0 n0 x0), (6, vi (↑x0.length : Int)), (7, vi i0), (8, V.bool true), (29, V.bool false), (58, V.bool true)], hp := [(16, Ob.var [vu i1, vi i2, V.str s0])], nx := 220 }) :=
  byL (k := k) (d := 2) [Hn.br 8 true, Hn.op 10 ((V.agg [vu i1, vi i2, V.str s0]).cpt 0) [], Hn.br 15 false, Hn.br 18 false, Hn.br 33 true, Hn.br 39 true] (aI c0 (aI c1 (aI c2 (aI c3 (aI c4 (aI c5 trivial)))))) (by kernel_rfl)
theorem L116_0_b10 (i0 i1 i2 : Int) (b0 : Bool) (s0 : List UInt8) (x0 : List V) (o0 : Option Bool) (n0 k : Nat)
    (c0 : decide (i0 < (↑x0.length : Int)) = true)
    (c1 : IdxP x0 i0 n0 3 (V.agg [vu i1, vi i2, V.str s0]))
    (c2 : decide (576460752303423488 ≤ i1) = false)
    (c3 : decide (0 < i0) = false)
    (c4 : decide (i2 = 1) = true)
    (c5 : (!decide ((↑s0.length : Int) = 32)) = false)
    (c6 : decide (i2 = 2) = true)
    (c7 : (!decide (s0 = [])) = true) :
    eC k 2 0 116 (loopBody Try.f116 0) { tm := [(0, V.sl o0 b0 n0 x0), (2, V.bool false), (5, V.sl o0 b0 n0 x0), (6, vi (↑x0.length : Int)), (7, vi i0)], hp := [], nx := 0 } = some (Exit.ret, { tm := [(0, V.sl o0 b0 n0 x0), (2, V.bool false), (3, vi i0), (4, V.ptr 16 0), (5, V.sl o0 b0 n0 x0), (6, vi (↑x0.length : Int)), (7, vi i0), (8, V.bool true), (29, V.bool false), (58, V.bool true)], hp := [(16, Ob.var [vu i1, vi i2, V.str s0])], nx := 220 }) :=
  byL (k := k) (d := 2) [Hn.br 8 true, Hn.op 10 ((V.agg [vu i1, vi i2, V.str s0]).cpt 0) [], Hn.br 15 false, Hn.br 18 false, Hn.br 33 true, Hn.br 39 false, Hn.br 43 true, Hn.br 49 true] (aI c0 (aI c1 (aI c2 (aI c3 (aI c4 (aI c5 (aI c6 (aI c7 trivial)))))))) (by kernel_rfl)
theorem L116_0_b11 (i0 i1 i2 : Int) (b0 : Bool) (s0 : List UInt8) (x0 : List V) (o0 : Option Bool) (n0 k : Nat)
    (c0 : decide (i0 < (↑x0.length : Int)) = true)
    (c1 : IdxP x0 i0 n0 3 (V.agg [vu i1, vi i2, V.str s0]))
    (c2 : decide (576460752303423488 ≤ i1) = false)
    (c3 : decide (0 < i0) = false)
    (c4 : decide (i2 = 1) = true)
    (c5 : (!decide ((↑s0.length : Int) = 32)) = false)
    (c6 : decide (i2 = 2) = true)
    (c7 : (!decide (s0 = [])) = false)
    (c8 : (!decide (i2 = 1)) = false) :
    eC k 2 0 116 (loopBody Try.f116 0) { tm := [(0, V.sl o0 b0 n0 x0), (2, V.bool false), (5, V.sl o0 b0 n0 x0), (6, vi (↑x0.length : Int)), (7, vi i0)], hp := [], nx := 0 } = some (Exit.normal, { tm := [(0, V.sl o0 b0 n0 x0), (2, V.bool false), (3, vi i0), (4, V.ptr 16 0), (5, V.sl o0 b0 n0 x0), (6, vi (↑x0.length : Int)), (7, vi (wI (i0 + 1))), (8, V.bool true), (29, V.bool false), (58, V.bool false)], hp := [(16, Ob.var [vu i1, vi i2, V.str s0])], nx := 224 }) :=
  byL (k := k) (d := 2) [Hn.br 8 true, Hn.op 10 ((V.agg [vu i1, vi i2, V.str s0]).cpt 0) [], Hn.br 15 false, Hn.br 18 false, Hn.br 33 true, Hn.br 39 false, Hn.br 43 true, Hn.br 49 false, Hn.br 52 false] (aI c0 (aI c1 (aI c2 (aI c3 (aI c4 (aI c5 (aI c6 (aI c7 (aI c8 trivial))))))))) (by kernel_rfl)
theorem L116_0_b11h (i0 i1 i2 : Int) (b0 : Bool) (s0 : List UInt8) (x0 : List V) (o0 : Option Bool) (n0 : Nat) : head 0 [0, 2, 5, 6, 7] (Try.cfg.fc 116).acc { tm := [(0, V.sl o0 b0 n0 x0), (2, V.bool false), (3, vi i0), (4, V.ptr 16 0), (5, V.sl o0 b0 n0 x0), (6, vi (↑x0.length : Int)), (7, vi (wI (i0 + 1))), (8, V.bool true), (29, V.bool false), (58, V.bool false)], hp := [(16, Ob.var [vu i1, vi i2, V.str s0])], nx := 224 } = { tm := [(0, V.sl o0 b0 n0 x0), (2, V.bool false), (5, V.sl o0 b0 n0 x0), (6, vi (↑x0.length : Int)), (7, vi (wI (i0 + 1)))], hp := [], nx := 0 } := by kernel_rfl
theorem L116_0_b12 (i0 i1 i2 : Int) (b0 : Bool) (s0 : List UInt8) (x0 : List V) (o0 : Option Bool) (n0 k : Nat)
    (c0 : decide (i0 < (↑x0.length : Int)) = true)
    (c1 : IdxP x0 i0 n0 3 (V.agg [vu i1, vi i2, V.str s0]))
    (c2 : decide (576460752303423488 ≤ i1) = false)
    (c3 : decide (0 < i0) = false)
    (c4 : decide (i2 = 1) = true)
    (c5 : (!decide ((↑s0.length : Int) = 32)) = false)
    (c6 : decide (i2 = 2) = false)
    (c7 : (!decide (i2 = 1)) = false) :
    eC k 2 0 116 (loopBody Try.f116 0) { tm := [(0, V.sl o0 b0 n0 x0), (2, V.bool false), (5, V.sl o0 b0 n0 x0), (6, vi (↑x0.length : Int)), (7, vi i0)], hp := [], nx := 0 } = some (Exit.normal, { tm := [(0, V.sl o0 b0 n0 x0), (2, V.bool false), (3, vi i0), (4, V.ptr 16 0), (5, V.sl o0 b0 n0 x0), (6, vi (↑x0.length : Int)), (7, vi (wI (i0 + 1))), (8, V.bool true), (29, V.bool false), (58, V.bool false)], hp := [(16, Ob.var [vu i1, vi i2, V.str s0])], nx := 224 }) :=
  byL (k := k) (d := 2) [Hn.br 8 true, Hn.op 10 ((V.agg [vu i1, vi i2, V.str s0]).cpt 0) [], Hn.br 15 false, Hn.br 18 false, Hn.br 33 true, Hn.br 39 false, Hn.br 43 false, Hn.br 52 false] (aI c0 (aI c1 (aI c2 (aI c3 (aI c4 (aI c5 (aI c6 (aI c7 trivial)))))))) (by kernel_rfl)
theorem L116_0_b12h (i0 i1 i2 : Int) (b0 : Bool) (s0 : List UInt8) (x0 : List V) (o0 : Option Bool) (n0 : Nat) : head 0 [0, 2, 5, 6, 7] (Try.cfg.fc 116).acc { tm := [(0, V.sl o0 b0 n0 x0), (2, V.bool false), (3, vi i0), (4, V.ptr 16 0), (5, V.sl o0 b0 n0 x0), (6, vi (↑x0.length : Int)), (7, vi (wI (i0 + 1))), (8, V.bool true), (29, V.bool false), (58, V.bool false)], hp := [(16, Ob.var [vu i1, vi i2, V.str s0])], nx := 224 } = { tm := [(0, V.sl o0 b0 n0 x0), (2, V.bool false), (5, V.sl o0 b0 n0 x0), (6, vi (↑x0.length : Int)), (7, vi (wI (i0 + 1)))], hp := [], nx := 0 } := by kernel_rfl
theorem L116_0_b13 (i0 i1 i2 : Int) (b0 : Bool) (s0 : List UInt8) (x0 : List V) (o0 : Option Bool) (n0 k : Nat)
    (c0 : decide (i0 < (↑x0.length : Int)) = true)
    (c1 : IdxP x0 i0 n0 3 (V.agg [vu i1, vi i2, V.str s0]))
    (c2 : decide (576460752303423488 ≤ i1) = false)
    (c3 : decide (0 < i0) = false)
    (c4 : decide (i2 = 1) = false)
    (c5 : decide (i2 = 2) = true)
    (c6 : (!decide (s0 = [])) = true) :
    eC k 2 0 116 (loopBody Try.f116 0) { tm := [(0, V.sl o0 b0 n0 x0), (2, V.bool false), (5, V.sl o0 b0 n0 x0), (6, vi (↑x0.length : Int)), (7, vi i0)], hp := [], nx := 0 } = some (Exit.ret, { tm := [(0, V.sl o0 b0 n0 x0), (2, V.bool false), (3, vi i0), (4, V.ptr 16 0), (5, V.sl o0 b0 n0 x0), (6, vi (↑x0.length : Int)), (7, vi i0), (8, V.bool true), (29, V.bool false), (58, V.bool true)], hp := [(16, Ob.var [vu i1, vi i2, V.str s0])], nx := 220 }) :=
  byL (k := k) (d := 2) [Hn.br 8 true, Hn.op 10 ((V.agg [vu i1, vi i2, V.str s0]).cpt 0) [], Hn.br 15 false, Hn.br 18 false, Hn.br 33 false, Hn.br 43 true, Hn.br 49 true] (aI c0 (aI c1 (aI c2 (aI c3 (aI c4 (aI c5 (aI c6 trivial))))))) (by kernel_rfl)
theorem L116_0_b14 (i0 i1 i2 : Int) (b0 : Bool) (s0 : List UInt8) (x0 : List V) (o0 : Option Bool) (n0 k : Nat)
    (c0 : decide (i0 < (↑x0.length : Int)) = true)
    (c1 : IdxP x0 i0 n0 3 (V.agg [vu i1, vi i2, V.str s0]))
    (c2 : decide (576460752303423488 ≤ i1) = false)
    (c3 : decide (0 < i0) = false)
    (c4 : decide (i2 = 1) = false)
    (c5 : decide (i2 = 2) = true)
    (c6 : (!decide (s0 = [])) = false)
    (c7 : (!decide (i2 = 1)) = true)
    (c8 : (!decide (i2 = 2)) = false) :
    eC k 2 0 116 (loopBody Try.f116 0) { tm := [(0, V.sl o0 b0 n0 x0), (2, V.bool false), (5, V.sl o0 b0 n0 x0), (6, vi (↑x0.length : Int)), (7, vi i0)], hp := [], nx := 0 } = some (Exit.normal, { tm := [(0, V.sl o0 b0 n0 x0), (2, V.bool false), (3, vi i0), (4, V.ptr 16 0), (5, V.sl o0 b0 n0 x0), (6, vi (↑x0.length : Int)), (7, vi (wI (i0 + 1))), (8, V.bool true), (29, V.bool false), (58, V.bool false)], hp := [(16, Ob.var [vu i1, vi i2, V.str s0])], nx := 224 }) :=
  byL (k := k) (d := 2) [Hn.br 8 true, Hn.op 10 ((V.agg [vu i1, vi i2, V.str s0]).cpt 0) [], Hn.br 15 false, Hn.br 18 false, Hn.br 33 false, Hn.br 43 true, Hn.br 49 false, Hn.br 52 true, Hn.br 56 false] (aI c0 (aI c1 (aI c2 (aI c3 (aI c4 (aI c5 (aI c6 (aI c7 (aI c8 trivial))))))))) (by kernel_rfl)
theorem L116_0_b14h (i0 i1 i2 : Int) (b0 : Bool) (s0 : List UInt8) (x0 : List V) (o0 : Option Bool) (n0 : Nat) : head 0 [0, 2, 5, 6, 7] (Try.cfg.fc 116).acc { tm := [(0, V.sl o0 b0 n0 x0), (2, V.bool false), (3, vi i0), (4, V.ptr 16 0), (5, V.sl o0 b0 n0 x0), (6, vi (↑x0.length : Int)), (7, vi (wI (i0 + 1))), (8, V.bool true), (29, V.bool false), (58, V.bool false)], hp := [(16, Ob.var [vu i1, vi i2, V.str s0])], nx := 224 } = { tm := [(0, V.sl o0 b0 n0 x0), (2, V.bool false), (5, V.sl o0 b0 n0 x0), (6, vi (↑x0.length : Int)), (7, vi (wI (i0 + 1)))], hp := [], nx := 0 } := by kernel_rfl
theorem L116_0_b15 (i0 i1 i2 : Int) (b0 : Bool) (s0 : List UInt8) (x0 : List V) (o0 : Option Bool) (n0 k : Nat)
    (c0 : decide (i0 < (↑x0.length : Int)) = true)
    (c1 : IdxP x0 i0 n0 3 (V.agg [vu i1, vi i2, V.str s0]))
    (c2 : decide (576460752303423488 ≤ i1) = false)
    (c3 : decide (0 < i0) = false)
    (c4 : decide (i2 = 1) = false)
    (c5 : decide (i2 = 2) = false)
    (c6 : (!decide (i2 = 1)) = true)
    (c7 : (!decide (i2 = 2)) = true) :
    eC k 2 0 116 (loopBody Try.f116 0) { tm := [(0, V.sl o0 b0 n0 x0), (2, V.bool false), (5, V.sl o0 b0 n0 x0), (6, vi (↑x0.length : Int)), (7, vi i0)], hp := [], nx := 0 } = some (Exit.ret, { tm := [(0, V.sl o0 b0 n0 x0), (2, V.bool false), (3, vi i0), (4, V.ptr 16 0), (5, V.sl o0 b0 n0 x0), (6, vi (↑x0.length : Int)), (7, vi i0), (8, V.bool true), (29, V.bool false), (58, V.bool true)], hp := [(16, Ob.var [vu i1, vi i2, V.str s0])], nx := 220 }) :=
  byL (k := k) (d := 2) [Hn.br 8 true, Hn.op 10 ((V.agg [vu i1, vi i2, V.str s0]).cpt 0) [], Hn.br 15 false, Hn.br 18 false, Hn.br 33 false, Hn.br 43 false, Hn.br 52 true, Hn.br 56 true] (aI c0 (aI c1 (aI c2 (aI c3 (aI c4 (aI c5 (aI c6 (aI c7 trivial)))))))) (by kernel_rfl)
theorem L116_0_b16 (i0 : Int) (b0 : Bool) (x0 : List V) (o0 : Option Bool) (n0 k : Nat)
    (c0 : decide (i0 < (↑x0.length : Int)) = false) :
    eC k 2 0 116 (loopBody Try.f116 0) { tm := [(0, V.sl o0 b0 n0 x0), (2, V.bool false), (5, V.sl o0 b0 n0 x0), (6, vi (↑x0.length : Int)), (7, vi i0)], hp := [], nx := 0 } = some (Exit.exit 0, { tm := [(0, V.sl o0 b0 n0 x0), (2, V.bool false), (5, V.sl o0 b0 n0 x0), (6, vi (↑x0.length : Int)), (7, vi i0), (8, V.bool false)], hp := [], nx := 4 }) :=
  byL (k := k) (d := 2) [Hn.br 8 false] (aI c0 trivial) (by kernel_rfl)
inductive L116_0_R where
  | e0 (i0 : Int) (i1 : Int) (i2 : Int) (s0 : List UInt8)
  | e1 (i0 : Int) (i1 : Int) (i2 : Int) (s0 : List UInt8)
  | e2 (i0 : Int) (i1 : Int) (i2 : Int) (s0 : List UInt8)
  | e3 (i0 : Int) (i1 : Int) (i2 : Int) (s0 : List UInt8)
  | e4 (i0 : Int) (i1 : Int) (i2 : Int) (s0 : List UInt8)
  | e5 (i0 : Int) (i1 : Int) (i2 : Int) (s0 : List UInt8)
  | e6 (i0 : Int) (i1 : Int) (i2 : Int) (s0 : List UInt8)
  | e7 (i0 : Int) (i1 : Int) (i2 : Int) (s0 : List UInt8)
  | e8 (i0 : Int) (i1 : Int) (i2 : Int) (s0 : List UInt8)
  | e9 (i0 : Int) (i1 : Int) (i2 : Int) (s0 : List UInt8)
  | e10 (i0 : Int)
noncomputable def L116_0_end (b0 : Bool) (x0 : List V) (o0 : Option Bool) (n0 : Nat) : L116_0_R → Exit × St
  | .e0 i0 i1 i2 s0 => (Exit.ret, { tm := [(0, V.sl o0 b0 n0 x0), (2, V.bool false), (3, V.int .i64 i0), (4, V.ptr 16 0), (5, V.sl o0 b0 n0 x0), (6, V.int .i64 (↑x0.length : Int)), (7, V.int .i64 i0), (8, V.bool true), (29, V.bool true)], hp := [(16, Ob.var [V.int .u64 i1, V.int .i64 i2, V.str s0])], nx := 104 })
  | .e1 i0 i1 i2 s0 => (Exit.ret, { tm := [(0, V.sl o0 b0 n0 x0), (2, V.bool false), (3, V.int .i64 i0), (4, V.ptr 16 0), (5, V.sl o0 b0 n0 x0), (6, V.int .i64 (↑x0.length : Int)), (7, V.int .i64 i0), (8, V.bool true), (29, V.bool true)], hp := [(16, Ob.var [V.int .u64 i1, V.int .i64 i2, V.str s0])], nx := 104 })
  | .e2 i0 i1 i2 s0 => (Exit.ret, { tm := [(0, V.sl o0 b0 n0 x0), (2, V.bool false), (3, V.int .i64 i0), (4, V.ptr 16 0), (5, V.sl o0 b0 n0 x0), (6, V.int .i64 (↑x0.length : Int)), (7, V.int .i64 i0), (8, V.bool true), (29, V.bool false), (58, V.bool true)], hp := [(16, Ob.var [V.int .u64 i1, V.int .i64 i2, V.str s0])], nx := 220 })
  | .e3 i0 i1 i2 s0 => (Exit.ret, { tm := [(0, V.sl o0 b0 n0 x0), (2, V.bool false), (3, V.int .i64 i0), (4, V.ptr 16 0), (5, V.sl o0 b0 n0 x0), (6, V.int .i64 (↑x0.length : Int)), (7, V.int .i64 i0), (8, V.bool true), (29, V.bool false), (58, V.bool true)], hp := [(16, Ob.var [V.int .u64 i1, V.int .i64 i2, V.str s0])], nx := 220 })
  | .e4 i0 i1 i2 s0 => (Exit.ret, { tm := [(0, V.sl o0 b0 n0 x0), (2, V.bool false), (3, V.int .i64 i0), (4, V.ptr 16 0), (5, V.sl o0 b0 n0 x0), (6, V.int .i64 (↑x0.length : Int)), (7, V.int .i64 i0), (8, V.bool true), (29, V.bool false), (58, V.bool true)], hp := [(16, Ob.var [V.int .u64 i1, V.int .i64 i2, V.str s0])], nx := 220 })
  | .e5 i0 i1 i2 s0 => (Exit.ret, { tm := [(0, V.sl o0 b0 n0 x0), (2, V.bool false), (3, V.int .i64 i0), (4, V.ptr 16 0), (5, V.sl o0 b0 n0 x0), (6, V.int .i64 (↑x0.length : Int)), (7, V.int .i64 i0), (8, V.bool true), (29, V.bool false), (58, V.bool true)], hp := [(16, Ob.var [V.int .u64 i1, V.int .i64 i2, V.str s0])], nx := 220 })
  | .e6 i0 i1 i2 s0 => (Exit.ret, { tm := [(0, V.sl o0 b0 n0 x0), (2, V.bool false), (3, V.int .i64 i0), (4, V.ptr 16 0), (5, V.sl o0 b0 n0 x0), (6, V.int .i64 (↑x0.length : Int)), (7, V.int .i64 i0), (8, V.bool true), (29, V.bool false), (58, V.bool true)], hp := [(16, Ob.var [V.int .u64 i1, V.int .i64 i2, V.str s0])], nx := 220 })
  | .e7 i0 i1 i2 s0 => (Exit.ret, { tm := [(0, V.sl o0 b0 n0 x0), (2, V.bool false), (3, V.int .i64 i0), (4, V.ptr 16 0), (5, V.sl o0 b0 n0 x0), (6, V.int .i64 (↑x0.length : Int)), (7, V.int .i64 i0), (8, V.bool true), (29, V.bool false), (58, V.bool true)], hp := [(16, Ob.var [V.int .u64 i1, V.int .i64 i2, V.str s0])], nx := 220 })
  | .e8 i0 i1 i2 s0 => (Exit.ret, { tm := [(0, V.sl o0 b0 n0 x0), (2, V.bool false), (3, V.int .i64 i0), (4, V.ptr 16 0), (5, V.sl o0 b0 n0 x0), (6, V.int .i64 (↑x0.length : Int)), (7, V.int .i64 i0), (8, V.bool true), (29, V.bool false), (58, V.bool true)], hp := [(16, Ob.var [V.int .u64 i1, V.int .i64 i2, V.str s0])], nx := 220 })
  | .e9 i0 i1 i2 s0 => (Exit.ret, { tm := [(0, V.sl o0 b0 n0 x0), (2, V.bool false), (3, V.int .i64 i0), (4, V.ptr 16 0), (5, V.sl o0 b0 n0 x0), (6, V.int .i64 (↑x0.length : Int)), (7, V.int .i64 i0), (8, V.bool true), (29, V.bool false), (58, V.bool true)], hp := [(16, Ob.var [V.int .u64 i1, V.int .i64 i2, V.str s0])], nx := 220 })
  | .e10 i0 => (Exit.exit 0, { tm := [(0, V.sl o0 b0 n0 x0), (2, V.bool false), (5, V.sl o0 b0 n0 x0), (6, V.int .i64 (↑x0.length : Int)), (7, V.int .i64 i0), (8, V.bool false)], hp := [], nx := 4 })
def L116_0 (k : Nat) (b0 : Bool) (x0 : List V) (o0 : Option Bool) (n0 : Nat) : Nat → Int → Option L116_0_R
  | 0, _ => none
  | f + 1, i0 => (bif decide (i0 < (↑x0.length : Int)) then (guardP (n0 = (3 : Nat)) (((at? (x0) (i0)).bind dAu64i64sZ).bind fun (i1, i2, s0) => (bif decide (576460752303423488 ≤ i1) then (some (L116_0_R.e0 i0 i1 i2 s0)) else (bif decide (0 < i0) then (((at? (x0) (IntKind.i64.wrap (i0 - 1))).bind dAu64i64sZ).bind fun (i3, i4, s1) => (bif decide (i1 ≤ i3) then (some (L116_0_R.e1 i0 i1 i2 s0)) else (bif decide (i2 = 1) then (bif !decide ((↑s0.length : Int) = 32) then (some (L116_0_R.e2 i0 i1 i2 s0)) else (bif decide (i2 = 2) then (bif !decide (s0 = []) then (some (L116_0_R.e3 i0 i1 i2 s0)) else (L116_0 k b0 x0 o0 n0 f (IntKind.i64.wrap (i0 + 1)))) else (L116_0 k b0 x0 o0 n0 f (IntKind.i64.wrap (i0 + 1))))) else (bif decide (i2 = 2) then (bif !decide (s0 = []) then (some (L116_0_R.e4 i0 i1 i2 s0)) else (L116_0 k b0 x0 o0 n0 f (IntKind.i64.wrap (i0 + 1)))) else (some (L116_0_R.e5 i0 i1 i2 s0)))))) else (bif decide (i2 = 1) then (bif !decide ((↑s0.length : Int) = 32) then (some (L116_0_R.e6 i0 i1 i2 s0)) else (bif decide (i2 = 2) then (bif !decide (s0 = []) then (some (L116_0_R.e7 i0 i1 i2 s0)) else (L116_0 k b0 x0 o0 n0 f (IntKind.i64.wrap (i0 + 1)))) else (L116_0 k b0 x0 o0 n0 f (IntKind.i64.wrap (i0 + 1))))) else (bif decide (i2 = 2) then (bif !decide (s0 = []) then (some (L116_0_R.e8 i0 i1 i2 s0)) else (L116_0 k b0 x0 o0 n0 f (IntKind.i64.wrap (i0 + 1)))) else (some (L116_0_R.e9 i0 i1 i2 s0)))))))) else (some (L116_0_R.e10 i0)))
theorem L116_0_ok {b0 : Bool} {x0 : List V} {o0 : Option Bool} {n0 k : Nat} : ∀ {f : Nat} {i0 : Int} {r : L116_0_R}, L116_0 k b0 x0 o0 n0 f i0 = some r →
    LoopsN Try.prog Try.cfg (k + 2) 0 Try.f116 (Try.cfg.fc 116) 0 [0, 2, 5, 6, 7] f { tm := [(0, V.sl o0 b0 n0 x0), (2, V.bool false), (5, V.sl o0 b0 n0 x0), (6, vi (↑x0.length : Int)), (7, vi i0)], hp := [], nx := 0 } (L116_0_end b0 x0 o0 n0 r) := by
  intro f
  induction f with
  | zero => intro i0 r h; cases h
  | succ f ih =>
    intro i0 r h
    rw [L116_0] at h
    rcases cond_elim h with ⟨e0, h⟩ | ⟨e0, h⟩
    ·
      obtain ⟨e1, h⟩ := guardP_some.1 h
      obtain ⟨⟨i1, i2, s0⟩, e2, h⟩ := bE h
      rcases cond_elim h with ⟨e3, h⟩ | ⟨e3, h⟩
      ·
        cases h; exact LoopsN.done (L116_0_b0 i0 i1 i2 b0 s0 x0 o0 n0 k e0 (IdxP.of_at' (at_d dAu64i64sZ_ok e2 :) e1) e3) (fun h => by cases h)
      ·
        rcases cond_elim h with ⟨e4, h⟩ | ⟨e4, h⟩
        ·
          obtain ⟨⟨i3, i4, s1⟩, e5, h⟩ := bE h
          rcases cond_elim h with ⟨e6, h⟩ | ⟨e6, h⟩
          ·
            cases h; exact LoopsN.done (L116_0_b1 i0 i1 i2 i3 i4 b0 s0 s1 x0 o0 n0 k e0 (IdxP.of_at' (at_d dAu64i64sZ_ok e2 :) e1) e3 e4 (IdxP.of_at' (at_d dAu64i64sZ_ok e5 :) e1) e6) (fun h => by cases h)
          ·
            rcases cond_elim h with ⟨e7, h⟩ | ⟨e7, h⟩
            ·
              rcases cond_elim h with ⟨e8, h⟩ | ⟨e8, h⟩
              ·
                cases h; exact LoopsN.done (L116_0_b2 i0 i1 i2 i3 i4 b0 s0 s1 x0 o0 n0 k e0 (IdxP.of_at' (at_d dAu64i64sZ_ok e2 :) e1) e3 e4 (IdxP.of_at' (at_d dAu64i64sZ_ok e5 :) e1) e6 e7 e8) (fun h => by cases h)
              ·
                rcases cond_elim h with ⟨e9, h⟩ | ⟨e9, h⟩
                ·
                  rcases cond_elim h with ⟨e10, h⟩ | ⟨e10, h⟩
                  ·
                    cases h; exact LoopsN.done (L116_0_b3 i0 i1 i2 i3 i4 b0 s0 s1 x0 o0 n0 k e0 (IdxP.of_at' (at_d dAu64i64sZ_ok e2 :) e1) e3 e4 (IdxP.of_at' (at_d dAu64i64sZ_ok e5 :) e1) e6 e7 e8 e9 e10) (fun h => by cases h)
                  ·
                    exact LoopsN.next (L116_0_b4 i0 i1 i2 i3 i4 b0 s0 s1 x0 o0 n0 k e0 (IdxP.of_at' (at_d dAu64i64sZ_ok e2 :) e1) e3 e4 (IdxP.of_at' (at_d dAu64i64sZ_ok e5 :) e1) e6 e7 e8 e9 e10 (by simpa using e7)) (L116_0_b4h i0 i1 i2 b0 s0 x0 o0 n0) (ih h)
                ·
                  exact LoopsN.next (L116_0_b5 i0 i1 i2 i3 i4 b0 s0 s1 x0 o0 n0 k e0 (IdxP.of_at' (at_d dAu64i64sZ_ok e2 :) e1) e3 e4 (IdxP.of_at' (at_d dAu64i64sZ_ok e5 :) e1) e6 e7 e8 e9 (by simpa using e7)) (L116_0_b5h i0 i1 i2 b0 s0 x0 o0 n0) (ih h)
            ·
              rcases cond_elim h with ⟨e8, h⟩ | ⟨e8, h⟩
              ·
                rcases cond_elim h with ⟨e9, h⟩ | ⟨e9, h⟩
                ·
                  cases h; exact LoopsN.done (L116_0_b6 i0 i1 i2 i3 i4 b0 s0 s1 x0 o0 n0 k e0 (IdxP.of_at' (at_d dAu64i64sZ_ok e2 :) e1) e3 e4 (IdxP.of_at' (at_d dAu64i64sZ_ok e5 :) e1) e6 e7 e8 e9) (fun h => by cases h)
                ·
                  exact LoopsN.next (L116_0_b7 i0 i1 i2 i3 i4 b0 s0 s1 x0 o0 n0 k e0 (IdxP.of_at' (at_d dAu64i64sZ_ok e2 :) e1) e3 e4 (IdxP.of_at' (at_d dAu64i64sZ_ok e5 :) e1) e6 e7 e8 e9 (by simpa using e7) (by simpa using e8)) (L116_0_b7h i0 i1 i2 b0 s0 x0 o0 n0) (ih h)
              ·
                cases h; exact LoopsN.done (L116_0_b8 i0 i1 i2 i3 i4 b0 s0 s1 x0 o0 n0 k e0 (IdxP.of_at' (at_d dAu64i64sZ_ok e2 :) e1) e3 e4 (IdxP.of_at' (at_d dAu64i64sZ_ok e5 :) e1) e6 e7 e8 (by simpa using e7) (by simpa using e8)) (fun h => by cases h)
        ·
          rcases cond_elim h with ⟨e5, h⟩ | ⟨e5, h⟩
          ·
            rcases cond_elim h with ⟨e6, h⟩ | ⟨e6, h⟩
            ·
              cases h; exact LoopsN.done (L116_0_b9 i0 i1 i2 b0 s0 x0 o0 n0 k e0 (IdxP.of_at' (at_d dAu64i64sZ_ok e2 :) e1) e3 e4 e5 e6) (fun h => by cases h)
            ·
              rcases cond_elim h with ⟨e7, h⟩ | ⟨e7, h⟩
              ·
                rcases cond_elim h with ⟨e8, h⟩ | ⟨e8, h⟩
                ·
                  cases h; exact LoopsN.done (L116_0_b10 i0 i1 i2 b0 s0 x0 o0 n0 k e0 (IdxP.of_at' (at_d dAu64i64sZ_ok e2 :) e1) e3 e4 e5 e6 e7 e8) (fun h => by cases h)
                ·
                  exact LoopsN.next (L116_0_b11 i0 i1 i2 b0 s0 x0 o0 n0 k e0 (IdxP.of_at' (at_d dAu64i64sZ_ok e2 :) e1) e3 e4 e5 e6 e7 e8 (by simpa using e5)) (L116_0_b11h i0 i1 i2 b0 s0 x0 o0 n0) (ih h)
              ·
                exact LoopsN.next (L116_0_b12 i0 i1 i2 b0 s0 x0 o0 n0 k e0 (IdxP.of_at' (at_d dAu64i64sZ_ok e2 :) e1) e3 e4 e5 e6 e7 (by simpa using e5)) (L116_0_b12h i0 i1 i2 b0 s0 x0 o0 n0) (ih h)
          ·
            rcases cond_elim h with ⟨e6, h⟩ | ⟨e6, h⟩
            ·
              rcases cond_elim h with ⟨e7, h⟩ | ⟨e7, h⟩
              ·
                cases h; exact LoopsN.done (L116_0_b13 i0 i1 i2 b0 s0 x0 o0 n0 k e0 (IdxP.of_at' (at_d dAu64i64sZ_ok e2 :) e1) e3 e4 e5 e6 e7) (fun h => by cases h)
              ·
                exact LoopsN.next (L116_0_b14 i0 i1 i2 b0 s0 x0 o0 n0 k e0 (IdxP.of_at' (at_d dAu64i64sZ_ok e2 :) e1) e3 e4 e5 e6 e7 (by simpa using e5) (by simpa using e6)) (L116_0_b14h i0 i1 i2 b0 s0 x0 o0 n0) (ih h)
            ·
              cases h; exact LoopsN.done (L116_0_b15 i0 i1 i2 b0 s0 x0 o0 n0 k e0 (IdxP.of_at' (at_d dAu64i64sZ_ok e2 :) e1) e3 e4 e5 e6 (by simpa using e5) (by simpa using e6)) (fun h => by cases h)
    ·
      cases h; exact LoopsN.done (L116_0_b16 i0 b0 x0 o0 n0 k e0) (fun h => by cases h)
theorem P116_0 (i0 : Int) (b0 : Bool) (x0 : List V) (o0 : Option Bool) (n0 k : Nat)
    (c0 : LoopsN Try.prog Try.cfg (k + 2) 0 Try.f116 (Try.cfg.fc 116) 0 [0, 2, 5, 6, 7] (k + 2) { tm := [(0, V.sl o0 b0 n0 x0), (2, V.bool false), (5, V.sl o0 b0 n0 x0), (6, vi (↑x0.length : Int)), (7, vi 0)], hp := [], nx := 0 } (Exit.exit 0, { tm := [(0, V.sl o0 b0 n0 x0), (2, V.bool false), (5, V.sl o0 b0 n0 x0), (6, vi (↑x0.length : Int)), (7, vi i0), (8, V.bool false)], hp := [], nx := 4 })) :
    cP ((k + 3)) 116 [V.sl o0 b0 n0 x0] = some (V.bool (decide ((↑x0.length : Int) ≤ 64))) :=
  byF (k := k) (d := 3) [Hn.loop (Exit.exit 0, { tm := [(0, V.sl o0 b0 n0 x0), (2, V.bool false), (5, V.sl o0 b0 n0 x0), (6, vi (↑x0.length : Int)), (7, vi i0), (8, V.bool false)], hp := [], nx := 4 })] (aI c0 trivial) (by kernel_rfl)
theorem P116_1 (i0 i1 i2 : Int) (b0 : Bool) (s0 : List UInt8) (x0 : List V) (o0 : Option Bool) (n0 k : Nat)
    (c0 : LoopsN Try.prog Try.cfg (k + 2) 0 Try.f116 (Try.cfg.fc 116) 0 [0, 2, 5, 6, 7] (k + 2) { tm := [(0, V.sl o0 b0 n0 x0), (2, V.bool false), (5, V.sl o0 b0 n0 x0), (6, vi (↑x0.length : Int)), (7, vi 0)], hp := [], nx := 0 } (Exit.ret, { tm := [(0, V.sl o0 b0 n0 x0), (2, V.bool false), (3, vi i0), (4, V.ptr 16 0), (5, V.sl o0 b0 n0 x0), (6, vi (↑x0.length : Int)), (7, vi i0), (8, V.bool true), (29, V.bool false), (58, V.bool true)], hp := [(16, Ob.var [vu i1, vi i2, V.str s0])], nx := 220 })) :
    cP ((k + 3)) 116 [V.sl o0 b0 n0 x0] = some (V.bool false) :=
  byF (k := k) (d := 3) [Hn.loop (Exit.ret, { tm := [(0, V.sl o0 b0 n0 x0), (2, V.bool false), (3, vi i0), (4, V.ptr 16 0), (5, V.sl o0 b0 n0 x0), (6, vi (↑x0.length : Int)), (7, vi i0), (8, V.bool true), (29, V.bool false), (58, V.bool true)], hp := [(16, Ob.var [vu i1, vi i2, V.str s0])], nx := 220 })] (aI c0 trivial) (by kernel_rfl)
theorem P116_2 (i0 i1 i2 : Int) (b0 : Bool) (s0 : List UInt8) (x0 : List V) (o0 : Option Bool) (n0 k : Nat)
    (c0 : LoopsN Try.prog Try.cfg (k + 2) 0 Try.f116 (Try.cfg.fc 116) 0 [0, 2, 5, 6, 7] (k + 2) { tm := [(0, V.sl o0 b0 n0 x0), (2, V.bool false), (5, V.sl o0 b0 n0 x0), (6, vi (↑x0.length : Int)), (7, vi 0)], hp := [], nx := 0 } (Exit.ret, { tm := [(0, V.sl o0 b0 n0 x0), (2, V.bool false), (3, vi i0), (4, V.ptr 16 0), (5, V.sl o0 b0 n0 x0), (6, vi (↑x0.length : Int)), (7, vi i0), (8, V.bool true), (29, V.bool false), (58, V.bool true)], hp := [(16, Ob.var [vu i1, vi i2, V.str s0])], nx := 220 })) :
    cP ((k + 3)) 116 [V.sl o0 b0 n0 x0] = some (V.bool false) :=
  byF (k := k) (d := 3) [Hn.loop (Exit.ret, { tm := [(0, V.sl o0 b0 n0 x0), (2, V.bool false), (3, vi i0), (4, V.ptr 16 0), (5, V.sl o0 b0 n0 x0), (6, vi (↑x0.length : Int)), (7, vi i0), (8, V.bool true), (29, V.bool false), (58, V.bool true)], hp := [(16, Ob.var [vu i1, vi i2, V.str s0])], nx := 220 })] (aI c0 trivial) (by kernel_rfl)
theorem P116_3 (i0 i1 i2 : Int) (b0 : Bool) (s0 : List UInt8) (x0 : List V) (o0 : Option Bool) (n0 k : Nat)
    (c0 : LoopsN Try.prog Try.cfg (k + 2) 0 Try.f116 (Try.cfg.fc 116) 0 [0, 2, 5, 6, 7] (k + 2) { tm := [(0, V.sl o0 b0 n0 x0), (2, V.bool false), (5, V.sl o0 b0 n0 x0), (6, vi (↑x0.length : Int)), (7, vi 0)], hp := [], nx := 0 } (Exit.ret, { tm := [(0, V.sl o0 b0 n0 x0), (2, V.bool false), (3, vi i0), (4, V.ptr 16 0), (5, V.sl o0 b0 n0 x0), (6, vi (↑x0.length : Int)), (7, vi i0), (8, V.bool true), (29, V.bool false), (58, V.bool true)], hp := [(16, Ob.var [vu i1, vi i2, V.str s0])], nx := 220 })) :
    cP ((k + 3)) 116 [V.sl o0 b0 n0 x0] = some (V.bool false) :=
  byF (k := k) (d := 3) [Hn.loop (Exit.ret, { tm := [(0, V.sl o0 b0 n0 x0), (2, V.bool false), (3, vi i0), (4, V.ptr 16 0), (5, V.sl o0 b0 n0 x0), (6, vi (↑x0.length : Int)), (7, vi i0), (8, V.bool true), (29, V.bool false), (58, V.bool true)], hp := [(16, Ob.var [vu i1, vi i2, V.str s0])], nx := 220 })] (aI c0 trivial) (by kernel_rfl)
theorem P116_4 (i0 i1 i2 : Int) (b0 : Bool) (s0 : List UInt8) (x0 : List V) (o0 : Option Bool) (n0 k : Nat)
    (c0 : LoopsN Try.prog Try.cfg (k + 2) 0 Try.f116 (Try.cfg.fc 116) 0 [0, 2, 5, 6, 7] (k + 2) { tm := [(0, V.sl o0 b0 n0 x0), (2, V.bool false), (5, V.sl o0 b0 n0 x0), (6, vi (↑x0.length : Int)), (7, vi 0)], hp := [], nx := 0 } (Exit.ret, { tm := [(0, V.sl o0 b0 n0 x0), (2, V.bool false), (3, vi i0), (4, V.ptr 16 0), (5, V.sl o0 b0 n0 x0), (6, vi (↑x0.length : Int)), (7, vi i0), (8, V.bool true), (29, V.bool false), (58, V.bool true)], hp := [(16, Ob.var [vu i1, vi i2, V.str s0])], nx := 220 })) :
    cP ((k + 3)) 116 [V.sl o0 b0 n0 x0] = some (V.bool false) :=
  byF (k := k) (d := 3) [Hn.loop (Exit.ret, { tm := [(0, V.sl o0 b0 n0 x0), (2, V.bool false), (3, vi i0), (4, V.ptr 16 0), (5, V.sl o0 b0 n0 x0), (6, vi (↑x0.length : Int)), (7, vi i0), (8, V.bool true), (29, V.bool false), (58, V.bool true)], hp := [(16, Ob.var [vu i1, vi i2, V.str s0])], nx := 220 })] (aI c0 trivial) (by kernel_rfl)
theorem P116_5 (i0 i1 i2 : Int) (b0 : Bool) (s0 : List UInt8) (x0 : List V) (o0 : Option Bool) (n0 k : Nat)
    (c0 : LoopsN Try.prog Try.cfg (k + 2) 0 Try.f116 (Try.cfg.fc 116) 0 [0, 2, 5, 6, 7] (k + 2) { tm := [(0, V.sl o0 b0 n0 x0), (2, V.bool false), (5, V.sl o0 b0 n0 x0), (6, vi (↑x0.length : Int)), (7, vi 0)], hp := [], nx := 0 } (Exit.ret, { tm := [(0, V.sl o0 b0 n0 x0), (2, V.bool false), (3, vi i0), (4, V.ptr 16 0), (5, V.sl o0 b0 n0 x0), (6, vi (↑x0.length : Int)), (7, vi i0), (8, V.bool true), (29, V.bool false), (58, V.bool true)], hp := [(16, Ob.var [vu i1, vi i2, V.str s0])], nx := 220 })) :
    cP ((k + 3)) 116 [V.sl o0 b0 n0 x0] = some (V.bool false) :=
  byF (k := k) (d := 3) [Hn.loop (Exit.ret, { tm := [(0, V.sl o0 b0 n0 x0), (2, V.bool false), (3, vi i0), (4, V.ptr 16 0), (5, V.sl o0 b0 n0 x0), (6, vi (↑x0.length : Int)), (7, vi i0), (8, V.bool true), (29, V.bool false), (58, V.bool true)], hp := [(16, Ob.var [vu i1, vi i2, V.str s0])], nx := 220 })] (aI c0 trivial) (by kernel_rfl)
theorem P116_6 (i0 i1 i2 : Int) (b0 : Bool) (s0 : List UInt8) (x0 : List V) (o0 : Option Bool) (n0 k : Nat)
    (c0 : LoopsN Try.prog Try.cfg (k + 2) 0 Try.f116 (Try.cfg.fc 116) 0 [0, 2, 5, 6, 7] (k + 2) { tm := [(0, V.sl o0 b0 n0 x0), (2, V.bool false), (5, V.sl o0 b0 n0 x0), (6, vi (↑x0.length : Int)), (7, vi 0)], hp := [], nx := 0 } (Exit.ret, { tm := [(0, V.sl o0 b0 n0 x0), (2, V.bool false), (3, vi i0), (4, V.ptr 16 0), (5, V.sl o0 b0 n0 x0), (6, vi (↑x0.length : Int)), (7, vi i0), (8, V.bool true), (29, V.bool false), (58, V.bool true)], hp := [(16, Ob.var [vu i1, vi i2, V.str s0])], nx := 220 })) :
    cP ((k + 3)) 116 [V.sl o0 b0 n0 x0] = some (V.bool false) :=
  byF (k := k) (d := 3) [Hn.loop (Exit.ret, { tm := [(0, V.sl o0 b0 n0 x0), (2, V.bool false), (3, vi i0), (4, V.ptr 16 0), (5, V.sl o0 b0 n0 x0), (6, vi (↑x0.length : Int)), (7, vi i0), (8, V.bool true), (29, V.bool false), (58, V.bool true)], hp := [(16, Ob.var [vu i1, vi i2, V.str s0])], nx := 220 })] (aI c0 trivial) (by kernel_rfl)
theorem P116_7 (i0 i1 i2 : Int) (b0 : Bool) (s0 : List UInt8) (x0 : List V) (o0 : Option Bool) (n0 k : Nat)
    (c0 : LoopsN Try.prog Try.cfg (k + 2) 0 Try.f116 (Try.cfg.fc 116) 0 [0, 2, 5, 6, 7] (k + 2) { tm := [(0, V.sl o0 b0 n0 x0), (2, V.bool false), (5, V.sl o0 b0 n0 x0), (6, vi (↑x0.length : Int)), (7, vi 0)], hp := [], nx := 0 } (Exit.ret, { tm := [(0, V.sl o0 b0 n0 x0), (2, V.bool false), (3, vi i0), (4, V.ptr 16 0), (5, V.sl o0 b0 n0 x0), (6, vi (↑x0.length : Int)), (7, vi i0), (8, V.bool true), (29, V.bool false), (58, V.bool true)], hp := [(16, Ob.var [vu i1, vi i2, V.str s0])], nx := 220 })) :
    cP ((k + 3)) 116 [V.sl o0 b0 n0 x0] = some (V.bool false) :=
  byF (k := k) (d := 3) [Hn.loop (Exit.ret, { tm := [(0, V.sl o0 b0 n0 x0), (2, V.bool false), (3, vi i0), (4, V.ptr 16 0), (5, V.sl o0 b0 n0 x0), (6, vi (↑x0.length : Int)), (7, vi i0), (8, V.bool true), (29, V.bool false), (58, V.bool true)], hp := [(16, Ob.var [vu i1, vi i2, V.str s0])], nx := 220 })] (aI c0 trivial) (by kernel_rfl)
theorem P116_8 (i0 i1 i2 : Int) (b0 : Bool) (s0 : List UInt8) (x0 : List V) (o0 : Option Bool) (n0 k : Nat)
    (c0 : LoopsN Try.prog Try.cfg (k + 2) 0 Try.f116 (Try.cfg.fc 116) 0 [0, 2, 5, 6, 7] (k + 2) { tm := [(0, V.sl o0 b0 n0 x0), (2, V.bool false), (5, V.sl o0 b0 n0 x0), (6, vi (↑x0.length : Int)), (7, vi 0)], hp := [], nx := 0 } (Exit.ret, { tm := [(0, V.sl o0 b0 n0 x0), (2, V.bool false), (3, vi i0), (4, V.ptr 16 0), (5, V.sl o0 b0 n0 x0), (6, vi (↑x0.length : Int)), (7, vi i0), (8, V.bool true), (29, V.bool false), (58, V.bool true)], hp := [(16, Ob.var [vu i1, vi i2, V.str s0])], nx := 220 })) :
    cP ((k + 3)) 116 [V.sl o0 b0 n0 x0] = some (V.bool false) :=
  byF (k := k) (d := 3) [Hn.loop (Exit.ret, { tm := [(0, V.sl o0 b0 n0 x0), (2, V.bool false), (3, vi i0), (4, V.ptr 16 0), (5, V.sl o0 b0 n0 x0), (6, vi (↑x0.length : Int)), (7, vi i0), (8, V.bool true), (29, V.bool false), (58, V.bool true)], hp := [(16, Ob.var [vu i1, vi i2, V.str s0])], nx := 220 })] (aI c0 trivial) (by kernel_rfl)
theorem P116_9 (i0 i1 i2 : Int) (b0 : Bool) (s0 : List UInt8) (x0 : List V) (o0 : Option Bool) (n0 k : Nat)
    (c0 : LoopsN Try.prog Try.cfg (k + 2) 0 Try.f116 (Try.cfg.fc 116) 0 [0, 2, 5, 6, 7] (k + 2) { tm := [(0, V.sl o0 b0 n0 x0), (2, V.bool false), (5, V.sl o0 b0 n0 x0), (6, vi (↑x0.length : Int)), (7, vi 0)], hp := [], nx := 0 } (Exit.ret, { tm := [(0, V.sl o0 b0 n0 x0), (2, V.bool false), (3, vi i0), (4, V.ptr 16 0), (5, V.sl o0 b0 n0 x0), (6, vi (↑x0.length : Int)), (7, vi i0), (8, V.bool true), (29, V.bool true)], hp := [(16, Ob.var [vu i1, vi i2, V.str s0])], nx := 104 })) :
    cP ((k + 3)) 116 [V.sl o0 b0 n0 x0] = some (V.bool false) :=
  byF (k := k) (d := 3) [Hn.loop (Exit.ret, { tm := [(0, V.sl o0 b0 n0 x0), (2, V.bool false), (3, vi i0), (4, V.ptr 16 0), (5, V.sl o0 b0 n0 x0), (6, vi (↑x0.length : Int)), (7, vi i0), (8, V.bool true), (29, V.bool true)], hp := [(16, Ob.var [vu i1, vi i2, V.str s0])], nx := 104 })] (aI c0 trivial) (by kernel_rfl)
theorem P116_10 (i0 i1 i2 : Int) (b0 : Bool) (s0 : List UInt8) (x0 : List V) (o0 : Option Bool) (n0 k : Nat)
    (c0 : LoopsN Try.prog Try.cfg (k + 2) 0 Try.f116 (Try.cfg.fc 116) 0 [0, 2, 5, 6, 7] (k + 2) { tm := [(0, V.sl o0 b0 n0 x0), (2, V.bool false), (5, V.sl o0 b0 n0 x0), (6, vi (↑x0.length : Int)), (7, vi 0)], hp := [], nx := 0 } (Exit.ret, { tm := [(0, V.sl o0 b0 n0 x0), (2, V.bool false), (3, vi i0), (4, V.ptr 16 0), (5, V.sl o0 b0 n0 x0), (6, vi (↑x0.length : Int)), (7, vi i0), (8, V.bool true), (29, V.bool true)], hp := [(16, Ob.var [vu i1, vi i2, V.str s0])], nx := 104 })) :
    cP ((k + 3)) 116 [V.sl o0 b0 n0 x0] = some (V.bool false) :=
  byF (k := k) (d := 3) [Hn.loop (Exit.ret, { tm := [(0, V.sl o0 b0 n0 x0), (2, V.bool false), (3, vi i0), (4, V.ptr 16 0), (5, V.sl o0 b0 n0 x0), (6, vi (↑x0.length : Int)), (7, vi i0), (8, V.bool true), (29, V.bool true)], hp := [(16, Ob.var [vu i1, vi i2, V.str s0])], nx := 104 })] (aI c0 trivial) (by kernel_rfl)
def F116 (k : Nat) (o0 : Option Bool) (b0 : Bool) (n0 : Nat) (x0 : List V) : Option (Bool) :=
  ((L116_0 k b0 x0 o0 n0 (k + 2) (0)).bind fun
    | L116_0_R.e0 i0 i1 i2 s0 => (some (false))
    | L116_0_R.e1 i0 i1 i2 s0 => (some (false))
    | L116_0_R.e2 i0 i1 i2 s0 => (some (false))
    | L116_0_R.e3 i0 i1 i2 s0 => (some (false))
    | L116_0_R.e4 i0 i1 i2 s0 => (some (false))
    | L116_0_R.e5 i0 i1 i2 s0 => (some (false))
    | L116_0_R.e6 i0 i1 i2 s0 => (some (false))
    | L116_0_R.e7 i0 i1 i2 s0 => (some (false))
    | L116_0_R.e8 i0 i1 i2 s0 => (some (false))
    | L116_0_R.e9 i0 i1 i2 s0 => (some (false))
    | L116_0_R.e10 i0 => (some (decide ((↑x0.length : Int) ≤ 64))))
theorem F116_ok {o0 : Option Bool} {b0 : Bool} {n0 : Nat} {x0 : List V} {k : Nat} {r : Bool} (h : F116 k o0 b0 n0 x0 = some r) :
    cP ((k + 3)) 116 [V.sl o0 b0 n0 x0] = some (V.bool r) := by
  unfold F116 at h
  obtain ⟨ee, e0, h⟩ := bE h
  cases ee with
  | e0 i0 i1 i2 s0 =>
    have h := Option.some.inj h; subst h; exact P116_10 i0 i1 i2 b0 s0 x0 o0 n0 k (L116_0_ok e0)
  | e1 i0 i1 i2 s0 =>
    have h := Option.some.inj h; subst h; exact P116_9 i0 i1 i2 b0 s0 x0 o0 n0 k (L116_0_ok e0)
  | e2 i0 i1 i2 s0 =>
    have h := Option.some.inj h; subst h; exact P116_8 i0 i1 i2 b0 s0 x0 o0 n0 k (L116_0_ok e0)
  | e3 i0 i1 i2 s0 =>
    have h := Option.some.inj h; subst h; exact P116_7 i0 i1 i2 b0 s0 x0 o0 n0 k (L116_0_ok e0)
  | e4 i0 i1 i2 s0 =>
    have h := Option.some.inj h; subst h; exact P116_6 i0 i1 i2 b0 s0 x0 o0 n0 k (L116_0_ok e0)
  | e5 i0 i1 i2 s0 =>
    have h := Option.some.inj h; subst h; exact P116_5 i0 i1 i2 b0 s0 x0 o0 n0 k (L116_0_ok e0)
  | e6 i0 i1 i2 s0 =>
    have h := Option.some.inj h; subst h; exact P116_4 i0 i1 i2 b0 s0 x0 o0 n0 k (L116_0_ok e0)
  | e7 i0 i1 i2 s0 =>
    have h := Option.some.inj h; subst h; exact P116_3 i0 i1 i2 b0 s0 x0 o0 n0 k (L116_0_ok e0)
  | e8 i0 i1 i2 s0 =>
    have h := Option.some.inj h; subst h; exact P116_2 i0 i1 i2 b0 s0 x0 o0 n0 k (L116_0_ok e0)
  | e9 i0 i1 i2 s0 =>
    have h := Option.some.inj h; subst h; exact P116_1 i0 i1 i2 b0 s0 x0 o0 n0 k (L116_0_ok e0)
  | e10 i0 =>
    have h := Option.some.inj h; subst h; exact P116_0 i0 b0 x0 o0 n0 k (L116_0_ok e0)
theorem P87_0 (i0 i1 : Int) (b0 b1 : Bool) (x0 : List V) (o0 : Option Bool) (n0 k : Nat)
    (c0 : cP ((k + 5)) 116 [V.sl o0 b0 n0 x0] = some (V.bool b1))
    (c1 : (!b1) = true) :
    cP ((k + 6)) 87 [V.sl o0 b0 n0 x0, V.agg [vu i0, vu i1]] = some (vi 1) :=
  byF (k := k) (d := 6) [Hn.call 6 (V.bool b1), Hn.br 7 true] (aI c0 (aI c1 trivial)) (by kernel_rfl)
theorem P87_1 (i0 i1 : Int) (b0 b1 : Bool) (x0 : List V) (o0 : Option Bool) (n0 k : Nat)
    (c0 : cP ((k + 5)) 116 [V.sl o0 b0 n0 x0] = some (V.bool b1))
    (c1 : (!b1) = false)
    (c2 : decide (i1 = 0) = true) :
    cP ((k + 6)) 87 [V.sl o0 b0 n0 x0, V.agg [vu i0, vu i1]] = some (vi 4) :=
  byF (k := k) (d := 6) [Hn.call 6 (V.bool b1), Hn.br 7 false, Hn.br 11 true] (aI c0 (aI c1 (aI c2 trivial))) (by kernel_rfl)
theorem P87_2 (i0 i1 : Int) (b0 b1 : Bool) (x0 : List V) (o0 : Option Bool) (n0 k : Nat)
    (c0 : cP ((k + 5)) 116 [V.sl o0 b0 n0 x0] = some (V.bool b1))
    (c1 : (!b1) = false)
    (c2 : decide (i1 = 0) = false)
    (c3 : decide (224 < i1) = true) :
    cP ((k + 6)) 87 [V.sl o0 b0 n0 x0, V.agg [vu i0, vu i1]] = some (vi 4) :=
  byF (k := k) (d := 6) [Hn.call 6 (V.bool b1), Hn.br 7 false, Hn.br 11 false, Hn.br 15 true] (aI c0 (aI c1 (aI c2 (aI c3 trivial)))) (by kernel_rfl)
theorem P87_3 (i0 i1 i2 : Int) (b0 b1 : Bool) (x0 : List V) (o0 : Option Bool) (n0 k : Nat)
    (c0 : cP ((k + 5)) 116 [V.sl o0 b0 n0 x0] = some (V.bool b1))
    (c1 : (!b1) = false)
    (c2 : decide (i1 = 0) = false)
    (c3 : decide (224 < i1) = false)
    (c4 : cP ((k + 5)) 17 [V.agg [vu i0, vu i1]] = some (vi i2)) :
    cP ((k + 6)) 87 [V.sl o0 b0 n0 x0, V.agg [vu i0, vu i1]] = some (vi i2) :=
  byF (k := k) (d := 6) [Hn.call 6 (V.bool b1), Hn.br 7 false, Hn.br 11 false, Hn.br 15 false, Hn.call 17 (vi i2)] (aI c0 (aI c1 (aI c2 (aI c3 (aI c4 trivial))))) (by kernel_rfl)
def F87 (k : Nat) (o0 : Option Bool) (b0 : Bool) (n0 : Nat) (x0 : List V) (i0 i1 : Int) : Option (Int) :=
  ((F116 (k + 2) (o0) (b0) (n0) (x0)).bind fun b1 => (bif !b1 then (some (1)) else (bif decide (i1 = 0) then (some (4)) else (bif decide (224 < i1) then (some (4)) else ((F17 (k + 2) (i0) (i1)).bind fun i2 => (some (i2)))))))
theorem F87_ok {o0 : Option Bool} {b0 : Bool} {n0 : Nat} {x0 : List V} {i0 i1 : Int} {k : Nat} {r : Int} (h : F87 k o0 b0 n0 x0 i0 i1 = some r) :
    cP ((k + 6)) 87 [V.sl o0 b0 n0 x0, V.agg [vu i0, vu i1]] = some (vi r) := by
  unfold F87 at h
  obtain ⟨b1, e0, h⟩ := bE h
  rcases cond_elim h with ⟨e1, h⟩ | ⟨e1, h⟩
  ·
    have h := Option.some.inj h; subst h; exact P87_0 i0 i1 b0 b1 x0 o0 n0 k (F116_ok e0) e1
  ·
    rcases cond_elim h with ⟨e2, h⟩ | ⟨e2, h⟩
    ·
      have h := Option.some.inj h; subst h; exact P87_1 i0 i1 b0 b1 x0 o0 n0 k (F116_ok e0) e1 e2
    ·
      rcases cond_elim h with ⟨e3, h⟩ | ⟨e3, h⟩
      ·
        have h := Option.some.inj h; subst h; exact P87_2 i0 i1 b0 b1 x0 o0 n0 k (F116_ok e0) e1 e2 e3
      ·
        obtain ⟨i2, e4, h⟩ := bE h
        have h := Option.some.inj h; subst h; exact P87_3 i0 i1 i2 b0 b1 x0 o0 n0 k (F116_ok e0) e1 e2 e3 (F17_ok e4)
theorem P155_0 (i0 i1 i2 : Int) (k : Nat)
    (c0 : decide (i1 ≤ i0) = true) :
    cP ((k + 3)) 155 [vu i0, V.agg [vu i1, vu i2]] = some (V.bool (decide (wU (i0 - i1) < i2))) :=
  byF (k := k) (d := 3) [Hn.br 9 true] (aI c0 trivial) (by kernel_rfl)
theorem P155_1 (i0 i1 i2 : Int) (k : Nat)
    (c0 : decide (i1 ≤ i0) = false) :
    cP ((k + 3)) 155 [vu i0, V.agg [vu i1, vu i2]] = some (V.bool false) :=
  byF (k := k) (d := 3) [Hn.br 9 false] (aI c0 trivial) (by kernel_rfl)
def F155 (k : Nat) (i0 i1 i2 : Int) : Option (Bool) :=
  (bif decide (i1 ≤ i0) then (some (decide (IntKind.u64.wrap (i0 - i1) < i2))) else (some (false)))
theorem F155_ok {i0 i1 i2 : Int} {k : Nat} {r : Bool} (h : F155 k i0 i1 i2 = some r) :
    cP ((k + 3)) 155 [vu i0, V.agg [vu i1, vu i2]] = some (V.bool r) := by
  unfold F155 at h
  rcases cond_elim h with ⟨e0, h⟩ | ⟨e0, h⟩
  ·
    have h := Option.some.inj h; subst h; exact P155_0 i0 i1 i2 k e0
  ·
    have h := Option.some.inj h; subst h; exact P155_1 i0 i1 i2 k e0
theorem P143_0 (i0 i1 i2 : Int) (b0 b1 : Bool) (k : Nat)
    (c0 : cP ((k + 5)) 155 [vu (wU (32 * i0)), V.agg [vu i1, vu i2]] = some (V.bool b0))
    (c1 : b0 = true)
    (c2 : cP ((k + 5)) 155 [vu (wU (wU (32 * i0) + 31)), V.agg [vu i1, vu i2]] = some (V.bool b1)) :
    cP ((k + 6)) 143 [vu i0, V.agg [vu i1, vu i2]] = some (V.bool b1) :=
  byF (k := k) (d := 6) [Hn.call 8 (V.bool b0), Hn.br 9 true, Hn.call 14 (V.bool b1)] (aI c0 (aI c1 (aI c2 trivial))) (by kernel_rfl)
theorem P143_1 (i0 i1 i2 : Int) (b0 : Bool) (k : Nat)
    (c0 : cP ((k + 5)) 155 [vu (wU (32 * i0)), V.agg [vu i1, vu i2]] = some (V.bool b0))
    (c1 : b0 = false) :
    cP ((k + 6)) 143 [vu i0, V.agg [vu i1, vu i2]] = some (V.bool false) :=
  byF (k := k) (d := 6) [Hn.call 8 (V.bool b0), Hn.br 9 false] (aI c0 (aI c1 trivial)) (by kernel_rfl)
def F143 (k : Nat) (i0 i1 i2 : Int) : Option (Bool) :=
  ((F155 (k + 2) (IntKind.u64.wrap (32 * i0)) (i1) (i2)).bind fun b0 => (bif b0 then ((F155 (k + 2) (IntKind.u64.wrap (IntKind.u64.wrap (32 * i0) + 31)) (i1) (i2)).bind fun b1 => (some (b1))) else (some (false))))
theorem F143_ok {i0 i1 i2 : Int} {k : Nat} {r : Bool} (h : F143 k i0 i1 i2 = some r) :
    cP ((k + 6)) 143 [vu i0, V.agg [vu i1, vu i2]] = some (V.bool r) := by
  unfold F143 at h
  obtain ⟨b0, e0, h⟩ := bE h
  rcases cond_elim h with ⟨e1, h⟩ | ⟨e1, h⟩
  ·
    obtain ⟨b1, e2, h⟩ := bE h
    have h := Option.some.inj h; subst h; exact P143_0 i0 i1 i2 b0 b1 k (F155_ok e0) e1 (F155_ok e2)
  ·
    have h := Option.some.inj h; subst h; exact P143_1 i0 i1 i2 b0 k (F155_ok e0) e1
theorem L141_0_b0 (i0 i1 i2 i3 : Int) (b0 : Bool) (s0 : List UInt8) (x0 : List V) (o0 : Option Bool) (n0 k : Nat)
    (c0 : decide (i1 < (↑x0.length : Int)) = true)
    (c1 : IdxP x0 i1 n0 3 (V.agg [vu i2, vi i3, V.str s0]))
    (c2 : decide (i2 = i0) = true) :
    eC k 2 0 141 (loopBody Try.f141 0) { tm := [(0, V.sl o0 b0 n0 x0), (1, vu i0), (4, V.ptr 0 0), (7, V.sl o0 b0 n0 x0), (8, vi (↑x0.length : Int)), (9, vi i1)], hp := [(0, Ob.var [vu 0, vi 0, V.str []])], nx := 1 } = some (Exit.ret, { tm := [(0, V.sl o0 b0 n0 x0), (1, vu i0), (4, V.ptr 0 0), (6, V.ptr 13 0), (7, V.sl o0 b0 n0 x0), (8, vi (↑x0.length : Int)), (9, vi i1), (10, V.bool true), (16, V.bool true)], hp := [(0, Ob.var [vu i2, vi i3, V.str s0]), (13, Ob.var [vu i2, vi i3, V.str s0])], nx := 45 }) :=
  byL (k := k) (d := 2) [Hn.br 10 true, Hn.op 11 ((V.agg [vu i2, vi i3, V.str s0]).cpt 0) [], Hn.br 16 true] (aI c0 (aI c1 (aI c2 trivial))) (by kernel_rfl)
theorem L141_0_b1 (i0 i1 i2 i3 : Int) (b0 : Bool) (s0 : List UInt8) (x0 : List V) (o0 : Option Bool) (n0 k : Nat)
    (c0 : decide (i1 < (↑x0.length : Int)) = true)
    (c1 : IdxP x0 i1 n0 3 (V.agg [vu i2, vi i3, V.str s0]))
    (c2 : decide (i2 = i0) = false) :
    eC k 2 0 141 (loopBody Try.f141 0) { tm := [(0, V.sl o0 b0 n0 x0), (1, vu i0), (4, V.ptr 0 0), (7, V.sl o0 b0 n0 x0), (8, vi (↑x0.length : Int)), (9, vi i1)], hp := [(0, Ob.var [vu 0, vi 0, V.str []])], nx := 1 } = some (Exit.normal, { tm := [(0, V.sl o0 b0 n0 x0), (1, vu i0), (4, V.ptr 0 0), (6, V.ptr 13 0), (7, V.sl o0 b0 n0 x0), (8, vi (↑x0.length : Int)), (9, vi (wI (i1 + 1))), (10, V.bool true), (16, V.bool false)], hp := [(0, Ob.var [vu 0, vi 0, V.str []]), (13, Ob.var [vu i2, vi i3, V.str s0])], nx := 45 }) :=
  byL (k := k) (d := 2) [Hn.br 10 true, Hn.op 11 ((V.agg [vu i2, vi i3, V.str s0]).cpt 0) [], Hn.br 16 false] (aI c0 (aI c1 (aI c2 trivial))) (by kernel_rfl)
theorem L141_0_b1h (i0 i1 i2 i3 : Int) (b0 : Bool) (s0 : List UInt8) (x0 : List V) (o0 : Option Bool) (n0 : Nat) : head 0 [0, 1, 4, 7, 8, 9] (Try.cfg.fc 141).acc { tm := [(0, V.sl o0 b0 n0 x0), (1, vu i0), (4, V.ptr 0 0), (6, V.ptr 13 0), (7, V.sl o0 b0 n0 x0), (8, vi (↑x0.length : Int)), (9, vi (wI (i1 + 1))), (10, V.bool true), (16, V.bool false)], hp := [(0, Ob.var [vu 0, vi 0, V.str []]), (13, Ob.var [vu i2, vi i3, V.str s0])], nx := 45 } = { tm := [(0, V.sl o0 b0 n0 x0), (1, vu i0), (4, V.ptr 0 0), (7, V.sl o0 b0 n0 x0), (8, vi (↑x0.length : Int)), (9, vi (wI (i1 + 1)))], hp := [(0, Ob.var [vu 0, vi 0, V.str []])], nx := 1 } := by kernel_rfl
theorem L141_0_b2 (i0 i1 : Int) (b0 : Bool) (x0 : List V) (o0 : Option Bool) (n0 k : Nat)
    (c0 : decide (i1 < (↑x0.length : Int)) = false) :
    eC k 2 0 141 (loopBody Try.f141 0) { tm := [(0, V.sl o0 b0 n0 x0), (1, vu i0), (4, V.ptr 0 0), (7, V.sl o0 b0 n0 x0), (8, vi (↑x0.length : Int)), (9, vi i1)], hp := [(0, Ob.var [vu 0, vi 0, V.str []])], nx := 1 } = some (Exit.exit 0, { tm := [(0, V.sl o0 b0 n0 x0), (1, vu i0), (4, V.ptr 0 0), (7, V.sl o0 b0 n0 x0), (8, vi (↑x0.length : Int)), (9, vi i1), (10, V.bool false)], hp := [(0, Ob.var [vu 0, vi 0, V.str []])], nx := 5 }) :=
  byL (k := k) (d := 2) [Hn.br 10 false] (aI c0 trivial) (by kernel_rfl)
inductive L141_0_R where
  | e0 (i1 : Int) (i2 : Int) (i3 : Int) (s0 : List UInt8)
  | e1 (i1 : Int)
noncomputable def L141_0_end (i0 : Int) (b0 : Bool) (x0 : List V) (o0 : Option Bool) (n0 : Nat) : L141_0_R → Exit × St
  | .e0 i1 i2 i3 s0 => (Exit.ret, { tm := [(0, V.sl o0 b0 n0 x0), (1, V.int .u64 i0), (4, V.ptr 0 0), (6, V.ptr 13 0), (7, V.sl o0 b0 n0 x0), (8, V.int .i64 (↑x0.length : Int)), (9, V.int .i64 i1), (10, V.bool true), (16, V.bool true)], hp := [(0, Ob.var [V.int .u64 i2, V.int .i64 i3, V.str s0]), (13, Ob.var [V.int .u64 i2, V.int .i64 i3, V.str s0])], nx := 45 })
  | .e1 i1 => (Exit.exit 0, { tm := [(0, V.sl o0 b0 n0 x0), (1, V.int .u64 i0), (4, V.ptr 0 0), (7, V.sl o0 b0 n0 x0), (8, V.int .i64 (↑x0.length : Int)), (9, V.int .i64 i1), (10, V.bool false)], hp := [(0, Ob.var [V.int .u64 0, V.int .i64 0, V.str []])], nx := 5 })
def L141_0 (k : Nat) (i0 : Int) (b0 : Bool) (x0 : List V) (o0 : Option Bool) (n0 : Nat) : Nat → Int → Option L141_0_R
  | 0, _ => none
  | f + 1, i1 => (bif decide (i1 < (↑x0.length : Int)) then (guardP (n0 = (3 : Nat)) (((at? (x0) (i1)).bind dAu64i64sZ).bind fun (i2, i3, s0) => (bif decide (i2 = i0) then (some (L141_0_R.e0 i1 i2 i3 s0)) else (L141_0 k i0 b0 x0 o0 n0 f (IntKind.i64.wrap (i1 + 1)))))) else (some (L141_0_R.e1 i1)))
theorem L141_0_ok {i0 : Int} {b0 : Bool} {x0 : List V} {o0 : Option Bool} {n0 k : Nat} : ∀ {f : Nat} {i1 : Int} {r : L141_0_R}, L141_0 k i0 b0 x0 o0 n0 f i1 = some r →
    LoopsN Try.prog Try.cfg (k + 2) 0 Try.f141 (Try.cfg.fc 141) 0 [0, 1, 4, 7, 8, 9] f { tm := [(0, V.sl o0 b0 n0 x0), (1, vu i0), (4, V.ptr 0 0), (7, V.sl o0 b0 n0 x0), (8, vi (↑x0.length : Int)), (9, vi i1)], hp := [(0, Ob.var [vu 0, vi 0, V.str []])], nx := 1 } (L141_0_end i0 b0 x0 o0 n0 r) := by
  intro f
  induction f with
  | zero => intro i1 r h; cases h
  | succ f ih =>
    intro i1 r h
    rw [L141_0] at h
    rcases cond_elim h with ⟨e0, h⟩ | ⟨e0, h⟩
    ·
      obtain ⟨e1, h⟩ := guardP_some.1 h
      obtain ⟨⟨i2, i3, s0⟩, e2, h⟩ := bE h
      rcases cond_elim h with ⟨e3, h⟩ | ⟨e3, h⟩
      ·
        cases h; exact LoopsN.done (L141_0_b0 i0 i1 i2 i3 b0 s0 x0 o0 n0 k e0 (IdxP.of_at' (at_d dAu64i64sZ_ok e2 :) e1) e3) (fun h => by cases h)
      ·
        exact LoopsN.next (L141_0_b1 i0 i1 i2 i3 b0 s0 x0 o0 n0 k e0 (IdxP.of_at' (at_d dAu64i64sZ_ok e2 :) e1) e3) (L141_0_b1h i0 i1 i2 i3 b0 s0 x0 o0 n0) (ih h)
    ·
      cases h; exact LoopsN.done (L141_0_b2 i0 i1 b0 x0 o0 n0 k e0) (fun h => by cases h)
theorem P141_0 (i0 i1 : Int) (b0 : Bool) (x0 : List V) (o0 : Option Bool) (n0 k : Nat)
    (c0 : LoopsN Try.prog Try.cfg (k + 2) 0 Try.f141 (Try.cfg.fc 141) 0 [0, 1, 4, 7, 8, 9] (k + 2) { tm := [(0, V.sl o0 b0 n0 x0), (1, vu i0), (4, V.ptr 0 0), (7, V.sl o0 b0 n0 x0), (8, vi (↑x0.length : Int)), (9, vi 0)], hp := [(0, Ob.var [vu 0, vi 0, V.str []])], nx := 1 } (Exit.exit 0, { tm := [(0, V.sl o0 b0 n0 x0), (1, vu i0), (4, V.ptr 0 0), (7, V.sl o0 b0 n0 x0), (8, vi (↑x0.length : Int)), (9, vi i1), (10, V.bool false)], hp := [(0, Ob.var [vu 0, vi 0, V.str []])], nx := 5 })) :
    cP ((k + 3)) 141 [V.sl o0 b0 n0 x0, vu i0] = some (V.agg [vu i0, vi 0, V.str []]) :=
  byF (k := k) (d := 3) [Hn.loop (Exit.exit 0, { tm := [(0, V.sl o0 b0 n0 x0), (1, vu i0), (4, V.ptr 0 0), (7, V.sl o0 b0 n0 x0), (8, vi (↑x0.length : Int)), (9, vi i1), (10, V.bool false)], hp := [(0, Ob.var [vu 0, vi 0, V.str []])], nx := 5 })] (aI c0 trivial) (by kernel_rfl)
theorem P141_1 (i0 i1 i2 i3 : Int) (b0 : Bool) (s0 : List UInt8) (x0 : List V) (o0 : Option Bool) (n0 k : Nat)
    (c0 : LoopsN Try.prog Try.cfg (k + 2) 0 Try.f141 (Try.cfg.fc 141) 0 [0, 1, 4, 7, 8, 9] (k + 2) { tm := [(0, V.sl o0 b0 n0 x0), (1, vu i0), (4, V.ptr 0 0), (7, V.sl o0 b0 n0 x0), (8, vi (↑x0.length : Int)), (9, vi 0)], hp := [(0, Ob.var [vu 0, vi 0, V.str []])], nx := 1 } (Exit.ret, { tm := [(0, V.sl o0 b0 n0 x0), (1, vu i0), (4, V.ptr 0 0), (6, V.ptr 13 0), (7, V.sl o0 b0 n0 x0), (8, vi (↑x0.length : Int)), (9, vi i1), (10, V.bool true), (16, V.bool true)], hp := [(0, Ob.var [vu i2, vi i3, V.str s0]), (13, Ob.var [vu i2, vi i3, V.str s0])], nx := 45 })) :
    cP ((k + 3)) 141 [V.sl o0 b0 n0 x0, vu i0] = some (V.agg [vu i2, vi i3, V.str s0]) :=
  byF (k := k) (d := 3) [Hn.loop (Exit.ret, { tm := [(0, V.sl o0 b0 n0 x0), (1, vu i0), (4, V.ptr 0 0), (6, V.ptr 13 0), (7, V.sl o0 b0 n0 x0), (8, vi (↑x0.length : Int)), (9, vi i1), (10, V.bool true), (16, V.bool true)], hp := [(0, Ob.var [vu i2, vi i3, V.str s0]), (13, Ob.var [vu i2, vi i3, V.str s0])], nx := 45 })] (aI c0 trivial) (by kernel_rfl)
def F141 (k : Nat) (o0 : Option Bool) (b0 : Bool) (n0 : Nat) (x0 : List V) (i0 : Int) : Option (Int × Int × List UInt8) :=
  ((L141_0 k i0 b0 x0 o0 n0 (k + 2) (0)).bind fun
    | L141_0_R.e0 i1 i2 i3 s0 => (some ((i2), (i3), (s0)))
    | L141_0_R.e1 i1 => (some ((i0), (0), ([]))))
theorem F141_ok {o0 : Option Bool} {b0 : Bool} {n0 : Nat} {x0 : List V} {i0 : Int} {k : Nat} {r : Int × Int × List UInt8} (h : F141 k o0 b0 n0 x0 i0 = some r) :
    cP ((k + 3)) 141 [V.sl o0 b0 n0 x0, vu i0] = some (V.agg [vu r.1, vi r.2.1, V.str r.2.2]) := by
  unfold F141 at h
  obtain ⟨ee, e0, h⟩ := bE h
  cases ee with
  | e0 i1 i2 i3 s0 =>
    have h := Option.some.inj h; subst h; exact P141_1 i0 i1 i2 i3 b0 s0 x0 o0 n0 k (L141_0_ok e0)
  | e1 i1 =>
    have h := Option.some.inj h; subst h; exact P141_0 i0 i1 b0 x0 o0 n0 k (L141_0_ok e0)
theorem P154_0 (i0 i1 i2 : Int) (b0 : Bool) (s0 : List UInt8) (x0 : List V) (o0 : Option Bool) (n0 k : Nat)
    (c0 : cP ((k + 5)) 141 [V.sl o0 b0 n0 x0, vu (wU (i0.tdiv 32))] = some (V.agg [vu i1, vi i2, V.str s0]))
    (c1 : (!decide (i2 = 1)) = true) :
    cP ((k + 6)) 154 [V.sl o0 b0 n0 x0, vu i0] = some (vb 0) :=
  byF (k := k) (d := 6) [Hn.call 9 (V.agg [vu i1, vi i2, V.str s0]), Hn.br 12 true] (aI c0 (aI c1 trivial)) (by kernel_rfl)
theorem P154_1 (i0 i1 i2 : Int) (b0 : Bool) (s0 : List UInt8) (x0 : List V) (o0 : Option Bool) (n0 : Nat) (u0 : UInt8) (k : Nat)
    (c0 : cP ((k + 5)) 141 [V.sl o0 b0 n0 x0, vu (wU (i0.tdiv 32))] = some (V.agg [vu i1, vi i2, V.str s0]))
    (c1 : (!decide (i2 = 1)) = false)
    (c2 : StrP s0 (i0.tmod 32) u0) :
    cP ((k + 6)) 154 [V.sl o0 b0 n0 x0, vu i0] = some (vb (bN u0)) :=
  byF (k := k) (d := 6) [Hn.call 9 (V.agg [vu i1, vi i2, V.str s0]), Hn.br 12 false, Hn.op 17 (vb (bN u0)) []] (aI c0 (aI c1 (aI c2 trivial))) (by kernel_rfl)
def F154 (k : Nat) (o0 : Option Bool) (b0 : Bool) (n0 : Nat) (x0 : List V) (i0 : Int) : Option (Int) :=
  ((F141 (k + 2) (o0) (b0) (n0) (x0) (IntKind.u64.wrap (i0.tdiv 32))).bind fun (i1, i2, s0) => (bif !decide (i2 = 1) then (some (0)) else ((satB (s0) (i0.tmod 32)).bind fun u0 => (some ((↑u0.toNat : Int))))))
theorem F154_ok {o0 : Option Bool} {b0 : Bool} {n0 : Nat} {x0 : List V} {i0 : Int} {k : Nat} {r : Int} (h : F154 k o0 b0 n0 x0 i0 = some r) :
    cP ((k + 6)) 154 [V.sl o0 b0 n0 x0, vu i0] = some (vb r) := by
  unfold F154 at h
  obtain ⟨⟨i1, i2, s0⟩, e0, h⟩ := bE h
  rcases cond_elim h with ⟨e1, h⟩ | ⟨e1, h⟩
  ·
    have h := Option.some.inj h; subst h; exact P154_0 i0 i1 i2 b0 s0 x0 o0 n0 k (F141_ok e0) e1
  ·
    obtain ⟨u0, e2, h⟩ := bE h
    have h := Option.some.inj h; subst h; exact P154_1 i0 i1 i2 b0 s0 x0 o0 n0 u0 k (F141_ok e0) e1 (StrP.of_at e2)
theorem L142_0_b0 (i0 i1 i2 i3 i4 i5 : Int) (b0 : Bool) (s0 : List UInt8) (x0 x1 : List V) (o0 : Option Bool) (n0 : Nat) (u0 : UInt8) (k : Nat)
    (c0 : decide (i4 < 32) = true)
    (c1 : cP ((k + 8)) 154 [V.sl o0 b0 n0 x0, vu (wU (wU (32 * i0) + i4))] = some (vb i5))
    (c2 : cP ((k + 8)) 155 [vu (wU (wU (32 * i0) + i4)), V.agg [vu i2, vu i3]] = some (V.bool true))
    (c3 : decide (i1 = 1) = true)
    (c4 : StrP s0 (wU (wU (wU (32 * i0) + i4) - i2)) u0)
    (c5 : GrdW ((1 : Nat) = (1 : Nat) ∧ (0 : Nat) < (1 : Nat) ∧ (1 : Nat) ≤ (64 : Nat) ∧ x1.length + (1 : Nat) ≤ maxLen') (V.ref (142 : Nat)) [((1 : Nat), Ob.dead), ((142 : Nat), Ob.row false (1 : Nat) (x1 ++ [vb (bN u0)]))]) :
    eC k 8 0 142 (loopBody Try.f142 0) { tm := [(0, V.sl o0 b0 n0 x0), (1, vu i0), (2, V.agg [vi i1, vu i2, vu i3, V.str s0]), (5, V.ptr 0 0), (6, V.str []), (7, V.ref 1), (8, vu i4)], hp := [(0, Ob.var [vi i1, vu i2, vu i3, V.str s0]), (1, Ob.row false 1 x1)], nx := 2 } = some (Exit.normal, { tm := [(0, V.sl o0 b0 n0 x0), (1, vu i0), (2, V.agg [vi i1, vu i2, vu i3, V.str s0]), (5, V.ptr 0 0), (6, V.str []), (7, V.ref 142), (8, vu (wU (i4 + 1))), (9, vb (bN u0)), (12, V.bool true), (27, V.bool true), (30, V.bool true)], hp := [(0, Ob.var [vi i1, vu i2, vu i3, V.str s0]), (1, Ob.dead), (138, Ob.row false 1 [vb (bN u0)]), (142, Ob.row false 1 (x1 ++ [vb (bN u0)]))], nx := 162 }) :=
  byL (k := k) (d := 8) [Hn.br 12 true, Hn.call 20 (vb i5), Hn.call 27 (V.bool true), Hn.br 30 true, Hn.op 41 (vb (bN u0)) [], Hn.op 45 (V.ref 142) [(1, Ob.dead), (142, Ob.row false 1 (x1 ++ [vb (bN u0)]))]] (aI c0 (aI c1 (aI c2 (aI c3 (aI c4 (aI c5 trivial)))))) (by kernel_rfl)
theorem L142_0_b0h (i0 i1 i2 i3 i4 : Int) (b0 : Bool) (s0 : List UInt8) (x0 x1 : List V) (o0 : Option Bool) (n0 : Nat) (u0 : UInt8) : head 0 [0, 1, 2, 5, 6, 7, 8] (Try.cfg.fc 142).acc { tm := [(0, V.sl o0 b0 n0 x0), (1, vu i0), (2, V.agg [vi i1, vu i2, vu i3, V.str s0]), (5, V.ptr 0 0), (6, V.str []), (7, V.ref 142), (8, vu (wU (i4 + 1))), (9, vb (bN u0)), (12, V.bool true), (27, V.bool true), (30, V.bool true)], hp := [(0, Ob.var [vi i1, vu i2, vu i3, V.str s0]), (1, Ob.dead), (138, Ob.row false 1 [vb (bN u0)]), (142, Ob.row false 1 (x1 ++ [vb (bN u0)]))], nx := 162 } = { tm := [(0, V.sl o0 b0 n0 x0), (1, vu i0), (2, V.agg [vi i1, vu i2, vu i3, V.str s0]), (5, V.ptr 0 0), (6, V.str []), (7, V.ref 1), (8, vu (wU (i4 + 1)))], hp := [(0, Ob.var [vi i1, vu i2, vu i3, V.str s0]), (1, Ob.row false 1 (x1 ++ [vb (bN u0)]))], nx := 2 } := by kernel_rfl
theorem L142_0_b1 (i0 i1 i2 i3 i4 i5 : Int) (b0 : Bool) (s0 : List UInt8) (x0 x1 : List V) (o0 : Option Bool) (n0 k : Nat)
    (c0 : decide (i4 < 32) = true)
    (c1 : cP ((k + 8)) 154 [V.sl o0 b0 n0 x0, vu (wU (wU (32 * i0) + i4))] = some (vb i5))
    (c2 : cP ((k + 8)) 155 [vu (wU (wU (32 * i0) + i4)), V.agg [vu i2, vu i3]] = some (V.bool true))
    (c3 : decide (i1 = 1) = false)
    (c4 : GrdW ((1 : Nat) = (1 : Nat) ∧ (0 : Nat) < (1 : Nat) ∧ (1 : Nat) ≤ (64 : Nat) ∧ x1.length + (1 : Nat) ≤ maxLen') (V.ref (94 : Nat)) [((1 : Nat), Ob.dead), ((94 : Nat), Ob.row false (1 : Nat) (x1 ++ [vb (0 : Int)]))]) :
    eC k 8 0 142 (loopBody Try.f142 0) { tm := [(0, V.sl o0 b0 n0 x0), (1, vu i0), (2, V.agg [vi i1, vu i2, vu i3, V.str s0]), (5, V.ptr 0 0), (6, V.str []), (7, V.ref 1), (8, vu i4)], hp := [(0, Ob.var [vi i1, vu i2, vu i3, V.str s0]), (1, Ob.row false 1 x1)], nx := 2 } = some (Exit.normal, { tm := [(0, V.sl o0 b0 n0 x0), (1, vu i0), (2, V.agg [vi i1, vu i2, vu i3, V.str s0]), (5, V.ptr 0 0), (6, V.str []), (7, V.ref 94), (8, vu (wU (i4 + 1))), (9, vb 0), (12, V.bool true), (27, V.bool true), (30, V.bool false)], hp := [(0, Ob.var [vi i1, vu i2, vu i3, V.str s0]), (1, Ob.dead), (90, Ob.row false 1 [vb 0]), (94, Ob.row false 1 (x1 ++ [vb 0]))], nx := 114 }) :=
  byL (k := k) (d := 8) [Hn.br 12 true, Hn.call 20 (vb i5), Hn.call 27 (V.bool true), Hn.br 30 false, Hn.op 45 (V.ref 94) [(1, Ob.dead), (94, Ob.row false 1 (x1 ++ [vb 0]))]] (aI c0 (aI c1 (aI c2 (aI c3 (aI c4 trivial))))) (by kernel_rfl)
theorem L142_0_b1h (i0 i1 i2 i3 i4 : Int) (b0 : Bool) (s0 : List UInt8) (x0 x1 : List V) (o0 : Option Bool) (n0 : Nat) : head 0 [0, 1, 2, 5, 6, 7, 8] (Try.cfg.fc 142).acc { tm := [(0, V.sl o0 b0 n0 x0), (1, vu i0), (2, V.agg [vi i1, vu i2, vu i3, V.str s0]), (5, V.ptr 0 0), (6, V.str []), (7, V.ref 94), (8, vu (wU (i4 + 1))), (9, vb 0), (12, V.bool true), (27, V.bool true), (30, V.bool false)], hp := [(0, Ob.var [vi i1, vu i2, vu i3, V.str s0]), (1, Ob.dead), (90, Ob.row false 1 [vb 0]), (94, Ob.row false 1 (x1 ++ [vb 0]))], nx := 114 } = { tm := [(0, V.sl o0 b0 n0 x0), (1, vu i0), (2, V.agg [vi i1, vu i2, vu i3, V.str s0]), (5, V.ptr 0 0), (6, V.str []), (7, V.ref 1), (8, vu (wU (i4 + 1)))], hp := [(0, Ob.var [vi i1, vu i2, vu i3, V.str s0]), (1, Ob.row false 1 (x1 ++ [vb 0]))], nx := 2 } := by kernel_rfl
theorem L142_0_b2 (i0 i1 i2 i3 i4 i5 : Int) (b0 : Bool) (s0 : List UInt8) (x0 x1 : List V) (o0 : Option Bool) (n0 k : Nat)
    (c0 : decide (i4 < 32) = true)
    (c1 : cP ((k + 8)) 154 [V.sl o0 b0 n0 x0, vu (wU (wU (32 * i0) + i4))] = some (vb i5))
    (c2 : cP ((k + 8)) 155 [vu (wU (wU (32 * i0) + i4)), V.agg [vu i2, vu i3]] = some (V.bool false))
    (c3 : GrdW ((1 : Nat) = (1 : Nat) ∧ (0 : Nat) < (1 : Nat) ∧ (1 : Nat) ≤ (64 : Nat) ∧ x1.length + (1 : Nat) ≤ maxLen') (V.ref (78 : Nat)) [((1 : Nat), Ob.dead), ((78 : Nat), Ob.row false (1 : Nat) (x1 ++ [vb i5]))]) :
    eC k 8 0 142 (loopBody Try.f142 0) { tm := [(0, V.sl o0 b0 n0 x0), (1, vu i0), (2, V.agg [vi i1, vu i2, vu i3, V.str s0]), (5, V.ptr 0 0), (6, V.str []), (7, V.ref 1), (8, vu i4)], hp := [(0, Ob.var [vi i1, vu i2, vu i3, V.str s0]), (1, Ob.row false 1 x1)], nx := 2 } = some (Exit.normal, { tm := [(0, V.sl o0 b0 n0 x0), (1, vu i0), (2, V.agg [vi i1, vu i2, vu i3, V.str s0]), (5, V.ptr 0 0), (6, V.str []), (7, V.ref 78), (8, vu (wU (i4 + 1))), (9, vb i5), (12, V.bool true), (27, V.bool false)], hp := [(0, Ob.var [vi i1, vu i2, vu i3, V.str s0]), (1, Ob.dead), (74, Ob.row false 1 [vb i5]), (78, Ob.row false 1 (x1 ++ [vb i5]))], nx := 98 }) :=
  byL (k := k) (d := 8) [Hn.br 12 true, Hn.call 20 (vb i5), Hn.call 27 (V.bool false), Hn.op 45 (V.ref 78) [(1, Ob.dead), (78, Ob.row false 1 (x1 ++ [vb i5]))]] (aI c0 (aI c1 (aI c2 (aI c3 trivial)))) (by kernel_rfl)
theorem L142_0_b2h (i0 i1 i2 i3 i4 i5 : Int) (b0 : Bool) (s0 : List UInt8) (x0 x1 : List V) (o0 : Option Bool) (n0 : Nat) : head 0 [0, 1, 2, 5, 6, 7, 8] (Try.cfg.fc 142).acc { tm := [(0, V.sl o0 b0 n0 x0), (1, vu i0), (2, V.agg [vi i1, vu i2, vu i3, V.str s0]), (5, V.ptr 0 0), (6, V.str []), (7, V.ref 78), (8, vu (wU (i4 + 1))), (9, vb i5), (12, V.bool true), (27, V.bool false)], hp := [(0, Ob.var [vi i1, vu i2, vu i3, V.str s0]), (1, Ob.dead), (74, Ob.row false 1 [vb i5]), (78, Ob.row false 1 (x1 ++ [vb i5]))], nx := 98 } = { tm := [(0, V.sl o0 b0 n0 x0), (1, vu i0), (2, V.agg [vi i1, vu i2, vu i3, V.str s0]), (5, V.ptr 0 0), (6, V.str []), (7, V.ref 1), (8, vu (wU (i4 + 1)))], hp := [(0, Ob.var [vi i1, vu i2, vu i3, V.str s0]), (1, Ob.row false 1 (x1 ++ [vb i5]))], nx := 2 } := by kernel_rfl
theorem L142_0_b3 (i0 i1 i2 i3 i4 : Int) (b0 : Bool) (s0 : List UInt8) (x0 x1 : List V) (o0 : Option Bool) (n0 k : Nat)
    (c0 : decide (i4 < 32) = false) :
    eC k 8 0 142 (loopBody Try.f142 0) { tm := [(0, V.sl o0 b0 n0 x0), (1, vu i0), (2, V.agg [vi i1, vu i2, vu i3, V.str s0]), (5, V.ptr 0 0), (6, V.str []), (7, V.ref 1), (8, vu i4)], hp := [(0, Ob.var [vi i1, vu i2, vu i3, V.str s0]), (1, Ob.row false 1 x1)], nx := 2 } = some (Exit.exit 0, { tm := [(0, V.sl o0 b0 n0 x0), (1, vu i0), (2, V.agg [vi i1, vu i2, vu i3, V.str s0]), (5, V.ptr 0 0), (6, V.str []), (7, V.ref 1), (8, vu i4), (12, V.bool false)], hp := [(0, Ob.var [vi i1, vu i2, vu i3, V.str s0]), (1, Ob.row false 1 x1)], nx := 10 }) :=
  byL (k := k) (d := 8) [Hn.br 12 false] (aI c0 trivial) (by kernel_rfl)
inductive L142_0_R where
  | e0 (i4 : Int) (x1 : List V)
noncomputable def L142_0_end (i0 : Int) (i1 : Int) (i2 : Int) (i3 : Int) (b0 : Bool) (s0 : List UInt8) (x0 : List V) (o0 : Option Bool) (n0 : Nat) : L142_0_R → Exit × St
  | .e0 i4 x1 => (Exit.exit 0, { tm := [(0, V.sl o0 b0 n0 x0), (1, V.int .u64 i0), (2, V.agg [V.int .i64 i1, V.int .u64 i2, V.int .u64 i3, V.str s0]), (5, V.ptr 0 0), (6, V.str []), (7, V.ref 1), (8, V.int .u64 i4), (12, V.bool false)], hp := [(0, Ob.var [V.int .i64 i1, V.int .u64 i2, V.int .u64 i3, V.str s0]), (1, Ob.row false 1 x1)], nx := 10 })
def L142_0 (k : Nat) (i0 i1 i2 i3 : Int) (b0 : Bool) (s0 : List UInt8) (x0 : List V) (o0 : Option Bool) (n0 : Nat) : Nat → Int → List V → Option L142_0_R
  | 0, _, _ => none
  | f + 1, i4, x1 => (bif decide (i4 < 32) then ((F154 (k + 2) (o0) (b0) (n0) (x0) (IntKind.u64.wrap (IntKind.u64.wrap (32 * i0) + i4))).bind fun i5 => ((F155 (k + 5) (IntKind.u64.wrap (IntKind.u64.wrap (32 * i0) + i4)) (i2) (i3)).bind fun b1 => (bif b1 then (bif decide (i1 = 1) then ((satB (s0) (IntKind.u64.wrap (IntKind.u64.wrap (IntKind.u64.wrap (32 * i0) + i4) - i2))).bind fun u0 => (guardP (x1.length + (1 : Nat) ≤ maxLen') (L142_0 k i0 i1 i2 i3 b0 s0 x0 o0 n0 f (IntKind.u64.wrap (i4 + 1)) (x1 ++ [V.int .u8 (↑u0.toNat : Int)])))) else (guardP (x1.length + (1 : Nat) ≤ maxLen') (L142_0 k i0 i1 i2 i3 b0 s0 x0 o0 n0 f (IntKind.u64.wrap (i4 + 1)) (x1 ++ [V.int .u8 0])))) else (guardP (x1.length + (1 : Nat) ≤ maxLen') (L142_0 k i0 i1 i2 i3 b0 s0 x0 o0 n0 f (IntKind.u64.wrap (i4 + 1)) (x1 ++ [V.int .u8 i5])))))) else (some (L142_0_R.e0 i4 x1)))
theorem L142_0_ok {i0 i1 i2 i3 : Int} {b0 : Bool} {s0 : List UInt8} {x0 : List V} {o0 : Option Bool} {n0 k : Nat} : ∀ {f : Nat} {i4 : Int} {x1 : List V} {r : L142_0_R}, L142_0 k i0 i1 i2 i3 b0 s0 x0 o0 n0 f i4 x1 = some r →
    LoopsN Try.prog Try.cfg (k + 8) 0 Try.f142 (Try.cfg.fc 142) 0 [0, 1, 2, 5, 6, 7, 8] f { tm := [(0, V.sl o0 b0 n0 x0), (1, vu i0), (2, V.agg [vi i1, vu i2, vu i3, V.str s0]), (5, V.ptr 0 0), (6, V.str []), (7, V.ref 1), (8, vu i4)], hp := [(0, Ob.var [vi i1, vu i2, vu i3, V.str s0]), (1, Ob.row false 1 x1)], nx := 2 } (L142_0_end i0 i1 i2 i3 b0 s0 x0 o0 n0 r) := by
  intro f
  induction f with
  | zero => intro i4 x1 r h; cases h
  | succ f ih =>
    intro i4 x1 r h
    rw [L142_0] at h
    rcases cond_elim h with ⟨e0, h⟩ | ⟨e0, h⟩
    ·
      obtain ⟨i5, e1, h⟩ := bE h
      obtain ⟨b1, e2, h⟩ := bE h
      rcases cond_elim h with ⟨e3, h⟩ | ⟨e3, h⟩
      ·
        rcases cond_elim h with ⟨e4, h⟩ | ⟨e4, h⟩
        ·
          obtain ⟨u0, e5, h⟩ := bE h
          obtain ⟨e6, h⟩ := guardP_some.1 h
          exact LoopsN.next (L142_0_b0 i0 i1 i2 i3 i4 i5 b0 s0 x0 x1 o0 n0 u0 k e0 (F154_ok e1) ((F155_ok e2).trans (by rw [e3])) e4 (StrP.of_at e5) (GrdW.mk ⟨rfl, by decide, by decide, e6⟩)) (L142_0_b0h i0 i1 i2 i3 i4 b0 s0 x0 x1 o0 n0 u0) (ih h)
        ·
          obtain ⟨e5, h⟩ := guardP_some.1 h
          exact LoopsN.next (L142_0_b1 i0 i1 i2 i3 i4 i5 b0 s0 x0 x1 o0 n0 k e0 (F154_ok e1) ((F155_ok e2).trans (by rw [e3])) e4 (GrdW.mk ⟨rfl, by decide, by decide, e5⟩)) (L142_0_b1h i0 i1 i2 i3 i4 b0 s0 x0 x1 o0 n0) (ih h)
      ·
        obtain ⟨e4, h⟩ := guardP_some.1 h
        exact LoopsN.next (L142_0_b2 i0 i1 i2 i3 i4 i5 b0 s0 x0 x1 o0 n0 k e0 (F154_ok e1) ((F155_ok e2).trans (by rw [e3])) (GrdW.mk ⟨rfl, by decide, by decide, e4⟩)) (L142_0_b2h i0 i1 i2 i3 i4 i5 b0 s0 x0 x1 o0 n0) (ih h)
    ·
      cases h; exact LoopsN.done (L142_0_b3 i0 i1 i2 i3 i4 b0 s0 x0 x1 o0 n0 k e0) (fun h => by cases h)
theorem P142_0 (i0 i1 i2 i3 i4 : Int) (b0 : Bool) (s0 : List UInt8) (x0 x1 : List V) (o0 : Option Bool) (n0 k : Nat)
    (c0 : LoopsN Try.prog Try.cfg (k + 8) 0 Try.f142 (Try.cfg.fc 142) 0 [0, 1, 2, 5, 6, 7, 8] (k + 8) { tm := [(0, V.sl o0 b0 n0 x0), (1, vu i0), (2, V.agg [vi i1, vu i2, vu i3, V.str s0]), (5, V.ptr 0 0), (6, V.str []), (7, V.ref 1), (8, vu 0)], hp := [(0, Ob.var [vi i1, vu i2, vu i3, V.str s0]), (1, Ob.row false 1 [])], nx := 2 } (Exit.exit 0, { tm := [(0, V.sl o0 b0 n0 x0), (1, vu i0), (2, V.agg [vi i1, vu i2, vu i3, V.str s0]), (5, V.ptr 0 0), (6, V.str []), (7, V.ref 1), (8, vu i4), (12, V.bool false)], hp := [(0, Ob.var [vi i1, vu i2, vu i3, V.str s0]), (1, Ob.row false 1 x1)], nx := 10 }))
    (c1 : GrdW (((1 : Nat) = (1 : Nat) ∨ x1.isEmpty = true) ∧ x1.all isByte = true) (V.str (List.map Sym.byteOf x1)) []) :
    cP ((k + 9)) 142 [V.sl o0 b0 n0 x0, vu i0, V.agg [vi i1, vu i2, vu i3, V.str s0]] = some (V.str (List.map Sym.byteOf x1)) :=
  byF (k := k) (d := 9) [Hn.loop (Exit.exit 0, { tm := [(0, V.sl o0 b0 n0 x0), (1, vu i0), (2, V.agg [vi i1, vu i2, vu i3, V.str s0]), (5, V.ptr 0 0), (6, V.str []), (7, V.ref 1), (8, vu i4), (12, V.bool false)], hp := [(0, Ob.var [vi i1, vu i2, vu i3, V.str s0]), (1, Ob.row false 1 x1)], nx := 10 }), Hn.op 47 (V.str (List.map Sym.byteOf x1)) []] (aI c0 (aI c1 trivial)) (by kernel_rfl)
def F142 (k : Nat) (o0 : Option Bool) (b0 : Bool) (n0 : Nat) (x0 : List V) (i0 i1 i2 i3 : Int) (s0 : List UInt8) : Option (List UInt8) :=
  ((L142_0 k i0 i1 i2 i3 b0 s0 x0 o0 n0 (k + 8) (0) ([])).bind fun
    | L142_0_R.e0 i4 x1 => (guardP (x1.all isByte = true) (some (List.map Sym.byteOf x1))))
theorem F142_ok {o0 : Option Bool} {b0 : Bool} {n0 : Nat} {x0 : List V} {i0 i1 i2 i3 : Int} {s0 : List UInt8} {k : Nat} {r : List UInt8} (h : F142 k o0 b0 n0 x0 i0 i1 i2 i3 s0 = some r) :
    cP ((k + 9)) 142 [V.sl o0 b0 n0 x0, vu i0, V.agg [vi i1, vu i2, vu i3, V.str s0]] = some (V.str r) := by
  unfold F142 at h
  obtain ⟨ee, e0, h⟩ := bE h
  cases ee with
  | e0 i4 x1 =>
    obtain ⟨e1, h⟩ := guardP_some.1 h
    have h := Option.some.inj h; subst h; exact P142_0 i0 i1 i2 i3 i4 b0 s0 x0 x1 o0 n0 k (L142_0_ok e0) (GrdW.mk ⟨(.inl rfl), e1⟩)
theorem P117_0 (i0 i1 i2 i3 i4 i5 : Int) (b0 : Bool) (s0 s1 s2 : List UInt8) (x0 : List V) (o0 : Option Bool) (n0 k : Nat)
    (c0 : cP ((k + 11)) 141 [V.sl o0 b0 n0 x0, vu i0] = some (V.agg [vu i4, vi i5, V.str s1]))
    (c1 : decide (i1 = 1) = true)
    (c2 : cP ((k + 11)) 142 [V.sl o0 b0 n0 x0, vu i0, V.agg [vi i1, vu i2, vu i3, V.str s0]] = some (V.str s2)) :
    cP ((k + 12)) 117 [V.sl o0 b0 n0 x0, vu i0, V.agg [vi i1, vu i2, vu i3, V.str s0]] = some (V.agg [vu i0, vi 1, V.str s2]) :=
  byF (k := k) (d := 12) [Hn.call 10 (V.agg [vu i4, vi i5, V.str s1]), Hn.br 13 true, Hn.call 18 (V.str s2)] (aI c0 (aI c1 (aI c2 trivial))) (by kernel_rfl)
theorem P117_1 (i0 i1 i2 i3 i4 i5 : Int) (b0 : Bool) (s0 s1 : List UInt8) (x0 : List V) (o0 : Option Bool) (n0 k : Nat)
    (c0 : cP ((k + 11)) 141 [V.sl o0 b0 n0 x0, vu i0] = some (V.agg [vu i4, vi i5, V.str s1]))
    (c1 : decide (i1 = 1) = false)
    (c2 : decide (i1 = 4) = true)
    (c3 : decide (i5 = 0) = true) :
    cP ((k + 12)) 117 [V.sl o0 b0 n0 x0, vu i0, V.agg [vi i1, vu i2, vu i3, V.str s0]] = some (V.agg [vu i0, vi 2, V.str []]) :=
  byF (k := k) (d := 12) [Hn.call 10 (V.agg [vu i4, vi i5, V.str s1]), Hn.br 13 false, Hn.br 22 true, Hn.br 25 true] (aI c0 (aI c1 (aI c2 (aI c3 trivial)))) (by kernel_rfl)
theorem P117_2 (i0 i1 i2 i3 i4 i5 : Int) (b0 : Bool) (s0 s1 : List UInt8) (x0 : List V) (o0 : Option Bool) (n0 k : Nat)
    (c0 : cP ((k + 11)) 141 [V.sl o0 b0 n0 x0, vu i0] = some (V.agg [vu i4, vi i5, V.str s1]))
    (c1 : decide (i1 = 1) = false)
    (c2 : decide (i1 = 4) = true)
    (c3 : decide (i5 = 0) = false) :
    cP ((k + 12)) 117 [V.sl o0 b0 n0 x0, vu i0, V.agg [vi i1, vu i2, vu i3, V.str s0]] = some (V.agg [vu i4, vi i5, V.str s1]) :=
  byF (k := k) (d := 12) [Hn.call 10 (V.agg [vu i4, vi i5, V.str s1]), Hn.br 13 false, Hn.br 22 true, Hn.br 25 false] (aI c0 (aI c1 (aI c2 (aI c3 trivial)))) (by kernel_rfl)
theorem P117_3 (i0 i1 i2 i3 i4 i5 : Int) (b0 : Bool) (s0 s1 : List UInt8) (x0 : List V) (o0 : Option Bool) (n0 k : Nat)
    (c0 : cP ((k + 11)) 141 [V.sl o0 b0 n0 x0, vu i0] = some (V.agg [vu i4, vi i5, V.str s1]))
    (c1 : decide (i1 = 1) = false)
    (c2 : decide (i1 = 4) = false)
    (c3 : cP ((k + 11)) 143 [vu i0, V.agg [vu i2, vu i3]] = some (V.bool true))
    (c4 : decide (i1 = 3) = true)
    (c5 : (!decide (i5 = 0)) = true) :
    cP ((k + 12)) 117 [V.sl o0 b0 n0 x0, vu i0, V.agg [vi i1, vu i2, vu i3, V.str s0]] = some (V.agg [vu i0, vi 2, V.str []]) :=
  byF (k := k) (d := 12) [Hn.call 10 (V.agg [vu i4, vi i5, V.str s1]), Hn.br 13 false, Hn.br 22 false, Hn.call 32 (V.bool true), Hn.br 36 true, Hn.br 40 true] (aI c0 (aI c1 (aI c2 (aI c3 (aI c4 (aI c5 trivial)))))) (by kernel_rfl)
theorem P117_4 (i0 i1 i2 i3 i4 i5 : Int) (b0 : Bool) (s0 s1 : List UInt8) (x0 : List V) (o0 : Option Bool) (n0 k : Nat)
    (c0 : cP ((k + 11)) 141 [V.sl o0 b0 n0 x0, vu i0] = some (V.agg [vu i4, vi i5, V.str s1]))
    (c1 : decide (i1 = 1) = false)
    (c2 : decide (i1 = 4) = false)
    (c3 : cP ((k + 11)) 143 [vu i0, V.agg [vu i2, vu i3]] = some (V.bool true))
    (c4 : decide (i1 = 3) = true)
    (c5 : (!decide (i5 = 0)) = false) :
    cP ((k + 12)) 117 [V.sl o0 b0 n0 x0, vu i0, V.agg [vi i1, vu i2, vu i3, V.str s0]] = some (V.agg [vu i0, vi 0, V.str []]) :=
  byF (k := k) (d := 12) [Hn.call 10 (V.agg [vu i4, vi i5, V.str s1]), Hn.br 13 false, Hn.br 22 false, Hn.call 32 (V.bool true), Hn.br 36 true, Hn.br 40 false] (aI c0 (aI c1 (aI c2 (aI c3 (aI c4 (aI c5 trivial)))))) (by kernel_rfl)
theorem P117_5 (i0 i1 i2 i3 i4 i5 : Int) (b0 : Bool) (s0 s1 : List UInt8) (x0 : List V) (o0 : Option Bool) (n0 k : Nat)
    (c0 : cP ((k + 11)) 141 [V.sl o0 b0 n0 x0, vu i0] = some (V.agg [vu i4, vi i5, V.str s1]))
    (c1 : decide (i1 = 1) = false)
    (c2 : decide (i1 = 4) = false)
    (c3 : cP ((k + 11)) 143 [vu i0, V.agg [vu i2, vu i3]] = some (V.bool true))
    (c4 : decide (i1 = 3) = false) :
    cP ((k + 12)) 117 [V.sl o0 b0 n0 x0, vu i0, V.agg [vi i1, vu i2, vu i3, V.str s0]] = some (V.agg [vu i0, vi 0, V.str []]) :=
  byF (k := k) (d := 12) [Hn.call 10 (V.agg [vu i4, vi i5, V.str s1]), Hn.br 13 false, Hn.br 22 false, Hn.call 32 (V.bool true), Hn.br 36 false] (aI c0 (aI c1 (aI c2 (aI c3 (aI c4 trivial))))) (by kernel_rfl)
theorem P117_6 (i0 i1 i2 i3 i4 i5 : Int) (b0 : Bool) (s0 s1 s2 : List UInt8) (x0 : List V) (o0 : Option Bool) (n0 k : Nat)
    (c0 : cP ((k + 11)) 141 [V.sl o0 b0 n0 x0, vu i0] = some (V.agg [vu i4, vi i5, V.str s1]))
    (c1 : decide (i1 = 1) = false)
    (c2 : decide (i1 = 4) = false)
    (c3 : cP ((k + 11)) 143 [vu i0, V.agg [vu i2, vu i3]] = some (V.bool false))
    (c4 : decide (i5 = 1) = true)
    (c5 : cP ((k + 11)) 142 [V.sl o0 b0 n0 x0, vu i0, V.agg [vi i1, vu i2, vu i3, V.str s0]] = some (V.str s2)) :
    cP ((k + 12)) 117 [V.sl o0 b0 n0 x0, vu i0, V.agg [vi i1, vu i2, vu i3, V.str s0]] = some (V.agg [vu i0, vi 1, V.str s2]) :=
  byF (k := k) (d := 12) [Hn.call 10 (V.agg [vu i4, vi i5, V.str s1]), Hn.br 13 false, Hn.br 22 false, Hn.call 32 (V.bool false), Hn.br 47 true, Hn.call 52 (V.str s2)] (aI c0 (aI c1 (aI c2 (aI c3 (aI c4 (aI c5 trivial)))))) (by kernel_rfl)
theorem P117_7 (i0 i1 i2 i3 i4 i5 : Int) (b0 : Bool) (s0 s1 : List UInt8) (x0 : List V) (o0 : Option Bool) (n0 k : Nat)
    (c0 : cP ((k + 11)) 141 [V.sl o0 b0 n0 x0, vu i0] = some (V.agg [vu i4, vi i5, V.str s1]))
    (c1 : decide (i1 = 1) = false)
    (c2 : decide (i1 = 4) = false)
    (c3 : cP ((k + 11)) 143 [vu i0, V.agg [vu i2, vu i3]] = some (V.bool false))
    (c4 : decide (i5 = 1) = false) :
    cP ((k + 12)) 117 [V.sl o0 b0 n0 x0, vu i0, V.agg [vi i1, vu i2, vu i3, V.str s0]] = some (V.agg [vu i4, vi i5, V.str s1]) :=
  byF (k := k) (d := 12) [Hn.call 10 (V.agg [vu i4, vi i5, V.str s1]), Hn.br 13 false, Hn.br 22 false, Hn.call 32 (V.bool false), Hn.br 47 false] (aI c0 (aI c1 (aI c2 (aI c3 (aI c4 trivial))))) (by kernel_rfl)
def F117 (k : Nat) (o0 : Option Bool) (b0 : Bool) (n0 : Nat) (x0 : List V) (i0 i1 i2 i3 : Int) (s0 : List UInt8) : Option (Int × Int × List UInt8) :=
  ((F141 (k + 8) (o0) (b0) (n0) (x0) (i0)).bind fun (i4, i5, s1) => (bif decide (i1 = 1) then ((F142 (k + 2) (o0) (b0) (n0) (x0) (i0) (i1) (i2) (i3) (s0)).bind fun s2 => (some ((i0), (1), (s2)))) else (bif decide (i1 = 4) then (bif decide (i5 = 0) then (some ((i0), (2), ([]))) else (some ((i4), (i5), (s1)))) else ((F143 (k + 5) (i0) (i2) (i3)).bind fun b1 => (bif b1 then (bif decide (i1 = 3) then (bif !decide (i5 = 0) then (some ((i0), (2), ([]))) else (some ((i0), (0), ([])))) else (some ((i0), (0), ([])))) else (bif decide (i5 = 1) then ((F142 (k + 2) (o0) (b0) (n0) (x0) (i0) (i1) (i2) (i3) (s0)).bind fun s2 => (some ((i0), (1), (s2)))) else (some ((i4), (i5), (s1)))))))))
theorem F117_ok {o0 : Option Bool} {b0 : Bool} {n0 : Nat} {x0 : List V} {i0 i1 i2 i3 : Int} {s0 : List UInt8} {k : Nat} {r : Int × Int × List UInt8} (h : F117 k o0 b0 n0 x0 i0 i1 i2 i3 s0 = some r) :
    cP ((k + 12)) 117 [V.sl o0 b0 n0 x0, vu i0, V.agg [vi i1, vu i2, vu i3, V.str s0]] = some (V.agg [vu r.1, vi r.2.1, V.str r.2.2]) := by
  unfold F117 at h
  obtain ⟨⟨i4, i5, s1⟩, e0, h⟩ := bE h
  rcases cond_elim h with ⟨e1, h⟩ | ⟨e1, h⟩
  ·
    obtain ⟨s2, e2, h⟩ := bE h
    have h := Option.some.inj h; subst h; exact P117_0 i0 i1 i2 i3 i4 i5 b0 s0 s1 s2 x0 o0 n0 k (F141_ok e0) e1 (F142_ok e2)
  ·
    rcases cond_elim h with ⟨e2, h⟩ | ⟨e2, h⟩
    ·
      rcases cond_elim h with ⟨e3, h⟩ | ⟨e3, h⟩
      ·
        have h := Option.some.inj h; subst h; exact P117_1 i0 i1 i2 i3 i4 i5 b0 s0 s1 x0 o0 n0 k (F141_ok e0) e1 e2 e3
      ·
        have h := Option.some.inj h; subst h; exact P117_2 i0 i1 i2 i3 i4 i5 b0 s0 s1 x0 o0 n0 k (F141_ok e0) e1 e2 e3
    ·
      obtain ⟨b1, e3, h⟩ := bE h
      rcases cond_elim h with ⟨e4, h⟩ | ⟨e4, h⟩
      ·
        rcases cond_elim h with ⟨e5, h⟩ | ⟨e5, h⟩
        ·
          rcases cond_elim h with ⟨e6, h⟩ | ⟨e6, h⟩
          ·
            have h := Option.some.inj h; subst h; exact P117_3 i0 i1 i2 i3 i4 i5 b0 s0 s1 x0 o0 n0 k (F141_ok e0) e1 e2 ((F143_ok e3).trans (by rw [e4])) e5 e6
          ·
            have h := Option.some.inj h; subst h; exact P117_4 i0 i1 i2 i3 i4 i5 b0 s0 s1 x0 o0 n0 k (F141_ok e0) e1 e2 ((F143_ok e3).trans (by rw [e4])) e5 e6
        ·
          have h := Option.some.inj h; subst h; exact P117_5 i0 i1 i2 i3 i4 i5 b0 s0 s1 x0 o0 n0 k (F141_ok e0) e1 e2 ((F143_ok e3).trans (by rw [e4])) e5
      ·
        rcases cond_elim h with ⟨e5, h⟩ | ⟨e5, h⟩
        ·
          obtain ⟨s2, e6, h⟩ := bE h
          have h := Option.some.inj h; subst h; exact P117_6 i0 i1 i2 i3 i4 i5 b0 s0 s1 s2 x0 o0 n0 k (F141_ok e0) e1 e2 ((F143_ok e3).trans (by rw [e4])) e5 (F142_ok e6)
        ·
          have h := Option.some.inj h; subst h; exact P117_7 i0 i1 i2 i3 i4 i5 b0 s0 s1 x0 o0 n0 k (F141_ok e0) e1 e2 ((F143_ok e3).trans (by rw [e4])) e5
theorem L88_0_b0 (i0 i1 i2 i3 i4 i5 i6 : Int) (b0 : Bool) (s0 s1 : List UInt8) (x0 x1 : List V) (o0 : Option Bool) (n0 k : Nat)
    (c0 : decide (i4 < (↑x0.length : Int)) = true)
    (c1 : IdxP x0 i4 n0 3 (V.agg [vu i5, vi i6, V.str s1]))
    (c2 : decide (i5 < wU (i1.tdiv 32)) = true)
    (c3 : GrdW ((3 : Nat) = (3 : Nat) ∧ (0 : Nat) < (3 : Nat) ∧ (32 : Nat) ≤ (64 : Nat) ∧ x1.length + (1 : Nat) ≤ maxLen') (V.ref (50 : Nat)) [((1 : Nat), Ob.dead), ((50 : Nat), Ob.row false (3 : Nat) (x1 ++ [V.agg [vu i5, vi i6, V.str s1]]))]) :
    eC k 14 0 88 (loopBody Try.f88 0) { tm := [(0, V.sl o0 b0 n0 x0), (1, V.agg [vi i0, vu i1, vu i2, V.str s0]), (3, V.ptr 0 0), (4, V.sl (some true) true 0 []), (5, vu (wU (i1.tdiv 32))), (6, vu (wU (i3.tdiv 32))), (7, V.ref 1), (22, V.sl o0 b0 n0 x0), (23, vi (↑x0.length : Int)), (24, vi i4)], hp := [(0, Ob.var [vi i0, vu i1, vu i2, V.str s0]), (1, Ob.row false 3 x1)], nx := 2 } = some (Exit.normal, { tm := [(0, V.sl o0 b0 n0 x0), (1, V.agg [vi i0, vu i1, vu i2, V.str s0]), (3, V.ptr 0 0), (4, V.sl (some true) true 0 []), (5, vu (wU (i1.tdiv 32))), (6, vu (wU (i3.tdiv 32))), (7, V.ref 50), (9, V.ptr 14 0), (22, V.sl o0 b0 n0 x0), (23, vi (↑x0.length : Int)), (24, vi (wI (i4 + 1))), (25, V.bool true), (31, V.bool true)], hp := [(0, Ob.var [vi i0, vu i1, vu i2, V.str s0]), (1, Ob.dead), (14, Ob.var [vu i5, vi i6, V.str s1]), (46, Ob.row false 3 [V.agg [vu i5, vi i6, V.str s1]]), (50, Ob.row false 3 (x1 ++ [V.agg [vu i5, vi i6, V.str s1]]))], nx := 66 }) :=
  byL (k := k) (d := 14) [Hn.br 25 true, Hn.op 26 ((V.agg [vu i5, vi i6, V.str s1]).cpt 0) [], Hn.br 31 true, Hn.op 35 (V.ref 50) [(1, Ob.dead), (50, Ob.row false 3 (x1 ++ [V.agg [vu i5, vi i6, V.str s1]]))]] (aI c0 (aI c1 (aI c2 (aI c3 trivial)))) (by kernel_rfl)
theorem L88_0_b0h (i0 i1 i2 i3 i4 i5 i6 : Int) (b0 : Bool) (s0 s1 : List UInt8) (x0 x1 : List V) (o0 : Option Bool) (n0 : Nat) : head 0 [0, 1, 3, 4, 5, 6, 7, 22, 23, 24] (Try.cfg.fc 88).acc { tm := [(0, V.sl o0 b0 n0 x0), (1, V.agg [vi i0, vu i1, vu i2, V.str s0]), (3, V.ptr 0 0), (4, V.sl (some true) true 0 []), (5, vu (wU (i1.tdiv 32))), (6, vu (wU (i3.tdiv 32))), (7, V.ref 50), (9, V.ptr 14 0), (22, V.sl o0 b0 n0 x0), (23, vi (↑x0.length : Int)), (24, vi (wI (i4 + 1))), (25, V.bool true), (31, V.bool true)], hp := [(0, Ob.var [vi i0, vu i1, vu i2, V.str s0]), (1, Ob.dead), (14, Ob.var [vu i5, vi i6, V.str s1]), (46, Ob.row false 3 [V.agg [vu i5, vi i6, V.str s1]]), (50, Ob.row false 3 (x1 ++ [V.agg [vu i5, vi i6, V.str s1]]))], nx := 66 } = { tm := [(0, V.sl o0 b0 n0 x0), (1, V.agg [vi i0, vu i1, vu i2, V.str s0]), (3, V.ptr 0 0), (4, V.sl (some true) true 0 []), (5, vu (wU (i1.tdiv 32))), (6, vu (wU (i3.tdiv 32))), (7, V.ref 1), (22, V.sl o0 b0 n0 x0), (23, vi (↑x0.length : Int)), (24, vi (wI (i4 + 1)))], hp := [(0, Ob.var [vi i0, vu i1, vu i2, V.str s0]), (1, Ob.row false 3 (x1 ++ [V.agg [vu i5, vi i6, V.str s1]]))], nx := 2 } := by kernel_rfl
theorem L88_0_b1 (i0 i1 i2 i3 i4 i5 i6 : Int) (b0 : Bool) (s0 s1 : List UInt8) (x0 x1 : List V) (o0 : Option Bool) (n0 k : Nat)
    (c0 : decide (i4 < (↑x0.length : Int)) = true)
    (c1 : IdxP x0 i4 n0 3 (V.agg [vu i5, vi i6, V.str s1]))
    (c2 : decide (i5 < wU (i1.tdiv 32)) = false) :
    eC k 14 0 88 (loopBody Try.f88 0) { tm := [(0, V.sl o0 b0 n0 x0), (1, V.agg [vi i0, vu i1, vu i2, V.str s0]), (3, V.ptr 0 0), (4, V.sl (some true) true 0 []), (5, vu (wU (i1.tdiv 32))), (6, vu (wU (i3.tdiv 32))), (7, V.ref 1), (22, V.sl o0 b0 n0 x0), (23, vi (↑x0.length : Int)), (24, vi i4)], hp := [(0, Ob.var [vi i0, vu i1, vu i2, V.str s0]), (1, Ob.row false 3 x1)], nx := 2 } = some (Exit.normal, { tm := [(0, V.sl o0 b0 n0 x0), (1, V.agg [vi i0, vu i1, vu i2, V.str s0]), (3, V.ptr 0 0), (4, V.sl (some true) true 0 []), (5, vu (wU (i1.tdiv 32))), (6, vu (wU (i3.tdiv 32))), (7, V.ref 1), (9, V.ptr 14 0), (22, V.sl o0 b0 n0 x0), (23, vi (↑x0.length : Int)), (24, vi (wI (i4 + 1))), (25, V.bool true), (31, V.bool false)], hp := [(0, Ob.var [vi i0, vu i1, vu i2, V.str s0]), (1, Ob.row false 3 x1), (14, Ob.var [vu i5, vi i6, V.str s1])], nx := 46 }) :=
  byL (k := k) (d := 14) [Hn.br 25 true, Hn.op 26 ((V.agg [vu i5, vi i6, V.str s1]).cpt 0) [], Hn.br 31 false] (aI c0 (aI c1 (aI c2 trivial))) (by kernel_rfl)
theorem L88_0_b1h (i0 i1 i2 i3 i4 i5 i6 : Int) (b0 : Bool) (s0 s1 : List UInt8) (x0 x1 : List V) (o0 : Option Bool) (n0 : Nat) : head 0 [0, 1, 3, 4, 5, 6, 7, 22, 23, 24] (Try.cfg.fc 88).acc { tm := [(0, V.sl o0 b0 n0 x0), (1, V.agg [vi i0, vu i1, vu i2, V.str s0]), (3, V.ptr 0 0), (4, V.sl (some true) true 0 []), (5, vu (wU (i1.tdiv 32))), (6, vu (wU (i3.tdiv 32))), (7, V.ref 1), (9, V.ptr 14 0), (22, V.sl o0 b0 n0 x0), (23, vi (↑x0.length : Int)), (24, vi (wI (i4 + 1))), (25, V.bool true), (31, V.bool false)], hp := [(0, Ob.var [vi i0, vu i1, vu i2, V.str s0]), (1, Ob.row false 3 x1), (14, Ob.var [vu i5, vi i6, V.str s1])], nx := 46 } = { tm := [(0, V.sl o0 b0 n0 x0), (1, V.agg [vi i0, vu i1, vu i2, V.str s0]), (3, V.ptr 0 0), (4, V.sl (some true) true 0 []), (5, vu (wU (i1.tdiv 32))), (6, vu (wU (i3.tdiv 32))), (7, V.ref 1), (22, V.sl o0 b0 n0 x0), (23, vi (↑x0.length : Int)), (24, vi (wI (i4 + 1)))], hp := [(0, Ob.var [vi i0, vu i1, vu i2, V.str s0]), (1, Ob.row false 3 x1)], nx := 2 } := by kernel_rfl
theorem L88_0_b2 (i0 i1 i2 i3 i4 : Int) (b0 : Bool) (s0 : List UInt8) (x0 x1 : List V) (o0 : Option Bool) (n0 k : Nat)
    (c0 : decide (i4 < (↑x0.length : Int)) = false) :
    eC k 14 0 88 (loopBody Try.f88 0) { tm := [(0, V.sl o0 b0 n0 x0), (1, V.agg [vi i0, vu i1, vu i2, V.str s0]), (3, V.ptr 0 0), (4, V.sl (some true) true 0 []), (5, vu (wU (i1.tdiv 32))), (6, vu (wU (i3.tdiv 32))), (7, V.ref 1), (22, V.sl o0 b0 n0 x0), (23, vi (↑x0.length : Int)), (24, vi i4)], hp := [(0, Ob.var [vi i0, vu i1, vu i2, V.str s0]), (1, Ob.row false 3 x1)], nx := 2 } = some (Exit.exit 0, { tm := [(0, V.sl o0 b0 n0 x0), (1, V.agg [vi i0, vu i1, vu i2, V.str s0]), (3, V.ptr 0 0), (4, V.sl (some true) true 0 []), (5, vu (wU (i1.tdiv 32))), (6, vu (wU (i3.tdiv 32))), (7, V.ref 1), (22, V.sl o0 b0 n0 x0), (23, vi (↑x0.length : Int)), (24, vi i4), (25, V.bool false)], hp := [(0, Ob.var [vi i0, vu i1, vu i2, V.str s0]), (1, Ob.row false 3 x1)], nx := 6 }) :=
  byL (k := k) (d := 14) [Hn.br 25 false] (aI c0 trivial) (by kernel_rfl)
inductive L88_0_R where
  | e0 (i4 : Int) (x1 : List V)
noncomputable def L88_0_end (i0 : Int) (i1 : Int) (i2 : Int) (i3 : Int) (b0 : Bool) (s0 : List UInt8) (x0 : List V) (o0 : Option Bool) (n0 : Nat) : L88_0_R → Exit × St
  | .e0 i4 x1 => (Exit.exit 0, { tm := [(0, V.sl o0 b0 n0 x0), (1, V.agg [V.int .i64 i0, V.int .u64 i1, V.int .u64 i2, V.str s0]), (3, V.ptr 0 0), (4, V.sl (some true) true 0 []), (5, V.int .u64 (IntKind.u64.wrap (i1.tdiv 32))), (6, V.int .u64 (IntKind.u64.wrap (i3.tdiv 32))), (7, V.ref 1), (22, V.sl o0 b0 n0 x0), (23, V.int .i64 (↑x0.length : Int)), (24, V.int .i64 i4), (25, V.bool false)], hp := [(0, Ob.var [V.int .i64 i0, V.int .u64 i1, V.int .u64 i2, V.str s0]), (1, Ob.row false 3 x1)], nx := 6 })
def L88_0 (k : Nat) (i0 i1 i2 i3 : Int) (b0 : Bool) (s0 : List UInt8) (x0 : List V) (o0 : Option Bool) (n0 : Nat) : Nat → Int → List V → Option L88_0_R
  | 0, _, _ => none
  | f + 1, i4, x1 => (bif decide (i4 < (↑x0.length : Int)) then (guardP (n0 = (3 : Nat)) (((at? (x0) (i4)).bind dAu64i64sZ).bind fun (i5, i6, s1) => (bif decide (i5 < IntKind.u64.wrap (i1.tdiv 32)) then (guardP (x1.length + (1 : Nat) ≤ maxLen') (L88_0 k i0 i1 i2 i3 b0 s0 x0 o0 n0 f (IntKind.i64.wrap (i4 + 1)) (x1 ++ [V.agg [V.int .u64 i5, V.int .i64 i6, V.str s1]]))) else (L88_0 k i0 i1 i2 i3 b0 s0 x0 o0 n0 f (IntKind.i64.wrap (i4 + 1)) (x1))))) else (some (L88_0_R.e0 i4 x1)))
theorem L88_0_ok {i0 i1 i2 i3 : Int} {b0 : Bool} {s0 : List UInt8} {x0 : List V} {o0 : Option Bool} {n0 k : Nat} : ∀ {f : Nat} {i4 : Int} {x1 : List V} {r : L88_0_R}, L88_0 k i0 i1 i2 i3 b0 s0 x0 o0 n0 f i4 x1 = some r →
    LoopsN Try.prog Try.cfg (k + 14) 0 Try.f88 (Try.cfg.fc 88) 0 [0, 1, 3, 4, 5, 6, 7, 22, 23, 24] f { tm := [(0, V.sl o0 b0 n0 x0), (1, V.agg [vi i0, vu i1, vu i2, V.str s0]), (3, V.ptr 0 0), (4, V.sl (some true) true 0 []), (5, vu (wU (i1.tdiv 32))), (6, vu (wU (i3.tdiv 32))), (7, V.ref 1), (22, V.sl o0 b0 n0 x0), (23, vi (↑x0.length : Int)), (24, vi i4)], hp := [(0, Ob.var [vi i0, vu i1, vu i2, V.str s0]), (1, Ob.row false 3 x1)], nx := 2 } (L88_0_end i0 i1 i2 i3 b0 s0 x0 o0 n0 r) := by
  intro f
  induction f with
  | zero => intro i4 x1 r h; cases h
  | succ f ih =>
    intro i4 x1 r h
    rw [L88_0] at h
    rcases cond_elim h with ⟨e0, h⟩ | ⟨e0, h⟩
    ·
      obtain ⟨e1, h⟩ := guardP_some.1 h
      obtain ⟨⟨i5, i6, s1⟩, e2, h⟩ := bE h
      rcases cond_elim h with ⟨e3, h⟩ | ⟨e3, h⟩
      ·
        obtain ⟨e4, h⟩ := guardP_some.1 h
        exact LoopsN.next (L88_0_b0 i0 i1 i2 i3 i4 i5 i6 b0 s0 s1 x0 x1 o0 n0 k e0 (IdxP.of_at' (at_d dAu64i64sZ_ok e2 :) e1) e3 (GrdW.mk ⟨rfl, by decide, by decide, e4⟩)) (L88_0_b0h i0 i1 i2 i3 i4 i5 i6 b0 s0 s1 x0 x1 o0 n0) (ih h)
      ·
        exact LoopsN.next (L88_0_b1 i0 i1 i2 i3 i4 i5 i6 b0 s0 s1 x0 x1 o0 n0 k e0 (IdxP.of_at' (at_d dAu64i64sZ_ok e2 :) e1) e3) (L88_0_b1h i0 i1 i2 i3 i4 i5 i6 b0 s0 s1 x0 x1 o0 n0) (ih h)
    ·
      cases h; exact LoopsN.done (L88_0_b2 i0 i1 i2 i3 i4 b0 s0 x0 x1 o0 n0 k e0) (fun h => by cases h)
theorem L88_1_b0 (i0 i1 i2 i3 i4 i5 i6 i7 : Int) (b0 : Bool) (s0 s1 : List UInt8) (x0 x2 : List V) (o0 : Option Bool) (n0 k : Nat)
    (c0 : decide (i5 ≤ wU (i3.tdiv 32)) = true)
    (c1 : cP ((k + 14)) 117 [V.sl o0 b0 n0 x0, vu i5, V.agg [vi i0, vu i1, vu i2, V.str s0]] = some (V.agg [vu i6, vi i7, V.str s1]))
    (c2 : (!decide (i7 = 0)) = true)
    (c3 : cP ((k + 14)) 117 [V.sl o0 b0 n0 x0, vu i5, V.agg [vi i0, vu i1, vu i2, V.str s0]] = some (V.agg [vu i6, vi i7, V.str s1]))
    (c4 : GrdW ((3 : Nat) = (3 : Nat) ∧ (0 : Nat) < (3 : Nat) ∧ (32 : Nat) ≤ (64 : Nat) ∧ x2.length + (1 : Nat) ≤ maxLen') (V.ref (62 : Nat)) [((1 : Nat), Ob.dead), ((62 : Nat), Ob.row false (3 : Nat) (x2 ++ [V.agg [vu i6, vi i7, V.str s1]]))]) :
    eC k 14 0 88 (loopBody Try.f88 1) { tm := [(0, V.sl o0 b0 n0 x0), (1, V.agg [vi i0, vu i1, vu i2, V.str s0]), (3, V.ptr 0 0), (4, V.sl (some true) true 0 []), (5, vu (wU (i1.tdiv 32))), (6, vu (wU (i3.tdiv 32))), (7, V.ref 1), (10, vu i5), (22, V.sl o0 b0 n0 x0), (23, vi (↑x0.length : Int)), (24, vi i4), (25, V.bool false)], hp := [(0, Ob.var [vi i0, vu i1, vu i2, V.str s0]), (1, Ob.row false 3 x2)], nx := 2 } = some (Exit.normal, { tm := [(0, V.sl o0 b0 n0 x0), (1, V.agg [vi i0, vu i1, vu i2, V.str s0]), (3, V.ptr 0 0), (4, V.sl (some true) true 0 []), (5, vu (wU (i1.tdiv 32))), (6, vu (wU (i3.tdiv 32))), (7, V.ref 62), (10, vu (wU (i5 + 1))), (22, V.sl o0 b0 n0 x0), (23, vi (↑x0.length : Int)), (24, vi i4), (25, V.bool false), (40, V.bool true), (48, V.bool true)], hp := [(0, Ob.var [vi i0, vu i1, vu i2, V.str s0]), (1, Ob.dead), (58, Ob.row false 3 [V.agg [vu i6, vi i7, V.str s1]]), (62, Ob.row false 3 (x2 ++ [V.agg [vu i6, vi i7, V.str s1]]))], nx := 82 }) :=
  byL (k := k) (d := 14) [Hn.br 40 true, Hn.call 46 (V.agg [vu i6, vi i7, V.str s1]), Hn.br 48 true, Hn.call 53 (V.agg [vu i6, vi i7, V.str s1]), Hn.op 55 (V.ref 62) [(1, Ob.dead), (62, Ob.row false 3 (x2 ++ [V.agg [vu i6, vi i7, V.str s1]]))]] (aI c0 (aI c1 (aI c2 (aI c3 (aI c4 trivial))))) (by kernel_rfl)
theorem L88_1_b0h (i0 i1 i2 i3 i4 i5 i6 i7 : Int) (b0 : Bool) (s0 s1 : List UInt8) (x0 x2 : List V) (o0 : Option Bool) (n0 : Nat) : head 0 [0, 1, 3, 4, 5, 6, 7, 10, 22, 23, 24, 25] (Try.cfg.fc 88).acc { tm := [(0, V.sl o0 b0 n0 x0), (1, V.agg [vi i0, vu i1, vu i2, V.str s0]), (3, V.ptr 0 0), (4, V.sl (some true) true 0 []), (5, vu (wU (i1.tdiv 32))), (6, vu (wU (i3.tdiv 32))), (7, V.ref 62), (10, vu (wU (i5 + 1))), (22, V.sl o0 b0 n0 x0), (23, vi (↑x0.length : Int)), (24, vi i4), (25, V.bool false), (40, V.bool true), (48, V.bool true)], hp := [(0, Ob.var [vi i0, vu i1, vu i2, V.str s0]), (1, Ob.dead), (58, Ob.row false 3 [V.agg [vu i6, vi i7, V.str s1]]), (62, Ob.row false 3 (x2 ++ [V.agg [vu i6, vi i7, V.str s1]]))], nx := 82 } = { tm := [(0, V.sl o0 b0 n0 x0), (1, V.agg [vi i0, vu i1, vu i2, V.str s0]), (3, V.ptr 0 0), (4, V.sl (some true) true 0 []), (5, vu (wU (i1.tdiv 32))), (6, vu (wU (i3.tdiv 32))), (7, V.ref 1), (10, vu (wU (i5 + 1))), (22, V.sl o0 b0 n0 x0), (23, vi (↑x0.length : Int)), (24, vi i4), (25, V.bool false)], hp := [(0, Ob.var [vi i0, vu i1, vu i2, V.str s0]), (1, Ob.row false 3 (x2 ++ [V.agg [vu i6, vi i7, V.str s1]]))], nx := 2 } := by kernel_rfl
theorem L88_1_b1 (i0 i1 i2 i3 i4 i5 i6 i7 : Int) (b0 : Bool) (s0 s1 : List UInt8) (x0 x2 : List V) (o0 : Option Bool) (n0 k : Nat)
    (c0 : decide (i5 ≤ wU (i3.tdiv 32)) = true)
    (c1 : cP ((k + 14)) 117 [V.sl o0 b0 n0 x0, vu i5, V.agg [vi i0, vu i1, vu i2, V.str s0]] = some (V.agg [vu i6, vi i7, V.str s1]))
    (c2 : (!decide (i7 = 0)) = false) :
    eC k 14 0 88 (loopBody Try.f88 1) { tm := [(0, V.sl o0 b0 n0 x0), (1, V.agg [vi i0, vu i1, vu i2, V.str s0]), (3, V.ptr 0 0), (4, V.sl (some true) true 0 []), (5, vu (wU (i1.tdiv 32))), (6, vu (wU (i3.tdiv 32))), (7, V.ref 1), (10, vu i5), (22, V.sl o0 b0 n0 x0), (23, vi (↑x0.length : Int)), (24, vi i4), (25, V.bool false)], hp := [(0, Ob.var [vi i0, vu i1, vu i2, V.str s0]), (1, Ob.row false 3 x2)], nx := 2 } = some (Exit.normal, { tm := [(0, V.sl o0 b0 n0 x0), (1, V.agg [vi i0, vu i1, vu i2, V.str s0]), (3, V.ptr 0 0), (4, V.sl (some true) true 0 []), (5, vu (wU (i1.tdiv 32))), (6, vu (wU (i3.tdiv 32))), (7, V.ref 1), (10, vu (wU (i5 + 1))), (22, V.sl o0 b0 n0 x0), (23, vi (↑x0.length : Int)), (24, vi i4), (25, V.bool false), (40, V.bool true), (48, V.bool false)], hp := [(0, Ob.var [vi i0, vu i1, vu i2, V.str s0]), (1, Ob.row false 3 x2)], nx := 50 }) :=
  byL (k := k) (d := 14) [Hn.br 40 true, Hn.call 46 (V.agg [vu i6, vi i7, V.str s1]), Hn.br 48 false] (aI c0 (aI c1 (aI c2 trivial))) (by kernel_rfl)
theorem L88_1_b1h (i0 i1 i2 i3 i4 i5 : Int) (b0 : Bool) (s0 : List UInt8) (x0 x2 : List V) (o0 : Option Bool) (n0 : Nat) : head 0 [0, 1, 3, 4, 5, 6, 7, 10, 22, 23, 24, 25] (Try.cfg.fc 88).acc { tm := [(0, V.sl o0 b0 n0 x0), (1, V.agg [vi i0, vu i1, vu i2, V.str s0]), (3, V.ptr 0 0), (4, V.sl (some true) true 0 []), (5, vu (wU (i1.tdiv 32))), (6, vu (wU (i3.tdiv 32))), (7, V.ref 1), (10, vu (wU (i5 + 1))), (22, V.sl o0 b0 n0 x0), (23, vi (↑x0.length : Int)), (24, vi i4), (25, V.bool false), (40, V.bool true), (48, V.bool false)], hp := [(0, Ob.var [vi i0, vu i1, vu i2, V.str s0]), (1, Ob.row false 3 x2)], nx := 50 } = { tm := [(0, V.sl o0 b0 n0 x0), (1, V.agg [vi i0, vu i1, vu i2, V.str s0]), (3, V.ptr 0 0), (4, V.sl (some true) true 0 []), (5, vu (wU (i1.tdiv 32))), (6, vu (wU (i3.tdiv 32))), (7, V.ref 1), (10, vu (wU (i5 + 1))), (22, V.sl o0 b0 n0 x0), (23, vi (↑x0.length : Int)), (24, vi i4), (25, V.bool false)], hp := [(0, Ob.var [vi i0, vu i1, vu i2, V.str s0]), (1, Ob.row false 3 x2)], nx := 2 } := by kernel_rfl
theorem L88_1_b2 (i0 i1 i2 i3 i4 i5 : Int) (b0 : Bool) (s0 : List UInt8) (x0 x2 : List V) (o0 : Option Bool) (n0 k : Nat)
    (c0 : decide (i5 ≤ wU (i3.tdiv 32)) = false) :
    eC k 14 0 88 (loopBody Try.f88 1) { tm := [(0, V.sl o0 b0 n0 x0), (1, V.agg [vi i0, vu i1, vu i2, V.str s0]), (3, V.ptr 0 0), (4, V.sl (some true) true 0 []), (5, vu (wU (i1.tdiv 32))), (6, vu (wU (i3.tdiv 32))), (7, V.ref 1), (10, vu i5), (22, V.sl o0 b0 n0 x0), (23, vi (↑x0.length : Int)), (24, vi i4), (25, V.bool false)], hp := [(0, Ob.var [vi i0, vu i1, vu i2, V.str s0]), (1, Ob.row false 3 x2)], nx := 2 } = some (Exit.exit 2, { tm := [(0, V.sl o0 b0 n0 x0), (1, V.agg [vi i0, vu i1, vu i2, V.str s0]), (3, V.ptr 0 0), (4, V.sl (some true) true 0 []), (5, vu (wU (i1.tdiv 32))), (6, vu (wU (i3.tdiv 32))), (7, V.ref 1), (10, vu i5), (22, V.sl o0 b0 n0 x0), (23, vi (↑x0.length : Int)), (24, vi i4), (25, V.bool false), (40, V.bool false)], hp := [(0, Ob.var [vi i0, vu i1, vu i2, V.str s0]), (1, Ob.row false 3 x2)], nx := 14 }) :=
  byL (k := k) (d := 14) [Hn.br 40 false] (aI c0 trivial) (by kernel_rfl)
inductive L88_1_R where
  | e0 (i5 : Int) (x2 : List V)
noncomputable def L88_1_end (i0 : Int) (i1 : Int) (i2 : Int) (i3 : Int) (i4 : Int) (b0 : Bool) (s0 : List UInt8) (x0 : List V) (o0 : Option Bool) (n0 : Nat) : L88_1_R → Exit × St
  | .e0 i5 x2 => (Exit.exit 2, { tm := [(0, V.sl o0 b0 n0 x0), (1, V.agg [V.int .i64 i0, V.int .u64 i1, V.int .u64 i2, V.str s0]), (3, V.ptr 0 0), (4, V.sl (some true) true 0 []), (5, V.int .u64 (IntKind.u64.wrap (i1.tdiv 32))), (6, V.int .u64 (IntKind.u64.wrap (i3.tdiv 32))), (7, V.ref 1), (10, V.int .u64 i5), (22, V.sl o0 b0 n0 x0), (23, V.int .i64 (↑x0.length : Int)), (24, V.int .i64 i4), (25, V.bool false), (40, V.bool false)], hp := [(0, Ob.var [V.int .i64 i0, V.int .u64 i1, V.int .u64 i2, V.str s0]), (1, Ob.row false 3 x2)], nx := 14 })
def L88_1 (k : Nat) (i0 i1 i2 i3 i4 : Int) (b0 : Bool) (s0 : List UInt8) (x0 : List V) (o0 : Option Bool) (n0 : Nat) : Nat → Int → List V → Option L88_1_R
  | 0, _, _ => none
  | f + 1, i5, x2 => (bif decide (i5 ≤ IntKind.u64.wrap (i3.tdiv 32)) then ((F117 (k + 2) (o0) (b0) (n0) (x0) (i5) (i0) (i1) (i2) (s0)).bind fun (i6, i7, s1) => (bif !decide (i7 = 0) then (guardP (x2.length + (1 : Nat) ≤ maxLen') (L88_1 k i0 i1 i2 i3 i4 b0 s0 x0 o0 n0 f (IntKind.u64.wrap (i5 + 1)) (x2 ++ [V.agg [V.int .u64 i6, V.int .i64 i7, V.str s1]]))) else (L88_1 k i0 i1 i2 i3 i4 b0 s0 x0 o0 n0 f (IntKind.u64.wrap (i5 + 1)) (x2)))) else (some (L88_1_R.e0 i5 x2)))
theorem L88_1_ok {i0 i1 i2 i3 i4 : Int} {b0 : Bool} {s0 : List UInt8} {x0 : List V} {o0 : Option Bool} {n0 k : Nat} : ∀ {f : Nat} {i5 : Int} {x2 : List V} {r : L88_1_R}, L88_1 k i0 i1 i2 i3 i4 b0 s0 x0 o0 n0 f i5 x2 = some r →
    LoopsN Try.prog Try.cfg (k + 14) 0 Try.f88 (Try.cfg.fc 88) 1 [0, 1, 3, 4, 5, 6, 7, 10, 22, 23, 24, 25] f { tm := [(0, V.sl o0 b0 n0 x0), (1, V.agg [vi i0, vu i1, vu i2, V.str s0]), (3, V.ptr 0 0), (4, V.sl (some true) true 0 []), (5, vu (wU (i1.tdiv 32))), (6, vu (wU (i3.tdiv 32))), (7, V.ref 1), (10, vu i5), (22, V.sl o0 b0 n0 x0), (23, vi (↑x0.length : Int)), (24, vi i4), (25, V.bool false)], hp := [(0, Ob.var [vi i0, vu i1, vu i2, V.str s0]), (1, Ob.row false 3 x2)], nx := 2 } (L88_1_end i0 i1 i2 i3 i4 b0 s0 x0 o0 n0 r) := by
  intro f
  induction f with
  | zero => intro i5 x2 r h; cases h
  | succ f ih =>
    intro i5 x2 r h
    rw [L88_1] at h
    rcases cond_elim h with ⟨e0, h⟩ | ⟨e0, h⟩
    ·
      obtain ⟨⟨i6, i7, s1⟩, e1, h⟩ := bE h
      rcases cond_elim h with ⟨e2, h⟩ | ⟨e2, h⟩
      ·
        obtain ⟨e3, h⟩ := guardP_some.1 h
        exact LoopsN.next (L88_1_b0 i0 i1 i2 i3 i4 i5 i6 i7 b0 s0 s1 x0 x2 o0 n0 k e0 (F117_ok e1) e2 (F117_ok e1) (GrdW.mk ⟨rfl, by decide, by decide, e3⟩)) (L88_1_b0h i0 i1 i2 i3 i4 i5 i6 i7 b0 s0 s1 x0 x2 o0 n0) (ih h)
      ·
        exact LoopsN.next (L88_1_b1 i0 i1 i2 i3 i4 i5 i6 i7 b0 s0 s1 x0 x2 o0 n0 k e0 (F117_ok e1) e2) (L88_1_b1h i0 i1 i2 i3 i4 i5 b0 s0 x0 x2 o0 n0) (ih h)
    ·
      cases h; exact LoopsN.done (L88_1_b2 i0 i1 i2 i3 i4 i5 b0 s0 x0 x2 o0 n0 k e0) (fun h => by cases h)
theorem L88_2_b0 (i0 i1 i2 i3 i4 i5 i6 i7 i8 : Int) (b0 : Bool) (s0 s1 : List UInt8) (x0 x3 : List V) (o0 : Option Bool) (n0 k : Nat)
    (c0 : decide (i6 < (↑x0.length : Int)) = true)
    (c1 : IdxP x0 i6 n0 3 (V.agg [vu i7, vi i8, V.str s1]))
    (c2 : decide (wU (i3.tdiv 32) < i7) = true)
    (c3 : GrdW ((3 : Nat) = (3 : Nat) ∧ (0 : Nat) < (3 : Nat) ∧ (32 : Nat) ≤ (64 : Nat) ∧ x3.length + (1 : Nat) ≤ maxLen') (V.ref (50 : Nat)) [((1 : Nat), Ob.dead), ((50 : Nat), Ob.row false (3 : Nat) (x3 ++ [V.agg [vu i7, vi i8, V.str s1]]))]) :
    eC k 14 0 88 (loopBody Try.f88 2) { tm := [(0, V.sl o0 b0 n0 x0), (1, V.agg [vi i0, vu i1, vu i2, V.str s0]), (3, V.ptr 0 0), (4, V.sl (some true) true 0 []), (5, vu (wU (i1.tdiv 32))), (6, vu (wU (i3.tdiv 32))), (7, V.ref 1), (10, vu i5), (22, V.sl o0 b0 n0 x0), (23, vi (↑x0.length : Int)), (24, vi i4), (25, V.bool false), (40, V.bool false), (56, V.sl o0 b0 n0 x0), (57, vi (↑x0.length : Int)), (58, vi i6)], hp := [(0, Ob.var [vi i0, vu i1, vu i2, V.str s0]), (1, Ob.row false 3 x3)], nx := 2 } = some (Exit.normal, { tm := [(0, V.sl o0 b0 n0 x0), (1, V.agg [vi i0, vu i1, vu i2, V.str s0]), (3, V.ptr 0 0), (4, V.sl (some true) true 0 []), (5, vu (wU (i1.tdiv 32))), (6, vu (wU (i3.tdiv 32))), (7, V.ref 50), (10, vu i5), (12, V.ptr 14 0), (22, V.sl o0 b0 n0 x0), (23, vi (↑x0.length : Int)), (24, vi i4), (25, V.bool false), (40, V.bool false), (56, V.sl o0 b0 n0 x0), (57, vi (↑x0.length : Int)), (58, vi (wI (i6 + 1))), (59, V.bool true), (65, V.bool true)], hp := [(0, Ob.var [vi i0, vu i1, vu i2, V.str s0]), (1, Ob.dead), (14, Ob.var [vu i7, vi i8, V.str s1]), (46, Ob.row false 3 [V.agg [vu i7, vi i8, V.str s1]]), (50, Ob.row false 3 (x3 ++ [V.agg [vu i7, vi i8, V.str s1]]))], nx := 66 }) :=
  byL (k := k) (d := 14) [Hn.br 59 true, Hn.op 60 ((V.agg [vu i7, vi i8, V.str s1]).cpt 0) [], Hn.br 65 true, Hn.op 69 (V.ref 50) [(1, Ob.dead), (50, Ob.row false 3 (x3 ++ [V.agg [vu i7, vi i8, V.str s1]]))]] (aI c0 (aI c1 (aI c2 (aI c3 trivial)))) (by kernel_rfl)
theorem L88_2_b0h (i0 i1 i2 i3 i4 i5 i6 i7 i8 : Int) (b0 : Bool) (s0 s1 : List UInt8) (x0 x3 : List V) (o0 : Option Bool) (n0 : Nat) : head 0 [0, 1, 3, 4, 5, 6, 7, 10, 22, 23, 24, 25, 40, 56, 57, 58] (Try.cfg.fc 88).acc { tm := [(0, V.sl o0 b0 n0 x0), (1, V.agg [vi i0, vu i1, vu i2, V.str s0]), (3, V.ptr 0 0), (4, V.sl (some true) true 0 []), (5, vu (wU (i1.tdiv 32))), (6, vu (wU (i3.tdiv 32))), (7, V.ref 50), (10, vu i5), (12, V.ptr 14 0), (22, V.sl o0 b0 n0 x0), (23, vi (↑x0.length : Int)), (24, vi i4), (25, V.bool false), (40, V.bool false), (56, V.sl o0 b0 n0 x0), (57, vi (↑x0.length : Int)), (58, vi (wI (i6 + 1))), (59, V.bool true), (65, V.bool true)], hp := [(0, Ob.var [vi i0, vu i1, vu i2, V.str s0]), (1, Ob.dead), (14, Ob.var [vu i7, vi i8, V.str s1]), (46, Ob.row false 3 [V.agg [vu i7, vi i8, V.str s1]]), (50, Ob.row false 3 (x3 ++ [V.agg [vu i7, vi i8, V.str s1]]))], nx := 66 } = { tm := [(0, V.sl o0 b0 n0 x0), (1, V.agg [vi i0, vu i1, vu i2, V.str s0]), (3, V.ptr 0 0), (4, V.sl (some true) true 0 []), (5, vu (wU (i1.tdiv 32))), (6, vu (wU (i3.tdiv 32))), (7, V.ref 1), (10, vu i5), (22, V.sl o0 b0 n0 x0), (23, vi (↑x0.length : Int)), (24, vi i4), (25, V.bool false), (40, V.bool false), (56, V.sl o0 b0 n0 x0), (57, vi (↑x0.length : Int)), (58, vi (wI (i6 + 1)))], hp := [(0, Ob.var [vi i0, vu i1, vu i2, V.str s0]), (1, Ob.row false 3 (x3 ++ [V.agg [vu i7, vi i8, V.str s1]]))], nx := 2 } := by kernel_rfl
theorem L88_2_b1 (i0 i1 i2 i3 i4 i5 i6 i7 i8 : Int) (b0 : Bool) (s0 s1 : List UInt8) (x0 x3 : List V) (o0 : Option Bool) (n0 k : Nat)
    (c0 : decide (i6 < (↑x0.length : Int)) = true)
    (c1 : IdxP x0 i6 n0 3 (V.agg [vu i7, vi i8, V.str s1]))
    (c2 : decide (wU (i3.tdiv 32) < i7) = false) :
    eC k 14 0 88 (loopBody Try.f88 2) { tm := [(0, V.sl o0 b0 n0 x0), (1, V.agg [vi i0, vu i1, vu i2, V.str s0]), (3, V.ptr 0 0), (4, V.sl (some true) true 0 []), (5, vu (wU (i1.tdiv 32))), (6, vu (wU (i3.tdiv 32))), (7, V.ref 1), (10, vu i5), (22, V.sl o0 b0 n0 x0), (23, vi (↑x0.length : Int)), (24, vi i4), (25, V.bool false), (40, V.bool false), (56, V.sl o0 b0 n0 x0), (57, vi (↑x0.length : Int)), (58, vi i6)], hp := [(0, Ob.var [vi i0, vu i1, vu i2, V.str s0]), (1, Ob.row false 3 x3)], nx := 2 } = some (Exit.normal, { tm := [(0, V.sl o0 b0 n0 x0), (1, V.agg [vi i0, vu i1, vu i2, V.str s0]), (3, V.ptr 0 0), (4, V.sl (some true) true 0 []), (5, vu (wU (i1.tdiv 32))), (6, vu (wU (i3.tdiv 32))), (7, V.ref 1), (10, vu i5), (12, V.ptr 14 0), (22, V.sl o0 b0 n0 x0), (23, vi (↑x0.length : Int)), (24, vi i4), (25, V.bool false), (40, V.bool false), (56, V.sl o0 b0 n0 x0), (57, vi (↑x0.length : Int)), (58, vi (wI (i6 + 1))), (59, V.bool true), (65, V.bool false)], hp := [(0, Ob.var [vi i0, vu i1, vu i2, V.str s0]), (1, Ob.row false 3 x3), (14, Ob.var [vu i7, vi i8, V.str s1])], nx := 46 }) :=
  byL (k := k) (d := 14) [Hn.br 59 true, Hn.op 60 ((V.agg [vu i7, vi i8, V.str s1]).cpt 0) [], Hn.br 65 false] (aI c0 (aI c1 (aI c2 trivial))) (by kernel_rfl)
theorem L88_2_b1h (i0 i1 i2 i3 i4 i5 i6 i7 i8 : Int) (b0 : Bool) (s0 s1 : List UInt8) (x0 x3 : List V) (o0 : Option Bool) (n0 : Nat) : head 0 [0, 1, 3, 4, 5, 6, 7, 10, 22, 23, 24, 25, 40, 56, 57, 58] (Try.cfg.fc 88).acc { tm := [(0, V.sl o0 b0 n0 x0), (1, V.agg [vi i0, vu i1, vu i2, V.str s0]), (3, V.ptr 0 0), (4, V.sl (some true) true 0 []), (5, vu (wU (i1.tdiv 32))), (6, vu (wU (i3.tdiv 32))), (7, V.ref 1), (10, vu i5), (12, V.ptr 14 0), (22, V.sl o0 b0 n0 x0), (23, vi (↑x0.length : Int)), (24, vi i4), (25, V.bool false), (40, V.bool false), (56, V.sl o0 b0 n0 x0), (57, vi (↑x0.length : Int)), (58, vi (wI (i6 + 1))), (59, V.bool true), (65, V.bool false)], hp := [(0, Ob.var [vi i0, vu i1, vu i2, V.str s0]), (1, Ob.row false 3 x3), (14, Ob.var [vu i7, vi i8, V.str s1])], nx := 46 } = { tm := [(0, V.sl o0 b0 n0 x0), (1, V.agg [vi i0, vu i1, vu i2, V.str s0]), (3, V.ptr 0 0), (4, V.sl (some true) true 0 []), (5, vu (wU (i1.tdiv 32))), (6, vu (wU (i3.tdiv 32))), (7, V.ref 1), (10, vu i5), (22, V.sl o0 b0 n0 x0), (23, vi (↑x0.length : Int)), (24, vi i4), (25, V.bool false), (40, V.bool false), (56, V.sl o0 b0 n0 x0), (57, vi (↑x0.length : Int)), (58, vi (wI (i6 + 1)))], hp := [(0, Ob.var [vi i0, vu i1, vu i2, V.str s0]), (1, Ob.row false 3 x3)], nx := 2 } := by kernel_rfl
theorem L88_2_b2 (i0 i1 i2 i3 i4 i5 i6 : Int) (b0 : Bool) (s0 : List UInt8) (x0 x3 : List V) (o0 : Option Bool) (n0 k : Nat)
    (c0 : decide (i6 < (↑x0.length : Int)) = false) :
    eC k 14 0 88 (loopBody Try.f88 2) { tm := [(0, V.sl o0 b0 n0 x0), (1, V.agg [vi i0, vu i1, vu i2, V.str s0]), (3, V.ptr 0 0), (4, V.sl (some true) true 0 []), (5, vu (wU (i1.tdiv 32))), (6, vu (wU (i3.tdiv 32))), (7, V.ref 1), (10, vu i5), (22, V.sl o0 b0 n0 x0), (23, vi (↑x0.length : Int)), (24, vi i4), (25, V.bool false), (40, V.bool false), (56, V.sl o0 b0 n0 x0), (57, vi (↑x0.length : Int)), (58, vi i6)], hp := [(0, Ob.var [vi i0, vu i1, vu i2, V.str s0]), (1, Ob.row false 3 x3)], nx := 2 } = some (Exit.exit 4, { tm := [(0, V.sl o0 b0 n0 x0), (1, V.agg [vi i0, vu i1, vu i2, V.str s0]), (3, V.ptr 0 0), (4, V.sl (some true) true 0 []), (5, vu (wU (i1.tdiv 32))), (6, vu (wU (i3.tdiv 32))), (7, V.ref 1), (10, vu i5), (22, V.sl o0 b0 n0 x0), (23, vi (↑x0.length : Int)), (24, vi i4), (25, V.bool false), (40, V.bool false), (56, V.sl o0 b0 n0 x0), (57, vi (↑x0.length : Int)), (58, vi i6), (59, V.bool false)], hp := [(0, Ob.var [vi i0, vu i1, vu i2, V.str s0]), (1, Ob.row false 3 x3)], nx := 6 }) :=
  byL (k := k) (d := 14) [Hn.br 59 false] (aI c0 trivial) (by kernel_rfl)
inductive L88_2_R where
  | e0 (i6 : Int) (x3 : List V)
noncomputable def L88_2_end (i0 : Int) (i1 : Int) (i2 : Int) (i3 : Int) (i4 : Int) (i5 : Int) (b0 : Bool) (s0 : List UInt8) (x0 : List V) (o0 : Option Bool) (n0 : Nat) : L88_2_R → Exit × St
  | .e0 i6 x3 => (Exit.exit 4, { tm := [(0, V.sl o0 b0 n0 x0), (1, V.agg [V.int .i64 i0, V.int .u64 i1, V.int .u64 i2, V.str s0]), (3, V.ptr 0 0), (4, V.sl (some true) true 0 []), (5, V.int .u64 (IntKind.u64.wrap (i1.tdiv 32))), (6, V.int .u64 (IntKind.u64.wrap (i3.tdiv 32))), (7, V.ref 1), (10, V.int .u64 i5), (22, V.sl o0 b0 n0 x0), (23, V.int .i64 (↑x0.length : Int)), (24, V.int .i64 i4), (25, V.bool false), (40, V.bool false), (56, V.sl o0 b0 n0 x0), (57, V.int .i64 (↑x0.length : Int)), (58, V.int .i64 i6), (59, V.bool false)], hp := [(0, Ob.var [V.int .i64 i0, V.int .u64 i1, V.int .u64 i2, V.str s0]), (1, Ob.row false 3 x3)], nx := 6 })
def L88_2 (k : Nat) (i0 i1 i2 i3 i4 i5 : Int) (b0 : Bool) (s0 : List UInt8) (x0 : List V) (o0 : Option Bool) (n0 : Nat) : Nat → Int → List V → Option L88_2_R
  | 0, _, _ => none
  | f + 1, i6, x3 => (bif decide (i6 < (↑x0.length : Int)) then (guardP (n0 = (3 : Nat)) (((at? (x0) (i6)).bind dAu64i64sZ).bind fun (i7, i8, s1) => (bif decide (IntKind.u64.wrap (i3.tdiv 32) < i7) then (guardP (x3.length + (1 : Nat) ≤ maxLen') (L88_2 k i0 i1 i2 i3 i4 i5 b0 s0 x0 o0 n0 f (IntKind.i64.wrap (i6 + 1)) (x3 ++ [V.agg [V.int .u64 i7, V.int .i64 i8, V.str s1]]))) else (L88_2 k i0 i1 i2 i3 i4 i5 b0 s0 x0 o0 n0 f (IntKind.i64.wrap (i6 + 1)) (x3))))) else (some (L88_2_R.e0 i6 x3)))
theorem L88_2_ok {i0 i1 i2 i3 i4 i5 : Int} {b0 : Bool} {s0 : List UInt8} {x0 : List V} {o0 : Option Bool} {n0 k : Nat} : ∀ {f : Nat} {i6 : Int} {x3 : List V} {r : L88_2_R}, L88_2 k i0 i1 i2 i3 i4 i5 b0 s0 x0 o0 n0 f i6 x3 = some r →
    LoopsN Try.prog Try.cfg (k + 14) 0 Try.f88 (Try.cfg.fc 88) 2 [0, 1, 3, 4, 5, 6, 7, 10, 22, 23, 24, 25, 40, 56, 57, 58] f { tm := [(0, V.sl o0 b0 n0 x0), (1, V.agg [vi i0, vu i1, vu i2, V.str s0]), (3, V.ptr 0 0), (4, V.sl (some true) true 0 []), (5, vu (wU (i1.tdiv 32))), (6, vu (wU (i3.tdiv 32))), (7, V.ref 1), (10, vu i5), (22, V.sl o0 b0 n0 x0), (23, vi (↑x0.length : Int)), (24, vi i4), (25, V.bool false), (40, V.bool false), (56, V.sl o0 b0 n0 x0), (57, vi (↑x0.length : Int)), (58, vi i6)], hp := [(0, Ob.var [vi i0, vu i1, vu i2, V.str s0]), (1, Ob.row false 3 x3)], nx := 2 } (L88_2_end i0 i1 i2 i3 i4 i5 b0 s0 x0 o0 n0 r) := by
  intro f
  induction f with
  | zero => intro i6 x3 r h; cases h
  | succ f ih =>
    intro i6 x3 r h
    rw [L88_2] at h
    rcases cond_elim h with ⟨e0, h⟩ | ⟨e0, h⟩
    ·
      obtain ⟨e1, h⟩ := guardP_some.1 h
      obtain ⟨⟨i7, i8, s1⟩, e2, h⟩ := bE h
      rcases cond_elim h with ⟨e3, h⟩ | ⟨e3, h⟩
      ·
        obtain ⟨e4, h⟩ := guardP_some.1 h
        exact LoopsN.next (L88_2_b0 i0 i1 i2 i3 i4 i5 i6 i7 i8 b0 s0 s1 x0 x3 o0 n0 k e0 (IdxP.of_at' (at_d dAu64i64sZ_ok e2 :) e1) e3 (GrdW.mk ⟨rfl, by decide, by decide, e4⟩)) (L88_2_b0h i0 i1 i2 i3 i4 i5 i6 i7 i8 b0 s0 s1 x0 x3 o0 n0) (ih h)
      ·
        exact LoopsN.next (L88_2_b1 i0 i1 i2 i3 i4 i5 i6 i7 i8 b0 s0 s1 x0 x3 o0 n0 k e0 (IdxP.of_at' (at_d dAu64i64sZ_ok e2 :) e1) e3) (L88_2_b1h i0 i1 i2 i3 i4 i5 i6 i7 i8 b0 s0 s1 x0 x3 o0 n0) (ih h)
    ·
      cases h; exact LoopsN.done (L88_2_b2 i0 i1 i2 i3 i4 i5 i6 b0 s0 x0 x3 o0 n0 k e0) (fun h => by cases h)
theorem P88_0 (i0 i1 i2 i3 i4 i5 i6 : Int) (b0 : Bool) (s0 : List UInt8) (x0 x1 x2 x3 : List V) (o0 : Option Bool) (n0 k : Nat)
    (c0 : cP ((k + 14)) 20 [V.agg [vu i1, vu i2]] = some (vu i3))
    (c1 : LoopsN Try.prog Try.cfg (k + 14) 0 Try.f88 (Try.cfg.fc 88) 0 [0, 1, 3, 4, 5, 6, 7, 22, 23, 24] (k + 14) { tm := [(0, V.sl o0 b0 n0 x0), (1, V.agg [vi i0, vu i1, vu i2, V.str s0]), (3, V.ptr 0 0), (4, V.sl (some true) true 0 []), (5, vu (wU (i1.tdiv 32))), (6, vu (wU (i3.tdiv 32))), (7, V.ref 1), (22, V.sl o0 b0 n0 x0), (23, vi (↑x0.length : Int)), (24, vi 0)], hp := [(0, Ob.var [vi i0, vu i1, vu i2, V.str s0]), (1, Ob.row false 3 [])], nx := 2 } (Exit.exit 0, { tm := [(0, V.sl o0 b0 n0 x0), (1, V.agg [vi i0, vu i1, vu i2, V.str s0]), (3, V.ptr 0 0), (4, V.sl (some true) true 0 []), (5, vu (wU (i1.tdiv 32))), (6, vu (wU (i3.tdiv 32))), (7, V.ref 1), (22, V.sl o0 b0 n0 x0), (23, vi (↑x0.length : Int)), (24, vi i4), (25, V.bool false)], hp := [(0, Ob.var [vi i0, vu i1, vu i2, V.str s0]), (1, Ob.row false 3 x1)], nx := 6 }))
    (c2 : LoopsN Try.prog Try.cfg (k + 14) 0 Try.f88 (Try.cfg.fc 88) 1 [0, 1, 3, 4, 5, 6, 7, 10, 22, 23, 24, 25] (k + 14) { tm := [(0, V.sl o0 b0 n0 x0), (1, V.agg [vi i0, vu i1, vu i2, V.str s0]), (3, V.ptr 0 0), (4, V.sl (some true) true 0 []), (5, vu (wU (i1.tdiv 32))), (6, vu (wU (i3.tdiv 32))), (7, V.ref 1), (10, vu (wU (i1.tdiv 32))), (22, V.sl o0 b0 n0 x0), (23, vi (↑x0.length : Int)), (24, vi i4), (25, V.bool false)], hp := [(0, Ob.var [vi i0, vu i1, vu i2, V.str s0]), (1, Ob.row false 3 x1)], nx := 2 } (Exit.exit 2, { tm := [(0, V.sl o0 b0 n0 x0), (1, V.agg [vi i0, vu i1, vu i2, V.str s0]), (3, V.ptr 0 0), (4, V.sl (some true) true 0 []), (5, vu (wU (i1.tdiv 32))), (6, vu (wU (i3.tdiv 32))), (7, V.ref 1), (10, vu i5), (22, V.sl o0 b0 n0 x0), (23, vi (↑x0.length : Int)), (24, vi i4), (25, V.bool false), (40, V.bool false)], hp := [(0, Ob.var [vi i0, vu i1, vu i2, V.str s0]), (1, Ob.row false 3 x2)], nx := 14 }))
    (c3 : LoopsN Try.prog Try.cfg (k + 14) 0 Try.f88 (Try.cfg.fc 88) 2 [0, 1, 3, 4, 5, 6, 7, 10, 22, 23, 24, 25, 40, 56, 57, 58] (k + 14) { tm := [(0, V.sl o0 b0 n0 x0), (1, V.agg [vi i0, vu i1, vu i2, V.str s0]), (3, V.ptr 0 0), (4, V.sl (some true) true 0 []), (5, vu (wU (i1.tdiv 32))), (6, vu (wU (i3.tdiv 32))), (7, V.ref 1), (10, vu i5), (22, V.sl o0 b0 n0 x0), (23, vi (↑x0.length : Int)), (24, vi i4), (25, V.bool false), (40, V.bool false), (56, V.sl o0 b0 n0 x0), (57, vi (↑x0.length : Int)), (58, vi 0)], hp := [(0, Ob.var [vi i0, vu i1, vu i2, V.str s0]), (1, Ob.row false 3 x2)], nx := 2 } (Exit.exit 4, { tm := [(0, V.sl o0 b0 n0 x0), (1, V.agg [vi i0, vu i1, vu i2, V.str s0]), (3, V.ptr 0 0), (4, V.sl (some true) true 0 []), (5, vu (wU (i1.tdiv 32))), (6, vu (wU (i3.tdiv 32))), (7, V.ref 1), (10, vu i5), (22, V.sl o0 b0 n0 x0), (23, vi (↑x0.length : Int)), (24, vi i4), (25, V.bool false), (40, V.bool false), (56, V.sl o0 b0 n0 x0), (57, vi (↑x0.length : Int)), (58, vi i6), (59, V.bool false)], hp := [(0, Ob.var [vi i0, vu i1, vu i2, V.str s0]), (1, Ob.row false 3 x3)], nx := 6 })) :
    cP ((k + 15)) 88 [V.sl o0 b0 n0 x0, V.agg [vi i0, vu i1, vu i2, V.str s0]] = some (V.sl none false 3 x3) :=
  byF (k := k) (d := 15) [Hn.call 19 (vu i3), Hn.loop (Exit.exit 0, { tm := [(0, V.sl o0 b0 n0 x0), (1, V.agg [vi i0, vu i1, vu i2, V.str s0]), (3, V.ptr 0 0), (4, V.sl (some true) true 0 []), (5, vu (wU (i1.tdiv 32))), (6, vu (wU (i3.tdiv 32))), (7, V.ref 1), (22, V.sl o0 b0 n0 x0), (23, vi (↑x0.length : Int)), (24, vi i4), (25, V.bool false)], hp := [(0, Ob.var [vi i0, vu i1, vu i2, V.str s0]), (1, Ob.row false 3 x1)], nx := 6 }), Hn.loop (Exit.exit 2, { tm := [(0, V.sl o0 b0 n0 x0), (1, V.agg [vi i0, vu i1, vu i2, V.str s0]), (3, V.ptr 0 0), (4, V.sl (some true) true 0 []), (5, vu (wU (i1.tdiv 32))), (6, vu (wU (i3.tdiv 32))), (7, V.ref 1), (10, vu i5), (22, V.sl o0 b0 n0 x0), (23, vi (↑x0.length : Int)), (24, vi i4), (25, V.bool false), (40, V.bool false)], hp := [(0, Ob.var [vi i0, vu i1, vu i2, V.str s0]), (1, Ob.row false 3 x2)], nx := 14 }), Hn.loop (Exit.exit 4, { tm := [(0, V.sl o0 b0 n0 x0), (1, V.agg [vi i0, vu i1, vu i2, V.str s0]), (3, V.ptr 0 0), (4, V.sl (some true) true 0 []), (5, vu (wU (i1.tdiv 32))), (6, vu (wU (i3.tdiv 32))), (7, V.ref 1), (10, vu i5), (22, V.sl o0 b0 n0 x0), (23, vi (↑x0.length : Int)), (24, vi i4), (25, V.bool false), (40, V.bool false), (56, V.sl o0 b0 n0 x0), (57, vi (↑x0.length : Int)), (58, vi i6), (59, V.bool false)], hp := [(0, Ob.var [vi i0, vu i1, vu i2, V.str s0]), (1, Ob.row false 3 x3)], nx := 6 })] (aI c0 (aI c1 (aI c2 (aI c3 trivial)))) (by kernel_rfl)
def F88 (k : Nat) (o0 : Option Bool) (b0 : Bool) (n0 : Nat) (x0 : List V) (i0 i1 i2 : Int) (s0 : List UInt8) : Option (Option Bool × Bool × Nat × List V) :=
  ((F20 (k + 11) (i1) (i2)).bind fun i3 => ((L88_0 k i0 i1 i2 i3 b0 s0 x0 o0 n0 (k + 14) (0) ([])).bind fun
    | L88_0_R.e0 i4 x1 => ((L88_1 k i0 i1 i2 i3 i4 b0 s0 x0 o0 n0 (k + 14) (IntKind.u64.wrap (i1.tdiv 32)) (x1)).bind fun
    | L88_1_R.e0 i5 x2 => ((L88_2 k i0 i1 i2 i3 i4 i5 b0 s0 x0 o0 n0 (k + 14) (0) (x2)).bind fun
    | L88_2_R.e0 i6 x3 => (some ((none), (false), (3), (x3)))))))
theorem F88_ok {o0 : Option Bool} {b0 : Bool} {n0 : Nat} {x0 : List V} {i0 i1 i2 : Int} {s0 : List UInt8} {k : Nat} {r : Option Bool × Bool × Nat × List V} (h : F88 k o0 b0 n0 x0 i0 i1 i2 s0 = some r) :
    cP ((k + 15)) 88 [V.sl o0 b0 n0 x0, V.agg [vi i0, vu i1, vu i2, V.str s0]] = some (V.sl r.1 r.2.1 r.2.2.1 r.2.2.2) := by
  unfold F88 at h
  obtain ⟨i3, e0, h⟩ := bE h
  obtain ⟨ee, e1, h⟩ := bE h
  cases ee with
  | e0 i4 x1 =>
    obtain ⟨ee, e2, h⟩ := bE h
    cases ee with
    | e0 i5 x2 =>
      obtain ⟨ee, e3, h⟩ := bE h
      cases ee with
      | e0 i6 x3 =>
        have h := Option.some.inj h; subst h; exact P88_0 i0 i1 i2 i3 i4 i5 i6 b0 s0 x0 x1 x2 x3 o0 n0 k (F20_ok e0) (L88_0_ok e1) (L88_1_ok e2) (L88_2_ok e3)
theorem P89_0 (i0 : Int) (b0 b1 : Bool) (x0 x1 : List V) (o0 o1 : Option Bool) (n0 n1 k : Nat)
    (c0 : decide ((↑x1.length : Int) ≤ (↑x0.length : Int)) = true) :
    cP ((k + 3)) 89 [V.sl o0 b0 n0 x0, V.sl o1 b1 n1 x1, vi i0] = some (V.bool true) :=
  byF (k := k) (d := 3) [Hn.br 12 true] (aI c0 trivial) (by kernel_rfl)
theorem P89_1 (i0 : Int) (b0 b1 : Bool) (x0 x1 : List V) (o0 o1 : Option Bool) (n0 n1 k : Nat)
    (c0 : decide ((↑x1.length : Int) ≤ (↑x0.length : Int)) = false)
    (c1 : decide ((↑x1.length : Int) ≤ i0) = true) :
    cP ((k + 3)) 89 [V.sl o0 b0 n0 x0, V.sl o1 b1 n1 x1, vi i0] = some (V.bool (decide ((↑x1.length : Int) ≤ 64))) :=
  byF (k := k) (d := 3) [Hn.br 12 false, Hn.br 17 true] (aI c0 (aI c1 trivial)) (by kernel_rfl)
theorem P89_2 (i0 : Int) (b0 b1 : Bool) (x0 x1 : List V) (o0 o1 : Option Bool) (n0 n1 k : Nat)
    (c0 : decide ((↑x1.length : Int) ≤ (↑x0.length : Int)) = false)
    (c1 : decide ((↑x1.length : Int) ≤ i0) = false) :
    cP ((k + 3)) 89 [V.sl o0 b0 n0 x0, V.sl o1 b1 n1 x1, vi i0] = some (V.bool false) :=
  byF (k := k) (d := 3) [Hn.br 12 false, Hn.br 17 false] (aI c0 (aI c1 trivial)) (by kernel_rfl)
def F89 (k : Nat) (o0 : Option Bool) (b0 : Bool) (n0 : Nat) (x0 : List V) (o1 : Option Bool) (b1 : Bool) (n1 : Nat) (x1 : List V) (i0 : Int) : Option (Bool) :=
  (bif decide ((↑x1.length : Int) ≤ (↑x0.length : Int)) then (some (true)) else (bif decide ((↑x1.length : Int) ≤ i0) then (some (decide ((↑x1.length : Int) ≤ 64))) else (some (false))))
theorem F89_ok {o0 : Option Bool} {b0 : Bool} {n0 : Nat} {x0 : List V} {o1 : Option Bool} {b1 : Bool} {n1 : Nat} {x1 : List V} {i0 : Int} {k : Nat} {r : Bool} (h : F89 k o0 b0 n0 x0 o1 b1 n1 x1 i0 = some r) :
    cP ((k + 3)) 89 [V.sl o0 b0 n0 x0, V.sl o1 b1 n1 x1, vi i0] = some (V.bool r) := by
  unfold F89 at h
  rcases cond_elim h with ⟨e0, h⟩ | ⟨e0, h⟩
  ·
    have h := Option.some.inj h; subst h; exact P89_0 i0 b0 b1 x0 x1 o0 o1 n0 n1 k e0
  ·
    rcases cond_elim h with ⟨e1, h⟩ | ⟨e1, h⟩
    ·
      have h := Option.some.inj h; subst h; exact P89_1 i0 b0 b1 x0 x1 o0 o1 n0 n1 k e0 e1
    ·
      have h := Option.some.inj h; subst h; exact P89_2 i0 b0 b1 x0 x1 o0 o1 n0 n1 k e0 e1
theorem L90_0_b0 (i0 i1 i2 i3 i4 : Int) (b0 b1 : Bool) (s0 s1 : List UInt8) (x0 x1 : List V) (o0 o1 : Option Bool) (n0 n1 k : Nat)
    (c0 : decide (i0 < (↑x0.length : Int)) = true)
    (c1 : IdxP x0 i0 n0 3 (V.agg [vu i1, vi i2, V.str s0]))
    (c2 : IdxP x1 i0 n1 3 (V.agg [vu i3, vi i4, V.str s1]))
    (c3 : (!(decide (i1 = i3) && (decide (i2 = i4) && (decide (s0 = s1) && true)))) = true) :
    eC k 2 0 90 (loopBody Try.f90 0) { tm := [(0, V.sl o0 b0 n0 x0), (1, V.sl o1 b1 n1 x1), (4, V.bool false), (10, V.bool false), (12, vi (↑x0.length : Int)), (13, vi i0)], hp := [], nx := 0 } = some (Exit.ret, { tm := [(0, V.sl o0 b0 n0 x0), (1, V.sl o1 b1 n1 x1), (4, V.bool false), (5, vi i0), (10, V.bool false), (12, vi (↑x0.length : Int)), (13, vi i0), (14, V.bool true), (24, V.bool true)], hp := [], nx := 52 }) :=
  byL (k := k) (d := 2) [Hn.br 14 true, Hn.op 18 ((V.agg [vu i1, vi i2, V.str s0]).cpt 0) [], Hn.op 22 ((V.agg [vu i3, vi i4, V.str s1]).cpt 0) [], Hn.br 24 true] (aI c0 (aI c1 (aI c2 (aI c3 trivial)))) (by kernel_rfl)
theorem L90_0_b1 (i0 i1 i2 i3 i4 : Int) (b0 b1 : Bool) (s0 s1 : List UInt8) (x0 x1 : List V) (o0 o1 : Option Bool) (n0 n1 k : Nat)
    (c0 : decide (i0 < (↑x0.length : Int)) = true)
    (c1 : IdxP x0 i0 n0 3 (V.agg [vu i1, vi i2, V.str s0]))
    (c2 : IdxP x1 i0 n1 3 (V.agg [vu i3, vi i4, V.str s1]))
    (c3 : (!(decide (i1 = i3) && (decide (i2 = i4) && (decide (s0 = s1) && true)))) = false) :
    eC k 2 0 90 (loopBody Try.f90 0) { tm := [(0, V.sl o0 b0 n0 x0), (1, V.sl o1 b1 n1 x1), (4, V.bool false), (10, V.bool false), (12, vi (↑x0.length : Int)), (13, vi i0)], hp := [], nx := 0 } = some (Exit.normal, { tm := [(0, V.sl o0 b0 n0 x0), (1, V.sl o1 b1 n1 x1), (4, V.bool false), (5, vi i0), (10, V.bool false), (12, vi (↑x0.length : Int)), (13, vi (wI (i0 + 1))), (14, V.bool true), (24, V.bool false)], hp := [], nx := 56 }) :=
  byL (k := k) (d := 2) [Hn.br 14 true, Hn.op 18 ((V.agg [vu i1, vi i2, V.str s0]).cpt 0) [], Hn.op 22 ((V.agg [vu i3, vi i4, V.str s1]).cpt 0) [], Hn.br 24 false] (aI c0 (aI c1 (aI c2 (aI c3 trivial)))) (by kernel_rfl)
theorem L90_0_b1h (i0 : Int) (b0 b1 : Bool) (x0 x1 : List V) (o0 o1 : Option Bool) (n0 n1 : Nat) : head 0 [0, 1, 4, 10, 12, 13] (Try.cfg.fc 90).acc { tm := [(0, V.sl o0 b0 n0 x0), (1, V.sl o1 b1 n1 x1), (4, V.bool false), (5, vi i0), (10, V.bool false), (12, vi (↑x0.length : Int)), (13, vi (wI (i0 + 1))), (14, V.bool true), (24, V.bool false)], hp := [], nx := 56 } = { tm := [(0, V.sl o0 b0 n0 x0), (1, V.sl o1 b1 n1 x1), (4, V.bool false), (10, V.bool false), (12, vi (↑x0.length : Int)), (13, vi (wI (i0 + 1)))], hp := [], nx := 0 } := by kernel_rfl
theorem L90_0_b2 (i0 : Int) (b0 b1 : Bool) (x0 x1 : List V) (o0 o1 : Option Bool) (n0 n1 k : Nat)
    (c0 : decide (i0 < (↑x0.length : Int)) = false) :
    eC k 2 0 90 (loopBody Try.f90 0) { tm := [(0, V.sl o0 b0 n0 x0), (1, V.sl o1 b1 n1 x1), (4, V.bool false), (10, V.bool false), (12, vi (↑x0.length : Int)), (13, vi i0)], hp := [], nx := 0 } = some (Exit.exit 0, { tm := [(0, V.sl o0 b0 n0 x0), (1, V.sl o1 b1 n1 x1), (4, V.bool false), (10, V.bool false), (12, vi (↑x0.length : Int)), (13, vi i0), (14, V.bool false)], hp := [], nx := 4 }) :=
  byL (k := k) (d := 2) [Hn.br 14 false] (aI c0 trivial) (by kernel_rfl)
inductive L90_0_R where
  | e0 (i0 : Int)
  | e1 (i0 : Int)
noncomputable def L90_0_end (b0 : Bool) (b1 : Bool) (x0 : List V) (x1 : List V) (o0 : Option Bool) (o1 : Option Bool) (n0 : Nat) (n1 : Nat) : L90_0_R → Exit × St
  | .e0 i0 => (Exit.ret, { tm := [(0, V.sl o0 b0 n0 x0), (1, V.sl o1 b1 n1 x1), (4, V.bool false), (5, V.int .i64 i0), (10, V.bool false), (12, V.int .i64 (↑x0.length : Int)), (13, V.int .i64 i0), (14, V.bool true), (24, V.bool true)], hp := [], nx := 52 })
  | .e1 i0 => (Exit.exit 0, { tm := [(0, V.sl o0 b0 n0 x0), (1, V.sl o1 b1 n1 x1), (4, V.bool false), (10, V.bool false), (12, V.int .i64 (↑x0.length : Int)), (13, V.int .i64 i0), (14, V.bool false)], hp := [], nx := 4 })
def L90_0 (k : Nat) (b0 b1 : Bool) (x0 x1 : List V) (o0 o1 : Option Bool) (n0 n1 : Nat) : Nat → Int → Option L90_0_R
  | 0, _ => none
  | f + 1, i0 => (bif decide (i0 < (↑x0.length : Int)) then (guardP (n0 = (3 : Nat)) (((at? (x0) (i0)).bind dAu64i64sZ).bind fun (i1, i2, s0) => (guardP (n1 = (3 : Nat)) (((at? (x1) (i0)).bind dAu64i64sZ).bind fun (i3, i4, s1) => (bif !(decide (i1 = i3) && (decide (i2 = i4) && (decide (s0 = s1) && true))) then (some (L90_0_R.e0 i0)) else (L90_0 k b0 b1 x0 x1 o0 o1 n0 n1 f (IntKind.i64.wrap (i0 + 1)))))))) else (some (L90_0_R.e1 i0)))
theorem L90_0_ok {b0 b1 : Bool} {x0 x1 : List V} {o0 o1 : Option Bool} {n0 n1 k : Nat} : ∀ {f : Nat} {i0 : Int} {r : L90_0_R}, L90_0 k b0 b1 x0 x1 o0 o1 n0 n1 f i0 = some r →
    LoopsN Try.prog Try.cfg (k + 2) 0 Try.f90 (Try.cfg.fc 90) 0 [0, 1, 4, 10, 12, 13] f { tm := [(0, V.sl o0 b0 n0 x0), (1, V.sl o1 b1 n1 x1), (4, V.bool false), (10, V.bool false), (12, vi (↑x0.length : Int)), (13, vi i0)], hp := [], nx := 0 } (L90_0_end b0 b1 x0 x1 o0 o1 n0 n1 r) := by
  intro f
  induction f with
  | zero => intro i0 r h; cases h
  | succ f ih =>
    intro i0 r h
    rw [L90_0] at h
    rcases cond_elim h with ⟨e0, h⟩ | ⟨e0, h⟩
    ·
      obtain ⟨e1, h⟩ := guardP_some.1 h
      obtain ⟨⟨i1, i2, s0⟩, e2, h⟩ := bE h
      obtain ⟨e3, h⟩ := guardP_some.1 h
      obtain ⟨⟨i3, i4, s1⟩, e4, h⟩ := bE h
      rcases cond_elim h with ⟨e5, h⟩ | ⟨e5, h⟩
      ·
        cases h; exact LoopsN.done (L90_0_b0 i0 i1 i2 i3 i4 b0 b1 s0 s1 x0 x1 o0 o1 n0 n1 k e0 (IdxP.of_at' (at_d dAu64i64sZ_ok e2 :) e1) (IdxP.of_at' (at_d dAu64i64sZ_ok e4 :) e3) e5) (fun h => by cases h)
      ·
        exact LoopsN.next (L90_0_b1 i0 i1 i2 i3 i4 b0 b1 s0 s1 x0 x1 o0 o1 n0 n1 k e0 (IdxP.of_at' (at_d dAu64i64sZ_ok e2 :) e1) (IdxP.of_at' (at_d dAu64i64sZ_ok e4 :) e3) e5) (L90_0_b1h i0 b0 b1 x0 x1 o0 o1 n0 n1) (ih h)
    ·
      cases h; exact LoopsN.done (L90_0_b2 i0 b0 b1 x0 x1 o0 o1 n0 n1 k e0) (fun h => by cases h)
theorem P90_0 (b0 b1 : Bool) (x0 x1 : List V) (o0 o1 : Option Bool) (n0 n1 k : Nat)
    (c0 : (!decide ((↑x0.length : Int) = (↑x1.length : Int))) = true) :
    cP ((k + 3)) 90 [V.sl o0 b0 n0 x0, V.sl o1 b1 n1 x1] = some (V.bool false) :=
  byF (k := k) (d := 3) [Hn.br 10 true] (aI c0 trivial) (by kernel_rfl)
theorem P90_1 (i0 : Int) (b0 b1 : Bool) (x0 x1 : List V) (o0 o1 : Option Bool) (n0 n1 k : Nat)
    (c0 : (!decide ((↑x0.length : Int) = (↑x1.length : Int))) = false)
    (c1 : LoopsN Try.prog Try.cfg (k + 2) 0 Try.f90 (Try.cfg.fc 90) 0 [0, 1, 4, 10, 12, 13] (k + 2) { tm := [(0, V.sl o0 b0 n0 x0), (1, V.sl o1 b1 n1 x1), (4, V.bool false), (10, V.bool false), (12, vi (↑x0.length : Int)), (13, vi 0)], hp := [], nx := 0 } (Exit.exit 0, { tm := [(0, V.sl o0 b0 n0 x0), (1, V.sl o1 b1 n1 x1), (4, V.bool false), (10, V.bool false), (12, vi (↑x0.length : Int)), (13, vi i0), (14, V.bool false)], hp := [], nx := 4 })) :
    cP ((k + 3)) 90 [V.sl o0 b0 n0 x0, V.sl o1 b1 n1 x1] = some (V.bool true) :=
  byF (k := k) (d := 3) [Hn.br 10 false, Hn.loop (Exit.exit 0, { tm := [(0, V.sl o0 b0 n0 x0), (1, V.sl o1 b1 n1 x1), (4, V.bool false), (10, V.bool false), (12, vi (↑x0.length : Int)), (13, vi i0), (14, V.bool false)], hp := [], nx := 4 })] (aI c0 (aI c1 trivial)) (by kernel_rfl)
theorem P90_2 (i0 : Int) (b0 b1 : Bool) (x0 x1 : List V) (o0 o1 : Option Bool) (n0 n1 k : Nat)
    (c0 : (!decide ((↑x0.length : Int) = (↑x1.length : Int))) = false)
    (c1 : LoopsN Try.prog Try.cfg (k + 2) 0 Try.f90 (Try.cfg.fc 90) 0 [0, 1, 4, 10, 12, 13] (k + 2) { tm := [(0, V.sl o0 b0 n0 x0), (1, V.sl o1 b1 n1 x1), (4, V.bool false), (10, V.bool false), (12, vi (↑x0.length : Int)), (13, vi 0)], hp := [], nx := 0 } (Exit.ret, { tm := [(0, V.sl o0 b0 n0 x0), (1, V.sl o1 b1 n1 x1), (4, V.bool false), (5, vi i0), (10, V.bool false), (12, vi (↑x0.length : Int)), (13, vi i0), (14, V.bool true), (24, V.bool true)], hp := [], nx := 52 })) :
    cP ((k + 3)) 90 [V.sl o0 b0 n0 x0, V.sl o1 b1 n1 x1] = some (V.bool false) :=
  byF (k := k) (d := 3) [Hn.br 10 false, Hn.loop (Exit.ret, { tm := [(0, V.sl o0 b0 n0 x0), (1, V.sl o1 b1 n1 x1), (4, V.bool false), (5, vi i0), (10, V.bool false), (12, vi (↑x0.length : Int)), (13, vi i0), (14, V.bool true), (24, V.bool true)], hp := [], nx := 52 })] (aI c0 (aI c1 trivial)) (by kernel_rfl)
def F90 (k : Nat) (o0 : Option Bool) (b0 : Bool) (n0 : Nat) (x0 : List V) (o1 : Option Bool) (b1 : Bool) (n1 : Nat) (x1 : List V) : Option (Bool) :=
  (bif !decide ((↑x0.length : Int) = (↑x1.length : Int)) then (some (false)) else ((L90_0 k b0 b1 x0 x1 o0 o1 n0 n1 (k + 2) (0)).bind fun
    | L90_0_R.e0 i0 => (some (false))
    | L90_0_R.e1 i0 => (some (true))))
theorem F90_ok {o0 : Option Bool} {b0 : Bool} {n0 : Nat} {x0 : List V} {o1 : Option Bool} {b1 : Bool} {n1 : Nat} {x1 : List V} {k : Nat} {r : Bool} (h : F90 k o0 b0 n0 x0 o1 b1 n1 x1 = some r) :
    cP ((k + 3)) 90 [V.sl o0 b0 n0 x0, V.sl o1 b1 n1 x1] = some (V.bool r) := by
  unfold F90 at h
  rcases cond_elim h with ⟨e0, h⟩ | ⟨e0, h⟩
  ·
    have h := Option.some.inj h; subst h; exact P90_0 b0 b1 x0 x1 o0 o1 n0 n1 k e0
  ·
    obtain ⟨ee, e1, h⟩ := bE h
    cases ee with
    | e0 i0 =>
      have h := Option.some.inj h; subst h; exact P90_2 i0 b0 b1 x0 x1 o0 o1 n0 n1 k e0 (L90_0_ok e1)
    | e1 i0 =>
      have h := Option.some.inj h; subst h; exact P90_1 i0 b0 b1 x0 x1 o0 o1 n0 n1 k e0 (L90_0_ok e1)
theorem P54_0 (i0 i1 i2 i3 i4 i5 : Int) (b0 b1 : Bool) (s0 : List UInt8) (x0 x1 : List V) (o0 o1 : Option Bool) (n0 n1 k : Nat)
    (c0 : cP ((k + 17)) 87 [V.sl o0 b0 n0 x0, V.agg [vu i3, vu i4]] = some (vi i5))
    (c1 : (!decide (i5 = 0)) = true)
    (c2 : decide (i0 = i5) = true) :
    cP ((k + 18)) 54 [V.sl o0 b0 n0 x0, V.sl o1 b1 n1 x1, vi i0, vi i1, V.agg [vi i2, vu i3, vu i4, V.str s0]] = some (V.bool (decide ((↑x1.length : Int) = 0))) :=
  byF (k := k) (d := 18) [Hn.call 16 (vi i5), Hn.br 18 true, Hn.br 22 true] (aI c0 (aI c1 (aI c2 trivial))) (by kernel_rfl)
theorem P54_1 (i0 i1 i2 i3 i4 i5 : Int) (b0 b1 : Bool) (s0 : List UInt8) (x0 x1 : List V) (o0 o1 : Option Bool) (n0 n1 k : Nat)
    (c0 : cP ((k + 17)) 87 [V.sl o0 b0 n0 x0, V.agg [vu i3, vu i4]] = some (vi i5))
    (c1 : (!decide (i5 = 0)) = true)
    (c2 : decide (i0 = i5) = false) :
    cP ((k + 18)) 54 [V.sl o0 b0 n0 x0, V.sl o1 b1 n1 x1, vi i0, vi i1, V.agg [vi i2, vu i3, vu i4, V.str s0]] = some (V.bool false) :=
  byF (k := k) (d := 18) [Hn.call 16 (vi i5), Hn.br 18 true, Hn.br 22 false] (aI c0 (aI c1 (aI c2 trivial))) (by kernel_rfl)
theorem P54_2 (i0 i1 i2 i3 i4 i5 : Int) (b0 b1 b2 b3 : Bool) (s0 : List UInt8) (x0 x1 x2 : List V) (o0 o1 o2 : Option Bool) (n0 n1 n2 k : Nat)
    (c0 : cP ((k + 17)) 87 [V.sl o0 b0 n0 x0, V.agg [vu i3, vu i4]] = some (vi i5))
    (c1 : (!decide (i5 = 0)) = false)
    (c2 : cP ((k + 17)) 88 [V.sl o0 b0 n0 x0, V.agg [vi i2, vu i3, vu i4, V.str s0]] = some (V.sl o2 b2 n2 x2))
    (c3 : cP ((k + 17)) 89 [V.sl o0 b0 n0 x0, V.sl o2 b2 n2 x2, vi i1] = some (V.bool b3))
    (c4 : (!b3) = true)
    (c5 : decide (i0 = 6) = true) :
    cP ((k + 18)) 54 [V.sl o0 b0 n0 x0, V.sl o1 b1 n1 x1, vi i0, vi i1, V.agg [vi i2, vu i3, vu i4, V.str s0]] = some (V.bool (decide ((↑x1.length : Int) = 0))) :=
  byF (k := k) (d := 18) [Hn.call 16 (vi i5), Hn.br 18 false, Hn.call 29 (V.sl o2 b2 n2 x2), Hn.call 33 (V.bool b3), Hn.br 34 true, Hn.br 37 true] (aI c0 (aI c1 (aI c2 (aI c3 (aI c4 (aI c5 trivial)))))) (by kernel_rfl)
theorem P54_3 (i0 i1 i2 i3 i4 i5 : Int) (b0 b1 b2 b3 : Bool) (s0 : List UInt8) (x0 x1 x2 : List V) (o0 o1 o2 : Option Bool) (n0 n1 n2 k : Nat)
    (c0 : cP ((k + 17)) 87 [V.sl o0 b0 n0 x0, V.agg [vu i3, vu i4]] = some (vi i5))
    (c1 : (!decide (i5 = 0)) = false)
    (c2 : cP ((k + 17)) 88 [V.sl o0 b0 n0 x0, V.agg [vi i2, vu i3, vu i4, V.str s0]] = some (V.sl o2 b2 n2 x2))
    (c3 : cP ((k + 17)) 89 [V.sl o0 b0 n0 x0, V.sl o2 b2 n2 x2, vi i1] = some (V.bool b3))
    (c4 : (!b3) = true)
    (c5 : decide (i0 = 6) = false) :
    cP ((k + 18)) 54 [V.sl o0 b0 n0 x0, V.sl o1 b1 n1 x1, vi i0, vi i1, V.agg [vi i2, vu i3, vu i4, V.str s0]] = some (V.bool false) :=
  byF (k := k) (d := 18) [Hn.call 16 (vi i5), Hn.br 18 false, Hn.call 29 (V.sl o2 b2 n2 x2), Hn.call 33 (V.bool b3), Hn.br 34 true, Hn.br 37 false] (aI c0 (aI c1 (aI c2 (aI c3 (aI c4 (aI c5 trivial)))))) (by kernel_rfl)
theorem P54_4 (i0 i1 i2 i3 i4 i5 : Int) (b0 b1 b2 b3 b4 : Bool) (s0 : List UInt8) (x0 x1 x2 : List V) (o0 o1 o2 : Option Bool) (n0 n1 n2 k : Nat)
    (c0 : cP ((k + 17)) 87 [V.sl o0 b0 n0 x0, V.agg [vu i3, vu i4]] = some (vi i5))
    (c1 : (!decide (i5 = 0)) = false)
    (c2 : cP ((k + 17)) 88 [V.sl o0 b0 n0 x0, V.agg [vi i2, vu i3, vu i4, V.str s0]] = some (V.sl o2 b2 n2 x2))
    (c3 : cP ((k + 17)) 89 [V.sl o0 b0 n0 x0, V.sl o2 b2 n2 x2, vi i1] = some (V.bool b3))
    (c4 : (!b3) = false)
    (c5 : decide (i0 = 0) = true)
    (c6 : cP ((k + 17)) 90 [V.sl o1 b1 n1 x1, V.sl o2 b2 n2 x2] = some (V.bool b4)) :
    cP ((k + 18)) 54 [V.sl o0 b0 n0 x0, V.sl o1 b1 n1 x1, vi i0, vi i1, V.agg [vi i2, vu i3, vu i4, V.str s0]] = some (V.bool b4) :=
  byF (k := k) (d := 18) [Hn.call 16 (vi i5), Hn.br 18 false, Hn.call 29 (V.sl o2 b2 n2 x2), Hn.call 33 (V.bool b3), Hn.br 34 false, Hn.br 44 true, Hn.call 47 (V.bool b4)] (aI c0 (aI c1 (aI c2 (aI c3 (aI c4 (aI c5 (aI c6 trivial))))))) (by kernel_rfl)
theorem P54_5 (i0 i1 i2 i3 i4 i5 : Int) (b0 b1 b2 b3 : Bool) (s0 : List UInt8) (x0 x1 x2 : List V) (o0 o1 o2 : Option Bool) (n0 n1 n2 k : Nat)
    (c0 : cP ((k + 17)) 87 [V.sl o0 b0 n0 x0, V.agg [vu i3, vu i4]] = some (vi i5))
    (c1 : (!decide (i5 = 0)) = false)
    (c2 : cP ((k + 17)) 88 [V.sl o0 b0 n0 x0, V.agg [vi i2, vu i3, vu i4, V.str s0]] = some (V.sl o2 b2 n2 x2))
    (c3 : cP ((k + 17)) 89 [V.sl o0 b0 n0 x0, V.sl o2 b2 n2 x2, vi i1] = some (V.bool b3))
    (c4 : (!b3) = false)
    (c5 : decide (i0 = 0) = false) :
    cP ((k + 18)) 54 [V.sl o0 b0 n0 x0, V.sl o1 b1 n1 x1, vi i0, vi i1, V.agg [vi i2, vu i3, vu i4, V.str s0]] = some (V.bool false) :=
  byF (k := k) (d := 18) [Hn.call 16 (vi i5), Hn.br 18 false, Hn.call 29 (V.sl o2 b2 n2 x2), Hn.call 33 (V.bool b3), Hn.br 34 false, Hn.br 44 false] (aI c0 (aI c1 (aI c2 (aI c3 (aI c4 (aI c5 trivial)))))) (by kernel_rfl)
def F54 (k : Nat) (o0 : Option Bool) (b0 : Bool) (n0 : Nat) (x0 : List V) (o1 : Option Bool) (b1 : Bool) (n1 : Nat) (x1 : List V) (i0 i1 i2 i3 i4 : Int) (s0 : List UInt8) : Option (Bool) :=
  ((F87 (k + 11) (o0) (b0) (n0) (x0) (i3) (i4)).bind fun i5 => (bif !decide (i5 = 0) then (bif decide (i0 = i5) then (some (decide ((↑x1.length : Int) = 0))) else (some (false))) else ((F88 (k + 2) (o0) (b0) (n0) (x0) (i2) (i3) (i4) (s0)).bind fun (o2, b2, n2, x2) => ((F89 (k + 14) (o0) (b0) (n0) (x0) (o2) (b2) (n2) (x2) (i1)).bind fun b3 => (bif !b3 then (bif decide (i0 = 6) then (some (decide ((↑x1.length : Int) = 0))) else (some (false))) else (bif decide (i0 = 0) then ((F90 (k + 14) (o1) (b1) (n1) (x1) (o2) (b2) (n2) (x2)).bind fun b4 => (some (b4))) else (some (false))))))))
theorem F54_ok {o0 : Option Bool} {b0 : Bool} {n0 : Nat} {x0 : List V} {o1 : Option Bool} {b1 : Bool} {n1 : Nat} {x1 : List V} {i0 i1 i2 i3 i4 : Int} {s0 : List UInt8} {k : Nat} {r : Bool} (h : F54 k o0 b0 n0 x0 o1 b1 n1 x1 i0 i1 i2 i3 i4 s0 = some r) :
    cP ((k + 18)) 54 [V.sl o0 b0 n0 x0, V.sl o1 b1 n1 x1, vi i0, vi i1, V.agg [vi i2, vu i3, vu i4, V.str s0]] = some (V.bool r) := by
  unfold F54 at h
  obtain ⟨i5, e0, h⟩ := bE h
  rcases cond_elim h with ⟨e1, h⟩ | ⟨e1, h⟩
  ·
    rcases cond_elim h with ⟨e2, h⟩ | ⟨e2, h⟩
    ·
      have h := Option.some.inj h; subst h; exact P54_0 i0 i1 i2 i3 i4 i5 b0 b1 s0 x0 x1 o0 o1 n0 n1 k (F87_ok e0) e1 e2
    ·
      have h := Option.some.inj h; subst h; exact P54_1 i0 i1 i2 i3 i4 i5 b0 b1 s0 x0 x1 o0 o1 n0 n1 k (F87_ok e0) e1 e2
  ·
    obtain ⟨⟨o2, b2, n2, x2⟩, e2, h⟩ := bE h
    obtain ⟨b3, e3, h⟩ := bE h
    rcases cond_elim h with ⟨e4, h⟩ | ⟨e4, h⟩
    ·
      rcases cond_elim h with ⟨e5, h⟩ | ⟨e5, h⟩
      ·
        have h := Option.some.inj h; subst h; exact P54_2 i0 i1 i2 i3 i4 i5 b0 b1 b2 b3 s0 x0 x1 x2 o0 o1 o2 n0 n1 n2 k (F87_ok e0) e1 (F88_ok e2) (F89_ok e3) e4 e5
      ·
        have h := Option.some.inj h; subst h; exact P54_3 i0 i1 i2 i3 i4 i5 b0 b1 b2 b3 s0 x0 x1 x2 o0 o1 o2 n0 n1 n2 k (F87_ok e0) e1 (F88_ok e2) (F89_ok e3) e4 e5
    ·
      rcases cond_elim h with ⟨e5, h⟩ | ⟨e5, h⟩
      ·
        obtain ⟨b4, e6, h⟩ := bE h
        have h := Option.some.inj h; subst h; exact P54_4 i0 i1 i2 i3 i4 i5 b0 b1 b2 b3 b4 s0 x0 x1 x2 o0 o1 o2 n0 n1 n2 k (F87_ok e0) e1 (F88_ok e2) (F89_ok e3) e4 e5 (F90_ok e6)
      ·
        have h := Option.some.inj h; subst h; exact P54_5 i0 i1 i2 i3 i4 i5 b0 b1 b2 b3 s0 x0 x1 x2 o0 o1 o2 n0 n1 n2 k (F87_ok e0) e1 (F88_ok e2) (F89_ok e3) e4 e5
end Go.Proofs
