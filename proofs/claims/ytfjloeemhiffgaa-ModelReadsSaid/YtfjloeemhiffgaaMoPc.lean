/-
  What the reference of the model answers, checked against the program.
-/
import Derived.Test.YtfjloeemhiffgaaMoPb
set_option linter.unusedVariables false
set_option maxHeartbeats 0
set_option maxRecDepth 100000
namespace Go.Proofs
open Go Go.Sym

inductive L116_0_R where
  | e0 (i0 : Int) (i1 : Int) (i2 : Int) (s0 : List UInt8)
  | e1 (i0 : Int) (i1 : Int) (i2 : Int) (s0 : List UInt8)
  | e2 (i0 : Int) (i1 : Int) (i2 : Int) (s0 : List UInt8)
  | e3 (i0 : Int) (i1 : Int) (i2 : Int) (s0 : List UInt8)
  | e4 (i0 : Int) (i1 : Int) (i2 : Int) (s0 : List UInt8)
  | e5 (i0 : Int) (i1 : Int) (i2 : Int) (s0 : List UInt8)
  | e6 (i0 : Int) (i1 : Int) (i2 : Int) (s0 : List UInt8)
  | e7 (i0 : Int) (i1 : Int) (i2 : Int) (s0 : List UInt8)
  | e8 (i0 : Int) (i1 : Int) (i2 : Int) (s0 : List UInt8)
  | e9 (i0 : Int) (i1 : Int) (i2 : Int) (s0 : List UInt8)
  | e10 (i0 : Int)
noncomputable def L116_0_end (b0 : Bool) (x0 : List V) (o0 : Option Bool) (n0 : Nat) : L116_0_R → Exit × St
  | .e0 i0 i1 i2 s0 => (Exit.ret, { tm := [(0, V.sl o0 b0 n0 x0), (2, V.bool false), (3, V.int .i64 i0), (4, V.ptr 16 0), (5, V.sl o0 b0 n0 x0), (6, V.int .i64 (↑x0.length : Int)), (7, V.int .i64 i0), (8, V.bool true), (29, V.bool true)], hp := [(16, Ob.var [V.int .u64 i1, V.int .i64 i2, V.str s0])], nx := 104 })
  | .e1 i0 i1 i2 s0 => (Exit.ret, { tm := [(0, V.sl o0 b0 n0 x0), (2, V.bool false), (3, V.int .i64 i0), (4, V.ptr 16 0), (5, V.sl o0 b0 n0 x0), (6, V.int .i64 (↑x0.length : Int)), (7, V.int .i64 i0), (8, V.bool true), (29, V.bool true)], hp := [(16, Ob.var [V.int .u64 i1, V.int .i64 i2, V.str s0])], nx := 104 })
  | .e2 i0 i1 i2 s0 => (Exit.ret, { tm := [(0, V.sl o0 b0 n0 x0), (2, V.bool false), (3, V.int .i64 i0), (4, V.ptr 16 0), (5, V.sl o0 b0 n0 x0), (6, V.int .i64 (↑x0.length : Int)), (7, V.int .i64 i0), (8, V.bool true), (29, V.bool false), (58, V.bool true)], hp := [(16, Ob.var [V.int .u64 i1, V.int .i64 i2, V.str s0])], nx := 220 })
  | .e3 i0 i1 i2 s0 => (Exit.ret, { tm := [(0, V.sl o0 b0 n0 x0), (2, V.bool false), (3, V.int .i64 i0), (4, V.ptr 16 0), (5, V.sl o0 b0 n0 x0), (6, V.int .i64 (↑x0.length : Int)), (7, V.int .i64 i0), (8, V.bool true), (29, V.bool false), (58, V.bool true)], hp := [(16, Ob.var [V.int .u64 i1, V.int .i64 i2, V.str s0])], nx := 220 })
  | .e4 i0 i1 i2 s0 => (Exit.ret, { tm := [(0, V.sl o0 b0 n0 x0), (2, V.bool false), (3, V.int .i64 i0), (4, V.ptr 16 0), (5, V.sl o0 b0 n0 x0), (6, V.int .i64 (↑x0.length : Int)), (7, V.int .i64 i0), (8, V.bool true), (29, V.bool false), (58, V.bool true)], hp := [(16, Ob.var [V.int .u64 i1, V.int .i64 i2, V.str s0])], nx := 220 })
  | .e5 i0 i1 i2 s0 => (Exit.ret, { tm := [(0, V.sl o0 b0 n0 x0), (2, V.bool false), (3, V.int .i64 i0), (4, V.ptr 16 0), (5, V.sl o0 b0 n0 x0), (6, V.int .i64 (↑x0.length : Int)), (7, V.int .i64 i0), (8, V.bool true), (29, V.bool false), (58, V.bool true)], hp := [(16, Ob.var [V.int .u64 i1, V.int .i64 i2, V.str s0])], nx := 220 })
  | .e6 i0 i1 i2 s0 => (Exit.ret, { tm := [(0, V.sl o0 b0 n0 x0), (2, V.bool false), (3, V.int .i64 i0), (4, V.ptr 16 0), (5, V.sl o0 b0 n0 x0), (6, V.int .i64 (↑x0.length : Int)), (7, V.int .i64 i0), (8, V.bool true), (29, V.bool false), (58, V.bool true)], hp := [(16, Ob.var [V.int .u64 i1, V.int .i64 i2, V.str s0])], nx := 220 })
  | .e7 i0 i1 i2 s0 => (Exit.ret, { tm := [(0, V.sl o0 b0 n0 x0), (2, V.bool false), (3, V.int .i64 i0), (4, V.ptr 16 0), (5, V.sl o0 b0 n0 x0), (6, V.int .i64 (↑x0.length : Int)), (7, V.int .i64 i0), (8, V.bool true), (29, V.bool false), (58, V.bool true)], hp := [(16, Ob.var [V.int .u64 i1, V.int .i64 i2, V.str s0])], nx := 220 })
  | .e8 i0 i1 i2 s0 => (Exit.ret, { tm := [(0, V.sl o0 b0 n0 x0), (2, V.bool false), (3, V.int .i64 i0), (4, V.ptr 16 0), (5, V.sl o0 b0 n0 x0), (6, V.int .i64 (↑x0.length : Int)), (7, V.int .i64 i0), (8, V.bool true), (29, V.bool false), (58, V.bool true)], hp := [(16, Ob.var [V.int .u64 i1, V.int .i64 i2, V.str s0])], nx := 220 })
  | .e9 i0 i1 i2 s0 => (Exit.ret, { tm := [(0, V.sl o0 b0 n0 x0), (2, V.bool false), (3, V.int .i64 i0), (4, V.ptr 16 0), (5, V.sl o0 b0 n0 x0), (6, V.int .i64 (↑x0.length : Int)), (7, V.int .i64 i0), (8, V.bool true), (29, V.bool false), (58, V.bool true)], hp := [(16, Ob.var [V.int .u64 i1, V.int .i64 i2, V.str s0])], nx := 220 })
  | .e10 i0 => (Exit.exit 0, { tm := [(0, V.sl o0 b0 n0 x0), (2, V.bool false), (5, V.sl o0 b0 n0 x0), (6, V.int .i64 (↑x0.length : Int)), (7, V.int .i64 i0), (8, V.bool false)], hp := [], nx := 4 })
inductive L141_0_R where
  | e0 (i1 : Int) (i2 : Int) (i3 : Int) (s0 : List UInt8)
  | e1 (i1 : Int)
noncomputable def L141_0_end (i0 : Int) (b0 : Bool) (x0 : List V) (o0 : Option Bool) (n0 : Nat) : L141_0_R → Exit × St
  | .e0 i1 i2 i3 s0 => (Exit.ret, { tm := [(0, V.sl o0 b0 n0 x0), (1, V.int .u64 i0), (4, V.ptr 0 0), (6, V.ptr 13 0), (7, V.sl o0 b0 n0 x0), (8, V.int .i64 (↑x0.length : Int)), (9, V.int .i64 i1), (10, V.bool true), (16, V.bool true)], hp := [(0, Ob.var [V.int .u64 i2, V.int .i64 i3, V.str s0]), (13, Ob.var [V.int .u64 i2, V.int .i64 i3, V.str s0])], nx := 45 })
  | .e1 i1 => (Exit.exit 0, { tm := [(0, V.sl o0 b0 n0 x0), (1, V.int .u64 i0), (4, V.ptr 0 0), (7, V.sl o0 b0 n0 x0), (8, V.int .i64 (↑x0.length : Int)), (9, V.int .i64 i1), (10, V.bool false)], hp := [(0, Ob.var [V.int .u64 0, V.int .i64 0, V.str []])], nx := 5 })
inductive L142_0_R where
  | e0 (i4 : Int) (x1 : List V)
noncomputable def L142_0_end (i0 : Int) (i1 : Int) (i2 : Int) (i3 : Int) (b0 : Bool) (s0 : List UInt8) (x0 : List V) (o0 : Option Bool) (n0 : Nat) : L142_0_R → Exit × St
  | .e0 i4 x1 => (Exit.exit 0, { tm := [(0, V.sl o0 b0 n0 x0), (1, V.int .u64 i0), (2, V.agg [V.int .i64 i1, V.int .u64 i2, V.int .u64 i3, V.str s0]), (5, V.ptr 0 0), (6, V.str []), (7, V.ref 1), (8, V.int .u64 i4), (12, V.bool false)], hp := [(0, Ob.var [V.int .i64 i1, V.int .u64 i2, V.int .u64 i3, V.str s0]), (1, Ob.row false 1 x1)], nx := 10 })
inductive L88_0_R where
  | e0 (i4 : Int) (x1 : List V)
noncomputable def L88_0_end (i0 : Int) (i1 : Int) (i2 : Int) (i3 : Int) (b0 : Bool) (s0 : List UInt8) (x0 : List V) (o0 : Option Bool) (n0 : Nat) : L88_0_R → Exit × St
  | .e0 i4 x1 => (Exit.exit 0, { tm := [(0, V.sl o0 b0 n0 x0), (1, V.agg [V.int .i64 i0, V.int .u64 i1, V.int .u64 i2, V.str s0]), (3, V.ptr 0 0), (4, V.sl (some true) true 0 []), (5, V.int .u64 (IntKind.u64.wrap (i1.tdiv 32))), (6, V.int .u64 (IntKind.u64.wrap (i3.tdiv 32))), (7, V.ref 1), (22, V.sl o0 b0 n0 x0), (23, V.int .i64 (↑x0.length : Int)), (24, V.int .i64 i4), (25, V.bool false)], hp := [(0, Ob.var [V.int .i64 i0, V.int .u64 i1, V.int .u64 i2, V.str s0]), (1, Ob.row false 3 x1)], nx := 6 })
inductive L88_1_R where
  | e0 (i5 : Int) (x2 : List V)
noncomputable def L88_1_end (i0 : Int) (i1 : Int) (i2 : Int) (i3 : Int) (i4 : Int) (b0 : Bool) (s0 : List UInt8) (x0 : List V) (o0 : Option Bool) (n0 : Nat) : L88_1_R → Exit × St
  | .e0 i5 x2 => (Exit.exit 2, { tm := [(0, V.sl o0 b0 n0 x0), (1, V.agg [V.int .i64 i0, V.int .u64 i1, V.int .u64 i2, V.str s0]), (3, V.ptr 0 0), (4, V.sl (some true) true 0 []), (5, V.int .u64 (IntKind.u64.wrap (i1.tdiv 32))), (6, V.int .u64 (IntKind.u64.wrap (i3.tdiv 32))), (7, V.ref 1), (10, V.int .u64 i5), (22, V.sl o0 b0 n0 x0), (23, V.int .i64 (↑x0.length : Int)), (24, V.int .i64 i4), (25, V.bool false), (40, V.bool false)], hp := [(0, Ob.var [V.int .i64 i0, V.int .u64 i1, V.int .u64 i2, V.str s0]), (1, Ob.row false 3 x2)], nx := 14 })
inductive L88_2_R where
  | e0 (i6 : Int) (x3 : List V)
noncomputable def L88_2_end (i0 : Int) (i1 : Int) (i2 : Int) (i3 : Int) (i4 : Int) (i5 : Int) (b0 : Bool) (s0 : List UInt8) (x0 : List V) (o0 : Option Bool) (n0 : Nat) : L88_2_R → Exit × St
  | .e0 i6 x3 => (Exit.exit 4, { tm := [(0, V.sl o0 b0 n0 x0), (1, V.agg [V.int .i64 i0, V.int .u64 i1, V.int .u64 i2, V.str s0]), (3, V.ptr 0 0), (4, V.sl (some true) true 0 []), (5, V.int .u64 (IntKind.u64.wrap (i1.tdiv 32))), (6, V.int .u64 (IntKind.u64.wrap (i3.tdiv 32))), (7, V.ref 1), (10, V.int .u64 i5), (22, V.sl o0 b0 n0 x0), (23, V.int .i64 (↑x0.length : Int)), (24, V.int .i64 i4), (25, V.bool false), (40, V.bool false), (56, V.sl o0 b0 n0 x0), (57, V.int .i64 (↑x0.length : Int)), (58, V.int .i64 i6), (59, V.bool false)], hp := [(0, Ob.var [V.int .i64 i0, V.int .u64 i1, V.int .u64 i2, V.str s0]), (1, Ob.row false 3 x3)], nx := 6 })
inductive L90_0_R where
  | e0 (i0 : Int)
  | e1 (i0 : Int)
noncomputable def L90_0_end (b0 : Bool) (b1 : Bool) (x0 : List V) (x1 : List V) (o0 : Option Bool) (o1 : Option Bool) (n0 : Nat) (n1 : Nat) : L90_0_R → Exit × St
  | .e0 i0 => (Exit.ret, { tm := [(0, V.sl o0 b0 n0 x0), (1, V.sl o1 b1 n1 x1), (4, V.bool false), (5, V.int .i64 i0), (10, V.bool false), (12, V.int .i64 (↑x0.length : Int)), (13, V.int .i64 i0), (14, V.bool true), (24, V.bool true)], hp := [], nx := 52 })
  | .e1 i0 => (Exit.exit 0, { tm := [(0, V.sl o0 b0 n0 x0), (1, V.sl o1 b1 n1 x1), (4, V.bool false), (10, V.bool false), (12, V.int .i64 (↑x0.length : Int)), (13, V.int .i64 i0), (14, V.bool false)], hp := [], nx := 4 })
end Go.Proofs
