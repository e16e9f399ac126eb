/-
  What functions of the reference of aes answer, each checked against the program.
-/
import Derived.Test.YtegmincienhapaaFlA
set_option linter.unusedVariables false
set_option maxHeartbeats 0
set_option maxRecDepth 100000
namespace Go.Proofs
open Go Go.Sym

inductive L88_0_R where
  | e0 (i0 : Int) (x0 : List V)
noncomputable def L88_0_end (s0 : List UInt8) : L88_0_R → Exit × St
  | .e0 i0 x0 => (Exit.exit 0, { tm := [(0, V.str s0), (2, V.str []), (3, V.ref 0), (4, V.int .i64 i0), (9, V.bool false)], hp := [(0, Ob.row false 1 x0)], nx := 17 })
inductive L89_2_R where
  | e0 (i2 : Int) (i3 : Int)
noncomputable def L89_2_end (i0 : Int) (i1 : Int) (s0 : List UInt8) (x1 : List V) : L89_2_R → Exit × St
  | .e0 i2 i3 => (Exit.exit 4, { tm := [(0, V.str s0), (2, V.str []), (3, V.ref 0), (4, V.int .i64 i0), (5, V.int .i64 i1), (6, V.int .u8 i2), (7, V.int .i64 i3), (10, V.bool true), (14, V.bool true), (18, V.bool false)], hp := [(0, Ob.row false 1 x1)], nx := 9 })
inductive L89_1_R where
  | e0 (i1 : Int) (x1 : List V)
noncomputable def L89_1_end (i0 : Int) (s0 : List UInt8) : L89_1_R → Exit × St
  | .e0 i1 x1 => (Exit.exit 2, { tm := [(0, V.str s0), (2, V.str []), (3, V.ref 0), (4, V.int .i64 i0), (5, V.int .i64 i1), (10, V.bool true), (14, V.bool false)], hp := [(0, Ob.row false 1 x1)], nx := 9 })
inductive L89_0_R where
  | e0 (i0 : Int) (x0 : List V)
noncomputable def L89_0_end (s0 : List UInt8) : L89_0_R → Exit × St
  | .e0 i0 x0 => (Exit.exit 0, { tm := [(0, V.str s0), (2, V.str []), (3, V.ref 0), (4, V.int .i64 i0), (10, V.bool false)], hp := [(0, Ob.row false 1 x0)], nx := 9 })
inductive L86_0_R where
  | e0 (i0 : Int) (x0 : List V)
noncomputable def L86_0_end (s0 : List UInt8) (s1 : List UInt8) : L86_0_R → Exit × St
  | .e0 i0 x0 => (Exit.exit 0, { tm := [(0, V.str s0), (1, V.str s1), (4, V.str []), (5, V.ref 0), (6, V.int .i64 i0), (11, V.bool false)], hp := [(0, Ob.row false 1 x0)], nx := 17 })
inductive L98_0_R where
  | e0 (i0 : Int) (x0 : List V)
noncomputable def L98_0_end (s0 : List UInt8) : L98_0_R → Exit × St
  | .e0 i0 x0 => (Exit.exit 0, { tm := [(0, V.str s0), (2, V.sl (some true) true 0 []), (3, V.int .i64 (IntKind.i64.wrap ((↑s0.length : Int).tdiv 4))), (4, V.ref 0), (5, V.int .i64 i0), (14, V.bool false)], hp := [(0, Ob.row false 1 x0)], nx := 13 })
inductive L98_1_R where
  | e0 (i1 : Int) (x1 : List V)
noncomputable def L98_1_end (i0 : Int) (s0 : List UInt8) : L98_1_R → Exit × St
  | .e0 i1 x1 => (Exit.exit 2, { tm := [(0, V.str s0), (2, V.sl (some true) true 0 []), (3, V.int .i64 (IntKind.i64.wrap ((↑s0.length : Int).tdiv 4))), (4, V.ref 0), (5, V.int .i64 i0), (6, V.int .i64 i1), (14, V.bool false), (32, V.bool false)], hp := [(0, Ob.row false 1 x1)], nx := 21 })
inductive L85_0_R where
  | e0 (i0 : Int) (x1 : List V)
noncomputable def L85_0_end (b0 : Bool) (s0 : List UInt8) (x0 : List V) (o0 : Option Bool) (n0 : Nat) : L85_0_R → Exit × St
  | .e0 i0 x1 => (Exit.exit 0, { tm := [(0, V.str s0), (2, V.sl (some true) true 0 []), (3, V.sl o0 b0 n0 x0), (4, V.ref 0), (5, V.int .i64 i0), (12, V.bool false)], hp := [(0, Ob.row false 1 x1)], nx := 17 })
inductive L64_0_R where
  | e0 (i0 : Int) (s4 : List UInt8)
noncomputable def L64_0_end (b0 : Bool) (s0 : List UInt8) (s1 : List UInt8) (x0 : List V) (o0 : Option Bool) (n0 : Nat) : L64_0_R → Exit × St
  | .e0 i0 s4 => (Exit.exit 0, { tm := [(0, V.str s0), (1, V.str s1), (4, V.str []), (5, V.sl o0 b0 n0 x0), (6, V.str s4), (7, V.int .i64 i0), (18, V.bool false)], hp := [], nx := 16 })
end Go.Proofs
