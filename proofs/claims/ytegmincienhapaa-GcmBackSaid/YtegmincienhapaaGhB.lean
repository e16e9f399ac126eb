/-
  What functions of the reference of ghash answer, each checked against the program.
-/
import Derived.Test.YtegmincienhapaaGhA
set_option linter.unusedVariables false
set_option maxHeartbeats 0
set_option maxRecDepth 100000
namespace Go.Proofs
open Go Go.Sym

inductive L81_0_R where
  | e0 (i1 : Int) (i2 : Int)
noncomputable def L81_0_end (i0 : Int) (s0 : List UInt8) : L81_0_R → Exit × St
  | .e0 i1 i2 => (Exit.exit 0, { tm := [(0, V.str s0), (1, V.int .i64 i0), (4, V.bool false), (5, V.int .i64 i1), (6, V.int .i64 i2), (15, V.bool false)], hp := [], nx := 8 })
inductive L49_1_R where
  | e0 (i1 : Int) (b0 : Bool)
noncomputable def L49_1_end (i0 : Int) (s0 : List UInt8) (s1 : List UInt8) (x0 : List V) : L49_1_R → Exit × St
  | .e0 i1 b0 => (Exit.exit 2, { tm := [(0, V.str s0), (1, V.str s1), (4, V.sl (some true) true 0 []), (5, V.ref 0), (6, V.int .i64 i0), (7, V.bool b0), (8, V.int .i64 i1), (11, V.bool true), (15, V.bool false)], hp := [(0, Ob.row false 1 x0)], nx := 9 })
inductive L49_0_R where
  | e0 (i0 : Int) (x0 : List V)
noncomputable def L49_0_end (s0 : List UInt8) (s1 : List UInt8) : L49_0_R → Exit × St
  | .e0 i0 x0 => (Exit.exit 0, { tm := [(0, V.str s0), (1, V.str s1), (4, V.sl (some true) true 0 []), (5, V.ref 0), (6, V.int .i64 i0), (11, V.bool false)], hp := [(0, Ob.row false 1 x0)], nx := 9 })
inductive L51_1_R where
  | e0 (i1 : Int) (i2 : Int)
noncomputable def L51_1_end (i0 : Int) (b0 : Bool) (x0 : List V) (x1 : List V) (o0 : Option Bool) (n0 : Nat) : L51_1_R → Exit × St
  | .e0 i1 i2 => (Exit.exit 2, { tm := [(0, V.sl o0 b0 n0 x0), (2, V.str []), (3, V.ref 0), (4, V.int .i64 i0), (5, V.int .i64 i1), (6, V.int .i64 i2), (9, V.bool true), (13, V.bool false)], hp := [(0, Ob.row false 1 x1)], nx := 9 })
inductive L51_0_R where
  | e0 (i0 : Int) (x1 : List V)
noncomputable def L51_0_end (b0 : Bool) (x0 : List V) (o0 : Option Bool) (n0 : Nat) : L51_0_R → Exit × St
  | .e0 i0 x1 => (Exit.exit 0, { tm := [(0, V.sl o0 b0 n0 x0), (2, V.str []), (3, V.ref 0), (4, V.int .i64 i0), (9, V.bool false)], hp := [(0, Ob.row false 1 x1)], nx := 9 })
inductive L25_0_R where
  | e0 (i0 : Int) (b1 : Bool) (x1 : List V) (o1 : Option Bool) (n1 : Nat)
noncomputable def L25_0_end (s0 : List UInt8) (s1 : List UInt8) : L25_0_R → Exit × St
  | .e0 i0 b1 x1 o1 n1 => (Exit.exit 0, { tm := [(0, V.str s0), (1, V.str s1), (4, V.str []), (5, V.sl o1 b1 n1 x1), (6, V.int .i64 i0), (11, V.bool false)], hp := [], nx := 8 })
end Go.Proofs
