/-
  What functions of the reference of ghash answer, each checked against the program.
-/
import Derived.Test.YtegmincienhapaaGhA
set_option linter.unusedVariables false
set_option maxHeartbeats 0
set_option maxRecDepth 100000
namespace Go.Proofs
open Go Go.Sym

theorem L81_0_b0 (i0 i1 i2 : Int) (s0 : List UInt8) (k : Nat)
    (c0 : decide (i2 < 7) = true) :
    evalCode Try.prog Try.cfg (evalFn Try.prog Try.cfg (k + 2)) 0 (Try.cfg.fc 81) (k + 2) (loopBody Try.f81 0) { tm := [(0, V.str s0), (1, vi i0), (4, V.bool false), (5, vi i1), (6, vi i2)], hp := [], nx := 0 } = some (Exit.normal, { tm := [(0, V.str s0), (1, vi i0), (4, V.bool false), (5, vi (IntKind.i64.wrap (i1.tdiv 2))), (6, vi (IntKind.i64.wrap (i2 + 1))), (15, V.bool true)], hp := [], nx := 32 }) :=
  byL (k := k) (d := 2) [Hn.br 15 true] (aI c0 trivial) (by kernel_rfl)
theorem L81_0_b0h (i0 i1 i2 : Int) (s0 : List UInt8) : head 0 [0, 1, 4, 5, 6] (Try.cfg.fc 81).acc { tm := [(0, V.str s0), (1, vi i0), (4, V.bool false), (5, vi (IntKind.i64.wrap (i1.tdiv 2))), (6, vi (IntKind.i64.wrap (i2 + 1))), (15, V.bool true)], hp := [], nx := 32 } = { tm := [(0, V.str s0), (1, vi i0), (4, V.bool false), (5, vi (IntKind.i64.wrap (i1.tdiv 2))), (6, vi (IntKind.i64.wrap (i2 + 1)))], hp := [], nx := 0 } := by kernel_rfl
theorem L81_0_b1 (i0 i1 i2 : Int) (s0 : List UInt8) (k : Nat)
    (c0 : decide (i2 < 7) = false) :
    evalCode Try.prog Try.cfg (evalFn Try.prog Try.cfg (k + 2)) 0 (Try.cfg.fc 81) (k + 2) (loopBody Try.f81 0) { tm := [(0, V.str s0), (1, vi i0), (4, V.bool false), (5, vi i1), (6, vi i2)], hp := [], nx := 0 } = some (Exit.exit 0, { tm := [(0, V.str s0), (1, vi i0), (4, V.bool false), (5, vi i1), (6, vi i2), (15, V.bool false)], hp := [], nx := 8 }) :=
  byL (k := k) (d := 2) [Hn.br 15 false] (aI c0 trivial) (by kernel_rfl)
inductive L81_0_R where
  | e0 (i1 : Int) (i2 : Int)
noncomputable def L81_0_end (i0 : Int) (s0 : List UInt8) : L81_0_R → Exit × St
  | .e0 i1 i2 => (Exit.exit 0, { tm := [(0, V.str s0), (1, V.int .i64 i0), (4, V.bool false), (5, V.int .i64 i1), (6, V.int .i64 i2), (15, V.bool false)], hp := [], nx := 8 })
def L81_0 (k : Nat) (i0 : Int) (s0 : List UInt8) : Nat → Int → Int → Option L81_0_R
  | 0, _, _ => none
  | f + 1, i1, i2 => (bif decide (i2 < 7) then (L81_0 k i0 s0 f (IntKind.i64.wrap (i1.tdiv 2)) (IntKind.i64.wrap (i2 + 1))) else (some (L81_0_R.e0 i1 i2)))
theorem L81_0_ok {i0 : Int} {s0 : List UInt8} {k : Nat} : ∀ {f : Nat} {i1 : Int} {i2 : Int} {r : L81_0_R}, L81_0 k i0 s0 f i1 i2 = some r →
    LoopsN Try.prog Try.cfg (k + 2) 0 Try.f81 (Try.cfg.fc 81) 0 [0, 1, 4, 5, 6] f { tm := [(0, V.str s0), (1, vi i0), (4, V.bool false), (5, vi i1), (6, vi i2)], hp := [], nx := 0 } (L81_0_end i0 s0 r) := by
  intro f
  induction f with
  | zero => intro i1 i2 r h; cases h
  | succ f ih =>
    intro i1 i2 r h
    rw [L81_0] at h
    rcases cond_elim h with ⟨e0, h⟩ | ⟨e0, h⟩
    ·
      exact LoopsN.next (L81_0_b0 i0 i1 i2 s0 k e0) (L81_0_b0h i0 i1 i2 s0) (ih h)
    ·
      cases h; exact LoopsN.done (L81_0_b1 i0 i1 i2 s0 k e0) (fun h => by cases h)
theorem P81_0 (i0 i1 i2 : Int) (s0 : List UInt8) (u0 : UInt8) (k : Nat)
    (c0 : StrP s0 (IntKind.i64.wrap (i0.tdiv 8)) u0)
    (c1 : LoopsN Try.prog Try.cfg (k + 2) 0 Try.f81 (Try.cfg.fc 81) 0 [0, 1, 4, 5, 6] (k + 2) { tm := [(0, V.str s0), (1, vi i0), (4, V.bool false), (5, vi (IntKind.i64.wrap (↑u0.toNat : Int))), (6, vi (i0.tmod 8))], hp := [], nx := 0 } (Exit.exit 0, { tm := [(0, V.str s0), (1, vi i0), (4, V.bool false), (5, vi i1), (6, vi i2), (15, V.bool false)], hp := [], nx := 8 })) :
    cP ((k + 3)) 81 [V.str s0, vi i0] = some (V.bool (decide (i1.tmod 2 = 1))) :=
  byF (k := k) (d := 3) [Hn.op 10 (vb (↑u0.toNat : Int)) [], Hn.loop (Exit.exit 0, { tm := [(0, V.str s0), (1, vi i0), (4, V.bool false), (5, vi i1), (6, vi i2), (15, V.bool false)], hp := [], nx := 8 })] (aI c0 (aI c1 trivial)) (by kernel_rfl)
def F81 (k : Nat) (s0 : List UInt8) (i0 : Int) : Option (Bool) :=
  ((satB (s0) (IntKind.i64.wrap (i0.tdiv 8))).bind fun u0 => ((L81_0 k i0 s0 (k + 2) (IntKind.i64.wrap (↑u0.toNat : Int)) (i0.tmod 8)).bind fun
    | L81_0_R.e0 i1 i2 => (some (decide (i1.tmod 2 = 1)))))
theorem F81_ok {s0 : List UInt8} {i0 : Int} {k : Nat} {r : Bool} (h : F81 k s0 i0 = some r) :
    cP ((k + 3)) 81 [V.str s0, vi i0] = some (V.bool r) := by
  unfold F81 at h
  obtain ⟨u0, e0, h⟩ := bE h
  obtain ⟨ee, e1, h⟩ := bE h
  cases ee with
  | e0 i1 i2 =>
    have h := Option.some.inj h; subst h; exact P81_0 i0 i1 i2 s0 u0 k (StrP.of_at e0) (L81_0_ok e1)
theorem L49_1_b0 (i0 i1 : Int) (b0 b1 b2 : Bool) (s0 s1 : List UInt8) (x0 : List V) (k : Nat)
    (c0 : decide (i1 < 128) = true)
    (c1 : decide (0 ≤ IntKind.i64.wrap (i0 - i1)) = true)
    (c2 : decide (IntKind.i64.wrap (i0 - i1) < 128) = true)
    (c3 : cP ((k + 5)) 81 [V.str s0, vi i1] = some (V.bool b1))
    (c4 : b1 = true)
    (c5 : cP ((k + 5)) 81 [V.str s1, vi (IntKind.i64.wrap (i0 - i1))] = some (V.bool b2))
    (c6 : b2 = true) :
    evalCode Try.prog Try.cfg (evalFn Try.prog Try.cfg (k + 5)) 0 (Try.cfg.fc 49) (k + 5) (loopBody Try.f49 1) { tm := [(0, V.str s0), (1, V.str s1), (4, V.sl (some true) true 0 []), (5, V.ref 0), (6, vi i0), (7, V.bool b0), (8, vi i1), (11, V.bool true)], hp := [(0, Ob.row false 1 x0)], nx := 1 } = some (Exit.normal, { tm := [(0, V.str s0), (1, V.str s1), (4, V.sl (some true) true 0 []), (5, V.ref 0), (6, vi i0), (7, V.bool !b0), (8, vi (IntKind.i64.wrap (i1 + 1))), (11, V.bool true), (15, V.bool true), (39, V.bool true)], hp := [(0, Ob.row false 1 x0)], nx := 121 }) :=
  byL (k := k) (d := 5) [Hn.br 15 true, Hn.br 22 true, Hn.br 28 true, Hn.call 31 (V.bool b1), Hn.br 33 true, Hn.call 38 (V.bool b2), Hn.br 39 true] (aI c0 (aI c1 (aI c2 (aI c3 (aI c4 (aI c5 (aI c6 trivial))))))) (by kernel_rfl)
theorem L49_1_b0h (i0 i1 : Int) (b0 : Bool) (s0 s1 : List UInt8) (x0 : List V) : head 0 [0, 1, 4, 5, 6, 7, 8, 11] (Try.cfg.fc 49).acc { tm := [(0, V.str s0), (1, V.str s1), (4, V.sl (some true) true 0 []), (5, V.ref 0), (6, vi i0), (7, V.bool !b0), (8, vi (IntKind.i64.wrap (i1 + 1))), (11, V.bool true), (15, V.bool true), (39, V.bool true)], hp := [(0, Ob.row false 1 x0)], nx := 121 } = { tm := [(0, V.str s0), (1, V.str s1), (4, V.sl (some true) true 0 []), (5, V.ref 0), (6, vi i0), (7, V.bool !b0), (8, vi (IntKind.i64.wrap (i1 + 1))), (11, V.bool true)], hp := [(0, Ob.row false 1 x0)], nx := 1 } := by kernel_rfl
theorem L49_1_b1 (i0 i1 : Int) (b0 b1 b2 : Bool) (s0 s1 : List UInt8) (x0 : List V) (k : Nat)
    (c0 : decide (i1 < 128) = true)
    (c1 : decide (0 ≤ IntKind.i64.wrap (i0 - i1)) = true)
    (c2 : decide (IntKind.i64.wrap (i0 - i1) < 128) = true)
    (c3 : cP ((k + 5)) 81 [V.str s0, vi i1] = some (V.bool b1))
    (c4 : b1 = true)
    (c5 : cP ((k + 5)) 81 [V.str s1, vi (IntKind.i64.wrap (i0 - i1))] = some (V.bool b2))
    (c6 : b2 = false) :
    evalCode Try.prog Try.cfg (evalFn Try.prog Try.cfg (k + 5)) 0 (Try.cfg.fc 49) (k + 5) (loopBody Try.f49 1) { tm := [(0, V.str s0), (1, V.str s1), (4, V.sl (some true) true 0 []), (5, V.ref 0), (6, vi i0), (7, V.bool b0), (8, vi i1), (11, V.bool true)], hp := [(0, Ob.row false 1 x0)], nx := 1 } = some (Exit.normal, { tm := [(0, V.str s0), (1, V.str s1), (4, V.sl (some true) true 0 []), (5, V.ref 0), (6, vi i0), (7, V.bool b0), (8, vi (IntKind.i64.wrap (i1 + 1))), (11, V.bool true), (15, V.bool true), (39, V.bool false)], hp := [(0, Ob.row false 1 x0)], nx := 109 }) :=
  byL (k := k) (d := 5) [Hn.br 15 true, Hn.br 22 true, Hn.br 28 true, Hn.call 31 (V.bool b1), Hn.br 33 true, Hn.call 38 (V.bool b2), Hn.br 39 false] (aI c0 (aI c1 (aI c2 (aI c3 (aI c4 (aI c5 (aI c6 trivial))))))) (by kernel_rfl)
theorem L49_1_b1h (i0 i1 : Int) (b0 : Bool) (s0 s1 : List UInt8) (x0 : List V) : head 0 [0, 1, 4, 5, 6, 7, 8, 11] (Try.cfg.fc 49).acc { tm := [(0, V.str s0), (1, V.str s1), (4, V.sl (some true) true 0 []), (5, V.ref 0), (6, vi i0), (7, V.bool b0), (8, vi (IntKind.i64.wrap (i1 + 1))), (11, V.bool true), (15, V.bool true), (39, V.bool false)], hp := [(0, Ob.row false 1 x0)], nx := 109 } = { tm := [(0, V.str s0), (1, V.str s1), (4, V.sl (some true) true 0 []), (5, V.ref 0), (6, vi i0), (7, V.bool b0), (8, vi (IntKind.i64.wrap (i1 + 1))), (11, V.bool true)], hp := [(0, Ob.row false 1 x0)], nx := 1 } := by kernel_rfl
theorem L49_1_b2 (i0 i1 : Int) (b0 b1 : Bool) (s0 s1 : List UInt8) (x0 : List V) (k : Nat)
    (c0 : decide (i1 < 128) = true)
    (c1 : decide (0 ≤ IntKind.i64.wrap (i0 - i1)) = true)
    (c2 : decide (IntKind.i64.wrap (i0 - i1) < 128) = true)
    (c3 : cP ((k + 5)) 81 [V.str s0, vi i1] = some (V.bool b1))
    (c4 : b1 = false) :
    evalCode Try.prog Try.cfg (evalFn Try.prog Try.cfg (k + 5)) 0 (Try.cfg.fc 49) (k + 5) (loopBody Try.f49 1) { tm := [(0, V.str s0), (1, V.str s1), (4, V.sl (some true) true 0 []), (5, V.ref 0), (6, vi i0), (7, V.bool b0), (8, vi i1), (11, V.bool true)], hp := [(0, Ob.row false 1 x0)], nx := 1 } = some (Exit.normal, { tm := [(0, V.str s0), (1, V.str s1), (4, V.sl (some true) true 0 []), (5, V.ref 0), (6, vi i0), (7, V.bool b0), (8, vi (IntKind.i64.wrap (i1 + 1))), (11, V.bool true), (15, V.bool true), (39, V.bool false)], hp := [(0, Ob.row false 1 x0)], nx := 109 }) :=
  byL (k := k) (d := 5) [Hn.br 15 true, Hn.br 22 true, Hn.br 28 true, Hn.call 31 (V.bool b1), Hn.br 33 false] (aI c0 (aI c1 (aI c2 (aI c3 (aI c4 trivial))))) (by kernel_rfl)
theorem L49_1_b2h (i0 i1 : Int) (b0 : Bool) (s0 s1 : List UInt8) (x0 : List V) : head 0 [0, 1, 4, 5, 6, 7, 8, 11] (Try.cfg.fc 49).acc { tm := [(0, V.str s0), (1, V.str s1), (4, V.sl (some true) true 0 []), (5, V.ref 0), (6, vi i0), (7, V.bool b0), (8, vi (IntKind.i64.wrap (i1 + 1))), (11, V.bool true), (15, V.bool true), (39, V.bool false)], hp := [(0, Ob.row false 1 x0)], nx := 109 } = { tm := [(0, V.str s0), (1, V.str s1), (4, V.sl (some true) true 0 []), (5, V.ref 0), (6, vi i0), (7, V.bool b0), (8, vi (IntKind.i64.wrap (i1 + 1))), (11, V.bool true)], hp := [(0, Ob.row false 1 x0)], nx := 1 } := by kernel_rfl
theorem L49_1_b3 (i0 i1 : Int) (b0 : Bool) (s0 s1 : List UInt8) (x0 : List V) (k : Nat)
    (c0 : decide (i1 < 128) = true)
    (c1 : decide (0 ≤ IntKind.i64.wrap (i0 - i1)) = true)
    (c2 : decide (IntKind.i64.wrap (i0 - i1) < 128) = false) :
    evalCode Try.prog Try.cfg (evalFn Try.prog Try.cfg (k + 5)) 0 (Try.cfg.fc 49) (k + 5) (loopBody Try.f49 1) { tm := [(0, V.str s0), (1, V.str s1), (4, V.sl (some true) true 0 []), (5, V.ref 0), (6, vi i0), (7, V.bool b0), (8, vi i1), (11, V.bool true)], hp := [(0, Ob.row false 1 x0)], nx := 1 } = some (Exit.normal, { tm := [(0, V.str s0), (1, V.str s1), (4, V.sl (some true) true 0 []), (5, V.ref 0), (6, vi i0), (7, V.bool b0), (8, vi (IntKind.i64.wrap (i1 + 1))), (11, V.bool true), (15, V.bool true), (39, V.bool false)], hp := [(0, Ob.row false 1 x0)], nx := 109 }) :=
  byL (k := k) (d := 5) [Hn.br 15 true, Hn.br 22 true, Hn.br 28 false] (aI c0 (aI c1 (aI c2 trivial))) (by kernel_rfl)
theorem L49_1_b3h (i0 i1 : Int) (b0 : Bool) (s0 s1 : List UInt8) (x0 : List V) : head 0 [0, 1, 4, 5, 6, 7, 8, 11] (Try.cfg.fc 49).acc { tm := [(0, V.str s0), (1, V.str s1), (4, V.sl (some true) true 0 []), (5, V.ref 0), (6, vi i0), (7, V.bool b0), (8, vi (IntKind.i64.wrap (i1 + 1))), (11, V.bool true), (15, V.bool true), (39, V.bool false)], hp := [(0, Ob.row false 1 x0)], nx := 109 } = { tm := [(0, V.str s0), (1, V.str s1), (4, V.sl (some true) true 0 []), (5, V.ref 0), (6, vi i0), (7, V.bool b0), (8, vi (IntKind.i64.wrap (i1 + 1))), (11, V.bool true)], hp := [(0, Ob.row false 1 x0)], nx := 1 } := by kernel_rfl
theorem L49_1_b4 (i0 i1 : Int) (b0 : Bool) (s0 s1 : List UInt8) (x0 : List V) (k : Nat)
    (c0 : decide (i1 < 128) = true)
    (c1 : decide (0 ≤ IntKind.i64.wrap (i0 - i1)) = false) :
    evalCode Try.prog Try.cfg (evalFn Try.prog Try.cfg (k + 5)) 0 (Try.cfg.fc 49) (k + 5) (loopBody Try.f49 1) { tm := [(0, V.str s0), (1, V.str s1), (4, V.sl (some true) true 0 []), (5, V.ref 0), (6, vi i0), (7, V.bool b0), (8, vi i1), (11, V.bool true)], hp := [(0, Ob.row false 1 x0)], nx := 1 } = some (Exit.normal, { tm := [(0, V.str s0), (1, V.str s1), (4, V.sl (some true) true 0 []), (5, V.ref 0), (6, vi i0), (7, V.bool b0), (8, vi (IntKind.i64.wrap (i1 + 1))), (11, V.bool true), (15, V.bool true), (39, V.bool false)], hp := [(0, Ob.row false 1 x0)], nx := 109 }) :=
  byL (k := k) (d := 5) [Hn.br 15 true, Hn.br 22 false] (aI c0 (aI c1 trivial)) (by kernel_rfl)
theorem L49_1_b4h (i0 i1 : Int) (b0 : Bool) (s0 s1 : List UInt8) (x0 : List V) : head 0 [0, 1, 4, 5, 6, 7, 8, 11] (Try.cfg.fc 49).acc { tm := [(0, V.str s0), (1, V.str s1), (4, V.sl (some true) true 0 []), (5, V.ref 0), (6, vi i0), (7, V.bool b0), (8, vi (IntKind.i64.wrap (i1 + 1))), (11, V.bool true), (15, V.bool true), (39, V.bool false)], hp := [(0, Ob.row false 1 x0)], nx := 109 } = { tm := [(0, V.str s0), (1, V.str s1), (4, V.sl (some true) true 0 []), (5, V.ref 0), (6, vi i0), (7, V.bool b0), (8, vi (IntKind.i64.wrap (i1 + 1))), (11, V.bool true)], hp := [(0, Ob.row false 1 x0)], nx := 1 } := by kernel_rfl
theorem L49_1_b5 (i0 i1 : Int) (b0 : Bool) (s0 s1 : List UInt8) (x0 : List V) (k : Nat)
    (c0 : decide (i1 < 128) = false) :
    evalCode Try.prog Try.cfg (evalFn Try.prog Try.cfg (k + 5)) 0 (Try.cfg.fc 49) (k + 5) (loopBody Try.f49 1) { tm := [(0, V.str s0), (1, V.str s1), (4, V.sl (some true) true 0 []), (5, V.ref 0), (6, vi i0), (7, V.bool b0), (8, vi i1), (11, V.bool true)], hp := [(0, Ob.row false 1 x0)], nx := 1 } = some (Exit.exit 2, { tm := [(0, V.str s0), (1, V.str s1), (4, V.sl (some true) true 0 []), (5, V.ref 0), (6, vi i0), (7, V.bool b0), (8, vi i1), (11, V.bool true), (15, V.bool false)], hp := [(0, Ob.row false 1 x0)], nx := 9 }) :=
  byL (k := k) (d := 5) [Hn.br 15 false] (aI c0 trivial) (by kernel_rfl)
inductive L49_1_R where
  | e0 (i1 : Int) (b0 : Bool)
noncomputable def L49_1_end (i0 : Int) (s0 : List UInt8) (s1 : List UInt8) (x0 : List V) : L49_1_R → Exit × St
  | .e0 i1 b0 => (Exit.exit 2, { tm := [(0, V.str s0), (1, V.str s1), (4, V.sl (some true) true 0 []), (5, V.ref 0), (6, V.int .i64 i0), (7, V.bool b0), (8, V.int .i64 i1), (11, V.bool true), (15, V.bool false)], hp := [(0, Ob.row false 1 x0)], nx := 9 })
def L49_1 (k : Nat) (i0 : Int) (s0 s1 : List UInt8) (x0 : List V) : Nat → Bool → Int → Option L49_1_R
  | 0, _, _ => none
  | f + 1, b0, i1 => (bif decide (i1 < 128) then (bif decide (0 ≤ IntKind.i64.wrap (i0 - i1)) then (bif decide (IntKind.i64.wrap (i0 - i1) < 128) then ((F81 (k + 2) (s0) (i1)).bind fun b1 => (bif b1 then ((F81 (k + 2) (s1) (IntKind.i64.wrap (i0 - i1))).bind fun b2 => (bif b2 then (L49_1 k i0 s0 s1 x0 f (!b0) (IntKind.i64.wrap (i1 + 1))) else (L49_1 k i0 s0 s1 x0 f (b0) (IntKind.i64.wrap (i1 + 1))))) else (L49_1 k i0 s0 s1 x0 f (b0) (IntKind.i64.wrap (i1 + 1))))) else (L49_1 k i0 s0 s1 x0 f (b0) (IntKind.i64.wrap (i1 + 1)))) else (L49_1 k i0 s0 s1 x0 f (b0) (IntKind.i64.wrap (i1 + 1)))) else (some (L49_1_R.e0 i1 b0)))
theorem L49_1_ok {i0 : Int} {s0 s1 : List UInt8} {x0 : List V} {k : Nat} : ∀ {f : Nat} {b0 : Bool} {i1 : Int} {r : L49_1_R}, L49_1 k i0 s0 s1 x0 f b0 i1 = some r →
    LoopsN Try.prog Try.cfg (k + 5) 0 Try.f49 (Try.cfg.fc 49) 1 [0, 1, 4, 5, 6, 7, 8, 11] f { tm := [(0, V.str s0), (1, V.str s1), (4, V.sl (some true) true 0 []), (5, V.ref 0), (6, vi i0), (7, V.bool b0), (8, vi i1), (11, V.bool true)], hp := [(0, Ob.row false 1 x0)], nx := 1 } (L49_1_end i0 s0 s1 x0 r) := by
  intro f
  induction f with
  | zero => intro b0 i1 r h; cases h
  | succ f ih =>
    intro b0 i1 r h
    rw [L49_1] at h
    rcases cond_elim h with ⟨e0, h⟩ | ⟨e0, h⟩
    ·
      rcases cond_elim h with ⟨e1, h⟩ | ⟨e1, h⟩
      ·
        rcases cond_elim h with ⟨e2, h⟩ | ⟨e2, h⟩
        ·
          obtain ⟨b1, e3, h⟩ := bE h
          rcases cond_elim h with ⟨e4, h⟩ | ⟨e4, h⟩
          ·
            obtain ⟨b2, e5, h⟩ := bE h
            rcases cond_elim h with ⟨e6, h⟩ | ⟨e6, h⟩
            ·
              exact LoopsN.next (L49_1_b0 i0 i1 b0 b1 b2 s0 s1 x0 k e0 e1 e2 (F81_ok e3) e4 (F81_ok e5) e6) (L49_1_b0h i0 i1 b0 s0 s1 x0) (ih h)
            ·
              exact LoopsN.next (L49_1_b1 i0 i1 b0 b1 b2 s0 s1 x0 k e0 e1 e2 (F81_ok e3) e4 (F81_ok e5) e6) (L49_1_b1h i0 i1 b0 s0 s1 x0) (ih h)
          ·
            exact LoopsN.next (L49_1_b2 i0 i1 b0 b1 s0 s1 x0 k e0 e1 e2 (F81_ok e3) e4) (L49_1_b2h i0 i1 b0 s0 s1 x0) (ih h)
        ·
          exact LoopsN.next (L49_1_b3 i0 i1 b0 s0 s1 x0 k e0 e1 e2) (L49_1_b3h i0 i1 b0 s0 s1 x0) (ih h)
      ·
        exact LoopsN.next (L49_1_b4 i0 i1 b0 s0 s1 x0 k e0 e1) (L49_1_b4h i0 i1 b0 s0 s1 x0) (ih h)
    ·
      cases h; exact LoopsN.done (L49_1_b5 i0 i1 b0 s0 s1 x0 k e0) (fun h => by cases h)
theorem L49_0_b0 (i0 i1 : Int) (b0 : Bool) (s0 s1 : List UInt8) (x0 : List V) (k : Nat)
    (c0 : decide (i0 < 255) = true)
    (c1 : LoopsN Try.prog Try.cfg (k + 5) 0 Try.f49 (Try.cfg.fc 49) 1 [0, 1, 4, 5, 6, 7, 8, 11] (k + 5) { tm := [(0, V.str s0), (1, V.str s1), (4, V.sl (some true) true 0 []), (5, V.ref 0), (6, vi i0), (7, V.bool false), (8, vi 0), (11, V.bool true)], hp := [(0, Ob.row false 1 x0)], nx := 1 } (Exit.exit 2, { tm := [(0, V.str s0), (1, V.str s1), (4, V.sl (some true) true 0 []), (5, V.ref 0), (6, vi i0), (7, V.bool b0), (8, vi i1), (11, V.bool true), (15, V.bool false)], hp := [(0, Ob.row false 1 x0)], nx := 9 }))
    (c2 : GrdW ((1 : Nat) = (1 : Nat) ∧ (0 : Nat) < (1 : Nat) ∧ (1 : Nat) ≤ (64 : Nat) ∧ x0.length + (1 : Nat) ≤ maxLen') (V.ref (21 : Nat)) [((0 : Nat), Ob.dead), ((21 : Nat), Ob.row false (1 : Nat) (x0 ++ [V.bool b0]))]) :
    evalCode Try.prog Try.cfg (evalFn Try.prog Try.cfg (k + 5)) 0 (Try.cfg.fc 49) (k + 5) (loopBody Try.f49 0) { tm := [(0, V.str s0), (1, V.str s1), (4, V.sl (some true) true 0 []), (5, V.ref 0), (6, vi i0)], hp := [(0, Ob.row false 1 x0)], nx := 1 } = some (Exit.normal, { tm := [(0, V.str s0), (1, V.str s1), (4, V.sl (some true) true 0 []), (5, V.ref 21), (6, vi (IntKind.i64.wrap (i0 + 1))), (7, V.bool b0), (8, vi i1), (11, V.bool true), (15, V.bool false)], hp := [(0, Ob.dead), (17, Ob.row false 1 [V.bool b0]), (21, Ob.row false 1 (x0 ++ [V.bool b0]))], nx := 41 }) :=
  byL (k := k) (d := 5) [Hn.br 11 true, Hn.loop (Exit.exit 2, { tm := [(0, V.str s0), (1, V.str s1), (4, V.sl (some true) true 0 []), (5, V.ref 0), (6, vi i0), (7, V.bool b0), (8, vi i1), (11, V.bool true), (15, V.bool false)], hp := [(0, Ob.row false 1 x0)], nx := 9 }), Hn.op 45 (V.ref 21) [(0, Ob.dead), (21, Ob.row false 1 (x0 ++ [V.bool b0]))]] (aI c0 (aI c1 (aI c2 trivial))) (by kernel_rfl)
theorem L49_0_b0h (i0 i1 : Int) (b0 : Bool) (s0 s1 : List UInt8) (x0 : List V) : head 0 [0, 1, 4, 5, 6] (Try.cfg.fc 49).acc { tm := [(0, V.str s0), (1, V.str s1), (4, V.sl (some true) true 0 []), (5, V.ref 21), (6, vi (IntKind.i64.wrap (i0 + 1))), (7, V.bool b0), (8, vi i1), (11, V.bool true), (15, V.bool false)], hp := [(0, Ob.dead), (17, Ob.row false 1 [V.bool b0]), (21, Ob.row false 1 (x0 ++ [V.bool b0]))], nx := 41 } = { tm := [(0, V.str s0), (1, V.str s1), (4, V.sl (some true) true 0 []), (5, V.ref 0), (6, vi (IntKind.i64.wrap (i0 + 1)))], hp := [(0, Ob.row false 1 (x0 ++ [V.bool b0]))], nx := 1 } := by kernel_rfl
theorem L49_0_b1 (i0 : Int) (s0 s1 : List UInt8) (x0 : List V) (k : Nat)
    (c0 : decide (i0 < 255) = false) :
    evalCode Try.prog Try.cfg (evalFn Try.prog Try.cfg (k + 5)) 0 (Try.cfg.fc 49) (k + 5) (loopBody Try.f49 0) { tm := [(0, V.str s0), (1, V.str s1), (4, V.sl (some true) true 0 []), (5, V.ref 0), (6, vi i0)], hp := [(0, Ob.row false 1 x0)], nx := 1 } = some (Exit.exit 0, { tm := [(0, V.str s0), (1, V.str s1), (4, V.sl (some true) true 0 []), (5, V.ref 0), (6, vi i0), (11, V.bool false)], hp := [(0, Ob.row false 1 x0)], nx := 9 }) :=
  byL (k := k) (d := 5) [Hn.br 11 false] (aI c0 trivial) (by kernel_rfl)
inductive L49_0_R where
  | e0 (i0 : Int) (x0 : List V)
noncomputable def L49_0_end (s0 : List UInt8) (s1 : List UInt8) : L49_0_R → Exit × St
  | .e0 i0 x0 => (Exit.exit 0, { tm := [(0, V.str s0), (1, V.str s1), (4, V.sl (some true) true 0 []), (5, V.ref 0), (6, V.int .i64 i0), (11, V.bool false)], hp := [(0, Ob.row false 1 x0)], nx := 9 })
def L49_0 (k : Nat) (s0 s1 : List UInt8) : Nat → Int → List V → Option L49_0_R
  | 0, _, _ => none
  | f + 1, i0, x0 => (bif decide (i0 < 255) then ((L49_1 k i0 s0 s1 x0 (k + 5) (false) (0)).bind fun
    | L49_1_R.e0 i1 b0 => (guardP (x0.length + (1 : Nat) ≤ maxLen') (L49_0 k s0 s1 f (IntKind.i64.wrap (i0 + 1)) (x0 ++ [V.bool b0])))) else (some (L49_0_R.e0 i0 x0)))
theorem L49_0_ok {s0 s1 : List UInt8} {k : Nat} : ∀ {f : Nat} {i0 : Int} {x0 : List V} {r : L49_0_R}, L49_0 k s0 s1 f i0 x0 = some r →
    LoopsN Try.prog Try.cfg (k + 5) 0 Try.f49 (Try.cfg.fc 49) 0 [0, 1, 4, 5, 6] f { tm := [(0, V.str s0), (1, V.str s1), (4, V.sl (some true) true 0 []), (5, V.ref 0), (6, vi i0)], hp := [(0, Ob.row false 1 x0)], nx := 1 } (L49_0_end s0 s1 r) := by
  intro f
  induction f with
  | zero => intro i0 x0 r h; cases h
  | succ f ih =>
    intro i0 x0 r h
    rw [L49_0] at h
    rcases cond_elim h with ⟨e0, h⟩ | ⟨e0, h⟩
    ·
      obtain ⟨ee, e1, h⟩ := bE h
      cases ee with
      | e0 i1 b0 =>
        obtain ⟨e2, h⟩ := guardP_some.1 h
        exact LoopsN.next (L49_0_b0 i0 i1 b0 s0 s1 x0 k e0 (L49_1_ok e1) (GrdW.mk ⟨rfl, by decide, by decide, e2⟩)) (L49_0_b0h i0 i1 b0 s0 s1 x0) (ih h)
    ·
      cases h; exact LoopsN.done (L49_0_b1 i0 s0 s1 x0 k e0) (fun h => by cases h)
theorem P49_0 (i0 : Int) (s0 s1 : List UInt8) (x0 : List V) (k : Nat)
    (c0 : LoopsN Try.prog Try.cfg (k + 5) 0 Try.f49 (Try.cfg.fc 49) 0 [0, 1, 4, 5, 6] (k + 5) { tm := [(0, V.str s0), (1, V.str s1), (4, V.sl (some true) true 0 []), (5, V.ref 0), (6, vi 0)], hp := [(0, Ob.row false 1 [])], nx := 1 } (Exit.exit 0, { tm := [(0, V.str s0), (1, V.str s1), (4, V.sl (some true) true 0 []), (5, V.ref 0), (6, vi i0), (11, V.bool false)], hp := [(0, Ob.row false 1 x0)], nx := 9 })) :
    cP ((k + 6)) 49 [V.str s0, V.str s1] = some (V.sl none false 1 x0) :=
  byF (k := k) (d := 6) [Hn.loop (Exit.exit 0, { tm := [(0, V.str s0), (1, V.str s1), (4, V.sl (some true) true 0 []), (5, V.ref 0), (6, vi i0), (11, V.bool false)], hp := [(0, Ob.row false 1 x0)], nx := 9 })] (aI c0 trivial) (by kernel_rfl)
def F49 (k : Nat) (s0 s1 : List UInt8) : Option (Option Bool × Bool × Nat × List V) :=
  ((L49_0 k s0 s1 (k + 5) (0) ([])).bind fun
    | L49_0_R.e0 i0 x0 => (some ((none), (false), (1), (x0))))
theorem F49_ok {s0 s1 : List UInt8} {k : Nat} {r : Option Bool × Bool × Nat × List V} (h : F49 k s0 s1 = some r) :
    cP ((k + 6)) 49 [V.str s0, V.str s1] = some (V.sl r.1 r.2.1 r.2.2.1 r.2.2.2) := by
  unfold F49 at h
  obtain ⟨ee, e0, h⟩ := bE h
  cases ee with
  | e0 i0 x0 =>
    have h := Option.some.inj h; subst h; exact P49_0 i0 s0 s1 x0 k (L49_0_ok e0)
theorem P50_0 (i0 : Int) (b0 b1 : Bool) (x0 : List V) (o0 : Option Bool) (n0 k : Nat)
    (c0 : GrdV (n0 = (1 : Nat) ∨ x0.isEmpty = true) ((1 : Nat) = (1 : Nat) ∧ (0 : Nat) < (1 : Nat) ∧ (1 : Nat) ≤ (64 : Nat) ∧ (0 : Nat) + x0.length ≤ maxLen') (V.ref (20 : Nat)) [((4 : Nat), Ob.dead), ((20 : Nat), Ob.row false (1 : Nat) x0)])
    (c1 : IdxR x0.length i0 1 1 (V.ept 20 i0.toNat 0))
    (c2 : LdP Try.prog 4 x0 i0.toNat 0 (V.bool b1))
    (c3 : IdxR x0.length i0 1 1 (V.ept 20 i0.toNat 0))
    (c4 : GrdW (false = false ∧ (rid (V.bool !b1)).contains (20 : Nat) = false ∧ i0.toNat < x0.length) (V.tup []) [((20 : Nat), Ob.row false (1 : Nat) (x0.set i0.toNat (V.bool !b1)))]) :
    cP ((k + 3)) 50 [V.sl o0 b0 n0 x0, vi i0] = some (V.sl none false 1 (x0.set i0.toNat (V.bool !b1))) :=
  byF (k := k) (d := 3) [Hn.op 9 (V.ref 20) [(4, Ob.dead), (20, Ob.row false 1 x0)], Hn.op 14 (V.ept 20 i0.toNat 0) [], Hn.op 15 (V.bool b1) [], Hn.op 17 (V.ept 20 i0.toNat 0) [], Hn.wr 60 (V.tup []) [(20, Ob.row false 1 (x0.set i0.toNat (V.bool !b1)))]] (aI c0 (aI c1 (aI c2 (aI c3 (aI c4 trivial))))) (by kernel_rfl)
def F50 (k : Nat) (o0 : Option Bool) (b0 : Bool) (n0 : Nat) (x0 : List V) (i0 : Int) : Option (Option Bool × Bool × Nat × List V) :=
  (guardP (n0 = (1 : Nat) ∨ x0.isEmpty = true) (guardP ((0 : Nat) + x0.length ≤ maxLen') (guardP ((0 : Int) ≤ i0 ∧ i0 < (↑x0.length : Int)) ((((x0)[i0.toNat]?).bind dB).bind fun b1 => (guardP (i0.toNat < x0.length) (some ((none), (false), (1), (x0.set i0.toNat (V.bool !b1)))))))))
theorem F50_ok {o0 : Option Bool} {b0 : Bool} {n0 : Nat} {x0 : List V} {i0 : Int} {k : Nat} {r : Option Bool × Bool × Nat × List V} (h : F50 k o0 b0 n0 x0 i0 = some r) :
    cP ((k + 3)) 50 [V.sl o0 b0 n0 x0, vi i0] = some (V.sl r.1 r.2.1 r.2.2.1 r.2.2.2) := by
  unfold F50 at h
  obtain ⟨e0, h⟩ := guardP_some.1 h
  obtain ⟨e1, h⟩ := guardP_some.1 h
  obtain ⟨e2, h⟩ := guardP_some.1 h
  obtain ⟨b1, e3, h⟩ := bE h
  obtain ⟨e4, h⟩ := guardP_some.1 h
  have h := Option.some.inj h; subst h; exact P50_0 i0 b0 b1 x0 o0 n0 k (GrdV.mk e0 ⟨rfl, by decide, by decide, e1⟩) (IdxR.mk' e2 rfl) (LdP.mk (get_d dB_ok e3 :) (by kernel_rfl)) (IdxR.mk' e2 rfl) (GrdW.mk ⟨rfl, rfl, e4⟩)
theorem L51_1_b0 (i0 i1 i2 : Int) (b0 b1 : Bool) (x0 x1 : List V) (o0 : Option Bool) (n0 k : Nat)
    (c0 : decide (i2 < 8) = true)
    (c1 : IdxP x0 (IntKind.i64.wrap (IntKind.i64.wrap (8 * i0) + i2)) n0 1 (V.bool b1))
    (c2 : b1 = true) :
    evalCode Try.prog Try.cfg (evalFn Try.prog Try.cfg (k + 2)) 0 (Try.cfg.fc 51) (k + 2) (loopBody Try.f51 1) { tm := [(0, V.sl o0 b0 n0 x0), (2, V.str []), (3, V.ref 0), (4, vi i0), (5, vi i1), (6, vi i2), (9, V.bool true)], hp := [(0, Ob.row false 1 x1)], nx := 1 } = some (Exit.normal, { tm := [(0, V.sl o0 b0 n0 x0), (2, V.str []), (3, V.ref 0), (4, vi i0), (5, vi (IntKind.i64.wrap (IntKind.i64.wrap (2 * i1) + 1))), (6, vi (IntKind.i64.wrap (i2 + 1))), (9, V.bool true), (13, V.bool true), (24, V.bool true)], hp := [(0, Ob.row false 1 x1)], nx := 73 }) :=
  byL (k := k) (d := 2) [Hn.br 13 true, Hn.op 23 ((V.bool b1).cpt 0) [], Hn.br 24 true] (aI c0 (aI c1 (aI c2 trivial))) (by kernel_rfl)
theorem L51_1_b0h (i0 i1 i2 : Int) (b0 : Bool) (x0 x1 : List V) (o0 : Option Bool) (n0 : Nat) : head 0 [0, 2, 3, 4, 5, 6, 9] (Try.cfg.fc 51).acc { tm := [(0, V.sl o0 b0 n0 x0), (2, V.str []), (3, V.ref 0), (4, vi i0), (5, vi (IntKind.i64.wrap (IntKind.i64.wrap (2 * i1) + 1))), (6, vi (IntKind.i64.wrap (i2 + 1))), (9, V.bool true), (13, V.bool true), (24, V.bool true)], hp := [(0, Ob.row false 1 x1)], nx := 73 } = { tm := [(0, V.sl o0 b0 n0 x0), (2, V.str []), (3, V.ref 0), (4, vi i0), (5, vi (IntKind.i64.wrap (IntKind.i64.wrap (2 * i1) + 1))), (6, vi (IntKind.i64.wrap (i2 + 1))), (9, V.bool true)], hp := [(0, Ob.row false 1 x1)], nx := 1 } := by kernel_rfl
theorem L51_1_b1 (i0 i1 i2 : Int) (b0 b1 : Bool) (x0 x1 : List V) (o0 : Option Bool) (n0 k : Nat)
    (c0 : decide (i2 < 8) = true)
    (c1 : IdxP x0 (IntKind.i64.wrap (IntKind.i64.wrap (8 * i0) + i2)) n0 1 (V.bool b1))
    (c2 : b1 = false) :
    evalCode Try.prog Try.cfg (evalFn Try.prog Try.cfg (k + 2)) 0 (Try.cfg.fc 51) (k + 2) (loopBody Try.f51 1) { tm := [(0, V.sl o0 b0 n0 x0), (2, V.str []), (3, V.ref 0), (4, vi i0), (5, vi i1), (6, vi i2), (9, V.bool true)], hp := [(0, Ob.row false 1 x1)], nx := 1 } = some (Exit.normal, { tm := [(0, V.sl o0 b0 n0 x0), (2, V.str []), (3, V.ref 0), (4, vi i0), (5, vi (IntKind.i64.wrap (2 * i1))), (6, vi (IntKind.i64.wrap (i2 + 1))), (9, V.bool true), (13, V.bool true), (24, V.bool false)], hp := [(0, Ob.row false 1 x1)], nx := 61 }) :=
  byL (k := k) (d := 2) [Hn.br 13 true, Hn.op 23 ((V.bool b1).cpt 0) [], Hn.br 24 false] (aI c0 (aI c1 (aI c2 trivial))) (by kernel_rfl)
theorem L51_1_b1h (i0 i1 i2 : Int) (b0 : Bool) (x0 x1 : List V) (o0 : Option Bool) (n0 : Nat) : head 0 [0, 2, 3, 4, 5, 6, 9] (Try.cfg.fc 51).acc { tm := [(0, V.sl o0 b0 n0 x0), (2, V.str []), (3, V.ref 0), (4, vi i0), (5, vi (IntKind.i64.wrap (2 * i1))), (6, vi (IntKind.i64.wrap (i2 + 1))), (9, V.bool true), (13, V.bool true), (24, V.bool false)], hp := [(0, Ob.row false 1 x1)], nx := 61 } = { tm := [(0, V.sl o0 b0 n0 x0), (2, V.str []), (3, V.ref 0), (4, vi i0), (5, vi (IntKind.i64.wrap (2 * i1))), (6, vi (IntKind.i64.wrap (i2 + 1))), (9, V.bool true)], hp := [(0, Ob.row false 1 x1)], nx := 1 } := by kernel_rfl
theorem L51_1_b2 (i0 i1 i2 : Int) (b0 : Bool) (x0 x1 : List V) (o0 : Option Bool) (n0 k : Nat)
    (c0 : decide (i2 < 8) = false) :
    evalCode Try.prog Try.cfg (evalFn Try.prog Try.cfg (k + 2)) 0 (Try.cfg.fc 51) (k + 2) (loopBody Try.f51 1) { tm := [(0, V.sl o0 b0 n0 x0), (2, V.str []), (3, V.ref 0), (4, vi i0), (5, vi i1), (6, vi i2), (9, V.bool true)], hp := [(0, Ob.row false 1 x1)], nx := 1 } = some (Exit.exit 2, { tm := [(0, V.sl o0 b0 n0 x0), (2, V.str []), (3, V.ref 0), (4, vi i0), (5, vi i1), (6, vi i2), (9, V.bool true), (13, V.bool false)], hp := [(0, Ob.row false 1 x1)], nx := 9 }) :=
  byL (k := k) (d := 2) [Hn.br 13 false] (aI c0 trivial) (by kernel_rfl)
inductive L51_1_R where
  | e0 (i1 : Int) (i2 : Int)
noncomputable def L51_1_end (i0 : Int) (b0 : Bool) (x0 : List V) (x1 : List V) (o0 : Option Bool) (n0 : Nat) : L51_1_R → Exit × St
  | .e0 i1 i2 => (Exit.exit 2, { tm := [(0, V.sl o0 b0 n0 x0), (2, V.str []), (3, V.ref 0), (4, V.int .i64 i0), (5, V.int .i64 i1), (6, V.int .i64 i2), (9, V.bool true), (13, V.bool false)], hp := [(0, Ob.row false 1 x1)], nx := 9 })
def L51_1 (k : Nat) (i0 : Int) (b0 : Bool) (x0 x1 : List V) (o0 : Option Bool) (n0 : Nat) : Nat → Int → Int → Option L51_1_R
  | 0, _, _ => none
  | f + 1, i1, i2 => (bif decide (i2 < 8) then (guardP (n0 = (1 : Nat)) (((at? (x0) (IntKind.i64.wrap (IntKind.i64.wrap (8 * i0) + i2))).bind dB).bind fun b1 => (bif b1 then (L51_1 k i0 b0 x0 x1 o0 n0 f (IntKind.i64.wrap (IntKind.i64.wrap (2 * i1) + 1)) (IntKind.i64.wrap (i2 + 1))) else (L51_1 k i0 b0 x0 x1 o0 n0 f (IntKind.i64.wrap (2 * i1)) (IntKind.i64.wrap (i2 + 1)))))) else (some (L51_1_R.e0 i1 i2)))
theorem L51_1_ok {i0 : Int} {b0 : Bool} {x0 x1 : List V} {o0 : Option Bool} {n0 k : Nat} : ∀ {f : Nat} {i1 : Int} {i2 : Int} {r : L51_1_R}, L51_1 k i0 b0 x0 x1 o0 n0 f i1 i2 = some r →
    LoopsN Try.prog Try.cfg (k + 2) 0 Try.f51 (Try.cfg.fc 51) 1 [0, 2, 3, 4, 5, 6, 9] f { tm := [(0, V.sl o0 b0 n0 x0), (2, V.str []), (3, V.ref 0), (4, vi i0), (5, vi i1), (6, vi i2), (9, V.bool true)], hp := [(0, Ob.row false 1 x1)], nx := 1 } (L51_1_end i0 b0 x0 x1 o0 n0 r) := by
  intro f
  induction f with
  | zero => intro i1 i2 r h; cases h
  | succ f ih =>
    intro i1 i2 r h
    rw [L51_1] at h
    rcases cond_elim h with ⟨e0, h⟩ | ⟨e0, h⟩
    ·
      obtain ⟨e1, h⟩ := guardP_some.1 h
      obtain ⟨b1, e2, h⟩ := bE h
      rcases cond_elim h with ⟨e3, h⟩ | ⟨e3, h⟩
      ·
        exact LoopsN.next (L51_1_b0 i0 i1 i2 b0 b1 x0 x1 o0 n0 k e0 (IdxP.of_at' (at_d dB_ok e2 :) e1) e3) (L51_1_b0h i0 i1 i2 b0 x0 x1 o0 n0) (ih h)
      ·
        exact LoopsN.next (L51_1_b1 i0 i1 i2 b0 b1 x0 x1 o0 n0 k e0 (IdxP.of_at' (at_d dB_ok e2 :) e1) e3) (L51_1_b1h i0 i1 i2 b0 x0 x1 o0 n0) (ih h)
    ·
      cases h; exact LoopsN.done (L51_1_b2 i0 i1 i2 b0 x0 x1 o0 n0 k e0) (fun h => by cases h)
theorem L51_0_b0 (i0 i1 i2 : Int) (b0 : Bool) (x0 x1 : List V) (o0 : Option Bool) (n0 k : Nat)
    (c0 : decide (i0 < 16) = true)
    (c1 : LoopsN Try.prog Try.cfg (k + 2) 0 Try.f51 (Try.cfg.fc 51) 1 [0, 2, 3, 4, 5, 6, 9] (k + 2) { tm := [(0, V.sl o0 b0 n0 x0), (2, V.str []), (3, V.ref 0), (4, vi i0), (5, vi 0), (6, vi 0), (9, V.bool true)], hp := [(0, Ob.row false 1 x1)], nx := 1 } (Exit.exit 2, { tm := [(0, V.sl o0 b0 n0 x0), (2, V.str []), (3, V.ref 0), (4, vi i0), (5, vi i1), (6, vi i2), (9, V.bool true), (13, V.bool false)], hp := [(0, Ob.row false 1 x1)], nx := 9 }))
    (c2 : GrdW ((1 : Nat) = (1 : Nat) ∧ (0 : Nat) < (1 : Nat) ∧ (1 : Nat) ≤ (64 : Nat) ∧ x1.length + (1 : Nat) ≤ maxLen') (V.ref (25 : Nat)) [((0 : Nat), Ob.dead), ((25 : Nat), Ob.row false (1 : Nat) (x1 ++ [vb (IntKind.u8.wrap i1)]))]) :
    evalCode Try.prog Try.cfg (evalFn Try.prog Try.cfg (k + 2)) 0 (Try.cfg.fc 51) (k + 2) (loopBody Try.f51 0) { tm := [(0, V.sl o0 b0 n0 x0), (2, V.str []), (3, V.ref 0), (4, vi i0)], hp := [(0, Ob.row false 1 x1)], nx := 1 } = some (Exit.normal, { tm := [(0, V.sl o0 b0 n0 x0), (2, V.str []), (3, V.ref 25), (4, vi (IntKind.i64.wrap (i0 + 1))), (5, vi i1), (6, vi i2), (9, V.bool true), (13, V.bool false)], hp := [(0, Ob.dead), (21, Ob.row false 1 [vb (IntKind.u8.wrap i1)]), (25, Ob.row false 1 (x1 ++ [vb (IntKind.u8.wrap i1)]))], nx := 45 }) :=
  byL (k := k) (d := 2) [Hn.br 9 true, Hn.loop (Exit.exit 2, { tm := [(0, V.sl o0 b0 n0 x0), (2, V.str []), (3, V.ref 0), (4, vi i0), (5, vi i1), (6, vi i2), (9, V.bool true), (13, V.bool false)], hp := [(0, Ob.row false 1 x1)], nx := 9 }), Hn.op 31 (V.ref 25) [(0, Ob.dead), (25, Ob.row false 1 (x1 ++ [vb (IntKind.u8.wrap i1)]))]] (aI c0 (aI c1 (aI c2 trivial))) (by kernel_rfl)
theorem L51_0_b0h (i0 i1 i2 : Int) (b0 : Bool) (x0 x1 : List V) (o0 : Option Bool) (n0 : Nat) : head 0 [0, 2, 3, 4] (Try.cfg.fc 51).acc { tm := [(0, V.sl o0 b0 n0 x0), (2, V.str []), (3, V.ref 25), (4, vi (IntKind.i64.wrap (i0 + 1))), (5, vi i1), (6, vi i2), (9, V.bool true), (13, V.bool false)], hp := [(0, Ob.dead), (21, Ob.row false 1 [vb (IntKind.u8.wrap i1)]), (25, Ob.row false 1 (x1 ++ [vb (IntKind.u8.wrap i1)]))], nx := 45 } = { tm := [(0, V.sl o0 b0 n0 x0), (2, V.str []), (3, V.ref 0), (4, vi (IntKind.i64.wrap (i0 + 1)))], hp := [(0, Ob.row false 1 (x1 ++ [vb (IntKind.u8.wrap i1)]))], nx := 1 } := by kernel_rfl
theorem L51_0_b1 (i0 : Int) (b0 : Bool) (x0 x1 : List V) (o0 : Option Bool) (n0 k : Nat)
    (c0 : decide (i0 < 16) = false) :
    evalCode Try.prog Try.cfg (evalFn Try.prog Try.cfg (k + 2)) 0 (Try.cfg.fc 51) (k + 2) (loopBody Try.f51 0) { tm := [(0, V.sl o0 b0 n0 x0), (2, V.str []), (3, V.ref 0), (4, vi i0)], hp := [(0, Ob.row false 1 x1)], nx := 1 } = some (Exit.exit 0, { tm := [(0, V.sl o0 b0 n0 x0), (2, V.str []), (3, V.ref 0), (4, vi i0), (9, V.bool false)], hp := [(0, Ob.row false 1 x1)], nx := 9 }) :=
  byL (k := k) (d := 2) [Hn.br 9 false] (aI c0 trivial) (by kernel_rfl)
inductive L51_0_R where
  | e0 (i0 : Int) (x1 : List V)
noncomputable def L51_0_end (b0 : Bool) (x0 : List V) (o0 : Option Bool) (n0 : Nat) : L51_0_R → Exit × St
  | .e0 i0 x1 => (Exit.exit 0, { tm := [(0, V.sl o0 b0 n0 x0), (2, V.str []), (3, V.ref 0), (4, V.int .i64 i0), (9, V.bool false)], hp := [(0, Ob.row false 1 x1)], nx := 9 })
def L51_0 (k : Nat) (b0 : Bool) (x0 : List V) (o0 : Option Bool) (n0 : Nat) : Nat → Int → List V → Option L51_0_R
  | 0, _, _ => none
  | f + 1, i0, x1 => (bif decide (i0 < 16) then ((L51_1 k i0 b0 x0 x1 o0 n0 (k + 2) (0) (0)).bind fun
    | L51_1_R.e0 i1 i2 => (guardP (x1.length + (1 : Nat) ≤ maxLen') (L51_0 k b0 x0 o0 n0 f (IntKind.i64.wrap (i0 + 1)) (x1 ++ [V.int .u8 (IntKind.u8.wrap i1)])))) else (some (L51_0_R.e0 i0 x1)))
theorem L51_0_ok {b0 : Bool} {x0 : List V} {o0 : Option Bool} {n0 k : Nat} : ∀ {f : Nat} {i0 : Int} {x1 : List V} {r : L51_0_R}, L51_0 k b0 x0 o0 n0 f i0 x1 = some r →
    LoopsN Try.prog Try.cfg (k + 2) 0 Try.f51 (Try.cfg.fc 51) 0 [0, 2, 3, 4] f { tm := [(0, V.sl o0 b0 n0 x0), (2, V.str []), (3, V.ref 0), (4, vi i0)], hp := [(0, Ob.row false 1 x1)], nx := 1 } (L51_0_end b0 x0 o0 n0 r) := by
  intro f
  induction f with
  | zero => intro i0 x1 r h; cases h
  | succ f ih =>
    intro i0 x1 r h
    rw [L51_0] at h
    rcases cond_elim h with ⟨e0, h⟩ | ⟨e0, h⟩
    ·
      obtain ⟨ee, e1, h⟩ := bE h
      cases ee with
      | e0 i1 i2 =>
        obtain ⟨e2, h⟩ := guardP_some.1 h
        exact LoopsN.next (L51_0_b0 i0 i1 i2 b0 x0 x1 o0 n0 k e0 (L51_1_ok e1) (GrdW.mk ⟨rfl, by decide, by decide, e2⟩)) (L51_0_b0h i0 i1 i2 b0 x0 x1 o0 n0) (ih h)
    ·
      cases h; exact LoopsN.done (L51_0_b1 i0 b0 x0 x1 o0 n0 k e0) (fun h => by cases h)
theorem P51_0 (i0 : Int) (b0 : Bool) (x0 x1 : List V) (o0 : Option Bool) (n0 k : Nat)
    (c0 : LoopsN Try.prog Try.cfg (k + 2) 0 Try.f51 (Try.cfg.fc 51) 0 [0, 2, 3, 4] (k + 2) { tm := [(0, V.sl o0 b0 n0 x0), (2, V.str []), (3, V.ref 0), (4, vi 0)], hp := [(0, Ob.row false 1 [])], nx := 1 } (Exit.exit 0, { tm := [(0, V.sl o0 b0 n0 x0), (2, V.str []), (3, V.ref 0), (4, vi i0), (9, V.bool false)], hp := [(0, Ob.row false 1 x1)], nx := 9 }))
    (c1 : GrdW (((1 : Nat) = (1 : Nat) ∨ x1.isEmpty = true) ∧ x1.all isByte = true) (V.str (List.map Sym.byteOf x1)) []) :
    cP ((k + 3)) 51 [V.sl o0 b0 n0 x0] = some (V.str (List.map Sym.byteOf x1)) :=
  byF (k := k) (d := 3) [Hn.loop (Exit.exit 0, { tm := [(0, V.sl o0 b0 n0 x0), (2, V.str []), (3, V.ref 0), (4, vi i0), (9, V.bool false)], hp := [(0, Ob.row false 1 x1)], nx := 9 }), Hn.op 33 (V.str (List.map Sym.byteOf x1)) []] (aI c0 (aI c1 trivial)) (by kernel_rfl)
def F51 (k : Nat) (o0 : Option Bool) (b0 : Bool) (n0 : Nat) (x0 : List V) : Option (List UInt8) :=
  ((L51_0 k b0 x0 o0 n0 (k + 2) (0) ([])).bind fun
    | L51_0_R.e0 i0 x1 => (guardP (x1.all isByte = true) (some (List.map Sym.byteOf x1))))
theorem F51_ok {o0 : Option Bool} {b0 : Bool} {n0 : Nat} {x0 : List V} {k : Nat} {r : List UInt8} (h : F51 k o0 b0 n0 x0 = some r) :
    cP ((k + 3)) 51 [V.sl o0 b0 n0 x0] = some (V.str r) := by
  unfold F51 at h
  obtain ⟨ee, e0, h⟩ := bE h
  cases ee with
  | e0 i0 x1 =>
    obtain ⟨e1, h⟩ := guardP_some.1 h
    have h := Option.some.inj h; subst h; exact P51_0 i0 b0 x0 x1 o0 n0 k (L51_0_ok e0) (GrdW.mk ⟨(.inl rfl), e1⟩)
theorem L25_0_b0 (i0 : Int) (b1 b2 b3 b4 b5 b6 : Bool) (s0 s1 : List UInt8) (x1 x2 x3 x4 x5 : List V) (o1 o2 o3 o4 o5 : Option Bool) (n1 n2 n3 n4 n5 k : Nat)
    (c0 : decide (128 ≤ i0) = true)
    (c1 : IdxP x1 i0 n1 1 (V.bool b2))
    (c2 : b2 = true)
    (c3 : cP ((k + 8)) 50 [V.sl o1 b1 n1 x1, vi (IntKind.i64.wrap (i0 - 128))] = some (V.sl o2 b3 n2 x2))
    (c4 : cP ((k + 8)) 50 [V.sl o2 b3 n2 x2, vi (IntKind.i64.wrap (i0 - 127))] = some (V.sl o3 b4 n3 x3))
    (c5 : cP ((k + 8)) 50 [V.sl o3 b4 n3 x3, vi (IntKind.i64.wrap (i0 - 126))] = some (V.sl o4 b5 n4 x4))
    (c6 : cP ((k + 8)) 50 [V.sl o4 b5 n4 x4, vi (IntKind.i64.wrap (i0 - 121))] = some (V.sl o5 b6 n5 x5)) :
    evalCode Try.prog Try.cfg (evalFn Try.prog Try.cfg (k + 8)) 0 (Try.cfg.fc 25) (k + 8) (loopBody Try.f25 0) { tm := [(0, V.str s0), (1, V.str s1), (4, V.str []), (5, V.sl o1 b1 n1 x1), (6, vi i0)], hp := [], nx := 0 } = some (Exit.normal, { tm := [(0, V.str s0), (1, V.str s1), (4, V.str []), (5, V.sl o5 b6 n5 x5), (6, vi (IntKind.i64.wrap (i0 - 1))), (11, V.bool true), (17, V.bool true)], hp := [], nx := 92 }) :=
  byL (k := k) (d := 8) [Hn.br 11 true, Hn.op 16 ((V.bool b2).cpt 0) [], Hn.br 17 true, Hn.call 21 (V.sl o2 b3 n2 x2), Hn.call 24 (V.sl o3 b4 n3 x3), Hn.call 27 (V.sl o4 b5 n4 x4), Hn.call 30 (V.sl o5 b6 n5 x5)] (aI c0 (aI c1 (aI c2 (aI c3 (aI c4 (aI c5 (aI c6 trivial))))))) (by kernel_rfl)
theorem L25_0_b0h (i0 : Int) (b6 : Bool) (s0 s1 : List UInt8) (x5 : List V) (o5 : Option Bool) (n5 : Nat) : head 0 [0, 1, 4, 5, 6] (Try.cfg.fc 25).acc { tm := [(0, V.str s0), (1, V.str s1), (4, V.str []), (5, V.sl o5 b6 n5 x5), (6, vi (IntKind.i64.wrap (i0 - 1))), (11, V.bool true), (17, V.bool true)], hp := [], nx := 92 } = { tm := [(0, V.str s0), (1, V.str s1), (4, V.str []), (5, V.sl o5 b6 n5 x5), (6, vi (IntKind.i64.wrap (i0 - 1)))], hp := [], nx := 0 } := by kernel_rfl
theorem L25_0_b1 (i0 : Int) (b1 b2 : Bool) (s0 s1 : List UInt8) (x1 : List V) (o1 : Option Bool) (n1 k : Nat)
    (c0 : decide (128 ≤ i0) = true)
    (c1 : IdxP x1 i0 n1 1 (V.bool b2))
    (c2 : b2 = false) :
    evalCode Try.prog Try.cfg (evalFn Try.prog Try.cfg (k + 8)) 0 (Try.cfg.fc 25) (k + 8) (loopBody Try.f25 0) { tm := [(0, V.str s0), (1, V.str s1), (4, V.str []), (5, V.sl o1 b1 n1 x1), (6, vi i0)], hp := [], nx := 0 } = some (Exit.normal, { tm := [(0, V.str s0), (1, V.str s1), (4, V.str []), (5, V.sl o1 b1 n1 x1), (6, vi (IntKind.i64.wrap (i0 - 1))), (11, V.bool true), (17, V.bool false)], hp := [], nx := 36 }) :=
  byL (k := k) (d := 8) [Hn.br 11 true, Hn.op 16 ((V.bool b2).cpt 0) [], Hn.br 17 false] (aI c0 (aI c1 (aI c2 trivial))) (by kernel_rfl)
theorem L25_0_b1h (i0 : Int) (b1 : Bool) (s0 s1 : List UInt8) (x1 : List V) (o1 : Option Bool) (n1 : Nat) : head 0 [0, 1, 4, 5, 6] (Try.cfg.fc 25).acc { tm := [(0, V.str s0), (1, V.str s1), (4, V.str []), (5, V.sl o1 b1 n1 x1), (6, vi (IntKind.i64.wrap (i0 - 1))), (11, V.bool true), (17, V.bool false)], hp := [], nx := 36 } = { tm := [(0, V.str s0), (1, V.str s1), (4, V.str []), (5, V.sl o1 b1 n1 x1), (6, vi (IntKind.i64.wrap (i0 - 1)))], hp := [], nx := 0 } := by kernel_rfl
theorem L25_0_b2 (i0 : Int) (b1 : Bool) (s0 s1 : List UInt8) (x1 : List V) (o1 : Option Bool) (n1 k : Nat)
    (c0 : decide (128 ≤ i0) = false) :
    evalCode Try.prog Try.cfg (evalFn Try.prog Try.cfg (k + 8)) 0 (Try.cfg.fc 25) (k + 8) (loopBody Try.f25 0) { tm := [(0, V.str s0), (1, V.str s1), (4, V.str []), (5, V.sl o1 b1 n1 x1), (6, vi i0)], hp := [], nx := 0 } = some (Exit.exit 0, { tm := [(0, V.str s0), (1, V.str s1), (4, V.str []), (5, V.sl o1 b1 n1 x1), (6, vi i0), (11, V.bool false)], hp := [], nx := 8 }) :=
  byL (k := k) (d := 8) [Hn.br 11 false] (aI c0 trivial) (by kernel_rfl)
inductive L25_0_R where
  | e0 (i0 : Int) (b1 : Bool) (x1 : List V) (o1 : Option Bool) (n1 : Nat)
noncomputable def L25_0_end (s0 : List UInt8) (s1 : List UInt8) : L25_0_R → Exit × St
  | .e0 i0 b1 x1 o1 n1 => (Exit.exit 0, { tm := [(0, V.str s0), (1, V.str s1), (4, V.str []), (5, V.sl o1 b1 n1 x1), (6, V.int .i64 i0), (11, V.bool false)], hp := [], nx := 8 })
def L25_0 (k : Nat) (s0 s1 : List UInt8) : Nat → Option Bool → Bool → Nat → List V → Int → Option L25_0_R
  | 0, _, _, _, _, _ => none
  | f + 1, o1, b1, n1, x1, i0 => (bif decide (128 ≤ i0) then (guardP (n1 = (1 : Nat)) (((at? (x1) (i0)).bind dB).bind fun b2 => (bif b2 then ((F50 (k + 5) (o1) (b1) (n1) (x1) (IntKind.i64.wrap (i0 - 128))).bind fun (o2, b3, n2, x2) => ((F50 (k + 5) (o2) (b3) (n2) (x2) (IntKind.i64.wrap (i0 - 127))).bind fun (o3, b4, n3, x3) => ((F50 (k + 5) (o3) (b4) (n3) (x3) (IntKind.i64.wrap (i0 - 126))).bind fun (o4, b5, n4, x4) => ((F50 (k + 5) (o4) (b5) (n4) (x4) (IntKind.i64.wrap (i0 - 121))).bind fun (o5, b6, n5, x5) => (L25_0 k s0 s1 f (o5) (b6) (n5) (x5) (IntKind.i64.wrap (i0 - 1))))))) else (L25_0 k s0 s1 f (o1) (b1) (n1) (x1) (IntKind.i64.wrap (i0 - 1)))))) else (some (L25_0_R.e0 i0 b1 x1 o1 n1)))
theorem L25_0_ok {s0 s1 : List UInt8} {k : Nat} : ∀ {f : Nat} {o1 : Option Bool} {b1 : Bool} {n1 : Nat} {x1 : List V} {i0 : Int} {r : L25_0_R}, L25_0 k s0 s1 f o1 b1 n1 x1 i0 = some r →
    LoopsN Try.prog Try.cfg (k + 8) 0 Try.f25 (Try.cfg.fc 25) 0 [0, 1, 4, 5, 6] f { tm := [(0, V.str s0), (1, V.str s1), (4, V.str []), (5, V.sl o1 b1 n1 x1), (6, vi i0)], hp := [], nx := 0 } (L25_0_end s0 s1 r) := by
  intro f
  induction f with
  | zero => intro o1 b1 n1 x1 i0 r h; cases h
  | succ f ih =>
    intro o1 b1 n1 x1 i0 r h
    rw [L25_0] at h
    rcases cond_elim h with ⟨e0, h⟩ | ⟨e0, h⟩
    ·
      obtain ⟨e1, h⟩ := guardP_some.1 h
      obtain ⟨b2, e2, h⟩ := bE h
      rcases cond_elim h with ⟨e3, h⟩ | ⟨e3, h⟩
      ·
        obtain ⟨⟨o2, b3, n2, x2⟩, e4, h⟩ := bE h
        obtain ⟨⟨o3, b4, n3, x3⟩, e5, h⟩ := bE h
        obtain ⟨⟨o4, b5, n4, x4⟩, e6, h⟩ := bE h
        obtain ⟨⟨o5, b6, n5, x5⟩, e7, h⟩ := bE h
        exact LoopsN.next (L25_0_b0 i0 b1 b2 b3 b4 b5 b6 s0 s1 x1 x2 x3 x4 x5 o1 o2 o3 o4 o5 n1 n2 n3 n4 n5 k e0 (IdxP.of_at' (at_d dB_ok e2 :) e1) e3 (F50_ok e4) (F50_ok e5) (F50_ok e6) (F50_ok e7)) (L25_0_b0h i0 b6 s0 s1 x5 o5 n5) (ih h)
      ·
        exact LoopsN.next (L25_0_b1 i0 b1 b2 s0 s1 x1 o1 n1 k e0 (IdxP.of_at' (at_d dB_ok e2 :) e1) e3) (L25_0_b1h i0 b1 s0 s1 x1 o1 n1) (ih h)
    ·
      cases h; exact LoopsN.done (L25_0_b2 i0 b1 s0 s1 x1 o1 n1 k e0) (fun h => by cases h)
theorem P25_0 (i0 : Int) (b0 b1 : Bool) (s0 s1 s2 : List UInt8) (x0 x1 : List V) (o0 o1 : Option Bool) (n0 n1 k : Nat)
    (c0 : cP ((k + 8)) 49 [V.str s0, V.str s1] = some (V.sl o0 b0 n0 x0))
    (c1 : LoopsN Try.prog Try.cfg (k + 8) 0 Try.f25 (Try.cfg.fc 25) 0 [0, 1, 4, 5, 6] (k + 8) { tm := [(0, V.str s0), (1, V.str s1), (4, V.str []), (5, V.sl o0 b0 n0 x0), (6, vi 254)], hp := [], nx := 0 } (Exit.exit 0, { tm := [(0, V.str s0), (1, V.str s1), (4, V.str []), (5, V.sl o1 b1 n1 x1), (6, vi i0), (11, V.bool false)], hp := [], nx := 8 }))
    (c2 : SlcP true 1 (V.sl o1 b1 n1 x1) none (some (vi 128)) none (V.sl o1 false n1 (List.take (Int.toNat 128) x1)))
    (c3 : cP ((k + 8)) 51 [V.sl o1 false n1 (List.take (Int.toNat 128) x1)] = some (V.str s2)) :
    cP ((k + 9)) 25 [V.str s0, V.str s1] = some (V.str s2) :=
  byF (k := k) (d := 9) [Hn.call 9 (V.sl o0 b0 n0 x0), Hn.loop (Exit.exit 0, { tm := [(0, V.str s0), (1, V.str s1), (4, V.str []), (5, V.sl o1 b1 n1 x1), (6, vi i0), (11, V.bool false)], hp := [], nx := 8 }), Hn.op 32 (V.sl o1 false n1 (List.take (Int.toNat 128) x1)) [], Hn.call 33 (V.str s2)] (aI c0 (aI c1 (aI c2 (aI c3 trivial)))) (by kernel_rfl)
def F25 (k : Nat) (s0 s1 : List UInt8) : Option (List UInt8) :=
  ((F49 (k + 2) (s0) (s1)).bind fun (o0, b0, n0, x0) => ((L25_0 k s0 s1 (k + 8) (o0) (b0) (n0) (x0) (254)).bind fun
    | L25_0_R.e0 i0 b1 x1 o1 n1 => (guardP (n1 = (1 : Nat)) (guardP ((0 : Int) ≤ (128 : Int) ∧ (128 : Int) ≤ (↑x1.length : Int)) ((F51 (k + 5) (o1) (false) (n1) (List.take (Int.toNat 128) x1)).bind fun s2 => (some (s2)))))))
theorem F25_ok {s0 s1 : List UInt8} {k : Nat} {r : List UInt8} (h : F25 k s0 s1 = some r) :
    cP ((k + 9)) 25 [V.str s0, V.str s1] = some (V.str r) := by
  unfold F25 at h
  obtain ⟨⟨o0, b0, n0, x0⟩, e0, h⟩ := bE h
  obtain ⟨ee, e1, h⟩ := bE h
  cases ee with
  | e0 i0 b1 x1 o1 n1 =>
    obtain ⟨e2, h⟩ := guardP_some.1 h
    obtain ⟨e3, h⟩ := guardP_some.1 h
    obtain ⟨s2, e4, h⟩ := bE h
    have h := Option.some.inj h; subst h; exact P25_0 i0 b0 b1 s0 s1 s2 x0 x1 o0 o1 n0 n1 k (F49_ok e0) (L25_0_ok e1) (SlcP.uptoS e3 e2) (F51_ok e4)
end Go.Proofs
