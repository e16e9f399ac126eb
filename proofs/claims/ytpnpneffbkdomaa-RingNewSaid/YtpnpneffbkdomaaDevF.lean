/-
  What the laws of devices share: what an argument is, and contracts at every depth.
-/
import Derived.Test.YtpnpneffbkdomaaDevE
set_option linter.unusedVariables false
set_option linter.unusedSimpArgs false
set_option linter.constructorNameAsVariable false
set_option maxRecDepth 100000
namespace Go.Proofs
open Go.Sym
theorem l19n_b_0 (n : Option Bool) (nb : Option Bool) (c : Bool) (cb : Bool) (xs : List V) (xs2 : List V) (v0 : Int) (t_00 : List UInt8) (t_10 : List UInt8) (K : Nat)
    (c0 : decide (v0 < (↑xs.length : Int)) = true)
    (c1 : IdxP xs v0 1 1 (V.str t_00))
    (c2 : IdxP xs2 v0 1 1 (V.str t_10))
    (c3 : (!decide (t_00 = t_10)) = true) :
    evalCode Try.prog Try.cfg (evalFn Try.prog Try.cfg K) 0 (Try.cfg.fc 19) K (loopBody Try.f19 0) { tm := [(0, V.agg [V.sl n c 1 xs, V.sl (some true) true 0 []]), (1, V.agg [V.sl nb cb 1 xs2, V.sl (some true) true 0 []]), (2, V.ptr 0 0), (3, V.ptr 1 0), (4, V.bool false), (22, V.bool false), (25, V.int IntKind.i64 (↑xs.length : Int)), (26, V.int IntKind.i64 v0)], hp := [(0, Ob.var [V.sl n c 1 xs, V.sl (some true) true 0 []]), (1, Ob.var [V.sl nb cb 1 xs2, V.sl (some true) true 0 []])], nx := 2 } = some (Exit.ret, { tm := [(0, V.agg [V.sl n c 1 xs, V.sl (some true) true 0 []]), (1, V.agg [V.sl nb cb 1 xs2, V.sl (some true) true 0 []]), (2, V.ptr 0 0), (3, V.ptr 1 0), (4, V.bool false), (5, V.int IntKind.i64 v0), (22, V.bool false), (25, V.int IntKind.i64 (↑xs.length : Int)), (26, V.int IntKind.i64 v0), (27, V.bool true), (39, V.bool true)], hp := [(0, Ob.var [V.sl n c 1 xs, V.sl (some true) true 0 []]), (1, Ob.var [V.sl nb cb 1 xs2, V.sl (some true) true 0 []])], nx := 62 }) :=
  byC [Hint.br 27 true, Hint.op 32 ((V.str t_00).cpt 0) [], Hint.op 37 ((V.str t_10).cpt 0) [], Hint.br 39 true] ((decide (v0 < (↑xs.length : Int)) = true) ∧ (IdxP xs v0 1 1 (V.str t_00)) ∧ (IdxP xs2 v0 1 1 (V.str t_10)) ∧ ((!decide (t_00 = t_10)) = true) ∧ True) (by kernel_rfl) ⟨c0, c1, c2, c3, trivial⟩
theorem l19n_b_1 (n : Option Bool) (nb : Option Bool) (c : Bool) (cb : Bool) (xs : List V) (xs2 : List V) (v0 : Int) (t_00 : List UInt8) (t_10 : List UInt8) (K : Nat)
    (c0 : decide (v0 < (↑xs.length : Int)) = true)
    (c1 : IdxP xs v0 1 1 (V.str t_00))
    (c2 : IdxP xs2 v0 1 1 (V.str t_10))
    (c3 : (!decide (t_00 = t_10)) = false) :
    evalCode Try.prog Try.cfg (evalFn Try.prog Try.cfg K) 0 (Try.cfg.fc 19) K (loopBody Try.f19 0) { tm := [(0, V.agg [V.sl n c 1 xs, V.sl (some true) true 0 []]), (1, V.agg [V.sl nb cb 1 xs2, V.sl (some true) true 0 []]), (2, V.ptr 0 0), (3, V.ptr 1 0), (4, V.bool false), (22, V.bool false), (25, V.int IntKind.i64 (↑xs.length : Int)), (26, V.int IntKind.i64 v0)], hp := [(0, Ob.var [V.sl n c 1 xs, V.sl (some true) true 0 []]), (1, Ob.var [V.sl nb cb 1 xs2, V.sl (some true) true 0 []])], nx := 2 } = some (Exit.normal, { tm := [(0, V.agg [V.sl n c 1 xs, V.sl (some true) true 0 []]), (1, V.agg [V.sl nb cb 1 xs2, V.sl (some true) true 0 []]), (2, V.ptr 0 0), (3, V.ptr 1 0), (4, V.bool false), (5, V.int IntKind.i64 v0), (22, V.bool false), (25, V.int IntKind.i64 (↑xs.length : Int)), (26, V.int IntKind.i64 (IntKind.i64.wrap (v0 + 1))), (27, V.bool true), (39, V.bool false)], hp := [(0, Ob.var [V.sl n c 1 xs, V.sl (some true) true 0 []]), (1, Ob.var [V.sl nb cb 1 xs2, V.sl (some true) true 0 []])], nx := 66 }) :=
  byC [Hint.br 27 true, Hint.op 32 ((V.str t_00).cpt 0) [], Hint.op 37 ((V.str t_10).cpt 0) [], Hint.br 39 false] ((decide (v0 < (↑xs.length : Int)) = true) ∧ (IdxP xs v0 1 1 (V.str t_00)) ∧ (IdxP xs2 v0 1 1 (V.str t_10)) ∧ ((!decide (t_00 = t_10)) = false) ∧ True) (by kernel_rfl) ⟨c0, c1, c2, c3, trivial⟩
theorem l19n_b_1h (n : Option Bool) (nb : Option Bool) (c : Bool) (cb : Bool) (xs : List V) (xs2 : List V) (v0 : Int) (t_00 : List UInt8) (t_10 : List UInt8) : head 0 [0, 1, 2, 3, 4, 22, 25, 26] (Try.cfg.fc 19).acc { tm := [(0, V.agg [V.sl n c 1 xs, V.sl (some true) true 0 []]), (1, V.agg [V.sl nb cb 1 xs2, V.sl (some true) true 0 []]), (2, V.ptr 0 0), (3, V.ptr 1 0), (4, V.bool false), (5, V.int IntKind.i64 v0), (22, V.bool false), (25, V.int IntKind.i64 (↑xs.length : Int)), (26, V.int IntKind.i64 (IntKind.i64.wrap (v0 + 1))), (27, V.bool true), (39, V.bool false)], hp := [(0, Ob.var [V.sl n c 1 xs, V.sl (some true) true 0 []]), (1, Ob.var [V.sl nb cb 1 xs2, V.sl (some true) true 0 []])], nx := 66 } = { tm := [(0, V.agg [V.sl n c 1 xs, V.sl (some true) true 0 []]), (1, V.agg [V.sl nb cb 1 xs2, V.sl (some true) true 0 []]), (2, V.ptr 0 0), (3, V.ptr 1 0), (4, V.bool false), (22, V.bool false), (25, V.int IntKind.i64 (↑xs.length : Int)), (26, V.int IntKind.i64 (IntKind.i64.wrap (v0 + 1)))], hp := [(0, Ob.var [V.sl n c 1 xs, V.sl (some true) true 0 []]), (1, Ob.var [V.sl nb cb 1 xs2, V.sl (some true) true 0 []])], nx := 2 } := by kernel_rfl
theorem l19n_b_2 (n : Option Bool) (nb : Option Bool) (c : Bool) (cb : Bool) (xs : List V) (xs2 : List V) (v0 : Int) (K : Nat)
    (c0 : decide (v0 < (↑xs.length : Int)) = false) :
    evalCode Try.prog Try.cfg (evalFn Try.prog Try.cfg K) 0 (Try.cfg.fc 19) K (loopBody Try.f19 0) { tm := [(0, V.agg [V.sl n c 1 xs, V.sl (some true) true 0 []]), (1, V.agg [V.sl nb cb 1 xs2, V.sl (some true) true 0 []]), (2, V.ptr 0 0), (3, V.ptr 1 0), (4, V.bool false), (22, V.bool false), (25, V.int IntKind.i64 (↑xs.length : Int)), (26, V.int IntKind.i64 v0)], hp := [(0, Ob.var [V.sl n c 1 xs, V.sl (some true) true 0 []]), (1, Ob.var [V.sl nb cb 1 xs2, V.sl (some true) true 0 []])], nx := 2 } = some (Exit.exit 0, { tm := [(0, V.agg [V.sl n c 1 xs, V.sl (some true) true 0 []]), (1, V.agg [V.sl nb cb 1 xs2, V.sl (some true) true 0 []]), (2, V.ptr 0 0), (3, V.ptr 1 0), (4, V.bool false), (22, V.bool false), (25, V.int IntKind.i64 (↑xs.length : Int)), (26, V.int IntKind.i64 v0), (27, V.bool false)], hp := [(0, Ob.var [V.sl n c 1 xs, V.sl (some true) true 0 []]), (1, Ob.var [V.sl nb cb 1 xs2, V.sl (some true) true 0 []])], nx := 6 }) :=
  byC [Hint.br 27 false] ((decide (v0 < (↑xs.length : Int)) = false) ∧ True) (by kernel_rfl) ⟨c0, trivial⟩
inductive l19n_R where
  | e0 (v0 : Int)
  | e2 (v0 : Int)
def l19n_end (n : Option Bool) (nb : Option Bool) (c : Bool) (cb : Bool) (xs : List V) (xs2 : List V) : l19n_R → Exit × St
  | .e0 v0 => (Exit.ret, { tm := [(0, V.agg [V.sl n c 1 xs, V.sl (some true) true 0 []]), (1, V.agg [V.sl nb cb 1 xs2, V.sl (some true) true 0 []]), (2, V.ptr 0 0), (3, V.ptr 1 0), (4, V.bool false), (5, V.int IntKind.i64 v0), (22, V.bool false), (25, V.int IntKind.i64 (↑xs.length : Int)), (26, V.int IntKind.i64 v0), (27, V.bool true), (39, V.bool true)], hp := [(0, Ob.var [V.sl n c 1 xs, V.sl (some true) true 0 []]), (1, Ob.var [V.sl nb cb 1 xs2, V.sl (some true) true 0 []])], nx := 62 })
  | .e2 v0 => (Exit.exit 0, { tm := [(0, V.agg [V.sl n c 1 xs, V.sl (some true) true 0 []]), (1, V.agg [V.sl nb cb 1 xs2, V.sl (some true) true 0 []]), (2, V.ptr 0 0), (3, V.ptr 1 0), (4, V.bool false), (22, V.bool false), (25, V.int IntKind.i64 (↑xs.length : Int)), (26, V.int IntKind.i64 v0), (27, V.bool false)], hp := [(0, Ob.var [V.sl n c 1 xs, V.sl (some true) true 0 []]), (1, Ob.var [V.sl nb cb 1 xs2, V.sl (some true) true 0 []])], nx := 6 })
def l19n (n : Option Bool) (nb : Option Bool) (c : Bool) (cb : Bool) (xs : List V) (xs2 : List V) : Nat → Int → Option l19n_R
  | 0, _ => none
  | f + 1, v0 => (bif decide (v0 < (↑xs.length : Int)) then (match at? xs (v0) with | some (V.str t_00) => (match at? xs2 (v0) with | some (V.str t_10) => (bif !decide (t_00 = t_10) then some (l19n_R.e0 v0) else l19n n nb c cb xs xs2 f (IntKind.i64.wrap (v0 + 1))) | _ => none) | _ => none) else some (l19n_R.e2 v0))
theorem l19n_ok (n : Option Bool) (nb : Option Bool) (c : Bool) (cb : Bool) (xs : List V) (xs2 : List V) (K : Nat) : ∀ (f : Nat) (v0 : Int) (r : l19n_R), l19n n nb c cb xs xs2 f v0 = some r →
    LoopsN Try.prog Try.cfg K 0 Try.f19 (Try.cfg.fc 19) 0 [0, 1, 2, 3, 4, 22, 25, 26] f { tm := [(0, V.agg [V.sl n c 1 xs, V.sl (some true) true 0 []]), (1, V.agg [V.sl nb cb 1 xs2, V.sl (some true) true 0 []]), (2, V.ptr 0 0), (3, V.ptr 1 0), (4, V.bool false), (22, V.bool false), (25, V.int IntKind.i64 (↑xs.length : Int)), (26, V.int IntKind.i64 v0)], hp := [(0, Ob.var [V.sl n c 1 xs, V.sl (some true) true 0 []]), (1, Ob.var [V.sl nb cb 1 xs2, V.sl (some true) true 0 []])], nx := 2 } (l19n_end n nb c cb xs xs2 r) := by
  intro f
  induction f with
  | zero => intro v0 r h; cases h
  | succ f ih =>
    intro v0 r h
    rw [l19n] at h
    cases d0 : (decide (v0 < (↑xs.length : Int)))
    · rw [d0, cond_false] at h
      cases h
      exact LoopsN.done (l19n_b_2 n nb c cb xs xs2 v0 K d0) (fun h => by cases h)
    · rw [d0, cond_true] at h
      split at h
      · rename_i t_00 a1
        split at h
        · rename_i t_10 a2
          cases d13000 : (!decide (t_00 = t_10))
          · rw [d13000, cond_false] at h
            exact LoopsN.next (l19n_b_1 n nb c cb xs xs2 v0 t_00 t_10 K d0 (IdxP.of_at ‹_›) (IdxP.of_at ‹_›) d13000) (l19n_b_1h n nb c cb xs xs2 v0 t_00 t_10) (ih _ _ h)
          · rw [d13000, cond_true] at h
            cases h
            exact LoopsN.done (l19n_b_0 n nb c cb xs xs2 v0 t_00 t_10 K d0 (IdxP.of_at ‹_›) (IdxP.of_at ‹_›) d13000) (fun h => by cases h)
        · cases h
      · cases h
theorem l19q_b_0 (n : Option Bool) (nb : Option Bool) (c : Bool) (cb : Bool) (xs : List V) (xs2 : List V) (v : Int) (K : Nat) :
    evalCode Try.prog Try.cfg (evalFn Try.prog Try.cfg K) 0 (Try.cfg.fc 19) K (loopBody Try.f19 1) { tm := [(0, V.agg [V.sl n c 1 xs, V.sl (some true) true 0 []]), (1, V.agg [V.sl nb cb 1 xs2, V.sl (some true) true 0 []]), (2, V.ptr 0 0), (3, V.ptr 1 0), (4, V.bool false), (22, V.bool false), (25, V.int IntKind.i64 (↑xs.length : Int)), (26, V.int IntKind.i64 v), (27, V.bool false), (43, V.int IntKind.i64 0), (44, V.int IntKind.i64 0)], hp := [(0, Ob.var [V.sl n c 1 xs, V.sl (some true) true 0 []]), (1, Ob.var [V.sl nb cb 1 xs2, V.sl (some true) true 0 []])], nx := 2 } = some (Exit.exit 2, { tm := [(0, V.agg [V.sl n c 1 xs, V.sl (some true) true 0 []]), (1, V.agg [V.sl nb cb 1 xs2, V.sl (some true) true 0 []]), (2, V.ptr 0 0), (3, V.ptr 1 0), (4, V.bool false), (22, V.bool false), (25, V.int IntKind.i64 (↑xs.length : Int)), (26, V.int IntKind.i64 v), (27, V.bool false), (43, V.int IntKind.i64 0), (44, V.int IntKind.i64 0), (45, V.bool false)], hp := [(0, Ob.var [V.sl n c 1 xs, V.sl (some true) true 0 []]), (1, Ob.var [V.sl nb cb 1 xs2, V.sl (some true) true 0 []])], nx := 6 }) :=
  byC [] (True) (by kernel_rfl) trivial
inductive l19q_R where
  | e0 
def l19q_end (n : Option Bool) (nb : Option Bool) (c : Bool) (cb : Bool) (xs : List V) (xs2 : List V) (v : Int) : l19q_R → Exit × St
  | .e0  => (Exit.exit 2, { tm := [(0, V.agg [V.sl n c 1 xs, V.sl (some true) true 0 []]), (1, V.agg [V.sl nb cb 1 xs2, V.sl (some true) true 0 []]), (2, V.ptr 0 0), (3, V.ptr 1 0), (4, V.bool false), (22, V.bool false), (25, V.int IntKind.i64 (↑xs.length : Int)), (26, V.int IntKind.i64 v), (27, V.bool false), (43, V.int IntKind.i64 0), (44, V.int IntKind.i64 0), (45, V.bool false)], hp := [(0, Ob.var [V.sl n c 1 xs, V.sl (some true) true 0 []]), (1, Ob.var [V.sl nb cb 1 xs2, V.sl (some true) true 0 []])], nx := 6 })
def l19q (n : Option Bool) (nb : Option Bool) (c : Bool) (cb : Bool) (xs : List V) (xs2 : List V) (v : Int) : Nat → Option l19q_R
  | 0 => none
  | f + 1 => some (l19q_R.e0 )
theorem l19q_ok (n : Option Bool) (nb : Option Bool) (c : Bool) (cb : Bool) (xs : List V) (xs2 : List V) (v : Int) (K : Nat) : ∀ (f : Nat)  (r : l19q_R), l19q n nb c cb xs xs2 v f  = some r →
    LoopsN Try.prog Try.cfg K 0 Try.f19 (Try.cfg.fc 19) 1 [0, 1, 2, 3, 4, 22, 25, 26, 27, 43, 44] f { tm := [(0, V.agg [V.sl n c 1 xs, V.sl (some true) true 0 []]), (1, V.agg [V.sl nb cb 1 xs2, V.sl (some true) true 0 []]), (2, V.ptr 0 0), (3, V.ptr 1 0), (4, V.bool false), (22, V.bool false), (25, V.int IntKind.i64 (↑xs.length : Int)), (26, V.int IntKind.i64 v), (27, V.bool false), (43, V.int IntKind.i64 0), (44, V.int IntKind.i64 0)], hp := [(0, Ob.var [V.sl n c 1 xs, V.sl (some true) true 0 []]), (1, Ob.var [V.sl nb cb 1 xs2, V.sl (some true) true 0 []])], nx := 2 } (l19q_end n nb c cb xs xs2 v r) := by
  intro f
  induction f with
  | zero => intro  r h; cases h
  | succ f ih =>
    intro  r h
    rw [l19q] at h
    cases h
    exact LoopsN.done (l19q_b_0 n nb c cb xs xs2 v K) (fun h => by cases h)
theorem p19n_0 (n : Option Bool) (nb : Option Bool) (c : Bool) (cb : Bool) (xs : List V) (xs2 : List V) (v : Int) (k : Nat)
    (c0 : (!decide ((↑xs.length : Int) = (↑xs2.length : Int))) = true) :
    callP (evalFn Try.prog Try.cfg (k + 1)) 19 [V.agg [V.sl n c 1 xs, V.sl (some true) true 0 []], V.agg [V.sl nb cb 1 xs2, V.sl (some true) true 0 []]] = some (V.bool false) :=
  byP [Hint.br 14 true] (((!decide ((↑xs.length : Int) = (↑xs2.length : Int))) = true) ∧ True) (by kernel_rfl) ⟨c0, trivial⟩
theorem p19n_1 (n : Option Bool) (nb : Option Bool) (c : Bool) (cb : Bool) (xs : List V) (xs2 : List V) (v : Int) (k : Nat)
    (c0 : (!decide ((↑xs.length : Int) = (↑xs2.length : Int))) = false)
    (c1 : LoopsN Try.prog Try.cfg k 0 Try.f19 (Try.cfg.fc 19) 0 [0, 1, 2, 3, 4, 22, 25, 26] k { tm := [(0, V.agg [V.sl n c 1 xs, V.sl (some true) true 0 []]), (1, V.agg [V.sl nb cb 1 xs2, V.sl (some true) true 0 []]), (2, V.ptr 0 0), (3, V.ptr 1 0), (4, V.bool false), (22, V.bool false), (25, V.int IntKind.i64 (↑xs.length : Int)), (26, V.int IntKind.i64 0)], hp := [(0, Ob.var [V.sl n c 1 xs, V.sl (some true) true 0 []]), (1, Ob.var [V.sl nb cb 1 xs2, V.sl (some true) true 0 []])], nx := 2 } (Exit.exit 0, { tm := [(0, V.agg [V.sl n c 1 xs, V.sl (some true) true 0 []]), (1, V.agg [V.sl nb cb 1 xs2, V.sl (some true) true 0 []]), (2, V.ptr 0 0), (3, V.ptr 1 0), (4, V.bool false), (22, V.bool false), (25, V.int IntKind.i64 (↑xs.length : Int)), (26, V.int IntKind.i64 v), (27, V.bool false)], hp := [(0, Ob.var [V.sl n c 1 xs, V.sl (some true) true 0 []]), (1, Ob.var [V.sl nb cb 1 xs2, V.sl (some true) true 0 []])], nx := 6 }))
    (c2 : LoopsN Try.prog Try.cfg k 0 Try.f19 (Try.cfg.fc 19) 1 [0, 1, 2, 3, 4, 22, 25, 26, 27, 43, 44] k { tm := [(0, V.agg [V.sl n c 1 xs, V.sl (some true) true 0 []]), (1, V.agg [V.sl nb cb 1 xs2, V.sl (some true) true 0 []]), (2, V.ptr 0 0), (3, V.ptr 1 0), (4, V.bool false), (22, V.bool false), (25, V.int IntKind.i64 (↑xs.length : Int)), (26, V.int IntKind.i64 v), (27, V.bool false), (43, V.int IntKind.i64 0), (44, V.int IntKind.i64 0)], hp := [(0, Ob.var [V.sl n c 1 xs, V.sl (some true) true 0 []]), (1, Ob.var [V.sl nb cb 1 xs2, V.sl (some true) true 0 []])], nx := 2 } (Exit.exit 2, { tm := [(0, V.agg [V.sl n c 1 xs, V.sl (some true) true 0 []]), (1, V.agg [V.sl nb cb 1 xs2, V.sl (some true) true 0 []]), (2, V.ptr 0 0), (3, V.ptr 1 0), (4, V.bool false), (22, V.bool false), (25, V.int IntKind.i64 (↑xs.length : Int)), (26, V.int IntKind.i64 v), (27, V.bool false), (43, V.int IntKind.i64 0), (44, V.int IntKind.i64 0), (45, V.bool false)], hp := [(0, Ob.var [V.sl n c 1 xs, V.sl (some true) true 0 []]), (1, Ob.var [V.sl nb cb 1 xs2, V.sl (some true) true 0 []])], nx := 6 })) :
    callP (evalFn Try.prog Try.cfg (k + 1)) 19 [V.agg [V.sl n c 1 xs, V.sl (some true) true 0 []], V.agg [V.sl nb cb 1 xs2, V.sl (some true) true 0 []]] = some (V.bool true) :=
  byP [Hint.br 14 false, Hint.loop (Exit.exit 0, { tm := [(0, V.agg [V.sl n c 1 xs, V.sl (some true) true 0 []]), (1, V.agg [V.sl nb cb 1 xs2, V.sl (some true) true 0 []]), (2, V.ptr 0 0), (3, V.ptr 1 0), (4, V.bool false), (22, V.bool false), (25, V.int IntKind.i64 (↑xs.length : Int)), (26, V.int IntKind.i64 v), (27, V.bool false)], hp := [(0, Ob.var [V.sl n c 1 xs, V.sl (some true) true 0 []]), (1, Ob.var [V.sl nb cb 1 xs2, V.sl (some true) true 0 []])], nx := 6 }), Hint.loop (Exit.exit 2, { tm := [(0, V.agg [V.sl n c 1 xs, V.sl (some true) true 0 []]), (1, V.agg [V.sl nb cb 1 xs2, V.sl (some true) true 0 []]), (2, V.ptr 0 0), (3, V.ptr 1 0), (4, V.bool false), (22, V.bool false), (25, V.int IntKind.i64 (↑xs.length : Int)), (26, V.int IntKind.i64 v), (27, V.bool false), (43, V.int IntKind.i64 0), (44, V.int IntKind.i64 0), (45, V.bool false)], hp := [(0, Ob.var [V.sl n c 1 xs, V.sl (some true) true 0 []]), (1, Ob.var [V.sl nb cb 1 xs2, V.sl (some true) true 0 []])], nx := 6 })] (((!decide ((↑xs.length : Int) = (↑xs2.length : Int))) = false) ∧ (LoopsN Try.prog Try.cfg k 0 Try.f19 (Try.cfg.fc 19) 0 [0, 1, 2, 3, 4, 22, 25, 26] k { tm := [(0, V.agg [V.sl n c 1 xs, V.sl (some true) true 0 []]), (1, V.agg [V.sl nb cb 1 xs2, V.sl (some true) true 0 []]), (2, V.ptr 0 0), (3, V.ptr 1 0), (4, V.bool false), (22, V.bool false), (25, V.int IntKind.i64 (↑xs.length : Int)), (26, V.int IntKind.i64 0)], hp := [(0, Ob.var [V.sl n c 1 xs, V.sl (some true) true 0 []]), (1, Ob.var [V.sl nb cb 1 xs2, V.sl (some true) true 0 []])], nx := 2 } (Exit.exit 0, { tm := [(0, V.agg [V.sl n c 1 xs, V.sl (some true) true 0 []]), (1, V.agg [V.sl nb cb 1 xs2, V.sl (some true) true 0 []]), (2, V.ptr 0 0), (3, V.ptr 1 0), (4, V.bool false), (22, V.bool false), (25, V.int IntKind.i64 (↑xs.length : Int)), (26, V.int IntKind.i64 v), (27, V.bool false)], hp := [(0, Ob.var [V.sl n c 1 xs, V.sl (some true) true 0 []]), (1, Ob.var [V.sl nb cb 1 xs2, V.sl (some true) true 0 []])], nx := 6 })) ∧ (LoopsN Try.prog Try.cfg k 0 Try.f19 (Try.cfg.fc 19) 1 [0, 1, 2, 3, 4, 22, 25, 26, 27, 43, 44] k { tm := [(0, V.agg [V.sl n c 1 xs, V.sl (some true) true 0 []]), (1, V.agg [V.sl nb cb 1 xs2, V.sl (some true) true 0 []]), (2, V.ptr 0 0), (3, V.ptr 1 0), (4, V.bool false), (22, V.bool false), (25, V.int IntKind.i64 (↑xs.length : Int)), (26, V.int IntKind.i64 v), (27, V.bool false), (43, V.int IntKind.i64 0), (44, V.int IntKind.i64 0)], hp := [(0, Ob.var [V.sl n c 1 xs, V.sl (some true) true 0 []]), (1, Ob.var [V.sl nb cb 1 xs2, V.sl (some true) true 0 []])], nx := 2 } (Exit.exit 2, { tm := [(0, V.agg [V.sl n c 1 xs, V.sl (some true) true 0 []]), (1, V.agg [V.sl nb cb 1 xs2, V.sl (some true) true 0 []]), (2, V.ptr 0 0), (3, V.ptr 1 0), (4, V.bool false), (22, V.bool false), (25, V.int IntKind.i64 (↑xs.length : Int)), (26, V.int IntKind.i64 v), (27, V.bool false), (43, V.int IntKind.i64 0), (44, V.int IntKind.i64 0), (45, V.bool false)], hp := [(0, Ob.var [V.sl n c 1 xs, V.sl (some true) true 0 []]), (1, Ob.var [V.sl nb cb 1 xs2, V.sl (some true) true 0 []])], nx := 6 })) ∧ True) (by kernel_rfl) ⟨c0, c1, c2, trivial⟩

theorem ts3 : tsize Try.prog 3 = 1 := by kernel_rfl
theorem ts9 : tsize Try.prog 9 = 1 := by kernel_rfl
theorem ts22 : tsize Try.prog 22 = 1 := by kernel_rfl
theorem ts23 : tsize Try.prog 23 = 1 := by kernel_rfl
theorem ts47 : tsize Try.prog 47 = 2 := by kernel_rfl
theorem ta3 : tagg Try.prog 3 = some false := by kernel_rfl
theorem ta9 : tagg Try.prog 9 = some false := by kernel_rfl
theorem ta25 : tagg Try.prog 25 = some true := by kernel_rfl
theorem ta47 : tagg Try.prog 47 = some true := by kernel_rfl
theorem VArgs_three {P : Program} {k : Nat} {a b c : TypeId} {xs : List V} (h : VArgs P k [a, b, c] xs) : ∃ x y z, xs = [x, y, z] ∧ VArg P k a x ∧ VArg P k b y ∧ VArg P k c z := by
  match xs, h with
  | [x, y, z], ⟨hx, hy, hz, _⟩ => exact ⟨x, y, z, rfl, hx, hy, hz⟩
theorem take_one {vs : List V} {x : V} (h : vs.take 1 = [x]) : vs = x :: vs.drop 1 := by
  cases vs with
  | nil => simp at h
  | cons y r => simp at h; subst h; simp
theorem open3 {k : Nat} {v : V} (h : VArg Try.prog (k + 1) 3 v) : ∃ a, v = V.int .i64 a ∧ -9223372036854775808 ≤ a ∧ a < 9223372036854775808 := by
  unfold VArg at h
  obtain ⟨vs, hv, h⟩ := h
  simp only [VT, Try.underlying3] at h
  obtain ⟨n, h1, hw⟩ := h
  exact ⟨n, hv.trans (by rw [h1]; simp only [Sym.mk, ta3, List.headD_cons]), wf_i64 hw⟩
theorem open25 {k : Nat} {v : V} (h : VArg Try.prog (k + 4) 25 v) : ∃ n c xs m d ys, v = V.agg [V.sl n c 1 xs, V.sl m d 2 ys] ∧ (∀ x ∈ xs, isStr x) ∧ ∀ y ∈ ys, isPut y := by
  unfold VArg at h
  obtain ⟨vs, hv, h⟩ := h
  simp only [VT, Try.underlying25, VTs, Try.underlying22, Try.underlying23, Try.underlying9, Try.underlying47, Try.underlying3, ts22, ts23, ts3, ts9, ts47] at h
  obtain ⟨⟨n, xs, h1, _, _, hx⟩, ⟨m, ys, h2, _, _, hy⟩, h3⟩ := h
  have e1 := take_one h1
  have e2 := take_one h2
  rw [h3] at e2
  rw [e2] at e1
  refine ⟨some n, n, xs, some m, m, ys, hv.trans (by simp only [Sym.mk, ta25, e1]), fun x hm => ?_, fun y hm => ?_⟩
  · obtain ⟨zs, hz, s, h4, _⟩ := hx x hm
    exact ⟨s, hz.trans (by rw [h4]; simp only [Sym.mk, ta9, List.headD_cons])⟩
  · obtain ⟨zs, hz, ⟨a, g1, _⟩, ⟨s, g2, _⟩, g3⟩ := hy y hm
    have f1 := take_one g1
    have f2 := take_one g2
    rw [g3] at f2
    rw [f2] at f1
    exact ⟨a, s, hz.trans (by simp only [Sym.mk, ta47, f1])⟩

theorem open9 {k : Nat} {v : V} (h : VArg Try.prog (k + 1) 9 v) : ∃ t, v = V.str t := by
  unfold VArg at h
  obtain ⟨vs, hv, h⟩ := h
  simp only [VT, Try.underlying9] at h
  obtain ⟨t, h1, _⟩ := h
  exact ⟨t, hv.trans (by rw [h1]; simp only [Sym.mk, ta9, List.headD_cons])⟩
theorem take_min {xs : List V} {b : Nat} : List.take (if (b : Int) < (↑xs.length : Int) then (b : Int) else (↑xs.length : Int)).toNat xs = xs.take b := by
  split
  · simp
  · rw [List.take_of_length_le (by omega), List.take_of_length_le (by omega)]
theorem h14 (n m : Option Bool) (c d : Bool) (xs ys : List V) (k : Nat) : callP (evalFn Try.prog Try.cfg (k + 1)) 14 [V.agg [V.sl n c 1 xs, V.sl m d 2 ys]] = some (V.agg [V.sl n false 1 (xs.take 70), V.sl m false 2 (ys.take 65)]) := by
  refine (p14_0 n m c d xs ys k (SlcP.upto ?_ ?_) (SlcP.upto ?_ ?_)).trans ?_
  · split <;> omega
  · split <;> omega
  · split <;> omega
  · split <;> omega
  · rw [show (70 : Int) = ((70 : Nat) : Int) from rfl, show (65 : Int) = ((65 : Nat) : Int) from rfl, take_min, take_min]
theorem h18 (k : Nat) : callP (evalFn Try.prog Try.cfg (k + 100)) 18 [] = some (V.bool true) := by kernel_rfl
theorem h19e (k : Nat) : callP (evalFn Try.prog Try.cfg (k + 10)) 19 [V.agg [V.sl (some true) true 0 [], V.sl (some true) true 0 []], V.agg [V.sl (some true) true 0 [], V.sl (some true) true 0 []]] = some (V.bool true) := by kernel_rfl
theorem l19n_run {n nb : Option Bool} {c cb : Bool} {xs : List V} (hx : ∀ x ∈ xs, isStr x) (hb : xs.length ≤ 1000) : ∀ (r i f : Nat), xs.length - i = r → i ≤ xs.length → r < f →
    l19n n nb c cb xs xs f i = some (.e2 xs.length) := by
  intro r
  induction r with
  | zero =>
    intro i f hr hi hf
    obtain ⟨f, rfl⟩ : ∃ g, f = g + 1 := ⟨f - 1, by omega⟩
    obtain rfl : i = xs.length := by omega
    rw [l19n, decide_eq_false (by omega), cond_false]
  | succ r ih =>
    intro i f hr hi hf
    obtain ⟨f, rfl⟩ : ∃ g, f = g + 1 := ⟨f - 1, by omega⟩
    have hi1 : i < xs.length := by omega
    obtain ⟨t, ht⟩ := hx xs[i] (List.getElem_mem hi1)
    rw [l19n, decide_eq_true (by omega), cond_true, at_get hi1 ht]
    simp only
    rw [show decide True = true from rfl, Bool.not_true, cond_false, wrap_succ (by omega)]
    exact ih (i + 1) f (by omega) (by omega) (by omega)
theorem h19n {n nb : Option Bool} {c cb : Bool} {xs : List V} (hx : ∀ x ∈ xs, isStr x) (hb : xs.length ≤ 1000) (k : Nat) :
    callP (evalFn Try.prog Try.cfg (k + 1003)) 19 [V.agg [V.sl n c 1 xs, V.sl (some true) true 0 []], V.agg [V.sl nb cb 1 xs, V.sl (some true) true 0 []]] = some (V.bool true) :=
  p19n_1 n nb c cb xs xs xs.length (k + 1002) (by rw [decide_eq_true rfl]; rfl) (l19n_ok n nb c cb xs xs (k + 1002) (k + 1002) 0 _ (l19n_run hx hb xs.length 0 (k + 1002) (by omega) (by omega) (by omega)))
    (l19q_ok n nb c cb xs xs xs.length (k + 1002) (k + 1002) _ rfl)
theorem eqV_refl {x : V} (h : isStr x ∨ isPut x) : eqV x x = true := by
  rcases h with ⟨t, rfl⟩ | ⟨a, t, rfl⟩ <;> simp [eqV]
theorem eqL_refl : ∀ {xs : List V}, (∀ x ∈ xs, isStr x ∨ isPut x) → eqL xs xs = true := by
  intro xs
  induction xs with
  | nil => intro _; rfl
  | cons x r ih => intro h; simp only [eqL, eqV_refl (h x (by simp)), ih fun y hy => h y (by simp [hy])]; rfl

theorem g23 {n m : Option Bool} {c d : Bool} {xs ys : List V} (hx : ∀ x ∈ xs, isStr x) (hy : ∀ y ∈ ys, isPut y) (hbx : xs.length ≤ 1000) (hby : ys.length ≤ 1000) {K : Nat} (hK : 1005 ≤ K) :
    callP (evalFn Try.prog Try.cfg K) 23 [V.agg [V.sl n c 1 xs, V.sl m d 2 ys]] = some (V.bool (rightV xs ys)) := by
  obtain ⟨k, rfl⟩ : ∃ k, K = k + 1005 := ⟨K - 1005, by omega⟩
  exact h23 hx hy hbx hby k
theorem g24 {n m : Option Bool} {c d : Bool} {xs ys : List V} (hx : ∀ x ∈ xs, isStr x) (hy : ∀ y ∈ ys, isPut y) (hbx : xs.length ≤ 1000) (hby : ys.length ≤ 1000) {K : Nat} (hK : 1005 ≤ K) :
    callP (evalFn Try.prog Try.cfg K) 24 [V.agg [V.sl n c 1 xs, V.sl m d 2 ys]] = some (V.bool (rightV xs ys)) := by
  obtain ⟨k, rfl⟩ : ∃ k, K = k + 1005 := ⟨K - 1005, by omega⟩
  exact h24 hx hy hbx hby k
theorem g25 {n m : Option Bool} {c d : Bool} {xs ys : List V} {nb mb : Option Bool} {cb db : Bool} {xs2 ys2 : List V} (hx : ∀ x ∈ xs, isStr x) (hx2 : ∀ y ∈ xs2, isStr y) (hy : ∀ x ∈ ys, isPut x) (hy2 : ∀ y ∈ ys2, isPut y) (hbx : xs.length ≤ 1000) (hby : ys.length ≤ 1000) {K : Nat} (hK : 1003 ≤ K) :
    callP (evalFn Try.prog Try.cfg K) 25 [V.agg [V.sl n c 1 xs, V.sl m d 2 ys], V.agg [V.sl nb cb 1 xs2, V.sl mb db 2 ys2]] = some (V.bool (eqL xs xs2 && eqL ys ys2)) := by
  obtain ⟨k, rfl⟩ : ∃ k, K = k + 1003 := ⟨K - 1003, by omega⟩
  exact h25 hx hx2 hy hy2 hbx hby k
theorem g19 {n m : Option Bool} {c d : Bool} {xs ys : List V} {nb mb : Option Bool} {cb db : Bool} {xs2 ys2 : List V} (hx : ∀ x ∈ xs, isStr x) (hx2 : ∀ y ∈ xs2, isStr y) (hy : ∀ x ∈ ys, isPut x) (hy2 : ∀ y ∈ ys2, isPut y) (hbx : xs.length ≤ 1000) (hby : ys.length ≤ 1000) {K : Nat} (hK : 1003 ≤ K) :
    callP (evalFn Try.prog Try.cfg K) 19 [V.agg [V.sl n c 1 xs, V.sl m d 2 ys], V.agg [V.sl nb cb 1 xs2, V.sl mb db 2 ys2]] = some (V.bool (eqL xs xs2 && eqL ys ys2)) := by
  obtain ⟨k, rfl⟩ : ∃ k, K = k + 1003 := ⟨K - 1003, by omega⟩
  exact h19 hx hx2 hy hy2 hbx hby k
theorem g19n {n nb : Option Bool} {c cb : Bool} {xs : List V} (hx : ∀ x ∈ xs, isStr x) (hb : xs.length ≤ 1000) {K : Nat} (hK : 1003 ≤ K) :
    callP (evalFn Try.prog Try.cfg K) 19 [V.agg [V.sl n c 1 xs, V.sl (some true) true 0 []], V.agg [V.sl nb cb 1 xs, V.sl (some true) true 0 []]] = some (V.bool true) := by
  obtain ⟨k, rfl⟩ : ∃ k, K = k + 1003 := ⟨K - 1003, by omega⟩
  exact h19n hx hb k
theorem g18 {K : Nat} (hK : 100 ≤ K) : callP (evalFn Try.prog Try.cfg K) 18 [] = some (V.bool true) := by
  obtain ⟨k, rfl⟩ : ∃ k, K = k + 100 := ⟨K - 100, by omega⟩
  exact h18 k
theorem g19e {K : Nat} (hK : 10 ≤ K) : callP (evalFn Try.prog Try.cfg K) 19 [V.agg [V.sl (some true) true 0 [], V.sl (some true) true 0 []], V.agg [V.sl (some true) true 0 [], V.sl (some true) true 0 []]] = some (V.bool true) := by
  obtain ⟨k, rfl⟩ : ∃ k, K = k + 10 := ⟨K - 10, by omega⟩
  exact h19e k
theorem g17 {n m : Option Bool} {c d : Bool} {xs ys : List V} (hx : ∀ x ∈ xs, isStr x) (hy : ∀ y ∈ ys, isPut y) (hbx : xs.length ≤ 1000) (hby : ys.length ≤ 1000) (a : Int) {K : Nat} (hK : 1006 ≤ K) :
    callP (evalFn Try.prog Try.cfg K) 17 [V.agg [V.sl n c 1 xs, V.sl m d 2 ys], V.int IntKind.i64 a] = some (V.int IntKind.i64 (whyV xs ys a)) := by
  obtain ⟨k, rfl⟩ : ∃ k, K = k + 1006 := ⟨K - 1006, by omega⟩
  exact h17 hx hy hbx hby a k
theorem g20 {n m : Option Bool} {c d : Bool} {xs ys : List V} (hx : ∀ x ∈ xs, isStr x) (hy : ∀ y ∈ ys, isPut y) (hby : ys.length ≤ 1000) {a : Int} (h0 : 0 ≤ a) (h1 : a < xs.length) {K : Nat} (hK : 1006 ≤ K) :
    callP (evalFn Try.prog Try.cfg K) 20 [V.agg [V.sl n c 1 xs, V.sl m d 2 ys], V.int IntKind.i64 a] = some (V.str (readR xs ys a)) := by
  obtain ⟨k, rfl⟩ : ∃ k, K = k + 1006 := ⟨K - 1006, by omega⟩
  exact h20 hx hy hby h0 h1 k
theorem g16no {n m : Option Bool} {c d : Bool} {xs ys : List V} (hx : ∀ x ∈ xs, isStr x) (hy : ∀ y ∈ ys, isPut y) (hbx : xs.length ≤ 1000) (hby : ys.length ≤ 1000) {a : Int} (h : ¬ whyV xs ys a = 0) {K : Nat} (hK : 1007 ≤ K) :
    callP (evalFn Try.prog Try.cfg K) 16 [V.agg [V.sl n c 1 xs, V.sl m d 2 ys], V.int IntKind.i64 a] = some (V.tup [V.str [], V.int IntKind.i64 (whyV xs ys a)]) := by
  obtain ⟨k, rfl⟩ : ∃ k, K = k + 1007 := ⟨K - 1007, by omega⟩
  exact h16no hx hy hbx hby h k
theorem g16 {n m : Option Bool} {c d : Bool} {xs ys : List V} (hx : ∀ x ∈ xs, isStr x) (hy : ∀ y ∈ ys, isPut y) (hbx : xs.length ≤ 1000) (hby : ys.length ≤ 1000) {a : Int} (h : whyV xs ys a = 0) {K : Nat} (hK : 1007 ≤ K) :
    callP (evalFn Try.prog Try.cfg K) 16 [V.agg [V.sl n c 1 xs, V.sl m d 2 ys], V.int IntKind.i64 a] = some (V.tup [V.str (readR xs ys a), V.int IntKind.i64 0]) := by
  obtain ⟨k, rfl⟩ : ∃ k, K = k + 1007 := ⟨K - 1007, by omega⟩
  exact h16 hx hy hbx hby h k
theorem g15a {n m : Option Bool} {c d : Bool} {xs ys : List V} (hx : ∀ x ∈ xs, isStr x) (hy : ∀ y ∈ ys, isPut y) (hbx : xs.length ≤ 1000) (hby : ys.length ≤ 1000) {a : Int} (t : List UInt8) (h : ¬ whyV xs ys a = 0) {K : Nat} (hK : 1007 ≤ K) :
    callP (evalFn Try.prog Try.cfg K) 15 [V.agg [V.sl n c 1 xs, V.sl m d 2 ys], V.int IntKind.i64 a, V.str t] = some (V.tup [nilDev, V.int IntKind.i64 (whyV xs ys a)]) := by
  obtain ⟨k, rfl⟩ : ∃ k, K = k + 1007 := ⟨K - 1007, by omega⟩
  exact h15a hx hy hbx hby t h k
theorem g15b {n m : Option Bool} {c d : Bool} {xs ys : List V} (hx : ∀ x ∈ xs, isStr x) (hy : ∀ y ∈ ys, isPut y) (hbx : xs.length ≤ 1000) (hby : ys.length ≤ 1000) {a : Int} {t : List UInt8} (h : whyV xs ys a = 0) (ht : 128 < (↑t.length : Int)) {K : Nat} (hK : 1007 ≤ K) :
    callP (evalFn Try.prog Try.cfg K) 15 [V.agg [V.sl n c 1 xs, V.sl m d 2 ys], V.int IntKind.i64 a, V.str t] = some (V.tup [nilDev, V.int IntKind.i64 4]) := by
  obtain ⟨k, rfl⟩ : ∃ k, K = k + 1007 := ⟨K - 1007, by omega⟩
  exact h15b hx hy hbx hby h ht k
theorem g15c {n m : Option Bool} {c d : Bool} {xs ys : List V} (hx : ∀ x ∈ xs, isStr x) (hy : ∀ y ∈ ys, isPut y) (hbx : xs.length ≤ 1000) (hby : ys.length ≤ 1000) {a : Int} {t : List UInt8} (h : whyV xs ys a = 0) (ht : ¬ 128 < (↑t.length : Int)) (h60 : (↑ys.length : Int) = 60) {K : Nat} (hK : 1007 ≤ K) :
    callP (evalFn Try.prog Try.cfg K) 15 [V.agg [V.sl n c 1 xs, V.sl m d 2 ys], V.int IntKind.i64 a, V.str t] = some (V.tup [nilDev, V.int IntKind.i64 6]) := by
  obtain ⟨k, rfl⟩ : ∃ k, K = k + 1007 := ⟨K - 1007, by omega⟩
  exact h15c hx hy hbx hby h ht h60 k
theorem g15d {n m : Option Bool} {c d : Bool} {xs ys : List V} (hx : ∀ x ∈ xs, isStr x) (hy : ∀ y ∈ ys, isPut y) (hbx : xs.length ≤ 1000) (hby : ys.length ≤ 1000) {a : Int} {t : List UInt8} (h : whyV xs ys a = 0) (ht : ¬ 128 < (↑t.length : Int)) (hn : ¬ (↑ys.length : Int) = 60) {K : Nat} (hK : 1007 ≤ K) :
    callP (evalFn Try.prog Try.cfg K) 15 [V.agg [V.sl n c 1 xs, V.sl m d 2 ys], V.int IntKind.i64 a, V.str t] = some (V.tup [V.agg [V.sl n c 1 xs, V.sl none false 2 (ys ++ [putV a t])], V.int IntKind.i64 0]) := by
  obtain ⟨k, rfl⟩ : ∃ k, K = k + 1007 := ⟨K - 1007, by omega⟩
  exact h15d hx hy hbx hby h ht hn k
end Go.Proofs
