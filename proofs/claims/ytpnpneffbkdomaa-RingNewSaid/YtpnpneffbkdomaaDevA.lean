/-
  Paths of the functions of devices, and their loops as functions, found by a program and checked here one by one.
-/
import Derived.Test.YtpnpneffbkdomaaBase
set_option maxHeartbeats 0
set_option linter.unusedVariables false
namespace Go.Proofs
open Go.Sym
def putV (a : Int) (t : List UInt8) : V := V.agg [V.int IntKind.i64 a, V.str t]
def longV : V → Bool | .str t => decide (128 < (↑t.length : Int)) | _ => false
def oddV (len : Nat) : V → Bool | .agg [.int _ a, .str t] => decide (a < 0) || (decide ((len : Int) ≤ a) || decide (128 < (↑t.length : Int))) | _ => false
def idxF (p : V → Bool) : Nat → List V → Int
  | _, [] => -1
  | i, x :: r => bif p x then (i : Int) else idxF p (i + 1) r
def idxV (p : V → Bool) (xs : List V) : Int := idxF p 0 xs
def rightV (xs ys : List V) : Bool := decide (1 ≤ (xs.length : Int)) && (decide ((xs.length : Int) ≤ 64) && (decide ((ys.length : Int) ≤ 60) && (!xs.any longV && !ys.any (oddV xs.length))))
def eqV : V → V → Bool
  | .str t, .str u => decide (t = u)
  | .agg [.int _ a, .str t], .agg [.int _ b, .str u] => decide (a = b) && (decide (t = u) && true)
  | _, _ => false
def eqL : List V → List V → Bool
  | [], [] => true
  | x :: xs, y :: ys => eqV x y && eqL xs ys
  | _, _ => false
def whyV (xs ys : List V) (a : Int) : Int := bif rightV xs ys then (bif decide (a < 0) || decide ((xs.length : Int) ≤ a) then 2 else 0) else 1
theorem l84_b_0 (n : Option Bool) (c : Bool) (xs : List V) (v0 : Int) (t_00 : List UInt8) (K : Nat)
    (c0 : decide (v0 < (↑xs.length : Int)) = true)
    (c1 : IdxP xs v0 1 1 (V.str t_00))
    (c2 : callP (evalFn Try.prog Try.cfg K) 62 [V.str t_00] = some (V.bool true)) :
    evalCode Try.prog Try.cfg (evalFn Try.prog Try.cfg K) 0 (Try.cfg.fc 84) K (loopBody Try.f84 0) { tm := [(0, V.sl n c 1 xs), (1, V.fn (Fn.func 62) [] []), (4, V.int IntKind.i64 0), (7, V.int IntKind.i64 (↑xs.length : Int)), (8, V.int IntKind.i64 v0)], hp := [], nx := 0 } = some (Exit.ret, { tm := [(0, V.sl n c 1 xs), (1, V.fn (Fn.func 62) [] []), (4, V.int IntKind.i64 v0), (5, V.int IntKind.i64 v0), (7, V.int IntKind.i64 (↑xs.length : Int)), (8, V.int IntKind.i64 v0), (9, V.bool true), (16, V.bool true)], hp := [], nx := 44 }) :=
  byC [Hint.br 9 true, Hint.op 14 ((V.str t_00).cpt 0) [], Hint.call 16 (V.bool true)] ((decide (v0 < (↑xs.length : Int)) = true) ∧ (IdxP xs v0 1 1 (V.str t_00)) ∧ (callP (evalFn Try.prog Try.cfg K) 62 [V.str t_00] = some (V.bool true)) ∧ True) (by kernel_rfl) ⟨c0, c1, c2, trivial⟩
theorem l84_b_1 (n : Option Bool) (c : Bool) (xs : List V) (v0 : Int) (t_00 : List UInt8) (K : Nat)
    (c0 : decide (v0 < (↑xs.length : Int)) = true)
    (c1 : IdxP xs v0 1 1 (V.str t_00))
    (c2 : callP (evalFn Try.prog Try.cfg K) 62 [V.str t_00] = some (V.bool false)) :
    evalCode Try.prog Try.cfg (evalFn Try.prog Try.cfg K) 0 (Try.cfg.fc 84) K (loopBody Try.f84 0) { tm := [(0, V.sl n c 1 xs), (1, V.fn (Fn.func 62) [] []), (4, V.int IntKind.i64 0), (7, V.int IntKind.i64 (↑xs.length : Int)), (8, V.int IntKind.i64 v0)], hp := [], nx := 0 } = some (Exit.normal, { tm := [(0, V.sl n c 1 xs), (1, V.fn (Fn.func 62) [] []), (4, V.int IntKind.i64 0), (5, V.int IntKind.i64 v0), (7, V.int IntKind.i64 (↑xs.length : Int)), (8, V.int IntKind.i64 (IntKind.i64.wrap (v0 + 1))), (9, V.bool true), (16, V.bool false)], hp := [], nx := 44 }) :=
  byC [Hint.br 9 true, Hint.op 14 ((V.str t_00).cpt 0) [], Hint.call 16 (V.bool false)] ((decide (v0 < (↑xs.length : Int)) = true) ∧ (IdxP xs v0 1 1 (V.str t_00)) ∧ (callP (evalFn Try.prog Try.cfg K) 62 [V.str t_00] = some (V.bool false)) ∧ True) (by kernel_rfl) ⟨c0, c1, c2, trivial⟩
theorem l84_b_1h (n : Option Bool) (c : Bool) (xs : List V) (v0 : Int) (t_00 : List UInt8) : head 0 [0, 1, 4, 7, 8] (Try.cfg.fc 84).acc { tm := [(0, V.sl n c 1 xs), (1, V.fn (Fn.func 62) [] []), (4, V.int IntKind.i64 0), (5, V.int IntKind.i64 v0), (7, V.int IntKind.i64 (↑xs.length : Int)), (8, V.int IntKind.i64 (IntKind.i64.wrap (v0 + 1))), (9, V.bool true), (16, V.bool false)], hp := [], nx := 44 } = { tm := [(0, V.sl n c 1 xs), (1, V.fn (Fn.func 62) [] []), (4, V.int IntKind.i64 0), (7, V.int IntKind.i64 (↑xs.length : Int)), (8, V.int IntKind.i64 (IntKind.i64.wrap (v0 + 1)))], hp := [], nx := 0 } := by kernel_rfl
theorem l84_b_2 (n : Option Bool) (c : Bool) (xs : List V) (v0 : Int) (K : Nat)
    (c0 : decide (v0 < (↑xs.length : Int)) = false) :
    evalCode Try.prog Try.cfg (evalFn Try.prog Try.cfg K) 0 (Try.cfg.fc 84) K (loopBody Try.f84 0) { tm := [(0, V.sl n c 1 xs), (1, V.fn (Fn.func 62) [] []), (4, V.int IntKind.i64 0), (7, V.int IntKind.i64 (↑xs.length : Int)), (8, V.int IntKind.i64 v0)], hp := [], nx := 0 } = some (Exit.exit 0, { tm := [(0, V.sl n c 1 xs), (1, V.fn (Fn.func 62) [] []), (4, V.int IntKind.i64 0), (7, V.int IntKind.i64 (↑xs.length : Int)), (8, V.int IntKind.i64 v0), (9, V.bool false)], hp := [], nx := 4 }) :=
  byC [Hint.br 9 false] ((decide (v0 < (↑xs.length : Int)) = false) ∧ True) (by kernel_rfl) ⟨c0, trivial⟩
inductive l84_R where
  | e0 (v0 : Int)
  | e2 (v0 : Int)
def l84_end (n : Option Bool) (c : Bool) (xs : List V) : l84_R → Exit × St
  | .e0 v0 => (Exit.ret, { tm := [(0, V.sl n c 1 xs), (1, V.fn (Fn.func 62) [] []), (4, V.int IntKind.i64 v0), (5, V.int IntKind.i64 v0), (7, V.int IntKind.i64 (↑xs.length : Int)), (8, V.int IntKind.i64 v0), (9, V.bool true), (16, V.bool true)], hp := [], nx := 44 })
  | .e2 v0 => (Exit.exit 0, { tm := [(0, V.sl n c 1 xs), (1, V.fn (Fn.func 62) [] []), (4, V.int IntKind.i64 0), (7, V.int IntKind.i64 (↑xs.length : Int)), (8, V.int IntKind.i64 v0), (9, V.bool false)], hp := [], nx := 4 })
def l84 (n : Option Bool) (c : Bool) (xs : List V) : Nat → Int → Option l84_R
  | 0, _ => none
  | f + 1, v0 => (bif decide (v0 < (↑xs.length : Int)) then (match at? xs (v0) with | some (V.str t_00) => (bif decide (128 < (↑t_00.length : Int)) then some (l84_R.e0 v0) else l84 n c xs f (IntKind.i64.wrap (v0 + 1))) | _ => none) else some (l84_R.e2 v0))
theorem l84_ok (n : Option Bool) (c : Bool) (xs : List V) (K : Nat)
    (hc0 : ∀ (t_00 : List UInt8), callP (evalFn Try.prog Try.cfg K) 62 [V.str t_00] = some (V.bool (decide (128 < (↑t_00.length : Int))))) : ∀ (f : Nat) (v0 : Int) (r : l84_R), l84 n c xs f v0 = some r →
    LoopsN Try.prog Try.cfg K 0 Try.f84 (Try.cfg.fc 84) 0 [0, 1, 4, 7, 8] f { tm := [(0, V.sl n c 1 xs), (1, V.fn (Fn.func 62) [] []), (4, V.int IntKind.i64 0), (7, V.int IntKind.i64 (↑xs.length : Int)), (8, V.int IntKind.i64 v0)], hp := [], nx := 0 } (l84_end n c xs r) := by
  intro f
  induction f with
  | zero => intro v0 r h; cases h
  | succ f ih =>
    intro v0 r h
    rw [l84] at h
    cases d0 : (decide (v0 < (↑xs.length : Int)))
    · rw [d0, cond_false] at h
      cases h
      exact LoopsN.done (l84_b_2 n c xs v0 K d0) (fun h => by cases h)
    · rw [d0, cond_true] at h
      split at h
      · rename_i t_00 a1
        cases d8000 : (decide (128 < (↑t_00.length : Int)))
        · rw [d8000, cond_false] at h
          exact LoopsN.next (l84_b_1 n c xs v0 t_00 K d0 (IdxP.of_at ‹_›) ((hc0 _).trans (by rw [d8000]))) (l84_b_1h n c xs v0 t_00) (ih _ _ h)
        · rw [d8000, cond_true] at h
          cases h
          exact LoopsN.done (l84_b_0 n c xs v0 t_00 K d0 (IdxP.of_at ‹_›) ((hc0 _).trans (by rw [d8000]))) (fun h => by cases h)
      · cases h
theorem p84a_0 (n : Option Bool) (c : Bool) (xs : List V) (v : Int) (k : Nat)
    (c0 : LoopsN Try.prog Try.cfg k 0 Try.f84 (Try.cfg.fc 84) 0 [0, 1, 4, 7, 8] k { tm := [(0, V.sl n c 1 xs), (1, V.fn (Fn.func 62) [] []), (4, V.int IntKind.i64 0), (7, V.int IntKind.i64 (↑xs.length : Int)), (8, V.int IntKind.i64 0)], hp := [], nx := 0 } (Exit.ret, { tm := [(0, V.sl n c 1 xs), (1, V.fn (Fn.func 62) [] []), (4, V.int IntKind.i64 v), (5, V.int IntKind.i64 v), (7, V.int IntKind.i64 (↑xs.length : Int)), (8, V.int IntKind.i64 v), (9, V.bool true), (16, V.bool true)], hp := [], nx := 44 })) :
    callP (evalFn Try.prog Try.cfg (k + 1)) 84 [V.sl n c 1 xs, V.fn (Fn.func 62) [] []] = some (V.int IntKind.i64 v) :=
  byP [Hint.loop (Exit.ret, { tm := [(0, V.sl n c 1 xs), (1, V.fn (Fn.func 62) [] []), (4, V.int IntKind.i64 v), (5, V.int IntKind.i64 v), (7, V.int IntKind.i64 (↑xs.length : Int)), (8, V.int IntKind.i64 v), (9, V.bool true), (16, V.bool true)], hp := [], nx := 44 })] ((LoopsN Try.prog Try.cfg k 0 Try.f84 (Try.cfg.fc 84) 0 [0, 1, 4, 7, 8] k { tm := [(0, V.sl n c 1 xs), (1, V.fn (Fn.func 62) [] []), (4, V.int IntKind.i64 0), (7, V.int IntKind.i64 (↑xs.length : Int)), (8, V.int IntKind.i64 0)], hp := [], nx := 0 } (Exit.ret, { tm := [(0, V.sl n c 1 xs), (1, V.fn (Fn.func 62) [] []), (4, V.int IntKind.i64 v), (5, V.int IntKind.i64 v), (7, V.int IntKind.i64 (↑xs.length : Int)), (8, V.int IntKind.i64 v), (9, V.bool true), (16, V.bool true)], hp := [], nx := 44 })) ∧ True) (by kernel_rfl) ⟨c0, trivial⟩
theorem p84b_0 (n : Option Bool) (c : Bool) (xs : List V) (v : Int) (k : Nat)
    (c0 : LoopsN Try.prog Try.cfg k 0 Try.f84 (Try.cfg.fc 84) 0 [0, 1, 4, 7, 8] k { tm := [(0, V.sl n c 1 xs), (1, V.fn (Fn.func 62) [] []), (4, V.int IntKind.i64 0), (7, V.int IntKind.i64 (↑xs.length : Int)), (8, V.int IntKind.i64 0)], hp := [], nx := 0 } (Exit.exit 0, { tm := [(0, V.sl n c 1 xs), (1, V.fn (Fn.func 62) [] []), (4, V.int IntKind.i64 0), (7, V.int IntKind.i64 (↑xs.length : Int)), (8, V.int IntKind.i64 v), (9, V.bool false)], hp := [], nx := 4 })) :
    callP (evalFn Try.prog Try.cfg (k + 1)) 84 [V.sl n c 1 xs, V.fn (Fn.func 62) [] []] = some (V.int IntKind.i64 (-1)) :=
  byP [Hint.loop (Exit.exit 0, { tm := [(0, V.sl n c 1 xs), (1, V.fn (Fn.func 62) [] []), (4, V.int IntKind.i64 0), (7, V.int IntKind.i64 (↑xs.length : Int)), (8, V.int IntKind.i64 v), (9, V.bool false)], hp := [], nx := 4 })] ((LoopsN Try.prog Try.cfg k 0 Try.f84 (Try.cfg.fc 84) 0 [0, 1, 4, 7, 8] k { tm := [(0, V.sl n c 1 xs), (1, V.fn (Fn.func 62) [] []), (4, V.int IntKind.i64 0), (7, V.int IntKind.i64 (↑xs.length : Int)), (8, V.int IntKind.i64 0)], hp := [], nx := 0 } (Exit.exit 0, { tm := [(0, V.sl n c 1 xs), (1, V.fn (Fn.func 62) [] []), (4, V.int IntKind.i64 0), (7, V.int IntKind.i64 (↑xs.length : Int)), (8, V.int IntKind.i64 v), (9, V.bool false)], hp := [], nx := 4 })) ∧ True) (by kernel_rfl) ⟨c0, trivial⟩
theorem p64_0 (n : Option Bool) (c : Bool) (xs : List V) (k : Nat)
    (c0 : callP (evalFn Try.prog Try.cfg k) 84 [V.sl n c 1 xs, V.fn (Fn.func 62) [] []] = some (V.int IntKind.i64 (idxV longV xs))) :
    callP (evalFn Try.prog Try.cfg (k + 1)) 64 [V.sl n c 1 xs, V.fn (Fn.func 62) [] []] = some (V.bool (decide (0 ≤ idxV longV xs))) :=
  byP [Hint.call 7 (V.int IntKind.i64 (idxV longV xs))] ((callP (evalFn Try.prog Try.cfg k) 84 [V.sl n c 1 xs, V.fn (Fn.func 62) [] []] = some (V.int IntKind.i64 (idxV longV xs))) ∧ True) (by kernel_rfl) ⟨c0, trivial⟩
theorem p63_0 (n : Option Bool) (m : Option Bool) (c : Bool) (d : Bool) (xs : List V) (ys : List V) (a : Int) (t : List UInt8) (k : Nat)
    (c0 : decide (a < 0) = true) :
    evalFn Try.prog Try.cfg (k + 1) 63 [V.agg [V.int IntKind.i64 a, V.str t], V.ptr 0 0, V.ptr 8 0] [(0, Ob.var [V.sl n c 1 xs, V.sl m d 2 ys]), (8, Ob.var [V.fn (Fn.func 62) [] []])] 176 = some (V.bool true, [(0, Ob.var [V.sl n c 1 xs, V.sl m d 2 ys]), (8, Ob.var [V.fn (Fn.func 62) [] []]), (176, Ob.var [V.int IntKind.i64 a, V.str t])], 256) :=
  byR [Hint.br 8 true] ((decide (a < 0) = true) ∧ True) (by kernel_rfl) ⟨c0, trivial⟩
theorem p63_1 (n : Option Bool) (m : Option Bool) (c : Bool) (d : Bool) (xs : List V) (ys : List V) (a : Int) (t : List UInt8) (k : Nat)
    (c0 : decide (a < 0) = false)
    (c1 : decide ((↑xs.length : Int) ≤ a) = true) :
    evalFn Try.prog Try.cfg (k + 1) 63 [V.agg [V.int IntKind.i64 a, V.str t], V.ptr 0 0, V.ptr 8 0] [(0, Ob.var [V.sl n c 1 xs, V.sl m d 2 ys]), (8, Ob.var [V.fn (Fn.func 62) [] []])] 176 = some (V.bool true, [(0, Ob.var [V.sl n c 1 xs, V.sl m d 2 ys]), (8, Ob.var [V.fn (Fn.func 62) [] []]), (176, Ob.var [V.int IntKind.i64 a, V.str t])], 256) :=
  byR [Hint.br 8 false, Hint.br 16 true] ((decide (a < 0) = false) ∧ (decide ((↑xs.length : Int) ≤ a) = true) ∧ True) (by kernel_rfl) ⟨c0, c1, trivial⟩
theorem p63_2 (n : Option Bool) (m : Option Bool) (c : Bool) (d : Bool) (xs : List V) (ys : List V) (a : Int) (t : List UInt8) (k : Nat)
    (c0 : decide (a < 0) = false)
    (c1 : decide ((↑xs.length : Int) ≤ a) = false)
    (c2 : callP (evalFn Try.prog Try.cfg k) 62 [V.str t] = some (V.bool (decide (128 < (↑t.length : Int))))) :
    evalFn Try.prog Try.cfg (k + 1) 63 [V.agg [V.int IntKind.i64 a, V.str t], V.ptr 0 0, V.ptr 8 0] [(0, Ob.var [V.sl n c 1 xs, V.sl m d 2 ys]), (8, Ob.var [V.fn (Fn.func 62) [] []])] 176 = some (V.bool (decide (128 < (↑t.length : Int))), [(0, Ob.var [V.sl n c 1 xs, V.sl m d 2 ys]), (8, Ob.var [V.fn (Fn.func 62) [] []]), (176, Ob.var [V.int IntKind.i64 a, V.str t])], 256) :=
  byR [Hint.br 8 false, Hint.br 16 false, Hint.call 20 (V.bool (decide (128 < (↑t.length : Int))))] ((decide (a < 0) = false) ∧ (decide ((↑xs.length : Int) ≤ a) = false) ∧ (callP (evalFn Try.prog Try.cfg k) 62 [V.str t] = some (V.bool (decide (128 < (↑t.length : Int))))) ∧ True) (by kernel_rfl) ⟨c0, c1, c2, trivial⟩
theorem l85_b_0 (n : Option Bool) (m : Option Bool) (c : Bool) (d : Bool) (xs : List V) (ys : List V) (v0 : Int) (a_00 : Int) (t_00 : List UInt8) (K : Nat)
    (c0 : decide (v0 < (↑ys.length : Int)) = true)
    (c1 : IdxP ys v0 2 2 (V.agg [V.int IntKind.i64 a_00, V.str t_00]))
    (c2 : evalFn Try.prog Try.cfg K 63 [V.agg [V.int IntKind.i64 a_00, V.str t_00], V.ptr 0 0, V.ptr 8 0] [(0, Ob.var [V.sl n c 1 xs, V.sl m d 2 ys]), (8, Ob.var [V.fn (Fn.func 62) [] []])] 176 = some (V.bool true, [(0, Ob.var [V.sl n c 1 xs, V.sl m d 2 ys]), (8, Ob.var [V.fn (Fn.func 62) [] []]), (176, Ob.var [V.int IntKind.i64 a_00, V.str t_00])], 256)) :
    evalCode Try.prog Try.cfg (evalFn Try.prog Try.cfg K) 144 (Try.cfg.fc 85) K (loopBody Try.f85 0) { tm := [(0, V.sl m d 2 ys), (1, V.fn (Fn.func 63) [] [V.ptr 0 0, V.ptr 8 0]), (4, V.int IntKind.i64 0), (7, V.int IntKind.i64 (↑ys.length : Int)), (8, V.int IntKind.i64 v0)], hp := [(0, Ob.var [V.sl n c 1 xs, V.sl m d 2 ys]), (8, Ob.var [V.fn (Fn.func 62) [] []])], nx := 144 } = some (Exit.ret, { tm := [(0, V.sl m d 2 ys), (1, V.fn (Fn.func 63) [] [V.ptr 0 0, V.ptr 8 0]), (4, V.int IntKind.i64 v0), (5, V.int IntKind.i64 v0), (7, V.int IntKind.i64 (↑ys.length : Int)), (8, V.int IntKind.i64 v0), (9, V.bool true), (16, V.bool true)], hp := [(0, Ob.var [V.sl n c 1 xs, V.sl m d 2 ys]), (8, Ob.var [V.fn (Fn.func 62) [] []]), (176, Ob.var [V.int IntKind.i64 a_00, V.str t_00])], nx := 264 }) :=
  byC [Hint.br 9 true, Hint.op 14 ((V.agg [V.int IntKind.i64 a_00, V.str t_00]).cpt 0) [], Hint.inl 16 (V.bool true) [(0, Ob.var [V.sl n c 1 xs, V.sl m d 2 ys]), (8, Ob.var [V.fn (Fn.func 62) [] []]), (176, Ob.var [V.int IntKind.i64 a_00, V.str t_00])] 256] ((decide (v0 < (↑ys.length : Int)) = true) ∧ (IdxP ys v0 2 2 (V.agg [V.int IntKind.i64 a_00, V.str t_00])) ∧ (evalFn Try.prog Try.cfg K 63 [V.agg [V.int IntKind.i64 a_00, V.str t_00], V.ptr 0 0, V.ptr 8 0] [(0, Ob.var [V.sl n c 1 xs, V.sl m d 2 ys]), (8, Ob.var [V.fn (Fn.func 62) [] []])] 176 = some (V.bool true, [(0, Ob.var [V.sl n c 1 xs, V.sl m d 2 ys]), (8, Ob.var [V.fn (Fn.func 62) [] []]), (176, Ob.var [V.int IntKind.i64 a_00, V.str t_00])], 256)) ∧ True) (by kernel_rfl) ⟨c0, c1, c2, trivial⟩
theorem l85_b_1 (n : Option Bool) (m : Option Bool) (c : Bool) (d : Bool) (xs : List V) (ys : List V) (v0 : Int) (a_00 : Int) (t_00 : List UInt8) (K : Nat)
    (c0 : decide (v0 < (↑ys.length : Int)) = true)
    (c1 : IdxP ys v0 2 2 (V.agg [V.int IntKind.i64 a_00, V.str t_00]))
    (c2 : evalFn Try.prog Try.cfg K 63 [V.agg [V.int IntKind.i64 a_00, V.str t_00], V.ptr 0 0, V.ptr 8 0] [(0, Ob.var [V.sl n c 1 xs, V.sl m d 2 ys]), (8, Ob.var [V.fn (Fn.func 62) [] []])] 176 = some (V.bool false, [(0, Ob.var [V.sl n c 1 xs, V.sl m d 2 ys]), (8, Ob.var [V.fn (Fn.func 62) [] []]), (176, Ob.var [V.int IntKind.i64 a_00, V.str t_00])], 256)) :
    evalCode Try.prog Try.cfg (evalFn Try.prog Try.cfg K) 144 (Try.cfg.fc 85) K (loopBody Try.f85 0) { tm := [(0, V.sl m d 2 ys), (1, V.fn (Fn.func 63) [] [V.ptr 0 0, V.ptr 8 0]), (4, V.int IntKind.i64 0), (7, V.int IntKind.i64 (↑ys.length : Int)), (8, V.int IntKind.i64 v0)], hp := [(0, Ob.var [V.sl n c 1 xs, V.sl m d 2 ys]), (8, Ob.var [V.fn (Fn.func 62) [] []])], nx := 144 } = some (Exit.normal, { tm := [(0, V.sl m d 2 ys), (1, V.fn (Fn.func 63) [] [V.ptr 0 0, V.ptr 8 0]), (4, V.int IntKind.i64 0), (5, V.int IntKind.i64 v0), (7, V.int IntKind.i64 (↑ys.length : Int)), (8, V.int IntKind.i64 (IntKind.i64.wrap (v0 + 1))), (9, V.bool true), (16, V.bool false)], hp := [(0, Ob.var [V.sl n c 1 xs, V.sl m d 2 ys]), (8, Ob.var [V.fn (Fn.func 62) [] []]), (176, Ob.var [V.int IntKind.i64 a_00, V.str t_00])], nx := 264 }) :=
  byC [Hint.br 9 true, Hint.op 14 ((V.agg [V.int IntKind.i64 a_00, V.str t_00]).cpt 0) [], Hint.inl 16 (V.bool false) [(0, Ob.var [V.sl n c 1 xs, V.sl m d 2 ys]), (8, Ob.var [V.fn (Fn.func 62) [] []]), (176, Ob.var [V.int IntKind.i64 a_00, V.str t_00])] 256] ((decide (v0 < (↑ys.length : Int)) = true) ∧ (IdxP ys v0 2 2 (V.agg [V.int IntKind.i64 a_00, V.str t_00])) ∧ (evalFn Try.prog Try.cfg K 63 [V.agg [V.int IntKind.i64 a_00, V.str t_00], V.ptr 0 0, V.ptr 8 0] [(0, Ob.var [V.sl n c 1 xs, V.sl m d 2 ys]), (8, Ob.var [V.fn (Fn.func 62) [] []])] 176 = some (V.bool false, [(0, Ob.var [V.sl n c 1 xs, V.sl m d 2 ys]), (8, Ob.var [V.fn (Fn.func 62) [] []]), (176, Ob.var [V.int IntKind.i64 a_00, V.str t_00])], 256)) ∧ True) (by kernel_rfl) ⟨c0, c1, c2, trivial⟩
theorem l85_b_1h (n : Option Bool) (m : Option Bool) (c : Bool) (d : Bool) (xs : List V) (ys : List V) (v0 : Int) (a_00 : Int) (t_00 : List UInt8) : head 144 [0, 1, 4, 7, 8] (Try.cfg.fc 85).acc { tm := [(0, V.sl m d 2 ys), (1, V.fn (Fn.func 63) [] [V.ptr 0 0, V.ptr 8 0]), (4, V.int IntKind.i64 0), (5, V.int IntKind.i64 v0), (7, V.int IntKind.i64 (↑ys.length : Int)), (8, V.int IntKind.i64 (IntKind.i64.wrap (v0 + 1))), (9, V.bool true), (16, V.bool false)], hp := [(0, Ob.var [V.sl n c 1 xs, V.sl m d 2 ys]), (8, Ob.var [V.fn (Fn.func 62) [] []]), (176, Ob.var [V.int IntKind.i64 a_00, V.str t_00])], nx := 264 } = { tm := [(0, V.sl m d 2 ys), (1, V.fn (Fn.func 63) [] [V.ptr 0 0, V.ptr 8 0]), (4, V.int IntKind.i64 0), (7, V.int IntKind.i64 (↑ys.length : Int)), (8, V.int IntKind.i64 (IntKind.i64.wrap (v0 + 1)))], hp := [(0, Ob.var [V.sl n c 1 xs, V.sl m d 2 ys]), (8, Ob.var [V.fn (Fn.func 62) [] []])], nx := 144 } := by kernel_rfl
theorem l85_b_2 (n : Option Bool) (m : Option Bool) (c : Bool) (d : Bool) (xs : List V) (ys : List V) (v0 : Int) (K : Nat)
    (c0 : decide (v0 < (↑ys.length : Int)) = false) :
    evalCode Try.prog Try.cfg (evalFn Try.prog Try.cfg K) 144 (Try.cfg.fc 85) K (loopBody Try.f85 0) { tm := [(0, V.sl m d 2 ys), (1, V.fn (Fn.func 63) [] [V.ptr 0 0, V.ptr 8 0]), (4, V.int IntKind.i64 0), (7, V.int IntKind.i64 (↑ys.length : Int)), (8, V.int IntKind.i64 v0)], hp := [(0, Ob.var [V.sl n c 1 xs, V.sl m d 2 ys]), (8, Ob.var [V.fn (Fn.func 62) [] []])], nx := 144 } = some (Exit.exit 0, { tm := [(0, V.sl m d 2 ys), (1, V.fn (Fn.func 63) [] [V.ptr 0 0, V.ptr 8 0]), (4, V.int IntKind.i64 0), (7, V.int IntKind.i64 (↑ys.length : Int)), (8, V.int IntKind.i64 v0), (9, V.bool false)], hp := [(0, Ob.var [V.sl n c 1 xs, V.sl m d 2 ys]), (8, Ob.var [V.fn (Fn.func 62) [] []])], nx := 148 }) :=
  byC [Hint.br 9 false] ((decide (v0 < (↑ys.length : Int)) = false) ∧ True) (by kernel_rfl) ⟨c0, trivial⟩
inductive l85_R where
  | e0 (v0 : Int) (a_00 : Int) (t_00 : List UInt8)
  | e2 (v0 : Int)
def l85_end (n : Option Bool) (m : Option Bool) (c : Bool) (d : Bool) (xs : List V) (ys : List V) : l85_R → Exit × St
  | .e0 v0 a_00 t_00 => (Exit.ret, { tm := [(0, V.sl m d 2 ys), (1, V.fn (Fn.func 63) [] [V.ptr 0 0, V.ptr 8 0]), (4, V.int IntKind.i64 v0), (5, V.int IntKind.i64 v0), (7, V.int IntKind.i64 (↑ys.length : Int)), (8, V.int IntKind.i64 v0), (9, V.bool true), (16, V.bool true)], hp := [(0, Ob.var [V.sl n c 1 xs, V.sl m d 2 ys]), (8, Ob.var [V.fn (Fn.func 62) [] []]), (176, Ob.var [V.int IntKind.i64 a_00, V.str t_00])], nx := 264 })
  | .e2 v0 => (Exit.exit 0, { tm := [(0, V.sl m d 2 ys), (1, V.fn (Fn.func 63) [] [V.ptr 0 0, V.ptr 8 0]), (4, V.int IntKind.i64 0), (7, V.int IntKind.i64 (↑ys.length : Int)), (8, V.int IntKind.i64 v0), (9, V.bool false)], hp := [(0, Ob.var [V.sl n c 1 xs, V.sl m d 2 ys]), (8, Ob.var [V.fn (Fn.func 62) [] []])], nx := 148 })
def l85 (n : Option Bool) (m : Option Bool) (c : Bool) (d : Bool) (xs : List V) (ys : List V) : Nat → Int → Option l85_R
  | 0, _ => none
  | f + 1, v0 => (bif decide (v0 < (↑ys.length : Int)) then (match at? ys (v0) with | some (V.agg [V.int IntKind.i64 a_00, V.str t_00]) => (bif oddV xs.length (putV a_00 t_00) then some (l85_R.e0 v0 a_00 t_00) else l85 n m c d xs ys f (IntKind.i64.wrap (v0 + 1))) | _ => none) else some (l85_R.e2 v0))
theorem l85_ok (n : Option Bool) (m : Option Bool) (c : Bool) (d : Bool) (xs : List V) (ys : List V) (K : Nat)
    (hc0 : ∀ (a_00 : Int) (t_00 : List UInt8), evalFn Try.prog Try.cfg K 63 [V.agg [V.int IntKind.i64 a_00, V.str t_00], V.ptr 0 0, V.ptr 8 0] [(0, Ob.var [V.sl n c 1 xs, V.sl m d 2 ys]), (8, Ob.var [V.fn (Fn.func 62) [] []])] 176 = some (V.bool (oddV xs.length (putV a_00 t_00)), [(0, Ob.var [V.sl n c 1 xs, V.sl m d 2 ys]), (8, Ob.var [V.fn (Fn.func 62) [] []]), (176, Ob.var [V.int IntKind.i64 a_00, V.str t_00])], 256)) : ∀ (f : Nat) (v0 : Int) (r : l85_R), l85 n m c d xs ys f v0 = some r →
    LoopsN Try.prog Try.cfg K 144 Try.f85 (Try.cfg.fc 85) 0 [0, 1, 4, 7, 8] f { tm := [(0, V.sl m d 2 ys), (1, V.fn (Fn.func 63) [] [V.ptr 0 0, V.ptr 8 0]), (4, V.int IntKind.i64 0), (7, V.int IntKind.i64 (↑ys.length : Int)), (8, V.int IntKind.i64 v0)], hp := [(0, Ob.var [V.sl n c 1 xs, V.sl m d 2 ys]), (8, Ob.var [V.fn (Fn.func 62) [] []])], nx := 144 } (l85_end n m c d xs ys r) := by
  intro f
  induction f with
  | zero => intro v0 r h; cases h
  | succ f ih =>
    intro v0 r h
    rw [l85] at h
    cases d0 : (decide (v0 < (↑ys.length : Int)))
    · rw [d0, cond_false] at h
      cases h
      exact LoopsN.done (l85_b_2 n m c d xs ys v0 K d0) (fun h => by cases h)
    · rw [d0, cond_true] at h
      split at h
      · rename_i a_00 t_00 a1
        cases d8000 : (oddV xs.length (putV a_00 t_00))
        · rw [d8000, cond_false] at h
          exact LoopsN.next (l85_b_1 n m c d xs ys v0 a_00 t_00 K d0 (IdxP.of_at ‹_›) ((hc0 _ _).trans (by rw [d8000]))) (l85_b_1h n m c d xs ys v0 a_00 t_00) (ih _ _ h)
        · rw [d8000, cond_true] at h
          cases h
          exact LoopsN.done (l85_b_0 n m c d xs ys v0 a_00 t_00 K d0 (IdxP.of_at ‹_›) ((hc0 _ _).trans (by rw [d8000]))) (fun h => by cases h)
      · cases h
theorem p85a_0 (n : Option Bool) (m : Option Bool) (c : Bool) (d : Bool) (xs : List V) (ys : List V) (v : Int) (a : Int) (t : List UInt8) (k : Nat)
    (c0 : LoopsN Try.prog Try.cfg k 144 Try.f85 (Try.cfg.fc 85) 0 [0, 1, 4, 7, 8] k { tm := [(0, V.sl m d 2 ys), (1, V.fn (Fn.func 63) [] [V.ptr 0 0, V.ptr 8 0]), (4, V.int IntKind.i64 0), (7, V.int IntKind.i64 (↑ys.length : Int)), (8, V.int IntKind.i64 0)], hp := [(0, Ob.var [V.sl n c 1 xs, V.sl m d 2 ys]), (8, Ob.var [V.fn (Fn.func 62) [] []])], nx := 144 } (Exit.ret, { tm := [(0, V.sl m d 2 ys), (1, V.fn (Fn.func 63) [] [V.ptr 0 0, V.ptr 8 0]), (4, V.int IntKind.i64 v), (5, V.int IntKind.i64 v), (7, V.int IntKind.i64 (↑ys.length : Int)), (8, V.int IntKind.i64 v), (9, V.bool true), (16, V.bool true)], hp := [(0, Ob.var [V.sl n c 1 xs, V.sl m d 2 ys]), (8, Ob.var [V.fn (Fn.func 62) [] []]), (176, Ob.var [V.int IntKind.i64 a, V.str t])], nx := 264 })) :
    evalFn Try.prog Try.cfg (k + 1) 85 [V.sl m d 2 ys, V.fn (Fn.func 63) [] [V.ptr 0 0, V.ptr 8 0]] [(0, Ob.var [V.sl n c 1 xs, V.sl m d 2 ys]), (8, Ob.var [V.fn (Fn.func 62) [] []])] 144 = some (V.int IntKind.i64 v, [(0, Ob.var [V.sl n c 1 xs, V.sl m d 2 ys]), (8, Ob.var [V.fn (Fn.func 62) [] []]), (176, Ob.var [V.int IntKind.i64 a, V.str t])], 264) :=
  byR [Hint.loop (Exit.ret, { tm := [(0, V.sl m d 2 ys), (1, V.fn (Fn.func 63) [] [V.ptr 0 0, V.ptr 8 0]), (4, V.int IntKind.i64 v), (5, V.int IntKind.i64 v), (7, V.int IntKind.i64 (↑ys.length : Int)), (8, V.int IntKind.i64 v), (9, V.bool true), (16, V.bool true)], hp := [(0, Ob.var [V.sl n c 1 xs, V.sl m d 2 ys]), (8, Ob.var [V.fn (Fn.func 62) [] []]), (176, Ob.var [V.int IntKind.i64 a, V.str t])], nx := 264 })] ((LoopsN Try.prog Try.cfg k 144 Try.f85 (Try.cfg.fc 85) 0 [0, 1, 4, 7, 8] k { tm := [(0, V.sl m d 2 ys), (1, V.fn (Fn.func 63) [] [V.ptr 0 0, V.ptr 8 0]), (4, V.int IntKind.i64 0), (7, V.int IntKind.i64 (↑ys.length : Int)), (8, V.int IntKind.i64 0)], hp := [(0, Ob.var [V.sl n c 1 xs, V.sl m d 2 ys]), (8, Ob.var [V.fn (Fn.func 62) [] []])], nx := 144 } (Exit.ret, { tm := [(0, V.sl m d 2 ys), (1, V.fn (Fn.func 63) [] [V.ptr 0 0, V.ptr 8 0]), (4, V.int IntKind.i64 v), (5, V.int IntKind.i64 v), (7, V.int IntKind.i64 (↑ys.length : Int)), (8, V.int IntKind.i64 v), (9, V.bool true), (16, V.bool true)], hp := [(0, Ob.var [V.sl n c 1 xs, V.sl m d 2 ys]), (8, Ob.var [V.fn (Fn.func 62) [] []]), (176, Ob.var [V.int IntKind.i64 a, V.str t])], nx := 264 })) ∧ True) (by kernel_rfl) ⟨c0, trivial⟩
theorem p85b_0 (n : Option Bool) (m : Option Bool) (c : Bool) (d : Bool) (xs : List V) (ys : List V) (v : Int) (k : Nat)
    (c0 : LoopsN Try.prog Try.cfg k 144 Try.f85 (Try.cfg.fc 85) 0 [0, 1, 4, 7, 8] k { tm := [(0, V.sl m d 2 ys), (1, V.fn (Fn.func 63) [] [V.ptr 0 0, V.ptr 8 0]), (4, V.int IntKind.i64 0), (7, V.int IntKind.i64 (↑ys.length : Int)), (8, V.int IntKind.i64 0)], hp := [(0, Ob.var [V.sl n c 1 xs, V.sl m d 2 ys]), (8, Ob.var [V.fn (Fn.func 62) [] []])], nx := 144 } (Exit.exit 0, { tm := [(0, V.sl m d 2 ys), (1, V.fn (Fn.func 63) [] [V.ptr 0 0, V.ptr 8 0]), (4, V.int IntKind.i64 0), (7, V.int IntKind.i64 (↑ys.length : Int)), (8, V.int IntKind.i64 v), (9, V.bool false)], hp := [(0, Ob.var [V.sl n c 1 xs, V.sl m d 2 ys]), (8, Ob.var [V.fn (Fn.func 62) [] []])], nx := 148 })) :
    evalFn Try.prog Try.cfg (k + 1) 85 [V.sl m d 2 ys, V.fn (Fn.func 63) [] [V.ptr 0 0, V.ptr 8 0]] [(0, Ob.var [V.sl n c 1 xs, V.sl m d 2 ys]), (8, Ob.var [V.fn (Fn.func 62) [] []])] 144 = some (V.int IntKind.i64 (-1), [(0, Ob.var [V.sl n c 1 xs, V.sl m d 2 ys]), (8, Ob.var [V.fn (Fn.func 62) [] []])], 152) :=
  byR [Hint.loop (Exit.exit 0, { tm := [(0, V.sl m d 2 ys), (1, V.fn (Fn.func 63) [] [V.ptr 0 0, V.ptr 8 0]), (4, V.int IntKind.i64 0), (7, V.int IntKind.i64 (↑ys.length : Int)), (8, V.int IntKind.i64 v), (9, V.bool false)], hp := [(0, Ob.var [V.sl n c 1 xs, V.sl m d 2 ys]), (8, Ob.var [V.fn (Fn.func 62) [] []])], nx := 148 })] ((LoopsN Try.prog Try.cfg k 144 Try.f85 (Try.cfg.fc 85) 0 [0, 1, 4, 7, 8] k { tm := [(0, V.sl m d 2 ys), (1, V.fn (Fn.func 63) [] [V.ptr 0 0, V.ptr 8 0]), (4, V.int IntKind.i64 0), (7, V.int IntKind.i64 (↑ys.length : Int)), (8, V.int IntKind.i64 0)], hp := [(0, Ob.var [V.sl n c 1 xs, V.sl m d 2 ys]), (8, Ob.var [V.fn (Fn.func 62) [] []])], nx := 144 } (Exit.exit 0, { tm := [(0, V.sl m d 2 ys), (1, V.fn (Fn.func 63) [] [V.ptr 0 0, V.ptr 8 0]), (4, V.int IntKind.i64 0), (7, V.int IntKind.i64 (↑ys.length : Int)), (8, V.int IntKind.i64 v), (9, V.bool false)], hp := [(0, Ob.var [V.sl n c 1 xs, V.sl m d 2 ys]), (8, Ob.var [V.fn (Fn.func 62) [] []])], nx := 148 })) ∧ True) (by kernel_rfl) ⟨c0, trivial⟩
theorem l66_b_0 (n : Option Bool) (m : Option Bool) (c : Bool) (d : Bool) (xs : List V) (ys : List V) (v0 : Int) (t_00 : List UInt8) (t_10 : List UInt8) (K : Nat)
    (c0 : decide (v0 < (↑xs.length : Int)) = true)
    (c1 : IdxP xs v0 1 1 (V.str t_00))
    (c2 : IdxP ys v0 1 1 (V.str t_10))
    (c3 : (!decide (t_00 = t_10)) = true) :
    evalCode Try.prog Try.cfg (evalFn Try.prog Try.cfg K) 0 (Try.cfg.fc 66) K (loopBody Try.f66 0) { tm := [(0, V.sl n c 1 xs), (1, V.sl m d 1 ys), (4, V.bool false), (10, V.bool false), (12, V.int IntKind.i64 (↑xs.length : Int)), (13, V.int IntKind.i64 v0)], hp := [], nx := 0 } = some (Exit.ret, { tm := [(0, V.sl n c 1 xs), (1, V.sl m d 1 ys), (4, V.bool false), (5, V.int IntKind.i64 v0), (10, V.bool false), (12, V.int IntKind.i64 (↑xs.length : Int)), (13, V.int IntKind.i64 v0), (14, V.bool true), (24, V.bool true)], hp := [], nx := 52 }) :=
  byC [Hint.br 14 true, Hint.op 18 ((V.str t_00).cpt 0) [], Hint.op 22 ((V.str t_10).cpt 0) [], Hint.br 24 true] ((decide (v0 < (↑xs.length : Int)) = true) ∧ (IdxP xs v0 1 1 (V.str t_00)) ∧ (IdxP ys v0 1 1 (V.str t_10)) ∧ ((!decide (t_00 = t_10)) = true) ∧ True) (by kernel_rfl) ⟨c0, c1, c2, c3, trivial⟩
theorem l66_b_1 (n : Option Bool) (m : Option Bool) (c : Bool) (d : Bool) (xs : List V) (ys : List V) (v0 : Int) (t_00 : List UInt8) (t_10 : List UInt8) (K : Nat)
    (c0 : decide (v0 < (↑xs.length : Int)) = true)
    (c1 : IdxP xs v0 1 1 (V.str t_00))
    (c2 : IdxP ys v0 1 1 (V.str t_10))
    (c3 : (!decide (t_00 = t_10)) = false) :
    evalCode Try.prog Try.cfg (evalFn Try.prog Try.cfg K) 0 (Try.cfg.fc 66) K (loopBody Try.f66 0) { tm := [(0, V.sl n c 1 xs), (1, V.sl m d 1 ys), (4, V.bool false), (10, V.bool false), (12, V.int IntKind.i64 (↑xs.length : Int)), (13, V.int IntKind.i64 v0)], hp := [], nx := 0 } = some (Exit.normal, { tm := [(0, V.sl n c 1 xs), (1, V.sl m d 1 ys), (4, V.bool false), (5, V.int IntKind.i64 v0), (10, V.bool false), (12, V.int IntKind.i64 (↑xs.length : Int)), (13, V.int IntKind.i64 (IntKind.i64.wrap (v0 + 1))), (14, V.bool true), (24, V.bool false)], hp := [], nx := 56 }) :=
  byC [Hint.br 14 true, Hint.op 18 ((V.str t_00).cpt 0) [], Hint.op 22 ((V.str t_10).cpt 0) [], Hint.br 24 false] ((decide (v0 < (↑xs.length : Int)) = true) ∧ (IdxP xs v0 1 1 (V.str t_00)) ∧ (IdxP ys v0 1 1 (V.str t_10)) ∧ ((!decide (t_00 = t_10)) = false) ∧ True) (by kernel_rfl) ⟨c0, c1, c2, c3, trivial⟩
theorem l66_b_1h (n : Option Bool) (m : Option Bool) (c : Bool) (d : Bool) (xs : List V) (ys : List V) (v0 : Int) (t_00 : List UInt8) (t_10 : List UInt8) : head 0 [0, 1, 4, 10, 12, 13] (Try.cfg.fc 66).acc { tm := [(0, V.sl n c 1 xs), (1, V.sl m d 1 ys), (4, V.bool false), (5, V.int IntKind.i64 v0), (10, V.bool false), (12, V.int IntKind.i64 (↑xs.length : Int)), (13, V.int IntKind.i64 (IntKind.i64.wrap (v0 + 1))), (14, V.bool true), (24, V.bool false)], hp := [], nx := 56 } = { tm := [(0, V.sl n c 1 xs), (1, V.sl m d 1 ys), (4, V.bool false), (10, V.bool false), (12, V.int IntKind.i64 (↑xs.length : Int)), (13, V.int IntKind.i64 (IntKind.i64.wrap (v0 + 1)))], hp := [], nx := 0 } := by kernel_rfl
theorem l66_b_2 (n : Option Bool) (m : Option Bool) (c : Bool) (d : Bool) (xs : List V) (ys : List V) (v0 : Int) (K : Nat)
    (c0 : decide (v0 < (↑xs.length : Int)) = false) :
    evalCode Try.prog Try.cfg (evalFn Try.prog Try.cfg K) 0 (Try.cfg.fc 66) K (loopBody Try.f66 0) { tm := [(0, V.sl n c 1 xs), (1, V.sl m d 1 ys), (4, V.bool false), (10, V.bool false), (12, V.int IntKind.i64 (↑xs.length : Int)), (13, V.int IntKind.i64 v0)], hp := [], nx := 0 } = some (Exit.exit 0, { tm := [(0, V.sl n c 1 xs), (1, V.sl m d 1 ys), (4, V.bool false), (10, V.bool false), (12, V.int IntKind.i64 (↑xs.length : Int)), (13, V.int IntKind.i64 v0), (14, V.bool false)], hp := [], nx := 4 }) :=
  byC [Hint.br 14 false] ((decide (v0 < (↑xs.length : Int)) = false) ∧ True) (by kernel_rfl) ⟨c0, trivial⟩
inductive l66_R where
  | e0 (v0 : Int)
  | e2 (v0 : Int)
def l66_end (n : Option Bool) (m : Option Bool) (c : Bool) (d : Bool) (xs : List V) (ys : List V) : l66_R → Exit × St
  | .e0 v0 => (Exit.ret, { tm := [(0, V.sl n c 1 xs), (1, V.sl m d 1 ys), (4, V.bool false), (5, V.int IntKind.i64 v0), (10, V.bool false), (12, V.int IntKind.i64 (↑xs.length : Int)), (13, V.int IntKind.i64 v0), (14, V.bool true), (24, V.bool true)], hp := [], nx := 52 })
  | .e2 v0 => (Exit.exit 0, { tm := [(0, V.sl n c 1 xs), (1, V.sl m d 1 ys), (4, V.bool false), (10, V.bool false), (12, V.int IntKind.i64 (↑xs.length : Int)), (13, V.int IntKind.i64 v0), (14, V.bool false)], hp := [], nx := 4 })
def l66 (n : Option Bool) (m : Option Bool) (c : Bool) (d : Bool) (xs : List V) (ys : List V) : Nat → Int → Option l66_R
  | 0, _ => none
  | f + 1, v0 => (bif decide (v0 < (↑xs.length : Int)) then (match at? xs (v0) with | some (V.str t_00) => (match at? ys (v0) with | some (V.str t_10) => (bif !decide (t_00 = t_10) then some (l66_R.e0 v0) else l66 n m c d xs ys f (IntKind.i64.wrap (v0 + 1))) | _ => none) | _ => none) else some (l66_R.e2 v0))
theorem l66_ok (n : Option Bool) (m : Option Bool) (c : Bool) (d : Bool) (xs : List V) (ys : List V) (K : Nat) : ∀ (f : Nat) (v0 : Int) (r : l66_R), l66 n m c d xs ys f v0 = some r →
    LoopsN Try.prog Try.cfg K 0 Try.f66 (Try.cfg.fc 66) 0 [0, 1, 4, 10, 12, 13] f { tm := [(0, V.sl n c 1 xs), (1, V.sl m d 1 ys), (4, V.bool false), (10, V.bool false), (12, V.int IntKind.i64 (↑xs.length : Int)), (13, V.int IntKind.i64 v0)], hp := [], nx := 0 } (l66_end n m c d xs ys r) := by
  intro f
  induction f with
  | zero => intro v0 r h; cases h
  | succ f ih =>
    intro v0 r h
    rw [l66] at h
    cases d0 : (decide (v0 < (↑xs.length : Int)))
    · rw [d0, cond_false] at h
      cases h
      exact LoopsN.done (l66_b_2 n m c d xs ys v0 K d0) (fun h => by cases h)
    · rw [d0, cond_true] at h
      split at h
      · rename_i t_00 a1
        split at h
        · rename_i t_10 a2
          cases d11000 : (!decide (t_00 = t_10))
          · rw [d11000, cond_false] at h
            exact LoopsN.next (l66_b_1 n m c d xs ys v0 t_00 t_10 K d0 (IdxP.of_at ‹_›) (IdxP.of_at ‹_›) d11000) (l66_b_1h n m c d xs ys v0 t_00 t_10) (ih _ _ h)
          · rw [d11000, cond_true] at h
            cases h
            exact LoopsN.done (l66_b_0 n m c d xs ys v0 t_00 t_10 K d0 (IdxP.of_at ‹_›) (IdxP.of_at ‹_›) d11000) (fun h => by cases h)
        · cases h
      · cases h
theorem p66a_0 (n : Option Bool) (m : Option Bool) (c : Bool) (d : Bool) (xs : List V) (ys : List V) (v : Int) (k : Nat)
    (c0 : (!decide ((↑xs.length : Int) = (↑ys.length : Int))) = true) :
    callP (evalFn Try.prog Try.cfg (k + 1)) 66 [V.sl n c 1 xs, V.sl m d 1 ys] = some (V.bool false) :=
  byP [Hint.br 10 true] (((!decide ((↑xs.length : Int) = (↑ys.length : Int))) = true) ∧ True) (by kernel_rfl) ⟨c0, trivial⟩
theorem p66a_1 (n : Option Bool) (m : Option Bool) (c : Bool) (d : Bool) (xs : List V) (ys : List V) (v : Int) (k : Nat)
    (c0 : (!decide ((↑xs.length : Int) = (↑ys.length : Int))) = false)
    (c1 : LoopsN Try.prog Try.cfg k 0 Try.f66 (Try.cfg.fc 66) 0 [0, 1, 4, 10, 12, 13] k { tm := [(0, V.sl n c 1 xs), (1, V.sl m d 1 ys), (4, V.bool false), (10, V.bool false), (12, V.int IntKind.i64 (↑xs.length : Int)), (13, V.int IntKind.i64 0)], hp := [], nx := 0 } (Exit.ret, { tm := [(0, V.sl n c 1 xs), (1, V.sl m d 1 ys), (4, V.bool false), (5, V.int IntKind.i64 v), (10, V.bool false), (12, V.int IntKind.i64 (↑xs.length : Int)), (13, V.int IntKind.i64 v), (14, V.bool true), (24, V.bool true)], hp := [], nx := 52 })) :
    callP (evalFn Try.prog Try.cfg (k + 1)) 66 [V.sl n c 1 xs, V.sl m d 1 ys] = some (V.bool false) :=
  byP [Hint.br 10 false, Hint.loop (Exit.ret, { tm := [(0, V.sl n c 1 xs), (1, V.sl m d 1 ys), (4, V.bool false), (5, V.int IntKind.i64 v), (10, V.bool false), (12, V.int IntKind.i64 (↑xs.length : Int)), (13, V.int IntKind.i64 v), (14, V.bool true), (24, V.bool true)], hp := [], nx := 52 })] (((!decide ((↑xs.length : Int) = (↑ys.length : Int))) = false) ∧ (LoopsN Try.prog Try.cfg k 0 Try.f66 (Try.cfg.fc 66) 0 [0, 1, 4, 10, 12, 13] k { tm := [(0, V.sl n c 1 xs), (1, V.sl m d 1 ys), (4, V.bool false), (10, V.bool false), (12, V.int IntKind.i64 (↑xs.length : Int)), (13, V.int IntKind.i64 0)], hp := [], nx := 0 } (Exit.ret, { tm := [(0, V.sl n c 1 xs), (1, V.sl m d 1 ys), (4, V.bool false), (5, V.int IntKind.i64 v), (10, V.bool false), (12, V.int IntKind.i64 (↑xs.length : Int)), (13, V.int IntKind.i64 v), (14, V.bool true), (24, V.bool true)], hp := [], nx := 52 })) ∧ True) (by kernel_rfl) ⟨c0, c1, trivial⟩
theorem p66b_0 (n : Option Bool) (m : Option Bool) (c : Bool) (d : Bool) (xs : List V) (ys : List V) (v : Int) (k : Nat)
    (c0 : (!decide ((↑xs.length : Int) = (↑ys.length : Int))) = true) :
    callP (evalFn Try.prog Try.cfg (k + 1)) 66 [V.sl n c 1 xs, V.sl m d 1 ys] = some (V.bool false) :=
  byP [Hint.br 10 true] (((!decide ((↑xs.length : Int) = (↑ys.length : Int))) = true) ∧ True) (by kernel_rfl) ⟨c0, trivial⟩
theorem p66b_1 (n : Option Bool) (m : Option Bool) (c : Bool) (d : Bool) (xs : List V) (ys : List V) (v : Int) (k : Nat)
    (c0 : (!decide ((↑xs.length : Int) = (↑ys.length : Int))) = false)
    (c1 : LoopsN Try.prog Try.cfg k 0 Try.f66 (Try.cfg.fc 66) 0 [0, 1, 4, 10, 12, 13] k { tm := [(0, V.sl n c 1 xs), (1, V.sl m d 1 ys), (4, V.bool false), (10, V.bool false), (12, V.int IntKind.i64 (↑xs.length : Int)), (13, V.int IntKind.i64 0)], hp := [], nx := 0 } (Exit.exit 0, { tm := [(0, V.sl n c 1 xs), (1, V.sl m d 1 ys), (4, V.bool false), (10, V.bool false), (12, V.int IntKind.i64 (↑xs.length : Int)), (13, V.int IntKind.i64 v), (14, V.bool false)], hp := [], nx := 4 })) :
    callP (evalFn Try.prog Try.cfg (k + 1)) 66 [V.sl n c 1 xs, V.sl m d 1 ys] = some (V.bool true) :=
  byP [Hint.br 10 false, Hint.loop (Exit.exit 0, { tm := [(0, V.sl n c 1 xs), (1, V.sl m d 1 ys), (4, V.bool false), (10, V.bool false), (12, V.int IntKind.i64 (↑xs.length : Int)), (13, V.int IntKind.i64 v), (14, V.bool false)], hp := [], nx := 4 })] (((!decide ((↑xs.length : Int) = (↑ys.length : Int))) = false) ∧ (LoopsN Try.prog Try.cfg k 0 Try.f66 (Try.cfg.fc 66) 0 [0, 1, 4, 10, 12, 13] k { tm := [(0, V.sl n c 1 xs), (1, V.sl m d 1 ys), (4, V.bool false), (10, V.bool false), (12, V.int IntKind.i64 (↑xs.length : Int)), (13, V.int IntKind.i64 0)], hp := [], nx := 0 } (Exit.exit 0, { tm := [(0, V.sl n c 1 xs), (1, V.sl m d 1 ys), (4, V.bool false), (10, V.bool false), (12, V.int IntKind.i64 (↑xs.length : Int)), (13, V.int IntKind.i64 v), (14, V.bool false)], hp := [], nx := 4 })) ∧ True) (by kernel_rfl) ⟨c0, c1, trivial⟩
theorem l67_b_0 (n : Option Bool) (m : Option Bool) (c : Bool) (d : Bool) (xs : List V) (ys : List V) (v0 : Int) (a_00 : Int) (t_00 : List UInt8) (a_10 : Int) (t_10 : List UInt8) (K : Nat)
    (c0 : decide (v0 < (↑xs.length : Int)) = true)
    (c1 : IdxP xs v0 2 2 (V.agg [V.int IntKind.i64 a_00, V.str t_00]))
    (c2 : IdxP ys v0 2 2 (V.agg [V.int IntKind.i64 a_10, V.str t_10]))
    (c3 : (!(decide (a_00 = a_10) && (decide (t_00 = t_10) && true))) = true) :
    evalCode Try.prog Try.cfg (evalFn Try.prog Try.cfg K) 0 (Try.cfg.fc 67) K (loopBody Try.f67 0) { tm := [(0, V.sl n c 2 xs), (1, V.sl m d 2 ys), (4, V.bool false), (10, V.bool false), (12, V.int IntKind.i64 (↑xs.length : Int)), (13, V.int IntKind.i64 v0)], hp := [], nx := 0 } = some (Exit.ret, { tm := [(0, V.sl n c 2 xs), (1, V.sl m d 2 ys), (4, V.bool false), (5, V.int IntKind.i64 v0), (10, V.bool false), (12, V.int IntKind.i64 (↑xs.length : Int)), (13, V.int IntKind.i64 v0), (14, V.bool true), (24, V.bool true)], hp := [], nx := 52 }) :=
  byC [Hint.br 14 true, Hint.op 18 ((V.agg [V.int IntKind.i64 a_00, V.str t_00]).cpt 0) [], Hint.op 22 ((V.agg [V.int IntKind.i64 a_10, V.str t_10]).cpt 0) [], Hint.br 24 true] ((decide (v0 < (↑xs.length : Int)) = true) ∧ (IdxP xs v0 2 2 (V.agg [V.int IntKind.i64 a_00, V.str t_00])) ∧ (IdxP ys v0 2 2 (V.agg [V.int IntKind.i64 a_10, V.str t_10])) ∧ ((!(decide (a_00 = a_10) && (decide (t_00 = t_10) && true))) = true) ∧ True) (by kernel_rfl) ⟨c0, c1, c2, c3, trivial⟩
theorem l67_b_1 (n : Option Bool) (m : Option Bool) (c : Bool) (d : Bool) (xs : List V) (ys : List V) (v0 : Int) (a_00 : Int) (t_00 : List UInt8) (a_10 : Int) (t_10 : List UInt8) (K : Nat)
    (c0 : decide (v0 < (↑xs.length : Int)) = true)
    (c1 : IdxP xs v0 2 2 (V.agg [V.int IntKind.i64 a_00, V.str t_00]))
    (c2 : IdxP ys v0 2 2 (V.agg [V.int IntKind.i64 a_10, V.str t_10]))
    (c3 : (!(decide (a_00 = a_10) && (decide (t_00 = t_10) && true))) = false) :
    evalCode Try.prog Try.cfg (evalFn Try.prog Try.cfg K) 0 (Try.cfg.fc 67) K (loopBody Try.f67 0) { tm := [(0, V.sl n c 2 xs), (1, V.sl m d 2 ys), (4, V.bool false), (10, V.bool false), (12, V.int IntKind.i64 (↑xs.length : Int)), (13, V.int IntKind.i64 v0)], hp := [], nx := 0 } = some (Exit.normal, { tm := [(0, V.sl n c 2 xs), (1, V.sl m d 2 ys), (4, V.bool false), (5, V.int IntKind.i64 v0), (10, V.bool false), (12, V.int IntKind.i64 (↑xs.length : Int)), (13, V.int IntKind.i64 (IntKind.i64.wrap (v0 + 1))), (14, V.bool true), (24, V.bool false)], hp := [], nx := 56 }) :=
  byC [Hint.br 14 true, Hint.op 18 ((V.agg [V.int IntKind.i64 a_00, V.str t_00]).cpt 0) [], Hint.op 22 ((V.agg [V.int IntKind.i64 a_10, V.str t_10]).cpt 0) [], Hint.br 24 false] ((decide (v0 < (↑xs.length : Int)) = true) ∧ (IdxP xs v0 2 2 (V.agg [V.int IntKind.i64 a_00, V.str t_00])) ∧ (IdxP ys v0 2 2 (V.agg [V.int IntKind.i64 a_10, V.str t_10])) ∧ ((!(decide (a_00 = a_10) && (decide (t_00 = t_10) && true))) = false) ∧ True) (by kernel_rfl) ⟨c0, c1, c2, c3, trivial⟩
theorem l67_b_1h (n : Option Bool) (m : Option Bool) (c : Bool) (d : Bool) (xs : List V) (ys : List V) (v0 : Int) (a_00 : Int) (t_00 : List UInt8) (a_10 : Int) (t_10 : List UInt8) : head 0 [0, 1, 4, 10, 12, 13] (Try.cfg.fc 67).acc { tm := [(0, V.sl n c 2 xs), (1, V.sl m d 2 ys), (4, V.bool false), (5, V.int IntKind.i64 v0), (10, V.bool false), (12, V.int IntKind.i64 (↑xs.length : Int)), (13, V.int IntKind.i64 (IntKind.i64.wrap (v0 + 1))), (14, V.bool true), (24, V.bool false)], hp := [], nx := 56 } = { tm := [(0, V.sl n c 2 xs), (1, V.sl m d 2 ys), (4, V.bool false), (10, V.bool false), (12, V.int IntKind.i64 (↑xs.length : Int)), (13, V.int IntKind.i64 (IntKind.i64.wrap (v0 + 1)))], hp := [], nx := 0 } := by kernel_rfl
theorem l67_b_2 (n : Option Bool) (m : Option Bool) (c : Bool) (d : Bool) (xs : List V) (ys : List V) (v0 : Int) (K : Nat)
    (c0 : decide (v0 < (↑xs.length : Int)) = false) :
    evalCode Try.prog Try.cfg (evalFn Try.prog Try.cfg K) 0 (Try.cfg.fc 67) K (loopBody Try.f67 0) { tm := [(0, V.sl n c 2 xs), (1, V.sl m d 2 ys), (4, V.bool false), (10, V.bool false), (12, V.int IntKind.i64 (↑xs.length : Int)), (13, V.int IntKind.i64 v0)], hp := [], nx := 0 } = some (Exit.exit 0, { tm := [(0, V.sl n c 2 xs), (1, V.sl m d 2 ys), (4, V.bool false), (10, V.bool false), (12, V.int IntKind.i64 (↑xs.length : Int)), (13, V.int IntKind.i64 v0), (14, V.bool false)], hp := [], nx := 4 }) :=
  byC [Hint.br 14 false] ((decide (v0 < (↑xs.length : Int)) = false) ∧ True) (by kernel_rfl) ⟨c0, trivial⟩
inductive l67_R where
  | e0 (v0 : Int)
  | e2 (v0 : Int)
def l67_end (n : Option Bool) (m : Option Bool) (c : Bool) (d : Bool) (xs : List V) (ys : List V) : l67_R → Exit × St
  | .e0 v0 => (Exit.ret, { tm := [(0, V.sl n c 2 xs), (1, V.sl m d 2 ys), (4, V.bool false), (5, V.int IntKind.i64 v0), (10, V.bool false), (12, V.int IntKind.i64 (↑xs.length : Int)), (13, V.int IntKind.i64 v0), (14, V.bool true), (24, V.bool true)], hp := [], nx := 52 })
  | .e2 v0 => (Exit.exit 0, { tm := [(0, V.sl n c 2 xs), (1, V.sl m d 2 ys), (4, V.bool false), (10, V.bool false), (12, V.int IntKind.i64 (↑xs.length : Int)), (13, V.int IntKind.i64 v0), (14, V.bool false)], hp := [], nx := 4 })
def l67 (n : Option Bool) (m : Option Bool) (c : Bool) (d : Bool) (xs : List V) (ys : List V) : Nat → Int → Option l67_R
  | 0, _ => none
  | f + 1, v0 => (bif decide (v0 < (↑xs.length : Int)) then (match at? xs (v0) with | some (V.agg [V.int IntKind.i64 a_00, V.str t_00]) => (match at? ys (v0) with | some (V.agg [V.int IntKind.i64 a_10, V.str t_10]) => (bif !(decide (a_00 = a_10) && (decide (t_00 = t_10) && true)) then some (l67_R.e0 v0) else l67 n m c d xs ys f (IntKind.i64.wrap (v0 + 1))) | _ => none) | _ => none) else some (l67_R.e2 v0))
theorem l67_ok (n : Option Bool) (m : Option Bool) (c : Bool) (d : Bool) (xs : List V) (ys : List V) (K : Nat) : ∀ (f : Nat) (v0 : Int) (r : l67_R), l67 n m c d xs ys f v0 = some r →
    LoopsN Try.prog Try.cfg K 0 Try.f67 (Try.cfg.fc 67) 0 [0, 1, 4, 10, 12, 13] f { tm := [(0, V.sl n c 2 xs), (1, V.sl m d 2 ys), (4, V.bool false), (10, V.bool false), (12, V.int IntKind.i64 (↑xs.length : Int)), (13, V.int IntKind.i64 v0)], hp := [], nx := 0 } (l67_end n m c d xs ys r) := by
  intro f
  induction f with
  | zero => intro v0 r h; cases h
  | succ f ih =>
    intro v0 r h
    rw [l67] at h
    cases d0 : (decide (v0 < (↑xs.length : Int)))
    · rw [d0, cond_false] at h
      cases h
      exact LoopsN.done (l67_b_2 n m c d xs ys v0 K d0) (fun h => by cases h)
    · rw [d0, cond_true] at h
      split at h
      · rename_i a_00 t_00 a1
        split at h
        · rename_i a_10 t_10 a2
          cases d11000 : (!(decide (a_00 = a_10) && (decide (t_00 = t_10) && true)))
          · rw [d11000, cond_false] at h
            exact LoopsN.next (l67_b_1 n m c d xs ys v0 a_00 t_00 a_10 t_10 K d0 (IdxP.of_at ‹_›) (IdxP.of_at ‹_›) d11000) (l67_b_1h n m c d xs ys v0 a_00 t_00 a_10 t_10) (ih _ _ h)
          · rw [d11000, cond_true] at h
            cases h
            exact LoopsN.done (l67_b_0 n m c d xs ys v0 a_00 t_00 a_10 t_10 K d0 (IdxP.of_at ‹_›) (IdxP.of_at ‹_›) d11000) (fun h => by cases h)
        · cases h
      · cases h
theorem p67a_0 (n : Option Bool) (m : Option Bool) (c : Bool) (d : Bool) (xs : List V) (ys : List V) (v : Int) (k : Nat)
    (c0 : (!decide ((↑xs.length : Int) = (↑ys.length : Int))) = true) :
    callP (evalFn Try.prog Try.cfg (k + 1)) 67 [V.sl n c 2 xs, V.sl m d 2 ys] = some (V.bool false) :=
  byP [Hint.br 10 true] (((!decide ((↑xs.length : Int) = (↑ys.length : Int))) = true) ∧ True) (by kernel_rfl) ⟨c0, trivial⟩
theorem p67a_1 (n : Option Bool) (m : Option Bool) (c : Bool) (d : Bool) (xs : List V) (ys : List V) (v : Int) (k : Nat)
    (c0 : (!decide ((↑xs.length : Int) = (↑ys.length : Int))) = false)
    (c1 : LoopsN Try.prog Try.cfg k 0 Try.f67 (Try.cfg.fc 67) 0 [0, 1, 4, 10, 12, 13] k { tm := [(0, V.sl n c 2 xs), (1, V.sl m d 2 ys), (4, V.bool false), (10, V.bool false), (12, V.int IntKind.i64 (↑xs.length : Int)), (13, V.int IntKind.i64 0)], hp := [], nx := 0 } (Exit.ret, { tm := [(0, V.sl n c 2 xs), (1, V.sl m d 2 ys), (4, V.bool false), (5, V.int IntKind.i64 v), (10, V.bool false), (12, V.int IntKind.i64 (↑xs.length : Int)), (13, V.int IntKind.i64 v), (14, V.bool true), (24, V.bool true)], hp := [], nx := 52 })) :
    callP (evalFn Try.prog Try.cfg (k + 1)) 67 [V.sl n c 2 xs, V.sl m d 2 ys] = some (V.bool false) :=
  byP [Hint.br 10 false, Hint.loop (Exit.ret, { tm := [(0, V.sl n c 2 xs), (1, V.sl m d 2 ys), (4, V.bool false), (5, V.int IntKind.i64 v), (10, V.bool false), (12, V.int IntKind.i64 (↑xs.length : Int)), (13, V.int IntKind.i64 v), (14, V.bool true), (24, V.bool true)], hp := [], nx := 52 })] (((!decide ((↑xs.length : Int) = (↑ys.length : Int))) = false) ∧ (LoopsN Try.prog Try.cfg k 0 Try.f67 (Try.cfg.fc 67) 0 [0, 1, 4, 10, 12, 13] k { tm := [(0, V.sl n c 2 xs), (1, V.sl m d 2 ys), (4, V.bool false), (10, V.bool false), (12, V.int IntKind.i64 (↑xs.length : Int)), (13, V.int IntKind.i64 0)], hp := [], nx := 0 } (Exit.ret, { tm := [(0, V.sl n c 2 xs), (1, V.sl m d 2 ys), (4, V.bool false), (5, V.int IntKind.i64 v), (10, V.bool false), (12, V.int IntKind.i64 (↑xs.length : Int)), (13, V.int IntKind.i64 v), (14, V.bool true), (24, V.bool true)], hp := [], nx := 52 })) ∧ True) (by kernel_rfl) ⟨c0, c1, trivial⟩
theorem p67b_0 (n : Option Bool) (m : Option Bool) (c : Bool) (d : Bool) (xs : List V) (ys : List V) (v : Int) (k : Nat)
    (c0 : (!decide ((↑xs.length : Int) = (↑ys.length : Int))) = true) :
    callP (evalFn Try.prog Try.cfg (k + 1)) 67 [V.sl n c 2 xs, V.sl m d 2 ys] = some (V.bool false) :=
  byP [Hint.br 10 true] (((!decide ((↑xs.length : Int) = (↑ys.length : Int))) = true) ∧ True) (by kernel_rfl) ⟨c0, trivial⟩
theorem p67b_1 (n : Option Bool) (m : Option Bool) (c : Bool) (d : Bool) (xs : List V) (ys : List V) (v : Int) (k : Nat)
    (c0 : (!decide ((↑xs.length : Int) = (↑ys.length : Int))) = false)
    (c1 : LoopsN Try.prog Try.cfg k 0 Try.f67 (Try.cfg.fc 67) 0 [0, 1, 4, 10, 12, 13] k { tm := [(0, V.sl n c 2 xs), (1, V.sl m d 2 ys), (4, V.bool false), (10, V.bool false), (12, V.int IntKind.i64 (↑xs.length : Int)), (13, V.int IntKind.i64 0)], hp := [], nx := 0 } (Exit.exit 0, { tm := [(0, V.sl n c 2 xs), (1, V.sl m d 2 ys), (4, V.bool false), (10, V.bool false), (12, V.int IntKind.i64 (↑xs.length : Int)), (13, V.int IntKind.i64 v), (14, V.bool false)], hp := [], nx := 4 })) :
    callP (evalFn Try.prog Try.cfg (k + 1)) 67 [V.sl n c 2 xs, V.sl m d 2 ys] = some (V.bool true) :=
  byP [Hint.br 10 false, Hint.loop (Exit.exit 0, { tm := [(0, V.sl n c 2 xs), (1, V.sl m d 2 ys), (4, V.bool false), (10, V.bool false), (12, V.int IntKind.i64 (↑xs.length : Int)), (13, V.int IntKind.i64 v), (14, V.bool false)], hp := [], nx := 4 })] (((!decide ((↑xs.length : Int) = (↑ys.length : Int))) = false) ∧ (LoopsN Try.prog Try.cfg k 0 Try.f67 (Try.cfg.fc 67) 0 [0, 1, 4, 10, 12, 13] k { tm := [(0, V.sl n c 2 xs), (1, V.sl m d 2 ys), (4, V.bool false), (10, V.bool false), (12, V.int IntKind.i64 (↑xs.length : Int)), (13, V.int IntKind.i64 0)], hp := [], nx := 0 } (Exit.exit 0, { tm := [(0, V.sl n c 2 xs), (1, V.sl m d 2 ys), (4, V.bool false), (10, V.bool false), (12, V.int IntKind.i64 (↑xs.length : Int)), (13, V.int IntKind.i64 v), (14, V.bool false)], hp := [], nx := 4 })) ∧ True) (by kernel_rfl) ⟨c0, c1, trivial⟩
theorem p25_0 (n : Option Bool) (m : Option Bool) (c : Bool) (d : Bool) (xs : List V) (ys : List V) (nb : Option Bool) (mb : Option Bool) (cb : Bool) (db : Bool) (xs2 : List V) (ys2 : List V) (k : Nat)
    (c0 : callP (evalFn Try.prog Try.cfg k) 66 [V.sl n c 1 xs, V.sl nb cb 1 xs2] = some (V.bool (eqL xs xs2)))
    (c1 : eqL xs xs2 = true)
    (c2 : callP (evalFn Try.prog Try.cfg k) 67 [V.sl m d 2 ys, V.sl mb db 2 ys2] = some (V.bool (eqL ys ys2))) :
    callP (evalFn Try.prog Try.cfg (k + 1)) 25 [V.agg [V.sl n c 1 xs, V.sl m d 2 ys], V.agg [V.sl nb cb 1 xs2, V.sl mb db 2 ys2]] = some (V.bool (eqL ys ys2)) :=
  byP [Hint.call 9 (V.bool (eqL xs xs2)), Hint.br 10 true, Hint.call 15 (V.bool (eqL ys ys2))] ((callP (evalFn Try.prog Try.cfg k) 66 [V.sl n c 1 xs, V.sl nb cb 1 xs2] = some (V.bool (eqL xs xs2))) ∧ (eqL xs xs2 = true) ∧ (callP (evalFn Try.prog Try.cfg k) 67 [V.sl m d 2 ys, V.sl mb db 2 ys2] = some (V.bool (eqL ys ys2))) ∧ True) (by kernel_rfl) ⟨c0, c1, c2, trivial⟩
theorem p25_1 (n : Option Bool) (m : Option Bool) (c : Bool) (d : Bool) (xs : List V) (ys : List V) (nb : Option Bool) (mb : Option Bool) (cb : Bool) (db : Bool) (xs2 : List V) (ys2 : List V) (k : Nat)
    (c0 : callP (evalFn Try.prog Try.cfg k) 66 [V.sl n c 1 xs, V.sl nb cb 1 xs2] = some (V.bool (eqL xs xs2)))
    (c1 : eqL xs xs2 = false) :
    callP (evalFn Try.prog Try.cfg (k + 1)) 25 [V.agg [V.sl n c 1 xs, V.sl m d 2 ys], V.agg [V.sl nb cb 1 xs2, V.sl mb db 2 ys2]] = some (V.bool false) :=
  byP [Hint.call 9 (V.bool (eqL xs xs2)), Hint.br 10 false] ((callP (evalFn Try.prog Try.cfg k) 66 [V.sl n c 1 xs, V.sl nb cb 1 xs2] = some (V.bool (eqL xs xs2))) ∧ (eqL xs xs2 = false) ∧ True) (by kernel_rfl) ⟨c0, c1, trivial⟩
theorem p59_0 (n : Option Bool) (m : Option Bool) (c : Bool) (d : Bool) (xs : List V) (ys : List V) (a : Int) (k : Nat)
    (c0 : callP (evalFn Try.prog Try.cfg k) 23 [V.agg [V.sl n c 1 xs, V.sl m d 2 ys]] = some (V.bool (rightV xs ys)))
    (c1 : (!rightV xs ys) = true) :
    callP (evalFn Try.prog Try.cfg (k + 1)) 59 [V.agg [V.sl n c 1 xs, V.sl m d 2 ys], V.int IntKind.i64 a] = some (V.int IntKind.i64 1) :=
  byP [Hint.call 7 (V.bool (rightV xs ys)), Hint.br 5 true] ((callP (evalFn Try.prog Try.cfg k) 23 [V.agg [V.sl n c 1 xs, V.sl m d 2 ys]] = some (V.bool (rightV xs ys))) ∧ ((!rightV xs ys) = true) ∧ True) (by kernel_rfl) ⟨c0, c1, trivial⟩
theorem p59_1 (n : Option Bool) (m : Option Bool) (c : Bool) (d : Bool) (xs : List V) (ys : List V) (a : Int) (k : Nat)
    (c0 : callP (evalFn Try.prog Try.cfg k) 23 [V.agg [V.sl n c 1 xs, V.sl m d 2 ys]] = some (V.bool (rightV xs ys)))
    (c1 : (!rightV xs ys) = false)
    (c2 : decide (a < 0) = true) :
    callP (evalFn Try.prog Try.cfg (k + 1)) 59 [V.agg [V.sl n c 1 xs, V.sl m d 2 ys], V.int IntKind.i64 a] = some (V.int IntKind.i64 2) :=
  byP [Hint.call 7 (V.bool (rightV xs ys)), Hint.br 5 false, Hint.br 12 true] ((callP (evalFn Try.prog Try.cfg k) 23 [V.agg [V.sl n c 1 xs, V.sl m d 2 ys]] = some (V.bool (rightV xs ys))) ∧ ((!rightV xs ys) = false) ∧ (decide (a < 0) = true) ∧ True) (by kernel_rfl) ⟨c0, c1, c2, trivial⟩
theorem p59_2 (n : Option Bool) (m : Option Bool) (c : Bool) (d : Bool) (xs : List V) (ys : List V) (a : Int) (k : Nat)
    (c0 : callP (evalFn Try.prog Try.cfg k) 23 [V.agg [V.sl n c 1 xs, V.sl m d 2 ys]] = some (V.bool (rightV xs ys)))
    (c1 : (!rightV xs ys) = false)
    (c2 : decide (a < 0) = false)
    (c3 : decide ((↑xs.length : Int) ≤ a) = true) :
    callP (evalFn Try.prog Try.cfg (k + 1)) 59 [V.agg [V.sl n c 1 xs, V.sl m d 2 ys], V.int IntKind.i64 a] = some (V.int IntKind.i64 2) :=
  byP [Hint.call 7 (V.bool (rightV xs ys)), Hint.br 5 false, Hint.br 12 false, Hint.br 9 true] ((callP (evalFn Try.prog Try.cfg k) 23 [V.agg [V.sl n c 1 xs, V.sl m d 2 ys]] = some (V.bool (rightV xs ys))) ∧ ((!rightV xs ys) = false) ∧ (decide (a < 0) = false) ∧ (decide ((↑xs.length : Int) ≤ a) = true) ∧ True) (by kernel_rfl) ⟨c0, c1, c2, c3, trivial⟩
theorem p59_3 (n : Option Bool) (m : Option Bool) (c : Bool) (d : Bool) (xs : List V) (ys : List V) (a : Int) (k : Nat)
    (c0 : callP (evalFn Try.prog Try.cfg k) 23 [V.agg [V.sl n c 1 xs, V.sl m d 2 ys]] = some (V.bool (rightV xs ys)))
    (c1 : (!rightV xs ys) = false)
    (c2 : decide (a < 0) = false)
    (c3 : decide ((↑xs.length : Int) ≤ a) = false) :
    callP (evalFn Try.prog Try.cfg (k + 1)) 59 [V.agg [V.sl n c 1 xs, V.sl m d 2 ys], V.int IntKind.i64 a] = some (V.int IntKind.i64 0) :=
  byP [Hint.call 7 (V.bool (rightV xs ys)), Hint.br 5 false, Hint.br 12 false, Hint.br 9 false] ((callP (evalFn Try.prog Try.cfg k) 23 [V.agg [V.sl n c 1 xs, V.sl m d 2 ys]] = some (V.bool (rightV xs ys))) ∧ ((!rightV xs ys) = false) ∧ (decide (a < 0) = false) ∧ (decide ((↑xs.length : Int) ≤ a) = false) ∧ True) (by kernel_rfl) ⟨c0, c1, c2, c3, trivial⟩
theorem p17_0 (n : Option Bool) (m : Option Bool) (c : Bool) (d : Bool) (xs : List V) (ys : List V) (a : Int) (k : Nat)
    (c0 : callP (evalFn Try.prog Try.cfg k) 24 [V.agg [V.sl n c 1 xs, V.sl m d 2 ys]] = some (V.bool (rightV xs ys)))
    (c1 : (!rightV xs ys) = true) :
    callP (evalFn Try.prog Try.cfg (k + 1)) 17 [V.agg [V.sl n c 1 xs, V.sl m d 2 ys], V.int IntKind.i64 a] = some (V.int IntKind.i64 1) :=
  byP [Hint.call 6 (V.bool (rightV xs ys)), Hint.br 7 true] ((callP (evalFn Try.prog Try.cfg k) 24 [V.agg [V.sl n c 1 xs, V.sl m d 2 ys]] = some (V.bool (rightV xs ys))) ∧ ((!rightV xs ys) = true) ∧ True) (by kernel_rfl) ⟨c0, c1, trivial⟩
theorem p17_1 (n : Option Bool) (m : Option Bool) (c : Bool) (d : Bool) (xs : List V) (ys : List V) (a : Int) (k : Nat)
    (c0 : callP (evalFn Try.prog Try.cfg k) 24 [V.agg [V.sl n c 1 xs, V.sl m d 2 ys]] = some (V.bool (rightV xs ys)))
    (c1 : (!rightV xs ys) = false)
    (c2 : decide (a < 0) = true) :
    callP (evalFn Try.prog Try.cfg (k + 1)) 17 [V.agg [V.sl n c 1 xs, V.sl m d 2 ys], V.int IntKind.i64 a] = some (V.int IntKind.i64 2) :=
  byP [Hint.call 6 (V.bool (rightV xs ys)), Hint.br 7 false, Hint.br 10 true] ((callP (evalFn Try.prog Try.cfg k) 24 [V.agg [V.sl n c 1 xs, V.sl m d 2 ys]] = some (V.bool (rightV xs ys))) ∧ ((!rightV xs ys) = false) ∧ (decide (a < 0) = true) ∧ True) (by kernel_rfl) ⟨c0, c1, c2, trivial⟩
theorem p17_2 (n : Option Bool) (m : Option Bool) (c : Bool) (d : Bool) (xs : List V) (ys : List V) (a : Int) (k : Nat)
    (c0 : callP (evalFn Try.prog Try.cfg k) 24 [V.agg [V.sl n c 1 xs, V.sl m d 2 ys]] = some (V.bool (rightV xs ys)))
    (c1 : (!rightV xs ys) = false)
    (c2 : decide (a < 0) = false)
    (c3 : decide ((↑xs.length : Int) ≤ a) = true) :
    callP (evalFn Try.prog Try.cfg (k + 1)) 17 [V.agg [V.sl n c 1 xs, V.sl m d 2 ys], V.int IntKind.i64 a] = some (V.int IntKind.i64 2) :=
  byP [Hint.call 6 (V.bool (rightV xs ys)), Hint.br 7 false, Hint.br 10 false, Hint.br 16 true] ((callP (evalFn Try.prog Try.cfg k) 24 [V.agg [V.sl n c 1 xs, V.sl m d 2 ys]] = some (V.bool (rightV xs ys))) ∧ ((!rightV xs ys) = false) ∧ (decide (a < 0) = false) ∧ (decide ((↑xs.length : Int) ≤ a) = true) ∧ True) (by kernel_rfl) ⟨c0, c1, c2, c3, trivial⟩
theorem p17_3 (n : Option Bool) (m : Option Bool) (c : Bool) (d : Bool) (xs : List V) (ys : List V) (a : Int) (k : Nat)
    (c0 : callP (evalFn Try.prog Try.cfg k) 24 [V.agg [V.sl n c 1 xs, V.sl m d 2 ys]] = some (V.bool (rightV xs ys)))
    (c1 : (!rightV xs ys) = false)
    (c2 : decide (a < 0) = false)
    (c3 : decide ((↑xs.length : Int) ≤ a) = false) :
    callP (evalFn Try.prog Try.cfg (k + 1)) 17 [V.agg [V.sl n c 1 xs, V.sl m d 2 ys], V.int IntKind.i64 a] = some (V.int IntKind.i64 0) :=
  byP [Hint.call 6 (V.bool (rightV xs ys)), Hint.br 7 false, Hint.br 10 false, Hint.br 16 false] ((callP (evalFn Try.prog Try.cfg k) 24 [V.agg [V.sl n c 1 xs, V.sl m d 2 ys]] = some (V.bool (rightV xs ys))) ∧ ((!rightV xs ys) = false) ∧ (decide (a < 0) = false) ∧ (decide ((↑xs.length : Int) ≤ a) = false) ∧ True) (by kernel_rfl) ⟨c0, c1, c2, c3, trivial⟩
theorem l24a_b_0 (n : Option Bool) (m : Option Bool) (c : Bool) (d : Bool) (xs : List V) (ys : List V) (v0 : Int) (t_00 : List UInt8) (K : Nat)
    (c0 : decide (v0 < (↑xs.length : Int)) = true)
    (c1 : IdxP xs v0 1 1 (V.str t_00))
    (c2 : decide (128 < (↑t_00.length : Int)) = true) :
    evalCode Try.prog Try.cfg (evalFn Try.prog Try.cfg K) 0 (Try.cfg.fc 24) K (loopBody Try.f24 0) { tm := [(0, V.agg [V.sl n c 1 xs, V.sl m d 2 ys]), (1, V.ptr 0 0), (2, V.bool false), (22, V.bool false), (24, V.sl n c 1 xs), (25, V.int IntKind.i64 (↑xs.length : Int)), (26, V.int IntKind.i64 v0)], hp := [(0, Ob.var [V.sl n c 1 xs, V.sl m d 2 ys])], nx := 1 } = some (Exit.ret, { tm := [(0, V.agg [V.sl n c 1 xs, V.sl m d 2 ys]), (1, V.ptr 0 0), (2, V.bool false), (4, V.str t_00), (22, V.bool false), (24, V.sl n c 1 xs), (25, V.int IntKind.i64 (↑xs.length : Int)), (26, V.int IntKind.i64 v0), (27, V.bool true), (32, V.bool true)], hp := [(0, Ob.var [V.sl n c 1 xs, V.sl m d 2 ys])], nx := 33 }) :=
  byC [Hint.br 27 true, Hint.op 28 ((V.str t_00).cpt 0) [], Hint.br 32 true] ((decide (v0 < (↑xs.length : Int)) = true) ∧ (IdxP xs v0 1 1 (V.str t_00)) ∧ (decide (128 < (↑t_00.length : Int)) = true) ∧ True) (by kernel_rfl) ⟨c0, c1, c2, trivial⟩
theorem l24a_b_1 (n : Option Bool) (m : Option Bool) (c : Bool) (d : Bool) (xs : List V) (ys : List V) (v0 : Int) (t_00 : List UInt8) (K : Nat)
    (c0 : decide (v0 < (↑xs.length : Int)) = true)
    (c1 : IdxP xs v0 1 1 (V.str t_00))
    (c2 : decide (128 < (↑t_00.length : Int)) = false) :
    evalCode Try.prog Try.cfg (evalFn Try.prog Try.cfg K) 0 (Try.cfg.fc 24) K (loopBody Try.f24 0) { tm := [(0, V.agg [V.sl n c 1 xs, V.sl m d 2 ys]), (1, V.ptr 0 0), (2, V.bool false), (22, V.bool false), (24, V.sl n c 1 xs), (25, V.int IntKind.i64 (↑xs.length : Int)), (26, V.int IntKind.i64 v0)], hp := [(0, Ob.var [V.sl n c 1 xs, V.sl m d 2 ys])], nx := 1 } = some (Exit.normal, { tm := [(0, V.agg [V.sl n c 1 xs, V.sl m d 2 ys]), (1, V.ptr 0 0), (2, V.bool false), (4, V.str t_00), (22, V.bool false), (24, V.sl n c 1 xs), (25, V.int IntKind.i64 (↑xs.length : Int)), (26, V.int IntKind.i64 (IntKind.i64.wrap (v0 + 1))), (27, V.bool true), (32, V.bool false)], hp := [(0, Ob.var [V.sl n c 1 xs, V.sl m d 2 ys])], nx := 37 }) :=
  byC [Hint.br 27 true, Hint.op 28 ((V.str t_00).cpt 0) [], Hint.br 32 false] ((decide (v0 < (↑xs.length : Int)) = true) ∧ (IdxP xs v0 1 1 (V.str t_00)) ∧ (decide (128 < (↑t_00.length : Int)) = false) ∧ True) (by kernel_rfl) ⟨c0, c1, c2, trivial⟩
theorem l24a_b_1h (n : Option Bool) (m : Option Bool) (c : Bool) (d : Bool) (xs : List V) (ys : List V) (v0 : Int) (t_00 : List UInt8) : head 0 [0, 1, 2, 22, 24, 25, 26] (Try.cfg.fc 24).acc { tm := [(0, V.agg [V.sl n c 1 xs, V.sl m d 2 ys]), (1, V.ptr 0 0), (2, V.bool false), (4, V.str t_00), (22, V.bool false), (24, V.sl n c 1 xs), (25, V.int IntKind.i64 (↑xs.length : Int)), (26, V.int IntKind.i64 (IntKind.i64.wrap (v0 + 1))), (27, V.bool true), (32, V.bool false)], hp := [(0, Ob.var [V.sl n c 1 xs, V.sl m d 2 ys])], nx := 37 } = { tm := [(0, V.agg [V.sl n c 1 xs, V.sl m d 2 ys]), (1, V.ptr 0 0), (2, V.bool false), (22, V.bool false), (24, V.sl n c 1 xs), (25, V.int IntKind.i64 (↑xs.length : Int)), (26, V.int IntKind.i64 (IntKind.i64.wrap (v0 + 1)))], hp := [(0, Ob.var [V.sl n c 1 xs, V.sl m d 2 ys])], nx := 1 } := by kernel_rfl
theorem l24a_b_2 (n : Option Bool) (m : Option Bool) (c : Bool) (d : Bool) (xs : List V) (ys : List V) (v0 : Int) (K : Nat)
    (c0 : decide (v0 < (↑xs.length : Int)) = false) :
    evalCode Try.prog Try.cfg (evalFn Try.prog Try.cfg K) 0 (Try.cfg.fc 24) K (loopBody Try.f24 0) { tm := [(0, V.agg [V.sl n c 1 xs, V.sl m d 2 ys]), (1, V.ptr 0 0), (2, V.bool false), (22, V.bool false), (24, V.sl n c 1 xs), (25, V.int IntKind.i64 (↑xs.length : Int)), (26, V.int IntKind.i64 v0)], hp := [(0, Ob.var [V.sl n c 1 xs, V.sl m d 2 ys])], nx := 1 } = some (Exit.exit 0, { tm := [(0, V.agg [V.sl n c 1 xs, V.sl m d 2 ys]), (1, V.ptr 0 0), (2, V.bool false), (22, V.bool false), (24, V.sl n c 1 xs), (25, V.int IntKind.i64 (↑xs.length : Int)), (26, V.int IntKind.i64 v0), (27, V.bool false)], hp := [(0, Ob.var [V.sl n c 1 xs, V.sl m d 2 ys])], nx := 5 }) :=
  byC [Hint.br 27 false] ((decide (v0 < (↑xs.length : Int)) = false) ∧ True) (by kernel_rfl) ⟨c0, trivial⟩
inductive l24a_R where
  | e0 (v0 : Int) (t_00 : List UInt8)
  | e2 (v0 : Int)
def l24a_end (n : Option Bool) (m : Option Bool) (c : Bool) (d : Bool) (xs : List V) (ys : List V) : l24a_R → Exit × St
  | .e0 v0 t_00 => (Exit.ret, { tm := [(0, V.agg [V.sl n c 1 xs, V.sl m d 2 ys]), (1, V.ptr 0 0), (2, V.bool false), (4, V.str t_00), (22, V.bool false), (24, V.sl n c 1 xs), (25, V.int IntKind.i64 (↑xs.length : Int)), (26, V.int IntKind.i64 v0), (27, V.bool true), (32, V.bool true)], hp := [(0, Ob.var [V.sl n c 1 xs, V.sl m d 2 ys])], nx := 33 })
  | .e2 v0 => (Exit.exit 0, { tm := [(0, V.agg [V.sl n c 1 xs, V.sl m d 2 ys]), (1, V.ptr 0 0), (2, V.bool false), (22, V.bool false), (24, V.sl n c 1 xs), (25, V.int IntKind.i64 (↑xs.length : Int)), (26, V.int IntKind.i64 v0), (27, V.bool false)], hp := [(0, Ob.var [V.sl n c 1 xs, V.sl m d 2 ys])], nx := 5 })
def l24a (n : Option Bool) (m : Option Bool) (c : Bool) (d : Bool) (xs : List V) (ys : List V) : Nat → Int → Option l24a_R
  | 0, _ => none
  | f + 1, v0 => (bif decide (v0 < (↑xs.length : Int)) then (match at? xs (v0) with | some (V.str t_00) => (bif decide (128 < (↑t_00.length : Int)) then some (l24a_R.e0 v0 t_00) else l24a n m c d xs ys f (IntKind.i64.wrap (v0 + 1))) | _ => none) else some (l24a_R.e2 v0))
theorem l24a_ok (n : Option Bool) (m : Option Bool) (c : Bool) (d : Bool) (xs : List V) (ys : List V) (K : Nat) : ∀ (f : Nat) (v0 : Int) (r : l24a_R), l24a n m c d xs ys f v0 = some r →
    LoopsN Try.prog Try.cfg K 0 Try.f24 (Try.cfg.fc 24) 0 [0, 1, 2, 22, 24, 25, 26] f { tm := [(0, V.agg [V.sl n c 1 xs, V.sl m d 2 ys]), (1, V.ptr 0 0), (2, V.bool false), (22, V.bool false), (24, V.sl n c 1 xs), (25, V.int IntKind.i64 (↑xs.length : Int)), (26, V.int IntKind.i64 v0)], hp := [(0, Ob.var [V.sl n c 1 xs, V.sl m d 2 ys])], nx := 1 } (l24a_end n m c d xs ys r) := by
  intro f
  induction f with
  | zero => intro v0 r h; cases h
  | succ f ih =>
    intro v0 r h
    rw [l24a] at h
    cases d0 : (decide (v0 < (↑xs.length : Int)))
    · rw [d0, cond_false] at h
      cases h
      exact LoopsN.done (l24a_b_2 n m c d xs ys v0 K d0) (fun h => by cases h)
    · rw [d0, cond_true] at h
      split at h
      · rename_i t_00 a1
        cases d6000 : (decide (128 < (↑t_00.length : Int)))
        · rw [d6000, cond_false] at h
          exact LoopsN.next (l24a_b_1 n m c d xs ys v0 t_00 K d0 (IdxP.of_at ‹_›) d6000) (l24a_b_1h n m c d xs ys v0 t_00) (ih _ _ h)
        · rw [d6000, cond_true] at h
          cases h
          exact LoopsN.done (l24a_b_0 n m c d xs ys v0 t_00 K d0 (IdxP.of_at ‹_›) d6000) (fun h => by cases h)
      · cases h
theorem p24a_0 (n : Option Bool) (m : Option Bool) (c : Bool) (d : Bool) (xs : List V) (ys : List V) (v : Int) (t : List UInt8) (k : Nat)
    (c0 : decide ((↑xs.length : Int) < 1) = true) :
    callP (evalFn Try.prog Try.cfg (k + 1)) 24 [V.agg [V.sl n c 1 xs, V.sl m d 2 ys]] = some (V.bool false) :=
  byP [Hint.br 11 true] ((decide ((↑xs.length : Int) < 1) = true) ∧ True) (by kernel_rfl) ⟨c0, trivial⟩
theorem p24a_1 (n : Option Bool) (m : Option Bool) (c : Bool) (d : Bool) (xs : List V) (ys : List V) (v : Int) (t : List UInt8) (k : Nat)
    (c0 : decide ((↑xs.length : Int) < 1) = false)
    (c1 : decide (64 < (↑xs.length : Int)) = true) :
    callP (evalFn Try.prog Try.cfg (k + 1)) 24 [V.agg [V.sl n c 1 xs, V.sl m d 2 ys]] = some (V.bool false) :=
  byP [Hint.br 11 false, Hint.br 17 true] ((decide ((↑xs.length : Int) < 1) = false) ∧ (decide (64 < (↑xs.length : Int)) = true) ∧ True) (by kernel_rfl) ⟨c0, c1, trivial⟩
theorem p24a_2 (n : Option Bool) (m : Option Bool) (c : Bool) (d : Bool) (xs : List V) (ys : List V) (v : Int) (t : List UInt8) (k : Nat)
    (c0 : decide ((↑xs.length : Int) < 1) = false)
    (c1 : decide (64 < (↑xs.length : Int)) = false)
    (c2 : decide (60 < (↑ys.length : Int)) = true) :
    callP (evalFn Try.prog Try.cfg (k + 1)) 24 [V.agg [V.sl n c 1 xs, V.sl m d 2 ys]] = some (V.bool false) :=
  byP [Hint.br 11 false, Hint.br 17 false, Hint.br 22 true] ((decide ((↑xs.length : Int) < 1) = false) ∧ (decide (64 < (↑xs.length : Int)) = false) ∧ (decide (60 < (↑ys.length : Int)) = true) ∧ True) (by kernel_rfl) ⟨c0, c1, c2, trivial⟩
theorem p24a_3 (n : Option Bool) (m : Option Bool) (c : Bool) (d : Bool) (xs : List V) (ys : List V) (v : Int) (t : List UInt8) (k : Nat)
    (c0 : decide ((↑xs.length : Int) < 1) = false)
    (c1 : decide (64 < (↑xs.length : Int)) = false)
    (c2 : decide (60 < (↑ys.length : Int)) = false)
    (c3 : LoopsN Try.prog Try.cfg k 0 Try.f24 (Try.cfg.fc 24) 0 [0, 1, 2, 22, 24, 25, 26] k { tm := [(0, V.agg [V.sl n c 1 xs, V.sl m d 2 ys]), (1, V.ptr 0 0), (2, V.bool false), (22, V.bool false), (24, V.sl n c 1 xs), (25, V.int IntKind.i64 (↑xs.length : Int)), (26, V.int IntKind.i64 0)], hp := [(0, Ob.var [V.sl n c 1 xs, V.sl m d 2 ys])], nx := 1 } (Exit.ret, { tm := [(0, V.agg [V.sl n c 1 xs, V.sl m d 2 ys]), (1, V.ptr 0 0), (2, V.bool false), (4, V.str t), (22, V.bool false), (24, V.sl n c 1 xs), (25, V.int IntKind.i64 (↑xs.length : Int)), (26, V.int IntKind.i64 v), (27, V.bool true), (32, V.bool true)], hp := [(0, Ob.var [V.sl n c 1 xs, V.sl m d 2 ys])], nx := 33 })) :
    callP (evalFn Try.prog Try.cfg (k + 1)) 24 [V.agg [V.sl n c 1 xs, V.sl m d 2 ys]] = some (V.bool false) :=
  byP [Hint.br 11 false, Hint.br 17 false, Hint.br 22 false, Hint.loop (Exit.ret, { tm := [(0, V.agg [V.sl n c 1 xs, V.sl m d 2 ys]), (1, V.ptr 0 0), (2, V.bool false), (4, V.str t), (22, V.bool false), (24, V.sl n c 1 xs), (25, V.int IntKind.i64 (↑xs.length : Int)), (26, V.int IntKind.i64 v), (27, V.bool true), (32, V.bool true)], hp := [(0, Ob.var [V.sl n c 1 xs, V.sl m d 2 ys])], nx := 33 })] ((decide ((↑xs.length : Int) < 1) = false) ∧ (decide (64 < (↑xs.length : Int)) = false) ∧ (decide (60 < (↑ys.length : Int)) = false) ∧ (LoopsN Try.prog Try.cfg k 0 Try.f24 (Try.cfg.fc 24) 0 [0, 1, 2, 22, 24, 25, 26] k { tm := [(0, V.agg [V.sl n c 1 xs, V.sl m d 2 ys]), (1, V.ptr 0 0), (2, V.bool false), (22, V.bool false), (24, V.sl n c 1 xs), (25, V.int IntKind.i64 (↑xs.length : Int)), (26, V.int IntKind.i64 0)], hp := [(0, Ob.var [V.sl n c 1 xs, V.sl m d 2 ys])], nx := 1 } (Exit.ret, { tm := [(0, V.agg [V.sl n c 1 xs, V.sl m d 2 ys]), (1, V.ptr 0 0), (2, V.bool false), (4, V.str t), (22, V.bool false), (24, V.sl n c 1 xs), (25, V.int IntKind.i64 (↑xs.length : Int)), (26, V.int IntKind.i64 v), (27, V.bool true), (32, V.bool true)], hp := [(0, Ob.var [V.sl n c 1 xs, V.sl m d 2 ys])], nx := 33 })) ∧ True) (by kernel_rfl) ⟨c0, c1, c2, c3, trivial⟩
theorem l24b_b_0 (n : Option Bool) (m : Option Bool) (c : Bool) (d : Bool) (xs : List V) (ys : List V) (v : Int) (v0 : Int) (a_00 : Int) (t_00 : List UInt8) (K : Nat)
    (c0 : decide (v0 < (↑ys.length : Int)) = true)
    (c1 : IdxP ys v0 2 2 (V.agg [V.int IntKind.i64 a_00, V.str t_00]))
    (c2 : decide (a_00 < 0) = true) :
    evalCode Try.prog Try.cfg (evalFn Try.prog Try.cfg K) 0 (Try.cfg.fc 24) K (loopBody Try.f24 1) { tm := [(0, V.agg [V.sl n c 1 xs, V.sl m d 2 ys]), (1, V.ptr 0 0), (2, V.bool false), (22, V.bool false), (24, V.sl n c 1 xs), (25, V.int IntKind.i64 (↑xs.length : Int)), (26, V.int IntKind.i64 v), (27, V.bool false), (35, V.sl m d 2 ys), (36, V.int IntKind.i64 (↑ys.length : Int)), (37, V.int IntKind.i64 v0)], hp := [(0, Ob.var [V.sl n c 1 xs, V.sl m d 2 ys])], nx := 1 } = some (Exit.ret, { tm := [(0, V.agg [V.sl n c 1 xs, V.sl m d 2 ys]), (1, V.ptr 0 0), (2, V.bool false), (6, V.ptr 13 0), (22, V.bool false), (24, V.sl n c 1 xs), (25, V.int IntKind.i64 (↑xs.length : Int)), (26, V.int IntKind.i64 v), (27, V.bool false), (35, V.sl m d 2 ys), (36, V.int IntKind.i64 (↑ys.length : Int)), (37, V.int IntKind.i64 v0), (38, V.bool true), (57, V.bool true)], hp := [(0, Ob.var [V.sl n c 1 xs, V.sl m d 2 ys]), (13, Ob.var [V.int IntKind.i64 a_00, V.str t_00])], nx := 93 }) :=
  byC [Hint.br 38 true, Hint.op 39 ((V.agg [V.int IntKind.i64 a_00, V.str t_00]).cpt 0) [], Hint.br 44 true] ((decide (v0 < (↑ys.length : Int)) = true) ∧ (IdxP ys v0 2 2 (V.agg [V.int IntKind.i64 a_00, V.str t_00])) ∧ (decide (a_00 < 0) = true) ∧ True) (by kernel_rfl) ⟨c0, c1, c2, trivial⟩
theorem l24b_b_1 (n : Option Bool) (m : Option Bool) (c : Bool) (d : Bool) (xs : List V) (ys : List V) (v : Int) (v0 : Int) (a_00 : Int) (t_00 : List UInt8) (K : Nat)
    (c0 : decide (v0 < (↑ys.length : Int)) = true)
    (c1 : IdxP ys v0 2 2 (V.agg [V.int IntKind.i64 a_00, V.str t_00]))
    (c2 : decide (a_00 < 0) = false)
    (c3 : decide ((↑xs.length : Int) ≤ a_00) = true) :
    evalCode Try.prog Try.cfg (evalFn Try.prog Try.cfg K) 0 (Try.cfg.fc 24) K (loopBody Try.f24 1) { tm := [(0, V.agg [V.sl n c 1 xs, V.sl m d 2 ys]), (1, V.ptr 0 0), (2, V.bool false), (22, V.bool false), (24, V.sl n c 1 xs), (25, V.int IntKind.i64 (↑xs.length : Int)), (26, V.int IntKind.i64 v), (27, V.bool false), (35, V.sl m d 2 ys), (36, V.int IntKind.i64 (↑ys.length : Int)), (37, V.int IntKind.i64 v0)], hp := [(0, Ob.var [V.sl n c 1 xs, V.sl m d 2 ys])], nx := 1 } = some (Exit.ret, { tm := [(0, V.agg [V.sl n c 1 xs, V.sl m d 2 ys]), (1, V.ptr 0 0), (2, V.bool false), (6, V.ptr 13 0), (22, V.bool false), (24, V.sl n c 1 xs), (25, V.int IntKind.i64 (↑xs.length : Int)), (26, V.int IntKind.i64 v), (27, V.bool false), (35, V.sl m d 2 ys), (36, V.int IntKind.i64 (↑ys.length : Int)), (37, V.int IntKind.i64 v0), (38, V.bool true), (57, V.bool true)], hp := [(0, Ob.var [V.sl n c 1 xs, V.sl m d 2 ys]), (13, Ob.var [V.int IntKind.i64 a_00, V.str t_00])], nx := 93 }) :=
  byC [Hint.br 38 true, Hint.op 39 ((V.agg [V.int IntKind.i64 a_00, V.str t_00]).cpt 0) [], Hint.br 44 false, Hint.br 52 true] ((decide (v0 < (↑ys.length : Int)) = true) ∧ (IdxP ys v0 2 2 (V.agg [V.int IntKind.i64 a_00, V.str t_00])) ∧ (decide (a_00 < 0) = false) ∧ (decide ((↑xs.length : Int) ≤ a_00) = true) ∧ True) (by kernel_rfl) ⟨c0, c1, c2, c3, trivial⟩
theorem l24b_b_2 (n : Option Bool) (m : Option Bool) (c : Bool) (d : Bool) (xs : List V) (ys : List V) (v : Int) (v0 : Int) (a_00 : Int) (t_00 : List UInt8) (K : Nat)
    (c0 : decide (v0 < (↑ys.length : Int)) = true)
    (c1 : IdxP ys v0 2 2 (V.agg [V.int IntKind.i64 a_00, V.str t_00]))
    (c2 : decide (a_00 < 0) = false)
    (c3 : decide ((↑xs.length : Int) ≤ a_00) = false)
    (c4 : decide (128 < (↑t_00.length : Int)) = true) :
    evalCode Try.prog Try.cfg (evalFn Try.prog Try.cfg K) 0 (Try.cfg.fc 24) K (loopBody Try.f24 1) { tm := [(0, V.agg [V.sl n c 1 xs, V.sl m d 2 ys]), (1, V.ptr 0 0), (2, V.bool false), (22, V.bool false), (24, V.sl n c 1 xs), (25, V.int IntKind.i64 (↑xs.length : Int)), (26, V.int IntKind.i64 v), (27, V.bool false), (35, V.sl m d 2 ys), (36, V.int IntKind.i64 (↑ys.length : Int)), (37, V.int IntKind.i64 v0)], hp := [(0, Ob.var [V.sl n c 1 xs, V.sl m d 2 ys])], nx := 1 } = some (Exit.ret, { tm := [(0, V.agg [V.sl n c 1 xs, V.sl m d 2 ys]), (1, V.ptr 0 0), (2, V.bool false), (6, V.ptr 13 0), (22, V.bool false), (24, V.sl n c 1 xs), (25, V.int IntKind.i64 (↑xs.length : Int)), (26, V.int IntKind.i64 v), (27, V.bool false), (35, V.sl m d 2 ys), (36, V.int IntKind.i64 (↑ys.length : Int)), (37, V.int IntKind.i64 v0), (38, V.bool true), (57, V.bool true)], hp := [(0, Ob.var [V.sl n c 1 xs, V.sl m d 2 ys]), (13, Ob.var [V.int IntKind.i64 a_00, V.str t_00])], nx := 93 }) :=
  byC [Hint.br 38 true, Hint.op 39 ((V.agg [V.int IntKind.i64 a_00, V.str t_00]).cpt 0) [], Hint.br 44 false, Hint.br 52 false, Hint.br 57 true] ((decide (v0 < (↑ys.length : Int)) = true) ∧ (IdxP ys v0 2 2 (V.agg [V.int IntKind.i64 a_00, V.str t_00])) ∧ (decide (a_00 < 0) = false) ∧ (decide ((↑xs.length : Int) ≤ a_00) = false) ∧ (decide (128 < (↑t_00.length : Int)) = true) ∧ True) (by kernel_rfl) ⟨c0, c1, c2, c3, c4, trivial⟩
theorem l24b_b_3 (n : Option Bool) (m : Option Bool) (c : Bool) (d : Bool) (xs : List V) (ys : List V) (v : Int) (v0 : Int) (a_00 : Int) (t_00 : List UInt8) (K : Nat)
    (c0 : decide (v0 < (↑ys.length : Int)) = true)
    (c1 : IdxP ys v0 2 2 (V.agg [V.int IntKind.i64 a_00, V.str t_00]))
    (c2 : decide (a_00 < 0) = false)
    (c3 : decide ((↑xs.length : Int) ≤ a_00) = false)
    (c4 : decide (128 < (↑t_00.length : Int)) = false) :
    evalCode Try.prog Try.cfg (evalFn Try.prog Try.cfg K) 0 (Try.cfg.fc 24) K (loopBody Try.f24 1) { tm := [(0, V.agg [V.sl n c 1 xs, V.sl m d 2 ys]), (1, V.ptr 0 0), (2, V.bool false), (22, V.bool false), (24, V.sl n c 1 xs), (25, V.int IntKind.i64 (↑xs.length : Int)), (26, V.int IntKind.i64 v), (27, V.bool false), (35, V.sl m d 2 ys), (36, V.int IntKind.i64 (↑ys.length : Int)), (37, V.int IntKind.i64 v0)], hp := [(0, Ob.var [V.sl n c 1 xs, V.sl m d 2 ys])], nx := 1 } = some (Exit.normal, { tm := [(0, V.agg [V.sl n c 1 xs, V.sl m d 2 ys]), (1, V.ptr 0 0), (2, V.bool false), (6, V.ptr 13 0), (22, V.bool false), (24, V.sl n c 1 xs), (25, V.int IntKind.i64 (↑xs.length : Int)), (26, V.int IntKind.i64 v), (27, V.bool false), (35, V.sl m d 2 ys), (36, V.int IntKind.i64 (↑ys.length : Int)), (37, V.int IntKind.i64 (IntKind.i64.wrap (v0 + 1))), (38, V.bool true), (57, V.bool false)], hp := [(0, Ob.var [V.sl n c 1 xs, V.sl m d 2 ys]), (13, Ob.var [V.int IntKind.i64 a_00, V.str t_00])], nx := 97 }) :=
  byC [Hint.br 38 true, Hint.op 39 ((V.agg [V.int IntKind.i64 a_00, V.str t_00]).cpt 0) [], Hint.br 44 false, Hint.br 52 false, Hint.br 57 false] ((decide (v0 < (↑ys.length : Int)) = true) ∧ (IdxP ys v0 2 2 (V.agg [V.int IntKind.i64 a_00, V.str t_00])) ∧ (decide (a_00 < 0) = false) ∧ (decide ((↑xs.length : Int) ≤ a_00) = false) ∧ (decide (128 < (↑t_00.length : Int)) = false) ∧ True) (by kernel_rfl) ⟨c0, c1, c2, c3, c4, trivial⟩
theorem l24b_b_3h (n : Option Bool) (m : Option Bool) (c : Bool) (d : Bool) (xs : List V) (ys : List V) (v : Int) (v0 : Int) (a_00 : Int) (t_00 : List UInt8) : head 0 [0, 1, 2, 22, 24, 25, 26, 27, 35, 36, 37] (Try.cfg.fc 24).acc { tm := [(0, V.agg [V.sl n c 1 xs, V.sl m d 2 ys]), (1, V.ptr 0 0), (2, V.bool false), (6, V.ptr 13 0), (22, V.bool false), (24, V.sl n c 1 xs), (25, V.int IntKind.i64 (↑xs.length : Int)), (26, V.int IntKind.i64 v), (27, V.bool false), (35, V.sl m d 2 ys), (36, V.int IntKind.i64 (↑ys.length : Int)), (37, V.int IntKind.i64 (IntKind.i64.wrap (v0 + 1))), (38, V.bool true), (57, V.bool false)], hp := [(0, Ob.var [V.sl n c 1 xs, V.sl m d 2 ys]), (13, Ob.var [V.int IntKind.i64 a_00, V.str t_00])], nx := 97 } = { tm := [(0, V.agg [V.sl n c 1 xs, V.sl m d 2 ys]), (1, V.ptr 0 0), (2, V.bool false), (22, V.bool false), (24, V.sl n c 1 xs), (25, V.int IntKind.i64 (↑xs.length : Int)), (26, V.int IntKind.i64 v), (27, V.bool false), (35, V.sl m d 2 ys), (36, V.int IntKind.i64 (↑ys.length : Int)), (37, V.int IntKind.i64 (IntKind.i64.wrap (v0 + 1)))], hp := [(0, Ob.var [V.sl n c 1 xs, V.sl m d 2 ys])], nx := 1 } := by kernel_rfl
theorem l24b_b_4 (n : Option Bool) (m : Option Bool) (c : Bool) (d : Bool) (xs : List V) (ys : List V) (v : Int) (v0 : Int) (K : Nat)
    (c0 : decide (v0 < (↑ys.length : Int)) = false) :
    evalCode Try.prog Try.cfg (evalFn Try.prog Try.cfg K) 0 (Try.cfg.fc 24) K (loopBody Try.f24 1) { tm := [(0, V.agg [V.sl n c 1 xs, V.sl m d 2 ys]), (1, V.ptr 0 0), (2, V.bool false), (22, V.bool false), (24, V.sl n c 1 xs), (25, V.int IntKind.i64 (↑xs.length : Int)), (26, V.int IntKind.i64 v), (27, V.bool false), (35, V.sl m d 2 ys), (36, V.int IntKind.i64 (↑ys.length : Int)), (37, V.int IntKind.i64 v0)], hp := [(0, Ob.var [V.sl n c 1 xs, V.sl m d 2 ys])], nx := 1 } = some (Exit.exit 2, { tm := [(0, V.agg [V.sl n c 1 xs, V.sl m d 2 ys]), (1, V.ptr 0 0), (2, V.bool false), (22, V.bool false), (24, V.sl n c 1 xs), (25, V.int IntKind.i64 (↑xs.length : Int)), (26, V.int IntKind.i64 v), (27, V.bool false), (35, V.sl m d 2 ys), (36, V.int IntKind.i64 (↑ys.length : Int)), (37, V.int IntKind.i64 v0), (38, V.bool false)], hp := [(0, Ob.var [V.sl n c 1 xs, V.sl m d 2 ys])], nx := 5 }) :=
  byC [Hint.br 38 false] ((decide (v0 < (↑ys.length : Int)) = false) ∧ True) (by kernel_rfl) ⟨c0, trivial⟩
inductive l24b_R where
  | e0 (v0 : Int) (a_00 : Int) (t_00 : List UInt8)
  | e1 (v0 : Int) (a_00 : Int) (t_00 : List UInt8)
  | e2 (v0 : Int) (a_00 : Int) (t_00 : List UInt8)
  | e4 (v0 : Int)
def l24b_end (n : Option Bool) (m : Option Bool) (c : Bool) (d : Bool) (xs : List V) (ys : List V) (v : Int) : l24b_R → Exit × St
  | .e0 v0 a_00 t_00 => (Exit.ret, { tm := [(0, V.agg [V.sl n c 1 xs, V.sl m d 2 ys]), (1, V.ptr 0 0), (2, V.bool false), (6, V.ptr 13 0), (22, V.bool false), (24, V.sl n c 1 xs), (25, V.int IntKind.i64 (↑xs.length : Int)), (26, V.int IntKind.i64 v), (27, V.bool false), (35, V.sl m d 2 ys), (36, V.int IntKind.i64 (↑ys.length : Int)), (37, V.int IntKind.i64 v0), (38, V.bool true), (57, V.bool true)], hp := [(0, Ob.var [V.sl n c 1 xs, V.sl m d 2 ys]), (13, Ob.var [V.int IntKind.i64 a_00, V.str t_00])], nx := 93 })
  | .e1 v0 a_00 t_00 => (Exit.ret, { tm := [(0, V.agg [V.sl n c 1 xs, V.sl m d 2 ys]), (1, V.ptr 0 0), (2, V.bool false), (6, V.ptr 13 0), (22, V.bool false), (24, V.sl n c 1 xs), (25, V.int IntKind.i64 (↑xs.length : Int)), (26, V.int IntKind.i64 v), (27, V.bool false), (35, V.sl m d 2 ys), (36, V.int IntKind.i64 (↑ys.length : Int)), (37, V.int IntKind.i64 v0), (38, V.bool true), (57, V.bool true)], hp := [(0, Ob.var [V.sl n c 1 xs, V.sl m d 2 ys]), (13, Ob.var [V.int IntKind.i64 a_00, V.str t_00])], nx := 93 })
  | .e2 v0 a_00 t_00 => (Exit.ret, { tm := [(0, V.agg [V.sl n c 1 xs, V.sl m d 2 ys]), (1, V.ptr 0 0), (2, V.bool false), (6, V.ptr 13 0), (22, V.bool false), (24, V.sl n c 1 xs), (25, V.int IntKind.i64 (↑xs.length : Int)), (26, V.int IntKind.i64 v), (27, V.bool false), (35, V.sl m d 2 ys), (36, V.int IntKind.i64 (↑ys.length : Int)), (37, V.int IntKind.i64 v0), (38, V.bool true), (57, V.bool true)], hp := [(0, Ob.var [V.sl n c 1 xs, V.sl m d 2 ys]), (13, Ob.var [V.int IntKind.i64 a_00, V.str t_00])], nx := 93 })
  | .e4 v0 => (Exit.exit 2, { tm := [(0, V.agg [V.sl n c 1 xs, V.sl m d 2 ys]), (1, V.ptr 0 0), (2, V.bool false), (22, V.bool false), (24, V.sl n c 1 xs), (25, V.int IntKind.i64 (↑xs.length : Int)), (26, V.int IntKind.i64 v), (27, V.bool false), (35, V.sl m d 2 ys), (36, V.int IntKind.i64 (↑ys.length : Int)), (37, V.int IntKind.i64 v0), (38, V.bool false)], hp := [(0, Ob.var [V.sl n c 1 xs, V.sl m d 2 ys])], nx := 5 })
def l24b (n : Option Bool) (m : Option Bool) (c : Bool) (d : Bool) (xs : List V) (ys : List V) (v : Int) : Nat → Int → Option l24b_R
  | 0, _ => none
  | f + 1, v0 => (bif decide (v0 < (↑ys.length : Int)) then (match at? ys (v0) with | some (V.agg [V.int IntKind.i64 a_00, V.str t_00]) => (bif decide (a_00 < 0) then some (l24b_R.e0 v0 a_00 t_00) else (bif decide ((↑xs.length : Int) ≤ a_00) then some (l24b_R.e1 v0 a_00 t_00) else (bif decide (128 < (↑t_00.length : Int)) then some (l24b_R.e2 v0 a_00 t_00) else l24b n m c d xs ys v f (IntKind.i64.wrap (v0 + 1))))) | _ => none) else some (l24b_R.e4 v0))
theorem l24b_ok (n : Option Bool) (m : Option Bool) (c : Bool) (d : Bool) (xs : List V) (ys : List V) (v : Int) (K : Nat) : ∀ (f : Nat) (v0 : Int) (r : l24b_R), l24b n m c d xs ys v f v0 = some r →
    LoopsN Try.prog Try.cfg K 0 Try.f24 (Try.cfg.fc 24) 1 [0, 1, 2, 22, 24, 25, 26, 27, 35, 36, 37] f { tm := [(0, V.agg [V.sl n c 1 xs, V.sl m d 2 ys]), (1, V.ptr 0 0), (2, V.bool false), (22, V.bool false), (24, V.sl n c 1 xs), (25, V.int IntKind.i64 (↑xs.length : Int)), (26, V.int IntKind.i64 v), (27, V.bool false), (35, V.sl m d 2 ys), (36, V.int IntKind.i64 (↑ys.length : Int)), (37, V.int IntKind.i64 v0)], hp := [(0, Ob.var [V.sl n c 1 xs, V.sl m d 2 ys])], nx := 1 } (l24b_end n m c d xs ys v r) := by
  intro f
  induction f with
  | zero => intro v0 r h; cases h
  | succ f ih =>
    intro v0 r h
    rw [l24b] at h
    cases d0 : (decide (v0 < (↑ys.length : Int)))
    · rw [d0, cond_false] at h
      cases h
      exact LoopsN.done (l24b_b_4 n m c d xs ys v v0 K d0) (fun h => by cases h)
    · rw [d0, cond_true] at h
      split at h
      · rename_i a_00 t_00 a1
        cases d8000 : (decide (a_00 < 0))
        · rw [d8000, cond_false] at h
          cases d16000 : (decide ((↑xs.length : Int) ≤ a_00))
          · rw [d16000, cond_false] at h
            cases d21000 : (decide (128 < (↑t_00.length : Int)))
            · rw [d21000, cond_false] at h
              exact LoopsN.next (l24b_b_3 n m c d xs ys v v0 a_00 t_00 K d0 (IdxP.of_at ‹_›) d8000 d16000 d21000) (l24b_b_3h n m c d xs ys v v0 a_00 t_00) (ih _ _ h)
            · rw [d21000, cond_true] at h
              cases h
              exact LoopsN.done (l24b_b_2 n m c d xs ys v v0 a_00 t_00 K d0 (IdxP.of_at ‹_›) d8000 d16000 d21000) (fun h => by cases h)
          · rw [d16000, cond_true] at h
            cases h
            exact LoopsN.done (l24b_b_1 n m c d xs ys v v0 a_00 t_00 K d0 (IdxP.of_at ‹_›) d8000 d16000) (fun h => by cases h)
        · rw [d8000, cond_true] at h
          cases h
          exact LoopsN.done (l24b_b_0 n m c d xs ys v v0 a_00 t_00 K d0 (IdxP.of_at ‹_›) d8000) (fun h => by cases h)
      · cases h
theorem l19a_b_0 (n : Option Bool) (m : Option Bool) (c : Bool) (d : Bool) (xs : List V) (ys : List V) (nb : Option Bool) (mb : Option Bool) (cb : Bool) (db : Bool) (xs2 : List V) (ys2 : List V) (v0 : Int) (t_00 : List UInt8) (t_10 : List UInt8) (K : Nat)
    (c0 : decide (v0 < (↑xs.length : Int)) = true)
    (c1 : IdxP xs v0 1 1 (V.str t_00))
    (c2 : IdxP xs2 v0 1 1 (V.str t_10))
    (c3 : (!decide (t_00 = t_10)) = true) :
    evalCode Try.prog Try.cfg (evalFn Try.prog Try.cfg K) 0 (Try.cfg.fc 19) K (loopBody Try.f19 0) { tm := [(0, V.agg [V.sl n c 1 xs, V.sl m d 2 ys]), (1, V.agg [V.sl nb cb 1 xs2, V.sl mb db 2 ys2]), (2, V.ptr 0 0), (3, V.ptr 1 0), (4, V.bool false), (22, V.bool false), (25, V.int IntKind.i64 (↑xs.length : Int)), (26, V.int IntKind.i64 v0)], hp := [(0, Ob.var [V.sl n c 1 xs, V.sl m d 2 ys]), (1, Ob.var [V.sl nb cb 1 xs2, V.sl mb db 2 ys2])], nx := 2 } = some (Exit.ret, { tm := [(0, V.agg [V.sl n c 1 xs, V.sl m d 2 ys]), (1, V.agg [V.sl nb cb 1 xs2, V.sl mb db 2 ys2]), (2, V.ptr 0 0), (3, V.ptr 1 0), (4, V.bool false), (5, V.int IntKind.i64 v0), (22, V.bool false), (25, V.int IntKind.i64 (↑xs.length : Int)), (26, V.int IntKind.i64 v0), (27, V.bool true), (39, V.bool true)], hp := [(0, Ob.var [V.sl n c 1 xs, V.sl m d 2 ys]), (1, Ob.var [V.sl nb cb 1 xs2, V.sl mb db 2 ys2])], nx := 62 }) :=
  byC [Hint.br 27 true, Hint.op 32 ((V.str t_00).cpt 0) [], Hint.op 37 ((V.str t_10).cpt 0) [], Hint.br 39 true] ((decide (v0 < (↑xs.length : Int)) = true) ∧ (IdxP xs v0 1 1 (V.str t_00)) ∧ (IdxP xs2 v0 1 1 (V.str t_10)) ∧ ((!decide (t_00 = t_10)) = true) ∧ True) (by kernel_rfl) ⟨c0, c1, c2, c3, trivial⟩
theorem l19a_b_1 (n : Option Bool) (m : Option Bool) (c : Bool) (d : Bool) (xs : List V) (ys : List V) (nb : Option Bool) (mb : Option Bool) (cb : Bool) (db : Bool) (xs2 : List V) (ys2 : List V) (v0 : Int) (t_00 : List UInt8) (t_10 : List UInt8) (K : Nat)
    (c0 : decide (v0 < (↑xs.length : Int)) = true)
    (c1 : IdxP xs v0 1 1 (V.str t_00))
    (c2 : IdxP xs2 v0 1 1 (V.str t_10))
    (c3 : (!decide (t_00 = t_10)) = false) :
    evalCode Try.prog Try.cfg (evalFn Try.prog Try.cfg K) 0 (Try.cfg.fc 19) K (loopBody Try.f19 0) { tm := [(0, V.agg [V.sl n c 1 xs, V.sl m d 2 ys]), (1, V.agg [V.sl nb cb 1 xs2, V.sl mb db 2 ys2]), (2, V.ptr 0 0), (3, V.ptr 1 0), (4, V.bool false), (22, V.bool false), (25, V.int IntKind.i64 (↑xs.length : Int)), (26, V.int IntKind.i64 v0)], hp := [(0, Ob.var [V.sl n c 1 xs, V.sl m d 2 ys]), (1, Ob.var [V.sl nb cb 1 xs2, V.sl mb db 2 ys2])], nx := 2 } = some (Exit.normal, { tm := [(0, V.agg [V.sl n c 1 xs, V.sl m d 2 ys]), (1, V.agg [V.sl nb cb 1 xs2, V.sl mb db 2 ys2]), (2, V.ptr 0 0), (3, V.ptr 1 0), (4, V.bool false), (5, V.int IntKind.i64 v0), (22, V.bool false), (25, V.int IntKind.i64 (↑xs.length : Int)), (26, V.int IntKind.i64 (IntKind.i64.wrap (v0 + 1))), (27, V.bool true), (39, V.bool false)], hp := [(0, Ob.var [V.sl n c 1 xs, V.sl m d 2 ys]), (1, Ob.var [V.sl nb cb 1 xs2, V.sl mb db 2 ys2])], nx := 66 }) :=
  byC [Hint.br 27 true, Hint.op 32 ((V.str t_00).cpt 0) [], Hint.op 37 ((V.str t_10).cpt 0) [], Hint.br 39 false] ((decide (v0 < (↑xs.length : Int)) = true) ∧ (IdxP xs v0 1 1 (V.str t_00)) ∧ (IdxP xs2 v0 1 1 (V.str t_10)) ∧ ((!decide (t_00 = t_10)) = false) ∧ True) (by kernel_rfl) ⟨c0, c1, c2, c3, trivial⟩
theorem l19a_b_1h (n : Option Bool) (m : Option Bool) (c : Bool) (d : Bool) (xs : List V) (ys : List V) (nb : Option Bool) (mb : Option Bool) (cb : Bool) (db : Bool) (xs2 : List V) (ys2 : List V) (v0 : Int) (t_00 : List UInt8) (t_10 : List UInt8) : head 0 [0, 1, 2, 3, 4, 22, 25, 26] (Try.cfg.fc 19).acc { tm := [(0, V.agg [V.sl n c 1 xs, V.sl m d 2 ys]), (1, V.agg [V.sl nb cb 1 xs2, V.sl mb db 2 ys2]), (2, V.ptr 0 0), (3, V.ptr 1 0), (4, V.bool false), (5, V.int IntKind.i64 v0), (22, V.bool false), (25, V.int IntKind.i64 (↑xs.length : Int)), (26, V.int IntKind.i64 (IntKind.i64.wrap (v0 + 1))), (27, V.bool true), (39, V.bool false)], hp := [(0, Ob.var [V.sl n c 1 xs, V.sl m d 2 ys]), (1, Ob.var [V.sl nb cb 1 xs2, V.sl mb db 2 ys2])], nx := 66 } = { tm := [(0, V.agg [V.sl n c 1 xs, V.sl m d 2 ys]), (1, V.agg [V.sl nb cb 1 xs2, V.sl mb db 2 ys2]), (2, V.ptr 0 0), (3, V.ptr 1 0), (4, V.bool false), (22, V.bool false), (25, V.int IntKind.i64 (↑xs.length : Int)), (26, V.int IntKind.i64 (IntKind.i64.wrap (v0 + 1)))], hp := [(0, Ob.var [V.sl n c 1 xs, V.sl m d 2 ys]), (1, Ob.var [V.sl nb cb 1 xs2, V.sl mb db 2 ys2])], nx := 2 } := by kernel_rfl
theorem l19a_b_2 (n : Option Bool) (m : Option Bool) (c : Bool) (d : Bool) (xs : List V) (ys : List V) (nb : Option Bool) (mb : Option Bool) (cb : Bool) (db : Bool) (xs2 : List V) (ys2 : List V) (v0 : Int) (K : Nat)
    (c0 : decide (v0 < (↑xs.length : Int)) = false) :
    evalCode Try.prog Try.cfg (evalFn Try.prog Try.cfg K) 0 (Try.cfg.fc 19) K (loopBody Try.f19 0) { tm := [(0, V.agg [V.sl n c 1 xs, V.sl m d 2 ys]), (1, V.agg [V.sl nb cb 1 xs2, V.sl mb db 2 ys2]), (2, V.ptr 0 0), (3, V.ptr 1 0), (4, V.bool false), (22, V.bool false), (25, V.int IntKind.i64 (↑xs.length : Int)), (26, V.int IntKind.i64 v0)], hp := [(0, Ob.var [V.sl n c 1 xs, V.sl m d 2 ys]), (1, Ob.var [V.sl nb cb 1 xs2, V.sl mb db 2 ys2])], nx := 2 } = some (Exit.exit 0, { tm := [(0, V.agg [V.sl n c 1 xs, V.sl m d 2 ys]), (1, V.agg [V.sl nb cb 1 xs2, V.sl mb db 2 ys2]), (2, V.ptr 0 0), (3, V.ptr 1 0), (4, V.bool false), (22, V.bool false), (25, V.int IntKind.i64 (↑xs.length : Int)), (26, V.int IntKind.i64 v0), (27, V.bool false)], hp := [(0, Ob.var [V.sl n c 1 xs, V.sl m d 2 ys]), (1, Ob.var [V.sl nb cb 1 xs2, V.sl mb db 2 ys2])], nx := 6 }) :=
  byC [Hint.br 27 false] ((decide (v0 < (↑xs.length : Int)) = false) ∧ True) (by kernel_rfl) ⟨c0, trivial⟩
inductive l19a_R where
  | e0 (v0 : Int)
  | e2 (v0 : Int)
def l19a_end (n : Option Bool) (m : Option Bool) (c : Bool) (d : Bool) (xs : List V) (ys : List V) (nb : Option Bool) (mb : Option Bool) (cb : Bool) (db : Bool) (xs2 : List V) (ys2 : List V) : l19a_R → Exit × St
  | .e0 v0 => (Exit.ret, { tm := [(0, V.agg [V.sl n c 1 xs, V.sl m d 2 ys]), (1, V.agg [V.sl nb cb 1 xs2, V.sl mb db 2 ys2]), (2, V.ptr 0 0), (3, V.ptr 1 0), (4, V.bool false), (5, V.int IntKind.i64 v0), (22, V.bool false), (25, V.int IntKind.i64 (↑xs.length : Int)), (26, V.int IntKind.i64 v0), (27, V.bool true), (39, V.bool true)], hp := [(0, Ob.var [V.sl n c 1 xs, V.sl m d 2 ys]), (1, Ob.var [V.sl nb cb 1 xs2, V.sl mb db 2 ys2])], nx := 62 })
  | .e2 v0 => (Exit.exit 0, { tm := [(0, V.agg [V.sl n c 1 xs, V.sl m d 2 ys]), (1, V.agg [V.sl nb cb 1 xs2, V.sl mb db 2 ys2]), (2, V.ptr 0 0), (3, V.ptr 1 0), (4, V.bool false), (22, V.bool false), (25, V.int IntKind.i64 (↑xs.length : Int)), (26, V.int IntKind.i64 v0), (27, V.bool false)], hp := [(0, Ob.var [V.sl n c 1 xs, V.sl m d 2 ys]), (1, Ob.var [V.sl nb cb 1 xs2, V.sl mb db 2 ys2])], nx := 6 })
def l19a (n : Option Bool) (m : Option Bool) (c : Bool) (d : Bool) (xs : List V) (ys : List V) (nb : Option Bool) (mb : Option Bool) (cb : Bool) (db : Bool) (xs2 : List V) (ys2 : List V) : Nat → Int → Option l19a_R
  | 0, _ => none
  | f + 1, v0 => (bif decide (v0 < (↑xs.length : Int)) then (match at? xs (v0) with | some (V.str t_00) => (match at? xs2 (v0) with | some (V.str t_10) => (bif !decide (t_00 = t_10) then some (l19a_R.e0 v0) else l19a n m c d xs ys nb mb cb db xs2 ys2 f (IntKind.i64.wrap (v0 + 1))) | _ => none) | _ => none) else some (l19a_R.e2 v0))
theorem l19a_ok (n : Option Bool) (m : Option Bool) (c : Bool) (d : Bool) (xs : List V) (ys : List V) (nb : Option Bool) (mb : Option Bool) (cb : Bool) (db : Bool) (xs2 : List V) (ys2 : List V) (K : Nat) : ∀ (f : Nat) (v0 : Int) (r : l19a_R), l19a n m c d xs ys nb mb cb db xs2 ys2 f v0 = some r →
    LoopsN Try.prog Try.cfg K 0 Try.f19 (Try.cfg.fc 19) 0 [0, 1, 2, 3, 4, 22, 25, 26] f { tm := [(0, V.agg [V.sl n c 1 xs, V.sl m d 2 ys]), (1, V.agg [V.sl nb cb 1 xs2, V.sl mb db 2 ys2]), (2, V.ptr 0 0), (3, V.ptr 1 0), (4, V.bool false), (22, V.bool false), (25, V.int IntKind.i64 (↑xs.length : Int)), (26, V.int IntKind.i64 v0)], hp := [(0, Ob.var [V.sl n c 1 xs, V.sl m d 2 ys]), (1, Ob.var [V.sl nb cb 1 xs2, V.sl mb db 2 ys2])], nx := 2 } (l19a_end n m c d xs ys nb mb cb db xs2 ys2 r) := by
  intro f
  induction f with
  | zero => intro v0 r h; cases h
  | succ f ih =>
    intro v0 r h
    rw [l19a] at h
    cases d0 : (decide (v0 < (↑xs.length : Int)))
    · rw [d0, cond_false] at h
      cases h
      exact LoopsN.done (l19a_b_2 n m c d xs ys nb mb cb db xs2 ys2 v0 K d0) (fun h => by cases h)
    · rw [d0, cond_true] at h
      split at h
      · rename_i t_00 a1
        split at h
        · rename_i t_10 a2
          cases d13000 : (!decide (t_00 = t_10))
          · rw [d13000, cond_false] at h
            exact LoopsN.next (l19a_b_1 n m c d xs ys nb mb cb db xs2 ys2 v0 t_00 t_10 K d0 (IdxP.of_at ‹_›) (IdxP.of_at ‹_›) d13000) (l19a_b_1h n m c d xs ys nb mb cb db xs2 ys2 v0 t_00 t_10) (ih _ _ h)
          · rw [d13000, cond_true] at h
            cases h
            exact LoopsN.done (l19a_b_0 n m c d xs ys nb mb cb db xs2 ys2 v0 t_00 t_10 K d0 (IdxP.of_at ‹_›) (IdxP.of_at ‹_›) d13000) (fun h => by cases h)
        · cases h
      · cases h
theorem p19a_0 (n : Option Bool) (m : Option Bool) (c : Bool) (d : Bool) (xs : List V) (ys : List V) (nb : Option Bool) (mb : Option Bool) (cb : Bool) (db : Bool) (xs2 : List V) (ys2 : List V) (v : Int) (k : Nat)
    (c0 : (!decide ((↑xs.length : Int) = (↑xs2.length : Int))) = true) :
    callP (evalFn Try.prog Try.cfg (k + 1)) 19 [V.agg [V.sl n c 1 xs, V.sl m d 2 ys], V.agg [V.sl nb cb 1 xs2, V.sl mb db 2 ys2]] = some (V.bool false) :=
  byP [Hint.br 14 true] (((!decide ((↑xs.length : Int) = (↑xs2.length : Int))) = true) ∧ True) (by kernel_rfl) ⟨c0, trivial⟩
theorem p19a_1 (n : Option Bool) (m : Option Bool) (c : Bool) (d : Bool) (xs : List V) (ys : List V) (nb : Option Bool) (mb : Option Bool) (cb : Bool) (db : Bool) (xs2 : List V) (ys2 : List V) (v : Int) (k : Nat)
    (c0 : (!decide ((↑xs.length : Int) = (↑xs2.length : Int))) = false)
    (c1 : (!decide ((↑ys.length : Int) = (↑ys2.length : Int))) = true) :
    callP (evalFn Try.prog Try.cfg (k + 1)) 19 [V.agg [V.sl n c 1 xs, V.sl m d 2 ys], V.agg [V.sl nb cb 1 xs2, V.sl mb db 2 ys2]] = some (V.bool false) :=
  byP [Hint.br 14 false, Hint.br 22 true] (((!decide ((↑xs.length : Int) = (↑xs2.length : Int))) = false) ∧ ((!decide ((↑ys.length : Int) = (↑ys2.length : Int))) = true) ∧ True) (by kernel_rfl) ⟨c0, c1, trivial⟩
theorem p19a_2 (n : Option Bool) (m : Option Bool) (c : Bool) (d : Bool) (xs : List V) (ys : List V) (nb : Option Bool) (mb : Option Bool) (cb : Bool) (db : Bool) (xs2 : List V) (ys2 : List V) (v : Int) (k : Nat)
    (c0 : (!decide ((↑xs.length : Int) = (↑xs2.length : Int))) = false)
    (c1 : (!decide ((↑ys.length : Int) = (↑ys2.length : Int))) = false)
    (c2 : LoopsN Try.prog Try.cfg k 0 Try.f19 (Try.cfg.fc 19) 0 [0, 1, 2, 3, 4, 22, 25, 26] k { tm := [(0, V.agg [V.sl n c 1 xs, V.sl m d 2 ys]), (1, V.agg [V.sl nb cb 1 xs2, V.sl mb db 2 ys2]), (2, V.ptr 0 0), (3, V.ptr 1 0), (4, V.bool false), (22, V.bool false), (25, V.int IntKind.i64 (↑xs.length : Int)), (26, V.int IntKind.i64 0)], hp := [(0, Ob.var [V.sl n c 1 xs, V.sl m d 2 ys]), (1, Ob.var [V.sl nb cb 1 xs2, V.sl mb db 2 ys2])], nx := 2 } (Exit.ret, { tm := [(0, V.agg [V.sl n c 1 xs, V.sl m d 2 ys]), (1, V.agg [V.sl nb cb 1 xs2, V.sl mb db 2 ys2]), (2, V.ptr 0 0), (3, V.ptr 1 0), (4, V.bool false), (5, V.int IntKind.i64 v), (22, V.bool false), (25, V.int IntKind.i64 (↑xs.length : Int)), (26, V.int IntKind.i64 v), (27, V.bool true), (39, V.bool true)], hp := [(0, Ob.var [V.sl n c 1 xs, V.sl m d 2 ys]), (1, Ob.var [V.sl nb cb 1 xs2, V.sl mb db 2 ys2])], nx := 62 })) :
    callP (evalFn Try.prog Try.cfg (k + 1)) 19 [V.agg [V.sl n c 1 xs, V.sl m d 2 ys], V.agg [V.sl nb cb 1 xs2, V.sl mb db 2 ys2]] = some (V.bool false) :=
  byP [Hint.br 14 false, Hint.br 22 false, Hint.loop (Exit.ret, { tm := [(0, V.agg [V.sl n c 1 xs, V.sl m d 2 ys]), (1, V.agg [V.sl nb cb 1 xs2, V.sl mb db 2 ys2]), (2, V.ptr 0 0), (3, V.ptr 1 0), (4, V.bool false), (5, V.int IntKind.i64 v), (22, V.bool false), (25, V.int IntKind.i64 (↑xs.length : Int)), (26, V.int IntKind.i64 v), (27, V.bool true), (39, V.bool true)], hp := [(0, Ob.var [V.sl n c 1 xs, V.sl m d 2 ys]), (1, Ob.var [V.sl nb cb 1 xs2, V.sl mb db 2 ys2])], nx := 62 })] (((!decide ((↑xs.length : Int) = (↑xs2.length : Int))) = false) ∧ ((!decide ((↑ys.length : Int) = (↑ys2.length : Int))) = false) ∧ (LoopsN Try.prog Try.cfg k 0 Try.f19 (Try.cfg.fc 19) 0 [0, 1, 2, 3, 4, 22, 25, 26] k { tm := [(0, V.agg [V.sl n c 1 xs, V.sl m d 2 ys]), (1, V.agg [V.sl nb cb 1 xs2, V.sl mb db 2 ys2]), (2, V.ptr 0 0), (3, V.ptr 1 0), (4, V.bool false), (22, V.bool false), (25, V.int IntKind.i64 (↑xs.length : Int)), (26, V.int IntKind.i64 0)], hp := [(0, Ob.var [V.sl n c 1 xs, V.sl m d 2 ys]), (1, Ob.var [V.sl nb cb 1 xs2, V.sl mb db 2 ys2])], nx := 2 } (Exit.ret, { tm := [(0, V.agg [V.sl n c 1 xs, V.sl m d 2 ys]), (1, V.agg [V.sl nb cb 1 xs2, V.sl mb db 2 ys2]), (2, V.ptr 0 0), (3, V.ptr 1 0), (4, V.bool false), (5, V.int IntKind.i64 v), (22, V.bool false), (25, V.int IntKind.i64 (↑xs.length : Int)), (26, V.int IntKind.i64 v), (27, V.bool true), (39, V.bool true)], hp := [(0, Ob.var [V.sl n c 1 xs, V.sl m d 2 ys]), (1, Ob.var [V.sl nb cb 1 xs2, V.sl mb db 2 ys2])], nx := 62 })) ∧ True) (by kernel_rfl) ⟨c0, c1, c2, trivial⟩
theorem l19b_b_0 (n : Option Bool) (m : Option Bool) (c : Bool) (d : Bool) (xs : List V) (ys : List V) (nb : Option Bool) (mb : Option Bool) (cb : Bool) (db : Bool) (xs2 : List V) (ys2 : List V) (v : Int) (v0 : Int) (a_00 : Int) (t_00 : List UInt8) (a_10 : Int) (t_10 : List UInt8) (K : Nat)
    (c0 : decide (v0 < (↑ys.length : Int)) = true)
    (c1 : IdxP ys v0 2 2 (V.agg [V.int IntKind.i64 a_00, V.str t_00]))
    (c2 : IdxP ys2 v0 2 2 (V.agg [V.int IntKind.i64 a_10, V.str t_10]))
    (c3 : (!(decide (a_00 = a_10) && (decide (t_00 = t_10) && true))) = true) :
    evalCode Try.prog Try.cfg (evalFn Try.prog Try.cfg K) 0 (Try.cfg.fc 19) K (loopBody Try.f19 1) { tm := [(0, V.agg [V.sl n c 1 xs, V.sl m d 2 ys]), (1, V.agg [V.sl nb cb 1 xs2, V.sl mb db 2 ys2]), (2, V.ptr 0 0), (3, V.ptr 1 0), (4, V.bool false), (22, V.bool false), (25, V.int IntKind.i64 (↑xs.length : Int)), (26, V.int IntKind.i64 v), (27, V.bool false), (43, V.int IntKind.i64 (↑ys.length : Int)), (44, V.int IntKind.i64 v0)], hp := [(0, Ob.var [V.sl n c 1 xs, V.sl m d 2 ys]), (1, Ob.var [V.sl nb cb 1 xs2, V.sl mb db 2 ys2])], nx := 2 } = some (Exit.ret, { tm := [(0, V.agg [V.sl n c 1 xs, V.sl m d 2 ys]), (1, V.agg [V.sl nb cb 1 xs2, V.sl mb db 2 ys2]), (2, V.ptr 0 0), (3, V.ptr 1 0), (4, V.bool false), (6, V.int IntKind.i64 v0), (22, V.bool false), (25, V.int IntKind.i64 (↑xs.length : Int)), (26, V.int IntKind.i64 v), (27, V.bool false), (43, V.int IntKind.i64 (↑ys.length : Int)), (44, V.int IntKind.i64 v0), (45, V.bool true), (57, V.bool true)], hp := [(0, Ob.var [V.sl n c 1 xs, V.sl m d 2 ys]), (1, Ob.var [V.sl nb cb 1 xs2, V.sl mb db 2 ys2])], nx := 62 }) :=
  byC [Hint.br 45 true, Hint.op 50 ((V.agg [V.int IntKind.i64 a_00, V.str t_00]).cpt 0) [], Hint.op 55 ((V.agg [V.int IntKind.i64 a_10, V.str t_10]).cpt 0) [], Hint.br 57 true] ((decide (v0 < (↑ys.length : Int)) = true) ∧ (IdxP ys v0 2 2 (V.agg [V.int IntKind.i64 a_00, V.str t_00])) ∧ (IdxP ys2 v0 2 2 (V.agg [V.int IntKind.i64 a_10, V.str t_10])) ∧ ((!(decide (a_00 = a_10) && (decide (t_00 = t_10) && true))) = true) ∧ True) (by kernel_rfl) ⟨c0, c1, c2, c3, trivial⟩
theorem l19b_b_1 (n : Option Bool) (m : Option Bool) (c : Bool) (d : Bool) (xs : List V) (ys : List V) (nb : Option Bool) (mb : Option Bool) (cb : Bool) (db : Bool) (xs2 : List V) (ys2 : List V) (v : Int) (v0 : Int) (a_00 : Int) (t_00 : List UInt8) (a_10 : Int) (t_10 : List UInt8) (K : Nat)
    (c0 : decide (v0 < (↑ys.length : Int)) = true)
    (c1 : IdxP ys v0 2 2 (V.agg [V.int IntKind.i64 a_00, V.str t_00]))
    (c2 : IdxP ys2 v0 2 2 (V.agg [V.int IntKind.i64 a_10, V.str t_10]))
    (c3 : (!(decide (a_00 = a_10) && (decide (t_00 = t_10) && true))) = false) :
    evalCode Try.prog Try.cfg (evalFn Try.prog Try.cfg K) 0 (Try.cfg.fc 19) K (loopBody Try.f19 1) { tm := [(0, V.agg [V.sl n c 1 xs, V.sl m d 2 ys]), (1, V.agg [V.sl nb cb 1 xs2, V.sl mb db 2 ys2]), (2, V.ptr 0 0), (3, V.ptr 1 0), (4, V.bool false), (22, V.bool false), (25, V.int IntKind.i64 (↑xs.length : Int)), (26, V.int IntKind.i64 v), (27, V.bool false), (43, V.int IntKind.i64 (↑ys.length : Int)), (44, V.int IntKind.i64 v0)], hp := [(0, Ob.var [V.sl n c 1 xs, V.sl m d 2 ys]), (1, Ob.var [V.sl nb cb 1 xs2, V.sl mb db 2 ys2])], nx := 2 } = some (Exit.normal, { tm := [(0, V.agg [V.sl n c 1 xs, V.sl m d 2 ys]), (1, V.agg [V.sl nb cb 1 xs2, V.sl mb db 2 ys2]), (2, V.ptr 0 0), (3, V.ptr 1 0), (4, V.bool false), (6, V.int IntKind.i64 v0), (22, V.bool false), (25, V.int IntKind.i64 (↑xs.length : Int)), (26, V.int IntKind.i64 v), (27, V.bool false), (43, V.int IntKind.i64 (↑ys.length : Int)), (44, V.int IntKind.i64 (IntKind.i64.wrap (v0 + 1))), (45, V.bool true), (57, V.bool false)], hp := [(0, Ob.var [V.sl n c 1 xs, V.sl m d 2 ys]), (1, Ob.var [V.sl nb cb 1 xs2, V.sl mb db 2 ys2])], nx := 66 }) :=
  byC [Hint.br 45 true, Hint.op 50 ((V.agg [V.int IntKind.i64 a_00, V.str t_00]).cpt 0) [], Hint.op 55 ((V.agg [V.int IntKind.i64 a_10, V.str t_10]).cpt 0) [], Hint.br 57 false] ((decide (v0 < (↑ys.length : Int)) = true) ∧ (IdxP ys v0 2 2 (V.agg [V.int IntKind.i64 a_00, V.str t_00])) ∧ (IdxP ys2 v0 2 2 (V.agg [V.int IntKind.i64 a_10, V.str t_10])) ∧ ((!(decide (a_00 = a_10) && (decide (t_00 = t_10) && true))) = false) ∧ True) (by kernel_rfl) ⟨c0, c1, c2, c3, trivial⟩
theorem l19b_b_1h (n : Option Bool) (m : Option Bool) (c : Bool) (d : Bool) (xs : List V) (ys : List V) (nb : Option Bool) (mb : Option Bool) (cb : Bool) (db : Bool) (xs2 : List V) (ys2 : List V) (v : Int) (v0 : Int) (a_00 : Int) (t_00 : List UInt8) (a_10 : Int) (t_10 : List UInt8) : head 0 [0, 1, 2, 3, 4, 22, 25, 26, 27, 43, 44] (Try.cfg.fc 19).acc { tm := [(0, V.agg [V.sl n c 1 xs, V.sl m d 2 ys]), (1, V.agg [V.sl nb cb 1 xs2, V.sl mb db 2 ys2]), (2, V.ptr 0 0), (3, V.ptr 1 0), (4, V.bool false), (6, V.int IntKind.i64 v0), (22, V.bool false), (25, V.int IntKind.i64 (↑xs.length : Int)), (26, V.int IntKind.i64 v), (27, V.bool false), (43, V.int IntKind.i64 (↑ys.length : Int)), (44, V.int IntKind.i64 (IntKind.i64.wrap (v0 + 1))), (45, V.bool true), (57, V.bool false)], hp := [(0, Ob.var [V.sl n c 1 xs, V.sl m d 2 ys]), (1, Ob.var [V.sl nb cb 1 xs2, V.sl mb db 2 ys2])], nx := 66 } = { tm := [(0, V.agg [V.sl n c 1 xs, V.sl m d 2 ys]), (1, V.agg [V.sl nb cb 1 xs2, V.sl mb db 2 ys2]), (2, V.ptr 0 0), (3, V.ptr 1 0), (4, V.bool false), (22, V.bool false), (25, V.int IntKind.i64 (↑xs.length : Int)), (26, V.int IntKind.i64 v), (27, V.bool false), (43, V.int IntKind.i64 (↑ys.length : Int)), (44, V.int IntKind.i64 (IntKind.i64.wrap (v0 + 1)))], hp := [(0, Ob.var [V.sl n c 1 xs, V.sl m d 2 ys]), (1, Ob.var [V.sl nb cb 1 xs2, V.sl mb db 2 ys2])], nx := 2 } := by kernel_rfl
theorem l19b_b_2 (n : Option Bool) (m : Option Bool) (c : Bool) (d : Bool) (xs : List V) (ys : List V) (nb : Option Bool) (mb : Option Bool) (cb : Bool) (db : Bool) (xs2 : List V) (ys2 : List V) (v : Int) (v0 : Int) (K : Nat)
    (c0 : decide (v0 < (↑ys.length : Int)) = false) :
    evalCode Try.prog Try.cfg (evalFn Try.prog Try.cfg K) 0 (Try.cfg.fc 19) K (loopBody Try.f19 1) { tm := [(0, V.agg [V.sl n c 1 xs, V.sl m d 2 ys]), (1, V.agg [V.sl nb cb 1 xs2, V.sl mb db 2 ys2]), (2, V.ptr 0 0), (3, V.ptr 1 0), (4, V.bool false), (22, V.bool false), (25, V.int IntKind.i64 (↑xs.length : Int)), (26, V.int IntKind.i64 v), (27, V.bool false), (43, V.int IntKind.i64 (↑ys.length : Int)), (44, V.int IntKind.i64 v0)], hp := [(0, Ob.var [V.sl n c 1 xs, V.sl m d 2 ys]), (1, Ob.var [V.sl nb cb 1 xs2, V.sl mb db 2 ys2])], nx := 2 } = some (Exit.exit 2, { tm := [(0, V.agg [V.sl n c 1 xs, V.sl m d 2 ys]), (1, V.agg [V.sl nb cb 1 xs2, V.sl mb db 2 ys2]), (2, V.ptr 0 0), (3, V.ptr 1 0), (4, V.bool false), (22, V.bool false), (25, V.int IntKind.i64 (↑xs.length : Int)), (26, V.int IntKind.i64 v), (27, V.bool false), (43, V.int IntKind.i64 (↑ys.length : Int)), (44, V.int IntKind.i64 v0), (45, V.bool false)], hp := [(0, Ob.var [V.sl n c 1 xs, V.sl m d 2 ys]), (1, Ob.var [V.sl nb cb 1 xs2, V.sl mb db 2 ys2])], nx := 6 }) :=
  byC [Hint.br 45 false] ((decide (v0 < (↑ys.length : Int)) = false) ∧ True) (by kernel_rfl) ⟨c0, trivial⟩
inductive l19b_R where
  | e0 (v0 : Int)
  | e2 (v0 : Int)
def l19b_end (n : Option Bool) (m : Option Bool) (c : Bool) (d : Bool) (xs : List V) (ys : List V) (nb : Option Bool) (mb : Option Bool) (cb : Bool) (db : Bool) (xs2 : List V) (ys2 : List V) (v : Int) : l19b_R → Exit × St
  | .e0 v0 => (Exit.ret, { tm := [(0, V.agg [V.sl n c 1 xs, V.sl m d 2 ys]), (1, V.agg [V.sl nb cb 1 xs2, V.sl mb db 2 ys2]), (2, V.ptr 0 0), (3, V.ptr 1 0), (4, V.bool false), (6, V.int IntKind.i64 v0), (22, V.bool false), (25, V.int IntKind.i64 (↑xs.length : Int)), (26, V.int IntKind.i64 v), (27, V.bool false), (43, V.int IntKind.i64 (↑ys.length : Int)), (44, V.int IntKind.i64 v0), (45, V.bool true), (57, V.bool true)], hp := [(0, Ob.var [V.sl n c 1 xs, V.sl m d 2 ys]), (1, Ob.var [V.sl nb cb 1 xs2, V.sl mb db 2 ys2])], nx := 62 })
  | .e2 v0 => (Exit.exit 2, { tm := [(0, V.agg [V.sl n c 1 xs, V.sl m d 2 ys]), (1, V.agg [V.sl nb cb 1 xs2, V.sl mb db 2 ys2]), (2, V.ptr 0 0), (3, V.ptr 1 0), (4, V.bool false), (22, V.bool false), (25, V.int IntKind.i64 (↑xs.length : Int)), (26, V.int IntKind.i64 v), (27, V.bool false), (43, V.int IntKind.i64 (↑ys.length : Int)), (44, V.int IntKind.i64 v0), (45, V.bool false)], hp := [(0, Ob.var [V.sl n c 1 xs, V.sl m d 2 ys]), (1, Ob.var [V.sl nb cb 1 xs2, V.sl mb db 2 ys2])], nx := 6 })
def l19b (n : Option Bool) (m : Option Bool) (c : Bool) (d : Bool) (xs : List V) (ys : List V) (nb : Option Bool) (mb : Option Bool) (cb : Bool) (db : Bool) (xs2 : List V) (ys2 : List V) (v : Int) : Nat → Int → Option l19b_R
  | 0, _ => none
  | f + 1, v0 => (bif decide (v0 < (↑ys.length : Int)) then (match at? ys (v0) with | some (V.agg [V.int IntKind.i64 a_00, V.str t_00]) => (match at? ys2 (v0) with | some (V.agg [V.int IntKind.i64 a_10, V.str t_10]) => (bif !(decide (a_00 = a_10) && (decide (t_00 = t_10) && true)) then some (l19b_R.e0 v0) else l19b n m c d xs ys nb mb cb db xs2 ys2 v f (IntKind.i64.wrap (v0 + 1))) | _ => none) | _ => none) else some (l19b_R.e2 v0))
theorem l19b_ok (n : Option Bool) (m : Option Bool) (c : Bool) (d : Bool) (xs : List V) (ys : List V) (nb : Option Bool) (mb : Option Bool) (cb : Bool) (db : Bool) (xs2 : List V) (ys2 : List V) (v : Int) (K : Nat) : ∀ (f : Nat) (v0 : Int) (r : l19b_R), l19b n m c d xs ys nb mb cb db xs2 ys2 v f v0 = some r →
    LoopsN Try.prog Try.cfg K 0 Try.f19 (Try.cfg.fc 19) 1 [0, 1, 2, 3, 4, 22, 25, 26, 27, 43, 44] f { tm := [(0, V.agg [V.sl n c 1 xs, V.sl m d 2 ys]), (1, V.agg [V.sl nb cb 1 xs2, V.sl mb db 2 ys2]), (2, V.ptr 0 0), (3, V.ptr 1 0), (4, V.bool false), (22, V.bool false), (25, V.int IntKind.i64 (↑xs.length : Int)), (26, V.int IntKind.i64 v), (27, V.bool false), (43, V.int IntKind.i64 (↑ys.length : Int)), (44, V.int IntKind.i64 v0)], hp := [(0, Ob.var [V.sl n c 1 xs, V.sl m d 2 ys]), (1, Ob.var [V.sl nb cb 1 xs2, V.sl mb db 2 ys2])], nx := 2 } (l19b_end n m c d xs ys nb mb cb db xs2 ys2 v r) := by
  intro f
  induction f with
  | zero => intro v0 r h; cases h
  | succ f ih =>
    intro v0 r h
    rw [l19b] at h
    cases d0 : (decide (v0 < (↑ys.length : Int)))
    · rw [d0, cond_false] at h
      cases h
      exact LoopsN.done (l19b_b_2 n m c d xs ys nb mb cb db xs2 ys2 v v0 K d0) (fun h => by cases h)
    · rw [d0, cond_true] at h
      split at h
      · rename_i a_00 t_00 a1
        split at h
        · rename_i a_10 t_10 a2
          cases d13000 : (!(decide (a_00 = a_10) && (decide (t_00 = t_10) && true)))
          · rw [d13000, cond_false] at h
            exact LoopsN.next (l19b_b_1 n m c d xs ys nb mb cb db xs2 ys2 v v0 a_00 t_00 a_10 t_10 K d0 (IdxP.of_at ‹_›) (IdxP.of_at ‹_›) d13000) (l19b_b_1h n m c d xs ys nb mb cb db xs2 ys2 v v0 a_00 t_00 a_10 t_10) (ih _ _ h)
          · rw [d13000, cond_true] at h
            cases h
            exact LoopsN.done (l19b_b_0 n m c d xs ys nb mb cb db xs2 ys2 v v0 a_00 t_00 a_10 t_10 K d0 (IdxP.of_at ‹_›) (IdxP.of_at ‹_›) d13000) (fun h => by cases h)
        · cases h
      · cases h
theorem p65_0 (n : Option Bool) (m : Option Bool) (c : Bool) (d : Bool) (xs : List V) (ys : List V) (v : Int) (a : Int) (t : List UInt8) (k : Nat)
    (c0 : evalFn Try.prog Try.cfg k 85 [V.sl m d 2 ys, V.fn (Fn.func 63) [] [V.ptr 0 0, V.ptr 8 0]] [(0, Ob.var [V.sl n c 1 xs, V.sl m d 2 ys]), (8, Ob.var [V.fn (Fn.func 62) [] []])] 144 = some (V.int IntKind.i64 v, [(0, Ob.var [V.sl n c 1 xs, V.sl m d 2 ys]), (8, Ob.var [V.fn (Fn.func 62) [] []]), (176, Ob.var [V.int IntKind.i64 a, V.str t])], 264)) :
    evalFn Try.prog Try.cfg (k + 1) 65 [V.sl m d 2 ys, V.fn (Fn.func 63) [] [V.ptr 0 0, V.ptr 8 0]] [(0, Ob.var [V.sl n c 1 xs, V.sl m d 2 ys]), (8, Ob.var [V.fn (Fn.func 62) [] []])] 132 = some (V.bool (decide (0 ≤ v)), [(0, Ob.var [V.sl n c 1 xs, V.sl m d 2 ys]), (8, Ob.var [V.fn (Fn.func 62) [] []]), (176, Ob.var [V.int IntKind.i64 a, V.str t])], 272) :=
  byR [Hint.inl 7 (V.int IntKind.i64 v) [(0, Ob.var [V.sl n c 1 xs, V.sl m d 2 ys]), (8, Ob.var [V.fn (Fn.func 62) [] []]), (176, Ob.var [V.int IntKind.i64 a, V.str t])] 264] ((evalFn Try.prog Try.cfg k 85 [V.sl m d 2 ys, V.fn (Fn.func 63) [] [V.ptr 0 0, V.ptr 8 0]] [(0, Ob.var [V.sl n c 1 xs, V.sl m d 2 ys]), (8, Ob.var [V.fn (Fn.func 62) [] []])] 144 = some (V.int IntKind.i64 v, [(0, Ob.var [V.sl n c 1 xs, V.sl m d 2 ys]), (8, Ob.var [V.fn (Fn.func 62) [] []]), (176, Ob.var [V.int IntKind.i64 a, V.str t])], 264)) ∧ True) (by kernel_rfl) ⟨c0, trivial⟩
theorem p65b_0 (n : Option Bool) (m : Option Bool) (c : Bool) (d : Bool) (xs : List V) (ys : List V) (k : Nat)
    (c0 : evalFn Try.prog Try.cfg k 85 [V.sl m d 2 ys, V.fn (Fn.func 63) [] [V.ptr 0 0, V.ptr 8 0]] [(0, Ob.var [V.sl n c 1 xs, V.sl m d 2 ys]), (8, Ob.var [V.fn (Fn.func 62) [] []])] 144 = some (V.int IntKind.i64 (-1), [(0, Ob.var [V.sl n c 1 xs, V.sl m d 2 ys]), (8, Ob.var [V.fn (Fn.func 62) [] []])], 152)) :
    evalFn Try.prog Try.cfg (k + 1) 65 [V.sl m d 2 ys, V.fn (Fn.func 63) [] [V.ptr 0 0, V.ptr 8 0]] [(0, Ob.var [V.sl n c 1 xs, V.sl m d 2 ys]), (8, Ob.var [V.fn (Fn.func 62) [] []])] 132 = some (V.bool false, [(0, Ob.var [V.sl n c 1 xs, V.sl m d 2 ys]), (8, Ob.var [V.fn (Fn.func 62) [] []])], 160) :=
  byR [Hint.inl 7 (V.int IntKind.i64 (-1)) [(0, Ob.var [V.sl n c 1 xs, V.sl m d 2 ys]), (8, Ob.var [V.fn (Fn.func 62) [] []])] 152] ((evalFn Try.prog Try.cfg k 85 [V.sl m d 2 ys, V.fn (Fn.func 63) [] [V.ptr 0 0, V.ptr 8 0]] [(0, Ob.var [V.sl n c 1 xs, V.sl m d 2 ys]), (8, Ob.var [V.fn (Fn.func 62) [] []])] 144 = some (V.int IntKind.i64 (-1), [(0, Ob.var [V.sl n c 1 xs, V.sl m d 2 ys]), (8, Ob.var [V.fn (Fn.func 62) [] []])], 152)) ∧ True) (by kernel_rfl) ⟨c0, trivial⟩
theorem p14_0 (n : Option Bool) (m : Option Bool) (c : Bool) (d : Bool) (xs : List V) (ys : List V) (k : Nat)
    (c0 : SlcP true 1 (V.sl n c 1 xs) none (some (V.int IntKind.i64 (if 70 < (↑xs.length : Int) then 70 else (↑xs.length : Int)))) none (V.sl n false 1 (List.take (if 70 < (↑xs.length : Int) then 70 else (↑xs.length : Int)).toNat xs)))
    (c1 : SlcP true 2 (V.sl m d 2 ys) none (some (V.int IntKind.i64 (if 65 < (↑ys.length : Int) then 65 else (↑ys.length : Int)))) none (V.sl m false 2 (List.take (if 65 < (↑ys.length : Int) then 65 else (↑ys.length : Int)).toNat ys))) :
    callP (evalFn Try.prog Try.cfg (k + 1)) 14 [V.agg [V.sl n c 1 xs, V.sl m d 2 ys]] = some (V.agg [V.sl n false 1 (List.take (if 70 < (↑xs.length : Int) then 70 else (↑xs.length : Int)).toNat xs), V.sl m false 2 (List.take (if 65 < (↑ys.length : Int) then 65 else (↑ys.length : Int)).toNat ys)]) :=
  byP [Hint.op 9 (V.sl n false 1 (List.take (if 70 < (↑xs.length : Int) then 70 else (↑xs.length : Int)).toNat xs)) [], Hint.op 16 (V.sl m false 2 (List.take (if 65 < (↑ys.length : Int) then 65 else (↑ys.length : Int)).toNat ys)) []] ((SlcP true 1 (V.sl n c 1 xs) none (some (V.int IntKind.i64 (if 70 < (↑xs.length : Int) then 70 else (↑xs.length : Int)))) none (V.sl n false 1 (List.take (if 70 < (↑xs.length : Int) then 70 else (↑xs.length : Int)).toNat xs))) ∧ (SlcP true 2 (V.sl m d 2 ys) none (some (V.int IntKind.i64 (if 65 < (↑ys.length : Int) then 65 else (↑ys.length : Int)))) none (V.sl m false 2 (List.take (if 65 < (↑ys.length : Int) then 65 else (↑ys.length : Int)).toNat ys))) ∧ True) (by kernel_rfl) ⟨c0, c1, trivial⟩
theorem p22_0 (n : Int) (k : Nat)
    (c0 : decide (n < 1) = true) :
    callP (evalFn Try.prog Try.cfg (k + 1)) 22 [V.int IntKind.i64 n] = some (V.tup [V.agg [V.sl (some true) true 0 [], V.sl (some true) true 0 []], V.int IntKind.i64 4]) :=
  byP [Hint.br 6 true] ((decide (n < 1) = true) ∧ True) (by kernel_rfl) ⟨c0, trivial⟩
theorem p22_1 (n : Int) (k : Nat)
    (c0 : decide (n < 1) = false)
    (c1 : decide (64 < n) = true) :
    callP (evalFn Try.prog Try.cfg (k + 1)) 22 [V.int IntKind.i64 n] = some (V.tup [V.agg [V.sl (some true) true 0 [], V.sl (some true) true 0 []], V.int IntKind.i64 4]) :=
  byP [Hint.br 6 false, Hint.br 9 true] ((decide (n < 1) = false) ∧ (decide (64 < n) = true) ∧ True) (by kernel_rfl) ⟨c0, c1, trivial⟩
theorem p22_2 (n : Int) (k : Nat)
    (c0 : decide (n < 1) = false)
    (c1 : decide (64 < n) = false)
    (c2 : GrdW (0 < 1 ∧ 16 ≤ 64 ∧ (V.str []).cells.length = 1 ∧ 0 ≤ n ∧ n ≤ n ∧ n ≤ (↑maxLen' : Int)) (V.ref 36) [(36, Ob.row false 1 (List.replicate n.toNat (V.str [])))]) :
    callP (evalFn Try.prog Try.cfg (k + 1)) 22 [V.int IntKind.i64 n] = some (V.tup [V.agg [V.sl none false 1 (List.replicate n.toNat (V.str [])), V.sl (some true) true 0 []], V.int IntKind.i64 0]) :=
  byP [Hint.br 6 false, Hint.br 9 false, Hint.op 12 (V.ref 36) [(36, Ob.row false 1 (List.replicate n.toNat (V.str [])))]] ((decide (n < 1) = false) ∧ (decide (64 < n) = false) ∧ (GrdW (0 < 1 ∧ 16 ≤ 64 ∧ (V.str []).cells.length = 1 ∧ 0 ≤ n ∧ n ≤ n ∧ n ≤ (↑maxLen' : Int)) (V.ref 36) [(36, Ob.row false 1 (List.replicate n.toNat (V.str [])))]) ∧ True) (by kernel_rfl) ⟨c0, c1, c2, trivial⟩
theorem p24b_0 (n : Option Bool) (m : Option Bool) (c : Bool) (d : Bool) (xs : List V) (ys : List V) (v : Int) (w : Int) (a : Int) (t : List UInt8) (k : Nat)
    (c0 : decide ((↑xs.length : Int) < 1) = true) :
    callP (evalFn Try.prog Try.cfg (k + 1)) 24 [V.agg [V.sl n c 1 xs, V.sl m d 2 ys]] = some (V.bool false) :=
  byP [Hint.br 11 true] ((decide ((↑xs.length : Int) < 1) = true) ∧ True) (by kernel_rfl) ⟨c0, trivial⟩
theorem p24b_1 (n : Option Bool) (m : Option Bool) (c : Bool) (d : Bool) (xs : List V) (ys : List V) (v : Int) (w : Int) (a : Int) (t : List UInt8) (k : Nat)
    (c0 : decide ((↑xs.length : Int) < 1) = false)
    (c1 : decide (64 < (↑xs.length : Int)) = true) :
    callP (evalFn Try.prog Try.cfg (k + 1)) 24 [V.agg [V.sl n c 1 xs, V.sl m d 2 ys]] = some (V.bool false) :=
  byP [Hint.br 11 false, Hint.br 17 true] ((decide ((↑xs.length : Int) < 1) = false) ∧ (decide (64 < (↑xs.length : Int)) = true) ∧ True) (by kernel_rfl) ⟨c0, c1, trivial⟩
theorem p24b_2 (n : Option Bool) (m : Option Bool) (c : Bool) (d : Bool) (xs : List V) (ys : List V) (v : Int) (w : Int) (a : Int) (t : List UInt8) (k : Nat)
    (c0 : decide ((↑xs.length : Int) < 1) = false)
    (c1 : decide (64 < (↑xs.length : Int)) = false)
    (c2 : decide (60 < (↑ys.length : Int)) = true) :
    callP (evalFn Try.prog Try.cfg (k + 1)) 24 [V.agg [V.sl n c 1 xs, V.sl m d 2 ys]] = some (V.bool false) :=
  byP [Hint.br 11 false, Hint.br 17 false, Hint.br 22 true] ((decide ((↑xs.length : Int) < 1) = false) ∧ (decide (64 < (↑xs.length : Int)) = false) ∧ (decide (60 < (↑ys.length : Int)) = true) ∧ True) (by kernel_rfl) ⟨c0, c1, c2, trivial⟩
theorem p24b_3 (n : Option Bool) (m : Option Bool) (c : Bool) (d : Bool) (xs : List V) (ys : List V) (v : Int) (w : Int) (a : Int) (t : List UInt8) (k : Nat)
    (c0 : decide ((↑xs.length : Int) < 1) = false)
    (c1 : decide (64 < (↑xs.length : Int)) = false)
    (c2 : decide (60 < (↑ys.length : Int)) = false)
    (c3 : LoopsN Try.prog Try.cfg k 0 Try.f24 (Try.cfg.fc 24) 0 [0, 1, 2, 22, 24, 25, 26] k { tm := [(0, V.agg [V.sl n c 1 xs, V.sl m d 2 ys]), (1, V.ptr 0 0), (2, V.bool false), (22, V.bool false), (24, V.sl n c 1 xs), (25, V.int IntKind.i64 (↑xs.length : Int)), (26, V.int IntKind.i64 0)], hp := [(0, Ob.var [V.sl n c 1 xs, V.sl m d 2 ys])], nx := 1 } (Exit.exit 0, { tm := [(0, V.agg [V.sl n c 1 xs, V.sl m d 2 ys]), (1, V.ptr 0 0), (2, V.bool false), (22, V.bool false), (24, V.sl n c 1 xs), (25, V.int IntKind.i64 (↑xs.length : Int)), (26, V.int IntKind.i64 v), (27, V.bool false)], hp := [(0, Ob.var [V.sl n c 1 xs, V.sl m d 2 ys])], nx := 5 }))
    (c4 : LoopsN Try.prog Try.cfg k 0 Try.f24 (Try.cfg.fc 24) 1 [0, 1, 2, 22, 24, 25, 26, 27, 35, 36, 37] k { tm := [(0, V.agg [V.sl n c 1 xs, V.sl m d 2 ys]), (1, V.ptr 0 0), (2, V.bool false), (22, V.bool false), (24, V.sl n c 1 xs), (25, V.int IntKind.i64 (↑xs.length : Int)), (26, V.int IntKind.i64 v), (27, V.bool false), (35, V.sl m d 2 ys), (36, V.int IntKind.i64 (↑ys.length : Int)), (37, V.int IntKind.i64 0)], hp := [(0, Ob.var [V.sl n c 1 xs, V.sl m d 2 ys])], nx := 1 } (Exit.ret, { tm := [(0, V.agg [V.sl n c 1 xs, V.sl m d 2 ys]), (1, V.ptr 0 0), (2, V.bool false), (6, V.ptr 13 0), (22, V.bool false), (24, V.sl n c 1 xs), (25, V.int IntKind.i64 (↑xs.length : Int)), (26, V.int IntKind.i64 v), (27, V.bool false), (35, V.sl m d 2 ys), (36, V.int IntKind.i64 (↑ys.length : Int)), (37, V.int IntKind.i64 w), (38, V.bool true), (57, V.bool true)], hp := [(0, Ob.var [V.sl n c 1 xs, V.sl m d 2 ys]), (13, Ob.var [V.int IntKind.i64 a, V.str t])], nx := 93 })) :
    callP (evalFn Try.prog Try.cfg (k + 1)) 24 [V.agg [V.sl n c 1 xs, V.sl m d 2 ys]] = some (V.bool false) :=
  byP [Hint.br 11 false, Hint.br 17 false, Hint.br 22 false, Hint.loop (Exit.exit 0, { tm := [(0, V.agg [V.sl n c 1 xs, V.sl m d 2 ys]), (1, V.ptr 0 0), (2, V.bool false), (22, V.bool false), (24, V.sl n c 1 xs), (25, V.int IntKind.i64 (↑xs.length : Int)), (26, V.int IntKind.i64 v), (27, V.bool false)], hp := [(0, Ob.var [V.sl n c 1 xs, V.sl m d 2 ys])], nx := 5 }), Hint.loop (Exit.ret, { tm := [(0, V.agg [V.sl n c 1 xs, V.sl m d 2 ys]), (1, V.ptr 0 0), (2, V.bool false), (6, V.ptr 13 0), (22, V.bool false), (24, V.sl n c 1 xs), (25, V.int IntKind.i64 (↑xs.length : Int)), (26, V.int IntKind.i64 v), (27, V.bool false), (35, V.sl m d 2 ys), (36, V.int IntKind.i64 (↑ys.length : Int)), (37, V.int IntKind.i64 w), (38, V.bool true), (57, V.bool true)], hp := [(0, Ob.var [V.sl n c 1 xs, V.sl m d 2 ys]), (13, Ob.var [V.int IntKind.i64 a, V.str t])], nx := 93 })] ((decide ((↑xs.length : Int) < 1) = false) ∧ (decide (64 < (↑xs.length : Int)) = false) ∧ (decide (60 < (↑ys.length : Int)) = false) ∧ (LoopsN Try.prog Try.cfg k 0 Try.f24 (Try.cfg.fc 24) 0 [0, 1, 2, 22, 24, 25, 26] k { tm := [(0, V.agg [V.sl n c 1 xs, V.sl m d 2 ys]), (1, V.ptr 0 0), (2, V.bool false), (22, V.bool false), (24, V.sl n c 1 xs), (25, V.int IntKind.i64 (↑xs.length : Int)), (26, V.int IntKind.i64 0)], hp := [(0, Ob.var [V.sl n c 1 xs, V.sl m d 2 ys])], nx := 1 } (Exit.exit 0, { tm := [(0, V.agg [V.sl n c 1 xs, V.sl m d 2 ys]), (1, V.ptr 0 0), (2, V.bool false), (22, V.bool false), (24, V.sl n c 1 xs), (25, V.int IntKind.i64 (↑xs.length : Int)), (26, V.int IntKind.i64 v), (27, V.bool false)], hp := [(0, Ob.var [V.sl n c 1 xs, V.sl m d 2 ys])], nx := 5 })) ∧ (LoopsN Try.prog Try.cfg k 0 Try.f24 (Try.cfg.fc 24) 1 [0, 1, 2, 22, 24, 25, 26, 27, 35, 36, 37] k { tm := [(0, V.agg [V.sl n c 1 xs, V.sl m d 2 ys]), (1, V.ptr 0 0), (2, V.bool false), (22, V.bool false), (24, V.sl n c 1 xs), (25, V.int IntKind.i64 (↑xs.length : Int)), (26, V.int IntKind.i64 v), (27, V.bool false), (35, V.sl m d 2 ys), (36, V.int IntKind.i64 (↑ys.length : Int)), (37, V.int IntKind.i64 0)], hp := [(0, Ob.var [V.sl n c 1 xs, V.sl m d 2 ys])], nx := 1 } (Exit.ret, { tm := [(0, V.agg [V.sl n c 1 xs, V.sl m d 2 ys]), (1, V.ptr 0 0), (2, V.bool false), (6, V.ptr 13 0), (22, V.bool false), (24, V.sl n c 1 xs), (25, V.int IntKind.i64 (↑xs.length : Int)), (26, V.int IntKind.i64 v), (27, V.bool false), (35, V.sl m d 2 ys), (36, V.int IntKind.i64 (↑ys.length : Int)), (37, V.int IntKind.i64 w), (38, V.bool true), (57, V.bool true)], hp := [(0, Ob.var [V.sl n c 1 xs, V.sl m d 2 ys]), (13, Ob.var [V.int IntKind.i64 a, V.str t])], nx := 93 })) ∧ True) (by kernel_rfl) ⟨c0, c1, c2, c3, c4, trivial⟩
theorem p24c_0 (n : Option Bool) (m : Option Bool) (c : Bool) (d : Bool) (xs : List V) (ys : List V) (v : Int) (w : Int) (a : Int) (t : List UInt8) (k : Nat)
    (c0 : decide ((↑xs.length : Int) < 1) = true) :
    callP (evalFn Try.prog Try.cfg (k + 1)) 24 [V.agg [V.sl n c 1 xs, V.sl m d 2 ys]] = some (V.bool false) :=
  byP [Hint.br 11 true] ((decide ((↑xs.length : Int) < 1) = true) ∧ True) (by kernel_rfl) ⟨c0, trivial⟩
theorem p24c_1 (n : Option Bool) (m : Option Bool) (c : Bool) (d : Bool) (xs : List V) (ys : List V) (v : Int) (w : Int) (a : Int) (t : List UInt8) (k : Nat)
    (c0 : decide ((↑xs.length : Int) < 1) = false)
    (c1 : decide (64 < (↑xs.length : Int)) = true) :
    callP (evalFn Try.prog Try.cfg (k + 1)) 24 [V.agg [V.sl n c 1 xs, V.sl m d 2 ys]] = some (V.bool false) :=
  byP [Hint.br 11 false, Hint.br 17 true] ((decide ((↑xs.length : Int) < 1) = false) ∧ (decide (64 < (↑xs.length : Int)) = true) ∧ True) (by kernel_rfl) ⟨c0, c1, trivial⟩
theorem p24c_2 (n : Option Bool) (m : Option Bool) (c : Bool) (d : Bool) (xs : List V) (ys : List V) (v : Int) (w : Int) (a : Int) (t : List UInt8) (k : Nat)
    (c0 : decide ((↑xs.length : Int) < 1) = false)
    (c1 : decide (64 < (↑xs.length : Int)) = false)
    (c2 : decide (60 < (↑ys.length : Int)) = true) :
    callP (evalFn Try.prog Try.cfg (k + 1)) 24 [V.agg [V.sl n c 1 xs, V.sl m d 2 ys]] = some (V.bool false) :=
  byP [Hint.br 11 false, Hint.br 17 false, Hint.br 22 true] ((decide ((↑xs.length : Int) < 1) = false) ∧ (decide (64 < (↑xs.length : Int)) = false) ∧ (decide (60 < (↑ys.length : Int)) = true) ∧ True) (by kernel_rfl) ⟨c0, c1, c2, trivial⟩
theorem p24c_3 (n : Option Bool) (m : Option Bool) (c : Bool) (d : Bool) (xs : List V) (ys : List V) (v : Int) (w : Int) (a : Int) (t : List UInt8) (k : Nat)
    (c0 : decide ((↑xs.length : Int) < 1) = false)
    (c1 : decide (64 < (↑xs.length : Int)) = false)
    (c2 : decide (60 < (↑ys.length : Int)) = false)
    (c3 : LoopsN Try.prog Try.cfg k 0 Try.f24 (Try.cfg.fc 24) 0 [0, 1, 2, 22, 24, 25, 26] k { tm := [(0, V.agg [V.sl n c 1 xs, V.sl m d 2 ys]), (1, V.ptr 0 0), (2, V.bool false), (22, V.bool false), (24, V.sl n c 1 xs), (25, V.int IntKind.i64 (↑xs.length : Int)), (26, V.int IntKind.i64 0)], hp := [(0, Ob.var [V.sl n c 1 xs, V.sl m d 2 ys])], nx := 1 } (Exit.exit 0, { tm := [(0, V.agg [V.sl n c 1 xs, V.sl m d 2 ys]), (1, V.ptr 0 0), (2, V.bool false), (22, V.bool false), (24, V.sl n c 1 xs), (25, V.int IntKind.i64 (↑xs.length : Int)), (26, V.int IntKind.i64 v), (27, V.bool false)], hp := [(0, Ob.var [V.sl n c 1 xs, V.sl m d 2 ys])], nx := 5 }))
    (c4 : LoopsN Try.prog Try.cfg k 0 Try.f24 (Try.cfg.fc 24) 1 [0, 1, 2, 22, 24, 25, 26, 27, 35, 36, 37] k { tm := [(0, V.agg [V.sl n c 1 xs, V.sl m d 2 ys]), (1, V.ptr 0 0), (2, V.bool false), (22, V.bool false), (24, V.sl n c 1 xs), (25, V.int IntKind.i64 (↑xs.length : Int)), (26, V.int IntKind.i64 v), (27, V.bool false), (35, V.sl m d 2 ys), (36, V.int IntKind.i64 (↑ys.length : Int)), (37, V.int IntKind.i64 0)], hp := [(0, Ob.var [V.sl n c 1 xs, V.sl m d 2 ys])], nx := 1 } (Exit.ret, { tm := [(0, V.agg [V.sl n c 1 xs, V.sl m d 2 ys]), (1, V.ptr 0 0), (2, V.bool false), (6, V.ptr 13 0), (22, V.bool false), (24, V.sl n c 1 xs), (25, V.int IntKind.i64 (↑xs.length : Int)), (26, V.int IntKind.i64 v), (27, V.bool false), (35, V.sl m d 2 ys), (36, V.int IntKind.i64 (↑ys.length : Int)), (37, V.int IntKind.i64 w), (38, V.bool true), (57, V.bool true)], hp := [(0, Ob.var [V.sl n c 1 xs, V.sl m d 2 ys]), (13, Ob.var [V.int IntKind.i64 a, V.str t])], nx := 93 })) :
    callP (evalFn Try.prog Try.cfg (k + 1)) 24 [V.agg [V.sl n c 1 xs, V.sl m d 2 ys]] = some (V.bool false) :=
  byP [Hint.br 11 false, Hint.br 17 false, Hint.br 22 false, Hint.loop (Exit.exit 0, { tm := [(0, V.agg [V.sl n c 1 xs, V.sl m d 2 ys]), (1, V.ptr 0 0), (2, V.bool false), (22, V.bool false), (24, V.sl n c 1 xs), (25, V.int IntKind.i64 (↑xs.length : Int)), (26, V.int IntKind.i64 v), (27, V.bool false)], hp := [(0, Ob.var [V.sl n c 1 xs, V.sl m d 2 ys])], nx := 5 }), Hint.loop (Exit.ret, { tm := [(0, V.agg [V.sl n c 1 xs, V.sl m d 2 ys]), (1, V.ptr 0 0), (2, V.bool false), (6, V.ptr 13 0), (22, V.bool false), (24, V.sl n c 1 xs), (25, V.int IntKind.i64 (↑xs.length : Int)), (26, V.int IntKind.i64 v), (27, V.bool false), (35, V.sl m d 2 ys), (36, V.int IntKind.i64 (↑ys.length : Int)), (37, V.int IntKind.i64 w), (38, V.bool true), (57, V.bool true)], hp := [(0, Ob.var [V.sl n c 1 xs, V.sl m d 2 ys]), (13, Ob.var [V.int IntKind.i64 a, V.str t])], nx := 93 })] ((decide ((↑xs.length : Int) < 1) = false) ∧ (decide (64 < (↑xs.length : Int)) = false) ∧ (decide (60 < (↑ys.length : Int)) = false) ∧ (LoopsN Try.prog Try.cfg k 0 Try.f24 (Try.cfg.fc 24) 0 [0, 1, 2, 22, 24, 25, 26] k { tm := [(0, V.agg [V.sl n c 1 xs, V.sl m d 2 ys]), (1, V.ptr 0 0), (2, V.bool false), (22, V.bool false), (24, V.sl n c 1 xs), (25, V.int IntKind.i64 (↑xs.length : Int)), (26, V.int IntKind.i64 0)], hp := [(0, Ob.var [V.sl n c 1 xs, V.sl m d 2 ys])], nx := 1 } (Exit.exit 0, { tm := [(0, V.agg [V.sl n c 1 xs, V.sl m d 2 ys]), (1, V.ptr 0 0), (2, V.bool false), (22, V.bool false), (24, V.sl n c 1 xs), (25, V.int IntKind.i64 (↑xs.length : Int)), (26, V.int IntKind.i64 v), (27, V.bool false)], hp := [(0, Ob.var [V.sl n c 1 xs, V.sl m d 2 ys])], nx := 5 })) ∧ (LoopsN Try.prog Try.cfg k 0 Try.f24 (Try.cfg.fc 24) 1 [0, 1, 2, 22, 24, 25, 26, 27, 35, 36, 37] k { tm := [(0, V.agg [V.sl n c 1 xs, V.sl m d 2 ys]), (1, V.ptr 0 0), (2, V.bool false), (22, V.bool false), (24, V.sl n c 1 xs), (25, V.int IntKind.i64 (↑xs.length : Int)), (26, V.int IntKind.i64 v), (27, V.bool false), (35, V.sl m d 2 ys), (36, V.int IntKind.i64 (↑ys.length : Int)), (37, V.int IntKind.i64 0)], hp := [(0, Ob.var [V.sl n c 1 xs, V.sl m d 2 ys])], nx := 1 } (Exit.ret, { tm := [(0, V.agg [V.sl n c 1 xs, V.sl m d 2 ys]), (1, V.ptr 0 0), (2, V.bool false), (6, V.ptr 13 0), (22, V.bool false), (24, V.sl n c 1 xs), (25, V.int IntKind.i64 (↑xs.length : Int)), (26, V.int IntKind.i64 v), (27, V.bool false), (35, V.sl m d 2 ys), (36, V.int IntKind.i64 (↑ys.length : Int)), (37, V.int IntKind.i64 w), (38, V.bool true), (57, V.bool true)], hp := [(0, Ob.var [V.sl n c 1 xs, V.sl m d 2 ys]), (13, Ob.var [V.int IntKind.i64 a, V.str t])], nx := 93 })) ∧ True) (by kernel_rfl) ⟨c0, c1, c2, c3, c4, trivial⟩
theorem p24d_0 (n : Option Bool) (m : Option Bool) (c : Bool) (d : Bool) (xs : List V) (ys : List V) (v : Int) (w : Int) (a : Int) (t : List UInt8) (k : Nat)
    (c0 : decide ((↑xs.length : Int) < 1) = true) :
    callP (evalFn Try.prog Try.cfg (k + 1)) 24 [V.agg [V.sl n c 1 xs, V.sl m d 2 ys]] = some (V.bool false) :=
  byP [Hint.br 11 true] ((decide ((↑xs.length : Int) < 1) = true) ∧ True) (by kernel_rfl) ⟨c0, trivial⟩
theorem p24d_1 (n : Option Bool) (m : Option Bool) (c : Bool) (d : Bool) (xs : List V) (ys : List V) (v : Int) (w : Int) (a : Int) (t : List UInt8) (k : Nat)
    (c0 : decide ((↑xs.length : Int) < 1) = false)
    (c1 : decide (64 < (↑xs.length : Int)) = true) :
    callP (evalFn Try.prog Try.cfg (k + 1)) 24 [V.agg [V.sl n c 1 xs, V.sl m d 2 ys]] = some (V.bool false) :=
  byP [Hint.br 11 false, Hint.br 17 true] ((decide ((↑xs.length : Int) < 1) = false) ∧ (decide (64 < (↑xs.length : Int)) = true) ∧ True) (by kernel_rfl) ⟨c0, c1, trivial⟩
theorem p24d_2 (n : Option Bool) (m : Option Bool) (c : Bool) (d : Bool) (xs : List V) (ys : List V) (v : Int) (w : Int) (a : Int) (t : List UInt8) (k : Nat)
    (c0 : decide ((↑xs.length : Int) < 1) = false)
    (c1 : decide (64 < (↑xs.length : Int)) = false)
    (c2 : decide (60 < (↑ys.length : Int)) = true) :
    callP (evalFn Try.prog Try.cfg (k + 1)) 24 [V.agg [V.sl n c 1 xs, V.sl m d 2 ys]] = some (V.bool false) :=
  byP [Hint.br 11 false, Hint.br 17 false, Hint.br 22 true] ((decide ((↑xs.length : Int) < 1) = false) ∧ (decide (64 < (↑xs.length : Int)) = false) ∧ (decide (60 < (↑ys.length : Int)) = true) ∧ True) (by kernel_rfl) ⟨c0, c1, c2, trivial⟩
theorem p24d_3 (n : Option Bool) (m : Option Bool) (c : Bool) (d : Bool) (xs : List V) (ys : List V) (v : Int) (w : Int) (a : Int) (t : List UInt8) (k : Nat)
    (c0 : decide ((↑xs.length : Int) < 1) = false)
    (c1 : decide (64 < (↑xs.length : Int)) = false)
    (c2 : decide (60 < (↑ys.length : Int)) = false)
    (c3 : LoopsN Try.prog Try.cfg k 0 Try.f24 (Try.cfg.fc 24) 0 [0, 1, 2, 22, 24, 25, 26] k { tm := [(0, V.agg [V.sl n c 1 xs, V.sl m d 2 ys]), (1, V.ptr 0 0), (2, V.bool false), (22, V.bool false), (24, V.sl n c 1 xs), (25, V.int IntKind.i64 (↑xs.length : Int)), (26, V.int IntKind.i64 0)], hp := [(0, Ob.var [V.sl n c 1 xs, V.sl m d 2 ys])], nx := 1 } (Exit.exit 0, { tm := [(0, V.agg [V.sl n c 1 xs, V.sl m d 2 ys]), (1, V.ptr 0 0), (2, V.bool false), (22, V.bool false), (24, V.sl n c 1 xs), (25, V.int IntKind.i64 (↑xs.length : Int)), (26, V.int IntKind.i64 v), (27, V.bool false)], hp := [(0, Ob.var [V.sl n c 1 xs, V.sl m d 2 ys])], nx := 5 }))
    (c4 : LoopsN Try.prog Try.cfg k 0 Try.f24 (Try.cfg.fc 24) 1 [0, 1, 2, 22, 24, 25, 26, 27, 35, 36, 37] k { tm := [(0, V.agg [V.sl n c 1 xs, V.sl m d 2 ys]), (1, V.ptr 0 0), (2, V.bool false), (22, V.bool false), (24, V.sl n c 1 xs), (25, V.int IntKind.i64 (↑xs.length : Int)), (26, V.int IntKind.i64 v), (27, V.bool false), (35, V.sl m d 2 ys), (36, V.int IntKind.i64 (↑ys.length : Int)), (37, V.int IntKind.i64 0)], hp := [(0, Ob.var [V.sl n c 1 xs, V.sl m d 2 ys])], nx := 1 } (Exit.ret, { tm := [(0, V.agg [V.sl n c 1 xs, V.sl m d 2 ys]), (1, V.ptr 0 0), (2, V.bool false), (6, V.ptr 13 0), (22, V.bool false), (24, V.sl n c 1 xs), (25, V.int IntKind.i64 (↑xs.length : Int)), (26, V.int IntKind.i64 v), (27, V.bool false), (35, V.sl m d 2 ys), (36, V.int IntKind.i64 (↑ys.length : Int)), (37, V.int IntKind.i64 w), (38, V.bool true), (57, V.bool true)], hp := [(0, Ob.var [V.sl n c 1 xs, V.sl m d 2 ys]), (13, Ob.var [V.int IntKind.i64 a, V.str t])], nx := 93 })) :
    callP (evalFn Try.prog Try.cfg (k + 1)) 24 [V.agg [V.sl n c 1 xs, V.sl m d 2 ys]] = some (V.bool false) :=
  byP [Hint.br 11 false, Hint.br 17 false, Hint.br 22 false, Hint.loop (Exit.exit 0, { tm := [(0, V.agg [V.sl n c 1 xs, V.sl m d 2 ys]), (1, V.ptr 0 0), (2, V.bool false), (22, V.bool false), (24, V.sl n c 1 xs), (25, V.int IntKind.i64 (↑xs.length : Int)), (26, V.int IntKind.i64 v), (27, V.bool false)], hp := [(0, Ob.var [V.sl n c 1 xs, V.sl m d 2 ys])], nx := 5 }), Hint.loop (Exit.ret, { tm := [(0, V.agg [V.sl n c 1 xs, V.sl m d 2 ys]), (1, V.ptr 0 0), (2, V.bool false), (6, V.ptr 13 0), (22, V.bool false), (24, V.sl n c 1 xs), (25, V.int IntKind.i64 (↑xs.length : Int)), (26, V.int IntKind.i64 v), (27, V.bool false), (35, V.sl m d 2 ys), (36, V.int IntKind.i64 (↑ys.length : Int)), (37, V.int IntKind.i64 w), (38, V.bool true), (57, V.bool true)], hp := [(0, Ob.var [V.sl n c 1 xs, V.sl m d 2 ys]), (13, Ob.var [V.int IntKind.i64 a, V.str t])], nx := 93 })] ((decide ((↑xs.length : Int) < 1) = false) ∧ (decide (64 < (↑xs.length : Int)) = false) ∧ (decide (60 < (↑ys.length : Int)) = false) ∧ (LoopsN Try.prog Try.cfg k 0 Try.f24 (Try.cfg.fc 24) 0 [0, 1, 2, 22, 24, 25, 26] k { tm := [(0, V.agg [V.sl n c 1 xs, V.sl m d 2 ys]), (1, V.ptr 0 0), (2, V.bool false), (22, V.bool false), (24, V.sl n c 1 xs), (25, V.int IntKind.i64 (↑xs.length : Int)), (26, V.int IntKind.i64 0)], hp := [(0, Ob.var [V.sl n c 1 xs, V.sl m d 2 ys])], nx := 1 } (Exit.exit 0, { tm := [(0, V.agg [V.sl n c 1 xs, V.sl m d 2 ys]), (1, V.ptr 0 0), (2, V.bool false), (22, V.bool false), (24, V.sl n c 1 xs), (25, V.int IntKind.i64 (↑xs.length : Int)), (26, V.int IntKind.i64 v), (27, V.bool false)], hp := [(0, Ob.var [V.sl n c 1 xs, V.sl m d 2 ys])], nx := 5 })) ∧ (LoopsN Try.prog Try.cfg k 0 Try.f24 (Try.cfg.fc 24) 1 [0, 1, 2, 22, 24, 25, 26, 27, 35, 36, 37] k { tm := [(0, V.agg [V.sl n c 1 xs, V.sl m d 2 ys]), (1, V.ptr 0 0), (2, V.bool false), (22, V.bool false), (24, V.sl n c 1 xs), (25, V.int IntKind.i64 (↑xs.length : Int)), (26, V.int IntKind.i64 v), (27, V.bool false), (35, V.sl m d 2 ys), (36, V.int IntKind.i64 (↑ys.length : Int)), (37, V.int IntKind.i64 0)], hp := [(0, Ob.var [V.sl n c 1 xs, V.sl m d 2 ys])], nx := 1 } (Exit.ret, { tm := [(0, V.agg [V.sl n c 1 xs, V.sl m d 2 ys]), (1, V.ptr 0 0), (2, V.bool false), (6, V.ptr 13 0), (22, V.bool false), (24, V.sl n c 1 xs), (25, V.int IntKind.i64 (↑xs.length : Int)), (26, V.int IntKind.i64 v), (27, V.bool false), (35, V.sl m d 2 ys), (36, V.int IntKind.i64 (↑ys.length : Int)), (37, V.int IntKind.i64 w), (38, V.bool true), (57, V.bool true)], hp := [(0, Ob.var [V.sl n c 1 xs, V.sl m d 2 ys]), (13, Ob.var [V.int IntKind.i64 a, V.str t])], nx := 93 })) ∧ True) (by kernel_rfl) ⟨c0, c1, c2, c3, c4, trivial⟩
theorem p24e_0 (n : Option Bool) (m : Option Bool) (c : Bool) (d : Bool) (xs : List V) (ys : List V) (v : Int) (w : Int) (k : Nat)
    (c0 : decide ((↑xs.length : Int) < 1) = true) :
    callP (evalFn Try.prog Try.cfg (k + 1)) 24 [V.agg [V.sl n c 1 xs, V.sl m d 2 ys]] = some (V.bool false) :=
  byP [Hint.br 11 true] ((decide ((↑xs.length : Int) < 1) = true) ∧ True) (by kernel_rfl) ⟨c0, trivial⟩
theorem p24e_1 (n : Option Bool) (m : Option Bool) (c : Bool) (d : Bool) (xs : List V) (ys : List V) (v : Int) (w : Int) (k : Nat)
    (c0 : decide ((↑xs.length : Int) < 1) = false)
    (c1 : decide (64 < (↑xs.length : Int)) = true) :
    callP (evalFn Try.prog Try.cfg (k + 1)) 24 [V.agg [V.sl n c 1 xs, V.sl m d 2 ys]] = some (V.bool false) :=
  byP [Hint.br 11 false, Hint.br 17 true] ((decide ((↑xs.length : Int) < 1) = false) ∧ (decide (64 < (↑xs.length : Int)) = true) ∧ True) (by kernel_rfl) ⟨c0, c1, trivial⟩
theorem p24e_2 (n : Option Bool) (m : Option Bool) (c : Bool) (d : Bool) (xs : List V) (ys : List V) (v : Int) (w : Int) (k : Nat)
    (c0 : decide ((↑xs.length : Int) < 1) = false)
    (c1 : decide (64 < (↑xs.length : Int)) = false)
    (c2 : decide (60 < (↑ys.length : Int)) = true) :
    callP (evalFn Try.prog Try.cfg (k + 1)) 24 [V.agg [V.sl n c 1 xs, V.sl m d 2 ys]] = some (V.bool false) :=
  byP [Hint.br 11 false, Hint.br 17 false, Hint.br 22 true] ((decide ((↑xs.length : Int) < 1) = false) ∧ (decide (64 < (↑xs.length : Int)) = false) ∧ (decide (60 < (↑ys.length : Int)) = true) ∧ True) (by kernel_rfl) ⟨c0, c1, c2, trivial⟩
theorem p24e_3 (n : Option Bool) (m : Option Bool) (c : Bool) (d : Bool) (xs : List V) (ys : List V) (v : Int) (w : Int) (k : Nat)
    (c0 : decide ((↑xs.length : Int) < 1) = false)
    (c1 : decide (64 < (↑xs.length : Int)) = false)
    (c2 : decide (60 < (↑ys.length : Int)) = false)
    (c3 : LoopsN Try.prog Try.cfg k 0 Try.f24 (Try.cfg.fc 24) 0 [0, 1, 2, 22, 24, 25, 26] k { tm := [(0, V.agg [V.sl n c 1 xs, V.sl m d 2 ys]), (1, V.ptr 0 0), (2, V.bool false), (22, V.bool false), (24, V.sl n c 1 xs), (25, V.int IntKind.i64 (↑xs.length : Int)), (26, V.int IntKind.i64 0)], hp := [(0, Ob.var [V.sl n c 1 xs, V.sl m d 2 ys])], nx := 1 } (Exit.exit 0, { tm := [(0, V.agg [V.sl n c 1 xs, V.sl m d 2 ys]), (1, V.ptr 0 0), (2, V.bool false), (22, V.bool false), (24, V.sl n c 1 xs), (25, V.int IntKind.i64 (↑xs.length : Int)), (26, V.int IntKind.i64 v), (27, V.bool false)], hp := [(0, Ob.var [V.sl n c 1 xs, V.sl m d 2 ys])], nx := 5 }))
    (c4 : LoopsN Try.prog Try.cfg k 0 Try.f24 (Try.cfg.fc 24) 1 [0, 1, 2, 22, 24, 25, 26, 27, 35, 36, 37] k { tm := [(0, V.agg [V.sl n c 1 xs, V.sl m d 2 ys]), (1, V.ptr 0 0), (2, V.bool false), (22, V.bool false), (24, V.sl n c 1 xs), (25, V.int IntKind.i64 (↑xs.length : Int)), (26, V.int IntKind.i64 v), (27, V.bool false), (35, V.sl m d 2 ys), (36, V.int IntKind.i64 (↑ys.length : Int)), (37, V.int IntKind.i64 0)], hp := [(0, Ob.var [V.sl n c 1 xs, V.sl m d 2 ys])], nx := 1 } (Exit.exit 2, { tm := [(0, V.agg [V.sl n c 1 xs, V.sl m d 2 ys]), (1, V.ptr 0 0), (2, V.bool false), (22, V.bool false), (24, V.sl n c 1 xs), (25, V.int IntKind.i64 (↑xs.length : Int)), (26, V.int IntKind.i64 v), (27, V.bool false), (35, V.sl m d 2 ys), (36, V.int IntKind.i64 (↑ys.length : Int)), (37, V.int IntKind.i64 w), (38, V.bool false)], hp := [(0, Ob.var [V.sl n c 1 xs, V.sl m d 2 ys])], nx := 5 })) :
    callP (evalFn Try.prog Try.cfg (k + 1)) 24 [V.agg [V.sl n c 1 xs, V.sl m d 2 ys]] = some (V.bool true) :=
  byP [Hint.br 11 false, Hint.br 17 false, Hint.br 22 false, Hint.loop (Exit.exit 0, { tm := [(0, V.agg [V.sl n c 1 xs, V.sl m d 2 ys]), (1, V.ptr 0 0), (2, V.bool false), (22, V.bool false), (24, V.sl n c 1 xs), (25, V.int IntKind.i64 (↑xs.length : Int)), (26, V.int IntKind.i64 v), (27, V.bool false)], hp := [(0, Ob.var [V.sl n c 1 xs, V.sl m d 2 ys])], nx := 5 }), Hint.loop (Exit.exit 2, { tm := [(0, V.agg [V.sl n c 1 xs, V.sl m d 2 ys]), (1, V.ptr 0 0), (2, V.bool false), (22, V.bool false), (24, V.sl n c 1 xs), (25, V.int IntKind.i64 (↑xs.length : Int)), (26, V.int IntKind.i64 v), (27, V.bool false), (35, V.sl m d 2 ys), (36, V.int IntKind.i64 (↑ys.length : Int)), (37, V.int IntKind.i64 w), (38, V.bool false)], hp := [(0, Ob.var [V.sl n c 1 xs, V.sl m d 2 ys])], nx := 5 })] ((decide ((↑xs.length : Int) < 1) = false) ∧ (decide (64 < (↑xs.length : Int)) = false) ∧ (decide (60 < (↑ys.length : Int)) = false) ∧ (LoopsN Try.prog Try.cfg k 0 Try.f24 (Try.cfg.fc 24) 0 [0, 1, 2, 22, 24, 25, 26] k { tm := [(0, V.agg [V.sl n c 1 xs, V.sl m d 2 ys]), (1, V.ptr 0 0), (2, V.bool false), (22, V.bool false), (24, V.sl n c 1 xs), (25, V.int IntKind.i64 (↑xs.length : Int)), (26, V.int IntKind.i64 0)], hp := [(0, Ob.var [V.sl n c 1 xs, V.sl m d 2 ys])], nx := 1 } (Exit.exit 0, { tm := [(0, V.agg [V.sl n c 1 xs, V.sl m d 2 ys]), (1, V.ptr 0 0), (2, V.bool false), (22, V.bool false), (24, V.sl n c 1 xs), (25, V.int IntKind.i64 (↑xs.length : Int)), (26, V.int IntKind.i64 v), (27, V.bool false)], hp := [(0, Ob.var [V.sl n c 1 xs, V.sl m d 2 ys])], nx := 5 })) ∧ (LoopsN Try.prog Try.cfg k 0 Try.f24 (Try.cfg.fc 24) 1 [0, 1, 2, 22, 24, 25, 26, 27, 35, 36, 37] k { tm := [(0, V.agg [V.sl n c 1 xs, V.sl m d 2 ys]), (1, V.ptr 0 0), (2, V.bool false), (22, V.bool false), (24, V.sl n c 1 xs), (25, V.int IntKind.i64 (↑xs.length : Int)), (26, V.int IntKind.i64 v), (27, V.bool false), (35, V.sl m d 2 ys), (36, V.int IntKind.i64 (↑ys.length : Int)), (37, V.int IntKind.i64 0)], hp := [(0, Ob.var [V.sl n c 1 xs, V.sl m d 2 ys])], nx := 1 } (Exit.exit 2, { tm := [(0, V.agg [V.sl n c 1 xs, V.sl m d 2 ys]), (1, V.ptr 0 0), (2, V.bool false), (22, V.bool false), (24, V.sl n c 1 xs), (25, V.int IntKind.i64 (↑xs.length : Int)), (26, V.int IntKind.i64 v), (27, V.bool false), (35, V.sl m d 2 ys), (36, V.int IntKind.i64 (↑ys.length : Int)), (37, V.int IntKind.i64 w), (38, V.bool false)], hp := [(0, Ob.var [V.sl n c 1 xs, V.sl m d 2 ys])], nx := 5 })) ∧ True) (by kernel_rfl) ⟨c0, c1, c2, c3, c4, trivial⟩
theorem p19b_0 (n : Option Bool) (m : Option Bool) (c : Bool) (d : Bool) (xs : List V) (ys : List V) (nb : Option Bool) (mb : Option Bool) (cb : Bool) (db : Bool) (xs2 : List V) (ys2 : List V) (v : Int) (w : Int) (k : Nat)
    (c0 : (!decide ((↑xs.length : Int) = (↑xs2.length : Int))) = true) :
    callP (evalFn Try.prog Try.cfg (k + 1)) 19 [V.agg [V.sl n c 1 xs, V.sl m d 2 ys], V.agg [V.sl nb cb 1 xs2, V.sl mb db 2 ys2]] = some (V.bool false) :=
  byP [Hint.br 14 true] (((!decide ((↑xs.length : Int) = (↑xs2.length : Int))) = true) ∧ True) (by kernel_rfl) ⟨c0, trivial⟩
theorem p19b_1 (n : Option Bool) (m : Option Bool) (c : Bool) (d : Bool) (xs : List V) (ys : List V) (nb : Option Bool) (mb : Option Bool) (cb : Bool) (db : Bool) (xs2 : List V) (ys2 : List V) (v : Int) (w : Int) (k : Nat)
    (c0 : (!decide ((↑xs.length : Int) = (↑xs2.length : Int))) = false)
    (c1 : (!decide ((↑ys.length : Int) = (↑ys2.length : Int))) = true) :
    callP (evalFn Try.prog Try.cfg (k + 1)) 19 [V.agg [V.sl n c 1 xs, V.sl m d 2 ys], V.agg [V.sl nb cb 1 xs2, V.sl mb db 2 ys2]] = some (V.bool false) :=
  byP [Hint.br 14 false, Hint.br 22 true] (((!decide ((↑xs.length : Int) = (↑xs2.length : Int))) = false) ∧ ((!decide ((↑ys.length : Int) = (↑ys2.length : Int))) = true) ∧ True) (by kernel_rfl) ⟨c0, c1, trivial⟩
theorem p19b_2 (n : Option Bool) (m : Option Bool) (c : Bool) (d : Bool) (xs : List V) (ys : List V) (nb : Option Bool) (mb : Option Bool) (cb : Bool) (db : Bool) (xs2 : List V) (ys2 : List V) (v : Int) (w : Int) (k : Nat)
    (c0 : (!decide ((↑xs.length : Int) = (↑xs2.length : Int))) = false)
    (c1 : (!decide ((↑ys.length : Int) = (↑ys2.length : Int))) = false)
    (c2 : LoopsN Try.prog Try.cfg k 0 Try.f19 (Try.cfg.fc 19) 0 [0, 1, 2, 3, 4, 22, 25, 26] k { tm := [(0, V.agg [V.sl n c 1 xs, V.sl m d 2 ys]), (1, V.agg [V.sl nb cb 1 xs2, V.sl mb db 2 ys2]), (2, V.ptr 0 0), (3, V.ptr 1 0), (4, V.bool false), (22, V.bool false), (25, V.int IntKind.i64 (↑xs.length : Int)), (26, V.int IntKind.i64 0)], hp := [(0, Ob.var [V.sl n c 1 xs, V.sl m d 2 ys]), (1, Ob.var [V.sl nb cb 1 xs2, V.sl mb db 2 ys2])], nx := 2 } (Exit.exit 0, { tm := [(0, V.agg [V.sl n c 1 xs, V.sl m d 2 ys]), (1, V.agg [V.sl nb cb 1 xs2, V.sl mb db 2 ys2]), (2, V.ptr 0 0), (3, V.ptr 1 0), (4, V.bool false), (22, V.bool false), (25, V.int IntKind.i64 (↑xs.length : Int)), (26, V.int IntKind.i64 v), (27, V.bool false)], hp := [(0, Ob.var [V.sl n c 1 xs, V.sl m d 2 ys]), (1, Ob.var [V.sl nb cb 1 xs2, V.sl mb db 2 ys2])], nx := 6 }))
    (c3 : LoopsN Try.prog Try.cfg k 0 Try.f19 (Try.cfg.fc 19) 1 [0, 1, 2, 3, 4, 22, 25, 26, 27, 43, 44] k { tm := [(0, V.agg [V.sl n c 1 xs, V.sl m d 2 ys]), (1, V.agg [V.sl nb cb 1 xs2, V.sl mb db 2 ys2]), (2, V.ptr 0 0), (3, V.ptr 1 0), (4, V.bool false), (22, V.bool false), (25, V.int IntKind.i64 (↑xs.length : Int)), (26, V.int IntKind.i64 v), (27, V.bool false), (43, V.int IntKind.i64 (↑ys.length : Int)), (44, V.int IntKind.i64 0)], hp := [(0, Ob.var [V.sl n c 1 xs, V.sl m d 2 ys]), (1, Ob.var [V.sl nb cb 1 xs2, V.sl mb db 2 ys2])], nx := 2 } (Exit.ret, { tm := [(0, V.agg [V.sl n c 1 xs, V.sl m d 2 ys]), (1, V.agg [V.sl nb cb 1 xs2, V.sl mb db 2 ys2]), (2, V.ptr 0 0), (3, V.ptr 1 0), (4, V.bool false), (6, V.int IntKind.i64 w), (22, V.bool false), (25, V.int IntKind.i64 (↑xs.length : Int)), (26, V.int IntKind.i64 v), (27, V.bool false), (43, V.int IntKind.i64 (↑ys.length : Int)), (44, V.int IntKind.i64 w), (45, V.bool true), (57, V.bool true)], hp := [(0, Ob.var [V.sl n c 1 xs, V.sl m d 2 ys]), (1, Ob.var [V.sl nb cb 1 xs2, V.sl mb db 2 ys2])], nx := 62 })) :
    callP (evalFn Try.prog Try.cfg (k + 1)) 19 [V.agg [V.sl n c 1 xs, V.sl m d 2 ys], V.agg [V.sl nb cb 1 xs2, V.sl mb db 2 ys2]] = some (V.bool false) :=
  byP [Hint.br 14 false, Hint.br 22 false, Hint.loop (Exit.exit 0, { tm := [(0, V.agg [V.sl n c 1 xs, V.sl m d 2 ys]), (1, V.agg [V.sl nb cb 1 xs2, V.sl mb db 2 ys2]), (2, V.ptr 0 0), (3, V.ptr 1 0), (4, V.bool false), (22, V.bool false), (25, V.int IntKind.i64 (↑xs.length : Int)), (26, V.int IntKind.i64 v), (27, V.bool false)], hp := [(0, Ob.var [V.sl n c 1 xs, V.sl m d 2 ys]), (1, Ob.var [V.sl nb cb 1 xs2, V.sl mb db 2 ys2])], nx := 6 }), Hint.loop (Exit.ret, { tm := [(0, V.agg [V.sl n c 1 xs, V.sl m d 2 ys]), (1, V.agg [V.sl nb cb 1 xs2, V.sl mb db 2 ys2]), (2, V.ptr 0 0), (3, V.ptr 1 0), (4, V.bool false), (6, V.int IntKind.i64 w), (22, V.bool false), (25, V.int IntKind.i64 (↑xs.length : Int)), (26, V.int IntKind.i64 v), (27, V.bool false), (43, V.int IntKind.i64 (↑ys.length : Int)), (44, V.int IntKind.i64 w), (45, V.bool true), (57, V.bool true)], hp := [(0, Ob.var [V.sl n c 1 xs, V.sl m d 2 ys]), (1, Ob.var [V.sl nb cb 1 xs2, V.sl mb db 2 ys2])], nx := 62 })] (((!decide ((↑xs.length : Int) = (↑xs2.length : Int))) = false) ∧ ((!decide ((↑ys.length : Int) = (↑ys2.length : Int))) = false) ∧ (LoopsN Try.prog Try.cfg k 0 Try.f19 (Try.cfg.fc 19) 0 [0, 1, 2, 3, 4, 22, 25, 26] k { tm := [(0, V.agg [V.sl n c 1 xs, V.sl m d 2 ys]), (1, V.agg [V.sl nb cb 1 xs2, V.sl mb db 2 ys2]), (2, V.ptr 0 0), (3, V.ptr 1 0), (4, V.bool false), (22, V.bool false), (25, V.int IntKind.i64 (↑xs.length : Int)), (26, V.int IntKind.i64 0)], hp := [(0, Ob.var [V.sl n c 1 xs, V.sl m d 2 ys]), (1, Ob.var [V.sl nb cb 1 xs2, V.sl mb db 2 ys2])], nx := 2 } (Exit.exit 0, { tm := [(0, V.agg [V.sl n c 1 xs, V.sl m d 2 ys]), (1, V.agg [V.sl nb cb 1 xs2, V.sl mb db 2 ys2]), (2, V.ptr 0 0), (3, V.ptr 1 0), (4, V.bool false), (22, V.bool false), (25, V.int IntKind.i64 (↑xs.length : Int)), (26, V.int IntKind.i64 v), (27, V.bool false)], hp := [(0, Ob.var [V.sl n c 1 xs, V.sl m d 2 ys]), (1, Ob.var [V.sl nb cb 1 xs2, V.sl mb db 2 ys2])], nx := 6 })) ∧ (LoopsN Try.prog Try.cfg k 0 Try.f19 (Try.cfg.fc 19) 1 [0, 1, 2, 3, 4, 22, 25, 26, 27, 43, 44] k { tm := [(0, V.agg [V.sl n c 1 xs, V.sl m d 2 ys]), (1, V.agg [V.sl nb cb 1 xs2, V.sl mb db 2 ys2]), (2, V.ptr 0 0), (3, V.ptr 1 0), (4, V.bool false), (22, V.bool false), (25, V.int IntKind.i64 (↑xs.length : Int)), (26, V.int IntKind.i64 v), (27, V.bool false), (43, V.int IntKind.i64 (↑ys.length : Int)), (44, V.int IntKind.i64 0)], hp := [(0, Ob.var [V.sl n c 1 xs, V.sl m d 2 ys]), (1, Ob.var [V.sl nb cb 1 xs2, V.sl mb db 2 ys2])], nx := 2 } (Exit.ret, { tm := [(0, V.agg [V.sl n c 1 xs, V.sl m d 2 ys]), (1, V.agg [V.sl nb cb 1 xs2, V.sl mb db 2 ys2]), (2, V.ptr 0 0), (3, V.ptr 1 0), (4, V.bool false), (6, V.int IntKind.i64 w), (22, V.bool false), (25, V.int IntKind.i64 (↑xs.length : Int)), (26, V.int IntKind.i64 v), (27, V.bool false), (43, V.int IntKind.i64 (↑ys.length : Int)), (44, V.int IntKind.i64 w), (45, V.bool true), (57, V.bool true)], hp := [(0, Ob.var [V.sl n c 1 xs, V.sl m d 2 ys]), (1, Ob.var [V.sl nb cb 1 xs2, V.sl mb db 2 ys2])], nx := 62 })) ∧ True) (by kernel_rfl) ⟨c0, c1, c2, c3, trivial⟩
theorem p19c_0 (n : Option Bool) (m : Option Bool) (c : Bool) (d : Bool) (xs : List V) (ys : List V) (nb : Option Bool) (mb : Option Bool) (cb : Bool) (db : Bool) (xs2 : List V) (ys2 : List V) (v : Int) (w : Int) (k : Nat)
    (c0 : (!decide ((↑xs.length : Int) = (↑xs2.length : Int))) = true) :
    callP (evalFn Try.prog Try.cfg (k + 1)) 19 [V.agg [V.sl n c 1 xs, V.sl m d 2 ys], V.agg [V.sl nb cb 1 xs2, V.sl mb db 2 ys2]] = some (V.bool false) :=
  byP [Hint.br 14 true] (((!decide ((↑xs.length : Int) = (↑xs2.length : Int))) = true) ∧ True) (by kernel_rfl) ⟨c0, trivial⟩
theorem p19c_1 (n : Option Bool) (m : Option Bool) (c : Bool) (d : Bool) (xs : List V) (ys : List V) (nb : Option Bool) (mb : Option Bool) (cb : Bool) (db : Bool) (xs2 : List V) (ys2 : List V) (v : Int) (w : Int) (k : Nat)
    (c0 : (!decide ((↑xs.length : Int) = (↑xs2.length : Int))) = false)
    (c1 : (!decide ((↑ys.length : Int) = (↑ys2.length : Int))) = true) :
    callP (evalFn Try.prog Try.cfg (k + 1)) 19 [V.agg [V.sl n c 1 xs, V.sl m d 2 ys], V.agg [V.sl nb cb 1 xs2, V.sl mb db 2 ys2]] = some (V.bool false) :=
  byP [Hint.br 14 false, Hint.br 22 true] (((!decide ((↑xs.length : Int) = (↑xs2.length : Int))) = false) ∧ ((!decide ((↑ys.length : Int) = (↑ys2.length : Int))) = true) ∧ True) (by kernel_rfl) ⟨c0, c1, trivial⟩
theorem p19c_2 (n : Option Bool) (m : Option Bool) (c : Bool) (d : Bool) (xs : List V) (ys : List V) (nb : Option Bool) (mb : Option Bool) (cb : Bool) (db : Bool) (xs2 : List V) (ys2 : List V) (v : Int) (w : Int) (k : Nat)
    (c0 : (!decide ((↑xs.length : Int) = (↑xs2.length : Int))) = false)
    (c1 : (!decide ((↑ys.length : Int) = (↑ys2.length : Int))) = false)
    (c2 : LoopsN Try.prog Try.cfg k 0 Try.f19 (Try.cfg.fc 19) 0 [0, 1, 2, 3, 4, 22, 25, 26] k { tm := [(0, V.agg [V.sl n c 1 xs, V.sl m d 2 ys]), (1, V.agg [V.sl nb cb 1 xs2, V.sl mb db 2 ys2]), (2, V.ptr 0 0), (3, V.ptr 1 0), (4, V.bool false), (22, V.bool false), (25, V.int IntKind.i64 (↑xs.length : Int)), (26, V.int IntKind.i64 0)], hp := [(0, Ob.var [V.sl n c 1 xs, V.sl m d 2 ys]), (1, Ob.var [V.sl nb cb 1 xs2, V.sl mb db 2 ys2])], nx := 2 } (Exit.exit 0, { tm := [(0, V.agg [V.sl n c 1 xs, V.sl m d 2 ys]), (1, V.agg [V.sl nb cb 1 xs2, V.sl mb db 2 ys2]), (2, V.ptr 0 0), (3, V.ptr 1 0), (4, V.bool false), (22, V.bool false), (25, V.int IntKind.i64 (↑xs.length : Int)), (26, V.int IntKind.i64 v), (27, V.bool false)], hp := [(0, Ob.var [V.sl n c 1 xs, V.sl m d 2 ys]), (1, Ob.var [V.sl nb cb 1 xs2, V.sl mb db 2 ys2])], nx := 6 }))
    (c3 : LoopsN Try.prog Try.cfg k 0 Try.f19 (Try.cfg.fc 19) 1 [0, 1, 2, 3, 4, 22, 25, 26, 27, 43, 44] k { tm := [(0, V.agg [V.sl n c 1 xs, V.sl m d 2 ys]), (1, V.agg [V.sl nb cb 1 xs2, V.sl mb db 2 ys2]), (2, V.ptr 0 0), (3, V.ptr 1 0), (4, V.bool false), (22, V.bool false), (25, V.int IntKind.i64 (↑xs.length : Int)), (26, V.int IntKind.i64 v), (27, V.bool false), (43, V.int IntKind.i64 (↑ys.length : Int)), (44, V.int IntKind.i64 0)], hp := [(0, Ob.var [V.sl n c 1 xs, V.sl m d 2 ys]), (1, Ob.var [V.sl nb cb 1 xs2, V.sl mb db 2 ys2])], nx := 2 } (Exit.exit 2, { tm := [(0, V.agg [V.sl n c 1 xs, V.sl m d 2 ys]), (1, V.agg [V.sl nb cb 1 xs2, V.sl mb db 2 ys2]), (2, V.ptr 0 0), (3, V.ptr 1 0), (4, V.bool false), (22, V.bool false), (25, V.int IntKind.i64 (↑xs.length : Int)), (26, V.int IntKind.i64 v), (27, V.bool false), (43, V.int IntKind.i64 (↑ys.length : Int)), (44, V.int IntKind.i64 w), (45, V.bool false)], hp := [(0, Ob.var [V.sl n c 1 xs, V.sl m d 2 ys]), (1, Ob.var [V.sl nb cb 1 xs2, V.sl mb db 2 ys2])], nx := 6 })) :
    callP (evalFn Try.prog Try.cfg (k + 1)) 19 [V.agg [V.sl n c 1 xs, V.sl m d 2 ys], V.agg [V.sl nb cb 1 xs2, V.sl mb db 2 ys2]] = some (V.bool true) :=
  byP [Hint.br 14 false, Hint.br 22 false, Hint.loop (Exit.exit 0, { tm := [(0, V.agg [V.sl n c 1 xs, V.sl m d 2 ys]), (1, V.agg [V.sl nb cb 1 xs2, V.sl mb db 2 ys2]), (2, V.ptr 0 0), (3, V.ptr 1 0), (4, V.bool false), (22, V.bool false), (25, V.int IntKind.i64 (↑xs.length : Int)), (26, V.int IntKind.i64 v), (27, V.bool false)], hp := [(0, Ob.var [V.sl n c 1 xs, V.sl m d 2 ys]), (1, Ob.var [V.sl nb cb 1 xs2, V.sl mb db 2 ys2])], nx := 6 }), Hint.loop (Exit.exit 2, { tm := [(0, V.agg [V.sl n c 1 xs, V.sl m d 2 ys]), (1, V.agg [V.sl nb cb 1 xs2, V.sl mb db 2 ys2]), (2, V.ptr 0 0), (3, V.ptr 1 0), (4, V.bool false), (22, V.bool false), (25, V.int IntKind.i64 (↑xs.length : Int)), (26, V.int IntKind.i64 v), (27, V.bool false), (43, V.int IntKind.i64 (↑ys.length : Int)), (44, V.int IntKind.i64 w), (45, V.bool false)], hp := [(0, Ob.var [V.sl n c 1 xs, V.sl m d 2 ys]), (1, Ob.var [V.sl nb cb 1 xs2, V.sl mb db 2 ys2])], nx := 6 })] (((!decide ((↑xs.length : Int) = (↑xs2.length : Int))) = false) ∧ ((!decide ((↑ys.length : Int) = (↑ys2.length : Int))) = false) ∧ (LoopsN Try.prog Try.cfg k 0 Try.f19 (Try.cfg.fc 19) 0 [0, 1, 2, 3, 4, 22, 25, 26] k { tm := [(0, V.agg [V.sl n c 1 xs, V.sl m d 2 ys]), (1, V.agg [V.sl nb cb 1 xs2, V.sl mb db 2 ys2]), (2, V.ptr 0 0), (3, V.ptr 1 0), (4, V.bool false), (22, V.bool false), (25, V.int IntKind.i64 (↑xs.length : Int)), (26, V.int IntKind.i64 0)], hp := [(0, Ob.var [V.sl n c 1 xs, V.sl m d 2 ys]), (1, Ob.var [V.sl nb cb 1 xs2, V.sl mb db 2 ys2])], nx := 2 } (Exit.exit 0, { tm := [(0, V.agg [V.sl n c 1 xs, V.sl m d 2 ys]), (1, V.agg [V.sl nb cb 1 xs2, V.sl mb db 2 ys2]), (2, V.ptr 0 0), (3, V.ptr 1 0), (4, V.bool false), (22, V.bool false), (25, V.int IntKind.i64 (↑xs.length : Int)), (26, V.int IntKind.i64 v), (27, V.bool false)], hp := [(0, Ob.var [V.sl n c 1 xs, V.sl m d 2 ys]), (1, Ob.var [V.sl nb cb 1 xs2, V.sl mb db 2 ys2])], nx := 6 })) ∧ (LoopsN Try.prog Try.cfg k 0 Try.f19 (Try.cfg.fc 19) 1 [0, 1, 2, 3, 4, 22, 25, 26, 27, 43, 44] k { tm := [(0, V.agg [V.sl n c 1 xs, V.sl m d 2 ys]), (1, V.agg [V.sl nb cb 1 xs2, V.sl mb db 2 ys2]), (2, V.ptr 0 0), (3, V.ptr 1 0), (4, V.bool false), (22, V.bool false), (25, V.int IntKind.i64 (↑xs.length : Int)), (26, V.int IntKind.i64 v), (27, V.bool false), (43, V.int IntKind.i64 (↑ys.length : Int)), (44, V.int IntKind.i64 0)], hp := [(0, Ob.var [V.sl n c 1 xs, V.sl m d 2 ys]), (1, Ob.var [V.sl nb cb 1 xs2, V.sl mb db 2 ys2])], nx := 2 } (Exit.exit 2, { tm := [(0, V.agg [V.sl n c 1 xs, V.sl m d 2 ys]), (1, V.agg [V.sl nb cb 1 xs2, V.sl mb db 2 ys2]), (2, V.ptr 0 0), (3, V.ptr 1 0), (4, V.bool false), (22, V.bool false), (25, V.int IntKind.i64 (↑xs.length : Int)), (26, V.int IntKind.i64 v), (27, V.bool false), (43, V.int IntKind.i64 (↑ys.length : Int)), (44, V.int IntKind.i64 w), (45, V.bool false)], hp := [(0, Ob.var [V.sl n c 1 xs, V.sl m d 2 ys]), (1, Ob.var [V.sl nb cb 1 xs2, V.sl mb db 2 ys2])], nx := 6 })) ∧ True) (by kernel_rfl) ⟨c0, c1, c2, c3, trivial⟩
theorem p23a_0 (n : Option Bool) (m : Option Bool) (c : Bool) (d : Bool) (xs : List V) (ys : List V) (a : Int) (t : List UInt8) (k : Nat)
    (c0 : decide (1 ≤ (↑xs.length : Int)) = true)
    (c1 : decide ((↑xs.length : Int) ≤ 64) = true)
    (c2 : decide ((↑ys.length : Int) ≤ 60) = true)
    (c3 : callP (evalFn Try.prog Try.cfg k) 64 [V.sl n c 1 xs, V.fn (Fn.func 62) [] []] = some (V.bool (xs.any longV)))
    (c4 : (!xs.any longV) = true)
    (c5 : evalFn Try.prog Try.cfg k 65 [V.sl m d 2 ys, V.fn (Fn.func 63) [] [V.ptr 0 0, V.ptr 8 0]] [(0, Ob.var [V.sl n c 1 xs, V.sl m d 2 ys]), (8, Ob.var [V.fn (Fn.func 62) [] []])] 132 = some (V.bool true, [(0, Ob.var [V.sl n c 1 xs, V.sl m d 2 ys]), (8, Ob.var [V.fn (Fn.func 62) [] []]), (176, Ob.var [V.int IntKind.i64 a, V.str t])], 272)) :
    callP (evalFn Try.prog Try.cfg (k + 1)) 23 [V.agg [V.sl n c 1 xs, V.sl m d 2 ys]] = some (V.bool false) :=
  byP [Hint.br 10 true, Hint.br 16 true, Hint.br 22 true, Hint.call 26 (V.bool (xs.any longV)), Hint.br 29 true, Hint.inl 33 (V.bool true) [(0, Ob.var [V.sl n c 1 xs, V.sl m d 2 ys]), (8, Ob.var [V.fn (Fn.func 62) [] []]), (176, Ob.var [V.int IntKind.i64 a, V.str t])] 272] ((decide (1 ≤ (↑xs.length : Int)) = true) ∧ (decide ((↑xs.length : Int) ≤ 64) = true) ∧ (decide ((↑ys.length : Int) ≤ 60) = true) ∧ (callP (evalFn Try.prog Try.cfg k) 64 [V.sl n c 1 xs, V.fn (Fn.func 62) [] []] = some (V.bool (xs.any longV))) ∧ ((!xs.any longV) = true) ∧ (evalFn Try.prog Try.cfg k 65 [V.sl m d 2 ys, V.fn (Fn.func 63) [] [V.ptr 0 0, V.ptr 8 0]] [(0, Ob.var [V.sl n c 1 xs, V.sl m d 2 ys]), (8, Ob.var [V.fn (Fn.func 62) [] []])] 132 = some (V.bool true, [(0, Ob.var [V.sl n c 1 xs, V.sl m d 2 ys]), (8, Ob.var [V.fn (Fn.func 62) [] []]), (176, Ob.var [V.int IntKind.i64 a, V.str t])], 272)) ∧ True) (by kernel_rfl) ⟨c0, c1, c2, c3, c4, c5, trivial⟩
theorem p23a_1 (n : Option Bool) (m : Option Bool) (c : Bool) (d : Bool) (xs : List V) (ys : List V) (a : Int) (t : List UInt8) (k : Nat)
    (c0 : decide (1 ≤ (↑xs.length : Int)) = true)
    (c1 : decide ((↑xs.length : Int) ≤ 64) = true)
    (c2 : decide ((↑ys.length : Int) ≤ 60) = true)
    (c3 : callP (evalFn Try.prog Try.cfg k) 64 [V.sl n c 1 xs, V.fn (Fn.func 62) [] []] = some (V.bool (xs.any longV)))
    (c4 : (!xs.any longV) = false) :
    callP (evalFn Try.prog Try.cfg (k + 1)) 23 [V.agg [V.sl n c 1 xs, V.sl m d 2 ys]] = some (V.bool false) :=
  byP [Hint.br 10 true, Hint.br 16 true, Hint.br 22 true, Hint.call 26 (V.bool (xs.any longV)), Hint.br 29 false] ((decide (1 ≤ (↑xs.length : Int)) = true) ∧ (decide ((↑xs.length : Int) ≤ 64) = true) ∧ (decide ((↑ys.length : Int) ≤ 60) = true) ∧ (callP (evalFn Try.prog Try.cfg k) 64 [V.sl n c 1 xs, V.fn (Fn.func 62) [] []] = some (V.bool (xs.any longV))) ∧ ((!xs.any longV) = false) ∧ True) (by kernel_rfl) ⟨c0, c1, c2, c3, c4, trivial⟩
theorem p23a_2 (n : Option Bool) (m : Option Bool) (c : Bool) (d : Bool) (xs : List V) (ys : List V) (a : Int) (t : List UInt8) (k : Nat)
    (c0 : decide (1 ≤ (↑xs.length : Int)) = true)
    (c1 : decide ((↑xs.length : Int) ≤ 64) = true)
    (c2 : decide ((↑ys.length : Int) ≤ 60) = false) :
    callP (evalFn Try.prog Try.cfg (k + 1)) 23 [V.agg [V.sl n c 1 xs, V.sl m d 2 ys]] = some (V.bool false) :=
  byP [Hint.br 10 true, Hint.br 16 true, Hint.br 22 false] ((decide (1 ≤ (↑xs.length : Int)) = true) ∧ (decide ((↑xs.length : Int) ≤ 64) = true) ∧ (decide ((↑ys.length : Int) ≤ 60) = false) ∧ True) (by kernel_rfl) ⟨c0, c1, c2, trivial⟩
theorem p23a_3 (n : Option Bool) (m : Option Bool) (c : Bool) (d : Bool) (xs : List V) (ys : List V) (a : Int) (t : List UInt8) (k : Nat)
    (c0 : decide (1 ≤ (↑xs.length : Int)) = true)
    (c1 : decide ((↑xs.length : Int) ≤ 64) = false) :
    callP (evalFn Try.prog Try.cfg (k + 1)) 23 [V.agg [V.sl n c 1 xs, V.sl m d 2 ys]] = some (V.bool false) :=
  byP [Hint.br 10 true, Hint.br 16 false] ((decide (1 ≤ (↑xs.length : Int)) = true) ∧ (decide ((↑xs.length : Int) ≤ 64) = false) ∧ True) (by kernel_rfl) ⟨c0, c1, trivial⟩
theorem p23a_4 (n : Option Bool) (m : Option Bool) (c : Bool) (d : Bool) (xs : List V) (ys : List V) (a : Int) (t : List UInt8) (k : Nat)
    (c0 : decide (1 ≤ (↑xs.length : Int)) = false) :
    callP (evalFn Try.prog Try.cfg (k + 1)) 23 [V.agg [V.sl n c 1 xs, V.sl m d 2 ys]] = some (V.bool false) :=
  byP [Hint.br 10 false] ((decide (1 ≤ (↑xs.length : Int)) = false) ∧ True) (by kernel_rfl) ⟨c0, trivial⟩
theorem p23b_0 (n : Option Bool) (m : Option Bool) (c : Bool) (d : Bool) (xs : List V) (ys : List V) (k : Nat)
    (c0 : decide (1 ≤ (↑xs.length : Int)) = true)
    (c1 : decide ((↑xs.length : Int) ≤ 64) = true)
    (c2 : decide ((↑ys.length : Int) ≤ 60) = true)
    (c3 : callP (evalFn Try.prog Try.cfg k) 64 [V.sl n c 1 xs, V.fn (Fn.func 62) [] []] = some (V.bool (xs.any longV)))
    (c4 : (!xs.any longV) = true)
    (c5 : evalFn Try.prog Try.cfg k 65 [V.sl m d 2 ys, V.fn (Fn.func 63) [] [V.ptr 0 0, V.ptr 8 0]] [(0, Ob.var [V.sl n c 1 xs, V.sl m d 2 ys]), (8, Ob.var [V.fn (Fn.func 62) [] []])] 132 = some (V.bool false, [(0, Ob.var [V.sl n c 1 xs, V.sl m d 2 ys]), (8, Ob.var [V.fn (Fn.func 62) [] []])], 160)) :
    callP (evalFn Try.prog Try.cfg (k + 1)) 23 [V.agg [V.sl n c 1 xs, V.sl m d 2 ys]] = some (V.bool true) :=
  byP [Hint.br 10 true, Hint.br 16 true, Hint.br 22 true, Hint.call 26 (V.bool (xs.any longV)), Hint.br 29 true, Hint.inl 33 (V.bool false) [(0, Ob.var [V.sl n c 1 xs, V.sl m d 2 ys]), (8, Ob.var [V.fn (Fn.func 62) [] []])] 160] ((decide (1 ≤ (↑xs.length : Int)) = true) ∧ (decide ((↑xs.length : Int) ≤ 64) = true) ∧ (decide ((↑ys.length : Int) ≤ 60) = true) ∧ (callP (evalFn Try.prog Try.cfg k) 64 [V.sl n c 1 xs, V.fn (Fn.func 62) [] []] = some (V.bool (xs.any longV))) ∧ ((!xs.any longV) = true) ∧ (evalFn Try.prog Try.cfg k 65 [V.sl m d 2 ys, V.fn (Fn.func 63) [] [V.ptr 0 0, V.ptr 8 0]] [(0, Ob.var [V.sl n c 1 xs, V.sl m d 2 ys]), (8, Ob.var [V.fn (Fn.func 62) [] []])] 132 = some (V.bool false, [(0, Ob.var [V.sl n c 1 xs, V.sl m d 2 ys]), (8, Ob.var [V.fn (Fn.func 62) [] []])], 160)) ∧ True) (by kernel_rfl) ⟨c0, c1, c2, c3, c4, c5, trivial⟩
theorem p23b_1 (n : Option Bool) (m : Option Bool) (c : Bool) (d : Bool) (xs : List V) (ys : List V) (k : Nat)
    (c0 : decide (1 ≤ (↑xs.length : Int)) = true)
    (c1 : decide ((↑xs.length : Int) ≤ 64) = true)
    (c2 : decide ((↑ys.length : Int) ≤ 60) = true)
    (c3 : callP (evalFn Try.prog Try.cfg k) 64 [V.sl n c 1 xs, V.fn (Fn.func 62) [] []] = some (V.bool (xs.any longV)))
    (c4 : (!xs.any longV) = false) :
    callP (evalFn Try.prog Try.cfg (k + 1)) 23 [V.agg [V.sl n c 1 xs, V.sl m d 2 ys]] = some (V.bool false) :=
  byP [Hint.br 10 true, Hint.br 16 true, Hint.br 22 true, Hint.call 26 (V.bool (xs.any longV)), Hint.br 29 false] ((decide (1 ≤ (↑xs.length : Int)) = true) ∧ (decide ((↑xs.length : Int) ≤ 64) = true) ∧ (decide ((↑ys.length : Int) ≤ 60) = true) ∧ (callP (evalFn Try.prog Try.cfg k) 64 [V.sl n c 1 xs, V.fn (Fn.func 62) [] []] = some (V.bool (xs.any longV))) ∧ ((!xs.any longV) = false) ∧ True) (by kernel_rfl) ⟨c0, c1, c2, c3, c4, trivial⟩
theorem p23b_2 (n : Option Bool) (m : Option Bool) (c : Bool) (d : Bool) (xs : List V) (ys : List V) (k : Nat)
    (c0 : decide (1 ≤ (↑xs.length : Int)) = true)
    (c1 : decide ((↑xs.length : Int) ≤ 64) = true)
    (c2 : decide ((↑ys.length : Int) ≤ 60) = false) :
    callP (evalFn Try.prog Try.cfg (k + 1)) 23 [V.agg [V.sl n c 1 xs, V.sl m d 2 ys]] = some (V.bool false) :=
  byP [Hint.br 10 true, Hint.br 16 true, Hint.br 22 false] ((decide (1 ≤ (↑xs.length : Int)) = true) ∧ (decide ((↑xs.length : Int) ≤ 64) = true) ∧ (decide ((↑ys.length : Int) ≤ 60) = false) ∧ True) (by kernel_rfl) ⟨c0, c1, c2, trivial⟩
theorem p23b_3 (n : Option Bool) (m : Option Bool) (c : Bool) (d : Bool) (xs : List V) (ys : List V) (k : Nat)
    (c0 : decide (1 ≤ (↑xs.length : Int)) = true)
    (c1 : decide ((↑xs.length : Int) ≤ 64) = false) :
    callP (evalFn Try.prog Try.cfg (k + 1)) 23 [V.agg [V.sl n c 1 xs, V.sl m d 2 ys]] = some (V.bool false) :=
  byP [Hint.br 10 true, Hint.br 16 false] ((decide (1 ≤ (↑xs.length : Int)) = true) ∧ (decide ((↑xs.length : Int) ≤ 64) = false) ∧ True) (by kernel_rfl) ⟨c0, c1, trivial⟩
theorem p23b_4 (n : Option Bool) (m : Option Bool) (c : Bool) (d : Bool) (xs : List V) (ys : List V) (k : Nat)
    (c0 : decide (1 ≤ (↑xs.length : Int)) = false) :
    callP (evalFn Try.prog Try.cfg (k + 1)) 23 [V.agg [V.sl n c 1 xs, V.sl m d 2 ys]] = some (V.bool false) :=
  byP [Hint.br 10 false] ((decide (1 ≤ (↑xs.length : Int)) = false) ∧ True) (by kernel_rfl) ⟨c0, trivial⟩
end Go.Proofs
