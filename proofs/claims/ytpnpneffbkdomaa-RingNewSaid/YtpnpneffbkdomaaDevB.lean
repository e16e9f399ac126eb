/-
  What the functions of devices answer: which may be, and which two are the same.
-/
import Derived.Test.YtpnpneffbkdomaaDevA
set_option linter.unusedVariables false
set_option linter.unusedSimpArgs false
namespace Go.Proofs
open Go.Sym

def isStr (x : V) : Prop := ∃ t, x = V.str t
def isPut (x : V) : Prop := ∃ a t, x = V.agg [V.int IntKind.i64 a, V.str t]

theorem wrap_i64 {n : Int} (h1 : -9223372036854775808 ≤ n) (h2 : n < 9223372036854775808) : IntKind.i64.wrap n = n := by
  simp only [IntKind.wrap, IntKind.signed, IntKind.bits, Bool.true_and, decide_eq_true_eq]
  have e' : (2 : Int) ^ (64 - 1) = 9223372036854775808 := by decide
  split
  · rename_i h
    have h := of_decide_eq_true h
    rw [e'] at h
    omega
  · rename_i h
    have h : ¬ (n % 2 ^ 64 ≥ (2 : Int) ^ (64 - 1)) := fun hh => h (decide_eq_true hh)
    rw [e'] at h
    omega
theorem wrap_succ {i : Nat} (h : i < 1000) : IntKind.i64.wrap ((i : Int) + 1) = ((i + 1 : Nat) : Int) := by
  rw [wrap_i64 (by omega) (by omega)]; omega
theorem at_get {xs : List V} {i : Nat} (h : i < xs.length) {x : V} (hx : xs[i] = x) : at? xs (i : Int) = some x := by
  rw [at_nat, List.getElem?_eq_getElem h, hx]

theorem idxF_any (p : V → Bool) : ∀ (l : List V) (i : Nat), (idxF p i l = -1 ∧ l.any p = false) ∨ (0 ≤ idxF p i l ∧ l.any p = true) := by
  intro l
  induction l with
  | nil => intro i; exact .inl ⟨rfl, rfl⟩
  | cons x r ih =>
    intro i
    simp only [idxF, List.any_cons]
    cases hp : p x
    · simpa using ih (i + 1)
    · exact .inr ⟨by simp, rfl⟩

/-! ### The first of a kind -/
theorem l84_run {n : Option Bool} {c : Bool} {xs : List V} (hx : ∀ x ∈ xs, isStr x) (hb : xs.length ≤ 1000) : ∀ (r i f : Nat), xs.length - i = r → i ≤ xs.length → r < f →
    l84 n c xs f i = some (if idxF longV i (xs.drop i) = -1 then .e2 xs.length else .e0 (idxF longV i (xs.drop i))) := by
  intro r
  induction r with
  | zero =>
    intro i f hr hi hf
    obtain ⟨f, rfl⟩ : ∃ g, f = g + 1 := ⟨f - 1, by omega⟩
    obtain rfl : i = xs.length := by omega
    rw [l84, decide_eq_false (by omega), cond_false, List.drop_length]
    rfl
  | succ r ih =>
    intro i f hr hi hf
    obtain ⟨f, rfl⟩ : ∃ g, f = g + 1 := ⟨f - 1, by omega⟩
    have hi1 : i < xs.length := by omega
    obtain ⟨t, ht⟩ := hx xs[i] (List.getElem_mem hi1)
    rw [l84, decide_eq_true (by omega), cond_true, at_get hi1 ht, List.drop_eq_getElem_cons hi1, ht]
    simp only [idxF, longV]
    rcases Bool.eq_false_or_eq_true (decide (128 < (↑t.length : Int))) with hd | hd
    · simp only [hd, cond_true]
      rw [if_neg (by omega)]
    · simp only [hd, cond_false]
      rw [wrap_succ (by omega)]
      exact ih (i + 1) f (by omega) (by omega) (by omega)

theorem h62 (t : List UInt8) (k : Nat) : callP (evalFn Try.prog Try.cfg (k + 1)) 62 [V.str t] = some (V.bool (decide (128 < (↑t.length : Int)))) := byP [] True (by kernel_rfl) trivial

theorem h84 {n : Option Bool} {c : Bool} {xs : List V} (hx : ∀ x ∈ xs, isStr x) (hb : xs.length ≤ 1000) (k : Nat) :
    callP (evalFn Try.prog Try.cfg (k + 1002)) 84 [V.sl n c 1 xs, V.fn (.func 62) [] []] = some (V.int IntKind.i64 (idxV longV xs)) := by
  have hl := l84_run (n := n) (c := c) hx hb xs.length 0 (k + 1001) (by omega) (by omega) (by omega)
  rw [List.drop_zero] at hl
  have hk := l84_ok n c xs (k + 1001) (fun t => h62 t (k + 1000)) (k + 1001) 0
  unfold idxV
  by_cases h : idxF longV 0 xs = -1
  · rw [if_pos h] at hl
    rw [h]
    exact p84b_0 n c xs _ (k + 1001) (hk _ hl)
  · rw [if_neg h] at hl
    exact p84a_0 n c xs _ (k + 1001) (hk _ hl)
theorem h64 {n : Option Bool} {c : Bool} {xs : List V} (hx : ∀ x ∈ xs, isStr x) (hb : xs.length ≤ 1000) (k : Nat) :
    callP (evalFn Try.prog Try.cfg (k + 1003)) 64 [V.sl n c 1 xs, V.fn (.func 62) [] []] = some (V.bool (xs.any longV)) := by
  refine (p64_0 n c xs (k + 1002) (h84 hx hb k)).trans ?_
  rcases idxF_any longV xs 0 with ⟨h1, h2⟩ | ⟨h1, h2⟩
  · unfold idxV; rw [h1, h2]; rfl
  · unfold idxV; rw [decide_eq_true h1, h2]

/-! ### Odd ones in a cache -/
theorem l85_run {n m : Option Bool} {c d : Bool} {xs ys : List V} (hy : ∀ y ∈ ys, isPut y) (hb : ys.length ≤ 1000) : ∀ (r i f : Nat), ys.length - i = r → i ≤ ys.length → r < f →
    ((ys.drop i).any (oddV xs.length) = false ∧ l85 n m c d xs ys f i = some (.e2 ys.length)) ∨ ((ys.drop i).any (oddV xs.length) = true ∧ ∃ (j : Nat) (a : Int) (t : List UInt8), l85 n m c d xs ys f i = some (.e0 j a t)) := by
  intro r
  induction r with
  | zero =>
    intro i f hr hi hf
    obtain ⟨f, rfl⟩ : ∃ g, f = g + 1 := ⟨f - 1, by omega⟩
    obtain rfl : i = ys.length := by omega
    rw [l85, decide_eq_false (by omega), cond_false, List.drop_length]
    exact .inl ⟨rfl, rfl⟩
  | succ r ih =>
    intro i f hr hi hf
    obtain ⟨f, rfl⟩ : ∃ g, f = g + 1 := ⟨f - 1, by omega⟩
    have hi1 : i < ys.length := by omega
    obtain ⟨a, t, ht⟩ := hy ys[i] (List.getElem_mem hi1)
    rw [l85, decide_eq_true (by omega), cond_true, at_get hi1 ht, List.drop_eq_getElem_cons hi1, ht, List.any_cons]
    simp only [putV]
    cases hd : oddV xs.length (V.agg [V.int IntKind.i64 a, V.str t])
    · rw [cond_false, Bool.false_or, wrap_succ (by omega)]
      exact ih (i + 1) f (by omega) (by omega) (by omega)
    · rw [cond_true, Bool.true_or]
      exact .inr ⟨rfl, i, a, t, rfl⟩

theorem h63 (n m : Option Bool) (c d : Bool) (xs ys : List V) (a : Int) (t : List UInt8) (k : Nat) :
    evalFn Try.prog Try.cfg (k + 2) 63 [V.agg [V.int IntKind.i64 a, V.str t], V.ptr 0 0, V.ptr 8 0] [(0, Ob.var [V.sl n c 1 xs, V.sl m d 2 ys]), (8, Ob.var [V.fn (Fn.func 62) [] []])] 176 =
      some (V.bool (oddV xs.length (putV a t)), [(0, Ob.var [V.sl n c 1 xs, V.sl m d 2 ys]), (8, Ob.var [V.fn (Fn.func 62) [] []]), (176, Ob.var [V.int IntKind.i64 a, V.str t])], 256) := by
  show _ = some (V.bool (decide (a < 0) || (decide ((↑xs.length : Int) ≤ a) || decide (128 < (↑t.length : Int)))), _)
  cases h1 : decide (a < 0)
  · cases h2 : decide ((↑xs.length : Int) ≤ a)
    · exact p63_2 n m c d xs ys a t (k + 1) h1 h2 (h62 t k)
    · exact p63_1 n m c d xs ys a t (k + 1) h1 h2
  · exact p63_0 n m c d xs ys a t (k + 1) h1

/-- Which devices may be. -/
theorem h23 {n m : Option Bool} {c d : Bool} {xs ys : List V} (hx : ∀ x ∈ xs, isStr x) (hy : ∀ y ∈ ys, isPut y) (hbx : xs.length ≤ 1000) (hby : ys.length ≤ 1000) (k : Nat) :
    callP (evalFn Try.prog Try.cfg (k + 1005)) 23 [V.agg [V.sl n c 1 xs, V.sl m d 2 ys]] = some (V.bool (rightV xs ys)) := by
  unfold rightV
  cases h1 : decide (1 ≤ (↑xs.length : Int))
  · exact p23b_4 n m c d xs ys (k + 1004) h1
  cases h2 : decide ((↑xs.length : Int) ≤ 64)
  · exact p23b_3 n m c d xs ys (k + 1004) h1 h2
  cases h3 : decide ((↑ys.length : Int) ≤ 60)
  · exact p23b_2 n m c d xs ys (k + 1004) h1 h2 h3
  have h64' := h64 (n := n) (c := c) hx hbx (k + 1)
  cases h4 : xs.any longV
  · have h4' : (!xs.any longV) = true := by rw [h4]; rfl
    have hk := l85_ok n m c d xs ys (k + 1002) (fun a t => h63 n m c d xs ys a t (k + 1000)) (k + 1002) 0
    rcases l85_run (n := n) (m := m) (c := c) (d := d) (xs := xs) hy hby ys.length 0 (k + 1002) (by omega) (by omega) (by omega) with ⟨h5, hl⟩ | ⟨h5, j, a, t, hl⟩
    · rw [List.drop_zero] at h5
      rw [h5]
      exact p23b_0 n m c d xs ys (k + 1004) h1 h2 h3 h64' h4' (p65b_0 n m c d xs ys (k + 1003) (p85b_0 n m c d xs ys _ (k + 1002) (hk _ hl)))
    · rw [List.drop_zero] at h5
      rw [h5]
      refine p23a_0 n m c d xs ys a t (k + 1004) h1 h2 h3 h64' h4' ((p65_0 n m c d xs ys j a t (k + 1003) (p85a_0 n m c d xs ys _ a t (k + 1002) (hk _ hl))).trans ?_)
      rw [decide_eq_true (by omega)]
  · exact p23b_1 n m c d xs ys (k + 1004) h1 h2 h3 h64' (by rw [h4]; rfl)
end Go.Proofs
