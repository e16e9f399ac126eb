/-
  What the functions of rings answer: which may be, and which two are the same.
-/
import Derived.Test.YtpnpneffbkdomaaRingA
set_option linter.unusedVariables false
set_option linter.unusedSimpArgs false
set_option linter.constructorNameAsVariable false
set_option maxRecDepth 100000
namespace Go.Proofs
open Go.Sym

/-! ### Places -/
theorem tmod_two {a n : Int} (h0 : 0 ≤ a) (h1 : a < 2 * n) : a.tmod n = if a < n then a else a - n := by
  rw [Int.tmod_eq_emod_of_nonneg h0]
  split
  · exact Int.emod_eq_of_lt h0 (by omega)
  · rw [← Int.sub_emod_right, Int.emod_eq_of_lt (by omega) (by omega)]
def idR (n fr i : Int) : Int := if fr + i < n then fr + i else fr + i - n
theorem id_place {n fr s i : Int} (f0 : 0 ≤ fr) (f1 : fr < n) (s0 : 0 ≤ s) (s1 : s < n) (i0 : 0 ≤ i) (i1 : i < n) : plV n fr s = i ↔ s = idR n fr i := by
  unfold plV idR
  split <;> split <;> omega
theorem pl_range {n fr s : Int} (f0 : 0 ≤ fr) (f1 : fr < n) (s0 : 0 ≤ s) (s1 : s < n) : 0 ≤ plV n fr s ∧ plV n fr s < n := by
  unfold plV; split <;> omega
theorem id_range {n fr i : Int} (f0 : 0 ≤ fr) (f1 : fr < n) (i0 : 0 ≤ i) (i1 : i < n) : 0 ≤ idR n fr i ∧ idR n fr i < n := by
  unfold idR; split <;> omega
theorem tmod_id {n fr i : Int} (hn : n ≤ 1000) (f0 : 0 ≤ fr) (f1 : fr < n) (i0 : 0 ≤ i) (i1 : i ≤ n) : (IntKind.i64.wrap (fr + i)).tmod n = idR n fr i := by
  rw [wrap_i64 (by omega) (by omega), tmod_two (by omega) (by omega)]
  rfl
theorem tmod_pl {n fr s : Int} (hn : n ≤ 1000) (f0 : 0 ≤ fr) (f1 : fr < n) (s0 : 0 ≤ s) (s1 : s < n) : (IntKind.i64.wrap (IntKind.i64.wrap (s - fr) + n)).tmod n = plV n fr s := by
  rw [wrap_i64 (n := s - fr) (by omega) (by omega), wrap_i64 (by omega) (by omega), tmod_two (by omega) (by omega)]
  unfold plV
  split <;> split <;> omega

/-- Texts where none may be. -/
def oddR (n fr mn : Int) : Nat → List V → Bool
  | _, [] => false
  | i, x :: r => (fullV x && decide (mn ≤ plV n fr i)) || oddR n fr mn (i + 1) r
def ringV (xs : List V) (fr mn : Int) : Bool := decide (1 ≤ (xs.length : Int)) && (decide ((xs.length : Int) ≤ 64) && (decide (0 ≤ fr) && (decide (fr < (xs.length : Int)) && (decide (0 ≤ mn) && (decide (mn ≤ (xs.length : Int)) && !oddR xs.length fr mn 0 xs)))))
/-- The slots of the first ones are emptied. -/
def clrV (n fr k : Int) : Nat → List V → List V
  | _, [] => []
  | i, x :: r => (if plV n fr i < k then V.str [] else x) :: clrV n fr k (i + 1) r
theorem clr_len {n fr k : Int} : ∀ (l : List V) (i : Nat), (clrV n fr k i l).length = l.length := by
  intro l
  induction l with
  | nil => intro i; rfl
  | cons x r ih => intro i; simp [clrV, ih]
theorem clr_get {n fr k : Int} : ∀ (l : List V) (i j : Nat) (h : j < (clrV n fr k i l).length), (clrV n fr k i l)[j] = if plV n fr (i + j : Nat) < k then V.str [] else l[j]'(by rwa [clr_len] at h) := by
  intro l
  induction l with
  | nil => intro i j h; simp [clrV] at h
  | cons x r ih =>
    intro i j h
    cases j with
    | zero => simp [clrV]
    | succ j =>
      simp only [clrV, List.getElem_cons_succ]
      rw [ih]
      rw [show i + 1 + j = i + (j + 1) by omega]
theorem clr_any {n fr k : Int} : ∀ (l : List V) (i : Nat), (∀ x ∈ l, isStr x) → (clrV n fr k i l).any fullV = oddR n fr k i l := by
  intro l
  induction l with
  | nil => intro i _; rfl
  | cons x r ih =>
    intro i hx
    simp only [clrV, List.any_cons, oddR]
    rw [ih (i + 1) fun x h => hx x (List.mem_cons_of_mem _ h)]
    congr 1
    split
    · rename_i h
      rw [decide_eq_false (by omega), Bool.and_false]; rfl
    · rename_i h
      rw [decide_eq_true (by omega), Bool.and_true]
theorem clr_zero {n fr : Int} (f0 : 0 ≤ fr) (f1 : fr < n) : ∀ (l : List V) (i : Nat), (i + l.length : Nat) ≤ n → clrV n fr 0 i l = l := by
  intro l
  induction l with
  | nil => intro i _; rfl
  | cons x r ih =>
    intro i h
    simp only [clrV]
    simp only [List.length_cons] at h
    have := (pl_range (s := (i : Int)) f0 f1 (by omega) (by omega)).1
    rw [if_neg (by omega), ih (i + 1) (by omega)]
theorem clr_succ {fr : Int} {k : Nat} {xs : List V} (f0 : 0 ≤ fr) (f1 : fr < xs.length) (hk : k < xs.length) : (clrV xs.length fr k 0 xs).set (idR xs.length fr k).toNat (V.str []) = clrV xs.length fr (k + 1 : Nat) 0 xs := by
  apply List.ext_getElem
  · rw [List.length_set, clr_len, clr_len]
  · intro j h1 h2
    have hj : j < xs.length := by rwa [clr_len] at h2
    have hp := id_place (s := (j : Int)) (i := (k : Int)) f0 f1 (by omega) (by omega) (by omega) (by omega)
    have hr := id_range (i := (k : Int)) f0 f1 (by omega) (by omega)
    rw [List.getElem_set, clr_get, clr_get, Nat.zero_add]
    by_cases he : plV xs.length fr j = k
    · rw [if_pos (by have := hp.1 he; omega), if_pos (by omega)]
    · rw [if_neg (fun h => he (hp.2 (by omega)))]
      by_cases hlt : plV xs.length fr j < k
      · rw [if_pos hlt, if_pos (by omega)]
      · rw [if_neg hlt, if_neg (by omega)]

theorem h80 (t : List UInt8) (k : Nat) : callP (evalFn Try.prog Try.cfg (k + 1)) 80 [V.str t] = some (V.bool (!decide (t = []))) := p80_0 t k
theorem h81 {n : Option Bool} {c : Bool} {xs : List V} {fr mn s : Int} (hb : xs.length ≤ 1000) (f0 : 0 ≤ fr) (f1 : fr < xs.length) (s0 : 0 ≤ s) (s1 : s < xs.length) (k : Nat) :
    callP (evalFn Try.prog Try.cfg (k + 1)) 81 [V.agg [V.sl n c 1 xs, V.int IntKind.i64 fr, V.int IntKind.i64 mn], V.int IntKind.i64 s] = some (V.int IntKind.i64 (plV xs.length fr s)) := by
  refine (p81_0 n c xs fr mn s k (GrdP.mk ⟨rfl, by omega⟩)).trans ?_
  rw [tmod_pl (by omega) f0 f1 s0 s1]

/-! ### The loops -/
theorem l84r_run {n : Option Bool} {c : Bool} {xs : List V} (hx : ∀ x ∈ xs, isStr x) (hb : xs.length ≤ 900) : ∀ (r i f : Nat), xs.length - i = r → i ≤ xs.length → r < f →
    l84r n c xs f i = some (if idxF fullV i (xs.drop i) = -1 then .e2 xs.length else .e0 (idxF fullV i (xs.drop i))) := by
  intro r
  induction r with
  | zero =>
    intro i f hr hi hf
    obtain ⟨f, rfl⟩ : ∃ g, f = g + 1 := ⟨f - 1, by omega⟩
    obtain rfl : i = xs.length := by omega
    rw [l84r, decide_eq_false (by omega), cond_false, List.drop_length]
    rfl
  | succ r ih =>
    intro i f hr hi hf
    obtain ⟨f, rfl⟩ : ∃ g, f = g + 1 := ⟨f - 1, by omega⟩
    have hi1 : i < xs.length := by omega
    obtain ⟨t, ht⟩ := hx xs[i] (List.getElem_mem hi1)
    rw [l84r, decide_eq_true (by omega), cond_true, at_get hi1 ht, List.drop_eq_getElem_cons hi1, ht]
    simp only [idxF, fullV]
    rcases Bool.eq_false_or_eq_true (!decide (t = [])) with hd | hd
    · simp only [hd, cond_true]
      rw [if_neg (by omega)]
    · simp only [hd, cond_false]
      rw [wrap_succ (by omega)]
      exact ih (i + 1) f (by omega) (by omega) (by omega)
theorem h84r {n : Option Bool} {c : Bool} {xs : List V} (hx : ∀ x ∈ xs, isStr x) (hb : xs.length ≤ 900) (k : Nat) :
    callP (evalFn Try.prog Try.cfg (k + 1002)) 84 [V.sl n c 1 xs, V.fn (.func 80) [] []] = some (V.int IntKind.i64 (idxV fullV xs)) := by
  have hl := l84r_run (n := n) (c := c) hx hb xs.length 0 (k + 1001) (by omega) (by omega) (by omega)
  rw [List.drop_zero] at hl
  have hk := l84r_ok n c xs (k + 1001) (fun t => h80 t (k + 1000)) (k + 1001) 0
  unfold idxV
  by_cases h : idxF fullV 0 xs = -1
  · rw [if_pos h] at hl
    rw [h]
    exact p84rb_0 n c xs _ (k + 1001) (hk _ hl)
  · rw [if_neg h] at hl
    exact p84ra_0 n c xs _ (k + 1001) (hk _ hl)
theorem h64r {n : Option Bool} {c : Bool} {xs : List V} (hx : ∀ x ∈ xs, isStr x) (hb : xs.length ≤ 900) (k : Nat) :
    callP (evalFn Try.prog Try.cfg (k + 1003)) 64 [V.sl n c 1 xs, V.fn (.func 80) [] []] = some (V.bool (xs.any fullV)) := by
  refine (p64r_0 n c xs (k + 1002) (h84r hx hb k)).trans ?_
  rcases idxF_any fullV xs 0 with ⟨h1, h2⟩ | ⟨h1, h2⟩
  · unfold idxV; rw [h1, h2]; rfl
  · unfold idxV; rw [decide_eq_true h1, h2]

theorem l48_run {n : Option Bool} {c : Bool} {xs : List V} {fr mn : Int} (f0 : 0 ≤ fr) (f1 : fr < xs.length) (hx : ∀ x ∈ xs, isStr x) (hb : xs.length ≤ 900) : ∀ (r i f : Nat), xs.length - i = r → i ≤ xs.length → r < f →
    (oddR xs.length fr mn i (xs.drop i) = false ∧ l48 n c xs fr mn f i = some (.e4 xs.length)) ∨ (oddR xs.length fr mn i (xs.drop i) = true ∧ ∃ (j : Nat) (t : List UInt8), l48 n c xs fr mn f i = some (.e0 j t)) := by
  intro r
  induction r with
  | zero =>
    intro i f hr hi hf
    obtain ⟨f, rfl⟩ : ∃ g, f = g + 1 := ⟨f - 1, by omega⟩
    obtain rfl : i = xs.length := by omega
    rw [l48, decide_eq_false (by omega), cond_false, List.drop_length]
    exact .inl ⟨rfl, rfl⟩
  | succ r ih =>
    intro i f hr hi hf
    obtain ⟨f, rfl⟩ : ∃ g, f = g + 1 := ⟨f - 1, by omega⟩
    have hi1 : i < xs.length := by omega
    obtain ⟨t, ht⟩ := hx xs[i] (List.getElem_mem hi1)
    rw [l48, decide_eq_true (by omega), cond_true, at_get hi1 ht, List.drop_eq_getElem_cons hi1, ht]
    simp only [oddR, fullV]
    rw [wrap_succ (by omega)]
    cases hd : !decide (t = [])
    · rw [cond_false, Bool.false_and, Bool.false_or]
      exact ih (i + 1) f (by omega) (by omega) (by omega)
    · rw [cond_true, decide_eq_true (p := 0 ≤ fr ∧ _) (by omega), cond_true, Bool.true_and]
      by_cases hp : mn ≤ plV xs.length fr i
      · rw [decide_eq_true hp, cond_true, Bool.true_or]
        exact .inr ⟨rfl, i, t, rfl⟩
      · rw [decide_eq_false hp, cond_false, Bool.false_or]
        exact ih (i + 1) f (by omega) (by omega) (by omega)
theorem h48 {n : Option Bool} {c : Bool} {xs : List V} {fr mn : Int} (hx : ∀ x ∈ xs, isStr x) (hb : xs.length ≤ 900) (k : Nat) :
    callP (evalFn Try.prog Try.cfg (k + 1003)) 48 [V.agg [V.sl n c 1 xs, V.int IntKind.i64 fr, V.int IntKind.i64 mn]] = some (V.bool (ringV xs fr mn)) := by
  unfold ringV
  by_cases h1 : 1 ≤ (↑xs.length : Int)
  case neg => rw [decide_eq_false h1]; exact p48b_0 n c xs fr mn 0 (k + 1002) (decide_eq_true (by omega))
  by_cases h2 : (↑xs.length : Int) ≤ 64
  case neg => rw [decide_eq_true h1, decide_eq_false h2]; exact p48b_1 n c xs fr mn 0 (k + 1002) (decide_eq_false (by omega)) (decide_eq_true (by omega))
  by_cases h3 : 0 ≤ fr
  case neg => rw [decide_eq_true h1, decide_eq_true h2, decide_eq_false h3]; exact p48b_2 n c xs fr mn 0 (k + 1002) (decide_eq_false (by omega)) (decide_eq_false (by omega)) (decide_eq_true (by omega))
  by_cases h4 : fr < (↑xs.length : Int)
  case neg => rw [decide_eq_true h1, decide_eq_true h2, decide_eq_true h3, decide_eq_false h4]; exact p48b_3 n c xs fr mn 0 (k + 1002) (decide_eq_false (by omega)) (decide_eq_false (by omega)) (decide_eq_false (by omega)) (decide_eq_true (by omega))
  by_cases h5 : 0 ≤ mn
  case neg => rw [decide_eq_true h1, decide_eq_true h2, decide_eq_true h3, decide_eq_true h4, decide_eq_false h5]; exact p48b_4 n c xs fr mn 0 (k + 1002) (decide_eq_false (by omega)) (decide_eq_false (by omega)) (decide_eq_false (by omega)) (decide_eq_false (by omega)) (decide_eq_true (by omega))
  by_cases h6 : mn ≤ (↑xs.length : Int)
  case neg => rw [decide_eq_true h1, decide_eq_true h2, decide_eq_true h3, decide_eq_true h4, decide_eq_true h5, decide_eq_false h6]; exact p48b_5 n c xs fr mn 0 (k + 1002) (decide_eq_false (by omega)) (decide_eq_false (by omega)) (decide_eq_false (by omega)) (decide_eq_false (by omega)) (decide_eq_false (by omega)) (decide_eq_true (by omega))
  rw [decide_eq_true h1, decide_eq_true h2, decide_eq_true h3, decide_eq_true h4, decide_eq_true h5, decide_eq_true h6]
  have hk := l48_ok n c xs fr mn (k + 1002) (fun v hv => by
    have hv := of_decide_eq_true hv
    exact h81 (by omega) hv.1 hv.2.1 hv.2.2.1 hv.2.2.2 (k + 1001)) (k + 1002) 0
  rcases l48_run (n := n) (c := c) (mn := mn) h3 h4 hx hb xs.length 0 (k + 1002) (by omega) (by omega) (by omega) with ⟨h7, hl⟩ | ⟨h7, j, t, hl⟩
  · rw [List.drop_zero] at h7
    rw [h7]
    exact p48b_6 n c xs fr mn _ (k + 1002) (decide_eq_false (by omega)) (decide_eq_false (by omega)) (decide_eq_false (by omega)) (decide_eq_false (by omega)) (decide_eq_false (by omega)) (decide_eq_false (by omega)) (hk _ hl)
  · rw [List.drop_zero] at h7
    rw [h7]
    exact p48a_6 n c xs fr mn _ t (k + 1002) (decide_eq_false (by omega)) (decide_eq_false (by omega)) (decide_eq_false (by omega)) (decide_eq_false (by omega)) (decide_eq_false (by omega)) (decide_eq_false (by omega)) (hk _ hl)

theorem l87_run {n : Option Bool} {c : Bool} {xs : List V} {fr : Int} {mn : Nat} (f0 : 0 ≤ fr) (f1 : fr < xs.length) (hm : mn ≤ xs.length) (hb : xs.length ≤ 900) : ∀ (r i f : Nat), mn - i = r → i ≤ mn → r < f →
    l87 n c xs fr mn f i (clrV xs.length fr i 0 xs) = some (.e2 mn (clrV xs.length fr mn 0 xs)) := by
  intro r
  induction r with
  | zero =>
    intro i f hr hi hf
    obtain ⟨f, rfl⟩ : ∃ g, f = g + 1 := ⟨f - 1, by omega⟩
    obtain rfl : i = mn := by omega
    rw [l87, decide_eq_false (by omega), cond_false]
  | succ r ih =>
    intro i f hr hi hf
    obtain ⟨f, rfl⟩ : ∃ g, f = g + 1 := ⟨f - 1, by omega⟩
    have hr := id_range (i := (i : Int)) f0 f1 (by omega) (by omega)
    rw [l87, decide_eq_true (by omega), cond_true, if_pos ⟨rfl, by omega⟩, tmod_id (by omega) f0 f1 (by omega) (by omega), clr_len, decide_eq_true hr, cond_true, clr_succ f0 f1 (by omega), wrap_succ (by omega)]
    exact ih (i + 1) f (by omega) (by omega) (by omega)
theorem h47 {n : Bool} {c : Bool} {xs : List V} {fr mn : Int} (hn : n = true → xs = []) (hx : ∀ x ∈ xs, isStr x) (hb : xs.length ≤ 900) (k : Nat) :
    callP (evalFn Try.prog Try.cfg (k + 1004)) 47 [V.agg [V.sl (some n) c 1 xs, V.int IntKind.i64 fr, V.int IntKind.i64 mn]] = some (V.bool (ringV xs fr mn)) := by
  unfold ringV
  by_cases h1 : 1 ≤ (↑xs.length : Int)
  case neg => rw [decide_eq_false h1]; exact p47n_0 (some n) c xs fr mn (k + 1003) (decide_eq_true (by omega))
  obtain rfl : n = false := by
    cases n with
    | false => rfl
    | true => rw [hn rfl] at h1; simp at h1
  by_cases h2 : (↑xs.length : Int) ≤ 64
  case neg => rw [decide_eq_true h1, decide_eq_false h2]; exact p47_1 c xs [] fr mn (k + 1003) (decide_eq_false (by omega)) (decide_eq_true (by omega))
  by_cases h3 : 0 ≤ fr
  case neg => rw [decide_eq_true h1, decide_eq_true h2, decide_eq_false h3]; exact p47_2 c xs [] fr mn (k + 1003) (decide_eq_false (by omega)) (decide_eq_false (by omega)) (decide_eq_true (by omega))
  by_cases h4 : fr < (↑xs.length : Int)
  case neg => rw [decide_eq_true h1, decide_eq_true h2, decide_eq_true h3, decide_eq_false h4]; exact p47_3 c xs [] fr mn (k + 1003) (decide_eq_false (by omega)) (decide_eq_false (by omega)) (decide_eq_false (by omega)) (decide_eq_true (by omega))
  by_cases h5 : 0 ≤ mn
  case neg => rw [decide_eq_true h1, decide_eq_true h2, decide_eq_true h3, decide_eq_true h4, decide_eq_false h5]; exact p47_4 c xs [] fr mn (k + 1003) (decide_eq_false (by omega)) (decide_eq_false (by omega)) (decide_eq_false (by omega)) (decide_eq_false (by omega)) (decide_eq_true (by omega))
  by_cases h6 : mn ≤ (↑xs.length : Int)
  case neg => rw [decide_eq_true h1, decide_eq_true h2, decide_eq_true h3, decide_eq_true h4, decide_eq_true h5, decide_eq_false h6]; exact p47_5 c xs [] fr mn (k + 1003) (decide_eq_false (by omega)) (decide_eq_false (by omega)) (decide_eq_false (by omega)) (decide_eq_false (by omega)) (decide_eq_false (by omega)) (decide_eq_true (by omega))
  rw [decide_eq_true h1, decide_eq_true h2, decide_eq_true h3, decide_eq_true h4, decide_eq_true h5, decide_eq_true h6]
  obtain ⟨mn, rfl⟩ : ∃ m : Nat, mn = m := ⟨mn.toNat, by omega⟩
  have hl := l87_run (n := some false) (c := c) (mn := mn) h3 h4 (by omega) hb mn 0 (k + 1002) (by omega) (by omega) (by omega)
  rw [show ((0 : Nat) : Int) = 0 from rfl, clr_zero h3 h4 xs 0 (by omega)] at hl
  have hk := l87_ok (some false) c xs fr mn (k + 1002) (fun v0 v1 hv => by
    have hv := of_decide_eq_true hv
    exact pr47_0 (some false) c xs _ fr mn _ (k + 1001) (IdxR.mk hv.1 hv.2) (GrdW.mk ⟨rfl, rfl, by omega⟩)) (k + 1002) 0 xs _ hl
  have hs : ∀ x ∈ clrV xs.length fr mn 0 xs, isStr x := by
    intro x hm
    obtain ⟨j, hj, rfl⟩ := List.getElem_of_mem hm
    rw [clr_get]
    split
    · exact ⟨[], rfl⟩
    · exact hx _ (List.getElem_mem _)
  rw [← clr_any xs 0 hx]
  cases xs with
  | nil => simp at h1
  | cons x xs =>
    exact p47_6 c (x :: xs) _ fr mn (k + 1003) (decide_eq_false (by omega)) (decide_eq_false (by omega)) (decide_eq_false (by omega)) (decide_eq_false (by omega)) (decide_eq_false (by omega)) (decide_eq_false (by omega))
      (p68r_0 c xs x fr mn (k + 1002) (GrdW.mk ⟨rfl, by decide, by decide, by have hm : maxLen' = 1099511627776 := rfl; simp only [List.length_cons] at hb ⊢; omega⟩))
      (p79_0 (some false) c (x :: xs) fr mn (k + 1002)) (p87_0 (some false) c (x :: xs) fr mn _ _ (k + 1002) hk) (h64r hs (by rw [clr_len]; exact hb) k)

/-! ### Which are the same -/
theorem l55_run {n m : Option Bool} {c d : Bool} {xs ys : List V} (hx : ∀ x ∈ xs, isStr x) (hy : ∀ y ∈ ys, isStr y) (hl : xs.length = ys.length) (hb : xs.length ≤ 900) : ∀ (r i f : Nat), xs.length - i = r → i ≤ xs.length → r < f →
    (eqL (xs.drop i) (ys.drop i) = true ∧ l55 n m c d xs ys f i = some (.e2 xs.length)) ∨ (eqL (xs.drop i) (ys.drop i) = false ∧ ∃ j : Nat, l55 n m c d xs ys f i = some (.e0 j)) := by
  intro r
  induction r with
  | zero =>
    intro i f hr hi hf
    obtain ⟨f, rfl⟩ : ∃ g, f = g + 1 := ⟨f - 1, by omega⟩
    obtain rfl : i = xs.length := by omega
    rw [l55, decide_eq_false (by omega), cond_false, List.drop_length, hl, List.drop_length]
    exact .inl ⟨rfl, rfl⟩
  | succ r ih =>
    intro i f hr hi hf
    obtain ⟨f, rfl⟩ : ∃ g, f = g + 1 := ⟨f - 1, by omega⟩
    have hi1 : i < xs.length := by omega
    have hi2 : i < ys.length := by omega
    obtain ⟨t, ht⟩ := hx xs[i] (List.getElem_mem hi1)
    obtain ⟨u, hu⟩ := hy ys[i] (List.getElem_mem hi2)
    rw [l55, decide_eq_true (by omega), cond_true, at_get hi1 ht, List.drop_eq_getElem_cons hi1, List.drop_eq_getElem_cons hi2, ht, hu]
    simp only [eqL, eqV]
    rw [at_get hi2 hu]
    simp only
    cases h1 : decide (t = u)
    · exact .inr ⟨rfl, i, rfl⟩
    · rw [Bool.not_true, cond_false, Bool.true_and, wrap_succ (by omega)]
      exact ih (i + 1) f (by omega) (by omega) (by omega)
theorem h55 {n m : Option Bool} {c d : Bool} {xs ys : List V} (hx : ∀ x ∈ xs, isStr x) (hy : ∀ y ∈ ys, isStr y) (hb : xs.length ≤ 900) (k : Nat) :
    callP (evalFn Try.prog Try.cfg (k + 1002)) 55 [V.sl n c 1 xs, V.sl m d 1 ys] = some (V.bool (eqL xs ys)) := by
  by_cases hl : xs.length = ys.length
  · have k0 : (!decide ((↑xs.length : Int) = (↑ys.length : Int))) = false := by rw [decide_eq_true (by omega)]; rfl
    have ka := l55_ok n m c d xs ys (k + 1001) (k + 1001) 0
    rcases l55_run (n := n) (m := m) (c := c) (d := d) hx hy hl hb xs.length 0 (k + 1001) (by omega) (by omega) (by omega) with ⟨h1, h2⟩ | ⟨h1, j, h2⟩
    · rw [List.drop_zero, List.drop_zero] at h1
      rw [h1]; exact p55b_1 n m c d xs ys _ (k + 1001) k0 (ka _ h2)
    · rw [List.drop_zero, List.drop_zero] at h1
      rw [h1]; exact p55a_1 n m c d xs ys _ (k + 1001) k0 (ka _ h2)
  · rw [eqL_ne hl]
    exact p55b_0 n m c d xs ys 0 (k + 1001) (by rw [decide_eq_false (by omega)]; rfl)
def sameR (xs ys : List V) (fr mn gr gn : Int) : Bool := eqL xs ys && (decide (fr = gr) && decide (mn = gn))
theorem h49 {n m : Option Bool} {c d : Bool} {xs ys : List V} {fr mn gr gn : Int} (hx : ∀ x ∈ xs, isStr x) (hy : ∀ y ∈ ys, isStr y) (hb : xs.length ≤ 900) (k : Nat) :
    callP (evalFn Try.prog Try.cfg (k + 1003)) 49 [V.agg [V.sl n c 1 xs, .int .i64 fr, .int .i64 mn], V.agg [V.sl m d 1 ys, .int .i64 gr, .int .i64 gn]] = some (V.bool (sameR xs ys fr mn gr gn)) := by
  unfold sameR
  have h := h66 (n := n) (m := m) (c := c) (d := d) hx hy (by omega) k
  cases h1 : eqL xs ys
  · exact p49_2 n m c d xs ys fr mn gr gn (k + 1002) h h1
  cases h2 : decide (fr = gr)
  · exact p49_1 n m c d xs ys fr mn gr gn (k + 1002) h h1 h2
  · exact p49_0 n m c d xs ys fr mn gr gn (k + 1002) h h1 h2
theorem h50 {n m : Option Bool} {c d : Bool} {xs ys : List V} {fr mn gr gn : Int} (hx : ∀ x ∈ xs, isStr x) (hy : ∀ y ∈ ys, isStr y) (hb : xs.length ≤ 900) (k : Nat) :
    callP (evalFn Try.prog Try.cfg (k + 1003)) 50 [V.agg [V.sl n c 1 xs, .int .i64 fr, .int .i64 mn], V.agg [V.sl m d 1 ys, .int .i64 gr, .int .i64 gn]] = some (V.bool (sameR xs ys fr mn gr gn)) := by
  unfold sameR
  have h := h55 (n := n) (m := m) (c := c) (d := d) hx hy hb k
  cases h1 : eqL xs ys
  · exact p50_2 n m c d xs ys fr mn gr gn (k + 1002) h h1
  cases h2 : decide (fr = gr)
  · exact p50_1 n m c d xs ys fr mn gr gn (k + 1002) h h1 h2
  · exact p50_0 n m c d xs ys fr mn gr gn (k + 1002) h h1 h2
theorem h45 (n : Option Bool) (c : Bool) (xs : List V) (fr mn : Int) (k : Nat) : callP (evalFn Try.prog Try.cfg (k + 1)) 45 [V.agg [V.sl n c 1 xs, .int .i64 fr, .int .i64 mn]] = some (V.agg [V.sl n false 1 (xs.take 70), .int .i64 fr, .int .i64 mn]) := by
  refine (p45_0 n c xs fr mn k (SlcP.upto ?_ ?_)).trans ?_
  · split <;> omega
  · split <;> omega
  · rw [show (70 : Int) = ((70 : Nat) : Int) from rfl, take_min]
theorem sameR_refl {xs : List V} {fr mn : Int} (hx : ∀ x ∈ xs, isStr x) : sameR xs xs fr mn fr mn = true := by
  unfold sameR
  rw [eqL_refl fun x h => .inl (hx x h), decide_eq_true rfl, decide_eq_true rfl]; rfl

theorem g47 {n : Bool} {c : Bool} {xs : List V} {fr mn : Int} (hn : n = true → xs = []) (hx : ∀ x ∈ xs, isStr x) (hb : xs.length ≤ 900) {K : Nat} (hK : 1004 ≤ K) :
    callP (evalFn Try.prog Try.cfg K) 47 [V.agg [V.sl (some n) c 1 xs, V.int IntKind.i64 fr, V.int IntKind.i64 mn]] = some (V.bool (ringV xs fr mn)) := by
  obtain ⟨k, rfl⟩ : ∃ k, K = k + 1004 := ⟨K - 1004, by omega⟩
  exact h47 hn hx hb k
theorem g48 {n : Option Bool} {c : Bool} {xs : List V} {fr mn : Int} (hx : ∀ x ∈ xs, isStr x) (hb : xs.length ≤ 900) {K : Nat} (hK : 1003 ≤ K) :
    callP (evalFn Try.prog Try.cfg K) 48 [V.agg [V.sl n c 1 xs, V.int IntKind.i64 fr, V.int IntKind.i64 mn]] = some (V.bool (ringV xs fr mn)) := by
  obtain ⟨k, rfl⟩ : ∃ k, K = k + 1003 := ⟨K - 1003, by omega⟩
  exact h48 hx hb k
theorem g49 {n m : Option Bool} {c d : Bool} {xs ys : List V} {fr mn gr gn : Int} (hx : ∀ x ∈ xs, isStr x) (hy : ∀ y ∈ ys, isStr y) (hb : xs.length ≤ 900) {K : Nat} (hK : 1003 ≤ K) :
    callP (evalFn Try.prog Try.cfg K) 49 [V.agg [V.sl n c 1 xs, .int .i64 fr, .int .i64 mn], V.agg [V.sl m d 1 ys, .int .i64 gr, .int .i64 gn]] = some (V.bool (sameR xs ys fr mn gr gn)) := by
  obtain ⟨k, rfl⟩ : ∃ k, K = k + 1003 := ⟨K - 1003, by omega⟩
  exact h49 hx hy hb k
theorem g50 {n m : Option Bool} {c d : Bool} {xs ys : List V} {fr mn gr gn : Int} (hx : ∀ x ∈ xs, isStr x) (hy : ∀ y ∈ ys, isStr y) (hb : xs.length ≤ 900) {K : Nat} (hK : 1003 ≤ K) :
    callP (evalFn Try.prog Try.cfg K) 50 [V.agg [V.sl n c 1 xs, .int .i64 fr, .int .i64 mn], V.agg [V.sl m d 1 ys, .int .i64 gr, .int .i64 gn]] = some (V.bool (sameR xs ys fr mn gr gn)) := by
  obtain ⟨k, rfl⟩ : ∃ k, K = k + 1003 := ⟨K - 1003, by omega⟩
  exact h50 hx hy hb k
end Go.Proofs
