/-
  What the functions of devices answer, third part: sectors written and read.
-/
import Derived.Test.YtpnpneffbkdomaaDevD
set_option linter.unusedVariables false
set_option linter.unusedSimpArgs false
namespace Go.Proofs
open Go.Sym

def lastP (a : Int) : List V → Option (List UInt8)
  | [] => none
  | x :: r => match lastP a r with
    | some t => some t
    | none => match x with
      | .agg [.int _ b, .str t] => if b = a then some t else none
      | _ => none
def readR (xs ys : List V) (a : Int) : List UInt8 := (lastP a ys).getD (match at? xs a with | some (.str u) => u | _ => [])
def nilDev : V := V.agg [V.sl (some true) true 0 [], V.sl (some true) true 0 []]

theorem lastP_snoc {a b : Int} {t : List UInt8} : ∀ (l : List V), lastP a (l ++ [V.agg [V.int IntKind.i64 b, V.str t]]) = if b = a then some t else lastP a l := by
  intro l
  induction l with
  | nil => simp [lastP]
  | cons x r ih =>
    simp only [List.cons_append, lastP, ih]
    by_cases h : b = a
    · simp [h]
    · simp [h]

theorem l20_run {n m : Option Bool} {c d : Bool} {xs ys : List V} {a : Int} (hy : ∀ y ∈ ys, isPut y) (hb : ys.length ≤ 1000) : ∀ (r i f : Nat) (o : List UInt8), ys.length - i = r → i ≤ ys.length → r < f →
    l20 n m c d xs ys a f o i = some (.e2 ((lastP a (ys.drop i)).getD o) ys.length) := by
  intro r
  induction r with
  | zero =>
    intro i f o hr hi hf
    obtain ⟨f, rfl⟩ : ∃ g, f = g + 1 := ⟨f - 1, by omega⟩
    obtain rfl : i = ys.length := by omega
    rw [l20, decide_eq_false (by omega), cond_false, List.drop_length]
    rfl
  | succ r ih =>
    intro i f o hr hi hf
    obtain ⟨f, rfl⟩ : ∃ g, f = g + 1 := ⟨f - 1, by omega⟩
    have hi1 : i < ys.length := by omega
    obtain ⟨b, t, ht⟩ := hy ys[i] (List.getElem_mem hi1)
    rw [l20, decide_eq_true (by omega), cond_true, at_get hi1 ht, List.drop_eq_getElem_cons hi1, ht]
    simp only [lastP]
    rw [wrap_succ (by omega)]
    by_cases h : b = a
    · rw [decide_eq_true h, cond_true, ih (i + 1) f t (by omega) (by omega) (by omega), if_pos h]
      cases lastP a (ys.drop (i + 1)) <;> rfl
    · rw [decide_eq_false h, cond_false, ih (i + 1) f o (by omega) (by omega) (by omega), if_neg h]
      cases lastP a (ys.drop (i + 1)) <;> rfl

theorem l83_run {n m : Option Bool} {c d : Bool} {xs ys : List V} {a w : Int} (hy : ∀ y ∈ ys, isPut y) (hb : ys.length ≤ 1000) : ∀ (k f : Nat), k ≤ ys.length → k < f →
    (lastP a (ys.take k) = none ∧ l83 n m c d xs ys a w f ((k : Int) - 1) = some (.e2 (-1))) ∨ (∃ t, lastP a (ys.take k) = some t ∧ ∃ (j b : Int), l83 n m c d xs ys a w f ((k : Int) - 1) = some (.e0 j b t)) := by
  intro k
  induction k with
  | zero =>
    intro f hi hf
    obtain ⟨f, rfl⟩ : ∃ g, f = g + 1 := ⟨f - 1, by omega⟩
    rw [l83, decide_eq_false (by omega), cond_false]
    exact .inl ⟨rfl, rfl⟩
  | succ k ih =>
    intro f hi hf
    obtain ⟨f, rfl⟩ : ∃ g, f = g + 1 := ⟨f - 1, by omega⟩
    have hi1 : k < ys.length := by omega
    obtain ⟨b, t, ht⟩ := hy ys[k] (List.getElem_mem hi1)
    have e : ((k + 1 : Nat) : Int) - 1 = (k : Int) := by omega
    have e2 : ys.take (k + 1) = ys.take k ++ [V.agg [V.int IntKind.i64 b, V.str t]] := by rw [List.take_succ_eq_append_getElem hi1, ht]
    rw [e, l83, decide_eq_true (by omega), cond_true, at_get hi1 ht, e2, lastP_snoc]
    simp only
    by_cases h : b = a
    · rw [decide_eq_true h, cond_true, if_pos h]
      exact .inr ⟨t, rfl, k, b, rfl⟩
    · rw [decide_eq_false h, cond_false, if_neg h, wrap_i64 (by omega) (by omega)]
      exact ih f (by omega) (by omega)

theorem h59 {n m : Option Bool} {c d : Bool} {xs ys : List V} (hx : ∀ x ∈ xs, isStr x) (hy : ∀ y ∈ ys, isPut y) (hbx : xs.length ≤ 1000) (hby : ys.length ≤ 1000) (a : Int) (k : Nat) :
    callP (evalFn Try.prog Try.cfg (k + 1006)) 59 [V.agg [V.sl n c 1 xs, V.sl m d 2 ys], V.int IntKind.i64 a] = some (V.int IntKind.i64 (whyV xs ys a)) := by
  have h := h23 (n := n) (m := m) (c := c) (d := d) hx hy hbx hby k
  unfold whyV
  cases h1 : rightV xs ys
  · exact p59_0 n m c d xs ys a (k + 1005) h (by rw [h1]; rfl)
  · cases h2 : decide (a < 0)
    · cases h3 : decide ((↑xs.length : Int) ≤ a)
      · exact p59_3 n m c d xs ys a (k + 1005) h (by rw [h1]; rfl) h2 h3
      · exact p59_2 n m c d xs ys a (k + 1005) h (by rw [h1]; rfl) h2 h3
    · exact p59_1 n m c d xs ys a (k + 1005) h (by rw [h1]; rfl) h2
theorem h17 {n m : Option Bool} {c d : Bool} {xs ys : List V} (hx : ∀ x ∈ xs, isStr x) (hy : ∀ y ∈ ys, isPut y) (hbx : xs.length ≤ 1000) (hby : ys.length ≤ 1000) (a : Int) (k : Nat) :
    callP (evalFn Try.prog Try.cfg (k + 1006)) 17 [V.agg [V.sl n c 1 xs, V.sl m d 2 ys], V.int IntKind.i64 a] = some (V.int IntKind.i64 (whyV xs ys a)) := by
  have h := h24 (n := n) (m := m) (c := c) (d := d) hx hy hbx hby k
  unfold whyV
  cases h1 : rightV xs ys
  · exact p17_0 n m c d xs ys a (k + 1005) h (by rw [h1]; rfl)
  · cases h2 : decide (a < 0)
    · cases h3 : decide ((↑xs.length : Int) ≤ a)
      · exact p17_3 n m c d xs ys a (k + 1005) h (by rw [h1]; rfl) h2 h3
      · exact p17_2 n m c d xs ys a (k + 1005) h (by rw [h1]; rfl) h2 h3
    · exact p17_1 n m c d xs ys a (k + 1005) h (by rw [h1]; rfl) h2

/-- A sector that may be asked for is there. -/
theorem why_zero {xs ys : List V} {a : Int} (h : whyV xs ys a = 0) : 0 ≤ a ∧ a < xs.length := by
  unfold whyV at h
  cases h1 : rightV xs ys
  · rw [h1] at h; exact absurd h (show ¬ (1 : Int) = 0 by decide)
  · rw [h1] at h
    by_cases h2 : a < 0
    · rw [decide_eq_true h2] at h; exact absurd h (show ¬ (2 : Int) = 0 by decide)
    · by_cases h3 : (↑xs.length : Int) ≤ a
      · rw [decide_eq_false h2, decide_eq_true h3] at h; exact absurd h (show ¬ (2 : Int) = 0 by decide)
      · exact ⟨by omega, by omega⟩
theorem at_str {xs : List V} {a : Int} (hx : ∀ x ∈ xs, isStr x) (h0 : 0 ≤ a) (h1 : a < xs.length) : ∃ u, at? xs a = some (V.str u) := by
  obtain ⟨i, rfl⟩ : ∃ i : Nat, a = i := ⟨a.toNat, by omega⟩
  have hi : i < xs.length := by omega
  obtain ⟨u, hu⟩ := hx xs[i] (List.getElem_mem hi)
  exact ⟨u, at_get hi hu⟩

theorem h20 {n m : Option Bool} {c d : Bool} {xs ys : List V} (hx : ∀ x ∈ xs, isStr x) (hy : ∀ y ∈ ys, isPut y) (hby : ys.length ≤ 1000) {a : Int} (h0 : 0 ≤ a) (h1 : a < xs.length) (k : Nat) :
    callP (evalFn Try.prog Try.cfg (k + 1006)) 20 [V.agg [V.sl n c 1 xs, V.sl m d 2 ys], V.int IntKind.i64 a] = some (V.str (readR xs ys a)) := by
  obtain ⟨u, hu⟩ := at_str hx h0 h1
  have hl := l20_run (n := n) (m := m) (c := c) (d := d) (xs := xs) (a := a) hy hby ys.length 0 (k + 1005) u (by omega) (by omega) (by omega)
  rw [List.drop_zero] at hl
  refine (p20_0 n m c d xs ys a u _ _ (k + 1005) (IdxP.of_at hu) (l20_ok n m c d xs ys a (k + 1005) (k + 1005) u 0 _ hl)).trans ?_
  unfold readR
  rw [hu]

theorem h16no {n m : Option Bool} {c d : Bool} {xs ys : List V} (hx : ∀ x ∈ xs, isStr x) (hy : ∀ y ∈ ys, isPut y) (hbx : xs.length ≤ 1000) (hby : ys.length ≤ 1000) {a : Int} (h : ¬ whyV xs ys a = 0) (k : Nat) :
    callP (evalFn Try.prog Try.cfg (k + 1007)) 16 [V.agg [V.sl n c 1 xs, V.sl m d 2 ys], V.int IntKind.i64 a] = some (V.tup [V.str [], V.int IntKind.i64 (whyV xs ys a)]) :=
  p16b_0 n m c d xs ys a [] (k + 1006) (h59 hx hy hbx hby a k) (by rw [decide_eq_false h]; rfl)
theorem h16 {n m : Option Bool} {c d : Bool} {xs ys : List V} (hx : ∀ x ∈ xs, isStr x) (hy : ∀ y ∈ ys, isPut y) (hbx : xs.length ≤ 1000) (hby : ys.length ≤ 1000) {a : Int} (h : whyV xs ys a = 0) (k : Nat) :
    callP (evalFn Try.prog Try.cfg (k + 1007)) 16 [V.agg [V.sl n c 1 xs, V.sl m d 2 ys], V.int IntKind.i64 a] = some (V.tup [V.str (readR xs ys a), V.int IntKind.i64 0]) := by
  obtain ⟨h0, h1⟩ := why_zero h
  obtain ⟨u, hu⟩ := at_str hx h0 h1
  have c0 := h59 (n := n) (m := m) (c := c) (d := d) hx hy hbx hby a k
  have c1 : (!decide (whyV xs ys a = 0)) = false := by rw [decide_eq_true h]; rfl
  have hk := l83_ok n m c d xs ys a (whyV xs ys a) (k + 1005) (fun v b t hb => pr16_0 n m c d xs ys a (whyV xs ys a) v b t (k + 1004) hb) (fun v b t hb => pr16_1 n m c d xs ys a (whyV xs ys a) v b t (k + 1004) hb) (k + 1005) ((ys.length : Int) - 1)
  have e : IntKind.i64.wrap ((↑ys.length : Int) - 1) = (↑ys.length : Int) - 1 := wrap_i64 (by omega) (by omega)
  unfold readR
  rw [hu]
  rcases l83_run (n := n) (m := m) (c := c) (d := d) (xs := xs) (a := a) (w := whyV xs ys a) hy hby ys.length (k + 1005) (by omega) (by omega) with ⟨g1, g2⟩ | ⟨t, g1, j, b, g2⟩
  · rw [List.take_length] at g1
    rw [g1]
    have := hk _ g2
    rw [← e] at this
    exact p16b_1 n m c d xs ys a u (k + 1006) c0 c1 (p61_0 n m c d xs ys a (k + 1005)) (p83b_0 n m c d xs ys a _ _ (k + 1005) this) (IdxP.of_at hu)
  · rw [List.take_length] at g1
    rw [g1]
    have := hk _ g2
    rw [← e] at this
    exact p16a_1 n m c d xs ys a b t (k + 1006) c0 c1 (p61_0 n m c d xs ys a (k + 1005)) (p83a_0 n m c d xs ys a _ _ b t (k + 1005) this)

theorem h60 (n : Option Bool) (c : Bool) (xs : List V) (k : Nat) : callP (evalFn Try.prog Try.cfg (k + 1)) 60 [V.sl n c 2 xs] = some (V.sl n true 2 xs) := by
  refine (p60_0 n c xs k (SlcP.clip (by omega) (by omega))).trans ?_
  rw [List.take_of_length_le (by omega)]
theorem h15a {n m : Option Bool} {c d : Bool} {xs ys : List V} (hx : ∀ x ∈ xs, isStr x) (hy : ∀ y ∈ ys, isPut y) (hbx : xs.length ≤ 1000) (hby : ys.length ≤ 1000) {a : Int} (t : List UInt8) (h : ¬ whyV xs ys a = 0) (k : Nat) :
    callP (evalFn Try.prog Try.cfg (k + 1007)) 15 [V.agg [V.sl n c 1 xs, V.sl m d 2 ys], V.int IntKind.i64 a, V.str t] = some (V.tup [nilDev, V.int IntKind.i64 (whyV xs ys a)]) := by
  have c0 := h59 (n := n) (m := m) (c := c) (d := d) hx hy hbx hby a k
  cases ys with
  | nil => exact p15n_0 n m c d xs a t (k + 1006) c0 (by rw [decide_eq_false h]; rfl)
  | cons y ys => exact p15_0 n m c d xs ys y a t (k + 1006) c0 (by rw [decide_eq_false h]; rfl)
theorem h15b {n m : Option Bool} {c d : Bool} {xs ys : List V} (hx : ∀ x ∈ xs, isStr x) (hy : ∀ y ∈ ys, isPut y) (hbx : xs.length ≤ 1000) (hby : ys.length ≤ 1000) {a : Int} {t : List UInt8} (h : whyV xs ys a = 0) (ht : 128 < (↑t.length : Int)) (k : Nat) :
    callP (evalFn Try.prog Try.cfg (k + 1007)) 15 [V.agg [V.sl n c 1 xs, V.sl m d 2 ys], V.int IntKind.i64 a, V.str t] = some (V.tup [nilDev, V.int IntKind.i64 4]) := by
  have c0 := h59 (n := n) (m := m) (c := c) (d := d) hx hy hbx hby a k
  cases ys with
  | nil => exact p15n_1 n m c d xs a t (k + 1006) c0 (by rw [decide_eq_true h]; rfl) (decide_eq_true ht)
  | cons y ys => exact p15_1 n m c d xs ys y a t (k + 1006) c0 (by rw [decide_eq_true h]; rfl) (decide_eq_true ht)
theorem h15c {n m : Option Bool} {c d : Bool} {xs ys : List V} (hx : ∀ x ∈ xs, isStr x) (hy : ∀ y ∈ ys, isPut y) (hbx : xs.length ≤ 1000) (hby : ys.length ≤ 1000) {a : Int} {t : List UInt8} (h : whyV xs ys a = 0) (ht : ¬ 128 < (↑t.length : Int)) (h60 : (↑ys.length : Int) = 60) (k : Nat) :
    callP (evalFn Try.prog Try.cfg (k + 1007)) 15 [V.agg [V.sl n c 1 xs, V.sl m d 2 ys], V.int IntKind.i64 a, V.str t] = some (V.tup [nilDev, V.int IntKind.i64 6]) := by
  have c0 := h59 (n := n) (m := m) (c := c) (d := d) hx hy hbx hby a k
  cases ys with
  | nil => simp at h60
  | cons y ys => exact p15_2 n m c d xs ys y a t (k + 1006) c0 (by rw [decide_eq_true h]; rfl) (decide_eq_false ht) (decide_eq_true h60)
theorem h15d {n m : Option Bool} {c d : Bool} {xs ys : List V} (hx : ∀ x ∈ xs, isStr x) (hy : ∀ y ∈ ys, isPut y) (hbx : xs.length ≤ 1000) (hby : ys.length ≤ 1000) {a : Int} {t : List UInt8} (h : whyV xs ys a = 0) (ht : ¬ 128 < (↑t.length : Int)) (hn : ¬ (↑ys.length : Int) = 60) (k : Nat) :
    callP (evalFn Try.prog Try.cfg (k + 1007)) 15 [V.agg [V.sl n c 1 xs, V.sl m d 2 ys], V.int IntKind.i64 a, V.str t] = some (V.tup [V.agg [V.sl n c 1 xs, V.sl none false 2 (ys ++ [putV a t])], V.int IntKind.i64 0]) := by
  have c0 := h59 (n := n) (m := m) (c := c) (d := d) hx hy hbx hby a k
  have hm : maxLen' = 1099511627776 := rfl
  cases ys with
  | nil => exact p15n_2 n m c d xs a t (k + 1006) c0 (by rw [decide_eq_true h]; rfl) (decide_eq_false ht) (h60 m d [] (k + 1005))
  | cons y ys =>
    refine p15_3 n m c d xs ys y a t (k + 1006) c0 (by rw [decide_eq_true h]; rfl) (decide_eq_false ht) (decide_eq_false hn) (h60 m d (y :: ys) (k + 1005)) (GrdW.mk ⟨rfl, by decide, by decide, ?_⟩)
    simp only [List.length_cons, List.length_nil] at hby ⊢
    omega
theorem h21 {n m : Option Bool} {c d : Bool} {xs ys : List V} (hby : ys.length ≤ 1000) {a : Int} {t : List UInt8} (k : Nat) :
    callP (evalFn Try.prog Try.cfg (k + 1)) 21 [V.agg [V.sl n c 1 xs, V.sl m d 2 ys], V.int IntKind.i64 a, V.str t] = some (V.agg [V.sl n c 1 xs, V.sl none false 2 (ys ++ [putV a t])]) := by
  have hm : maxLen' = 1099511627776 := rfl
  exact p21_0 n m c d xs ys a t k (GrdW.mk ⟨rfl, by decide, by decide, by omega⟩) (GrdW.mk ⟨rfl, by decide, by decide, by simp only [List.nil_append]; omega⟩)
end Go.Proofs
