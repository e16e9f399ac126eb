/-
  What the functions of devices answer, second part.
-/
import Derived.Test.YtpnpneffbkdomaaDevB
set_option linter.unusedVariables false
set_option linter.unusedSimpArgs false
namespace Go.Proofs
open Go.Sym

theorem l24a_run {n m : Option Bool} {c d : Bool} {xs ys : List V} (hx : ∀ x ∈ xs, isStr x) (hb : xs.length ≤ 1000) : ∀ (r i f : Nat), xs.length - i = r → i ≤ xs.length → r < f →
    ((xs.drop i).any longV = false ∧ l24a n m c d xs ys f i = some (.e2 xs.length)) ∨ ((xs.drop i).any longV = true ∧ ∃ (j : Nat) (t : List UInt8), l24a n m c d xs ys f i = some (.e0 j t)) := by
  intro r
  induction r with
  | zero =>
    intro i f hr hi hf
    obtain ⟨f, rfl⟩ : ∃ g, f = g + 1 := ⟨f - 1, by omega⟩
    obtain rfl : i = xs.length := by omega
    rw [l24a, decide_eq_false (by omega), cond_false, List.drop_length]
    exact .inl ⟨rfl, rfl⟩
  | succ r ih =>
    intro i f hr hi hf
    obtain ⟨f, rfl⟩ : ∃ g, f = g + 1 := ⟨f - 1, by omega⟩
    have hi1 : i < xs.length := by omega
    obtain ⟨t, ht⟩ := hx xs[i] (List.getElem_mem hi1)
    rw [l24a, decide_eq_true (by omega), cond_true, at_get hi1 ht, List.drop_eq_getElem_cons hi1, ht, List.any_cons]
    simp only [longV]
    cases hd : decide (128 < (↑t.length : Int))
    · rw [cond_false, Bool.false_or, wrap_succ (by omega)]
      exact ih (i + 1) f (by omega) (by omega) (by omega)
    · rw [cond_true, Bool.true_or]
      exact .inr ⟨rfl, i, t, rfl⟩

theorem l24b_run {n m : Option Bool} {c d : Bool} {xs ys : List V} {v : Int} (hy : ∀ y ∈ ys, isPut y) (hb : ys.length ≤ 1000) : ∀ (r i f : Nat), ys.length - i = r → i ≤ ys.length → r < f →
    ((ys.drop i).any (oddV xs.length) = false ∧ l24b n m c d xs ys v f i = some (.e4 ys.length)) ∨
    ((ys.drop i).any (oddV xs.length) = true ∧ ∃ (j : Nat) (a : Int) (t : List UInt8), l24b n m c d xs ys v f i = some (.e0 j a t) ∨ l24b n m c d xs ys v f i = some (.e1 j a t) ∨ l24b n m c d xs ys v f i = some (.e2 j a t)) := by
  intro r
  induction r with
  | zero =>
    intro i f hr hi hf
    obtain ⟨f, rfl⟩ : ∃ g, f = g + 1 := ⟨f - 1, by omega⟩
    obtain rfl : i = ys.length := by omega
    rw [l24b, decide_eq_false (by omega), cond_false, List.drop_length]
    exact .inl ⟨rfl, rfl⟩
  | succ r ih =>
    intro i f hr hi hf
    obtain ⟨f, rfl⟩ : ∃ g, f = g + 1 := ⟨f - 1, by omega⟩
    have hi1 : i < ys.length := by omega
    obtain ⟨a, t, ht⟩ := hy ys[i] (List.getElem_mem hi1)
    rw [l24b, decide_eq_true (by omega), cond_true, at_get hi1 ht, List.drop_eq_getElem_cons hi1, ht, List.any_cons]
    simp only [oddV]
    cases h1 : decide (a < 0)
    · cases h2 : decide ((↑xs.length : Int) ≤ a)
      · cases h3 : decide (128 < (↑t.length : Int))
        · rw [cond_false, cond_false, cond_false, Bool.false_or, Bool.false_or, Bool.false_or, wrap_succ (by omega)]
          exact ih (i + 1) f (by omega) (by omega) (by omega)
        · exact .inr ⟨rfl, i, a, t, .inr (.inr rfl)⟩
      · exact .inr ⟨rfl, i, a, t, .inr (.inl rfl)⟩
    · exact .inr ⟨rfl, i, a, t, .inl rfl⟩

theorem h24 {n m : Option Bool} {c d : Bool} {xs ys : List V} (hx : ∀ x ∈ xs, isStr x) (hy : ∀ y ∈ ys, isPut y) (hbx : xs.length ≤ 1000) (hby : ys.length ≤ 1000) (k : Nat) :
    callP (evalFn Try.prog Try.cfg (k + 1005)) 24 [V.agg [V.sl n c 1 xs, V.sl m d 2 ys]] = some (V.bool (rightV xs ys)) := by
  unfold rightV
  by_cases h1 : 1 ≤ (↑xs.length : Int)
  · by_cases h2 : (↑xs.length : Int) ≤ 64
    · by_cases h3 : (↑ys.length : Int) ≤ 60
      · rw [decide_eq_true h1, decide_eq_true h2, decide_eq_true h3]
        have k1 : decide ((↑xs.length : Int) < 1) = false := decide_eq_false (by omega)
        have k2 : decide (64 < (↑xs.length : Int)) = false := decide_eq_false (by omega)
        have k3 : decide (60 < (↑ys.length : Int)) = false := decide_eq_false (by omega)
        have ka := l24a_ok n m c d xs ys (k + 1004) (k + 1004) 0
        rcases l24a_run (n := n) (m := m) (c := c) (d := d) (ys := ys) hx hbx xs.length 0 (k + 1004) (by omega) (by omega) (by omega) with ⟨h5, hl⟩ | ⟨h5, j, t, hl⟩
        · rw [List.drop_zero] at h5
          rw [h5]
          have kb := l24b_ok n m c d xs ys xs.length (k + 1004) (k + 1004) 0
          rcases l24b_run (n := n) (m := m) (c := c) (d := d) (xs := xs) (v := xs.length) hy hby ys.length 0 (k + 1004) (by omega) (by omega) (by omega) with ⟨h6, hm⟩ | ⟨h6, j, a, t, hm⟩
          · rw [List.drop_zero] at h6
            rw [h6]
            exact p24e_3 n m c d xs ys xs.length _ (k + 1004) k1 k2 k3 (ka _ hl) (kb _ hm)
          · rw [List.drop_zero] at h6
            rw [h6]
            rcases hm with hm | hm | hm
            · exact p24b_3 n m c d xs ys xs.length _ a t (k + 1004) k1 k2 k3 (ka _ hl) (kb _ hm)
            · exact p24c_3 n m c d xs ys xs.length _ a t (k + 1004) k1 k2 k3 (ka _ hl) (kb _ hm)
            · exact p24d_3 n m c d xs ys xs.length _ a t (k + 1004) k1 k2 k3 (ka _ hl) (kb _ hm)
        · rw [List.drop_zero] at h5
          rw [h5]
          exact p24a_3 n m c d xs ys _ t (k + 1004) k1 k2 k3 (ka _ hl)
      · rw [decide_eq_true h1, decide_eq_true h2, decide_eq_false h3]
        exact p24e_2 n m c d xs ys 0 0 (k + 1004) (decide_eq_false (by omega)) (decide_eq_false (by omega)) (decide_eq_true (by omega))
    · rw [decide_eq_true h1, decide_eq_false h2]
      exact p24e_1 n m c d xs ys 0 0 (k + 1004) (decide_eq_false (by omega)) (decide_eq_true (by omega))
  · rw [decide_eq_false h1]
    exact p24e_0 n m c d xs ys 0 0 (k + 1004) (decide_eq_true (by omega))

/-! ### Which are the same -/
theorem eqL_len : ∀ {xs ys : List V}, eqL xs ys = true → xs.length = ys.length := by
  intro xs
  induction xs with
  | nil => intro ys h; cases ys with | nil => rfl | cons y r => cases h
  | cons x r ih =>
    intro ys h
    cases ys with
    | nil => cases h
    | cons y s => simp only [eqL, Bool.and_eq_true] at h; simp [ih h.2]

theorem l66_run {n m : Option Bool} {c d : Bool} {xs ys : List V} (hx : ∀ x ∈ xs, isStr x) (hy : ∀ y ∈ ys, isStr y) (hl : xs.length = ys.length) (hb : xs.length ≤ 1000) : ∀ (r i f : Nat), xs.length - i = r → i ≤ xs.length → r < f →
    (eqL (xs.drop i) (ys.drop i) = true ∧ l66 n m c d xs ys f i = some (.e2 xs.length)) ∨ (eqL (xs.drop i) (ys.drop i) = false ∧ ∃ j : Nat, l66 n m c d xs ys f i = some (.e0 j)) := by
  intro r
  induction r with
  | zero =>
    intro i f hr hi hf
    obtain ⟨f, rfl⟩ : ∃ g, f = g + 1 := ⟨f - 1, by omega⟩
    obtain rfl : i = xs.length := by omega
    rw [l66, decide_eq_false (by omega), cond_false, List.drop_length, hl, List.drop_length]
    exact .inl ⟨rfl, rfl⟩
  | succ r ih =>
    intro i f hr hi hf
    obtain ⟨f, rfl⟩ : ∃ g, f = g + 1 := ⟨f - 1, by omega⟩
    have hi1 : i < xs.length := by omega
    have hi2 : i < ys.length := by omega
    obtain ⟨t, ht⟩ := hx xs[i] (List.getElem_mem hi1)
    obtain ⟨u, hu⟩ := hy ys[i] (List.getElem_mem hi2)
    rw [l66, decide_eq_true (by omega), cond_true, at_get hi1 ht, List.drop_eq_getElem_cons hi1, List.drop_eq_getElem_cons hi2, ht, hu]
    simp only [eqL, eqV]
    rw [at_get hi2 hu]
    simp only
    cases h1 : decide (t = u)
    · exact .inr ⟨rfl, i, rfl⟩
    · rw [Bool.not_true, cond_false, Bool.true_and, wrap_succ (by omega)]
      exact ih (i + 1) f (by omega) (by omega) (by omega)
theorem l67_run {n m : Option Bool} {c d : Bool} {xs ys : List V} (hx : ∀ x ∈ xs, isPut x) (hy : ∀ y ∈ ys, isPut y) (hl : xs.length = ys.length) (hb : xs.length ≤ 1000) : ∀ (r i f : Nat), xs.length - i = r → i ≤ xs.length → r < f →
    (eqL (xs.drop i) (ys.drop i) = true ∧ l67 n m c d xs ys f i = some (.e2 xs.length)) ∨ (eqL (xs.drop i) (ys.drop i) = false ∧ ∃ j : Nat, l67 n m c d xs ys f i = some (.e0 j)) := by
  intro r
  induction r with
  | zero =>
    intro i f hr hi hf
    obtain ⟨f, rfl⟩ : ∃ g, f = g + 1 := ⟨f - 1, by omega⟩
    obtain rfl : i = xs.length := by omega
    rw [l67, decide_eq_false (by omega), cond_false, List.drop_length, hl, List.drop_length]
    exact .inl ⟨rfl, rfl⟩
  | succ r ih =>
    intro i f hr hi hf
    obtain ⟨f, rfl⟩ : ∃ g, f = g + 1 := ⟨f - 1, by omega⟩
    have hi1 : i < xs.length := by omega
    have hi2 : i < ys.length := by omega
    obtain ⟨a, t, ht⟩ := hx xs[i] (List.getElem_mem hi1)
    obtain ⟨b, u, hu⟩ := hy ys[i] (List.getElem_mem hi2)
    rw [l67, decide_eq_true (by omega), cond_true, at_get hi1 ht, List.drop_eq_getElem_cons hi1, List.drop_eq_getElem_cons hi2, ht, hu]
    simp only [eqL, eqV]
    rw [at_get hi2 hu]
    simp only
    cases h1 : (decide (a = b) && (decide (t = u) && true))
    · exact .inr ⟨rfl, i, rfl⟩
    · rw [Bool.not_true, cond_false, Bool.true_and, wrap_succ (by omega)]
      exact ih (i + 1) f (by omega) (by omega) (by omega)
theorem l19a_run {n m : Option Bool} {c d : Bool} {xs ys : List V} {nb mb : Option Bool} {cb db : Bool} {xs2 ys2 : List V} (hx : ∀ x ∈ xs, isStr x) (hy : ∀ y ∈ xs2, isStr y) (hl : xs.length = xs2.length) (hb : xs.length ≤ 1000) : ∀ (r i f : Nat), xs.length - i = r → i ≤ xs.length → r < f →
    (eqL (xs.drop i) (xs2.drop i) = true ∧ l19a n m c d xs ys nb mb cb db xs2 ys2 f i = some (.e2 xs.length)) ∨ (eqL (xs.drop i) (xs2.drop i) = false ∧ ∃ j : Nat, l19a n m c d xs ys nb mb cb db xs2 ys2 f i = some (.e0 j)) := by
  intro r
  induction r with
  | zero =>
    intro i f hr hi hf
    obtain ⟨f, rfl⟩ : ∃ g, f = g + 1 := ⟨f - 1, by omega⟩
    obtain rfl : i = xs.length := by omega
    rw [l19a, decide_eq_false (by omega), cond_false, List.drop_length, hl, List.drop_length]
    exact .inl ⟨rfl, rfl⟩
  | succ r ih =>
    intro i f hr hi hf
    obtain ⟨f, rfl⟩ : ∃ g, f = g + 1 := ⟨f - 1, by omega⟩
    have hi1 : i < xs.length := by omega
    have hi2 : i < xs2.length := by omega
    obtain ⟨t, ht⟩ := hx xs[i] (List.getElem_mem hi1)
    obtain ⟨u, hu⟩ := hy xs2[i] (List.getElem_mem hi2)
    rw [l19a, decide_eq_true (by omega), cond_true, at_get hi1 ht, List.drop_eq_getElem_cons hi1, List.drop_eq_getElem_cons hi2, ht, hu]
    simp only [eqL, eqV]
    rw [at_get hi2 hu]
    simp only
    cases h1 : decide (t = u)
    · exact .inr ⟨rfl, i, rfl⟩
    · rw [Bool.not_true, cond_false, Bool.true_and, wrap_succ (by omega)]
      exact ih (i + 1) f (by omega) (by omega) (by omega)
theorem l19b_run {n m : Option Bool} {c d : Bool} {xs ys : List V} {nb mb : Option Bool} {cb db : Bool} {xs2 ys2 : List V} {v : Int} (hx : ∀ x ∈ ys, isPut x) (hy : ∀ y ∈ ys2, isPut y) (hl : ys.length = ys2.length) (hb : ys.length ≤ 1000) : ∀ (r i f : Nat), ys.length - i = r → i ≤ ys.length → r < f →
    (eqL (ys.drop i) (ys2.drop i) = true ∧ l19b n m c d xs ys nb mb cb db xs2 ys2 v f i = some (.e2 ys.length)) ∨ (eqL (ys.drop i) (ys2.drop i) = false ∧ ∃ j : Nat, l19b n m c d xs ys nb mb cb db xs2 ys2 v f i = some (.e0 j)) := by
  intro r
  induction r with
  | zero =>
    intro i f hr hi hf
    obtain ⟨f, rfl⟩ : ∃ g, f = g + 1 := ⟨f - 1, by omega⟩
    obtain rfl : i = ys.length := by omega
    rw [l19b, decide_eq_false (by omega), cond_false, List.drop_length, hl, List.drop_length]
    exact .inl ⟨rfl, rfl⟩
  | succ r ih =>
    intro i f hr hi hf
    obtain ⟨f, rfl⟩ : ∃ g, f = g + 1 := ⟨f - 1, by omega⟩
    have hi1 : i < ys.length := by omega
    have hi2 : i < ys2.length := by omega
    obtain ⟨a, t, ht⟩ := hx ys[i] (List.getElem_mem hi1)
    obtain ⟨b, u, hu⟩ := hy ys2[i] (List.getElem_mem hi2)
    rw [l19b, decide_eq_true (by omega), cond_true, at_get hi1 ht, List.drop_eq_getElem_cons hi1, List.drop_eq_getElem_cons hi2, ht, hu]
    simp only [eqL, eqV]
    rw [at_get hi2 hu]
    simp only
    cases h1 : (decide (a = b) && (decide (t = u) && true))
    · exact .inr ⟨rfl, i, rfl⟩
    · rw [Bool.not_true, cond_false, Bool.true_and, wrap_succ (by omega)]
      exact ih (i + 1) f (by omega) (by omega) (by omega)

theorem eqL_ne {xs ys : List V} (h : ¬ xs.length = ys.length) : eqL xs ys = false := by
  cases he : eqL xs ys with
  | false => rfl
  | true => exact absurd (eqL_len he) h
theorem h66 {n m : Option Bool} {c d : Bool} {xs ys : List V} (hx : ∀ x ∈ xs, isStr x) (hy : ∀ y ∈ ys, isStr y) (hb : xs.length ≤ 1000) (k : Nat) :
    callP (evalFn Try.prog Try.cfg (k + 1002)) 66 [V.sl n c 1 xs, V.sl m d 1 ys] = some (V.bool (eqL xs ys)) := by
  by_cases hl : xs.length = ys.length
  · have k0 : (!decide ((↑xs.length : Int) = (↑ys.length : Int))) = false := by rw [decide_eq_true (by omega)]; rfl
    have ka := l66_ok n m c d xs ys (k + 1001) (k + 1001) 0
    rcases l66_run (n := n) (m := m) (c := c) (d := d) hx hy hl hb xs.length 0 (k + 1001) (by omega) (by omega) (by omega) with ⟨h1, h2⟩ | ⟨h1, j, h2⟩
    · rw [List.drop_zero, List.drop_zero] at h1
      rw [h1]; exact p66b_1 n m c d xs ys _ (k + 1001) k0 (ka _ h2)
    · rw [List.drop_zero, List.drop_zero] at h1
      rw [h1]; exact p66a_1 n m c d xs ys _ (k + 1001) k0 (ka _ h2)
  · rw [eqL_ne hl]
    exact p66b_0 n m c d xs ys 0 (k + 1001) (by rw [decide_eq_false (by omega)]; rfl)
theorem h67 {n m : Option Bool} {c d : Bool} {xs ys : List V} (hx : ∀ x ∈ xs, isPut x) (hy : ∀ y ∈ ys, isPut y) (hb : xs.length ≤ 1000) (k : Nat) :
    callP (evalFn Try.prog Try.cfg (k + 1002)) 67 [V.sl n c 2 xs, V.sl m d 2 ys] = some (V.bool (eqL xs ys)) := by
  by_cases hl : xs.length = ys.length
  · have k0 : (!decide ((↑xs.length : Int) = (↑ys.length : Int))) = false := by rw [decide_eq_true (by omega)]; rfl
    have ka := l67_ok n m c d xs ys (k + 1001) (k + 1001) 0
    rcases l67_run (n := n) (m := m) (c := c) (d := d) hx hy hl hb xs.length 0 (k + 1001) (by omega) (by omega) (by omega) with ⟨h1, h2⟩ | ⟨h1, j, h2⟩
    · rw [List.drop_zero, List.drop_zero] at h1
      rw [h1]; exact p67b_1 n m c d xs ys _ (k + 1001) k0 (ka _ h2)
    · rw [List.drop_zero, List.drop_zero] at h1
      rw [h1]; exact p67a_1 n m c d xs ys _ (k + 1001) k0 (ka _ h2)
  · rw [eqL_ne hl]
    exact p67b_0 n m c d xs ys 0 (k + 1001) (by rw [decide_eq_false (by omega)]; rfl)
theorem h25 {n m : Option Bool} {c d : Bool} {xs ys : List V} {nb mb : Option Bool} {cb db : Bool} {xs2 ys2 : List V} (hx : ∀ x ∈ xs, isStr x) (hx2 : ∀ y ∈ xs2, isStr y) (hy : ∀ x ∈ ys, isPut x) (hy2 : ∀ y ∈ ys2, isPut y) (hbx : xs.length ≤ 1000) (hby : ys.length ≤ 1000) (k : Nat) :
    callP (evalFn Try.prog Try.cfg (k + 1003)) 25 [V.agg [V.sl n c 1 xs, V.sl m d 2 ys], V.agg [V.sl nb cb 1 xs2, V.sl mb db 2 ys2]] = some (V.bool (eqL xs xs2 && eqL ys ys2)) := by
  cases h : eqL xs xs2
  · exact p25_1 n m c d xs ys nb mb cb db xs2 ys2 (k + 1002) (h66 hx hx2 hbx k) h
  · exact p25_0 n m c d xs ys nb mb cb db xs2 ys2 (k + 1002) (h66 hx hx2 hbx k) h (h67 hy hy2 hby k)
theorem h19 {n m : Option Bool} {c d : Bool} {xs ys : List V} {nb mb : Option Bool} {cb db : Bool} {xs2 ys2 : List V} (hx : ∀ x ∈ xs, isStr x) (hx2 : ∀ y ∈ xs2, isStr y) (hy : ∀ x ∈ ys, isPut x) (hy2 : ∀ y ∈ ys2, isPut y) (hbx : xs.length ≤ 1000) (hby : ys.length ≤ 1000) (k : Nat) :
    callP (evalFn Try.prog Try.cfg (k + 1003)) 19 [V.agg [V.sl n c 1 xs, V.sl m d 2 ys], V.agg [V.sl nb cb 1 xs2, V.sl mb db 2 ys2]] = some (V.bool (eqL xs xs2 && eqL ys ys2)) := by
  by_cases hl : xs.length = xs2.length
  · have k0 : (!decide ((↑xs.length : Int) = (↑xs2.length : Int))) = false := by rw [decide_eq_true (by omega)]; rfl
    by_cases hm : ys.length = ys2.length
    · have k1 : (!decide ((↑ys.length : Int) = (↑ys2.length : Int))) = false := by rw [decide_eq_true (by omega)]; rfl
      have ka := l19a_ok n m c d xs ys nb mb cb db xs2 ys2 (k + 1002) (k + 1002) 0
      rcases l19a_run (n := n) (m := m) (c := c) (d := d) (ys := ys) (nb := nb) (mb := mb) (cb := cb) (db := db) (ys2 := ys2) hx hx2 hl hbx xs.length 0 (k + 1002) (by omega) (by omega) (by omega) with ⟨h1, h2⟩ | ⟨h1, j, h2⟩
      · rw [List.drop_zero, List.drop_zero] at h1
        rw [h1]
        have kb := l19b_ok n m c d xs ys nb mb cb db xs2 ys2 xs.length (k + 1002) (k + 1002) 0
        rcases l19b_run (n := n) (m := m) (c := c) (d := d) (xs := xs) (nb := nb) (mb := mb) (cb := cb) (db := db) (xs2 := xs2) (v := xs.length) hy hy2 hm hby ys.length 0 (k + 1002) (by omega) (by omega) (by omega) with ⟨h3, h4⟩ | ⟨h3, j, h4⟩
        · rw [List.drop_zero, List.drop_zero] at h3
          rw [h3]
          exact p19c_2 n m c d xs ys nb mb cb db xs2 ys2 xs.length _ (k + 1002) k0 k1 (ka _ h2) (kb _ h4)
        · rw [List.drop_zero, List.drop_zero] at h3
          rw [h3]
          exact p19b_2 n m c d xs ys nb mb cb db xs2 ys2 xs.length _ (k + 1002) k0 k1 (ka _ h2) (kb _ h4)
      · rw [List.drop_zero, List.drop_zero] at h1
        rw [h1]
        exact p19a_2 n m c d xs ys nb mb cb db xs2 ys2 _ (k + 1002) k0 k1 (ka _ h2)
    · rw [eqL_ne hm, Bool.and_false]
      exact p19c_1 n m c d xs ys nb mb cb db xs2 ys2 0 0 (k + 1002) k0 (by rw [decide_eq_false (by omega)]; rfl)
  · rw [eqL_ne hl, Bool.false_and]
    exact p19c_0 n m c d xs ys nb mb cb db xs2 ys2 0 0 (k + 1002) (by rw [decide_eq_false (by omega)]; rfl)
end Go.Proofs
