/-
  What the functions of devices answer, fourth part: barriers and crashes.
-/
import Derived.Test.YtpnpneffbkdomaaDevG
set_option linter.unusedVariables false
set_option linter.unusedSimpArgs false
set_option linter.constructorNameAsVariable false
set_option maxRecDepth 100000
namespace Go.Proofs
open Go.Sym

/-- A put to a sector that is there. -/
def putIn (len : Nat) (y : V) : Prop := ∃ (b : Nat) (t : List UInt8), y = V.agg [V.int IntKind.i64 b, V.str t] ∧ b < len
def keptV (keep : Int) : List V → List V
  | [] => []
  | y :: r => bif decide (keep % 2 = 1) then y :: keptV (keep / 2) r else keptV (keep / 2) r

theorem bit_and {x : Int} (h0 : 0 ≤ x) (h1 : x < 18446744073709551616) : IntKind.u64.wrap (↑(BitVec.ofInt IntKind.u64.bits x &&& BitVec.ofInt IntKind.u64.bits 1).toNat : Int) = x % 2 := by
  have e : (BitVec.ofInt 64 x &&& BitVec.ofInt 64 1).toNat = x.toNat % 2 := by
    rw [BitVec.toNat_and, BitVec.toNat_ofInt, BitVec.toNat_ofInt]
    have e1 : (x % (2 ^ 64 : Nat)).toNat = x.toNat := by
      have : ((2 ^ 64 : Nat) : Int) = 18446744073709551616 := by decide
      rw [this]; omega
    have e2 : ((1 : Int) % (2 ^ 64 : Nat)).toNat = 1 := by decide
    rw [e1, e2, Nat.and_one_is_mod]
  show IntKind.u64.wrap (↑(BitVec.ofInt 64 x &&& BitVec.ofInt 64 1).toNat : Int) = x % 2
  rw [e, wrap_u64]; omega
theorem div_pow_lt {x : Int} (h0 : 0 ≤ x) (h1 : x < 18446744073709551616) (i : Nat) : 0 ≤ x / 2 ^ i ∧ x / 2 ^ i < 18446744073709551616 := by
  have hp : (0 : Int) < 2 ^ i := Int.pow_pos (by decide)
  exact ⟨Int.ediv_nonneg h0 (by omega), Int.lt_of_le_of_lt (Int.ediv_le_self _ h0) h1⟩
theorem div_succ {x : Int} (i : Nat) : x / 2 ^ i / 2 = x / 2 ^ (i + 1) := by
  rw [Int.pow_succ, Int.ediv_ediv_of_nonneg (Int.le_of_lt (Int.pow_pos (by decide)))]

theorem l86_run {m : Option Bool} {c d : Bool} {xs ys : List V} {keep : Int} (k0 : 0 ≤ keep) (k1 : keep < 18446744073709551616) (hy : ∀ y ∈ ys, putIn xs.length y) (hb : ys.length ≤ 64) : ∀ (r i f : Nat) (s : List V), ys.length - i = r → i ≤ ys.length → r < f → s.length = xs.length →
    l86 m c d xs ys keep f i s = some (.e3 ys.length (crashV keep i (ys.drop i) s)) := by
  intro r
  induction r with
  | zero =>
    intro i f s hr hi hf hs
    obtain ⟨f, rfl⟩ : ∃ g, f = g + 1 := ⟨f - 1, by omega⟩
    obtain rfl : i = ys.length := by omega
    rw [l86, decide_eq_false (by omega), cond_false, List.drop_length]
    rfl
  | succ r ih =>
    intro i f s hr hi hf hs
    obtain ⟨f, rfl⟩ : ∃ g, f = g + 1 := ⟨f - 1, by omega⟩
    have hi1 : i < ys.length := by omega
    obtain ⟨b, t, ht, hlt⟩ := hy ys[i] (List.getElem_mem hi1)
    rw [l86, decide_eq_true (by omega), cond_true, at_get hi1 ht, List.drop_eq_getElem_cons hi1, ht]
    simp only [crashV]
    rw [if_pos (by omega)]
    have e1 : keep.fdiv (2 ^ min (↑i : Int).toNat IntKind.u64.bits) = keep / 2 ^ i := by
      have : min (↑i : Int).toNat IntKind.u64.bits = i := by
        show min (↑i : Int).toNat 64 = i
        omega
      rw [this, Int.fdiv_eq_ediv_of_nonneg _ (Int.le_of_lt (Int.pow_pos (by decide)))]
    obtain ⟨g0, g1⟩ := div_pow_lt k0 k1 i
    rw [e1, bit_and g0 g1, wrap_succ (by omega)]
    unfold bitV
    cases hb : decide (keep / 2 ^ i % 2 = 1)
    · rw [cond_false, cond_false]
      exact ih (i + 1) f s (by omega) (by omega) (by omega) hs
    · rw [cond_true, cond_true, decide_eq_true (by omega), cond_true]
      exact ih (i + 1) f _ (by omega) (by omega) (by omega) (by simp [hs])

theorem l28a_run {n m : Option Bool} {c d : Bool} {xs ys : List V} {keep : Int} (k0 : 0 ≤ keep) (k1 : keep < 18446744073709551616) (hy : ∀ y ∈ ys, isPut y) (hb : ys.length ≤ 1000) : ∀ (r i f : Nat) (q : Int) (l : List V), ys.length - i = r → i ≤ ys.length → r < f → l.length ≤ i → 0 ≤ q → q < 18446744073709551616 →
    ∃ q', l28a n m c d xs ys keep f q i l = some (.e2 q' ys.length (l ++ keptV q (ys.drop i))) := by
  have hm : maxLen' = 1099511627776 := rfl
  intro r
  induction r with
  | zero =>
    intro i f q l hr hi hf hl q0 q1
    obtain ⟨f, rfl⟩ : ∃ g, f = g + 1 := ⟨f - 1, by omega⟩
    obtain rfl : i = ys.length := by omega
    rw [l28a, decide_eq_false (by omega), cond_false, List.drop_length]
    exact ⟨q, by simp [keptV]⟩
  | succ r ih =>
    intro i f q l hr hi hf hl q0 q1
    obtain ⟨f, rfl⟩ : ∃ g, f = g + 1 := ⟨f - 1, by omega⟩
    have hi1 : i < ys.length := by omega
    obtain ⟨b, t, ht⟩ := hy ys[i] (List.getElem_mem hi1)
    rw [l28a, decide_eq_true (by omega), cond_true, at_get hi1 ht, List.drop_eq_getElem_cons hi1, ht]
    simp only [keptV]
    have e1 : q.tmod 2 = q % 2 := Int.tmod_eq_emod_of_nonneg q0
    have e2 : IntKind.u64.wrap (q.tdiv 2) = q / 2 := by
      rw [Int.tdiv_eq_ediv_of_nonneg q0, wrap_u64]; omega
    rw [e1, e2, wrap_succ (by omega)]
    cases hb : decide (q % 2 = 1)
    · rw [cond_false, cond_false]
      exact ih (i + 1) f _ l (by omega) (by omega) (by omega) (by omega) (by omega) (by omega)
    · rw [cond_true, cond_true, if_pos ⟨by trivial, by decide, by decide, by omega⟩]
      obtain ⟨q', h⟩ := ih (i + 1) f (q / 2) (l ++ [V.agg [V.int IntKind.i64 b, V.str t]]) (by omega) (by omega) (by omega) (by simp; omega) (by omega) (by omega)
      exact ⟨q', by rw [h]; simp⟩

theorem l28b_run {n m : Option Bool} {c d : Bool} {xs ys : List V} {keep kq i0 : Int} {l : List V} (hb : xs.length ≤ 1000) : ∀ (r i f : Nat) (rs : List V), xs.length - i = r → i ≤ xs.length → r < f → rs.length = i →
    l28b n m c d xs ys keep kq i0 l f i rs = some (.e2 xs.length (rs ++ (List.range' i (xs.length - i)).map fun j : Nat => V.str (readR xs l j))) := by
  have hm : maxLen' = 1099511627776 := rfl
  intro r
  induction r with
  | zero =>
    intro i f rs hr hi hf hl
    obtain ⟨f, rfl⟩ : ∃ g, f = g + 1 := ⟨f - 1, by omega⟩
    rw [l28b, decide_eq_false (by omega), cond_false, hr]
    obtain rfl : i = xs.length := by omega
    simp
  | succ r ih =>
    intro i f rs hr hi hf hl
    obtain ⟨f, rfl⟩ : ∃ g, f = g + 1 := ⟨f - 1, by omega⟩
    rw [l28b, decide_eq_true (by omega), cond_true, decide_eq_true (by omega), cond_true, if_pos ⟨by trivial, by decide, by decide, by omega⟩, wrap_succ (by omega),
      ih (i + 1) f _ (by omega) (by omega) (by omega) (by simp [hl])]
    rw [show xs.length - i = (xs.length - (i + 1)) + 1 by omega, List.range'_succ]
    simp

/-- What stays, told sector by sector. -/
theorem crash_eq {keep : Int} : ∀ (ys : List V) (i : Nat) (s : List V), (∀ x ∈ s, isStr x) → (∀ y ∈ ys, putIn s.length y) →
    crashV keep i ys s = (List.range' 0 s.length).map fun j : Nat => V.str (readR s (keptV (keep / 2 ^ i) ys) j) := by
  intro ys
  induction ys with
  | nil =>
    intro i s hs _
    simp only [crashV, keptV]
    apply List.ext_getElem
    · simp
    · intro j h1 h2
      obtain ⟨u, hu⟩ := hs s[j] (List.getElem_mem h1)
      simp only [List.getElem_map, List.getElem_range', Nat.zero_add, Nat.one_mul]
      unfold readR
      rw [at_get h1 hu, hu]
      rfl
  | cons y r ih =>
    intro i s hs hy
    obtain ⟨b, t, rfl, hlt⟩ := hy _ (List.mem_cons_self ..)
    have hy' : ∀ y ∈ r, putIn s.length y := fun y h => hy y (List.mem_cons_of_mem _ h)
    simp only [crashV, keptV, bitV]
    rw [div_succ]
    cases hb : decide (keep / 2 ^ i % 2 = 1)
    · rw [cond_false, cond_false]
      exact ih (i + 1) s hs hy'
    · rw [cond_true, cond_true, Int.toNat_natCast]
      have hs' : ∀ x ∈ s.set b (V.str t), isStr x := fun x h => by
        rcases List.mem_or_eq_of_mem_set h with h | h
        · exact hs x h
        · exact ⟨t, h⟩
      rw [ih (i + 1) _ hs' (by rw [List.length_set]; exact hy'), List.length_set]
      apply List.map_congr_left
      intro j hj
      have hj' : j < s.length := by simpa using hj
      congr 1
      unfold readR
      simp only [lastP]
      cases lastP (↑j : Int) (keptV (keep / 2 ^ (i + 1)) r) with
      | some u => rfl
      | none =>
        by_cases hbj : b = j
        · subst hbj
          rw [if_pos rfl, at_nat, List.getElem?_set_self (by omega)]
          rfl
        · rw [if_neg (by omega), at_nat, at_nat, List.getElem?_set_ne hbj]

/-- What may be in a device that may be. -/
theorem right_put {xs ys : List V} (hy : ∀ y ∈ ys, isPut y) (h : rightV xs ys = true) : (∀ y ∈ ys, putIn xs.length y) ∧ 1 ≤ xs.length ∧ ys.length ≤ 60 := by
  unfold rightV at h
  simp only [Bool.and_eq_true, decide_eq_true_eq, Bool.not_eq_true', List.any_eq_false] at h
  obtain ⟨h1, h2, h3, h4, h5⟩ := h
  refine ⟨fun y hm => ?_, by omega, by omega⟩
  obtain ⟨a, t, rfl⟩ := hy y hm
  have := h5 _ hm
  simp only [oddV, Bool.or_eq_true, decide_eq_true_eq, not_or] at this
  obtain ⟨g1, g2, g3⟩ := this
  exact ⟨a.toNat, t, by rw [Int.toNat_of_nonneg (by omega)], by omega⟩

theorem h27no {n m : Option Bool} {c d : Bool} {xs ys : List V} (hx : ∀ x ∈ xs, isStr x) (hy : ∀ y ∈ ys, isPut y) (hbx : xs.length ≤ 1000) (hby : ys.length ≤ 1000) {keep : Int} (h : rightV xs ys = false) (k : Nat) :
    callP (evalFn Try.prog Try.cfg (k + 1006)) 27 [V.agg [V.sl n c 1 xs, V.sl m d 2 ys], V.int IntKind.u64 keep] = some (V.tup [V.agg [V.sl (some true) true 0 [], V.sl (some true) true 0 []], V.int IntKind.i64 1]) :=
  p27n_0 n m c d xs ys keep (k + 1005) (h23 hx hy hbx hby k) (by rw [h]; rfl)
theorem h27 {m : Option Bool} {c d : Bool} {xs ys : List V} (hx : ∀ x ∈ xs, isStr x) (hy : ∀ y ∈ ys, isPut y) (hbx : xs.length ≤ 1000) (hby : ys.length ≤ 1000) {keep : Int} (k0 : 0 ≤ keep) (k1 : keep < 18446744073709551616) (h : rightV xs ys = true) (k : Nat) :
    callP (evalFn Try.prog Try.cfg (k + 1006)) 27 [V.agg [V.sl (some false) c 1 xs, V.sl m d 2 ys], V.int IntKind.u64 keep] = some (V.tup [V.agg [V.sl none false 1 (crashV keep 0 ys xs), V.sl (some true) true 0 []], V.int IntKind.i64 0]) := by
  obtain ⟨hp, h1, h2⟩ := right_put hy h
  have hm : maxLen' = 1099511627776 := rfl
  have c0 := h23 (n := some false) (m := m) (c := c) (d := d) hx hy hbx hby k
  have hl := l86_run (m := m) (c := c) (d := d) k0 k1 hp (by omega) ys.length 0 (k + 1004) xs (by omega) (by omega) (by omega) rfl
  rw [List.drop_zero] at hl
  have hk := l86_ok m c d xs ys keep (k + 1004) (fun v b t hb => by
    have hb := of_decide_eq_true hb
    exact pr27_0 m c d xs ys v keep b t (k + 1003) (IdxR.mk hb.1 hb.2) (GrdW.mk ⟨rfl, rfl, by omega⟩)) (k + 1004) 0 xs _ hl
  cases xs with
  | nil => simp at h1
  | cons x xs =>
    refine p27_1 m c d (x :: xs) ys _ keep (k + 1005) c0 (by rw [h]; rfl) (p68_0 m c d xs ys x (k + 1004) (GrdW.mk ⟨rfl, by decide, by decide, ?_⟩)) (p69_0 m c d (x :: xs) ys keep (k + 1004)) (p86_0 m c d (x :: xs) ys keep _ _ (k + 1004) hk)
    simp only [List.length_cons] at hbx ⊢
    omega
theorem h28 {n m : Option Bool} {c d : Bool} {xs ys : List V} (hx : ∀ x ∈ xs, isStr x) (hy : ∀ y ∈ ys, isPut y) (hbx : xs.length ≤ 1000) (hby : ys.length ≤ 1000) {keep : Int} (k0 : 0 ≤ keep) (k1 : keep < 18446744073709551616) (h : rightV xs ys = true) (k : Nat) :
    callP (evalFn Try.prog Try.cfg (k + 2007)) 28 [V.agg [V.sl n c 1 xs, V.sl m d 2 ys], V.int IntKind.u64 keep] = some (V.agg [V.sl none false 1 (crashV keep 0 ys xs), V.sl (some true) true 0 []]) := by
  obtain ⟨hp, h1, h2⟩ := right_put hy h
  obtain ⟨q', ha⟩ := l28a_run (n := n) (m := m) (c := c) (d := d) (xs := xs) k0 k1 hy hby ys.length 0 (k + 2006) keep [] (by omega) (by omega) (by omega) (by simp) k0 k1
  rw [List.drop_zero, List.nil_append] at ha
  have kp : ∀ y ∈ keptV keep ys, isPut y ∧ True := by
    have : ∀ (l : List V) (q : Int), (∀ y ∈ l, isPut y) → ∀ y ∈ keptV q l, isPut y := by
      intro l
      induction l with
      | nil => intro q _ y hm; cases hm
      | cons z r ih =>
        intro q hl y hm
        simp only [keptV] at hm
        cases hd : decide (q % 2 = 1)
        · rw [hd, cond_false] at hm; exact ih _ (fun y h => hl y (List.mem_cons_of_mem _ h)) y hm
        · rw [hd, cond_true] at hm
          rcases List.mem_cons.1 hm with rfl | hm
          · exact hl _ (List.mem_cons_self ..)
          · exact ih _ (fun y h => hl y (List.mem_cons_of_mem _ h)) y hm
    exact fun y hm => ⟨this ys keep hy y hm, trivial⟩
  have kl : ∀ (l : List V) (q : Int), (keptV q l).length ≤ l.length := by
    intro l
    induction l with
    | nil => intro q; simp [keptV]
    | cons z r ih =>
      intro q
      simp only [keptV]
      have := ih (q / 2)
      cases decide (q % 2 = 1) <;> simp <;> omega
  have hb := l28b_run (n := n) (m := m) (c := c) (d := d) (ys := ys) (keep := keep) (kq := q') (i0 := ys.length) (l := keptV keep ys) hbx xs.length 0 (k + 2006) [] (by omega) (by omega) (by omega) rfl
  rw [List.nil_append, Nat.sub_zero] at hb
  refine (p28_0 n m c d xs ys keep q' ys.length _ (keptV keep ys) _ (k + 2006) (l28a_ok n m c d xs ys keep (k + 2006) (k + 2006) keep 0 [] _ ha)
    (l28b_ok n m c d xs ys keep q' ys.length (keptV keep ys) (k + 2006) (fun v hv => ?_) (k + 2006) 0 [] _ hb)).trans ?_
  · have hv := of_decide_eq_true hv
    exact h20 hx (fun y hm => (kp y hm).1) (Nat.le_trans (kl ys keep) hby) hv.1 hv.2 (k + 1000)
  · rw [crash_eq ys 0 xs hx hp]
    simp
end Go.Proofs
