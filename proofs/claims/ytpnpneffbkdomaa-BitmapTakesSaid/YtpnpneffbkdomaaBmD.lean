/-
  Maps of bits, plainly, fourth part: new ones, and the law BitmapNew.
-/
import Derived.Test.YtpnpneffbkdomaaBmC
set_option linter.unusedVariables false
set_option linter.unusedSimpArgs false
set_option maxRecDepth 100000
namespace Go.Proofs
open Go Go.Sym

theorem L36_10_run {k n w : Nat} {xs : List V} (hn : n ≤ 4096) (hw : w ≤ 100) : ∀ (c f : Nat) (a : Wd), c ≤ 64 → c < f →
    ∃ (r : Wd) (z : Int), L36_10 k n w xs f (a.toNat : Int) ((c : Int) - 1) = some (.e0 (r.toNat : Int) z) ∧ ∀ j, j < 64 → r.getLsbD j = if j < c then decide (n ≤ 64 * w + j) else a.getLsbD (j - c) := by
  intro c
  induction c with
  | zero =>
    intro f a hc hf
    obtain ⟨f, rfl⟩ : ∃ g, f = g + 1 := ⟨f - 1, by omega⟩
    refine ⟨a, ((0 : Nat) : Int) - 1, ?_, fun j hj => by simp⟩
    rw [L36_10, cF (by omega)]
  | succ c ih =>
    intro f a hc hf
    obtain ⟨f, rfl⟩ : ∃ g, f = g + 1 := ⟨f - 1, by omega⟩
    have e1 : IntKind.i64.wrap (IntKind.i64.wrap (64 * (w : Int)) + (((c + 1 : Nat) : Int) - 1)) = ((64 * w + c : Nat) : Int) := by
      rw [wi (n := 64 * (w : Int)) (by omega) (by omega), wi (by omega) (by omega)]; omega
    have e2 : IntKind.i64.wrap ((((c + 1 : Nat) : Int) - 1) - 1) = (c : Int) - 1 := by rw [wi (by omega) (by omega)]; omega
    rw [L36_10, cT (by omega), e1, e2]
    by_cases h : n ≤ 64 * w + c
    · rw [cT (by omega), dblT_w]
      obtain ⟨r, z, h1, h2⟩ := ih f _ (by omega) (by omega)
      refine ⟨r, z, h1, fun j hj => ?_⟩
      rw [h2 j hj]
      by_cases h3 : j < c
      · rw [if_pos h3, if_pos (by omega)]
      · rw [if_neg h3, dbl_bit _ _ _ (by omega)]
        by_cases h4 : j = c
        · subst h4; rw [if_pos (by omega), if_pos (by omega), dec_t h]
        · rw [if_neg (by omega), if_neg (by omega), show j - c - 1 = j - (c + 1) by omega]
    · rw [cF (by omega), dblF_w]
      obtain ⟨r, z, h1, h2⟩ := ih f _ (by omega) (by omega)
      refine ⟨r, z, h1, fun j hj => ?_⟩
      rw [h2 j hj]
      by_cases h3 : j < c
      · rw [if_pos h3, if_pos (by omega)]
      · rw [if_neg h3, dbl_bit _ _ _ (by omega)]
        by_cases h4 : j = c
        · subst h4; rw [if_pos (by omega), if_pos (by omega), dec_f h]
        · rw [if_neg (by omega), if_neg (by omega), show j - c - 1 = j - (c + 1) by omega]
theorem blank_word {n w : Nat} (h0 : 1 ≤ n) (hw : 64 * w < n) {r : Wd} (h : ∀ j, j < 64 → r.getLsbD j = decide (n ≤ 64 * w + j)) (hl : w < (blankL n).length) : r = (blankL n)[w] := by
  have hw2 : w ≤ (n + 63) / 64 - 1 := by omega
  have hb : (blankL n)[w] = if (n + 63) / 64 - 1 = w then maskOf n else 0 := by
    unfold blankL
    have : ∀ (l : List Wd) (i j : Nat) (v : Wd) (h : j < (l.set i v).length), (l.set i v)[j] = if i = j then v else l[j]'(by simpa using h) := fun l i j v h => List.getElem_set ..
    refine (this _ _ _ _ _).trans ?_
    simp
  apply BitVec.eq_of_getLsbD_eq
  intro j hj
  rw [h j hj, hb]
  split
  · rw [mask_bit n j hj, ← Bool.decide_and]
    congr 1; apply propext; omega
  · rw [dec_f (by omega)]; simp
theorem L36_8_run {k n : Nat} (h0 : 1 ≤ n) (hn : n ≤ 4096) (hk : 1000 ≤ k) : ∀ (r w f : Nat), (n + 63) / 64 - w = r → w ≤ (n + 63) / 64 → r < f →
    ∃ z, L36_8 k n f (w : Int) (((blankL n).take w).map uw) = some (.e0 z ((blankL n).map uw)) := by
  intro r
  induction r with
  | zero =>
    intro w f hr hw hf
    obtain ⟨f, rfl⟩ : ∃ g, f = g + 1 := ⟨f - 1, by omega⟩
    refine ⟨(w : Int), ?_⟩
    rw [L36_8, wi (by omega) (by omega), cF (by omega), List.take_of_length_le (by rw [blankL_length]; omega)]
  | succ r ih =>
    intro w f hr hw hf
    obtain ⟨f, rfl⟩ : ∃ g, f = g + 1 := ⟨f - 1, by omega⟩
    have hl : w < (blankL n).length := by rw [blankL_length]; omega
    obtain ⟨rr, z, h1, h2⟩ := L36_10_run (k := k) (n := n) (w := w) (xs := ((blankL n).take w).map uw) hn (by omega) 64 (k + 2) 0#64 (Nat.le_refl _) (by omega)
    have e := blank_word h0 (by omega) (fun j hj => by rw [h2 j hj, if_pos hj]) hl
    obtain ⟨y, hy⟩ := ih (w + 1) f (by omega) (by omega) (by omega)
    refine ⟨y, ?_⟩
    rw [show ((0#64).toNat : Int) = 0 from rfl, show (((64 : Nat) : Int) - 1) = 63 from rfl] at h1
    rw [L36_8, wi (n := 64 * (w : Int)) (by omega) (by omega), cT (by omega), h1, Option.bind_some]
    simp only
    rw [gp (by simp [maxLen']; omega), wi (by omega) (by omega), show ((w : Int) + 1) = ((w + 1 : Nat) : Int) by omega, show ((blankL n).take w).map uw ++ [V.int IntKind.u64 (rr.toNat : Int)] = ((blankL n).take (w + 1)).map uw by
      rw [List.take_succ_eq_append_getElem hl, List.map_append, e]; rfl]
    exact hy
theorem g36 {k n : Nat} (h0 : 1 ≤ n) (hn : n ≤ 4096) (hk : 1000 ≤ k) : F36 k (n : Int) = some ((n : Int), none, false, 1, (blankL n).map uw, 0) := by
  unfold F36
  obtain ⟨z, hz⟩ := L36_8_run (k := k) h0 hn hk ((n + 63) / 64) 0 (k + 2) (by omega) (by omega) (by omega)
  rw [show ((0 : Nat) : Int) = 0 from rfl, List.take_zero, List.map_nil] at hz
  rw [hz]; rfl
theorem g30 {k : Nat} {n : Int} (hn : -9223372036854775808 ≤ n) (hn2 : n < 9223372036854775808) : F30 k n = if n < 1 ∨ 4096 < n then some (0, some true, true, 0, [], 0, 4) else some (n, none, false, 1, (blankL n.toNat).map uw, 0, 0) := by
  unfold F30
  by_cases h1 : n < 1
  · rw [cT h1, if_pos (.inl h1)]
  by_cases h2 : 4096 < n
  · rw [cF h1, cT h2, if_pos (.inr h2)]
  obtain ⟨m, rfl⟩ : ∃ m : Nat, n = m := ⟨n.toNat, by omega⟩
  rw [cF h1, cF h2, if_neg (by omega), g70 (by omega) (by omega), Option.bind_some]
  rfl
theorem g29 {k : Nat} {N fl : Int} {o : Option Bool} {b : Bool} {ws : List Wd} : F29 k N o b 1 (ws.map uw) fl = some (N, o, false, 1, (ws.take 70).map uw, fl) := by
  unfold F29
  have e := take_if 70 (ws.map uw)
  rw [show ((70 : Nat) : Int) = 70 from rfl] at e
  rw [gp rfl, gp (by split <;> omega), e, ← List.map_take]
theorem g35 (k : Nat) : F35 k = some true := by kernel_rfl
theorem g34e {k : Nat} {o p : Option Bool} {b c : Bool} {n m : Nat} : F34 k 0 o b n [] 0 0 p c m [] 0 = some true := by kernel_rfl
theorem same_refl (N : Int) (ws : List Wd) (fl : Wd) : sameB N ws fl N ws fl = true := by simp [sameB]

theorem blank_right {n : Nat} (h0 : 1 ≤ n) (hn : n ≤ 4096) : rightB (n : Int) (blankL n) 0#64 = true := by
  unfold rightB
  refine dec_t ⟨by omega, by omega, by rw [blankL_length, Int.toNat_natCast], ?_, fun i h1 h2 => ?_⟩
  · rw [fullW_eq]
    intro j hj _
    rw [decide_eq_false]
    · simp
    · intro h
      obtain ⟨hl, he⟩ := List.getElem?_eq_some_iff.1 h
      have hb : (blankL n)[j] = if (n + 63) / 64 - 1 = j then maskOf n else 0 := by
        unfold blankL
        have : ∀ (l : List Wd) (i j : Nat) (v : Wd) (h : j < (l.set i v).length), (l.set i v)[j] = if i = j then v else l[j]'(by simpa using h) := fun l i j v h => List.getElem_set ..
        refine (this _ _ _ _ _).trans ?_
        simp
      rw [hb] at he
      have e0 := congrArg (fun x : Wd => x.getLsbD 0) he
      split at e0
      · simp only [mask_bit n 0 (by omega)] at e0
        simp at e0
        omega
      · simp at e0
  · rw [Int.toNat_natCast] at h2
    rw [blankL_length] at h1
    have hl : i / 64 < (blankL n).length := by rw [blankL_length]; omega
    have hb : (blankL n)[i / 64] = if (n + 63) / 64 - 1 = i / 64 then maskOf n else 0 := by
      unfold blankL
      have : ∀ (l : List Wd) (i j : Nat) (v : Wd) (h : j < (l.set i v).length), (l.set i v)[j] = if i = j then v else l[j]'(by simpa using h) := fun l i j v h => List.getElem_set ..
      refine (this _ _ _ _ _).trans ?_
      simp
    unfold takenB
    rw [List.getD_eq_getElem?_getD, List.getElem?_eq_getElem hl, Option.getD_some, hb, if_pos (by omega), mask_bit n _ (by omega)]
    simp; omega
end Go.Proofs
