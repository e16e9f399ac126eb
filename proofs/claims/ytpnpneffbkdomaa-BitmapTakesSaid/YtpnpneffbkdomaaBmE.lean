/-
  Maps of bits, plainly, fifth part: a place set, and asked for.
-/
import Derived.Test.YtpnpneffbkdomaaBmD
set_option linter.unusedVariables false
set_option linter.unusedSimpArgs false
set_option maxRecDepth 100000
namespace Go.Proofs
open Go Go.Sym

def errB (N : Int) (ws : List Wd) (fl : Wd) (i : Int) : Int := if rightB N ws fl = true then (if i < 0 ∨ N ≤ i then 2 else 0) else 1
theorem g75 {k : Nat} {N i : Int} {o : Option Bool} {b : Bool} {ws : List Wd} {fl : Wd} (hN : -9223372036854775808 ≤ N) (hN2 : N < 9223372036854775808) (hl : ws.length ≤ 1000) (hk : 1000 ≤ k) :
    F75 k N o b 1 (ws.map uw) (fl.toNat : Int) i = some (errB N ws fl i) := by
  unfold F75 errB
  rw [g31 hN hN2 hl (by omega), Option.bind_some]
  cases rightB N ws fl
  · rfl
  · simp only [Bool.not_true, cond_false]
    by_cases h1 : i < 0
    · rw [cT h1, if_pos trivial, if_pos (.inl h1)]
    by_cases h2 : N ≤ i
    · rw [cF h1, cT h2, if_pos trivial, if_pos (.inr h2)]
    · rw [cF h1, cF h2, if_pos trivial, if_neg (by omega)]
theorem err_zero {N i : Int} {ws : List Wd} {fl : Wd} (h : errB N ws fl i = 0) : ∃ n j : Nat, N = n ∧ i = j ∧ j < n ∧ 1 ≤ n ∧ n ≤ 4096 ∧ ws.length = (n + 63) / 64 ∧ fl = fullW ws ∧ ∀ i : Nat, i < 64 * ws.length → n ≤ i → takenB ws i = true := by
  unfold errB at h
  split at h
  · rename_i hr
    split at h
    · omega
    · have := of_decide_eq_true hr
      obtain ⟨h1, h2, h3, h4, h5⟩ := this
      refine ⟨N.toNat, i.toNat, by omega, by omega, by omega, by omega, by omega, by omega, h4, h5⟩
  · omega

/-- A word with a bit set so. -/
def setW (w : Wd) (j : Nat) (t : Bool) : Wd := if t then (w &&& ~~~(1#64 <<< j)) ||| (1#64 <<< j) else w &&& ~~~(1#64 <<< j)
theorem one_bit (j m : Nat) (hm : m < 64) : (1#64 <<< j).getLsbD m = decide (m = j) := by
  rw [BitVec.getLsbD_shiftLeft, BitVec.getLsbD_one, decide_eq_true hm]
  by_cases h : m = j
  · subst h; simp
  · by_cases h2 : m < j
    · simp [h, h2]
    · have : m - j ≠ 0 := by omega
      simp [h, this]
theorem setW_bit (w : Wd) (j m : Nat) (t : Bool) (hm : m < 64) : (setW w j t).getLsbD m = if m = j then t else w.getLsbD m := by
  unfold setW
  cases t
  · simp only [Bool.false_eq_true, if_false, BitVec.getLsbD_and, BitVec.getLsbD_not, one_bit j m hm]
    by_cases h : m = j <;> simp [h, hm]
  · simp only [if_true, BitVec.getLsbD_or, BitVec.getLsbD_and, BitVec.getLsbD_not, one_bit j m hm]
    by_cases h : m = j <;> simp [h, hm]
def setL (ws : List Wd) (i : Nat) (t : Bool) : List Wd := ws.set (i / 64) (setW (ws.getD (i / 64) 0) (i % 64) t)
theorem setL_length (ws : List Wd) (i : Nat) (t : Bool) : (setL ws i t).length = ws.length := by simp [setL]
theorem setL_taken {ws : List Wd} {i : Nat} {t : Bool} (hi : i < 64 * ws.length) (m : Nat) (hm : m < 64 * ws.length) : takenB (setL ws i t) m = if m = i then t else takenB ws m := by
  unfold takenB setL
  have h1 : i / 64 < ws.length := by omega
  have h2 : m / 64 < ws.length := by omega
  rw [List.getD_eq_getElem?_getD, List.getD_eq_getElem?_getD, List.getD_eq_getElem?_getD, List.getElem?_set]
  by_cases h : i / 64 = m / 64
  · rw [if_pos h, if_pos h1, Option.getD_some, setW_bit _ _ _ _ (by omega), h]
    by_cases h3 : m = i
    · subst h3; rw [if_pos rfl, if_pos rfl]
    · rw [if_neg (by omega), if_neg h3]
  · rw [if_neg h, if_neg (by intro e; subst e; exact h rfl)]

theorem isNil_ws {o : Option Bool} {ws : List Wd} (ho : o = some true → ws = []) (h : ws ≠ []) : isNil o (ws.map uw) = some false := by
  unfold isNil
  cases o with
  | none => simp [guardP, h]
  | some b => cases b with
    | true => exact absurd (ho rfl) h
    | false => rfl

/-- The full words behind a place set. -/
theorem full_set {ws : List Wd} {fl : Wd} {q : Nat} {w : Wd} (hq : q < ws.length) (hl : ws.length ≤ 64) (hf : fl = fullW ws) :
    fullW (ws.set q w) = if w = BitVec.allOnes 64 then (fl &&& ~~~(1#64 <<< q)) ||| (1#64 <<< q) else fl &&& ~~~(1#64 <<< q) := by
  apply BitVec.eq_of_getLsbD_eq
  intro j hj
  rw [fullW_bit, decide_eq_true hj, Bool.true_and, List.getElem?_set]
  have hb : (if w = BitVec.allOnes 64 then (fl &&& ~~~(1#64 <<< q)) ||| (1#64 <<< q) else fl &&& ~~~(1#64 <<< q)).getLsbD j = if j = q then decide (w = BitVec.allOnes 64) else fl.getLsbD j := by
    split
    · rename_i h
      simp only [BitVec.getLsbD_or, BitVec.getLsbD_and, BitVec.getLsbD_not, one_bit q j hj]
      by_cases e : j = q <;> simp [e, hj, h]
    · rename_i h
      simp only [BitVec.getLsbD_and, BitVec.getLsbD_not, one_bit q j hj, decide_eq_false h]
      by_cases e : j = q <;> simp [e, hj]
  rw [hb, hf, fullW_bit, decide_eq_true hj, Bool.true_and]
  by_cases e : q = j
  · subst e; rw [if_pos rfl, if_pos hq, if_pos rfl]; simp
  · rw [if_neg e, if_neg (fun h => e h.symm)]

theorem g37e {k : Nat} {N i : Int} {o : Option Bool} {b t : Bool} {ws : List Wd} {fl : Wd} (hN : -9223372036854775808 ≤ N) (hN2 : N < 9223372036854775808) (hl : ws.length ≤ 1000) (hk : 1000 ≤ k) (he : errB N ws fl i ≠ 0) :
    F37 k N o b 1 (ws.map uw) (fl.toNat : Int) i t = some (0, some true, true, 0, [], 0, errB N ws fl i) := by
  unfold F37
  rw [g75 hN hN2 hl (by omega), Option.bind_some, cNF he]
theorem g37 {k : Nat} {N i : Int} {o : Option Bool} {b t : Bool} {ws : List Wd} {fl : Wd} (hN : -9223372036854775808 ≤ N) (hN2 : N < 9223372036854775808) (hl : ws.length ≤ 1000) (hk : 1000 ≤ k) (ho : o = some true → ws = []) (he : errB N ws fl i = 0) :
    F37 k N o b 1 (ws.map uw) (fl.toNat : Int) i t = some (N, none, false, 1, (setL ws i.toNat t).map uw, ((fullW (setL ws i.toNat t)).toNat : Int), 0) := by
  obtain ⟨n, j, rfl, rfl, hj, h0, h1, h2, h3, h4⟩ := err_zero he
  have hq : j / 64 < ws.length := by omega
  have hne : ws ≠ [] := fun h => by rw [h] at h2; simp at h2; omega
  have e1 : IntKind.i64.wrap ((j : Int).tdiv 64) = ((j / 64 : Nat) : Int) := by
    rw [show (64 : Int) = ((64 : Nat) : Int) from rfl, td (by omega), wi (by omega) (by omega)]; omega
  have e2 : (j : Int).tmod 64 = ((j % 64 : Nat) : Int) := by
    rw [show (64 : Int) = ((64 : Nat) : Int) from rfl, tm (by omega)]; omega
  unfold F37
  rw [g75 hN hN2 hl (by omega), Option.bind_some, he, cNT rfl, isNil_ws ho hne, Option.bind_some, cond_false, gp (.inl rfl), gp (by rw [List.length_map]; simp only [maxLen']; omega), e1, e2, gp (by rw [List.length_map]; omega),
    Int.toNat_natCast, Int.toNat_natCast, get_uw hq, Option.bind_some, gp (by omega), gp (by rw [List.length_map]; omega), shl_one, shl_one, andNot_w, andNot_w, or_w, or_w, Int.toNat_natCast]
  have hg : ws.getD (j / 64) 0 = ws[j / 64] := by rw [List.getD_eq_getElem?_getD, List.getElem?_eq_getElem hq]; rfl
  cases t
  · rw [cond_false, gp (by omega)]
    unfold setL
    rw [full_set hq (by omega) h3, hg]
    simp only [setW, Bool.false_eq_true, if_false]
    by_cases hw : ws[j / 64] &&& ~~~(1#64 <<< (j % 64)) = BitVec.allOnes 64
    · rw [cT ((eq_all _).2 hw), if_pos hw, List.map_set]; rfl
    · rw [cF (fun h => hw ((eq_all _).1 h)), if_neg hw, List.map_set]; rfl
  · rw [cond_true, gp (by rw [List.length_set, List.length_map]; omega), gp (by omega)]
    unfold setL
    rw [full_set hq (by omega) h3, hg]
    simp only [setW, if_true]
    by_cases hw : (ws[j / 64] &&& ~~~(1#64 <<< (j % 64))) ||| (1#64 <<< (j % 64)) = BitVec.allOnes 64
    · rw [cT ((eq_all _).2 hw), if_pos hw, List.map_set, List.set_set]; rfl
    · rw [cF (fun h => hw ((eq_all _).1 h)), if_neg hw, List.map_set, List.set_set]; rfl

theorem g38e {k : Nat} {N i : Int} {o : Option Bool} {b : Bool} {ws : List Wd} {fl : Wd} (hN : -9223372036854775808 ≤ N) (hN2 : N < 9223372036854775808) (hl : ws.length ≤ 1000) (hk : 1000 ≤ k) (he : errB N ws fl i ≠ 0) :
    F38 k N o b 1 (ws.map uw) (fl.toNat : Int) i = some (false, errB N ws fl i) := by
  unfold F38
  rw [g75 hN hN2 hl (by omega), Option.bind_some, cNF he]
theorem g38 {k : Nat} {N i : Int} {o : Option Bool} {b : Bool} {ws : List Wd} {fl : Wd} (hN : -9223372036854775808 ≤ N) (hN2 : N < 9223372036854775808) (hl : ws.length ≤ 1000) (hk : 1000 ≤ k) (he : errB N ws fl i = 0) :
    F38 k N o b 1 (ws.map uw) (fl.toNat : Int) i = some (takenB ws i.toNat, 0) := by
  obtain ⟨n, j, rfl, rfl, hj, h0, h1, h2, h3, h4⟩ := err_zero he
  have hq : j / 64 < ws.length := by omega
  have e1 : IntKind.i64.wrap ((j : Int).tdiv 64) = ((j / 64 : Nat) : Int) := by
    rw [show (64 : Int) = ((64 : Nat) : Int) from rfl, td (by omega), wi (by omega) (by omega)]; omega
  have e2 : (j : Int).tmod 64 = ((j % 64 : Nat) : Int) := by
    rw [show (64 : Int) = ((64 : Nat) : Int) from rfl, tm (by omega)]; omega
  have hg : ws.getD (j / 64) 0 = ws[j / 64] := by rw [List.getD_eq_getElem?_getD, List.getElem?_eq_getElem hq]; rfl
  unfold F38
  rw [g75 hN hN2 hl (by omega), Option.bind_some, he, cNT rfl, gp rfl, e1, e2, at_uw hq, Option.bind_some, gp (by omega), Int.toNat_natCast, Int.toNat_natCast]
  unfold takenB
  rw [hg]
  congr 2
  rw [Bool.eq_iff_iff, decide_eq_true_iff]
  exact bit_w _ _

/-! ### The reference -/
theorem L77_3_run {k : Nat} {N fl i : Int} {b t : Bool} {o : Option Bool} {ws : List Wd} {w : Nat} (hl : ws.length ≤ 1000) (hw : w < ws.length) (hk : 1000 ≤ k) : ∀ (c f : Nat) (a : Wd), c ≤ 64 → c < f →
    ∃ (r : Wd) (z : Int), L77_3 k N fl w i b t (ws.map uw) o 1 f (a.toNat : Int) ((c : Int) - 1) = some (.e0 (r.toNat : Int) z) ∧ ∀ j, j < 64 → r.getLsbD j = if j < c then (if ((64 * w + j : Nat) : Int) = i then t else takenB ws (64 * w + j)) else a.getLsbD (j - c) := by
  intro c
  induction c with
  | zero =>
    intro f a hc hf
    obtain ⟨f, rfl⟩ : ∃ g, f = g + 1 := ⟨f - 1, by omega⟩
    refine ⟨a, ((0 : Nat) : Int) - 1, ?_, fun j hj => by simp⟩
    rw [L77_3, cF (by omega)]
  | succ c ih =>
    intro f a hc hf
    obtain ⟨f, rfl⟩ : ∃ g, f = g + 1 := ⟨f - 1, by omega⟩
    have e1 : IntKind.i64.wrap (IntKind.i64.wrap (64 * (w : Int)) + (((c + 1 : Nat) : Int) - 1)) = ((64 * w + c : Nat) : Int) := by
      rw [wi (n := 64 * (w : Int)) (by omega) (by omega), wi (by omega) (by omega)]; omega
    have e2 : IntKind.i64.wrap ((((c + 1 : Nat) : Int) - 1) - 1) = (c : Int) - 1 := by rw [wi (by omega) (by omega)]; omega
    have go : ∀ u : Bool, u = (if ((64 * w + c : Nat) : Int) = i then t else takenB ws (64 * w + c)) → ∃ (r : Wd) (z : Int), L77_3 k N fl w i b t (ws.map uw) o 1 f (((a <<< 1) ||| (if u then 1#64 else 0#64)).toNat : Int) ((c : Int) - 1) = some (.e0 (r.toNat : Int) z) ∧ ∀ j, j < 64 → r.getLsbD j = if j < c + 1 then (if ((64 * w + j : Nat) : Int) = i then t else takenB ws (64 * w + j)) else a.getLsbD (j - (c + 1)) := by
      intro u hu
      obtain ⟨r, z, h1, h2⟩ := ih f ((a <<< 1) ||| (if u then 1#64 else 0#64)) (by omega) (by omega)
      refine ⟨r, z, h1, fun j hj => ?_⟩
      rw [h2 j hj]
      by_cases h3 : j < c
      · rw [if_pos h3, if_pos (show j < c + 1 by omega)]
      · rw [if_neg h3, dbl_bit _ _ _ (by omega)]
        by_cases h4 : j = c
        · subst h4; rw [if_pos (show j - j = 0 by omega), if_pos (show j < j + 1 by omega), hu]
        · rw [if_neg (show ¬(j - c = 0) by omega), if_neg (show ¬(j < c + 1) by omega), show j - c - 1 = j - (c + 1) by omega]
    rw [L77_3, cT (by omega), e1, e2, g39 hl (by omega) (by omega), Option.bind_some]
    by_cases h : ((64 * w + c : Nat) : Int) = i
    · rw [cT h]
      cases t
      · rw [cond_false, dblF_w]; exact go false (by rw [if_pos h])
      · rw [cond_true, dblT_w]; exact go true (by rw [if_pos h])
    · rw [cF h]
      cases ht : takenB ws (64 * w + c)
      · rw [cond_false, dblF_w]; exact go false (by rw [if_neg h, ht])
      · rw [cond_true, dblT_w]; exact go true (by rw [if_neg h, ht])
theorem taken_word {ws : List Wd} {w j : Nat} (hw : w < ws.length) (hj : j < 64) : takenB ws (64 * w + j) = ws[w].getLsbD j := by
  unfold takenB
  rw [show (64 * w + j) / 64 = w by omega, show (64 * w + j) % 64 = j by omega, List.getD_eq_getElem?_getD, List.getElem?_eq_getElem hw]; rfl
theorem g77 {k : Nat} {N fl : Int} {i : Nat} {b t : Bool} {o : Option Bool} {ws : List Wd} {w : Nat} (hl : ws.length ≤ 1000) (hw : w < ws.length) (hi : i < 64 * ws.length) (hk : 1000 ≤ k) (hs : w < (setL ws i t).length) :
    F77 k N o b 1 (ws.map uw) fl w i t = some (((setL ws i t)[w]).toNat : Int) := by
  unfold F77
  obtain ⟨r, z, h1, h2⟩ := L77_3_run (k := k) (N := N) (fl := fl) (i := i) (b := b) (t := t) (o := o) (w := w) hl hw hk 64 (k + 8) 0#64 (Nat.le_refl _) (by omega)
  rw [show ((0#64).toNat : Int) = 0 from rfl, show (((64 : Nat) : Int) - 1) = 63 from rfl] at h1
  rw [h1, Option.bind_some]
  simp only [Option.some.injEq]
  rw [eq_w]
  apply BitVec.eq_of_getLsbD_eq
  intro j hj
  rw [h2 j hj, if_pos hj, ← taken_word hs hj, setL_taken hi _ (by omega)]
  by_cases h : 64 * w + j = i
  · rw [if_pos h, if_pos (by omega)]
  · rw [if_neg h, if_neg (by omega)]
theorem fullL_step (ws : List Wd) (w : Nat) (hw : w < ws.length) : fullL 0 (ws.take (w + 1)) 0#64 = if ws[w] = BitVec.allOnes 64 then fullL 0 (ws.take w) 0#64 ||| (1#64 <<< w) else fullL 0 (ws.take w) 0#64 := by
  have gen : ∀ (l : List Wd) (v : Wd) (i : Nat) (a : Wd), fullL i (l ++ [v]) a = if v = BitVec.allOnes 64 then fullL i l a ||| (1#64 <<< (i + l.length)) else fullL i l a := by
    intro l v
    induction l with
    | nil => intro i a; simp [fullL]
    | cons x r ih => intro i a; simp only [List.cons_append, fullL, ih, List.length_cons]; rw [show i + 1 + r.length = i + (r.length + 1) by omega]
  rw [List.take_succ_eq_append_getElem hw, gen, List.length_take, Nat.zero_add, Nat.min_eq_left (by omega)]
theorem L40_4_run {k : Nat} {N fl : Int} {i : Nat} {b t : Bool} {o : Option Bool} {ws : List Wd} (hl : ws.length ≤ 64) (hi : i < 64 * ws.length) (hk : 1000 ≤ k) : ∀ (r w f : Nat), ws.length - w = r → w ≤ ws.length → r < f →
    ∃ y z, L40_4 k N fl i b t (ws.map uw) o 1 f ((1#64 <<< w).toNat : Int) (w : Int) (((setL ws i t).take w).map uw) ((fullL 0 ((setL ws i t).take w) 0#64).toNat : Int) = some (.e0 y z ((fullW (setL ws i t)).toNat : Int) ((setL ws i t).map uw)) := by
  intro r
  induction r with
  | zero =>
    intro w f hr hw hf
    obtain ⟨f, rfl⟩ : ∃ g, f = g + 1 := ⟨f - 1, by omega⟩
    refine ⟨((1#64 <<< w).toNat : Int), (w : Int), ?_⟩
    rw [L40_4, List.length_map, cF (by omega), List.take_of_length_le (by rw [setL_length]; omega)]
    rfl
  | succ r ih =>
    intro w f hr hw hf
    obtain ⟨f, rfl⟩ : ∃ g, f = g + 1 := ⟨f - 1, by omega⟩
    have hs : w < (setL ws i t).length := by rw [setL_length]; omega
    obtain ⟨y, z, hyz⟩ := ih (w + 1) f (by omega) (by omega) (by omega)
    refine ⟨y, z, ?_⟩
    have e73 : F73 (k + 8) (((setL ws i t)[w]).toNat : Int) = some (decide ((setL ws i t)[w] = BitVec.allOnes 64)) := by
      unfold F73; congr 1; congr 1; exact propext (eq_all _)
    have ea : (((setL ws i t).take w).map uw) ++ [V.int IntKind.u64 (((setL ws i t)[w]).toNat : Int)] = (((setL ws i t).take (w + 1)).map uw) := by
      rw [List.take_succ_eq_append_getElem hs, List.map_append]; rfl
    have et : IntKind.u64.wrap (2 * ((1#64 <<< w).toNat : Int)) = ((1#64 <<< (w + 1)).toNat : Int) := by
      rw [dbl_w, ← BitVec.shiftLeft_add]
    rw [L40_4, List.length_map, cT (by omega), g77 (by omega) (by omega) hi (by omega) hs, Option.bind_some, gp (by rw [List.length_map, List.length_take]; simp only [maxLen']; omega), e73, Option.bind_some, ea, et, wi (n := (w : Int) + 1) (by omega) (by omega), show ((w : Int) + 1) = ((w + 1 : Nat) : Int) by omega]
    rw [fullL_step _ w hs] at hyz
    by_cases ha : (setL ws i t)[w] = BitVec.allOnes 64
    · rw [cT ha]
      rw [if_pos ha] at hyz
      have eo : IntKind.u64.wrap (((fullL 0 ((setL ws i t).take w) 0#64).toNat : Int) + ((1#64 <<< w).toNat : Int)) = ((fullL 0 ((setL ws i t).take w) 0#64 ||| (1#64 <<< w)).toNat : Int) := by
        rw [wu_mod, ← BitVec.add_eq_or_of_and_eq_zero, BitVec.toNat_add]
        · rw [Int.natCast_emod]; rfl
        · apply BitVec.eq_of_getLsbD_eq
          intro j hj
          rw [BitVec.getLsbD_and, one_bit w j hj, fullL_bit]
          by_cases e : j = w
          · subst e
            rw [Nat.sub_zero, List.getElem?_eq_none (by rw [List.length_take]; omega)]
            simp
          · simp [e]
      rw [eo]
      exact hyz
    · rw [cF ha]
      rw [if_neg ha] at hyz
      exact hyz
theorem g40 {k : Nat} {N fl : Int} {i : Nat} {b t : Bool} {o : Option Bool} {ws : List Wd} (hl : ws.length ≤ 64) (hi : i < 64 * ws.length) (hk : 1000 ≤ k) :
    F40 k N o b 1 (ws.map uw) fl i t = some (N, none, false, 1, (setL ws i t).map uw, ((fullW (setL ws i t)).toNat : Int)) := by
  unfold F40
  obtain ⟨y, z, h⟩ := L40_4_run (k := k) (N := N) (fl := fl) (i := i) (b := b) (t := t) (o := o) hl hi hk ws.length 0 (k + 11) (by omega) (by omega) (by omega)
  rw [show ((1#64 <<< 0).toNat : Int) = 1 from rfl, show ((0 : Nat) : Int) = 0 from rfl, List.take_zero, List.map_nil, show ((fullL 0 [] 0#64).toNat : Int) = 0 from rfl] at h
  rw [h]; rfl
end Go.Proofs
