/- DERIVED. What the product of ghash answers: the product in the field. -/
import Derived.Test.YtegmincienhapaaGfC
set_option linter.unusedVariables false
set_option linter.unusedSimpArgs false
set_option maxRecDepth 100000
namespace Go.Proofs
open Go Go.Sym Go.Sym.Gf

theorem bw (c : UInt8) : (c.toNat : Int) = ((BitVec.ofNat 64 c.toNat).toNat : Int) := by
  rw [BitVec.toNat_ofNat, Nat.mod_eq_of_lt (by have := c.toNat_lt; omega)]
theorem l78 (k : Nat) (s : List UInt8) (hs : 8 ≤ s.length) (m : Nat) : ∀ (f : Nat) (w : Wd), m ≤ 8 → m + 1 ≤ f → (∀ t, t < 64 → w.getLsbD t = (decide (t < 8 * (8 - m)) && cof s (8 * (8 - m) - 1 - t))) →
    ∃ w' : Wd, L78_0 k s f (w.toNat : Int) ((8 - m : Nat) : Int) = some (.e0 (w'.toNat : Int) 8) ∧ ∀ t, t < 64 → w'.getLsbD t = cof s (63 - t) := by
  have hl : (List.map (fun c : UInt8 => V.int IntKind.u8 (c.toNat : Int)) (List.take (Int.toNat 8) s)).length = 8 := by
    rw [List.length_map, List.length_take]; exact Nat.min_eq_left hs
  induction m with
  | zero =>
    intro f w _ hf e
    obtain ⟨f, rfl⟩ : ∃ g, f = g + 1 := ⟨f - 1, by omega⟩
    refine ⟨w, ?_, fun t ht => ?_⟩
    · rw [L78_0, hl]; rfl
    · rw [e t ht, decide_eq_true (show t < 8 * (8 - 0) by omega), show 8 * (8 - 0) - 1 - t = 63 - t by omega]; rfl
  | succ m ih =>
    intro f w hm hf e
    obtain ⟨f, rfl⟩ : ∃ g, f = g + 1 := ⟨f - 1, by omega⟩
    generalize hj : 8 - (m + 1) = j at *
    rw [L78_0, hl, cT (show ((j : Nat) : Int) < ((8 : Nat) : Int) by omega), gp (by omega), Int.toNat_natCast]
    have e1 : (List.map (fun c : UInt8 => V.int IntKind.u8 (c.toNat : Int)) (List.take (Int.toNat 8) s))[j]? = some (V.int IntKind.u8 (s[j]'(by omega)).toNat) := by
      rw [List.getElem?_map, show (Int.toNat 8) = 8 from rfl, List.getElem?_take_of_lt (by omega), List.getElem?_eq_getElem (by omega)]; rfl
    rw [e1, Option.bind_some, dI_int, Option.bind_some, bw, wu_toNat, shl_w, or_w, wi (by omega) (by omega)]
    have ej : ((j : Nat) : Int) + 1 = ((8 - m : Nat) : Int) := by omega
    rw [ej]
    refine ih f _ (by omega) (by omega) fun t ht => ?_
    have hc : ∀ p, p < 8 → (BitVec.ofNat 64 (s[j]'(by omega)).toNat).getLsbD p = cof s (8 * j + (7 - p)) := by
      intro p hp
      unfold cof
      rw [show (8 * j + (7 - p)) / 8 = j by omega, show 7 - (8 * j + (7 - p)) % 8 = p by omega, List.getElem?_eq_getElem (show j < s.length by omega), BitVec.getLsbD_ofNat, decide_eq_true (show p < 64 by omega)]; rfl
    have hz : ∀ p, 8 ≤ p → (BitVec.ofNat 64 (s[j]'(by omega)).toNat).getLsbD p = false := by
      intro p hp
      rw [BitVec.getLsbD_ofNat, Nat.testBit_lt_two_pow, Bool.and_false]
      exact Nat.lt_of_lt_of_le (s[j]'(by omega)).toNat_lt (Nat.pow_le_pow_right (n := 2) (by omega) hp)
    rw [BitVec.getLsbD_or, BitVec.getLsbD_shiftLeft, decide_eq_true ht, Bool.true_and, show Int.toNat 8 = 8 from rfl]
    by_cases h : t < 8
    · rw [decide_eq_true h, hc t h, decide_eq_true (show t < 8 * (8 - m) by omega), show 8 * j + (7 - t) = 8 * (8 - m) - 1 - t by omega]; rfl
    · rw [decide_eq_false h, hz t (by omega), e (t - 8) (by omega), show decide (t - 8 < 8 * j) = decide (t < 8 * (8 - m)) from decide_eq_decide.2 (by omega), show 8 * j - 1 - (t - 8) = 8 * (8 - m) - 1 - t by omega]; simp
theorem g78 {k : Nat} (s : List UInt8) (hs : 8 ≤ s.length) (hk : 8 ≤ k) : ∃ w : Wd, F78 k s = some (w.toNat : Int) ∧ ∀ t, t < 64 → w.getLsbD t = cof s (63 - t) := by
  obtain ⟨w, e, h⟩ := l78 k s hs 8 (k + 2) 0#64 (Nat.le_refl _) (by omega) (by intro t ht; simp)
  refine ⟨w, ?_, h⟩
  unfold F78
  have e' : L78_0 k s (k + 2) 0 0 = _ := e
  rw [gp (by omega), gp (by rw [List.length_take]; unfold maxLen'; have : (Int.toNat 8) = 8 := rfl; omega), e']; rfl

theorem cof_drop (s : List UInt8) (i : Nat) : cof (s.drop 8) i = cof s (i + 64) := by
  unfold cof
  rw [List.getElem?_drop, show (i + 64) / 8 = 8 + i / 8 by omega, show (i + 64) % 8 = i % 8 by omega]
theorem g46 {k : Nat} (s : List UInt8) (hs : s.length = 16) (hk : 8 ≤ k) : ∃ h l : Wd, F46 k s = some ((h.toNat : Int), (l.toNat : Int)) ∧ pe h l = el s := by
  obtain ⟨h, e1, p1⟩ := g78 (k := k + 2) s (by omega) (by omega)
  obtain ⟨l, e2, p2⟩ := g78 (k := k + 2) (List.drop (Int.toNat 8) s) (by rw [List.length_drop, show Int.toNat 8 = 8 from rfl]; omega) (by omega)
  refine ⟨h, l, ?_, ext fun i hi => ?_⟩
  · unfold F46
    rw [e1, Option.bind_some, gp (by omega), e2, Option.bind_some]
  · rw [el_bit _ hi]
    by_cases h1 : i < 64
    · rw [pe_hi _ _ h1, p1 _ (by omega), show 63 - (63 - i) = i by omega]
    · rw [pe_lo _ _ (by omega) hi, p2 _ (by omega), show Int.toNat 8 = 8 from rfl, cof_drop, show 63 - (127 - i) + 64 = i by omega]

def by54 (w : Wd) : List UInt8 := [UInt8.ofNat (w >>> 56).toNat, UInt8.ofNat (w >>> 48).toNat, UInt8.ofNat (w >>> 40).toNat, UInt8.ofNat (w >>> 32).toNat, UInt8.ofNat (w >>> 24).toNat, UInt8.ofNat (w >>> 16).toNat, UInt8.ofNat (w >>> 8).toNat, UInt8.ofNat (w >>> 0).toNat]
theorem b54 (n : Nat) : Sym.byteOf (V.int IntKind.u8 (IntKind.u8.wrap (n : Int))) = UInt8.ofNat n := by
  rw [wb_mod]
  show UInt8.ofNat ((n : Int) % 256).toNat = _
  rw [show ((n : Int) % 256).toNat = n % 256 by omega]
  apply UInt8.toNat_inj.1
  rw [UInt8.toNat_ofNat', UInt8.toNat_ofNat']; omega
theorem g54 (k : Nat) (w : Wd) : F54 k (w.toNat : Int) = some (by54 w) := by
  unfold F54 by54
  simp only [shr_w]
  show some (List.map Sym.byteOf [_, _, _, _, _, _, _, _]) = _
  simp only [List.map_cons, List.map_nil, b54]
  rfl
theorem cof54 (w : Wd) (i : Nat) (h : i < 64) : cof (by54 w) i = w.getLsbD (63 - i) := by
  have z : ∀ n : Nat, n ≤ 56 → ∀ r, r < 8 → (UInt8.ofNat (w >>> n).toNat).toNat.testBit r = w.getLsbD (n + r) := by
    intro n hn r hr
    rw [UInt8.toNat_ofNat', show 2 ^ 8 = 2 ^ 8 from rfl, Nat.testBit_mod_two_pow, decide_eq_true hr, Bool.true_and]
    show (w >>> n).getLsbD r = _
    rw [BitVec.getLsbD_ushiftRight]
  unfold cof by54
  obtain ⟨t, ht⟩ : ∃ t, t = i / 8 := ⟨_, rfl⟩
  rw [← ht]
  have hr : 7 - i % 8 < 8 := by omega
  match t, ht with
  | 0, ht => refine (z 56 (by omega) _ hr).trans ?_; congr 1; omega
  | 1, ht => refine (z 48 (by omega) _ hr).trans ?_; congr 1; omega
  | 2, ht => refine (z 40 (by omega) _ hr).trans ?_; congr 1; omega
  | 3, ht => refine (z 32 (by omega) _ hr).trans ?_; congr 1; omega
  | 4, ht => refine (z 24 (by omega) _ hr).trans ?_; congr 1; omega
  | 5, ht => refine (z 16 (by omega) _ hr).trans ?_; congr 1; omega
  | 6, ht => refine (z 8 (by omega) _ hr).trans ?_; congr 1; omega
  | 7, ht => refine (z 0 (by omega) _ hr).trans ?_; congr 1; omega
  | t + 8, ht => omega
theorem cof_append (a b : List UInt8) (ha : a.length = 8) (i : Nat) : cof (a ++ b) i = bif decide (i < 64) then cof a i else cof b (i - 64) := by
  unfold cof
  by_cases h : i < 64
  · rw [decide_eq_true h, List.getElem?_append_left (by omega)]; rfl
  · rw [decide_eq_false h, List.getElem?_append_right (by omega), show i / 8 - a.length = (i - 64) / 8 by omega, show i % 8 = (i - 64) % 8 by omega]; rfl
theorem g48 (k : Nat) (h l : Wd) : F48 k (h.toNat : Int) (l.toNat : Int) = some (by54 h ++ by54 l) := by
  unfold F48
  rw [g54, Option.bind_some, g54, Option.bind_some, gp (by show 16 ≤ maxText; unfold maxText; omega)]
theorem el_block (h l : Wd) : el (by54 h ++ by54 l) = pe h l := by
  apply ext
  intro i hi
  rw [el_bit _ hi, cof_append _ _ rfl]
  by_cases h1 : i < 64
  · rw [decide_eq_true h1, pe_hi _ _ h1]; exact cof54 h i h1
  · rw [decide_eq_false h1, pe_lo _ _ (by omega) hi]; refine (cof54 l (i - 64) (by omega)).trans ?_; congr 1; omega

def ONE : List UInt8 := [128, 0, 0, 0, 0, 0, 0, 0, 0, 0, 0, 0, 0, 0, 0, 0]
end Go.Proofs
