/- DERIVED. What the reference of ghash answers: the long product, then flips from the top. -/
import Derived.Test.YtegmincienhapaaGfD
set_option linter.unusedVariables false
set_option linter.unusedSimpArgs false
set_option maxRecDepth 100000
namespace Go.Proofs
open Go Go.Sym Go.Sym.Gf

/-! ### 81: a bit -/
theorem l81 (k : Nat) (i0 : Int) (s : List UInt8) (m : Nat) : ∀ (f v : Nat), m ≤ 7 → m + 1 ≤ f → v < 256 →
    L81_0 k i0 s f (v : Int) ((7 - m : Nat) : Int) = some (.e0 ((v / 2 ^ m : Nat) : Int) 7) := by
  induction m with
  | zero =>
    intro f v _ hf _
    obtain ⟨f, rfl⟩ : ∃ g, f = g + 1 := ⟨f - 1, by omega⟩
    rw [L81_0, cF (by omega), Nat.pow_zero, Nat.div_one]; rfl
  | succ m ih =>
    intro f v hm hf hv
    obtain ⟨f, rfl⟩ : ∃ g, f = g + 1 := ⟨f - 1, by omega⟩
    have e1 : ((v : Int)).tdiv 2 = ((v / 2 : Nat) : Int) := td (b := 2) (Int.natCast_nonneg v)
    have e2 : ((7 - (m + 1) : Nat) : Int) + 1 = ((7 - m : Nat) : Int) := by omega
    rw [L81_0, cT (by omega), e1, e2, wi (by omega) (by omega), wi (by omega) (by omega), ih f (v / 2) (by omega) (by omega) (by omega)]
    rw [Nat.div_div_eq_div_mul, Nat.pow_succ, Nat.mul_comm]
theorem g81 {k : Nat} (s : List UInt8) {i : Nat} (hi : i < 8 * s.length) (hl : s.length < 1000) (hk : 8 ≤ k) : F81 k s (i : Int) = some (cof s i) := by
  have e1 : ((i : Int)).tdiv 8 = ((i / 8 : Nat) : Int) := td (b := 8) (Int.natCast_nonneg i)
  have e2 : ((i : Int)).tmod 8 = ((i % 8 : Nat) : Int) := tm (b := 8) (Int.natCast_nonneg i)
  have hj : i / 8 < s.length := by omega
  unfold F81
  rw [e1, e2, wi (by omega) (by omega)]
  have e3 : satB s ((i / 8 : Nat) : Int) = some s[i / 8] := by
    unfold satB; rw [if_pos (Int.natCast_nonneg _), Int.toNat_natCast, List.getElem?_eq_getElem hj]
  have hv := (s[i / 8]).toNat_lt
  rw [e3, Option.bind_some, wi (by omega) (by omega)]
  have := l81 k (i : Int) s (7 - i % 8) (k + 2) (s[i / 8]).toNat (by omega) (by omega) hv
  rw [show 7 - (7 - i % 8) = i % 8 by omega] at this
  rw [this, Option.bind_some]
  show some (decide (((((s[i / 8]).toNat / 2 ^ (7 - i % 8) : Nat) : Int)).tmod 2 = 1)) = _
  rw [show (((((s[i / 8]).toNat / 2 ^ (7 - i % 8) : Nat) : Int)).tmod 2) = (((s[i / 8]).toNat / 2 ^ (7 - i % 8) % 2 : Nat) : Int) from tm (b := 2) (Int.natCast_nonneg _)]
  unfold cof
  rw [List.getElem?_eq_getElem hj]
  show _ = some ((s[i / 8]).toNat.testBit _)
  rw [Nat.testBit_eq_decide_div_mod_eq]
  congr 1
  apply decide_eq_decide.2; omega

/-! ### 49: the long product -/
def SB : Nat → (Nat → Bool) → Bool
  | 0, _ => false
  | n + 1, f => SB n f ^^ f n
theorem ind_SB (n : Nat) (f : Nat → Bool) (e : E) : ind (SB n f) e = S n fun i => ind (f i) e := by
  induction n with
  | zero => rfl
  | succ n ih => show ind (SB n f ^^ f n) e = _; rw [ind_xor, ih]; rfl
def pr (s t : List UInt8) (n i : Nat) : Bool := decide (i ≤ n) && (decide (n - i < 128) && (cof s i && cof t (n - i)))
theorem l49i {k : Nat} (s t : List UInt8) (hs : s.length = 16) (ht : t.length = 16) (x : List V) (n : Nat) (hn : n < 255) (hk : 8 ≤ k) (m : Nat) : ∀ (f : Nat), m ≤ 128 → m + 1 ≤ f →
    L49_1 k (n : Int) s t x f (SB (128 - m) (pr s t n)) ((128 - m : Nat) : Int) = some (.e0 128 (SB 128 (pr s t n))) := by
  induction m with
  | zero =>
    intro f _ hf
    obtain ⟨f, rfl⟩ : ∃ g, f = g + 1 := ⟨f - 1, by omega⟩
    rw [L49_1, cF (by omega)]; rfl
  | succ m ih =>
    intro f hm hf
    obtain ⟨f, rfl⟩ : ∃ g, f = g + 1 := ⟨f - 1, by omega⟩
    have ih' := ih f (by omega) (by omega)
    generalize hj : 128 - (m + 1) = j at *
    rw [show 128 - m = j + 1 by omega] at ih'
    have e2 : ((j : Nat) : Int) + 1 = ((j + 1 : Nat) : Int) := by omega
    rw [L49_1, cT (by omega), e2, wi (show -9223372036854775808 ≤ ((j + 1 : Nat) : Int) by omega) (by omega), wi (show -9223372036854775808 ≤ (n : Int) - (j : Int) by omega) (by omega)]
    rw [show SB (j + 1) (pr s t n) = (SB j (pr s t n) ^^ pr s t n j) from rfl] at ih'
    by_cases h1 : j ≤ n
    · rw [cT (show (0 : Int) ≤ (n : Int) - (j : Int) by omega)]
      by_cases h2 : n - j < 128
      · rw [cT (show (n : Int) - (j : Int) < 128 by omega), g81 s (by omega) (by omega) (by omega), Option.bind_some]
        rw [show (n : Int) - (j : Int) = ((n - j : Nat) : Int) by omega, g81 t (by omega) (by omega) (by omega)]
        unfold pr at ih' ⊢
        rw [decide_eq_true h1, decide_eq_true h2] at ih'
        cases h3 : cof s j
        · rw [h3] at ih'
          simp only [Bool.true_and, Bool.false_and, Bool.xor_false] at ih'
          exact ih'
        · rw [h3] at ih'
          cases h4 : cof t (n - j)
          · rw [h4] at ih'
            simp only [Bool.true_and, Bool.and_false, Bool.xor_false] at ih'
            exact ih'
          · rw [h4] at ih'
            simp only [Bool.true_and, Bool.xor_true] at ih'
            exact ih'
      · rw [cF (show ¬((n : Int) - (j : Int) < 128) by omega)]
        unfold pr at ih' ⊢
        rw [decide_eq_false h2] at ih'
        simp only [Bool.false_and, Bool.and_false, Bool.xor_false] at ih'
        exact ih'
    · rw [cF (show ¬((0 : Int) ≤ (n : Int) - (j : Int)) by omega)]
      unfold pr at ih' ⊢
      rw [decide_eq_false h1] at ih'
      simp only [Bool.false_and, Bool.xor_false] at ih'
      exact ih'
def prL (s t : List UInt8) (n : Nat) : List Bool := (List.range n).map fun j => SB 128 (pr s t j)
theorem prL_succ (s t : List UInt8) (n : Nat) : (prL s t n).map V.bool ++ [V.bool (SB 128 (pr s t n))] = (prL s t (n + 1)).map V.bool := by
  unfold prL; rw [List.range_succ]; simp
theorem prL_len (s t : List UInt8) (n : Nat) : (prL s t n).length = n := by simp [prL]
theorem l49 {k : Nat} (s t : List UInt8) (hs : s.length = 16) (ht : t.length = 16) (hk : 130 ≤ k) (m : Nat) : ∀ (f : Nat), m ≤ 255 → m + 1 ≤ f →
    L49_0 k s t f ((255 - m : Nat) : Int) ((prL s t (255 - m)).map V.bool) = some (.e0 255 ((prL s t 255).map V.bool)) := by
  induction m with
  | zero =>
    intro f _ hf
    obtain ⟨f, rfl⟩ : ∃ g, f = g + 1 := ⟨f - 1, by omega⟩
    rw [L49_0, cF (by omega)]; rfl
  | succ m ih =>
    intro f hm hf
    obtain ⟨f, rfl⟩ : ∃ g, f = g + 1 := ⟨f - 1, by omega⟩
    have ih' := ih f (by omega) (by omega)
    generalize hj : 255 - (m + 1) = j at *
    rw [show 255 - m = j + 1 by omega] at ih'
    have e2 : ((j : Nat) : Int) + 1 = ((j + 1 : Nat) : Int) := by omega
    have e := l49i (k := k) s t hs ht ((prL s t j).map V.bool) j (by omega) (by omega) 128 (k + 5) (Nat.le_refl _) (by omega)
    have e' : L49_1 k (j : Int) s t ((prL s t j).map V.bool) (k + 5) false 0 = _ := e
    rw [L49_0, cT (by omega), e', Option.bind_some]
    show guardP _ _ = _
    rw [gp (by rw [List.length_map, prL_len]; unfold maxLen'; omega), e2, wi (by omega) (by omega), prL_succ]
    exact ih'
theorem g49 {k : Nat} (s t : List UInt8) (hs : s.length = 16) (ht : t.length = 16) (hk : 260 ≤ k) : F49 k s t = some (none, false, 1, (prL s t 255).map V.bool) := by
  have e := l49 (k := k) s t hs ht (by omega) 255 (k + 5) (Nat.le_refl _) (by omega)
  have e' : L49_0 k s t (k + 5) 0 [] = _ := e
  unfold F49
  rw [e', Option.bind_some]

/-! ### 50: a flip -/
def flip (l : List Bool) (i : Nat) : List Bool := l.set i (!(l[i]?.getD false))
theorem flip_len (l : List Bool) (i : Nat) : (flip l i).length = l.length := List.length_set ..
theorem g50 (k : Nat) (l : List Bool) (i : Nat) (hi : i < l.length) (hl : l.length < 1000) : F50 k none false 1 (l.map V.bool) (i : Int) = some (none, false, 1, (flip l i).map V.bool) := by
  unfold F50
  have e : (List.map V.bool l)[i]? = some (V.bool l[i]) := by rw [List.getElem?_map, List.getElem?_eq_getElem hi]; rfl
  rw [gp (show (1 : Nat) = 1 ∨ _ from Or.inl rfl), gp (by rw [List.length_map]; unfold maxLen'; omega), gp (by rw [List.length_map]; omega), Int.toNat_natCast, e, Option.bind_some]
  show ((some l[i]).bind _) = _
  rw [Option.bind_some, gp (by rw [List.length_map]; omega)]
  unfold flip
  rw [List.map_set, List.getElem?_eq_getElem hi]
  rfl
theorem S_single (n : Nat) (i : Nat) (hi : i < n) (f : Nat → E) : S n (fun j => ind (decide (j = i)) (f j)) = f i := by
  induction n with
  | zero => omega
  | succ n ih =>
    show S n _ ^^^ ind (decide (n = i)) (f n) = _
    by_cases h : n = i
    · subst h
      rw [decide_eq_true rfl]
      rw [show (S n fun j => ind (decide (j = n)) (f j)) = S n fun _ => 0#128 from S_congr fun j hj => by rw [decide_eq_false (by omega)]; rfl, S_zero]
      exact BitVec.zero_xor
    · rw [ih (by omega), decide_eq_false h]; exact BitVec.xor_zero
def evn (l : List Bool) (n : Nat) : E := S n fun i => ind (l[i]?.getD false) (X i)
theorem evn_flip (l : List Bool) (i n : Nat) (h : i < n) (hl : i < l.length) : evn (flip l i) n = evn l n ^^^ X i := by
  unfold evn
  rw [← S_single n i h X, ← S_xor]
  apply S_congr
  intro j _
  rw [← ind_xor]
  congr 1
  unfold flip
  by_cases e : j = i
  · subst e
    rw [List.getElem?_set_self hl, decide_eq_true rfl, Bool.xor_true]; rfl
  · rw [List.getElem?_set_ne (by omega), decide_eq_false e, Bool.xor_false]

/-! ### 25: from the top -/
theorem l25 (k : Nat) (s t : List UInt8) (m : Nat) : ∀ (f : Nat) (l : List Bool), m ≤ 127 → m + 1 ≤ f → l.length = 255 →
    ∃ l' : List Bool, L25_0 k s t f none false 1 (l.map V.bool) ((m : Int) + 127) = some (.e0 127 false (l'.map V.bool) none 1) ∧ l'.length = 255 ∧ evn l' 128 = evn l (128 + m) := by
  induction m with
  | zero =>
    intro f l _ hf hl
    obtain ⟨f, rfl⟩ : ∃ g, f = g + 1 := ⟨f - 1, by omega⟩
    refine ⟨l, ?_, hl, rfl⟩
    rw [L25_0, cF (by omega)]; rfl
  | succ m ih =>
    intro f l hm hf hl
    obtain ⟨f, rfl⟩ : ∃ g, f = g + 1 := ⟨f - 1, by omega⟩
    have e : at? (List.map V.bool l) ((m + 128 : Nat) : Int) = some (V.bool (l[m + 128]'(by omega))) := by
      rw [at_nat, List.getElem?_map, List.getElem?_eq_getElem (by omega)]; rfl
    rw [show ((m + 1 : Nat) : Int) + 127 = ((m + 128 : Nat) : Int) by omega]
    rw [L25_0, cT (by omega), gp (rfl : (1 : Nat) = 1), e, Option.bind_some]
    have ee : evn l (128 + (m + 1)) = evn l (128 + m) ^^^ ind (l[m + 128]'(by omega)) (X (m + 128)) := by
      show evn l (128 + m) ^^^ ind (l[128 + m]?.getD false) (X (128 + m)) = _
      rw [show 128 + m = m + 128 by omega, List.getElem?_eq_getElem (show m + 128 < l.length by omega)]; rfl
    have e0 : dB (V.bool (l[m + 128]'(by omega))) = some (l[m + 128]'(by omega)) := rfl
    rw [e0, Option.bind_some]
    rw [show ((m + 128 : Nat) : Int) - 1 = (m : Int) + 127 by omega, show ((m + 128 : Nat) : Int) - 128 = (m : Int) by omega, show ((m + 128 : Nat) : Int) - 127 = ((m + 1 : Nat) : Int) by omega, show ((m + 128 : Nat) : Int) - 126 = ((m + 2 : Nat) : Int) by omega, show ((m + 128 : Nat) : Int) - 121 = ((m + 7 : Nat) : Int) by omega]
    rw [wi (show -9223372036854775808 ≤ (m : Int) + 127 by omega) (by omega), wi (show -9223372036854775808 ≤ (m : Int) by omega) (by omega), wi (show -9223372036854775808 ≤ ((m + 1 : Nat) : Int) by omega) (by omega), wi (show -9223372036854775808 ≤ ((m + 2 : Nat) : Int) by omega) (by omega), wi (show -9223372036854775808 ≤ ((m + 7 : Nat) : Int) by omega) (by omega)]
    generalize (l[m + 128]'(by omega)) = b at *
    cases b
    · obtain ⟨l', h1, h2, h3⟩ := ih f l (by omega) (by omega) hl
      refine ⟨l', h1, h2, ?_⟩
      rw [h3, ee]; exact (BitVec.xor_zero).symm
    · obtain ⟨l', h1, h2, h3⟩ := ih f (flip (flip (flip (flip l m) (m + 1)) (m + 2)) (m + 7)) (by omega) (by omega) (by simp only [flip_len]; exact hl)
      refine ⟨l', ?_, h2, ?_⟩
      · show ((F50 _ _ _ _ _ _).bind _) = _
        rw [g50 _ _ _ (by omega) (by omega), Option.bind_some]
        show ((F50 _ _ _ _ _ _).bind _) = _
        rw [g50 _ _ _ (by simp only [flip_len]; omega) (by simp only [flip_len]; omega), Option.bind_some]
        show ((F50 _ _ _ _ _ _).bind _) = _
        rw [g50 _ _ _ (by simp only [flip_len]; omega) (by simp only [flip_len]; omega), Option.bind_some]
        show ((F50 _ _ _ _ _ _).bind _) = _
        rw [g50 _ _ _ (by simp only [flip_len]; omega) (by simp only [flip_len]; omega), Option.bind_some]
        exact h1
      · rw [h3, evn_flip _ _ _ (by omega) (by simp only [flip_len]; omega), evn_flip _ _ _ (by omega) (by simp only [flip_len]; omega), evn_flip _ _ _ (by omega) (by simp only [flip_len]; omega), evn_flip _ _ _ (by omega) (by omega), ee]
        show _ = _ ^^^ X (m + 128)
        rw [X_red (m + 128) (by omega), show m + 128 - 128 = m by omega, show m + 128 - 127 = m + 1 by omega, show m + 128 - 126 = m + 2 by omega, show m + 128 - 121 = m + 7 by omega]
        ac_rfl

/-! ### 51: bits as bytes -/
def vbt (g : Nat → Bool) : Nat → Nat
  | 0 => 0
  | u + 1 => 2 * vbt g u + (g u).toNat
theorem vb_lt (g : Nat → Bool) (u : Nat) : vbt g u < 2 ^ u := by
  induction u with
  | zero => exact Nat.one_pos
  | succ u ih => rw [vbt, Nat.pow_succ]; have := Bool.toNat_lt (g u); omega
theorem vb_bit (g : Nat → Bool) (u p : Nat) (hp : p < u) : (vbt g u).testBit p = g (u - 1 - p) := by
  induction u generalizing p with
  | zero => omega
  | succ u ih =>
    rw [vbt]
    cases p with
    | zero =>
      rw [Nat.testBit_zero]
      show decide _ = g u
      cases g u
      · apply decide_eq_false; show ¬((2 * vbt g u + 0) % 2 = 1); omega
      · apply decide_eq_true; show (2 * vbt g u + 1) % 2 = 1; omega
    | succ p =>
      rw [Nat.testBit_succ, show (2 * vbt g u + (g u).toNat) / 2 = vbt g u from by have := Bool.toNat_lt (g u); omega, ih p (by omega)]
      congr 1; omega
def bg (l : List Bool) (j u : Nat) : Bool := l[8 * j + u]?.getD false
theorem l51i (k : Nat) (l : List Bool) (hl : l.length = 128) (j : Nat) (hj : j < 16) (x1 : List V) (m : Nat) : ∀ f : Nat, m ≤ 8 → m + 1 ≤ f →
    L51_1 k (j : Int) false (l.map V.bool) x1 none 1 f ((vbt (bg l j) (8 - m) : Nat) : Int) ((8 - m : Nat) : Int) = some (.e0 ((vbt (bg l j) 8 : Nat) : Int) 8) := by
  induction m with
  | zero =>
    intro f _ hf
    obtain ⟨f, rfl⟩ : ∃ g, f = g + 1 := ⟨f - 1, by omega⟩
    rw [L51_1, cF (by omega)]; rfl
  | succ m ih =>
    intro f hm hf
    obtain ⟨f, rfl⟩ : ∃ g, f = g + 1 := ⟨f - 1, by omega⟩
    have ih' := ih f (by omega) (by omega)
    generalize hu : 8 - (m + 1) = u at *
    rw [show 8 - m = u + 1 by omega] at ih'
    have hv := vb_lt (bg l j) u
    have hp : 2 ^ u ≤ 2 ^ 8 := Nat.pow_le_pow_right (by omega) (by omega)
    have e : at? (List.map V.bool l) ((8 * j + u : Nat) : Int) = some (V.bool (l[8 * j + u]'(by omega))) := by
      rw [at_nat, List.getElem?_map, List.getElem?_eq_getElem (by omega)]; rfl
    have eb : bg l j u = (l[8 * j + u]'(by omega)) := by unfold bg; rw [List.getElem?_eq_getElem (show 8 * j + u < l.length by omega)]; rfl
    rw [L51_1, cT (by omega), gp (rfl : (1 : Nat) = 1), wi (show -9223372036854775808 ≤ (8 : Int) * (j : Int) by omega) (by omega), wi (show -9223372036854775808 ≤ (8 : Int) * (j : Int) + (u : Int) by omega) (by omega)]
    rw [show (8 : Int) * (j : Int) + (u : Int) = ((8 * j + u : Nat) : Int) by omega, e, Option.bind_some]
    show ((some (l[8 * j + u]'(by omega))).bind _) = _
    rw [Option.bind_some, ← eb]
    rw [wi (show -9223372036854775808 ≤ (2 : Int) * ((vbt (bg l j) u : Nat) : Int) by omega) (by omega), wi (show -9223372036854775808 ≤ (2 : Int) * ((vbt (bg l j) u : Nat) : Int) + 1 by omega) (by omega), wi (show -9223372036854775808 ≤ ((u : Nat) : Int) + 1 by omega) (by omega)]
    rw [show ((u : Nat) : Int) + 1 = ((u + 1 : Nat) : Int) by omega]
    rw [vbt] at ih'
    cases hb : bg l j u
    · rw [hb] at ih'
      rw [show ((2 * vbt (bg l j) u + Bool.toNat false : Nat) : Int) = 2 * ((vbt (bg l j) u : Nat) : Int) by show ((2 * vbt (bg l j) u + 0 : Nat) : Int) = _; omega] at ih'
      exact ih'
    · rw [hb] at ih'
      rw [show ((2 * vbt (bg l j) u + Bool.toNat true : Nat) : Int) = 2 * ((vbt (bg l j) u : Nat) : Int) + 1 by show ((2 * vbt (bg l j) u + 1 : Nat) : Int) = _; omega] at ih'
      exact ih'
def bv (l : List Bool) (n : Nat) : List V := (List.range n).map fun j => V.int .u8 (IntKind.u8.wrap ((vbt (bg l j) 8 : Nat) : Int))
theorem bv_succ (l : List Bool) (n : Nat) : bv l n ++ [V.int .u8 (IntKind.u8.wrap ((vbt (bg l n) 8 : Nat) : Int))] = bv l (n + 1) := by
  unfold bv; rw [List.range_succ]; simp
theorem l51 (k : Nat) (l : List Bool) (hl : l.length = 128) (hk : 8 ≤ k) (m : Nat) : ∀ f : Nat, m ≤ 16 → m + 1 ≤ f →
    L51_0 k false (l.map V.bool) none 1 f ((16 - m : Nat) : Int) (bv l (16 - m)) = some (.e0 16 (bv l 16)) := by
  induction m with
  | zero =>
    intro f _ hf
    obtain ⟨f, rfl⟩ : ∃ g, f = g + 1 := ⟨f - 1, by omega⟩
    rw [L51_0, cF (by omega)]; rfl
  | succ m ih =>
    intro f hm hf
    obtain ⟨f, rfl⟩ : ∃ g, f = g + 1 := ⟨f - 1, by omega⟩
    have ih' := ih f (by omega) (by omega)
    generalize hj : 16 - (m + 1) = j at *
    rw [show 16 - m = j + 1 by omega] at ih'
    have e := l51i k l hl j (by omega) (bv l j) 8 (k + 2) (Nat.le_refl _) (by omega)
    have e' : L51_1 k (j : Int) false (l.map V.bool) (bv l j) none 1 (k + 2) 0 0 = _ := e
    rw [L51_0, cT (by omega), e', Option.bind_some]
    show guardP _ _ = _
    rw [gp (by simp only [bv, List.length_map, List.length_range]; unfold maxLen'; omega), wi (by omega) (by omega), show ((j : Nat) : Int) + 1 = ((j + 1 : Nat) : Int) by omega, bv_succ]
    exact ih'
def bys (l : List Bool) : List UInt8 := (List.range 16).map fun j => UInt8.ofNat (vbt (bg l j) 8)
theorem g51 {k : Nat} (l : List Bool) (hl : l.length = 128) (hk : 20 ≤ k) : F51 k none false 1 (l.map V.bool) = some (bys l) := by
  have e := l51 k l hl (by omega) 16 (k + 2) (Nat.le_refl _) (by omega)
  have e' : L51_0 k false (l.map V.bool) none 1 (k + 2) 0 [] = _ := e
  unfold F51
  rw [e', Option.bind_some]
  show guardP _ _ = _
  rw [gp (by rfl)]
  congr 1
  unfold bv bys
  rw [List.map_map]
  apply List.map_congr_left
  intro j _
  exact b54 _
theorem el_bys (l : List Bool) (hl : l.length = 128) : el (bys l) = evn l 128 := by
  show Gf.mk _ = Gf.mk _
  apply ext
  intro i hi
  rw [mk_bit _ _ hi, mk_bit _ _ hi]
  unfold cof bys
  rw [List.getElem?_map, List.getElem?_range (show i / 8 < 16 by omega)]
  show (UInt8.ofNat (vbt (bg l (i / 8)) 8)).toNat.testBit (7 - i % 8) = _
  rw [UInt8.toNat_ofNat', Nat.mod_eq_of_lt (vb_lt _ 8), vb_bit _ _ _ (by omega)]
  unfold bg
  rw [show 8 * (i / 8) + (8 - 1 - (7 - i % 8)) = i by omega]

/-! ### The two products are the same -/
theorem S_win (g : Nat → E) (i m r : Nat) : S (i + m + r) (fun n => ind (decide (i ≤ n) && decide (n - i < m)) (g (n - i))) = S m g := by
  induction r with
  | zero =>
    induction m with
    | zero =>
      rw [show (S (i + 0 + 0) fun n => ind (decide (i ≤ n) && decide (n - i < 0)) (g (n - i))) = S i fun _ => 0#128 from S_congr fun j hj => by rw [decide_eq_false (show ¬(i ≤ j) by omega)]; rfl, S_zero]; rfl
    | succ m ih =>
      show S (i + m) _ ^^^ ind (decide (i ≤ i + m) && decide (i + m - i < m + 1)) (g (i + m - i)) = S m g ^^^ g m
      rw [decide_eq_true (show i ≤ i + m by omega), decide_eq_true (show i + m - i < m + 1 by omega), show i + m - i = m by omega]
      rw [← ih]
      congr 1
      apply S_congr
      intro j hj
      have : decide (j - i < m + 1) = decide (j - i < m) ∨ ¬ (i ≤ j) := by
        by_cases h : i ≤ j
        · exact .inl (decide_eq_decide.2 (by omega))
        · exact .inr h
      rcases this with h | h
      · rw [h]
      · rw [decide_eq_false h]; rfl
  | succ r ih =>
    show S (i + m + r) _ ^^^ ind (decide (i ≤ i + m + r) && decide (i + m + r - i < m)) _ = _
    rw [ih, decide_eq_false (show ¬(i + m + r - i < m) by omega), Bool.and_false]; exact BitVec.xor_zero
theorem evn_pr (s t : List UInt8) : evn (prL s t 255) 255 = gm (el s) (el t) := by
  unfold evn
  rw [gm_exp, S_comm]
  rw [show (S 255 fun i => ind ((prL s t 255)[i]?.getD false) (X i)) = S 255 fun n => S 128 fun i => ind (pr s t n i) (X n) from S_congr fun n hn => by
    unfold prL
    rw [List.getElem?_map, List.getElem?_range hn]
    exact ind_SB _ _ _]
  rw [S_comm]
  apply S_congr
  intro i hi
  have e := S_win (fun j => ind (cof s i) (ind (cof t j) (X (i + j)))) i 128 (127 - i)
  rw [show i + 128 + (127 - i) = 255 by omega] at e
  refine Eq.trans (S_congr fun n hn => ?_) (e.trans (S_congr fun j hj => ?_))
  · unfold pr
    rw [← ind_and, ← ind_and]
    by_cases h1 : i ≤ n
    · rw [show i + (n - i) = n by omega, Bool.and_assoc, Bool.and_assoc]
    · rw [decide_eq_false h1]; rfl
  · rw [el_bit s hi, el_bit t hj, ind_comm, Nat.add_comm]
theorem g25 {k : Nat} (s t : List UInt8) (hs : s.length = 16) (ht : t.length = 16) (hk : 260 ≤ k) : ∃ r, F25 k s t = some r ∧ r.length = 16 ∧ el r = gm (el s) (el t) := by
  obtain ⟨l', h1, h2, h3⟩ := l25 k s t 127 (k + 8) (prL s t 255) (Nat.le_refl _) (by omega) (prL_len _ _ _)
  have hl : (l'.take 128).length = 128 := by rw [List.length_take, h2]; rfl
  refine ⟨bys (l'.take 128), ?_, by simp [bys], ?_⟩
  · unfold F25
    rw [g49 s t hs ht (by omega), Option.bind_some]
    show ((L25_0 k s t (k + 8) none false 1 ((prL s t 255).map V.bool) 254).bind _) = _
    have h1' : L25_0 k s t (k + 8) none false 1 ((prL s t 255).map V.bool) 254 = _ := h1
    rw [h1', Option.bind_some]
    show guardP _ _ = _
    rw [gp (rfl : (1 : Nat) = 1), gp (by rw [List.length_map, h2]; omega), ← List.map_take, show (Int.toNat 128) = 128 from rfl, g51 _ hl (by omega), Option.bind_some]
  · rw [el_bys _ hl]
    have e : evn (l'.take 128) 128 = evn l' 128 := S_congr fun i hi => by rw [List.getElem?_take_of_lt hi]
    rw [e, h3]; exact evn_pr s t
end Go.Proofs
