/-
  Maps of bits, plainly, seventh part: where so many free places are.
-/
import Derived.Test.YtpnpneffbkdomaaBmF
set_option linter.unusedVariables false
set_option linter.unusedSimpArgs false
set_option maxRecDepth 100000
namespace Go.Proofs
open Go Go.Sym

/-- A row of places is gone through: the run behind it, or the place where the run is as long as is asked. -/
def scan (p : Nat → Bool) (m : Int) : Nat → Nat → Nat → Nat ⊕ Nat
  | 0, _, r => .inl r
  | n + 1, i, r => if (((if p i then 0 else r + 1) : Nat) : Int) = m then .inr i else scan p m n (i + 1) (if p i then 0 else r + 1)
theorem scan_add (p : Nat → Bool) (m : Int) (a b : Nat) : ∀ (i r : Nat), scan p m (a + b) i r = match scan p m a i r with | .inl r' => scan p m b (i + a) r' | .inr j => .inr j := by
  induction a with
  | zero => intro i r; simp [scan]
  | succ a ih =>
    intro i r
    rw [show a + 1 + b = (a + b) + 1 by omega]
    simp only [scan]
    generalize (if p i then 0 else r + 1) = q
    by_cases h : (q : Int) = m
    · rw [if_pos h, if_pos h]
    · rw [if_neg h, if_neg h, ih, show i + 1 + a = i + (a + 1) by omega]
theorem scan_all {p : Nat → Bool} {m : Int} (hm : 1 ≤ m) : ∀ (n i r : Nat), (∀ j, i ≤ j → j < i + n → p j = true) → scan p m n i r = .inl (if n = 0 then r else 0) := by
  intro n
  induction n with
  | zero => intro i r _; rfl
  | succ n ih =>
    intro i r h
    simp only [scan, h i (Nat.le_refl _) (by omega), if_true]
    rw [if_neg (by omega), ih (i + 1) 0 (fun j h1 h2 => h j (by omega) (by omega))]
    simp
theorem scan_le {p : Nat → Bool} {m : Int} : ∀ (n i r j : Nat), r ≤ i → scan p m n i r = .inr j → m ≤ j + 1 ∧ i ≤ j ∧ j < i + n := by
  intro n
  induction n with
  | zero => intro i r j _ h; cases h
  | succ n ih =>
    intro i r j hr h
    simp only [scan] at h
    have hq : (if p i then 0 else r + 1) ≤ i + 1 := by split <;> omega
    generalize (if p i then 0 else r + 1) = q at h hq
    by_cases he : (q : Int) = m
    · rw [if_pos he] at h
      cases h
      exact ⟨by omega, Nat.le_refl _, by omega⟩
    · rw [if_neg he] at h
      have := ih (i + 1) _ j hq h
      omega
theorem scan_inl {p : Nat → Bool} {m : Int} : ∀ (n i r r' : Nat), r ≤ i → scan p m n i r = .inl r' → r' ≤ i + n := by
  intro n
  induction n with
  | zero => intro i r r' hr h; cases h; exact hr
  | succ n ih =>
    intro i r r' hr h
    simp only [scan] at h
    have hq : (if p i then 0 else r + 1) ≤ i + 1 := by split <;> omega
    generalize (if p i then 0 else r + 1) = q at h hq
    by_cases he : (q : Int) = m
    · rw [if_pos he] at h; cases h
    · rw [if_neg he] at h
      have := ih (i + 1) _ r' hq h
      omega

theorem L42_14_run {k : Nat} {N fl m : Int} {v : Nat} {b : Bool} {o : Option Bool} {ws : List Wd} (hv : v < ws.length) (hl : ws.length ≤ 1000) (hm : 1 ≤ m) (hm2 : m < 9223372036854775808) : ∀ (c i f r : Nat), 64 - i = c → i ≤ 64 → c < f → r ≤ 64 * v + i →
    match scan (takenB ws) m c (64 * v + i) r with
    | .inl r' => ∃ z, L42_14 k N fl m v (ws[v].toNat : Int) b (ws.map uw) o 1 f (r : Int) (i : Int) = some (.e2 (r' : Int) z)
    | .inr j => ∃ z, L42_14 k N fl m v (ws[v].toNat : Int) b (ws.map uw) o 1 f (r : Int) (i : Int) = some (.e1 z ((j : Int) - 64 * v)) := by
  intro c
  induction c with
  | zero =>
    intro i f r hc hi hf hr
    obtain ⟨f, rfl⟩ : ∃ g, f = g + 1 := ⟨f - 1, by omega⟩
    refine ⟨(i : Int), ?_⟩
    rw [L42_14, cF (by omega)]
  | succ c ih =>
    intro i f r hc hi hf hr
    obtain ⟨f, rfl⟩ : ∃ g, f = g + 1 := ⟨f - 1, by omega⟩
    have hb := word_taken (v := v) (j := i) hv (by omega)
    simp only [scan]
    rw [L42_14, cT (by omega), gp (by omega), Int.toNat_natCast, wi (n := (i : Int) + 1) (by omega) (by omega), show ((i : Int) + 1) = ((i + 1 : Nat) : Int) by omega]
    cases ht : takenB ws (64 * v + i)
    · rw [cF (fun h => by rw [bit_w, ← hb, ht] at h; cases h)]
      simp only [Bool.false_eq_true, if_false]
      rw [wi (by omega) (by omega), show ((r : Int) + 1) = ((r + 1 : Nat) : Int) by omega]
      by_cases he : ((r + 1 : Nat) : Int) = m
      · rw [if_pos he, cT he]
        exact ⟨(r : Int), by rw [show (((64 * v + i : Nat) : Int) - 64 * (v : Int)) = (i : Int) by omega]⟩
      · rw [if_neg he, cF he]
        have := ih (i + 1) f (r + 1) (by omega) (by omega) (by omega) (by omega)
        rw [show 64 * v + (i + 1) = 64 * v + i + 1 by omega] at this
        exact this
    · rw [cT ((bit_w _ _).2 (by rw [← hb]; exact ht))]
      simp only [if_true]
      rw [cF (by omega), if_neg (by omega)]
      have := ih (i + 1) f 0 (by omega) (by omega) (by omega) (by omega)
      rw [show 64 * v + (i + 1) = 64 * v + i + 1 by omega] at this
      exact this

theorem L42_12_run {k : Nat} {N m : Int} {b : Bool} {o : Option Bool} {ws : List Wd} {fl : Wd} (hl : ws.length ≤ 64) (hf0 : fl = fullW ws) (hm : 1 ≤ m) (hm2 : m < 9223372036854775808) (hk : 1000 ≤ k) : ∀ (c v f r : Nat), ws.length - v = c → v ≤ ws.length → c < f → r ≤ 64 * v →
    match scan (takenB ws) m (64 * c) (64 * v) r with
    | .inl r' => ∃ y z, L42_12 k N (fl.toNat : Int) m b (ws.map uw) o 1 f (r : Int) (v : Int) = some (.e2 y z)
    | .inr j => ∃ (x y : Nat) (z u : Int), L42_12 k N (fl.toNat : Int) m b (ws.map uw) o 1 f (r : Int) (v : Int) = some (.e0 x z u y) ∧ j = 64 * x + y ∧ x < ws.length ∧ y < 64 := by
  intro c
  induction c with
  | zero =>
    intro v f r hc hv hf hr
    obtain ⟨f, rfl⟩ : ∃ g, f = g + 1 := ⟨f - 1, by omega⟩
    refine ⟨(r : Int), (v : Int), ?_⟩
    rw [L42_12, List.length_map, cF (by omega)]
  | succ c ih =>
    intro v f r hc hv hf hr
    obtain ⟨f, rfl⟩ : ∃ g, f = g + 1 := ⟨f - 1, by omega⟩
    have h3 : v < ws.length := by omega
    have hfb : fl.getLsbD v = decide (ws[v] = BitVec.allOnes 64) := by
      rw [hf0, fullW_bit, decide_eq_true (show v < 64 by omega), Bool.true_and, List.getElem?_eq_getElem h3]; simp
    rw [L42_12, List.length_map, cT (by omega), gp rfl, at_uw h3, Option.bind_some, gp (by omega), Int.toNat_natCast, wi (n := (v : Int) + 1) (by omega) (by omega), show ((v : Int) + 1) = ((v + 1 : Nat) : Int) by omega,
      show 64 * (c + 1) = 64 + 64 * c by omega, scan_add]
    by_cases ha : ws[v] = BitVec.allOnes 64
    · rw [cT ((bit_w _ _).2 (by rw [hfb]; exact decide_eq_true ha))]
      rw [scan_all hm 64 (64 * v) r (fun j h1 h2 => by
        obtain ⟨t, rfl⟩ : ∃ t, j = 64 * v + t := ⟨j - 64 * v, by omega⟩
        rw [word_taken h3 (by omega), ha, BitVec.getLsbD_allOnes]; exact decide_eq_true (by omega))]
      have := ih (v + 1) f 0 (by omega) (by omega) (by omega) (by omega)
      rw [show 64 * (v + 1) = 64 * v + 64 by omega] at this
      exact this
    · rw [cF (fun h => by rw [bit_w, hfb] at h; exact ha (of_decide_eq_true h))]
      have hi := L42_14_run (k := k) (N := N) (fl := (fl.toNat : Int)) (m := m) (b := b) (o := o) h3 (by omega) hm hm2 64 0 (k + 8) r rfl (by omega) (by omega) (by omega)
      rw [Nat.add_zero] at hi
      cases hs : scan (takenB ws) m 64 (64 * v) r with
      | inl r' =>
        rw [hs] at hi
        obtain ⟨z, hz⟩ := hi
        rw [show ((0 : Nat) : Int) = 0 from rfl] at hz
        rw [hz, Option.bind_some]
        have := ih (v + 1) f r' (by omega) (by omega) (by omega) (by have := scan_inl _ _ _ _ hr hs; omega)
        rw [show 64 * (v + 1) = 64 * v + 64 by omega] at this
        exact this
      | inr j =>
        rw [hs] at hi
        obtain ⟨z, hz⟩ := hi
        rw [show ((0 : Nat) : Int) = 0 from rfl] at hz
        rw [hz, Option.bind_some]
        have hj := scan_le _ _ _ _ hr hs
        refine ⟨v, j - 64 * v, (ws[v].toNat : Int), z, ?_, by omega, h3, by omega⟩
        simp only
        rw [show (((j - 64 * v : Nat) : Int)) = (j : Int) - 64 * v by omega]

/-- Where so many free places are, or -1. -/
def findI (ws : List Wd) (n : Nat) (m : Int) : Int := match scan (takenB ws) m n 0 0 with | .inl _ => -1 | .inr j => (j : Int) + 1 - m
theorem g42 {k : Nat} {N m : Int} {o : Option Bool} {b : Bool} {ws : List Wd} {fl : Wd} (hN : -9223372036854775808 ≤ N) (hN2 : N < 9223372036854775808) (hl : ws.length ≤ 1000) (hm2 : m < 9223372036854775808) (hk : 1000 ≤ k) :
    F42 k N o b 1 (ws.map uw) (fl.toNat : Int) m = some (if rightB N ws fl = true then (if m < 1 then (0, 4) else if findI ws N.toNat m < 0 then (0, 6) else (findI ws N.toNat m, 0)) else (0, 1)) := by
  unfold F42
  rw [g31 hN hN2 hl (by omega), Option.bind_some]
  cases hr : rightB N ws fl
  · rfl
  · obtain ⟨n, rfl, h0, h1, h2, h3, h4⟩ := right_iff hr
    simp only [Bool.not_true, cond_false, if_true]
    by_cases hm : m < 1
    · rw [cT hm, if_pos hm]
    rw [cF hm, if_neg hm, Int.toNat_natCast]
    have hL := L42_12_run (k := k) (N := n) (m := m) (b := b) (o := o) (ws := ws) (fl := fl) (by omega) h3 (by omega) hm2 hk ws.length 0 (k + 8) 0 (by omega) (by omega) (by omega) (by omega)
    have hs : scan (takenB ws) m (64 * ws.length) 0 0 = match scan (takenB ws) m n 0 0 with | .inl r' => .inl (if 64 * ws.length - n = 0 then r' else 0) | .inr j => .inr j := by
      have e := scan_add (takenB ws) m n (64 * ws.length - n) 0 0
      rw [show n + (64 * ws.length - n) = 64 * ws.length by omega] at e
      rw [e]
      cases scan (takenB ws) m n 0 0 with
      | inl r' => simp only; rw [scan_all (by omega) _ _ _ (fun j h5 h6 => h4 j (by omega) (by omega))]
      | inr j => rfl
    rw [Nat.mul_zero, hs] at hL
    unfold findI
    cases hq : scan (takenB ws) m n 0 0 with
    | inl r' =>
      rw [hq] at hL
      obtain ⟨y, z, hz⟩ := hL
      rw [show ((0 : Nat) : Int) = 0 from rfl] at hz
      rw [hz]; rfl
    | inr j =>
      rw [hq] at hL
      obtain ⟨x, y, z, u, hz, hj, hx, hy⟩ := hL
      rw [show ((0 : Nat) : Int) = 0 from rfl] at hz
      have hle := scan_le _ _ _ _ (Nat.le_refl _) hq
      rw [hz, Option.bind_some]
      simp only
      rw [if_neg (by omega), wi (n := 64 * (x : Int)) (by omega) (by omega), wi (n := 64 * (x : Int) + y) (by omega) (by omega), wi (n := 64 * (x : Int) + y + 1) (by omega) (by omega), wi (by omega) (by omega)]
      congr 2
      omega
theorem L44_run {k n : Nat} {fl m : Int} {b : Bool} {o : Option Bool} {ws : List Wd} (hl : ws.length ≤ 1000) (hn : n ≤ 64 * ws.length) (hm : 1 ≤ m) (hm2 : m < 9223372036854775808) (hk : 1000 ≤ k) : ∀ (c i f r : Nat), n - i = c → i ≤ n → c < f → r ≤ i →
    match scan (takenB ws) m c i r with
    | .inl r' => ∃ y z, L44_16 k n fl m b (ws.map uw) o 1 f (r : Int) (i : Int) = some (.e2 y z)
    | .inr j => ∃ z, L44_16 k n fl m b (ws.map uw) o 1 f (r : Int) (i : Int) = some (.e1 z j) := by
  intro c
  induction c with
  | zero =>
    intro i f r hc hi hf hr
    obtain ⟨f, rfl⟩ : ∃ g, f = g + 1 := ⟨f - 1, by omega⟩
    refine ⟨(r : Int), (i : Int), ?_⟩
    rw [L44_16, cF (by omega)]
  | succ c ih =>
    intro i f r hc hi hf hr
    obtain ⟨f, rfl⟩ : ∃ g, f = g + 1 := ⟨f - 1, by omega⟩
    simp only [scan]
    rw [L44_16, cT (by omega), g39 hl (by omega) (by omega), Option.bind_some, wi (n := (i : Int) + 1) (by omega) (by omega), show ((i : Int) + 1) = ((i + 1 : Nat) : Int) by omega]
    cases ht : takenB ws i
    · rw [cond_false]
      simp only [Bool.false_eq_true, if_false]
      rw [wi (by omega) (by omega), show ((r : Int) + 1) = ((r + 1 : Nat) : Int) by omega]
      by_cases he : ((r + 1 : Nat) : Int) = m
      · rw [if_pos he, cT he]
        exact ⟨(r : Int), rfl⟩
      · rw [if_neg he, cF he]
        exact ih (i + 1) f (r + 1) (by omega) (by omega) (by omega) (by omega)
    · rw [cond_true]
      simp only [if_true]
      rw [cF (by omega), if_neg (by omega)]
      exact ih (i + 1) f 0 (by omega) (by omega) (by omega) (by omega)
theorem g44 {k n : Nat} {fl m : Int} {o : Option Bool} {b : Bool} {ws : List Wd} (hl : ws.length ≤ 1000) (hn : n ≤ 64 * ws.length) (hn2 : n ≤ 5000) (hm : 1 ≤ m) (hm2 : m < 9223372036854775808) (hk : 5000 ≤ k) : F44 k n o b 1 (ws.map uw) fl m = some (findI ws n m) := by
  unfold F44 findI
  have hL := L44_run (k := k) (fl := fl) (b := b) (o := o) hl hn hm hm2 (by omega) n 0 (k + 8) 0 (by omega) (by omega) (by omega) (by omega)
  rw [show ((0 : Nat) : Int) = 0 from rfl] at hL
  cases hq : scan (takenB ws) m n 0 0 with
  | inl r' =>
    rw [hq] at hL
    obtain ⟨y, z, hz⟩ := hL
    rw [hz]; rfl
  | inr j =>
    rw [hq] at hL
    obtain ⟨z, hz⟩ := hL
    have hle := scan_le _ _ _ _ (Nat.le_refl _) hq
    rw [hz, Option.bind_some]
    simp only
    rw [wi (n := (j : Int) + 1) (by omega) (by omega), wi (by omega) (by omega)]
end Go.Proofs
