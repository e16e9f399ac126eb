/-
  Maps of bits, plainly, sixth part: how many places are taken.
-/
import Derived.Test.YtpnpneffbkdomaaBmD
import Derived.Test.YtpnpneffbkdomaaSymPop
set_option linter.unusedVariables false
set_option linter.unusedSimpArgs false
set_option maxRecDepth 100000
namespace Go.Proofs
open Go Go.Sym

theorem land_k {x : Nat} (ci : Int) (c : Nat) (hci : ci = (c : Int)) (hx : x < 18446744073709551616) (hc : c < 18446744073709551616) : IntKind.u64.wrap (↑(BitVec.ofInt IntKind.u64.bits (x : Int) &&& BitVec.ofInt IntKind.u64.bits ci).toNat : Int) = ((x &&& c : Nat) : Int) := by
  rw [hci]; exact land_n hx hc
theorem fd_k (x n : Nat) (m : Nat) (hm : m = 2 ^ n) (hn : n ≤ 64) : (x : Int).fdiv (2 ^ min n IntKind.u64.bits) = ((x / m : Nat) : Int) := by
  rw [hm]; exact fd_n x n hn
theorem g78 {k : Nat} (w : Wd) : F78 k (w.toNat : Int) = some ((cnt w.getLsbD 64 : Nat) : Int) := by
  obtain ⟨b0, b1, b2, b3, b4, b5, b6, b7, h0, h1, h2, h3, h4, h5, h6, h7, l1, l2, l3, e, hc⟩ := pop_nat w.isLt
  obtain ⟨y1, y2, y3, e1, m1, e2, m2, e3, m3, hm⟩ := ones_tail h0 h1 h2 h3 h4 h5 h6 h7 e
  have hw := w.isLt
  have hcw : cnt w.getLsbD 64 = cnt w.toNat.testBit 64 := rfl
  rw [hcw, hc]
  clear hcw hc e h0 h1 h2 h3 h4 h5 h6 h7
  generalize w.toNat = x at *
  have q1e : q1 x = ((x / 2) &&& 6148914691236517205) + (x &&& 6148914691236517205) := rfl
  have q2e : q2 (q1 x) = ((q1 x / 4) &&& 3689348814741910323) + (q1 x &&& 3689348814741910323) := rfl
  have q3e : q3 (q2 (q1 x)) = (q2 (q1 x) / 16 + q2 (q1 x)) &&& 1085102592571150095 := rfl
  have d1 : x / 2 < 18446744073709551616 := by omega
  have d2 : q1 x / 4 < 18446744073709551616 := by omega
  unfold F78
  rw [fd_k x (Int.toNat 1) 2 rfl (by decide), land_k 6148914691236517205 6148914691236517205 rfl d1 (by decide), land_k 6148914691236517205 6148914691236517205 rfl hw (by decide), add_n (by rw [← q1e]; exact l1), ← q1e,
    fd_k (q1 x) (Int.toNat 2) 4 rfl (by decide), land_k 3689348814741910323 3689348814741910323 rfl d2 (by decide), land_k 3689348814741910323 3689348814741910323 rfl l1 (by decide), add_n (by rw [← q2e]; exact l2), ← q2e,
    fd_k (q2 (q1 x)) (Int.toNat 4) 16 rfl (by decide), add_n l3, land_k 1085102592571150095 1085102592571150095 rfl l3 (by decide), ← q3e]
  generalize q3 (q2 (q1 x)) = z at *
  rw [fd_k z (Int.toNat 8) 256 rfl (by decide), add_n (by rw [← e1]; exact m1), ← e1, fd_k y1 (Int.toNat 16) 65536 rfl (by decide), add_n (by rw [← e2]; exact m2), ← e2, fd_k y2 (Int.toNat 32) 4294967296 rfl (by decide), add_n (by rw [← e3]; omega), ← e3]
  rw [wi (n := (y3 : Int)) (by omega) (by omega)]
  have hl := land_i (x := y3) (c := 127) m3 (by decide)
  rw [show ((127 : Nat) : Int) = 127 from rfl] at hl
  rw [hl, show y3 &&& 127 = y3 % 128 from Nat.and_two_pow_sub_one_eq_mod y3 7, hm]

theorem word_taken {ws : List Wd} {v j : Nat} (hv : v < ws.length) (hj : j < 64) : takenB ws (64 * v + j) = ws[v].getLsbD j := by
  unfold takenB
  rw [show (64 * v + j) / 64 = v by omega, show (64 * v + j) % 64 = j by omega, List.getD_eq_getElem?_getD, List.getElem?_eq_getElem hv]; rfl
theorem L41_run {k : Nat} {N fl : Int} {b : Bool} {o : Option Bool} {ws : List Wd} (hl : ws.length ≤ 1000) : ∀ (r i f : Nat) (a : Int), ws.length - i = r → i ≤ ws.length → r < f → -1000000 ≤ a → a ≤ 64 * i →
    ∃ z, L41_11 k N fl b (ws.map uw) o 1 f a (i : Int) = some (.e0 (a + (cnt (fun t => takenB ws (64 * i + t)) (64 * r) : Nat)) z) := by
  intro r
  induction r with
  | zero =>
    intro i f a hr hi hf h1 h2
    obtain ⟨f, rfl⟩ : ∃ g, f = g + 1 := ⟨f - 1, by omega⟩
    refine ⟨(i : Int), ?_⟩
    rw [L41_11, List.length_map, cF (by omega)]
    simp [cnt]
  | succ r ih =>
    intro i f a hr hi hf h1 h2
    obtain ⟨f, rfl⟩ : ∃ g, f = g + 1 := ⟨f - 1, by omega⟩
    have h3 : i < ws.length := by omega
    have hc := cnt_le ws[i].getLsbD 64
    obtain ⟨z, hz⟩ := ih (i + 1) f (a + (cnt ws[i].getLsbD 64 : Nat)) (by omega) (by omega) (by omega) (by omega) (by omega)
    refine ⟨z, ?_⟩
    rw [L41_11, List.length_map, cT (by omega), gp rfl, at_uw h3, Option.bind_some, g78, Option.bind_some, wi (n := a + _) (by omega) (by omega), wi (by omega) (by omega), show ((i : Int) + 1) = ((i + 1 : Nat) : Int) by omega, hz]
    congr 2
    rw [show 64 * (r + 1) = 64 + 64 * r by omega, cnt_add, cnt_congr (n := 64) (p := fun t => takenB ws (64 * i + t)) (q := ws[i].getLsbD) (fun j hj => word_taken h3 hj),
      cnt_congr (n := 64 * r) (p := fun t => takenB ws (64 * i + (64 + t))) (q := fun t => takenB ws (64 * (i + 1) + t)) (fun j _ => by show takenB ws _ = takenB ws _; congr 1; omega)]
    omega
theorem right_iff {N : Int} {ws : List Wd} {fl : Wd} (h : rightB N ws fl = true) : ∃ n : Nat, N = n ∧ 1 ≤ n ∧ n ≤ 4096 ∧ ws.length = (n + 63) / 64 ∧ fl = fullW ws ∧ ∀ i : Nat, i < 64 * ws.length → n ≤ i → takenB ws i = true := by
  obtain ⟨h1, h2, h3, h4, h5⟩ := of_decide_eq_true h
  exact ⟨N.toNat, by omega, by omega, by omega, by omega, h4, h5⟩
theorem cnt_all {p : Nat → Bool} {n : Nat} (h : ∀ i, i < n → p i = true) : cnt p n = n := by
  induction n with
  | zero => rfl
  | succ n ih => simp only [cnt]; rw [ih fun i hi => h i (by omega), h n (by omega)]; rfl
theorem g41 {k : Nat} {N : Int} {o : Option Bool} {b : Bool} {ws : List Wd} {fl : Wd} (hN : -9223372036854775808 ≤ N) (hN2 : N < 9223372036854775808) (hl : ws.length ≤ 1000) (hk : 1000 ≤ k) :
    F41 k N o b 1 (ws.map uw) (fl.toNat : Int) = some (if rightB N ws fl = true then (((cnt (takenB ws) N.toNat : Nat) : Int), 0) else (0, 1)) := by
  unfold F41
  rw [g31 hN hN2 hl (by omega), Option.bind_some]
  cases hr : rightB N ws fl
  · rfl
  · obtain ⟨n, rfl, h0, h1, h2, h3, h4⟩ := right_iff hr
    simp only [Bool.not_true, cond_false]
    rw [List.length_map, wi (n := 64 * (ws.length : Int)) (by omega) (by omega), wi (n := (n : Int) - _) (by omega) (by omega)]
    obtain ⟨z, hz⟩ := L41_run (k := k) (N := n) (fl := (fl.toNat : Int)) (b := b) (o := o) hl ws.length 0 (k + 8) ((n : Int) - 64 * (ws.length : Int)) (by omega) (by omega) (by omega) (by omega) (by omega)
    rw [show ((0 : Nat) : Int) = 0 from rfl] at hz
    rw [hz, Option.bind_some]
    simp only [if_true, Option.some.injEq, Prod.mk.injEq, and_true, Int.toNat_natCast]
    have e : (fun t => takenB ws (64 * 0 + t)) = takenB ws := by funext t; rw [Nat.mul_zero, Nat.zero_add]
    rw [e, show 64 * ws.length = n + (64 * ws.length - n) by omega, cnt_add, cnt_all (n := 64 * ws.length - n) (fun i hi => h4 (n + i) (by omega) (by omega))]
    omega
theorem L43_run {k n : Nat} {fl : Int} {b : Bool} {o : Option Bool} {ws : List Wd} (hl : ws.length ≤ 1000) (hn : n ≤ 64 * ws.length) (hk : 1000 ≤ k) : ∀ (r i f : Nat), n - i = r → i ≤ n → r < f →
    ∃ z, L43_15 k n fl b (ws.map uw) o 1 f ((cnt (takenB ws) i : Nat) : Int) (i : Int) = some (.e0 ((cnt (takenB ws) n : Nat) : Int) z) := by
  intro r
  induction r with
  | zero =>
    intro i f hr hi hf
    obtain ⟨f, rfl⟩ : ∃ g, f = g + 1 := ⟨f - 1, by omega⟩
    refine ⟨(i : Int), ?_⟩
    rw [L43_15, cF (by omega), show i = n by omega]
  | succ r ih =>
    intro i f hr hi hf
    obtain ⟨f, rfl⟩ : ∃ g, f = g + 1 := ⟨f - 1, by omega⟩
    have hc := cnt_le (takenB ws) i
    obtain ⟨z, hz⟩ := ih (i + 1) f (by omega) (by omega) (by omega)
    refine ⟨z, ?_⟩
    rw [L43_15, cT (by omega), g39 hl (by omega) (by omega), Option.bind_some, wi (n := (i : Int) + 1) (by omega) (by omega), show ((i : Int) + 1) = ((i + 1 : Nat) : Int) by omega, wi (by omega) (by omega)]
    simp only [cnt] at hz
    cases ht : takenB ws i
    · rw [ht] at hz
      rw [cond_false]; exact hz
    · rw [ht] at hz
      rw [cond_true]
      rw [show (((cnt (takenB ws) i : Nat) : Int) + 1) = ((cnt (takenB ws) i + true.toNat : Nat) : Int) by simp]
      exact hz
theorem g43 {k n : Nat} {fl : Int} {o : Option Bool} {b : Bool} {ws : List Wd} (hl : ws.length ≤ 1000) (hn : n ≤ 64 * ws.length) (hn2 : n ≤ 5000) (hk : 5000 ≤ k) : F43 k n o b 1 (ws.map uw) fl = some ((cnt (takenB ws) n : Nat) : Int) := by
  unfold F43
  obtain ⟨z, hz⟩ := L43_run (k := k) (fl := fl) (b := b) (o := o) hl hn (by omega) n 0 (k + 8) (by omega) (by omega) (by omega)
  rw [show ((0 : Nat) : Int) = 0 from rfl, show ((cnt (takenB ws) 0 : Nat) : Int) = 0 from rfl] at hz
  rw [hz]; rfl
end Go.Proofs
