/-
  Maps of bits, plainly, second part: blank ones, and which may be.
-/
import Derived.Test.YtpnpneffbkdomaaBmA
set_option linter.unusedVariables false
set_option linter.unusedSimpArgs false
set_option maxRecDepth 100000
namespace Go.Proofs
open Go Go.Sym

def maskOf (n : Nat) : Wd := if n % 64 = 0 then 0 else BitVec.allOnes 64 <<< (n % 64)
def blankL (n : Nat) : List Wd := (List.replicate ((n + 63) / 64) (0 : Wd)).set ((n + 63) / 64 - 1) (maskOf n)
theorem blankL_length (n : Nat) : (blankL n).length = (n + 63) / 64 := by simp [blankL]
theorem g70 {k n : Nat} (h0 : 1 ≤ n) (h1 : n ≤ 4096) : F70 k (n : Int) = some ((n : Int), none, false, 1, (blankL n).map uw, 0) := by
  have e1 : IntKind.i64.wrap ((IntKind.i64.wrap ((n : Int) + 63)).tdiv 64) = (((n + 63) / 64 : Nat) : Int) := by
    rw [wi (n := (n : Int) + 63) (by omega) (by omega), show (64 : Int) = ((64 : Nat) : Int) from rfl, td (by omega), wi (by omega) (by omega)]
    omega
  have e2 : (n : Int).tmod 64 = ((n % 64 : Nat) : Int) := by
    rw [show (64 : Int) = ((64 : Nat) : Int) from rfl, tm (by omega)]; omega
  have e3 : IntKind.i64.wrap ((((n + 63) / 64 : Nat) : Int) - 1) = (((n + 63) / 64 - 1 : Nat) : Int) := by
    rw [wi (by omega) (by omega)]; omega
  have em : List.replicate ((n + 63) / 64) (V.int IntKind.u64 0) = (List.replicate ((n + 63) / 64) (0 : Wd)).map uw := by
    rw [List.map_replicate]; rfl
  unfold F70
  rw [e1, e2, Int.toNat_natCast, List.length_replicate, e3, Int.toNat_natCast, gp (by simp only [maxLen']; omega)]
  unfold blankL maskOf
  by_cases h : n % 64 = 0
  · rw [cF (by omega), if_pos h, em]
    congr 2
    simp only [Prod.mk.injEq, true_and, and_true]
    congr 1
    apply List.ext_getElem (by simp)
    intro i h2 h3
    simp [List.getElem_set]
  · rw [cT (by omega), gp (by omega), gp (by omega), gp (by omega), if_neg h, Int.toNat_natCast, shl_all, em, List.map_set]
    rfl

/-- May a map be? -/
def rightB (N : Int) (ws : List Wd) (fl : Wd) : Bool :=
  decide (1 ≤ N ∧ N ≤ 4096 ∧ (ws.length : Int) = ((N.toNat + 63) / 64 : Nat) ∧ fl = fullW ws ∧ ∀ i : Nat, i < 64 * ws.length → N.toNat ≤ i → takenB ws i = true)
theorem mask_bit (n j : Nat) (hj : j < 64) : (maskOf n).getLsbD j = (decide (0 < n % 64) && decide (n % 64 ≤ j)) := by
  unfold maskOf
  split
  · rename_i h; simp [h]
  · rename_i h
    rw [BitVec.getLsbD_shiftLeft, BitVec.getLsbD_allOnes, decide_eq_true hj, decide_eq_true (p := 0 < n % 64) (by omega)]
    by_cases h2 : n % 64 ≤ j
    · simp [h2]; omega
    · simp [h2]
theorem last_full {n : Nat} {ws : List Wd} (h0 : 1 ≤ n) (hw : ws.length = (n + 63) / 64) (hl : ws.length - 1 < ws.length) :
    (ws[ws.length - 1] &&& maskOf n = maskOf n) ↔ ∀ i : Nat, i < 64 * ws.length → n ≤ i → takenB ws i = true := by
  constructor
  · intro h i h2 hi
    have hd : i / 64 = ws.length - 1 := by omega
    unfold takenB
    rw [hd, List.getD_eq_getElem?_getD, List.getElem?_eq_getElem hl, Option.getD_some]
    have := congrArg (fun x : Wd => x.getLsbD (i % 64)) h
    simp only [BitVec.getLsbD_and] at this
    rw [mask_bit n (i % 64) (by omega), decide_eq_true (p := 0 < n % 64) (by omega), decide_eq_true (p := n % 64 ≤ i % 64) (by omega)] at this
    simpa using this
  · intro h
    apply BitVec.eq_of_getLsbD_eq
    intro j hj
    rw [BitVec.getLsbD_and, mask_bit n j hj]
    by_cases h1 : 0 < n % 64 ∧ n % 64 ≤ j
    · have := h (64 * (ws.length - 1) + j) (by omega) (by omega)
      unfold takenB at this
      rw [show (64 * (ws.length - 1) + j) / 64 = ws.length - 1 by omega, show (64 * (ws.length - 1) + j) % 64 = j by omega, List.getD_eq_getElem?_getD, List.getElem?_eq_getElem hl, Option.getD_some] at this
      rw [this]; simp
    · have : (decide (0 < n % 64) && decide (n % 64 ≤ j)) = false := by
        rw [Bool.eq_false_iff]; intro e; simp at e; exact h1 e
      rw [this]; simp

theorem g31 {k : Nat} {N : Int} {o : Option Bool} {b : Bool} {ws : List Wd} {fl : Wd} (hN : -9223372036854775808 ≤ N) (hN2 : N < 9223372036854775808) (hl : ws.length ≤ 1000) (hk : 1000 ≤ k) :
    F31 k N o b 1 (ws.map uw) (fl.toNat : Int) = some (rightB N ws fl) := by
  unfold F31 rightB
  by_cases h1 : N < 1
  · rw [cT h1, dec_f (fun h => by omega)]
  by_cases h2 : 4096 < N
  · rw [cF h1, cT h2, dec_f (fun h => by omega)]
  obtain ⟨n, rfl⟩ : ∃ n : Nat, N = n := ⟨N.toNat, by omega⟩
  have e1 : IntKind.i64.wrap ((IntKind.i64.wrap ((n : Int) + 63)).tdiv 64) = (((n + 63) / 64 : Nat) : Int) := by
    rw [wi (n := (n : Int) + 63) (by omega) (by omega), show (64 : Int) = ((64 : Nat) : Int) from rfl, td (by omega), wi (by omega) (by omega)]
    omega
  rw [cF h1, cF h2, e1, List.length_map, Int.toNat_natCast]
  by_cases h3 : (ws.length : Int) = ((n + 63) / 64 : Nat)
  case neg => rw [cNF h3, dec_f (fun h => h3 h.2.2.1)]
  rw [cNT h3, g71 hl (by omega), Option.bind_some]
  by_cases h4 : fl = fullW ws
  case neg => rw [cNF (fun h => h4 ((eq_w _ _).1 h)), dec_f (fun h => h4 h.2.2.2.1)]
  have hlt : ws.length - 1 < ws.length := by omega
  have hlt2 : ws.length - 1 < (blankL n).length := by rw [blankL_length]; omega
  have eb : (blankL n)[ws.length - 1] = maskOf n := by
    have : ∀ (l : List Wd) (i j : Nat) (v : Wd) (h : j < (l.set i v).length), i = j → (l.set i v)[j] = v := fun l i j v h e => by subst e; simp
    exact this _ _ _ _ _ (by omega)
  rw [cNT ((eq_w _ _).2 h4), g70 (by omega) (by omega), Option.bind_some]
  simp only
  rw [gp trivial, List.length_map, blankL_length, show IntKind.i64.wrap ((((n + 63) / 64 : Nat) : Int) - 1) = ((ws.length - 1 : Nat) : Int) by rw [wi (by omega) (by omega)]; omega,
    at_uw hlt, Option.bind_some, gp trivial, at_uw hlt2, Option.bind_some, eb, and_w, Option.some.injEq]
  congr 1
  apply propext
  rw [eq_w, last_full (by omega) (by omega) hlt]
  constructor
  · intro h; exact ⟨by omega, by omega, h3, h4, h⟩
  · intro h; exact h.2.2.2.2
end Go.Proofs
