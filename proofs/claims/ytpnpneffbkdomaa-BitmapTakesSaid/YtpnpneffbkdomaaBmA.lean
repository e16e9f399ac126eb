/-
  Maps of bits, plainly: which may be, new ones, and when two are the same.
-/
import Derived.Test.YtpnpneffbkdomaaFxB
import Derived.Test.YtpnpneffbkdomaaSymPlain
set_option linter.unusedVariables false
set_option linter.unusedSimpArgs false
set_option maxRecDepth 100000
namespace Go.Proofs
open Go Go.Sym

/-! ### Bits -/
theorem L72_run {k : Nat} {n : Nat} : ∀ (r i f : Nat) (a : Wd), n - i = r → i ≤ n → n ≤ 1000 → r < f → ∃ z, L72_2 k n f (a.toNat : Int) (i : Int) = some (.e0 ((a >>> (n - i)).toNat : Int) z) := by
  intro r
  induction r with
  | zero =>
    intro i f a hr hi hn hf
    obtain ⟨f, rfl⟩ : ∃ g, f = g + 1 := ⟨f - 1, by omega⟩
    refine ⟨(i : Int), ?_⟩
    rw [L72_2, cF (by omega), show n - i = 0 by omega]
    rfl
  | succ r ih =>
    intro i f a hr hi hn hf
    obtain ⟨f, rfl⟩ : ∃ g, f = g + 1 := ⟨f - 1, by omega⟩
    have e : IntKind.u64.wrap ((a.toNat : Int).tdiv 2) = ((a >>> 1).toNat : Int) := by
      rw [show (2 : Int) = ((2 : Nat) : Int) from rfl, td (by omega), wu (by omega) (by have := a.isLt; omega), BitVec.toNat_ushiftRight, Nat.shiftRight_eq_div_pow]
      omega
    obtain ⟨z, hz⟩ := ih (i + 1) f (a >>> 1) (by omega) (by omega) hn (by omega)
    refine ⟨z, ?_⟩
    rw [L72_2, cT (by omega), e, wi (by omega) (by omega), show ((i : Int) + 1) = ((i + 1 : Nat) : Int) by omega, hz, ← BitVec.shiftRight_add, show 1 + (n - (i + 1)) = n - i by omega]
theorem g72 {k : Nat} {n : Nat} (hn : n ≤ 1000) (hk : 1000 ≤ k) (a : Wd) : F72 k (a.toNat : Int) (n : Int) = some (a.getLsbD n) := by
  unfold F72
  obtain ⟨z, hz⟩ := L72_run (k := k) n 0 (k + 2) a (by omega) (by omega) hn (by omega)
  rw [show ((0 : Nat) : Int) = 0 from rfl] at hz
  rw [hz, Option.bind_some, Nat.sub_zero]
  simp only [Option.some.injEq]
  rw [show (2 : Int) = ((2 : Nat) : Int) from rfl, tm (by omega)]
  rw [BitVec.getLsbD, Nat.testBit_eq_decide_div_mod_eq, BitVec.toNat_ushiftRight, Nat.shiftRight_eq_div_pow]
  congr 1
  apply propext
  omega
/-- Is a place taken? -/
def takenB (ws : List Wd) (i : Nat) : Bool := (ws.getD (i / 64) 0).getLsbD (i % 64)
theorem g39 {k : Nat} {N fl : Int} {o : Option Bool} {b : Bool} {ws : List Wd} {i : Nat} (hl : ws.length ≤ 1000) (hi : i < 64 * ws.length) (hk : 1000 ≤ k) : F39 k N o b 1 (ws.map uw) fl (i : Int) = some (takenB ws i) := by
  have h1 : i / 64 < ws.length := by omega
  unfold F39
  rw [gp rfl, show (64 : Int) = ((64 : Nat) : Int) from rfl, td (by omega), tm (by omega), wi (by omega) (by omega), show ((i : Int) / (64 : Nat)) = ((i / 64 : Nat) : Int) by omega, at_uw h1, Option.bind_some,
    show ((i : Int) % (64 : Nat)) = ((i % 64 : Nat) : Int) by omega, g72 (by omega) (by omega), Option.bind_some]
  unfold takenB
  rw [List.getD_eq_getElem?_getD, List.getElem?_eq_getElem h1]; rfl

/-! ### Which words are full -/
def fullL : Nat → List Wd → Wd → Wd
  | _, [], a => a
  | i, w :: r, a => fullL (i + 1) r (if w = BitVec.allOnes 64 then a ||| (1#64 <<< i) else a)
def fullW (ws : List Wd) : Wd := fullL 0 ws 0
theorem L71_run {k : Nat} {b : Bool} {o : Option Bool} {ws : List Wd} (hl : ws.length ≤ 1000) : ∀ (r i f : Nat) (a : Wd), ws.length - i = r → i ≤ ws.length → r < f → ∃ z, L71_0 k b (ws.map uw) o 1 f (a.toNat : Int) (i : Int) = some (.e0 ((fullL i (ws.drop i) a).toNat : Int) z) := by
  intro r
  induction r with
  | zero =>
    intro i f a hr hi hf
    obtain ⟨f, rfl⟩ : ∃ g, f = g + 1 := ⟨f - 1, by omega⟩
    refine ⟨(i : Int), ?_⟩
    rw [L71_0, List.length_map, cF (by omega), List.drop_eq_nil_of_le (by omega)]
    rfl
  | succ r ih =>
    intro i f a hr hi hf
    obtain ⟨f, rfl⟩ : ∃ g, f = g + 1 := ⟨f - 1, by omega⟩
    have h1 : i < ws.length := by omega
    rw [L71_0, List.length_map, cT (by omega), gp rfl, at_uw h1, Option.bind_some, List.drop_eq_getElem_cons h1, wi (by omega) (by omega), show ((i : Int) + 1) = ((i + 1 : Nat) : Int) by omega]
    simp only [fullL]
    by_cases hw : ws[i] = BitVec.allOnes 64
    · rw [cT ((eq_all _).2 hw), gp (by omega), Int.toNat_natCast, shl_one, or_w, if_pos hw]
      exact ih (i + 1) f _ (by omega) (by omega) (by omega)
    · rw [cF (fun h => hw ((eq_all _).1 h)), if_neg hw]
      exact ih (i + 1) f _ (by omega) (by omega) (by omega)
theorem g71 {k : Nat} {b : Bool} {o : Option Bool} {ws : List Wd} (hl : ws.length ≤ 1000) (hk : 1000 ≤ k) : F71 k o b 1 (ws.map uw) = some ((fullW ws).toNat : Int) := by
  unfold F71
  obtain ⟨z, hz⟩ := L71_run (k := k) (b := b) (o := o) hl ws.length 0 (k + 2) 0#64 (by omega) (by omega) (by omega)
  rw [show ((0#64).toNat : Int) = 0 from rfl, show ((0 : Nat) : Int) = 0 from rfl, List.drop_zero] at hz
  rw [hz]
  rfl
theorem fullL_bit : ∀ (r : List Wd) (i : Nat) (a : Wd) (j : Nat), (fullL i r a).getLsbD j = (a.getLsbD j || (decide (j < 64) && (decide (i ≤ j) && decide (r[j - i]? = some (BitVec.allOnes 64))))) := by
  intro r
  induction r with
  | nil => intro i a j; simp [fullL]
  | cons w r ih =>
    intro i a j
    simp only [fullL]
    rw [ih]
    rcases Nat.lt_trichotomy j i with h | h | h
    · have e : (if w = BitVec.allOnes 64 then a ||| 1#64 <<< i else a).getLsbD j = a.getLsbD j := by
        split
        · rw [BitVec.getLsbD_or, BitVec.getLsbD_shiftLeft, decide_eq_true h]
          simp
        · rfl
      rw [e, decide_eq_false (p := i + 1 ≤ j) (by omega), decide_eq_false (p := i ≤ j) (by omega)]
      simp
    · subst h
      rw [decide_eq_false (p := j + 1 ≤ j) (by omega), decide_eq_true (p := j ≤ j) (by omega), Nat.sub_self]
      simp only [List.getElem?_cons_zero, Option.some.injEq, Bool.false_and, Bool.and_false, Bool.or_false, Bool.true_and]
      split
      · rename_i hw
        rw [BitVec.getLsbD_or, BitVec.getLsbD_shiftLeft, decide_eq_true hw]
        by_cases hj : j < 64
        · simp [hj]
        · simp [hj]
      · rename_i hw
        rw [decide_eq_false hw]; simp
    · have e : (if w = BitVec.allOnes 64 then a ||| 1#64 <<< i else a).getLsbD j = a.getLsbD j := by
        split
        · rw [BitVec.getLsbD_or, BitVec.getLsbD_shiftLeft, BitVec.getLsbD_one]
          have : j - i ≠ 0 := by omega
          simp [this]
        · rfl
      rw [e, decide_eq_true (p := i + 1 ≤ j) (by omega), decide_eq_true (p := i ≤ j) (by omega)]
      rw [show j - i = (j - (i + 1)) + 1 by omega, List.getElem?_cons_succ]
theorem fullW_bit (ws : List Wd) (j : Nat) : (fullW ws).getLsbD j = (decide (j < 64) && decide (ws[j]? = some (BitVec.allOnes 64))) := by
  unfold fullW
  rw [fullL_bit]
  simp
end Go.Proofs
