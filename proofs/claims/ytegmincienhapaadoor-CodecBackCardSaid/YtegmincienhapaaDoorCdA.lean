/-
  Numbers as bytes, plainly.
-/
import Derived.Test.YtegmincienhapaaDoorCd4
import Derived.Test.YtegmincienhapaaDoorSymPlain
set_option linter.unusedVariables false
set_option linter.unusedSimpArgs false
set_option maxRecDepth 100000
namespace Go.Proofs
open Go Go.Sym

def ub (c : UInt8) : V := V.int .u8 (c.toNat : Int)
def byteAt (w : Wd) (j : Nat) : UInt8 := UInt8.ofNat (w.toNat / 256 ^ j)
/-- A number's lowest bytes. -/
def lowN (w : Wd) (m : Nat) : List UInt8 := (List.range m).map (byteAt w)
theorem pow8 (j : Nat) : 2 ^ (8 * j) = 256 ^ j := by rw [Nat.pow_mul]
theorem shr_byte (w : Wd) (j : Nat) (hj : j ≤ 7) : V.int .u8 (IntKind.u8.wrap ((w.toNat : Int).fdiv (2 ^ min (8 * j) IntKind.u64.bits))) = ub (byteAt w j) := by
  rw [shr_w, wb_mod, BitVec.toNat_ushiftRight, Nat.shiftRight_eq_div_pow, pow8]
  unfold ub byteAt
  rw [UInt8.toNat_ofNat']
  congr 1
def partN (w : Wd) (m i : Nat) : List V := (List.range m).map fun j => if j < i then ub (byteAt w j) else ub 0
theorem partN_length (w : Wd) (m i : Nat) : (partN w m i).length = m := by simp [partN]
theorem partN_set {w : Wd} {m i : Nat} (hi : i < m) : (partN w m i).set i (ub (byteAt w i)) = partN w m (i + 1) := by
  apply List.ext_getElem (by simp [partN])
  intro j h1 h2
  rw [List.getElem_set]
  simp only [partN, List.getElem_map, List.getElem_range]
  by_cases h : i = j
  · subst h; rw [if_pos rfl, if_pos (by omega)]
  · rw [if_neg h]
    by_cases h3 : j < i
    · rw [if_pos h3, if_pos (by omega)]
    · rw [if_neg h3, if_neg (by omega)]
theorem partN_zero (w : Wd) (m : Nat) : partN w m 0 = List.replicate m (V.int .u8 0) := by
  apply List.ext_getElem (by simp [partN])
  intro j h1 h2
  simp [partN, ub]
theorem partN_all (w : Wd) (m : Nat) : partN w m m = (lowN w m).map ub := by
  apply List.ext_getElem (by simp [partN, lowN])
  intro j h1 h2
  have : j < m := by rwa [partN_length] at h1
  simp [partN, lowN, this]
theorem all_ub (l : List UInt8) : (l.map ub).all isByte = true := by
  simp [ub, isByte]
theorem byteOf_ub (l : List UInt8) : (l.map ub).map Sym.byteOf = l := by
  induction l with
  | nil => rfl
  | cons c r ih => simp only [List.map_cons, ih, ub, Sym.byteOf, Int.toNat_natCast, UInt8.ofNat_toNat]
theorem L40_run {k m : Nat} {w : Wd} (hm : m ≤ 8) : ∀ (c i g : Nat), m - i = c → i ≤ m → c < g → ∃ z, L40_0 k (w.toNat : Int) m g (i : Int) (partN w m i) = some (.e0 z ((lowN w m).map ub)) := by
  intro c
  induction c with
  | zero =>
    intro i g hc hi hg
    obtain ⟨g, rfl⟩ : ∃ y, g = y + 1 := ⟨g - 1, by omega⟩
    refine ⟨(i : Int), ?_⟩
    rw [L40_0, List.length_replicate, Int.toNat_natCast, cF (by omega), show i = m by omega, partN_all]
  | succ c ih =>
    intro i g hc hi hg
    obtain ⟨g, rfl⟩ : ∃ y, g = y + 1 := ⟨g - 1, by omega⟩
    obtain ⟨z, hz⟩ := ih (i + 1) g (by omega) (by omega) (by omega)
    refine ⟨z, ?_⟩
    rw [L40_0, List.length_replicate, Int.toNat_natCast, cT (by omega), wi (n := 8 * (i : Int)) (by omega) (by omega), gp (by omega), partN_length, gp (by omega), Int.toNat_natCast, gp (by omega), show (8 * (i : Int)).toNat = 8 * i by omega, shr_byte w i (by omega), partN_set (by omega), wi (n := (i : Int) + 1) (by omega) (by omega), show ((i : Int) + 1) = ((i + 1 : Nat) : Int) by omega]
    exact hz
theorem g40 {k m : Nat} {w : Wd} (hm : m ≤ 8) (hk : 10 ≤ k) : F40 k (w.toNat : Int) m = some (lowN w m) := by
  unfold F40
  obtain ⟨z, hz⟩ := L40_run (k := k) (w := w) hm m 0 (k + 2) (by omega) (by omega) (by omega)
  rw [partN_zero, show ((0 : Nat) : Int) = 0 from rfl] at hz
  rw [gp (by simp only [maxLen']; omega), Int.toNat_natCast, hz, Option.bind_some]
  simp only
  rw [gp (all_ub _), byteOf_ub]
theorem g22 {k : Nat} {w : Wd} (hk : 10 ≤ k) : F22 k (w.toNat : Int) = some (lowN w 8) := by
  unfold F22
  rw [show (8 : Int) = ((8 : Nat) : Int) from rfl, g40 (by omega) (by omega)]; rfl
theorem g8 {k : Nat} (hk : 10 ≤ k) : F8 k = some true := by
  unfold F8
  rw [show (258 : Int) = ((258#64).toNat : Int) from rfl, g22 (by omega), Option.bind_some, dec_t (by decide)]
end Go.Proofs
