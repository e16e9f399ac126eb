/-
  model.Discard and model.Zero, plainly; what the model answers is the reference's answer.
-/
import Derived.Test.YtfjloeemhiffgaaMoD
set_option linter.unusedVariables false
set_option linter.unusedSimpArgs false
set_option maxRecDepth 100000
namespace Go.Proofs.Mo
open Go Go.Sym

def splice (B T : List UInt8) (p q : Nat) : List UInt8 := B.take p ++ T ++ B.drop q
theorem splice_get {B T : List UInt8} {p q : Nat} (hp : p ≤ q) (hq : q ≤ B.length) (hT : T.length = q - p) (i : Nat) : (splice B T p q)[i]? = if i < p then B[i]? else if i < q then T[i - p]? else B[i]? := by
  unfold splice
  rw [List.append_assoc, List.getElem?_append, List.length_take, Nat.min_eq_left (by omega)]
  by_cases h1 : i < p
  · rw [if_pos h1, if_pos h1, List.getElem?_take_of_lt h1]
  · rw [if_neg h1, if_neg h1, List.getElem?_append, hT]
    by_cases h2 : i < q
    · rw [if_pos (by omega), if_pos h2]
    · rw [if_neg (by omega), if_neg h2, List.getElem?_drop]
      congr 1; omega
def newD (l : List Cl) (A Z : Nat) (m : Nat) : Cl :=
  if lo A m = 0 ∧ hi Z m = 32 then (m, 0, []) else if (cellAt l m).2.1 = 1 then (m, (cellAt l m).2.1, splice (cellAt l m).2.2 (zeros (hi Z m - lo A m)) (lo A m) (hi Z m)) else cellAt l m
def newZ (l : List Cl) (A Z : Nat) (m : Nat) : Cl :=
  if lo A m = 0 ∧ hi Z m = 32 then (m, (if (cellAt l m).2.1 = 1 then 2 else (cellAt l m).2.1), []) else if (cellAt l m).2.1 = 1 then (m, (cellAt l m).2.1, splice (cellAt l m).2.2 (zeros (hi Z m - lo A m)) (lo A m) (hi Z m)) else cellAt l m
def wantD (l : List Cl) (A n : Nat) : List Cl := upto l (newD l A (A + n - 1)) (A / 32) ((A + n - 1) / 32 + 1)
def wantZ (l : List Cl) (A n : Nat) : List Cl := upto l (newZ l A (A + n - 1)) (A / 32) ((A + n - 1) / 32 + 1)
theorem bytes_get {l : List Cl} (hr : right l = true) {m i : Nat} (h : i < 32) : (bytesC (cellAt l m))[i]? = some (byteAt l (32 * m + i)) := by
  unfold bytesC byteAt
  rw [show (32 * m + i) / 32 = m by omega, show (32 * m + i) % 32 = i by omega]
  by_cases hs : (cellAt l m).2.1 = 1
  · have := len32 hr hs
    rw [if_pos hs, if_pos hs, List.getElem?_eq_getElem (by omega)]; rfl
  · rw [if_neg hs, if_neg hs]
    unfold zeros
    rw [List.getElem?_replicate, if_pos h]
theorem dataR_get {l : List Cl} {w : Int} {A n : Nat} {data : List UInt8} {m i : Nat} (h : i < 32) : (dataR l w A n data m)[i]? = some (if A ≤ 32 * m + i ∧ 32 * m + i - A < n then (if w = 1 then (data[32 * m + i - A]?).getD 0 else 0) else byteAt l (32 * m + i)) := by
  unfold dataR
  rw [List.getElem?_map, List.getElem?_range h]; rfl
theorem dataR_len {l : List Cl} {w : Int} {A n : Nat} {data : List UInt8} {m : Nat} : (dataR l w A n data m).length = 32 := by unfold dataR; simp
theorem newW_one {l : List Cl} (hr : right l = true) {A m : Nat} {data : List UInt8} (h0 : 0 < data.length) (h1 : A / 32 ≤ m) (h2 : m ≤ (A + data.length - 1) / 32) :
    newW l A (A + data.length - 1) data m = one l 1 A data.length data m := by
  obtain ⟨hlh, h32⟩ := lo_hi (m := m) h0 h1 h2
  have hb := bytes32 hr m
  unfold newW one
  rw [if_pos rfl]
  congr 2
  have hT : ((data.drop (32 * m - A)).take (hi (A + data.length - 1) m - lo A m)).length = hi (A + data.length - 1) m - lo A m := by
    rw [List.length_take, List.length_drop]
    unfold lo hi
    split <;> split <;> omega
  apply List.ext_getElem?
  intro i
  have hsp := splice_get (B := bytesC (cellAt l m)) (p := lo A m) (q := hi (A + data.length - 1) m) (Nat.le_of_lt hlh) (by omega) hT i
  unfold splice at hsp
  rw [hsp]
  by_cases hi32 : i < 32
  · rw [dataR_get hi32, bytes_get hr hi32, if_pos rfl]
    by_cases c1 : i < lo A m
    · rw [if_pos c1, if_neg]
      unfold lo at c1
      split at c1 <;> omega
    · rw [if_neg c1]
      by_cases c2 : i < hi (A + data.length - 1) m
      · have hin : A ≤ 32 * m + i ∧ 32 * m + i - A < data.length := by
          unfold lo at c1; unfold hi at c2
          split at c1 <;> split at c2 <;> omega
        rw [if_pos c2, if_pos hin, List.getElem?_take_of_lt (by omega), List.getElem?_drop, List.getElem?_eq_getElem (by
          unfold lo at c1 ⊢; split at c1 <;> split <;> omega), List.getElem?_eq_getElem hin.2]
        simp only [Option.getD_some]
        congr 2
        unfold lo at c1 ⊢
        split at c1 <;> split <;> omega
      · rw [if_neg c2, if_neg]
        unfold hi at c2
        split at c2 <;> omega
  · rw [if_neg (by omega), if_neg (by omega), List.getElem?_eq_none (by omega), List.getElem?_eq_none (by rw [dataR_len]; omega)]
theorem cell_st {l : List Cl} (hr : right l = true) (m : Nat) : (cellAt l m).2.1 = 1 ∨ ((cellAt l m).2.1 = 2 ∧ (cellAt l m).2.2 = []) ∨ (cellAt l m) = (m, 0, []) := by
  rcases cellAt_mem (l := l) (n := m) with hm | hm
  · have := (right_iff.1 hr).1 _ hm
    unfold okb at this
    by_cases h : (cellAt l m).2.1 = 1
    · exact .inl h
    · rw [if_neg h] at this
      simp only [Bool.and_eq_true, decide_eq_true_eq] at this
      exact .inr (.inl this.2)
  · exact .inr (.inr hm)
theorem newR_one {l : List Cl} (hr : right l = true) {A n m : Nat} {data : List UInt8} : newR l m = one l 4 A n data m := by
  unfold newR one
  rw [if_neg (by decide : ¬ (4 : Int) = 1), if_pos (rfl : (4 : Int) = 4)]
  by_cases h : (cellAt l m).2.1 = 0
  · rw [if_pos h, if_pos h]
    rcases cell_st hr m with hs | ⟨hs, _⟩ | hs
    · rw [hs] at h; cases h
    · rw [hs] at h; cases h
    · rw [hs]
  · rw [if_neg h, if_neg h]
theorem upto_congr {l : List Cl} {f g : Nat → Cl} {a m : Nat} (h : ∀ j, a ≤ j → j < m → f j = g j) : upto l f a m = upto l g a m := by
  unfold upto
  congr 3
  refine List.map_congr_left fun j hj => ?_
  rw [List.mem_range'_1] at hj
  exact h j hj.1 (by omega)
theorem wantW_do {l : List Cl} (hr : right l = true) {A : Nat} {data : List UInt8} (h0 : 0 < data.length) : wantW l A data = doR l 1 A data.length data :=
  upto_congr fun j h1 h2 => newW_one hr h0 h1 (by omega)
theorem wantR_do {l : List Cl} (hr : right l = true) {A n : Nat} {data : List UInt8} : wantR l A n = doR l 4 A n data :=
  upto_congr fun j h1 h2 => newR_one hr
end Go.Proofs.Mo
