/-
  model.Write and model.Reserve, plainly.
-/
import Derived.Test.YtfjloeemhiffgaaMoPb
import Derived.Test.YtfjloeemhiffgaaMoB
set_option linter.unusedVariables false
set_option linter.unusedSimpArgs false
set_option maxRecDepth 100000
namespace Go.Proofs.Mo
open Go Go.Sym

def lo (A m : Nat) : Nat := if m = A / 32 then A % 32 else 0
def hi (Z m : Nat) : Nat := if m = Z / 32 then Z % 32 + 1 else 32
theorem lo_hi {A n m : Nat} (hn : 0 < n) (h1 : A / 32 ≤ m) (h2 : m ≤ (A + n - 1) / 32) : lo A m < hi (A + n - 1) m ∧ hi (A + n - 1) m ≤ 32 := by
  unfold lo hi
  split <;> split <;> omega
def newW (l : List Cl) (A Z : Nat) (data : List UInt8) (m : Nat) : Cl :=
  (m, 1, (bytesC (cellAt l m)).take (lo A m) ++ (data.drop (32 * m - A)).take (hi Z m - lo A m) ++ (bytesC (cellAt l m)).drop (hi Z m))
def newR (l : List Cl) (m : Nat) : Cl := if (cellAt l m).2.1 = 0 then (m, 2, (cellAt l m).2.2) else cellAt l m
theorem upto_len (l : List Cl) (new : Nat → Cl) {a m : Nat} (ham : a ≤ m) : (upto l new a m).length ≤ l.length + (m - a) := by
  unfold upto
  have h : ∀ l : List Cl, (l.filter fun x => decide (x.1 < a)).length + (l.filter fun x => decide (m ≤ x.1)).length ≤ l.length := by
    intro l
    induction l with
    | nil => simp
    | cons x r ih =>
      simp only [List.filter_cons, List.length_cons]
      by_cases h1 : x.1 < a
      · rw [if_pos (by simpa using h1), if_neg (by simp; omega)]; simp only [List.length_cons]; omega
      · rw [if_neg (by simpa using h1)]
        split
        · simp only [List.length_cons]; omega
        · omega
  have h1 := h l
  have h2 := List.length_filter_le (fun x : Cl => decide (x.2.1 ≠ 0)) ((List.range' a (m - a)).map new)
  simp only [List.length_append]
  simp only [List.length_map, List.length_range'] at h2
  omega
theorem bytes32 {l : List Cl} (hr : right l = true) (m : Nat) : (bytesC (cellAt l m)).length = 32 := by
  unfold bytesC
  split
  · rename_i h
    rcases cellAt_mem (l := l) (n := m) with hm | hm
    · have := (right_iff.1 hr).1 _ hm
      unfold okb at this
      rw [if_pos h] at this
      exact of_decide_eq_true (Bool.and_eq_true _ _ ▸ this).2
    · rw [hm] at h; cases h
  · exact List.length_replicate
theorem eD {A : Nat} (h : A < B64) : IntKind.u64.wrap ((A : Int).tdiv 32) = ((A / 32 : Nat) : Int) := by
  unfold B64 at h
  rw [show (32 : Int) = ((32 : Nat) : Int) from rfl, td (by omega), wu (by omega) (by omega)]; omega
theorem eM (A : Nat) : IntKind.i64.wrap ((A : Int).tmod 32) = ((A % 32 : Nat) : Int) := by
  rw [show (32 : Int) = ((32 : Nat) : Int) from rfl, tm (by omega), wi (by omega) (by omega)]; omega
theorem ws {x y : Nat} (h : y ≤ x) (hx : x ≤ 1000) : IntKind.i64.wrap ((x : Int) - (y : Int)) = ((x - y : Nat) : Int) := by
  rw [wi (by omega) (by omega)]; omega
theorem wp {x : Nat} (hx : x ≤ 1000) : IntKind.i64.wrap ((x : Int) + 1) = ((x + 1 : Nat) : Int) := by
  rw [wi (by omega) (by omega)]; omega
theorem wn {x : Nat} (hx : x < 18446744073709551615) : IntKind.u64.wrap ((x : Int) + 1) = ((x + 1 : Nat) : Int) := by
  rw [wu (by omega) (by omega)]; omega

/-- What fits. -/
def fits (l now : List Cl) (q : Int) : Bool := decide (now.length ≤ l.length ∨ ((now.length : Int) ≤ q ∧ now.length ≤ 64))
def wantW (l : List Cl) (A : Nat) (data : List UInt8) : List Cl := upto l (newW l A (A + data.length - 1) data) (A / 32) ((A + data.length - 1) / 32 + 1)
def wantR (l : List Cl) (A n : Nat) : List Cl := upto l (newR l) (A / 32) ((A + n - 1) / 32 + 1)
theorem why_ok {l : List Cl} {A n : Nat} (h : why l A n = 0) : right l = true ∧ 0 < n ∧ n ≤ 224 ∧ A + n ≤ B64 := by
  unfold why at h
  split at h
  · rename_i hr
    split at h
    · cases h
    · split at h
      · cases h
      · exact ⟨hr, by omega, by omega, by omega⟩
  · cases h
end Go.Proofs.Mo
