/- DERIVED. Bytes as a field, plainly: what the functions of both sides answer, by numbers below 256. -/
import Derived.Test.YtegmincienhapaaFlA
import Derived.Test.YtegmincienhapaaSymPlain
set_option linter.unusedVariables false
set_option linter.unusedSimpArgs false
set_option maxRecDepth 1000000
namespace Go.Proofs.Fl
open Go Go.Sym

def invT : List Nat := [0, 1, 141, 246, 203, 82, 123, 209, 232, 79, 41, 192, 176, 225, 229, 199, 116, 180, 170, 75, 153, 43, 96, 95, 88, 63, 253, 204, 255, 64, 238, 178, 58, 110, 90, 241, 85, 77, 168, 201, 193, 10, 152, 21, 48, 68, 162, 194, 44, 69, 146, 108, 243, 57, 102, 66, 242, 53, 32, 111, 119, 187, 89, 25, 29, 254, 55, 103, 45, 49, 245, 105, 167, 100, 171, 19, 84, 37, 233, 9, 237, 92, 5, 202, 76, 36, 135, 191, 24, 62, 34, 240, 81, 236, 97, 23, 22, 94, 175, 211, 73, 166, 54, 67, 244, 71, 145, 223, 51, 147, 33, 59, 121, 183, 151, 133, 16, 181, 186, 60, 182, 112, 208, 6, 161, 250, 129, 130, 131, 126, 127, 128, 150, 115, 190, 86, 155, 158, 149, 217, 247, 2, 185, 164, 222, 106, 50, 109, 216, 138, 132, 114, 42, 20, 159, 136, 249, 220, 137, 154, 251, 124, 46, 195, 143, 184, 101, 72, 38, 200, 18, 74, 206, 231, 210, 98, 12, 224, 31, 239, 17, 117, 120, 113, 165, 142, 118, 61, 189, 188, 134, 87, 11, 40, 47, 163, 218, 212, 228, 15, 169, 39, 83, 4, 27, 252, 172, 230, 122, 7, 174, 99, 197, 219, 226, 234, 148, 139, 196, 213, 157, 248, 144, 107, 177, 13, 214, 235, 198, 14, 207, 173, 8, 78, 215, 227, 93, 80, 30, 179, 91, 35, 56, 52, 104, 70, 3, 140, 221, 156, 125, 160, 205, 26, 65, 28]
def sbT : List Nat := [99, 124, 119, 123, 242, 107, 111, 197, 48, 1, 103, 43, 254, 215, 171, 118, 202, 130, 201, 125, 250, 89, 71, 240, 173, 212, 162, 175, 156, 164, 114, 192, 183, 253, 147, 38, 54, 63, 247, 204, 52, 165, 229, 241, 113, 216, 49, 21, 4, 199, 35, 195, 24, 150, 5, 154, 7, 18, 128, 226, 235, 39, 178, 117, 9, 131, 44, 26, 27, 110, 90, 160, 82, 59, 214, 179, 41, 227, 47, 132, 83, 209, 0, 237, 32, 252, 177, 91, 106, 203, 190, 57, 74, 76, 88, 207, 208, 239, 170, 251, 67, 77, 51, 133, 69, 249, 2, 127, 80, 60, 159, 168, 81, 163, 64, 143, 146, 157, 56, 245, 188, 182, 218, 33, 16, 255, 243, 210, 205, 12, 19, 236, 95, 151, 68, 23, 196, 167, 126, 61, 100, 93, 25, 115, 96, 129, 79, 220, 34, 42, 144, 136, 70, 238, 184, 20, 222, 94, 11, 219, 224, 50, 58, 10, 73, 6, 36, 92, 194, 211, 172, 98, 145, 149, 228, 121, 231, 200, 55, 109, 141, 213, 78, 169, 108, 86, 244, 234, 101, 122, 174, 8, 186, 120, 37, 46, 28, 166, 180, 198, 232, 221, 116, 31, 75, 189, 139, 138, 112, 62, 181, 102, 72, 3, 246, 14, 97, 53, 87, 185, 134, 193, 29, 158, 225, 248, 152, 17, 105, 217, 142, 148, 155, 30, 135, 233, 206, 85, 40, 223, 140, 161, 137, 13, 191, 230, 66, 104, 65, 153, 45, 15, 176, 84, 187, 22]
def sb (a : Nat) : Nat := sbT.getD a 0
def xt (a : Nat) : Nat := bif a.blt 128 then 2 * a else (2 * a % 256) ^^^ 27
/-- For all numbers below another one. -/
def allB (p : Nat → Bool) : Nat → Bool
  | 0 => true
  | n + 1 => p n && allB p n
theorem allB_at {p : Nat → Bool} {n : Nat} (h : allB p n = true) {a : Nat} (ha : a < n) : p a = true := by
  induction n with
  | zero => omega
  | succ n ih =>
    rw [allB, Bool.and_eq_true] at h
    by_cases e : a = n
    · rw [e]; exact h.1
    · exact ih h.2 (by omega)
def isI : Option Int → Nat → Bool
  | some (.ofNat m), n => m.beq n
  | _, _ => false
theorem isI_eq {x : Option Int} {n : Nat} (h : isI x n = true) : x = some (n : Int) := by
  unfold isI at h
  split at h
  · rw [Nat.eq_of_beq_eq_true h]; rfl
  · cases h
theorem sb_all : allB (fun a => (sb a).blt 256) 256 = true := by kernel_rfl
theorem sb_lt {a : Nat} (h : a < 256) : sb a < 256 := Nat.le_of_ble_eq_true (allB_at sb_all h)
theorem xt_all : allB (fun a => (xt a).blt 256) 256 = true := by kernel_rfl
theorem xt_lt {a : Nat} (h : a < 256) : xt a < 256 := Nat.le_of_ble_eq_true (allB_at xt_all h)

theorem f94_all (k : Nat) : allB (fun a => isI (F94 (k + 20) ((a : Nat) : Int)) (sb a)) 256 = true := by kernel_rfl
theorem g94 {k a : Nat} (ha : a < 256) (hk : 20 ≤ k) : F94 k (a : Int) = some ((sb a : Nat) : Int) := by
  obtain ⟨k, rfl⟩ : ∃ y, k = y + 20 := ⟨k - 20, by omega⟩
  exact isI_eq (allB_at (f94_all k) ha)
theorem f96_all (k : Nat) : allB (fun a => isI (F96 (k + 20) ((a : Nat) : Int) 2) (xt a)) 256 = true := by kernel_rfl
theorem g96 {k a : Nat} (ha : a < 256) (hk : 20 ≤ k) : F96 k (a : Int) 2 = some ((xt a : Nat) : Int) := by
  obtain ⟨k, rfl⟩ : ∃ y, k = y + 20 := ⟨k - 20, by omega⟩
  exact isI_eq (allB_at (f96_all k) ha)
def rc (n : Nat) : Nat := [1, 2, 4, 8, 16, 32, 64, 128, 27, 54].getD n 0
theorem rc_all : allB (fun a => (rc a).blt 256) 10 = true := by kernel_rfl
theorem rc_lt {a : Nat} (h : a < 10) : rc a < 256 := Nat.le_of_ble_eq_true (allB_at rc_all h)
theorem f95_all (k : Nat) : allB (fun n => isI (F95 (k + 20) 2 ((n : Nat) : Int)) (rc n)) 10 = true := by kernel_rfl
theorem g95 {k n : Nat} (hn : n < 10) (hk : 20 ≤ k) : F95 k 2 (n : Int) = some ((rc n : Nat) : Int) := by
  obtain ⟨k, rfl⟩ : ∃ y, k = y + 20 := ⟨k - 20, by omega⟩
  exact isI_eq (allB_at (f95_all k) hn)

def cl (a b : Nat) : Nat → Nat → Nat → Nat
  | 0, _, n => n
  | m + 1, i, n => cl a b m (i + 1) (bif (b / 2 ^ i % 2).beq 1 then n ^^^ (a * 2 ^ i) else n)
def rd : Nat → Nat → Nat
  | 0, n => n
  | m + 1, n => rd m (bif (n / 2 ^ (m + 8) % 2).beq 1 then n ^^^ (283 * 2 ^ m) else n)
def mulR (a b : Nat) : Nat := rd 7 (cl a b 8 0 0) % 256
def srch (a : Nat) : Nat → Nat → Nat
  | 0, _ => 0
  | m + 1, b => bif (mulR a b).beq 1 then b else srch a m (b + 1)
def is108 : L108_0_R → Int
  | .e0 i => IntKind.u8.wrap i
  | .e1 _ => 0
def f100 (k : Nat) (a : Int) (i1 : Int) : Option Int := (L100_0 k a i1 (k + 11) 0 0).bind fun | L100_0_R.e0 i2 i3 => some (IntKind.u8.wrap i2)
end Go.Proofs.Fl
