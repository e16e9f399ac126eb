/-
  The reference's answer for cells, plainly.
-/
import Derived.Test.YtfjloeemhiffgaaMoPc
import Derived.Test.YtfjloeemhiffgaaMoC
set_option linter.unusedVariables false
set_option linter.unusedSimpArgs false
set_option maxRecDepth 100000
namespace Go.Proofs.Mo
open Go Go.Sym

/-- A volume's byte. -/
def byteAt (l : List Cl) (a : Nat) : UInt8 := if (cellAt l (a / 32)).2.1 = 1 then ((cellAt l (a / 32)).2.2[a % 32]?).getD 0 else 0
def dataR (l : List Cl) (w : Int) (A n : Nat) (data : List UInt8) (m : Nat) : List UInt8 :=
  (List.range 32).map fun i => if A ≤ 32 * m + i ∧ 32 * m + i - A < n then (if w = 1 then (data[32 * m + i - A]?).getD 0 else 0) else byteAt l (32 * m + i)
def wholeB (A n m : Nat) : Bool := decide (A ≤ 32 * m ∧ 32 * m - A < n) && decide (A ≤ 32 * m + 31 ∧ 32 * m + 31 - A < n)
def one (l : List Cl) (w : Int) (A n : Nat) (data : List UInt8) (m : Nat) : Cl :=
  if w = 1 then (m, 1, dataR l w A n data m) else if w = 4 then (if (cellAt l m).2.1 = 0 then (m, 2, []) else cellAt l m)
  else if wholeB A n m = true then (if w = 3 then (if (cellAt l m).2.1 ≠ 0 then (m, 2, []) else (m, 0, [])) else (m, 0, []))
  else if (cellAt l m).2.1 = 1 then (m, 1, dataR l w A n data m) else cellAt l m
theorem one_n (l : List Cl) (w : Int) (A n : Nat) (data : List UInt8) (m : Nat) : (one l w A n data m).1 = m := by
  unfold one
  split
  · rfl
  · split
    · split
      · rfl
      · exact cellAt_n l m
    · split
      · split
        · split <;> rfl
        · rfl
      · split
        · rfl
        · exact cellAt_n l m

theorem len32 {l : List Cl} (hr : right l = true) {m : Nat} (h : (cellAt l m).2.1 = 1) : (cellAt l m).2.2.length = 32 := by
  have := bytes32 hr m
  unfold bytesC at this
  rwa [if_pos h] at this
def ub (u : UInt8) : V := V.int .u8 (u.toNat : Int)
/-- The cells then. -/
def doR (l : List Cl) (w : Int) (A n : Nat) (data : List UInt8) : List Cl := upto l (one l w A n data) (A / 32) ((A + n - 1) / 32 + 1)
def is116 : L116_0_R → Bool
  | .e10 _ => true
  | _ => false
end Go.Proofs.Mo
