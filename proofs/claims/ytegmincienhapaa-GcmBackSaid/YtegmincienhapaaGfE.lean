/- DERIVED. What the reference of ghash answers: the long product, then flips from the top. -/
import Derived.Test.YtegmincienhapaaGfD
set_option linter.unusedVariables false
set_option linter.unusedSimpArgs false
set_option maxRecDepth 100000
namespace Go.Proofs
open Go Go.Sym Go.Sym.Gf

def SB : Nat → (Nat → Bool) → Bool
  | 0, _ => false
  | n + 1, f => SB n f ^^ f n
def pr (s t : List UInt8) (n i : Nat) : Bool := decide (i ≤ n) && (decide (n - i < 128) && (cof s i && cof t (n - i)))
def prL (s t : List UInt8) (n : Nat) : List Bool := (List.range n).map fun j => SB 128 (pr s t j)
def flip (l : List Bool) (i : Nat) : List Bool := l.set i (!(l[i]?.getD false))
def evn (l : List Bool) (n : Nat) : E := S n fun i => ind (l[i]?.getD false) (X i)
def vbt (g : Nat → Bool) : Nat → Nat
  | 0 => 0
  | u + 1 => 2 * vbt g u + (g u).toNat
theorem vb_lt (g : Nat → Bool) (u : Nat) : vbt g u < 2 ^ u := by
  induction u with
  | zero => exact Nat.one_pos
  | succ u ih => rw [vbt, Nat.pow_succ]; have := Bool.toNat_lt (g u); omega
theorem vb_bit (g : Nat → Bool) (u p : Nat) (hp : p < u) : (vbt g u).testBit p = g (u - 1 - p) := by
  induction u generalizing p with
  | zero => omega
  | succ u ih =>
    rw [vbt]
    cases p with
    | zero =>
      rw [Nat.testBit_zero]
      show decide _ = g u
      cases g u
      · apply decide_eq_false; show ¬((2 * vbt g u + 0) % 2 = 1); omega
      · apply decide_eq_true; show (2 * vbt g u + 1) % 2 = 1; omega
    | succ p =>
      rw [Nat.testBit_succ, show (2 * vbt g u + (g u).toNat) / 2 = vbt g u from by have := Bool.toNat_lt (g u); omega, ih p (by omega)]
      congr 1; omega
def bg (l : List Bool) (j u : Nat) : Bool := l[8 * j + u]?.getD false
def bv (l : List Bool) (n : Nat) : List V := (List.range n).map fun j => V.int .u8 (IntKind.u8.wrap ((vbt (bg l j) 8 : Nat) : Int))
def bys (l : List Bool) : List UInt8 := (List.range 16).map fun j => UInt8.ofNat (vbt (bg l j) 8)
theorem el_bys (l : List Bool) (hl : l.length = 128) : el (bys l) = evn l 128 := by
  show Gf.mk _ = Gf.mk _
  apply ext
  intro i hi
  rw [mk_bit _ _ hi, mk_bit _ _ hi]
  unfold cof bys
  rw [List.getElem?_map, List.getElem?_range (show i / 8 < 16 by omega)]
  show (UInt8.ofNat (vbt (bg l (i / 8)) 8)).toNat.testBit (7 - i % 8) = _
  rw [UInt8.toNat_ofNat', Nat.mod_eq_of_lt (vb_lt _ 8), vb_bit _ _ _ (by omega)]
  unfold bg
  rw [show 8 * (i / 8) + (8 - 1 - (7 - i % 8)) = i by omega]

end Go.Proofs
