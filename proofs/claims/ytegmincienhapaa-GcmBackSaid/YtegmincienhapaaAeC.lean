/- DERIVED. The steps of a round, plainly, for both sides. -/
import Derived.Test.YtegmincienhapaaAeA
import Derived.Test.YtegmincienhapaaAeB
import Derived.Test.YtegmincienhapaaFlB
set_option linter.unusedVariables false
set_option linter.unusedSimpArgs false
set_option maxRecDepth 1000000
namespace Go.Proofs.Ae
open Go Go.Sym Go.Proofs.Fl

def sbU (c : UInt8) : UInt8 := UInt8.ofNat (sb c.toNat)
def xtU (c : UInt8) : UInt8 := UInt8.ofNat (xt c.toNat)
theorem sbU_nat (c : UInt8) : ((sbU c).toNat : Int) = ((sb c.toNat : Nat) : Int) := by
  unfold sbU; rw [UInt8.toNat_ofNat', Nat.mod_eq_of_lt (sb_lt c.toNat_lt)]
theorem xtU_nat (c : UInt8) : ((xtU c).toNat : Int) = ((xt c.toNat : Nat) : Int) := by
  unfold xtU; rw [UInt8.toNat_ofNat', Nat.mod_eq_of_lt (xt_lt c.toNat_lt)]
theorem u8_of (a : UInt8) : BitVec.ofInt IntKind.u8.bits (a.toNat : Int) = a.toBitVec := by
  show BitVec.ofInt 8 ((a.toBitVec.toNat : Nat) : Int) = a.toBitVec
  rw [BitVec.ofInt_natCast, BitVec.ofNat_toNat, BitVec.setWidth_eq]
theorem xor_b (a b : UInt8) : IntKind.u8.wrap (↑(BitVec.ofInt IntKind.u8.bits (a.toNat : Int) ^^^ BitVec.ofInt IntKind.u8.bits (b.toNat : Int)).toNat : Int) = ((a ^^^ b).toNat : Int) := by
  rw [u8_of, u8_of, wb_mod]
  show (((a ^^^ b).toNat : Int)) % 256 = _
  have := (a ^^^ b).toNat_lt
  omega
theorem u94 {k : Nat} (c : UInt8) (hk : 20 ≤ k) : F94 k (c.toNat : Int) = some ((sbU c).toNat : Int) := by rw [g94 c.toNat_lt hk, sbU_nat]
theorem u96 {k : Nat} (c : UInt8) (hk : 20 ≤ k) : F96 k (c.toNat : Int) 2 = some ((xtU c).toNat : Int) := by rw [g96 c.toNat_lt hk, xtU_nat]
def ub (c : UInt8) : V := V.int .u8 (c.toNat : Int)
theorem all_ub (l : List UInt8) : (l.map ub).all isByte = true := by simp [ub, isByte]
theorem byteOf_ub (l : List UInt8) : (l.map ub).map Sym.byteOf = l := by
  induction l with
  | nil => rfl
  | cons c r ih => simp only [List.map_cons, ih, ub, Sym.byteOf, Int.toNat_natCast, UInt8.ofNat_toNat]
def boxL (s : List UInt8) : List UInt8 := s.map sbU
def turnL : List UInt8 → List UInt8
  | [c0, c1, c2, c3, c4, c5, c6, c7, c8, c9, c10, c11, c12, c13, c14, c15] => [c0, c5, c10, c15, c4, c9, c14, c3, c8, c13, c2, c7, c12, c1, c6, c11]
  | l => l
def m0 (a b c d : UInt8) : UInt8 := xtU a ^^^ (xtU b ^^^ b) ^^^ c ^^^ d
def mixL : List UInt8 → List UInt8
  | [c0, c1, c2, c3, c4, c5, c6, c7, c8, c9, c10, c11, c12, c13, c14, c15] =>
    [m0 c0 c1 c2 c3, m0 c1 c2 c3 c0, m0 c2 c3 c0 c1, m0 c3 c0 c1 c2, m0 c4 c5 c6 c7, m0 c5 c6 c7 c4, m0 c6 c7 c4 c5, m0 c7 c4 c5 c6,
     m0 c8 c9 c10 c11, m0 c9 c10 c11 c8, m0 c10 c11 c8 c9, m0 c11 c8 c9 c10, m0 c12 c13 c14 c15, m0 c13 c14 c15 c12, m0 c14 c15 c12 c13, m0 c15 c12 c13 c14]
  | l => l
def xorL (a b : List UInt8) : List UInt8 := List.zipWith (· ^^^ ·) a b
theorem len16 {s : List UInt8} (h : s.length = 16) : ∃ c0 c1 c2 c3 c4 c5 c6 c7 c8 c9 c10 c11 c12 c13 c14 c15, s = [c0, c1, c2, c3, c4, c5, c6, c7, c8, c9, c10, c11, c12, c13, c14, c15] := by
  match s, h with
  | [c0, c1, c2, c3, c4, c5, c6, c7, c8, c9, c10, c11, c12, c13, c14, c15], _ => exact ⟨_, _, _, _, _, _, _, _, _, _, _, _, _, _, _, _, rfl⟩
theorem xt_lin_all : allB (fun a => allB (fun b => (xt (a ^^^ b)).beq (xt a ^^^ xt b)) 256) 256 = true := by kernel_rfl
theorem xtU_xor (a b : UInt8) : xtU (a ^^^ b) = xtU a ^^^ xtU b := by
  apply UInt8.toNat_inj.1
  rw [UInt8.toNat_xor]
  unfold xtU
  rw [UInt8.toNat_ofNat', UInt8.toNat_ofNat', UInt8.toNat_ofNat', Nat.mod_eq_of_lt (xt_lt (UInt8.toNat_lt _)), Nat.mod_eq_of_lt (xt_lt a.toNat_lt), Nat.mod_eq_of_lt (xt_lt b.toNat_lt), UInt8.toNat_xor]
  exact Nat.eq_of_beq_eq_true (allB_at (allB_at xt_lin_all a.toNat_lt) b.toNat_lt)
theorem xcomm (a b : UInt8) : a ^^^ b = b ^^^ a := UInt8.xor_comm a b
theorem xassoc (a b c : UInt8) : a ^^^ b ^^^ c = a ^^^ (b ^^^ c) := UInt8.xor_assoc a b c
theorem xself (a b : UInt8) : a ^^^ (a ^^^ b) = b := by rw [← xassoc, UInt8.xor_self, UInt8.zero_xor]
instance : Std.Associative (α := UInt8) (· ^^^ ·) := ⟨xassoc⟩
instance : Std.Commutative (α := UInt8) (· ^^^ ·) := ⟨xcomm⟩
theorem mixP0 (a b c d : UInt8) : a ^^^ ((a ^^^ b ^^^ c ^^^ d) ^^^ xtU (a ^^^ b)) = m0 a b c d := by
  rw [xtU_xor, show a ^^^ ((a ^^^ b ^^^ c ^^^ d) ^^^ (xtU a ^^^ xtU b)) = a ^^^ (a ^^^ (b ^^^ c ^^^ d ^^^ (xtU a ^^^ xtU b))) by ac_rfl, xself]; unfold m0; ac_rfl
theorem mixP1 (a b c d : UInt8) : b ^^^ ((a ^^^ b ^^^ c ^^^ d) ^^^ xtU (b ^^^ c)) = m0 b c d a := by
  rw [← mixP0 b c d a]; congr 2; ac_rfl
theorem mixP2 (a b c d : UInt8) : c ^^^ ((a ^^^ b ^^^ c ^^^ d) ^^^ xtU (c ^^^ d)) = m0 c d a b := by
  rw [← mixP0 c d a b]; congr 2; ac_rfl
theorem mixP3 (a b c d : UInt8) : d ^^^ ((a ^^^ b ^^^ c ^^^ d) ^^^ xtU (d ^^^ a)) = m0 d a b c := by
  rw [← mixP0 d a b c]; congr 2; ac_rfl

theorem g73 {k : Nat} (a0 a1 a2 a3 a4 a5 a6 a7 a8 a9 a10 a11 a12 a13 a14 a15 b0 b1 b2 b3 b4 b5 b6 b7 b8 b9 b10 b11 b12 b13 b14 b15 : UInt8) :
    F73 k a0.toNat a1.toNat a2.toNat a3.toNat a4.toNat a5.toNat a6.toNat a7.toNat a8.toNat a9.toNat a10.toNat a11.toNat a12.toNat a13.toNat a14.toNat a15.toNat [b0, b1, b2, b3, b4, b5, b6, b7, b8, b9, b10, b11, b12, b13, b14, b15] =
      some (((a0 ^^^ b0).toNat : Int), ((a1 ^^^ b1).toNat : Int), ((a2 ^^^ b2).toNat : Int), ((a3 ^^^ b3).toNat : Int), ((a4 ^^^ b4).toNat : Int), ((a5 ^^^ b5).toNat : Int), ((a6 ^^^ b6).toNat : Int), ((a7 ^^^ b7).toNat : Int),
        ((a8 ^^^ b8).toNat : Int), ((a9 ^^^ b9).toNat : Int), ((a10 ^^^ b10).toNat : Int), ((a11 ^^^ b11).toNat : Int), ((a12 ^^^ b12).toNat : Int), ((a13 ^^^ b13).toNat : Int), ((a14 ^^^ b14).toNat : Int), ((a15 ^^^ b15).toNat : Int)) := by
  simp only [← xor_b]
  rfl
theorem g74 {k : Nat} (hk : 20 ≤ k) (a0 a1 a2 a3 a4 a5 a6 a7 a8 a9 a10 a11 a12 a13 a14 a15 : UInt8) :
    F74 k a0.toNat a1.toNat a2.toNat a3.toNat a4.toNat a5.toNat a6.toNat a7.toNat a8.toNat a9.toNat a10.toNat a11.toNat a12.toNat a13.toNat a14.toNat a15.toNat =
      some (((sbU a0).toNat : Int), ((sbU a1).toNat : Int), ((sbU a2).toNat : Int), ((sbU a3).toNat : Int), ((sbU a4).toNat : Int), ((sbU a5).toNat : Int), ((sbU a6).toNat : Int), ((sbU a7).toNat : Int),
        ((sbU a8).toNat : Int), ((sbU a9).toNat : Int), ((sbU a10).toNat : Int), ((sbU a11).toNat : Int), ((sbU a12).toNat : Int), ((sbU a13).toNat : Int), ((sbU a14).toNat : Int), ((sbU a15).toNat : Int)) := by
  unfold F74
  simp only [u94 (k := k + 19) _ (by omega), Option.bind_some]
theorem g76 {k : Nat} (hk : 20 ≤ k) (a0 a1 a2 a3 a4 a5 a6 a7 a8 a9 a10 a11 a12 a13 a14 a15 : UInt8) :
    F76 k a0.toNat a1.toNat a2.toNat a3.toNat a4.toNat a5.toNat a6.toNat a7.toNat a8.toNat a9.toNat a10.toNat a11.toNat a12.toNat a13.toNat a14.toNat a15.toNat =
      some (((m0 a0 a1 a2 a3).toNat : Int), ((m0 a1 a2 a3 a0).toNat : Int), ((m0 a2 a3 a0 a1).toNat : Int), ((m0 a3 a0 a1 a2).toNat : Int), ((m0 a4 a5 a6 a7).toNat : Int), ((m0 a5 a6 a7 a4).toNat : Int), ((m0 a6 a7 a4 a5).toNat : Int), ((m0 a7 a4 a5 a6).toNat : Int),
        ((m0 a8 a9 a10 a11).toNat : Int), ((m0 a9 a10 a11 a8).toNat : Int), ((m0 a10 a11 a8 a9).toNat : Int), ((m0 a11 a8 a9 a10).toNat : Int), ((m0 a12 a13 a14 a15).toNat : Int), ((m0 a13 a14 a15 a12).toNat : Int), ((m0 a14 a15 a12 a13).toNat : Int), ((m0 a15 a12 a13 a14).toNat : Int)) := by
  unfold F76
  simp only [xor_b, u96 (k := k + 19) _ (by omega), Option.bind_some, mixP0, mixP1, mixP2, mixP3]

end Go.Proofs.Ae
