/- DERIVED. How many bits of a word are set. -/
import Derived.Test.YtpnpneffbkdomaaSymPlain
set_option linter.unusedVariables false
set_option linter.unusedSimpArgs false
namespace Go.Sym
open Go

/-- How many of the first ones are so. -/
def cnt (p : Nat → Bool) : Nat → Nat
  | 0 => 0
  | n + 1 => cnt p n + (p n).toNat
theorem cnt_le (p : Nat → Bool) (n : Nat) : cnt p n ≤ n := by
  induction n with
  | zero => exact Nat.le_refl _
  | succ n ih => simp only [cnt]; cases p n <;> simp <;> omega
theorem cnt_congr {p q : Nat → Bool} {n : Nat} (h : ∀ i, i < n → p i = q i) : cnt p n = cnt q n := by
  induction n with
  | zero => rfl
  | succ n ih => simp only [cnt]; rw [ih fun i hi => h i (by omega), h n (by omega)]
theorem cnt_add (p : Nat → Bool) (a b : Nat) : cnt p (a + b) = cnt p a + cnt (fun i => p (a + i)) b := by
  induction b with
  | zero => rfl
  | succ b ih =>
    show cnt p (a + b) + (p (a + b)).toNat = cnt p a + (cnt (fun i => p (a + i)) b + (p (a + b)).toNat)
    rw [ih]; omega

theorem land_split {a y m M : Nat} (ha : a < 256) (hm : m < 256) : (a + 256 * y) &&& (m + 256 * M) = (a &&& m) + 256 * (y &&& M) := by
  have h1 : (a &&& m) < 256 := Nat.lt_of_le_of_lt Nat.and_le_left ha
  apply Nat.eq_of_testBit_eq
  intro i
  rw [Nat.testBit_and, show a + 256 * y = 2 ^ 8 * y + a by omega, show m + 256 * M = 2 ^ 8 * M + m by omega, show (a &&& m) + 256 * (y &&& M) = 2 ^ 8 * (y &&& M) + (a &&& m) by omega,
    Nat.testBit_two_pow_mul_add _ (by omega), Nat.testBit_two_pow_mul_add _ (by omega), Nat.testBit_two_pow_mul_add _ (by omega)]
  split
  · rw [Nat.testBit_and]
  · rw [Nat.testBit_and]

/-- One byte's steps. -/
def p1 (a : Nat) : Nat := ((a / 2) &&& 85) + (a &&& 85)
def p2 (a : Nat) : Nat := ((a / 4) &&& 51) + (a &&& 51)
def p3 (a : Nat) : Nat := (a / 16 + a) &&& 15
def pc (a : Nat) : Nat := p3 (p2 (p1 a))
def bits8 (a : Nat) : Nat := (a.testBit 0).toNat + (a.testBit 1).toNat + (a.testBit 2).toNat + (a.testBit 3).toNat + (a.testBit 4).toNat + (a.testBit 5).toNat + (a.testBit 6).toNat + (a.testBit 7).toNat
theorem pc_all : ∀ a : Fin 256, pc a.val = bits8 a.val ∧ pc a.val ≤ 8 ∧ p1 a.val ≤ 170 ∧ (p2 (p1 a.val)) / 16 ≤ 4 ∧ (p2 (p1 a.val)) % 16 ≤ 4 := by decide +kernel
theorem half_fin : ∀ a : Fin 256, (((a.val / 2 + 128 * 0) &&& 85) = ((a.val / 2) &&& 85)) ∧ (((a.val / 2 + 128 * 1) &&& 85) = ((a.val / 2) &&& 85)) := by decide +kernel
theorem half_land {a : Nat} (ha : a < 256) (c : Nat) : (a / 2 + 128 * (c % 2)) &&& 85 = (a / 2) &&& 85 := by
  rcases Nat.mod_two_eq_zero_or_one c with h | h
  · rw [h]; exact (half_fin ⟨a, ha⟩).1
  · rw [h]; exact (half_fin ⟨a, ha⟩).2
theorem quart_fin : ∀ a : Fin 256, (((a.val / 4 + 64 * 0) &&& 51) = ((a.val / 4) &&& 51)) ∧ (((a.val / 4 + 64 * 1) &&& 51) = ((a.val / 4) &&& 51)) ∧ (((a.val / 4 + 64 * 2) &&& 51) = ((a.val / 4) &&& 51)) ∧ (((a.val / 4 + 64 * 3) &&& 51) = ((a.val / 4) &&& 51)) := by decide +kernel
theorem quart_land {a : Nat} (ha : a < 256) (c : Nat) : (a / 4 + 64 * (c % 4)) &&& 51 = (a / 4) &&& 51 := by
  have : c % 4 = 0 ∨ c % 4 = 1 ∨ c % 4 = 2 ∨ c % 4 = 3 := by omega
  have q := quart_fin ⟨a, ha⟩
  rcases this with h | h | h | h <;> rw [h]
  · exact q.1
  · exact q.2.1
  · exact q.2.2.1
  · exact q.2.2.2

theorem s1 {a y M : Nat} (ha : a < 256) : (((a + 256 * y) / 2) &&& (85 + 256 * M)) + ((a + 256 * y) &&& (85 + 256 * M)) = p1 a + 256 * (((y / 2) &&& M) + (y &&& M)) := by
  have e : (a + 256 * y) / 2 = (a / 2 + 128 * (y % 2)) + 256 * (y / 2) := by omega
  rw [e, land_split (by omega) (by omega), land_split ha (by omega), half_land ha y]
  unfold p1
  omega
theorem s2 {a y M : Nat} (ha : a < 256) : (((a + 256 * y) / 4) &&& (51 + 256 * M)) + ((a + 256 * y) &&& (51 + 256 * M)) = p2 a + 256 * (((y / 4) &&& M) + (y &&& M)) := by
  have e : (a + 256 * y) / 4 = (a / 4 + 64 * (y % 4)) + 256 * (y / 4) := by omega
  rw [e, land_split (by omega) (by omega), land_split ha (by omega), quart_land ha y]
  unfold p2
  omega
theorem nib_fin : ∀ a : Fin 256, ∀ b : Fin 5, a.val / 16 ≤ 4 → a.val % 16 ≤ 4 → (((a.val / 16 + a.val + 16 * b.val) &&& 15) = ((a.val / 16 + a.val) &&& 15)) := by decide +kernel
theorem s3 {a y M : Nat} (ha : a < 256) (h1 : a / 16 ≤ 4) (h2 : a % 16 ≤ 4) (h3 : y % 16 ≤ 4) : ((a + 256 * y) / 16 + (a + 256 * y)) &&& (15 + 256 * M) = p3 a + 256 * ((y / 16 + y) &&& M) := by
  have e : (a + 256 * y) / 16 + (a + 256 * y) = (a / 16 + a + 16 * (y % 16)) + 256 * (y / 16 + y) := by omega
  rw [e, land_split (by omega) (by omega), nib_fin ⟨a, ha⟩ ⟨y % 16, by omega⟩ h1 h2]
  rfl
theorem pcs {a : Nat} (ha : a < 256) : pc a = bits8 a ∧ pc a ≤ 8 ∧ p1 a ≤ 170 ∧ (p2 (p1 a)) / 16 ≤ 4 ∧ (p2 (p1 a)) % 16 ≤ 4 := pc_all ⟨a, ha⟩
theorem p2_lt : ∀ a : Fin 256, p2 a.val < 256 ∧ p3 a.val < 16 := by decide +kernel

/-- A word as bytes. -/
theorem bytes_of {x : Nat} (hx : x < 18446744073709551616) : ∃ a0 a1 a2 a3 a4 a5 a6 a7 : Nat, a0 < 256 ∧ a1 < 256 ∧ a2 < 256 ∧ a3 < 256 ∧ a4 < 256 ∧ a5 < 256 ∧ a6 < 256 ∧ a7 < 256 ∧
    x = a0 + 256 * (a1 + 256 * (a2 + 256 * (a3 + 256 * (a4 + 256 * (a5 + 256 * (a6 + 256 * a7)))))) := by
  refine ⟨x % 256, x / 256 % 256, x / 256 / 256 % 256, x / 256 / 256 / 256 % 256, x / 256 / 256 / 256 / 256 % 256, x / 256 / 256 / 256 / 256 / 256 % 256, x / 256 / 256 / 256 / 256 / 256 / 256 % 256, x / 256 / 256 / 256 / 256 / 256 / 256 / 256, ?_⟩
  omega
/-- The bits of bytes. -/
theorem cnt_bytes {a y : Nat} (ha : a < 256) (n : Nat) : cnt (a + 256 * y).testBit (8 + n) = bits8 a + cnt y.testBit n := by
  rw [cnt_add]
  congr 1
  · simp only [cnt, bits8]
    have h : ∀ i, i < 8 → (a + 256 * y).testBit i = a.testBit i := fun i hi => by
      rw [show a + 256 * y = 2 ^ 8 * y + a by omega, Nat.testBit_two_pow_mul_add _ (by omega), if_pos hi]
    rw [h 0 (by omega), h 1 (by omega), h 2 (by omega), h 3 (by omega), h 4 (by omega), h 5 (by omega), h 6 (by omega), h 7 (by omega)]
    omega
  · apply cnt_congr
    intro i hi
    rw [show a + 256 * y = 2 ^ 8 * y + a by omega, Nat.testBit_two_pow_mul_add _ (by omega), if_neg (by omega)]
    congr 1; omega
/-- What the steps answer, in numbers. -/
def q1 (x : Nat) : Nat := ((x / 2) &&& 6148914691236517205) + (x &&& 6148914691236517205)
def q2 (x : Nat) : Nat := ((x / 4) &&& 3689348814741910323) + (x &&& 3689348814741910323)
def q3 (x : Nat) : Nat := (x / 16 + x) &&& 1085102592571150095
theorem lt8 {a0 a1 a2 a3 a4 a5 a6 a7 : Nat} (h0 : a0 < 256) (h1 : a1 < 256) (h2 : a2 < 256) (h3 : a3 < 256) (h4 : a4 < 256) (h5 : a5 < 256) (h6 : a6 < 256) (h7 : a7 < 256) :
    a0 + 256 * (a1 + 256 * (a2 + 256 * (a3 + 256 * (a4 + 256 * (a5 + 256 * (a6 + 256 * a7)))))) < 18446744073709551616 := by omega
theorem lt8' {a0 a1 a2 a3 a4 a5 a6 a7 : Nat} (h0 : a0 < 256) (h1 : a1 < 256) (h2 : a2 < 256) (h3 : a3 < 256) (h4 : a4 < 256) (h5 : a5 < 256) (h6 : a6 < 256) (h7 : a7 / 16 ≤ 4) (h8 : a7 % 16 ≤ 4) :
    (a0 + 256 * (a1 + 256 * (a2 + 256 * (a3 + 256 * (a4 + 256 * (a5 + 256 * (a6 + 256 * a7))))))) / 16 + (a0 + 256 * (a1 + 256 * (a2 + 256 * (a3 + 256 * (a4 + 256 * (a5 + 256 * (a6 + 256 * a7))))))) < 18446744073709551616 := by omega
set_option maxHeartbeats 1000000 in
theorem pop_nat {x : Nat} (hx : x < 18446744073709551616) : ∃ b0 b1 b2 b3 b4 b5 b6 b7 : Nat, b0 ≤ 8 ∧ b1 ≤ 8 ∧ b2 ≤ 8 ∧ b3 ≤ 8 ∧ b4 ≤ 8 ∧ b5 ≤ 8 ∧ b6 ≤ 8 ∧ b7 ≤ 8 ∧ q1 x < 18446744073709551616 ∧ q2 (q1 x) < 18446744073709551616 ∧ q2 (q1 x) / 16 + q2 (q1 x) < 18446744073709551616 ∧
    q3 (q2 (q1 x)) = b0 + 256 * (b1 + 256 * (b2 + 256 * (b3 + 256 * (b4 + 256 * (b5 + 256 * (b6 + 256 * b7)))))) ∧ cnt x.testBit 64 = b0 + b1 + b2 + b3 + b4 + b5 + b6 + b7 := by
  obtain ⟨a0, a1, a2, a3, a4, a5, a6, a7, h0, h1, h2, h3, h4, h5, h6, h7, rfl⟩ := bytes_of hx
  have e1 : q1 (a0 + 256 * (a1 + 256 * (a2 + 256 * (a3 + 256 * (a4 + 256 * (a5 + 256 * (a6 + 256 * a7))))))) = p1 a0 + 256 * (p1 a1 + 256 * (p1 a2 + 256 * (p1 a3 + 256 * (p1 a4 + 256 * (p1 a5 + 256 * (p1 a6 + 256 * p1 a7)))))) := by
    unfold q1
    rw [show 6148914691236517205 = 85 + 256 * (85 + 256 * (85 + 256 * (85 + 256 * (85 + 256 * (85 + 256 * (85 + 256 * 85)))))) from rfl, s1 h0, s1 h1, s1 h2, s1 h3, s1 h4, s1 h5, s1 h6]
    rfl
  have g0 := pcs h0
  have g1 := pcs h1
  have g2 := pcs h2
  have g3 := pcs h3
  have g4 := pcs h4
  have g5 := pcs h5
  have g6 := pcs h6
  have g7 := pcs h7
  have md : ∀ a y : Nat, (a + 256 * y) % 16 = a % 16 := fun a y => by omega
  have k0 : p1 a0 < 256 := Nat.lt_of_le_of_lt g0.2.2.1 (by decide)
  have k1 : p1 a1 < 256 := Nat.lt_of_le_of_lt g1.2.2.1 (by decide)
  have k2 : p1 a2 < 256 := Nat.lt_of_le_of_lt g2.2.2.1 (by decide)
  have k3 : p1 a3 < 256 := Nat.lt_of_le_of_lt g3.2.2.1 (by decide)
  have k4 : p1 a4 < 256 := Nat.lt_of_le_of_lt g4.2.2.1 (by decide)
  have k5 : p1 a5 < 256 := Nat.lt_of_le_of_lt g5.2.2.1 (by decide)
  have k6 : p1 a6 < 256 := Nat.lt_of_le_of_lt g6.2.2.1 (by decide)
  have k7 : p1 a7 < 256 := Nat.lt_of_le_of_lt g7.2.2.1 (by decide)
  have e2 : q2 (p1 a0 + 256 * (p1 a1 + 256 * (p1 a2 + 256 * (p1 a3 + 256 * (p1 a4 + 256 * (p1 a5 + 256 * (p1 a6 + 256 * p1 a7))))))) = p2 (p1 a0) + 256 * (p2 (p1 a1) + 256 * (p2 (p1 a2) + 256 * (p2 (p1 a3) + 256 * (p2 (p1 a4) + 256 * (p2 (p1 a5) + 256 * (p2 (p1 a6) + 256 * p2 (p1 a7))))))) := by
    unfold q2
    rw [show 3689348814741910323 = 51 + 256 * (51 + 256 * (51 + 256 * (51 + 256 * (51 + 256 * (51 + 256 * (51 + 256 * 51)))))) from rfl, s2 k0, s2 k1, s2 k2, s2 k3, s2 k4, s2 k5, s2 k6]
    rfl
  have lt (a : Nat) (h : p1 a ≤ 170) : p2 (p1 a) < 256 := (p2_lt ⟨p1 a, by omega⟩).1
  have l0 := lt a0 g0.2.2.1
  have l1 := lt a1 g1.2.2.1
  have l2 := lt a2 g2.2.2.1
  have l3 := lt a3 g3.2.2.1
  have l4 := lt a4 g4.2.2.1
  have l5 := lt a5 g5.2.2.1
  have l6 := lt a6 g6.2.2.1
  have l7 := lt a7 g7.2.2.1
  have e3 : q3 (p2 (p1 a0) + 256 * (p2 (p1 a1) + 256 * (p2 (p1 a2) + 256 * (p2 (p1 a3) + 256 * (p2 (p1 a4) + 256 * (p2 (p1 a5) + 256 * (p2 (p1 a6) + 256 * p2 (p1 a7)))))))) = pc a0 + 256 * (pc a1 + 256 * (pc a2 + 256 * (pc a3 + 256 * (pc a4 + 256 * (pc a5 + 256 * (pc a6 + 256 * pc a7)))))) := by
    unfold q3
    rw [show 1085102592571150095 = 15 + 256 * (15 + 256 * (15 + 256 * (15 + 256 * (15 + 256 * (15 + 256 * (15 + 256 * 15)))))) from rfl, s3 l0 g0.2.2.2.1 g0.2.2.2.2 (by rw [md]; exact g1.2.2.2.2), s3 l1 g1.2.2.2.1 g1.2.2.2.2 (by rw [md]; exact g2.2.2.2.2), s3 l2 g2.2.2.2.1 g2.2.2.2.2 (by rw [md]; exact g3.2.2.2.2), s3 l3 g3.2.2.2.1 g3.2.2.2.2 (by rw [md]; exact g4.2.2.2.2), s3 l4 g4.2.2.2.1 g4.2.2.2.2 (by rw [md]; exact g5.2.2.2.2), s3 l5 g5.2.2.2.1 g5.2.2.2.2 (by rw [md]; exact g6.2.2.2.2), s3 l6 g6.2.2.2.1 g6.2.2.2.2 g7.2.2.2.2]
    rfl
  refine ⟨pc a0, pc a1, pc a2, pc a3, pc a4, pc a5, pc a6, pc a7, g0.2.1, g1.2.1, g2.2.1, g3.2.1, g4.2.1, g5.2.1, g6.2.1, g7.2.1, ?_, ?_, ?_, by rw [e1, e2, e3], ?_⟩
  · rw [e1]; exact lt8 k0 k1 k2 k3 k4 k5 k6 k7
  · rw [e1, e2]; exact lt8 l0 l1 l2 l3 l4 l5 l6 l7
  · rw [e1, e2]; exact lt8' l0 l1 l2 l3 l4 l5 l6 g7.2.2.2.1 g7.2.2.2.2
  rw [show 64 = 8 + (8 + (8 + (8 + (8 + (8 + (8 + (8 + 0))))))) from rfl, cnt_bytes h0, cnt_bytes h1, cnt_bytes h2, cnt_bytes h3, cnt_bytes h4, cnt_bytes h5, cnt_bytes h6]
  have last := cnt_bytes (a := a7) (y := 0) h7 0
  rw [show a7 + 256 * 0 = a7 by omega] at last
  rw [last, g0.1, g1.1, g2.1, g3.1, g4.1, g5.1, g6.1, g7.1]
  simp only [cnt]
  omega
end Go.Sym
namespace Go.Sym
open Go
theorem land_n {x c : Nat} (hx : x < 18446744073709551616) (hc : c < 18446744073709551616) : IntKind.u64.wrap (↑(BitVec.ofInt IntKind.u64.bits (x : Int) &&& BitVec.ofInt IntKind.u64.bits (c : Int)).toNat : Int) = ((x &&& c : Nat) : Int) := by
  have h := and_w (BitVec.ofNat 64 x) (BitVec.ofNat 64 c)
  have e : (BitVec.ofNat 64 x &&& BitVec.ofNat 64 c).toNat = x &&& c := by
    rw [BitVec.toNat_and, BitVec.toNat_ofNat, BitVec.toNat_ofNat, Nat.mod_eq_of_lt hx, Nat.mod_eq_of_lt hc]
  rw [e, BitVec.toNat_ofNat, BitVec.toNat_ofNat, Nat.mod_eq_of_lt hx, Nat.mod_eq_of_lt hc] at h
  exact h
theorem land_i {x c : Nat} (hx : x < 9223372036854775808) (hc : c < 9223372036854775808) : IntKind.i64.wrap (↑(BitVec.ofInt IntKind.i64.bits (x : Int) &&& BitVec.ofInt IntKind.i64.bits (c : Int)).toNat : Int) = ((x &&& c : Nat) : Int) := by
  show IntKind.i64.wrap (↑(BitVec.ofInt 64 (x : Int) &&& BitVec.ofInt 64 (c : Int)).toNat : Int) = _
  rw [BitVec.ofInt_natCast, BitVec.ofInt_natCast, BitVec.toNat_and, BitVec.toNat_ofNat, BitVec.toNat_ofNat, Nat.mod_eq_of_lt (by omega), Nat.mod_eq_of_lt (by omega)]
  have : x &&& c ≤ x := Nat.and_le_left
  exact wi (by omega) (by omega)
theorem fd_n (x n : Nat) (hn : n ≤ 64) : (x : Int).fdiv (2 ^ min n IntKind.u64.bits) = ((x / 2 ^ n : Nat) : Int) := by
  rw [show min n IntKind.u64.bits = n from Nat.min_eq_left hn, Int.fdiv_eq_ediv_of_nonneg _ (Int.le_of_lt (Int.pow_pos (by decide))), Int.natCast_ediv, Int.natCast_pow]
  rfl
theorem add_n {a b : Nat} (h : a + b < 18446744073709551616) : IntKind.u64.wrap ((a : Int) + (b : Int)) = ((a + b : Nat) : Int) := by
  rw [wu (by omega) (by omega)]; omega
theorem dv (b y : Nat) (h : b < 256) : (b + 256 * y) / 256 = y := by omega
theorem dvs (b c y : Nat) (hb : b < 256) (hc : c < 256) : (b + 256 * (c + 256 * y)) / 65536 = y := by omega
theorem dvq (a b c d y : Nat) (ha : a < 256) (hb : b < 256) (hc : c < 256) (hd : d < 256) : (a + 256 * (b + 256 * (c + 256 * (d + 256 * y)))) / 4294967296 = y := by omega
theorem sm (a b y z : Nat) : (a + 256 * y) + (b + 256 * z) = (a + b) + 256 * (y + z) := by omega
theorem md128 (a y : Nat) (h : a < 128) : (a + 256 * y) % 128 = a := by omega
theorem lt63 {a0 a1 a2 a3 a4 a5 a6 a7 : Nat} (h0 : a0 < 256) (h1 : a1 < 256) (h2 : a2 < 256) (h3 : a3 < 256) (h4 : a4 < 256) (h5 : a5 < 256) (h6 : a6 < 256) (h7 : a7 < 128) :
    a0 + 256 * (a1 + 256 * (a2 + 256 * (a3 + 256 * (a4 + 256 * (a5 + 256 * (a6 + 256 * a7)))))) < 9223372036854775808 := by omega
theorem b2 {a b m n : Nat} (h : a ≤ m) (h2 : b ≤ n) : a + b ≤ m + n := Nat.add_le_add h h2
theorem bl {a m : Nat} (h : a ≤ m) (h2 : m < 256 := by decide) : a < 256 := Nat.lt_of_le_of_lt h h2
theorem ones_1 {b0 b1 b2 b3 b4 b5 b6 b7 : Nat} (h0 : b0 < 256) :
    (b0 + 256 * (b1 + 256 * (b2 + 256 * (b3 + 256 * (b4 + 256 * (b5 + 256 * (b6 + 256 * b7))))))) + (b0 + 256 * (b1 + 256 * (b2 + 256 * (b3 + 256 * (b4 + 256 * (b5 + 256 * (b6 + 256 * b7))))))) / 256 = (b0 + b1) + 256 * ((b1 + b2) + 256 * ((b2 + b3) + 256 * ((b3 + b4) + 256 * ((b4 + b5) + 256 * ((b5 + b6) + 256 * ((b6 + b7) + 256 * b7)))))) := by
  rw [dv _ _ h0, sm, sm, sm, sm, sm, sm, Nat.add_right_comm b6, Nat.add_assoc]
theorem ones_2 {b0 b1 b2 b3 b4 b5 b6 b7 : Nat} (h0 : b0 < 256) (h1 : b1 < 256) :
    (b0 + 256 * (b1 + 256 * (b2 + 256 * (b3 + 256 * (b4 + 256 * (b5 + 256 * (b6 + 256 * b7))))))) + (b0 + 256 * (b1 + 256 * (b2 + 256 * (b3 + 256 * (b4 + 256 * (b5 + 256 * (b6 + 256 * b7))))))) / 65536 = (b0 + b2) + 256 * ((b1 + b3) + 256 * ((b2 + b4) + 256 * ((b3 + b5) + 256 * ((b4 + b6) + 256 * ((b5 + b7) + 256 * (b6 + 256 * b7)))))) := by
  rw [dvs _ _ _ h0 h1, sm, sm, sm, sm, sm, Nat.add_right_comm b5, Nat.add_assoc b5]
theorem ones_4 {b0 b1 b2 b3 b4 b5 b6 b7 : Nat} (h0 : b0 < 256) (h1 : b1 < 256) (h2 : b2 < 256) (h3 : b3 < 256) :
    (b0 + 256 * (b1 + 256 * (b2 + 256 * (b3 + 256 * (b4 + 256 * (b5 + 256 * (b6 + 256 * b7))))))) + (b0 + 256 * (b1 + 256 * (b2 + 256 * (b3 + 256 * (b4 + 256 * (b5 + 256 * (b6 + 256 * b7))))))) / 4294967296 = (b0 + b4) + 256 * ((b1 + b5) + 256 * ((b2 + b6) + 256 * ((b3 + b7) + 256 * (b4 + 256 * (b5 + 256 * (b6 + 256 * b7)))))) := by
  rw [dvq _ _ _ _ _ h0 h1 h2 h3, sm, sm, sm, Nat.add_right_comm b3, Nat.add_assoc b3]
theorem ones_tail {b0 b1 b2 b3 b4 b5 b6 b7 x : Nat} (h0 : b0 ≤ 8) (h1 : b1 ≤ 8) (h2 : b2 ≤ 8) (h3 : b3 ≤ 8) (h4 : b4 ≤ 8) (h5 : b5 ≤ 8) (h6 : b6 ≤ 8) (h7 : b7 ≤ 8)
    (hx : x = b0 + 256 * (b1 + 256 * (b2 + 256 * (b3 + 256 * (b4 + 256 * (b5 + 256 * (b6 + 256 * b7))))))) :
    ∃ y1 y2 y3 : Nat, y1 = x + x / 256 ∧ y1 < 18446744073709551616 ∧ y2 = y1 + y1 / 65536 ∧ y2 < 18446744073709551616 ∧ y3 = y2 + y2 / 4294967296 ∧ y3 < 9223372036854775808 ∧ y3 % 128 = b0 + b1 + b2 + b3 + b4 + b5 + b6 + b7 := by
  have k0 := Sym.b2 h0 h1
  have k1 := Sym.b2 h1 h2
  have k2 := Sym.b2 h2 h3
  have k3 := Sym.b2 h3 h4
  have k4 := Sym.b2 h4 h5
  have k5 := Sym.b2 h5 h6
  have k6 := Sym.b2 h6 h7
  have l0 := Sym.b2 k0 k2
  have l1 := Sym.b2 k1 k3
  have l2 := Sym.b2 k2 k4
  have l3 := Sym.b2 k3 k5
  have l4 := Sym.b2 k4 k6
  have l5 := Sym.b2 k5 h7
  refine ⟨_, _, _, rfl, ?_, rfl, ?_, rfl, ?_, ?_⟩
  · rw [hx, ones_1 (bl h0)]; exact lt8 (bl k0) (bl k1) (bl k2) (bl k3) (bl k4) (bl k5) (bl k6) (bl h7)
  · rw [hx, ones_1 (bl h0), ones_2 (bl k0) (bl k1)]; exact lt8 (bl l0) (bl l1) (bl l2) (bl l3) (bl l4) (bl l5) (bl k6) (bl h7)
  · rw [hx, ones_1 (bl h0), ones_2 (bl k0) (bl k1), ones_4 (bl l0) (bl l1) (bl l2) (bl l3)]
    exact lt63 (bl (Sym.b2 l0 l4)) (bl (Sym.b2 l1 l5)) (bl (Sym.b2 l2 k6)) (bl (Sym.b2 l3 h7)) (bl l4) (bl l5) (bl k6) (Nat.lt_of_le_of_lt h7 (by decide))
  · rw [hx, ones_1 (bl h0), ones_2 (bl k0) (bl k1), ones_4 (bl l0) (bl l1) (bl l2) (bl l3), md128 _ _ (Nat.lt_of_le_of_lt (Sym.b2 l0 l4) (by decide))]
    simp only [Nat.add_comm, Nat.add_left_comm, Nat.add_assoc]
end Go.Sym
