/- DERIVED. Texts of sixteen bytes as elements of the field of ghash; what ghash's functions answer on them. -/
import Derived.Test.YtegmincienhapaaGhB
import Derived.Test.YtegmincienhapaaGfA
set_option linter.unusedVariables false
set_option linter.unusedSimpArgs false
set_option maxRecDepth 100000
namespace Go.Proofs
open Go Go.Sym Go.Sym.Gf

/-- The bits of a text, the highest of a byte first. -/
def cof (s : List UInt8) (i : Nat) : Bool := (s[i / 8]?.getD 0).toNat.testBit (7 - i % 8)
def el (s : List UInt8) : E := mk (cof s)
def pe (h l : Wd) : E := mk fun i => bif decide (i < 64) then h.getLsbD (63 - i) else l.getLsbD (127 - i)
theorem el_bit (s : List UInt8) {i : Nat} (h : i < 128) : (el s).getLsbD i = cof s i := mk_bit _ i h
theorem pe_hi (h l : Wd) {i : Nat} (hi : i < 64) : (pe h l).getLsbD i = h.getLsbD (63 - i) := by
  unfold pe; rw [mk_bit _ i (by omega), decide_eq_true hi]; rfl
theorem pe_lo (h l : Wd) {i : Nat} (h1 : 64 ≤ i) (h2 : i < 128) : (pe h l).getLsbD i = l.getLsbD (127 - i) := by
  unfold pe; rw [mk_bit _ i h2, decide_eq_false (by omega)]; rfl
theorem cof_inj {s t : List UInt8} {n : Nat} (hs : s.length = n) (ht : t.length = n) (h : ∀ i, i < 8 * n → cof s i = cof t i) : s = t := by
  apply List.ext_getElem (hs.trans ht.symm)
  intro j h1 h2
  apply UInt8.toNat_inj.1
  apply Nat.eq_of_testBit_eq
  intro p
  by_cases hp : p < 8
  · have := h (8 * j + (7 - p)) (by omega)
    unfold cof at this
    rw [show (8 * j + (7 - p)) / 8 = j by omega, show 7 - (8 * j + (7 - p)) % 8 = p by omega, List.getElem?_eq_getElem h1, List.getElem?_eq_getElem h2] at this
    exact this
  · have a := s[j].toNat_lt
    have b := t[j].toNat_lt
    have z : ∀ x : Nat, x < 256 → x.testBit p = false := by
      intro x hx
      apply Nat.testBit_lt_two_pow
      exact Nat.lt_of_lt_of_le hx (Nat.pow_le_pow_right (n := 2) (by omega) (show 8 ≤ p by omega))
    rw [z _ a, z _ b]
theorem el_inj {s t : List UInt8} (hs : s.length = 16) (ht : t.length = 16) (h : el s = el t) : s = t := by
  refine cof_inj hs ht fun i hi => ?_
  rw [← el_bit s (by omega), h, el_bit t (by omega)]

theorem dec_bit {p : Prop} [Decidable p] {b : Bool} (h : p ↔ b = true) : decide p = b := by
  rw [Bool.eq_iff_iff, decide_eq_true_iff]; exact h

theorem and1 (w : Wd) : (IntKind.u64.wrap (↑(BitVec.ofInt IntKind.u64.bits (w.toNat : Int) &&& BitVec.ofInt IntKind.u64.bits 1).toNat : Int) = 1) ↔ w.getLsbD 0 = true := by
  have := bit_w w 0
  rw [shr_w, BitVec.ushiftRight_zero] at this
  exact this
theorem c79 : ∀ i, i < 64 → (16212958658533785600#64).getLsbD (63 - i) = (135#128).getLsbD i := by
  have h : ((List.range 64).all fun i => (16212958658533785600#64).getLsbD (63 - i) == (135#128).getLsbD i) = true := by kernel_rfl
  intro i hi
  exact eq_of_beq (List.all_eq_true.1 h i (List.mem_range.2 hi))
theorem d79 : ∀ i, i < 128 → 64 ≤ i → (135#128).getLsbD i = false := by
  have h : ((List.range 128).all fun i => i.blt 64 || (135#128).getLsbD i == false) = true := by kernel_rfl
  intro i hi h6
  have := List.all_eq_true.1 h i (List.mem_range.2 hi)
  rw [Bool.or_eq_true] at this
  rcases this with h | h
  · exact absurd (Nat.le_of_ble_eq_true h) (by omega)
  · exact eq_of_beq h
theorem mulx_bit (e : E) {i : Nat} (h : i < 128) : (mulx e).getLsbD i = ((!decide (i < 1) && e.getLsbD (i - 1)) ^^ (e.getLsbD 127 && (135#128).getLsbD i)) := by
  unfold mulx
  rw [BitVec.getLsbD_xor, BitVec.getLsbD_shiftLeft, decide_eq_true h, Bool.true_and]
  cases e.getLsbD 127
  · show (_ ^^ (0#128).getLsbD i) = _; simp
  · show (_ ^^ (135#128).getLsbD i) = _; simp
def hi79 (h l : Wd) : Wd := (h >>> 1) ^^^ (bif l.getLsbD 0 then 16212958658533785600#64 else 0#64)
def lo79 (h l : Wd) : Wd := (h <<< 63) ||| (l >>> 1)
theorem e79 (h l : Wd) : pe (hi79 h l) (lo79 h l) = mulx (pe h l) := by
  apply ext
  intro i hi
  rw [mulx_bit _ hi, pe_lo h l (i := 127) (by omega) (by omega)]
  rw [show 127 - 127 = 0 from rfl]
  by_cases h1 : i < 64
  · rw [pe_hi _ _ h1]
    unfold hi79
    rw [BitVec.getLsbD_xor, BitVec.getLsbD_ushiftRight]
    have e : (bif l.getLsbD 0 then 16212958658533785600#64 else 0#64).getLsbD (63 - i) = (l.getLsbD 0 && (135#128).getLsbD i) := by
      rw [← c79 i h1]
      cases l.getLsbD 0
      · show (0#64).getLsbD _ = _; simp
      · show (16212958658533785600#64).getLsbD _ = _; simp
    rw [e]
    congr 1
    by_cases h0 : i = 0
    · subst h0; rw [BitVec.getLsbD_of_ge _ _ (by omega)]; rfl
    · rw [decide_eq_false (show ¬(i < 1) by omega), pe_hi _ _ (show i - 1 < 64 by omega), show 63 - (i - 1) = 1 + (63 - i) by omega]; rfl
  · rw [pe_lo _ _ (by omega) hi, d79 i hi (by omega), Bool.and_false, Bool.xor_false, decide_eq_false (show ¬(i < 1) by omega)]
    unfold lo79
    rw [BitVec.getLsbD_or, BitVec.getLsbD_shiftLeft, BitVec.getLsbD_ushiftRight]
    show _ = (true && _)
    rw [Bool.true_and]
    by_cases h2 : i = 64
    · subst h2
      rw [pe_hi _ _ (show 64 - 1 < 64 by omega)]
      show (true && true && h.getLsbD 0 || l.getLsbD 64) = h.getLsbD 0
      rw [BitVec.getLsbD_of_ge l 64 (by omega)]; simp
    · rw [pe_lo _ _ (show 64 ≤ i - 1 by omega) (by omega), decide_eq_true (show 127 - i < 63 by omega)]
      rw [show 127 - (i - 1) = 1 + (127 - i) by omega]; simp
theorem g79 (k : Nat) (h l : Wd) : F79 k (h.toNat : Int) (l.toNat : Int) = some (((hi79 h l).toNat : Int), ((lo79 h l).toNat : Int)) := by
  unfold F79 hi79 lo79
  rw [shr_w, shr_w, shl_w, or_w, show (16212958658533785600 : Int) = ((16212958658533785600#64).toNat : Int) from rfl, xor_w]
  rw [dec_bit (and1 l)]
  cases l.getLsbD 0
  · show some ((((h >>> 1).toNat : Int)), _) = some ((((h >>> 1) ^^^ 0#64).toNat : Int), _)
    rw [BitVec.xor_zero]; rfl
  · rfl

theorem c80 : ∀ i : Nat, i < 128 → ((i : Int).fdiv (2 ^ min (Int.toNat 6) IntKind.i64.bits)) = ((i / 64 : Nat) : Int) ∧ IntKind.i64.wrap (63 - IntKind.i64.wrap (↑(BitVec.ofInt IntKind.i64.bits (i : Int) &&& BitVec.ofInt IntKind.i64.bits 63).toNat : Int)) = ((63 - i % 64 : Nat) : Int) := by
  have : decide (∀ i : Nat, i < 128 → ((i : Int).fdiv (2 ^ min (Int.toNat 6) IntKind.i64.bits)) = ((i / 64 : Nat) : Int) ∧ IntKind.i64.wrap (63 - IntKind.i64.wrap (↑(BitVec.ofInt IntKind.i64.bits (i : Int) &&& BitVec.ofInt IntKind.i64.bits 63).toNat : Int)) = ((63 - i % 64 : Nat) : Int)) = true := by kernel_rfl
  exact of_decide_eq_true this
theorem g80 (k : Nat) (h l : Wd) {i : Nat} (hi : i < 128) : F80 k (h.toNat : Int) (l.toNat : Int) (i : Int) = some ((pe h l).getLsbD i) := by
  obtain ⟨e1, e2⟩ := c80 i hi
  unfold F80
  rw [e1, e2, Int.toNat_natCast, gp (Int.natCast_nonneg _), gp (Int.natCast_nonneg _), dec_bit (bit_w h _), dec_bit (bit_w l _)]
  by_cases h1 : i < 64
  · rw [show i / 64 = 0 by omega, pe_hi _ _ h1, show 63 - i % 64 = 63 - i by omega]; rfl
  · rw [show i / 64 = 1 by omega, pe_lo _ _ (by omega) hi, show 63 - i % 64 = 127 - i by omega]; rfl

theorem l47 (k : Nat) (a b c d : Wd) (m : Nat) : ∀ (f : Nat) (h l : Wd), m ≤ 128 → m + 1 ≤ f → pe h l = hor (pe a b) (pe c d) (128 - m) →
    ∃ h' l' : Wd, L47_0 k (a.toNat : Int) (b.toNat : Int) (c.toNat : Int) (d.toNat : Int) f ((m : Int) - 1) (h.toNat : Int) (l.toNat : Int) = some (.e0 (-1) (h'.toNat : Int) (l'.toNat : Int)) ∧ pe h' l' = hor (pe a b) (pe c d) 128 := by
  induction m with
  | zero =>
    intro f h l _ hf e
    obtain ⟨f, rfl⟩ : ∃ g, f = g + 1 := ⟨f - 1, by omega⟩
    exact ⟨h, l, rfl, e⟩
  | succ m ih =>
    intro f h l hm hf e
    obtain ⟨f, rfl⟩ : ∃ g, f = g + 1 := ⟨f - 1, by omega⟩
    have e' : hor (pe a b) (pe c d) (128 - m) = mulx (pe h l) ^^^ ind ((pe c d).getLsbD m) (pe a b) := by
      rw [show 128 - m = (128 - (m + 1)) + 1 by omega]
      show mulx (hor _ _ _) ^^^ _ = _
      rw [← e, show 127 - (128 - (m + 1)) = m by omega]
    rw [show ((m + 1 : Nat) : Int) - 1 = (m : Int) by omega]
    rw [L47_0, cT (Int.natCast_nonneg m), g79, Option.bind_some]
    show ∃ h' l' : Wd, ((F80 (k + 2) (c.toNat : Int) (d.toNat : Int) (m : Int)).bind _) = _ ∧ _
    rw [g80 _ _ _ (show m < 128 by omega), Option.bind_some, wi (show -9223372036854775808 ≤ (m : Int) - 1 by omega) (by omega)]
    cases hb : (pe c d).getLsbD m
    · rw [hb] at e'
      refine ih f _ _ (by omega) (by omega) ?_
      rw [e79, e']; exact (BitVec.xor_zero).symm
    · rw [hb] at e'
      rw [xor_w, xor_w]
      refine ih f _ _ (by omega) (by omega) ?_
      rw [e', ← e79]
      apply ext
      intro i hi
      show _ = (_ ^^^ (pe a b)).getLsbD i
      rw [BitVec.getLsbD_xor]
      by_cases h1 : i < 64
      · rw [pe_hi _ _ h1, pe_hi _ _ h1, pe_hi _ _ h1, BitVec.getLsbD_xor]
      · rw [pe_lo _ _ (by omega) hi, pe_lo _ _ (by omega) hi, pe_lo _ _ (by omega) hi, BitVec.getLsbD_xor]
theorem pe_zero : pe 0#64 0#64 = 0#128 := by
  apply ext
  intro i hi
  by_cases h1 : i < 64
  · rw [pe_hi _ _ h1]; simp
  · rw [pe_lo _ _ (by omega) hi]; simp
theorem g47 {k : Nat} (a b c d : Wd) (hk : 130 ≤ k) : ∃ h l : Wd, F47 k (a.toNat : Int) (b.toNat : Int) (c.toNat : Int) (d.toNat : Int) = some ((h.toNat : Int), (l.toNat : Int)) ∧ pe h l = gm (pe a b) (pe c d) := by
  obtain ⟨h, l, e, p⟩ := l47 k a b c d 128 (k + 5) 0#64 0#64 (Nat.le_refl _) (by omega) pe_zero
  refine ⟨h, l, ?_, p.trans (gm_hor _ _).symm⟩
  unfold F47
  have e' : L47_0 k (a.toNat : Int) (b.toNat : Int) (c.toNat : Int) (d.toNat : Int) (k + 5) 127 0 0 = _ := e
  rw [e']; rfl
end Go.Proofs
