/- DERIVED. Sums of blocks by a block. -/
import Derived.Test.YtegmincienhapaaGfF
set_option linter.unusedVariables false
set_option linter.unusedSimpArgs false
set_option maxRecDepth 100000
namespace Go.Proofs
open Go Go.Sym Go.Sym.Gf

def sumE (h e : E) (l : List (List UInt8)) : E := l.foldl (fun e b => gm (e ^^^ el b) h) e
theorem pe_xor (a b c d : Wd) : pe (a ^^^ c) (b ^^^ d) = pe a b ^^^ pe c d := by
  apply ext
  intro i hi
  rw [BitVec.getLsbD_xor]
  by_cases h1 : i < 64
  · rw [pe_hi _ _ h1, pe_hi _ _ h1, pe_hi _ _ h1, BitVec.getLsbD_xor]
  · rw [pe_lo _ _ (by omega) hi, pe_lo _ _ (by omega) hi, pe_lo _ _ (by omega) hi, BitVec.getLsbD_xor]
theorem l27 {k : Nat} {a b : Wd} {b0 : Bool} {s0 s1 s2 : List UInt8} {o0 : Option Bool} {l : List (List UInt8)} (h16 : ∀ x ∈ l, x.length = 16) (hl : l.length ≤ 100) (hk : 200 ≤ k) :
    ∀ (c i f : Nat) (h g : Wd), l.length - i = c → i ≤ l.length → c < f → ∃ (z : Int) (h' g' : Wd), L27_0 k (a.toNat : Int) (b.toNat : Int) b0 s0 s1 s2 (l.map V.str) o0 1 f (i : Int) (h.toNat : Int) (g.toNat : Int) = some (.e0 z (h'.toNat : Int) (g'.toNat : Int)) ∧ pe h' g' = sumE (pe a b) (pe h g) (l.drop i) := by
  intro c
  induction c with
  | zero =>
    intro i f h g hc hi hf
    obtain ⟨f, rfl⟩ : ∃ y, f = y + 1 := ⟨f - 1, by omega⟩
    refine ⟨(i : Int), h, g, ?_, ?_⟩
    · rw [L27_0, List.length_map, cF (by omega)]
    · rw [List.drop_eq_nil_of_le (by omega)]; rfl
  | succ c ih =>
    intro i f h g hc hi hf
    obtain ⟨f, rfl⟩ : ∃ y, f = y + 1 := ⟨f - 1, by omega⟩
    have hi' : i < l.length := by omega
    obtain ⟨x, y, e1, p1⟩ := g46 (k := k + 11) l[i] (h16 _ (List.getElem_mem hi')) (by omega)
    obtain ⟨h2, g2, e2, p2⟩ := g47 (k := k + 11) (h ^^^ x) (g ^^^ y) a b (by omega)
    obtain ⟨z, h', g', e3, p3⟩ := ih (i + 1) f h2 g2 (by omega) (by omega) (by omega)
    refine ⟨z, h', g', ?_, ?_⟩
    · rw [L27_0, List.length_map, cT (by omega), gp rfl, at_str hi', Option.bind_some, e1, Option.bind_some]
      simp only
      rw [xor_w, xor_w, e2, Option.bind_some]
      simp only
      rw [wi (n := (i : Int) + 1) (by omega) (by omega), show (i : Int) + 1 = ((i + 1 : Nat) : Int) by omega]
      exact e3
    · rw [p3, p2, pe_xor, p1, List.drop_eq_getElem_cons hi']; rfl
theorem g27a (k : Nat) (h s t : List UInt8) (hh : h.length ≠ 16) : F27 k h s t = some ([], 4) := by
  unfold F27
  rw [cNF (by omega)]
theorem BL_small {a b : List UInt8} (ha : a.length ≤ 80) (hb : b.length ≤ 80) : (BL a b).length ≤ 11 := by
  rw [BL_length]; unfold nb; omega
theorem g27 {k : Nat} {h a b : List UInt8} (hh : h.length = 16) (ha : a.length ≤ 80) (hb : b.length ≤ 80) (hk : 200 ≤ k) : ∃ r, F27 k h a b = some (r, 0) ∧ r.length = 16 ∧ el r = sumE (el h) 0#128 (BL a b) := by
  obtain ⟨x, y, e1, p1⟩ := g46 (k := k + 11) h hh (by omega)
  have hn := BL_small ha hb
  obtain ⟨z, h', g', e2, p2⟩ := l27 (k := k) (a := x) (b := y) (b0 := false) (s0 := h) (s1 := a) (s2 := b) (o0 := none) (l := BL a b) (fun _ => BL_16) (by omega) hk (BL a b).length 0 (k + 17) 0#64 0#64 (by omega) (by omega) (by omega)
  refine ⟨by54 h' ++ by54 g', ?_, rfl, ?_⟩
  · unfold F27
    rw [cNT (by omega), e1, Option.bind_some]
    simp only
    rw [g29 ha hb, Option.bind_some]
    simp only
    have e2' : L27_0 k (x.toNat : Int) (y.toNat : Int) false h a b ((BL a b).map V.str) none 1 (k + 17) 0 0 0 = _ := e2
    rw [e2', Option.bind_some]
    simp only
    rw [g48, Option.bind_some]
  · rw [el_block, p2, pe_zero, p1, List.drop_zero]

/-! ### The reference's -/
theorem u8_of (a : UInt8) : BitVec.ofInt IntKind.u8.bits (a.toNat : Int) = a.toBitVec := by
  show BitVec.ofInt 8 ((a.toBitVec.toNat : Nat) : Int) = a.toBitVec
  rw [BitVec.ofInt_natCast, BitVec.ofNat_toNat, BitVec.setWidth_eq]
theorem xor_b (a b : UInt8) : IntKind.u8.wrap (↑(BitVec.ofInt IntKind.u8.bits (a.toNat : Int) ^^^ BitVec.ofInt IntKind.u8.bits (b.toNat : Int)).toNat : Int) = ((a ^^^ b).toNat : Int) := by
  rw [u8_of, u8_of, wb_mod]
  show (((a ^^^ b).toNat : Int)) % 256 = _
  have := (a ^^^ b).toNat_lt
  omega
def fb (c : UInt8) : V := V.int IntKind.u8 (c.toNat : Int)
theorem all_fb (l : List UInt8) : (l.map fb).all isByte = true := by
  rw [List.all_eq_true]; intro x hx
  obtain ⟨c, _, rfl⟩ := List.mem_map.1 hx
  rfl
theorem byteOf_fb (l : List UInt8) : (l.map fb).map Sym.byteOf = l := by
  rw [List.map_map]
  conv => rhs; rw [← List.map_id l]
  apply List.map_congr_left
  intro c _
  show UInt8.ofNat ((c.toNat : Int)).toNat = c
  rw [Int.toNat_natCast]; exact UInt8.ofNat_toNat
def zxn (s t : List UInt8) (i : Nat) : List UInt8 := (List.range i).map fun j => (s[j]?.getD 0) ^^^ (t[j]?.getD 0)
theorem satB_nat {t : List UInt8} {j : Nat} (h : j < t.length) : satB t ((j : Nat) : Int) = some (t[j]?.getD 0) := by
  unfold satB; rw [if_pos (Int.natCast_nonneg _), Int.toNat_natCast, List.getElem?_eq_getElem h]; rfl
theorem L57_run {k : Nat} {s t : List UInt8} (hs : s.length = t.length) (hl : s.length ≤ 1000) : ∀ (c i f : Nat), s.length - i = c → i ≤ s.length → c < f → ∃ z, L57_0 k s t f (i : Int) ((zxn s t i).map fb) = some (.e0 z ((zxn s t s.length).map fb)) := by
  intro c
  induction c with
  | zero =>
    intro i f hc hi hf
    obtain ⟨f, rfl⟩ : ∃ y, f = y + 1 := ⟨f - 1, by omega⟩
    rw [L57_0, cF (by omega), show i = s.length by omega]
    exact ⟨_, rfl⟩
  | succ c ih =>
    intro i f hc hi hf
    obtain ⟨f, rfl⟩ : ∃ y, f = y + 1 := ⟨f - 1, by omega⟩
    obtain ⟨z, e⟩ := ih (i + 1) f (by omega) (by omega) (by omega)
    refine ⟨z, ?_⟩
    rw [L57_0, cT (by omega), satB_nat (by omega), Option.bind_some, satB_nat (by omega), Option.bind_some, gp (by rw [List.length_map]; simp only [zxn, List.length_map, List.length_range]; unfold maxLen'; omega), xor_b, wi (n := (i : Int) + 1) (by omega) (by omega), show (i : Int) + 1 = ((i + 1 : Nat) : Int) by omega,
      show (zxn s t i).map fb ++ [V.int IntKind.u8 (((s[i]?.getD 0 ^^^ t[i]?.getD 0 : UInt8).toNat : Nat) : Int)] = (zxn s t (i + 1)).map fb by simp [zxn, List.range_succ, fb]]
    exact e
theorem g57 {k : Nat} {s t : List UInt8} (hs : s.length = 16) (ht : t.length = 16) (hk : 20 ≤ k) : F57 k s t = some (zxn s t 16) := by
  obtain ⟨z, e⟩ := L57_run (k := k) (s := s) (t := t) (by omega) (by omega) 16 0 (k + 2) (by omega) (by omega) (by omega)
  unfold F57
  have e' : L57_0 k s t (k + 2) 0 [] = _ := e
  rw [e', Option.bind_some]
  simp only
  rw [gp (all_fb _), byteOf_fb, hs]
theorem zxn_el {s t : List UInt8} : el (zxn s t 16) = el s ^^^ el t := by
  apply ext
  intro i hi
  rw [BitVec.getLsbD_xor, el_bit _ hi, el_bit _ hi, el_bit _ hi]
  unfold cof
  have : (zxn s t 16)[i / 8]? = some (s[i / 8]?.getD 0 ^^^ t[i / 8]?.getD 0) := by
    unfold zxn; rw [List.getElem?_map, List.getElem?_range (by omega)]; rfl
  rw [this]
  show ((s[i / 8]?.getD 0) ^^^ (t[i / 8]?.getD 0)).toNat.testBit _ = _
  rw [UInt8.toNat_xor, Nat.testBit_xor]
theorem zxn_length (s t : List UInt8) : (zxn s t 16).length = 16 := by simp [zxn]
theorem l31 {k : Nat} {b0 : Bool} {s0 s1 s2 : List UInt8} {o0 : Option Bool} {l : List (List UInt8)} (h16 : ∀ x ∈ l, x.length = 16) (hs0 : s0.length = 16) (hl : l.length ≤ 100) (hk : 300 ≤ k) :
    ∀ (c i f : Nat) (s : List UInt8), l.length - i = c → i ≤ l.length → c < f → s.length = 16 → ∃ (z : Int) (r : List UInt8), L31_0 k b0 s0 s1 s2 (l.map V.str) o0 1 f s (i : Int) = some (.e0 z r) ∧ r.length = 16 ∧ el r = sumE (el s0) (el s) (l.drop i) := by
  intro c
  induction c with
  | zero =>
    intro i f s hc hi hf hs
    obtain ⟨f, rfl⟩ : ∃ y, f = y + 1 := ⟨f - 1, by omega⟩
    refine ⟨(i : Int), s, ?_, hs, ?_⟩
    · rw [L31_0, List.length_map, cF (by omega)]
    · rw [List.drop_eq_nil_of_le (by omega)]; rfl
  | succ c ih =>
    intro i f s hc hi hf hs
    obtain ⟨f, rfl⟩ : ∃ y, f = y + 1 := ⟨f - 1, by omega⟩
    have hi' : i < l.length := by omega
    obtain ⟨q, e1, hq, p1⟩ := g25 (k := k + 2) (zxn s l[i] 16) s0 (zxn_length _ _) hs0 (by omega)
    obtain ⟨z, r, e2, hr, p2⟩ := ih (i + 1) f q (by omega) (by omega) (by omega) hq
    refine ⟨z, r, ?_, hr, ?_⟩
    · rw [L31_0, List.length_map, cT (by omega), gp rfl, at_str hi', Option.bind_some, g57 hs (h16 _ (List.getElem_mem hi')) (by omega), Option.bind_some, e1, Option.bind_some, wi (n := (i : Int) + 1) (by omega) (by omega), show (i : Int) + 1 = ((i + 1 : Nat) : Int) by omega]
      exact e2
    · rw [p2, p1, zxn_el, List.drop_eq_getElem_cons hi']; rfl
def ZERO : List UInt8 := [0, 0, 0, 0, 0, 0, 0, 0, 0, 0, 0, 0, 0, 0, 0, 0]
theorem el_zero : el ZERO = 0#128 := by kernel_rfl
theorem zero_iff {s : List UInt8} (h : s.length = 16) : s = ZERO ↔ el s = 0#128 :=
  ⟨fun e => by rw [e, el_zero], fun e => el_inj h rfl (e.trans el_zero.symm)⟩
theorem g31 {k : Nat} {h a b : List UInt8} (hh : h.length = 16) (ha : a.length ≤ 80) (hb : b.length ≤ 80) (hk : 300 ≤ k) : ∃ r, F31 k h a b = some r ∧ r.length = 16 ∧ el r = sumE (el h) 0#128 (BL a b) := by
  have hn := BL_small ha hb
  obtain ⟨z, r, e, hr, p⟩ := l31 (k := k) (b0 := false) (s0 := h) (s1 := a) (s2 := b) (o0 := none) (l := BL a b) (fun _ => BL_16) hh (by omega) hk (BL a b).length 0 (k + 11) ZERO (by omega) (by omega) (by omega) rfl
  refine ⟨r, ?_, hr, ?_⟩
  · unfold F31
    rw [g30 ha hb (by omega), Option.bind_some]
    simp only
    have e' : L31_0 k false h a b ((BL a b).map V.str) none 1 (k + 11) ([0, 0, 0, 0, 0, 0, 0, 0, 0, 0, 0, 0, 0, 0, 0, 0]) 0 = _ := e
    rw [e', Option.bind_some]
  · rw [p, el_zero, List.drop_zero]
end Go.Proofs
