/- DERIVED. Sums of blocks by a block. -/
import Derived.Test.YtegmincienhapaaGfF
set_option linter.unusedVariables false
set_option linter.unusedSimpArgs false
set_option maxRecDepth 100000
namespace Go.Proofs
open Go Go.Sym Go.Sym.Gf

def sumE (h e : E) (l : List (List UInt8)) : E := l.foldl (fun e b => gm (e ^^^ el b) h) e
theorem pe_xor (a b c d : Wd) : pe (a ^^^ c) (b ^^^ d) = pe a b ^^^ pe c d := by
  apply ext
  intro i hi
  rw [BitVec.getLsbD_xor]
  by_cases h1 : i < 64
  · rw [pe_hi _ _ h1, pe_hi _ _ h1, pe_hi _ _ h1, BitVec.getLsbD_xor]
  · rw [pe_lo _ _ (by omega) hi, pe_lo _ _ (by omega) hi, pe_lo _ _ (by omega) hi, BitVec.getLsbD_xor]
theorem l27 {k : Nat} {a b : Wd} {b0 : Bool} {s0 s1 s2 : List UInt8} {o0 : Option Bool} {l : List (List UInt8)} (h16 : ∀ x ∈ l, x.length = 16) (hl : l.length ≤ 100) (hk : 200 ≤ k) :
    ∀ (c i f : Nat) (h g : Wd), l.length - i = c → i ≤ l.length → c < f → ∃ (z : Int) (h' g' : Wd), L27_0 k (a.toNat : Int) (b.toNat : Int) b0 s0 s1 s2 (l.map V.str) o0 1 f (i : Int) (h.toNat : Int) (g.toNat : Int) = some (.e0 z (h'.toNat : Int) (g'.toNat : Int)) ∧ pe h' g' = sumE (pe a b) (pe h g) (l.drop i) := by
  intro c
  induction c with
  | zero =>
    intro i f h g hc hi hf
    obtain ⟨f, rfl⟩ : ∃ y, f = y + 1 := ⟨f - 1, by omega⟩
    refine ⟨(i : Int), h, g, ?_, ?_⟩
    · rw [L27_0, List.length_map, cF (by omega)]
    · rw [List.drop_eq_nil_of_le (by omega)]; rfl
  | succ c ih =>
    intro i f h g hc hi hf
    obtain ⟨f, rfl⟩ : ∃ y, f = y + 1 := ⟨f - 1, by omega⟩
    have hi' : i < l.length := by omega
    obtain ⟨x, y, e1, p1⟩ := g46 (k := k + 11) l[i] (h16 _ (List.getElem_mem hi')) (by omega)
    obtain ⟨h2, g2, e2, p2⟩ := g47 (k := k + 11) (h ^^^ x) (g ^^^ y) a b (by omega)
    obtain ⟨z, h', g', e3, p3⟩ := ih (i + 1) f h2 g2 (by omega) (by omega) (by omega)
    refine ⟨z, h', g', ?_, ?_⟩
    · rw [L27_0, List.length_map, cT (by omega), gp rfl, at_str hi', Option.bind_some, e1, Option.bind_some]
      simp only
      rw [xor_w, xor_w, e2, Option.bind_some]
      simp only
      rw [wi (n := (i : Int) + 1) (by omega) (by omega), show (i : Int) + 1 = ((i + 1 : Nat) : Int) by omega]
      exact e3
    · rw [p3, p2, pe_xor, p1, List.drop_eq_getElem_cons hi']; rfl
theorem BL_small {a b : List UInt8} (ha : a.length ≤ 80) (hb : b.length ≤ 80) : (BL a b).length ≤ 11 := by
  rw [BL_length]; unfold nb; omega
theorem g27 {k : Nat} {h a b : List UInt8} (hh : h.length = 16) (ha : a.length ≤ 80) (hb : b.length ≤ 80) (hk : 200 ≤ k) : ∃ r, F27 k h a b = some (r, 0) ∧ r.length = 16 ∧ el r = sumE (el h) 0#128 (BL a b) := by
  obtain ⟨x, y, e1, p1⟩ := g46 (k := k + 11) h hh (by omega)
  have hn := BL_small ha hb
  obtain ⟨z, h', g', e2, p2⟩ := l27 (k := k) (a := x) (b := y) (b0 := false) (s0 := h) (s1 := a) (s2 := b) (o0 := none) (l := BL a b) (fun _ => BL_16) (by omega) hk (BL a b).length 0 (k + 17) 0#64 0#64 (by omega) (by omega) (by omega)
  refine ⟨by54 h' ++ by54 g', ?_, rfl, ?_⟩
  · unfold F27
    rw [cNT (by omega), e1, Option.bind_some]
    simp only
    rw [g29 ha hb, Option.bind_some]
    simp only
    have e2' : L27_0 k (x.toNat : Int) (y.toNat : Int) false h a b ((BL a b).map V.str) none 1 (k + 17) 0 0 0 = _ := e2
    rw [e2', Option.bind_some]
    simp only
    rw [g48, Option.bind_some]
  · rw [el_block, p2, pe_zero, p1, List.drop_zero]

theorem u8_of (a : UInt8) : BitVec.ofInt IntKind.u8.bits (a.toNat : Int) = a.toBitVec := by
  show BitVec.ofInt 8 ((a.toBitVec.toNat : Nat) : Int) = a.toBitVec
  rw [BitVec.ofInt_natCast, BitVec.ofNat_toNat, BitVec.setWidth_eq]
theorem xor_b (a b : UInt8) : IntKind.u8.wrap (↑(BitVec.ofInt IntKind.u8.bits (a.toNat : Int) ^^^ BitVec.ofInt IntKind.u8.bits (b.toNat : Int)).toNat : Int) = ((a ^^^ b).toNat : Int) := by
  rw [u8_of, u8_of, wb_mod]
  show (((a ^^^ b).toNat : Int)) % 256 = _
  have := (a ^^^ b).toNat_lt
  omega
def fb (c : UInt8) : V := V.int IntKind.u8 (c.toNat : Int)
def zxn (s t : List UInt8) (i : Nat) : List UInt8 := (List.range i).map fun j => (s[j]?.getD 0) ^^^ (t[j]?.getD 0)
def ZERO : List UInt8 := [0, 0, 0, 0, 0, 0, 0, 0, 0, 0, 0, 0, 0, 0, 0, 0]
theorem el_zero : el ZERO = 0#128 := by kernel_rfl
theorem zero_iff {s : List UInt8} (h : s.length = 16) : s = ZERO ↔ el s = 0#128 :=
  ⟨fun e => by rw [e, el_zero], fun e => el_inj h rfl (e.trans el_zero.symm)⟩
end Go.Proofs
