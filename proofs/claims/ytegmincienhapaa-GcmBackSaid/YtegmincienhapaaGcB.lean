/- DERIVED. Streams, masks, tags, plainly, for both sides. -/
import Derived.Test.YtegmincienhapaaGcA
import Derived.Test.YtegmincienhapaaAeF
import Derived.Test.YtegmincienhapaaGfG
set_option linter.unusedVariables false
set_option linter.unusedSimpArgs false
set_option maxRecDepth 1000000
namespace Go.Proofs.Gc
open Go Go.Sym Go.Sym.Gf Go.Proofs.Ae

def ctr (n : Nat) : List UInt8 := [UInt8.ofNat (n / 16777216), UInt8.ofNat (n / 65536), UInt8.ofNat (n / 256), UInt8.ofNat n]
theorem ctr_length (n : Nat) : (ctr n).length = 4 := rfl
theorem bO (n : Nat) : Sym.byteOf (V.int IntKind.u8 (IntKind.u8.wrap (n : Int))) = UInt8.ofNat n := by
  rw [wb_mod]
  show UInt8.ofNat ((n : Int) % 256).toNat = _
  rw [show ((n : Int) % 256).toNat = n % 256 by omega]
  apply UInt8.toNat_inj.1
  rw [UInt8.toNat_ofNat', UInt8.toNat_ofNat']; omega
theorem wu32_mod (n : Int) : IntKind.u32.wrap n = n % 4294967296 := by
  simp [IntKind.wrap, IntKind.signed, IntKind.bits]
theorem ctrP {n : Nat} (hn : n < 4294967296) : List.map Sym.byteOf ((1 : Nat), [V.int IntKind.u8 (IntKind.u8.wrap ((n : Int).fdiv (2 ^ min (Int.toNat 24) IntKind.u32.bits))), V.int IntKind.u8 (IntKind.u8.wrap ((n : Int).fdiv (2 ^ min (Int.toNat 16) IntKind.u32.bits))), V.int IntKind.u8 (IntKind.u8.wrap ((n : Int).fdiv (2 ^ min (Int.toNat 8) IntKind.u32.bits))), V.int IntKind.u8 (IntKind.u8.wrap (n : Int))]).snd = ctr n := by
  have e1 : (n : Int).fdiv (2 ^ min (Int.toNat 24) IntKind.u32.bits) = ((n / 16777216 : Nat) : Int) := by
    show (n : Int).fdiv 16777216 = _
    rw [Int.fdiv_eq_ediv_of_nonneg _ (by decide)]; omega
  have e2 : (n : Int).fdiv (2 ^ min (Int.toNat 16) IntKind.u32.bits) = ((n / 65536 : Nat) : Int) := by
    show (n : Int).fdiv 65536 = _
    rw [Int.fdiv_eq_ediv_of_nonneg _ (by decide)]; omega
  have e3 : (n : Int).fdiv (2 ^ min (Int.toNat 8) IntKind.u32.bits) = ((n / 256 : Nat) : Int) := by
    show (n : Int).fdiv 256 = _
    rw [Int.fdiv_eq_ediv_of_nonneg _ (by decide)]; omega
  rw [e1, e2, e3]
  simp only [List.map_cons, List.map_nil, bO]
  rfl
def sl (s nonce : List UInt8) (many : Nat) : Nat → Nat → List UInt8 → List UInt8
  | 0, _, out => out
  | f + 1, n, out => if out.length < many then sl s nonce many f ((n + 1) % 4294967296) (out ++ aes s (nonce ++ ctr n)) else out
def stream (s nonce : List UInt8) (n many : Nat) : List UInt8 := (sl s nonce many many n []).take many
theorem sl_length {s nonce : List UInt8} (h : keyOk s) (hn : nonce.length = 12) {many : Nat} : ∀ (f n : Nat) (out : List UInt8), many ≤ out.length + 16 * f → many ≤ (sl s nonce many f n out).length := by
  intro f
  induction f with
  | zero => intro n out h; exact h
  | succ f ih =>
    intro n out hm
    rw [sl]
    split
    · exact ih _ _ (by rw [List.length_append, aes_length h (by rw [List.length_append, ctr_length, hn])]; omega)
    · omega
theorem stream_length {s nonce : List UInt8} (h : keyOk s) (hn : nonce.length = 12) {n many : Nat} : (stream s nonce n many).length = many := by
  unfold stream
  have := sl_length h hn (many := many) many n [] (by omega)
  rw [List.length_take]; omega
theorem u32_next (n : Nat) : IntKind.u32.wrap ((n : Int) + 1) = (((n + 1) % 4294967296 : Nat) : Int) := by rw [wu32_mod]; omega
theorem L63r {k many : Nat} {s nonce : List UInt8} (h : keyOk s) (hn : nonce.length = 12) (hm : many ≤ 6000) (hk : 1300 ≤ k) : ∀ (c g n : Nat) (out : List UInt8), many ≤ out.length + 16 * c → c < g → out.length ≤ many + 16 → n < 4294967296 →
    ∃ z, L63_0 k (many : Int) s nonce g (n : Int) out = some (.e0 z (sl s nonce many c n out)) := by
  intro c
  induction c with
  | zero =>
    intro g n out h1 hg h2 hn32
    obtain ⟨g, rfl⟩ : ∃ y, g = y + 1 := ⟨g - 1, by omega⟩
    rw [L63_0, cF (by omega)]
    exact ⟨_, rfl⟩
  | succ c ih =>
    intro g n out h1 hg h2 hn32
    obtain ⟨g, rfl⟩ : ∃ y, g = y + 1 := ⟨g - 1, by omega⟩
    rw [L63_0, sl]
    by_cases hlt : out.length < many
    · have ht : (nonce ++ ctr n).length = 16 := by rw [List.length_append, ctr_length, hn]
      have ha := aes_length h ht
      obtain ⟨z, e⟩ := ih g ((n + 1) % 4294967296) (out ++ aes s (nonce ++ ctr n)) (by rw [List.length_append, ha]; omega) (by omega) (by rw [List.length_append, ha]; omega) (by omega)
      refine ⟨z, ?_⟩
      rw [cT (by omega), if_pos hlt, ctrP hn32, gp (by rw [ctr_length]; unfold maxText; omega), g42 h ht (by omega), Option.bind_some]
      simp only
      rw [gp (by rw [ha]; unfold maxBld; omega), u32_next]
      exact e
    · rw [cF (by omega), if_neg hlt]
      exact ⟨_, rfl⟩
theorem g63 {k n many : Nat} {s nonce : List UInt8} (h : keyOk s) (hn : nonce.length = 12) (hm : many ≤ 6000) (h32 : n < 4294967296) (hk : 6100 ≤ k) : F63 k s nonce (n : Int) (many : Int) = some (stream s nonce n many) := by
  unfold F63
  obtain ⟨z, e⟩ := L63r (k := k) h hn hm (by omega) many (k + 41) n [] (by omega) (by omega) (by simp) h32
  have hl := sl_length h hn (many := many) many n [] (by omega)
  rw [e, Option.bind_some]
  simp only
  rw [gp (by omega), Int.toNat_natCast]
  rfl
theorem satB_at {t : List UInt8} {j : Nat} (h : j < t.length) : satB t ((j : Nat) : Int) = some t[j] := by
  unfold satB; rw [if_pos (Int.natCast_nonneg _), Int.toNat_natCast, List.getElem?_eq_getElem h]
def part (s t : List UInt8) (i : Nat) : List UInt8 := xorL (s.take i) (t.take i) ++ s.drop i
theorem part_length {s t : List UInt8} (h : s.length = t.length) {i : Nat} (hi : i ≤ s.length) : (part s t i).length = s.length := by
  unfold part xorL; rw [List.length_append, List.length_zipWith, List.length_take, List.length_take, List.length_drop]; omega
theorem xorL_take_succ {s t : List UInt8} {i : Nat} (hi : i < s.length) (hj : i < t.length) : xorL (s.take (i + 1)) (t.take (i + 1)) = xorL (s.take i) (t.take i) ++ [s[i] ^^^ t[i]] := by
  rw [List.take_succ_eq_append_getElem hi, List.take_succ_eq_append_getElem hj]; unfold xorL; rw [List.zipWith_append (by rw [List.length_take, List.length_take]; omega)]; rfl
theorem L84r {k : Nat} {s t : List UInt8} (hs : t.length = s.length) (hl : s.length ≤ 6000) : ∀ (c i f : Nat), s.length - i = c → i ≤ s.length → c < f → ∃ z, L84_0 k t s f (i : Int) ((part s t i).map ub) = some (.e0 z ((xorL s t).map ub)) := by
  intro c
  induction c with
  | zero =>
    intro i f hc hi hf
    obtain ⟨f, rfl⟩ : ∃ y, f = y + 1 := ⟨f - 1, by omega⟩
    rw [L84_0, List.length_map, cF (by omega)]
    unfold part
    rw [List.take_of_length_le (by omega), List.take_of_length_le (by omega), List.drop_eq_nil_of_le (by omega), List.append_nil]
    exact ⟨_, rfl⟩
  | succ c ih =>
    intro i f hc hi hf
    obtain ⟨f, rfl⟩ : ∃ y, f = y + 1 := ⟨f - 1, by omega⟩
    have hi' : i < s.length := by omega
    have hj' : i < t.length := by omega
    obtain ⟨z, e⟩ := ih (i + 1) f (by omega) (by omega) (by omega)
    refine ⟨z, ?_⟩
    have hx : (xorL (s.take i) (t.take i)).length = i := by unfold xorL; rw [List.length_zipWith, List.length_take, List.length_take]; omega
    have h1 : (((part s t i).map ub)[i]?).bind (dI IntKind.u8) = some ((s[i].toNat : Nat) : Int) := by
      unfold part
      rw [List.getElem?_map, List.getElem?_append_right (by omega), hx, Nat.sub_self, List.getElem?_drop, Nat.add_zero, List.getElem?_eq_getElem hi']
      exact dI_int _ _
    have h2 : ((part s t i).map ub).set i (V.int IntKind.u8 ((s[i] ^^^ t[i]).toNat : Int)) = (part s t (i + 1)).map ub := by
      rw [show V.int IntKind.u8 ((s[i] ^^^ t[i]).toNat : Int) = ub (s[i] ^^^ t[i]) from rfl, ← List.map_set]
      congr 1
      unfold part
      rw [List.set_append_right _ _ (by omega), hx, Nat.sub_self, List.drop_eq_getElem_cons hi', List.set_cons_zero, xorL_take_succ hi' hj', List.append_assoc]
      rfl
    rw [L84_0, List.length_map, cT (by omega), gp (by rw [List.length_map, part_length (by omega) hi]; omega), Int.toNat_natCast, h1, Option.bind_some, satB_at hj', Option.bind_some, gp (by rw [List.length_map, part_length (by omega) hi]; omega), Ae.xor_b, h2, wi (n := (i : Int) + 1) (by omega) (by omega), show (i : Int) + 1 = ((i + 1 : Nat) : Int) by omega]
    exact e
theorem g84 {k : Nat} {s t : List UInt8} (hs : t.length = s.length) (hl : s.length ≤ 6000) (hk : 6100 ≤ k) : F84 k t s = some (xorL s t) := by
  obtain ⟨z, e⟩ := L84r (k := k) hs hl s.length 0 (k + 2) (by omega) (by omega) (by omega)
  have e' : L84_0 k t s (k + 2) 0 (List.map (fun c : UInt8 => V.int IntKind.u8 (c.toNat : Int)) s) = _ := e
  unfold F84
  rw [gp (by unfold maxLen'; omega), e', Option.bind_some]
  simp only
  rw [gp (Ae.all_ub _), Ae.byteOf_ub]
def unE (e : E) : List UInt8 := bys ((List.range 128).map fun i => e.getLsbD i)
theorem unE_length (e : E) : (unE e).length = 16 := by simp [unE, bys]
theorem el_unE (e : E) : el (unE e) = e := by
  unfold unE
  rw [el_bys _ (by simp)]
  refine Eq.trans (S_congr fun i hi => ?_) (mk_get e)
  rw [List.getElem?_map, List.getElem?_range hi]; rfl
def sumL (h a b : List UInt8) : List UInt8 := unE (sumE (el h) 0#128 (BL a b))
theorem sumL_length (h a b : List UInt8) : (sumL h a b).length = 16 := unE_length _
theorem u27 {k : Nat} {h a b : List UInt8} (hh : h.length = 16) (ha : a.length ≤ 80) (hb : b.length ≤ 80) (hk : 300 ≤ k) : F27 k h a b = some (sumL h a b, 0) := by
  obtain ⟨r, e, hl, p⟩ := g27 (k := k) hh ha hb (by omega)
  rw [e, el_inj hl (sumL_length h a b) (p.trans (el_unE _).symm)]
def tagS (s nonce head text : List UInt8) : List UInt8 := xorL (sumL (aes s ZERO) head text) (stream s nonce 1 16)
theorem tag_length {s nonce head text : List UInt8} (h : keyOk s) (hn : nonce.length = 12) : (tagS s nonce head text).length = 16 := by
  unfold tagS; rw [xor_length (by rw [sumL_length, stream_length h hn]), sumL_length]
theorem g60 {k : Nat} {s nonce head text : List UInt8} (h : keyOk s) (hn : nonce.length = 12) (ha : head.length ≤ 80) (hb : text.length ≤ 80) (hk : 7000 ≤ k) : F60 k s nonce head text = some (tagS s nonce head text) := by
  have hz : (ZERO).length = 16 := rfl
  have ha16 := aes_length h hz
  unfold F60
  rw [show (16 : Int) = ((16 : Nat) : Int) from rfl, g41 (k + 44) (by omega), Option.bind_some]
  show ((F42 (k + 6) s ZERO).bind _) = _
  rw [g42 h hz (by omega), Option.bind_some]
  simp only
  rw [u27 ha16 ha hb (by omega), Option.bind_some]
  simp only
  rw [show (1 : Int) = ((1 : Nat) : Int) from rfl, g63 h hn (by omega) (by omega) (by omega), Option.bind_some, g84 (by rw [stream_length h hn, sumL_length]) (by rw [sumL_length]; omega) (by omega), Option.bind_some]
  rfl
def may (s nonce : List UInt8) : Bool := (decide (s.length = 16) || decide (s.length = 32)) && decide (nonce.length = 12)
theorem may_iff {s nonce : List UInt8} : may s nonce = true ↔ keyOk s ∧ nonce.length = 12 := by
  unfold may keyOk
  rw [Bool.and_eq_true, Bool.or_eq_true, decide_eq_true_iff, decide_eq_true_iff, decide_eq_true_iff]
theorem g58 {k : Nat} {s nonce : List UInt8} : F58 k s nonce = some (may s nonce) := by
  unfold F58 may
  have e : decide ((nonce.length : Int) = 12) = decide (nonce.length = 12) := decide_eq_decide.2 (by omega)
  rw [e]
  by_cases h1 : s.length = 16
  · rw [cT (by omega), dec_t h1, Bool.true_or, Bool.true_and]
  · rw [cF (by omega), dec_f h1, Bool.false_or]
    by_cases h2 : s.length = 32
    · rw [cT (by omega), dec_t h2, Bool.true_and]
    · rw [cF (by omega), dec_f h2, Bool.false_and]
theorem g32 (k : Nat) (s : List UInt8) : F32 k s = some (s.take 70) := by
  unfold F32
  have := take_if 70 s
  rw [gp (by omega)]
  exact congrArg some this

def cip (s nonce text : List UInt8) : List UInt8 := xorL text (stream s nonce 2 text.length)
def sealS (s nonce head text : List UInt8) : List UInt8 := cip s nonce text ++ tagS s nonce head (cip s nonce text)
theorem cip_length {s nonce text : List UInt8} (h : keyOk s) (hn : nonce.length = 12) : (cip s nonce text).length = text.length := by
  unfold cip; rw [xor_length (by rw [stream_length h hn])]
theorem g33 {k : Nat} {s nonce head text : List UInt8} (h : may s nonce = true) (ha : head.length ≤ 80) (hb : text.length ≤ 80) (hk : 7000 ≤ k) : F33 k s nonce head text = some (sealS s nonce head text, 0) := by
  obtain ⟨hs, hn⟩ := may_iff.1 h
  have hc := cip_length (text := text) hs hn
  unfold F33
  rw [g58, h, Option.bind_some, Bool.not_true, cond_false, cF (by omega), cF (by omega), show (2 : Int) = ((2 : Nat) : Int) from rfl, g63 hs hn (by omega) (by omega) (by omega), Option.bind_some, g84 (by rw [stream_length hs hn]) (by omega) (by omega), Option.bind_some]
  show ((F60 (k + 2) s nonce head (cip s nonce text)).bind _) = _
  rw [g60 hs hn ha (by omega) (by omega), Option.bind_some]
  show guardP ((cip s nonce text).length + _ ≤ maxText) _ = _
  rw [gp (by rw [hc, tag_length hs hn]; unfold maxText; omega)]
  rfl
theorem g33n {k : Nat} {s nonce head text : List UInt8} (h : ¬(may s nonce = true ∧ head.length ≤ 4096 ∧ text.length ≤ 4096)) : F33 k s nonce head text = some ([], 4) := by
  unfold F33
  rw [g58, Option.bind_some]
  cases hm : may s nonce with
  | false => rw [Bool.not_false, cond_true]
  | true =>
    rw [Bool.not_true, cond_false]
    by_cases h1 : 4096 < head.length
    · rw [cT (by omega)]
    · rw [cF (by omega), cT (by have : ¬(text.length ≤ 4096) := fun h2 => h ⟨hm, by omega, h2⟩; omega)]
def openS (s nonce head sealed : List UInt8) : Option (List UInt8) :=
  if tagS s nonce head (sealed.take (sealed.length - 16)) = sealed.drop (sealed.length - 16) then some (cip s nonce (sealed.take (sealed.length - 16))) else none
theorem g39 {k : Nat} {s nonce head sealed : List UInt8} (h : may s nonce = true) (ha : head.length ≤ 80) (h1 : 16 ≤ sealed.length) (hb : sealed.length ≤ 90) (hk : 7000 ≤ k) :
    F39 k s nonce head sealed = some (match openS s nonce head sealed with | some t => (t, 0) | none => ([], 5)) := by
  obtain ⟨hs, hn⟩ := may_iff.1 h
  have hl : (sealed.take (sealed.length - 16)).length = sealed.length - 16 := by rw [List.length_take]; omega
  unfold F39
  rw [g58, h, Option.bind_some, Bool.not_true, cond_false, cF (by omega), wi (n := (sealed.length : Int) - 16) (by omega) (by omega), cF (by omega), cF (by omega), gp (by omega), show ((sealed.length : Int) - 16).toNat = sealed.length - 16 by omega, g60 hs hn ha (by omega) (by omega), Option.bind_some]
  unfold openS
  by_cases ht : tagS s nonce head (sealed.take (sealed.length - 16)) = sealed.drop (sealed.length - 16)
  · rw [cNT ht, if_pos ht, show (sealed.length : Int) - 16 = ((sealed.length - 16 : Nat) : Int) by omega, show (2 : Int) = ((2 : Nat) : Int) from rfl, g63 hs hn (by omega) (by omega) (by omega), Option.bind_some, g84 (by rw [stream_length hs hn, hl]) (by omega) (by omega), Option.bind_some]
    unfold cip
    rw [hl]
  · rw [cNF ht, if_neg ht]
theorem g39n {k : Nat} {s nonce head sealed : List UInt8} (hl : sealed.length < 9223372036854775808) (h : ¬(may s nonce = true ∧ head.length ≤ 4096 ∧ 16 ≤ sealed.length ∧ sealed.length ≤ 4112)) : F39 k s nonce head sealed = some ([], 4) := by
  unfold F39
  rw [g58, Option.bind_some]
  cases hm : may s nonce with
  | false => rw [Bool.not_false, cond_true]
  | true =>
    rw [Bool.not_true, cond_false]
    by_cases h1 : 4096 < head.length
    · rw [cT (by omega)]
    · rw [cF (by omega), wi (n := (sealed.length : Int) - 16) (by omega) (by omega)]
      by_cases h2 : sealed.length < 16
      · rw [cT (by omega)]
      · rw [cF (by omega), cT (by have : ¬(sealed.length ≤ 4112) := fun h3 => h ⟨hm, by omega, by omega, h3⟩; omega)]
theorem aes_alive : (aes ZERO ([0, 0, 0, 0, 0, 0, 0, 0, 0, 0, 0, 0] ++ ctr 1)).take 2 = [88, 226] := by kernel_rfl
end Go.Proofs.Gc
