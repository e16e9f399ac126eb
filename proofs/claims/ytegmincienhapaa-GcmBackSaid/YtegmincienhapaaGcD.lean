/- DERIVED. What is sealed is opened; with one bit turned it is not. -/
import Derived.Test.YtegmincienhapaaGcC
import Derived.Test.YtegmincienhapaaGfB
set_option linter.unusedVariables false
set_option linter.unusedSimpArgs false
set_option maxRecDepth 1000000
namespace Go.Proofs.Gc
open Go Go.Sym Go.Sym.Gf Go.Proofs.Ae

theorem xorL_back {a b : List UInt8} (h : a.length = b.length) : xorL (xorL a b) b = a := by
  induction a generalizing b with
  | nil => rfl
  | cons x r ih =>
    cases b with
    | nil => cases h
    | cons y t =>
      show ((x ^^^ y) ^^^ y) :: xorL (xorL r t) t = x :: r
      rw [ih (by simpa using h), UInt8.xor_assoc, UInt8.xor_self, UInt8.xor_zero]
theorem xorL_inj {a b m : List UInt8} (ha : a.length = m.length) (hb : b.length = m.length) (h : xorL a m = xorL b m) : a = b := by
  rw [← xorL_back ha, h, xorL_back hb]
theorem cip_back {s n t : List UInt8} (h : keyOk s) (hn : n.length = 12) : cip s n (cip s n t) = t := by
  have hl := cip_length (text := t) h hn
  unfold cip at hl ⊢
  rw [hl, xorL_back (by rw [stream_length h hn])]
theorem seal_length {s n a t : List UInt8} (h : keyOk s) (hn : n.length = 12) : (sealS s n a t).length = t.length + 16 := by
  unfold sealS; rw [List.length_append, cip_length h hn, tag_length h hn]
theorem seal_take {s n a t : List UInt8} (h : keyOk s) (hn : n.length = 12) : (sealS s n a t).take t.length = cip s n t ∧ (sealS s n a t).drop t.length = tagS s n a (cip s n t) := by
  have hl := cip_length (text := t) h hn
  unfold sealS
  rw [← hl]
  exact ⟨List.take_left, List.drop_left⟩
theorem open_seal {s n a t : List UInt8} (h : keyOk s) (hn : n.length = 12) : openS s n a (sealS s n a t) = some t := by
  obtain ⟨e1, e2⟩ := seal_take (a := a) (t := t) h hn
  unfold openS
  rw [seal_length h hn, show t.length + 16 - 16 = t.length by omega, e1, e2, if_pos rfl, cip_back h hn]
theorem seal_open {s n a b u : List UInt8} (h : keyOk s) (hn : n.length = 12) (hu : openS s n a b = some u) : sealS s n a u = b := by
  unfold openS at hu
  split at hu
  · rename_i ht
    cases hu
    unfold sealS
    rw [cip_back h hn, ht, List.take_append_drop]
  · cases hu
theorem open_length {s n a b u : List UInt8} (h : keyOk s) (hn : n.length = 12) (hb : 16 ≤ b.length) (hu : openS s n a b = some u) : u.length + 16 = b.length := by
  have := seal_open h hn hu
  rw [← this, seal_length h hn]

theorem gm_ne {h x y : E} (hh : h ≠ 0#128) (hxy : x ≠ y) : gm x h ≠ gm y h := by
  intro e
  apply hxy
  have e2 : gm h (x ^^^ y) = 0#128 := by rw [gm_comm]; exact (gm_linL h x y).trans (by show gm x h ^^^ gm y h = _; rw [e, BitVec.xor_self])
  have e3 := no_div hh e2
  have : x ^^^ (x ^^^ y) = x ^^^ 0#128 := by rw [e3]
  rw [← BitVec.xor_assoc, BitVec.xor_self, BitVec.zero_xor, BitVec.xor_zero] at this
  exact this.symm
theorem xor_ne {x y z : E} (h : x ≠ y) : z ^^^ x ≠ z ^^^ y := by
  intro e
  apply h
  have : z ^^^ (z ^^^ x) = z ^^^ (z ^^^ y) := by rw [e]
  rw [← BitVec.xor_assoc, BitVec.xor_self, BitVec.zero_xor, ← BitVec.xor_assoc, BitVec.xor_self, BitVec.zero_xor] at this
  exact this
theorem sum_ne {h : E} (hh : h ≠ 0#128) (l : List (List UInt8)) : ∀ x y : E, x ≠ y → sumE h x l ≠ sumE h y l := by
  induction l with
  | nil => intro x y hxy; exact hxy
  | cons b r ih =>
    intro x y hxy
    refine ih _ _ (gm_ne hh ?_)
    rw [BitVec.xor_comm x, BitVec.xor_comm y]
    exact xor_ne hxy
theorem sum_apart {h : E} (hh : h ≠ 0#128) (p q : List (List UInt8)) {b c : List UInt8} (hbc : el b ≠ el c) : sumE h 0#128 (p ++ b :: q) ≠ sumE h 0#128 (p ++ c :: q) := by
  unfold sumE
  rw [List.foldl_append, List.foldl_append]
  exact sum_ne hh q _ _ (gm_ne hh (xor_ne hbc))
theorem nb_set (c : List UInt8) (p : Nat) (x : UInt8) : nb (c.set p x) = nb c := by unfold nb; rw [List.length_set]
theorem pad_set {c : List UInt8} {p : Nat} (hp : p < c.length) (x : UInt8) : pad (c.set p x) = (pad c).set p x := by
  unfold pad
  rw [nb_set, List.length_set, List.set_append_left _ _ hp]
theorem blk_set_ne {c : List UInt8} {p i : Nat} (hp : p < c.length) (x : UInt8) (hi : i ≠ p / 16) : blk (c.set p x) i = blk c i := by
  unfold blk
  rw [pad_set hp]
  by_cases h : p < 16 * i
  · rw [List.drop_set_of_lt h]
  · rw [List.drop_set, if_neg (by omega), List.take_set, List.set_eq_of_length_le (by rw [List.length_take]; omega)]
theorem blk_set_eq {c : List UInt8} {p : Nat} (hp : p < c.length) (x : UInt8) : blk (c.set p x) (p / 16) = (blk c (p / 16)).set (p - 16 * (p / 16)) x := by
  unfold blk
  rw [pad_set hp, List.drop_set, if_neg (by omega), List.take_set]
theorem blk_get {c : List UInt8} {p : Nat} (hp : p < c.length) : (blk c (p / 16))[p - 16 * (p / 16)]? = c[p]? := by
  unfold blk
  rw [List.getElem?_take_of_lt (by omega), List.getElem?_drop, show 16 * (p / 16) + (p - 16 * (p / 16)) = p by omega]
  unfold pad
  rw [List.getElem?_append_left hp]
theorem bks_set {c : List UInt8} {p : Nat} (hp : p < c.length) (x : UInt8) : bks (c.set p x) = (bks c).set (p / 16) (blk (c.set p x) (p / 16)) := by
  unfold bks blks
  rw [nb_set]
  apply List.ext_getElem?
  intro i
  rw [List.getElem?_set]
  by_cases h : p / 16 = i
  · subst h
    have : p / 16 < nb c := by unfold nb; omega
    rw [if_pos rfl, if_pos (by simp; exact this), List.getElem?_map, List.getElem?_range this]; rfl
  · rw [if_neg h, List.getElem?_map, List.getElem?_map]
    by_cases h2 : i < nb c
    · rw [List.getElem?_range h2]
      show some _ = some _
      rw [blk_set_ne hp x (fun e => h e.symm)]
    · rw [List.getElem?_eq_none (by simp; omega)]; rfl
theorem BL_set {a c : List UInt8} {p : Nat} (hp : p < c.length) (x : UInt8) (hx : c[p]? ≠ some x) : ∃ (P Q : List (List UInt8)) (b b' : List UInt8), BL a c = P ++ b :: Q ∧ BL a (c.set p x) = P ++ b' :: Q ∧ el b ≠ el b' := by
  have hj : p / 16 < nb c := by unfold nb; omega
  have hjl : p / 16 < (bks c).length := by rw [bks_length]; exact hj
  refine ⟨bks a ++ (bks c).take (p / 16), (bks c).drop (p / 16 + 1) ++ [lst a c], blk c (p / 16), blk (c.set p x) (p / 16), ?_, ?_, ?_⟩
  · have e : bks c = (bks c).take (p / 16) ++ blk c (p / 16) :: (bks c).drop (p / 16 + 1) := by
      have h1 : (bks c)[p / 16] = blk c (p / 16) := by
        have : (bks c)[p / 16]? = some (blk c (p / 16)) := by unfold bks blks; rw [List.getElem?_map, List.getElem?_range hj]; rfl
        rw [List.getElem?_eq_getElem hjl] at this
        exact Option.some.inj this
      rw [← h1, ← List.drop_eq_getElem_cons hjl, List.take_append_drop]
    unfold BL
    conv => lhs; rw [e]
    simp only [List.append_assoc, List.cons_append]
  · unfold BL
    rw [bks_set hp, List.set_eq_take_append_cons_drop, if_pos hjl]
    have hl : lst a (c.set p x) = lst a c := by unfold lst lw8; rw [List.length_set]
    rw [hl]
    simp only [List.append_assoc, List.cons_append]
  · intro e
    have h1 := el_inj (blk_length hj) (blk_length (s := c.set p x) (by rw [nb_set]; exact hj)) e
    have h2 := blk_get hp
    rw [h1, blk_set_eq hp, List.getElem?_set_self (by rw [blk_length hj]; omega)] at h2
    exact hx h2.symm

theorem open_odd {s n a t : List UInt8} {p : Nat} {x : UInt8} (h : keyOk s) (hn : n.length = 12) (hz : aes s ZERO ≠ ZERO) (hp : p < t.length + 16) (hx : (sealS s n a t)[p]? ≠ some x) :
    openS s n a ((sealS s n a t).set p x) = none := by
  obtain ⟨e1, e2⟩ := seal_take (a := a) (t := t) h hn
  have hl := seal_length (a := a) (t := t) h hn
  have hc := cip_length (text := t) h hn
  unfold openS
  rw [List.length_set, hl, show t.length + 16 - 16 = t.length by omega, List.take_set, List.drop_set]
  by_cases hpt : p < t.length
  · rw [if_pos hpt, e1, e2, if_neg]
    intro ht
    have hx' : (cip s n t)[p]? ≠ some x := by
      intro e
      apply hx
      unfold sealS
      rw [List.getElem?_append_left (by omega)]; exact e
    have h1 : sumL (aes s ZERO) a ((cip s n t).set p x) = sumL (aes s ZERO) a (cip s n t) := by
      unfold tagS at ht
      exact xorL_inj (by rw [sumL_length, stream_length h hn]) (by rw [sumL_length, stream_length h hn]) ht
    have h2 := congrArg el h1
    unfold sumL at h2
    rw [el_unE, el_unE] at h2
    obtain ⟨P, Q, b, b', q1, q2, hb⟩ := BL_set (a := a) (show p < (cip s n t).length by omega) x hx'
    rw [q1, q2] at h2
    refine sum_apart (h := el (aes s ZERO)) ?_ P Q hb h2.symm
    intro e0
    exact hz ((zero_iff (aes_length h rfl)).2 e0)
  · rw [if_neg hpt, e2, List.set_eq_of_length_le (by rw [e1, hc]; omega), e1, if_neg]
    intro ht
    apply hx
    have h1 : (tagS s n a (cip s n t))[p - t.length]? = some x := by
      have h2 : (tagS s n a (cip s n t))[p - t.length]? = ((tagS s n a (cip s n t)).set (p - t.length) x)[p - t.length]? := by rw [← ht]
      rw [List.getElem?_set_self (by rw [tag_length h hn]; omega)] at h2
      exact h2
    unfold sealS
    rw [List.getElem?_append_right (by omega), hc]
    exact h1
end Go.Proofs.Gc
