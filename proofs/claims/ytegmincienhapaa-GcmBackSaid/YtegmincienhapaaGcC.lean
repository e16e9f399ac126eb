/- DERIVED. A text of nothing sealed. -/
import Derived.Test.YtegmincienhapaaGcB
set_option linter.unusedVariables false
set_option linter.unusedSimpArgs false
set_option maxRecDepth 1000000
namespace Go.Proofs.Gc
open Go Go.Sym Go.Sym.Gf Go.Proofs.Ae
def Z12 : List UInt8 := [0, 0, 0, 0, 0, 0, 0, 0, 0, 0, 0, 0]
theorem keyOk_Z : keyOk ZERO := .inl rfl
theorem sum_nothing (h : List UInt8) : sumL h [] [] = ZERO := by
  refine (zero_iff (sumL_length _ _ _)).2 ?_
  unfold sumL
  rw [el_unE]
  show gm (0#128 ^^^ el ZERO) (el h) = 0#128
  rw [el_zero, BitVec.xor_zero, gm_zero']
theorem xor_ZERO {s : List UInt8} (h : s.length = 16) : xorL ZERO s = s := by
  obtain ⟨c0, c1, c2, c3, c4, c5, c6, c7, c8, c9, c10, c11, c12, c13, c14, c15, rfl⟩ := len16 h
  simp [xorL, ZERO]
theorem stream_one {s n : List UInt8} {i : Nat} (h : keyOk s) (hn : n.length = 12) : stream s n i 16 = aes s (n ++ ctr i) := by
  have ha := aes_length h (show (n ++ ctr i).length = 16 by rw [List.length_append, ctr_length, hn])
  unfold stream
  rw [sl, if_pos (by simp), List.nil_append, sl, if_neg (by omega), List.take_of_length_le (by omega)]
theorem tag_nothing : tagS ZERO Z12 [] [] = aes ZERO (Z12 ++ ctr 1) := by
  unfold tagS
  rw [sum_nothing, stream_one keyOk_Z rfl, xor_ZERO (aes_length keyOk_Z rfl)]
theorem seal_nothing : sealS ZERO Z12 [] [] = aes ZERO (Z12 ++ ctr 1) := by
  unfold sealS
  rw [show cip ZERO Z12 [] = [] from rfl, List.nil_append, tag_nothing]
theorem g35 {k : Nat} (hk : 7000 ≤ k) : F35 k = some true := by
  unfold F35
  rw [show (16 : Int) = ((16 : Nat) : Int) from rfl, show (12 : Int) = ((12 : Nat) : Int) from rfl, g41 (k + 50) (by omega), Option.bind_some, g41 (k + 50) (by omega), Option.bind_some]
  have e : F33 (k + 2) (List.replicate 16 0) (List.replicate 12 0) [] [] = some (aes ZERO (Z12 ++ ctr 1), 0) := by
    rw [← seal_nothing]
    exact g33 (s := ZERO) (nonce := Z12) rfl (by simp) (by simp) (by omega)
  have hl := aes_length keyOk_Z (show (Z12 ++ ctr 1).length = 16 from rfl)
  have h2 := aes_alive
  have h2' : (aes ZERO (Z12 ++ ctr 1)).take 2 = [88, 226] := h2
  rw [e, Option.bind_some]
  generalize aes ZERO (Z12 ++ ctr 1) = x at hl h2'
  obtain ⟨c0, c1, c2, c3, c4, c5, c6, c7, c8, c9, c10, c11, c12, c13, c14, c15, rfl⟩ := len16 hl
  have e0 : c0 = 88 := by have := congrArg (fun l => l.getD 0 0) h2'; exact this
  have e1 : c1 = 226 := by have := congrArg (fun l => l.getD 1 0) h2'; exact this
  subst e0 e1
  rfl
end Go.Proofs.Gc
