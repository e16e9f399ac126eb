/- DERIVED. A block encrypted by the program. -/
import Derived.Test.YtegmincienhapaaAeE
set_option linter.unusedVariables false
set_option linter.unusedSimpArgs false
set_option maxRecDepth 1000000
namespace Go.Proofs.Ae
open Go Go.Sym Go.Proofs.Fl

theorem g75 {k : Nat} (c0 c1 c2 c3 c4 c5 c6 c7 c8 c9 c10 c11 c12 c13 c14 c15 : Int) : F75 k c0 c1 c2 c3 c4 c5 c6 c7 c8 c9 c10 c11 c12 c13 c14 c15 = some (c0, c5, c10, c15, c4, c9, c14, c3, c8, c13, c2, c7, c12, c1, c6, c11) := rfl
theorem L42r {k : Nat} {j1 j2 j3 j4 j5 j6 j7 j8 j9 j10 j11 j12 j13 j14 j15 j16 : Int} {t : List UInt8} {l : List (List UInt8)} (hl : l.length ≤ 100) (h16 : ∀ q ∈ l, q.length = 16) (hk : 1100 ≤ k) : ∀ (c i f : Nat) (st : List UInt8) (c0 c1 c2 c3 c4 c5 c6 c7 c8 c9 c10 c11 c12 c13 c14 c15 : UInt8), l.length - 1 - i = c → i + 1 ≤ l.length → c < f → st = [c0, c1, c2, c3, c4, c5, c6, c7, c8, c9, c10, c11, c12, c13, c14, c15] →
    ∃ (z : Int) (d0 d1 d2 d3 d4 d5 d6 d7 d8 d9 d10 d11 d12 d13 d14 d15 : UInt8), L42_0 k j1 j2 j3 j4 j5 j6 j7 j8 j9 j10 j11 j12 j13 j14 j15 j16 false t (l.map V.str) none 1 f (i : Int) (c0.toNat : Int) (c1.toNat : Int) (c2.toNat : Int) (c3.toNat : Int) (c4.toNat : Int) (c5.toNat : Int) (c6.toNat : Int) (c7.toNat : Int) (c8.toNat : Int) (c9.toNat : Int) (c10.toNat : Int) (c11.toNat : Int) (c12.toNat : Int) (c13.toNat : Int) (c14.toNat : Int) (c15.toNat : Int) = some (.e0 z (d0.toNat : Int) (d1.toNat : Int) (d2.toNat : Int) (d3.toNat : Int) (d4.toNat : Int) (d5.toNat : Int) (d6.toNat : Int) (d7.toNat : Int) (d8.toNat : Int) (d9.toNat : Int) (d10.toNat : Int) (d11.toNat : Int) (d12.toNat : Int) (d13.toNat : Int) (d14.toNat : Int) (d15.toNat : Int)) ∧ [d0, d1, d2, d3, d4, d5, d6, d7, d8, d9, d10, d11, d12, d13, d14, d15] = rounds (l.drop (i + 1)) st := by
  intro c
  induction c with
  | zero =>
    intro i f st c0 c1 c2 c3 c4 c5 c6 c7 c8 c9 c10 c11 c12 c13 c14 c15 hc hi hf hst
    obtain ⟨f, rfl⟩ : ∃ y, f = y + 1 := ⟨f - 1, by omega⟩
    refine ⟨(i : Int), c0, c1, c2, c3, c4, c5, c6, c7, c8, c9, c10, c11, c12, c13, c14, c15, ?_, ?_⟩
    · rw [L42_0, cF (by rw [List.length_drop, List.length_map, show Int.toNat 1 = 1 from rfl]; omega)]
    · rw [List.drop_eq_nil_of_le (by omega), hst]; rfl
  | succ c ih =>
    intro i f st c0 c1 c2 c3 c4 c5 c6 c7 c8 c9 c10 c11 c12 c13 c14 c15 hc hi hf hst
    obtain ⟨f, rfl⟩ : ∃ y, f = y + 1 := ⟨f - 1, by omega⟩
    have hi' : i + 1 < l.length := by omega
    obtain ⟨b0, b1, b2, b3, b4, b5, b6, b7, b8, b9, b10, b11, b12, b13, b14, b15, hb⟩ := len16 (h16 _ (List.getElem_mem hi'))
    have hat : (at? (List.drop (Int.toNat 1) (l.map V.str)) (i : Int)).bind dS = some [b0, b1, b2, b3, b4, b5, b6, b7, b8, b9, b10, b11, b12, b13, b14, b15] := by
      rw [← hb, show Int.toNat 1 = 1 from rfl, ← List.map_drop, at_map (by rw [List.length_drop]; omega), List.getElem_drop]
      show some l[1 + i] = some l[i + 1]
      congr 2; omega
    rw [List.drop_eq_getElem_cons hi', rounds, hst, hb]
    have hrd : ∀ (x : Bool) (u v : List UInt8), (l.drop (i + 1 + 1)).isEmpty = x → (bif (l.drop (i + 1 + 1)).isEmpty then u else v) = bif x then u else v := fun x u v e => by rw [e]
    by_cases hlast : i + 2 < l.length
    · have hne : (l.drop (i + 1 + 1)).isEmpty = false := by
        cases e : l.drop (i + 1 + 1) with
        | nil => have := congrArg List.length e; rw [List.length_drop] at this; simp at this; omega
        | cons _ _ => rfl
      obtain ⟨z, d0, d1, d2, d3, d4, d5, d6, d7, d8, d9, d10, d11, d12, d13, d14, d15, e, p⟩ := ih (i + 1) f (xorL (mixL (turnL (boxL [c0, c1, c2, c3, c4, c5, c6, c7, c8, c9, c10, c11, c12, c13, c14, c15]))) [b0, b1, b2, b3, b4, b5, b6, b7, b8, b9, b10, b11, b12, b13, b14, b15]) _ _ _ _ _ _ _ _ _ _ _ _ _ _ _ _ (by omega) (by omega) (by omega) rfl
      refine ⟨z, d0, d1, d2, d3, d4, d5, d6, d7, d8, d9, d10, d11, d12, d13, d14, d15, ?_, ?_⟩
      · rw [L42_0, cT (by rw [List.length_drop, List.length_map, show Int.toNat 1 = 1 from rfl]; omega), gp rfl, hat, Option.bind_some, g74 (by omega), Option.bind_some]
        simp only
        rw [g75, Option.bind_some]
        simp only
        rw [List.length_map, wi (n := (l.length : Int) - 2) (by omega) (by omega), cT (by omega), g76 (by omega), Option.bind_some]
        simp only
        rw [g73, Option.bind_some]
        simp only
        rw [wi (n := (i : Int) + 1) (by omega) (by omega), show (i : Int) + 1 = ((i + 1 : Nat) : Int) by omega]
        exact e
      · rw [hne, cond_false]; exact p
    · have he : l.drop (i + 1 + 1) = [] := List.drop_eq_nil_of_le (by omega)
      obtain ⟨z, d0, d1, d2, d3, d4, d5, d6, d7, d8, d9, d10, d11, d12, d13, d14, d15, e, p⟩ := ih (i + 1) f (xorL (turnL (boxL [c0, c1, c2, c3, c4, c5, c6, c7, c8, c9, c10, c11, c12, c13, c14, c15])) [b0, b1, b2, b3, b4, b5, b6, b7, b8, b9, b10, b11, b12, b13, b14, b15]) _ _ _ _ _ _ _ _ _ _ _ _ _ _ _ _ (by omega) (by omega) (by omega) rfl
      refine ⟨z, d0, d1, d2, d3, d4, d5, d6, d7, d8, d9, d10, d11, d12, d13, d14, d15, ?_, ?_⟩
      · rw [L42_0, cT (by rw [List.length_drop, List.length_map, show Int.toNat 1 = 1 from rfl]; omega), gp rfl, hat, Option.bind_some, g74 (by omega), Option.bind_some]
        simp only
        rw [g75, Option.bind_some]
        simp only
        rw [List.length_map, wi (n := (l.length : Int) - 2) (by omega) (by omega), cF (by omega), g73, Option.bind_some]
        simp only
        rw [wi (n := (i : Int) + 1) (by omega) (by omega), show (i : Int) + 1 = ((i + 1 : Nat) : Int) by omega]
        exact e
      · rw [he, List.isEmpty_nil, cond_true]
        rw [he] at p
        exact p
theorem arr16 {c0 c1 c2 c3 c4 c5 c6 c7 c8 c9 c10 c11 c12 c13 c14 c15 : UInt8} : (arr? ([c0, c1, c2, c3, c4, c5, c6, c7, c8, c9, c10, c11, c12, c13, c14, c15].map ub) 0 16).bind dAu8u8u8u8u8u8u8u8u8u8u8u8u8u8u8u8Z = some ((c0.toNat : Int), (c1.toNat : Int), (c2.toNat : Int), (c3.toNat : Int), (c4.toNat : Int), (c5.toNat : Int), (c6.toNat : Int), (c7.toNat : Int), (c8.toNat : Int), (c9.toNat : Int), (c10.toNat : Int), (c11.toNat : Int), (c12.toNat : Int), (c13.toNat : Int), (c14.toNat : Int), (c15.toNat : Int)) := rfl
theorem g42 {k : Nat} {s t : List UInt8} (h : keyOk s) (ht : t.length = 16) (hk : 1200 ≤ k) : F42 k s t = some (aes s t, 0) := by
  have hK := kN_cases h
  have hl := keys_length s
  have h16 : ∀ q ∈ keys s, q.length = 16 := fun q hq => keys_16 h hq
  obtain ⟨c0, c1, c2, c3, c4, c5, c6, c7, c8, c9, c10, c11, c12, c13, c14, c15, rfl⟩ := len16 ht
  obtain ⟨b0, b1, b2, b3, b4, b5, b6, b7, b8, b9, b10, b11, b12, b13, b14, b15, hb⟩ := len16 (h16 _ (List.getElem_mem (show 0 < (keys s).length by omega)))
  unfold F42
  rw [g70 h (by omega), Option.bind_some]
  show (bif !decide ((0 : Int) = 0) then _ else _) = _
  have e0 := str_at' (l := keys s) (i := 0) (by omega)
  rw [getD_lt (by omega), hb] at e0
  rw [cNT rfl, cNT (by rw [ht]; rfl), gp (by show 16 ≤ maxLen'; unfold maxLen'; omega), gp (by show 16 ≤ 16; omega)]
  show ((((arr? ([c0, c1, c2, c3, c4, c5, c6, c7, c8, c9, c10, c11, c12, c13, c14, c15].map ub) 0 16).bind dAu8u8u8u8u8u8u8u8u8u8u8u8u8u8u8u8Z)).bind _) = _
  rw [arr16, Option.bind_some]
  show guardP ((1 : Nat) = 1) _ = _
  rw [gp rfl, show (at? ((keys s).map V.str) 0) = at? ((keys s).map V.str) ((0 : Nat) : Int) from rfl, e0, Option.bind_some, g73, Option.bind_some]
  show guardP _ _ = _
  rw [gp (by rw [List.length_map]; omega)]
  obtain ⟨z, d0, d1, d2, d3, d4, d5, d6, d7, d8, d9, d10, d11, d12, d13, d14, d15, e, p⟩ := L42r (k := k) (j1 := (c0.toNat : Int)) (j2 := (c1.toNat : Int)) (j3 := (c2.toNat : Int)) (j4 := (c3.toNat : Int)) (j5 := (c4.toNat : Int)) (j6 := (c5.toNat : Int)) (j7 := (c6.toNat : Int)) (j8 := (c7.toNat : Int)) (j9 := (c8.toNat : Int)) (j10 := (c9.toNat : Int)) (j11 := (c10.toNat : Int)) (j12 := (c11.toNat : Int)) (j13 := (c12.toNat : Int)) (j14 := (c13.toNat : Int)) (j15 := (c14.toNat : Int)) (j16 := (c15.toNat : Int)) (t := [c0, c1, c2, c3, c4, c5, c6, c7, c8, c9, c10, c11, c12, c13, c14, c15]) (l := keys s) (by omega) h16 (by omega) ((keys s).length - 1) 0 (k + 36) (xorL [c0, c1, c2, c3, c4, c5, c6, c7, c8, c9, c10, c11, c12, c13, c14, c15] (keys s)[0]) _ _ _ _ _ _ _ _ _ _ _ _ _ _ _ _ (by omega) (by omega) (by omega) (by rw [hb]; rfl)
  have e' : L42_0 k (c0.toNat : Int) (c1.toNat : Int) (c2.toNat : Int) (c3.toNat : Int) (c4.toNat : Int) (c5.toNat : Int) (c6.toNat : Int) (c7.toNat : Int) (c8.toNat : Int) (c9.toNat : Int) (c10.toNat : Int) (c11.toNat : Int) (c12.toNat : Int) (c13.toNat : Int) (c14.toNat : Int) (c15.toNat : Int) false [c0, c1, c2, c3, c4, c5, c6, c7, c8, c9, c10, c11, c12, c13, c14, c15] ((keys s).map V.str) none 1 (k + 36) 0 ((c0 ^^^ b0).toNat : Int) ((c1 ^^^ b1).toNat : Int) ((c2 ^^^ b2).toNat : Int) ((c3 ^^^ b3).toNat : Int) ((c4 ^^^ b4).toNat : Int) ((c5 ^^^ b5).toNat : Int) ((c6 ^^^ b6).toNat : Int) ((c7 ^^^ b7).toNat : Int) ((c8 ^^^ b8).toNat : Int) ((c9 ^^^ b9).toNat : Int) ((c10 ^^^ b10).toNat : Int) ((c11 ^^^ b11).toNat : Int) ((c12 ^^^ b12).toNat : Int) ((c13 ^^^ b13).toNat : Int) ((c14 ^^^ b14).toNat : Int) ((c15 ^^^ b15).toNat : Int) = some (.e0 z (d0.toNat : Int) (d1.toNat : Int) (d2.toNat : Int) (d3.toNat : Int) (d4.toNat : Int) (d5.toNat : Int) (d6.toNat : Int) (d7.toNat : Int) (d8.toNat : Int) (d9.toNat : Int) (d10.toNat : Int) (d11.toNat : Int) (d12.toNat : Int) (d13.toNat : Int) (d14.toNat : Int) (d15.toNat : Int)) := e
  rw [e', Option.bind_some]
  have hr : List.map Sym.byteOf ((1 : Nat), List.take 16 (List.drop 0 ([d0, d1, d2, d3, d4, d5, d6, d7, d8, d9, d10, d11, d12, d13, d14, d15].map ub))).snd = aes s [c0, c1, c2, c3, c4, c5, c6, c7, c8, c9, c10, c11, c12, c13, c14, c15] := by
    show List.map Sym.byteOf ([d0, d1, d2, d3, d4, d5, d6, d7, d8, d9, d10, d11, d12, d13, d14, d15].map ub) = _
    rw [byteOf_ub, p]
    unfold aes aesT
    rw [getD_lt (by omega)]
  exact congrArg (fun x => some (x, (0 : Int))) hr
theorem aes_length {s t : List UInt8} (h : keyOk s) (ht : t.length = 16) : (aes s t).length = 16 := by
  have hK := kN_cases h
  have hl := keys_length s
  have h16 : ∀ q ∈ keys s, q.length = 16 := fun q hq => keys_16 h hq
  unfold aes aesT
  have q0 := h16 _ (List.getElem_mem (show 0 < (keys s).length by omega))
  exact rounds_length _ _ (fun q hq => h16 q (List.mem_of_mem_drop hq)) (by rw [getD_lt (by omega), xor_length (by omega), ht])
end Go.Proofs.Ae
