/-
  Maps of bits, plainly, third part: the reference's answer whether one may be; two that are the same; new ones.
-/
import Derived.Test.YtpnpneffbkdomaaBmB
set_option linter.unusedVariables false
set_option linter.unusedSimpArgs false
set_option maxRecDepth 100000
namespace Go.Proofs
open Go Go.Sym

theorem L32_5_run {k : Nat} {N fl : Int} {b : Bool} {o : Option Bool} {ws : List Wd} (hl : ws.length ≤ 1000) (hk : 1000 ≤ k) : ∀ (r i f : Nat), 64 * ws.length - i = r → i ≤ 64 * ws.length → r < f →
    ((∀ j : Nat, j < 64 * ws.length → i ≤ j → takenB ws j = true) ∧ ∃ z, L32_5 k N fl b (ws.map uw) o 1 f (i : Int) = some (.e1 z)) ∨ ((¬∀ j : Nat, j < 64 * ws.length → i ≤ j → takenB ws j = true) ∧ ∃ z, L32_5 k N fl b (ws.map uw) o 1 f (i : Int) = some (.e0 z)) := by
  intro r
  induction r with
  | zero =>
    intro i f hr hi hf
    obtain ⟨f, rfl⟩ : ∃ g, f = g + 1 := ⟨f - 1, by omega⟩
    refine .inl ⟨fun j h1 h2 => by omega, (i : Int), ?_⟩
    rw [L32_5, List.length_map, wi (by omega) (by omega), cF (by omega)]
  | succ r ih =>
    intro i f hr hi hf
    obtain ⟨f, rfl⟩ : ∃ g, f = g + 1 := ⟨f - 1, by omega⟩
    rw [L32_5, List.length_map, wi (n := 64 * (ws.length : Int)) (by omega) (by omega), cT (by omega), g39 hl (by omega) (by omega), Option.bind_some]
    cases ht : takenB ws i
    · refine .inr ⟨fun h => ?_, (i : Int), rfl⟩
      rw [h i (by omega) (Nat.le_refl _)] at ht; cases ht
    · simp only [Bool.not_true, cond_false]
      rw [wi (n := (i : Int) + 1) (by omega) (by omega), show ((i : Int) + 1) = ((i + 1 : Nat) : Int) by omega]
      rcases ih (i + 1) f (by omega) (by omega) (by omega) with ⟨h, z, hz⟩ | ⟨h, z, hz⟩
      · refine .inl ⟨fun j h1 h2 => ?_, z, hz⟩
        rcases Nat.lt_or_ge i j with h3 | h3
        · exact h j h1 h3
        · obtain rfl : i = j := by omega
          exact ht
      · exact .inr ⟨fun hh => h fun j h1 h2 => hh j h1 (by omega), z, hz⟩

theorem L32_6_run {k : Nat} {N a : Int} {fl : Wd} {b : Bool} {o : Option Bool} {ws : List Wd} (hl : ws.length ≤ 1000) (hk : 1000 ≤ k) : ∀ (r i f : Nat), 64 - i = r → i ≤ 64 → r < f →
    ((∀ j : Nat, j < 64 → i ≤ j → fl.getLsbD j = decide (ws[j]? = some (BitVec.allOnes 64))) ∧ ∃ z, L32_6 k N (fl.toNat : Int) a b (ws.map uw) o 1 f (i : Int) = some (.e2 z)) ∨
    ((¬∀ j : Nat, j < 64 → i ≤ j → fl.getLsbD j = decide (ws[j]? = some (BitVec.allOnes 64))) ∧ ((∃ z, L32_6 k N (fl.toNat : Int) a b (ws.map uw) o 1 f (i : Int) = some (.e0 z)) ∨ ∃ z, L32_6 k N (fl.toNat : Int) a b (ws.map uw) o 1 f (i : Int) = some (.e1 z))) := by
  intro r
  induction r with
  | zero =>
    intro i f hr hi hf
    obtain ⟨f, rfl⟩ : ∃ g, f = g + 1 := ⟨f - 1, by omega⟩
    refine .inl ⟨fun j h1 h2 => by omega, (i : Int), ?_⟩
    rw [L32_6, cF (by omega)]
  | succ r ih =>
    intro i f hr hi hf
    obtain ⟨f, rfl⟩ : ∃ g, f = g + 1 := ⟨f - 1, by omega⟩
    have go : fl.getLsbD i = decide (ws[i]? = some (BitVec.allOnes 64)) → _ := fun he => show (((∀ j : Nat, j < 64 → i ≤ j → fl.getLsbD j = decide (ws[j]? = some (BitVec.allOnes 64))) ∧ ∃ z, L32_6 k N (fl.toNat : Int) a b (ws.map uw) o 1 f ((i + 1 : Nat) : Int) = some (.e2 z)) ∨
      ((¬∀ j : Nat, j < 64 → i ≤ j → fl.getLsbD j = decide (ws[j]? = some (BitVec.allOnes 64))) ∧ ((∃ z, L32_6 k N (fl.toNat : Int) a b (ws.map uw) o 1 f ((i + 1 : Nat) : Int) = some (.e0 z)) ∨ ∃ z, L32_6 k N (fl.toNat : Int) a b (ws.map uw) o 1 f ((i + 1 : Nat) : Int) = some (.e1 z)))) from by
        rcases ih (i + 1) f (by omega) (by omega) (by omega) with ⟨h, h2⟩ | ⟨h, h2⟩
        · refine .inl ⟨fun j h1 h3 => ?_, h2⟩
          rcases Nat.lt_or_ge i j with h4 | h4
          · exact h j h1 h4
          · obtain rfl : i = j := by omega
            exact he
        · exact .inr ⟨fun hh => h fun j h1 h3 => hh j h1 (by omega), h2⟩
    rw [L32_6, cT (by omega), g72 (by omega) (by omega), Option.bind_some, List.length_map]
    by_cases h1 : i < ws.length
    · have e1 : ws[i]? = some ws[i] := List.getElem?_eq_getElem h1
      have e2 : F73 (k + 5) (ws[i].toNat : Int) = some (decide (ws[i] = BitVec.allOnes 64)) := by
        unfold F73; congr 1; congr 1; exact propext (eq_all _)
      rw [cT (by omega), gp rfl, at_uw h1, Option.bind_some, e2, Option.bind_some]
      by_cases he : fl.getLsbD i = decide (ws[i] = BitVec.allOnes 64)
      · rw [cNT he, wi (n := (i : Int) + 1) (by omega) (by omega), show ((i : Int) + 1) = ((i + 1 : Nat) : Int) by omega]
        refine go ?_
        rw [he, e1]; simp
      · rw [cNF he]
        refine .inr ⟨fun h => he ?_, .inl ⟨(i : Int), rfl⟩⟩
        have := h i (by omega) (Nat.le_refl _)
        rw [e1] at this
        simpa using this
    · have e1 : ws[i]? = none := List.getElem?_eq_none (by omega)
      rw [cF (by omega)]
      by_cases he : fl.getLsbD i = false
      · rw [cNT he, wi (n := (i : Int) + 1) (by omega) (by omega), show ((i : Int) + 1) = ((i + 1 : Nat) : Int) by omega]
        refine go ?_
        rw [he, e1]; simp
      · rw [cNF he]
        refine .inr ⟨fun h => he ?_, .inr ⟨(i : Int), rfl⟩⟩
        have := h i (by omega) (Nat.le_refl _)
        rw [e1] at this
        simpa using this

theorem fullW_eq {fl : Wd} {ws : List Wd} : fl = fullW ws ↔ ∀ j : Nat, j < 64 → 0 ≤ j → fl.getLsbD j = decide (ws[j]? = some (BitVec.allOnes 64)) := by
  constructor
  · rintro rfl j hj _
    rw [fullW_bit, decide_eq_true hj, Bool.true_and]
  · intro h
    apply BitVec.eq_of_getLsbD_eq
    intro j hj
    rw [h j hj (Nat.zero_le _), fullW_bit, decide_eq_true hj, Bool.true_and]

theorem g32 {k : Nat} {N : Int} {o : Option Bool} {b : Bool} {ws : List Wd} {fl : Wd} (hN : -9223372036854775808 ≤ N) (hN2 : N < 9223372036854775808) (hl : ws.length ≤ 1000) (hk : 1000 ≤ k) :
    F32 k N o b 1 (ws.map uw) (fl.toNat : Int) = some (rightB N ws fl) := by
  unfold F32 rightB
  by_cases h1 : N < 1
  · rw [cT h1, dec_f (fun h => by omega)]
  by_cases h2 : 4096 < N
  · rw [cF h1, cT h2, dec_f (fun h => by omega)]
  obtain ⟨n, rfl⟩ : ∃ n : Nat, N = n := ⟨N.toNat, by omega⟩
  rw [cF h1, cF h2, List.length_map, wi (n := 64 * (ws.length : Int)) (by omega) (by omega), wi (n := (n : Int) + 64) (by omega) (by omega), Int.toNat_natCast]
  by_cases h3 : 64 * (ws.length : Int) < n
  · rw [cT h3, dec_f (fun h => by omega)]
  by_cases h4 : (n : Int) + 64 ≤ 64 * (ws.length : Int)
  · rw [cF h3, cT h4, dec_f (fun h => by omega)]
  rw [cF h3, cF h4]
  have hlen : (ws.length : Int) = ((n + 63) / 64 : Nat) := by omega
  rcases L32_5_run (k := k) (N := n) (fl := (fl.toNat : Int)) (b := b) (o := o) hl hk (64 * ws.length - n) n (k + 8) rfl (by omega) (by omega) with ⟨h5, z, hz⟩ | ⟨h5, z, hz⟩
  · rw [hz, Option.bind_some]
    simp only
    rcases L32_6_run (k := k) (N := n) (a := z) (fl := fl) (b := b) (o := o) hl hk 64 0 (k + 8) rfl (by omega) (by omega) with ⟨h6, y, hy⟩ | ⟨h6, h7⟩
    · rw [show ((0 : Nat) : Int) = 0 from rfl] at hy
      rw [hy, Option.bind_some]
      simp only [Option.some.injEq]
      rw [dec_t]
      exact ⟨by omega, by omega, hlen, fullW_eq.2 h6, h5⟩
    · rw [dec_f (fun h => h6 (fullW_eq.1 h.2.2.2.1))]
      rw [show ((0 : Nat) : Int) = 0 from rfl] at h7
      rcases h7 with ⟨y, hy⟩ | ⟨y, hy⟩
      · rw [hy]; rfl
      · rw [hy]; rfl
  · rw [hz, dec_f (fun h => h5 h.2.2.2.2)]; rfl

/-! ### The same -/
theorem drop_cons {α : Type} {l : List α} {i : Nat} (h : i < l.length) : l.drop i = l[i] :: l.drop (i + 1) := List.drop_eq_getElem_cons h
theorem L34_7_run {k : Nat} {a0 a1 a2 a3 : Int} {b c : Bool} {o p : Option Bool} {ws vs : List Wd} (hl : ws.length ≤ 1000) (he : ws.length = vs.length) : ∀ (r i f : Nat), ws.length - i = r → i ≤ ws.length → r < f →
    (ws.drop i = vs.drop i ∧ ∃ z, L34_7 k a0 a1 a2 a3 b c (ws.map uw) (vs.map uw) o p 1 1 f (i : Int) = some (.e1 z)) ∨ (ws.drop i ≠ vs.drop i ∧ ∃ z, L34_7 k a0 a1 a2 a3 b c (ws.map uw) (vs.map uw) o p 1 1 f (i : Int) = some (.e0 z)) := by
  intro r
  induction r with
  | zero =>
    intro i f hr hi hf
    obtain ⟨f, rfl⟩ : ∃ g, f = g + 1 := ⟨f - 1, by omega⟩
    refine .inl ⟨by rw [List.drop_eq_nil_of_le (by omega), List.drop_eq_nil_of_le (by omega)], (i : Int), ?_⟩
    rw [L34_7, List.length_map, cF (by omega)]
  | succ r ih =>
    intro i f hr hi hf
    obtain ⟨f, rfl⟩ : ∃ g, f = g + 1 := ⟨f - 1, by omega⟩
    have h1 : i < ws.length := by omega
    have h2 : i < vs.length := by omega
    rw [L34_7, List.length_map, cT (by omega), gp rfl, at_uw h1, Option.bind_some, gp rfl, at_uw h2, Option.bind_some, drop_cons h1, drop_cons h2]
    by_cases hd : ws[i] = vs[i]
    · rw [cNT ((eq_w _ _).2 hd), wi (n := (i : Int) + 1) (by omega) (by omega), show ((i : Int) + 1) = ((i + 1 : Nat) : Int) by omega, hd]
      rcases ih (i + 1) f (by omega) (by omega) (by omega) with ⟨h, h3⟩ | ⟨h, h3⟩
      · exact .inl ⟨by rw [h], h3⟩
      · exact .inr ⟨fun e => h (List.cons.inj e).2, h3⟩
    · rw [cNF (fun e => hd ((eq_w _ _).1 e))]
      exact .inr ⟨fun e => hd (List.cons.inj e).1, (i : Int), rfl⟩
def sameB (N : Int) (ws : List Wd) (fl : Wd) (M : Int) (vs : List Wd) (gl : Wd) : Bool := decide (N = M ∧ ws = vs ∧ fl = gl)
theorem g34 {k : Nat} {N M : Int} {o p : Option Bool} {b c : Bool} {ws vs : List Wd} {fl gl : Wd} (hl : ws.length ≤ 1000) (hk : 1000 ≤ k) :
    F34 k N o b 1 (ws.map uw) (fl.toNat : Int) M p c 1 (vs.map uw) (gl.toNat : Int) = some (sameB N ws fl M vs gl) := by
  unfold F34 sameB
  by_cases h1 : N = M
  case neg => rw [cNF h1, dec_f (fun h => h1 h.1)]
  by_cases h2 : fl = gl
  case neg => rw [cNT h1, cNF (fun h => h2 ((eq_w _ _).1 h)), dec_f (fun h => h2 h.2.2)]
  rw [cNT h1, cNT ((eq_w _ _).2 h2), List.length_map, List.length_map]
  by_cases h3 : ws.length = vs.length
  case neg => rw [cNF (by omega), dec_f (fun h => h3 (by rw [h.2.1]))]
  rw [cNT (by omega)]
  rcases L34_7_run (k := k) (a0 := N) (a1 := (fl.toNat : Int)) (a2 := M) (a3 := (gl.toNat : Int)) (b := b) (c := c) (o := o) (p := p) hl h3 ws.length 0 (k + 2) (by omega) (by omega) (by omega) with ⟨h, z, hz⟩ | ⟨h, z, hz⟩
  · rw [show ((0 : Nat) : Int) = 0 from rfl] at hz
    rw [hz, dec_t ⟨h1, by simpa using h, h2⟩]; rfl
  · rw [show ((0 : Nat) : Int) = 0 from rfl] at hz
    rw [hz, dec_f (fun hh => h (by rw [hh.2.1]))]; rfl
theorem L74_1_run {k : Nat} {b c : Bool} {o p : Option Bool} {ws vs : List Wd} (hl : ws.length ≤ 1000) (he : ws.length = vs.length) : ∀ (r i f : Nat), ws.length - i = r → i ≤ ws.length → r < f →
    (ws.drop i = vs.drop i ∧ ∃ z, L74_1 k b c (ws.map uw) (vs.map uw) o p 1 1 f (i : Int) = some (.e1 z)) ∨ (ws.drop i ≠ vs.drop i ∧ ∃ z, L74_1 k b c (ws.map uw) (vs.map uw) o p 1 1 f (i : Int) = some (.e0 z)) := by
  intro r
  induction r with
  | zero =>
    intro i f hr hi hf
    obtain ⟨f, rfl⟩ : ∃ g, f = g + 1 := ⟨f - 1, by omega⟩
    refine .inl ⟨by rw [List.drop_eq_nil_of_le (by omega), List.drop_eq_nil_of_le (by omega)], (i : Int), ?_⟩
    rw [L74_1, List.length_map, cF (by omega)]
  | succ r ih =>
    intro i f hr hi hf
    obtain ⟨f, rfl⟩ : ∃ g, f = g + 1 := ⟨f - 1, by omega⟩
    have h1 : i < ws.length := by omega
    have h2 : i < vs.length := by omega
    rw [L74_1, List.length_map, cT (by omega), gp rfl, at_uw h1, Option.bind_some, gp rfl, at_uw h2, Option.bind_some, drop_cons h1, drop_cons h2]
    by_cases hd : ws[i] = vs[i]
    · rw [cNT ((eq_w _ _).2 hd), wi (n := (i : Int) + 1) (by omega) (by omega), show ((i : Int) + 1) = ((i + 1 : Nat) : Int) by omega, hd]
      rcases ih (i + 1) f (by omega) (by omega) (by omega) with ⟨h, h3⟩ | ⟨h, h3⟩
      · exact .inl ⟨by rw [h], h3⟩
      · exact .inr ⟨fun e => h (List.cons.inj e).2, h3⟩
    · rw [cNF (fun e => hd ((eq_w _ _).1 e))]
      exact .inr ⟨fun e => hd (List.cons.inj e).1, (i : Int), rfl⟩
theorem g74 {k : Nat} {o p : Option Bool} {b c : Bool} {ws vs : List Wd} (hl : ws.length ≤ 1000) (hk : 1000 ≤ k) : F74 k o b 1 (ws.map uw) p c 1 (vs.map uw) = some (decide (ws = vs)) := by
  unfold F74
  rw [List.length_map, List.length_map]
  by_cases h3 : ws.length = vs.length
  case neg => rw [cNF (by omega), dec_f (fun h => h3 (by rw [h]))]
  rw [cNT (by omega)]
  rcases L74_1_run (k := k) (b := b) (c := c) (o := o) (p := p) hl h3 ws.length 0 (k + 2) (by omega) (by omega) (by omega) with ⟨h, z, hz⟩ | ⟨h, z, hz⟩
  · rw [show ((0 : Nat) : Int) = 0 from rfl] at hz
    rw [hz, dec_t (by simpa using h)]; rfl
  · rw [show ((0 : Nat) : Int) = 0 from rfl] at hz
    rw [hz, dec_f (fun hh => h (by rw [hh]))]; rfl
theorem g33 {k : Nat} {N M : Int} {o p : Option Bool} {b c : Bool} {ws vs : List Wd} {fl gl : Wd} (hl : ws.length ≤ 1000) (hk : 1000 ≤ k) :
    F33 k N o b 1 (ws.map uw) (fl.toNat : Int) M p c 1 (vs.map uw) (gl.toNat : Int) = some (sameB N ws fl M vs gl) := by
  unfold F33 sameB
  by_cases h1 : N = M
  case neg => rw [cF h1, dec_f (fun h => h1 h.1)]
  rw [cT h1, g74 hl (by omega), Option.bind_some]
  by_cases h2 : ws = vs
  case neg => rw [cF h2, dec_f (fun h => h2 h.2.1)]
  rw [cT h2]
  congr 2
  apply propext
  rw [eq_w]
  exact ⟨fun h => ⟨h1, h2, h⟩, fun h => h.2.2⟩
end Go.Proofs
