/-
  Fields as bytes, plainly.
-/
import Derived.Test.YtegmincienhapaaDoorCd5
import Derived.Test.YtegmincienhapaaDoorCdA
set_option linter.unusedVariables false
set_option linter.unusedSimpArgs false
set_option maxRecDepth 100000
namespace Go.Proofs
open Go Go.Sym

def lw (s : List UInt8) : Wd := BitVec.ofNat 64 s.length
structure Fd where
  t : Bool
  n : Wd
  s : List UInt8
def fv (f : Fd) : V := V.agg [V.bool f.t, V.int .u64 (f.n.toNat : Int), V.str f.s]
def textB (s : List UInt8) : List UInt8 := lowN (lw s) 2 ++ s
def oneB (f : Fd) : List UInt8 := if f.t then textB f.s else lowN f.n 8
def Fd.long (f : Fd) : Bool := f.t && decide (4096 < f.s.length)
theorem lowN_length (w : Wd) (m : Nat) : (lowN w m).length = m := by simp [lowN]
theorem textB_length (s : List UInt8) : (textB s).length = 2 + s.length := by simp [textB, lowN_length]
theorem u_len {s : List UInt8} (h : s.length ≤ 4096) : IntKind.u64.wrap (s.length : Int) = ((lw s).toNat : Int) := by
  rw [wu (by omega) (by omega)]; unfold lw; rw [BitVec.toNat_ofNat, Nat.mod_eq_of_lt (by omega)]
theorem dfv (f : Fd) : dAbu64sZ (fv f) = some (f.t, (f.n.toNat : Int), f.s) := rfl
theorem at_fv {l : List Fd} {i : Nat} (h : i < l.length) : (at? (l.map fv) (i : Int)).bind dAbu64sZ = some (l[i].t, (l[i].n.toNat : Int), l[i].s) := by
  rw [at_map h, Option.bind_some, dfv]
theorem g24 {k : Nat} {s : List UInt8} (hk : 10 ≤ k) : F24 k s = some (if 4096 < s.length then ([], 4) else (textB s, 0)) := by
  unfold F24
  by_cases h : 4096 < s.length
  · rw [cT (by omega), if_pos h]
  · rw [cF (by omega), if_neg h, u_len (by omega), show (2 : Int) = ((2 : Nat) : Int) from rfl, g40 (by omega) (by omega), Option.bind_some, gp (by rw [lowN_length]; unfold maxText; omega)]
    rfl
theorem oneB_len {f : Fd} (h : f.long = false) : (oneB f).length ≤ 4098 := by
  unfold oneB
  unfold Fd.long at h
  cases ht : f.t with
  | false => rw [if_neg (by simp), lowN_length]; omega
  | true =>
    rw [ht, Bool.true_and, decide_eq_false_iff_not] at h
    rw [if_pos rfl, textB_length]; omega
def is10 : L10_0_R → List UInt8 × Int
  | .e0 _ _ i2 _ _ _ _ => ([], i2)
  | .e1 _ s => (s, 0)
theorem drop_cons {α : Type} {l : List α} {i : Nat} (h : i < l.length) : l.drop i = l[i] :: l.drop (i + 1) := List.drop_eq_getElem_cons h
theorem L10_run {k : Nat} {b : Bool} {o : Option Bool} {l : List Fd} (hl : l.length ≤ 100) (hk : 20 ≤ k) : ∀ (c i f : Nat) (out : List UInt8), l.length - i = c → i ≤ l.length → c < f → out.length ≤ i * 4098 →
    ∃ r, L10_0 k b (l.map fv) o 3 f (i : Int) out = some r ∧ is10 r = if (l.drop i).any Fd.long then ([], 4) else (out ++ (l.drop i).flatMap oneB, 0) := by
  intro c
  induction c with
  | zero =>
    intro i f out hc hi hf ho
    obtain ⟨f, rfl⟩ : ∃ y, f = y + 1 := ⟨f - 1, by omega⟩
    rw [L10_0, List.length_map, cF (by omega), List.drop_eq_nil_of_le (by omega)]
    exact ⟨_, rfl, by simp [is10]⟩
  | succ c ih =>
    intro i f out hc hi hf ho
    obtain ⟨f, rfl⟩ : ∃ y, f = y + 1 := ⟨f - 1, by omega⟩
    have hi' : i < l.length := by omega
    rw [L10_0, List.length_map, cT (by omega), gp rfl, at_fv hi', Option.bind_some, drop_cons hi']
    simp only
    have hw : IntKind.i64.wrap ((i : Int) + 1) = ((i + 1 : Nat) : Int) := by rw [wi (by omega) (by omega)]; omega
    rw [hw]
    rw [List.any_cons, List.flatMap_cons]
    have key : ∀ x, oneB l[i] = x → l[i].long = false → ∃ r, (guardP (out.length + x.length ≤ maxBld) (L10_0 k b (l.map fv) o 3 f ((i + 1 : Nat) : Int) (out ++ x))) = some r ∧ is10 r = if (l[i].long || (l.drop (i + 1)).any Fd.long) = true then ([], 4) else (out ++ (oneB l[i] ++ (l.drop (i + 1)).flatMap oneB), 0) := by
      intro x hx hlong
      have h1 := oneB_len hlong
      rw [hx] at h1
      obtain ⟨r, hr, hs⟩ := ih (i + 1) f (out ++ x) (by omega) (by omega) (by omega) (by rw [List.length_append]; omega)
      refine ⟨r, ?_, ?_⟩
      · rw [gp (by unfold maxBld; omega)]; exact hr
      · rw [hs, hlong, Bool.false_or, hx, List.append_assoc]
    cases ht : l[i].t with
    | false =>
      simp only [Bool.not_false, cond_true]
      rw [g22 (by omega), Option.bind_some]
      exact key _ (by unfold oneB; rw [ht]; rfl) (by unfold Fd.long; rw [ht]; rfl)
    | true =>
      simp only [Bool.not_true, cond_false]
      rw [g24 (by omega), Option.bind_some]
      by_cases h : 4096 < l[i].s.length
      · have hlong : l[i].long = true := by unfold Fd.long; rw [ht]; simp [h]
        rw [if_pos h, hlong]
        exact ⟨_, rfl, rfl⟩
      · have hlong : l[i].long = false := by unfold Fd.long; rw [ht]; simp [h]
        rw [if_neg h]
        simp only
        rw [cNT trivial]
        exact key _ (by unfold oneB; rw [ht]; rfl) hlong
theorem g10 {k : Nat} {b : Bool} {o : Option Bool} {l : List Fd} (hl : l.length ≤ 100) (hk : 200 ≤ k) : F10 k o b 3 (l.map fv) = some (if l.any Fd.long then ([], 4) else (l.flatMap oneB, 0)) := by
  unfold F10
  obtain ⟨r, hr, hs⟩ := L10_run (k := k) (b := b) (o := o) hl (by omega) l.length 0 (k + 8) [] (by omega) (by omega) (by omega) (by simp)
  rw [show ((0 : Nat) : Int) = 0 from rfl] at hr
  rw [hr, Option.bind_some]
  rw [List.drop_zero, List.nil_append] at hs
  rw [← hs]
  cases r <;> rfl
end Go.Proofs
