/-
  Spans, plainly: checks, ends, what touches; the reference of unions.
-/
import Derived.Test.YtloboanoionagaaUnB
import Derived.Test.YtloboanoionagaaSymPlain
import Derived.Test.YtloboanoionagaaUni
set_option linter.unusedVariables false
set_option linter.unusedSimpArgs false
set_option maxRecDepth 100000
namespace Go.Proofs.Un
open Go Go.Sym Go.Proofs.Uni

def B64 : Nat := 18446744073709551616
/-- Two numbers, as an element. -/
def sv (x : Nat × Nat) : V := V.agg [V.int .u64 (x.1 : Int), V.int .u64 (x.2 : Int)]
def chk (x : Nat × Nat) : Int := if x.2 = 0 then 1 else if B64 < x.1 + x.2 then 2 else 0
def en (x : Nat × Nat) : Nat × Nat := (x.1, x.1 + x.2 - 1)
def fits (x : Nat × Nat) : Prop := x.1 < B64 ∧ x.2 < B64
theorem chk_ok {x : Nat × Nat} (h : chk x = 0) : 0 < x.2 ∧ x.1 + x.2 ≤ B64 := by
  unfold chk at h
  split at h
  · cases h
  · split at h
    · cases h
    · omega
theorem um {n : Int} : IntKind.u64.wrap n = n % 18446744073709551616 := wu_mod n
theorem g12 {k : Nat} {x : Nat × Nat} (h : fits x) : F12 k (x.1 : Int) (x.2 : Int) = some (chk x) := by
  unfold F12 chk
  unfold fits B64 at h
  by_cases h0 : x.2 = 0
  · rw [cT (by omega), if_pos h0]
  · rw [cF (by omega), if_neg h0, um, um]
    unfold B64
    by_cases h1 : 18446744073709551616 < x.1 + x.2
    · rw [cT (by omega), if_pos h1]
    · rw [cF (by omega), if_neg h1]
theorem g10 {k : Nat} {x : Nat × Nat} (h : fits x) : F10 k (x.1 : Int) (x.2 : Int) = some (chk x) := by
  unfold F10 chk
  unfold fits B64 at h
  by_cases h0 : x.2 = 0
  · rw [cT (by omega), if_pos h0]
  · rw [cF (by omega), if_neg h0, um, um]
    unfold B64
    by_cases h1 : 18446744073709551616 < x.1 + x.2
    · rw [cT (by omega), if_pos h1]
    · rw [cF (by omega), if_neg h1]
theorem g13 {k : Nat} {x : Nat × Nat} (h : fits x) (hc : chk x = 0) : F13 k (x.1 : Int) (x.2 : Int) = some ((en x).2 : Int) := by
  obtain ⟨h1, h2⟩ := chk_ok hc
  unfold F13 en
  unfold fits B64 at h
  unfold B64 at h2
  rw [um, um]
  congr 1
  simp only
  omega
theorem g28 {k : Nat} {x : Nat × Nat} (h : fits x) (hc : chk x = 0) : F28 k (x.1 : Int) (x.2 : Int) = some (((en x).1 : Int), ((en x).2 : Int)) := by
  obtain ⟨h1, h2⟩ := chk_ok hc
  unfold F28 en
  unfold fits B64 at h
  unfold B64 at h2
  rw [um, um]
  congr 2
  simp only
  omega
def ofE (r : Nat × Nat) : Nat × Nat := (r.1, (r.2 - r.1 + 1) % B64)
theorem g30 {k : Nat} {r : Nat × Nat} (h : r.1 ≤ r.2) (h2 : r.2 < B64) : F30 k (r.1 : Int) (r.2 : Int) = some (((ofE r).1 : Int), ((ofE r).2 : Int)) := by
  unfold F30 ofE
  unfold B64 at *
  rw [um, um]
  congr 2
  simp only
  omega
theorem g22 {k : Nat} {r : Nat × Nat} (h : r.1 ≤ r.2) (h2 : r.2 < B64) : F22 k (r.1 : Int) (r.2 : Int) = some (((ofE r).1 : Int), ((ofE r).2 : Int)) := by
  unfold F22 ofE
  unfold B64 at *
  rw [um, um]
  congr 2
  simp only
  omega
theorem g42 {k : Nat} {r x : Nat × Nat} (hr : r.1 ≤ r.2) (hr2 : r.2 < B64) (h : fits x) (hc : chk x = 0) : F42 k (r.1 : Int) (r.2 : Int) (x.1 : Int) (x.2 : Int) = some (touches r (en x)) := by
  obtain ⟨h1, h2⟩ := chk_ok hc
  unfold F42
  rw [g13 h hc, Option.bind_some]
  have e1 : (en x).1 = x.1 := rfl
  have e2 : (en x).2 = x.1 + x.2 - 1 := rfl
  unfold touches
  rw [e1, e2]
  unfold fits at h
  unfold B64 at *
  by_cases c1 : r.2 < x.1
  · rw [cT (by omega), um, Bool.eq_iff_iff.2 (show (decide (((x.1 : Int) - (r.2 : Int)) % 18446744073709551616 = 1) = true) ↔ (decide (x.1 ≤ r.2 + 1) && decide (r.1 ≤ x.1 + x.2 - 1 + 1)) = true by
      rw [decide_eq_true_iff, Bool.and_eq_true, decide_eq_true_iff, decide_eq_true_iff]; omega)]
  · rw [cF (by omega)]
    by_cases c2 : x.1 + x.2 - 1 < r.1
    · rw [cT (by omega), um, Bool.eq_iff_iff.2 (show (decide (((r.1 : Int) - ((x.1 + x.2 - 1 : Nat) : Int)) % 18446744073709551616 = 1) = true) ↔ (decide (x.1 ≤ r.2 + 1) && decide (r.1 ≤ x.1 + x.2 - 1 + 1)) = true by
        rw [decide_eq_true_iff, Bool.and_eq_true, decide_eq_true_iff, decide_eq_true_iff]; omega)]
    · rw [cF (by omega), decide_eq_true (show x.1 ≤ r.2 + 1 by omega), decide_eq_true (show r.1 ≤ x.1 + x.2 - 1 + 1 by omega)]; rfl
theorem dsv (x : Nat × Nat) : dAu64u64Z (sv x) = some ((x.1 : Int), (x.2 : Int)) := rfl
theorem at_sv {l : List (Nat × Nat)} {i : Nat} (h : i < l.length) : (at? (l.map sv) (i : Int)).bind dAu64u64Z = some ((l[i].1 : Int), (l[i].2 : Int)) := by
  rw [at_map h, Option.bind_some, dsv]
theorem get_sv {l : List (Nat × Nat)} {i : Nat} (h : i < l.length) : ((l.map sv)[i]?).bind dAu64u64Z = some ((l[i].1 : Int), (l[i].2 : Int)) := by
  rw [List.getElem?_map, List.getElem?_eq_getElem h, Option.map_some, Option.bind_some, dsv]
theorem drop_cons {α : Type} {l : List α} {i : Nat} (h : i < l.length) : l.drop i = l[i] :: l.drop (i + 1) := List.drop_eq_getElem_cons h
/-- The first error. -/
def firstE : List (Nat × Nat) → Int
  | [] => 0
  | x :: r => if chk x = 0 then firstE r else chk x
theorem firstE_ok {l : List (Nat × Nat)} (h : firstE l = 0) : ∀ x ∈ l, chk x = 0 := by
  induction l with
  | nil => intro x hx; cases hx
  | cons y r ih =>
    intro x hx
    unfold firstE at h
    by_cases hy : chk y = 0
    · rw [if_pos hy] at h
      rcases List.mem_cons.1 hx with rfl | hx
      · exact hy
      · exact ih h x hx
    · rw [if_neg hy] at h; exact absurd h hy
def is29 : L29_0_R → Int
  | .e0 _ _ _ i3 => i3
  | .e1 _ => 0
theorem L29_run {k : Nat} {b : Bool} {o : Option Bool} {l : List (Nat × Nat)} (hl : l.length ≤ 1000) (hf : ∀ x ∈ l, fits x) : ∀ (c i f : Nat), l.length - i = c → i ≤ l.length → c < f → ∃ r, L29_0 k b (l.map sv) o 2 f (i : Int) = some r ∧ is29 r = firstE (l.drop i) := by
  intro c
  induction c with
  | zero =>
    intro i f hc hi hf'
    obtain ⟨f, rfl⟩ : ∃ y, f = y + 1 := ⟨f - 1, by omega⟩
    rw [L29_0, List.length_map, cF (by omega), List.drop_eq_nil_of_le (by omega)]
    exact ⟨_, rfl, rfl⟩
  | succ c ih =>
    intro i f hc hi hf'
    obtain ⟨f, rfl⟩ : ∃ y, f = y + 1 := ⟨f - 1, by omega⟩
    have hi' : i < l.length := by omega
    obtain ⟨r, hr, hs⟩ := ih (i + 1) f (by omega) (by omega) (by omega)
    rw [L29_0, List.length_map, cT (by omega), gp rfl, at_sv hi', Option.bind_some, drop_cons hi']
    simp only
    rw [g12 (hf _ (List.getElem_mem hi')), Option.bind_some, firstE]
    by_cases h0 : chk l[i] = 0
    · rw [cNT h0, if_pos h0, wi (n := (i : Int) + 1) (by omega) (by omega), show (i : Int) + 1 = ((i + 1 : Nat) : Int) by omega]
      exact ⟨r, hr, hs⟩
    · rw [cNF h0, if_neg h0]; exact ⟨_, rfl, rfl⟩
theorem g29 {k : Nat} {b : Bool} {o : Option Bool} {l : List (Nat × Nat)} (hl : l.length ≤ 1000) (hf : ∀ x ∈ l, fits x) (hk : 1100 ≤ k) : F29 k o b 2 (l.map sv) = some (firstE l) := by
  unfold F29
  obtain ⟨r, hr, hs⟩ := L29_run (k := k) (b := b) (o := o) hl hf l.length 0 (k + 5) (by omega) (by omega) (by omega)
  have hr' : L29_0 k b (l.map sv) o 2 (k + 5) 0 = some r := hr
  rw [hr', Option.bind_some, ← List.drop_zero (l := l), ← hs]
  cases r <;> rfl
def is16 : L16_0_R → Int
  | .e0 _ _ _ i3 => i3
  | .e1 _ => 0
theorem L16_run {k : Nat} {b : Bool} {o : Option Bool} {l : List (Nat × Nat)} (hl : l.length ≤ 1000) (hf : ∀ x ∈ l, fits x) : ∀ (c i f : Nat), l.length - i = c → i ≤ l.length → c < f → ∃ r, L16_0 k b (l.map sv) o 2 f (i : Int) = some r ∧ is16 r = firstE (l.drop i) := by
  intro c
  induction c with
  | zero =>
    intro i f hc hi hf'
    obtain ⟨f, rfl⟩ : ∃ y, f = y + 1 := ⟨f - 1, by omega⟩
    rw [L16_0, List.length_map, cF (by omega), List.drop_eq_nil_of_le (by omega)]
    exact ⟨_, rfl, rfl⟩
  | succ c ih =>
    intro i f hc hi hf'
    obtain ⟨f, rfl⟩ : ∃ y, f = y + 1 := ⟨f - 1, by omega⟩
    have hi' : i < l.length := by omega
    obtain ⟨r, hr, hs⟩ := ih (i + 1) f (by omega) (by omega) (by omega)
    rw [L16_0, List.length_map, cT (by omega), gp rfl, at_sv hi', Option.bind_some, drop_cons hi']
    simp only
    rw [g10 (hf _ (List.getElem_mem hi')), Option.bind_some, firstE]
    by_cases h0 : chk l[i] = 0
    · rw [cNT h0, if_pos h0, wi (n := (i : Int) + 1) (by omega) (by omega), show (i : Int) + 1 = ((i + 1 : Nat) : Int) by omega]
      exact ⟨r, hr, hs⟩
    · rw [cNF h0, if_neg h0]; exact ⟨_, rfl, rfl⟩
theorem g16 {k : Nat} {b : Bool} {o : Option Bool} {l : List (Nat × Nat)} (hl : l.length ≤ 1000) (hf : ∀ x ∈ l, fits x) (hk : 1100 ≤ k) : F16 k o b 2 (l.map sv) = some (firstE l) := by
  unfold F16
  obtain ⟨r, hr, hs⟩ := L16_run (k := k) (b := b) (o := o) hl hf l.length 0 (k + 5) (by omega) (by omega) (by omega)
  have hr' : L16_0 k b (l.map sv) o 2 (k + 5) 0 = some r := hr
  rw [hr', Option.bind_some, ← List.drop_zero (l := l), ← hs]
  cases r <;> rfl
end Go.Proofs.Un
