/-
  The laws' own functions, plainly; what arguments of the laws are.
-/
import Derived.Test.YtfjloeemhiffgaaMoE
import Derived.Test.YtfjloeemhiffgaaMoP13
import Derived.Test.YtfjloeemhiffgaaMoP14
import Derived.Test.YtfjloeemhiffgaaSymLaw
set_option linter.unusedVariables false
set_option linter.unusedSimpArgs false
set_option maxRecDepth 100000
namespace Go.Proofs.Mo
open Go Go.Sym

def few1 (c : Cl) : Cl := (c.1, c.2.1, c.2.2.take 40)
def few (l : List Cl) : List Cl := (l.take 66).map few1
theorem few_len (l : List Cl) : (few l).length ≤ 66 := by
  unfold few; rw [List.length_map, List.length_take]; omega
theorem L50_run {k : Nat} {b : Bool} {o : Option Bool} {l : List Cl} : ∀ (c i f : Nat), (l.take 66).length - i = c → i ≤ (l.take 66).length → c < f →
    ∃ z, L50_0 k b (l.map cl) o 3 f (i : Int) (((few l).take i).map cl) = some (.e0 z ((few l).map cl)) := by
  have h66 : (l.take 66).length ≤ 66 := by rw [List.length_take]; omega
  have htk : List.take (if (66 : Int) < ((l.map cl).length : Int) then (66 : Int) else ((l.map cl).length : Int)).toNat (l.map cl) = (l.take 66).map cl := by
    rw [show (66 : Int) = ((66 : Nat) : Int) from rfl, take_if, List.map_take]
  have hfl : (few l).length = (l.take 66).length := by unfold few; rw [List.length_map]
  intro c
  induction c with
  | zero =>
    intro i f hc hi hf
    obtain ⟨f, rfl⟩ : ∃ y, f = y + 1 := ⟨f - 1, by omega⟩
    rw [L50_0, htk, List.length_map, cF (by omega), List.take_of_length_le (by omega)]
    exact ⟨_, rfl⟩
  | succ c ih =>
    intro i f hc hi hf
    obtain ⟨f, rfl⟩ : ∃ y, f = y + 1 := ⟨f - 1, by omega⟩
    have hil : i < (l.take 66).length := by omega
    obtain ⟨z, hz⟩ := ih (i + 1) f (by omega) (by omega) (by omega)
    refine ⟨z, ?_⟩
    have hstep : (few l).take (i + 1) = (few l).take i ++ [few1 (l.take 66)[i]] := by
      rw [List.take_succ_eq_append_getElem (by omega)]
      congr 2
      simp only [few, List.getElem_map]
    rw [hstep, List.map_append] at hz
    have e3 : IntKind.i64.wrap ((i : Int) + 1) = ((i + 1 : Nat) : Int) := wp (by omega)
    have e40 : ∀ s : List UInt8, List.take (if (40 : Int) < (s.length : Int) then (40 : Int) else (s.length : Int)).toNat s = s.take 40 := fun s => by rw [show (40 : Int) = ((40 : Nat) : Int) from rfl, take_if]
    rw [L50_0, htk, List.length_map, cT (by omega), gp rfl, at_cl hil, Option.bind_some]
    simp only
    rw [gp (by omega), gp (by rw [List.length_map, List.length_take]; unfold maxLen'; omega), e3, e40]
    exact hz
theorem g50 {k : Nat} {b : Bool} {o : Option Bool} {l : List Cl} (hk : 1100 ≤ k) : F50 k o b 3 (l.map cl) = some (none, false, 3, (few l).map cl) := by
  unfold F50
  obtain ⟨z, hz⟩ := L50_run (k := k) (b := b) (o := o) (l := l) ((l.take 66).length - 0) 0 (k + 2) rfl (by omega) (by rw [List.length_take]; omega)
  have hz' : L50_0 k b (l.map cl) o 3 (k + 2) 0 [] = _ := hz
  rw [gp rfl, gp (by omega), hz']; rfl
/-- What comes of a change. -/
def res (l want : List Cl) (w : Int) (q : Int) (lim : Bool) (o : Option Bool) (b : Bool) : Option Bool × Bool × Nat × List V × Int :=
  if w = 0 then (if lim = false ∨ fits l want q = true then (o, b, 3, want.map cl, 0) else (some true, true, 0, [], 6)) else (some true, true, 0, [], w)
theorem sub_len : ∀ {xs ys : List Nat}, xs.Pairwise (· < ·) → (∀ x ∈ xs, x ∈ ys) → xs.length ≤ ys.length := by
  intro xs
  induction xs with
  | nil => intro ys _ _; exact Nat.zero_le _
  | cons x r ih =>
    intro ys hp hs
    rw [List.pairwise_cons] at hp
    have hx := hs x List.mem_cons_self
    have := ih (ys := ys.erase x) hp.2 fun y hy => (List.mem_erase_of_ne (by have := hp.1 y hy; omega)).2 (hs y (List.mem_cons_of_mem _ hy))
    rw [List.length_erase_of_mem hx] at this
    have := List.length_pos_of_mem hx
    simp only [List.length_cons]
    omega
/-- Discarding and zeroing make no cell. -/
theorem upto_fewer {l : List Cl} (hr : right l = true) {new : Nat → Cl} {a m : Nat} (hn : ∀ j, (new j).1 = j) (ham : a ≤ m) (h : ∀ j, a ≤ j → j < m → (new j).2.1 ≠ 0 → (cellAt l j).2.1 ≠ 0) : (upto l new a m).length ≤ l.length := by
  obtain ⟨_, hinc, _⟩ := right_iff.1 hr
  have hui := upto_inc (m := m) hinc hn ham
  -- the numbers of the cells then are among those of the cells
  have hsub : ∀ x ∈ (upto l new a m).map (·.1), x ∈ l.map (·.1) := by
    intro x hx
    obtain ⟨c, hc, rfl⟩ := List.mem_map.1 hx
    rcases upto_mem hc with ⟨h1, _⟩ | ⟨j, h1, h2, rfl, h4⟩
    · exact List.mem_map.2 ⟨c, h1, rfl⟩
    · rcases cellAt_mem (l := l) (n := j) with hm | hm
      · exact List.mem_map.2 ⟨_, hm, by rw [hn, cellAt_n]⟩
      · exact absurd (by rw [hm]) (h j h1 h2 h4)
  have := sub_len (by rw [List.pairwise_map]; exact hui) hsub
  simpa using this
theorem one_st {l : List Cl} {w : Int} (hw : w = 2 ∨ w = 3) {A n : Nat} {data : List UInt8} {j : Nat} (h : (one l w A n data j).2.1 ≠ 0) : (cellAt l j).2.1 ≠ 0 := by
  intro h0
  apply h
  unfold one
  rw [if_neg (by omega), if_neg (by omega)]
  split
  · split
    · rw [if_neg (fun h => h h0)]
    · rfl
  · rw [if_neg (by rw [h0]; decide)]
    exact h0
theorem g53 : F53 (2000 + 2) = some true := by
  have h : F53 2002 = some true := by kernel_rfl
  exact h
end Go.Proofs.Mo
