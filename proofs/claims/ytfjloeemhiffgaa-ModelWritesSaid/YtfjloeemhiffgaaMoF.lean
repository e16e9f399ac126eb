/-
  The laws' own functions, plainly; what arguments of the laws are.
-/
import Derived.Test.YtfjloeemhiffgaaMoE
import Derived.Test.YtfjloeemhiffgaaMoP13
import Derived.Test.YtfjloeemhiffgaaMoP14
import Derived.Test.YtfjloeemhiffgaaSymLaw
set_option linter.unusedVariables false
set_option linter.unusedSimpArgs false
set_option maxRecDepth 100000
namespace Go.Proofs.Mo
open Go Go.Sym

def few1 (c : Cl) : Cl := (c.1, c.2.1, c.2.2.take 40)
def few (l : List Cl) : List Cl := (l.take 66).map few1
theorem few_len (l : List Cl) : (few l).length ≤ 66 := by
  unfold few; rw [List.length_map, List.length_take]; omega
theorem L50_run {k : Nat} {b : Bool} {o : Option Bool} {l : List Cl} : ∀ (c i f : Nat), (l.take 66).length - i = c → i ≤ (l.take 66).length → c < f →
    ∃ z, L50_0 k b (l.map cl) o 3 f (i : Int) (((few l).take i).map cl) = some (.e0 z ((few l).map cl)) := by
  have h66 : (l.take 66).length ≤ 66 := by rw [List.length_take]; omega
  have htk : List.take (if (66 : Int) < ((l.map cl).length : Int) then (66 : Int) else ((l.map cl).length : Int)).toNat (l.map cl) = (l.take 66).map cl := by
    rw [show (66 : Int) = ((66 : Nat) : Int) from rfl, take_if, List.map_take]
  have hfl : (few l).length = (l.take 66).length := by unfold few; rw [List.length_map]
  intro c
  induction c with
  | zero =>
    intro i f hc hi hf
    obtain ⟨f, rfl⟩ : ∃ y, f = y + 1 := ⟨f - 1, by omega⟩
    rw [L50_0, htk, List.length_map, cF (by omega), List.take_of_length_le (by omega)]
    exact ⟨_, rfl⟩
  | succ c ih =>
    intro i f hc hi hf
    obtain ⟨f, rfl⟩ : ∃ y, f = y + 1 := ⟨f - 1, by omega⟩
    have hil : i < (l.take 66).length := by omega
    obtain ⟨z, hz⟩ := ih (i + 1) f (by omega) (by omega) (by omega)
    refine ⟨z, ?_⟩
    have hstep : (few l).take (i + 1) = (few l).take i ++ [few1 (l.take 66)[i]] := by
      rw [List.take_succ_eq_append_getElem (by omega)]
      congr 2
      simp only [few, List.getElem_map]
    rw [hstep, List.map_append] at hz
    have e3 : IntKind.i64.wrap ((i : Int) + 1) = ((i + 1 : Nat) : Int) := wp (by omega)
    have e40 : ∀ s : List UInt8, List.take (if (40 : Int) < (s.length : Int) then (40 : Int) else (s.length : Int)).toNat s = s.take 40 := fun s => by rw [show (40 : Int) = ((40 : Nat) : Int) from rfl, take_if]
    rw [L50_0, htk, List.length_map, cT (by omega), gp rfl, at_cl hil, Option.bind_some]
    simp only
    rw [gp (by omega), gp (by rw [List.length_map, List.length_take]; unfold maxLen'; omega), e3, e40]
    exact hz
theorem g50 {k : Nat} {b : Bool} {o : Option Bool} {l : List Cl} (hk : 1100 ≤ k) : F50 k o b 3 (l.map cl) = some (none, false, 3, (few l).map cl) := by
  unfold F50
  obtain ⟨z, hz⟩ := L50_run (k := k) (b := b) (o := o) (l := l) ((l.take 66).length - 0) 0 (k + 2) rfl (by omega) (by rw [List.length_take]; omega)
  have hz' : L50_0 k b (l.map cl) o 3 (k + 2) 0 [] = _ := hz
  rw [gp rfl, gp (by omega), hz']; rfl
/-- What comes of a change. -/
def res (l want : List Cl) (w : Int) (q : Int) (lim : Bool) (o : Option Bool) (b : Bool) : Option Bool × Bool × Nat × List V × Int :=
  if w = 0 then (if lim = false ∨ fits l want q = true then (o, b, 3, want.map cl, 0) else (some true, true, 0, [], 6)) else (some true, true, 0, [], w)
theorem doR_len {l : List Cl} {w : Int} {A n : Nat} {data : List UInt8} (h0 : 0 < n) (hn : n ≤ 224) : (doR l w A n data).length ≤ l.length + 9 := by
  unfold doR
  have := upto_len l (one l w A n data) (a := A / 32) (m := (A + n - 1) / 32 + 1) (by omega)
  omega
theorem g54 {k A n : Nat} {q w : Int} {b : Bool} {o : Option Bool} {l : List Cl} {data : List UInt8} {o1 : Option Bool} {b1 : Bool} {n1 : Nat} {X : List V} {e : Int} (hl : l.length ≤ 66) (hA : A < B64) (hn : n < B64) (hd : w = 1 → data.length = n) (hk : 1600 ≤ k)
    (hr : why l A n = 0 → fits l (doR l w A n data) q = true → (n1, X, e) = (3, (doR l w A n data).map cl, 0))
    (hf : why l A n = 0 → fits l (doR l w A n data) q = false → (X, e) = ([], 6)) (hb : why l A n ≠ 0 → (X, e) = ([], why l A n)) :
    F54 k o b 3 (l.map cl) o1 b1 n1 X e q w (A : Int) (n : Int) data = some true := by
  unfold F54
  rw [g87 (by omega) hA hn (by omega), Option.bind_some]
  by_cases hw : why l A n = 0
  · obtain ⟨hri, h0, hn', hAn⟩ := why_ok hw
    rw [cNT hw, g88 hri h0 hn' hAn hd (by omega), Option.bind_some]
    simp only
    rw [g89, Option.bind_some]
    have hlen := doR_len (l := l) (w := w) (A := A) (data := data) h0 hn'
    cases hfit : fits l (doR l w A n data) q with
    | true =>
      have := hr hw hfit
      cases this
      rw [Bool.not_true, cond_false, cT rfl, g90 (by omega) (by omega)]; rfl
    | false =>
      have := hf hw hfit
      cases this
      rfl
  · have := hb hw
    cases this
    rw [cNF hw, cT rfl]; rfl
theorem g53 : F53 (2000 + 2) = some true := by
  have h : F53 2002 = some true := by kernel_rfl
  exact h
theorem law_modelWrites {A A2 n2 : Nat} {q : Int} {b : Bool} {o : Option Bool} {l : List Cl} {data : List UInt8} (hA : A < B64) (hA2 : A2 < B64) (hn2 : n2 < B64) : F13 2000 o b 3 (l.map cl) q (A : Int) data (A2 : Int) (n2 : Int) = some true := by
  have hl := few_len l
  have h230 : List.take (if (230 : Int) < (data.length : Int) then (230 : Int) else (data.length : Int)).toNat data = data.take 230 := by
    rw [show (230 : Int) = ((230 : Nat) : Int) from rfl, take_if]
  have hd : (data.take 230).length ≤ 230 := by rw [List.length_take]; omega
  unfold F13
  rw [g50 (by omega), Option.bind_some]
  simp only
  rw [gp (by omega), h230]
  generalize few l = m at hl
  generalize data.take 230 = d at hd
  obtain ⟨o1, b1, h51⟩ := g51 (k := 2000 + 5) (b := false) (o := none) (l := m) (q := q) (data := d) (A := A) (by omega) (by omega) hA (by omega)
  obtain ⟨o2, b2, h52⟩ := g52 (k := 2000 + 5) (b := false) (o := none) (l := m) (q := q) (A := A2) (n := n2) (by omega) hn2 hA2 (by omega)
  have hu : IntKind.u64.wrap (d.length : Int) = ((d.length : Nat) : Int) := wu (by omega) (by omega)
  have t1 : ∀ r, r = (if why m A d.length = 0 then (if fits m (wantW m A d) q then (o1, b1, 3, (wantW m A d).map cl, (0 : Int)) else (some true, true, 0, [], 6)) else (some true, true, 0, [], why m A d.length)) →
      F54 (2000 + 3) none false 3 (m.map cl) r.1 r.2.1 r.2.2.1 r.2.2.2.1 r.2.2.2.2 q 1 (A : Int) (d.length : Int) d = some true := by
    rintro r rfl
    refine g54 hl hA (by unfold B64; omega) (fun _ => rfl) (by omega) (fun h1 h2 => ?_) (fun h1 h2 => ?_) (fun h1 => ?_)
    · obtain ⟨hri, h0, _, _⟩ := why_ok h1
      rw [if_pos h1, wantW_do hri h0, if_pos h2]
    · obtain ⟨hri, h0, _, _⟩ := why_ok h1
      rw [if_pos h1, wantW_do hri h0, if_neg (by rw [h2]; simp)]
    · rw [if_neg h1]
  have t2 : ∀ r, r = (if why m A2 n2 = 0 then (if fits m (wantR m A2 n2) q then (o2, b2, 3, (wantR m A2 n2).map cl, (0 : Int)) else (some true, true, 0, [], 6)) else (some true, true, 0, [], why m A2 n2)) →
      F54 (2000 + 3) none false 3 (m.map cl) r.1 r.2.1 r.2.2.1 r.2.2.2.1 r.2.2.2.2 q 4 (A2 : Int) (n2 : Int) [] = some true := by
    rintro r rfl
    refine g54 hl hA2 hn2 (fun h => by cases h) (by omega) (fun h1 h2 => ?_) (fun h1 h2 => ?_) (fun h1 => ?_)
    · obtain ⟨hri, h0, _, _⟩ := why_ok h1
      rw [if_pos h1, wantR_do hri (data := []), if_pos h2]
    · obtain ⟨hri, h0, _, _⟩ := why_ok h1
      rw [if_pos h1, wantR_do hri (data := []), if_neg (by rw [h2]; simp)]
    · rw [if_neg h1]
  obtain ⟨⟨a1, a2, a3, a4, a5⟩, hr1⟩ : ∃ r, r = (if why m A d.length = 0 then (if fits m (wantW m A d) q then (o1, b1, 3, (wantW m A d).map cl, (0 : Int)) else (some true, true, 0, [], 6)) else (some true, true, 0, [], why m A d.length)) := ⟨_, rfl⟩
  obtain ⟨⟨c1, c2, c3, c4, c5⟩, hr2⟩ : ∃ r, r = (if why m A2 n2 = 0 then (if fits m (wantR m A2 n2) q then (o2, b2, 3, (wantR m A2 n2).map cl, (0 : Int)) else (some true, true, 0, [], 6)) else (some true, true, 0, [], why m A2 n2)) := ⟨_, rfl⟩
  have T1 := t1 _ hr1
  have T2 := t2 _ hr2
  dsimp only at T1 T2
  rw [h51, ← hr1, Option.bind_some, h52, ← hr2, Option.bind_some]
  simp only
  rw [g53, Option.bind_some, cond_true, hu, T1, Option.bind_some, cond_true, T2]; rfl
end Go.Proofs.Mo
