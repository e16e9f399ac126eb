/-
  What arguments of laws of extents are.
-/
import Derived.Test.YtfjloeemhiffgaaExT
set_option linter.unusedVariables false
set_option linter.unusedSimpArgs false
set_option maxRecDepth 100000
namespace Go.Proofs
open Go Go.Sym Go.Sym.Ex
theorem ts3 : tsize Try.prog 3 = 1 := by kernel_rfl
theorem ts22 : tsize Try.prog 22 = 1 := by kernel_rfl
theorem ts68 : tsize Try.prog 68 = 3 := by kernel_rfl
theorem ta3 : tagg Try.prog 3 = some false := by kernel_rfl
theorem ta22 : tagg Try.prog 22 = some false := by kernel_rfl
theorem ta24 : tagg Try.prog 24 = some true := by kernel_rfl
theorem ta54 : tagg Try.prog 54 = some false := by kernel_rfl
theorem ta68 : tagg Try.prog 68 = some true := by kernel_rfl
theorem take_one {vs : List V} {x : V} (h : vs.take 1 = [x]) : vs = x :: vs.drop 1 := by
  cases vs with
  | nil => simp at h
  | cons y r => simp at h; subst h; simp
theorem VArgs_two {P : Program} {k : Nat} {a b : TypeId} {xs : List V} (h : VArgs P k [a, b] xs) : ∃ x y, xs = [x, y] ∧ VArg P k a x ∧ VArg P k b y := by
  match xs, h with
  | [x, y], ⟨hx, hy, _⟩ => exact ⟨x, y, rfl, hx, hy⟩
theorem VArgs_three {P : Program} {k : Nat} {a b c : TypeId} {xs : List V} (h : VArgs P k [a, b, c] xs) : ∃ x y z, xs = [x, y, z] ∧ VArg P k a x ∧ VArg P k b y ∧ VArg P k c z := by
  match xs, h with
  | [x, y, z], ⟨hx, hy, hz, _⟩ => exact ⟨x, y, z, rfl, hx, hy, hz⟩
theorem VArgs_four {P : Program} {k : Nat} {a b c d : TypeId} {xs : List V} (h : VArgs P k [a, b, c, d] xs) : ∃ x y z w, xs = [x, y, z, w] ∧ VArg P k a x ∧ VArg P k b y ∧ VArg P k c z ∧ VArg P k d w := by
  match xs, h with
  | [x, y, z, w], ⟨hx, hy, hz, hw, _⟩ => exact ⟨x, y, z, w, rfl, hx, hy, hz, hw⟩
theorem open3 {k : Nat} {v : V} (h : VArg Try.prog (k + 1) 3 v) : ∃ a, v = V.int .i64 a ∧ -9223372036854775808 ≤ a ∧ a < 9223372036854775808 := by
  unfold VArg at h
  obtain ⟨vs, hv, h⟩ := h
  simp only [VT, Try.underlying3] at h
  obtain ⟨n, h1, hw⟩ := h
  exact ⟨n, hv.trans (by rw [h1]; simp only [Sym.mk, ta3, List.headD_cons]), wf_i64 hw⟩
theorem open22 {k : Nat} {v : V} (h : VArg Try.prog (k + 1) 22 v) : ∃ n : Nat, v = V.int .u64 (n : Int) ∧ n < 18446744073709551616 := by
  unfold VArg at h
  obtain ⟨vs, hv, h⟩ := h
  simp only [VT, Try.underlying22] at h
  obtain ⟨n, h1, hw⟩ := h
  have := wf_u64 hw
  refine ⟨n.toNat, hv.trans ?_, by omega⟩
  rw [h1, show ((n.toNat : Nat) : Int) = n by omega]
  simp only [Sym.mk, ta22, List.headD_cons]
theorem open24 {k : Nat} {v : V} (h : VArg Try.prog (k + 2) 24 v) : ∃ a n : Nat, v = V.agg [V.int .u64 (a : Int), V.int .u64 (n : Int)] ∧ a < 18446744073709551616 ∧ n < 18446744073709551616 := by
  unfold VArg at h
  obtain ⟨vs, hv, h⟩ := h
  simp only [VT, Try.underlying24, VTs, Try.underlying22, ts22] at h
  obtain ⟨⟨a, h1, ha⟩, ⟨n, h2, hn⟩, h3⟩ := h
  have e1 := take_one h1
  have e2 := take_one h2
  rw [h3] at e2
  rw [e2] at e1
  have wa := wf_u64 ha
  have wn := wf_u64 hn
  refine ⟨a.toNat, n.toNat, hv.trans ?_, by omega, by omega⟩
  rw [show ((a.toNat : Nat) : Int) = a by omega, show ((n.toNat : Nat) : Int) = n by omega]
  simp only [Sym.mk, ta24, e1]
theorem rs_of {xs : List V} (h : ∀ x ∈ xs, ∃ r : Rn, x = rv r ∧ Wf r ∧ -9223372036854775808 ≤ r.s ∧ r.s < 9223372036854775808) : ∃ l : List Rn, xs = l.map rv ∧ (∀ r ∈ l, Wf r) ∧ ∀ r ∈ l, -9223372036854775808 ≤ r.s ∧ r.s < 9223372036854775808 := by
  induction xs with
  | nil => exact ⟨[], rfl, (fun r h => by cases h), fun r h => by cases h⟩
  | cons x t ih =>
    obtain ⟨r, rfl, hw, hs⟩ := h x (List.mem_cons_self ..)
    obtain ⟨l, rfl, h1, h2⟩ := ih fun y hy => h y (List.mem_cons_of_mem _ hy)
    exact ⟨r :: l, rfl, (fun q hq => by rcases List.mem_cons.1 hq with rfl | hq; exact hw; exact h1 q hq), fun q hq => by rcases List.mem_cons.1 hq with rfl | hq; exact hs; exact h2 q hq⟩
theorem open54 {k : Nat} {v : V} (h : VArg Try.prog (k + 3) 54 v) : ∃ (n : Bool) (l : List Rn), v = V.sl (some n) n 3 (l.map rv) ∧ ∀ r ∈ l, Wf r := by
  unfold VArg at h
  obtain ⟨vs, hv, h⟩ := h
  simp only [VT, Try.underlying54, Try.underlying68, VTs, Try.underlying22, Try.underlying3, ts22, ts3, ts68] at h
  obtain ⟨n, xs, h1, hn, _, hx⟩ := h
  obtain ⟨l, rfl, h2, _⟩ := rs_of (xs := xs) fun x hm => by
    obtain ⟨zs, hz, ⟨a, g1, ga⟩, ⟨b, g2, gb⟩, ⟨c, g3, gc⟩, g4⟩ := hx x hm
    have e1 := take_one g1
    have e2 := take_one g2
    have e3 := take_one g3
    rw [g4] at e3
    rw [e3] at e2
    rw [e2] at e1
    have wa := wf_u64 ga
    have wb := wf_u64 gb
    refine ⟨⟨a.toNat, b.toNat, c⟩, hz.trans ?_, ⟨by simp only; omega, by simp only; omega⟩, wf_i64 gc⟩
    unfold rv
    simp only
    rw [show ((a.toNat : Nat) : Int) = a by omega, show ((b.toNat : Nat) : Int) = b by omega]
    simp only [Sym.mk, ta68, e1]
  exact ⟨n, l, hv.trans (by rw [h1]; simp only [Sym.mk, ta54, List.headD_cons]), h2⟩

/-! ### A hole in data -/
theorem g39 {k : Nat} (hk : 2000 ≤ k) : F39 k = some true := by
  unfold F39
  have hw : ∀ r ∈ [(⟨0, 10, 1⟩ : Rn)], Wf r := fun r hr => by rcases List.mem_singleton.1 hr with rfl; exact ⟨by decide, by decide⟩
  have h := g36 (k := k + 2) (a := 4) (n := 2) (s := 0) (b := false) (o := none) (l := [⟨0, 10, 1⟩]) (by simp) hw (by omega) (by omega) (by omega) (by decide)
  have e : put [⟨0, 10, 1⟩] 4 (4 + 2) 0 = [⟨0, 4, 1⟩, ⟨6, 4, 1⟩] := by decide
  rw [e, if_neg (by decide)] at h
  have h : F36 (k + 2) none false 3 [V.agg [V.int .u64 0, V.int .u64 10, V.int .i64 1]] 4 2 0 = _ := h
  rw [h, Option.bind_some]
  simp only
  have g := g41 (k := k + 11) (b := false) (c := false) (o := none) (p := none) (l := [⟨0, 4, 1⟩, ⟨6, 4, 1⟩]) (m := [⟨0, 4, 1⟩, ⟨6, 4, 1⟩]) (by simp) (by omega)
  have g : F41 (k + 11) none false 3 (List.map rv [⟨0, 4, 1⟩, ⟨6, 4, 1⟩]) none false 3 [V.agg [V.int .u64 0, V.int .u64 4, V.int .i64 1], V.agg [V.int .u64 6, V.int .u64 4, V.int .i64 1]] = _ := g
  rw [cT trivial, g]; rfl
end Go.Proofs
