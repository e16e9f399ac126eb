/-
  What arguments of the model's laws are.
-/
import Derived.Test.YtfjloeemhiffgaaMoF
set_option linter.unusedVariables false
set_option linter.unusedSimpArgs false
set_option maxRecDepth 100000
namespace Go.Proofs.Mo
open Go Go.Sym
theorem ts3 : tsize Try.prog 3 = 1 := by kernel_rfl
theorem ts9 : tsize Try.prog 9 = 1 := by kernel_rfl
theorem ts22 : tsize Try.prog 22 = 1 := by kernel_rfl
theorem ts120 : tsize Try.prog 120 = 3 := by kernel_rfl
theorem ta24 : tagg Try.prog 24 = some true := by kernel_rfl
theorem ta74 : tagg Try.prog 74 = some false := by kernel_rfl
theorem ta120 : tagg Try.prog 120 = some true := by kernel_rfl
theorem take_one {vs : List V} {x : V} (h : vs.take 1 = [x]) : vs = x :: vs.drop 1 := by
  cases vs with
  | nil => simp at h
  | cons y r => simp at h; subst h; simp
theorem VArgs_two {P : Program} {k : Nat} {a b : TypeId} {xs : List V} (h : VArgs P k [a, b] xs) : ∃ x y, xs = [x, y] ∧ VArg P k a x ∧ VArg P k b y := by
  match xs, h with
  | [x, y], ⟨hx, hy, _⟩ => exact ⟨x, y, rfl, hx, hy⟩
theorem open24 {k : Nat} {v : V} (h : VArg Try.prog (k + 2) 24 v) : ∃ a n : Nat, v = V.agg [V.int .u64 (a : Int), V.int .u64 (n : Int)] ∧ a < B64 ∧ n < B64 := by
  unfold VArg at h
  obtain ⟨vs, hv, h⟩ := h
  simp only [VT, Try.underlying24, VTs, Try.underlying22, ts22] at h
  obtain ⟨⟨a, h1, ha⟩, ⟨n, h2, hn⟩, h3⟩ := h
  have e1 := take_one h1
  have e2 := take_one h2
  rw [h3] at e2
  rw [e2] at e1
  have wa := wf_u64 ha
  have wn := wf_u64 hn
  refine ⟨a.toNat, n.toNat, hv.trans ?_, by unfold B64; omega, by unfold B64; omega⟩
  rw [show ((a.toNat : Nat) : Int) = a by omega, show ((n.toNat : Nat) : Int) = n by omega]
  simp only [Sym.mk, ta24, e1]
theorem cs_of {xs : List V} (h : ∀ x ∈ xs, ∃ c : Cl, x = cl c) : ∃ l : List Cl, xs = l.map cl := by
  induction xs with
  | nil => exact ⟨[], rfl⟩
  | cons x t ih =>
    obtain ⟨c, rfl⟩ := h x List.mem_cons_self
    obtain ⟨l, rfl⟩ := ih fun y hy => h y (List.mem_cons_of_mem _ hy)
    exact ⟨c :: l, rfl⟩
theorem open74 {k : Nat} {v : V} (h : VArg Try.prog (k + 3) 74 v) : ∃ (n : Bool) (l : List Cl), v = V.sl (some n) n 3 (l.map cl) := by
  unfold VArg at h
  obtain ⟨vs, hv, h⟩ := h
  simp only [VT, Try.underlying74, Try.underlying120, VTs, Try.underlying22, Try.underlying3, Try.underlying9, ts22, ts3, ts9, ts120] at h
  obtain ⟨n, xs, h1, hn, _, hx⟩ := h
  obtain ⟨l, rfl⟩ := cs_of (xs := xs) fun x hm => by
    obtain ⟨zs, hz, ⟨a, g1, ga⟩, ⟨b, g2, gb⟩, ⟨c, g3, gc⟩, g4⟩ := hx x hm
    have e1 := take_one g1
    have e2 := take_one g2
    have e3 := take_one g3
    rw [g4] at e3
    rw [e3] at e2
    rw [e2] at e1
    have wa := wf_u64 ga
    refine ⟨(a.toNat, b, c), hz.trans ?_⟩
    unfold cl
    simp only
    rw [show ((a.toNat : Nat) : Int) = a by omega]
    simp only [Sym.mk, ta120, e1]
  exact ⟨n, l, hv.trans (by rw [h1]; simp only [Sym.mk, ta74, List.headD_cons])⟩
end Go.Proofs.Mo
