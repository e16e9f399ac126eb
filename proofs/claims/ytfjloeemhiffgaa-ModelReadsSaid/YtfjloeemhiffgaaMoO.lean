/-
  What arguments of the model's laws are.
-/
import Derived.Test.YtfjloeemhiffgaaMoF
set_option linter.unusedVariables false
set_option linter.unusedSimpArgs false
set_option maxRecDepth 100000
namespace Go.Proofs.Mo
open Go Go.Sym
theorem ts3 : tsize Try.prog 3 = 1 := by kernel_rfl
theorem ts9 : tsize Try.prog 9 = 1 := by kernel_rfl
theorem ts22 : tsize Try.prog 22 = 1 := by kernel_rfl
theorem ts120 : tsize Try.prog 120 = 3 := by kernel_rfl
theorem ta3 : tagg Try.prog 3 = some false := by kernel_rfl
theorem ta9 : tagg Try.prog 9 = some false := by kernel_rfl
theorem ta22 : tagg Try.prog 22 = some false := by kernel_rfl
theorem ta74 : tagg Try.prog 74 = some false := by kernel_rfl
theorem ta120 : tagg Try.prog 120 = some true := by kernel_rfl
theorem take_one {vs : List V} {x : V} (h : vs.take 1 = [x]) : vs = x :: vs.drop 1 := by
  cases vs with
  | nil => simp at h
  | cons y r => simp at h; subst h; simp
theorem VArgs_five {P : Program} {k : Nat} {a b c d e : TypeId} {xs : List V} (h : VArgs P k [a, b, c, d, e] xs) : ∃ x y z w u, xs = [x, y, z, w, u] ∧ VArg P k a x ∧ VArg P k b y ∧ VArg P k c z ∧ VArg P k d w ∧ VArg P k e u := by
  match xs, h with
  | [x, y, z, w, u], ⟨hx, hy, hz, hw, hu, _⟩ => exact ⟨x, y, z, w, u, rfl, hx, hy, hz, hw, hu⟩
theorem open3 {k : Nat} {v : V} (h : VArg Try.prog (k + 1) 3 v) : ∃ a, v = V.int .i64 a := by
  unfold VArg at h
  obtain ⟨vs, hv, h⟩ := h
  simp only [VT, Try.underlying3] at h
  obtain ⟨n, h1, hw⟩ := h
  exact ⟨n, hv.trans (by rw [h1]; simp only [Sym.mk, ta3, List.headD_cons])⟩
theorem open9 {k : Nat} {v : V} (h : VArg Try.prog (k + 1) 9 v) : ∃ s : List UInt8, v = V.str s := by
  unfold VArg at h
  obtain ⟨vs, hv, h⟩ := h
  simp only [VT, Try.underlying9] at h
  obtain ⟨s, h1, hw⟩ := h
  exact ⟨s, hv.trans (by rw [h1]; simp only [Sym.mk, ta9, List.headD_cons])⟩
theorem open22 {k : Nat} {v : V} (h : VArg Try.prog (k + 1) 22 v) : ∃ n : Nat, v = V.int .u64 (n : Int) ∧ n < B64 := by
  unfold VArg at h
  obtain ⟨vs, hv, h⟩ := h
  simp only [VT, Try.underlying22] at h
  obtain ⟨n, h1, hw⟩ := h
  have := wf_u64 hw
  refine ⟨n.toNat, hv.trans ?_, by unfold B64; omega⟩
  rw [h1, show ((n.toNat : Nat) : Int) = n by omega]
  simp only [Sym.mk, ta22, List.headD_cons]
theorem cs_of {xs : List V} (h : ∀ x ∈ xs, ∃ c : Cl, x = cl c) : ∃ l : List Cl, xs = l.map cl := by
  induction xs with
  | nil => exact ⟨[], rfl⟩
  | cons x t ih =>
    obtain ⟨c, rfl⟩ := h x List.mem_cons_self
    obtain ⟨l, rfl⟩ := ih fun y hy => h y (List.mem_cons_of_mem _ hy)
    exact ⟨c :: l, rfl⟩
theorem open74 {k : Nat} {v : V} (h : VArg Try.prog (k + 3) 74 v) : ∃ (n : Bool) (l : List Cl), v = V.sl (some n) n 3 (l.map cl) := by
  unfold VArg at h
  obtain ⟨vs, hv, h⟩ := h
  simp only [VT, Try.underlying74, Try.underlying120, VTs, Try.underlying22, Try.underlying3, Try.underlying9, ts22, ts3, ts9, ts120] at h
  obtain ⟨n, xs, h1, hn, _, hx⟩ := h
  obtain ⟨l, rfl⟩ := cs_of (xs := xs) fun x hm => by
    obtain ⟨zs, hz, ⟨a, g1, ga⟩, ⟨b, g2, gb⟩, ⟨c, g3, gc⟩, g4⟩ := hx x hm
    have e1 := take_one g1
    have e2 := take_one g2
    have e3 := take_one g3
    rw [g4] at e3
    rw [e3] at e2
    rw [e2] at e1
    have wa := wf_u64 ga
    refine ⟨(a.toNat, b, c), hz.trans ?_⟩
    unfold cl
    simp only
    rw [show ((a.toNat : Nat) : Int) = a by omega]
    simp only [Sym.mk, ta120, e1]
  exact ⟨n, l, hv.trans (by rw [h1]; simp only [Sym.mk, ta74, List.headD_cons])⟩
end Go.Proofs.Mo
