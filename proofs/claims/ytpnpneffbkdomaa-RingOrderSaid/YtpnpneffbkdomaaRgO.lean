/-
  What arguments of laws of rings are.
-/
import Derived.Test.YtpnpneffbkdomaaRgB
set_option linter.unusedVariables false
set_option linter.unusedSimpArgs false
set_option maxRecDepth 100000
namespace Go.Proofs
open Go Go.Sym
theorem ts3 : tsize Try.prog 3 = 1 := by kernel_rfl
theorem ts9 : tsize Try.prog 9 = 1 := by kernel_rfl
theorem ts22 : tsize Try.prog 22 = 1 := by kernel_rfl
theorem ta3 : tagg Try.prog 3 = some false := by kernel_rfl
theorem ta9 : tagg Try.prog 9 = some false := by kernel_rfl
theorem ta22 : tagg Try.prog 22 = some false := by kernel_rfl
theorem ta72 : tagg Try.prog 72 = some true := by kernel_rfl
theorem take_one {vs : List V} {x : V} (h : vs.take 1 = [x]) : vs = x :: vs.drop 1 := by
  cases vs with
  | nil => simp at h
  | cons y r => simp at h; subst h; simp
theorem VArgs_three {P : Program} {k : Nat} {a b c : TypeId} {xs : List V} (h : VArgs P k [a, b, c] xs) : ∃ x y z, xs = [x, y, z] ∧ VArg P k a x ∧ VArg P k b y ∧ VArg P k c z := by
  match xs, h with
  | [x, y, z], ⟨hx, hy, hz, _⟩ => exact ⟨x, y, z, rfl, hx, hy, hz⟩
theorem VArgs_four {P : Program} {k : Nat} {a b c d : TypeId} {xs : List V} (h : VArgs P k [a, b, c, d] xs) : ∃ x y z w, xs = [x, y, z, w] ∧ VArg P k a x ∧ VArg P k b y ∧ VArg P k c z ∧ VArg P k d w := by
  match xs, h with
  | [x, y, z, w], ⟨hx, hy, hz, hw, _⟩ => exact ⟨x, y, z, w, rfl, hx, hy, hz, hw⟩
theorem open3 {k : Nat} {v : V} (h : VArg Try.prog (k + 1) 3 v) : ∃ a, v = V.int .i64 a ∧ -9223372036854775808 ≤ a ∧ a < 9223372036854775808 := by
  unfold VArg at h
  obtain ⟨vs, hv, h⟩ := h
  simp only [VT, Try.underlying3] at h
  obtain ⟨n, h1, hw⟩ := h
  exact ⟨n, hv.trans (by rw [h1]; simp only [Sym.mk, ta3, List.headD_cons]), wf_i64 hw⟩
theorem open9 {k : Nat} {v : V} (h : VArg Try.prog (k + 1) 9 v) : ∃ t, v = V.str t := by
  unfold VArg at h
  obtain ⟨vs, hv, h⟩ := h
  simp only [VT, Try.underlying9] at h
  obtain ⟨t, h1, _⟩ := h
  exact ⟨t, hv.trans (by rw [h1]; simp only [Sym.mk, ta9, List.headD_cons])⟩
theorem ss_of {xs : List V} (h : ∀ x ∈ xs, ∃ t, x = V.str t) : ∃ ss : List Tx, xs = ss.map V.str := by
  induction xs with
  | nil => exact ⟨[], rfl⟩
  | cons x r ih =>
    obtain ⟨t, rfl⟩ := h x (List.mem_cons_self ..)
    obtain ⟨ss, rfl⟩ := ih fun y hy => h y (List.mem_cons_of_mem _ hy)
    exact ⟨t :: ss, rfl⟩
theorem open22 {k : Nat} {v : V} (h : VArg Try.prog (k + 2) 22 v) : ∃ (n : Bool) (ss : List Tx), v = V.sl (some n) n 1 (ss.map V.str) := by
  unfold VArg at h
  obtain ⟨vs, hv, h⟩ := h
  simp only [VT, Try.underlying22, Try.underlying9, ts9] at h
  obtain ⟨n, xs, h1, hn, _, hx⟩ := h
  obtain ⟨ss, rfl⟩ := ss_of (xs := xs) fun x hm => by
    obtain ⟨zs, hz, s, h4, _⟩ := hx x hm
    exact ⟨s, hz.trans (by rw [h4]; simp only [Sym.mk, ta9, List.headD_cons])⟩
  exact ⟨n, ss, hv.trans (by rw [h1]; simp only [Sym.mk, ta22, List.headD_cons])⟩
theorem open72 {k : Nat} {v : V} (h : VArg Try.prog (k + 4) 72 v) : ∃ (n : Bool) (ss : List Tx) (f m : Int), v = V.agg [V.sl (some n) n 1 (ss.map V.str), V.int .i64 f, V.int .i64 m] ∧ (n = true → ss = []) := by
  unfold VArg at h
  obtain ⟨vs, hv, h⟩ := h
  simp only [VT, Try.underlying72, VTs, Try.underlying22, Try.underlying9, Try.underlying3, ts22, ts3, ts9] at h
  obtain ⟨⟨n, xs, h1, hn, _, hx⟩, ⟨a, g1, ga⟩, ⟨b, g2, gb⟩, h3⟩ := h
  obtain ⟨ss, rfl⟩ := ss_of (xs := xs) fun x hm => by
    obtain ⟨zs, hz, s, h4, _⟩ := hx x hm
    exact ⟨s, hz.trans (by rw [h4]; simp only [Sym.mk, ta9, List.headD_cons])⟩
  refine ⟨n, ss, a, b, hv.trans ?_, fun h => by simpa using hn h⟩
  have e1 := take_one h1
  have e2 := take_one g1
  have e3 := take_one g2
  rw [h3] at e3
  rw [e3] at e2
  rw [e2] at e1
  simp only [Sym.mk, ta72, e1]
end Go.Proofs
