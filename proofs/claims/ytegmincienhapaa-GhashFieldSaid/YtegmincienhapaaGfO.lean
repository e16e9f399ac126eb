/- DERIVED. Texts as arguments. -/
import Derived.Test.YtegmincienhapaaBase
set_option linter.unusedVariables false
set_option maxRecDepth 100000
namespace Go.Proofs
open Go Go.Sym
theorem ta9 : tagg Try.prog 9 = some false := by kernel_rfl
theorem VArgs2 {P : Program} {k : Nat} {a b : TypeId} {xs : List V} (h : VArgs P k [a, b] xs) : ∃ x y, xs = [x, y] ∧ VArg P k a x ∧ VArg P k b y := by
  match xs, h with
  | [x, y], ⟨hx, hy, _⟩ => exact ⟨x, y, rfl, hx, hy⟩
theorem VArgs3 {P : Program} {k : Nat} {a b c : TypeId} {xs : List V} (h : VArgs P k [a, b, c] xs) : ∃ x y z, xs = [x, y, z] ∧ VArg P k a x ∧ VArg P k b y ∧ VArg P k c z := by
  match xs, h with
  | [x, y, z], ⟨hx, hy, hz, _⟩ => exact ⟨x, y, z, rfl, hx, hy, hz⟩
theorem open9 {k : Nat} {v : V} (h : VArg Try.prog (k + 1) 9 v) : ∃ t, v = V.str t := by
  unfold VArg at h
  obtain ⟨vs, hv, h⟩ := h
  simp only [VT, Try.underlying9] at h
  obtain ⟨t, h1, _⟩ := h
  exact ⟨t, hv.trans (by rw [h1]; simp only [Sym.mk, ta9, List.headD_cons])⟩
end Go.Proofs
