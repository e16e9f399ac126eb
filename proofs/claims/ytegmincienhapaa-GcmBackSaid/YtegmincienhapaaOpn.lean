/-
  What an argument of a type is, of this seat's laws.
-/
import Derived.Test.YtegmincienhapaaBase
import Derived.Test.YtegmincienhapaaSymPlain
set_option linter.unusedVariables false
set_option linter.unusedSimpArgs false
set_option maxRecDepth 100000
namespace Go.Proofs.Opn
open Go Go.Sym

theorem ta9 : tagg Try.prog 9 = some false := by kernel_rfl
theorem four {P : Program} {k : Nat} {a b c d : TypeId} {xs : List V} (h : VArgs P k [a, b, c, d] xs) : ∃ x y z w, xs = [x, y, z, w] ∧ VArg P k a x ∧ VArg P k b y ∧ VArg P k c z ∧ VArg P k d w := by
  match xs, h with
  | [x, y, z, w], ⟨hx, hy, hz, hw, _⟩ => exact ⟨x, y, z, w, rfl, hx, hy, hz, hw⟩
theorem open9 {k : Nat} {v : V} (h : VArg Try.prog (k + 1) 9 v) : ∃ s : List UInt8, v = V.str s ∧ s.length ≤ maxLen := by
  unfold VArg at h
  obtain ⟨vs, hv, h⟩ := h
  simp only [VT, Try.underlying9] at h
  obtain ⟨s, h1, hw⟩ := h
  exact ⟨s, hv.trans (by rw [h1]; simp only [Sym.mk, ta9, List.headD_cons]), hw⟩
end Go.Proofs.Opn
