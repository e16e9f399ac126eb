/- DERIVED. strings.Trim at ASCII bytes; the library's functions, one behind the other. -/
import Derived.Test.YtfjloeemhiffgaaSymBld
import Derived.Shelf.Strings.SlTrimAscii
set_option linter.unusedVariables false
set_option linter.unusedSimpArgs false
namespace Go.Sym
open Go Go.Shelf Go.RowKit Go.Proofs
variable {P : Program} {ρ : Go.Shelf.Ren}
/-- Functions of the library that are told rightly. -/
def LibL (P : Program) (l : List (Nat × Lk)) : Prop := ∀ f kind args hp nx v hp' nx', look l f = some kind → libSem kind args hp nx = some (v, hp', nx') → FnOk Fence.wide P f args hp nx v hp' nx'
theorem LibL.nil : LibL P [] := fun _ _ _ _ _ _ _ _ h => by cases h
theorem LibL.cons {f : Nat} {K : Lk} {l : List (Nat × Lk)} (h : ∀ args hp nx v hp' nx', libSem K args hp nx = some (v, hp', nx') → FnOk Fence.wide P f args hp nx v hp' nx') (t : LibL P l) : LibL P ((f, K) :: l) := by
  intro g kind args hp nx v hp' nx' hl hs
  simp only [look] at hl
  split at hl
  · rename_i e; cases hl; subst e; exact h _ _ _ _ _ _ hs
  · exact t _ _ _ _ _ _ _ _ hl hs
theorem LibL.ok {C : Cfg} {l : List (Nat × Lk)} (h : LibL P l) (hC : C.lib = l) : LibOk Fence.wide P C := by
  intro f kind args hp nx v hp' nx' hl hs
  rw [hC] at hl
  exact h _ _ _ _ _ _ _ _ hl hs
end Go.Sym
