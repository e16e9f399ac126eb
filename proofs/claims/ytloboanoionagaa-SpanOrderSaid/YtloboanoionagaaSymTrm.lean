/- DERIVED. strings.Trim at ASCII bytes; the library's functions, one behind the other. -/
import Derived.Test.YtloboanoionagaaSymBld
import Derived.Shelf.Strings.SlTrimAscii
set_option linter.unusedVariables false
set_option linter.unusedSimpArgs false
namespace Go.Sym
open Go Go.Shelf Go.RowKit Go.Proofs
variable {P : Program} {ρ : Go.Shelf.Ren}
theorem fnOk_Trim (L : Lays.n160 P ρ) (h116 : (P.info? (ρ.t 116)).map (fun i => (i.zero, i.size)) = some (some (.agg (Array.replicate 256 (.bool false))), 256)) {K : Lk} (hk : K.k = 5) {args : List V} {hp : List (Nat × Ob)} {nx : Nat} {v : V} {hp' : List (Nat × Ob)} {nx' : Nat}
    (h : libSem K args hp nx = some (v, hp', nx')) : FnOk Fence.wide P (ρ.f 160) args hp nx v hp' nx' := by
  unfold libSem at h
  rw [hk] at h
  simp only at h
  split at h
  · rename_i s c
    rw [guardP_some] at h
    obtain ⟨⟨h0, h1, h2⟩, h⟩ := h
    cases h
    refine ⟨⟨_, L.f160, by kernel_rfl, rfl⟩, fun n Γ us H hh hn hargs => ?_⟩
    obtain ⟨hl, hv⟩ := hargs
    obtain ⟨u0, u1, rfl⟩ : ∃ u0 u1, us = #[u0, u1] := by
      match us, hl with
      | ⟨[a, b]⟩, _ => exact ⟨a, b, rfl⟩
    obtain ⟨sx, rfl, rfl⟩ := (hv 0 _ u0 rfl rfl).str_inv
    obtain ⟨cx, rfl, rfl⟩ := (hv 1 _ u1 rfl rfl).str_inv
    refine callsIn_wide.2 (Calls.mono (Any.strings_Trim_laid L h116 sx cx Γ.w (by have := Lib.size_eq sx; simp only [maxBld] at h0; omega) (by have := Lib.size_eq cx; omega) (ascii_of_all h2)) ?_)
    rintro e w' ⟨rfl, hb⟩
    simp only
    obtain ⟨H1, E1⟩ := step_ext H w' Γ.n (fun _ _ => False) (fun k hk => hb.block k hk) hb.size hb.os hb.tape hb.output (fun _ h => h) (fun _ _ h => h.elim)
    have e : (fun b o => Γ.Z b o ∨ False) = Γ.Z := by funext b o; simp
    rw [e] at H1 E1
    refine ⟨_, rfl, H1, hh, hn, E1, ?_⟩
    have e1 : trimB sx.data.toList cx.data.toList = Lib.trimS sx.data.toList cx.data.toList := rfl
    rw [e1]
    have e2 : (⟨(Lib.trimS sx.data.toList cx.data.toList).toArray⟩ : ByteArray).data.toList = Lib.trimS sx.data.toList cx.data.toList := by simp
    have q : VR { Γ with w := w' } (.str (⟨(Lib.trimS sx.data.toList cx.data.toList).toArray⟩ : ByteArray).data.toList) (.string ⟨(Lib.trimS sx.data.toList cx.data.toList).toArray⟩) := .pure (.str _)
    rw [e2] at q; exact q
  · cases h

/-- Functions of the library that are told rightly. -/
def LibL (P : Program) (l : List (Nat × Lk)) : Prop := ∀ f kind args hp nx v hp' nx', look l f = some kind → libSem kind args hp nx = some (v, hp', nx') → FnOk Fence.wide P f args hp nx v hp' nx'
theorem LibL.nil : LibL P [] := fun _ _ _ _ _ _ _ _ h => by cases h
theorem LibL.cons {f : Nat} {K : Lk} {l : List (Nat × Lk)} (h : ∀ args hp nx v hp' nx', libSem K args hp nx = some (v, hp', nx') → FnOk Fence.wide P f args hp nx v hp' nx') (t : LibL P l) : LibL P ((f, K) :: l) := by
  intro g kind args hp nx v hp' nx' hl hs
  simp only [look] at hl
  split at hl
  · rename_i e; cases hl; subst e; exact h _ _ _ _ _ _ hs
  · exact t _ _ _ _ _ _ _ _ hl hs
theorem LibL.ok {C : Cfg} {l : List (Nat × Lk)} (h : LibL P l) (hC : C.lib = l) : LibOk Fence.wide P C := by
  intro f kind args hp nx v hp' nx' hl hs
  rw [hC] at hl
  exact h _ _ _ _ _ _ _ _ hl hs
end Go.Sym
