/-
  ModelClears.
-/
import Derived.Test.YtfjloeemhiffgaaMoO
import Derived.ProofKit
import Derived.OpenShut
import Derived.Stop.Joined
set_option linter.unusedVariables false
set_option linter.unusedSimpArgs false
set_option maxRecDepth 100000
namespace Go.Proofs.Ytfjloeemhiffgaa
open Go.Sym
theorem modelClears_lifted (os : Os) (started : os.Started) (H : Type) (enc : TypeId × Value → H) :
    ReturnsInHanded {} Try.checked os 14 .any (Rows.modelClearsSpec.pre6 enc Try.prog Try.f14 Rows.modelClearsRow.domain false) (Rows.modelClearsSpec.post enc Try.prog Try.f14 false true false false) := by
  refine returnsInHanded_of_change (C := Try.checked) Try.own started (by kernel_rfl) Try.func14
    (ChangeSpec.witness6 (enc := enc) (C := Try.checked) false ⟨#[], #[.slice none 0 0, .agg #[.int .u64 0, .int .u64 0]], []⟩ 8 (by kernel_rfl) (by kernel_rfl) (by kernel_rfl) (by kernel_rfl)) ?_
  intro W base args ds gs before hval hW hcnd _
  refine law_endL (P := Try.prog) (C := Try.cfg) (k := 4) (tb := 4) Try.libOk Try.mixed Try.progOk Try.laidOut (by kernel_rfl) rfl rfl Try.underlying4 ?_ ?_ (fun j t v h1 h2 => ⟨base, hval j t v h1 h2⟩) hW
  · intro ds hds
    match ds, hds with
    | [d, e], _ => exact ⟨rfl, rfl, rfl⟩
  · intro xs hxs
    obtain ⟨x, y, rfl, hx, hy⟩ := Mo.VArgs_two (P := Try.prog) (k := 4) (a := 74) (b := 24) hxs
    obtain ⟨n, l, rfl⟩ := Mo.open74 hx
    obtain ⟨a2, n2, rfl, ha2, hn2⟩ := Mo.open24 hy
    exact ⟨_, F14_ok (Mo.law_modelClears ha2 hn2)⟩

theorem modelClears_holds : Rows.ModelClearsSaid :=
  OpenClaim.holds_of_wide 14 Try.f14 rfl rfl rfl rfl rfl rfl rfl ⟨rfl, rfl, rfl, rfl, rfl⟩ rfl rfl rfl rfl rfl (by kernel_rfl) Try.func14 (by kernel_rfl)
    (of_decide_eq_true (by kernel_rfl)) (by unfold Func.isWrapper; first | (rw [if_pos (by decide +kernel)]; kernel_rfl) | (rw [if_neg (by decide +kernel)]; exact ⟨rfl, rfl⟩))
    (fun os started H enc _ => modelClears_lifted os started H enc)
end Go.Proofs.Ytfjloeemhiffgaa
