/-
  ModelReads.
-/
import Derived.Test.YtfjloeemhiffgaaMoO
import Derived.Test.YtfjloeemhiffgaaMoG
import Derived.ProofKit
import Derived.OpenShut
import Derived.Stop.Joined
set_option linter.unusedVariables false
set_option linter.unusedSimpArgs false
set_option maxRecDepth 100000
namespace Go.Proofs.Ytfjloeemhiffgaa
open Go.Sym
theorem modelReads_lifted (os : Os) (started : os.Started) (H : Type) (enc : TypeId × Value → H) :
    ReturnsInHanded {} Try.checked os 15 .any (Rows.modelReadsSpec.pre6 enc Try.prog Try.f15 Rows.modelReadsRow.domain false) (Rows.modelReadsSpec.post enc Try.prog Try.f15 false true false false) := by
  refine returnsInHanded_of_change (C := Try.checked) Try.own started (by kernel_rfl) Try.func15
    (ChangeSpec.witness6 (enc := enc) (C := Try.checked) false ⟨#[], #[.slice none 0 0, .int .i64 0, .int .u64 0, .string ⟨#[]⟩, .int .u64 0], []⟩ 8 (by kernel_rfl) (by kernel_rfl) (by kernel_rfl) (by kernel_rfl)) ?_
  intro W base args ds gs before hval hW hcnd _
  refine law_endL (P := Try.prog) (C := Try.cfg) (k := 4) (tb := 4) Try.libOk Try.mixed Try.progOk Try.laidOut (by kernel_rfl) rfl rfl Try.underlying4 ?_ ?_ (fun j t v h1 h2 => ⟨base, hval j t v h1 h2⟩) hW
  · intro ds hds
    match ds, hds with
    | [d, e, f, g, h], _ => exact ⟨rfl, rfl, rfl⟩
  · intro xs hxs
    obtain ⟨x, y, z, w, u, rfl, hx, hy, hz, hw, hu⟩ := Mo.VArgs_five (P := Try.prog) (k := 4) (a := 74) (b := 3) (c := 22) (d := 9) (e := 22) hxs
    obtain ⟨n, l, rfl⟩ := Mo.open74 hx
    obtain ⟨q, rfl⟩ := Mo.open3 hy
    obtain ⟨a, rfl, ha⟩ := Mo.open22 hz
    obtain ⟨s, rfl⟩ := Mo.open9 hw
    obtain ⟨e, rfl, he⟩ := Mo.open22 hu
    exact ⟨_, F15_ok (Mo.law_modelReads ha he)⟩

theorem modelReads_holds : Rows.ModelReadsSaid :=
  OpenClaim.holds_of_wide 15 Try.f15 rfl rfl rfl rfl rfl rfl rfl ⟨rfl, rfl, rfl, rfl, rfl⟩ rfl rfl rfl rfl rfl (by kernel_rfl) Try.func15 (by kernel_rfl)
    (of_decide_eq_true (by kernel_rfl)) (by unfold Func.isWrapper; first | (rw [if_pos (by decide +kernel)]; kernel_rfl) | (rw [if_neg (by decide +kernel)]; exact ⟨rfl, rfl⟩))
    (fun os started H enc _ => modelReads_lifted os started H enc)
end Go.Proofs.Ytfjloeemhiffgaa
