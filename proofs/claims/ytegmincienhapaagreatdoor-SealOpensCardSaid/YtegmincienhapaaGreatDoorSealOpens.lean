/-
  SealOpens: whether any text is opened, and what it tells, is as the document says, or refused, for all keys, kinds, sectors, numbers and texts.
-/
import Derived.Test.YtegmincienhapaaGreatDoorM5
import Derived.Test.YtegmincienhapaaGreatDoorCards
import Derived.Test.YtegmincienhapaaGreatDoorTie
import Derived.ProofKit
import Derived.OpenShut
import Derived.LaidMore
import Derived.Lay
import Derived.SevenTiedAt
import Derived.Stop.Joined
set_option linter.unusedVariables false
set_option linter.unusedSimpArgs false
set_option maxRecDepth 1000000
namespace Go.Proofs.YtegmincienhapaaGreatDoor
open Go Go.Sym
theorem sealOpens_lifted (os : Os) (started : os.Started) (H : Type) (enc : TypeId × Value → H) :
    ReturnsInHanded {} Tryz.checked os 3 .any (fun w args => (Rows.sealOpensSpec.pre enc Tryz.prog Tryz.f3 Rows.sealOpensRow.domain false w args ∧ laidMetH Tryz.prog Rows.sealOpensRow.laid w) ∧ sizedMet enc Tryz.prog Tryz.f3 (OpenSpec.ofChange Rows.sealOpensSpec) false w args)
      (Rows.sealOpensSpec.post enc Tryz.prog Tryz.f3 false true false false) := by
  refine returnsInHanded_of_change_and (C := Tryz.checked) (X := fun w _ => laidMetH Tryz.prog Rows.sealOpensRow.laid w) (fun _ _ _ hh h => h.of_heap hh) Tryz.own started (by kernel_rfl) Tryz.func3
    (ChangeSpec.witness_shaped (enc := enc) (C := Tryz.checked) (os := os) (X := fun w _ => laidMetH Tryz.prog Rows.sealOpensRow.laid w) false (World.laidAll Tryz.prog os Rows.sealOpensRow.laid) #[.string ByteArray.empty, .int .i64 0, .int .i64 0, .int .u64 0, .string ByteArray.empty] 8 (World.laidAll_os _ _ _)
      (World.shaped_of_ZipB (by kernel_rfl) (by kernel_rfl)) (by kernel_rfl) (by kernel_rfl) (by kernel_rfl)
      (by rw [MakeChecks.laidMetH_plain _ _ _ (by kernel_rfl)]; exact laidMet_laidAll _ (by kernel_rfl) (by kernel_rfl))) ?_
  intro W base args ds gs before hval hW hcnd _ _ _
  refine law_endL (P := Tryz.prog) (C := Tryz.cfg) (k := 4) (tb := 4) Tryz.libOk Tryz.mixed Tryz.progOk Tryz.laidOut (by kernel_rfl) rfl rfl Tryz.underlying4 ?_ ?_ (fun j t v h1 h2 => ⟨base, hval j t v h1 h2⟩) hW
  · intro ds hds
    match ds, hds with
    | [d, e, f, g, h], _ => exact ⟨rfl, rfl, rfl⟩
  · intro xs hxs
    obtain ⟨x, y, z, w, u, rfl, hx, hy, hz, hw, hu⟩ := Opn.five (P := Tryz.prog) (k := 4) (a := 9) (b := 3) (c := 3) (d := 22) (e := 9) hxs
    obtain ⟨s, rfl, _⟩ := Opn.open9 hx
    obtain ⟨i, rfl⟩ := Opn.open3 hy
    obtain ⟨j, rfl⟩ := Opn.open3 hz
    obtain ⟨l, rfl⟩ := Opn.open22 hw
    obtain ⟨b, rfl, _⟩ := Opn.open9 hu
    exact ⟨_, F3_ok (Gc.law_sealOpens (k := 7300) s b i j l (Nat.le_refl _))⟩

theorem sealOpens_row : Rows.SealOpensSaid :=
  OpenClaim.holds_of_wide 3 Tryz.f3 rfl rfl rfl rfl rfl rfl rfl ⟨rfl, rfl, rfl, rfl, rfl⟩ rfl rfl rfl rfl rfl (by kernel_rfl) Tryz.func3 (by kernel_rfl)
    (of_decide_eq_true (by kernel_rfl)) (by unfold Func.isWrapper; first | (rw [if_pos (by decide +kernel)]; kernel_rfl) | (rw [if_neg (by decide +kernel)]; exact ⟨rfl, rfl⟩))
    (fun os started H enc _ => sealOpens_lifted os started H enc)
theorem sealOpens_holds : Rows.SealOpensCardSaid :=
  Claim7.holds_tied_plain_at .later [] [.data, .pinned] true (true, "fd441b02b26cdcd1eb8f00ca3d693de1045e52ec322cd8b52509ef20e1cbf99c") false sealOpens_row (fun _ h => by cases h) (by kernel_rfl) (fun _ h => by cases h) sealOpens_row_tie rfl ⟨rfl, rfl⟩ (by kernel_rfl) rfl
    (fun f fn hf hfn => by
      obtain rfl : f = 3 := Option.some.inj ((show Tryz.prog.funcNamed "saltus/saltuslaw11.SealOpens" = some 3 by kernel_rfl).symm.trans hf) |>.symm
      obtain rfl : fn = Tryz.f3 := (Option.some.inj (Tryz.func3.symm.trans hfn)).symm
      exact ⟨by kernel_rfl, fun j t ht => by
        rw [Tryz.params3] at ht
        have hm : t ∈ [9, 3, 3, 22, 9] := by simpa using Array.mem_of_getElem? ht
        have hall : ([9, 3, 3, 22, 9].all fun u => !Tryz.prog.wantsStandIn u) = true := by kernel_rfl
        exact (show Tryz.prog.wantsStandIn t = false by simpa using List.all_eq_true.1 hall t hm)⟩)
    (by kernel_rfl)
end Go.Proofs.YtegmincienhapaaGreatDoor
