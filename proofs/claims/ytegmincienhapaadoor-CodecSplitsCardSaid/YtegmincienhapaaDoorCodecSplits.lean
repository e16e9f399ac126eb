/-
  CodecSplits: the fields of any kinds that any bytes tell, or the error, and where, are as the document says, for all bytes and kinds.
-/
import Derived.Test.YtegmincienhapaaDoorCdD
import Derived.Test.YtegmincienhapaaDoorOpn
import Derived.Test.YtegmincienhapaaDoorCards
import Derived.Test.YtegmincienhapaaDoorTie
import Derived.ProofKit
import Derived.OpenShut
import Derived.LaidMore
import Derived.Lay
import Derived.SevenTiedAt
import Derived.Stop.Joined
set_option linter.unusedVariables false
set_option linter.unusedSimpArgs false
set_option maxRecDepth 100000
namespace Go.Proofs.YtegmincienhapaaDoor
open Go Go.Sym
theorem codecSplits_lifted (os : Os) (started : os.Started) (H : Type) (enc : TypeId × Value → H) :
    ReturnsInHanded {} Tryd.checked os 3 .any (fun w args => (Rows.codecSplitsSpec.pre enc Tryd.prog Tryd.f3 Rows.codecSplitsRow.domain false w args ∧ laidMetH Tryd.prog Rows.codecSplitsRow.laid w) ∧ sizedMet enc Tryd.prog Tryd.f3 (OpenSpec.ofChange Rows.codecSplitsSpec) false w args)
      (Rows.codecSplitsSpec.post enc Tryd.prog Tryd.f3 false true false false) := by
  refine returnsInHanded_of_change_and (C := Tryd.checked) (X := fun w _ => laidMetH Tryd.prog Rows.codecSplitsRow.laid w) (fun _ _ _ hh h => h.of_heap hh) Tryd.own started (by kernel_rfl) Tryd.func3
    (ChangeSpec.witness_shaped (enc := enc) (C := Tryd.checked) (os := os) (X := fun w _ => laidMetH Tryd.prog Rows.codecSplitsRow.laid w) false (World.laidAll Tryd.prog os Rows.codecSplitsRow.laid) #[.string ByteArray.empty, .string ByteArray.empty] 8 (World.laidAll_os _ _ _)
      (World.shaped_of_ZipB (by kernel_rfl) (by kernel_rfl)) (by kernel_rfl) (by kernel_rfl) (by kernel_rfl)
      (by rw [MakeChecks.laidMetH_plain _ _ _ (by kernel_rfl)]; exact laidMet_laidAll _ (by kernel_rfl) (by kernel_rfl))) ?_
  intro W base args ds gs before hval hW hcnd _ _ _
  refine law_endL (P := Tryd.prog) (C := Tryd.cfg) (k := 4) (tb := 4) Tryd.libOk Tryd.mixed Tryd.progOk Tryd.laidOut (by kernel_rfl) rfl rfl Tryd.underlying4 ?_ ?_ (fun j t v h1 h2 => ⟨base, hval j t v h1 h2⟩) hW
  · intro ds hds
    match ds, hds with
    | [d, e], _ => exact ⟨rfl, rfl, rfl⟩
  · intro xs hxs
    obtain ⟨x, y, rfl, hx, hy⟩ := Opn.two (P := Tryd.prog) (k := 4) (a := 9) (b := 9) hxs
    obtain ⟨a, rfl, ha⟩ := Opn.open9 hx
    obtain ⟨b, rfl, _⟩ := Opn.open9 hy
    exact ⟨_, F3_ok (law_codecSplits (k := 7000) (Nat.lt_of_le_of_lt ha (by decide)) (Nat.le_refl _))⟩

theorem codecSplits_row : Rows.CodecSplitsSaid :=
  OpenClaim.holds_of_wide 3 Tryd.f3 rfl rfl rfl rfl rfl rfl rfl ⟨rfl, rfl, rfl, rfl, rfl⟩ rfl rfl rfl rfl rfl (by kernel_rfl) Tryd.func3 (by kernel_rfl)
    (of_decide_eq_true (by kernel_rfl)) (by unfold Func.isWrapper; first | (rw [if_pos (by decide +kernel)]; kernel_rfl) | (rw [if_neg (by decide +kernel)]; exact ⟨rfl, rfl⟩))
    (fun os started H enc _ => codecSplits_lifted os started H enc)
theorem codecSplits_holds : Rows.CodecSplitsCardSaid :=
  Claim7.holds_tied_plain_at .later [] [.data, .pinned] true (true, "54a6429d481665aca09a510248411736228757f6a08b0e4cfbd9dcf184029f2a") false codecSplits_row (fun _ h => by cases h) (by kernel_rfl) (fun _ h => by cases h) codecSplits_row_tie rfl ⟨rfl, rfl⟩ (by kernel_rfl) rfl
    (fun f fn hf hfn => by
      obtain rfl : f = 3 := Option.some.inj ((show Tryd.prog.funcNamed "saltus/saltuslaw02.CodecSplits" = some 3 by kernel_rfl).symm.trans hf) |>.symm
      obtain rfl : fn = Tryd.f3 := (Option.some.inj (Tryd.func3.symm.trans hfn)).symm
      exact ⟨by kernel_rfl, fun j t ht => by
        rw [Tryd.params3] at ht
        have hm : t ∈ [9, 9] := by simpa using Array.mem_of_getElem? ht
        have hall : ([9, 9].all fun u => !Tryd.prog.wantsStandIn u) = true := by kernel_rfl
        exact (show Tryd.prog.wantsStandIn t = false by simpa using List.all_eq_true.1 hall t hm)⟩)
    (by kernel_rfl)
end Go.Proofs.YtegmincienhapaaDoor
