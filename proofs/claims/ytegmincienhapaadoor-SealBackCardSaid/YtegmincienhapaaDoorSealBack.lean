/-
  SealBack: what is sealed is opened as it was, 24 bytes longer; what is opened is sealed to what was; no two sectors or generations have one nonce, for all arguments.
-/
import Derived.Test.YtegmincienhapaaDoorM4
import Derived.Test.YtegmincienhapaaDoorCards
import Derived.Test.YtegmincienhapaaDoorTie
import Derived.ProofKit
import Derived.OpenShut
import Derived.LaidMore
import Derived.Lay
import Derived.SevenTiedAt
import Derived.Stop.Joined
set_option linter.unusedVariables false
set_option linter.unusedSimpArgs false
set_option maxRecDepth 1000000
namespace Go.Proofs.YtegmincienhapaaDoor
open Go Go.Sym
theorem sealBack_lifted (os : Os) (started : os.Started) (H : Type) (enc : TypeId × Value → H) :
    ReturnsInHanded {} Tryd.checked os 5 .any (fun w args => (Rows.sealBackSpec.pre enc Tryd.prog Tryd.f5 Rows.sealBackRow.domain false w args ∧ laidMetH Tryd.prog Rows.sealBackRow.laid w) ∧ sizedMet enc Tryd.prog Tryd.f5 (OpenSpec.ofChange Rows.sealBackSpec) false w args)
      (Rows.sealBackSpec.post enc Tryd.prog Tryd.f5 false true false false) := by
  refine returnsInHanded_of_change_and (C := Tryd.checked) (X := fun w _ => laidMetH Tryd.prog Rows.sealBackRow.laid w) (fun _ _ _ hh h => h.of_heap hh) Tryd.own started (by kernel_rfl) Tryd.func5
    (ChangeSpec.witness_shaped (enc := enc) (C := Tryd.checked) (os := os) (X := fun w _ => laidMetH Tryd.prog Rows.sealBackRow.laid w) false (World.laidAll Tryd.prog os Rows.sealBackRow.laid) #[.string ByteArray.empty, .int .i64 0, .int .i64 0, .int .u64 0, .int .u64 0, .string ByteArray.empty, .string ByteArray.empty, .int .i64 0, .int .u64 0] 8 (World.laidAll_os _ _ _)
      (World.shaped_of_ZipB (by kernel_rfl) (by kernel_rfl)) (by kernel_rfl) (by kernel_rfl) (by kernel_rfl)
      (by rw [MakeChecks.laidMetH_plain _ _ _ (by kernel_rfl)]; exact laidMet_laidAll _ (by kernel_rfl) (by kernel_rfl))) ?_
  intro W base args ds gs before hval hW hcnd _ _ _
  refine law_endL (P := Tryd.prog) (C := Tryd.cfg) (k := 4) (tb := 4) Tryd.libOk Tryd.mixed Tryd.progOk Tryd.laidOut (by kernel_rfl) rfl rfl Tryd.underlying4 ?_ ?_ (fun j t v h1 h2 => ⟨base, hval j t v h1 h2⟩) hW
  · intro ds hds
    match ds, hds with
    | [d, e, f, g, h, i, j, k, l], _ => exact ⟨rfl, rfl, rfl⟩
  · intro xs hxs
    obtain ⟨x1, x2, x3, x4, x5, x6, x7, x8, x9, rfl, h1, h2, h3, h4, h5, h6, h7, h8, h9⟩ := Opn.nine (P := Tryd.prog) (k := 4) (a := 9) (b := 3) (c := 3) (d := 36) (e := 36) (f := 9) (g := 9) (h := 3) (i := 36) hxs
    obtain ⟨s, rfl, _⟩ := Opn.open9 h1
    obtain ⟨i, rfl⟩ := Opn.open3 h2
    obtain ⟨a, rfl⟩ := Opn.open3 h3
    obtain ⟨g, rfl⟩ := Opn.open36 h4
    obtain ⟨l, rfl⟩ := Opn.open36 h5
    obtain ⟨d, rfl, _⟩ := Opn.open9 h6
    obtain ⟨t, rfl, _⟩ := Opn.open9 h7
    obtain ⟨b, rfl⟩ := Opn.open3 h8
    obtain ⟨m, rfl⟩ := Opn.open36 h9
    exact ⟨_, F5_ok (Gc.law_sealBack (k := 7300) s d t i a b g l m (Nat.le_refl _))⟩

theorem sealBack_row : Rows.SealBackSaid :=
  OpenClaim.holds_of_wide 5 Tryd.f5 rfl rfl rfl rfl rfl rfl rfl ⟨rfl, rfl, rfl, rfl, rfl⟩ rfl rfl rfl rfl rfl (by kernel_rfl) Tryd.func5 (by kernel_rfl)
    (of_decide_eq_true (by kernel_rfl)) (by unfold Func.isWrapper; first | (rw [if_pos (by decide +kernel)]; kernel_rfl) | (rw [if_neg (by decide +kernel)]; exact ⟨rfl, rfl⟩))
    (fun os started H enc _ => sealBack_lifted os started H enc)
theorem sealBack_holds : Rows.SealBackCardSaid :=
  Claim7.holds_tied_plain_at .later [] [.data, .pinned] true (true, "54a6429d481665aca09a510248411736228757f6a08b0e4cfbd9dcf184029f2a") false sealBack_row (fun _ h => by cases h) (by kernel_rfl) (fun _ h => by cases h) sealBack_row_tie rfl ⟨rfl, rfl⟩ (by kernel_rfl) rfl
    (fun f fn hf hfn => by
      obtain rfl : f = 5 := Option.some.inj ((show Tryd.prog.funcNamed "saltus/saltuslaw11.SealBack" = some 5 by kernel_rfl).symm.trans hf) |>.symm
      obtain rfl : fn = Tryd.f5 := (Option.some.inj (Tryd.func5.symm.trans hfn)).symm
      exact ⟨by kernel_rfl, fun j t ht => by
        rw [Tryd.params5] at ht
        have hm : t ∈ [9, 3, 3, 36, 36, 9, 9, 3, 36] := by simpa using Array.mem_of_getElem? ht
        have hall : ([9, 3, 3, 36, 36, 9, 9, 3, 36].all fun u => !Tryd.prog.wantsStandIn u) = true := by kernel_rfl
        exact (show Tryd.prog.wantsStandIn t = false by simpa using List.all_eq_true.1 hall t hm)⟩)
    (by kernel_rfl)
end Go.Proofs.YtegmincienhapaaDoor
