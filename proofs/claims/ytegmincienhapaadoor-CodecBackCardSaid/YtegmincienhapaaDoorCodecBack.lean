/-
  CodecBack: what is joined is split as it was; what is split, joined, is those bytes, for all fields, bytes and kinds.
-/
import Derived.Test.YtegmincienhapaaDoorCdD
import Derived.Test.YtegmincienhapaaDoorOpn
import Derived.Test.YtegmincienhapaaDoorCards
import Derived.Test.YtegmincienhapaaDoorTie
import Derived.ProofKit
import Derived.OpenShut
import Derived.LaidMore
import Derived.Lay
import Derived.SevenTiedAt
import Derived.Stop.Joined
set_option linter.unusedVariables false
set_option linter.unusedSimpArgs false
set_option maxRecDepth 100000
namespace Go.Proofs
open Go Go.Sym
theorem fds_of {xs : List V} (h : ∀ x ∈ xs, ∃ (t : Bool) (w : Wd) (s : List UInt8), x = V.agg [V.bool t, V.int .u64 (w.toNat : Int), V.str s] ∧ s.length ≤ maxLen) : ∃ l : List Fd, xs = l.map fv := by
  induction xs with
  | nil => exact ⟨[], rfl⟩
  | cons x r ih =>
    obtain ⟨t, w, s, rfl, _⟩ := h x (List.mem_cons_self ..)
    obtain ⟨l, rfl⟩ := ih fun y hy => h y (List.mem_cons_of_mem _ hy)
    exact ⟨⟨t, w, s⟩ :: l, rfl⟩
end Go.Proofs
namespace Go.Proofs.YtegmincienhapaaDoor
open Go Go.Sym
theorem codecBack_lifted (os : Os) (started : os.Started) (H : Type) (enc : TypeId × Value → H) :
    ReturnsInHanded {} Tryd.checked os 4 .any (fun w args => (Rows.codecBackSpec.pre enc Tryd.prog Tryd.f4 Rows.codecBackRow.domain false w args ∧ laidMetH Tryd.prog Rows.codecBackRow.laid w) ∧ sizedMet enc Tryd.prog Tryd.f4 (OpenSpec.ofChange Rows.codecBackSpec) false w args)
      (Rows.codecBackSpec.post enc Tryd.prog Tryd.f4 false true false false) := by
  refine returnsInHanded_of_change_and (C := Tryd.checked) (X := fun w _ => laidMetH Tryd.prog Rows.codecBackRow.laid w) (fun _ _ _ hh h => h.of_heap hh) Tryd.own started (by kernel_rfl) Tryd.func4
    (ChangeSpec.witness_shaped (enc := enc) (C := Tryd.checked) (os := os) (X := fun w _ => laidMetH Tryd.prog Rows.codecBackRow.laid w) false (World.laidAll Tryd.prog os Rows.codecBackRow.laid) #[.slice none 0 0, .string ByteArray.empty, .string ByteArray.empty] 8 (World.laidAll_os _ _ _)
      (World.shaped_of_ZipB (by kernel_rfl) (by kernel_rfl)) (by kernel_rfl) (by kernel_rfl) (by kernel_rfl)
      (by rw [MakeChecks.laidMetH_plain _ _ _ (by kernel_rfl)]; exact laidMet_laidAll _ (by kernel_rfl) (by kernel_rfl))) ?_
  intro W base args ds gs before hval hW hcnd _ _ _
  refine law_endL (P := Tryd.prog) (C := Tryd.cfg) (k := 4) (tb := 4) Tryd.libOk Tryd.mixed Tryd.progOk Tryd.laidOut (by kernel_rfl) rfl rfl Tryd.underlying4 ?_ ?_ (fun j t v h1 h2 => ⟨base, hval j t v h1 h2⟩) hW
  · intro ds hds
    match ds, hds with
    | [d, e, f], _ => exact ⟨rfl, rfl, rfl⟩
  · intro xs hxs
    obtain ⟨x, y, z, rfl, hx, hy, hz⟩ := Opn.three (P := Tryd.prog) (k := 4) (a := 22) (b := 9) (c := 9) hxs
    obtain ⟨n, x, rfl, _, hl⟩ := Opn.open22 hx
    obtain ⟨l, rfl⟩ := fds_of hl
    obtain ⟨a, rfl, ha⟩ := Opn.open9 hy
    obtain ⟨b, rfl, _⟩ := Opn.open9 hz
    exact ⟨_, F4_ok (law_codecBack (k := 7000) (Nat.lt_of_le_of_lt ha (by decide)) (Nat.le_refl _))⟩

theorem codecBack_row : Rows.CodecBackSaid :=
  OpenClaim.holds_of_wide 4 Tryd.f4 rfl rfl rfl rfl rfl rfl rfl ⟨rfl, rfl, rfl, rfl, rfl⟩ rfl rfl rfl rfl rfl (by kernel_rfl) Tryd.func4 (by kernel_rfl)
    (of_decide_eq_true (by kernel_rfl)) (by unfold Func.isWrapper; first | (rw [if_pos (by decide +kernel)]; kernel_rfl) | (rw [if_neg (by decide +kernel)]; exact ⟨rfl, rfl⟩))
    (fun os started H enc _ => codecBack_lifted os started H enc)
theorem codecBack_holds : Rows.CodecBackCardSaid :=
  Claim7.holds_tied_plain_at .later [] [.data, .pinned] true (true, "54a6429d481665aca09a510248411736228757f6a08b0e4cfbd9dcf184029f2a") false codecBack_row (fun _ h => by cases h) (by kernel_rfl) (fun _ h => by cases h) codecBack_row_tie rfl ⟨rfl, rfl⟩ (by kernel_rfl) rfl
    (fun f fn hf hfn => by
      obtain rfl : f = 4 := Option.some.inj ((show Tryd.prog.funcNamed "saltus/saltuslaw02.CodecBack" = some 4 by kernel_rfl).symm.trans hf) |>.symm
      obtain rfl : fn = Tryd.f4 := (Option.some.inj (Tryd.func4.symm.trans hfn)).symm
      exact ⟨by kernel_rfl, fun j t ht => by
        rw [Tryd.params4] at ht
        have hm : t ∈ [22, 9, 9] := by simpa using Array.mem_of_getElem? ht
        have hall : ([22, 9, 9].all fun u => !Tryd.prog.wantsStandIn u) = true := by kernel_rfl
        exact (show Tryd.prog.wantsStandIn t = false by simpa using List.all_eq_true.1 hall t hm)⟩)
    (by kernel_rfl)
end Go.Proofs.YtegmincienhapaaDoor
