/-
  CodecJoins: any number's, text's and fields' bytes are as the document says, or refused.
-/
import Derived.Test.YtegmincienhapaaCdB
import Derived.Test.YtegmincienhapaaOpn
set_option linter.unusedVariables false
set_option maxRecDepth 100000
namespace Go.Proofs
open Go Go.Sym
theorem fds_of {xs : List V} (h : ∀ x ∈ xs, ∃ (t : Bool) (w : Wd) (s : List UInt8), x = V.agg [V.bool t, V.int .u64 (w.toNat : Int), V.str s] ∧ s.length ≤ maxLen) : ∃ l : List Fd, xs = l.map fv := by
  induction xs with
  | nil => exact ⟨[], rfl⟩
  | cons x r ih =>
    obtain ⟨t, w, s, rfl, _⟩ := h x (List.mem_cons_self ..)
    obtain ⟨l, rfl⟩ := ih fun y hy => h y (List.mem_cons_of_mem _ hy)
    exact ⟨⟨t, w, s⟩ :: l, rfl⟩
end Go.Proofs
namespace Go.Proofs.Ytegmincienhapaa
open Go.Sym
theorem codecJoins_lifted (os : Os) (started : os.Started) (H : Type) (enc : TypeId × Value → H) :
    ReturnsInHanded {} Try.checked os 4 .any (Rows.codecJoinsSpec.pre6 enc Try.prog Try.f4 Rows.codecJoinsRow.domain false) (Rows.codecJoinsSpec.post enc Try.prog Try.f4 false true false false) := by
  refine returnsInHanded_of_change (C := Try.checked) Try.own started (by kernel_rfl) Try.func4
    (ChangeSpec.witness6 (enc := enc) (C := Try.checked) false ⟨#[], #[.int .u64 0, .string .empty, .slice none 0 0], []⟩ 8 (by kernel_rfl) (by kernel_rfl) (by kernel_rfl) (by kernel_rfl)) ?_
  intro W base args ds gs before hval hW hcnd _
  refine law_endL (P := Try.prog) (C := Try.cfg) (k := 4) (tb := 4) Try.libOk Try.mixed Try.progOk Try.laidOut (by kernel_rfl) rfl rfl Try.underlying4 ?_ ?_ (fun j t v h1 h2 => ⟨base, hval j t v h1 h2⟩) hW
  · intro ds hds
    match ds, hds with
    | [d, e, f], _ => exact ⟨rfl, rfl, rfl⟩
  · intro xs hxs
    obtain ⟨x, y, z, rfl, hx, hy, hz⟩ := Opn.three (P := Try.prog) (k := 4) (a := 22) (b := 9) (c := 28) hxs
    obtain ⟨n, rfl⟩ := Opn.open22 hx
    obtain ⟨s, rfl, _⟩ := Opn.open9 hy
    obtain ⟨q, l, rfl, _, hl⟩ := Opn.open28 hz
    obtain ⟨l, rfl⟩ := fds_of hl
    exact ⟨_, F4_ok (law_codecJoins (k := 200) (Nat.le_refl _))⟩

theorem codecJoins_holds : Rows.CodecJoinsSaid :=
  OpenClaim.holds_of_wide 4 Try.f4 rfl rfl rfl rfl rfl rfl rfl ⟨rfl, rfl, rfl, rfl, rfl⟩ rfl rfl rfl rfl rfl (by kernel_rfl) Try.func4 (by kernel_rfl)
    (of_decide_eq_true (by kernel_rfl)) (by unfold Func.isWrapper; first | (rw [if_pos (by decide +kernel)]; kernel_rfl) | (rw [if_neg (by decide +kernel)]; exact ⟨rfl, rfl⟩))
    (fun os started H enc _ => codecJoins_lifted os started H enc)
end Go.Proofs.Ytegmincienhapaa
