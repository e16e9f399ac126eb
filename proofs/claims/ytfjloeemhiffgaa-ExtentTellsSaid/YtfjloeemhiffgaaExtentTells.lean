/-
  ExtentTells: whether any runs may be, how many blocks they have, any block's state, and which two are the same, is as the document says, or refused, for all runs and numbers.
-/
import Derived.Test.YtfjloeemhiffgaaExO
import Derived.Test.YtfjloeemhiffgaaEx12
set_option linter.unusedVariables false
set_option linter.unusedSimpArgs false
set_option maxRecDepth 100000
namespace Go.Proofs
open Go Go.Sym Go.Sym.Ex
theorem law_extentTells {k n : Nat} {o p : Option Bool} {b c : Bool} {l m : List Rn} (hw : ∀ r ∈ l, Wf r) (hn : n < 18446744073709551616) (hk : 2000 ≤ k) :
    F12 k o b 3 (l.map rv) p c 3 (m.map rv) (n : Int) = some true := by
  unfold F12
  have hl : (l.take 66).length ≤ 70 := by simp; omega
  have hw2 : ∀ r ∈ l.take 66, Wf r := fun r h => hw r (List.mem_of_mem_take h)
  rw [g35, Option.bind_some]
  simp only
  rw [g35, Option.bind_some]
  simp only
  generalize l.take 66 = l at hl hw2
  generalize m.take 66 = m
  rw [g46 (by omega) hw2 (by omega), Option.bind_some]
  rw [g44 hn (by omega) hw2 (by omega), g45 (by omega) hw2 (by omega), g38 (by omega) hw2 (by omega), g47 (by omega) (by omega), g41 (by omega) (by omega), g47 (by omega) (by omega), g39 (by omega), g48 (by omega) (by omega), g49 hn (by omega) (by omega)]
  simp only [Option.bind_some]
  rw [cNT trivial, cNT trivial]
  simp only [decide_true, Bool.not_true, cond_false]
  cases hr : right l with
  | false =>
    simp only [Bool.not_false, cond_true, Bool.false_eq_true, if_false]
    rw [cT trivial, cT trivial, cT trivial]; rfl
  | true =>
    simp only [Bool.not_true, cond_false, if_true]
    rw [cNT trivial, cNT trivial]
    have hM : M = 576460752303423488 := rfl
    by_cases h : M ≤ n
    · rw [if_pos h, cT (by omega), cT rfl]; rfl
    · rw [if_neg h, cF (by omega), cT rfl, dec_t rfl]
end Go.Proofs
namespace Go.Proofs.Ytfjloeemhiffgaa
open Go.Sym
theorem extentTells_lifted (os : Os) (started : os.Started) (H : Type) (enc : TypeId × Value → H) :
    ReturnsInHanded {} Try.checked os 12 .any (Rows.extentTellsSpec.pre6 enc Try.prog Try.f12 Rows.extentTellsRow.domain false) (Rows.extentTellsSpec.post enc Try.prog Try.f12 false true false false) := by
  refine returnsInHanded_of_change (C := Try.checked) Try.own started (by kernel_rfl) Try.func12
    (ChangeSpec.witness6 (enc := enc) (C := Try.checked) false ⟨#[], #[.slice none 0 0, .slice none 0 0, .int .u64 0], []⟩ 8 (by kernel_rfl) (by kernel_rfl) (by kernel_rfl) (by kernel_rfl)) ?_
  intro W base args ds gs before hval hW hcnd _
  refine law_end (P := Try.prog) (C := Try.cfg) (k := 4) (tb := 4) Try.mixed Try.progOk Try.laidOut (by kernel_rfl) rfl rfl Try.underlying4 ?_ ?_ (fun j t v h1 h2 => ⟨base, hval j t v h1 h2⟩) hW
  · intro ds hds
    match ds, hds with
    | [d, e, f], _ => exact ⟨rfl, rfl, rfl⟩
  · intro xs hxs
    obtain ⟨x, y, z, rfl, hx, hy, hz⟩ := VArgs_three (P := Try.prog) (k := 4) (a := 54) (b := 54) (c := 22) hxs
    obtain ⟨n, l, rfl, hw⟩ := open54 hx
    obtain ⟨n2, m, rfl, hw2⟩ := open54 hy
    obtain ⟨j, rfl, hj⟩ := open22 hz
    exact ⟨_, F12_ok (law_extentTells (k := 2000) hw hj (Nat.le_refl _))⟩

theorem extentTells_holds : Rows.ExtentTellsSaid :=
  OpenClaim.holds_of_wide 12 Try.f12 rfl rfl rfl rfl rfl rfl rfl ⟨rfl, rfl, rfl, rfl, rfl⟩ rfl rfl rfl rfl rfl (by kernel_rfl) Try.func12 (by kernel_rfl)
    (of_decide_eq_true (by kernel_rfl)) (by unfold Func.isWrapper; first | (rw [if_pos (by decide +kernel)]; kernel_rfl) | (rw [if_neg (by decide +kernel)]; exact ⟨rfl, rfl⟩))
    (fun os started H enc _ => extentTells_lifted os started H enc)
end Go.Proofs.Ytfjloeemhiffgaa
