/-
  ExtentPuts: any runs with any span's blocks in any state are as the document says, or refused, for all runs, spans and states.
-/
import Derived.Test.YtfjloeemhiffgaaExO
import Derived.Test.YtfjloeemhiffgaaEx9
set_option linter.unusedVariables false
set_option linter.unusedSimpArgs false
set_option maxRecDepth 100000
namespace Go.Proofs
open Go Go.Sym Go.Sym.Ex
theorem law_extentPuts {k a n : Nat} {s : Int} {o : Option Bool} {b : Bool} {l : List Rn} (hw : ∀ r ∈ l, Wf r) (ha : a < 18446744073709551616) (hn : n < 18446744073709551616) (hk : 2000 ≤ k) :
    F9 k o b 3 (l.map rv) (a : Int) (n : Int) s = some true := by
  unfold F9
  have hl : (l.take 66).length ≤ 70 := by simp; omega
  have hw2 : ∀ r ∈ l.take 66, Wf r := fun r h => hw r (List.mem_of_mem_take h)
  rw [g35, Option.bind_some]
  simp only
  generalize l.take 66 = m at hl hw2
  by_cases he : errP m a n s = 0
  · obtain ⟨hr, hs, hn1, han⟩ := errP_zero he
    have hB : errB a n = 0 := by unfold errP at he; rw [if_pos ⟨hr, hs⟩] at he; exact he
    rw [g36 hl hw2 ha hn (by omega) he, Option.bind_some]
    by_cases h64 : 64 < (put m a (a + n) s).length
    · rw [if_pos h64]
      simp only
      rw [g37 ha hn, Option.bind_some, g38 (by omega) hw2 (by omega), Option.bind_some, hr]
      simp only [Bool.not_true, cond_false]
      rw [cF (by omega), cF (by omega), cNT hB, g40 hl (right_iff.1 hr) hs hn1 han (by omega), Option.bind_some]
      simp only
      rw [List.length_map, cT (by omega), g39 (by omega), Option.bind_some, cond_true, cT trivial]; rfl
    · rw [if_neg h64]
      simp only
      rw [g37 ha hn, Option.bind_some, g38 (by omega) hw2 (by omega), Option.bind_some, hr]
      simp only [Bool.not_true, cond_false]
      rw [cF (by omega), cF (by omega), cNT hB, g40 hl (right_iff.1 hr) hs hn1 han (by omega), Option.bind_some]
      simp only
      rw [List.length_map, cF (by omega), g39 (by omega), Option.bind_some, cond_true, cT trivial, g41 (by omega) (by omega), Option.bind_some, dec_t rfl]
  · rw [g36e hl hw2 ha hn (by omega) he, Option.bind_some]
    simp only
    rw [g37 ha hn, Option.bind_some, g38 (by omega) hw2 (by omega), Option.bind_some]
    unfold errP at he ⊢
    cases hr : right m with
    | false =>
      simp only [Bool.not_false, cond_true, Bool.false_eq_true, false_and, if_false]
      rw [g39 (by omega), Option.bind_some, cond_true, cT trivial]; rfl
    | true =>
      rw [hr] at he
      simp only [Bool.not_true, cond_false, true_and] at he ⊢
      by_cases h1 : s < 0
      · rw [cT h1, g39 (by omega), Option.bind_some, cond_true, if_neg (by omega), cT rfl]; rfl
      by_cases h2 : 2 < s
      · rw [cF h1, cT h2, g39 (by omega), Option.bind_some, cond_true, if_neg (by omega), cT rfl]; rfl
      rw [if_pos (by omega)] at he ⊢
      rw [cF h1, cF h2, cNF he, g39 (by omega), Option.bind_some, cond_true, cT rfl]; rfl
end Go.Proofs
namespace Go.Proofs.Ytfjloeemhiffgaa
open Go.Sym
theorem extentPuts_lifted (os : Os) (started : os.Started) (H : Type) (enc : TypeId × Value → H) :
    ReturnsInHanded {} Try.checked os 9 .any (Rows.extentPutsSpec.pre6 enc Try.prog Try.f9 Rows.extentPutsRow.domain false) (Rows.extentPutsSpec.post enc Try.prog Try.f9 false true false false) := by
  refine returnsInHanded_of_change (C := Try.checked) Try.own started (by kernel_rfl) Try.func9
    (ChangeSpec.witness6 (enc := enc) (C := Try.checked) false ⟨#[], #[.slice none 0 0, .agg #[.int .u64 0, .int .u64 0], .int .i64 0], []⟩ 8 (by kernel_rfl) (by kernel_rfl) (by kernel_rfl) (by kernel_rfl)) ?_
  intro W base args ds gs before hval hW hcnd _
  refine law_end (P := Try.prog) (C := Try.cfg) (k := 4) (tb := 4) Try.mixed Try.progOk Try.laidOut (by kernel_rfl) rfl rfl Try.underlying4 ?_ ?_ (fun j t v h1 h2 => ⟨base, hval j t v h1 h2⟩) hW
  · intro ds hds
    match ds, hds with
    | [d, e, f], _ => exact ⟨rfl, rfl, rfl⟩
  · intro xs hxs
    obtain ⟨x, y, z, rfl, hx, hy, hz⟩ := VArgs_three (P := Try.prog) (k := 4) (a := 54) (b := 24) (c := 3) hxs
    obtain ⟨n, l, rfl, hw⟩ := open54 hx
    obtain ⟨a, m, rfl, ha, hm⟩ := open24 hy
    obtain ⟨s, rfl, _, _⟩ := open3 hz
    exact ⟨_, F9_ok (law_extentPuts (k := 2000) hw ha hm (Nat.le_refl _))⟩

theorem extentPuts_holds : Rows.ExtentPutsSaid :=
  OpenClaim.holds_of_wide 9 Try.f9 rfl rfl rfl rfl rfl rfl rfl ⟨rfl, rfl, rfl, rfl, rfl⟩ rfl rfl rfl rfl rfl (by kernel_rfl) Try.func9 (by kernel_rfl)
    (of_decide_eq_true (by kernel_rfl)) (by unfold Func.isWrapper; first | (rw [if_pos (by decide +kernel)]; kernel_rfl) | (rw [if_neg (by decide +kernel)]; exact ⟨rfl, rfl⟩))
    (fun os started H enc _ => extentPuts_lifted os started H enc)
end Go.Proofs.Ytfjloeemhiffgaa
