/-
  ExtentQueries: any span's runs are as the document says, or refused, for all runs and spans.
-/
import Derived.Test.YtfjloeemhiffgaaExO
import Derived.Test.YtfjloeemhiffgaaEx10
set_option linter.unusedVariables false
set_option linter.unusedSimpArgs false
set_option maxRecDepth 100000
namespace Go.Proofs
open Go Go.Sym Go.Sym.Ex
theorem law_extentQueries {k a n : Nat} {o : Option Bool} {b : Bool} {l : List Rn} (hw : ∀ r ∈ l, Wf r) (ha : a < 18446744073709551616) (hn : n < 18446744073709551616) (hk : 2000 ≤ k) :
    F10 k o b 3 (l.map rv) (a : Int) (n : Int) = some true := by
  unfold F10
  have hl : (l.take 66).length ≤ 70 := by simp; omega
  have hw2 : ∀ r ∈ l.take 66, Wf r := fun r h => hw r (List.mem_of_mem_take h)
  rw [g35, Option.bind_some]
  simp only
  generalize l.take 66 = m at hl hw2
  by_cases he : errQ m a n = 0
  · have hr : right m = true := by unfold errQ at he; by_cases h : right m = true; exact h; rw [if_neg h] at he; omega
    have hB : errB a n = 0 := by unfold errQ at he; rw [if_pos hr] at he; exact he
    obtain ⟨hn1, han⟩ := errB_zero hB
    rw [g42 hl hw2 ha hn (by omega) he, Option.bind_some]
    simp only
    rw [g37 ha hn, Option.bind_some, g38 (by omega) hw2 (by omega), Option.bind_some, hr]
    simp only [Bool.not_true, cond_false]
    rw [cNT hB, g39 (by omega), Option.bind_some, cond_true, cT trivial, g43 hl (right_iff.1 hr) hn1 han (by omega), Option.bind_some]
    simp only
    have ql : (qry m a (a + n)).length ≤ 500 := by
      unfold qry
      have h1 := fill_len (b := a + n) (l := join (pI a (a + n) m)) (now := a)
      have h2 := join_len (pI a (a + n) m)
      have h3 := pI_len a (a + n) m
      omega
    rw [g41 ql (by omega), Option.bind_some, dec_t rfl]
  · rw [g42e hl hw2 ha hn (by omega) he, Option.bind_some]
    simp only
    rw [g37 ha hn, Option.bind_some, g38 (by omega) hw2 (by omega), Option.bind_some]
    unfold errQ at he ⊢
    cases hr : right m with
    | false =>
      simp only [Bool.not_false, cond_true, Bool.false_eq_true, if_false]
      rw [g39 (by omega), Option.bind_some, cond_true, cT trivial]; rfl
    | true =>
      rw [hr] at he
      simp only [Bool.not_true, cond_false, if_true] at he ⊢
      rw [cNF he, g39 (by omega), Option.bind_some, cond_true, cT trivial]; rfl
end Go.Proofs
namespace Go.Proofs.Ytfjloeemhiffgaa
open Go.Sym
theorem extentQueries_lifted (os : Os) (started : os.Started) (H : Type) (enc : TypeId × Value → H) :
    ReturnsInHanded {} Try.checked os 10 .any (Rows.extentQueriesSpec.pre6 enc Try.prog Try.f10 Rows.extentQueriesRow.domain false) (Rows.extentQueriesSpec.post enc Try.prog Try.f10 false true false false) := by
  refine returnsInHanded_of_change (C := Try.checked) Try.own started (by kernel_rfl) Try.func10
    (ChangeSpec.witness6 (enc := enc) (C := Try.checked) false ⟨#[], #[.slice none 0 0, .agg #[.int .u64 0, .int .u64 0]], []⟩ 8 (by kernel_rfl) (by kernel_rfl) (by kernel_rfl) (by kernel_rfl)) ?_
  intro W base args ds gs before hval hW hcnd _
  refine law_end (P := Try.prog) (C := Try.cfg) (k := 4) (tb := 4) Try.mixed Try.progOk Try.laidOut (by kernel_rfl) rfl rfl Try.underlying4 ?_ ?_ (fun j t v h1 h2 => ⟨base, hval j t v h1 h2⟩) hW
  · intro ds hds
    match ds, hds with
    | [d, e], _ => exact ⟨rfl, rfl, rfl⟩
  · intro xs hxs
    obtain ⟨x, y, rfl, hx, hy⟩ := VArgs_two (P := Try.prog) (k := 4) (a := 54) (b := 24) hxs
    obtain ⟨n, l, rfl, hw⟩ := open54 hx
    obtain ⟨a, m, rfl, ha, hm⟩ := open24 hy
    exact ⟨_, F10_ok (law_extentQueries (k := 2000) hw ha hm (Nat.le_refl _))⟩

theorem extentQueries_holds : Rows.ExtentQueriesSaid :=
  OpenClaim.holds_of_wide 10 Try.f10 rfl rfl rfl rfl rfl rfl rfl ⟨rfl, rfl, rfl, rfl, rfl⟩ rfl rfl rfl rfl rfl (by kernel_rfl) Try.func10 (by kernel_rfl)
    (of_decide_eq_true (by kernel_rfl)) (by unfold Func.isWrapper; first | (rw [if_pos (by decide +kernel)]; kernel_rfl) | (rw [if_neg (by decide +kernel)]; exact ⟨rfl, rfl⟩))
    (fun os started H enc _ => extentQueries_lifted os started H enc)
end Go.Proofs.Ytfjloeemhiffgaa
