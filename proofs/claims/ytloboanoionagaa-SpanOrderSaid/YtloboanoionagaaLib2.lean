/-
  The sort of this program, by its contract: what its closure answers.
-/
import Derived.Test.YtloboanoionagaaLib1
import Derived.Test.YtloboanoionagaaSymSrt
import Derived.Lib.Small
import Derived.Lib.Walk
set_option linter.unusedVariables false
set_option linter.unusedSimpArgs false
namespace Go.Proofs
open Go Go.Shelf Go.RowKit Go.Lib Go.Sort Go.Sym
theorem Try.isNaN40 (x : Int) (w : World) : Calls Try.prog 40 #[.int .u64 x] w fun e w' => e = .returned (.bool false) ∧ w' = w := by
  go_enter Try.func40, Try.ntmps40
  go_wp2
  go_ret
  exact ⟨by simp, rfl⟩
set_option maxHeartbeats 1000000 in
theorem Try.compare34 (x y : Int) (w : World) : Calls Try.prog 34 #[.int .u64 x, .int .u64 y] w fun e w' => e = .returned (.int .i64 (cmpE (x, 0) (y, 0))) ∧ w' = w := by
  have e40 : ∀ args w, (callFunc 40 args).run Try.prog w = .ok (.enter 40 args) w := enters_of Try.func40 (by kernel_rfl) rfl
  go_enter Try.func34, Try.ntmps34
  go_wp2_with (go_at_fn 40; refine (Try.isNaN40 _ _).mono ?_; rintro e w' ⟨rfl, hw⟩; rw [hw])
  all_goals (go_ret; refine ⟨?_, rfl⟩; unfold cmpE; (repeat' split) <;> first | rfl | (exfalso; simp_all; omega) | (simp_all; done))
set_option maxHeartbeats 1000000 in
theorem Try.closure33 (w : World) (x y : Int × Int) : Calls Try.prog 33 #[.agg #[.int .u64 x.1, .int .u64 x.2], .agg #[.int .u64 y.1, .int .u64 y.2]] w fun e w' => e = .returned (.int .i64 (cmpE x y)) ∧ ∃ q os', w' = grow (w.drewN q) os' := by
  have hcon := fun W' => Try.compare34 x.1 y.1 W'
  have ec : cmpE (x.1, 0) (y.1, 0) = cmpE x y := rfl
  simp only [ec] at hcon
  generalize cmpE x y = r at hcon ⊢
  have e34 : ∀ args w, (callFunc 34 args).run Try.prog w = .ok (.enter 34 args) w := enters_of Try.func34 (by kernel_rfl) rfl
  go_enter Try.func33, Try.ntmps33
  go_wp2_with (go_at_fn 34; refine (hcon _).mono ?_; rintro e w' ⟨rfl, rfl⟩)
  go_ret
  exact ⟨rfl, 0, _, by rw [alloc_eq_grow, alloc_eq_grow, grow_grow]; rfl⟩
end Go.Proofs
