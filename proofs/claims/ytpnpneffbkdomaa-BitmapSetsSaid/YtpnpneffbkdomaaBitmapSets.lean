/-
  BitmapSets: any place set, and asked for, is as the document says, or refused, for all maps and places.
-/
import Derived.Test.YtpnpneffbkdomaaBmO
import Derived.Test.YtpnpneffbkdomaaBmE
import Derived.Test.YtpnpneffbkdomaaFx8
set_option linter.unusedVariables false
set_option linter.unusedSimpArgs false
set_option maxRecDepth 100000
namespace Go.Proofs
open Go Go.Sym
theorem law_bitmapSets {k : Nat} {N i : Int} {o : Option Bool} {b t : Bool} {ws : List Wd} {fl : Wd} (hN : -9223372036854775808 ≤ N) (hN2 : N < 9223372036854775808) (ho : o = some true → ws = []) (hk : 1000 ≤ k) :
    F8 k N o b 1 (ws.map uw) (fl.toNat : Int) i t = some true := by
  unfold F8
  have hl : (ws.take 70).length ≤ 1000 := by simp; omega
  have ho' : o = some true → ws.take 70 = [] := fun h => by rw [ho h]; rfl
  rw [g29, Option.bind_some]
  simp only
  by_cases he : errB N (ws.take 70) fl i = 0
  · obtain ⟨n, j, rfl, rfl, hj, h0, h1, h2, h3, h4⟩ := err_zero he
    have hr : rightB (n : Int) (ws.take 70) fl = true := by
      unfold errB at he
      split at he
      · assumption
      · omega
    have hb : (setL (ws.take 70) j t).length ≤ 1000 := by rw [setL_length]; exact hl
    rw [g37 hN hN2 hl (by omega) ho' he, Option.bind_some]
    simp only
    rw [g38 hN hN2 hl (by omega) he, Option.bind_some]
    simp only
    rw [g32 hN hN2 hl (by omega), Option.bind_some, hr]
    simp only [Bool.not_true, cond_false]
    rw [cF (by omega), cF (by omega), g35, Option.bind_some, cond_true, cT trivial, cT trivial, g39 hl (by omega) (by omega), Option.bind_some, Int.toNat_natCast, cT rfl, g40 (by omega) (by omega) (by omega), Option.bind_some]
    simp only
    rw [g34 hb (by omega), same_refl]; rfl
  · rw [g37e hN hN2 hl (by omega) he, Option.bind_some]
    simp only
    rw [g38e hN hN2 hl (by omega) he, Option.bind_some]
    simp only
    rw [g32 hN hN2 hl (by omega), Option.bind_some]
    unfold errB at he ⊢
    cases hr : rightB N (ws.take 70) fl
    · simp only [Bool.not_false, cond_true, Bool.false_eq_true, if_false]
      rw [g35, Option.bind_some, cond_true, cT trivial, cT trivial, g34e]; rfl
    · rw [hr, if_pos rfl] at he
      simp only [Bool.not_true, Bool.not_false, cond_false, if_true]
      by_cases h1 : i < 0
      · rw [cT h1, g35, Option.bind_some, cond_true, if_pos (.inl h1), cT rfl, cT rfl, cond_true, g34e]; rfl
      by_cases h2 : N ≤ i
      · rw [cF h1, cT h2, g35, Option.bind_some, cond_true, if_pos (.inr h2), cT rfl, cT rfl, cond_true, g34e]; rfl
      · rw [if_neg (by omega)] at he; exact absurd rfl he
end Go.Proofs
namespace Go.Proofs.Ytpnpneffbkdomaa
open Go.Sym
theorem bitmapSets_lifted (os : Os) (started : os.Started) (H : Type) (enc : TypeId × Value → H) :
    ReturnsInHanded {} Try.checked os 8 .any (Rows.bitmapSetsSpec.pre6 enc Try.prog Try.f8 Rows.bitmapSetsRow.domain false) (Rows.bitmapSetsSpec.post enc Try.prog Try.f8 false true false false) := by
  refine returnsInHanded_of_change (C := Try.checked) Try.own started (by kernel_rfl) Try.func8
    (ChangeSpec.witness6 (enc := enc) (C := Try.checked) false ⟨#[], #[.agg #[.int .i64 0, .slice none 0 0, .int .u64 0], .int .i64 0, .bool false], []⟩ 8 (by kernel_rfl) (by kernel_rfl) (by kernel_rfl) (by kernel_rfl)) ?_
  intro W base args ds gs before hval hW hcnd _
  refine law_end (P := Try.prog) (C := Try.cfg) (k := 4) (tb := 4) Try.mixed Try.progOk Try.laidOut (by kernel_rfl) rfl rfl Try.underlying4 ?_ ?_ (fun j t v h1 h2 => ⟨base, hval j t v h1 h2⟩) hW
  · intro ds hds
    match ds, hds with
    | [d, e, f], _ => exact ⟨rfl, rfl, rfl⟩
  · intro xs hxs
    obtain ⟨x, y, z, rfl, hx, hy, hz⟩ := VArgs_three (P := Try.prog) (k := 4) (a := 51) (b := 3) (c := 4) hxs
    obtain ⟨N, n, ws, fl, rfl, hn, hN, hN2⟩ := open51 hx
    obtain ⟨i, rfl, _⟩ := open3 hy
    obtain ⟨t, rfl⟩ := open4 hz
    exact ⟨_, F8_ok (law_bitmapSets (k := 1000) hN hN2 (fun h => hn (Option.some.inj h)) (Nat.le_refl _))⟩

theorem bitmapSets_holds : Rows.BitmapSetsSaid :=
  OpenClaim.holds_of_wide 8 Try.f8 rfl rfl rfl rfl rfl rfl rfl ⟨rfl, rfl, rfl, rfl, rfl⟩ rfl rfl rfl rfl rfl (by kernel_rfl) Try.func8 (by kernel_rfl)
    (of_decide_eq_true (by kernel_rfl)) (by unfold Func.isWrapper; first | (rw [if_pos (by decide +kernel)]; kernel_rfl) | (rw [if_neg (by decide +kernel)]; exact ⟨rfl, rfl⟩))
    (fun os started H enc _ => bitmapSets_lifted os started H enc)
end Go.Proofs.Ytpnpneffbkdomaa
