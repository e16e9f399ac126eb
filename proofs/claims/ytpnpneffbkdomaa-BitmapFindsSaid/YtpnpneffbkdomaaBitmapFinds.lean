/-
  BitmapFinds: where so many free places are, and how many are taken, is as the document says, or refused, for all maps and numbers.
-/
import Derived.Test.YtpnpneffbkdomaaBmO
import Derived.Test.YtpnpneffbkdomaaBmG
import Derived.Test.YtpnpneffbkdomaaFx9
set_option linter.unusedVariables false
set_option linter.unusedSimpArgs false
set_option maxRecDepth 100000
namespace Go.Proofs
open Go Go.Sym
theorem law_bitmapFinds {k : Nat} {N m : Int} {o : Option Bool} {b : Bool} {ws : List Wd} {fl : Wd} (hN : -9223372036854775808 ≤ N) (hN2 : N < 9223372036854775808) (hm2 : m < 9223372036854775808) (hk : 5000 ≤ k) :
    F9 k N o b 1 (ws.map uw) (fl.toNat : Int) m = some true := by
  unfold F9
  have hl : (ws.take 70).length ≤ 1000 := by simp; omega
  rw [g29, Option.bind_some]
  simp only
  rw [g41 hN hN2 hl (by omega)]
  cases hr : rightB N (ws.take 70) fl
  · simp only [Bool.false_eq_true, if_false]
    rw [Option.bind_some]
    simp only
    rw [g42 hN hN2 hl hm2 (by omega), hr]
    simp only [Bool.false_eq_true, if_false]
    rw [Option.bind_some]
    simp only
    rw [g32 hN hN2 hl (by omega), hr, Option.bind_some]
    simp only [Bool.not_false, cond_true]
    rw [g35, Option.bind_some, cond_true]
    rfl
  · obtain ⟨n, rfl, h0, h1, h2, h3, h4⟩ := right_iff hr
    simp only [if_true]
    rw [Option.bind_some]
    simp only
    rw [g42 hN hN2 hl hm2 (by omega), hr]
    simp only [if_true, Int.toNat_natCast]
    by_cases hm : m < 1
    · rw [if_pos hm, Option.bind_some]
      simp only
      rw [g32 hN hN2 hl (by omega), hr, Option.bind_some]
      simp only [Bool.not_true, cond_false]
      rw [cNT trivial, g43 hl (by omega) (by omega) (by omega), Option.bind_some, cNT rfl, g35, Option.bind_some]
      simp only [Bool.not_true, cond_false]
      rw [cT hm, cT trivial]; rfl
    · rw [if_neg hm]
      have g := g44 (k := k + 5) (n := n) (fl := (fl.toNat : Int)) (m := m) (o := o) (b := false) hl (show n ≤ 64 * (ws.take 70).length by omega) (by omega) (by omega) hm2 (by omega)
      by_cases hf : findI (ws.take 70) n m < 0
      · rw [if_pos hf, Option.bind_some]
        simp only
        rw [g32 hN hN2 hl (by omega), hr, Option.bind_some]
        simp only [Bool.not_true, cond_false]
        rw [cNT trivial, g43 hl (by omega) (by omega) (by omega), Option.bind_some, cNT rfl, g35, Option.bind_some]
        simp only [Bool.not_true, cond_false]
        rw [cF hm, g, Option.bind_some, cT hf, cT trivial]; rfl
      · rw [if_neg hf, Option.bind_some]
        simp only
        rw [g32 hN hN2 hl (by omega), hr, Option.bind_some]
        simp only [Bool.not_true, cond_false]
        rw [cNT trivial, g43 hl (by omega) (by omega) (by omega), Option.bind_some, cNT rfl, g35, Option.bind_some]
        simp only [Bool.not_true, cond_false]
        rw [cF hm, g, Option.bind_some, cF hf, cT trivial, dec_t rfl]
end Go.Proofs
namespace Go.Proofs.Ytpnpneffbkdomaa
open Go.Sym
theorem bitmapFinds_lifted (os : Os) (started : os.Started) (H : Type) (enc : TypeId × Value → H) :
    ReturnsInHanded {} Try.checked os 9 .any (Rows.bitmapFindsSpec.pre6 enc Try.prog Try.f9 Rows.bitmapFindsRow.domain false) (Rows.bitmapFindsSpec.post enc Try.prog Try.f9 false true false false) := by
  refine returnsInHanded_of_change (C := Try.checked) Try.own started (by kernel_rfl) Try.func9
    (ChangeSpec.witness6 (enc := enc) (C := Try.checked) false ⟨#[], #[.agg #[.int .i64 0, .slice none 0 0, .int .u64 0], .int .i64 0], []⟩ 8 (by kernel_rfl) (by kernel_rfl) (by kernel_rfl) (by kernel_rfl)) ?_
  intro W base args ds gs before hval hW hcnd _
  refine law_end (P := Try.prog) (C := Try.cfg) (k := 4) (tb := 4) Try.mixed Try.progOk Try.laidOut (by kernel_rfl) rfl rfl Try.underlying4 ?_ ?_ (fun j t v h1 h2 => ⟨base, hval j t v h1 h2⟩) hW
  · intro ds hds
    match ds, hds with
    | [d, e], _ => exact ⟨rfl, rfl, rfl⟩
  · intro xs hxs
    obtain ⟨x, y, rfl, hx, hy⟩ := VArgs_two (P := Try.prog) (k := 4) (a := 51) (b := 3) hxs
    obtain ⟨N, n, ws, fl, rfl, hn, hN, hN2⟩ := open51 hx
    obtain ⟨i, rfl, _, hi⟩ := open3 hy
    exact ⟨_, F9_ok (law_bitmapFinds (k := 5000) hN hN2 hi (Nat.le_refl _))⟩

theorem bitmapFinds_holds : Rows.BitmapFindsSaid :=
  OpenClaim.holds_of_wide 9 Try.f9 rfl rfl rfl rfl rfl rfl rfl ⟨rfl, rfl, rfl, rfl, rfl⟩ rfl rfl rfl rfl rfl (by kernel_rfl) Try.func9 (by kernel_rfl)
    (of_decide_eq_true (by kernel_rfl)) (by unfold Func.isWrapper; first | (rw [if_pos (by decide +kernel)]; kernel_rfl) | (rw [if_neg (by decide +kernel)]; exact ⟨rfl, rfl⟩))
    (fun os started H enc _ => bitmapFinds_lifted os started H enc)
end Go.Proofs.Ytpnpneffbkdomaa
