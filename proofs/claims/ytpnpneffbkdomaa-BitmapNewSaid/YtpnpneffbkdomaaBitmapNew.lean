/-
  BitmapNew: a new map, which may be, and which two are the same, is as the document says, or refused, for all maps and numbers.
-/
import Derived.Test.YtpnpneffbkdomaaBmO
import Derived.Test.YtpnpneffbkdomaaFx7
set_option linter.unusedVariables false
set_option linter.unusedSimpArgs false
set_option maxRecDepth 100000
namespace Go.Proofs
open Go Go.Sym
theorem law_bitmapNew {k : Nat} {N M a : Int} {o p : Option Bool} {b c : Bool} {ws vs : List Wd} {fl gl : Wd} (hN : -9223372036854775808 ≤ N) (hN2 : N < 9223372036854775808) (ha : -9223372036854775808 ≤ a) (ha2 : a < 9223372036854775808) (hk : 1000 ≤ k) :
    F7 k N o b 1 (ws.map uw) (fl.toNat : Int) M p c 1 (vs.map uw) (gl.toNat : Int) a = some true := by
  unfold F7
  have hl : (ws.take 70).length ≤ 1000 := by simp; omega
  rw [g29, Option.bind_some]
  simp only
  rw [g29, Option.bind_some]
  simp only
  rw [g30 ha ha2]
  by_cases h : a < 1 ∨ 4096 < a
  · rw [if_pos h, Option.bind_some]
    simp only
    rw [g31 hN hN2 hl (by omega), Option.bind_some, g32 hN hN2 hl (by omega), Option.bind_some, cNT rfl, g33 hl (by omega), Option.bind_some, g34 hl (by omega), Option.bind_some, cNT rfl, g33 hl (by omega), Option.bind_some, same_refl, g35]
    simp only [Bool.not_true, cond_false, Option.bind_some]
    by_cases h1 : a < 1
    · rw [cT h1]; rw [cT trivial, g34e]; rfl
    · rw [cF h1, cT (by omega)]; rw [cT trivial, g34e]; rfl
  · rw [if_neg h, Option.bind_some]
    simp only
    obtain ⟨n, rfl⟩ : ∃ n : Nat, a = n := ⟨a.toNat, by omega⟩
    rw [g31 hN hN2 hl (by omega), Option.bind_some, g32 hN hN2 hl (by omega), Option.bind_some, cNT rfl, g33 hl (by omega), Option.bind_some, g34 hl (by omega), Option.bind_some, cNT rfl, g33 hl (by omega), Option.bind_some, same_refl, g35]
    simp only [Bool.not_true, cond_false, Option.bind_some]
    have hb : (blankL n).length ≤ 1000 := by rw [blankL_length]; omega
    have s := g34 (k := k + 11) (N := n) (M := n) (o := none) (p := none) (b := false) (c := false) (ws := blankL n) (vs := blankL n) (fl := 0#64) (gl := 0#64) hb (by omega)
    have r := g31 (k := k + 8) (N := n) (o := none) (b := false) (ws := blankL n) (fl := 0#64) (by omega) (by omega) hb (by omega)
    rw [show ((0#64).toNat : Int) = 0 from rfl] at s r
    rw [cF (by omega), cF (by omega), cT trivial, g36 (by omega) (by omega) (by omega), Option.bind_some]
    simp only [Int.toNat_natCast]
    rw [s, same_refl, Option.bind_some, cond_true, r, blank_right (by omega) (by omega)]
    rfl
end Go.Proofs
namespace Go.Proofs.Ytpnpneffbkdomaa
open Go.Sym
theorem bitmapNew_lifted (os : Os) (started : os.Started) (H : Type) (enc : TypeId × Value → H) :
    ReturnsInHanded {} Try.checked os 7 .any (Rows.bitmapNewSpec.pre6 enc Try.prog Try.f7 Rows.bitmapNewRow.domain false) (Rows.bitmapNewSpec.post enc Try.prog Try.f7 false true false false) := by
  refine returnsInHanded_of_change (C := Try.checked) Try.own started (by kernel_rfl) Try.func7
    (ChangeSpec.witness6 (enc := enc) (C := Try.checked) false ⟨#[], #[.agg #[.int .i64 0, .slice none 0 0, .int .u64 0], .agg #[.int .i64 0, .slice none 0 0, .int .u64 0], .int .i64 0], []⟩ 8 (by kernel_rfl) (by kernel_rfl) (by kernel_rfl) (by kernel_rfl)) ?_
  intro W base args ds gs before hval hW hcnd _
  refine law_end (P := Try.prog) (C := Try.cfg) (k := 4) (tb := 4) Try.mixed Try.progOk Try.laidOut (by kernel_rfl) rfl rfl Try.underlying4 ?_ ?_ (fun j t v h1 h2 => ⟨base, hval j t v h1 h2⟩) hW
  · intro ds hds
    match ds, hds with
    | [d, e, f], _ => exact ⟨rfl, rfl, rfl⟩
  · intro xs hxs
    obtain ⟨x, y, z, rfl, hx, hy, hz⟩ := VArgs_three (P := Try.prog) (k := 4) (a := 51) (b := 51) (c := 3) hxs
    obtain ⟨N, n, ws, fl, rfl, _, hN, hN2⟩ := open51 hx
    obtain ⟨M, m, vs, gl, rfl, _, _, _⟩ := open51 hy
    obtain ⟨a, rfl, ha, ha2⟩ := open3 hz
    exact ⟨_, F7_ok (law_bitmapNew (k := 1000) hN hN2 ha ha2 (Nat.le_refl _))⟩

theorem bitmapNew_holds : Rows.BitmapNewSaid :=
  OpenClaim.holds_of_wide 7 Try.f7 rfl rfl rfl rfl rfl rfl rfl ⟨rfl, rfl, rfl, rfl, rfl⟩ rfl rfl rfl rfl rfl (by kernel_rfl) Try.func7 (by kernel_rfl)
    (of_decide_eq_true (by kernel_rfl)) (by unfold Func.isWrapper; first | (rw [if_pos (by decide +kernel)]; kernel_rfl) | (rw [if_neg (by decide +kernel)]; exact ⟨rfl, rfl⟩))
    (fun os started H enc _ => bitmapNew_lifted os started H enc)
end Go.Proofs.Ytpnpneffbkdomaa
