/-
  GcmSeals: any text sealed is as the reference says, or refused.
-/
import Derived.Test.YtegmincienhapaaGc9
import Derived.Test.YtegmincienhapaaGcC
import Derived.Test.YtegmincienhapaaOpn
set_option linter.unusedVariables false
set_option linter.unusedSimpArgs false
set_option maxRecDepth 1000000
namespace Go.Proofs.Gc
open Go Go.Sym Go.Sym.Gf Go.Proofs.Ae
theorem t70 (s : List UInt8) : (s.take 70).length ≤ 70 := by rw [List.length_take]; omega
theorem bad9 {k : Nat} (s : List UInt8) (h : s = []) (i : Int) (hi : i = 4) (hk : 7000 ≤ k) : ((F35 (k + 2)).bind fun b1 => (bif b1 then (bif decide (i = 4) then (some (decide (s = []))) else (some false)) else (some false))) = some true := by
  rw [g35 (by omega), Option.bind_some, cond_true, cT hi, dec_t h]
theorem piece9 {k : Nat} {s n a b : List UInt8} (h : (a.length ≤ 80 ∧ b.length ≤ 80) ∨ 4096 < a.length ∨ 4096 < b.length) (hk : 7000 ≤ k) :
    ((F33 (k + 5) s n a b).bind fun (s6, i0) => ((F34 (k + 48) s n).bind fun b0 => (bif !b0 then ((F35 (k + 2)).bind fun b1 => (bif b1 then (bif decide (i0 = 4) then (some (decide (s6 = []))) else (some (false))) else (some (false)))) else (bif decide (4096 < (a.length : Int)) then ((F35 (k + 2)).bind fun b1 => (bif b1 then (bif decide (i0 = 4) then (some (decide (s6 = []))) else (some (false))) else (some (false)))) else (bif decide (4096 < (b.length : Int)) then ((F35 (k + 2)).bind fun b1 => (bif b1 then (bif decide (i0 = 4) then (some (decide (s6 = []))) else (some (false))) else (some (false)))) else ((F35 (k + 2)).bind fun b1 => (bif b1 then (bif decide (i0 = 0) then ((F36 (k + 21) s n a b).bind fun s7 => (some (decide (s6 = s7)))) else (some (false))) else (some (false))))))))) = some true := by
  by_cases hm : may s n = true ∧ a.length ≤ 4096 ∧ b.length ≤ 4096
  · obtain ⟨h1, h2, h3⟩ := hm
    have h4 : a.length ≤ 80 ∧ b.length ≤ 80 := by omega
    rw [g33 h1 h4.1 h4.2 (by omega), Option.bind_some]
    show ((F34 (k + 48) s n).bind _) = _
    rw [g34, h1, Option.bind_some, Bool.not_true, cond_false, cF (by omega), cF (by omega), g35 (by omega), Option.bind_some, cond_true, cT rfl, g36 h1 h4.1 h4.2 (by omega), Option.bind_some, dec_t rfl]
  · rw [g33n hm, Option.bind_some]
    show ((F34 (k + 48) s n).bind _) = _
    rw [g34, Option.bind_some, bad9 [] rfl 4 rfl hk]
    cases h1 : may s n with
    | false => rfl
    | true =>
      rw [Bool.not_true, cond_false]
      by_cases h2 : 4096 < a.length
      · rw [cT (by omega)]
      · rw [cF (by omega), cT (by have : ¬(b.length ≤ 4096) := fun h3 => hm ⟨h1, by omega, h3⟩; omega)]
theorem law_gcmSeals {k : Nat} (s n a b : List UInt8) (hk : 7000 ≤ k) : F9 k s n a b = some true := by
  unfold F9
  rw [g32, Option.bind_some, g32, Option.bind_some]
  by_cases h1 : a.length ≤ 4096
  · rw [cT (by omega)]
    by_cases h2 : b.length ≤ 4096
    · rw [cT (by omega), g32, Option.bind_some, g32, Option.bind_some]
      have := t70 a; have := t70 b
      exact piece9 (.inl ⟨by omega, by omega⟩) hk
    · rw [cF (by omega)]
      exact piece9 (.inr (.inr (by omega))) hk
  · rw [cF (by omega)]
    exact piece9 (.inr (.inl (by omega))) hk
end Go.Proofs.Gc
namespace Go.Proofs.Ytegmincienhapaa
open Go.Sym
theorem gcmSeals_lifted (os : Os) (started : os.Started) (H : Type) (enc : TypeId × Value → H) :
    ReturnsInHanded {} Try.checked os 9 .any (Rows.gcmSealsSpec.pre6 enc Try.prog Try.f9 Rows.gcmSealsRow.domain false) (Rows.gcmSealsSpec.post enc Try.prog Try.f9 false true false false) := by
  refine returnsInHanded_of_change (C := Try.checked) Try.own started (by kernel_rfl) Try.func9
    (ChangeSpec.witness6 (enc := enc) (C := Try.checked) false ⟨#[], #[.string ByteArray.empty, .string ByteArray.empty, .string ByteArray.empty, .string ByteArray.empty], []⟩ 8 (by kernel_rfl) (by kernel_rfl) (by kernel_rfl) (by kernel_rfl)) ?_
  intro W base args ds gs before hval hW hcnd _
  refine law_endL (P := Try.prog) (C := Try.cfg) (k := 4) (tb := 4) Try.libOk Try.mixed Try.progOk Try.laidOut (by kernel_rfl) rfl rfl Try.underlying4 ?_ ?_ (fun j t v h1 h2 => ⟨base, hval j t v h1 h2⟩) hW
  · intro ds hds
    match ds, hds with
    | [d, e, f, g], _ => exact ⟨rfl, rfl, rfl⟩
  · intro xs hxs
    obtain ⟨x, y, z, w, rfl, hx, hy, hz, hw⟩ := Opn.four (P := Try.prog) (k := 4) (a := 9) (b := 9) (c := 9) (d := 9) hxs
    obtain ⟨a, rfl, _⟩ := Opn.open9 hx
    obtain ⟨b, rfl, _⟩ := Opn.open9 hy
    obtain ⟨c, rfl, _⟩ := Opn.open9 hz
    obtain ⟨d, rfl, hd⟩ := Opn.open9 hw
    exact ⟨_, F9_ok (Gc.law_gcmSeals (k := 7000) a b c d (Nat.le_refl _))⟩

theorem gcmSeals_holds : Rows.GcmSealsSaid :=
  OpenClaim.holds_of_wide 9 Try.f9 rfl rfl rfl rfl rfl rfl rfl ⟨rfl, rfl, rfl, rfl, rfl⟩ rfl rfl rfl rfl rfl (by kernel_rfl) Try.func9 (by kernel_rfl)
    (of_decide_eq_true (by kernel_rfl)) (by unfold Func.isWrapper; first | (rw [if_pos (by decide +kernel)]; kernel_rfl) | (rw [if_neg (by decide +kernel)]; exact ⟨rfl, rfl⟩))
    (fun os started H enc _ => gcmSeals_lifted os started H enc)
end Go.Proofs.Ytegmincienhapaa
