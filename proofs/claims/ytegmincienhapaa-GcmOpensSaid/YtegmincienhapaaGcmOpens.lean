/-
  GcmOpens: whether anything sealed is opened, and the text, is as the reference says, or refused.
-/
import Derived.Test.YtegmincienhapaaGc11
import Derived.Test.YtegmincienhapaaGcC
import Derived.Test.YtegmincienhapaaOpn
set_option linter.unusedVariables false
set_option linter.unusedSimpArgs false
set_option maxRecDepth 1000000
namespace Go.Proofs.Gc
open Go Go.Sym Go.Sym.Gf Go.Proofs.Ae
theorem bad11 {k : Nat} (s : List UInt8) (h : s = []) (i : Int) (hi : i = 4) (hk : 7000 ≤ k) : ((F35 (k + 2)).bind fun b1 => (bif b1 then (bif decide (i = 4) then (some (decide (s = []))) else (some false)) else (some false))) = some true := by
  rw [g35 (by omega), Option.bind_some, cond_true, cT hi, dec_t h]
theorem piece11 {k : Nat} {s n a b : List UInt8} (hlen : b.length < 9223372036854775808) (h : (a.length ≤ 80 ∧ b.length ≤ 90) ∨ 4096 < a.length ∨ 4112 < b.length) (hk : 7000 ≤ k) :
    ((F39 (k + 5) s n a b).bind fun (s6, i0) => ((F34 (k + 48) s n).bind fun b0 => (bif !b0 then ((F35 (k + 2)).bind fun b1 => (bif b1 then (bif decide (i0 = 4) then (some (decide (s6 = []))) else (some (false))) else (some (false)))) else (bif decide (4096 < (a.length : Int)) then ((F35 (k + 2)).bind fun b1 => (bif b1 then (bif decide (i0 = 4) then (some (decide (s6 = []))) else (some (false))) else (some (false)))) else (bif decide (4112 < (b.length : Int)) then ((F35 (k + 2)).bind fun b1 => (bif b1 then (bif decide (i0 = 4) then (some (decide (s6 = []))) else (some (false))) else (some (false)))) else (bif decide ((b.length : Int) < 16) then ((F35 (k + 2)).bind fun b1 => (bif b1 then (bif decide (i0 = 4) then (some (decide (s6 = []))) else (some (false))) else (some (false)))) else ((F40 (k + 21) s n a b).bind fun (s7, b1) => ((F35 (k + 2)).bind fun b2 => (bif b2 then (bif decide (s6 = s7) then (bif b1 then (bif decide (i0 = 0) then (some (true)) else (some (false))) else (some (decide (i0 = 5)))) else (some (false))) else (some (false))))))))))) = some true := by
  by_cases hm : may s n = true ∧ a.length ≤ 4096 ∧ 16 ≤ b.length ∧ b.length ≤ 4112
  · obtain ⟨h1, h2, h3, h5⟩ := hm
    have h4 : a.length ≤ 80 ∧ b.length ≤ 90 := by omega
    rw [g39 h1 h4.1 h3 h4.2 (by omega), Option.bind_some]
    cases ho : openS s n a b with
    | none =>
      show ((F34 (k + 48) s n).bind _) = _
      rw [g34, h1, Option.bind_some, Bool.not_true, cond_false, cF (by omega), cF (by omega), cF (by omega), g40 h1 h4.1 h3 h4.2 (by omega), Option.bind_some, ho]
      show ((F35 (k + 2)).bind _) = _
      rw [g35 (by omega), Option.bind_some, cond_true, cT rfl]; rfl
    | some t =>
      show ((F34 (k + 48) s n).bind _) = _
      rw [g34, h1, Option.bind_some, Bool.not_true, cond_false, cF (by omega), cF (by omega), cF (by omega), g40 h1 h4.1 h3 h4.2 (by omega), Option.bind_some, ho]
      show ((F35 (k + 2)).bind _) = _
      rw [g35 (by omega), Option.bind_some, cond_true, cT rfl]; rfl
  · rw [g39n hlen hm, Option.bind_some]
    show ((F34 (k + 48) s n).bind _) = _
    rw [g34, Option.bind_some, bad11 [] rfl 4 rfl hk]
    cases h1 : may s n with
    | false => rfl
    | true =>
      rw [Bool.not_true, cond_false]
      by_cases h2 : 4096 < a.length
      · rw [cT (by omega)]
      · rw [cF (by omega)]
        by_cases h3 : 4112 < b.length
        · rw [cT (by omega)]
        · rw [cF (by omega), cT (by have : ¬(16 ≤ b.length) := fun h5 => hm ⟨h1, by omega, h5, by omega⟩; omega)]
theorem law_gcmOpens {k : Nat} (s n a b : List UInt8) (hlen : b.length < 9223372036854775808) (hk : 7000 ≤ k) : F11 k s n a b = some true := by
  unfold F11
  rw [g32, Option.bind_some, g32, Option.bind_some]
  by_cases h1 : a.length ≤ 4096
  · rw [cT (by omega)]
    by_cases h2 : b.length ≤ 4112
    · have t90 := take_if 90 b
      have t90' : List.take (if (90 : Int) < (b.length : Int) then (90 : Int) else (b.length : Int)).toNat b = b.take 90 := t90
      rw [cT (by omega), g32, Option.bind_some, gp (by omega), t90']
      have e1 : (a.take 70).length ≤ 70 := by rw [List.length_take]; omega
      have e2 : (b.take 90).length ≤ 90 := by rw [List.length_take]; omega
      exact piece11 (by omega) (.inl ⟨by omega, by omega⟩) hk
    · rw [cF (by omega)]
      exact piece11 hlen (.inr (.inr (by omega))) hk
  · rw [cF (by omega)]
    exact piece11 hlen (.inr (.inl (by omega))) hk
end Go.Proofs.Gc
namespace Go.Proofs.Ytegmincienhapaa
open Go.Sym
theorem gcmOpens_lifted (os : Os) (started : os.Started) (H : Type) (enc : TypeId × Value → H) :
    ReturnsInHanded {} Try.checked os 11 .any (Rows.gcmOpensSpec.pre6 enc Try.prog Try.f11 Rows.gcmOpensRow.domain false) (Rows.gcmOpensSpec.post enc Try.prog Try.f11 false true false false) := by
  refine returnsInHanded_of_change (C := Try.checked) Try.own started (by kernel_rfl) Try.func11
    (ChangeSpec.witness6 (enc := enc) (C := Try.checked) false ⟨#[], #[.string ByteArray.empty, .string ByteArray.empty, .string ByteArray.empty, .string ByteArray.empty], []⟩ 8 (by kernel_rfl) (by kernel_rfl) (by kernel_rfl) (by kernel_rfl)) ?_
  intro W base args ds gs before hval hW hcnd _
  refine law_endL (P := Try.prog) (C := Try.cfg) (k := 4) (tb := 4) Try.libOk Try.mixed Try.progOk Try.laidOut (by kernel_rfl) rfl rfl Try.underlying4 ?_ ?_ (fun j t v h1 h2 => ⟨base, hval j t v h1 h2⟩) hW
  · intro ds hds
    match ds, hds with
    | [d, e, f, g], _ => exact ⟨rfl, rfl, rfl⟩
  · intro xs hxs
    obtain ⟨x, y, z, w, rfl, hx, hy, hz, hw⟩ := Opn.four (P := Try.prog) (k := 4) (a := 9) (b := 9) (c := 9) (d := 9) hxs
    obtain ⟨a, rfl, _⟩ := Opn.open9 hx
    obtain ⟨b, rfl, _⟩ := Opn.open9 hy
    obtain ⟨c, rfl, _⟩ := Opn.open9 hz
    obtain ⟨d, rfl, hd⟩ := Opn.open9 hw
    exact ⟨_, F11_ok (Gc.law_gcmOpens (k := 7000) a b c d (Nat.lt_of_le_of_lt hd (by decide)) (Nat.le_refl _))⟩

theorem gcmOpens_holds : Rows.GcmOpensSaid :=
  OpenClaim.holds_of_wide 11 Try.f11 rfl rfl rfl rfl rfl rfl rfl ⟨rfl, rfl, rfl, rfl, rfl⟩ rfl rfl rfl rfl rfl (by kernel_rfl) Try.func11 (by kernel_rfl)
    (of_decide_eq_true (by kernel_rfl)) (by unfold Func.isWrapper; first | (rw [if_pos (by decide +kernel)]; kernel_rfl) | (rw [if_neg (by decide +kernel)]; exact ⟨rfl, rfl⟩))
    (fun os started H enc _ => gcmOpens_lifted os started H enc)
end Go.Proofs.Ytegmincienhapaa
