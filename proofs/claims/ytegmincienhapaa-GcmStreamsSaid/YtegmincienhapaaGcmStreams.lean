/-
  GcmStreams: any stream is as the reference says, or refused.
-/
import Derived.Test.YtegmincienhapaaGc10
import Derived.Test.YtegmincienhapaaGcC
import Derived.Test.YtegmincienhapaaOpn
set_option linter.unusedVariables false
set_option linter.unusedSimpArgs false
set_option maxRecDepth 1000000
namespace Go.Proofs.Gc
open Go Go.Sym Go.Sym.Gf Go.Proofs.Ae
theorem bad10 {k : Nat} (s : List UInt8) (h : s = []) (i : Int) (hi : i = 4) (hk : 7000 ≤ k) : ((F35 (k + 2)).bind fun b1 => (bif b1 then (bif decide (i = 4) then (some (decide (s = []))) else (some false)) else (some false))) = some true := by
  rw [g35 (by omega), Option.bind_some, cond_true, cT hi, dec_t h]
theorem piece10 {k i : Nat} {m : Int} {s n : List UInt8} (hi : i < 4294967296) (hk : 7000 ≤ k) :
    ((F37 (k + 9) s n (i : Int) m).bind fun (s4, i2) => ((F34 (k + 48) s n).bind fun b0 => (bif !b0 then ((F35 (k + 2)).bind fun b1 => (bif b1 then (bif decide (i2 = 4) then (some (decide (s4 = []))) else (some (false))) else (some (false)))) else (bif decide (m < 0) then ((F35 (k + 2)).bind fun b1 => (bif b1 then (bif decide (i2 = 4) then (some (decide (s4 = []))) else (some (false))) else (some (false)))) else (bif decide (5000 < m) then ((F35 (k + 2)).bind fun b1 => (bif b1 then (bif decide (i2 = 4) then (some (decide (s4 = []))) else (some (false))) else (some (false)))) else ((F35 (k + 2)).bind fun b1 => (bif b1 then (bif decide (i2 = 0) then ((F38 (k + 27) s n (i : Int) m).bind fun s5 => (some (decide (s4 = s5)))) else (some (false))) else (some (false))))))))) = some true := by
  by_cases hm : may s n = true ∧ 0 ≤ m ∧ m ≤ 5000
  · obtain ⟨h1, h2, h3⟩ := hm
    obtain ⟨hs, hn⟩ := may_iff.1 h1
    obtain ⟨q, rfl⟩ : ∃ q : Nat, m = (q : Int) := ⟨m.toNat, by omega⟩
    rw [g37 h1 hi (by omega) (by omega), Option.bind_some]
    show ((F34 (k + 48) s n).bind _) = _
    rw [g34, h1, Option.bind_some, Bool.not_true, cond_false, cF (by omega), cF (by omega), g35 (by omega), Option.bind_some, cond_true, cT rfl, g38 hs hn (by omega) hi (by omega), Option.bind_some, dec_t rfl]
  · rw [g37n hm, Option.bind_some]
    show ((F34 (k + 48) s n).bind _) = _
    rw [g34, Option.bind_some, bad10 [] rfl 4 rfl hk]
    cases h1 : may s n with
    | false => rfl
    | true =>
      rw [Bool.not_true, cond_false]
      by_cases h2 : m < 0
      · rw [cT h2]
      · rw [cF h2, cT (by have : ¬(m ≤ 5000) := fun h3 => hm ⟨h1, by omega, h3⟩; omega)]
theorem piece80 {k i : Nat} {s n : List UInt8} (hi : i < 4294967296) (hk : 7000 ≤ k) :
    ((F37 (k + 9) s n (i : Int) 80).bind fun (s4, i2) => ((F34 (k + 48) s n).bind fun b0 => (bif !b0 then ((F35 (k + 2)).bind fun b1 => (bif b1 then (bif decide (i2 = 4) then (some (decide (s4 = []))) else (some (false))) else (some (false)))) else ((F35 (k + 2)).bind fun b1 => (bif b1 then (bif decide (i2 = 0) then ((F38 (k + 27) s n (i : Int) 80).bind fun s5 => (some (decide (s4 = s5)))) else (some (false))) else (some (false))))))) = some true := by
  by_cases h1 : may s n = true
  · obtain ⟨hs, hn⟩ := may_iff.1 h1
    rw [show (80 : Int) = ((80 : Nat) : Int) from rfl, g37 h1 hi (by omega) (by omega), Option.bind_some]
    show ((F34 (k + 48) s n).bind _) = _
    rw [g34, h1, Option.bind_some, Bool.not_true, cond_false, g35 (by omega), Option.bind_some, cond_true, cT rfl, g38 hs hn (by omega) hi (by omega), Option.bind_some, dec_t rfl]
  · rw [g37n (fun h => h1 h.1), Option.bind_some]
    show ((F34 (k + 48) s n).bind _) = _
    rw [g34, Option.bind_some, bad10 [] rfl 4 rfl hk]
    cases h2 : may s n with
    | false => rfl
    | true => exact absurd h2 h1
theorem law_gcmStreams {k i : Nat} {m : Int} (s n : List UInt8) (hi : i < 4294967296) (hk : 7000 ≤ k) : F10 k s n (i : Int) m = some true := by
  unfold F10
  rw [g32, Option.bind_some, g32, Option.bind_some]
  by_cases h1 : 80 < m
  · rw [cT h1]
    by_cases h2 : m ≤ 5000
    · rw [cT h2]
      exact piece80 hi hk
    · rw [cF h2]
      exact piece10 hi hk
  · rw [cF h1]
    exact piece10 hi hk
theorem ta53 : tagg Try.prog 53 = some false := by kernel_rfl
theorem ta3 : tagg Try.prog 3 = some false := by kernel_rfl
theorem open53 {k : Nat} {v : V} (h : VArg Try.prog (k + 1) 53 v) : ∃ n : Nat, v = V.int .u32 (n : Int) ∧ n < 4294967296 := by
  unfold VArg at h
  obtain ⟨vs, hv, h⟩ := h
  simp only [VT, Try.underlying53] at h
  obtain ⟨n, h1, hw⟩ := h
  have h2 : 0 ≤ n ∧ n < 4294967296 := by
    simp [Lit.wf, IntKind.min, IntKind.max, IntKind.signed, IntKind.bits] at hw
    omega
  refine ⟨n.toNat, hv.trans ?_, by omega⟩
  rw [h1, show ((n.toNat : Nat) : Int) = n by omega]
  simp only [Sym.mk, ta53, List.headD_cons]
theorem open3 {k : Nat} {v : V} (h : VArg Try.prog (k + 1) 3 v) : ∃ a, v = V.int .i64 a ∧ -9223372036854775808 ≤ a ∧ a < 9223372036854775808 := by
  unfold VArg at h
  obtain ⟨vs, hv, h⟩ := h
  simp only [VT, Try.underlying3] at h
  obtain ⟨n, h1, hw⟩ := h
  exact ⟨n, hv.trans (by rw [h1]; simp only [Sym.mk, ta3, List.headD_cons]), wf_i64 hw⟩
end Go.Proofs.Gc
namespace Go.Proofs.Ytegmincienhapaa
open Go.Sym
theorem gcmStreams_lifted (os : Os) (started : os.Started) (H : Type) (enc : TypeId × Value → H) :
    ReturnsInHanded {} Try.checked os 10 .any (Rows.gcmStreamsSpec.pre6 enc Try.prog Try.f10 Rows.gcmStreamsRow.domain false) (Rows.gcmStreamsSpec.post enc Try.prog Try.f10 false true false false) := by
  refine returnsInHanded_of_change (C := Try.checked) Try.own started (by kernel_rfl) Try.func10
    (ChangeSpec.witness6 (enc := enc) (C := Try.checked) false ⟨#[], #[.string ByteArray.empty, .string ByteArray.empty, .int .u32 0, .int .i64 0], []⟩ 8 (by kernel_rfl) (by kernel_rfl) (by kernel_rfl) (by kernel_rfl)) ?_
  intro W base args ds gs before hval hW hcnd _
  refine law_endL (P := Try.prog) (C := Try.cfg) (k := 4) (tb := 4) Try.libOk Try.mixed Try.progOk Try.laidOut (by kernel_rfl) rfl rfl Try.underlying4 ?_ ?_ (fun j t v h1 h2 => ⟨base, hval j t v h1 h2⟩) hW
  · intro ds hds
    match ds, hds with
    | [d, e, f, g], _ => exact ⟨rfl, rfl, rfl⟩
  · intro xs hxs
    obtain ⟨x, y, z, w, rfl, hx, hy, hz, hw⟩ := Opn.four (P := Try.prog) (k := 4) (a := 9) (b := 9) (c := 53) (d := 3) hxs
    obtain ⟨a, rfl, _⟩ := Opn.open9 hx
    obtain ⟨b, rfl, _⟩ := Opn.open9 hy
    obtain ⟨i, rfl, hi⟩ := Gc.open53 hz
    obtain ⟨m, rfl, _⟩ := Gc.open3 hw
    exact ⟨_, F10_ok (Gc.law_gcmStreams (k := 7000) a b hi (Nat.le_refl _))⟩

theorem gcmStreams_holds : Rows.GcmStreamsSaid :=
  OpenClaim.holds_of_wide 10 Try.f10 rfl rfl rfl rfl rfl rfl rfl ⟨rfl, rfl, rfl, rfl, rfl⟩ rfl rfl rfl rfl rfl (by kernel_rfl) Try.func10 (by kernel_rfl)
    (of_decide_eq_true (by kernel_rfl)) (by unfold Func.isWrapper; first | (rw [if_pos (by decide +kernel)]; kernel_rfl) | (rw [if_neg (by decide +kernel)]; exact ⟨rfl, rfl⟩))
    (fun os started H enc _ => gcmStreams_lifted os started H enc)
end Go.Proofs.Ytegmincienhapaa
