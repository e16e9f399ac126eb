/-
  GhashSums: any texts' blocks, and their sum by any block, are the reference's; a block that is not sixteen bytes long is refused.
-/
import Derived.Test.YtegmincienhapaaGh7
import Derived.Test.YtegmincienhapaaGfG
import Derived.Test.YtegmincienhapaaOpn
set_option linter.unusedVariables false
set_option linter.unusedSimpArgs false
set_option maxRecDepth 100000
namespace Go.Proofs
open Go Go.Sym Go.Sym.Gf
theorem law_ghashSums {k : Nat} (h a b : List UInt8) (hk : 300 ≤ k) : F7 k h a b = some true := by
  unfold F7
  rw [g22, Option.bind_some, g22, Option.bind_some, g22, Option.bind_some]
  have ha : (a.take 80).length ≤ 80 := by rw [List.length_take]; omega
  have hb : (b.take 80).length ≤ 80 := by rw [List.length_take]; omega
  generalize h.take 80 = s
  generalize a.take 80 = t at ha
  generalize b.take 80 = u at hb
  have tail : ∀ (x : Option Bool), ((F29 (k + 8) t u).bind fun (o0, b0, n0, x0) => ((F30 (k + 17) t u).bind fun (o1, b1, n1, x1) => ((F28 (k + 20) o0 b0 n0 x0 o1 b1 n1 x1).bind fun b2 => (bif !b2 then some false else ((F24 (k + 2)).bind fun b3 => (bif !b3 then some false else x)))))) = x := by
    intro x
    rw [g29 ha hb, Option.bind_some]
    simp only
    rw [g30 ha hb (by omega), Option.bind_some]
    simp only
    rw [g28 (by have := BL_small ha hb; omega) (by omega), Option.bind_some, dec_t rfl, Bool.not_true, cond_false, g24 (by omega), Option.bind_some, Bool.not_true, cond_false]
  by_cases hs : s.length = 16
  · obtain ⟨r, e1, l1, p1⟩ := g27 (k := k + 5) hs ha hb (by omega)
    obtain ⟨q, e2, l2, p2⟩ := g31 (k := k + 11) hs ha hb (by omega)
    have : r = q := el_inj l1 l2 (p1.trans p2.symm)
    subst this
    rw [e1, Option.bind_some]
    refine (tail _).trans ?_
    rw [cNT (by omega), cT rfl, e2, Option.bind_some, dec_t rfl]
  · rw [g27a _ _ _ _ hs, Option.bind_some]
    refine (tail _).trans ?_
    rw [cNF (by omega), cT rfl, dec_t rfl]
end Go.Proofs
namespace Go.Proofs.Ytegmincienhapaa
open Go.Sym
theorem ghashSums_lifted (os : Os) (started : os.Started) (H : Type) (enc : TypeId × Value → H) :
    ReturnsInHanded {} Try.checked os 7 .any (Rows.ghashSumsSpec.pre6 enc Try.prog Try.f7 Rows.ghashSumsRow.domain false) (Rows.ghashSumsSpec.post enc Try.prog Try.f7 false true false false) := by
  refine returnsInHanded_of_change (C := Try.checked) Try.own started (by kernel_rfl) Try.func7
    (ChangeSpec.witness6 (enc := enc) (C := Try.checked) false ⟨#[], #[.string ByteArray.empty, .string ByteArray.empty, .string ByteArray.empty], []⟩ 8 (by kernel_rfl) (by kernel_rfl) (by kernel_rfl) (by kernel_rfl)) ?_
  intro W base args ds gs before hval hW hcnd _
  refine law_endL (P := Try.prog) (C := Try.cfg) (k := 4) (tb := 4) Try.libOk Try.mixed Try.progOk Try.laidOut (by kernel_rfl) rfl rfl Try.underlying4 ?_ ?_ (fun j t v h1 h2 => ⟨base, hval j t v h1 h2⟩) hW
  · intro ds hds
    match ds, hds with
    | [d, e, f], _ => exact ⟨rfl, rfl, rfl⟩
  · intro xs hxs
    obtain ⟨x, y, z, rfl, hx, hy, hz⟩ := Opn.three (P := Try.prog) (k := 4) (a := 9) (b := 9) (c := 9) hxs
    obtain ⟨a, rfl, _⟩ := Opn.open9 hx
    obtain ⟨b, rfl, _⟩ := Opn.open9 hy
    obtain ⟨c, rfl, _⟩ := Opn.open9 hz
    exact ⟨_, F7_ok (law_ghashSums (k := 300) a b c (Nat.le_refl _))⟩

theorem ghashSums_holds : Rows.GhashSumsSaid :=
  OpenClaim.holds_of_wide 7 Try.f7 rfl rfl rfl rfl rfl rfl rfl ⟨rfl, rfl, rfl, rfl, rfl⟩ rfl rfl rfl rfl rfl (by kernel_rfl) Try.func7 (by kernel_rfl)
    (of_decide_eq_true (by kernel_rfl)) (by unfold Func.isWrapper; first | (rw [if_pos (by decide +kernel)]; kernel_rfl) | (rw [if_neg (by decide +kernel)]; exact ⟨rfl, rfl⟩))
    (fun os started H enc _ => ghashSums_lifted os started H enc)
end Go.Proofs.Ytegmincienhapaa
