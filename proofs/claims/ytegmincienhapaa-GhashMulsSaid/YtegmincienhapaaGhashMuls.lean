/-
  GhashMuls: the product of ghash is the reference's product, bit by bit; a text that is not sixteen bytes long is refused.
-/
import Derived.Test.YtegmincienhapaaGh5
import Derived.Test.YtegmincienhapaaGfE
import Derived.Test.YtegmincienhapaaGfO
set_option linter.unusedVariables false
set_option linter.unusedSimpArgs false
set_option maxRecDepth 100000
namespace Go.Proofs
open Go Go.Sym Go.Sym.Gf
theorem law_ghashMuls {k : Nat} (a b : List UInt8) (hk : 300 ≤ k) : F5 k a b = some true := by
  unfold F5
  rw [g22, Option.bind_some, g22, Option.bind_some]
  generalize a.take 80 = s
  generalize b.take 80 = t
  by_cases hs : s.length = 16
  · by_cases ht : t.length = 16
    · obtain ⟨r, e1, l1, p1⟩ := g23 (k := k + 5) s t hs ht (by omega)
      obtain ⟨q, e2, l2, p2⟩ := g25 (k := k + 14) s t hs ht (by omega)
      have : r = q := el_inj l1 l2 (p1.trans p2.symm)
      subst this
      rw [e1, Option.bind_some]
      show (bif !decide ((s.length : Int) = 16) then _ else _) = _
      rw [cNT (by omega), cNT (by omega), g24 (by omega), Option.bind_some, cond_true, cT rfl, e2, Option.bind_some, dec_t rfl]
    · rw [g23b _ _ _ ht, Option.bind_some]
      show (bif !decide ((s.length : Int) = 16) then _ else _) = _
      rw [cNT (by omega), cNF (by omega), g24 (by omega), Option.bind_some, cond_true, cT rfl, dec_t rfl]
  · rw [g23a _ _ _ hs, Option.bind_some]
    show (bif !decide ((s.length : Int) = 16) then _ else _) = _
    rw [cNF (by omega), g24 (by omega), Option.bind_some, cond_true, cT rfl, dec_t rfl]
end Go.Proofs
namespace Go.Proofs.Ytegmincienhapaa
open Go.Sym
theorem ghashMuls_lifted (os : Os) (started : os.Started) (H : Type) (enc : TypeId × Value → H) :
    ReturnsInHanded {} Try.checked os 5 .any (Rows.ghashMulsSpec.pre6 enc Try.prog Try.f5 Rows.ghashMulsRow.domain false) (Rows.ghashMulsSpec.post enc Try.prog Try.f5 false true false false) := by
  refine returnsInHanded_of_change (C := Try.checked) Try.own started (by kernel_rfl) Try.func5
    (ChangeSpec.witness6 (enc := enc) (C := Try.checked) false ⟨#[], #[.string ByteArray.empty, .string ByteArray.empty], []⟩ 8 (by kernel_rfl) (by kernel_rfl) (by kernel_rfl) (by kernel_rfl)) ?_
  intro W base args ds gs before hval hW hcnd _
  refine law_end (P := Try.prog) (C := Try.cfg) (k := 4) (tb := 4) Try.mixed Try.progOk Try.laidOut (by kernel_rfl) rfl rfl Try.underlying4 ?_ ?_ (fun j t v h1 h2 => ⟨base, hval j t v h1 h2⟩) hW
  · intro ds hds
    match ds, hds with
    | [d, e], _ => exact ⟨rfl, rfl, rfl⟩
  · intro xs hxs
    obtain ⟨x, y, rfl, hx, hy⟩ := VArgs2 (P := Try.prog) (k := 4) (a := 9) (b := 9) hxs
    obtain ⟨s, rfl⟩ := open9 hx
    obtain ⟨t, rfl⟩ := open9 hy
    exact ⟨_, F5_ok (law_ghashMuls (k := 300) s t (Nat.le_refl _))⟩

theorem ghashMuls_holds : Rows.GhashMulsSaid :=
  OpenClaim.holds_of_wide 5 Try.f5 rfl rfl rfl rfl rfl rfl rfl ⟨rfl, rfl, rfl, rfl, rfl⟩ rfl rfl rfl rfl rfl (by kernel_rfl) Try.func5 (by kernel_rfl)
    (of_decide_eq_true (by kernel_rfl)) (by unfold Func.isWrapper; first | (rw [if_pos (by decide +kernel)]; kernel_rfl) | (rw [if_neg (by decide +kernel)]; exact ⟨rfl, rfl⟩))
    (fun os started H enc _ => ghashMuls_lifted os started H enc)
end Go.Proofs.Ytegmincienhapaa
