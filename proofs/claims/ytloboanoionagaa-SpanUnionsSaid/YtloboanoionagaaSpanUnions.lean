/-
  SpanUnions: the union of any spans is as the document says, or refused, for all rows of spans.
-/
import Derived.Test.YtloboanoionagaaUn7
import Derived.Test.YtloboanoionagaaUnR
import Derived.ProofKit
import Derived.OpenShut
import Derived.Stop.Joined
import Derived.Test.YtloboanoionagaaSymLaw
set_option linter.unusedVariables false
set_option linter.unusedSimpArgs false
set_option maxRecDepth 100000
namespace Go.Proofs.Un
open Go Go.Sym Go.Proofs.Uni
theorem full_iff {r : Nat × Nat} (h : r.1 ≤ r.2 ∧ r.2 < B64) : full r = true ↔ r = (0, 18446744073709551615) := by
  unfold full ofE
  unfold B64 at *
  rw [decide_eq_true_iff]
  simp only
  constructor
  · intro h'; exact Prod.ext (by simp only; omega) (by simp only; omega)
  · rintro rfl; rfl
theorem full_one {c : Nat → Prop} {J : List (Nat × Nat)} (h : Runs c J) (hle : ∀ r ∈ J, r.1 ≤ r.2 ∧ r.2 < B64) (ha : J.any full = true) : J = [(0, 18446744073709551615)] := by
  obtain ⟨r, hr, hf⟩ := List.any_eq_true.1 ha
  have e := (full_iff (hle r hr)).1 hf
  subst e
  refine h.eq ⟨by simp, fun q hq => ?_, fun x hx => ?_⟩
  · rw [List.mem_singleton] at hq; subst hq; exact h.run _ hr
  · obtain ⟨q, hq, h1, h2⟩ := h.full x hx
    have := (hle q hq).2
    unfold B64 at this
    exact ⟨_, List.mem_singleton.2 rfl, by simp, by simp only; omega⟩
theorem law_spanUnions {k : Nat} {b : Bool} {o : Option Bool} {l : List (Nat × Nat)} (hfit : ∀ x ∈ l, fits x) (hk : 2000 ≤ k) : F7 k o b 2 (l.map sv) = some true := by
  unfold F7
  have h12 : List.take (if (12 : Int) < ((l.map sv).length : Int) then (12 : Int) else ((l.map sv).length : Int)).toNat (l.map sv) = (l.take 12).map sv := by
    rw [show (12 : Int) = ((12 : Nat) : Int) from rfl, take_if, List.map_take]
  have hl : (l.take 12).length ≤ 12 := by rw [List.length_take]; omega
  have hf : ∀ x ∈ l.take 12, fits x := fun x hx => hfit x (List.mem_of_mem_take hx)
  rw [gp rfl, gp (by omega), h12]
  generalize l.take 12 = m at hl hf
  have h11 : F11 (k + 5) = some true := g11 (by omega)
  rw [g24 (by omega) hf (by omega), g16 (by omega) hf (by omega), h11]
  simp only [Option.bind_some]
  unfold uniR
  by_cases h0 : firstE m = 0
  · have hg := good_of hf h0
    rw [cNT h0, if_pos h0, g25 (by omega) hg (by omega), g26 (by omega) hg (by omega)]
    simp only [Option.bind_some]
    have hR := ref_runs hg
    have hle := runs_le hg hR
    have hlen := laid_length (m.map en) (m.map en) []
    rw [List.length_map] at hlen
    generalize laid (m.map en) (m.map en) [] = J at hR hle hlen
    have hJl : J.length ≤ 1000 := by simp at hlen; omega
    by_cases ha : J.any full = true
    · have hJ := full_one hR hle ha
      subst hJ
      rw [if_pos ha]
      rfl
    · rw [if_neg ha]
      have hE : ∀ y : Option Bool, y = (bif decide True then (F17 (k + 14) none false 2 ((J.map ofE).map sv) none false 2 ((J.map ofE).map sv)).bind fun b5 => some b5 else some false) → y = some true := by
        intro y hy
        rw [hy, cT trivial, g17 (by rw [List.length_map]; exact hJl) (by omega)]; rfl
      by_cases h1 : J.length = 1
      · obtain ⟨r, rfl⟩ : ∃ r, J = [r] := by
          match J, h1 with
          | [r], _ => exact ⟨r, rfl⟩
        rw [cT (by simp), gp trivial]
        have hat : (at? ([r].map sv) 0).bind dAu64u64Z = some ((r.1 : Int), (r.2 : Int)) := by
          rw [show (0 : Int) = ((0 : Nat) : Int) from rfl, at_nat]; rfl
        rw [hat, Option.bind_some]
        have hr := hle r List.mem_cons_self
        have hnf : (decide ((r.1 : Int) = 0) && (decide ((r.2 : Int) = 18446744073709551615) && true)) = false := by
          cases hc : (decide ((r.1 : Int) = 0) && (decide ((r.2 : Int) = 18446744073709551615) && true)) with
          | false => rfl
          | true =>
            exfalso
            rw [Bool.and_true, Bool.and_eq_true, decide_eq_true_iff, decide_eq_true_iff] at hc
            apply ha
            rw [List.any_cons, (full_iff hr).2 (Prod.ext (by simp only; omega) (by simp only; omega)), Bool.true_or]
        simp only
        rw [hnf, cond_false, cond_true]
        exact hE _ rfl
      · rw [cF (by rw [List.length_map]; omega), cond_true]
        exact hE _ rfl
  · rw [cNF h0, if_neg h0, cond_true]
    show (bif decide (firstE m = firstE m) then some (decide ((([] : List V).length : Int) = 0)) else some false) = some true
    rw [cT rfl]; rfl
theorem ts22 : tsize Try.prog 22 = 1 := by kernel_rfl
theorem ts24 : tsize Try.prog 24 = 2 := by kernel_rfl
theorem ta24 : tagg Try.prog 24 = some true := by kernel_rfl
theorem take_one {vs : List V} {x : V} (h : vs.take 1 = [x]) : vs = x :: vs.drop 1 := by
  cases vs with
  | nil => simp at h
  | cons y r => simp at h; subst h; simp
theorem ta34 : tagg Try.prog 34 = some false := by kernel_rfl
/-- Rows of spans. -/
theorem open34 {k : Nat} {v : V} (h : VArg Try.prog (k + 3) 34 v) : ∃ (n : Bool) (l : List (Nat × Nat)), v = V.sl (some n) n 2 (l.map sv) ∧ ∀ x ∈ l, fits x := by
  unfold VArg at h
  obtain ⟨vs, hv, h⟩ := h
  simp only [VT, Try.underlying34, Try.underlying24, VTs, Try.underlying22, ts22, ts24] at h
  obtain ⟨n, xs, h1, hn, hlen, hx⟩ := h
  have he : ∀ x ∈ xs, ∃ y : Nat × Nat, x = sv y ∧ fits y := by
    intro x hm
    obtain ⟨zs, hz, ⟨a, g1, ga⟩, ⟨b, g2, gb⟩, g3⟩ := hx x hm
    have e1 := take_one g1
    have e2 := take_one g2
    rw [g3] at e2
    rw [e2] at e1
    obtain ⟨a1, a2⟩ := wf_u64 ga
    obtain ⟨b1, b2⟩ := wf_u64 gb
    refine ⟨(a.toNat, b.toNat), hz.trans ?_, by unfold fits B64; simp only; omega⟩
    unfold sv
    simp only [Sym.mk, ta24, e1]
    rw [Int.toNat_of_nonneg a1, Int.toNat_of_nonneg b1]
  have hl : ∃ l : List (Nat × Nat), xs = l.map sv ∧ ∀ x ∈ l, fits x := by
    clear h1 hn hlen hx
    induction xs with
    | nil => exact ⟨[], rfl, fun x h => by cases h⟩
    | cons x r ih =>
      obtain ⟨y, rfl, hy⟩ := he x List.mem_cons_self
      obtain ⟨l, rfl, hl⟩ := ih fun z hz => he z (List.mem_cons_of_mem _ hz)
      exact ⟨y :: l, rfl, fun z hz => (List.mem_cons.1 hz).elim (fun e => e ▸ hy) (hl z)⟩
  obtain ⟨l, rfl, hf⟩ := hl
  exact ⟨n, l, hv.trans (by rw [h1]; simp only [Sym.mk, ta34, List.headD_cons]), hf⟩
end Go.Proofs.Un
namespace Go.Proofs.Ytloboanoionagaa
open Go.Sym
theorem spanUnions_lifted (os : Os) (started : os.Started) (H : Type) (enc : TypeId × Value → H) :
    ReturnsInHanded {} Try.checked os 7 .any (Rows.spanUnionsSpec.pre6 enc Try.prog Try.f7 Rows.spanUnionsRow.domain false) (Rows.spanUnionsSpec.post enc Try.prog Try.f7 false true false false) := by
  refine returnsInHanded_of_change (C := Try.checked) Try.own started (by kernel_rfl) Try.func7
    (ChangeSpec.witness6 (enc := enc) (C := Try.checked) false ⟨#[], #[.slice none 0 0], []⟩ 8 (by kernel_rfl) (by kernel_rfl) (by kernel_rfl) (by kernel_rfl)) ?_
  intro W base args ds gs before hval hW hcnd _
  refine law_endL (P := Try.prog) (C := Try.cfg) (k := 4) (tb := 4) Try.libOk Try.mixed Try.progOk Try.laidOut (by kernel_rfl) rfl rfl Try.underlying4 ?_ ?_ (fun j t v h1 h2 => ⟨base, hval j t v h1 h2⟩) hW
  · intro ds hds
    match ds, hds with
    | [d], _ => exact ⟨rfl, rfl, rfl⟩
  · intro xs hxs
    match xs, hxs with
    | [x], ⟨hx, _⟩ =>
      obtain ⟨n, l, rfl, hf⟩ := Un.open34 hx
      exact ⟨_, F7_ok (Un.law_spanUnions (k := 2000) hf (Nat.le_refl _))⟩

theorem spanUnions_holds : Rows.SpanUnionsSaid :=
  OpenClaim.holds_of_wide 7 Try.f7 rfl rfl rfl rfl rfl rfl rfl ⟨rfl, rfl, rfl, rfl, rfl⟩ rfl rfl rfl rfl rfl (by kernel_rfl) Try.func7 (by kernel_rfl)
    (of_decide_eq_true (by kernel_rfl)) (by unfold Func.isWrapper; first | (rw [if_pos (by decide +kernel)]; kernel_rfl) | (rw [if_neg (by decide +kernel)]; exact ⟨rfl, rfl⟩))
    (fun os started H enc _ => spanUnions_lifted os started H enc)
end Go.Proofs.Ytloboanoionagaa
