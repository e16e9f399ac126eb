/-
  SpanOrder: a union's union is that; it does not hang on the spans' order; with one of them twice it is the same, for all rows of spans.
-/
import Derived.Test.YtloboanoionagaaUn8
import Derived.Test.YtloboanoionagaaUnR
import Derived.Test.YtloboanoionagaaSymLaw
set_option linter.unusedVariables false
set_option linter.unusedSimpArgs false
set_option maxRecDepth 100000
namespace Go.Proofs.Un
open Go Go.Sym Go.Proofs.Uni
theorem firstE_zero {l : List (Nat × Nat)} (h : ∀ x ∈ l, chk x = 0) : firstE l = 0 := by
  induction l with
  | nil => rfl
  | cons x r ih => unfold firstE; rw [if_pos (h x List.mem_cons_self)]; exact ih fun y hy => h y (List.mem_cons_of_mem _ hy)
/-- What Union answers hangs on what is covered alone. -/
theorem uniR_cov {l m : List (Nat × Nat)} (hl : good l) (hm : good m) (h : ∀ x, cov (l.map en) x ↔ cov (m.map en) x) : uniR l = uniR m := by
  unfold uniR
  rw [if_pos (firstE_zero fun x hx => (hl x hx).2), if_pos (firstE_zero fun x hx => (hm x hx).2), ((ref_runs hl).congr h).eq (ref_runs hm)]
theorem ofE_good {r : Nat × Nat} (h : r.1 ≤ r.2 ∧ r.2 < B64) (hf : full r = false) : fits (ofE r) ∧ chk (ofE r) = 0 ∧ en (ofE r) = r := by
  unfold full at hf
  rw [decide_eq_false_iff_not] at hf
  unfold ofE at hf ⊢
  unfold fits chk en
  unfold B64 at *
  simp only at hf ⊢
  refine ⟨by omega, ?_, Prod.ext rfl (by simp only; omega)⟩
  rw [if_neg hf, if_neg (by omega)]
theorem idx {M : Nat} (h0 : 1 ≤ M) (h1 : M ≤ 10000) (i : Int) : ∃ q : Nat, q < M ∧ (IntKind.i64.wrap (i.tmod ((M : Nat) : Int) + ((M : Nat) : Int))).tmod ((M : Nat) : Int) = (q : Int) := by
  have a := Int.tmod_lt_of_pos i (show (0 : Int) < ((M : Nat) : Int) by omega)
  have b := Int.lt_tmod_of_pos i (show (0 : Int) < ((M : Nat) : Int) by omega)
  generalize i.tmod ((M : Nat) : Int) = t at a b
  have e := Int.tmod_eq_emod_of_nonneg (a := t + ((M : Nat) : Int)) (b := ((M : Nat) : Int)) (by omega)
  have c := Int.emod_nonneg (t + ((M : Nat) : Int)) (show ((M : Nat) : Int) ≠ 0 by omega)
  have d := Int.emod_lt_of_pos (t + ((M : Nat) : Int)) (show (0 : Int) < ((M : Nat) : Int) by omega)
  rw [wi (by omega) (by omega), e]
  exact ⟨((t + ((M : Nat) : Int)) % ((M : Nat) : Int)).toNat, by omega, by omega⟩
theorem L270_two {k f : Nat} {b b1 b2 : Bool} {o o1 o2 : Option Bool} {p q : List V} (hp : p.length ≤ 100) (hq : q.length ≤ 100) :
    L27_0 k b [V.sl o1 b1 2 p, V.sl o2 b2 2 q] o 1 (f + 3) 0 0 = some (.e0 ((p.length + q.length : Nat) : Int) 2) := by
  have e0 : (at? [V.sl o1 b1 2 p, V.sl o2 b2 2 q] 0).bind dx = some (o1, b1, 2, p) := rfl
  have e1 : (at? [V.sl o1 b1 2 p, V.sl o2 b2 2 q] 1).bind dx = some (o2, b2, 2, q) := rfl
  rw [L27_0, cT (by simp), gp rfl, e0, Option.bind_some]
  simp only
  rw [wi (n := 0 + (p.length : Int)) (by omega) (by omega), cF (by omega), show IntKind.i64.wrap (0 + 1) = 1 from rfl, L27_0, cT (by simp), gp rfl, e1, Option.bind_some]
  simp only
  rw [wi (n := 0 + (p.length : Int) + (q.length : Int)) (by omega) (by omega), cF (by omega), show IntKind.i64.wrap (1 + 1) = 2 from rfl, L27_0, cF (by simp)]
  congr 2
  omega
theorem L271_two {k f : Nat} {a c : Int} {b b1 b2 : Bool} {o o1 o2 : Option Bool} {p q : List V} (hp : p.length ≤ 100) (hq : q.length ≤ 100) :
    L27_1 k a c b [V.sl o1 b1 2 p, V.sl o2 b2 2 q] o 1 (f + 3) 0 [] = some (.e0 2 (p ++ q)) := by
  have e0 : (at? [V.sl o1 b1 2 p, V.sl o2 b2 2 q] 0).bind dx = some (o1, b1, 2, p) := rfl
  have e1 : (at? [V.sl o1 b1 2 p, V.sl o2 b2 2 q] 1).bind dx = some (o2, b2, 2, q) := rfl
  rw [L27_1, cT (by simp), gp rfl, e0, Option.bind_some]
  simp only
  rw [gp (.inl trivial), gp (by simp; unfold maxLen'; omega), show IntKind.i64.wrap (0 + 1) = 1 from rfl, L27_1, cT (by simp), gp rfl, e1, Option.bind_some]
  simp only
  rw [gp (.inl trivial), gp (by simp; unfold maxLen'; omega), show IntKind.i64.wrap (1 + 1) = 2 from rfl, L27_1, cF (by simp), List.nil_append]
theorem g27 {k : Nat} {b b1 b2 : Bool} {o o1 o2 : Option Bool} {p q : List (Nat × Nat)} (hp : p.length ≤ 100) (hq : q.length ≤ 100) :
    F27 k o b 1 [V.sl o1 b1 2 (p.map sv), V.sl o2 b2 2 (q.map sv)] = some (none, false, 2, (p ++ q).map sv) := by
  unfold F27
  rw [L270_two (by rw [List.length_map]; exact hp) (by rw [List.length_map]; exact hq), Option.bind_some]
  simp only
  rw [L271_two (by rw [List.length_map]; exact hp) (by rw [List.length_map]; exact hq), List.length_map, List.length_map, cF (by omega), wi (n := ((p.length + q.length : Nat) : Int) - 0) (by omega) (by omega)]
  have e : p.map sv ++ q.map sv = (p ++ q).map sv := (List.map_append ..).symm
  rw [e]
  by_cases h : 0 < p.length + q.length
  · rw [cT (by omega), gp (by unfold maxLen'; omega)]; rfl
  · rw [cF (by omega)]; rfl
/-- What Union answers: an error, or the runs. -/
theorem uniR_cases {m : List (Nat × Nat)} (hf : ∀ x ∈ m, fits x) : (∃ e : Int, e ≠ 0 ∧ uniR m = (some true, true, 0, [], e)) ∨
    ∃ J : List (Nat × Nat), good m ∧ uniR m = (none, false, 2, (J.map ofE).map sv, 0) ∧ J.length ≤ m.length ∧ good (J.map ofE) ∧ ∀ x, cov ((J.map ofE).map en) x ↔ cov (m.map en) x := by
  unfold uniR
  by_cases h0 : firstE m = 0
  · have hg := good_of hf h0
    rw [if_pos h0]
    have hR := ref_runs hg
    have hle := runs_le hg hR
    have hlen := laid_length (m.map en) (m.map en) []
    rw [List.length_map] at hlen
    generalize laid (m.map en) (m.map en) [] = J at hR hle hlen
    by_cases ha : J.any full = true
    · rw [if_pos ha]
      exact .inl ⟨2, by decide, rfl⟩
    · rw [if_neg ha]
      have hnf : ∀ r ∈ J, full r = false := fun r hr => by
        cases h : full r with
        | false => rfl
        | true => exact absurd (List.any_eq_true.2 ⟨r, hr, h⟩) ha
      refine .inr ⟨J, hg, rfl, by simpa using hlen, ?_, ?_⟩
      · intro x hx
        obtain ⟨r, hr, rfl⟩ := List.mem_map.1 hx
        exact ⟨(ofE_good (hle r hr) (hnf r hr)).1, (ofE_good (hle r hr) (hnf r hr)).2.1⟩
      · have e : (J.map ofE).map en = J := by
          rw [List.map_map]
          refine (List.map_congr_left fun r hr => ?_).trans (List.map_id J)
          exact (ofE_good (hle r hr) (hnf r hr)).2.2
        rw [e]
        exact hR.cov
  · rw [if_neg h0]
    exact .inl ⟨_, h0, rfl⟩
theorem law_spanOrder {k : Nat} {b : Bool} {o : Option Bool} {l : List (Nat × Nat)} {i : Int} (hfit : ∀ x ∈ l, fits x) (hk : 2000 ≤ k) : F8 k o b 2 (l.map sv) i = some true := by
  unfold F8
  have h12 : List.take (if (12 : Int) < ((l.map sv).length : Int) then (12 : Int) else ((l.map sv).length : Int)).toNat (l.map sv) = (l.take 12).map sv := by
    rw [show (12 : Int) = ((12 : Nat) : Int) from rfl, take_if, List.map_take]
  have hl : (l.take 12).length ≤ 12 := by rw [List.length_take]; omega
  have hf : ∀ x ∈ l.take 12, fits x := fun x hx => hfit x (List.mem_of_mem_take hx)
  rw [gp rfl, gp (by omega), h12]
  generalize l.take 12 = m at hl hf
  have h11 : F11 (k + 2) = some true := g11 (by omega)
  rw [g24 (by omega) hf (by omega), h11]
  rcases uniR_cases hf with ⟨e, he, hU⟩ | ⟨J, hg, hU, hJ, hgJ, hcJ⟩
  · rw [hU, Option.bind_some]
    simp only
    rw [cNF he]; rfl
  · rw [hU, Option.bind_some]
    simp only
    rw [cNT trivial, List.length_map]
    have hfJ : ∀ x ∈ J.map ofE, fits x := fun x hx => (hgJ x hx).1
    have e1 : uniR (J.map ofE) = (none, false, 2, (J.map ofE).map sv, 0) := (uniR_cov hgJ hg hcJ).trans hU
    by_cases hm : m.length = 0
    · rw [cT (by omega)]
      have hJ0 : J = [] := List.eq_nil_of_length_eq_zero (by omega)
      subst hJ0; rfl
    · rw [cF (by omega), gp (by omega), g24 (by rw [List.length_map]; omega) hfJ (by omega), e1, Option.bind_some]
      simp only
      obtain ⟨q, hq, hK⟩ := idx (M := m.length) (by omega) (by omega) i
      rw [hK, gp (by omega), Int.toNat_natCast, ← List.map_drop, ← List.map_take]
      have hperm : (m.drop q ++ m.take q).Perm m := by
        have h := List.perm_append_comm (l₁ := m.drop q) (l₂ := m.take q)
        rwa [List.take_append_drop] at h
      have hg1 : good (m.drop q ++ m.take q) := fun x hx => hg x (hperm.mem_iff.1 hx)
      have hg2 : good (m ++ m.drop q) := fun x hx => by
        rcases List.mem_append.1 hx with h | h
        · exact hg x h
        · exact hg x (List.mem_of_mem_drop h)
      have e2 : uniR (m.drop q ++ m.take q) = (none, false, 2, (J.map ofE).map sv, 0) := (uniR_cov hg1 hg (cov_perm (hperm.map en))).trans hU
      have e3 : uniR (m ++ m.drop q) = (none, false, 2, (J.map ofE).map sv, 0) := by
        refine (uniR_cov hg2 hg fun x => ⟨?_, ?_⟩).trans hU
        · rintro ⟨s, hs, h1⟩
          rw [List.map_append, List.mem_append] at hs
          rcases hs with hs | hs
          · exact ⟨s, hs, h1⟩
          · obtain ⟨y, hy, rfl⟩ := List.mem_map.1 hs
            exact ⟨_, List.mem_map.2 ⟨y, List.mem_of_mem_drop hy, rfl⟩, h1⟩
        · rintro ⟨s, hs, h1⟩
          exact ⟨s, by rw [List.map_append]; exact List.mem_append_left _ hs, h1⟩
      rw [g27 (by rw [List.length_drop]; omega) (by rw [List.length_take]; omega), Option.bind_some]
      simp only
      rw [g24 (by rw [List.length_append, List.length_drop, List.length_take]; omega) (fun x hx => (hg1 x hx).1) (by omega), e2, Option.bind_some]
      simp only
      rw [g27 (by omega) (by rw [List.length_drop]; omega), Option.bind_some]
      simp only
      rw [g24 (by rw [List.length_append, List.length_drop]; omega) (fun x hx => (hg2 x hx).1) (by omega), e3, Option.bind_some]
      simp only
      have h17 : F17 (k + 11) none false 2 ((J.map ofE).map sv) none false 2 ((J.map ofE).map sv) = some true := g17 (by rw [List.length_map]; omega) (by omega)
      rw [h17]
      rfl
theorem ts22 : tsize Try.prog 22 = 1 := by kernel_rfl
theorem ts24 : tsize Try.prog 24 = 2 := by kernel_rfl
theorem ta24 : tagg Try.prog 24 = some true := by kernel_rfl
theorem ta3 : tagg Try.prog 3 = some false := by kernel_rfl
theorem take_one {vs : List V} {x : V} (h : vs.take 1 = [x]) : vs = x :: vs.drop 1 := by
  cases vs with
  | nil => simp at h
  | cons y r => simp at h; subst h; simp
theorem ta34 : tagg Try.prog 34 = some false := by kernel_rfl
/-- Rows of spans. -/
theorem open34 {k : Nat} {v : V} (h : VArg Try.prog (k + 3) 34 v) : ∃ (n : Bool) (l : List (Nat × Nat)), v = V.sl (some n) n 2 (l.map sv) ∧ ∀ x ∈ l, fits x := by
  unfold VArg at h
  obtain ⟨vs, hv, h⟩ := h
  simp only [VT, Try.underlying34, Try.underlying24, VTs, Try.underlying22, ts22, ts24] at h
  obtain ⟨n, xs, h1, hn, hlen, hx⟩ := h
  have he : ∀ x ∈ xs, ∃ y : Nat × Nat, x = sv y ∧ fits y := by
    intro x hm
    obtain ⟨zs, hz, ⟨a, g1, ga⟩, ⟨b, g2, gb⟩, g3⟩ := hx x hm
    have e1 := take_one g1
    have e2 := take_one g2
    rw [g3] at e2
    rw [e2] at e1
    obtain ⟨a1, a2⟩ := wf_u64 ga
    obtain ⟨b1, b2⟩ := wf_u64 gb
    refine ⟨(a.toNat, b.toNat), hz.trans ?_, by unfold fits B64; simp only; omega⟩
    unfold sv
    simp only [Sym.mk, ta24, e1]
    rw [Int.toNat_of_nonneg a1, Int.toNat_of_nonneg b1]
  have hl : ∃ l : List (Nat × Nat), xs = l.map sv ∧ ∀ x ∈ l, fits x := by
    clear h1 hn hlen hx
    induction xs with
    | nil => exact ⟨[], rfl, fun x h => by cases h⟩
    | cons x r ih =>
      obtain ⟨y, rfl, hy⟩ := he x List.mem_cons_self
      obtain ⟨l, rfl, hl⟩ := ih fun z hz => he z (List.mem_cons_of_mem _ hz)
      exact ⟨y :: l, rfl, fun z hz => (List.mem_cons.1 hz).elim (fun e => e ▸ hy) (hl z)⟩
  obtain ⟨l, rfl, hf⟩ := hl
  exact ⟨n, l, hv.trans (by rw [h1]; simp only [Sym.mk, ta34, List.headD_cons]), hf⟩
theorem open3 {k : Nat} {v : V} (h : VArg Try.prog (k + 1) 3 v) : ∃ a, v = V.int .i64 a := by
  unfold VArg at h
  obtain ⟨vs, hv, h⟩ := h
  simp only [VT, Try.underlying3] at h
  obtain ⟨n, h1, hw⟩ := h
  exact ⟨n, hv.trans (by rw [h1]; simp only [Sym.mk, ta3, List.headD_cons])⟩
theorem two {P : Program} {k : Nat} {a b : TypeId} {xs : List V} (h : VArgs P k [a, b] xs) : ∃ x y, xs = [x, y] ∧ VArg P k a x ∧ VArg P k b y := by
  match xs, h with
  | [x, y], ⟨hx, hy, _⟩ => exact ⟨x, y, rfl, hx, hy⟩
end Go.Proofs.Un
namespace Go.Proofs.Ytloboanoionagaa
open Go.Sym
theorem spanOrder_lifted (os : Os) (started : os.Started) (H : Type) (enc : TypeId × Value → H) :
    ReturnsInHanded {} Try.checked os 8 .any (Rows.spanOrderSpec.pre6 enc Try.prog Try.f8 Rows.spanOrderRow.domain false) (Rows.spanOrderSpec.post enc Try.prog Try.f8 false true false false) := by
  refine returnsInHanded_of_change (C := Try.checked) Try.own started (by kernel_rfl) Try.func8
    (ChangeSpec.witness6 (enc := enc) (C := Try.checked) false ⟨#[], #[.slice none 0 0, .int .i64 0], []⟩ 8 (by kernel_rfl) (by kernel_rfl) (by kernel_rfl) (by kernel_rfl)) ?_
  intro W base args ds gs before hval hW hcnd _
  refine law_endL (P := Try.prog) (C := Try.cfg) (k := 4) (tb := 4) Try.libOk Try.mixed Try.progOk Try.laidOut (by kernel_rfl) rfl rfl Try.underlying4 ?_ ?_ (fun j t v h1 h2 => ⟨base, hval j t v h1 h2⟩) hW
  · intro ds hds
    match ds, hds with
    | [d, e], _ => exact ⟨rfl, rfl, rfl⟩
  · intro xs hxs
    obtain ⟨x, y, rfl, hx, hy⟩ := Un.two hxs
    obtain ⟨n, l, rfl, hf⟩ := Un.open34 hx
    obtain ⟨i, rfl⟩ := Un.open3 hy
    exact ⟨_, F8_ok (Un.law_spanOrder (k := 2000) hf (Nat.le_refl _))⟩

theorem spanOrder_holds : Rows.SpanOrderSaid :=
  OpenClaim.holds_of_wide 8 Try.f8 rfl rfl rfl rfl rfl rfl rfl ⟨rfl, rfl, rfl, rfl, rfl⟩ rfl rfl rfl rfl rfl (by kernel_rfl) Try.func8 (by kernel_rfl)
    (of_decide_eq_true (by kernel_rfl)) (by unfold Func.isWrapper; first | (rw [if_pos (by decide +kernel)]; kernel_rfl) | (rw [if_neg (by decide +kernel)]; exact ⟨rfl, rfl⟩))
    (fun os started H enc _ => spanOrder_lifted os started H enc)
end Go.Proofs.Ytloboanoionagaa
