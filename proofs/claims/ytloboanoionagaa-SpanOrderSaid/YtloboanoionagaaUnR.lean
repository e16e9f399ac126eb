/-
  Union, plainly.
-/
import Derived.Test.YtloboanoionagaaUnC
import Derived.Test.YtloboanoionagaaUnQ
import Derived.Test.YtloboanoionagaaSymSrt
set_option linter.unusedVariables false
set_option linter.unusedSimpArgs false
set_option maxRecDepth 100000
namespace Go.Proofs.Un
open Go Go.Sym Go.Proofs.Uni Go.Sort

def up (x : Nat × Nat) : Int × Int := ((x.1 : Int), (x.2 : Int))
def down (y : Int × Int) : Nat × Nat := (y.1.toNat, y.2.toNat)
theorem e2_sv (x : Nat × Nat) : e2 (sv x) = up x := rfl
theorem vE2_up (x : Nat × Nat) : vE2 (up x) = sv x := rfl
theorem down_up (x : Nat × Nat) : down (up x) = x := by unfold down up; simp
theorem isE2_sv (l : List (Nat × Nat)) : (l.map sv).all isE2 = true := by
  rw [List.all_map]; exact List.all_eq_true.2 fun x _ => rfl
theorem sortE_sv (l : List (Nat × Nat)) : ∃ S : List (Nat × Nat), sortE (l.map sv) = S.map sv ∧ S.Perm l ∧ S.Pairwise fun a b => a.1 ≤ b.1 := by
  obtain ⟨d, hd⟩ : ∃ d : Array (Int × Int), d = (l.map up).toArray := ⟨_, rfl⟩
  have hds : d.size = l.length := by rw [hd]; simp
  have hS := pdq_sorts ltE (ltOf_cmpE ▸ swoE) d 0 l.length (Go.Lib.bitLen l.length) true true (Nat.zero_le _) (by omega) (Or.inl rfl)
  obtain ⟨d', hd'⟩ : ∃ d', d' = pdq ltE d 0 l.length (Go.Lib.bitLen l.length) true true := ⟨_, rfl⟩
  rw [← hd'] at hS
  obtain ⟨⟨h1, _, h2⟩, h3⟩ := hS
  have h1 : d'.size = l.length := h1.trans hds
  have hperm : d'.toList.Perm (l.map up) := by
    have e1 : d'.extract 0 l.length = d' := by rw [← h1]; exact Array.extract_size
    have e2 : d.extract 0 l.length = d := by rw [← hds]; exact Array.extract_size
    rw [e1, e2, hd] at h2
    simpa using h2
  have hback : d'.toList = (d'.toList.map down).map up := by
    rw [List.map_map]
    refine (List.map_id _).symm.trans (List.map_congr_left fun y hy => ?_)
    obtain ⟨x, _, rfl⟩ := List.mem_map.1 (hperm.mem_iff.1 hy)
    simp only [Function.comp, id, down_up]
  refine ⟨d'.toList.map down, ?_, ?_, ?_⟩
  · unfold sortE
    have e : ((l.map sv).map e2).toArray = d := by rw [hd, List.map_map]; rfl
    rw [e, List.length_map, ← hd']
    have h5 : d'.toList.map vE2 = ((d'.toList.map down).map up).map vE2 := congrArg (List.map vE2) hback
    rw [h5, List.map_map]
    rfl
  · have := hperm.map down
    rw [List.map_map] at this
    have e : l.map (down ∘ up) = l := by
      refine (List.map_congr_left fun x _ => ?_).trans (List.map_id l)
      exact down_up x
    rwa [e] at this
  · rw [List.pairwise_iff_getElem]
    intro i j hi hj hij
    have hi' : i < d'.size := by simpa using hi
    have hj' : j < d'.size := by simpa using hj
    have := h3 i j (Nat.zero_le _) hij (by omega)
    unfold ltE at this
    rw [decide_eq_false_iff_not, getElem!_pos d' i hi', getElem!_pos d' j hj'] at this
    rw [List.getElem_map, List.getElem_map]
    simp only [Array.getElem_toList]
    unfold down
    simp only
    omega
theorem L240_run {k : Nat} {a : Int} {b : Bool} {o : Option Bool} {l : List (Nat × Nat)} (hl : l.length ≤ 1000) (hg : good l) : ∀ (n i f : Nat) (out : List (Nat × Nat)), l.length - i = n → i ≤ l.length → n < f → out.length ≤ i →
    ∃ z, L24_0 k a b (l.map sv) o 2 f (i : Int) (out.map sv) = some (.e0 z ((out ++ (l.drop i).map en).map sv)) := by
  intro n
  induction n with
  | zero =>
    intro i f out hn hi hf ho
    obtain ⟨f, rfl⟩ : ∃ y, f = y + 1 := ⟨f - 1, by omega⟩
    rw [L24_0, List.length_map, cF (by omega), List.drop_eq_nil_of_le (by omega), List.map_nil, List.append_nil]
    exact ⟨_, rfl⟩
  | succ n ih =>
    intro i f out hn hi hf ho
    obtain ⟨f, rfl⟩ : ∃ y, f = y + 1 := ⟨f - 1, by omega⟩
    have hi' : i < l.length := by omega
    obtain ⟨h1, h2⟩ := hg _ (List.getElem_mem hi')
    obtain ⟨z, hz⟩ := ih (i + 1) f (out ++ [en l[i]]) (by omega) (by omega) (by omega) (by simp; omega)
    refine ⟨z, ?_⟩
    rw [L24_0, List.length_map, cT (by omega), gp rfl, at_sv hi', Option.bind_some]
    simp only
    rw [g28 h1 h2, Option.bind_some]
    simp only
    rw [gp (by rw [List.length_map]; unfold maxLen'; omega), wi (n := (i : Int) + 1) (by omega) (by omega), show (i : Int) + 1 = ((i + 1 : Nat) : Int) by omega, drop_cons hi', List.map_cons]
    rw [List.append_assoc, List.singleton_append] at hz
    rw [← hz, List.map_append]
    rfl
def is242 : L24_2_R → Int × Int
  | .e0 a b => (a, b)
  | .e1 a b => (a, b)
theorem L242_run {k : Nat} {a c d : Int} {b : Bool} {o : Option Bool} {x0 x1 x2 : List V} {n0 : Nat} {S : List (Nat × Nat)} (hs : sortE x1 = S.map sv) (hl : S.length ≤ 1000) (hB : ∀ s ∈ S, s.1 < B64) : ∀ (n i f : Nat) (r : Nat × Nat), S.length - i = n → i ≤ S.length → n < f →
    ∃ (R : L24_2_R) (j : Nat), L24_2 k a c d b x0 x1 x2 o n0 f (i : Int) (r.2 : Int) = some R ∧ is242 R = ((j : Int), ((take1 r (S.drop i)).1.2 : Int)) ∧ (take1 r (S.drop i)).2 = S.drop j ∧ i ≤ j ∧ j ≤ S.length := by
  intro n
  induction n with
  | zero =>
    intro i f r hn hi hf
    obtain ⟨f, rfl⟩ : ∃ y, f = y + 1 := ⟨f - 1, by omega⟩
    refine ⟨.e1 (i : Int) (r.2 : Int), i, ?_, ?_, ?_, Nat.le_refl _, hi⟩
    · rw [L24_2, hs, List.length_map, cF (by omega)]
    · rw [List.drop_eq_nil_of_le (by omega)]; rfl
    · rw [List.drop_eq_nil_of_le (by omega)]; rfl
  | succ n ih =>
    intro i f r hn hi hf
    obtain ⟨f, rfl⟩ : ∃ y, f = y + 1 := ⟨f - 1, by omega⟩
    have hi' : i < S.length := by omega
    have hb := hB _ (List.getElem_mem hi')
    unfold B64 at hb
    have hm : (if (r.2 : Int) < (S[i].2 : Int) then (S[i].2 : Int) else (r.2 : Int)) = ((max r.2 S[i].2 : Nat) : Int) := by
      split
      · rw [Nat.max_eq_right (by omega)]
      · rw [Nat.max_eq_left (by omega)]
    rw [drop_cons hi', take1]
    by_cases ht : S[i].1 ≤ r.2 + 1
    · rw [if_pos ht]
      obtain ⟨R, j, h1, h2, h3, h4, h5⟩ := ih (i + 1) f (r.1, max r.2 S[i].2) (by omega) (by omega) (by omega)
      refine ⟨R, j, ?_, h2, h3, by omega, h5⟩
      rw [L24_2, hs, List.length_map, cT (by omega), gp (by omega), Int.toNat_natCast, get_sv hi', Option.bind_some]
      simp only
      rw [hm, wi (n := (i : Int) + 1) (by omega) (by omega), show (i : Int) + 1 = ((i + 1 : Nat) : Int) by omega, ← h1]
      by_cases h0 : S[i].1 = 0
      · rw [cT (by omega)]
      · rw [cF (by omega), wu (by omega) (by omega), cT (by omega)]
    · rw [if_neg ht]
      refine ⟨.e0 (i : Int) (r.2 : Int), i, ?_, rfl, (drop_cons hi').symm, Nat.le_refl _, hi⟩
      rw [L24_2, hs, List.length_map, cT (by omega), gp (by omega), Int.toNat_natCast, get_sv hi', Option.bind_some]
      simp only
      rw [cF (by omega), wu (by omega) (by omega), cF (by omega)]
def is241 : L24_1_R → Option (List V)
  | .e0 _ _ _ _ _ _ => none
  | .e1 _ _ _ _ _ _ => none
  | .e2 _ x => some x
def full (r : Nat × Nat) : Bool := decide ((ofE r).2 = 0)
theorem L241_run {k : Nat} {a c : Int} {b : Bool} {o : Option Bool} {x0 x1 : List V} {n0 : Nat} {S : List (Nat × Nat)} (hs : sortE x1 = S.map sv) (hl : S.length ≤ 1000) (hB : ∀ s ∈ S, s.1 ≤ s.2 ∧ s.2 < B64) (hJ : ∀ r ∈ joined S.length S, r.1 ≤ r.2 ∧ r.2 < B64) (hk : 1100 ≤ k) :
    ∀ (n i f : Nat) (out : List (Nat × Nat)), S.length - i ≤ n → i ≤ S.length → n < f → out.length ≤ i → (∀ r ∈ joined n (S.drop i), r.1 ≤ r.2 ∧ r.2 < B64) →
    ∃ R, L24_1 k a c b x0 x1 o n0 f (i : Int) (out.map sv) = some R ∧ is241 R = if (joined n (S.drop i)).any full then none else some ((out ++ (joined n (S.drop i)).map ofE).map sv) := by
  intro n
  induction n with
  | zero =>
    intro i f out hn hi hf ho _
    obtain ⟨f, rfl⟩ : ∃ y, f = y + 1 := ⟨f - 1, by omega⟩
    refine ⟨.e2 (i : Int) (out.map sv), ?_, ?_⟩
    · rw [L24_1, hs, List.length_map, cF (by omega)]
    · simp [is241, joined]
  | succ n ih =>
    intro i f out hn hi hf ho hr
    obtain ⟨f, rfl⟩ : ∃ y, f = y + 1 := ⟨f - 1, by omega⟩
    by_cases hi' : i < S.length
    · rw [drop_cons hi', joined] at hr ⊢
      obtain ⟨R2, j, h1, h2, h3, h4, h5⟩ := L242_run (k := k) (a := a) (c := c) (d := (S[i].1 : Int)) (b := b) (o := o) (x0 := x0) (x2 := out.map sv) (n0 := n0) hs hl (fun s hs' => Nat.lt_of_le_of_lt (hB s hs').1 (hB s hs').2) (S.length - (i + 1)) (i + 1) (k + 7) S[i] rfl (by omega) (by omega)
      obtain ⟨hq1, hq2⟩ := hr _ List.mem_cons_self
      have hf1 : (take1 S[i] (S.drop (i + 1))).1.1 = S[i].1 := by
        have : ∀ (l : List (Nat × Nat)) (r : Nat × Nat), (take1 r l).1.1 = r.1 := by
          intro l
          induction l with
          | nil => intro r; rfl
          | cons s l ih => intro r; unfold take1; split
                           · exact ih _
                           · rfl
        exact this _ _
      obtain ⟨q, hq⟩ : ∃ q, q = (take1 S[i] (S.drop (i + 1))).1 := ⟨_, rfl⟩
      rw [← hq] at h2 hf1 hq1 hq2 hr ⊢
      rw [h3] at hr ⊢
      have h30 := g30 (k := k + 3) hq1 hq2
      rw [hf1] at h30
      obtain ⟨R, e1, e2⟩ := ih j f (out ++ [ofE q]) (by omega) h5 (by omega) (by simp; omega) (fun r h => hr r (List.mem_cons_of_mem _ h))
      have hw : IntKind.i64.wrap ((i : Int) + 1) = ((i + 1 : Nat) : Int) := by rw [wi (by omega) (by omega)]; omega
      by_cases h0 : (ofE q).2 = 0
      · have hfull : full q = true := by unfold full; exact decide_eq_true h0
        rw [List.any_cons, hfull, Bool.true_or, if_pos rfl]
        cases R2 with
        | e0 u v =>
          simp only [is242, Prod.mk.injEq] at h2
          obtain ⟨rfl, rfl⟩ := h2
          refine ⟨.e1 (S[i].1 : Int) (j : Int) (q.2 : Int) ((ofE q).1 : Int) ((ofE q).2 : Int) (out.map sv), ?_, rfl⟩
          rw [L24_1, hs, List.length_map, cT (by omega), gp (by omega), Int.toNat_natCast, get_sv hi', Option.bind_some]
          simp only
          rw [hw, h1, Option.bind_some]
          simp only
          rw [h30, Option.bind_some]
          simp only
          rw [cT (by omega)]
        | e1 u v =>
          simp only [is242, Prod.mk.injEq] at h2
          obtain ⟨rfl, rfl⟩ := h2
          refine ⟨.e0 (S[i].1 : Int) (j : Int) (q.2 : Int) ((ofE q).1 : Int) ((ofE q).2 : Int) (out.map sv), ?_, rfl⟩
          rw [L24_1, hs, List.length_map, cT (by omega), gp (by omega), Int.toNat_natCast, get_sv hi', Option.bind_some]
          simp only
          rw [hw, h1, Option.bind_some]
          simp only
          rw [h30, Option.bind_some]
          simp only
          rw [cT (by omega)]
      · have hfull : full q = false := by unfold full; exact decide_eq_false h0
        rw [List.any_cons, hfull, Bool.false_or, List.map_cons]
        rw [List.append_assoc, List.singleton_append] at e2
        refine ⟨R, ?_, e2⟩
        have happ : out.map sv ++ [V.agg [V.int .u64 ((ofE q).1 : Int), V.int .u64 ((ofE q).2 : Int)]] = (out ++ [ofE q]).map sv := by rw [List.map_append]; rfl
        cases R2 with
        | e0 u v =>
          simp only [is242, Prod.mk.injEq] at h2
          obtain ⟨rfl, rfl⟩ := h2
          rw [L24_1, hs, List.length_map, cT (by omega), gp (by omega), Int.toNat_natCast, get_sv hi', Option.bind_some]
          simp only
          rw [hw, h1, Option.bind_some]
          simp only
          rw [h30, Option.bind_some]
          simp only
          rw [cF (by omega), gp (by rw [List.length_map]; unfold maxLen'; omega), happ]
          exact e1
        | e1 u v =>
          simp only [is242, Prod.mk.injEq] at h2
          obtain ⟨rfl, rfl⟩ := h2
          rw [L24_1, hs, List.length_map, cT (by omega), gp (by omega), Int.toNat_natCast, get_sv hi', Option.bind_some]
          simp only
          rw [hw, h1, Option.bind_some]
          simp only
          rw [h30, Option.bind_some]
          simp only
          rw [cF (by omega), gp (by rw [List.length_map]; unfold maxLen'; omega), happ]
          exact e1
    · refine ⟨.e2 (i : Int) (out.map sv), ?_, ?_⟩
      · rw [L24_1, hs, List.length_map, cF (by omega)]
      · rw [List.drop_eq_nil_of_le (by omega)]
        simp [is241, joined]
/-- What Union answers. -/
def uniR (l : List (Nat × Nat)) : Option Bool × Bool × Nat × List V × Int :=
  if firstE l = 0 then (if (laid (l.map en) (l.map en) []).any full then (some true, true, 0, [], 2) else (none, false, 2, ((laid (l.map en) (l.map en) []).map ofE).map sv, 0)) else (some true, true, 0, [], firstE l)
theorem good_of {l : List (Nat × Nat)} (hf : ∀ x ∈ l, fits x) (h : firstE l = 0) : good l := fun x hx => ⟨hf x hx, firstE_ok h x hx⟩
theorem cov_perm {l m : List (Nat × Nat)} (h : l.Perm m) (x : Nat) : cov l x ↔ cov m x :=
  ⟨fun ⟨s, hs, h1⟩ => ⟨s, h.mem_iff.1 hs, h1⟩, fun ⟨s, hs, h1⟩ => ⟨s, h.mem_iff.2 hs, h1⟩⟩
theorem g24 {k : Nat} {b : Bool} {o : Option Bool} {l : List (Nat × Nat)} (hl : l.length ≤ 100) (hf : ∀ x ∈ l, fits x) (hk : 1300 ≤ k) : F24 k o b 2 (l.map sv) = some (uniR l) := by
  unfold F24 uniR
  rw [g29 (by omega) hf (by omega), Option.bind_some]
  by_cases h0 : firstE l = 0
  · have hg := good_of hf h0
    rw [cNT h0, if_pos h0]
    obtain ⟨z, hz⟩ := L240_run (k := k) (a := firstE l) (b := b) (o := o) (by omega) hg l.length 0 (k + 8) [] (by omega) (by omega) (by omega) (by simp)
    have hz' : L24_0 k (firstE l) b (l.map sv) o 2 (k + 8) 0 [] = some (.e0 z (([] ++ (l.drop 0).map en).map sv)) := hz
    rw [hz', Option.bind_some, List.drop_zero, List.nil_append]
    simp only
    obtain ⟨S, hs, hp, hrise⟩ := sortE_sv (l.map en)
    have hlen : S.length = l.length := by rw [hp.length_eq, List.length_map]
    have hB : ∀ s ∈ S, s.1 ≤ s.2 ∧ s.2 < B64 := fun s h => ends_le hg s (hp.mem_iff.1 h)
    have hJ := (joined_runs S.length S (Nat.le_refl _) (fun s h => (hB s h).1) hrise).1.congr (cov_perm hp)
    have hle := runs_le hg hJ
    have hEq := hJ.eq (ref_runs hg)
    obtain ⟨R, h1, h2⟩ := L241_run (k := k) (a := firstE l) (c := z) (b := b) (o := o) (x0 := l.map sv) (n0 := 2) hs (by omega) hB hle (by omega) S.length 0 (k + 7) [] (by omega) (by omega) (by omega) (by simp) (by rw [List.drop_zero]; exact hle)
    rw [List.drop_zero, hEq, List.nil_append] at h2
    have h1' : L24_1 k (firstE l) z b (l.map sv) ((l.map en).map sv) o 2 (k + 7) 0 [] = some R := h1
    rw [gp ⟨trivial, trivial, isE2_sv _, by rw [List.length_map, List.length_map]; unfold maxLen'; omega⟩, h1', Option.bind_some]
    by_cases ha : (laid (l.map en) (l.map en) []).any full = true
    · rw [if_pos ha] at h2 ⊢
      cases R <;> simp only [is241, reduceCtorEq] at h2 <;> rfl
    · rw [if_neg ha] at h2 ⊢
      cases R <;> simp only [is241, reduceCtorEq, Option.some.injEq] at h2
      rw [h2]
  · rw [cNF h0, if_neg h0]
end Go.Proofs.Un
