/-
  The reference of unions, plainly.
-/
import Derived.Test.YtloboanoionagaaUnP
set_option linter.unusedVariables false
set_option linter.unusedSimpArgs false
set_option maxRecDepth 100000
namespace Go.Proofs.Un
open Go Go.Sym Go.Proofs.Uni

def good (l : List (Nat × Nat)) : Prop := ∀ x ∈ l, fits x ∧ chk x = 0
theorem en_le {x : Nat × Nat} (h : fits x) (hc : chk x = 0) : (en x).1 ≤ (en x).2 ∧ (en x).2 < B64 := by
  obtain ⟨h1, h2⟩ := chk_ok hc
  unfold en
  simp only
  omega
theorem ends_le {l : List (Nat × Nat)} (h : good l) : ∀ s ∈ l.map en, s.1 ≤ s.2 ∧ s.2 < B64 := by
  intro s hs
  obtain ⟨x, hx, rfl⟩ := List.mem_map.1 hs
  exact en_le (h x hx).1 (h x hx).2
theorem eat_le {r s : Nat × Nat} (hr : r.1 ≤ r.2 ∧ r.2 < B64) (hs : s.1 ≤ s.2 ∧ s.2 < B64) : (eat r s).1 ≤ (eat r s).2 ∧ (eat r s).2 < B64 := by
  unfold eat
  split
  · simp only; omega
  · exact hr
theorem fold_le : ∀ (l : List (Nat × Nat)) (r : Nat × Nat), r.1 ≤ r.2 ∧ r.2 < B64 → (∀ s ∈ l, s.1 ≤ s.2 ∧ s.2 < B64) → (l.foldl eat r).1 ≤ (l.foldl eat r).2 ∧ (l.foldl eat r).2 < B64 := by
  intro l
  induction l with
  | nil => intro r h _; exact h
  | cons s l ih =>
    intro r h hl
    rw [List.foldl_cons]
    exact ih _ (eat_le h (hl s List.mem_cons_self)) fun t ht => hl t (List.mem_cons_of_mem _ ht)
theorem rounds_le {l : List (Nat × Nat)} (hl : ∀ s ∈ l, s.1 ≤ s.2 ∧ s.2 < B64) : ∀ (n : Nat) (r : Nat × Nat), r.1 ≤ r.2 ∧ r.2 < B64 → (rounds l n r).1 ≤ (rounds l n r).2 ∧ (rounds l n r).2 < B64 := by
  intro n
  induction n with
  | zero => intro r h; exact h
  | succ n ih => intro r h; exact ih _ (fold_le l r h hl)
theorem L361_run {k : Nat} {a c d : Int} {b : Bool} {o : Option Bool} {l : List (Nat × Nat)} (hl : l.length ≤ 1000) (hg : good l) : ∀ (n i f : Nat) (r : Nat × Nat), l.length - i = n → i ≤ l.length → n < f → r.1 ≤ r.2 ∧ r.2 < B64 →
    ∃ z, L36_1 k a c d b (l.map sv) o 2 f (i : Int) (r.1 : Int) (r.2 : Int) = some (.e0 z ((((l.map en).drop i).foldl eat r).1 : Int) ((((l.map en).drop i).foldl eat r).2 : Int)) := by
  intro n
  induction n with
  | zero =>
    intro i f r hn hi hf hr
    obtain ⟨f, rfl⟩ : ∃ y, f = y + 1 := ⟨f - 1, by omega⟩
    rw [L36_1, List.length_map, cF (by omega), List.drop_eq_nil_of_le (by rw [List.length_map]; omega)]
    exact ⟨_, rfl⟩
  | succ n ih =>
    intro i f r hn hi hf hr
    obtain ⟨f, rfl⟩ : ∃ y, f = y + 1 := ⟨f - 1, by omega⟩
    have hi' : i < l.length := by omega
    obtain ⟨h1, h2⟩ := hg _ (List.getElem_mem hi')
    have hen := en_le h1 h2
    obtain ⟨z, hz⟩ := ih (i + 1) f (eat r (en l[i])) (by omega) (by omega) (by omega) (eat_le hr hen)
    refine ⟨z, ?_⟩
    have hd : (l.map en).drop i = en l[i] :: (l.map en).drop (i + 1) := by
      rw [drop_cons (by rw [List.length_map]; exact hi'), List.getElem_map]
    rw [hd, List.foldl_cons]
    rw [L36_1, List.length_map, cT (by omega), gp rfl, at_sv hi', Option.bind_some]
    simp only
    rw [g42 hr.1 hr.2 h1 h2, Option.bind_some, g13 h1 h2, wi (n := (i : Int) + 1) (by omega) (by omega), show (i : Int) + 1 = ((i + 1 : Nat) : Int) by omega, ← hz]
    have e1 : (en l[i]).1 = l[i].1 := rfl
    unfold eat
    cases ht : touches r (en l[i]) with
    | false => rfl
    | true =>
      simp only [cond_true, if_true, Option.bind_some]
      rw [e1]
      by_cases c1 : l[i].1 < r.1
      · rw [cT (by omega), Nat.min_eq_right (by omega)]
        by_cases c2 : r.2 < (en l[i]).2
        · rw [cT (by omega), Nat.max_eq_right (by omega)]
        · rw [cF (by omega), Nat.max_eq_left (by omega)]
      · rw [cF (by omega), Nat.min_eq_left (by omega)]
        by_cases c2 : r.2 < (en l[i]).2
        · rw [cT (by omega), Nat.max_eq_right (by omega)]
        · rw [cF (by omega), Nat.max_eq_left (by omega)]
theorem L360_run {k : Nat} {a c : Int} {b : Bool} {o : Option Bool} {l : List (Nat × Nat)} (hl : l.length ≤ 1000) (hg : good l) (hk : 1100 ≤ k) : ∀ (n i f : Nat) (r : Nat × Nat), l.length - i = n → i ≤ l.length → n < f → r.1 ≤ r.2 ∧ r.2 < B64 →
    ∃ z, L36_0 k a c b (l.map sv) o 2 f (i : Int) (r.1 : Int) (r.2 : Int) = some (.e0 z ((rounds (l.map en) n r).1 : Int) ((rounds (l.map en) n r).2 : Int)) := by
  intro n
  induction n with
  | zero =>
    intro i f r hn hi hf hr
    obtain ⟨f, rfl⟩ : ∃ y, f = y + 1 := ⟨f - 1, by omega⟩
    rw [L36_0, List.length_map, cF (by omega)]
    exact ⟨_, rfl⟩
  | succ n ih =>
    intro i f r hn hi hf hr
    obtain ⟨f, rfl⟩ : ∃ y, f = y + 1 := ⟨f - 1, by omega⟩
    obtain ⟨z1, h1⟩ := L361_run (k := k) (a := a) (c := c) (d := (i : Int)) (b := b) (o := o) hl hg l.length 0 (k + 8) r (by omega) (by omega) (by omega) hr
    rw [List.drop_zero] at h1
    obtain ⟨z, hz⟩ := ih (i + 1) f (round (l.map en) r) (by omega) (by omega) (by omega) (fold_le _ r hr (ends_le hg))
    refine ⟨z, ?_⟩
    have h1' : L36_1 k a c (i : Int) b (l.map sv) o 2 (k + 8) 0 (r.1 : Int) (r.2 : Int) = _ := h1
    rw [L36_0, List.length_map, cT (by omega), h1', Option.bind_some]
    simp only
    rw [wi (n := (i : Int) + 1) (by omega) (by omega), show (i : Int) + 1 = ((i + 1 : Nat) : Int) by omega]
    exact hz
theorem g36 {k : Nat} {b : Bool} {o : Option Bool} {l : List (Nat × Nat)} {r : Nat × Nat} (hl : l.length ≤ 1000) (hg : good l) (hr : r.1 ≤ r.2 ∧ r.2 < B64) (hk : 1100 ≤ k) :
    F36 k o b 2 (l.map sv) (r.1 : Int) (r.2 : Int) = some (((rounds (l.map en) l.length r).1 : Int), ((rounds (l.map en) l.length r).2 : Int)) := by
  unfold F36
  obtain ⟨z, hz⟩ := L360_run (k := k) (a := (r.1 : Int)) (c := (r.2 : Int)) (b := b) (o := o) hl hg hk l.length 0 (k + 8) r (by omega) (by omega) (by omega) hr
  have hz' : L36_0 k (r.1 : Int) (r.2 : Int) b (l.map sv) o 2 (k + 8) 0 (r.1 : Int) (r.2 : Int) = _ := hz
  rw [hz', Option.bind_some]
theorem eq_pair {x r : Nat × Nat} : (decide ((x.1 : Int) = (r.1 : Int)) && (decide ((x.2 : Int) = (r.2 : Int)) && true)) = decide (x = r) := by
  rw [Bool.eq_iff_iff, Bool.and_true, Bool.and_eq_true, decide_eq_true_iff, decide_eq_true_iff, decide_eq_true_iff]
  constructor
  · rintro ⟨h1, h2⟩; exact Prod.ext (by omega) (by omega)
  · rintro rfl; exact ⟨rfl, rfl⟩
theorem L251_run {k : Nat} {a c d : Int} {b : Bool} {o : Option Bool} {x0 : List V} {n0 : Nat} {out : List (Nat × Nat)} {r : Nat × Nat} {p : Nat} (hl : out.length ≤ 1000) (hp : p ≤ out.length) (hsp : ∀ (i : Nat) (q : Nat × Nat), out[i]? = some q → (q.1 < r.1 ↔ i < p)) :
    ∀ (n i f : Nat), out.length - i = n → i ≤ out.length → n < f →
    ∃ z, L25_1 k a c d (r.1 : Int) (r.2 : Int) b x0 (out.map sv) o n0 f ((min i p : Nat) : Int) (decide (r ∈ out.take i)) (i : Int) = some (.e0 (p : Int) z (decide (r ∈ out))) := by
  intro n
  induction n with
  | zero =>
    intro i f hn hi hf
    obtain ⟨f, rfl⟩ : ∃ y, f = y + 1 := ⟨f - 1, by omega⟩
    rw [L25_1, List.length_map, cF (by omega), List.take_of_length_le (by omega), Nat.min_eq_right (by omega)]
    exact ⟨_, rfl⟩
  | succ n ih =>
    intro i f hn hi hf
    obtain ⟨f, rfl⟩ : ∃ y, f = y + 1 := ⟨f - 1, by omega⟩
    have hi' : i < out.length := by omega
    obtain ⟨z, hz⟩ := ih (i + 1) f (by omega) (by omega) (by omega)
    refine ⟨z, ?_⟩
    have hq := hsp i out[i] (List.getElem?_eq_getElem hi')
    have hm : decide (r ∈ out.take (i + 1)) = (decide (r ∈ out.take i) || decide (out[i] = r)) := by
      rw [Bool.eq_iff_iff, Bool.or_eq_true, decide_eq_true_iff, decide_eq_true_iff, decide_eq_true_iff, List.take_succ_eq_append_getElem hi', List.mem_append, List.mem_singleton]
      exact ⟨fun h => h.imp id Eq.symm, fun h => h.imp id Eq.symm⟩
    rw [hm] at hz
    have hw : IntKind.i64.wrap ((i : Int) + 1) = ((i + 1 : Nat) : Int) := by rw [wi (by omega) (by omega)]; omega
    rw [L25_1, List.length_map, cT (by omega), gp (by omega), Int.toNat_natCast, get_sv hi', Option.bind_some]
    simp only
    rw [hw, eq_pair]
    cases ht : decide (r ∈ out.take i) with
    | true =>
      rw [ht, Bool.true_or] at hz
      rw [cond_true]
      by_cases hc : out[i].1 < r.1
      · have := hq.1 hc
        rw [cT (by omega), ← hz, Nat.min_eq_left (show i + 1 ≤ p by omega)]
      · have : ¬i < p := fun h => hc (hq.2 h)
        rw [cF (by omega), ← hz, Nat.min_eq_right (show p ≤ i by omega), Nat.min_eq_right (show p ≤ i + 1 by omega)]
    | false =>
      rw [ht, Bool.false_or] at hz
      rw [cond_false]
      by_cases hc : out[i].1 < r.1
      · have := hq.1 hc
        rw [cT (by omega), ← hz, Nat.min_eq_left (show i + 1 ≤ p by omega)]
      · have : ¬i < p := fun h => hc (hq.2 h)
        rw [cF (by omega), ← hz, Nat.min_eq_right (show p ≤ i by omega), Nat.min_eq_right (show p ≤ i + 1 by omega)]
theorem lay_length (r : Nat × Nat) (out : List (Nat × Nat)) : (lay r out).length = out.length + 1 := by
  unfold lay
  have : ∀ (p : Nat × Nat → Bool) (l : List (Nat × Nat)), (l.filter p).length + (l.filter (fun o => !p o)).length = l.length := by
    intro p l
    induction l with
    | nil => rfl
    | cons x t ih =>
      rw [List.filter_cons, List.filter_cons]
      cases p x <;> simp <;> omega
  have h := this (fun o => decide (o.1 < r.1)) out
  rw [List.length_append, List.length_cons]
  omega
theorem L250_run {k : Nat} {b : Bool} {o : Option Bool} {l : List (Nat × Nat)} (hl : l.length ≤ 100) (hg : good l) (hk : 1200 ≤ k) : ∀ (n i f : Nat) (out : List (Nat × Nat)), l.length - i = n → i ≤ l.length → n < f → out.length ≤ i →
    (out.Pairwise fun a b => a.1 < b.1) → (∀ q ∈ out, Run (cov (l.map en)) q) →
    ∃ z, L25_0 k b (l.map sv) o 2 f (i : Int) (out.map sv) = some (.e0 z ((laid (l.map en) ((l.map en).drop i) out).map sv)) := by
  intro n
  induction n with
  | zero =>
    intro i f out hn hi hf ho _ _
    obtain ⟨f, rfl⟩ : ∃ y, f = y + 1 := ⟨f - 1, by omega⟩
    rw [L25_0, List.length_map, cF (by omega), List.drop_eq_nil_of_le (by rw [List.length_map]; omega)]
    exact ⟨_, rfl⟩
  | succ n ih =>
    intro i f out hn hi hf ho hp hr
    obtain ⟨f, rfl⟩ : ∃ y, f = y + 1 := ⟨f - 1, by omega⟩
    have hi' : i < l.length := by omega
    obtain ⟨h1, h2⟩ := hg _ (List.getElem_mem hi')
    have hen := en_le h1 h2
    have hw : IntKind.i64.wrap ((i : Int) + 1) = ((i + 1 : Nat) : Int) := by rw [wi (by omega) (by omega)]; omega
    have hd : (l.map en).drop i = en l[i] :: (l.map en).drop (i + 1) := by
      rw [drop_cons (by rw [List.length_map]; exact hi'), List.getElem_map]
    have hmem : en l[i] ∈ l.map en := List.mem_map.2 ⟨_, List.getElem_mem hi', rfl⟩
    have R := grown_run (fun s hs => (ends_le hg s hs).1) hmem
    rw [List.length_map] at R
    rw [hd, laid, List.length_map]
    obtain ⟨q, hq⟩ : ∃ q, q = rounds (l.map en) l.length (en l[i]) := ⟨_, rfl⟩
    rw [← hq] at R ⊢
    obtain ⟨p, p0, p1, p2, p3⟩ := filter_split hp q.1
    obtain ⟨z1, hz1⟩ := L251_run (k := k) (a := (i : Int)) (c := (l[i].1 : Int)) (d := (l[i].2 : Int)) (b := b) (o := o) (x0 := l.map sv) (n0 := 2) (r := q) (by omega) p0 p3 out.length 0 (k + 11) (by omega) (by omega) (by omega)
    have hz1' : L25_1 k (i : Int) (l[i].1 : Int) (l[i].2 : Int) (q.1 : Int) (q.2 : Int) b (l.map sv) (out.map sv) o 2 (k + 11) 0 false 0 = some (.e0 (p : Int) z1 (decide (q ∈ out))) := by
      rw [← hz1, Nat.zero_min, List.take_zero]; rfl
    have h36 := g36 (k := k + 2) (b := b) (o := o) (r := en l[i]) (by omega) hg hen (by omega)
    rw [← hq] at h36
    have h36' : F36 (k + 2) o b 2 (l.map sv) (l[i].1 : Int) ((en l[i]).2 : Int) = _ := h36
    rw [L25_0, List.length_map, cT (by omega), gp rfl, at_sv hi', Option.bind_some]
    simp only
    rw [g13 h1 h2, Option.bind_some, h36', Option.bind_some]
    simp only
    rw [hz1', Option.bind_some]
    simp only
    rw [hw]
    by_cases hm : q ∈ out
    · obtain ⟨z, hz⟩ := ih (i + 1) f out (by omega) (by omega) (by omega) (by omega) hp hr
      refine ⟨z, ?_⟩
      rw [cNT hm, if_pos hm]; exact hz
    · obtain ⟨z, hz⟩ := ih (i + 1) f (lay q out) (by omega) (by omega) (by omega) (by rw [lay_length]; omega) (lay_rise hp R hr hm) (fun x hx => (mem_lay.1 hx).elim (fun e => e ▸ R) (hr x))
      refine ⟨z, ?_⟩
      have hcut : List.take p (List.drop 0 (out.map sv)) ++ [sv q] ++ List.take (out.length - p) (List.drop p (out.map sv)) = (lay q out).map sv := by
        have e1 : List.take (out.length - p) (List.drop p (out.map sv)) = List.drop p (out.map sv) := List.take_of_length_le (by rw [List.length_drop, List.length_map]; omega)
        unfold lay
        rw [e1, p1, p2, List.drop_zero, ← List.map_take, ← List.map_drop]
        simp
      rw [cNF hm, if_neg hm, List.length_map, Int.toNat_natCast, gp (by omega), gp (by rw [List.length_take, List.length_drop, List.length_map]; unfold maxLen'; omega), gp (by rw [List.length_take, List.length_drop, List.length_map]; unfold maxLen'; omega),
        gp (by rw [List.length_append, List.length_take, List.length_take, List.length_drop, List.length_drop, List.length_map, List.length_singleton]; unfold maxLen'; omega)]
      show L25_0 k b (l.map sv) o 2 f _ (List.take p (List.drop 0 (out.map sv)) ++ [sv q] ++ List.take (out.length - p) (List.drop p (out.map sv))) = _
      rw [hcut]; exact hz
theorem g25 {k : Nat} {b : Bool} {o : Option Bool} {l : List (Nat × Nat)} (hl : l.length ≤ 100) (hg : good l) (hk : 1200 ≤ k) : F25 k o b 2 (l.map sv) = some (none, false, 2, (laid (l.map en) (l.map en) []).map sv) := by
  unfold F25
  obtain ⟨z, hz⟩ := L250_run (k := k) (b := b) (o := o) hl hg hk l.length 0 (k + 11) [] (by omega) (by omega) (by omega) (by simp) List.Pairwise.nil (fun _ h => by cases h)
  have hz' : L25_0 k b (l.map sv) o 2 (k + 11) 0 [] = some (.e0 z ((laid (l.map en) ((l.map en).drop 0) []).map sv)) := hz
  rw [hz', Option.bind_some, List.drop_zero]
/-- The reference's runs are the greatest stretches. -/
theorem ref_runs {l : List (Nat × Nat)} (hg : good l) : Runs (cov (l.map en)) (laid (l.map en) (l.map en) []) := laid_all fun s hs => (ends_le hg s hs).1
theorem runs_le {l m : List (Nat × Nat)} (hg : good l) (h : Runs (cov (l.map en)) m) : ∀ r ∈ m, r.1 ≤ r.2 ∧ r.2 < B64 := by
  intro r hr
  have R := h.run r hr
  obtain ⟨s, hs, _, h2⟩ := R.all r.2 R.le (Nat.le_refl _)
  have := ends_le hg s hs
  exact ⟨R.le, by omega⟩
theorem L260_run {k : Nat} {b b1 : Bool} {o o1 : Option Bool} {x0 : List V} {n0 : Nat} {m : List (Nat × Nat)} (hl : m.length ≤ 1000) (hm : ∀ r ∈ m, r.1 ≤ r.2 ∧ r.2 < B64) : ∀ (n i f : Nat) (out : List (Nat × Nat)), m.length - i = n → i ≤ m.length → n < f → out.length ≤ i →
    ∃ z, L26_0 k b b1 x0 (m.map sv) o o1 n0 2 f (i : Int) (out.map sv) = some (.e0 z ((out ++ (m.drop i).map ofE).map sv)) := by
  intro n
  induction n with
  | zero =>
    intro i f out hn hi hf ho
    obtain ⟨f, rfl⟩ : ∃ y, f = y + 1 := ⟨f - 1, by omega⟩
    rw [L26_0, List.length_map, cF (by omega), List.drop_eq_nil_of_le (by omega), List.map_nil, List.append_nil]
    exact ⟨_, rfl⟩
  | succ n ih =>
    intro i f out hn hi hf ho
    obtain ⟨f, rfl⟩ : ∃ y, f = y + 1 := ⟨f - 1, by omega⟩
    have hi' : i < m.length := by omega
    obtain ⟨h1, h2⟩ := hm _ (List.getElem_mem hi')
    obtain ⟨z, hz⟩ := ih (i + 1) f (out ++ [ofE m[i]]) (by omega) (by omega) (by omega) (by simp; omega)
    refine ⟨z, ?_⟩
    rw [L26_0, List.length_map, cT (by omega), gp rfl, at_sv hi', Option.bind_some]
    simp only
    rw [g22 h1 h2, Option.bind_some]
    simp only
    rw [gp (by rw [List.length_map]; unfold maxLen'; omega), wi (n := (i : Int) + 1) (by omega) (by omega), show (i : Int) + 1 = ((i + 1 : Nat) : Int) by omega, drop_cons hi', List.map_cons]
    rw [List.append_assoc, List.singleton_append] at hz
    rw [← hz, List.map_append]
    rfl
theorem laid_length (l : List (Nat × Nat)) : ∀ t out, (laid l t out).length ≤ out.length + t.length := by
  intro t
  induction t with
  | nil => intro out; exact Nat.le_refl _
  | cons s t ih =>
    intro out
    rw [laid]
    have := ih (if rounds l l.length s ∈ out then out else lay (rounds l l.length s) out)
    split at this <;> rename_i h
    · rw [if_pos h, List.length_cons]; omega
    · rw [if_neg h, List.length_cons]; rw [lay_length] at this; omega
theorem g26 {k : Nat} {b : Bool} {o : Option Bool} {l : List (Nat × Nat)} (hl : l.length ≤ 100) (hg : good l) (hk : 1300 ≤ k) : F26 k o b 2 (l.map sv) = some (none, false, 2, ((laid (l.map en) (l.map en) []).map ofE).map sv) := by
  unfold F26
  rw [g25 hl hg (by omega), Option.bind_some]
  simp only
  have hlen := laid_length (l.map en) (l.map en) []
  rw [List.length_map] at hlen
  obtain ⟨z, hz⟩ := L260_run (k := k) (b := b) (b1 := false) (o := o) (o1 := none) (x0 := l.map sv) (n0 := 2) (m := laid (l.map en) (l.map en) []) (by simp at hlen; omega) (runs_le hg (ref_runs hg)) (laid (l.map en) (l.map en) []).length 0 (k + 14) [] (by omega) (by omega) (by simp at hlen; omega) (by simp)
  have hz' : L26_0 k b false (l.map sv) ((laid (l.map en) (l.map en) []).map sv) o none 2 2 (k + 14) 0 [] = some (.e0 z (([] ++ ((laid (l.map en) (l.map en) []).drop 0).map ofE).map sv)) := hz
  rw [hz', Option.bind_some, List.drop_zero, List.nil_append]
def is17 : L17_0_R → Bool
  | .e0 _ => false
  | .e1 _ => true
theorem L170_run {k : Nat} {b b1 : Bool} {o o1 : Option Bool} {l : List (Nat × Nat)} (hl : l.length ≤ 1000) : ∀ (n i f : Nat), l.length - i = n → i ≤ l.length → n < f → ∃ z, L17_0 k b b1 (l.map sv) (l.map sv) o o1 2 2 f (i : Int) = some (.e1 z) := by
  intro n
  induction n with
  | zero =>
    intro i f hn hi hf
    obtain ⟨f, rfl⟩ : ∃ y, f = y + 1 := ⟨f - 1, by omega⟩
    rw [L17_0, List.length_map, cF (by omega)]
    exact ⟨_, rfl⟩
  | succ n ih =>
    intro i f hn hi hf
    obtain ⟨f, rfl⟩ : ∃ y, f = y + 1 := ⟨f - 1, by omega⟩
    have hi' : i < l.length := by omega
    obtain ⟨z, hz⟩ := ih (i + 1) f (by omega) (by omega) (by omega)
    refine ⟨z, ?_⟩
    rw [L17_0, List.length_map, cT (by omega), gp rfl, at_sv hi', Option.bind_some]
    simp only
    rw [gp trivial, Option.bind_some]
    simp only
    rw [show (decide True && (decide True && true)) = true by simp, Bool.not_true, cond_false, wi (n := (i : Int) + 1) (by omega) (by omega), show (i : Int) + 1 = ((i + 1 : Nat) : Int) by omega]
    exact hz
/-- The same row is the same. -/
theorem g17 {k : Nat} {b b1 : Bool} {o o1 : Option Bool} {l : List (Nat × Nat)} (hl : l.length ≤ 1000) (hk : 1100 ≤ k) : F17 k o b 2 (l.map sv) o1 b1 2 (l.map sv) = some true := by
  unfold F17
  obtain ⟨z, hz⟩ := L170_run (k := k) (b := b) (b1 := b1) (o := o) (o1 := o1) hl l.length 0 (k + 2) (by omega) (by omega) (by omega)
  have hz' : L17_0 k b b1 (l.map sv) (l.map sv) o o1 2 2 (k + 2) 0 = some (.e1 z) := hz
  rw [cNT rfl, hz', Option.bind_some]
theorem g11 {k : Nat} (hk : 1300 ≤ k) : F11 k = some true := by
  unfold F11 F15
  have h29 : F29 (k + 2 + 2) none false 2 [V.agg [V.int .u64 0, V.int .u64 10], V.agg [V.int .u64 4, V.int .u64 2]] = some 0 :=
    (g29 (k := k + 4) (l := [(0, 10), (4, 2)]) (by decide) (by intro x hx; simp at hx; rcases hx with rfl | rfl <;> (unfold fits B64; decide)) (by omega)).trans rfl
  rw [h29, Option.bind_some]
  simp only [F28, F30, Option.bind_some]
  have h17 : F17 (k + 8) none false 2 [V.agg [V.int .u64 0, V.int .u64 4], V.agg [V.int .u64 6, V.int .u64 4]] none false 2 [V.agg [V.int .u64 0, V.int .u64 4], V.agg [V.int .u64 6, V.int .u64 4]] = some true := g17 (k := k + 8) (l := [(0, 4), (6, 4)]) (by decide) (by omega)
  rw [cNT trivial, cF (by decide), cF (by decide), cT (by decide), cT (by decide), Option.bind_some]
  simp only
  rw [cT trivial]
  show ((F17 (k + 8) none false 2 [V.agg [V.int .u64 0, V.int .u64 4], V.agg [V.int .u64 6, V.int .u64 4]] none false 2 [V.agg [V.int .u64 0, V.int .u64 4], V.agg [V.int .u64 6, V.int .u64 4]]).bind _) = _
  rw [h17]; rfl
end Go.Proofs.Un
