/-
  Cells, plainly: which may be, a block's, with one more; no program.
-/
import Derived.Test.YtfjloeemhiffgaaSymPlain
set_option linter.unusedVariables false
set_option linter.unusedSimpArgs false
namespace Go.Proofs.Mo
open Go Go.Sym

abbrev Cl := Nat × Int × List UInt8
def cl (c : Cl) : V := V.agg [V.int .u64 (c.1 : Int), V.int .i64 c.2.1, V.str c.2.2]
def inc (l : List Cl) : Prop := l.Pairwise fun a b => a.1 < b.1
def B59 : Nat := 576460752303423488
def okb (c : Cl) : Bool := decide (c.1 < 576460752303423488) && (if c.2.1 = 1 then decide (c.2.2.length = 32) else decide (c.2.1 = 2) && decide (c.2.2 = []))
def chk : Option Nat → List Cl → Bool
  | _, [] => true
  | p, c :: r => okb c && (match p with | none => true | some q => decide (q < c.1)) && chk (some c.1) r
def right (l : List Cl) : Bool := chk none l && decide (l.length ≤ 64)
theorem chk_some : ∀ {l : List Cl} {q : Nat}, chk (some q) l = true ↔ (∀ c ∈ l, okb c = true ∧ q < c.1) ∧ inc l := by
  intro l
  induction l with
  | nil => intro q; simp [chk, inc]
  | cons c r ih =>
    intro q
    simp only [chk, Bool.and_eq_true, decide_eq_true_eq, ih, inc, List.pairwise_cons]
    constructor
    · rintro ⟨⟨h1, h2⟩, h3, h4⟩
      refine ⟨fun x hx => ?_, fun x hx => (h3 x hx).2, h4⟩
      rcases List.mem_cons.1 hx with rfl | hx
      · exact ⟨h1, h2⟩
      · exact ⟨(h3 x hx).1, Nat.lt_trans h2 (h3 x hx).2⟩
    · rintro ⟨h1, h2, h3⟩
      obtain ⟨h4, h5⟩ := h1 c List.mem_cons_self
      exact ⟨⟨h4, h5⟩, fun x hx => ⟨(h1 x (List.mem_cons_of_mem _ hx)).1, h2 x hx⟩, h3⟩
theorem chk_none {l : List Cl} : chk none l = true ↔ (∀ c ∈ l, okb c = true) ∧ inc l := by
  cases l with
  | nil => simp [chk, inc]
  | cons c r =>
    simp only [chk, Bool.and_true, Bool.and_eq_true, chk_some, inc, List.pairwise_cons]
    constructor
    · rintro ⟨h1, h2, h3⟩
      refine ⟨fun x hx => ?_, fun x hx => (h2 x hx).2, h3⟩
      rcases List.mem_cons.1 hx with rfl | hx
      · exact h1
      · exact (h2 x hx).1
    · rintro ⟨h1, h2, h3⟩
      exact ⟨h1 c List.mem_cons_self, fun x hx => ⟨h1 x (List.mem_cons_of_mem _ hx), h2 x hx⟩, h3⟩
theorem right_iff {l : List Cl} : right l = true ↔ (∀ c ∈ l, okb c = true) ∧ inc l ∧ l.length ≤ 64 := by
  unfold right
  rw [Bool.and_eq_true, chk_none, decide_eq_true_eq, and_assoc]

/-- A block's cell. -/
def cellAt (l : List Cl) (n : Nat) : Cl := (l.find? (fun c => c.1 == n)).getD (n, 0, [])
theorem cellAt_n (l : List Cl) (n : Nat) : (cellAt l n).1 = n := by
  unfold cellAt
  cases h : l.find? (fun c => c.1 == n) with
  | none => rfl
  | some c => simpa using List.find?_some h
theorem cellAt_mem {l : List Cl} {n : Nat} : cellAt l n ∈ l ∨ cellAt l n = (n, 0, []) := by
  unfold cellAt
  cases h : l.find? (fun c => c.1 == n) with
  | none => exact .inr rfl
  | some c => exact .inl (List.mem_of_find?_eq_some h)
theorem cellAt_no {l : List Cl} {n : Nat} (h : ∀ c ∈ l, c.1 ≠ n) : cellAt l n = (n, 0, []) := by
  unfold cellAt
  rw [List.find?_eq_none.2 fun c hc => by simpa using h c hc]
  rfl
theorem cellAt_in {l : List Cl} (hi : inc l) {c : Cl} (hc : c ∈ l) : cellAt l c.1 = c := by
  unfold cellAt
  have : l.find? (fun x => x.1 == c.1) = some c := by
    induction l with
    | nil => cases hc
    | cons x r ih =>
      unfold inc at hi
      rw [List.pairwise_cons] at hi
      rcases List.mem_cons.1 hc with rfl | hc
      · simp
      · have := hi.1 c hc
        rw [List.find?_cons_of_neg (by simp; omega)]
        exact ih hi.2 hc
  rw [this]; rfl

/-- Cells with one, in place of that of its number; without it, if it is a hole's. -/
def withC (l : List Cl) (c : Cl) : List Cl := l.filter (fun x => decide (x.1 < c.1)) ++ ((if c.2.1 = 0 then [] else [c]) ++ l.filter (fun x => decide (c.1 < x.1)))
theorem lt_cut {l : List Cl} (hi : inc l) (n : Nat) : ∃ p, p ≤ l.length ∧ l.filter (fun x => decide (x.1 < n)) = l.take p ∧ (∀ (k : Nat) (h : k < l.length), k < p → l[k].1 < n) ∧ ∀ (k : Nat) (h : k < l.length), p ≤ k → n ≤ l[k].1 := by
  induction l with
  | nil => exact ⟨0, by simp, rfl, by simp, by simp⟩
  | cons c r ih =>
    unfold inc at hi
    rw [List.pairwise_cons] at hi
    by_cases hc : c.1 < n
    · obtain ⟨p, h1, h2, h3, h4⟩ := ih hi.2
      refine ⟨p + 1, by simp; omega, by rw [List.filter_cons_of_pos (by simpa using hc), h2]; rfl, fun k hk hp => ?_, fun k hk hp => ?_⟩
      · cases k with
        | zero => exact hc
        | succ k => exact h3 k (by simpa using hk) (by omega)
      · cases k with
        | zero => omega
        | succ k => exact h4 k (by simpa using hk) (by omega)
    · refine ⟨0, by simp, ?_, fun k hk hp => by omega, fun k hk _ => ?_⟩
      · rw [List.take_zero]
        refine List.filter_eq_nil_iff.2 fun x hx => ?_
        rcases List.mem_cons.1 hx with rfl | hx
        · simpa using hc
        · have := hi.1 x hx; simp; omega
      · cases k with
        | zero => simp; omega
        | succ k =>
          have := hi.1 (r[k]'(by simpa using hk)) (List.getElem_mem _)
          simp; omega
theorem inc_get {l : List Cl} (hi : inc l) {i j : Nat} (hij : i < j) (hj : j < l.length) : (l[i]'(by omega)).1 < l[j].1 := List.pairwise_iff_getElem.1 hi i j (by omega) hj hij
/-- Those behind a number. -/
theorem gt_cut {l : List Cl} (hi : inc l) {n p : Nat} (h3 : ∀ (k : Nat) (h : k < l.length), k < p → l[k].1 < n) (h4 : ∀ (k : Nat) (h : k < l.length), p ≤ k → n ≤ l[k].1) :
    l.filter (fun x => decide (n < x.1)) = if h : p < l.length then (if l[p].1 = n then l.drop (p + 1) else l.drop p) else [] := by
  have key : ∀ (m : List Cl) (q : Nat), m = l.drop q → (∀ (k : Nat) (h : k < l.length), q ≤ k → n < l[k].1) → (∀ (k : Nat) (h : k < l.length), k < q → ¬ n < l[k].1) → l.filter (fun x => decide (n < x.1)) = m := by
    intro m q hm hge hlt
    subst hm
    conv => lhs; rw [← List.take_append_drop q l]
    rw [List.filter_append]
    have e1 : (l.take q).filter (fun x => decide (n < x.1)) = [] := List.filter_eq_nil_iff.2 fun x hx => by
      obtain ⟨k, hk, rfl⟩ := List.getElem_of_mem hx
      rw [List.length_take] at hk
      rw [List.getElem_take]
      simpa using hlt k (by omega) (by omega)
    have e2 : (l.drop q).filter (fun x => decide (n < x.1)) = l.drop q := List.filter_eq_self.2 fun x hx => by
      obtain ⟨k, hk, rfl⟩ := List.getElem_of_mem hx
      rw [List.length_drop] at hk
      rw [List.getElem_drop]
      simpa using hge (q + k) (by omega) (by omega)
    rw [e1, e2, List.nil_append]
  by_cases h : p < l.length
  · rw [dif_pos h]
    by_cases he : l[p].1 = n
    · rw [if_pos he]
      refine key _ (p + 1) rfl (fun k hk hq => ?_) (fun k hk hq => ?_)
      · have := inc_get hi (i := p) (j := k) (by omega) hk; omega
      · by_cases hkp : k = p
        · subst hkp; omega
        · have := h3 k hk (by omega); omega
    · rw [if_neg he]
      refine key _ p rfl (fun k hk hq => ?_) (fun k hk hq => ?_)
      · by_cases hkp : k = p
        · subst hkp; have := h4 k hk (Nat.le_refl _); omega
        · have := inc_get hi (i := p) (j := k) (by omega) hk
          have := h4 p h (Nat.le_refl _); omega
      · have := h3 k hk hq; omega
  · rw [dif_neg h]
    refine key _ l.length (by simp) (fun k hk hq => by omega) (fun k hk hq => ?_)
    have := h3 k hk (by omega); omega
/-- Cells where the blocks from a on, up to m, are others. -/
def upto (l : List Cl) (new : Nat → Cl) (a m : Nat) : List Cl :=
  l.filter (fun x => decide (x.1 < a)) ++ (((List.range' a (m - a)).map new).filter (fun x => decide (x.2.1 ≠ 0)) ++ l.filter (fun x => decide (m ≤ x.1)))
theorem upto_first (l : List Cl) (new : Nat → Cl) (a : Nat) (hi : inc l) : upto l new a a = l := by
  unfold upto
  rw [Nat.sub_self]
  simp only [List.range'_zero, List.map_nil, List.filter_nil, List.nil_append]
  induction l with
  | nil => rfl
  | cons c r ih =>
    unfold inc at hi
    rw [List.pairwise_cons] at hi
    by_cases h : c.1 < a
    · rw [List.filter_cons_of_pos (by simpa using h), List.filter_cons_of_neg (by simp; omega), List.cons_append, ih hi.2]
    · rw [List.filter_cons_of_neg (by simpa using h), List.filter_cons_of_pos (by simp; omega)]
      have e : r.filter (fun x => decide (x.1 < a)) = [] := List.filter_eq_nil_iff.2 fun x hx => by have := hi.1 x hx; simp; omega
      rw [e, List.nil_append]
      congr 1
      have := ih hi.2
      rw [e, List.nil_append] at this
      exact this
theorem upto_mem {l : List Cl} {new : Nat → Cl} {a m : Nat} {x : Cl} (h : x ∈ upto l new a m) : (x ∈ l ∧ (x.1 < a ∨ m ≤ x.1)) ∨ ∃ j, a ≤ j ∧ j < m ∧ x = new j ∧ (new j).2.1 ≠ 0 := by
  unfold upto at h
  rcases List.mem_append.1 h with h | h
  · have := List.mem_filter.1 h
    exact .inl ⟨this.1, .inl (by simpa using this.2)⟩
  · rcases List.mem_append.1 h with h | h
    · obtain ⟨h1, h2⟩ := List.mem_filter.1 h
      obtain ⟨j, hj, rfl⟩ := List.mem_map.1 h1
      rw [List.mem_range'_1] at hj
      exact .inr ⟨j, hj.1, by omega, rfl, by simpa using h2⟩
    · have := List.mem_filter.1 h
      exact .inl ⟨this.1, .inr (by simpa using this.2)⟩
theorem upto_cell {l : List Cl} {new : Nat → Cl} {a m n : Nat} (hn : ∀ j, (new j).1 = j) (ham : a ≤ m) : cellAt (upto l new a m) n = if a ≤ n ∧ n < m then (if (new n).2.1 ≠ 0 then new n else (n, 0, [])) else cellAt l n := by
  unfold cellAt upto
  have ff : ∀ (l : List Cl) (q : Cl → Bool), (l.filter q).find? (fun c => c.1 == n) = l.find? (fun c => q c && (c.1 == n)) := fun l q => by
    rw [List.find?_filter]
    congr 1; funext c
    rw [Bool.decide_and, Bool.decide_eq_true, Bool.decide_eq_true]
  rw [List.find?_append, List.find?_append, ff, ff, ff]
  have hmid : ∀ k a, ((List.range' a k).map new).find? (fun c => decide (c.2.1 ≠ 0) && (c.1 == n)) = if a ≤ n ∧ n < a + k ∧ (new n).2.1 ≠ 0 then some (new n) else none := by
    intro k
    induction k with
    | zero => intro a; rw [if_neg (by omega)]; rfl
    | succ k ih =>
      intro a
      rw [List.range'_succ, List.map_cons]
      by_cases h : a = n
      · subst h
        by_cases hs : (new a).2.1 ≠ 0
        · rw [List.find?_cons_of_pos (by simp [hs, hn]), if_pos ⟨Nat.le_refl _, by omega, hs⟩]
        · rw [List.find?_cons_of_neg (by simp [hs]), ih, if_neg (by omega), if_neg (fun h => hs h.2.2)]
      · rw [List.find?_cons_of_neg (by simp [hn, h]), ih]
        by_cases h2 : a + 1 ≤ n ∧ n < a + 1 + k ∧ (new n).2.1 ≠ 0
        · rw [if_pos h2, if_pos ⟨by omega, by omega, h2.2.2⟩]
        · rw [if_neg h2, if_neg (fun h' => h2 ⟨by omega, by omega, h'.2.2⟩)]
  rw [hmid]
  have hfst : (l.find? fun c => decide (c.1 < a) && (c.1 == n)) = if n < a then l.find? (fun c => c.1 == n) else none := by
    by_cases h : n < a
    · rw [if_pos h]
      congr 1; funext c
      by_cases hc : c.1 = n
      · simp [hc, h]
      · simp [hc]
    · rw [if_neg h]
      refine List.find?_eq_none.2 fun c _ => ?_
      simp; omega
  have hlst : (l.find? fun c => decide (m ≤ c.1) && (c.1 == n)) = if m ≤ n then l.find? (fun c => c.1 == n) else none := by
    by_cases h : m ≤ n
    · rw [if_pos h]
      congr 1; funext c
      by_cases hc : c.1 = n
      · simp [hc, h]
      · simp [hc]
    · rw [if_neg h]
      refine List.find?_eq_none.2 fun c _ => ?_
      simp; omega
  rw [hfst, hlst]
  by_cases h1 : n < a
  · have c1 : ¬ (a ≤ n ∧ n < a + (m - a) ∧ (new n).2.1 ≠ 0) := fun h => by omega
    have c2 : ¬ m ≤ n := by omega
    have c3 : ¬ (a ≤ n ∧ n < m) := fun h => by omega
    rw [if_pos h1, if_neg c1, if_neg c2, if_neg c3]
    simp
  · rw [if_neg h1, Option.none_or]
    by_cases h2 : n < m
    · have c2 : ¬ m ≤ n := by omega
      have c3 : a ≤ n ∧ n < m := ⟨by omega, h2⟩
      by_cases hs : (new n).2.1 ≠ 0
      · have c1 : a ≤ n ∧ n < a + (m - a) ∧ (new n).2.1 ≠ 0 := ⟨by omega, by omega, hs⟩
        rw [if_pos c1, if_neg c2, if_pos c3, if_pos hs]; rfl
      · have c1 : ¬ (a ≤ n ∧ n < a + (m - a) ∧ (new n).2.1 ≠ 0) := fun h => hs h.2.2
        rw [if_neg c1, if_neg c2, if_pos c3, if_neg hs]; rfl
    · have c1 : ¬ (a ≤ n ∧ n < a + (m - a) ∧ (new n).2.1 ≠ 0) := fun h => by omega
      have c2 : m ≤ n := by omega
      have c3 : ¬ (a ≤ n ∧ n < m) := fun h => h2 h.2
      rw [if_neg c1, if_pos c2, if_neg c3, Option.none_or]
theorem upto_inc {l : List Cl} {new : Nat → Cl} {a m : Nat} (hi : inc l) (hn : ∀ j, (new j).1 = j) (ham : a ≤ m) : inc (upto l new a m) := by
  unfold inc at *
  unfold upto
  have hmid : (((List.range' a (m - a)).map new).filter (fun x => decide (x.2.1 ≠ 0))).Pairwise fun x y => x.1 < y.1 := by
    refine List.Pairwise.filter _ ?_
    rw [List.pairwise_map]
    simp only [hn]
    exact List.pairwise_lt_range'
  have hb : ∀ x ∈ ((List.range' a (m - a)).map new).filter (fun x => decide (x.2.1 ≠ 0)), a ≤ x.1 ∧ x.1 < m := by
    intro x hx
    obtain ⟨j, hj, rfl⟩ := List.mem_map.1 (List.mem_filter.1 hx).1
    rw [List.mem_range'_1] at hj
    rw [hn]; omega
  rw [List.pairwise_append, List.pairwise_append]
  refine ⟨hi.filter _, ⟨hmid, hi.filter _, fun x hx y hy => ?_⟩, fun x hx y hy => ?_⟩
  · have := hb x hx
    have h2 : m ≤ y.1 := by simpa using (List.mem_filter.1 hy).2
    omega
  · have h1 : x.1 < a := by simpa using (List.mem_filter.1 hx).2
    rcases List.mem_append.1 hy with hy | hy
    · have := hb y hy; omega
    · have h2 : m ≤ y.1 := by simpa using (List.mem_filter.1 hy).2
      omega
theorem upto_next {l : List Cl} {new : Nat → Cl} {a m : Nat} (hn : ∀ j, (new j).1 = j) (ham : a ≤ m) : withC (upto l new a m) (new m) = upto l new a (m + 1) := by
  unfold withC
  rw [hn]
  unfold upto
  simp only [List.filter_append, List.filter_filter]
  have e1 : l.filter (fun x => decide (x.1 < m) && decide (x.1 < a)) = l.filter (fun x => decide (x.1 < a)) := by
    congr 1; funext x; by_cases h : x.1 < a
    · simp [h]; omega
    · simp [h]
  have e2 : ((List.range' a (m - a)).map new).filter (fun x => decide (x.1 < m) && decide (x.2.1 ≠ 0)) = ((List.range' a (m - a)).map new).filter (fun x => decide (x.2.1 ≠ 0)) := by
    refine List.filter_congr fun x hx => ?_
    obtain ⟨j, hj, rfl⟩ := List.mem_map.1 hx
    rw [List.mem_range'_1] at hj
    rw [hn, decide_eq_true (by omega : j < m), Bool.true_and]
  have e3 : l.filter (fun x => decide (x.1 < m) && decide (m ≤ x.1)) = [] := List.filter_eq_nil_iff.2 fun x _ => by simp
  have e4 : l.filter (fun x => decide (m < x.1) && decide (x.1 < a)) = [] := List.filter_eq_nil_iff.2 fun x _ => by simp; omega
  have e5 : ((List.range' a (m - a)).map new).filter (fun x => decide (m < x.1) && decide (x.2.1 ≠ 0)) = [] := List.filter_eq_nil_iff.2 fun x hx => by
    obtain ⟨j, hj, rfl⟩ := List.mem_map.1 hx
    rw [List.mem_range'_1] at hj
    simp [hn]; omega
  have e6 : l.filter (fun x => decide (m < x.1) && decide (m ≤ x.1)) = l.filter (fun x => decide (m + 1 ≤ x.1)) := by
    congr 1; funext x
    by_cases h : m < x.1
    · simp [h]; omega
    · simp [h]; omega
  rw [e1, e2, e3, e4, e5, e6, show m + 1 - a = (m - a) + 1 by omega, List.range'_concat, List.map_append, List.filter_append, show a + 1 * (m - a) = m by omega]
  by_cases hs : (new m).2.1 = 0
  · simp [hs]
  · simp [hs]
end Go.Proofs.Mo
