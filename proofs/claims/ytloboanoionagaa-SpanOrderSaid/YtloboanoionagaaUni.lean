/-
  Unions of spans, plainly: the greatest stretches of covered numbers.
-/
namespace Go.Proofs.Uni
/-- Is a number in one of the spans (first and last numbers)? -/
def cov (l : List (Nat × Nat)) (x : Nat) : Prop := ∃ s ∈ l, s.1 ≤ x ∧ x ≤ s.2
/-- A greatest stretch of covered numbers. -/
structure Run (c : Nat → Prop) (r : Nat × Nat) : Prop where
  le : r.1 ≤ r.2
  all : ∀ x, r.1 ≤ x → x ≤ r.2 → c x
  lo : ∀ x, x + 1 = r.1 → ¬c x
  hi : ¬c (r.2 + 1)
theorem Run.meet {c : Nat → Prop} {r q : Nat × Nat} (h : Run c r) (k : Run c q) {x : Nat} (h1 : r.1 ≤ x) (h2 : x ≤ r.2) (k1 : q.1 ≤ x) (k2 : x ≤ q.2) : r = q := by
  have e1 : r.1 = q.1 := by
    rcases Nat.lt_trichotomy r.1 q.1 with hl | he | hg
    · exact absurd (h.all (q.1 - 1) (by omega) (by omega)) (k.lo _ (by omega))
    · exact he
    · exact absurd (k.all (r.1 - 1) (by omega) (by omega)) (h.lo _ (by omega))
  have e2 : r.2 = q.2 := by
    rcases Nat.lt_trichotomy r.2 q.2 with hl | he | hg
    · exact absurd (k.all (r.2 + 1) (by omega) (by omega)) h.hi
    · exact he
    · exact absurd (h.all (q.2 + 1) (by omega) (by omega)) k.hi
  exact Prod.ext e1 e2
/-- The list of all greatest stretches, rising. -/
structure Runs (c : Nat → Prop) (l : List (Nat × Nat)) : Prop where
  rise : l.Pairwise fun a b => a.1 < b.1
  run : ∀ r ∈ l, Run c r
  full : ∀ x, c x → ∃ r ∈ l, r.1 ≤ x ∧ x ≤ r.2
theorem Runs.mem {c : Nat → Prop} {l m : List (Nat × Nat)} (h : Runs c l) (k : Runs c m) {r : Nat × Nat} (hr : r ∈ l) : r ∈ m := by
  have R := h.run r hr
  obtain ⟨q, hq, q1, q2⟩ := k.full r.1 (R.all _ (Nat.le_refl _) R.le)
  have := R.meet (k.run q hq) (Nat.le_refl _) R.le q1 q2
  exact this ▸ hq
theorem rise_eq : ∀ {l m : List (Nat × Nat)}, (l.Pairwise fun a b => a.1 < b.1) → (m.Pairwise fun a b => a.1 < b.1) → (∀ r, r ∈ l ↔ r ∈ m) → l = m := by
  intro l
  induction l with
  | nil =>
    intro m _ _ h
    cases m with
    | nil => rfl
    | cons y t => exact absurd ((h y).2 List.mem_cons_self) (by simp)
  | cons x r ih =>
    intro m hl hm h
    cases m with
    | nil => exact absurd ((h x).1 List.mem_cons_self) (by simp)
    | cons y t =>
      rw [List.pairwise_cons] at hl hm
      have e : x = y := by
        rcases List.mem_cons.1 ((h x).1 List.mem_cons_self) with e | e
        · exact e
        · rcases List.mem_cons.1 ((h y).2 List.mem_cons_self) with e' | e'
          · exact e'.symm
          · exact absurd (Nat.lt_trans (hl.1 y e') (hm.1 x e)) (Nat.lt_irrefl _)
      subst e
      congr 1
      refine ih hl.2 hm.2 fun z => ?_
      constructor
      · intro hz
        rcases List.mem_cons.1 ((h z).1 (List.mem_cons_of_mem _ hz)) with e | e
        · exact absurd (hl.1 z hz) (by rw [e]; exact Nat.lt_irrefl _)
        · exact e
      · intro hz
        rcases List.mem_cons.1 ((h z).2 (List.mem_cons_of_mem _ hz)) with e | e
        · exact absurd (hm.1 z hz) (by rw [e]; exact Nat.lt_irrefl _)
        · exact e
theorem Runs.eq {c : Nat → Prop} {l m : List (Nat × Nat)} (h : Runs c l) (k : Runs c m) : l = m :=
  rise_eq h.rise k.rise fun _ => ⟨h.mem k, k.mem h⟩
theorem Runs.congr {c d : Nat → Prop} {l : List (Nat × Nat)} (h : Runs c l) (e : ∀ x, c x ↔ d x) : Runs d l := by
  have : c = d := funext fun x => propext (e x)
  exact this ▸ h
/-- What is in the greatest stretches is what was covered. -/
theorem Runs.cov {c : Nat → Prop} {l : List (Nat × Nat)} (h : Runs c l) (x : Nat) : cov l x ↔ c x :=
  ⟨fun ⟨r, hr, h1, h2⟩ => (h.run r hr).all x h1 h2, fun hx => h.full x hx⟩

/-! ### Joined one behind the other -/
/-- A run under way takes in the next ones that touch it. -/
def take1 (r : Nat × Nat) : List (Nat × Nat) → (Nat × Nat) × List (Nat × Nat)
  | [] => (r, [])
  | s :: l => if s.1 ≤ r.2 + 1 then take1 (r.1, max r.2 s.2) l else (r, s :: l)
theorem take1_len (r : Nat × Nat) : ∀ l : List (Nat × Nat), (take1 r l).2.length ≤ l.length := by
  intro l
  induction l generalizing r with
  | nil => exact Nat.le_refl _
  | cons s l ih =>
    unfold take1
    split
    · exact Nat.le_succ_of_le (ih _)
    · exact Nat.le_refl _
def joined : Nat → List (Nat × Nat) → List (Nat × Nat)
  | 0, _ => []
  | _ + 1, [] => []
  | n + 1, s :: l => (take1 s l).1 :: joined n (take1 s l).2
theorem take1_spec : ∀ (l : List (Nat × Nat)) (r : Nat × Nat), r.1 ≤ r.2 → (∀ s ∈ l, r.1 ≤ s.1 ∧ s.1 ≤ s.2) → (l.Pairwise fun a b => a.1 ≤ b.1) →
    (take1 r l).1.1 = r.1 ∧ r.2 ≤ (take1 r l).1.2 ∧ (∀ x, r.1 ≤ x → x ≤ (take1 r l).1.2 → cov (r :: l) x) ∧ (∀ s ∈ (take1 r l).2, s ∈ l ∧ (take1 r l).1.2 + 1 < s.1) ∧
      (∀ s ∈ l, s ∈ (take1 r l).2 ∨ s.2 ≤ (take1 r l).1.2) ∧ ((take1 r l).2.Pairwise fun a b => a.1 ≤ b.1) := by
  intro l
  induction l with
  | nil =>
    intro r hr _ _
    refine ⟨rfl, Nat.le_refl _, fun x h1 h2 => ⟨r, List.mem_cons_self, h1, h2⟩, fun s hs => (by cases hs), fun s hs => (by cases hs), List.Pairwise.nil⟩
  | cons s l ih =>
    intro r hr hl hp
    rw [List.pairwise_cons] at hp
    have hs := hl s List.mem_cons_self
    unfold take1
    by_cases h : s.1 ≤ r.2 + 1
    · rw [if_pos h]
      obtain ⟨a, b, c, d, e, f⟩ := ih (r.1, max r.2 s.2) (by simp only; omega) (fun t ht => ⟨Nat.le_trans hs.1 (hp.1 t ht), (hl t (List.mem_cons_of_mem _ ht)).2⟩) hp.2
      simp only at a b c d e f
      refine ⟨a, by omega, fun x h1 h2 => ?_, fun t ht => ⟨List.mem_cons_of_mem _ (d t ht).1, (d t ht).2⟩, fun t ht => ?_, f⟩
      · obtain ⟨t, ht, t1, t2⟩ := c x h1 h2
        rcases List.mem_cons.1 ht with rfl | ht
        · simp only at t1 t2
          by_cases hx : x ≤ r.2
          · exact ⟨r, List.mem_cons_self, h1, hx⟩
          · exact ⟨s, List.mem_cons_of_mem _ List.mem_cons_self, by omega, by omega⟩
        · exact ⟨t, List.mem_cons_of_mem _ (List.mem_cons_of_mem _ ht), t1, t2⟩
      · rcases List.mem_cons.1 ht with rfl | ht
        · right; omega
        · exact e t ht
    · rw [if_neg h]
      refine ⟨rfl, Nat.le_refl _, fun x h1 h2 => ⟨r, List.mem_cons_self, h1, h2⟩, fun t ht => ⟨ht, ?_⟩, fun t ht => .inl ht, List.pairwise_cons.2 hp⟩
      simp only
      rcases List.mem_cons.1 ht with rfl | ht
      · omega
      · have := hp.1 t ht; omega
/-- What is joined of spans that rise are the greatest stretches. -/
theorem joined_runs : ∀ (n : Nat) (l : List (Nat × Nat)), l.length ≤ n → (∀ s ∈ l, s.1 ≤ s.2) → (l.Pairwise fun a b => a.1 ≤ b.1) →
    Runs (cov l) (joined n l) ∧ ∀ s ∈ l.head?, ∀ r ∈ joined n l, s.1 ≤ r.1 := by
  intro n
  induction n with
  | zero =>
    intro l hl _ _
    have : l = [] := List.eq_nil_of_length_eq_zero (by omega)
    subst this
    exact ⟨⟨List.Pairwise.nil, fun r hr => (by cases hr), fun x ⟨s, hs, _⟩ => (by cases hs)⟩, fun s hs => (by cases hs)⟩
  | succ n ih =>
    intro l hl hle hp
    cases l with
    | nil => exact ⟨⟨List.Pairwise.nil, fun r hr => (by cases hr), fun x ⟨s, hs, _⟩ => (by cases hs)⟩, fun s hs => (by cases hs)⟩
    | cons s l =>
      have hp' := List.pairwise_cons.1 hp
      obtain ⟨a, b, c, d, e, f⟩ := take1_spec l s (hle s List.mem_cons_self) (fun t ht => ⟨hp'.1 t ht, hle t (List.mem_cons_of_mem _ ht)⟩) hp'.2
      have hlen := take1_len s l
      rw [List.length_cons] at hl
      obtain ⟨R, hmin⟩ := ih (take1 s l).2 (by omega) (fun t ht => hle t (List.mem_cons_of_mem _ (d t ht).1)) f
      have hfirst : ∀ r ∈ joined n (take1 s l).2, (take1 s l).1.2 + 1 < r.1 := by
        intro r hr
        obtain ⟨t, ht, t1, t2⟩ := (R.run r hr).all r.1 (Nat.le_refl _) (R.run r hr).le
        have := (d t ht).2
        omega
      -- what is covered: in the first run, or by what is left
      have hc : ∀ x, cov (s :: l) x ↔ ((take1 s l).1.1 ≤ x ∧ x ≤ (take1 s l).1.2) ∨ cov (take1 s l).2 x := by
        intro x
        constructor
        · rintro ⟨t, ht, t1, t2⟩
          rcases List.mem_cons.1 ht with rfl | ht
          · left; omega
          · rcases e t ht with h | h
            · exact .inr ⟨t, h, t1, t2⟩
            · have := hp'.1 t ht
              left; omega
        · rintro (⟨h1, h2⟩ | ⟨t, ht, t1, t2⟩)
          · exact c x (by omega) h2
          · exact ⟨t, List.mem_cons_of_mem _ (d t ht).1, t1, t2⟩
      have hrest : ∀ x, cov (take1 s l).2 x → (take1 s l).1.2 + 1 < x := by
        rintro x ⟨t, ht, t1, _⟩
        have := (d t ht).2
        omega
      have hle1 := hle s List.mem_cons_self
      refine ⟨⟨?_, ?_, ?_⟩, ?_⟩
      · unfold joined
        refine List.pairwise_cons.2 ⟨fun r hr => ?_, R.rise⟩
        have := hfirst r hr
        omega
      · unfold joined
        intro r hr
        rcases List.mem_cons.1 hr with rfl | hr
        · refine ⟨by omega, fun x h1 h2 => (hc x).2 (.inl ⟨h1, h2⟩), fun x hx hcx => ?_, fun hcx => ?_⟩
          · rcases (hc x).1 hcx with h | h
            · omega
            · have := hrest x h; omega
          · rcases (hc _).1 hcx with h | h
            · omega
            · have := hrest _ h; omega
        · have Q := R.run r hr
          have hf := hfirst r hr
          refine ⟨Q.le, fun x h1 h2 => (hc x).2 (.inr (Q.all x h1 h2)), fun x hx hcx => ?_, fun hcx => ?_⟩
          · rcases (hc x).1 hcx with h | h
            · omega
            · exact Q.lo x hx h
          · have := Q.le
            rcases (hc _).1 hcx with h | h
            · omega
            · exact Q.hi h
      · unfold joined
        intro x hx
        rcases (hc x).1 hx with h | h
        · exact ⟨_, List.mem_cons_self, h⟩
        · obtain ⟨r, hr, h1⟩ := R.full x h
          exact ⟨r, List.mem_cons_of_mem _ hr, h1⟩
      · intro t ht r hr
        cases ht
        unfold joined at hr
        rcases List.mem_cons.1 hr with rfl | hr
        · omega
        · have := hfirst r hr; omega

/-! ### Grown -/
def touches (r s : Nat × Nat) : Bool := decide (s.1 ≤ r.2 + 1) && decide (r.1 ≤ s.2 + 1)
def eat (r s : Nat × Nat) : Nat × Nat := if touches r s then (min r.1 s.1, max r.2 s.2) else r
def round (l : List (Nat × Nat)) (r : Nat × Nat) : Nat × Nat := l.foldl eat r
def inside (r s : Nat × Nat) : Bool := decide (r.1 ≤ s.1) && decide (s.2 ≤ r.2)
theorem eat_grows (r s : Nat × Nat) : (eat r s).1 ≤ r.1 ∧ r.2 ≤ (eat r s).2 := by
  unfold eat; split <;> first | (simp only; omega) | omega
theorem fold_grows : ∀ (l : List (Nat × Nat)) (r : Nat × Nat), (l.foldl eat r).1 ≤ r.1 ∧ r.2 ≤ (l.foldl eat r).2 := by
  intro l
  induction l with
  | nil => intro r; exact ⟨Nat.le_refl _, Nat.le_refl _⟩
  | cons s l ih =>
    intro r
    have h1 := eat_grows r s
    have h2 := ih (eat r s)
    rw [List.foldl_cons]
    omega
theorem touches_iff (r s : Nat × Nat) : touches r s = true ↔ s.1 ≤ r.2 + 1 ∧ r.1 ≤ s.2 + 1 := by
  unfold touches; simp
theorem inside_iff (r s : Nat × Nat) : inside r s = true ↔ r.1 ≤ s.1 ∧ s.2 ≤ r.2 := by
  unfold inside; simp
/-- Closed: what touches is inside. -/
def Shut (l : List (Nat × Nat)) (r : Nat × Nat) : Prop := ∀ s ∈ l, touches r s = true → inside r s = true
/-- A round that changes nothing shows that all that touches is inside. -/
theorem fold_same : ∀ (l : List (Nat × Nat)) (r : Nat × Nat), l.foldl eat r = r → Shut l r := by
  intro l
  induction l with
  | nil => intro r _ s hs; cases hs
  | cons s l ih =>
    intro r h
    rw [List.foldl_cons] at h
    have h1 := eat_grows r s
    have h2 := fold_grows l (eat r s)
    rw [h] at h2
    have e : eat r s = r := Prod.ext (by omega) (by omega)
    rw [e] at h
    intro t ht htt
    rcases List.mem_cons.1 ht with rfl | ht
    · rw [inside_iff]
      unfold eat at e
      rw [if_pos htt] at e
      have e1 := congrArg Prod.fst e
      have e2 := congrArg Prod.snd e
      simp only at e1 e2
      omega
    · exact ih r h t ht htt
/-- A round that changes something takes in a span that was not inside. -/
theorem fold_new : ∀ (l : List (Nat × Nat)) (r : Nat × Nat), l.foldl eat r ≠ r → ∃ s ∈ l, inside r s = false ∧ inside (l.foldl eat r) s = true := by
  intro l
  induction l with
  | nil => intro r h; exact absurd rfl h
  | cons s l ih =>
    intro r h
    rw [List.foldl_cons] at h ⊢
    by_cases he : eat r s = r
    · rw [he] at h ⊢
      obtain ⟨t, ht, h1, h2⟩ := ih r h
      exact ⟨t, List.mem_cons_of_mem _ ht, h1, h2⟩
    · refine ⟨s, List.mem_cons_self, ?_, ?_⟩
      · cases hi : inside r s with
        | false => rfl
        | true =>
          exfalso
          apply he
          rw [inside_iff] at hi
          unfold eat
          split
          · exact Prod.ext (by simp only; omega) (by simp only; omega)
          · rfl
      · have ht : touches r s = true := by
          cases ht : touches r s with
          | true => rfl
          | false => exfalso; apply he; unfold eat; rw [ht]; rfl
        have h2 := fold_grows l (eat r s)
        rw [inside_iff]
        have e : eat r s = (min r.1 s.1, max r.2 s.2) := by unfold eat; rw [if_pos ht]
        rw [e] at h2 ⊢
        simp only at h2
        omega
def cnt (l : List (Nat × Nat)) (r : Nat × Nat) : Nat := (l.filter (inside r)).length
theorem cnt_le (l : List (Nat × Nat)) (r : Nat × Nat) : cnt l r ≤ l.length := List.length_filter_le _ _
theorem cnt_mono {r q : Nat × Nat} (h : q.1 ≤ r.1 ∧ r.2 ≤ q.2) : ∀ l : List (Nat × Nat), cnt l r ≤ cnt l q := by
  intro l
  unfold cnt
  induction l with
  | nil => exact Nat.le_refl _
  | cons s l ih =>
    rw [List.filter_cons, List.filter_cons]
    by_cases h1 : inside r s = true
    · have h2 : inside q s = true := by rw [inside_iff] at h1 ⊢; omega
      rw [if_pos h1, if_pos h2, List.length_cons, List.length_cons]; omega
    · rw [if_neg h1]
      split
      · rw [List.length_cons]; omega
      · exact ih
theorem cnt_lt {r q : Nat × Nat} (h : q.1 ≤ r.1 ∧ r.2 ≤ q.2) : ∀ l : List (Nat × Nat), (∃ s ∈ l, inside r s = false ∧ inside q s = true) → cnt l r < cnt l q := by
  intro l
  induction l with
  | nil => rintro ⟨s, hs, _⟩; cases hs
  | cons s l ih =>
    rintro ⟨t, ht, h1, h2⟩
    have hm := cnt_mono h l
    unfold cnt at ih hm ⊢
    rw [List.filter_cons, List.filter_cons]
    rcases List.mem_cons.1 ht with rfl | ht
    · rw [if_neg (by rw [h1]; simp), if_pos h2, List.length_cons]; omega
    · have := ih ⟨t, ht, h1, h2⟩
      by_cases h3 : inside r s = true
      · have h4 : inside q s = true := by rw [inside_iff] at h3 ⊢; omega
        rw [if_pos h3, if_pos h4, List.length_cons, List.length_cons]; omega
      · rw [if_neg h3]
        split
        · rw [List.length_cons]; omega
        · exact this
def rounds (l : List (Nat × Nat)) : Nat → Nat × Nat → Nat × Nat
  | 0, r => r
  | n + 1, r => rounds l n (round l r)
theorem rounds_fix {l : List (Nat × Nat)} {r : Nat × Nat} (h : round l r = r) : ∀ n, rounds l n r = r
  | 0 => rfl
  | n + 1 => by rw [rounds, h]; exact rounds_fix h n
theorem rounds_shut (l : List (Nat × Nat)) : ∀ (n : Nat) (r : Nat × Nat), l.length < cnt l r + n → round l (rounds l n r) = rounds l n r := by
  intro n
  induction n with
  | zero => intro r h; have := cnt_le l r; omega
  | succ n ih =>
    intro r h
    by_cases he : round l r = r
    · rw [rounds_fix he, he]
    · rw [rounds]
      refine ih _ ?_
      have := cnt_lt (fold_grows l r) l (fold_new l r he)
      unfold round
      omega
theorem eat_cov {c : Nat → Prop} {r s : Nat × Nat} (hr : r.1 ≤ r.2) (hs : s.1 ≤ s.2) (h : ∀ x, r.1 ≤ x → x ≤ r.2 → c x) (k : ∀ x, s.1 ≤ x → x ≤ s.2 → c x) : (eat r s).1 ≤ (eat r s).2 ∧ ∀ x, (eat r s).1 ≤ x → x ≤ (eat r s).2 → c x := by
  unfold eat
  split
  · rename_i ht
    rw [touches_iff] at ht
    simp only
    refine ⟨by omega, fun x h1 h2 => ?_⟩
    by_cases hx : r.1 ≤ x ∧ x ≤ r.2
    · exact h x hx.1 hx.2
    · exact k x (by omega) (by omega)
  · exact ⟨hr, h⟩
theorem fold_cov {c : Nat → Prop} : ∀ (l : List (Nat × Nat)) (r : Nat × Nat), (∀ s ∈ l, s.1 ≤ s.2 ∧ ∀ x, s.1 ≤ x → x ≤ s.2 → c x) → r.1 ≤ r.2 → (∀ x, r.1 ≤ x → x ≤ r.2 → c x) →
    (l.foldl eat r).1 ≤ (l.foldl eat r).2 ∧ ∀ x, (l.foldl eat r).1 ≤ x → x ≤ (l.foldl eat r).2 → c x := by
  intro l
  induction l with
  | nil => intro r _ h1 h2; exact ⟨h1, h2⟩
  | cons s l ih =>
    intro r hl h1 h2
    obtain ⟨a, b⟩ := hl s List.mem_cons_self
    obtain ⟨e1, e2⟩ := eat_cov h1 a h2 b
    rw [List.foldl_cons]
    exact ih _ (fun t ht => hl t (List.mem_cons_of_mem _ ht)) e1 e2
theorem rounds_cov {l : List (Nat × Nat)} (hl : ∀ s ∈ l, s.1 ≤ s.2) : ∀ (n : Nat) (r : Nat × Nat), r.1 ≤ r.2 → (∀ x, r.1 ≤ x → x ≤ r.2 → cov l x) →
    (rounds l n r).1 ≤ (rounds l n r).2 ∧ ∀ x, (rounds l n r).1 ≤ x → x ≤ (rounds l n r).2 → cov l x := by
  intro n
  induction n with
  | zero => intro r h1 h2; exact ⟨h1, h2⟩
  | succ n ih =>
    intro r h1 h2
    obtain ⟨e1, e2⟩ := fold_cov l r (fun s hs => ⟨hl s hs, fun x a b => ⟨s, hs, a, b⟩⟩) h1 h2
    exact ih _ e1 e2
theorem rounds_grows (l : List (Nat × Nat)) : ∀ (n : Nat) (r : Nat × Nat), (rounds l n r).1 ≤ r.1 ∧ r.2 ≤ (rounds l n r).2 := by
  intro n
  induction n with
  | zero => intro r; exact ⟨Nat.le_refl _, Nat.le_refl _⟩
  | succ n ih =>
    intro r
    have h1 := fold_grows l r
    have h2 := ih (round l r)
    unfold round at h2
    rw [rounds]
    unfold round
    omega
/-- A span that has grown as often as there are spans is a greatest stretch. -/
theorem grown_run {l : List (Nat × Nat)} (hl : ∀ s ∈ l, s.1 ≤ s.2) {s : Nat × Nat} (hs : s ∈ l) : Run (cov l) (rounds l l.length s) := by
  obtain ⟨h1, h2⟩ := rounds_cov hl l.length s (hl s hs) fun x a b => ⟨s, hs, a, b⟩
  have hc : 0 < cnt l s := List.length_pos_of_mem (List.mem_filter.2 ⟨hs, by rw [inside_iff]; exact ⟨Nat.le_refl _, Nat.le_refl _⟩⟩)
  have hsh := fold_same l _ (rounds_shut l l.length s (by omega))
  refine ⟨h1, h2, fun x hx ⟨t, ht, t1, t2⟩ => ?_, fun ⟨t, ht, t1, t2⟩ => ?_⟩
  · have := hsh t ht (by rw [touches_iff]; omega)
    rw [inside_iff] at this; omega
  · have := hsh t ht (by rw [touches_iff]; omega)
    rw [inside_iff] at this; omega

/-! ### Laid in order, each once -/
/-- Behind those that begin ahead of it. -/
def lay (r : Nat × Nat) (out : List (Nat × Nat)) : List (Nat × Nat) := out.filter (fun o => decide (o.1 < r.1)) ++ r :: out.filter (fun o => !decide (o.1 < r.1))
theorem lay_rise {c : Nat → Prop} {r : Nat × Nat} {out : List (Nat × Nat)} (hp : out.Pairwise fun a b => a.1 < b.1) (hr : Run c r) (ho : ∀ o ∈ out, Run c o) (hn : r ∉ out) : (lay r out).Pairwise fun a b => a.1 < b.1 := by
  unfold lay
  rw [List.pairwise_append]
  refine ⟨hp.filter _, ?_, ?_⟩
  · rw [List.pairwise_cons]
    refine ⟨fun o ho' => ?_, hp.filter _⟩
    obtain ⟨h1, h2⟩ := List.mem_filter.1 ho'
    simp only [Bool.not_eq_true', decide_eq_false_iff_not] at h2
    rcases Nat.lt_or_eq_of_le (Nat.le_of_not_lt h2) with h | h
    · exact h
    · have := hr.meet (ho o h1) (Nat.le_refl _) hr.le (by omega) (by have := (ho o h1).le; omega)
      exact absurd (this ▸ h1) hn
  · intro a ha b hb
    have h1 := (List.mem_filter.1 ha).2
    simp only [decide_eq_true_eq] at h1
    rcases List.mem_cons.1 hb with rfl | hb
    · exact h1
    · have h2 := (List.mem_filter.1 hb).2
      simp only [Bool.not_eq_true', decide_eq_false_iff_not] at h2
      omega
theorem mem_lay {r x : Nat × Nat} {out : List (Nat × Nat)} : x ∈ lay r out ↔ x = r ∨ x ∈ out := by
  unfold lay
  rw [List.mem_append, List.mem_cons, List.mem_filter, List.mem_filter]
  by_cases h : x.1 < r.1
  · simp only [h, decide_true, Bool.not_true, Bool.false_eq_true, and_false, and_true, or_false]
    exact ⟨fun h => h.elim .inr .inl, fun h => h.elim .inr .inl⟩
  · simp only [h, decide_false, Bool.not_false, Bool.false_eq_true, and_false, and_true, false_or]
/-- A rising list is cut where one begins no longer ahead of a number. -/
theorem filter_split {out : List (Nat × Nat)} (hp : out.Pairwise fun a b => a.1 < b.1) (n : Nat) : ∃ k, k ≤ out.length ∧ out.filter (fun o => decide (o.1 < n)) = out.take k ∧ out.filter (fun o => !decide (o.1 < n)) = out.drop k ∧ (∀ (i : Nat) (o : Nat × Nat), out[i]? = some o → (o.1 < n ↔ i < k)) := by
  induction out with
  | nil => exact ⟨0, Nat.le_refl _, rfl, rfl, fun i o h => by simp at h⟩
  | cons x r ih =>
    rw [List.pairwise_cons] at hp
    by_cases h : x.1 < n
    · obtain ⟨k, h0, h1, h2, h3⟩ := ih hp.2
      refine ⟨k + 1, by rw [List.length_cons]; omega, ?_, ?_, fun i o ho => ?_⟩
      · rw [List.filter_cons, if_pos (by simpa using h), h1, List.take_succ_cons]
      · rw [List.filter_cons, if_neg (by simpa using h), h2, List.drop_succ_cons]
      · cases i with
        | zero => simp at ho; subst ho; exact ⟨fun _ => by omega, fun _ => h⟩
        | succ i => rw [List.getElem?_cons_succ] at ho; rw [h3 i o ho]; omega
    · have hall : ∀ y ∈ r, ¬y.1 < n := fun y hy => by have := hp.1 y hy; omega
      refine ⟨0, Nat.zero_le _, ?_, ?_, fun i o ho => ?_⟩
      · rw [List.take_zero, List.filter_eq_nil_iff]
        intro y hy
        rcases List.mem_cons.1 hy with rfl | hy
        · simpa using h
        · simpa using hall y hy
      · rw [List.drop_zero, List.filter_eq_self]
        intro y hy
        rcases List.mem_cons.1 hy with rfl | hy
        · simpa using h
        · simpa using hall y hy
      · have : o ∈ x :: r := List.mem_of_getElem? ho
        rcases List.mem_cons.1 this with rfl | hy
        · exact ⟨fun h' => absurd h' h, fun h' => by omega⟩
        · exact ⟨fun h' => absurd h' (hall o hy), fun h' => by omega⟩
/-- All spans' stretches, laid in order, each once. -/
def laid (l : List (Nat × Nat)) : List (Nat × Nat) → List (Nat × Nat) → List (Nat × Nat)
  | [], out => out
  | s :: t, out => laid l t (if rounds l l.length s ∈ out then out else lay (rounds l l.length s) out)
theorem laid_runs {l : List (Nat × Nat)} (hl : ∀ s ∈ l, s.1 ≤ s.2) : ∀ (t out : List (Nat × Nat)), (∀ s ∈ t, s ∈ l) → (out.Pairwise fun a b => a.1 < b.1) → (∀ o ∈ out, Run (cov l) o) → (∀ s ∈ l, s ∈ t ∨ rounds l l.length s ∈ out) → Runs (cov l) (laid l t out) := by
  intro t
  induction t with
  | nil =>
    intro out _ hp ho hc
    refine ⟨hp, ho, fun x ⟨s, hs, h1, h2⟩ => ?_⟩
    have h3 := (hc s hs).resolve_left (by simp)
    have := rounds_grows l l.length s
    exact ⟨_, h3, by omega, by omega⟩
  | cons s t ih =>
    intro out ht hp ho hc
    have hs := ht s List.mem_cons_self
    have R := grown_run hl hs
    rw [laid]
    by_cases hm : rounds l l.length s ∈ out
    · rw [if_pos hm]
      refine ih out (fun q hq => ht q (List.mem_cons_of_mem _ hq)) hp ho fun q hq => ?_
      rcases hc q hq with h | h
      · rcases List.mem_cons.1 h with rfl | h
        · exact .inr hm
        · exact .inl h
      · exact .inr h
    · rw [if_neg hm]
      refine ih _ (fun q hq => ht q (List.mem_cons_of_mem _ hq)) (lay_rise hp R ho hm) (fun o hoo => ?_) fun q hq => ?_
      · rcases mem_lay.1 hoo with rfl | h
        · exact R
        · exact ho o h
      · rcases hc q hq with h | h
        · rcases List.mem_cons.1 h with rfl | h
          · exact .inr (mem_lay.2 (.inl rfl))
          · exact .inl h
        · exact .inr (mem_lay.2 (.inr h))
theorem laid_all {l : List (Nat × Nat)} (hl : ∀ s ∈ l, s.1 ≤ s.2) : Runs (cov l) (laid l l []) :=
  laid_runs hl l [] (fun _ h => h) List.Pairwise.nil (fun _ h => by cases h) fun _ h => .inl h
end Go.Proofs.Uni
