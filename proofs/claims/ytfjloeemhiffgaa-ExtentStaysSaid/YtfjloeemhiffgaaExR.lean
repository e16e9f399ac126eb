/- DERIVED. Runs told from the places where a state may change. No program in sight. -/
import Derived.Test.YtfjloeemhiffgaaExQ
set_option linter.unusedVariables false
set_option linter.unusedSimpArgs false
namespace Go.Sym.Ex

/-! ### One more run behind runs -/
def wth : List Rn → Rn → List Rn
  | [], r => [r]
  | q :: [], r => if q.e = r.f ∧ q.s = r.s then [⟨q.f, r.e - q.f, q.s⟩] else [q, r]
  | q :: q2 :: t, r => q :: wth (q2 :: t) r
theorem wth_append {o : List Rn} {q r : Rn} : wth (o ++ [q]) r = if q.e = r.f ∧ q.s = r.s then o ++ [⟨q.f, r.e - q.f, q.s⟩] else o ++ [q] ++ [r] := by
  induction o with
  | nil => rfl
  | cons x o ih =>
    cases o with
    | nil => simp only [List.nil_append, List.cons_append, wth]; split <;> rfl
    | cons y o =>
      simp only [List.cons_append, wth] at ih ⊢
      rw [ih]
      split <;> rfl
theorem wth_len {o : List Rn} {r : Rn} : (wth o r).length ≤ o.length + 1 := by
  induction o with
  | nil => exact Nat.le_refl _
  | cons q t ih =>
    cases t with
    | nil => rw [wth]; split <;> simp
    | cons y t => rw [wth]; simp only [List.length_cons] at *; omega
theorem wth_ok {d : Int} {o : List Rn} {r : Rn} : ∀ {b : Nat}, Ord d b o → Adj o → lastE b o = r.f → 1 ≤ r.l → r.s ≠ d →
    Ord d b (wth o r) ∧ Adj (wth o r) ∧ lastE b (wth o r) = r.e ∧ (∀ n, At d (wth o r) n = if r.f ≤ n ∧ n < r.e then r.s else At d o n) ∧ (∀ q t, o = q :: t → ∃ l' t', wth o r = ⟨q.f, l', q.s⟩ :: t') := by
  induction o with
  | nil =>
    intro b _ _ hl h1 hs
    refine ⟨⟨by simp only [lastE] at hl; omega, h1, hs, trivial⟩, trivial, rfl, fun n => rfl, fun q t h => by cases h⟩
  | cons q t ih =>
    intro b ho ha hl h1 hs
    obtain ⟨o1, o2, o3, o4⟩ := ho
    cases t with
    | nil =>
      simp only [lastE] at hl
      rw [wth]
      have hre : r.e = r.f + r.l := rfl
      have hqe : q.e = q.f + q.l := rfl
      split
      · rename_i hc
        have he : (⟨q.f, r.e - q.f, q.s⟩ : Rn).e = r.e := by simp only [Rn.e] at *; omega
        refine ⟨⟨o1, by simp only; omega, o3, trivial⟩, trivial, by simp only [lastE]; exact he, fun n => ?_, fun q' t' h => by injection h with h h'; subst h; exact ⟨_, _, rfl⟩⟩
        simp only [At, he]
        by_cases g : r.f ≤ n ∧ n < r.e
        · rw [if_pos g, if_pos (by omega)]; exact hc.2
        · rw [if_neg g]
          by_cases g2 : q.f ≤ n ∧ n < q.e
          · rw [if_pos g2, if_pos (by omega)]
          · rw [if_neg g2, if_neg (by omega)]
      · rename_i hc
        refine ⟨⟨o1, o2, o3, by omega, h1, hs, trivial⟩, ⟨hc, trivial⟩, rfl, fun n => ?_, fun q' t' h => by injection h with h h'; subst h; exact ⟨q.l, _, rfl⟩⟩
        simp only [At]
        omega
    | cons y t =>
      obtain ⟨i1, i2, i3, i4, i5⟩ := ih o4 ha.2 hl h1 hs
      rw [wth]
      refine ⟨⟨o1, o2, o3, i1⟩, ?_, i3, fun n => ?_, fun q' t' h => by injection h with h h'; subst h; exact ⟨q.l, _, rfl⟩⟩
      · obtain ⟨l', t', e⟩ := i5 y t rfl
        rw [e] at i2 ⊢
        exact ⟨ha.1, i2⟩
      · have hle := lastE_ge o4
        have hl2 : lastE q.e (y :: t) = r.f := hl
        rw [hl2] at hle
        have hA : At d (q :: y :: t) n = if q.f ≤ n ∧ n < q.e then q.s else At d (y :: t) n := rfl
        rw [hA, At, i4]
        omega

/-! ### Numbers that rise -/
def Ris : List Nat → Prop
  | a :: b :: t => a < b ∧ Ris (b :: t)
  | _ => True
theorem ris_tail {a : Nat} {t : List Nat} (h : Ris (a :: t)) : Ris t := by
  cases t with
  | nil => trivial
  | cons b t => exact h.2
theorem ris_lt {t : List Nat} : ∀ {a : Nat}, Ris (a :: t) → ∀ x ∈ t, a < x := by
  induction t with
  | nil => intro a _ x hx; cases hx
  | cons b t ih =>
    intro a h x hx
    rcases List.mem_cons.1 hx with rfl | hx
    · exact h.1
    · exact Nat.lt_trans h.1 (ih h.2 x hx)
def ins (n : Nat) : List Nat → List Nat
  | [] => [n]
  | x :: t => if x < n then x :: ins n t else if x = n then x :: t else n :: x :: t
theorem ins_ok {n : Nat} {l : List Nat} : Ris l → Ris (ins n l) ∧ (∀ x, x ∈ ins n l ↔ x = n ∨ x ∈ l) ∧ (ins n l).length ≤ l.length + 1 := by
  induction l with
  | nil => intro _; exact ⟨trivial, by simp [ins], Nat.le_refl _⟩
  | cons x t ih =>
    intro h
    obtain ⟨i1, i2, i3⟩ := ih (ris_tail h)
    rw [ins]
    split
    · rename_i hc
      refine ⟨?_, fun y => ?_, by simp; omega⟩
      · cases hi : ins n t with
        | nil => trivial
        | cons y u =>
          rw [hi] at i1
          refine ⟨?_, i1⟩
          rcases (i2 y).1 (by rw [hi]; exact List.mem_cons_self ..) with rfl | hy
          · exact hc
          · exact ris_lt h y hy
      · rw [List.mem_cons, i2, List.mem_cons]
        constructor <;> rintro (h | h | h) <;> simp [h]
    · split
      · rename_i h1 h2
        refine ⟨h, fun y => ?_, by simp⟩
        rw [List.mem_cons]
        constructor
        · rintro (h | h) <;> simp [h]
        · rintro (h | h | h)
          · left; omega
          · exact .inl h
          · exact .inr h
      · rename_i h1 h2
        refine ⟨⟨by omega, h⟩, fun y => ?_, by simp⟩
        rw [List.mem_cons]
def mor (l : List Nat) (n most : Nat) : List Nat := if most ≤ n then l else ins n l
theorem mor_ok {l : List Nat} {n most : Nat} (h : Ris l) (hm : ∀ x ∈ l, x < most) : Ris (mor l n most) ∧ (∀ x ∈ mor l n most, x < most) ∧ (∀ x ∈ l, x ∈ mor l n most) ∧ (n < most → n ∈ mor l n most) ∧ (mor l n most).length ≤ l.length + 1 := by
  unfold mor
  split
  · exact ⟨h, hm, fun _ h => h, (fun h => by omega), by omega⟩
  · obtain ⟨i1, i2, i3⟩ := ins_ok (n := n) h
    refine ⟨i1, fun x hx => ?_, fun x hx => (i2 x).2 (.inr hx), fun _ => (i2 n).2 (.inl rfl), i3⟩
    rcases (i2 x).1 hx with rfl | hx
    · omega
    · exact hm x hx
def mors (most : Nat) : List Rn → List Nat → List Nat
  | [], p => p
  | r :: t, p => mors most t (mor (mor p r.f most) r.e most)
theorem mors_ok {most : Nat} {l : List Rn} : ∀ {p : List Nat}, Ris p → (∀ x ∈ p, x < most) → Ris (mors most l p) ∧ (∀ x ∈ mors most l p, x < most) ∧ (∀ x ∈ p, x ∈ mors most l p) ∧ (∀ r ∈ l, (r.f < most → r.f ∈ mors most l p) ∧ (r.e < most → r.e ∈ mors most l p)) ∧ (mors most l p).length ≤ p.length + 2 * l.length := by
  induction l with
  | nil => intro p h hm; exact ⟨h, hm, fun _ h => h, (fun r hr => by cases hr), Nat.le_refl _⟩
  | cons r t ih =>
    intro p h hm
    obtain ⟨a1, a2, a3, a4, a5⟩ := mor_ok (n := r.f) h hm
    obtain ⟨b1, b2, b3, b4, b5⟩ := mor_ok (n := r.e) a1 a2
    obtain ⟨c1, c2, c3, c4, c5⟩ := ih b1 b2
    rw [mors]
    refine ⟨c1, c2, fun x hx => c3 x (b3 x (a3 x hx)), fun q hq => ?_, by simp; omega⟩
    rcases List.mem_cons.1 hq with rfl | hq
    · exact ⟨fun h => c3 _ (b3 _ (a4 h)), fun h => c3 _ (b4 h)⟩
    · exact c4 q hq

/-! ### States -/
def sts (g : Nat → Int) (fr to : Nat) : List Nat → List Rn → List Rn
  | [], out => out
  | p :: t, out => if p < fr then sts g fr to t out else sts g fr to t (wth out ⟨p, t.headD to - p, g p⟩)
theorem sts_len {g : Nat → Int} {fr to : Nat} {ps : List Nat} : ∀ {out : List Rn}, (sts g fr to ps out).length ≤ out.length + ps.length := by
  induction ps with
  | nil => intro out; exact Nat.le_refl _
  | cons p t ih =>
    intro out
    rw [sts]
    split
    · have := ih (out := out); simp only [List.length_cons]; omega
    · have := ih (out := wth out ⟨p, t.headD to - p, g p⟩)
      have := wth_len (o := out) (r := ⟨p, t.headD to - p, g p⟩)
      simp only [List.length_cons]; omega
theorem sts_ok {g : Nat → Int} {fr to : Nat} (hft : fr < to) (hg : ∀ n, g n ≠ -1) {ps : List Nat} : ∀ {out : List Rn}, Ris ps → (∀ x ∈ ps, x < to) →
    (∀ u p t, ps = u ++ p :: t → ∀ n, p ≤ n → n < t.headD to → g n = g p) → (fr ∈ ps ∨ fr ≤ ps.headD to) →
    Ord (-1) fr out → Adj out → lastE fr out = max fr (ps.headD to) → (∀ n, At (-1) out n = if fr ≤ n ∧ n < ps.headD to then g n else -1) →
    Ord (-1) fr (sts g fr to ps out) ∧ Adj (sts g fr to ps out) ∧ ∀ n, At (-1) (sts g fr to ps out) n = if fr ≤ n ∧ n < to then g n else -1 := by
  induction ps with
  | nil => intro out _ _ _ _ ho ha _ hat; exact ⟨ho, ha, hat⟩
  | cons p t ih =>
    intro out hr hm hc hf ho ha hl hat
    have hc' : ∀ u p' t', t = u ++ p' :: t' → ∀ n, p' ≤ n → n < t'.headD to → g n = g p' := fun u p' t' h => hc (p :: u) p' t' (by rw [h]; rfl)
    have hr' := ris_tail hr
    have hm' : ∀ x ∈ t, x < to := fun x hx => hm x (List.mem_cons_of_mem _ hx)
    have hp : p < to := hm p (List.mem_cons_self ..)
    have hst : p < t.headD to := by
      cases t with
      | nil => exact hp
      | cons b t => exact hr.1
    have hl : lastE fr out = max fr p := hl
    have hat : ∀ n, At (-1) out n = if fr ≤ n ∧ n < p then g n else -1 := hat
    rw [sts]
    split
    · rename_i hlt
      have hin : fr ∈ t := by
        rcases hf with h | h
        · rcases List.mem_cons.1 h with h | h
          · omega
          · exact h
        · simp only [List.headD_cons] at h; omega
      have hhd : t.headD to ≤ fr := by
        cases t with
        | nil => cases hin
        | cons b t =>
          rcases List.mem_cons.1 hin with h | h
          · subst h; exact Nat.le_refl _
          · exact Nat.le_of_lt (ris_lt hr' _ h)
      refine ih hr' hm' hc' (.inl hin) ho ha (by rw [hl]; omega) fun n => ?_
      rw [hat]
      omega
    · rename_i hge
      have hpe : fr ≤ p := by omega
      obtain ⟨w1, w2, w3, w4, _⟩ := wth_ok (r := ⟨p, t.headD to - p, g p⟩) ho ha (by rw [hl]; simp only; omega) (by simp only; omega) (hg p)
      have he : (⟨p, t.headD to - p, g p⟩ : Rn).e = t.headD to := by simp only [Rn.e]; omega
      rw [he] at w3
      refine ih hr' hm' hc' (.inr (by omega)) w1 w2 (by rw [w3]; omega) fun n => ?_
      have hgc := hc [] p t rfl n
      have w4' : At (-1) (wth out ⟨p, t.headD to - p, g p⟩) n = if p ≤ n ∧ n < t.headD to then g p else At (-1) out n := by have := w4 n; rw [he] at this; exact this
      have h2 := hat n
      omega

/-- The places. -/
def places (l : List Rn) (a b fr to : Nat) : List Nat := mors to l (mor (mor [fr] a to) b to)
theorem places_ok {l : List Rn} {a b fr to : Nat} (h : fr < to) : Ris (places l a b fr to) ∧ (∀ x ∈ places l a b fr to, x < to) ∧ fr ∈ places l a b fr to ∧ (a < to → a ∈ places l a b fr to) ∧ (b < to → b ∈ places l a b fr to) ∧ (∀ r ∈ l, (r.f < to → r.f ∈ places l a b fr to) ∧ (r.e < to → r.e ∈ places l a b fr to)) ∧ (places l a b fr to).length ≤ 3 + 2 * l.length := by
  obtain ⟨a1, a2, a3, a4, a5⟩ := mor_ok (l := [fr]) (n := a) (most := to) trivial (by simpa using h)
  obtain ⟨b1, b2, b3, b4, b5⟩ := mor_ok (n := b) a1 a2
  obtain ⟨c1, c2, c3, c4, c5⟩ := mors_ok (l := l) b1 b2
  refine ⟨c1, c2, c3 _ (b3 _ (a3 _ (by simp))), fun h => c3 _ (b3 _ (a4 h)), fun h => c3 _ (b4 h), c4, ?_⟩
  unfold places
  simp at a5
  omega
theorem ris_split {u : List Nat} {p : Nat} {t : List Nat} {to x : Nat} : Ris (u ++ p :: t) → (∀ y ∈ t, y < to) → x ∈ u ++ p :: t → ¬(p < x ∧ x < t.headD to) := by
  induction u with
  | nil =>
    intro h hm hx hc
    rcases List.mem_cons.1 hx with hx | hx
    · omega
    · cases t with
      | nil => cases hx
      | cons b t =>
        simp only [List.headD_cons] at hc
        rcases List.mem_cons.1 hx with hx | hx
        · omega
        · have := ris_lt (show Ris (b :: t) from h.2) x hx; omega
  | cons y u ih =>
    intro h hm hx hc
    rcases List.mem_cons.1 hx with hx | hx
    · have := ris_lt h p (by simp); omega
    · exact ih (ris_tail h) hm hx hc
theorem at_const {l : List Rn} {p n : Nat} (hpn : p ≤ n) (h : ∀ r ∈ l, ¬(p < r.f ∧ r.f ≤ n) ∧ ¬(p < r.e ∧ r.e ≤ n)) : At 0 l n = At 0 l p := by
  induction l with
  | nil => rfl
  | cons r t ih =>
    have hr := h r (List.mem_cons_self ..)
    simp only [At]
    rw [ih fun q hq => h q (List.mem_cons_of_mem _ hq)]
    by_cases g : r.f ≤ p ∧ p < r.e
    · rw [if_pos g, if_pos (by omega)]
    · rw [if_neg g, if_neg (by omega)]
/-- The runs, holes too, behind a state put. -/
def states (l : List Rn) (a b : Nat) (s : Int) (fr to : Nat) : List Rn := sts (New l a b s) fr to (places l a b fr to) []
theorem states_len {l : List Rn} {a b : Nat} {s : Int} {fr to : Nat} (h : fr < to) : (states l a b s fr to).length ≤ 3 + 2 * l.length := by
  have h1 := (places_ok (l := l) (a := a) (b := b) h).2.2.2.2.2.2
  have h2 := sts_len (g := New l a b s) (fr := fr) (to := to) (ps := places l a b fr to) (out := [])
  unfold states
  simp at h2; omega
theorem states_ok {l : List Rn} {a b : Nat} {s : Int} {fr to : Nat} (hl : ∀ r ∈ l, 1 ≤ r.l ∧ r.e ≤ M ∧ (r.s = 1 ∨ r.s = 2)) (hs : s = 0 ∨ s = 1 ∨ s = 2) (h : fr < to) :
    Ord (-1) fr (states l a b s fr to) ∧ Adj (states l a b s fr to) ∧ ∀ n, At (-1) (states l a b s fr to) n = if fr ≤ n ∧ n < to then New l a b s n else -1 := by
  obtain ⟨p1, p2, p3, p4, p5, p6, _⟩ := places_ok (l := l) (a := a) (b := b) h
  have hne : ∀ n, New l a b s n ≠ -1 := by
    intro n
    unfold New
    split
    · omega
    · have := at_val hl n; omega
  have hhd : (places l a b fr to).headD to ≤ fr := by
    cases hp : places l a b fr to with
    | nil => rw [hp] at p3; cases p3
    | cons x t =>
      rw [hp] at p3 p1
      rcases List.mem_cons.1 p3 with h | h
      · subst h; exact Nat.le_refl _
      · exact Nat.le_of_lt (ris_lt p1 _ h)
  refine sts_ok h hne p1 p2 (fun u p t e n h1 h2 => ?_) (.inl p3) trivial trivial ?_ (fun n => by rw [if_neg (by omega)]; rfl)
  · have hmt : ∀ y ∈ t, y < to := fun y hy => p2 y (by rw [e]; simp [hy])
    have htd : t.headD to ≤ to := by
      cases t with
      | nil => exact Nat.le_refl _
      | cons y t => exact Nat.le_of_lt (hmt y (List.mem_cons_self ..))
    have key : ∀ x, (x < to → x ∈ places l a b fr to) → ¬(p < x ∧ x ≤ n) := by
      intro x hx hc
      refine ris_split (by rw [← e]; exact p1) hmt (show x ∈ u ++ p :: t from ?_) ⟨hc.1, by omega⟩
      rw [← e]; exact hx (by omega)
    have ka := key a p4
    have kb := key b p5
    have kl := at_const (l := l) h1 fun r hr => ⟨key r.f (p6 r hr).1, key r.e (p6 r hr).2⟩
    unfold New
    rw [kl]
    by_cases g : a ≤ p ∧ p < b
    · rw [if_pos g, if_pos (by omega)]
    · rw [if_neg g, if_neg (by omega)]
  · show fr = max fr _
    omega
/-- Without the holes. -/
def noHole (l : List Rn) : List Rn := l.filter fun r => decide (r.s ≠ 0)
theorem noHole_ok {l : List Rn} : ∀ {b : Nat}, Ord (-1) b l → Adj l → Ord 0 b (noHole l) ∧ Adj (noHole l) ∧ (∀ n, At 0 (noHole l) n = if At (-1) l n = -1 then 0 else At (-1) l n) ∧ (∀ q u, noHole l = q :: u → ∃ p t, l = p :: t ∧ (q = p ∨ p.e ≤ q.f)) := by
  induction l with
  | nil => intro b _ _; exact ⟨trivial, trivial, (fun n => rfl), fun q u h => by cases h⟩
  | cons r t ih =>
    intro b h ha
    obtain ⟨h1, h2, h3, h4⟩ := h
    have ha2 : Adj t := by
      cases t with
      | nil => trivial
      | cons y w => exact ha.2
    obtain ⟨i1, i2, i3, i4⟩ := ih h4 ha2
    have hat : ∀ n, At (-1) (r :: t) n = if r.f ≤ n ∧ n < r.e then r.s else At (-1) t n := fun n => rfl
    by_cases hs : r.s = 0
    · have e : noHole (r :: t) = noHole t := by unfold noHole; rw [List.filter_cons_of_neg (by simp [hs])]
      rw [e]
      refine ⟨i1.mono (by simp only [Rn.e]; omega), i2, fun n => ?_, fun q u hq => ⟨r, t, rfl, .inr (by rw [hq] at i1; exact i1.1)⟩⟩
      have e1 := hat n
      have e2 := i3 n
      have e3 := fun g : n < r.e => at_lt h4 g
      omega
    · have e : noHole (r :: t) = r :: noHole t := by unfold noHole; rw [List.filter_cons_of_pos (by simp [hs])]
      rw [e]
      refine ⟨⟨h1, h2, hs, i1⟩, ?_, fun n => ?_, fun q u hq => ⟨r, t, rfl, .inl (by injection hq with hq; exact hq.symm)⟩⟩
      · cases hn : noHole t with
        | nil => trivial
        | cons q u =>
          rw [hn] at i2
          refine ⟨fun hc => ?_, i2⟩
          obtain ⟨p, t', rfl, hp⟩ := i4 q u hn
          rcases hp with rfl | hp
          · exact ha.1 hc
          · have := h4.1; have := h4.2.1; simp only [Rn.e] at *; omega
      · have e1 := hat n
        have e2 := i3 n
        have e3 : At 0 (r :: noHole t) n = if r.f ≤ n ∧ n < r.e then r.s else At 0 (noHole t) n := rfl
        omega
end Go.Sym.Ex
