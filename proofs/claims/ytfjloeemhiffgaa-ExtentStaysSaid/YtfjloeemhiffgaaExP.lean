/- DERIVED. Runs: which state a place has; runs that are told by their states; joining. No program in sight. -/
import Derived.Test.YtfjloeemhiffgaaSymPlain
set_option linter.unusedVariables false
set_option linter.unusedSimpArgs false
namespace Go.Sym.Ex
structure Rn where
  f : Nat
  l : Nat
  s : Int
deriving DecidableEq
def Rn.e (r : Rn) : Nat := r.f + r.l
/-- A place's state: the first run's that has it. -/
def At (d : Int) : List Rn → Nat → Int
  | [], _ => d
  | r :: t, n => if r.f ≤ n ∧ n < r.e then r.s else At d t n
def Ord (d : Int) : Nat → List Rn → Prop
  | _, [] => True
  | b, r :: t => b ≤ r.f ∧ 1 ≤ r.l ∧ r.s ≠ d ∧ Ord d r.e t
def Adj : List Rn → Prop
  | r :: s :: t => ¬ (r.e = s.f ∧ r.s = s.s) ∧ Adj (s :: t)
  | _ => True
theorem Ord.mono {d : Int} {b b' : Nat} {l : List Rn} (h : Ord d b l) (hb : b' ≤ b) : Ord d b' l := by
  cases l with
  | nil => trivial
  | cons r t => exact ⟨Nat.le_trans hb h.1, h.2⟩
theorem at_lt {d : Int} {l : List Rn} : ∀ {b n : Nat}, Ord d b l → n < b → At d l n = d := by
  induction l with
  | nil => intro b n _ _; rfl
  | cons r t ih =>
    intro b n h hn
    obtain ⟨h1, h2, h3, h4⟩ := h
    rw [At, if_neg (by omega)]
    exact ih h4 (by unfold Rn.e; omega)
theorem at_hd {d : Int} {r : Rn} {t : List Rn} {b n : Nat} (h : Ord d b (r :: t)) (hn : n < r.f) : At d (r :: t) n = d :=
  at_lt (l := r :: t) (b := r.f) (show Ord d r.f (r :: t) from ⟨Nat.le_refl _, h.2⟩) hn
theorem at_in {d : Int} {r : Rn} {t : List Rn} {n : Nat} (h : r.f ≤ n ∧ n < r.e) : At d (r :: t) n = r.s := if_pos h
theorem at_out {d : Int} {r : Rn} {t : List Rn} {n : Nat} (h : ¬ (r.f ≤ n ∧ n < r.e)) : At d (r :: t) n = At d t n := if_neg h
theorem tail_lt {d : Int} {r s : Rn} {l m : List Rn} {b : Nat} (hl : Ord d b (r :: l)) (al : Adj (r :: l)) (hm : Ord d b (s :: m)) (e1 : r.f = s.f) (e2 : r.s = s.s) (h : ∀ n, At d (r :: l) n = At d (s :: m) n) : ¬ r.e < s.e := by
  intro hlt
  obtain ⟨_, hr, hs, ht⟩ := hl
  have h1 := h r.e
  rw [at_out (by omega), at_in (r := s) ⟨by unfold Rn.e; omega, hlt⟩] at h1
  cases l with
  | nil => rw [At] at h1; exact hm.2.2.1 h1.symm
  | cons q u =>
    have ht' := ht
    obtain ⟨hq1, hq2, hq3, hq4⟩ := ht
    by_cases hq : q.f = r.e
    · rw [at_in (r := q) ⟨by omega, by unfold Rn.e; unfold Rn.e at hq; omega⟩] at h1
      exact al.1 ⟨hq.symm, by rw [h1, e2]⟩
    · rw [at_hd ht' (by omega)] at h1
      exact hm.2.2.1 h1.symm
theorem unique {d : Int} {l : List Rn} : ∀ {m : List Rn} {b : Nat}, Ord d b l → Adj l → Ord d b m → Adj m → (∀ n, At d l n = At d m n) → l = m := by
  induction l with
  | nil =>
    intro m b _ _ hm _ h
    cases m with
    | nil => rfl
    | cons s u =>
      have := h s.f
      rw [at_in (r := s) ⟨Nat.le_refl _, by unfold Rn.e; have := hm.2.1; omega⟩, At] at this
      exact absurd this.symm hm.2.2.1
  | cons r t ih =>
    intro m b hl al hm am h
    cases m with
    | nil =>
      have := h r.f
      rw [at_in (r := r) ⟨Nat.le_refl _, by unfold Rn.e; have := hl.2.1; omega⟩, At] at this
      exact absurd this hl.2.2.1
    | cons s u =>
      have hf : r.f = s.f := by
        rcases Nat.lt_trichotomy r.f s.f with hlt | heq | hgt
        · have := h r.f
          rw [at_in (r := r) ⟨Nat.le_refl _, by unfold Rn.e; have := hl.2.1; omega⟩, at_hd hm hlt] at this
          exact absurd this hl.2.2.1
        · exact heq
        · have := h s.f
          rw [at_in (r := s) ⟨Nat.le_refl _, by unfold Rn.e; have := hm.2.1; omega⟩, at_hd hl hgt] at this
          exact absurd this.symm hm.2.2.1
      have hs : r.s = s.s := by
        have := h r.f
        rw [at_in (r := r) ⟨Nat.le_refl _, by unfold Rn.e; have := hl.2.1; omega⟩, at_in (r := s) ⟨by omega, by unfold Rn.e; have := hm.2.1; omega⟩] at this
        exact this
      have n1 := tail_lt hl al hm hf hs h
      have n2 := tail_lt hm am hl hf.symm hs.symm fun n => (h n).symm
      have he : r = s := by
        obtain ⟨a, b', c⟩ := r
        obtain ⟨a', b'', c'⟩ := s
        simp only [Rn.e] at n1 n2 hf hs
        simp only [Rn.mk.injEq]
        exact ⟨hf, by omega, hs⟩
      subst he
      have tl : ∀ {x : Rn} {v : List Rn}, Adj (x :: v) → Adj v := by
        intro x v hv
        cases v with
        | nil => trivial
        | cons y w => exact hv.2
      congr 1
      refine ih (b := r.e) hl.2.2.2 (tl al) hm.2.2.2 (tl am) fun n => ?_
      by_cases hn : n < r.e
      · rw [at_lt hl.2.2.2 hn, at_lt hm.2.2.2 hn]
      · have := h n
        rw [at_out (by omega), at_out (by omega)] at this
        exact this

/-! ### Joining -/
def jn : Rn → List Rn → List Rn
  | r, [] => [r]
  | r, s :: t => if r.e = s.f ∧ r.s = s.s then jn ⟨r.f, r.l + s.l, r.s⟩ t else r :: jn s t
def join : List Rn → List Rn
  | [] => []
  | r :: t => jn r t
theorem jn_ord {d : Int} {t : List Rn} : ∀ {r : Rn} {b : Nat}, Ord d b (r :: t) → Ord d b (jn r t) := by
  induction t with
  | nil => intro r b h; exact h
  | cons s t ih =>
    intro r b h
    obtain ⟨h1, h2, h3, g1, g2, g3, g4⟩ := h
    rw [jn]
    split
    · rename_i hc
      refine ih ⟨h1, by simp only; omega, h3, ?_⟩
      have : (⟨r.f, r.l + s.l, r.s⟩ : Rn).e = s.e := by simp only [Rn.e] at hc ⊢; omega
      rw [this]; exact g4
    · exact ⟨h1, h2, h3, ih ⟨g1, g2, g3, g4⟩⟩
theorem jn_head {t : List Rn} : ∀ {r : Rn}, ∃ l' t', jn r t = ⟨r.f, l', r.s⟩ :: t' := by
  induction t with
  | nil => intro r; exact ⟨r.l, [], rfl⟩
  | cons s t ih =>
    intro r
    rw [jn]
    split
    · exact ih
    · exact ⟨r.l, jn s t, rfl⟩
theorem jn_adj {t : List Rn} : ∀ {r : Rn}, Adj (jn r t) := by
  induction t with
  | nil => intro r; trivial
  | cons s t ih =>
    intro r
    rw [jn]
    split
    · exact ih
    · rename_i hc
      obtain ⟨l', t', e⟩ := jn_head (t := t) (r := s)
      have := ih (r := s)
      rw [e] at this ⊢
      exact ⟨hc, this⟩
theorem jn_at {d : Int} {t : List Rn} : ∀ {r : Rn} {b : Nat}, Ord d b (r :: t) → ∀ n, At d (jn r t) n = At d (r :: t) n := by
  induction t with
  | nil => intro r b _ n; rfl
  | cons s t ih =>
    intro r b h n
    obtain ⟨h1, h2, h3, g1, g2, g3, g4⟩ := h
    rw [jn]
    split
    · rename_i hc
      have he : (⟨r.f, r.l + s.l, r.s⟩ : Rn).e = s.e := by simp only [Rn.e] at hc ⊢; omega
      rw [ih (r := ⟨r.f, r.l + s.l, r.s⟩) (b := b) ⟨h1, by simp only; omega, h3, by rw [he]; exact g4⟩ n]
      simp only [At, he]
      by_cases a1 : r.f ≤ n ∧ n < r.e
      · rw [if_pos a1, if_pos ⟨a1.1, by simp only [Rn.e] at *; omega⟩]
      · rw [if_neg a1]
        by_cases a2 : s.f ≤ n ∧ n < s.e
        · rw [if_pos a2, if_pos ⟨by simp only [Rn.e] at *; omega, a2.2⟩]; exact hc.2
        · rw [if_neg a2, if_neg (by simp only [Rn.e] at *; omega)]
    · simp only [At]
      rw [ih ⟨g1, g2, g3, g4⟩ n]
      rfl
theorem join_ord {d : Int} {b : Nat} {t : List Rn} (h : Ord d b t) : Ord d b (join t) := by
  cases t with
  | nil => exact h
  | cons r t => exact jn_ord h
theorem join_adj {t : List Rn} : Adj (join t) := by
  cases t with
  | nil => trivial
  | cons r t => exact jn_adj
theorem join_at {d : Int} {b : Nat} {t : List Rn} (h : Ord d b t) (n : Nat) : At d (join t) n = At d t n := by
  cases t with
  | nil => rfl
  | cons r t => exact jn_at h n
end Go.Sym.Ex
