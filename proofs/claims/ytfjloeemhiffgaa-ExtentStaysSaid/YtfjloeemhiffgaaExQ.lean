/- DERIVED. Runs: cut at a span's ends, holes filled, told from the places where a state may change. No program in sight. -/
import Derived.Test.YtfjloeemhiffgaaExP
set_option linter.unusedVariables false
set_option linter.unusedSimpArgs false
namespace Go.Sym.Ex

/-! ### Order of lists put together -/
/-- Behind the last run. -/
def lastE (b : Nat) : List Rn → Nat
  | [] => b
  | r :: t => lastE r.e t
theorem lastE_ge {d : Int} {l : List Rn} : ∀ {b : Nat}, Ord d b l → b ≤ lastE b l := by
  induction l with
  | nil => intro b _; exact Nat.le_refl _
  | cons r t ih =>
    intro b h
    have := ih h.2.2.2
    have h1 := h.1
    simp only [lastE]
    unfold Rn.e at *
    omega
theorem ord_append {d : Int} {l m : List Rn} : ∀ {b : Nat}, Ord d b (l ++ m) ↔ Ord d b l ∧ Ord d (lastE b l) m := by
  induction l with
  | nil => intro b; simp [Ord, lastE]
  | cons r t ih => intro b; simp only [List.cons_append, Ord, lastE, ih, and_assoc]
theorem lastE_append {l m : List Rn} : ∀ {b : Nat}, lastE b (l ++ m) = lastE (lastE b l) m := by
  induction l with
  | nil => intro b; rfl
  | cons r t ih => intro b; simp only [List.cons_append, lastE, ih]
theorem at_ge {d : Int} {l : List Rn} : ∀ {b n : Nat}, Ord d b l → lastE b l ≤ n → At d l n = d := by
  induction l with
  | nil => intro b n _ _; rfl
  | cons r t ih =>
    intro b n h hn
    have := lastE_ge h.2.2.2
    simp only [lastE] at hn
    rw [At, if_neg (by omega)]
    exact ih h.2.2.2 hn
theorem at_append {d : Int} {l m : List Rn} : ∀ {b n : Nat}, Ord d b l → (∀ r ∈ l, r.s ≠ d) → At d (l ++ m) n = if At d l n = d then At d m n else At d l n := by
  induction l with
  | nil => intro b n _ _; simp [At]
  | cons r t ih =>
    intro b n h hs
    rw [List.cons_append]
    by_cases hc : r.f ≤ n ∧ n < r.e
    · have h1 : At d (r :: t) n = r.s := if_pos hc
      have h2 : At d (r :: (t ++ m)) n = r.s := if_pos hc
      rw [h1, h2, if_neg (hs r (List.mem_cons_self ..))]
    · have h1 : At d (r :: t) n = At d t n := if_neg hc
      have h2 : At d (r :: (t ++ m)) n = At d (t ++ m) n := if_neg hc
      rw [h1, h2]
      exact ih h.2.2.2 fun r hr => hs r (List.mem_cons_of_mem _ hr)
theorem ord_ne {d : Int} {l : List Rn} : ∀ {b : Nat}, Ord d b l → ∀ r ∈ l, r.s ≠ d := by
  induction l with
  | nil => intro b _ r hr; cases hr
  | cons r t ih =>
    intro b h q hq
    rcases List.mem_cons.1 hq with rfl | hq
    · exact h.2.2.1
    · exact ih h.2.2.2 q hq
theorem at_app {d : Int} {l m : List Rn} {b n : Nat} (h : Ord d b (l ++ m)) : At d (l ++ m) n = if n < lastE b l then At d l n else At d m n := by
  have h2 := ord_append.1 h
  rw [at_append h2.1 (ord_ne h2.1)]
  split
  · rename_i h3
    split
    · rename_i h4; rw [h3]; exact at_lt h2.2 h4
    · rfl
  · rename_i h3
    split
    · rfl
    · rename_i h4; exact absurd (at_ge h2.1 (by omega)) h3

/-! ### What may be -/
def M : Nat := 576460752303423488
def one (r : Rn) : Bool := decide (1 ≤ r.l ∧ r.e ≤ M ∧ (r.s = 1 ∨ r.s = 2))
/-- A run may follow another one. -/
def fol : Option Rn → Rn → Bool
  | none, _ => true
  | some p, r => decide (p.e ≤ r.f ∧ ¬(p.e = r.f ∧ p.s = r.s))
def chk : Option Rn → List Rn → Bool
  | _, [] => true
  | p, r :: t => one r && fol p r && chk (some r) t
def right (l : List Rn) : Bool := chk none l && decide (l.length ≤ 64)
/-- What is right, told otherwise. -/
structure Rt (l : List Rn) : Prop where
  ord : Ord 0 0 l
  adj : Adj l
  one : ∀ r ∈ l, 1 ≤ r.l ∧ r.e ≤ M ∧ (r.s = 1 ∨ r.s = 2)
  len : l.length ≤ 64
theorem chk_some {l : List Rn} : ∀ {p : Rn}, chk (some p) l = true ↔ Ord 0 p.e l ∧ Adj (p :: l) ∧ ∀ r ∈ l, 1 ≤ r.l ∧ r.e ≤ M ∧ (r.s = 1 ∨ r.s = 2) := by
  induction l with
  | nil => intro p; simp [chk, Ord, Adj]
  | cons r t ih =>
    intro p
    simp only [chk, Bool.and_eq_true, one, fol, decide_eq_true_eq, ih, Ord, Adj, List.mem_cons, forall_eq_or_imp]
    constructor
    · rintro ⟨⟨⟨h1, h2, h3⟩, h4, h5⟩, h6, h7, h8⟩
      exact ⟨⟨h4, h1, by rcases h3 with h | h <;> omega, h6⟩, ⟨h5, h7⟩, ⟨h1, h2, h3⟩, h8⟩
    · rintro ⟨⟨h4, h1, h9, h6⟩, ⟨h5, h7⟩, ⟨_, h2, h3⟩, h8⟩
      exact ⟨⟨⟨h1, h2, h3⟩, h4, h5⟩, h6, h7, h8⟩
theorem right_iff {l : List Rn} : right l = true ↔ Rt l := by
  unfold right
  rw [Bool.and_eq_true, decide_eq_true_eq]
  cases l with
  | nil => exact ⟨fun h => ⟨trivial, trivial, (fun r hr => by cases hr), h.2⟩, fun h => ⟨rfl, h.len⟩⟩
  | cons r t =>
    simp only [chk, fol, Bool.and_true, Bool.and_eq_true, one, decide_eq_true_eq, chk_some]
    constructor
    · rintro ⟨⟨⟨h1, h2, h3⟩, h4, h5, h6⟩, h7⟩
      exact ⟨⟨Nat.zero_le _, h1, by rcases h3 with h | h <;> omega, h4⟩, h5, (fun q hq => by
        rcases List.mem_cons.1 hq with rfl | hq
        · exact ⟨h1, h2, h3⟩
        · exact h6 q hq), h7⟩
    · rintro ⟨⟨_, h1, h2, h3⟩, h4, h5, h6⟩
      exact ⟨⟨h5 r (List.mem_cons_self ..), h3, h4, fun q hq => h5 q (List.mem_cons_of_mem _ hq)⟩, h6⟩
theorem at_val {l : List Rn} (h : ∀ r ∈ l, 1 ≤ r.l ∧ r.e ≤ M ∧ (r.s = 1 ∨ r.s = 2)) (n : Nat) : At 0 l n = 0 ∨ At 0 l n = 1 ∨ At 0 l n = 2 := by
  induction l with
  | nil => exact .inl rfl
  | cons r t ih =>
    rw [At]
    split
    · exact .inr (h r (List.mem_cons_self ..)).2.2
    · exact ih fun q hq => h q (List.mem_cons_of_mem _ hq)
theorem at_M {l : List Rn} (h : ∀ r ∈ l, 1 ≤ r.l ∧ r.e ≤ M ∧ (r.s = 1 ∨ r.s = 2)) {n : Nat} (hn : M ≤ n) : At 0 l n = 0 := by
  induction l with
  | nil => rfl
  | cons r t ih =>
    rw [At, if_neg (by have := (h r (List.mem_cons_self ..)).2.1; omega)]
    exact ih fun q hq => h q (List.mem_cons_of_mem _ hq)

/-! ### Parts -/
def pA (a : Nat) : List Rn → List Rn
  | [] => []
  | r :: t => if r.f < a then ⟨r.f, min r.e a - r.f, r.s⟩ :: pA a t else pA a t
def pI (a b : Nat) : List Rn → List Rn
  | [] => []
  | r :: t => if max r.f a < min r.e b then ⟨max r.f a, min r.e b - max r.f a, r.s⟩ :: pI a b t else pI a b t
def pB (b : Nat) : List Rn → List Rn
  | [] => []
  | r :: t => if b < r.e then ⟨max r.f b, r.e - max r.f b, r.s⟩ :: pB b t else pB b t
theorem pA_len (a : Nat) (l : List Rn) : (pA a l).length ≤ l.length := by
  induction l with
  | nil => exact Nat.le_refl _
  | cons r t ih => simp only [pA]; split <;> simp <;> omega
theorem pI_len (a b : Nat) (l : List Rn) : (pI a b l).length ≤ l.length := by
  induction l with
  | nil => exact Nat.le_refl _
  | cons r t ih => simp only [pI]; split <;> simp <;> omega
theorem pB_len (b : Nat) (l : List Rn) : (pB b l).length ≤ l.length := by
  induction l with
  | nil => exact Nat.le_refl _
  | cons r t ih => simp only [pB]; split <;> simp <;> omega
theorem pA_ord {a : Nat} {l : List Rn} : ∀ {b : Nat}, Ord 0 b l → Ord 0 b (pA a l) ∧ (∀ r ∈ pA a l, r.e ≤ a) ∧ ∀ n, At 0 (pA a l) n = if n < a then At 0 l n else 0 := by
  induction l with
  | nil => intro b _; exact ⟨trivial, (fun r hr => by cases hr), fun n => by simp [pA, At]⟩
  | cons r t ih =>
    intro b h
    obtain ⟨h1, h2, h3, h4⟩ := h
    obtain ⟨i1, i2, i3⟩ := ih h4
    rw [pA]
    split
    · rename_i hc
      have he : (⟨r.f, min r.e a - r.f, r.s⟩ : Rn).e = min r.e a := by simp only [Rn.e]; omega
      refine ⟨⟨h1, by simp only [Rn.e]; omega, h3, ?_⟩, fun q hq => ?_, fun n => ?_⟩
      · rw [he]; exact i1.mono (by omega)
      · rcases List.mem_cons.1 hq with rfl | hq
        · rw [he]; omega
        · exact i2 q hq
      · simp only [At, he, i3]
        by_cases g1 : r.f ≤ n ∧ n < r.e
        · rw [if_pos g1]
          by_cases g2 : n < a
          · rw [if_pos ⟨g1.1, by omega⟩, if_pos g2]
          · rw [if_neg (by omega), if_neg g2, if_neg g2]
        · rw [if_neg g1, if_neg (by omega)]
    · rename_i hc
      refine ⟨i1.mono (by simp only [Rn.e]; omega), i2, fun n => ?_⟩
      rw [i3, At]
      by_cases g2 : n < a
      · rw [if_pos g2, if_pos g2, if_neg (by omega)]
      · rw [if_neg g2, if_neg g2]
theorem pI_ord {a b : Nat} {l : List Rn} : ∀ {c : Nat}, Ord 0 c l → Ord 0 (max c a) (pI a b l) ∧ (∀ r ∈ pI a b l, r.e ≤ b) ∧ ∀ n, At 0 (pI a b l) n = if a ≤ n ∧ n < b then At 0 l n else 0 := by
  induction l with
  | nil => intro c _; exact ⟨trivial, (fun r hr => by cases hr), fun n => by simp [pI, At]⟩
  | cons r t ih =>
    intro c h
    obtain ⟨h1, h2, h3, h4⟩ := h
    obtain ⟨i1, i2, i3⟩ := ih h4
    rw [pI]
    split
    · rename_i hc
      have he : (⟨max r.f a, min r.e b - max r.f a, r.s⟩ : Rn).e = min r.e b := by simp only [Rn.e] at *; omega
      refine ⟨⟨by simp only; omega, by simp only; omega, h3, ?_⟩, fun q hq => ?_, fun n => ?_⟩
      · rw [he]; exact i1.mono (by omega)
      · rcases List.mem_cons.1 hq with rfl | hq
        · rw [he]; omega
        · exact i2 q hq
      · simp only [At, he, i3]
        by_cases g1 : r.f ≤ n ∧ n < r.e
        · rw [if_pos g1]
          by_cases g2 : a ≤ n ∧ n < b
          · rw [if_pos ⟨by omega, by omega⟩, if_pos g2]
          · rw [if_neg (by omega), if_neg g2, if_neg g2]
        · rw [if_neg g1, if_neg (by omega)]
    · rename_i hc
      refine ⟨i1.mono (by simp only [Rn.e]; omega), i2, fun n => ?_⟩
      rw [i3, At]
      by_cases g2 : a ≤ n ∧ n < b
      · rw [if_pos g2, if_pos g2, if_neg (by omega)]
      · rw [if_neg g2, if_neg g2]
theorem pB_ord {b : Nat} {l : List Rn} : ∀ {c : Nat}, Ord 0 c l → Ord 0 (max c b) (pB b l) ∧ ∀ n, At 0 (pB b l) n = if b ≤ n then At 0 l n else 0 := by
  induction l with
  | nil => intro c _; exact ⟨trivial, fun n => by simp [pB, At]⟩
  | cons r t ih =>
    intro c h
    obtain ⟨h1, h2, h3, h4⟩ := h
    obtain ⟨i1, i3⟩ := ih h4
    have hre : r.f < r.e := by simp only [Rn.e]; omega
    rw [pB]
    split
    · rename_i hc
      have he : (⟨max r.f b, r.e - max r.f b, r.s⟩ : Rn).e = r.e := by simp only [Rn.e] at *; omega
      refine ⟨⟨by simp only; omega, by simp only; omega, h3, ?_⟩, fun n => ?_⟩
      · rw [he]; exact i1.mono (by omega)
      · simp only [At, he, i3]
        by_cases g1 : r.f ≤ n ∧ n < r.e
        · rw [if_pos g1]
          by_cases g2 : b ≤ n
          · rw [if_pos ⟨by omega, by omega⟩, if_pos g2]
          · rw [if_neg (by omega), if_neg g2, if_neg g2]
        · rw [if_neg g1, if_neg (by omega)]
    · rename_i hc
      refine ⟨i1.mono (by omega), fun n => ?_⟩
      rw [i3, At]
      by_cases g2 : b ≤ n
      · rw [if_pos g2, if_pos g2, if_neg (by omega)]
      · rw [if_neg g2, if_neg g2]
theorem lastE_le {l : List Rn} {a : Nat} : ∀ {c : Nat}, c ≤ a → (∀ r ∈ l, r.e ≤ a) → lastE c l ≤ a := by
  induction l with
  | nil => intro c h _; exact h
  | cons r t ih => intro c _ h; exact ih (h r (List.mem_cons_self ..)) fun q hq => h q (List.mem_cons_of_mem _ hq)
/-- A state put. -/
def New (l : List Rn) (a b : Nat) (s : Int) (n : Nat) : Int := if a ≤ n ∧ n < b then s else At 0 l n
def putL (l : List Rn) (a b : Nat) (s : Int) : List Rn := pA a l ++ ((if s = 0 then [] else [⟨a, b - a, s⟩]) ++ pB b l)
theorem putL_ord {l : List Rn} {a b : Nat} {s : Int} (h : Ord 0 0 l) (hab : a < b) : Ord 0 0 (putL l a b s) ∧ ∀ n, At 0 (putL l a b s) n = New l a b s n := by
  obtain ⟨a1, a2, a3⟩ := pA_ord (a := a) h
  obtain ⟨b1, b3⟩ := pB_ord (b := b) h
  have hle := lastE_le (l := pA a l) (Nat.zero_le a) a2
  have hge := lastE_ge a1
  have main : Ord 0 (lastE 0 (pA a l)) ((if s = 0 then [] else [⟨a, b - a, s⟩]) ++ pB b l) := by
    split
    · exact b1.mono (by omega)
    · rename_i hs
      refine ⟨hle, by simp only; omega, hs, ?_⟩
      exact b1.mono (by simp only [Rn.e]; omega)
  have ho : Ord 0 0 (putL l a b s) := ord_append.2 ⟨a1, main⟩
  have mid : ∀ n, At 0 ((if s = 0 then [] else [⟨a, b - a, s⟩]) ++ pB b l) n = if a ≤ n ∧ n < b then s else if b ≤ n then At 0 l n else 0 := by
    intro n
    by_cases hs : s = 0
    · rw [if_pos hs, List.nil_append, b3, hs]
      omega
    · rw [if_neg hs, List.singleton_append]
      by_cases g : a ≤ n ∧ n < b
      · rw [if_pos g]; exact if_pos ⟨g.1, by simp only [Rn.e]; omega⟩
      · have : At 0 (⟨a, b - a, s⟩ :: pB b l) n = At 0 (pB b l) n := if_neg (by simp only [Rn.e]; omega)
        rw [this, b3, if_neg g]
  refine ⟨ho, fun n => ?_⟩
  unfold putL New
  rw [at_append a1 (ord_ne a1), a3, mid]
  omega
theorem putL_len (l : List Rn) (a b : Nat) (s : Int) : (putL l a b s).length ≤ 2 * l.length + 1 := by
  have h1 := pA_len a l
  have h2 := pB_len b l
  unfold putL
  split <;> simp <;> omega
theorem pA_one {l : List Rn} {a : Nat} (h : ∀ r ∈ l, 1 ≤ r.l ∧ r.e ≤ M ∧ (r.s = 1 ∨ r.s = 2)) : ∀ r ∈ pA a l, 1 ≤ r.l ∧ r.e ≤ M ∧ (r.s = 1 ∨ r.s = 2) := by
  induction l with
  | nil => exact h
  | cons r t ih =>
    have i := ih fun q hq => h q (List.mem_cons_of_mem _ hq)
    have g := h r (List.mem_cons_self ..)
    rw [pA]
    split
    · intro q hq
      rcases List.mem_cons.1 hq with rfl | hq
      · refine ⟨?_, ?_, g.2.2⟩ <;> simp only [Rn.e] at * <;> omega
      · exact i q hq
    · exact i
theorem pB_one {l : List Rn} {b : Nat} (h : ∀ r ∈ l, 1 ≤ r.l ∧ r.e ≤ M ∧ (r.s = 1 ∨ r.s = 2)) : ∀ r ∈ pB b l, 1 ≤ r.l ∧ r.e ≤ M ∧ (r.s = 1 ∨ r.s = 2) := by
  induction l with
  | nil => exact h
  | cons r t ih =>
    have i := ih fun q hq => h q (List.mem_cons_of_mem _ hq)
    have g := h r (List.mem_cons_self ..)
    rw [pB]
    split
    · intro q hq
      rcases List.mem_cons.1 hq with rfl | hq
      · refine ⟨?_, ?_, g.2.2⟩ <;> simp only [Rn.e] at * <;> omega
      · exact i q hq
    · exact i
theorem pI_one {l : List Rn} {a b : Nat} (h : ∀ r ∈ l, 1 ≤ r.l ∧ r.e ≤ M ∧ (r.s = 1 ∨ r.s = 2)) : ∀ r ∈ pI a b l, 1 ≤ r.l ∧ r.e ≤ M ∧ (r.s = 1 ∨ r.s = 2) := by
  induction l with
  | nil => exact h
  | cons r t ih =>
    have i := ih fun q hq => h q (List.mem_cons_of_mem _ hq)
    have g := h r (List.mem_cons_self ..)
    rw [pI]
    split
    · intro q hq
      rcases List.mem_cons.1 hq with rfl | hq
      · refine ⟨?_, ?_, g.2.2⟩ <;> simp only [Rn.e] at * <;> omega
      · exact i q hq
    · exact i
theorem putL_one {l : List Rn} {a b : Nat} {s : Int} (h : ∀ r ∈ l, 1 ≤ r.l ∧ r.e ≤ M ∧ (r.s = 1 ∨ r.s = 2)) (hab : a < b) (hb : b ≤ M) (hs : s = 0 ∨ s = 1 ∨ s = 2) : ∀ r ∈ putL l a b s, 1 ≤ r.l ∧ r.e ≤ M ∧ (r.s = 1 ∨ r.s = 2) := by
  intro r hr
  unfold putL at hr
  rcases List.mem_append.1 hr with hr | hr
  · exact pA_one h r hr
  rcases List.mem_append.1 hr with hr | hr
  · split at hr
    · cases hr
    · rcases List.mem_singleton.1 hr with rfl
      refine ⟨?_, ?_, ?_⟩ <;> simp only [Rn.e] <;> omega
  · exact pB_one h r hr
theorem jn_one {t : List Rn} : ∀ {r : Rn}, (∀ q ∈ r :: t, 1 ≤ q.l ∧ q.e ≤ M ∧ (q.s = 1 ∨ q.s = 2)) → ∀ q ∈ jn r t, 1 ≤ q.l ∧ q.e ≤ M ∧ (q.s = 1 ∨ q.s = 2) := by
  induction t with
  | nil => intro r h; exact h
  | cons s t ih =>
    intro r h
    rw [jn]
    have h1 := h r (List.mem_cons_self ..)
    have h2 := h s (List.mem_cons_of_mem _ (List.mem_cons_self ..))
    split
    · rename_i hc
      refine ih fun q hq => ?_
      rcases List.mem_cons.1 hq with rfl | hq
      · refine ⟨?_, ?_, h1.2.2⟩ <;> simp only [Rn.e] at * <;> omega
      · exact h q (List.mem_cons_of_mem _ (List.mem_cons_of_mem _ hq))
    · intro q hq
      rcases List.mem_cons.1 hq with rfl | hq
      · exact h1
      · exact ih (fun q hq => h q (List.mem_cons_of_mem _ hq)) q hq
theorem join_one {l : List Rn} (h : ∀ q ∈ l, 1 ≤ q.l ∧ q.e ≤ M ∧ (q.s = 1 ∨ q.s = 2)) : ∀ q ∈ join l, 1 ≤ q.l ∧ q.e ≤ M ∧ (q.s = 1 ∨ q.s = 2) := by
  cases l with
  | nil => exact h
  | cons r t => exact jn_one h
theorem jn_len {t : List Rn} : ∀ {r : Rn}, (jn r t).length ≤ t.length + 1 := by
  induction t with
  | nil => intro r; exact Nat.le_refl _
  | cons s t ih =>
    intro r
    rw [jn]
    split
    · have := ih (r := ⟨r.f, r.l + s.l, r.s⟩); simp; omega
    · have := ih (r := s); simp; omega
theorem join_len (l : List Rn) : (join l).length ≤ l.length := by
  cases l with
  | nil => exact Nat.le_refl _
  | cons r t => exact jn_len

/-! ### Holes -/
def fill (b : Nat) : Nat → List Rn → List Rn
  | now, [] => if now < b then [⟨now, b - now, 0⟩] else []
  | now, r :: t => (if now < r.f then [⟨now, r.f - now, 0⟩] else []) ++ r :: fill b r.e t
theorem fill_head {b : Nat} {now : Nat} {l : List Rn} {q : Rn} {u : List Rn} (h : fill b now l = q :: u) (ho : Ord 0 now l) : q.f = now ∧ (q.s = 0 ∨ ∃ t, l = q :: t) := by
  cases l with
  | nil =>
    rw [fill] at h
    split at h
    · injection h with h1 h2; subst h1; exact ⟨rfl, .inl rfl⟩
    · cases h
  | cons r t =>
    rw [fill] at h
    split at h
    · injection h with h1 h2; subst h1; exact ⟨rfl, .inl rfl⟩
    · injection h with h1 h2; subst h1; exact ⟨by have := ho.1; omega, .inr ⟨t, rfl⟩⟩
theorem fill_ok {b : Nat} {l : List Rn} : ∀ {now : Nat}, Ord 0 now l → Adj l → (∀ r ∈ l, r.e ≤ b ∧ (r.s = 1 ∨ r.s = 2)) → now ≤ b →
    Ord (-1) now (fill b now l) ∧ Adj (fill b now l) ∧ ∀ n, At (-1) (fill b now l) n = if now ≤ n ∧ n < b then At 0 l n else -1 := by
  induction l with
  | nil =>
    intro now _ _ _ hb
    rw [fill]
    split
    · refine ⟨⟨Nat.le_refl _, by simp only; omega, (fun h => by simp at h), trivial⟩, trivial, fun n => ?_⟩
      by_cases h : now ≤ n ∧ n < b
      · rw [at_in ⟨h.1, by simp only [Rn.e]; omega⟩, if_pos h]; rfl
      · rw [at_out (by simp only [Rn.e]; omega), if_neg h]; rfl
    · exact ⟨trivial, trivial, fun n => by rw [if_neg (by omega)]; rfl⟩
  | cons r t ih =>
    intro now h ha hs hb
    have hr := hs r (List.mem_cons_self ..)
    have ha2 : Adj t := by
      cases t with
      | nil => trivial
      | cons y w => exact ha.2
    obtain ⟨i1, i2, i3⟩ := ih h.2.2.2 ha2 (fun q hq => hs q (List.mem_cons_of_mem _ hq)) hr.1
    obtain ⟨h1, h2, h3, h4⟩ := h
    have hre : r.f < r.e := by simp only [Rn.e]; omega
    have hadj : Adj (r :: fill b r.e t) := by
      cases hf : fill b r.e t with
      | nil => trivial
      | cons q u =>
        rw [hf] at i2
        refine ⟨fun hc => ?_, i2⟩
        obtain ⟨e1, e2⟩ := fill_head hf h4
        rcases e2 with e2 | ⟨t', rfl⟩
        · rw [e2] at hc; omega
        · exact ha.1 hc
    have hat : ∀ n, At (-1) (r :: fill b r.e t) n = if r.f ≤ n ∧ n < b then At 0 (r :: t) n else -1 := by
      intro n
      simp only [At, i3]
      by_cases g : r.f ≤ n ∧ n < r.e
      · rw [if_pos g, if_pos g, if_pos (by omega)]
      · rw [if_neg g, if_neg g]
        by_cases g2 : r.e ≤ n ∧ n < b
        · rw [if_pos g2, if_pos (by omega)]
        · rw [if_neg g2, if_neg (by omega)]
    rw [fill]
    split
    · rename_i hc
      have he : (⟨now, r.f - now, 0⟩ : Rn).e = r.f := by simp only [Rn.e]; omega
      refine ⟨⟨Nat.le_refl _, by simp only; omega, (by decide : (0 : Int) ≠ -1), ?_⟩, ⟨fun hc => ?_, hadj⟩, fun n => ?_⟩
      · rw [he]; exact ⟨Nat.le_refl _, h2, by omega, i1⟩
      · simp only at hc; omega
      · rw [List.singleton_append, At, he, hat]
        by_cases g : now ≤ n ∧ n < r.f
        · rw [if_pos g, if_pos (by omega), At, if_neg (by omega)]
          exact (at_lt h4 (by omega)).symm
        · rw [if_neg g]
          by_cases g2 : r.f ≤ n ∧ n < b
          · rw [if_pos g2, if_pos (by omega)]
          · rw [if_neg g2, if_neg (by omega)]
    · rename_i hc
      have e : now = r.f := by omega
      refine ⟨⟨h1, h2, by omega, i1⟩, hadj, fun n => ?_⟩
      rw [List.nil_append, hat, e]
theorem fill_len {b : Nat} {l : List Rn} : ∀ {now : Nat}, (fill b now l).length ≤ 2 * l.length + 1 := by
  induction l with
  | nil => intro now; rw [fill]; split <;> simp
  | cons r t ih => intro now; have := ih (now := r.e); rw [fill]; split <;> simp <;> omega
/-- A span's runs. -/
def qry (l : List Rn) (a b : Nat) : List Rn := fill b a (join (pI a b l))
theorem qry_ok {l : List Rn} {a b : Nat} (h : Rt l) (hab : a < b) : Ord (-1) a (qry l a b) ∧ Adj (qry l a b) ∧ ∀ n, At (-1) (qry l a b) n = if a ≤ n ∧ n < b then At 0 l n else -1 := by
  obtain ⟨h1, h2, h3⟩ := pI_ord (a := a) (b := b) h.ord
  have h1' : Ord 0 a (pI a b l) := h1.mono (by omega)
  have hj := join_ord h1'
  have hone := join_one (pI_one (a := a) (b := b) h.one)
  have hle : ∀ r ∈ join (pI a b l), r.e ≤ b := by
    intro r hr
    rcases Nat.lt_or_ge b r.e with hlt | hge
    · exfalso
      have hat := join_at h1' (r.e - 1)
      have hin : At 0 (join (pI a b l)) (r.e - 1) = 0 := by rw [hat, h3, if_neg (by omega)]
      have key : ∀ {m : List Rn} {c : Nat}, Ord 0 c m → r ∈ m → At 0 m (r.e - 1) = r.s := by
        intro m
        induction m with
        | nil => intro c _ hm; cases hm
        | cons x v ih =>
          intro c ho hm
          rcases List.mem_cons.1 hm with rfl | hm
          · have := ho.2.1; rw [at_in (by simp only [Rn.e]; omega)]
          · have := ih ho.2.2.2 hm
            have hx := ho.2.1
            have hb := ho.2.2.2
            rw [At, if_neg, this]
            intro hc
            have := at_lt hb (n := r.e - 1) (by omega)
            have h5 := (hone r hr).2.2
            omega
      have := key hj hr
      have h5 := (hone r hr).2.2
      omega
    · exact hge
  obtain ⟨k1, k2, k3⟩ := fill_ok (b := b) (now := a) hj join_adj (fun r hr => ⟨hle r hr, (hone r hr).2.2⟩) (by omega)
  refine ⟨k1, k2, fun n => ?_⟩
  unfold qry
  rw [k3]
  by_cases g : a ≤ n ∧ n < b
  · rw [if_pos g, if_pos g, join_at h1', h3, if_pos g]
  · rw [if_neg g, if_neg g]
/-- A state put, as runs. -/
def put (l : List Rn) (a b : Nat) (s : Int) : List Rn := join (putL l a b s)
theorem put_ok {l : List Rn} {a b : Nat} {s : Int} (h : Rt l) (hab : a < b) (hb : b ≤ M) (hs : s = 0 ∨ s = 1 ∨ s = 2) :
    Ord 0 0 (put l a b s) ∧ Adj (put l a b s) ∧ (∀ r ∈ put l a b s, 1 ≤ r.l ∧ r.e ≤ M ∧ (r.s = 1 ∨ r.s = 2)) ∧ ∀ n, At 0 (put l a b s) n = New l a b s n := by
  obtain ⟨h1, h2⟩ := putL_ord (s := s) h.ord hab
  exact ⟨join_ord h1, join_adj, join_one (putL_one h.one hab hb hs), fun n => by unfold put; rw [join_at h1, h2]⟩
end Go.Sym.Ex
