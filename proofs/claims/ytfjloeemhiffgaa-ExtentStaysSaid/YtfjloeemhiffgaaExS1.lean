/-
  Extents, plainly: which runs may be, which are the same, a block's state, how many blocks.
-/
import Derived.Test.YtfjloeemhiffgaaExF
import Derived.Test.YtfjloeemhiffgaaExR
set_option linter.unusedVariables false
set_option linter.unusedSimpArgs false
set_option maxRecDepth 100000
namespace Go.Proofs
open Go Go.Sym Go.Sym.Ex

def rv (r : Rn) : V := V.agg [V.int .u64 (r.f : Int), V.int .u64 (r.l : Int), V.int .i64 r.s]
structure Wf (r : Rn) : Prop where
  f : r.f < 18446744073709551616
  l : r.l < 18446744073709551616
theorem drv (r : Rn) : dAu64u64i64Z (rv r) = some ((r.f : Int), (r.l : Int), r.s) := rfl
theorem at_rv {l : List Rn} {i : Nat} (h : i < l.length) : (at? (l.map rv) (i : Int)).bind dAu64u64i64Z = some ((l[i].f : Int), (l[i].l : Int), l[i].s) := by
  rw [at_map h]; rfl
theorem get_rv {l : List Rn} {i : Nat} (h : i < l.length) : ((l.map rv)[i]?).bind dAu64u64i64Z = some ((l[i].f : Int), (l[i].l : Int), l[i].s) := by
  rw [List.getElem?_map, List.getElem?_eq_getElem h]; rfl
theorem g79 {k : Nat} {a b c : Int} : F79 k a b c = some (IntKind.u64.wrap (a + b)) := rfl
theorem g71 {k : Nat} {s : Int} : F71 k s = some (decide (s = 1 ∨ s = 2)) := by
  unfold F71
  by_cases h : s = 1
  · rw [cT h, dec_t (.inl h)]
  · rw [cF h]; congr 1; rw [decide_eq_decide]; exact ⟨.inr, fun h2 => h2.resolve_left h⟩
/-- The run ahead of a place. -/
def prev (l : List Rn) (i : Nat) : Option Rn := if i = 0 then none else l[i - 1]?
theorem prev_succ {l : List Rn} {i : Nat} (h : i < l.length) : prev l (i + 1) = some l[i] := by
  unfold prev; rw [if_neg (by omega), Nat.add_sub_cancel, List.getElem?_eq_getElem h]
theorem chk_step {l : List Rn} {i : Nat} (h : i < l.length) : chk (prev l i) (l.drop i) = (one l[i] && fol (prev l i) l[i] && chk (prev l (i + 1)) (l.drop (i + 1))) := by
  rw [List.drop_eq_getElem_cons h, prev_succ h]; rfl
def is45 : L45_0_R → Bool
  | .e7 _ => true
  | _ => false
theorem L45_run {k : Nat} {b : Bool} {o : Option Bool} {l : List Rn} (hl : l.length ≤ 1000) (hw : ∀ r ∈ l, Wf r) : ∀ (c i f : Nat), l.length - i = c → i ≤ l.length → c < f → (∀ p, prev l i = some p → one p = true) →
    ∃ r, L45_0 k b (l.map rv) o 3 f (i : Int) = some r ∧ is45 r = chk (prev l i) (l.drop i) := by
  intro c
  induction c with
  | zero =>
    intro i f hc hi hf hpo
    obtain ⟨f, rfl⟩ : ∃ g, f = g + 1 := ⟨f - 1, by omega⟩
    refine ⟨.e7 i, ?_, ?_⟩
    · rw [L45_0, List.length_map, cF (by omega)]
    · rw [List.drop_of_length_le (by omega)]; rfl
  | succ c ih =>
    intro i f hc hi hf hpo
    obtain ⟨f, rfl⟩ : ∃ g, f = g + 1 := ⟨f - 1, by omega⟩
    have hi2 : i < l.length := by omega
    have hwi := hw l[i] (List.getElem_mem hi2)
    have hwf := hwi.f
    have hwl := hwi.l
    have en : IntKind.i64.wrap ((i : Int) + 1) = ((i + 1 : Nat) : Int) := by rw [wi (by omega) (by omega)]; omega
    rw [chk_step hi2]
    rw [L45_0, List.length_map, cT (by omega), gp rfl, at_rv hi2, Option.bind_some]
    simp only
    have hE : l[i].e = l[i].f + l[i].l := rfl
    have no (h : one l[i] = false) : ∀ x : L45_0_R, is45 x = false → ∃ r, some x = some r ∧ is45 r = (one l[i] && fol (prev l i) l[i] && chk (prev l (i + 1)) (l.drop (i + 1))) := fun x hx => ⟨x, rfl, by rw [hx, h]; rfl⟩
    have no2 (h : fol (prev l i) l[i] = false) : ∀ x : L45_0_R, is45 x = false → ∃ r, some x = some r ∧ is45 r = (one l[i] && fol (prev l i) l[i] && chk (prev l (i + 1)) (l.drop (i + 1))) := fun x hx => ⟨x, rfl, by rw [hx, h, Bool.and_false]; rfl⟩
    by_cases c1 : l[i].l < 1
    · rw [cT (by omega)]; exact no (dec_f (by omega)) _ rfl
    rw [cF (by omega)]
    by_cases c2 : M < l[i].l
    · rw [cT (by simp only [M] at c2; omega)]; exact no (dec_f (by omega)) _ rfl
    rw [cF (by simp only [M] at c2; omega)]
    by_cases c3 : M ≤ l[i].f
    · rw [cT (by simp only [M] at c3; omega)]; exact no (dec_f (by omega)) _ rfl
    rw [cF (by simp only [M] at c3; omega)]
    rw [g79, Option.bind_some, wu (by omega) (by simp only [M] at c2 c3; omega)]
    by_cases c4 : M < l[i].e
    · rw [cT (by simp only [M] at c4; omega)]; exact no (dec_f (by omega)) _ rfl
    rw [cF (by simp only [M] at c4; omega), g71, Option.bind_some]
    by_cases c5 : l[i].s = 1 ∨ l[i].s = 2
    · rw [cNT c5]
      have ho : one l[i] = true := dec_t ⟨by omega, by omega, c5⟩
      obtain ⟨r, h1, h2⟩ := ih (i + 1) f (by omega) (by omega) (by omega) (fun p hp => by rw [prev_succ hi2] at hp; injection hp with hp; rw [← hp]; exact ho)
      rw [en]
      by_cases c6 : i = 0
      · rw [cF (by omega)]
        refine ⟨r, h1, ?_⟩
        rw [h2, ho]
        unfold prev
        rw [if_pos c6]
        rfl
      · rw [cT (by omega)]
        have hp : i - 1 < l.length := by omega
        have hw2 := hw l[i - 1] (List.getElem_mem hp)
        have hpv : prev l i = some l[i - 1] := by unfold prev; rw [if_neg c6, List.getElem?_eq_getElem hp]
        rw [show IntKind.i64.wrap ((i : Int) - 1) = ((i - 1 : Nat) : Int) by rw [wi (by omega) (by omega)]; omega, at_rv hp, Option.bind_some]
        simp only
        have hop := of_decide_eq_true (hpo _ hpv)
        have hE2 : l[i - 1].e = l[i - 1].f + l[i - 1].l := rfl
        rw [g79, Option.bind_some, wu (by omega) (by have := hop.2.1; simp only [M] at this; omega)]
        by_cases c7 : l[i].f < l[i - 1].e
        · rw [cT (by omega)]; exact no2 (by rw [hpv]; exact dec_f (by omega)) _ rfl
        rw [cF (by omega)]
        by_cases c8 : l[i - 1].e = l[i].f
        · rw [cT (by omega)]
          by_cases c9 : l[i - 1].s = l[i].s
          · rw [cT c9]; exact no2 (by rw [hpv]; exact dec_f (by omega)) _ rfl
          · rw [cF c9]
            refine ⟨r, h1, ?_⟩
            rw [h2, ho, hpv, show fol (some l[i - 1]) l[i] = true from dec_t ⟨by omega, fun h => c9 h.2⟩]; rfl
        · rw [cF (by omega)]
          refine ⟨r, h1, ?_⟩
          rw [h2, ho, hpv, show fol (some l[i - 1]) l[i] = true from dec_t ⟨by omega, fun h => c8 h.1⟩]; rfl
    · rw [cNF c5]; exact no (dec_f (by omega)) _ rfl
theorem g45 {k : Nat} {b : Bool} {o : Option Bool} {l : List Rn} (hl : l.length ≤ 500) (hw : ∀ r ∈ l, Wf r) (hk : 500 ≤ k) : F45 k o b 3 (l.map rv) = some (right l) := by
  unfold F45
  obtain ⟨r, h1, h2⟩ := L45_run (k := k) (b := b) (o := o) (l := l) (by omega) hw l.length 0 (k + 5) (by omega) (by omega) (by omega) (fun p hp => by cases hp)
  rw [show ((0 : Nat) : Int) = 0 from rfl] at h1
  rw [h1, Option.bind_some]
  have h2 : is45 r = chk none l := h2
  unfold right
  rw [← h2]
  cases r <;> try rfl
  simp only [is45, Bool.true_and]
  congr 1
  rw [decide_eq_decide, List.length_map]
  omega

/-! ### The reference -/
theorem eq_rn (a b : Rn) : (!(decide ((a.f : Int) = b.f) && (decide ((a.l : Int) = b.l) && (decide (a.s = b.s) && true)))) = !decide (a = b) := by
  congr 1
  rw [Bool.eq_iff_iff]
  simp only [Bool.and_eq_true, decide_eq_true_eq, and_true]
  obtain ⟨f, m, s⟩ := a
  obtain ⟨f', m', s'⟩ := b
  simp only [Rn.mk.injEq]
  omega
theorem drop_eq {l m : List Rn} (hl : l.length = m.length) {i : Nat} (h : i < l.length) (h2 : i < m.length) : decide (l.drop i = m.drop i) = (decide (l[i] = m[i]) && decide (l.drop (i + 1) = m.drop (i + 1))) := by
  rw [List.drop_eq_getElem_cons h, List.drop_eq_getElem_cons h2]
  rw [Bool.eq_iff_iff]
  simp only [Bool.and_eq_true, decide_eq_true_eq, List.cons.injEq]
def is41 : L41_13_R → Bool
  | .e1 _ => true
  | _ => false
theorem L41_run {k : Nat} {b c : Bool} {o p : Option Bool} {l m : List Rn} (hl : l.length ≤ 1000) (hlm : l.length = m.length) : ∀ (n i f : Nat), l.length - i = n → i ≤ l.length → n < f →
    ∃ r, L41_13 k b c (l.map rv) (m.map rv) o p 3 3 f (i : Int) = some r ∧ is41 r = decide (l.drop i = m.drop i) := by
  intro n
  induction n with
  | zero =>
    intro i f hc hi hf
    obtain ⟨f, rfl⟩ : ∃ g, f = g + 1 := ⟨f - 1, by omega⟩
    refine ⟨.e1 i, ?_, ?_⟩
    · rw [L41_13, List.length_map, cF (by omega)]
    · rw [List.drop_of_length_le (by omega), List.drop_of_length_le (by omega)]; rfl
  | succ n ih =>
    intro i f hc hi hf
    obtain ⟨f, rfl⟩ : ∃ g, f = g + 1 := ⟨f - 1, by omega⟩
    have hi2 : i < l.length := by omega
    have hi3 : i < m.length := by omega
    have en : IntKind.i64.wrap ((i : Int) + 1) = ((i + 1 : Nat) : Int) := by rw [wi (by omega) (by omega)]; omega
    obtain ⟨r, h1, h2⟩ := ih (i + 1) f (by omega) (by omega) (by omega)
    rw [L41_13, List.length_map, cT (by omega), gp rfl, at_rv hi2, Option.bind_some]
    simp only
    rw [gp trivial, at_rv hi3, Option.bind_some]
    simp only
    rw [eq_rn, drop_eq hlm hi2 hi3, en]
    by_cases h : l[i] = m[i]
    · rw [cNT h, dec_t h]; exact ⟨r, h1, h2⟩
    · rw [cNF h, dec_f h]; exact ⟨_, rfl, rfl⟩
theorem g41 {k : Nat} {b c : Bool} {o p : Option Bool} {l m : List Rn} (hl : l.length ≤ 500) (hk : 500 ≤ k) : F41 k o b 3 (l.map rv) p c 3 (m.map rv) = some (decide (l = m)) := by
  unfold F41
  by_cases h : l.length = m.length
  · rw [List.length_map, List.length_map, cNT (by omega)]
    obtain ⟨r, h1, h2⟩ := L41_run (k := k) (b := b) (c := c) (o := o) (p := p) (by omega) h l.length 0 (k + 2) (by omega) (by omega) (by omega)
    rw [show ((0 : Nat) : Int) = 0 from rfl] at h1
    rw [h1, Option.bind_some]
    have h2 : is41 r = decide (l = m) := h2
    rw [← h2]
    cases r <;> rfl
  · rw [List.length_map, List.length_map, cNF (by omega), dec_f (fun e => h (by rw [e]))]
theorem at_drop {l : List Rn} {i n : Nat} (h : i < l.length) : At 0 (l.drop i) n = if l[i].f ≤ n ∧ n < l[i].e then l[i].s else At 0 (l.drop (i + 1)) n := by
  rw [List.drop_eq_getElem_cons h]; rfl
def st44 : L44_22_R → Int
  | .e0 _ _ _ s => s
  | _ => 0
theorem L44_run {k n : Nat} {b : Bool} {o : Option Bool} {l : List Rn} (hn : n < 18446744073709551616) (hl : l.length ≤ 1000) (hr : ∀ r ∈ l, r.e ≤ M) : ∀ (c i f : Nat), l.length - i = c → i ≤ l.length → c < f →
    ∃ r, L44_22 k (n : Int) b (l.map rv) o 3 f (i : Int) = some r ∧ st44 r = At 0 (l.drop i) n := by
  intro c
  induction c with
  | zero =>
    intro i f hc hi hf
    obtain ⟨f, rfl⟩ : ∃ g, f = g + 1 := ⟨f - 1, by omega⟩
    refine ⟨.e1 i, ?_, ?_⟩
    · rw [L44_22, List.length_map, cF (by omega)]
    · rw [List.drop_of_length_le (by omega)]; rfl
  | succ c ih =>
    intro i f hc hi hf
    obtain ⟨f, rfl⟩ : ∃ g, f = g + 1 := ⟨f - 1, by omega⟩
    have hi2 : i < l.length := by omega
    have hE : l[i].e = l[i].f + l[i].l := rfl
    have hM := hr l[i] (List.getElem_mem hi2)
    simp only [M] at hM
    have en : IntKind.i64.wrap ((i : Int) + 1) = ((i + 1 : Nat) : Int) := by rw [wi (by omega) (by omega)]; omega
    obtain ⟨r, h1, h2⟩ := ih (i + 1) f (by omega) (by omega) (by omega)
    rw [L44_22, List.length_map, cT (by omega), gp rfl, at_rv hi2, Option.bind_some]
    simp only
    rw [at_drop hi2, en]
    by_cases c1 : l[i].f ≤ n
    · rw [cT (by omega), g79, Option.bind_some, wu (by omega) (by omega)]
      by_cases c2 : n < l[i].e
      · rw [cT (by omega), if_pos ⟨c1, c2⟩]; exact ⟨_, rfl, rfl⟩
      · rw [cF (by omega), if_neg (fun h => c2 h.2)]; exact ⟨r, h1, h2⟩
    · rw [cF (by omega), if_neg (fun h => c1 h.1)]; exact ⟨r, h1, h2⟩
theorem g44 {k n : Nat} {b : Bool} {o : Option Bool} {l : List Rn} (hn : n < 18446744073709551616) (hl : l.length ≤ 500) (hw : ∀ r ∈ l, Wf r) (hk : 500 ≤ k) : F44 k o b 3 (l.map rv) (n : Int) = some (if right l then (if M ≤ n then (0, 2) else (At 0 l n, 0)) else (0, 1)) := by
  unfold F44
  rw [g45 hl hw (by omega), Option.bind_some]
  cases hr : right l with
  | false => rfl
  | true =>
    simp only [Bool.not_true, cond_false, if_true]
    by_cases h : M ≤ n
    · rw [cT (by simp only [M] at h; omega), if_pos h]
    · rw [cF (by simp only [M] at h; omega), if_neg h]
      obtain ⟨r, h1, h2⟩ := L44_run (k := k) (b := b) (o := o) (l := l) hn (by omega) (fun r h => ((right_iff.1 hr).one r h).2.1) l.length 0 (k + 8) (by omega) (by omega) (by omega)
      rw [show ((0 : Nat) : Int) = 0 from rfl] at h1
      rw [h1, Option.bind_some]
      have h2 : st44 r = At 0 l n := h2
      rw [← h2]
      cases r <;> rfl

/-! ### How many blocks -/
theorem g35 {k : Nat} {b : Bool} {o : Option Bool} {l : List Rn} : F35 k o b 3 (l.map rv) = some (o, false, 3, (l.take 66).map rv) := by
  unfold F35
  have e := take_if 66 (l.map rv)
  rw [show ((66 : Nat) : Int) = 66 from rfl] at e
  rw [gp rfl, gp (by omega), e, List.map_take]

/-! ### Spans -/
/-- Why a span may not be. -/
def errS (a n : Nat) : Int := if n = 0 then 1 else if 18446744073709551616 < a + n then 2 else 0
theorem errS_zero {a n : Nat} (h : errS a n = 0) : n ≠ 0 ∧ a + n ≤ 18446744073709551616 := by unfold errS at h; omega
theorem g19 {k a n : Nat} (ha : a < 18446744073709551616) (hn : n < 18446744073709551616) : F19 k (a : Int) (n : Int) = some (errS a n) := by
  unfold F19 errS
  by_cases h : n = 0
  · rw [cT (by omega), if_pos h]
  · rw [cF (by omega), if_neg h, wu_mod, wu_mod]
    by_cases h2 : 18446744073709551616 < a + n
    · rw [cT (by omega), if_pos h2]
    · rw [cF (by omega), if_neg h2]
def errB (a n : Nat) : Int := if errS a n = 0 then (if M < a + n then 2 else 0) else errS a n
theorem g16 {k a n : Nat} (ha : a < 18446744073709551616) (hn : n < 18446744073709551616) : F16 k (a : Int) (n : Int) = some (if errS a n = 0 then ((a + n - 1 : Nat) : Int) else 0, errS a n) := by
  unfold F16
  rw [g19 ha hn, Option.bind_some]
  by_cases h : errS a n = 0
  · rw [cNT h, if_pos h, h]
    unfold F61
    rw [Option.bind_some]
    simp only
    have : n ≠ 0 ∧ a + n ≤ 18446744073709551616 := errS_zero h
    congr 2
    rw [wu_mod, wu_mod]
    omega
  · rw [cNF h, if_neg h]
theorem g72 {k a n : Nat} {b : Bool} {o : Option Bool} {l : List Rn} (hl : l.length ≤ 500) (hw : ∀ r ∈ l, Wf r) (ha : a < 18446744073709551616) (hn : n < 18446744073709551616) (hk : 500 ≤ k) : F72 k o b 3 (l.map rv) (a : Int) (n : Int) = some (if right l then errB a n else 1) := by
  unfold F72 errB
  rw [g45 hl hw (by omega), Option.bind_some]
  cases hr : right l with
  | false => rfl
  | true =>
    simp only [Bool.not_true, cond_false, if_true]
    rw [g16 ha hn, Option.bind_some]
    simp only
    by_cases h : errS a n = 0
    · rw [cT h, if_pos h, if_pos h]
      have : n ≠ 0 ∧ a + n ≤ 18446744073709551616 := errS_zero h
      by_cases h2 : M < a + n
      · rw [cT (by simp only [M] at h2; omega), if_pos h2]
      · rw [cF (by simp only [M] at h2; omega), if_neg h2, h]
    · rw [cF h, if_neg h]
theorem errB_zero {a n : Nat} (h : errB a n = 0) : 1 ≤ n ∧ a + n ≤ M := by
  have hM : M = 576460752303423488 := rfl
  unfold errB errS at h
  omega
end Go.Proofs
