/-
  ExtentStays: what was put is there, put again nothing changes, and each other block is as it was; a span's runs are together as long as it, and tell each block's state; for all runs, spans, states and numbers.
-/
import Derived.Test.YtfjloeemhiffgaaExO
import Derived.Test.YtfjloeemhiffgaaEx11
set_option linter.unusedVariables false
set_option linter.unusedSimpArgs false
set_option maxRecDepth 100000
namespace Go.Proofs
open Go Go.Sym Go.Sym.Ex
theorem adj_get {l : List Rn} : ∀ {i : Nat} (h : i + 1 < l.length), Adj l → ¬(l[i].e = l[i + 1].f ∧ l[i].s = l[i + 1].s) := by
  induction l with
  | nil => intro i h; simp at h
  | cons r t ih =>
    intro i h ha
    cases t with
    | nil => simp at h
    | cons q u =>
      cases i with
      | zero => exact ha.1
      | succ i => exact ih (i := i) (by simpa using h) ha.2
theorem put_rt {l : List Rn} {a b : Nat} {s : Int} (h : Rt l) (hab : a < b) (hb : b ≤ M) (hs : s = 0 ∨ s = 1 ∨ s = 2) (hl : (put l a b s).length ≤ 64) : Rt (put l a b s) := by
  obtain ⟨h1, h2, h3, h4⟩ := put_ok h hab hb hs
  exact ⟨h1, h2, h3, hl⟩
theorem put_put {l : List Rn} {a b : Nat} {s : Int} (h : Rt l) (hab : a < b) (hb : b ≤ M) (hs : s = 0 ∨ s = 1 ∨ s = 2) (hl : (put l a b s).length ≤ 64) : put (put l a b s) a b s = put l a b s := by
  obtain ⟨h1, h2, h3, h4⟩ := put_ok h hab hb hs
  obtain ⟨k1, k2, k3, k4⟩ := put_ok (put_rt h hab hb hs hl) hab hb hs
  refine unique k1 k2 h1 h2 fun n => ?_
  have v1 := k4 n
  have v2 := h4 n
  have v3 : New (put l a b s) a b s n = if a ≤ n ∧ n < b then s else At 0 (put l a b s) n := rfl
  have v4 : New l a b s n = if a ≤ n ∧ n < b then s else At 0 l n := rfl
  omega
theorem qry_put {l : List Rn} {a b : Nat} {s : Int} (h : Rt l) (hab : a < b) (hb : b ≤ M) (hs : s = 0 ∨ s = 1 ∨ s = 2) (hl : (put l a b s).length ≤ 64) : qry (put l a b s) a b = [⟨a, b - a, s⟩] := by
  obtain ⟨h1, h2, h3, h4⟩ := put_ok h hab hb hs
  obtain ⟨k1, k2, k3⟩ := qry_ok (put_rt h hab hb hs hl) hab
  refine unique k1 k2 (b := a) ⟨Nat.le_refl _, by simp only; omega, by simp only; omega, trivial⟩ trivial fun n => ?_
  have v1 := k3 n
  have v2 := h4 n
  have v4 : New l a b s n = if a ≤ n ∧ n < b then s else At 0 l n := rfl
  have v5 : At (-1) [⟨a, b - a, s⟩] n = if a ≤ n ∧ n < a + (b - a) then s else -1 := rfl
  omega
theorem tile {l q : List Rn} {now b i : Nat} (hone : ∀ r ∈ l, 1 ≤ r.l ∧ r.e ≤ M ∧ (r.s = 1 ∨ r.s = 2)) (hi : i < q.length) (ho : Ord (-1) now (q.drop i)) (hat : ∀ n, At (-1) (q.drop i) n = if now ≤ n ∧ n < b then At 0 l n else -1) :
    q[i].f = now ∧ 1 ≤ q[i].l ∧ q[i].e ≤ b ∧ (∀ n, q[i].f ≤ n → n < q[i].e → q[i].s = At 0 l n) ∧ Ord (-1) q[i].e (q.drop (i + 1)) ∧ ∀ n, At (-1) (q.drop (i + 1)) n = if q[i].e ≤ n ∧ n < b then At 0 l n else -1 := by
  rw [List.drop_eq_getElem_cons hi] at ho hat
  generalize q[i] = r at ho hat
  generalize q.drop (i + 1) = t at ho hat
  obtain ⟨o1, o2, o3, o4⟩ := ho
  have hre : r.e = r.f + r.l := rfl
  have hA : ∀ n, At (-1) (r :: t) n = if r.f ≤ n ∧ n < r.e then r.s else At (-1) t n := fun n => rfl
  have hv := at_val hone
  have e1 := hat r.f
  have e2 := hA r.f
  have e3 := hat (r.e - 1)
  have e4 := hA (r.e - 1)
  have e5 := hat now
  have e6 := hA now
  have e7 := fun h : now < r.e => at_lt o4 h
  have v5 := hv now
  have v1 := hv r.f
  have v3 := hv (r.e - 1)
  have hf : r.f = now := by omega
  refine ⟨hf, o2, by omega, fun n h1 h2 => ?_, o4, fun n => ?_⟩
  · have e8 := hat n
    have e9 := hA n
    omega
  · have e8 := hat n
    have e9 := hA n
    have e10 := fun h : n < r.e => at_lt o4 h
    have := hv n
    omega
def is26 : L11_26_R → Option Int
  | .e5 a _ => some a
  | _ => none
theorem L26_run {k a n t now0 : Nat} {i2 i3 i4 i5 i6 i7 i8 i9 i10 : Int} {b1 b2 b3 b7 : Bool} {x1 x2 x3 : List V} {o1 o2 o3 o4 : Option Bool} {n1 n2 n3 : Nat} {l q : List Rn} (hone : ∀ r ∈ l, 1 ≤ r.l ∧ r.e ≤ M ∧ (r.s = 1 ∨ r.s = 2)) (hq : q.length ≤ 1000) (han : a + n ≤ M) (ht : i3.tmod 576460752303423488 = (t : Int)) (htM : t < M) (hat0 : a ≤ t) (hadj : Adj q) (hi6 : i6 = At 0 l t) :
    ∀ (c i f now : Nat), q.length - i = c → i ≤ q.length → c < f → now ≤ a + n → Ord (-1) now (q.drop i) → (∀ m, At (-1) (q.drop i) m = if now ≤ m ∧ m < a + n then At 0 l m else -1) → (∀ p, prev q i = some p → p.e = now) →
    ∃ r, L11_26 k (a : Int) (n : Int) i2 i3 i4 i5 i6 i7 i8 i9 i10 b1 b2 b3 b7 x1 x2 x3 (q.map rv) o1 o2 o3 o4 n1 n2 n3 3 f (now : Int) (i : Int) = some r ∧ is26 r = some ((a + n : Nat) : Int) := by
  intro c
  induction c with
  | zero =>
    intro i f now hc hi hf hn ho hat hp
    obtain ⟨f, rfl⟩ : ∃ g, f = g + 1 := ⟨f - 1, by omega⟩
    refine ⟨.e5 now i, ?_, ?_⟩
    · rw [L11_26, List.length_map, cF (by omega)]
    · have := hat now
      rw [List.drop_of_length_le (by omega)] at this
      have v := at_val hone now
      have e : At (-1) [] now = -1 := rfl
      simp only [is26, Option.some.injEq]
      omega
  | succ c ih =>
    intro i f now hc hi hf hn ho hat hp
    obtain ⟨f, rfl⟩ : ∃ g, f = g + 1 := ⟨f - 1, by omega⟩
    have hi2 : i < q.length := by omega
    have en : IntKind.i64.wrap ((i : Int) + 1) = ((i + 1 : Nat) : Int) := by rw [wi (by omega) (by omega)]; omega
    obtain ⟨t1, t2, t3, t4, t5, t6⟩ := tile hone hi2 ho hat
    have hE : q[i].e = q[i].f + q[i].l := rfl
    have hM : M = 576460752303423488 := rfl
    obtain ⟨r, h1, h2⟩ := ih (i + 1) f q[i].e (by omega) (by omega) (by omega) t3 t5 t6 (fun p hp => by rw [prev_succ hi2] at hp; injection hp with hp; rw [← hp])
    have es : IntKind.u64.wrap ((now : Int) + (q[i].l : Int)) = ((q[i].e : Nat) : Int) := by rw [wu (by omega) (by omega)]; omega
    -- the same state, where the number is in the run
    have hst : (t : Int) - (a : Int) < n → q[i].f ≤ t → (t : Int) - (q[i].f : Int) < q[i].l → q[i].s = i6 := fun g1 g2 g3 => by rw [hi6]; exact t4 t g2 (by omega)
    have go : (bif decide (IntKind.u64.wrap (i3.tmod 576460752303423488 - (a : Int)) < (n : Int)) then (bif decide ((q[i].f : Int) ≤ i3.tmod 576460752303423488) then (bif decide (IntKind.u64.wrap (i3.tmod 576460752303423488 - (q[i].f : Int)) < (q[i].l : Int)) then (bif !decide (q[i].s = i6) then none else some ()) else some ()) else some ()) else some ()) = some () := by
      rw [ht, wu (n := (t : Int) - a) (by omega) (by omega)]
      by_cases g1 : (t : Int) - a < n
      · rw [cT g1]
        by_cases g2 : q[i].f ≤ t
        · rw [cT (by omega), wu (by omega) (by omega)]
          by_cases g3 : (t : Int) - q[i].f < q[i].l
          · rw [cT g3, cNT (hst g1 g2 g3)]
          · rw [cF g3]
        · rw [cF (by omega)]
      · rw [cF g1]
    rw [L11_26, List.length_map, cT (by omega), gp rfl, at_rv hi2, Option.bind_some]
    simp only
    rw [cNT (by omega), cF (by omega), en, es]
    have body : ∀ X : L11_26_R, (bif decide (IntKind.u64.wrap (i3.tmod 576460752303423488 - (a : Int)) < (n : Int)) then (bif decide ((q[i].f : Int) ≤ i3.tmod 576460752303423488) then (bif decide (IntKind.u64.wrap (i3.tmod 576460752303423488 - (q[i].f : Int)) < (q[i].l : Int)) then (bif !decide (q[i].s = i6) then (some X) else (some r)) else (some r)) else (some r)) else (some r)) = some r := by
      intro X
      rw [ht, wu (n := (t : Int) - a) (by omega) (by omega)]
      by_cases g1 : (t : Int) - a < n
      · rw [cT g1]
        by_cases g2 : q[i].f ≤ t
        · rw [cT (by omega), wu (by omega) (by omega)]
          by_cases g3 : (t : Int) - q[i].f < q[i].l
          · rw [cT g3, cNT (hst g1 g2 g3)]
          · rw [cF g3]
        · rw [cF (by omega)]
      · rw [cF g1]
    by_cases c6 : i = 0
    · rw [cF (by omega), h1]
      exact ⟨r, body _, h2⟩
    · rw [cT (by omega)]
      have hpi : i - 1 < q.length := by omega
      have hpv : prev q i = some q[i - 1] := by unfold prev; rw [if_neg c6, List.getElem?_eq_getElem hpi]
      rw [show IntKind.i64.wrap ((i : Int) - 1) = ((i - 1 : Nat) : Int) by rw [wi (by omega) (by omega)]; omega, at_rv hpi, Option.bind_some]
      simp only
      have hpe := hp _ hpv
      have hns : ¬q[i - 1].s = q[i].s := by
        intro hs
        have := adj_get (l := q) (i := i - 1) (by omega) hadj
        have e : i - 1 + 1 = i := by omega
        simp only [e] at this
        exact this ⟨by omega, hs⟩
      rw [cF hns, h1]
      exact ⟨r, body _, h2⟩
def is27 : L11_27_R → Option Int
  | .e3 a _ => some a
  | _ => none
theorem L27_run {k a n : Nat} {i2 i3 i4 i5 i6 i7 i8 i9 i10 : Int} {b1 b2 b3 b7 : Bool} {x1 x2 x3 : List V} {o1 o2 o3 o4 : Option Bool} {n1 n2 n3 : Nat} {l q : List Rn} (hone : ∀ r ∈ l, 1 ≤ r.l ∧ r.e ≤ M ∧ (r.s = 1 ∨ r.s = 2)) (hq : q.length ≤ 1000) (han : a + n ≤ M) (hadj : Adj q) :
    ∀ (c i f now : Nat), q.length - i = c → i ≤ q.length → c < f → now ≤ a + n → Ord (-1) now (q.drop i) → (∀ m, At (-1) (q.drop i) m = if now ≤ m ∧ m < a + n then At 0 l m else -1) → (∀ p, prev q i = some p → p.e = now) →
    ∃ r, L11_27 k (a : Int) (n : Int) i2 i3 i4 i5 i6 i7 i8 i9 i10 b1 b2 b3 b7 x1 x2 x3 (q.map rv) o1 o2 o3 o4 n1 n2 n3 3 f (now : Int) (i : Int) = some r ∧ is27 r = some ((a + n : Nat) : Int) := by
  intro c
  induction c with
  | zero =>
    intro i f now hc hi hf hn ho hat hp
    obtain ⟨f, rfl⟩ : ∃ g, f = g + 1 := ⟨f - 1, by omega⟩
    refine ⟨.e3 now i, ?_, ?_⟩
    · rw [L11_27, List.length_map, cF (by omega)]
    · have := hat now
      rw [List.drop_of_length_le (by omega)] at this
      have v := at_val hone now
      have e : At (-1) [] now = -1 := rfl
      simp only [is27, Option.some.injEq]
      omega
  | succ c ih =>
    intro i f now hc hi hf hn ho hat hp
    obtain ⟨f, rfl⟩ : ∃ g, f = g + 1 := ⟨f - 1, by omega⟩
    have hi2 : i < q.length := by omega
    have en : IntKind.i64.wrap ((i : Int) + 1) = ((i + 1 : Nat) : Int) := by rw [wi (by omega) (by omega)]; omega
    obtain ⟨t1, t2, t3, t4, t5, t6⟩ := tile hone hi2 ho hat
    have hE : q[i].e = q[i].f + q[i].l := rfl
    have hM : M = 576460752303423488 := rfl
    obtain ⟨r, h1, h2⟩ := ih (i + 1) f q[i].e (by omega) (by omega) (by omega) t3 t5 t6 (fun p hp => by rw [prev_succ hi2] at hp; injection hp with hp; rw [← hp])
    have es : IntKind.u64.wrap ((now : Int) + (q[i].l : Int)) = ((q[i].e : Nat) : Int) := by rw [wu (by omega) (by omega)]; omega
    rw [L11_27, List.length_map, cT (by omega), gp rfl, at_rv hi2, Option.bind_some]
    simp only
    rw [cNT (by omega), cF (by omega), en, es]
    by_cases c6 : i = 0
    · rw [cF (by omega)]
      exact ⟨r, h1, h2⟩
    · rw [cT (by omega)]
      have hpi : i - 1 < q.length := by omega
      have hpv : prev q i = some q[i - 1] := by unfold prev; rw [if_neg c6, List.getElem?_eq_getElem hpi]
      rw [show IntKind.i64.wrap ((i : Int) - 1) = ((i - 1 : Nat) : Int) by rw [wi (by omega) (by omega)]; omega, at_rv hpi, Option.bind_some]
      simp only
      have hpe := hp _ hpv
      have hns : ¬q[i - 1].s = q[i].s := by
        intro hs
        have := adj_get (l := q) (i := i - 1) (by omega) hadj
        have e : i - 1 + 1 = i := by omega
        simp only [e] at this
        exact this ⟨by omega, hs⟩
      rw [cF hns]
      exact ⟨r, h1, h2⟩
theorem law_extentStays {k a n j : Nat} {s : Int} {o : Option Bool} {b : Bool} {l : List Rn} (hw : ∀ r ∈ l, Wf r) (ha : a < 18446744073709551616) (hn : n < 18446744073709551616) (hj : j < 18446744073709551616) (hk : 2000 ≤ k) :
    F11 k o b 3 (l.map rv) (a : Int) (n : Int) s (j : Int) = some true := by
  unfold F11
  have hl : (l.take 66).length ≤ 70 := by simp; omega
  have hw2 : ∀ r ∈ l.take 66, Wf r := fun r h => hw r (List.mem_of_mem_take h)
  rw [g35, Option.bind_some]
  simp only
  generalize l.take 66 = l at hl hw2
  have hM : M = 576460752303423488 := rfl
  by_cases he : errP l a n s = 0
  · obtain ⟨hr, hs, hn1, han⟩ := errP_zero he
    rw [g36 hl hw2 ha hn (by omega) he, Option.bind_some]
    by_cases h64 : 64 < (put l a (a + n) s).length
    · rw [if_pos h64]
      simp only
      rw [cNF (by omega), g39 (by omega), Option.bind_some]; rfl
    · rw [if_neg h64]
      simp only
      have rt := right_iff.1 hr
      have h64' : (put l a (a + n) s).length ≤ 64 := by omega
      have rp := put_rt rt (by omega) han hs h64'
      have hrp := right_iff.2 rp
      obtain ⟨p1, p2, p3, p4⟩ := put_ok (a := a) (b := a + n) (s := s) rt (by omega) han hs
      have hwp : ∀ r ∈ put l a (a + n) s, Wf r := fun r h => by
        have := (p3 r h).2.1
        have hE : r.e = r.f + r.l := rfl
        exact ⟨by omega, by omega⟩
      have hpp := put_put rt (a := a) (b := a + n) (s := s) (by omega) han hs h64'
      have hqp := qry_put rt (a := a) (b := a + n) (s := s) (by omega) han hs h64'
      have hep : errP (put l a (a + n) s) a n s = 0 := by
        unfold errP at he ⊢
        rw [if_pos ⟨hr, hs⟩] at he
        rw [if_pos ⟨hrp, hs⟩]; exact he
      have heq : errQ l a n = 0 := by unfold errQ; rw [if_pos hr]; unfold errP at he; rw [if_pos ⟨hr, hs⟩] at he; exact he
      have heqp : errQ (put l a (a + n) s) a n = 0 := by unfold errQ; rw [if_pos hrp]; unfold errP at he; rw [if_pos ⟨hr, hs⟩] at he; exact he
      have ht : (j : Int).tmod 576460752303423488 = ((j % M : Nat) : Int) := by
        rw [show (576460752303423488 : Int) = ((576460752303423488 : Nat) : Int) from rfl, tm (by omega), hM]; rfl
      have htM : j % M < M := Nat.mod_lt _ (by omega)
      have g36p := g36 (k := k + 5) (b := false) (o := none) (l := put l a (a + n) s) (by omega) hwp ha hn (by omega) hep
      rw [hpp, if_neg h64] at g36p
      rw [cNT trivial, g36p, Option.bind_some]
      simp only
      generalize hT : j % M = t at *
      have hx : ∀ {k : Nat} {o : Option Bool} {b : Bool}, 500 ≤ k → F44 k o b 3 (l.map rv) ((j : Int).tmod 576460752303423488) = some (At 0 l t, 0) := by
        intro k o b hk; rw [ht, g44 (by omega) (by omega) hw2 hk, hr, if_pos rfl, if_neg (by omega)]
      have hy : ∀ {k : Nat} {o : Option Bool} {b : Bool}, 500 ≤ k → F44 k o b 3 ((put l a (a + n) s).map rv) ((j : Int).tmod 576460752303423488) = some (At 0 (put l a (a + n) s) t, 0) := by
        intro k o b hk; rw [ht, g44 (by omega) (by omega) hwp hk, hrp, if_pos rfl, if_neg (by omega)]
      rw [hx (by omega), Option.bind_some]
      simp only
      rw [hy (by omega), Option.bind_some]
      simp only
      obtain ⟨q1, q2, q3⟩ := qry_ok (a := a) (b := a + n) rt (by omega)
      have ql : (qry l a (a + n)).length ≤ 500 := by
        unfold qry
        have h1 := fill_len (b := a + n) (l := join (pI a (a + n) l)) (now := a)
        have h2 := join_len (pI a (a + n) l)
        have h3 := pI_len a (a + n) l
        omega
      have hnew := p4 t
      have hnew2 : New l a (a + n) s t = if a ≤ t ∧ t < a + n then s else At 0 l t := rfl
      -- the last part is the same everywhere
      have fin : ∀ z : Int, (F42 (k + 5) none false 3 ((put l a (a + n) s).map rv) (a : Int) (n : Int)).bind (fun (x : Option Bool × Bool × Nat × List V × Int) => match x with | (o5, b8, n5, x5, i13) => (bif decide ((0 : Int) = 0) then (bif decide (i13 = 0) then (bif decide (IntKind.u64.wrap (((a + n : Nat) : Int) - (a : Int)) = (n : Int)) then (bif decide ((x5.length : Int) = 1) then (guardP (n5 = (3 : Nat)) (((at? (x5) (0)).bind dAu64u64i64Z).bind fun (i14, i15, i16) => (some (decide (i14 = (a : Int)) && (decide (i15 = (n : Int)) && (decide (i16 = s) && true)))))) else (some (false))) else (some (false))) else (some (false))) else (some (false)))) = some true := by
        intro z
        rw [g42 (by omega) hwp ha hn (by omega) heqp, Option.bind_some, hqp]
        simp only
        rw [cT trivial, cT trivial, dZ (by omega) han, cT (by omega), cT (by simp), gp trivial]
        have := at_rv (l := [⟨a, a + n - a, s⟩]) (i := 0) (by simp)
        rw [show (((0 : Nat)) : Int) = 0 from rfl] at this
        rw [this, Option.bind_some]
        simp only [List.getElem_cons_zero]
        rw [dec_t (show ((a + n - a : Nat) : Int) = (n : Int) by omega)]; rfl
      by_cases c1 : a ≤ t
      · rw [ht, cT (by omega), cNT trivial, cNT trivial, cNT trivial, g41 (by omega) (by omega), Option.bind_some, dec_t rfl]
        simp only [Bool.not_true, cond_false]
        rw [g45 (by omega) hwp (by omega), Option.bind_some, hrp]
        simp only [Bool.not_true, cond_false]
        obtain ⟨r, e1, e2⟩ := L26_run (k := k) (a := a) (n := n) (t := t) (now0 := 0) (i2 := s) (i3 := j) (i4 := 0) (i5 := 0) (i6 := At 0 l t) (i7 := 0) (i8 := At 0 (put l a (a + n) s) t) (i9 := 0) (i10 := 0) (b1 := false) (b2 := false) (b3 := false) (b7 := false) (x1 := l.map rv) (x2 := (put l a (a + n) s).map rv) (x3 := (put l a (a + n) s).map rv) (o1 := o) (o2 := none) (o3 := none) (o4 := none) (n1 := 3) (n2 := 3) (n3 := 3) (q := qry l a (a + n)) rt.one (by omega) han ht htM c1 q2 rfl (qry l a (a + n)).length 0 (k + 17) a (by omega) (by omega) (by omega) (by omega) q1 q3 (fun p hp => by cases hp)
        rw [show ((0 : Nat) : Int) = 0 from rfl] at e1
        rw [dZ c1 (by omega)]
        by_cases c2 : t < a + n
        · rw [cT (by omega), cNT (by omega), g39 (by omega), Option.bind_some]
          simp only [Bool.not_true, cond_false]
          rw [g42 (by omega) hw2 ha hn (by omega) heq, Option.bind_some]
          simp only
          rw [e1, Option.bind_some]
          cases r <;> (first | (simp only [is26] at e2; cases e2; done) | skip)
          simp only [is26, Option.some.injEq] at e2
          subst e2
          exact fin 0
        · rw [cF (by omega), cNT (by omega), g39 (by omega), Option.bind_some]
          simp only [Bool.not_true, cond_false]
          rw [g42 (by omega) hw2 ha hn (by omega) heq, Option.bind_some]
          simp only
          rw [e1, Option.bind_some]
          cases r <;> (first | (simp only [is26] at e2; cases e2; done) | skip)
          simp only [is26, Option.some.injEq] at e2
          subst e2
          exact fin 0
      · rw [ht, cF (by omega), cNT trivial, cNT trivial, cNT trivial, g41 (by omega) (by omega), Option.bind_some, dec_t rfl]
        simp only [Bool.not_true, cond_false]
        rw [g45 (by omega) hwp (by omega), Option.bind_some, hrp]
        simp only [Bool.not_true, cond_false]
        obtain ⟨r, e1, e2⟩ := L27_run (k := k) (a := a) (n := n) (i2 := s) (i3 := j) (i4 := 0) (i5 := 0) (i6 := At 0 l t) (i7 := 0) (i8 := At 0 (put l a (a + n) s) t) (i9 := 0) (i10 := 0) (b1 := false) (b2 := false) (b3 := false) (b7 := false) (x1 := l.map rv) (x2 := (put l a (a + n) s).map rv) (x3 := (put l a (a + n) s).map rv) (o1 := o) (o2 := none) (o3 := none) (o4 := none) (n1 := 3) (n2 := 3) (n3 := 3) (q := qry l a (a + n)) rt.one (by omega) han q2 (qry l a (a + n)).length 0 (k + 17) a (by omega) (by omega) (by omega) (by omega) q1 q3 (fun p hp => by cases hp)
        rw [show ((0 : Nat) : Int) = 0 from rfl] at e1
        rw [cNT (by omega), g39 (by omega), Option.bind_some]
        simp only [Bool.not_true, cond_false]
        rw [g42 (by omega) hw2 ha hn (by omega) heq, Option.bind_some]
        simp only
        rw [e1, Option.bind_some]
        cases r <;> (first | (simp only [is27] at e2; cases e2; done) | skip)
        simp only [is27, Option.some.injEq] at e2
        subst e2
        exact fin 0
  · rw [g36e hl hw2 ha hn (by omega) he, Option.bind_some]
    simp only
    rw [cNF he, g39 (by omega), Option.bind_some]; rfl
end Go.Proofs
namespace Go.Proofs.Ytfjloeemhiffgaa
open Go.Sym
theorem extentStays_lifted (os : Os) (started : os.Started) (H : Type) (enc : TypeId × Value → H) :
    ReturnsInHanded {} Try.checked os 11 .any (Rows.extentStaysSpec.pre6 enc Try.prog Try.f11 Rows.extentStaysRow.domain false) (Rows.extentStaysSpec.post enc Try.prog Try.f11 false true false false) := by
  refine returnsInHanded_of_change (C := Try.checked) Try.own started (by kernel_rfl) Try.func11
    (ChangeSpec.witness6 (enc := enc) (C := Try.checked) false ⟨#[], #[.slice none 0 0, .agg #[.int .u64 0, .int .u64 0], .int .i64 0, .int .u64 0], []⟩ 8 (by kernel_rfl) (by kernel_rfl) (by kernel_rfl) (by kernel_rfl)) ?_
  intro W base args ds gs before hval hW hcnd _
  refine law_end (P := Try.prog) (C := Try.cfg) (k := 4) (tb := 4) Try.mixed Try.progOk Try.laidOut (by kernel_rfl) rfl rfl Try.underlying4 ?_ ?_ (fun j t v h1 h2 => ⟨base, hval j t v h1 h2⟩) hW
  · intro ds hds
    match ds, hds with
    | [d, e, f, g], _ => exact ⟨rfl, rfl, rfl⟩
  · intro xs hxs
    obtain ⟨x, y, z, w, rfl, hx, hy, hz, hv⟩ := VArgs_four (P := Try.prog) (k := 4) (a := 54) (b := 24) (c := 3) (d := 22) hxs
    obtain ⟨n, l, rfl, hw⟩ := open54 hx
    obtain ⟨a, m, rfl, ha, hm⟩ := open24 hy
    obtain ⟨s, rfl, _, _⟩ := open3 hz
    obtain ⟨j, rfl, hj⟩ := open22 hv
    exact ⟨_, F11_ok (law_extentStays (k := 2000) hw ha hm hj (Nat.le_refl _))⟩

theorem extentStays_holds : Rows.ExtentStaysSaid :=
  OpenClaim.holds_of_wide 11 Try.f11 rfl rfl rfl rfl rfl rfl rfl ⟨rfl, rfl, rfl, rfl, rfl⟩ rfl rfl rfl rfl rfl (by kernel_rfl) Try.func11 (by kernel_rfl)
    (of_decide_eq_true (by kernel_rfl)) (by unfold Func.isWrapper; first | (rw [if_pos (by decide +kernel)]; kernel_rfl) | (rw [if_neg (by decide +kernel)]; exact ⟨rfl, rfl⟩))
    (fun os started H enc _ => extentStays_lifted os started H enc)
end Go.Proofs.Ytfjloeemhiffgaa
