/-
  Extents, plainly: what the reference answers.
-/
import Derived.Test.YtfjloeemhiffgaaExT
set_option linter.unusedVariables false
set_option linter.unusedSimpArgs false
set_option maxRecDepth 100000
namespace Go.Proofs
open Go Go.Sym Go.Sym.Ex

def nv (n : Nat) : V := V.int .u64 (n : Int)
theorem at_nv {l : List Nat} {i : Nat} (h : i < l.length) : (at? (l.map nv) (i : Int)).bind (dI IntKind.u64) = some (l[i] : Int) := by
  rw [at_map h]; exact dI_int _ _
theorem ins_gt {n : Nat} {l : List Nat} (h : ∀ x ∈ l, n < x) : ins n l = n :: l := by
  cases l with
  | nil => rfl
  | cons x t => have := h x (List.mem_cons_self ..); rw [ins, if_neg (by omega), if_neg (by omega)]
theorem L112_after {k n most : Nat} {b : Bool} {o : Option Bool} {l : List Nat} (hl : l.length ≤ 1000) : ∀ (c i f : Nat) (out : List Nat), l.length - i = c → i ≤ l.length → c < f → out.length ≤ 2 * i + 1 → (∀ x ∈ l.drop i, n < x) →
    ∃ (z : Int) (X : List Nat), L112_15 k (n : Int) (most : Int) b (l.map nv) o 1 f true (i : Int) (out.map nv) = some (.e0 z true (X.map nv)) ∧ X = out ++ l.drop i := by
  intro c
  induction c with
  | zero =>
    intro i f out hc hi hf ho hx
    obtain ⟨f, rfl⟩ : ∃ g, f = g + 1 := ⟨f - 1, by omega⟩
    refine ⟨i, out, ?_, ?_⟩
    · rw [L112_15, List.length_map, cF (by omega)]
    · rw [List.drop_of_length_le (by omega)]; simp
  | succ c ih =>
    intro i f out hc hi hf ho hx
    obtain ⟨f, rfl⟩ : ∃ g, f = g + 1 := ⟨f - 1, by omega⟩
    have hi2 : i < l.length := by omega
    have hd := List.drop_eq_getElem_cons hi2
    have en : IntKind.i64.wrap ((i : Int) + 1) = ((i + 1 : Nat) : Int) := by rw [wi (by omega) (by omega)]; omega
    have hn : n < l[i] := hx _ (by rw [hd]; exact List.mem_cons_self ..)
    obtain ⟨z, X, e1, e2⟩ := ih (i + 1) f (out ++ [l[i]]) (by omega) (by omega) (by omega) (by simp; omega) (fun x hm => hx x (by rw [hd]; exact List.mem_cons_of_mem _ hm))
    simp only [List.map_append, List.map_cons, List.map_nil, nv] at e1
    refine ⟨z, X, ?_, by rw [e2, hd]; simp⟩
    rw [L112_15, List.length_map, cT (by omega), gp rfl, at_nv hi2, Option.bind_some]
    rw [cT (by omega), Bool.not_true, cond_false, cNF (by omega), gp (by rw [List.length_map]; simp only [maxLen']; omega), en]
    exact e1
theorem L112_run {k n most : Nat} {b : Bool} {o : Option Bool} {l : List Nat} (hl : l.length ≤ 1000) (hs : Ris l) : ∀ (c i f : Nat) (out : List Nat), l.length - i = c → i ≤ l.length → c < f → out.length ≤ i →
    ∃ (z : Int) (t : Bool) (X : List Nat), L112_15 k (n : Int) (most : Int) b (l.map nv) o 1 f false (i : Int) (out.map nv) = some (.e0 z t (X.map nv)) ∧ (if t then X else X ++ [n]) = out ++ ins n (l.drop i) := by
  intro c
  induction c with
  | zero =>
    intro i f out hc hi hf ho
    obtain ⟨f, rfl⟩ : ∃ g, f = g + 1 := ⟨f - 1, by omega⟩
    refine ⟨i, false, out, ?_, ?_⟩
    · rw [L112_15, List.length_map, cF (by omega)]
    · rw [List.drop_of_length_le (by omega)]; simp [ins]
  | succ c ih =>
    intro i f out hc hi hf ho
    obtain ⟨f, rfl⟩ : ∃ g, f = g + 1 := ⟨f - 1, by omega⟩
    have hi2 : i < l.length := by omega
    have hd := List.drop_eq_getElem_cons hi2
    have en : IntKind.i64.wrap ((i : Int) + 1) = ((i + 1 : Nat) : Int) := by rw [wi (by omega) (by omega)]; omega
    have hgt : ∀ x ∈ l.drop (i + 1), l[i] < x := by
      have : ∀ (m : List Nat) (j : Nat), Ris m → Ris (m.drop j) := by
        intro m j hm
        induction j generalizing m with
        | zero => exact hm
        | succ j ih =>
          cases m with
          | nil => trivial
          | cons a m => exact ih m (ris_tail hm)
      have h2 := this l i hs
      rw [hd] at h2
      exact ris_lt h2
    rw [L112_15, List.length_map, cT (by omega), gp rfl, at_nv hi2, Option.bind_some]
    by_cases c1 : n ≤ l[i]
    · rw [cT (by omega), Bool.not_false, cond_true, gp (by rw [List.length_map]; simp only [maxLen']; omega)]
      have ha : ∀ x ∈ l.drop (i + 1), n < x := fun x hx => by have := hgt x hx; omega
      by_cases c2 : l[i] = n
      · obtain ⟨z, X, e1, e2⟩ := L112_after (k := k) (n := n) (most := most) (b := b) (o := o) hl (l.length - (i + 1)) (i + 1) f (out ++ [n]) rfl (by omega) (by omega) (by simp; omega) ha
        simp only [List.map_append, List.map_cons, List.map_nil, nv] at e1
        rw [cNT (by omega), en]
        refine ⟨z, true, X, e1, ?_⟩
        rw [if_pos rfl, e2, hd, ins, if_neg (by omega), if_pos c2, c2]; simp
      · obtain ⟨z, X, e1, e2⟩ := L112_after (k := k) (n := n) (most := most) (b := b) (o := o) hl (l.length - (i + 1)) (i + 1) f (out ++ [n] ++ [l[i]]) rfl (by omega) (by omega) (by simp; omega) ha
        simp only [List.map_append, List.map_cons, List.map_nil, nv] at e1
        rw [cNF (by omega), gp (by rw [List.length_append, List.length_map, List.length_singleton]; simp only [maxLen']; omega), en]
        refine ⟨z, true, X, e1, ?_⟩
        rw [if_pos rfl, e2, hd, ins, if_neg (by omega), if_neg c2]; simp
    · obtain ⟨z, t, X, e1, e2⟩ := ih (i + 1) f (out ++ [l[i]]) (by omega) (by omega) (by omega) (by simp; omega)
      simp only [List.map_append, List.map_cons, List.map_nil, nv] at e1
      rw [cF (by omega), cNF (by omega), gp (by rw [List.length_map]; simp only [maxLen']; omega), en]
      refine ⟨z, t, X, e1, ?_⟩
      rw [e2, hd, ins, if_pos (by omega)]; simp
theorem g112 {k n most : Nat} {b : Bool} {o : Option Bool} {l : List Nat} (hl : l.length ≤ 300) (hs : Ris l) (hk : 500 ≤ k) : ∃ o' b', F112 k o b 1 (l.map nv) (n : Int) (most : Int) = some (o', b', 1, (mor l n most).map nv) := by
  unfold F112 mor
  by_cases h : most ≤ n
  · rw [cT (by omega), if_pos h]; exact ⟨o, b, rfl⟩
  · rw [cF (by omega), if_neg h]
    obtain ⟨z, t, X, e1, e2⟩ := L112_run (k := k) (n := n) (most := most) (b := b) (o := o) (by omega) hs l.length 0 (k + 2) [] (by omega) (by omega) (by omega) (by simp)
    rw [show ((0 : Nat) : Int) = 0 from rfl] at e1
    simp only [List.map_nil] at e1
    rw [e1, Option.bind_some]
    refine ⟨none, false, ?_⟩
    have e2 : (if t then X else X ++ [n]) = ins n l := e2
    have hlen := (ins_ok (n := n) hs).2.2
    rw [← e2] at hlen ⊢
    cases t with
    | true => rfl
    | false =>
      simp only [Bool.not_false, cond_true, Bool.false_eq_true, if_false] at hlen ⊢
      rw [gp (by rw [List.length_map]; simp only [maxLen']; simp at hlen; omega), List.map_append]; rfl

theorem g114 {k a n p : Nat} {s : Int} {b : Bool} {o : Option Bool} {l : List Rn} (hl : l.length ≤ 500) (ha : a ≤ M) (hp : p ≤ M) (hk : 500 ≤ k) : F114 k o b 3 (l.map rv) (a : Int) (n : Int) s (p : Int) = some (New l a (a + n) s p) := by
  unfold F114 New
  have hM : M = 576460752303423488 := rfl
  by_cases c1 : a ≤ p
  · rw [cT (by omega), dZ c1 hp]
    by_cases c2 : p < a + n
    · rw [cT (by omega), if_pos ⟨c1, c2⟩]
    · rw [cF (by omega), if_neg (fun h => c2 h.2), g49 (by omega) hl (by omega)]; rfl
  · rw [cF (by omega), if_neg (fun h => c1 h.1), g49 (by omega) hl (by omega)]; rfl

theorem L78_16_run {k to : Nat} {i0 i1 i2 i3 : Int} {b0 : Bool} {o0 : Option Bool} {l : List Rn} (hl : l.length ≤ 70) (hr : ∀ r ∈ l, r.e ≤ M) (hk : 1000 ≤ k) : ∀ (c i f : Nat) (o : Option Bool) (b : Bool) (ps : List Nat), l.length - i = c → i ≤ l.length → c < f → Ris ps → (∀ x ∈ ps, x < to) → ps.length ≤ 3 + 2 * i →
    ∃ (z : Int) (b' : Bool) (o' : Option Bool) (X : List Nat), L78_16 k i0 i1 i2 i3 (to : Int) b0 (l.map rv) o0 3 f o b 1 (ps.map nv) (i : Int) = some (.e0 z b' (X.map nv) o' 1) ∧ X = mors to (l.drop i) ps := by
  intro c
  induction c with
  | zero =>
    intro i f o b ps hc hi hf h1 h2 h3
    obtain ⟨f, rfl⟩ : ∃ g, f = g + 1 := ⟨f - 1, by omega⟩
    refine ⟨i, b, o, ps, ?_, ?_⟩
    · rw [L78_16, List.length_map, cF (by omega)]
    · rw [List.drop_of_length_le (by omega)]; rfl
  | succ c ih =>
    intro i f o b ps hc hi hf h1 h2 h3
    obtain ⟨f, rfl⟩ : ∃ g, f = g + 1 := ⟨f - 1, by omega⟩
    have hi2 : i < l.length := by omega
    have en : IntKind.i64.wrap ((i : Int) + 1) = ((i + 1 : Nat) : Int) := by rw [wi (by omega) (by omega)]; omega
    obtain ⟨a1, a2, a3, a4, a5⟩ := mor_ok (n := l[i].f) h1 h2
    obtain ⟨b1, b2, b3, b4, b5⟩ := mor_ok (n := l[i].e) a1 a2
    obtain ⟨o4, b4', e4⟩ := g112 (k := k + 5) (n := l[i].f) (most := to) (b := b) (o := o) (l := ps) (by omega) h1 (by omega)
    obtain ⟨o5, b5', e5⟩ := g112 (k := k + 5) (n := l[i].e) (most := to) (b := b4') (o := o4) (l := mor ps l[i].f to) (by omega) a1 (by omega)
    obtain ⟨z, b', o', X, e1, e2⟩ := ih (i + 1) f o5 b5' (mor (mor ps l[i].f to) l[i].e to) (by omega) (by omega) (by omega) b1 b2 (by omega)
    refine ⟨z, b', o', X, ?_, ?_⟩
    · rw [L78_16, List.length_map, cT (by omega), gp rfl, at_rv hi2, Option.bind_some]
      simp only
      rw [e4, Option.bind_some]
      simp only
      rw [eZ (hr _ (List.getElem_mem hi2)), e5, Option.bind_some]
      simp only
      rw [en]
      exact e1
    · rw [e2, List.drop_eq_getElem_cons hi2]; rfl

theorem wth_le {o : List Rn} {r : Rn} {x : Nat} (h : ∀ q ∈ o, q.e ≤ x) (hr : r.e ≤ x) (hq : ∀ q ∈ o, q.e = r.f → q.f ≤ r.e) : ∀ q ∈ wth o r, q.e ≤ x := by
  rcases List.eq_nil_or_concat o with rfl | ⟨u, q, rfl⟩
  · intro q hq; rcases List.mem_singleton.1 hq with rfl; exact hr
  · rw [List.concat_eq_append] at *
    rw [wth_append]
    intro y hy
    split at hy
    · rename_i hc
      rcases List.mem_append.1 hy with hy | hy
      · exact h y (List.mem_append_left _ hy)
      · rcases List.mem_singleton.1 hy with rfl
        have := hq q (by simp) hc.1
        simp only [Rn.e] at *; omega
    · rcases List.mem_append.1 hy with hy | hy
      · exact h y hy
      · rcases List.mem_singleton.1 hy with rfl; exact hr
theorem L78_17_run {k a n fr to : Nat} {s i5 : Int} {b0 b3 : Bool} {o0 o3 : Option Bool} {l : List Rn} {ps : List Nat} (hl : l.length ≤ 70) (hps : ps.length ≤ 1000) (hs : Ris ps) (hm : ∀ x ∈ ps, x < to) (hto : to ≤ M) (ha : a ≤ M) (hk : 1000 ≤ k) : ∀ (c i f : Nat) (out : List Rn), ps.length - i = c → i ≤ ps.length → c < f → out.length ≤ i → (∀ q ∈ out, q.e ≤ to) →
    ∃ (z : Int) (X : List Rn), L78_17 k (a : Int) (n : Int) s (fr : Int) (to : Int) i5 b0 b3 (l.map rv) (ps.map nv) o0 o3 3 1 f (i : Int) (out.map rv) = some (.e0 z (X.map rv)) ∧ X = sts (New l a (a + n) s) fr to (ps.drop i) out := by
  intro c
  induction c with
  | zero =>
    intro i f out hc hi hf ho hle
    obtain ⟨f, rfl⟩ : ∃ g, f = g + 1 := ⟨f - 1, by omega⟩
    refine ⟨i, out, ?_, ?_⟩
    · rw [L78_17, List.length_map, cF (by omega)]
    · rw [List.drop_of_length_le (by omega)]; rfl
  | succ c ih =>
    intro i f out hc hi hf ho hle
    obtain ⟨f, rfl⟩ : ∃ g, f = g + 1 := ⟨f - 1, by omega⟩
    have hM : M = 576460752303423488 := rfl
    have hi2 : i < ps.length := by omega
    have en : IntKind.i64.wrap ((i : Int) + 1) = ((i + 1 : Nat) : Int) := by rw [wi (by omega) (by omega)]; omega
    have hd := List.drop_eq_getElem_cons hi2
    have hpt : ps[i] < to := hm _ (List.getElem_mem hi2)
    rw [L78_17, List.length_map, cT (by omega), gp rfl, at_nv hi2, Option.bind_some, en]
    by_cases c1 : ps[i] < fr
    · rw [cT (by omega)]
      obtain ⟨z, X, e1, e2⟩ := ih (i + 1) f out (by omega) (by omega) (by omega) (by omega) hle
      refine ⟨z, X, e1, ?_⟩
      rw [e2, hd, sts, if_pos c1]
    rw [cF (by omega)]
    -- what happens when the run ends at a number
    have go : ∀ st : Nat, (ps.drop (i + 1)).headD to = st → ps[i] < st → st ≤ to →
        ∃ (z : Int) (X : List Rn), (F114 (k + 2) o0 b0 3 (l.map rv) (a : Int) (n : Int) s (ps[i] : Int)).bind (fun i9 => guardP ((0 : Nat) + (out.map rv).length ≤ maxLen') (bif decide (0 ≤ IntKind.i64.wrap (((out.map rv).length : Int) - 1)) then (guardP ((0 : Int) ≤ IntKind.i64.wrap (((out.map rv).length : Int) - (1 : Int)) ∧ IntKind.i64.wrap (((out.map rv).length : Int) - (1 : Int)) < ((out.map rv).length : Int)) ((((out.map rv)[(IntKind.i64.wrap (((out.map rv).length : Int) - 1)).toNat]?).bind dAu64u64i64Z).bind fun (i10, i11, i12) => (bif decide (i12 = i9) then (bif decide (IntKind.u64.wrap (i10 + i11) = (ps[i] : Int)) then (guardP ((IntKind.i64.wrap (((out.map rv).length : Int) - (1 : Int))).toNat < (out.map rv).length) (L78_17 k (a : Int) (n : Int) s (fr : Int) (to : Int) i5 b0 b3 (l.map rv) (ps.map nv) o0 o3 3 1 f ((i + 1 : Nat) : Int) ((out.map rv).set (IntKind.i64.wrap (((out.map rv).length : Int) - 1)).toNat (V.agg [V.int IntKind.u64 i10, V.int IntKind.u64 (IntKind.u64.wrap ((st : Int) - i10)), V.int IntKind.i64 i12])))) else (guardP ((out.map rv).length + (1 : Nat) ≤ maxLen') (L78_17 k (a : Int) (n : Int) s (fr : Int) (to : Int) i5 b0 b3 (l.map rv) (ps.map nv) o0 o3 3 1 f ((i + 1 : Nat) : Int) (out.map rv ++ [V.agg [V.int IntKind.u64 (ps[i] : Int), V.int IntKind.u64 (IntKind.u64.wrap ((st : Int) - (ps[i] : Int))), V.int IntKind.i64 i9]])))) else (guardP ((out.map rv).length + (1 : Nat) ≤ maxLen') (L78_17 k (a : Int) (n : Int) s (fr : Int) (to : Int) i5 b0 b3 (l.map rv) (ps.map nv) o0 o3 3 1 f ((i + 1 : Nat) : Int) (out.map rv ++ [V.agg [V.int IntKind.u64 (ps[i] : Int), V.int IntKind.u64 (IntKind.u64.wrap ((st : Int) - (ps[i] : Int))), V.int IntKind.i64 i9]])))))) else (guardP ((out.map rv).length + (1 : Nat) ≤ maxLen') (L78_17 k (a : Int) (n : Int) s (fr : Int) (to : Int) i5 b0 b3 (l.map rv) (ps.map nv) o0 o3 3 1 f ((i + 1 : Nat) : Int) (out.map rv ++ [V.agg [V.int IntKind.u64 (ps[i] : Int), V.int IntKind.u64 (IntKind.u64.wrap ((st : Int) - (ps[i] : Int))), V.int IntKind.i64 i9]])))))
          = some (.e0 z (X.map rv)) ∧ X = sts (New l a (a + n) s) fr to (ps.drop i) out := by
      intro st hst hlt hstt
      have hrw : sts (New l a (a + n) s) fr to (ps.drop i) out = sts (New l a (a + n) s) fr to (ps.drop (i + 1)) (wth out ⟨ps[i], st - ps[i], New l a (a + n) s ps[i]⟩) := by
        rw [hd, sts, if_neg c1, hst]
      have he : (⟨ps[i], st - ps[i], New l a (a + n) s ps[i]⟩ : Rn).e = st := by simp only [Rn.e]; omega
      have hwl := wth_len (o := out) (r := ⟨ps[i], st - ps[i], New l a (a + n) s ps[i]⟩)
      obtain ⟨z, X, e1, e2⟩ := ih (i + 1) f (wth out ⟨ps[i], st - ps[i], New l a (a + n) s ps[i]⟩) (by omega) (by omega) (by omega) (by omega)
        (wth_le hle (by rw [he]; exact hstt) (fun q hq h => by rw [he]; simp only [Rn.e] at h; omega))
      rw [g114 (by omega) ha (by omega) (by omega), Option.bind_some, gp (by rw [List.length_map]; simp only [maxLen']; omega), dZ (x := st) (y := ps[i]) (by omega) (by omega), hrw, ← e2]
      generalize hg : New l a (a + n) s ps[i] = g at *
      refine ⟨z, X, ?_, rfl⟩
      have app : wth out ⟨ps[i], st - ps[i], g⟩ = out ++ [⟨ps[i], st - ps[i], g⟩] → guardP ((out.map rv).length + (1 : Nat) ≤ maxLen') (L78_17 k (a : Int) (n : Int) s (fr : Int) (to : Int) i5 b0 b3 (l.map rv) (ps.map nv) o0 o3 3 1 f ((i + 1 : Nat) : Int) (out.map rv ++ [V.agg [V.int IntKind.u64 (ps[i] : Int), V.int IntKind.u64 ((st - ps[i] : Nat) : Int), V.int IntKind.i64 g]])) = some (.e0 z (X.map rv)) := by
        intro h
        rw [gp (by rw [List.length_map]; simp only [maxLen']; omega)]
        rw [h] at e1
        simp only [List.map_append, List.map_cons, List.map_nil, rv] at e1
        exact e1
      rcases List.eq_nil_or_concat out with h | ⟨u, q, h⟩
      · have hz : (out.map rv).length = 0 := by rw [h]; rfl
        rw [hz, cF (by decide)]
        rw [hz] at app
        exact app (by rw [h]; rfl)
      · rw [List.concat_eq_append] at h
        have hul : (out.map rv).length = u.length + 1 := by rw [h]; simp
        have hwi : IntKind.i64.wrap ((((out.map rv).length : Nat) : Int) - 1) = (u.length : Int) := by rw [hul, wi (by rw [h] at ho; simp at ho; omega) (by rw [h] at ho; simp at ho; omega)]; omega
        have hqe : q.e ≤ M := by have := hle q (by rw [h]; simp); omega
        have hgq : ((out.map rv)[u.length]?).bind dAu64u64i64Z = some ((q.f : Int), (q.l : Int), q.s) := by
          have := get_rv (l := out) (i := u.length) (by rw [h]; simp)
          rw [this]; subst h; simp
        rw [hwi, cT (by omega), gp (by rw [hul]; omega), Int.toNat_natCast, hgq, Option.bind_some]
        simp only
        rw [eZ hqe]
        by_cases d1 : q.s = g
        · rw [cT d1]
          by_cases d2 : q.e = ps[i]
          · have hqf : q.f ≤ st := by simp only [Rn.e] at d2; omega
            rw [cT (by omega), gp (by rw [hul]; omega), dZ hqf (by omega)]
            rw [h, wth_append, if_pos ⟨d2, d1⟩, he] at e1
            rw [show (out.map rv).set u.length (V.agg [V.int .u64 (q.f : Int), V.int .u64 ((st - q.f : Nat) : Int), V.int .i64 q.s]) = List.map rv (u ++ [⟨q.f, st - q.f, q.s⟩]) by
              rw [h, List.map_append, List.map_append, List.set_append_right _ _ (by simp)]; simp [rv]]
            exact e1
          · rw [cF (by omega)]
            exact app (by rw [h, wth_append, if_neg (fun hc => d2 hc.1)])
        · rw [cF d1]
          exact app (by rw [h, wth_append, if_neg (fun hc => d1 hc.2)])
    by_cases c2 : i + 1 < ps.length
    · rw [cT (by omega), at_nv c2, Option.bind_some]
      have hd2 := List.drop_eq_getElem_cons c2
      have hlt : ps[i] < ps[i + 1] := by
        have : ∀ (m : List Nat) (j : Nat), Ris m → Ris (m.drop j) := by
          intro m j hm
          induction j generalizing m with
          | zero => exact hm
          | succ j ih =>
            cases m with
            | nil => trivial
            | cons a m => exact ih m (ris_tail hm)
        have h2 := this ps i hs
        rw [hd, hd2] at h2
        exact h2.1
      exact go ps[i + 1] (by rw [hd2]; rfl) hlt (Nat.le_of_lt (hm _ (List.getElem_mem c2)))
    · rw [cF (by omega)]
      exact go to (by rw [List.drop_of_length_le (by omega)]; rfl) hpt (Nat.le_refl _)
theorem g78 {k a n fr to : Nat} {s : Int} {b : Bool} {o : Option Bool} {l : List Rn} (hl : l.length ≤ 70) (hr : ∀ r ∈ l, r.e ≤ M) (ht : fr < to) (hto : to ≤ M) (ha : a ≤ M) (han : a + n < 18446744073709551616) (hk : 1500 ≤ k) :
    F78 k o b 3 (l.map rv) (a : Int) (n : Int) s (fr : Int) (to : Int) = some (none, false, 3, (states l a (a + n) s fr to).map rv) := by
  unfold F78
  obtain ⟨a1, a2, a3, a4, a5⟩ := mor_ok (l := [fr]) (n := a) (most := to) trivial (by simpa using ht)
  obtain ⟨b1, b2, b3, b4, b5⟩ := mor_ok (n := a + n) a1 a2
  obtain ⟨p1, p2, p3, p4, p5, p6, p7⟩ := places_ok (l := l) (a := a) (b := a + n) ht
  obtain ⟨o1, b1', e1⟩ := g112 (k := k + 5) (n := a) (most := to) (b := false) (o := none) (l := [fr]) (by simp) trivial (by omega)
  obtain ⟨o2, b2', e2⟩ := g112 (k := k + 5) (n := a + n) (most := to) (b := b1') (o := o1) (l := mor [fr] a to) (by simp at a5; omega) a1 (by omega)
  have e1 : F112 (k + 5) none false 1 [V.int IntKind.u64 (fr : Int)] (a : Int) (to : Int) = _ := e1
  rw [e1, Option.bind_some]
  simp only
  rw [show IntKind.u64.wrap ((a : Int) + (n : Int)) = ((a + n : Nat) : Int) by rw [wu (by omega) (by omega)]; omega, e2, Option.bind_some]
  simp only
  obtain ⟨z, b', o', X, e3, e4⟩ := L78_16_run (k := k) (to := to) (i0 := a) (i1 := n) (i2 := s) (i3 := fr) (b0 := b) (o0 := o) (l := l) hl hr (by omega) l.length 0 (k + 8) o2 b2' (mor (mor [fr] a to) (a + n) to) (by omega) (by omega) (by omega) b1 b2 (by simp at a5; omega)
  rw [show ((0 : Nat) : Int) = 0 from rfl] at e3
  rw [e3, Option.bind_some]
  simp only
  have e4 : X = places l a (a + n) fr to := e4
  obtain ⟨z2, Y, e5, e6⟩ := L78_17_run (k := k) (a := a) (n := n) (fr := fr) (to := to) (s := s) (i5 := z) (b0 := b) (b3 := b') (o0 := o) (o3 := o') (l := l) (ps := X) hl (by rw [e4]; omega) (by rw [e4]; exact p1) (by rw [e4]; exact p2) hto ha (by omega) X.length 0 (k + 8) [] (by omega) (by omega) (by rw [e4]; omega) (by simp) (by simp)
  rw [show ((0 : Nat) : Int) = 0 from rfl] at e5
  simp only [List.map_nil] at e5
  rw [e5, Option.bind_some]
  have e6 : Y = states l a (a + n) s fr to := by rw [e6, e4]; rfl
  rw [e6]

theorem L40_run {k : Nat} {i0 i1 i2 : Int} {b0 b1 : Bool} {x0 : List V} {o0 o1 : Option Bool} {n0 : Nat} {l : List Rn} (hl : l.length ≤ 1000) : ∀ (c i f : Nat) (out : List Rn), l.length - i = c → i ≤ l.length → c < f → out.length ≤ i →
    ∃ (z : Int) (X : List Rn), L40_18 k i0 i1 i2 b0 b1 x0 (l.map rv) o0 o1 n0 3 f (i : Int) (out.map rv) = some (.e0 z (X.map rv)) ∧ X = out ++ noHole (l.drop i) := by
  intro c
  induction c with
  | zero =>
    intro i f out hc hi hf ho
    obtain ⟨f, rfl⟩ : ∃ g, f = g + 1 := ⟨f - 1, by omega⟩
    refine ⟨i, out, ?_, ?_⟩
    · rw [L40_18, List.length_map, cF (by omega)]
    · rw [List.drop_of_length_le (by omega)]; simp [noHole]
  | succ c ih =>
    intro i f out hc hi hf ho
    obtain ⟨f, rfl⟩ : ∃ g, f = g + 1 := ⟨f - 1, by omega⟩
    have hi2 : i < l.length := by omega
    have en : IntKind.i64.wrap ((i : Int) + 1) = ((i + 1 : Nat) : Int) := by rw [wi (by omega) (by omega)]; omega
    have hd := List.drop_eq_getElem_cons hi2
    rw [L40_18, List.length_map, cT (by omega), gp rfl, at_rv hi2, Option.bind_some]
    simp only
    rw [en]
    by_cases h : l[i].s = 0
    · obtain ⟨z, X, e1, e2⟩ := ih (i + 1) f out (by omega) (by omega) (by omega) (by omega)
      rw [cNT h]
      refine ⟨z, X, e1, ?_⟩
      rw [e2, hd]; unfold noHole; rw [List.filter_cons_of_neg (by simp [h])]
    · obtain ⟨z, X, e1, e2⟩ := ih (i + 1) f (out ++ [l[i]]) (by omega) (by omega) (by omega) (by simp; omega)
      simp only [List.map_append, List.map_cons, List.map_nil, rv] at e1
      rw [cNF h, gp (by rw [List.length_map]; simp only [maxLen']; omega)]
      refine ⟨z, X, e1, ?_⟩
      rw [e2, hd]; unfold noHole; rw [List.filter_cons_of_pos (by simp [h])]; simp
theorem g40 {k a n : Nat} {s : Int} {b : Bool} {o : Option Bool} {l : List Rn} (hl : l.length ≤ 70) (rt : Rt l) (hs : s = 0 ∨ s = 1 ∨ s = 2) (hn : 1 ≤ n) (han : a + n ≤ M) (hk : 1500 ≤ k) :
    F40 k o b 3 (l.map rv) (a : Int) (n : Int) s = some (none, false, 3, (put l a (a + n) s).map rv) := by
  have hM : M = 576460752303423488 := rfl
  unfold F40
  have h := g78 (k := k + 2) (a := a) (n := n) (fr := 0) (to := M) (s := s) (b := b) (o := o) hl (fun r h => (rt.one r h).2.1) (by omega) (Nat.le_refl _) (by omega) (by omega) (by omega)
  rw [show ((0 : Nat) : Int) = 0 from rfl, show ((M : Nat) : Int) = 576460752303423488 from rfl] at h
  rw [h, Option.bind_some]
  simp only
  have sl := states_len (l := l) (a := a) (b := a + n) (s := s) (fr := 0) (to := M) (by omega)
  obtain ⟨z, X, e1, e2⟩ := L40_run (k := k) (i0 := a) (i1 := n) (i2 := s) (b0 := b) (b1 := false) (x0 := l.map rv) (o0 := o) (o1 := none) (n0 := 3) (l := states l a (a + n) s 0 M) (by omega) (states l a (a + n) s 0 M).length 0 (k + 11) [] (by omega) (by omega) (by omega) (by simp)
  rw [show ((0 : Nat) : Int) = 0 from rfl] at e1
  simp only [List.map_nil] at e1
  rw [e1, Option.bind_some]
  have e2 : X = noHole (states l a (a + n) s 0 M) := e2
  obtain ⟨s1, s2, s3⟩ := states_ok (l := l) (a := a) (b := a + n) (s := s) (fr := 0) (to := M) rt.one hs (by omega)
  obtain ⟨t1, t2, t3, _⟩ := noHole_ok s1 s2
  obtain ⟨u1, u2, u3, u4⟩ := put_ok (a := a) (b := a + n) (s := s) rt (by omega) han hs
  have : X = put l a (a + n) s := by
    rw [e2]
    refine unique t1 t2 u1 u2 fun m => ?_
    have v1 := t3 m
    have v2 := s3 m
    have v3 := at_val rt.one m
    have v4 := fun h : M ≤ m => at_M rt.one h
    have v5 : New l a (a + n) s m = if a ≤ m ∧ m < a + n then s else At 0 l m := rfl
    have v6 := u4 m
    omega
  rw [this]
theorem g43 {k a n : Nat} {b : Bool} {o : Option Bool} {l : List Rn} (hl : l.length ≤ 70) (rt : Rt l) (hn : 1 ≤ n) (han : a + n ≤ M) (hk : 1500 ≤ k) :
    F43 k o b 3 (l.map rv) (a : Int) (n : Int) = some (none, false, 3, (qry l a (a + n)).map rv) := by
  have hM : M = 576460752303423488 := rfl
  unfold F43
  have h := g78 (k := k + 2) (a := M) (n := 1) (fr := a) (to := a + n) (s := 0) (b := b) (o := o) hl (fun r h => (rt.one r h).2.1) (by omega) han (by omega) (by omega) (by omega)
  rw [show ((1 : Nat) : Int) = 1 from rfl, show ((M : Nat) : Int) = 576460752303423488 from rfl] at h
  rw [sZ han, h, Option.bind_some]
  obtain ⟨s1, s2, s3⟩ := states_ok (l := l) (a := M) (b := M + 1) (s := 0) (fr := a) (to := a + n) rt.one (.inl rfl) (by omega)
  obtain ⟨u1, u2, u3⟩ := qry_ok (a := a) (b := a + n) rt (by omega)
  have : states l M (M + 1) 0 a (a + n) = qry l a (a + n) := by
    refine unique s1 s2 u1 u2 fun m => ?_
    rw [s3, u3]
    by_cases hm : a ≤ m ∧ m < a + n
    · rw [if_pos hm, if_pos hm]
      unfold New; rw [if_neg (by omega)]
    · rw [if_neg hm, if_neg hm]
  rw [this]
end Go.Proofs
