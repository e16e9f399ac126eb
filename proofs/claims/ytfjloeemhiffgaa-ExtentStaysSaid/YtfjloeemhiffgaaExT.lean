/-
  Extents, plainly: parts of runs, runs joined, a state put, a span's runs.
-/
import Derived.Test.YtfjloeemhiffgaaExS1
set_option linter.unusedVariables false
set_option linter.unusedSimpArgs false
set_option maxRecDepth 100000
namespace Go.Proofs
open Go Go.Sym Go.Sym.Ex

theorem mnZ (x y : Nat) : (if (x : Int) < (y : Int) then (x : Int) else (y : Int)) = ((min x y : Nat) : Int) := by split <;> omega
theorem mxZ (x y : Nat) : (if (x : Int) < (y : Int) then (y : Int) else (x : Int)) = ((max x y : Nat) : Int) := by split <;> omega
theorem eZ {r : Rn} (h : r.e ≤ M) : IntKind.u64.wrap ((r.f : Int) + (r.l : Int)) = ((r.e : Nat) : Int) := by
  have hE : r.e = r.f + r.l := rfl
  simp only [M] at h
  rw [wu (by omega) (by omega)]; omega
theorem sZ {a n : Nat} (h : a + n ≤ M) : IntKind.u64.wrap ((a : Int) + (n : Int)) = ((a + n : Nat) : Int) := by
  simp only [M] at h
  rw [wu (by omega) (by omega)]; omega
theorem dZ {x y : Nat} (h : y ≤ x) (hx : x ≤ M) : IntKind.u64.wrap ((x : Int) - (y : Int)) = ((x - y : Nat) : Int) := by
  simp only [M] at hx
  rw [wu (by omega) (by omega)]; omega

theorem L73_run {k a n : Nat} {b : Bool} {o : Option Bool} {l : List Rn} (hl : l.length ≤ 1000) (hr : ∀ r ∈ l, 1 ≤ r.l ∧ r.e ≤ M) (han : a + n ≤ M) : ∀ (c i f : Nat) (A I B : List Rn), l.length - i = c → i ≤ l.length → c < f → A.length ≤ i → I.length ≤ i → B.length ≤ i →
    ∃ (z : Int) (A' I' B' : List Rn), L73_1 k (a : Int) (n : Int) b (l.map rv) o 3 f (i : Int) (A.map rv) (I.map rv) (B.map rv) = some (.e0 z (A'.map rv) (I'.map rv) (B'.map rv)) ∧
      A' = A ++ pA a (l.drop i) ∧ I' = I ++ pI a (a + n) (l.drop i) ∧ B' = B ++ pB (a + n) (l.drop i) := by
  intro c
  induction c with
  | zero =>
    intro i f A I B hc hi hf hA hI hB
    obtain ⟨f, rfl⟩ : ∃ g, f = g + 1 := ⟨f - 1, by omega⟩
    refine ⟨i, A, I, B, ?_, ?_, ?_, ?_⟩
    · rw [L73_1, List.length_map, cF (by omega)]
    all_goals rw [List.drop_of_length_le (by omega)]; simp [pA, pI, pB]
  | succ c ih =>
    intro i f A I B hc hi hf hA hI hB
    obtain ⟨f, rfl⟩ : ∃ g, f = g + 1 := ⟨f - 1, by omega⟩
    have hi2 : i < l.length := by omega
    have hri := hr l[i] (List.getElem_mem hi2)
    have hE : l[i].e = l[i].f + l[i].l := rfl
    have en : IntKind.i64.wrap ((i : Int) + 1) = ((i + 1 : Nat) : Int) := by rw [wi (by omega) (by omega)]; omega
    have fin : ∀ dA dI dB : List Rn, dA.length ≤ 1 → dI.length ≤ 1 → dB.length ≤ 1 → pA a (l.drop i) = dA ++ pA a (l.drop (i + 1)) → pI a (a + n) (l.drop i) = dI ++ pI a (a + n) (l.drop (i + 1)) → pB (a + n) (l.drop i) = dB ++ pB (a + n) (l.drop (i + 1)) →
        ∃ (z : Int) (A' I' B' : List Rn), L73_1 k (a : Int) (n : Int) b (l.map rv) o 3 f ((i + 1 : Nat) : Int) ((A ++ dA).map rv) ((I ++ dI).map rv) ((B ++ dB).map rv) = some (.e0 z (A'.map rv) (I'.map rv) (B'.map rv)) ∧
          A' = A ++ pA a (l.drop i) ∧ I' = I ++ pI a (a + n) (l.drop i) ∧ B' = B ++ pB (a + n) (l.drop i) := by
      intro dA dI dB h1 h2 h3 h4 h5 h6
      obtain ⟨z, A', I', B', e1, e2, e3, e4⟩ := ih (i + 1) f (A ++ dA) (I ++ dI) (B ++ dB) (by omega) (by omega) (by omega) (by simp; omega) (by simp; omega) (by simp; omega)
      exact ⟨z, A', I', B', e1, by rw [e2, h4, List.append_assoc], by rw [e3, h5, List.append_assoc], by rw [e4, h6, List.append_assoc]⟩
    have qA : l[i].f < a → IntKind.u64.wrap (((min a l[i].e : Nat) : Int) - (l[i].f : Int)) = ((min l[i].e a - l[i].f : Nat) : Int) := fun h => by
      rw [dZ (by omega) (by omega), Nat.min_comm]
    have qI : max l[i].f a < min (a + n) l[i].e → IntKind.u64.wrap (((min (a + n) l[i].e : Nat) : Int) - ((max l[i].f a : Nat) : Int)) = ((min l[i].e (a + n) - max l[i].f a : Nat) : Int) := fun h => by
      rw [dZ (by omega) (by omega), Nat.min_comm]
    have qB : a + n < l[i].e → IntKind.u64.wrap (((l[i].e : Nat) : Int) - ((max l[i].f (a + n) : Nat) : Int)) = ((l[i].e - max l[i].f (a + n) : Nat) : Int) := fun h => dZ (by omega) (by omega)
    have ga : ∀ {x : List Rn} {y : V}, x.length ≤ i → (x.map rv).length + 1 ≤ maxLen' := fun h => by rw [List.length_map]; simp only [maxLen']; omega
    have pAT : l[i].f < a → pA a (l.drop i) = [⟨l[i].f, min l[i].e a - l[i].f, l[i].s⟩] ++ pA a (l.drop (i + 1)) := fun h => by rw [List.drop_eq_getElem_cons hi2, pA, if_pos h]; rfl
    have pAF : ¬l[i].f < a → pA a (l.drop i) = [] ++ pA a (l.drop (i + 1)) := fun h => by rw [List.drop_eq_getElem_cons hi2, pA, if_neg h]; rfl
    have pIT : max l[i].f a < min (a + n) l[i].e → pI a (a + n) (l.drop i) = [⟨max l[i].f a, min l[i].e (a + n) - max l[i].f a, l[i].s⟩] ++ pI a (a + n) (l.drop (i + 1)) := fun h => by rw [List.drop_eq_getElem_cons hi2, pI, if_pos (by omega)]; rfl
    have pIF : ¬max l[i].f a < min (a + n) l[i].e → pI a (a + n) (l.drop i) = [] ++ pI a (a + n) (l.drop (i + 1)) := fun h => by rw [List.drop_eq_getElem_cons hi2, pI, if_neg (by omega)]; rfl
    have pBT : a + n < l[i].e → pB (a + n) (l.drop i) = [⟨max l[i].f (a + n), l[i].e - max l[i].f (a + n), l[i].s⟩] ++ pB (a + n) (l.drop (i + 1)) := fun h => by rw [List.drop_eq_getElem_cons hi2, pB, if_pos h]; rfl
    have pBF : ¬a + n < l[i].e → pB (a + n) (l.drop i) = [] ++ pB (a + n) (l.drop (i + 1)) := fun h => by rw [List.drop_eq_getElem_cons hi2, pB, if_neg h]; rfl
    rw [L73_1, List.length_map, cT (by omega), gp rfl, at_rv hi2, Option.bind_some]
    simp only
    rw [g79, Option.bind_some, eZ hri.2, sZ han, mnZ, mnZ, mxZ, mxZ, en]

    by_cases c1 : l[i].f < a
    · rw [cT (by omega), gp (ga (y := V.bool true) hA)]
      by_cases c2 : max l[i].f a < min (a + n) l[i].e
      · rw [cT (by omega), gp (ga (y := V.bool true) hI)]
        by_cases c3 : a + n < l[i].e
        · rw [cT (by omega), gp (ga (y := V.bool true) hB)]
          rw [qA c1, qI c2, qB c3]
          have fi := fin [⟨l[i].f, min l[i].e a - l[i].f, l[i].s⟩] [⟨max l[i].f a, min l[i].e (a + n) - max l[i].f a, l[i].s⟩] [⟨max l[i].f (a + n), l[i].e - max l[i].f (a + n), l[i].s⟩] (by simp) (by simp) (by simp) (pAT c1) (pIT c2) (pBT c3)
          simp only [List.map_append, List.map_cons, List.map_nil, rv, List.append_nil] at fi
          exact fi
        · rw [cF (by omega)]
          rw [qA c1, qI c2]
          have fi := fin [⟨l[i].f, min l[i].e a - l[i].f, l[i].s⟩] [⟨max l[i].f a, min l[i].e (a + n) - max l[i].f a, l[i].s⟩] [] (by simp) (by simp) (by simp) (pAT c1) (pIT c2) (pBF c3)
          simp only [List.map_append, List.map_cons, List.map_nil, rv, List.append_nil] at fi
          exact fi
      · rw [cF (by omega)]
        by_cases c3 : a + n < l[i].e
        · rw [cT (by omega), gp (ga (y := V.bool true) hB)]
          rw [qA c1, qB c3]
          have fi := fin [⟨l[i].f, min l[i].e a - l[i].f, l[i].s⟩] [] [⟨max l[i].f (a + n), l[i].e - max l[i].f (a + n), l[i].s⟩] (by simp) (by simp) (by simp) (pAT c1) (pIF c2) (pBT c3)
          simp only [List.map_append, List.map_cons, List.map_nil, rv, List.append_nil] at fi
          exact fi
        · rw [cF (by omega)]
          rw [qA c1]
          have fi := fin [⟨l[i].f, min l[i].e a - l[i].f, l[i].s⟩] [] [] (by simp) (by simp) (by simp) (pAT c1) (pIF c2) (pBF c3)
          simp only [List.map_append, List.map_cons, List.map_nil, rv, List.append_nil] at fi
          exact fi
    · rw [cF (by omega), Option.bind_some, mnZ]
      by_cases c2 : max l[i].f a < min (a + n) l[i].e
      · rw [cT (by omega), gp (ga (y := V.bool true) hI)]
        by_cases c3 : a + n < l[i].e
        · rw [cT (by omega), gp (ga (y := V.bool true) hB)]
          rw [qI c2, qB c3]
          have fi := fin [] [⟨max l[i].f a, min l[i].e (a + n) - max l[i].f a, l[i].s⟩] [⟨max l[i].f (a + n), l[i].e - max l[i].f (a + n), l[i].s⟩] (by simp) (by simp) (by simp) (pAF c1) (pIT c2) (pBT c3)
          simp only [List.map_append, List.map_cons, List.map_nil, rv, List.append_nil] at fi
          exact fi
        · rw [cF (by omega)]
          rw [qI c2]
          have fi := fin [] [⟨max l[i].f a, min l[i].e (a + n) - max l[i].f a, l[i].s⟩] [] (by simp) (by simp) (by simp) (pAF c1) (pIT c2) (pBF c3)
          simp only [List.map_append, List.map_cons, List.map_nil, rv, List.append_nil] at fi
          exact fi
      · rw [cF (by omega)]
        by_cases c3 : a + n < l[i].e
        · rw [cT (by omega), gp (ga (y := V.bool true) hB)]
          rw [qB c3]
          have fi := fin [] [] [⟨max l[i].f (a + n), l[i].e - max l[i].f (a + n), l[i].s⟩] (by simp) (by simp) (by simp) (pAF c1) (pIF c2) (pBT c3)
          simp only [List.map_append, List.map_cons, List.map_nil, rv, List.append_nil] at fi
          exact fi
        · rw [cF (by omega)]
          skip
          have fi := fin [] [] [] (by simp) (by simp) (by simp) (pAF c1) (pIF c2) (pBF c3)
          simp only [List.map_append, List.map_cons, List.map_nil, rv, List.append_nil] at fi
          exact fi
theorem g73 {k a n : Nat} {b : Bool} {o : Option Bool} {l : List Rn} (hl : l.length ≤ 500) (hr : ∀ r ∈ l, 1 ≤ r.l ∧ r.e ≤ M) (han : a + n ≤ M) (hk : 500 ≤ k) :
    F73 k o b 3 (l.map rv) (a : Int) (n : Int) = some (none, false, 3, (pA a l).map rv, none, false, 3, (pI a (a + n) l).map rv, none, false, 3, (pB (a + n) l).map rv) := by
  unfold F73
  obtain ⟨z, A, I, B, h1, h2, h3, h4⟩ := L73_run (k := k) (b := b) (o := o) (l := l) (by omega) hr han l.length 0 (k + 5) [] [] [] (by omega) (by omega) (by omega) (by simp) (by simp) (by simp)
  rw [show ((0 : Nat) : Int) = 0 from rfl] at h1
  simp only [List.map_nil] at h1
  rw [h1, Option.bind_some, h2, h3, h4]; rfl

def z6 : L36_6_R → Int × Int
  | .e0 a b => (a, b)
  | .e1 a b => (a, b)
  | .e2 a b => (a, b)
theorem L36_6_run {k f0 : Nat} {s : Int} {i0 i1 i2 : Int} {b3 b5 : Bool} {x1 x3 : List V} {o1 o3 : Option Bool} {n1 n3 : Nat} {l out : List Rn} (hl : l.length ≤ 1000) (hr : ∀ r ∈ l, r.e ≤ M) : ∀ (c j f m : Nat), l.length - j = c → j ≤ l.length → c < f → f0 + m ≤ M →
    ∃ (r : L36_6_R) (j' m' : Nat), L36_6 k i0 i1 i2 (f0 : Int) s b3 b5 x1 x3 (l.map rv) (out.map rv) o1 o3 n1 n3 f (j : Int) (m : Int) = some r ∧ z6 r = ((j' : Int), (m' : Int)) ∧ j ≤ j' ∧ j' ≤ l.length ∧ jn ⟨f0, m, s⟩ (l.drop j) = ⟨f0, m', s⟩ :: join (l.drop j') := by
  intro c
  induction c with
  | zero =>
    intro j f m hc hj hf hm
    obtain ⟨f, rfl⟩ : ∃ g, f = g + 1 := ⟨f - 1, by omega⟩
    refine ⟨.e2 j m, j, m, ?_, rfl, Nat.le_refl _, hj, ?_⟩
    · rw [L36_6, List.length_map, cF (by omega)]
    · rw [List.drop_of_length_le (by omega)]; rfl
  | succ c ih =>
    intro j f m hc hj hf hm
    obtain ⟨f, rfl⟩ : ∃ g, f = g + 1 := ⟨f - 1, by omega⟩
    have hj2 : j < l.length := by omega
    have hrj := hr l[j] (List.getElem_mem hj2)
    have hE : l[j].e = l[j].f + l[j].l := rfl
    have en : IntKind.i64.wrap ((j : Int) + 1) = ((j + 1 : Nat) : Int) := by rw [wi (by omega) (by omega)]; omega
    have hd : l.drop j = l[j] :: l.drop (j + 1) := List.drop_eq_getElem_cons hj2
    have stop : ¬(f0 + m = l[j].f ∧ s = l[j].s) → jn ⟨f0, m, s⟩ (l.drop j) = ⟨f0, m, s⟩ :: join (l.drop j) := fun h => by
      rw [hd, jn]; exact if_neg h
    have hms : f0 + m = l[j].f → m + l[j].l ≤ M := fun h => by omega
    rw [L36_6, List.length_map, cT (by omega), g79, Option.bind_some, sZ hm, gp (by omega), Int.toNat_natCast, get_rv hj2, Option.bind_some]
    simp only
    by_cases c1 : f0 + m = l[j].f
    · rw [cT (by omega)]
      by_cases c2 : s = l[j].s
      · have hmm := hms c1
        obtain ⟨r, j', m', h1, h2, h3, h4, h5⟩ := ih (j + 1) f (m + l[j].l) (by omega) (by omega) (by omega) (by omega)
        rw [cT c2, en, sZ hmm]
        refine ⟨r, j', m', h1, h2, by omega, h4, ?_⟩
        rw [hd, jn, if_pos ⟨c1, c2⟩, h5]
      · rw [cF c2]
        exact ⟨_, j, m, rfl, rfl, Nat.le_refl _, hj, stop fun h => c2 h.2⟩
    · rw [cF (by omega)]
      exact ⟨_, j, m, rfl, rfl, Nat.le_refl _, hj, stop fun h => c1 h.1⟩
theorem L36_4_run {k : Nat} {i0 i1 i2 : Int} {b3 b5 : Bool} {x1 x3 : List V} {o1 o3 : Option Bool} {n1 n3 : Nat} {l : List Rn} (hl : l.length ≤ 1000) (hr : ∀ r ∈ l, r.e ≤ M) (hk : 1000 ≤ k) : ∀ (c i f : Nat) (out : List Rn), l.length - i ≤ c → i ≤ l.length → c < f → out.length ≤ i →
    ∃ (z : Int) (X : List Rn), L36_4 k i0 i1 i2 b3 b5 x1 x3 (l.map rv) o1 o3 n1 n3 f (i : Int) (out.map rv) = some (.e0 z (X.map rv)) ∧ X = out ++ join (l.drop i) := by
  intro c
  induction c with
  | zero =>
    intro i f out hc hi hf ho
    obtain ⟨f, rfl⟩ : ∃ g, f = g + 1 := ⟨f - 1, by omega⟩
    refine ⟨i, out, ?_, ?_⟩
    · rw [L36_4, List.length_map, cF (by omega)]
    · rw [List.drop_of_length_le (by omega)]; simp [join]
  | succ c ih =>
    intro i f out hc hi hf ho
    obtain ⟨f, rfl⟩ : ∃ g, f = g + 1 := ⟨f - 1, by omega⟩
    by_cases hi2 : i < l.length
    · have hE : l[i].e = l[i].f + l[i].l := rfl
      have en : IntKind.i64.wrap ((i : Int) + 1) = ((i + 1 : Nat) : Int) := by rw [wi (by omega) (by omega)]; omega
      obtain ⟨r, j', m', h1, h2, h3, h4, h5⟩ := L36_6_run (k := k) (f0 := l[i].f) (s := l[i].s) (i0 := i0) (i1 := i1) (i2 := i2) (b3 := b3) (b5 := b5) (x1 := x1) (x3 := x3) (o1 := o1) (o3 := o3) (n1 := n1) (n3 := n3) (l := l) (out := out) hl hr (l.length - (i + 1)) (i + 1) (k + 8) l[i].l rfl (by omega) (by omega) (hr l[i] (List.getElem_mem hi2))
      obtain ⟨z, X, e1, e2⟩ := ih j' f (out ++ [⟨l[i].f, m', l[i].s⟩]) (by omega) h4 (by omega) (by simp; omega)
      simp only [List.map_append, List.map_cons, List.map_nil, rv] at e1
      refine ⟨z, X, ?_, ?_⟩
      · rw [L36_4, List.length_map, cT (by omega), gp (by omega), Int.toNat_natCast, get_rv hi2, Option.bind_some]
        simp only
        rw [en, h1, Option.bind_some]
        cases r <;> (simp only [z6, Prod.mk.injEq] at h2; obtain ⟨rfl, rfl⟩ := h2; simp only; rw [gp (by rw [List.length_map]; simp only [maxLen']; omega)]; exact e1)
      · rw [e2, List.append_assoc, List.drop_eq_getElem_cons hi2]
        show out ++ ([⟨l[i].f, m', l[i].s⟩] ++ join (l.drop j')) = out ++ jn l[i] (l.drop (i + 1))
        rw [show l[i] = ⟨l[i].f, l[i].l, l[i].s⟩ from rfl, h5]; rfl
    · refine ⟨i, out, ?_, ?_⟩
      · rw [L36_4, List.length_map, cF (by omega)]
      · rw [List.drop_of_length_le (by omega)]; simp [join]

def z11 : L36_11_R → Int × Int
  | .e0 a b => (a, b)
  | .e1 a b => (a, b)
  | .e2 a b => (a, b)
theorem L36_11_run {k f0 : Nat} {s : Int} {i0 i1 : Int} {b2 b4 : Bool} {x1 x3 : List V} {o1 o3 : Option Bool} {n1 n3 : Nat} {l out : List Rn} (hl : l.length ≤ 1000) (hr : ∀ r ∈ l, r.e ≤ M) : ∀ (c j f m : Nat), l.length - j = c → j ≤ l.length → c < f → f0 + m ≤ M →
    ∃ (r : L36_11_R) (j' m' : Nat), L36_11 k i0 i1 (f0 : Int) s b2 b4 x1 x3 (l.map rv) (out.map rv) o1 o3 n1 n3 f (j : Int) (m : Int) = some r ∧ z11 r = ((j' : Int), (m' : Int)) ∧ j ≤ j' ∧ j' ≤ l.length ∧ jn ⟨f0, m, s⟩ (l.drop j) = ⟨f0, m', s⟩ :: join (l.drop j') := by
  intro c
  induction c with
  | zero =>
    intro j f m hc hj hf hm
    obtain ⟨f, rfl⟩ : ∃ g, f = g + 1 := ⟨f - 1, by omega⟩
    refine ⟨.e2 j m, j, m, ?_, rfl, Nat.le_refl _, hj, ?_⟩
    · rw [L36_11, List.length_map, cF (by omega)]
    · rw [List.drop_of_length_le (by omega)]; rfl
  | succ c ih =>
    intro j f m hc hj hf hm
    obtain ⟨f, rfl⟩ : ∃ g, f = g + 1 := ⟨f - 1, by omega⟩
    have hj2 : j < l.length := by omega
    have hrj := hr l[j] (List.getElem_mem hj2)
    have hE : l[j].e = l[j].f + l[j].l := rfl
    have en : IntKind.i64.wrap ((j : Int) + 1) = ((j + 1 : Nat) : Int) := by rw [wi (by omega) (by omega)]; omega
    have hd : l.drop j = l[j] :: l.drop (j + 1) := List.drop_eq_getElem_cons hj2
    have stop : ¬(f0 + m = l[j].f ∧ s = l[j].s) → jn ⟨f0, m, s⟩ (l.drop j) = ⟨f0, m, s⟩ :: join (l.drop j) := fun h => by
      rw [hd, jn]; exact if_neg h
    have hms : f0 + m = l[j].f → m + l[j].l ≤ M := fun h => by omega
    rw [L36_11, List.length_map, cT (by omega), g79, Option.bind_some, sZ hm, gp (by omega), Int.toNat_natCast, get_rv hj2, Option.bind_some]
    simp only
    by_cases c1 : f0 + m = l[j].f
    · rw [cT (by omega)]
      by_cases c2 : s = l[j].s
      · have hmm := hms c1
        obtain ⟨r, j', m', h1, h2, h3, h4, h5⟩ := ih (j + 1) f (m + l[j].l) (by omega) (by omega) (by omega) (by omega)
        rw [cT c2, en, sZ hmm]
        refine ⟨r, j', m', h1, h2, by omega, h4, ?_⟩
        rw [hd, jn, if_pos ⟨c1, c2⟩, h5]
      · rw [cF c2]
        exact ⟨_, j, m, rfl, rfl, Nat.le_refl _, hj, stop fun h => c2 h.2⟩
    · rw [cF (by omega)]
      exact ⟨_, j, m, rfl, rfl, Nat.le_refl _, hj, stop fun h => c1 h.1⟩
theorem L36_9_run {k : Nat} {i0 i1 : Int} {b2 b4 : Bool} {x1 x3 : List V} {o1 o3 : Option Bool} {n1 n3 : Nat} {l : List Rn} (hl : l.length ≤ 1000) (hr : ∀ r ∈ l, r.e ≤ M) (hk : 1000 ≤ k) : ∀ (c i f : Nat) (out : List Rn), l.length - i ≤ c → i ≤ l.length → c < f → out.length ≤ i →
    ∃ (z : Int) (X : List Rn), L36_9 k i0 i1 b2 b4 x1 x3 (l.map rv) o1 o3 n1 n3 f (i : Int) (out.map rv) = some (.e0 z (X.map rv)) ∧ X = out ++ join (l.drop i) := by
  intro c
  induction c with
  | zero =>
    intro i f out hc hi hf ho
    obtain ⟨f, rfl⟩ : ∃ g, f = g + 1 := ⟨f - 1, by omega⟩
    refine ⟨i, out, ?_, ?_⟩
    · rw [L36_9, List.length_map, cF (by omega)]
    · rw [List.drop_of_length_le (by omega)]; simp [join]
  | succ c ih =>
    intro i f out hc hi hf ho
    obtain ⟨f, rfl⟩ : ∃ g, f = g + 1 := ⟨f - 1, by omega⟩
    by_cases hi2 : i < l.length
    · have hE : l[i].e = l[i].f + l[i].l := rfl
      have en : IntKind.i64.wrap ((i : Int) + 1) = ((i + 1 : Nat) : Int) := by rw [wi (by omega) (by omega)]; omega
      obtain ⟨r, j', m', h1, h2, h3, h4, h5⟩ := L36_11_run (k := k) (f0 := l[i].f) (s := l[i].s) (i0 := i0) (i1 := i1) (b2 := b2) (b4 := b4) (x1 := x1) (x3 := x3) (o1 := o1) (o3 := o3) (n1 := n1) (n3 := n3) (l := l) (out := out) hl hr (l.length - (i + 1)) (i + 1) (k + 8) l[i].l rfl (by omega) (by omega) (hr l[i] (List.getElem_mem hi2))
      obtain ⟨z, X, e1, e2⟩ := ih j' f (out ++ [⟨l[i].f, m', l[i].s⟩]) (by omega) h4 (by omega) (by simp; omega)
      simp only [List.map_append, List.map_cons, List.map_nil, rv] at e1
      refine ⟨z, X, ?_, ?_⟩
      · rw [L36_9, List.length_map, cT (by omega), gp (by omega), Int.toNat_natCast, get_rv hi2, Option.bind_some]
        simp only
        rw [en, h1, Option.bind_some]
        cases r <;> (simp only [z11, Prod.mk.injEq] at h2; obtain ⟨rfl, rfl⟩ := h2; simp only; rw [gp (by rw [List.length_map]; simp only [maxLen']; omega)]; exact e1)
      · rw [e2, List.append_assoc, List.drop_eq_getElem_cons hi2]
        show out ++ ([⟨l[i].f, m', l[i].s⟩] ++ join (l.drop j')) = out ++ jn l[i] (l.drop (i + 1))
        rw [show l[i] = ⟨l[i].f, l[i].l, l[i].s⟩ from rfl, h5]; rfl
    · refine ⟨i, out, ?_, ?_⟩
      · rw [L36_9, List.length_map, cF (by omega)]
      · rw [List.drop_of_length_le (by omega)]; simp [join]


/-! ### Lists put together -/
theorem L36_2_run {k f : Nat} {i0 i1 i2 : Int} {b3 b5 : Bool} {x1 x3 : List V} {o1 o3 : Option Bool} {n1 n3 : Nat} (h1 : x1.length ≤ 1000) (h3 : x3.length ≤ 1000) :
    ∃ z, L36_2 k i0 i1 i2 b3 b5 x1 x3 o1 o3 n1 n3 (f + 4) 0 0 = some (.e0 ((x1.length + 1 + x3.length : Nat) : Int) z) := by
  refine ⟨3, ?_⟩
  have e1 : IntKind.i64.wrap (0 + (x1.length : Int)) = (x1.length : Int) := by rw [wi (by omega) (by omega)]; omega
  have e2 : IntKind.i64.wrap ((x1.length : Int) + (([V.agg [V.int .u64 i0, V.int .u64 i1, V.int .i64 i2]] : List V).length : Int)) = ((x1.length + 1 : Nat) : Int) := by rw [List.length_singleton, wi (by omega) (by omega)]; omega
  have e3 : IntKind.i64.wrap (((x1.length + 1 : Nat) : Int) + (x3.length : Int)) = ((x1.length + 1 + x3.length : Nat) : Int) := by rw [wi (by omega) (by omega)]; omega
  rw [L36_2, cT (by simp), gp (by simp)]
  simp only [show (0 : Int).toNat = 0 from rfl, List.getElem?_cons_zero, Option.bind_some, dx]
  rw [e1, cF (by omega), show IntKind.i64.wrap (0 + 1) = 1 from rfl, L36_2, cT (by simp), gp (by simp)]
  simp only [show (1 : Int).toNat = 1 from rfl, List.getElem?_cons_succ, List.getElem?_cons_zero, Option.bind_some, dx]
  rw [cF (by rw [e2]; omega), e2, show IntKind.i64.wrap (1 + 1) = 2 from rfl, L36_2, cT (by simp), gp (by simp)]
  simp only [show (2 : Int).toNat = 2 from rfl, List.getElem?_cons_succ, List.getElem?_cons_zero, Option.bind_some, dx]
  rw [e3, cF (by omega), show IntKind.i64.wrap (2 + 1) = 3 from rfl, L36_2, cF (by simp)]
theorem L36_3_run {k f : Nat} {i0 i1 i2 i4 i5 : Int} {b3 b5 : Bool} {x1 x3 : List V} {o1 o3 : Option Bool} (h1 : x1.length ≤ 1000) (h3 : x3.length ≤ 1000) :
    ∃ z, L36_3 k i0 i1 i2 i4 i5 b3 b5 x1 x3 o1 o3 3 3 (f + 4) 0 [] = some (.e0 z (x1 ++ ([V.agg [V.int .u64 i0, V.int .u64 i1, V.int .i64 i2]] ++ x3))) := by
  refine ⟨3, ?_⟩
  rw [L36_3, cT (by simp), gp (by simp)]
  simp only [show (0 : Int).toNat = 0 from rfl, List.getElem?_cons_zero, Option.bind_some, dx]
  rw [gp (.inl trivial), gp (by simp [maxLen']; omega), show IntKind.i64.wrap (0 + 1) = 1 from rfl, L36_3, cT (by simp), gp (by simp)]
  simp only [show (1 : Int).toNat = 1 from rfl, List.getElem?_cons_succ, List.getElem?_cons_zero, Option.bind_some, dx, List.length_singleton]
  rw [gp (.inl trivial), gp (by simp [maxLen']; omega), show IntKind.i64.wrap (1 + 1) = 2 from rfl, L36_3, cT (by simp), gp (by simp)]
  simp only [show (2 : Int).toNat = 2 from rfl, List.getElem?_cons_succ, List.getElem?_cons_zero, Option.bind_some, dx]
  rw [gp (.inl trivial), gp (by simp [maxLen']; omega), show IntKind.i64.wrap (2 + 1) = 3 from rfl, L36_3, cF (by simp)]
  simp only [List.nil_append, List.append_assoc]
theorem L36_7_run {k f : Nat} {i0 i1 : Int} {b3 b5 : Bool} {x1 x3 : List V} {o1 o3 : Option Bool} {n1 n3 : Nat} (h1 : x1.length ≤ 1000) (h3 : x3.length ≤ 1000) :
    ∃ z, L36_7 k i0 i1 b3 b5 x1 x3 o1 o3 n1 n3 (f + 4) 0 0 = some (.e0 ((x1.length + x3.length : Nat) : Int) z) := by
  refine ⟨3, ?_⟩
  have e1 : IntKind.i64.wrap (0 + (x1.length : Int)) = (x1.length : Int) := by rw [wi (by omega) (by omega)]; omega
  have e2 : IntKind.i64.wrap ((x1.length : Int) + (([] : List V).length : Int)) = ((x1.length : Nat) : Int) := by rw [List.length_nil, wi (by omega) (by omega)]; omega
  have e3 : IntKind.i64.wrap (((x1.length : Nat) : Int) + (x3.length : Int)) = ((x1.length + x3.length : Nat) : Int) := by rw [wi (by omega) (by omega)]; omega
  rw [L36_7, cT (by simp), gp (by simp)]
  simp only [show (0 : Int).toNat = 0 from rfl, List.getElem?_cons_zero, Option.bind_some, dx]
  rw [e1, cF (by omega), show IntKind.i64.wrap (0 + 1) = 1 from rfl, L36_7, cT (by simp), gp (by simp)]
  simp only [show (1 : Int).toNat = 1 from rfl, List.getElem?_cons_succ, List.getElem?_cons_zero, Option.bind_some, dx]
  rw [cF (by rw [e2]; omega), e2, show IntKind.i64.wrap (1 + 1) = 2 from rfl, L36_7, cT (by simp), gp (by simp)]
  simp only [show (2 : Int).toNat = 2 from rfl, List.getElem?_cons_succ, List.getElem?_cons_zero, Option.bind_some, dx]
  rw [e3, cF (by omega), show IntKind.i64.wrap (2 + 1) = 3 from rfl, L36_7, cF (by simp)]
theorem L36_8_run {k f : Nat} {i0 i1 i4 i5 : Int} {b3 b5 : Bool} {x1 x3 : List V} {o1 o3 : Option Bool} (h1 : x1.length ≤ 1000) (h3 : x3.length ≤ 1000) :
    ∃ z, L36_8 k i0 i1 i4 i5 b3 b5 x1 x3 o1 o3 3 3 (f + 4) 0 [] = some (.e0 z (x1 ++ ([] ++ x3))) := by
  refine ⟨3, ?_⟩
  rw [L36_8, cT (by simp), gp (by simp)]
  simp only [show (0 : Int).toNat = 0 from rfl, List.getElem?_cons_zero, Option.bind_some, dx]
  rw [gp (.inl trivial), gp (by simp [maxLen']; omega), show IntKind.i64.wrap (0 + 1) = 1 from rfl, L36_8, cT (by simp), gp (by simp)]
  simp only [show (1 : Int).toNat = 1 from rfl, List.getElem?_cons_succ, List.getElem?_cons_zero, Option.bind_some, dx, List.length_nil]
  rw [gp (.inr rfl), gp (by simp [maxLen']; omega), show IntKind.i64.wrap (1 + 1) = 2 from rfl, L36_8, cT (by simp), gp (by simp)]
  simp only [show (2 : Int).toNat = 2 from rfl, List.getElem?_cons_succ, List.getElem?_cons_zero, Option.bind_some, dx]
  rw [gp (.inl trivial), gp (by simp [maxLen']; omega), show IntKind.i64.wrap (2 + 1) = 3 from rfl, L36_8, cF (by simp)]
  simp only [List.nil_append, List.append_nil, List.append_assoc]

/-! ### A state put -/
/-- Why no state may be put. -/
def errP (l : List Rn) (a n : Nat) (s : Int) : Int := if right l = true ∧ (s = 0 ∨ s = 1 ∨ s = 2) then errB a n else 1
theorem g36e {k a n : Nat} {s : Int} {b : Bool} {o : Option Bool} {l : List Rn} (hl : l.length ≤ 70) (hw : ∀ r ∈ l, Wf r) (ha : a < 18446744073709551616) (hn : n < 18446744073709551616) (hk : 1500 ≤ k) (he : errP l a n s ≠ 0) :
    F36 k o b 3 (l.map rv) (a : Int) (n : Int) s = some (some true, true, 0, [], errP l a n s) := by
  unfold F36
  unfold errP at he ⊢
  rw [g45 (by omega) hw (by omega), Option.bind_some]
  cases hr : right l with
  | false => rw [hr] at he; rfl
  | true =>
    rw [hr] at he
    simp only [Bool.not_true, cond_false, true_and] at he ⊢
    by_cases h0 : s = 0
    · rw [cNT h0]
      rw [if_pos (.inl h0)] at he ⊢
      rw [g72 (by omega) hw ha hn (by omega), Option.bind_some, hr, if_pos rfl, cNF he]
    · rw [cNF h0, g71, Option.bind_some]
      by_cases h1 : s = 1 ∨ s = 2
      · rw [cNT h1]
        rw [if_pos (.inr h1)] at he ⊢
        rw [g72 (by omega) hw ha hn (by omega), Option.bind_some, hr, if_pos rfl, cNF he]
      · rw [cNF h1, if_neg (by omega)]
theorem errP_zero {l : List Rn} {a n : Nat} {s : Int} (h : errP l a n s = 0) : right l = true ∧ (s = 0 ∨ s = 1 ∨ s = 2) ∧ 1 ≤ n ∧ a + n ≤ M := by
  unfold errP at h
  split at h
  · rename_i h1; exact ⟨h1.1, h1.2, errB_zero h⟩
  · omega
theorem g36 {k a n : Nat} {s : Int} {b : Bool} {o : Option Bool} {l : List Rn} (hl : l.length ≤ 70) (hw : ∀ r ∈ l, Wf r) (ha : a < 18446744073709551616) (hn : n < 18446744073709551616) (hk : 1500 ≤ k) (he : errP l a n s = 0) :
    F36 k o b 3 (l.map rv) (a : Int) (n : Int) s = some (if 64 < (put l a (a + n) s).length then (some true, true, 0, [], 6) else (none, false, 3, (put l a (a + n) s).map rv, 0)) := by
  obtain ⟨hr, hs, hn1, han⟩ := errP_zero he
  have hB : errB a n = 0 := by unfold errP at he; rw [if_pos ⟨hr, hs⟩] at he; exact he
  have rt := right_iff.1 hr
  have h1M : ∀ r ∈ l, 1 ≤ r.l ∧ r.e ≤ M := fun r h => ⟨(rt.one r h).1, (rt.one r h).2.1⟩
  have lA := pA_len a l
  have lB := pB_len (a + n) l
  have hpl := putL_len l a (a + n) s
  have hpo : ∀ r ∈ putL l a (a + n) s, r.e ≤ M := fun r h => (putL_one (b := a + n) rt.one (by omega) han hs r h).2.1
  unfold F36
  rw [g45 (by omega) hw (by omega), Option.bind_some, hr]
  simp only [Bool.not_true, cond_false]
  obtain ⟨q, rfl⟩ : ∃ q, k = q + 10 := ⟨k - 10, by omega⟩
  by_cases h0 : s = 0
  · subst h0
    rw [cNT rfl, g72 (by omega) hw ha hn (by omega), Option.bind_some, hr, if_pos rfl, hB, cNT rfl, g73 (by omega) h1M han (by omega), Option.bind_some]
    simp only
    obtain ⟨z, e1⟩ := L36_7_run (k := q + 10) (f := q + 10 + 6) (i0 := a) (i1 := n) (b3 := false) (b5 := false) (x1 := (pA a l).map rv) (x3 := (pB (a + n) l).map rv) (o1 := none) (o3 := none) (n1 := 3) (n3 := 3) (by simp; omega) (by simp; omega)
    rw [show q + 10 + 10 = q + 10 + 6 + 4 by omega, e1, Option.bind_some]
    simp only
    have el : (putL l a (a + n) 0).map rv = (pA a l).map rv ++ ([] ++ (pB (a + n) l).map rv) := by unfold putL; simp
    obtain ⟨z2, e2⟩ := L36_8_run (k := q + 10) (f := q + 10 + 6) (i0 := a) (i1 := n) (i4 := ((((pA a l).map rv).length + ((pB (a + n) l).map rv).length : Nat) : Int)) (i5 := z) (b3 := false) (b5 := false) (x1 := (pA a l).map rv) (x3 := (pB (a + n) l).map rv) (o1 := none) (o3 := none) (by simp; omega) (by simp; omega)
    obtain ⟨z3, X, e3, e4⟩ := L36_9_run (k := q + 10) (i0 := a) (i1 := n) (b2 := false) (b4 := false) (x1 := (pA a l).map rv) (x3 := (pB (a + n) l).map rv) (o1 := none) (o3 := none) (n1 := 3) (n3 := 3) (l := putL l a (a + n) 0) (by omega) hpo (by omega) (putL l a (a + n) 0).length 0 (q + 10 + 8) [] (by omega) (by omega) (by omega) (by simp)
    rw [el] at e3
    rw [show ((0 : Nat) : Int) = 0 from rfl] at e3
    simp only [List.map_nil] at e3
    have hX : X = put l a (a + n) 0 := e4
    subst hX
    have fin : (bif decide ((64 : Int) < (((put l a (a + n) 0).map rv).length : Int)) then some (some true, true, 0, [], 6) else some (none, false, 3, (put l a (a + n) 0).map rv, 0)) = some (if 64 < (put l a (a + n) 0).length then ((some true, true, 0, [], 6) : Option Bool × Bool × Nat × List V × Int) else (none, false, 3, (put l a (a + n) 0).map rv, 0)) := by
      rw [List.length_map]
      by_cases h : 64 < (put l a (a + n) 0).length
      · rw [cT (by omega), if_pos h]
      · rw [cF (by omega), if_neg h]
    rw [cF (by omega), wi (by simp; omega) (by simp; omega)]
    by_cases hp : (0 : Int) < ((((pA a l).map rv).length + ((pB (a + n) l).map rv).length : Nat) : Int) - 0
    · rw [cT hp, gp (by simp [maxLen'] at hp ⊢; omega), e2, Option.bind_some]
      simp only
      rw [e3, Option.bind_some]
      exact fin
    · rw [cF hp, e2, Option.bind_some]
      simp only
      rw [e3, Option.bind_some]
      exact fin
  · have h12 : s = 1 ∨ s = 2 := by omega
    rw [cNF h0, g71, Option.bind_some, cNT h12, g72 (by omega) hw ha hn (by omega), Option.bind_some, hr, if_pos rfl, hB, cNT rfl, g73 (by omega) h1M han (by omega), Option.bind_some]
    simp only
    obtain ⟨z, e1⟩ := L36_2_run (k := q + 10) (f := q + 10 + 6) (i0 := a) (i1 := n) (i2 := s) (b3 := false) (b5 := false) (x1 := (pA a l).map rv) (x3 := (pB (a + n) l).map rv) (o1 := none) (o3 := none) (n1 := 3) (n3 := 3) (by simp; omega) (by simp; omega)
    rw [show q + 10 + 10 = q + 10 + 6 + 4 by omega, e1, Option.bind_some]
    simp only
    have el : (putL l a (a + n) s).map rv = (pA a l).map rv ++ ([V.agg [V.int .u64 (a : Int), V.int .u64 (n : Int), V.int .i64 s]] ++ (pB (a + n) l).map rv) := by
      unfold putL; rw [if_neg h0, Nat.add_sub_cancel_left]; simp [rv]
    obtain ⟨z2, e2⟩ := L36_3_run (k := q + 10) (f := q + 10 + 6) (i0 := a) (i1 := n) (i2 := s) (i4 := ((((pA a l).map rv).length + 1 + ((pB (a + n) l).map rv).length : Nat) : Int)) (i5 := z) (b3 := false) (b5 := false) (x1 := (pA a l).map rv) (x3 := (pB (a + n) l).map rv) (o1 := none) (o3 := none) (by simp; omega) (by simp; omega)
    obtain ⟨z3, X, e3, e4⟩ := L36_4_run (k := q + 10) (i0 := a) (i1 := n) (i2 := s) (b3 := false) (b5 := false) (x1 := (pA a l).map rv) (x3 := (pB (a + n) l).map rv) (o1 := none) (o3 := none) (n1 := 3) (n3 := 3) (l := putL l a (a + n) s) (by omega) hpo (by omega) (putL l a (a + n) s).length 0 (q + 10 + 8) [] (by omega) (by omega) (by omega) (by simp)
    rw [el] at e3
    rw [show ((0 : Nat) : Int) = 0 from rfl] at e3
    simp only [List.map_nil] at e3
    have hX : X = put l a (a + n) s := e4
    subst hX
    have fin : (bif decide ((64 : Int) < (((put l a (a + n) s).map rv).length : Int)) then some (some true, true, 0, [], 6) else some (none, false, 3, (put l a (a + n) s).map rv, 0)) = some (if 64 < (put l a (a + n) s).length then ((some true, true, 0, [], 6) : Option Bool × Bool × Nat × List V × Int) else (none, false, 3, (put l a (a + n) s).map rv, 0)) := by
      rw [List.length_map]
      by_cases h : 64 < (put l a (a + n) s).length
      · rw [cT (by omega), if_pos h]
      · rw [cF (by omega), if_neg h]
    rw [cF (by omega), wi (by simp; omega) (by simp; omega)]
    by_cases hp : (0 : Int) < ((((pA a l).map rv).length + 1 + ((pB (a + n) l).map rv).length : Nat) : Int) - 0
    · rw [cT hp, gp (by simp [maxLen'] at hp ⊢; omega), e2, Option.bind_some]
      simp only
      rw [e3, Option.bind_some]
      exact fin
    · rw [cF hp, e2, Option.bind_some]
      simp only
      rw [e3, Option.bind_some]
      exact fin

/-! ### A span's runs -/
def fil : Nat → List Rn → List Rn
  | _, [] => []
  | now, r :: t => (if now < r.f then [⟨now, r.f - now, 0⟩] else []) ++ r :: fil r.e t
theorem fill_fil {b : Nat} {l : List Rn} : ∀ {now : Nat}, fill b now l = fil now l ++ (if lastE now l < b then [⟨lastE now l, b - lastE now l, 0⟩] else []) := by
  induction l with
  | nil => intro now; rfl
  | cons r t ih => intro now; rw [fill, fil, lastE, ih, List.append_assoc]; rfl
def z21 : L42_21_R → Int × Int
  | .e0 a b => (a, b)
  | .e1 a b => (a, b)
  | .e2 a b => (a, b)
theorem L42_21_run {k f0 : Nat} {s i0 i1 i2 i4 : Int} {b0 b2 : Bool} {x0 x4 : List V} {o0 o2 : Option Bool} {n0 : Nat} {l : List Rn} (hl : l.length ≤ 1000) (hr : ∀ r ∈ l, r.e ≤ M) : ∀ (c j f m : Nat), l.length - j = c → j ≤ l.length → c < f → f0 + m ≤ M →
    ∃ (r : L42_21_R) (j' m' : Nat), L42_21 k i0 i1 i2 i4 (f0 : Int) s b0 b2 x0 (l.map rv) x4 o0 o2 n0 3 f (j : Int) (m : Int) = some r ∧ z21 r = ((j' : Int), (m' : Int)) ∧ j ≤ j' ∧ j' ≤ l.length ∧ f0 + m' ≤ M ∧ jn ⟨f0, m, s⟩ (l.drop j) = ⟨f0, m', s⟩ :: join (l.drop j') := by
  intro c
  induction c with
  | zero =>
    intro j f m hc hj hf hm
    obtain ⟨f, rfl⟩ : ∃ g, f = g + 1 := ⟨f - 1, by omega⟩
    refine ⟨.e2 j m, j, m, ?_, rfl, Nat.le_refl _, hj, hm, ?_⟩
    · rw [L42_21, List.length_map, cF (by omega)]
    · rw [List.drop_of_length_le (by omega)]; rfl
  | succ c ih =>
    intro j f m hc hj hf hm
    obtain ⟨f, rfl⟩ : ∃ g, f = g + 1 := ⟨f - 1, by omega⟩
    have hj2 : j < l.length := by omega
    have hrj := hr l[j] (List.getElem_mem hj2)
    have hE : l[j].e = l[j].f + l[j].l := rfl
    have en : IntKind.i64.wrap ((j : Int) + 1) = ((j + 1 : Nat) : Int) := by rw [wi (by omega) (by omega)]; omega
    have hd : l.drop j = l[j] :: l.drop (j + 1) := List.drop_eq_getElem_cons hj2
    have stop : ¬(f0 + m = l[j].f ∧ s = l[j].s) → jn ⟨f0, m, s⟩ (l.drop j) = ⟨f0, m, s⟩ :: join (l.drop j) := fun h => by
      rw [hd, jn]; exact if_neg h
    have hms : f0 + m = l[j].f → m + l[j].l ≤ M := fun h => by omega
    rw [L42_21, List.length_map, cT (by omega), g79, Option.bind_some, sZ hm, gp rfl, at_rv hj2, Option.bind_some]
    simp only
    by_cases c1 : f0 + m = l[j].f
    · rw [cT (by omega)]
      by_cases c2 : s = l[j].s
      · have hmm := hms c1
        obtain ⟨r, j', m', h1, h2, h3, h4, h6, h5⟩ := ih (j + 1) f (m + l[j].l) (by omega) (by omega) (by omega) (by omega)
        rw [cT c2, en, sZ hmm]
        refine ⟨r, j', m', h1, h2, by omega, h4, h6, ?_⟩
        rw [hd, jn, if_pos ⟨c1, c2⟩, h5]
      · rw [cF c2]
        exact ⟨_, j, m, rfl, rfl, Nat.le_refl _, hj, hm, stop fun h => c2 h.2⟩
    · rw [cF (by omega)]
      exact ⟨_, j, m, rfl, rfl, Nat.le_refl _, hj, hm, stop fun h => c1 h.1⟩
theorem L42_19_run {k : Nat} {i0 i1 i2 : Int} {b0 b2 : Bool} {x0 : List V} {o0 o2 : Option Bool} {n0 : Nat} {l : List Rn} (hl : l.length ≤ 1000) (hr : ∀ r ∈ l, r.e ≤ M) (hk : 1000 ≤ k) : ∀ (c i f now : Nat) (out : List Rn), l.length - i ≤ c → i ≤ l.length → c < f → now ≤ M → out.length ≤ 2 * i →
    ∃ (z : Int) (now' : Nat) (X : List Rn), L42_19 k i0 i1 i2 b0 b2 x0 (l.map rv) o0 o2 n0 3 f (i : Int) (now : Int) (out.map rv) = some (.e0 z (now' : Int) (X.map rv)) ∧ now' = lastE now (join (l.drop i)) ∧ X = out ++ fil now (join (l.drop i)) := by
  intro c
  induction c with
  | zero =>
    intro i f now out hc hi hf hnow ho
    obtain ⟨f, rfl⟩ : ∃ g, f = g + 1 := ⟨f - 1, by omega⟩
    refine ⟨i, now, out, ?_, ?_, ?_⟩
    · rw [L42_19, List.length_map, cF (by omega)]
    · rw [List.drop_of_length_le (by omega)]; rfl
    · rw [List.drop_of_length_le (by omega)]; simp [join, fil]
  | succ c ih =>
    intro i f now out hc hi hf hnow ho
    obtain ⟨f, rfl⟩ : ∃ g, f = g + 1 := ⟨f - 1, by omega⟩
    by_cases hi2 : i < l.length
    · have hri := hr l[i] (List.getElem_mem hi2)
      have hE : l[i].e = l[i].f + l[i].l := rfl
      have en : IntKind.i64.wrap ((i : Int) + 1) = ((i + 1 : Nat) : Int) := by rw [wi (by omega) (by omega)]; omega
      obtain ⟨r, j', m', h1, h2, h3, h4, h6, h5⟩ := L42_21_run (k := k) (f0 := l[i].f) (s := l[i].s) (i0 := i0) (i1 := i1) (i2 := i2) (i4 := now) (b0 := b0) (b2 := b2) (x0 := x0) (x4 := out.map rv) (o0 := o0) (o2 := o2) (n0 := n0) (l := l) hl hr (l.length - (i + 1)) (i + 1) (k + 10) l[i].l rfl (by omega) (by omega) hri
      have hjn : join (l.drop i) = ⟨l[i].f, m', l[i].s⟩ :: join (l.drop j') := by
        rw [List.drop_eq_getElem_cons hi2]
        show jn l[i] (l.drop (i + 1)) = _
        rw [show l[i] = ⟨l[i].f, l[i].l, l[i].s⟩ from rfl, h5]
      have gl : ∀ {x : List Rn}, x.length ≤ 2 * i + 1 → (x.map rv).length + 1 ≤ maxLen' := fun h => by rw [List.length_map]; simp only [maxLen']; omega
      by_cases hg : now < l[i].f
      · obtain ⟨z, now', X, e1, e2, e3⟩ := ih j' f (l[i].f + m') (out ++ [⟨now, l[i].f - now, 0⟩] ++ [⟨l[i].f, m', l[i].s⟩]) (by omega) h4 (by omega) h6 (by simp; omega)
        have gl2 := gl (x := out ++ [⟨now, l[i].f - now, 0⟩]) (by simp; omega)
        simp only [List.map_append, List.map_cons, List.map_nil, rv] at e1 gl2
        refine ⟨z, now', X, ?_, ?_, ?_⟩
        · rw [L42_19, List.length_map, cT (by omega), gp rfl, at_rv hi2, Option.bind_some]
          simp only
          rw [en, h1, Option.bind_some]
          cases r <;> (simp only [z21, Prod.mk.injEq] at h2; obtain ⟨rfl, rfl⟩ := h2; simp only; rw [cT (by omega), gp (gl (by omega)), dZ (by omega) (by omega), gp gl2, g79, Option.bind_some, sZ h6]; exact e1)
        · rw [hjn, e2]; rfl
        · rw [hjn, e3, fil, if_pos hg]; simp [Rn.e]
      · obtain ⟨z, now', X, e1, e2, e3⟩ := ih j' f (l[i].f + m') (out ++ [⟨l[i].f, m', l[i].s⟩]) (by omega) h4 (by omega) h6 (by simp; omega)
        simp only [List.map_append, List.map_cons, List.map_nil, rv] at e1
        refine ⟨z, now', X, ?_, ?_, ?_⟩
        · rw [L42_19, List.length_map, cT (by omega), gp rfl, at_rv hi2, Option.bind_some]
          simp only
          rw [en, h1, Option.bind_some]
          cases r <;> (simp only [z21, Prod.mk.injEq] at h2; obtain ⟨rfl, rfl⟩ := h2; simp only; rw [cF (by omega), gp (gl (by omega)), g79, Option.bind_some, sZ h6]; exact e1)
        · rw [hjn, e2]; rfl
        · rw [hjn, e3, fil, if_neg hg]; simp [Rn.e]
    · refine ⟨i, now, out, ?_, ?_, ?_⟩
      · rw [L42_19, List.length_map, cF (by omega)]
      · rw [List.drop_of_length_le (by omega)]; rfl
      · rw [List.drop_of_length_le (by omega)]; simp [join, fil]
def errQ (l : List Rn) (a n : Nat) : Int := if right l then errB a n else 1
theorem g42e {k a n : Nat} {b : Bool} {o : Option Bool} {l : List Rn} (hl : l.length ≤ 70) (hw : ∀ r ∈ l, Wf r) (ha : a < 18446744073709551616) (hn : n < 18446744073709551616) (hk : 1500 ≤ k) (he : errQ l a n ≠ 0) :
    F42 k o b 3 (l.map rv) (a : Int) (n : Int) = some (some true, true, 0, [], errQ l a n) := by
  unfold F42
  rw [g72 (by omega) hw ha hn (by omega), Option.bind_some]
  unfold errQ at he ⊢
  rw [cNF he]
theorem fil_len {l : List Rn} : ∀ {now : Nat}, (fil now l).length ≤ 2 * l.length := by
  induction l with
  | nil => intro now; simp [fil]
  | cons r t ih => intro now; have := ih (now := r.e); rw [fil]; split <;> simp <;> omega
theorem g42 {k a n : Nat} {b : Bool} {o : Option Bool} {l : List Rn} (hl : l.length ≤ 70) (hw : ∀ r ∈ l, Wf r) (ha : a < 18446744073709551616) (hn : n < 18446744073709551616) (hk : 1500 ≤ k) (he : errQ l a n = 0) :
    F42 k o b 3 (l.map rv) (a : Int) (n : Int) = some (none, false, 3, (qry l a (a + n)).map rv, 0) := by
  have hr : right l = true := by unfold errQ at he; by_cases h : right l = true; exact h; rw [if_neg h] at he; omega
  have hB : errB a n = 0 := by unfold errQ at he; rw [if_pos hr] at he; exact he
  obtain ⟨hn1, han⟩ := errB_zero hB
  have rt := right_iff.1 hr
  have h1M : ∀ r ∈ l, 1 ≤ r.l ∧ r.e ≤ M := fun r h => ⟨(rt.one r h).1, (rt.one r h).2.1⟩
  have lI := pI_len a (a + n) l
  have lJ := join_len (pI a (a + n) l)
  unfold F42
  rw [g72 (by omega) hw ha hn (by omega), Option.bind_some, hr, if_pos rfl, hB, cNT rfl, g73 (by omega) h1M han (by omega), Option.bind_some]
  simp only
  obtain ⟨z, now', X, e1, e2, e3⟩ := L42_19_run (k := k) (i0 := a) (i1 := n) (i2 := 0) (b0 := b) (b2 := false) (x0 := l.map rv) (o0 := o) (o2 := none) (n0 := 3) (l := pI a (a + n) l) (by omega) (fun r h => (pI_one rt.one r h).2.1) (by omega) (pI a (a + n) l).length 0 (k + 10) a [] (by omega) (by omega) (by omega) (by omega) (by simp)
  rw [show ((0 : Nat) : Int) = 0 from rfl] at e1
  simp only [List.map_nil] at e1
  rw [e1, Option.bind_some]
  simp only
  have e2 : now' = lastE a (join (pI a (a + n) l)) := e2
  have e3 : X = fil a (join (pI a (a + n) l)) := e3
  have hq : qry l a (a + n) = X ++ (if now' < a + n then [⟨now', a + n - now', 0⟩] else []) := by unfold qry; rw [fill_fil, e2, e3]
  rw [sZ han, hq]
  have fl := fil_len (l := join (pI a (a + n) l)) (now := a)
  by_cases h : now' < a + n
  · rw [cT (by omega), gp (by rw [List.length_map, e3]; simp only [maxLen']; omega), dZ (by omega) han, if_pos h, List.map_append]; rfl
  · rw [cF (by omega), if_neg h, List.append_nil]
end Go.Proofs
