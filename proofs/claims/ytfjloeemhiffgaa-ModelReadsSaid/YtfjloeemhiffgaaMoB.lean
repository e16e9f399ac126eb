/-
  Cells: what model's inner functions answer, plainly.
-/
import Derived.Test.YtfjloeemhiffgaaMoPa
import Derived.Test.YtfjloeemhiffgaaMoA
set_option linter.unusedVariables false
set_option linter.unusedSimpArgs false
set_option maxRecDepth 100000
namespace Go.Proofs.Mo
open Go Go.Sym

theorem get_cl {l : List Cl} {i : Nat} (h : i < l.length) : ((l.map cl)[i]?).bind dAu64i64sZ = some ((l[i].1 : Int), l[i].2.1, l[i].2.2) := by
  rw [List.getElem?_map, List.getElem?_eq_getElem h]; rfl
theorem at_cl {l : List Cl} {i : Nat} (h : i < l.length) : (at? (l.map cl) (i : Int)).bind dAu64i64sZ = some ((l[i].1 : Int), l[i].2.1, l[i].2.2) := by
  rw [at_nat, get_cl h]
def cmpI (a b : Int) : Int := if a < b then -1 else if b < a then 1 else 0
theorem cmp_lt {a b : Int} : cmpI a b < 0 ↔ a < b := by
  unfold cmpI; split
  · simp [*]
  · split <;> simp [*]
theorem cmp_eq {a b : Int} : cmpI a b = 0 ↔ a = b := by
  unfold cmpI; split
  · constructor
    · intro h; cases h
    · intro h; omega
  · split
    · constructor
      · intro h; cases h
      · intro h; omega
    · simp; omega
theorem g67 {k : Nat} {a b : Int} : F67 k a b = some (cmpI a b) := by
  unfold F67 F106 cmpI
  simp only [Option.bind_some, cond_false]
  by_cases h : a < b
  · rw [cT h, if_pos h]
  · rw [cF h, if_neg h]
    by_cases h2 : b < a
    · rw [cT h2, if_pos h2]
    · rw [cF h2, if_neg h2]
theorem g121 {k : Nat} {a b n : Int} {s : List UInt8} : F121 k a b s n = some (cmpI a n) := by
  unfold F121; rw [g67]; rfl
theorem g139 {k : Nat} {a b n : Int} {s : List UInt8} : F139 k a b s n = some (cmpI a n) := by
  unfold F139; rw [g67]; rfl
theorem mid {i j : Nat} (h : i + j ≤ 100000) : IntKind.i64.wrap ((IntKind.u64.wrap (IntKind.i64.wrap ((i : Int) + (j : Int)))).fdiv (2 ^ min (Int.toNat 1) IntKind.u64.bits)) = (((i + j) / 2 : Nat) : Int) := by
  rw [wi (n := (i : Int) + (j : Int)) (by omega) (by omega), wu (by omega) (by omega), show (2 : Int) ^ min (Int.toNat 1) IntKind.u64.bits = 2 from rfl, Int.fdiv_eq_ediv_of_nonneg _ (by omega), wi (by omega) (by omega)]
  omega
theorem L98_run {k n : Nat} {b : Bool} {o : Option Bool} {l : List Cl} {p : Nat} (hl : l.length ≤ 1000) (h3 : ∀ (k : Nat) (h : k < l.length), k < p → l[k].1 < n) (h4 : ∀ (k : Nat) (h : k < l.length), p ≤ k → n ≤ l[k].1) :
    ∀ (c i j f : Nat), j - i = c → i ≤ p → p ≤ j → j ≤ l.length → c < f → L98_0 k (n : Int) b (l.map cl) o 3 f (i : Int) (j : Int) = some (.e0 (p : Int) (p : Int)) := by
  intro c
  induction c using Nat.strongRecOn with
  | _ c ih =>
    intro i j f hc hi hj hjl hf
    obtain ⟨f, rfl⟩ : ∃ y, f = y + 1 := ⟨f - 1, by omega⟩
    rw [L98_0]
    by_cases hij : i < j
    · have hm : (i + j) / 2 < l.length := by omega
      rw [cT (by omega), gp rfl, mid (by omega), at_cl hm, Option.bind_some]
      simp only
      rw [g121, Option.bind_some]
      by_cases hlt : l[(i + j) / 2].1 < n
      · rw [cT (cmp_lt.2 (by omega)), wi (n := (((i + j) / 2 : Nat) : Int) + 1) (by omega) (by omega)]
        have hp : (i + j) / 2 < p := by
          apply Decidable.byContradiction; intro hh
          have := h4 _ hm (by omega); omega
        exact ih (j - ((i + j) / 2 + 1)) (by omega) ((i + j) / 2 + 1) j f rfl (by omega) hj hjl (by omega)
      · rw [cF (fun h => hlt (by have := cmp_lt.1 h; omega))]
        have hp : p ≤ (i + j) / 2 := by
          apply Decidable.byContradiction; intro hh
          exact hlt (h3 _ hm (by omega))
        exact ih ((i + j) / 2 - i) (by omega) i ((i + j) / 2) f rfl hi hp (by omega) (by omega)
    · rw [cF (by omega)]
      have : i = p := by omega
      have : j = p := by omega
      subst_vars; rfl
theorem g98 {k n : Nat} {b : Bool} {o : Option Bool} {l : List Cl} (hi : inc l) (hl : l.length ≤ 1000) (hk : 1100 ≤ k) :
    F98 k o b 3 (l.map cl) (n : Int) = some (((cellAt l n).1 : Int), (cellAt l n).2.1, (cellAt l n).2.2) := by
  obtain ⟨p, h1, h2, h3, h4⟩ := lt_cut hi n
  unfold F98
  have hr : L98_0 k (n : Int) b (l.map cl) o 3 (k + 10) 0 ((l.map cl).length : Int) = some (.e0 (p : Int) (p : Int)) := by
    rw [List.length_map]
    exact L98_run hl h3 h4 (l.length - 0) 0 l.length (k + 10) rfl (by omega) h1 (Nat.le_refl _) (by omega)
  rw [hr, Option.bind_some]
  simp only
  rw [List.length_map]
  by_cases hp : p < l.length
  · rw [cT (by omega), gp trivial, at_cl hp, Option.bind_some]
    simp only
    rw [g121, Option.bind_some]
    by_cases he : l[p].1 = n
    · rw [cT (cmp_eq.2 (by omega))]
      have := cellAt_in hi (List.getElem_mem hp)
      rw [he] at this
      rw [this]
    · rw [cF (fun h => he (by have := cmp_eq.1 h; omega))]
      rw [cellAt_no (fun c hc => ?_)]
      obtain ⟨j, hj, rfl⟩ := List.getElem_of_mem hc
      rcases Nat.lt_trichotomy j p with h | h | h
      · have := h3 j hj h; omega
      · subst h; exact he
      · have := inc_get hi h hj
        have := h4 p hp (Nat.le_refl _); omega
  · rw [cF (by omega), cellAt_no (fun c hc => ?_)]
    obtain ⟨j, hj, rfl⟩ := List.getElem_of_mem hc
    have := h3 j hj (by omega); omega

theorem L1152_run {k n : Nat} {s : Int} {d : List UInt8} {l : List Cl} (hl : l.length ≤ 1000) : ∀ (c i f : Nat), l.length - i = c → i ≤ l.length → c < f → (∀ (j : Nat) (h : j < l.length), j < i → l[j].1 ≠ n) →
    (∃ j x y z, j < l.length ∧ (∃ h : j < l.length, l[j].1 = n) ∧ L115_0 k (n : Int) s d (l.map cl) f (i : Int) = some (.e0 (j : Int) x y z)) ∨
    ((∀ (j : Nat) (h : j < l.length), l[j].1 ≠ n) ∧ ∃ z, L115_0 k (n : Int) s d (l.map cl) f (i : Int) = some (.e1 z)) := by
  intro c
  induction c with
  | zero =>
    intro i f hc hi hf hno
    obtain ⟨f, rfl⟩ : ∃ y, f = y + 1 := ⟨f - 1, by omega⟩
    refine .inr ⟨fun j hj => hno j hj (by omega), (i : Int), ?_⟩
    rw [L115_0, List.length_map, cF (by omega)]
  | succ c ih =>
    intro i f hc hi hf hno
    obtain ⟨f, rfl⟩ : ∃ y, f = y + 1 := ⟨f - 1, by omega⟩
    have hil : i < l.length := by omega
    rw [L115_0, List.length_map, cT (by omega), gp (by omega), Int.toNat_natCast, get_cl hil, Option.bind_some]
    simp only
    by_cases he : l[i].1 = n
    · rw [cT (by omega)]
      exact .inl ⟨i, _, _, _, hil, ⟨hil, he⟩, rfl⟩
    · rw [cF (by omega), wi (n := (i : Int) + 1) (by omega) (by omega), show (i : Int) + 1 = ((i + 1 : Nat) : Int) by omega]
      exact ih (i + 1) f (by omega) (by omega) (by omega) fun j hj hji => by
        by_cases hj' : j = i
        · subst hj'; exact he
        · exact hno j hj (by omega)
theorem L1153_run {k n : Nat} {s : Int} {d : List UInt8} {l : List Cl} {p : Nat} (hl : l.length ≤ 1000) (h3 : ∀ (k : Nat) (h : k < l.length), k < p → l[k].1 < n) (h4 : ∀ (k : Nat) (h : k < l.length), p ≤ k → n ≤ l[k].1) :
    ∀ (c i j f : Nat), j - i = c → i ≤ p → p ≤ j → j ≤ l.length → c < f → L115_1 k (n : Int) s d (l.map cl) f (i : Int) (j : Int) = some (.e0 (p : Int) (p : Int)) := by
  intro c
  induction c using Nat.strongRecOn with
  | _ c ih =>
    intro i j f hc hi hj hjl hf
    obtain ⟨f, rfl⟩ : ∃ y, f = y + 1 := ⟨f - 1, by omega⟩
    rw [L115_1]
    by_cases hij : i < j
    · have hm : (i + j) / 2 < l.length := by omega
      rw [cT (by omega), mid (by omega), List.length_map, gp (by omega), Int.toNat_natCast, get_cl hm, Option.bind_some]
      simp only
      rw [g139, Option.bind_some]
      by_cases hlt : l[(i + j) / 2].1 < n
      · rw [cT (cmp_lt.2 (by omega)), wi (n := (((i + j) / 2 : Nat) : Int) + 1) (by omega) (by omega)]
        have hp : (i + j) / 2 < p := by
          apply Decidable.byContradiction; intro hh
          have := h4 _ hm (by omega); omega
        exact ih (j - ((i + j) / 2 + 1)) (by omega) ((i + j) / 2 + 1) j f rfl (by omega) hj hjl (by omega)
      · rw [cF (fun h => hlt (by have := cmp_lt.1 h; omega))]
        have hp : p ≤ (i + j) / 2 := by
          apply Decidable.byContradiction; intro hh
          exact hlt (h3 _ hm (by omega))
        exact ih ((i + j) / 2 - i) (by omega) i ((i + j) / 2) f rfl hi hp (by omega) (by omega)
    · rw [cF (by omega)]
      have : i = p := by omega
      have : j = p := by omega
      subst_vars; rfl
theorem L1156_run {k n q : Nat} {s : Int} {d : List UInt8} {l : List Cl} {y : List V} (hy : y.take q = l.map cl) (hq : q = l.length) {p : Nat} (hl : l.length ≤ 1000) (h3 : ∀ (k : Nat) (h : k < l.length), k < p → l[k].1 < n) (h4 : ∀ (k : Nat) (h : k < l.length), p ≤ k → n ≤ l[k].1) :
    ∀ (c i j f : Nat), j - i = c → i ≤ p → p ≤ j → j ≤ l.length → c < f → L115_4 k (n : Int) s (q : Int) d f (i : Int) (j : Int) y = some (.e0 (p : Int) (p : Int) y) := by
  have hg : ∀ i (h : i < l.length), (y[i]?).bind dAu64i64sZ = some ((l[i].1 : Int), l[i].2.1, l[i].2.2) := by
    intro i h
    rw [← get_cl h, ← hy, List.getElem?_take_of_lt (by omega)]
  intro c
  induction c using Nat.strongRecOn with
  | _ c ih =>
    intro i j f hc hi hj hjl hf
    obtain ⟨f, rfl⟩ : ∃ y, f = y + 1 := ⟨f - 1, by omega⟩
    rw [L115_4]
    by_cases hij : i < j
    · have hm : (i + j) / 2 < l.length := by omega
      rw [cT (by omega), mid (by omega), Int.toNat_natCast, gp (by omega), Int.toNat_natCast, Nat.zero_add, hg _ hm, Option.bind_some]
      simp only
      rw [g139, Option.bind_some]
      by_cases hlt : l[(i + j) / 2].1 < n
      · rw [cT (cmp_lt.2 (by omega)), wi (n := (((i + j) / 2 : Nat) : Int) + 1) (by omega) (by omega)]
        have hp : (i + j) / 2 < p := by
          apply Decidable.byContradiction; intro hh
          have := h4 _ hm (by omega); omega
        exact ih (j - ((i + j) / 2 + 1)) (by omega) ((i + j) / 2 + 1) j f rfl (by omega) hj hjl (by omega)
      · rw [cF (fun h => hlt (by have := cmp_lt.1 h; omega))]
        have hp : p ≤ (i + j) / 2 := by
          apply Decidable.byContradiction; intro hh
          exact hlt (h3 _ hm (by omega))
        exact ih ((i + j) / 2 - i) (by omega) i ((i + j) / 2) f rfl hi hp (by omega) (by omega)
    · rw [cF (by omega)]
      have : i = p := by omega
      have : j = p := by omega
      subst_vars; rfl
/-- The shift: all behind p one place ahead. -/
theorem L1155_run {k n : Nat} {s : Int} {d : List UInt8} {l : List Cl} (hi : inc l) (hl : l.length ≤ 1000) {p : Nat} (hp : p < l.length) (hn : l[p].1 = n) :
    ∀ (c i f : Nat) (x : List V), l.length - (i + 1) = c → p ≤ i → i + 1 ≤ l.length → c < f → x.length = l.length → x.take i = ((l.take p ++ l.drop (p + 1)).take i).map cl → x.drop (i + 1) = (l.drop (i + 1)).map cl →
    ∃ y, L115_3 k (n : Int) s d f (i : Int) ((i + 1 : Nat) : Int) x = some (.e0 ((l.length - 1 : Nat) : Int) (l.length : Int) y) ∧ y.length = l.length ∧ y.take (l.length - 1) = (l.take p ++ l.drop (p + 1)).map cl := by
  intro c
  induction c with
  | zero =>
    intro i f x hc hpi hil hf hx ht hd
    obtain ⟨f, rfl⟩ : ∃ y, f = y + 1 := ⟨f - 1, by omega⟩
    have : i = l.length - 1 := by omega
    subst this
    refine ⟨x, ?_, hx, ?_⟩
    · rw [L115_3, hx, cF (by omega)]
      congr 2; omega
    · rw [ht, List.take_of_length_le (by simp; omega)]
  | succ c ih =>
    intro i f x hc hpi hil hf hx ht hd
    obtain ⟨f, rfl⟩ : ∃ y, f = y + 1 := ⟨f - 1, by omega⟩
    have h1 : i + 1 < l.length := by omega
    have hget : (x[i + 1]?).bind dAu64i64sZ = some ((l[i + 1].1 : Int), l[i + 1].2.1, l[i + 1].2.2) := by
      have e : x[i + 1]? = (x.drop (i + 1))[0]? := by rw [List.getElem?_drop]
      rw [e, hd, List.getElem?_map, List.getElem?_drop]
      show (Option.map cl l[i + 1]?).bind _ = _
      rw [List.getElem?_eq_getElem h1]; rfl
    have hgt := inc_get hi (i := p) (j := i + 1) (by omega) h1
    rw [L115_3, hx, cT (by omega), gp (by omega), Int.toNat_natCast, hget, Option.bind_some]
    simp only
    rw [cNF (by omega), gp (by omega), Int.toNat_natCast, gp (by omega), wi (n := (i : Int) + 1) (by omega) (by omega), wi (n := ((i + 1 : Nat) : Int) + 1) (by omega) (by omega), show (i : Int) + 1 = ((i + 1 : Nat) : Int) by omega, show ((i + 1 : Nat) : Int) + 1 = ((i + 1 + 1 : Nat) : Int) by omega]
    refine ih (i + 1) f _ (by omega) (by omega) (by omega) (by omega) (by rw [List.length_set]; exact hx) ?_ ?_
    · have e1 : (x.set i (V.agg [V.int .u64 (l[i + 1].1 : Int), V.int .i64 l[i + 1].2.1, V.str l[i + 1].2.2])).take (i + 1) = x.take i ++ [cl l[i + 1]] := by
        rw [List.take_set, List.take_succ_eq_append_getElem (by omega), List.set_append_right _ _ (by simp; omega)]
        simp
        rw [show i - min i x.length = 0 by omega]; rfl
      have e2 : (l.take p ++ l.drop (p + 1)).take (i + 1) = (l.take p ++ l.drop (p + 1)).take i ++ [l[i + 1]] := by
        have hlen : i < (l.take p ++ l.drop (p + 1)).length := by simp; omega
        rw [List.take_succ_eq_append_getElem hlen]
        congr 2
        rw [List.getElem_append_right (by simp; omega), List.getElem_drop]
        congr 1
        simp; omega
      rw [e1, e2, ht, List.map_append]; rfl
    · rw [List.drop_set_of_lt (by omega)]
      have e3 : x.drop (i + 1 + 1) = (x.drop (i + 1)).drop 1 := by rw [List.drop_drop]
      rw [e3, hd, ← List.map_drop, List.drop_drop]
theorem insL_map {l : List Cl} {i : Nat} {c : Cl} : insL (l.map cl) i (V.agg [V.int .u64 (c.1 : Int), V.int .i64 c.2.1, V.str c.2.2]) = (l.take i ++ c :: l.drop i).map cl := by
  unfold insL
  rw [List.map_append, List.map_cons, List.map_take, List.map_drop]; rfl
theorem g115 {k : Nat} {b : Bool} {o : Option Bool} {l : List Cl} {c : Cl} (hi : inc l) (hl : l.length ≤ 1000) (hk : 1100 ≤ k) :
    F115 k o b 3 (l.map cl) (c.1 : Int) c.2.1 c.2.2 = some (none, false, 3, (withC l c).map cl) := by
  obtain ⟨p, h1, h2, h3, h4⟩ := lt_cut hi c.1
  have hgt := gt_cut hi h3 h4
  unfold F115
  rw [gp ⟨.inl rfl, by rw [List.length_map]; unfold maxLen'; omega⟩]
  rcases L1152_run (k := k) (n := c.1) (s := c.2.1) (d := c.2.2) hl (l.length - 0) 0 (k + 9) rfl (by omega) (by omega) (fun j _ hj => by omega) with ⟨j, x, y, z, hj, ⟨_, he⟩, hL⟩ | ⟨hno, z, hL⟩
  · -- it is there
    have hL' : L115_0 k (c.1 : Int) c.2.1 c.2.2 (l.map cl) (k + 9) 0 = some (.e0 (j : Int) x y z) := hL
    rw [hL', Option.bind_some]
    simp only
    have hjp : j = p := by
      rcases Nat.lt_trichotomy j p with h | h | h
      · have := h3 j hj h; omega
      · exact h
      · have := h4 p (by omega) (Nat.le_refl _)
        have := inc_get hi h hj; omega
    subst hjp
    rw [dif_pos hj, if_pos he] at hgt
    have hw : withC l c = l.take j ++ ((if c.2.1 = 0 then [] else [c]) ++ l.drop (j + 1)) := by unfold withC; rw [h2, hgt]
    rw [cF (by omega)]
    obtain ⟨y2, hy1, hy2, hy3⟩ := L1155_run (k := k) (n := c.1) (s := c.2.1) (d := c.2.2) hi hl hj he (l.length - (j + 1)) j (k + 10) (l.map cl) rfl (Nat.le_refl _) hj (by omega) (by simp) (by
      rw [← List.map_take]; congr 1
      rw [List.take_append_of_le_length (by simp; omega), List.take_take, Nat.min_self]) (by rw [← List.map_drop])
    have hy1' : L115_3 k (c.1 : Int) c.2.1 c.2.2 (k + 10) (j : Int) (IntKind.i64.wrap ((j : Int) + 1)) (l.map cl) = some (.e0 ((l.length - 1 : Nat) : Int) (l.length : Int) y2) := by
      rw [wi (n := (j : Int) + 1) (by omega) (by omega)]; exact hy1
    rw [hy1', Option.bind_some]
    simp only
    rw [gp (by omega), Int.toNat_natCast]
    obtain ⟨E, hE⟩ : ∃ E, E = l.take j ++ l.drop (j + 1) := ⟨_, rfl⟩
    rw [← hE] at hy3
    have hEl : E.length = l.length - 1 := by rw [hE]; simp; omega
    have hYt : ∀ R : List V, (List.take (l.length - 1) y2 ++ R).take (l.length - 1) = E.map cl := by
      intro R
      rw [List.take_append_of_le_length (by rw [List.length_take]; omega), List.take_take, Nat.min_self, hy3]
    have hYl : ∀ z : V, (List.take (l.length - 1) y2 ++ (List.replicate (y2.length - (l.length - 1)) z ++ List.drop (l.length - 1 + (y2.length - (l.length - 1))) y2)).length = l.length := by
      intro z; simp; omega
    rw [gp (by rw [hYl]; omega)]
    by_cases hs : c.2.1 = 0
    · rw [cT hs, List.drop_zero, hYt]
      rw [hw, if_pos hs, List.nil_append, hE]
    · rw [cF hs]
      have hEinc : inc E := by
        rw [hE]; unfold inc at *
        rw [List.pairwise_append]
        refine ⟨hi.sublist (List.take_sublist _ _), hi.sublist (List.drop_sublist _ _), fun a ha b hb => ?_⟩
        obtain ⟨u, hu, rfl⟩ := List.getElem_of_mem ha
        obtain ⟨v, hv, rfl⟩ := List.getElem_of_mem hb
        rw [List.length_take] at hu
        rw [List.length_drop] at hv
        rw [List.getElem_take, List.getElem_drop]
        exact inc_get (l := l) hi (by omega) (by omega)
      have hE3 : ∀ (k : Nat) (h : k < E.length), k < j → E[k].1 < c.1 := by
        intro k hk hkj
        subst hE
        rw [List.getElem_append_left (by simp; omega), List.getElem_take]
        exact h3 k (by omega) hkj
      have hE4 : ∀ (k : Nat) (h : k < E.length), j ≤ k → c.1 ≤ E[k].1 := by
        intro k hk hkj
        subst hE
        rw [List.getElem_append_right (by simp; omega), List.getElem_drop]
        exact h4 _ _ (by simp; omega)
      obtain ⟨Y, hY⟩ : ∃ Y : List V, Y = List.take (l.length - 1) y2 ++ (List.replicate (y2.length - (l.length - 1)) (V.agg ((fun xs => V.int .u64 0 :: xs) ((fun xs => V.int .i64 0 :: xs) ((fun xs => V.str [] :: xs) [])))) ++ List.drop (l.length - 1 + (y2.length - (l.length - 1))) y2) := ⟨_, rfl⟩
      have hYt' : Y.take (l.length - 1) = E.map cl := by rw [hY]; exact hYt _
      rw [← hY]
      have hbs : L115_4 k (c.1 : Int) c.2.1 ((l.length - 1 : Nat) : Int) c.2.2 (k + 10) 0 ((l.length - 1 : Nat) : Int) Y = some (.e0 (j : Int) (j : Int) Y) :=
        L1156_run (p := j) hYt' (by omega) (by omega) hE3 hE4 (l.length - 1 - 0) 0 (l.length - 1) (k + 10) rfl (by omega) (by omega) (by omega) (by omega)
      rw [hbs, Option.bind_some]
      simp only
      have hfin : some ((none : Option Bool), false, 3, insL (List.take (l.length - 1) Y) j (V.agg [V.int .u64 (c.1 : Int), V.int .i64 c.2.1, V.str c.2.2])) = some (none, false, 3, (withC l c).map cl) := by
        rw [hYt', insL_map, hw, if_neg hs, hE]
        congr 5
        have e1 : (l.take j).drop j = [] := List.drop_eq_nil_of_le (by simp; omega)
        rw [List.take_append_of_le_length (by simp; omega), List.take_take, Nat.min_self, List.drop_append_of_le_length (by simp; omega), e1]
        rfl
      have hlY : (List.take (l.length - 1) Y).length = l.length - 1 := by rw [hYt', List.length_map]; omega
      by_cases hjl : (j : Int) < ((l.length - 1 : Nat) : Int)
      · have hjE : j < E.length := by omega
        have hget : (Y[0 + j]?).bind dAu64i64sZ = some ((E[j].1 : Int), E[j].2.1, E[j].2.2) := by
          rw [Nat.zero_add, ← get_cl hjE, ← hYt', List.getElem?_take_of_lt (by omega)]
        rw [cT hjl, gp (by omega), Int.toNat_natCast, hget, Option.bind_some]
        simp only
        rw [g139, Option.bind_some, gp ⟨by decide, trivial, trivial, by omega, by omega, by rw [hlY]; unfold maxLen'; omega⟩]
        exact hfin
      · rw [cF hjl, Int.toNat_natCast, gp ⟨by decide, trivial, trivial, by omega, by omega, by rw [hlY]; unfold maxLen'; omega⟩]
        exact hfin
  · -- it is not
    have hL' : L115_0 k (c.1 : Int) c.2.1 c.2.2 (l.map cl) (k + 9) 0 = some (.e1 z) := hL
    rw [hL', Option.bind_some]
    simp only
    have hgt' : l.filter (fun x => decide (c.1 < x.1)) = l.drop p := by
      rw [hgt]
      by_cases hp : p < l.length
      · rw [dif_pos hp, if_neg (hno p hp)]
      · rw [dif_neg hp, List.drop_of_length_le (by omega)]
    have hw : withC l c = l.take p ++ ((if c.2.1 = 0 then [] else [c]) ++ l.drop p) := by unfold withC; rw [h2, hgt']
    by_cases hs : c.2.1 = 0
    · rw [cT hs, hw, if_pos hs, List.nil_append, List.take_append_drop]
    · rw [cF hs]
      have hbs : L115_1 k (c.1 : Int) c.2.1 c.2.2 (l.map cl) (k + 10) 0 ((l.map cl).length : Int) = some (.e0 (p : Int) (p : Int)) := by
        rw [List.length_map]
        exact L1153_run hl h3 h4 (l.length - 0) 0 l.length (k + 10) rfl (by omega) h1 (Nat.le_refl _) (by omega)
      rw [hbs, Option.bind_some]
      simp only
      have hfin : some ((none : Option Bool), false, 3, insL (l.map cl) p (V.agg [V.int .u64 (c.1 : Int), V.int .i64 c.2.1, V.str c.2.2])) = some (none, false, 3, (withC l c).map cl) := by
        rw [insL_map, hw, if_neg hs]
        rfl
      by_cases hp : p < l.length
      · rw [List.length_map, cT (by omega), gp (by omega), Int.toNat_natCast, get_cl hp, Option.bind_some]
        simp only
        rw [g139, Option.bind_some, gp ⟨by decide, trivial, trivial, by omega, by omega, by unfold maxLen'; omega⟩]
        exact hfin
      · rw [List.length_map, cF (by omega), Int.toNat_natCast, gp ⟨by decide, trivial, trivial, by omega, by omega, by unfold maxLen'; omega⟩]
        exact hfin

def is58 : L58_0_R → Bool
  | .e9 _ => true
  | _ => false
theorem L58_run {k : Nat} {b : Bool} {o : Option Bool} {l : List Cl} (hl : l.length ≤ 1000) : ∀ (c i f : Nat), l.length - i = c → i ≤ l.length → c < f →
    ∃ R, L58_0 k b (l.map cl) o 3 f (i : Int) = some R ∧ is58 R = chk (if h : 0 < i ∧ i ≤ l.length then some (l[i - 1]'(by omega)).1 else none) (l.drop i) := by
  intro c
  induction c with
  | zero =>
    intro i f hc hi hf
    obtain ⟨f, rfl⟩ : ∃ y, f = y + 1 := ⟨f - 1, by omega⟩
    refine ⟨.e9 (i : Int), by rw [L58_0, List.length_map, cF (by omega)], ?_⟩
    rw [List.drop_of_length_le (by omega)]
    simp [is58, chk]
  | succ c ih =>
    intro i f hc hi hf
    obtain ⟨f, rfl⟩ : ∃ y, f = y + 1 := ⟨f - 1, by omega⟩
    have hil : i < l.length := by omega
    obtain ⟨R, hR1, hR2⟩ := ih (i + 1) f (by omega) (by omega) (by omega)
    rw [dif_pos ⟨by omega, by omega⟩] at hR2
    simp only [Nat.add_sub_cancel] at hR2
    have hnx : IntKind.i64.wrap ((i : Int) + 1) = ((i + 1 : Nat) : Int) := by rw [wi (n := (i : Int) + 1) (by omega) (by omega)]; omega
    have hdrop : l.drop i = l[i] :: l.drop (i + 1) := List.drop_eq_getElem_cons hil
    have hch : ∀ (q : Option Nat) (c : Cl) (r : List Cl), chk q (c :: r) = (okb c && (match q with | none => true | some q => decide (q < c.1)) && chk (some c.1) r) := fun q c r => by cases q <;> rfl
    rw [hdrop, hch, ← hR2]
    have hprev : ∀ (g : Int × Int × List UInt8 → Option L58_0_R), 0 < i → ((at? (l.map cl) (IntKind.i64.wrap ((i : Int) - 1))).bind dAu64i64sZ).bind g = g (((l[i - 1]'(by omega)).1 : Int), (l[i - 1]'(by omega)).2.1, (l[i - 1]'(by omega)).2.2) := by
      intro g h0
      rw [wi (n := (i : Int) - 1) (by omega) (by omega), show (i : Int) - 1 = ((i - 1 : Nat) : Int) by omega, at_cl (by omega)]; rfl
    have hB : ∃ R, L58_0 k b (l.map cl) o 3 (f + 1) (i : Int) = some R ∧ (okb l[i] = false → is58 R = false) ∧ (okb l[i] = true → (0 < i → (l[i - 1]'(by omega)).1 < l[i].1) → some R = L58_0 k b (l.map cl) o 3 f ((i + 1 : Nat) : Int)) ∧ (okb l[i] = true → ¬ (0 < i → (l[i - 1]'(by omega)).1 < l[i].1) → is58 R = false) := by
      rw [L58_0, List.length_map, cT (by omega), gp rfl, at_cl hil, Option.bind_some]
      simp only
      unfold okb
      have e59 : ((576460752303423488 : Int) ≤ (l[i].1 : Int)) ↔ ¬ l[i].1 < 576460752303423488 := by omega
      have tail : ∀ (e : L58_0_R), is58 e = false → ∃ R, (bif decide (0 < (i : Int)) then ((at? (l.map cl) (IntKind.i64.wrap ((i : Int) - 1))).bind dAu64i64sZ).bind (fun (i3, i4, s1) => bif decide ((l[i].1 : Int) ≤ i3) then some e else L58_0 k b (l.map cl) o 3 f (IntKind.i64.wrap ((i : Int) + 1))) else L58_0 k b (l.map cl) o 3 f (IntKind.i64.wrap ((i : Int) + 1))) = some R ∧ ((0 < i → (l[i - 1]'(by omega)).1 < l[i].1) → some R = L58_0 k b (l.map cl) o 3 f ((i + 1 : Nat) : Int)) ∧ (¬ (0 < i → (l[i - 1]'(by omega)).1 < l[i].1) → is58 R = false) := by
        intro e he
        rw [hnx]
        by_cases h0 : 0 < i
        · rw [cT (by omega), hprev _ h0]
          simp only
          by_cases hlt : (l[i - 1]'(by omega)).1 < l[i].1
          · rw [cF (by omega), hR1]
            exact ⟨R, rfl, fun _ => rfl, fun h => absurd (fun _ => hlt) h⟩
          · rw [cT (by omega)]
            exact ⟨e, rfl, fun h => absurd (h h0) hlt, fun _ => he⟩
        · rw [cF (by omega), hR1]
          exact ⟨R, rfl, fun _ => rfl, fun h => absurd (fun h' => absurd h' h0) h⟩
      by_cases hs1 : l[i].2.1 = 1
      · rw [cT hs1]
        by_cases hN : l[i].1 < 576460752303423488
        · rw [cF (by omega)]
          by_cases h32 : l[i].2.2.length = 32
          · rw [cNT (by omega)]
            obtain ⟨R', t1, t2, t3⟩ := tail (.e4 (i : Int) (l[i].1 : Int) l[i].2.1 l[i].2.2) rfl
            refine ⟨R', t1, ?_, fun _ => t2, fun _ => t3⟩
            simp [hs1, hN, h32]
          · rw [cNF (by omega), cNF (by omega)]
            refine ⟨_, rfl, fun _ => rfl, ?_, fun _ _ => rfl⟩
            simp [hs1, hN, h32]
        · rw [cT (by omega)]
          refine ⟨_, rfl, fun _ => rfl, ?_, fun _ _ => rfl⟩
          simp [hN]
      · rw [cF hs1]
        by_cases hN : l[i].1 < 576460752303423488
        · rw [cF (by omega)]
          by_cases hs2 : l[i].2.1 = 2
          · rw [cNT hs2]
            by_cases hd : l[i].2.2 = []
            · rw [cNT hd]
              obtain ⟨R', t1, t2, t3⟩ := tail (.e8 (i : Int) (l[i].1 : Int) l[i].2.1 l[i].2.2) rfl
              refine ⟨R', t1, ?_, fun _ => t2, fun _ => t3⟩
              simp [hs1, hs2, hN, hd]
            · rw [cNF hd]
              refine ⟨_, rfl, fun _ => rfl, ?_, fun _ _ => rfl⟩
              simp [hs1, hs2, hN, hd]
          · rw [cNF hs2]
            refine ⟨_, rfl, fun _ => rfl, ?_, fun _ _ => rfl⟩
            simp [hs1, hs2, hN]
        · rw [cT (by omega)]
          refine ⟨_, rfl, fun _ => rfl, ?_, fun _ _ => rfl⟩
          simp [hN]
    obtain ⟨R', b1, b2, b3, b4⟩ := hB
    refine ⟨R', b1, ?_⟩
    cases hok : okb l[i] with
    | false => rw [b2 hok]; rfl
    | true =>
      by_cases hpr : 0 < i → (l[i - 1]'(by omega)).1 < l[i].1
      · have := b3 hok hpr
        rw [hR1] at this; cases this
        by_cases h0 : 0 < i
        · rw [dif_pos ⟨h0, by omega⟩]
          simp only
          rw [decide_eq_true (hpr h0)]; rfl
        · rw [dif_neg (fun h => h0 h.1)]; rfl
      · rw [b4 hok hpr]
        have h0 : 0 < i := Decidable.byContradiction fun h0 => hpr fun h => absurd h h0
        rw [dif_pos ⟨h0, by omega⟩]
        simp only
        rw [decide_eq_false (fun h => hpr fun _ => h)]; rfl
theorem g58 {k : Nat} {b : Bool} {o : Option Bool} {l : List Cl} (hl : l.length ≤ 1000) (hk : 1100 ≤ k) : F58 k o b 3 (l.map cl) = some (right l) := by
  unfold F58 right
  obtain ⟨R, h1, h2⟩ := L58_run (k := k) (b := b) (o := o) hl (l.length - 0) 0 (k + 2) rfl (by omega) (by omega)
  rw [dif_neg (fun h => absurd h.1 (by omega)), List.drop_zero] at h2
  have h1' : L58_0 k b (l.map cl) o 3 (k + 2) 0 = some R := h1
  rw [h1', Option.bind_some, ← h2]
  cases R <;> first | rfl | (simp only [is58, Bool.true_and, List.length_map]; congr 2; simp; omega)
def B64 : Nat := 18446744073709551616
/-- Why a span may not be asked for. -/
def why (l : List Cl) (a n : Nat) : Int := if right l = true then (if n = 0 ∨ 224 < n then 4 else if B64 < a + n then 2 else 0) else 1
theorem um {n : Int} : IntKind.u64.wrap n = n % 18446744073709551616 := wu_mod n
theorem g19 {k a n : Nat} (ha : a < B64) (hn : n < B64) (h0 : 0 < n) : F19 k (a : Int) (n : Int) = some (if B64 < a + n then 2 else 0) := by
  unfold F19
  unfold B64 at *
  rw [cF (by omega), um, um]
  by_cases h : 18446744073709551616 < a + n
  · rw [cT (by omega), if_pos h]
  · rw [cF (by omega), if_neg h]
theorem g81 {k a n : Nat} {b : Bool} {o : Option Bool} {l : List Cl} (hl : l.length ≤ 1000) (ha : a < B64) (hn : n < B64) (hk : 1100 ≤ k) : F81 k o b 3 (l.map cl) (a : Int) (n : Int) = some (why l a n) := by
  unfold F81 why
  rw [g58 hl (by omega), Option.bind_some]
  cases hr : right l with
  | false => rfl
  | true =>
    rw [if_pos rfl, Bool.not_true, cond_false]
    by_cases h1 : n = 0
    · rw [cT (by omega), if_pos (.inl h1)]
    · rw [cF (by omega)]
      by_cases h2 : 224 < n
      · rw [cT (by omega), if_pos (.inr h2)]
      · rw [cF (by omega), if_neg (by omega), g19 ha hn (by omega)]; rfl
theorem g16 {k a n : Nat} (h0 : 0 < n) (h : a + n ≤ B64) : F16 k (a : Int) (n : Int) = some (((a + n - 1 : Nat) : Int), 0) := by
  unfold F16
  unfold B64 at *
  rw [cF (by omega), um, um, cF (by omega)]
  congr 2; omega
def zeros (n : Nat) : List UInt8 := List.replicate n 0
theorem repeat_zero : ∀ n : Nat, repeatN [0] n = zeros n := by
  intro n
  induction n with
  | zero => rfl
  | succ n ih => rw [repeatN, ih]; rfl
theorem g59 {k : Nat} {i : Int} {n : Nat} (hi : i = (n : Int)) (hn : n ≤ 1000) : F59 k [0] i = some (zeros n) := by
  unfold F59
  subst hi
  rw [gp ⟨by omega, by simp; unfold maxBld; omega, by unfold maxBld; omega⟩, Int.toNat_natCast, repeat_zero]
/-- A cell's bytes. -/
def bytesC (c : Cl) : List UInt8 := if c.2.1 = 1 then c.2.2 else zeros 32
theorem g84 {k : Nat} {a s : Int} {d : List UInt8} : F84 k a s d = some (if s = 1 then d else zeros 32) := by
  unfold F84
  by_cases h : s = 1
  · rw [cT h, if_pos h]
  · rw [cF h, if_neg h, g59 (i := 32) (n := 32) rfl (by omega)]; rfl
theorem g85 {k : Nat} {b b1 : Bool} {o o1 : Option Bool} {n1 : Nat} {x y : List V} {q : Int} : F85 k o b 3 x o1 b1 n1 y q = some (if y.length ≤ x.length ∨ ((y.length : Int) ≤ q ∧ y.length ≤ 64) then (o1, b1, n1, y, 0) else (some true, true, 0, [], 6)) := by
  unfold F85
  by_cases h1 : x.length < y.length
  · rw [cT (by omega)]
    by_cases h2 : q < (y.length : Int)
    · rw [cT h2, if_neg (by omega)]
    · rw [cF h2]
      by_cases h3 : 64 < y.length
      · rw [cT (by omega), if_neg (by omega)]
      · rw [cF (by omega), if_pos (by omega)]
  · rw [cF (by omega), if_pos (.inl (by omega))]
end Go.Proofs.Mo
