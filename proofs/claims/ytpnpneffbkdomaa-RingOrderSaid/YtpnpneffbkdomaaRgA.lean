/-
  Rings, plainly: places, which may be, and when two are the same.
-/
import Derived.Test.YtpnpneffbkdomaaRxB
import Derived.Test.YtpnpneffbkdomaaSymPlain
set_option linter.unusedVariables false
set_option linter.unusedSimpArgs false
set_option maxRecDepth 100000
namespace Go.Proofs
open Go Go.Sym

abbrev Tx := List UInt8
theorem at_st {ss : List Tx} {i : Nat} (h : i < ss.length) : (at? (ss.map V.str) (i : Int)).bind dS = some ss[i] := by
  rw [at_map h]; rfl
theorem st_inj {a b : List Tx} (h : a.map V.str = b.map V.str) : a = b := by
  induction a generalizing b with
  | nil => cases b with | nil => rfl | cons y r => cases h
  | cons x r ih => cases b with
    | nil => cases h
    | cons y t => simp only [List.map_cons, List.cons.injEq, V.str.injEq] at h; rw [h.1, ih h.2]
/-- The slot of a place; the place of a slot. -/
def idN (n f i : Nat) : Nat := if f + i < n then f + i else f + i - n
def plN (n f s : Nat) : Nat := if f ≤ s then s - f else s + n - f
theorem pl_id {n f i : Nat} (hf : f < n) (hi : i < n) : plN n f (idN n f i) = i := by
  unfold plN idN; split <;> split <;> omega
theorem id_pl {n f s : Nat} (hf : f < n) (hs : s < n) : idN n f (plN n f s) = s := by
  unfold plN idN; split <;> split <;> omega
theorem pl_lt {n f s : Nat} (hf : f < n) (hs : s < n) : plN n f s < n := by
  unfold plN; split <;> omega
theorem id_lt {n f i : Nat} (hf : f < n) (hi : i ≤ n) : idN n f i < n := by
  unfold idN; split <;> omega
theorem pl_iff {n f s i : Nat} (hf : f < n) (hs : s < n) (hi : i < n) : plN n f s = i ↔ s = idN n f i :=
  ⟨fun h => by rw [← h, id_pl hf hs], fun h => by rw [h, pl_id hf hi]⟩
theorem tmod_two {a n : Int} (h0 : 0 ≤ a) (h1 : a < 2 * n) : a.tmod n = if a < n then a else a - n := by
  rw [Int.tmod_eq_emod_of_nonneg h0]
  split
  · exact Int.emod_eq_of_lt h0 (by omega)
  · rw [← Int.sub_emod_right, Int.emod_eq_of_lt (by omega) (by omega)]
theorem tmod_idN {n f i : Nat} (hn : n ≤ 1000) (hf : f < n) (hi : i ≤ n) : (IntKind.i64.wrap ((f : Int) + (i : Int))).tmod (n : Int) = ((idN n f i : Nat) : Int) := by
  rw [wi (by omega) (by omega), tmod_two (by omega) (by omega)]
  unfold idN
  split <;> split <;> omega
theorem tmod_plN {n f s : Nat} (hn : n ≤ 1000) (hf : f < n) (hs : s < n) : (IntKind.i64.wrap (IntKind.i64.wrap ((s : Int) - (f : Int)) + (n : Int))).tmod (n : Int) = ((plN n f s : Nat) : Int) := by
  rw [wi (n := (s : Int) - f) (by omega) (by omega), wi (by omega) (by omega), tmod_two (by omega) (by omega)]
  unfold plN
  split <;> split <;> omega
theorem g81 {k : Nat} {o : Option Bool} {b : Bool} {q : Nat} {xs : List V} {f s : Nat} {mn : Int} (hn : xs.length ≤ 1000) (hf : f < xs.length) (hs : s < xs.length) : F81 k o b q xs f mn s = some ((plN xs.length f s : Nat) : Int) := by
  unfold F81
  rw [gp (by omega), tmod_plN hn hf hs]

/-- May a ring be? -/
def rightR (ss : List Tx) (f m : Int) : Bool := decide (1 ≤ ss.length ∧ ss.length ≤ 64 ∧ 0 ≤ f ∧ f < ss.length ∧ 0 ≤ m ∧ m ≤ ss.length ∧ ∀ s : Nat, s < ss.length → m.toNat ≤ plN ss.length f.toNat s → ss.getD s [] = [])
theorem getD_get {ss : List Tx} {i : Nat} (h : i < ss.length) : ss.getD i [] = ss[i] := by
  rw [List.getD_eq_getElem?_getD, List.getElem?_eq_getElem h]; rfl
/-- The slots of the first places are emptied. -/
def clrN (ss : List Tx) (f i : Nat) : List Tx := (List.range ss.length).map fun s => if plN ss.length f s < i then [] else ss.getD s []
theorem clr_length (ss : List Tx) (f i : Nat) : (clrN ss f i).length = ss.length := by simp [clrN]
theorem clr_get {ss : List Tx} {f i s : Nat} (h : s < (clrN ss f i).length) : (clrN ss f i)[s] = if plN ss.length f s < i then [] else ss.getD s [] := by
  simp [clrN]
theorem clr_zero (ss : List Tx) (f : Nat) : clrN ss f 0 = ss := by
  apply List.ext_getElem (clr_length ..)
  intro i h1 h2
  rw [clr_get h1, if_neg (by omega), getD_get h2]
theorem clr_succ {ss : List Tx} {f i : Nat} (hf : f < ss.length) (hi : i < ss.length) : (clrN ss f i).set (idN ss.length f i) [] = clrN ss f (i + 1) := by
  apply List.ext_getElem (by rw [List.length_set, clr_length, clr_length])
  intro s h1 h2
  have hs : s < ss.length := by rwa [clr_length] at h2
  have hp := pl_iff (s := s) hf hs hi
  rw [List.getElem_set, clr_get, clr_get]
  by_cases he : idN ss.length f i = s
  · rw [if_pos he, if_pos (by rw [hp.2 he.symm]; omega)]
  · rw [if_neg he]
    have : plN ss.length f s ≠ i := fun h => he (hp.1 h).symm
    by_cases h3 : plN ss.length f s < i
    · rw [if_pos h3, if_pos (by omega)]
    · rw [if_neg h3, if_neg (by omega)]
theorem L47_2_run {k : Nat} {ss : List Tx} {f m : Nat} {b : Bool} {o : Option Bool} {q : Nat} (hn : ss.length ≤ 1000) (hf : f < ss.length) (hm : m ≤ ss.length) : ∀ (c i g : Nat), m - i = c → i ≤ m → c < g →
    ∃ z, L47_2 k f m b (ss.map V.str) o q g (i : Int) ((clrN ss f i).map V.str) = some (.e0 z ((clrN ss f m).map V.str)) := by
  intro c
  induction c with
  | zero =>
    intro i g hc hi hg
    obtain ⟨g, rfl⟩ : ∃ y, g = y + 1 := ⟨g - 1, by omega⟩
    refine ⟨(i : Int), ?_⟩
    rw [L47_2, cF (by omega), show i = m by omega]
  | succ c ih =>
    intro i g hc hi hg
    obtain ⟨g, rfl⟩ : ∃ y, g = y + 1 := ⟨g - 1, by omega⟩
    obtain ⟨z, hz⟩ := ih (i + 1) g (by omega) (by omega) (by omega)
    refine ⟨z, ?_⟩
    have hid := id_lt (n := ss.length) (f := f) (i := i) hf (by omega)
    have e : ((clrN ss f i).map V.str).set (idN ss.length f i) (V.str []) = (clrN ss f (i + 1)).map V.str := by
      rw [← clr_succ hf (by omega), List.map_set]
    rw [L47_2, cT (by omega), List.length_map, List.length_map, clr_length, gp (by omega), tmod_idN hn hf (by omega), gp (by omega), Int.toNat_natCast, gp hid, e, wi (n := (i : Int) + 1) (by omega) (by omega), show ((i : Int) + 1) = ((i + 1 : Nat) : Int) by omega]
    exact hz
theorem L47_3_run {k : Nat} {ss : List Tx} (hn : ss.length ≤ 1000) : ∀ (c i g : Nat), ss.length - i = c → i ≤ ss.length → c < g →
    ((∀ s : Nat, i ≤ s → s < ss.length → ss.getD s [] = []) ∧ ∃ z, L47_3 k (ss.map V.str) g (i : Int) = some (.e1 z)) ∨ ((¬∀ s : Nat, i ≤ s → s < ss.length → ss.getD s [] = []) ∧ ∃ z : Nat, L47_3 k (ss.map V.str) g (i : Int) = some (.e0 z)) := by
  intro c
  induction c with
  | zero =>
    intro i g hc hi hg
    obtain ⟨g, rfl⟩ : ∃ y, g = y + 1 := ⟨g - 1, by omega⟩
    refine .inl ⟨fun s h1 h2 => by omega, (i : Int), ?_⟩
    rw [L47_3, List.length_map, cF (by omega)]
  | succ c ih =>
    intro i g hc hi hg
    obtain ⟨g, rfl⟩ : ∃ y, g = y + 1 := ⟨g - 1, by omega⟩
    have hi2 : i < ss.length := by omega
    rw [L47_3, List.length_map, cT (by omega), at_st hi2, Option.bind_some]
    unfold F80
    rw [Option.bind_some]
    by_cases he : ss[i] = []
    · rw [cNT he, wi (n := (i : Int) + 1) (by omega) (by omega), show ((i : Int) + 1) = ((i + 1 : Nat) : Int) by omega]
      rcases ih (i + 1) g (by omega) (by omega) (by omega) with ⟨h, h2⟩ | ⟨h, h2⟩
      · refine .inl ⟨fun s h3 h4 => ?_, h2⟩
        rcases Nat.lt_or_ge i s with h5 | h5
        · exact h s h5 h4
        · obtain rfl : s = i := by omega
          rw [getD_get hi2, he]
      · exact .inr ⟨fun hh => h fun s h3 h4 => hh s (by omega) h4, h2⟩
    · rw [cNF he]
      refine .inr ⟨fun hh => he ?_, i, rfl⟩
      rw [← getD_get hi2]; exact hh i (Nat.le_refl _) hi2
theorem isNil_st {o : Option Bool} {ss : List Tx} (ho : o = some true → ss = []) (h : ss ≠ []) : isNil o (ss.map V.str) = some false := by
  unfold isNil
  cases o with
  | none => simp [guardP, h]
  | some b => cases b with
    | true => exact absurd (ho rfl) h
    | false => rfl
theorem g47 {k : Nat} {ss : List Tx} {f m : Int} {b : Bool} {o : Option Bool} (hn : ss.length ≤ 1000) (ho : o = some true → ss = []) (hk : 2000 ≤ k) : F47 k o b 1 (ss.map V.str) f m = some (rightR ss f m) := by
  unfold F47 rightR
  rw [List.length_map]
  by_cases h1 : (ss.length : Int) < 1
  · rw [cT h1, dec_f (fun h => by omega)]
  by_cases h2 : 64 < (ss.length : Int)
  · rw [cF h1, cT h2, dec_f (fun h => by omega)]
  by_cases h3 : f < 0
  · rw [cF h1, cF h2, cT h3, dec_f (fun h => by omega)]
  by_cases h4 : (ss.length : Int) ≤ f
  · rw [cF h1, cF h2, cF h3, cT h4, dec_f (fun h => by omega)]
  by_cases h5 : m < 0
  · rw [cF h1, cF h2, cF h3, cF h4, cT h5, dec_f (fun h => by omega)]
  by_cases h6 : (ss.length : Int) < m
  · rw [cF h1, cF h2, cF h3, cF h4, cF h5, cT h6, dec_f (fun h => by omega)]
  obtain ⟨f, rfl⟩ : ∃ x : Nat, f = x := ⟨f.toNat, by omega⟩
  obtain ⟨m, rfl⟩ : ∃ x : Nat, m = x := ⟨m.toNat, by omega⟩
  have hne : ss ≠ [] := fun h => by rw [h] at h1; simp at h1
  obtain ⟨z, hz⟩ := L47_2_run (k := k) (ss := ss) (f := f) (m := m) (b := b) (o := o) (q := 1) hn (by omega) (by omega) m 0 (k + 4) (by omega) (by omega) (by omega)
  rw [clr_zero, show ((0 : Nat) : Int) = 0 from rfl] at hz
  rw [cF h1, cF h2, cF h3, cF h4, cF h5, cF h6, isNil_st ho hne, Option.bind_some, cond_false, gp (.inl rfl), gp (by simp only [maxLen']; omega), hz, Option.bind_some]
  simp only [Int.toNat_natCast]
  rcases L47_3_run (k := k) (ss := clrN ss f m) (by rw [clr_length]; omega) (clrN ss f m).length 0 (k + 3) (by omega) (by omega) (by rw [clr_length]; omega) with ⟨h, y, hy⟩ | ⟨h, y, hy⟩
  · rw [show ((0 : Nat) : Int) = 0 from rfl] at hy
    rw [hy, Option.bind_some]
    simp only [Option.some.injEq]
    rw [dec_t]
    refine ⟨by omega, by omega, by omega, by omega, by omega, by omega, fun s h7 h8 => ?_⟩
    have := h s (Nat.zero_le _) (by rw [clr_length]; exact h7)
    rw [getD_get (by rw [clr_length]; exact h7), clr_get, if_neg (by omega)] at this
    exact this
  · rw [show ((0 : Nat) : Int) = 0 from rfl] at hy
    rw [hy, Option.bind_some]
    simp only [Option.some.injEq]
    rw [dec_t (by omega), dec_f]
    · rfl
    · rintro ⟨_, _, _, _, _, _, hh⟩
      refine h fun s _ h8 => ?_
      have h9 : s < ss.length := by rwa [clr_length] at h8
      rw [getD_get h8, clr_get]
      split
      · rfl
      · exact hh s h9 (by omega)
theorem L48_4_run {k : Nat} {ss : List Tx} {f : Nat} {m : Int} {b : Bool} {o : Option Bool} (hn : ss.length ≤ 1000) (hf : f < ss.length) (hm : 0 ≤ m) : ∀ (c i g : Nat), ss.length - i = c → i ≤ ss.length → c < g →
    ((∀ s : Nat, i ≤ s → s < ss.length → m.toNat ≤ plN ss.length f s → ss.getD s [] = []) ∧ ∃ z, L48_4 k f m b (ss.map V.str) o 1 g (i : Int) = some (.e1 z)) ∨ ((¬∀ s : Nat, i ≤ s → s < ss.length → m.toNat ≤ plN ss.length f s → ss.getD s [] = []) ∧ ∃ z y, L48_4 k f m b (ss.map V.str) o 1 g (i : Int) = some (.e0 z y)) := by
  intro c
  induction c with
  | zero =>
    intro i g hc hi hg
    obtain ⟨g, rfl⟩ : ∃ y, g = y + 1 := ⟨g - 1, by omega⟩
    refine .inl ⟨fun s h1 h2 => by omega, (i : Int), ?_⟩
    rw [L48_4, List.length_map, cF (by omega)]
  | succ c ih =>
    intro i g hc hi hg
    obtain ⟨g, rfl⟩ : ∃ y, g = y + 1 := ⟨g - 1, by omega⟩
    have hi2 : i < ss.length := by omega
    have go : (m.toNat ≤ plN ss.length f i → ss[i] = []) → ((∀ s : Nat, i ≤ s → s < ss.length → m.toNat ≤ plN ss.length f s → ss.getD s [] = []) ∧ ∃ z, L48_4 k f m b (ss.map V.str) o 1 g ((i + 1 : Nat) : Int) = some (.e1 z)) ∨ ((¬∀ s : Nat, i ≤ s → s < ss.length → m.toNat ≤ plN ss.length f s → ss.getD s [] = []) ∧ ∃ z y, L48_4 k f m b (ss.map V.str) o 1 g ((i + 1 : Nat) : Int) = some (.e0 z y)) := by
      intro he
      rcases ih (i + 1) g (by omega) (by omega) (by omega) with ⟨h, h2⟩ | ⟨h, h2⟩
      · refine .inl ⟨fun s h3 h4 h6 => ?_, h2⟩
        rcases Nat.lt_or_ge i s with h5 | h5
        · exact h s h5 h4 h6
        · obtain rfl : s = i := by omega
          rw [getD_get hi2, he h6]
      · exact .inr ⟨fun hh => h fun s h3 h4 => hh s (by omega) h4, h2⟩
    rw [L48_4, List.length_map, cT (by omega), gp rfl, at_st hi2, Option.bind_some, wi (n := (i : Int) + 1) (by omega) (by omega), show ((i : Int) + 1) = ((i + 1 : Nat) : Int) by omega]
    by_cases he : ss[i] = []
    · rw [cNT he]; exact go fun _ => he
    · rw [cNF he, g81 (by rw [List.length_map]; exact hn) (by rw [List.length_map]; exact hf) (by rw [List.length_map]; exact hi2), Option.bind_some, List.length_map]
      by_cases hp : m ≤ ((plN ss.length f i : Nat) : Int)
      · rw [cT hp]
        refine .inr ⟨fun hh => he ?_, (i : Int), ss[i], rfl⟩
        rw [← getD_get hi2]; exact hh i (Nat.le_refl _) hi2 (by omega)
      · rw [cF hp]; exact go fun h => by omega
theorem g48 {k : Nat} {ss : List Tx} {f m : Int} {b : Bool} {o : Option Bool} (hn : ss.length ≤ 1000) (hk : 2000 ≤ k) : F48 k o b 1 (ss.map V.str) f m = some (rightR ss f m) := by
  unfold F48 rightR
  rw [List.length_map]
  by_cases h1 : (ss.length : Int) < 1
  · rw [cT h1, dec_f (fun h => by omega)]
  by_cases h2 : 64 < (ss.length : Int)
  · rw [cF h1, cT h2, dec_f (fun h => by omega)]
  by_cases h3 : f < 0
  · rw [cF h1, cF h2, cT h3, dec_f (fun h => by omega)]
  by_cases h4 : (ss.length : Int) ≤ f
  · rw [cF h1, cF h2, cF h3, cT h4, dec_f (fun h => by omega)]
  by_cases h5 : m < 0
  · rw [cF h1, cF h2, cF h3, cF h4, cT h5, dec_f (fun h => by omega)]
  by_cases h6 : (ss.length : Int) < m
  · rw [cF h1, cF h2, cF h3, cF h4, cF h5, cT h6, dec_f (fun h => by omega)]
  obtain ⟨f, rfl⟩ : ∃ x : Nat, f = x := ⟨f.toNat, by omega⟩
  rw [cF h1, cF h2, cF h3, cF h4, cF h5, cF h6, Int.toNat_natCast]
  rcases L48_4_run (k := k) (ss := ss) (f := f) (m := m) (b := b) (o := o) hn (by omega) (by omega) ss.length 0 (k + 5) (by omega) (by omega) (by omega) with ⟨h, y, hy⟩ | ⟨h, y, x, hy⟩
  · rw [show ((0 : Nat) : Int) = 0 from rfl] at hy
    rw [hy, Option.bind_some]
    simp only [Option.some.injEq]
    rw [dec_t ⟨by omega, by omega, by omega, by omega, by omega, by omega, fun s h7 h8 => h s (Nat.zero_le _) h7 h8⟩]
  · rw [show ((0 : Nat) : Int) = 0 from rfl] at hy
    rw [hy, Option.bind_some]
    simp only [Option.some.injEq]
    rw [dec_f (fun hh => h fun s _ h7 h8 => hh.2.2.2.2.2.2 s h7 h8)]

theorem drop_cons {α : Type} {l : List α} {i : Nat} (h : i < l.length) : l.drop i = l[i] :: l.drop (i + 1) := List.drop_eq_getElem_cons h
theorem L55_run {k : Nat} {b c : Bool} {o p : Option Bool} {ws vs : List Tx} (hl : ws.length ≤ 1000) (he : ws.length = vs.length) : ∀ (r i f : Nat), ws.length - i = r → i ≤ ws.length → r < f →
    (ws.drop i = vs.drop i ∧ ∃ z, L55_5 k b c (ws.map V.str) (vs.map V.str) o p 1 1 f (i : Int) = some (.e1 z)) ∨ (ws.drop i ≠ vs.drop i ∧ ∃ z, L55_5 k b c (ws.map V.str) (vs.map V.str) o p 1 1 f (i : Int) = some (.e0 z)) := by
  intro r
  induction r with
  | zero =>
    intro i f hr hi hf
    obtain ⟨f, rfl⟩ : ∃ g, f = g + 1 := ⟨f - 1, by omega⟩
    refine .inl ⟨by rw [List.drop_eq_nil_of_le (by omega), List.drop_eq_nil_of_le (by omega)], (i : Int), ?_⟩
    rw [L55_5, List.length_map, cF (by omega)]
  | succ r ih =>
    intro i f hr hi hf
    obtain ⟨f, rfl⟩ : ∃ g, f = g + 1 := ⟨f - 1, by omega⟩
    have h1 : i < ws.length := by omega
    have h2 : i < vs.length := by omega
    rw [L55_5, List.length_map, cT (by omega), gp rfl, at_st h1, Option.bind_some, gp rfl, at_st h2, Option.bind_some, drop_cons h1, drop_cons h2]
    by_cases hd : ws[i] = vs[i]
    · rw [cNT hd, wi (n := (i : Int) + 1) (by omega) (by omega), show ((i : Int) + 1) = ((i + 1 : Nat) : Int) by omega, hd]
      rcases ih (i + 1) f (by omega) (by omega) (by omega) with ⟨h, h3⟩ | ⟨h, h3⟩
      · exact .inl ⟨by rw [h], h3⟩
      · exact .inr ⟨fun e => h (List.cons.inj e).2, h3⟩
    · rw [cNF hd]
      exact .inr ⟨fun e => hd (List.cons.inj e).1, (i : Int), rfl⟩
theorem g55 {k : Nat} {o p : Option Bool} {b c : Bool} {ws vs : List Tx} (hl : ws.length ≤ 1000) (hk : 2000 ≤ k) : F55 k o b 1 (ws.map V.str) p c 1 (vs.map V.str) = some (decide (ws = vs)) := by
  unfold F55
  rw [List.length_map, List.length_map]
  by_cases h3 : ws.length = vs.length
  case neg => rw [cNF (by omega), dec_f (fun h => h3 (by rw [h]))]
  rw [cNT (by omega)]
  rcases L55_run (k := k) (b := b) (c := c) (o := o) (p := p) hl h3 ws.length 0 (k + 2) (by omega) (by omega) (by omega) with ⟨h, z, hz⟩ | ⟨h, z, hz⟩
  · rw [show ((0 : Nat) : Int) = 0 from rfl] at hz
    rw [hz, dec_t (by simpa using h)]; rfl
  · rw [show ((0 : Nat) : Int) = 0 from rfl] at hz
    rw [hz, dec_f (fun hh => h (by rw [hh]))]; rfl
theorem g50 {k : Nat} {o p : Option Bool} {b c : Bool} {ws : List Tx} {f m : Int} (hl : ws.length ≤ 1000) (hk : 2000 ≤ k) : F50 k o b 1 (ws.map V.str) f m p c 1 (ws.map V.str) f m = some true := by
  unfold F50
  rw [g55 hl (by omega), Option.bind_some, cT rfl, cT rfl, dec_t rfl]
theorem g50e {k : Nat} {o p : Option Bool} {b c : Bool} {n m : Nat} : F50 k o b n [] 0 0 p c m [] 0 0 = some true := by kernel_rfl
theorem g51 (k : Nat) : F51 k = some true := by kernel_rfl
theorem g45 {k : Nat} {f m : Int} {o : Option Bool} {b : Bool} {ss : List Tx} : F45 k o b 1 (ss.map V.str) f m = some (o, false, 1, (ss.take 70).map V.str, f, m) := by
  unfold F45
  have e := take_if 70 (ss.map V.str)
  rw [show ((70 : Nat) : Int) = 70 from rfl] at e
  rw [gp rfl, gp (by split <;> omega), e, ← List.map_take]
end Go.Proofs
