/-
  Rings, plainly: their texts, one more, some fewer.
-/
import Derived.Test.YtpnpneffbkdomaaRgA
set_option linter.unusedVariables false
set_option linter.unusedSimpArgs false
set_option maxRecDepth 100000
namespace Go.Proofs
open Go Go.Sym

/-- A ring of n slots, from f on, with texts. -/
def ringL (n f : Nat) (l : List Tx) : List Tx := (List.range n).map fun s => l.getD (plN n f s) []
theorem ringL_length (n f : Nat) (l : List Tx) : (ringL n f l).length = n := by simp [ringL]
theorem ringL_get {n f s : Nat} {l : List Tx} (h : s < (ringL n f l).length) : (ringL n f l)[s] = l.getD (plN n f s) [] := by simp [ringL]
/-- The texts of a ring. -/
def itemsN (ss : List Tx) (f m : Nat) : List Tx := (List.range m).map fun i => ss.getD (idN ss.length f i) []
theorem items_length (ss : List Tx) (f m : Nat) : (itemsN ss f m).length = m := by simp [itemsN]
theorem items_get {ss : List Tx} {f m i : Nat} (h : i < (itemsN ss f m).length) : (itemsN ss f m)[i] = ss.getD (idN ss.length f i) [] := by simp [itemsN]
theorem items_ring {n f : Nat} {l : List Tx} (hf : f < n) (hl : l.length ≤ n) : itemsN (ringL n f l) f l.length = l := by
  apply List.ext_getElem (items_length ..)
  intro i h1 h2
  rw [items_get, ringL_length, getD_get (by rw [ringL_length]; exact id_lt hf (by omega)), ringL_get, pl_id hf (by omega), getD_get h2]
theorem right_form {ss : List Tx} {f m : Int} (h : rightR ss f m = true) : ∃ fn mn : Nat, f = fn ∧ m = mn ∧ 1 ≤ ss.length ∧ ss.length ≤ 64 ∧ fn < ss.length ∧ mn ≤ ss.length ∧ ss = ringL ss.length fn (itemsN ss fn mn) := by
  obtain ⟨h1, h2, h3, h4, h5, h6, h7⟩ := of_decide_eq_true h
  refine ⟨f.toNat, m.toNat, by omega, by omega, h1, h2, by omega, by omega, ?_⟩
  apply List.ext_getElem (by rw [ringL_length])
  intro s hs hs2
  rw [ringL_get]
  by_cases hp : plN ss.length f.toNat s < m.toNat
  · rw [getD_get (by rw [items_length]; exact hp), items_get, id_pl (by omega) hs, getD_get hs]
  · rw [List.getD_eq_getElem?_getD, List.getElem?_eq_none (by rw [items_length]; omega), ← getD_get hs]
    exact h7 s hs (by omega)
theorem ring_right {n f : Nat} {l : List Tx} (h1 : 1 ≤ n) (h2 : n ≤ 64) (hf : f < n) (hl : l.length ≤ n) : rightR (ringL n f l) f l.length = true := by
  unfold rightR
  rw [ringL_length]
  refine dec_t ⟨h1, h2, by omega, by omega, by omega, by omega, fun s h3 h4 => ?_⟩
  rw [getD_get (by rw [ringL_length]; exact h3), ringL_get, List.getD_eq_getElem?_getD, List.getElem?_eq_none (by simpa using h4)]
  rfl

theorem L54_run {k : Nat} {ss : List Tx} {f m : Nat} {b : Bool} {o : Option Bool} (hn : ss.length ≤ 1000) (hf : f < ss.length) (hm : m ≤ ss.length) : ∀ (c i g : Nat), m - i = c → i ≤ m → c < g →
    ∃ z, L54_8 k f m b (ss.map V.str) o 1 g (i : Int) (((itemsN ss f m).take i).map V.str) = some (.e0 z ((itemsN ss f m).map V.str)) := by
  intro c
  induction c with
  | zero =>
    intro i g hc hi hg
    obtain ⟨g, rfl⟩ : ∃ y, g = y + 1 := ⟨g - 1, by omega⟩
    refine ⟨(i : Int), ?_⟩
    rw [L54_8, cF (by omega), List.take_of_length_le (by rw [items_length]; omega)]
  | succ c ih =>
    intro i g hc hi hg
    obtain ⟨g, rfl⟩ : ∃ y, g = y + 1 := ⟨g - 1, by omega⟩
    obtain ⟨z, hz⟩ := ih (i + 1) g (by omega) (by omega) (by omega)
    refine ⟨z, ?_⟩
    have hid := id_lt (n := ss.length) (f := f) (i := i) hf (by omega)
    have hil : i < (itemsN ss f m).length := by rw [items_length]; omega
    have e : (((itemsN ss f m).take i).map V.str) ++ [V.str ss[idN ss.length f i]] = (((itemsN ss f m).take (i + 1)).map V.str) := by
      rw [List.take_succ_eq_append_getElem hil, List.map_append, items_get, getD_get hid]; rfl
    rw [L54_8, cT (by omega), List.length_map, gp (by omega), gp rfl, tmod_idN hn hf (by omega), at_st hid, Option.bind_some, gp (by rw [List.length_map, List.length_take]; simp only [maxLen']; omega), e, wi (n := (i : Int) + 1) (by omega) (by omega), show ((i : Int) + 1) = ((i + 1 : Nat) : Int) by omega]
    exact hz
theorem g54 {k : Nat} {ss : List Tx} {f m : Nat} {b : Bool} {o : Option Bool} (hn : ss.length ≤ 1000) (ho : o = some true → ss = []) (hr : rightR ss f m = true) (hk : 2000 ≤ k) : F54 k o b 1 (ss.map V.str) f m = some (none, false, 1, (itemsN ss f m).map V.str, 0) := by
  obtain ⟨fn, mn, e1, e2, h1, h2, h3, h4, h5⟩ := right_form hr
  obtain rfl : f = fn := by omega
  obtain rfl : m = mn := by omega
  unfold F54
  rw [g47 hn ho (by omega), Option.bind_some, hr]
  simp only [Bool.not_true, cond_false]
  obtain ⟨z, hz⟩ := L54_run (k := k) (ss := ss) (f := f) (m := m) (b := b) (o := o) hn h3 h4 m 0 (k + 7) (by omega) (by omega) (by omega)
  rw [List.take_zero, List.map_nil, show ((0 : Nat) : Int) = 0 from rfl] at hz
  rw [hz]; rfl
theorem g54e {k : Nat} {ss : List Tx} {f m : Int} {b : Bool} {o : Option Bool} (hn : ss.length ≤ 1000) (ho : o = some true → ss = []) (hr : rightR ss f m = false) (hk : 2000 ≤ k) : F54 k o b 1 (ss.map V.str) f m = some (some true, true, 0, [], 1) := by
  unfold F54
  rw [g47 hn ho (by omega), Option.bind_some, hr]; rfl

theorem setN {ss : List Tx} {f m : Nat} {t : Tx} (hf : f < ss.length) (hm : m < ss.length) (h5 : ss = ringL ss.length f (itemsN ss f m)) : ss.set (idN ss.length f m) t = ringL ss.length f (itemsN ss f m ++ [t]) := by
  apply List.ext_getElem (by rw [List.length_set, ringL_length])
  intro s h1 h2
  have hs : s < ss.length := by rwa [List.length_set] at h1
  have hp := pl_iff (s := s) hf hs hm
  have e : ss[s] = (itemsN ss f m).getD (plN ss.length f s) [] := by
    have := congrArg (fun l : List Tx => l.getD s []) h5
    rw [getD_get hs, getD_get (by rw [ringL_length]; exact hs), ringL_get] at this
    exact this
  rw [List.getElem_set, ringL_get, e]
  by_cases he : idN ss.length f m = s
  · rw [if_pos he, hp.2 he.symm, List.getD_eq_getElem?_getD, List.getElem?_append_right (by rw [items_length]; omega), items_length]
    simp
  · rw [if_neg he]
    have hne : plN ss.length f s ≠ m := fun h => he (hp.1 h).symm
    rw [List.getD_eq_getElem?_getD, List.getD_eq_getElem?_getD]
    by_cases hl : plN ss.length f s < m
    · rw [List.getElem?_append_left (by rw [items_length]; exact hl)]
    · rw [List.getElem?_eq_none (by rw [items_length]; omega), List.getElem?_eq_none (by simp [items_length]; omega)]
theorem g52e {k : Nat} {ss : List Tx} {f m : Int} {t : Tx} {b : Bool} {o : Option Bool} (hn : ss.length ≤ 1000) (ho : o = some true → ss = []) (hr : rightR ss f m = false) (hk : 2000 ≤ k) : F52 k o b 1 (ss.map V.str) f m t = some (some true, true, 0, [], 0, 0, 1) := by
  unfold F52
  rw [g47 hn ho (by omega), Option.bind_some, hr]; rfl
theorem g52f {k : Nat} {ss : List Tx} {f m : Int} {t : Tx} {b : Bool} {o : Option Bool} (hn : ss.length ≤ 1000) (ho : o = some true → ss = []) (hr : rightR ss f m = true) (hm : m = ss.length) (hk : 2000 ≤ k) : F52 k o b 1 (ss.map V.str) f m t = some (some true, true, 0, [], 0, 0, 6) := by
  unfold F52
  rw [g47 hn ho (by omega), Option.bind_some, hr]
  simp only [Bool.not_true, cond_false]
  rw [List.length_map, cT hm]
theorem g52 {k : Nat} {ss : List Tx} {f m : Nat} {t : Tx} {b : Bool} {o : Option Bool} (hn : ss.length ≤ 1000) (ho : o = some true → ss = []) (hr : rightR ss f m = true) (hm : m ≠ ss.length) (hk : 2000 ≤ k) : F52 k o b 1 (ss.map V.str) f m t = some (none, false, 1, (ringL ss.length f (itemsN ss f m ++ [t])).map V.str, ((f : Nat) : Int), ((m + 1 : Nat) : Int), 0) := by
  obtain ⟨fn, mn, e1, e2, h1, h2, h3, h4, h5⟩ := right_form hr
  obtain rfl : f = fn := by omega
  obtain rfl : m = mn := by omega
  have hid := id_lt (n := ss.length) (f := f) (i := m) h3 (by omega)
  have hne : ss ≠ [] := fun h => by rw [h] at h1; simp at h1
  unfold F52
  rw [g47 hn ho (by omega), Option.bind_some, hr]
  simp only [Bool.not_true, cond_false]
  rw [List.length_map, cF (by omega), isNil_st ho hne, Option.bind_some, cond_false, gp (.inl trivial), gp (by simp only [maxLen']; omega), gp (by omega), tmod_idN hn h3 h4, gp (by omega), Int.toNat_natCast, gp hid, wi (by omega) (by omega), ← List.map_set, setN h3 (by omega) h5]
  rfl

/-! ### The reference -/

theorem L56_11_run {k : Nat} {ss : List Tx} {f m i : Nat} {b : Bool} {o : Option Bool} (hn : ss.length ≤ 1000) (hf : f < ss.length) (hi : i < ss.length) : ∀ (c s g : Nat) (x : List Tx), ss.length - s = c → s ≤ ss.length → c < g → x.length ≤ 1000 →
    ∃ z, L56_11 k f m i b (ss.map V.str) o 1 g (s : Int) (x.map V.str) = some (.e0 z ((x ++ if s ≤ idN ss.length f i then [ss.getD (idN ss.length f i) []] else []).map V.str)) := by
  intro c
  induction c with
  | zero =>
    intro s g x hc hs hg hx
    obtain ⟨g, rfl⟩ : ∃ y, g = y + 1 := ⟨g - 1, by omega⟩
    refine ⟨(s : Int), ?_⟩
    have hid := id_lt (n := ss.length) (f := f) (i := i) hf (by omega)
    rw [L56_11, List.length_map, cF (by omega), if_neg (by omega), List.append_nil]
  | succ c ih =>
    intro s g x hc hs hg hx
    obtain ⟨g, rfl⟩ : ∃ y, g = y + 1 := ⟨g - 1, by omega⟩
    have hs2 : s < ss.length := by omega
    have hp := pl_iff (s := s) hf hs2 hi
    rw [L56_11, List.length_map, cT (by omega), gp rfl, at_st hs2, Option.bind_some, g81 (by rw [List.length_map]; exact hn) (by rw [List.length_map]; exact hf) (by rw [List.length_map]; exact hs2), Option.bind_some, List.length_map, wi (n := (s : Int) + 1) (by omega) (by omega), show ((s : Int) + 1) = ((s + 1 : Nat) : Int) by omega]
    by_cases he : plN ss.length f s = i
    · rw [cT (by omega), gp (by rw [List.length_map]; simp only [maxLen']; omega), show x.map V.str ++ [V.str ss[s]] = (x ++ [ss[s]]).map V.str by rw [List.map_append]; rfl]
      have e := hp.1 he
      by_cases hx2 : (x ++ [ss[s]]).length ≤ 1000
      · obtain ⟨z, hz⟩ := ih (s + 1) g (x ++ [ss[s]]) (by omega) (by omega) (by omega) hx2
        refine ⟨z, ?_⟩
        rw [hz, if_neg (by omega), if_pos (by omega), List.append_nil, ← e, getD_get hs2]
      · -- one more than is asked: the loop goes on without another text
        have gen : ∀ (c s' g : Nat), ss.length - s' = c → s < s' → s' ≤ ss.length → c < g → ∃ z, L56_11 k f m i b (ss.map V.str) o 1 g (s' : Int) ((x ++ [ss[s]]).map V.str) = some (.e0 z ((x ++ [ss[s]]).map V.str)) := by
          intro c
          induction c with
          | zero =>
            intro s' g hc hs' hs3 hg
            obtain ⟨g, rfl⟩ : ∃ y, g = y + 1 := ⟨g - 1, by omega⟩
            exact ⟨(s' : Int), by rw [L56_11, List.length_map, cF (by omega)]⟩
          | succ c ihc =>
            intro s' g hc hs' hs3 hg
            obtain ⟨g, rfl⟩ : ∃ y, g = y + 1 := ⟨g - 1, by omega⟩
            have hs4 : s' < ss.length := by omega
            have hne : plN ss.length f s' ≠ i := fun h => by have := (pl_iff (s := s') hf hs4 hi).1 h; omega
            obtain ⟨z, hz⟩ := ihc (s' + 1) g (by omega) (by omega) (by omega) (by omega)
            refine ⟨z, ?_⟩
            rw [L56_11, List.length_map, cT (by omega), gp rfl, at_st hs4, Option.bind_some, g81 (by rw [List.length_map]; exact hn) (by rw [List.length_map]; exact hf) (by rw [List.length_map]; exact hs4), Option.bind_some, List.length_map, cF (by omega), wi (n := (s' : Int) + 1) (by omega) (by omega), show ((s' : Int) + 1) = ((s' + 1 : Nat) : Int) by omega]
            exact hz
        obtain ⟨z, hz⟩ := gen (ss.length - (s + 1)) (s + 1) g rfl (by omega) (by omega) (by omega)
        refine ⟨z, ?_⟩
        rw [hz, if_pos (by omega), ← e, getD_get hs2]
    · rw [cF (by omega)]
      obtain ⟨z, hz⟩ := ih (s + 1) g x (by omega) (by omega) (by omega) hx
      refine ⟨z, ?_⟩
      have hne : s ≠ idN ss.length f i := fun h => he (hp.2 h)
      rw [hz]
      by_cases h6 : s ≤ idN ss.length f i
      · rw [if_pos h6, if_pos (by omega)]
      · rw [if_neg h6, if_neg (by omega)]
theorem L56_9_run {k : Nat} {ss : List Tx} {f m : Nat} {b : Bool} {o : Option Bool} (hn : ss.length ≤ 500) (hf : f < ss.length) (hm : m ≤ ss.length) (hk : 2000 ≤ k) : ∀ (c i g : Nat), m - i = c → i ≤ m → c < g →
    ∃ z, L56_9 k f m b (ss.map V.str) o 1 g (i : Int) (((itemsN ss f m).take i).map V.str) = some (.e0 z ((itemsN ss f m).map V.str)) := by
  intro c
  induction c with
  | zero =>
    intro i g hc hi hg
    obtain ⟨g, rfl⟩ : ∃ y, g = y + 1 := ⟨g - 1, by omega⟩
    refine ⟨(i : Int), ?_⟩
    rw [L56_9, cF (by omega), List.take_of_length_le (by rw [items_length]; omega)]
  | succ c ih =>
    intro i g hc hi hg
    obtain ⟨g, rfl⟩ : ∃ y, g = y + 1 := ⟨g - 1, by omega⟩
    obtain ⟨z, hz⟩ := ih (i + 1) g (by omega) (by omega) (by omega)
    refine ⟨z, ?_⟩
    have hil : i < (itemsN ss f m).length := by rw [items_length]; omega
    obtain ⟨y, hy⟩ := L56_11_run (k := k) (ss := ss) (f := f) (m := m) (i := i) (b := b) (o := o) (by omega) hf (by omega) ss.length 0 (k + 5) ((itemsN ss f m).take i) (by omega) (by omega) (by omega) (by rw [List.length_take, items_length]; omega)
    rw [show ((0 : Nat) : Int) = 0 from rfl, if_pos (Nat.zero_le _)] at hy
    have e : (itemsN ss f m).take i ++ [ss.getD (idN ss.length f i) []] = (itemsN ss f m).take (i + 1) := by
      rw [List.take_succ_eq_append_getElem hil, items_get]
    rw [e] at hy
    rw [L56_9, cT (by omega), hy, Option.bind_some]
    simp only
    rw [wi (n := (i : Int) + 1) (by omega) (by omega), show ((i : Int) + 1) = ((i + 1 : Nat) : Int) by omega]
    exact hz

theorem L57_15_run {k : Nat} {ss : List Tx} {f m i : Nat} {b : Bool} {o : Option Bool} (hn : ss.length ≤ 1000) (hf : f < ss.length) (hi : i < ss.length) : ∀ (c s g : Nat) (x : List Tx), ss.length - s = c → s ≤ ss.length → c < g → x.length ≤ 1000 →
    ∃ z, L57_15 k f m i b (ss.map V.str) o 1 g (s : Int) (x.map V.str) = some (.e0 z ((x ++ if s ≤ idN ss.length f i then [ss.getD (idN ss.length f i) []] else []).map V.str)) := by
  intro c
  induction c with
  | zero =>
    intro s g x hc hs hg hx
    obtain ⟨g, rfl⟩ : ∃ y, g = y + 1 := ⟨g - 1, by omega⟩
    refine ⟨(s : Int), ?_⟩
    have hid := id_lt (n := ss.length) (f := f) (i := i) hf (by omega)
    rw [L57_15, List.length_map, cF (by omega), if_neg (by omega), List.append_nil]
  | succ c ih =>
    intro s g x hc hs hg hx
    obtain ⟨g, rfl⟩ : ∃ y, g = y + 1 := ⟨g - 1, by omega⟩
    have hs2 : s < ss.length := by omega
    have hp := pl_iff (s := s) hf hs2 hi
    rw [L57_15, List.length_map, cT (by omega), gp rfl, at_st hs2, Option.bind_some, g81 (by rw [List.length_map]; exact hn) (by rw [List.length_map]; exact hf) (by rw [List.length_map]; exact hs2), Option.bind_some, List.length_map, wi (n := (s : Int) + 1) (by omega) (by omega), show ((s : Int) + 1) = ((s + 1 : Nat) : Int) by omega]
    by_cases he : plN ss.length f s = i
    · rw [cT (by omega), gp (by rw [List.length_map]; simp only [maxLen']; omega), show x.map V.str ++ [V.str ss[s]] = (x ++ [ss[s]]).map V.str by rw [List.map_append]; rfl]
      have e := hp.1 he
      by_cases hx2 : (x ++ [ss[s]]).length ≤ 1000
      · obtain ⟨z, hz⟩ := ih (s + 1) g (x ++ [ss[s]]) (by omega) (by omega) (by omega) hx2
        refine ⟨z, ?_⟩
        rw [hz, if_neg (by omega), if_pos (by omega), List.append_nil, ← e, getD_get hs2]
      · -- one more than is asked: the loop goes on without another text
        have gen : ∀ (c s' g : Nat), ss.length - s' = c → s < s' → s' ≤ ss.length → c < g → ∃ z, L57_15 k f m i b (ss.map V.str) o 1 g (s' : Int) ((x ++ [ss[s]]).map V.str) = some (.e0 z ((x ++ [ss[s]]).map V.str)) := by
          intro c
          induction c with
          | zero =>
            intro s' g hc hs' hs3 hg
            obtain ⟨g, rfl⟩ : ∃ y, g = y + 1 := ⟨g - 1, by omega⟩
            exact ⟨(s' : Int), by rw [L57_15, List.length_map, cF (by omega)]⟩
          | succ c ihc =>
            intro s' g hc hs' hs3 hg
            obtain ⟨g, rfl⟩ : ∃ y, g = y + 1 := ⟨g - 1, by omega⟩
            have hs4 : s' < ss.length := by omega
            have hne : plN ss.length f s' ≠ i := fun h => by have := (pl_iff (s := s') hf hs4 hi).1 h; omega
            obtain ⟨z, hz⟩ := ihc (s' + 1) g (by omega) (by omega) (by omega) (by omega)
            refine ⟨z, ?_⟩
            rw [L57_15, List.length_map, cT (by omega), gp rfl, at_st hs4, Option.bind_some, g81 (by rw [List.length_map]; exact hn) (by rw [List.length_map]; exact hf) (by rw [List.length_map]; exact hs4), Option.bind_some, List.length_map, cF (by omega), wi (n := (s' : Int) + 1) (by omega) (by omega), show ((s' : Int) + 1) = ((s' + 1 : Nat) : Int) by omega]
            exact hz
        obtain ⟨z, hz⟩ := gen (ss.length - (s + 1)) (s + 1) g rfl (by omega) (by omega) (by omega)
        refine ⟨z, ?_⟩
        rw [hz, if_pos (by omega), ← e, getD_get hs2]
    · rw [cF (by omega)]
      obtain ⟨z, hz⟩ := ih (s + 1) g x (by omega) (by omega) (by omega) hx
      refine ⟨z, ?_⟩
      have hne : s ≠ idN ss.length f i := fun h => he (hp.2 h)
      rw [hz]
      by_cases h6 : s ≤ idN ss.length f i
      · rw [if_pos h6, if_pos (by omega)]
      · rw [if_neg h6, if_neg (by omega)]
theorem L57_13_run {k : Nat} {ss : List Tx} {f m : Nat} {b : Bool} {o : Option Bool} (hn : ss.length ≤ 500) (hf : f < ss.length) (hm : m ≤ ss.length) (hk : 2000 ≤ k) : ∀ (c i g : Nat), m - i = c → i ≤ m → c < g →
    ∃ z, L57_13 k f m b (ss.map V.str) o 1 g (i : Int) (((itemsN ss f m).take i).map V.str) = some (.e0 z ((itemsN ss f m).map V.str)) := by
  intro c
  induction c with
  | zero =>
    intro i g hc hi hg
    obtain ⟨g, rfl⟩ : ∃ y, g = y + 1 := ⟨g - 1, by omega⟩
    refine ⟨(i : Int), ?_⟩
    rw [L57_13, cF (by omega), List.take_of_length_le (by rw [items_length]; omega)]
  | succ c ih =>
    intro i g hc hi hg
    obtain ⟨g, rfl⟩ : ∃ y, g = y + 1 := ⟨g - 1, by omega⟩
    obtain ⟨z, hz⟩ := ih (i + 1) g (by omega) (by omega) (by omega)
    refine ⟨z, ?_⟩
    have hil : i < (itemsN ss f m).length := by rw [items_length]; omega
    obtain ⟨y, hy⟩ := L57_15_run (k := k) (ss := ss) (f := f) (m := m) (i := i) (b := b) (o := o) (by omega) hf (by omega) ss.length 0 (k + 7) ((itemsN ss f m).take i) (by omega) (by omega) (by omega) (by rw [List.length_take, items_length]; omega)
    rw [show ((0 : Nat) : Int) = 0 from rfl, if_pos (Nat.zero_le _)] at hy
    have e : (itemsN ss f m).take i ++ [ss.getD (idN ss.length f i) []] = (itemsN ss f m).take (i + 1) := by
      rw [List.take_succ_eq_append_getElem hil, items_get]
    rw [e] at hy
    rw [L57_13, cT (by omega), hy, Option.bind_some]
    simp only
    rw [wi (n := (i : Int) + 1) (by omega) (by omega), show ((i : Int) + 1) = ((i + 1 : Nat) : Int) by omega]
    exact hz

theorem g56 {k : Nat} {ss : List Tx} {f m : Nat} {b : Bool} {o : Option Bool} (hn : ss.length ≤ 500) (hf : f < ss.length) (hm : m ≤ ss.length) (hk : 2000 ≤ k) : F56 k o b 1 (ss.map V.str) f m = some (none, false, 1, (itemsN ss f m).map V.str) := by
  unfold F56
  obtain ⟨z, hz⟩ := L56_9_run (k := k) (b := b) (o := o) hn hf hm hk m 0 (k + 5) (by omega) (by omega) (by omega)
  rw [List.take_zero, List.map_nil, show ((0 : Nat) : Int) = 0 from rfl] at hz
  rw [hz]; rfl
theorem L82_run {k : Nat} {n f : Nat} {l : List Tx} {b : Bool} {o : Option Bool} (hn : n ≤ 500) (hf : f < n) : ∀ (c s g : Nat), n - s = c → s ≤ n → c < g →
    ∃ z, L82_12 k n f b (l.map V.str) o 1 g (s : Int) (((ringL n f l).take s).map V.str) = some (.e0 z ((ringL n f l).map V.str)) := by
  intro c
  induction c with
  | zero =>
    intro s g hc hs hg
    obtain ⟨g, rfl⟩ : ∃ y, g = y + 1 := ⟨g - 1, by omega⟩
    refine ⟨(s : Int), ?_⟩
    rw [L82_12, cF (by omega), List.take_of_length_le (by rw [ringL_length]; omega)]
  | succ c ih =>
    intro s g hc hs hg
    obtain ⟨g, rfl⟩ : ∃ y, g = y + 1 := ⟨g - 1, by omega⟩
    obtain ⟨z, hz⟩ := ih (s + 1) g (by omega) (by omega) (by omega)
    refine ⟨z, ?_⟩
    have hsl : s < (ringL n f l).length := by rw [ringL_length]; omega
    have e (t : Tx) (ht : t = (ringL n f l)[s]) : (((ringL n f l).take s).map V.str) ++ [V.str t] = (((ringL n f l).take (s + 1)).map V.str) := by
      rw [List.take_succ_eq_append_getElem hsl, List.map_append, ht]; rfl
    rw [L82_12, cT (by omega), gp (by omega), tmod_plN (by omega) hf (by omega), List.length_map, wi (n := (s : Int) + 1) (by omega) (by omega), show ((s : Int) + 1) = ((s + 1 : Nat) : Int) by omega]
    by_cases hp : plN n f s < l.length
    · rw [cT (by omega), gp rfl, at_st hp, Option.bind_some, gp (by rw [List.length_map, List.length_take, ringL_length]; simp only [maxLen']; omega), e _ (by rw [ringL_get, getD_get hp])]
      exact hz
    · rw [cF (by omega), gp (by rw [List.length_map, List.length_take, ringL_length]; simp only [maxLen']; omega), e _ (by rw [ringL_get, List.getD_eq_getElem?_getD, List.getElem?_eq_none (by omega)]; rfl)]
      exact hz
theorem g82 {k : Nat} {n f : Nat} {l : List Tx} {b : Bool} {o : Option Bool} (hn : n ≤ 500) (hf : f < n) (hk : 2000 ≤ k) : F82 k n f o b 1 (l.map V.str) = some (none, false, 1, (ringL n f l).map V.str, ((f : Nat) : Int), ((l.length : Nat) : Int)) := by
  unfold F82
  obtain ⟨z, hz⟩ := L82_run (k := k) (l := l) (b := b) (o := o) hn hf n 0 (k + 2) (by omega) (by omega) (by omega)
  rw [List.take_zero, List.map_nil, show ((0 : Nat) : Int) = 0 from rfl] at hz
  rw [hz, Option.bind_some, List.length_map]
theorem g57 {k : Nat} {ss : List Tx} {f m : Nat} {t : Tx} {b : Bool} {o : Option Bool} (hn : ss.length ≤ 500) (hf : f < ss.length) (hm : m ≤ ss.length) (hk : 2000 ≤ k) : F57 k o b 1 (ss.map V.str) f m t = some (none, false, 1, (ringL ss.length f (itemsN ss f m ++ [t])).map V.str, ((f : Nat) : Int), ((m + 1 : Nat) : Int)) := by
  unfold F57
  obtain ⟨z, hz⟩ := L57_13_run (k := k) (b := b) (o := o) hn hf hm hk m 0 (k + 7) (by omega) (by omega) (by omega)
  rw [List.take_zero, List.map_nil, show ((0 : Nat) : Int) = 0 from rfl] at hz
  rw [hz, Option.bind_some]
  simp only
  rw [gp (by rw [List.length_map, items_length]; simp only [maxLen']; omega), List.length_map, show (itemsN ss f m).map V.str ++ [V.str t] = (itemsN ss f m ++ [t]).map V.str by rw [List.map_append]; rfl, g82 hn hf (by omega), Option.bind_some]
  simp [items_length]
theorem g58 {k : Nat} {ss : List Tx} {f m j : Nat} {b : Bool} {o : Option Bool} (hn : ss.length ≤ 500) (hf : f < ss.length) (hm : m ≤ ss.length) (hj : j ≤ m) (hk : 2000 ≤ k) : F58 k o b 1 (ss.map V.str) f m j = some (none, false, 1, (ringL ss.length (idN ss.length f j) ((itemsN ss f m).drop j)).map V.str, ((idN ss.length f j : Nat) : Int), ((m - j : Nat) : Int)) := by
  unfold F58
  rw [List.length_map, gp (by omega), g56 hn hf hm (by omega), Option.bind_some]
  simp only
  rw [gp trivial, List.length_map, items_length, gp (by omega), tmod_idN (by omega) hf (by omega), Int.toNat_natCast, ← List.map_drop, g82 hn (id_lt hf (by omega)) (by omega), Option.bind_some, List.length_drop, items_length]

/-! ### Some fewer -/
/-- A new ring while it is filled. -/
def fillN (n f i : Nat) (l : List Tx) : List Tx := ringL n f (l.take i)
theorem fill_succ {n f i : Nat} {l : List Tx} (hf : f < n) (hi : i < l.length) (hl : l.length ≤ n) : (fillN n f i l).set (idN n f i) l[i] = fillN n f (i + 1) l := by
  have h := setN (ss := ringL n f (l.take i)) (f := f) (m := i) (t := l[i]) (by rw [ringL_length]; exact hf) (by rw [ringL_length]; omega) (by
    have e := items_ring (n := n) (f := f) (l := l.take i) hf (by rw [List.length_take]; omega)
    rw [List.length_take, Nat.min_eq_left (by omega)] at e
    rw [ringL_length, e])
  have e := items_ring (n := n) (f := f) (l := l.take i) hf (by rw [List.length_take]; omega)
  rw [List.length_take, Nat.min_eq_left (by omega)] at e
  rw [ringL_length, e] at h
  unfold fillN
  rw [h, List.take_succ_eq_append_getElem hi]
theorem id_id {n f j i : Nat} (hf : f < n) (hj : j ≤ n) (hi : j + i < n) : idN n (idN n f j) i = idN n f (j + i) := by
  unfold idN; split <;> split <;> split <;> omega
theorem L53_run {k : Nat} {ss : List Tx} {f m j : Nat} {b : Bool} {o : Option Bool} (hn : ss.length ≤ 500) (hf : f < ss.length) (hm : m ≤ ss.length) (hj : j ≤ m) (h5 : ss = ringL ss.length f (itemsN ss f m)) : ∀ (c i g : Nat), (m - j) - i = c → i ≤ m - j → c < g →
    ∃ z, L53_7 k f m j b (ss.map V.str) o 1 g (i : Int) ((fillN ss.length (idN ss.length f j) i ((itemsN ss f m).drop j)).map V.str) = some (.e0 z ((ringL ss.length (idN ss.length f j) ((itemsN ss f m).drop j)).map V.str)) := by
  have hfj := id_lt (n := ss.length) (f := f) (i := j) hf (by omega)
  have hln : ((itemsN ss f m).drop j).length = m - j := by rw [List.length_drop, items_length]
  intro c
  induction c with
  | zero =>
    intro i g hc hi hg
    obtain ⟨g, rfl⟩ : ∃ y, g = y + 1 := ⟨g - 1, by omega⟩
    refine ⟨(i : Int), ?_⟩
    rw [L53_7, wi (n := (m : Int) - j) (by omega) (by omega), cF (by omega)]
    unfold fillN
    rw [List.take_of_length_le (by omega)]
  | succ c ih =>
    intro i g hc hi hg
    obtain ⟨g, rfl⟩ : ∃ y, g = y + 1 := ⟨g - 1, by omega⟩
    obtain ⟨z, hz⟩ := ih (i + 1) g (by omega) (by omega) (by omega)
    refine ⟨z, ?_⟩
    have hid := id_lt (n := ss.length) (f := idN ss.length f j) (i := i) hfj (by omega)
    have hfl : (fillN ss.length (idN ss.length f j) i ((itemsN ss f m).drop j)).length = ss.length := ringL_length ..
    have hel : ss[idN ss.length (idN ss.length f j) i] = ((itemsN ss f m).drop j)[i]'(by omega) := by
      rw [List.getElem_drop, items_get, ← getD_get hid]
      by_cases hb : j + i < ss.length
      · rw [id_id hf (by omega) hb]
      · omega
    rw [L53_7, wi (n := (m : Int) - j) (by omega) (by omega), cT (by omega), List.length_map, List.length_map, hfl, gp (by omega), gp rfl, tmod_idN (by omega) hf (by omega), tmod_idN (by omega) hfj (by omega), at_st hid, Option.bind_some, gp (by omega), Int.toNat_natCast, gp hid, hel, ← List.map_set, fill_succ hfj (by omega) (by omega), wi (n := (i : Int) + 1) (by omega) (by omega), show ((i : Int) + 1) = ((i + 1 : Nat) : Int) by omega]
    exact hz
theorem ring_nil (n f : Nat) : ringL n f [] = List.replicate n [] := by
  apply List.ext_getElem (by rw [ringL_length, List.length_replicate])
  intro i h1 h2
  rw [ringL_get, List.getElem_replicate]; rfl
theorem g53 {k : Nat} {ss : List Tx} {f m j : Nat} {b : Bool} {o : Option Bool} (hn : ss.length ≤ 500) (ho : o = some true → ss = []) (hr : rightR ss f m = true) (hj : j ≤ m) (hk : 2000 ≤ k) : F53 k o b 1 (ss.map V.str) f m j = some (none, false, 1, (ringL ss.length (idN ss.length f j) ((itemsN ss f m).drop j)).map V.str, ((idN ss.length f j : Nat) : Int), ((m - j : Nat) : Int), 0) := by
  obtain ⟨fn, mn, e1, e2, h1, h2, h3, h4, h5⟩ := right_form hr
  obtain rfl : f = fn := by omega
  obtain rfl : m = mn := by omega
  unfold F53
  rw [g47 (by omega) ho (by omega), Option.bind_some, hr]
  simp only [Bool.not_true, cond_false]
  obtain ⟨z, hz⟩ := L53_run (k := k) (b := b) (o := o) hn h3 h4 hj h5 (m - j) 0 (k + 7) (by omega) (by omega) (by omega)
  unfold fillN at hz
  rw [List.take_zero, ring_nil, List.map_replicate, show ((0 : Nat) : Int) = 0 from rfl] at hz
  rw [cF (by omega), cF (by omega), List.length_map, gp (by simp only [maxLen']; omega), gp (by omega), Int.toNat_natCast, hz, Option.bind_some]
  simp only
  rw [tmod_idN (by omega) h3 (by omega), wi (by omega) (by omega), show (m : Int) - j = ((m - j : Nat) : Int) by omega]
theorem g53e {k : Nat} {ss : List Tx} {f m j : Int} {b : Bool} {o : Option Bool} (hn : ss.length ≤ 500) (ho : o = some true → ss = []) (hr : rightR ss f m = false) (hk : 2000 ≤ k) : F53 k o b 1 (ss.map V.str) f m j = some (some true, true, 0, [], 0, 0, 1) := by
  unfold F53
  rw [g47 (by omega) ho (by omega), Option.bind_some, hr]; rfl
theorem g53r {k : Nat} {ss : List Tx} {f m j : Int} {b : Bool} {o : Option Bool} (hn : ss.length ≤ 500) (ho : o = some true → ss = []) (hr : rightR ss f m = true) (hj : j < 0 ∨ m < j) (hk : 2000 ≤ k) : F53 k o b 1 (ss.map V.str) f m j = some (some true, true, 0, [], 0, 0, 2) := by
  unfold F53
  rw [g47 (by omega) ho (by omega), Option.bind_some, hr]
  simp only [Bool.not_true, cond_false]
  by_cases h1 : j < 0
  · rw [cT h1]
  · rw [cF h1, cT (by omega)]
end Go.Proofs
