/-
  RingTurns: any ring with a text more, or fewer, and its texts, are as the document says, or refused, for all rings, texts and numbers.
-/
import Derived.Test.YtpnpneffbkdomaaRgO
import Derived.Test.YtpnpneffbkdomaaRx12
set_option linter.unusedVariables false
set_option linter.unusedSimpArgs false
set_option maxRecDepth 100000
namespace Go.Proofs
open Go Go.Sym
theorem L12_18_run {k : Nat} {ss : List Tx} {f m i : Nat} {a5 a6 a8 a9 : Int} {b1 b2 b3 : Bool} {x2 x3 : List V} {o1 o2 o3 : Option Bool} {n2 n3 : Nat} (hn : ss.length ≤ 1000) (hf : f < ss.length) (hi : i < ss.length) : ∀ (c s g : Nat) (x : List Tx), ss.length - s = c → s ≤ ss.length → c < g → x.length ≤ 1000 →
    ∃ z, L12_18 k f m a5 a6 a8 a9 i b1 b2 b3 (ss.map V.str) x2 x3 o1 o2 o3 1 n2 n3 g (s : Int) (x.map V.str) = some (.e0 z ((x ++ if s ≤ idN ss.length f i then [ss.getD (idN ss.length f i) []] else []).map V.str)) := by
  intro c
  induction c with
  | zero =>
    intro s g x hc hs hg hx
    obtain ⟨g, rfl⟩ : ∃ y, g = y + 1 := ⟨g - 1, by omega⟩
    refine ⟨(s : Int), ?_⟩
    have hid := id_lt (n := ss.length) (f := f) (i := i) hf (by omega)
    rw [L12_18, List.length_map, cF (by omega), if_neg (by omega), List.append_nil]
  | succ c ih =>
    intro s g x hc hs hg hx
    obtain ⟨g, rfl⟩ : ∃ y, g = y + 1 := ⟨g - 1, by omega⟩
    have hs2 : s < ss.length := by omega
    have hp := pl_iff (s := s) hf hs2 hi
    rw [L12_18, List.length_map, cT (by omega), gp rfl, at_st hs2, Option.bind_some, g81 (by rw [List.length_map]; exact hn) (by rw [List.length_map]; exact hf) (by rw [List.length_map]; exact hs2), Option.bind_some, List.length_map, wi (n := (s : Int) + 1) (by omega) (by omega), show ((s : Int) + 1) = ((s + 1 : Nat) : Int) by omega]
    by_cases he : plN ss.length f s = i
    · rw [cT (by omega), gp (by rw [List.length_map]; simp only [maxLen']; omega), show x.map V.str ++ [V.str ss[s]] = (x ++ [ss[s]]).map V.str by rw [List.map_append]; rfl]
      have e := hp.1 he
      by_cases hx2 : (x ++ [ss[s]]).length ≤ 1000
      · obtain ⟨z, hz⟩ := ih (s + 1) g (x ++ [ss[s]]) (by omega) (by omega) (by omega) hx2
        refine ⟨z, ?_⟩
        rw [hz, if_neg (by omega), if_pos (by omega), List.append_nil, ← e, getD_get hs2]
      · -- one more than is asked: the loop goes on without another text
        have gen : ∀ (c s' g : Nat), ss.length - s' = c → s < s' → s' ≤ ss.length → c < g → ∃ z, L12_18 k f m a5 a6 a8 a9 i b1 b2 b3 (ss.map V.str) x2 x3 o1 o2 o3 1 n2 n3 g (s' : Int) ((x ++ [ss[s]]).map V.str) = some (.e0 z ((x ++ [ss[s]]).map V.str)) := by
          intro c
          induction c with
          | zero =>
            intro s' g hc hs' hs3 hg
            obtain ⟨g, rfl⟩ : ∃ y, g = y + 1 := ⟨g - 1, by omega⟩
            exact ⟨(s' : Int), by rw [L12_18, List.length_map, cF (by omega)]⟩
          | succ c ihc =>
            intro s' g hc hs' hs3 hg
            obtain ⟨g, rfl⟩ : ∃ y, g = y + 1 := ⟨g - 1, by omega⟩
            have hs4 : s' < ss.length := by omega
            have hne : plN ss.length f s' ≠ i := fun h => by have := (pl_iff (s := s') hf hs4 hi).1 h; omega
            obtain ⟨z, hz⟩ := ihc (s' + 1) g (by omega) (by omega) (by omega) (by omega)
            refine ⟨z, ?_⟩
            rw [L12_18, List.length_map, cT (by omega), gp rfl, at_st hs4, Option.bind_some, g81 (by rw [List.length_map]; exact hn) (by rw [List.length_map]; exact hf) (by rw [List.length_map]; exact hs4), Option.bind_some, List.length_map, cF (by omega), wi (n := (s' : Int) + 1) (by omega) (by omega), show ((s' : Int) + 1) = ((s' + 1 : Nat) : Int) by omega]
            exact hz
        obtain ⟨z, hz⟩ := gen (ss.length - (s + 1)) (s + 1) g rfl (by omega) (by omega) (by omega)
        refine ⟨z, ?_⟩
        rw [hz, if_pos (by omega), ← e, getD_get hs2]
    · rw [cF (by omega)]
      obtain ⟨z, hz⟩ := ih (s + 1) g x (by omega) (by omega) (by omega) hx
      refine ⟨z, ?_⟩
      have hne : s ≠ idN ss.length f i := fun h => he (hp.2 h)
      rw [hz]
      by_cases h6 : s ≤ idN ss.length f i
      · rw [if_pos h6, if_pos (by omega)]
      · rw [if_neg h6, if_neg (by omega)]
theorem L12_16_run {k : Nat} {ss : List Tx} {f m : Nat} {a5 a6 a8 a9 : Int} {b1 b2 b3 : Bool} {x2 x3 : List V} {o1 o2 o3 : Option Bool} {n2 n3 : Nat} (hn : ss.length ≤ 500) (hf : f < ss.length) (hm : m ≤ ss.length) (hk : 2000 ≤ k) : ∀ (c i g : Nat), m - i = c → i ≤ m → c < g →
    ∃ z, L12_16 k f m a5 a6 a8 a9 b1 b2 b3 (ss.map V.str) x2 x3 o1 o2 o3 1 n2 n3 g (i : Int) (((itemsN ss f m).take i).map V.str) = some (.e0 z ((itemsN ss f m).map V.str)) := by
  intro c
  induction c with
  | zero =>
    intro i g hc hi hg
    obtain ⟨g, rfl⟩ : ∃ y, g = y + 1 := ⟨g - 1, by omega⟩
    refine ⟨(i : Int), ?_⟩
    rw [L12_16, cF (by omega), List.take_of_length_le (by rw [items_length]; omega)]
  | succ c ih =>
    intro i g hc hi hg
    obtain ⟨g, rfl⟩ : ∃ y, g = y + 1 := ⟨g - 1, by omega⟩
    obtain ⟨z, hz⟩ := ih (i + 1) g (by omega) (by omega) (by omega)
    refine ⟨z, ?_⟩
    have hil : i < (itemsN ss f m).length := by rw [items_length]; omega
    obtain ⟨y, hy⟩ := L12_18_run (k := k) (ss := ss) (f := f) (m := m) (i := i) (a5 := a5) (a6 := a6) (a8 := a8) (a9 := a9) (b1 := b1) (b2 := b2) (b3 := b3) (x2 := x2) (x3 := x3) (o1 := o1) (o2 := o2) (o3 := o3) (n2 := n2) (n3 := n3) (by omega) hf (by omega) ss.length 0 (k + 13) ((itemsN ss f m).take i) (by omega) (by omega) (by omega) (by rw [List.length_take, items_length]; omega)
    rw [show ((0 : Nat) : Int) = 0 from rfl, if_pos (Nat.zero_le _)] at hy
    have e : (itemsN ss f m).take i ++ [ss.getD (idN ss.length f i) []] = (itemsN ss f m).take (i + 1) := by
      rw [List.take_succ_eq_append_getElem hil, items_get]
    rw [e] at hy
    rw [L12_16, cT (by omega), hy, Option.bind_some]
    simp only
    rw [wi (n := (i : Int) + 1) (by omega) (by omega), show ((i : Int) + 1) = ((i + 1 : Nat) : Int) by omega]
    exact hz

theorem law_ringTurns {k : Nat} {f m j : Int} {t : Tx} {o : Option Bool} {b : Bool} {ss : List Tx} (ho : o = some true → ss = []) (hk : 2000 ≤ k) :
    F12 k o b 1 (ss.map V.str) f m t j = some true := by
  unfold F12
  have hl : (ss.take 70).length ≤ 500 := by simp; omega
  have ho' : o = some true → ss.take 70 = [] := fun h => by rw [ho h]; rfl
  rw [g45, Option.bind_some]
  simp only
  generalize ss.take 70 = us at hl ho'
  cases hr : rightR us f m
  · rw [g52e (by omega) ho' hr (by omega), Option.bind_some]
    simp only
    rw [g53e (by omega) ho' hr (by omega), Option.bind_some]
    simp only
    rw [g54e (by omega) ho' hr (by omega), Option.bind_some]
    simp only
    rw [g48 (by omega) (by omega), hr, Option.bind_some]
    simp only [Bool.not_false, cond_true]
    rw [g51, Option.bind_some, cond_true, cT trivial, cT trivial, cT trivial, g50e, Option.bind_some, cond_true, Option.bind_some, cond_true]
    rfl
  · obtain ⟨f, m, rfl, rfl, h1, h2, h3, h4, h5⟩ := right_form hr
    have fin : ∀ (i10 : Int) (o3 : Option Bool) (b3 : Bool) (n3 : Nat) (x3 : List V) (i8 i9 : Int), F53 (k + 5) o false 1 (us.map V.str) f m j = some (o3, b3, n3, x3, i8, i9, i10) →
        (bif decide (j < 0) then (bif decide (i10 = 2) then ((F50 (k + 8) (o3) (b3) (n3) (x3) (i8) (i9) (some true) (true) (0) ([]) (0) (0)).bind fun b9 => (some (b9))) else (some (false))) else (bif decide ((m : Int) < j) then (bif decide (i10 = 2) then ((F50 (k + 8) (o3) (b3) (n3) (x3) (i8) (i9) (some true) (true) (0) ([]) (0) (0)).bind fun b9 => (some (b9))) else (some (false))) else (bif decide (i10 = 0) then ((F58 (k + 5) (o) (false) (1) (us.map V.str) (f) (m) (j)).bind fun (o5, b9, n5, x6, i13, i14) => ((F50 (k + 8) (o3) (b3) (n3) (x3) (i8) (i9) (o5) (b9) (n5) (x6) (i13) (i14)).bind fun b10 => (some (b10)))) else (some (false))))) = some true := by
      intro i10 o3 b3 n3 x3 i8 i9 he
      by_cases hj : j < 0 ∨ (m : Int) < j
      · rw [g53r hl ho' hr hj (by omega)] at he
        cases he
        by_cases hj0 : j < 0
        · rw [cT hj0, cT rfl, g50e]; rfl
        · rw [cF hj0, cT (by omega), cT rfl, g50e]; rfl
      · obtain ⟨j, rfl⟩ : ∃ x : Nat, j = x := ⟨j.toNat, by omega⟩
        rw [g53 hl ho' hr (by omega) (by omega)] at he
        cases he
        rw [cF (by omega), cF (by omega), cT rfl, g58 hl h3 h4 (by omega) (by omega), Option.bind_some]
        simp only
        rw [g50 (by rw [ringL_length]; omega) (by omega)]; rfl
    obtain ⟨i10, o3, b3, n3, x3, i8, i9, he⟩ : ∃ i10 o3 b3 n3 x3 i8 i9, F53 (k + 5) o false 1 (us.map V.str) f m j = some (o3, b3, n3, x3, i8, i9, i10) := by
      by_cases hj : j < 0 ∨ (m : Int) < j
      · exact ⟨_, _, _, _, _, _, _, g53r hl ho' hr hj (by omega)⟩
      · obtain ⟨j, rfl⟩ : ∃ x : Nat, j = x := ⟨j.toNat, by omega⟩
        exact ⟨_, _, _, _, _, _, _, g53 hl ho' hr (by omega) (by omega)⟩
    have fin' := fin _ _ _ _ _ _ _ he
    by_cases hfull : m = us.length
    · rw [g52f (by omega) ho' hr (by omega) (by omega), Option.bind_some]
      simp only
      rw [he, Option.bind_some]
      simp only
      rw [g54 (by omega) ho' hr (by omega), Option.bind_some]
      simp only
      rw [g48 (by omega) (by omega), hr, Option.bind_some]
      simp only [Bool.not_true, cond_false]
      obtain ⟨z, hz⟩ := L12_16_run (k := k) (ss := us) (f := f) (m := m) (a5 := 0) (a6 := 0) (a8 := i8) (a9 := i9) (b1 := false) (b2 := true) (b3 := b3) (x2 := []) (x3 := x3) (o1 := o) (o2 := some true) (o3 := o3) (n2 := 0) (n3 := n3) hl h3 h4 (by omega) m 0 (k + 13) (by omega) (by omega) (by omega)
      rw [List.take_zero, List.map_nil, show ((0 : Nat) : Int) = 0 from rfl] at hz
      rw [cNT trivial, hz, Option.bind_some]
      simp only
      rw [g55 (by rw [items_length]; omega) (by omega), Option.bind_some, cNT rfl, g51, Option.bind_some]
      simp only [Bool.not_true, cond_false]
      rw [List.length_map, cT (by omega), cNT trivial, g50e, Option.bind_some]
      simp only [Bool.not_true, cond_false]
      exact fin'
    · rw [g52 (by omega) ho' hr hfull (by omega), Option.bind_some]
      simp only
      rw [he, Option.bind_some]
      simp only
      rw [g54 (by omega) ho' hr (by omega), Option.bind_some]
      simp only
      rw [g48 (by omega) (by omega), hr, Option.bind_some]
      simp only [Bool.not_true, cond_false]
      obtain ⟨z, hz⟩ := L12_16_run (k := k) (ss := us) (f := f) (m := m) (a5 := f) (a6 := ((m + 1 : Nat) : Int)) (a8 := i8) (a9 := i9) (b1 := false) (b2 := false) (b3 := b3) (x2 := (ringL us.length f (itemsN us f m ++ [t])).map V.str) (x3 := x3) (o1 := o) (o2 := none) (o3 := o3) (n2 := 1) (n3 := n3) hl h3 h4 (by omega) m 0 (k + 13) (by omega) (by omega) (by omega)
      rw [List.take_zero, List.map_nil, show ((0 : Nat) : Int) = 0 from rfl] at hz
      rw [cNT trivial, hz, Option.bind_some]
      simp only
      rw [g55 (by rw [items_length]; omega) (by omega), Option.bind_some, cNT rfl, g51, Option.bind_some]
      simp only [Bool.not_true, cond_false]
      rw [List.length_map, cF (by omega), cNT trivial, g57 hl h3 h4 (by omega), Option.bind_some]
      simp only
      rw [g50 (by rw [ringL_length]; omega) (by omega), Option.bind_some]
      simp only [Bool.not_true, cond_false]
      exact fin'
end Go.Proofs
namespace Go.Proofs.Ytpnpneffbkdomaa
open Go.Sym
theorem ringTurns_lifted (os : Os) (started : os.Started) (H : Type) (enc : TypeId × Value → H) :
    ReturnsInHanded {} Try.checked os 12 .any (Rows.ringTurnsSpec.pre6 enc Try.prog Try.f12 Rows.ringTurnsRow.domain false) (Rows.ringTurnsSpec.post enc Try.prog Try.f12 false true false false) := by
  refine returnsInHanded_of_change (C := Try.checked) Try.own started (by kernel_rfl) Try.func12
    (ChangeSpec.witness6 (enc := enc) (C := Try.checked) false ⟨#[], #[.agg #[.slice none 0 0, .int .i64 0, .int .i64 0], .string ByteArray.empty, .int .i64 0], []⟩ 8 (by kernel_rfl) (by kernel_rfl) (by kernel_rfl) (by kernel_rfl)) ?_
  intro W base args ds gs before hval hW hcnd _
  refine law_end (P := Try.prog) (C := Try.cfg) (k := 4) (tb := 4) Try.mixed Try.progOk Try.laidOut (by kernel_rfl) rfl rfl Try.underlying4 ?_ ?_ (fun j t v h1 h2 => ⟨base, hval j t v h1 h2⟩) hW
  · intro ds hds
    match ds, hds with
    | [d, e, f], _ => exact ⟨rfl, rfl, rfl⟩
  · intro xs hxs
    obtain ⟨x, y, z, rfl, hx, hy, hz⟩ := VArgs_three (P := Try.prog) (k := 4) (a := 72) (b := 9) (c := 3) hxs
    obtain ⟨n, ss, f, m, rfl, hn⟩ := open72 hx
    obtain ⟨t, rfl⟩ := open9 hy
    obtain ⟨j, rfl, _, _⟩ := open3 hz
    exact ⟨_, F12_ok (law_ringTurns (k := 2000) (fun h => hn (Option.some.inj h)) (Nat.le_refl _))⟩

theorem ringTurns_holds : Rows.RingTurnsSaid :=
  OpenClaim.holds_of_wide 12 Try.f12 rfl rfl rfl rfl rfl rfl rfl ⟨rfl, rfl, rfl, rfl, rfl⟩ rfl rfl rfl rfl rfl (by kernel_rfl) Try.func12 (by kernel_rfl)
    (of_decide_eq_true (by kernel_rfl)) (by unfold Func.isWrapper; first | (rw [if_pos (by decide +kernel)]; kernel_rfl) | (rw [if_neg (by decide +kernel)]; exact ⟨rfl, rfl⟩))
    (fun os started H enc _ => ringTurns_lifted os started H enc)
end Go.Proofs.Ytpnpneffbkdomaa
