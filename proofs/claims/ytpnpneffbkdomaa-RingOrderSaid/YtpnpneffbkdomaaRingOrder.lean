/-
  RingOrder: texts come out as they were pushed; what may be stays so; dropping some, and then others, is dropping as many at once, for all rings, texts and numbers.
-/
import Derived.Test.YtpnpneffbkdomaaRgO
import Derived.Test.YtpnpneffbkdomaaRx13
set_option linter.unusedVariables false
set_option linter.unusedSimpArgs false
set_option maxRecDepth 100000
namespace Go.Proofs
open Go Go.Sym

theorem id_id' {n f j i : Nat} (hf : f < n) (hj : j + i ≤ n) : idN n (idN n f j) i = idN n f (j + i) := by
  unfold idN; split <;> split <;> split <;> omega
theorem mod_nat (i : Int) (L : Nat) (hL : L ≤ 1000) : ∃ a : Nat, a ≤ L ∧ (IntKind.i64.wrap (IntKind.i64.wrap (i.tmod (IntKind.i64.wrap ((L : Int) + 1)) + (L : Int)) + 1)).tmod (IntKind.i64.wrap ((L : Int) + 1)) = a := by
  rw [wi (n := (L : Int) + 1) (by omega) (by omega)]
  have h1 := Int.tmod_lt_of_pos i (show (0 : Int) < (L : Int) + 1 by omega)
  have h2 := Int.lt_tmod_of_pos i (show (0 : Int) < (L : Int) + 1 by omega)
  generalize i.tmod ((L : Int) + 1) = t at h1 h2
  rw [wi (n := t + L) (by omega) (by omega), wi (by omega) (by omega), tmod_two (by omega) (by omega)]
  split
  · exact ⟨(t + L + 1).toNat, by omega, by omega⟩
  · exact ⟨(t + L + 1 - (L + 1)).toNat, by omega, by omega⟩
theorem mod_nat2 (i : Int) (L a : Nat) (hL : L ≤ 1000) (ha : a ≤ L) : ∃ b : Nat, b ≤ L - a ∧ (IntKind.i64.wrap (IntKind.i64.wrap (IntKind.i64.wrap (i.tmod (IntKind.i64.wrap (IntKind.i64.wrap ((L : Int) - (a : Int)) + 1)) + (L : Int)) - (a : Int)) + 1)).tmod (IntKind.i64.wrap (IntKind.i64.wrap ((L : Int) - (a : Int)) + 1)) = b := by
  rw [wi (n := (L : Int) - a) (by omega) (by omega), wi (n := (L : Int) - a + 1) (by omega) (by omega)]
  have h1 := Int.tmod_lt_of_pos i (show (0 : Int) < (L : Int) - a + 1 by omega)
  have h2 := Int.lt_tmod_of_pos i (show (0 : Int) < (L : Int) - a + 1 by omega)
  generalize i.tmod ((L : Int) - a + 1) = t at h1 h2
  rw [wi (n := t + L) (by omega) (by omega), wi (n := t + L - a) (by omega) (by omega), wi (by omega) (by omega), tmod_two (by omega) (by omega)]
  split
  · exact ⟨(t + L - a + 1).toNat, by omega, by omega⟩
  · exact ⟨(t + L - a + 1 - (L - a + 1)).toNat, by omega, by omega⟩

theorem L13_run {k : Nat} {i0 i1 i2 i3 i6 : Int} {b0 b3 : Bool} {x0 x3 : List V} {o0 o1 o3 : Option Bool} {n0 n3 n f : Nat} {ts : List Tx} (h1 : 1 ≤ n) (h2 : n ≤ 64) (hf : f < n) (hk : 2000 ≤ k) : ∀ (c i g : Nat) (o : Option Bool) (b : Bool) (l : List Tx),
    (ts.take 70).length - i = c → i ≤ (ts.take 70).length → c < g → l.length ≤ n → (o = some true → ringL n f l = []) →
    ∃ (z : Int) (o' : Option Bool) (b' : Bool) (l' : List Tx), l'.length ≤ n ∧ (o' = some true → ringL n f l' = []) ∧
      L13_19 k i0 i1 i2 i3 i6 b0 b3 x0 (ts.map V.str) x3 o0 o1 o3 n0 1 n3 g (i : Int) o b 1 ((ringL n f l).map V.str) f ((l.length : Nat) : Int) (l.map V.str) = some (.e2 z f ((l'.length : Nat) : Int) b' ((ringL n f l').map V.str) (l'.map V.str) o' 1) := by
  have et : List.take (if (70 : Int) < ((ts.map V.str).length : Int) then (70 : Int) else ((ts.map V.str).length : Int)).toNat (ts.map V.str) = (ts.take 70).map V.str := by
    have e := take_if 70 (ts.map V.str)
    rw [show ((70 : Nat) : Int) = 70 from rfl] at e
    rw [e, List.map_take]
  have hl70 : (ts.take 70).length ≤ 70 := by simp; omega
  intro c
  induction c with
  | zero =>
    intro i g o b l hc hi hg hl ho
    obtain ⟨g, rfl⟩ : ∃ y, g = y + 1 := ⟨g - 1, by omega⟩
    refine ⟨(i : Int), o, b, l, hl, ho, ?_⟩
    rw [L13_19, et, List.length_map, cF (by omega)]
  | succ c ih =>
    intro i g o b l hc hi hg hl ho
    obtain ⟨g, rfl⟩ : ∃ y, g = y + 1 := ⟨g - 1, by omega⟩
    have hi2 : i < (ts.take 70).length := by omega
    have hr := ring_right h1 h2 hf hl
    rw [L13_19, et, List.length_map, cT (by omega), gp rfl, at_st hi2, Option.bind_some]
    by_cases hfull : l.length = n
    · obtain ⟨z, o', b', l', e1, e2, e3⟩ := ih (i + 1) g o b l (by omega) (by omega) (by omega) hl ho
      refine ⟨z, o', b', l', e1, e2, ?_⟩
      rw [g52f (by rw [ringL_length]; omega) ho hr (by rw [ringL_length]; omega) (by omega), Option.bind_some]
      simp only
      rw [cNF (by omega), cNT trivial, List.length_map, List.length_map, ringL_length, cNT (by omega), wi (n := (i : Int) + 1) (by omega) (by omega), show ((i : Int) + 1) = ((i + 1 : Nat) : Int) by omega]
      exact e3
    · obtain ⟨z, o', b', l', e1, e2, e3⟩ := ih (i + 1) g none false (l ++ [(ts.take 70)[i]]) (by omega) (by omega) (by omega) (by rw [List.length_append, List.length_singleton]; omega) (fun h => by cases h)
      refine ⟨z, o', b', l', e1, e2, ?_⟩
      rw [g52 (by rw [ringL_length]; omega) ho hr (by rw [ringL_length]; omega) (by omega), Option.bind_some]
      simp only
      rw [cNT trivial, ringL_length, items_ring hf hl, List.length_map, gp (by simp only [maxLen']; omega), wi (n := (i : Int) + 1) (by omega) (by omega), show ((i : Int) + 1) = ((i + 1 : Nat) : Int) by omega, show l.map V.str ++ [V.str (ts.take 70)[i]] = (l ++ [(ts.take 70)[i]]).map V.str by rw [List.map_append]; rfl]
      rw [List.length_append, List.length_singleton] at e3
      exact e3

theorem law_ringOrder {k : Nat} {f m i j : Int} {o p : Option Bool} {b c : Bool} {ss ts : List Tx} (ho : o = some true → ss = []) (hk : 2000 ≤ k) :
    F13 k o b 1 (ss.map V.str) f m p c 1 (ts.map V.str) i j = some true := by
  unfold F13
  have hl : (ss.take 70).length ≤ 500 := by simp; omega
  have ho' : o = some true → ss.take 70 = [] := fun h => by rw [ho h]; rfl
  rw [g45, Option.bind_some]
  simp only
  generalize ss.take 70 = us at hl ho'
  rw [gp trivial, gp (by split <;> omega)]
  cases hr : rightR us f m
  · rw [g54e (by omega) ho' hr (by omega), Option.bind_some]
    simp only
    rw [cNF (by omega), g51, Option.bind_some, cond_true]
    rfl
  · obtain ⟨f, m, rfl, rfl, h1, h2, h3, h4, h5⟩ := right_form hr
    rw [g54 (by omega) ho' hr (by omega), Option.bind_some]
    simp only
    rw [cNT trivial, gp (.inl trivial), gp (by rw [List.length_map, items_length]; simp only [maxLen']; omega)]
    obtain ⟨z, o', b', l, e1, e2, e3⟩ := L13_run (k := k) (i0 := f) (i1 := m) (i2 := i) (i3 := j) (i6 := 0) (b0 := b) (b3 := false) (x0 := ss.map V.str) (x3 := (itemsN us f m).map V.str) (o0 := o) (o1 := p) (o3 := none) (n0 := 1) (n3 := 1) (ts := ts) h1 h2 h3 (by omega) (ts.take 70).length 0 (k + 14) o false (itemsN us f m) (by omega) (by omega) (by simp; omega) (by rw [items_length]; exact h4) (by rw [← h5]; exact ho')
    rw [show ((0 : Nat) : Int) = 0 from rfl, items_length, ← h5] at e3
    rw [e3, Option.bind_some]
    simp only
    have hr2 := ring_right h1 h2 h3 e1
    have hrl : (ringL us.length f l).length = us.length := ringL_length ..
    have hit := items_ring h3 e1
    rw [List.length_map]
    obtain ⟨a, ha, ea⟩ := mod_nat i l.length (by omega)
    obtain ⟨d, hd, ed⟩ := mod_nat2 j l.length a (by omega) ha
    rw [ea, ed]
    rw [gp (by rw [wi (by omega) (by omega)]; omega), gp (by rw [wi (n := (l.length : Int) - a) (by omega) (by omega), wi (by omega) (by omega)]; omega), show IntKind.i64.wrap ((a : Int) + d) = ((a + d : Nat) : Int) by rw [wi (by omega) (by omega)]; omega]
    -- the first ones are dropped
    have d1 := g53 (k := k + 5) (j := a) (b := b') (by rw [hrl]; omega) e2 hr2 ha (by omega)
    rw [hit, hrl] at d1
    have hf2 := id_lt (n := us.length) (f := f) (i := a) h3 (by omega)
    have hl2 : (l.drop a).length = l.length - a := List.length_drop ..
    have hr3 := ring_right h1 h2 hf2 (l := l.drop a) (by omega)
    rw [hl2] at hr3
    have hrl2 : (ringL us.length (idN us.length f a) (l.drop a)).length = us.length := ringL_length ..
    have hit2 := items_ring hf2 (l := l.drop a) (by omega)
    rw [hl2] at hit2
    have d2 := g53 (k := k + 5) (j := d) (o := none) (b := false) (by rw [hrl2]; omega) (fun h => by cases h) hr3 hd (by omega)
    rw [hit2, hrl2, List.drop_drop, id_id' h3 (by omega)] at d2
    have d3 := g53 (k := k + 5) (j := a + d) (b := b') (by rw [hrl]; omega) e2 hr2 (by omega) (by omega)
    rw [hit, hrl] at d3
    have hf3 := id_lt (n := us.length) (f := f) (i := a + d) h3 (by omega)
    have hl3 : (l.drop (a + d)).length = l.length - (a + d) := List.length_drop ..
    have hr4 := ring_right h1 h2 hf3 (l := l.drop (a + d)) (by omega)
    rw [hl3] at hr4
    have hrl3 : (ringL us.length (idN us.length f (a + d)) (l.drop (a + d))).length = us.length := ringL_length ..
    have hit3 := items_ring hf3 (l := l.drop (a + d)) (by omega)
    rw [hl3] at hit3
    rw [show l.length - a - d = l.length - (a + d) by omega] at d2
    have d4 := g54 (k := k + 5) (o := none) (b := false) (by rw [hrl3]; omega) (fun h => by cases h) hr4 (by omega)
    rw [hit3] at d4
    rw [d1, Option.bind_some]
    simp only
    rw [d2, Option.bind_some]
    simp only
    rw [d3, Option.bind_some]
    simp only
    rw [d4, Option.bind_some]
    simp only
    rw [g51, Option.bind_some, cond_true, cT trivial, cT trivial, cT trivial, cT trivial, g47 (by rw [hrl]; omega) e2 (by omega), hr2, Option.bind_some, cond_true, g47 (by rw [hrl3]; omega) (fun h => by cases h) (by omega), hr4, Option.bind_some, cond_true, g50 (by rw [hrl3]; omega) (by omega), Option.bind_some, cond_true,
      gp (by omega), Int.toNat_natCast, ← List.map_drop, ← List.map_take, List.take_of_length_le (by omega), g55 (by omega) (by omega), dec_t rfl]
    rfl
end Go.Proofs
namespace Go.Proofs.Ytpnpneffbkdomaa
open Go.Sym
theorem ringOrder_lifted (os : Os) (started : os.Started) (H : Type) (enc : TypeId × Value → H) :
    ReturnsInHanded {} Try.checked os 13 .any (Rows.ringOrderSpec.pre6 enc Try.prog Try.f13 Rows.ringOrderRow.domain false) (Rows.ringOrderSpec.post enc Try.prog Try.f13 false true false false) := by
  refine returnsInHanded_of_change (C := Try.checked) Try.own started (by kernel_rfl) Try.func13
    (ChangeSpec.witness6 (enc := enc) (C := Try.checked) false ⟨#[], #[.agg #[.slice none 0 0, .int .i64 0, .int .i64 0], .slice none 0 0, .int .i64 0, .int .i64 0], []⟩ 8 (by kernel_rfl) (by kernel_rfl) (by kernel_rfl) (by kernel_rfl)) ?_
  intro W base args ds gs before hval hW hcnd _
  refine law_end (P := Try.prog) (C := Try.cfg) (k := 4) (tb := 4) Try.mixed Try.progOk Try.laidOut (by kernel_rfl) rfl rfl Try.underlying4 ?_ ?_ (fun j t v h1 h2 => ⟨base, hval j t v h1 h2⟩) hW
  · intro ds hds
    match ds, hds with
    | [d, e, f, g], _ => exact ⟨rfl, rfl, rfl⟩
  · intro xs hxs
    obtain ⟨x, y, z, w, rfl, hx, hy, hz, hw⟩ := VArgs_four (P := Try.prog) (k := 4) (a := 72) (b := 22) (c := 3) (d := 3) hxs
    obtain ⟨n, ss, f, m, rfl, hn⟩ := open72 hx
    obtain ⟨p, ts, rfl⟩ := open22 hy
    obtain ⟨i, rfl, _, _⟩ := open3 hz
    obtain ⟨j, rfl, _, _⟩ := open3 hw
    exact ⟨_, F13_ok (law_ringOrder (k := 2000) (fun h => hn (Option.some.inj h)) (Nat.le_refl _))⟩

theorem ringOrder_holds : Rows.RingOrderSaid :=
  OpenClaim.holds_of_wide 13 Try.f13 rfl rfl rfl rfl rfl rfl rfl ⟨rfl, rfl, rfl, rfl, rfl⟩ rfl rfl rfl rfl rfl (by kernel_rfl) Try.func13 (by kernel_rfl)
    (of_decide_eq_true (by kernel_rfl)) (by unfold Func.isWrapper; first | (rw [if_pos (by decide +kernel)]; kernel_rfl) | (rw [if_neg (by decide +kernel)]; exact ⟨rfl, rfl⟩))
    (fun os started H enc _ => ringOrder_lifted os started H enc)
end Go.Proofs.Ytpnpneffbkdomaa
