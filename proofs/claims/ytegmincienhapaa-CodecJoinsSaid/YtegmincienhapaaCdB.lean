/-
  Fields as bytes, plainly.
-/
import Derived.Test.YtegmincienhapaaCd5
import Derived.Test.YtegmincienhapaaCdA
set_option linter.unusedVariables false
set_option linter.unusedSimpArgs false
set_option maxRecDepth 100000
namespace Go.Proofs
open Go Go.Sym

def lw (s : List UInt8) : Wd := BitVec.ofNat 64 s.length
structure Fd where
  t : Bool
  n : Wd
  s : List UInt8
def fv (f : Fd) : V := V.agg [V.bool f.t, V.int .u64 (f.n.toNat : Int), V.str f.s]
def textB (s : List UInt8) : List UInt8 := lowN (lw s) 2 ++ s
def oneB (f : Fd) : List UInt8 := if f.t then textB f.s else lowN f.n 8
def Fd.long (f : Fd) : Bool := f.t && decide (4096 < f.s.length)
theorem lowN_length (w : Wd) (m : Nat) : (lowN w m).length = m := by simp [lowN]
theorem textB_length (s : List UInt8) : (textB s).length = 2 + s.length := by simp [textB, lowN_length]
theorem u_len {s : List UInt8} (h : s.length ≤ 4096) : IntKind.u64.wrap (s.length : Int) = ((lw s).toNat : Int) := by
  rw [wu (by omega) (by omega)]; unfold lw; rw [BitVec.toNat_ofNat, Nat.mod_eq_of_lt (by omega)]
theorem dfv (f : Fd) : dAbu64sZ (fv f) = some (f.t, (f.n.toNat : Int), f.s) := rfl
theorem at_fv {l : List Fd} {i : Nat} (h : i < l.length) : (at? (l.map fv) (i : Int)).bind dAbu64sZ = some (l[i].t, (l[i].n.toNat : Int), l[i].s) := by
  rw [at_map h, Option.bind_some, dfv]
theorem g16 {k : Nat} {s : List UInt8} (hk : 10 ≤ k) : F16 k s = some (if 4096 < s.length then ([], 4) else (textB s, 0)) := by
  unfold F16
  by_cases h : 4096 < s.length
  · rw [cT (by omega), if_pos h]
  · rw [cF (by omega), if_neg h, u_len (by omega), show (2 : Int) = ((2 : Nat) : Int) from rfl, g43 (by omega) (by omega), Option.bind_some, gp (by rw [lowN_length]; unfold maxText; omega)]
    rfl
theorem oneB_len {f : Fd} (h : f.long = false) : (oneB f).length ≤ 4098 := by
  unfold oneB
  unfold Fd.long at h
  cases ht : f.t with
  | false => rw [if_neg (by simp), lowN_length]; omega
  | true =>
    rw [ht, Bool.true_and, decide_eq_false_iff_not] at h
    rw [if_pos rfl, textB_length]; omega
def is17 : L17_1_R → List UInt8 × Int
  | .e0 _ _ i2 _ _ _ _ => ([], i2)
  | .e1 _ s => (s, 0)
theorem drop_cons {α : Type} {l : List α} {i : Nat} (h : i < l.length) : l.drop i = l[i] :: l.drop (i + 1) := List.drop_eq_getElem_cons h
theorem L17_run {k : Nat} {b : Bool} {o : Option Bool} {l : List Fd} (hl : l.length ≤ 100) (hk : 20 ≤ k) : ∀ (c i f : Nat) (out : List UInt8), l.length - i = c → i ≤ l.length → c < f → out.length ≤ i * 4098 →
    ∃ r, L17_1 k b (l.map fv) o 3 f (i : Int) out = some r ∧ is17 r = if (l.drop i).any Fd.long then ([], 4) else (out ++ (l.drop i).flatMap oneB, 0) := by
  intro c
  induction c with
  | zero =>
    intro i f out hc hi hf ho
    obtain ⟨f, rfl⟩ : ∃ y, f = y + 1 := ⟨f - 1, by omega⟩
    rw [L17_1, List.length_map, cF (by omega), List.drop_eq_nil_of_le (by omega)]
    exact ⟨_, rfl, by simp [is17]⟩
  | succ c ih =>
    intro i f out hc hi hf ho
    obtain ⟨f, rfl⟩ : ∃ y, f = y + 1 := ⟨f - 1, by omega⟩
    have hi' : i < l.length := by omega
    rw [L17_1, List.length_map, cT (by omega), gp rfl, at_fv hi', Option.bind_some, drop_cons hi']
    simp only
    have hw : IntKind.i64.wrap ((i : Int) + 1) = ((i + 1 : Nat) : Int) := by rw [wi (by omega) (by omega)]; omega
    rw [hw]
    rw [List.any_cons, List.flatMap_cons]
    have key : ∀ x, oneB l[i] = x → l[i].long = false → ∃ r, (guardP (out.length + x.length ≤ maxBld) (L17_1 k b (l.map fv) o 3 f ((i + 1 : Nat) : Int) (out ++ x))) = some r ∧ is17 r = if (l[i].long || (l.drop (i + 1)).any Fd.long) = true then ([], 4) else (out ++ (oneB l[i] ++ (l.drop (i + 1)).flatMap oneB), 0) := by
      intro x hx hlong
      have h1 := oneB_len hlong
      rw [hx] at h1
      obtain ⟨r, hr, hs⟩ := ih (i + 1) f (out ++ x) (by omega) (by omega) (by omega) (by rw [List.length_append]; omega)
      refine ⟨r, ?_, ?_⟩
      · rw [gp (by unfold maxBld; omega)]; exact hr
      · rw [hs, hlong, Bool.false_or, hx, List.append_assoc]
    cases ht : l[i].t with
    | false =>
      simp only [Bool.not_false, cond_true]
      rw [g13 (by omega), Option.bind_some]
      exact key _ (by unfold oneB; rw [ht]; rfl) (by unfold Fd.long; rw [ht]; rfl)
    | true =>
      simp only [Bool.not_true, cond_false]
      rw [g16 (by omega), Option.bind_some]
      by_cases h : 4096 < l[i].s.length
      · have hlong : l[i].long = true := by unfold Fd.long; rw [ht]; simp [h]
        rw [if_pos h, hlong]
        exact ⟨_, rfl, rfl⟩
      · have hlong : l[i].long = false := by unfold Fd.long; rw [ht]; simp [h]
        rw [if_neg h]
        simp only
        rw [cNT trivial]
        exact key _ (by unfold oneB; rw [ht]; rfl) hlong
theorem g17 {k : Nat} {b : Bool} {o : Option Bool} {l : List Fd} (hl : l.length ≤ 100) (hk : 200 ≤ k) : F17 k o b 3 (l.map fv) = some (if l.any Fd.long then ([], 4) else (l.flatMap oneB, 0)) := by
  unfold F17
  obtain ⟨r, hr, hs⟩ := L17_run (k := k) (b := b) (o := o) hl (by omega) l.length 0 (k + 8) [] (by omega) (by omega) (by omega) (by simp)
  rw [show ((0 : Nat) : Int) = 0 from rfl] at hr
  rw [hr, Option.bind_some]
  rw [List.drop_zero, List.nil_append] at hs
  rw [← hs]
  cases r <;> rfl
theorem L18_run {k m : Nat} {w : Wd} (hm : m ≤ 8) : ∀ (c i f : Nat), m - i = c → i ≤ m → c < f →
    ∃ x y, L18_2 k m f ((w.toNat / 256 ^ i : Nat) : Int) (lowN w i) (i : Int) = some (.e0 x y (lowN w m)) := by
  intro c
  induction c with
  | zero =>
    intro i f hc hi hf
    obtain ⟨f, rfl⟩ : ∃ y, f = y + 1 := ⟨f - 1, by omega⟩
    rw [L18_2, cF (by omega), show i = m by omega]
    exact ⟨_, _, rfl⟩
  | succ c ih =>
    intro i f hc hi hf
    obtain ⟨f, rfl⟩ : ∃ y, f = y + 1 := ⟨f - 1, by omega⟩
    obtain ⟨x, y, h⟩ := ih (i + 1) f (by omega) (by omega) (by omega)
    refine ⟨x, y, ?_⟩
    have hlt : w.toNat / 256 ^ i < 18446744073709551616 := Nat.lt_of_le_of_lt (Nat.div_le_self _ _) w.isLt
    have e1 : IntKind.u64.wrap (((w.toNat / 256 ^ i : Nat) : Int).tdiv 256) = ((w.toNat / 256 ^ (i + 1) : Nat) : Int) := by
      rw [Nat.pow_succ, ← Nat.div_div_eq_div_mul]
      generalize w.toNat / 256 ^ i = y at hlt
      rw [show (256 : Int) = ((256 : Nat) : Int) from rfl, td (by omega), wu (by omega) (by omega)]
      omega
    have e2 : List.map Sym.byteOf ((1 : Nat), [V.int IntKind.u8 (IntKind.u8.wrap (((w.toNat / 256 ^ i : Nat) : Int).tmod 256))]).snd = [byteAt w i] := by
      unfold byteAt
      generalize w.toNat / 256 ^ i = y at hlt
      rw [show (256 : Int) = ((256 : Nat) : Int) from rfl, tm (by omega), wb_mod]
      simp only [List.map_cons, List.map_nil, Sym.byteOf]
      congr 1
      apply UInt8.toNat_inj.1
      rw [UInt8.toNat_ofNat', UInt8.toNat_ofNat']
      omega
    have e3 : lowN w (i + 1) = lowN w i ++ [byteAt w i] := by simp [lowN, List.range_succ]
    rw [L18_2, cT (by omega), e1, e2, ← e3, wi (n := (i : Int) + 1) (by omega) (by omega), show (i : Int) + 1 = ((i + 1 : Nat) : Int) by omega, gp (by rw [lowN_length]; simp only [List.length_cons, List.length_nil]; unfold maxText; omega)]
    exact h
theorem g18 {k m : Nat} {w : Wd} (hm : m ≤ 8) (hk : 10 ≤ k) : F18 k (w.toNat : Int) m = some (lowN w m) := by
  unfold F18
  obtain ⟨x, y, h⟩ := L18_run (k := k) (w := w) hm m 0 (k + 2) (by omega) (by omega) (by omega)
  rw [Nat.pow_zero, Nat.div_one, show lowN w 0 = [] from rfl, show ((0 : Nat) : Int) = 0 from rfl] at h
  rw [h]; rfl
theorem g19 {k : Nat} {f : Fd} (h : f.long = false) (hk : 10 ≤ k) : F19 k f.t (f.n.toNat : Int) f.s = some (oneB f) := by
  unfold F19 oneB
  unfold Fd.long at h
  cases ht : f.t with
  | false => rw [if_neg (by simp), cond_false, show (8 : Int) = ((8 : Nat) : Int) from rfl, g18 (by omega) (by omega)]; rfl
  | true =>
    rw [ht, Bool.true_and, decide_eq_false_iff_not] at h
    rw [if_pos rfl, cond_true, u_len (by omega), show (2 : Int) = ((2 : Nat) : Int) from rfl, g18 (by omega) (by omega), Option.bind_some, gp (by rw [lowN_length]; unfold maxText; omega)]
    rfl
def is20 : L20_3_R → Bool
  | .e0 _ _ _ _ => true
  | .e1 _ => false
theorem L20_run {k : Nat} {b : Bool} {o : Option Bool} {l : List Fd} (hl : l.length ≤ 100) : ∀ (c i f : Nat), l.length - i = c → i ≤ l.length → c < f →
    ∃ r, L20_3 k b (l.map fv) o 3 f (i : Int) = some r ∧ is20 r = (l.drop i).any Fd.long := by
  intro c
  induction c with
  | zero =>
    intro i f hc hi hf
    obtain ⟨f, rfl⟩ : ∃ y, f = y + 1 := ⟨f - 1, by omega⟩
    rw [L20_3, List.length_map, cF (by omega), List.drop_eq_nil_of_le (by omega)]
    exact ⟨_, rfl, rfl⟩
  | succ c ih =>
    intro i f hc hi hf
    obtain ⟨f, rfl⟩ : ∃ y, f = y + 1 := ⟨f - 1, by omega⟩
    have hi' : i < l.length := by omega
    obtain ⟨r, hr, hs⟩ := ih (i + 1) f (by omega) (by omega) (by omega)
    rw [L20_3, List.length_map, cT (by omega), gp rfl, at_fv hi', Option.bind_some, drop_cons hi', List.any_cons]
    simp only
    rw [wi (n := (i : Int) + 1) (by omega) (by omega), show (i : Int) + 1 = ((i + 1 : Nat) : Int) by omega, hr]
    unfold Fd.long at hs ⊢
    cases ht : l[i].t with
    | false => exact ⟨_, rfl, by rw [hs, Bool.false_and, Bool.false_or]⟩
    | true =>
      rw [cond_true, Bool.true_and]
      by_cases h : 4096 < l[i].s.length
      · rw [cT (by omega), dec_t h]; exact ⟨_, rfl, rfl⟩
      · rw [cF (by omega), dec_f h]; exact ⟨_, rfl, by rw [hs, Bool.false_or]⟩
theorem g20 {k : Nat} {b : Bool} {o : Option Bool} {l : List Fd} (hl : l.length ≤ 100) (hk : 200 ≤ k) : F20 k o b 3 (l.map fv) = some (l.any Fd.long) := by
  unfold F20
  obtain ⟨r, hr, hs⟩ := L20_run (k := k) (b := b) (o := o) hl l.length 0 (k + 2) (by omega) (by omega) (by omega)
  rw [show ((0 : Nat) : Int) = 0 from rfl] at hr
  rw [hr, Option.bind_some]
  rw [List.drop_zero] at hs
  rw [← hs]
  cases r <;> rfl
theorem L21_run {k : Nat} {b : Bool} {o : Option Bool} {l : List Fd} (hl : l.length ≤ 100) (hn : l.any Fd.long = false) (hk : 20 ≤ k) : ∀ (c i f : Nat) (out : List UInt8), l.length - i = c → i ≤ l.length → c < f → out.length ≤ i * 4098 →
    ∃ z, L21_4 k b (l.map fv) o 3 f out (i : Int) = some (.e0 z (out ++ (l.drop i).flatMap oneB)) := by
  intro c
  induction c with
  | zero =>
    intro i f out hc hi hf ho
    obtain ⟨f, rfl⟩ : ∃ y, f = y + 1 := ⟨f - 1, by omega⟩
    rw [L21_4, List.length_map, cF (by omega), List.drop_eq_nil_of_le (by omega)]
    exact ⟨(i : Int), by simp⟩
  | succ c ih =>
    intro i f out hc hi hf ho
    obtain ⟨f, rfl⟩ : ∃ y, f = y + 1 := ⟨f - 1, by omega⟩
    have hi' : i < l.length := by omega
    have hlong : l[i].long = false := by
      cases h : l[i].long with
      | false => rfl
      | true => rw [List.any_eq_true.2 ⟨l[i], List.getElem_mem hi', h⟩] at hn; cases hn
    have h1 := oneB_len hlong
    obtain ⟨z, hz⟩ := ih (i + 1) f (out ++ oneB l[i]) (by omega) (by omega) (by omega) (by rw [List.length_append]; omega)
    refine ⟨z, ?_⟩
    rw [L21_4, List.length_map, cT (by omega), gp rfl, at_fv hi', Option.bind_some, drop_cons hi', List.flatMap_cons]
    simp only
    rw [g19 hlong (by omega), Option.bind_some, gp (by unfold maxText; omega), wi (n := (i : Int) + 1) (by omega) (by omega), show (i : Int) + 1 = ((i + 1 : Nat) : Int) by omega, hz, List.append_assoc]
theorem g21 {k : Nat} {b : Bool} {o : Option Bool} {l : List Fd} (hl : l.length ≤ 100) (hn : l.any Fd.long = false) (hk : 200 ≤ k) : F21 k o b 3 (l.map fv) = some (l.flatMap oneB) := by
  unfold F21
  obtain ⟨z, hz⟩ := L21_run (k := k) (b := b) (o := o) hl hn (by omega) l.length 0 (k + 8) [] (by omega) (by omega) (by omega) (by simp)
  rw [show ((0 : Nat) : Int) = 0 from rfl] at hz
  rw [hz, Option.bind_some, List.drop_zero, List.nil_append]
theorem law_codecJoins {k : Nat} {b : Bool} {o : Option Bool} {n : Wd} {s : List UInt8} {l : List Fd} (hk : 200 ≤ k) : F4 k (n.toNat : Int) s o b 3 (l.map fv) = some true := by
  unfold F4
  have h12 : List.take (if (12 : Int) < ((l.map fv).length : Int) then (12 : Int) else ((l.map fv).length : Int)).toNat (l.map fv) = (l.take 12).map fv := by
    rw [show (12 : Int) = ((12 : Nat) : Int) from rfl, take_if, List.map_take]
  have hl : (l.take 12).length ≤ 100 := by rw [List.length_take]; omega
  rw [gp rfl, gp (by omega), h12, g16 (by omega), Option.bind_some, g17 hl (by omega)]
  generalize l.take 12 = m at hl
  simp only [Option.bind_some]
  rw [g13 (by omega), Option.bind_some, show (8 : Int) = ((8 : Nat) : Int) from rfl, g18 (by omega) (by omega), Option.bind_some, cNT rfl, g15 (by omega), Option.bind_some, Bool.not_true, cond_false, g20 hl (by omega)]
  have h21 : m.any Fd.long = false → F21 (k + 2) o false 3 (m.map fv) = some (m.flatMap oneB) := fun h => g21 hl h (by omega)
  by_cases hs : 4096 < s.length
  · rw [cT (by omega), if_pos hs, cNT rfl, cNT rfl, Option.bind_some]
    cases ha : m.any Fd.long with
    | true => rfl
    | false => rw [h21 ha]; simp
  · have hg := g19 (k := k + 5) (f := ⟨true, 0#64, s⟩) (by unfold Fd.long; simp [hs]) (by omega)
    have hg' : F19 (k + 5) true 0 s = some (textB s) := hg
    rw [cF (by omega), if_neg hs, cNT rfl, hg', Option.bind_some, cNT rfl, Option.bind_some]
    cases ha : m.any Fd.long with
    | true => rfl
    | false => rw [h21 ha]; simp
end Go.Proofs
