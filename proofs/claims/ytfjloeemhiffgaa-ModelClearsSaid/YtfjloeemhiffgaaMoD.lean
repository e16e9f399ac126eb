/-
  The reference's answer for cells, plainly.
-/
import Derived.Test.YtfjloeemhiffgaaMoPc
import Derived.Test.YtfjloeemhiffgaaMoC
set_option linter.unusedVariables false
set_option linter.unusedSimpArgs false
set_option maxRecDepth 100000
namespace Go.Proofs.Mo
open Go Go.Sym

/-- A volume's byte. -/
def byteAt (l : List Cl) (a : Nat) : UInt8 := if (cellAt l (a / 32)).2.1 = 1 then ((cellAt l (a / 32)).2.2[a % 32]?).getD 0 else 0
def dataR (l : List Cl) (w : Int) (A n : Nat) (data : List UInt8) (m : Nat) : List UInt8 :=
  (List.range 32).map fun i => if A ≤ 32 * m + i ∧ 32 * m + i - A < n then (if w = 1 then (data[32 * m + i - A]?).getD 0 else 0) else byteAt l (32 * m + i)
def wholeB (A n m : Nat) : Bool := decide (A ≤ 32 * m ∧ 32 * m - A < n) && decide (A ≤ 32 * m + 31 ∧ 32 * m + 31 - A < n)
def one (l : List Cl) (w : Int) (A n : Nat) (data : List UInt8) (m : Nat) : Cl :=
  if w = 1 then (m, 1, dataR l w A n data m) else if w = 4 then (if (cellAt l m).2.1 = 0 then (m, 2, []) else cellAt l m)
  else if wholeB A n m = true then (if w = 3 then (if (cellAt l m).2.1 ≠ 0 then (m, 2, []) else (m, 0, [])) else (m, 0, []))
  else if (cellAt l m).2.1 = 1 then (m, 1, dataR l w A n data m) else cellAt l m
theorem one_n (l : List Cl) (w : Int) (A n : Nat) (data : List UInt8) (m : Nat) : (one l w A n data m).1 = m := by
  unfold one
  split
  · rfl
  · split
    · split
      · rfl
      · exact cellAt_n l m
    · split
      · split
        · split <;> rfl
        · rfl
      · split
        · rfl
        · exact cellAt_n l m

theorem L141_run {k n : Nat} {b : Bool} {o : Option Bool} {l : List Cl} (hl : l.length ≤ 1000) : ∀ (c i f : Nat), l.length - i = c → i ≤ l.length → c < f →
    (∃ z c', (l.drop i).find? (fun x => x.1 == n) = some c' ∧ L141_0 k (n : Int) b (l.map cl) o 3 f (i : Int) = some (.e0 z (c'.1 : Int) c'.2.1 c'.2.2)) ∨
    (∃ z, (l.drop i).find? (fun x => x.1 == n) = none ∧ L141_0 k (n : Int) b (l.map cl) o 3 f (i : Int) = some (.e1 z)) := by
  intro c
  induction c with
  | zero =>
    intro i f hc hi hf
    obtain ⟨f, rfl⟩ : ∃ y, f = y + 1 := ⟨f - 1, by omega⟩
    refine .inr ⟨(i : Int), by rw [List.drop_eq_nil_of_le (by omega)]; rfl, ?_⟩
    rw [L141_0, List.length_map, cF (by omega)]
  | succ c ih =>
    intro i f hc hi hf
    obtain ⟨f, rfl⟩ : ∃ y, f = y + 1 := ⟨f - 1, by omega⟩
    have hil : i < l.length := by omega
    rw [L141_0, List.length_map, cT (by omega), gp rfl, at_cl hil, Option.bind_some, List.drop_eq_getElem_cons hil]
    simp only
    by_cases he : l[i].1 = n
    · rw [cT (by omega), List.find?_cons_of_pos (by simpa using he)]
      exact .inl ⟨_, _, rfl, rfl⟩
    · rw [cF (by omega), List.find?_cons_of_neg (by simpa using he), wi (n := (i : Int) + 1) (by omega) (by omega), show (i : Int) + 1 = ((i + 1 : Nat) : Int) by omega]
      exact ih (i + 1) f (by omega) (by omega) (by omega)
theorem g141 {k n : Nat} {b : Bool} {o : Option Bool} {l : List Cl} (hl : l.length ≤ 1000) (hk : 1100 ≤ k) : F141 k o b 3 (l.map cl) (n : Int) = some (((cellAt l n).1 : Int), (cellAt l n).2.1, (cellAt l n).2.2) := by
  unfold F141 cellAt
  rcases L141_run (k := k) (n := n) (b := b) (o := o) hl (l.length - 0) 0 (k + 2) rfl (by omega) (by omega) with ⟨z, c', h1, h2⟩ | ⟨z, h1, h2⟩
  · have h2' : L141_0 k (n : Int) b (l.map cl) o 3 (k + 2) 0 = _ := h2
    rw [List.drop_zero] at h1
    rw [h2', h1]; rfl
  · have h2' : L141_0 k (n : Int) b (l.map cl) o 3 (k + 2) 0 = _ := h2
    rw [List.drop_zero] at h1
    rw [h2', h1]; rfl
theorem len32 {l : List Cl} (hr : right l = true) {m : Nat} (h : (cellAt l m).2.1 = 1) : (cellAt l m).2.2.length = 32 := by
  have := bytes32 hr m
  unfold bytesC at this
  rwa [if_pos h] at this
theorem g154 {k a : Nat} {b : Bool} {o : Option Bool} {l : List Cl} (hr : right l = true) (ha : a < B64) (hk : 1200 ≤ k) : F154 k o b 3 (l.map cl) (a : Int) = some ((byteAt l a).toNat : Int) := by
  obtain ⟨_, _, hlen⟩ := right_iff.1 hr
  unfold F154 byteAt
  rw [eD ha, g141 (by omega) (by omega), Option.bind_some]
  simp only
  by_cases h : (cellAt l (a / 32)).2.1 = 1
  · have h32 := len32 hr h
    rw [cNT h, if_pos h, show (32 : Int) = ((32 : Nat) : Int) from rfl, tm (by omega)]
    have e : satB (cellAt l (a / 32)).2.2 ((a : Int) % ((32 : Nat) : Int)) = some ((cellAt l (a / 32)).2.2[a % 32]'(by omega)) := by
      unfold satB
      rw [if_pos (by omega), show ((a : Int) % ((32 : Nat) : Int)).toNat = a % 32 by omega, List.getElem?_eq_getElem (by omega)]
    rw [e, Option.bind_some, List.getElem?_eq_getElem (by omega)]
    rfl
  · rw [cNF h, if_neg h]; rfl
theorem g155 {k a A n : Nat} (ha : a < B64) (hA : A < B64) : F155 k (a : Int) (A : Int) (n : Int) = some (decide (A ≤ a ∧ a - A < n)) := by
  unfold F155
  unfold B64 at *
  by_cases h : A ≤ a
  · rw [cT (by omega), um]
    congr 1
    exact decide_eq_decide.2 (by omega)
  · rw [cF (by omega), decide_eq_false (by omega)]
theorem g143 {k m A n : Nat} (hm : 32 * m + 31 < B64) (hA : A < B64) : F143 k (m : Int) (A : Int) (n : Int) = some (wholeB A n m) := by
  unfold F143 wholeB
  unfold B64 at *
  have e1 : IntKind.u64.wrap (32 * (m : Int)) = ((32 * m : Nat) : Int) := by rw [um]; omega
  have e2 : IntKind.u64.wrap (((32 * m : Nat) : Int) + 31) = ((32 * m + 31 : Nat) : Int) := by rw [um]; omega
  rw [e1, e2, g155 (by unfold B64; omega) (by unfold B64; omega), Option.bind_some, g155 (by unfold B64; omega) (by unfold B64; omega), Option.bind_some]
  cases decide (A ≤ 32 * m ∧ 32 * m - A < n) <;> rfl
def ub (u : UInt8) : V := V.int .u8 (u.toNat : Int)
theorem L142_run {k m A n : Nat} {w : Int} {b : Bool} {o : Option Bool} {l : List Cl} {data : List UInt8} (hr : right l = true) (hm : 32 * m + 31 < B64) (hA : A < B64) (hd : w = 1 → data.length = n) (hk : 1300 ≤ k) :
    ∀ (c i f : Nat), 32 - i = c → i ≤ 32 → c < f → L142_0 k (m : Int) w (A : Int) (n : Int) b data (l.map cl) o 3 f (i : Int) (((dataR l w A n data m).take i).map ub) = some (.e0 32 ((dataR l w A n data m).map ub)) := by
  have hdl : (dataR l w A n data m).length = 32 := by unfold dataR; simp
  intro c
  induction c with
  | zero =>
    intro i f hc hi hf
    obtain ⟨f, rfl⟩ : ∃ y, f = y + 1 := ⟨f - 1, by omega⟩
    have : i = 32 := by omega
    subst this
    rw [L142_0, cF (by omega), List.take_of_length_le (by omega)]
    rfl
  | succ c ih =>
    intro i f hc hi hf
    obtain ⟨f, rfl⟩ : ∃ y, f = y + 1 := ⟨f - 1, by omega⟩
    have e1 : IntKind.u64.wrap (32 * (m : Int)) = ((32 * m : Nat) : Int) := by unfold B64 at hm; rw [um]; omega
    have e2 : IntKind.u64.wrap (((32 * m : Nat) : Int) + (i : Int)) = ((32 * m + i : Nat) : Int) := by unfold B64 at hm; rw [um]; omega
    have e3 : IntKind.u64.wrap ((i : Int) + 1) = ((i + 1 : Nat) : Int) := wn (by omega)
    have hget : (dataR l w A n data m)[i]'(by omega) = if A ≤ 32 * m + i ∧ 32 * m + i - A < n then (if w = 1 then (data[32 * m + i - A]?).getD 0 else 0) else byteAt l (32 * m + i) := by
      unfold dataR; simp
    have hstep : ((dataR l w A n data m).take (i + 1)).map ub = ((dataR l w A n data m).take i).map ub ++ [ub ((dataR l w A n data m)[i]'(by omega))] := by
      rw [List.take_succ_eq_append_getElem (by omega), List.map_append]; rfl
    have hnx := ih (i + 1) f (by omega) (by omega) (by omega)
    rw [hstep, hget] at hnx
    have hlen : (((dataR l w A n data m).take i).map ub).length + 1 ≤ maxLen' := by rw [List.length_map, List.length_take]; unfold maxLen'; omega
    rw [L142_0, cT (by omega), e1, e2, e3, g154 hr (by unfold B64 at *; omega) (by omega), Option.bind_some, g155 (by unfold B64 at *; omega) hA, Option.bind_some]
    by_cases hin : A ≤ 32 * m + i ∧ 32 * m + i - A < n
    · rw [decide_eq_true hin, cond_true]
      rw [if_pos hin] at hnx
      by_cases hw : w = 1
      · have hdn := hd hw
        rw [if_pos hw] at hnx
        have e4 : IntKind.u64.wrap (((32 * m + i : Nat) : Int) - (A : Int)) = ((32 * m + i - A : Nat) : Int) := by unfold B64 at *; rw [um]; omega
        have e5 : satB data ((32 * m + i - A : Nat) : Int) = some (data[32 * m + i - A]'(by omega)) := by
          unfold satB
          rw [if_pos (by omega), Int.toNat_natCast, List.getElem?_eq_getElem (by omega)]
        rw [List.getElem?_eq_getElem (by omega), Option.getD_some] at hnx
        rw [cT hw, e4, e5, Option.bind_some, gp hlen]
        exact hnx
      · rw [if_neg hw] at hnx
        rw [cF hw, gp hlen]
        exact hnx
    · rw [decide_eq_false hin, cond_false, gp hlen]
      rw [if_neg hin] at hnx
      exact hnx
theorem all_ub (l : List UInt8) : (l.map ub).all isByte = true := by
  rw [List.all_map]; exact List.all_eq_true.2 fun x _ => rfl
theorem byteOf_ub (l : List UInt8) : (l.map ub).map Sym.byteOf = l := by
  rw [List.map_map]
  refine (List.map_congr_left fun x _ => ?_).trans (List.map_id l)
  show UInt8.ofNat ((x.toNat : Int)).toNat = x
  rw [Int.toNat_natCast]; simp
theorem g142 {k m A n : Nat} {w : Int} {b : Bool} {o : Option Bool} {l : List Cl} {data : List UInt8} (hr : right l = true) (hm : 32 * m + 31 < B64) (hA : A < B64) (hd : w = 1 → data.length = n) (hk : 1300 ≤ k) :
    F142 k o b 3 (l.map cl) (m : Int) w (A : Int) (n : Int) data = some (dataR l w A n data m) := by
  unfold F142
  have h : L142_0 k (m : Int) w (A : Int) (n : Int) b data (l.map cl) o 3 (k + 8) 0 [] = _ := L142_run (b := b) (o := o) hr hm hA hd hk (32 - 0) 0 (k + 8) rfl (by omega) (by omega)
  rw [h, Option.bind_some]
  simp only
  rw [gp (all_ub _), byteOf_ub]
theorem g117 {k m A n : Nat} {w : Int} {b : Bool} {o : Option Bool} {l : List Cl} {data : List UInt8} (hr : right l = true) (hm : 32 * m + 31 < B64) (hA : A < B64) (hd : w = 1 → data.length = n) (hk : 1400 ≤ k) :
    F117 k o b 3 (l.map cl) (m : Int) w (A : Int) (n : Int) data = some (((one l w A n data m).1 : Int), (one l w A n data m).2.1, (one l w A n data m).2.2) := by
  obtain ⟨_, _, hlen⟩ := right_iff.1 hr
  have hc := cellAt_n l m
  unfold F117 one
  rw [g141 (by omega) (by omega), Option.bind_some]
  simp only
  by_cases h1 : w = 1
  · rw [cT h1, if_pos h1, g142 hr hm hA hd (by omega)]; rfl
  · rw [cF h1, if_neg h1]
    by_cases h4 : w = 4
    · rw [cT h4, if_pos h4]
      by_cases h0 : (cellAt l m).2.1 = 0
      · rw [cT h0, if_pos h0]
      · rw [cF h0, if_neg h0]
    · rw [cF h4, if_neg h4, g143 hm hA, Option.bind_some]
      cases hw : wholeB A n m with
      | true =>
        rw [cond_true, if_pos rfl]
        by_cases h3 : w = 3
        · rw [cT h3, if_pos h3]
          by_cases h0 : (cellAt l m).2.1 = 0
          · rw [cNT h0, if_neg (fun h => h h0)]
          · rw [cNF h0, if_pos h0]
        · rw [cF h3, if_neg h3]
      | false =>
        rw [cond_false, if_neg (by simp)]
        by_cases hs : (cellAt l m).2.1 = 1
        · rw [cT hs, if_pos hs, g142 hr hm hA hd (by omega)]; rfl
        · rw [cF hs, if_neg hs]
theorem L880_run {k A : Nat} {w i2 i3 : Int} {b : Bool} {data : List UInt8} {o : Option Bool} {l : List Cl} (hA : A < B64) (hl : l.length ≤ 1000) : ∀ (c i f : Nat) (x : List Cl), l.length - i = c → i ≤ l.length → c < f → x.length ≤ i →
    ∃ z, L88_0 k w (A : Int) i2 i3 b data (l.map cl) o 3 f (i : Int) (x.map cl) = some (.e0 z ((x ++ (l.drop i).filter (fun x => decide (x.1 < A / 32))).map cl)) := by
  intro c
  induction c with
  | zero =>
    intro i f x hc hi hf hx
    obtain ⟨f, rfl⟩ : ∃ y, f = y + 1 := ⟨f - 1, by omega⟩
    rw [L88_0, List.length_map, cF (by omega), List.drop_eq_nil_of_le (by omega)]
    exact ⟨_, by rw [List.filter_nil, List.append_nil]⟩
  | succ c ih =>
    intro i f x hc hi hf hx
    obtain ⟨f, rfl⟩ : ∃ y, f = y + 1 := ⟨f - 1, by omega⟩
    have hil : i < l.length := by omega
    have e3 : IntKind.i64.wrap ((i : Int) + 1) = ((i + 1 : Nat) : Int) := wp (by omega)
    rw [L88_0, List.length_map, cT (by omega), gp rfl, at_cl hil, Option.bind_some, List.drop_eq_getElem_cons hil, eD hA, e3]
    simp only
    by_cases h : l[i].1 < A / 32
    · obtain ⟨z, hz⟩ := ih (i + 1) f (x ++ [l[i]]) (by omega) (by omega) (by omega) (by simp; omega)
      refine ⟨z, ?_⟩
      rw [cT (by omega), gp (by rw [List.length_map]; unfold maxLen'; omega), List.filter_cons_of_pos (by simpa using h)]
      rw [List.append_assoc, List.singleton_append, List.map_append] at hz
      exact hz
    · obtain ⟨z, hz⟩ := ih (i + 1) f x (by omega) (by omega) (by omega) (by omega)
      refine ⟨z, ?_⟩
      rw [cF (by omega), List.filter_cons_of_neg (by simpa using h)]
      exact hz
theorem L882_run {k Z : Nat} {w i1 i2 i4 i5 : Int} {b : Bool} {data : List UInt8} {o : Option Bool} {l : List Cl} (hZ : Z < B64) (hl : l.length ≤ 1000) : ∀ (c i f : Nat) (x : List Cl), l.length - i = c → i ≤ l.length → c < f → x.length ≤ i + 1000 →
    ∃ z, L88_2 k w i1 i2 (Z : Int) i4 i5 b data (l.map cl) o 3 f (i : Int) (x.map cl) = some (.e0 z ((x ++ (l.drop i).filter (fun x => decide (Z / 32 + 1 ≤ x.1))).map cl)) := by
  intro c
  induction c with
  | zero =>
    intro i f x hc hi hf hx
    obtain ⟨f, rfl⟩ : ∃ y, f = y + 1 := ⟨f - 1, by omega⟩
    rw [L88_2, List.length_map, cF (by omega), List.drop_eq_nil_of_le (by omega)]
    exact ⟨_, by rw [List.filter_nil, List.append_nil]⟩
  | succ c ih =>
    intro i f x hc hi hf hx
    obtain ⟨f, rfl⟩ : ∃ y, f = y + 1 := ⟨f - 1, by omega⟩
    have hil : i < l.length := by omega
    have e3 : IntKind.i64.wrap ((i : Int) + 1) = ((i + 1 : Nat) : Int) := wp (by omega)
    rw [L88_2, List.length_map, cT (by omega), gp rfl, at_cl hil, Option.bind_some, List.drop_eq_getElem_cons hil, eD hZ, e3]
    simp only
    by_cases h : Z / 32 + 1 ≤ l[i].1
    · obtain ⟨z, hz⟩ := ih (i + 1) f (x ++ [l[i]]) (by omega) (by omega) (by omega) (by simp; omega)
      refine ⟨z, ?_⟩
      rw [cT (by omega), gp (by rw [List.length_map]; unfold maxLen'; omega), List.filter_cons_of_pos (by simpa using h)]
      rw [List.append_assoc, List.singleton_append, List.map_append] at hz
      exact hz
    · obtain ⟨z, hz⟩ := ih (i + 1) f x (by omega) (by omega) (by omega) (by omega)
      refine ⟨z, ?_⟩
      rw [cF (by omega), List.filter_cons_of_neg (by simpa using h)]
      exact hz
theorem L881_run {k A n : Nat} {w i4 : Int} {b : Bool} {data : List UInt8} {o : Option Bool} {l : List Cl} (hr : right l = true) (h0 : 0 < n) (hn : n ≤ 224) (hA : A + n ≤ B64) (hd : w = 1 → data.length = n) (hk : 1500 ≤ k) :
    ∀ (c m f : Nat) (x : List Cl), (A + n - 1) / 32 + 1 - m = c → A / 32 ≤ m → m ≤ (A + n - 1) / 32 + 1 → c < f → x.length ≤ 100 + (m - A / 32) →
    ∃ z, L88_1 k w (A : Int) (n : Int) ((A + n - 1 : Nat) : Int) i4 b data (l.map cl) o 3 f (m : Int) (x.map cl) =
      some (.e0 z ((x ++ ((List.range' m c).map (one l w A n data)).filter (fun x => decide (x.2.1 ≠ 0))).map cl)) := by
  unfold B64 at hA
  intro c
  induction c with
  | zero =>
    intro m f x hc h1 h2 hf hx
    obtain ⟨f, rfl⟩ : ∃ y, f = y + 1 := ⟨f - 1, by omega⟩
    rw [L88_1, eD (A := A + n - 1) (by unfold B64; omega), cF (by omega)]
    exact ⟨(m : Int), by simp⟩
  | succ c ih =>
    intro m f x hc h1 h2 hf hx
    obtain ⟨f, rfl⟩ : ∃ y, f = y + 1 := ⟨f - 1, by omega⟩
    have e3 : IntKind.u64.wrap ((m : Int) + 1) = ((m + 1 : Nat) : Int) := wn (by omega)
    rw [L88_1, eD (A := A + n - 1) (by unfold B64; omega), cT (by omega), g117 hr (by unfold B64; omega) (by unfold B64; omega) hd (by omega), Option.bind_some, e3, List.range'_succ, List.map_cons]
    simp only
    by_cases hs : (one l w A n data m).2.1 = 0
    · obtain ⟨z, hz⟩ := ih (m + 1) f x (by omega) (by omega) (by omega) (by omega) (by omega)
      refine ⟨z, ?_⟩
      rw [cNT hs, List.filter_cons_of_neg (by simpa using hs)]
      exact hz
    · obtain ⟨z, hz⟩ := ih (m + 1) f (x ++ [one l w A n data m]) (by omega) (by omega) (by omega) (by omega) (by simp; omega)
      refine ⟨z, ?_⟩
      rw [cNF hs, gp (by rw [List.length_map]; unfold maxLen'; omega), List.filter_cons_of_pos (by simpa using hs)]
      rw [List.append_assoc, List.singleton_append, List.map_append] at hz
      exact hz
/-- The cells then. -/
def doR (l : List Cl) (w : Int) (A n : Nat) (data : List UInt8) : List Cl := upto l (one l w A n data) (A / 32) ((A + n - 1) / 32 + 1)
theorem g20 {k A n : Nat} (h0 : 0 < n) (hA : A + n ≤ B64) : F20 k (A : Int) (n : Int) = some ((A + n - 1 : Nat) : Int) := by
  unfold F20
  unfold B64 at hA
  rw [um, um]
  congr 1; omega
theorem g88 {k A n : Nat} {w : Int} {b : Bool} {data : List UInt8} {o : Option Bool} {l : List Cl} (hr : right l = true) (h0 : 0 < n) (hn : n ≤ 224) (hA : A + n ≤ B64) (hd : w = 1 → data.length = n) (hk : 1500 ≤ k) :
    F88 k o b 3 (l.map cl) w (A : Int) (n : Int) data = some (none, false, 3, (doR l w A n data).map cl) := by
  obtain ⟨_, _, hlen⟩ := right_iff.1 hr
  have hAB : A < B64 := by omega
  have hZB : A + n - 1 < B64 := by omega
  unfold F88
  rw [g20 h0 hA, Option.bind_some]
  obtain ⟨z, hz⟩ := L880_run (k := k) (w := w) (i2 := (n : Int)) (i3 := ((A + n - 1 : Nat) : Int)) (b := b) (data := data) (o := o) (l := l) hAB (by omega) (l.length - 0) 0 (k + 14) [] rfl (by omega) (by omega) (by simp)
  have hz' : L88_0 k w (A : Int) (n : Int) ((A + n - 1 : Nat) : Int) b data (l.map cl) o 3 (k + 14) 0 [] = _ := hz
  rw [hz', Option.bind_some, List.drop_zero, List.nil_append]
  simp only
  have hfl : (l.filter fun x => decide (x.1 < A / 32)).length ≤ l.length := List.length_filter_le _ _
  obtain ⟨y, hy⟩ := L881_run (k := k) (w := w) (i4 := z) (b := b) (data := data) (o := o) hr h0 hn hA hd hk ((A + n - 1) / 32 + 1 - A / 32) (A / 32) (k + 14) (l.filter fun x => decide (x.1 < A / 32)) rfl (Nat.le_refl _) (by omega) (by unfold B64 at *; omega) (by omega)
  rw [eD hAB, hy, Option.bind_some]
  simp only
  have hml : (((List.range' (A / 32) ((A + n - 1) / 32 + 1 - A / 32)).map (one l w A n data)).filter (fun x => decide (x.2.1 ≠ 0))).length ≤ (A + n - 1) / 32 + 1 - A / 32 := by
    refine Nat.le_trans (List.length_filter_le _ _) ?_
    rw [List.length_map, List.length_range']; exact Nat.le_refl _
  obtain ⟨u, hu⟩ := L882_run (k := k) (w := w) (i1 := (A : Int)) (i2 := (n : Int)) (i4 := z) (i5 := y) (b := b) (data := data) (o := o) (l := l) hZB (by omega) (l.length - 0) 0 (k + 14) (l.filter (fun x => decide (x.1 < A / 32)) ++ ((List.range' (A / 32) ((A + n - 1) / 32 + 1 - A / 32)).map (one l w A n data)).filter (fun x => decide (x.2.1 ≠ 0))) rfl (by omega) (by omega) (by rw [List.length_append]; omega)
  have hu' : L88_2 k w (A : Int) (n : Int) ((A + n - 1 : Nat) : Int) z y b data (l.map cl) o 3 (k + 14) 0 _ = _ := hu
  rw [hu', Option.bind_some, List.drop_zero]
  simp only
  unfold doR upto
  rw [List.append_assoc]

theorem g17 {k a n : Nat} (ha : a < B64) (hn : n < B64) (h0 : 0 < n) : F17 k (a : Int) (n : Int) = some (if B64 < a + n then 2 else 0) := by
  unfold F17
  unfold B64 at *
  rw [cF (by omega), um, um]
  by_cases h : 18446744073709551616 < a + n
  · rw [cT (by omega), if_pos h]
  · rw [cF (by omega), if_neg h]
def is116 : L116_0_R → Bool
  | .e10 _ => true
  | _ => false
theorem L116_run {k : Nat} {b : Bool} {o : Option Bool} {l : List Cl} (hl : l.length ≤ 1000) : ∀ (c i f : Nat), l.length - i = c → i ≤ l.length → c < f →
    ∃ R, L116_0 k b (l.map cl) o 3 f (i : Int) = some R ∧ is116 R = chk (if h : 0 < i ∧ i ≤ l.length then some (l[i - 1]'(by omega)).1 else none) (l.drop i) := by
  intro c
  induction c with
  | zero =>
    intro i f hc hi hf
    obtain ⟨f, rfl⟩ : ∃ y, f = y + 1 := ⟨f - 1, by omega⟩
    refine ⟨.e10 (i : Int), by rw [L116_0, List.length_map, cF (by omega)], ?_⟩
    rw [List.drop_of_length_le (by omega)]
    simp [is116, chk]
  | succ c ih =>
    intro i f hc hi hf
    obtain ⟨f, rfl⟩ : ∃ y, f = y + 1 := ⟨f - 1, by omega⟩
    have hil : i < l.length := by omega
    obtain ⟨R, hR1, hR2⟩ := ih (i + 1) f (by omega) (by omega) (by omega)
    rw [dif_pos ⟨by omega, by omega⟩] at hR2
    simp only [Nat.add_sub_cancel] at hR2
    have hnx : IntKind.i64.wrap ((i : Int) + 1) = ((i + 1 : Nat) : Int) := wp (by omega)
    have hdrop : l.drop i = l[i] :: l.drop (i + 1) := List.drop_eq_getElem_cons hil
    have hch : ∀ (q : Option Nat) (c : Cl) (r : List Cl), chk q (c :: r) = (okb c && (match q with | none => true | some q => decide (q < c.1)) && chk (some c.1) r) := fun q c r => by cases q <;> rfl
    rw [hdrop, hch, ← hR2]
    have e59 : ((576460752303423488 : Int) ≤ (l[i].1 : Int)) ↔ ¬ l[i].1 < 576460752303423488 := by omega
    -- the end of a round: the state and the text
    have tail : ∀ (e1 e2 e3 : L116_0_R), is116 e1 = false → is116 e2 = false → is116 e3 = false → l[i].1 < 576460752303423488 → ∃ R', (bif decide (l[i].2.1 = 1) then (bif !decide ((l[i].2.2.length : Int) = 32) then (some e1) else (bif decide (l[i].2.1 = 2) then (bif !decide (l[i].2.2 = []) then (some e2) else (L116_0 k b (l.map cl) o 3 f ((i + 1 : Nat) : Int))) else (L116_0 k b (l.map cl) o 3 f ((i + 1 : Nat) : Int)))) else (bif decide (l[i].2.1 = 2) then (bif !decide (l[i].2.2 = []) then (some e2) else (L116_0 k b (l.map cl) o 3 f ((i + 1 : Nat) : Int))) else (some e3))) = some R' ∧ is116 R' = (okb l[i] && is116 R) := by
      intro e1 e2 e3 h1 h2 h3 hN
      unfold okb
      rw [decide_eq_true hN, Bool.true_and]
      by_cases hs1 : l[i].2.1 = 1
      · rw [cT hs1, if_pos hs1]
        by_cases h32 : l[i].2.2.length = 32
        · rw [cNT (by omega), cF (by omega), hR1, decide_eq_true h32, Bool.true_and]
          exact ⟨R, rfl, rfl⟩
        · rw [cNF (by omega), decide_eq_false h32, Bool.false_and]
          exact ⟨e1, rfl, h1⟩
      · rw [cF hs1, if_neg hs1]
        by_cases hs2 : l[i].2.1 = 2
        · rw [cT hs2, decide_eq_true hs2, Bool.true_and]
          by_cases hd : l[i].2.2 = []
          · rw [cNT hd, hR1, decide_eq_true hd, Bool.true_and]
            exact ⟨R, rfl, rfl⟩
          · rw [cNF hd, decide_eq_false hd, Bool.false_and]
            exact ⟨e2, rfl, h2⟩
        · rw [cF hs2, decide_eq_false hs2, Bool.false_and, Bool.false_and]
          exact ⟨e3, rfl, h3⟩
    rw [L116_0, List.length_map, cT (by omega), gp rfl, at_cl hil, Option.bind_some]
    simp only
    rw [hnx]
    by_cases hN : l[i].1 < 576460752303423488
    · rw [cF (by omega)]
      by_cases h0 : 0 < i
      · rw [cT (by omega), wi (n := (i : Int) - 1) (by omega) (by omega), show (i : Int) - 1 = ((i - 1 : Nat) : Int) by omega, at_cl (by omega), Option.bind_some, dif_pos ⟨h0, by omega⟩]
        simp only
        by_cases hlt : (l[i - 1]'(by omega)).1 < l[i].1
        · rw [cF (by omega), decide_eq_true hlt, Bool.and_true]
          obtain ⟨R', t1, t2⟩ := tail (.e2 (i : Int) (l[i].1 : Int) l[i].2.1 l[i].2.2) (.e3 (i : Int) (l[i].1 : Int) l[i].2.1 l[i].2.2) (.e5 (i : Int) (l[i].1 : Int) l[i].2.1 l[i].2.2) rfl rfl rfl hN
          by_cases hs1 : l[i].2.1 = 1
          · refine ⟨R', ?_, t2⟩
            rw [← t1, cT hs1, cT hs1]
          · obtain ⟨R', t1, t2⟩ := tail (.e2 (i : Int) (l[i].1 : Int) l[i].2.1 l[i].2.2) (.e4 (i : Int) (l[i].1 : Int) l[i].2.1 l[i].2.2) (.e5 (i : Int) (l[i].1 : Int) l[i].2.1 l[i].2.2) rfl rfl rfl hN
            refine ⟨R', ?_, t2⟩
            rw [← t1, cF hs1, cF hs1]
        · rw [cT (by omega), decide_eq_false hlt, Bool.and_false, Bool.false_and]
          exact ⟨_, rfl, rfl⟩
      · rw [cF (by omega), dif_neg (fun h => h0 h.1), Bool.and_true]
        by_cases hs1 : l[i].2.1 = 1
        · obtain ⟨R', t1, t2⟩ := tail (.e6 (i : Int) (l[i].1 : Int) l[i].2.1 l[i].2.2) (.e7 (i : Int) (l[i].1 : Int) l[i].2.1 l[i].2.2) (.e9 (i : Int) (l[i].1 : Int) l[i].2.1 l[i].2.2) rfl rfl rfl hN
          refine ⟨R', ?_, t2⟩
          rw [← t1, cT hs1, cT hs1]
        · obtain ⟨R', t1, t2⟩ := tail (.e6 (i : Int) (l[i].1 : Int) l[i].2.1 l[i].2.2) (.e8 (i : Int) (l[i].1 : Int) l[i].2.1 l[i].2.2) (.e9 (i : Int) (l[i].1 : Int) l[i].2.1 l[i].2.2) rfl rfl rfl hN
          refine ⟨R', ?_, t2⟩
          rw [← t1, cF hs1, cF hs1]
    · rw [cT (by omega)]
      refine ⟨_, rfl, ?_⟩
      unfold okb
      rw [decide_eq_false hN]
      rfl
theorem g116 {k : Nat} {b : Bool} {o : Option Bool} {l : List Cl} (hl : l.length ≤ 1000) (hk : 1100 ≤ k) : F116 k o b 3 (l.map cl) = some (right l) := by
  unfold F116 right
  obtain ⟨R, h1, h2⟩ := L116_run (k := k) (b := b) (o := o) hl (l.length - 0) 0 (k + 2) rfl (by omega) (by omega)
  rw [dif_neg (fun h => absurd h.1 (by omega)), List.drop_zero] at h2
  have h1' : L116_0 k b (l.map cl) o 3 (k + 2) 0 = some R := h1
  rw [h1', Option.bind_some, ← h2]
  cases R <;> first | rfl | (simp only [is116, Bool.true_and, List.length_map]; congr 2; simp; omega)
theorem g87 {k a n : Nat} {b : Bool} {o : Option Bool} {l : List Cl} (hl : l.length ≤ 1000) (ha : a < B64) (hn : n < B64) (hk : 1100 ≤ k) : F87 k o b 3 (l.map cl) (a : Int) (n : Int) = some (why l a n) := by
  unfold F87 why
  rw [g116 hl (by omega), Option.bind_some]
  cases hr : right l with
  | false => rfl
  | true =>
    rw [if_pos rfl, Bool.not_true, cond_false]
    by_cases h1 : n = 0
    · rw [cT (by omega), if_pos (.inl h1)]
    · rw [cF (by omega)]
      by_cases h2 : 224 < n
      · rw [cT (by omega), if_pos (.inr h2)]
      · rw [cF (by omega), if_neg (by omega), g17 ha hn (by omega)]; rfl
theorem g89 {k : Nat} {b b1 : Bool} {o o1 : Option Bool} {n0 n1 : Nat} {l w : List Cl} {q : Int} : F89 k o b n0 (l.map cl) o1 b1 n1 (w.map cl) q = some (fits l w q) := by
  unfold F89 fits
  rw [List.length_map, List.length_map]
  by_cases h1 : w.length ≤ l.length
  · rw [cT (by omega), decide_eq_true (.inl h1)]
  · rw [cF (by omega)]
    by_cases h2 : (w.length : Int) ≤ q
    · rw [cT h2]
      congr 1
      exact decide_eq_decide.2 (by omega)
    · rw [cF h2, decide_eq_false (by omega)]
theorem L90_run {k : Nat} {b b1 : Bool} {o o1 : Option Bool} {l : List Cl} (hl : l.length ≤ 1000) : ∀ (c i f : Nat), l.length - i = c → i ≤ l.length → c < f → ∃ z, L90_0 k b b1 (l.map cl) (l.map cl) o o1 3 3 f (i : Int) = some (.e1 z) := by
  intro c
  induction c with
  | zero =>
    intro i f hc hi hf
    obtain ⟨f, rfl⟩ : ∃ y, f = y + 1 := ⟨f - 1, by omega⟩
    exact ⟨_, by rw [L90_0, List.length_map, cF (by omega)]⟩
  | succ c ih =>
    intro i f hc hi hf
    obtain ⟨f, rfl⟩ : ∃ y, f = y + 1 := ⟨f - 1, by omega⟩
    have hil : i < l.length := by omega
    obtain ⟨z, hz⟩ := ih (i + 1) f (by omega) (by omega) (by omega)
    have e3 : IntKind.i64.wrap ((i : Int) + 1) = ((i + 1 : Nat) : Int) := wp (by omega)
    refine ⟨z, ?_⟩
    rw [L90_0, List.length_map, cT (by omega), gp rfl, at_cl hil, Option.bind_some]
    simp only
    rw [gp trivial, e3, Option.bind_some]
    simp only [decide_true, Bool.true_and, Bool.and_true, Bool.not_true, cond_false]
    exact hz
theorem g90 {k : Nat} {b b1 : Bool} {o o1 : Option Bool} {l : List Cl} (hl : l.length ≤ 1000) (hk : 1100 ≤ k) : F90 k o b 3 (l.map cl) o1 b1 3 (l.map cl) = some true := by
  unfold F90
  obtain ⟨z, hz⟩ := L90_run (k := k) (b := b) (b1 := b1) (o := o) (o1 := o1) hl (l.length - 0) 0 (k + 2) rfl (by omega) (by omega)
  have hz' : L90_0 k b b1 (l.map cl) (l.map cl) o o1 3 3 (k + 2) 0 = _ := hz
  rw [cNT rfl, hz']; rfl
end Go.Proofs.Mo
