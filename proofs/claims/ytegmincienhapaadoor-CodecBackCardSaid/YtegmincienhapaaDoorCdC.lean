/-
  Fields out of bytes, plainly.
-/
import Derived.Test.YtegmincienhapaaDoorCdB
set_option linter.unusedVariables false
set_option linter.unusedSimpArgs false
set_option maxRecDepth 100000
namespace Go.Proofs
open Go Go.Sym

/-- The number that bytes tell, the lowest first. -/
def valL : List UInt8 → Nat
  | [] => 0
  | c :: r => c.toNat + 256 * valL r
theorem valL_lt (s : List UInt8) : valL s < 256 ^ s.length := by
  induction s with
  | nil => simp [valL]
  | cons c r ih =>
    have := c.toNat_lt
    simp only [valL, List.length_cons, Nat.pow_succ]
    omega
theorem valL_lt8 {s : List UInt8} (h : s.length ≤ 8) : valL s < 18446744073709551616 :=
  Nat.lt_of_lt_of_le (valL_lt s) (Nat.le_trans (Nat.pow_le_pow_right (by omega) h) (by decide))
def wv (s : List UInt8) : Wd := BitVec.ofNat 64 (valL s)
theorem wv_nat {s : List UInt8} (h : s.length ≤ 8) : (wv s).toNat = valL s := by
  unfold wv; rw [BitVec.toNat_ofNat]; exact Nat.mod_eq_of_lt (valL_lt8 h)
theorem satB_at {t : List UInt8} {j : Nat} (h : j < t.length) : satB t ((j : Nat) : Int) = some t[j] := by
  unfold satB; rw [if_pos (Int.natCast_nonneg _), Int.toNat_natCast, List.getElem?_eq_getElem h]
theorem or_add {x c : Nat} (hx : x < 72057594037927936) (hc : c < 256) :
    IntKind.u64.wrap (↑(BitVec.ofInt IntKind.u64.bits (IntKind.u64.wrap ((x : Int) * 2 ^ min (Int.toNat 8) IntKind.u64.bits)) ||| BitVec.ofInt IntKind.u64.bits (IntKind.u64.wrap (c : Int))).toNat : Int) = ((c + 256 * x : Nat) : Int) := by
  have hxw : ((BitVec.ofNat 64 x : Wd).toNat : Int) = (x : Int) := by rw [BitVec.toNat_ofNat, Nat.mod_eq_of_lt (by omega)]
  have hcw : ((BitVec.ofNat 64 c : Wd).toNat : Int) = (c : Int) := by rw [BitVec.toNat_ofNat, Nat.mod_eq_of_lt (by omega)]
  rw [wu (n := (c : Int)) (by omega) (by omega), ← hxw, ← hcw, show Int.toNat 8 = 8 from rfl, shl_w, or_w, BitVec.toNat_or, BitVec.toNat_shiftLeft, BitVec.toNat_ofNat, BitVec.toNat_ofNat, Nat.mod_eq_of_lt (a := c) (by omega), Nat.mod_eq_of_lt (a := x) (by omega)]
  have h1 : x <<< 8 % 2 ^ 64 = x <<< 8 := Nat.mod_eq_of_lt (by rw [Nat.shiftLeft_eq]; omega)
  rw [h1, ← Nat.shiftLeft_add_eq_or_of_lt (by omega), Nat.shiftLeft_eq]
  congr 1; omega
theorem valL_drop {s : List UInt8} {i : Nat} (h : i < s.length) : valL (s.drop i) = s[i].toNat + 256 * valL (s.drop (i + 1)) := by
  rw [drop_cons h]; rfl
theorem valL_small {s : List UInt8} {i : Nat} (h : s.length ≤ 8) : valL (s.drop (i + 1)) < 72057594037927936 := by
  refine Nat.lt_of_lt_of_le (valL_lt _) (Nat.le_trans (Nat.pow_le_pow_right (by omega) (show (s.drop (i + 1)).length ≤ 7 by rw [List.length_drop]; omega)) (by decide))
theorem L39_run {k : Nat} {s : List UInt8} (h8 : s.length ≤ 8) : ∀ (i f : Nat), i ≤ s.length → i < f → ∃ z, L39_0 k s f ((i : Int) - 1) ((valL (s.drop i) : Nat) : Int) = some (.e0 z ((valL s : Nat) : Int)) := by
  intro i
  induction i with
  | zero =>
    intro f hi hf
    obtain ⟨f, rfl⟩ : ∃ y, f = y + 1 := ⟨f - 1, by omega⟩
    rw [L39_0, cF (by omega), List.drop_zero]
    exact ⟨_, rfl⟩
  | succ i ih =>
    intro f hi hf
    obtain ⟨f, rfl⟩ : ∃ y, f = y + 1 := ⟨f - 1, by omega⟩
    have hi' : i < s.length := by omega
    obtain ⟨z, hz⟩ := ih f (by omega) (by omega)
    refine ⟨z, ?_⟩
    have e1 : ((List.map (fun c : UInt8 => V.int IntKind.u8 (c.toNat : Int)) s)[i]?).bind (dI IntKind.u8) = some ((s[i].toNat : Nat) : Int) := by
      rw [List.getElem?_map, List.getElem?_eq_getElem hi']; exact dI_int _ _
    rw [L39_0, cT (by omega), gp (by rw [List.length_map]; omega), show (((i + 1 : Nat) : Int) - 1).toNat = i by omega, e1, Option.bind_some, or_add (valL_small h8) s[i].toNat_lt, ← valL_drop hi', wi (by omega) (by omega), show ((i + 1 : Nat) : Int) - 1 - 1 = (i : Int) - 1 by omega]
    exact hz
theorem g39 {k : Nat} {s : List UInt8} (h8 : s.length ≤ 8) (hk : 10 ≤ k) : F39 k s = some ((valL s : Nat) : Int) := by
  unfold F39
  obtain ⟨z, hz⟩ := L39_run (k := k) h8 s.length (k + 3) (by omega) (by omega)
  rw [List.drop_length, show ((valL [] : Nat) : Int) = 0 from rfl] at hz
  rw [gp (by unfold maxLen'; omega), List.length_map, wi (by omega) (by omega), hz, Option.bind_some]
theorem L21_run {k : Nat} {s : List UInt8} (h8 : s.length ≤ 8) : ∀ (i f : Nat), i ≤ s.length → i < f → ∃ z, L21_0 k s f ((valL (s.drop i) : Nat) : Int) ((i : Int) - 1) = some (.e0 ((valL s : Nat) : Int) z) := by
  intro i
  induction i with
  | zero =>
    intro f hi hf
    obtain ⟨f, rfl⟩ : ∃ y, f = y + 1 := ⟨f - 1, by omega⟩
    rw [L21_0, cF (by omega), List.drop_zero]
    exact ⟨_, rfl⟩
  | succ i ih =>
    intro f hi hf
    obtain ⟨f, rfl⟩ : ∃ y, f = y + 1 := ⟨f - 1, by omega⟩
    have hi' : i < s.length := by omega
    obtain ⟨z, hz⟩ := ih f (by omega) (by omega)
    refine ⟨z, ?_⟩
    have h1 := valL_small (i := i) h8
    have h2 := s[i].toNat_lt
    have h3 := valL_drop hi'
    rw [L21_0, cT (by omega), show ((i + 1 : Nat) : Int) - 1 = (i : Int) by omega, satB_at hi', Option.bind_some, wu (n := ((valL (s.drop (i + 1)) : Nat) : Int) * 256) (by omega) (by omega), wu (n := (s[i].toNat : Int)) (by omega) (by omega), wu (by omega) (by omega),
      show ((valL (s.drop (i + 1)) : Nat) : Int) * 256 + (s[i].toNat : Int) = ((valL (s.drop i) : Nat) : Int) by omega, wi (by omega) (by omega)]
    exact hz
theorem g21 {k : Nat} {s : List UInt8} (h8 : s.length ≤ 8) (hk : 10 ≤ k) : F21 k s = some ((valL s : Nat) : Int) := by
  unfold F21
  obtain ⟨z, hz⟩ := L21_run (k := k) h8 s.length (k + 2) (by omega) (by omega)
  rw [List.drop_length, show ((valL [] : Nat) : Int) = 0 from rfl] at hz
  rw [wi (by omega) (by omega), hz, Option.bind_some]

/-! ### Fields, one behind the other -/
/-- The field at the head of bytes, and how many it takes. -/
def fld (s : List UInt8) (c : UInt8) : Option (Fd × Nat) :=
  if c = 116 then (if s.length < 2 then none else if 4096 < valL (s.take 2) then none else if s.length - 2 < valL (s.take 2) then none else some (⟨true, 0#64, (s.drop 2).take (valL (s.take 2))⟩, 2 + valL (s.take 2)))
  else if s.length < 8 then none else some (⟨false, wv (s.take 8), []⟩, 8)
def spl (s : List UInt8) : List UInt8 → Nat → List Fd → Nat × Option (List Fd)
  | [], a, acc => (a, some acc)
  | c :: r, a, acc => match fld (s.drop a) c with
    | none => (a, none)
    | some x => spl s r (a + x.2) (acc ++ [x.1])
theorem fld_le {s : List UInt8} {c : UInt8} {x : Fd × Nat} (h : fld s c = some x) : x.2 ≤ s.length ∧ x.2 ≤ 4098 := by
  unfold fld at h
  split at h
  · split at h
    · cases h
    · split at h
      · cases h
      · split at h
        · cases h
        · cases h; simp only; omega
  · split at h
    · cases h
    · cases h; simp only; omega
def is6 : L6_0_R → Int × Option (List V)
  | .e0 _ a _ _ => (a, none)
  | .e1 _ a _ _ => (a, none)
  | .e2 _ a _ _ => (a, none)
  | .e3 _ a _ _ _ => (a, none)
  | .e4 _ a x => (a, some x)
def told (p : Nat × Option (List Fd)) : Int × Option (List V) := ((p.1 : Int), p.2.map (·.map fv))
theorem cut_eq (s : List UInt8) (a n : Nat) : List.drop a (List.take (a + n) s) = (s.drop a).take n := by
  rw [List.drop_take, Nat.add_sub_cancel_left]
theorem u8_116 (c : UInt8) : ((c.toNat : Nat) : Int) = 116 ↔ c = 116 := by
  constructor
  · intro h; apply UInt8.toNat_inj.1; show c.toNat = 116; omega
  · rintro rfl; rfl
theorem u8_110 (c : UInt8) : ((c.toNat : Nat) : Int) = 110 ↔ c = 110 := by
  constructor
  · intro h; apply UInt8.toNat_inj.1; show c.toNat = 110; omega
  · rintro rfl; rfl
theorem fv_app (acc : List Fd) (f : Fd) : acc.map fv ++ [fv f] = (acc ++ [f]).map fv := by simp
theorem L6_run {k : Nat} {s ks : List UInt8} (hs : s.length < 9223372036854775808) (hks : ks.length ≤ 1000) (hk : 20 ≤ k) : ∀ (c i f a : Nat) (acc : List Fd), ks.length - i = c → i ≤ ks.length → c < f → a ≤ s.length → acc.length ≤ i →
    ∃ r, L6_0 k s ks f (i : Int) (a : Int) (acc.map fv) = some r ∧ is6 r = told (spl s (ks.drop i) a acc) := by
  intro c
  induction c with
  | zero =>
    intro i f a acc hc hi hf ha hacc
    obtain ⟨f, rfl⟩ : ∃ y, f = y + 1 := ⟨f - 1, by omega⟩
    rw [L6_0, List.length_map, cF (by omega), List.drop_eq_nil_of_le (by omega)]
    exact ⟨_, rfl, rfl⟩
  | succ c ih =>
    intro i f a acc hc hi hf ha hacc
    obtain ⟨f, rfl⟩ : ∃ y, f = y + 1 := ⟨f - 1, by omega⟩
    have hi' : i < ks.length := by omega
    have e1 : ((List.map (fun c : UInt8 => V.int IntKind.u8 (c.toNat : Int)) ks)[i]?).bind (dI IntKind.u8) = some ((ks[i].toNat : Nat) : Int) := by
      rw [List.getElem?_map, List.getElem?_eq_getElem hi']; exact dI_int _ _
    have hd : (s.drop a).length = s.length - a := List.length_drop
    rw [L6_0, List.length_map, cT (by omega), gp (by omega), Int.toNat_natCast, e1, Option.bind_some, drop_cons hi', spl]
    have hw : IntKind.i64.wrap ((i : Int) + 1) = ((i + 1 : Nat) : Int) := by rw [wi (by omega) (by omega)]; omega
    rw [hw, wi (n := (s.length : Int) - (a : Int)) (by omega) (by omega)]
    have g39n : F39 (k + 2) [] = some 0 := g39 (s := []) (by simp) (by omega)
    have hml : acc.length + 1 ≤ maxLen' := by unfold maxLen'; omega
    by_cases ht : ks[i] = 116
    · rw [cT ((u8_116 _).2 ht), fld, if_pos ht, hd]
      by_cases h2 : s.length - a < 2
      · rw [cT (by omega), if_pos h2, g39n, Option.bind_some]
        exact ⟨_, rfl, rfl⟩
      · rw [cF (by omega), if_neg h2, wi (n := (a : Int) + 2) (by omega) (by omega), wi (n := (a : Int) + 2 - 2) (by omega) (by omega), gp (by omega), show ((a : Int) + 2 - 2).toNat = a by omega, show ((a : Int) + 2).toNat = a + 2 by omega, cut_eq, g39 (by rw [List.length_take]; omega) (by omega), Option.bind_some]
        generalize hn : valL ((s.drop a).take 2) = n
        by_cases h3 : 4096 < n
        · rw [cT (by omega), if_pos h3]; exact ⟨_, rfl, rfl⟩
        · rw [cF (by omega), if_neg h3, wi (n := (n : Int)) (by omega) (by omega), wi (n := (s.length : Int) - ((a : Int) + 2)) (by omega) (by omega)]
          by_cases h4 : s.length - a - 2 < n
          · rw [cT (by omega), if_pos h4, gp (by rw [List.length_map]; exact hml)]; exact ⟨_, rfl, rfl⟩
          · rw [cF (by omega), if_neg h4, wi (n := (a : Int) + 2 + (n : Int)) (by omega) (by omega), wi (n := (a : Int) + 2 + (n : Int) - (n : Int)) (by omega) (by omega), gp (by omega), gp (by rw [List.length_map]; exact hml)]
            rw [show ((a : Int) + 2 + (n : Int) - (n : Int)).toNat = a + 2 by omega, show ((a : Int) + 2 + (n : Int)).toNat = (a + 2) + n by omega, cut_eq, ← List.drop_drop]
            obtain ⟨r, hr, hs'⟩ := ih (i + 1) f (a + (2 + n)) (acc ++ [⟨true, 0#64, ((s.drop a).drop 2).take n⟩]) (by omega) (by omega) (by omega) (by omega) (by simp; omega)
            refine ⟨r, ?_, hs'⟩
            rw [← hr, ← fv_app]
            show L6_0 k s ks f _ _ _ = _
            rw [show (a : Int) + 2 + (n : Int) = ((a + (2 + n) : Nat) : Int) by omega]
            rfl
    · rw [cF (fun h => ht ((u8_116 _).1 h)), fld, if_neg ht, hd]
      by_cases h2 : s.length - a < 8
      · rw [cT (by omega), if_pos h2, g39n, Option.bind_some, gp (by rw [List.length_map]; exact hml)]
        exact ⟨_, rfl, rfl⟩
      · rw [cF (by omega), if_neg h2, wi (n := (a : Int) + 8) (by omega) (by omega), wi (n := (a : Int) + 8 - 8) (by omega) (by omega), gp (by omega), show ((a : Int) + 8 - 8).toNat = a by omega, show ((a : Int) + 8).toNat = a + 8 by omega, cut_eq]
        have h8 : ((s.drop a).take 8).length ≤ 8 := by rw [List.length_take]; omega
        rw [g39 h8 (by omega), Option.bind_some, gp (by rw [List.length_map]; exact hml)]
        obtain ⟨r, hr, hs'⟩ := ih (i + 1) f (a + 8) (acc ++ [⟨false, wv ((s.drop a).take 8), []⟩]) (by omega) (by omega) (by omega) (by omega) (by simp; omega)
        refine ⟨r, ?_, hs'⟩
        rw [← hr, ← fv_app]
        show L6_0 k s ks f _ _ _ = L6_0 k s ks f _ _ (List.map fv acc ++ [V.agg [V.bool false, V.int .u64 ((wv ((s.drop a).take 8)).toNat : Int), V.str []]])
        rw [wv_nat h8, show (a : Int) + 8 = ((a + 8 : Nat) : Int) by omega]
def kindOk (c : UInt8) : Bool := c == 110 || c == 116
theorem contains_nt (c : UInt8) : ([110, 116] : List UInt8).contains c = kindOk c := by
  unfold kindOk
  simp only [List.contains, List.elem]
  cases h1 : c == 110 <;> cases h2 : c == 116 <;> rfl
theorem dropW_nil {p : UInt8 → Bool} {l : List UInt8} : l.dropWhile p = [] ↔ l.all p = true := by
  induction l with
  | nil => simp
  | cons c r ih =>
    rw [List.dropWhile, List.all_cons]
    cases h : p c with
    | true => simp only [Bool.true_and]; exact ih
    | false => simp
theorem dropW_all {p : UInt8 → Bool} {l : List UInt8} (h : (l.dropWhile p).all p = true) : l.all p = true := by
  induction l with
  | nil => rfl
  | cons c r ih =>
    rw [List.dropWhile] at h
    cases hc : p c with
    | true => rw [hc] at h; simp only at h; rw [List.all_cons, hc, ih h]; rfl
    | false => rw [hc] at h; exact h
theorem trim_nil {l : List UInt8} : trimB l [110, 116] = [] ↔ l.all kindOk = true := by
  unfold trimB
  have e : (([110, 116] : List UInt8).contains ·) = kindOk := funext contains_nt
  rw [e, dropW_nil, List.all_reverse]
  constructor
  · intro h
    have := dropW_all h
    rwa [List.all_reverse] at this
  · intro h
    rw [dropW_nil.2 (by rw [List.all_reverse]; exact h)]; rfl
/-- What Split answers. -/
def splR (s ks : List UInt8) : Option Bool × Bool × Nat × List V × Int × Int :=
  if ks.all kindOk then (match spl s ks 0 [] with
    | (a, none) => (some true, true, 0, [], (a : Int), 10)
    | (a, some x) => if a < s.length then (some true, true, 0, [], (a : Int), 10) else (none, false, 3, x.map fv, 0, 0))
  else (some true, true, 0, [], 0, 1)
theorem g17 {k : Nat} {s : List UInt8} (h : s.length ≤ 1000) : F17 k s [110, 116] = some (trimB s [110, 116]) := by
  unfold F17; exact gp ⟨by unfold maxBld; omega, by decide, by decide⟩
theorem g6 {k : Nat} {s ks : List UInt8} (hs : s.length < 9223372036854775808) (hks : ks.length ≤ 1000) (hk : 1200 ≤ k) : F6 k s ks = some (splR s ks) := by
  unfold F6 splR
  rw [g17 hks, Option.bind_some]
  by_cases ha : ks.all kindOk = true
  · rw [cNT (trim_nil.2 ha), if_pos ha, gp (by unfold maxLen'; omega)]
    obtain ⟨r, hr, h1⟩ := L6_run (k := k) hs hks (by omega) ks.length 0 (k + 8) 0 [] (by omega) (by omega) (by omega) (by omega) (by simp)
    have hr' : L6_0 k s ks (k + 8) 0 0 [] = some r := hr
    rw [hr', Option.bind_some]
    rw [List.drop_zero] at h1
    generalize spl s ks 0 [] = p at h1
    obtain ⟨a, o⟩ := p
    unfold told at h1
    cases o with
    | none => cases r <;> simp only [is6, Option.map_none, Prod.mk.injEq, Option.some.injEq, reduceCtorEq, and_false] at h1 <;> (obtain ⟨rfl, -⟩ := h1; rfl)
    | some x =>
      cases r <;> simp only [is6, Option.map_some, Prod.mk.injEq, Option.some.injEq, reduceCtorEq, and_false] at h1
      obtain ⟨rfl, rfl⟩ := h1
      simp only
      by_cases hl : a < s.length
      · rw [cT (by omega), if_pos hl]
      · rw [cF (by omega), if_neg hl]
  · rw [cNF (fun h => ha (trim_nil.1 h)), if_neg ha]
end Go.Proofs
