/-
  The reference of Split, and what is joined and split, plainly.
-/
import Derived.Test.YtegmincienhapaaDoorCdC
import Derived.Test.YtegmincienhapaaDoorCd6
set_option linter.unusedVariables false
set_option linter.unusedSimpArgs false
set_option maxRecDepth 100000
namespace Go.Proofs
open Go Go.Sym

def szI : Option (Fd × Nat) → Int
  | none => -1
  | some x => (x.2 : Int)
theorem kind_cases {c : UInt8} (h : kindOk c = true) : c = 110 ∨ c = 116 := by
  unfold kindOk at h
  simpa using h
theorem g20 {k : Nat} {s : List UInt8} {c : UInt8} (hc : kindOk c = true) (hs : s.length < 9223372036854775808) (hk : 20 ≤ k) : F20 k s ((c.toNat : Nat) : Int) = some (szI (fld s c)) := by
  unfold F20 fld
  rcases kind_cases hc with rfl | rfl
  · rw [cT (by decide), if_neg (by decide)]
    by_cases h : s.length < 8
    · rw [cT (by omega), if_pos h]; rfl
    · rw [cF (by omega), if_neg h]; rfl
  · rw [cF (by decide), if_pos rfl]
    by_cases h : s.length < 2
    · rw [cT (by omega), if_pos h]; rfl
    · rw [cF (by omega), if_neg h, gp (by omega), show Int.toNat 2 = 2 from rfl, g21 (by rw [List.length_take]; omega) (by omega), Option.bind_some]
      have hv : valL (s.take 2) < 65536 := Nat.lt_of_lt_of_le (valL_lt _) (Nat.le_trans (Nat.pow_le_pow_right (by omega) (show (s.take 2).length ≤ 2 by rw [List.length_take]; omega)) (by decide))
      generalize valL (s.take 2) = n at hv
      rw [wi (n := (n : Int)) (by omega) (by omega), wi (n := 2 + (n : Int)) (by omega) (by omega)]
      by_cases h3 : 4096 < n
      · rw [cT (by omega), if_pos h3]; rfl
      · rw [cF (by omega), if_neg h3]
        by_cases h4 : s.length - 2 < n
        · rw [cT (by omega), if_pos h4]; rfl
        · rw [cF (by omega), if_neg h4]; unfold szI; simp
def is70 : L7_0_R → Bool
  | .e0 _ => false
  | .e1 _ => true
theorem L70_run {k : Nat} {s ks : List UInt8} (hks : ks.length ≤ 1000) : ∀ (c i f : Nat), ks.length - i = c → i ≤ ks.length → c < f → ∃ r, L7_0 k s ks f (i : Int) = some r ∧ is70 r = (ks.drop i).all kindOk := by
  intro c
  induction c with
  | zero =>
    intro i f hc hi hf
    obtain ⟨f, rfl⟩ : ∃ y, f = y + 1 := ⟨f - 1, by omega⟩
    rw [L7_0, cF (by omega), List.drop_eq_nil_of_le (by omega)]
    exact ⟨_, rfl, rfl⟩
  | succ c ih =>
    intro i f hc hi hf
    obtain ⟨f, rfl⟩ : ∃ y, f = y + 1 := ⟨f - 1, by omega⟩
    have hi' : i < ks.length := by omega
    obtain ⟨r, hr, hs⟩ := ih (i + 1) f (by omega) (by omega) (by omega)
    rw [L7_0, cT (by omega), satB_at hi', Option.bind_some, wi (n := (i : Int) + 1) (by omega) (by omega), show (i : Int) + 1 = ((i + 1 : Nat) : Int) by omega, hr, drop_cons hi', List.all_cons, ← hs]
    by_cases h1 : ks[i] = 110
    · rw [cNT ((u8_110 _).2 h1), show kindOk ks[i] = true by unfold kindOk; rw [h1]; rfl]; exact ⟨_, rfl, by simp⟩
    · rw [cNF (fun h => h1 ((u8_110 _).1 h))]
      by_cases h2 : ks[i] = 116
      · rw [cNT ((u8_116 _).2 h2), show kindOk ks[i] = true by unfold kindOk; rw [h2]; rfl]; exact ⟨_, rfl, by simp⟩
      · rw [cNF (fun h => h2 ((u8_116 _).1 h)), show kindOk ks[i] = false by unfold kindOk; simp [h1, h2]]; exact ⟨_, rfl, rfl⟩
def is71 : L7_1_R → Int × Option (List V)
  | .e0 a _ _ _ => (a, none)
  | .e1 a _ x => (a, some x)
theorem L71_run {k : Nat} {z : Int} {s ks : List UInt8} (hs : s.length < 9223372036854775808) (hks : ks.length ≤ 1000) (hok : ks.all kindOk = true) (hk : 40 ≤ k) : ∀ (c i f a : Nat) (acc : List Fd), ks.length - i = c → i ≤ ks.length → c < f → a ≤ s.length → acc.length ≤ i →
    ∃ r, L7_1 k z s ks f (a : Int) (i : Int) (acc.map fv) = some r ∧ is71 r = told (spl s (ks.drop i) a acc) := by
  intro c
  induction c with
  | zero =>
    intro i f a acc hc hi hf ha hacc
    obtain ⟨f, rfl⟩ : ∃ y, f = y + 1 := ⟨f - 1, by omega⟩
    rw [L7_1, cF (by omega), List.drop_eq_nil_of_le (by omega)]
    exact ⟨_, rfl, rfl⟩
  | succ c ih =>
    intro i f a acc hc hi hf ha hacc
    obtain ⟨f, rfl⟩ : ∃ y, f = y + 1 := ⟨f - 1, by omega⟩
    have hi' : i < ks.length := by omega
    have hki : kindOk ks[i] = true := List.all_eq_true.1 hok _ (List.getElem_mem hi')
    have hd : (s.drop a).length = s.length - a := List.length_drop
    have hml : acc.length + 1 ≤ maxLen' := by unfold maxLen'; omega
    have hw : IntKind.i64.wrap ((i : Int) + 1) = ((i + 1 : Nat) : Int) := by rw [wi (by omega) (by omega)]; omega
    rw [L7_1, cT (by omega), gp (by omega), satB_at hi', Option.bind_some, Int.toNat_natCast, g20 hki (by omega) (by omega), Option.bind_some, drop_cons hi', spl, hw]
    cases hf' : fld (s.drop a) ks[i] with
    | none =>
      rw [szI, cT (by decide)]
      exact ⟨_, rfl, rfl⟩
    | some x =>
      have hx := fld_le hf'
      rw [hd] at hx
      rw [szI, cF (by omega)]
      obtain ⟨r, hr, hs'⟩ := ih (i + 1) f (a + x.2) (acc ++ [x.1]) (by omega) (by omega) (by omega) (by omega) (by simp; omega)
      refine ⟨r, ?_, hs'⟩
      rw [← hr, ← fv_app]
      unfold fld at hf'
      rcases kind_cases hki with h1 | h1
      · rw [h1, if_neg (by decide), hd] at hf'
        split at hf'
        · cases hf'
        · cases hf'
          have h8 : ((s.drop a).take 8).length ≤ 8 := by rw [List.length_take]; omega
          simp only at hx ⊢
          rw [cT ((u8_110 _).2 h1), wi (n := (a : Int) + 8) (by omega) (by omega), gp (by omega), show ((a : Int) + 8).toNat = a + 8 by omega, cut_eq, g21 h8 (by omega), Option.bind_some, gp (by rw [List.length_map]; exact hml)]
          rw [show ((8 : Nat) : Int) = 8 from rfl, wi (n := (a : Int) + 8) (by omega) (by omega)]
          show L7_1 k z s ks f _ _ _ = L7_1 k z s ks f _ _ (List.map fv acc ++ [V.agg [V.bool false, V.int .u64 ((wv ((s.drop a).take 8)).toNat : Int), V.str []]])
          rw [wv_nat h8, show (a : Int) + 8 = ((a + 8 : Nat) : Int) by omega]
      · rw [h1, if_pos rfl, hd] at hf'
        split at hf'
        · cases hf'
        · split at hf'
          · cases hf'
          · split at hf'
            · cases hf'
            · cases hf'
              simp only at hx ⊢
              generalize valL ((s.drop a).take 2) = n at *
              have e : ((2 + n : Nat) : Int) = 2 + (n : Int) := by omega
              rw [cF (fun h => by rw [u8_110, h1] at h; exact absurd h (by decide)), e, wi (n := (a : Int) + 2) (by omega) (by omega), wi (n := (a : Int) + (2 + (n : Int))) (by omega) (by omega), gp (by omega), gp (by rw [List.length_map]; exact hml)]
              rw [show ((a : Int) + 2).toNat = a + 2 by omega, show ((a : Int) + (2 + (n : Int))).toNat = (a + 2) + n by omega, cut_eq, ← List.drop_drop, show (a : Int) + (2 + (n : Int)) = ((a + (2 + n) : Nat) : Int) by omega]
              rfl
theorem g7 {k : Nat} {s ks : List UInt8} (hs : s.length < 9223372036854775808) (hks : ks.length ≤ 1000) (hk : 1200 ≤ k) : F7 k s ks = some (splR s ks) := by
  unfold F7 splR
  obtain ⟨r, hr, h1⟩ := L70_run (k := k) (s := s) hks ks.length 0 (k + 8) (by omega) (by omega) (by omega)
  rw [List.drop_zero] at h1
  have hr' : L7_0 k s ks (k + 8) 0 = some r := hr
  rw [hr', Option.bind_some]
  cases r with
  | e0 i => simp only [is70] at h1; simp only [← h1]; rfl
  | e1 z =>
    simp only [is70] at h1
    rw [if_pos h1.symm]
    obtain ⟨r, hr, h2⟩ := L71_run (k := k) (z := z) hs hks h1.symm (by omega) ks.length 0 (k + 8) 0 [] (by omega) (by omega) (by omega) (by omega) (by simp)
    have hr' : L7_1 k z s ks (k + 8) 0 0 [] = some r := hr
    simp only
    rw [hr', Option.bind_some]
    rw [List.drop_zero] at h2
    generalize spl s ks 0 [] = p at h2
    obtain ⟨a, o⟩ := p
    unfold told at h2
    cases o with
    | none => cases r <;> simp only [is71, Option.map_none, Prod.mk.injEq, Option.some.injEq, reduceCtorEq, and_false] at h2 <;> (obtain ⟨rfl, -⟩ := h2; rfl)
    | some x =>
      cases r <;> simp only [is71, Option.map_some, Prod.mk.injEq, Option.some.injEq, reduceCtorEq, and_false] at h2
      obtain ⟨rfl, rfl⟩ := h2
      simp only
      by_cases hl : a < s.length
      · rw [cT (by omega), if_pos hl]
      · rw [cF (by omega), if_neg hl]

/-! ### The same, and kinds -/
def norm (f : Fd) : Fd := if f.t then ⟨true, 0#64, f.s⟩ else ⟨false, f.n, []⟩
theorem norm_norm (f : Fd) : norm (norm f) = norm f := by unfold norm; cases f.t <;> rfl
theorem norm_one (f : Fd) : oneB (norm f) = oneB f := by unfold norm oneB; cases f.t <;> rfl
theorem norm_t (f : Fd) : (norm f).t = f.t := by unfold norm; cases f.t <;> rfl
theorem L9_run {k : Nat} {b c : Bool} {o p : Option Bool} {l m : List Fd} (hl : l.length ≤ 1000) (he : l.map norm = m.map norm) : ∀ (d i f : Nat), l.length - i = d → i ≤ l.length → d < f → ∃ z, L9_0 k b c (l.map fv) (m.map fv) o p 3 3 f (i : Int) = some (.e3 z) := by
  have hlm : l.length = m.length := by have := congrArg List.length he; simpa using this
  intro d
  induction d with
  | zero =>
    intro i f hc hi hf
    obtain ⟨f, rfl⟩ : ∃ y, f = y + 1 := ⟨f - 1, by omega⟩
    rw [L9_0, List.length_map, cF (by omega)]
    exact ⟨_, rfl⟩
  | succ d ih =>
    intro i f hc hi hf
    obtain ⟨f, rfl⟩ : ∃ y, f = y + 1 := ⟨f - 1, by omega⟩
    have hi' : i < l.length := by omega
    have hj' : i < m.length := by omega
    obtain ⟨z, hz⟩ := ih (i + 1) f (by omega) (by omega) (by omega)
    refine ⟨z, ?_⟩
    have hn : norm l[i] = norm m[i] := by
      have := congrArg (fun x : List Fd => x[i]?) he
      simpa [hi', hj'] using this
    have ht : l[i].t = m[i].t := by rw [← norm_t l[i], hn, norm_t]
    rw [L9_0, List.length_map, cT (by omega), gp rfl, at_fv hi', Option.bind_some]
    simp only
    rw [gp trivial, at_fv hj', Option.bind_some]
    simp only
    rw [cNT ht, wi (n := (i : Int) + 1) (by omega) (by omega), show (i : Int) + 1 = ((i + 1 : Nat) : Int) by omega]
    unfold norm at hn
    cases h : m[i].t with
    | true =>
      rw [h] at ht; rw [ht, h] at hn
      simp only [if_true, Fd.mk.injEq, true_and] at hn
      rw [ht, cond_true, cNT hn]; exact hz
    | false =>
      rw [h] at ht; rw [ht, h] at hn
      simp only [Bool.false_eq_true, if_false, Fd.mk.injEq, true_and, and_true] at hn
      rw [ht, cond_false, cNT (by rw [hn])]; exact hz
theorem g9 {k : Nat} {b c : Bool} {o p : Option Bool} {l m : List Fd} (hl : l.length ≤ 1000) (he : l.map norm = m.map norm) (hk : 1200 ≤ k) : F9 k o b 3 (l.map fv) p c 3 (m.map fv) = some true := by
  unfold F9
  have hlm : l.length = m.length := by have := congrArg List.length he; simpa using this
  obtain ⟨z, hz⟩ := L9_run (k := k) (b := b) (c := c) (o := o) (p := p) hl he l.length 0 (k + 2) (by omega) (by omega) (by omega)
  have hz' : L9_0 k b c (l.map fv) (m.map fv) o p 3 3 (k + 2) 0 = some (.e3 z) := hz
  rw [cNT (by rw [List.length_map, List.length_map, hlm]), hz', Option.bind_some]
theorem g9n {k n m : Nat} {b c : Bool} {o p : Option Bool} : F9 k o b n [] p c m [] = some true := by
  unfold F9
  rw [cNT rfl, L9_0, cF (by simp), Option.bind_some]
def kindB (f : Fd) : UInt8 := if f.t then 116 else 110
theorem kindB_norm (f : Fd) : kindB (norm f) = kindB f := by unfold kindB; rw [norm_t]
theorem kindB_ok (f : Fd) : kindOk (kindB f) = true := by unfold kindB; cases f.t <;> rfl
theorem L11_run {k : Nat} {b : Bool} {o : Option Bool} {l : List Fd} (hl : l.length ≤ 1000) : ∀ (c i f : Nat) (out : List UInt8), l.length - i = c → i ≤ l.length → c < f → out.length ≤ i →
    ∃ z, L11_0 k b (l.map fv) o 3 f out (i : Int) = some (.e0 z (out ++ (l.drop i).map kindB)) := by
  intro c
  induction c with
  | zero =>
    intro i f out hc hi hf ho
    obtain ⟨f, rfl⟩ : ∃ y, f = y + 1 := ⟨f - 1, by omega⟩
    rw [L11_0, List.length_map, cF (by omega), List.drop_eq_nil_of_le (by omega)]
    exact ⟨_, by rw [List.map_nil, List.append_nil]⟩
  | succ c ih =>
    intro i f out hc hi hf ho
    obtain ⟨f, rfl⟩ : ∃ y, f = y + 1 := ⟨f - 1, by omega⟩
    have hi' : i < l.length := by omega
    obtain ⟨z, hz⟩ := ih (i + 1) f (out ++ [kindB l[i]]) (by omega) (by omega) (by omega) (by simp; omega)
    refine ⟨z, ?_⟩
    rw [L11_0, List.length_map, cT (by omega), gp rfl, at_fv hi', Option.bind_some]
    simp only
    rw [wi (n := (i : Int) + 1) (by omega) (by omega), show (i : Int) + 1 = ((i + 1 : Nat) : Int) by omega, drop_cons hi', List.map_cons]
    rw [List.append_assoc] at hz
    unfold kindB at hz ⊢
    cases h : l[i].t with
    | true => rw [h] at hz; rw [cond_true, gp (by simp only [List.length_cons, List.length_nil]; unfold maxText; omega)]; exact hz
    | false => rw [h] at hz; rw [cond_false, gp (by simp only [List.length_cons, List.length_nil]; unfold maxText; omega)]; exact hz
theorem g11 {k : Nat} {b : Bool} {o : Option Bool} {l : List Fd} (hl : l.length ≤ 1000) (hk : 1200 ≤ k) : F11 k o b 3 (l.map fv) = some (l.map kindB) := by
  unfold F11
  obtain ⟨z, hz⟩ := L11_run (k := k) (b := b) (o := o) hl l.length 0 (k + 2) [] (by omega) (by omega) (by omega) (by simp)
  have hz' : L11_0 k b (l.map fv) o 3 (k + 2) [] 0 = some (.e0 z ([] ++ (l.drop 0).map kindB)) := hz
  rw [hz', Option.bind_some, List.drop_zero, List.nil_append]

/-! ### What is joined, split; what is split, joined -/
def lowM (n m : Nat) : List UInt8 := (List.range m).map fun j => UInt8.ofNat (n / 256 ^ j)
theorem lowM_succ (n m : Nat) : lowM n (m + 1) = UInt8.ofNat n :: lowM (n / 256) m := by
  unfold lowM
  rw [List.range_succ_eq_map, List.map_cons, List.map_map]
  congr 1
  · rw [Nat.pow_zero, Nat.div_one]
  · apply List.map_congr_left
    intro j _
    simp only [Function.comp]
    rw [Nat.pow_succ, Nat.mul_comm, Nat.div_div_eq_div_mul]
theorem lowN_M (w : Wd) (m : Nat) : lowN w m = lowM w.toNat m := rfl
theorem val_lowM (m : Nat) : ∀ n, valL (lowM n m) = n % 256 ^ m := by
  induction m with
  | zero => intro n; simp [lowM, valL, Nat.mod_one]
  | succ m ih =>
    intro n
    rw [lowM_succ, valL, ih, UInt8.toNat_ofNat', show (256 : Nat) ^ (m + 1) = 256 * 256 ^ m by rw [Nat.pow_succ, Nat.mul_comm], Nat.mod_mul]
theorem lowM_val (s : List UInt8) : lowM (valL s) s.length = s := by
  induction s with
  | nil => rfl
  | cons c r ih =>
    have := c.toNat_lt
    rw [List.length_cons, lowM_succ, valL, show (c.toNat + 256 * valL r) / 256 = valL r by omega, ih]
    congr 1
    apply UInt8.toNat_inj.1
    rw [UInt8.toNat_ofNat']; omega
theorem lowM_length (n m : Nat) : (lowM n m).length = m := by simp [lowM]
theorem valL_two {s : List UInt8} (h : s.length ≤ 4096) : valL (lowN (lw s) 2) = s.length := by
  rw [lowN_M, val_lowM]; unfold lw; rw [BitVec.toNat_ofNat, Nat.mod_eq_of_lt (a := s.length) (by omega)]; omega
theorem wv_low (w : Wd) : wv (lowN w 8) = w := by
  apply BitVec.eq_of_toNat_eq
  rw [wv_nat (by rw [lowN_length]; omega), lowN_M, val_lowM]
  exact Nat.mod_eq_of_lt w.isLt
theorem fld_one {f : Fd} (h : f.long = false) (rest : List UInt8) : fld (oneB f ++ rest) (kindB f) = some (norm f, (oneB f).length) := by
  unfold fld kindB oneB norm
  unfold Fd.long at h
  cases ht : f.t with
  | true =>
    rw [ht, Bool.true_and, decide_eq_false_iff_not] at h
    simp only [if_true]
    have h1 : (textB f.s ++ rest).take 2 = lowN (lw f.s) 2 := by
      unfold textB
      rw [List.append_assoc, List.take_left' (lowN_length _ _)]
    have h2 : (textB f.s ++ rest).drop 2 = f.s ++ rest := by
      unfold textB
      rw [List.append_assoc, List.drop_left' (lowN_length _ _)]
    rw [h1, h2, valL_two (by omega), List.length_append, textB_length, if_neg (by omega), if_neg h, if_neg (by omega), List.take_left' rfl]
  | false =>
    simp only [Bool.false_eq_true, if_false]
    rw [if_neg (by decide), List.length_append, lowN_length, if_neg (by omega), List.take_left' (lowN_length _ _), wv_low]
theorem spl_join (s : List UInt8) : ∀ (l : List Fd) (a : Nat) (acc : List Fd), l.any Fd.long = false → s.drop a = l.flatMap oneB → spl s (l.map kindB) a acc = (a + (l.flatMap oneB).length, some (acc ++ l.map norm)) := by
  intro l
  induction l with
  | nil => intro a acc _ _; simp [spl]
  | cons f l ih =>
    intro a acc hl hs
    rw [List.any_cons, Bool.or_eq_false_iff] at hl
    rw [List.flatMap_cons] at hs
    rw [List.map_cons, spl, hs, fld_one hl.1]
    simp only
    rw [ih _ _ hl.2 (by rw [← List.drop_drop, hs, List.drop_left' rfl]), List.flatMap_cons, List.length_append, List.map_cons, List.append_assoc, Nat.add_assoc]
    rfl
theorem fld_back {s : List UInt8} {c : UInt8} {x : Fd × Nat} (hc : kindOk c = true) (h : fld s c = some x) : oneB x.1 = s.take x.2 ∧ x.1.long = false ∧ kindB x.1 = c := by
  unfold fld at h
  rcases kind_cases hc with rfl | rfl
  · rw [if_neg (by decide)] at h
    split at h
    · cases h
    · cases h
      refine ⟨?_, rfl, rfl⟩
      have h8 : (s.take 8).length = 8 := by rw [List.length_take]; omega
      have := lowM_val (s.take 8)
      rw [h8] at this
      show lowN (wv (s.take 8)) 8 = _
      rw [lowN_M, wv_nat (by omega)]; exact this
  · rw [if_pos rfl] at h
    split at h
    · cases h
    · split at h
      · cases h
      · split at h
        · cases h
        · cases h
          have h2 : (s.take 2).length = 2 := by rw [List.length_take]; omega
          have := lowM_val (s.take 2)
          rw [h2] at this
          have hl : ((s.drop 2).take (valL (s.take 2))).length = valL (s.take 2) := by rw [List.length_take, List.length_drop]; omega
          refine ⟨?_, ?_, rfl⟩
          · show textB _ = _
            unfold textB lw
            rw [hl, lowN_M, BitVec.toNat_ofNat, Nat.mod_eq_of_lt (valL_lt8 (by omega)), this]
            rw [List.take_add]
          · unfold Fd.long
            simp only [Bool.true_and, decide_eq_false_iff_not]
            rw [hl]; omega
theorem spl_back (s : List UInt8) : ∀ (ks : List UInt8) (a : Nat) (acc : List Fd), ks.all kindOk = true → a ≤ s.length → a ≤ (spl s ks a acc).1 ∧ (spl s ks a acc).1 ≤ s.length ∧ ∀ x, (spl s ks a acc).2 = some x →
    ∃ y, x = acc ++ y ∧ y.flatMap oneB = (s.drop a).take ((spl s ks a acc).1 - a) ∧ y.any Fd.long = false ∧ y.map kindB = ks := by
  intro ks
  induction ks with
  | nil =>
    intro a acc _ ha
    refine ⟨Nat.le_refl _, ha, fun x hx => ?_⟩
    cases hx
    exact ⟨[], by simp, by simp [spl], rfl, rfl⟩
  | cons c r ih =>
    intro a acc hk ha
    rw [List.all_cons, Bool.and_eq_true] at hk
    rw [spl]
    cases hf : fld (s.drop a) c with
    | none => exact ⟨Nat.le_refl _, ha, fun x hx => by cases hx⟩
    | some v =>
      have hv := (fld_le hf).1
      rw [List.length_drop] at hv
      obtain ⟨h1, h2, h3⟩ := ih (a + v.2) (acc ++ [v.1]) hk.2 (by omega)
      simp only
      refine ⟨by omega, h2, fun x hx => ?_⟩
      obtain ⟨y, rfl, hy, hyl, hyk⟩ := h3 x hx
      obtain ⟨b1, b2, b3⟩ := fld_back hk.1 hf
      refine ⟨v.1 :: y, by simp, ?_, by rw [List.any_cons, b2, hyl]; rfl, by rw [List.map_cons, b3, hyk]⟩
      rw [List.flatMap_cons, b1, hy]
      generalize (spl s r (a + v.2) (acc ++ [v.1])).1 = e at h1 h2
      obtain ⟨d, rfl⟩ : ∃ d, e = a + v.2 + d := ⟨e - (a + v.2), by omega⟩
      rw [show a + v.2 + d - (a + v.2) = d by omega, show a + v.2 + d - a = v.2 + d by omega, List.take_add, List.drop_drop]
theorem spl_len (s : List UInt8) : ∀ (ks : List UInt8) (a : Nat) (acc x : List Fd), (spl s ks a acc).2 = some x → x.length = acc.length + ks.length := by
  intro ks
  induction ks with
  | nil => intro a acc x hx; cases hx; rfl
  | cons c r ih =>
    intro a acc x hx
    rw [spl] at hx
    cases hf : fld (s.drop a) c with
    | none => rw [hf] at hx; cases hx
    | some v => rw [hf] at hx; rw [ih _ _ _ hx]; simp; omega

/-! ### The laws -/
theorem take30 (s : List UInt8) : List.take (if (30 : Int) < (s.length : Int) then (30 : Int) else (s.length : Int)).toNat s = s.take 30 := take_if 30 s
theorem law_codecSplits {k : Nat} {s ks : List UInt8} (hs : s.length < 9223372036854775808) (hk : 7000 ≤ k) : F3 k s ks = some true := by
  unfold F3
  rw [gp (by omega), take30]
  have hl : (ks.take 30).length ≤ 1000 := by rw [List.length_take]; omega
  generalize ks.take 30 = t at hl
  rw [g6 hs hl (by omega), Option.bind_some, g7 hs hl (by omega)]
  rcases h : splR s t with ⟨o, b, n, x, i, j⟩
  simp only [Option.bind_some]
  rw [g8 (by omega), Option.bind_some, cond_true, cT trivial, cT trivial]
  have hx : x = [] ∨ ∃ l : List Fd, x = l.map fv ∧ l.length ≤ 1000 ∧ n = 3 := by
    unfold splR at h
    split at h
    · split at h
      · cases h; exact .inl rfl
      · rename_i a y hy
        split at h
        · cases h; exact .inl rfl
        · cases h
          have := spl_len s t 0 [] y (by rw [hy])
          exact .inr ⟨y, rfl, by simp at this; omega, rfl⟩
    · cases h; exact .inl rfl
  rcases hx with rfl | ⟨l, rfl, h1, rfl⟩
  · rw [g9n]; rfl
  · rw [g9 h1 rfl (by omega)]; rfl
theorem back {k : Nat} {s t : List UInt8} (hs : s.length < 9223372036854775808) (hl : t.length ≤ 30) (hk : 7000 ≤ k) :
    ((F6 (k + 2) s t).bind fun (o1, b1, n1, x1, i1, i2) => (bif !decide (i2 = 0) then ((F8 (k + 2)).bind fun b2 => (bif b2 then (bif decide ((x1.length : Int) = 0) then (bif decide (0 ≤ i1) then (some (decide (i1 ≤ (s.length : Int)))) else (some (false))) else (some (false))) else (some (false)))) else ((F10 (k + 2) (o1) (b1) (n1) (x1)).bind fun (s3, i3) => ((F8 (k + 2)).bind fun b2 => (bif b2 then (bif decide (i3 = 0) then (bif decide (s3 = s) then ((F11 (k + 8) (o1) (b1) (n1) (x1)).bind fun s4 => (some (decide (s4 = t)))) else (some (false))) else (some (false))) else (some (false))))))) = some true := by
  rw [g6 hs (by omega) (by omega), Option.bind_some]
  have h8 : F8 (k + 2) = some true := g8 (by omega)
  rw [h8]
  unfold splR
  by_cases ha : t.all kindOk = true
  · rw [if_pos ha]
    obtain ⟨h1, h2, h3⟩ := spl_back s t 0 [] ha (by omega)
    have h4 := spl_len s t 0 []
    generalize spl s t 0 [] = p at h1 h2 h3 h4
    obtain ⟨a, o⟩ := p
    simp only at h1 h2 h3 h4
    cases o with
    | none =>
      simp only [Option.bind_some]
      rw [cNF (by decide), cond_true, cT (show ((([] : List V).length : Nat) : Int) = 0 from rfl), cT (by omega), dec_t (by omega)]
    | some x =>
      simp only
      by_cases hlt : a < s.length
      · rw [if_pos hlt]
        simp only [Option.bind_some]
        rw [cNF (by decide), cond_true, cT (show ((([] : List V).length : Nat) : Int) = 0 from rfl), cT (by omega), dec_t (by omega)]
      · rw [if_neg hlt]
        simp only [Option.bind_some]
        obtain ⟨y, rfl, hy, hyl, hyk⟩ := h3 x rfl
        have h4 := h4 _ rfl
        simp only [List.length_nil, Nat.zero_add] at h4
        rw [show a - 0 = s.length by omega, List.drop_zero, List.take_length] at hy
        rw [cNT trivial, g10 (by omega) (by omega), hyl, Option.bind_some]
        simp only [Bool.false_eq_true, if_false]
        rw [cond_true, cT trivial, cT hy, g11 (by omega) (by omega), Option.bind_some, dec_t hyk]
  · rw [if_neg ha]
    simp only [Option.bind_some]
    rw [cNF (by decide), cond_true, cT (show ((([] : List V).length : Nat) : Int) = 0 from rfl), cT (by omega), dec_t (by omega)]
theorem join_le {l : List Fd} (h : l.any Fd.long = false) : (l.flatMap oneB).length ≤ l.length * 4098 := by
  induction l with
  | nil => simp
  | cons f l ih =>
    rw [List.any_cons, Bool.or_eq_false_iff] at h
    have := ih h.2
    have := oneB_len h.1
    rw [List.flatMap_cons, List.length_append, List.length_cons]; omega
theorem law_codecBack {k : Nat} {b : Bool} {o : Option Bool} {l : List Fd} {s ks : List UInt8} (hs : s.length < 9223372036854775808) (hk : 7000 ≤ k) : F4 k o b 3 (l.map fv) s ks = some true := by
  unfold F4
  have h12 : List.take (if (12 : Int) < ((l.map fv).length : Int) then (12 : Int) else ((l.map fv).length : Int)).toNat (l.map fv) = (l.take 12).map fv := by
    rw [show (12 : Int) = ((12 : Nat) : Int) from rfl, take_if, List.map_take]
  have hl : (l.take 12).length ≤ 12 := by rw [List.length_take]; omega
  have ht : (ks.take 30).length ≤ 30 := by rw [List.length_take]; omega
  rw [gp rfl, gp (by omega), gp (by omega), take30, h12]
  generalize ks.take 30 = t at ht
  generalize l.take 12 = m at hl
  rw [g10 (by omega) (by omega), Option.bind_some]
  cases ha : m.any Fd.long with
  | true =>
    simp only [if_true]
    rw [cF (by decide)]
    exact back hs ht hk
  | false =>
    have hj := join_le ha
    simp only [Bool.false_eq_true, if_false]
    rw [cT trivial, g11 (by omega) (by omega), Option.bind_some, g6 (by omega) (by rw [List.length_map]; omega) (by omega), Option.bind_some]
    have e : splR (m.flatMap oneB) (m.map kindB) = (none, false, 3, (m.map norm).map fv, 0, 0) := by
      unfold splR
      rw [if_pos (by rw [List.all_map]; exact List.all_eq_true.2 fun f _ => kindB_ok f), spl_join _ m 0 [] ha (by rw [List.drop_zero])]
      simp only
      rw [if_neg (by omega), List.nil_append]
    rw [e]
    simp only
    rw [cNT trivial, cNT trivial, g9 (by rw [List.length_map]; omega) (by rw [List.map_map]; exact List.map_congr_left fun f _ => norm_norm f) (by omega), Option.bind_some, Bool.not_true, cond_false]
    exact back hs ht hk
end Go.Proofs
