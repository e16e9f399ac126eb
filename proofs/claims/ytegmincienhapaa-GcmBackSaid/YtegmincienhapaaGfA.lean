/- DERIVED. The field of ghash, in plain numbers: shift and reduce, sums, the product. -/
import Derived.Test.YtegmincienhapaaSymPlain
set_option linter.unusedVariables false
set_option linter.unusedSimpArgs false
namespace Go.Sym.Gf
abbrev E := BitVec 128
def mulx (e : E) : E := (e <<< 1) ^^^ (bif e.getLsbD 127 then 135#128 else 0#128)
def ind (b : Bool) (e : E) : E := bif b then e else 0#128
def S : Nat → (Nat → E) → E
  | 0, _ => 0#128
  | n + 1, f => S n f ^^^ f n
def mxn : Nat → E → E
  | 0, e => e
  | n + 1, e => mulx (mxn n e)
def X (n : Nat) : E := mxn n 1#128
def gm (a b : E) : E := S 128 fun i => ind (b.getLsbD i) (mxn i a)
def Lin (f : E → E) : Prop := ∀ a b, f (a ^^^ b) = f a ^^^ f b

theorem mulx_lin : Lin mulx := by
  intro a b
  apply BitVec.eq_of_getLsbD_eq
  intro i hi
  unfold mulx
  simp only [BitVec.getLsbD_xor, BitVec.getLsbD_shiftLeft]
  cases a.getLsbD 127 <;> cases b.getLsbD 127 <;> cases (135#128).getLsbD i <;> cases a.getLsbD (i - 1) <;> cases b.getLsbD (i - 1) <;> cases decide (i < 128) <;> cases decide (i < 1) <;> simp_all
theorem lin_zero {f : E → E} (h : Lin f) : f 0#128 = 0#128 := by
  have := h 0#128 0#128
  rw [BitVec.xor_self, BitVec.xor_self] at this
  exact this
theorem lin_ind {f : E → E} (h : Lin f) (b : Bool) (e : E) : f (ind b e) = ind b (f e) := by
  cases b
  · exact lin_zero h
  · rfl
theorem lin_S {f : E → E} (h : Lin f) (n : Nat) (g : Nat → E) : f (S n g) = S n fun i => f (g i) := by
  induction n with
  | zero => exact lin_zero h
  | succ n ih => show f (S n g ^^^ g n) = _; rw [h, ih]; rfl
theorem ind_lin (b : Bool) : Lin (ind b) := by
  intro x y; cases b
  · exact (BitVec.xor_self).symm
  · rfl
theorem mxn_lin (n : Nat) : Lin (mxn n) := by
  induction n with
  | zero => intro a b; rfl
  | succ n ih => intro a b; show mulx (mxn n (a ^^^ b)) = _; rw [ih, mulx_lin]; rfl
theorem S_congr {n : Nat} {f g : Nat → E} (h : ∀ i, i < n → f i = g i) : S n f = S n g := by
  induction n with
  | zero => rfl
  | succ n ih => show S n f ^^^ f n = S n g ^^^ g n; rw [ih fun i hi => h i (by omega), h n (by omega)]
theorem x4 (a b c d : E) : (a ^^^ b) ^^^ (c ^^^ d) = (a ^^^ c) ^^^ (b ^^^ d) := by
  ac_rfl
theorem S_xor (n : Nat) (f g : Nat → E) : S n (fun i => f i ^^^ g i) = S n f ^^^ S n g := by
  induction n with
  | zero => exact (BitVec.xor_self).symm
  | succ n ih => show S n _ ^^^ (f n ^^^ g n) = (S n f ^^^ f n) ^^^ (S n g ^^^ g n); rw [ih, x4]
theorem S_zero (n : Nat) : S n (fun _ => 0#128) = 0#128 := by
  induction n with
  | zero => rfl
  | succ n ih => show S n _ ^^^ 0#128 = _; rw [ih]; rfl
theorem S_comm (n m : Nat) (f : Nat → Nat → E) : S n (fun i => S m (fun j => f i j)) = S m (fun j => S n (fun i => f i j)) := by
  induction n with
  | zero => exact (S_zero m).symm
  | succ n ih => show S n _ ^^^ S m _ = S m (fun j => S n (fun i => f i j) ^^^ f n j); rw [ih, S_xor]
theorem ind_comm (b c : Bool) (e : E) : ind b (ind c e) = ind c (ind b e) := by cases b <;> cases c <;> rfl
theorem ind_xor (b c : Bool) (e : E) : ind (b ^^ c) e = ind b e ^^^ ind c e := by
  cases b <;> cases c
  · exact (BitVec.xor_self).symm
  · exact (BitVec.zero_xor).symm
  · exact (BitVec.xor_zero).symm
  · exact (BitVec.xor_self).symm
theorem mxn_add (i j : Nat) (e : E) : mxn (i + j) e = mxn i (mxn j e) := by
  induction i with
  | zero => rw [Nat.zero_add]; rfl
  | succ i ih => rw [Nat.succ_add]; show mulx (mxn (i + j) e) = _; rw [ih]; rfl
theorem mxn_mulx (i : Nat) (e : E) : mxn i (mulx e) = mulx (mxn i e) := by
  rw [show mulx e = mxn 1 e from rfl, ← mxn_add, Nat.add_comm, mxn_add]; rfl
theorem X_shl (n : Nat) (h : n < 128) : X n = 1#128 <<< n := by
  induction n with
  | zero => rfl
  | succ n ih =>
    show mulx (X n) = _
    rw [ih (by omega)]
    unfold mulx
    have e : (1#128 <<< n).getLsbD 127 = false := by
      rw [BitVec.getLsbD_shiftLeft, BitVec.getLsbD_one]
      rw [decide_eq_false (show ¬(127 - n = 0) by omega)]; simp
    rw [e]
    show (1#128 <<< n <<< 1) ^^^ 0#128 = _
    rw [BitVec.xor_zero, BitVec.shiftLeft_add]
theorem X_bit (n i : Nat) (h : n < 128) (hi : i < 128) : (X n).getLsbD i = decide (i = n) := by
  rw [X_shl n h, BitVec.getLsbD_shiftLeft, BitVec.getLsbD_one, decide_eq_true hi]
  by_cases h1 : i < n
  · rw [decide_eq_true h1, decide_eq_false (show ¬(i = n) by omega)]; simp
  · rw [decide_eq_false h1]
    by_cases h2 : i = n
    · subst h2; simp
    · rw [decide_eq_false h2, decide_eq_false (show ¬(i - n = 0) by omega)]; simp
theorem S_bit (n : Nat) (hn : n ≤ 128) (f : Nat → Bool) (j : Nat) (hj : j < 128) : (S n fun i => ind (f i) (X i)).getLsbD j = (decide (j < n) && f j) := by
  induction n with
  | zero => show (0#128).getLsbD j = _; rw [decide_eq_false (by omega)]; simp
  | succ n ih =>
    show ((S n fun i => ind (f i) (X i)) ^^^ ind (f n) (X n)).getLsbD j = _
    rw [BitVec.getLsbD_xor, ih (by omega)]
    by_cases h : j = n
    · subst h
      rw [decide_eq_false (show ¬(j < j) by omega), decide_eq_true (show j < j + 1 by omega)]
      cases hf : f j
      · show (false ^^ (0#128).getLsbD j) = _; simp
      · show (false ^^ (X j).getLsbD j) = _; rw [X_bit j j (by omega) hj]; simp
    · have e : (ind (f n) (X n)).getLsbD j = false := by
        cases hf : f n
        · show (0#128).getLsbD j = _; simp
        · show (X n).getLsbD j = _; rw [X_bit n j (by omega) hj, decide_eq_false h]
      rw [e]
      by_cases h2 : j < n
      · rw [decide_eq_true h2, decide_eq_true (show j < n + 1 by omega)]; simp
      · rw [decide_eq_false h2, decide_eq_false (show ¬ (j < n + 1) by omega)]; simp
def mk (f : Nat → Bool) : E := S 128 fun i => ind (f i) (X i)
theorem mk_bit (f : Nat → Bool) (j : Nat) (hj : j < 128) : (mk f).getLsbD j = f j := by
  unfold mk; rw [S_bit 128 (Nat.le_refl _) f j hj, decide_eq_true hj]; simp
theorem ext {a b : E} (h : ∀ i, i < 128 → a.getLsbD i = b.getLsbD i) : a = b := BitVec.eq_of_getLsbD_eq h
theorem mk_get (a : E) : mk a.getLsbD = a := ext fun i hi => mk_bit _ i hi
theorem expand (a : E) : a = S 128 fun i => ind (a.getLsbD i) (X i) := (mk_get a).symm

theorem mxn_exp (i : Nat) (a : E) : mxn i a = S 128 fun j => ind (a.getLsbD j) (X (i + j)) := by
  have e := congrArg (mxn i) (expand a)
  rw [lin_S (mxn_lin i)] at e
  rw [e]
  apply S_congr
  intro j _
  rw [lin_ind (mxn_lin i)]
  rw [show X (i + j) = mxn i (X j) from mxn_add i j 1#128]
theorem gm_exp (a b : E) : gm a b = S 128 fun i => S 128 fun j => ind (b.getLsbD i) (ind (a.getLsbD j) (X (i + j))) := by
  unfold gm
  apply S_congr
  intro i _
  rw [mxn_exp i a, lin_S (ind_lin _)]
theorem gm_comm (a b : E) : gm a b = gm b a := by
  rw [gm_exp a b, gm_exp b a, S_comm]
  apply S_congr; intro i _; apply S_congr; intro j _
  rw [ind_comm, Nat.add_comm]
theorem gm_linL (b : E) : Lin fun a => gm a b := by
  intro x y
  show gm (x ^^^ y) b = gm x b ^^^ gm y b
  unfold gm
  rw [← S_xor]
  apply S_congr; intro i _
  rw [mxn_lin i, ind_lin]
theorem gm_linR (a : E) : Lin fun b => gm a b := by
  intro x y
  show gm a (x ^^^ y) = gm a x ^^^ gm a y
  rw [gm_comm a, gm_comm a, gm_comm a]; exact gm_linL a x y
theorem gm_mulx (a b : E) : gm (mulx a) b = mulx (gm a b) := by
  unfold gm
  rw [lin_S mulx_lin]
  apply S_congr; intro i _
  rw [lin_ind mulx_lin, mxn_mulx]
theorem gm_mxn (i : Nat) (a b : E) : gm (mxn i a) b = mxn i (gm a b) := by
  induction i with
  | zero => rfl
  | succ i ih => show gm (mulx (mxn i a)) b = mulx (mxn i (gm a b)); rw [gm_mulx, ih]
theorem gm_one (a : E) : gm 1#128 a = a := (expand a).symm
theorem gm_one' (a : E) : gm a 1#128 = a := by rw [gm_comm, gm_one]
theorem gm_zero (a : E) : gm a 0#128 = 0#128 := lin_zero (gm_linR a)
theorem gm_zero' (a : E) : gm 0#128 a = 0#128 := lin_zero (gm_linL a)
theorem gm_assoc (a b c : E) : gm (gm a b) c = gm a (gm b c) := by
  rw [show gm b c = S 128 fun i => ind (c.getLsbD i) (mxn i b) from rfl, lin_S (gm_linR a)]
  show (S 128 fun i => ind (c.getLsbD i) (mxn i (gm a b))) = _
  apply S_congr; intro i _
  rw [lin_ind (gm_linR a)]
  show _ = ind _ (gm a (mxn i b))
  rw [gm_comm a (mxn i b), gm_mxn, gm_comm b a]

def hor (a b : E) : Nat → E
  | 0 => 0#128
  | n + 1 => mulx (hor a b n) ^^^ ind (b.getLsbD (127 - n)) a
theorem hor_eq (a b : E) (n : Nat) (h : n ≤ 128) : hor a b n = S n fun i => ind (b.getLsbD (128 - n + i)) (mxn i a) := by
  induction n with
  | zero => rfl
  | succ n ih =>
    show mulx (hor a b n) ^^^ _ = _
    rw [ih (by omega), lin_S mulx_lin]
    have : ∀ (m : Nat) (f : Nat → E), S (m + 1) f = (S m fun i => f (i + 1)) ^^^ f 0 := by
      intro m f
      induction m with
      | zero => rfl
      | succ m ih => show S (m + 1) f ^^^ f (m + 1) = ((S m fun i => f (i + 1)) ^^^ f (m + 1)) ^^^ f 0; rw [ih]; ac_rfl
    rw [this]
    congr 1
    · apply S_congr; intro i _
      rw [lin_ind mulx_lin]
      rw [show 128 - (n + 1) + (i + 1) = 128 - n + i by omega]; rfl
    · rw [show 128 - (n + 1) + 0 = 127 - n by omega]; rfl
theorem gm_hor (a b : E) : gm a b = hor a b 128 := by
  rw [hor_eq a b 128 (Nat.le_refl _)]
  unfold gm
  apply S_congr; intro i _
  rw [show 128 - 128 + i = i by omega]
end Go.Sym.Gf
