/-
  GhashApart: texts that are not the same have not the same blocks; there is one more than the texts fill; by the block nought every sum is nought.
-/
import Derived.Test.YtegmincienhapaaGh8
import Derived.Test.YtegmincienhapaaGfG
import Derived.Test.YtegmincienhapaaOpn
set_option linter.unusedVariables false
set_option linter.unusedSimpArgs false
set_option maxRecDepth 100000
namespace Go.Proofs
open Go Go.Sym Go.Sym.Gf
theorem by54_inj {v w : Wd} (h : by54 v = by54 w) : v = w := by
  apply BitVec.eq_of_getLsbD_eq
  intro i hi
  have e1 := cof54 v (63 - i) (by omega)
  have e2 := cof54 w (63 - i) (by omega)
  rw [h, e2, show 63 - (63 - i) = i by omega] at e1
  exact e1.symm
theorem lw8_inj {a b : List UInt8} (ha : a.length ≤ 80) (hb : b.length ≤ 80) (h : lw8 a = lw8 b) : a.length = b.length := by
  have := congrArg BitVec.toNat h
  unfold lw8 at this
  rw [BitVec.toNat_ofNat, BitVec.toNat_ofNat, Nat.mod_eq_of_lt (by omega), Nat.mod_eq_of_lt (by omega)] at this
  omega
theorem blks_flat (s : List UInt8) : ∀ j, (blks s j).flatten = (pad s).take (16 * j) := by
  intro j
  induction j with
  | zero => rfl
  | succ j ih =>
    rw [blks_succ, List.flatten_append, ih, show 16 * (j + 1) = 16 * j + 16 by omega, List.take_add]
    simp [blk]
theorem bks_inj {a b : List UInt8} (hl : a.length = b.length) (h : bks a = bks b) : a = b := by
  have h1 := blks_flat a (nb a)
  have h2 := blks_flat b (nb b)
  have e : (pad a).take (16 * nb a) = (pad b).take (16 * nb b) := by rw [← h1, ← h2]; exact congrArg List.flatten h
  rw [← pad_length, ← pad_length, List.take_length, List.take_length] at e
  have e2 := congrArg (List.take a.length) e
  unfold pad at e2
  rw [List.take_left, hl, List.take_left] at e2
  exact e2
theorem BL_inj {a b c d : List UInt8} (ha : a.length ≤ 80) (hb : b.length ≤ 80) (hc : c.length ≤ 80) (hd : d.length ≤ 80) : BL a b = BL c d ↔ a = c ∧ b = d := by
  constructor
  · intro h
    unfold BL at h
    obtain ⟨h1, h2⟩ := List.append_inj' h rfl
    have h3 : lst a b = lst c d := List.singleton_inj.1 h2
    unfold lst at h3
    obtain ⟨h4, h5⟩ := List.append_inj h3 rfl
    have la := lw8_inj ha hc (by54_inj h4)
    have lb := lw8_inj hb hd (by54_inj h5)
    obtain ⟨h6, h7⟩ := List.append_inj h1 (by rw [bks_length, bks_length]; unfold nb; omega)
    exact ⟨bks_inj la h6, bks_inj lb h7⟩
  · rintro ⟨rfl, rfl⟩; rfl
theorem sum_zero (l : List (List UInt8)) : ∀ e, e = 0#128 → sumE 0#128 e l = 0#128 := by
  induction l with
  | nil => intro e h; exact h
  | cons b r ih => intro e _; exact ih _ (gm_zero _)
theorem law_ghashApart {k : Nat} (a b c d : List UInt8) (hk : 300 ≤ k) : F8 k a b c d = some true := by
  unfold F8
  rw [g22, Option.bind_some, g22, Option.bind_some, g22, Option.bind_some, g22, Option.bind_some]
  have ha : (a.take 80).length ≤ 80 := by rw [List.length_take]; omega
  have hb : (b.take 80).length ≤ 80 := by rw [List.length_take]; omega
  have hc : (c.take 80).length ≤ 80 := by rw [List.length_take]; omega
  have hd : (d.take 80).length ≤ 80 := by rw [List.length_take]; omega
  generalize a.take 80 = s at ha
  generalize b.take 80 = t at hb
  generalize c.take 80 = u at hc
  generalize d.take 80 = v at hd
  obtain ⟨r, e, lr, p⟩ := g27 (k := k + 5) (h := ZERO) rfl ha hb (by omega)
  have hz : r = ZERO := (zero_iff lr).2 (by rw [p, el_zero]; exact sum_zero _ _ rfl)
  subst hz
  have e' : F27 (k + 5) [0, 0, 0, 0, 0, 0, 0, 0, 0, 0, 0, 0, 0, 0, 0, 0] s t = some (ZERO, 0) := e
  rw [g29 ha hb, Option.bind_some]
  simp only
  rw [g29 hc hd, Option.bind_some]
  simp only
  rw [e', Option.bind_some]
  simp only
  rw [g24 (by omega), Option.bind_some, cond_true, g28 (by have := BL_small ha hb; omega) (by omega), Option.bind_some]
  have hcount : (((BL s t).map V.str).length : Int) = IntKind.i64.wrap (IntKind.i64.wrap (IntKind.i64.wrap ((IntKind.i64.wrap ((s.length : Int) + 15)).tdiv 16) + IntKind.i64.wrap ((IntKind.i64.wrap ((t.length : Int) + 15)).tdiv 16)) + 1) := by
    rw [List.length_map, BL_length, wi (n := (s.length : Int) + 15) (by omega) (by omega), wi (n := (t.length : Int) + 15) (by omega) (by omega), show (16 : Int) = ((16 : Nat) : Int) from rfl, td (by omega), td (by omega),
      wi (n := ((s.length : Int) + 15) / ((16 : Nat) : Int)) (by omega) (by omega), wi (n := ((t.length : Int) + 15) / ((16 : Nat) : Int)) (by omega) (by omega), wi (n := ((s.length : Int) + 15) / ((16 : Nat) : Int) + ((t.length : Int) + 15) / ((16 : Nat) : Int)) (by omega) (by omega), wi (by omega) (by omega)]
    unfold nb; omega
  rw [dec_t hcount, cond_true, cT trivial]
  have hz : (some (decide (ZERO = [0, 0, 0, 0, 0, 0, 0, 0, 0, 0, 0, 0, 0, 0, 0, 0])) : Option Bool) = some true := rfl
  by_cases h1 : s = u
  · have : decide (BL s t = BL u v) = decide (t = v) := decide_eq_decide.2 ((BL_inj ha hb hc hd).trans ⟨fun h => h.2, fun h => ⟨h1, h⟩⟩)
    rw [dec_t h1, cond_true, dec_t this, cond_true, hz]
  · have : decide (BL s t = BL u v) = false := dec_f fun h => h1 ((BL_inj ha hb hc hd).1 h).1
    rw [dec_f h1, cond_false, dec_t this, cond_true, hz]
end Go.Proofs
namespace Go.Proofs.Ytegmincienhapaa
open Go.Sym
theorem ghashApart_lifted (os : Os) (started : os.Started) (H : Type) (enc : TypeId × Value → H) :
    ReturnsInHanded {} Try.checked os 8 .any (Rows.ghashApartSpec.pre6 enc Try.prog Try.f8 Rows.ghashApartRow.domain false) (Rows.ghashApartSpec.post enc Try.prog Try.f8 false true false false) := by
  refine returnsInHanded_of_change (C := Try.checked) Try.own started (by kernel_rfl) Try.func8
    (ChangeSpec.witness6 (enc := enc) (C := Try.checked) false ⟨#[], #[.string ByteArray.empty, .string ByteArray.empty, .string ByteArray.empty, .string ByteArray.empty], []⟩ 8 (by kernel_rfl) (by kernel_rfl) (by kernel_rfl) (by kernel_rfl)) ?_
  intro W base args ds gs before hval hW hcnd _
  refine law_endL (P := Try.prog) (C := Try.cfg) (k := 4) (tb := 4) Try.libOk Try.mixed Try.progOk Try.laidOut (by kernel_rfl) rfl rfl Try.underlying4 ?_ ?_ (fun j t v h1 h2 => ⟨base, hval j t v h1 h2⟩) hW
  · intro ds hds
    match ds, hds with
    | [d, e, f, g], _ => exact ⟨rfl, rfl, rfl⟩
  · intro xs hxs
    obtain ⟨x, y, z, w, rfl, hx, hy, hz, hw⟩ := Opn.four (P := Try.prog) (k := 4) (a := 9) (b := 9) (c := 9) (d := 9) hxs
    obtain ⟨a, rfl, _⟩ := Opn.open9 hx
    obtain ⟨b, rfl, _⟩ := Opn.open9 hy
    obtain ⟨c, rfl, _⟩ := Opn.open9 hz
    obtain ⟨d, rfl, _⟩ := Opn.open9 hw
    exact ⟨_, F8_ok (law_ghashApart (k := 300) a b c d (Nat.le_refl _))⟩

theorem ghashApart_holds : Rows.GhashApartSaid :=
  OpenClaim.holds_of_wide 8 Try.f8 rfl rfl rfl rfl rfl rfl rfl ⟨rfl, rfl, rfl, rfl, rfl⟩ rfl rfl rfl rfl rfl (by kernel_rfl) Try.func8 (by kernel_rfl)
    (of_decide_eq_true (by kernel_rfl)) (by unfold Func.isWrapper; first | (rw [if_pos (by decide +kernel)]; kernel_rfl) | (rw [if_neg (by decide +kernel)]; exact ⟨rfl, rfl⟩))
    (fun os started H enc _ => ghashApart_lifted os started H enc)
end Go.Proofs.Ytegmincienhapaa
