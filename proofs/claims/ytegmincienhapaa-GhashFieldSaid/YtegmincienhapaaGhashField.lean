/-
  GhashField: the product of ghash commutes, associates, is spread over sums, has a one, and has no divisors of nought.
-/
import Derived.Test.YtegmincienhapaaGh6
import Derived.Test.YtegmincienhapaaGfE
import Derived.Test.YtegmincienhapaaGfB
import Derived.Test.YtegmincienhapaaGfO
set_option linter.unusedVariables false
set_option linter.unusedSimpArgs false
set_option maxRecDepth 100000
namespace Go.Proofs
open Go Go.Sym Go.Sym.Gf
/-! ### 26: the sum -/
def fb (c : UInt8) : V := V.int IntKind.u8 (c.toNat : Int)
def zx (s t : List UInt8) (i : Nat) : List UInt8 := (List.range 16).map fun j => bif decide (j < i) then (s[j]?.getD 0) ^^^ (t[j]?.getD 0) else s[j]?.getD 0
theorem zx_len (s t : List UInt8) (i : Nat) : (zx s t i).length = 16 := by simp [zx]
theorem zx_get (s t : List UInt8) (i j : Nat) (hj : j < 16) : (zx s t i)[j]? = some (bif decide (j < i) then (s[j]?.getD 0) ^^^ (t[j]?.getD 0) else s[j]?.getD 0) := by
  unfold zx
  rw [List.getElem?_map, List.getElem?_range hj]; rfl
theorem zx_zero (s t : List UInt8) (hs : s.length = 16) : zx s t 0 = s := by
  apply List.ext_getElem?
  intro j
  by_cases hj : j < 16
  · rw [zx_get _ _ _ _ hj, decide_eq_false (by omega), List.getElem?_eq_getElem (by omega)]; rfl
  · rw [List.getElem?_eq_none (by rw [zx_len]; omega), List.getElem?_eq_none (by omega)]
theorem zx_set (s t : List UInt8) (i : Nat) (hi : i < 16) : (zx s t i).set i ((s[i]?.getD 0) ^^^ (t[i]?.getD 0)) = zx s t (i + 1) := by
  apply List.ext_getElem?
  intro j
  by_cases hj : j < 16
  · rw [zx_get _ _ _ _ hj]
    by_cases e : i = j
    · subst e
      rw [List.getElem?_set_self (by rw [zx_len]; omega), decide_eq_true (by omega)]; rfl
    · rw [List.getElem?_set_ne e, zx_get _ _ _ _ hj]
      congr 2
      exact decide_eq_decide.2 (by omega)
  · rw [List.getElem?_eq_none (by rw [List.length_set, zx_len]; omega), List.getElem?_eq_none (by rw [zx_len]; omega)]
theorem u8_of (a : UInt8) : BitVec.ofInt IntKind.u8.bits (a.toNat : Int) = a.toBitVec := by
  show BitVec.ofInt 8 ((a.toBitVec.toNat : Nat) : Int) = a.toBitVec
  rw [BitVec.ofInt_natCast, BitVec.ofNat_toNat, BitVec.setWidth_eq]
theorem xor_b (a b : UInt8) : IntKind.u8.wrap (↑(BitVec.ofInt IntKind.u8.bits (a.toNat : Int) ^^^ BitVec.ofInt IntKind.u8.bits (b.toNat : Int)).toNat : Int) = ((a ^^^ b).toNat : Int) := by
  rw [u8_of, u8_of, wb_mod]
  show (((a ^^^ b).toNat : Int)) % 256 = _
  have := (a ^^^ b).toNat_lt
  omega
theorem l26 (k : Nat) (s t : List UInt8) (hs : s.length = 16) (ht : t.length = 16) (m : Nat) : ∀ f : Nat, m ≤ 16 → m + 1 ≤ f →
    L26_13 k s t f ((16 - m : Nat) : Int) ((zx s t (16 - m)).map fb) = some (.e0 16 ((zx s t 16).map fb)) := by
  have hl : (List.map (fun c : UInt8 => V.int IntKind.u8 (c.toNat : Int)) s).length = 16 := by rw [List.length_map, hs]
  induction m with
  | zero =>
    intro f _ hf
    obtain ⟨f, rfl⟩ : ∃ g, f = g + 1 := ⟨f - 1, by omega⟩
    rw [L26_13, hl, cF (by omega)]; rfl
  | succ m ih =>
    intro f hm hf
    obtain ⟨f, rfl⟩ : ∃ g, f = g + 1 := ⟨f - 1, by omega⟩
    have ih' := ih f (by omega) (by omega)
    generalize hj : 16 - (m + 1) = j at *
    rw [show 16 - m = j + 1 by omega] at ih'
    have e1 : ((zx s t j).map fb)[j]? = some (V.int IntKind.u8 (((s[j]?.getD 0 : UInt8).toNat : Nat) : Int)) := by
      rw [List.getElem?_map, zx_get _ _ _ _ (by omega), decide_eq_false (show ¬(j < j) by omega)]; rfl
    have e2 : satB t ((j : Nat) : Int) = some (t[j]?.getD 0) := by
      unfold satB; rw [if_pos (Int.natCast_nonneg _), Int.toNat_natCast, List.getElem?_eq_getElem (by omega)]; rfl
    rw [L26_13, hl, cT (by omega), gp (by rw [List.length_map, zx_len]; omega), Int.toNat_natCast, e1, Option.bind_some, dI_int, Option.bind_some, e2, Option.bind_some, gp (by rw [List.length_map, zx_len]; omega), xor_b]
    rw [show V.int IntKind.u8 (((s[j]?.getD 0 ^^^ t[j]?.getD 0 : UInt8).toNat : Nat) : Int) = fb (s[j]?.getD 0 ^^^ t[j]?.getD 0) from rfl, ← List.map_set, zx_set _ _ _ (by omega), wi (by omega) (by omega), show ((j : Nat) : Int) + 1 = ((j + 1 : Nat) : Int) by omega]
    exact ih'
theorem all_fb (l : List UInt8) : (l.map fb).all isByte = true := by
  rw [List.all_eq_true]; intro x hx
  obtain ⟨c, _, rfl⟩ := List.mem_map.1 hx
  rfl
theorem byteOf_fb (l : List UInt8) : (l.map fb).map Sym.byteOf = l := by
  rw [List.map_map]
  conv => rhs; rw [← List.map_id l]
  apply List.map_congr_left
  intro c _
  show UInt8.ofNat ((c.toNat : Int)).toNat = c
  rw [Int.toNat_natCast]; exact UInt8.ofNat_toNat
theorem g26 {k : Nat} (s t : List UInt8) (hs : s.length = 16) (ht : t.length = 16) (hk : 20 ≤ k) : ∃ r, F26 k s t = some r ∧ r.length = 16 ∧ el r = el s ^^^ el t := by
  refine ⟨zx s t 16, ?_, zx_len _ _ _, ext fun i hi => ?_⟩
  · have e := l26 k s t hs ht 16 (k + 2) (Nat.le_refl _) (by omega)
    rw [show 16 - 16 = 0 from rfl, zx_zero s t hs] at e
    have e' : L26_13 k s t (k + 2) 0 (List.map (fun c : UInt8 => V.int IntKind.u8 (c.toNat : Int)) s) = _ := e
    unfold F26
    rw [gp (by unfold maxLen'; omega), e', Option.bind_some]
    show guardP _ _ = _
    rw [gp (all_fb _), byteOf_fb]
  · rw [BitVec.getLsbD_xor, el_bit _ hi, el_bit _ hi, el_bit _ hi]
    unfold cof
    rw [zx_get _ _ _ _ (by omega), decide_eq_true (by omega)]
    show ((s[i / 8]?.getD 0) ^^^ (t[i / 8]?.getD 0)).toNat.testBit _ = _
    rw [UInt8.toNat_xor, Nat.testBit_xor]
def ZERO : List UInt8 := [0, 0, 0, 0, 0, 0, 0, 0, 0, 0, 0, 0, 0, 0, 0, 0]
theorem el_zero : el ZERO = 0#128 := by kernel_rfl
theorem zero_iff {s : List UInt8} (h : s.length = 16) : s = ZERO ↔ el s = 0#128 :=
  ⟨fun e => by rw [e, el_zero], fun e => el_inj h rfl (e.trans el_zero.symm)⟩
theorem law_ghashField {k : Nat} (a b c : List UInt8) (hk : 300 ≤ k) : F6 k a b c = some true := by
  unfold F6
  have g15 : ∀ {x : Option Bool}, guardP ((0 : Int) ≤ (if (15 : Int) < (a.length : Int) then (15 : Int) else (a.length : Int)) ∧ (if (15 : Int) < (a.length : Int) then (15 : Int) else (a.length : Int)) ≤ (a.length : Int)) x = x := by
    intro x; exact gp (by omega)
  have t15 := take_if 15 a
  have n15 : (a.take 15).length ≠ 16 := by rw [List.length_take]; omega
  by_cases ha : a.length = 16
  · rw [cNT (show (a.length : Int) = 16 by omega)]
    by_cases hb : b.length = 16
    · rw [cNT (show (b.length : Int) = 16 by omega)]
      by_cases hc : c.length = 16
      · rw [cNT (show (c.length : Int) = 16 by omega)]
        obtain ⟨s3, e3, l3, p3⟩ := g23 (k := k + 5) a b ha hb (by omega)
        obtain ⟨s4, e4, l4, p4⟩ := g23 (k := k + 5) b a hb ha (by omega)
        obtain ⟨s5, e5, l5, p5⟩ := g23 (k := k + 5) a c ha hc (by omega)
        obtain ⟨s6, e6, l6, p6⟩ := g23 (k := k + 5) s3 c l3 hc (by omega)
        obtain ⟨s7, e7, l7, p7⟩ := g23 (k := k + 5) b c hb hc (by omega)
        obtain ⟨s8, e8, l8, p8⟩ := g23 (k := k + 5) a s7 ha l7 (by omega)
        obtain ⟨s9, e9, l9, p9⟩ := g26 (k := k + 20) b c hb hc (by omega)
        obtain ⟨s10, e10, l10, p10⟩ := g23 (k := k + 5) a s9 ha l9 (by omega)
        obtain ⟨s11, e11, l11, p11⟩ := g23 (k := k + 5) a ONE ha rfl (by omega)
        obtain ⟨s12, e12, l12, p12⟩ := g26 (k := k + 20) s3 s5 l3 l5 (by omega)
        have h1 : s3 = s4 := el_inj l3 l4 (by rw [p3, p4, gm_comm])
        have h2 : s6 = s8 := el_inj l6 l8 (by rw [p6, p8, p3, p7, gm_assoc])
        have h3 : s10 = s12 := el_inj l10 l12 (by rw [p10, p12, p9, p3, p5]; exact gm_linR _ _ _)
        have h4 : s11 = a := el_inj l11 ha (by rw [p11, el_one, gm_one'])
        have h5 : ∀ x : Bool, (bif decide (a = ZERO) then some (decide (decide (s3 = ZERO) = true)) else some (decide (decide (s3 = ZERO) = decide (b = ZERO)))) = some true := by
          intro _
          by_cases hz : a = ZERO
          · rw [cT hz, dec_t (dec_t ((zero_iff l3).2 (by rw [p3, (zero_iff ha).1 hz, gm_zero'])))]
          · rw [cF hz]
            congr 1
            apply dec_t
            apply decide_eq_decide.2
            rw [zero_iff l3, zero_iff hb, p3]
            exact ⟨fun h => no_div (fun h0 => hz ((zero_iff ha).2 h0)) h, fun h => by rw [h, gm_zero]⟩
        rw [e3, Option.bind_some]
        show ((F23 (k + 5) b a).bind _) = _
        rw [e4, Option.bind_some]
        show ((F23 (k + 5) a c).bind _) = _
        rw [e5, Option.bind_some]
        show ((F23 (k + 5) s3 c).bind _) = _
        rw [e6, Option.bind_some]
        show ((F23 (k + 5) b c).bind _) = _
        rw [e7, Option.bind_some]
        show ((F23 (k + 5) a s7).bind _) = _
        rw [e8, Option.bind_some]
        show (bif !decide ((0 : Int) = 0) then _ else _) = _
        rw [cNT rfl, cNT rfl, cNT rfl, cNT rfl, cNT rfl, cNT rfl, cNT (by omega), cNT (by omega), e9, Option.bind_some, e10, Option.bind_some]
        show ((F23 (k + 5) a ONE).bind _) = _
        rw [e11, Option.bind_some]
        show ((F24 (k + 2)).bind _) = _
        rw [g24 (by omega), Option.bind_some, cond_true, cT rfl, cT rfl, cT h1, cT h2, e12, Option.bind_some, cT h3, cT h4]
        exact h5 true
      · rw [cNF (show ¬(c.length : Int) = 16 by omega), g15]
        refine (congrArg (fun l => (F23 (k + 5) l b).bind _) t15).trans ?_
        simp only
        rw [g23a _ _ _ n15, Option.bind_some]
        show ((F24 (k + 2)).bind _) = _
        rw [g24 (by omega), Option.bind_some, cond_true, dec_t rfl]
    · rw [cNF (show ¬(b.length : Int) = 16 by omega), g15]
      refine (congrArg (fun l => (F23 (k + 5) l b).bind _) t15).trans ?_
      simp only
      rw [g23a _ _ _ n15, Option.bind_some]
      show ((F24 (k + 2)).bind _) = _
      rw [g24 (by omega), Option.bind_some, cond_true, dec_t rfl]
  · rw [cNF (show ¬(a.length : Int) = 16 by omega), g15]
    refine (congrArg (fun l => (F23 (k + 5) l b).bind _) t15).trans ?_
    simp only
    rw [g23a _ _ _ n15, Option.bind_some]
    show ((F24 (k + 2)).bind _) = _
    rw [g24 (by omega), Option.bind_some, cond_true, dec_t rfl]
end Go.Proofs
namespace Go.Proofs.Ytegmincienhapaa
open Go.Sym
theorem ghashField_lifted (os : Os) (started : os.Started) (H : Type) (enc : TypeId × Value → H) :
    ReturnsInHanded {} Try.checked os 6 .any (Rows.ghashFieldSpec.pre6 enc Try.prog Try.f6 Rows.ghashFieldRow.domain false) (Rows.ghashFieldSpec.post enc Try.prog Try.f6 false true false false) := by
  refine returnsInHanded_of_change (C := Try.checked) Try.own started (by kernel_rfl) Try.func6
    (ChangeSpec.witness6 (enc := enc) (C := Try.checked) false ⟨#[], #[.string ByteArray.empty, .string ByteArray.empty, .string ByteArray.empty], []⟩ 8 (by kernel_rfl) (by kernel_rfl) (by kernel_rfl) (by kernel_rfl)) ?_
  intro W base args ds gs before hval hW hcnd _
  refine law_end (P := Try.prog) (C := Try.cfg) (k := 4) (tb := 4) Try.mixed Try.progOk Try.laidOut (by kernel_rfl) rfl rfl Try.underlying4 ?_ ?_ (fun j t v h1 h2 => ⟨base, hval j t v h1 h2⟩) hW
  · intro ds hds
    match ds, hds with
    | [d, e, f], _ => exact ⟨rfl, rfl, rfl⟩
  · intro xs hxs
    obtain ⟨x, y, z, rfl, hx, hy, hz⟩ := VArgs3 (P := Try.prog) (k := 4) (a := 9) (b := 9) (c := 9) hxs
    obtain ⟨s, rfl⟩ := open9 hx
    obtain ⟨t, rfl⟩ := open9 hy
    obtain ⟨u, rfl⟩ := open9 hz
    exact ⟨_, F6_ok (law_ghashField (k := 300) s t u (Nat.le_refl _))⟩

theorem ghashField_holds : Rows.GhashFieldSaid :=
  OpenClaim.holds_of_wide 6 Try.f6 rfl rfl rfl rfl rfl rfl rfl ⟨rfl, rfl, rfl, rfl, rfl⟩ rfl rfl rfl rfl rfl (by kernel_rfl) Try.func6 (by kernel_rfl)
    (of_decide_eq_true (by kernel_rfl)) (by unfold Func.isWrapper; first | (rw [if_pos (by decide +kernel)]; kernel_rfl) | (rw [if_neg (by decide +kernel)]; exact ⟨rfl, rfl⟩))
    (fun os started H enc _ => ghashField_lifted os started H enc)
end Go.Proofs.Ytegmincienhapaa
