/-
  GcmBack: what is sealed is opened as it was, and has sixteen bytes more; with one bit of it turned it is not opened; what is opened is sealed to what was.
-/
import Derived.Test.YtegmincienhapaaGc12
import Derived.Test.YtegmincienhapaaGcD
import Derived.Test.YtegmincienhapaaOpn
set_option linter.unusedVariables false
set_option linter.unusedSimpArgs false
set_option maxRecDepth 1000000
namespace Go.Proofs.Gc
open Go Go.Sym Go.Sym.Gf Go.Proofs.Ae
theorem idx {M : Nat} (h0 : 1 ≤ M) (h1 : M ≤ 10000) (i : Int) : ∃ q : Nat, q < M ∧ (IntKind.i64.wrap (i.tmod ((M : Nat) : Int) + ((M : Nat) : Int))).tmod ((M : Nat) : Int) = (q : Int) := by
  have a := Int.tmod_lt_of_pos i (show (0 : Int) < ((M : Nat) : Int) by omega)
  have b := Int.lt_tmod_of_pos i (show (0 : Int) < ((M : Nat) : Int) by omega)
  generalize i.tmod ((M : Nat) : Int) = t at a b
  have e := Int.tmod_eq_emod_of_nonneg (a := t + ((M : Nat) : Int)) (b := ((M : Nat) : Int)) (by omega)
  have c := Int.emod_nonneg (t + ((M : Nat) : Int)) (show ((M : Nat) : Int) ≠ 0 by omega)
  have d := Int.emod_lt_of_pos (t + ((M : Nat) : Int)) (show (0 : Int) < ((M : Nat) : Int) by omega)
  rw [wi (by omega) (by omega), e]
  exact ⟨((t + ((M : Nat) : Int)) % ((M : Nat) : Int)).toNat, by omega, by omega⟩
def bitU (q : Nat) : UInt8 := UInt8.ofNat (2 ^ q)
theorem bitU_nat {q : Nat} (h : q < 8) : IntKind.u8.wrap (1 * 2 ^ min q IntKind.u8.bits) = ((bitU q).toNat : Int) := by
  match q, h with
  | 0, _ => rfl
  | 1, _ => rfl
  | 2, _ => rfl
  | 3, _ => rfl
  | 4, _ => rfl
  | 5, _ => rfl
  | 6, _ => rfl
  | 7, _ => rfl
theorem bitU_ne {q : Nat} (h : q < 8) : bitU q ≠ 0 :=
  match q, h with
  | 0, _ => by decide
  | 1, _ => by decide
  | 2, _ => by decide
  | 3, _ => by decide
  | 4, _ => by decide
  | 5, _ => by decide
  | 6, _ => by decide
  | 7, _ => by decide
theorem xor_odd {c y : UInt8} (h : y ≠ 0) : c ^^^ y ≠ c := by
  intro e
  apply h
  have : c ^^^ (c ^^^ y) = c ^^^ c := by rw [e]
  rw [xself, UInt8.xor_self] at this
  exact this
theorem tail12 {k : Nat} {s n a b : List UInt8} (hm : may s n = true) (ha : a.length ≤ 80) (hb : b.length ≤ 90) (hk : 7000 ≤ k) :
    ((F39 (k + 5) s n a b).bind fun (s14, i6) => (bif !decide (i6 = 0) then (some (decide (s14 = []))) else ((F33 (k + 5) s n a s14).bind fun (s15, i7) => (bif decide (i7 = 0) then (some (decide (s15 = b))) else (some (false)))))) = some true := by
  obtain ⟨hs, hn⟩ := may_iff.1 hm
  by_cases h16 : 16 ≤ b.length
  · rw [g39 hm ha h16 hb (by omega), Option.bind_some]
    cases ho : openS s n a b with
    | none => rfl
    | some u =>
      have hl := open_length hs hn h16 ho
      show (bif !decide ((0 : Int) = 0) then _ else ((F33 (k + 5) s n a u).bind _)) = _
      rw [cNT rfl, g33 hm ha (by omega) (by omega), Option.bind_some]
      show (bif decide ((0 : Int) = 0) then some (decide (sealS s n a u = b)) else _) = _
      rw [cT rfl, dec_t (seal_open hs hn ho)]
  · rw [g39n (by omega) (fun h => h16 h.2.2.1), Option.bind_some]; rfl
theorem law_gcmBack {k : Nat} {i : Int} (s n a t b : List UInt8) (hk : 7000 ≤ k) : F12 k s n a t b i = some true := by
  unfold F12
  have t90 : List.take (if (90 : Int) < (b.length : Int) then (90 : Int) else (b.length : Int)).toNat b = b.take 90 := take_if 90 b
  rw [g32, Option.bind_some, g32, Option.bind_some, g32, Option.bind_some, g32, Option.bind_some, gp (by omega), t90]
  have ha : (a.take 70).length ≤ 70 := by rw [List.length_take]; omega
  have ht : (t.take 70).length ≤ 70 := by rw [List.length_take]; omega
  have hb : (b.take 90).length ≤ 90 := by rw [List.length_take]; omega
  generalize s.take 70 = s
  generalize n.take 70 = n
  generalize a.take 70 = a at ha
  generalize t.take 70 = t at ht
  generalize b.take 90 = b at hb
  by_cases hm : may s n = true
  · obtain ⟨hs, hn⟩ := may_iff.1 hm
    have hl := seal_length (a := a) (t := t) hs hn
    have ho := open_seal (a := a) (t := t) hs hn
    have htl := tail12 (b := b) hm (show a.length ≤ 80 by omega) hb hk
    rw [g33 hm (by omega) (by omega) (by omega), Option.bind_some]
    have hodd := fun (p : Nat) (x : UInt8) (hz : aes s ZERO ≠ ZERO) => open_odd (a := a) (t := t) (p := p) (x := x) hs hn hz
    generalize sealS s n a t = S at hl ho hodd
    show (bif !decide ((0 : Int) = 0) then _ else _) = _
    rw [cNT rfl, g39 hm (by omega) (by omega) (by omega) (by omega), Option.bind_some, ho]
    show (bif !decide ((0 : Int) = 0) then _ else _) = _
    rw [cNT rfl, cNT rfl, wi (n := (t.length : Int) + 16) (by omega) (by omega), cNT (by omega), g35 (by omega), Option.bind_some, Bool.not_true, cond_false]
    obtain ⟨q, hq, hK⟩ := idx (M := 8 * S.length) (by omega) (by omega) i
    rw [wi (n := 8 * (S.length : Int)) (by omega) (by omega), show 8 * (S.length : Int) = ((8 * S.length : Nat) : Int) by omega, hK, show (8 : Int) = ((8 : Nat) : Int) from rfl, td (by omega), tm (by omega), wi (n := (q : Int) / ((8 : Nat) : Int)) (by omega) (by omega),
      show (q : Int) / ((8 : Nat) : Int) = ((q / 8 : Nat) : Int) by omega, show (q : Int) % ((8 : Nat) : Int) = ((q % 8 : Nat) : Int) by omega, Int.toNat_natCast, Int.toNat_natCast]
    have hp : q / 8 < S.length := by omega
    have e1 : ((List.map (fun c : UInt8 => V.int IntKind.u8 (c.toNat : Int)) S)[q / 8]?).bind (dI IntKind.u8) = some ((S[q / 8].toNat : Nat) : Int) := by
      rw [List.getElem?_map, List.getElem?_eq_getElem hp]; exact dI_int _ _
    have e2 : (List.map (fun c : UInt8 => V.int IntKind.u8 (c.toNat : Int)) S).set (q / 8) (V.int IntKind.u8 ((S[q / 8] ^^^ bitU (q % 8)).toNat : Int)) = (S.set (q / 8) (S[q / 8] ^^^ bitU (q % 8))).map ub := by
      rw [show V.int IntKind.u8 ((S[q / 8] ^^^ bitU (q % 8)).toNat : Int) = ub (S[q / 8] ^^^ bitU (q % 8)) from rfl, show (fun c : UInt8 => V.int IntKind.u8 (c.toNat : Int)) = ub from rfl, List.map_set]
    have hz16 : (ZERO).length = 16 := rfl
    have e41 : F41 (k + 53) [0] 16 = some ZERO := g41 (k + 53) (m := 16) (by omega)
    rw [gp (by omega), gp (by unfold maxLen'; omega), gp (by rw [List.length_map]; omega), e1, Option.bind_some, gp (by omega), gp (by rw [List.length_map]; omega), bitU_nat (by omega), Ae.xor_b, e2, e41, Option.bind_some, g42 hs hz16 (by omega), Option.bind_some]
    show guardP _ _ = _
    rw [gp (Ae.all_ub _), Ae.byteOf_ub]
    generalize hx : S[q / 8] ^^^ bitU (q % 8) = x
    have hne : S[q / 8]? ≠ some x := by
      rw [List.getElem?_eq_getElem hp, ← hx]
      intro e
      exact xor_odd (bitU_ne (show q % 8 < 8 by omega)) (Option.some.inj e).symm
    rw [g39 hm (by omega) (by rw [List.length_set]; omega) (by rw [List.length_set]; omega) (by omega), Option.bind_some]
    by_cases hz : aes s ZERO = ZERO
    · cases openS s n a (S.set (q / 8) x) with
      | none =>
        show (bif !decide ((0 : Int) = 0) then _ else (bif !decide (aes s ZERO = ZERO) then _ else _)) = _
        rw [cNT rfl, cNT hz]; exact htl
      | some u =>
        show (bif !decide ((0 : Int) = 0) then _ else (bif !decide (aes s ZERO = ZERO) then _ else _)) = _
        rw [cNT rfl, cNT hz]; exact htl
    · rw [hodd (q / 8) x hz (by omega) hne]
      show (bif !decide ((0 : Int) = 0) then _ else (bif !decide (aes s ZERO = ZERO) then (bif !decide ((5 : Int) = 5) then _ else (bif !decide (([] : List UInt8) = []) then _ else _)) else _)) = _
      rw [cNT rfl, cNF hz, cNT rfl, cNT rfl]; exact htl
  · rw [g33n (fun h => hm h.1), Option.bind_some]
    show (bif !decide ((4 : Int) = 0) then _ else _) = _
    rw [cNF (by decide), g35 (by omega), Option.bind_some, cond_true, dec_t rfl]
theorem ta3' : tagg Try.prog 3 = some false := by kernel_rfl
theorem open3' {k : Nat} {v : V} (h : VArg Try.prog (k + 1) 3 v) : ∃ a, v = V.int .i64 a := by
  unfold VArg at h
  obtain ⟨vs, hv, h⟩ := h
  simp only [VT, Try.underlying3] at h
  obtain ⟨n, h1, hw⟩ := h
  exact ⟨n, hv.trans (by rw [h1]; simp only [Sym.mk, ta3', List.headD_cons])⟩
theorem six {P : Program} {k : Nat} {a b c d e f : TypeId} {xs : List V} (h : VArgs P k [a, b, c, d, e, f] xs) : ∃ x y z w u v, xs = [x, y, z, w, u, v] ∧ VArg P k a x ∧ VArg P k b y ∧ VArg P k c z ∧ VArg P k d w ∧ VArg P k e u ∧ VArg P k f v := by
  match xs, h with
  | [x, y, z, w, u, v], ⟨hx, hy, hz, hw, hu, hv, _⟩ => exact ⟨x, y, z, w, u, v, rfl, hx, hy, hz, hw, hu, hv⟩
end Go.Proofs.Gc
namespace Go.Proofs.Ytegmincienhapaa
open Go.Sym
theorem gcmBack_lifted (os : Os) (started : os.Started) (H : Type) (enc : TypeId × Value → H) :
    ReturnsInHanded {} Try.checked os 12 .any (Rows.gcmBackSpec.pre6 enc Try.prog Try.f12 Rows.gcmBackRow.domain false) (Rows.gcmBackSpec.post enc Try.prog Try.f12 false true false false) := by
  refine returnsInHanded_of_change (C := Try.checked) Try.own started (by kernel_rfl) Try.func12
    (ChangeSpec.witness6 (enc := enc) (C := Try.checked) false ⟨#[], #[.string ByteArray.empty, .string ByteArray.empty, .string ByteArray.empty, .string ByteArray.empty, .string ByteArray.empty, .int .i64 0], []⟩ 8 (by kernel_rfl) (by kernel_rfl) (by kernel_rfl) (by kernel_rfl)) ?_
  intro W base args ds gs before hval hW hcnd _
  refine law_endL (P := Try.prog) (C := Try.cfg) (k := 4) (tb := 4) Try.libOk Try.mixed Try.progOk Try.laidOut (by kernel_rfl) rfl rfl Try.underlying4 ?_ ?_ (fun j t v h1 h2 => ⟨base, hval j t v h1 h2⟩) hW
  · intro ds hds
    match ds, hds with
    | [d, e, f, g, h, i], _ => exact ⟨rfl, rfl, rfl⟩
  · intro xs hxs
    obtain ⟨x, y, z, w, u, v, rfl, hx, hy, hz, hw, hu, hv⟩ := Gc.six (P := Try.prog) (k := 4) (a := 9) (b := 9) (c := 9) (d := 9) (e := 9) (f := 3) hxs
    obtain ⟨a, rfl, _⟩ := Opn.open9 hx
    obtain ⟨b, rfl, _⟩ := Opn.open9 hy
    obtain ⟨c, rfl, _⟩ := Opn.open9 hz
    obtain ⟨d, rfl, _⟩ := Opn.open9 hw
    obtain ⟨e, rfl, _⟩ := Opn.open9 hu
    obtain ⟨i, rfl⟩ := Gc.open3' hv
    exact ⟨_, F12_ok (Gc.law_gcmBack (k := 7000) a b c d e (Nat.le_refl _))⟩

theorem gcmBack_holds : Rows.GcmBackSaid :=
  OpenClaim.holds_of_wide 12 Try.f12 rfl rfl rfl rfl rfl rfl rfl ⟨rfl, rfl, rfl, rfl, rfl⟩ rfl rfl rfl rfl rfl (by kernel_rfl) Try.func12 (by kernel_rfl)
    (of_decide_eq_true (by kernel_rfl)) (by unfold Func.isWrapper; first | (rw [if_pos (by decide +kernel)]; kernel_rfl) | (rw [if_neg (by decide +kernel)]; exact ⟨rfl, rfl⟩))
    (fun os started H enc _ => gcmBack_lifted os started H enc)
end Go.Proofs.Ytegmincienhapaa
