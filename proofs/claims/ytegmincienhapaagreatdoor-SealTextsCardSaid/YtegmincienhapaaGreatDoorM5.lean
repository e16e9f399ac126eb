/-
  Lemmas on the machine of plain values and on what functions of this program answer, part 5.
-/
import Derived.Test.YtegmincienhapaaGreatDoorM4
set_option linter.unusedVariables false
set_option linter.unusedSimpArgs false
set_option maxRecDepth 1000000
namespace Go.Proofs.Ae
open Go Go.Sym Go.Proofs.Fl
def sbU (c : UInt8) : UInt8 := UInt8.ofNat (sb c.toNat)
def xtU (c : UInt8) : UInt8 := UInt8.ofNat (xt c.toNat)
theorem sbU_nat (c : UInt8) : ((sbU c).toNat : Int) = ((sb c.toNat : Nat) : Int) := by
  unfold sbU; rw [UInt8.toNat_ofNat', Nat.mod_eq_of_lt (sb_lt c.toNat_lt)]
theorem xtU_nat (c : UInt8) : ((xtU c).toNat : Int) = ((xt c.toNat : Nat) : Int) := by
  unfold xtU; rw [UInt8.toNat_ofNat', Nat.mod_eq_of_lt (xt_lt c.toNat_lt)]
theorem u8_of (a : UInt8) : BitVec.ofInt IntKind.u8.bits (a.toNat : Int) = a.toBitVec := by
  show BitVec.ofInt 8 ((a.toBitVec.toNat : Nat) : Int) = a.toBitVec
  rw [BitVec.ofInt_natCast, BitVec.ofNat_toNat, BitVec.setWidth_eq]
theorem xor_b (a b : UInt8) : IntKind.u8.wrap (↑(BitVec.ofInt IntKind.u8.bits (a.toNat : Int) ^^^ BitVec.ofInt IntKind.u8.bits (b.toNat : Int)).toNat : Int) = ((a ^^^ b).toNat : Int) := by
  rw [u8_of, u8_of, wb_mod]
  show (((a ^^^ b).toNat : Int)) % 256 = _
  have := (a ^^^ b).toNat_lt
  omega
theorem u94 {k : Nat} (c : UInt8) (hk : 20 ≤ k) : F87 k (c.toNat : Int) = some ((sbU c).toNat : Int) := by rw [g87 c.toNat_lt hk, sbU_nat]
theorem u100 {k : Nat} (c : UInt8) (hk : 300 ≤ k) : F103 k (c.toNat : Int) = some ((sbU c).toNat : Int) := by rw [g103 c.toNat_lt hk, sbU_nat]
theorem u96 {k : Nat} (c : UInt8) (hk : 20 ≤ k) : F89 k (c.toNat : Int) 2 = some ((xtU c).toNat : Int) := by rw [g89 c.toNat_lt hk, xtU_nat]
theorem u101a {k : Nat} (c : UInt8) (hk : 20 ≤ k) : F104 k (c.toNat : Int) 1 = some (c.toNat : Int) := g104a c.toNat_lt hk
theorem u101b {k : Nat} (c : UInt8) (hk : 20 ≤ k) : F104 k (c.toNat : Int) 2 = some ((xtU c).toNat : Int) := by rw [g104b c.toNat_lt hk, xtU_nat]
theorem u101c {k : Nat} (c : UInt8) (hk : 20 ≤ k) : F104 k (c.toNat : Int) 3 = some ((xtU c ^^^ c).toNat : Int) := by
  rw [g104c c.toNat_lt hk, UInt8.toNat_xor]; unfold xtU; rw [UInt8.toNat_ofNat', Nat.mod_eq_of_lt (xt_lt c.toNat_lt)]
def ub (c : UInt8) : V := V.int .u8 (c.toNat : Int)
theorem all_ub (l : List UInt8) : (l.map ub).all isByte = true := by simp [ub, isByte]
theorem byteOf_ub (l : List UInt8) : (l.map ub).map Sym.byteOf = l := by
  induction l with
  | nil => rfl
  | cons c r ih => simp only [List.map_cons, ih, ub, Sym.byteOf, Int.toNat_natCast, UInt8.ofNat_toNat]
theorem g102 {k : Nat} {o : Option Bool} {b : Bool} (l : List UInt8) : F102 k o b 1 (l.map ub) = some l := by
  unfold F102
  rw [gp (.inl rfl), gp (all_ub l), byteOf_ub]
def boxL (s : List UInt8) : List UInt8 := s.map sbU
def turnL : List UInt8 → List UInt8
  | [c0, c1, c2, c3, c4, c5, c6, c7, c8, c9, c10, c11, c12, c13, c14, c15] => [c0, c5, c10, c15, c4, c9, c14, c3, c8, c13, c2, c7, c12, c1, c6, c11]
  | l => l
def m0 (a b c d : UInt8) : UInt8 := xtU a ^^^ (xtU b ^^^ b) ^^^ c ^^^ d
def mixL : List UInt8 → List UInt8
  | [c0, c1, c2, c3, c4, c5, c6, c7, c8, c9, c10, c11, c12, c13, c14, c15] =>
    [m0 c0 c1 c2 c3, m0 c1 c2 c3 c0, m0 c2 c3 c0 c1, m0 c3 c0 c1 c2, m0 c4 c5 c6 c7, m0 c5 c6 c7 c4, m0 c6 c7 c4 c5, m0 c7 c4 c5 c6,
     m0 c8 c9 c10 c11, m0 c9 c10 c11 c8, m0 c10 c11 c8 c9, m0 c11 c8 c9 c10, m0 c12 c13 c14 c15, m0 c13 c14 c15 c12, m0 c14 c15 c12 c13, m0 c15 c12 c13 c14]
  | l => l
def xorL (a b : List UInt8) : List UInt8 := List.zipWith (· ^^^ ·) a b
theorem len16 {s : List UInt8} (h : s.length = 16) : ∃ c0 c1 c2 c3 c4 c5 c6 c7 c8 c9 c10 c11 c12 c13 c14 c15, s = [c0, c1, c2, c3, c4, c5, c6, c7, c8, c9, c10, c11, c12, c13, c14, c15] := by
  match s, h with
  | [c0, c1, c2, c3, c4, c5, c6, c7, c8, c9, c10, c11, c12, c13, c14, c15], _ => exact ⟨_, _, _, _, _, _, _, _, _, _, _, _, _, _, _, _, rfl⟩
theorem xt_lin_all : allB (fun a => allB (fun b => (xt (a ^^^ b)).beq (xt a ^^^ xt b)) 256) 256 = true := by kernel_rfl
theorem xtU_xor (a b : UInt8) : xtU (a ^^^ b) = xtU a ^^^ xtU b := by
  apply UInt8.toNat_inj.1
  rw [UInt8.toNat_xor]
  unfold xtU
  rw [UInt8.toNat_ofNat', UInt8.toNat_ofNat', UInt8.toNat_ofNat', Nat.mod_eq_of_lt (xt_lt (UInt8.toNat_lt _)), Nat.mod_eq_of_lt (xt_lt a.toNat_lt), Nat.mod_eq_of_lt (xt_lt b.toNat_lt), UInt8.toNat_xor]
  exact Nat.eq_of_beq_eq_true (allB_at (allB_at xt_lin_all a.toNat_lt) b.toNat_lt)
theorem xcomm (a b : UInt8) : a ^^^ b = b ^^^ a := UInt8.xor_comm a b
theorem xassoc (a b c : UInt8) : a ^^^ b ^^^ c = a ^^^ (b ^^^ c) := UInt8.xor_assoc a b c
theorem xself (a b : UInt8) : a ^^^ (a ^^^ b) = b := by rw [← xassoc, UInt8.xor_self, UInt8.zero_xor]
instance : Std.Associative (α := UInt8) (· ^^^ ·) := ⟨xassoc⟩
instance : Std.Commutative (α := UInt8) (· ^^^ ·) := ⟨xcomm⟩
theorem mixP0 (a b c d : UInt8) : a ^^^ ((a ^^^ b ^^^ c ^^^ d) ^^^ xtU (a ^^^ b)) = m0 a b c d := by
  rw [xtU_xor, show a ^^^ ((a ^^^ b ^^^ c ^^^ d) ^^^ (xtU a ^^^ xtU b)) = a ^^^ (a ^^^ (b ^^^ c ^^^ d ^^^ (xtU a ^^^ xtU b))) by ac_rfl, xself]; unfold m0; ac_rfl
theorem mixP1 (a b c d : UInt8) : b ^^^ ((a ^^^ b ^^^ c ^^^ d) ^^^ xtU (b ^^^ c)) = m0 b c d a := by
  rw [← mixP0 b c d a]; congr 2; ac_rfl
theorem mixP2 (a b c d : UInt8) : c ^^^ ((a ^^^ b ^^^ c ^^^ d) ^^^ xtU (c ^^^ d)) = m0 c d a b := by
  rw [← mixP0 c d a b]; congr 2; ac_rfl
theorem mixP3 (a b c d : UInt8) : d ^^^ ((a ^^^ b ^^^ c ^^^ d) ^^^ xtU (d ^^^ a)) = m0 d a b c := by
  rw [← mixP0 d a b c]; congr 2; ac_rfl
theorem g62 {k : Nat} (a0 a1 a2 a3 a4 a5 a6 a7 a8 a9 a10 a11 a12 a13 a14 a15 b0 b1 b2 b3 b4 b5 b6 b7 b8 b9 b10 b11 b12 b13 b14 b15 : UInt8) :
    F62 k a0.toNat a1.toNat a2.toNat a3.toNat a4.toNat a5.toNat a6.toNat a7.toNat a8.toNat a9.toNat a10.toNat a11.toNat a12.toNat a13.toNat a14.toNat a15.toNat [b0, b1, b2, b3, b4, b5, b6, b7, b8, b9, b10, b11, b12, b13, b14, b15] =
      some (((a0 ^^^ b0).toNat : Int), ((a1 ^^^ b1).toNat : Int), ((a2 ^^^ b2).toNat : Int), ((a3 ^^^ b3).toNat : Int), ((a4 ^^^ b4).toNat : Int), ((a5 ^^^ b5).toNat : Int), ((a6 ^^^ b6).toNat : Int), ((a7 ^^^ b7).toNat : Int),
        ((a8 ^^^ b8).toNat : Int), ((a9 ^^^ b9).toNat : Int), ((a10 ^^^ b10).toNat : Int), ((a11 ^^^ b11).toNat : Int), ((a12 ^^^ b12).toNat : Int), ((a13 ^^^ b13).toNat : Int), ((a14 ^^^ b14).toNat : Int), ((a15 ^^^ b15).toNat : Int)) := by
  simp only [← xor_b]
  rfl
theorem g63 {k : Nat} (hk : 20 ≤ k) (a0 a1 a2 a3 a4 a5 a6 a7 a8 a9 a10 a11 a12 a13 a14 a15 : UInt8) :
    F63 k a0.toNat a1.toNat a2.toNat a3.toNat a4.toNat a5.toNat a6.toNat a7.toNat a8.toNat a9.toNat a10.toNat a11.toNat a12.toNat a13.toNat a14.toNat a15.toNat =
      some (((sbU a0).toNat : Int), ((sbU a1).toNat : Int), ((sbU a2).toNat : Int), ((sbU a3).toNat : Int), ((sbU a4).toNat : Int), ((sbU a5).toNat : Int), ((sbU a6).toNat : Int), ((sbU a7).toNat : Int),
        ((sbU a8).toNat : Int), ((sbU a9).toNat : Int), ((sbU a10).toNat : Int), ((sbU a11).toNat : Int), ((sbU a12).toNat : Int), ((sbU a13).toNat : Int), ((sbU a14).toNat : Int), ((sbU a15).toNat : Int)) := by
  unfold F63
  simp only [u94 (k := k + 19) _ (by omega), Option.bind_some]
theorem g65 {k : Nat} (hk : 20 ≤ k) (a0 a1 a2 a3 a4 a5 a6 a7 a8 a9 a10 a11 a12 a13 a14 a15 : UInt8) :
    F65 k a0.toNat a1.toNat a2.toNat a3.toNat a4.toNat a5.toNat a6.toNat a7.toNat a8.toNat a9.toNat a10.toNat a11.toNat a12.toNat a13.toNat a14.toNat a15.toNat =
      some (((m0 a0 a1 a2 a3).toNat : Int), ((m0 a1 a2 a3 a0).toNat : Int), ((m0 a2 a3 a0 a1).toNat : Int), ((m0 a3 a0 a1 a2).toNat : Int), ((m0 a4 a5 a6 a7).toNat : Int), ((m0 a5 a6 a7 a4).toNat : Int), ((m0 a6 a7 a4 a5).toNat : Int), ((m0 a7 a4 a5 a6).toNat : Int),
        ((m0 a8 a9 a10 a11).toNat : Int), ((m0 a9 a10 a11 a8).toNat : Int), ((m0 a10 a11 a8 a9).toNat : Int), ((m0 a11 a8 a9 a10).toNat : Int), ((m0 a12 a13 a14 a15).toNat : Int), ((m0 a13 a14 a15 a12).toNat : Int), ((m0 a14 a15 a12 a13).toNat : Int), ((m0 a15 a12 a13 a14).toNat : Int)) := by
  unfold F65
  simp only [xor_b, u96 (k := k + 19) _ (by omega), Option.bind_some, mixP0, mixP1, mixP2, mixP3]
theorem g78 {k : Nat} {s : List UInt8} (h : s.length = 16) : F78 k s = some (turnL s) := by
  obtain ⟨c0, c1, c2, c3, c4, c5, c6, c7, c8, c9, c10, c11, c12, c13, c14, c15, rfl⟩ := len16 h
  unfold F78
  show ((F102 (k + 7) none false 1 ([c0, c5, c10, c15, c4, c9, c14, c3, c8, c13, c2, c7, c12, c1, c6, c11].map ub)).bind _) = _
  rw [g102]; rfl
theorem g79 {k : Nat} {s : List UInt8} (hl : s.length ≤ 100) (hk : 300 ≤ k) : F79 k s = some (boxL s) := by
  have run : ∀ (c i f : Nat), s.length - i = c → i ≤ s.length → c < f → ∃ z, L79_0 k s f (i : Int) ((boxL (s.take i)).map ub) = some (.e0 z ((boxL s).map ub)) := by
    intro c
    induction c with
    | zero =>
      intro i f hc hi hf
      obtain ⟨f, rfl⟩ : ∃ y, f = y + 1 := ⟨f - 1, by omega⟩
      rw [L79_0, cF (by omega), List.take_of_length_le (by omega)]
      exact ⟨_, rfl⟩
    | succ c ih =>
      intro i f hc hi hf
      obtain ⟨f, rfl⟩ : ∃ y, f = y + 1 := ⟨f - 1, by omega⟩
      have hi' : i < s.length := by omega
      obtain ⟨z, e⟩ := ih (i + 1) f (by omega) (by omega) (by omega)
      refine ⟨z, ?_⟩
      have hs : satB s (i : Int) = some s[i] := by unfold satB; rw [if_pos (Int.natCast_nonneg _), Int.toNat_natCast, List.getElem?_eq_getElem hi']
      rw [L79_0, cT (by omega), hs, Option.bind_some, u100 _ (by omega), Option.bind_some, gp (by rw [List.length_map]; unfold boxL; rw [List.length_map, List.length_take]; unfold maxLen'; omega), wi (n := (i : Int) + 1) (by omega) (by omega), show (i : Int) + 1 = ((i + 1 : Nat) : Int) by omega,
        show (boxL (s.take i)).map ub ++ [V.int IntKind.u8 ((sbU s[i]).toNat : Int)] = (boxL (s.take (i + 1))).map ub by rw [List.take_succ_eq_append_getElem hi']; unfold boxL; rw [List.map_append, List.map_append]; rfl]
      exact e
  unfold F79
  obtain ⟨z, e⟩ := run s.length 0 (k + 14) (by omega) (by omega) (by omega)
  have e' : L79_0 k s (k + 14) 0 [] = _ := e
  rw [e', Option.bind_some]
  simp only
  rw [g102, Option.bind_some]
theorem g77 {k : Nat} {s t : List UInt8} (hs : s.length = t.length) (hl : s.length ≤ 1000) (hk : 1000 ≤ k) : F77 k s t = some (xorL s t) := by
  have hlen : ∀ i, i ≤ s.length → (xorL (s.take i) (t.take i)).length = i := by
    intro i hi; unfold xorL; rw [List.length_zipWith, List.length_take, List.length_take]; omega
  have run : ∀ (c i f : Nat), s.length - i = c → i ≤ s.length → c < f → ∃ z, L77_0 k s t f (i : Int) ((xorL (s.take i) (t.take i)).map ub) = some (.e0 z ((xorL s t).map ub)) := by
    intro c
    induction c with
    | zero =>
      intro i f hc hi hf
      obtain ⟨f, rfl⟩ : ∃ y, f = y + 1 := ⟨f - 1, by omega⟩
      rw [L77_0, cF (by omega), List.take_of_length_le (by omega), List.take_of_length_le (by omega)]
      exact ⟨_, rfl⟩
    | succ c ih =>
      intro i f hc hi hf
      obtain ⟨f, rfl⟩ : ∃ y, f = y + 1 := ⟨f - 1, by omega⟩
      have hi' : i < s.length := by omega
      have hj' : i < t.length := by omega
      obtain ⟨z, e⟩ := ih (i + 1) f (by omega) (by omega) (by omega)
      refine ⟨z, ?_⟩
      have h1 : satB s (i : Int) = some s[i] := by unfold satB; rw [if_pos (Int.natCast_nonneg _), Int.toNat_natCast, List.getElem?_eq_getElem hi']
      have h2 : satB t (i : Int) = some t[i] := by unfold satB; rw [if_pos (Int.natCast_nonneg _), Int.toNat_natCast, List.getElem?_eq_getElem hj']
      rw [L77_0, cT (by omega), h1, Option.bind_some, h2, Option.bind_some, gp (by rw [List.length_map, hlen i hi]; unfold maxLen'; omega), xor_b, wi (n := (i : Int) + 1) (by omega) (by omega), show (i : Int) + 1 = ((i + 1 : Nat) : Int) by omega,
        show (xorL (s.take i) (t.take i)).map ub ++ [V.int IntKind.u8 ((s[i] ^^^ t[i]).toNat : Int)] = (xorL (s.take (i + 1)) (t.take (i + 1))).map ub by
          rw [List.take_succ_eq_append_getElem hi', List.take_succ_eq_append_getElem hj']; unfold xorL; rw [List.zipWith_append (by rw [List.length_take, List.length_take]; omega)]; simp [ub]]
      exact e
  unfold F77
  obtain ⟨z, e⟩ := run s.length 0 (k + 5) (by omega) (by omega) (by omega)
  have e' : L77_0 k s t (k + 5) 0 [] = _ := e
  rw [e', Option.bind_some]
  simp only
  rw [g102, Option.bind_some]
theorem mixR (a b c d : UInt8) : (0 : UInt8) ^^^ xtU a ^^^ (xtU b ^^^ b) ^^^ c ^^^ d = m0 a b c d := by
  rw [UInt8.zero_xor]; rfl
theorem mixR1 (a b c d : UInt8) : (0 : UInt8) ^^^ d ^^^ xtU a ^^^ (xtU b ^^^ b) ^^^ c = m0 a b c d := by
  rw [UInt8.zero_xor]; unfold m0; ac_rfl
theorem mixR2 (a b c d : UInt8) : (0 : UInt8) ^^^ c ^^^ d ^^^ xtU a ^^^ (xtU b ^^^ b) = m0 a b c d := by
  rw [UInt8.zero_xor]; unfold m0; ac_rfl
theorem mixR3 (a b c d : UInt8) : (0 : UInt8) ^^^ (xtU b ^^^ b) ^^^ c ^^^ d ^^^ xtU a = m0 a b c d := by
  rw [UInt8.zero_xor]; unfold m0; ac_rfl
theorem xor_b0 (b : UInt8) : IntKind.u8.wrap (↑(BitVec.ofInt IntKind.u8.bits 0 ^^^ BitVec.ofInt IntKind.u8.bits (b.toNat : Int)).toNat : Int) = (((0 : UInt8) ^^^ b).toNat : Int) := xor_b 0 b
theorem L80i {k : Nat} {i0 i1 : Int} {s : List UInt8} {x : List V} {a b c d z0 z1 z2 z3 : UInt8} {q0 q1 q2 q3 : Int} {f : Nat}
    (h0 : satB s (IntKind.i64.wrap (IntKind.i64.wrap (4 * i0) + 0)) = some a) (h1 : satB s (IntKind.i64.wrap (IntKind.i64.wrap (4 * i0) + 1)) = some b) (h2 : satB s (IntKind.i64.wrap (IntKind.i64.wrap (4 * i0) + 2)) = some c) (h3 : satB s (IntKind.i64.wrap (IntKind.i64.wrap (4 * i0) + 3)) = some d)
    (t0 : F105 (k + 5) i1 0 = some q0) (t1 : F105 (k + 5) i1 1 = some q1) (t2 : F105 (k + 5) i1 2 = some q2) (t3 : F105 (k + 5) i1 3 = some q3)
    (y0 : F104 (k + 2) (a.toNat : Int) q0 = some (z0.toNat : Int)) (y1 : F104 (k + 2) (b.toNat : Int) q1 = some (z1.toNat : Int)) (y2 : F104 (k + 2) (c.toNat : Int) q2 = some (z2.toNat : Int)) (y3 : F104 (k + 2) (d.toNat : Int) q3 = some (z3.toNat : Int)) :
    L80_2 k i0 i1 s x (f + 5) 0 0 = some (.e0 (((0 : UInt8) ^^^ z0 ^^^ z1 ^^^ z2 ^^^ z3).toNat : Int) 4) := by
  rw [L80_2, cT (by decide), h0, Option.bind_some, t0, Option.bind_some, y0, Option.bind_some, xor_b0, show IntKind.i64.wrap (0 + 1) = 1 from rfl]
  rw [L80_2, cT (by decide), h1, Option.bind_some, t1, Option.bind_some, y1, Option.bind_some, xor_b, show IntKind.i64.wrap (1 + 1) = 2 from rfl]
  rw [L80_2, cT (by decide), h2, Option.bind_some, t2, Option.bind_some, y2, Option.bind_some, xor_b, show IntKind.i64.wrap (2 + 1) = 3 from rfl]
  rw [L80_2, cT (by decide), h3, Option.bind_some, t3, Option.bind_some, y3, Option.bind_some, xor_b, show IntKind.i64.wrap (3 + 1) = 4 from rfl]
  rw [L80_2, cF (by decide)]
theorem L80r {k : Nat} {i0 : Int} {s : List UInt8} {a b c d : UInt8} {x : List V} {f : Nat} (hx : x.length ≤ 1000) (hk : 20 ≤ k)
    (h0 : satB s (IntKind.i64.wrap (IntKind.i64.wrap (4 * i0) + 0)) = some a) (h1 : satB s (IntKind.i64.wrap (IntKind.i64.wrap (4 * i0) + 1)) = some b) (h2 : satB s (IntKind.i64.wrap (IntKind.i64.wrap (4 * i0) + 2)) = some c) (h3 : satB s (IntKind.i64.wrap (IntKind.i64.wrap (4 * i0) + 3)) = some d) :
    L80_1 k i0 s (f + 5) 0 x = some (.e0 4 (x ++ [ub (m0 a b c d), ub (m0 b c d a), ub (m0 c d a b), ub (m0 d a b c)])) := by
  have e0 : ∀ x, L80_2 k i0 0 s x (k + 8) 0 0 = _ := fun x => L80i (f := k + 3) h0 h1 h2 h3 (t0 := (rfl : F105 (k + 5) 0 0 = some 2)) (t1 := (rfl : F105 (k + 5) 0 1 = some 3)) (t2 := (rfl : F105 (k + 5) 0 2 = some 1)) (t3 := (rfl : F105 (k + 5) 0 3 = some 1)) (u101b a (by omega)) (u101c b (by omega)) (u101a c (by omega)) (u101a d (by omega))
  have e1 : ∀ x, L80_2 k i0 1 s x (k + 8) 0 0 = _ := fun x => L80i (f := k + 3) h0 h1 h2 h3 (t0 := (rfl : F105 (k + 5) 1 0 = some 1)) (t1 := (rfl : F105 (k + 5) 1 1 = some 2)) (t2 := (rfl : F105 (k + 5) 1 2 = some 3)) (t3 := (rfl : F105 (k + 5) 1 3 = some 1)) (u101a a (by omega)) (u101b b (by omega)) (u101c c (by omega)) (u101a d (by omega))
  have e2 : ∀ x, L80_2 k i0 2 s x (k + 8) 0 0 = _ := fun x => L80i (f := k + 3) h0 h1 h2 h3 (t0 := (rfl : F105 (k + 5) 2 0 = some 1)) (t1 := (rfl : F105 (k + 5) 2 1 = some 1)) (t2 := (rfl : F105 (k + 5) 2 2 = some 2)) (t3 := (rfl : F105 (k + 5) 2 3 = some 3)) (u101a a (by omega)) (u101a b (by omega)) (u101b c (by omega)) (u101c d (by omega))
  have e3 : ∀ x, L80_2 k i0 3 s x (k + 8) 0 0 = _ := fun x => L80i (f := k + 3) h0 h1 h2 h3 (t0 := (rfl : F105 (k + 5) 3 0 = some 3)) (t1 := (rfl : F105 (k + 5) 3 1 = some 1)) (t2 := (rfl : F105 (k + 5) 3 2 = some 1)) (t3 := (rfl : F105 (k + 5) 3 3 = some 2)) (u101c a (by omega)) (u101a b (by omega)) (u101a c (by omega)) (u101b d (by omega))
  rw [L80_1, cT (by decide), e0, Option.bind_some]
  simp only
  rw [gp (by unfold maxLen'; omega), show IntKind.i64.wrap (0 + 1) = 1 from rfl, mixR, L80_1, cT (by decide), e1, Option.bind_some]
  simp only
  rw [gp (by rw [List.length_append]; simp only [List.length_cons, List.length_nil]; unfold maxLen'; omega), show IntKind.i64.wrap (1 + 1) = 2 from rfl, mixR1, L80_1, cT (by decide), e2, Option.bind_some]
  simp only
  rw [gp (by rw [List.length_append, List.length_append]; simp only [List.length_cons, List.length_nil]; unfold maxLen'; omega), show IntKind.i64.wrap (2 + 1) = 3 from rfl, mixR2, L80_1, cT (by decide), e3, Option.bind_some]
  simp only
  rw [gp (by rw [List.length_append, List.length_append, List.length_append]; simp only [List.length_cons, List.length_nil]; unfold maxLen'; omega), show IntKind.i64.wrap (3 + 1) = 4 from rfl, mixR3, L80_1, cF (by decide)]
  simp only [List.append_assoc, List.cons_append, List.nil_append]
  rfl
theorem g80 {k : Nat} {s : List UInt8} (h : s.length = 16) (hk : 20 ≤ k) : F80 k s = some (mixL s) := by
  obtain ⟨c0, c1, c2, c3, c4, c5, c6, c7, c8, c9, c10, c11, c12, c13, c14, c15, rfl⟩ := len16 h
  unfold F80
  have e0 : ∀ x : List V, x.length ≤ 1000 → L80_1 k 0 [c0, c1, c2, c3, c4, c5, c6, c7, c8, c9, c10, c11, c12, c13, c14, c15] (k + 8) 0 x = _ := fun x hx => L80r (f := k + 3) (a := c0) (b := c1) (c := c2) (d := c3) hx hk rfl rfl rfl rfl
  have e1 : ∀ x : List V, x.length ≤ 1000 → L80_1 k 1 [c0, c1, c2, c3, c4, c5, c6, c7, c8, c9, c10, c11, c12, c13, c14, c15] (k + 8) 0 x = _ := fun x hx => L80r (f := k + 3) (a := c4) (b := c5) (c := c6) (d := c7) hx hk rfl rfl rfl rfl
  have e2 : ∀ x : List V, x.length ≤ 1000 → L80_1 k 2 [c0, c1, c2, c3, c4, c5, c6, c7, c8, c9, c10, c11, c12, c13, c14, c15] (k + 8) 0 x = _ := fun x hx => L80r (f := k + 3) (a := c8) (b := c9) (c := c10) (d := c11) hx hk rfl rfl rfl rfl
  have e3 : ∀ x : List V, x.length ≤ 1000 → L80_1 k 3 [c0, c1, c2, c3, c4, c5, c6, c7, c8, c9, c10, c11, c12, c13, c14, c15] (k + 8) 0 x = _ := fun x hx => L80r (f := k + 3) (a := c12) (b := c13) (c := c14) (d := c15) hx hk rfl rfl rfl rfl
  rw [L80_0, cT (by decide), e0 _ (by simp), Option.bind_some]
  simp only
  rw [show IntKind.i64.wrap (0 + 1) = 1 from rfl, L80_0, cT (by decide), e1 _ (by simp), Option.bind_some]
  simp only
  rw [show IntKind.i64.wrap (1 + 1) = 2 from rfl, L80_0, cT (by decide), e2 _ (by simp), Option.bind_some]
  simp only
  rw [show IntKind.i64.wrap (2 + 1) = 3 from rfl, L80_0, cT (by decide), e3 _ (by simp), Option.bind_some]
  simp only
  rw [show IntKind.i64.wrap (3 + 1) = 4 from rfl, L80_0, cF (by decide), Option.bind_some]
  exact (congrArg (Option.bind · _) (g102 (k := k + 5) (o := none) (b := false) (mixL [c0, c1, c2, c3, c4, c5, c6, c7, c8, c9, c10, c11, c12, c13, c14, c15])))
end Go.Proofs.Ae
set_option linter.unusedVariables false
set_option linter.unusedSimpArgs false
set_option maxRecDepth 1000000
namespace Go.Proofs.Ae
open Go Go.Sym Go.Proofs.Fl
def rcU (n : Nat) : UInt8 := UInt8.ofNat (rc n)
theorem rcU_nat {n : Nat} (h : n < 10) : ((rcU n).toNat : Int) = ((rc n : Nat) : Int) := by
  unfold rcU; rw [UInt8.toNat_ofNat', Nat.mod_eq_of_lt (rc_lt h)]
theorem u95 {k n : Nat} (hn : n < 10) (hk : 20 ≤ k) : F88 k 2 (n : Int) = some ((rcU n).toNat : Int) := by rw [g88 hn hk, rcU_nat hn]
theorem u107 {k n : Nat} (hn : n < 10) (hk : 20 ≤ k) : F122 k 2 (n : Int) = some ((rcU n).toNat : Int) := by rw [g122 hn hk, rcU_nat hn]
def kst (K i : Nat) : List UInt8 → List UInt8
  | [a, b, c, d] => if i % K = 0 then [sbU b ^^^ rcU (i / K - 1), sbU c, sbU d, sbU a] else if K = 8 ∧ i % 8 = 4 then [sbU a, sbU b, sbU c, sbU d] else [a, b, c, d]
  | l => l
theorem kst_eq (K i : Nat) (a b c d : UInt8) : kst K i [a, b, c, d] = if i % K = 0 then [sbU b ^^^ rcU (i / K - 1), sbU c, sbU d, sbU a] else if K = 8 ∧ i % 8 = 4 then [sbU a, sbU b, sbU c, sbU d] else [a, b, c, d] := rfl
def nextW (K : Nat) (ws : List (List UInt8)) : List UInt8 := xorL (ws.getD (ws.length - K) []) (kst K ws.length (ws.getD (ws.length - 1) []))
def extW (K : Nat) : Nat → List (List UInt8) → List (List UInt8)
  | 0, ws => ws
  | m + 1, ws => extW K m (ws ++ [nextW K ws])
def four (ws : List (List UInt8)) : Prop := ∀ w ∈ ws, w.length = 4
theorem len4 {s : List UInt8} (h : s.length = 4) : ∃ a b c d, s = [a, b, c, d] := by
  match s, h with
  | [a, b, c, d], _ => exact ⟨a, b, c, d, rfl⟩
theorem four_at {ws : List (List UInt8)} (h : four ws) {j : Nat} (hj : j < ws.length) : (ws.getD j []).length = 4 := by
  rw [List.getD_eq_getElem?_getD, List.getElem?_eq_getElem hj]; exact h _ (List.getElem_mem hj)
theorem kst_length {K i : Nat} {t : List UInt8} (h : t.length = 4) : (kst K i t).length = 4 := by
  obtain ⟨a, b, c, d, rfl⟩ := len4 h
  rw [kst_eq]; split
  · rfl
  · split <;> rfl
theorem nextW_length {K : Nat} {ws : List (List UInt8)} (h : four ws) (h1 : 1 ≤ K) (h2 : K ≤ ws.length) : (nextW K ws).length = 4 := by
  unfold nextW xorL
  rw [List.length_zipWith, kst_length (four_at h (by omega)), four_at h (by omega)]; rfl
theorem four_snoc {ws : List (List UInt8)} {w : List UInt8} (h : four ws) (hw : w.length = 4) : four (ws ++ [w]) := by
  intro x hx
  rcases List.mem_append.1 hx with hx | hx
  · exact h x hx
  · rw [List.mem_singleton.1 hx]; exact hw
theorem extW_facts {K : Nat} (h1 : 1 ≤ K) : ∀ (m : Nat) (ws : List (List UInt8)), four ws → K ≤ ws.length → four (extW K m ws) ∧ (extW K m ws).length = ws.length + m := by
  intro m
  induction m with
  | zero => intro ws h h2; exact ⟨h, rfl⟩
  | succ m ih =>
    intro ws h h2
    have h3 := ih (ws ++ [nextW K ws]) (four_snoc h (nextW_length h h1 h2)) (by rw [List.length_append]; omega)
    exact ⟨h3.1, by rw [extW, h3.2, List.length_append]; simp only [List.length_cons, List.length_nil]; omega⟩
theorem flat_length {ws : List (List UInt8)} (h : four ws) : ws.flatten.length = 4 * ws.length := by
  induction ws with
  | nil => rfl
  | cons w r ih =>
    rw [List.flatten_cons, List.length_append, ih (fun x hx => h x (List.mem_cons_of_mem _ hx)), h w (List.mem_cons_self ..), List.length_cons]; omega
theorem flat_drop {ws : List (List UInt8)} (h : four ws) : ∀ j, ws.flatten.drop (4 * j) = (ws.drop j).flatten := by
  induction ws with
  | nil => intro j; simp
  | cons w r ih =>
    intro j
    cases j with
    | zero => rfl
    | succ j =>
      rw [List.flatten_cons, List.drop_succ_cons, List.drop_append, h w (List.mem_cons_self ..), show 4 * (j + 1) - 4 = 4 * j by omega, ih (fun x hx => h x (List.mem_cons_of_mem _ hx)), List.drop_eq_nil_of_le (by rw [h w (List.mem_cons_self ..)]; omega), List.nil_append]
theorem flat_take {w : List UInt8} {r : List (List UInt8)} (h : w.length = 4) (n : Nat) : (w :: r).flatten.take (n + 4) = w ++ r.flatten.take n := by
  rw [List.flatten_cons, List.take_append, h, List.take_of_length_le (by omega), show n + 4 - 4 = n by omega]
theorem ft16 {w : List UInt8} {r : List (List UInt8)} (h : w.length = 4) : (w :: r).flatten.take 16 = w ++ r.flatten.take 12 := flat_take (n := 12) h
theorem ft12 {w : List UInt8} {r : List (List UInt8)} (h : w.length = 4) : (w :: r).flatten.take 12 = w ++ r.flatten.take 8 := flat_take (n := 8) h
theorem ft8 {w : List UInt8} {r : List (List UInt8)} (h : w.length = 4) : (w :: r).flatten.take 8 = w ++ r.flatten.take 4 := flat_take (n := 4) h
theorem ft4 {w : List UInt8} {r : List (List UInt8)} (h : w.length = 4) : (w :: r).flatten.take 4 = w := by rw [flat_take (n := 0) h, List.take_zero, List.append_nil]
theorem flat_word {ws : List (List UInt8)} (h : four ws) {j : Nat} (hj : j < ws.length) : (ws.flatten.drop (4 * j)).take 4 = ws.getD j [] := by
  rw [flat_drop h, List.drop_eq_getElem_cons hj, ft4 (h _ (List.getElem_mem hj)), List.getD_eq_getElem?_getD, List.getElem?_eq_getElem hj]; rfl
theorem flat_at {ws : List (List UInt8)} (h : four ws) {j r : Nat} (hj : j < ws.length) (hr : r < 4) : ws.flatten[4 * j + r]? = (ws.getD j [])[r]? := by
  rw [← flat_word h hj, List.getElem?_take_of_lt hr, List.getElem?_drop]
theorem flat_four {ws : List (List UInt8)} (h : four ws) {j : Nat} (hj : 4 * j + 3 < ws.length) : (ws.flatten.drop (16 * j)).take 16 = ws.getD (4 * j) [] ++ ws.getD (4 * j + 1) [] ++ ws.getD (4 * j + 2) [] ++ ws.getD (4 * j + 3) [] := by
  have e : ∀ i (hi : i < ws.length), ws.getD i [] = ws[i] := fun i hi => by rw [List.getD_eq_getElem?_getD, List.getElem?_eq_getElem hi]; rfl
  have l : ∀ i (hi : i < ws.length), ws[i].length = 4 := fun i hi => h _ (List.getElem_mem hi)
  rw [show 16 * j = 4 * (4 * j) by omega, flat_drop h, List.drop_eq_getElem_cons (show 4 * j < ws.length by omega), List.drop_eq_getElem_cons (show 4 * j + 1 < ws.length by omega), List.drop_eq_getElem_cons (show 4 * j + 1 + 1 < ws.length by omega), List.drop_eq_getElem_cons (show 4 * j + 1 + 1 + 1 < ws.length by omega),
    ft16 (l _ _), ft12 (l _ _), ft8 (l _ _), ft4 (l _ _)]
  rw [e _ (by omega), e _ (by omega), e _ (by omega), e _ (by omega)]
  simp only [List.append_assoc]
def w0 (s : List UInt8) : List (List UInt8) := (List.range (s.length / 4)).map fun i => (s.drop (4 * i)).take 4
theorem w0_four {s : List UInt8} : four (w0 s) := by
  intro w hw
  obtain ⟨i, hi, rfl⟩ := List.mem_map.1 hw
  have := List.mem_range.1 hi
  rw [List.length_take, List.length_drop]; omega
theorem w0_length (s : List UInt8) : (w0 s).length = s.length / 4 := by simp [w0]
theorem w0_flat {s : List UInt8} (n : Nat) : ((List.range n).map fun i => (s.drop (4 * i)).take 4).flatten = s.take (4 * n) := by
  induction n with
  | zero => rfl
  | succ n ih => rw [List.range_succ, List.map_append, List.flatten_append, ih, show 4 * (n + 1) = 4 * n + 4 by omega, List.take_add]; simp
theorem w0_flatten {s : List UInt8} (h : s.length % 4 = 0) : (w0 s).flatten = s := by
  unfold w0; rw [w0_flat, List.take_of_length_le (by omega)]
def keyOk (s : List UInt8) : Prop := s.length = 16 ∨ s.length = 32
def kN (s : List UInt8) : Nat := s.length / 4
def wsAll (s : List UInt8) : List (List UInt8) := extW (kN s) (4 * (kN s + 7) - kN s) (w0 s)
def keys (s : List UInt8) : List (List UInt8) := (List.range (kN s + 7)).map fun j => ((wsAll s).flatten.drop (16 * j)).take 16
theorem wsAll_facts {s : List UInt8} (h : keyOk s) : four (wsAll s) ∧ (wsAll s).length = 4 * (kN s + 7) := by
  have hk : kN s = 4 ∨ kN s = 8 := by unfold kN; rcases h with h | h <;> rw [h] <;> simp
  have := extW_facts (K := kN s) (by omega) (4 * (kN s + 7) - kN s) (w0 s) w0_four (by rw [w0_length]; exact Nat.le_refl _)
  refine ⟨this.1, ?_⟩
  unfold wsAll
  rw [this.2, w0_length]; unfold kN; rcases h with h | h <;> rw [h]
theorem keys_length (s : List UInt8) : (keys s).length = kN s + 7 := by simp [keys]
theorem keys_16 {s q : List UInt8} (h : keyOk s) (hq : q ∈ keys s) : q.length = 16 := by
  obtain ⟨j, hj, rfl⟩ := List.mem_map.1 hq
  have h1 := wsAll_facts h
  have := List.mem_range.1 hj
  rw [List.length_take, List.length_drop, flat_length h1.1, h1.2]; omega
theorem w_len {s : List UInt8} (h : keyOk s) : IntKind.i64.wrap ((s.length : Int).tdiv 4) = ((kN s : Nat) : Int) := by
  unfold kN; rcases h with h | h <;> rw [h] <;> rfl
theorem kN_cases {s : List UInt8} (h : keyOk s) : kN s = 4 ∨ kN s = 8 := by unfold kN; rcases h with h | h <;> rw [h] <;> simp
theorem str_at {l : List (List UInt8)} {i : Nat} (h : i < l.length) : ((l.map V.str)[i]?).bind dS = some (l.getD i []) := by
  rw [List.getElem?_map, List.getElem?_eq_getElem h, List.getD_eq_getElem?_getD, List.getElem?_eq_getElem h]; rfl
theorem str_at' {l : List (List UInt8)} {i : Nat} (h : i < l.length) : (at? (l.map V.str) (i : Int)).bind dS = some (l.getD i []) := by
  rw [at_map h, List.getD_eq_getElem?_getD, List.getElem?_eq_getElem h]; rfl
theorem L101a {k : Nat} {s : List UInt8} (h : keyOk s) : ∀ (c i f : Nat), kN s - i = c → i ≤ kN s → c < f →
    L101_0 k s f (i : Int) (((List.range i).map fun i => (s.drop (4 * i)).take 4).map V.str) = some (.e0 ((kN s : Nat) : Int) ((w0 s).map V.str)) := by
  have hk := kN_cases h
  have hlen : s.length = 4 * kN s := by unfold kN; rcases h with h | h <;> rw [h]
  intro c
  induction c with
  | zero =>
    intro i f hc hi hf
    obtain ⟨f, rfl⟩ : ∃ y, f = y + 1 := ⟨f - 1, by omega⟩
    rw [L101_0, w_len h, cF (by omega), show i = kN s by omega]; rfl
  | succ c ih =>
    intro i f hc hi hf
    obtain ⟨f, rfl⟩ : ∃ y, f = y + 1 := ⟨f - 1, by omega⟩
    have e := ih (i + 1) f (by omega) (by omega) (by omega)
    rw [List.range_succ, List.map_append, List.map_append] at e
    rw [L101_0, w_len h, cT (by omega), wi (n := 4 * (i : Int)) (by omega) (by omega), wi (n := 4 * (i : Int) + 4) (by omega) (by omega), gp (by omega), gp (by rw [List.length_map, List.length_map, List.length_range]; unfold maxLen'; omega), wi (n := (i : Int) + 1) (by omega) (by omega), show (i : Int) + 1 = ((i + 1 : Nat) : Int) by omega,
      show (4 * (i : Int) + 4).toNat = 4 * i + 4 by omega, show (4 * (i : Int)).toNat = 4 * i by omega, List.drop_take, show 4 * i + 4 - 4 * i = 4 by omega]
    exact e
theorem getD_lt {ws : List (List UInt8)} {j : Nat} (h : j < ws.length) : ws.getD j [] = ws[j] := by
  rw [List.getD_eq_getElem?_getD, List.getElem?_eq_getElem h]; rfl
theorem L101b {k : Nat} {s : List UInt8} {i0 : Int} (h : keyOk s) (hk : 1000 ≤ k) : ∀ (m : Nat) (ws : List (List UInt8)) (f : Nat), ws.length + m = 4 * (kN s + 7) → kN s ≤ ws.length → four ws → m < f →
    ∃ z, L101_1 k i0 s f ((ws.length : Nat) : Int) (ws.map V.str) = some (.e0 z ((extW (kN s) m ws).map V.str)) := by
  have hK := kN_cases h
  intro m
  induction m with
  | zero =>
    intro ws f hm hle hw hf
    obtain ⟨f, rfl⟩ : ∃ y, f = y + 1 := ⟨f - 1, by omega⟩
    rw [L101_1, w_len h, wi (n := ((kN s : Nat) : Int) + 7) (by omega) (by omega), wi (n := 4 * (((kN s : Nat) : Int) + 7)) (by omega) (by omega), cF (by omega)]
    exact ⟨_, rfl⟩
  | succ m ih =>
    intro ws f hm hle hw hf
    obtain ⟨f, rfl⟩ : ∃ y, f = y + 1 := ⟨f - 1, by omega⟩
    have hn := nextW_length hw (show 1 ≤ kN s by omega) hle
    obtain ⟨z, e⟩ := ih (ws ++ [nextW (kN s) ws]) f (by rw [List.length_append]; simp only [List.length_cons, List.length_nil]; omega) (by rw [List.length_append]; omega) (four_snoc hw hn) (by omega)
    rw [List.length_append, List.map_append] at e
    refine ⟨z, ?_⟩
    generalize hi : ws.length = i at *
    have e' : L101_1 k i0 s f (((i + 1 : Nat)) : Int) (ws.map V.str ++ [V.str (nextW (kN s) ws)]) = some (.e0 z ((extW (kN s) (m + 1) ws).map V.str)) := e
    obtain ⟨a, b, c, d, ht⟩ := len4 (four_at hw (show i - 1 < ws.length by omega))
    have ho : (ws.getD (i - kN s) []).length = 4 := four_at hw (by omega)
    have hnx : nextW (kN s) ws = xorL (ws.getD (i - kN s) []) (kst (kN s) i [a, b, c, d]) := by unfold nextW; rw [hi, ht]
    rw [L101_1, w_len h, wi (n := ((kN s : Nat) : Int) + 7) (by omega) (by omega), wi (n := 4 * (((kN s : Nat) : Int) + 7)) (by omega) (by omega), cT (by omega), wi (n := (i : Int) - 1) (by omega) (by omega), gp (by rw [List.length_map, hi]; omega), show ((i : Int) - 1).toNat = i - 1 by omega, str_at (by omega), Option.bind_some, ht, gp (by omega)]
    have tail : ∀ (t : List UInt8), t.length = 4 → kst (kN s) i [a, b, c, d] = t → (guardP ((0 : Int) ≤ IntKind.i64.wrap ((i : Int) - ((kN s : Nat) : Int)) ∧ IntKind.i64.wrap ((i : Int) - ((kN s : Nat) : Int)) < ((ws.map V.str).length : Int)) ((((ws.map V.str)[(IntKind.i64.wrap ((i : Int) - ((kN s : Nat) : Int))).toNat]?).bind dS).bind fun s4 => ((F77 (k + 11) s4 t).bind fun s5 => (guardP ((ws.map V.str).length + (1 : Nat) ≤ maxLen') (L101_1 k i0 s f (IntKind.i64.wrap ((i : Int) + 1)) (ws.map V.str ++ [V.str s5])))))) = some (.e0 z ((extW (kN s) (m + 1) ws).map V.str)) := by
      intro t h4 hk4
      rw [wi (n := (i : Int) - ((kN s : Nat) : Int)) (by omega) (by omega), gp (by rw [List.length_map, hi]; omega), show ((i : Int) - ((kN s : Nat) : Int)).toNat = i - kN s by omega, str_at (by omega), Option.bind_some, g77 (by omega) (by omega) (by omega), Option.bind_some, gp (by rw [List.length_map, hi]; unfold maxLen'; omega), wi (n := (i : Int) + 1) (by omega) (by omega), show (i : Int) + 1 = ((i + 1 : Nat) : Int) by omega, ← hk4, ← hnx]
      exact e'
    have hmod : ((i : Int).tmod ((kN s : Nat) : Int)) = ((i % kN s : Nat) : Int) := by rw [tm (by omega)]; omega
    have hmod8 : ((i : Int).tmod 8) = ((i % 8 : Nat) : Int) := by rw [show (8 : Int) = ((8 : Nat) : Int) from rfl, tm (by omega)]; omega
    have hdiv : ((i : Int).tdiv ((kN s : Nat) : Int)) = ((i / kN s : Nat) : Int) := by rw [td (by omega)]; omega
    have hdlt : i / kN s - 1 < 10 ∧ 1 ≤ i / kN s := by rcases hK with hK | hK <;> rw [hK] <;> omega
    rw [hmod, hdiv, hmod8]
    by_cases h0 : i % kN s = 0
    · rw [cT (by omega), gp (by simp only [List.length_cons, List.length_nil]; omega), gp (by show 4 ≤ maxText; unfold maxText; omega)]
      show ((F79 (k + 2) [b, c, d, a]).bind _) = _
      rw [g79 (by simp) (by omega), Option.bind_some]
      show ((satB [sbU b, sbU c, sbU d, sbU a] 0).bind _) = _
      rw [show satB [sbU b, sbU c, sbU d, sbU a] 0 = some (sbU b) from rfl, Option.bind_some, wi (n := ((i / kN s : Nat) : Int)) (by omega) (by omega), wi (n := ((i / kN s : Nat) : Int) - 1) (by omega) (by omega), show ((i / kN s : Nat) : Int) - 1 = ((i / kN s - 1 : Nat) : Int) by omega, u107 hdlt.1 (by omega), Option.bind_some, xor_b]
      rw [show F102 (k + 14) none false 1 [V.int IntKind.u8 ((sbU b ^^^ rcU (i / kN s - 1)).toNat : Int)] = some [sbU b ^^^ rcU (i / kN s - 1)] from g102 (k := k + 14) (o := none) (b := false) [sbU b ^^^ rcU (i / kN s - 1)], Option.bind_some, gp (by show (0 : Int) ≤ 1 ∧ (1 : Int) ≤ 4; omega), gp (by show 1 + 3 ≤ maxText; unfold maxText; omega)]
      exact tail [sbU b ^^^ rcU (i / kN s - 1), sbU c, sbU d, sbU a] rfl (by rw [kst_eq, if_pos h0])
    · rw [cF (by omega)]
      by_cases h8 : kN s = 8
      · rw [cT (by omega)]
        by_cases h4 : i % 8 = 4
        · rw [cT (by omega), g79 (by simp) (by omega), Option.bind_some]
          exact tail [sbU a, sbU b, sbU c, sbU d] rfl (by rw [kst_eq, if_neg h0, if_pos ⟨h8, h4⟩])
        · rw [cF (by omega)]
          exact tail [a, b, c, d] rfl (by rw [kst_eq, if_neg h0, if_neg (fun h => h4 h.2)])
      · rw [cF (by omega)]
        exact tail [a, b, c, d] rfl (by rw [kst_eq, if_neg h0, if_neg (fun h => h8 h.1)])
theorem g101 {k : Nat} {s : List UInt8} (h : keyOk s) (hk : 1000 ≤ k) : F101 k s = some (none, false, 1, (wsAll s).map V.str) := by
  have hK := kN_cases h
  unfold F101
  have e1 := L101a (k := k) h (kN s) 0 (k + 17) (by omega) (by omega) (by omega)
  obtain ⟨z, e2⟩ := L101b (k := k) (i0 := ((kN s : Nat) : Int)) h hk (4 * (kN s + 7) - kN s) (w0 s) (k + 17) (by rw [w0_length]; show kN s + _ = _; omega) (by rw [w0_length]; exact Nat.le_refl _) w0_four (by omega)
  have e1' : L101_0 k s (k + 17) 0 [] = _ := e1
  rw [e1', Option.bind_some]
  simp only
  rw [w_len h, show ((kN s : Nat) : Int) = (((w0 s).length : Nat) : Int) by rw [w0_length]; rfl]
  rw [w0_length] at e2 ⊢
  rw [show s.length / 4 = kN s from rfl] at e2 ⊢
  rw [e2, Option.bind_some]
  rfl
theorem g76 {k : Nat} {s : List UInt8} (h : keyOk s) (hk : 1000 ≤ k) : F76 k s = some (none, false, 1, (keys s).map V.str) := by
  obtain ⟨h4, hl⟩ := wsAll_facts h
  have hK := kN_cases h
  have run : ∀ (c j f : Nat), kN s + 7 - j = c → j ≤ kN s + 7 → c < f → ∃ z, L76_0 k false s ((wsAll s).map V.str) none 1 f ((4 * j : Nat) : Int) (((List.range j).map fun j => ((wsAll s).flatten.drop (16 * j)).take 16).map V.str) = some (.e0 z ((keys s).map V.str)) := by
    intro c
    induction c with
    | zero =>
      intro j f hc hj hf
      obtain ⟨f, rfl⟩ : ∃ y, f = y + 1 := ⟨f - 1, by omega⟩
      rw [L76_0, List.length_map, hl, cF (by omega), show j = kN s + 7 by omega]
      exact ⟨_, rfl⟩
    | succ c ih =>
      intro j f hc hj hf
      obtain ⟨f, rfl⟩ : ∃ y, f = y + 1 := ⟨f - 1, by omega⟩
      obtain ⟨z, e⟩ := ih (j + 1) f (by omega) (by omega) (by omega)
      rw [List.range_succ, List.map_append, List.map_append] at e
      refine ⟨z, ?_⟩
      have l0 := four_at h4 (show 4 * j < (wsAll s).length by omega)
      have l1 := four_at h4 (show 4 * j + 1 < (wsAll s).length by omega)
      have l2 := four_at h4 (show 4 * j + 2 < (wsAll s).length by omega)
      have l3 := four_at h4 (show 4 * j + 3 < (wsAll s).length by omega)
      have hf4 := flat_four h4 (show 4 * j + 3 < (wsAll s).length by omega)
      rw [L76_0, List.length_map, hl, cT (by omega), gp rfl, str_at' (by omega), Option.bind_some, wi (n := ((4 * j : Nat) : Int) + 1) (by omega) (by omega), show ((4 * j : Nat) : Int) + 1 = ((4 * j + 1 : Nat) : Int) by omega, str_at' (by omega), Option.bind_some, gp (by unfold maxText; omega),
        wi (n := ((4 * j : Nat) : Int) + 2) (by omega) (by omega), show ((4 * j : Nat) : Int) + 2 = ((4 * j + 2 : Nat) : Int) by omega, str_at' (by omega), Option.bind_some, gp (by rw [List.length_append]; unfold maxText; omega),
        wi (n := ((4 * j : Nat) : Int) + 3) (by omega) (by omega), show ((4 * j : Nat) : Int) + 3 = ((4 * j + 3 : Nat) : Int) by omega, str_at' (by omega), Option.bind_some, gp (by rw [List.length_append, List.length_append]; unfold maxText; omega), gp (by rw [List.length_map, List.length_map, List.length_range]; unfold maxLen'; omega),
        wi (n := ((4 * j : Nat) : Int) + 4) (by omega) (by omega), show ((4 * j : Nat) : Int) + 4 = ((4 * (j + 1) : Nat) : Int) by omega, ← hf4]
      exact e
  unfold F76
  obtain ⟨z, e⟩ := run (kN s + 7) 0 (k + 20) (by omega) (by omega) (by omega)
  rw [g101 h (by omega), Option.bind_some]
  simp only
  have e' : L76_0 k false s ((wsAll s).map V.str) none 1 (k + 20) 0 [] = _ := e
  rw [e', Option.bind_some]
end Go.Proofs.Ae
set_option linter.unusedVariables false
set_option linter.unusedSimpArgs false
set_option maxRecDepth 1000000
namespace Go.Proofs.Ae
open Go Go.Sym Go.Proofs.Fl
theorem get_ub {x : List UInt8} {n : Nat} {c : UInt8} (h : x[n]? = some c) (y : List V) : (((x.map ub ++ y)[n]?).bind (dI IntKind.u8)) = some (c.toNat : Int) := by
  have hn : n < x.length := (List.getElem?_eq_some_iff.1 h).1
  rw [List.getElem?_append_left (by rw [List.length_map]; exact hn), List.getElem?_map, h]
  exact dI_int _ _
structure At4 (s : List UInt8) (i0 : Int) (x : List UInt8) (o0 o1 o2 o3 : UInt8) (p : Nat) : Prop where
  w : IntKind.i64.wrap (4 * IntKind.i64.wrap (i0 - IntKind.i64.wrap ((s.length : Int).tdiv 4))) = (p : Int)
  lt : p + 4 ≤ x.length
  le : x.length ≤ 1000
  a0 : x[p]? = some o0
  a1 : x[p + 1]? = some o1
  a2 : x[p + 2]? = some o2
  a3 : x[p + 3]? = some o3
theorem L59d {k : Nat} {i0 : Int} {s x : List UInt8} {o0 o1 o2 o3 a b c d : UInt8} {p f : Nat} (h : At4 s i0 x o0 o1 o2 o3 p) :
    L59_4 k i0 (a.toNat : Int) (b.toNat : Int) (c.toNat : Int) (d.toNat : Int) s (f + 5) 0 (x.map ub) = some (.e0 4 ((x ++ [o0 ^^^ a, o1 ^^^ b, o2 ^^^ c, o3 ^^^ d]).map ub)) := by
  have hw := h.w
  have hlt := h.lt
  have hle := h.le
  have e0 := get_ub h.a0
  have e1 := get_ub h.a1
  have e2 := get_ub h.a2
  have e3 := get_ub h.a3
  have s0 := e0 []
  rw [List.append_nil] at s0
  rw [L59_4, cT (by decide), hw, wi (n := (p : Int) + 0) (by omega) (by omega), gp (by rw [List.length_map]; omega), show ((p : Int) + 0).toNat = p by omega, s0, Option.bind_some, cT rfl, gp (by rw [List.length_map]; unfold maxLen'; omega), xor_b, show IntKind.i64.wrap (0 + 1) = 1 from rfl]
  rw [L59_4, cT (by decide), hw, wi (n := (p : Int) + 1) (by omega) (by omega), gp (by rw [List.length_append, List.length_map]; simp only [List.length_cons, List.length_nil]; omega), show ((p : Int) + 1).toNat = p + 1 by omega, e1, Option.bind_some, cF (by decide), cT rfl, gp (by rw [List.length_append, List.length_map]; simp only [List.length_cons, List.length_nil]; unfold maxLen'; omega), xor_b, show IntKind.i64.wrap (1 + 1) = 2 from rfl, List.append_assoc]
  rw [L59_4, cT (by decide), hw, wi (n := (p : Int) + 2) (by omega) (by omega), gp (by rw [List.length_append, List.length_map, List.length_append]; simp only [List.length_cons, List.length_nil]; omega), show ((p : Int) + 2).toNat = p + 2 by omega, e2, Option.bind_some, cF (by decide), cF (by decide), cT rfl, gp (by rw [List.length_append, List.length_map, List.length_append]; simp only [List.length_cons, List.length_nil]; unfold maxLen'; omega), xor_b, show IntKind.i64.wrap (2 + 1) = 3 from rfl, List.append_assoc]
  rw [L59_4, cT (by decide), hw, wi (n := (p : Int) + 3) (by omega) (by omega), gp (by rw [List.length_append, List.length_map, List.length_append, List.length_append]; simp only [List.length_cons, List.length_nil]; omega), show ((p : Int) + 3).toNat = p + 3 by omega, e3, Option.bind_some, cF (by decide), cF (by decide), cF (by decide), cT rfl, gp (by rw [List.length_append, List.length_map, List.length_append, List.length_append]; simp only [List.length_cons, List.length_nil]; unfold maxLen'; omega), xor_b, show IntKind.i64.wrap (3 + 1) = 4 from rfl, List.append_assoc]
  rw [L59_4, cF (by decide), List.map_append]
  rfl
theorem L59c {k : Nat} {i0 i5 : Int} {s x : List UInt8} {o0 o1 o2 o3 a b c d : UInt8} {p f : Nat} (h : At4 s i0 x o0 o1 o2 o3 p) :
    L59_3 k i0 i5 (a.toNat : Int) (b.toNat : Int) (c.toNat : Int) (d.toNat : Int) s (f + 5) 0 (x.map ub) = some (.e0 4 ((x ++ [o0 ^^^ a, o1 ^^^ b, o2 ^^^ c, o3 ^^^ d]).map ub)) := by
  have hw := h.w
  have hlt := h.lt
  have hle := h.le
  have e0 := get_ub h.a0
  have e1 := get_ub h.a1
  have e2 := get_ub h.a2
  have e3 := get_ub h.a3
  have s0 := e0 []
  rw [List.append_nil] at s0
  rw [L59_3, cT (by decide), hw, wi (n := (p : Int) + 0) (by omega) (by omega), gp (by rw [List.length_map]; omega), show ((p : Int) + 0).toNat = p by omega, s0, Option.bind_some, cT rfl, gp (by rw [List.length_map]; unfold maxLen'; omega), xor_b, show IntKind.i64.wrap (0 + 1) = 1 from rfl]
  rw [L59_3, cT (by decide), hw, wi (n := (p : Int) + 1) (by omega) (by omega), gp (by rw [List.length_append, List.length_map]; simp only [List.length_cons, List.length_nil]; omega), show ((p : Int) + 1).toNat = p + 1 by omega, e1, Option.bind_some, cF (by decide), cT rfl, gp (by rw [List.length_append, List.length_map]; simp only [List.length_cons, List.length_nil]; unfold maxLen'; omega), xor_b, show IntKind.i64.wrap (1 + 1) = 2 from rfl, List.append_assoc]
  rw [L59_3, cT (by decide), hw, wi (n := (p : Int) + 2) (by omega) (by omega), gp (by rw [List.length_append, List.length_map, List.length_append]; simp only [List.length_cons, List.length_nil]; omega), show ((p : Int) + 2).toNat = p + 2 by omega, e2, Option.bind_some, cF (by decide), cF (by decide), cT rfl, gp (by rw [List.length_append, List.length_map, List.length_append]; simp only [List.length_cons, List.length_nil]; unfold maxLen'; omega), xor_b, show IntKind.i64.wrap (2 + 1) = 3 from rfl, List.append_assoc]
  rw [L59_3, cT (by decide), hw, wi (n := (p : Int) + 3) (by omega) (by omega), gp (by rw [List.length_append, List.length_map, List.length_append, List.length_append]; simp only [List.length_cons, List.length_nil]; omega), show ((p : Int) + 3).toNat = p + 3 by omega, e3, Option.bind_some, cF (by decide), cF (by decide), cF (by decide), cT rfl, gp (by rw [List.length_append, List.length_map, List.length_append, List.length_append]; simp only [List.length_cons, List.length_nil]; unfold maxLen'; omega), xor_b, show IntKind.i64.wrap (3 + 1) = 4 from rfl, List.append_assoc]
  rw [L59_3, cF (by decide), List.map_append]
  rfl
theorem L59a {k : Nat} {i0 : Int} {s x : List UInt8} {o0 o1 o2 o3 a r b c d : UInt8} {p f : Nat} (h : At4 s i0 x o0 o1 o2 o3 p) :
    L59_1 k i0 (a.toNat : Int) (r.toNat : Int) (b.toNat : Int) (c.toNat : Int) (d.toNat : Int) s (f + 5) 0 (x.map ub) = some (.e0 4 ((x ++ [o0 ^^^ (a ^^^ r), o1 ^^^ b, o2 ^^^ c, o3 ^^^ d]).map ub)) := by
  have hw := h.w
  have hlt := h.lt
  have hle := h.le
  have e0 := get_ub h.a0
  have e1 := get_ub h.a1
  have e2 := get_ub h.a2
  have e3 := get_ub h.a3
  have s0 := e0 []
  rw [List.append_nil] at s0
  rw [L59_1, cT (by decide), hw, wi (n := (p : Int) + 0) (by omega) (by omega), gp (by rw [List.length_map]; omega), show ((p : Int) + 0).toNat = p by omega, s0, Option.bind_some, cT rfl, gp (by rw [List.length_map]; unfold maxLen'; omega), xor_b, xor_b, show IntKind.i64.wrap (0 + 1) = 1 from rfl]
  rw [L59_1, cT (by decide), hw, wi (n := (p : Int) + 1) (by omega) (by omega), gp (by rw [List.length_append, List.length_map]; simp only [List.length_cons, List.length_nil]; omega), show ((p : Int) + 1).toNat = p + 1 by omega, e1, Option.bind_some, cF (by decide), cT rfl, gp (by rw [List.length_append, List.length_map]; simp only [List.length_cons, List.length_nil]; unfold maxLen'; omega), xor_b, show IntKind.i64.wrap (1 + 1) = 2 from rfl, List.append_assoc]
  rw [L59_1, cT (by decide), hw, wi (n := (p : Int) + 2) (by omega) (by omega), gp (by rw [List.length_append, List.length_map, List.length_append]; simp only [List.length_cons, List.length_nil]; omega), show ((p : Int) + 2).toNat = p + 2 by omega, e2, Option.bind_some, cF (by decide), cF (by decide), cT rfl, gp (by rw [List.length_append, List.length_map, List.length_append]; simp only [List.length_cons, List.length_nil]; unfold maxLen'; omega), xor_b, show IntKind.i64.wrap (2 + 1) = 3 from rfl, List.append_assoc]
  rw [L59_1, cT (by decide), hw, wi (n := (p : Int) + 3) (by omega) (by omega), gp (by rw [List.length_append, List.length_map, List.length_append, List.length_append]; simp only [List.length_cons, List.length_nil]; omega), show ((p : Int) + 3).toNat = p + 3 by omega, e3, Option.bind_some, cF (by decide), cF (by decide), cF (by decide), cT rfl, gp (by rw [List.length_append, List.length_map, List.length_append, List.length_append]; simp only [List.length_cons, List.length_nil]; unfold maxLen'; omega), xor_b, show IntKind.i64.wrap (3 + 1) = 4 from rfl, List.append_assoc]
  rw [L59_1, cF (by decide), List.map_append]
  rfl
theorem L59b {k : Nat} {i0 : Int} {s : List UInt8} {x : List V} {a b c d : UInt8} {f : Nat} (hk : 20 ≤ k) :
    L59_2 k i0 s x (f + 5) 0 (a.toNat : Int) (b.toNat : Int) (c.toNat : Int) (d.toNat : Int) = some (.e0 4 ((sbU a).toNat : Int) ((sbU b).toNat : Int) ((sbU c).toNat : Int) ((sbU d).toNat : Int)) := by
  rw [L59_2, cT (by decide), cT rfl, u94 _ (by omega), Option.bind_some, show IntKind.i64.wrap (0 + 1) = 1 from rfl]
  rw [L59_2, cT (by decide), cF (by decide), cT rfl, u94 _ (by omega), Option.bind_some, show IntKind.i64.wrap (1 + 1) = 2 from rfl]
  rw [L59_2, cT (by decide), cF (by decide), cF (by decide), cT rfl, u94 _ (by omega), Option.bind_some, show IntKind.i64.wrap (2 + 1) = 3 from rfl]
  rw [L59_2, cT (by decide), cF (by decide), cF (by decide), cF (by decide), cT rfl, u94 _ (by omega), Option.bind_some, show IntKind.i64.wrap (3 + 1) = 4 from rfl]
  rw [L59_2, cF (by decide)]
theorem arr4 {x : List UInt8} {p : Nat} {a b c d : UInt8} (h : (x.drop p).take 4 = [a, b, c, d]) : (arr? (x.map ub) p 4).bind dAu8u8u8u8Z = some ((a.toNat : Int), (b.toNat : Int), (c.toNat : Int), (d.toNat : Int)) := by
  have hl : p + 4 ≤ x.length := by
    have := congrArg List.length h
    rw [List.length_take, List.length_drop] at this
    simp only [List.length_cons, List.length_nil] at this
    omega
  have e : ((x.map ub).drop p).take 4 = [ub a, ub b, ub c, ub d] := by rw [← List.map_drop, ← List.map_take, h]; rfl
  unfold arr?
  rw [e, guardP_pos ⟨by rw [List.length_map]; exact hl, rfl⟩]
  rfl
theorem L59m {k : Nat} {s : List UInt8} (h : keyOk s) (hk : 1000 ≤ k) : ∀ (m : Nat) (ws : List (List UInt8)) (f : Nat), ws.length + m = 4 * (kN s + 7) → kN s ≤ ws.length → four ws → m < f →
    ∃ z, L59_0 k s f ((ws.length : Nat) : Int) (ws.flatten.map ub) = some (.e0 z ((extW (kN s) m ws).flatten.map ub)) := by
  have hK := kN_cases h
  intro m
  induction m with
  | zero =>
    intro ws f hm hle hw hf
    obtain ⟨f, rfl⟩ : ∃ y, f = y + 1 := ⟨f - 1, by omega⟩
    rw [L59_0, w_len h, wi (n := ((kN s : Nat) : Int) + 7) (by omega) (by omega), wi (n := 4 * (((kN s : Nat) : Int) + 7)) (by omega) (by omega), cF (by omega)]
    exact ⟨_, rfl⟩
  | succ m ih =>
    intro ws f hm hle hw hf
    obtain ⟨f, rfl⟩ : ∃ y, f = y + 1 := ⟨f - 1, by omega⟩
    have hn := nextW_length hw (show 1 ≤ kN s by omega) hle
    obtain ⟨z, e⟩ := ih (ws ++ [nextW (kN s) ws]) f (by rw [List.length_append]; simp only [List.length_cons, List.length_nil]; omega) (by rw [List.length_append]; omega) (four_snoc hw hn) (by omega)
    rw [List.length_append, List.flatten_append] at e
    refine ⟨z, ?_⟩
    have hfl := flat_length hw
    generalize hi : ws.length = i at *
    have e' : L59_0 k s f (((i + 1 : Nat)) : Int) ((ws.flatten ++ nextW (kN s) ws).map ub) = some (.e0 z ((extW (kN s) (m + 1) ws).flatten.map ub)) := by
      simp only [List.flatten_cons, List.flatten_nil, List.append_nil] at e
      exact e
    obtain ⟨a, b, c, d, ht⟩ := len4 (four_at hw (show i - 1 < ws.length by omega))
    obtain ⟨o0, o1, o2, o3, ho⟩ := len4 (four_at hw (show i - kN s < ws.length by omega))
    have hnx : nextW (kN s) ws = xorL [o0, o1, o2, o3] (kst (kN s) i [a, b, c, d]) := by unfold nextW; rw [hi, ht, ho]
    have hword := flat_word hw (show i - 1 < ws.length by omega)
    rw [ht] at hword
    have at4 : At4 s (i : Int) ws.flatten o0 o1 o2 o3 (4 * (i - kN s)) := by
      have q : ∀ r, r < 4 → ws.flatten[4 * (i - kN s) + r]? = [o0, o1, o2, o3][r]? := fun r hr => by rw [flat_at hw (by omega) hr, ho]
      refine ⟨?_, by omega, by omega, q 0 (by omega), q 1 (by omega), q 2 (by omega), q 3 (by omega)⟩
      rw [w_len h, wi (n := (i : Int) - ((kN s : Nat) : Int)) (by omega) (by omega), wi (by omega) (by omega)]; omega
    rw [L59_0, wi (n := 4 * (i : Int)) (by omega) (by omega), wi (n := 4 * (i : Int) - 4) (by omega) (by omega), show (4 * (i : Int) - 4).toNat = 4 * (i - 1) by omega, show (4 * (i : Int)).toNat = 4 * i by omega]
    rw [w_len h, wi (n := ((kN s : Nat) : Int) + 7) (by omega) (by omega), wi (n := 4 * (((kN s : Nat) : Int) + 7)) (by omega) (by omega), cT (by omega), gp (by rw [List.length_map, hfl]; omega), gp (by omega), arr4 hword, Option.bind_some]
    simp only
    rw [gp (by omega)]
    have hmod : ((i : Int).tmod ((kN s : Nat) : Int)) = ((i % kN s : Nat) : Int) := by rw [tm (by omega)]; omega
    have hdiv : ((i : Int).tdiv ((kN s : Nat) : Int)) = ((i / kN s : Nat) : Int) := by rw [td (by omega)]; omega
    have hdlt : i / kN s - 1 < 10 ∧ 1 ≤ i / kN s := by rcases hK with hK | hK <;> rw [hK] <;> omega
    rw [hmod, hdiv, wi (n := (i : Int) + 1) (by omega) (by omega), show (i : Int) + 1 = ((i + 1 : Nat) : Int) by omega]
    by_cases h0 : i % kN s = 0
    · have hst : kst (kN s) i [a, b, c, d] = [sbU b ^^^ rcU (i / kN s - 1), sbU c, sbU d, sbU a] := by rw [kst_eq, if_pos h0]
      rw [hnx, hst] at e'
      rw [cT (by omega), u94 _ (by omega), Option.bind_some, wi (n := ((i / kN s : Nat) : Int)) (by omega) (by omega), wi (n := ((i / kN s : Nat) : Int) - 1) (by omega) (by omega), show ((i / kN s : Nat) : Int) - 1 = ((i / kN s - 1 : Nat) : Int) by omega, u95 hdlt.1 (by omega), Option.bind_some, u94 _ (by omega), Option.bind_some, u94 _ (by omega), Option.bind_some, u94 _ (by omega), Option.bind_some,
        show k + 17 = (k + 12) + 5 from rfl, L59a at4, Option.bind_some]
      exact e'
    · rw [cF (by omega)]
      by_cases h8 : kN s = 8
      · rw [cT (by omega)]
        by_cases h4 : i % kN s = 4
        · have hst : kst (kN s) i [a, b, c, d] = [sbU a, sbU b, sbU c, sbU d] := by rw [kst_eq, if_neg h0, if_pos ⟨h8, by rw [← h8]; exact h4⟩]
          rw [hnx, hst] at e'
          rw [cT (by omega), show k + 17 = (k + 12) + 5 from rfl, L59b (by omega), Option.bind_some]
          simp only
          rw [L59c at4, Option.bind_some]
          exact e'
        · have hst : kst (kN s) i [a, b, c, d] = [a, b, c, d] := by rw [kst_eq, if_neg h0, if_neg (fun h => h4 (by rw [h8]; exact h.2))]
          rw [hnx, hst] at e'
          rw [cF (by omega), show k + 17 = (k + 12) + 5 from rfl, L59d at4, Option.bind_some]
          exact e'
      · have hst : kst (kN s) i [a, b, c, d] = [a, b, c, d] := by rw [kst_eq, if_neg h0, if_neg (fun h => h8 h.1)]
        rw [hnx, hst] at e'
        rw [cF (by omega), show k + 17 = (k + 12) + 5 from rfl, L59d at4, Option.bind_some]
        exact e'
theorem L59n {k : Nat} {s : List UInt8} {i0 : Int} (h : keyOk s) (hk : 1000 ≤ k) : ∀ (c j f : Nat), kN s + 7 - j = c → j ≤ kN s + 7 → c < f →
    ∃ z, L59_5 k i0 s ((wsAll s).flatten.map ub) f ((16 * j : Nat) : Int) (((List.range j).map fun j => ((wsAll s).flatten.drop (16 * j)).take 16).map V.str) = some (.e0 z ((keys s).map V.str)) := by
  obtain ⟨h4, hl⟩ := wsAll_facts h
  have hfl := flat_length h4
  have hK := kN_cases h
  intro c
  induction c with
  | zero =>
    intro j f hc hj hf
    obtain ⟨f, rfl⟩ : ∃ y, f = y + 1 := ⟨f - 1, by omega⟩
    rw [L59_5, List.length_map, cF (by omega), show j = kN s + 7 by omega]
    exact ⟨_, rfl⟩
  | succ c ih =>
    intro j f hc hj hf
    obtain ⟨f, rfl⟩ : ∃ y, f = y + 1 := ⟨f - 1, by omega⟩
    obtain ⟨z, e⟩ := ih (j + 1) f (by omega) (by omega) (by omega)
    rw [List.range_succ, List.map_append, List.map_append] at e
    refine ⟨z, ?_⟩
    rw [L59_5, wi (n := ((16 * j : Nat) : Int) + 16) (by omega) (by omega), show ((16 * j : Nat) : Int) + 16 = ((16 * (j + 1) : Nat) : Int) by omega, Int.toNat_natCast, Int.toNat_natCast, show 16 * (j + 1) - 16 * j = 16 by omega, ← List.map_drop, ← List.map_take, byteOf_ub]
    rw [cT (by rw [List.length_map]; omega), gp (by rw [List.length_map]; omega), gp (all_ub _), gp (by rw [List.length_map, List.length_map, List.length_range]; unfold maxLen'; omega)]
    exact e
theorem g59 {k : Nat} {s : List UInt8} (h : keyOk s) (hk : 1000 ≤ k) : F59 k s = some (none, false, 1, (keys s).map V.str, 0) := by
  have hK := kN_cases h
  have hm : s.length % 4 = 0 := by rcases h with h | h <;> rw [h]
  obtain ⟨z, e1⟩ := L59m (k := k) h hk (4 * (kN s + 7) - kN s) (w0 s) (k + 17) (by rw [w0_length]; show kN s + _ = _; omega) (by rw [w0_length]; exact Nat.le_refl _) w0_four (by omega)
  rw [w0_flatten hm, w0_length] at e1
  obtain ⟨z', e2⟩ := L59n (k := k) (i0 := z) h hk (kN s + 7) 0 (k + 17) (by omega) (by omega) (by omega)
  have e1' : L59_0 k s (k + 17) (IntKind.i64.wrap ((s.length : Int).tdiv 4)) (List.map (fun c : UInt8 => V.int IntKind.u8 (c.toNat : Int)) s) = some (.e0 z ((wsAll s).flatten.map ub)) := by rw [w_len h]; exact e1
  have e2' : L59_5 k z s ((wsAll s).flatten.map ub) (k + 17) 0 [] = _ := e2
  unfold F59
  rcases h with h | h
  · rw [cNT (by omega), gp (by rw [h]; unfold maxLen'; omega), e1', Option.bind_some]
    simp only
    rw [e2', Option.bind_some]
  · rw [cNF (by omega), cNT (by omega), gp (by rw [h]; unfold maxLen'; omega), e1', Option.bind_some]
    simp only
    rw [e2', Option.bind_some]
def rounds : List (List UInt8) → List UInt8 → List UInt8
  | [], st => st
  | q :: r, st => bif r.isEmpty then xorL (turnL (boxL st)) q else rounds r (xorL (mixL (turnL (boxL st))) q)
def aesT (l : List (List UInt8)) (t : List UInt8) : List UInt8 := rounds (l.drop 1) (xorL t (l.getD 0 []))
def aes (s t : List UInt8) : List UInt8 := aesT (keys s) t
theorem turn_length {s : List UInt8} (h : s.length = 16) : (turnL s).length = 16 := by
  obtain ⟨c0, c1, c2, c3, c4, c5, c6, c7, c8, c9, c10, c11, c12, c13, c14, c15, rfl⟩ := len16 h; rfl
theorem mix_length {s : List UInt8} (h : s.length = 16) : (mixL s).length = 16 := by
  obtain ⟨c0, c1, c2, c3, c4, c5, c6, c7, c8, c9, c10, c11, c12, c13, c14, c15, rfl⟩ := len16 h; rfl
theorem box_length {s : List UInt8} : (boxL s).length = s.length := List.length_map ..
theorem xor_length {s t : List UInt8} (h : s.length = t.length) : (xorL s t).length = s.length := by unfold xorL; rw [List.length_zipWith]; omega
theorem rounds_length : ∀ (l : List (List UInt8)) (st : List UInt8), (∀ q ∈ l, q.length = 16) → st.length = 16 → (rounds l st).length = 16 := by
  intro l
  induction l with
  | nil => intro st _ h; exact h
  | cons q r ih =>
    intro st hq h
    have h1 := hq q (List.mem_cons_self ..)
    have h2 : (turnL (boxL st)).length = 16 := turn_length (by rw [box_length, h])
    rw [rounds]
    cases r with
    | nil => rw [List.isEmpty_nil, cond_true, xor_length (by omega)]; exact h2
    | cons q2 r => exact ih _ (fun x hx => hq x (List.mem_cons_of_mem _ hx)) (by rw [xor_length (by rw [mix_length h2, h1]), mix_length h2])
theorem L51r {k : Nat} {s t : List UInt8} {l : List (List UInt8)} (hl : l.length ≤ 100) (h16 : ∀ q ∈ l, q.length = 16) (hk : 1100 ≤ k) : ∀ (c i f : Nat) (st : List UInt8), l.length - i = c → i ≤ l.length → c < f → st.length = 16 →
    ∃ z, L51_0 k false s t (l.map V.str) none 1 f st (i : Int) = some (.e0 z (rounds (l.drop i) st)) := by
  intro c
  induction c with
  | zero =>
    intro i f st hc hi hf hst
    obtain ⟨f, rfl⟩ : ∃ y, f = y + 1 := ⟨f - 1, by omega⟩
    rw [L51_0, List.length_map, cF (by omega), List.drop_eq_nil_of_le (by omega)]
    exact ⟨_, rfl⟩
  | succ c ih =>
    intro i f st hc hi hf hst
    obtain ⟨f, rfl⟩ : ∃ y, f = y + 1 := ⟨f - 1, by omega⟩
    have hi' : i < l.length := by omega
    have hq := h16 _ (List.getElem_mem hi')
    have h2 : (turnL (boxL st)).length = 16 := turn_length (by rw [box_length, hst])
    rw [L51_0, List.length_map, cT (by omega), g79 (by omega) (by omega), Option.bind_some, g78 (by rw [box_length, hst]), Option.bind_some, wi (n := (i : Int) + 1) (by omega) (by omega), List.drop_eq_getElem_cons hi', show (i : Int) + 1 = ((i + 1 : Nat) : Int) by omega, rounds]
    by_cases hlast : i + 1 < l.length
    · have hne : (l.drop (i + 1)).isEmpty = false := by
        cases e : l.drop (i + 1) with
        | nil => have := congrArg List.length e; rw [List.length_drop] at this; simp at this; omega
        | cons _ _ => rfl
      obtain ⟨z, e⟩ := ih (i + 1) f (xorL (mixL (turnL (boxL st))) l[i]) (by omega) (by omega) (by omega) (by rw [xor_length (by rw [mix_length h2, hq]), mix_length h2])
      refine ⟨z, ?_⟩
      rw [cT (by omega), g80 h2 (by omega), Option.bind_some, gp rfl, str_at' hi', Option.bind_some, getD_lt hi', g77 (by rw [mix_length h2, hq]) (by rw [mix_length h2]; omega) (by omega), Option.bind_some, hne, cond_false]
      exact e
    · have he : l.drop (i + 1) = [] := List.drop_eq_nil_of_le (by omega)
      obtain ⟨z, e⟩ := ih (i + 1) f (xorL (turnL (boxL st)) l[i]) (by omega) (by omega) (by omega) (by rw [xor_length (by rw [h2, hq]), h2])
      refine ⟨z, ?_⟩
      rw [cF (by omega), gp rfl, str_at' hi', Option.bind_some, getD_lt hi', g77 (by rw [h2, hq]) (by rw [h2]; omega) (by omega), Option.bind_some, he, List.isEmpty_nil, cond_true]
      rw [he] at e
      exact e
theorem g51 {k : Nat} {s t : List UInt8} (h : keyOk s) (ht : t.length = 16) (hk : 1200 ≤ k) : F51 k s t = some (aes s t) := by
  have hK := kN_cases h
  have hl := keys_length s
  have h16 : ∀ q ∈ keys s, q.length = 16 := fun q hq => keys_16 h hq
  have q0 := h16 _ (List.getElem_mem (show 0 < (keys s).length by omega))
  unfold F51
  rw [g76 h (by omega), Option.bind_some]
  simp only
  have e0 := str_at' (l := keys s) (i := 0) (by omega)
  have e0' : (at? ((keys s).map V.str) 0).bind dS = some ((keys s).getD 0 []) := e0
  rw [gp trivial, e0', Option.bind_some, getD_lt (by omega), g77 (by omega) (by omega) (by omega), Option.bind_some]
  obtain ⟨z, e⟩ := L51r (k := k) (s := s) (t := t) (by omega) h16 (by omega) ((keys s).length - 1) 1 (k + 23) (xorL t (keys s)[0]) (by omega) (by omega) (by omega) (by rw [xor_length (by omega), ht])
  rw [show ((1 : Nat) : Int) = 1 from rfl] at e
  rw [e, Option.bind_some]
  unfold aes aesT
  rw [getD_lt (by omega)]
end Go.Proofs.Ae
set_option linter.unusedVariables false
set_option linter.unusedSimpArgs false
set_option maxRecDepth 1000000
namespace Go.Proofs.Ae
open Go Go.Sym Go.Proofs.Fl
theorem g64 {k : Nat} (c0 c1 c2 c3 c4 c5 c6 c7 c8 c9 c10 c11 c12 c13 c14 c15 : Int) : F64 k c0 c1 c2 c3 c4 c5 c6 c7 c8 c9 c10 c11 c12 c13 c14 c15 = some (c0, c5, c10, c15, c4, c9, c14, c3, c8, c13, c2, c7, c12, c1, c6, c11) := rfl
theorem L46r {k : Nat} {j1 j2 j3 j4 j5 j6 j7 j8 j9 j10 j11 j12 j13 j14 j15 j16 : Int} {t : List UInt8} {l : List (List UInt8)} (hl : l.length ≤ 100) (h16 : ∀ q ∈ l, q.length = 16) (hk : 1100 ≤ k) : ∀ (c i f : Nat) (st : List UInt8) (c0 c1 c2 c3 c4 c5 c6 c7 c8 c9 c10 c11 c12 c13 c14 c15 : UInt8), l.length - 1 - i = c → i + 1 ≤ l.length → c < f → st = [c0, c1, c2, c3, c4, c5, c6, c7, c8, c9, c10, c11, c12, c13, c14, c15] →
    ∃ (z : Int) (d0 d1 d2 d3 d4 d5 d6 d7 d8 d9 d10 d11 d12 d13 d14 d15 : UInt8), L46_0 k j1 j2 j3 j4 j5 j6 j7 j8 j9 j10 j11 j12 j13 j14 j15 j16 false t (l.map V.str) none 1 f (i : Int) (c0.toNat : Int) (c1.toNat : Int) (c2.toNat : Int) (c3.toNat : Int) (c4.toNat : Int) (c5.toNat : Int) (c6.toNat : Int) (c7.toNat : Int) (c8.toNat : Int) (c9.toNat : Int) (c10.toNat : Int) (c11.toNat : Int) (c12.toNat : Int) (c13.toNat : Int) (c14.toNat : Int) (c15.toNat : Int) = some (.e0 z (d0.toNat : Int) (d1.toNat : Int) (d2.toNat : Int) (d3.toNat : Int) (d4.toNat : Int) (d5.toNat : Int) (d6.toNat : Int) (d7.toNat : Int) (d8.toNat : Int) (d9.toNat : Int) (d10.toNat : Int) (d11.toNat : Int) (d12.toNat : Int) (d13.toNat : Int) (d14.toNat : Int) (d15.toNat : Int)) ∧ [d0, d1, d2, d3, d4, d5, d6, d7, d8, d9, d10, d11, d12, d13, d14, d15] = rounds (l.drop (i + 1)) st := by
  intro c
  induction c with
  | zero =>
    intro i f st c0 c1 c2 c3 c4 c5 c6 c7 c8 c9 c10 c11 c12 c13 c14 c15 hc hi hf hst
    obtain ⟨f, rfl⟩ : ∃ y, f = y + 1 := ⟨f - 1, by omega⟩
    refine ⟨(i : Int), c0, c1, c2, c3, c4, c5, c6, c7, c8, c9, c10, c11, c12, c13, c14, c15, ?_, ?_⟩
    · rw [L46_0, cF (by rw [List.length_drop, List.length_map, show Int.toNat 1 = 1 from rfl]; omega)]
    · rw [List.drop_eq_nil_of_le (by omega), hst]; rfl
  | succ c ih =>
    intro i f st c0 c1 c2 c3 c4 c5 c6 c7 c8 c9 c10 c11 c12 c13 c14 c15 hc hi hf hst
    obtain ⟨f, rfl⟩ : ∃ y, f = y + 1 := ⟨f - 1, by omega⟩
    have hi' : i + 1 < l.length := by omega
    obtain ⟨b0, b1, b2, b3, b4, b5, b6, b7, b8, b9, b10, b11, b12, b13, b14, b15, hb⟩ := len16 (h16 _ (List.getElem_mem hi'))
    have hat : (at? (List.drop (Int.toNat 1) (l.map V.str)) (i : Int)).bind dS = some [b0, b1, b2, b3, b4, b5, b6, b7, b8, b9, b10, b11, b12, b13, b14, b15] := by
      rw [← hb, show Int.toNat 1 = 1 from rfl, ← List.map_drop, at_map (by rw [List.length_drop]; omega), List.getElem_drop]
      show some l[1 + i] = some l[i + 1]
      congr 2; omega
    rw [List.drop_eq_getElem_cons hi', rounds, hst, hb]
    have hrd : ∀ (x : Bool) (u v : List UInt8), (l.drop (i + 1 + 1)).isEmpty = x → (bif (l.drop (i + 1 + 1)).isEmpty then u else v) = bif x then u else v := fun x u v e => by rw [e]
    by_cases hlast : i + 2 < l.length
    · have hne : (l.drop (i + 1 + 1)).isEmpty = false := by
        cases e : l.drop (i + 1 + 1) with
        | nil => have := congrArg List.length e; rw [List.length_drop] at this; simp at this; omega
        | cons _ _ => rfl
      obtain ⟨z, d0, d1, d2, d3, d4, d5, d6, d7, d8, d9, d10, d11, d12, d13, d14, d15, e, p⟩ := ih (i + 1) f (xorL (mixL (turnL (boxL [c0, c1, c2, c3, c4, c5, c6, c7, c8, c9, c10, c11, c12, c13, c14, c15]))) [b0, b1, b2, b3, b4, b5, b6, b7, b8, b9, b10, b11, b12, b13, b14, b15]) _ _ _ _ _ _ _ _ _ _ _ _ _ _ _ _ (by omega) (by omega) (by omega) rfl
      refine ⟨z, d0, d1, d2, d3, d4, d5, d6, d7, d8, d9, d10, d11, d12, d13, d14, d15, ?_, ?_⟩
      · rw [L46_0, cT (by rw [List.length_drop, List.length_map, show Int.toNat 1 = 1 from rfl]; omega), gp rfl, hat, Option.bind_some, g63 (by omega), Option.bind_some]
        simp only
        rw [g64, Option.bind_some]
        simp only
        rw [List.length_map, wi (n := (l.length : Int) - 2) (by omega) (by omega), cT (by omega), g65 (by omega), Option.bind_some]
        simp only
        rw [g62, Option.bind_some]
        simp only
        rw [wi (n := (i : Int) + 1) (by omega) (by omega), show (i : Int) + 1 = ((i + 1 : Nat) : Int) by omega]
        exact e
      · rw [hne, cond_false]; exact p
    · have he : l.drop (i + 1 + 1) = [] := List.drop_eq_nil_of_le (by omega)
      obtain ⟨z, d0, d1, d2, d3, d4, d5, d6, d7, d8, d9, d10, d11, d12, d13, d14, d15, e, p⟩ := ih (i + 1) f (xorL (turnL (boxL [c0, c1, c2, c3, c4, c5, c6, c7, c8, c9, c10, c11, c12, c13, c14, c15])) [b0, b1, b2, b3, b4, b5, b6, b7, b8, b9, b10, b11, b12, b13, b14, b15]) _ _ _ _ _ _ _ _ _ _ _ _ _ _ _ _ (by omega) (by omega) (by omega) rfl
      refine ⟨z, d0, d1, d2, d3, d4, d5, d6, d7, d8, d9, d10, d11, d12, d13, d14, d15, ?_, ?_⟩
      · rw [L46_0, cT (by rw [List.length_drop, List.length_map, show Int.toNat 1 = 1 from rfl]; omega), gp rfl, hat, Option.bind_some, g63 (by omega), Option.bind_some]
        simp only
        rw [g64, Option.bind_some]
        simp only
        rw [List.length_map, wi (n := (l.length : Int) - 2) (by omega) (by omega), cF (by omega), g62, Option.bind_some]
        simp only
        rw [wi (n := (i : Int) + 1) (by omega) (by omega), show (i : Int) + 1 = ((i + 1 : Nat) : Int) by omega]
        exact e
      · rw [he, List.isEmpty_nil, cond_true]
        rw [he] at p
        exact p
theorem arr16 {c0 c1 c2 c3 c4 c5 c6 c7 c8 c9 c10 c11 c12 c13 c14 c15 : UInt8} : (arr? ([c0, c1, c2, c3, c4, c5, c6, c7, c8, c9, c10, c11, c12, c13, c14, c15].map ub) 0 16).bind dAu8u8u8u8u8u8u8u8u8u8u8u8u8u8u8u8Z = some ((c0.toNat : Int), (c1.toNat : Int), (c2.toNat : Int), (c3.toNat : Int), (c4.toNat : Int), (c5.toNat : Int), (c6.toNat : Int), (c7.toNat : Int), (c8.toNat : Int), (c9.toNat : Int), (c10.toNat : Int), (c11.toNat : Int), (c12.toNat : Int), (c13.toNat : Int), (c14.toNat : Int), (c15.toNat : Int)) := rfl
theorem g46 {k : Nat} {s t : List UInt8} (h : keyOk s) (ht : t.length = 16) (hk : 1200 ≤ k) : F46 k s t = some (aes s t, 0) := by
  have hK := kN_cases h
  have hl := keys_length s
  have h16 : ∀ q ∈ keys s, q.length = 16 := fun q hq => keys_16 h hq
  obtain ⟨c0, c1, c2, c3, c4, c5, c6, c7, c8, c9, c10, c11, c12, c13, c14, c15, rfl⟩ := len16 ht
  obtain ⟨b0, b1, b2, b3, b4, b5, b6, b7, b8, b9, b10, b11, b12, b13, b14, b15, hb⟩ := len16 (h16 _ (List.getElem_mem (show 0 < (keys s).length by omega)))
  unfold F46
  rw [g59 h (by omega), Option.bind_some]
  show (bif !decide ((0 : Int) = 0) then _ else _) = _
  have e0 := str_at' (l := keys s) (i := 0) (by omega)
  rw [getD_lt (by omega), hb] at e0
  rw [cNT rfl, cNT (by rw [ht]; rfl), gp (by show 16 ≤ maxLen'; unfold maxLen'; omega), gp (by show 16 ≤ 16; omega)]
  show ((((arr? ([c0, c1, c2, c3, c4, c5, c6, c7, c8, c9, c10, c11, c12, c13, c14, c15].map ub) 0 16).bind dAu8u8u8u8u8u8u8u8u8u8u8u8u8u8u8u8Z)).bind _) = _
  rw [arr16, Option.bind_some]
  show guardP ((1 : Nat) = 1) _ = _
  rw [gp rfl, show (at? ((keys s).map V.str) 0) = at? ((keys s).map V.str) ((0 : Nat) : Int) from rfl, e0, Option.bind_some, g62, Option.bind_some]
  show guardP _ _ = _
  rw [gp (by rw [List.length_map]; omega)]
  obtain ⟨z, d0, d1, d2, d3, d4, d5, d6, d7, d8, d9, d10, d11, d12, d13, d14, d15, e, p⟩ := L46r (k := k) (j1 := (c0.toNat : Int)) (j2 := (c1.toNat : Int)) (j3 := (c2.toNat : Int)) (j4 := (c3.toNat : Int)) (j5 := (c4.toNat : Int)) (j6 := (c5.toNat : Int)) (j7 := (c6.toNat : Int)) (j8 := (c7.toNat : Int)) (j9 := (c8.toNat : Int)) (j10 := (c9.toNat : Int)) (j11 := (c10.toNat : Int)) (j12 := (c11.toNat : Int)) (j13 := (c12.toNat : Int)) (j14 := (c13.toNat : Int)) (j15 := (c14.toNat : Int)) (j16 := (c15.toNat : Int)) (t := [c0, c1, c2, c3, c4, c5, c6, c7, c8, c9, c10, c11, c12, c13, c14, c15]) (l := keys s) (by omega) h16 (by omega) ((keys s).length - 1) 0 (k + 36) (xorL [c0, c1, c2, c3, c4, c5, c6, c7, c8, c9, c10, c11, c12, c13, c14, c15] (keys s)[0]) _ _ _ _ _ _ _ _ _ _ _ _ _ _ _ _ (by omega) (by omega) (by omega) (by rw [hb]; rfl)
  have e' : L46_0 k (c0.toNat : Int) (c1.toNat : Int) (c2.toNat : Int) (c3.toNat : Int) (c4.toNat : Int) (c5.toNat : Int) (c6.toNat : Int) (c7.toNat : Int) (c8.toNat : Int) (c9.toNat : Int) (c10.toNat : Int) (c11.toNat : Int) (c12.toNat : Int) (c13.toNat : Int) (c14.toNat : Int) (c15.toNat : Int) false [c0, c1, c2, c3, c4, c5, c6, c7, c8, c9, c10, c11, c12, c13, c14, c15] ((keys s).map V.str) none 1 (k + 36) 0 ((c0 ^^^ b0).toNat : Int) ((c1 ^^^ b1).toNat : Int) ((c2 ^^^ b2).toNat : Int) ((c3 ^^^ b3).toNat : Int) ((c4 ^^^ b4).toNat : Int) ((c5 ^^^ b5).toNat : Int) ((c6 ^^^ b6).toNat : Int) ((c7 ^^^ b7).toNat : Int) ((c8 ^^^ b8).toNat : Int) ((c9 ^^^ b9).toNat : Int) ((c10 ^^^ b10).toNat : Int) ((c11 ^^^ b11).toNat : Int) ((c12 ^^^ b12).toNat : Int) ((c13 ^^^ b13).toNat : Int) ((c14 ^^^ b14).toNat : Int) ((c15 ^^^ b15).toNat : Int) = some (.e0 z (d0.toNat : Int) (d1.toNat : Int) (d2.toNat : Int) (d3.toNat : Int) (d4.toNat : Int) (d5.toNat : Int) (d6.toNat : Int) (d7.toNat : Int) (d8.toNat : Int) (d9.toNat : Int) (d10.toNat : Int) (d11.toNat : Int) (d12.toNat : Int) (d13.toNat : Int) (d14.toNat : Int) (d15.toNat : Int)) := e
  rw [e', Option.bind_some]
  have hr : List.map Sym.byteOf ((1 : Nat), List.take 16 (List.drop 0 ([d0, d1, d2, d3, d4, d5, d6, d7, d8, d9, d10, d11, d12, d13, d14, d15].map ub))).snd = aes s [c0, c1, c2, c3, c4, c5, c6, c7, c8, c9, c10, c11, c12, c13, c14, c15] := by
    show List.map Sym.byteOf ([d0, d1, d2, d3, d4, d5, d6, d7, d8, d9, d10, d11, d12, d13, d14, d15].map ub) = _
    rw [byteOf_ub, p]
    unfold aes aesT
    rw [getD_lt (by omega)]
  exact congrArg (fun x => some (x, (0 : Int))) hr
theorem aes_length {s t : List UInt8} (h : keyOk s) (ht : t.length = 16) : (aes s t).length = 16 := by
  have hK := kN_cases h
  have hl := keys_length s
  have h16 : ∀ q ∈ keys s, q.length = 16 := fun q hq => keys_16 h hq
  unfold aes aesT
  have q0 := h16 _ (List.getElem_mem (show 0 < (keys s).length by omega))
  exact rounds_length _ _ (fun q hq => h16 q (List.mem_of_mem_drop hq)) (by rw [getD_lt (by omega), xor_length (by omega), ht])
end Go.Proofs.Ae
set_option linter.unusedVariables false
set_option linter.unusedSimpArgs false
namespace Go.Sym.Gf
abbrev E := BitVec 128
def mulx (e : E) : E := (e <<< 1) ^^^ (bif e.getLsbD 127 then 135#128 else 0#128)
def ind (b : Bool) (e : E) : E := bif b then e else 0#128
def S : Nat → (Nat → E) → E
  | 0, _ => 0#128
  | n + 1, f => S n f ^^^ f n
def mxn : Nat → E → E
  | 0, e => e
  | n + 1, e => mulx (mxn n e)
def X (n : Nat) : E := mxn n 1#128
def gm (a b : E) : E := S 128 fun i => ind (b.getLsbD i) (mxn i a)
def Lin (f : E → E) : Prop := ∀ a b, f (a ^^^ b) = f a ^^^ f b
theorem mulx_lin : Lin mulx := by
  intro a b
  apply BitVec.eq_of_getLsbD_eq
  intro i hi
  unfold mulx
  simp only [BitVec.getLsbD_xor, BitVec.getLsbD_shiftLeft]
  cases a.getLsbD 127 <;> cases b.getLsbD 127 <;> cases (135#128).getLsbD i <;> cases a.getLsbD (i - 1) <;> cases b.getLsbD (i - 1) <;> cases decide (i < 128) <;> cases decide (i < 1) <;> simp_all
theorem lin_zero {f : E → E} (h : Lin f) : f 0#128 = 0#128 := by
  have := h 0#128 0#128
  rw [BitVec.xor_self, BitVec.xor_self] at this
  exact this
theorem lin_ind {f : E → E} (h : Lin f) (b : Bool) (e : E) : f (ind b e) = ind b (f e) := by
  cases b
  · exact lin_zero h
  · rfl
theorem lin_S {f : E → E} (h : Lin f) (n : Nat) (g : Nat → E) : f (S n g) = S n fun i => f (g i) := by
  induction n with
  | zero => exact lin_zero h
  | succ n ih => show f (S n g ^^^ g n) = _; rw [h, ih]; rfl
theorem ind_lin (b : Bool) : Lin (ind b) := by
  intro x y; cases b
  · exact (BitVec.xor_self).symm
  · rfl
theorem mxn_lin (n : Nat) : Lin (mxn n) := by
  induction n with
  | zero => intro a b; rfl
  | succ n ih => intro a b; show mulx (mxn n (a ^^^ b)) = _; rw [ih, mulx_lin]; rfl
theorem S_congr {n : Nat} {f g : Nat → E} (h : ∀ i, i < n → f i = g i) : S n f = S n g := by
  induction n with
  | zero => rfl
  | succ n ih => show S n f ^^^ f n = S n g ^^^ g n; rw [ih fun i hi => h i (by omega), h n (by omega)]
theorem x4 (a b c d : E) : (a ^^^ b) ^^^ (c ^^^ d) = (a ^^^ c) ^^^ (b ^^^ d) := by
  ac_rfl
theorem S_xor (n : Nat) (f g : Nat → E) : S n (fun i => f i ^^^ g i) = S n f ^^^ S n g := by
  induction n with
  | zero => exact (BitVec.xor_self).symm
  | succ n ih => show S n _ ^^^ (f n ^^^ g n) = (S n f ^^^ f n) ^^^ (S n g ^^^ g n); rw [ih, x4]
theorem S_zero (n : Nat) : S n (fun _ => 0#128) = 0#128 := by
  induction n with
  | zero => rfl
  | succ n ih => show S n _ ^^^ 0#128 = _; rw [ih]; rfl
theorem S_comm (n m : Nat) (f : Nat → Nat → E) : S n (fun i => S m (fun j => f i j)) = S m (fun j => S n (fun i => f i j)) := by
  induction n with
  | zero => exact (S_zero m).symm
  | succ n ih => show S n _ ^^^ S m _ = S m (fun j => S n (fun i => f i j) ^^^ f n j); rw [ih, S_xor]
theorem ind_comm (b c : Bool) (e : E) : ind b (ind c e) = ind c (ind b e) := by cases b <;> cases c <;> rfl
theorem ind_xor (b c : Bool) (e : E) : ind (b ^^ c) e = ind b e ^^^ ind c e := by
  cases b <;> cases c
  · exact (BitVec.xor_self).symm
  · exact (BitVec.zero_xor).symm
  · exact (BitVec.xor_zero).symm
  · exact (BitVec.xor_self).symm
theorem ind_and (b c : Bool) (e : E) : ind (b && c) e = ind b (ind c e) := by cases b <;> cases c <;> rfl
theorem mxn_add (i j : Nat) (e : E) : mxn (i + j) e = mxn i (mxn j e) := by
  induction i with
  | zero => rw [Nat.zero_add]; rfl
  | succ i ih => rw [Nat.succ_add]; show mulx (mxn (i + j) e) = _; rw [ih]; rfl
theorem X_shl (n : Nat) (h : n < 128) : X n = 1#128 <<< n := by
  induction n with
  | zero => rfl
  | succ n ih =>
    show mulx (X n) = _
    rw [ih (by omega)]
    unfold mulx
    have e : (1#128 <<< n).getLsbD 127 = false := by
      rw [BitVec.getLsbD_shiftLeft, BitVec.getLsbD_one]
      rw [decide_eq_false (show ¬(127 - n = 0) by omega)]; simp
    rw [e]
    show (1#128 <<< n <<< 1) ^^^ 0#128 = _
    rw [BitVec.xor_zero, BitVec.shiftLeft_add]
theorem X_bit (n i : Nat) (h : n < 128) (hi : i < 128) : (X n).getLsbD i = decide (i = n) := by
  rw [X_shl n h, BitVec.getLsbD_shiftLeft, BitVec.getLsbD_one, decide_eq_true hi]
  by_cases h1 : i < n
  · rw [decide_eq_true h1, decide_eq_false (show ¬(i = n) by omega)]; simp
  · rw [decide_eq_false h1]
    by_cases h2 : i = n
    · subst h2; simp
    · rw [decide_eq_false h2, decide_eq_false (show ¬(i - n = 0) by omega)]; simp
theorem S_bit (n : Nat) (hn : n ≤ 128) (f : Nat → Bool) (j : Nat) (hj : j < 128) : (S n fun i => ind (f i) (X i)).getLsbD j = (decide (j < n) && f j) := by
  induction n with
  | zero => show (0#128).getLsbD j = _; rw [decide_eq_false (by omega)]; simp
  | succ n ih =>
    show ((S n fun i => ind (f i) (X i)) ^^^ ind (f n) (X n)).getLsbD j = _
    rw [BitVec.getLsbD_xor, ih (by omega)]
    by_cases h : j = n
    · subst h
      rw [decide_eq_false (show ¬(j < j) by omega), decide_eq_true (show j < j + 1 by omega)]
      cases hf : f j
      · show (false ^^ (0#128).getLsbD j) = _; simp
      · show (false ^^ (X j).getLsbD j) = _; rw [X_bit j j (by omega) hj]; simp
    · have e : (ind (f n) (X n)).getLsbD j = false := by
        cases hf : f n
        · show (0#128).getLsbD j = _; simp
        · show (X n).getLsbD j = _; rw [X_bit n j (by omega) hj, decide_eq_false h]
      rw [e]
      by_cases h2 : j < n
      · rw [decide_eq_true h2, decide_eq_true (show j < n + 1 by omega)]; simp
      · rw [decide_eq_false h2, decide_eq_false (show ¬ (j < n + 1) by omega)]; simp
def mk (f : Nat → Bool) : E := S 128 fun i => ind (f i) (X i)
theorem mk_bit (f : Nat → Bool) (j : Nat) (hj : j < 128) : (mk f).getLsbD j = f j := by
  unfold mk; rw [S_bit 128 (Nat.le_refl _) f j hj, decide_eq_true hj]; simp
theorem ext {a b : E} (h : ∀ i, i < 128 → a.getLsbD i = b.getLsbD i) : a = b := BitVec.eq_of_getLsbD_eq h
theorem mk_get (a : E) : mk a.getLsbD = a := ext fun i hi => mk_bit _ i hi
theorem expand (a : E) : a = S 128 fun i => ind (a.getLsbD i) (X i) := (mk_get a).symm
theorem mxn_exp (i : Nat) (a : E) : mxn i a = S 128 fun j => ind (a.getLsbD j) (X (i + j)) := by
  have e := congrArg (mxn i) (expand a)
  rw [lin_S (mxn_lin i)] at e
  rw [e]
  apply S_congr
  intro j _
  rw [lin_ind (mxn_lin i)]
  rw [show X (i + j) = mxn i (X j) from mxn_add i j 1#128]
theorem gm_exp (a b : E) : gm a b = S 128 fun i => S 128 fun j => ind (b.getLsbD i) (ind (a.getLsbD j) (X (i + j))) := by
  unfold gm
  apply S_congr
  intro i _
  rw [mxn_exp i a, lin_S (ind_lin _)]
def hor (a b : E) : Nat → E
  | 0 => 0#128
  | n + 1 => mulx (hor a b n) ^^^ ind (b.getLsbD (127 - n)) a
theorem hor_eq (a b : E) (n : Nat) (h : n ≤ 128) : hor a b n = S n fun i => ind (b.getLsbD (128 - n + i)) (mxn i a) := by
  induction n with
  | zero => rfl
  | succ n ih =>
    show mulx (hor a b n) ^^^ _ = _
    rw [ih (by omega), lin_S mulx_lin]
    have : ∀ (m : Nat) (f : Nat → E), S (m + 1) f = (S m fun i => f (i + 1)) ^^^ f 0 := by
      intro m f
      induction m with
      | zero => rfl
      | succ m ih => show S (m + 1) f ^^^ f (m + 1) = ((S m fun i => f (i + 1)) ^^^ f (m + 1)) ^^^ f 0; rw [ih]; ac_rfl
    rw [this]
    congr 1
    · apply S_congr; intro i _
      rw [lin_ind mulx_lin]
      rw [show 128 - (n + 1) + (i + 1) = 128 - n + i by omega]; rfl
    · rw [show 128 - (n + 1) + 0 = 127 - n by omega]; rfl
theorem gm_hor (a b : E) : gm a b = hor a b 128 := by
  rw [hor_eq a b 128 (Nat.le_refl _)]
  unfold gm
  apply S_congr; intro i _
  rw [show 128 - 128 + i = i by omega]
theorem X_128 : X 128 = 135#128 := by kernel_rfl
theorem X_red (n : Nat) (h : 128 ≤ n) : X n = X (n - 128) ^^^ X (n - 127) ^^^ X (n - 126) ^^^ X (n - 121) := by
  obtain ⟨m, rfl⟩ : ∃ m, n = m + 128 := ⟨n - 128, by omega⟩
  rw [show m + 128 - 128 = m by omega, show m + 128 - 127 = m + 1 by omega, show m + 128 - 126 = m + 2 by omega, show m + 128 - 121 = m + 7 by omega]
  rw [show X (m + 128) = mxn m (X 128) from mxn_add m 128 _, X_128]
  rw [show X (m + 1) = mxn m (X 1) from mxn_add m 1 _, show X (m + 2) = mxn m (X 2) from mxn_add m 2 _, show X (m + 7) = mxn m (X 7) from mxn_add m 7 _]
  show _ = mxn m 1#128 ^^^ _ ^^^ _ ^^^ _
  rw [← mxn_lin, ← mxn_lin, ← mxn_lin]
  rw [show (1#128 ^^^ X 1 ^^^ X 2 ^^^ X 7) = 135#128 from by kernel_rfl]
end Go.Sym.Gf
set_option linter.unusedVariables false
set_option linter.unusedSimpArgs false
set_option maxRecDepth 100000
namespace Go.Proofs
open Go Go.Sym Go.Sym.Gf
def cof (s : List UInt8) (i : Nat) : Bool := (s[i / 8]?.getD 0).toNat.testBit (7 - i % 8)
def el (s : List UInt8) : E := mk (cof s)
def pe (h l : Wd) : E := mk fun i => bif decide (i < 64) then h.getLsbD (63 - i) else l.getLsbD (127 - i)
theorem el_bit (s : List UInt8) {i : Nat} (h : i < 128) : (el s).getLsbD i = cof s i := mk_bit _ i h
theorem pe_hi (h l : Wd) {i : Nat} (hi : i < 64) : (pe h l).getLsbD i = h.getLsbD (63 - i) := by
  unfold pe; rw [mk_bit _ i (by omega), decide_eq_true hi]; rfl
theorem pe_lo (h l : Wd) {i : Nat} (h1 : 64 ≤ i) (h2 : i < 128) : (pe h l).getLsbD i = l.getLsbD (127 - i) := by
  unfold pe; rw [mk_bit _ i h2, decide_eq_false (by omega)]; rfl
theorem cof_inj {s t : List UInt8} {n : Nat} (hs : s.length = n) (ht : t.length = n) (h : ∀ i, i < 8 * n → cof s i = cof t i) : s = t := by
  apply List.ext_getElem (hs.trans ht.symm)
  intro j h1 h2
  apply UInt8.toNat_inj.1
  apply Nat.eq_of_testBit_eq
  intro p
  by_cases hp : p < 8
  · have := h (8 * j + (7 - p)) (by omega)
    unfold cof at this
    rw [show (8 * j + (7 - p)) / 8 = j by omega, show 7 - (8 * j + (7 - p)) % 8 = p by omega, List.getElem?_eq_getElem h1, List.getElem?_eq_getElem h2] at this
    exact this
  · have a := s[j].toNat_lt
    have b := t[j].toNat_lt
    have z : ∀ x : Nat, x < 256 → x.testBit p = false := by
      intro x hx
      apply Nat.testBit_lt_two_pow
      exact Nat.lt_of_lt_of_le hx (Nat.pow_le_pow_right (n := 2) (by omega) (show 8 ≤ p by omega))
    rw [z _ a, z _ b]
theorem el_inj {s t : List UInt8} (hs : s.length = 16) (ht : t.length = 16) (h : el s = el t) : s = t := by
  refine cof_inj hs ht fun i hi => ?_
  rw [← el_bit s (by omega), h, el_bit t (by omega)]
theorem dec_bit {p : Prop} [Decidable p] {b : Bool} (h : p ↔ b = true) : decide p = b := by
  rw [Bool.eq_iff_iff, decide_eq_true_iff]; exact h
theorem and1 (w : Wd) : (IntKind.u64.wrap (↑(BitVec.ofInt IntKind.u64.bits (w.toNat : Int) &&& BitVec.ofInt IntKind.u64.bits 1).toNat : Int) = 1) ↔ w.getLsbD 0 = true := by
  have := bit_w w 0
  rw [shr_w, BitVec.ushiftRight_zero] at this
  exact this
theorem c79 : ∀ i, i < 64 → (16212958658533785600#64).getLsbD (63 - i) = (135#128).getLsbD i := by
  have h : ((List.range 64).all fun i => (16212958658533785600#64).getLsbD (63 - i) == (135#128).getLsbD i) = true := by kernel_rfl
  intro i hi
  exact eq_of_beq (List.all_eq_true.1 h i (List.mem_range.2 hi))
theorem d79 : ∀ i, i < 128 → 64 ≤ i → (135#128).getLsbD i = false := by
  have h : ((List.range 128).all fun i => i.blt 64 || (135#128).getLsbD i == false) = true := by kernel_rfl
  intro i hi h6
  have := List.all_eq_true.1 h i (List.mem_range.2 hi)
  rw [Bool.or_eq_true] at this
  rcases this with h | h
  · exact absurd (Nat.le_of_ble_eq_true h) (by omega)
  · exact eq_of_beq h
theorem mulx_bit (e : E) {i : Nat} (h : i < 128) : (mulx e).getLsbD i = ((!decide (i < 1) && e.getLsbD (i - 1)) ^^ (e.getLsbD 127 && (135#128).getLsbD i)) := by
  unfold mulx
  rw [BitVec.getLsbD_xor, BitVec.getLsbD_shiftLeft, decide_eq_true h, Bool.true_and]
  cases e.getLsbD 127
  · show (_ ^^ (0#128).getLsbD i) = _; simp
  · show (_ ^^ (135#128).getLsbD i) = _; simp
def hi79 (h l : Wd) : Wd := (h >>> 1) ^^^ (bif l.getLsbD 0 then 16212958658533785600#64 else 0#64)
def lo79 (h l : Wd) : Wd := (h <<< 63) ||| (l >>> 1)
theorem e79 (h l : Wd) : pe (hi79 h l) (lo79 h l) = mulx (pe h l) := by
  apply ext
  intro i hi
  rw [mulx_bit _ hi, pe_lo h l (i := 127) (by omega) (by omega)]
  rw [show 127 - 127 = 0 from rfl]
  by_cases h1 : i < 64
  · rw [pe_hi _ _ h1]
    unfold hi79
    rw [BitVec.getLsbD_xor, BitVec.getLsbD_ushiftRight]
    have e : (bif l.getLsbD 0 then 16212958658533785600#64 else 0#64).getLsbD (63 - i) = (l.getLsbD 0 && (135#128).getLsbD i) := by
      rw [← c79 i h1]
      cases l.getLsbD 0
      · show (0#64).getLsbD _ = _; simp
      · show (16212958658533785600#64).getLsbD _ = _; simp
    rw [e]
    congr 1
    by_cases h0 : i = 0
    · subst h0; rw [BitVec.getLsbD_of_ge _ _ (by omega)]; rfl
    · rw [decide_eq_false (show ¬(i < 1) by omega), pe_hi _ _ (show i - 1 < 64 by omega), show 63 - (i - 1) = 1 + (63 - i) by omega]; rfl
  · rw [pe_lo _ _ (by omega) hi, d79 i hi (by omega), Bool.and_false, Bool.xor_false, decide_eq_false (show ¬(i < 1) by omega)]
    unfold lo79
    rw [BitVec.getLsbD_or, BitVec.getLsbD_shiftLeft, BitVec.getLsbD_ushiftRight]
    show _ = (true && _)
    rw [Bool.true_and]
    by_cases h2 : i = 64
    · subst h2
      rw [pe_hi _ _ (show 64 - 1 < 64 by omega)]
      show (true && true && h.getLsbD 0 || l.getLsbD 64) = h.getLsbD 0
      rw [BitVec.getLsbD_of_ge l 64 (by omega)]; simp
    · rw [pe_lo _ _ (show 64 ≤ i - 1 by omega) (by omega), decide_eq_true (show 127 - i < 63 by omega)]
      rw [show 127 - (i - 1) = 1 + (127 - i) by omega]; simp
theorem g99 (k : Nat) (h l : Wd) : F99 k (h.toNat : Int) (l.toNat : Int) = some (((hi79 h l).toNat : Int), ((lo79 h l).toNat : Int)) := by
  unfold F99 hi79 lo79
  rw [shr_w, shr_w, shl_w, or_w, show (16212958658533785600 : Int) = ((16212958658533785600#64).toNat : Int) from rfl, xor_w]
  rw [dec_bit (and1 l)]
  cases l.getLsbD 0
  · show some ((((h >>> 1).toNat : Int)), _) = some ((((h >>> 1) ^^^ 0#64).toNat : Int), _)
    rw [BitVec.xor_zero]; rfl
  · rfl
theorem c80 : ∀ i : Nat, i < 128 → ((i : Int).fdiv (2 ^ min (Int.toNat 6) IntKind.i64.bits)) = ((i / 64 : Nat) : Int) ∧ IntKind.i64.wrap (63 - IntKind.i64.wrap (↑(BitVec.ofInt IntKind.i64.bits (i : Int) &&& BitVec.ofInt IntKind.i64.bits 63).toNat : Int)) = ((63 - i % 64 : Nat) : Int) := by
  have : decide (∀ i : Nat, i < 128 → ((i : Int).fdiv (2 ^ min (Int.toNat 6) IntKind.i64.bits)) = ((i / 64 : Nat) : Int) ∧ IntKind.i64.wrap (63 - IntKind.i64.wrap (↑(BitVec.ofInt IntKind.i64.bits (i : Int) &&& BitVec.ofInt IntKind.i64.bits 63).toNat : Int)) = ((63 - i % 64 : Nat) : Int)) = true := by kernel_rfl
  exact of_decide_eq_true this
theorem g100 (k : Nat) (h l : Wd) {i : Nat} (hi : i < 128) : F100 k (h.toNat : Int) (l.toNat : Int) (i : Int) = some ((pe h l).getLsbD i) := by
  obtain ⟨e1, e2⟩ := c80 i hi
  unfold F100
  rw [e1, e2, Int.toNat_natCast, gp (Int.natCast_nonneg _), gp (Int.natCast_nonneg _), dec_bit (bit_w h _), dec_bit (bit_w l _)]
  by_cases h1 : i < 64
  · rw [show i / 64 = 0 by omega, pe_hi _ _ h1, show 63 - i % 64 = 63 - i by omega]; rfl
  · rw [show i / 64 = 1 by omega, pe_lo _ _ (by omega) hi, show 63 - i % 64 = 127 - i by omega]; rfl
theorem l47 (k : Nat) (a b c d : Wd) (m : Nat) : ∀ (f : Nat) (h l : Wd), m ≤ 128 → m + 1 ≤ f → pe h l = hor (pe a b) (pe c d) (128 - m) →
    ∃ h' l' : Wd, L74_0 k (a.toNat : Int) (b.toNat : Int) (c.toNat : Int) (d.toNat : Int) f ((m : Int) - 1) (h.toNat : Int) (l.toNat : Int) = some (.e0 (-1) (h'.toNat : Int) (l'.toNat : Int)) ∧ pe h' l' = hor (pe a b) (pe c d) 128 := by
  induction m with
  | zero =>
    intro f h l _ hf e
    obtain ⟨f, rfl⟩ : ∃ g, f = g + 1 := ⟨f - 1, by omega⟩
    exact ⟨h, l, rfl, e⟩
  | succ m ih =>
    intro f h l hm hf e
    obtain ⟨f, rfl⟩ : ∃ g, f = g + 1 := ⟨f - 1, by omega⟩
    have e' : hor (pe a b) (pe c d) (128 - m) = mulx (pe h l) ^^^ ind ((pe c d).getLsbD m) (pe a b) := by
      rw [show 128 - m = (128 - (m + 1)) + 1 by omega]
      show mulx (hor _ _ _) ^^^ _ = _
      rw [← e, show 127 - (128 - (m + 1)) = m by omega]
    rw [show ((m + 1 : Nat) : Int) - 1 = (m : Int) by omega]
    rw [L74_0, cT (Int.natCast_nonneg m), g99, Option.bind_some]
    show ∃ h' l' : Wd, ((F100 (k + 2) (c.toNat : Int) (d.toNat : Int) (m : Int)).bind _) = _ ∧ _
    rw [g100 _ _ _ (show m < 128 by omega), Option.bind_some, wi (show -9223372036854775808 ≤ (m : Int) - 1 by omega) (by omega)]
    cases hb : (pe c d).getLsbD m
    · rw [hb] at e'
      refine ih f _ _ (by omega) (by omega) ?_
      rw [e79, e']; exact (BitVec.xor_zero).symm
    · rw [hb] at e'
      rw [xor_w, xor_w]
      refine ih f _ _ (by omega) (by omega) ?_
      rw [e', ← e79]
      apply ext
      intro i hi
      show _ = (_ ^^^ (pe a b)).getLsbD i
      rw [BitVec.getLsbD_xor]
      by_cases h1 : i < 64
      · rw [pe_hi _ _ h1, pe_hi _ _ h1, pe_hi _ _ h1, BitVec.getLsbD_xor]
      · rw [pe_lo _ _ (by omega) hi, pe_lo _ _ (by omega) hi, pe_lo _ _ (by omega) hi, BitVec.getLsbD_xor]
theorem pe_zero : pe 0#64 0#64 = 0#128 := by
  apply ext
  intro i hi
  by_cases h1 : i < 64
  · rw [pe_hi _ _ h1]; simp
  · rw [pe_lo _ _ (by omega) hi]; simp
theorem g74 {k : Nat} (a b c d : Wd) (hk : 130 ≤ k) : ∃ h l : Wd, F74 k (a.toNat : Int) (b.toNat : Int) (c.toNat : Int) (d.toNat : Int) = some ((h.toNat : Int), (l.toNat : Int)) ∧ pe h l = gm (pe a b) (pe c d) := by
  obtain ⟨h, l, e, p⟩ := l47 k a b c d 128 (k + 5) 0#64 0#64 (Nat.le_refl _) (by omega) pe_zero
  refine ⟨h, l, ?_, p.trans (gm_hor _ _).symm⟩
  unfold F74
  have e' : L74_0 k (a.toNat : Int) (b.toNat : Int) (c.toNat : Int) (d.toNat : Int) (k + 5) 127 0 0 = _ := e
  rw [e']; rfl
end Go.Proofs
set_option linter.unusedVariables false
set_option linter.unusedSimpArgs false
set_option maxRecDepth 100000
namespace Go.Proofs
open Go Go.Sym Go.Sym.Gf
theorem bw (c : UInt8) : (c.toNat : Int) = ((BitVec.ofNat 64 c.toNat).toNat : Int) := by
  rw [BitVec.toNat_ofNat, Nat.mod_eq_of_lt (by have := c.toNat_lt; omega)]
theorem l78 (k : Nat) (s : List UInt8) (hs : 8 ≤ s.length) (m : Nat) : ∀ (f : Nat) (w : Wd), m ≤ 8 → m + 1 ≤ f → (∀ t, t < 64 → w.getLsbD t = (decide (t < 8 * (8 - m)) && cof s (8 * (8 - m) - 1 - t))) →
    ∃ w' : Wd, L95_0 k s f (w.toNat : Int) ((8 - m : Nat) : Int) = some (.e0 (w'.toNat : Int) 8) ∧ ∀ t, t < 64 → w'.getLsbD t = cof s (63 - t) := by
  have hl : (List.map (fun c : UInt8 => V.int IntKind.u8 (c.toNat : Int)) (List.take (Int.toNat 8) s)).length = 8 := by
    rw [List.length_map, List.length_take]; exact Nat.min_eq_left hs
  induction m with
  | zero =>
    intro f w _ hf e
    obtain ⟨f, rfl⟩ : ∃ g, f = g + 1 := ⟨f - 1, by omega⟩
    refine ⟨w, ?_, fun t ht => ?_⟩
    · rw [L95_0, hl]; rfl
    · rw [e t ht, decide_eq_true (show t < 8 * (8 - 0) by omega), show 8 * (8 - 0) - 1 - t = 63 - t by omega]; rfl
  | succ m ih =>
    intro f w hm hf e
    obtain ⟨f, rfl⟩ : ∃ g, f = g + 1 := ⟨f - 1, by omega⟩
    generalize hj : 8 - (m + 1) = j at *
    rw [L95_0, hl, cT (show ((j : Nat) : Int) < ((8 : Nat) : Int) by omega), gp (by omega), Int.toNat_natCast]
    have e1 : (List.map (fun c : UInt8 => V.int IntKind.u8 (c.toNat : Int)) (List.take (Int.toNat 8) s))[j]? = some (V.int IntKind.u8 (s[j]'(by omega)).toNat) := by
      rw [List.getElem?_map, show (Int.toNat 8) = 8 from rfl, List.getElem?_take_of_lt (by omega), List.getElem?_eq_getElem (by omega)]; rfl
    rw [e1, Option.bind_some, dI_int, Option.bind_some, bw, wu_toNat, shl_w, or_w, wi (by omega) (by omega)]
    have ej : ((j : Nat) : Int) + 1 = ((8 - m : Nat) : Int) := by omega
    rw [ej]
    refine ih f _ (by omega) (by omega) fun t ht => ?_
    have hc : ∀ p, p < 8 → (BitVec.ofNat 64 (s[j]'(by omega)).toNat).getLsbD p = cof s (8 * j + (7 - p)) := by
      intro p hp
      unfold cof
      rw [show (8 * j + (7 - p)) / 8 = j by omega, show 7 - (8 * j + (7 - p)) % 8 = p by omega, List.getElem?_eq_getElem (show j < s.length by omega), BitVec.getLsbD_ofNat, decide_eq_true (show p < 64 by omega)]; rfl
    have hz : ∀ p, 8 ≤ p → (BitVec.ofNat 64 (s[j]'(by omega)).toNat).getLsbD p = false := by
      intro p hp
      rw [BitVec.getLsbD_ofNat, Nat.testBit_lt_two_pow, Bool.and_false]
      exact Nat.lt_of_lt_of_le (s[j]'(by omega)).toNat_lt (Nat.pow_le_pow_right (n := 2) (by omega) hp)
    rw [BitVec.getLsbD_or, BitVec.getLsbD_shiftLeft, decide_eq_true ht, Bool.true_and, show Int.toNat 8 = 8 from rfl]
    by_cases h : t < 8
    · rw [decide_eq_true h, hc t h, decide_eq_true (show t < 8 * (8 - m) by omega), show 8 * j + (7 - t) = 8 * (8 - m) - 1 - t by omega]; rfl
    · rw [decide_eq_false h, hz t (by omega), e (t - 8) (by omega), show decide (t - 8 < 8 * j) = decide (t < 8 * (8 - m)) from decide_eq_decide.2 (by omega), show 8 * j - 1 - (t - 8) = 8 * (8 - m) - 1 - t by omega]; simp
theorem g95 {k : Nat} (s : List UInt8) (hs : 8 ≤ s.length) (hk : 8 ≤ k) : ∃ w : Wd, F95 k s = some (w.toNat : Int) ∧ ∀ t, t < 64 → w.getLsbD t = cof s (63 - t) := by
  obtain ⟨w, e, h⟩ := l78 k s hs 8 (k + 2) 0#64 (Nat.le_refl _) (by omega) (by intro t ht; simp)
  refine ⟨w, ?_, h⟩
  unfold F95
  have e' : L95_0 k s (k + 2) 0 0 = _ := e
  rw [gp (by omega), gp (by rw [List.length_take]; unfold maxLen'; have : (Int.toNat 8) = 8 := rfl; omega), e']; rfl
theorem cof_drop (s : List UInt8) (i : Nat) : cof (s.drop 8) i = cof s (i + 64) := by
  unfold cof
  rw [List.getElem?_drop, show (i + 64) / 8 = 8 + i / 8 by omega, show (i + 64) % 8 = i % 8 by omega]
theorem g72 {k : Nat} (s : List UInt8) (hs : s.length = 16) (hk : 8 ≤ k) : ∃ h l : Wd, F72 k s = some ((h.toNat : Int), (l.toNat : Int)) ∧ pe h l = el s := by
  obtain ⟨h, e1, p1⟩ := g95 (k := k + 2) s (by omega) (by omega)
  obtain ⟨l, e2, p2⟩ := g95 (k := k + 2) (List.drop (Int.toNat 8) s) (by rw [List.length_drop, show Int.toNat 8 = 8 from rfl]; omega) (by omega)
  refine ⟨h, l, ?_, ext fun i hi => ?_⟩
  · unfold F72
    rw [e1, Option.bind_some, gp (by omega), e2, Option.bind_some]
  · rw [el_bit _ hi]
    by_cases h1 : i < 64
    · rw [pe_hi _ _ h1, p1 _ (by omega), show 63 - (63 - i) = i by omega]
    · rw [pe_lo _ _ (by omega) hi, p2 _ (by omega), show Int.toNat 8 = 8 from rfl, cof_drop, show 63 - (127 - i) + 64 = i by omega]
def by54 (w : Wd) : List UInt8 := [UInt8.ofNat (w >>> 56).toNat, UInt8.ofNat (w >>> 48).toNat, UInt8.ofNat (w >>> 40).toNat, UInt8.ofNat (w >>> 32).toNat, UInt8.ofNat (w >>> 24).toNat, UInt8.ofNat (w >>> 16).toNat, UInt8.ofNat (w >>> 8).toNat, UInt8.ofNat (w >>> 0).toNat]
theorem b54 (n : Nat) : Sym.byteOf (V.int IntKind.u8 (IntKind.u8.wrap (n : Int))) = UInt8.ofNat n := by
  rw [wb_mod]
  show UInt8.ofNat ((n : Int) % 256).toNat = _
  rw [show ((n : Int) % 256).toNat = n % 256 by omega]
  apply UInt8.toNat_inj.1
  rw [UInt8.toNat_ofNat', UInt8.toNat_ofNat']; omega
theorem g98 (k : Nat) (w : Wd) : F98 k (w.toNat : Int) = some (by54 w) := by
  unfold F98 by54
  simp only [shr_w]
  show some (List.map Sym.byteOf [_, _, _, _, _, _, _, _]) = _
  simp only [List.map_cons, List.map_nil, b54]
  rfl
theorem cof54 (w : Wd) (i : Nat) (h : i < 64) : cof (by54 w) i = w.getLsbD (63 - i) := by
  have z : ∀ n : Nat, n ≤ 56 → ∀ r, r < 8 → (UInt8.ofNat (w >>> n).toNat).toNat.testBit r = w.getLsbD (n + r) := by
    intro n hn r hr
    rw [UInt8.toNat_ofNat', show 2 ^ 8 = 2 ^ 8 from rfl, Nat.testBit_mod_two_pow, decide_eq_true hr, Bool.true_and]
    show (w >>> n).getLsbD r = _
    rw [BitVec.getLsbD_ushiftRight]
  unfold cof by54
  obtain ⟨t, ht⟩ : ∃ t, t = i / 8 := ⟨_, rfl⟩
  rw [← ht]
  have hr : 7 - i % 8 < 8 := by omega
  match t, ht with
  | 0, ht => refine (z 56 (by omega) _ hr).trans ?_; congr 1; omega
  | 1, ht => refine (z 48 (by omega) _ hr).trans ?_; congr 1; omega
  | 2, ht => refine (z 40 (by omega) _ hr).trans ?_; congr 1; omega
  | 3, ht => refine (z 32 (by omega) _ hr).trans ?_; congr 1; omega
  | 4, ht => refine (z 24 (by omega) _ hr).trans ?_; congr 1; omega
  | 5, ht => refine (z 16 (by omega) _ hr).trans ?_; congr 1; omega
  | 6, ht => refine (z 8 (by omega) _ hr).trans ?_; congr 1; omega
  | 7, ht => refine (z 0 (by omega) _ hr).trans ?_; congr 1; omega
  | t + 8, ht => omega
theorem cof_append (a b : List UInt8) (ha : a.length = 8) (i : Nat) : cof (a ++ b) i = bif decide (i < 64) then cof a i else cof b (i - 64) := by
  unfold cof
  by_cases h : i < 64
  · rw [decide_eq_true h, List.getElem?_append_left (by omega)]; rfl
  · rw [decide_eq_false h, List.getElem?_append_right (by omega), show i / 8 - a.length = (i - 64) / 8 by omega, show i % 8 = (i - 64) % 8 by omega]; rfl
theorem g75 (k : Nat) (h l : Wd) : F75 k (h.toNat : Int) (l.toNat : Int) = some (by54 h ++ by54 l) := by
  unfold F75
  rw [g98, Option.bind_some, g98, Option.bind_some, gp (by show 16 ≤ maxText; unfold maxText; omega)]
theorem el_block (h l : Wd) : el (by54 h ++ by54 l) = pe h l := by
  apply ext
  intro i hi
  rw [el_bit _ hi, cof_append _ _ rfl]
  by_cases h1 : i < 64
  · rw [decide_eq_true h1, pe_hi _ _ h1]; exact cof54 h i h1
  · rw [decide_eq_false h1, pe_lo _ _ (by omega) hi]; refine (cof54 l (i - 64) (by omega)).trans ?_; congr 1; omega
def ONE : List UInt8 := [128, 0, 0, 0, 0, 0, 0, 0, 0, 0, 0, 0, 0, 0, 0, 0]
end Go.Proofs
set_option linter.unusedVariables false
set_option linter.unusedSimpArgs false
set_option maxRecDepth 100000
namespace Go.Proofs
open Go Go.Sym Go.Sym.Gf
theorem l81 (k : Nat) (i0 : Int) (s : List UInt8) (m : Nat) : ∀ (f v : Nat), m ≤ 7 → m + 1 ≤ f → v < 256 →
    L126_0 k i0 s f (v : Int) ((7 - m : Nat) : Int) = some (.e0 ((v / 2 ^ m : Nat) : Int) 7) := by
  induction m with
  | zero =>
    intro f v _ hf _
    obtain ⟨f, rfl⟩ : ∃ g, f = g + 1 := ⟨f - 1, by omega⟩
    rw [L126_0, cF (by omega), Nat.pow_zero, Nat.div_one]; rfl
  | succ m ih =>
    intro f v hm hf hv
    obtain ⟨f, rfl⟩ : ∃ g, f = g + 1 := ⟨f - 1, by omega⟩
    have e1 : ((v : Int)).tdiv 2 = ((v / 2 : Nat) : Int) := td (b := 2) (Int.natCast_nonneg v)
    have e2 : ((7 - (m + 1) : Nat) : Int) + 1 = ((7 - m : Nat) : Int) := by omega
    rw [L126_0, cT (by omega), e1, e2, wi (by omega) (by omega), wi (by omega) (by omega), ih f (v / 2) (by omega) (by omega) (by omega)]
    rw [Nat.div_div_eq_div_mul, Nat.pow_succ, Nat.mul_comm]
theorem g126 {k : Nat} (s : List UInt8) {i : Nat} (hi : i < 8 * s.length) (hl : s.length < 1000) (hk : 8 ≤ k) : F126 k s (i : Int) = some (cof s i) := by
  have e1 : ((i : Int)).tdiv 8 = ((i / 8 : Nat) : Int) := td (b := 8) (Int.natCast_nonneg i)
  have e2 : ((i : Int)).tmod 8 = ((i % 8 : Nat) : Int) := tm (b := 8) (Int.natCast_nonneg i)
  have hj : i / 8 < s.length := by omega
  unfold F126
  rw [e1, e2, wi (by omega) (by omega)]
  have e3 : satB s ((i / 8 : Nat) : Int) = some s[i / 8] := by
    unfold satB; rw [if_pos (Int.natCast_nonneg _), Int.toNat_natCast, List.getElem?_eq_getElem hj]
  have hv := (s[i / 8]).toNat_lt
  rw [e3, Option.bind_some, wi (by omega) (by omega)]
  have := l81 k (i : Int) s (7 - i % 8) (k + 2) (s[i / 8]).toNat (by omega) (by omega) hv
  rw [show 7 - (7 - i % 8) = i % 8 by omega] at this
  rw [this, Option.bind_some]
  show some (decide (((((s[i / 8]).toNat / 2 ^ (7 - i % 8) : Nat) : Int)).tmod 2 = 1)) = _
  rw [show (((((s[i / 8]).toNat / 2 ^ (7 - i % 8) : Nat) : Int)).tmod 2) = (((s[i / 8]).toNat / 2 ^ (7 - i % 8) % 2 : Nat) : Int) from tm (b := 2) (Int.natCast_nonneg _)]
  unfold cof
  rw [List.getElem?_eq_getElem hj]
  show _ = some ((s[i / 8]).toNat.testBit _)
  rw [Nat.testBit_eq_decide_div_mod_eq]
  congr 1
  apply decide_eq_decide.2; omega
def SB : Nat → (Nat → Bool) → Bool
  | 0, _ => false
  | n + 1, f => SB n f ^^ f n
theorem ind_SB (n : Nat) (f : Nat → Bool) (e : E) : ind (SB n f) e = S n fun i => ind (f i) e := by
  induction n with
  | zero => rfl
  | succ n ih => show ind (SB n f ^^ f n) e = _; rw [ind_xor, ih]; rfl
def pr (s t : List UInt8) (n i : Nat) : Bool := decide (i ≤ n) && (decide (n - i < 128) && (cof s i && cof t (n - i)))
theorem l49i {k : Nat} (s t : List UInt8) (hs : s.length = 16) (ht : t.length = 16) (x : List V) (n : Nat) (hn : n < 255) (hk : 8 ≤ k) (m : Nat) : ∀ (f : Nat), m ≤ 128 → m + 1 ≤ f →
    L108_1 k (n : Int) s t x f (SB (128 - m) (pr s t n)) ((128 - m : Nat) : Int) = some (.e0 128 (SB 128 (pr s t n))) := by
  induction m with
  | zero =>
    intro f _ hf
    obtain ⟨f, rfl⟩ : ∃ g, f = g + 1 := ⟨f - 1, by omega⟩
    rw [L108_1, cF (by omega)]; rfl
  | succ m ih =>
    intro f hm hf
    obtain ⟨f, rfl⟩ : ∃ g, f = g + 1 := ⟨f - 1, by omega⟩
    have ih' := ih f (by omega) (by omega)
    generalize hj : 128 - (m + 1) = j at *
    rw [show 128 - m = j + 1 by omega] at ih'
    have e2 : ((j : Nat) : Int) + 1 = ((j + 1 : Nat) : Int) := by omega
    rw [L108_1, cT (by omega), e2, wi (show -9223372036854775808 ≤ ((j + 1 : Nat) : Int) by omega) (by omega), wi (show -9223372036854775808 ≤ (n : Int) - (j : Int) by omega) (by omega)]
    rw [show SB (j + 1) (pr s t n) = (SB j (pr s t n) ^^ pr s t n j) from rfl] at ih'
    by_cases h1 : j ≤ n
    · rw [cT (show (0 : Int) ≤ (n : Int) - (j : Int) by omega)]
      by_cases h2 : n - j < 128
      · rw [cT (show (n : Int) - (j : Int) < 128 by omega), g126 s (by omega) (by omega) (by omega), Option.bind_some]
        rw [show (n : Int) - (j : Int) = ((n - j : Nat) : Int) by omega, g126 t (by omega) (by omega) (by omega)]
        unfold pr at ih' ⊢
        rw [decide_eq_true h1, decide_eq_true h2] at ih'
        cases h3 : cof s j
        · rw [h3] at ih'
          simp only [Bool.true_and, Bool.false_and, Bool.xor_false] at ih'
          exact ih'
        · rw [h3] at ih'
          cases h4 : cof t (n - j)
          · rw [h4] at ih'
            simp only [Bool.true_and, Bool.and_false, Bool.xor_false] at ih'
            exact ih'
          · rw [h4] at ih'
            simp only [Bool.true_and, Bool.xor_true] at ih'
            exact ih'
      · rw [cF (show ¬((n : Int) - (j : Int) < 128) by omega)]
        unfold pr at ih' ⊢
        rw [decide_eq_false h2] at ih'
        simp only [Bool.false_and, Bool.and_false, Bool.xor_false] at ih'
        exact ih'
    · rw [cF (show ¬((0 : Int) ≤ (n : Int) - (j : Int)) by omega)]
      unfold pr at ih' ⊢
      rw [decide_eq_false h1] at ih'
      simp only [Bool.false_and, Bool.xor_false] at ih'
      exact ih'
def prL (s t : List UInt8) (n : Nat) : List Bool := (List.range n).map fun j => SB 128 (pr s t j)
theorem prL_succ (s t : List UInt8) (n : Nat) : (prL s t n).map V.bool ++ [V.bool (SB 128 (pr s t n))] = (prL s t (n + 1)).map V.bool := by
  unfold prL; rw [List.range_succ]; simp
theorem prL_len (s t : List UInt8) (n : Nat) : (prL s t n).length = n := by simp [prL]
theorem l49 {k : Nat} (s t : List UInt8) (hs : s.length = 16) (ht : t.length = 16) (hk : 130 ≤ k) (m : Nat) : ∀ (f : Nat), m ≤ 255 → m + 1 ≤ f →
    L108_0 k s t f ((255 - m : Nat) : Int) ((prL s t (255 - m)).map V.bool) = some (.e0 255 ((prL s t 255).map V.bool)) := by
  induction m with
  | zero =>
    intro f _ hf
    obtain ⟨f, rfl⟩ : ∃ g, f = g + 1 := ⟨f - 1, by omega⟩
    rw [L108_0, cF (by omega)]; rfl
  | succ m ih =>
    intro f hm hf
    obtain ⟨f, rfl⟩ : ∃ g, f = g + 1 := ⟨f - 1, by omega⟩
    have ih' := ih f (by omega) (by omega)
    generalize hj : 255 - (m + 1) = j at *
    rw [show 255 - m = j + 1 by omega] at ih'
    have e2 : ((j : Nat) : Int) + 1 = ((j + 1 : Nat) : Int) := by omega
    have e := l49i (k := k) s t hs ht ((prL s t j).map V.bool) j (by omega) (by omega) 128 (k + 5) (Nat.le_refl _) (by omega)
    have e' : L108_1 k (j : Int) s t ((prL s t j).map V.bool) (k + 5) false 0 = _ := e
    rw [L108_0, cT (by omega), e', Option.bind_some]
    show guardP _ _ = _
    rw [gp (by rw [List.length_map, prL_len]; unfold maxLen'; omega), e2, wi (by omega) (by omega), prL_succ]
    exact ih'
theorem g108 {k : Nat} (s t : List UInt8) (hs : s.length = 16) (ht : t.length = 16) (hk : 260 ≤ k) : F108 k s t = some (none, false, 1, (prL s t 255).map V.bool) := by
  have e := l49 (k := k) s t hs ht (by omega) 255 (k + 5) (Nat.le_refl _) (by omega)
  have e' : L108_0 k s t (k + 5) 0 [] = _ := e
  unfold F108
  rw [e', Option.bind_some]
def flip (l : List Bool) (i : Nat) : List Bool := l.set i (!(l[i]?.getD false))
theorem flip_len (l : List Bool) (i : Nat) : (flip l i).length = l.length := List.length_set ..
theorem g109 (k : Nat) (l : List Bool) (i : Nat) (hi : i < l.length) (hl : l.length < 1000) : F109 k none false 1 (l.map V.bool) (i : Int) = some (none, false, 1, (flip l i).map V.bool) := by
  unfold F109
  have e : (List.map V.bool l)[i]? = some (V.bool l[i]) := by rw [List.getElem?_map, List.getElem?_eq_getElem hi]; rfl
  rw [gp (show (1 : Nat) = 1 ∨ _ from Or.inl rfl), gp (by rw [List.length_map]; unfold maxLen'; omega), gp (by rw [List.length_map]; omega), Int.toNat_natCast, e, Option.bind_some]
  show ((some l[i]).bind _) = _
  rw [Option.bind_some, gp (by rw [List.length_map]; omega)]
  unfold flip
  rw [List.map_set, List.getElem?_eq_getElem hi]
  rfl
theorem S_single (n : Nat) (i : Nat) (hi : i < n) (f : Nat → E) : S n (fun j => ind (decide (j = i)) (f j)) = f i := by
  induction n with
  | zero => omega
  | succ n ih =>
    show S n _ ^^^ ind (decide (n = i)) (f n) = _
    by_cases h : n = i
    · subst h
      rw [decide_eq_true rfl]
      rw [show (S n fun j => ind (decide (j = n)) (f j)) = S n fun _ => 0#128 from S_congr fun j hj => by rw [decide_eq_false (by omega)]; rfl, S_zero]
      exact BitVec.zero_xor
    · rw [ih (by omega), decide_eq_false h]; exact BitVec.xor_zero
def evn (l : List Bool) (n : Nat) : E := S n fun i => ind (l[i]?.getD false) (X i)
theorem evn_flip (l : List Bool) (i n : Nat) (h : i < n) (hl : i < l.length) : evn (flip l i) n = evn l n ^^^ X i := by
  unfold evn
  rw [← S_single n i h X, ← S_xor]
  apply S_congr
  intro j _
  rw [← ind_xor]
  congr 1
  unfold flip
  by_cases e : j = i
  · subst e
    rw [List.getElem?_set_self hl, decide_eq_true rfl, Bool.xor_true]; rfl
  · rw [List.getElem?_set_ne (by omega), decide_eq_false e, Bool.xor_false]
theorem l25 (k : Nat) (s t : List UInt8) (m : Nat) : ∀ (f : Nat) (l : List Bool), m ≤ 127 → m + 1 ≤ f → l.length = 255 →
    ∃ l' : List Bool, L82_0 k s t f none false 1 (l.map V.bool) ((m : Int) + 127) = some (.e0 127 false (l'.map V.bool) none 1) ∧ l'.length = 255 ∧ evn l' 128 = evn l (128 + m) := by
  induction m with
  | zero =>
    intro f l _ hf hl
    obtain ⟨f, rfl⟩ : ∃ g, f = g + 1 := ⟨f - 1, by omega⟩
    refine ⟨l, ?_, hl, rfl⟩
    rw [L82_0, cF (by omega)]; rfl
  | succ m ih =>
    intro f l hm hf hl
    obtain ⟨f, rfl⟩ : ∃ g, f = g + 1 := ⟨f - 1, by omega⟩
    have e : at? (List.map V.bool l) ((m + 128 : Nat) : Int) = some (V.bool (l[m + 128]'(by omega))) := by
      rw [at_nat, List.getElem?_map, List.getElem?_eq_getElem (by omega)]; rfl
    rw [show ((m + 1 : Nat) : Int) + 127 = ((m + 128 : Nat) : Int) by omega]
    rw [L82_0, cT (by omega), gp (rfl : (1 : Nat) = 1), e, Option.bind_some]
    have ee : evn l (128 + (m + 1)) = evn l (128 + m) ^^^ ind (l[m + 128]'(by omega)) (X (m + 128)) := by
      show evn l (128 + m) ^^^ ind (l[128 + m]?.getD false) (X (128 + m)) = _
      rw [show 128 + m = m + 128 by omega, List.getElem?_eq_getElem (show m + 128 < l.length by omega)]; rfl
    have e0 : dB (V.bool (l[m + 128]'(by omega))) = some (l[m + 128]'(by omega)) := rfl
    rw [e0, Option.bind_some]
    rw [show ((m + 128 : Nat) : Int) - 1 = (m : Int) + 127 by omega, show ((m + 128 : Nat) : Int) - 128 = (m : Int) by omega, show ((m + 128 : Nat) : Int) - 127 = ((m + 1 : Nat) : Int) by omega, show ((m + 128 : Nat) : Int) - 126 = ((m + 2 : Nat) : Int) by omega, show ((m + 128 : Nat) : Int) - 121 = ((m + 7 : Nat) : Int) by omega]
    rw [wi (show -9223372036854775808 ≤ (m : Int) + 127 by omega) (by omega), wi (show -9223372036854775808 ≤ (m : Int) by omega) (by omega), wi (show -9223372036854775808 ≤ ((m + 1 : Nat) : Int) by omega) (by omega), wi (show -9223372036854775808 ≤ ((m + 2 : Nat) : Int) by omega) (by omega), wi (show -9223372036854775808 ≤ ((m + 7 : Nat) : Int) by omega) (by omega)]
    generalize (l[m + 128]'(by omega)) = b at *
    cases b
    · obtain ⟨l', h1, h2, h3⟩ := ih f l (by omega) (by omega) hl
      refine ⟨l', h1, h2, ?_⟩
      rw [h3, ee]; exact (BitVec.xor_zero).symm
    · obtain ⟨l', h1, h2, h3⟩ := ih f (flip (flip (flip (flip l m) (m + 1)) (m + 2)) (m + 7)) (by omega) (by omega) (by simp only [flip_len]; exact hl)
      refine ⟨l', ?_, h2, ?_⟩
      · show ((F109 _ _ _ _ _ _).bind _) = _
        rw [g109 _ _ _ (by omega) (by omega), Option.bind_some]
        show ((F109 _ _ _ _ _ _).bind _) = _
        rw [g109 _ _ _ (by simp only [flip_len]; omega) (by simp only [flip_len]; omega), Option.bind_some]
        show ((F109 _ _ _ _ _ _).bind _) = _
        rw [g109 _ _ _ (by simp only [flip_len]; omega) (by simp only [flip_len]; omega), Option.bind_some]
        show ((F109 _ _ _ _ _ _).bind _) = _
        rw [g109 _ _ _ (by simp only [flip_len]; omega) (by simp only [flip_len]; omega), Option.bind_some]
        exact h1
      · rw [h3, evn_flip _ _ _ (by omega) (by simp only [flip_len]; omega), evn_flip _ _ _ (by omega) (by simp only [flip_len]; omega), evn_flip _ _ _ (by omega) (by simp only [flip_len]; omega), evn_flip _ _ _ (by omega) (by omega), ee]
        show _ = _ ^^^ X (m + 128)
        rw [X_red (m + 128) (by omega), show m + 128 - 128 = m by omega, show m + 128 - 127 = m + 1 by omega, show m + 128 - 126 = m + 2 by omega, show m + 128 - 121 = m + 7 by omega]
        ac_rfl
def vbt (g : Nat → Bool) : Nat → Nat
  | 0 => 0
  | u + 1 => 2 * vbt g u + (g u).toNat
theorem vb_lt (g : Nat → Bool) (u : Nat) : vbt g u < 2 ^ u := by
  induction u with
  | zero => exact Nat.one_pos
  | succ u ih => rw [vbt, Nat.pow_succ]; have := Bool.toNat_lt (g u); omega
theorem vb_bit (g : Nat → Bool) (u p : Nat) (hp : p < u) : (vbt g u).testBit p = g (u - 1 - p) := by
  induction u generalizing p with
  | zero => omega
  | succ u ih =>
    rw [vbt]
    cases p with
    | zero =>
      rw [Nat.testBit_zero]
      show decide _ = g u
      cases g u
      · apply decide_eq_false; show ¬((2 * vbt g u + 0) % 2 = 1); omega
      · apply decide_eq_true; show (2 * vbt g u + 1) % 2 = 1; omega
    | succ p =>
      rw [Nat.testBit_succ, show (2 * vbt g u + (g u).toNat) / 2 = vbt g u from by have := Bool.toNat_lt (g u); omega, ih p (by omega)]
      congr 1; omega
def bg (l : List Bool) (j u : Nat) : Bool := l[8 * j + u]?.getD false
theorem l51i (k : Nat) (l : List Bool) (hl : l.length = 128) (j : Nat) (hj : j < 16) (x1 : List V) (m : Nat) : ∀ f : Nat, m ≤ 8 → m + 1 ≤ f →
    L110_1 k (j : Int) false (l.map V.bool) x1 none 1 f ((vbt (bg l j) (8 - m) : Nat) : Int) ((8 - m : Nat) : Int) = some (.e0 ((vbt (bg l j) 8 : Nat) : Int) 8) := by
  induction m with
  | zero =>
    intro f _ hf
    obtain ⟨f, rfl⟩ : ∃ g, f = g + 1 := ⟨f - 1, by omega⟩
    rw [L110_1, cF (by omega)]; rfl
  | succ m ih =>
    intro f hm hf
    obtain ⟨f, rfl⟩ : ∃ g, f = g + 1 := ⟨f - 1, by omega⟩
    have ih' := ih f (by omega) (by omega)
    generalize hu : 8 - (m + 1) = u at *
    rw [show 8 - m = u + 1 by omega] at ih'
    have hv := vb_lt (bg l j) u
    have hp : 2 ^ u ≤ 2 ^ 8 := Nat.pow_le_pow_right (by omega) (by omega)
    have e : at? (List.map V.bool l) ((8 * j + u : Nat) : Int) = some (V.bool (l[8 * j + u]'(by omega))) := by
      rw [at_nat, List.getElem?_map, List.getElem?_eq_getElem (by omega)]; rfl
    have eb : bg l j u = (l[8 * j + u]'(by omega)) := by unfold bg; rw [List.getElem?_eq_getElem (show 8 * j + u < l.length by omega)]; rfl
    rw [L110_1, cT (by omega), gp (rfl : (1 : Nat) = 1), wi (show -9223372036854775808 ≤ (8 : Int) * (j : Int) by omega) (by omega), wi (show -9223372036854775808 ≤ (8 : Int) * (j : Int) + (u : Int) by omega) (by omega)]
    rw [show (8 : Int) * (j : Int) + (u : Int) = ((8 * j + u : Nat) : Int) by omega, e, Option.bind_some]
    show ((some (l[8 * j + u]'(by omega))).bind _) = _
    rw [Option.bind_some, ← eb]
    rw [wi (show -9223372036854775808 ≤ (2 : Int) * ((vbt (bg l j) u : Nat) : Int) by omega) (by omega), wi (show -9223372036854775808 ≤ (2 : Int) * ((vbt (bg l j) u : Nat) : Int) + 1 by omega) (by omega), wi (show -9223372036854775808 ≤ ((u : Nat) : Int) + 1 by omega) (by omega)]
    rw [show ((u : Nat) : Int) + 1 = ((u + 1 : Nat) : Int) by omega]
    rw [vbt] at ih'
    cases hb : bg l j u
    · rw [hb] at ih'
      rw [show ((2 * vbt (bg l j) u + Bool.toNat false : Nat) : Int) = 2 * ((vbt (bg l j) u : Nat) : Int) by show ((2 * vbt (bg l j) u + 0 : Nat) : Int) = _; omega] at ih'
      exact ih'
    · rw [hb] at ih'
      rw [show ((2 * vbt (bg l j) u + Bool.toNat true : Nat) : Int) = 2 * ((vbt (bg l j) u : Nat) : Int) + 1 by show ((2 * vbt (bg l j) u + 1 : Nat) : Int) = _; omega] at ih'
      exact ih'
def bv (l : List Bool) (n : Nat) : List V := (List.range n).map fun j => V.int .u8 (IntKind.u8.wrap ((vbt (bg l j) 8 : Nat) : Int))
theorem bv_succ (l : List Bool) (n : Nat) : bv l n ++ [V.int .u8 (IntKind.u8.wrap ((vbt (bg l n) 8 : Nat) : Int))] = bv l (n + 1) := by
  unfold bv; rw [List.range_succ]; simp
theorem l51 (k : Nat) (l : List Bool) (hl : l.length = 128) (hk : 8 ≤ k) (m : Nat) : ∀ f : Nat, m ≤ 16 → m + 1 ≤ f →
    L110_0 k false (l.map V.bool) none 1 f ((16 - m : Nat) : Int) (bv l (16 - m)) = some (.e0 16 (bv l 16)) := by
  induction m with
  | zero =>
    intro f _ hf
    obtain ⟨f, rfl⟩ : ∃ g, f = g + 1 := ⟨f - 1, by omega⟩
    rw [L110_0, cF (by omega)]; rfl
  | succ m ih =>
    intro f hm hf
    obtain ⟨f, rfl⟩ : ∃ g, f = g + 1 := ⟨f - 1, by omega⟩
    have ih' := ih f (by omega) (by omega)
    generalize hj : 16 - (m + 1) = j at *
    rw [show 16 - m = j + 1 by omega] at ih'
    have e := l51i k l hl j (by omega) (bv l j) 8 (k + 2) (Nat.le_refl _) (by omega)
    have e' : L110_1 k (j : Int) false (l.map V.bool) (bv l j) none 1 (k + 2) 0 0 = _ := e
    rw [L110_0, cT (by omega), e', Option.bind_some]
    show guardP _ _ = _
    rw [gp (by simp only [bv, List.length_map, List.length_range]; unfold maxLen'; omega), wi (by omega) (by omega), show ((j : Nat) : Int) + 1 = ((j + 1 : Nat) : Int) by omega, bv_succ]
    exact ih'
def bys (l : List Bool) : List UInt8 := (List.range 16).map fun j => UInt8.ofNat (vbt (bg l j) 8)
theorem g110 {k : Nat} (l : List Bool) (hl : l.length = 128) (hk : 20 ≤ k) : F110 k none false 1 (l.map V.bool) = some (bys l) := by
  have e := l51 k l hl (by omega) 16 (k + 2) (Nat.le_refl _) (by omega)
  have e' : L110_0 k false (l.map V.bool) none 1 (k + 2) 0 [] = _ := e
  unfold F110
  rw [e', Option.bind_some]
  show guardP _ _ = _
  rw [gp (by rfl)]
  congr 1
  unfold bv bys
  rw [List.map_map]
  apply List.map_congr_left
  intro j _
  exact b54 _
theorem el_bys (l : List Bool) (hl : l.length = 128) : el (bys l) = evn l 128 := by
  show Gf.mk _ = Gf.mk _
  apply ext
  intro i hi
  rw [mk_bit _ _ hi, mk_bit _ _ hi]
  unfold cof bys
  rw [List.getElem?_map, List.getElem?_range (show i / 8 < 16 by omega)]
  show (UInt8.ofNat (vbt (bg l (i / 8)) 8)).toNat.testBit (7 - i % 8) = _
  rw [UInt8.toNat_ofNat', Nat.mod_eq_of_lt (vb_lt _ 8), vb_bit _ _ _ (by omega)]
  unfold bg
  rw [show 8 * (i / 8) + (8 - 1 - (7 - i % 8)) = i by omega]
theorem S_win (g : Nat → E) (i m r : Nat) : S (i + m + r) (fun n => ind (decide (i ≤ n) && decide (n - i < m)) (g (n - i))) = S m g := by
  induction r with
  | zero =>
    induction m with
    | zero =>
      rw [show (S (i + 0 + 0) fun n => ind (decide (i ≤ n) && decide (n - i < 0)) (g (n - i))) = S i fun _ => 0#128 from S_congr fun j hj => by rw [decide_eq_false (show ¬(i ≤ j) by omega)]; rfl, S_zero]; rfl
    | succ m ih =>
      show S (i + m) _ ^^^ ind (decide (i ≤ i + m) && decide (i + m - i < m + 1)) (g (i + m - i)) = S m g ^^^ g m
      rw [decide_eq_true (show i ≤ i + m by omega), decide_eq_true (show i + m - i < m + 1 by omega), show i + m - i = m by omega]
      rw [← ih]
      congr 1
      apply S_congr
      intro j hj
      have : decide (j - i < m + 1) = decide (j - i < m) ∨ ¬ (i ≤ j) := by
        by_cases h : i ≤ j
        · exact .inl (decide_eq_decide.2 (by omega))
        · exact .inr h
      rcases this with h | h
      · rw [h]
      · rw [decide_eq_false h]; rfl
  | succ r ih =>
    show S (i + m + r) _ ^^^ ind (decide (i ≤ i + m + r) && decide (i + m + r - i < m)) _ = _
    rw [ih, decide_eq_false (show ¬(i + m + r - i < m) by omega), Bool.and_false]; exact BitVec.xor_zero
theorem evn_pr (s t : List UInt8) : evn (prL s t 255) 255 = gm (el s) (el t) := by
  unfold evn
  rw [gm_exp, S_comm]
  rw [show (S 255 fun i => ind ((prL s t 255)[i]?.getD false) (X i)) = S 255 fun n => S 128 fun i => ind (pr s t n i) (X n) from S_congr fun n hn => by
    unfold prL
    rw [List.getElem?_map, List.getElem?_range hn]
    exact ind_SB _ _ _]
  rw [S_comm]
  apply S_congr
  intro i hi
  have e := S_win (fun j => ind (cof s i) (ind (cof t j) (X (i + j)))) i 128 (127 - i)
  rw [show i + 128 + (127 - i) = 255 by omega] at e
  refine Eq.trans (S_congr fun n hn => ?_) (e.trans (S_congr fun j hj => ?_))
  · unfold pr
    rw [← ind_and, ← ind_and]
    by_cases h1 : i ≤ n
    · rw [show i + (n - i) = n by omega, Bool.and_assoc, Bool.and_assoc]
    · rw [decide_eq_false h1]; rfl
  · rw [el_bit s hi, el_bit t hj, ind_comm, Nat.add_comm]
theorem g82 {k : Nat} (s t : List UInt8) (hs : s.length = 16) (ht : t.length = 16) (hk : 260 ≤ k) : ∃ r, F82 k s t = some r ∧ r.length = 16 ∧ el r = gm (el s) (el t) := by
  obtain ⟨l', h1, h2, h3⟩ := l25 k s t 127 (k + 8) (prL s t 255) (Nat.le_refl _) (by omega) (prL_len _ _ _)
  have hl : (l'.take 128).length = 128 := by rw [List.length_take, h2]; rfl
  refine ⟨bys (l'.take 128), ?_, by simp [bys], ?_⟩
  · unfold F82
    rw [g108 s t hs ht (by omega), Option.bind_some]
    show ((L82_0 k s t (k + 8) none false 1 ((prL s t 255).map V.bool) 254).bind _) = _
    have h1' : L82_0 k s t (k + 8) none false 1 ((prL s t 255).map V.bool) 254 = _ := h1
    rw [h1', Option.bind_some]
    show guardP _ _ = _
    rw [gp (rfl : (1 : Nat) = 1), gp (by rw [List.length_map, h2]; omega), ← List.map_take, show (Int.toNat 128) = 128 from rfl, g110 _ hl (by omega), Option.bind_some]
  · rw [el_bys _ hl]
    have e : evn (l'.take 128) 128 = evn l' 128 := S_congr fun i hi => by rw [List.getElem?_take_of_lt hi]
    rw [e, h3]; exact evn_pr s t
end Go.Proofs
set_option linter.unusedVariables false
set_option linter.unusedSimpArgs false
set_option maxRecDepth 100000
namespace Go.Proofs
open Go Go.Sym Go.Sym.Gf
def nb (s : List UInt8) : Nat := (s.length + 15) / 16
def pad (s : List UInt8) : List UInt8 := s ++ List.replicate (16 * nb s - s.length) 0
def blk (s : List UInt8) (j : Nat) : List UInt8 := ((pad s).drop (16 * j)).take 16
def blks (s : List UInt8) (n : Nat) : List (List UInt8) := (List.range n).map (blk s)
def bks (s : List UInt8) : List (List UInt8) := blks s (nb s)
def lw8 (s : List UInt8) : Wd := BitVec.ofNat 64 (8 * s.length)
def lst (a b : List UInt8) : List UInt8 := by54 (lw8 a) ++ by54 (lw8 b)
def BL (a b : List UInt8) : List (List UInt8) := bks a ++ bks b ++ [lst a b]
theorem pad_length (s : List UInt8) : (pad s).length = 16 * nb s := by
  unfold pad nb; rw [List.length_append, List.length_replicate]; omega
theorem blk_eq {s : List UInt8} {j : Nat} (h : 16 * j < s.length) : (s.drop (16 * j)).take 16 ++ List.replicate (16 - ((s.drop (16 * j)).take 16).length) 0 = blk s j := by
  unfold blk pad
  rw [List.drop_append_of_le_length (by omega), List.take_append, List.take_replicate, List.length_take, List.length_drop]
  congr 2
  unfold nb
  omega
theorem blk_length {s : List UInt8} {j : Nat} (h : j < nb s) : (blk s j).length = 16 := by
  unfold blk; rw [List.length_take, List.length_drop, pad_length]; omega
theorem blks_succ (s : List UInt8) (j : Nat) : blks s (j + 1) = blks s j ++ [blk s j] := by simp [blks, List.range_succ]
theorem blks_length (s : List UInt8) (j : Nat) : (blks s j).length = j := by simp [blks]
theorem bks_length (s : List UInt8) : (bks s).length = nb s := blks_length _ _
theorem bks_16 {s x : List UInt8} (h : x ∈ bks s) : x.length = 16 := by
  obtain ⟨j, hj, rfl⟩ := List.mem_map.1 h
  exact blk_length (List.mem_range.1 hj)
theorem BL_16 {a b x : List UInt8} (h : x ∈ BL a b) : x.length = 16 := by
  unfold BL at h
  rcases List.mem_append.1 h with h | h
  · rcases List.mem_append.1 h with h | h
    · exact bks_16 h
    · exact bks_16 h
  · rw [List.mem_singleton.1 h]; rfl
theorem BL_length (a b : List UInt8) : (BL a b).length = nb a + nb b + 1 := by
  unfold BL; rw [List.length_append, List.length_append, bks_length, bks_length]; rfl
theorem t16 (x : List UInt8) : List.take (if (16 : Int) < (x.length : Int) then (16 : Int) else (x.length : Int)).toNat x = x.take 16 := take_if 16 x
theorem d16 (x : List UInt8) : List.drop (if (16 : Int) < (x.length : Int) then (16 : Int) else (x.length : Int)).toNat x = x.drop 16 := by
  by_cases h : (16 : Int) < (x.length : Int)
  · rw [if_pos h]; rfl
  · rw [if_neg h, Int.toNat_natCast, List.drop_eq_nil_of_le (Nat.le_refl _), List.drop_eq_nil_of_le (by omega)]
theorem rep0 (n : Nat) : repeatN [0] n = List.replicate n 0 := by
  induction n with
  | zero => rfl
  | succ n ih => rw [repeatN, ih]; rfl
theorem g47 (k : Nat) {m : Nat} (hm : m ≤ 16) : F47 k [0] (m : Int) = some (List.replicate m 0) := by
  unfold F47
  rw [gp (by rw [Int.toNat_natCast]; simp only [List.length_cons, List.length_nil]; unfold maxBld; omega), Int.toNat_natCast, rep0]
theorem u64_len {s : List UInt8} (h : s.length ≤ 80) : IntKind.u64.wrap (IntKind.u64.wrap (s.length : Int) * 8) = ((lw8 s).toNat : Int) := by
  unfold lw8
  rw [wu (n := (s.length : Int)) (by omega) (by omega), wu (by omega) (by omega), BitVec.toNat_ofNat, Nat.mod_eq_of_lt (by omega)]; omega
theorem u64_len' {s : List UInt8} (h : s.length ≤ 80) : IntKind.u64.wrap (8 * IntKind.u64.wrap (s.length : Int)) = ((lw8 s).toNat : Int) := by
  rw [Int.mul_comm]; exact u64_len h
theorem L73a {k : Nat} {s : List UInt8} (hs : s.length ≤ 80) {p : List V} (hp : p.length ≤ 100) : ∀ (c j f : Nat), nb s - j = c → j ≤ nb s → c < f →
    L73_0 k f (s.drop (16 * j)) (p ++ (blks s j).map V.str) = some (.e0 [] (p ++ (bks s).map V.str)) := by
  have hnb : nb s = (s.length + 15) / 16 := rfl
  intro c
  induction c with
  | zero =>
    intro j f hc hj hf
    obtain ⟨f, rfl⟩ : ∃ y, f = y + 1 := ⟨f - 1, by omega⟩
    rw [L73_0, List.drop_eq_nil_of_le (by omega), cNT rfl, show j = nb s by omega]
    rfl
  | succ c ih =>
    intro j f hc hj hf
    obtain ⟨f, rfl⟩ : ∃ y, f = y + 1 := ⟨f - 1, by omega⟩
    have h16 : 16 * j < s.length := by omega
    have e := ih (j + 1) f (by omega) (by omega) (by omega)
    have hne : s.drop (16 * j) ≠ [] := fun h => by have := congrArg List.length h; rw [List.length_drop] at this; simp at this; omega
    have hl : ((s.drop (16 * j)).take 16).length ≤ 16 := by rw [List.length_take]; omega
    rw [L73_0, cNF hne, gp (by omega), t16, d16, wi (n := 16 - _) (by omega) (by omega), show (16 : Int) - (((s.drop (16 * j)).take 16).length : Int) = ((16 - ((s.drop (16 * j)).take 16).length : Nat) : Int) by omega, g47 _ (by omega), Option.bind_some,
      gp (by rw [List.length_replicate]; unfold maxText; omega), gp (by rw [List.length_append, List.length_map, blks_length]; unfold maxLen'; omega), blk_eq h16, List.drop_drop, List.append_assoc]
    rw [show 16 * j + 16 = 16 * (j + 1) by omega, show (blks s j).map V.str ++ [V.str (blk s j)] = (blks s (j + 1)).map V.str by rw [blks_succ, List.map_append]; rfl]
    exact e
theorem L73b {k : Nat} {a b s : List UInt8} (hs : s.length ≤ 80) {p : List V} (hp : p.length ≤ 100) : ∀ (c j f : Nat), nb s - j = c → j ≤ nb s → c < f →
    L73_1 k a b f (s.drop (16 * j)) (p ++ (blks s j).map V.str) = some (.e0 [] (p ++ (bks s).map V.str)) := by
  have hnb : nb s = (s.length + 15) / 16 := rfl
  intro c
  induction c with
  | zero =>
    intro j f hc hj hf
    obtain ⟨f, rfl⟩ : ∃ y, f = y + 1 := ⟨f - 1, by omega⟩
    rw [L73_1, List.drop_eq_nil_of_le (by omega), cNT rfl, show j = nb s by omega]
    rfl
  | succ c ih =>
    intro j f hc hj hf
    obtain ⟨f, rfl⟩ : ∃ y, f = y + 1 := ⟨f - 1, by omega⟩
    have h16 : 16 * j < s.length := by omega
    have e := ih (j + 1) f (by omega) (by omega) (by omega)
    have hne : s.drop (16 * j) ≠ [] := fun h => by have := congrArg List.length h; rw [List.length_drop] at this; simp at this; omega
    have hl : ((s.drop (16 * j)).take 16).length ≤ 16 := by rw [List.length_take]; omega
    rw [L73_1, cNF hne, gp (by omega), t16, d16, wi (n := 16 - _) (by omega) (by omega), show (16 : Int) - (((s.drop (16 * j)).take 16).length : Int) = ((16 - ((s.drop (16 * j)).take 16).length : Nat) : Int) by omega, g47 _ (by omega), Option.bind_some,
      gp (by rw [List.length_replicate]; unfold maxText; omega), gp (by rw [List.length_append, List.length_map, blks_length]; unfold maxLen'; omega), blk_eq h16, List.drop_drop, List.append_assoc]
    rw [show 16 * j + 16 = 16 * (j + 1) by omega, show (blks s j).map V.str ++ [V.str (blk s j)] = (blks s (j + 1)).map V.str by rw [blks_succ, List.map_append]; rfl]
    exact e
theorem g73 {k : Nat} {a b : List UInt8} (ha : a.length ≤ 80) (hb : b.length ≤ 80) : F73 k a b = some (none, false, 1, (BL a b).map V.str) := by
  unfold F73
  have hna : nb a ≤ 5 := by unfold nb; omega
  have hnb : nb b ≤ 5 := by unfold nb; omega
  have e1 := L73a (k := k) ha (p := []) (by simp) (nb a) 0 (k + 11) (by omega) (by omega) (by omega)
  have e2 := L73b (k := k) (a := a) (b := b) hb (p := (bks a).map V.str) (by rw [List.length_map, bks_length]; omega) (nb b) 0 (k + 13) (by omega) (by omega) (by omega)
  simp only [Nat.mul_zero, List.drop_zero, List.nil_append, show ∀ s, blks s 0 = [] from fun _ => rfl, List.map_nil, List.append_nil] at e1 e2
  rw [e1, Option.bind_some]
  simp only
  rw [e2, Option.bind_some]
  simp only
  rw [u64_len ha, u64_len hb, g98, Option.bind_some, g98, Option.bind_some, gp (by show 16 ≤ maxText; unfold maxText; omega), gp (by rw [List.length_append, List.length_map, List.length_map, bks_length, bks_length]; unfold maxLen'; omega)]
  unfold BL lst
  rw [List.map_append, List.map_append]; rfl
theorem padm {s : List UInt8} {m : Nat} (h : s.length + m = 16 * nb s) : s ++ List.replicate m 0 = pad s := by
  unfold pad; congr 2; omega
theorem L81a {k : Nat} {s : List UInt8} (hs : s.length ≤ 80) : ∀ (c m f : Nat), s.length + m + c = 16 * nb s → c < f → L81_0 k f (s ++ List.replicate m 0) = some (.e0 (pad s)) := by
  have hnb : nb s = (s.length + 15) / 16 := rfl
  intro c
  induction c with
  | zero =>
    intro m f hc hf
    obtain ⟨f, rfl⟩ : ∃ y, f = y + 1 := ⟨f - 1, by omega⟩
    rw [padm (by omega), L81_0, pad_length, show (16 : Int) = ((16 : Nat) : Int) from rfl, tm (by omega), cNT (by omega)]
  | succ c ih =>
    intro m f hc hf
    obtain ⟨f, rfl⟩ : ∃ y, f = y + 1 := ⟨f - 1, by omega⟩
    have e := ih (m + 1) f (by omega) (by omega)
    rw [List.replicate_succ', ← List.append_assoc] at e
    rw [L81_0]
    have hl : (s ++ List.replicate m (0 : UInt8)).length = s.length + m := by rw [List.length_append, List.length_replicate]
    rw [hl, show (16 : Int) = ((16 : Nat) : Int) from rfl, tm (by omega), cNF (by omega), gp (by simp only [List.length_cons, List.length_nil]; unfold maxText; omega)]
    exact e
theorem L81c {k : Nat} {x : List V} {s : List UInt8} (hs : s.length ≤ 80) : ∀ (c m f : Nat), s.length + m + c = 16 * nb s → c < f → L81_2 k x f (s ++ List.replicate m 0) = some (.e0 (pad s)) := by
  have hnb : nb s = (s.length + 15) / 16 := rfl
  intro c
  induction c with
  | zero =>
    intro m f hc hf
    obtain ⟨f, rfl⟩ : ∃ y, f = y + 1 := ⟨f - 1, by omega⟩
    rw [padm (by omega), L81_2, pad_length, show (16 : Int) = ((16 : Nat) : Int) from rfl, tm (by omega), cNT (by omega)]
  | succ c ih =>
    intro m f hc hf
    obtain ⟨f, rfl⟩ : ∃ y, f = y + 1 := ⟨f - 1, by omega⟩
    have e := ih (m + 1) f (by omega) (by omega)
    rw [List.replicate_succ', ← List.append_assoc] at e
    rw [L81_2]
    have hl : (s ++ List.replicate m (0 : UInt8)).length = s.length + m := by rw [List.length_append, List.length_replicate]
    rw [hl, show (16 : Int) = ((16 : Nat) : Int) from rfl, tm (by omega), cNF (by omega), gp (by simp only [List.length_cons, List.length_nil]; unfold maxText; omega)]
    exact e
theorem cut16 (s : List UInt8) (j : Nat) : List.drop (16 * j) (List.take (16 * j + 16) (pad s)) = blk s j := by
  unfold blk; rw [List.drop_take, show 16 * j + 16 - 16 * j = 16 by omega]
theorem L81b {k : Nat} {s : List UInt8} (hs : s.length ≤ 80) : ∀ (c j f : Nat), nb s - j = c → j ≤ nb s → c < f → ∃ z, L81_1 k (pad s) f ((16 * j : Nat) : Int) ((blks s j).map V.str) = some (.e0 z ((bks s).map V.str)) := by
  have hnb : nb s = (s.length + 15) / 16 := rfl
  intro c
  induction c with
  | zero =>
    intro j f hc hj hf
    obtain ⟨f, rfl⟩ : ∃ y, f = y + 1 := ⟨f - 1, by omega⟩
    rw [L81_1, pad_length, cF (by omega), show j = nb s by omega]
    exact ⟨_, rfl⟩
  | succ c ih =>
    intro j f hc hj hf
    obtain ⟨f, rfl⟩ : ∃ y, f = y + 1 := ⟨f - 1, by omega⟩
    obtain ⟨z, e⟩ := ih (j + 1) f (by omega) (by omega) (by omega)
    refine ⟨z, ?_⟩
    rw [L81_1, pad_length, cT (by omega), wi (n := _ + 16) (by omega) (by omega), gp (by omega), gp (by rw [List.length_map, blks_length]; unfold maxLen'; omega),
      show ((16 * j : Nat) : Int) + 16 = ((16 * (j + 1) : Nat) : Int) by omega, Int.toNat_natCast, Int.toNat_natCast, show 16 * (j + 1) = 16 * j + 16 by omega, cut16, show (blks s j).map V.str ++ [V.str (blk s j)] = (blks s (j + 1)).map V.str by rw [blks_succ, List.map_append]; rfl]
    exact e
theorem L81d {k : Nat} {x : List V} {s : List UInt8} (hs : s.length ≤ 80) : ∀ (c j f : Nat), nb s - j = c → j ≤ nb s → c < f → ∃ z, L81_3 k (pad s) x f ((16 * j : Nat) : Int) ((blks s j).map V.str) = some (.e0 z ((bks s).map V.str)) := by
  have hnb : nb s = (s.length + 15) / 16 := rfl
  intro c
  induction c with
  | zero =>
    intro j f hc hj hf
    obtain ⟨f, rfl⟩ : ∃ y, f = y + 1 := ⟨f - 1, by omega⟩
    rw [L81_3, pad_length, cF (by omega), show j = nb s by omega]
    exact ⟨_, rfl⟩
  | succ c ih =>
    intro j f hc hj hf
    obtain ⟨f, rfl⟩ : ∃ y, f = y + 1 := ⟨f - 1, by omega⟩
    obtain ⟨z, e⟩ := ih (j + 1) f (by omega) (by omega) (by omega)
    refine ⟨z, ?_⟩
    rw [L81_3, pad_length, cT (by omega), wi (n := _ + 16) (by omega) (by omega), gp (by omega), gp (by rw [List.length_map, blks_length]; unfold maxLen'; omega),
      show ((16 * j : Nat) : Int) + 16 = ((16 * (j + 1) : Nat) : Int) by omega, Int.toNat_natCast, Int.toNat_natCast, show 16 * (j + 1) = 16 * j + 16 by omega, cut16, show (blks s j).map V.str ++ [V.str (blk s j)] = (blks s (j + 1)).map V.str by rw [blks_succ, List.map_append]; rfl]
    exact e
def hby (w : Wd) (j : Nat) : UInt8 := UInt8.ofNat (w.toNat / 256 ^ j)
def hiN (w : Wd) : Nat → List UInt8
  | 0 => []
  | i + 1 => hby w i :: hiN w i
theorem hiN_8 (w : Wd) : hiN w 8 = by54 w := by
  simp only [hiN, hby, by54, BitVec.toNat_ushiftRight, Nat.shiftRight_eq_div_pow]
theorem hiN_length (w : Wd) (i : Nat) : (hiN w i).length = i := by
  induction i with
  | zero => rfl
  | succ i ih => rw [hiN, List.length_cons, ih]
theorem L107_run {k : Nat} {w : Wd} : ∀ (c i f : Nat), 8 - i = c → i ≤ 8 → c < f → ∃ x y, L107_0 k f ((w.toNat / 256 ^ i : Nat) : Int) (hiN w i) (i : Int) = some (.e0 x y (hiN w 8)) := by
  intro c
  induction c with
  | zero =>
    intro i f hc hi hf
    obtain ⟨f, rfl⟩ : ∃ y, f = y + 1 := ⟨f - 1, by omega⟩
    rw [L107_0, cF (by omega), show i = 8 by omega]
    exact ⟨_, _, rfl⟩
  | succ c ih =>
    intro i f hc hi hf
    obtain ⟨f, rfl⟩ : ∃ y, f = y + 1 := ⟨f - 1, by omega⟩
    obtain ⟨x, y, h⟩ := ih (i + 1) f (by omega) (by omega) (by omega)
    refine ⟨x, y, ?_⟩
    have hlt : w.toNat / 256 ^ i < 18446744073709551616 := Nat.lt_of_le_of_lt (Nat.div_le_self _ _) w.isLt
    have e1 : IntKind.u64.wrap (((w.toNat / 256 ^ i : Nat) : Int).tdiv 256) = ((w.toNat / 256 ^ (i + 1) : Nat) : Int) := by
      rw [Nat.pow_succ, ← Nat.div_div_eq_div_mul]
      generalize w.toNat / 256 ^ i = y at hlt
      rw [show (256 : Int) = ((256 : Nat) : Int) from rfl, td (by omega), wu (by omega) (by omega)]
      omega
    have e2 : List.map Sym.byteOf ((1 : Nat), [V.int IntKind.u8 (IntKind.u8.wrap (((w.toNat / 256 ^ i : Nat) : Int).tmod 256))]).snd = [hby w i] := by
      unfold hby
      generalize w.toNat / 256 ^ i = y at hlt
      rw [show (256 : Int) = ((256 : Nat) : Int) from rfl, tm (by omega), wb_mod]
      simp only [List.map_cons, List.map_nil, Sym.byteOf]
      congr 1
      apply UInt8.toNat_inj.1
      rw [UInt8.toNat_ofNat', UInt8.toNat_ofNat']
      omega
    rw [L107_0, cT (by omega), e1, e2, wi (n := (i : Int) + 1) (by omega) (by omega), show (i : Int) + 1 = ((i + 1 : Nat) : Int) by omega, gp (by rw [hiN_length]; simp only [List.length_cons, List.length_nil]; unfold maxText; omega)]
    exact h
theorem g107 {k : Nat} {w : Wd} (hk : 10 ≤ k) : F107 k (w.toNat : Int) = some (by54 w) := by
  unfold F107
  obtain ⟨x, y, h⟩ := L107_run (k := k) (w := w) 8 0 (k + 2) (by omega) (by omega) (by omega)
  rw [Nat.pow_zero, Nat.div_one, show hiN w 0 = [] from rfl, show ((0 : Nat) : Int) = 0 from rfl] at h
  rw [h, hiN_8]; rfl
theorem g81 {k : Nat} {a b : List UInt8} (ha : a.length ≤ 80) (hb : b.length ≤ 80) (hk : 100 ≤ k) : F81 k a b = some (none, false, 1, (BL a b).map V.str) := by
  unfold F81
  have hna : nb a ≤ 5 := by unfold nb; omega
  have hnb : nb b ≤ 5 := by unfold nb; omega
  have pa : a.length ≤ 16 * nb a := by unfold nb; omega
  have pb : b.length ≤ 16 * nb b := by unfold nb; omega
  have e1 := L81a (k := k) ha (16 * nb a - a.length) 0 (k + 4) (by omega) (by omega)
  obtain ⟨z2, e2⟩ := L81b (k := k) ha (nb a) 0 (k + 4) (by omega) (by omega) (by omega)
  have e3 := L81c (k := k) (x := (bks a).map V.str) hb (16 * nb b - b.length) 0 (k + 4) (by omega) (by omega)
  obtain ⟨z4, e4⟩ := L81d (k := k) (x := (bks a).map V.str) hb (nb b) 0 (k + 4) (by omega) (by omega) (by omega)
  rw [List.replicate_zero, List.append_nil] at e1 e3
  simp only [Nat.mul_zero, show ∀ s, blks s 0 = [] from fun _ => rfl, List.map_nil] at e2 e4
  rw [e1, Option.bind_some]
  simp only
  rw [show (0 : Int) = ((0 : Nat) : Int) from rfl, e2, Option.bind_some]
  simp only
  rw [e3, Option.bind_some]
  simp only
  rw [e4, Option.bind_some]
  simp only
  rw [gp (by rw [List.length_map, List.length_map, bks_length, bks_length]; unfold maxLen'; omega), u64_len' ha, u64_len' hb, g107 (by omega), Option.bind_some, g107 (by omega), Option.bind_some, gp (by show 16 ≤ maxText; unfold maxText; omega), gp (by rw [List.length_append, List.length_map, List.length_map, bks_length, bks_length]; unfold maxLen'; omega)]
  unfold BL lst
  rw [List.map_append, List.map_append]; rfl
theorem at_str {l : List (List UInt8)} {i : Nat} (h : i < l.length) : (at? (l.map V.str) (i : Int)).bind dS = some l[i] := by
  rw [at_map h]; rfl
end Go.Proofs
set_option linter.unusedVariables false
set_option linter.unusedSimpArgs false
set_option maxRecDepth 100000
namespace Go.Proofs
open Go Go.Sym Go.Sym.Gf
def sumE (h e : E) (l : List (List UInt8)) : E := l.foldl (fun e b => gm (e ^^^ el b) h) e
theorem pe_xor (a b c d : Wd) : pe (a ^^^ c) (b ^^^ d) = pe a b ^^^ pe c d := by
  apply ext
  intro i hi
  rw [BitVec.getLsbD_xor]
  by_cases h1 : i < 64
  · rw [pe_hi _ _ h1, pe_hi _ _ h1, pe_hi _ _ h1, BitVec.getLsbD_xor]
  · rw [pe_lo _ _ (by omega) hi, pe_lo _ _ (by omega) hi, pe_lo _ _ (by omega) hi, BitVec.getLsbD_xor]
theorem l27 {k : Nat} {a b : Wd} {b0 : Bool} {s0 s1 s2 : List UInt8} {o0 : Option Bool} {l : List (List UInt8)} (h16 : ∀ x ∈ l, x.length = 16) (hl : l.length ≤ 100) (hk : 200 ≤ k) :
    ∀ (c i f : Nat) (h g : Wd), l.length - i = c → i ≤ l.length → c < f → ∃ (z : Int) (h' g' : Wd), L48_0 k (a.toNat : Int) (b.toNat : Int) b0 s0 s1 s2 (l.map V.str) o0 1 f (i : Int) (h.toNat : Int) (g.toNat : Int) = some (.e0 z (h'.toNat : Int) (g'.toNat : Int)) ∧ pe h' g' = sumE (pe a b) (pe h g) (l.drop i) := by
  intro c
  induction c with
  | zero =>
    intro i f h g hc hi hf
    obtain ⟨f, rfl⟩ : ∃ y, f = y + 1 := ⟨f - 1, by omega⟩
    refine ⟨(i : Int), h, g, ?_, ?_⟩
    · rw [L48_0, List.length_map, cF (by omega)]
    · rw [List.drop_eq_nil_of_le (by omega)]; rfl
  | succ c ih =>
    intro i f h g hc hi hf
    obtain ⟨f, rfl⟩ : ∃ y, f = y + 1 := ⟨f - 1, by omega⟩
    have hi' : i < l.length := by omega
    obtain ⟨x, y, e1, p1⟩ := g72 (k := k + 11) l[i] (h16 _ (List.getElem_mem hi')) (by omega)
    obtain ⟨h2, g2, e2, p2⟩ := g74 (k := k + 11) (h ^^^ x) (g ^^^ y) a b (by omega)
    obtain ⟨z, h', g', e3, p3⟩ := ih (i + 1) f h2 g2 (by omega) (by omega) (by omega)
    refine ⟨z, h', g', ?_, ?_⟩
    · rw [L48_0, List.length_map, cT (by omega), gp rfl, at_str hi', Option.bind_some, e1, Option.bind_some]
      simp only
      rw [xor_w, xor_w, e2, Option.bind_some]
      simp only
      rw [wi (n := (i : Int) + 1) (by omega) (by omega), show (i : Int) + 1 = ((i + 1 : Nat) : Int) by omega]
      exact e3
    · rw [p3, p2, pe_xor, p1, List.drop_eq_getElem_cons hi']; rfl
theorem BL_small {a b : List UInt8} (ha : a.length ≤ 80) (hb : b.length ≤ 80) : (BL a b).length ≤ 11 := by
  rw [BL_length]; unfold nb; omega
theorem g48 {k : Nat} {h a b : List UInt8} (hh : h.length = 16) (ha : a.length ≤ 80) (hb : b.length ≤ 80) (hk : 200 ≤ k) : ∃ r, F48 k h a b = some (r, 0) ∧ r.length = 16 ∧ el r = sumE (el h) 0#128 (BL a b) := by
  obtain ⟨x, y, e1, p1⟩ := g72 (k := k + 11) h hh (by omega)
  have hn := BL_small ha hb
  obtain ⟨z, h', g', e2, p2⟩ := l27 (k := k) (a := x) (b := y) (b0 := false) (s0 := h) (s1 := a) (s2 := b) (o0 := none) (l := BL a b) (fun _ => BL_16) (by omega) hk (BL a b).length 0 (k + 17) 0#64 0#64 (by omega) (by omega) (by omega)
  refine ⟨by54 h' ++ by54 g', ?_, rfl, ?_⟩
  · unfold F48
    rw [cNT (by omega), e1, Option.bind_some]
    simp only
    rw [g73 ha hb, Option.bind_some]
    simp only
    have e2' : L48_0 k (x.toNat : Int) (y.toNat : Int) false h a b ((BL a b).map V.str) none 1 (k + 17) 0 0 0 = _ := e2
    rw [e2', Option.bind_some]
    simp only
    rw [g75, Option.bind_some]
  · rw [el_block, p2, pe_zero, p1, List.drop_zero]
theorem u8_of (a : UInt8) : BitVec.ofInt IntKind.u8.bits (a.toNat : Int) = a.toBitVec := by
  show BitVec.ofInt 8 ((a.toBitVec.toNat : Nat) : Int) = a.toBitVec
  rw [BitVec.ofInt_natCast, BitVec.ofNat_toNat, BitVec.setWidth_eq]
theorem xor_b (a b : UInt8) : IntKind.u8.wrap (↑(BitVec.ofInt IntKind.u8.bits (a.toNat : Int) ^^^ BitVec.ofInt IntKind.u8.bits (b.toNat : Int)).toNat : Int) = ((a ^^^ b).toNat : Int) := by
  rw [u8_of, u8_of, wb_mod]
  show (((a ^^^ b).toNat : Int)) % 256 = _
  have := (a ^^^ b).toNat_lt
  omega
def fb (c : UInt8) : V := V.int IntKind.u8 (c.toNat : Int)
theorem all_fb (l : List UInt8) : (l.map fb).all isByte = true := by
  rw [List.all_eq_true]; intro x hx
  obtain ⟨c, _, rfl⟩ := List.mem_map.1 hx
  rfl
theorem byteOf_fb (l : List UInt8) : (l.map fb).map Sym.byteOf = l := by
  rw [List.map_map]
  conv => rhs; rw [← List.map_id l]
  apply List.map_congr_left
  intro c _
  show UInt8.ofNat ((c.toNat : Int)).toNat = c
  rw [Int.toNat_natCast]; exact UInt8.ofNat_toNat
def zxn (s t : List UInt8) (i : Nat) : List UInt8 := (List.range i).map fun j => (s[j]?.getD 0) ^^^ (t[j]?.getD 0)
theorem satB_nat {t : List UInt8} {j : Nat} (h : j < t.length) : satB t ((j : Nat) : Int) = some (t[j]?.getD 0) := by
  unfold satB; rw [if_pos (Int.natCast_nonneg _), Int.toNat_natCast, List.getElem?_eq_getElem h]; rfl
theorem L34_run {k : Nat} {s t : List UInt8} (hs : s.length = t.length) (hl : s.length ≤ 1000) : ∀ (c i f : Nat), s.length - i = c → i ≤ s.length → c < f → ∃ z, L34_0 k s t f (i : Int) ((zxn s t i).map fb) = some (.e0 z ((zxn s t s.length).map fb)) := by
  intro c
  induction c with
  | zero =>
    intro i f hc hi hf
    obtain ⟨f, rfl⟩ : ∃ y, f = y + 1 := ⟨f - 1, by omega⟩
    rw [L34_0, cF (by omega), show i = s.length by omega]
    exact ⟨_, rfl⟩
  | succ c ih =>
    intro i f hc hi hf
    obtain ⟨f, rfl⟩ : ∃ y, f = y + 1 := ⟨f - 1, by omega⟩
    obtain ⟨z, e⟩ := ih (i + 1) f (by omega) (by omega) (by omega)
    refine ⟨z, ?_⟩
    rw [L34_0, cT (by omega), satB_nat (by omega), Option.bind_some, satB_nat (by omega), Option.bind_some, gp (by rw [List.length_map]; simp only [zxn, List.length_map, List.length_range]; unfold maxLen'; omega), xor_b, wi (n := (i : Int) + 1) (by omega) (by omega), show (i : Int) + 1 = ((i + 1 : Nat) : Int) by omega,
      show (zxn s t i).map fb ++ [V.int IntKind.u8 (((s[i]?.getD 0 ^^^ t[i]?.getD 0 : UInt8).toNat : Nat) : Int)] = (zxn s t (i + 1)).map fb by simp [zxn, List.range_succ, fb]]
    exact e
theorem g34 {k : Nat} {s t : List UInt8} (hs : s.length = 16) (ht : t.length = 16) (hk : 20 ≤ k) : F34 k s t = some (zxn s t 16) := by
  obtain ⟨z, e⟩ := L34_run (k := k) (s := s) (t := t) (by omega) (by omega) 16 0 (k + 2) (by omega) (by omega) (by omega)
  unfold F34
  have e' : L34_0 k s t (k + 2) 0 [] = _ := e
  rw [e', Option.bind_some]
  simp only
  rw [gp (all_fb _), byteOf_fb, hs]
theorem zxn_el {s t : List UInt8} : el (zxn s t 16) = el s ^^^ el t := by
  apply ext
  intro i hi
  rw [BitVec.getLsbD_xor, el_bit _ hi, el_bit _ hi, el_bit _ hi]
  unfold cof
  have : (zxn s t 16)[i / 8]? = some (s[i / 8]?.getD 0 ^^^ t[i / 8]?.getD 0) := by
    unfold zxn; rw [List.getElem?_map, List.getElem?_range (by omega)]; rfl
  rw [this]
  show ((s[i / 8]?.getD 0) ^^^ (t[i / 8]?.getD 0)).toNat.testBit _ = _
  rw [UInt8.toNat_xor, Nat.testBit_xor]
theorem zxn_length (s t : List UInt8) : (zxn s t 16).length = 16 := by simp [zxn]
theorem l31 {k : Nat} {b0 : Bool} {s0 s1 s2 : List UInt8} {o0 : Option Bool} {l : List (List UInt8)} (h16 : ∀ x ∈ l, x.length = 16) (hs0 : s0.length = 16) (hl : l.length ≤ 100) (hk : 300 ≤ k) :
    ∀ (c i f : Nat) (s : List UInt8), l.length - i = c → i ≤ l.length → c < f → s.length = 16 → ∃ (z : Int) (r : List UInt8), L52_0 k b0 s0 s1 s2 (l.map V.str) o0 1 f s (i : Int) = some (.e0 z r) ∧ r.length = 16 ∧ el r = sumE (el s0) (el s) (l.drop i) := by
  intro c
  induction c with
  | zero =>
    intro i f s hc hi hf hs
    obtain ⟨f, rfl⟩ : ∃ y, f = y + 1 := ⟨f - 1, by omega⟩
    refine ⟨(i : Int), s, ?_, hs, ?_⟩
    · rw [L52_0, List.length_map, cF (by omega)]
    · rw [List.drop_eq_nil_of_le (by omega)]; rfl
  | succ c ih =>
    intro i f s hc hi hf hs
    obtain ⟨f, rfl⟩ : ∃ y, f = y + 1 := ⟨f - 1, by omega⟩
    have hi' : i < l.length := by omega
    obtain ⟨q, e1, hq, p1⟩ := g82 (k := k + 2) (zxn s l[i] 16) s0 (zxn_length _ _) hs0 (by omega)
    obtain ⟨z, r, e2, hr, p2⟩ := ih (i + 1) f q (by omega) (by omega) (by omega) hq
    refine ⟨z, r, ?_, hr, ?_⟩
    · rw [L52_0, List.length_map, cT (by omega), gp rfl, at_str hi', Option.bind_some, g34 hs (h16 _ (List.getElem_mem hi')) (by omega), Option.bind_some, e1, Option.bind_some, wi (n := (i : Int) + 1) (by omega) (by omega), show (i : Int) + 1 = ((i + 1 : Nat) : Int) by omega]
      exact e2
    · rw [p2, p1, zxn_el, List.drop_eq_getElem_cons hi']; rfl
def ZERO : List UInt8 := [0, 0, 0, 0, 0, 0, 0, 0, 0, 0, 0, 0, 0, 0, 0, 0]
theorem el_zero : el ZERO = 0#128 := by kernel_rfl
theorem g52 {k : Nat} {h a b : List UInt8} (hh : h.length = 16) (ha : a.length ≤ 80) (hb : b.length ≤ 80) (hk : 300 ≤ k) : ∃ r, F52 k h a b = some r ∧ r.length = 16 ∧ el r = sumE (el h) 0#128 (BL a b) := by
  have hn := BL_small ha hb
  obtain ⟨z, r, e, hr, p⟩ := l31 (k := k) (b0 := false) (s0 := h) (s1 := a) (s2 := b) (o0 := none) (l := BL a b) (fun _ => BL_16) hh (by omega) hk (BL a b).length 0 (k + 11) ZERO (by omega) (by omega) (by omega) rfl
  refine ⟨r, ?_, hr, ?_⟩
  · unfold F52
    rw [g81 ha hb (by omega), Option.bind_some]
    simp only
    have e' : L52_0 k false h a b ((BL a b).map V.str) none 1 (k + 11) ([0, 0, 0, 0, 0, 0, 0, 0, 0, 0, 0, 0, 0, 0, 0, 0]) 0 = _ := e
    rw [e', Option.bind_some]
  · rw [p, el_zero, List.drop_zero]
end Go.Proofs
set_option linter.unusedVariables false
set_option linter.unusedSimpArgs false
set_option maxRecDepth 1000000
namespace Go.Proofs.Gc
open Go Go.Sym Go.Sym.Gf Go.Proofs.Ae
def ctr (n : Nat) : List UInt8 := [UInt8.ofNat (n / 16777216), UInt8.ofNat (n / 65536), UInt8.ofNat (n / 256), UInt8.ofNat n]
theorem ctr_length (n : Nat) : (ctr n).length = 4 := rfl
theorem bO (n : Nat) : Sym.byteOf (V.int IntKind.u8 (IntKind.u8.wrap (n : Int))) = UInt8.ofNat n := by
  rw [wb_mod]
  show UInt8.ofNat ((n : Int) % 256).toNat = _
  rw [show ((n : Int) % 256).toNat = n % 256 by omega]
  apply UInt8.toNat_inj.1
  rw [UInt8.toNat_ofNat', UInt8.toNat_ofNat']; omega
theorem ofNat_mod (n : Nat) : UInt8.ofNat (n % 256) = UInt8.ofNat n := by
  apply UInt8.toNat_inj.1
  rw [UInt8.toNat_ofNat', UInt8.toNat_ofNat']; omega
theorem wu32 {n : Int} (h1 : 0 ≤ n) (h2 : n < 4294967296) : IntKind.u32.wrap n = n := by
  simp only [IntKind.wrap, IntKind.signed, IntKind.bits]
  have : n % 4294967296 = n := Int.emod_eq_of_lt h1 h2
  simpa using this
theorem wu32_mod (n : Int) : IntKind.u32.wrap n = n % 4294967296 := by
  simp [IntKind.wrap, IntKind.signed, IntKind.bits]
theorem ctrP {n : Nat} (hn : n < 4294967296) : List.map Sym.byteOf ((1 : Nat), [V.int IntKind.u8 (IntKind.u8.wrap ((n : Int).fdiv (2 ^ min (Int.toNat 24) IntKind.u32.bits))), V.int IntKind.u8 (IntKind.u8.wrap ((n : Int).fdiv (2 ^ min (Int.toNat 16) IntKind.u32.bits))), V.int IntKind.u8 (IntKind.u8.wrap ((n : Int).fdiv (2 ^ min (Int.toNat 8) IntKind.u32.bits))), V.int IntKind.u8 (IntKind.u8.wrap (n : Int))]).snd = ctr n := by
  have e1 : (n : Int).fdiv (2 ^ min (Int.toNat 24) IntKind.u32.bits) = ((n / 16777216 : Nat) : Int) := by
    show (n : Int).fdiv 16777216 = _
    rw [Int.fdiv_eq_ediv_of_nonneg _ (by decide)]; omega
  have e2 : (n : Int).fdiv (2 ^ min (Int.toNat 16) IntKind.u32.bits) = ((n / 65536 : Nat) : Int) := by
    show (n : Int).fdiv 65536 = _
    rw [Int.fdiv_eq_ediv_of_nonneg _ (by decide)]; omega
  have e3 : (n : Int).fdiv (2 ^ min (Int.toNat 8) IntKind.u32.bits) = ((n / 256 : Nat) : Int) := by
    show (n : Int).fdiv 256 = _
    rw [Int.fdiv_eq_ediv_of_nonneg _ (by decide)]; omega
  rw [e1, e2, e3]
  simp only [List.map_cons, List.map_nil, bO]
  rfl
theorem g53 {k n : Nat} (hn : n < 4294967296) : F53 k (n : Int) = some (ctr n) := by
  unfold F53
  have e1 : IntKind.u32.wrap ((n : Int).tdiv 16777216) = ((n / 16777216 : Nat) : Int) := by
    rw [show (16777216 : Int) = ((16777216 : Nat) : Int) from rfl, td (by omega), wu32 (by omega) (by omega)]; omega
  have e2 : (IntKind.u32.wrap ((n : Int).tdiv 65536)).tmod 256 = ((n / 65536 % 256 : Nat) : Int) := by
    rw [show (65536 : Int) = ((65536 : Nat) : Int) from rfl, td (by omega), wu32 (by omega) (by omega), show (256 : Int) = ((256 : Nat) : Int) from rfl, tm (by omega)]; omega
  have e3 : (IntKind.u32.wrap ((n : Int).tdiv 256)).tmod 256 = ((n / 256 % 256 : Nat) : Int) := by
    rw [show (256 : Int) = ((256 : Nat) : Int) from rfl, td (by omega), wu32 (by omega) (by omega), tm (by omega)]; omega
  have e4 : (n : Int).tmod 256 = ((n % 256 : Nat) : Int) := by
    rw [show (256 : Int) = ((256 : Nat) : Int) from rfl, tm (by omega)]; omega
  rw [e1, e2, e3, e4]
  simp only [List.map_cons, List.map_nil, bO, ofNat_mod]
  rfl
def sl (s nonce : List UInt8) (many : Nat) : Nat → Nat → List UInt8 → List UInt8
  | 0, _, out => out
  | f + 1, n, out => if out.length < many then sl s nonce many f ((n + 1) % 4294967296) (out ++ aes s (nonce ++ ctr n)) else out
def stream (s nonce : List UInt8) (n many : Nat) : List UInt8 := (sl s nonce many many n []).take many
theorem sl_length {s nonce : List UInt8} (h : keyOk s) (hn : nonce.length = 12) {many : Nat} : ∀ (f n : Nat) (out : List UInt8), many ≤ out.length + 16 * f → many ≤ (sl s nonce many f n out).length := by
  intro f
  induction f with
  | zero => intro n out h; exact h
  | succ f ih =>
    intro n out hm
    rw [sl]
    split
    · exact ih _ _ (by rw [List.length_append, aes_length h (by rw [List.length_append, ctr_length, hn])]; omega)
    · omega
theorem stream_length {s nonce : List UInt8} (h : keyOk s) (hn : nonce.length = 12) {n many : Nat} : (stream s nonce n many).length = many := by
  unfold stream
  have := sl_length h hn (many := many) many n [] (by omega)
  rw [List.length_take]; omega
theorem u32_next (n : Nat) : IntKind.u32.wrap ((n : Int) + 1) = (((n + 1) % 4294967296 : Nat) : Int) := by rw [wu32_mod]; omega
theorem L49r {k many : Nat} {s nonce : List UInt8} (h : keyOk s) (hn : nonce.length = 12) (hm : many ≤ 6000) (hk : 1300 ≤ k) : ∀ (c g n : Nat) (out : List UInt8), many ≤ out.length + 16 * c → c < g → out.length ≤ many + 16 → n < 4294967296 →
    ∃ z, L49_0 k (many : Int) s nonce g (n : Int) out = some (.e0 z (sl s nonce many c n out)) := by
  intro c
  induction c with
  | zero =>
    intro g n out h1 hg h2 hn32
    obtain ⟨g, rfl⟩ : ∃ y, g = y + 1 := ⟨g - 1, by omega⟩
    rw [L49_0, cF (by omega)]
    exact ⟨_, rfl⟩
  | succ c ih =>
    intro g n out h1 hg h2 hn32
    obtain ⟨g, rfl⟩ : ∃ y, g = y + 1 := ⟨g - 1, by omega⟩
    rw [L49_0, sl]
    by_cases hlt : out.length < many
    · have ht : (nonce ++ ctr n).length = 16 := by rw [List.length_append, ctr_length, hn]
      have ha := aes_length h ht
      obtain ⟨z, e⟩ := ih g ((n + 1) % 4294967296) (out ++ aes s (nonce ++ ctr n)) (by rw [List.length_append, ha]; omega) (by omega) (by rw [List.length_append, ha]; omega) (by omega)
      refine ⟨z, ?_⟩
      rw [cT (by omega), if_pos hlt, ctrP hn32, gp (by rw [ctr_length]; unfold maxText; omega), g46 h ht (by omega), Option.bind_some]
      simp only
      rw [gp (by rw [ha]; unfold maxBld; omega), u32_next]
      exact e
    · rw [cF (by omega), if_neg hlt]
      exact ⟨_, rfl⟩
theorem L35r {k many : Nat} {s nonce : List UInt8} (h : keyOk s) (hn : nonce.length = 12) (hm : many ≤ 6000) (hk : 1300 ≤ k) : ∀ (c g n : Nat) (out : List UInt8), many ≤ out.length + 16 * c → c < g → out.length ≤ many + 16 → n < 4294967296 →
    ∃ z, L35_0 k (many : Int) s nonce g (n : Int) out = some (.e0 z (sl s nonce many c n out)) := by
  intro c
  induction c with
  | zero =>
    intro g n out h1 hg h2 hn32
    obtain ⟨g, rfl⟩ : ∃ y, g = y + 1 := ⟨g - 1, by omega⟩
    rw [L35_0, cF (by omega)]
    exact ⟨_, rfl⟩
  | succ c ih =>
    intro g n out h1 hg h2 hn32
    obtain ⟨g, rfl⟩ : ∃ y, g = y + 1 := ⟨g - 1, by omega⟩
    rw [L35_0, sl]
    by_cases hlt : out.length < many
    · have ht : (nonce ++ ctr n).length = 16 := by rw [List.length_append, ctr_length, hn]
      have ha := aes_length h ht
      obtain ⟨z, e⟩ := ih g ((n + 1) % 4294967296) (out ++ aes s (nonce ++ ctr n)) (by rw [List.length_append, ha]; omega) (by omega) (by rw [List.length_append, ha]; omega) (by omega)
      refine ⟨z, ?_⟩
      rw [cT (by omega), if_pos hlt, g53 hn32, Option.bind_some, gp (by rw [ctr_length]; unfold maxText; omega), g51 h ht (by omega), Option.bind_some, gp (by rw [ha]; unfold maxText; omega), u32_next]
      exact e
    · rw [cF (by omega), if_neg hlt]
      exact ⟨_, rfl⟩
theorem g49 {k n many : Nat} {s nonce : List UInt8} (h : keyOk s) (hn : nonce.length = 12) (hm : many ≤ 6000) (h32 : n < 4294967296) (hk : 6100 ≤ k) : F49 k s nonce (n : Int) (many : Int) = some (stream s nonce n many) := by
  unfold F49
  obtain ⟨z, e⟩ := L49r (k := k) h hn hm (by omega) many (k + 41) n [] (by omega) (by omega) (by simp) h32
  have hl := sl_length h hn (many := many) many n [] (by omega)
  rw [e, Option.bind_some]
  simp only
  rw [gp (by omega), Int.toNat_natCast]
  rfl
theorem g35 {k n many : Nat} {s nonce : List UInt8} (h : keyOk s) (hn : nonce.length = 12) (hm : many ≤ 6000) (h32 : n < 4294967296) (hk : 6100 ≤ k) : F35 k s nonce (n : Int) (many : Int) = some (stream s nonce n many) := by
  unfold F35
  obtain ⟨z, e⟩ := L35r (k := k) h hn hm (by omega) many (k + 26) n [] (by omega) (by omega) (by simp) h32
  have hl := sl_length h hn (many := many) many n [] (by omega)
  rw [e, Option.bind_some]
  simp only
  rw [gp (by omega), Int.toNat_natCast]
  rfl
theorem satB_at {t : List UInt8} {j : Nat} (h : j < t.length) : satB t ((j : Nat) : Int) = some t[j] := by
  unfold satB; rw [if_pos (Int.natCast_nonneg _), Int.toNat_natCast, List.getElem?_eq_getElem h]
def part (s t : List UInt8) (i : Nat) : List UInt8 := xorL (s.take i) (t.take i) ++ s.drop i
theorem part_length {s t : List UInt8} (h : s.length = t.length) {i : Nat} (hi : i ≤ s.length) : (part s t i).length = s.length := by
  unfold part xorL; rw [List.length_append, List.length_zipWith, List.length_take, List.length_take, List.length_drop]; omega
theorem xorL_take_succ {s t : List UInt8} {i : Nat} (hi : i < s.length) (hj : i < t.length) : xorL (s.take (i + 1)) (t.take (i + 1)) = xorL (s.take i) (t.take i) ++ [s[i] ^^^ t[i]] := by
  rw [List.take_succ_eq_append_getElem hi, List.take_succ_eq_append_getElem hj]; unfold xorL; rw [List.zipWith_append (by rw [List.length_take, List.length_take]; omega)]; rfl
theorem L50r {k : Nat} {s t : List UInt8} (hs : t.length = s.length) (hl : s.length ≤ 6000) : ∀ (c i f : Nat), s.length - i = c → i ≤ s.length → c < f → ∃ z, L50_0 k t s f (i : Int) ((part s t i).map ub) = some (.e0 z ((xorL s t).map ub)) := by
  intro c
  induction c with
  | zero =>
    intro i f hc hi hf
    obtain ⟨f, rfl⟩ : ∃ y, f = y + 1 := ⟨f - 1, by omega⟩
    rw [L50_0, List.length_map, cF (by omega)]
    unfold part
    rw [List.take_of_length_le (by omega), List.take_of_length_le (by omega), List.drop_eq_nil_of_le (by omega), List.append_nil]
    exact ⟨_, rfl⟩
  | succ c ih =>
    intro i f hc hi hf
    obtain ⟨f, rfl⟩ : ∃ y, f = y + 1 := ⟨f - 1, by omega⟩
    have hi' : i < s.length := by omega
    have hj' : i < t.length := by omega
    obtain ⟨z, e⟩ := ih (i + 1) f (by omega) (by omega) (by omega)
    refine ⟨z, ?_⟩
    have hx : (xorL (s.take i) (t.take i)).length = i := by unfold xorL; rw [List.length_zipWith, List.length_take, List.length_take]; omega
    have h1 : (((part s t i).map ub)[i]?).bind (dI IntKind.u8) = some ((s[i].toNat : Nat) : Int) := by
      unfold part
      rw [List.getElem?_map, List.getElem?_append_right (by omega), hx, Nat.sub_self, List.getElem?_drop, Nat.add_zero, List.getElem?_eq_getElem hi']
      exact dI_int _ _
    have h2 : ((part s t i).map ub).set i (V.int IntKind.u8 ((s[i] ^^^ t[i]).toNat : Int)) = (part s t (i + 1)).map ub := by
      rw [show V.int IntKind.u8 ((s[i] ^^^ t[i]).toNat : Int) = ub (s[i] ^^^ t[i]) from rfl, ← List.map_set]
      congr 1
      unfold part
      rw [List.set_append_right _ _ (by omega), hx, Nat.sub_self, List.drop_eq_getElem_cons hi', List.set_cons_zero, xorL_take_succ hi' hj', List.append_assoc]
      rfl
    rw [L50_0, List.length_map, cT (by omega), gp (by rw [List.length_map, part_length (by omega) hi]; omega), Int.toNat_natCast, h1, Option.bind_some, satB_at hj', Option.bind_some, gp (by rw [List.length_map, part_length (by omega) hi]; omega), Ae.xor_b, h2, wi (n := (i : Int) + 1) (by omega) (by omega), show (i : Int) + 1 = ((i + 1 : Nat) : Int) by omega]
    exact e
theorem g50 {k : Nat} {s t : List UInt8} (hs : t.length = s.length) (hl : s.length ≤ 6000) (hk : 6100 ≤ k) : F50 k t s = some (xorL s t) := by
  obtain ⟨z, e⟩ := L50r (k := k) hs hl s.length 0 (k + 2) (by omega) (by omega) (by omega)
  have e' : L50_0 k t s (k + 2) 0 (List.map (fun c : UInt8 => V.int IntKind.u8 (c.toNat : Int)) s) = _ := e
  unfold F50
  rw [gp (by unfold maxLen'; omega), e', Option.bind_some]
  simp only
  rw [gp (Ae.all_ub _), Ae.byteOf_ub]
theorem L34r {k : Nat} {s t : List UInt8} (hs : s.length = t.length) (hl : s.length ≤ 6000) : ∀ (c i f : Nat), s.length - i = c → i ≤ s.length → c < f → ∃ z, L34_0 k s t f (i : Int) ((xorL (s.take i) (t.take i)).map ub) = some (.e0 z ((xorL s t).map ub)) := by
  intro c
  induction c with
  | zero =>
    intro i f hc hi hf
    obtain ⟨f, rfl⟩ : ∃ y, f = y + 1 := ⟨f - 1, by omega⟩
    rw [L34_0, cF (by omega), List.take_of_length_le (by omega), List.take_of_length_le (by omega)]
    exact ⟨_, rfl⟩
  | succ c ih =>
    intro i f hc hi hf
    obtain ⟨f, rfl⟩ : ∃ y, f = y + 1 := ⟨f - 1, by omega⟩
    have hi' : i < s.length := by omega
    have hj' : i < t.length := by omega
    obtain ⟨z, e⟩ := ih (i + 1) f (by omega) (by omega) (by omega)
    refine ⟨z, ?_⟩
    have hx : (xorL (s.take i) (t.take i)).length = i := by unfold xorL; rw [List.length_zipWith, List.length_take, List.length_take]; omega
    rw [L34_0, cT (by omega), satB_at hi', Option.bind_some, satB_at hj', Option.bind_some, gp (by rw [List.length_map, hx]; unfold maxLen'; omega), Ae.xor_b, wi (n := (i : Int) + 1) (by omega) (by omega), show (i : Int) + 1 = ((i + 1 : Nat) : Int) by omega,
      show (xorL (s.take i) (t.take i)).map ub ++ [V.int IntKind.u8 ((s[i] ^^^ t[i]).toNat : Int)] = (xorL (s.take (i + 1)) (t.take (i + 1))).map ub by rw [xorL_take_succ hi' hj', List.map_append]; rfl]
    exact e
theorem g34 {k : Nat} {s t : List UInt8} (hs : s.length = t.length) (hl : s.length ≤ 6000) (hk : 6100 ≤ k) : F34 k s t = some (xorL s t) := by
  obtain ⟨z, e⟩ := L34r (k := k) hs hl s.length 0 (k + 2) (by omega) (by omega) (by omega)
  have e' : L34_0 k s t (k + 2) 0 [] = _ := e
  unfold F34
  rw [e', Option.bind_some]
  simp only
  rw [gp (Ae.all_ub _), Ae.byteOf_ub]
def unE (e : E) : List UInt8 := bys ((List.range 128).map fun i => e.getLsbD i)
theorem unE_length (e : E) : (unE e).length = 16 := by simp [unE, bys]
theorem el_unE (e : E) : el (unE e) = e := by
  unfold unE
  rw [el_bys _ (by simp)]
  refine Eq.trans (S_congr fun i hi => ?_) (mk_get e)
  rw [List.getElem?_map, List.getElem?_range hi]; rfl
def sumL (h a b : List UInt8) : List UInt8 := unE (sumE (el h) 0#128 (BL a b))
theorem sumL_length (h a b : List UInt8) : (sumL h a b).length = 16 := unE_length _
theorem u27 {k : Nat} {h a b : List UInt8} (hh : h.length = 16) (ha : a.length ≤ 80) (hb : b.length ≤ 80) (hk : 300 ≤ k) : F48 k h a b = some (sumL h a b, 0) := by
  obtain ⟨r, e, hl, p⟩ := g48 (k := k) hh ha hb (by omega)
  rw [e, el_inj hl (sumL_length h a b) (p.trans (el_unE _).symm)]
theorem u31 {k : Nat} {h a b : List UInt8} (hh : h.length = 16) (ha : a.length ≤ 80) (hb : b.length ≤ 80) (hk : 300 ≤ k) : F52 k h a b = some (sumL h a b) := by
  obtain ⟨r, e, hl, p⟩ := g52 (k := k) hh ha hb (by omega)
  rw [e, el_inj hl (sumL_length h a b) (p.trans (el_unE _).symm)]
def tagS (s nonce head text : List UInt8) : List UInt8 := xorL (sumL (aes s ZERO) head text) (stream s nonce 1 16)
theorem tag_length {s nonce head text : List UInt8} (h : keyOk s) (hn : nonce.length = 12) : (tagS s nonce head text).length = 16 := by
  unfold tagS; rw [xor_length (by rw [sumL_length, stream_length h hn]), sumL_length]
theorem g31 {k : Nat} {s nonce head text : List UInt8} (h : keyOk s) (hn : nonce.length = 12) (ha : head.length ≤ 80) (hb : text.length ≤ 80) (hk : 7000 ≤ k) : F31 k s nonce head text = some (tagS s nonce head text) := by
  have hz : (ZERO).length = 16 := rfl
  have ha16 := aes_length h hz
  unfold F31
  rw [show (16 : Int) = ((16 : Nat) : Int) from rfl, g47 (k + 44) (by omega), Option.bind_some]
  show ((F46 (k + 6) s ZERO).bind _) = _
  rw [g46 h hz (by omega), Option.bind_some]
  simp only
  rw [u27 ha16 ha hb (by omega), Option.bind_some]
  simp only
  rw [show (1 : Int) = ((1 : Nat) : Int) from rfl, g49 h hn (by omega) (by omega) (by omega), Option.bind_some, g50 (by rw [stream_length h hn, sumL_length]) (by rw [sumL_length]; omega) (by omega), Option.bind_some]
  rfl
theorem g33 {k : Nat} {s nonce head text : List UInt8} (h : keyOk s) (hn : nonce.length = 12) (ha : head.length ≤ 80) (hb : text.length ≤ 80) (hk : 7000 ≤ k) : F33 k s nonce head text = some (tagS s nonce head text) := by
  have hz : (ZERO).length = 16 := rfl
  have ha16 := aes_length h hz
  unfold F33
  show ((F51 (k + 5) s ZERO).bind _) = _
  rw [g51 h hz (by omega), Option.bind_some, u31 ha16 ha hb (by omega), Option.bind_some, show (1 : Int) = ((1 : Nat) : Int) from rfl, show (16 : Int) = ((16 : Nat) : Int) from rfl, g35 h hn (by omega) (by omega) (by omega), Option.bind_some, g34 (by rw [stream_length h hn, sumL_length]) (by rw [sumL_length]; omega) (by omega), Option.bind_some]
  rfl
def may (s nonce : List UInt8) : Bool := (decide (s.length = 16) || decide (s.length = 32)) && decide (nonce.length = 12)
theorem may_iff {s nonce : List UInt8} : may s nonce = true ↔ keyOk s ∧ nonce.length = 12 := by
  unfold may keyOk
  rw [Bool.and_eq_true, Bool.or_eq_true, decide_eq_true_iff, decide_eq_true_iff, decide_eq_true_iff]
theorem g30 {k : Nat} {s nonce : List UInt8} : F30 k s nonce = some (may s nonce) := by
  unfold F30 may
  have e : decide ((nonce.length : Int) = 12) = decide (nonce.length = 12) := decide_eq_decide.2 (by omega)
  rw [e]
  by_cases h1 : s.length = 16
  · rw [cT (by omega), dec_t h1, Bool.true_or, Bool.true_and]
  · rw [cF (by omega), dec_f h1, Bool.false_or]
    by_cases h2 : s.length = 32
    · rw [cT (by omega), dec_t h2, Bool.true_and]
    · rw [cF (by omega), dec_f h2, Bool.false_and]
def cip (s nonce text : List UInt8) : List UInt8 := xorL text (stream s nonce 2 text.length)
def sealS (s nonce head text : List UInt8) : List UInt8 := cip s nonce text ++ tagS s nonce head (cip s nonce text)
theorem cip_length {s nonce text : List UInt8} (h : keyOk s) (hn : nonce.length = 12) : (cip s nonce text).length = text.length := by
  unfold cip; rw [xor_length (by rw [stream_length h hn])]
theorem g23 {k : Nat} {s nonce head text : List UInt8} (h : may s nonce = true) (ha : head.length ≤ 80) (hb : text.length ≤ 80) (hk : 7000 ≤ k) : F23 k s nonce head text = some (sealS s nonce head text, 0) := by
  obtain ⟨hs, hn⟩ := may_iff.1 h
  have hc := cip_length (text := text) hs hn
  unfold F23
  rw [g30, h, Option.bind_some, Bool.not_true, cond_false, cF (by omega), cF (by omega), show (2 : Int) = ((2 : Nat) : Int) from rfl, g49 hs hn (by omega) (by omega) (by omega), Option.bind_some, g50 (by rw [stream_length hs hn]) (by omega) (by omega), Option.bind_some]
  show ((F31 (k + 2) s nonce head (cip s nonce text)).bind _) = _
  rw [g31 hs hn ha (by omega) (by omega), Option.bind_some]
  show guardP ((cip s nonce text).length + _ ≤ maxText) _ = _
  rw [gp (by rw [hc, tag_length hs hn]; unfold maxText; omega)]
  rfl
theorem g23n {k : Nat} {s nonce head text : List UInt8} (h : ¬(may s nonce = true ∧ head.length ≤ 4096 ∧ text.length ≤ 4096)) : F23 k s nonce head text = some ([], 4) := by
  unfold F23
  rw [g30, Option.bind_some]
  cases hm : may s nonce with
  | false => rw [Bool.not_false, cond_true]
  | true =>
    rw [Bool.not_true, cond_false]
    by_cases h1 : 4096 < head.length
    · rw [cT (by omega)]
    · rw [cF (by omega), cT (by have : ¬(text.length ≤ 4096) := fun h2 => h ⟨hm, by omega, h2⟩; omega)]
theorem g26 {k : Nat} {s nonce head text : List UInt8} (h : may s nonce = true) (ha : head.length ≤ 80) (hb : text.length ≤ 80) (hk : 7000 ≤ k) : F26 k s nonce head text = some (sealS s nonce head text) := by
  obtain ⟨hs, hn⟩ := may_iff.1 h
  have hc := cip_length (text := text) hs hn
  unfold F26
  rw [show (2 : Int) = ((2 : Nat) : Int) from rfl, g35 hs hn (by omega) (by omega) (by omega), Option.bind_some, g34 (by rw [stream_length hs hn]) (by omega) (by omega), Option.bind_some]
  show ((F33 (k + 2) s nonce head (cip s nonce text)).bind _) = _
  rw [g33 hs hn ha (by omega) (by omega), Option.bind_some]
  show guardP ((cip s nonce text).length + _ ≤ maxText) _ = _
  rw [gp (by rw [hc, tag_length hs hn]; unfold maxText; omega)]
  rfl
def openS (s nonce head sealed : List UInt8) : Option (List UInt8) :=
  if tagS s nonce head (sealed.take (sealed.length - 16)) = sealed.drop (sealed.length - 16) then some (cip s nonce (sealed.take (sealed.length - 16))) else none
theorem g17 {k : Nat} {s nonce head sealed : List UInt8} (h : may s nonce = true) (ha : head.length ≤ 80) (h1 : 16 ≤ sealed.length) (hb : sealed.length ≤ 90) (hk : 7000 ≤ k) :
    F17 k s nonce head sealed = some (match openS s nonce head sealed with | some t => (t, 0) | none => ([], 5)) := by
  obtain ⟨hs, hn⟩ := may_iff.1 h
  have hl : (sealed.take (sealed.length - 16)).length = sealed.length - 16 := by rw [List.length_take]; omega
  unfold F17
  rw [g30, h, Option.bind_some, Bool.not_true, cond_false, cF (by omega), wi (n := (sealed.length : Int) - 16) (by omega) (by omega), cF (by omega), cF (by omega), gp (by omega), show ((sealed.length : Int) - 16).toNat = sealed.length - 16 by omega, g31 hs hn ha (by omega) (by omega), Option.bind_some]
  unfold openS
  by_cases ht : tagS s nonce head (sealed.take (sealed.length - 16)) = sealed.drop (sealed.length - 16)
  · rw [cNT ht, if_pos ht, show (sealed.length : Int) - 16 = ((sealed.length - 16 : Nat) : Int) by omega, show (2 : Int) = ((2 : Nat) : Int) from rfl, g49 hs hn (by omega) (by omega) (by omega), Option.bind_some, g50 (by rw [stream_length hs hn, hl]) (by omega) (by omega), Option.bind_some]
    unfold cip
    rw [hl]
  · rw [cNF ht, if_neg ht]
end Go.Proofs.Gc
set_option linter.unusedVariables false
set_option linter.unusedSimpArgs false
set_option maxRecDepth 1000000
namespace Go.Proofs.Gc
open Go Go.Sym Go.Sym.Gf Go.Proofs.Ae
def Z12 : List UInt8 := [0, 0, 0, 0, 0, 0, 0, 0, 0, 0, 0, 0]
end Go.Proofs.Gc
set_option linter.unusedVariables false
set_option linter.unusedSimpArgs false
namespace Go.Sym.Gf
def sqTab : List Nat := [2,
  4,
  16,
  256,
  65536,
  4294967296,
  18446744073709551616,
  135,
  16405,
  268435729,
  72057594037993729,
  5192296858534827628530500624252929,
  10695801939444132319206437814273,
  40852786614935679133548678,
  594486085799880,
  317319171807580447641733255232,
  21272841581577792734377501409119104880,
  178123058470187579300754373079857658247,
  185309517472602589216710143146226674206,
  243359572833697916948025442825716044212,
  2242402909557391341593841539292758713,
  23534795660742517158384838884479883757,
  174985988737277424980776175160916846157,
  175030095290142335996286672108454299053,
  265807388946362947165055761130818848797,
  249252559114209554249604311851685858361,
  58796763164556581763983006251523293764,
  49134626841591323031921206452464859177,
  27987540068191889485421864406071811155,
  271029757364165806137532465049589437209,
  280724925951004403811542151209009346242,
  128752713728467045721822022561693573808,
  159741227827866894033846763158209103146,
  274834116766907886484561602157405644722,
  269592872973127703478481607229849893488,
  281740353144251213267627901976484830580,
  43449847600466687806806694967245739940,
  37727843099595198433684011782007776478,
  311928417185453978908537250809886516984,
  297740222968517774644413722072226000397,
  32339339626698503367513300576590613010,
  223132434853550809815195064548738067112,
  265523960741914972480486897956328640665,
  317476001073086156486538380654899563653,
  281134273668648985900959546328737677036,
  134228771238834113055021444037992255816,
  150254873993691350120483903676558564010,
  233624311168361768088952357930788403998,
  301852678830317075984151617556076790269,
  334713874327018819147718792733305726656,
  102613057823079007323731014766805608102,
  102960897267461938273022342347012760795,
  12615472659389050585944223579430941846,
  127982396443970808193093289421192168483,
  80211020574021611523259929375765860447,
  328306714951167239883061265636229931255,
  154202500596702199027624208412024772979,
  243851091912831247504069218024646202792,
  27440791048182847192756476088690644789,
  211387903213242387898935001709526309270,
  159829576190644668190096436593299055684,
  211134062703199012190249497033863383866,
  82185866721533220436512213066902333519,
  327395961906668187682165754937045283500,
  129460184901158119860735353079755610614,
  165640453935684170557382138895643060837,
  258895673196720778598706762360552858556,
  301930392259976828106625834641931740308,
  254590090333913220966971847449742103658,
  154605543219637426435106976091970670442,
  328554470600989978311552677909447941173,
  66427334083092228965437207507360258028,
  269818012861271281423176274446422361113,
  264132206416858785477441377236972222062,
  334025740161143946608295602721698306491,
  122383803109284106894334171034010591779,
  296025850348968698648586558724418263869,
  37960944824515205685591230648204258402,
  226742293150914418175831072849372273624,
  248467511393027050396179622604745119342,
  161687256048543766767383987762312963194,
  269110802679140966820977389101215773081,
  195167772352272279581770856328715365701,
  6839019468748781921035578916625770989,
  119133456490525504919656485393064943290,
  284976786280009736580048287615377352507,
  53368461820224018424322992725600146993,
  165521487478005576843608560748526611000,
  195068410978310211650239904624548258566,
  113589941149803520359128394698002916676,
  249467295398400182484435455780551427523,
  75006380269635190750556711265086168923,
  318824008587287836741888684444380361623,
  178459331004814995506250383468567150771,
  211872363948266361377324272839095225429,
  143811789042420870636385239690585466781,
  86248589110002907259851524152594849147,
  44507931730853748353717482469352571553,
  32963873827986936976259691565938463060,
  216630587467047648990556766097492264828,
  185272067944601170075289186680278366549,
  220985417642294560069226125886699449841,
  264688778274977021302766754871988896216,
  333264177890741770072193430405525003928,
  33205950964766484238866480871644341798,
  301310530123703810140221288298382736979,
  254546671986439821273357947065150691235,
  154463474563896264286711223429656871936,
  238553731111275542579218303752720181533,
  18384089493480778990035902178609102351,
  75820400037257621222803633372476097890,
  317696663419018730218660346852253168842,
  265151192445743918497476159262292403413,
  227243742383211985895879960446026839890,
  253422517028958359388508295558326299841,
  150927228725920353331738429768615062888,
  313214421372485833387472208663997282205,
  205270197963465857064863719867483624364,
  64566217092196733533220887167246694252,
  296938408697389789750215214903058009285,
  10807226621238021931262095742919972793,
  129631382596958590886433730895748353798,
  59414367279926819390058891142076462501,
  70216996008105906389747657374764050840,
  264664062837534286517811593844813647762,
  313275912279873968957145467509231826604,
  205249681632336591850764335734481569114,
  48611766702991209068831621643639680420,
  2]
def linTab : List Nat := [54969562866131847669016652494142573320,
  305526867633558886955404559995676324868,
  305526867633558886955404559995676324870,
  104469799312523126935073530960423461388,
  305526867633558886955404559995676324866,
  56734434906695435454005472259553578602,
  104469799312523126935073530960423461380,
  271830150077582418345900040240152313368,
  305526867633558886955404559995676324882,
  104470118804432205535668098632526617412,
  56734434906695435454005472259553578570,
  227145695117876428321601179286510436182,
  104469799312523126935073530960423461444,
  305967500991204419130524647600360013666,
  271830150077582418345900040240152313496,
  227728627380917811012951187023350445606,
  305526867633558886955404559995676325138,
  56815181714465587187729576693626853178,
  104470118804432205535668098632526616900,
  2537993204061707162883588357039153916,
  56734434906695435454005472259553577546,
  3012428575888700110705650160495551628,
  227145695117876428321601179286510434134,
  275671395948664093117384310641479295528,
  104469799312523126935073530960423465540,
  271915852323952067842399232303023203416,
  305967500991204419130524647600360005474,
  102998777379450204286412735627287799860,
  271830150077582418345900040240152297112,
  272209106874770544727132909282711537316,
  227728627380917811012951187023350412838,
  135325830696997074197434372310186257282,
  305526867633558886955404559995676390674,
  57232084741685004684866676497372669754,
  56815181714465587187729576693626984250,
  135411474552265958872087683058005180738,
  104470118804432205535668098632526879044,
  275757512462385460142162890854388625828,
  2537993204061707162883588357039678204,
  274842411402277094064293402576501149528,
  56734434906695435454005472259554626122,
  175382474467339210118195525752143821788,
  3012428575888700110705650160497648780,
  5261797816253387317062014170447638976,
  227145695117876428321601179286514628438,
  272210066766835802062006483639670336468,
  275671395948664093117384310641470906920,
  225136856268418471551472419225175749014,
  104469799312523126935073530960440242756,
  102164174349821125137969924442995585924,
  271915852323952067842399232302989648984,
  226936647763116174786496543602468507498,
  305967500991204419130524647600427114338,
  305532029585887981283514747020026657774,
  102998777379450204286412735627422017588,
  133211003395652039953403666705387164366,
  271830150077582418345900040239883861656,
  102148097239065330920971689869502701364,
  272209106874770544727132909283248408228,
  173139448164521758332819425568250980204,
  227728627380917811012951187022276671014,
  305961988162602755697098987302884752222,
  135325830696997074197434372312333740930,
  175397880387343143921058595535091746080,
  305526867633558886955404559991381423378,
  329634352286836299080082914081100,
  57232084741685004684866676505962604346,
  172705286512742171128536335012890908524,
  56815181714465587187729576710806853434,
  303614986222712004812458293485509624930,
  135411474552265958872087683023645442370,
  170536380025231687221712635462198253856,
  104470118804432205535668098701246355780,
  225051247907070202050589524227723711914,
  275757512462385460142162890991827579300,
  308170559265311564786252692292247708062,
  2537993204061707162883588082161771260,
  102169133813289299704984590013427707636,
  274842411402277094064293402026745335640,
  303326766809063102477989677003176958226,
  56734434906695435454005473359066253898,
  172841837191359616877872241477191677152,
  175382474467339210118195523553120566236,
  54888141419452711199816878900948880442,
  3012428575888700110705654558544159884,
  307799342647640341558117533281787318686,
  5261797816253387317062022966540661184,
  273119276677551945356669168913118222868,
  227145695117876428321601196878700672854,
  272311600527812781647585363233504111460,
  272210066766835802062006518824042425300,
  5181299727675599870287693023180209980,
  275671395948664093117384240272726729256,
  305525142620375929691910208574098026146,
  225136856268418471551472278487687393686,
  307772801086609188417528170053220769746,
  104469799312523126935073249485463532100,
  54596111748351997025280216654447342278,
  102164174349821125137970487392949007236,
  308164931596625094656266467235253809106,
  271915852323952067842398106403082806360,
  227647953955287367714133036452945544742,
  226936647763116174786494291802654822250,
  308170555145571807541189819739699809694,
  305967500991204419130520144000799743842,
  133105130754254600986622393405343152142,
  305532029585887981283523754219281398766,
  172410759080424577518324870893406614048,
  102998777379450204286394721228912535604,
  54969320214588899006126198736319185926,
  133211003395652039953439695502406128334,
  227375442280390979429973553919662004774,
  271830150077582418345827982645845933720,
  4955917326648230773508684280683823104,
  102148097239065330921115805057578557236,
  172885700256406002458384310923462859152,
  272209106874770544726844678907096696484,
  56538291399058816093646072645906817530,
  173139448164521758332242964815947556716,
  55418003596362017635628740176384579466,
  227728627380917811014104108526883517990,
  0,
  305961988162602755699404830312098446174,
  178356100567250831900639352525185366892,
  135325830696997074202046058330761128834,
  189481146061086134017106552491789565356,
  175397880387343143911835223498236970272,
  75361565302940573017734093940626417402]
def sq (a : E) : E := gm a a
def sqn : Nat → E → E
  | 0, a => a
  | n + 1, a => sq (sqn n a)
def sqOk : List Nat → Bool
  | a :: b :: r => (hor (BitVec.ofNat 128 a) (BitVec.ofNat 128 a) 128).toNat.beq b && sqOk (b :: r)
  | _ => true
def linAt : List Nat → Nat → E → E
  | [], _, _ => 0#128
  | m :: r, i, v => ind (v.getLsbD i) (BitVec.ofNat 128 m) ^^^ linAt r (i + 1) v
def linOk : Nat → Bool
  | 0 => true
  | j + 1 => (linAt linTab 0 (hor (X j) (X j) 128 ^^^ X j)).toNat.beq (bif j.beq 0 then 0 else (X j).toNat) && linOk j
def nm (a : E) : Nat → E
  | 0 => 1#128
  | n + 1 => gm (nm a n) (sqn n a)
end Go.Sym.Gf
set_option linter.unusedVariables false
set_option linter.unusedSimpArgs false
set_option maxRecDepth 1000000
namespace Go.Proofs.Gc
open Go Go.Sym Go.Sym.Gf Go.Proofs.Ae
theorem xorL_back {a b : List UInt8} (h : a.length = b.length) : xorL (xorL a b) b = a := by
  induction a generalizing b with
  | nil => rfl
  | cons x r ih =>
    cases b with
    | nil => cases h
    | cons y t =>
      show ((x ^^^ y) ^^^ y) :: xorL (xorL r t) t = x :: r
      rw [ih (by simpa using h), UInt8.xor_assoc, UInt8.xor_self, UInt8.xor_zero]
theorem cip_back {s n t : List UInt8} (h : keyOk s) (hn : n.length = 12) : cip s n (cip s n t) = t := by
  have hl := cip_length (text := t) h hn
  unfold cip at hl ⊢
  rw [hl, xorL_back (by rw [stream_length h hn])]
theorem seal_length {s n a t : List UInt8} (h : keyOk s) (hn : n.length = 12) : (sealS s n a t).length = t.length + 16 := by
  unfold sealS; rw [List.length_append, cip_length h hn, tag_length h hn]
theorem seal_take {s n a t : List UInt8} (h : keyOk s) (hn : n.length = 12) : (sealS s n a t).take t.length = cip s n t ∧ (sealS s n a t).drop t.length = tagS s n a (cip s n t) := by
  have hl := cip_length (text := t) h hn
  unfold sealS
  rw [← hl]
  exact ⟨List.take_left, List.drop_left⟩
theorem open_seal {s n a t : List UInt8} (h : keyOk s) (hn : n.length = 12) : openS s n a (sealS s n a t) = some t := by
  obtain ⟨e1, e2⟩ := seal_take (a := a) (t := t) h hn
  unfold openS
  rw [seal_length h hn, show t.length + 16 - 16 = t.length by omega, e1, e2, if_pos rfl, cip_back h hn]
end Go.Proofs.Gc
set_option linter.unusedVariables false
set_option linter.unusedSimpArgs false
set_option maxRecDepth 100000
namespace Go.Proofs
open Go Go.Sym
def ub (c : UInt8) : V := V.int .u8 (c.toNat : Int)
def byteAt (w : Wd) (j : Nat) : UInt8 := UInt8.ofNat (w.toNat / 256 ^ j)
def lowN (w : Wd) (m : Nat) : List UInt8 := (List.range m).map (byteAt w)
theorem pow8 (j : Nat) : 2 ^ (8 * j) = 256 ^ j := by rw [Nat.pow_mul]
theorem shr_byte (w : Wd) (j : Nat) (hj : j ≤ 7) : V.int .u8 (IntKind.u8.wrap ((w.toNat : Int).fdiv (2 ^ min (8 * j) IntKind.u64.bits))) = ub (byteAt w j) := by
  rw [shr_w, wb_mod, BitVec.toNat_ushiftRight, Nat.shiftRight_eq_div_pow, pow8]
  unfold ub byteAt
  rw [UInt8.toNat_ofNat']
  congr 1
def partN (w : Wd) (m i : Nat) : List V := (List.range m).map fun j => if j < i then ub (byteAt w j) else ub 0
theorem partN_length (w : Wd) (m i : Nat) : (partN w m i).length = m := by simp [partN]
theorem partN_set {w : Wd} {m i : Nat} (hi : i < m) : (partN w m i).set i (ub (byteAt w i)) = partN w m (i + 1) := by
  apply List.ext_getElem (by simp [partN])
  intro j h1 h2
  rw [List.getElem_set]
  simp only [partN, List.getElem_map, List.getElem_range]
  by_cases h : i = j
  · subst h; rw [if_pos rfl, if_pos (by omega)]
  · rw [if_neg h]
    by_cases h3 : j < i
    · rw [if_pos h3, if_pos (by omega)]
    · rw [if_neg h3, if_neg (by omega)]
theorem partN_zero (w : Wd) (m : Nat) : partN w m 0 = List.replicate m (V.int .u8 0) := by
  apply List.ext_getElem (by simp [partN])
  intro j h1 h2
  simp [partN, ub]
theorem partN_all (w : Wd) (m : Nat) : partN w m m = (lowN w m).map ub := by
  apply List.ext_getElem (by simp [partN, lowN])
  intro j h1 h2
  have : j < m := by rwa [partN_length] at h1
  simp [partN, lowN, this]
theorem all_ub (l : List UInt8) : (l.map ub).all isByte = true := by
  simp [ub, isByte]
theorem byteOf_ub (l : List UInt8) : (l.map ub).map Sym.byteOf = l := by
  induction l with
  | nil => rfl
  | cons c r ih => simp only [List.map_cons, ih, ub, Sym.byteOf, Int.toNat_natCast, UInt8.ofNat_toNat]
theorem L36_run {k m : Nat} {w : Wd} (hm : m ≤ 8) : ∀ (c i g : Nat), m - i = c → i ≤ m → c < g → ∃ z, L36_0 k (w.toNat : Int) m g (i : Int) (partN w m i) = some (.e0 z ((lowN w m).map ub)) := by
  intro c
  induction c with
  | zero =>
    intro i g hc hi hg
    obtain ⟨g, rfl⟩ : ∃ y, g = y + 1 := ⟨g - 1, by omega⟩
    refine ⟨(i : Int), ?_⟩
    rw [L36_0, List.length_replicate, Int.toNat_natCast, cF (by omega), show i = m by omega, partN_all]
  | succ c ih =>
    intro i g hc hi hg
    obtain ⟨g, rfl⟩ : ∃ y, g = y + 1 := ⟨g - 1, by omega⟩
    obtain ⟨z, hz⟩ := ih (i + 1) g (by omega) (by omega) (by omega)
    refine ⟨z, ?_⟩
    rw [L36_0, List.length_replicate, Int.toNat_natCast, cT (by omega), wi (n := 8 * (i : Int)) (by omega) (by omega), gp (by omega), partN_length, gp (by omega), Int.toNat_natCast, gp (by omega), show (8 * (i : Int)).toNat = 8 * i by omega, shr_byte w i (by omega), partN_set (by omega), wi (n := (i : Int) + 1) (by omega) (by omega), show ((i : Int) + 1) = ((i + 1 : Nat) : Int) by omega]
    exact hz
theorem g36 {k m : Nat} {w : Wd} (hm : m ≤ 8) (hk : 10 ≤ k) : F36 k (w.toNat : Int) m = some (lowN w m) := by
  unfold F36
  obtain ⟨z, hz⟩ := L36_run (k := k) (w := w) hm m 0 (k + 2) (by omega) (by omega) (by omega)
  rw [partN_zero, show ((0 : Nat) : Int) = 0 from rfl] at hz
  rw [gp (by simp only [maxLen']; omega), Int.toNat_natCast, hz, Option.bind_some]
  simp only
  rw [gp (all_ub _), byteOf_ub]
theorem g24 {k : Nat} {w : Wd} (hk : 10 ≤ k) : F24 k (w.toNat : Int) = some (lowN w 8) := by
  unfold F24
  rw [show (8 : Int) = ((8 : Nat) : Int) from rfl, g36 (by omega) (by omega)]; rfl
end Go.Proofs
set_option linter.unusedVariables false
set_option linter.unusedSimpArgs false
set_option maxRecDepth 100000
namespace Go.Proofs
open Go Go.Sym
def lw (s : List UInt8) : Wd := BitVec.ofNat 64 s.length
structure Fd where
  t : Bool
  n : Wd
  s : List UInt8
def fv (f : Fd) : V := V.agg [V.bool f.t, V.int .u64 (f.n.toNat : Int), V.str f.s]
def textB (s : List UInt8) : List UInt8 := lowN (lw s) 2 ++ s
def oneB (f : Fd) : List UInt8 := if f.t then textB f.s else lowN f.n 8
def Fd.long (f : Fd) : Bool := f.t && decide (4096 < f.s.length)
theorem lowN_length (w : Wd) (m : Nat) : (lowN w m).length = m := by simp [lowN]
theorem drop_cons {α : Type} {l : List α} {i : Nat} (h : i < l.length) : l.drop i = l[i] :: l.drop (i + 1) := List.drop_eq_getElem_cons h
theorem L25_run {k m : Nat} {w : Wd} (hm : m ≤ 8) : ∀ (c i f : Nat), m - i = c → i ≤ m → c < f →
    ∃ x y, L25_0 k m f ((w.toNat / 256 ^ i : Nat) : Int) (lowN w i) (i : Int) = some (.e0 x y (lowN w m)) := by
  intro c
  induction c with
  | zero =>
    intro i f hc hi hf
    obtain ⟨f, rfl⟩ : ∃ y, f = y + 1 := ⟨f - 1, by omega⟩
    rw [L25_0, cF (by omega), show i = m by omega]
    exact ⟨_, _, rfl⟩
  | succ c ih =>
    intro i f hc hi hf
    obtain ⟨f, rfl⟩ : ∃ y, f = y + 1 := ⟨f - 1, by omega⟩
    obtain ⟨x, y, h⟩ := ih (i + 1) f (by omega) (by omega) (by omega)
    refine ⟨x, y, ?_⟩
    have hlt : w.toNat / 256 ^ i < 18446744073709551616 := Nat.lt_of_le_of_lt (Nat.div_le_self _ _) w.isLt
    have e1 : IntKind.u64.wrap (((w.toNat / 256 ^ i : Nat) : Int).tdiv 256) = ((w.toNat / 256 ^ (i + 1) : Nat) : Int) := by
      rw [Nat.pow_succ, ← Nat.div_div_eq_div_mul]
      generalize w.toNat / 256 ^ i = y at hlt
      rw [show (256 : Int) = ((256 : Nat) : Int) from rfl, td (by omega), wu (by omega) (by omega)]
      omega
    have e2 : List.map Sym.byteOf ((1 : Nat), [V.int IntKind.u8 (IntKind.u8.wrap (((w.toNat / 256 ^ i : Nat) : Int).tmod 256))]).snd = [byteAt w i] := by
      unfold byteAt
      generalize w.toNat / 256 ^ i = y at hlt
      rw [show (256 : Int) = ((256 : Nat) : Int) from rfl, tm (by omega), wb_mod]
      simp only [List.map_cons, List.map_nil, Sym.byteOf]
      congr 1
      apply UInt8.toNat_inj.1
      rw [UInt8.toNat_ofNat', UInt8.toNat_ofNat']
      omega
    have e3 : lowN w (i + 1) = lowN w i ++ [byteAt w i] := by simp [lowN, List.range_succ]
    rw [L25_0, cT (by omega), e1, e2, ← e3, wi (n := (i : Int) + 1) (by omega) (by omega), show (i : Int) + 1 = ((i + 1 : Nat) : Int) by omega, gp (by rw [lowN_length]; simp only [List.length_cons, List.length_nil]; unfold maxText; omega)]
    exact h
theorem g25 {k m : Nat} {w : Wd} (hm : m ≤ 8) (hk : 10 ≤ k) : F25 k (w.toNat : Int) m = some (lowN w m) := by
  unfold F25
  obtain ⟨x, y, h⟩ := L25_run (k := k) (w := w) hm m 0 (k + 2) (by omega) (by omega) (by omega)
  rw [Nat.pow_zero, Nat.div_one, show lowN w 0 = [] from rfl, show ((0 : Nat) : Int) = 0 from rfl] at h
  rw [h]; rfl
end Go.Proofs
set_option linter.unusedVariables false
set_option linter.unusedSimpArgs false
set_option maxRecDepth 100000
namespace Go.Proofs
open Go Go.Sym
def valL : List UInt8 → Nat
  | [] => 0
  | c :: r => c.toNat + 256 * valL r
theorem valL_lt (s : List UInt8) : valL s < 256 ^ s.length := by
  induction s with
  | nil => simp [valL]
  | cons c r ih =>
    have := c.toNat_lt
    simp only [valL, List.length_cons, Nat.pow_succ]
    omega
theorem valL_lt8 {s : List UInt8} (h : s.length ≤ 8) : valL s < 18446744073709551616 :=
  Nat.lt_of_lt_of_le (valL_lt s) (Nat.le_trans (Nat.pow_le_pow_right (by omega) h) (by decide))
def wv (s : List UInt8) : Wd := BitVec.ofNat 64 (valL s)
theorem wv_nat {s : List UInt8} (h : s.length ≤ 8) : (wv s).toNat = valL s := by
  unfold wv; rw [BitVec.toNat_ofNat]; exact Nat.mod_eq_of_lt (valL_lt8 h)
theorem satB_at {t : List UInt8} {j : Nat} (h : j < t.length) : satB t ((j : Nat) : Int) = some t[j] := by
  unfold satB; rw [if_pos (Int.natCast_nonneg _), Int.toNat_natCast, List.getElem?_eq_getElem h]
theorem or_add {x c : Nat} (hx : x < 72057594037927936) (hc : c < 256) :
    IntKind.u64.wrap (↑(BitVec.ofInt IntKind.u64.bits (IntKind.u64.wrap ((x : Int) * 2 ^ min (Int.toNat 8) IntKind.u64.bits)) ||| BitVec.ofInt IntKind.u64.bits (IntKind.u64.wrap (c : Int))).toNat : Int) = ((c + 256 * x : Nat) : Int) := by
  have hxw : ((BitVec.ofNat 64 x : Wd).toNat : Int) = (x : Int) := by rw [BitVec.toNat_ofNat, Nat.mod_eq_of_lt (by omega)]
  have hcw : ((BitVec.ofNat 64 c : Wd).toNat : Int) = (c : Int) := by rw [BitVec.toNat_ofNat, Nat.mod_eq_of_lt (by omega)]
  rw [wu (n := (c : Int)) (by omega) (by omega), ← hxw, ← hcw, show Int.toNat 8 = 8 from rfl, shl_w, or_w, BitVec.toNat_or, BitVec.toNat_shiftLeft, BitVec.toNat_ofNat, BitVec.toNat_ofNat, Nat.mod_eq_of_lt (a := c) (by omega), Nat.mod_eq_of_lt (a := x) (by omega)]
  have h1 : x <<< 8 % 2 ^ 64 = x <<< 8 := Nat.mod_eq_of_lt (by rw [Nat.shiftLeft_eq]; omega)
  rw [h1, ← Nat.shiftLeft_add_eq_or_of_lt (by omega), Nat.shiftLeft_eq]
  congr 1; omega
theorem valL_drop {s : List UInt8} {i : Nat} (h : i < s.length) : valL (s.drop i) = s[i].toNat + 256 * valL (s.drop (i + 1)) := by
  rw [drop_cons h]; rfl
theorem valL_small {s : List UInt8} {i : Nat} (h : s.length ≤ 8) : valL (s.drop (i + 1)) < 72057594037927936 := by
  refine Nat.lt_of_lt_of_le (valL_lt _) (Nat.le_trans (Nat.pow_le_pow_right (by omega) (show (s.drop (i + 1)).length ≤ 7 by rw [List.length_drop]; omega)) (by decide))
theorem L45_run {k : Nat} {s : List UInt8} (h8 : s.length ≤ 8) : ∀ (i f : Nat), i ≤ s.length → i < f → ∃ z, L45_0 k s f ((i : Int) - 1) ((valL (s.drop i) : Nat) : Int) = some (.e0 z ((valL s : Nat) : Int)) := by
  intro i
  induction i with
  | zero =>
    intro f hi hf
    obtain ⟨f, rfl⟩ : ∃ y, f = y + 1 := ⟨f - 1, by omega⟩
    rw [L45_0, cF (by omega), List.drop_zero]
    exact ⟨_, rfl⟩
  | succ i ih =>
    intro f hi hf
    obtain ⟨f, rfl⟩ : ∃ y, f = y + 1 := ⟨f - 1, by omega⟩
    have hi' : i < s.length := by omega
    obtain ⟨z, hz⟩ := ih f (by omega) (by omega)
    refine ⟨z, ?_⟩
    have e1 : ((List.map (fun c : UInt8 => V.int IntKind.u8 (c.toNat : Int)) s)[i]?).bind (dI IntKind.u8) = some ((s[i].toNat : Nat) : Int) := by
      rw [List.getElem?_map, List.getElem?_eq_getElem hi']; exact dI_int _ _
    rw [L45_0, cT (by omega), gp (by rw [List.length_map]; omega), show (((i + 1 : Nat) : Int) - 1).toNat = i by omega, e1, Option.bind_some, or_add (valL_small h8) s[i].toNat_lt, ← valL_drop hi', wi (by omega) (by omega), show ((i + 1 : Nat) : Int) - 1 - 1 = (i : Int) - 1 by omega]
    exact hz
theorem g45 {k : Nat} {s : List UInt8} (h8 : s.length ≤ 8) (hk : 10 ≤ k) : F45 k s = some ((valL s : Nat) : Int) := by
  unfold F45
  obtain ⟨z, hz⟩ := L45_run (k := k) h8 s.length (k + 3) (by omega) (by omega)
  rw [List.drop_length, show ((valL [] : Nat) : Int) = 0 from rfl] at hz
  rw [gp (by unfold maxLen'; omega), List.length_map, wi (by omega) (by omega), hz, Option.bind_some]
def fld (s : List UInt8) (c : UInt8) : Option (Fd × Nat) :=
  if c = 116 then (if s.length < 2 then none else if 4096 < valL (s.take 2) then none else if s.length - 2 < valL (s.take 2) then none else some (⟨true, 0#64, (s.drop 2).take (valL (s.take 2))⟩, 2 + valL (s.take 2)))
  else if s.length < 8 then none else some (⟨false, wv (s.take 8), []⟩, 8)
def spl (s : List UInt8) : List UInt8 → Nat → List Fd → Nat × Option (List Fd)
  | [], a, acc => (a, some acc)
  | c :: r, a, acc => match fld (s.drop a) c with
    | none => (a, none)
    | some x => spl s r (a + x.2) (acc ++ [x.1])
def is16 : L16_0_R → Int × Option (List V)
  | .e0 _ a _ _ => (a, none)
  | .e1 _ a _ _ => (a, none)
  | .e2 _ a _ _ => (a, none)
  | .e3 _ a _ _ _ => (a, none)
  | .e4 _ a x => (a, some x)
def told (p : Nat × Option (List Fd)) : Int × Option (List V) := ((p.1 : Int), p.2.map (·.map fv))
theorem cut_eq (s : List UInt8) (a n : Nat) : List.drop a (List.take (a + n) s) = (s.drop a).take n := by
  rw [List.drop_take, Nat.add_sub_cancel_left]
theorem u8_116 (c : UInt8) : ((c.toNat : Nat) : Int) = 116 ↔ c = 116 := by
  constructor
  · intro h; apply UInt8.toNat_inj.1; show c.toNat = 116; omega
  · rintro rfl; rfl
theorem fv_app (acc : List Fd) (f : Fd) : acc.map fv ++ [fv f] = (acc ++ [f]).map fv := by simp
theorem L16_run {k : Nat} {s ks : List UInt8} (hs : s.length < 9223372036854775808) (hks : ks.length ≤ 1000) (hk : 20 ≤ k) : ∀ (c i f a : Nat) (acc : List Fd), ks.length - i = c → i ≤ ks.length → c < f → a ≤ s.length → acc.length ≤ i →
    ∃ r, L16_0 k s ks f (i : Int) (a : Int) (acc.map fv) = some r ∧ is16 r = told (spl s (ks.drop i) a acc) := by
  intro c
  induction c with
  | zero =>
    intro i f a acc hc hi hf ha hacc
    obtain ⟨f, rfl⟩ : ∃ y, f = y + 1 := ⟨f - 1, by omega⟩
    rw [L16_0, List.length_map, cF (by omega), List.drop_eq_nil_of_le (by omega)]
    exact ⟨_, rfl, rfl⟩
  | succ c ih =>
    intro i f a acc hc hi hf ha hacc
    obtain ⟨f, rfl⟩ : ∃ y, f = y + 1 := ⟨f - 1, by omega⟩
    have hi' : i < ks.length := by omega
    have e1 : ((List.map (fun c : UInt8 => V.int IntKind.u8 (c.toNat : Int)) ks)[i]?).bind (dI IntKind.u8) = some ((ks[i].toNat : Nat) : Int) := by
      rw [List.getElem?_map, List.getElem?_eq_getElem hi']; exact dI_int _ _
    have hd : (s.drop a).length = s.length - a := List.length_drop
    rw [L16_0, List.length_map, cT (by omega), gp (by omega), Int.toNat_natCast, e1, Option.bind_some, drop_cons hi', spl]
    have hw : IntKind.i64.wrap ((i : Int) + 1) = ((i + 1 : Nat) : Int) := by rw [wi (by omega) (by omega)]; omega
    rw [hw, wi (n := (s.length : Int) - (a : Int)) (by omega) (by omega)]
    have g45n : F45 (k + 2) [] = some 0 := g45 (s := []) (by simp) (by omega)
    have hml : acc.length + 1 ≤ maxLen' := by unfold maxLen'; omega
    by_cases ht : ks[i] = 116
    · rw [cT ((u8_116 _).2 ht), fld, if_pos ht, hd]
      by_cases h2 : s.length - a < 2
      · rw [cT (by omega), if_pos h2, g45n, Option.bind_some]
        exact ⟨_, rfl, rfl⟩
      · rw [cF (by omega), if_neg h2, wi (n := (a : Int) + 2) (by omega) (by omega), wi (n := (a : Int) + 2 - 2) (by omega) (by omega), gp (by omega), show ((a : Int) + 2 - 2).toNat = a by omega, show ((a : Int) + 2).toNat = a + 2 by omega, cut_eq, g45 (by rw [List.length_take]; omega) (by omega), Option.bind_some]
        generalize hn : valL ((s.drop a).take 2) = n
        by_cases h3 : 4096 < n
        · rw [cT (by omega), if_pos h3]; exact ⟨_, rfl, rfl⟩
        · rw [cF (by omega), if_neg h3, wi (n := (n : Int)) (by omega) (by omega), wi (n := (s.length : Int) - ((a : Int) + 2)) (by omega) (by omega)]
          by_cases h4 : s.length - a - 2 < n
          · rw [cT (by omega), if_pos h4, gp (by rw [List.length_map]; exact hml)]; exact ⟨_, rfl, rfl⟩
          · rw [cF (by omega), if_neg h4, wi (n := (a : Int) + 2 + (n : Int)) (by omega) (by omega), wi (n := (a : Int) + 2 + (n : Int) - (n : Int)) (by omega) (by omega), gp (by omega), gp (by rw [List.length_map]; exact hml)]
            rw [show ((a : Int) + 2 + (n : Int) - (n : Int)).toNat = a + 2 by omega, show ((a : Int) + 2 + (n : Int)).toNat = (a + 2) + n by omega, cut_eq, ← List.drop_drop]
            obtain ⟨r, hr, hs'⟩ := ih (i + 1) f (a + (2 + n)) (acc ++ [⟨true, 0#64, ((s.drop a).drop 2).take n⟩]) (by omega) (by omega) (by omega) (by omega) (by simp; omega)
            refine ⟨r, ?_, hs'⟩
            rw [← hr, ← fv_app]
            show L16_0 k s ks f _ _ _ = _
            rw [show (a : Int) + 2 + (n : Int) = ((a + (2 + n) : Nat) : Int) by omega]
            rfl
    · rw [cF (fun h => ht ((u8_116 _).1 h)), fld, if_neg ht, hd]
      by_cases h2 : s.length - a < 8
      · rw [cT (by omega), if_pos h2, g45n, Option.bind_some, gp (by rw [List.length_map]; exact hml)]
        exact ⟨_, rfl, rfl⟩
      · rw [cF (by omega), if_neg h2, wi (n := (a : Int) + 8) (by omega) (by omega), wi (n := (a : Int) + 8 - 8) (by omega) (by omega), gp (by omega), show ((a : Int) + 8 - 8).toNat = a by omega, show ((a : Int) + 8).toNat = a + 8 by omega, cut_eq]
        have h8 : ((s.drop a).take 8).length ≤ 8 := by rw [List.length_take]; omega
        rw [g45 h8 (by omega), Option.bind_some, gp (by rw [List.length_map]; exact hml)]
        obtain ⟨r, hr, hs'⟩ := ih (i + 1) f (a + 8) (acc ++ [⟨false, wv ((s.drop a).take 8), []⟩]) (by omega) (by omega) (by omega) (by omega) (by simp; omega)
        refine ⟨r, ?_, hs'⟩
        rw [← hr, ← fv_app]
        show L16_0 k s ks f _ _ _ = L16_0 k s ks f _ _ (List.map fv acc ++ [V.agg [V.bool false, V.int .u64 ((wv ((s.drop a).take 8)).toNat : Int), V.str []]])
        rw [wv_nat h8, show (a : Int) + 8 = ((a + 8 : Nat) : Int) by omega]
def kindOk (c : UInt8) : Bool := c == 110 || c == 116
theorem contains_nt (c : UInt8) : ([110, 116] : List UInt8).contains c = kindOk c := by
  unfold kindOk
  simp only [List.contains, List.elem]
  cases h1 : c == 110 <;> cases h2 : c == 116 <;> rfl
theorem dropW_nil {p : UInt8 → Bool} {l : List UInt8} : l.dropWhile p = [] ↔ l.all p = true := by
  induction l with
  | nil => simp
  | cons c r ih =>
    rw [List.dropWhile, List.all_cons]
    cases h : p c with
    | true => simp only [Bool.true_and]; exact ih
    | false => simp
theorem dropW_all {p : UInt8 → Bool} {l : List UInt8} (h : (l.dropWhile p).all p = true) : l.all p = true := by
  induction l with
  | nil => rfl
  | cons c r ih =>
    rw [List.dropWhile] at h
    cases hc : p c with
    | true => rw [hc] at h; simp only at h; rw [List.all_cons, hc, ih h]; rfl
    | false => rw [hc] at h; exact h
theorem trim_nil {l : List UInt8} : trimB l [110, 116] = [] ↔ l.all kindOk = true := by
  unfold trimB
  have e : (([110, 116] : List UInt8).contains ·) = kindOk := funext contains_nt
  rw [e, dropW_nil, List.all_reverse]
  constructor
  · intro h
    have := dropW_all h
    rwa [List.all_reverse] at this
  · intro h
    rw [dropW_nil.2 (by rw [List.all_reverse]; exact h)]; rfl
def splR (s ks : List UInt8) : Option Bool × Bool × Nat × List V × Int × Int :=
  if ks.all kindOk then (match spl s ks 0 [] with
    | (a, none) => (some true, true, 0, [], (a : Int), 10)
    | (a, some x) => if a < s.length then (some true, true, 0, [], (a : Int), 10) else (none, false, 3, x.map fv, 0, 0))
  else (some true, true, 0, [], 0, 1)
theorem g27 {k : Nat} {s : List UInt8} (h : s.length ≤ 1000) : F27 k s [110, 116] = some (trimB s [110, 116]) := by
  unfold F27; exact gp ⟨by unfold maxBld; omega, by decide, by decide⟩
theorem g16 {k : Nat} {s ks : List UInt8} (hs : s.length < 9223372036854775808) (hks : ks.length ≤ 1000) (hk : 1200 ≤ k) : F16 k s ks = some (splR s ks) := by
  unfold F16 splR
  rw [g27 hks, Option.bind_some]
  by_cases ha : ks.all kindOk = true
  · rw [cNT (trim_nil.2 ha), if_pos ha, gp (by unfold maxLen'; omega)]
    obtain ⟨r, hr, h1⟩ := L16_run (k := k) hs hks (by omega) ks.length 0 (k + 8) 0 [] (by omega) (by omega) (by omega) (by omega) (by simp)
    have hr' : L16_0 k s ks (k + 8) 0 0 [] = some r := hr
    rw [hr', Option.bind_some]
    rw [List.drop_zero] at h1
    generalize spl s ks 0 [] = p at h1
    obtain ⟨a, o⟩ := p
    unfold told at h1
    cases o with
    | none => cases r <;> simp only [is16, Option.map_none, Prod.mk.injEq, Option.some.injEq, reduceCtorEq, and_false] at h1 <;> (obtain ⟨rfl, -⟩ := h1; rfl)
    | some x =>
      cases r <;> simp only [is16, Option.map_some, Prod.mk.injEq, Option.some.injEq, reduceCtorEq, and_false] at h1
      obtain ⟨rfl, rfl⟩ := h1
      simp only
      by_cases hl : a < s.length
      · rw [cT (by omega), if_pos hl]
      · rw [cF (by omega), if_neg hl]
  · rw [cNF (fun h => ha (trim_nil.1 h)), if_neg ha]
end Go.Proofs
set_option linter.unusedVariables false
set_option linter.unusedSimpArgs false
set_option maxRecDepth 100000
namespace Go.Proofs.Gc
open Go Go.Sym Go.Sym.Gf Go.Proofs.Ae
def nW (n : Nat) : Wd := BitVec.ofNat 64 n
theorem uN {n : Nat} (h : n < 9223372036854775808) : IntKind.u64.wrap (n : Int) = ((nW n).toNat : Int) := by
  rw [wu (by omega) (by omega)]; unfold nW; rw [BitVec.toNat_ofNat, Nat.mod_eq_of_lt (by omega)]
def nonceS (a : Nat) (g : Wd) : List UInt8 := lowN (nW a) 4 ++ lowN g 8
def headS (kind : Nat) (l : Wd) (size : Nat) : List UInt8 := lowN (nW kind) 8 ++ lowN l 8 ++ lowN (nW size) 8
theorem nonceS_length (a : Nat) (g : Wd) : (nonceS a g).length = 12 := by simp [nonceS, lowN_length]
theorem headS_length (a : Nat) (g : Wd) (n : Nat) : (headS a g n).length = 24 := by simp [headS, lowN_length]
theorem low_take (w : Wd) : (lowN w 8).take 4 = lowN w 4 := by
  unfold lowN; rw [← List.map_take]; rfl
theorem mtx {n : Nat} (h : n ≤ 1000) : n ≤ maxText := by unfold maxText; omega
theorem g18 {k a : Nat} {g : Wd} (ha : a ≤ 63) (hk : 20 ≤ k) : F18 k (a : Int) (g.toNat : Int) = some (nonceS a g) := by
  unfold F18
  rw [uN (by omega), g24 (by omega), Option.bind_some, gp (by rw [lowN_length]; omega), g24 (by omega), Option.bind_some, show Int.toNat 4 = 4 from rfl, low_take, gp (by rw [lowN_length, lowN_length]; exact mtx (by omega))]
  rfl
theorem g19 {k n m : Nat} {l : Wd} (hn : n < 9223372036854775808) (hm : m < 9223372036854775808) (hk : 20 ≤ k) : F19 k (n : Int) (l.toNat : Int) (m : Int) = some (headS n l m) := by
  unfold F19
  rw [uN hn, g24 (by omega), Option.bind_some, g24 (by omega), Option.bind_some, gp (by rw [lowN_length, lowN_length]; exact mtx (by omega)), uN hm, g24 (by omega), Option.bind_some, gp (by rw [List.length_append, lowN_length, lowN_length, lowN_length]; exact mtx (by omega))]
  rfl
theorem g13 {k a : Nat} {g : Wd} (ha : a ≤ 63) (hk : 20 ≤ k) : F13 k (a : Int) (g.toNat : Int) = some (nonceS a g) := by
  unfold F13
  rw [uN (by omega), show (4 : Int) = ((4 : Nat) : Int) from rfl, g25 (by omega) (by omega), Option.bind_some, show (8 : Int) = ((8 : Nat) : Int) from rfl, g25 (by omega) (by omega), Option.bind_some, gp (by rw [lowN_length, lowN_length]; exact mtx (by omega))]
  rfl
theorem g22 {k n m : Nat} {l : Wd} (hn : n < 9223372036854775808) (hm : m < 9223372036854775808) (hk : 20 ≤ k) : F22 k (n : Int) (l.toNat : Int) (m : Int) = some (headS n l m) := by
  unfold F22
  rw [show (8 : Int) = ((8 : Nat) : Int) from rfl, uN hn, g25 (by omega) (by omega), Option.bind_some, g25 (by omega) (by omega), Option.bind_some, gp (by rw [lowN_length, lowN_length]; exact mtx (by omega)), uN hm, g25 (by omega) (by omega), Option.bind_some, gp (by rw [List.length_append, lowN_length, lowN_length, lowN_length]; exact mtx (by omega))]
  rfl
theorem i64c (x : List V) (j : Int) (i : Nat) (a : Int) (hj : j = (i : Int)) (h : x[i]? = some (V.int .i64 a)) : (at? x j).bind (dI IntKind.i64) = some a := by
  rw [hj, at_nat, h]; exact dI_int _ _
theorem g15_2 {k : Nat} {o : Option Bool} {b : Bool} (a m : Int) (hk : 2 ≤ k) : F15 k o b 1 [V.int .i64 a, V.int .i64 m] = some (decide (0 ≤ a ∧ a ≤ m)) := by
  obtain ⟨k, rfl⟩ : ∃ j, k = j + 2 := ⟨k - 2, by omega⟩
  unfold F15
  rw [L15_0, cT (by show IntKind.i64.wrap ((0 : Int) + 1) < ((2 : Nat) : Int); decide), gp rfl, i64c _ 0 0 a rfl rfl, Option.bind_some]
  by_cases h1 : a < 0
  · rw [cT (by omega), Option.bind_some, dec_f (by omega)]
  · rw [cF (by omega), i64c _ (IntKind.i64.wrap ((0 : Int) + 1)) 1 m (by decide) rfl, Option.bind_some]
    by_cases h2 : m < a
    · rw [cT h2, Option.bind_some, dec_f (by omega)]
    · rw [cF h2, L15_0, cF (by show ¬ IntKind.i64.wrap (IntKind.i64.wrap ((0 : Int) + 2) + 1) < ((2 : Nat) : Int); decide), Option.bind_some, dec_t (by omega)]
abbrev place (i j : Int) : Prop := 0 ≤ i ∧ i ≤ 63 ∧ 0 ≤ j ∧ j ≤ 2
theorem g15_4 {k : Nat} {o : Option Bool} {b : Bool} (i j : Int) (hk : 2 ≤ k) : F15 k o b 1 [V.int .i64 i, V.int .i64 63, V.int .i64 j, V.int .i64 2] = some (decide (place i j)) := by
  obtain ⟨k, rfl⟩ : ∃ j, k = j + 2 := ⟨k - 2, by omega⟩
  unfold F15
  rw [L15_0, cT (by show IntKind.i64.wrap ((0 : Int) + 1) < ((4 : Nat) : Int); decide), gp rfl, i64c _ 0 0 i rfl rfl, Option.bind_some]
  by_cases h1 : i < 0
  · rw [cT (by omega), Option.bind_some, dec_f (by omega)]
  · rw [cF (by omega), i64c _ (IntKind.i64.wrap ((0 : Int) + 1)) 1 63 (by decide) rfl, Option.bind_some]
    by_cases h2 : 63 < i
    · rw [cT h2, Option.bind_some, dec_f (by omega)]
    · rw [cF h2, L15_0, cT (by show IntKind.i64.wrap (IntKind.i64.wrap ((0 : Int) + 2) + 1) < ((4 : Nat) : Int); decide), gp rfl, i64c _ (IntKind.i64.wrap ((0 : Int) + 2)) 2 j (by decide) rfl, Option.bind_some]
      by_cases h3 : j < 0
      · rw [cT (by omega), Option.bind_some, dec_f (by omega)]
      · rw [cF (by omega), i64c _ (IntKind.i64.wrap (IntKind.i64.wrap ((0 : Int) + 2) + 1)) 3 2 (by decide) rfl, Option.bind_some]
        by_cases h4 : 2 < j
        · rw [cT h4, Option.bind_some, dec_f (by omega)]
        · rw [cF h4, L15_0, cF (by show ¬ IntKind.i64.wrap (IntKind.i64.wrap (IntKind.i64.wrap ((0 : Int) + 2) + 2) + 1) < ((4 : Nat) : Int); decide), Option.bind_some, dec_t (by omega)]
def nonceR (a : Int) (g : Wd) : List UInt8 × Int := if 0 ≤ a ∧ a ≤ 63 then (nonceS a.toNat g, 0) else ([], 1)
theorem g11 {k : Nat} (a : Int) (g : Wd) (hk : 40 ≤ k) : F11 k a (g.toNat : Int) = some (nonceR a g) := by
  unfold F11 nonceR
  rw [g15_2 _ _ (by omega), Option.bind_some]
  by_cases h : 0 ≤ a ∧ a ≤ 63
  · obtain ⟨n, rfl⟩ : ∃ n : Nat, a = n := ⟨a.toNat, by omega⟩
    rw [cNT h, if_pos h, g18 (by omega) (by omega), Option.bind_some, Int.toNat_natCast]
  · rw [cNF h, if_neg h]
def sealB (s : List UInt8) (kind a : Nat) (g l : Wd) (data : List UInt8) : List UInt8 := lowN g 8 ++ sealS s (nonceS a g) (headS kind l data.length) data
instance (s : List UInt8) : Decidable (keyOk s) := by unfold keyOk; infer_instance
def sealR (s : List UInt8) (kind a : Int) (g l : Wd) (data : List UInt8) : List UInt8 × Int :=
  if place a kind then (if 64 < data.length then ([], 4) else if keyOk s then (sealB s kind.toNat a.toNat g l data, 0) else ([], 4)) else ([], 1)
theorem sealB_length {s : List UInt8} {kind a : Nat} {g l : Wd} {data : List UInt8} (h : keyOk s) : (sealB s kind a g l data).length = data.length + 24 := by
  unfold sealB; rw [List.length_append, lowN_length, seal_length h (nonceS_length _ _)]; omega
theorem g12 {k : Nat} {s data : List UInt8} (kind a : Int) (g l : Wd) (hk : 7100 ≤ k) : F12 k s kind a (g.toNat : Int) (l.toNat : Int) data = some (sealR s kind a g l data) := by
  unfold F12 sealR
  rw [g15_4 _ _ (by omega), Option.bind_some]
  by_cases h : place a kind
  · rw [cNT h, if_pos h]
    obtain ⟨n, rfl⟩ : ∃ n : Nat, a = n := ⟨a.toNat, by omega⟩
    obtain ⟨m, rfl⟩ : ∃ n : Nat, kind = n := ⟨kind.toNat, by omega⟩
    by_cases h2 : 64 < data.length
    · rw [cT (by omega), if_pos h2]
    · rw [cF (by omega), if_neg h2, g18 (by omega) (by omega), Option.bind_some, g19 (by omega) (by omega) (by omega), Option.bind_some, Int.toNat_natCast, Int.toNat_natCast]
      by_cases h3 : keyOk s
      · have hm : may s (nonceS n g) = true := may_iff.2 ⟨h3, nonceS_length _ _⟩
        rw [g23 hm (by rw [headS_length]; omega) (by omega) (by omega), Option.bind_some, if_pos h3]
        simp only
        rw [cNT trivial, g24 (by omega), Option.bind_some, gp (by rw [lowN_length, seal_length h3 (nonceS_length _ _)]; exact mtx (by omega))]
        rfl
      · rw [g23n (fun h => h3 (may_iff.1 h.1).1), Option.bind_some, if_neg h3]
        rfl
  · rw [cNF h, if_neg h]
theorem g14 {k kind a : Nat} {s data : List UInt8} (g l : Wd) (ha : a ≤ 63) (hj : kind ≤ 2) (hs : keyOk s) (hd : data.length ≤ 64) (hk : 7100 ≤ k) : F14 k s (kind : Int) (a : Int) (g.toNat : Int) (l.toNat : Int) data = some (sealB s kind a g l data) := by
  unfold F14
  rw [show (8 : Int) = ((8 : Nat) : Int) from rfl, g25 (by omega) (by omega), Option.bind_some, g13 ha (by omega), Option.bind_some, g22 (by omega) (by omega) (by omega), Option.bind_some, g26 (may_iff.2 ⟨hs, nonceS_length _ _⟩) (by rw [headS_length]; omega) (by omega) (by omega), Option.bind_some,
    gp (by rw [lowN_length, seal_length hs (nonceS_length _ _)]; exact mtx (by omega))]
  rfl
def openB (s : List UInt8) (kind a : Nat) (l : Wd) (b : List UInt8) : Option (List UInt8) := openS s (nonceS a (wv (b.take 8))) (headS kind l (b.length - 24)) (b.drop 8)
def openT (s : List UInt8) (kind a : Nat) (l : Wd) (b : List UInt8) : Int × List UInt8 × Int :=
  if 24 ≤ b.length ∧ b.length ≤ 88 then (match openB s kind a l b with
    | some u => (((wv (b.take 8)).toNat : Int), u, 0)
    | none => (0, [], 5)) else (0, [], 5)
def openR (s : List UInt8) (kind a : Int) (l : Wd) (b : List UInt8) : Int × List UInt8 × Int :=
  if place a kind then (if keyOk s then openT s kind.toNat a.toNat l b else (0, [], 4)) else (0, [], 1)
theorem split_n {t : List UInt8} (h : t.length = 8) : splR t [110] = (none, false, 3, [fv ⟨false, wv t, []⟩], 0, 0) := by
  have e : spl t [110] 0 [] = (8, some [⟨false, wv t, []⟩]) := by
    have hf : fld (t.drop 0) 110 = some (⟨false, wv t, []⟩, 8) := by
      unfold fld
      rw [if_neg (by decide), List.drop_zero, if_neg (by omega), List.take_of_length_le (by omega)]
    rw [spl, hf]; rfl
  unfold splR
  rw [if_pos (by decide), e]
  simp only
  rw [if_neg (by omega)]
  rfl
theorem at0 (f : Fd) : (at? [fv f] 0).bind dAbu64sZ = some (f.t, (f.n.toNat : Int), f.s) := by
  rw [show (0 : Int) = ((0 : Nat) : Int) from rfl, at_nat]; rfl
theorem tail6 {k kind a : Nat} {s b : List UInt8} (l : Wd) (ha : a ≤ 63) (hj : kind ≤ 2) (hs : keyOk s) (hb : b.length < 9223372036854775808) (hk : 7100 ≤ k) :
    ((F15 (k + 48) (none) (false) (1) ([V.int .i64 (IntKind.i64.wrap ((↑b.length : Int) - 24)), V.int .i64 64])).bind fun b1 => (bif !b1 then (some ((0), ([]), (5))) else (guardP ((0 : Int) ≤ (8 : Int) ∧ (8 : Int) ≤ (↑b.length : Int)) ((F16 (k + 42) (List.take (Int.toNat 8) b) ([110])).bind fun (o0, b2, n0, x0, i3, i4) => (guardP (n0 = (3 : Nat)) (((at? (x0) (0)).bind dAbu64sZ).bind fun (b3, i5, s2) => ((F18 (k + 42) ((a : Int)) (i5)).bind fun s3 => ((F19 (k + 42) ((kind : Int)) ((l.toNat : Int)) (IntKind.i64.wrap ((↑b.length : Int) - 24))).bind fun s4 => ((F17 (k + 2) (s) (s3) (s4) (List.drop (Int.toNat 8) b)).bind fun (s5, i6) => (bif !decide (i6 = 0) then (some ((0), ([]), (i6))) else (some ((i5), (s5), (0))))))))))))) = some (openT s kind a l b) := by
  unfold openT
  rw [wi (n := (b.length : Int) - 24) (by omega) (by omega), g15_2 _ _ (by omega), Option.bind_some]
  by_cases h : 24 ≤ b.length ∧ b.length ≤ 88
  · have h8 : (b.take 8).length = 8 := by rw [List.length_take]; omega
    have hd8 : (b.drop 8).length = b.length - 8 := List.length_drop
    rw [cNT (by omega), if_pos h, gp (by omega), show Int.toNat 8 = 8 from rfl, g16 (by omega) (by simp) (by omega), Option.bind_some, split_n h8]
    simp only
    rw [gp trivial, at0, Option.bind_some]
    show ((F18 (k + 42) (a : Int) ((wv (b.take 8)).toNat : Int)).bind _) = _
    rw [g18 ha (by omega), Option.bind_some, show (b.length : Int) - 24 = ((b.length - 24 : Nat) : Int) by omega, g19 (by omega) (by omega) (by omega), Option.bind_some, g17 (may_iff.2 ⟨hs, nonceS_length _ _⟩) (by rw [headS_length]; omega) (by omega) (by omega) (by omega), Option.bind_some]
    unfold openB
    cases openS s (nonceS a (wv (b.take 8))) (headS kind l (b.length - 24)) (b.drop 8) with
    | none => rfl
    | some u => rfl
  · rw [cNF (by omega), if_neg h]
theorem g6 {k : Nat} {s b : List UInt8} (kind a : Int) (l : Wd) (hb : b.length < 9223372036854775808) (hk : 7100 ≤ k) : F6 k s kind a (l.toNat : Int) b = some (openR s kind a l b) := by
  unfold F6 openR
  rw [g15_4 _ _ (by omega), Option.bind_some]
  by_cases h : place a kind
  · rw [cNT h, if_pos h]
    obtain ⟨n, rfl⟩ : ∃ n : Nat, a = n := ⟨a.toNat, by omega⟩
    obtain ⟨m, rfl⟩ : ∃ n : Nat, kind = n := ⟨kind.toNat, by omega⟩
    rw [Int.toNat_natCast, Int.toNat_natCast]
    by_cases h1 : s.length = 16
    · rw [cNT (by omega), if_pos (show keyOk s from .inl h1)]
      exact tail6 l (by omega) (by omega) (.inl h1) hb hk
    · rw [cNF (by omega)]
      by_cases h2 : s.length = 32
      · rw [cNT (by omega), if_pos (show keyOk s from .inr h2)]
        exact tail6 l (by omega) (by omega) (.inr h2) hb hk
      · rw [cNF (by omega), if_neg (show ¬keyOk s from fun h => h.elim h1 h2)]
  · rw [cNF h, if_neg h]
theorem wv_low8 (w : Wd) : wv (lowN w 8) = w := by
  apply BitVec.eq_of_toNat_eq
  have hv : ∀ (m n : Nat), valL ((List.range m).map fun j => UInt8.ofNat (n / 256 ^ j)) = n % 256 ^ m := by
    intro m
    induction m with
    | zero => intro n; simp [valL, Nat.mod_one]
    | succ m ih =>
      intro n
      rw [List.range_succ_eq_map, List.map_cons, List.map_map, valL, UInt8.toNat_ofNat', show (256 : Nat) ^ (m + 1) = 256 * 256 ^ m by rw [Nat.pow_succ, Nat.mul_comm], Nat.mod_mul, ← ih (n / 256), Nat.pow_zero, Nat.div_one]
      congr 2
      congr 1
      apply List.map_congr_left
      intro j _
      simp only [Function.comp]
      rw [Nat.pow_succ, Nat.mul_comm, Nat.div_div_eq_div_mul]
  rw [wv_nat (by rw [lowN_length]; omega)]
  exact (hv 8 w.toNat).trans (Nat.mod_eq_of_lt w.isLt)
theorem open_sealB {s : List UInt8} {kind a : Nat} {g l : Wd} {data : List UInt8} (hs : keyOk s) (hd : data.length ≤ 64) : openT s kind a l (sealB s kind a g l data) = ((g.toNat : Int), data, 0) := by
  unfold openT openB
  have hl := sealB_length (kind := kind) (a := a) (g := g) (l := l) (data := data) hs
  rw [if_pos (by omega), hl]
  have h1 : (sealB s kind a g l data).take 8 = lowN g 8 := by unfold sealB; rw [List.take_left' (lowN_length _ _)]
  have h2 : (sealB s kind a g l data).drop 8 = sealS s (nonceS a g) (headS kind l data.length) data := by unfold sealB; rw [List.drop_left' (lowN_length _ _)]
  rw [h1, h2, wv_low8, Nat.add_sub_cancel, open_seal hs (nonceS_length _ _)]
theorem g8 {k : Nat} (hk : 7200 ≤ k) : F8 k = some true := by
  unfold F8
  have hs : keyOk [48, 49, 50, 51, 52, 53, 54, 55, 56, 57, 97, 98, 99, 100, 101, 102] := .inl rfl
  have e1 := g12 (k := k + 2) (s := [48, 49, 50, 51, 52, 53, 54, 55, 56, 57, 97, 98, 99, 100, 101, 102]) (data := [104, 105]) 0 3 258#64 7#64 (by omega)
  have e1' : F12 (k + 2) [48, 49, 50, 51, 52, 53, 54, 55, 56, 57, 97, 98, 99, 100, 101, 102] 0 3 258 7 [104, 105] = some (sealR [48, 49, 50, 51, 52, 53, 54, 55, 56, 57, 97, 98, 99, 100, 101, 102] 0 3 258#64 7#64 [104, 105]) := e1
  rw [e1', Option.bind_some]
  have e2 : sealR [48, 49, 50, 51, 52, 53, 54, 55, 56, 57, 97, 98, 99, 100, 101, 102] 0 3 258#64 7#64 [104, 105] = (sealB [48, 49, 50, 51, 52, 53, 54, 55, 56, 57, 97, 98, 99, 100, 101, 102] 0 3 258#64 7#64 [104, 105], 0) := by
    unfold sealR
    rw [if_pos (by decide), if_neg (by decide), if_pos hs]; rfl
  rw [e2]
  have hl := sealB_length (kind := 0) (a := 3) (g := 258#64) (l := 7#64) (data := [104, 105]) hs
  have ho := open_sealB (kind := 0) (a := 3) (g := 258#64) (l := 7#64) (data := [104, 105]) hs (by decide)
  generalize sealB [48, 49, 50, 51, 52, 53, 54, 55, 56, 57, 97, 98, 99, 100, 101, 102] 0 3 258#64 7#64 [104, 105] = b at hl ho
  have hlb : b.length = 26 := hl
  simp only
  have e3 := g6 (k := k + 2) (s := [48, 49, 50, 51, 52, 53, 54, 55, 56, 57, 97, 98, 99, 100, 101, 102]) (b := b) 0 3 7#64 (by omega) (by omega)
  have e3' : F6 (k + 2) [48, 49, 50, 51, 52, 53, 54, 55, 56, 57, 97, 98, 99, 100, 101, 102] 0 3 7 b = some (openR [48, 49, 50, 51, 52, 53, 54, 55, 56, 57, 97, 98, 99, 100, 101, 102] 0 3 7#64 b) := e3
  rw [e3', Option.bind_some]
  have e4 : openR [48, 49, 50, 51, 52, 53, 54, 55, 56, 57, 97, 98, 99, 100, 101, 102] 0 3 7#64 b = (258, [104, 105], 0) := by
    unfold openR
    rw [if_pos (by decide), if_pos hs]; exact ho
  rw [e4]
  simp only
  rw [cT trivial, cT trivial, cT trivial, cT trivial, dec_t (by omega)]
theorem g5 {k : Nat} {s : List UInt8} : F5 k s = some (s.take 100) := by
  unfold F5
  rw [gp (by omega)]
  have : List.take (if (100 : Int) < (s.length : Int) then (100 : Int) else (s.length : Int)).toNat s = s.take 100 := take_if 100 s
  rw [this]
theorem g7 {k : Nat} (i j : Int) : F7 k i j = some (decide (place i j)) := by
  unfold F7
  by_cases h1 : 0 ≤ i
  · rw [cT h1]
    by_cases h2 : i ≤ 63
    · rw [cT h2]
      by_cases h3 : 0 ≤ j
      · rw [cT h3]
        by_cases h4 : j ≤ 2
        · rw [dec_t h4, dec_t ⟨h1, h2, h3, h4⟩]
        · rw [dec_f h4, dec_f (fun h => h4 h.2.2.2)]
      · rw [cF h3, dec_f (fun h => h3 h.2.2.1)]
    · rw [cF h2, dec_f (fun h => h2 h.2.1)]
  · rw [cF h1, dec_f (fun h => h1 h.1)]
theorem g9 {k : Nat} {s : List UInt8} : F9 k s = some (decide (keyOk s)) := by
  unfold F9
  by_cases h1 : s.length = 16
  · rw [cT (by omega), dec_t (show keyOk s from .inl h1)]
  · rw [cF (by omega)]
    by_cases h2 : s.length = 32
    · rw [dec_t (show (s.length : Int) = 32 by omega), dec_t (show keyOk s from .inr h2)]
    · rw [dec_f (show ¬(s.length : Int) = 32 by omega), dec_f (show ¬keyOk s from fun h => h.elim h1 h2)]
end Go.Proofs.Gc
set_option linter.unusedVariables false
set_option linter.unusedSimpArgs false
set_option maxRecDepth 100000
namespace Go.Proofs.Gc
open Go Go.Sym Go.Sym.Gf Go.Proofs.Ae
theorem law_sealTexts {k : Nat} (s d : List UInt8) (kind a : Int) (g l : Wd) (hk : 7300 ≤ k) : F4 k s kind a (g.toNat : Int) (l.toNat : Int) d = some true := by
  unfold F4
  rw [g5, Option.bind_some, g5, Option.bind_some]
  generalize s.take 100 = s
  generalize d.take 100 = d
  have h8 : F8 (k + 2) = some true := g8 (by omega)
  rw [g11 a g (by omega), g12 kind a g l (by omega), h8]
  simp only [Option.bind_some]
  unfold nonceR sealR
  by_cases h1 : a < 0
  · rw [cT h1, if_neg (by omega), if_neg (by omega)]; rfl
  · rw [cF h1]
    by_cases h2 : 63 < a
    · rw [cT h2, if_neg (by omega), if_neg (by omega)]; rfl
    · obtain ⟨n, rfl⟩ : ∃ n : Nat, a = n := ⟨a.toNat, by omega⟩
      rw [cF h2, if_pos (show (0 : Int) ≤ (n : Int) ∧ (n : Int) ≤ 63 by omega), g13 (by omega) (by omega)]
      simp only
      rw [cNT trivial, Option.bind_some, Int.toNat_natCast, cNT rfl, Bool.not_true, cond_false, g7, Option.bind_some]
      by_cases h : place n kind
      · obtain ⟨m, rfl⟩ : ∃ n : Nat, kind = n := ⟨kind.toNat, by omega⟩
        rw [cNT h, if_pos h, g9, Option.bind_some]
        by_cases hs : keyOk s
        · rw [cNT hs, if_pos hs, Int.toNat_natCast]
          by_cases hd : 64 < d.length
          · rw [cT (by omega), if_pos hd]; rfl
          · rw [cF (by omega), if_neg hd, g14 g l (by omega) (by omega) hs (by omega) (by omega), Option.bind_some]
            simp only
            rw [cT trivial]; rfl
        · rw [cNF hs, if_neg hs]
          by_cases hd : 64 < d.length
          · rw [if_pos hd]; rfl
          · rw [if_neg hd]; rfl
      · rw [cNF h, if_neg h]; rfl
end Go.Proofs.Gc
set_option linter.unusedVariables false
set_option linter.unusedSimpArgs false
set_option maxRecDepth 100000
namespace Go.Proofs.Opn
open Go Go.Sym
theorem ta9 : tagg Tryz.prog 9 = some false := by kernel_rfl
theorem ta22 : tagg Tryz.prog 22 = some false := by kernel_rfl
theorem four {P : Program} {k : Nat} {a b c d : TypeId} {xs : List V} (h : VArgs P k [a, b, c, d] xs) : ∃ x y z w, xs = [x, y, z, w] ∧ VArg P k a x ∧ VArg P k b y ∧ VArg P k c z ∧ VArg P k d w := by
  match xs, h with
  | [x, y, z, w], ⟨hx, hy, hz, hw, _⟩ => exact ⟨x, y, z, w, rfl, hx, hy, hz, hw⟩
theorem w_of {n : Int} (h : (Lit.int .u64 n).wf = true) : n = ((BitVec.ofNat 64 n.toNat).toNat : Int) := by
  obtain ⟨h2, h3⟩ := wf_u64 h
  rw [BitVec.toNat_ofNat, Nat.mod_eq_of_lt (by omega)]; omega
theorem open22 {k : Nat} {v : V} (h : VArg Tryz.prog (k + 1) 22 v) : ∃ w : Wd, v = V.int .u64 (w.toNat : Int) := by
  unfold VArg at h
  obtain ⟨vs, hv, h⟩ := h
  simp only [VT, Tryz.underlying22] at h
  obtain ⟨n, h1, hw⟩ := h
  refine ⟨BitVec.ofNat 64 n.toNat, hv.trans ?_⟩
  rw [← w_of hw, h1]
  simp only [Sym.mk, ta22, List.headD_cons]
theorem open9 {k : Nat} {v : V} (h : VArg Tryz.prog (k + 1) 9 v) : ∃ s : List UInt8, v = V.str s ∧ s.length ≤ maxLen := by
  unfold VArg at h
  obtain ⟨vs, hv, h⟩ := h
  simp only [VT, Tryz.underlying9] at h
  obtain ⟨s, h1, hw⟩ := h
  exact ⟨s, hv.trans (by rw [h1]; simp only [Sym.mk, ta9, List.headD_cons]), hw⟩
theorem ta3 : tagg Tryz.prog 3 = some false := by kernel_rfl
theorem open3 {k : Nat} {v : V} (h : VArg Tryz.prog (k + 1) 3 v) : ∃ a, v = V.int .i64 a := by
  unfold VArg at h
  obtain ⟨vs, hv, h⟩ := h
  simp only [VT, Tryz.underlying3] at h
  obtain ⟨n, h1, hw⟩ := h
  exact ⟨n, hv.trans (by rw [h1]; simp only [Sym.mk, ta3, List.headD_cons])⟩
theorem six {P : Program} {k : Nat} {a b c d e f : TypeId} {xs : List V} (h : VArgs P k [a, b, c, d, e, f] xs) : ∃ x y z w u v, xs = [x, y, z, w, u, v] ∧ VArg P k a x ∧ VArg P k b y ∧ VArg P k c z ∧ VArg P k d w ∧ VArg P k e u ∧ VArg P k f v := by
  match xs, h with
  | [x, y, z, w, u, v], ⟨hx, hy, hz, hw, hu, hv, _⟩ => exact ⟨x, y, z, w, u, v, rfl, hx, hy, hz, hw, hu, hv⟩
end Go.Proofs.Opn
