/- DERIVED. The steps of a round, plainly, for both sides. -/
import Derived.Test.YtegmincienhapaaAeA
import Derived.Test.YtegmincienhapaaAeB
import Derived.Test.YtegmincienhapaaFlB
set_option linter.unusedVariables false
set_option linter.unusedSimpArgs false
set_option maxRecDepth 1000000
namespace Go.Proofs.Ae
open Go Go.Sym Go.Proofs.Fl

def sbU (c : UInt8) : UInt8 := UInt8.ofNat (sb c.toNat)
def xtU (c : UInt8) : UInt8 := UInt8.ofNat (xt c.toNat)
theorem sbU_nat (c : UInt8) : ((sbU c).toNat : Int) = ((sb c.toNat : Nat) : Int) := by
  unfold sbU; rw [UInt8.toNat_ofNat', Nat.mod_eq_of_lt (sb_lt c.toNat_lt)]
theorem xtU_nat (c : UInt8) : ((xtU c).toNat : Int) = ((xt c.toNat : Nat) : Int) := by
  unfold xtU; rw [UInt8.toNat_ofNat', Nat.mod_eq_of_lt (xt_lt c.toNat_lt)]
theorem u8_of (a : UInt8) : BitVec.ofInt IntKind.u8.bits (a.toNat : Int) = a.toBitVec := by
  show BitVec.ofInt 8 ((a.toBitVec.toNat : Nat) : Int) = a.toBitVec
  rw [BitVec.ofInt_natCast, BitVec.ofNat_toNat, BitVec.setWidth_eq]
theorem xor_b (a b : UInt8) : IntKind.u8.wrap (↑(BitVec.ofInt IntKind.u8.bits (a.toNat : Int) ^^^ BitVec.ofInt IntKind.u8.bits (b.toNat : Int)).toNat : Int) = ((a ^^^ b).toNat : Int) := by
  rw [u8_of, u8_of, wb_mod]
  show (((a ^^^ b).toNat : Int)) % 256 = _
  have := (a ^^^ b).toNat_lt
  omega
theorem u94 {k : Nat} (c : UInt8) (hk : 20 ≤ k) : F94 k (c.toNat : Int) = some ((sbU c).toNat : Int) := by rw [g94 c.toNat_lt hk, sbU_nat]
theorem u100 {k : Nat} (c : UInt8) (hk : 300 ≤ k) : F100 k (c.toNat : Int) = some ((sbU c).toNat : Int) := by rw [g100 c.toNat_lt hk, sbU_nat]
theorem u96 {k : Nat} (c : UInt8) (hk : 20 ≤ k) : F96 k (c.toNat : Int) 2 = some ((xtU c).toNat : Int) := by rw [g96 c.toNat_lt hk, xtU_nat]
theorem u101a {k : Nat} (c : UInt8) (hk : 20 ≤ k) : F101 k (c.toNat : Int) 1 = some (c.toNat : Int) := g101a c.toNat_lt hk
theorem u101b {k : Nat} (c : UInt8) (hk : 20 ≤ k) : F101 k (c.toNat : Int) 2 = some ((xtU c).toNat : Int) := by rw [g101b c.toNat_lt hk, xtU_nat]
theorem u101c {k : Nat} (c : UInt8) (hk : 20 ≤ k) : F101 k (c.toNat : Int) 3 = some ((xtU c ^^^ c).toNat : Int) := by
  rw [g101c c.toNat_lt hk, UInt8.toNat_xor]; unfold xtU; rw [UInt8.toNat_ofNat', Nat.mod_eq_of_lt (xt_lt c.toNat_lt)]
def ub (c : UInt8) : V := V.int .u8 (c.toNat : Int)
theorem all_ub (l : List UInt8) : (l.map ub).all isByte = true := by simp [ub, isByte]
theorem byteOf_ub (l : List UInt8) : (l.map ub).map Sym.byteOf = l := by
  induction l with
  | nil => rfl
  | cons c r ih => simp only [List.map_cons, ih, ub, Sym.byteOf, Int.toNat_natCast, UInt8.ofNat_toNat]
theorem g99 {k : Nat} {o : Option Bool} {b : Bool} (l : List UInt8) : F99 k o b 1 (l.map ub) = some l := by
  unfold F99
  rw [gp (.inl rfl), gp (all_ub l), byteOf_ub]

/-! ### The steps -/
def boxL (s : List UInt8) : List UInt8 := s.map sbU
def turnL : List UInt8 → List UInt8
  | [c0, c1, c2, c3, c4, c5, c6, c7, c8, c9, c10, c11, c12, c13, c14, c15] => [c0, c5, c10, c15, c4, c9, c14, c3, c8, c13, c2, c7, c12, c1, c6, c11]
  | l => l
def m0 (a b c d : UInt8) : UInt8 := xtU a ^^^ (xtU b ^^^ b) ^^^ c ^^^ d
def mixL : List UInt8 → List UInt8
  | [c0, c1, c2, c3, c4, c5, c6, c7, c8, c9, c10, c11, c12, c13, c14, c15] =>
    [m0 c0 c1 c2 c3, m0 c1 c2 c3 c0, m0 c2 c3 c0 c1, m0 c3 c0 c1 c2, m0 c4 c5 c6 c7, m0 c5 c6 c7 c4, m0 c6 c7 c4 c5, m0 c7 c4 c5 c6,
     m0 c8 c9 c10 c11, m0 c9 c10 c11 c8, m0 c10 c11 c8 c9, m0 c11 c8 c9 c10, m0 c12 c13 c14 c15, m0 c13 c14 c15 c12, m0 c14 c15 c12 c13, m0 c15 c12 c13 c14]
  | l => l
def xorL (a b : List UInt8) : List UInt8 := List.zipWith (· ^^^ ·) a b
theorem len16 {s : List UInt8} (h : s.length = 16) : ∃ c0 c1 c2 c3 c4 c5 c6 c7 c8 c9 c10 c11 c12 c13 c14 c15, s = [c0, c1, c2, c3, c4, c5, c6, c7, c8, c9, c10, c11, c12, c13, c14, c15] := by
  match s, h with
  | [c0, c1, c2, c3, c4, c5, c6, c7, c8, c9, c10, c11, c12, c13, c14, c15], _ => exact ⟨_, _, _, _, _, _, _, _, _, _, _, _, _, _, _, _, rfl⟩
theorem xt_lin_all : allB (fun a => allB (fun b => (xt (a ^^^ b)).beq (xt a ^^^ xt b)) 256) 256 = true := by kernel_rfl
theorem xtU_xor (a b : UInt8) : xtU (a ^^^ b) = xtU a ^^^ xtU b := by
  apply UInt8.toNat_inj.1
  rw [UInt8.toNat_xor]
  unfold xtU
  rw [UInt8.toNat_ofNat', UInt8.toNat_ofNat', UInt8.toNat_ofNat', Nat.mod_eq_of_lt (xt_lt (UInt8.toNat_lt _)), Nat.mod_eq_of_lt (xt_lt a.toNat_lt), Nat.mod_eq_of_lt (xt_lt b.toNat_lt), UInt8.toNat_xor]
  exact Nat.eq_of_beq_eq_true (allB_at (allB_at xt_lin_all a.toNat_lt) b.toNat_lt)
theorem xcomm (a b : UInt8) : a ^^^ b = b ^^^ a := UInt8.xor_comm a b
theorem xassoc (a b c : UInt8) : a ^^^ b ^^^ c = a ^^^ (b ^^^ c) := UInt8.xor_assoc a b c
theorem xself (a b : UInt8) : a ^^^ (a ^^^ b) = b := by rw [← xassoc, UInt8.xor_self, UInt8.zero_xor]
instance : Std.Associative (α := UInt8) (· ^^^ ·) := ⟨xassoc⟩
instance : Std.Commutative (α := UInt8) (· ^^^ ·) := ⟨xcomm⟩
theorem mixP0 (a b c d : UInt8) : a ^^^ ((a ^^^ b ^^^ c ^^^ d) ^^^ xtU (a ^^^ b)) = m0 a b c d := by
  rw [xtU_xor, show a ^^^ ((a ^^^ b ^^^ c ^^^ d) ^^^ (xtU a ^^^ xtU b)) = a ^^^ (a ^^^ (b ^^^ c ^^^ d ^^^ (xtU a ^^^ xtU b))) by ac_rfl, xself]; unfold m0; ac_rfl
theorem mixP1 (a b c d : UInt8) : b ^^^ ((a ^^^ b ^^^ c ^^^ d) ^^^ xtU (b ^^^ c)) = m0 b c d a := by
  rw [← mixP0 b c d a]; congr 2; ac_rfl
theorem mixP2 (a b c d : UInt8) : c ^^^ ((a ^^^ b ^^^ c ^^^ d) ^^^ xtU (c ^^^ d)) = m0 c d a b := by
  rw [← mixP0 c d a b]; congr 2; ac_rfl
theorem mixP3 (a b c d : UInt8) : d ^^^ ((a ^^^ b ^^^ c ^^^ d) ^^^ xtU (d ^^^ a)) = m0 d a b c := by
  rw [← mixP0 d a b c]; congr 2; ac_rfl

/-! ### The program's -/
theorem g73 {k : Nat} (a0 a1 a2 a3 a4 a5 a6 a7 a8 a9 a10 a11 a12 a13 a14 a15 b0 b1 b2 b3 b4 b5 b6 b7 b8 b9 b10 b11 b12 b13 b14 b15 : UInt8) :
    F73 k a0.toNat a1.toNat a2.toNat a3.toNat a4.toNat a5.toNat a6.toNat a7.toNat a8.toNat a9.toNat a10.toNat a11.toNat a12.toNat a13.toNat a14.toNat a15.toNat [b0, b1, b2, b3, b4, b5, b6, b7, b8, b9, b10, b11, b12, b13, b14, b15] =
      some (((a0 ^^^ b0).toNat : Int), ((a1 ^^^ b1).toNat : Int), ((a2 ^^^ b2).toNat : Int), ((a3 ^^^ b3).toNat : Int), ((a4 ^^^ b4).toNat : Int), ((a5 ^^^ b5).toNat : Int), ((a6 ^^^ b6).toNat : Int), ((a7 ^^^ b7).toNat : Int),
        ((a8 ^^^ b8).toNat : Int), ((a9 ^^^ b9).toNat : Int), ((a10 ^^^ b10).toNat : Int), ((a11 ^^^ b11).toNat : Int), ((a12 ^^^ b12).toNat : Int), ((a13 ^^^ b13).toNat : Int), ((a14 ^^^ b14).toNat : Int), ((a15 ^^^ b15).toNat : Int)) := by
  simp only [← xor_b]
  rfl
theorem g74 {k : Nat} (hk : 20 ≤ k) (a0 a1 a2 a3 a4 a5 a6 a7 a8 a9 a10 a11 a12 a13 a14 a15 : UInt8) :
    F74 k a0.toNat a1.toNat a2.toNat a3.toNat a4.toNat a5.toNat a6.toNat a7.toNat a8.toNat a9.toNat a10.toNat a11.toNat a12.toNat a13.toNat a14.toNat a15.toNat =
      some (((sbU a0).toNat : Int), ((sbU a1).toNat : Int), ((sbU a2).toNat : Int), ((sbU a3).toNat : Int), ((sbU a4).toNat : Int), ((sbU a5).toNat : Int), ((sbU a6).toNat : Int), ((sbU a7).toNat : Int),
        ((sbU a8).toNat : Int), ((sbU a9).toNat : Int), ((sbU a10).toNat : Int), ((sbU a11).toNat : Int), ((sbU a12).toNat : Int), ((sbU a13).toNat : Int), ((sbU a14).toNat : Int), ((sbU a15).toNat : Int)) := by
  unfold F74
  simp only [u94 (k := k + 19) _ (by omega), Option.bind_some]
theorem g76 {k : Nat} (hk : 20 ≤ k) (a0 a1 a2 a3 a4 a5 a6 a7 a8 a9 a10 a11 a12 a13 a14 a15 : UInt8) :
    F76 k a0.toNat a1.toNat a2.toNat a3.toNat a4.toNat a5.toNat a6.toNat a7.toNat a8.toNat a9.toNat a10.toNat a11.toNat a12.toNat a13.toNat a14.toNat a15.toNat =
      some (((m0 a0 a1 a2 a3).toNat : Int), ((m0 a1 a2 a3 a0).toNat : Int), ((m0 a2 a3 a0 a1).toNat : Int), ((m0 a3 a0 a1 a2).toNat : Int), ((m0 a4 a5 a6 a7).toNat : Int), ((m0 a5 a6 a7 a4).toNat : Int), ((m0 a6 a7 a4 a5).toNat : Int), ((m0 a7 a4 a5 a6).toNat : Int),
        ((m0 a8 a9 a10 a11).toNat : Int), ((m0 a9 a10 a11 a8).toNat : Int), ((m0 a10 a11 a8 a9).toNat : Int), ((m0 a11 a8 a9 a10).toNat : Int), ((m0 a12 a13 a14 a15).toNat : Int), ((m0 a13 a14 a15 a12).toNat : Int), ((m0 a14 a15 a12 a13).toNat : Int), ((m0 a15 a12 a13 a14).toNat : Int)) := by
  unfold F76
  simp only [xor_b, u96 (k := k + 19) _ (by omega), Option.bind_some, mixP0, mixP1, mixP2, mixP3]

/-! ### The reference's -/
theorem g87 {k : Nat} {s : List UInt8} (h : s.length = 16) : F87 k s = some (turnL s) := by
  obtain ⟨c0, c1, c2, c3, c4, c5, c6, c7, c8, c9, c10, c11, c12, c13, c14, c15, rfl⟩ := len16 h
  unfold F87
  show ((F99 (k + 7) none false 1 ([c0, c5, c10, c15, c4, c9, c14, c3, c8, c13, c2, c7, c12, c1, c6, c11].map ub)).bind _) = _
  rw [g99]; rfl
theorem g88 {k : Nat} {s : List UInt8} (hl : s.length ≤ 100) (hk : 300 ≤ k) : F88 k s = some (boxL s) := by
  have run : ∀ (c i f : Nat), s.length - i = c → i ≤ s.length → c < f → ∃ z, L88_0 k s f (i : Int) ((boxL (s.take i)).map ub) = some (.e0 z ((boxL s).map ub)) := by
    intro c
    induction c with
    | zero =>
      intro i f hc hi hf
      obtain ⟨f, rfl⟩ : ∃ y, f = y + 1 := ⟨f - 1, by omega⟩
      rw [L88_0, cF (by omega), List.take_of_length_le (by omega)]
      exact ⟨_, rfl⟩
    | succ c ih =>
      intro i f hc hi hf
      obtain ⟨f, rfl⟩ : ∃ y, f = y + 1 := ⟨f - 1, by omega⟩
      have hi' : i < s.length := by omega
      obtain ⟨z, e⟩ := ih (i + 1) f (by omega) (by omega) (by omega)
      refine ⟨z, ?_⟩
      have hs : satB s (i : Int) = some s[i] := by unfold satB; rw [if_pos (Int.natCast_nonneg _), Int.toNat_natCast, List.getElem?_eq_getElem hi']
      rw [L88_0, cT (by omega), hs, Option.bind_some, u100 _ (by omega), Option.bind_some, gp (by rw [List.length_map]; unfold boxL; rw [List.length_map, List.length_take]; unfold maxLen'; omega), wi (n := (i : Int) + 1) (by omega) (by omega), show (i : Int) + 1 = ((i + 1 : Nat) : Int) by omega,
        show (boxL (s.take i)).map ub ++ [V.int IntKind.u8 ((sbU s[i]).toNat : Int)] = (boxL (s.take (i + 1))).map ub by rw [List.take_succ_eq_append_getElem hi']; unfold boxL; rw [List.map_append, List.map_append]; rfl]
      exact e
  unfold F88
  obtain ⟨z, e⟩ := run s.length 0 (k + 14) (by omega) (by omega) (by omega)
  have e' : L88_0 k s (k + 14) 0 [] = _ := e
  rw [e', Option.bind_some]
  simp only
  rw [g99, Option.bind_some]
theorem g86 {k : Nat} {s t : List UInt8} (hs : s.length = t.length) (hl : s.length ≤ 1000) (hk : 1000 ≤ k) : F86 k s t = some (xorL s t) := by
  have hlen : ∀ i, i ≤ s.length → (xorL (s.take i) (t.take i)).length = i := by
    intro i hi; unfold xorL; rw [List.length_zipWith, List.length_take, List.length_take]; omega
  have run : ∀ (c i f : Nat), s.length - i = c → i ≤ s.length → c < f → ∃ z, L86_0 k s t f (i : Int) ((xorL (s.take i) (t.take i)).map ub) = some (.e0 z ((xorL s t).map ub)) := by
    intro c
    induction c with
    | zero =>
      intro i f hc hi hf
      obtain ⟨f, rfl⟩ : ∃ y, f = y + 1 := ⟨f - 1, by omega⟩
      rw [L86_0, cF (by omega), List.take_of_length_le (by omega), List.take_of_length_le (by omega)]
      exact ⟨_, rfl⟩
    | succ c ih =>
      intro i f hc hi hf
      obtain ⟨f, rfl⟩ : ∃ y, f = y + 1 := ⟨f - 1, by omega⟩
      have hi' : i < s.length := by omega
      have hj' : i < t.length := by omega
      obtain ⟨z, e⟩ := ih (i + 1) f (by omega) (by omega) (by omega)
      refine ⟨z, ?_⟩
      have h1 : satB s (i : Int) = some s[i] := by unfold satB; rw [if_pos (Int.natCast_nonneg _), Int.toNat_natCast, List.getElem?_eq_getElem hi']
      have h2 : satB t (i : Int) = some t[i] := by unfold satB; rw [if_pos (Int.natCast_nonneg _), Int.toNat_natCast, List.getElem?_eq_getElem hj']
      rw [L86_0, cT (by omega), h1, Option.bind_some, h2, Option.bind_some, gp (by rw [List.length_map, hlen i hi]; unfold maxLen'; omega), xor_b, wi (n := (i : Int) + 1) (by omega) (by omega), show (i : Int) + 1 = ((i + 1 : Nat) : Int) by omega,
        show (xorL (s.take i) (t.take i)).map ub ++ [V.int IntKind.u8 ((s[i] ^^^ t[i]).toNat : Int)] = (xorL (s.take (i + 1)) (t.take (i + 1))).map ub by
          rw [List.take_succ_eq_append_getElem hi', List.take_succ_eq_append_getElem hj']; unfold xorL; rw [List.zipWith_append (by rw [List.length_take, List.length_take]; omega)]; simp [ub]]
      exact e
  unfold F86
  obtain ⟨z, e⟩ := run s.length 0 (k + 5) (by omega) (by omega) (by omega)
  have e' : L86_0 k s t (k + 5) 0 [] = _ := e
  rw [e', Option.bind_some]
  simp only
  rw [g99, Option.bind_some]
theorem mixR (a b c d : UInt8) : (0 : UInt8) ^^^ xtU a ^^^ (xtU b ^^^ b) ^^^ c ^^^ d = m0 a b c d := by
  rw [UInt8.zero_xor]; rfl
theorem mixR1 (a b c d : UInt8) : (0 : UInt8) ^^^ d ^^^ xtU a ^^^ (xtU b ^^^ b) ^^^ c = m0 a b c d := by
  rw [UInt8.zero_xor]; unfold m0; ac_rfl
theorem mixR2 (a b c d : UInt8) : (0 : UInt8) ^^^ c ^^^ d ^^^ xtU a ^^^ (xtU b ^^^ b) = m0 a b c d := by
  rw [UInt8.zero_xor]; unfold m0; ac_rfl
theorem mixR3 (a b c d : UInt8) : (0 : UInt8) ^^^ (xtU b ^^^ b) ^^^ c ^^^ d ^^^ xtU a = m0 a b c d := by
  rw [UInt8.zero_xor]; unfold m0; ac_rfl
theorem xor_b0 (b : UInt8) : IntKind.u8.wrap (↑(BitVec.ofInt IntKind.u8.bits 0 ^^^ BitVec.ofInt IntKind.u8.bits (b.toNat : Int)).toNat : Int) = (((0 : UInt8) ^^^ b).toNat : Int) := xor_b 0 b
theorem L89i {k : Nat} {i0 i1 : Int} {s : List UInt8} {x : List V} {a b c d z0 z1 z2 z3 : UInt8} {q0 q1 q2 q3 : Int} {f : Nat}
    (h0 : satB s (IntKind.i64.wrap (IntKind.i64.wrap (4 * i0) + 0)) = some a) (h1 : satB s (IntKind.i64.wrap (IntKind.i64.wrap (4 * i0) + 1)) = some b) (h2 : satB s (IntKind.i64.wrap (IntKind.i64.wrap (4 * i0) + 2)) = some c) (h3 : satB s (IntKind.i64.wrap (IntKind.i64.wrap (4 * i0) + 3)) = some d)
    (t0 : F102 (k + 5) i1 0 = some q0) (t1 : F102 (k + 5) i1 1 = some q1) (t2 : F102 (k + 5) i1 2 = some q2) (t3 : F102 (k + 5) i1 3 = some q3)
    (y0 : F101 (k + 2) (a.toNat : Int) q0 = some (z0.toNat : Int)) (y1 : F101 (k + 2) (b.toNat : Int) q1 = some (z1.toNat : Int)) (y2 : F101 (k + 2) (c.toNat : Int) q2 = some (z2.toNat : Int)) (y3 : F101 (k + 2) (d.toNat : Int) q3 = some (z3.toNat : Int)) :
    L89_2 k i0 i1 s x (f + 5) 0 0 = some (.e0 (((0 : UInt8) ^^^ z0 ^^^ z1 ^^^ z2 ^^^ z3).toNat : Int) 4) := by
  rw [L89_2, cT (by decide), h0, Option.bind_some, t0, Option.bind_some, y0, Option.bind_some, xor_b0, show IntKind.i64.wrap (0 + 1) = 1 from rfl]
  rw [L89_2, cT (by decide), h1, Option.bind_some, t1, Option.bind_some, y1, Option.bind_some, xor_b, show IntKind.i64.wrap (1 + 1) = 2 from rfl]
  rw [L89_2, cT (by decide), h2, Option.bind_some, t2, Option.bind_some, y2, Option.bind_some, xor_b, show IntKind.i64.wrap (2 + 1) = 3 from rfl]
  rw [L89_2, cT (by decide), h3, Option.bind_some, t3, Option.bind_some, y3, Option.bind_some, xor_b, show IntKind.i64.wrap (3 + 1) = 4 from rfl]
  rw [L89_2, cF (by decide)]
theorem L89r {k : Nat} {i0 : Int} {s : List UInt8} {a b c d : UInt8} {x : List V} {f : Nat} (hx : x.length ≤ 1000) (hk : 20 ≤ k)
    (h0 : satB s (IntKind.i64.wrap (IntKind.i64.wrap (4 * i0) + 0)) = some a) (h1 : satB s (IntKind.i64.wrap (IntKind.i64.wrap (4 * i0) + 1)) = some b) (h2 : satB s (IntKind.i64.wrap (IntKind.i64.wrap (4 * i0) + 2)) = some c) (h3 : satB s (IntKind.i64.wrap (IntKind.i64.wrap (4 * i0) + 3)) = some d) :
    L89_1 k i0 s (f + 5) 0 x = some (.e0 4 (x ++ [ub (m0 a b c d), ub (m0 b c d a), ub (m0 c d a b), ub (m0 d a b c)])) := by
  have e0 : ∀ x, L89_2 k i0 0 s x (k + 8) 0 0 = _ := fun x => L89i (f := k + 3) h0 h1 h2 h3 (t0 := (rfl : F102 (k + 5) 0 0 = some 2)) (t1 := (rfl : F102 (k + 5) 0 1 = some 3)) (t2 := (rfl : F102 (k + 5) 0 2 = some 1)) (t3 := (rfl : F102 (k + 5) 0 3 = some 1)) (u101b a (by omega)) (u101c b (by omega)) (u101a c (by omega)) (u101a d (by omega))
  have e1 : ∀ x, L89_2 k i0 1 s x (k + 8) 0 0 = _ := fun x => L89i (f := k + 3) h0 h1 h2 h3 (t0 := (rfl : F102 (k + 5) 1 0 = some 1)) (t1 := (rfl : F102 (k + 5) 1 1 = some 2)) (t2 := (rfl : F102 (k + 5) 1 2 = some 3)) (t3 := (rfl : F102 (k + 5) 1 3 = some 1)) (u101a a (by omega)) (u101b b (by omega)) (u101c c (by omega)) (u101a d (by omega))
  have e2 : ∀ x, L89_2 k i0 2 s x (k + 8) 0 0 = _ := fun x => L89i (f := k + 3) h0 h1 h2 h3 (t0 := (rfl : F102 (k + 5) 2 0 = some 1)) (t1 := (rfl : F102 (k + 5) 2 1 = some 1)) (t2 := (rfl : F102 (k + 5) 2 2 = some 2)) (t3 := (rfl : F102 (k + 5) 2 3 = some 3)) (u101a a (by omega)) (u101a b (by omega)) (u101b c (by omega)) (u101c d (by omega))
  have e3 : ∀ x, L89_2 k i0 3 s x (k + 8) 0 0 = _ := fun x => L89i (f := k + 3) h0 h1 h2 h3 (t0 := (rfl : F102 (k + 5) 3 0 = some 3)) (t1 := (rfl : F102 (k + 5) 3 1 = some 1)) (t2 := (rfl : F102 (k + 5) 3 2 = some 1)) (t3 := (rfl : F102 (k + 5) 3 3 = some 2)) (u101c a (by omega)) (u101a b (by omega)) (u101a c (by omega)) (u101b d (by omega))
  rw [L89_1, cT (by decide), e0, Option.bind_some]
  simp only
  rw [gp (by unfold maxLen'; omega), show IntKind.i64.wrap (0 + 1) = 1 from rfl, mixR, L89_1, cT (by decide), e1, Option.bind_some]
  simp only
  rw [gp (by rw [List.length_append]; simp only [List.length_cons, List.length_nil]; unfold maxLen'; omega), show IntKind.i64.wrap (1 + 1) = 2 from rfl, mixR1, L89_1, cT (by decide), e2, Option.bind_some]
  simp only
  rw [gp (by rw [List.length_append, List.length_append]; simp only [List.length_cons, List.length_nil]; unfold maxLen'; omega), show IntKind.i64.wrap (2 + 1) = 3 from rfl, mixR2, L89_1, cT (by decide), e3, Option.bind_some]
  simp only
  rw [gp (by rw [List.length_append, List.length_append, List.length_append]; simp only [List.length_cons, List.length_nil]; unfold maxLen'; omega), show IntKind.i64.wrap (3 + 1) = 4 from rfl, mixR3, L89_1, cF (by decide)]
  simp only [List.append_assoc, List.cons_append, List.nil_append]
  rfl
theorem g89 {k : Nat} {s : List UInt8} (h : s.length = 16) (hk : 20 ≤ k) : F89 k s = some (mixL s) := by
  obtain ⟨c0, c1, c2, c3, c4, c5, c6, c7, c8, c9, c10, c11, c12, c13, c14, c15, rfl⟩ := len16 h
  unfold F89
  have e0 : ∀ x : List V, x.length ≤ 1000 → L89_1 k 0 [c0, c1, c2, c3, c4, c5, c6, c7, c8, c9, c10, c11, c12, c13, c14, c15] (k + 8) 0 x = _ := fun x hx => L89r (f := k + 3) (a := c0) (b := c1) (c := c2) (d := c3) hx hk rfl rfl rfl rfl
  have e1 : ∀ x : List V, x.length ≤ 1000 → L89_1 k 1 [c0, c1, c2, c3, c4, c5, c6, c7, c8, c9, c10, c11, c12, c13, c14, c15] (k + 8) 0 x = _ := fun x hx => L89r (f := k + 3) (a := c4) (b := c5) (c := c6) (d := c7) hx hk rfl rfl rfl rfl
  have e2 : ∀ x : List V, x.length ≤ 1000 → L89_1 k 2 [c0, c1, c2, c3, c4, c5, c6, c7, c8, c9, c10, c11, c12, c13, c14, c15] (k + 8) 0 x = _ := fun x hx => L89r (f := k + 3) (a := c8) (b := c9) (c := c10) (d := c11) hx hk rfl rfl rfl rfl
  have e3 : ∀ x : List V, x.length ≤ 1000 → L89_1 k 3 [c0, c1, c2, c3, c4, c5, c6, c7, c8, c9, c10, c11, c12, c13, c14, c15] (k + 8) 0 x = _ := fun x hx => L89r (f := k + 3) (a := c12) (b := c13) (c := c14) (d := c15) hx hk rfl rfl rfl rfl
  rw [L89_0, cT (by decide), e0 _ (by simp), Option.bind_some]
  simp only
  rw [show IntKind.i64.wrap (0 + 1) = 1 from rfl, L89_0, cT (by decide), e1 _ (by simp), Option.bind_some]
  simp only
  rw [show IntKind.i64.wrap (1 + 1) = 2 from rfl, L89_0, cT (by decide), e2 _ (by simp), Option.bind_some]
  simp only
  rw [show IntKind.i64.wrap (2 + 1) = 3 from rfl, L89_0, cT (by decide), e3 _ (by simp), Option.bind_some]
  simp only
  rw [show IntKind.i64.wrap (3 + 1) = 4 from rfl, L89_0, cF (by decide), Option.bind_some]
  exact (congrArg (Option.bind · _) (g99 (k := k + 5) (o := none) (b := false) (mixL [c0, c1, c2, c3, c4, c5, c6, c7, c8, c9, c10, c11, c12, c13, c14, c15])))
end Go.Proofs.Ae
