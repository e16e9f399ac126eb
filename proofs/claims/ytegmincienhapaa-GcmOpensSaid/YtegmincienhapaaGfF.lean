/- DERIVED. Texts as blocks of sixteen bytes; what the functions that make them answer. -/
import Derived.Test.YtegmincienhapaaGhC
import Derived.Test.YtegmincienhapaaGfE
set_option linter.unusedVariables false
set_option linter.unusedSimpArgs false
set_option maxRecDepth 100000
namespace Go.Proofs
open Go Go.Sym Go.Sym.Gf

def nb (s : List UInt8) : Nat := (s.length + 15) / 16
def pad (s : List UInt8) : List UInt8 := s ++ List.replicate (16 * nb s - s.length) 0
def blk (s : List UInt8) (j : Nat) : List UInt8 := ((pad s).drop (16 * j)).take 16
def blks (s : List UInt8) (n : Nat) : List (List UInt8) := (List.range n).map (blk s)
def bks (s : List UInt8) : List (List UInt8) := blks s (nb s)
def lw8 (s : List UInt8) : Wd := BitVec.ofNat 64 (8 * s.length)
def lst (a b : List UInt8) : List UInt8 := by54 (lw8 a) ++ by54 (lw8 b)
def BL (a b : List UInt8) : List (List UInt8) := bks a ++ bks b ++ [lst a b]
theorem pad_length (s : List UInt8) : (pad s).length = 16 * nb s := by
  unfold pad nb; rw [List.length_append, List.length_replicate]; omega
theorem blk_eq {s : List UInt8} {j : Nat} (h : 16 * j < s.length) : (s.drop (16 * j)).take 16 ++ List.replicate (16 - ((s.drop (16 * j)).take 16).length) 0 = blk s j := by
  unfold blk pad
  rw [List.drop_append_of_le_length (by omega), List.take_append, List.take_replicate, List.length_take, List.length_drop]
  congr 2
  unfold nb
  omega
theorem blk_length {s : List UInt8} {j : Nat} (h : j < nb s) : (blk s j).length = 16 := by
  unfold blk; rw [List.length_take, List.length_drop, pad_length]; omega
theorem blks_succ (s : List UInt8) (j : Nat) : blks s (j + 1) = blks s j ++ [blk s j] := by simp [blks, List.range_succ]
theorem blks_length (s : List UInt8) (j : Nat) : (blks s j).length = j := by simp [blks]
theorem bks_length (s : List UInt8) : (bks s).length = nb s := blks_length _ _
theorem bks_16 {s x : List UInt8} (h : x ∈ bks s) : x.length = 16 := by
  obtain ⟨j, hj, rfl⟩ := List.mem_map.1 h
  exact blk_length (List.mem_range.1 hj)
theorem lst_length (a b : List UInt8) : (lst a b).length = 16 := rfl
theorem BL_16 {a b x : List UInt8} (h : x ∈ BL a b) : x.length = 16 := by
  unfold BL at h
  rcases List.mem_append.1 h with h | h
  · rcases List.mem_append.1 h with h | h
    · exact bks_16 h
    · exact bks_16 h
  · rw [List.mem_singleton.1 h]; rfl
theorem BL_length (a b : List UInt8) : (BL a b).length = nb a + nb b + 1 := by
  unfold BL; rw [List.length_append, List.length_append, bks_length, bks_length]; rfl
theorem t16 (x : List UInt8) : List.take (if (16 : Int) < (x.length : Int) then (16 : Int) else (x.length : Int)).toNat x = x.take 16 := take_if 16 x
theorem d16 (x : List UInt8) : List.drop (if (16 : Int) < (x.length : Int) then (16 : Int) else (x.length : Int)).toNat x = x.drop 16 := by
  by_cases h : (16 : Int) < (x.length : Int)
  · rw [if_pos h]; rfl
  · rw [if_neg h, Int.toNat_natCast, List.drop_eq_nil_of_le (Nat.le_refl _), List.drop_eq_nil_of_le (by omega)]
theorem rep0 (n : Nat) : repeatN [0] n = List.replicate n 0 := by
  induction n with
  | zero => rfl
  | succ n ih => rw [repeatN, ih]; rfl
theorem g41 (k : Nat) {m : Nat} (hm : m ≤ 16) : F41 k [0] (m : Int) = some (List.replicate m 0) := by
  unfold F41
  rw [gp (by rw [Int.toNat_natCast]; simp only [List.length_cons, List.length_nil]; unfold maxBld; omega), Int.toNat_natCast, rep0]
theorem u64_len {s : List UInt8} (h : s.length ≤ 80) : IntKind.u64.wrap (IntKind.u64.wrap (s.length : Int) * 8) = ((lw8 s).toNat : Int) := by
  unfold lw8
  rw [wu (n := (s.length : Int)) (by omega) (by omega), wu (by omega) (by omega), BitVec.toNat_ofNat, Nat.mod_eq_of_lt (by omega)]; omega
theorem u64_len' {s : List UInt8} (h : s.length ≤ 80) : IntKind.u64.wrap (8 * IntKind.u64.wrap (s.length : Int)) = ((lw8 s).toNat : Int) := by
  rw [Int.mul_comm]; exact u64_len h
theorem L29a {k : Nat} {s : List UInt8} (hs : s.length ≤ 80) {p : List V} (hp : p.length ≤ 100) : ∀ (c j f : Nat), nb s - j = c → j ≤ nb s → c < f →
    L29_0 k f (s.drop (16 * j)) (p ++ (blks s j).map V.str) = some (.e0 [] (p ++ (bks s).map V.str)) := by
  have hnb : nb s = (s.length + 15) / 16 := rfl
  intro c
  induction c with
  | zero =>
    intro j f hc hj hf
    obtain ⟨f, rfl⟩ : ∃ y, f = y + 1 := ⟨f - 1, by omega⟩
    rw [L29_0, List.drop_eq_nil_of_le (by omega), cNT rfl, show j = nb s by omega]
    rfl
  | succ c ih =>
    intro j f hc hj hf
    obtain ⟨f, rfl⟩ : ∃ y, f = y + 1 := ⟨f - 1, by omega⟩
    have h16 : 16 * j < s.length := by omega
    have e := ih (j + 1) f (by omega) (by omega) (by omega)
    have hne : s.drop (16 * j) ≠ [] := fun h => by have := congrArg List.length h; rw [List.length_drop] at this; simp at this; omega
    have hl : ((s.drop (16 * j)).take 16).length ≤ 16 := by rw [List.length_take]; omega
    rw [L29_0, cNF hne, gp (by omega), t16, d16, wi (n := 16 - _) (by omega) (by omega), show (16 : Int) - (((s.drop (16 * j)).take 16).length : Int) = ((16 - ((s.drop (16 * j)).take 16).length : Nat) : Int) by omega, g41 _ (by omega), Option.bind_some,
      gp (by rw [List.length_replicate]; unfold maxText; omega), gp (by rw [List.length_append, List.length_map, blks_length]; unfold maxLen'; omega), blk_eq h16, List.drop_drop, List.append_assoc]
    rw [show 16 * j + 16 = 16 * (j + 1) by omega, show (blks s j).map V.str ++ [V.str (blk s j)] = (blks s (j + 1)).map V.str by rw [blks_succ, List.map_append]; rfl]
    exact e
theorem L29b {k : Nat} {a b s : List UInt8} (hs : s.length ≤ 80) {p : List V} (hp : p.length ≤ 100) : ∀ (c j f : Nat), nb s - j = c → j ≤ nb s → c < f →
    L29_1 k a b f (s.drop (16 * j)) (p ++ (blks s j).map V.str) = some (.e0 [] (p ++ (bks s).map V.str)) := by
  have hnb : nb s = (s.length + 15) / 16 := rfl
  intro c
  induction c with
  | zero =>
    intro j f hc hj hf
    obtain ⟨f, rfl⟩ : ∃ y, f = y + 1 := ⟨f - 1, by omega⟩
    rw [L29_1, List.drop_eq_nil_of_le (by omega), cNT rfl, show j = nb s by omega]
    rfl
  | succ c ih =>
    intro j f hc hj hf
    obtain ⟨f, rfl⟩ : ∃ y, f = y + 1 := ⟨f - 1, by omega⟩
    have h16 : 16 * j < s.length := by omega
    have e := ih (j + 1) f (by omega) (by omega) (by omega)
    have hne : s.drop (16 * j) ≠ [] := fun h => by have := congrArg List.length h; rw [List.length_drop] at this; simp at this; omega
    have hl : ((s.drop (16 * j)).take 16).length ≤ 16 := by rw [List.length_take]; omega
    rw [L29_1, cNF hne, gp (by omega), t16, d16, wi (n := 16 - _) (by omega) (by omega), show (16 : Int) - (((s.drop (16 * j)).take 16).length : Int) = ((16 - ((s.drop (16 * j)).take 16).length : Nat) : Int) by omega, g41 _ (by omega), Option.bind_some,
      gp (by rw [List.length_replicate]; unfold maxText; omega), gp (by rw [List.length_append, List.length_map, blks_length]; unfold maxLen'; omega), blk_eq h16, List.drop_drop, List.append_assoc]
    rw [show 16 * j + 16 = 16 * (j + 1) by omega, show (blks s j).map V.str ++ [V.str (blk s j)] = (blks s (j + 1)).map V.str by rw [blks_succ, List.map_append]; rfl]
    exact e
theorem g29 {k : Nat} {a b : List UInt8} (ha : a.length ≤ 80) (hb : b.length ≤ 80) : F29 k a b = some (none, false, 1, (BL a b).map V.str) := by
  unfold F29
  have hna : nb a ≤ 5 := by unfold nb; omega
  have hnb : nb b ≤ 5 := by unfold nb; omega
  have e1 := L29a (k := k) ha (p := []) (by simp) (nb a) 0 (k + 11) (by omega) (by omega) (by omega)
  have e2 := L29b (k := k) (a := a) (b := b) hb (p := (bks a).map V.str) (by rw [List.length_map, bks_length]; omega) (nb b) 0 (k + 13) (by omega) (by omega) (by omega)
  simp only [Nat.mul_zero, List.drop_zero, List.nil_append, show ∀ s, blks s 0 = [] from fun _ => rfl, List.map_nil, List.append_nil] at e1 e2
  rw [e1, Option.bind_some]
  simp only
  rw [e2, Option.bind_some]
  simp only
  rw [u64_len ha, u64_len hb, g54, Option.bind_some, g54, Option.bind_some, gp (by show 16 ≤ maxText; unfold maxText; omega), gp (by rw [List.length_append, List.length_map, List.length_map, bks_length, bks_length]; unfold maxLen'; omega)]
  unfold BL lst
  rw [List.map_append, List.map_append]; rfl

/-! ### The reference's -/
theorem padm {s : List UInt8} {m : Nat} (h : s.length + m = 16 * nb s) : s ++ List.replicate m 0 = pad s := by
  unfold pad; congr 2; omega
theorem L30a {k : Nat} {s : List UInt8} (hs : s.length ≤ 80) : ∀ (c m f : Nat), s.length + m + c = 16 * nb s → c < f → L30_0 k f (s ++ List.replicate m 0) = some (.e0 (pad s)) := by
  have hnb : nb s = (s.length + 15) / 16 := rfl
  intro c
  induction c with
  | zero =>
    intro m f hc hf
    obtain ⟨f, rfl⟩ : ∃ y, f = y + 1 := ⟨f - 1, by omega⟩
    rw [padm (by omega), L30_0, pad_length, show (16 : Int) = ((16 : Nat) : Int) from rfl, tm (by omega), cNT (by omega)]
  | succ c ih =>
    intro m f hc hf
    obtain ⟨f, rfl⟩ : ∃ y, f = y + 1 := ⟨f - 1, by omega⟩
    have e := ih (m + 1) f (by omega) (by omega)
    rw [List.replicate_succ', ← List.append_assoc] at e
    rw [L30_0]
    have hl : (s ++ List.replicate m (0 : UInt8)).length = s.length + m := by rw [List.length_append, List.length_replicate]
    rw [hl, show (16 : Int) = ((16 : Nat) : Int) from rfl, tm (by omega), cNF (by omega), gp (by simp only [List.length_cons, List.length_nil]; unfold maxText; omega)]
    exact e
theorem L30c {k : Nat} {x : List V} {s : List UInt8} (hs : s.length ≤ 80) : ∀ (c m f : Nat), s.length + m + c = 16 * nb s → c < f → L30_2 k x f (s ++ List.replicate m 0) = some (.e0 (pad s)) := by
  have hnb : nb s = (s.length + 15) / 16 := rfl
  intro c
  induction c with
  | zero =>
    intro m f hc hf
    obtain ⟨f, rfl⟩ : ∃ y, f = y + 1 := ⟨f - 1, by omega⟩
    rw [padm (by omega), L30_2, pad_length, show (16 : Int) = ((16 : Nat) : Int) from rfl, tm (by omega), cNT (by omega)]
  | succ c ih =>
    intro m f hc hf
    obtain ⟨f, rfl⟩ : ∃ y, f = y + 1 := ⟨f - 1, by omega⟩
    have e := ih (m + 1) f (by omega) (by omega)
    rw [List.replicate_succ', ← List.append_assoc] at e
    rw [L30_2]
    have hl : (s ++ List.replicate m (0 : UInt8)).length = s.length + m := by rw [List.length_append, List.length_replicate]
    rw [hl, show (16 : Int) = ((16 : Nat) : Int) from rfl, tm (by omega), cNF (by omega), gp (by simp only [List.length_cons, List.length_nil]; unfold maxText; omega)]
    exact e
theorem cut16 (s : List UInt8) (j : Nat) : List.drop (16 * j) (List.take (16 * j + 16) (pad s)) = blk s j := by
  unfold blk; rw [List.drop_take, show 16 * j + 16 - 16 * j = 16 by omega]
theorem L30b {k : Nat} {s : List UInt8} (hs : s.length ≤ 80) : ∀ (c j f : Nat), nb s - j = c → j ≤ nb s → c < f → ∃ z, L30_1 k (pad s) f ((16 * j : Nat) : Int) ((blks s j).map V.str) = some (.e0 z ((bks s).map V.str)) := by
  have hnb : nb s = (s.length + 15) / 16 := rfl
  intro c
  induction c with
  | zero =>
    intro j f hc hj hf
    obtain ⟨f, rfl⟩ : ∃ y, f = y + 1 := ⟨f - 1, by omega⟩
    rw [L30_1, pad_length, cF (by omega), show j = nb s by omega]
    exact ⟨_, rfl⟩
  | succ c ih =>
    intro j f hc hj hf
    obtain ⟨f, rfl⟩ : ∃ y, f = y + 1 := ⟨f - 1, by omega⟩
    obtain ⟨z, e⟩ := ih (j + 1) f (by omega) (by omega) (by omega)
    refine ⟨z, ?_⟩
    rw [L30_1, pad_length, cT (by omega), wi (n := _ + 16) (by omega) (by omega), gp (by omega), gp (by rw [List.length_map, blks_length]; unfold maxLen'; omega),
      show ((16 * j : Nat) : Int) + 16 = ((16 * (j + 1) : Nat) : Int) by omega, Int.toNat_natCast, Int.toNat_natCast, show 16 * (j + 1) = 16 * j + 16 by omega, cut16, show (blks s j).map V.str ++ [V.str (blk s j)] = (blks s (j + 1)).map V.str by rw [blks_succ, List.map_append]; rfl]
    exact e
theorem L30d {k : Nat} {x : List V} {s : List UInt8} (hs : s.length ≤ 80) : ∀ (c j f : Nat), nb s - j = c → j ≤ nb s → c < f → ∃ z, L30_3 k (pad s) x f ((16 * j : Nat) : Int) ((blks s j).map V.str) = some (.e0 z ((bks s).map V.str)) := by
  have hnb : nb s = (s.length + 15) / 16 := rfl
  intro c
  induction c with
  | zero =>
    intro j f hc hj hf
    obtain ⟨f, rfl⟩ : ∃ y, f = y + 1 := ⟨f - 1, by omega⟩
    rw [L30_3, pad_length, cF (by omega), show j = nb s by omega]
    exact ⟨_, rfl⟩
  | succ c ih =>
    intro j f hc hj hf
    obtain ⟨f, rfl⟩ : ∃ y, f = y + 1 := ⟨f - 1, by omega⟩
    obtain ⟨z, e⟩ := ih (j + 1) f (by omega) (by omega) (by omega)
    refine ⟨z, ?_⟩
    rw [L30_3, pad_length, cT (by omega), wi (n := _ + 16) (by omega) (by omega), gp (by omega), gp (by rw [List.length_map, blks_length]; unfold maxLen'; omega),
      show ((16 * j : Nat) : Int) + 16 = ((16 * (j + 1) : Nat) : Int) by omega, Int.toNat_natCast, Int.toNat_natCast, show 16 * (j + 1) = 16 * j + 16 by omega, cut16, show (blks s j).map V.str ++ [V.str (blk s j)] = (blks s (j + 1)).map V.str by rw [blks_succ, List.map_append]; rfl]
    exact e
def hby (w : Wd) (j : Nat) : UInt8 := UInt8.ofNat (w.toNat / 256 ^ j)
def hiN (w : Wd) : Nat → List UInt8
  | 0 => []
  | i + 1 => hby w i :: hiN w i
theorem hiN_8 (w : Wd) : hiN w 8 = by54 w := by
  simp only [hiN, hby, by54, BitVec.toNat_ushiftRight, Nat.shiftRight_eq_div_pow]
theorem hiN_length (w : Wd) (i : Nat) : (hiN w i).length = i := by
  induction i with
  | zero => rfl
  | succ i ih => rw [hiN, List.length_cons, ih]
theorem L56_run {k : Nat} {w : Wd} : ∀ (c i f : Nat), 8 - i = c → i ≤ 8 → c < f → ∃ x y, L56_0 k f ((w.toNat / 256 ^ i : Nat) : Int) (hiN w i) (i : Int) = some (.e0 x y (hiN w 8)) := by
  intro c
  induction c with
  | zero =>
    intro i f hc hi hf
    obtain ⟨f, rfl⟩ : ∃ y, f = y + 1 := ⟨f - 1, by omega⟩
    rw [L56_0, cF (by omega), show i = 8 by omega]
    exact ⟨_, _, rfl⟩
  | succ c ih =>
    intro i f hc hi hf
    obtain ⟨f, rfl⟩ : ∃ y, f = y + 1 := ⟨f - 1, by omega⟩
    obtain ⟨x, y, h⟩ := ih (i + 1) f (by omega) (by omega) (by omega)
    refine ⟨x, y, ?_⟩
    have hlt : w.toNat / 256 ^ i < 18446744073709551616 := Nat.lt_of_le_of_lt (Nat.div_le_self _ _) w.isLt
    have e1 : IntKind.u64.wrap (((w.toNat / 256 ^ i : Nat) : Int).tdiv 256) = ((w.toNat / 256 ^ (i + 1) : Nat) : Int) := by
      rw [Nat.pow_succ, ← Nat.div_div_eq_div_mul]
      generalize w.toNat / 256 ^ i = y at hlt
      rw [show (256 : Int) = ((256 : Nat) : Int) from rfl, td (by omega), wu (by omega) (by omega)]
      omega
    have e2 : List.map Sym.byteOf ((1 : Nat), [V.int IntKind.u8 (IntKind.u8.wrap (((w.toNat / 256 ^ i : Nat) : Int).tmod 256))]).snd = [hby w i] := by
      unfold hby
      generalize w.toNat / 256 ^ i = y at hlt
      rw [show (256 : Int) = ((256 : Nat) : Int) from rfl, tm (by omega), wb_mod]
      simp only [List.map_cons, List.map_nil, Sym.byteOf]
      congr 1
      apply UInt8.toNat_inj.1
      rw [UInt8.toNat_ofNat', UInt8.toNat_ofNat']
      omega
    rw [L56_0, cT (by omega), e1, e2, wi (n := (i : Int) + 1) (by omega) (by omega), show (i : Int) + 1 = ((i + 1 : Nat) : Int) by omega, gp (by rw [hiN_length]; simp only [List.length_cons, List.length_nil]; unfold maxText; omega)]
    exact h
theorem g56 {k : Nat} {w : Wd} (hk : 10 ≤ k) : F56 k (w.toNat : Int) = some (by54 w) := by
  unfold F56
  obtain ⟨x, y, h⟩ := L56_run (k := k) (w := w) 8 0 (k + 2) (by omega) (by omega) (by omega)
  rw [Nat.pow_zero, Nat.div_one, show hiN w 0 = [] from rfl, show ((0 : Nat) : Int) = 0 from rfl] at h
  rw [h, hiN_8]; rfl
theorem g30 {k : Nat} {a b : List UInt8} (ha : a.length ≤ 80) (hb : b.length ≤ 80) (hk : 100 ≤ k) : F30 k a b = some (none, false, 1, (BL a b).map V.str) := by
  unfold F30
  have hna : nb a ≤ 5 := by unfold nb; omega
  have hnb : nb b ≤ 5 := by unfold nb; omega
  have pa : a.length ≤ 16 * nb a := by unfold nb; omega
  have pb : b.length ≤ 16 * nb b := by unfold nb; omega
  have e1 := L30a (k := k) ha (16 * nb a - a.length) 0 (k + 4) (by omega) (by omega)
  obtain ⟨z2, e2⟩ := L30b (k := k) ha (nb a) 0 (k + 4) (by omega) (by omega) (by omega)
  have e3 := L30c (k := k) (x := (bks a).map V.str) hb (16 * nb b - b.length) 0 (k + 4) (by omega) (by omega)
  obtain ⟨z4, e4⟩ := L30d (k := k) (x := (bks a).map V.str) hb (nb b) 0 (k + 4) (by omega) (by omega) (by omega)
  rw [List.replicate_zero, List.append_nil] at e1 e3
  simp only [Nat.mul_zero, show ∀ s, blks s 0 = [] from fun _ => rfl, List.map_nil] at e2 e4
  rw [e1, Option.bind_some]
  simp only
  rw [show (0 : Int) = ((0 : Nat) : Int) from rfl, e2, Option.bind_some]
  simp only
  rw [e3, Option.bind_some]
  simp only
  rw [e4, Option.bind_some]
  simp only
  rw [gp (by rw [List.length_map, List.length_map, bks_length, bks_length]; unfold maxLen'; omega), u64_len' ha, u64_len' hb, g56 (by omega), Option.bind_some, g56 (by omega), Option.bind_some, gp (by show 16 ≤ maxText; unfold maxText; omega), gp (by rw [List.length_append, List.length_map, List.length_map, bks_length, bks_length]; unfold maxLen'; omega)]
  unfold BL lst
  rw [List.map_append, List.map_append]; rfl

/-! ### 28: the same rows -/
theorem at_str {l : List (List UInt8)} {i : Nat} (h : i < l.length) : (at? (l.map V.str) (i : Int)).bind dS = some l[i] := by
  rw [at_map h]; rfl
def is28 : L28_0_R → Bool
  | .e0 _ => false
  | .e1 _ => true
theorem drop_same {l m : List (List UInt8)} {i : Nat} (h : i < l.length) (h2 : i < m.length) : decide (l.drop i = m.drop i) = (decide (l[i] = m[i]) && decide (l.drop (i + 1) = m.drop (i + 1))) := by
  rw [List.drop_eq_getElem_cons h, List.drop_eq_getElem_cons h2, Bool.eq_iff_iff, Bool.and_eq_true, decide_eq_true_iff, decide_eq_true_iff, decide_eq_true_iff, List.cons.injEq]
theorem L28_run {k : Nat} {b c : Bool} {o p : Option Bool} {l m : List (List UInt8)} (hl : l.length ≤ 1000) (hlm : l.length = m.length) : ∀ (n i f : Nat), l.length - i = n → i ≤ l.length → n < f →
    ∃ r, L28_0 k b c (l.map V.str) (m.map V.str) o p 1 1 f (i : Int) = some r ∧ is28 r = decide (l.drop i = m.drop i) := by
  intro n
  induction n with
  | zero =>
    intro i f hc hi hf
    obtain ⟨f, rfl⟩ : ∃ y, f = y + 1 := ⟨f - 1, by omega⟩
    rw [L28_0, List.length_map, cF (by omega), List.drop_eq_nil_of_le (by omega), List.drop_eq_nil_of_le (by omega)]
    exact ⟨_, rfl, rfl⟩
  | succ n ih =>
    intro i f hc hi hf
    obtain ⟨f, rfl⟩ : ∃ y, f = y + 1 := ⟨f - 1, by omega⟩
    have h1 : i < l.length := by omega
    have h2 : i < m.length := by omega
    obtain ⟨r, hr, hs⟩ := ih (i + 1) f (by omega) (by omega) (by omega)
    rw [L28_0, List.length_map, cT (by omega), gp rfl, at_str h1, Option.bind_some, gp rfl, at_str h2, Option.bind_some, drop_same h1 h2]
    by_cases h : l[i] = m[i]
    · rw [cNT h, wi (n := (i : Int) + 1) (by omega) (by omega), show (i : Int) + 1 = ((i + 1 : Nat) : Int) by omega, hr, dec_t h, Bool.true_and]
      exact ⟨r, rfl, hs⟩
    · rw [cNF h, dec_f h]
      exact ⟨_, rfl, rfl⟩
theorem g28 {k : Nat} {b c : Bool} {o p : Option Bool} {l m : List (List UInt8)} (hl : l.length ≤ 50) (hk : 100 ≤ k) : F28 k o b 1 (l.map V.str) p c 1 (m.map V.str) = some (decide (l = m)) := by
  unfold F28
  rw [List.length_map, List.length_map]
  by_cases h : l.length = m.length
  · rw [cNT (by omega)]
    obtain ⟨r, hr, hs⟩ := L28_run (k := k) (b := b) (c := c) (o := o) (p := p) (l := l) (m := m) (by omega) h l.length 0 (k + 2) (by omega) (by omega) (by omega)
    rw [show ((0 : Nat) : Int) = 0 from rfl] at hr
    rw [hr, Option.bind_some]
    rw [List.drop_zero, List.drop_zero] at hs
    rw [← hs]
    cases r <;> rfl
  · rw [cNF (by omega), dec_f (fun e => h (by rw [e]))]
end Go.Proofs
