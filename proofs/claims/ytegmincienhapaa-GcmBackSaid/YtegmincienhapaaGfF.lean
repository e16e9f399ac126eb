/- DERIVED. Texts as blocks of sixteen bytes; what the functions that make them answer. -/
import Derived.Test.YtegmincienhapaaGhC
import Derived.Test.YtegmincienhapaaGfE
set_option linter.unusedVariables false
set_option linter.unusedSimpArgs false
set_option maxRecDepth 100000
namespace Go.Proofs
open Go Go.Sym Go.Sym.Gf

def nb (s : List UInt8) : Nat := (s.length + 15) / 16
def pad (s : List UInt8) : List UInt8 := s ++ List.replicate (16 * nb s - s.length) 0
def blk (s : List UInt8) (j : Nat) : List UInt8 := ((pad s).drop (16 * j)).take 16
def blks (s : List UInt8) (n : Nat) : List (List UInt8) := (List.range n).map (blk s)
def bks (s : List UInt8) : List (List UInt8) := blks s (nb s)
def lw8 (s : List UInt8) : Wd := BitVec.ofNat 64 (8 * s.length)
def lst (a b : List UInt8) : List UInt8 := by54 (lw8 a) ++ by54 (lw8 b)
def BL (a b : List UInt8) : List (List UInt8) := bks a ++ bks b ++ [lst a b]
theorem pad_length (s : List UInt8) : (pad s).length = 16 * nb s := by
  unfold pad nb; rw [List.length_append, List.length_replicate]; omega
theorem blk_eq {s : List UInt8} {j : Nat} (h : 16 * j < s.length) : (s.drop (16 * j)).take 16 ++ List.replicate (16 - ((s.drop (16 * j)).take 16).length) 0 = blk s j := by
  unfold blk pad
  rw [List.drop_append_of_le_length (by omega), List.take_append, List.take_replicate, List.length_take, List.length_drop]
  congr 2
  unfold nb
  omega
theorem blk_length {s : List UInt8} {j : Nat} (h : j < nb s) : (blk s j).length = 16 := by
  unfold blk; rw [List.length_take, List.length_drop, pad_length]; omega
theorem blks_succ (s : List UInt8) (j : Nat) : blks s (j + 1) = blks s j ++ [blk s j] := by simp [blks, List.range_succ]
theorem blks_length (s : List UInt8) (j : Nat) : (blks s j).length = j := by simp [blks]
theorem bks_length (s : List UInt8) : (bks s).length = nb s := blks_length _ _
theorem bks_16 {s x : List UInt8} (h : x ∈ bks s) : x.length = 16 := by
  obtain ⟨j, hj, rfl⟩ := List.mem_map.1 h
  exact blk_length (List.mem_range.1 hj)
theorem BL_16 {a b x : List UInt8} (h : x ∈ BL a b) : x.length = 16 := by
  unfold BL at h
  rcases List.mem_append.1 h with h | h
  · rcases List.mem_append.1 h with h | h
    · exact bks_16 h
    · exact bks_16 h
  · rw [List.mem_singleton.1 h]; rfl
theorem BL_length (a b : List UInt8) : (BL a b).length = nb a + nb b + 1 := by
  unfold BL; rw [List.length_append, List.length_append, bks_length, bks_length]; rfl
theorem t16 (x : List UInt8) : List.take (if (16 : Int) < (x.length : Int) then (16 : Int) else (x.length : Int)).toNat x = x.take 16 := take_if 16 x
theorem d16 (x : List UInt8) : List.drop (if (16 : Int) < (x.length : Int) then (16 : Int) else (x.length : Int)).toNat x = x.drop 16 := by
  by_cases h : (16 : Int) < (x.length : Int)
  · rw [if_pos h]; rfl
  · rw [if_neg h, Int.toNat_natCast, List.drop_eq_nil_of_le (Nat.le_refl _), List.drop_eq_nil_of_le (by omega)]
theorem rep0 (n : Nat) : repeatN [0] n = List.replicate n 0 := by
  induction n with
  | zero => rfl
  | succ n ih => rw [repeatN, ih]; rfl
theorem g41 (k : Nat) {m : Nat} (hm : m ≤ 16) : F41 k [0] (m : Int) = some (List.replicate m 0) := by
  unfold F41
  rw [gp (by rw [Int.toNat_natCast]; simp only [List.length_cons, List.length_nil]; unfold maxBld; omega), Int.toNat_natCast, rep0]
theorem u64_len {s : List UInt8} (h : s.length ≤ 80) : IntKind.u64.wrap (IntKind.u64.wrap (s.length : Int) * 8) = ((lw8 s).toNat : Int) := by
  unfold lw8
  rw [wu (n := (s.length : Int)) (by omega) (by omega), wu (by omega) (by omega), BitVec.toNat_ofNat, Nat.mod_eq_of_lt (by omega)]; omega
theorem L29a {k : Nat} {s : List UInt8} (hs : s.length ≤ 80) {p : List V} (hp : p.length ≤ 100) : ∀ (c j f : Nat), nb s - j = c → j ≤ nb s → c < f →
    L29_0 k f (s.drop (16 * j)) (p ++ (blks s j).map V.str) = some (.e0 [] (p ++ (bks s).map V.str)) := by
  have hnb : nb s = (s.length + 15) / 16 := rfl
  intro c
  induction c with
  | zero =>
    intro j f hc hj hf
    obtain ⟨f, rfl⟩ : ∃ y, f = y + 1 := ⟨f - 1, by omega⟩
    rw [L29_0, List.drop_eq_nil_of_le (by omega), cNT rfl, show j = nb s by omega]
    rfl
  | succ c ih =>
    intro j f hc hj hf
    obtain ⟨f, rfl⟩ : ∃ y, f = y + 1 := ⟨f - 1, by omega⟩
    have h16 : 16 * j < s.length := by omega
    have e := ih (j + 1) f (by omega) (by omega) (by omega)
    have hne : s.drop (16 * j) ≠ [] := fun h => by have := congrArg List.length h; rw [List.length_drop] at this; simp at this; omega
    have hl : ((s.drop (16 * j)).take 16).length ≤ 16 := by rw [List.length_take]; omega
    rw [L29_0, cNF hne, gp (by omega), t16, d16, wi (n := 16 - _) (by omega) (by omega), show (16 : Int) - (((s.drop (16 * j)).take 16).length : Int) = ((16 - ((s.drop (16 * j)).take 16).length : Nat) : Int) by omega, g41 _ (by omega), Option.bind_some,
      gp (by rw [List.length_replicate]; unfold maxText; omega), gp (by rw [List.length_append, List.length_map, blks_length]; unfold maxLen'; omega), blk_eq h16, List.drop_drop, List.append_assoc]
    rw [show 16 * j + 16 = 16 * (j + 1) by omega, show (blks s j).map V.str ++ [V.str (blk s j)] = (blks s (j + 1)).map V.str by rw [blks_succ, List.map_append]; rfl]
    exact e
theorem L29b {k : Nat} {a b s : List UInt8} (hs : s.length ≤ 80) {p : List V} (hp : p.length ≤ 100) : ∀ (c j f : Nat), nb s - j = c → j ≤ nb s → c < f →
    L29_1 k a b f (s.drop (16 * j)) (p ++ (blks s j).map V.str) = some (.e0 [] (p ++ (bks s).map V.str)) := by
  have hnb : nb s = (s.length + 15) / 16 := rfl
  intro c
  induction c with
  | zero =>
    intro j f hc hj hf
    obtain ⟨f, rfl⟩ : ∃ y, f = y + 1 := ⟨f - 1, by omega⟩
    rw [L29_1, List.drop_eq_nil_of_le (by omega), cNT rfl, show j = nb s by omega]
    rfl
  | succ c ih =>
    intro j f hc hj hf
    obtain ⟨f, rfl⟩ : ∃ y, f = y + 1 := ⟨f - 1, by omega⟩
    have h16 : 16 * j < s.length := by omega
    have e := ih (j + 1) f (by omega) (by omega) (by omega)
    have hne : s.drop (16 * j) ≠ [] := fun h => by have := congrArg List.length h; rw [List.length_drop] at this; simp at this; omega
    have hl : ((s.drop (16 * j)).take 16).length ≤ 16 := by rw [List.length_take]; omega
    rw [L29_1, cNF hne, gp (by omega), t16, d16, wi (n := 16 - _) (by omega) (by omega), show (16 : Int) - (((s.drop (16 * j)).take 16).length : Int) = ((16 - ((s.drop (16 * j)).take 16).length : Nat) : Int) by omega, g41 _ (by omega), Option.bind_some,
      gp (by rw [List.length_replicate]; unfold maxText; omega), gp (by rw [List.length_append, List.length_map, blks_length]; unfold maxLen'; omega), blk_eq h16, List.drop_drop, List.append_assoc]
    rw [show 16 * j + 16 = 16 * (j + 1) by omega, show (blks s j).map V.str ++ [V.str (blk s j)] = (blks s (j + 1)).map V.str by rw [blks_succ, List.map_append]; rfl]
    exact e
theorem g29 {k : Nat} {a b : List UInt8} (ha : a.length ≤ 80) (hb : b.length ≤ 80) : F29 k a b = some (none, false, 1, (BL a b).map V.str) := by
  unfold F29
  have hna : nb a ≤ 5 := by unfold nb; omega
  have hnb : nb b ≤ 5 := by unfold nb; omega
  have e1 := L29a (k := k) ha (p := []) (by simp) (nb a) 0 (k + 11) (by omega) (by omega) (by omega)
  have e2 := L29b (k := k) (a := a) (b := b) hb (p := (bks a).map V.str) (by rw [List.length_map, bks_length]; omega) (nb b) 0 (k + 13) (by omega) (by omega) (by omega)
  simp only [Nat.mul_zero, List.drop_zero, List.nil_append, show ∀ s, blks s 0 = [] from fun _ => rfl, List.map_nil, List.append_nil] at e1 e2
  rw [e1, Option.bind_some]
  simp only
  rw [e2, Option.bind_some]
  simp only
  rw [u64_len ha, u64_len hb, g54, Option.bind_some, g54, Option.bind_some, gp (by show 16 ≤ maxText; unfold maxText; omega), gp (by rw [List.length_append, List.length_map, List.length_map, bks_length, bks_length]; unfold maxLen'; omega)]
  unfold BL lst
  rw [List.map_append, List.map_append]; rfl

def hby (w : Wd) (j : Nat) : UInt8 := UInt8.ofNat (w.toNat / 256 ^ j)
def hiN (w : Wd) : Nat → List UInt8
  | 0 => []
  | i + 1 => hby w i :: hiN w i
theorem at_str {l : List (List UInt8)} {i : Nat} (h : i < l.length) : (at? (l.map V.str) (i : Int)).bind dS = some l[i] := by
  rw [at_map h]; rfl
def is28 : L28_0_R → Bool
  | .e0 _ => false
  | .e1 _ => true
end Go.Proofs
