/-
  model.Discard and model.Zero, plainly; what the model answers is the reference's answer.
-/
import Derived.Test.YtfjloeemhiffgaaMoD
set_option linter.unusedVariables false
set_option linter.unusedSimpArgs false
set_option maxRecDepth 100000
namespace Go.Proofs.Mo
open Go Go.Sym

def splice (B T : List UInt8) (p q : Nat) : List UInt8 := B.take p ++ T ++ B.drop q
theorem splice_get {B T : List UInt8} {p q : Nat} (hp : p ≤ q) (hq : q ≤ B.length) (hT : T.length = q - p) (i : Nat) : (splice B T p q)[i]? = if i < p then B[i]? else if i < q then T[i - p]? else B[i]? := by
  unfold splice
  rw [List.append_assoc, List.getElem?_append, List.length_take, Nat.min_eq_left (by omega)]
  by_cases h1 : i < p
  · rw [if_pos h1, if_pos h1, List.getElem?_take_of_lt h1]
  · rw [if_neg h1, if_neg h1, List.getElem?_append, hT]
    by_cases h2 : i < q
    · rw [if_pos (by omega), if_pos h2]
    · rw [if_neg (by omega), if_neg h2, List.getElem?_drop]
      congr 1; omega
def newD (l : List Cl) (A Z : Nat) (m : Nat) : Cl :=
  if lo A m = 0 ∧ hi Z m = 32 then (m, 0, []) else if (cellAt l m).2.1 = 1 then (m, (cellAt l m).2.1, splice (cellAt l m).2.2 (zeros (hi Z m - lo A m)) (lo A m) (hi Z m)) else cellAt l m
def newZ (l : List Cl) (A Z : Nat) (m : Nat) : Cl :=
  if lo A m = 0 ∧ hi Z m = 32 then (m, (if (cellAt l m).2.1 = 1 then 2 else (cellAt l m).2.1), []) else if (cellAt l m).2.1 = 1 then (m, (cellAt l m).2.1, splice (cellAt l m).2.2 (zeros (hi Z m - lo A m)) (lo A m) (hi Z m)) else cellAt l m
theorem newD_n (l : List Cl) (A Z m : Nat) : (newD l A Z m).1 = m := by
  unfold newD; split
  · rfl
  · split
    · rfl
    · exact cellAt_n l m
theorem newZ_n (l : List Cl) (A Z m : Nat) : (newZ l A Z m).1 = m := by
  unfold newZ; split
  · rfl
  · split
    · rfl
    · exact cellAt_n l m
theorem and3 {p q : Prop} [Decidable p] [Decidable q] : (decide p && (decide q && true)) = decide (p ∧ q) := by
  rw [Bool.and_true, Bool.decide_and]

set_option maxHeartbeats 1000000 in
theorem L55_run {k A n : Nat} {q : Int} {b0 : Bool} {x0 : List V} {o0 : Option Bool} {n0 : Nat} {l : List Cl} (hr : right l = true) (h0 : 0 < n) (hn : n ≤ 224) (hA : A + n ≤ B64) (hk : 1100 ≤ k) :
    ∀ (c m f : Nat) (o1 : Option Bool) (b1 : Bool), (A + n - 1) / 32 + 1 - m = c → A / 32 ≤ m → m ≤ (A + n - 1) / 32 + 1 → c < f →
    ∃ z b' o', L55_0 k (A : Int) q ((A + n - 1 : Nat) : Int) b0 x0 o0 n0 f (m : Int) o1 b1 3 ((upto l (newD l A (A + n - 1)) (A / 32) m).map cl) = some (.e0 z b' ((upto l (newD l A (A + n - 1)) (A / 32) ((A + n - 1) / 32 + 1)).map cl) o' 3) := by
  obtain ⟨_, hinc, hlen⟩ := right_iff.1 hr
  unfold B64 at hA
  intro c
  induction c with
  | zero =>
    intro m f o1 b1 hc h1 h2 hf
    obtain ⟨f, rfl⟩ : ∃ y, f = y + 1 := ⟨f - 1, by omega⟩
    have : m = (A + n - 1) / 32 + 1 := by omega
    subst this
    rw [L55_0, eD (A := A + n - 1) (by unfold B64; omega), cF (by omega)]
    exact ⟨_, _, _, rfl⟩
  | succ c ih =>
    intro m f o1 b1 hc h1 h2 hf
    obtain ⟨f, rfl⟩ : ∃ y, f = y + 1 := ⟨f - 1, by omega⟩
    have hmz : m ≤ (A + n - 1) / 32 := by omega
    obtain ⟨hlh, h32⟩ := lo_hi (m := m) h0 h1 hmz
    have hul := upto_len l (newD l A (A + n - 1)) h1
    have hui := upto_inc (m := m) hinc (newD_n l A (A + n - 1)) h1
    have h98 : F98 (k + 0) o1 b1 3 ((upto l (newD l A (A + n - 1)) (A / 32) m).map cl) (m : Int) = some ((m : Int), (cellAt l m).2.1, (cellAt l m).2.2) := by
      rw [g98 hui (by omega) (by omega), upto_cell (newD_n l A (A + n - 1)) h1, if_neg (by omega), cellAt_n]
    have h115 := g115 (k := k + 0) (b := b1) (o := o1) (c := newD l A (A + n - 1) m) hui (by omega) (by omega)
    rw [upto_next (newD_n l A (A + n - 1)) h1, newD_n] at h115
    obtain ⟨z, b', o', hi'⟩ := ih (m + 1) f none false (by omega) (by omega) (by omega) (by omega)
    have hm1 : IntKind.u64.wrap ((m : Int) + 1) = ((m + 1 : Nat) : Int) := wn (by omega)
    refine ⟨z, b', o', ?_⟩
    have hdl : (cellAt l m).2.1 = 1 → (cellAt l m).2.2.length = 32 := fun h => len32 hr h
    have hz : ∀ x, (zeros x).length = x := fun x => List.length_replicate
    rw [← hi', L55_0, eD (A := A + n - 1) (by unfold B64; omega), eD (A := A) (by unfold B64; omega), cT (by omega), eM, eM, wp (x := (A + n - 1) % 32) (by omega), hm1]
    have hnd : newD l A (A + n - 1) m = if lo A m = 0 ∧ hi (A + n - 1) m = 32 then (m, 0, []) else if (cellAt l m).2.1 = 1 then (m, (cellAt l m).2.1, (cellAt l m).2.2.take (lo A m) ++ zeros (hi (A + n - 1) m - lo A m) ++ (cellAt l m).2.2.drop (hi (A + n - 1) m)) else cellAt l m := rfl
    rw [hnd] at h115
    by_cases e1 : m = A / 32
    · have elo : lo A m = A % 32 := if_pos e1
      by_cases e2 : m = (A + n - 1) / 32
      · have ehi : hi (A + n - 1) m = (A + n - 1) % 32 + 1 := if_pos e2
        rw [elo, ehi] at h115
        rw [elo, ehi] at hlh
        rw [cT (by omega), cT (by omega), h98, Option.bind_some]
        simp only
        rw [and3]
        by_cases hw : A % 32 = 0 ∧ (A + n - 1) % 32 + 1 = 32
        · rw [if_pos hw] at h115
          dsimp only at h115
          rw [cT (by omega), show F91 (k + 7) (m : Int) (cellAt l m).2.1 (cellAt l m).2.2 = some 0 from rfl, Option.bind_some, cNF (by decide), h115, Option.bind_some]
        · rw [if_neg hw] at h115
          rw [cF (by omega)]
          by_cases hs : (cellAt l m).2.1 = 1
          · rw [if_pos hs] at h115
            dsimp only at h115
            have := hdl hs
            rw [cT hs, gp (by omega), ws (by omega) (by omega), g59 rfl (by omega), Option.bind_some]
            simp only [Int.toNat_natCast]
            rw [gp (by rw [hz, List.length_take]; unfold maxText; omega), gp (by omega), gp (by rw [List.length_append, hz, List.length_take, List.length_drop]; unfold maxText; omega), h115, Option.bind_some]
          · rw [if_neg hs] at h115
            rw [cF hs, h115, Option.bind_some]
      · have ehi : hi (A + n - 1) m = 32 := if_neg e2
        rw [elo, ehi] at h115
        rw [elo, ehi] at hlh
        rw [cT (by omega), cF (by omega), h98, Option.bind_some]
        simp only
        rw [and3]
        by_cases hw : A % 32 = 0
        · rw [if_pos ⟨hw, rfl⟩] at h115
          dsimp only at h115
          rw [cT ⟨by omega, trivial⟩, show F91 (k + 7) (m : Int) (cellAt l m).2.1 (cellAt l m).2.2 = some 0 from rfl, Option.bind_some, cNF (by decide), h115, Option.bind_some]
        · rw [if_neg (fun h => hw h.1)] at h115
          rw [cF (fun h => hw (by omega))]
          by_cases hs : (cellAt l m).2.1 = 1
          · rw [if_pos hs] at h115
            dsimp only at h115
            have := hdl hs
            rw [cT hs, gp (by omega), show (32 : Int) = ((32 : Nat) : Int) from rfl, ws (by omega) (by omega), g59 rfl (by omega), Option.bind_some]
            simp only [Int.toNat_natCast]
            rw [gp (by rw [hz, List.length_take]; unfold maxText; omega), gp (by omega), gp (by rw [List.length_append, hz, List.length_take, List.length_drop]; unfold maxText; omega), h115, Option.bind_some]
          · rw [if_neg hs] at h115
            rw [cF hs, h115, Option.bind_some]
    · have elo : lo A m = 0 := if_neg e1
      by_cases e2 : m = (A + n - 1) / 32
      · have ehi : hi (A + n - 1) m = (A + n - 1) % 32 + 1 := if_pos e2
        rw [elo, ehi] at h115
        rw [elo, ehi] at hlh
        rw [cF (by omega), cT (by omega), h98, Option.bind_some]
        simp only
        rw [and3]
        by_cases hw : (A + n - 1) % 32 + 1 = 32
        · rw [if_pos ⟨rfl, hw⟩] at h115
          dsimp only at h115
          rw [cT ⟨trivial, by omega⟩, show F91 (k + 7) (m : Int) (cellAt l m).2.1 (cellAt l m).2.2 = some 0 from rfl, Option.bind_some, cNF (by decide), h115, Option.bind_some]
        · rw [if_neg (fun h => hw h.2)] at h115
          rw [cF (fun h => hw (by omega))]
          by_cases hs : (cellAt l m).2.1 = 1
          · rw [if_pos hs] at h115
            dsimp only at h115
            have := hdl hs
            rw [cT hs, show (0 : Int) = ((0 : Nat) : Int) from rfl, ws (by omega) (by omega), g59 rfl (by omega), Option.bind_some]
            simp only [Int.toNat_natCast, Nat.sub_zero, List.drop_zero] at h115 ⊢
            rw [gp (by rw [hz, List.length_take]; unfold maxText; omega), gp (by omega), gp (by rw [List.length_append, hz, List.length_take, List.length_drop]; unfold maxText; omega), h115, Option.bind_some]
          · rw [if_neg hs] at h115
            rw [cF hs, h115, Option.bind_some]
      · have ehi : hi (A + n - 1) m = 32 := if_neg e2
        rw [elo, ehi] at h115
        rw [cF (by omega), cF (by omega), h98, Option.bind_some]
        simp only
        rw [if_pos ⟨rfl, rfl⟩] at h115
        dsimp only at h115
        rw [show F91 (k + 7) (m : Int) (cellAt l m).2.1 (cellAt l m).2.2 = some 0 from rfl, Option.bind_some, cNF (by decide), h115, Option.bind_some]
def wantD (l : List Cl) (A n : Nat) : List Cl := upto l (newD l A (A + n - 1)) (A / 32) ((A + n - 1) / 32 + 1)
theorem g55 {k A n : Nat} {b : Bool} {o : Option Bool} {l : List Cl} (hl : l.length ≤ 1000) (hn : n < B64) (hA : A < B64) (hk : 1200 ≤ k) :
    ∃ o' b', F55 k o b 3 (l.map cl) (A : Int) (n : Int) = some (if why l A n = 0 then (o', b', 3, (wantD l A n).map cl, 0) else (some true, true, 0, [], why l A n)) := by
  unfold F55
  rw [g81 hl hA hn (by omega), Option.bind_some]
  by_cases hw : why l A n = 0
  · obtain ⟨hr, h0, hn', hAn⟩ := why_ok hw
    rw [cNT hw, g16 h0 hAn, Option.bind_some]
    simp only
    obtain ⟨_, hinc, _⟩ := right_iff.1 hr
    obtain ⟨z, b', o', hL⟩ := L55_run (k := k) (q := (n : Int)) (b0 := b) (x0 := l.map cl) (o0 := o) (n0 := 3) hr h0 hn' hAn (by omega) ((A + n - 1) / 32 + 1 - A / 32) (A / 32) (k + 13) o b rfl (Nat.le_refl _) (by omega) (by omega)
    rw [upto_first _ _ _ hinc] at hL
    rw [eD hA, hL, Option.bind_some]
    simp only
    exact ⟨o', b', by rw [if_pos hw]; rfl⟩
  · exact ⟨none, false, by rw [cNF hw, if_neg hw]⟩
theorem g94 {k : Nat} {a s : Int} {d : List UInt8} : F94 k a s d = some (if s = 1 then 2 else s) := by
  unfold F94
  by_cases h : s = 1
  · rw [cT h, if_pos h]
  · rw [cF h, if_neg h]
set_option maxHeartbeats 1000000 in
theorem L56_run {k A n : Nat} {q : Int} {b0 : Bool} {x0 : List V} {o0 : Option Bool} {n0 : Nat} {l : List Cl} (hr : right l = true) (h0 : 0 < n) (hn : n ≤ 224) (hA : A + n ≤ B64) (hk : 1100 ≤ k) :
    ∀ (c m f : Nat) (o1 : Option Bool) (b1 : Bool), (A + n - 1) / 32 + 1 - m = c → A / 32 ≤ m → m ≤ (A + n - 1) / 32 + 1 → c < f →
    ∃ z b' o', L56_0 k (A : Int) q ((A + n - 1 : Nat) : Int) b0 x0 o0 n0 f (m : Int) o1 b1 3 ((upto l (newZ l A (A + n - 1)) (A / 32) m).map cl) = some (.e0 z b' ((upto l (newZ l A (A + n - 1)) (A / 32) ((A + n - 1) / 32 + 1)).map cl) o' 3) := by
  obtain ⟨_, hinc, hlen⟩ := right_iff.1 hr
  unfold B64 at hA
  intro c
  induction c with
  | zero =>
    intro m f o1 b1 hc h1 h2 hf
    obtain ⟨f, rfl⟩ : ∃ y, f = y + 1 := ⟨f - 1, by omega⟩
    have : m = (A + n - 1) / 32 + 1 := by omega
    subst this
    rw [L56_0, eD (A := A + n - 1) (by unfold B64; omega), cF (by omega)]
    exact ⟨_, _, _, rfl⟩
  | succ c ih =>
    intro m f o1 b1 hc h1 h2 hf
    obtain ⟨f, rfl⟩ : ∃ y, f = y + 1 := ⟨f - 1, by omega⟩
    have hmz : m ≤ (A + n - 1) / 32 := by omega
    obtain ⟨hlh, h32⟩ := lo_hi (m := m) h0 h1 hmz
    have hul := upto_len l (newZ l A (A + n - 1)) h1
    have hui := upto_inc (m := m) hinc (newZ_n l A (A + n - 1)) h1
    have h98 : F98 (k + 0) o1 b1 3 ((upto l (newZ l A (A + n - 1)) (A / 32) m).map cl) (m : Int) = some ((m : Int), (cellAt l m).2.1, (cellAt l m).2.2) := by
      rw [g98 hui (by omega) (by omega), upto_cell (newZ_n l A (A + n - 1)) h1, if_neg (by omega), cellAt_n]
    have h115 := g115 (k := k + 0) (b := b1) (o := o1) (c := newZ l A (A + n - 1) m) hui (by omega) (by omega)
    rw [upto_next (newZ_n l A (A + n - 1)) h1, newZ_n] at h115
    obtain ⟨z, b', o', hi'⟩ := ih (m + 1) f none false (by omega) (by omega) (by omega) (by omega)
    have hm1 : IntKind.u64.wrap ((m : Int) + 1) = ((m + 1 : Nat) : Int) := wn (by omega)
    refine ⟨z, b', o', ?_⟩
    have hdl : (cellAt l m).2.1 = 1 → (cellAt l m).2.2.length = 32 := fun h => len32 hr h
    have ne1 : ¬ (if (cellAt l m).2.1 = 1 then (2 : Int) else (cellAt l m).2.1) = 1 := by split <;> simp_all
    have hz : ∀ x, (zeros x).length = x := fun x => List.length_replicate
    rw [← hi', L56_0, eD (A := A + n - 1) (by unfold B64; omega), eD (A := A) (by unfold B64; omega), cT (by omega), eM, eM, wp (x := (A + n - 1) % 32) (by omega), hm1]
    have hnd : newZ l A (A + n - 1) m = if lo A m = 0 ∧ hi (A + n - 1) m = 32 then (m, (if (cellAt l m).2.1 = 1 then 2 else (cellAt l m).2.1), []) else if (cellAt l m).2.1 = 1 then (m, (cellAt l m).2.1, (cellAt l m).2.2.take (lo A m) ++ zeros (hi (A + n - 1) m - lo A m) ++ (cellAt l m).2.2.drop (hi (A + n - 1) m)) else cellAt l m := rfl
    rw [hnd] at h115
    by_cases e1 : m = A / 32
    · have elo : lo A m = A % 32 := if_pos e1
      by_cases e2 : m = (A + n - 1) / 32
      · have ehi : hi (A + n - 1) m = (A + n - 1) % 32 + 1 := if_pos e2
        rw [elo, ehi] at h115
        rw [elo, ehi] at hlh
        rw [cT (by omega), cT (by omega), h98, Option.bind_some]
        simp only
        rw [and3]
        by_cases hw : A % 32 = 0 ∧ (A + n - 1) % 32 + 1 = 32
        · rw [if_pos hw] at h115
          dsimp only at h115
          rw [cT (by omega), g94, Option.bind_some, cNF ne1, h115, Option.bind_some]
        · rw [if_neg hw] at h115
          rw [cF (by omega)]
          by_cases hs : (cellAt l m).2.1 = 1
          · rw [if_pos hs] at h115
            dsimp only at h115
            have := hdl hs
            rw [cT hs, gp (by omega), ws (by omega) (by omega), g59 rfl (by omega), Option.bind_some]
            simp only [Int.toNat_natCast]
            rw [gp (by rw [hz, List.length_take]; unfold maxText; omega), gp (by omega), gp (by rw [List.length_append, hz, List.length_take, List.length_drop]; unfold maxText; omega), h115, Option.bind_some]
          · rw [if_neg hs] at h115
            rw [cF hs, h115, Option.bind_some]
      · have ehi : hi (A + n - 1) m = 32 := if_neg e2
        rw [elo, ehi] at h115
        rw [elo, ehi] at hlh
        rw [cT (by omega), cF (by omega), h98, Option.bind_some]
        simp only
        rw [and3]
        by_cases hw : A % 32 = 0
        · rw [if_pos ⟨hw, rfl⟩] at h115
          dsimp only at h115
          rw [cT ⟨by omega, trivial⟩, g94, Option.bind_some, cNF ne1, h115, Option.bind_some]
        · rw [if_neg (fun h => hw h.1)] at h115
          rw [cF (fun h => hw (by omega))]
          by_cases hs : (cellAt l m).2.1 = 1
          · rw [if_pos hs] at h115
            dsimp only at h115
            have := hdl hs
            rw [cT hs, gp (by omega), show (32 : Int) = ((32 : Nat) : Int) from rfl, ws (by omega) (by omega), g59 rfl (by omega), Option.bind_some]
            simp only [Int.toNat_natCast]
            rw [gp (by rw [hz, List.length_take]; unfold maxText; omega), gp (by omega), gp (by rw [List.length_append, hz, List.length_take, List.length_drop]; unfold maxText; omega), h115, Option.bind_some]
          · rw [if_neg hs] at h115
            rw [cF hs, h115, Option.bind_some]
    · have elo : lo A m = 0 := if_neg e1
      by_cases e2 : m = (A + n - 1) / 32
      · have ehi : hi (A + n - 1) m = (A + n - 1) % 32 + 1 := if_pos e2
        rw [elo, ehi] at h115
        rw [elo, ehi] at hlh
        rw [cF (by omega), cT (by omega), h98, Option.bind_some]
        simp only
        rw [and3]
        by_cases hw : (A + n - 1) % 32 + 1 = 32
        · rw [if_pos ⟨rfl, hw⟩] at h115
          dsimp only at h115
          rw [cT ⟨trivial, by omega⟩, g94, Option.bind_some, cNF ne1, h115, Option.bind_some]
        · rw [if_neg (fun h => hw h.2)] at h115
          rw [cF (fun h => hw (by omega))]
          by_cases hs : (cellAt l m).2.1 = 1
          · rw [if_pos hs] at h115
            dsimp only at h115
            have := hdl hs
            rw [cT hs, show (0 : Int) = ((0 : Nat) : Int) from rfl, ws (by omega) (by omega), g59 rfl (by omega), Option.bind_some]
            simp only [Int.toNat_natCast, Nat.sub_zero, List.drop_zero] at h115 ⊢
            rw [gp (by rw [hz, List.length_take]; unfold maxText; omega), gp (by omega), gp (by rw [List.length_append, hz, List.length_take, List.length_drop]; unfold maxText; omega), h115, Option.bind_some]
          · rw [if_neg hs] at h115
            rw [cF hs, h115, Option.bind_some]
      · have ehi : hi (A + n - 1) m = 32 := if_neg e2
        rw [elo, ehi] at h115
        rw [cF (by omega), cF (by omega), h98, Option.bind_some]
        simp only
        rw [if_pos ⟨rfl, rfl⟩] at h115
        dsimp only at h115
        rw [g94, Option.bind_some, cNF ne1, h115, Option.bind_some]
def wantZ (l : List Cl) (A n : Nat) : List Cl := upto l (newZ l A (A + n - 1)) (A / 32) ((A + n - 1) / 32 + 1)
theorem g56 {k A n : Nat} {b : Bool} {o : Option Bool} {l : List Cl} (hl : l.length ≤ 1000) (hn : n < B64) (hA : A < B64) (hk : 1200 ≤ k) :
    ∃ o' b', F56 k o b 3 (l.map cl) (A : Int) (n : Int) = some (if why l A n = 0 then (o', b', 3, (wantZ l A n).map cl, 0) else (some true, true, 0, [], why l A n)) := by
  unfold F56
  rw [g81 hl hA hn (by omega), Option.bind_some]
  by_cases hw : why l A n = 0
  · obtain ⟨hr, h0, hn', hAn⟩ := why_ok hw
    rw [cNT hw, g16 h0 hAn, Option.bind_some]
    simp only
    obtain ⟨_, hinc, _⟩ := right_iff.1 hr
    obtain ⟨z, b', o', hL⟩ := L56_run (k := k) (q := (n : Int)) (b0 := b) (x0 := l.map cl) (o0 := o) (n0 := 3) hr h0 hn' hAn (by omega) ((A + n - 1) / 32 + 1 - A / 32) (A / 32) (k + 13) o b rfl (Nat.le_refl _) (by omega) (by omega)
    rw [upto_first _ _ _ hinc] at hL
    rw [eD hA, hL, Option.bind_some]
    simp only
    exact ⟨o', b', by rw [if_pos hw]; rfl⟩
  · exact ⟨none, false, by rw [cNF hw, if_neg hw]⟩

theorem bytes_get {l : List Cl} (hr : right l = true) {m i : Nat} (h : i < 32) : (bytesC (cellAt l m))[i]? = some (byteAt l (32 * m + i)) := by
  unfold bytesC byteAt
  rw [show (32 * m + i) / 32 = m by omega, show (32 * m + i) % 32 = i by omega]
  by_cases hs : (cellAt l m).2.1 = 1
  · have := len32 hr hs
    rw [if_pos hs, if_pos hs, List.getElem?_eq_getElem (by omega)]; rfl
  · rw [if_neg hs, if_neg hs]
    unfold zeros
    rw [List.getElem?_replicate, if_pos h]
theorem dataR_get {l : List Cl} {w : Int} {A n : Nat} {data : List UInt8} {m i : Nat} (h : i < 32) : (dataR l w A n data m)[i]? = some (if A ≤ 32 * m + i ∧ 32 * m + i - A < n then (if w = 1 then (data[32 * m + i - A]?).getD 0 else 0) else byteAt l (32 * m + i)) := by
  unfold dataR
  rw [List.getElem?_map, List.getElem?_range h]; rfl
theorem dataR_len {l : List Cl} {w : Int} {A n : Nat} {data : List UInt8} {m : Nat} : (dataR l w A n data m).length = 32 := by unfold dataR; simp
theorem newW_one {l : List Cl} (hr : right l = true) {A m : Nat} {data : List UInt8} (h0 : 0 < data.length) (h1 : A / 32 ≤ m) (h2 : m ≤ (A + data.length - 1) / 32) :
    newW l A (A + data.length - 1) data m = one l 1 A data.length data m := by
  obtain ⟨hlh, h32⟩ := lo_hi (m := m) h0 h1 h2
  have hb := bytes32 hr m
  unfold newW one
  rw [if_pos rfl]
  congr 2
  have hT : ((data.drop (32 * m - A)).take (hi (A + data.length - 1) m - lo A m)).length = hi (A + data.length - 1) m - lo A m := by
    rw [List.length_take, List.length_drop]
    unfold lo hi
    split <;> split <;> omega
  apply List.ext_getElem?
  intro i
  have hsp := splice_get (B := bytesC (cellAt l m)) (p := lo A m) (q := hi (A + data.length - 1) m) (Nat.le_of_lt hlh) (by omega) hT i
  unfold splice at hsp
  rw [hsp]
  by_cases hi32 : i < 32
  · rw [dataR_get hi32, bytes_get hr hi32, if_pos rfl]
    by_cases c1 : i < lo A m
    · rw [if_pos c1, if_neg]
      unfold lo at c1
      split at c1 <;> omega
    · rw [if_neg c1]
      by_cases c2 : i < hi (A + data.length - 1) m
      · have hin : A ≤ 32 * m + i ∧ 32 * m + i - A < data.length := by
          unfold lo at c1; unfold hi at c2
          split at c1 <;> split at c2 <;> omega
        rw [if_pos c2, if_pos hin, List.getElem?_take_of_lt (by omega), List.getElem?_drop, List.getElem?_eq_getElem (by
          unfold lo at c1 ⊢; split at c1 <;> split <;> omega), List.getElem?_eq_getElem hin.2]
        simp only [Option.getD_some]
        congr 2
        unfold lo at c1 ⊢
        split at c1 <;> split <;> omega
      · rw [if_neg c2, if_neg]
        unfold hi at c2
        split at c2 <;> omega
  · rw [if_neg (by omega), if_neg (by omega), List.getElem?_eq_none (by omega), List.getElem?_eq_none (by rw [dataR_len]; omega)]
theorem cell_st {l : List Cl} (hr : right l = true) (m : Nat) : (cellAt l m).2.1 = 1 ∨ ((cellAt l m).2.1 = 2 ∧ (cellAt l m).2.2 = []) ∨ (cellAt l m) = (m, 0, []) := by
  rcases cellAt_mem (l := l) (n := m) with hm | hm
  · have := (right_iff.1 hr).1 _ hm
    unfold okb at this
    by_cases h : (cellAt l m).2.1 = 1
    · exact .inl h
    · rw [if_neg h] at this
      simp only [Bool.and_eq_true, decide_eq_true_eq] at this
      exact .inr (.inl this.2)
  · exact .inr (.inr hm)
theorem newR_one {l : List Cl} (hr : right l = true) {A n m : Nat} {data : List UInt8} : newR l m = one l 4 A n data m := by
  unfold newR one
  rw [if_neg (by decide : ¬ (4 : Int) = 1), if_pos (rfl : (4 : Int) = 4)]
  by_cases h : (cellAt l m).2.1 = 0
  · rw [if_pos h, if_pos h]
    rcases cell_st hr m with hs | ⟨hs, _⟩ | hs
    · rw [hs] at h; cases h
    · rw [hs] at h; cases h
    · rw [hs]
  · rw [if_neg h, if_neg h]
theorem whole_iff {A n m : Nat} (h0 : 0 < n) (h1 : A / 32 ≤ m) (h2 : m ≤ (A + n - 1) / 32) : wholeB A n m = true ↔ lo A m = 0 ∧ hi (A + n - 1) m = 32 := by
  unfold wholeB lo hi
  rw [Bool.and_eq_true, decide_eq_true_eq, decide_eq_true_eq]
  split <;> split <;> omega
theorem part_eq {l : List Cl} (hr : right l = true) {w : Int} (hw : w ≠ 1) {A n m : Nat} {data : List UInt8} (h0 : 0 < n) (h1 : A / 32 ≤ m) (h2 : m ≤ (A + n - 1) / 32) (hs : (cellAt l m).2.1 = 1) :
    splice (cellAt l m).2.2 (zeros (hi (A + n - 1) m - lo A m)) (lo A m) (hi (A + n - 1) m) = dataR l w A n data m := by
  obtain ⟨hlh, h32⟩ := lo_hi (m := m) h0 h1 h2
  have hb := len32 hr hs
  have hzl : (zeros (hi (A + n - 1) m - lo A m)).length = hi (A + n - 1) m - lo A m := List.length_replicate
  apply List.ext_getElem?
  intro i
  rw [splice_get (Nat.le_of_lt hlh) (by omega) hzl]
  have hbg : ∀ i, i < 32 → (cellAt l m).2.2[i]? = some (byteAt l (32 * m + i)) := fun i hi => by
    have := bytes_get (m := m) hr hi
    unfold bytesC at this
    rwa [if_pos hs] at this
  by_cases hi32 : i < 32
  · rw [dataR_get hi32, hbg i hi32, if_neg hw]
    by_cases c1 : i < lo A m
    · rw [if_pos c1, if_neg]
      unfold lo at c1
      split at c1 <;> omega
    · rw [if_neg c1]
      by_cases c2 : i < hi (A + n - 1) m
      · have hin : A ≤ 32 * m + i ∧ 32 * m + i - A < n := by
          unfold lo at c1; unfold hi at c2
          split at c1 <;> split at c2 <;> omega
        rw [if_pos c2, if_pos hin]
        unfold zeros
        rw [List.getElem?_replicate, if_pos (by omega)]
      · rw [if_neg c2, if_neg]
        unfold hi at c2
        split at c2 <;> omega
  · rw [if_neg (by omega), if_neg (by omega), List.getElem?_eq_none (by omega), List.getElem?_eq_none (by rw [dataR_len]; omega)]
theorem newD_one {l : List Cl} (hr : right l = true) {A n m : Nat} {data : List UInt8} (h0 : 0 < n) (h1 : A / 32 ≤ m) (h2 : m ≤ (A + n - 1) / 32) : newD l A (A + n - 1) m = one l 2 A n data m := by
  have hwi := whole_iff h0 h1 h2
  unfold newD one
  rw [if_neg (by decide : ¬ (2 : Int) = 1), if_neg (by decide : ¬ (2 : Int) = 4)]
  by_cases hw : wholeB A n m = true
  · rw [if_pos (hwi.1 hw), if_pos hw, if_neg (by decide)]
  · rw [if_neg (fun h => hw (hwi.2 h)), if_neg hw]
    by_cases hs : (cellAt l m).2.1 = 1
    · rw [if_pos hs, if_pos hs, hs, part_eq (w := 2) (data := data) hr (by decide) h0 h1 h2 hs]
    · rw [if_neg hs, if_neg hs]
theorem newZ_one {l : List Cl} (hr : right l = true) {A n m : Nat} {data : List UInt8} (h0 : 0 < n) (h1 : A / 32 ≤ m) (h2 : m ≤ (A + n - 1) / 32) : newZ l A (A + n - 1) m = one l 3 A n data m := by
  have hwi := whole_iff h0 h1 h2
  unfold newZ one
  rw [if_neg (by decide : ¬ (3 : Int) = 1), if_neg (by decide : ¬ (3 : Int) = 4)]
  by_cases hw : wholeB A n m = true
  · rw [if_pos (hwi.1 hw), if_pos hw, if_pos rfl]
    rcases cell_st hr m with hs | ⟨hs, _⟩ | hs
    · rw [if_pos hs, if_pos (by rw [hs]; decide)]
    · rw [if_neg (by rw [hs]; decide), if_pos (by rw [hs]; decide), hs]
    · rw [hs]; rfl
  · rw [if_neg (fun h => hw (hwi.2 h)), if_neg hw]
    by_cases hs : (cellAt l m).2.1 = 1
    · rw [if_pos hs, if_pos hs, hs, part_eq (w := 3) (data := data) hr (by decide) h0 h1 h2 hs]
    · rw [if_neg hs, if_neg hs]
theorem upto_congr {l : List Cl} {f g : Nat → Cl} {a m : Nat} (h : ∀ j, a ≤ j → j < m → f j = g j) : upto l f a m = upto l g a m := by
  unfold upto
  congr 3
  refine List.map_congr_left fun j hj => ?_
  rw [List.mem_range'_1] at hj
  exact h j hj.1 (by omega)
theorem wantW_do {l : List Cl} (hr : right l = true) {A : Nat} {data : List UInt8} (h0 : 0 < data.length) : wantW l A data = doR l 1 A data.length data :=
  upto_congr fun j h1 h2 => newW_one hr h0 h1 (by omega)
theorem wantR_do {l : List Cl} (hr : right l = true) {A n : Nat} {data : List UInt8} : wantR l A n = doR l 4 A n data :=
  upto_congr fun j h1 h2 => newR_one hr
theorem wantD_do {l : List Cl} (hr : right l = true) {A n : Nat} {data : List UInt8} (h0 : 0 < n) : wantD l A n = doR l 2 A n data :=
  upto_congr fun j h1 h2 => newD_one hr h0 h1 (by omega)
theorem wantZ_do {l : List Cl} (hr : right l = true) {A n : Nat} {data : List UInt8} (h0 : 0 < n) : wantZ l A n = doR l 3 A n data :=
  upto_congr fun j h1 h2 => newZ_one hr h0 h1 (by omega)
end Go.Proofs.Mo
