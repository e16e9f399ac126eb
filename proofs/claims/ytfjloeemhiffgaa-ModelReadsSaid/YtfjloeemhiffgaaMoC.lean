/-
  model.Write and model.Reserve, plainly.
-/
import Derived.Test.YtfjloeemhiffgaaMoPb
import Derived.Test.YtfjloeemhiffgaaMoB
set_option linter.unusedVariables false
set_option linter.unusedSimpArgs false
set_option maxRecDepth 100000
namespace Go.Proofs.Mo
open Go Go.Sym

def lo (A m : Nat) : Nat := if m = A / 32 then A % 32 else 0
def hi (Z m : Nat) : Nat := if m = Z / 32 then Z % 32 + 1 else 32
theorem lo_hi {A n m : Nat} (hn : 0 < n) (h1 : A / 32 ≤ m) (h2 : m ≤ (A + n - 1) / 32) : lo A m < hi (A + n - 1) m ∧ hi (A + n - 1) m ≤ 32 := by
  unfold lo hi
  split <;> split <;> omega
def newW (l : List Cl) (A Z : Nat) (data : List UInt8) (m : Nat) : Cl :=
  (m, 1, (bytesC (cellAt l m)).take (lo A m) ++ (data.drop (32 * m - A)).take (hi Z m - lo A m) ++ (bytesC (cellAt l m)).drop (hi Z m))
def newR (l : List Cl) (m : Nat) : Cl := if (cellAt l m).2.1 = 0 then (m, 2, (cellAt l m).2.2) else cellAt l m
theorem newR_n (l : List Cl) (m : Nat) : (newR l m).1 = m := by
  unfold newR; split
  · rfl
  · exact cellAt_n l m
theorem upto_len (l : List Cl) (new : Nat → Cl) {a m : Nat} (ham : a ≤ m) : (upto l new a m).length ≤ l.length + (m - a) := by
  unfold upto
  have h : ∀ l : List Cl, (l.filter fun x => decide (x.1 < a)).length + (l.filter fun x => decide (m ≤ x.1)).length ≤ l.length := by
    intro l
    induction l with
    | nil => simp
    | cons x r ih =>
      simp only [List.filter_cons, List.length_cons]
      by_cases h1 : x.1 < a
      · rw [if_pos (by simpa using h1), if_neg (by simp; omega)]; simp only [List.length_cons]; omega
      · rw [if_neg (by simpa using h1)]
        split
        · simp only [List.length_cons]; omega
        · omega
  have h1 := h l
  have h2 := List.length_filter_le (fun x : Cl => decide (x.2.1 ≠ 0)) ((List.range' a (m - a)).map new)
  simp only [List.length_append]
  simp only [List.length_map, List.length_range'] at h2
  omega
theorem bytes32 {l : List Cl} (hr : right l = true) (m : Nat) : (bytesC (cellAt l m)).length = 32 := by
  unfold bytesC
  split
  · rename_i h
    rcases cellAt_mem (l := l) (n := m) with hm | hm
    · have := (right_iff.1 hr).1 _ hm
      unfold okb at this
      rw [if_pos h] at this
      exact of_decide_eq_true (Bool.and_eq_true _ _ ▸ this).2
    · rw [hm] at h; cases h
  · exact List.length_replicate
theorem eD {A : Nat} (h : A < B64) : IntKind.u64.wrap ((A : Int).tdiv 32) = ((A / 32 : Nat) : Int) := by
  unfold B64 at h
  rw [show (32 : Int) = ((32 : Nat) : Int) from rfl, td (by omega), wu (by omega) (by omega)]; omega
theorem eM (A : Nat) : IntKind.i64.wrap ((A : Int).tmod 32) = ((A % 32 : Nat) : Int) := by
  rw [show (32 : Int) = ((32 : Nat) : Int) from rfl, tm (by omega), wi (by omega) (by omega)]; omega
theorem ws {x y : Nat} (h : y ≤ x) (hx : x ≤ 1000) : IntKind.i64.wrap ((x : Int) - (y : Int)) = ((x - y : Nat) : Int) := by
  rw [wi (by omega) (by omega)]; omega
theorem wp {x : Nat} (hx : x ≤ 1000) : IntKind.i64.wrap ((x : Int) + 1) = ((x + 1 : Nat) : Int) := by
  rw [wi (by omega) (by omega)]; omega
theorem wn {x : Nat} (hx : x < 18446744073709551615) : IntKind.u64.wrap ((x : Int) + 1) = ((x + 1 : Nat) : Int) := by
  rw [wu (by omega) (by omega)]; omega

set_option maxHeartbeats 1000000 in
theorem L51_run {k A n : Nat} {b0 : Bool} {s0 : List UInt8} {x0 : List V} {o0 : Option Bool} {n0 : Nat} {l : List Cl} {data : List UInt8} (hr : right l = true) (hd : data.length = n) (h0 : 0 < n) (hn : n ≤ 224) (hA : A + n ≤ B64) (hk : 1100 ≤ k) :
    ∀ (c m f : Nat) (o1 : Option Bool) (b1 : Bool) (s1 : List UInt8), (A + n - 1) / 32 + 1 - m = c → A / 32 ≤ m → m ≤ (A + n - 1) / 32 + 1 → c < f → s1 = data.drop (32 * m - A) →
    ∃ z b' s' o', L51_0 k (A : Int) ((A + n - 1 : Nat) : Int) b0 s0 x0 o0 n0 f (m : Int) s1 o1 b1 3 ((upto l (newW l A (A + n - 1) data) (A / 32) m).map cl) =
      some (.e0 z b' s' ((upto l (newW l A (A + n - 1) data) (A / 32) ((A + n - 1) / 32 + 1)).map cl) o' 3) := by
  obtain ⟨_, hinc, hlen⟩ := right_iff.1 hr
  unfold B64 at hA
  intro c
  induction c with
  | zero =>
    intro m f o1 b1 s1 hc h1 h2 hf hs
    obtain ⟨f, rfl⟩ : ∃ y, f = y + 1 := ⟨f - 1, by omega⟩
    have : m = (A + n - 1) / 32 + 1 := by omega
    subst this
    rw [L51_0, eD (A := A + n - 1) (by unfold B64; omega), cF (by omega)]
    exact ⟨_, _, _, _, rfl⟩
  | succ c ih =>
    intro m f o1 b1 s1 hc h1 h2 hf hs
    obtain ⟨f, rfl⟩ : ∃ y, f = y + 1 := ⟨f - 1, by omega⟩
    have hmz : m ≤ (A + n - 1) / 32 := by omega
    obtain ⟨hlh, h32⟩ := lo_hi (m := m) h0 h1 hmz
    have hul := upto_len l (newW l A (A + n - 1) data) h1
    have hui := upto_inc (m := m) hinc (new := newW l A (A + n - 1) data) (fun _ => rfl) h1
    have h98 : F98 (k + 0) o1 b1 3 ((upto l (newW l A (A + n - 1) data) (A / 32) m).map cl) (m : Int) = some ((m : Int), (cellAt l m).2.1, (cellAt l m).2.2) := by
      rw [g98 hui (by omega) (by omega), upto_cell (fun _ => rfl) h1, if_neg (by omega), cellAt_n]
    have hb32 := bytes32 hr m
    have h84 : F84 (k + 7) (m : Int) (cellAt l m).2.1 (cellAt l m).2.2 = some (bytesC (cellAt l m)) := g84
    have hsl : s1.length = n - (32 * m - A) := by rw [hs, List.length_drop, hd]
    have h115 : F115 (k + 0) o1 b1 3 ((upto l (newW l A (A + n - 1) data) (A / 32) m).map cl) (m : Int) 1 ((bytesC (cellAt l m)).take (lo A m) ++ s1.take (hi (A + n - 1) m - lo A m) ++ (bytesC (cellAt l m)).drop (hi (A + n - 1) m)) =
        some (none, false, 3, (upto l (newW l A (A + n - 1) data) (A / 32) (m + 1)).map cl) := by
      have := g115 (k := k + 0) (b := b1) (o := o1) (c := newW l A (A + n - 1) data m) hui (by omega) (by omega)
      rw [upto_next (fun _ => rfl) h1] at this
      rw [hs]; exact this
    have hnext : s1.drop (hi (A + n - 1) m - lo A m) = data.drop (32 * (m + 1) - A) := by
      rw [hs, List.drop_drop]
      unfold hi lo
      by_cases e1 : m = (A + n - 1) / 32
      · rw [if_pos e1, List.drop_eq_nil_of_le (by split <;> omega), List.drop_eq_nil_of_le (by omega)]
      · rw [if_neg e1]
        congr 1
        split <;> omega
    obtain ⟨z, b', s', o', hi'⟩ := ih (m + 1) f none false (s1.drop (hi (A + n - 1) m - lo A m)) (by omega) (by omega) (by omega) (by omega) hnext
    have hm1 : IntKind.u64.wrap ((m : Int) + 1) = ((m + 1 : Nat) : Int) := wn (by omega)
    refine ⟨z, b', s', o', ?_⟩
    rw [← hi', L51_0, eD (A := A + n - 1) (by unfold B64; omega), eD (A := A) (by unfold B64; omega), cT (by omega), eM, eM, wp (x := (A + n - 1) % 32) (by omega), hm1]
    by_cases e1 : m = A / 32
    · by_cases e2 : m = (A + n - 1) / 32
      · have elo : lo A m = A % 32 := if_pos e1
        have ehi : hi (A + n - 1) m = (A + n - 1) % 32 + 1 := if_pos e2
        rw [elo, ehi] at h115 hlh ⊢
        rw [ehi] at h32
        rw [cT (by omega), cT (by omega), h98, Option.bind_some]
        simp only
        rw [h84, Option.bind_some, ws (by omega) (by omega)]
        simp only [Int.toNat_natCast]
        rw [gp (by omega), gp (by omega), gp (by simp only [List.length_take]; unfold maxText; omega), gp (by omega), gp (by simp only [List.length_append, List.length_take, List.length_drop]; unfold maxText; omega), h115, Option.bind_some]
      · have elo : lo A m = A % 32 := if_pos e1
        have ehi : hi (A + n - 1) m = 32 := if_neg e2
        rw [elo, ehi] at h115 hlh ⊢
        rw [ehi] at h32
        rw [cT (by omega), cF (by omega), h98, Option.bind_some]
        simp only
        rw [h84, Option.bind_some, show (32 : Int) = ((32 : Nat) : Int) from rfl, ws (by omega) (by omega)]
        simp only [Int.toNat_natCast]
        rw [gp (by omega), gp (by omega), gp (by simp only [List.length_take]; unfold maxText; omega), gp (by omega), gp (by simp only [List.length_append, List.length_take, List.length_drop]; unfold maxText; omega), h115, Option.bind_some]
    · have elo : lo A m = 0 := if_neg e1
      by_cases e2 : m = (A + n - 1) / 32
      · have ehi : hi (A + n - 1) m = (A + n - 1) % 32 + 1 := if_pos e2
        rw [elo, ehi] at h115 hlh ⊢
        rw [ehi] at h32
        rw [cF (by omega), cT (by omega), h98, Option.bind_some]
        simp only
        rw [h84, Option.bind_some, show (0 : Int) = ((0 : Nat) : Int) from rfl, ws (by omega) (by omega)]
        simp only [Int.toNat_natCast, Nat.sub_zero, List.drop_zero] at h115 ⊢
        rw [gp (by omega), gp (by simp only [List.length_take]; unfold maxText; omega), gp (by omega), gp (by simp only [List.length_append, List.length_take, List.length_drop]; unfold maxText; omega), h115, Option.bind_some]
      · have ehi : hi (A + n - 1) m = 32 := if_neg e2
        rw [elo, ehi] at h115 hlh ⊢
        rw [ehi] at h32
        rw [cF (by omega), cF (by omega), h98, Option.bind_some]
        simp only
        rw [h84, Option.bind_some, show Int.toNat 0 = 0 from rfl, show Int.toNat 32 = 32 from rfl]
        simp only [Nat.sub_zero, List.drop_zero] at h115 ⊢
        rw [gp (by omega), gp (by simp only [List.length_take]; unfold maxText; omega), gp (by omega), gp (by simp only [List.length_append, List.length_take, List.length_drop]; unfold maxText; omega), h115, Option.bind_some]
/-- What fits. -/
def fits (l now : List Cl) (q : Int) : Bool := decide (now.length ≤ l.length ∨ ((now.length : Int) ≤ q ∧ now.length ≤ 64))
def wantW (l : List Cl) (A : Nat) (data : List UInt8) : List Cl := upto l (newW l A (A + data.length - 1) data) (A / 32) ((A + data.length - 1) / 32 + 1)
def wantR (l : List Cl) (A n : Nat) : List Cl := upto l (newR l) (A / 32) ((A + n - 1) / 32 + 1)
theorem why_ok {l : List Cl} {A n : Nat} (h : why l A n = 0) : right l = true ∧ 0 < n ∧ n ≤ 224 ∧ A + n ≤ B64 := by
  unfold why at h
  split at h
  · rename_i hr
    split at h
    · cases h
    · split at h
      · cases h
      · exact ⟨hr, by omega, by omega, by omega⟩
  · cases h
theorem g51 {k A : Nat} {b : Bool} {o : Option Bool} {l : List Cl} {q : Int} {data : List UInt8} (hl : l.length ≤ 1000) (hd : data.length ≤ 1000) (hA : A < B64) (hk : 1200 ≤ k) :
    ∃ o' b', F51 k o b 3 (l.map cl) q (A : Int) data = some (if why l A data.length = 0 then (if fits l (wantW l A data) q then (o', b', 3, (wantW l A data).map cl, 0) else (some true, true, 0, [], 6)) else (some true, true, 0, [], why l A data.length)) := by
  unfold F51
  have hu : IntKind.u64.wrap (data.length : Int) = ((data.length : Nat) : Int) := wu (by omega) (by omega)
  rw [hu, g81 hl hA (by unfold B64; omega) (by omega), Option.bind_some]
  by_cases hw : why l A data.length = 0
  · obtain ⟨hr, h0, hn, hAn⟩ := why_ok hw
    rw [cNT hw, g16 h0 hAn, Option.bind_some]
    simp only
    obtain ⟨_, hinc, _⟩ := right_iff.1 hr
    obtain ⟨z, b', s', o', hL⟩ := L51_run (k := k) (b0 := b) (s0 := data) (x0 := l.map cl) (o0 := o) (n0 := 3) hr rfl h0 hn hAn (by omega) ((A + data.length - 1) / 32 + 1 - A / 32) (A / 32) (k + 13) o b data rfl (Nat.le_refl _) (by omega) (by omega) (by rw [show 32 * (A / 32) - A = 0 by omega, List.drop_zero])
    rw [upto_first _ _ _ hinc] at hL
    rw [eD hA, hL, Option.bind_some]
    simp only
    rw [g85, Option.bind_some]
    refine ⟨o', b', ?_⟩
    rw [if_pos hw]
    unfold fits wantW
    simp only [List.length_map, decide_eq_true_eq]
  · exact ⟨none, false, by rw [cNF hw, if_neg hw]⟩

theorem L52_run {k A n : Nat} {q : Int} {b0 : Bool} {x0 : List V} {o0 : Option Bool} {n0 : Nat} {l : List Cl} (hr : right l = true) (h0 : 0 < n) (hn : n ≤ 224) (hA : A + n ≤ B64) (hk : 1100 ≤ k) :
    ∀ (c m f : Nat) (o1 : Option Bool) (b1 : Bool), (A + n - 1) / 32 + 1 - m = c → A / 32 ≤ m → m ≤ (A + n - 1) / 32 + 1 → c < f →
    ∃ z b' o', L52_0 k (A : Int) q ((A + n - 1 : Nat) : Int) b0 x0 o0 n0 f (m : Int) o1 b1 3 ((upto l (newR l) (A / 32) m).map cl) = some (.e0 z b' ((upto l (newR l) (A / 32) ((A + n - 1) / 32 + 1)).map cl) o' 3) := by
  obtain ⟨_, hinc, hlen⟩ := right_iff.1 hr
  unfold B64 at hA
  intro c
  induction c with
  | zero =>
    intro m f o1 b1 hc h1 h2 hf
    obtain ⟨f, rfl⟩ : ∃ y, f = y + 1 := ⟨f - 1, by omega⟩
    have : m = (A + n - 1) / 32 + 1 := by omega
    subst this
    rw [L52_0, eD (A := A + n - 1) (by unfold B64; omega), cF (by omega)]
    exact ⟨_, _, _, rfl⟩
  | succ c ih =>
    intro m f o1 b1 hc h1 h2 hf
    obtain ⟨f, rfl⟩ : ∃ y, f = y + 1 := ⟨f - 1, by omega⟩
    have hmz : m ≤ (A + n - 1) / 32 := by omega
    have hul := upto_len l (newR l) h1
    have hui := upto_inc (m := m) hinc (new := newR l) (newR_n l) h1
    have h98 : F98 (k + 0) o1 b1 3 ((upto l (newR l) (A / 32) m).map cl) (m : Int) = some ((m : Int), (cellAt l m).2.1, (cellAt l m).2.2) := by
      rw [g98 hui (by omega) (by omega), upto_cell (newR_n l) h1, if_neg (by omega), cellAt_n]
    have h115 := g115 (k := k + 0) (b := b1) (o := o1) (c := newR l m) hui (by omega) (by omega)
    rw [upto_next (newR_n l) h1, newR_n] at h115
    obtain ⟨z, b', o', hi'⟩ := ih (m + 1) f none false (by omega) (by omega) (by omega) (by omega)
    have hm1 : IntKind.u64.wrap ((m : Int) + 1) = ((m + 1 : Nat) : Int) := wn (by omega)
    refine ⟨z, b', o', ?_⟩
    have hbody : ((F98 (k + 0) o1 b1 3 ((upto l (newR l) (A / 32) m).map cl) (m : Int)).bind fun (i7, i8, s0) => (bif decide (i8 = 0) then ((F115 (k + 0) o1 b1 3 ((upto l (newR l) (A / 32) m).map cl) i7 2 s0).bind fun (o2, b2, n2, x2) => (L52_0 k (A : Int) q ((A + n - 1 : Nat) : Int) b0 x0 o0 n0 f ((m + 1 : Nat) : Int) o2 b2 n2 x2)) else ((F115 (k + 0) o1 b1 3 ((upto l (newR l) (A / 32) m).map cl) i7 i8 s0).bind fun (o2, b2, n2, x2) => (L52_0 k (A : Int) q ((A + n - 1 : Nat) : Int) b0 x0 o0 n0 f ((m + 1 : Nat) : Int) o2 b2 n2 x2)))) =
        L52_0 k (A : Int) q ((A + n - 1 : Nat) : Int) b0 x0 o0 n0 f ((m + 1 : Nat) : Int) none false 3 ((upto l (newR l) (A / 32) (m + 1)).map cl) := by
      rw [h98, Option.bind_some]
      simp only
      by_cases hs : (cellAt l m).2.1 = 0
      · have e : newR l m = (m, 2, (cellAt l m).2.2) := if_pos hs
        rw [e] at h115
        rw [cT hs, h115, Option.bind_some]
      · have e : newR l m = cellAt l m := if_neg hs
        rw [e] at h115
        rw [cF hs, h115, Option.bind_some]
    rw [← hi', L52_0, eD (A := A + n - 1) (by unfold B64; omega), eD (A := A) (by unfold B64; omega), cT (by omega), hm1]
    by_cases e1 : m = A / 32
    · rw [cT (by omega)]
      by_cases e2 : m = (A + n - 1) / 32
      · rw [cT (by omega)]; exact hbody
      · rw [cF (by omega)]; exact hbody
    · rw [cF (by omega)]
      by_cases e2 : m = (A + n - 1) / 32
      · rw [cT (by omega)]; exact hbody
      · rw [cF (by omega)]; exact hbody
theorem g52 {k A n : Nat} {b : Bool} {o : Option Bool} {l : List Cl} {q : Int} (hl : l.length ≤ 1000) (hn : n < B64) (hA : A < B64) (hk : 1200 ≤ k) :
    ∃ o' b', F52 k o b 3 (l.map cl) q (A : Int) (n : Int) = some (if why l A n = 0 then (if fits l (wantR l A n) q then (o', b', 3, (wantR l A n).map cl, 0) else (some true, true, 0, [], 6)) else (some true, true, 0, [], why l A n)) := by
  unfold F52
  rw [g81 hl hA hn (by omega), Option.bind_some]
  by_cases hw : why l A n = 0
  · obtain ⟨hr, h0, hn', hAn⟩ := why_ok hw
    rw [cNT hw, g16 h0 hAn, Option.bind_some]
    simp only
    obtain ⟨_, hinc, _⟩ := right_iff.1 hr
    obtain ⟨z, b', o', hL⟩ := L52_run (k := k) (q := (n : Int)) (b0 := b) (x0 := l.map cl) (o0 := o) (n0 := 3) hr h0 hn' hAn (by omega) ((A + n - 1) / 32 + 1 - A / 32) (A / 32) (k + 13) o b rfl (Nat.le_refl _) (by omega) (by omega)
    rw [upto_first _ _ _ hinc] at hL
    rw [eD hA, hL, Option.bind_some]
    simp only
    rw [g85, Option.bind_some]
    refine ⟨o', b', ?_⟩
    rw [if_pos hw]
    unfold fits wantR
    simp only [List.length_map, decide_eq_true_eq]
  · exact ⟨none, false, by rw [cNF hw, if_neg hw]⟩
end Go.Proofs.Mo
