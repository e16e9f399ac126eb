/-
  model.Read, plainly; ModelReads.
-/
import Derived.Test.YtfjloeemhiffgaaMoF
import Derived.Test.YtfjloeemhiffgaaMoP15
set_option linter.unusedVariables false
set_option linter.unusedSimpArgs false
set_option maxRecDepth 100000
namespace Go.Proofs.Mo
open Go Go.Sym

/-- What a span reads. -/
def readL (l : List Cl) (A n : Nat) : List UInt8 := (List.range' A n).map (byteAt l)
theorem readL_add (l : List Cl) (A p q : Nat) : readL l A p ++ readL l (A + p) q = readL l A (p + q) := by
  unfold readL
  rw [← List.map_append, List.range'_append_1]
theorem piece {l : List Cl} (hr : right l = true) {m p h : Nat} (hp : p ≤ h) (hh : h ≤ 32) : ((bytesC (cellAt l m)).take h).drop p = readL l (32 * m + p) (h - p) := by
  have hb := bytes32 hr m
  apply List.ext_getElem?
  intro i
  unfold readL
  rw [List.getElem?_drop, List.getElem?_map]
  by_cases hi : i < h - p
  · rw [List.getElem?_take_of_lt (by omega), bytes_get hr (by omega), List.getElem?_range' hi]
    simp only [Option.map_some, Nat.one_mul]
    congr 2; omega
  · rw [List.getElem?_eq_none (by rw [List.length_take]; omega), List.getElem?_eq_none (by rw [List.length_range']; omega)]
    rfl
def qn (A n m : Nat) : Nat := min (32 * m - A) n
theorem qn_next {A n m : Nat} (h0 : 0 < n) (h1 : A / 32 ≤ m) (h2 : m ≤ (A + n - 1) / 32) : qn A n (m + 1) = qn A n m + (hi (A + n - 1) m - lo A m) ∧ A + qn A n m = 32 * m + lo A m := by
  unfold qn hi lo
  split <;> split <;> omega
set_option maxHeartbeats 1000000 in
theorem L57_run {k A n : Nat} {i1 i2 : Int} {b0 : Bool} {o0 : Option Bool} {l : List Cl} (hr : right l = true) (h0 : 0 < n) (hn : n ≤ 224) (hA : A + n ≤ B64) (hk : 1100 ≤ k) :
    ∀ (c m f : Nat), (A + n - 1) / 32 + 1 - m = c → A / 32 ≤ m → m ≤ (A + n - 1) / 32 + 1 → c < f →
    ∃ z, L57_0 k (A : Int) i1 i2 ((A + n - 1 : Nat) : Int) b0 (l.map cl) o0 3 f (m : Int) (readL l A (qn A n m)) = some (.e0 z (readL l A n)) := by
  obtain ⟨_, hinc, hlen⟩ := right_iff.1 hr
  unfold B64 at hA
  intro c
  induction c with
  | zero =>
    intro m f hc h1 h2 hf
    obtain ⟨f, rfl⟩ : ∃ y, f = y + 1 := ⟨f - 1, by omega⟩
    have : m = (A + n - 1) / 32 + 1 := by omega
    subst this
    rw [L57_0, eD (A := A + n - 1) (by unfold B64; omega), cF (by omega)]
    have : qn A n ((A + n - 1) / 32 + 1) = n := by unfold qn; omega
    rw [this]
    exact ⟨_, rfl⟩
  | succ c ih =>
    intro m f hc h1 h2 hf
    obtain ⟨f, rfl⟩ : ∃ y, f = y + 1 := ⟨f - 1, by omega⟩
    have hmz : m ≤ (A + n - 1) / 32 := by omega
    obtain ⟨hlh, h32⟩ := lo_hi (m := m) h0 h1 hmz
    obtain ⟨q1, q2⟩ := qn_next h0 h1 hmz
    have hq : qn A n m ≤ n := Nat.min_le_right _ _
    have h98 : F98 (k + 0) o0 b0 3 (l.map cl) (m : Int) = some ((m : Int), (cellAt l m).2.1, (cellAt l m).2.2) := by
      rw [g98 hinc (by omega) (by omega), cellAt_n]
    have h84 : F84 (k + 8) (m : Int) (cellAt l m).2.1 (cellAt l m).2.2 = some (bytesC (cellAt l m)) := g84
    have hb32 := bytes32 hr m
    obtain ⟨z, hz⟩ := ih (m + 1) f (by omega) (by omega) (by omega) (by omega)
    have hpc := piece hr (m := m) (Nat.le_of_lt hlh) h32
    rw [← q2] at hpc
    rw [q1, ← readL_add, ← hpc] at hz
    have hrl : (readL l A (qn A n m)).length ≤ 224 := by unfold readL; rw [List.length_map, List.length_range']; omega
    have hm1 : IntKind.u64.wrap ((m : Int) + 1) = ((m + 1 : Nat) : Int) := wn (by omega)
    refine ⟨z, ?_⟩
    rw [← hz, L57_0, eD (A := A + n - 1) (by unfold B64; omega), eD (A := A) (by unfold B64; omega), cT (by omega), eM, eM, wp (x := (A + n - 1) % 32) (by omega), hm1]
    by_cases e1 : m = A / 32
    · have elo : lo A m = A % 32 := if_pos e1
      by_cases e2 : m = (A + n - 1) / 32
      · have ehi : hi (A + n - 1) m = (A + n - 1) % 32 + 1 := if_pos e2
        rw [elo, ehi] at hlh
        rw [elo, ehi, cT (by omega), cT (by omega), h98, Option.bind_some]
        simp only
        rw [h84, Option.bind_some]
        simp only [Int.toNat_natCast]
        rw [gp (by omega), gp (by rw [List.length_drop, List.length_take]; unfold maxBld; omega)]
      · have ehi : hi (A + n - 1) m = 32 := if_neg e2
        rw [elo, ehi] at hlh
        rw [elo, ehi, cT (by omega), cF (by omega), h98, Option.bind_some]
        simp only
        rw [h84, Option.bind_some, show Int.toNat 32 = 32 from rfl]
        simp only [Int.toNat_natCast]
        rw [gp (by omega), gp (by rw [List.length_drop, List.length_take]; unfold maxBld; omega)]
    · have elo : lo A m = 0 := if_neg e1
      by_cases e2 : m = (A + n - 1) / 32
      · have ehi : hi (A + n - 1) m = (A + n - 1) % 32 + 1 := if_pos e2
        rw [elo, ehi, cF (by omega), cT (by omega), h98, Option.bind_some]
        simp only
        rw [h84, Option.bind_some, show Int.toNat 0 = 0 from rfl]
        simp only [Int.toNat_natCast]
        rw [gp (by omega), gp (by rw [List.length_drop, List.length_take]; unfold maxBld; omega)]
      · have ehi : hi (A + n - 1) m = 32 := if_neg e2
        rw [elo, ehi, cF (by omega), cF (by omega), h98, Option.bind_some]
        simp only
        rw [h84, Option.bind_some, show Int.toNat 0 = 0 from rfl, show Int.toNat 32 = 32 from rfl, gp (by omega), gp (by rw [List.length_drop, List.length_take]; unfold maxBld; omega)]
theorem g57 {k A n : Nat} {b : Bool} {o : Option Bool} {l : List Cl} (hl : l.length ≤ 1000) (hn : n < B64) (hA : A < B64) (hk : 1200 ≤ k) :
    F57 k o b 3 (l.map cl) (A : Int) (n : Int) = some (if why l A n = 0 then (readL l A n, 0) else ([], why l A n)) := by
  unfold F57
  rw [g81 hl hA hn (by omega), Option.bind_some]
  by_cases hw : why l A n = 0
  · obtain ⟨hr, h0, hn', hAn⟩ := why_ok hw
    rw [cNT hw, g16 h0 hAn, Option.bind_some, if_pos hw]
    simp only
    obtain ⟨z, hL⟩ := L57_run (k := k) (i1 := (n : Int)) (i2 := why l A n) (b0 := b) (o0 := o) hr h0 hn' hAn (by omega) ((A + n - 1) / 32 + 1 - A / 32) (A / 32) (k + 13) rfl (Nat.le_refl _) (by omega) (by omega)
    have hq : qn A n (A / 32) = 0 := by unfold qn; omega
    rw [hq] at hL
    have hL' : L57_0 k (A : Int) (n : Int) (why l A n) ((A + n - 1 : Nat) : Int) b (l.map cl) o 3 (k + 13) ((A / 32 : Nat) : Int) [] = _ := hL
    rw [eD hA, hL']
    rfl
  · rw [cNF hw, if_neg hw]

theorem do_byte {l : List Cl} (hr : right l = true) {w : Int} (hw : w = 1 ∨ w = 2 ∨ w = 3 ∨ w = 4) {A n : Nat} {data : List UInt8} (h0 : 0 < n) (hd : w = 1 → data.length = n) (x : Nat) :
    byteAt (doR l w A n data) x = if A ≤ x ∧ x - A < n then (if w = 1 then (data[x - A]?).getD 0 else if w = 4 then byteAt l x else 0) else byteAt l x := by
  have hcell := upto_cell (l := l) (n := x / 32) (one_n l w A n data) (a := A / 32) (m := (A + n - 1) / 32 + 1) (by omega)
  have hx : 32 * (x / 32) + x % 32 = x := by omega
  have hx2 : x % 32 < 32 := by omega
  unfold byteAt doR
  rw [hcell]
  have hB : byteAt l x = if (cellAt l (x / 32)).2.1 = 1 then ((cellAt l (x / 32)).2.2[x % 32]?).getD 0 else 0 := rfl
  by_cases hm : A / 32 ≤ x / 32 ∧ x / 32 < (A + n - 1) / 32 + 1
  · rw [if_pos hm]
    obtain ⟨m, hmd⟩ : ∃ m, m = x / 32 := ⟨_, rfl⟩
    rw [← hmd] at hm hB hx ⊢
    have hdr := dataR_get (l := l) (w := w) (A := A) (n := n) (data := data) (m := m) hx2
    rw [hx] at hdr
    have hcell2 : ∀ c : Cl, c = one l w A n data m → (if (if c.2.1 ≠ 0 then c else (m, 0, [])).2.1 = 1 then ((if c.2.1 ≠ 0 then c else (m, 0, [])).2.2[x % 32]?).getD 0 else 0) = (if c.2.1 = 1 then (c.2.2[x % 32]?).getD 0 else 0 : UInt8) := by
      intro c _
      by_cases hc : c.2.1 ≠ 0
      · rw [if_pos hc]
      · have hc0 : c.2.1 = 0 := Decidable.byContradiction hc
        rw [if_neg hc, hc0]
        rfl
    rw [hcell2 _ rfl]
    unfold one
    by_cases h1 : w = 1
    · rw [if_pos h1]
      dsimp only
      rw [if_pos rfl, hdr, Option.getD_some]
      by_cases hin : A ≤ x ∧ x - A < n
      · rw [if_pos hin, if_pos hin, if_pos h1, if_pos h1]
      · rw [if_neg hin, if_neg hin, hB]
    · rw [if_neg h1]
      by_cases h4 : w = 4
      · rw [if_pos h4]
        have hgoal : (if (if (cellAt l m).2.1 = 0 then (m, 2, []) else cellAt l m).2.1 = 1 then ((if (cellAt l m).2.1 = 0 then (m, 2, []) else cellAt l m).2.2[x % 32]?).getD 0 else 0 : UInt8) = byteAt l x := by
          rw [hB]
          by_cases hs : (cellAt l m).2.1 = 0
          · rw [if_pos hs, hs]; rfl
          · rw [if_neg hs]
        rw [hgoal]
        by_cases hin : A ≤ x ∧ x - A < n
        · rw [if_pos hin, if_neg h1, if_pos h4, hB]
        · rw [if_neg hin, hB]
      · rw [if_neg h4]
        by_cases hwh : wholeB A n m = true
        · rw [if_pos hwh]
          have hin : A ≤ x ∧ x - A < n := by
            unfold wholeB at hwh
            rw [Bool.and_eq_true, decide_eq_true_eq, decide_eq_true_eq] at hwh
            omega
          rw [if_pos hin, if_neg h1, if_neg h4]
          split <;> (try split) <;> rfl
        · rw [if_neg hwh]
          by_cases hs : (cellAt l m).2.1 = 1
          · rw [if_pos hs]
            dsimp only
            rw [if_pos rfl, hdr, Option.getD_some, if_neg h1]
            by_cases hin : A ≤ x ∧ x - A < n
            · rw [if_pos hin, if_pos hin, if_neg h1, if_neg h4]
            · rw [if_neg hin, if_neg hin, hB]
          · rw [if_neg hs, if_neg hs]
            by_cases hin : A ≤ x ∧ x - A < n
            · rw [if_pos hin, if_neg h1, if_neg h4]
            · rw [if_neg hin]
  · rw [if_neg hm, if_neg (show ¬ (A ≤ x ∧ x - A < n) by omega)]
theorem do_right {l : List Cl} (hr : right l = true) {w : Int} {A n : Nat} {data : List UInt8} (h0 : 0 < n) (hA : A + n ≤ B64) (hlen : (doR l w A n data).length ≤ 64) : right (doR l w A n data) = true := by
  obtain ⟨hok, hinc, _⟩ := right_iff.1 hr
  refine right_iff.2 ⟨fun c hc => ?_, upto_inc hinc (one_n l w A n data) (by omega), hlen⟩
  unfold doR at hc
  rcases upto_mem hc with ⟨h1, _⟩ | ⟨j, h1, h2, rfl, h4⟩
  · exact hok c h1
  · have hj : j < 576460752303423488 := by unfold B64 at hA; omega
    have hcm : (cellAt l j).2.1 ≠ 0 → okb (cellAt l j) = true := by
      intro h
      rcases cellAt_mem (l := l) (n := j) with hm | hm
      · exact hok _ hm
      · exact absurd (by rw [hm]) h
    have hdat : okb (j, 1, dataR l w A n data j) = true := by
      unfold okb
      rw [if_pos rfl, decide_eq_true hj, decide_eq_true dataR_len]; rfl
    have h2e : okb (j, 2, []) = true := by
      unfold okb
      dsimp only; rw [if_neg (by decide), decide_eq_true hj]; rfl
    unfold one at h4 ⊢
    by_cases e1 : w = 1
    · rw [if_pos e1]; exact hdat
    · rw [if_neg e1] at h4 ⊢
      by_cases e4 : w = 4
      · rw [if_pos e4] at h4 ⊢
        by_cases hs : (cellAt l j).2.1 = 0
        · rw [if_pos hs]; exact h2e
        · rw [if_neg hs]; exact hcm hs
      · rw [if_neg e4] at h4 ⊢
        by_cases hwh : wholeB A n j = true
        · rw [if_pos hwh] at h4 ⊢
          by_cases e3 : w = 3
          · rw [if_pos e3] at h4 ⊢
            by_cases hs : (cellAt l j).2.1 ≠ 0
            · rw [if_pos hs]; exact h2e
            · rw [if_neg hs] at h4; exact absurd rfl h4
          · rw [if_neg e3] at h4; exact absurd rfl h4
        · rw [if_neg hwh] at h4 ⊢
          by_cases hs : (cellAt l j).2.1 = 1
          · rw [if_pos hs]; exact hdat
          · rw [if_neg hs] at h4 ⊢
            exact hcm h4
theorem why_right {l w : List Cl} {A n : Nat} (h : why l A n = 0) (hw : right w = true) : why w A n = 0 := by
  obtain ⟨hr, _⟩ := why_ok h
  unfold why at h ⊢
  rw [if_pos hr] at h
  rw [if_pos hw]; exact h
theorem why_one {l : List Cl} {x : Nat} (hr : right l = true) (hx : x < B64) : why l x 1 = 0 := by
  unfold why
  rw [if_pos hr, if_neg (by omega), if_neg (by unfold B64 at *; omega)]
theorem read_one (l : List Cl) (x : Nat) : readL l x 1 = [byteAt l x] := rfl
theorem g60 {k A n x : Nat} {b b1 : Bool} {o o1 : Option Bool} {l w : List Cl} {want : List UInt8} (hl : l.length ≤ 1000) (hwy : why l A n = 0) (hrw : right w = true) (hn : n < B64) (hA : A < B64) (hx : x < B64) (hk : 1300 ≤ k)
    (hrd : readL w A n = want) (hout : ¬ (A ≤ x ∧ x - A < n) → byteAt w x = byteAt l x) : F60 k o b 3 (w.map cl) (A : Int) (n : Int) want o1 b1 3 (l.map cl) (x : Int) = some true := by
  obtain ⟨hrl, h0, hn', hAn⟩ := why_ok hwy
  obtain ⟨_, _, hwl⟩ := right_iff.1 hrw
  have hx57 := g57 (k := k + 2) (A := x) (n := 1) (b := b) (o := o) (l := w) (by omega) (by unfold B64; omega) hx (by omega)
  have hy57 := g57 (k := k + 2) (A := x) (n := 1) (b := b1) (o := o1) (l := l) hl (by unfold B64; omega) hx (by omega)
  rw [if_pos (why_one hrw hx), read_one] at hx57
  rw [if_pos (why_one hrl hx), read_one] at hy57
  have hx57' : F57 (k + 2) o b 3 (w.map cl) (x : Int) 1 = some ([byteAt w x], 0) := hx57
  have hy57' : F57 (k + 2) o1 b1 3 (l.map cl) (x : Int) 1 = some ([byteAt l x], 0) := hy57
  unfold F60
  rw [g57 (by omega) hn hA (by omega), if_pos (why_right hwy hrw), Option.bind_some]
  simp only
  rw [cNT trivial, cNT hrd, g58 (by omega) (by omega), hrw, Option.bind_some, Bool.not_true, cond_false]
  unfold B64 at *
  by_cases h1 : A ≤ x
  · rw [cT (by omega), um]
    by_cases h2 : x - A < n
    · rw [cT (by omega)]
    · rw [cF (by omega), hx57', Option.bind_some]
      simp only
      rw [hy57', Option.bind_some]
      simp only
      rw [cT trivial, cT trivial, hout (by omega), decide_eq_true rfl]
  · rw [cF (by omega), hx57', Option.bind_some]
    simp only
    rw [hy57', Option.bind_some]
    simp only
    rw [cT trivial, cT trivial, hout (by omega), decide_eq_true rfl]
theorem read_do {l : List Cl} (hr : right l = true) {w : Int} (hw : w = 1 ∨ w = 2 ∨ w = 3 ∨ w = 4) {A n : Nat} {data : List UInt8} (h0 : 0 < n) (hd : w = 1 → data.length = n) :
    readL (doR l w A n data) A n = if w = 1 then data else if w = 4 then readL l A n else zeros n := by
  apply List.ext_getElem?
  intro i
  unfold readL
  rw [List.getElem?_map]
  by_cases hi : i < n
  · rw [List.getElem?_range' hi]
    simp only [Option.map_some, Nat.one_mul]
    rw [do_byte hr hw h0 hd, if_pos (by omega), show A + i - A = i by omega]
    by_cases h1 : w = 1
    · have := hd h1
      rw [if_pos h1, if_pos h1, List.getElem?_eq_getElem (by omega)]; rfl
    · rw [if_neg h1, if_neg h1]
      by_cases h4 : w = 4
      · rw [if_pos h4, if_pos h4, List.getElem?_map, List.getElem?_range' hi]
        simp only [Option.map_some, Nat.one_mul]
      · rw [if_neg h4, if_neg h4]
        unfold zeros
        rw [List.getElem?_replicate, if_pos hi]
  · rw [List.getElem?_eq_none (by rw [List.length_range']; omega)]
    by_cases h1 : w = 1
    · have := hd h1
      rw [if_pos h1, List.getElem?_eq_none (by omega)]; rfl
    · rw [if_neg h1]
      by_cases h4 : w = 4
      · rw [if_pos h4, List.getElem?_map, List.getElem?_eq_none (by rw [List.length_range']; omega)]; rfl
      · rw [if_neg h4]
        unfold zeros
        rw [List.getElem?_replicate, if_neg hi]; rfl
/-- One of the four changes, read. -/
theorem same_do {k A n x : Nat} {b b1 : Bool} {o o1 : Option Bool} {l : List Cl} {w : Int} {data want : List UInt8} (hl : l.length ≤ 1000) (hwy : why l A n = 0) (hn : n < B64) (hA : A < B64) (hx : x < B64) (hk : 1300 ≤ k)
    (hw : w = 1 ∨ w = 2 ∨ w = 3 ∨ w = 4) (hd : w = 1 → data.length = n) (hlen : (doR l w A n data).length ≤ 64) (hwant : (if w = 1 then data else if w = 4 then readL l A n else zeros n) = want) :
    F60 k o b 3 ((doR l w A n data).map cl) (A : Int) (n : Int) want o1 b1 3 (l.map cl) (x : Int) = some true := by
  obtain ⟨hr, h0, hn', hAn⟩ := why_ok hwy
  refine g60 hl hwy (do_right hr h0 hAn hlen) hn hA hx hk ((read_do hr hw h0 hd).trans hwant) fun hout => ?_
  rw [do_byte hr hw h0 hd, if_neg hout]
theorem fits_len {l now : List Cl} {q : Int} (hr : right l = true) (h : fits l now q = true) : now.length ≤ 64 := by
  obtain ⟨_, _, hl⟩ := right_iff.1 hr
  have := of_decide_eq_true h
  omega
theorem law_modelReads {A x : Nat} {q : Int} {b : Bool} {o : Option Bool} {l : List Cl} {data : List UInt8} (hA : A < B64) (hx : x < B64) : F15 2000 o b 3 (l.map cl) q (A : Int) data (x : Int) = some true := by
  have hl := few_len l
  have h230 : List.take (if (230 : Int) < (data.length : Int) then (230 : Int) else (data.length : Int)).toNat data = data.take 230 := by
    rw [show (230 : Int) = ((230 : Nat) : Int) from rfl, take_if]
  have hd : (data.take 230).length ≤ 230 := by rw [List.length_take]; omega
  unfold F15
  rw [g50 (by omega), Option.bind_some]
  simp only
  rw [gp (by omega), h230]
  generalize few l = m at hl
  generalize data.take 230 = d at hd
  have hu : IntKind.u64.wrap (d.length : Int) = ((d.length : Nat) : Int) := wu (by omega) (by omega)
  have hnB : d.length < B64 := by unfold B64; omega
  rw [hu, g57 (by omega) hnB hA (by omega), Option.bind_some]
  by_cases hwy : why m A d.length = 0
  · obtain ⟨hr, h0, hn', hAn⟩ := why_ok hwy
    obtain ⟨_, _, hml⟩ := right_iff.1 hr
    rw [if_pos hwy]
    simp only
    rw [cNT trivial]
    obtain ⟨o1, b1, h55⟩ := g55 (k := 2000 + 5) (b := false) (o := none) (l := m) (A := A) (n := d.length) (by omega) hnB hA (by omega)
    obtain ⟨o2, b2, h56⟩ := g56 (k := 2000 + 5) (b := false) (o := none) (l := m) (A := A) (n := d.length) (by omega) hnB hA (by omega)
    rw [if_pos hwy, wantD_do hr (data := []) h0] at h55
    rw [if_pos hwy, wantZ_do hr (data := []) h0] at h56
    have hD : (doR m 2 A d.length []).length ≤ m.length := upto_fewer hr (one_n m 2 A d.length []) (by omega) fun j _ _ h => one_st (.inl rfl) h
    have hZ : (doR m 3 A d.length []).length ≤ m.length := upto_fewer hr (one_n m 3 A d.length []) (by omega) fun j _ _ h => one_st (.inr rfl) h
    rw [h55, Option.bind_some, h56, Option.bind_some]
    simp only
    have hrD := do_right (w := 2) (data := []) hr h0 hAn (by omega)
    have hrZ := do_right (w := 3) (data := []) hr h0 hAn (by omega)
    rw [cNT trivial, cNT trivial, List.length_map, List.length_map, List.length_map, cF (by omega), cF (by omega), g58 (by omega) (by omega), hrD, Option.bind_some, Bool.not_true, cond_false, g58 (by omega) (by omega), hrZ, Option.bind_some, Bool.not_true, cond_false,
      g53, Option.bind_some, Bool.not_true, cond_false, g59 rfl (by omega), Option.bind_some]
    have tD := same_do (k := 2000 + 3) (b := b1) (o := o1) (b1 := false) (o1 := none) (w := 2) (data := []) (want := zeros d.length) (x := x) (by omega) hwy hnB hA hx (by omega) (.inr (.inl rfl)) (fun h => by cases h) (by omega) rfl
    have tZ := same_do (k := 2000 + 3) (b := b2) (o := o2) (b1 := false) (o1 := none) (w := 3) (data := []) (want := zeros d.length) (x := x) (by omega) hwy hnB hA hx (by omega) (.inr (.inr (.inl rfl))) (fun h => by cases h) (by omega) rfl
    obtain ⟨o3, b3, h51⟩ := g51 (k := 2000 + 5) (b := false) (o := none) (l := m) (q := q) (data := d) (A := A) (by omega) (by omega) hA (by omega)
    obtain ⟨o4, b4, h52⟩ := g52 (k := 2000 + 5) (b := false) (o := none) (l := m) (q := q) (A := A) (n := d.length) (by omega) hnB hA (by omega)
    rw [if_pos hwy, wantW_do hr h0] at h51
    rw [if_pos hwy, wantR_do hr (data := [])] at h52
    have tR : fits m (doR m 4 A d.length []) q = true → ∀ o b, F60 (2000 + 3) o b 3 ((doR m 4 A d.length []).map cl) (A : Int) (d.length : Int) (readL m A d.length) none false 3 (m.map cl) (x : Int) = some true := fun hf o b =>
      same_do (w := 4) (data := []) (by omega) hwy hnB hA hx (by omega) (.inr (.inr (.inr rfl))) (fun h => by cases h) (fits_len hr hf) rfl
    have tW : fits m (doR m 1 A d.length d) q = true → ∀ o b, F60 (2000 + 3) o b 3 ((doR m 1 A d.length d).map cl) (A : Int) (d.length : Int) d none false 3 (m.map cl) (x : Int) = some true := fun hf o b =>
      same_do (w := 1) (data := d) (by omega) hwy hnB hA hx (by omega) (.inl rfl) (fun _ => rfl) (fits_len hr hf) rfl
    by_cases hfw : fits m (doR m 1 A d.length d) q = true
    · rw [if_pos hfw] at h51
      by_cases hfr : fits m (doR m 4 A d.length []) q = true
      · rw [if_pos hfr] at h52
        rw [h51, Option.bind_some, h52, Option.bind_some]
        simp only
        rw [tD, Option.bind_some, cond_true, tZ, Option.bind_some, cond_true, cNT trivial, tW hfw, Option.bind_some, cond_true, cNT trivial, tR hfr]
        rfl
      · rw [if_neg hfr] at h52
        rw [h51, Option.bind_some, h52, Option.bind_some]
        simp only
        rw [tD, Option.bind_some, cond_true, tZ, Option.bind_some, cond_true, cNT trivial, tW hfw, Option.bind_some, cond_true, cNF (by decide)]
    · rw [if_neg hfw] at h51
      by_cases hfr : fits m (doR m 4 A d.length []) q = true
      · rw [if_pos hfr] at h52
        rw [h51, Option.bind_some, h52, Option.bind_some]
        simp only
        rw [tD, Option.bind_some, cond_true, tZ, Option.bind_some, cond_true, cNF (by decide), cNT trivial, tR hfr]
        rfl
      · rw [if_neg hfr] at h52
        rw [h51, Option.bind_some, h52, Option.bind_some]
        simp only
        rw [tD, Option.bind_some, cond_true, tZ, Option.bind_some, cond_true, cNF (by decide), cNF (by decide)]
  · rw [if_neg hwy]
    simp only
    rw [cNF hwy, g53, Option.bind_some, cond_true]; simp
end Go.Proofs.Mo
