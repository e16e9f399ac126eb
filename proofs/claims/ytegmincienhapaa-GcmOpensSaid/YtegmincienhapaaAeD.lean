/- DERIVED. The keys of the rounds, plainly, for both sides. -/
import Derived.Test.YtegmincienhapaaAeC
set_option linter.unusedVariables false
set_option linter.unusedSimpArgs false
set_option maxRecDepth 1000000
namespace Go.Proofs.Ae
open Go Go.Sym Go.Proofs.Fl

def rcU (n : Nat) : UInt8 := UInt8.ofNat (rc n)
theorem rcU_nat {n : Nat} (h : n < 10) : ((rcU n).toNat : Int) = ((rc n : Nat) : Int) := by
  unfold rcU; rw [UInt8.toNat_ofNat', Nat.mod_eq_of_lt (rc_lt h)]
theorem u95 {k n : Nat} (hn : n < 10) (hk : 20 ≤ k) : F95 k 2 (n : Int) = some ((rcU n).toNat : Int) := by rw [g95 hn hk, rcU_nat hn]
theorem u107 {k n : Nat} (hn : n < 10) (hk : 20 ≤ k) : F107 k 2 (n : Int) = some ((rcU n).toNat : Int) := by rw [g107 hn hk, rcU_nat hn]

def kst (K i : Nat) : List UInt8 → List UInt8
  | [a, b, c, d] => if i % K = 0 then [sbU b ^^^ rcU (i / K - 1), sbU c, sbU d, sbU a] else if K = 8 ∧ i % 8 = 4 then [sbU a, sbU b, sbU c, sbU d] else [a, b, c, d]
  | l => l
theorem kst_eq (K i : Nat) (a b c d : UInt8) : kst K i [a, b, c, d] = if i % K = 0 then [sbU b ^^^ rcU (i / K - 1), sbU c, sbU d, sbU a] else if K = 8 ∧ i % 8 = 4 then [sbU a, sbU b, sbU c, sbU d] else [a, b, c, d] := rfl
def nextW (K : Nat) (ws : List (List UInt8)) : List UInt8 := xorL (ws.getD (ws.length - K) []) (kst K ws.length (ws.getD (ws.length - 1) []))
def extW (K : Nat) : Nat → List (List UInt8) → List (List UInt8)
  | 0, ws => ws
  | m + 1, ws => extW K m (ws ++ [nextW K ws])
def four (ws : List (List UInt8)) : Prop := ∀ w ∈ ws, w.length = 4
theorem len4 {s : List UInt8} (h : s.length = 4) : ∃ a b c d, s = [a, b, c, d] := by
  match s, h with
  | [a, b, c, d], _ => exact ⟨a, b, c, d, rfl⟩
theorem four_at {ws : List (List UInt8)} (h : four ws) {j : Nat} (hj : j < ws.length) : (ws.getD j []).length = 4 := by
  rw [List.getD_eq_getElem?_getD, List.getElem?_eq_getElem hj]; exact h _ (List.getElem_mem hj)
theorem kst_length {K i : Nat} {t : List UInt8} (h : t.length = 4) : (kst K i t).length = 4 := by
  obtain ⟨a, b, c, d, rfl⟩ := len4 h
  rw [kst_eq]; split
  · rfl
  · split <;> rfl
theorem nextW_length {K : Nat} {ws : List (List UInt8)} (h : four ws) (h1 : 1 ≤ K) (h2 : K ≤ ws.length) : (nextW K ws).length = 4 := by
  unfold nextW xorL
  rw [List.length_zipWith, kst_length (four_at h (by omega)), four_at h (by omega)]; rfl
theorem four_snoc {ws : List (List UInt8)} {w : List UInt8} (h : four ws) (hw : w.length = 4) : four (ws ++ [w]) := by
  intro x hx
  rcases List.mem_append.1 hx with hx | hx
  · exact h x hx
  · rw [List.mem_singleton.1 hx]; exact hw
theorem extW_facts {K : Nat} (h1 : 1 ≤ K) : ∀ (m : Nat) (ws : List (List UInt8)), four ws → K ≤ ws.length → four (extW K m ws) ∧ (extW K m ws).length = ws.length + m := by
  intro m
  induction m with
  | zero => intro ws h h2; exact ⟨h, rfl⟩
  | succ m ih =>
    intro ws h h2
    have h3 := ih (ws ++ [nextW K ws]) (four_snoc h (nextW_length h h1 h2)) (by rw [List.length_append]; omega)
    exact ⟨h3.1, by rw [extW, h3.2, List.length_append]; simp only [List.length_cons, List.length_nil]; omega⟩
theorem flat_length {ws : List (List UInt8)} (h : four ws) : ws.flatten.length = 4 * ws.length := by
  induction ws with
  | nil => rfl
  | cons w r ih =>
    rw [List.flatten_cons, List.length_append, ih (fun x hx => h x (List.mem_cons_of_mem _ hx)), h w (List.mem_cons_self ..), List.length_cons]; omega
theorem flat_drop {ws : List (List UInt8)} (h : four ws) : ∀ j, ws.flatten.drop (4 * j) = (ws.drop j).flatten := by
  induction ws with
  | nil => intro j; simp
  | cons w r ih =>
    intro j
    cases j with
    | zero => rfl
    | succ j =>
      rw [List.flatten_cons, List.drop_succ_cons, List.drop_append, h w (List.mem_cons_self ..), show 4 * (j + 1) - 4 = 4 * j by omega, ih (fun x hx => h x (List.mem_cons_of_mem _ hx)), List.drop_eq_nil_of_le (by rw [h w (List.mem_cons_self ..)]; omega), List.nil_append]
theorem four_drop {ws : List (List UInt8)} (h : four ws) (j : Nat) : four (ws.drop j) := fun x hx => h x (List.mem_of_mem_drop hx)
theorem flat_take {w : List UInt8} {r : List (List UInt8)} (h : w.length = 4) (n : Nat) : (w :: r).flatten.take (n + 4) = w ++ r.flatten.take n := by
  rw [List.flatten_cons, List.take_append, h, List.take_of_length_le (by omega), show n + 4 - 4 = n by omega]
theorem ft16 {w : List UInt8} {r : List (List UInt8)} (h : w.length = 4) : (w :: r).flatten.take 16 = w ++ r.flatten.take 12 := flat_take (n := 12) h
theorem ft12 {w : List UInt8} {r : List (List UInt8)} (h : w.length = 4) : (w :: r).flatten.take 12 = w ++ r.flatten.take 8 := flat_take (n := 8) h
theorem ft8 {w : List UInt8} {r : List (List UInt8)} (h : w.length = 4) : (w :: r).flatten.take 8 = w ++ r.flatten.take 4 := flat_take (n := 4) h
theorem ft4 {w : List UInt8} {r : List (List UInt8)} (h : w.length = 4) : (w :: r).flatten.take 4 = w := by rw [flat_take (n := 0) h, List.take_zero, List.append_nil]
theorem flat_word {ws : List (List UInt8)} (h : four ws) {j : Nat} (hj : j < ws.length) : (ws.flatten.drop (4 * j)).take 4 = ws.getD j [] := by
  rw [flat_drop h, List.drop_eq_getElem_cons hj, ft4 (h _ (List.getElem_mem hj)), List.getD_eq_getElem?_getD, List.getElem?_eq_getElem hj]; rfl
theorem flat_at {ws : List (List UInt8)} (h : four ws) {j r : Nat} (hj : j < ws.length) (hr : r < 4) : ws.flatten[4 * j + r]? = (ws.getD j [])[r]? := by
  rw [← flat_word h hj, List.getElem?_take_of_lt hr, List.getElem?_drop]
theorem flat_four {ws : List (List UInt8)} (h : four ws) {j : Nat} (hj : 4 * j + 3 < ws.length) : (ws.flatten.drop (16 * j)).take 16 = ws.getD (4 * j) [] ++ ws.getD (4 * j + 1) [] ++ ws.getD (4 * j + 2) [] ++ ws.getD (4 * j + 3) [] := by
  have e : ∀ i (hi : i < ws.length), ws.getD i [] = ws[i] := fun i hi => by rw [List.getD_eq_getElem?_getD, List.getElem?_eq_getElem hi]; rfl
  have l : ∀ i (hi : i < ws.length), ws[i].length = 4 := fun i hi => h _ (List.getElem_mem hi)
  rw [show 16 * j = 4 * (4 * j) by omega, flat_drop h, List.drop_eq_getElem_cons (show 4 * j < ws.length by omega), List.drop_eq_getElem_cons (show 4 * j + 1 < ws.length by omega), List.drop_eq_getElem_cons (show 4 * j + 1 + 1 < ws.length by omega), List.drop_eq_getElem_cons (show 4 * j + 1 + 1 + 1 < ws.length by omega),
    ft16 (l _ _), ft12 (l _ _), ft8 (l _ _), ft4 (l _ _)]
  rw [e _ (by omega), e _ (by omega), e _ (by omega), e _ (by omega)]
  simp only [List.append_assoc]

/-! ### The first words, the keys -/
def w0 (s : List UInt8) : List (List UInt8) := (List.range (s.length / 4)).map fun i => (s.drop (4 * i)).take 4
theorem w0_four {s : List UInt8} : four (w0 s) := by
  intro w hw
  obtain ⟨i, hi, rfl⟩ := List.mem_map.1 hw
  have := List.mem_range.1 hi
  rw [List.length_take, List.length_drop]; omega
theorem w0_length (s : List UInt8) : (w0 s).length = s.length / 4 := by simp [w0]
theorem w0_flat {s : List UInt8} (n : Nat) : ((List.range n).map fun i => (s.drop (4 * i)).take 4).flatten = s.take (4 * n) := by
  induction n with
  | zero => rfl
  | succ n ih => rw [List.range_succ, List.map_append, List.flatten_append, ih, show 4 * (n + 1) = 4 * n + 4 by omega, List.take_add]; simp
theorem w0_flatten {s : List UInt8} (h : s.length % 4 = 0) : (w0 s).flatten = s := by
  unfold w0; rw [w0_flat, List.take_of_length_le (by omega)]
def keyOk (s : List UInt8) : Prop := s.length = 16 ∨ s.length = 32
def kN (s : List UInt8) : Nat := s.length / 4
def wsAll (s : List UInt8) : List (List UInt8) := extW (kN s) (4 * (kN s + 7) - kN s) (w0 s)
def keys (s : List UInt8) : List (List UInt8) := (List.range (kN s + 7)).map fun j => ((wsAll s).flatten.drop (16 * j)).take 16
theorem wsAll_facts {s : List UInt8} (h : keyOk s) : four (wsAll s) ∧ (wsAll s).length = 4 * (kN s + 7) := by
  have hk : kN s = 4 ∨ kN s = 8 := by unfold kN; rcases h with h | h <;> rw [h] <;> simp
  have := extW_facts (K := kN s) (by omega) (4 * (kN s + 7) - kN s) (w0 s) w0_four (by rw [w0_length]; exact Nat.le_refl _)
  refine ⟨this.1, ?_⟩
  unfold wsAll
  rw [this.2, w0_length]; unfold kN; rcases h with h | h <;> rw [h]
theorem keys_length (s : List UInt8) : (keys s).length = kN s + 7 := by simp [keys]
theorem keys_16 {s q : List UInt8} (h : keyOk s) (hq : q ∈ keys s) : q.length = 16 := by
  obtain ⟨j, hj, rfl⟩ := List.mem_map.1 hq
  have h1 := wsAll_facts h
  have := List.mem_range.1 hj
  rw [List.length_take, List.length_drop, flat_length h1.1, h1.2]; omega
theorem w_len {s : List UInt8} (h : keyOk s) : IntKind.i64.wrap ((s.length : Int).tdiv 4) = ((kN s : Nat) : Int) := by
  unfold kN; rcases h with h | h <;> rw [h] <;> rfl
theorem kN_cases {s : List UInt8} (h : keyOk s) : kN s = 4 ∨ kN s = 8 := by unfold kN; rcases h with h | h <;> rw [h] <;> simp

/-! ### The reference's -/
theorem str_at {l : List (List UInt8)} {i : Nat} (h : i < l.length) : ((l.map V.str)[i]?).bind dS = some (l.getD i []) := by
  rw [List.getElem?_map, List.getElem?_eq_getElem h, List.getD_eq_getElem?_getD, List.getElem?_eq_getElem h]; rfl
theorem str_at' {l : List (List UInt8)} {i : Nat} (h : i < l.length) : (at? (l.map V.str) (i : Int)).bind dS = some (l.getD i []) := by
  rw [at_map h, List.getD_eq_getElem?_getD, List.getElem?_eq_getElem h]; rfl
theorem L98a {k : Nat} {s : List UInt8} (h : keyOk s) : ∀ (c i f : Nat), kN s - i = c → i ≤ kN s → c < f →
    L98_0 k s f (i : Int) (((List.range i).map fun i => (s.drop (4 * i)).take 4).map V.str) = some (.e0 ((kN s : Nat) : Int) ((w0 s).map V.str)) := by
  have hk := kN_cases h
  have hlen : s.length = 4 * kN s := by unfold kN; rcases h with h | h <;> rw [h]
  intro c
  induction c with
  | zero =>
    intro i f hc hi hf
    obtain ⟨f, rfl⟩ : ∃ y, f = y + 1 := ⟨f - 1, by omega⟩
    rw [L98_0, w_len h, cF (by omega), show i = kN s by omega]; rfl
  | succ c ih =>
    intro i f hc hi hf
    obtain ⟨f, rfl⟩ : ∃ y, f = y + 1 := ⟨f - 1, by omega⟩
    have e := ih (i + 1) f (by omega) (by omega) (by omega)
    rw [List.range_succ, List.map_append, List.map_append] at e
    rw [L98_0, w_len h, cT (by omega), wi (n := 4 * (i : Int)) (by omega) (by omega), wi (n := 4 * (i : Int) + 4) (by omega) (by omega), gp (by omega), gp (by rw [List.length_map, List.length_map, List.length_range]; unfold maxLen'; omega), wi (n := (i : Int) + 1) (by omega) (by omega), show (i : Int) + 1 = ((i + 1 : Nat) : Int) by omega,
      show (4 * (i : Int) + 4).toNat = 4 * i + 4 by omega, show (4 * (i : Int)).toNat = 4 * i by omega, List.drop_take, show 4 * i + 4 - 4 * i = 4 by omega]
    exact e
theorem getD_lt {ws : List (List UInt8)} {j : Nat} (h : j < ws.length) : ws.getD j [] = ws[j] := by
  rw [List.getD_eq_getElem?_getD, List.getElem?_eq_getElem h]; rfl
theorem L98b {k : Nat} {s : List UInt8} {i0 : Int} (h : keyOk s) (hk : 1000 ≤ k) : ∀ (m : Nat) (ws : List (List UInt8)) (f : Nat), ws.length + m = 4 * (kN s + 7) → kN s ≤ ws.length → four ws → m < f →
    ∃ z, L98_1 k i0 s f ((ws.length : Nat) : Int) (ws.map V.str) = some (.e0 z ((extW (kN s) m ws).map V.str)) := by
  have hK := kN_cases h
  intro m
  induction m with
  | zero =>
    intro ws f hm hle hw hf
    obtain ⟨f, rfl⟩ : ∃ y, f = y + 1 := ⟨f - 1, by omega⟩
    rw [L98_1, w_len h, wi (n := ((kN s : Nat) : Int) + 7) (by omega) (by omega), wi (n := 4 * (((kN s : Nat) : Int) + 7)) (by omega) (by omega), cF (by omega)]
    exact ⟨_, rfl⟩
  | succ m ih =>
    intro ws f hm hle hw hf
    obtain ⟨f, rfl⟩ : ∃ y, f = y + 1 := ⟨f - 1, by omega⟩
    have hn := nextW_length hw (show 1 ≤ kN s by omega) hle
    obtain ⟨z, e⟩ := ih (ws ++ [nextW (kN s) ws]) f (by rw [List.length_append]; simp only [List.length_cons, List.length_nil]; omega) (by rw [List.length_append]; omega) (four_snoc hw hn) (by omega)
    rw [List.length_append, List.map_append] at e
    refine ⟨z, ?_⟩
    generalize hi : ws.length = i at *
    have e' : L98_1 k i0 s f (((i + 1 : Nat)) : Int) (ws.map V.str ++ [V.str (nextW (kN s) ws)]) = some (.e0 z ((extW (kN s) (m + 1) ws).map V.str)) := e
    obtain ⟨a, b, c, d, ht⟩ := len4 (four_at hw (show i - 1 < ws.length by omega))
    have ho : (ws.getD (i - kN s) []).length = 4 := four_at hw (by omega)
    have hnx : nextW (kN s) ws = xorL (ws.getD (i - kN s) []) (kst (kN s) i [a, b, c, d]) := by unfold nextW; rw [hi, ht]
    rw [L98_1, w_len h, wi (n := ((kN s : Nat) : Int) + 7) (by omega) (by omega), wi (n := 4 * (((kN s : Nat) : Int) + 7)) (by omega) (by omega), cT (by omega), wi (n := (i : Int) - 1) (by omega) (by omega), gp (by rw [List.length_map, hi]; omega), show ((i : Int) - 1).toNat = i - 1 by omega, str_at (by omega), Option.bind_some, ht, gp (by omega)]
    have tail : ∀ (t : List UInt8), t.length = 4 → kst (kN s) i [a, b, c, d] = t → (guardP ((0 : Int) ≤ IntKind.i64.wrap ((i : Int) - ((kN s : Nat) : Int)) ∧ IntKind.i64.wrap ((i : Int) - ((kN s : Nat) : Int)) < ((ws.map V.str).length : Int)) ((((ws.map V.str)[(IntKind.i64.wrap ((i : Int) - ((kN s : Nat) : Int))).toNat]?).bind dS).bind fun s4 => ((F86 (k + 11) s4 t).bind fun s5 => (guardP ((ws.map V.str).length + (1 : Nat) ≤ maxLen') (L98_1 k i0 s f (IntKind.i64.wrap ((i : Int) + 1)) (ws.map V.str ++ [V.str s5])))))) = some (.e0 z ((extW (kN s) (m + 1) ws).map V.str)) := by
      intro t h4 hk4
      rw [wi (n := (i : Int) - ((kN s : Nat) : Int)) (by omega) (by omega), gp (by rw [List.length_map, hi]; omega), show ((i : Int) - ((kN s : Nat) : Int)).toNat = i - kN s by omega, str_at (by omega), Option.bind_some, g86 (by omega) (by omega) (by omega), Option.bind_some, gp (by rw [List.length_map, hi]; unfold maxLen'; omega), wi (n := (i : Int) + 1) (by omega) (by omega), show (i : Int) + 1 = ((i + 1 : Nat) : Int) by omega, ← hk4, ← hnx]
      exact e'
    have hmod : ((i : Int).tmod ((kN s : Nat) : Int)) = ((i % kN s : Nat) : Int) := by rw [tm (by omega)]; omega
    have hmod8 : ((i : Int).tmod 8) = ((i % 8 : Nat) : Int) := by rw [show (8 : Int) = ((8 : Nat) : Int) from rfl, tm (by omega)]; omega
    have hdiv : ((i : Int).tdiv ((kN s : Nat) : Int)) = ((i / kN s : Nat) : Int) := by rw [td (by omega)]; omega
    have hdlt : i / kN s - 1 < 10 ∧ 1 ≤ i / kN s := by rcases hK with hK | hK <;> rw [hK] <;> omega
    rw [hmod, hdiv, hmod8]
    by_cases h0 : i % kN s = 0
    · rw [cT (by omega), gp (by simp only [List.length_cons, List.length_nil]; omega), gp (by show 4 ≤ maxText; unfold maxText; omega)]
      show ((F88 (k + 2) [b, c, d, a]).bind _) = _
      rw [g88 (by simp) (by omega), Option.bind_some]
      show ((satB [sbU b, sbU c, sbU d, sbU a] 0).bind _) = _
      rw [show satB [sbU b, sbU c, sbU d, sbU a] 0 = some (sbU b) from rfl, Option.bind_some, wi (n := ((i / kN s : Nat) : Int)) (by omega) (by omega), wi (n := ((i / kN s : Nat) : Int) - 1) (by omega) (by omega), show ((i / kN s : Nat) : Int) - 1 = ((i / kN s - 1 : Nat) : Int) by omega, u107 hdlt.1 (by omega), Option.bind_some, xor_b]
      rw [show F99 (k + 14) none false 1 [V.int IntKind.u8 ((sbU b ^^^ rcU (i / kN s - 1)).toNat : Int)] = some [sbU b ^^^ rcU (i / kN s - 1)] from g99 (k := k + 14) (o := none) (b := false) [sbU b ^^^ rcU (i / kN s - 1)], Option.bind_some, gp (by show (0 : Int) ≤ 1 ∧ (1 : Int) ≤ 4; omega), gp (by show 1 + 3 ≤ maxText; unfold maxText; omega)]
      exact tail [sbU b ^^^ rcU (i / kN s - 1), sbU c, sbU d, sbU a] rfl (by rw [kst_eq, if_pos h0])
    · rw [cF (by omega)]
      by_cases h8 : kN s = 8
      · rw [cT (by omega)]
        by_cases h4 : i % 8 = 4
        · rw [cT (by omega), g88 (by simp) (by omega), Option.bind_some]
          exact tail [sbU a, sbU b, sbU c, sbU d] rfl (by rw [kst_eq, if_neg h0, if_pos ⟨h8, h4⟩])
        · rw [cF (by omega)]
          exact tail [a, b, c, d] rfl (by rw [kst_eq, if_neg h0, if_neg (fun h => h4 h.2)])
      · rw [cF (by omega)]
        exact tail [a, b, c, d] rfl (by rw [kst_eq, if_neg h0, if_neg (fun h => h8 h.1)])
theorem g98 {k : Nat} {s : List UInt8} (h : keyOk s) (hk : 1000 ≤ k) : F98 k s = some (none, false, 1, (wsAll s).map V.str) := by
  have hK := kN_cases h
  unfold F98
  have e1 := L98a (k := k) h (kN s) 0 (k + 17) (by omega) (by omega) (by omega)
  obtain ⟨z, e2⟩ := L98b (k := k) (i0 := ((kN s : Nat) : Int)) h hk (4 * (kN s + 7) - kN s) (w0 s) (k + 17) (by rw [w0_length]; show kN s + _ = _; omega) (by rw [w0_length]; exact Nat.le_refl _) w0_four (by omega)
  have e1' : L98_0 k s (k + 17) 0 [] = _ := e1
  rw [e1', Option.bind_some]
  simp only
  rw [w_len h, show ((kN s : Nat) : Int) = (((w0 s).length : Nat) : Int) by rw [w0_length]; rfl]
  rw [w0_length] at e2 ⊢
  rw [show s.length / 4 = kN s from rfl] at e2 ⊢
  rw [e2, Option.bind_some]
  rfl
theorem g85 {k : Nat} {s : List UInt8} (h : keyOk s) (hk : 1000 ≤ k) : F85 k s = some (none, false, 1, (keys s).map V.str) := by
  obtain ⟨h4, hl⟩ := wsAll_facts h
  have hK := kN_cases h
  have run : ∀ (c j f : Nat), kN s + 7 - j = c → j ≤ kN s + 7 → c < f → ∃ z, L85_0 k false s ((wsAll s).map V.str) none 1 f ((4 * j : Nat) : Int) (((List.range j).map fun j => ((wsAll s).flatten.drop (16 * j)).take 16).map V.str) = some (.e0 z ((keys s).map V.str)) := by
    intro c
    induction c with
    | zero =>
      intro j f hc hj hf
      obtain ⟨f, rfl⟩ : ∃ y, f = y + 1 := ⟨f - 1, by omega⟩
      rw [L85_0, List.length_map, hl, cF (by omega), show j = kN s + 7 by omega]
      exact ⟨_, rfl⟩
    | succ c ih =>
      intro j f hc hj hf
      obtain ⟨f, rfl⟩ : ∃ y, f = y + 1 := ⟨f - 1, by omega⟩
      obtain ⟨z, e⟩ := ih (j + 1) f (by omega) (by omega) (by omega)
      rw [List.range_succ, List.map_append, List.map_append] at e
      refine ⟨z, ?_⟩
      have l0 := four_at h4 (show 4 * j < (wsAll s).length by omega)
      have l1 := four_at h4 (show 4 * j + 1 < (wsAll s).length by omega)
      have l2 := four_at h4 (show 4 * j + 2 < (wsAll s).length by omega)
      have l3 := four_at h4 (show 4 * j + 3 < (wsAll s).length by omega)
      have hf4 := flat_four h4 (show 4 * j + 3 < (wsAll s).length by omega)
      rw [L85_0, List.length_map, hl, cT (by omega), gp rfl, str_at' (by omega), Option.bind_some, wi (n := ((4 * j : Nat) : Int) + 1) (by omega) (by omega), show ((4 * j : Nat) : Int) + 1 = ((4 * j + 1 : Nat) : Int) by omega, str_at' (by omega), Option.bind_some, gp (by unfold maxText; omega),
        wi (n := ((4 * j : Nat) : Int) + 2) (by omega) (by omega), show ((4 * j : Nat) : Int) + 2 = ((4 * j + 2 : Nat) : Int) by omega, str_at' (by omega), Option.bind_some, gp (by rw [List.length_append]; unfold maxText; omega),
        wi (n := ((4 * j : Nat) : Int) + 3) (by omega) (by omega), show ((4 * j : Nat) : Int) + 3 = ((4 * j + 3 : Nat) : Int) by omega, str_at' (by omega), Option.bind_some, gp (by rw [List.length_append, List.length_append]; unfold maxText; omega), gp (by rw [List.length_map, List.length_map, List.length_range]; unfold maxLen'; omega),
        wi (n := ((4 * j : Nat) : Int) + 4) (by omega) (by omega), show ((4 * j : Nat) : Int) + 4 = ((4 * (j + 1) : Nat) : Int) by omega, ← hf4]
      exact e
  unfold F85
  obtain ⟨z, e⟩ := run (kN s + 7) 0 (k + 20) (by omega) (by omega) (by omega)
  rw [g98 h (by omega), Option.bind_some]
  simp only
  have e' : L85_0 k false s ((wsAll s).map V.str) none 1 (k + 20) 0 [] = _ := e
  rw [e', Option.bind_some]
end Go.Proofs.Ae
