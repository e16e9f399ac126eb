/- DERIVED. The keys of the rounds, plainly, for both sides. -/
import Derived.Test.YtegmincienhapaaAeC
set_option linter.unusedVariables false
set_option linter.unusedSimpArgs false
set_option maxRecDepth 1000000
namespace Go.Proofs.Ae
open Go Go.Sym Go.Proofs.Fl

def rcU (n : Nat) : UInt8 := UInt8.ofNat (rc n)
theorem rcU_nat {n : Nat} (h : n < 10) : ((rcU n).toNat : Int) = ((rc n : Nat) : Int) := by
  unfold rcU; rw [UInt8.toNat_ofNat', Nat.mod_eq_of_lt (rc_lt h)]
theorem u95 {k n : Nat} (hn : n < 10) (hk : 20 ≤ k) : F95 k 2 (n : Int) = some ((rcU n).toNat : Int) := by rw [g95 hn hk, rcU_nat hn]
def kst (K i : Nat) : List UInt8 → List UInt8
  | [a, b, c, d] => if i % K = 0 then [sbU b ^^^ rcU (i / K - 1), sbU c, sbU d, sbU a] else if K = 8 ∧ i % 8 = 4 then [sbU a, sbU b, sbU c, sbU d] else [a, b, c, d]
  | l => l
theorem kst_eq (K i : Nat) (a b c d : UInt8) : kst K i [a, b, c, d] = if i % K = 0 then [sbU b ^^^ rcU (i / K - 1), sbU c, sbU d, sbU a] else if K = 8 ∧ i % 8 = 4 then [sbU a, sbU b, sbU c, sbU d] else [a, b, c, d] := rfl
def nextW (K : Nat) (ws : List (List UInt8)) : List UInt8 := xorL (ws.getD (ws.length - K) []) (kst K ws.length (ws.getD (ws.length - 1) []))
def extW (K : Nat) : Nat → List (List UInt8) → List (List UInt8)
  | 0, ws => ws
  | m + 1, ws => extW K m (ws ++ [nextW K ws])
def four (ws : List (List UInt8)) : Prop := ∀ w ∈ ws, w.length = 4
theorem len4 {s : List UInt8} (h : s.length = 4) : ∃ a b c d, s = [a, b, c, d] := by
  match s, h with
  | [a, b, c, d], _ => exact ⟨a, b, c, d, rfl⟩
theorem four_at {ws : List (List UInt8)} (h : four ws) {j : Nat} (hj : j < ws.length) : (ws.getD j []).length = 4 := by
  rw [List.getD_eq_getElem?_getD, List.getElem?_eq_getElem hj]; exact h _ (List.getElem_mem hj)
theorem kst_length {K i : Nat} {t : List UInt8} (h : t.length = 4) : (kst K i t).length = 4 := by
  obtain ⟨a, b, c, d, rfl⟩ := len4 h
  rw [kst_eq]; split
  · rfl
  · split <;> rfl
theorem nextW_length {K : Nat} {ws : List (List UInt8)} (h : four ws) (h1 : 1 ≤ K) (h2 : K ≤ ws.length) : (nextW K ws).length = 4 := by
  unfold nextW xorL
  rw [List.length_zipWith, kst_length (four_at h (by omega)), four_at h (by omega)]; rfl
theorem four_snoc {ws : List (List UInt8)} {w : List UInt8} (h : four ws) (hw : w.length = 4) : four (ws ++ [w]) := by
  intro x hx
  rcases List.mem_append.1 hx with hx | hx
  · exact h x hx
  · rw [List.mem_singleton.1 hx]; exact hw
theorem extW_facts {K : Nat} (h1 : 1 ≤ K) : ∀ (m : Nat) (ws : List (List UInt8)), four ws → K ≤ ws.length → four (extW K m ws) ∧ (extW K m ws).length = ws.length + m := by
  intro m
  induction m with
  | zero => intro ws h h2; exact ⟨h, rfl⟩
  | succ m ih =>
    intro ws h h2
    have h3 := ih (ws ++ [nextW K ws]) (four_snoc h (nextW_length h h1 h2)) (by rw [List.length_append]; omega)
    exact ⟨h3.1, by rw [extW, h3.2, List.length_append]; simp only [List.length_cons, List.length_nil]; omega⟩
theorem flat_length {ws : List (List UInt8)} (h : four ws) : ws.flatten.length = 4 * ws.length := by
  induction ws with
  | nil => rfl
  | cons w r ih =>
    rw [List.flatten_cons, List.length_append, ih (fun x hx => h x (List.mem_cons_of_mem _ hx)), h w (List.mem_cons_self ..), List.length_cons]; omega
theorem flat_drop {ws : List (List UInt8)} (h : four ws) : ∀ j, ws.flatten.drop (4 * j) = (ws.drop j).flatten := by
  induction ws with
  | nil => intro j; simp
  | cons w r ih =>
    intro j
    cases j with
    | zero => rfl
    | succ j =>
      rw [List.flatten_cons, List.drop_succ_cons, List.drop_append, h w (List.mem_cons_self ..), show 4 * (j + 1) - 4 = 4 * j by omega, ih (fun x hx => h x (List.mem_cons_of_mem _ hx)), List.drop_eq_nil_of_le (by rw [h w (List.mem_cons_self ..)]; omega), List.nil_append]
theorem flat_take {w : List UInt8} {r : List (List UInt8)} (h : w.length = 4) (n : Nat) : (w :: r).flatten.take (n + 4) = w ++ r.flatten.take n := by
  rw [List.flatten_cons, List.take_append, h, List.take_of_length_le (by omega), show n + 4 - 4 = n by omega]
theorem ft4 {w : List UInt8} {r : List (List UInt8)} (h : w.length = 4) : (w :: r).flatten.take 4 = w := by rw [flat_take (n := 0) h, List.take_zero, List.append_nil]
theorem flat_word {ws : List (List UInt8)} (h : four ws) {j : Nat} (hj : j < ws.length) : (ws.flatten.drop (4 * j)).take 4 = ws.getD j [] := by
  rw [flat_drop h, List.drop_eq_getElem_cons hj, ft4 (h _ (List.getElem_mem hj)), List.getD_eq_getElem?_getD, List.getElem?_eq_getElem hj]; rfl
theorem flat_at {ws : List (List UInt8)} (h : four ws) {j r : Nat} (hj : j < ws.length) (hr : r < 4) : ws.flatten[4 * j + r]? = (ws.getD j [])[r]? := by
  rw [← flat_word h hj, List.getElem?_take_of_lt hr, List.getElem?_drop]
def w0 (s : List UInt8) : List (List UInt8) := (List.range (s.length / 4)).map fun i => (s.drop (4 * i)).take 4
theorem w0_four {s : List UInt8} : four (w0 s) := by
  intro w hw
  obtain ⟨i, hi, rfl⟩ := List.mem_map.1 hw
  have := List.mem_range.1 hi
  rw [List.length_take, List.length_drop]; omega
theorem w0_length (s : List UInt8) : (w0 s).length = s.length / 4 := by simp [w0]
theorem w0_flat {s : List UInt8} (n : Nat) : ((List.range n).map fun i => (s.drop (4 * i)).take 4).flatten = s.take (4 * n) := by
  induction n with
  | zero => rfl
  | succ n ih => rw [List.range_succ, List.map_append, List.flatten_append, ih, show 4 * (n + 1) = 4 * n + 4 by omega, List.take_add]; simp
theorem w0_flatten {s : List UInt8} (h : s.length % 4 = 0) : (w0 s).flatten = s := by
  unfold w0; rw [w0_flat, List.take_of_length_le (by omega)]
def keyOk (s : List UInt8) : Prop := s.length = 16 ∨ s.length = 32
def kN (s : List UInt8) : Nat := s.length / 4
def wsAll (s : List UInt8) : List (List UInt8) := extW (kN s) (4 * (kN s + 7) - kN s) (w0 s)
def keys (s : List UInt8) : List (List UInt8) := (List.range (kN s + 7)).map fun j => ((wsAll s).flatten.drop (16 * j)).take 16
theorem wsAll_facts {s : List UInt8} (h : keyOk s) : four (wsAll s) ∧ (wsAll s).length = 4 * (kN s + 7) := by
  have hk : kN s = 4 ∨ kN s = 8 := by unfold kN; rcases h with h | h <;> rw [h] <;> simp
  have := extW_facts (K := kN s) (by omega) (4 * (kN s + 7) - kN s) (w0 s) w0_four (by rw [w0_length]; exact Nat.le_refl _)
  refine ⟨this.1, ?_⟩
  unfold wsAll
  rw [this.2, w0_length]; unfold kN; rcases h with h | h <;> rw [h]
theorem keys_length (s : List UInt8) : (keys s).length = kN s + 7 := by simp [keys]
theorem keys_16 {s q : List UInt8} (h : keyOk s) (hq : q ∈ keys s) : q.length = 16 := by
  obtain ⟨j, hj, rfl⟩ := List.mem_map.1 hq
  have h1 := wsAll_facts h
  have := List.mem_range.1 hj
  rw [List.length_take, List.length_drop, flat_length h1.1, h1.2]; omega
theorem w_len {s : List UInt8} (h : keyOk s) : IntKind.i64.wrap ((s.length : Int).tdiv 4) = ((kN s : Nat) : Int) := by
  unfold kN; rcases h with h | h <;> rw [h] <;> rfl
theorem kN_cases {s : List UInt8} (h : keyOk s) : kN s = 4 ∨ kN s = 8 := by unfold kN; rcases h with h | h <;> rw [h] <;> simp

theorem str_at' {l : List (List UInt8)} {i : Nat} (h : i < l.length) : (at? (l.map V.str) (i : Int)).bind dS = some (l.getD i []) := by
  rw [at_map h, List.getD_eq_getElem?_getD, List.getElem?_eq_getElem h]; rfl
theorem getD_lt {ws : List (List UInt8)} {j : Nat} (h : j < ws.length) : ws.getD j [] = ws[j] := by
  rw [List.getD_eq_getElem?_getD, List.getElem?_eq_getElem h]; rfl
end Go.Proofs.Ae
