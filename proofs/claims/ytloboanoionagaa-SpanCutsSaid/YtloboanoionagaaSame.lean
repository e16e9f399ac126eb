/-
  The contract of ref.Same: of any two slices of spans it tells whether they are the same.
-/
import Derived.Test.YtloboanoionagaaBase
set_option linter.unusedVariables false
set_option linter.unusedSimpArgs false
namespace Go.Proofs
open Go.Sym

def isSpan (x : V) : Prop := ∃ a b, x = V.agg [V.int IntKind.u64 a, V.int IntKind.u64 b]
def eqS : V → V → Bool
  | .agg [.int _ a, .int _ b], .agg [.int _ c, .int _ d] => decide (a = c) && (decide (b = d) && true)
  | _, _ => false
def sameS : List V → List V → Bool
  | [], [] => true
  | x :: xs, y :: ys => eqS x y && sameS xs ys
  | _, _ => false

theorem b17_0 (n : Option Bool) (m : Option Bool) (cn : Bool) (cm : Bool) (s : Nat) (t : Nat) (xs : List V) (ys : List V) (i : Nat) (a : Int) (b : Int) (c : Int) (d : Int) (K : Nat)
    (c0 : decide ((↑i : Int) < (↑xs.length : Int)) = true)
    (c1 : IdxP xs (↑i : Int) s 2 (V.agg [V.int IntKind.u64 a, V.int IntKind.u64 b]))
    (c2 : IdxP ys (↑i : Int) t 2 (V.agg [V.int IntKind.u64 c, V.int IntKind.u64 d]))
    (c3 : (!(decide (a = c) && (decide (b = d) && true))) = true) :
    evalCode Try.prog Try.cfg (evalFn Try.prog Try.cfg K) 0 (Try.cfg.fc 17) K (loopBody Try.f17 0) { tm := [(0, V.sl n cn s xs), (1, V.sl m cm t ys), (4, V.bool false), (10, V.bool false), (12, V.int IntKind.i64 (↑xs.length : Int)), (13, V.int IntKind.i64 (↑i : Int))], hp := [], nx := 0 } = some ((Exit.ret, { tm := [(0, V.sl n cn s xs), (1, V.sl m cm t ys), (4, V.bool false), (5, V.int IntKind.i64 (↑i : Int)), (10, V.bool false), (12, V.int IntKind.i64 (↑xs.length : Int)), (13, V.int IntKind.i64 (↑i : Int)), (14, V.bool true), (24, V.bool true)], hp := [], nx := 52 })) :=
  byC [Hint.br 14 true, Hint.op 18 ((V.agg [V.int IntKind.u64 a, V.int IntKind.u64 b]).cpt 0) [], Hint.op 22 ((V.agg [V.int IntKind.u64 c, V.int IntKind.u64 d]).cpt 0) [], Hint.br 24 true] ((decide ((↑i : Int) < (↑xs.length : Int)) = true) ∧ (IdxP xs (↑i : Int) s 2 (V.agg [V.int IntKind.u64 a, V.int IntKind.u64 b])) ∧ (IdxP ys (↑i : Int) t 2 (V.agg [V.int IntKind.u64 c, V.int IntKind.u64 d])) ∧ ((!(decide (a = c) && (decide (b = d) && true))) = true) ∧ True) (by kernel_rfl) ⟨c0, c1, c2, c3, trivial⟩
theorem b17_1 (n : Option Bool) (m : Option Bool) (cn : Bool) (cm : Bool) (s : Nat) (t : Nat) (xs : List V) (ys : List V) (i : Nat) (a : Int) (b : Int) (c : Int) (d : Int) (K : Nat)
    (c0 : decide ((↑i : Int) < (↑xs.length : Int)) = true)
    (c1 : IdxP xs (↑i : Int) s 2 (V.agg [V.int IntKind.u64 a, V.int IntKind.u64 b]))
    (c2 : IdxP ys (↑i : Int) t 2 (V.agg [V.int IntKind.u64 c, V.int IntKind.u64 d]))
    (c3 : (!(decide (a = c) && (decide (b = d) && true))) = false) :
    evalCode Try.prog Try.cfg (evalFn Try.prog Try.cfg K) 0 (Try.cfg.fc 17) K (loopBody Try.f17 0) { tm := [(0, V.sl n cn s xs), (1, V.sl m cm t ys), (4, V.bool false), (10, V.bool false), (12, V.int IntKind.i64 (↑xs.length : Int)), (13, V.int IntKind.i64 (↑i : Int))], hp := [], nx := 0 } = some ((Exit.normal, { tm := [(0, V.sl n cn s xs), (1, V.sl m cm t ys), (4, V.bool false), (5, V.int IntKind.i64 (↑i : Int)), (10, V.bool false), (12, V.int IntKind.i64 (↑xs.length : Int)), (13, V.int IntKind.i64 (IntKind.i64.wrap ((↑i : Int) + 1))), (14, V.bool true), (24, V.bool false)], hp := [], nx := 56 })) :=
  byC [Hint.br 14 true, Hint.op 18 ((V.agg [V.int IntKind.u64 a, V.int IntKind.u64 b]).cpt 0) [], Hint.op 22 ((V.agg [V.int IntKind.u64 c, V.int IntKind.u64 d]).cpt 0) [], Hint.br 24 false] ((decide ((↑i : Int) < (↑xs.length : Int)) = true) ∧ (IdxP xs (↑i : Int) s 2 (V.agg [V.int IntKind.u64 a, V.int IntKind.u64 b])) ∧ (IdxP ys (↑i : Int) t 2 (V.agg [V.int IntKind.u64 c, V.int IntKind.u64 d])) ∧ ((!(decide (a = c) && (decide (b = d) && true))) = false) ∧ True) (by kernel_rfl) ⟨c0, c1, c2, c3, trivial⟩
theorem b17_1h (n : Option Bool) (m : Option Bool) (cn : Bool) (cm : Bool) (s : Nat) (t : Nat) (xs : List V) (ys : List V) (i : Nat) (a : Int) (b : Int) (c : Int) (d : Int) : head 0 [0, 1, 4, 10, 12, 13] (Try.cfg.fc 17).acc { tm := [(0, V.sl n cn s xs), (1, V.sl m cm t ys), (4, V.bool false), (5, V.int IntKind.i64 (↑i : Int)), (10, V.bool false), (12, V.int IntKind.i64 (↑xs.length : Int)), (13, V.int IntKind.i64 (IntKind.i64.wrap ((↑i : Int) + 1))), (14, V.bool true), (24, V.bool false)], hp := [], nx := 56 } = { tm := [(0, V.sl n cn s xs), (1, V.sl m cm t ys), (4, V.bool false), (10, V.bool false), (12, V.int IntKind.i64 (↑xs.length : Int)), (13, V.int IntKind.i64 (IntKind.i64.wrap ((↑i : Int) + 1)))], hp := [], nx := 0 } := by kernel_rfl
theorem b17_2 (n : Option Bool) (m : Option Bool) (cn : Bool) (cm : Bool) (s : Nat) (t : Nat) (xs : List V) (ys : List V) (i : Nat) (a : Int) (b : Int) (c : Int) (d : Int) (K : Nat)
    (c0 : decide ((↑i : Int) < (↑xs.length : Int)) = false) :
    evalCode Try.prog Try.cfg (evalFn Try.prog Try.cfg K) 0 (Try.cfg.fc 17) K (loopBody Try.f17 0) { tm := [(0, V.sl n cn s xs), (1, V.sl m cm t ys), (4, V.bool false), (10, V.bool false), (12, V.int IntKind.i64 (↑xs.length : Int)), (13, V.int IntKind.i64 (↑i : Int))], hp := [], nx := 0 } = some ((Exit.exit 0, { tm := [(0, V.sl n cn s xs), (1, V.sl m cm t ys), (4, V.bool false), (10, V.bool false), (12, V.int IntKind.i64 (↑xs.length : Int)), (13, V.int IntKind.i64 (↑i : Int)), (14, V.bool false)], hp := [], nx := 4 })) :=
  byC [Hint.br 14 false] ((decide ((↑i : Int) < (↑xs.length : Int)) = false) ∧ True) (by kernel_rfl) ⟨c0, trivial⟩
theorem p17t_0 (n : Option Bool) (m : Option Bool) (cn : Bool) (cm : Bool) (s : Nat) (t : Nat) (xs : List V) (ys : List V) (k : Nat)
    (c0 : (!decide ((↑xs.length : Int) = (↑ys.length : Int))) = true) :
    callP (evalFn Try.prog Try.cfg (k + 1)) 17 [V.sl n cn s xs, V.sl m cm t ys] = some (V.bool false) :=
  byP [Hint.br 10 true] (((!decide ((↑xs.length : Int) = (↑ys.length : Int))) = true) ∧ True) (by kernel_rfl) ⟨c0, trivial⟩
theorem p17t_1 (n : Option Bool) (m : Option Bool) (cn : Bool) (cm : Bool) (s : Nat) (t : Nat) (xs : List V) (ys : List V) (k : Nat)
    (c0 : (!decide ((↑xs.length : Int) = (↑ys.length : Int))) = false)
    (c1 : Loops Try.prog Try.cfg k Try.f17 (Try.cfg.fc 17) 0 [0, 1, 4, 10, 12, 13] k { tm := [(0, V.sl n cn s xs), (1, V.sl m cm t ys), (4, V.bool false), (10, V.bool false), (12, V.int IntKind.i64 (↑xs.length : Int)), (13, V.int IntKind.i64 0)], hp := [], nx := 0 } (Exit.exit 0, { tm := [(0, V.sl n cn s xs), (1, V.sl m cm t ys), (4, V.bool false), (10, V.bool false), (12, V.int IntKind.i64 (↑xs.length : Int)), (13, V.int IntKind.i64 (↑xs.length : Int)), (14, V.bool false)], hp := [], nx := 4 })) :
    callP (evalFn Try.prog Try.cfg (k + 1)) 17 [V.sl n cn s xs, V.sl m cm t ys] = some (V.bool true) :=
  byP [Hint.br 10 false, Hint.loop (Exit.exit 0, { tm := [(0, V.sl n cn s xs), (1, V.sl m cm t ys), (4, V.bool false), (10, V.bool false), (12, V.int IntKind.i64 (↑xs.length : Int)), (13, V.int IntKind.i64 (↑xs.length : Int)), (14, V.bool false)], hp := [], nx := 4 })] (((!decide ((↑xs.length : Int) = (↑ys.length : Int))) = false) ∧ (Loops Try.prog Try.cfg k Try.f17 (Try.cfg.fc 17) 0 [0, 1, 4, 10, 12, 13] k { tm := [(0, V.sl n cn s xs), (1, V.sl m cm t ys), (4, V.bool false), (10, V.bool false), (12, V.int IntKind.i64 (↑xs.length : Int)), (13, V.int IntKind.i64 0)], hp := [], nx := 0 } (Exit.exit 0, { tm := [(0, V.sl n cn s xs), (1, V.sl m cm t ys), (4, V.bool false), (10, V.bool false), (12, V.int IntKind.i64 (↑xs.length : Int)), (13, V.int IntKind.i64 (↑xs.length : Int)), (14, V.bool false)], hp := [], nx := 4 })) ∧ True) (by kernel_rfl) ⟨c0, c1, trivial⟩
theorem p17f_1 (n : Option Bool) (m : Option Bool) (cn : Bool) (cm : Bool) (s : Nat) (t : Nat) (xs : List V) (ys : List V) (i : Nat) (k : Nat)
    (c0 : (!decide ((↑xs.length : Int) = (↑ys.length : Int))) = false)
    (c1 : Loops Try.prog Try.cfg k Try.f17 (Try.cfg.fc 17) 0 [0, 1, 4, 10, 12, 13] k { tm := [(0, V.sl n cn s xs), (1, V.sl m cm t ys), (4, V.bool false), (10, V.bool false), (12, V.int IntKind.i64 (↑xs.length : Int)), (13, V.int IntKind.i64 0)], hp := [], nx := 0 } (Exit.ret, { tm := [(0, V.sl n cn s xs), (1, V.sl m cm t ys), (4, V.bool false), (5, V.int IntKind.i64 (↑i : Int)), (10, V.bool false), (12, V.int IntKind.i64 (↑xs.length : Int)), (13, V.int IntKind.i64 (↑i : Int)), (14, V.bool true), (24, V.bool true)], hp := [], nx := 52 })) :
    callP (evalFn Try.prog Try.cfg (k + 1)) 17 [V.sl n cn s xs, V.sl m cm t ys] = some (V.bool false) :=
  byP [Hint.br 10 false, Hint.loop (Exit.ret, { tm := [(0, V.sl n cn s xs), (1, V.sl m cm t ys), (4, V.bool false), (5, V.int IntKind.i64 (↑i : Int)), (10, V.bool false), (12, V.int IntKind.i64 (↑xs.length : Int)), (13, V.int IntKind.i64 (↑i : Int)), (14, V.bool true), (24, V.bool true)], hp := [], nx := 52 })] (((!decide ((↑xs.length : Int) = (↑ys.length : Int))) = false) ∧ (Loops Try.prog Try.cfg k Try.f17 (Try.cfg.fc 17) 0 [0, 1, 4, 10, 12, 13] k { tm := [(0, V.sl n cn s xs), (1, V.sl m cm t ys), (4, V.bool false), (10, V.bool false), (12, V.int IntKind.i64 (↑xs.length : Int)), (13, V.int IntKind.i64 0)], hp := [], nx := 0 } (Exit.ret, { tm := [(0, V.sl n cn s xs), (1, V.sl m cm t ys), (4, V.bool false), (5, V.int IntKind.i64 (↑i : Int)), (10, V.bool false), (12, V.int IntKind.i64 (↑xs.length : Int)), (13, V.int IntKind.i64 (↑i : Int)), (14, V.bool true), (24, V.bool true)], hp := [], nx := 52 })) ∧ True) (by kernel_rfl) ⟨c0, c1, trivial⟩

theorem wrap_i64 {n : Int} (h1 : -9223372036854775808 ≤ n) (h2 : n < 9223372036854775808) : IntKind.i64.wrap n = n := by
  simp only [IntKind.wrap, IntKind.signed, IntKind.bits, Bool.true_and, decide_eq_true_eq]
  have e' : (2 : Int) ^ (64 - 1) = 9223372036854775808 := by decide
  split
  · rename_i h
    have h := of_decide_eq_true h
    rw [e'] at h
    omega
  · rename_i h
    have h : ¬ (n % 2 ^ 64 ≥ (2 : Int) ^ (64 - 1)) := fun hh => h (decide_eq_true hh)
    rw [e'] at h
    omega

theorem loop17 {n m : Option Bool} {cn cm : Bool} {s t : Nat} {xs ys : List V} (hl : xs.length = ys.length) (hb : xs.length ≤ maxLen) (hx : ∀ x ∈ xs, isSpan x) (hy : ∀ y ∈ ys, isSpan y) (hs : xs ≠ [] → s = 2) (ht : ys ≠ [] → t = 2) (K : Nat) :
    ∀ (r i f : Nat), xs.length - i = r → i ≤ xs.length → r < f →
      if sameS (xs.drop i) (ys.drop i) = true then
        Loops Try.prog Try.cfg K Try.f17 (Try.cfg.fc 17) 0 [0, 1, 4, 10, 12, 13] f { tm := [(0, V.sl n cn s xs), (1, V.sl m cm t ys), (4, V.bool false), (10, V.bool false), (12, V.int IntKind.i64 ↑xs.length), (13, V.int IntKind.i64 ↑i)], hp := [], nx := 0 }
          (Exit.exit 0, { tm := [(0, V.sl n cn s xs), (1, V.sl m cm t ys), (4, V.bool false), (10, V.bool false), (12, V.int IntKind.i64 ↑xs.length), (13, V.int IntKind.i64 ↑xs.length), (14, V.bool false)], hp := [], nx := 4 })
      else ∃ j : Nat, Loops Try.prog Try.cfg K Try.f17 (Try.cfg.fc 17) 0 [0, 1, 4, 10, 12, 13] f { tm := [(0, V.sl n cn s xs), (1, V.sl m cm t ys), (4, V.bool false), (10, V.bool false), (12, V.int IntKind.i64 ↑xs.length), (13, V.int IntKind.i64 ↑i)], hp := [], nx := 0 }
          (Exit.ret, { tm := [(0, V.sl n cn s xs), (1, V.sl m cm t ys), (4, V.bool false), (5, V.int IntKind.i64 ↑j), (10, V.bool false), (12, V.int IntKind.i64 ↑xs.length), (13, V.int IntKind.i64 ↑j), (14, V.bool true), (24, V.bool true)], hp := [], nx := 52 }) := by
  intro r
  induction r with
  | zero =>
    intro i f hr hi hf
    obtain ⟨f, rfl⟩ : ∃ g, f = g + 1 := ⟨f - 1, by omega⟩
    have : i = xs.length := by omega
    subst this
    rw [List.drop_length, hl, List.drop_length]
    simp only [sameS, if_true]
    rw [← hl]
    exact Loops.done (b17_2 n m cn cm s t xs ys xs.length 0 0 0 0 K (decide_eq_false (by omega))) (by simp)
  | succ r ih =>
    intro i f hr hi hf
    obtain ⟨f, rfl⟩ : ∃ g, f = g + 1 := ⟨f - 1, by omega⟩
    have hi1 : i < xs.length := by omega
    have hi2 : i < ys.length := by omega
    have ex : xs[i]? = some xs[i] := List.getElem?_eq_getElem hi1
    have ey : ys[i]? = some ys[i] := List.getElem?_eq_getElem hi2
    obtain ⟨a, b, hab⟩ := hx xs[i] (List.getElem_mem hi1)
    obtain ⟨c, d, hcd⟩ := hy ys[i] (List.getElem_mem hi2)
    have hs2 : s = 2 := hs (by intro h; rw [h] at hi1; simp at hi1)
    have ht2 : t = 2 := ht (by intro h; rw [h] at hi2; simp at hi2)
    rw [hab] at ex
    rw [hcd] at ey
    have e1 : xs.drop i = V.agg [V.int IntKind.u64 a, V.int IntKind.u64 b] :: xs.drop (i + 1) := by rw [← hab]; exact List.drop_eq_getElem_cons hi1
    have e2 : ys.drop i = V.agg [V.int IntKind.u64 c, V.int IntKind.u64 d] :: ys.drop (i + 1) := by rw [← hcd]; exact List.drop_eq_getElem_cons hi2
    rw [e1, e2]
    simp only [sameS, eqS]
    have hlt : decide ((i : Int) < (xs.length : Int)) = true := decide_eq_true (by omega)
    rcases Bool.eq_false_or_eq_true (decide (a = c) && (decide (b = d) && true)) with he | he
    case inr =>
      simp only [he, Bool.false_and, Bool.false_eq_true, if_false]
      exact ⟨i, Loops.done (b17_0 n m cn cm s t xs ys i a b c d K hlt (IdxP.mk ex hs2) (IdxP.mk ey ht2) (by rw [he]; rfl)) (by simp)⟩
    case inl =>
      simp only [he, Bool.true_and]
      have hw : IntKind.i64.wrap ((i : Int) + 1) = ((i + 1 : Nat) : Int) := by
        have hb' : xs.length ≤ 9223372036854775807 := hb
        rw [wrap_i64 (by omega) (by omega)]; omega
      have hn := ih (i + 1) f (by omega) (by omega) (by omega)
      have hstep := b17_1 n m cn cm s t xs ys i a b c d K hlt (IdxP.mk ex hs2) (IdxP.mk ey ht2) (by rw [he]; rfl)
      have hhd := b17_1h n m cn cm s t xs ys i a b c d
      rw [hw] at hstep hhd
      split
      · rename_i hs
        rw [if_pos hs] at hn
        exact Loops.next hstep hhd hn
      · rename_i hs
        rw [if_neg hs] at hn
        obtain ⟨j, hj⟩ := hn
        exact ⟨j, Loops.next hstep hhd hj⟩

theorem sameS_length : ∀ {xs ys : List V}, sameS xs ys = true → xs.length = ys.length := by
  intro xs
  induction xs with
  | nil => intro ys h; cases ys with | nil => rfl | cons y ys => simp [sameS] at h
  | cons x xs ih =>
    intro ys h
    cases ys with
    | nil => simp [sameS] at h
    | cons y ys => simp only [sameS, Bool.and_eq_true] at h; simp [ih h.2]

theorem h17 {n m : Option Bool} {cn cm : Bool} {s t : Nat} {xs ys : List V} (hb : xs.length ≤ maxLen) (hx : ∀ x ∈ xs, isSpan x) (hy : ∀ y ∈ ys, isSpan y) (hs : xs ≠ [] → s = 2) (ht : ys ≠ [] → t = 2) {k : Nat} (hk : xs.length < k) :
    callP (evalFn Try.prog Try.cfg (k + 1)) 17 [V.sl n cn s xs, V.sl m cm t ys] = some (V.bool (sameS xs ys)) := by
  by_cases hl : xs.length = ys.length
  · have h := loop17 (n := n) (m := m) (cn := cn) (cm := cm) (s := s) (t := t) hl hb hx hy hs ht k xs.length 0 k (by omega) (by omega) hk
    simp only [List.drop_zero] at h
    split at h
    · rename_i hs
      rw [hs]
      exact p17t_1 n m cn cm s t xs ys k (by simp [hl]) h
    · rename_i hs
      obtain ⟨j, hj⟩ := h
      have : sameS xs ys = false := by simpa using hs
      rw [this]
      exact p17f_1 n m cn cm s t xs ys j k (by simp [hl]) hj
  · have : sameS xs ys = false := by
      cases hs : sameS xs ys with
      | false => rfl
      | true => exact absurd (sameS_length hs) hl
    rw [this]
    exact p17t_0 n m cn cm s t xs ys k (by
      have : ¬ ((xs.length : Int) = ys.length) := by omega
      simp [this])
end Go.Proofs
