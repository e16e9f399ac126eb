/-
  What functions of this seat answer, found by a program and checked here path by path.
-/
import Derived.Test.YtloboanoionagaaBase
set_option linter.unusedVariables false
namespace Go.Proofs
open Go.Sym

def i12_0 (a : Int) (b : Int) : Int := bif decide (b = 0) then 1 else bif decide (IntKind.u64.wrap (IntKind.u64.wrap (a + b) - 1) < a) then 2 else 0
theorem p12_0 (a : Int) (b : Int) (k : Nat)
    (c0 : decide (b = 0) = true) :
    callP (evalFn Try.prog Try.cfg (k + 1)) 12 [V.agg [V.int IntKind.u64 a, V.int IntKind.u64 b]] = some (V.int IntKind.i64 1) :=
  byP [Hint.br 3 true] ((decide (b = 0) = true) ∧ True) (by kernel_rfl) ⟨c0, trivial⟩
theorem p12_1 (a : Int) (b : Int) (k : Nat)
    (c0 : decide (b = 0) = false)
    (c1 : decide (IntKind.u64.wrap (IntKind.u64.wrap (a + b) - 1) < a) = true) :
    callP (evalFn Try.prog Try.cfg (k + 1)) 12 [V.agg [V.int IntKind.u64 a, V.int IntKind.u64 b]] = some (V.int IntKind.i64 2) :=
  byP [Hint.br 3 false, Hint.br 7 true] ((decide (b = 0) = false) ∧ (decide (IntKind.u64.wrap (IntKind.u64.wrap (a + b) - 1) < a) = true) ∧ True) (by kernel_rfl) ⟨c0, c1, trivial⟩
theorem p12_2 (a : Int) (b : Int) (k : Nat)
    (c0 : decide (b = 0) = false)
    (c1 : decide (IntKind.u64.wrap (IntKind.u64.wrap (a + b) - 1) < a) = false) :
    callP (evalFn Try.prog Try.cfg (k + 1)) 12 [V.agg [V.int IntKind.u64 a, V.int IntKind.u64 b]] = some (V.int IntKind.i64 0) :=
  byP [Hint.br 3 false, Hint.br 7 false] ((decide (b = 0) = false) ∧ (decide (IntKind.u64.wrap (IntKind.u64.wrap (a + b) - 1) < a) = false) ∧ True) (by kernel_rfl) ⟨c0, c1, trivial⟩
theorem h12 (a : Int) (b : Int) (k : Nat) : callP (evalFn Try.prog Try.cfg (k + 1)) 12 [V.agg [V.int IntKind.u64 a, V.int IntKind.u64 b]] = some (V.int IntKind.i64 (i12_0 a b)) := by
  unfold i12_0
  cases d5000 : (decide (b = 0)) with
  | true =>
    exact p12_0 a b (k + 0) d5000
  | false =>
    cases d15000 : (decide (IntKind.u64.wrap (IntKind.u64.wrap (a + b) - 1) < a)) with
    | true =>
      exact p12_1 a b (k + 0) d5000 d15000
    | false =>
      exact p12_2 a b (k + 0) d5000 d15000
def i28_0 (a : Int) (b : Int) : Int := IntKind.u64.wrap (IntKind.u64.wrap (a + b) - 1)
theorem p28_0 (a : Int) (b : Int) (k : Nat) :
    callP (evalFn Try.prog Try.cfg (k + 1)) 28 [V.agg [V.int IntKind.u64 a, V.int IntKind.u64 b]] = some (V.agg [V.int IntKind.u64 a, V.int IntKind.u64 (IntKind.u64.wrap (IntKind.u64.wrap (a + b) - 1))]) :=
  byP [] (True) (by kernel_rfl) trivial
theorem h28 (a : Int) (b : Int) (k : Nat) : callP (evalFn Try.prog Try.cfg (k + 1)) 28 [V.agg [V.int IntKind.u64 a, V.int IntKind.u64 b]] = some (V.agg [V.int IntKind.u64 a, V.int IntKind.u64 (i28_0 a b)]) := by
  unfold i28_0
  exact p28_0 a b (k + 0)
def i10_0 (a : Int) (b : Int) : Int := bif decide (b = 0) then 1 else bif decide (IntKind.u64.wrap (18446744073709551615 - a) < IntKind.u64.wrap (b - 1)) then 2 else 0
theorem p10_0 (a : Int) (b : Int) (k : Nat)
    (c0 : decide (b = 0) = true) :
    callP (evalFn Try.prog Try.cfg (k + 1)) 10 [V.agg [V.int IntKind.u64 a, V.int IntKind.u64 b]] = some (V.int IntKind.i64 1) :=
  byP [Hint.br 5 true] ((decide (b = 0) = true) ∧ True) (by kernel_rfl) ⟨c0, trivial⟩
theorem p10_1 (a : Int) (b : Int) (k : Nat)
    (c0 : decide (b = 0) = false)
    (c1 : decide (IntKind.u64.wrap (18446744073709551615 - a) < IntKind.u64.wrap (b - 1)) = true) :
    callP (evalFn Try.prog Try.cfg (k + 1)) 10 [V.agg [V.int IntKind.u64 a, V.int IntKind.u64 b]] = some (V.int IntKind.i64 2) :=
  byP [Hint.br 5 false, Hint.br 12 true] ((decide (b = 0) = false) ∧ (decide (IntKind.u64.wrap (18446744073709551615 - a) < IntKind.u64.wrap (b - 1)) = true) ∧ True) (by kernel_rfl) ⟨c0, c1, trivial⟩
theorem p10_2 (a : Int) (b : Int) (k : Nat)
    (c0 : decide (b = 0) = false)
    (c1 : decide (IntKind.u64.wrap (18446744073709551615 - a) < IntKind.u64.wrap (b - 1)) = false) :
    callP (evalFn Try.prog Try.cfg (k + 1)) 10 [V.agg [V.int IntKind.u64 a, V.int IntKind.u64 b]] = some (V.int IntKind.i64 0) :=
  byP [Hint.br 5 false, Hint.br 12 false] ((decide (b = 0) = false) ∧ (decide (IntKind.u64.wrap (18446744073709551615 - a) < IntKind.u64.wrap (b - 1)) = false) ∧ True) (by kernel_rfl) ⟨c0, c1, trivial⟩
theorem h10 (a : Int) (b : Int) (k : Nat) : callP (evalFn Try.prog Try.cfg (k + 1)) 10 [V.agg [V.int IntKind.u64 a, V.int IntKind.u64 b]] = some (V.int IntKind.i64 (i10_0 a b)) := by
  unfold i10_0
  cases d4000 : (decide (b = 0)) with
  | true =>
    exact p10_0 a b (k + 0) d4000
  | false =>
    cases d11000 : (decide (IntKind.u64.wrap (18446744073709551615 - a) < IntKind.u64.wrap (b - 1))) with
    | true =>
      exact p10_1 a b (k + 0) d4000 d11000
    | false =>
      exact p10_2 a b (k + 0) d4000 d11000
def i13_0 (a : Int) (b : Int) : Int := IntKind.u64.wrap (a + IntKind.u64.wrap (b - 1))
theorem p13_0 (a : Int) (b : Int) (k : Nat) :
    callP (evalFn Try.prog Try.cfg (k + 1)) 13 [V.agg [V.int IntKind.u64 a, V.int IntKind.u64 b]] = some (V.int IntKind.u64 (IntKind.u64.wrap (a + IntKind.u64.wrap (b - 1)))) :=
  byP [] (True) (by kernel_rfl) trivial
theorem h13 (a : Int) (b : Int) (k : Nat) : callP (evalFn Try.prog Try.cfg (k + 1)) 13 [V.agg [V.int IntKind.u64 a, V.int IntKind.u64 b]] = some (V.int IntKind.u64 (i13_0 a b)) := by
  unfold i13_0
  exact p13_0 a b (k + 0)
def i22_0 (a : Int) (b : Int) : Int := IntKind.u64.wrap (IntKind.u64.wrap (b - a) + 1)
theorem p22_0 (a : Int) (b : Int) (k : Nat) :
    callP (evalFn Try.prog Try.cfg (k + 1)) 22 [V.int IntKind.u64 a, V.int IntKind.u64 b] = some (V.agg [V.int IntKind.u64 a, V.int IntKind.u64 (IntKind.u64.wrap (IntKind.u64.wrap (b - a) + 1))]) :=
  byP [] (True) (by kernel_rfl) trivial
theorem h22 (a : Int) (b : Int) (k : Nat) : callP (evalFn Try.prog Try.cfg (k + 1)) 22 [V.int IntKind.u64 a, V.int IntKind.u64 b] = some (V.agg [V.int IntKind.u64 a, V.int IntKind.u64 (i22_0 a b)]) := by
  unfold i22_0
  exact p22_0 a b (k + 0)
def i30_0 (a : Int) (b : Int) : Int := IntKind.u64.wrap (IntKind.u64.wrap (b - a) + 1)
theorem p30_0 (a : Int) (b : Int) (k : Nat) :
    callP (evalFn Try.prog Try.cfg (k + 1)) 30 [V.agg [V.int IntKind.u64 a, V.int IntKind.u64 b]] = some (V.agg [V.int IntKind.u64 a, V.int IntKind.u64 (IntKind.u64.wrap (IntKind.u64.wrap (b - a) + 1))]) :=
  byP [] (True) (by kernel_rfl) trivial
theorem h30 (a : Int) (b : Int) (k : Nat) : callP (evalFn Try.prog Try.cfg (k + 1)) 30 [V.agg [V.int IntKind.u64 a, V.int IntKind.u64 b]] = some (V.agg [V.int IntKind.u64 a, V.int IntKind.u64 (i30_0 a b)]) := by
  unfold i30_0
  exact p30_0 a b (k + 0)
def i31_0 (n : Int) (a : Int) (b : Int) : Bool := decide (a ≤ n) && decide (n ≤ i13_0 a b)
theorem p31_0 (n : Int) (a : Int) (b : Int) (k : Nat)
    (c0 : decide (a ≤ n) = true)
    (c1 : callP (evalFn Try.prog Try.cfg k) 13 [V.agg [V.int IntKind.u64 a, V.int IntKind.u64 b]] = some (V.int IntKind.u64 (i13_0 a b))) :
    callP (evalFn Try.prog Try.cfg (k + 1)) 31 [V.int IntKind.u64 n, V.agg [V.int IntKind.u64 a, V.int IntKind.u64 b]] = some (V.bool (decide (n ≤ i13_0 a b))) :=
  byP [Hint.br 9 true, Hint.call 12 (V.int IntKind.u64 (i13_0 a b))] ((decide (a ≤ n) = true) ∧ (callP (evalFn Try.prog Try.cfg k) 13 [V.agg [V.int IntKind.u64 a, V.int IntKind.u64 b]] = some (V.int IntKind.u64 (i13_0 a b))) ∧ True) (by kernel_rfl) ⟨c0, c1, trivial⟩
theorem p31_1 (n : Int) (a : Int) (b : Int) (k : Nat)
    (c0 : decide (a ≤ n) = false) :
    callP (evalFn Try.prog Try.cfg (k + 1)) 31 [V.int IntKind.u64 n, V.agg [V.int IntKind.u64 a, V.int IntKind.u64 b]] = some (V.bool false) :=
  byP [Hint.br 9 false] ((decide (a ≤ n) = false) ∧ True) (by kernel_rfl) ⟨c0, trivial⟩
theorem h31 (n : Int) (a : Int) (b : Int) (k : Nat) : callP (evalFn Try.prog Try.cfg (k + 2)) 31 [V.int IntKind.u64 n, V.agg [V.int IntKind.u64 a, V.int IntKind.u64 b]] = some (V.bool (i31_0 n a b)) := by
  unfold i31_0
  cases d6000 : (decide (a ≤ n)) with
  | true =>
    exact p31_0 n a b (k + 1) d6000 (h13 _ _ (k + 0))
  | false =>
    exact p31_1 n a b (k + 1) d6000
def i19_0 (a : Int) (b : Int) (c : Int) (d : Int) : Bool := i31_0 a c d || i31_0 c a b
theorem p19_0 (a : Int) (b : Int) (c : Int) (d : Int) (k : Nat)
    (c0 : callP (evalFn Try.prog Try.cfg k) 31 [V.int IntKind.u64 a, V.agg [V.int IntKind.u64 c, V.int IntKind.u64 d]] = some (V.bool (i31_0 a c d)))
    (c1 : i31_0 a c d = true) :
    callP (evalFn Try.prog Try.cfg (k + 1)) 19 [V.agg [V.int IntKind.u64 a, V.int IntKind.u64 b], V.agg [V.int IntKind.u64 c, V.int IntKind.u64 d]] = some (V.bool true) :=
  byP [Hint.call 8 (V.bool (i31_0 a c d)), Hint.br 9 true] ((callP (evalFn Try.prog Try.cfg k) 31 [V.int IntKind.u64 a, V.agg [V.int IntKind.u64 c, V.int IntKind.u64 d]] = some (V.bool (i31_0 a c d))) ∧ (i31_0 a c d = true) ∧ True) (by kernel_rfl) ⟨c0, c1, trivial⟩
theorem p19_1 (a : Int) (b : Int) (c : Int) (d : Int) (k : Nat)
    (c0 : callP (evalFn Try.prog Try.cfg k) 31 [V.int IntKind.u64 a, V.agg [V.int IntKind.u64 c, V.int IntKind.u64 d]] = some (V.bool (i31_0 a c d)))
    (c1 : i31_0 a c d = false)
    (c2 : callP (evalFn Try.prog Try.cfg k) 31 [V.int IntKind.u64 c, V.agg [V.int IntKind.u64 a, V.int IntKind.u64 b]] = some (V.bool (i31_0 c a b))) :
    callP (evalFn Try.prog Try.cfg (k + 1)) 19 [V.agg [V.int IntKind.u64 a, V.int IntKind.u64 b], V.agg [V.int IntKind.u64 c, V.int IntKind.u64 d]] = some (V.bool (i31_0 c a b)) :=
  byP [Hint.call 8 (V.bool (i31_0 a c d)), Hint.br 9 false, Hint.call 13 (V.bool (i31_0 c a b))] ((callP (evalFn Try.prog Try.cfg k) 31 [V.int IntKind.u64 a, V.agg [V.int IntKind.u64 c, V.int IntKind.u64 d]] = some (V.bool (i31_0 a c d))) ∧ (i31_0 a c d = false) ∧ (callP (evalFn Try.prog Try.cfg k) 31 [V.int IntKind.u64 c, V.agg [V.int IntKind.u64 a, V.int IntKind.u64 b]] = some (V.bool (i31_0 c a b))) ∧ True) (by kernel_rfl) ⟨c0, c1, c2, trivial⟩
theorem h19 (a : Int) (b : Int) (c : Int) (d : Int) (k : Nat) : callP (evalFn Try.prog Try.cfg (k + 3)) 19 [V.agg [V.int IntKind.u64 a, V.int IntKind.u64 b], V.agg [V.int IntKind.u64 c, V.int IntKind.u64 d]] = some (V.bool (i19_0 a b c d)) := by
  unfold i19_0
  cases d7000 : (i31_0 a c d) with
  | true =>
    exact p19_0 a b c d (k + 2) (h31 _ _ _ (k + 0)) d7000
  | false =>
    exact p19_1 a b c d (k + 2) (h31 _ _ _ (k + 0)) d7000 (h31 _ _ _ (k + 0))
def i20_0 (a : Int) (b : Int) (c : Int) (d : Int) : Int := bif decide (a < c) then c else a
def i20_1 (a : Int) (b : Int) (c : Int) (d : Int) : Int := bif decide (a < c) then bif decide (i13_0 c d < i13_0 a b) then i22_0 c (i13_0 c d) else i22_0 c (i13_0 a b) else bif decide (i13_0 c d < i13_0 a b) then i22_0 a (i13_0 c d) else i22_0 a (i13_0 a b)
theorem p20_0 (a : Int) (b : Int) (c : Int) (d : Int) (k : Nat)
    (c0 : decide (a < c) = true)
    (c1 : callP (evalFn Try.prog Try.cfg k) 13 [V.agg [V.int IntKind.u64 a, V.int IntKind.u64 b]] = some (V.int IntKind.u64 (i13_0 a b)))
    (c2 : callP (evalFn Try.prog Try.cfg k) 13 [V.agg [V.int IntKind.u64 c, V.int IntKind.u64 d]] = some (V.int IntKind.u64 (i13_0 c d)))
    (c3 : decide (i13_0 c d < i13_0 a b) = true)
    (c4 : callP (evalFn Try.prog Try.cfg k) 13 [V.agg [V.int IntKind.u64 c, V.int IntKind.u64 d]] = some (V.int IntKind.u64 (i13_0 c d)))
    (c5 : callP (evalFn Try.prog Try.cfg k) 22 [V.int IntKind.u64 c, V.int IntKind.u64 (i13_0 c d)] = some (V.agg [V.int IntKind.u64 c, V.int IntKind.u64 (i22_0 c (i13_0 c d))])) :
    callP (evalFn Try.prog Try.cfg (k + 1)) 20 [V.agg [V.int IntKind.u64 a, V.int IntKind.u64 b], V.agg [V.int IntKind.u64 c, V.int IntKind.u64 d]] = some (V.agg [V.int IntKind.u64 c, V.int IntKind.u64 (i22_0 c (i13_0 c d))]) :=
  byP [Hint.br 12 true, Hint.call 16 (V.int IntKind.u64 (i13_0 a b)), Hint.call 18 (V.int IntKind.u64 (i13_0 c d)), Hint.br 20 true, Hint.call 22 (V.int IntKind.u64 (i13_0 c d)), Hint.call 25 (V.agg [V.int IntKind.u64 c, V.int IntKind.u64 (i22_0 c (i13_0 c d))])] ((decide (a < c) = true) ∧ (callP (evalFn Try.prog Try.cfg k) 13 [V.agg [V.int IntKind.u64 a, V.int IntKind.u64 b]] = some (V.int IntKind.u64 (i13_0 a b))) ∧ (callP (evalFn Try.prog Try.cfg k) 13 [V.agg [V.int IntKind.u64 c, V.int IntKind.u64 d]] = some (V.int IntKind.u64 (i13_0 c d))) ∧ (decide (i13_0 c d < i13_0 a b) = true) ∧ (callP (evalFn Try.prog Try.cfg k) 13 [V.agg [V.int IntKind.u64 c, V.int IntKind.u64 d]] = some (V.int IntKind.u64 (i13_0 c d))) ∧ (callP (evalFn Try.prog Try.cfg k) 22 [V.int IntKind.u64 c, V.int IntKind.u64 (i13_0 c d)] = some (V.agg [V.int IntKind.u64 c, V.int IntKind.u64 (i22_0 c (i13_0 c d))])) ∧ True) (by kernel_rfl) ⟨c0, c1, c2, c3, c4, c5, trivial⟩
theorem p20_1 (a : Int) (b : Int) (c : Int) (d : Int) (k : Nat)
    (c0 : decide (a < c) = true)
    (c1 : callP (evalFn Try.prog Try.cfg k) 13 [V.agg [V.int IntKind.u64 a, V.int IntKind.u64 b]] = some (V.int IntKind.u64 (i13_0 a b)))
    (c2 : callP (evalFn Try.prog Try.cfg k) 13 [V.agg [V.int IntKind.u64 c, V.int IntKind.u64 d]] = some (V.int IntKind.u64 (i13_0 c d)))
    (c3 : decide (i13_0 c d < i13_0 a b) = false)
    (c4 : callP (evalFn Try.prog Try.cfg k) 22 [V.int IntKind.u64 c, V.int IntKind.u64 (i13_0 a b)] = some (V.agg [V.int IntKind.u64 c, V.int IntKind.u64 (i22_0 c (i13_0 a b))])) :
    callP (evalFn Try.prog Try.cfg (k + 1)) 20 [V.agg [V.int IntKind.u64 a, V.int IntKind.u64 b], V.agg [V.int IntKind.u64 c, V.int IntKind.u64 d]] = some (V.agg [V.int IntKind.u64 c, V.int IntKind.u64 (i22_0 c (i13_0 a b))]) :=
  byP [Hint.br 12 true, Hint.call 16 (V.int IntKind.u64 (i13_0 a b)), Hint.call 18 (V.int IntKind.u64 (i13_0 c d)), Hint.br 20 false, Hint.call 25 (V.agg [V.int IntKind.u64 c, V.int IntKind.u64 (i22_0 c (i13_0 a b))])] ((decide (a < c) = true) ∧ (callP (evalFn Try.prog Try.cfg k) 13 [V.agg [V.int IntKind.u64 a, V.int IntKind.u64 b]] = some (V.int IntKind.u64 (i13_0 a b))) ∧ (callP (evalFn Try.prog Try.cfg k) 13 [V.agg [V.int IntKind.u64 c, V.int IntKind.u64 d]] = some (V.int IntKind.u64 (i13_0 c d))) ∧ (decide (i13_0 c d < i13_0 a b) = false) ∧ (callP (evalFn Try.prog Try.cfg k) 22 [V.int IntKind.u64 c, V.int IntKind.u64 (i13_0 a b)] = some (V.agg [V.int IntKind.u64 c, V.int IntKind.u64 (i22_0 c (i13_0 a b))])) ∧ True) (by kernel_rfl) ⟨c0, c1, c2, c3, c4, trivial⟩
theorem p20_2 (a : Int) (b : Int) (c : Int) (d : Int) (k : Nat)
    (c0 : decide (a < c) = false)
    (c1 : callP (evalFn Try.prog Try.cfg k) 13 [V.agg [V.int IntKind.u64 a, V.int IntKind.u64 b]] = some (V.int IntKind.u64 (i13_0 a b)))
    (c2 : callP (evalFn Try.prog Try.cfg k) 13 [V.agg [V.int IntKind.u64 c, V.int IntKind.u64 d]] = some (V.int IntKind.u64 (i13_0 c d)))
    (c3 : decide (i13_0 c d < i13_0 a b) = true)
    (c4 : callP (evalFn Try.prog Try.cfg k) 13 [V.agg [V.int IntKind.u64 c, V.int IntKind.u64 d]] = some (V.int IntKind.u64 (i13_0 c d)))
    (c5 : callP (evalFn Try.prog Try.cfg k) 22 [V.int IntKind.u64 a, V.int IntKind.u64 (i13_0 c d)] = some (V.agg [V.int IntKind.u64 a, V.int IntKind.u64 (i22_0 a (i13_0 c d))])) :
    callP (evalFn Try.prog Try.cfg (k + 1)) 20 [V.agg [V.int IntKind.u64 a, V.int IntKind.u64 b], V.agg [V.int IntKind.u64 c, V.int IntKind.u64 d]] = some (V.agg [V.int IntKind.u64 a, V.int IntKind.u64 (i22_0 a (i13_0 c d))]) :=
  byP [Hint.br 12 false, Hint.call 16 (V.int IntKind.u64 (i13_0 a b)), Hint.call 18 (V.int IntKind.u64 (i13_0 c d)), Hint.br 20 true, Hint.call 22 (V.int IntKind.u64 (i13_0 c d)), Hint.call 25 (V.agg [V.int IntKind.u64 a, V.int IntKind.u64 (i22_0 a (i13_0 c d))])] ((decide (a < c) = false) ∧ (callP (evalFn Try.prog Try.cfg k) 13 [V.agg [V.int IntKind.u64 a, V.int IntKind.u64 b]] = some (V.int IntKind.u64 (i13_0 a b))) ∧ (callP (evalFn Try.prog Try.cfg k) 13 [V.agg [V.int IntKind.u64 c, V.int IntKind.u64 d]] = some (V.int IntKind.u64 (i13_0 c d))) ∧ (decide (i13_0 c d < i13_0 a b) = true) ∧ (callP (evalFn Try.prog Try.cfg k) 13 [V.agg [V.int IntKind.u64 c, V.int IntKind.u64 d]] = some (V.int IntKind.u64 (i13_0 c d))) ∧ (callP (evalFn Try.prog Try.cfg k) 22 [V.int IntKind.u64 a, V.int IntKind.u64 (i13_0 c d)] = some (V.agg [V.int IntKind.u64 a, V.int IntKind.u64 (i22_0 a (i13_0 c d))])) ∧ True) (by kernel_rfl) ⟨c0, c1, c2, c3, c4, c5, trivial⟩
theorem p20_3 (a : Int) (b : Int) (c : Int) (d : Int) (k : Nat)
    (c0 : decide (a < c) = false)
    (c1 : callP (evalFn Try.prog Try.cfg k) 13 [V.agg [V.int IntKind.u64 a, V.int IntKind.u64 b]] = some (V.int IntKind.u64 (i13_0 a b)))
    (c2 : callP (evalFn Try.prog Try.cfg k) 13 [V.agg [V.int IntKind.u64 c, V.int IntKind.u64 d]] = some (V.int IntKind.u64 (i13_0 c d)))
    (c3 : decide (i13_0 c d < i13_0 a b) = false)
    (c4 : callP (evalFn Try.prog Try.cfg k) 22 [V.int IntKind.u64 a, V.int IntKind.u64 (i13_0 a b)] = some (V.agg [V.int IntKind.u64 a, V.int IntKind.u64 (i22_0 a (i13_0 a b))])) :
    callP (evalFn Try.prog Try.cfg (k + 1)) 20 [V.agg [V.int IntKind.u64 a, V.int IntKind.u64 b], V.agg [V.int IntKind.u64 c, V.int IntKind.u64 d]] = some (V.agg [V.int IntKind.u64 a, V.int IntKind.u64 (i22_0 a (i13_0 a b))]) :=
  byP [Hint.br 12 false, Hint.call 16 (V.int IntKind.u64 (i13_0 a b)), Hint.call 18 (V.int IntKind.u64 (i13_0 c d)), Hint.br 20 false, Hint.call 25 (V.agg [V.int IntKind.u64 a, V.int IntKind.u64 (i22_0 a (i13_0 a b))])] ((decide (a < c) = false) ∧ (callP (evalFn Try.prog Try.cfg k) 13 [V.agg [V.int IntKind.u64 a, V.int IntKind.u64 b]] = some (V.int IntKind.u64 (i13_0 a b))) ∧ (callP (evalFn Try.prog Try.cfg k) 13 [V.agg [V.int IntKind.u64 c, V.int IntKind.u64 d]] = some (V.int IntKind.u64 (i13_0 c d))) ∧ (decide (i13_0 c d < i13_0 a b) = false) ∧ (callP (evalFn Try.prog Try.cfg k) 22 [V.int IntKind.u64 a, V.int IntKind.u64 (i13_0 a b)] = some (V.agg [V.int IntKind.u64 a, V.int IntKind.u64 (i22_0 a (i13_0 a b))])) ∧ True) (by kernel_rfl) ⟨c0, c1, c2, c3, c4, trivial⟩
theorem h20 (a : Int) (b : Int) (c : Int) (d : Int) (k : Nat) : callP (evalFn Try.prog Try.cfg (k + 2)) 20 [V.agg [V.int IntKind.u64 a, V.int IntKind.u64 b], V.agg [V.int IntKind.u64 c, V.int IntKind.u64 d]] = some (V.agg [V.int IntKind.u64 (i20_0 a b c d), V.int IntKind.u64 (i20_1 a b c d)]) := by
  unfold i20_0 i20_1
  cases d9000 : (decide (a < c)) with
  | true =>
    cases d19000 : (decide (i13_0 c d < i13_0 a b)) with
    | true =>
      exact p20_0 a b c d (k + 1) d9000 (h13 _ _ (k + 0)) (h13 _ _ (k + 0)) d19000 (h13 _ _ (k + 0)) (h22 _ _ (k + 0))
    | false =>
      exact p20_1 a b c d (k + 1) d9000 (h13 _ _ (k + 0)) (h13 _ _ (k + 0)) d19000 (h22 _ _ (k + 0))
  | false =>
    cases d16000 : (decide (i13_0 c d < i13_0 a b)) with
    | true =>
      exact p20_2 a b c d (k + 1) d9000 (h13 _ _ (k + 0)) (h13 _ _ (k + 0)) d16000 (h13 _ _ (k + 0)) (h22 _ _ (k + 0))
    | false =>
      exact p20_3 a b c d (k + 1) d9000 (h13 _ _ (k + 0)) (h13 _ _ (k + 0)) d16000 (h22 _ _ (k + 0))
def i29_0 (a : Int) (b : Int) (c : Int) (d : Int) : Int := bif !decide (i12_0 a b = 0) then i12_0 a b else bif !decide (i12_0 c d = 0) then i12_0 c d else 0
theorem p29_0 (a : Int) (b : Int) (c : Int) (d : Int) (k : Nat)
    (c0 : callP (evalFn Try.prog Try.cfg (k + 5)) 12 [V.agg [V.int IntKind.u64 a, V.int IntKind.u64 b]] = some (V.int IntKind.i64 (i12_0 a b)))
    (c1 : (!decide (i12_0 a b = 0)) = true) :
    callP (evalFn Try.prog Try.cfg (k + 6)) 29 [V.sl none false 2 [V.agg [V.int IntKind.u64 a, V.int IntKind.u64 b], V.agg [V.int IntKind.u64 c, V.int IntKind.u64 d]]] = some (V.int IntKind.i64 (i12_0 a b)) :=
  byP [Hint.rounds, Hint.call 13 (V.int IntKind.i64 (i12_0 a b)), Hint.br 15 true] ((callP (evalFn Try.prog Try.cfg (k + 5)) 12 [V.agg [V.int IntKind.u64 a, V.int IntKind.u64 b]] = some (V.int IntKind.i64 (i12_0 a b))) ∧ ((!decide (i12_0 a b = 0)) = true) ∧ True) (by kernel_rfl) ⟨c0, c1, trivial⟩
theorem p29_1 (a : Int) (b : Int) (c : Int) (d : Int) (k : Nat)
    (c0 : callP (evalFn Try.prog Try.cfg (k + 5)) 12 [V.agg [V.int IntKind.u64 a, V.int IntKind.u64 b]] = some (V.int IntKind.i64 (i12_0 a b)))
    (c1 : (!decide (i12_0 a b = 0)) = false)
    (c2 : callP (evalFn Try.prog Try.cfg (k + 5)) 12 [V.agg [V.int IntKind.u64 c, V.int IntKind.u64 d]] = some (V.int IntKind.i64 (i12_0 c d)))
    (c3 : (!decide (i12_0 c d = 0)) = true) :
    callP (evalFn Try.prog Try.cfg (k + 6)) 29 [V.sl none false 2 [V.agg [V.int IntKind.u64 a, V.int IntKind.u64 b], V.agg [V.int IntKind.u64 c, V.int IntKind.u64 d]]] = some (V.int IntKind.i64 (i12_0 c d)) :=
  byP [Hint.rounds, Hint.call 13 (V.int IntKind.i64 (i12_0 a b)), Hint.br 15 false, Hint.call 13 (V.int IntKind.i64 (i12_0 c d)), Hint.br 15 true] ((callP (evalFn Try.prog Try.cfg (k + 5)) 12 [V.agg [V.int IntKind.u64 a, V.int IntKind.u64 b]] = some (V.int IntKind.i64 (i12_0 a b))) ∧ ((!decide (i12_0 a b = 0)) = false) ∧ (callP (evalFn Try.prog Try.cfg (k + 5)) 12 [V.agg [V.int IntKind.u64 c, V.int IntKind.u64 d]] = some (V.int IntKind.i64 (i12_0 c d))) ∧ ((!decide (i12_0 c d = 0)) = true) ∧ True) (by kernel_rfl) ⟨c0, c1, c2, c3, trivial⟩
theorem p29_2 (a : Int) (b : Int) (c : Int) (d : Int) (k : Nat)
    (c0 : callP (evalFn Try.prog Try.cfg (k + 5)) 12 [V.agg [V.int IntKind.u64 a, V.int IntKind.u64 b]] = some (V.int IntKind.i64 (i12_0 a b)))
    (c1 : (!decide (i12_0 a b = 0)) = false)
    (c2 : callP (evalFn Try.prog Try.cfg (k + 5)) 12 [V.agg [V.int IntKind.u64 c, V.int IntKind.u64 d]] = some (V.int IntKind.i64 (i12_0 c d)))
    (c3 : (!decide (i12_0 c d = 0)) = false) :
    callP (evalFn Try.prog Try.cfg (k + 6)) 29 [V.sl none false 2 [V.agg [V.int IntKind.u64 a, V.int IntKind.u64 b], V.agg [V.int IntKind.u64 c, V.int IntKind.u64 d]]] = some (V.int IntKind.i64 0) :=
  byP [Hint.rounds, Hint.call 13 (V.int IntKind.i64 (i12_0 a b)), Hint.br 15 false, Hint.call 13 (V.int IntKind.i64 (i12_0 c d)), Hint.br 15 false] ((callP (evalFn Try.prog Try.cfg (k + 5)) 12 [V.agg [V.int IntKind.u64 a, V.int IntKind.u64 b]] = some (V.int IntKind.i64 (i12_0 a b))) ∧ ((!decide (i12_0 a b = 0)) = false) ∧ (callP (evalFn Try.prog Try.cfg (k + 5)) 12 [V.agg [V.int IntKind.u64 c, V.int IntKind.u64 d]] = some (V.int IntKind.i64 (i12_0 c d))) ∧ ((!decide (i12_0 c d = 0)) = false) ∧ True) (by kernel_rfl) ⟨c0, c1, c2, c3, trivial⟩
theorem h29 (a : Int) (b : Int) (c : Int) (d : Int) (k : Nat) : callP (evalFn Try.prog Try.cfg (k + 6)) 29 [V.sl none false 2 [V.agg [V.int IntKind.u64 a, V.int IntKind.u64 b], V.agg [V.int IntKind.u64 c, V.int IntKind.u64 d]]] = some (V.int IntKind.i64 (i29_0 a b c d)) := by
  unfold i29_0
  cases d13000 : (!decide (i12_0 a b = 0)) with
  | true =>
    exact p29_0 a b c d (k + 0) (h12 _ _ (k + 4)) d13000
  | false =>
    cases d25000 : (!decide (i12_0 c d = 0)) with
    | true =>
      exact p29_1 a b c d (k + 0) (h12 _ _ (k + 4)) d13000 (h12 _ _ (k + 4)) d25000
    | false =>
      exact p29_2 a b c d (k + 0) (h12 _ _ (k + 4)) d13000 (h12 _ _ (k + 4)) d25000
def i16_0 (a : Int) (b : Int) (c : Int) (d : Int) : Int := bif !decide (i10_0 a b = 0) then i10_0 a b else bif !decide (i10_0 c d = 0) then i10_0 c d else 0
theorem p16_0 (a : Int) (b : Int) (c : Int) (d : Int) (k : Nat)
    (c0 : callP (evalFn Try.prog Try.cfg (k + 5)) 10 [V.agg [V.int IntKind.u64 a, V.int IntKind.u64 b]] = some (V.int IntKind.i64 (i10_0 a b)))
    (c1 : (!decide (i10_0 a b = 0)) = true)
    (c2 : callP (evalFn Try.prog Try.cfg (k + 5)) 10 [V.agg [V.int IntKind.u64 a, V.int IntKind.u64 b]] = some (V.int IntKind.i64 (i10_0 a b))) :
    callP (evalFn Try.prog Try.cfg (k + 6)) 16 [V.sl none false 2 [V.agg [V.int IntKind.u64 a, V.int IntKind.u64 b], V.agg [V.int IntKind.u64 c, V.int IntKind.u64 d]]] = some (V.int IntKind.i64 (i10_0 a b)) :=
  byP [Hint.rounds, Hint.call 12 (V.int IntKind.i64 (i10_0 a b)), Hint.br 13 true, Hint.call 15 (V.int IntKind.i64 (i10_0 a b))] ((callP (evalFn Try.prog Try.cfg (k + 5)) 10 [V.agg [V.int IntKind.u64 a, V.int IntKind.u64 b]] = some (V.int IntKind.i64 (i10_0 a b))) ∧ ((!decide (i10_0 a b = 0)) = true) ∧ (callP (evalFn Try.prog Try.cfg (k + 5)) 10 [V.agg [V.int IntKind.u64 a, V.int IntKind.u64 b]] = some (V.int IntKind.i64 (i10_0 a b))) ∧ True) (by kernel_rfl) ⟨c0, c1, c2, trivial⟩
theorem p16_1 (a : Int) (b : Int) (c : Int) (d : Int) (k : Nat)
    (c0 : callP (evalFn Try.prog Try.cfg (k + 5)) 10 [V.agg [V.int IntKind.u64 a, V.int IntKind.u64 b]] = some (V.int IntKind.i64 (i10_0 a b)))
    (c1 : (!decide (i10_0 a b = 0)) = false)
    (c2 : callP (evalFn Try.prog Try.cfg (k + 5)) 10 [V.agg [V.int IntKind.u64 c, V.int IntKind.u64 d]] = some (V.int IntKind.i64 (i10_0 c d)))
    (c3 : (!decide (i10_0 c d = 0)) = true)
    (c4 : callP (evalFn Try.prog Try.cfg (k + 5)) 10 [V.agg [V.int IntKind.u64 c, V.int IntKind.u64 d]] = some (V.int IntKind.i64 (i10_0 c d))) :
    callP (evalFn Try.prog Try.cfg (k + 6)) 16 [V.sl none false 2 [V.agg [V.int IntKind.u64 a, V.int IntKind.u64 b], V.agg [V.int IntKind.u64 c, V.int IntKind.u64 d]]] = some (V.int IntKind.i64 (i10_0 c d)) :=
  byP [Hint.rounds, Hint.call 12 (V.int IntKind.i64 (i10_0 a b)), Hint.br 13 false, Hint.call 12 (V.int IntKind.i64 (i10_0 c d)), Hint.br 13 true, Hint.call 15 (V.int IntKind.i64 (i10_0 c d))] ((callP (evalFn Try.prog Try.cfg (k + 5)) 10 [V.agg [V.int IntKind.u64 a, V.int IntKind.u64 b]] = some (V.int IntKind.i64 (i10_0 a b))) ∧ ((!decide (i10_0 a b = 0)) = false) ∧ (callP (evalFn Try.prog Try.cfg (k + 5)) 10 [V.agg [V.int IntKind.u64 c, V.int IntKind.u64 d]] = some (V.int IntKind.i64 (i10_0 c d))) ∧ ((!decide (i10_0 c d = 0)) = true) ∧ (callP (evalFn Try.prog Try.cfg (k + 5)) 10 [V.agg [V.int IntKind.u64 c, V.int IntKind.u64 d]] = some (V.int IntKind.i64 (i10_0 c d))) ∧ True) (by kernel_rfl) ⟨c0, c1, c2, c3, c4, trivial⟩
theorem p16_2 (a : Int) (b : Int) (c : Int) (d : Int) (k : Nat)
    (c0 : callP (evalFn Try.prog Try.cfg (k + 5)) 10 [V.agg [V.int IntKind.u64 a, V.int IntKind.u64 b]] = some (V.int IntKind.i64 (i10_0 a b)))
    (c1 : (!decide (i10_0 a b = 0)) = false)
    (c2 : callP (evalFn Try.prog Try.cfg (k + 5)) 10 [V.agg [V.int IntKind.u64 c, V.int IntKind.u64 d]] = some (V.int IntKind.i64 (i10_0 c d)))
    (c3 : (!decide (i10_0 c d = 0)) = false) :
    callP (evalFn Try.prog Try.cfg (k + 6)) 16 [V.sl none false 2 [V.agg [V.int IntKind.u64 a, V.int IntKind.u64 b], V.agg [V.int IntKind.u64 c, V.int IntKind.u64 d]]] = some (V.int IntKind.i64 0) :=
  byP [Hint.rounds, Hint.call 12 (V.int IntKind.i64 (i10_0 a b)), Hint.br 13 false, Hint.call 12 (V.int IntKind.i64 (i10_0 c d)), Hint.br 13 false] ((callP (evalFn Try.prog Try.cfg (k + 5)) 10 [V.agg [V.int IntKind.u64 a, V.int IntKind.u64 b]] = some (V.int IntKind.i64 (i10_0 a b))) ∧ ((!decide (i10_0 a b = 0)) = false) ∧ (callP (evalFn Try.prog Try.cfg (k + 5)) 10 [V.agg [V.int IntKind.u64 c, V.int IntKind.u64 d]] = some (V.int IntKind.i64 (i10_0 c d))) ∧ ((!decide (i10_0 c d = 0)) = false) ∧ True) (by kernel_rfl) ⟨c0, c1, c2, c3, trivial⟩
theorem h16 (a : Int) (b : Int) (c : Int) (d : Int) (k : Nat) : callP (evalFn Try.prog Try.cfg (k + 6)) 16 [V.sl none false 2 [V.agg [V.int IntKind.u64 a, V.int IntKind.u64 b], V.agg [V.int IntKind.u64 c, V.int IntKind.u64 d]]] = some (V.int IntKind.i64 (i16_0 a b c d)) := by
  unfold i16_0
  cases d11000 : (!decide (i10_0 a b = 0)) with
  | true =>
    exact p16_0 a b c d (k + 0) (h10 _ _ (k + 4)) d11000 (h10 _ _ (k + 4))
  | false =>
    cases d21000 : (!decide (i10_0 c d = 0)) with
    | true =>
      exact p16_1 a b c d (k + 0) (h10 _ _ (k + 4)) d11000 (h10 _ _ (k + 4)) d21000 (h10 _ _ (k + 4))
    | false =>
      exact p16_2 a b c d (k + 0) (h10 _ _ (k + 4)) d11000 (h10 _ _ (k + 4)) d21000
def i14_0 (a : Int) (b : Int) (c : Int) (d : Int) : Int := bif !decide (i29_0 a b c d = 0) then 0 else bif decide ((if i28_0 c d < i28_0 a b then i28_0 c d else i28_0 a b) < if a < c then c else a) then 0 else if a < c then c else a
def i14_1 (a : Int) (b : Int) (c : Int) (d : Int) : Int := bif !decide (i29_0 a b c d = 0) then 0 else bif decide ((if i28_0 c d < i28_0 a b then i28_0 c d else i28_0 a b) < if a < c then c else a) then 0 else i30_0 (if a < c then c else a) (if i28_0 c d < i28_0 a b then i28_0 c d else i28_0 a b)
def i14_2 (a : Int) (b : Int) (c : Int) (d : Int) : Int := bif !decide (i29_0 a b c d = 0) then i29_0 a b c d else bif decide ((if i28_0 c d < i28_0 a b then i28_0 c d else i28_0 a b) < if a < c then c else a) then 3 else 0
theorem p14_0 (a : Int) (b : Int) (c : Int) (d : Int) (k : Nat)
    (c0 : callP (evalFn Try.prog Try.cfg k) 29 [V.sl none false 2 [V.agg [V.int IntKind.u64 a, V.int IntKind.u64 b], V.agg [V.int IntKind.u64 c, V.int IntKind.u64 d]]] = some (V.int IntKind.i64 (i29_0 a b c d)))
    (c1 : (!decide (i29_0 a b c d = 0)) = true) :
    callP (evalFn Try.prog Try.cfg (k + 1)) 14 [V.agg [V.int IntKind.u64 a, V.int IntKind.u64 b], V.agg [V.int IntKind.u64 c, V.int IntKind.u64 d]] = some (V.tup [V.agg [V.int IntKind.u64 0, V.int IntKind.u64 0], V.int IntKind.i64 (i29_0 a b c d)]) :=
  byP [Hint.call 13 (V.int IntKind.i64 (i29_0 a b c d)), Hint.br 15 true] ((callP (evalFn Try.prog Try.cfg k) 29 [V.sl none false 2 [V.agg [V.int IntKind.u64 a, V.int IntKind.u64 b], V.agg [V.int IntKind.u64 c, V.int IntKind.u64 d]]] = some (V.int IntKind.i64 (i29_0 a b c d))) ∧ ((!decide (i29_0 a b c d = 0)) = true) ∧ True) (by kernel_rfl) ⟨c0, c1, trivial⟩
theorem p14_1 (a : Int) (b : Int) (c : Int) (d : Int) (k : Nat)
    (c0 : callP (evalFn Try.prog Try.cfg k) 29 [V.sl none false 2 [V.agg [V.int IntKind.u64 a, V.int IntKind.u64 b], V.agg [V.int IntKind.u64 c, V.int IntKind.u64 d]]] = some (V.int IntKind.i64 (i29_0 a b c d)))
    (c1 : (!decide (i29_0 a b c d = 0)) = false)
    (c2 : callP (evalFn Try.prog Try.cfg k) 28 [V.agg [V.int IntKind.u64 a, V.int IntKind.u64 b]] = some (V.agg [V.int IntKind.u64 a, V.int IntKind.u64 (i28_0 a b)]))
    (c3 : callP (evalFn Try.prog Try.cfg k) 28 [V.agg [V.int IntKind.u64 c, V.int IntKind.u64 d]] = some (V.agg [V.int IntKind.u64 c, V.int IntKind.u64 (i28_0 c d)]))
    (c4 : decide ((if i28_0 c d < i28_0 a b then i28_0 c d else i28_0 a b) < if a < c then c else a) = true) :
    callP (evalFn Try.prog Try.cfg (k + 1)) 14 [V.agg [V.int IntKind.u64 a, V.int IntKind.u64 b], V.agg [V.int IntKind.u64 c, V.int IntKind.u64 d]] = some (V.tup [V.agg [V.int IntKind.u64 0, V.int IntKind.u64 0], V.int IntKind.i64 3]) :=
  byP [Hint.call 13 (V.int IntKind.i64 (i29_0 a b c d)), Hint.br 15 false, Hint.call 19 (V.agg [V.int IntKind.u64 a, V.int IntKind.u64 (i28_0 a b)]), Hint.call 21 (V.agg [V.int IntKind.u64 c, V.int IntKind.u64 (i28_0 c d)]), Hint.br 37 true] ((callP (evalFn Try.prog Try.cfg k) 29 [V.sl none false 2 [V.agg [V.int IntKind.u64 a, V.int IntKind.u64 b], V.agg [V.int IntKind.u64 c, V.int IntKind.u64 d]]] = some (V.int IntKind.i64 (i29_0 a b c d))) ∧ ((!decide (i29_0 a b c d = 0)) = false) ∧ (callP (evalFn Try.prog Try.cfg k) 28 [V.agg [V.int IntKind.u64 a, V.int IntKind.u64 b]] = some (V.agg [V.int IntKind.u64 a, V.int IntKind.u64 (i28_0 a b)])) ∧ (callP (evalFn Try.prog Try.cfg k) 28 [V.agg [V.int IntKind.u64 c, V.int IntKind.u64 d]] = some (V.agg [V.int IntKind.u64 c, V.int IntKind.u64 (i28_0 c d)])) ∧ (decide ((if i28_0 c d < i28_0 a b then i28_0 c d else i28_0 a b) < if a < c then c else a) = true) ∧ True) (by kernel_rfl) ⟨c0, c1, c2, c3, c4, trivial⟩
theorem p14_2 (a : Int) (b : Int) (c : Int) (d : Int) (k : Nat)
    (c0 : callP (evalFn Try.prog Try.cfg k) 29 [V.sl none false 2 [V.agg [V.int IntKind.u64 a, V.int IntKind.u64 b], V.agg [V.int IntKind.u64 c, V.int IntKind.u64 d]]] = some (V.int IntKind.i64 (i29_0 a b c d)))
    (c1 : (!decide (i29_0 a b c d = 0)) = false)
    (c2 : callP (evalFn Try.prog Try.cfg k) 28 [V.agg [V.int IntKind.u64 a, V.int IntKind.u64 b]] = some (V.agg [V.int IntKind.u64 a, V.int IntKind.u64 (i28_0 a b)]))
    (c3 : callP (evalFn Try.prog Try.cfg k) 28 [V.agg [V.int IntKind.u64 c, V.int IntKind.u64 d]] = some (V.agg [V.int IntKind.u64 c, V.int IntKind.u64 (i28_0 c d)]))
    (c4 : decide ((if i28_0 c d < i28_0 a b then i28_0 c d else i28_0 a b) < if a < c then c else a) = false)
    (c5 : callP (evalFn Try.prog Try.cfg k) 30 [V.agg [V.int IntKind.u64 (if a < c then c else a), V.int IntKind.u64 (if i28_0 c d < i28_0 a b then i28_0 c d else i28_0 a b)]] = some (V.agg [V.int IntKind.u64 (if a < c then c else a), V.int IntKind.u64 (i30_0 (if a < c then c else a) (if i28_0 c d < i28_0 a b then i28_0 c d else i28_0 a b))])) :
    callP (evalFn Try.prog Try.cfg (k + 1)) 14 [V.agg [V.int IntKind.u64 a, V.int IntKind.u64 b], V.agg [V.int IntKind.u64 c, V.int IntKind.u64 d]] = some (V.tup [V.agg [V.int IntKind.u64 (if a < c then c else a), V.int IntKind.u64 (i30_0 (if a < c then c else a) (if i28_0 c d < i28_0 a b then i28_0 c d else i28_0 a b))], V.int IntKind.i64 0]) :=
  byP [Hint.call 13 (V.int IntKind.i64 (i29_0 a b c d)), Hint.br 15 false, Hint.call 19 (V.agg [V.int IntKind.u64 a, V.int IntKind.u64 (i28_0 a b)]), Hint.call 21 (V.agg [V.int IntKind.u64 c, V.int IntKind.u64 (i28_0 c d)]), Hint.br 37 false, Hint.call 40 (V.agg [V.int IntKind.u64 (if a < c then c else a), V.int IntKind.u64 (i30_0 (if a < c then c else a) (if i28_0 c d < i28_0 a b then i28_0 c d else i28_0 a b))])] ((callP (evalFn Try.prog Try.cfg k) 29 [V.sl none false 2 [V.agg [V.int IntKind.u64 a, V.int IntKind.u64 b], V.agg [V.int IntKind.u64 c, V.int IntKind.u64 d]]] = some (V.int IntKind.i64 (i29_0 a b c d))) ∧ ((!decide (i29_0 a b c d = 0)) = false) ∧ (callP (evalFn Try.prog Try.cfg k) 28 [V.agg [V.int IntKind.u64 a, V.int IntKind.u64 b]] = some (V.agg [V.int IntKind.u64 a, V.int IntKind.u64 (i28_0 a b)])) ∧ (callP (evalFn Try.prog Try.cfg k) 28 [V.agg [V.int IntKind.u64 c, V.int IntKind.u64 d]] = some (V.agg [V.int IntKind.u64 c, V.int IntKind.u64 (i28_0 c d)])) ∧ (decide ((if i28_0 c d < i28_0 a b then i28_0 c d else i28_0 a b) < if a < c then c else a) = false) ∧ (callP (evalFn Try.prog Try.cfg k) 30 [V.agg [V.int IntKind.u64 (if a < c then c else a), V.int IntKind.u64 (if i28_0 c d < i28_0 a b then i28_0 c d else i28_0 a b)]] = some (V.agg [V.int IntKind.u64 (if a < c then c else a), V.int IntKind.u64 (i30_0 (if a < c then c else a) (if i28_0 c d < i28_0 a b then i28_0 c d else i28_0 a b))])) ∧ True) (by kernel_rfl) ⟨c0, c1, c2, c3, c4, c5, trivial⟩
theorem h14 (a : Int) (b : Int) (c : Int) (d : Int) (k : Nat) : callP (evalFn Try.prog Try.cfg (k + 7)) 14 [V.agg [V.int IntKind.u64 a, V.int IntKind.u64 b], V.agg [V.int IntKind.u64 c, V.int IntKind.u64 d]] = some (V.tup [V.agg [V.int IntKind.u64 (i14_0 a b c d), V.int IntKind.u64 (i14_1 a b c d)], V.int IntKind.i64 (i14_2 a b c d)]) := by
  unfold i14_0 i14_1 i14_2
  cases d10000 : (!decide (i29_0 a b c d = 0)) with
  | true =>
    exact p14_0 a b c d (k + 6) (h29 _ _ _ _ (k + 0)) d10000
  | false =>
    cases d36000 : (decide ((if i28_0 c d < i28_0 a b then i28_0 c d else i28_0 a b) < if a < c then c else a)) with
    | true =>
      exact p14_1 a b c d (k + 6) (h29 _ _ _ _ (k + 0)) d10000 (h28 _ _ (k + 5)) (h28 _ _ (k + 5)) d36000
    | false =>
      exact p14_2 a b c d (k + 6) (h29 _ _ _ _ (k + 0)) d10000 (h28 _ _ (k + 5)) (h28 _ _ (k + 5)) d36000 (h30 _ _ (k + 5))
def i15_0 (a : Int) (b : Int) (c : Int) (d : Int) : List V := bif !decide (i29_0 a b c d = 0) then [] else bif decide (i28_0 a b < c) then [V.agg [V.int IntKind.u64 a, V.int IntKind.u64 b]] else bif decide (i28_0 c d < a) then [V.agg [V.int IntKind.u64 a, V.int IntKind.u64 b]] else bif decide (a < c) then bif decide (i28_0 c d < i28_0 a b) then [V.agg [V.int IntKind.u64 a, V.int IntKind.u64 (i30_0 a (IntKind.u64.wrap (c - 1)))], V.agg [V.int IntKind.u64 (IntKind.u64.wrap (i28_0 c d + 1)), V.int IntKind.u64 (i30_0 (IntKind.u64.wrap (i28_0 c d + 1)) (i28_0 a b))]] else [V.agg [V.int IntKind.u64 a, V.int IntKind.u64 (i30_0 a (IntKind.u64.wrap (c - 1)))]] else bif decide (i28_0 c d < i28_0 a b) then [V.agg [V.int IntKind.u64 (IntKind.u64.wrap (i28_0 c d + 1)), V.int IntKind.u64 (i30_0 (IntKind.u64.wrap (i28_0 c d + 1)) (i28_0 a b))]] else []
def i15_1 (a : Int) (b : Int) (c : Int) (d : Int) : Int := bif !decide (i29_0 a b c d = 0) then i29_0 a b c d else 0
theorem p15_0 (a : Int) (b : Int) (c : Int) (d : Int) (k : Nat)
    (c0 : callP (evalFn Try.prog Try.cfg k) 29 [V.sl none false 2 [V.agg [V.int IntKind.u64 a, V.int IntKind.u64 b], V.agg [V.int IntKind.u64 c, V.int IntKind.u64 d]]] = some (V.int IntKind.i64 (i29_0 a b c d)))
    (c1 : (!decide (i29_0 a b c d = 0)) = true) :
    callP (evalFn Try.prog Try.cfg (k + 1)) 15 [V.agg [V.int IntKind.u64 a, V.int IntKind.u64 b], V.agg [V.int IntKind.u64 c, V.int IntKind.u64 d]] = some (V.tup [V.sl (some true) true 0 [], V.int IntKind.i64 (i29_0 a b c d)]) :=
  byP [Hint.call 13 (V.int IntKind.i64 (i29_0 a b c d)), Hint.br 15 true] ((callP (evalFn Try.prog Try.cfg k) 29 [V.sl none false 2 [V.agg [V.int IntKind.u64 a, V.int IntKind.u64 b], V.agg [V.int IntKind.u64 c, V.int IntKind.u64 d]]] = some (V.int IntKind.i64 (i29_0 a b c d))) ∧ ((!decide (i29_0 a b c d = 0)) = true) ∧ True) (by kernel_rfl) ⟨c0, c1, trivial⟩
theorem p15_1 (a : Int) (b : Int) (c : Int) (d : Int) (k : Nat)
    (c0 : callP (evalFn Try.prog Try.cfg k) 29 [V.sl none false 2 [V.agg [V.int IntKind.u64 a, V.int IntKind.u64 b], V.agg [V.int IntKind.u64 c, V.int IntKind.u64 d]]] = some (V.int IntKind.i64 (i29_0 a b c d)))
    (c1 : (!decide (i29_0 a b c d = 0)) = false)
    (c2 : callP (evalFn Try.prog Try.cfg k) 28 [V.agg [V.int IntKind.u64 a, V.int IntKind.u64 b]] = some (V.agg [V.int IntKind.u64 a, V.int IntKind.u64 (i28_0 a b)]))
    (c3 : callP (evalFn Try.prog Try.cfg k) 28 [V.agg [V.int IntKind.u64 c, V.int IntKind.u64 d]] = some (V.agg [V.int IntKind.u64 c, V.int IntKind.u64 (i28_0 c d)]))
    (c4 : decide (i28_0 a b < c) = true) :
    callP (evalFn Try.prog Try.cfg (k + 1)) 15 [V.agg [V.int IntKind.u64 a, V.int IntKind.u64 b], V.agg [V.int IntKind.u64 c, V.int IntKind.u64 d]] = some (V.tup [V.sl none false 2 [V.agg [V.int IntKind.u64 a, V.int IntKind.u64 b]], V.int IntKind.i64 0]) :=
  byP [Hint.call 13 (V.int IntKind.i64 (i29_0 a b c d)), Hint.br 15 false, Hint.call 18 (V.agg [V.int IntKind.u64 a, V.int IntKind.u64 (i28_0 a b)]), Hint.call 20 (V.agg [V.int IntKind.u64 c, V.int IntKind.u64 (i28_0 c d)]), Hint.br 26 true] ((callP (evalFn Try.prog Try.cfg k) 29 [V.sl none false 2 [V.agg [V.int IntKind.u64 a, V.int IntKind.u64 b], V.agg [V.int IntKind.u64 c, V.int IntKind.u64 d]]] = some (V.int IntKind.i64 (i29_0 a b c d))) ∧ ((!decide (i29_0 a b c d = 0)) = false) ∧ (callP (evalFn Try.prog Try.cfg k) 28 [V.agg [V.int IntKind.u64 a, V.int IntKind.u64 b]] = some (V.agg [V.int IntKind.u64 a, V.int IntKind.u64 (i28_0 a b)])) ∧ (callP (evalFn Try.prog Try.cfg k) 28 [V.agg [V.int IntKind.u64 c, V.int IntKind.u64 d]] = some (V.agg [V.int IntKind.u64 c, V.int IntKind.u64 (i28_0 c d)])) ∧ (decide (i28_0 a b < c) = true) ∧ True) (by kernel_rfl) ⟨c0, c1, c2, c3, c4, trivial⟩
theorem p15_2 (a : Int) (b : Int) (c : Int) (d : Int) (k : Nat)
    (c0 : callP (evalFn Try.prog Try.cfg k) 29 [V.sl none false 2 [V.agg [V.int IntKind.u64 a, V.int IntKind.u64 b], V.agg [V.int IntKind.u64 c, V.int IntKind.u64 d]]] = some (V.int IntKind.i64 (i29_0 a b c d)))
    (c1 : (!decide (i29_0 a b c d = 0)) = false)
    (c2 : callP (evalFn Try.prog Try.cfg k) 28 [V.agg [V.int IntKind.u64 a, V.int IntKind.u64 b]] = some (V.agg [V.int IntKind.u64 a, V.int IntKind.u64 (i28_0 a b)]))
    (c3 : callP (evalFn Try.prog Try.cfg k) 28 [V.agg [V.int IntKind.u64 c, V.int IntKind.u64 d]] = some (V.agg [V.int IntKind.u64 c, V.int IntKind.u64 (i28_0 c d)]))
    (c4 : decide (i28_0 a b < c) = false)
    (c5 : decide (i28_0 c d < a) = true) :
    callP (evalFn Try.prog Try.cfg (k + 1)) 15 [V.agg [V.int IntKind.u64 a, V.int IntKind.u64 b], V.agg [V.int IntKind.u64 c, V.int IntKind.u64 d]] = some (V.tup [V.sl none false 2 [V.agg [V.int IntKind.u64 a, V.int IntKind.u64 b]], V.int IntKind.i64 0]) :=
  byP [Hint.call 13 (V.int IntKind.i64 (i29_0 a b c d)), Hint.br 15 false, Hint.call 18 (V.agg [V.int IntKind.u64 a, V.int IntKind.u64 (i28_0 a b)]), Hint.call 20 (V.agg [V.int IntKind.u64 c, V.int IntKind.u64 (i28_0 c d)]), Hint.br 26 false, Hint.br 32 true] ((callP (evalFn Try.prog Try.cfg k) 29 [V.sl none false 2 [V.agg [V.int IntKind.u64 a, V.int IntKind.u64 b], V.agg [V.int IntKind.u64 c, V.int IntKind.u64 d]]] = some (V.int IntKind.i64 (i29_0 a b c d))) ∧ ((!decide (i29_0 a b c d = 0)) = false) ∧ (callP (evalFn Try.prog Try.cfg k) 28 [V.agg [V.int IntKind.u64 a, V.int IntKind.u64 b]] = some (V.agg [V.int IntKind.u64 a, V.int IntKind.u64 (i28_0 a b)])) ∧ (callP (evalFn Try.prog Try.cfg k) 28 [V.agg [V.int IntKind.u64 c, V.int IntKind.u64 d]] = some (V.agg [V.int IntKind.u64 c, V.int IntKind.u64 (i28_0 c d)])) ∧ (decide (i28_0 a b < c) = false) ∧ (decide (i28_0 c d < a) = true) ∧ True) (by kernel_rfl) ⟨c0, c1, c2, c3, c4, c5, trivial⟩
theorem p15_3 (a : Int) (b : Int) (c : Int) (d : Int) (k : Nat)
    (c0 : callP (evalFn Try.prog Try.cfg k) 29 [V.sl none false 2 [V.agg [V.int IntKind.u64 a, V.int IntKind.u64 b], V.agg [V.int IntKind.u64 c, V.int IntKind.u64 d]]] = some (V.int IntKind.i64 (i29_0 a b c d)))
    (c1 : (!decide (i29_0 a b c d = 0)) = false)
    (c2 : callP (evalFn Try.prog Try.cfg k) 28 [V.agg [V.int IntKind.u64 a, V.int IntKind.u64 b]] = some (V.agg [V.int IntKind.u64 a, V.int IntKind.u64 (i28_0 a b)]))
    (c3 : callP (evalFn Try.prog Try.cfg k) 28 [V.agg [V.int IntKind.u64 c, V.int IntKind.u64 d]] = some (V.agg [V.int IntKind.u64 c, V.int IntKind.u64 (i28_0 c d)]))
    (c4 : decide (i28_0 a b < c) = false)
    (c5 : decide (i28_0 c d < a) = false)
    (c6 : decide (a < c) = true)
    (c7 : callP (evalFn Try.prog Try.cfg k) 30 [V.agg [V.int IntKind.u64 a, V.int IntKind.u64 (IntKind.u64.wrap (c - 1))]] = some (V.agg [V.int IntKind.u64 a, V.int IntKind.u64 (i30_0 a (IntKind.u64.wrap (c - 1)))]))
    (c8 : decide (i28_0 c d < i28_0 a b) = true)
    (c9 : callP (evalFn Try.prog Try.cfg k) 30 [V.agg [V.int IntKind.u64 (IntKind.u64.wrap (i28_0 c d + 1)), V.int IntKind.u64 (i28_0 a b)]] = some (V.agg [V.int IntKind.u64 (IntKind.u64.wrap (i28_0 c d + 1)), V.int IntKind.u64 (i30_0 (IntKind.u64.wrap (i28_0 c d + 1)) (i28_0 a b))])) :
    callP (evalFn Try.prog Try.cfg (k + 1)) 15 [V.agg [V.int IntKind.u64 a, V.int IntKind.u64 b], V.agg [V.int IntKind.u64 c, V.int IntKind.u64 d]] = some (V.tup [V.sl none false 2 [V.agg [V.int IntKind.u64 a, V.int IntKind.u64 (i30_0 a (IntKind.u64.wrap (c - 1)))], V.agg [V.int IntKind.u64 (IntKind.u64.wrap (i28_0 c d + 1)), V.int IntKind.u64 (i30_0 (IntKind.u64.wrap (i28_0 c d + 1)) (i28_0 a b))]], V.int IntKind.i64 0]) :=
  byP [Hint.call 13 (V.int IntKind.i64 (i29_0 a b c d)), Hint.br 15 false, Hint.call 18 (V.agg [V.int IntKind.u64 a, V.int IntKind.u64 (i28_0 a b)]), Hint.call 20 (V.agg [V.int IntKind.u64 c, V.int IntKind.u64 (i28_0 c d)]), Hint.br 26 false, Hint.br 32 false, Hint.br 39 true, Hint.call 47 (V.agg [V.int IntKind.u64 a, V.int IntKind.u64 (i30_0 a (IntKind.u64.wrap (c - 1)))]), Hint.br 54 true, Hint.call 62 (V.agg [V.int IntKind.u64 (IntKind.u64.wrap (i28_0 c d + 1)), V.int IntKind.u64 (i30_0 (IntKind.u64.wrap (i28_0 c d + 1)) (i28_0 a b))])] ((callP (evalFn Try.prog Try.cfg k) 29 [V.sl none false 2 [V.agg [V.int IntKind.u64 a, V.int IntKind.u64 b], V.agg [V.int IntKind.u64 c, V.int IntKind.u64 d]]] = some (V.int IntKind.i64 (i29_0 a b c d))) ∧ ((!decide (i29_0 a b c d = 0)) = false) ∧ (callP (evalFn Try.prog Try.cfg k) 28 [V.agg [V.int IntKind.u64 a, V.int IntKind.u64 b]] = some (V.agg [V.int IntKind.u64 a, V.int IntKind.u64 (i28_0 a b)])) ∧ (callP (evalFn Try.prog Try.cfg k) 28 [V.agg [V.int IntKind.u64 c, V.int IntKind.u64 d]] = some (V.agg [V.int IntKind.u64 c, V.int IntKind.u64 (i28_0 c d)])) ∧ (decide (i28_0 a b < c) = false) ∧ (decide (i28_0 c d < a) = false) ∧ (decide (a < c) = true) ∧ (callP (evalFn Try.prog Try.cfg k) 30 [V.agg [V.int IntKind.u64 a, V.int IntKind.u64 (IntKind.u64.wrap (c - 1))]] = some (V.agg [V.int IntKind.u64 a, V.int IntKind.u64 (i30_0 a (IntKind.u64.wrap (c - 1)))])) ∧ (decide (i28_0 c d < i28_0 a b) = true) ∧ (callP (evalFn Try.prog Try.cfg k) 30 [V.agg [V.int IntKind.u64 (IntKind.u64.wrap (i28_0 c d + 1)), V.int IntKind.u64 (i28_0 a b)]] = some (V.agg [V.int IntKind.u64 (IntKind.u64.wrap (i28_0 c d + 1)), V.int IntKind.u64 (i30_0 (IntKind.u64.wrap (i28_0 c d + 1)) (i28_0 a b))])) ∧ True) (by kernel_rfl) ⟨c0, c1, c2, c3, c4, c5, c6, c7, c8, c9, trivial⟩
theorem p15_4 (a : Int) (b : Int) (c : Int) (d : Int) (k : Nat)
    (c0 : callP (evalFn Try.prog Try.cfg k) 29 [V.sl none false 2 [V.agg [V.int IntKind.u64 a, V.int IntKind.u64 b], V.agg [V.int IntKind.u64 c, V.int IntKind.u64 d]]] = some (V.int IntKind.i64 (i29_0 a b c d)))
    (c1 : (!decide (i29_0 a b c d = 0)) = false)
    (c2 : callP (evalFn Try.prog Try.cfg k) 28 [V.agg [V.int IntKind.u64 a, V.int IntKind.u64 b]] = some (V.agg [V.int IntKind.u64 a, V.int IntKind.u64 (i28_0 a b)]))
    (c3 : callP (evalFn Try.prog Try.cfg k) 28 [V.agg [V.int IntKind.u64 c, V.int IntKind.u64 d]] = some (V.agg [V.int IntKind.u64 c, V.int IntKind.u64 (i28_0 c d)]))
    (c4 : decide (i28_0 a b < c) = false)
    (c5 : decide (i28_0 c d < a) = false)
    (c6 : decide (a < c) = true)
    (c7 : callP (evalFn Try.prog Try.cfg k) 30 [V.agg [V.int IntKind.u64 a, V.int IntKind.u64 (IntKind.u64.wrap (c - 1))]] = some (V.agg [V.int IntKind.u64 a, V.int IntKind.u64 (i30_0 a (IntKind.u64.wrap (c - 1)))]))
    (c8 : decide (i28_0 c d < i28_0 a b) = false) :
    callP (evalFn Try.prog Try.cfg (k + 1)) 15 [V.agg [V.int IntKind.u64 a, V.int IntKind.u64 b], V.agg [V.int IntKind.u64 c, V.int IntKind.u64 d]] = some (V.tup [V.sl none false 2 [V.agg [V.int IntKind.u64 a, V.int IntKind.u64 (i30_0 a (IntKind.u64.wrap (c - 1)))]], V.int IntKind.i64 0]) :=
  byP [Hint.call 13 (V.int IntKind.i64 (i29_0 a b c d)), Hint.br 15 false, Hint.call 18 (V.agg [V.int IntKind.u64 a, V.int IntKind.u64 (i28_0 a b)]), Hint.call 20 (V.agg [V.int IntKind.u64 c, V.int IntKind.u64 (i28_0 c d)]), Hint.br 26 false, Hint.br 32 false, Hint.br 39 true, Hint.call 47 (V.agg [V.int IntKind.u64 a, V.int IntKind.u64 (i30_0 a (IntKind.u64.wrap (c - 1)))]), Hint.br 54 false] ((callP (evalFn Try.prog Try.cfg k) 29 [V.sl none false 2 [V.agg [V.int IntKind.u64 a, V.int IntKind.u64 b], V.agg [V.int IntKind.u64 c, V.int IntKind.u64 d]]] = some (V.int IntKind.i64 (i29_0 a b c d))) ∧ ((!decide (i29_0 a b c d = 0)) = false) ∧ (callP (evalFn Try.prog Try.cfg k) 28 [V.agg [V.int IntKind.u64 a, V.int IntKind.u64 b]] = some (V.agg [V.int IntKind.u64 a, V.int IntKind.u64 (i28_0 a b)])) ∧ (callP (evalFn Try.prog Try.cfg k) 28 [V.agg [V.int IntKind.u64 c, V.int IntKind.u64 d]] = some (V.agg [V.int IntKind.u64 c, V.int IntKind.u64 (i28_0 c d)])) ∧ (decide (i28_0 a b < c) = false) ∧ (decide (i28_0 c d < a) = false) ∧ (decide (a < c) = true) ∧ (callP (evalFn Try.prog Try.cfg k) 30 [V.agg [V.int IntKind.u64 a, V.int IntKind.u64 (IntKind.u64.wrap (c - 1))]] = some (V.agg [V.int IntKind.u64 a, V.int IntKind.u64 (i30_0 a (IntKind.u64.wrap (c - 1)))])) ∧ (decide (i28_0 c d < i28_0 a b) = false) ∧ True) (by kernel_rfl) ⟨c0, c1, c2, c3, c4, c5, c6, c7, c8, trivial⟩
theorem p15_5 (a : Int) (b : Int) (c : Int) (d : Int) (k : Nat)
    (c0 : callP (evalFn Try.prog Try.cfg k) 29 [V.sl none false 2 [V.agg [V.int IntKind.u64 a, V.int IntKind.u64 b], V.agg [V.int IntKind.u64 c, V.int IntKind.u64 d]]] = some (V.int IntKind.i64 (i29_0 a b c d)))
    (c1 : (!decide (i29_0 a b c d = 0)) = false)
    (c2 : callP (evalFn Try.prog Try.cfg k) 28 [V.agg [V.int IntKind.u64 a, V.int IntKind.u64 b]] = some (V.agg [V.int IntKind.u64 a, V.int IntKind.u64 (i28_0 a b)]))
    (c3 : callP (evalFn Try.prog Try.cfg k) 28 [V.agg [V.int IntKind.u64 c, V.int IntKind.u64 d]] = some (V.agg [V.int IntKind.u64 c, V.int IntKind.u64 (i28_0 c d)]))
    (c4 : decide (i28_0 a b < c) = false)
    (c5 : decide (i28_0 c d < a) = false)
    (c6 : decide (a < c) = false)
    (c7 : decide (i28_0 c d < i28_0 a b) = true)
    (c8 : callP (evalFn Try.prog Try.cfg k) 30 [V.agg [V.int IntKind.u64 (IntKind.u64.wrap (i28_0 c d + 1)), V.int IntKind.u64 (i28_0 a b)]] = some (V.agg [V.int IntKind.u64 (IntKind.u64.wrap (i28_0 c d + 1)), V.int IntKind.u64 (i30_0 (IntKind.u64.wrap (i28_0 c d + 1)) (i28_0 a b))])) :
    callP (evalFn Try.prog Try.cfg (k + 1)) 15 [V.agg [V.int IntKind.u64 a, V.int IntKind.u64 b], V.agg [V.int IntKind.u64 c, V.int IntKind.u64 d]] = some (V.tup [V.sl none false 2 [V.agg [V.int IntKind.u64 (IntKind.u64.wrap (i28_0 c d + 1)), V.int IntKind.u64 (i30_0 (IntKind.u64.wrap (i28_0 c d + 1)) (i28_0 a b))]], V.int IntKind.i64 0]) :=
  byP [Hint.call 13 (V.int IntKind.i64 (i29_0 a b c d)), Hint.br 15 false, Hint.call 18 (V.agg [V.int IntKind.u64 a, V.int IntKind.u64 (i28_0 a b)]), Hint.call 20 (V.agg [V.int IntKind.u64 c, V.int IntKind.u64 (i28_0 c d)]), Hint.br 26 false, Hint.br 32 false, Hint.br 39 false, Hint.br 54 true, Hint.call 62 (V.agg [V.int IntKind.u64 (IntKind.u64.wrap (i28_0 c d + 1)), V.int IntKind.u64 (i30_0 (IntKind.u64.wrap (i28_0 c d + 1)) (i28_0 a b))])] ((callP (evalFn Try.prog Try.cfg k) 29 [V.sl none false 2 [V.agg [V.int IntKind.u64 a, V.int IntKind.u64 b], V.agg [V.int IntKind.u64 c, V.int IntKind.u64 d]]] = some (V.int IntKind.i64 (i29_0 a b c d))) ∧ ((!decide (i29_0 a b c d = 0)) = false) ∧ (callP (evalFn Try.prog Try.cfg k) 28 [V.agg [V.int IntKind.u64 a, V.int IntKind.u64 b]] = some (V.agg [V.int IntKind.u64 a, V.int IntKind.u64 (i28_0 a b)])) ∧ (callP (evalFn Try.prog Try.cfg k) 28 [V.agg [V.int IntKind.u64 c, V.int IntKind.u64 d]] = some (V.agg [V.int IntKind.u64 c, V.int IntKind.u64 (i28_0 c d)])) ∧ (decide (i28_0 a b < c) = false) ∧ (decide (i28_0 c d < a) = false) ∧ (decide (a < c) = false) ∧ (decide (i28_0 c d < i28_0 a b) = true) ∧ (callP (evalFn Try.prog Try.cfg k) 30 [V.agg [V.int IntKind.u64 (IntKind.u64.wrap (i28_0 c d + 1)), V.int IntKind.u64 (i28_0 a b)]] = some (V.agg [V.int IntKind.u64 (IntKind.u64.wrap (i28_0 c d + 1)), V.int IntKind.u64 (i30_0 (IntKind.u64.wrap (i28_0 c d + 1)) (i28_0 a b))])) ∧ True) (by kernel_rfl) ⟨c0, c1, c2, c3, c4, c5, c6, c7, c8, trivial⟩
theorem p15_6 (a : Int) (b : Int) (c : Int) (d : Int) (k : Nat)
    (c0 : callP (evalFn Try.prog Try.cfg k) 29 [V.sl none false 2 [V.agg [V.int IntKind.u64 a, V.int IntKind.u64 b], V.agg [V.int IntKind.u64 c, V.int IntKind.u64 d]]] = some (V.int IntKind.i64 (i29_0 a b c d)))
    (c1 : (!decide (i29_0 a b c d = 0)) = false)
    (c2 : callP (evalFn Try.prog Try.cfg k) 28 [V.agg [V.int IntKind.u64 a, V.int IntKind.u64 b]] = some (V.agg [V.int IntKind.u64 a, V.int IntKind.u64 (i28_0 a b)]))
    (c3 : callP (evalFn Try.prog Try.cfg k) 28 [V.agg [V.int IntKind.u64 c, V.int IntKind.u64 d]] = some (V.agg [V.int IntKind.u64 c, V.int IntKind.u64 (i28_0 c d)]))
    (c4 : decide (i28_0 a b < c) = false)
    (c5 : decide (i28_0 c d < a) = false)
    (c6 : decide (a < c) = false)
    (c7 : decide (i28_0 c d < i28_0 a b) = false) :
    callP (evalFn Try.prog Try.cfg (k + 1)) 15 [V.agg [V.int IntKind.u64 a, V.int IntKind.u64 b], V.agg [V.int IntKind.u64 c, V.int IntKind.u64 d]] = some (V.tup [V.sl (some true) true 0 [], V.int IntKind.i64 0]) :=
  byP [Hint.call 13 (V.int IntKind.i64 (i29_0 a b c d)), Hint.br 15 false, Hint.call 18 (V.agg [V.int IntKind.u64 a, V.int IntKind.u64 (i28_0 a b)]), Hint.call 20 (V.agg [V.int IntKind.u64 c, V.int IntKind.u64 (i28_0 c d)]), Hint.br 26 false, Hint.br 32 false, Hint.br 39 false, Hint.br 54 false] ((callP (evalFn Try.prog Try.cfg k) 29 [V.sl none false 2 [V.agg [V.int IntKind.u64 a, V.int IntKind.u64 b], V.agg [V.int IntKind.u64 c, V.int IntKind.u64 d]]] = some (V.int IntKind.i64 (i29_0 a b c d))) ∧ ((!decide (i29_0 a b c d = 0)) = false) ∧ (callP (evalFn Try.prog Try.cfg k) 28 [V.agg [V.int IntKind.u64 a, V.int IntKind.u64 b]] = some (V.agg [V.int IntKind.u64 a, V.int IntKind.u64 (i28_0 a b)])) ∧ (callP (evalFn Try.prog Try.cfg k) 28 [V.agg [V.int IntKind.u64 c, V.int IntKind.u64 d]] = some (V.agg [V.int IntKind.u64 c, V.int IntKind.u64 (i28_0 c d)])) ∧ (decide (i28_0 a b < c) = false) ∧ (decide (i28_0 c d < a) = false) ∧ (decide (a < c) = false) ∧ (decide (i28_0 c d < i28_0 a b) = false) ∧ True) (by kernel_rfl) ⟨c0, c1, c2, c3, c4, c5, c6, c7, trivial⟩
theorem h15 (a : Int) (b : Int) (c : Int) (d : Int) (k : Nat) : callP (evalFn Try.prog Try.cfg (k + 7)) 15 [V.agg [V.int IntKind.u64 a, V.int IntKind.u64 b], V.agg [V.int IntKind.u64 c, V.int IntKind.u64 d]] = some (V.tup [V.sl (bif !decide (i29_0 a b c d = 0) then some true else bif decide (i28_0 a b < c) then none else bif decide (i28_0 c d < a) then none else bif decide (a < c) then none else bif decide (i28_0 c d < i28_0 a b) then none else some true) (!decide (i29_0 a b c d = 0) || bif decide (i28_0 a b < c) then false else bif decide (i28_0 c d < a) then false else bif decide (a < c) then false else !decide (i28_0 c d < i28_0 a b)) (bif !decide (i29_0 a b c d = 0) then 0 else bif decide (i28_0 a b < c) then 2 else bif decide (i28_0 c d < a) then 2 else bif decide (a < c) then 2 else bif decide (i28_0 c d < i28_0 a b) then 2 else 0) (i15_0 a b c d), V.int IntKind.i64 (i15_1 a b c d)]) := by
  unfold i15_0 i15_1
  cases d10000 : (!decide (i29_0 a b c d = 0)) with
  | true =>
    exact p15_0 a b c d (k + 6) (h29 _ _ _ _ (k + 0)) d10000
  | false =>
    cases d24000 : (decide (i28_0 a b < c)) with
    | true =>
      exact p15_1 a b c d (k + 6) (h29 _ _ _ _ (k + 0)) d10000 (h28 _ _ (k + 5)) (h28 _ _ (k + 5)) d24000
    | false =>
      cases d30000 : (decide (i28_0 c d < a)) with
      | true =>
        exact p15_2 a b c d (k + 6) (h29 _ _ _ _ (k + 0)) d10000 (h28 _ _ (k + 5)) (h28 _ _ (k + 5)) d24000 d30000
      | false =>
        cases d36000 : (decide (a < c)) with
        | true =>
          cases d52000 : (decide (i28_0 c d < i28_0 a b)) with
          | true =>
            exact p15_3 a b c d (k + 6) (h29 _ _ _ _ (k + 0)) d10000 (h28 _ _ (k + 5)) (h28 _ _ (k + 5)) d24000 d30000 d36000 (h30 _ _ (k + 5)) d52000 (h30 _ _ (k + 5))
          | false =>
            exact p15_4 a b c d (k + 6) (h29 _ _ _ _ (k + 0)) d10000 (h28 _ _ (k + 5)) (h28 _ _ (k + 5)) d24000 d30000 d36000 (h30 _ _ (k + 5)) d52000
        | false =>
          cases d41000 : (decide (i28_0 c d < i28_0 a b)) with
          | true =>
            exact p15_5 a b c d (k + 6) (h29 _ _ _ _ (k + 0)) d10000 (h28 _ _ (k + 5)) (h28 _ _ (k + 5)) d24000 d30000 d36000 d41000 (h30 _ _ (k + 5))
          | false =>
            exact p15_6 a b c d (k + 6) (h29 _ _ _ _ (k + 0)) d10000 (h28 _ _ (k + 5)) (h28 _ _ (k + 5)) d24000 d30000 d36000 d41000
def i18_0 (a : Int) (b : Int) (c : Int) (d : Int) : List V := bif !i19_0 a b c d then [V.agg [V.int IntKind.u64 a, V.int IntKind.u64 b]] else bif decide (a < c) then bif decide (i13_0 c d < i13_0 a b) then [V.agg [V.int IntKind.u64 a, V.int IntKind.u64 (i22_0 a (IntKind.u64.wrap (c - 1)))], V.agg [V.int IntKind.u64 (IntKind.u64.wrap (i13_0 c d + 1)), V.int IntKind.u64 (i22_0 (IntKind.u64.wrap (i13_0 c d + 1)) (i13_0 a b))]] else [V.agg [V.int IntKind.u64 a, V.int IntKind.u64 (i22_0 a (IntKind.u64.wrap (c - 1)))]] else bif decide (i13_0 c d < i13_0 a b) then [V.agg [V.int IntKind.u64 (IntKind.u64.wrap (i13_0 c d + 1)), V.int IntKind.u64 (i22_0 (IntKind.u64.wrap (i13_0 c d + 1)) (i13_0 a b))]] else []
theorem p18_0 (a : Int) (b : Int) (c : Int) (d : Int) (k : Nat)
    (c0 : callP (evalFn Try.prog Try.cfg k) 19 [V.agg [V.int IntKind.u64 a, V.int IntKind.u64 b], V.agg [V.int IntKind.u64 c, V.int IntKind.u64 d]] = some (V.bool (i19_0 a b c d)))
    (c1 : (!i19_0 a b c d) = true) :
    callP (evalFn Try.prog Try.cfg (k + 1)) 18 [V.agg [V.int IntKind.u64 a, V.int IntKind.u64 b], V.agg [V.int IntKind.u64 c, V.int IntKind.u64 d]] = some (V.sl none false 2 [V.agg [V.int IntKind.u64 a, V.int IntKind.u64 b]]) :=
  byP [Hint.call 8 (V.bool (i19_0 a b c d)), Hint.br 9 true] ((callP (evalFn Try.prog Try.cfg k) 19 [V.agg [V.int IntKind.u64 a, V.int IntKind.u64 b], V.agg [V.int IntKind.u64 c, V.int IntKind.u64 d]] = some (V.bool (i19_0 a b c d))) ∧ ((!i19_0 a b c d) = true) ∧ True) (by kernel_rfl) ⟨c0, c1, trivial⟩
theorem p18_1 (a : Int) (b : Int) (c : Int) (d : Int) (k : Nat)
    (c0 : callP (evalFn Try.prog Try.cfg k) 19 [V.agg [V.int IntKind.u64 a, V.int IntKind.u64 b], V.agg [V.int IntKind.u64 c, V.int IntKind.u64 d]] = some (V.bool (i19_0 a b c d)))
    (c1 : (!i19_0 a b c d) = false)
    (c2 : decide (a < c) = true)
    (c3 : callP (evalFn Try.prog Try.cfg k) 22 [V.int IntKind.u64 a, V.int IntKind.u64 (IntKind.u64.wrap (c - 1))] = some (V.agg [V.int IntKind.u64 a, V.int IntKind.u64 (i22_0 a (IntKind.u64.wrap (c - 1)))]))
    (c4 : callP (evalFn Try.prog Try.cfg k) 13 [V.agg [V.int IntKind.u64 a, V.int IntKind.u64 b]] = some (V.int IntKind.u64 (i13_0 a b)))
    (c5 : callP (evalFn Try.prog Try.cfg k) 13 [V.agg [V.int IntKind.u64 c, V.int IntKind.u64 d]] = some (V.int IntKind.u64 (i13_0 c d)))
    (c6 : decide (i13_0 c d < i13_0 a b) = true)
    (c7 : callP (evalFn Try.prog Try.cfg k) 13 [V.agg [V.int IntKind.u64 c, V.int IntKind.u64 d]] = some (V.int IntKind.u64 (i13_0 c d)))
    (c8 : callP (evalFn Try.prog Try.cfg k) 13 [V.agg [V.int IntKind.u64 a, V.int IntKind.u64 b]] = some (V.int IntKind.u64 (i13_0 a b)))
    (c9 : callP (evalFn Try.prog Try.cfg k) 22 [V.int IntKind.u64 (IntKind.u64.wrap (i13_0 c d + 1)), V.int IntKind.u64 (i13_0 a b)] = some (V.agg [V.int IntKind.u64 (IntKind.u64.wrap (i13_0 c d + 1)), V.int IntKind.u64 (i22_0 (IntKind.u64.wrap (i13_0 c d + 1)) (i13_0 a b))])) :
    callP (evalFn Try.prog Try.cfg (k + 1)) 18 [V.agg [V.int IntKind.u64 a, V.int IntKind.u64 b], V.agg [V.int IntKind.u64 c, V.int IntKind.u64 d]] = some (V.sl none false 2 [V.agg [V.int IntKind.u64 a, V.int IntKind.u64 (i22_0 a (IntKind.u64.wrap (c - 1)))], V.agg [V.int IntKind.u64 (IntKind.u64.wrap (i13_0 c d + 1)), V.int IntKind.u64 (i22_0 (IntKind.u64.wrap (i13_0 c d + 1)) (i13_0 a b))]]) :=
  byP [Hint.call 8 (V.bool (i19_0 a b c d)), Hint.br 9 false, Hint.br 17 true, Hint.call 24 (V.agg [V.int IntKind.u64 a, V.int IntKind.u64 (i22_0 a (IntKind.u64.wrap (c - 1)))]), Hint.call 28 (V.int IntKind.u64 (i13_0 a b)), Hint.call 30 (V.int IntKind.u64 (i13_0 c d)), Hint.br 31 true, Hint.call 34 (V.int IntKind.u64 (i13_0 c d)), Hint.call 37 (V.int IntKind.u64 (i13_0 a b)), Hint.call 38 (V.agg [V.int IntKind.u64 (IntKind.u64.wrap (i13_0 c d + 1)), V.int IntKind.u64 (i22_0 (IntKind.u64.wrap (i13_0 c d + 1)) (i13_0 a b))])] ((callP (evalFn Try.prog Try.cfg k) 19 [V.agg [V.int IntKind.u64 a, V.int IntKind.u64 b], V.agg [V.int IntKind.u64 c, V.int IntKind.u64 d]] = some (V.bool (i19_0 a b c d))) ∧ ((!i19_0 a b c d) = false) ∧ (decide (a < c) = true) ∧ (callP (evalFn Try.prog Try.cfg k) 22 [V.int IntKind.u64 a, V.int IntKind.u64 (IntKind.u64.wrap (c - 1))] = some (V.agg [V.int IntKind.u64 a, V.int IntKind.u64 (i22_0 a (IntKind.u64.wrap (c - 1)))])) ∧ (callP (evalFn Try.prog Try.cfg k) 13 [V.agg [V.int IntKind.u64 a, V.int IntKind.u64 b]] = some (V.int IntKind.u64 (i13_0 a b))) ∧ (callP (evalFn Try.prog Try.cfg k) 13 [V.agg [V.int IntKind.u64 c, V.int IntKind.u64 d]] = some (V.int IntKind.u64 (i13_0 c d))) ∧ (decide (i13_0 c d < i13_0 a b) = true) ∧ (callP (evalFn Try.prog Try.cfg k) 13 [V.agg [V.int IntKind.u64 c, V.int IntKind.u64 d]] = some (V.int IntKind.u64 (i13_0 c d))) ∧ (callP (evalFn Try.prog Try.cfg k) 13 [V.agg [V.int IntKind.u64 a, V.int IntKind.u64 b]] = some (V.int IntKind.u64 (i13_0 a b))) ∧ (callP (evalFn Try.prog Try.cfg k) 22 [V.int IntKind.u64 (IntKind.u64.wrap (i13_0 c d + 1)), V.int IntKind.u64 (i13_0 a b)] = some (V.agg [V.int IntKind.u64 (IntKind.u64.wrap (i13_0 c d + 1)), V.int IntKind.u64 (i22_0 (IntKind.u64.wrap (i13_0 c d + 1)) (i13_0 a b))])) ∧ True) (by kernel_rfl) ⟨c0, c1, c2, c3, c4, c5, c6, c7, c8, c9, trivial⟩
theorem p18_2 (a : Int) (b : Int) (c : Int) (d : Int) (k : Nat)
    (c0 : callP (evalFn Try.prog Try.cfg k) 19 [V.agg [V.int IntKind.u64 a, V.int IntKind.u64 b], V.agg [V.int IntKind.u64 c, V.int IntKind.u64 d]] = some (V.bool (i19_0 a b c d)))
    (c1 : (!i19_0 a b c d) = false)
    (c2 : decide (a < c) = true)
    (c3 : callP (evalFn Try.prog Try.cfg k) 22 [V.int IntKind.u64 a, V.int IntKind.u64 (IntKind.u64.wrap (c - 1))] = some (V.agg [V.int IntKind.u64 a, V.int IntKind.u64 (i22_0 a (IntKind.u64.wrap (c - 1)))]))
    (c4 : callP (evalFn Try.prog Try.cfg k) 13 [V.agg [V.int IntKind.u64 a, V.int IntKind.u64 b]] = some (V.int IntKind.u64 (i13_0 a b)))
    (c5 : callP (evalFn Try.prog Try.cfg k) 13 [V.agg [V.int IntKind.u64 c, V.int IntKind.u64 d]] = some (V.int IntKind.u64 (i13_0 c d)))
    (c6 : decide (i13_0 c d < i13_0 a b) = false) :
    callP (evalFn Try.prog Try.cfg (k + 1)) 18 [V.agg [V.int IntKind.u64 a, V.int IntKind.u64 b], V.agg [V.int IntKind.u64 c, V.int IntKind.u64 d]] = some (V.sl none false 2 [V.agg [V.int IntKind.u64 a, V.int IntKind.u64 (i22_0 a (IntKind.u64.wrap (c - 1)))]]) :=
  byP [Hint.call 8 (V.bool (i19_0 a b c d)), Hint.br 9 false, Hint.br 17 true, Hint.call 24 (V.agg [V.int IntKind.u64 a, V.int IntKind.u64 (i22_0 a (IntKind.u64.wrap (c - 1)))]), Hint.call 28 (V.int IntKind.u64 (i13_0 a b)), Hint.call 30 (V.int IntKind.u64 (i13_0 c d)), Hint.br 31 false] ((callP (evalFn Try.prog Try.cfg k) 19 [V.agg [V.int IntKind.u64 a, V.int IntKind.u64 b], V.agg [V.int IntKind.u64 c, V.int IntKind.u64 d]] = some (V.bool (i19_0 a b c d))) ∧ ((!i19_0 a b c d) = false) ∧ (decide (a < c) = true) ∧ (callP (evalFn Try.prog Try.cfg k) 22 [V.int IntKind.u64 a, V.int IntKind.u64 (IntKind.u64.wrap (c - 1))] = some (V.agg [V.int IntKind.u64 a, V.int IntKind.u64 (i22_0 a (IntKind.u64.wrap (c - 1)))])) ∧ (callP (evalFn Try.prog Try.cfg k) 13 [V.agg [V.int IntKind.u64 a, V.int IntKind.u64 b]] = some (V.int IntKind.u64 (i13_0 a b))) ∧ (callP (evalFn Try.prog Try.cfg k) 13 [V.agg [V.int IntKind.u64 c, V.int IntKind.u64 d]] = some (V.int IntKind.u64 (i13_0 c d))) ∧ (decide (i13_0 c d < i13_0 a b) = false) ∧ True) (by kernel_rfl) ⟨c0, c1, c2, c3, c4, c5, c6, trivial⟩
theorem p18_3 (a : Int) (b : Int) (c : Int) (d : Int) (k : Nat)
    (c0 : callP (evalFn Try.prog Try.cfg k) 19 [V.agg [V.int IntKind.u64 a, V.int IntKind.u64 b], V.agg [V.int IntKind.u64 c, V.int IntKind.u64 d]] = some (V.bool (i19_0 a b c d)))
    (c1 : (!i19_0 a b c d) = false)
    (c2 : decide (a < c) = false)
    (c3 : callP (evalFn Try.prog Try.cfg k) 13 [V.agg [V.int IntKind.u64 a, V.int IntKind.u64 b]] = some (V.int IntKind.u64 (i13_0 a b)))
    (c4 : callP (evalFn Try.prog Try.cfg k) 13 [V.agg [V.int IntKind.u64 c, V.int IntKind.u64 d]] = some (V.int IntKind.u64 (i13_0 c d)))
    (c5 : decide (i13_0 c d < i13_0 a b) = true)
    (c6 : callP (evalFn Try.prog Try.cfg k) 13 [V.agg [V.int IntKind.u64 c, V.int IntKind.u64 d]] = some (V.int IntKind.u64 (i13_0 c d)))
    (c7 : callP (evalFn Try.prog Try.cfg k) 13 [V.agg [V.int IntKind.u64 a, V.int IntKind.u64 b]] = some (V.int IntKind.u64 (i13_0 a b)))
    (c8 : callP (evalFn Try.prog Try.cfg k) 22 [V.int IntKind.u64 (IntKind.u64.wrap (i13_0 c d + 1)), V.int IntKind.u64 (i13_0 a b)] = some (V.agg [V.int IntKind.u64 (IntKind.u64.wrap (i13_0 c d + 1)), V.int IntKind.u64 (i22_0 (IntKind.u64.wrap (i13_0 c d + 1)) (i13_0 a b))])) :
    callP (evalFn Try.prog Try.cfg (k + 1)) 18 [V.agg [V.int IntKind.u64 a, V.int IntKind.u64 b], V.agg [V.int IntKind.u64 c, V.int IntKind.u64 d]] = some (V.sl none false 2 [V.agg [V.int IntKind.u64 (IntKind.u64.wrap (i13_0 c d + 1)), V.int IntKind.u64 (i22_0 (IntKind.u64.wrap (i13_0 c d + 1)) (i13_0 a b))]]) :=
  byP [Hint.call 8 (V.bool (i19_0 a b c d)), Hint.br 9 false, Hint.br 17 false, Hint.call 28 (V.int IntKind.u64 (i13_0 a b)), Hint.call 30 (V.int IntKind.u64 (i13_0 c d)), Hint.br 31 true, Hint.call 34 (V.int IntKind.u64 (i13_0 c d)), Hint.call 37 (V.int IntKind.u64 (i13_0 a b)), Hint.call 38 (V.agg [V.int IntKind.u64 (IntKind.u64.wrap (i13_0 c d + 1)), V.int IntKind.u64 (i22_0 (IntKind.u64.wrap (i13_0 c d + 1)) (i13_0 a b))])] ((callP (evalFn Try.prog Try.cfg k) 19 [V.agg [V.int IntKind.u64 a, V.int IntKind.u64 b], V.agg [V.int IntKind.u64 c, V.int IntKind.u64 d]] = some (V.bool (i19_0 a b c d))) ∧ ((!i19_0 a b c d) = false) ∧ (decide (a < c) = false) ∧ (callP (evalFn Try.prog Try.cfg k) 13 [V.agg [V.int IntKind.u64 a, V.int IntKind.u64 b]] = some (V.int IntKind.u64 (i13_0 a b))) ∧ (callP (evalFn Try.prog Try.cfg k) 13 [V.agg [V.int IntKind.u64 c, V.int IntKind.u64 d]] = some (V.int IntKind.u64 (i13_0 c d))) ∧ (decide (i13_0 c d < i13_0 a b) = true) ∧ (callP (evalFn Try.prog Try.cfg k) 13 [V.agg [V.int IntKind.u64 c, V.int IntKind.u64 d]] = some (V.int IntKind.u64 (i13_0 c d))) ∧ (callP (evalFn Try.prog Try.cfg k) 13 [V.agg [V.int IntKind.u64 a, V.int IntKind.u64 b]] = some (V.int IntKind.u64 (i13_0 a b))) ∧ (callP (evalFn Try.prog Try.cfg k) 22 [V.int IntKind.u64 (IntKind.u64.wrap (i13_0 c d + 1)), V.int IntKind.u64 (i13_0 a b)] = some (V.agg [V.int IntKind.u64 (IntKind.u64.wrap (i13_0 c d + 1)), V.int IntKind.u64 (i22_0 (IntKind.u64.wrap (i13_0 c d + 1)) (i13_0 a b))])) ∧ True) (by kernel_rfl) ⟨c0, c1, c2, c3, c4, c5, c6, c7, c8, trivial⟩
theorem p18_4 (a : Int) (b : Int) (c : Int) (d : Int) (k : Nat)
    (c0 : callP (evalFn Try.prog Try.cfg k) 19 [V.agg [V.int IntKind.u64 a, V.int IntKind.u64 b], V.agg [V.int IntKind.u64 c, V.int IntKind.u64 d]] = some (V.bool (i19_0 a b c d)))
    (c1 : (!i19_0 a b c d) = false)
    (c2 : decide (a < c) = false)
    (c3 : callP (evalFn Try.prog Try.cfg k) 13 [V.agg [V.int IntKind.u64 a, V.int IntKind.u64 b]] = some (V.int IntKind.u64 (i13_0 a b)))
    (c4 : callP (evalFn Try.prog Try.cfg k) 13 [V.agg [V.int IntKind.u64 c, V.int IntKind.u64 d]] = some (V.int IntKind.u64 (i13_0 c d)))
    (c5 : decide (i13_0 c d < i13_0 a b) = false) :
    callP (evalFn Try.prog Try.cfg (k + 1)) 18 [V.agg [V.int IntKind.u64 a, V.int IntKind.u64 b], V.agg [V.int IntKind.u64 c, V.int IntKind.u64 d]] = some (V.sl none false 2 []) :=
  byP [Hint.call 8 (V.bool (i19_0 a b c d)), Hint.br 9 false, Hint.br 17 false, Hint.call 28 (V.int IntKind.u64 (i13_0 a b)), Hint.call 30 (V.int IntKind.u64 (i13_0 c d)), Hint.br 31 false] ((callP (evalFn Try.prog Try.cfg k) 19 [V.agg [V.int IntKind.u64 a, V.int IntKind.u64 b], V.agg [V.int IntKind.u64 c, V.int IntKind.u64 d]] = some (V.bool (i19_0 a b c d))) ∧ ((!i19_0 a b c d) = false) ∧ (decide (a < c) = false) ∧ (callP (evalFn Try.prog Try.cfg k) 13 [V.agg [V.int IntKind.u64 a, V.int IntKind.u64 b]] = some (V.int IntKind.u64 (i13_0 a b))) ∧ (callP (evalFn Try.prog Try.cfg k) 13 [V.agg [V.int IntKind.u64 c, V.int IntKind.u64 d]] = some (V.int IntKind.u64 (i13_0 c d))) ∧ (decide (i13_0 c d < i13_0 a b) = false) ∧ True) (by kernel_rfl) ⟨c0, c1, c2, c3, c4, c5, trivial⟩
theorem h18 (a : Int) (b : Int) (c : Int) (d : Int) (k : Nat) : callP (evalFn Try.prog Try.cfg (k + 4)) 18 [V.agg [V.int IntKind.u64 a, V.int IntKind.u64 b], V.agg [V.int IntKind.u64 c, V.int IntKind.u64 d]] = some (V.sl none false 2 (i18_0 a b c d)) := by
  unfold i18_0
  cases d6000 : (!i19_0 a b c d) with
  | true =>
    exact p18_0 a b c d (k + 3) (h19 _ _ _ _ (k + 0)) d6000
  | false =>
    cases d13000 : (decide (a < c)) with
    | true =>
      cases d28000 : (decide (i13_0 c d < i13_0 a b)) with
      | true =>
        exact p18_1 a b c d (k + 3) (h19 _ _ _ _ (k + 0)) d6000 d13000 (h22 _ _ (k + 2)) (h13 _ _ (k + 2)) (h13 _ _ (k + 2)) d28000 (h13 _ _ (k + 2)) (h13 _ _ (k + 2)) (h22 _ _ (k + 2))
      | false =>
        exact p18_2 a b c d (k + 3) (h19 _ _ _ _ (k + 0)) d6000 d13000 (h22 _ _ (k + 2)) (h13 _ _ (k + 2)) (h13 _ _ (k + 2)) d28000
    | false =>
      cases d18000 : (decide (i13_0 c d < i13_0 a b)) with
      | true =>
        exact p18_3 a b c d (k + 3) (h19 _ _ _ _ (k + 0)) d6000 d13000 (h13 _ _ (k + 2)) (h13 _ _ (k + 2)) d18000 (h13 _ _ (k + 2)) (h13 _ _ (k + 2)) (h22 _ _ (k + 2))
      | false =>
        exact p18_4 a b c d (k + 3) (h19 _ _ _ _ (k + 0)) d6000 d13000 (h13 _ _ (k + 2)) (h13 _ _ (k + 2)) d18000
def i21_0 (a : Int) (b : Int) (z : Int) : Int := bif !decide (i12_0 a b = 0) then 0 else bif decide (z = 0) then 0 else bif decide (i30_0 (IntKind.u64.wrap (a.tdiv z)) (IntKind.u64.wrap ((i28_0 a b).tdiv z)) = 0) then 0 else IntKind.u64.wrap (a.tdiv z)
def i21_1 (a : Int) (b : Int) (z : Int) : Int := bif !decide (i12_0 a b = 0) then 0 else bif decide (z = 0) then 0 else bif decide (i30_0 (IntKind.u64.wrap (a.tdiv z)) (IntKind.u64.wrap ((i28_0 a b).tdiv z)) = 0) then 0 else i30_0 (IntKind.u64.wrap (a.tdiv z)) (IntKind.u64.wrap ((i28_0 a b).tdiv z))
def i21_2 (a : Int) (b : Int) (z : Int) : Int := bif !decide (i12_0 a b = 0) then i12_0 a b else bif decide (z = 0) then 1 else bif decide (i30_0 (IntKind.u64.wrap (a.tdiv z)) (IntKind.u64.wrap ((i28_0 a b).tdiv z)) = 0) then 2 else 0
theorem p21_0 (a : Int) (b : Int) (z : Int) (k : Nat)
    (c0 : callP (evalFn Try.prog Try.cfg k) 12 [V.agg [V.int IntKind.u64 a, V.int IntKind.u64 b]] = some (V.int IntKind.i64 (i12_0 a b)))
    (c1 : (!decide (i12_0 a b = 0)) = true) :
    callP (evalFn Try.prog Try.cfg (k + 1)) 21 [V.agg [V.int IntKind.u64 a, V.int IntKind.u64 b], V.int IntKind.u64 z] = some (V.tup [V.agg [V.int IntKind.u64 0, V.int IntKind.u64 0], V.int IntKind.i64 (i12_0 a b)]) :=
  byP [Hint.call 10 (V.int IntKind.i64 (i12_0 a b)), Hint.br 12 true] ((callP (evalFn Try.prog Try.cfg k) 12 [V.agg [V.int IntKind.u64 a, V.int IntKind.u64 b]] = some (V.int IntKind.i64 (i12_0 a b))) ∧ ((!decide (i12_0 a b = 0)) = true) ∧ True) (by kernel_rfl) ⟨c0, c1, trivial⟩
theorem p21_1 (a : Int) (b : Int) (z : Int) (k : Nat)
    (c0 : callP (evalFn Try.prog Try.cfg k) 12 [V.agg [V.int IntKind.u64 a, V.int IntKind.u64 b]] = some (V.int IntKind.i64 (i12_0 a b)))
    (c1 : (!decide (i12_0 a b = 0)) = false)
    (c2 : decide (z = 0) = true) :
    callP (evalFn Try.prog Try.cfg (k + 1)) 21 [V.agg [V.int IntKind.u64 a, V.int IntKind.u64 b], V.int IntKind.u64 z] = some (V.tup [V.agg [V.int IntKind.u64 0, V.int IntKind.u64 0], V.int IntKind.i64 1]) :=
  byP [Hint.call 10 (V.int IntKind.i64 (i12_0 a b)), Hint.br 12 false, Hint.br 16 true] ((callP (evalFn Try.prog Try.cfg k) 12 [V.agg [V.int IntKind.u64 a, V.int IntKind.u64 b]] = some (V.int IntKind.i64 (i12_0 a b))) ∧ ((!decide (i12_0 a b = 0)) = false) ∧ (decide (z = 0) = true) ∧ True) (by kernel_rfl) ⟨c0, c1, c2, trivial⟩
theorem p21_2 (a : Int) (b : Int) (z : Int) (k : Nat)
    (c0 : callP (evalFn Try.prog Try.cfg k) 12 [V.agg [V.int IntKind.u64 a, V.int IntKind.u64 b]] = some (V.int IntKind.i64 (i12_0 a b)))
    (c1 : (!decide (i12_0 a b = 0)) = false)
    (c2 : decide (z = 0) = false)
    (c3 : callP (evalFn Try.prog Try.cfg k) 28 [V.agg [V.int IntKind.u64 a, V.int IntKind.u64 b]] = some (V.agg [V.int IntKind.u64 a, V.int IntKind.u64 (i28_0 a b)]))
    (c4 : GrdP (IntKind.u64 = IntKind.u64 ∧ z ≠ 0) (V.int IntKind.u64 (IntKind.u64.wrap (a.tdiv z))))
    (c5 : GrdP (IntKind.u64 = IntKind.u64 ∧ z ≠ 0) (V.int IntKind.u64 (IntKind.u64.wrap ((i28_0 a b).tdiv z))))
    (c6 : callP (evalFn Try.prog Try.cfg k) 30 [V.agg [V.int IntKind.u64 (IntKind.u64.wrap (a.tdiv z)), V.int IntKind.u64 (IntKind.u64.wrap ((i28_0 a b).tdiv z))]] = some (V.agg [V.int IntKind.u64 (IntKind.u64.wrap (a.tdiv z)), V.int IntKind.u64 (i30_0 (IntKind.u64.wrap (a.tdiv z)) (IntKind.u64.wrap ((i28_0 a b).tdiv z)))]))
    (c7 : decide (i30_0 (IntKind.u64.wrap (a.tdiv z)) (IntKind.u64.wrap ((i28_0 a b).tdiv z)) = 0) = true) :
    callP (evalFn Try.prog Try.cfg (k + 1)) 21 [V.agg [V.int IntKind.u64 a, V.int IntKind.u64 b], V.int IntKind.u64 z] = some (V.tup [V.agg [V.int IntKind.u64 0, V.int IntKind.u64 0], V.int IntKind.i64 2]) :=
  byP [Hint.call 10 (V.int IntKind.i64 (i12_0 a b)), Hint.br 12 false, Hint.br 16 false, Hint.call 19 (V.agg [V.int IntKind.u64 a, V.int IntKind.u64 (i28_0 a b)]), Hint.op 23 (V.int IntKind.u64 (IntKind.u64.wrap (a.tdiv z))) [], Hint.op 27 (V.int IntKind.u64 (IntKind.u64.wrap ((i28_0 a b).tdiv z))) [], Hint.call 29 (V.agg [V.int IntKind.u64 (IntKind.u64.wrap (a.tdiv z)), V.int IntKind.u64 (i30_0 (IntKind.u64.wrap (a.tdiv z)) (IntKind.u64.wrap ((i28_0 a b).tdiv z)))]), Hint.br 32 true] ((callP (evalFn Try.prog Try.cfg k) 12 [V.agg [V.int IntKind.u64 a, V.int IntKind.u64 b]] = some (V.int IntKind.i64 (i12_0 a b))) ∧ ((!decide (i12_0 a b = 0)) = false) ∧ (decide (z = 0) = false) ∧ (callP (evalFn Try.prog Try.cfg k) 28 [V.agg [V.int IntKind.u64 a, V.int IntKind.u64 b]] = some (V.agg [V.int IntKind.u64 a, V.int IntKind.u64 (i28_0 a b)])) ∧ (GrdP (IntKind.u64 = IntKind.u64 ∧ z ≠ 0) (V.int IntKind.u64 (IntKind.u64.wrap (a.tdiv z)))) ∧ (GrdP (IntKind.u64 = IntKind.u64 ∧ z ≠ 0) (V.int IntKind.u64 (IntKind.u64.wrap ((i28_0 a b).tdiv z)))) ∧ (callP (evalFn Try.prog Try.cfg k) 30 [V.agg [V.int IntKind.u64 (IntKind.u64.wrap (a.tdiv z)), V.int IntKind.u64 (IntKind.u64.wrap ((i28_0 a b).tdiv z))]] = some (V.agg [V.int IntKind.u64 (IntKind.u64.wrap (a.tdiv z)), V.int IntKind.u64 (i30_0 (IntKind.u64.wrap (a.tdiv z)) (IntKind.u64.wrap ((i28_0 a b).tdiv z)))])) ∧ (decide (i30_0 (IntKind.u64.wrap (a.tdiv z)) (IntKind.u64.wrap ((i28_0 a b).tdiv z)) = 0) = true) ∧ True) (by kernel_rfl) ⟨c0, c1, c2, c3, c4, c5, c6, c7, trivial⟩
theorem p21_3 (a : Int) (b : Int) (z : Int) (k : Nat)
    (c0 : callP (evalFn Try.prog Try.cfg k) 12 [V.agg [V.int IntKind.u64 a, V.int IntKind.u64 b]] = some (V.int IntKind.i64 (i12_0 a b)))
    (c1 : (!decide (i12_0 a b = 0)) = false)
    (c2 : decide (z = 0) = false)
    (c3 : callP (evalFn Try.prog Try.cfg k) 28 [V.agg [V.int IntKind.u64 a, V.int IntKind.u64 b]] = some (V.agg [V.int IntKind.u64 a, V.int IntKind.u64 (i28_0 a b)]))
    (c4 : GrdP (IntKind.u64 = IntKind.u64 ∧ z ≠ 0) (V.int IntKind.u64 (IntKind.u64.wrap (a.tdiv z))))
    (c5 : GrdP (IntKind.u64 = IntKind.u64 ∧ z ≠ 0) (V.int IntKind.u64 (IntKind.u64.wrap ((i28_0 a b).tdiv z))))
    (c6 : callP (evalFn Try.prog Try.cfg k) 30 [V.agg [V.int IntKind.u64 (IntKind.u64.wrap (a.tdiv z)), V.int IntKind.u64 (IntKind.u64.wrap ((i28_0 a b).tdiv z))]] = some (V.agg [V.int IntKind.u64 (IntKind.u64.wrap (a.tdiv z)), V.int IntKind.u64 (i30_0 (IntKind.u64.wrap (a.tdiv z)) (IntKind.u64.wrap ((i28_0 a b).tdiv z)))]))
    (c7 : decide (i30_0 (IntKind.u64.wrap (a.tdiv z)) (IntKind.u64.wrap ((i28_0 a b).tdiv z)) = 0) = false) :
    callP (evalFn Try.prog Try.cfg (k + 1)) 21 [V.agg [V.int IntKind.u64 a, V.int IntKind.u64 b], V.int IntKind.u64 z] = some (V.tup [V.agg [V.int IntKind.u64 (IntKind.u64.wrap (a.tdiv z)), V.int IntKind.u64 (i30_0 (IntKind.u64.wrap (a.tdiv z)) (IntKind.u64.wrap ((i28_0 a b).tdiv z)))], V.int IntKind.i64 0]) :=
  byP [Hint.call 10 (V.int IntKind.i64 (i12_0 a b)), Hint.br 12 false, Hint.br 16 false, Hint.call 19 (V.agg [V.int IntKind.u64 a, V.int IntKind.u64 (i28_0 a b)]), Hint.op 23 (V.int IntKind.u64 (IntKind.u64.wrap (a.tdiv z))) [], Hint.op 27 (V.int IntKind.u64 (IntKind.u64.wrap ((i28_0 a b).tdiv z))) [], Hint.call 29 (V.agg [V.int IntKind.u64 (IntKind.u64.wrap (a.tdiv z)), V.int IntKind.u64 (i30_0 (IntKind.u64.wrap (a.tdiv z)) (IntKind.u64.wrap ((i28_0 a b).tdiv z)))]), Hint.br 32 false] ((callP (evalFn Try.prog Try.cfg k) 12 [V.agg [V.int IntKind.u64 a, V.int IntKind.u64 b]] = some (V.int IntKind.i64 (i12_0 a b))) ∧ ((!decide (i12_0 a b = 0)) = false) ∧ (decide (z = 0) = false) ∧ (callP (evalFn Try.prog Try.cfg k) 28 [V.agg [V.int IntKind.u64 a, V.int IntKind.u64 b]] = some (V.agg [V.int IntKind.u64 a, V.int IntKind.u64 (i28_0 a b)])) ∧ (GrdP (IntKind.u64 = IntKind.u64 ∧ z ≠ 0) (V.int IntKind.u64 (IntKind.u64.wrap (a.tdiv z)))) ∧ (GrdP (IntKind.u64 = IntKind.u64 ∧ z ≠ 0) (V.int IntKind.u64 (IntKind.u64.wrap ((i28_0 a b).tdiv z)))) ∧ (callP (evalFn Try.prog Try.cfg k) 30 [V.agg [V.int IntKind.u64 (IntKind.u64.wrap (a.tdiv z)), V.int IntKind.u64 (IntKind.u64.wrap ((i28_0 a b).tdiv z))]] = some (V.agg [V.int IntKind.u64 (IntKind.u64.wrap (a.tdiv z)), V.int IntKind.u64 (i30_0 (IntKind.u64.wrap (a.tdiv z)) (IntKind.u64.wrap ((i28_0 a b).tdiv z)))])) ∧ (decide (i30_0 (IntKind.u64.wrap (a.tdiv z)) (IntKind.u64.wrap ((i28_0 a b).tdiv z)) = 0) = false) ∧ True) (by kernel_rfl) ⟨c0, c1, c2, c3, c4, c5, c6, c7, trivial⟩
theorem h21 (a : Int) (b : Int) (z : Int) (k : Nat) : callP (evalFn Try.prog Try.cfg (k + 2)) 21 [V.agg [V.int IntKind.u64 a, V.int IntKind.u64 b], V.int IntKind.u64 z] = some (V.tup [V.agg [V.int IntKind.u64 (i21_0 a b z), V.int IntKind.u64 (i21_1 a b z)], V.int IntKind.i64 (i21_2 a b z)]) := by
  unfold i21_0 i21_1 i21_2
  cases d7000 : (!decide (i12_0 a b = 0)) with
  | true =>
    exact p21_0 a b z (k + 1) (h12 _ _ (k + 0)) d7000
  | false =>
    cases d9000 : (decide (z = 0)) with
    | true =>
      exact p21_1 a b z (k + 1) (h12 _ _ (k + 0)) d7000 d9000
    | false =>
      cases d28000 : (decide (i30_0 (IntKind.u64.wrap (a.tdiv z)) (IntKind.u64.wrap ((i28_0 a b).tdiv z)) = 0)) with
      | true =>
        exact p21_2 a b z (k + 1) (h12 _ _ (k + 0)) d7000 d9000 (h28 _ _ (k + 0)) (GrdP.mk (by simp_all)) (GrdP.mk (by simp_all)) (h30 _ _ (k + 0)) d28000
      | false =>
        exact p21_3 a b z (k + 1) (h12 _ _ (k + 0)) d7000 d9000 (h28 _ _ (k + 0)) (GrdP.mk (by simp_all)) (GrdP.mk (by simp_all)) (h30 _ _ (k + 0)) d28000
end Go.Proofs
