/-
  What an argument of a ring's type is.
-/
import Derived.Test.YtpnpneffbkdomaaRingB
set_option linter.unusedVariables false
set_option linter.unusedSimpArgs false
set_option linter.constructorNameAsVariable false
set_option maxRecDepth 100000
namespace Go.Proofs
open Go.Sym
theorem taRing : tagg Try.prog 72 = some true := by kernel_rfl
theorem h51 (k : Nat) : callP (evalFn Try.prog Try.cfg (k + 100)) 51 [] = some (V.bool true) := by kernel_rfl
theorem g51 {K : Nat} (hK : 100 ≤ K) : callP (evalFn Try.prog Try.cfg K) 51 [] = some (V.bool true) := by
  obtain ⟨k, rfl⟩ : ∃ k, K = k + 100 := ⟨K - 100, by omega⟩
  exact h51 k
theorem h50e (k : Nat) : callP (evalFn Try.prog Try.cfg (k + 10)) 50 [V.agg [V.sl (some true) true 0 [], V.int .i64 0, V.int .i64 0], V.agg [V.sl (some true) true 0 [], V.int .i64 0, V.int .i64 0]] = some (V.bool true) := by kernel_rfl
theorem g50e {K : Nat} (hK : 10 ≤ K) : callP (evalFn Try.prog Try.cfg K) 50 [V.agg [V.sl (some true) true 0 [], V.int .i64 0, V.int .i64 0], V.agg [V.sl (some true) true 0 [], V.int .i64 0, V.int .i64 0]] = some (V.bool true) := by
  obtain ⟨k, rfl⟩ : ∃ k, K = k + 10 := ⟨K - 10, by omega⟩
  exact h50e k
theorem open45 {k : Nat} {v : V} (h : VArg Try.prog (k + 4) 72 v) : ∃ n c xs fr mn, v = V.agg [V.sl (some n) c 1 xs, V.int .i64 fr, V.int .i64 mn] ∧ (n = true → xs = []) ∧ (∀ x ∈ xs, isStr x) ∧ (-9223372036854775808 ≤ fr ∧ fr < 9223372036854775808) ∧ (-9223372036854775808 ≤ mn ∧ mn < 9223372036854775808) := by
  unfold VArg at h
  obtain ⟨vs, hv, h⟩ := h
  simp only [VT, Try.underlying72, VTs, Try.underlying22, Try.underlying9, Try.underlying3, ts22, ts3, ts9] at h
  obtain ⟨⟨n, xs, h1, hn, _, hx⟩, ⟨a, g1, ga⟩, ⟨b, g2, gb⟩, h3⟩ := h
  refine ⟨n, n, xs, a, b, hv.trans ?_, hn, fun x hm => ?_, wf_i64 ga, wf_i64 gb⟩
  · have e1 := take_one h1
    have e2 := take_one g1
    have e3 := take_one g2
    rw [h3] at e3
    rw [e3] at e2
    rw [e2] at e1
    simp only [Sym.mk, taRing, e1]
  · obtain ⟨zs, hz, s, h4, _⟩ := hx x hm
    exact ⟨s, hz.trans (by rw [h4]; simp only [Sym.mk, ta9, List.headD_cons])⟩
end Go.Proofs
