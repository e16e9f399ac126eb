/-
  DeviceStays: what stays of any device behind a barrier, or a crash, is as the document says, or refused, for all devices and numbers.
-/
import Derived.Test.YtpnpneffbkdomaaDevH
set_option linter.unusedVariables false
set_option linter.unusedSimpArgs false
set_option linter.constructorNameAsVariable false
set_option maxRecDepth 100000
namespace Go.Proofs
open Go.Sym
theorem p5_0 (n : Option Bool) (m : Option Bool) (c : Bool) (d : Bool) (xs : List V) (ys : List V) (keep : Int) (k : Nat)
    (c0 : callP (evalFn Try.prog Try.cfg k) 14 [V.agg [V.sl n c 1 xs, V.sl m d 2 ys]] = some (V.agg [V.sl n false 1 (List.take 70 xs), V.sl m false 2 (List.take 65 ys)]))
    (c1 : callP (evalFn Try.prog Try.cfg k) 26 [V.agg [V.sl n false 1 (List.take 70 xs), V.sl m false 2 (List.take 65 ys)]] = some (V.tup [V.agg [V.sl (some true) true 0 [], V.sl (some true) true 0 []], V.int IntKind.i64 1]))
    (c2 : callP (evalFn Try.prog Try.cfg k) 27 [V.agg [V.sl n false 1 (List.take 70 xs), V.sl m false 2 (List.take 65 ys)], V.int IntKind.u64 keep] = some (V.tup [V.agg [V.sl (some true) true 0 [], V.sl (some true) true 0 []], V.int IntKind.i64 1]))
    (c3 : callP (evalFn Try.prog Try.cfg k) 24 [V.agg [V.sl n false 1 (List.take 70 xs), V.sl m false 2 (List.take 65 ys)]] = some (V.bool (rightV (List.take 70 xs) (List.take 65 ys))))
    (c4 : (!rightV (List.take 70 xs) (List.take 65 ys)) = true)
    (c5 : callP (evalFn Try.prog Try.cfg k) 18 [] = some (V.bool true))
    (c6 : callP (evalFn Try.prog Try.cfg k) 19 [V.agg [V.sl (some true) true 0 [], V.sl (some true) true 0 []], V.agg [V.sl (some true) true 0 [], V.sl (some true) true 0 []]] = some (V.bool true))
    (c7 : callP (evalFn Try.prog Try.cfg k) 19 [V.agg [V.sl (some true) true 0 [], V.sl (some true) true 0 []], V.agg [V.sl (some true) true 0 [], V.sl (some true) true 0 []]] = some (V.bool true)) :
    callP (evalFn Try.prog Try.cfg (k + 1)) 5 [V.agg [V.sl n c 1 xs, V.sl m d 2 ys], V.int IntKind.u64 keep] = some (V.bool true) :=
  byP [Hint.call 10 (V.agg [V.sl n false 1 (List.take 70 xs), V.sl m false 2 (List.take 65 ys)]), Hint.call 13 (V.tup [V.agg [V.sl (some true) true 0 [], V.sl (some true) true 0 []], V.int IntKind.i64 1]), Hint.call 19 (V.tup [V.agg [V.sl (some true) true 0 [], V.sl (some true) true 0 []], V.int IntKind.i64 1]), Hint.call 23 (V.bool (rightV (List.take 70 xs) (List.take 65 ys))), Hint.br 24 true, Hint.call 25 (V.bool true), Hint.call 37 (V.bool true), Hint.call 42 (V.bool true)] ((callP (evalFn Try.prog Try.cfg k) 14 [V.agg [V.sl n c 1 xs, V.sl m d 2 ys]] = some (V.agg [V.sl n false 1 (List.take 70 xs), V.sl m false 2 (List.take 65 ys)])) ∧ (callP (evalFn Try.prog Try.cfg k) 26 [V.agg [V.sl n false 1 (List.take 70 xs), V.sl m false 2 (List.take 65 ys)]] = some (V.tup [V.agg [V.sl (some true) true 0 [], V.sl (some true) true 0 []], V.int IntKind.i64 1])) ∧ (callP (evalFn Try.prog Try.cfg k) 27 [V.agg [V.sl n false 1 (List.take 70 xs), V.sl m false 2 (List.take 65 ys)], V.int IntKind.u64 keep] = some (V.tup [V.agg [V.sl (some true) true 0 [], V.sl (some true) true 0 []], V.int IntKind.i64 1])) ∧ (callP (evalFn Try.prog Try.cfg k) 24 [V.agg [V.sl n false 1 (List.take 70 xs), V.sl m false 2 (List.take 65 ys)]] = some (V.bool (rightV (List.take 70 xs) (List.take 65 ys)))) ∧ ((!rightV (List.take 70 xs) (List.take 65 ys)) = true) ∧ (callP (evalFn Try.prog Try.cfg k) 18 [] = some (V.bool true)) ∧ (callP (evalFn Try.prog Try.cfg k) 19 [V.agg [V.sl (some true) true 0 [], V.sl (some true) true 0 []], V.agg [V.sl (some true) true 0 [], V.sl (some true) true 0 []]] = some (V.bool true)) ∧ (callP (evalFn Try.prog Try.cfg k) 19 [V.agg [V.sl (some true) true 0 [], V.sl (some true) true 0 []], V.agg [V.sl (some true) true 0 [], V.sl (some true) true 0 []]] = some (V.bool true)) ∧ True) (by kernel_rfl) ⟨c0, c1, c2, c3, c4, c5, c6, c7, trivial⟩
theorem p5_1 (n : Option Bool) (m : Option Bool) (c : Bool) (d : Bool) (xs : List V) (ys : List V) (keep : Int) (k : Nat)
    (c0 : callP (evalFn Try.prog Try.cfg k) 14 [V.agg [V.sl n c 1 xs, V.sl m d 2 ys]] = some (V.agg [V.sl n false 1 (List.take 70 xs), V.sl m false 2 (List.take 65 ys)]))
    (c1 : callP (evalFn Try.prog Try.cfg k) 26 [V.agg [V.sl n false 1 (List.take 70 xs), V.sl m false 2 (List.take 65 ys)]] = some (V.tup [V.agg [V.sl none false 1 (crashV 1152921504606846975 0 (List.take 65 ys) (List.take 70 xs)), V.sl (some true) true 0 []], V.int IntKind.i64 0]))
    (c2 : callP (evalFn Try.prog Try.cfg k) 27 [V.agg [V.sl n false 1 (List.take 70 xs), V.sl m false 2 (List.take 65 ys)], V.int IntKind.u64 keep] = some (V.tup [V.agg [V.sl none false 1 (crashV keep 0 (List.take 65 ys) (List.take 70 xs)), V.sl (some true) true 0 []], V.int IntKind.i64 0]))
    (c3 : callP (evalFn Try.prog Try.cfg k) 24 [V.agg [V.sl n false 1 (List.take 70 xs), V.sl m false 2 (List.take 65 ys)]] = some (V.bool (rightV (List.take 70 xs) (List.take 65 ys))))
    (c4 : (!rightV (List.take 70 xs) (List.take 65 ys)) = false)
    (c5 : callP (evalFn Try.prog Try.cfg k) 18 [] = some (V.bool true))
    (c6 : callP (evalFn Try.prog Try.cfg k) 28 [V.agg [V.sl n false 1 (List.take 70 xs), V.sl m false 2 (List.take 65 ys)], V.int IntKind.u64 1152921504606846975] = some (V.agg [V.sl none false 1 (crashV 1152921504606846975 0 (List.take 65 ys) (List.take 70 xs)), V.sl (some true) true 0 []]))
    (c7 : callP (evalFn Try.prog Try.cfg k) 19 [V.agg [V.sl none false 1 (crashV 1152921504606846975 0 (List.take 65 ys) (List.take 70 xs)), V.sl (some true) true 0 []], V.agg [V.sl none false 1 (crashV 1152921504606846975 0 (List.take 65 ys) (List.take 70 xs)), V.sl (some true) true 0 []]] = some (V.bool (eqL (crashV 1152921504606846975 0 (List.take 65 ys) (List.take 70 xs)) (crashV 1152921504606846975 0 (List.take 65 ys) (List.take 70 xs)) && eqL [] [])))
    (c8 : (eqL (crashV 1152921504606846975 0 (List.take 65 ys) (List.take 70 xs)) (crashV 1152921504606846975 0 (List.take 65 ys) (List.take 70 xs)) && eqL [] []) = true)
    (c9 : callP (evalFn Try.prog Try.cfg k) 28 [V.agg [V.sl n false 1 (List.take 70 xs), V.sl m false 2 (List.take 65 ys)], V.int IntKind.u64 keep] = some (V.agg [V.sl none false 1 (crashV keep 0 (List.take 65 ys) (List.take 70 xs)), V.sl (some true) true 0 []]))
    (c10 : callP (evalFn Try.prog Try.cfg k) 19 [V.agg [V.sl none false 1 (crashV keep 0 (List.take 65 ys) (List.take 70 xs)), V.sl (some true) true 0 []], V.agg [V.sl none false 1 (crashV keep 0 (List.take 65 ys) (List.take 70 xs)), V.sl (some true) true 0 []]] = some (V.bool (eqL (crashV keep 0 (List.take 65 ys) (List.take 70 xs)) (crashV keep 0 (List.take 65 ys) (List.take 70 xs)) && eqL [] []))) :
    callP (evalFn Try.prog Try.cfg (k + 1)) 5 [V.agg [V.sl n c 1 xs, V.sl m d 2 ys], V.int IntKind.u64 keep] = some (V.bool (eqL (crashV keep 0 (List.take 65 ys) (List.take 70 xs)) (crashV keep 0 (List.take 65 ys) (List.take 70 xs)) && eqL [] [])) :=
  byP [Hint.call 10 (V.agg [V.sl n false 1 (List.take 70 xs), V.sl m false 2 (List.take 65 ys)]), Hint.call 13 (V.tup [V.agg [V.sl none false 1 (crashV 1152921504606846975 0 (List.take 65 ys) (List.take 70 xs)), V.sl (some true) true 0 []], V.int IntKind.i64 0]), Hint.call 19 (V.tup [V.agg [V.sl none false 1 (crashV keep 0 (List.take 65 ys) (List.take 70 xs)), V.sl (some true) true 0 []], V.int IntKind.i64 0]), Hint.call 23 (V.bool (rightV (List.take 70 xs) (List.take 65 ys))), Hint.br 24 false, Hint.call 44 (V.bool true), Hint.call 56 (V.agg [V.sl none false 1 (crashV 1152921504606846975 0 (List.take 65 ys) (List.take 70 xs)), V.sl (some true) true 0 []]), Hint.call 57 (V.bool (eqL (crashV 1152921504606846975 0 (List.take 65 ys) (List.take 70 xs)) (crashV 1152921504606846975 0 (List.take 65 ys) (List.take 70 xs)) && eqL [] [])), Hint.br 59 true, Hint.call 63 (V.agg [V.sl none false 1 (crashV keep 0 (List.take 65 ys) (List.take 70 xs)), V.sl (some true) true 0 []]), Hint.call 64 (V.bool (eqL (crashV keep 0 (List.take 65 ys) (List.take 70 xs)) (crashV keep 0 (List.take 65 ys) (List.take 70 xs)) && eqL [] []))] ((callP (evalFn Try.prog Try.cfg k) 14 [V.agg [V.sl n c 1 xs, V.sl m d 2 ys]] = some (V.agg [V.sl n false 1 (List.take 70 xs), V.sl m false 2 (List.take 65 ys)])) ∧ (callP (evalFn Try.prog Try.cfg k) 26 [V.agg [V.sl n false 1 (List.take 70 xs), V.sl m false 2 (List.take 65 ys)]] = some (V.tup [V.agg [V.sl none false 1 (crashV 1152921504606846975 0 (List.take 65 ys) (List.take 70 xs)), V.sl (some true) true 0 []], V.int IntKind.i64 0])) ∧ (callP (evalFn Try.prog Try.cfg k) 27 [V.agg [V.sl n false 1 (List.take 70 xs), V.sl m false 2 (List.take 65 ys)], V.int IntKind.u64 keep] = some (V.tup [V.agg [V.sl none false 1 (crashV keep 0 (List.take 65 ys) (List.take 70 xs)), V.sl (some true) true 0 []], V.int IntKind.i64 0])) ∧ (callP (evalFn Try.prog Try.cfg k) 24 [V.agg [V.sl n false 1 (List.take 70 xs), V.sl m false 2 (List.take 65 ys)]] = some (V.bool (rightV (List.take 70 xs) (List.take 65 ys)))) ∧ ((!rightV (List.take 70 xs) (List.take 65 ys)) = false) ∧ (callP (evalFn Try.prog Try.cfg k) 18 [] = some (V.bool true)) ∧ (callP (evalFn Try.prog Try.cfg k) 28 [V.agg [V.sl n false 1 (List.take 70 xs), V.sl m false 2 (List.take 65 ys)], V.int IntKind.u64 1152921504606846975] = some (V.agg [V.sl none false 1 (crashV 1152921504606846975 0 (List.take 65 ys) (List.take 70 xs)), V.sl (some true) true 0 []])) ∧ (callP (evalFn Try.prog Try.cfg k) 19 [V.agg [V.sl none false 1 (crashV 1152921504606846975 0 (List.take 65 ys) (List.take 70 xs)), V.sl (some true) true 0 []], V.agg [V.sl none false 1 (crashV 1152921504606846975 0 (List.take 65 ys) (List.take 70 xs)), V.sl (some true) true 0 []]] = some (V.bool (eqL (crashV 1152921504606846975 0 (List.take 65 ys) (List.take 70 xs)) (crashV 1152921504606846975 0 (List.take 65 ys) (List.take 70 xs)) && eqL [] []))) ∧ ((eqL (crashV 1152921504606846975 0 (List.take 65 ys) (List.take 70 xs)) (crashV 1152921504606846975 0 (List.take 65 ys) (List.take 70 xs)) && eqL [] []) = true) ∧ (callP (evalFn Try.prog Try.cfg k) 28 [V.agg [V.sl n false 1 (List.take 70 xs), V.sl m false 2 (List.take 65 ys)], V.int IntKind.u64 keep] = some (V.agg [V.sl none false 1 (crashV keep 0 (List.take 65 ys) (List.take 70 xs)), V.sl (some true) true 0 []])) ∧ (callP (evalFn Try.prog Try.cfg k) 19 [V.agg [V.sl none false 1 (crashV keep 0 (List.take 65 ys) (List.take 70 xs)), V.sl (some true) true 0 []], V.agg [V.sl none false 1 (crashV keep 0 (List.take 65 ys) (List.take 70 xs)), V.sl (some true) true 0 []]] = some (V.bool (eqL (crashV keep 0 (List.take 65 ys) (List.take 70 xs)) (crashV keep 0 (List.take 65 ys) (List.take 70 xs)) && eqL [] []))) ∧ True) (by kernel_rfl) ⟨c0, c1, c2, c3, c4, c5, c6, c7, c8, c9, c10, trivial⟩

theorem ts41 : tsize Try.prog 41 = 1 := by kernel_rfl
theorem ta41 : tagg Try.prog 41 = some false := by kernel_rfl
theorem VArgs_two {P : Program} {k : Nat} {a b : TypeId} {xs : List V} (h : VArgs P k [a, b] xs) : ∃ x y, xs = [x, y] ∧ VArg P k a x ∧ VArg P k b y := by
  match xs, h with
  | [x, y], ⟨hx, hy, _⟩ => exact ⟨x, y, rfl, hx, hy⟩
theorem open41 {k : Nat} {v : V} (h : VArg Try.prog (k + 1) 41 v) : ∃ a, v = V.int .u64 a ∧ 0 ≤ a ∧ a < 18446744073709551616 := by
  unfold VArg at h
  obtain ⟨vs, hv, h⟩ := h
  simp only [VT, Try.underlying41] at h
  obtain ⟨n, h1, hw⟩ := h
  exact ⟨n, hv.trans (by rw [h1]; simp only [Sym.mk, ta41, List.headD_cons]), wf_u64 hw⟩
theorem open25n {k : Nat} {v : V} (h : VArg Try.prog (k + 4) 25 v) : ∃ n c xs m d ys, v = V.agg [V.sl (some n) c 1 xs, V.sl m d 2 ys] ∧ (n = true → xs = []) ∧ (∀ x ∈ xs, isStr x) ∧ ∀ y ∈ ys, isPut y := by
  unfold VArg at h
  obtain ⟨vs, hv, h⟩ := h
  simp only [VT, Try.underlying25, VTs, Try.underlying22, Try.underlying23, Try.underlying9, Try.underlying47, Try.underlying3, ts22, ts23, ts3, ts9, ts47] at h
  obtain ⟨⟨n, xs, h1, hn, _, hx⟩, ⟨m, ys, h2, _, _, hy⟩, h3⟩ := h
  have e1 := take_one h1
  have e2 := take_one h2
  rw [h3] at e2
  rw [e2] at e1
  refine ⟨n, n, xs, some m, m, ys, hv.trans (by simp only [Sym.mk, ta25, e1]), hn, fun x hm => ?_, fun y hm => ?_⟩
  · obtain ⟨zs, hz, s, h4, _⟩ := hx x hm
    exact ⟨s, hz.trans (by rw [h4]; simp only [Sym.mk, ta9, List.headD_cons])⟩
  · obtain ⟨zs, hz, ⟨a, g1, _⟩, ⟨s, g2, _⟩, g3⟩ := hy y hm
    have f1 := take_one g1
    have f2 := take_one g2
    rw [g3] at f2
    rw [f2] at f1
    exact ⟨a, s, hz.trans (by simp only [Sym.mk, ta47, f1])⟩
theorem g27no {n m : Option Bool} {c d : Bool} {xs ys : List V} (hx : ∀ x ∈ xs, isStr x) (hy : ∀ y ∈ ys, isPut y) (hbx : xs.length ≤ 1000) (hby : ys.length ≤ 1000) {keep : Int} (h : rightV xs ys = false) {K : Nat} (hK : 1006 ≤ K) :
    callP (evalFn Try.prog Try.cfg K) 27 [V.agg [V.sl n c 1 xs, V.sl m d 2 ys], V.int IntKind.u64 keep] = some (V.tup [V.agg [V.sl (some true) true 0 [], V.sl (some true) true 0 []], V.int IntKind.i64 1]) := by
  obtain ⟨k, rfl⟩ : ∃ k, K = k + 1006 := ⟨K - 1006, by omega⟩
  exact h27no hx hy hbx hby h k
theorem g27 {m : Option Bool} {c d : Bool} {xs ys : List V} (hx : ∀ x ∈ xs, isStr x) (hy : ∀ y ∈ ys, isPut y) (hbx : xs.length ≤ 1000) (hby : ys.length ≤ 1000) {keep : Int} (k0 : 0 ≤ keep) (k1 : keep < 18446744073709551616) (h : rightV xs ys = true) {K : Nat} (hK : 1006 ≤ K) :
    callP (evalFn Try.prog Try.cfg K) 27 [V.agg [V.sl (some false) c 1 xs, V.sl m d 2 ys], V.int IntKind.u64 keep] = some (V.tup [V.agg [V.sl none false 1 (crashV keep 0 ys xs), V.sl (some true) true 0 []], V.int IntKind.i64 0]) := by
  obtain ⟨k, rfl⟩ : ∃ k, K = k + 1006 := ⟨K - 1006, by omega⟩
  exact h27 hx hy hbx hby k0 k1 h k
theorem g28 {n m : Option Bool} {c d : Bool} {xs ys : List V} (hx : ∀ x ∈ xs, isStr x) (hy : ∀ y ∈ ys, isPut y) (hbx : xs.length ≤ 1000) (hby : ys.length ≤ 1000) {keep : Int} (k0 : 0 ≤ keep) (k1 : keep < 18446744073709551616) (h : rightV xs ys = true) {K : Nat} (hK : 2007 ≤ K) :
    callP (evalFn Try.prog Try.cfg K) 28 [V.agg [V.sl n c 1 xs, V.sl m d 2 ys], V.int IntKind.u64 keep] = some (V.agg [V.sl none false 1 (crashV keep 0 ys xs), V.sl (some true) true 0 []]) := by
  obtain ⟨k, rfl⟩ : ∃ k, K = k + 2007 := ⟨K - 2007, by omega⟩
  exact h28 hx hy hbx hby k0 k1 h k
theorem crash_str {keep : Int} {ys xs : List V} (hx : ∀ x ∈ xs, isStr x) (hy : ∀ y ∈ ys, putIn xs.length y) : (∀ x ∈ crashV keep 0 ys xs, isStr x) ∧ (crashV keep 0 ys xs).length = xs.length := by
  rw [crash_eq ys 0 xs hx hy]
  refine ⟨fun x h => ?_, by simp⟩
  obtain ⟨j, _, rfl⟩ := List.mem_map.1 h
  exact ⟨_, rfl⟩

theorem law_deviceStays {n : Bool} {m : Option Bool} {c d : Bool} {xs ys : List V} (hn : n = true → xs = []) (hx : ∀ x ∈ xs, isStr x) (hy : ∀ x ∈ ys, isPut x) {keep : Int} (k0 : 0 ≤ keep) (k1 : keep < 18446744073709551616) (k : Nat) (hk : 2100 ≤ k) :
    callP (evalFn Try.prog Try.cfg (k + 1 + 1)) 5 [V.agg [V.sl (some n) c 1 xs, V.sl m d 2 ys], V.int IntKind.u64 keep] = some (V.bool true) := by
  have tx : ∀ x ∈ xs.take 70, isStr x := fun x h => hx x (List.mem_of_mem_take h)
  have ty : ∀ x ∈ ys.take 65, isPut x := fun x h => hy x (List.mem_of_mem_take h)
  have lx : (xs.take 70).length ≤ 1000 := by simp; omega
  have ly : (ys.take 65).length ≤ 1000 := by simp; omega
  have a1 := h14 (some n) m c d xs ys k
  have k5 : 1005 ≤ k + 1 := by omega
  have k6 : 1006 ≤ k + 1 := by omega
  have k6' : 1006 ≤ k := by omega
  have k7 : 2007 ≤ k + 1 := by omega
  have k3 : 1003 ≤ k + 1 := by omega
  have al := g18 (show 100 ≤ k + 1 by omega)
  have em := g19e (show 10 ≤ k + 1 by omega)
  cases hr : rightV (xs.take 70) (ys.take 65)
  · have w := g24 (n := some n) (m := m) (c := false) (d := false) tx ty lx ly k5
    exact p5_0 (some n) m c d xs ys keep (k + 1) a1 (p26_0 (some n) m false false (xs.take 70) (ys.take 65) k (g27no tx ty lx ly hr k6')) (g27no tx ty lx ly hr k6) w (by rw [hr]; rfl) al em em
  · obtain ⟨hp, h1, _⟩ := right_put ty hr
    obtain rfl : n = false := by
      cases n with
      | false => rfl
      | true => rw [hn rfl] at h1; simp at h1
    have w := g24 (n := some false) (m := m) (c := false) (d := false) tx ty lx ly k5
    obtain ⟨q1, q2⟩ := crash_str (keep := 1152921504606846975) tx hp
    obtain ⟨q3, q4⟩ := crash_str (keep := keep) tx hp
    have e1 : (eqL (crashV 1152921504606846975 0 (ys.take 65) (xs.take 70)) (crashV 1152921504606846975 0 (ys.take 65) (xs.take 70)) && eqL [] []) = true := by rw [eqL_refl fun x h => .inl (q1 x h)]; rfl
    have e2 : (eqL (crashV keep 0 (ys.take 65) (xs.take 70)) (crashV keep 0 (ys.take 65) (xs.take 70)) && eqL [] []) = true := by rw [eqL_refl fun x h => .inl (q3 x h)]; rfl
    refine (p5_1 (some false) m c d xs ys keep (k + 1) a1 (p26_1 (some false) m false false (xs.take 70) (ys.take 65) k (g27 tx ty lx ly (by decide) (by decide) hr k6')) (g27 tx ty lx ly k0 k1 hr k6) w (by rw [hr]; rfl) al
      (g28 tx ty lx ly (by decide) (by decide) hr k7) (by rw [e1]; exact g19n q1 (by rw [q2]; exact lx) k3) e1 (g28 tx ty lx ly k0 k1 hr k7) (by rw [e2]; exact g19n q3 (by rw [q4]; exact lx) k3)).trans ?_
    rw [e2]
end Go.Proofs
namespace Go.Proofs.Ytpnpneffbkdomaa
open Go.Sym
theorem deviceStays_lifted (os : Os) (started : os.Started) (H : Type) (enc : TypeId × Value → H) :
    ReturnsInHanded {} Try.checked os 5 .any (Rows.deviceStaysSpec.pre6 enc Try.prog Try.f5 Rows.deviceStaysRow.domain false) (Rows.deviceStaysSpec.post enc Try.prog Try.f5 false true false false) := by
  refine returnsInHanded_of_change (C := Try.checked) Try.own started (by kernel_rfl) Try.func5
    (ChangeSpec.witness6 (enc := enc) (C := Try.checked) false ⟨#[], #[.agg #[.slice none 0 0, .slice none 0 0], .int .u64 0], []⟩ 8 (by kernel_rfl) (by kernel_rfl) (by kernel_rfl) (by kernel_rfl)) ?_
  intro W base args ds gs before hval hW hcnd _
  refine law_end (P := Try.prog) (C := Try.cfg) (k := 4) (tb := 4) Try.mixed Try.progOk Try.laidOut (by kernel_rfl) rfl rfl Try.underlying4 ?_ ?_ (fun j t v h1 h2 => ⟨base, hval j t v h1 h2⟩) hW
  · intro ds hds
    match ds, hds with
    | [d, e], _ => exact ⟨rfl, rfl, rfl⟩
  · intro xs hxs
    obtain ⟨x, y, rfl, hx, hy⟩ := VArgs_two (P := Try.prog) (k := 4) (a := 25) (b := 41) hxs
    obtain ⟨n, c, xs, m, d, ys, rfl, hn, h1, h2⟩ := open25n hx
    obtain ⟨keep, rfl, k0, k1⟩ := open41 hy
    exact ⟨2100 + 1 + 1, law_deviceStays hn h1 h2 k0 k1 2100 (Nat.le_refl _)⟩

theorem deviceStays_holds : Rows.DeviceStaysSaid :=
  OpenClaim.holds_of_wide 5 Try.f5 rfl rfl rfl rfl rfl rfl rfl ⟨rfl, rfl, rfl, rfl, rfl⟩ rfl rfl rfl rfl rfl (by kernel_rfl) Try.func5 (by kernel_rfl)
    (of_decide_eq_true (by kernel_rfl)) (by unfold Func.isWrapper; first | (rw [if_pos (by decide +kernel)]; kernel_rfl) | (rw [if_neg (by decide +kernel)]; exact ⟨rfl, rfl⟩))
    (fun os started H enc _ => deviceStays_lifted os started H enc)
end Go.Proofs.Ytpnpneffbkdomaa
