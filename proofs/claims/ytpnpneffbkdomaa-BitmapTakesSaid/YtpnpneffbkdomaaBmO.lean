/-
  What arguments of laws of bitmaps are.
-/
import Derived.Test.YtpnpneffbkdomaaBmD
set_option linter.unusedVariables false
set_option linter.unusedSimpArgs false
set_option maxRecDepth 100000
namespace Go.Proofs
open Go Go.Sym
theorem ts3 : tsize Try.prog 3 = 1 := by kernel_rfl
theorem ts41 : tsize Try.prog 41 = 1 := by kernel_rfl
theorem ts49 : tsize Try.prog 49 = 1 := by kernel_rfl
theorem ta3 : tagg Try.prog 3 = some false := by kernel_rfl
theorem ta4 : tagg Try.prog 4 = some false := by kernel_rfl
theorem ta41 : tagg Try.prog 41 = some false := by kernel_rfl
theorem ta51 : tagg Try.prog 51 = some true := by kernel_rfl
theorem take_one {vs : List V} {x : V} (h : vs.take 1 = [x]) : vs = x :: vs.drop 1 := by
  cases vs with
  | nil => simp at h
  | cons y r => simp at h; subst h; simp
theorem VArgs_two {P : Program} {k : Nat} {a b : TypeId} {xs : List V} (h : VArgs P k [a, b] xs) : ∃ x y, xs = [x, y] ∧ VArg P k a x ∧ VArg P k b y := by
  match xs, h with
  | [x, y], ⟨hx, hy, _⟩ => exact ⟨x, y, rfl, hx, hy⟩
theorem VArgs_three {P : Program} {k : Nat} {a b c : TypeId} {xs : List V} (h : VArgs P k [a, b, c] xs) : ∃ x y z, xs = [x, y, z] ∧ VArg P k a x ∧ VArg P k b y ∧ VArg P k c z := by
  match xs, h with
  | [x, y, z], ⟨hx, hy, hz, _⟩ => exact ⟨x, y, z, rfl, hx, hy, hz⟩
theorem VArgs_four {P : Program} {k : Nat} {a b c d : TypeId} {xs : List V} (h : VArgs P k [a, b, c, d] xs) : ∃ x y z w, xs = [x, y, z, w] ∧ VArg P k a x ∧ VArg P k b y ∧ VArg P k c z ∧ VArg P k d w := by
  match xs, h with
  | [x, y, z, w], ⟨hx, hy, hz, hw, _⟩ => exact ⟨x, y, z, w, rfl, hx, hy, hz, hw⟩
theorem open3 {k : Nat} {v : V} (h : VArg Try.prog (k + 1) 3 v) : ∃ a, v = V.int .i64 a ∧ -9223372036854775808 ≤ a ∧ a < 9223372036854775808 := by
  unfold VArg at h
  obtain ⟨vs, hv, h⟩ := h
  simp only [VT, Try.underlying3] at h
  obtain ⟨n, h1, hw⟩ := h
  exact ⟨n, hv.trans (by rw [h1]; simp only [Sym.mk, ta3, List.headD_cons]), wf_i64 hw⟩
theorem open4 {k : Nat} {v : V} (h : VArg Try.prog (k + 1) 4 v) : ∃ a, v = V.bool a := by
  unfold VArg at h
  obtain ⟨vs, hv, h⟩ := h
  simp only [VT, Try.underlying4] at h
  obtain ⟨n, h1⟩ := h
  exact ⟨n, hv.trans (by rw [h1]; simp only [Sym.mk, ta4, List.headD_cons])⟩
theorem open51 {k : Nat} {v : V} (h : VArg Try.prog (k + 4) 51 v) : ∃ N n ws fl, v = V.agg [V.int .i64 N, V.sl (some n) n 1 (ws.map uw), V.int .u64 ((fl : Wd).toNat : Int)] ∧ (n = true → ws = []) ∧ -9223372036854775808 ≤ N ∧ N < 9223372036854775808 := by
  unfold VArg at h
  obtain ⟨vs, hv, h⟩ := h
  simp only [VT, Try.underlying51, VTs, Try.underlying49, Try.underlying41, Try.underlying3, ts3, ts49, ts41] at h
  obtain ⟨⟨N, h1, hN⟩, ⟨n, xs, h2, hn, _, hx⟩, ⟨fl, h3, hf⟩, h4⟩ := h
  obtain ⟨ws, rfl⟩ := ws_of (xs := xs) fun x hm => by
    obtain ⟨ys, e, m, e2, hw⟩ := hx x hm
    refine ⟨m, e.trans (by rw [e2]; simp only [Sym.mk, ta41, List.headD_cons]), wf_u64 hw⟩
  obtain ⟨hf0, hf1⟩ := wf_u64 hf
  refine ⟨N, n, ws, BitVec.ofNat 64 fl.toNat, ?_, fun h => ?_, wf_i64 hN⟩
  · have e1 := take_one h1
    have e2 := take_one h2
    have e3 := take_one h3
    rw [h4] at e3
    rw [e3] at e2
    rw [e2] at e1
    rw [hv, BitVec.toNat_ofNat, Nat.mod_eq_of_lt (by omega), show ((fl.toNat : Nat) : Int) = fl by omega]
    simp only [Sym.mk, ta51, e1]
  · have := hn h
    simpa using this
end Go.Proofs
