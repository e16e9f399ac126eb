/-
  What an argument of a type is, of this seat's laws.
-/
import Derived.Test.YtegmincienhapaaDoorBase
import Derived.Test.YtegmincienhapaaDoorSymPlain
set_option linter.unusedVariables false
set_option linter.unusedSimpArgs false
set_option maxRecDepth 100000
namespace Go.Proofs.Opn
open Go Go.Sym

theorem ts4 : tsize Tryd.prog 4 = 1 := by kernel_rfl
theorem ts9 : tsize Tryd.prog 9 = 1 := by kernel_rfl
theorem ts36 : tsize Tryd.prog 36 = 1 := by kernel_rfl
theorem ts53 : tsize Tryd.prog 53 = 3 := by kernel_rfl
theorem ta9 : tagg Tryd.prog 9 = some false := by kernel_rfl
theorem ta36 : tagg Tryd.prog 36 = some false := by kernel_rfl
theorem ta22 : tagg Tryd.prog 22 = some false := by kernel_rfl
theorem ta53 : tagg Tryd.prog 53 = some true := by kernel_rfl
theorem take_one {vs : List V} {x : V} (h : vs.take 1 = [x]) : vs = x :: vs.drop 1 := by
  cases vs with
  | nil => simp at h
  | cons y r => simp at h; subst h; simp
theorem two {P : Program} {k : Nat} {a b : TypeId} {xs : List V} (h : VArgs P k [a, b] xs) : ∃ x y, xs = [x, y] ∧ VArg P k a x ∧ VArg P k b y := by
  match xs, h with
  | [x, y], ⟨hx, hy, _⟩ => exact ⟨x, y, rfl, hx, hy⟩
theorem three {P : Program} {k : Nat} {a b c : TypeId} {xs : List V} (h : VArgs P k [a, b, c] xs) : ∃ x y z, xs = [x, y, z] ∧ VArg P k a x ∧ VArg P k b y ∧ VArg P k c z := by
  match xs, h with
  | [x, y, z], ⟨hx, hy, hz, _⟩ => exact ⟨x, y, z, rfl, hx, hy, hz⟩
theorem four {P : Program} {k : Nat} {a b c d : TypeId} {xs : List V} (h : VArgs P k [a, b, c, d] xs) : ∃ x y z w, xs = [x, y, z, w] ∧ VArg P k a x ∧ VArg P k b y ∧ VArg P k c z ∧ VArg P k d w := by
  match xs, h with
  | [x, y, z, w], ⟨hx, hy, hz, hw, _⟩ => exact ⟨x, y, z, w, rfl, hx, hy, hz, hw⟩
theorem w_of {n : Int} (h : (Lit.int .u64 n).wf = true) : n = ((BitVec.ofNat 64 n.toNat).toNat : Int) := by
  obtain ⟨h2, h3⟩ := wf_u64 h
  rw [BitVec.toNat_ofNat, Nat.mod_eq_of_lt (by omega)]; omega
theorem open36 {k : Nat} {v : V} (h : VArg Tryd.prog (k + 1) 36 v) : ∃ w : Wd, v = V.int .u64 (w.toNat : Int) := by
  unfold VArg at h
  obtain ⟨vs, hv, h⟩ := h
  simp only [VT, Tryd.underlying36] at h
  obtain ⟨n, h1, hw⟩ := h
  refine ⟨BitVec.ofNat 64 n.toNat, hv.trans ?_⟩
  rw [← w_of hw, h1]
  simp only [Sym.mk, ta36, List.headD_cons]
theorem open9 {k : Nat} {v : V} (h : VArg Tryd.prog (k + 1) 9 v) : ∃ s : List UInt8, v = V.str s ∧ s.length ≤ maxLen := by
  unfold VArg at h
  obtain ⟨vs, hv, h⟩ := h
  simp only [VT, Tryd.underlying9] at h
  obtain ⟨s, h1, hw⟩ := h
  exact ⟨s, hv.trans (by rw [h1]; simp only [Sym.mk, ta9, List.headD_cons]), hw⟩
/-- Fields: rows of (is it a text, number, text). -/
theorem open22 {k : Nat} {v : V} (h : VArg Tryd.prog (k + 3) 22 v) : ∃ (n : Bool) (xs : List V), v = V.sl (some n) n 3 xs ∧ (n = true → xs = []) ∧ ∀ x ∈ xs, ∃ (t : Bool) (w : Wd) (s : List UInt8), x = V.agg [V.bool t, V.int .u64 (w.toNat : Int), V.str s] ∧ s.length ≤ maxLen := by
  unfold VArg at h
  obtain ⟨vs, hv, h⟩ := h
  simp only [VT, Tryd.underlying22, Tryd.underlying53, VTs, Tryd.underlying4, Tryd.underlying36, Tryd.underlying9, ts4, ts36, ts9, ts53] at h
  obtain ⟨n, xs, h1, hn, _, hx⟩ := h
  refine ⟨n, xs, hv.trans (by rw [h1]; simp only [Sym.mk, ta22, List.headD_cons]), hn, fun x hm => ?_⟩
  obtain ⟨zs, hz, ⟨a, g1⟩, ⟨b, g2, gb⟩, ⟨c, g3, gc⟩, g4⟩ := hx x hm
  have e1 := take_one g1
  have e2 := take_one g2
  have e3 := take_one g3
  rw [g4] at e3
  rw [e3] at e2
  rw [e2] at e1
  refine ⟨a, BitVec.ofNat 64 b.toNat, c, hz.trans ?_, gc⟩
  rw [← w_of gb]
  simp only [Sym.mk, ta53, e1]
end Go.Proofs.Opn
