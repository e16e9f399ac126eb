/-
  What the laws of this seat share: the evaluator's data, that they fit the program, and what an argument of a type is.
-/
import Derived.Test.YtloboanoionagaaRows
import Derived.Test.YtloboanoionagaaSymPath2
import Derived.Test.YtloboanoionagaaSymTrm
import Derived.Test.YtloboanoionagaaSymSrt
import Derived.Test.YtloboanoionagaaLib2
import Derived.Test.YtloboanoionagaaLib1
set_option linter.unusedVariables false
set_option linter.unusedSimpArgs false
namespace Go.Proofs
open Go Go.Sym

def Try.cfg : Cfg := { fcs := [(33, ⟨[0, 1, 2, 3, 4], [], []⟩),
  (7, ⟨[0, 2, 3, 4, 5, 6, 20, 43], [], []⟩),
  (24, ⟨[0, 2, 3, 4, 5, 7, 8, 9, 10, 14, 16, 17, 18, 19, 31, 32, 37], [], [(5, 2), (8, 2)]⟩),
  (29, ⟨[0, 2, 4, 5, 6, 7, 8, 9, 15], [], []⟩),
  (12, ⟨[0, 1, 2, 3, 7], [], []⟩),
  (28, ⟨[0, 1, 2], [], []⟩),
  (35, ⟨[0, 1, 2], [], []⟩),
  (41, ⟨[0, 1, 3, 4, 8, 37, 52], [(4, []), (6, [])], []⟩),
  (30, ⟨[0, 1, 2], [], []⟩),
  (16, ⟨[0, 2, 4, 5, 6, 7, 8, 13], [], []⟩),
  (10, ⟨[0, 1, 2, 5, 12], [], []⟩),
  (11, ⟨[0, 1, 2], [], []⟩),
  (15, ⟨[0, 1, 2, 3, 4, 5, 6, 7, 8, 9, 15, 32, 39, 54], [(4, [(1, 2), (0, 4), (1, 4), (2, 4), (3, 4), (0, 5), (1, 5), (2, 5), (3, 5), (4, 5)])], []⟩),
  (17, ⟨[0, 1, 4, 5, 10, 12, 13, 14, 24], [(6, [])], []⟩),
  (25, ⟨[0, 2, 3, 5, 6, 7, 8, 9, 10, 11, 13, 14, 15, 16, 26, 27, 28, 29, 43, 48], [(5, [(2, 4), (2, 7), (3, 7), (4, 7), (6, 7)])], []⟩),
  (13, ⟨[0, 1, 2], [], []⟩),
  (36, ⟨[0, 1, 3, 4, 6, 8, 9, 10, 11, 12, 13, 14, 22, 27, 35], [(9, [(1, 3)])], []⟩),
  (42, ⟨[0, 1, 2, 5, 6, 10, 19], [], []⟩),
  (26, ⟨[0, 2, 3, 5, 8, 9, 10, 11], [], []⟩),
  (22, ⟨[0, 1, 4], [], []⟩),
  (8, ⟨[0, 1, 4, 5, 6, 7, 8, 9, 10, 11, 12, 29], [(7, [])], []⟩),
  (27, ⟨[0, 2, 3, 5, 6, 8, 9, 10, 11, 12, 20, 25, 26, 27, 28], [], [(6, 2)]⟩),
  (37, ⟨[0, 1, 4, 6, 16], [], []⟩)], inl := [35,41,37,32], lib := [(32, ⟨7, 33, 0⟩)] }
theorem Try.progOk : progOk Try.prog Try.cfg = true := by kernel_rfl
theorem Try.libOk : LibOk Fence.wide Try.prog Try.cfg := (LibL.cons (fun _ _ _ _ _ _ h => fnOk_SortE Try.laysSort Try.isAgg55 Try.sizeOf55 ⟨_, Try.func32, by kernel_rfl, rfl⟩ (enters_of Try.func33 (by kernel_rfl) rfl) Try.closure33 rfl rfl h) LibL.nil).ok rfl
theorem Try.own : ownKnob Try.prog.godebug = none := by kernel_rfl
theorem Try.laidOut : laidOutB Try.prog = true := by kernel_rfl
theorem Try.mixed : Try.prog.follows .mixedOrders = true := by kernel_rfl

theorem wrap_u64 (n : Int) : IntKind.u64.wrap n = n % 18446744073709551616 := by
  simp [IntKind.wrap, IntKind.signed, IntKind.bits]
theorem wf_u64 {n : Int} (h : (Lit.int .u64 n).wf = true) : 0 ≤ n ∧ n < 18446744073709551616 := by
  simp [Lit.wf, IntKind.min, IntKind.max, IntKind.signed, IntKind.bits] at h
  omega
theorem wf_i64 {n : Int} (h : (Lit.int .i64 n).wf = true) : -9223372036854775808 ≤ n ∧ n < 9223372036854775808 := by
  simp [Lit.wf, IntKind.min, IntKind.max, IntKind.signed, IntKind.bits] at h
  omega
end Go.Proofs
