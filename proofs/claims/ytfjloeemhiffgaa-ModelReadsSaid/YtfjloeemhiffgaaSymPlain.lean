/- DERIVED. Plain lemmas: numbers that wrap, words as bits, lists of words. -/
import Derived.Test.YtfjloeemhiffgaaSymPath2
set_option linter.unusedVariables false
set_option linter.unusedSimpArgs false
namespace Go.Sym
open Go

theorem wi {n : Int} (h1 : -9223372036854775808 ≤ n) (h2 : n < 9223372036854775808) : IntKind.i64.wrap n = n := by
  simp only [IntKind.wrap, IntKind.signed, IntKind.bits]
  simp
  omega
theorem wu_mod (n : Int) : IntKind.u64.wrap n = n % 18446744073709551616 := by
  simp [IntKind.wrap, IntKind.signed, IntKind.bits]
theorem wu {n : Int} (h1 : 0 ≤ n) (h2 : n < 18446744073709551616) : IntKind.u64.wrap n = n := by
  rw [wu_mod]; omega
theorem td {a : Int} {b : Nat} (h : 0 ≤ a) : a.tdiv b = a / b := Int.tdiv_eq_ediv_of_nonneg h
theorem tm {a : Int} {b : Nat} (h : 0 ≤ a) : a.tmod b = a % b := Int.tmod_eq_emod_of_nonneg h
theorem gp {α : Type} {p : Prop} [Decidable p] {x : Option α} (h : p) : guardP p x = x := guardP_pos h
theorem cT {α : Type} {p : Prop} [Decidable p] {a b : α} (h : p) : (bif decide p then a else b) = a := by rw [decide_eq_true h]; rfl
theorem cF {α : Type} {p : Prop} [Decidable p] {a b : α} (h : ¬p) : (bif decide p then a else b) = b := by rw [decide_eq_false h]; rfl
theorem cNT {α : Type} {p : Prop} [Decidable p] {a b : α} (h : p) : (bif !decide p then a else b) = b := by rw [decide_eq_true h]; rfl
theorem cNF {α : Type} {p : Prop} [Decidable p] {a b : α} (h : ¬p) : (bif !decide p then a else b) = a := by rw [decide_eq_false h]; rfl

abbrev Wd := BitVec 64
def uw (w : Wd) : V := V.int .u64 (w.toNat : Int)
theorem take_if {α : Type} (n : Nat) (xs : List α) : List.take (if (n : Int) < (xs.length : Int) then (n : Int) else (xs.length : Int)).toNat xs = xs.take n := by
  split
  · rw [Int.toNat_natCast]
  · rw [Int.toNat_natCast, List.take_length, List.take_of_length_le (by omega)]

end Go.Sym
