/-
  SpanChecks: whether any span may be, and its last number, is as the document says, for every span.
-/
import Derived.Test.YtloboanoionagaaBase
set_option linter.unusedVariables false
set_option linter.unusedSimpArgs false
namespace Go.Proofs
open Go.Sym

def chk (a b : Int) : Int := if b = 0 then 1 else if IntKind.u64.wrap (IntKind.u64.wrap (a + b) - 1) < a then 2 else 0
def chk' (a b : Int) : Int := if b = 0 then 1 else if IntKind.u64.wrap (18446744073709551615 - a) < IntKind.u64.wrap (b - 1) then 2 else 0

theorem chk_eq {a b : Int} (ha : 0 ≤ a ∧ a < 18446744073709551616) (hb : 0 ≤ b ∧ b < 18446744073709551616) : chk a b = chk' a b := by
  unfold chk chk'
  simp only [wrap_u64]
  split
  · rfl
  · rename_i hb0
    by_cases h : ((a + b) % 18446744073709551616 - 1) % 18446744073709551616 < a
    · rw [if_pos h, if_pos (by omega)]
    · rw [if_neg h, if_neg (by omega)]

theorem p12_0 (a : Int) (b : Int) (k : Nat)
    (c0 : decide (b = 0) = true) :
    callP (evalFn Try.prog Try.cfg (k + 1)) 12 [V.agg [V.int IntKind.u64 a, V.int IntKind.u64 b]] = some (V.int IntKind.i64 1) :=
  byP [Hint.br 3 true] ((decide (b = 0) = true) ∧ True) (by kernel_rfl) ⟨c0, trivial⟩
theorem p12_1 (a : Int) (b : Int) (k : Nat)
    (c0 : decide (b = 0) = false)
    (c1 : decide (IntKind.u64.wrap (IntKind.u64.wrap (a + b) - 1) < a) = true) :
    callP (evalFn Try.prog Try.cfg (k + 1)) 12 [V.agg [V.int IntKind.u64 a, V.int IntKind.u64 b]] = some (V.int IntKind.i64 2) :=
  byP [Hint.br 3 false, Hint.br 7 true] ((decide (b = 0) = false) ∧ (decide (IntKind.u64.wrap (IntKind.u64.wrap (a + b) - 1) < a) = true) ∧ True) (by kernel_rfl) ⟨c0, c1, trivial⟩
theorem p12_2 (a : Int) (b : Int) (k : Nat)
    (c0 : decide (b = 0) = false)
    (c1 : decide (IntKind.u64.wrap (IntKind.u64.wrap (a + b) - 1) < a) = false) :
    callP (evalFn Try.prog Try.cfg (k + 1)) 12 [V.agg [V.int IntKind.u64 a, V.int IntKind.u64 b]] = some (V.int IntKind.i64 0) :=
  byP [Hint.br 3 false, Hint.br 7 false] ((decide (b = 0) = false) ∧ (decide (IntKind.u64.wrap (IntKind.u64.wrap (a + b) - 1) < a) = false) ∧ True) (by kernel_rfl) ⟨c0, c1, trivial⟩
theorem p10_0 (a : Int) (b : Int) (k : Nat)
    (c0 : decide (b = 0) = true) :
    callP (evalFn Try.prog Try.cfg (k + 1)) 10 [V.agg [V.int IntKind.u64 a, V.int IntKind.u64 b]] = some (V.int IntKind.i64 1) :=
  byP [Hint.br 5 true] ((decide (b = 0) = true) ∧ True) (by kernel_rfl) ⟨c0, trivial⟩
theorem p10_1 (a : Int) (b : Int) (k : Nat)
    (c0 : decide (b = 0) = false)
    (c1 : decide (IntKind.u64.wrap (18446744073709551615 - a) < IntKind.u64.wrap (b - 1)) = true) :
    callP (evalFn Try.prog Try.cfg (k + 1)) 10 [V.agg [V.int IntKind.u64 a, V.int IntKind.u64 b]] = some (V.int IntKind.i64 2) :=
  byP [Hint.br 5 false, Hint.br 12 true] ((decide (b = 0) = false) ∧ (decide (IntKind.u64.wrap (18446744073709551615 - a) < IntKind.u64.wrap (b - 1)) = true) ∧ True) (by kernel_rfl) ⟨c0, c1, trivial⟩
theorem p10_2 (a : Int) (b : Int) (k : Nat)
    (c0 : decide (b = 0) = false)
    (c1 : decide (IntKind.u64.wrap (18446744073709551615 - a) < IntKind.u64.wrap (b - 1)) = false) :
    callP (evalFn Try.prog Try.cfg (k + 1)) 10 [V.agg [V.int IntKind.u64 a, V.int IntKind.u64 b]] = some (V.int IntKind.i64 0) :=
  byP [Hint.br 5 false, Hint.br 12 false] ((decide (b = 0) = false) ∧ (decide (IntKind.u64.wrap (18446744073709551615 - a) < IntKind.u64.wrap (b - 1)) = false) ∧ True) (by kernel_rfl) ⟨c0, c1, trivial⟩
theorem p13_0 (a : Int) (b : Int) (k : Nat) :
    callP (evalFn Try.prog Try.cfg (k + 1)) 13 [V.agg [V.int IntKind.u64 a, V.int IntKind.u64 b]] = some (V.int IntKind.u64 (IntKind.u64.wrap (a + IntKind.u64.wrap (b - 1)))) :=
  byP [] (True) (by kernel_rfl) trivial
theorem p28_0 (a : Int) (b : Int) (k : Nat) :
    callP (evalFn Try.prog Try.cfg (k + 1)) 28 [V.agg [V.int IntKind.u64 a, V.int IntKind.u64 b]] = some (V.agg [V.int IntKind.u64 a, V.int IntKind.u64 (IntKind.u64.wrap (IntKind.u64.wrap (a + b) - 1))]) :=
  byP [] (True) (by kernel_rfl) trivial
theorem p9_0 (a : Int) (b : Int) (k : Nat)
    (c0 : callP (evalFn Try.prog Try.cfg k) 12 [V.agg [V.int IntKind.u64 a, V.int IntKind.u64 b]] = some (V.int IntKind.i64 (chk a b)))
    (c1 : (!decide (chk a b = 0)) = true) :
    callP (evalFn Try.prog Try.cfg (k + 1)) 9 [V.agg [V.int IntKind.u64 a, V.int IntKind.u64 b]] = some (V.tup [V.int IntKind.u64 0, V.int IntKind.i64 (chk a b)]) :=
  byP [Hint.call 6 (V.int IntKind.i64 (chk a b)), Hint.br 8 true] ((callP (evalFn Try.prog Try.cfg k) 12 [V.agg [V.int IntKind.u64 a, V.int IntKind.u64 b]] = some (V.int IntKind.i64 (chk a b))) ∧ ((!decide (chk a b = 0)) = true) ∧ True) (by kernel_rfl) ⟨c0, c1, trivial⟩
theorem p9_1 (a : Int) (b : Int) (k : Nat)
    (c0 : callP (evalFn Try.prog Try.cfg k) 12 [V.agg [V.int IntKind.u64 a, V.int IntKind.u64 b]] = some (V.int IntKind.i64 (chk a b)))
    (c1 : (!decide (chk a b = 0)) = false)
    (c2 : callP (evalFn Try.prog Try.cfg k) 28 [V.agg [V.int IntKind.u64 a, V.int IntKind.u64 b]] = some (V.agg [V.int IntKind.u64 a, V.int IntKind.u64 (IntKind.u64.wrap (IntKind.u64.wrap (a + b) - 1))])) :
    callP (evalFn Try.prog Try.cfg (k + 1)) 9 [V.agg [V.int IntKind.u64 a, V.int IntKind.u64 b]] = some (V.tup [V.int IntKind.u64 (IntKind.u64.wrap (IntKind.u64.wrap (a + b) - 1)), V.int IntKind.i64 0]) :=
  byP [Hint.call 6 (V.int IntKind.i64 (chk a b)), Hint.br 8 false, Hint.call 11 (V.agg [V.int IntKind.u64 a, V.int IntKind.u64 (IntKind.u64.wrap (IntKind.u64.wrap (a + b) - 1))])] ((callP (evalFn Try.prog Try.cfg k) 12 [V.agg [V.int IntKind.u64 a, V.int IntKind.u64 b]] = some (V.int IntKind.i64 (chk a b))) ∧ ((!decide (chk a b = 0)) = false) ∧ (callP (evalFn Try.prog Try.cfg k) 28 [V.agg [V.int IntKind.u64 a, V.int IntKind.u64 b]] = some (V.agg [V.int IntKind.u64 a, V.int IntKind.u64 (IntKind.u64.wrap (IntKind.u64.wrap (a + b) - 1))])) ∧ True) (by kernel_rfl) ⟨c0, c1, c2, trivial⟩
theorem p3_0 (a : Int) (b : Int) (k : Nat)
    (c0 : callP (evalFn Try.prog Try.cfg k) 9 [V.agg [V.int IntKind.u64 a, V.int IntKind.u64 b]] = some (V.tup [V.int IntKind.u64 (if chk a b = 0 then IntKind.u64.wrap (IntKind.u64.wrap (a + b) - 1) else 0), V.int IntKind.i64 (chk a b)]))
    (c1 : callP (evalFn Try.prog Try.cfg k) 10 [V.agg [V.int IntKind.u64 a, V.int IntKind.u64 b]] = some (V.int IntKind.i64 (chk' a b)))
    (c2 : (!decide (chk' a b = 0)) = true)
    (c3 : callP (evalFn Try.prog Try.cfg k) 11 [] = some (V.bool true))
    (c4 : callP (evalFn Try.prog Try.cfg k) 12 [V.agg [V.int IntKind.u64 a, V.int IntKind.u64 b]] = some (V.int IntKind.i64 (chk a b)))
    (c5 : decide (chk a b = chk' a b) = true)
    (c6 : decide (chk a b = chk' a b) = true) :
    callP (evalFn Try.prog Try.cfg (k + 1)) 3 [V.agg [V.int IntKind.u64 a, V.int IntKind.u64 b]] = some (V.bool (decide ((if chk a b = 0 then IntKind.u64.wrap (IntKind.u64.wrap (a + b) - 1) else 0) = 0))) :=
  byP [Hint.call 8 (V.tup [V.int IntKind.u64 (if chk a b = 0 then IntKind.u64.wrap (IntKind.u64.wrap (a + b) - 1) else 0), V.int IntKind.i64 (chk a b)]), Hint.call 12 (V.int IntKind.i64 (chk' a b)), Hint.br 14 true, Hint.call 15 (V.bool true), Hint.call 18 (V.int IntKind.i64 (chk a b)), Hint.br 22 true, Hint.br 27 true] ((callP (evalFn Try.prog Try.cfg k) 9 [V.agg [V.int IntKind.u64 a, V.int IntKind.u64 b]] = some (V.tup [V.int IntKind.u64 (if chk a b = 0 then IntKind.u64.wrap (IntKind.u64.wrap (a + b) - 1) else 0), V.int IntKind.i64 (chk a b)])) ∧ (callP (evalFn Try.prog Try.cfg k) 10 [V.agg [V.int IntKind.u64 a, V.int IntKind.u64 b]] = some (V.int IntKind.i64 (chk' a b))) ∧ ((!decide (chk' a b = 0)) = true) ∧ (callP (evalFn Try.prog Try.cfg k) 11 [] = some (V.bool true)) ∧ (callP (evalFn Try.prog Try.cfg k) 12 [V.agg [V.int IntKind.u64 a, V.int IntKind.u64 b]] = some (V.int IntKind.i64 (chk a b))) ∧ (decide (chk a b = chk' a b) = true) ∧ (decide (chk a b = chk' a b) = true) ∧ True) (by kernel_rfl) ⟨c0, c1, c2, c3, c4, c5, c6, trivial⟩
theorem p3_3 (a : Int) (b : Int) (k : Nat)
    (c0 : callP (evalFn Try.prog Try.cfg k) 9 [V.agg [V.int IntKind.u64 a, V.int IntKind.u64 b]] = some (V.tup [V.int IntKind.u64 (if chk a b = 0 then IntKind.u64.wrap (IntKind.u64.wrap (a + b) - 1) else 0), V.int IntKind.i64 (chk a b)]))
    (c1 : callP (evalFn Try.prog Try.cfg k) 10 [V.agg [V.int IntKind.u64 a, V.int IntKind.u64 b]] = some (V.int IntKind.i64 (chk' a b)))
    (c2 : (!decide (chk' a b = 0)) = false)
    (c3 : callP (evalFn Try.prog Try.cfg k) 11 [] = some (V.bool true))
    (c4 : callP (evalFn Try.prog Try.cfg k) 12 [V.agg [V.int IntKind.u64 a, V.int IntKind.u64 b]] = some (V.int IntKind.i64 (chk a b)))
    (c5 : decide (chk a b = 0) = true)
    (c6 : decide (chk a b = 0) = true)
    (c7 : callP (evalFn Try.prog Try.cfg k) 13 [V.agg [V.int IntKind.u64 a, V.int IntKind.u64 b]] = some (V.int IntKind.u64 (IntKind.u64.wrap (a + IntKind.u64.wrap (b - 1))))) :
    callP (evalFn Try.prog Try.cfg (k + 1)) 3 [V.agg [V.int IntKind.u64 a, V.int IntKind.u64 b]] = some (V.bool (decide ((if chk a b = 0 then IntKind.u64.wrap (IntKind.u64.wrap (a + b) - 1) else 0) = IntKind.u64.wrap (a + IntKind.u64.wrap (b - 1))))) :=
  byP [Hint.call 8 (V.tup [V.int IntKind.u64 (if chk a b = 0 then IntKind.u64.wrap (IntKind.u64.wrap (a + b) - 1) else 0), V.int IntKind.i64 (chk a b)]), Hint.call 12 (V.int IntKind.i64 (chk' a b)), Hint.br 14 false, Hint.call 31 (V.bool true), Hint.call 34 (V.int IntKind.i64 (chk a b)), Hint.br 37 true, Hint.br 41 true, Hint.call 44 (V.int IntKind.u64 (IntKind.u64.wrap (a + IntKind.u64.wrap (b - 1))))] ((callP (evalFn Try.prog Try.cfg k) 9 [V.agg [V.int IntKind.u64 a, V.int IntKind.u64 b]] = some (V.tup [V.int IntKind.u64 (if chk a b = 0 then IntKind.u64.wrap (IntKind.u64.wrap (a + b) - 1) else 0), V.int IntKind.i64 (chk a b)])) ∧ (callP (evalFn Try.prog Try.cfg k) 10 [V.agg [V.int IntKind.u64 a, V.int IntKind.u64 b]] = some (V.int IntKind.i64 (chk' a b))) ∧ ((!decide (chk' a b = 0)) = false) ∧ (callP (evalFn Try.prog Try.cfg k) 11 [] = some (V.bool true)) ∧ (callP (evalFn Try.prog Try.cfg k) 12 [V.agg [V.int IntKind.u64 a, V.int IntKind.u64 b]] = some (V.int IntKind.i64 (chk a b))) ∧ (decide (chk a b = 0) = true) ∧ (decide (chk a b = 0) = true) ∧ (callP (evalFn Try.prog Try.cfg k) 13 [V.agg [V.int IntKind.u64 a, V.int IntKind.u64 b]] = some (V.int IntKind.u64 (IntKind.u64.wrap (a + IntKind.u64.wrap (b - 1))))) ∧ True) (by kernel_rfl) ⟨c0, c1, c2, c3, c4, c5, c6, c7, trivial⟩
theorem h11 (k : Nat) : callP (evalFn Try.prog Try.cfg (k + 10)) 11 [] = some (.bool true) := by kernel_rfl

theorem h12 (a b : Int) (k : Nat) : callP (evalFn Try.prog Try.cfg (k + 1)) 12 [V.agg [V.int IntKind.u64 a, V.int IntKind.u64 b]] = some (V.int .i64 (chk a b)) := by
  unfold chk
  split
  · rename_i h1
    exact p12_0 a b k (decide_eq_true h1)
  · rename_i h1
    split
    · rename_i h2
      exact p12_1 a b k (decide_eq_false h1) (decide_eq_true h2)
    · rename_i h2
      exact p12_2 a b k (decide_eq_false h1) (decide_eq_false h2)
theorem h10 (a b : Int) (k : Nat) : callP (evalFn Try.prog Try.cfg (k + 1)) 10 [V.agg [V.int IntKind.u64 a, V.int IntKind.u64 b]] = some (V.int .i64 (chk' a b)) := by
  unfold chk'
  split
  · rename_i h1
    exact p10_0 a b k (decide_eq_true h1)
  · rename_i h1
    split
    · rename_i h2
      exact p10_1 a b k (decide_eq_false h1) (decide_eq_true h2)
    · rename_i h2
      exact p10_2 a b k (decide_eq_false h1) (decide_eq_false h2)
theorem h9 (a b : Int) (k : Nat) : callP (evalFn Try.prog Try.cfg (k + 2)) 9 [V.agg [V.int IntKind.u64 a, V.int IntKind.u64 b]] =
    some (V.tup [V.int IntKind.u64 (if chk a b = 0 then IntKind.u64.wrap (IntKind.u64.wrap (a + b) - 1) else 0), V.int IntKind.i64 (chk a b)]) := by
  by_cases h : chk a b = 0
  · rw [if_pos h, p9_1 a b (k + 1) (h12 a b k) (by simpa) (p28_0 a b k), h]
  · rw [if_neg h, p9_0 a b (k + 1) (h12 a b k) (by simpa)]

theorem law_spanChecks {a b : Int} (ha : 0 ≤ a ∧ a < 18446744073709551616) (hb : 0 ≤ b ∧ b < 18446744073709551616) : callP (evalFn Try.prog Try.cfg (10 + 1)) 3 [V.agg [V.int IntKind.u64 a, V.int IntKind.u64 b]] = some (.bool true) := by
  have he := chk_eq ha hb
  by_cases h : chk a b = 0
  · have h' : chk' a b = 0 := he ▸ h
    refine (p3_3 a b 10 (h9 a b 8) (h10 a b 9) (by simp [h']) (h11 0) (h12 a b 9) (decide_eq_true h) (decide_eq_true h) (p13_0 a b 9)).trans ?_
    rw [if_pos h]
    have e : IntKind.u64.wrap (IntKind.u64.wrap (a + b) - 1) = IntKind.u64.wrap (a + IntKind.u64.wrap (b - 1)) := by
      simp only [wrap_u64]; omega
    rw [decide_eq_true e]
  · have h' : ¬ chk' a b = 0 := he ▸ h
    refine (p3_0 a b 10 (h9 a b 8) (h10 a b 9) (by simp [h']) (h11 0) (h12 a b 9) (decide_eq_true he) (decide_eq_true he)).trans ?_
    rw [if_neg h]; rfl
end Go.Proofs
namespace Go.Proofs.Ytloboanoionagaa
open Go.Sym
theorem spanChecks_lifted (os : Os) (started : os.Started) (H : Type) (enc : TypeId × Value → H) :
    ReturnsInHanded {} Try.checked os 3 .any (Rows.spanChecksSpec.pre6 enc Try.prog Try.f3 Rows.spanChecksRow.domain false) (Rows.spanChecksSpec.post enc Try.prog Try.f3 false true false false) := by
  refine returnsInHanded_of_change (C := Try.checked) Try.own started (by kernel_rfl) Try.func3
    (ChangeSpec.witness6 (enc := enc) (C := Try.checked) false ⟨#[], #[.agg #[.int .u64 0, .int .u64 0]], []⟩ 8 (by kernel_rfl) (by kernel_rfl) (by kernel_rfl) (by kernel_rfl)) ?_
  intro W base args ds gs before hval hW hcnd _
  refine law_end (P := Try.prog) (C := Try.cfg) (k := 2) (tb := 4) Try.mixed Try.progOk Try.laidOut (by kernel_rfl) rfl rfl Try.underlying4 ?_ ?_ (fun j t v h1 h2 => ⟨base, hval j t v h1 h2⟩) hW
  · intro ds hds
    match ds, hds with
    | [d], _ => exact ⟨rfl, rfl, rfl⟩
  · intro xs hxs
    match xs, hxs with
    | [x], ⟨hx, _⟩ =>
      obtain ⟨a, b, rfl, ha, hb⟩ := open24 hx
      exact ⟨_, law_spanChecks ha hb⟩

theorem spanChecks_holds : Rows.SpanChecksSaid :=
  OpenClaim.holds_of_wide 3 Try.f3 rfl rfl rfl rfl rfl rfl rfl ⟨rfl, rfl, rfl, rfl, rfl⟩ rfl rfl rfl rfl rfl (by kernel_rfl) Try.func3 (by kernel_rfl)
    (of_decide_eq_true (by kernel_rfl)) (by unfold Func.isWrapper; first | (rw [if_pos (by decide +kernel)]; kernel_rfl) | (rw [if_neg (by decide +kernel)]; exact ⟨rfl, rfl⟩))
    (fun os started H enc _ => spanChecks_lifted os started H enc)
end Go.Proofs.Ytloboanoionagaa
