/-
  What functions of codec answer, as functions on numbers, texts and rows, each checked against the program.
-/
import Derived.Test.YtegmincienhapaaBase
import Derived.Test.YtegmincienhapaaSymPath2
set_option linter.unusedVariables false
set_option maxHeartbeats 0
set_option maxRecDepth 100000
namespace Go.Proofs
open Go Go.Sym

theorem L43_0_b0 (i0 i1 i2 : Int) (x0 : List V) (k : Nat)
    (c0 : decide (i2 < (↑(List.replicate i1.toNat (V.int .u8 0)).length : Int)) = true)
    (c1 : GrdP ((0 : Int) ≤ IntKind.i64.wrap ((8 : Int) * i2)) (V.int .u64 (i0.fdiv ((2 : Int) ^ min (IntKind.i64.wrap ((8 : Int) * i2)).toNat IntKind.u64.bits))))
    (c2 : IdxR x0.length i2 1 1 (V.ept 0 i2.toNat 0))
    (c3 : GrdW (false = false ∧ (rid (V.int .u8 (IntKind.u8.wrap (i0.fdiv ((2 : Int) ^ min (IntKind.i64.wrap ((8 : Int) * i2)).toNat IntKind.u64.bits))))).contains (0 : Nat) = false ∧ i2.toNat < x0.length) (V.tup []) [((0 : Nat), Ob.row false (1 : Nat) (x0.set i2.toNat (V.int .u8 (IntKind.u8.wrap (i0.fdiv ((2 : Int) ^ min (IntKind.i64.wrap ((8 : Int) * i2)).toNat IntKind.u64.bits))))))]) :
    evalCode Try.prog Try.cfg (evalFn Try.prog Try.cfg (k + 2)) 0 (Try.cfg.fc 43) (k + 2) (loopBody Try.f43 0) { tm := [(0, V.int .u64 i0), (1, V.int .i64 i1), (4, V.str []), (5, V.ref 0), (10, V.int .i64 (↑(List.replicate i1.toNat (V.int .u8 0)).length : Int)), (11, V.int .i64 i2)], hp := [(0, Ob.row false 1 x0)], nx := 1 } = some (Exit.normal, { tm := [(0, V.int .u64 i0), (1, V.int .i64 i1), (4, V.str []), (5, V.ref 0), (6, V.int .i64 i2), (10, V.int .i64 (↑(List.replicate i1.toNat (V.int .u8 0)).length : Int)), (11, V.int .i64 (IntKind.i64.wrap (i2 + 1))), (12, V.bool true)], hp := [(0, Ob.row false 1 (x0.set i2.toNat (V.int .u8 (IntKind.u8.wrap (i0.fdiv (2 ^ min (IntKind.i64.wrap (8 * i2)).toNat IntKind.u64.bits))))))], nx := 57 }) :=
  byL (k := k) (d := 2) [Hn.br 12 true, Hn.op 19 (V.int .u64 (i0.fdiv (2 ^ min (IntKind.i64.wrap (8 * i2)).toNat IntKind.u64.bits))) [], Hn.op 21 (V.ept 0 i2.toNat 0) [], Hn.wr 45 (V.tup []) [(0, Ob.row false 1 (x0.set i2.toNat (V.int .u8 (IntKind.u8.wrap (i0.fdiv (2 ^ min (IntKind.i64.wrap (8 * i2)).toNat IntKind.u64.bits))))))]] (And.intro c0 (And.intro c1 (And.intro c2 (And.intro c3 trivial)))) (by kernel_rfl)
theorem L43_0_b0h (i0 i1 i2 : Int) (x0 : List V) : head 0 [0, 1, 4, 5, 10, 11] (Try.cfg.fc 43).acc { tm := [(0, V.int .u64 i0), (1, V.int .i64 i1), (4, V.str []), (5, V.ref 0), (6, V.int .i64 i2), (10, V.int .i64 (↑(List.replicate i1.toNat (V.int .u8 0)).length : Int)), (11, V.int .i64 (IntKind.i64.wrap (i2 + 1))), (12, V.bool true)], hp := [(0, Ob.row false 1 (x0.set i2.toNat (V.int .u8 (IntKind.u8.wrap (i0.fdiv (2 ^ min (IntKind.i64.wrap (8 * i2)).toNat IntKind.u64.bits))))))], nx := 57 } = { tm := [(0, V.int .u64 i0), (1, V.int .i64 i1), (4, V.str []), (5, V.ref 0), (10, V.int .i64 (↑(List.replicate i1.toNat (V.int .u8 0)).length : Int)), (11, V.int .i64 (IntKind.i64.wrap (i2 + 1)))], hp := [(0, Ob.row false 1 (x0.set i2.toNat (V.int .u8 (IntKind.u8.wrap (i0.fdiv (2 ^ min (IntKind.i64.wrap (8 * i2)).toNat IntKind.u64.bits))))))], nx := 1 } := by kernel_rfl
theorem L43_0_b1 (i0 i1 i2 : Int) (x0 : List V) (k : Nat)
    (c0 : decide (i2 < (↑(List.replicate i1.toNat (V.int .u8 0)).length : Int)) = false) :
    evalCode Try.prog Try.cfg (evalFn Try.prog Try.cfg (k + 2)) 0 (Try.cfg.fc 43) (k + 2) (loopBody Try.f43 0) { tm := [(0, V.int .u64 i0), (1, V.int .i64 i1), (4, V.str []), (5, V.ref 0), (10, V.int .i64 (↑(List.replicate i1.toNat (V.int .u8 0)).length : Int)), (11, V.int .i64 i2)], hp := [(0, Ob.row false 1 x0)], nx := 1 } = some (Exit.exit 0, { tm := [(0, V.int .u64 i0), (1, V.int .i64 i1), (4, V.str []), (5, V.ref 0), (10, V.int .i64 (↑(List.replicate i1.toNat (V.int .u8 0)).length : Int)), (11, V.int .i64 i2), (12, V.bool false)], hp := [(0, Ob.row false 1 x0)], nx := 5 }) :=
  byL (k := k) (d := 2) [Hn.br 12 false] (And.intro c0 trivial) (by kernel_rfl)
inductive L43_0_R where
  | e0 (i2 : Int) (x0 : List V)
noncomputable def L43_0_end (i0 : Int) (i1 : Int) : L43_0_R → Exit × St
  | .e0 i2 x0 => (Exit.exit 0, { tm := [(0, V.int .u64 i0), (1, V.int .i64 i1), (4, V.str []), (5, V.ref 0), (10, V.int .i64 (↑(List.replicate i1.toNat (V.int .u8 0)).length : Int)), (11, V.int .i64 i2), (12, V.bool false)], hp := [(0, Ob.row false 1 x0)], nx := 5 })
def L43_0 (k : Nat) (i0 i1 : Int) : Nat → Int → List V → Option L43_0_R
  | 0, _, _ => none
  | f + 1, i2, x0 => (bif decide (i2 < (↑(List.replicate i1.toNat (V.int .u8 0)).length : Int)) then (guardP ((0 : Int) ≤ IntKind.i64.wrap ((8 : Int) * i2)) (guardP ((0 : Int) ≤ i2 ∧ i2 < (↑x0.length : Int)) (guardP (i2.toNat < x0.length) (L43_0 k i0 i1 f (IntKind.i64.wrap (i2 + 1)) (x0.set i2.toNat (V.int .u8 (IntKind.u8.wrap (i0.fdiv (2 ^ min (IntKind.i64.wrap (8 * i2)).toNat IntKind.u64.bits))))))))) else (some (L43_0_R.e0 i2 x0)))
theorem L43_0_ok {i0 : Int} {i1 : Int} {k : Nat} : ∀ {f : Nat} {i2 : Int} {x0 : List V} {r : L43_0_R}, L43_0 k i0 i1 f i2 x0 = some r →
    LoopsN Try.prog Try.cfg (k + 2) 0 Try.f43 (Try.cfg.fc 43) 0 [0, 1, 4, 5, 10, 11] f { tm := [(0, V.int .u64 i0), (1, V.int .i64 i1), (4, V.str []), (5, V.ref 0), (10, V.int .i64 (↑(List.replicate i1.toNat (V.int .u8 0)).length : Int)), (11, V.int .i64 i2)], hp := [(0, Ob.row false 1 x0)], nx := 1 } (L43_0_end i0 i1 r) := by
  intro f
  induction f with
  | zero => intro i2 x0 r h; cases h
  | succ f ih =>
    intro i2 x0 r h
    rw [L43_0] at h
    rcases cond_elim h with ⟨e0, h⟩ | ⟨e0, h⟩
    ·
      obtain ⟨e1, h⟩ := guardP_some.1 h
      obtain ⟨e2, h⟩ := guardP_some.1 h
      obtain ⟨e3, h⟩ := guardP_some.1 h
      exact LoopsN.next (L43_0_b0 i0 i1 i2 x0 k e0 (GrdP.mk e1) (IdxR.mk' e2 rfl) (GrdW.mk ⟨rfl, rfl, e3⟩)) (L43_0_b0h i0 i1 i2 x0) (ih h)
    ·
      cases h; exact LoopsN.done (L43_0_b1 i0 i1 i2 x0 k e0) (fun h => by cases h)
theorem P43_0 (i0 i1 i2 : Int) (x0 : List V) (k : Nat)
    (c0 : GrdW ((0 : Nat) < (1 : Nat) ∧ (1 : Nat) ≤ (64 : Nat) ∧ (V.int .u8 (0 : Int)).cells.length = (1 : Nat) ∧ (0 : Int) ≤ i1 ∧ i1 ≤ i1 ∧ i1 ≤ (↑maxLen' : Int)) (V.ref (8 : Nat)) [((8 : Nat), Ob.row false (1 : Nat) (List.replicate i1.toNat (V.int .u8 (0 : Int))))])
    (c1 : LoopsN Try.prog Try.cfg (k + 2) 0 Try.f43 (Try.cfg.fc 43) 0 [0, 1, 4, 5, 10, 11] (k + 2) { tm := [(0, V.int .u64 i0), (1, V.int .i64 i1), (4, V.str []), (5, V.ref 0), (10, V.int .i64 (↑(List.replicate i1.toNat (V.int .u8 0)).length : Int)), (11, V.int .i64 0)], hp := [(0, Ob.row false 1 (List.replicate i1.toNat (V.int .u8 0)))], nx := 1 } (Exit.exit 0, { tm := [(0, V.int .u64 i0), (1, V.int .i64 i1), (4, V.str []), (5, V.ref 0), (10, V.int .i64 (↑(List.replicate i1.toNat (V.int .u8 0)).length : Int)), (11, V.int .i64 i2), (12, V.bool false)], hp := [(0, Ob.row false 1 x0)], nx := 5 }))
    (c2 : GrdW (((1 : Nat) = (1 : Nat) ∨ x0.isEmpty = true) ∧ x0.all isByte = true) (V.str (List.map Sym.byteOf x0)) []) :
    callP (evalFn Try.prog Try.cfg (k + 3)) 43 [V.int .u64 i0, V.int .i64 i1] = some (V.str (List.map Sym.byteOf x0)) :=
  byF (k := k) (d := 3) [Hn.op 8 (V.ref 8) [(8, Ob.row false 1 (List.replicate i1.toNat (V.int .u8 0)))], Hn.loop (Exit.exit 0, { tm := [(0, V.int .u64 i0), (1, V.int .i64 i1), (4, V.str []), (5, V.ref 0), (10, V.int .i64 (↑(List.replicate i1.toNat (V.int .u8 0)).length : Int)), (11, V.int .i64 i2), (12, V.bool false)], hp := [(0, Ob.row false 1 x0)], nx := 5 }), Hn.op 24 (V.str (List.map Sym.byteOf x0)) []] (And.intro c0 (And.intro c1 (And.intro c2 trivial))) (by kernel_rfl)
def F43 (k : Nat) (i0 i1 : Int) : Option (List UInt8) :=
  (guardP ((0 : Int) ≤ i1 ∧ i1 ≤ i1 ∧ i1 ≤ (↑maxLen' : Int)) ((L43_0 k i0 i1 (k + 2) (0) (List.replicate i1.toNat (V.int .u8 0))).bind fun
    | L43_0_R.e0 i2 x0 => (guardP (x0.all isByte = true) (some (List.map Sym.byteOf x0)))))
theorem F43_ok {i0 : Int} {i1 : Int} {k : Nat} {r : List UInt8} (h : F43 k i0 i1 = some r) :
    callP (evalFn Try.prog Try.cfg (k + 3)) 43 [V.int .u64 i0, V.int .i64 i1] = some (V.str r) := by
  unfold F43 at h
  obtain ⟨e0, h⟩ := guardP_some.1 h
  obtain ⟨ee, e1, h⟩ := Option.bind_eq_some_iff.1 h
  cases ee with
  | e0 i2 x0 =>
    obtain ⟨e2, h⟩ := guardP_some.1 h
    have h := Option.some.inj h; subst h; exact P43_0 i0 i1 i2 x0 k (GrdW.mk ⟨by decide, by decide, rfl, e0⟩) (L43_0_ok e1) (GrdW.mk ⟨(.inl rfl), e2⟩)
theorem P13_0 (i0 : Int) (s0 : List UInt8) (k : Nat)
    (c0 : callP (evalFn Try.prog Try.cfg (k + 5)) 43 [V.int .u64 i0, V.int .i64 8] = some (V.str s0)) :
    callP (evalFn Try.prog Try.cfg (k + 6)) 13 [V.int .u64 i0] = some (V.str s0) :=
  byF (k := k) (d := 6) [Hn.call 4 (V.str s0)] (And.intro c0 trivial) (by kernel_rfl)
def F13 (k : Nat) (i0 : Int) : Option (List UInt8) :=
  ((F43 (k + 2) (i0) (8)).bind fun s0 => (some (s0)))
theorem F13_ok {i0 : Int} {k : Nat} {r : List UInt8} (h : F13 k i0 = some r) :
    callP (evalFn Try.prog Try.cfg (k + 6)) 13 [V.int .u64 i0] = some (V.str r) := by
  unfold F13 at h
  obtain ⟨s0, e0, h⟩ := Option.bind_eq_some_iff.1 h
  have h := Option.some.inj h; subst h; exact P13_0 i0 s0 k (F43_ok e0)
theorem P15_0 (s0 : List UInt8) (k : Nat)
    (c0 : callP (evalFn Try.prog Try.cfg (k + 8)) 13 [V.int .u64 258] = some (V.str s0)) :
    callP (evalFn Try.prog Try.cfg (k + 9)) 15 [] = some (V.bool (decide (s0 = [2, 1, 0, 0, 0, 0, 0, 0]))) :=
  byF (k := k) (d := 9) [Hn.call 1 (V.str s0)] (And.intro c0 trivial) (by kernel_rfl)
def F15 (k : Nat) : Option (Bool) :=
  ((F13 (k + 2) (258)).bind fun s0 => (some (decide (s0 = [2, 1, 0, 0, 0, 0, 0, 0]))))
theorem F15_ok {k : Nat} {r : Bool} (h : F15 k = some r) :
    callP (evalFn Try.prog Try.cfg (k + 9)) 15 [] = some (V.bool r) := by
  unfold F15 at h
  obtain ⟨s0, e0, h⟩ := Option.bind_eq_some_iff.1 h
  have h := Option.some.inj h; subst h; exact P15_0 s0 k (F13_ok e0)
end Go.Proofs
