/-
  What the law CodecRises and its functions answer, checked against the program.
-/
import Derived.Test.YtegmincienhapaaBase
import Derived.Test.YtegmincienhapaaSymPath2
set_option linter.unusedVariables false
set_option maxHeartbeats 0
set_option maxRecDepth 100000
namespace Go.Proofs
open Go Go.Sym

theorem L43_0_b0 (i0 : Int) (i1 : Int) (i2 : Int) (x0 : List V) (k : Nat)
    (c0 : decide (i2 < (↑(List.replicate i1.toNat (V.int IntKind.u8 0)).length : Int)) = true)
    (c1 : GrdP (0 ≤ IntKind.i64.wrap (8 * i2)) (V.int IntKind.u64 (i0.fdiv (2 ^ min (IntKind.i64.wrap (8 * i2)).toNat IntKind.u64.bits))))
    (c2 : IdxR x0.length i2 1 1 (V.ept 0 i2.toNat 0))
    (c3 : GrdW (false = false ∧ (rid (V.int IntKind.u8 (IntKind.u8.wrap (i0.fdiv (2 ^ min (IntKind.i64.wrap (8 * i2)).toNat IntKind.u64.bits))))).contains 0 = false ∧ i2.toNat < x0.length) (V.tup []) [(0, Ob.row false 1 (x0.set i2.toNat (V.int IntKind.u8 (IntKind.u8.wrap (i0.fdiv (2 ^ min (IntKind.i64.wrap (8 * i2)).toNat IntKind.u64.bits))))))]) :
    evalCode Try.prog Try.cfg (evalFn Try.prog Try.cfg (k + 2)) 0 (Try.cfg.fc 43) (k + 2) (loopBody Try.f43 0) { tm := [(0, V.int IntKind.u64 i0), (1, V.int IntKind.i64 i1), (4, V.str []), (5, V.ref 0), (10, V.int IntKind.i64 (↑(List.replicate i1.toNat (V.int IntKind.u8 0)).length : Int)), (11, V.int IntKind.i64 i2)], hp := [(0, Ob.row false 1 x0)], nx := 1 } = some (Exit.normal, { tm := [(0, V.int IntKind.u64 i0), (1, V.int IntKind.i64 i1), (4, V.str []), (5, V.ref 0), (6, V.int IntKind.i64 i2), (10, V.int IntKind.i64 (↑(List.replicate i1.toNat (V.int IntKind.u8 0)).length : Int)), (11, V.int IntKind.i64 (IntKind.i64.wrap (i2 + 1))), (12, V.bool true)], hp := [(0, Ob.row false 1 (x0.set i2.toNat (V.int IntKind.u8 (IntKind.u8.wrap (i0.fdiv (2 ^ min (IntKind.i64.wrap (8 * i2)).toNat IntKind.u64.bits))))))], nx := 57 }) :=
  byL (k := k) (d := 2) [Hn.br 12 true, Hn.op 19 (V.int IntKind.u64 (i0.fdiv (2 ^ min (IntKind.i64.wrap (8 * i2)).toNat IntKind.u64.bits))) [], Hn.op 21 (V.ept 0 i2.toNat 0) [], Hn.wr 45 (V.tup []) [(0, Ob.row false 1 (x0.set i2.toNat (V.int IntKind.u8 (IntKind.u8.wrap (i0.fdiv (2 ^ min (IntKind.i64.wrap (8 * i2)).toNat IntKind.u64.bits))))))]] (And.intro c0 (And.intro c1 (And.intro c2 (And.intro c3 trivial)))) (by kernel_rfl)
theorem L43_0_b0h (i0 : Int) (i1 : Int) (i2 : Int) (x0 : List V) : head 0 [0, 1, 4, 5, 10, 11] (Try.cfg.fc 43).acc { tm := [(0, V.int IntKind.u64 i0), (1, V.int IntKind.i64 i1), (4, V.str []), (5, V.ref 0), (6, V.int IntKind.i64 i2), (10, V.int IntKind.i64 (↑(List.replicate i1.toNat (V.int IntKind.u8 0)).length : Int)), (11, V.int IntKind.i64 (IntKind.i64.wrap (i2 + 1))), (12, V.bool true)], hp := [(0, Ob.row false 1 (x0.set i2.toNat (V.int IntKind.u8 (IntKind.u8.wrap (i0.fdiv (2 ^ min (IntKind.i64.wrap (8 * i2)).toNat IntKind.u64.bits))))))], nx := 57 } = { tm := [(0, V.int IntKind.u64 i0), (1, V.int IntKind.i64 i1), (4, V.str []), (5, V.ref 0), (10, V.int IntKind.i64 (↑(List.replicate i1.toNat (V.int IntKind.u8 0)).length : Int)), (11, V.int IntKind.i64 (IntKind.i64.wrap (i2 + 1)))], hp := [(0, Ob.row false 1 (x0.set i2.toNat (V.int IntKind.u8 (IntKind.u8.wrap (i0.fdiv (2 ^ min (IntKind.i64.wrap (8 * i2)).toNat IntKind.u64.bits))))))], nx := 1 } := by kernel_rfl
theorem L43_0_b1 (i0 : Int) (i1 : Int) (i2 : Int) (x0 : List V) (k : Nat)
    (c0 : decide (i2 < (↑(List.replicate i1.toNat (V.int IntKind.u8 0)).length : Int)) = false) :
    evalCode Try.prog Try.cfg (evalFn Try.prog Try.cfg (k + 2)) 0 (Try.cfg.fc 43) (k + 2) (loopBody Try.f43 0) { tm := [(0, V.int IntKind.u64 i0), (1, V.int IntKind.i64 i1), (4, V.str []), (5, V.ref 0), (10, V.int IntKind.i64 (↑(List.replicate i1.toNat (V.int IntKind.u8 0)).length : Int)), (11, V.int IntKind.i64 i2)], hp := [(0, Ob.row false 1 x0)], nx := 1 } = some (Exit.exit 0, { tm := [(0, V.int IntKind.u64 i0), (1, V.int IntKind.i64 i1), (4, V.str []), (5, V.ref 0), (10, V.int IntKind.i64 (↑(List.replicate i1.toNat (V.int IntKind.u8 0)).length : Int)), (11, V.int IntKind.i64 i2), (12, V.bool false)], hp := [(0, Ob.row false 1 x0)], nx := 5 }) :=
  byL (k := k) (d := 2) [Hn.br 12 false] (And.intro c0 trivial) (by kernel_rfl)
inductive L43_0_R where
  | e0 (i2 : Int) (x0 : List V)
noncomputable def L43_0_end (i0 : Int) (i1 : Int) : L43_0_R → Exit × St
  | .e0 i2 x0 => (Exit.exit 0, { tm := [(0, V.int IntKind.u64 i0), (1, V.int IntKind.i64 i1), (4, V.str []), (5, V.ref 0), (10, V.int IntKind.i64 (↑(List.replicate i1.toNat (V.int IntKind.u8 0)).length : Int)), (11, V.int IntKind.i64 i2), (12, V.bool false)], hp := [(0, Ob.row false 1 x0)], nx := 5 })
def L43_0 (k : Nat) (i0 : Int) (i1 : Int) : Nat → Int → List V → Option L43_0_R
  | 0, _, _ => none
  | f + 1, i2, x0 => (bif decide (i2 < (↑(List.replicate i1.toNat (V.int IntKind.u8 0)).length : Int)) then (guardP (0 ≤ IntKind.i64.wrap (8 * i2)) (guardP (0 ≤ i2 ∧ i2 < (↑x0.length : Int)) (guardP (i2.toNat < x0.length) (L43_0 k i0 i1 f (IntKind.i64.wrap (i2 + 1)) (x0.set i2.toNat (V.int IntKind.u8 (IntKind.u8.wrap (i0.fdiv (2 ^ min (IntKind.i64.wrap (8 * i2)).toNat IntKind.u64.bits))))))))) else (some (L43_0_R.e0 i2 x0)))
theorem L43_0_ok {i0 : Int} {i1 : Int} {k : Nat} : ∀ {f : Nat} {i2 : Int} {x0 : List V} {r : L43_0_R}, L43_0 k i0 i1 f i2 x0 = some r →
    LoopsN Try.prog Try.cfg (k + 2) 0 Try.f43 (Try.cfg.fc 43) 0 [0, 1, 4, 5, 10, 11] f { tm := [(0, V.int IntKind.u64 i0), (1, V.int IntKind.i64 i1), (4, V.str []), (5, V.ref 0), (10, V.int IntKind.i64 (↑(List.replicate i1.toNat (V.int IntKind.u8 0)).length : Int)), (11, V.int IntKind.i64 i2)], hp := [(0, Ob.row false 1 x0)], nx := 1 } (L43_0_end i0 i1 r) := by
  intro f
  induction f with
  | zero => intro i2 x0 r h; cases h
  | succ f ih =>
    intro i2 x0 r h
    rw [L43_0] at h
    rcases cond_elim h with ⟨e0, h⟩ | ⟨e0, h⟩
    ·
      obtain ⟨e1, h⟩ := guardP_some.1 h
      obtain ⟨e2, h⟩ := guardP_some.1 h
      obtain ⟨e3, h⟩ := guardP_some.1 h
      exact LoopsN.next (L43_0_b0 i0 i1 i2 x0 k e0 (GrdP.mk e1) (IdxR.mk' e2 rfl) (GrdW.mk ⟨rfl, rfl, e3⟩)) (L43_0_b0h i0 i1 i2 x0) (ih h)
    ·
      cases h; exact LoopsN.done (L43_0_b1 i0 i1 i2 x0 k e0) (fun h => by cases h)
theorem P43_0 (i0 : Int) (i1 : Int) (i2 : Int) (x0 : List V) (k : Nat)
    (c0 : GrdW (0 < 1 ∧ 1 ≤ 64 ∧ (V.int IntKind.u8 0).cells.length = 1 ∧ 0 ≤ i1 ∧ i1 ≤ i1 ∧ i1 ≤ (↑maxLen' : Int)) (V.ref 8) [(8, Ob.row false 1 (List.replicate i1.toNat (V.int IntKind.u8 0)))])
    (c1 : LoopsN Try.prog Try.cfg (k + 2) 0 Try.f43 (Try.cfg.fc 43) 0 [0, 1, 4, 5, 10, 11] (k + 2) { tm := [(0, V.int IntKind.u64 i0), (1, V.int IntKind.i64 i1), (4, V.str []), (5, V.ref 0), (10, V.int IntKind.i64 (↑(List.replicate i1.toNat (V.int IntKind.u8 0)).length : Int)), (11, V.int IntKind.i64 0)], hp := [(0, Ob.row false 1 (List.replicate i1.toNat (V.int IntKind.u8 0)))], nx := 1 } (Exit.exit 0, { tm := [(0, V.int IntKind.u64 i0), (1, V.int IntKind.i64 i1), (4, V.str []), (5, V.ref 0), (10, V.int IntKind.i64 (↑(List.replicate i1.toNat (V.int IntKind.u8 0)).length : Int)), (11, V.int IntKind.i64 i2), (12, V.bool false)], hp := [(0, Ob.row false 1 x0)], nx := 5 }))
    (c2 : GrdW ((1 = 1 ∨ x0.isEmpty = true) ∧ x0.all isByte = true) (V.str (List.map Sym.byteOf x0)) []) :
    callP (evalFn Try.prog Try.cfg (k + 3)) 43 [V.int IntKind.u64 i0, V.int IntKind.i64 i1] = some (V.str (List.map Sym.byteOf x0)) :=
  byF (k := k) (d := 3) [Hn.op 8 (V.ref 8) [(8, Ob.row false 1 (List.replicate i1.toNat (V.int IntKind.u8 0)))], Hn.loop (Exit.exit 0, { tm := [(0, V.int IntKind.u64 i0), (1, V.int IntKind.i64 i1), (4, V.str []), (5, V.ref 0), (10, V.int IntKind.i64 (↑(List.replicate i1.toNat (V.int IntKind.u8 0)).length : Int)), (11, V.int IntKind.i64 i2), (12, V.bool false)], hp := [(0, Ob.row false 1 x0)], nx := 5 }), Hn.op 24 (V.str (List.map Sym.byteOf x0)) []] (And.intro c0 (And.intro c1 (And.intro c2 trivial))) (by kernel_rfl)
def F43 (k : Nat) (i0 : Int) (i1 : Int) : Option (List UInt8) :=
  (guardP (0 ≤ i1 ∧ i1 ≤ i1 ∧ i1 ≤ (↑maxLen' : Int)) ((L43_0 k i0 i1 (k + 2) (0) (List.replicate i1.toNat (V.int IntKind.u8 0))).bind fun
    | L43_0_R.e0 i2 x0 => (guardP (x0.all isByte = true) (some (List.map Sym.byteOf x0)))))
theorem F43_ok {i0 : Int} {i1 : Int} {k : Nat} {r : List UInt8} (h : F43 k i0 i1 = some r) :
    callP (evalFn Try.prog Try.cfg (k + 3)) 43 [V.int IntKind.u64 i0, V.int IntKind.i64 i1] = some (V.str r) := by
  unfold F43 at h
  obtain ⟨e0, h⟩ := guardP_some.1 h
  obtain ⟨ee, e1, h⟩ := Option.bind_eq_some_iff.1 h
  cases ee with
  | e0 i2 x0 =>
    obtain ⟨e2, h⟩ := guardP_some.1 h
    have h := Option.some.inj h; subst h; exact P43_0 i0 i1 i2 x0 k (GrdW.mk ⟨by decide, by decide, rfl, e0⟩) (L43_0_ok e1) (GrdW.mk ⟨(.inl rfl), e2⟩)
theorem P13_0 (i0 : Int) (s0 : List UInt8) (k : Nat)
    (c0 : callP (evalFn Try.prog Try.cfg (k + 5)) 43 [V.int IntKind.u64 i0, V.int IntKind.i64 8] = some (V.str s0)) :
    callP (evalFn Try.prog Try.cfg (k + 6)) 13 [V.int IntKind.u64 i0] = some (V.str s0) :=
  byF (k := k) (d := 6) [Hn.call 4 (V.str s0)] (And.intro c0 trivial) (by kernel_rfl)
def F13 (k : Nat) (i0 : Int) : Option (List UInt8) :=
  ((F43 (k + 2) (i0) (8)).bind fun s0 => (some (s0)))
theorem F13_ok {i0 : Int} {k : Nat} {r : List UInt8} (h : F13 k i0 = some r) :
    callP (evalFn Try.prog Try.cfg (k + 6)) 13 [V.int IntKind.u64 i0] = some (V.str r) := by
  unfold F13 at h
  obtain ⟨s0, e0, h⟩ := Option.bind_eq_some_iff.1 h
  have h := Option.some.inj h; subst h; exact P13_0 i0 s0 k (F43_ok e0)
theorem P15_0 (s0 : List UInt8) (k : Nat)
    (c0 : callP (evalFn Try.prog Try.cfg (k + 8)) 13 [V.int IntKind.u64 258] = some (V.str s0)) :
    callP (evalFn Try.prog Try.cfg (k + 9)) 15 [] = some (V.bool (decide (s0 = [2, 1, 0, 0, 0, 0, 0, 0]))) :=
  byF (k := k) (d := 9) [Hn.call 1 (V.str s0)] (And.intro c0 trivial) (by kernel_rfl)
def F15 (k : Nat) : Option (Bool) :=
  ((F13 (k + 2) (258)).bind fun s0 => (some (decide (s0 = [2, 1, 0, 0, 0, 0, 0, 0]))))
theorem F15_ok {k : Nat} {r : Bool} (h : F15 k = some r) :
    callP (evalFn Try.prog Try.cfg (k + 9)) 15 [] = some (V.bool r) := by
  unfold F15 at h
  obtain ⟨s0, e0, h⟩ := Option.bind_eq_some_iff.1 h
  have h := Option.some.inj h; subst h; exact P15_0 s0 k (F13_ok e0)
theorem L3_1_b0 (i2 : Int) (i3 : Int) (i4 : Int) (i5 : Int) (s1 : List UInt8) (x0 : List V) (k : Nat)
    (c0 : decide (i2 < i3) = true)
    (c1 : IdxR x0.length i3 1 1 (V.ept 12 i3.toNat 0))
    (c2 : LdP Try.prog 5 x0 i3.toNat 0 (V.int IntKind.u8 i4))
    (c3 : IdxR x0.length i2 1 1 (V.ept 12 i2.toNat 0))
    (c4 : LdP Try.prog 5 x0 i2.toNat 0 (V.int IntKind.u8 i5))
    (c5 : IdxR x0.length i2 1 1 (V.ept 12 i2.toNat 0))
    (c6 : GrdW (false = false ∧ (rid (V.int IntKind.u8 i4)).contains 12 = false ∧ i2.toNat < x0.length) (V.tup []) [(12, Ob.row false 1 (x0.set i2.toNat (V.int IntKind.u8 i4)))])
    (c7 : IdxR (x0.set i2.toNat (V.int IntKind.u8 i4)).length i3 1 1 (V.ept 12 i3.toNat 0))
    (c8 : GrdW (false = false ∧ (rid (V.int IntKind.u8 i5)).contains 12 = false ∧ i3.toNat < (x0.set i2.toNat (V.int IntKind.u8 i4)).length) (V.tup []) [(12, Ob.row false 1 ((x0.set i2.toNat (V.int IntKind.u8 i4)).set i3.toNat (V.int IntKind.u8 i5)))]) :
    evalCode Try.prog Try.cfg (evalFn Try.prog Try.cfg (k + 10)) 40 (Try.cfg.fc 14) (k + 10) (loopBody Try.f14 0) { tm := [(0, V.ref 12), (2, V.int IntKind.i64 i2), (3, V.int IntKind.i64 i3)], hp := [(12, Ob.row false 1 x0), (24, Ob.row false 1 (List.map (fun c => V.int IntKind.u8 (↑c.toNat : Int)) s1))], nx := 40 } = some (Exit.normal, { tm := [(0, V.ref 12), (2, V.int IntKind.i64 (IntKind.i64.wrap (i2 + 1))), (3, V.int IntKind.i64 (IntKind.i64.wrap (i3 - 1))), (9, V.bool true)], hp := [(12, Ob.row false 1 ((x0.set i2.toNat (V.int IntKind.u8 i4)).set i3.toNat (V.int IntKind.u8 i5))), (24, Ob.row false 1 (List.map (fun c => V.int IntKind.u8 (↑c.toNat : Int)) s1))], nx := 140 }) :=
  byL (k := k) (d := 10) [Hn.br 9 true, Hn.op 20 (V.ept 12 i3.toNat 0) [], Hn.op 21 (V.int IntKind.u8 i4) [], Hn.op 24 (V.ept 12 i2.toNat 0) [], Hn.op 25 (V.int IntKind.u8 i5) [], Hn.op 26 (V.ept 12 i2.toNat 0) [], Hn.wr 104 (V.tup []) [(12, Ob.row false 1 (x0.set i2.toNat (V.int IntKind.u8 i4)))], Hn.op 27 (V.ept 12 i3.toNat 0) [], Hn.wr 112 (V.tup []) [(12, Ob.row false 1 ((x0.set i2.toNat (V.int IntKind.u8 i4)).set i3.toNat (V.int IntKind.u8 i5)))]] (And.intro c0 (And.intro c1 (And.intro c2 (And.intro c3 (And.intro c4 (And.intro c5 (And.intro c6 (And.intro c7 (And.intro c8 trivial))))))))) (by kernel_rfl)
theorem L3_1_b0h (i2 : Int) (i3 : Int) (i4 : Int) (i5 : Int) (s1 : List UInt8) (x0 : List V) : head 40 [0, 2, 3] (Try.cfg.fc 14).acc { tm := [(0, V.ref 12), (2, V.int IntKind.i64 (IntKind.i64.wrap (i2 + 1))), (3, V.int IntKind.i64 (IntKind.i64.wrap (i3 - 1))), (9, V.bool true)], hp := [(12, Ob.row false 1 ((x0.set i2.toNat (V.int IntKind.u8 i4)).set i3.toNat (V.int IntKind.u8 i5))), (24, Ob.row false 1 (List.map (fun c => V.int IntKind.u8 (↑c.toNat : Int)) s1))], nx := 140 } = { tm := [(0, V.ref 12), (2, V.int IntKind.i64 (IntKind.i64.wrap (i2 + 1))), (3, V.int IntKind.i64 (IntKind.i64.wrap (i3 - 1)))], hp := [(12, Ob.row false 1 ((x0.set i2.toNat (V.int IntKind.u8 i4)).set i3.toNat (V.int IntKind.u8 i5))), (24, Ob.row false 1 (List.map (fun c => V.int IntKind.u8 (↑c.toNat : Int)) s1))], nx := 40 } := by kernel_rfl
theorem L3_1_b1 (i2 : Int) (i3 : Int) (s1 : List UInt8) (x0 : List V) (k : Nat)
    (c0 : decide (i2 < i3) = false) :
    evalCode Try.prog Try.cfg (evalFn Try.prog Try.cfg (k + 10)) 40 (Try.cfg.fc 14) (k + 10) (loopBody Try.f14 0) { tm := [(0, V.ref 12), (2, V.int IntKind.i64 i2), (3, V.int IntKind.i64 i3)], hp := [(12, Ob.row false 1 x0), (24, Ob.row false 1 (List.map (fun c => V.int IntKind.u8 (↑c.toNat : Int)) s1))], nx := 40 } = some (Exit.exit 0, { tm := [(0, V.ref 12), (2, V.int IntKind.i64 i2), (3, V.int IntKind.i64 i3), (9, V.bool false)], hp := [(12, Ob.row false 1 x0), (24, Ob.row false 1 (List.map (fun c => V.int IntKind.u8 (↑c.toNat : Int)) s1))], nx := 52 }) :=
  byL (k := k) (d := 10) [Hn.br 9 false] (And.intro c0 trivial) (by kernel_rfl)
inductive L3_1_R where
  | e0 (i2 : Int) (i3 : Int) (x0 : List V)
noncomputable def L3_1_end (s1 : List UInt8) : L3_1_R → Exit × St
  | .e0 i2 i3 x0 => (Exit.exit 0, { tm := [(0, V.ref 12), (2, V.int IntKind.i64 i2), (3, V.int IntKind.i64 i3), (9, V.bool false)], hp := [(12, Ob.row false 1 x0), (24, Ob.row false 1 (List.map (fun c => V.int IntKind.u8 (↑c.toNat : Int)) s1))], nx := 52 })
def L3_1 (k : Nat) (s1 : List UInt8) : Nat → Int → Int → List V → Option L3_1_R
  | 0, _, _, _ => none
  | f + 1, i2, i3, x0 => (bif decide (i2 < i3) then (guardP (0 ≤ i3 ∧ i3 < (↑x0.length : Int)) ((((x0)[i3.toNat]?).bind (dI IntKind.u8)).bind fun i4 => (guardP (0 ≤ i2 ∧ i2 < (↑x0.length : Int)) ((((x0)[i2.toNat]?).bind (dI IntKind.u8)).bind fun i5 => (guardP (i2.toNat < x0.length) (guardP (0 ≤ i3 ∧ i3 < (↑(x0.set i2.toNat (V.int IntKind.u8 i4)).length : Int)) (guardP (i3.toNat < (x0.set i2.toNat (V.int IntKind.u8 i4)).length) (L3_1 k s1 f (IntKind.i64.wrap (i2 + 1)) (IntKind.i64.wrap (i3 - 1)) ((x0.set i2.toNat (V.int IntKind.u8 i4)).set i3.toNat (V.int IntKind.u8 i5)))))))))) else (some (L3_1_R.e0 i2 i3 x0)))
theorem L3_1_ok {s1 : List UInt8} {k : Nat} : ∀ {f : Nat} {i2 : Int} {i3 : Int} {x0 : List V} {r : L3_1_R}, L3_1 k s1 f i2 i3 x0 = some r →
    LoopsN Try.prog Try.cfg (k + 10) 40 Try.f14 (Try.cfg.fc 14) 0 [0, 2, 3] f { tm := [(0, V.ref 12), (2, V.int IntKind.i64 i2), (3, V.int IntKind.i64 i3)], hp := [(12, Ob.row false 1 x0), (24, Ob.row false 1 (List.map (fun c => V.int IntKind.u8 (↑c.toNat : Int)) s1))], nx := 40 } (L3_1_end s1 r) := by
  intro f
  induction f with
  | zero => intro i2 i3 x0 r h; cases h
  | succ f ih =>
    intro i2 i3 x0 r h
    rw [L3_1] at h
    rcases cond_elim h with ⟨e0, h⟩ | ⟨e0, h⟩
    ·
      obtain ⟨e1, h⟩ := guardP_some.1 h
      obtain ⟨i4, e2, h⟩ := Option.bind_eq_some_iff.1 h
      obtain ⟨e3, h⟩ := guardP_some.1 h
      obtain ⟨i5, e4, h⟩ := Option.bind_eq_some_iff.1 h
      obtain ⟨e5, h⟩ := guardP_some.1 h
      obtain ⟨e6, h⟩ := guardP_some.1 h
      obtain ⟨e7, h⟩ := guardP_some.1 h
      exact LoopsN.next (L3_1_b0 i2 i3 i4 i5 s1 x0 k e0 (IdxR.mk' e1 rfl) (LdP.mk (get_d dI_ok e2) (by kernel_rfl)) (IdxR.mk' e3 rfl) (LdP.mk (get_d dI_ok e4) (by kernel_rfl)) (IdxR.mk' e3 rfl) (GrdW.mk ⟨rfl, rfl, e5⟩) (IdxR.mk' e6 rfl) (GrdW.mk ⟨rfl, rfl, e7⟩)) (L3_1_b0h i2 i3 i4 i5 s1 x0) (ih h)
    ·
      cases h; exact LoopsN.done (L3_1_b1 i2 i3 s1 x0 k e0) (fun h => by cases h)
theorem L3_2_b0 (i4 : Int) (i5 : Int) (i6 : Int) (i7 : Int) (x0 : List V) (x1 : List V) (k : Nat)
    (c0 : decide (i4 < i5) = true)
    (c1 : IdxR x1.length i5 1 1 (V.ept 24 i5.toNat 0))
    (c2 : LdP Try.prog 5 x1 i5.toNat 0 (V.int IntKind.u8 i6))
    (c3 : IdxR x1.length i4 1 1 (V.ept 24 i4.toNat 0))
    (c4 : LdP Try.prog 5 x1 i4.toNat 0 (V.int IntKind.u8 i7))
    (c5 : IdxR x1.length i4 1 1 (V.ept 24 i4.toNat 0))
    (c6 : GrdW (false = false ∧ (rid (V.int IntKind.u8 i6)).contains 24 = false ∧ i4.toNat < x1.length) (V.tup []) [(24, Ob.row false 1 (x1.set i4.toNat (V.int IntKind.u8 i6)))])
    (c7 : IdxR (x1.set i4.toNat (V.int IntKind.u8 i6)).length i5 1 1 (V.ept 24 i5.toNat 0))
    (c8 : GrdW (false = false ∧ (rid (V.int IntKind.u8 i7)).contains 24 = false ∧ i5.toNat < (x1.set i4.toNat (V.int IntKind.u8 i6)).length) (V.tup []) [(24, Ob.row false 1 ((x1.set i4.toNat (V.int IntKind.u8 i6)).set i5.toNat (V.int IntKind.u8 i7)))]) :
    evalCode Try.prog Try.cfg (evalFn Try.prog Try.cfg (k + 10)) 56 (Try.cfg.fc 14) (k + 10) (loopBody Try.f14 0) { tm := [(0, V.ref 24), (2, V.int IntKind.i64 i4), (3, V.int IntKind.i64 i5)], hp := [(12, Ob.row false 1 x0), (24, Ob.row false 1 x1)], nx := 56 } = some (Exit.normal, { tm := [(0, V.ref 24), (2, V.int IntKind.i64 (IntKind.i64.wrap (i4 + 1))), (3, V.int IntKind.i64 (IntKind.i64.wrap (i5 - 1))), (9, V.bool true)], hp := [(12, Ob.row false 1 x0), (24, Ob.row false 1 ((x1.set i4.toNat (V.int IntKind.u8 i6)).set i5.toNat (V.int IntKind.u8 i7)))], nx := 156 }) :=
  byL (k := k) (d := 10) [Hn.br 9 true, Hn.op 20 (V.ept 24 i5.toNat 0) [], Hn.op 21 (V.int IntKind.u8 i6) [], Hn.op 24 (V.ept 24 i4.toNat 0) [], Hn.op 25 (V.int IntKind.u8 i7) [], Hn.op 26 (V.ept 24 i4.toNat 0) [], Hn.wr 120 (V.tup []) [(24, Ob.row false 1 (x1.set i4.toNat (V.int IntKind.u8 i6)))], Hn.op 27 (V.ept 24 i5.toNat 0) [], Hn.wr 128 (V.tup []) [(24, Ob.row false 1 ((x1.set i4.toNat (V.int IntKind.u8 i6)).set i5.toNat (V.int IntKind.u8 i7)))]] (And.intro c0 (And.intro c1 (And.intro c2 (And.intro c3 (And.intro c4 (And.intro c5 (And.intro c6 (And.intro c7 (And.intro c8 trivial))))))))) (by kernel_rfl)
theorem L3_2_b0h (i4 : Int) (i5 : Int) (i6 : Int) (i7 : Int) (x0 : List V) (x1 : List V) : head 56 [0, 2, 3] (Try.cfg.fc 14).acc { tm := [(0, V.ref 24), (2, V.int IntKind.i64 (IntKind.i64.wrap (i4 + 1))), (3, V.int IntKind.i64 (IntKind.i64.wrap (i5 - 1))), (9, V.bool true)], hp := [(12, Ob.row false 1 x0), (24, Ob.row false 1 ((x1.set i4.toNat (V.int IntKind.u8 i6)).set i5.toNat (V.int IntKind.u8 i7)))], nx := 156 } = { tm := [(0, V.ref 24), (2, V.int IntKind.i64 (IntKind.i64.wrap (i4 + 1))), (3, V.int IntKind.i64 (IntKind.i64.wrap (i5 - 1)))], hp := [(12, Ob.row false 1 x0), (24, Ob.row false 1 ((x1.set i4.toNat (V.int IntKind.u8 i6)).set i5.toNat (V.int IntKind.u8 i7)))], nx := 56 } := by kernel_rfl
theorem L3_2_b1 (i4 : Int) (i5 : Int) (x0 : List V) (x1 : List V) (k : Nat)
    (c0 : decide (i4 < i5) = false) :
    evalCode Try.prog Try.cfg (evalFn Try.prog Try.cfg (k + 10)) 56 (Try.cfg.fc 14) (k + 10) (loopBody Try.f14 0) { tm := [(0, V.ref 24), (2, V.int IntKind.i64 i4), (3, V.int IntKind.i64 i5)], hp := [(12, Ob.row false 1 x0), (24, Ob.row false 1 x1)], nx := 56 } = some (Exit.exit 0, { tm := [(0, V.ref 24), (2, V.int IntKind.i64 i4), (3, V.int IntKind.i64 i5), (9, V.bool false)], hp := [(12, Ob.row false 1 x0), (24, Ob.row false 1 x1)], nx := 68 }) :=
  byL (k := k) (d := 10) [Hn.br 9 false] (And.intro c0 trivial) (by kernel_rfl)
inductive L3_2_R where
  | e0 (i4 : Int) (i5 : Int) (x1 : List V)
noncomputable def L3_2_end (x0 : List V) : L3_2_R → Exit × St
  | .e0 i4 i5 x1 => (Exit.exit 0, { tm := [(0, V.ref 24), (2, V.int IntKind.i64 i4), (3, V.int IntKind.i64 i5), (9, V.bool false)], hp := [(12, Ob.row false 1 x0), (24, Ob.row false 1 x1)], nx := 68 })
def L3_2 (k : Nat) (x0 : List V) : Nat → Int → Int → List V → Option L3_2_R
  | 0, _, _, _ => none
  | f + 1, i4, i5, x1 => (bif decide (i4 < i5) then (guardP (0 ≤ i5 ∧ i5 < (↑x1.length : Int)) ((((x1)[i5.toNat]?).bind (dI IntKind.u8)).bind fun i6 => (guardP (0 ≤ i4 ∧ i4 < (↑x1.length : Int)) ((((x1)[i4.toNat]?).bind (dI IntKind.u8)).bind fun i7 => (guardP (i4.toNat < x1.length) (guardP (0 ≤ i5 ∧ i5 < (↑(x1.set i4.toNat (V.int IntKind.u8 i6)).length : Int)) (guardP (i5.toNat < (x1.set i4.toNat (V.int IntKind.u8 i6)).length) (L3_2 k x0 f (IntKind.i64.wrap (i4 + 1)) (IntKind.i64.wrap (i5 - 1)) ((x1.set i4.toNat (V.int IntKind.u8 i6)).set i5.toNat (V.int IntKind.u8 i7)))))))))) else (some (L3_2_R.e0 i4 i5 x1)))
theorem L3_2_ok {x0 : List V} {k : Nat} : ∀ {f : Nat} {i4 : Int} {i5 : Int} {x1 : List V} {r : L3_2_R}, L3_2 k x0 f i4 i5 x1 = some r →
    LoopsN Try.prog Try.cfg (k + 10) 56 Try.f14 (Try.cfg.fc 14) 0 [0, 2, 3] f { tm := [(0, V.ref 24), (2, V.int IntKind.i64 i4), (3, V.int IntKind.i64 i5)], hp := [(12, Ob.row false 1 x0), (24, Ob.row false 1 x1)], nx := 56 } (L3_2_end x0 r) := by
  intro f
  induction f with
  | zero => intro i4 i5 x1 r h; cases h
  | succ f ih =>
    intro i4 i5 x1 r h
    rw [L3_2] at h
    rcases cond_elim h with ⟨e0, h⟩ | ⟨e0, h⟩
    ·
      obtain ⟨e1, h⟩ := guardP_some.1 h
      obtain ⟨i6, e2, h⟩ := Option.bind_eq_some_iff.1 h
      obtain ⟨e3, h⟩ := guardP_some.1 h
      obtain ⟨i7, e4, h⟩ := Option.bind_eq_some_iff.1 h
      obtain ⟨e5, h⟩ := guardP_some.1 h
      obtain ⟨e6, h⟩ := guardP_some.1 h
      obtain ⟨e7, h⟩ := guardP_some.1 h
      exact LoopsN.next (L3_2_b0 i4 i5 i6 i7 x0 x1 k e0 (IdxR.mk' e1 rfl) (LdP.mk (get_d dI_ok e2) (by kernel_rfl)) (IdxR.mk' e3 rfl) (LdP.mk (get_d dI_ok e4) (by kernel_rfl)) (IdxR.mk' e3 rfl) (GrdW.mk ⟨rfl, rfl, e5⟩) (IdxR.mk' e6 rfl) (GrdW.mk ⟨rfl, rfl, e7⟩)) (L3_2_b0h i4 i5 i6 i7 x0 x1) (ih h)
    ·
      cases h; exact LoopsN.done (L3_2_b1 i4 i5 x0 x1 k e0) (fun h => by cases h)
theorem P3_0 (i0 : Int) (i1 : Int) (i2 : Int) (i3 : Int) (i4 : Int) (i5 : Int) (b0 : Bool) (s0 : List UInt8) (s1 : List UInt8) (x0 : List V) (x1 : List V) (k : Nat)
    (c0 : callP (evalFn Try.prog Try.cfg (k + 11)) 13 [V.int IntKind.u64 i0] = some (V.str s0))
    (c1 : GrdW (s0.length ≤ maxLen' ∧ 1 = 1) (V.ref 12) [(12, Ob.row false 1 (List.map (fun c => V.int IntKind.u8 (↑c.toNat : Int)) s0))])
    (c2 : callP (evalFn Try.prog Try.cfg (k + 11)) 13 [V.int IntKind.u64 i1] = some (V.str s1))
    (c3 : GrdW (s1.length ≤ maxLen' ∧ 1 = 1) (V.ref 24) [(24, Ob.row false 1 (List.map (fun c => V.int IntKind.u8 (↑c.toNat : Int)) s1))])
    (c4 : LoopsN Try.prog Try.cfg (k + 10) 40 Try.f14 (Try.cfg.fc 14) 0 [0, 2, 3] (k + 10) { tm := [(0, V.ref 12), (2, V.int IntKind.i64 0), (3, V.int IntKind.i64 (IntKind.i64.wrap ((↑(List.map (fun c => V.int IntKind.u8 (↑c.toNat : Int)) s0).length : Int) - 1)))], hp := [(12, Ob.row false 1 (List.map (fun c => V.int IntKind.u8 (↑c.toNat : Int)) s0)), (24, Ob.row false 1 (List.map (fun c => V.int IntKind.u8 (↑c.toNat : Int)) s1))], nx := 40 } (Exit.exit 0, { tm := [(0, V.ref 12), (2, V.int IntKind.i64 i2), (3, V.int IntKind.i64 i3), (9, V.bool false)], hp := [(12, Ob.row false 1 x0), (24, Ob.row false 1 (List.map (fun c => V.int IntKind.u8 (↑c.toNat : Int)) s1))], nx := 52 }))
    (c5 : LoopsN Try.prog Try.cfg (k + 10) 56 Try.f14 (Try.cfg.fc 14) 0 [0, 2, 3] (k + 10) { tm := [(0, V.ref 24), (2, V.int IntKind.i64 0), (3, V.int IntKind.i64 (IntKind.i64.wrap ((↑(List.map (fun c => V.int IntKind.u8 (↑c.toNat : Int)) s1).length : Int) - 1)))], hp := [(12, Ob.row false 1 x0), (24, Ob.row false 1 (List.map (fun c => V.int IntKind.u8 (↑c.toNat : Int)) s1))], nx := 56 } (Exit.exit 0, { tm := [(0, V.ref 24), (2, V.int IntKind.i64 i4), (3, V.int IntKind.i64 i5), (9, V.bool false)], hp := [(12, Ob.row false 1 x0), (24, Ob.row false 1 x1)], nx := 68 }))
    (c6 : callP (evalFn Try.prog Try.cfg (k + 11)) 15 [] = some (V.bool b0))
    (c7 : b0 = true)
    (c8 : decide ((↑x0.length : Int) = 8) = true)
    (c9 : decide ((↑x1.length : Int) = 8) = true)
    (c10 : GrdW ((1 = 1 ∨ x0.isEmpty = true) ∧ x0.all isByte = true) (V.str (List.map Sym.byteOf x0)) [])
    (c11 : GrdW ((1 = 1 ∨ x1.isEmpty = true) ∧ x1.all isByte = true) (V.str (List.map Sym.byteOf x1)) [])
    (c12 : decide (decide (i0 < i1) = Op.bytesLess (List.map Sym.byteOf x0) (List.map Sym.byteOf x1)) = true)
    (c13 : GrdW ((1 = 1 ∨ x0.isEmpty = true) ∧ x0.all isByte = true) (V.str (List.map Sym.byteOf x0)) [])
    (c14 : GrdW ((1 = 1 ∨ x1.isEmpty = true) ∧ x1.all isByte = true) (V.str (List.map Sym.byteOf x1)) []) :
    callP (evalFn Try.prog Try.cfg (k + 12)) 3 [V.int IntKind.u64 i0, V.int IntKind.u64 i1] = some (V.bool (decide (decide (i0 = i1) = decide (List.map Sym.byteOf x0 = List.map Sym.byteOf x1)))) :=
  byF (k := k) (d := 12) [Hn.call 8 (V.str s0), Hn.op 9 (V.ref 12) [(12, Ob.row false 1 (List.map (fun c => V.int IntKind.u8 (↑c.toNat : Int)) s0))], Hn.call 11 (V.str s1), Hn.op 12 (V.ref 24) [(24, Ob.row false 1 (List.map (fun c => V.int IntKind.u8 (↑c.toNat : Int)) s1))], Hn.enter, Hn.loop (Exit.exit 0, { tm := [(0, V.ref 12), (2, V.int IntKind.i64 i2), (3, V.int IntKind.i64 i3), (9, V.bool false)], hp := [(12, Ob.row false 1 x0), (24, Ob.row false 1 (List.map (fun c => V.int IntKind.u8 (↑c.toNat : Int)) s1))], nx := 52 }), Hn.enter, Hn.loop (Exit.exit 0, { tm := [(0, V.ref 24), (2, V.int IntKind.i64 i4), (3, V.int IntKind.i64 i5), (9, V.bool false)], hp := [(12, Ob.row false 1 x0), (24, Ob.row false 1 x1)], nx := 68 }), Hn.call 17 (V.bool b0), Hn.br 18 true, Hn.br 23 true, Hn.br 28 true, Hn.op 33 (V.str (List.map Sym.byteOf x0)) [], Hn.op 35 (V.str (List.map Sym.byteOf x1)) [], Hn.br 39 true, Hn.op 44 (V.str (List.map Sym.byteOf x0)) [], Hn.op 46 (V.str (List.map Sym.byteOf x1)) []] (And.intro c0 (And.intro c1 (And.intro c2 (And.intro c3 (And.intro c4 (And.intro c5 (And.intro c6 (And.intro c7 (And.intro c8 (And.intro c9 (And.intro c10 (And.intro c11 (And.intro c12 (And.intro c13 (And.intro c14 trivial))))))))))))))) (by kernel_rfl)
theorem P3_1 (i0 : Int) (i1 : Int) (i2 : Int) (i3 : Int) (i4 : Int) (i5 : Int) (b0 : Bool) (s0 : List UInt8) (s1 : List UInt8) (x0 : List V) (x1 : List V) (k : Nat)
    (c0 : callP (evalFn Try.prog Try.cfg (k + 11)) 13 [V.int IntKind.u64 i0] = some (V.str s0))
    (c1 : GrdW (s0.length ≤ maxLen' ∧ 1 = 1) (V.ref 12) [(12, Ob.row false 1 (List.map (fun c => V.int IntKind.u8 (↑c.toNat : Int)) s0))])
    (c2 : callP (evalFn Try.prog Try.cfg (k + 11)) 13 [V.int IntKind.u64 i1] = some (V.str s1))
    (c3 : GrdW (s1.length ≤ maxLen' ∧ 1 = 1) (V.ref 24) [(24, Ob.row false 1 (List.map (fun c => V.int IntKind.u8 (↑c.toNat : Int)) s1))])
    (c4 : LoopsN Try.prog Try.cfg (k + 10) 40 Try.f14 (Try.cfg.fc 14) 0 [0, 2, 3] (k + 10) { tm := [(0, V.ref 12), (2, V.int IntKind.i64 0), (3, V.int IntKind.i64 (IntKind.i64.wrap ((↑(List.map (fun c => V.int IntKind.u8 (↑c.toNat : Int)) s0).length : Int) - 1)))], hp := [(12, Ob.row false 1 (List.map (fun c => V.int IntKind.u8 (↑c.toNat : Int)) s0)), (24, Ob.row false 1 (List.map (fun c => V.int IntKind.u8 (↑c.toNat : Int)) s1))], nx := 40 } (Exit.exit 0, { tm := [(0, V.ref 12), (2, V.int IntKind.i64 i2), (3, V.int IntKind.i64 i3), (9, V.bool false)], hp := [(12, Ob.row false 1 x0), (24, Ob.row false 1 (List.map (fun c => V.int IntKind.u8 (↑c.toNat : Int)) s1))], nx := 52 }))
    (c5 : LoopsN Try.prog Try.cfg (k + 10) 56 Try.f14 (Try.cfg.fc 14) 0 [0, 2, 3] (k + 10) { tm := [(0, V.ref 24), (2, V.int IntKind.i64 0), (3, V.int IntKind.i64 (IntKind.i64.wrap ((↑(List.map (fun c => V.int IntKind.u8 (↑c.toNat : Int)) s1).length : Int) - 1)))], hp := [(12, Ob.row false 1 x0), (24, Ob.row false 1 (List.map (fun c => V.int IntKind.u8 (↑c.toNat : Int)) s1))], nx := 56 } (Exit.exit 0, { tm := [(0, V.ref 24), (2, V.int IntKind.i64 i4), (3, V.int IntKind.i64 i5), (9, V.bool false)], hp := [(12, Ob.row false 1 x0), (24, Ob.row false 1 x1)], nx := 68 }))
    (c6 : callP (evalFn Try.prog Try.cfg (k + 11)) 15 [] = some (V.bool b0))
    (c7 : b0 = true)
    (c8 : decide ((↑x0.length : Int) = 8) = true)
    (c9 : decide ((↑x1.length : Int) = 8) = true)
    (c10 : GrdW ((1 = 1 ∨ x0.isEmpty = true) ∧ x0.all isByte = true) (V.str (List.map Sym.byteOf x0)) [])
    (c11 : GrdW ((1 = 1 ∨ x1.isEmpty = true) ∧ x1.all isByte = true) (V.str (List.map Sym.byteOf x1)) [])
    (c12 : decide (decide (i0 < i1) = Op.bytesLess (List.map Sym.byteOf x0) (List.map Sym.byteOf x1)) = false) :
    callP (evalFn Try.prog Try.cfg (k + 12)) 3 [V.int IntKind.u64 i0, V.int IntKind.u64 i1] = some (V.bool false) :=
  byF (k := k) (d := 12) [Hn.call 8 (V.str s0), Hn.op 9 (V.ref 12) [(12, Ob.row false 1 (List.map (fun c => V.int IntKind.u8 (↑c.toNat : Int)) s0))], Hn.call 11 (V.str s1), Hn.op 12 (V.ref 24) [(24, Ob.row false 1 (List.map (fun c => V.int IntKind.u8 (↑c.toNat : Int)) s1))], Hn.enter, Hn.loop (Exit.exit 0, { tm := [(0, V.ref 12), (2, V.int IntKind.i64 i2), (3, V.int IntKind.i64 i3), (9, V.bool false)], hp := [(12, Ob.row false 1 x0), (24, Ob.row false 1 (List.map (fun c => V.int IntKind.u8 (↑c.toNat : Int)) s1))], nx := 52 }), Hn.enter, Hn.loop (Exit.exit 0, { tm := [(0, V.ref 24), (2, V.int IntKind.i64 i4), (3, V.int IntKind.i64 i5), (9, V.bool false)], hp := [(12, Ob.row false 1 x0), (24, Ob.row false 1 x1)], nx := 68 }), Hn.call 17 (V.bool b0), Hn.br 18 true, Hn.br 23 true, Hn.br 28 true, Hn.op 33 (V.str (List.map Sym.byteOf x0)) [], Hn.op 35 (V.str (List.map Sym.byteOf x1)) [], Hn.br 39 false] (And.intro c0 (And.intro c1 (And.intro c2 (And.intro c3 (And.intro c4 (And.intro c5 (And.intro c6 (And.intro c7 (And.intro c8 (And.intro c9 (And.intro c10 (And.intro c11 (And.intro c12 trivial))))))))))))) (by kernel_rfl)
theorem P3_2 (i0 : Int) (i1 : Int) (i2 : Int) (i3 : Int) (i4 : Int) (i5 : Int) (b0 : Bool) (s0 : List UInt8) (s1 : List UInt8) (x0 : List V) (x1 : List V) (k : Nat)
    (c0 : callP (evalFn Try.prog Try.cfg (k + 11)) 13 [V.int IntKind.u64 i0] = some (V.str s0))
    (c1 : GrdW (s0.length ≤ maxLen' ∧ 1 = 1) (V.ref 12) [(12, Ob.row false 1 (List.map (fun c => V.int IntKind.u8 (↑c.toNat : Int)) s0))])
    (c2 : callP (evalFn Try.prog Try.cfg (k + 11)) 13 [V.int IntKind.u64 i1] = some (V.str s1))
    (c3 : GrdW (s1.length ≤ maxLen' ∧ 1 = 1) (V.ref 24) [(24, Ob.row false 1 (List.map (fun c => V.int IntKind.u8 (↑c.toNat : Int)) s1))])
    (c4 : LoopsN Try.prog Try.cfg (k + 10) 40 Try.f14 (Try.cfg.fc 14) 0 [0, 2, 3] (k + 10) { tm := [(0, V.ref 12), (2, V.int IntKind.i64 0), (3, V.int IntKind.i64 (IntKind.i64.wrap ((↑(List.map (fun c => V.int IntKind.u8 (↑c.toNat : Int)) s0).length : Int) - 1)))], hp := [(12, Ob.row false 1 (List.map (fun c => V.int IntKind.u8 (↑c.toNat : Int)) s0)), (24, Ob.row false 1 (List.map (fun c => V.int IntKind.u8 (↑c.toNat : Int)) s1))], nx := 40 } (Exit.exit 0, { tm := [(0, V.ref 12), (2, V.int IntKind.i64 i2), (3, V.int IntKind.i64 i3), (9, V.bool false)], hp := [(12, Ob.row false 1 x0), (24, Ob.row false 1 (List.map (fun c => V.int IntKind.u8 (↑c.toNat : Int)) s1))], nx := 52 }))
    (c5 : LoopsN Try.prog Try.cfg (k + 10) 56 Try.f14 (Try.cfg.fc 14) 0 [0, 2, 3] (k + 10) { tm := [(0, V.ref 24), (2, V.int IntKind.i64 0), (3, V.int IntKind.i64 (IntKind.i64.wrap ((↑(List.map (fun c => V.int IntKind.u8 (↑c.toNat : Int)) s1).length : Int) - 1)))], hp := [(12, Ob.row false 1 x0), (24, Ob.row false 1 (List.map (fun c => V.int IntKind.u8 (↑c.toNat : Int)) s1))], nx := 56 } (Exit.exit 0, { tm := [(0, V.ref 24), (2, V.int IntKind.i64 i4), (3, V.int IntKind.i64 i5), (9, V.bool false)], hp := [(12, Ob.row false 1 x0), (24, Ob.row false 1 x1)], nx := 68 }))
    (c6 : callP (evalFn Try.prog Try.cfg (k + 11)) 15 [] = some (V.bool b0))
    (c7 : b0 = true)
    (c8 : decide ((↑x0.length : Int) = 8) = true)
    (c9 : decide ((↑x1.length : Int) = 8) = false) :
    callP (evalFn Try.prog Try.cfg (k + 12)) 3 [V.int IntKind.u64 i0, V.int IntKind.u64 i1] = some (V.bool false) :=
  byF (k := k) (d := 12) [Hn.call 8 (V.str s0), Hn.op 9 (V.ref 12) [(12, Ob.row false 1 (List.map (fun c => V.int IntKind.u8 (↑c.toNat : Int)) s0))], Hn.call 11 (V.str s1), Hn.op 12 (V.ref 24) [(24, Ob.row false 1 (List.map (fun c => V.int IntKind.u8 (↑c.toNat : Int)) s1))], Hn.enter, Hn.loop (Exit.exit 0, { tm := [(0, V.ref 12), (2, V.int IntKind.i64 i2), (3, V.int IntKind.i64 i3), (9, V.bool false)], hp := [(12, Ob.row false 1 x0), (24, Ob.row false 1 (List.map (fun c => V.int IntKind.u8 (↑c.toNat : Int)) s1))], nx := 52 }), Hn.enter, Hn.loop (Exit.exit 0, { tm := [(0, V.ref 24), (2, V.int IntKind.i64 i4), (3, V.int IntKind.i64 i5), (9, V.bool false)], hp := [(12, Ob.row false 1 x0), (24, Ob.row false 1 x1)], nx := 68 }), Hn.call 17 (V.bool b0), Hn.br 18 true, Hn.br 23 true, Hn.br 28 false] (And.intro c0 (And.intro c1 (And.intro c2 (And.intro c3 (And.intro c4 (And.intro c5 (And.intro c6 (And.intro c7 (And.intro c8 (And.intro c9 trivial)))))))))) (by kernel_rfl)
theorem P3_3 (i0 : Int) (i1 : Int) (i2 : Int) (i3 : Int) (i4 : Int) (i5 : Int) (b0 : Bool) (s0 : List UInt8) (s1 : List UInt8) (x0 : List V) (x1 : List V) (k : Nat)
    (c0 : callP (evalFn Try.prog Try.cfg (k + 11)) 13 [V.int IntKind.u64 i0] = some (V.str s0))
    (c1 : GrdW (s0.length ≤ maxLen' ∧ 1 = 1) (V.ref 12) [(12, Ob.row false 1 (List.map (fun c => V.int IntKind.u8 (↑c.toNat : Int)) s0))])
    (c2 : callP (evalFn Try.prog Try.cfg (k + 11)) 13 [V.int IntKind.u64 i1] = some (V.str s1))
    (c3 : GrdW (s1.length ≤ maxLen' ∧ 1 = 1) (V.ref 24) [(24, Ob.row false 1 (List.map (fun c => V.int IntKind.u8 (↑c.toNat : Int)) s1))])
    (c4 : LoopsN Try.prog Try.cfg (k + 10) 40 Try.f14 (Try.cfg.fc 14) 0 [0, 2, 3] (k + 10) { tm := [(0, V.ref 12), (2, V.int IntKind.i64 0), (3, V.int IntKind.i64 (IntKind.i64.wrap ((↑(List.map (fun c => V.int IntKind.u8 (↑c.toNat : Int)) s0).length : Int) - 1)))], hp := [(12, Ob.row false 1 (List.map (fun c => V.int IntKind.u8 (↑c.toNat : Int)) s0)), (24, Ob.row false 1 (List.map (fun c => V.int IntKind.u8 (↑c.toNat : Int)) s1))], nx := 40 } (Exit.exit 0, { tm := [(0, V.ref 12), (2, V.int IntKind.i64 i2), (3, V.int IntKind.i64 i3), (9, V.bool false)], hp := [(12, Ob.row false 1 x0), (24, Ob.row false 1 (List.map (fun c => V.int IntKind.u8 (↑c.toNat : Int)) s1))], nx := 52 }))
    (c5 : LoopsN Try.prog Try.cfg (k + 10) 56 Try.f14 (Try.cfg.fc 14) 0 [0, 2, 3] (k + 10) { tm := [(0, V.ref 24), (2, V.int IntKind.i64 0), (3, V.int IntKind.i64 (IntKind.i64.wrap ((↑(List.map (fun c => V.int IntKind.u8 (↑c.toNat : Int)) s1).length : Int) - 1)))], hp := [(12, Ob.row false 1 x0), (24, Ob.row false 1 (List.map (fun c => V.int IntKind.u8 (↑c.toNat : Int)) s1))], nx := 56 } (Exit.exit 0, { tm := [(0, V.ref 24), (2, V.int IntKind.i64 i4), (3, V.int IntKind.i64 i5), (9, V.bool false)], hp := [(12, Ob.row false 1 x0), (24, Ob.row false 1 x1)], nx := 68 }))
    (c6 : callP (evalFn Try.prog Try.cfg (k + 11)) 15 [] = some (V.bool b0))
    (c7 : b0 = true)
    (c8 : decide ((↑x0.length : Int) = 8) = false) :
    callP (evalFn Try.prog Try.cfg (k + 12)) 3 [V.int IntKind.u64 i0, V.int IntKind.u64 i1] = some (V.bool false) :=
  byF (k := k) (d := 12) [Hn.call 8 (V.str s0), Hn.op 9 (V.ref 12) [(12, Ob.row false 1 (List.map (fun c => V.int IntKind.u8 (↑c.toNat : Int)) s0))], Hn.call 11 (V.str s1), Hn.op 12 (V.ref 24) [(24, Ob.row false 1 (List.map (fun c => V.int IntKind.u8 (↑c.toNat : Int)) s1))], Hn.enter, Hn.loop (Exit.exit 0, { tm := [(0, V.ref 12), (2, V.int IntKind.i64 i2), (3, V.int IntKind.i64 i3), (9, V.bool false)], hp := [(12, Ob.row false 1 x0), (24, Ob.row false 1 (List.map (fun c => V.int IntKind.u8 (↑c.toNat : Int)) s1))], nx := 52 }), Hn.enter, Hn.loop (Exit.exit 0, { tm := [(0, V.ref 24), (2, V.int IntKind.i64 i4), (3, V.int IntKind.i64 i5), (9, V.bool false)], hp := [(12, Ob.row false 1 x0), (24, Ob.row false 1 x1)], nx := 68 }), Hn.call 17 (V.bool b0), Hn.br 18 true, Hn.br 23 false] (And.intro c0 (And.intro c1 (And.intro c2 (And.intro c3 (And.intro c4 (And.intro c5 (And.intro c6 (And.intro c7 (And.intro c8 trivial))))))))) (by kernel_rfl)
theorem P3_4 (i0 : Int) (i1 : Int) (i2 : Int) (i3 : Int) (i4 : Int) (i5 : Int) (b0 : Bool) (s0 : List UInt8) (s1 : List UInt8) (x0 : List V) (x1 : List V) (k : Nat)
    (c0 : callP (evalFn Try.prog Try.cfg (k + 11)) 13 [V.int IntKind.u64 i0] = some (V.str s0))
    (c1 : GrdW (s0.length ≤ maxLen' ∧ 1 = 1) (V.ref 12) [(12, Ob.row false 1 (List.map (fun c => V.int IntKind.u8 (↑c.toNat : Int)) s0))])
    (c2 : callP (evalFn Try.prog Try.cfg (k + 11)) 13 [V.int IntKind.u64 i1] = some (V.str s1))
    (c3 : GrdW (s1.length ≤ maxLen' ∧ 1 = 1) (V.ref 24) [(24, Ob.row false 1 (List.map (fun c => V.int IntKind.u8 (↑c.toNat : Int)) s1))])
    (c4 : LoopsN Try.prog Try.cfg (k + 10) 40 Try.f14 (Try.cfg.fc 14) 0 [0, 2, 3] (k + 10) { tm := [(0, V.ref 12), (2, V.int IntKind.i64 0), (3, V.int IntKind.i64 (IntKind.i64.wrap ((↑(List.map (fun c => V.int IntKind.u8 (↑c.toNat : Int)) s0).length : Int) - 1)))], hp := [(12, Ob.row false 1 (List.map (fun c => V.int IntKind.u8 (↑c.toNat : Int)) s0)), (24, Ob.row false 1 (List.map (fun c => V.int IntKind.u8 (↑c.toNat : Int)) s1))], nx := 40 } (Exit.exit 0, { tm := [(0, V.ref 12), (2, V.int IntKind.i64 i2), (3, V.int IntKind.i64 i3), (9, V.bool false)], hp := [(12, Ob.row false 1 x0), (24, Ob.row false 1 (List.map (fun c => V.int IntKind.u8 (↑c.toNat : Int)) s1))], nx := 52 }))
    (c5 : LoopsN Try.prog Try.cfg (k + 10) 56 Try.f14 (Try.cfg.fc 14) 0 [0, 2, 3] (k + 10) { tm := [(0, V.ref 24), (2, V.int IntKind.i64 0), (3, V.int IntKind.i64 (IntKind.i64.wrap ((↑(List.map (fun c => V.int IntKind.u8 (↑c.toNat : Int)) s1).length : Int) - 1)))], hp := [(12, Ob.row false 1 x0), (24, Ob.row false 1 (List.map (fun c => V.int IntKind.u8 (↑c.toNat : Int)) s1))], nx := 56 } (Exit.exit 0, { tm := [(0, V.ref 24), (2, V.int IntKind.i64 i4), (3, V.int IntKind.i64 i5), (9, V.bool false)], hp := [(12, Ob.row false 1 x0), (24, Ob.row false 1 x1)], nx := 68 }))
    (c6 : callP (evalFn Try.prog Try.cfg (k + 11)) 15 [] = some (V.bool b0))
    (c7 : b0 = false) :
    callP (evalFn Try.prog Try.cfg (k + 12)) 3 [V.int IntKind.u64 i0, V.int IntKind.u64 i1] = some (V.bool false) :=
  byF (k := k) (d := 12) [Hn.call 8 (V.str s0), Hn.op 9 (V.ref 12) [(12, Ob.row false 1 (List.map (fun c => V.int IntKind.u8 (↑c.toNat : Int)) s0))], Hn.call 11 (V.str s1), Hn.op 12 (V.ref 24) [(24, Ob.row false 1 (List.map (fun c => V.int IntKind.u8 (↑c.toNat : Int)) s1))], Hn.enter, Hn.loop (Exit.exit 0, { tm := [(0, V.ref 12), (2, V.int IntKind.i64 i2), (3, V.int IntKind.i64 i3), (9, V.bool false)], hp := [(12, Ob.row false 1 x0), (24, Ob.row false 1 (List.map (fun c => V.int IntKind.u8 (↑c.toNat : Int)) s1))], nx := 52 }), Hn.enter, Hn.loop (Exit.exit 0, { tm := [(0, V.ref 24), (2, V.int IntKind.i64 i4), (3, V.int IntKind.i64 i5), (9, V.bool false)], hp := [(12, Ob.row false 1 x0), (24, Ob.row false 1 x1)], nx := 68 }), Hn.call 17 (V.bool b0), Hn.br 18 false] (And.intro c0 (And.intro c1 (And.intro c2 (And.intro c3 (And.intro c4 (And.intro c5 (And.intro c6 (And.intro c7 trivial)))))))) (by kernel_rfl)
def F3 (k : Nat) (i0 : Int) (i1 : Int) : Option (Bool) :=
  ((F13 (k + 5) (i0)).bind fun s0 => (guardP (s0.length ≤ maxLen') ((F13 (k + 5) (i1)).bind fun s1 => (guardP (s1.length ≤ maxLen') ((L3_1 k s1 (k + 10) (0) (IntKind.i64.wrap ((↑(List.map (fun c => V.int IntKind.u8 (↑c.toNat : Int)) s0).length : Int) - 1)) (List.map (fun c => V.int IntKind.u8 (↑c.toNat : Int)) s0)).bind fun
    | L3_1_R.e0 i2 i3 x0 => ((L3_2 k x0 (k + 10) (0) (IntKind.i64.wrap ((↑(List.map (fun c => V.int IntKind.u8 (↑c.toNat : Int)) s1).length : Int) - 1)) (List.map (fun c => V.int IntKind.u8 (↑c.toNat : Int)) s1)).bind fun
    | L3_2_R.e0 i4 i5 x1 => ((F15 (k + 2)).bind fun b0 => (bif b0 then (bif decide ((↑x0.length : Int) = 8) then (bif decide ((↑x1.length : Int) = 8) then (guardP (x0.all isByte = true) (guardP (x1.all isByte = true) (bif decide (decide (i0 < i1) = Op.bytesLess (List.map Sym.byteOf x0) (List.map Sym.byteOf x1)) then (some (decide (decide (i0 = i1) = decide (List.map Sym.byteOf x0 = List.map Sym.byteOf x1)))) else (some (false))))) else (some (false))) else (some (false))) else (some (false))))))))))
theorem F3_ok {i0 : Int} {i1 : Int} {k : Nat} {r : Bool} (h : F3 k i0 i1 = some r) :
    callP (evalFn Try.prog Try.cfg (k + 12)) 3 [V.int IntKind.u64 i0, V.int IntKind.u64 i1] = some (V.bool r) := by
  unfold F3 at h
  obtain ⟨s0, e0, h⟩ := Option.bind_eq_some_iff.1 h
  obtain ⟨e1, h⟩ := guardP_some.1 h
  obtain ⟨s1, e2, h⟩ := Option.bind_eq_some_iff.1 h
  obtain ⟨e3, h⟩ := guardP_some.1 h
  obtain ⟨ee, e4, h⟩ := Option.bind_eq_some_iff.1 h
  cases ee with
  | e0 i2 i3 x0 =>
    obtain ⟨ee, e5, h⟩ := Option.bind_eq_some_iff.1 h
    cases ee with
    | e0 i4 i5 x1 =>
      obtain ⟨b0, e6, h⟩ := Option.bind_eq_some_iff.1 h
      rcases cond_elim h with ⟨e7, h⟩ | ⟨e7, h⟩
      ·
        rcases cond_elim h with ⟨e8, h⟩ | ⟨e8, h⟩
        ·
          rcases cond_elim h with ⟨e9, h⟩ | ⟨e9, h⟩
          ·
            obtain ⟨e10, h⟩ := guardP_some.1 h
            obtain ⟨e11, h⟩ := guardP_some.1 h
            rcases cond_elim h with ⟨e12, h⟩ | ⟨e12, h⟩
            ·
              have h := Option.some.inj h; subst h; exact P3_0 i0 i1 i2 i3 i4 i5 b0 s0 s1 x0 x1 k (F13_ok e0) (GrdW.mk ⟨e1, rfl⟩) (F13_ok e2) (GrdW.mk ⟨e3, rfl⟩) (L3_1_ok e4) (L3_2_ok e5) (F15_ok e6) e7 e8 e9 (GrdW.mk ⟨(.inl rfl), e10⟩) (GrdW.mk ⟨(.inl rfl), e11⟩) e12 (GrdW.mk ⟨(.inl rfl), e10⟩) (GrdW.mk ⟨(.inl rfl), e11⟩)
            ·
              have h := Option.some.inj h; subst h; exact P3_1 i0 i1 i2 i3 i4 i5 b0 s0 s1 x0 x1 k (F13_ok e0) (GrdW.mk ⟨e1, rfl⟩) (F13_ok e2) (GrdW.mk ⟨e3, rfl⟩) (L3_1_ok e4) (L3_2_ok e5) (F15_ok e6) e7 e8 e9 (GrdW.mk ⟨(.inl rfl), e10⟩) (GrdW.mk ⟨(.inl rfl), e11⟩) e12
          ·
            have h := Option.some.inj h; subst h; exact P3_2 i0 i1 i2 i3 i4 i5 b0 s0 s1 x0 x1 k (F13_ok e0) (GrdW.mk ⟨e1, rfl⟩) (F13_ok e2) (GrdW.mk ⟨e3, rfl⟩) (L3_1_ok e4) (L3_2_ok e5) (F15_ok e6) e7 e8 e9
        ·
          have h := Option.some.inj h; subst h; exact P3_3 i0 i1 i2 i3 i4 i5 b0 s0 s1 x0 x1 k (F13_ok e0) (GrdW.mk ⟨e1, rfl⟩) (F13_ok e2) (GrdW.mk ⟨e3, rfl⟩) (L3_1_ok e4) (L3_2_ok e5) (F15_ok e6) e7 e8
      ·
        have h := Option.some.inj h; subst h; exact P3_4 i0 i1 i2 i3 i4 i5 b0 s0 s1 x0 x1 k (F13_ok e0) (GrdW.mk ⟨e1, rfl⟩) (F13_ok e2) (GrdW.mk ⟨e3, rfl⟩) (L3_1_ok e4) (L3_2_ok e5) (F15_ok e6) e7
end Go.Proofs
