/-
  What functions of the reference of aes answer, each checked against the program.
-/
import Derived.Test.YtegmincienhapaaFlA
set_option linter.unusedVariables false
set_option maxHeartbeats 0
set_option maxRecDepth 100000
namespace Go.Proofs
open Go Go.Sym

theorem P99_0 (b0 : Bool) (x0 : List V) (o0 : Option Bool) (n0 k : Nat)
    (c0 : GrdW ((n0 = (1 : Nat) ∨ x0.isEmpty = true) ∧ x0.all isByte = true) (V.str (List.map Sym.byteOf x0)) []) :
    cP ((k + 3)) 99 [V.sl o0 b0 n0 x0] = some (V.str (List.map Sym.byteOf x0)) :=
  byF (k := k) (d := 3) [Hn.op 4 (V.str (List.map Sym.byteOf x0)) []] (aI c0 trivial) (by kernel_rfl)
def F99 (k : Nat) (o0 : Option Bool) (b0 : Bool) (n0 : Nat) (x0 : List V) : Option (List UInt8) :=
  (guardP (n0 = (1 : Nat) ∨ x0.isEmpty = true) (guardP (x0.all isByte = true) (some (List.map Sym.byteOf x0))))
theorem F99_ok {o0 : Option Bool} {b0 : Bool} {n0 : Nat} {x0 : List V} {k : Nat} {r : List UInt8} (h : F99 k o0 b0 n0 x0 = some r) :
    cP ((k + 3)) 99 [V.sl o0 b0 n0 x0] = some (V.str r) := by
  unfold F99 at h
  obtain ⟨e0, h⟩ := guardP_some.1 h
  obtain ⟨e1, h⟩ := guardP_some.1 h
  have h := Option.some.inj h; subst h; exact P99_0 b0 x0 o0 n0 k (GrdW.mk ⟨e0, e1⟩)
theorem L88_0_b0 (i0 i1 : Int) (s0 : List UInt8) (x0 : List V) (u0 : UInt8) (k : Nat)
    (c0 : decide (i0 < (↑s0.length : Int)) = true)
    (c1 : StrP s0 i0 u0)
    (c2 : cP ((k + 14)) 100 [vb (↑u0.toNat : Int)] = some (vb i1))
    (c3 : GrdW ((1 : Nat) = (1 : Nat) ∧ (0 : Nat) < (1 : Nat) ∧ (1 : Nat) ≤ (64 : Nat) ∧ x0.length + (1 : Nat) ≤ maxLen') (V.ref (41 : Nat)) [((0 : Nat), Ob.dead), ((41 : Nat), Ob.row false (1 : Nat) (x0 ++ [vb i1]))]) :
    evalCode Try.prog Try.cfg (evalFn Try.prog Try.cfg (k + 14)) 0 (Try.cfg.fc 88) (k + 14) (loopBody Try.f88 0) { tm := [(0, V.str s0), (2, V.str []), (3, V.ref 0), (4, vi i0)], hp := [(0, Ob.row false 1 x0)], nx := 1 } = some (Exit.normal, { tm := [(0, V.str s0), (2, V.str []), (3, V.ref 41), (4, vi (IntKind.i64.wrap (i0 + 1))), (9, V.bool true)], hp := [(0, Ob.dead), (37, Ob.row false 1 [vb i1]), (41, Ob.row false 1 (x0 ++ [vb i1]))], nx := 61 }) :=
  byL (k := k) (d := 14) [Hn.br 9 true, Hn.op 15 (vb (↑u0.toNat : Int)) [], Hn.call 16 (vb i1), Hn.op 18 (V.ref 41) [(0, Ob.dead), (41, Ob.row false 1 (x0 ++ [vb i1]))]] (aI c0 (aI c1 (aI c2 (aI c3 trivial)))) (by kernel_rfl)
theorem L88_0_b0h (i0 i1 : Int) (s0 : List UInt8) (x0 : List V) : head 0 [0, 2, 3, 4] (Try.cfg.fc 88).acc { tm := [(0, V.str s0), (2, V.str []), (3, V.ref 41), (4, vi (IntKind.i64.wrap (i0 + 1))), (9, V.bool true)], hp := [(0, Ob.dead), (37, Ob.row false 1 [vb i1]), (41, Ob.row false 1 (x0 ++ [vb i1]))], nx := 61 } = { tm := [(0, V.str s0), (2, V.str []), (3, V.ref 0), (4, vi (IntKind.i64.wrap (i0 + 1)))], hp := [(0, Ob.row false 1 (x0 ++ [vb i1]))], nx := 1 } := by kernel_rfl
theorem L88_0_b1 (i0 : Int) (s0 : List UInt8) (x0 : List V) (k : Nat)
    (c0 : decide (i0 < (↑s0.length : Int)) = false) :
    evalCode Try.prog Try.cfg (evalFn Try.prog Try.cfg (k + 14)) 0 (Try.cfg.fc 88) (k + 14) (loopBody Try.f88 0) { tm := [(0, V.str s0), (2, V.str []), (3, V.ref 0), (4, vi i0)], hp := [(0, Ob.row false 1 x0)], nx := 1 } = some (Exit.exit 0, { tm := [(0, V.str s0), (2, V.str []), (3, V.ref 0), (4, vi i0), (9, V.bool false)], hp := [(0, Ob.row false 1 x0)], nx := 17 }) :=
  byL (k := k) (d := 14) [Hn.br 9 false] (aI c0 trivial) (by kernel_rfl)
inductive L88_0_R where
  | e0 (i0 : Int) (x0 : List V)
noncomputable def L88_0_end (s0 : List UInt8) : L88_0_R → Exit × St
  | .e0 i0 x0 => (Exit.exit 0, { tm := [(0, V.str s0), (2, V.str []), (3, V.ref 0), (4, V.int .i64 i0), (9, V.bool false)], hp := [(0, Ob.row false 1 x0)], nx := 17 })
def L88_0 (k : Nat) (s0 : List UInt8) : Nat → Int → List V → Option L88_0_R
  | 0, _, _ => none
  | f + 1, i0, x0 => (bif decide (i0 < (↑s0.length : Int)) then ((satB (s0) (i0)).bind fun u0 => ((F100 (k + 2) ((↑u0.toNat : Int))).bind fun i1 => (guardP (x0.length + (1 : Nat) ≤ maxLen') (L88_0 k s0 f (IntKind.i64.wrap (i0 + 1)) (x0 ++ [V.int .u8 i1]))))) else (some (L88_0_R.e0 i0 x0)))
theorem L88_0_ok {s0 : List UInt8} {k : Nat} : ∀ {f : Nat} {i0 : Int} {x0 : List V} {r : L88_0_R}, L88_0 k s0 f i0 x0 = some r →
    LoopsN Try.prog Try.cfg (k + 14) 0 Try.f88 (Try.cfg.fc 88) 0 [0, 2, 3, 4] f { tm := [(0, V.str s0), (2, V.str []), (3, V.ref 0), (4, vi i0)], hp := [(0, Ob.row false 1 x0)], nx := 1 } (L88_0_end s0 r) := by
  intro f
  induction f with
  | zero => intro i0 x0 r h; cases h
  | succ f ih =>
    intro i0 x0 r h
    rw [L88_0] at h
    rcases cond_elim h with ⟨e0, h⟩ | ⟨e0, h⟩
    ·
      obtain ⟨u0, e1, h⟩ := bE h
      obtain ⟨i1, e2, h⟩ := bE h
      obtain ⟨e3, h⟩ := guardP_some.1 h
      exact LoopsN.next (L88_0_b0 i0 i1 s0 x0 u0 k e0 (StrP.of_at e1) (F100_ok e2) (GrdW.mk ⟨rfl, by decide, by decide, e3⟩)) (L88_0_b0h i0 i1 s0 x0) (ih h)
    ·
      cases h; exact LoopsN.done (L88_0_b1 i0 s0 x0 k e0) (fun h => by cases h)
theorem P88_0 (i0 : Int) (s0 s1 : List UInt8) (x0 : List V) (k : Nat)
    (c0 : LoopsN Try.prog Try.cfg (k + 14) 0 Try.f88 (Try.cfg.fc 88) 0 [0, 2, 3, 4] (k + 14) { tm := [(0, V.str s0), (2, V.str []), (3, V.ref 0), (4, vi 0)], hp := [(0, Ob.row false 1 [])], nx := 1 } (Exit.exit 0, { tm := [(0, V.str s0), (2, V.str []), (3, V.ref 0), (4, vi i0), (9, V.bool false)], hp := [(0, Ob.row false 1 x0)], nx := 17 }))
    (c1 : cP ((k + 14)) 99 [V.sl none false 1 x0] = some (V.str s1)) :
    cP ((k + 15)) 88 [V.str s0] = some (V.str s1) :=
  byF (k := k) (d := 15) [Hn.loop (Exit.exit 0, { tm := [(0, V.str s0), (2, V.str []), (3, V.ref 0), (4, vi i0), (9, V.bool false)], hp := [(0, Ob.row false 1 x0)], nx := 17 }), Hn.call 20 (V.str s1)] (aI c0 (aI c1 trivial)) (by kernel_rfl)
def F88 (k : Nat) (s0 : List UInt8) : Option (List UInt8) :=
  ((L88_0 k s0 (k + 14) (0) ([])).bind fun
    | L88_0_R.e0 i0 x0 => ((F99 (k + 11) (none) (false) (1) (x0)).bind fun s1 => (some (s1))))
theorem F88_ok {s0 : List UInt8} {k : Nat} {r : List UInt8} (h : F88 k s0 = some r) :
    cP ((k + 15)) 88 [V.str s0] = some (V.str r) := by
  unfold F88 at h
  obtain ⟨ee, e0, h⟩ := bE h
  cases ee with
  | e0 i0 x0 =>
    obtain ⟨s1, e1, h⟩ := bE h
    have h := Option.some.inj h; subst h; exact P88_0 i0 s0 s1 x0 k (L88_0_ok e0) (F99_ok e1)
theorem P87_0 (s0 s1 : List UInt8) (u0 u1 u2 u3 u4 u5 u6 u7 u8 u9 u10 u11 u12 u13 u14 u15 : UInt8) (k : Nat)
    (c0 : StrP s0 0 u0)
    (c1 : StrP s0 5 u1)
    (c2 : StrP s0 10 u2)
    (c3 : StrP s0 15 u3)
    (c4 : StrP s0 4 u4)
    (c5 : StrP s0 9 u5)
    (c6 : StrP s0 14 u6)
    (c7 : StrP s0 3 u7)
    (c8 : StrP s0 8 u8)
    (c9 : StrP s0 13 u9)
    (c10 : StrP s0 2 u10)
    (c11 : StrP s0 7 u11)
    (c12 : StrP s0 12 u12)
    (c13 : StrP s0 1 u13)
    (c14 : StrP s0 6 u14)
    (c15 : StrP s0 11 u15)
    (c16 : cP ((k + 10)) 99 [V.sl none false 1 [vb (↑u0.toNat : Int), vb (↑u1.toNat : Int), vb (↑u2.toNat : Int), vb (↑u3.toNat : Int), vb (↑u4.toNat : Int), vb (↑u5.toNat : Int), vb (↑u6.toNat : Int), vb (↑u7.toNat : Int), vb (↑u8.toNat : Int), vb (↑u9.toNat : Int), vb (↑u10.toNat : Int), vb (↑u11.toNat : Int), vb (↑u12.toNat : Int), vb (↑u13.toNat : Int), vb (↑u14.toNat : Int), vb (↑u15.toNat : Int)]] = some (V.str s1)) :
    cP ((k + 11)) 87 [V.str s0] = some (V.str s1) :=
  byF (k := k) (d := 11) [Hn.rounds, Hn.rounds, Hn.op 24 (vb (↑u0.toNat : Int)) [], Hn.op 24 (vb (↑u1.toNat : Int)) [], Hn.op 24 (vb (↑u2.toNat : Int)) [], Hn.op 24 (vb (↑u3.toNat : Int)) [], Hn.rounds, Hn.op 24 (vb (↑u4.toNat : Int)) [], Hn.op 24 (vb (↑u5.toNat : Int)) [], Hn.op 24 (vb (↑u6.toNat : Int)) [], Hn.op 24 (vb (↑u7.toNat : Int)) [], Hn.rounds, Hn.op 24 (vb (↑u8.toNat : Int)) [], Hn.op 24 (vb (↑u9.toNat : Int)) [], Hn.op 24 (vb (↑u10.toNat : Int)) [], Hn.op 24 (vb (↑u11.toNat : Int)) [], Hn.rounds, Hn.op 24 (vb (↑u12.toNat : Int)) [], Hn.op 24 (vb (↑u13.toNat : Int)) [], Hn.op 24 (vb (↑u14.toNat : Int)) [], Hn.op 24 (vb (↑u15.toNat : Int)) [], Hn.call 28 (V.str s1)] (aI c0 (aI c1 (aI c2 (aI c3 (aI c4 (aI c5 (aI c6 (aI c7 (aI c8 (aI c9 (aI c10 (aI c11 (aI c12 (aI c13 (aI c14 (aI c15 (aI c16 trivial))))))))))))))))) (by kernel_rfl)
def F87 (k : Nat) (s0 : List UInt8) : Option (List UInt8) :=
  ((satB (s0) (0)).bind fun u0 => ((satB (s0) (5)).bind fun u1 => ((satB (s0) (10)).bind fun u2 => ((satB (s0) (15)).bind fun u3 => ((satB (s0) (4)).bind fun u4 => ((satB (s0) (9)).bind fun u5 => ((satB (s0) (14)).bind fun u6 => ((satB (s0) (3)).bind fun u7 => ((satB (s0) (8)).bind fun u8 => ((satB (s0) (13)).bind fun u9 => ((satB (s0) (2)).bind fun u10 => ((satB (s0) (7)).bind fun u11 => ((satB (s0) (12)).bind fun u12 => ((satB (s0) (1)).bind fun u13 => ((satB (s0) (6)).bind fun u14 => ((satB (s0) (11)).bind fun u15 => ((F99 (k + 7) (none) (false) (1) ([V.int .u8 (↑u0.toNat : Int), V.int .u8 (↑u1.toNat : Int), V.int .u8 (↑u2.toNat : Int), V.int .u8 (↑u3.toNat : Int), V.int .u8 (↑u4.toNat : Int), V.int .u8 (↑u5.toNat : Int), V.int .u8 (↑u6.toNat : Int), V.int .u8 (↑u7.toNat : Int), V.int .u8 (↑u8.toNat : Int), V.int .u8 (↑u9.toNat : Int), V.int .u8 (↑u10.toNat : Int), V.int .u8 (↑u11.toNat : Int), V.int .u8 (↑u12.toNat : Int), V.int .u8 (↑u13.toNat : Int), V.int .u8 (↑u14.toNat : Int), V.int .u8 (↑u15.toNat : Int)])).bind fun s1 => (some (s1)))))))))))))))))))
theorem F87_ok {s0 : List UInt8} {k : Nat} {r : List UInt8} (h : F87 k s0 = some r) :
    cP ((k + 11)) 87 [V.str s0] = some (V.str r) := by
  unfold F87 at h
  obtain ⟨u0, e0, h⟩ := bE h
  obtain ⟨u1, e1, h⟩ := bE h
  obtain ⟨u2, e2, h⟩ := bE h
  obtain ⟨u3, e3, h⟩ := bE h
  obtain ⟨u4, e4, h⟩ := bE h
  obtain ⟨u5, e5, h⟩ := bE h
  obtain ⟨u6, e6, h⟩ := bE h
  obtain ⟨u7, e7, h⟩ := bE h
  obtain ⟨u8, e8, h⟩ := bE h
  obtain ⟨u9, e9, h⟩ := bE h
  obtain ⟨u10, e10, h⟩ := bE h
  obtain ⟨u11, e11, h⟩ := bE h
  obtain ⟨u12, e12, h⟩ := bE h
  obtain ⟨u13, e13, h⟩ := bE h
  obtain ⟨u14, e14, h⟩ := bE h
  obtain ⟨u15, e15, h⟩ := bE h
  obtain ⟨s1, e16, h⟩ := bE h
  have h := Option.some.inj h; subst h; exact P87_0 s0 s1 u0 u1 u2 u3 u4 u5 u6 u7 u8 u9 u10 u11 u12 u13 u14 u15 k (StrP.of_at e0) (StrP.of_at e1) (StrP.of_at e2) (StrP.of_at e3) (StrP.of_at e4) (StrP.of_at e5) (StrP.of_at e6) (StrP.of_at e7) (StrP.of_at e8) (StrP.of_at e9) (StrP.of_at e10) (StrP.of_at e11) (StrP.of_at e12) (StrP.of_at e13) (StrP.of_at e14) (StrP.of_at e15) (F99_ok e16)
theorem P102_0 (i0 i1 : Int) (k : Nat)
    (c0 : decide (i0 = i1) = true) :
    cP ((k + 3)) 102 [vi i0, vi i1] = some (vb 2) :=
  byF (k := k) (d := 3) [Hn.br 7 true] (aI c0 trivial) (by kernel_rfl)
theorem P102_1 (i0 i1 : Int) (k : Nat)
    (c0 : decide (i0 = i1) = false)
    (c1 : decide ((IntKind.i64.wrap (i0 + 1)).tmod 4 = i1) = true) :
    cP ((k + 3)) 102 [vi i0, vi i1] = some (vb 3) :=
  byF (k := k) (d := 3) [Hn.br 7 false, Hn.br 12 true] (aI c0 (aI c1 trivial)) (by kernel_rfl)
theorem P102_2 (i0 i1 : Int) (k : Nat)
    (c0 : decide (i0 = i1) = false)
    (c1 : decide ((IntKind.i64.wrap (i0 + 1)).tmod 4 = i1) = false) :
    cP ((k + 3)) 102 [vi i0, vi i1] = some (vb 1) :=
  byF (k := k) (d := 3) [Hn.br 7 false, Hn.br 12 false] (aI c0 (aI c1 trivial)) (by kernel_rfl)
def F102 (k : Nat) (i0 i1 : Int) : Option (Int) :=
  (bif decide (i0 = i1) then (some (2)) else (bif decide ((IntKind.i64.wrap (i0 + 1)).tmod 4 = i1) then (some (3)) else (some (1))))
theorem F102_ok {i0 i1 : Int} {k : Nat} {r : Int} (h : F102 k i0 i1 = some r) :
    cP ((k + 3)) 102 [vi i0, vi i1] = some (vb r) := by
  unfold F102 at h
  rcases cond_elim h with ⟨e0, h⟩ | ⟨e0, h⟩
  ·
    have h := Option.some.inj h; subst h; exact P102_0 i0 i1 k e0
  ·
    rcases cond_elim h with ⟨e1, h⟩ | ⟨e1, h⟩
    ·
      have h := Option.some.inj h; subst h; exact P102_1 i0 i1 k e0 e1
    ·
      have h := Option.some.inj h; subst h; exact P102_2 i0 i1 k e0 e1
theorem L89_2_b0 (i0 i1 i2 i3 i4 i5 : Int) (s0 : List UInt8) (x1 : List V) (u0 : UInt8) (k : Nat)
    (c0 : decide (i3 < 4) = true)
    (c1 : StrP s0 (IntKind.i64.wrap (IntKind.i64.wrap (4 * i0) + i3)) u0)
    (c2 : cP ((k + 8)) 102 [vi i1, vi i3] = some (vb i4))
    (c3 : cP ((k + 8)) 101 [vb (↑u0.toNat : Int), vb i4] = some (vb i5)) :
    evalCode Try.prog Try.cfg (evalFn Try.prog Try.cfg (k + 8)) 0 (Try.cfg.fc 89) (k + 8) (loopBody Try.f89 2) { tm := [(0, V.str s0), (2, V.str []), (3, V.ref 0), (4, vi i0), (5, vi i1), (6, vb i2), (7, vi i3), (10, V.bool true), (14, V.bool true)], hp := [(0, Ob.row false 1 x1)], nx := 1 } = some (Exit.normal, { tm := [(0, V.str s0), (2, V.str []), (3, V.ref 0), (4, vi i0), (5, vi i1), (6, vb (IntKind.u8.wrap (↑(BitVec.ofInt IntKind.u8.bits i2 ^^^ BitVec.ofInt IntKind.u8.bits i5).toNat : Int))), (7, vi (IntKind.i64.wrap (i3 + 1))), (10, V.bool true), (14, V.bool true), (18, V.bool true)], hp := [(0, Ob.row false 1 x1)], nx := 73 }) :=
  byL (k := k) (d := 8) [Hn.br 18 true, Hn.op 27 (vb (↑u0.toNat : Int)) [], Hn.call 30 (vb i4), Hn.call 31 (vb i5)] (aI c0 (aI c1 (aI c2 (aI c3 trivial)))) (by kernel_rfl)
theorem L89_2_b0h (i0 i1 i2 i3 i5 : Int) (s0 : List UInt8) (x1 : List V) : head 0 [0, 2, 3, 4, 5, 6, 7, 10, 14] (Try.cfg.fc 89).acc { tm := [(0, V.str s0), (2, V.str []), (3, V.ref 0), (4, vi i0), (5, vi i1), (6, vb (IntKind.u8.wrap (↑(BitVec.ofInt IntKind.u8.bits i2 ^^^ BitVec.ofInt IntKind.u8.bits i5).toNat : Int))), (7, vi (IntKind.i64.wrap (i3 + 1))), (10, V.bool true), (14, V.bool true), (18, V.bool true)], hp := [(0, Ob.row false 1 x1)], nx := 73 } = { tm := [(0, V.str s0), (2, V.str []), (3, V.ref 0), (4, vi i0), (5, vi i1), (6, vb (IntKind.u8.wrap (↑(BitVec.ofInt IntKind.u8.bits i2 ^^^ BitVec.ofInt IntKind.u8.bits i5).toNat : Int))), (7, vi (IntKind.i64.wrap (i3 + 1))), (10, V.bool true), (14, V.bool true)], hp := [(0, Ob.row false 1 x1)], nx := 1 } := by kernel_rfl
theorem L89_2_b1 (i0 i1 i2 i3 : Int) (s0 : List UInt8) (x1 : List V) (k : Nat)
    (c0 : decide (i3 < 4) = false) :
    evalCode Try.prog Try.cfg (evalFn Try.prog Try.cfg (k + 8)) 0 (Try.cfg.fc 89) (k + 8) (loopBody Try.f89 2) { tm := [(0, V.str s0), (2, V.str []), (3, V.ref 0), (4, vi i0), (5, vi i1), (6, vb i2), (7, vi i3), (10, V.bool true), (14, V.bool true)], hp := [(0, Ob.row false 1 x1)], nx := 1 } = some (Exit.exit 4, { tm := [(0, V.str s0), (2, V.str []), (3, V.ref 0), (4, vi i0), (5, vi i1), (6, vb i2), (7, vi i3), (10, V.bool true), (14, V.bool true), (18, V.bool false)], hp := [(0, Ob.row false 1 x1)], nx := 9 }) :=
  byL (k := k) (d := 8) [Hn.br 18 false] (aI c0 trivial) (by kernel_rfl)
inductive L89_2_R where
  | e0 (i2 : Int) (i3 : Int)
noncomputable def L89_2_end (i0 : Int) (i1 : Int) (s0 : List UInt8) (x1 : List V) : L89_2_R → Exit × St
  | .e0 i2 i3 => (Exit.exit 4, { tm := [(0, V.str s0), (2, V.str []), (3, V.ref 0), (4, V.int .i64 i0), (5, V.int .i64 i1), (6, V.int .u8 i2), (7, V.int .i64 i3), (10, V.bool true), (14, V.bool true), (18, V.bool false)], hp := [(0, Ob.row false 1 x1)], nx := 9 })
def L89_2 (k : Nat) (i0 i1 : Int) (s0 : List UInt8) (x1 : List V) : Nat → Int → Int → Option L89_2_R
  | 0, _, _ => none
  | f + 1, i2, i3 => (bif decide (i3 < 4) then ((satB (s0) (IntKind.i64.wrap (IntKind.i64.wrap (4 * i0) + i3))).bind fun u0 => ((F102 (k + 5) (i1) (i3)).bind fun i4 => ((F101 (k + 2) ((↑u0.toNat : Int)) (i4)).bind fun i5 => (L89_2 k i0 i1 s0 x1 f (IntKind.u8.wrap (↑(BitVec.ofInt IntKind.u8.bits i2 ^^^ BitVec.ofInt IntKind.u8.bits i5).toNat : Int)) (IntKind.i64.wrap (i3 + 1)))))) else (some (L89_2_R.e0 i2 i3)))
theorem L89_2_ok {i0 i1 : Int} {s0 : List UInt8} {x1 : List V} {k : Nat} : ∀ {f : Nat} {i2 : Int} {i3 : Int} {r : L89_2_R}, L89_2 k i0 i1 s0 x1 f i2 i3 = some r →
    LoopsN Try.prog Try.cfg (k + 8) 0 Try.f89 (Try.cfg.fc 89) 2 [0, 2, 3, 4, 5, 6, 7, 10, 14] f { tm := [(0, V.str s0), (2, V.str []), (3, V.ref 0), (4, vi i0), (5, vi i1), (6, vb i2), (7, vi i3), (10, V.bool true), (14, V.bool true)], hp := [(0, Ob.row false 1 x1)], nx := 1 } (L89_2_end i0 i1 s0 x1 r) := by
  intro f
  induction f with
  | zero => intro i2 i3 r h; cases h
  | succ f ih =>
    intro i2 i3 r h
    rw [L89_2] at h
    rcases cond_elim h with ⟨e0, h⟩ | ⟨e0, h⟩
    ·
      obtain ⟨u0, e1, h⟩ := bE h
      obtain ⟨i4, e2, h⟩ := bE h
      obtain ⟨i5, e3, h⟩ := bE h
      exact LoopsN.next (L89_2_b0 i0 i1 i2 i3 i4 i5 s0 x1 u0 k e0 (StrP.of_at e1) (F102_ok e2) (F101_ok e3)) (L89_2_b0h i0 i1 i2 i3 i5 s0 x1) (ih h)
    ·
      cases h; exact LoopsN.done (L89_2_b1 i0 i1 i2 i3 s0 x1 k e0) (fun h => by cases h)
theorem L89_1_b0 (i0 i1 i2 i3 : Int) (s0 : List UInt8) (x1 : List V) (k : Nat)
    (c0 : decide (i1 < 4) = true)
    (c1 : LoopsN Try.prog Try.cfg (k + 8) 0 Try.f89 (Try.cfg.fc 89) 2 [0, 2, 3, 4, 5, 6, 7, 10, 14] (k + 8) { tm := [(0, V.str s0), (2, V.str []), (3, V.ref 0), (4, vi i0), (5, vi i1), (6, vb 0), (7, vi 0), (10, V.bool true), (14, V.bool true)], hp := [(0, Ob.row false 1 x1)], nx := 1 } (Exit.exit 4, { tm := [(0, V.str s0), (2, V.str []), (3, V.ref 0), (4, vi i0), (5, vi i1), (6, vb i2), (7, vi i3), (10, V.bool true), (14, V.bool true), (18, V.bool false)], hp := [(0, Ob.row false 1 x1)], nx := 9 }))
    (c2 : GrdW ((1 : Nat) = (1 : Nat) ∧ (0 : Nat) < (1 : Nat) ∧ (1 : Nat) ≤ (64 : Nat) ∧ x1.length + (1 : Nat) ≤ maxLen') (V.ref (21 : Nat)) [((0 : Nat), Ob.dead), ((21 : Nat), Ob.row false (1 : Nat) (x1 ++ [vb i2]))]) :
    evalCode Try.prog Try.cfg (evalFn Try.prog Try.cfg (k + 8)) 0 (Try.cfg.fc 89) (k + 8) (loopBody Try.f89 1) { tm := [(0, V.str s0), (2, V.str []), (3, V.ref 0), (4, vi i0), (5, vi i1), (10, V.bool true)], hp := [(0, Ob.row false 1 x1)], nx := 1 } = some (Exit.normal, { tm := [(0, V.str s0), (2, V.str []), (3, V.ref 21), (4, vi i0), (5, vi (IntKind.i64.wrap (i1 + 1))), (6, vb i2), (7, vi i3), (10, V.bool true), (14, V.bool true), (18, V.bool false)], hp := [(0, Ob.dead), (17, Ob.row false 1 [vb i2]), (21, Ob.row false 1 (x1 ++ [vb i2]))], nx := 41 }) :=
  byL (k := k) (d := 8) [Hn.br 14 true, Hn.loop (Exit.exit 4, { tm := [(0, V.str s0), (2, V.str []), (3, V.ref 0), (4, vi i0), (5, vi i1), (6, vb i2), (7, vi i3), (10, V.bool true), (14, V.bool true), (18, V.bool false)], hp := [(0, Ob.row false 1 x1)], nx := 9 }), Hn.op 36 (V.ref 21) [(0, Ob.dead), (21, Ob.row false 1 (x1 ++ [vb i2]))]] (aI c0 (aI c1 (aI c2 trivial))) (by kernel_rfl)
theorem L89_1_b0h (i0 i1 i2 i3 : Int) (s0 : List UInt8) (x1 : List V) : head 0 [0, 2, 3, 4, 5, 10] (Try.cfg.fc 89).acc { tm := [(0, V.str s0), (2, V.str []), (3, V.ref 21), (4, vi i0), (5, vi (IntKind.i64.wrap (i1 + 1))), (6, vb i2), (7, vi i3), (10, V.bool true), (14, V.bool true), (18, V.bool false)], hp := [(0, Ob.dead), (17, Ob.row false 1 [vb i2]), (21, Ob.row false 1 (x1 ++ [vb i2]))], nx := 41 } = { tm := [(0, V.str s0), (2, V.str []), (3, V.ref 0), (4, vi i0), (5, vi (IntKind.i64.wrap (i1 + 1))), (10, V.bool true)], hp := [(0, Ob.row false 1 (x1 ++ [vb i2]))], nx := 1 } := by kernel_rfl
theorem L89_1_b1 (i0 i1 : Int) (s0 : List UInt8) (x1 : List V) (k : Nat)
    (c0 : decide (i1 < 4) = false) :
    evalCode Try.prog Try.cfg (evalFn Try.prog Try.cfg (k + 8)) 0 (Try.cfg.fc 89) (k + 8) (loopBody Try.f89 1) { tm := [(0, V.str s0), (2, V.str []), (3, V.ref 0), (4, vi i0), (5, vi i1), (10, V.bool true)], hp := [(0, Ob.row false 1 x1)], nx := 1 } = some (Exit.exit 2, { tm := [(0, V.str s0), (2, V.str []), (3, V.ref 0), (4, vi i0), (5, vi i1), (10, V.bool true), (14, V.bool false)], hp := [(0, Ob.row false 1 x1)], nx := 9 }) :=
  byL (k := k) (d := 8) [Hn.br 14 false] (aI c0 trivial) (by kernel_rfl)
inductive L89_1_R where
  | e0 (i1 : Int) (x1 : List V)
noncomputable def L89_1_end (i0 : Int) (s0 : List UInt8) : L89_1_R → Exit × St
  | .e0 i1 x1 => (Exit.exit 2, { tm := [(0, V.str s0), (2, V.str []), (3, V.ref 0), (4, V.int .i64 i0), (5, V.int .i64 i1), (10, V.bool true), (14, V.bool false)], hp := [(0, Ob.row false 1 x1)], nx := 9 })
def L89_1 (k : Nat) (i0 : Int) (s0 : List UInt8) : Nat → Int → List V → Option L89_1_R
  | 0, _, _ => none
  | f + 1, i1, x1 => (bif decide (i1 < 4) then ((L89_2 k i0 i1 s0 x1 (k + 8) (0) (0)).bind fun
    | L89_2_R.e0 i2 i3 => (guardP (x1.length + (1 : Nat) ≤ maxLen') (L89_1 k i0 s0 f (IntKind.i64.wrap (i1 + 1)) (x1 ++ [V.int .u8 i2])))) else (some (L89_1_R.e0 i1 x1)))
theorem L89_1_ok {i0 : Int} {s0 : List UInt8} {k : Nat} : ∀ {f : Nat} {i1 : Int} {x1 : List V} {r : L89_1_R}, L89_1 k i0 s0 f i1 x1 = some r →
    LoopsN Try.prog Try.cfg (k + 8) 0 Try.f89 (Try.cfg.fc 89) 1 [0, 2, 3, 4, 5, 10] f { tm := [(0, V.str s0), (2, V.str []), (3, V.ref 0), (4, vi i0), (5, vi i1), (10, V.bool true)], hp := [(0, Ob.row false 1 x1)], nx := 1 } (L89_1_end i0 s0 r) := by
  intro f
  induction f with
  | zero => intro i1 x1 r h; cases h
  | succ f ih =>
    intro i1 x1 r h
    rw [L89_1] at h
    rcases cond_elim h with ⟨e0, h⟩ | ⟨e0, h⟩
    ·
      obtain ⟨ee, e1, h⟩ := bE h
      cases ee with
      | e0 i2 i3 =>
        obtain ⟨e2, h⟩ := guardP_some.1 h
        exact LoopsN.next (L89_1_b0 i0 i1 i2 i3 s0 x1 k e0 (L89_2_ok e1) (GrdW.mk ⟨rfl, by decide, by decide, e2⟩)) (L89_1_b0h i0 i1 i2 i3 s0 x1) (ih h)
    ·
      cases h; exact LoopsN.done (L89_1_b1 i0 i1 s0 x1 k e0) (fun h => by cases h)
theorem L89_0_b0 (i0 i1 : Int) (s0 : List UInt8) (x0 x1 : List V) (k : Nat)
    (c0 : decide (i0 < 4) = true)
    (c1 : LoopsN Try.prog Try.cfg (k + 8) 0 Try.f89 (Try.cfg.fc 89) 1 [0, 2, 3, 4, 5, 10] (k + 8) { tm := [(0, V.str s0), (2, V.str []), (3, V.ref 0), (4, vi i0), (5, vi 0), (10, V.bool true)], hp := [(0, Ob.row false 1 x0)], nx := 1 } (Exit.exit 2, { tm := [(0, V.str s0), (2, V.str []), (3, V.ref 0), (4, vi i0), (5, vi i1), (10, V.bool true), (14, V.bool false)], hp := [(0, Ob.row false 1 x1)], nx := 9 })) :
    evalCode Try.prog Try.cfg (evalFn Try.prog Try.cfg (k + 8)) 0 (Try.cfg.fc 89) (k + 8) (loopBody Try.f89 0) { tm := [(0, V.str s0), (2, V.str []), (3, V.ref 0), (4, vi i0)], hp := [(0, Ob.row false 1 x0)], nx := 1 } = some (Exit.normal, { tm := [(0, V.str s0), (2, V.str []), (3, V.ref 0), (4, vi (IntKind.i64.wrap (i0 + 1))), (5, vi i1), (10, V.bool true), (14, V.bool false)], hp := [(0, Ob.row false 1 x1)], nx := 21 }) :=
  byL (k := k) (d := 8) [Hn.br 10 true, Hn.loop (Exit.exit 2, { tm := [(0, V.str s0), (2, V.str []), (3, V.ref 0), (4, vi i0), (5, vi i1), (10, V.bool true), (14, V.bool false)], hp := [(0, Ob.row false 1 x1)], nx := 9 })] (aI c0 (aI c1 trivial)) (by kernel_rfl)
theorem L89_0_b0h (i0 i1 : Int) (s0 : List UInt8) (x1 : List V) : head 0 [0, 2, 3, 4] (Try.cfg.fc 89).acc { tm := [(0, V.str s0), (2, V.str []), (3, V.ref 0), (4, vi (IntKind.i64.wrap (i0 + 1))), (5, vi i1), (10, V.bool true), (14, V.bool false)], hp := [(0, Ob.row false 1 x1)], nx := 21 } = { tm := [(0, V.str s0), (2, V.str []), (3, V.ref 0), (4, vi (IntKind.i64.wrap (i0 + 1)))], hp := [(0, Ob.row false 1 x1)], nx := 1 } := by kernel_rfl
theorem L89_0_b1 (i0 : Int) (s0 : List UInt8) (x0 : List V) (k : Nat)
    (c0 : decide (i0 < 4) = false) :
    evalCode Try.prog Try.cfg (evalFn Try.prog Try.cfg (k + 8)) 0 (Try.cfg.fc 89) (k + 8) (loopBody Try.f89 0) { tm := [(0, V.str s0), (2, V.str []), (3, V.ref 0), (4, vi i0)], hp := [(0, Ob.row false 1 x0)], nx := 1 } = some (Exit.exit 0, { tm := [(0, V.str s0), (2, V.str []), (3, V.ref 0), (4, vi i0), (10, V.bool false)], hp := [(0, Ob.row false 1 x0)], nx := 9 }) :=
  byL (k := k) (d := 8) [Hn.br 10 false] (aI c0 trivial) (by kernel_rfl)
inductive L89_0_R where
  | e0 (i0 : Int) (x0 : List V)
noncomputable def L89_0_end (s0 : List UInt8) : L89_0_R → Exit × St
  | .e0 i0 x0 => (Exit.exit 0, { tm := [(0, V.str s0), (2, V.str []), (3, V.ref 0), (4, V.int .i64 i0), (10, V.bool false)], hp := [(0, Ob.row false 1 x0)], nx := 9 })
def L89_0 (k : Nat) (s0 : List UInt8) : Nat → Int → List V → Option L89_0_R
  | 0, _, _ => none
  | f + 1, i0, x0 => (bif decide (i0 < 4) then ((L89_1 k i0 s0 (k + 8) (0) (x0)).bind fun
    | L89_1_R.e0 i1 x1 => (L89_0 k s0 f (IntKind.i64.wrap (i0 + 1)) (x1))) else (some (L89_0_R.e0 i0 x0)))
theorem L89_0_ok {s0 : List UInt8} {k : Nat} : ∀ {f : Nat} {i0 : Int} {x0 : List V} {r : L89_0_R}, L89_0 k s0 f i0 x0 = some r →
    LoopsN Try.prog Try.cfg (k + 8) 0 Try.f89 (Try.cfg.fc 89) 0 [0, 2, 3, 4] f { tm := [(0, V.str s0), (2, V.str []), (3, V.ref 0), (4, vi i0)], hp := [(0, Ob.row false 1 x0)], nx := 1 } (L89_0_end s0 r) := by
  intro f
  induction f with
  | zero => intro i0 x0 r h; cases h
  | succ f ih =>
    intro i0 x0 r h
    rw [L89_0] at h
    rcases cond_elim h with ⟨e0, h⟩ | ⟨e0, h⟩
    ·
      obtain ⟨ee, e1, h⟩ := bE h
      cases ee with
      | e0 i1 x1 =>
        exact LoopsN.next (L89_0_b0 i0 i1 s0 x0 x1 k e0 (L89_1_ok e1)) (L89_0_b0h i0 i1 s0 x1) (ih h)
    ·
      cases h; exact LoopsN.done (L89_0_b1 i0 s0 x0 k e0) (fun h => by cases h)
theorem P89_0 (i0 : Int) (s0 s1 : List UInt8) (x0 : List V) (k : Nat)
    (c0 : LoopsN Try.prog Try.cfg (k + 8) 0 Try.f89 (Try.cfg.fc 89) 0 [0, 2, 3, 4] (k + 8) { tm := [(0, V.str s0), (2, V.str []), (3, V.ref 0), (4, vi 0)], hp := [(0, Ob.row false 1 [])], nx := 1 } (Exit.exit 0, { tm := [(0, V.str s0), (2, V.str []), (3, V.ref 0), (4, vi i0), (10, V.bool false)], hp := [(0, Ob.row false 1 x0)], nx := 9 }))
    (c1 : cP ((k + 8)) 99 [V.sl none false 1 x0] = some (V.str s1)) :
    cP ((k + 9)) 89 [V.str s0] = some (V.str s1) :=
  byF (k := k) (d := 9) [Hn.loop (Exit.exit 0, { tm := [(0, V.str s0), (2, V.str []), (3, V.ref 0), (4, vi i0), (10, V.bool false)], hp := [(0, Ob.row false 1 x0)], nx := 9 }), Hn.call 38 (V.str s1)] (aI c0 (aI c1 trivial)) (by kernel_rfl)
def F89 (k : Nat) (s0 : List UInt8) : Option (List UInt8) :=
  ((L89_0 k s0 (k + 8) (0) ([])).bind fun
    | L89_0_R.e0 i0 x0 => ((F99 (k + 5) (none) (false) (1) (x0)).bind fun s1 => (some (s1))))
theorem F89_ok {s0 : List UInt8} {k : Nat} {r : List UInt8} (h : F89 k s0 = some r) :
    cP ((k + 9)) 89 [V.str s0] = some (V.str r) := by
  unfold F89 at h
  obtain ⟨ee, e0, h⟩ := bE h
  cases ee with
  | e0 i0 x0 =>
    obtain ⟨s1, e1, h⟩ := bE h
    have h := Option.some.inj h; subst h; exact P89_0 i0 s0 s1 x0 k (L89_0_ok e0) (F99_ok e1)
theorem L86_0_b0 (i0 : Int) (s0 s1 : List UInt8) (x0 : List V) (u0 u1 : UInt8) (k : Nat)
    (c0 : decide (i0 < (↑s0.length : Int)) = true)
    (c1 : StrP s0 i0 u0)
    (c2 : StrP s1 i0 u1)
    (c3 : GrdW ((1 : Nat) = (1 : Nat) ∧ (0 : Nat) < (1 : Nat) ∧ (1 : Nat) ≤ (64 : Nat) ∧ x0.length + (1 : Nat) ≤ maxLen') (V.ref (53 : Nat)) [((0 : Nat), Ob.dead), ((53 : Nat), Ob.row false (1 : Nat) (x0 ++ [vb (IntKind.u8.wrap (↑(BitVec.ofInt IntKind.u8.bits (↑u0.toNat : Int) ^^^ BitVec.ofInt IntKind.u8.bits (↑u1.toNat : Int)).toNat : Int))]))]) :
    evalCode Try.prog Try.cfg (evalFn Try.prog Try.cfg (k + 5)) 0 (Try.cfg.fc 86) (k + 5) (loopBody Try.f86 0) { tm := [(0, V.str s0), (1, V.str s1), (4, V.str []), (5, V.ref 0), (6, vi i0)], hp := [(0, Ob.row false 1 x0)], nx := 1 } = some (Exit.normal, { tm := [(0, V.str s0), (1, V.str s1), (4, V.str []), (5, V.ref 53), (6, vi (IntKind.i64.wrap (i0 + 1))), (11, V.bool true)], hp := [(0, Ob.dead), (49, Ob.row false 1 [vb (IntKind.u8.wrap (↑(BitVec.ofInt IntKind.u8.bits (↑u0.toNat : Int) ^^^ BitVec.ofInt IntKind.u8.bits (↑u1.toNat : Int)).toNat : Int))]), (53, Ob.row false 1 (x0 ++ [vb (IntKind.u8.wrap (↑(BitVec.ofInt IntKind.u8.bits (↑u0.toNat : Int) ^^^ BitVec.ofInt IntKind.u8.bits (↑u1.toNat : Int)).toNat : Int))]))], nx := 73 }) :=
  byL (k := k) (d := 5) [Hn.br 11 true, Hn.op 17 (vb (↑u0.toNat : Int)) [], Hn.op 20 (vb (↑u1.toNat : Int)) [], Hn.op 23 (V.ref 53) [(0, Ob.dead), (53, Ob.row false 1 (x0 ++ [vb (IntKind.u8.wrap (↑(BitVec.ofInt IntKind.u8.bits (↑u0.toNat : Int) ^^^ BitVec.ofInt IntKind.u8.bits (↑u1.toNat : Int)).toNat : Int))]))]] (aI c0 (aI c1 (aI c2 (aI c3 trivial)))) (by kernel_rfl)
theorem L86_0_b0h (i0 : Int) (s0 s1 : List UInt8) (x0 : List V) (u0 u1 : UInt8) : head 0 [0, 1, 4, 5, 6] (Try.cfg.fc 86).acc { tm := [(0, V.str s0), (1, V.str s1), (4, V.str []), (5, V.ref 53), (6, vi (IntKind.i64.wrap (i0 + 1))), (11, V.bool true)], hp := [(0, Ob.dead), (49, Ob.row false 1 [vb (IntKind.u8.wrap (↑(BitVec.ofInt IntKind.u8.bits (↑u0.toNat : Int) ^^^ BitVec.ofInt IntKind.u8.bits (↑u1.toNat : Int)).toNat : Int))]), (53, Ob.row false 1 (x0 ++ [vb (IntKind.u8.wrap (↑(BitVec.ofInt IntKind.u8.bits (↑u0.toNat : Int) ^^^ BitVec.ofInt IntKind.u8.bits (↑u1.toNat : Int)).toNat : Int))]))], nx := 73 } = { tm := [(0, V.str s0), (1, V.str s1), (4, V.str []), (5, V.ref 0), (6, vi (IntKind.i64.wrap (i0 + 1)))], hp := [(0, Ob.row false 1 (x0 ++ [vb (IntKind.u8.wrap (↑(BitVec.ofInt IntKind.u8.bits (↑u0.toNat : Int) ^^^ BitVec.ofInt IntKind.u8.bits (↑u1.toNat : Int)).toNat : Int))]))], nx := 1 } := by kernel_rfl
theorem L86_0_b1 (i0 : Int) (s0 s1 : List UInt8) (x0 : List V) (k : Nat)
    (c0 : decide (i0 < (↑s0.length : Int)) = false) :
    evalCode Try.prog Try.cfg (evalFn Try.prog Try.cfg (k + 5)) 0 (Try.cfg.fc 86) (k + 5) (loopBody Try.f86 0) { tm := [(0, V.str s0), (1, V.str s1), (4, V.str []), (5, V.ref 0), (6, vi i0)], hp := [(0, Ob.row false 1 x0)], nx := 1 } = some (Exit.exit 0, { tm := [(0, V.str s0), (1, V.str s1), (4, V.str []), (5, V.ref 0), (6, vi i0), (11, V.bool false)], hp := [(0, Ob.row false 1 x0)], nx := 17 }) :=
  byL (k := k) (d := 5) [Hn.br 11 false] (aI c0 trivial) (by kernel_rfl)
inductive L86_0_R where
  | e0 (i0 : Int) (x0 : List V)
noncomputable def L86_0_end (s0 : List UInt8) (s1 : List UInt8) : L86_0_R → Exit × St
  | .e0 i0 x0 => (Exit.exit 0, { tm := [(0, V.str s0), (1, V.str s1), (4, V.str []), (5, V.ref 0), (6, V.int .i64 i0), (11, V.bool false)], hp := [(0, Ob.row false 1 x0)], nx := 17 })
def L86_0 (k : Nat) (s0 s1 : List UInt8) : Nat → Int → List V → Option L86_0_R
  | 0, _, _ => none
  | f + 1, i0, x0 => (bif decide (i0 < (↑s0.length : Int)) then ((satB (s0) (i0)).bind fun u0 => ((satB (s1) (i0)).bind fun u1 => (guardP (x0.length + (1 : Nat) ≤ maxLen') (L86_0 k s0 s1 f (IntKind.i64.wrap (i0 + 1)) (x0 ++ [V.int .u8 (IntKind.u8.wrap (↑(BitVec.ofInt IntKind.u8.bits (↑u0.toNat : Int) ^^^ BitVec.ofInt IntKind.u8.bits (↑u1.toNat : Int)).toNat : Int))]))))) else (some (L86_0_R.e0 i0 x0)))
theorem L86_0_ok {s0 s1 : List UInt8} {k : Nat} : ∀ {f : Nat} {i0 : Int} {x0 : List V} {r : L86_0_R}, L86_0 k s0 s1 f i0 x0 = some r →
    LoopsN Try.prog Try.cfg (k + 5) 0 Try.f86 (Try.cfg.fc 86) 0 [0, 1, 4, 5, 6] f { tm := [(0, V.str s0), (1, V.str s1), (4, V.str []), (5, V.ref 0), (6, vi i0)], hp := [(0, Ob.row false 1 x0)], nx := 1 } (L86_0_end s0 s1 r) := by
  intro f
  induction f with
  | zero => intro i0 x0 r h; cases h
  | succ f ih =>
    intro i0 x0 r h
    rw [L86_0] at h
    rcases cond_elim h with ⟨e0, h⟩ | ⟨e0, h⟩
    ·
      obtain ⟨u0, e1, h⟩ := bE h
      obtain ⟨u1, e2, h⟩ := bE h
      obtain ⟨e3, h⟩ := guardP_some.1 h
      exact LoopsN.next (L86_0_b0 i0 s0 s1 x0 u0 u1 k e0 (StrP.of_at e1) (StrP.of_at e2) (GrdW.mk ⟨rfl, by decide, by decide, e3⟩)) (L86_0_b0h i0 s0 s1 x0 u0 u1) (ih h)
    ·
      cases h; exact LoopsN.done (L86_0_b1 i0 s0 s1 x0 k e0) (fun h => by cases h)
theorem P86_0 (i0 : Int) (s0 s1 s2 : List UInt8) (x0 : List V) (k : Nat)
    (c0 : LoopsN Try.prog Try.cfg (k + 5) 0 Try.f86 (Try.cfg.fc 86) 0 [0, 1, 4, 5, 6] (k + 5) { tm := [(0, V.str s0), (1, V.str s1), (4, V.str []), (5, V.ref 0), (6, vi 0)], hp := [(0, Ob.row false 1 [])], nx := 1 } (Exit.exit 0, { tm := [(0, V.str s0), (1, V.str s1), (4, V.str []), (5, V.ref 0), (6, vi i0), (11, V.bool false)], hp := [(0, Ob.row false 1 x0)], nx := 17 }))
    (c1 : cP ((k + 5)) 99 [V.sl none false 1 x0] = some (V.str s2)) :
    cP ((k + 6)) 86 [V.str s0, V.str s1] = some (V.str s2) :=
  byF (k := k) (d := 6) [Hn.loop (Exit.exit 0, { tm := [(0, V.str s0), (1, V.str s1), (4, V.str []), (5, V.ref 0), (6, vi i0), (11, V.bool false)], hp := [(0, Ob.row false 1 x0)], nx := 17 }), Hn.call 25 (V.str s2)] (aI c0 (aI c1 trivial)) (by kernel_rfl)
def F86 (k : Nat) (s0 s1 : List UInt8) : Option (List UInt8) :=
  ((L86_0 k s0 s1 (k + 5) (0) ([])).bind fun
    | L86_0_R.e0 i0 x0 => ((F99 (k + 2) (none) (false) (1) (x0)).bind fun s2 => (some (s2))))
theorem F86_ok {s0 s1 : List UInt8} {k : Nat} {r : List UInt8} (h : F86 k s0 s1 = some r) :
    cP ((k + 6)) 86 [V.str s0, V.str s1] = some (V.str r) := by
  unfold F86 at h
  obtain ⟨ee, e0, h⟩ := bE h
  cases ee with
  | e0 i0 x0 =>
    obtain ⟨s2, e1, h⟩ := bE h
    have h := Option.some.inj h; subst h; exact P86_0 i0 s0 s1 s2 x0 k (L86_0_ok e0) (F99_ok e1)
theorem L98_0_b0 (i0 : Int) (s0 : List UInt8) (x0 : List V) (k : Nat)
    (c0 : decide (i0 < IntKind.i64.wrap ((↑s0.length : Int).tdiv 4)) = true)
    (c1 : SlcP false 0 (V.str s0) (some (vi (IntKind.i64.wrap (4 * i0)))) (some (vi (IntKind.i64.wrap (IntKind.i64.wrap (4 * i0) + 4)))) none (V.str (List.drop (IntKind.i64.wrap (4 * i0)).toNat (List.take (IntKind.i64.wrap (IntKind.i64.wrap (4 * i0) + 4)).toNat s0))))
    (c2 : GrdW ((1 : Nat) = (1 : Nat) ∧ (0 : Nat) < (1 : Nat) ∧ (16 : Nat) ≤ (64 : Nat) ∧ x0.length + (1 : Nat) ≤ maxLen') (V.ref (49 : Nat)) [((0 : Nat), Ob.dead), ((49 : Nat), Ob.row false (1 : Nat) (x0 ++ [V.str (List.drop (IntKind.i64.wrap ((4 : Int) * i0)).toNat (List.take (IntKind.i64.wrap (IntKind.i64.wrap ((4 : Int) * i0) + (4 : Int))).toNat s0))]))]) :
    evalCode Try.prog Try.cfg (evalFn Try.prog Try.cfg (k + 17)) 0 (Try.cfg.fc 98) (k + 17) (loopBody Try.f98 0) { tm := [(0, V.str s0), (2, V.sl (some true) true 0 []), (3, vi (IntKind.i64.wrap ((↑s0.length : Int).tdiv 4))), (4, V.ref 0), (5, vi i0)], hp := [(0, Ob.row false 1 x0)], nx := 1 } = some (Exit.normal, { tm := [(0, V.str s0), (2, V.sl (some true) true 0 []), (3, vi (IntKind.i64.wrap ((↑s0.length : Int).tdiv 4))), (4, V.ref 49), (5, vi (IntKind.i64.wrap (i0 + 1))), (14, V.bool true)], hp := [(0, Ob.dead), (45, Ob.row false 1 [V.str (List.drop (IntKind.i64.wrap (4 * i0)).toNat (List.take (IntKind.i64.wrap (IntKind.i64.wrap (4 * i0) + 4)).toNat s0))]), (49, Ob.row false 1 (x0 ++ [V.str (List.drop (IntKind.i64.wrap (4 * i0)).toNat (List.take (IntKind.i64.wrap (IntKind.i64.wrap (4 * i0) + 4)).toNat s0))]))], nx := 69 }) :=
  byL (k := k) (d := 17) [Hn.br 14 true, Hn.op 24 (V.str (List.drop (IntKind.i64.wrap (4 * i0)).toNat (List.take (IntKind.i64.wrap (IntKind.i64.wrap (4 * i0) + 4)).toNat s0))) [], Hn.op 26 (V.ref 49) [(0, Ob.dead), (49, Ob.row false 1 (x0 ++ [V.str (List.drop (IntKind.i64.wrap (4 * i0)).toNat (List.take (IntKind.i64.wrap (IntKind.i64.wrap (4 * i0) + 4)).toNat s0))]))]] (aI c0 (aI c1 (aI c2 trivial))) (by kernel_rfl)
theorem L98_0_b0h (i0 : Int) (s0 : List UInt8) (x0 : List V) : head 0 [0, 2, 3, 4, 5] (Try.cfg.fc 98).acc { tm := [(0, V.str s0), (2, V.sl (some true) true 0 []), (3, vi (IntKind.i64.wrap ((↑s0.length : Int).tdiv 4))), (4, V.ref 49), (5, vi (IntKind.i64.wrap (i0 + 1))), (14, V.bool true)], hp := [(0, Ob.dead), (45, Ob.row false 1 [V.str (List.drop (IntKind.i64.wrap (4 * i0)).toNat (List.take (IntKind.i64.wrap (IntKind.i64.wrap (4 * i0) + 4)).toNat s0))]), (49, Ob.row false 1 (x0 ++ [V.str (List.drop (IntKind.i64.wrap (4 * i0)).toNat (List.take (IntKind.i64.wrap (IntKind.i64.wrap (4 * i0) + 4)).toNat s0))]))], nx := 69 } = { tm := [(0, V.str s0), (2, V.sl (some true) true 0 []), (3, vi (IntKind.i64.wrap ((↑s0.length : Int).tdiv 4))), (4, V.ref 0), (5, vi (IntKind.i64.wrap (i0 + 1)))], hp := [(0, Ob.row false 1 (x0 ++ [V.str (List.drop (IntKind.i64.wrap (4 * i0)).toNat (List.take (IntKind.i64.wrap (IntKind.i64.wrap (4 * i0) + 4)).toNat s0))]))], nx := 1 } := by kernel_rfl
theorem L98_0_b1 (i0 : Int) (s0 : List UInt8) (x0 : List V) (k : Nat)
    (c0 : decide (i0 < IntKind.i64.wrap ((↑s0.length : Int).tdiv 4)) = false) :
    evalCode Try.prog Try.cfg (evalFn Try.prog Try.cfg (k + 17)) 0 (Try.cfg.fc 98) (k + 17) (loopBody Try.f98 0) { tm := [(0, V.str s0), (2, V.sl (some true) true 0 []), (3, vi (IntKind.i64.wrap ((↑s0.length : Int).tdiv 4))), (4, V.ref 0), (5, vi i0)], hp := [(0, Ob.row false 1 x0)], nx := 1 } = some (Exit.exit 0, { tm := [(0, V.str s0), (2, V.sl (some true) true 0 []), (3, vi (IntKind.i64.wrap ((↑s0.length : Int).tdiv 4))), (4, V.ref 0), (5, vi i0), (14, V.bool false)], hp := [(0, Ob.row false 1 x0)], nx := 13 }) :=
  byL (k := k) (d := 17) [Hn.br 14 false] (aI c0 trivial) (by kernel_rfl)
inductive L98_0_R where
  | e0 (i0 : Int) (x0 : List V)
noncomputable def L98_0_end (s0 : List UInt8) : L98_0_R → Exit × St
  | .e0 i0 x0 => (Exit.exit 0, { tm := [(0, V.str s0), (2, V.sl (some true) true 0 []), (3, V.int .i64 (IntKind.i64.wrap ((↑s0.length : Int).tdiv 4))), (4, V.ref 0), (5, V.int .i64 i0), (14, V.bool false)], hp := [(0, Ob.row false 1 x0)], nx := 13 })
def L98_0 (k : Nat) (s0 : List UInt8) : Nat → Int → List V → Option L98_0_R
  | 0, _, _ => none
  | f + 1, i0, x0 => (bif decide (i0 < IntKind.i64.wrap ((↑s0.length : Int).tdiv 4)) then (guardP ((0 : Int) ≤ IntKind.i64.wrap ((4 : Int) * i0) ∧ IntKind.i64.wrap ((4 : Int) * i0) ≤ IntKind.i64.wrap (IntKind.i64.wrap ((4 : Int) * i0) + (4 : Int)) ∧ IntKind.i64.wrap (IntKind.i64.wrap ((4 : Int) * i0) + (4 : Int)) ≤ (↑s0.length : Int)) (guardP (x0.length + (1 : Nat) ≤ maxLen') (L98_0 k s0 f (IntKind.i64.wrap (i0 + 1)) (x0 ++ [V.str (List.drop (IntKind.i64.wrap (4 * i0)).toNat (List.take (IntKind.i64.wrap (IntKind.i64.wrap (4 * i0) + 4)).toNat s0))])))) else (some (L98_0_R.e0 i0 x0)))
theorem L98_0_ok {s0 : List UInt8} {k : Nat} : ∀ {f : Nat} {i0 : Int} {x0 : List V} {r : L98_0_R}, L98_0 k s0 f i0 x0 = some r →
    LoopsN Try.prog Try.cfg (k + 17) 0 Try.f98 (Try.cfg.fc 98) 0 [0, 2, 3, 4, 5] f { tm := [(0, V.str s0), (2, V.sl (some true) true 0 []), (3, vi (IntKind.i64.wrap ((↑s0.length : Int).tdiv 4))), (4, V.ref 0), (5, vi i0)], hp := [(0, Ob.row false 1 x0)], nx := 1 } (L98_0_end s0 r) := by
  intro f
  induction f with
  | zero => intro i0 x0 r h; cases h
  | succ f ih =>
    intro i0 x0 r h
    rw [L98_0] at h
    rcases cond_elim h with ⟨e0, h⟩ | ⟨e0, h⟩
    ·
      obtain ⟨e1, h⟩ := guardP_some.1 h
      obtain ⟨e2, h⟩ := guardP_some.1 h
      exact LoopsN.next (L98_0_b0 i0 s0 x0 k e0 (SlcP.strMid e1) (GrdW.mk ⟨rfl, by decide, by decide, e2⟩)) (L98_0_b0h i0 s0 x0) (ih h)
    ·
      cases h; exact LoopsN.done (L98_0_b1 i0 s0 x0 k e0) (fun h => by cases h)
theorem L98_1_b0 (i0 i1 i2 : Int) (s0 s1 s2 s3 s4 s5 : List UInt8) (x1 : List V) (u0 : UInt8) (k : Nat)
    (c0 : decide (i1 < IntKind.i64.wrap (4 * IntKind.i64.wrap (IntKind.i64.wrap ((↑s0.length : Int).tdiv 4) + 7))) = true)
    (c1 : IdxR x1.length (IntKind.i64.wrap (i1 - 1)) 1 1 (V.ept 0 (IntKind.i64.wrap (i1 - 1)).toNat 0))
    (c2 : LdP Try.prog 9 x1 (IntKind.i64.wrap (i1 - 1)).toNat 0 (V.str s1))
    (c3 : GrdP (IntKind.i64 = IntKind.i64 ∧ IntKind.i64.wrap ((↑s0.length : Int).tdiv (4 : Int)) ≠ (0 : Int)) (vi (i1.tmod (IntKind.i64.wrap ((↑s0.length : Int).tdiv (4 : Int))))))
    (c4 : decide (i1.tmod (IntKind.i64.wrap ((↑s0.length : Int).tdiv 4)) = 0) = true)
    (c5 : SlcP false 0 (V.str s1) (some (vi 1)) none none (V.str (List.drop (Int.toNat 1) s1)))
    (c6 : SlcP false 0 (V.str s1) none (some (vi 1)) none (V.str (List.take (Int.toNat 1) s1)))
    (c7 : GrdP ((List.drop (Int.toNat (1 : Int)) s1).length + (List.take (Int.toNat (1 : Int)) s1).length ≤ maxText) (V.str (List.drop (Int.toNat (1 : Int)) s1 ++ List.take (Int.toNat (1 : Int)) s1)))
    (c8 : cP ((k + 17)) 88 [V.str (List.drop (Int.toNat 1) s1 ++ List.take (Int.toNat 1) s1)] = some (V.str s2))
    (c9 : StrP s2 0 u0)
    (c10 : GrdP (IntKind.i64 = IntKind.i64 ∧ IntKind.i64.wrap ((↑s0.length : Int).tdiv (4 : Int)) ≠ (0 : Int)) (vi (IntKind.i64.wrap (i1.tdiv (IntKind.i64.wrap ((↑s0.length : Int).tdiv (4 : Int)))))))
    (c11 : cP ((k + 17)) 107 [vb 2, vi (IntKind.i64.wrap (IntKind.i64.wrap (i1.tdiv (IntKind.i64.wrap ((↑s0.length : Int).tdiv 4))) - 1))] = some (vb i2))
    (c12 : cP ((k + 17)) 99 [V.sl none false 1 [vb (IntKind.u8.wrap (↑(BitVec.ofInt IntKind.u8.bits (↑u0.toNat : Int) ^^^ BitVec.ofInt IntKind.u8.bits i2).toNat : Int))]] = some (V.str s3))
    (c13 : SlcP false 0 (V.str s2) (some (vi 1)) none none (V.str (List.drop (Int.toNat 1) s2)))
    (c14 : GrdP (s3.length + (List.drop (Int.toNat (1 : Int)) s2).length ≤ maxText) (V.str (s3 ++ List.drop (Int.toNat (1 : Int)) s2)))
    (c15 : IdxR x1.length (IntKind.i64.wrap (i1 - IntKind.i64.wrap ((↑s0.length : Int).tdiv 4))) 1 1 (V.ept 0 (IntKind.i64.wrap (i1 - IntKind.i64.wrap ((↑s0.length : Int).tdiv 4))).toNat 0))
    (c16 : LdP Try.prog 9 x1 (IntKind.i64.wrap (i1 - IntKind.i64.wrap ((↑s0.length : Int).tdiv 4))).toNat 0 (V.str s4))
    (c17 : cP ((k + 17)) 86 [V.str s4, V.str (s3 ++ List.drop (Int.toNat 1) s2)] = some (V.str s5))
    (c18 : GrdW ((1 : Nat) = (1 : Nat) ∧ (0 : Nat) < (1 : Nat) ∧ (16 : Nat) ≤ (64 : Nat) ∧ x1.length + (1 : Nat) ≤ maxLen') (V.ref (185 : Nat)) [((0 : Nat), Ob.dead), ((185 : Nat), Ob.row false (1 : Nat) (x1 ++ [V.str s5]))]) :
    evalCode Try.prog Try.cfg (evalFn Try.prog Try.cfg (k + 17)) 0 (Try.cfg.fc 98) (k + 17) (loopBody Try.f98 1) { tm := [(0, V.str s0), (2, V.sl (some true) true 0 []), (3, vi (IntKind.i64.wrap ((↑s0.length : Int).tdiv 4))), (4, V.ref 0), (5, vi i0), (6, vi i1), (14, V.bool false)], hp := [(0, Ob.row false 1 x1)], nx := 1 } = some (Exit.normal, { tm := [(0, V.str s0), (2, V.sl (some true) true 0 []), (3, vi (IntKind.i64.wrap ((↑s0.length : Int).tdiv 4))), (4, V.ref 185), (5, vi i0), (6, vi (IntKind.i64.wrap (i1 + 1))), (7, V.str (s3 ++ List.drop (Int.toNat 1) s2)), (14, V.bool false), (32, V.bool true), (43, V.bool true)], hp := [(0, Ob.dead), (121, Ob.row false 1 [vb (IntKind.u8.wrap (↑(BitVec.ofInt IntKind.u8.bits (↑u0.toNat : Int) ^^^ BitVec.ofInt IntKind.u8.bits i2).toNat : Int))]), (181, Ob.row false 1 [V.str s5]), (185, Ob.row false 1 (x1 ++ [V.str s5]))], nx := 205 }) :=
  byL (k := k) (d := 17) [Hn.br 32 true, Hn.op 38 (V.ept 0 (IntKind.i64.wrap (i1 - 1)).toNat 0) [], Hn.op 39 (V.str s1) [], Hn.op 42 (vi (i1.tmod (IntKind.i64.wrap ((↑s0.length : Int).tdiv 4)))) [], Hn.br 43 true, Hn.op 45 (V.str (List.drop (Int.toNat 1) s1)) [], Hn.op 47 (V.str (List.take (Int.toNat 1) s1)) [], Hn.op 48 (V.str (List.drop (Int.toNat 1) s1 ++ List.take (Int.toNat 1) s1)) [], Hn.call 49 (V.str s2), Hn.op 51 (vb (↑u0.toNat : Int)) [], Hn.op 54 (vi (IntKind.i64.wrap (i1.tdiv (IntKind.i64.wrap ((↑s0.length : Int).tdiv 4))))) [], Hn.call 56 (vb i2), Hn.call 59 (V.str s3), Hn.op 61 (V.str (List.drop (Int.toNat 1) s2)) [], Hn.op 62 (V.str (s3 ++ List.drop (Int.toNat 1) s2)) [], Hn.op 77 (V.ept 0 (IntKind.i64.wrap (i1 - IntKind.i64.wrap ((↑s0.length : Int).tdiv 4))).toNat 0) [], Hn.op 78 (V.str s4) [], Hn.call 80 (V.str s5), Hn.op 82 (V.ref 185) [(0, Ob.dead), (185, Ob.row false 1 (x1 ++ [V.str s5]))]] (aI c0 (aI c1 (aI c2 (aI c3 (aI c4 (aI c5 (aI c6 (aI c7 (aI c8 (aI c9 (aI c10 (aI c11 (aI c12 (aI c13 (aI c14 (aI c15 (aI c16 (aI c17 (aI c18 trivial))))))))))))))))))) (by kernel_rfl)
theorem L98_1_b0h (i0 i1 i2 : Int) (s0 s2 s3 s5 : List UInt8) (x1 : List V) (u0 : UInt8) : head 0 [0, 2, 3, 4, 5, 6, 14] (Try.cfg.fc 98).acc { tm := [(0, V.str s0), (2, V.sl (some true) true 0 []), (3, vi (IntKind.i64.wrap ((↑s0.length : Int).tdiv 4))), (4, V.ref 185), (5, vi i0), (6, vi (IntKind.i64.wrap (i1 + 1))), (7, V.str (s3 ++ List.drop (Int.toNat 1) s2)), (14, V.bool false), (32, V.bool true), (43, V.bool true)], hp := [(0, Ob.dead), (121, Ob.row false 1 [vb (IntKind.u8.wrap (↑(BitVec.ofInt IntKind.u8.bits (↑u0.toNat : Int) ^^^ BitVec.ofInt IntKind.u8.bits i2).toNat : Int))]), (181, Ob.row false 1 [V.str s5]), (185, Ob.row false 1 (x1 ++ [V.str s5]))], nx := 205 } = { tm := [(0, V.str s0), (2, V.sl (some true) true 0 []), (3, vi (IntKind.i64.wrap ((↑s0.length : Int).tdiv 4))), (4, V.ref 0), (5, vi i0), (6, vi (IntKind.i64.wrap (i1 + 1))), (14, V.bool false)], hp := [(0, Ob.row false 1 (x1 ++ [V.str s5]))], nx := 1 } := by kernel_rfl
theorem L98_1_b1 (i0 i1 : Int) (s0 s1 s2 s3 s4 : List UInt8) (x1 : List V) (k : Nat)
    (c0 : decide (i1 < IntKind.i64.wrap (4 * IntKind.i64.wrap (IntKind.i64.wrap ((↑s0.length : Int).tdiv 4) + 7))) = true)
    (c1 : IdxR x1.length (IntKind.i64.wrap (i1 - 1)) 1 1 (V.ept 0 (IntKind.i64.wrap (i1 - 1)).toNat 0))
    (c2 : LdP Try.prog 9 x1 (IntKind.i64.wrap (i1 - 1)).toNat 0 (V.str s1))
    (c3 : GrdP (IntKind.i64 = IntKind.i64 ∧ IntKind.i64.wrap ((↑s0.length : Int).tdiv (4 : Int)) ≠ (0 : Int)) (vi (i1.tmod (IntKind.i64.wrap ((↑s0.length : Int).tdiv (4 : Int))))))
    (c4 : decide (i1.tmod (IntKind.i64.wrap ((↑s0.length : Int).tdiv 4)) = 0) = false)
    (c5 : decide (IntKind.i64.wrap ((↑s0.length : Int).tdiv 4) = 8) = true)
    (c6 : decide (i1.tmod 8 = 4) = true)
    (c7 : cP ((k + 17)) 88 [V.str s1] = some (V.str s2))
    (c8 : IdxR x1.length (IntKind.i64.wrap (i1 - IntKind.i64.wrap ((↑s0.length : Int).tdiv 4))) 1 1 (V.ept 0 (IntKind.i64.wrap (i1 - IntKind.i64.wrap ((↑s0.length : Int).tdiv 4))).toNat 0))
    (c9 : LdP Try.prog 9 x1 (IntKind.i64.wrap (i1 - IntKind.i64.wrap ((↑s0.length : Int).tdiv 4))).toNat 0 (V.str s3))
    (c10 : cP ((k + 17)) 86 [V.str s3, V.str s2] = some (V.str s4))
    (c11 : GrdW ((1 : Nat) = (1 : Nat) ∧ (0 : Nat) < (1 : Nat) ∧ (16 : Nat) ≤ (64 : Nat) ∧ x1.length + (1 : Nat) ≤ maxLen') (V.ref (141 : Nat)) [((0 : Nat), Ob.dead), ((141 : Nat), Ob.row false (1 : Nat) (x1 ++ [V.str s4]))]) :
    evalCode Try.prog Try.cfg (evalFn Try.prog Try.cfg (k + 17)) 0 (Try.cfg.fc 98) (k + 17) (loopBody Try.f98 1) { tm := [(0, V.str s0), (2, V.sl (some true) true 0 []), (3, vi (IntKind.i64.wrap ((↑s0.length : Int).tdiv 4))), (4, V.ref 0), (5, vi i0), (6, vi i1), (14, V.bool false)], hp := [(0, Ob.row false 1 x1)], nx := 1 } = some (Exit.normal, { tm := [(0, V.str s0), (2, V.sl (some true) true 0 []), (3, vi (IntKind.i64.wrap ((↑s0.length : Int).tdiv 4))), (4, V.ref 141), (5, vi i0), (6, vi (IntKind.i64.wrap (i1 + 1))), (7, V.str s2), (14, V.bool false), (32, V.bool true), (43, V.bool false), (69, V.bool true)], hp := [(0, Ob.dead), (137, Ob.row false 1 [V.str s4]), (141, Ob.row false 1 (x1 ++ [V.str s4]))], nx := 161 }) :=
  byL (k := k) (d := 17) [Hn.br 32 true, Hn.op 38 (V.ept 0 (IntKind.i64.wrap (i1 - 1)).toNat 0) [], Hn.op 39 (V.str s1) [], Hn.op 42 (vi (i1.tmod (IntKind.i64.wrap ((↑s0.length : Int).tdiv 4)))) [], Hn.br 43 false, Hn.br 65 true, Hn.br 69 true, Hn.call 71 (V.str s2), Hn.op 77 (V.ept 0 (IntKind.i64.wrap (i1 - IntKind.i64.wrap ((↑s0.length : Int).tdiv 4))).toNat 0) [], Hn.op 78 (V.str s3) [], Hn.call 80 (V.str s4), Hn.op 82 (V.ref 141) [(0, Ob.dead), (141, Ob.row false 1 (x1 ++ [V.str s4]))]] (aI c0 (aI c1 (aI c2 (aI c3 (aI c4 (aI c5 (aI c6 (aI c7 (aI c8 (aI c9 (aI c10 (aI c11 trivial)))))))))))) (by kernel_rfl)
theorem L98_1_b1h (i0 i1 : Int) (s0 s2 s4 : List UInt8) (x1 : List V) : head 0 [0, 2, 3, 4, 5, 6, 14] (Try.cfg.fc 98).acc { tm := [(0, V.str s0), (2, V.sl (some true) true 0 []), (3, vi (IntKind.i64.wrap ((↑s0.length : Int).tdiv 4))), (4, V.ref 141), (5, vi i0), (6, vi (IntKind.i64.wrap (i1 + 1))), (7, V.str s2), (14, V.bool false), (32, V.bool true), (43, V.bool false), (69, V.bool true)], hp := [(0, Ob.dead), (137, Ob.row false 1 [V.str s4]), (141, Ob.row false 1 (x1 ++ [V.str s4]))], nx := 161 } = { tm := [(0, V.str s0), (2, V.sl (some true) true 0 []), (3, vi (IntKind.i64.wrap ((↑s0.length : Int).tdiv 4))), (4, V.ref 0), (5, vi i0), (6, vi (IntKind.i64.wrap (i1 + 1))), (14, V.bool false)], hp := [(0, Ob.row false 1 (x1 ++ [V.str s4]))], nx := 1 } := by kernel_rfl
theorem L98_1_b2 (i0 i1 : Int) (s0 s1 s2 s3 : List UInt8) (x1 : List V) (k : Nat)
    (c0 : decide (i1 < IntKind.i64.wrap (4 * IntKind.i64.wrap (IntKind.i64.wrap ((↑s0.length : Int).tdiv 4) + 7))) = true)
    (c1 : IdxR x1.length (IntKind.i64.wrap (i1 - 1)) 1 1 (V.ept 0 (IntKind.i64.wrap (i1 - 1)).toNat 0))
    (c2 : LdP Try.prog 9 x1 (IntKind.i64.wrap (i1 - 1)).toNat 0 (V.str s1))
    (c3 : GrdP (IntKind.i64 = IntKind.i64 ∧ IntKind.i64.wrap ((↑s0.length : Int).tdiv (4 : Int)) ≠ (0 : Int)) (vi (i1.tmod (IntKind.i64.wrap ((↑s0.length : Int).tdiv (4 : Int))))))
    (c4 : decide (i1.tmod (IntKind.i64.wrap ((↑s0.length : Int).tdiv 4)) = 0) = false)
    (c5 : decide (IntKind.i64.wrap ((↑s0.length : Int).tdiv 4) = 8) = true)
    (c6 : decide (i1.tmod 8 = 4) = false)
    (c7 : IdxR x1.length (IntKind.i64.wrap (i1 - IntKind.i64.wrap ((↑s0.length : Int).tdiv 4))) 1 1 (V.ept 0 (IntKind.i64.wrap (i1 - IntKind.i64.wrap ((↑s0.length : Int).tdiv 4))).toNat 0))
    (c8 : LdP Try.prog 9 x1 (IntKind.i64.wrap (i1 - IntKind.i64.wrap ((↑s0.length : Int).tdiv 4))).toNat 0 (V.str s2))
    (c9 : cP ((k + 17)) 86 [V.str s2, V.str s1] = some (V.str s3))
    (c10 : GrdW ((1 : Nat) = (1 : Nat) ∧ (0 : Nat) < (1 : Nat) ∧ (16 : Nat) ≤ (64 : Nat) ∧ x1.length + (1 : Nat) ≤ maxLen') (V.ref (129 : Nat)) [((0 : Nat), Ob.dead), ((129 : Nat), Ob.row false (1 : Nat) (x1 ++ [V.str s3]))]) :
    evalCode Try.prog Try.cfg (evalFn Try.prog Try.cfg (k + 17)) 0 (Try.cfg.fc 98) (k + 17) (loopBody Try.f98 1) { tm := [(0, V.str s0), (2, V.sl (some true) true 0 []), (3, vi (IntKind.i64.wrap ((↑s0.length : Int).tdiv 4))), (4, V.ref 0), (5, vi i0), (6, vi i1), (14, V.bool false)], hp := [(0, Ob.row false 1 x1)], nx := 1 } = some (Exit.normal, { tm := [(0, V.str s0), (2, V.sl (some true) true 0 []), (3, vi (IntKind.i64.wrap ((↑s0.length : Int).tdiv 4))), (4, V.ref 129), (5, vi i0), (6, vi (IntKind.i64.wrap (i1 + 1))), (7, V.str s1), (14, V.bool false), (32, V.bool true), (43, V.bool false), (69, V.bool false)], hp := [(0, Ob.dead), (125, Ob.row false 1 [V.str s3]), (129, Ob.row false 1 (x1 ++ [V.str s3]))], nx := 149 }) :=
  byL (k := k) (d := 17) [Hn.br 32 true, Hn.op 38 (V.ept 0 (IntKind.i64.wrap (i1 - 1)).toNat 0) [], Hn.op 39 (V.str s1) [], Hn.op 42 (vi (i1.tmod (IntKind.i64.wrap ((↑s0.length : Int).tdiv 4)))) [], Hn.br 43 false, Hn.br 65 true, Hn.br 69 false, Hn.op 77 (V.ept 0 (IntKind.i64.wrap (i1 - IntKind.i64.wrap ((↑s0.length : Int).tdiv 4))).toNat 0) [], Hn.op 78 (V.str s2) [], Hn.call 80 (V.str s3), Hn.op 82 (V.ref 129) [(0, Ob.dead), (129, Ob.row false 1 (x1 ++ [V.str s3]))]] (aI c0 (aI c1 (aI c2 (aI c3 (aI c4 (aI c5 (aI c6 (aI c7 (aI c8 (aI c9 (aI c10 trivial))))))))))) (by kernel_rfl)
theorem L98_1_b2h (i0 i1 : Int) (s0 s1 s3 : List UInt8) (x1 : List V) : head 0 [0, 2, 3, 4, 5, 6, 14] (Try.cfg.fc 98).acc { tm := [(0, V.str s0), (2, V.sl (some true) true 0 []), (3, vi (IntKind.i64.wrap ((↑s0.length : Int).tdiv 4))), (4, V.ref 129), (5, vi i0), (6, vi (IntKind.i64.wrap (i1 + 1))), (7, V.str s1), (14, V.bool false), (32, V.bool true), (43, V.bool false), (69, V.bool false)], hp := [(0, Ob.dead), (125, Ob.row false 1 [V.str s3]), (129, Ob.row false 1 (x1 ++ [V.str s3]))], nx := 149 } = { tm := [(0, V.str s0), (2, V.sl (some true) true 0 []), (3, vi (IntKind.i64.wrap ((↑s0.length : Int).tdiv 4))), (4, V.ref 0), (5, vi i0), (6, vi (IntKind.i64.wrap (i1 + 1))), (14, V.bool false)], hp := [(0, Ob.row false 1 (x1 ++ [V.str s3]))], nx := 1 } := by kernel_rfl
theorem L98_1_b3 (i0 i1 : Int) (s0 s1 s2 s3 : List UInt8) (x1 : List V) (k : Nat)
    (c0 : decide (i1 < IntKind.i64.wrap (4 * IntKind.i64.wrap (IntKind.i64.wrap ((↑s0.length : Int).tdiv 4) + 7))) = true)
    (c1 : IdxR x1.length (IntKind.i64.wrap (i1 - 1)) 1 1 (V.ept 0 (IntKind.i64.wrap (i1 - 1)).toNat 0))
    (c2 : LdP Try.prog 9 x1 (IntKind.i64.wrap (i1 - 1)).toNat 0 (V.str s1))
    (c3 : GrdP (IntKind.i64 = IntKind.i64 ∧ IntKind.i64.wrap ((↑s0.length : Int).tdiv (4 : Int)) ≠ (0 : Int)) (vi (i1.tmod (IntKind.i64.wrap ((↑s0.length : Int).tdiv (4 : Int))))))
    (c4 : decide (i1.tmod (IntKind.i64.wrap ((↑s0.length : Int).tdiv 4)) = 0) = false)
    (c5 : decide (IntKind.i64.wrap ((↑s0.length : Int).tdiv 4) = 8) = false)
    (c6 : IdxR x1.length (IntKind.i64.wrap (i1 - IntKind.i64.wrap ((↑s0.length : Int).tdiv 4))) 1 1 (V.ept 0 (IntKind.i64.wrap (i1 - IntKind.i64.wrap ((↑s0.length : Int).tdiv 4))).toNat 0))
    (c7 : LdP Try.prog 9 x1 (IntKind.i64.wrap (i1 - IntKind.i64.wrap ((↑s0.length : Int).tdiv 4))).toNat 0 (V.str s2))
    (c8 : cP ((k + 17)) 86 [V.str s2, V.str s1] = some (V.str s3))
    (c9 : GrdW ((1 : Nat) = (1 : Nat) ∧ (0 : Nat) < (1 : Nat) ∧ (16 : Nat) ≤ (64 : Nat) ∧ x1.length + (1 : Nat) ≤ maxLen') (V.ref (129 : Nat)) [((0 : Nat), Ob.dead), ((129 : Nat), Ob.row false (1 : Nat) (x1 ++ [V.str s3]))]) :
    evalCode Try.prog Try.cfg (evalFn Try.prog Try.cfg (k + 17)) 0 (Try.cfg.fc 98) (k + 17) (loopBody Try.f98 1) { tm := [(0, V.str s0), (2, V.sl (some true) true 0 []), (3, vi (IntKind.i64.wrap ((↑s0.length : Int).tdiv 4))), (4, V.ref 0), (5, vi i0), (6, vi i1), (14, V.bool false)], hp := [(0, Ob.row false 1 x1)], nx := 1 } = some (Exit.normal, { tm := [(0, V.str s0), (2, V.sl (some true) true 0 []), (3, vi (IntKind.i64.wrap ((↑s0.length : Int).tdiv 4))), (4, V.ref 129), (5, vi i0), (6, vi (IntKind.i64.wrap (i1 + 1))), (7, V.str s1), (14, V.bool false), (32, V.bool true), (43, V.bool false), (69, V.bool false)], hp := [(0, Ob.dead), (125, Ob.row false 1 [V.str s3]), (129, Ob.row false 1 (x1 ++ [V.str s3]))], nx := 149 }) :=
  byL (k := k) (d := 17) [Hn.br 32 true, Hn.op 38 (V.ept 0 (IntKind.i64.wrap (i1 - 1)).toNat 0) [], Hn.op 39 (V.str s1) [], Hn.op 42 (vi (i1.tmod (IntKind.i64.wrap ((↑s0.length : Int).tdiv 4)))) [], Hn.br 43 false, Hn.br 65 false, Hn.op 77 (V.ept 0 (IntKind.i64.wrap (i1 - IntKind.i64.wrap ((↑s0.length : Int).tdiv 4))).toNat 0) [], Hn.op 78 (V.str s2) [], Hn.call 80 (V.str s3), Hn.op 82 (V.ref 129) [(0, Ob.dead), (129, Ob.row false 1 (x1 ++ [V.str s3]))]] (aI c0 (aI c1 (aI c2 (aI c3 (aI c4 (aI c5 (aI c6 (aI c7 (aI c8 (aI c9 trivial)))))))))) (by kernel_rfl)
theorem L98_1_b3h (i0 i1 : Int) (s0 s1 s3 : List UInt8) (x1 : List V) : head 0 [0, 2, 3, 4, 5, 6, 14] (Try.cfg.fc 98).acc { tm := [(0, V.str s0), (2, V.sl (some true) true 0 []), (3, vi (IntKind.i64.wrap ((↑s0.length : Int).tdiv 4))), (4, V.ref 129), (5, vi i0), (6, vi (IntKind.i64.wrap (i1 + 1))), (7, V.str s1), (14, V.bool false), (32, V.bool true), (43, V.bool false), (69, V.bool false)], hp := [(0, Ob.dead), (125, Ob.row false 1 [V.str s3]), (129, Ob.row false 1 (x1 ++ [V.str s3]))], nx := 149 } = { tm := [(0, V.str s0), (2, V.sl (some true) true 0 []), (3, vi (IntKind.i64.wrap ((↑s0.length : Int).tdiv 4))), (4, V.ref 0), (5, vi i0), (6, vi (IntKind.i64.wrap (i1 + 1))), (14, V.bool false)], hp := [(0, Ob.row false 1 (x1 ++ [V.str s3]))], nx := 1 } := by kernel_rfl
theorem L98_1_b4 (i0 i1 : Int) (s0 : List UInt8) (x1 : List V) (k : Nat)
    (c0 : decide (i1 < IntKind.i64.wrap (4 * IntKind.i64.wrap (IntKind.i64.wrap ((↑s0.length : Int).tdiv 4) + 7))) = false) :
    evalCode Try.prog Try.cfg (evalFn Try.prog Try.cfg (k + 17)) 0 (Try.cfg.fc 98) (k + 17) (loopBody Try.f98 1) { tm := [(0, V.str s0), (2, V.sl (some true) true 0 []), (3, vi (IntKind.i64.wrap ((↑s0.length : Int).tdiv 4))), (4, V.ref 0), (5, vi i0), (6, vi i1), (14, V.bool false)], hp := [(0, Ob.row false 1 x1)], nx := 1 } = some (Exit.exit 2, { tm := [(0, V.str s0), (2, V.sl (some true) true 0 []), (3, vi (IntKind.i64.wrap ((↑s0.length : Int).tdiv 4))), (4, V.ref 0), (5, vi i0), (6, vi i1), (14, V.bool false), (32, V.bool false)], hp := [(0, Ob.row false 1 x1)], nx := 21 }) :=
  byL (k := k) (d := 17) [Hn.br 32 false] (aI c0 trivial) (by kernel_rfl)
inductive L98_1_R where
  | e0 (i1 : Int) (x1 : List V)
noncomputable def L98_1_end (i0 : Int) (s0 : List UInt8) : L98_1_R → Exit × St
  | .e0 i1 x1 => (Exit.exit 2, { tm := [(0, V.str s0), (2, V.sl (some true) true 0 []), (3, V.int .i64 (IntKind.i64.wrap ((↑s0.length : Int).tdiv 4))), (4, V.ref 0), (5, V.int .i64 i0), (6, V.int .i64 i1), (14, V.bool false), (32, V.bool false)], hp := [(0, Ob.row false 1 x1)], nx := 21 })
def L98_1 (k : Nat) (i0 : Int) (s0 : List UInt8) : Nat → Int → List V → Option L98_1_R
  | 0, _, _ => none
  | f + 1, i1, x1 => (bif decide (i1 < IntKind.i64.wrap (4 * IntKind.i64.wrap (IntKind.i64.wrap ((↑s0.length : Int).tdiv 4) + 7))) then (guardP ((0 : Int) ≤ IntKind.i64.wrap (i1 - (1 : Int)) ∧ IntKind.i64.wrap (i1 - (1 : Int)) < (↑x1.length : Int)) ((((x1)[(IntKind.i64.wrap (i1 - 1)).toNat]?).bind dS).bind fun s1 => (guardP (IntKind.i64.wrap ((↑s0.length : Int).tdiv (4 : Int)) ≠ (0 : Int)) (bif decide (i1.tmod (IntKind.i64.wrap ((↑s0.length : Int).tdiv 4)) = 0) then (guardP ((0 : Int) ≤ (1 : Int) ∧ (1 : Int) ≤ (↑s1.length : Int)) (guardP ((List.drop (Int.toNat (1 : Int)) s1).length + (List.take (Int.toNat (1 : Int)) s1).length ≤ maxText) ((F88 (k + 2) (List.drop (Int.toNat 1) s1 ++ List.take (Int.toNat 1) s1)).bind fun s2 => ((satB (s2) (0)).bind fun u0 => ((F107 (k + 8) (2) (IntKind.i64.wrap (IntKind.i64.wrap (i1.tdiv (IntKind.i64.wrap ((↑s0.length : Int).tdiv 4))) - 1))).bind fun i2 => ((F99 (k + 14) (none) (false) (1) ([V.int .u8 (IntKind.u8.wrap (↑(BitVec.ofInt IntKind.u8.bits (↑u0.toNat : Int) ^^^ BitVec.ofInt IntKind.u8.bits i2).toNat : Int))])).bind fun s3 => (guardP ((0 : Int) ≤ (1 : Int) ∧ (1 : Int) ≤ (↑s2.length : Int)) (guardP (s3.length + (List.drop (Int.toNat (1 : Int)) s2).length ≤ maxText) (guardP ((0 : Int) ≤ IntKind.i64.wrap (i1 - IntKind.i64.wrap ((↑s0.length : Int).tdiv (4 : Int))) ∧ IntKind.i64.wrap (i1 - IntKind.i64.wrap ((↑s0.length : Int).tdiv (4 : Int))) < (↑x1.length : Int)) ((((x1)[(IntKind.i64.wrap (i1 - IntKind.i64.wrap ((↑s0.length : Int).tdiv 4))).toNat]?).bind dS).bind fun s4 => ((F86 (k + 11) (s4) (s3 ++ List.drop (Int.toNat 1) s2)).bind fun s5 => (guardP (x1.length + (1 : Nat) ≤ maxLen') (L98_1 k i0 s0 f (IntKind.i64.wrap (i1 + 1)) (x1 ++ [V.str s5])))))))))))))) else (bif decide (IntKind.i64.wrap ((↑s0.length : Int).tdiv 4) = 8) then (bif decide (i1.tmod 8 = 4) then ((F88 (k + 2) (s1)).bind fun s2 => (guardP ((0 : Int) ≤ IntKind.i64.wrap (i1 - IntKind.i64.wrap ((↑s0.length : Int).tdiv (4 : Int))) ∧ IntKind.i64.wrap (i1 - IntKind.i64.wrap ((↑s0.length : Int).tdiv (4 : Int))) < (↑x1.length : Int)) ((((x1)[(IntKind.i64.wrap (i1 - IntKind.i64.wrap ((↑s0.length : Int).tdiv 4))).toNat]?).bind dS).bind fun s3 => ((F86 (k + 11) (s3) (s2)).bind fun s4 => (guardP (x1.length + (1 : Nat) ≤ maxLen') (L98_1 k i0 s0 f (IntKind.i64.wrap (i1 + 1)) (x1 ++ [V.str s4]))))))) else (guardP ((0 : Int) ≤ IntKind.i64.wrap (i1 - IntKind.i64.wrap ((↑s0.length : Int).tdiv (4 : Int))) ∧ IntKind.i64.wrap (i1 - IntKind.i64.wrap ((↑s0.length : Int).tdiv (4 : Int))) < (↑x1.length : Int)) ((((x1)[(IntKind.i64.wrap (i1 - IntKind.i64.wrap ((↑s0.length : Int).tdiv 4))).toNat]?).bind dS).bind fun s2 => ((F86 (k + 11) (s2) (s1)).bind fun s3 => (guardP (x1.length + (1 : Nat) ≤ maxLen') (L98_1 k i0 s0 f (IntKind.i64.wrap (i1 + 1)) (x1 ++ [V.str s3]))))))) else (guardP ((0 : Int) ≤ IntKind.i64.wrap (i1 - IntKind.i64.wrap ((↑s0.length : Int).tdiv (4 : Int))) ∧ IntKind.i64.wrap (i1 - IntKind.i64.wrap ((↑s0.length : Int).tdiv (4 : Int))) < (↑x1.length : Int)) ((((x1)[(IntKind.i64.wrap (i1 - IntKind.i64.wrap ((↑s0.length : Int).tdiv 4))).toNat]?).bind dS).bind fun s2 => ((F86 (k + 11) (s2) (s1)).bind fun s3 => (guardP (x1.length + (1 : Nat) ≤ maxLen') (L98_1 k i0 s0 f (IntKind.i64.wrap (i1 + 1)) (x1 ++ [V.str s3]))))))))))) else (some (L98_1_R.e0 i1 x1)))
theorem L98_1_ok {i0 : Int} {s0 : List UInt8} {k : Nat} : ∀ {f : Nat} {i1 : Int} {x1 : List V} {r : L98_1_R}, L98_1 k i0 s0 f i1 x1 = some r →
    LoopsN Try.prog Try.cfg (k + 17) 0 Try.f98 (Try.cfg.fc 98) 1 [0, 2, 3, 4, 5, 6, 14] f { tm := [(0, V.str s0), (2, V.sl (some true) true 0 []), (3, vi (IntKind.i64.wrap ((↑s0.length : Int).tdiv 4))), (4, V.ref 0), (5, vi i0), (6, vi i1), (14, V.bool false)], hp := [(0, Ob.row false 1 x1)], nx := 1 } (L98_1_end i0 s0 r) := by
  intro f
  induction f with
  | zero => intro i1 x1 r h; cases h
  | succ f ih =>
    intro i1 x1 r h
    rw [L98_1] at h
    rcases cond_elim h with ⟨e0, h⟩ | ⟨e0, h⟩
    ·
      obtain ⟨e1, h⟩ := guardP_some.1 h
      obtain ⟨s1, e2, h⟩ := bE h
      obtain ⟨e3, h⟩ := guardP_some.1 h
      rcases cond_elim h with ⟨e4, h⟩ | ⟨e4, h⟩
      ·
        obtain ⟨e5, h⟩ := guardP_some.1 h
        obtain ⟨e6, h⟩ := guardP_some.1 h
        obtain ⟨s2, e7, h⟩ := bE h
        obtain ⟨u0, e8, h⟩ := bE h
        obtain ⟨i2, e9, h⟩ := bE h
        obtain ⟨s3, e10, h⟩ := bE h
        obtain ⟨e11, h⟩ := guardP_some.1 h
        obtain ⟨e12, h⟩ := guardP_some.1 h
        obtain ⟨e13, h⟩ := guardP_some.1 h
        obtain ⟨s4, e14, h⟩ := bE h
        obtain ⟨s5, e15, h⟩ := bE h
        obtain ⟨e16, h⟩ := guardP_some.1 h
        exact LoopsN.next (L98_1_b0 i0 i1 i2 s0 s1 s2 s3 s4 s5 x1 u0 k e0 (IdxR.mk' e1 rfl) (LdP.mk (get_d dS_ok e2 :) (by kernel_rfl)) (GrdP.mk ⟨rfl, e3⟩) e4 (SlcP.strFromS e5) (SlcP.strUptoS e5) (GrdP.mk e6) (F88_ok e7) (StrP.of_at e8) (GrdP.mk ⟨rfl, e3⟩) (F107_ok e9) (F99_ok e10) (SlcP.strFromS e11) (GrdP.mk e12) (IdxR.mk' e13 rfl) (LdP.mk (get_d dS_ok e14 :) (by kernel_rfl)) (F86_ok e15) (GrdW.mk ⟨rfl, by decide, by decide, e16⟩)) (L98_1_b0h i0 i1 i2 s0 s2 s3 s5 x1 u0) (ih h)
      ·
        rcases cond_elim h with ⟨e5, h⟩ | ⟨e5, h⟩
        ·
          rcases cond_elim h with ⟨e6, h⟩ | ⟨e6, h⟩
          ·
            obtain ⟨s2, e7, h⟩ := bE h
            obtain ⟨e8, h⟩ := guardP_some.1 h
            obtain ⟨s3, e9, h⟩ := bE h
            obtain ⟨s4, e10, h⟩ := bE h
            obtain ⟨e11, h⟩ := guardP_some.1 h
            exact LoopsN.next (L98_1_b1 i0 i1 s0 s1 s2 s3 s4 x1 k e0 (IdxR.mk' e1 rfl) (LdP.mk (get_d dS_ok e2 :) (by kernel_rfl)) (GrdP.mk ⟨rfl, e3⟩) e4 e5 e6 (F88_ok e7) (IdxR.mk' e8 rfl) (LdP.mk (get_d dS_ok e9 :) (by kernel_rfl)) (F86_ok e10) (GrdW.mk ⟨rfl, by decide, by decide, e11⟩)) (L98_1_b1h i0 i1 s0 s2 s4 x1) (ih h)
          ·
            obtain ⟨e7, h⟩ := guardP_some.1 h
            obtain ⟨s2, e8, h⟩ := bE h
            obtain ⟨s3, e9, h⟩ := bE h
            obtain ⟨e10, h⟩ := guardP_some.1 h
            exact LoopsN.next (L98_1_b2 i0 i1 s0 s1 s2 s3 x1 k e0 (IdxR.mk' e1 rfl) (LdP.mk (get_d dS_ok e2 :) (by kernel_rfl)) (GrdP.mk ⟨rfl, e3⟩) e4 e5 e6 (IdxR.mk' e7 rfl) (LdP.mk (get_d dS_ok e8 :) (by kernel_rfl)) (F86_ok e9) (GrdW.mk ⟨rfl, by decide, by decide, e10⟩)) (L98_1_b2h i0 i1 s0 s1 s3 x1) (ih h)
        ·
          obtain ⟨e6, h⟩ := guardP_some.1 h
          obtain ⟨s2, e7, h⟩ := bE h
          obtain ⟨s3, e8, h⟩ := bE h
          obtain ⟨e9, h⟩ := guardP_some.1 h
          exact LoopsN.next (L98_1_b3 i0 i1 s0 s1 s2 s3 x1 k e0 (IdxR.mk' e1 rfl) (LdP.mk (get_d dS_ok e2 :) (by kernel_rfl)) (GrdP.mk ⟨rfl, e3⟩) e4 e5 (IdxR.mk' e6 rfl) (LdP.mk (get_d dS_ok e7 :) (by kernel_rfl)) (F86_ok e8) (GrdW.mk ⟨rfl, by decide, by decide, e9⟩)) (L98_1_b3h i0 i1 s0 s1 s3 x1) (ih h)
    ·
      cases h; exact LoopsN.done (L98_1_b4 i0 i1 s0 x1 k e0) (fun h => by cases h)
theorem P98_0 (i0 i1 : Int) (s0 : List UInt8) (x0 x1 : List V) (k : Nat)
    (c0 : LoopsN Try.prog Try.cfg (k + 17) 0 Try.f98 (Try.cfg.fc 98) 0 [0, 2, 3, 4, 5] (k + 17) { tm := [(0, V.str s0), (2, V.sl (some true) true 0 []), (3, vi (IntKind.i64.wrap ((↑s0.length : Int).tdiv 4))), (4, V.ref 0), (5, vi 0)], hp := [(0, Ob.row false 1 [])], nx := 1 } (Exit.exit 0, { tm := [(0, V.str s0), (2, V.sl (some true) true 0 []), (3, vi (IntKind.i64.wrap ((↑s0.length : Int).tdiv 4))), (4, V.ref 0), (5, vi i0), (14, V.bool false)], hp := [(0, Ob.row false 1 x0)], nx := 13 }))
    (c1 : LoopsN Try.prog Try.cfg (k + 17) 0 Try.f98 (Try.cfg.fc 98) 1 [0, 2, 3, 4, 5, 6, 14] (k + 17) { tm := [(0, V.str s0), (2, V.sl (some true) true 0 []), (3, vi (IntKind.i64.wrap ((↑s0.length : Int).tdiv 4))), (4, V.ref 0), (5, vi i0), (6, vi (IntKind.i64.wrap ((↑s0.length : Int).tdiv 4))), (14, V.bool false)], hp := [(0, Ob.row false 1 x0)], nx := 1 } (Exit.exit 2, { tm := [(0, V.str s0), (2, V.sl (some true) true 0 []), (3, vi (IntKind.i64.wrap ((↑s0.length : Int).tdiv 4))), (4, V.ref 0), (5, vi i0), (6, vi i1), (14, V.bool false), (32, V.bool false)], hp := [(0, Ob.row false 1 x1)], nx := 21 })) :
    cP ((k + 18)) 98 [V.str s0] = some (V.sl none false 1 x1) :=
  byF (k := k) (d := 18) [Hn.loop (Exit.exit 0, { tm := [(0, V.str s0), (2, V.sl (some true) true 0 []), (3, vi (IntKind.i64.wrap ((↑s0.length : Int).tdiv 4))), (4, V.ref 0), (5, vi i0), (14, V.bool false)], hp := [(0, Ob.row false 1 x0)], nx := 13 }), Hn.loop (Exit.exit 2, { tm := [(0, V.str s0), (2, V.sl (some true) true 0 []), (3, vi (IntKind.i64.wrap ((↑s0.length : Int).tdiv 4))), (4, V.ref 0), (5, vi i0), (6, vi i1), (14, V.bool false), (32, V.bool false)], hp := [(0, Ob.row false 1 x1)], nx := 21 })] (aI c0 (aI c1 trivial)) (by kernel_rfl)
def F98 (k : Nat) (s0 : List UInt8) : Option (Option Bool × Bool × Nat × List V) :=
  ((L98_0 k s0 (k + 17) (0) ([])).bind fun
    | L98_0_R.e0 i0 x0 => ((L98_1 k i0 s0 (k + 17) (IntKind.i64.wrap ((↑s0.length : Int).tdiv 4)) (x0)).bind fun
    | L98_1_R.e0 i1 x1 => (some ((none), (false), (1), (x1)))))
theorem F98_ok {s0 : List UInt8} {k : Nat} {r : Option Bool × Bool × Nat × List V} (h : F98 k s0 = some r) :
    cP ((k + 18)) 98 [V.str s0] = some (V.sl r.1 r.2.1 r.2.2.1 r.2.2.2) := by
  unfold F98 at h
  obtain ⟨ee, e0, h⟩ := bE h
  cases ee with
  | e0 i0 x0 =>
    obtain ⟨ee, e1, h⟩ := bE h
    cases ee with
    | e0 i1 x1 =>
      have h := Option.some.inj h; subst h; exact P98_0 i0 i1 s0 x0 x1 k (L98_0_ok e0) (L98_1_ok e1)
theorem L85_0_b0 (i0 : Int) (b0 : Bool) (s0 s1 s2 s3 s4 : List UInt8) (x0 x1 : List V) (o0 : Option Bool) (n0 k : Nat)
    (c0 : decide (i0 < (↑x0.length : Int)) = true)
    (c1 : IdxP x0 i0 n0 1 (V.str s1))
    (c2 : IdxP x0 (IntKind.i64.wrap (i0 + 1)) n0 1 (V.str s2))
    (c3 : GrdP (s1.length + s2.length ≤ maxText) (V.str (s1 ++ s2)))
    (c4 : IdxP x0 (IntKind.i64.wrap (i0 + 2)) n0 1 (V.str s3))
    (c5 : GrdP ((s1 ++ s2).length + s3.length ≤ maxText) (V.str (s1 ++ s2 ++ s3)))
    (c6 : IdxP x0 (IntKind.i64.wrap (i0 + 3)) n0 1 (V.str s4))
    (c7 : GrdP ((s1 ++ s2 ++ s3).length + s4.length ≤ maxText) (V.str (s1 ++ s2 ++ s3 ++ s4)))
    (c8 : GrdW ((1 : Nat) = (1 : Nat) ∧ (0 : Nat) < (1 : Nat) ∧ (16 : Nat) ≤ (64 : Nat) ∧ x1.length + (1 : Nat) ≤ maxLen') (V.ref (113 : Nat)) [((0 : Nat), Ob.dead), ((113 : Nat), Ob.row false (1 : Nat) (x1 ++ [V.str (s1 ++ s2 ++ s3 ++ s4)]))]) :
    evalCode Try.prog Try.cfg (evalFn Try.prog Try.cfg (k + 20)) 0 (Try.cfg.fc 85) (k + 20) (loopBody Try.f85 0) { tm := [(0, V.str s0), (2, V.sl (some true) true 0 []), (3, V.sl o0 b0 n0 x0), (4, V.ref 0), (5, vi i0)], hp := [(0, Ob.row false 1 x1)], nx := 1 } = some (Exit.normal, { tm := [(0, V.str s0), (2, V.sl (some true) true 0 []), (3, V.sl o0 b0 n0 x0), (4, V.ref 113), (5, vi (IntKind.i64.wrap (i0 + 4))), (12, V.bool true)], hp := [(0, Ob.dead), (109, Ob.row false 1 [V.str (s1 ++ s2 ++ s3 ++ s4)]), (113, Ob.row false 1 (x1 ++ [V.str (s1 ++ s2 ++ s3 ++ s4)]))], nx := 133 }) :=
  byL (k := k) (d := 20) [Hn.br 12 true, Hn.op 18 ((V.str s1).cpt 0) [], Hn.op 23 ((V.str s2).cpt 0) [], Hn.op 25 (V.str (s1 ++ s2)) [], Hn.op 29 ((V.str s3).cpt 0) [], Hn.op 31 (V.str (s1 ++ s2 ++ s3)) [], Hn.op 35 ((V.str s4).cpt 0) [], Hn.op 37 (V.str (s1 ++ s2 ++ s3 ++ s4)) [], Hn.op 39 (V.ref 113) [(0, Ob.dead), (113, Ob.row false 1 (x1 ++ [V.str (s1 ++ s2 ++ s3 ++ s4)]))]] (aI c0 (aI c1 (aI c2 (aI c3 (aI c4 (aI c5 (aI c6 (aI c7 (aI c8 trivial))))))))) (by kernel_rfl)
theorem L85_0_b0h (i0 : Int) (b0 : Bool) (s0 s1 s2 s3 s4 : List UInt8) (x0 x1 : List V) (o0 : Option Bool) (n0 : Nat) : head 0 [0, 2, 3, 4, 5] (Try.cfg.fc 85).acc { tm := [(0, V.str s0), (2, V.sl (some true) true 0 []), (3, V.sl o0 b0 n0 x0), (4, V.ref 113), (5, vi (IntKind.i64.wrap (i0 + 4))), (12, V.bool true)], hp := [(0, Ob.dead), (109, Ob.row false 1 [V.str (s1 ++ s2 ++ s3 ++ s4)]), (113, Ob.row false 1 (x1 ++ [V.str (s1 ++ s2 ++ s3 ++ s4)]))], nx := 133 } = { tm := [(0, V.str s0), (2, V.sl (some true) true 0 []), (3, V.sl o0 b0 n0 x0), (4, V.ref 0), (5, vi (IntKind.i64.wrap (i0 + 4)))], hp := [(0, Ob.row false 1 (x1 ++ [V.str (s1 ++ s2 ++ s3 ++ s4)]))], nx := 1 } := by kernel_rfl
theorem L85_0_b1 (i0 : Int) (b0 : Bool) (s0 : List UInt8) (x0 x1 : List V) (o0 : Option Bool) (n0 k : Nat)
    (c0 : decide (i0 < (↑x0.length : Int)) = false) :
    evalCode Try.prog Try.cfg (evalFn Try.prog Try.cfg (k + 20)) 0 (Try.cfg.fc 85) (k + 20) (loopBody Try.f85 0) { tm := [(0, V.str s0), (2, V.sl (some true) true 0 []), (3, V.sl o0 b0 n0 x0), (4, V.ref 0), (5, vi i0)], hp := [(0, Ob.row false 1 x1)], nx := 1 } = some (Exit.exit 0, { tm := [(0, V.str s0), (2, V.sl (some true) true 0 []), (3, V.sl o0 b0 n0 x0), (4, V.ref 0), (5, vi i0), (12, V.bool false)], hp := [(0, Ob.row false 1 x1)], nx := 17 }) :=
  byL (k := k) (d := 20) [Hn.br 12 false] (aI c0 trivial) (by kernel_rfl)
inductive L85_0_R where
  | e0 (i0 : Int) (x1 : List V)
noncomputable def L85_0_end (b0 : Bool) (s0 : List UInt8) (x0 : List V) (o0 : Option Bool) (n0 : Nat) : L85_0_R → Exit × St
  | .e0 i0 x1 => (Exit.exit 0, { tm := [(0, V.str s0), (2, V.sl (some true) true 0 []), (3, V.sl o0 b0 n0 x0), (4, V.ref 0), (5, V.int .i64 i0), (12, V.bool false)], hp := [(0, Ob.row false 1 x1)], nx := 17 })
def L85_0 (k : Nat) (b0 : Bool) (s0 : List UInt8) (x0 : List V) (o0 : Option Bool) (n0 : Nat) : Nat → Int → List V → Option L85_0_R
  | 0, _, _ => none
  | f + 1, i0, x1 => (bif decide (i0 < (↑x0.length : Int)) then (guardP (n0 = (1 : Nat)) (((at? (x0) (i0)).bind dS).bind fun s1 => (((at? (x0) (IntKind.i64.wrap (i0 + 1))).bind dS).bind fun s2 => (guardP (s1.length + s2.length ≤ maxText) (((at? (x0) (IntKind.i64.wrap (i0 + 2))).bind dS).bind fun s3 => (guardP ((s1 ++ s2).length + s3.length ≤ maxText) (((at? (x0) (IntKind.i64.wrap (i0 + 3))).bind dS).bind fun s4 => (guardP ((s1 ++ s2 ++ s3).length + s4.length ≤ maxText) (guardP (x1.length + (1 : Nat) ≤ maxLen') (L85_0 k b0 s0 x0 o0 n0 f (IntKind.i64.wrap (i0 + 4)) (x1 ++ [V.str (s1 ++ s2 ++ s3 ++ s4)]))))))))))) else (some (L85_0_R.e0 i0 x1)))
theorem L85_0_ok {b0 : Bool} {s0 : List UInt8} {x0 : List V} {o0 : Option Bool} {n0 k : Nat} : ∀ {f : Nat} {i0 : Int} {x1 : List V} {r : L85_0_R}, L85_0 k b0 s0 x0 o0 n0 f i0 x1 = some r →
    LoopsN Try.prog Try.cfg (k + 20) 0 Try.f85 (Try.cfg.fc 85) 0 [0, 2, 3, 4, 5] f { tm := [(0, V.str s0), (2, V.sl (some true) true 0 []), (3, V.sl o0 b0 n0 x0), (4, V.ref 0), (5, vi i0)], hp := [(0, Ob.row false 1 x1)], nx := 1 } (L85_0_end b0 s0 x0 o0 n0 r) := by
  intro f
  induction f with
  | zero => intro i0 x1 r h; cases h
  | succ f ih =>
    intro i0 x1 r h
    rw [L85_0] at h
    rcases cond_elim h with ⟨e0, h⟩ | ⟨e0, h⟩
    ·
      obtain ⟨e1, h⟩ := guardP_some.1 h
      obtain ⟨s1, e2, h⟩ := bE h
      obtain ⟨s2, e3, h⟩ := bE h
      obtain ⟨e4, h⟩ := guardP_some.1 h
      obtain ⟨s3, e5, h⟩ := bE h
      obtain ⟨e6, h⟩ := guardP_some.1 h
      obtain ⟨s4, e7, h⟩ := bE h
      obtain ⟨e8, h⟩ := guardP_some.1 h
      obtain ⟨e9, h⟩ := guardP_some.1 h
      exact LoopsN.next (L85_0_b0 i0 b0 s0 s1 s2 s3 s4 x0 x1 o0 n0 k e0 (IdxP.of_at' (at_d dS_ok e2 :) e1) (IdxP.of_at' (at_d dS_ok e3 :) e1) (GrdP.mk e4) (IdxP.of_at' (at_d dS_ok e5 :) e1) (GrdP.mk e6) (IdxP.of_at' (at_d dS_ok e7 :) e1) (GrdP.mk e8) (GrdW.mk ⟨rfl, by decide, by decide, e9⟩)) (L85_0_b0h i0 b0 s0 s1 s2 s3 s4 x0 x1 o0 n0) (ih h)
    ·
      cases h; exact LoopsN.done (L85_0_b1 i0 b0 s0 x0 x1 o0 n0 k e0) (fun h => by cases h)
theorem P85_0 (i0 : Int) (b0 : Bool) (s0 : List UInt8) (x0 x1 : List V) (o0 : Option Bool) (n0 k : Nat)
    (c0 : cP ((k + 20)) 98 [V.str s0] = some (V.sl o0 b0 n0 x0))
    (c1 : LoopsN Try.prog Try.cfg (k + 20) 0 Try.f85 (Try.cfg.fc 85) 0 [0, 2, 3, 4, 5] (k + 20) { tm := [(0, V.str s0), (2, V.sl (some true) true 0 []), (3, V.sl o0 b0 n0 x0), (4, V.ref 0), (5, vi 0)], hp := [(0, Ob.row false 1 [])], nx := 1 } (Exit.exit 0, { tm := [(0, V.str s0), (2, V.sl (some true) true 0 []), (3, V.sl o0 b0 n0 x0), (4, V.ref 0), (5, vi i0), (12, V.bool false)], hp := [(0, Ob.row false 1 x1)], nx := 17 })) :
    cP ((k + 21)) 85 [V.str s0] = some (V.sl none false 1 x1) :=
  byF (k := k) (d := 21) [Hn.call 7 (V.sl o0 b0 n0 x0), Hn.loop (Exit.exit 0, { tm := [(0, V.str s0), (2, V.sl (some true) true 0 []), (3, V.sl o0 b0 n0 x0), (4, V.ref 0), (5, vi i0), (12, V.bool false)], hp := [(0, Ob.row false 1 x1)], nx := 17 })] (aI c0 (aI c1 trivial)) (by kernel_rfl)
def F85 (k : Nat) (s0 : List UInt8) : Option (Option Bool × Bool × Nat × List V) :=
  ((F98 (k + 2) (s0)).bind fun (o0, b0, n0, x0) => ((L85_0 k b0 s0 x0 o0 n0 (k + 20) (0) ([])).bind fun
    | L85_0_R.e0 i0 x1 => (some ((none), (false), (1), (x1)))))
theorem F85_ok {s0 : List UInt8} {k : Nat} {r : Option Bool × Bool × Nat × List V} (h : F85 k s0 = some r) :
    cP ((k + 21)) 85 [V.str s0] = some (V.sl r.1 r.2.1 r.2.2.1 r.2.2.2) := by
  unfold F85 at h
  obtain ⟨⟨o0, b0, n0, x0⟩, e0, h⟩ := bE h
  obtain ⟨ee, e1, h⟩ := bE h
  cases ee with
  | e0 i0 x1 =>
    have h := Option.some.inj h; subst h; exact P85_0 i0 b0 s0 x0 x1 o0 n0 k (F98_ok e0) (L85_0_ok e1)
theorem P61_0 (s0 : List UInt8) (k : Nat)
    (c0 : decide ((↑s0.length : Int) = 16) = true) :
    cP ((k + 3)) 61 [V.str s0] = some (V.bool true) :=
  byF (k := k) (d := 3) [Hn.br 6 true] (aI c0 trivial) (by kernel_rfl)
theorem P61_1 (s0 : List UInt8) (k : Nat)
    (c0 : decide ((↑s0.length : Int) = 16) = false) :
    cP ((k + 3)) 61 [V.str s0] = some (V.bool (decide ((↑s0.length : Int) = 32))) :=
  byF (k := k) (d := 3) [Hn.br 6 false] (aI c0 trivial) (by kernel_rfl)
def F61 (k : Nat) (s0 : List UInt8) : Option (Bool) :=
  (bif decide ((↑s0.length : Int) = 16) then (some (true)) else (some (decide ((↑s0.length : Int) = 32))))
theorem F61_ok {s0 : List UInt8} {k : Nat} {r : Bool} (h : F61 k s0 = some r) :
    cP ((k + 3)) 61 [V.str s0] = some (V.bool r) := by
  unfold F61 at h
  rcases cond_elim h with ⟨e0, h⟩ | ⟨e0, h⟩
  ·
    have h := Option.some.inj h; subst h; exact P61_0 s0 k e0
  ·
    have h := Option.some.inj h; subst h; exact P61_1 s0 k e0
theorem L64_0_b0 (i0 : Int) (b0 : Bool) (s0 s1 s4 s5 s6 s7 s8 s9 : List UInt8) (x0 : List V) (o0 : Option Bool) (n0 k : Nat)
    (c0 : decide (i0 < (↑x0.length : Int)) = true)
    (c1 : cP ((k + 23)) 88 [V.str s4] = some (V.str s5))
    (c2 : cP ((k + 23)) 87 [V.str s5] = some (V.str s6))
    (c3 : decide (IntKind.i64.wrap (i0 + 1) < (↑x0.length : Int)) = true)
    (c4 : cP ((k + 23)) 89 [V.str s6] = some (V.str s7))
    (c5 : IdxP x0 i0 n0 1 (V.str s8))
    (c6 : cP ((k + 23)) 86 [V.str s7, V.str s8] = some (V.str s9)) :
    evalCode Try.prog Try.cfg (evalFn Try.prog Try.cfg (k + 23)) 0 (Try.cfg.fc 64) (k + 23) (loopBody Try.f64 0) { tm := [(0, V.str s0), (1, V.str s1), (4, V.str []), (5, V.sl o0 b0 n0 x0), (6, V.str s4), (7, vi i0)], hp := [], nx := 0 } = some (Exit.normal, { tm := [(0, V.str s0), (1, V.str s1), (4, V.str []), (5, V.sl o0 b0 n0 x0), (6, V.str s9), (7, vi (IntKind.i64.wrap (i0 + 1))), (18, V.bool true), (28, V.bool true)], hp := [], nx := 104 }) :=
  byL (k := k) (d := 23) [Hn.br 18 true, Hn.call 22 (V.str s5), Hn.call 23 (V.str s6), Hn.br 28 true, Hn.call 30 (V.str s7), Hn.op 34 ((V.str s8).cpt 0) [], Hn.call 36 (V.str s9)] (aI c0 (aI c1 (aI c2 (aI c3 (aI c4 (aI c5 (aI c6 trivial))))))) (by kernel_rfl)
theorem L64_0_b0h (i0 : Int) (b0 : Bool) (s0 s1 s9 : List UInt8) (x0 : List V) (o0 : Option Bool) (n0 : Nat) : head 0 [0, 1, 4, 5, 6, 7] (Try.cfg.fc 64).acc { tm := [(0, V.str s0), (1, V.str s1), (4, V.str []), (5, V.sl o0 b0 n0 x0), (6, V.str s9), (7, vi (IntKind.i64.wrap (i0 + 1))), (18, V.bool true), (28, V.bool true)], hp := [], nx := 104 } = { tm := [(0, V.str s0), (1, V.str s1), (4, V.str []), (5, V.sl o0 b0 n0 x0), (6, V.str s9), (7, vi (IntKind.i64.wrap (i0 + 1)))], hp := [], nx := 0 } := by kernel_rfl
theorem L64_0_b1 (i0 : Int) (b0 : Bool) (s0 s1 s4 s5 s6 s7 s8 : List UInt8) (x0 : List V) (o0 : Option Bool) (n0 k : Nat)
    (c0 : decide (i0 < (↑x0.length : Int)) = true)
    (c1 : cP ((k + 23)) 88 [V.str s4] = some (V.str s5))
    (c2 : cP ((k + 23)) 87 [V.str s5] = some (V.str s6))
    (c3 : decide (IntKind.i64.wrap (i0 + 1) < (↑x0.length : Int)) = false)
    (c4 : IdxP x0 i0 n0 1 (V.str s7))
    (c5 : cP ((k + 23)) 86 [V.str s6, V.str s7] = some (V.str s8)) :
    evalCode Try.prog Try.cfg (evalFn Try.prog Try.cfg (k + 23)) 0 (Try.cfg.fc 64) (k + 23) (loopBody Try.f64 0) { tm := [(0, V.str s0), (1, V.str s1), (4, V.str []), (5, V.sl o0 b0 n0 x0), (6, V.str s4), (7, vi i0)], hp := [], nx := 0 } = some (Exit.normal, { tm := [(0, V.str s0), (1, V.str s1), (4, V.str []), (5, V.sl o0 b0 n0 x0), (6, V.str s8), (7, vi (IntKind.i64.wrap (i0 + 1))), (18, V.bool true), (28, V.bool false)], hp := [], nx := 92 }) :=
  byL (k := k) (d := 23) [Hn.br 18 true, Hn.call 22 (V.str s5), Hn.call 23 (V.str s6), Hn.br 28 false, Hn.op 34 ((V.str s7).cpt 0) [], Hn.call 36 (V.str s8)] (aI c0 (aI c1 (aI c2 (aI c3 (aI c4 (aI c5 trivial)))))) (by kernel_rfl)
theorem L64_0_b1h (i0 : Int) (b0 : Bool) (s0 s1 s8 : List UInt8) (x0 : List V) (o0 : Option Bool) (n0 : Nat) : head 0 [0, 1, 4, 5, 6, 7] (Try.cfg.fc 64).acc { tm := [(0, V.str s0), (1, V.str s1), (4, V.str []), (5, V.sl o0 b0 n0 x0), (6, V.str s8), (7, vi (IntKind.i64.wrap (i0 + 1))), (18, V.bool true), (28, V.bool false)], hp := [], nx := 92 } = { tm := [(0, V.str s0), (1, V.str s1), (4, V.str []), (5, V.sl o0 b0 n0 x0), (6, V.str s8), (7, vi (IntKind.i64.wrap (i0 + 1)))], hp := [], nx := 0 } := by kernel_rfl
theorem L64_0_b2 (i0 : Int) (b0 : Bool) (s0 s1 s4 : List UInt8) (x0 : List V) (o0 : Option Bool) (n0 k : Nat)
    (c0 : decide (i0 < (↑x0.length : Int)) = false) :
    evalCode Try.prog Try.cfg (evalFn Try.prog Try.cfg (k + 23)) 0 (Try.cfg.fc 64) (k + 23) (loopBody Try.f64 0) { tm := [(0, V.str s0), (1, V.str s1), (4, V.str []), (5, V.sl o0 b0 n0 x0), (6, V.str s4), (7, vi i0)], hp := [], nx := 0 } = some (Exit.exit 0, { tm := [(0, V.str s0), (1, V.str s1), (4, V.str []), (5, V.sl o0 b0 n0 x0), (6, V.str s4), (7, vi i0), (18, V.bool false)], hp := [], nx := 16 }) :=
  byL (k := k) (d := 23) [Hn.br 18 false] (aI c0 trivial) (by kernel_rfl)
inductive L64_0_R where
  | e0 (i0 : Int) (s4 : List UInt8)
noncomputable def L64_0_end (b0 : Bool) (s0 : List UInt8) (s1 : List UInt8) (x0 : List V) (o0 : Option Bool) (n0 : Nat) : L64_0_R → Exit × St
  | .e0 i0 s4 => (Exit.exit 0, { tm := [(0, V.str s0), (1, V.str s1), (4, V.str []), (5, V.sl o0 b0 n0 x0), (6, V.str s4), (7, V.int .i64 i0), (18, V.bool false)], hp := [], nx := 16 })
def L64_0 (k : Nat) (b0 : Bool) (s0 s1 : List UInt8) (x0 : List V) (o0 : Option Bool) (n0 : Nat) : Nat → List UInt8 → Int → Option L64_0_R
  | 0, _, _ => none
  | f + 1, s4, i0 => (bif decide (i0 < (↑x0.length : Int)) then ((F88 (k + 8) (s4)).bind fun s5 => ((F87 (k + 12) (s5)).bind fun s6 => (bif decide (IntKind.i64.wrap (i0 + 1) < (↑x0.length : Int)) then ((F89 (k + 14) (s6)).bind fun s7 => (guardP (n0 = (1 : Nat)) (((at? (x0) (i0)).bind dS).bind fun s8 => ((F86 (k + 17) (s7) (s8)).bind fun s9 => (L64_0 k b0 s0 s1 x0 o0 n0 f (s9) (IntKind.i64.wrap (i0 + 1))))))) else (guardP (n0 = (1 : Nat)) (((at? (x0) (i0)).bind dS).bind fun s7 => ((F86 (k + 17) (s6) (s7)).bind fun s8 => (L64_0 k b0 s0 s1 x0 o0 n0 f (s8) (IntKind.i64.wrap (i0 + 1))))))))) else (some (L64_0_R.e0 i0 s4)))
theorem L64_0_ok {b0 : Bool} {s0 s1 : List UInt8} {x0 : List V} {o0 : Option Bool} {n0 k : Nat} : ∀ {f : Nat} {s4 : List UInt8} {i0 : Int} {r : L64_0_R}, L64_0 k b0 s0 s1 x0 o0 n0 f s4 i0 = some r →
    LoopsN Try.prog Try.cfg (k + 23) 0 Try.f64 (Try.cfg.fc 64) 0 [0, 1, 4, 5, 6, 7] f { tm := [(0, V.str s0), (1, V.str s1), (4, V.str []), (5, V.sl o0 b0 n0 x0), (6, V.str s4), (7, vi i0)], hp := [], nx := 0 } (L64_0_end b0 s0 s1 x0 o0 n0 r) := by
  intro f
  induction f with
  | zero => intro s4 i0 r h; cases h
  | succ f ih =>
    intro s4 i0 r h
    rw [L64_0] at h
    rcases cond_elim h with ⟨e0, h⟩ | ⟨e0, h⟩
    ·
      obtain ⟨s5, e1, h⟩ := bE h
      obtain ⟨s6, e2, h⟩ := bE h
      rcases cond_elim h with ⟨e3, h⟩ | ⟨e3, h⟩
      ·
        obtain ⟨s7, e4, h⟩ := bE h
        obtain ⟨e5, h⟩ := guardP_some.1 h
        obtain ⟨s8, e6, h⟩ := bE h
        obtain ⟨s9, e7, h⟩ := bE h
        exact LoopsN.next (L64_0_b0 i0 b0 s0 s1 s4 s5 s6 s7 s8 s9 x0 o0 n0 k e0 (F88_ok e1) (F87_ok e2) e3 (F89_ok e4) (IdxP.of_at' (at_d dS_ok e6 :) e5) (F86_ok e7)) (L64_0_b0h i0 b0 s0 s1 s9 x0 o0 n0) (ih h)
      ·
        obtain ⟨e4, h⟩ := guardP_some.1 h
        obtain ⟨s7, e5, h⟩ := bE h
        obtain ⟨s8, e6, h⟩ := bE h
        exact LoopsN.next (L64_0_b1 i0 b0 s0 s1 s4 s5 s6 s7 s8 x0 o0 n0 k e0 (F88_ok e1) (F87_ok e2) e3 (IdxP.of_at' (at_d dS_ok e5 :) e4) (F86_ok e6)) (L64_0_b1h i0 b0 s0 s1 s8 x0 o0 n0) (ih h)
    ·
      cases h; exact LoopsN.done (L64_0_b2 i0 b0 s0 s1 s4 x0 o0 n0 k e0) (fun h => by cases h)
theorem P64_0 (i0 : Int) (b0 : Bool) (s0 s1 s2 s3 s4 : List UInt8) (x0 : List V) (o0 : Option Bool) (n0 k : Nat)
    (c0 : cP ((k + 23)) 85 [V.str s0] = some (V.sl o0 b0 n0 x0))
    (c1 : IdxP x0 0 n0 1 (V.str s2))
    (c2 : cP ((k + 23)) 86 [V.str s1, V.str s2] = some (V.str s3))
    (c3 : LoopsN Try.prog Try.cfg (k + 23) 0 Try.f64 (Try.cfg.fc 64) 0 [0, 1, 4, 5, 6, 7] (k + 23) { tm := [(0, V.str s0), (1, V.str s1), (4, V.str []), (5, V.sl o0 b0 n0 x0), (6, V.str s3), (7, vi 1)], hp := [], nx := 0 } (Exit.exit 0, { tm := [(0, V.str s0), (1, V.str s1), (4, V.str []), (5, V.sl o0 b0 n0 x0), (6, V.str s4), (7, vi i0), (18, V.bool false)], hp := [], nx := 16 })) :
    cP ((k + 24)) 64 [V.str s0, V.str s1] = some (V.str s4) :=
  byF (k := k) (d := 24) [Hn.call 9 (V.sl o0 b0 n0 x0), Hn.op 12 ((V.str s2).cpt 0) [], Hn.call 14 (V.str s3), Hn.loop (Exit.exit 0, { tm := [(0, V.str s0), (1, V.str s1), (4, V.str []), (5, V.sl o0 b0 n0 x0), (6, V.str s4), (7, vi i0), (18, V.bool false)], hp := [], nx := 16 })] (aI c0 (aI c1 (aI c2 (aI c3 trivial)))) (by kernel_rfl)
def F64 (k : Nat) (s0 s1 : List UInt8) : Option (List UInt8) :=
  ((F85 (k + 2) (s0)).bind fun (o0, b0, n0, x0) => (guardP (n0 = (1 : Nat)) (((at? (x0) (0)).bind dS).bind fun s2 => ((F86 (k + 17) (s1) (s2)).bind fun s3 => ((L64_0 k b0 s0 s1 x0 o0 n0 (k + 23) (s3) (1)).bind fun
    | L64_0_R.e0 i0 s4 => (some (s4)))))))
theorem F64_ok {s0 s1 : List UInt8} {k : Nat} {r : List UInt8} (h : F64 k s0 s1 = some r) :
    cP ((k + 24)) 64 [V.str s0, V.str s1] = some (V.str r) := by
  unfold F64 at h
  obtain ⟨⟨o0, b0, n0, x0⟩, e0, h⟩ := bE h
  obtain ⟨e1, h⟩ := guardP_some.1 h
  obtain ⟨s2, e2, h⟩ := bE h
  obtain ⟨s3, e3, h⟩ := bE h
  obtain ⟨ee, e4, h⟩ := bE h
  cases ee with
  | e0 i0 s4 =>
    have h := Option.some.inj h; subst h; exact P64_0 i0 b0 s0 s1 s2 s3 s4 x0 o0 n0 k (F85_ok e0) (IdxP.of_at' (at_d dS_ok e2 :) e1) (F86_ok e3) (L64_0_ok e4)
end Go.Proofs
