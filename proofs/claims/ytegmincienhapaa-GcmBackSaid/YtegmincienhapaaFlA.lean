/-
  What functions of bytes as a field answer, and those of the reference, each checked against the program.
-/
import Derived.Test.YtegmincienhapaaShort
set_option linter.unusedVariables false
set_option maxHeartbeats 0
set_option maxRecDepth 100000
namespace Go.Proofs
open Go Go.Sym

theorem P106_0 (i0 : Int) (k : Nat)
    (c0 : decide (128 ≤ i0) = true) :
    cP ((k + 3)) 106 [vb i0] = some (vb (IntKind.u8.wrap (↑(BitVec.ofInt IntKind.u8.bits (IntKind.u8.wrap (i0 * 2 ^ min (Int.toNat 1) IntKind.u8.bits)) ^^^ BitVec.ofInt IntKind.u8.bits 27).toNat : Int))) :=
  byF (k := k) (d := 3) [Hn.br 7 true] (aI c0 trivial) (by kernel_rfl)
theorem P106_1 (i0 : Int) (k : Nat)
    (c0 : decide (128 ≤ i0) = false) :
    cP ((k + 3)) 106 [vb i0] = some (vb (IntKind.u8.wrap (i0 * 2 ^ min (Int.toNat 1) IntKind.u8.bits))) :=
  byF (k := k) (d := 3) [Hn.br 7 false] (aI c0 trivial) (by kernel_rfl)
def F106 (k : Nat) (i0 : Int) : Option (Int) :=
  (bif decide (128 ≤ i0) then (some (IntKind.u8.wrap (↑(BitVec.ofInt IntKind.u8.bits (IntKind.u8.wrap (i0 * 2 ^ min (Int.toNat 1) IntKind.u8.bits)) ^^^ BitVec.ofInt IntKind.u8.bits 27).toNat : Int))) else (some (IntKind.u8.wrap (i0 * 2 ^ min (Int.toNat 1) IntKind.u8.bits))))
theorem F106_ok {i0 : Int} {k : Nat} {r : Int} (h : F106 k i0 = some r) :
    cP ((k + 3)) 106 [vb i0] = some (vb r) := by
  unfold F106 at h
  rcases cond_elim h with ⟨e0, h⟩ | ⟨e0, h⟩
  ·
    have h := Option.some.inj h; subst h; exact P106_0 i0 k e0
  ·
    have h := Option.some.inj h; subst h; exact P106_1 i0 k e0
theorem L96_0_b0 (i1 i2 i3 i4 i5 : Int) (k : Nat)
    (c0 : decide (i4 < 8) = true)
    (c1 : GrdP ((0 : Int) ≤ i4) (vb (i1.fdiv ((2 : Int) ^ min i4.toNat IntKind.u8.bits))))
    (c2 : decide (IntKind.u8.wrap (↑(BitVec.ofInt IntKind.u8.bits (i1.fdiv (2 ^ min i4.toNat IntKind.u8.bits)) &&& BitVec.ofInt IntKind.u8.bits 1).toNat : Int) = 1) = true)
    (c3 : cP ((k + 5)) 106 [vb i2] = some (vb i5)) :
    evalCode Try.prog Try.cfg (evalFn Try.prog Try.cfg (k + 5)) 0 (Try.cfg.fc 96) (k + 5) (loopBody Try.f96 0) { tm := [(0, vb i2), (1, vb i1), (4, vb 0), (5, vb i3), (7, vi i4)], hp := [], nx := 0 } = some (Exit.normal, { tm := [(0, vb i5), (1, vb i1), (4, vb 0), (5, vb (IntKind.u8.wrap (↑(BitVec.ofInt IntKind.u8.bits i3 ^^^ BitVec.ofInt IntKind.u8.bits i2).toNat : Int))), (6, vi i4), (7, vi (IntKind.i64.wrap (i4 + 1))), (8, V.bool true), (14, V.bool true)], hp := [], nx := 68 }) :=
  byL (k := k) (d := 5) [Hn.br 8 true, Hn.op 12 (vb (i1.fdiv (2 ^ min i4.toNat IntKind.u8.bits))) [], Hn.br 14 true, Hn.call 19 (vb i5)] (aI c0 (aI c1 (aI c2 (aI c3 trivial)))) (by kernel_rfl)
theorem L96_0_b0h (i1 i2 i3 i4 i5 : Int) : head 0 [0, 1, 4, 5, 7] (Try.cfg.fc 96).acc { tm := [(0, vb i5), (1, vb i1), (4, vb 0), (5, vb (IntKind.u8.wrap (↑(BitVec.ofInt IntKind.u8.bits i3 ^^^ BitVec.ofInt IntKind.u8.bits i2).toNat : Int))), (6, vi i4), (7, vi (IntKind.i64.wrap (i4 + 1))), (8, V.bool true), (14, V.bool true)], hp := [], nx := 68 } = { tm := [(0, vb i5), (1, vb i1), (4, vb 0), (5, vb (IntKind.u8.wrap (↑(BitVec.ofInt IntKind.u8.bits i3 ^^^ BitVec.ofInt IntKind.u8.bits i2).toNat : Int))), (7, vi (IntKind.i64.wrap (i4 + 1)))], hp := [], nx := 0 } := by kernel_rfl
theorem L96_0_b1 (i1 i2 i3 i4 i5 : Int) (k : Nat)
    (c0 : decide (i4 < 8) = true)
    (c1 : GrdP ((0 : Int) ≤ i4) (vb (i1.fdiv ((2 : Int) ^ min i4.toNat IntKind.u8.bits))))
    (c2 : decide (IntKind.u8.wrap (↑(BitVec.ofInt IntKind.u8.bits (i1.fdiv (2 ^ min i4.toNat IntKind.u8.bits)) &&& BitVec.ofInt IntKind.u8.bits 1).toNat : Int) = 1) = false)
    (c3 : cP ((k + 5)) 106 [vb i2] = some (vb i5)) :
    evalCode Try.prog Try.cfg (evalFn Try.prog Try.cfg (k + 5)) 0 (Try.cfg.fc 96) (k + 5) (loopBody Try.f96 0) { tm := [(0, vb i2), (1, vb i1), (4, vb 0), (5, vb i3), (7, vi i4)], hp := [], nx := 0 } = some (Exit.normal, { tm := [(0, vb i5), (1, vb i1), (4, vb 0), (5, vb i3), (6, vi i4), (7, vi (IntKind.i64.wrap (i4 + 1))), (8, V.bool true), (14, V.bool false)], hp := [], nx := 52 }) :=
  byL (k := k) (d := 5) [Hn.br 8 true, Hn.op 12 (vb (i1.fdiv (2 ^ min i4.toNat IntKind.u8.bits))) [], Hn.br 14 false, Hn.call 19 (vb i5)] (aI c0 (aI c1 (aI c2 (aI c3 trivial)))) (by kernel_rfl)
theorem L96_0_b1h (i1 i3 i4 i5 : Int) : head 0 [0, 1, 4, 5, 7] (Try.cfg.fc 96).acc { tm := [(0, vb i5), (1, vb i1), (4, vb 0), (5, vb i3), (6, vi i4), (7, vi (IntKind.i64.wrap (i4 + 1))), (8, V.bool true), (14, V.bool false)], hp := [], nx := 52 } = { tm := [(0, vb i5), (1, vb i1), (4, vb 0), (5, vb i3), (7, vi (IntKind.i64.wrap (i4 + 1)))], hp := [], nx := 0 } := by kernel_rfl
theorem L96_0_b2 (i1 i2 i3 i4 : Int) (k : Nat)
    (c0 : decide (i4 < 8) = false) :
    evalCode Try.prog Try.cfg (evalFn Try.prog Try.cfg (k + 5)) 0 (Try.cfg.fc 96) (k + 5) (loopBody Try.f96 0) { tm := [(0, vb i2), (1, vb i1), (4, vb 0), (5, vb i3), (7, vi i4)], hp := [], nx := 0 } = some (Exit.exit 0, { tm := [(0, vb i2), (1, vb i1), (4, vb 0), (5, vb i3), (7, vi i4), (8, V.bool false)], hp := [], nx := 4 }) :=
  byL (k := k) (d := 5) [Hn.br 8 false] (aI c0 trivial) (by kernel_rfl)
inductive L96_0_R where
  | e0 (i2 : Int) (i3 : Int) (i4 : Int)
noncomputable def L96_0_end (i1 : Int) : L96_0_R → Exit × St
  | .e0 i2 i3 i4 => (Exit.exit 0, { tm := [(0, V.int .u8 i2), (1, V.int .u8 i1), (4, V.int .u8 0), (5, V.int .u8 i3), (7, V.int .i64 i4), (8, V.bool false)], hp := [], nx := 4 })
def L96_0 (k : Nat) (i1 : Int) : Nat → Int → Int → Int → Option L96_0_R
  | 0, _, _, _ => none
  | f + 1, i2, i3, i4 => (bif decide (i4 < 8) then (guardP ((0 : Int) ≤ i4) (bif decide (IntKind.u8.wrap (↑(BitVec.ofInt IntKind.u8.bits (i1.fdiv (2 ^ min i4.toNat IntKind.u8.bits)) &&& BitVec.ofInt IntKind.u8.bits 1).toNat : Int) = 1) then ((F106 (k + 2) (i2)).bind fun i5 => (L96_0 k i1 f (i5) (IntKind.u8.wrap (↑(BitVec.ofInt IntKind.u8.bits i3 ^^^ BitVec.ofInt IntKind.u8.bits i2).toNat : Int)) (IntKind.i64.wrap (i4 + 1)))) else ((F106 (k + 2) (i2)).bind fun i5 => (L96_0 k i1 f (i5) (i3) (IntKind.i64.wrap (i4 + 1)))))) else (some (L96_0_R.e0 i2 i3 i4)))
theorem L96_0_ok {i1 : Int} {k : Nat} : ∀ {f : Nat} {i2 : Int} {i3 : Int} {i4 : Int} {r : L96_0_R}, L96_0 k i1 f i2 i3 i4 = some r →
    LoopsN Try.prog Try.cfg (k + 5) 0 Try.f96 (Try.cfg.fc 96) 0 [0, 1, 4, 5, 7] f { tm := [(0, vb i2), (1, vb i1), (4, vb 0), (5, vb i3), (7, vi i4)], hp := [], nx := 0 } (L96_0_end i1 r) := by
  intro f
  induction f with
  | zero => intro i2 i3 i4 r h; cases h
  | succ f ih =>
    intro i2 i3 i4 r h
    rw [L96_0] at h
    rcases cond_elim h with ⟨e0, h⟩ | ⟨e0, h⟩
    ·
      obtain ⟨e1, h⟩ := guardP_some.1 h
      rcases cond_elim h with ⟨e2, h⟩ | ⟨e2, h⟩
      ·
        obtain ⟨i5, e3, h⟩ := bE h
        exact LoopsN.next (L96_0_b0 i1 i2 i3 i4 i5 k e0 (GrdP.mk e1) e2 (F106_ok e3)) (L96_0_b0h i1 i2 i3 i4 i5) (ih h)
      ·
        obtain ⟨i5, e3, h⟩ := bE h
        exact LoopsN.next (L96_0_b1 i1 i2 i3 i4 i5 k e0 (GrdP.mk e1) e2 (F106_ok e3)) (L96_0_b1h i1 i3 i4 i5) (ih h)
    ·
      cases h; exact LoopsN.done (L96_0_b2 i1 i2 i3 i4 k e0) (fun h => by cases h)
theorem P96_0 (i0 i1 i2 i3 i4 : Int) (k : Nat)
    (c0 : LoopsN Try.prog Try.cfg (k + 5) 0 Try.f96 (Try.cfg.fc 96) 0 [0, 1, 4, 5, 7] (k + 5) { tm := [(0, vb i0), (1, vb i1), (4, vb 0), (5, vb 0), (7, vi 0)], hp := [], nx := 0 } (Exit.exit 0, { tm := [(0, vb i2), (1, vb i1), (4, vb 0), (5, vb i3), (7, vi i4), (8, V.bool false)], hp := [], nx := 4 })) :
    cP ((k + 6)) 96 [vb i0, vb i1] = some (vb i3) :=
  byF (k := k) (d := 6) [Hn.loop (Exit.exit 0, { tm := [(0, vb i2), (1, vb i1), (4, vb 0), (5, vb i3), (7, vi i4), (8, V.bool false)], hp := [], nx := 4 })] (aI c0 trivial) (by kernel_rfl)
def F96 (k : Nat) (i0 i1 : Int) : Option (Int) :=
  ((L96_0 k i1 (k + 5) (i0) (0) (0)).bind fun
    | L96_0_R.e0 i2 i3 i4 => (some (i3)))
theorem F96_ok {i0 i1 : Int} {k : Nat} {r : Int} (h : F96 k i0 i1 = some r) :
    cP ((k + 6)) 96 [vb i0, vb i1] = some (vb r) := by
  unfold F96 at h
  obtain ⟨ee, e0, h⟩ := bE h
  cases ee with
  | e0 i2 i3 i4 =>
    have h := Option.some.inj h; subst h; exact P96_0 i0 i1 i2 i3 i4 k (L96_0_ok e0)
theorem L95_0_b0 (i2 i3 i4 i5 i6 : Int) (k : Nat)
    (c0 : decide (0 < i3) = true)
    (c1 : decide (IntKind.i64.wrap (↑(BitVec.ofInt IntKind.i64.bits i3 &&& BitVec.ofInt IntKind.i64.bits 1).toNat : Int) = 1) = true)
    (c2 : cP ((k + 8)) 96 [vb i4, vb i2] = some (vb i5))
    (c3 : cP ((k + 8)) 96 [vb i2, vb i2] = some (vb i6)) :
    evalCode Try.prog Try.cfg (evalFn Try.prog Try.cfg (k + 8)) 0 (Try.cfg.fc 95) (k + 8) (loopBody Try.f95 0) { tm := [(0, vb i2), (1, vi i3), (4, vb 0), (5, vb i4)], hp := [], nx := 0 } = some (Exit.normal, { tm := [(0, vb i6), (1, vi (i3.fdiv (2 ^ min (Int.toNat 1) IntKind.i64.bits))), (4, vb 0), (5, vb i5), (7, V.bool true), (12, V.bool true)], hp := [], nx := 64 }) :=
  byL (k := k) (d := 8) [Hn.br 7 true, Hn.br 12 true, Hn.call 15 (vb i5), Hn.call 18 (vb i6)] (aI c0 (aI c1 (aI c2 (aI c3 trivial)))) (by kernel_rfl)
theorem L95_0_b0h (i3 i5 i6 : Int) : head 0 [0, 1, 4, 5] (Try.cfg.fc 95).acc { tm := [(0, vb i6), (1, vi (i3.fdiv (2 ^ min (Int.toNat 1) IntKind.i64.bits))), (4, vb 0), (5, vb i5), (7, V.bool true), (12, V.bool true)], hp := [], nx := 64 } = { tm := [(0, vb i6), (1, vi (i3.fdiv (2 ^ min (Int.toNat 1) IntKind.i64.bits))), (4, vb 0), (5, vb i5)], hp := [], nx := 0 } := by kernel_rfl
theorem L95_0_b1 (i2 i3 i4 i5 : Int) (k : Nat)
    (c0 : decide (0 < i3) = true)
    (c1 : decide (IntKind.i64.wrap (↑(BitVec.ofInt IntKind.i64.bits i3 &&& BitVec.ofInt IntKind.i64.bits 1).toNat : Int) = 1) = false)
    (c2 : cP ((k + 8)) 96 [vb i2, vb i2] = some (vb i5)) :
    evalCode Try.prog Try.cfg (evalFn Try.prog Try.cfg (k + 8)) 0 (Try.cfg.fc 95) (k + 8) (loopBody Try.f95 0) { tm := [(0, vb i2), (1, vi i3), (4, vb 0), (5, vb i4)], hp := [], nx := 0 } = some (Exit.normal, { tm := [(0, vb i5), (1, vi (i3.fdiv (2 ^ min (Int.toNat 1) IntKind.i64.bits))), (4, vb 0), (5, vb i4), (7, V.bool true), (12, V.bool false)], hp := [], nx := 48 }) :=
  byL (k := k) (d := 8) [Hn.br 7 true, Hn.br 12 false, Hn.call 18 (vb i5)] (aI c0 (aI c1 (aI c2 trivial))) (by kernel_rfl)
theorem L95_0_b1h (i3 i4 i5 : Int) : head 0 [0, 1, 4, 5] (Try.cfg.fc 95).acc { tm := [(0, vb i5), (1, vi (i3.fdiv (2 ^ min (Int.toNat 1) IntKind.i64.bits))), (4, vb 0), (5, vb i4), (7, V.bool true), (12, V.bool false)], hp := [], nx := 48 } = { tm := [(0, vb i5), (1, vi (i3.fdiv (2 ^ min (Int.toNat 1) IntKind.i64.bits))), (4, vb 0), (5, vb i4)], hp := [], nx := 0 } := by kernel_rfl
theorem L95_0_b2 (i2 i3 i4 : Int) (k : Nat)
    (c0 : decide (0 < i3) = false) :
    evalCode Try.prog Try.cfg (evalFn Try.prog Try.cfg (k + 8)) 0 (Try.cfg.fc 95) (k + 8) (loopBody Try.f95 0) { tm := [(0, vb i2), (1, vi i3), (4, vb 0), (5, vb i4)], hp := [], nx := 0 } = some (Exit.exit 0, { tm := [(0, vb i2), (1, vi i3), (4, vb 0), (5, vb i4), (7, V.bool false)], hp := [], nx := 8 }) :=
  byL (k := k) (d := 8) [Hn.br 7 false] (aI c0 trivial) (by kernel_rfl)
inductive L95_0_R where
  | e0 (i2 : Int) (i3 : Int) (i4 : Int)
noncomputable def L95_0_end : L95_0_R → Exit × St
  | .e0 i2 i3 i4 => (Exit.exit 0, { tm := [(0, V.int .u8 i2), (1, V.int .i64 i3), (4, V.int .u8 0), (5, V.int .u8 i4), (7, V.bool false)], hp := [], nx := 8 })
def L95_0 (k : Nat) : Nat → Int → Int → Int → Option L95_0_R
  | 0, _, _, _ => none
  | f + 1, i2, i3, i4 => (bif decide (0 < i3) then (bif decide (IntKind.i64.wrap (↑(BitVec.ofInt IntKind.i64.bits i3 &&& BitVec.ofInt IntKind.i64.bits 1).toNat : Int) = 1) then ((F96 (k + 2) (i4) (i2)).bind fun i5 => ((F96 (k + 2) (i2) (i2)).bind fun i6 => (L95_0 k f (i6) (i3.fdiv (2 ^ min (Int.toNat 1) IntKind.i64.bits)) (i5)))) else ((F96 (k + 2) (i2) (i2)).bind fun i5 => (L95_0 k f (i5) (i3.fdiv (2 ^ min (Int.toNat 1) IntKind.i64.bits)) (i4)))) else (some (L95_0_R.e0 i2 i3 i4)))
theorem L95_0_ok {k : Nat} : ∀ {f : Nat} {i2 i3 i4 : Int} {r : L95_0_R}, L95_0 k f i2 i3 i4 = some r →
    LoopsN Try.prog Try.cfg (k + 8) 0 Try.f95 (Try.cfg.fc 95) 0 [0, 1, 4, 5] f { tm := [(0, vb i2), (1, vi i3), (4, vb 0), (5, vb i4)], hp := [], nx := 0 } (L95_0_end r) := by
  intro f
  induction f with
  | zero => intro i2 i3 i4 r h; cases h
  | succ f ih =>
    intro i2 i3 i4 r h
    rw [L95_0] at h
    rcases cond_elim h with ⟨e0, h⟩ | ⟨e0, h⟩
    ·
      rcases cond_elim h with ⟨e1, h⟩ | ⟨e1, h⟩
      ·
        obtain ⟨i5, e2, h⟩ := bE h
        obtain ⟨i6, e3, h⟩ := bE h
        exact LoopsN.next (L95_0_b0 i2 i3 i4 i5 i6 k e0 e1 (F96_ok e2) (F96_ok e3)) (L95_0_b0h i3 i5 i6) (ih h)
      ·
        obtain ⟨i5, e2, h⟩ := bE h
        exact LoopsN.next (L95_0_b1 i2 i3 i4 i5 k e0 e1 (F96_ok e2)) (L95_0_b1h i3 i4 i5) (ih h)
    ·
      cases h; exact LoopsN.done (L95_0_b2 i2 i3 i4 k e0) (fun h => by cases h)
theorem P95_0 (i0 i1 i2 i3 i4 : Int) (k : Nat)
    (c0 : LoopsN Try.prog Try.cfg (k + 8) 0 Try.f95 (Try.cfg.fc 95) 0 [0, 1, 4, 5] (k + 8) { tm := [(0, vb i0), (1, vi i1), (4, vb 0), (5, vb 1)], hp := [], nx := 0 } (Exit.exit 0, { tm := [(0, vb i2), (1, vi i3), (4, vb 0), (5, vb i4), (7, V.bool false)], hp := [], nx := 8 })) :
    cP ((k + 9)) 95 [vb i0, vi i1] = some (vb i4) :=
  byF (k := k) (d := 9) [Hn.loop (Exit.exit 0, { tm := [(0, vb i2), (1, vi i3), (4, vb 0), (5, vb i4), (7, V.bool false)], hp := [], nx := 8 })] (aI c0 trivial) (by kernel_rfl)
def F95 (k : Nat) (i0 i1 : Int) : Option (Int) :=
  ((L95_0 k (k + 8) (i0) (i1) (1)).bind fun
    | L95_0_R.e0 i2 i3 i4 => (some (i4)))
theorem F95_ok {i0 i1 : Int} {k : Nat} {r : Int} (h : F95 k i0 i1 = some r) :
    cP ((k + 9)) 95 [vb i0, vi i1] = some (vb r) := by
  unfold F95 at h
  obtain ⟨ee, e0, h⟩ := bE h
  cases ee with
  | e0 i2 i3 i4 =>
    have h := Option.some.inj h; subst h; exact P95_0 i0 i1 i2 i3 i4 k (L95_0_ok e0)
theorem P104_0 (i0 i1 : Int) (k : Nat)
    (c0 : cP ((k + 11)) 95 [vb i0, vi 254] = some (vb i1)) :
    cP ((k + 12)) 104 [vb i0] = some (vb i1) :=
  byF (k := k) (d := 12) [Hn.call 4 (vb i1)] (aI c0 trivial) (by kernel_rfl)
def F104 (k : Nat) (i0 : Int) : Option (Int) :=
  ((F95 (k + 2) (i0) (254)).bind fun i1 => (some (i1)))
theorem F104_ok {i0 : Int} {k : Nat} {r : Int} (h : F104 k i0 = some r) :
    cP ((k + 12)) 104 [vb i0] = some (vb r) := by
  unfold F104 at h
  obtain ⟨i1, e0, h⟩ := bE h
  have h := Option.some.inj h; subst h; exact P104_0 i0 i1 k (F95_ok e0)
theorem P105_0 (i0 i1 : Int) (k : Nat)
    (c0 : GrdP ((0 : Int) ≤ IntKind.u64.wrap ((8 : Int) - IntKind.u64.wrap (↑(BitVec.ofInt IntKind.u64.bits (IntKind.u64.wrap i1) &&& BitVec.ofInt IntKind.u64.bits (7 : Int)).toNat : Int))) (vb (i0.fdiv ((2 : Int) ^ min (IntKind.u64.wrap ((8 : Int) - IntKind.u64.wrap (↑(BitVec.ofInt IntKind.u64.bits (IntKind.u64.wrap i1) &&& BitVec.ofInt IntKind.u64.bits (7 : Int)).toNat : Int))).toNat IntKind.u8.bits)))) :
    cP ((k + 3)) 105 [vb i0, vi i1] = some (vb (IntKind.u8.wrap (↑(BitVec.ofInt IntKind.u8.bits (IntKind.u8.wrap (i0 * 2 ^ min (IntKind.u64.wrap (↑(BitVec.ofInt IntKind.u64.bits (IntKind.u64.wrap i1) &&& BitVec.ofInt IntKind.u64.bits 7).toNat : Int)).toNat IntKind.u8.bits)) ||| BitVec.ofInt IntKind.u8.bits (i0.fdiv (2 ^ min (IntKind.u64.wrap (8 - IntKind.u64.wrap (↑(BitVec.ofInt IntKind.u64.bits (IntKind.u64.wrap i1) &&& BitVec.ofInt IntKind.u64.bits 7).toNat : Int))).toNat IntKind.u8.bits))).toNat : Int))) :=
  byF (k := k) (d := 3) [Hn.op 15 (vb (i0.fdiv (2 ^ min (IntKind.u64.wrap (8 - IntKind.u64.wrap (↑(BitVec.ofInt IntKind.u64.bits (IntKind.u64.wrap i1) &&& BitVec.ofInt IntKind.u64.bits 7).toNat : Int))).toNat IntKind.u8.bits))) []] (aI c0 trivial) (by kernel_rfl)
def F105 (k : Nat) (i0 i1 : Int) : Option (Int) :=
  (guardP ((0 : Int) ≤ IntKind.u64.wrap ((8 : Int) - IntKind.u64.wrap (↑(BitVec.ofInt IntKind.u64.bits (IntKind.u64.wrap i1) &&& BitVec.ofInt IntKind.u64.bits (7 : Int)).toNat : Int))) (some (IntKind.u8.wrap (↑(BitVec.ofInt IntKind.u8.bits (IntKind.u8.wrap (i0 * 2 ^ min (IntKind.u64.wrap (↑(BitVec.ofInt IntKind.u64.bits (IntKind.u64.wrap i1) &&& BitVec.ofInt IntKind.u64.bits 7).toNat : Int)).toNat IntKind.u8.bits)) ||| BitVec.ofInt IntKind.u8.bits (i0.fdiv (2 ^ min (IntKind.u64.wrap (8 - IntKind.u64.wrap (↑(BitVec.ofInt IntKind.u64.bits (IntKind.u64.wrap i1) &&& BitVec.ofInt IntKind.u64.bits 7).toNat : Int))).toNat IntKind.u8.bits))).toNat : Int))))
theorem F105_ok {i0 i1 : Int} {k : Nat} {r : Int} (h : F105 k i0 i1 = some r) :
    cP ((k + 3)) 105 [vb i0, vi i1] = some (vb r) := by
  unfold F105 at h
  obtain ⟨e0, h⟩ := guardP_some.1 h
  have h := Option.some.inj h; subst h; exact P105_0 i0 i1 k (GrdP.mk e0)
theorem P94_0 (i0 i1 i2 i3 i4 i5 : Int) (k : Nat)
    (c0 : cP ((k + 14)) 104 [vb i0] = some (vb i1))
    (c1 : cP ((k + 14)) 105 [vb i1, vi 1] = some (vb i2))
    (c2 : cP ((k + 14)) 105 [vb i1, vi 2] = some (vb i3))
    (c3 : cP ((k + 14)) 105 [vb i1, vi 3] = some (vb i4))
    (c4 : cP ((k + 14)) 105 [vb i1, vi 4] = some (vb i5)) :
    cP ((k + 15)) 94 [vb i0] = some (vb (IntKind.u8.wrap (↑(BitVec.ofInt IntKind.u8.bits (IntKind.u8.wrap (↑(BitVec.ofInt IntKind.u8.bits (IntKind.u8.wrap (↑(BitVec.ofInt IntKind.u8.bits (IntKind.u8.wrap (↑(BitVec.ofInt IntKind.u8.bits (IntKind.u8.wrap (↑(BitVec.ofInt IntKind.u8.bits i1 ^^^ BitVec.ofInt IntKind.u8.bits i2).toNat : Int)) ^^^ BitVec.ofInt IntKind.u8.bits i3).toNat : Int)) ^^^ BitVec.ofInt IntKind.u8.bits i4).toNat : Int)) ^^^ BitVec.ofInt IntKind.u8.bits i5).toNat : Int)) ^^^ BitVec.ofInt IntKind.u8.bits 99).toNat : Int))) :=
  byF (k := k) (d := 15) [Hn.call 5 (vb i1), Hn.call 8 (vb i2), Hn.call 11 (vb i3), Hn.call 14 (vb i4), Hn.call 17 (vb i5)] (aI c0 (aI c1 (aI c2 (aI c3 (aI c4 trivial))))) (by kernel_rfl)
def F94 (k : Nat) (i0 : Int) : Option (Int) :=
  ((F104 (k + 2) (i0)).bind fun i1 => ((F105 (k + 11) (i1) (1)).bind fun i2 => ((F105 (k + 11) (i1) (2)).bind fun i3 => ((F105 (k + 11) (i1) (3)).bind fun i4 => ((F105 (k + 11) (i1) (4)).bind fun i5 => (some (IntKind.u8.wrap (↑(BitVec.ofInt IntKind.u8.bits (IntKind.u8.wrap (↑(BitVec.ofInt IntKind.u8.bits (IntKind.u8.wrap (↑(BitVec.ofInt IntKind.u8.bits (IntKind.u8.wrap (↑(BitVec.ofInt IntKind.u8.bits (IntKind.u8.wrap (↑(BitVec.ofInt IntKind.u8.bits i1 ^^^ BitVec.ofInt IntKind.u8.bits i2).toNat : Int)) ^^^ BitVec.ofInt IntKind.u8.bits i3).toNat : Int)) ^^^ BitVec.ofInt IntKind.u8.bits i4).toNat : Int)) ^^^ BitVec.ofInt IntKind.u8.bits i5).toNat : Int)) ^^^ BitVec.ofInt IntKind.u8.bits 99).toNat : Int))))))))
theorem F94_ok {i0 : Int} {k : Nat} {r : Int} (h : F94 k i0 = some r) :
    cP ((k + 15)) 94 [vb i0] = some (vb r) := by
  unfold F94 at h
  obtain ⟨i1, e0, h⟩ := bE h
  obtain ⟨i2, e1, h⟩ := bE h
  obtain ⟨i3, e2, h⟩ := bE h
  obtain ⟨i4, e3, h⟩ := bE h
  obtain ⟨i5, e4, h⟩ := bE h
  have h := Option.some.inj h; subst h; exact P94_0 i0 i1 i2 i3 i4 i5 k (F104_ok e0) (F105_ok e1) (F105_ok e2) (F105_ok e3) (F105_ok e4)
def F109 (k : Nat) (i0 i1 : Int) : Option (Int) :=
  (guardP ((0 : Int) ≤ i1) (some (IntKind.i64.wrap (↑(BitVec.ofInt IntKind.i64.bits (i0.fdiv (2 ^ min i1.toNat IntKind.i64.bits)) &&& BitVec.ofInt IntKind.i64.bits 1).toNat : Int))))
def F110 (k : Nat) (i0 : Int) : Option (Int) :=
  (guardP ((0 : Int) ≤ i0) (some (IntKind.i64.wrap (1 * 2 ^ min i0.toNat IntKind.i64.bits))))
inductive L101_0_R where
  | e0 (i2 : Int) (i3 : Int)
noncomputable def L101_0_end (i0 : Int) (i1 : Int) : L101_0_R → Exit × St
  | .e0 i2 i3 => (Exit.exit 0, { tm := [(0, V.int .u8 i0), (1, V.int .u8 i1), (4, V.int .u8 0), (5, V.int .i64 i2), (6, V.int .i64 i3), (9, V.bool false)], hp := [], nx := 8 })
inductive L101_1_R where
  | e0 (i4 : Int) (i5 : Int)
noncomputable def L101_1_end (i0 : Int) (i1 : Int) (i3 : Int) : L101_1_R → Exit × St
  | .e0 i4 i5 => (Exit.exit 2, { tm := [(0, V.int .u8 i0), (1, V.int .u8 i1), (4, V.int .u8 0), (5, V.int .i64 i4), (6, V.int .i64 i3), (7, V.int .i64 i5), (9, V.bool false), (25, V.bool false)], hp := [], nx := 8 })
inductive L108_0_R where
  | e0 (i1 : Int)
  | e1 (i1 : Int)
noncomputable def L108_0_end (i0 : Int) : L108_0_R → Exit × St
  | .e0 i1 => (Exit.ret, { tm := [(0, V.int .u8 i0), (2, V.int .u8 (IntKind.u8.wrap i1)), (3, V.int .i64 i1), (5, V.bool true), (12, V.bool true)], hp := [], nx := 40 })
  | .e1 i1 => (Exit.exit 0, { tm := [(0, V.int .u8 i0), (2, V.int .u8 0), (3, V.int .i64 i1), (5, V.bool false)], hp := [], nx := 8 })
inductive L107_0_R where
  | e0 (i2 : Int) (i3 : Int)
noncomputable def L107_0_end (i0 : Int) (i1 : Int) : L107_0_R → Exit × St
  | .e0 i2 i3 => (Exit.exit 0, { tm := [(0, V.int .u8 i0), (1, V.int .i64 i1), (4, V.int .u8 0), (5, V.int .u8 i2), (6, V.int .i64 i3), (9, V.bool false)], hp := [], nx := 12 })
inductive L100_0_R where
  | e0 (i2 : Int) (i3 : Int)
noncomputable def L100_0_end (i0 : Int) (i1 : Int) : L100_0_R → Exit × St
  | .e0 i2 i3 => (Exit.exit 0, { tm := [(0, V.int .u8 i0), (2, V.int .u8 0), (3, V.int .i64 (IntKind.i64.wrap i1)), (4, V.int .i64 i2), (5, V.int .i64 i3), (11, V.bool false)], hp := [], nx := 8 })
def L100_0 (k : Nat) (i0 i1 : Int) : Nat → Int → Int → Option L100_0_R
  | 0, _, _ => none
  | f + 1, i2, i3 => (bif decide (i3 < 8) then ((F109 (k + 8) (IntKind.i64.wrap i1) (i3)).bind fun i4 => ((F109 (k + 8) (IntKind.i64.wrap i1) ((IntKind.i64.wrap (i3 + 4)).tmod 8)).bind fun i5 => ((F109 (k + 8) (IntKind.i64.wrap i1) ((IntKind.i64.wrap (i3 + 5)).tmod 8)).bind fun i6 => ((F109 (k + 8) (IntKind.i64.wrap i1) ((IntKind.i64.wrap (i3 + 6)).tmod 8)).bind fun i7 => ((F109 (k + 8) (IntKind.i64.wrap i1) ((IntKind.i64.wrap (i3 + 7)).tmod 8)).bind fun i8 => ((F109 (k + 8) (99) (i3)).bind fun i9 => ((F110 (k + 8) (i3)).bind fun i10 => (L100_0 k i0 i1 f (IntKind.i64.wrap (i2 + IntKind.i64.wrap ((IntKind.i64.wrap (IntKind.i64.wrap (IntKind.i64.wrap (IntKind.i64.wrap (IntKind.i64.wrap (i4 + i5) + i6) + i7) + i8) + i9)).tmod 2 * i10))) (IntKind.i64.wrap (i3 + 1)))))))))) else (some (L100_0_R.e0 i2 i3)))
end Go.Proofs
