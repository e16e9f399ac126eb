/-
  What functions of bytes as a field answer, and those of the reference, each checked against the program.
-/
import Derived.Test.YtegmincienhapaaShort
set_option linter.unusedVariables false
set_option maxHeartbeats 0
set_option maxRecDepth 100000
namespace Go.Proofs
open Go Go.Sym

theorem P106_0 (i0 : Int) (k : Nat)
    (c0 : decide (128 ≤ i0) = true) :
    cP ((k + 3)) 106 [vb i0] = some (vb (IntKind.u8.wrap (↑(BitVec.ofInt IntKind.u8.bits (IntKind.u8.wrap (i0 * 2 ^ min (Int.toNat 1) IntKind.u8.bits)) ^^^ BitVec.ofInt IntKind.u8.bits 27).toNat : Int))) :=
  byF (k := k) (d := 3) [Hn.br 7 true] (aI c0 trivial) (by kernel_rfl)
theorem P106_1 (i0 : Int) (k : Nat)
    (c0 : decide (128 ≤ i0) = false) :
    cP ((k + 3)) 106 [vb i0] = some (vb (IntKind.u8.wrap (i0 * 2 ^ min (Int.toNat 1) IntKind.u8.bits))) :=
  byF (k := k) (d := 3) [Hn.br 7 false] (aI c0 trivial) (by kernel_rfl)
def F106 (k : Nat) (i0 : Int) : Option (Int) :=
  (bif decide (128 ≤ i0) then (some (IntKind.u8.wrap (↑(BitVec.ofInt IntKind.u8.bits (IntKind.u8.wrap (i0 * 2 ^ min (Int.toNat 1) IntKind.u8.bits)) ^^^ BitVec.ofInt IntKind.u8.bits 27).toNat : Int))) else (some (IntKind.u8.wrap (i0 * 2 ^ min (Int.toNat 1) IntKind.u8.bits))))
theorem F106_ok {i0 : Int} {k : Nat} {r : Int} (h : F106 k i0 = some r) :
    cP ((k + 3)) 106 [vb i0] = some (vb r) := by
  unfold F106 at h
  rcases cond_elim h with ⟨e0, h⟩ | ⟨e0, h⟩
  ·
    have h := Option.some.inj h; subst h; exact P106_0 i0 k e0
  ·
    have h := Option.some.inj h; subst h; exact P106_1 i0 k e0
theorem L96_0_b0 (i1 i2 i3 i4 i5 : Int) (k : Nat)
    (c0 : decide (i4 < 8) = true)
    (c1 : GrdP ((0 : Int) ≤ i4) (vb (i1.fdiv ((2 : Int) ^ min i4.toNat IntKind.u8.bits))))
    (c2 : decide (IntKind.u8.wrap (↑(BitVec.ofInt IntKind.u8.bits (i1.fdiv (2 ^ min i4.toNat IntKind.u8.bits)) &&& BitVec.ofInt IntKind.u8.bits 1).toNat : Int) = 1) = true)
    (c3 : cP ((k + 5)) 106 [vb i2] = some (vb i5)) :
    evalCode Try.prog Try.cfg (evalFn Try.prog Try.cfg (k + 5)) 0 (Try.cfg.fc 96) (k + 5) (loopBody Try.f96 0) { tm := [(0, vb i2), (1, vb i1), (4, vb 0), (5, vb i3), (7, vi i4)], hp := [], nx := 0 } = some (Exit.normal, { tm := [(0, vb i5), (1, vb i1), (4, vb 0), (5, vb (IntKind.u8.wrap (↑(BitVec.ofInt IntKind.u8.bits i3 ^^^ BitVec.ofInt IntKind.u8.bits i2).toNat : Int))), (6, vi i4), (7, vi (IntKind.i64.wrap (i4 + 1))), (8, V.bool true), (14, V.bool true)], hp := [], nx := 68 }) :=
  byL (k := k) (d := 5) [Hn.br 8 true, Hn.op 12 (vb (i1.fdiv (2 ^ min i4.toNat IntKind.u8.bits))) [], Hn.br 14 true, Hn.call 19 (vb i5)] (aI c0 (aI c1 (aI c2 (aI c3 trivial)))) (by kernel_rfl)
theorem L96_0_b0h (i1 i2 i3 i4 i5 : Int) : head 0 [0, 1, 4, 5, 7] (Try.cfg.fc 96).acc { tm := [(0, vb i5), (1, vb i1), (4, vb 0), (5, vb (IntKind.u8.wrap (↑(BitVec.ofInt IntKind.u8.bits i3 ^^^ BitVec.ofInt IntKind.u8.bits i2).toNat : Int))), (6, vi i4), (7, vi (IntKind.i64.wrap (i4 + 1))), (8, V.bool true), (14, V.bool true)], hp := [], nx := 68 } = { tm := [(0, vb i5), (1, vb i1), (4, vb 0), (5, vb (IntKind.u8.wrap (↑(BitVec.ofInt IntKind.u8.bits i3 ^^^ BitVec.ofInt IntKind.u8.bits i2).toNat : Int))), (7, vi (IntKind.i64.wrap (i4 + 1)))], hp := [], nx := 0 } := by kernel_rfl
theorem L96_0_b1 (i1 i2 i3 i4 i5 : Int) (k : Nat)
    (c0 : decide (i4 < 8) = true)
    (c1 : GrdP ((0 : Int) ≤ i4) (vb (i1.fdiv ((2 : Int) ^ min i4.toNat IntKind.u8.bits))))
    (c2 : decide (IntKind.u8.wrap (↑(BitVec.ofInt IntKind.u8.bits (i1.fdiv (2 ^ min i4.toNat IntKind.u8.bits)) &&& BitVec.ofInt IntKind.u8.bits 1).toNat : Int) = 1) = false)
    (c3 : cP ((k + 5)) 106 [vb i2] = some (vb i5)) :
    evalCode Try.prog Try.cfg (evalFn Try.prog Try.cfg (k + 5)) 0 (Try.cfg.fc 96) (k + 5) (loopBody Try.f96 0) { tm := [(0, vb i2), (1, vb i1), (4, vb 0), (5, vb i3), (7, vi i4)], hp := [], nx := 0 } = some (Exit.normal, { tm := [(0, vb i5), (1, vb i1), (4, vb 0), (5, vb i3), (6, vi i4), (7, vi (IntKind.i64.wrap (i4 + 1))), (8, V.bool true), (14, V.bool false)], hp := [], nx := 52 }) :=
  byL (k := k) (d := 5) [Hn.br 8 true, Hn.op 12 (vb (i1.fdiv (2 ^ min i4.toNat IntKind.u8.bits))) [], Hn.br 14 false, Hn.call 19 (vb i5)] (aI c0 (aI c1 (aI c2 (aI c3 trivial)))) (by kernel_rfl)
theorem L96_0_b1h (i1 i3 i4 i5 : Int) : head 0 [0, 1, 4, 5, 7] (Try.cfg.fc 96).acc { tm := [(0, vb i5), (1, vb i1), (4, vb 0), (5, vb i3), (6, vi i4), (7, vi (IntKind.i64.wrap (i4 + 1))), (8, V.bool true), (14, V.bool false)], hp := [], nx := 52 } = { tm := [(0, vb i5), (1, vb i1), (4, vb 0), (5, vb i3), (7, vi (IntKind.i64.wrap (i4 + 1)))], hp := [], nx := 0 } := by kernel_rfl
theorem L96_0_b2 (i1 i2 i3 i4 : Int) (k : Nat)
    (c0 : decide (i4 < 8) = false) :
    evalCode Try.prog Try.cfg (evalFn Try.prog Try.cfg (k + 5)) 0 (Try.cfg.fc 96) (k + 5) (loopBody Try.f96 0) { tm := [(0, vb i2), (1, vb i1), (4, vb 0), (5, vb i3), (7, vi i4)], hp := [], nx := 0 } = some (Exit.exit 0, { tm := [(0, vb i2), (1, vb i1), (4, vb 0), (5, vb i3), (7, vi i4), (8, V.bool false)], hp := [], nx := 4 }) :=
  byL (k := k) (d := 5) [Hn.br 8 false] (aI c0 trivial) (by kernel_rfl)
inductive L96_0_R where
  | e0 (i2 : Int) (i3 : Int) (i4 : Int)
noncomputable def L96_0_end (i1 : Int) : L96_0_R → Exit × St
  | .e0 i2 i3 i4 => (Exit.exit 0, { tm := [(0, V.int .u8 i2), (1, V.int .u8 i1), (4, V.int .u8 0), (5, V.int .u8 i3), (7, V.int .i64 i4), (8, V.bool false)], hp := [], nx := 4 })
def L96_0 (k : Nat) (i1 : Int) : Nat → Int → Int → Int → Option L96_0_R
  | 0, _, _, _ => none
  | f + 1, i2, i3, i4 => (bif decide (i4 < 8) then (guardP ((0 : Int) ≤ i4) (bif decide (IntKind.u8.wrap (↑(BitVec.ofInt IntKind.u8.bits (i1.fdiv (2 ^ min i4.toNat IntKind.u8.bits)) &&& BitVec.ofInt IntKind.u8.bits 1).toNat : Int) = 1) then ((F106 (k + 2) (i2)).bind fun i5 => (L96_0 k i1 f (i5) (IntKind.u8.wrap (↑(BitVec.ofInt IntKind.u8.bits i3 ^^^ BitVec.ofInt IntKind.u8.bits i2).toNat : Int)) (IntKind.i64.wrap (i4 + 1)))) else ((F106 (k + 2) (i2)).bind fun i5 => (L96_0 k i1 f (i5) (i3) (IntKind.i64.wrap (i4 + 1)))))) else (some (L96_0_R.e0 i2 i3 i4)))
theorem L96_0_ok {i1 : Int} {k : Nat} : ∀ {f : Nat} {i2 : Int} {i3 : Int} {i4 : Int} {r : L96_0_R}, L96_0 k i1 f i2 i3 i4 = some r →
    LoopsN Try.prog Try.cfg (k + 5) 0 Try.f96 (Try.cfg.fc 96) 0 [0, 1, 4, 5, 7] f { tm := [(0, vb i2), (1, vb i1), (4, vb 0), (5, vb i3), (7, vi i4)], hp := [], nx := 0 } (L96_0_end i1 r) := by
  intro f
  induction f with
  | zero => intro i2 i3 i4 r h; cases h
  | succ f ih =>
    intro i2 i3 i4 r h
    rw [L96_0] at h
    rcases cond_elim h with ⟨e0, h⟩ | ⟨e0, h⟩
    ·
      obtain ⟨e1, h⟩ := guardP_some.1 h
      rcases cond_elim h with ⟨e2, h⟩ | ⟨e2, h⟩
      ·
        obtain ⟨i5, e3, h⟩ := bE h
        exact LoopsN.next (L96_0_b0 i1 i2 i3 i4 i5 k e0 (GrdP.mk e1) e2 (F106_ok e3)) (L96_0_b0h i1 i2 i3 i4 i5) (ih h)
      ·
        obtain ⟨i5, e3, h⟩ := bE h
        exact LoopsN.next (L96_0_b1 i1 i2 i3 i4 i5 k e0 (GrdP.mk e1) e2 (F106_ok e3)) (L96_0_b1h i1 i3 i4 i5) (ih h)
    ·
      cases h; exact LoopsN.done (L96_0_b2 i1 i2 i3 i4 k e0) (fun h => by cases h)
theorem P96_0 (i0 i1 i2 i3 i4 : Int) (k : Nat)
    (c0 : LoopsN Try.prog Try.cfg (k + 5) 0 Try.f96 (Try.cfg.fc 96) 0 [0, 1, 4, 5, 7] (k + 5) { tm := [(0, vb i0), (1, vb i1), (4, vb 0), (5, vb 0), (7, vi 0)], hp := [], nx := 0 } (Exit.exit 0, { tm := [(0, vb i2), (1, vb i1), (4, vb 0), (5, vb i3), (7, vi i4), (8, V.bool false)], hp := [], nx := 4 })) :
    cP ((k + 6)) 96 [vb i0, vb i1] = some (vb i3) :=
  byF (k := k) (d := 6) [Hn.loop (Exit.exit 0, { tm := [(0, vb i2), (1, vb i1), (4, vb 0), (5, vb i3), (7, vi i4), (8, V.bool false)], hp := [], nx := 4 })] (aI c0 trivial) (by kernel_rfl)
def F96 (k : Nat) (i0 i1 : Int) : Option (Int) :=
  ((L96_0 k i1 (k + 5) (i0) (0) (0)).bind fun
    | L96_0_R.e0 i2 i3 i4 => (some (i3)))
theorem F96_ok {i0 i1 : Int} {k : Nat} {r : Int} (h : F96 k i0 i1 = some r) :
    cP ((k + 6)) 96 [vb i0, vb i1] = some (vb r) := by
  unfold F96 at h
  obtain ⟨ee, e0, h⟩ := bE h
  cases ee with
  | e0 i2 i3 i4 =>
    have h := Option.some.inj h; subst h; exact P96_0 i0 i1 i2 i3 i4 k (L96_0_ok e0)
theorem L95_0_b0 (i2 i3 i4 i5 i6 : Int) (k : Nat)
    (c0 : decide (0 < i3) = true)
    (c1 : decide (IntKind.i64.wrap (↑(BitVec.ofInt IntKind.i64.bits i3 &&& BitVec.ofInt IntKind.i64.bits 1).toNat : Int) = 1) = true)
    (c2 : cP ((k + 8)) 96 [vb i4, vb i2] = some (vb i5))
    (c3 : cP ((k + 8)) 96 [vb i2, vb i2] = some (vb i6)) :
    evalCode Try.prog Try.cfg (evalFn Try.prog Try.cfg (k + 8)) 0 (Try.cfg.fc 95) (k + 8) (loopBody Try.f95 0) { tm := [(0, vb i2), (1, vi i3), (4, vb 0), (5, vb i4)], hp := [], nx := 0 } = some (Exit.normal, { tm := [(0, vb i6), (1, vi (i3.fdiv (2 ^ min (Int.toNat 1) IntKind.i64.bits))), (4, vb 0), (5, vb i5), (7, V.bool true), (12, V.bool true)], hp := [], nx := 64 }) :=
  byL (k := k) (d := 8) [Hn.br 7 true, Hn.br 12 true, Hn.call 15 (vb i5), Hn.call 18 (vb i6)] (aI c0 (aI c1 (aI c2 (aI c3 trivial)))) (by kernel_rfl)
theorem L95_0_b0h (i3 i5 i6 : Int) : head 0 [0, 1, 4, 5] (Try.cfg.fc 95).acc { tm := [(0, vb i6), (1, vi (i3.fdiv (2 ^ min (Int.toNat 1) IntKind.i64.bits))), (4, vb 0), (5, vb i5), (7, V.bool true), (12, V.bool true)], hp := [], nx := 64 } = { tm := [(0, vb i6), (1, vi (i3.fdiv (2 ^ min (Int.toNat 1) IntKind.i64.bits))), (4, vb 0), (5, vb i5)], hp := [], nx := 0 } := by kernel_rfl
theorem L95_0_b1 (i2 i3 i4 i5 : Int) (k : Nat)
    (c0 : decide (0 < i3) = true)
    (c1 : decide (IntKind.i64.wrap (↑(BitVec.ofInt IntKind.i64.bits i3 &&& BitVec.ofInt IntKind.i64.bits 1).toNat : Int) = 1) = false)
    (c2 : cP ((k + 8)) 96 [vb i2, vb i2] = some (vb i5)) :
    evalCode Try.prog Try.cfg (evalFn Try.prog Try.cfg (k + 8)) 0 (Try.cfg.fc 95) (k + 8) (loopBody Try.f95 0) { tm := [(0, vb i2), (1, vi i3), (4, vb 0), (5, vb i4)], hp := [], nx := 0 } = some (Exit.normal, { tm := [(0, vb i5), (1, vi (i3.fdiv (2 ^ min (Int.toNat 1) IntKind.i64.bits))), (4, vb 0), (5, vb i4), (7, V.bool true), (12, V.bool false)], hp := [], nx := 48 }) :=
  byL (k := k) (d := 8) [Hn.br 7 true, Hn.br 12 false, Hn.call 18 (vb i5)] (aI c0 (aI c1 (aI c2 trivial))) (by kernel_rfl)
theorem L95_0_b1h (i3 i4 i5 : Int) : head 0 [0, 1, 4, 5] (Try.cfg.fc 95).acc { tm := [(0, vb i5), (1, vi (i3.fdiv (2 ^ min (Int.toNat 1) IntKind.i64.bits))), (4, vb 0), (5, vb i4), (7, V.bool true), (12, V.bool false)], hp := [], nx := 48 } = { tm := [(0, vb i5), (1, vi (i3.fdiv (2 ^ min (Int.toNat 1) IntKind.i64.bits))), (4, vb 0), (5, vb i4)], hp := [], nx := 0 } := by kernel_rfl
theorem L95_0_b2 (i2 i3 i4 : Int) (k : Nat)
    (c0 : decide (0 < i3) = false) :
    evalCode Try.prog Try.cfg (evalFn Try.prog Try.cfg (k + 8)) 0 (Try.cfg.fc 95) (k + 8) (loopBody Try.f95 0) { tm := [(0, vb i2), (1, vi i3), (4, vb 0), (5, vb i4)], hp := [], nx := 0 } = some (Exit.exit 0, { tm := [(0, vb i2), (1, vi i3), (4, vb 0), (5, vb i4), (7, V.bool false)], hp := [], nx := 8 }) :=
  byL (k := k) (d := 8) [Hn.br 7 false] (aI c0 trivial) (by kernel_rfl)
inductive L95_0_R where
  | e0 (i2 : Int) (i3 : Int) (i4 : Int)
noncomputable def L95_0_end : L95_0_R → Exit × St
  | .e0 i2 i3 i4 => (Exit.exit 0, { tm := [(0, V.int .u8 i2), (1, V.int .i64 i3), (4, V.int .u8 0), (5, V.int .u8 i4), (7, V.bool false)], hp := [], nx := 8 })
def L95_0 (k : Nat) : Nat → Int → Int → Int → Option L95_0_R
  | 0, _, _, _ => none
  | f + 1, i2, i3, i4 => (bif decide (0 < i3) then (bif decide (IntKind.i64.wrap (↑(BitVec.ofInt IntKind.i64.bits i3 &&& BitVec.ofInt IntKind.i64.bits 1).toNat : Int) = 1) then ((F96 (k + 2) (i4) (i2)).bind fun i5 => ((F96 (k + 2) (i2) (i2)).bind fun i6 => (L95_0 k f (i6) (i3.fdiv (2 ^ min (Int.toNat 1) IntKind.i64.bits)) (i5)))) else ((F96 (k + 2) (i2) (i2)).bind fun i5 => (L95_0 k f (i5) (i3.fdiv (2 ^ min (Int.toNat 1) IntKind.i64.bits)) (i4)))) else (some (L95_0_R.e0 i2 i3 i4)))
theorem L95_0_ok {k : Nat} : ∀ {f : Nat} {i2 i3 i4 : Int} {r : L95_0_R}, L95_0 k f i2 i3 i4 = some r →
    LoopsN Try.prog Try.cfg (k + 8) 0 Try.f95 (Try.cfg.fc 95) 0 [0, 1, 4, 5] f { tm := [(0, vb i2), (1, vi i3), (4, vb 0), (5, vb i4)], hp := [], nx := 0 } (L95_0_end r) := by
  intro f
  induction f with
  | zero => intro i2 i3 i4 r h; cases h
  | succ f ih =>
    intro i2 i3 i4 r h
    rw [L95_0] at h
    rcases cond_elim h with ⟨e0, h⟩ | ⟨e0, h⟩
    ·
      rcases cond_elim h with ⟨e1, h⟩ | ⟨e1, h⟩
      ·
        obtain ⟨i5, e2, h⟩ := bE h
        obtain ⟨i6, e3, h⟩ := bE h
        exact LoopsN.next (L95_0_b0 i2 i3 i4 i5 i6 k e0 e1 (F96_ok e2) (F96_ok e3)) (L95_0_b0h i3 i5 i6) (ih h)
      ·
        obtain ⟨i5, e2, h⟩ := bE h
        exact LoopsN.next (L95_0_b1 i2 i3 i4 i5 k e0 e1 (F96_ok e2)) (L95_0_b1h i3 i4 i5) (ih h)
    ·
      cases h; exact LoopsN.done (L95_0_b2 i2 i3 i4 k e0) (fun h => by cases h)
theorem P95_0 (i0 i1 i2 i3 i4 : Int) (k : Nat)
    (c0 : LoopsN Try.prog Try.cfg (k + 8) 0 Try.f95 (Try.cfg.fc 95) 0 [0, 1, 4, 5] (k + 8) { tm := [(0, vb i0), (1, vi i1), (4, vb 0), (5, vb 1)], hp := [], nx := 0 } (Exit.exit 0, { tm := [(0, vb i2), (1, vi i3), (4, vb 0), (5, vb i4), (7, V.bool false)], hp := [], nx := 8 })) :
    cP ((k + 9)) 95 [vb i0, vi i1] = some (vb i4) :=
  byF (k := k) (d := 9) [Hn.loop (Exit.exit 0, { tm := [(0, vb i2), (1, vi i3), (4, vb 0), (5, vb i4), (7, V.bool false)], hp := [], nx := 8 })] (aI c0 trivial) (by kernel_rfl)
def F95 (k : Nat) (i0 i1 : Int) : Option (Int) :=
  ((L95_0 k (k + 8) (i0) (i1) (1)).bind fun
    | L95_0_R.e0 i2 i3 i4 => (some (i4)))
theorem F95_ok {i0 i1 : Int} {k : Nat} {r : Int} (h : F95 k i0 i1 = some r) :
    cP ((k + 9)) 95 [vb i0, vi i1] = some (vb r) := by
  unfold F95 at h
  obtain ⟨ee, e0, h⟩ := bE h
  cases ee with
  | e0 i2 i3 i4 =>
    have h := Option.some.inj h; subst h; exact P95_0 i0 i1 i2 i3 i4 k (L95_0_ok e0)
theorem P104_0 (i0 i1 : Int) (k : Nat)
    (c0 : cP ((k + 11)) 95 [vb i0, vi 254] = some (vb i1)) :
    cP ((k + 12)) 104 [vb i0] = some (vb i1) :=
  byF (k := k) (d := 12) [Hn.call 4 (vb i1)] (aI c0 trivial) (by kernel_rfl)
def F104 (k : Nat) (i0 : Int) : Option (Int) :=
  ((F95 (k + 2) (i0) (254)).bind fun i1 => (some (i1)))
theorem F104_ok {i0 : Int} {k : Nat} {r : Int} (h : F104 k i0 = some r) :
    cP ((k + 12)) 104 [vb i0] = some (vb r) := by
  unfold F104 at h
  obtain ⟨i1, e0, h⟩ := bE h
  have h := Option.some.inj h; subst h; exact P104_0 i0 i1 k (F95_ok e0)
theorem P105_0 (i0 i1 : Int) (k : Nat)
    (c0 : GrdP ((0 : Int) ≤ IntKind.u64.wrap ((8 : Int) - IntKind.u64.wrap (↑(BitVec.ofInt IntKind.u64.bits (IntKind.u64.wrap i1) &&& BitVec.ofInt IntKind.u64.bits (7 : Int)).toNat : Int))) (vb (i0.fdiv ((2 : Int) ^ min (IntKind.u64.wrap ((8 : Int) - IntKind.u64.wrap (↑(BitVec.ofInt IntKind.u64.bits (IntKind.u64.wrap i1) &&& BitVec.ofInt IntKind.u64.bits (7 : Int)).toNat : Int))).toNat IntKind.u8.bits)))) :
    cP ((k + 3)) 105 [vb i0, vi i1] = some (vb (IntKind.u8.wrap (↑(BitVec.ofInt IntKind.u8.bits (IntKind.u8.wrap (i0 * 2 ^ min (IntKind.u64.wrap (↑(BitVec.ofInt IntKind.u64.bits (IntKind.u64.wrap i1) &&& BitVec.ofInt IntKind.u64.bits 7).toNat : Int)).toNat IntKind.u8.bits)) ||| BitVec.ofInt IntKind.u8.bits (i0.fdiv (2 ^ min (IntKind.u64.wrap (8 - IntKind.u64.wrap (↑(BitVec.ofInt IntKind.u64.bits (IntKind.u64.wrap i1) &&& BitVec.ofInt IntKind.u64.bits 7).toNat : Int))).toNat IntKind.u8.bits))).toNat : Int))) :=
  byF (k := k) (d := 3) [Hn.op 15 (vb (i0.fdiv (2 ^ min (IntKind.u64.wrap (8 - IntKind.u64.wrap (↑(BitVec.ofInt IntKind.u64.bits (IntKind.u64.wrap i1) &&& BitVec.ofInt IntKind.u64.bits 7).toNat : Int))).toNat IntKind.u8.bits))) []] (aI c0 trivial) (by kernel_rfl)
def F105 (k : Nat) (i0 i1 : Int) : Option (Int) :=
  (guardP ((0 : Int) ≤ IntKind.u64.wrap ((8 : Int) - IntKind.u64.wrap (↑(BitVec.ofInt IntKind.u64.bits (IntKind.u64.wrap i1) &&& BitVec.ofInt IntKind.u64.bits (7 : Int)).toNat : Int))) (some (IntKind.u8.wrap (↑(BitVec.ofInt IntKind.u8.bits (IntKind.u8.wrap (i0 * 2 ^ min (IntKind.u64.wrap (↑(BitVec.ofInt IntKind.u64.bits (IntKind.u64.wrap i1) &&& BitVec.ofInt IntKind.u64.bits 7).toNat : Int)).toNat IntKind.u8.bits)) ||| BitVec.ofInt IntKind.u8.bits (i0.fdiv (2 ^ min (IntKind.u64.wrap (8 - IntKind.u64.wrap (↑(BitVec.ofInt IntKind.u64.bits (IntKind.u64.wrap i1) &&& BitVec.ofInt IntKind.u64.bits 7).toNat : Int))).toNat IntKind.u8.bits))).toNat : Int))))
theorem F105_ok {i0 i1 : Int} {k : Nat} {r : Int} (h : F105 k i0 i1 = some r) :
    cP ((k + 3)) 105 [vb i0, vi i1] = some (vb r) := by
  unfold F105 at h
  obtain ⟨e0, h⟩ := guardP_some.1 h
  have h := Option.some.inj h; subst h; exact P105_0 i0 i1 k (GrdP.mk e0)
theorem P94_0 (i0 i1 i2 i3 i4 i5 : Int) (k : Nat)
    (c0 : cP ((k + 14)) 104 [vb i0] = some (vb i1))
    (c1 : cP ((k + 14)) 105 [vb i1, vi 1] = some (vb i2))
    (c2 : cP ((k + 14)) 105 [vb i1, vi 2] = some (vb i3))
    (c3 : cP ((k + 14)) 105 [vb i1, vi 3] = some (vb i4))
    (c4 : cP ((k + 14)) 105 [vb i1, vi 4] = some (vb i5)) :
    cP ((k + 15)) 94 [vb i0] = some (vb (IntKind.u8.wrap (↑(BitVec.ofInt IntKind.u8.bits (IntKind.u8.wrap (↑(BitVec.ofInt IntKind.u8.bits (IntKind.u8.wrap (↑(BitVec.ofInt IntKind.u8.bits (IntKind.u8.wrap (↑(BitVec.ofInt IntKind.u8.bits (IntKind.u8.wrap (↑(BitVec.ofInt IntKind.u8.bits i1 ^^^ BitVec.ofInt IntKind.u8.bits i2).toNat : Int)) ^^^ BitVec.ofInt IntKind.u8.bits i3).toNat : Int)) ^^^ BitVec.ofInt IntKind.u8.bits i4).toNat : Int)) ^^^ BitVec.ofInt IntKind.u8.bits i5).toNat : Int)) ^^^ BitVec.ofInt IntKind.u8.bits 99).toNat : Int))) :=
  byF (k := k) (d := 15) [Hn.call 5 (vb i1), Hn.call 8 (vb i2), Hn.call 11 (vb i3), Hn.call 14 (vb i4), Hn.call 17 (vb i5)] (aI c0 (aI c1 (aI c2 (aI c3 (aI c4 trivial))))) (by kernel_rfl)
def F94 (k : Nat) (i0 : Int) : Option (Int) :=
  ((F104 (k + 2) (i0)).bind fun i1 => ((F105 (k + 11) (i1) (1)).bind fun i2 => ((F105 (k + 11) (i1) (2)).bind fun i3 => ((F105 (k + 11) (i1) (3)).bind fun i4 => ((F105 (k + 11) (i1) (4)).bind fun i5 => (some (IntKind.u8.wrap (↑(BitVec.ofInt IntKind.u8.bits (IntKind.u8.wrap (↑(BitVec.ofInt IntKind.u8.bits (IntKind.u8.wrap (↑(BitVec.ofInt IntKind.u8.bits (IntKind.u8.wrap (↑(BitVec.ofInt IntKind.u8.bits (IntKind.u8.wrap (↑(BitVec.ofInt IntKind.u8.bits i1 ^^^ BitVec.ofInt IntKind.u8.bits i2).toNat : Int)) ^^^ BitVec.ofInt IntKind.u8.bits i3).toNat : Int)) ^^^ BitVec.ofInt IntKind.u8.bits i4).toNat : Int)) ^^^ BitVec.ofInt IntKind.u8.bits i5).toNat : Int)) ^^^ BitVec.ofInt IntKind.u8.bits 99).toNat : Int))))))))
theorem F94_ok {i0 : Int} {k : Nat} {r : Int} (h : F94 k i0 = some r) :
    cP ((k + 15)) 94 [vb i0] = some (vb r) := by
  unfold F94 at h
  obtain ⟨i1, e0, h⟩ := bE h
  obtain ⟨i2, e1, h⟩ := bE h
  obtain ⟨i3, e2, h⟩ := bE h
  obtain ⟨i4, e3, h⟩ := bE h
  obtain ⟨i5, e4, h⟩ := bE h
  have h := Option.some.inj h; subst h; exact P94_0 i0 i1 i2 i3 i4 i5 k (F104_ok e0) (F105_ok e1) (F105_ok e2) (F105_ok e3) (F105_ok e4)
theorem P109_0 (i0 i1 : Int) (k : Nat)
    (c0 : GrdP ((0 : Int) ≤ i1) (vi (i0.fdiv ((2 : Int) ^ min i1.toNat IntKind.i64.bits)))) :
    cP ((k + 3)) 109 [vi i0, vi i1] = some (vi (IntKind.i64.wrap (↑(BitVec.ofInt IntKind.i64.bits (i0.fdiv (2 ^ min i1.toNat IntKind.i64.bits)) &&& BitVec.ofInt IntKind.i64.bits 1).toNat : Int))) :=
  byF (k := k) (d := 3) [Hn.op 7 (vi (i0.fdiv (2 ^ min i1.toNat IntKind.i64.bits))) []] (aI c0 trivial) (by kernel_rfl)
def F109 (k : Nat) (i0 i1 : Int) : Option (Int) :=
  (guardP ((0 : Int) ≤ i1) (some (IntKind.i64.wrap (↑(BitVec.ofInt IntKind.i64.bits (i0.fdiv (2 ^ min i1.toNat IntKind.i64.bits)) &&& BitVec.ofInt IntKind.i64.bits 1).toNat : Int))))
theorem F109_ok {i0 i1 : Int} {k : Nat} {r : Int} (h : F109 k i0 i1 = some r) :
    cP ((k + 3)) 109 [vi i0, vi i1] = some (vi r) := by
  unfold F109 at h
  obtain ⟨e0, h⟩ := guardP_some.1 h
  have h := Option.some.inj h; subst h; exact P109_0 i0 i1 k (GrdP.mk e0)
theorem P110_0 (i0 : Int) (k : Nat)
    (c0 : GrdP ((0 : Int) ≤ i0) (vi (IntKind.i64.wrap ((1 : Int) * (2 : Int) ^ min i0.toNat IntKind.i64.bits)))) :
    cP ((k + 3)) 110 [vi i0] = some (vi (IntKind.i64.wrap (1 * 2 ^ min i0.toNat IntKind.i64.bits))) :=
  byF (k := k) (d := 3) [Hn.op 4 (vi (IntKind.i64.wrap (1 * 2 ^ min i0.toNat IntKind.i64.bits))) []] (aI c0 trivial) (by kernel_rfl)
def F110 (k : Nat) (i0 : Int) : Option (Int) :=
  (guardP ((0 : Int) ≤ i0) (some (IntKind.i64.wrap (1 * 2 ^ min i0.toNat IntKind.i64.bits))))
theorem F110_ok {i0 : Int} {k : Nat} {r : Int} (h : F110 k i0 = some r) :
    cP ((k + 3)) 110 [vi i0] = some (vi r) := by
  unfold F110 at h
  obtain ⟨e0, h⟩ := guardP_some.1 h
  have h := Option.some.inj h; subst h; exact P110_0 i0 k (GrdP.mk e0)
theorem L101_0_b0 (i0 i1 i2 i3 i4 i5 : Int) (k : Nat)
    (c0 : decide (i3 < 8) = true)
    (c1 : cP ((k + 5)) 109 [vi (IntKind.i64.wrap i1), vi i3] = some (vi i4))
    (c2 : decide (i4 = 1) = true)
    (c3 : cP ((k + 5)) 110 [vi i3] = some (vi i5)) :
    evalCode Try.prog Try.cfg (evalFn Try.prog Try.cfg (k + 5)) 0 (Try.cfg.fc 101) (k + 5) (loopBody Try.f101 0) { tm := [(0, vb i0), (1, vb i1), (4, vb 0), (5, vi i2), (6, vi i3)], hp := [], nx := 0 } = some (Exit.normal, { tm := [(0, vb i0), (1, vb i1), (4, vb 0), (5, vi (IntKind.i64.wrap (↑(BitVec.ofInt IntKind.i64.bits i2 ^^^ BitVec.ofInt IntKind.i64.bits (IntKind.i64.wrap (IntKind.i64.wrap i0 * i5))).toNat : Int))), (6, vi (IntKind.i64.wrap (i3 + 1))), (9, V.bool true), (16, V.bool true)], hp := [], nx := 72 }) :=
  byL (k := k) (d := 5) [Hn.br 9 true, Hn.call 15 (vi i4), Hn.br 16 true, Hn.call 21 (vi i5)] (aI c0 (aI c1 (aI c2 (aI c3 trivial)))) (by kernel_rfl)
theorem L101_0_b0h (i0 i1 i2 i3 i5 : Int) : head 0 [0, 1, 4, 5, 6] (Try.cfg.fc 101).acc { tm := [(0, vb i0), (1, vb i1), (4, vb 0), (5, vi (IntKind.i64.wrap (↑(BitVec.ofInt IntKind.i64.bits i2 ^^^ BitVec.ofInt IntKind.i64.bits (IntKind.i64.wrap (IntKind.i64.wrap i0 * i5))).toNat : Int))), (6, vi (IntKind.i64.wrap (i3 + 1))), (9, V.bool true), (16, V.bool true)], hp := [], nx := 72 } = { tm := [(0, vb i0), (1, vb i1), (4, vb 0), (5, vi (IntKind.i64.wrap (↑(BitVec.ofInt IntKind.i64.bits i2 ^^^ BitVec.ofInt IntKind.i64.bits (IntKind.i64.wrap (IntKind.i64.wrap i0 * i5))).toNat : Int))), (6, vi (IntKind.i64.wrap (i3 + 1)))], hp := [], nx := 0 } := by kernel_rfl
theorem L101_0_b1 (i0 i1 i2 i3 i4 : Int) (k : Nat)
    (c0 : decide (i3 < 8) = true)
    (c1 : cP ((k + 5)) 109 [vi (IntKind.i64.wrap i1), vi i3] = some (vi i4))
    (c2 : decide (i4 = 1) = false) :
    evalCode Try.prog Try.cfg (evalFn Try.prog Try.cfg (k + 5)) 0 (Try.cfg.fc 101) (k + 5) (loopBody Try.f101 0) { tm := [(0, vb i0), (1, vb i1), (4, vb 0), (5, vi i2), (6, vi i3)], hp := [], nx := 0 } = some (Exit.normal, { tm := [(0, vb i0), (1, vb i1), (4, vb 0), (5, vi i2), (6, vi (IntKind.i64.wrap (i3 + 1))), (9, V.bool true), (16, V.bool false)], hp := [], nx := 40 }) :=
  byL (k := k) (d := 5) [Hn.br 9 true, Hn.call 15 (vi i4), Hn.br 16 false] (aI c0 (aI c1 (aI c2 trivial))) (by kernel_rfl)
theorem L101_0_b1h (i0 i1 i2 i3 : Int) : head 0 [0, 1, 4, 5, 6] (Try.cfg.fc 101).acc { tm := [(0, vb i0), (1, vb i1), (4, vb 0), (5, vi i2), (6, vi (IntKind.i64.wrap (i3 + 1))), (9, V.bool true), (16, V.bool false)], hp := [], nx := 40 } = { tm := [(0, vb i0), (1, vb i1), (4, vb 0), (5, vi i2), (6, vi (IntKind.i64.wrap (i3 + 1)))], hp := [], nx := 0 } := by kernel_rfl
theorem L101_0_b2 (i0 i1 i2 i3 : Int) (k : Nat)
    (c0 : decide (i3 < 8) = false) :
    evalCode Try.prog Try.cfg (evalFn Try.prog Try.cfg (k + 5)) 0 (Try.cfg.fc 101) (k + 5) (loopBody Try.f101 0) { tm := [(0, vb i0), (1, vb i1), (4, vb 0), (5, vi i2), (6, vi i3)], hp := [], nx := 0 } = some (Exit.exit 0, { tm := [(0, vb i0), (1, vb i1), (4, vb 0), (5, vi i2), (6, vi i3), (9, V.bool false)], hp := [], nx := 8 }) :=
  byL (k := k) (d := 5) [Hn.br 9 false] (aI c0 trivial) (by kernel_rfl)
inductive L101_0_R where
  | e0 (i2 : Int) (i3 : Int)
noncomputable def L101_0_end (i0 : Int) (i1 : Int) : L101_0_R → Exit × St
  | .e0 i2 i3 => (Exit.exit 0, { tm := [(0, V.int .u8 i0), (1, V.int .u8 i1), (4, V.int .u8 0), (5, V.int .i64 i2), (6, V.int .i64 i3), (9, V.bool false)], hp := [], nx := 8 })
def L101_0 (k : Nat) (i0 i1 : Int) : Nat → Int → Int → Option L101_0_R
  | 0, _, _ => none
  | f + 1, i2, i3 => (bif decide (i3 < 8) then ((F109 (k + 2) (IntKind.i64.wrap i1) (i3)).bind fun i4 => (bif decide (i4 = 1) then ((F110 (k + 2) (i3)).bind fun i5 => (L101_0 k i0 i1 f (IntKind.i64.wrap (↑(BitVec.ofInt IntKind.i64.bits i2 ^^^ BitVec.ofInt IntKind.i64.bits (IntKind.i64.wrap (IntKind.i64.wrap i0 * i5))).toNat : Int)) (IntKind.i64.wrap (i3 + 1)))) else (L101_0 k i0 i1 f (i2) (IntKind.i64.wrap (i3 + 1))))) else (some (L101_0_R.e0 i2 i3)))
theorem L101_0_ok {i0 i1 : Int} {k : Nat} : ∀ {f : Nat} {i2 : Int} {i3 : Int} {r : L101_0_R}, L101_0 k i0 i1 f i2 i3 = some r →
    LoopsN Try.prog Try.cfg (k + 5) 0 Try.f101 (Try.cfg.fc 101) 0 [0, 1, 4, 5, 6] f { tm := [(0, vb i0), (1, vb i1), (4, vb 0), (5, vi i2), (6, vi i3)], hp := [], nx := 0 } (L101_0_end i0 i1 r) := by
  intro f
  induction f with
  | zero => intro i2 i3 r h; cases h
  | succ f ih =>
    intro i2 i3 r h
    rw [L101_0] at h
    rcases cond_elim h with ⟨e0, h⟩ | ⟨e0, h⟩
    ·
      obtain ⟨i4, e1, h⟩ := bE h
      rcases cond_elim h with ⟨e2, h⟩ | ⟨e2, h⟩
      ·
        obtain ⟨i5, e3, h⟩ := bE h
        exact LoopsN.next (L101_0_b0 i0 i1 i2 i3 i4 i5 k e0 (F109_ok e1) e2 (F110_ok e3)) (L101_0_b0h i0 i1 i2 i3 i5) (ih h)
      ·
        exact LoopsN.next (L101_0_b1 i0 i1 i2 i3 i4 k e0 (F109_ok e1) e2) (L101_0_b1h i0 i1 i2 i3) (ih h)
    ·
      cases h; exact LoopsN.done (L101_0_b2 i0 i1 i2 i3 k e0) (fun h => by cases h)
theorem L101_1_b0 (i0 i1 i3 i4 i5 i6 i7 : Int) (k : Nat)
    (c0 : decide (8 ≤ i5) = true)
    (c1 : cP ((k + 5)) 109 [vi i4, vi i5] = some (vi i6))
    (c2 : decide (i6 = 1) = true)
    (c3 : cP ((k + 5)) 110 [vi (IntKind.i64.wrap (i5 - 8))] = some (vi i7)) :
    evalCode Try.prog Try.cfg (evalFn Try.prog Try.cfg (k + 5)) 0 (Try.cfg.fc 101) (k + 5) (loopBody Try.f101 1) { tm := [(0, vb i0), (1, vb i1), (4, vb 0), (5, vi i4), (6, vi i3), (7, vi i5), (9, V.bool false)], hp := [], nx := 0 } = some (Exit.normal, { tm := [(0, vb i0), (1, vb i1), (4, vb 0), (5, vi (IntKind.i64.wrap (↑(BitVec.ofInt IntKind.i64.bits i4 ^^^ BitVec.ofInt IntKind.i64.bits (IntKind.i64.wrap (283 * i7))).toNat : Int))), (6, vi i3), (7, vi (IntKind.i64.wrap (i5 - 1))), (9, V.bool false), (25, V.bool true), (31, V.bool true)], hp := [], nx := 64 }) :=
  byL (k := k) (d := 5) [Hn.br 25 true, Hn.call 30 (vi i6), Hn.br 31 true, Hn.call 35 (vi i7)] (aI c0 (aI c1 (aI c2 (aI c3 trivial)))) (by kernel_rfl)
theorem L101_1_b0h (i0 i1 i3 i4 i5 i7 : Int) : head 0 [0, 1, 4, 5, 6, 7, 9] (Try.cfg.fc 101).acc { tm := [(0, vb i0), (1, vb i1), (4, vb 0), (5, vi (IntKind.i64.wrap (↑(BitVec.ofInt IntKind.i64.bits i4 ^^^ BitVec.ofInt IntKind.i64.bits (IntKind.i64.wrap (283 * i7))).toNat : Int))), (6, vi i3), (7, vi (IntKind.i64.wrap (i5 - 1))), (9, V.bool false), (25, V.bool true), (31, V.bool true)], hp := [], nx := 64 } = { tm := [(0, vb i0), (1, vb i1), (4, vb 0), (5, vi (IntKind.i64.wrap (↑(BitVec.ofInt IntKind.i64.bits i4 ^^^ BitVec.ofInt IntKind.i64.bits (IntKind.i64.wrap (283 * i7))).toNat : Int))), (6, vi i3), (7, vi (IntKind.i64.wrap (i5 - 1))), (9, V.bool false)], hp := [], nx := 0 } := by kernel_rfl
theorem L101_1_b1 (i0 i1 i3 i4 i5 i6 : Int) (k : Nat)
    (c0 : decide (8 ≤ i5) = true)
    (c1 : cP ((k + 5)) 109 [vi i4, vi i5] = some (vi i6))
    (c2 : decide (i6 = 1) = false) :
    evalCode Try.prog Try.cfg (evalFn Try.prog Try.cfg (k + 5)) 0 (Try.cfg.fc 101) (k + 5) (loopBody Try.f101 1) { tm := [(0, vb i0), (1, vb i1), (4, vb 0), (5, vi i4), (6, vi i3), (7, vi i5), (9, V.bool false)], hp := [], nx := 0 } = some (Exit.normal, { tm := [(0, vb i0), (1, vb i1), (4, vb 0), (5, vi i4), (6, vi i3), (7, vi (IntKind.i64.wrap (i5 - 1))), (9, V.bool false), (25, V.bool true), (31, V.bool false)], hp := [], nx := 36 }) :=
  byL (k := k) (d := 5) [Hn.br 25 true, Hn.call 30 (vi i6), Hn.br 31 false] (aI c0 (aI c1 (aI c2 trivial))) (by kernel_rfl)
theorem L101_1_b1h (i0 i1 i3 i4 i5 : Int) : head 0 [0, 1, 4, 5, 6, 7, 9] (Try.cfg.fc 101).acc { tm := [(0, vb i0), (1, vb i1), (4, vb 0), (5, vi i4), (6, vi i3), (7, vi (IntKind.i64.wrap (i5 - 1))), (9, V.bool false), (25, V.bool true), (31, V.bool false)], hp := [], nx := 36 } = { tm := [(0, vb i0), (1, vb i1), (4, vb 0), (5, vi i4), (6, vi i3), (7, vi (IntKind.i64.wrap (i5 - 1))), (9, V.bool false)], hp := [], nx := 0 } := by kernel_rfl
theorem L101_1_b2 (i0 i1 i3 i4 i5 : Int) (k : Nat)
    (c0 : decide (8 ≤ i5) = false) :
    evalCode Try.prog Try.cfg (evalFn Try.prog Try.cfg (k + 5)) 0 (Try.cfg.fc 101) (k + 5) (loopBody Try.f101 1) { tm := [(0, vb i0), (1, vb i1), (4, vb 0), (5, vi i4), (6, vi i3), (7, vi i5), (9, V.bool false)], hp := [], nx := 0 } = some (Exit.exit 2, { tm := [(0, vb i0), (1, vb i1), (4, vb 0), (5, vi i4), (6, vi i3), (7, vi i5), (9, V.bool false), (25, V.bool false)], hp := [], nx := 8 }) :=
  byL (k := k) (d := 5) [Hn.br 25 false] (aI c0 trivial) (by kernel_rfl)
inductive L101_1_R where
  | e0 (i4 : Int) (i5 : Int)
noncomputable def L101_1_end (i0 : Int) (i1 : Int) (i3 : Int) : L101_1_R → Exit × St
  | .e0 i4 i5 => (Exit.exit 2, { tm := [(0, V.int .u8 i0), (1, V.int .u8 i1), (4, V.int .u8 0), (5, V.int .i64 i4), (6, V.int .i64 i3), (7, V.int .i64 i5), (9, V.bool false), (25, V.bool false)], hp := [], nx := 8 })
def L101_1 (k : Nat) (i0 i1 i3 : Int) : Nat → Int → Int → Option L101_1_R
  | 0, _, _ => none
  | f + 1, i4, i5 => (bif decide (8 ≤ i5) then ((F109 (k + 2) (i4) (i5)).bind fun i6 => (bif decide (i6 = 1) then ((F110 (k + 2) (IntKind.i64.wrap (i5 - 8))).bind fun i7 => (L101_1 k i0 i1 i3 f (IntKind.i64.wrap (↑(BitVec.ofInt IntKind.i64.bits i4 ^^^ BitVec.ofInt IntKind.i64.bits (IntKind.i64.wrap (283 * i7))).toNat : Int)) (IntKind.i64.wrap (i5 - 1)))) else (L101_1 k i0 i1 i3 f (i4) (IntKind.i64.wrap (i5 - 1))))) else (some (L101_1_R.e0 i4 i5)))
theorem L101_1_ok {i0 i1 i3 : Int} {k : Nat} : ∀ {f : Nat} {i4 : Int} {i5 : Int} {r : L101_1_R}, L101_1 k i0 i1 i3 f i4 i5 = some r →
    LoopsN Try.prog Try.cfg (k + 5) 0 Try.f101 (Try.cfg.fc 101) 1 [0, 1, 4, 5, 6, 7, 9] f { tm := [(0, vb i0), (1, vb i1), (4, vb 0), (5, vi i4), (6, vi i3), (7, vi i5), (9, V.bool false)], hp := [], nx := 0 } (L101_1_end i0 i1 i3 r) := by
  intro f
  induction f with
  | zero => intro i4 i5 r h; cases h
  | succ f ih =>
    intro i4 i5 r h
    rw [L101_1] at h
    rcases cond_elim h with ⟨e0, h⟩ | ⟨e0, h⟩
    ·
      obtain ⟨i6, e1, h⟩ := bE h
      rcases cond_elim h with ⟨e2, h⟩ | ⟨e2, h⟩
      ·
        obtain ⟨i7, e3, h⟩ := bE h
        exact LoopsN.next (L101_1_b0 i0 i1 i3 i4 i5 i6 i7 k e0 (F109_ok e1) e2 (F110_ok e3)) (L101_1_b0h i0 i1 i3 i4 i5 i7) (ih h)
      ·
        exact LoopsN.next (L101_1_b1 i0 i1 i3 i4 i5 i6 k e0 (F109_ok e1) e2) (L101_1_b1h i0 i1 i3 i4 i5) (ih h)
    ·
      cases h; exact LoopsN.done (L101_1_b2 i0 i1 i3 i4 i5 k e0) (fun h => by cases h)
theorem P101_0 (i0 i1 i2 i3 i4 i5 : Int) (k : Nat)
    (c0 : LoopsN Try.prog Try.cfg (k + 5) 0 Try.f101 (Try.cfg.fc 101) 0 [0, 1, 4, 5, 6] (k + 5) { tm := [(0, vb i0), (1, vb i1), (4, vb 0), (5, vi 0), (6, vi 0)], hp := [], nx := 0 } (Exit.exit 0, { tm := [(0, vb i0), (1, vb i1), (4, vb 0), (5, vi i2), (6, vi i3), (9, V.bool false)], hp := [], nx := 8 }))
    (c1 : LoopsN Try.prog Try.cfg (k + 5) 0 Try.f101 (Try.cfg.fc 101) 1 [0, 1, 4, 5, 6, 7, 9] (k + 5) { tm := [(0, vb i0), (1, vb i1), (4, vb 0), (5, vi i2), (6, vi i3), (7, vi 14), (9, V.bool false)], hp := [], nx := 0 } (Exit.exit 2, { tm := [(0, vb i0), (1, vb i1), (4, vb 0), (5, vi i4), (6, vi i3), (7, vi i5), (9, V.bool false), (25, V.bool false)], hp := [], nx := 8 })) :
    cP ((k + 6)) 101 [vb i0, vb i1] = some (vb (IntKind.u8.wrap i4)) :=
  byF (k := k) (d := 6) [Hn.loop (Exit.exit 0, { tm := [(0, vb i0), (1, vb i1), (4, vb 0), (5, vi i2), (6, vi i3), (9, V.bool false)], hp := [], nx := 8 }), Hn.loop (Exit.exit 2, { tm := [(0, vb i0), (1, vb i1), (4, vb 0), (5, vi i4), (6, vi i3), (7, vi i5), (9, V.bool false), (25, V.bool false)], hp := [], nx := 8 })] (aI c0 (aI c1 trivial)) (by kernel_rfl)
def F101 (k : Nat) (i0 i1 : Int) : Option (Int) :=
  ((L101_0 k i0 i1 (k + 5) (0) (0)).bind fun
    | L101_0_R.e0 i2 i3 => ((L101_1 k i0 i1 i3 (k + 5) (i2) (14)).bind fun
    | L101_1_R.e0 i4 i5 => (some (IntKind.u8.wrap i4))))
theorem F101_ok {i0 i1 : Int} {k : Nat} {r : Int} (h : F101 k i0 i1 = some r) :
    cP ((k + 6)) 101 [vb i0, vb i1] = some (vb r) := by
  unfold F101 at h
  obtain ⟨ee, e0, h⟩ := bE h
  cases ee with
  | e0 i2 i3 =>
    obtain ⟨ee, e1, h⟩ := bE h
    cases ee with
    | e0 i4 i5 =>
      have h := Option.some.inj h; subst h; exact P101_0 i0 i1 i2 i3 i4 i5 k (L101_0_ok e0) (L101_1_ok e1)
theorem L108_0_b0 (i0 i1 i2 : Int) (k : Nat)
    (c0 : decide (i1 < 256) = true)
    (c1 : cP ((k + 8)) 101 [vb i0, vb (IntKind.u8.wrap i1)] = some (vb i2))
    (c2 : decide (i2 = 1) = true) :
    evalCode Try.prog Try.cfg (evalFn Try.prog Try.cfg (k + 8)) 0 (Try.cfg.fc 108) (k + 8) (loopBody Try.f108 0) { tm := [(0, vb i0), (2, vb 0), (3, vi i1)], hp := [], nx := 0 } = some (Exit.ret, { tm := [(0, vb i0), (2, vb (IntKind.u8.wrap i1)), (3, vi i1), (5, V.bool true), (12, V.bool true)], hp := [], nx := 40 }) :=
  byL (k := k) (d := 8) [Hn.br 5 true, Hn.call 11 (vb i2), Hn.br 12 true] (aI c0 (aI c1 (aI c2 trivial))) (by kernel_rfl)
theorem L108_0_b1 (i0 i1 i2 : Int) (k : Nat)
    (c0 : decide (i1 < 256) = true)
    (c1 : cP ((k + 8)) 101 [vb i0, vb (IntKind.u8.wrap i1)] = some (vb i2))
    (c2 : decide (i2 = 1) = false) :
    evalCode Try.prog Try.cfg (evalFn Try.prog Try.cfg (k + 8)) 0 (Try.cfg.fc 108) (k + 8) (loopBody Try.f108 0) { tm := [(0, vb i0), (2, vb 0), (3, vi i1)], hp := [], nx := 0 } = some (Exit.normal, { tm := [(0, vb i0), (2, vb 0), (3, vi (IntKind.i64.wrap (i1 + 1))), (5, V.bool true), (12, V.bool false)], hp := [], nx := 40 }) :=
  byL (k := k) (d := 8) [Hn.br 5 true, Hn.call 11 (vb i2), Hn.br 12 false] (aI c0 (aI c1 (aI c2 trivial))) (by kernel_rfl)
theorem L108_0_b1h (i0 i1 : Int) : head 0 [0, 2, 3] (Try.cfg.fc 108).acc { tm := [(0, vb i0), (2, vb 0), (3, vi (IntKind.i64.wrap (i1 + 1))), (5, V.bool true), (12, V.bool false)], hp := [], nx := 40 } = { tm := [(0, vb i0), (2, vb 0), (3, vi (IntKind.i64.wrap (i1 + 1)))], hp := [], nx := 0 } := by kernel_rfl
theorem L108_0_b2 (i0 i1 : Int) (k : Nat)
    (c0 : decide (i1 < 256) = false) :
    evalCode Try.prog Try.cfg (evalFn Try.prog Try.cfg (k + 8)) 0 (Try.cfg.fc 108) (k + 8) (loopBody Try.f108 0) { tm := [(0, vb i0), (2, vb 0), (3, vi i1)], hp := [], nx := 0 } = some (Exit.exit 0, { tm := [(0, vb i0), (2, vb 0), (3, vi i1), (5, V.bool false)], hp := [], nx := 8 }) :=
  byL (k := k) (d := 8) [Hn.br 5 false] (aI c0 trivial) (by kernel_rfl)
inductive L108_0_R where
  | e0 (i1 : Int)
  | e1 (i1 : Int)
noncomputable def L108_0_end (i0 : Int) : L108_0_R → Exit × St
  | .e0 i1 => (Exit.ret, { tm := [(0, V.int .u8 i0), (2, V.int .u8 (IntKind.u8.wrap i1)), (3, V.int .i64 i1), (5, V.bool true), (12, V.bool true)], hp := [], nx := 40 })
  | .e1 i1 => (Exit.exit 0, { tm := [(0, V.int .u8 i0), (2, V.int .u8 0), (3, V.int .i64 i1), (5, V.bool false)], hp := [], nx := 8 })
def L108_0 (k : Nat) (i0 : Int) : Nat → Int → Option L108_0_R
  | 0, _ => none
  | f + 1, i1 => (bif decide (i1 < 256) then ((F101 (k + 2) (i0) (IntKind.u8.wrap i1)).bind fun i2 => (bif decide (i2 = 1) then (some (L108_0_R.e0 i1)) else (L108_0 k i0 f (IntKind.i64.wrap (i1 + 1))))) else (some (L108_0_R.e1 i1)))
theorem L108_0_ok {i0 : Int} {k : Nat} : ∀ {f : Nat} {i1 : Int} {r : L108_0_R}, L108_0 k i0 f i1 = some r →
    LoopsN Try.prog Try.cfg (k + 8) 0 Try.f108 (Try.cfg.fc 108) 0 [0, 2, 3] f { tm := [(0, vb i0), (2, vb 0), (3, vi i1)], hp := [], nx := 0 } (L108_0_end i0 r) := by
  intro f
  induction f with
  | zero => intro i1 r h; cases h
  | succ f ih =>
    intro i1 r h
    rw [L108_0] at h
    rcases cond_elim h with ⟨e0, h⟩ | ⟨e0, h⟩
    ·
      obtain ⟨i2, e1, h⟩ := bE h
      rcases cond_elim h with ⟨e2, h⟩ | ⟨e2, h⟩
      ·
        cases h; exact LoopsN.done (L108_0_b0 i0 i1 i2 k e0 (F101_ok e1) e2) (fun h => by cases h)
      ·
        exact LoopsN.next (L108_0_b1 i0 i1 i2 k e0 (F101_ok e1) e2) (L108_0_b1h i0 i1) (ih h)
    ·
      cases h; exact LoopsN.done (L108_0_b2 i0 i1 k e0) (fun h => by cases h)
theorem P108_0 (i0 i1 : Int) (k : Nat)
    (c0 : LoopsN Try.prog Try.cfg (k + 8) 0 Try.f108 (Try.cfg.fc 108) 0 [0, 2, 3] (k + 8) { tm := [(0, vb i0), (2, vb 0), (3, vi 1)], hp := [], nx := 0 } (Exit.exit 0, { tm := [(0, vb i0), (2, vb 0), (3, vi i1), (5, V.bool false)], hp := [], nx := 8 })) :
    cP ((k + 9)) 108 [vb i0] = some (vb 0) :=
  byF (k := k) (d := 9) [Hn.loop (Exit.exit 0, { tm := [(0, vb i0), (2, vb 0), (3, vi i1), (5, V.bool false)], hp := [], nx := 8 })] (aI c0 trivial) (by kernel_rfl)
theorem P108_1 (i0 i1 : Int) (k : Nat)
    (c0 : LoopsN Try.prog Try.cfg (k + 8) 0 Try.f108 (Try.cfg.fc 108) 0 [0, 2, 3] (k + 8) { tm := [(0, vb i0), (2, vb 0), (3, vi 1)], hp := [], nx := 0 } (Exit.ret, { tm := [(0, vb i0), (2, vb (IntKind.u8.wrap i1)), (3, vi i1), (5, V.bool true), (12, V.bool true)], hp := [], nx := 40 })) :
    cP ((k + 9)) 108 [vb i0] = some (vb (IntKind.u8.wrap i1)) :=
  byF (k := k) (d := 9) [Hn.loop (Exit.ret, { tm := [(0, vb i0), (2, vb (IntKind.u8.wrap i1)), (3, vi i1), (5, V.bool true), (12, V.bool true)], hp := [], nx := 40 })] (aI c0 trivial) (by kernel_rfl)
def F108 (k : Nat) (i0 : Int) : Option (Int) :=
  ((L108_0 k i0 (k + 8) (1)).bind fun
    | L108_0_R.e0 i1 => (some (IntKind.u8.wrap i1))
    | L108_0_R.e1 i1 => (some (0)))
theorem F108_ok {i0 : Int} {k : Nat} {r : Int} (h : F108 k i0 = some r) :
    cP ((k + 9)) 108 [vb i0] = some (vb r) := by
  unfold F108 at h
  obtain ⟨ee, e0, h⟩ := bE h
  cases ee with
  | e0 i1 =>
    have h := Option.some.inj h; subst h; exact P108_1 i0 i1 k (L108_0_ok e0)
  | e1 i1 =>
    have h := Option.some.inj h; subst h; exact P108_0 i0 i1 k (L108_0_ok e0)
theorem L107_0_b0 (i0 i1 i2 i3 i4 : Int) (k : Nat)
    (c0 : decide (i3 < i1) = true)
    (c1 : cP ((k + 8)) 101 [vb i2, vb i0] = some (vb i4)) :
    evalCode Try.prog Try.cfg (evalFn Try.prog Try.cfg (k + 8)) 0 (Try.cfg.fc 107) (k + 8) (loopBody Try.f107 0) { tm := [(0, vb i0), (1, vi i1), (4, vb 0), (5, vb i2), (6, vi i3)], hp := [], nx := 0 } = some (Exit.normal, { tm := [(0, vb i0), (1, vi i1), (4, vb 0), (5, vb i4), (6, vi (IntKind.i64.wrap (i3 + 1))), (9, V.bool true)], hp := [], nx := 40 }) :=
  byL (k := k) (d := 8) [Hn.br 9 true, Hn.call 14 (vb i4)] (aI c0 (aI c1 trivial)) (by kernel_rfl)
theorem L107_0_b0h (i0 i1 i3 i4 : Int) : head 0 [0, 1, 4, 5, 6] (Try.cfg.fc 107).acc { tm := [(0, vb i0), (1, vi i1), (4, vb 0), (5, vb i4), (6, vi (IntKind.i64.wrap (i3 + 1))), (9, V.bool true)], hp := [], nx := 40 } = { tm := [(0, vb i0), (1, vi i1), (4, vb 0), (5, vb i4), (6, vi (IntKind.i64.wrap (i3 + 1)))], hp := [], nx := 0 } := by kernel_rfl
theorem L107_0_b1 (i0 i1 i2 i3 : Int) (k : Nat)
    (c0 : decide (i3 < i1) = false) :
    evalCode Try.prog Try.cfg (evalFn Try.prog Try.cfg (k + 8)) 0 (Try.cfg.fc 107) (k + 8) (loopBody Try.f107 0) { tm := [(0, vb i0), (1, vi i1), (4, vb 0), (5, vb i2), (6, vi i3)], hp := [], nx := 0 } = some (Exit.exit 0, { tm := [(0, vb i0), (1, vi i1), (4, vb 0), (5, vb i2), (6, vi i3), (9, V.bool false)], hp := [], nx := 12 }) :=
  byL (k := k) (d := 8) [Hn.br 9 false] (aI c0 trivial) (by kernel_rfl)
inductive L107_0_R where
  | e0 (i2 : Int) (i3 : Int)
noncomputable def L107_0_end (i0 : Int) (i1 : Int) : L107_0_R → Exit × St
  | .e0 i2 i3 => (Exit.exit 0, { tm := [(0, V.int .u8 i0), (1, V.int .i64 i1), (4, V.int .u8 0), (5, V.int .u8 i2), (6, V.int .i64 i3), (9, V.bool false)], hp := [], nx := 12 })
def L107_0 (k : Nat) (i0 i1 : Int) : Nat → Int → Int → Option L107_0_R
  | 0, _, _ => none
  | f + 1, i2, i3 => (bif decide (i3 < i1) then ((F101 (k + 2) (i2) (i0)).bind fun i4 => (L107_0 k i0 i1 f (i4) (IntKind.i64.wrap (i3 + 1)))) else (some (L107_0_R.e0 i2 i3)))
theorem L107_0_ok {i0 i1 : Int} {k : Nat} : ∀ {f : Nat} {i2 : Int} {i3 : Int} {r : L107_0_R}, L107_0 k i0 i1 f i2 i3 = some r →
    LoopsN Try.prog Try.cfg (k + 8) 0 Try.f107 (Try.cfg.fc 107) 0 [0, 1, 4, 5, 6] f { tm := [(0, vb i0), (1, vi i1), (4, vb 0), (5, vb i2), (6, vi i3)], hp := [], nx := 0 } (L107_0_end i0 i1 r) := by
  intro f
  induction f with
  | zero => intro i2 i3 r h; cases h
  | succ f ih =>
    intro i2 i3 r h
    rw [L107_0] at h
    rcases cond_elim h with ⟨e0, h⟩ | ⟨e0, h⟩
    ·
      obtain ⟨i4, e1, h⟩ := bE h
      exact LoopsN.next (L107_0_b0 i0 i1 i2 i3 i4 k e0 (F101_ok e1)) (L107_0_b0h i0 i1 i3 i4) (ih h)
    ·
      cases h; exact LoopsN.done (L107_0_b1 i0 i1 i2 i3 k e0) (fun h => by cases h)
theorem P107_0 (i0 i1 i2 i3 : Int) (k : Nat)
    (c0 : LoopsN Try.prog Try.cfg (k + 8) 0 Try.f107 (Try.cfg.fc 107) 0 [0, 1, 4, 5, 6] (k + 8) { tm := [(0, vb i0), (1, vi i1), (4, vb 0), (5, vb 1), (6, vi 0)], hp := [], nx := 0 } (Exit.exit 0, { tm := [(0, vb i0), (1, vi i1), (4, vb 0), (5, vb i2), (6, vi i3), (9, V.bool false)], hp := [], nx := 12 })) :
    cP ((k + 9)) 107 [vb i0, vi i1] = some (vb i2) :=
  byF (k := k) (d := 9) [Hn.loop (Exit.exit 0, { tm := [(0, vb i0), (1, vi i1), (4, vb 0), (5, vb i2), (6, vi i3), (9, V.bool false)], hp := [], nx := 12 })] (aI c0 trivial) (by kernel_rfl)
def F107 (k : Nat) (i0 i1 : Int) : Option (Int) :=
  ((L107_0 k i0 i1 (k + 8) (1) (0)).bind fun
    | L107_0_R.e0 i2 i3 => (some (i2)))
theorem F107_ok {i0 i1 : Int} {k : Nat} {r : Int} (h : F107 k i0 i1 = some r) :
    cP ((k + 9)) 107 [vb i0, vi i1] = some (vb r) := by
  unfold F107 at h
  obtain ⟨ee, e0, h⟩ := bE h
  cases ee with
  | e0 i2 i3 =>
    have h := Option.some.inj h; subst h; exact P107_0 i0 i1 i2 i3 k (L107_0_ok e0)
theorem L100_0_b0 (i0 i1 i2 i3 i4 i5 i6 i7 i8 i9 i10 : Int) (k : Nat)
    (c0 : decide (i3 < 8) = true)
    (c1 : cP ((k + 11)) 109 [vi (IntKind.i64.wrap i1), vi i3] = some (vi i4))
    (c2 : cP ((k + 11)) 109 [vi (IntKind.i64.wrap i1), vi ((IntKind.i64.wrap (i3 + 4)).tmod 8)] = some (vi i5))
    (c3 : cP ((k + 11)) 109 [vi (IntKind.i64.wrap i1), vi ((IntKind.i64.wrap (i3 + 5)).tmod 8)] = some (vi i6))
    (c4 : cP ((k + 11)) 109 [vi (IntKind.i64.wrap i1), vi ((IntKind.i64.wrap (i3 + 6)).tmod 8)] = some (vi i7))
    (c5 : cP ((k + 11)) 109 [vi (IntKind.i64.wrap i1), vi ((IntKind.i64.wrap (i3 + 7)).tmod 8)] = some (vi i8))
    (c6 : cP ((k + 11)) 109 [vi 99, vi i3] = some (vi i9))
    (c7 : cP ((k + 11)) 110 [vi i3] = some (vi i10)) :
    evalCode Try.prog Try.cfg (evalFn Try.prog Try.cfg (k + 11)) 0 (Try.cfg.fc 100) (k + 11) (loopBody Try.f100 0) { tm := [(0, vb i0), (2, vb 0), (3, vi (IntKind.i64.wrap i1)), (4, vi i2), (5, vi i3)], hp := [], nx := 0 } = some (Exit.normal, { tm := [(0, vb i0), (2, vb 0), (3, vi (IntKind.i64.wrap i1)), (4, vi (IntKind.i64.wrap (i2 + IntKind.i64.wrap ((IntKind.i64.wrap (IntKind.i64.wrap (IntKind.i64.wrap (IntKind.i64.wrap (IntKind.i64.wrap (i4 + i5) + i6) + i7) + i8) + i9)).tmod 2 * i10)))), (5, vi (IntKind.i64.wrap (i3 + 1))), (6, vi (IntKind.i64.wrap (IntKind.i64.wrap (IntKind.i64.wrap (IntKind.i64.wrap (IntKind.i64.wrap (i4 + i5) + i6) + i7) + i8) + i9))), (11, V.bool true)], hp := [], nx := 176 }) :=
  byL (k := k) (d := 11) [Hn.br 11 true, Hn.call 16 (vi i4), Hn.call 21 (vi i5), Hn.call 27 (vi i6), Hn.call 33 (vi i7), Hn.call 39 (vi i8), Hn.call 42 (vi i9), Hn.call 48 (vi i10)] (aI c0 (aI c1 (aI c2 (aI c3 (aI c4 (aI c5 (aI c6 (aI c7 trivial)))))))) (by kernel_rfl)
theorem L100_0_b0h (i0 i1 i2 i3 i4 i5 i6 i7 i8 i9 i10 : Int) : head 0 [0, 2, 3, 4, 5] (Try.cfg.fc 100).acc { tm := [(0, vb i0), (2, vb 0), (3, vi (IntKind.i64.wrap i1)), (4, vi (IntKind.i64.wrap (i2 + IntKind.i64.wrap ((IntKind.i64.wrap (IntKind.i64.wrap (IntKind.i64.wrap (IntKind.i64.wrap (IntKind.i64.wrap (i4 + i5) + i6) + i7) + i8) + i9)).tmod 2 * i10)))), (5, vi (IntKind.i64.wrap (i3 + 1))), (6, vi (IntKind.i64.wrap (IntKind.i64.wrap (IntKind.i64.wrap (IntKind.i64.wrap (IntKind.i64.wrap (i4 + i5) + i6) + i7) + i8) + i9))), (11, V.bool true)], hp := [], nx := 176 } = { tm := [(0, vb i0), (2, vb 0), (3, vi (IntKind.i64.wrap i1)), (4, vi (IntKind.i64.wrap (i2 + IntKind.i64.wrap ((IntKind.i64.wrap (IntKind.i64.wrap (IntKind.i64.wrap (IntKind.i64.wrap (IntKind.i64.wrap (i4 + i5) + i6) + i7) + i8) + i9)).tmod 2 * i10)))), (5, vi (IntKind.i64.wrap (i3 + 1)))], hp := [], nx := 0 } := by kernel_rfl
theorem L100_0_b1 (i0 i1 i2 i3 : Int) (k : Nat)
    (c0 : decide (i3 < 8) = false) :
    evalCode Try.prog Try.cfg (evalFn Try.prog Try.cfg (k + 11)) 0 (Try.cfg.fc 100) (k + 11) (loopBody Try.f100 0) { tm := [(0, vb i0), (2, vb 0), (3, vi (IntKind.i64.wrap i1)), (4, vi i2), (5, vi i3)], hp := [], nx := 0 } = some (Exit.exit 0, { tm := [(0, vb i0), (2, vb 0), (3, vi (IntKind.i64.wrap i1)), (4, vi i2), (5, vi i3), (11, V.bool false)], hp := [], nx := 8 }) :=
  byL (k := k) (d := 11) [Hn.br 11 false] (aI c0 trivial) (by kernel_rfl)
inductive L100_0_R where
  | e0 (i2 : Int) (i3 : Int)
noncomputable def L100_0_end (i0 : Int) (i1 : Int) : L100_0_R → Exit × St
  | .e0 i2 i3 => (Exit.exit 0, { tm := [(0, V.int .u8 i0), (2, V.int .u8 0), (3, V.int .i64 (IntKind.i64.wrap i1)), (4, V.int .i64 i2), (5, V.int .i64 i3), (11, V.bool false)], hp := [], nx := 8 })
def L100_0 (k : Nat) (i0 i1 : Int) : Nat → Int → Int → Option L100_0_R
  | 0, _, _ => none
  | f + 1, i2, i3 => (bif decide (i3 < 8) then ((F109 (k + 8) (IntKind.i64.wrap i1) (i3)).bind fun i4 => ((F109 (k + 8) (IntKind.i64.wrap i1) ((IntKind.i64.wrap (i3 + 4)).tmod 8)).bind fun i5 => ((F109 (k + 8) (IntKind.i64.wrap i1) ((IntKind.i64.wrap (i3 + 5)).tmod 8)).bind fun i6 => ((F109 (k + 8) (IntKind.i64.wrap i1) ((IntKind.i64.wrap (i3 + 6)).tmod 8)).bind fun i7 => ((F109 (k + 8) (IntKind.i64.wrap i1) ((IntKind.i64.wrap (i3 + 7)).tmod 8)).bind fun i8 => ((F109 (k + 8) (99) (i3)).bind fun i9 => ((F110 (k + 8) (i3)).bind fun i10 => (L100_0 k i0 i1 f (IntKind.i64.wrap (i2 + IntKind.i64.wrap ((IntKind.i64.wrap (IntKind.i64.wrap (IntKind.i64.wrap (IntKind.i64.wrap (IntKind.i64.wrap (i4 + i5) + i6) + i7) + i8) + i9)).tmod 2 * i10))) (IntKind.i64.wrap (i3 + 1)))))))))) else (some (L100_0_R.e0 i2 i3)))
theorem L100_0_ok {i0 i1 : Int} {k : Nat} : ∀ {f : Nat} {i2 : Int} {i3 : Int} {r : L100_0_R}, L100_0 k i0 i1 f i2 i3 = some r →
    LoopsN Try.prog Try.cfg (k + 11) 0 Try.f100 (Try.cfg.fc 100) 0 [0, 2, 3, 4, 5] f { tm := [(0, vb i0), (2, vb 0), (3, vi (IntKind.i64.wrap i1)), (4, vi i2), (5, vi i3)], hp := [], nx := 0 } (L100_0_end i0 i1 r) := by
  intro f
  induction f with
  | zero => intro i2 i3 r h; cases h
  | succ f ih =>
    intro i2 i3 r h
    rw [L100_0] at h
    rcases cond_elim h with ⟨e0, h⟩ | ⟨e0, h⟩
    ·
      obtain ⟨i4, e1, h⟩ := bE h
      obtain ⟨i5, e2, h⟩ := bE h
      obtain ⟨i6, e3, h⟩ := bE h
      obtain ⟨i7, e4, h⟩ := bE h
      obtain ⟨i8, e5, h⟩ := bE h
      obtain ⟨i9, e6, h⟩ := bE h
      obtain ⟨i10, e7, h⟩ := bE h
      exact LoopsN.next (L100_0_b0 i0 i1 i2 i3 i4 i5 i6 i7 i8 i9 i10 k e0 (F109_ok e1) (F109_ok e2) (F109_ok e3) (F109_ok e4) (F109_ok e5) (F109_ok e6) (F110_ok e7)) (L100_0_b0h i0 i1 i2 i3 i4 i5 i6 i7 i8 i9 i10) (ih h)
    ·
      cases h; exact LoopsN.done (L100_0_b1 i0 i1 i2 i3 k e0) (fun h => by cases h)
theorem P100_0 (i0 i1 i2 i3 : Int) (k : Nat)
    (c0 : cP ((k + 11)) 108 [vb i0] = some (vb i1))
    (c1 : LoopsN Try.prog Try.cfg (k + 11) 0 Try.f100 (Try.cfg.fc 100) 0 [0, 2, 3, 4, 5] (k + 11) { tm := [(0, vb i0), (2, vb 0), (3, vi (IntKind.i64.wrap i1)), (4, vi 0), (5, vi 0)], hp := [], nx := 0 } (Exit.exit 0, { tm := [(0, vb i0), (2, vb 0), (3, vi (IntKind.i64.wrap i1)), (4, vi i2), (5, vi i3), (11, V.bool false)], hp := [], nx := 8 })) :
    cP ((k + 12)) 100 [vb i0] = some (vb (IntKind.u8.wrap i2)) :=
  byF (k := k) (d := 12) [Hn.call 8 (vb i1), Hn.loop (Exit.exit 0, { tm := [(0, vb i0), (2, vb 0), (3, vi (IntKind.i64.wrap i1)), (4, vi i2), (5, vi i3), (11, V.bool false)], hp := [], nx := 8 })] (aI c0 (aI c1 trivial)) (by kernel_rfl)
def F100 (k : Nat) (i0 : Int) : Option (Int) :=
  ((F108 (k + 2) (i0)).bind fun i1 => ((L100_0 k i0 i1 (k + 11) (0) (0)).bind fun
    | L100_0_R.e0 i2 i3 => (some (IntKind.u8.wrap i2))))
theorem F100_ok {i0 : Int} {k : Nat} {r : Int} (h : F100 k i0 = some r) :
    cP ((k + 12)) 100 [vb i0] = some (vb r) := by
  unfold F100 at h
  obtain ⟨i1, e0, h⟩ := bE h
  obtain ⟨ee, e1, h⟩ := bE h
  cases ee with
  | e0 i2 i3 =>
    have h := Option.some.inj h; subst h; exact P100_0 i0 i1 i2 i3 k (F108_ok e0) (L100_0_ok e1)
end Go.Proofs
