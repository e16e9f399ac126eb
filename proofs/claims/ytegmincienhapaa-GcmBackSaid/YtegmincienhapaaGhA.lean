/-
  What functions of ghash answer, as functions on numbers and texts, each checked against the program.
-/
import Derived.Test.YtegmincienhapaaShort
set_option linter.unusedVariables false
set_option maxHeartbeats 0
set_option maxRecDepth 100000
namespace Go.Proofs
open Go Go.Sym

theorem L78_0_b0 (i0 i1 i2 : Int) (s0 : List UInt8) (k : Nat)
    (c0 : decide (i1 < (↑(List.map (fun c => vb (↑c.toNat : Int)) (List.take (Int.toNat 8) s0)).length : Int)) = true)
    (c1 : IdxR (List.map (fun c => vb (↑c.toNat : Int)) (List.take (Int.toNat 8) s0)).length i1 1 1 (V.ept 0 i1.toNat 0))
    (c2 : LdP Try.prog 5 (List.map (fun c => vb (↑c.toNat : Int)) (List.take (Int.toNat 8) s0)) i1.toNat 0 (vb i2)) :
    evalCode Try.prog Try.cfg (evalFn Try.prog Try.cfg (k + 2)) 0 (Try.cfg.fc 78) (k + 2) (loopBody Try.f78 0) { tm := [(0, V.str s0), (2, vu 0), (3, vu i0), (8, V.ref 0), (9, vi (↑(List.map (fun c => vb (↑c.toNat : Int)) (List.take (Int.toNat 8) s0)).length : Int)), (10, vi i1)], hp := [(0, Ob.row false 1 (List.map (fun c => vb (↑c.toNat : Int)) (List.take (Int.toNat 8) s0)))], nx := 1 } = some (Exit.normal, { tm := [(0, V.str s0), (2, vu 0), (3, vu (IntKind.u64.wrap (↑(BitVec.ofInt IntKind.u64.bits (IntKind.u64.wrap (i0 * 2 ^ min (Int.toNat 8) IntKind.u64.bits)) ||| BitVec.ofInt IntKind.u64.bits (IntKind.u64.wrap i2)).toNat : Int))), (5, vb i2), (8, V.ref 0), (9, vi (↑(List.map (fun c => vb (↑c.toNat : Int)) (List.take (Int.toNat 8) s0)).length : Int)), (10, vi (IntKind.i64.wrap (i1 + 1))), (11, V.bool true)], hp := [(0, Ob.row false 1 (List.map (fun c => vb (↑c.toNat : Int)) (List.take (Int.toNat 8) s0)))], nx := 49 }) :=
  byL (k := k) (d := 2) [Hn.br 11 true, Hn.op 12 (V.ept 0 i1.toNat 0) [], Hn.op 13 (vb i2) []] (aI c0 (aI c1 (aI c2 trivial))) (by kernel_rfl)
theorem L78_0_b0h (i0 i1 i2 : Int) (s0 : List UInt8) : head 0 [0, 2, 3, 8, 9, 10] (Try.cfg.fc 78).acc { tm := [(0, V.str s0), (2, vu 0), (3, vu (IntKind.u64.wrap (↑(BitVec.ofInt IntKind.u64.bits (IntKind.u64.wrap (i0 * 2 ^ min (Int.toNat 8) IntKind.u64.bits)) ||| BitVec.ofInt IntKind.u64.bits (IntKind.u64.wrap i2)).toNat : Int))), (5, vb i2), (8, V.ref 0), (9, vi (↑(List.map (fun c => vb (↑c.toNat : Int)) (List.take (Int.toNat 8) s0)).length : Int)), (10, vi (IntKind.i64.wrap (i1 + 1))), (11, V.bool true)], hp := [(0, Ob.row false 1 (List.map (fun c => vb (↑c.toNat : Int)) (List.take (Int.toNat 8) s0)))], nx := 49 } = { tm := [(0, V.str s0), (2, vu 0), (3, vu (IntKind.u64.wrap (↑(BitVec.ofInt IntKind.u64.bits (IntKind.u64.wrap (i0 * 2 ^ min (Int.toNat 8) IntKind.u64.bits)) ||| BitVec.ofInt IntKind.u64.bits (IntKind.u64.wrap i2)).toNat : Int))), (8, V.ref 0), (9, vi (↑(List.map (fun c => vb (↑c.toNat : Int)) (List.take (Int.toNat 8) s0)).length : Int)), (10, vi (IntKind.i64.wrap (i1 + 1)))], hp := [(0, Ob.row false 1 (List.map (fun c => vb (↑c.toNat : Int)) (List.take (Int.toNat 8) s0)))], nx := 1 } := by kernel_rfl
theorem L78_0_b1 (i0 i1 : Int) (s0 : List UInt8) (k : Nat)
    (c0 : decide (i1 < (↑(List.map (fun c => vb (↑c.toNat : Int)) (List.take (Int.toNat 8) s0)).length : Int)) = false) :
    evalCode Try.prog Try.cfg (evalFn Try.prog Try.cfg (k + 2)) 0 (Try.cfg.fc 78) (k + 2) (loopBody Try.f78 0) { tm := [(0, V.str s0), (2, vu 0), (3, vu i0), (8, V.ref 0), (9, vi (↑(List.map (fun c => vb (↑c.toNat : Int)) (List.take (Int.toNat 8) s0)).length : Int)), (10, vi i1)], hp := [(0, Ob.row false 1 (List.map (fun c => vb (↑c.toNat : Int)) (List.take (Int.toNat 8) s0)))], nx := 1 } = some (Exit.exit 0, { tm := [(0, V.str s0), (2, vu 0), (3, vu i0), (8, V.ref 0), (9, vi (↑(List.map (fun c => vb (↑c.toNat : Int)) (List.take (Int.toNat 8) s0)).length : Int)), (10, vi i1), (11, V.bool false)], hp := [(0, Ob.row false 1 (List.map (fun c => vb (↑c.toNat : Int)) (List.take (Int.toNat 8) s0)))], nx := 5 }) :=
  byL (k := k) (d := 2) [Hn.br 11 false] (aI c0 trivial) (by kernel_rfl)
inductive L78_0_R where
  | e0 (i0 : Int) (i1 : Int)
noncomputable def L78_0_end (s0 : List UInt8) : L78_0_R → Exit × St
  | .e0 i0 i1 => (Exit.exit 0, { tm := [(0, V.str s0), (2, V.int .u64 0), (3, V.int .u64 i0), (8, V.ref 0), (9, V.int .i64 (↑(List.map (fun c => V.int .u8 (↑c.toNat : Int)) (List.take (Int.toNat 8) s0)).length : Int)), (10, V.int .i64 i1), (11, V.bool false)], hp := [(0, Ob.row false 1 (List.map (fun c => V.int .u8 (↑c.toNat : Int)) (List.take (Int.toNat 8) s0)))], nx := 5 })
def L78_0 (k : Nat) (s0 : List UInt8) : Nat → Int → Int → Option L78_0_R
  | 0, _, _ => none
  | f + 1, i0, i1 => (bif decide (i1 < (↑(List.map (fun c => V.int .u8 (↑c.toNat : Int)) (List.take (Int.toNat 8) s0)).length : Int)) then (guardP ((0 : Int) ≤ i1 ∧ i1 < (↑(List.map (fun c => V.int .u8 (↑c.toNat : Int)) (List.take (Int.toNat (8 : Int)) s0)).length : Int)) ((((List.map (fun c => V.int .u8 (↑c.toNat : Int)) (List.take (Int.toNat 8) s0))[i1.toNat]?).bind (dI IntKind.u8)).bind fun i2 => (L78_0 k s0 f (IntKind.u64.wrap (↑(BitVec.ofInt IntKind.u64.bits (IntKind.u64.wrap (i0 * 2 ^ min (Int.toNat 8) IntKind.u64.bits)) ||| BitVec.ofInt IntKind.u64.bits (IntKind.u64.wrap i2)).toNat : Int)) (IntKind.i64.wrap (i1 + 1))))) else (some (L78_0_R.e0 i0 i1)))
theorem L78_0_ok {s0 : List UInt8} {k : Nat} : ∀ {f : Nat} {i0 : Int} {i1 : Int} {r : L78_0_R}, L78_0 k s0 f i0 i1 = some r →
    LoopsN Try.prog Try.cfg (k + 2) 0 Try.f78 (Try.cfg.fc 78) 0 [0, 2, 3, 8, 9, 10] f { tm := [(0, V.str s0), (2, vu 0), (3, vu i0), (8, V.ref 0), (9, vi (↑(List.map (fun c => vb (↑c.toNat : Int)) (List.take (Int.toNat 8) s0)).length : Int)), (10, vi i1)], hp := [(0, Ob.row false 1 (List.map (fun c => vb (↑c.toNat : Int)) (List.take (Int.toNat 8) s0)))], nx := 1 } (L78_0_end s0 r) := by
  intro f
  induction f with
  | zero => intro i0 i1 r h; cases h
  | succ f ih =>
    intro i0 i1 r h
    rw [L78_0] at h
    rcases cond_elim h with ⟨e0, h⟩ | ⟨e0, h⟩
    ·
      obtain ⟨e1, h⟩ := guardP_some.1 h
      obtain ⟨i2, e2, h⟩ := bE h
      exact LoopsN.next (L78_0_b0 i0 i1 i2 s0 k e0 (IdxR.mk' e1 rfl) (LdP.mk (get_d dI_ok e2 :) (by kernel_rfl))) (L78_0_b0h i0 i1 i2 s0) (ih h)
    ·
      cases h; exact LoopsN.done (L78_0_b1 i0 i1 s0 k e0) (fun h => by cases h)
theorem P78_0 (i0 i1 : Int) (s0 : List UInt8) (k : Nat)
    (c0 : SlcP false 0 (V.str s0) none (some (vi 8)) none (V.str (List.take (Int.toNat 8) s0)))
    (c1 : GrdW ((List.take (Int.toNat (8 : Int)) s0).length ≤ maxLen' ∧ (1 : Nat) = (1 : Nat)) (V.ref (16 : Nat)) [((16 : Nat), Ob.row false (1 : Nat) (List.map (fun c => vb (↑c.toNat : Int)) (List.take (Int.toNat (8 : Int)) s0)))])
    (c2 : LoopsN Try.prog Try.cfg (k + 2) 0 Try.f78 (Try.cfg.fc 78) 0 [0, 2, 3, 8, 9, 10] (k + 2) { tm := [(0, V.str s0), (2, vu 0), (3, vu 0), (8, V.ref 0), (9, vi (↑(List.map (fun c => vb (↑c.toNat : Int)) (List.take (Int.toNat 8) s0)).length : Int)), (10, vi 0)], hp := [(0, Ob.row false 1 (List.map (fun c => vb (↑c.toNat : Int)) (List.take (Int.toNat 8) s0)))], nx := 1 } (Exit.exit 0, { tm := [(0, V.str s0), (2, vu 0), (3, vu i0), (8, V.ref 0), (9, vi (↑(List.map (fun c => vb (↑c.toNat : Int)) (List.take (Int.toNat 8) s0)).length : Int)), (10, vi i1), (11, V.bool false)], hp := [(0, Ob.row false 1 (List.map (fun c => vb (↑c.toNat : Int)) (List.take (Int.toNat 8) s0)))], nx := 5 })) :
    cP ((k + 3)) 78 [V.str s0] = some (vu i0) :=
  byF (k := k) (d := 3) [Hn.op 7 (V.str (List.take (Int.toNat 8) s0)) [], Hn.op 8 (V.ref 16) [(16, Ob.row false 1 (List.map (fun c => vb (↑c.toNat : Int)) (List.take (Int.toNat 8) s0)))], Hn.loop (Exit.exit 0, { tm := [(0, V.str s0), (2, vu 0), (3, vu i0), (8, V.ref 0), (9, vi (↑(List.map (fun c => vb (↑c.toNat : Int)) (List.take (Int.toNat 8) s0)).length : Int)), (10, vi i1), (11, V.bool false)], hp := [(0, Ob.row false 1 (List.map (fun c => vb (↑c.toNat : Int)) (List.take (Int.toNat 8) s0)))], nx := 5 })] (aI c0 (aI c1 (aI c2 trivial))) (by kernel_rfl)
def F78 (k : Nat) (s0 : List UInt8) : Option (Int) :=
  (guardP ((0 : Int) ≤ (8 : Int) ∧ (8 : Int) ≤ (↑s0.length : Int)) (guardP ((List.take (Int.toNat (8 : Int)) s0).length ≤ maxLen') ((L78_0 k s0 (k + 2) (0) (0)).bind fun
    | L78_0_R.e0 i0 i1 => (some (i0)))))
theorem F78_ok {s0 : List UInt8} {k : Nat} {r : Int} (h : F78 k s0 = some r) :
    cP ((k + 3)) 78 [V.str s0] = some (vu r) := by
  unfold F78 at h
  obtain ⟨e0, h⟩ := guardP_some.1 h
  obtain ⟨e1, h⟩ := guardP_some.1 h
  obtain ⟨ee, e2, h⟩ := bE h
  cases ee with
  | e0 i0 i1 =>
    have h := Option.some.inj h; subst h; exact P78_0 i0 i1 s0 k (SlcP.strUptoS e0) (GrdW.mk ⟨e1, rfl⟩) (L78_0_ok e2)
theorem P46_0 (i0 i1 : Int) (s0 : List UInt8) (k : Nat)
    (c0 : cP ((k + 5)) 78 [V.str s0] = some (vu i0))
    (c1 : SlcP false 0 (V.str s0) (some (vi 8)) none none (V.str (List.drop (Int.toNat 8) s0)))
    (c2 : cP ((k + 5)) 78 [V.str (List.drop (Int.toNat 8) s0)] = some (vu i1)) :
    cP ((k + 6)) 46 [V.str s0] = some (V.agg [vu i0, vu i1]) :=
  byF (k := k) (d := 6) [Hn.call 4 (vu i0), Hn.op 6 (V.str (List.drop (Int.toNat 8) s0)) [], Hn.call 7 (vu i1)] (aI c0 (aI c1 (aI c2 trivial))) (by kernel_rfl)
def F46 (k : Nat) (s0 : List UInt8) : Option (Int × Int) :=
  ((F78 (k + 2) (s0)).bind fun i0 => (guardP ((0 : Int) ≤ (8 : Int) ∧ (8 : Int) ≤ (↑s0.length : Int)) ((F78 (k + 2) (List.drop (Int.toNat 8) s0)).bind fun i1 => (some ((i0), (i1))))))
theorem F46_ok {s0 : List UInt8} {k : Nat} {r : Int × Int} (h : F46 k s0 = some r) :
    cP ((k + 6)) 46 [V.str s0] = some (V.agg [vu r.1, vu r.2]) := by
  unfold F46 at h
  obtain ⟨i0, e0, h⟩ := bE h
  obtain ⟨e1, h⟩ := guardP_some.1 h
  obtain ⟨i1, e2, h⟩ := bE h
  have h := Option.some.inj h; subst h; exact P46_0 i0 i1 s0 k (F78_ok e0) (SlcP.strFromS e1) (F78_ok e2)
theorem P79_0 (i0 i1 : Int) (k : Nat)
    (c0 : decide (IntKind.u64.wrap (↑(BitVec.ofInt IntKind.u64.bits i1 &&& BitVec.ofInt IntKind.u64.bits 1).toNat : Int) = 1) = true) :
    cP ((k + 3)) 79 [V.agg [vu i0, vu i1]] = some (V.agg [vu (IntKind.u64.wrap (↑(BitVec.ofInt IntKind.u64.bits (i0.fdiv (2 ^ min (Int.toNat 1) IntKind.u64.bits)) ^^^ BitVec.ofInt IntKind.u64.bits 16212958658533785600).toNat : Int)), vu (IntKind.u64.wrap (↑(BitVec.ofInt IntKind.u64.bits (IntKind.u64.wrap (i0 * 2 ^ min (Int.toNat 63) IntKind.u64.bits)) ||| BitVec.ofInt IntKind.u64.bits (i1.fdiv (2 ^ min (Int.toNat 1) IntKind.u64.bits))).toNat : Int))]) :=
  byF (k := k) (d := 3) [Hn.br 18 true] (aI c0 trivial) (by kernel_rfl)
theorem P79_1 (i0 i1 : Int) (k : Nat)
    (c0 : decide (IntKind.u64.wrap (↑(BitVec.ofInt IntKind.u64.bits i1 &&& BitVec.ofInt IntKind.u64.bits 1).toNat : Int) = 1) = false) :
    cP ((k + 3)) 79 [V.agg [vu i0, vu i1]] = some (V.agg [vu (i0.fdiv (2 ^ min (Int.toNat 1) IntKind.u64.bits)), vu (IntKind.u64.wrap (↑(BitVec.ofInt IntKind.u64.bits (IntKind.u64.wrap (i0 * 2 ^ min (Int.toNat 63) IntKind.u64.bits)) ||| BitVec.ofInt IntKind.u64.bits (i1.fdiv (2 ^ min (Int.toNat 1) IntKind.u64.bits))).toNat : Int))]) :=
  byF (k := k) (d := 3) [Hn.br 18 false] (aI c0 trivial) (by kernel_rfl)
def F79 (k : Nat) (i0 i1 : Int) : Option (Int × Int) :=
  (bif decide (IntKind.u64.wrap (↑(BitVec.ofInt IntKind.u64.bits i1 &&& BitVec.ofInt IntKind.u64.bits 1).toNat : Int) = 1) then (some ((IntKind.u64.wrap (↑(BitVec.ofInt IntKind.u64.bits (i0.fdiv (2 ^ min (Int.toNat 1) IntKind.u64.bits)) ^^^ BitVec.ofInt IntKind.u64.bits 16212958658533785600).toNat : Int)), (IntKind.u64.wrap (↑(BitVec.ofInt IntKind.u64.bits (IntKind.u64.wrap (i0 * 2 ^ min (Int.toNat 63) IntKind.u64.bits)) ||| BitVec.ofInt IntKind.u64.bits (i1.fdiv (2 ^ min (Int.toNat 1) IntKind.u64.bits))).toNat : Int)))) else (some ((i0.fdiv (2 ^ min (Int.toNat 1) IntKind.u64.bits)), (IntKind.u64.wrap (↑(BitVec.ofInt IntKind.u64.bits (IntKind.u64.wrap (i0 * 2 ^ min (Int.toNat 63) IntKind.u64.bits)) ||| BitVec.ofInt IntKind.u64.bits (i1.fdiv (2 ^ min (Int.toNat 1) IntKind.u64.bits))).toNat : Int)))))
theorem F79_ok {i0 i1 : Int} {k : Nat} {r : Int × Int} (h : F79 k i0 i1 = some r) :
    cP ((k + 3)) 79 [V.agg [vu i0, vu i1]] = some (V.agg [vu r.1, vu r.2]) := by
  unfold F79 at h
  rcases cond_elim h with ⟨e0, h⟩ | ⟨e0, h⟩
  ·
    have h := Option.some.inj h; subst h; exact P79_0 i0 i1 k e0
  ·
    have h := Option.some.inj h; subst h; exact P79_1 i0 i1 k e0
theorem P80_0 (i0 i1 i2 : Int) (k : Nat)
    (c0 : IdxA 2 (i2.fdiv (2 ^ min (Int.toNat 6) IntKind.i64.bits)) 1 (fun d => V.ptr 0 (0 + d)) (V.ptr 0 0))
    (c1 : GrdP ((0 : Int) ≤ IntKind.i64.wrap ((63 : Int) - IntKind.i64.wrap (↑(BitVec.ofInt IntKind.i64.bits i2 &&& BitVec.ofInt IntKind.i64.bits (63 : Int)).toNat : Int))) (vu (i0.fdiv ((2 : Int) ^ min (IntKind.i64.wrap ((63 : Int) - IntKind.i64.wrap (↑(BitVec.ofInt IntKind.i64.bits i2 &&& BitVec.ofInt IntKind.i64.bits (63 : Int)).toNat : Int))).toNat IntKind.u64.bits)))) :
    cP ((k + 3)) 80 [V.agg [vu i0, vu i1], vi i2] = some (V.bool (decide (IntKind.u64.wrap (↑(BitVec.ofInt IntKind.u64.bits (i0.fdiv (2 ^ min (IntKind.i64.wrap (63 - IntKind.i64.wrap (↑(BitVec.ofInt IntKind.i64.bits i2 &&& BitVec.ofInt IntKind.i64.bits 63).toNat : Int))).toNat IntKind.u64.bits)) &&& BitVec.ofInt IntKind.u64.bits 1).toNat : Int) = 1))) :=
  byF (k := k) (d := 3) [Hn.op 7 (V.ptr 0 0) [], Hn.op 12 (vu (i0.fdiv (2 ^ min (IntKind.i64.wrap (63 - IntKind.i64.wrap (↑(BitVec.ofInt IntKind.i64.bits i2 &&& BitVec.ofInt IntKind.i64.bits 63).toNat : Int))).toNat IntKind.u64.bits))) []] (aI c0 (aI c1 trivial)) (by kernel_rfl)
theorem P80_1 (i0 i1 i2 : Int) (k : Nat)
    (c0 : IdxA 2 (i2.fdiv (2 ^ min (Int.toNat 6) IntKind.i64.bits)) 1 (fun d => V.ptr 0 (0 + d)) (V.ptr 0 1))
    (c1 : GrdP ((0 : Int) ≤ IntKind.i64.wrap ((63 : Int) - IntKind.i64.wrap (↑(BitVec.ofInt IntKind.i64.bits i2 &&& BitVec.ofInt IntKind.i64.bits (63 : Int)).toNat : Int))) (vu (i1.fdiv ((2 : Int) ^ min (IntKind.i64.wrap ((63 : Int) - IntKind.i64.wrap (↑(BitVec.ofInt IntKind.i64.bits i2 &&& BitVec.ofInt IntKind.i64.bits (63 : Int)).toNat : Int))).toNat IntKind.u64.bits)))) :
    cP ((k + 3)) 80 [V.agg [vu i0, vu i1], vi i2] = some (V.bool (decide (IntKind.u64.wrap (↑(BitVec.ofInt IntKind.u64.bits (i1.fdiv (2 ^ min (IntKind.i64.wrap (63 - IntKind.i64.wrap (↑(BitVec.ofInt IntKind.i64.bits i2 &&& BitVec.ofInt IntKind.i64.bits 63).toNat : Int))).toNat IntKind.u64.bits)) &&& BitVec.ofInt IntKind.u64.bits 1).toNat : Int) = 1))) :=
  byF (k := k) (d := 3) [Hn.op 7 (V.ptr 0 1) [], Hn.op 12 (vu (i1.fdiv (2 ^ min (IntKind.i64.wrap (63 - IntKind.i64.wrap (↑(BitVec.ofInt IntKind.i64.bits i2 &&& BitVec.ofInt IntKind.i64.bits 63).toNat : Int))).toNat IntKind.u64.bits))) []] (aI c0 (aI c1 trivial)) (by kernel_rfl)
def F80 (k : Nat) (i0 i1 i2 : Int) : Option (Bool) :=
  (bif decide (i2.fdiv (2 ^ min (Int.toNat 6) IntKind.i64.bits) = 0) then (guardP ((0 : Int) ≤ IntKind.i64.wrap ((63 : Int) - IntKind.i64.wrap (↑(BitVec.ofInt IntKind.i64.bits i2 &&& BitVec.ofInt IntKind.i64.bits (63 : Int)).toNat : Int))) (some (decide (IntKind.u64.wrap (↑(BitVec.ofInt IntKind.u64.bits (i0.fdiv (2 ^ min (IntKind.i64.wrap (63 - IntKind.i64.wrap (↑(BitVec.ofInt IntKind.i64.bits i2 &&& BitVec.ofInt IntKind.i64.bits 63).toNat : Int))).toNat IntKind.u64.bits)) &&& BitVec.ofInt IntKind.u64.bits 1).toNat : Int) = 1)))) else (bif decide (i2.fdiv (2 ^ min (Int.toNat 6) IntKind.i64.bits) = 1) then (guardP ((0 : Int) ≤ IntKind.i64.wrap ((63 : Int) - IntKind.i64.wrap (↑(BitVec.ofInt IntKind.i64.bits i2 &&& BitVec.ofInt IntKind.i64.bits (63 : Int)).toNat : Int))) (some (decide (IntKind.u64.wrap (↑(BitVec.ofInt IntKind.u64.bits (i1.fdiv (2 ^ min (IntKind.i64.wrap (63 - IntKind.i64.wrap (↑(BitVec.ofInt IntKind.i64.bits i2 &&& BitVec.ofInt IntKind.i64.bits 63).toNat : Int))).toNat IntKind.u64.bits)) &&& BitVec.ofInt IntKind.u64.bits 1).toNat : Int) = 1)))) else none))
theorem F80_ok {i0 i1 i2 : Int} {k : Nat} {r : Bool} (h : F80 k i0 i1 i2 = some r) :
    cP ((k + 3)) 80 [V.agg [vu i0, vu i1], vi i2] = some (V.bool r) := by
  unfold F80 at h
  rcases cond_elim h with ⟨e0, h⟩ | ⟨e0, h⟩
  ·
    obtain ⟨e1, h⟩ := guardP_some.1 h
    have h := Option.some.inj h; subst h; exact P80_0 i0 i1 i2 k (IdxA.mk 0 e0 (by decide) (by decide) rfl) (GrdP.mk e1)
  ·
    rcases cond_elim h with ⟨e1, h⟩ | ⟨e1, h⟩
    ·
      obtain ⟨e2, h⟩ := guardP_some.1 h
      have h := Option.some.inj h; subst h; exact P80_1 i0 i1 i2 k (IdxA.mk 1 e1 (by decide) (by decide) rfl) (GrdP.mk e2)
    ·
      cases h
theorem L47_0_b0 (i0 i1 i2 i3 i4 i5 i6 i7 i8 : Int) (k : Nat)
    (c0 : decide (0 ≤ i4) = true)
    (c1 : cP ((k + 5)) 79 [V.agg [vu i5, vu i6]] = some (V.agg [vu i7, vu i8]))
    (c2 : cP ((k + 5)) 80 [V.agg [vu i2, vu i3], vi i4] = some (V.bool true)) :
    evalCode Try.prog Try.cfg (evalFn Try.prog Try.cfg (k + 5)) 0 (Try.cfg.fc 47) (k + 5) (loopBody Try.f47 0) { tm := [(0, V.agg [vu i0, vu i1]), (1, V.agg [vu i2, vu i3]), (2, V.ptr 0 0), (3, V.ptr 1 0), (4, V.ptr 2 0), (5, V.ptr 3 0), (6, vi i4)], hp := [(0, Ob.var [vu i0, vu i1]), (1, Ob.var [vu i2, vu i3]), (2, Ob.var [vu 0, vu 0]), (3, Ob.var [vu i5, vu i6])], nx := 4 } = some (Exit.normal, { tm := [(0, V.agg [vu i0, vu i1]), (1, V.agg [vu i2, vu i3]), (2, V.ptr 0 0), (3, V.ptr 1 0), (4, V.ptr 2 0), (5, V.ptr 3 0), (6, vi (IntKind.i64.wrap (i4 - 1))), (8, V.bool true), (15, V.bool true)], hp := [(0, Ob.var [vu i0, vu i1]), (1, Ob.var [vu i2, vu i3]), (2, Ob.var [vu 0, vu 0]), (3, Ob.var [vu (IntKind.u64.wrap (↑(BitVec.ofInt IntKind.u64.bits i7 ^^^ BitVec.ofInt IntKind.u64.bits i0).toNat : Int)), vu (IntKind.u64.wrap (↑(BitVec.ofInt IntKind.u64.bits i8 ^^^ BitVec.ofInt IntKind.u64.bits i1).toNat : Int))])], nx := 96 }) :=
  byL (k := k) (d := 5) [Hn.br 8 true, Hn.call 12 (V.agg [vu i7, vu i8]), Hn.call 15 (V.bool true)] (aI c0 (aI c1 (aI c2 trivial))) (by kernel_rfl)
theorem L47_0_b0h (i0 i1 i2 i3 i4 i7 i8 : Int) : head 0 [0, 1, 2, 3, 4, 5, 6] (Try.cfg.fc 47).acc { tm := [(0, V.agg [vu i0, vu i1]), (1, V.agg [vu i2, vu i3]), (2, V.ptr 0 0), (3, V.ptr 1 0), (4, V.ptr 2 0), (5, V.ptr 3 0), (6, vi (IntKind.i64.wrap (i4 - 1))), (8, V.bool true), (15, V.bool true)], hp := [(0, Ob.var [vu i0, vu i1]), (1, Ob.var [vu i2, vu i3]), (2, Ob.var [vu 0, vu 0]), (3, Ob.var [vu (IntKind.u64.wrap (↑(BitVec.ofInt IntKind.u64.bits i7 ^^^ BitVec.ofInt IntKind.u64.bits i0).toNat : Int)), vu (IntKind.u64.wrap (↑(BitVec.ofInt IntKind.u64.bits i8 ^^^ BitVec.ofInt IntKind.u64.bits i1).toNat : Int))])], nx := 96 } = { tm := [(0, V.agg [vu i0, vu i1]), (1, V.agg [vu i2, vu i3]), (2, V.ptr 0 0), (3, V.ptr 1 0), (4, V.ptr 2 0), (5, V.ptr 3 0), (6, vi (IntKind.i64.wrap (i4 - 1)))], hp := [(0, Ob.var [vu i0, vu i1]), (1, Ob.var [vu i2, vu i3]), (2, Ob.var [vu 0, vu 0]), (3, Ob.var [vu (IntKind.u64.wrap (↑(BitVec.ofInt IntKind.u64.bits i7 ^^^ BitVec.ofInt IntKind.u64.bits i0).toNat : Int)), vu (IntKind.u64.wrap (↑(BitVec.ofInt IntKind.u64.bits i8 ^^^ BitVec.ofInt IntKind.u64.bits i1).toNat : Int))])], nx := 4 } := by kernel_rfl
theorem L47_0_b1 (i0 i1 i2 i3 i4 i5 i6 i7 i8 : Int) (k : Nat)
    (c0 : decide (0 ≤ i4) = true)
    (c1 : cP ((k + 5)) 79 [V.agg [vu i5, vu i6]] = some (V.agg [vu i7, vu i8]))
    (c2 : cP ((k + 5)) 80 [V.agg [vu i2, vu i3], vi i4] = some (V.bool false)) :
    evalCode Try.prog Try.cfg (evalFn Try.prog Try.cfg (k + 5)) 0 (Try.cfg.fc 47) (k + 5) (loopBody Try.f47 0) { tm := [(0, V.agg [vu i0, vu i1]), (1, V.agg [vu i2, vu i3]), (2, V.ptr 0 0), (3, V.ptr 1 0), (4, V.ptr 2 0), (5, V.ptr 3 0), (6, vi i4)], hp := [(0, Ob.var [vu i0, vu i1]), (1, Ob.var [vu i2, vu i3]), (2, Ob.var [vu 0, vu 0]), (3, Ob.var [vu i5, vu i6])], nx := 4 } = some (Exit.normal, { tm := [(0, V.agg [vu i0, vu i1]), (1, V.agg [vu i2, vu i3]), (2, V.ptr 0 0), (3, V.ptr 1 0), (4, V.ptr 2 0), (5, V.ptr 3 0), (6, vi (IntKind.i64.wrap (i4 - 1))), (8, V.bool true), (15, V.bool false)], hp := [(0, Ob.var [vu i0, vu i1]), (1, Ob.var [vu i2, vu i3]), (2, Ob.var [vu 0, vu 0]), (3, Ob.var [vu i7, vu i8])], nx := 48 }) :=
  byL (k := k) (d := 5) [Hn.br 8 true, Hn.call 12 (V.agg [vu i7, vu i8]), Hn.call 15 (V.bool false)] (aI c0 (aI c1 (aI c2 trivial))) (by kernel_rfl)
theorem L47_0_b1h (i0 i1 i2 i3 i4 i7 i8 : Int) : head 0 [0, 1, 2, 3, 4, 5, 6] (Try.cfg.fc 47).acc { tm := [(0, V.agg [vu i0, vu i1]), (1, V.agg [vu i2, vu i3]), (2, V.ptr 0 0), (3, V.ptr 1 0), (4, V.ptr 2 0), (5, V.ptr 3 0), (6, vi (IntKind.i64.wrap (i4 - 1))), (8, V.bool true), (15, V.bool false)], hp := [(0, Ob.var [vu i0, vu i1]), (1, Ob.var [vu i2, vu i3]), (2, Ob.var [vu 0, vu 0]), (3, Ob.var [vu i7, vu i8])], nx := 48 } = { tm := [(0, V.agg [vu i0, vu i1]), (1, V.agg [vu i2, vu i3]), (2, V.ptr 0 0), (3, V.ptr 1 0), (4, V.ptr 2 0), (5, V.ptr 3 0), (6, vi (IntKind.i64.wrap (i4 - 1)))], hp := [(0, Ob.var [vu i0, vu i1]), (1, Ob.var [vu i2, vu i3]), (2, Ob.var [vu 0, vu 0]), (3, Ob.var [vu i7, vu i8])], nx := 4 } := by kernel_rfl
theorem L47_0_b2 (i0 i1 i2 i3 i4 i5 i6 : Int) (k : Nat)
    (c0 : decide (0 ≤ i4) = false) :
    evalCode Try.prog Try.cfg (evalFn Try.prog Try.cfg (k + 5)) 0 (Try.cfg.fc 47) (k + 5) (loopBody Try.f47 0) { tm := [(0, V.agg [vu i0, vu i1]), (1, V.agg [vu i2, vu i3]), (2, V.ptr 0 0), (3, V.ptr 1 0), (4, V.ptr 2 0), (5, V.ptr 3 0), (6, vi i4)], hp := [(0, Ob.var [vu i0, vu i1]), (1, Ob.var [vu i2, vu i3]), (2, Ob.var [vu 0, vu 0]), (3, Ob.var [vu i5, vu i6])], nx := 4 } = some (Exit.exit 0, { tm := [(0, V.agg [vu i0, vu i1]), (1, V.agg [vu i2, vu i3]), (2, V.ptr 0 0), (3, V.ptr 1 0), (4, V.ptr 2 0), (5, V.ptr 3 0), (6, vi i4), (8, V.bool false)], hp := [(0, Ob.var [vu i0, vu i1]), (1, Ob.var [vu i2, vu i3]), (2, Ob.var [vu 0, vu 0]), (3, Ob.var [vu i5, vu i6])], nx := 12 }) :=
  byL (k := k) (d := 5) [Hn.br 8 false] (aI c0 trivial) (by kernel_rfl)
inductive L47_0_R where
  | e0 (i4 : Int) (i5 : Int) (i6 : Int)
noncomputable def L47_0_end (i0 : Int) (i1 : Int) (i2 : Int) (i3 : Int) : L47_0_R → Exit × St
  | .e0 i4 i5 i6 => (Exit.exit 0, { tm := [(0, V.agg [V.int .u64 i0, V.int .u64 i1]), (1, V.agg [V.int .u64 i2, V.int .u64 i3]), (2, V.ptr 0 0), (3, V.ptr 1 0), (4, V.ptr 2 0), (5, V.ptr 3 0), (6, V.int .i64 i4), (8, V.bool false)], hp := [(0, Ob.var [V.int .u64 i0, V.int .u64 i1]), (1, Ob.var [V.int .u64 i2, V.int .u64 i3]), (2, Ob.var [V.int .u64 0, V.int .u64 0]), (3, Ob.var [V.int .u64 i5, V.int .u64 i6])], nx := 12 })
def L47_0 (k : Nat) (i0 i1 i2 i3 : Int) : Nat → Int → Int → Int → Option L47_0_R
  | 0, _, _, _ => none
  | f + 1, i4, i5, i6 => (bif decide (0 ≤ i4) then ((F79 (k + 2) (i5) (i6)).bind fun (i7, i8) => ((F80 (k + 2) (i2) (i3) (i4)).bind fun b0 => (bif b0 then (L47_0 k i0 i1 i2 i3 f (IntKind.i64.wrap (i4 - 1)) (IntKind.u64.wrap (↑(BitVec.ofInt IntKind.u64.bits i7 ^^^ BitVec.ofInt IntKind.u64.bits i0).toNat : Int)) (IntKind.u64.wrap (↑(BitVec.ofInt IntKind.u64.bits i8 ^^^ BitVec.ofInt IntKind.u64.bits i1).toNat : Int))) else (L47_0 k i0 i1 i2 i3 f (IntKind.i64.wrap (i4 - 1)) (i7) (i8))))) else (some (L47_0_R.e0 i4 i5 i6)))
theorem L47_0_ok {i0 i1 i2 i3 : Int} {k : Nat} : ∀ {f : Nat} {i4 : Int} {i5 : Int} {i6 : Int} {r : L47_0_R}, L47_0 k i0 i1 i2 i3 f i4 i5 i6 = some r →
    LoopsN Try.prog Try.cfg (k + 5) 0 Try.f47 (Try.cfg.fc 47) 0 [0, 1, 2, 3, 4, 5, 6] f { tm := [(0, V.agg [vu i0, vu i1]), (1, V.agg [vu i2, vu i3]), (2, V.ptr 0 0), (3, V.ptr 1 0), (4, V.ptr 2 0), (5, V.ptr 3 0), (6, vi i4)], hp := [(0, Ob.var [vu i0, vu i1]), (1, Ob.var [vu i2, vu i3]), (2, Ob.var [vu 0, vu 0]), (3, Ob.var [vu i5, vu i6])], nx := 4 } (L47_0_end i0 i1 i2 i3 r) := by
  intro f
  induction f with
  | zero => intro i4 i5 i6 r h; cases h
  | succ f ih =>
    intro i4 i5 i6 r h
    rw [L47_0] at h
    rcases cond_elim h with ⟨e0, h⟩ | ⟨e0, h⟩
    ·
      obtain ⟨⟨i7, i8⟩, e1, h⟩ := bE h
      obtain ⟨b0, e2, h⟩ := bE h
      rcases cond_elim h with ⟨e3, h⟩ | ⟨e3, h⟩
      ·
        exact LoopsN.next (L47_0_b0 i0 i1 i2 i3 i4 i5 i6 i7 i8 k e0 (F79_ok e1) ((F80_ok e2).trans (by rw [e3]))) (L47_0_b0h i0 i1 i2 i3 i4 i7 i8) (ih h)
      ·
        exact LoopsN.next (L47_0_b1 i0 i1 i2 i3 i4 i5 i6 i7 i8 k e0 (F79_ok e1) ((F80_ok e2).trans (by rw [e3]))) (L47_0_b1h i0 i1 i2 i3 i4 i7 i8) (ih h)
    ·
      cases h; exact LoopsN.done (L47_0_b2 i0 i1 i2 i3 i4 i5 i6 k e0) (fun h => by cases h)
theorem P47_0 (i0 i1 i2 i3 i4 i5 i6 : Int) (k : Nat)
    (c0 : LoopsN Try.prog Try.cfg (k + 5) 0 Try.f47 (Try.cfg.fc 47) 0 [0, 1, 2, 3, 4, 5, 6] (k + 5) { tm := [(0, V.agg [vu i0, vu i1]), (1, V.agg [vu i2, vu i3]), (2, V.ptr 0 0), (3, V.ptr 1 0), (4, V.ptr 2 0), (5, V.ptr 3 0), (6, vi 127)], hp := [(0, Ob.var [vu i0, vu i1]), (1, Ob.var [vu i2, vu i3]), (2, Ob.var [vu 0, vu 0]), (3, Ob.var [vu 0, vu 0])], nx := 4 } (Exit.exit 0, { tm := [(0, V.agg [vu i0, vu i1]), (1, V.agg [vu i2, vu i3]), (2, V.ptr 0 0), (3, V.ptr 1 0), (4, V.ptr 2 0), (5, V.ptr 3 0), (6, vi i4), (8, V.bool false)], hp := [(0, Ob.var [vu i0, vu i1]), (1, Ob.var [vu i2, vu i3]), (2, Ob.var [vu 0, vu 0]), (3, Ob.var [vu i5, vu i6])], nx := 12 })) :
    cP ((k + 6)) 47 [V.agg [vu i0, vu i1], V.agg [vu i2, vu i3]] = some (V.agg [vu i5, vu i6]) :=
  byF (k := k) (d := 6) [Hn.loop (Exit.exit 0, { tm := [(0, V.agg [vu i0, vu i1]), (1, V.agg [vu i2, vu i3]), (2, V.ptr 0 0), (3, V.ptr 1 0), (4, V.ptr 2 0), (5, V.ptr 3 0), (6, vi i4), (8, V.bool false)], hp := [(0, Ob.var [vu i0, vu i1]), (1, Ob.var [vu i2, vu i3]), (2, Ob.var [vu 0, vu 0]), (3, Ob.var [vu i5, vu i6])], nx := 12 })] (aI c0 trivial) (by kernel_rfl)
def F47 (k : Nat) (i0 i1 i2 i3 : Int) : Option (Int × Int) :=
  ((L47_0 k i0 i1 i2 i3 (k + 5) (127) (0) (0)).bind fun
    | L47_0_R.e0 i4 i5 i6 => (some ((i5), (i6))))
theorem F47_ok {i0 i1 i2 i3 : Int} {k : Nat} {r : Int × Int} (h : F47 k i0 i1 i2 i3 = some r) :
    cP ((k + 6)) 47 [V.agg [vu i0, vu i1], V.agg [vu i2, vu i3]] = some (V.agg [vu r.1, vu r.2]) := by
  unfold F47 at h
  obtain ⟨ee, e0, h⟩ := bE h
  cases ee with
  | e0 i4 i5 i6 =>
    have h := Option.some.inj h; subst h; exact P47_0 i0 i1 i2 i3 i4 i5 i6 k (L47_0_ok e0)
theorem P54_0 (i0 : Int) (k : Nat) :
    cP ((k + 12)) 54 [vu i0] = some (V.str (List.map Sym.byteOf (1, List.take 8 (List.drop 0 [vb (IntKind.u8.wrap (i0.fdiv (2 ^ min (Int.toNat 56) IntKind.u64.bits))), vb (IntKind.u8.wrap (i0.fdiv (2 ^ min (Int.toNat 48) IntKind.u64.bits))), vb (IntKind.u8.wrap (i0.fdiv (2 ^ min (Int.toNat 40) IntKind.u64.bits))), vb (IntKind.u8.wrap (i0.fdiv (2 ^ min (Int.toNat 32) IntKind.u64.bits))), vb (IntKind.u8.wrap (i0.fdiv (2 ^ min (Int.toNat 24) IntKind.u64.bits))), vb (IntKind.u8.wrap (i0.fdiv (2 ^ min (Int.toNat 16) IntKind.u64.bits))), vb (IntKind.u8.wrap (i0.fdiv (2 ^ min (Int.toNat 8) IntKind.u64.bits))), vb (IntKind.u8.wrap (i0.fdiv (2 ^ min (Int.toNat 0) IntKind.u64.bits)))])).snd)) :=
  byF (k := k) (d := 12) [Hn.rounds] trivial (by kernel_rfl)
def F54 (k : Nat) (i0 : Int) : Option (List UInt8) :=
  (some (List.map Sym.byteOf (1, List.take 8 (List.drop 0 [V.int .u8 (IntKind.u8.wrap (i0.fdiv (2 ^ min (Int.toNat 56) IntKind.u64.bits))), V.int .u8 (IntKind.u8.wrap (i0.fdiv (2 ^ min (Int.toNat 48) IntKind.u64.bits))), V.int .u8 (IntKind.u8.wrap (i0.fdiv (2 ^ min (Int.toNat 40) IntKind.u64.bits))), V.int .u8 (IntKind.u8.wrap (i0.fdiv (2 ^ min (Int.toNat 32) IntKind.u64.bits))), V.int .u8 (IntKind.u8.wrap (i0.fdiv (2 ^ min (Int.toNat 24) IntKind.u64.bits))), V.int .u8 (IntKind.u8.wrap (i0.fdiv (2 ^ min (Int.toNat 16) IntKind.u64.bits))), V.int .u8 (IntKind.u8.wrap (i0.fdiv (2 ^ min (Int.toNat 8) IntKind.u64.bits))), V.int .u8 (IntKind.u8.wrap (i0.fdiv (2 ^ min (Int.toNat 0) IntKind.u64.bits)))])).snd))
theorem F54_ok {i0 : Int} {k : Nat} {r : List UInt8} (h : F54 k i0 = some r) :
    cP ((k + 12)) 54 [vu i0] = some (V.str r) := by
  unfold F54 at h
  have h := Option.some.inj h; subst h; exact P54_0 i0 k
theorem P48_0 (i0 i1 : Int) (s0 s1 : List UInt8) (k : Nat)
    (c0 : cP ((k + 14)) 54 [vu i0] = some (V.str s0))
    (c1 : cP ((k + 14)) 54 [vu i1] = some (V.str s1))
    (c2 : GrdP (s0.length + s1.length ≤ maxText) (V.str (s0 ++ s1))) :
    cP ((k + 15)) 48 [V.agg [vu i0, vu i1]] = some (V.str (s0 ++ s1)) :=
  byF (k := k) (d := 15) [Hn.call 5 (V.str s0), Hn.call 8 (V.str s1), Hn.op 9 (V.str (s0 ++ s1)) []] (aI c0 (aI c1 (aI c2 trivial))) (by kernel_rfl)
def F48 (k : Nat) (i0 i1 : Int) : Option (List UInt8) :=
  ((F54 (k + 2) (i0)).bind fun s0 => ((F54 (k + 2) (i1)).bind fun s1 => (guardP (s0.length + s1.length ≤ maxText) (some (s0 ++ s1)))))
theorem F48_ok {i0 i1 : Int} {k : Nat} {r : List UInt8} (h : F48 k i0 i1 = some r) :
    cP ((k + 15)) 48 [V.agg [vu i0, vu i1]] = some (V.str r) := by
  unfold F48 at h
  obtain ⟨s0, e0, h⟩ := bE h
  obtain ⟨s1, e1, h⟩ := bE h
  obtain ⟨e2, h⟩ := guardP_some.1 h
  have h := Option.some.inj h; subst h; exact P48_0 i0 i1 s0 s1 k (F54_ok e0) (F54_ok e1) (GrdP.mk e2)
end Go.Proofs
