/-
  What functions of gcm and its reference answer, each checked against the program.
-/
import Derived.Test.YtegmincienhapaaAeA
import Derived.Test.YtegmincienhapaaAeB
import Derived.Test.YtegmincienhapaaGhC
set_option linter.unusedVariables false
set_option maxHeartbeats 0
set_option maxRecDepth 100000
namespace Go.Proofs
open Go Go.Sym

theorem P58_0 (s0 s1 : List UInt8) (k : Nat)
    (c0 : decide ((↑s0.length : Int) = 16) = true) :
    cP ((k + 3)) 58 [V.agg [V.str s0, V.str s1]] = some (V.bool (decide ((↑s1.length : Int) = 12))) :=
  byF (k := k) (d := 3) [Hn.br 7 true] (aI c0 trivial) (by kernel_rfl)
theorem P58_1 (s0 s1 : List UInt8) (k : Nat)
    (c0 : decide ((↑s0.length : Int) = 16) = false)
    (c1 : decide ((↑s0.length : Int) = 32) = true) :
    cP ((k + 3)) 58 [V.agg [V.str s0, V.str s1]] = some (V.bool (decide ((↑s1.length : Int) = 12))) :=
  byF (k := k) (d := 3) [Hn.br 7 false, Hn.br 13 true] (aI c0 (aI c1 trivial)) (by kernel_rfl)
theorem P58_2 (s0 s1 : List UInt8) (k : Nat)
    (c0 : decide ((↑s0.length : Int) = 16) = false)
    (c1 : decide ((↑s0.length : Int) = 32) = false) :
    cP ((k + 3)) 58 [V.agg [V.str s0, V.str s1]] = some (V.bool false) :=
  byF (k := k) (d := 3) [Hn.br 7 false, Hn.br 13 false] (aI c0 (aI c1 trivial)) (by kernel_rfl)
def F58 (k : Nat) (s0 s1 : List UInt8) : Option (Bool) :=
  (bif decide ((↑s0.length : Int) = 16) then (some (decide ((↑s1.length : Int) = 12))) else (bif decide ((↑s0.length : Int) = 32) then (some (decide ((↑s1.length : Int) = 12))) else (some (false))))
theorem F58_ok {s0 s1 : List UInt8} {k : Nat} {r : Bool} (h : F58 k s0 s1 = some r) :
    cP ((k + 3)) 58 [V.agg [V.str s0, V.str s1]] = some (V.bool r) := by
  unfold F58 at h
  rcases cond_elim h with ⟨e0, h⟩ | ⟨e0, h⟩
  ·
    have h := Option.some.inj h; subst h; exact P58_0 s0 s1 k e0
  ·
    rcases cond_elim h with ⟨e1, h⟩ | ⟨e1, h⟩
    ·
      have h := Option.some.inj h; subst h; exact P58_1 s0 s1 k e0 e1
    ·
      have h := Option.some.inj h; subst h; exact P58_2 s0 s1 k e0 e1
theorem L63_0_b0 (i1 i2 i3 : Int) (s0 s1 s2 s3 : List UInt8) (k : Nat)
    (c0 : decide ((↑s2.length : Int) < i1) = true)
    (c1 : GrdP (s1.length + (List.map Sym.byteOf ((1 : Nat), [vb (IntKind.u8.wrap (i2.fdiv ((2 : Int) ^ min (Int.toNat (24 : Int)) IntKind.u32.bits))), vb (IntKind.u8.wrap (i2.fdiv ((2 : Int) ^ min (Int.toNat (16 : Int)) IntKind.u32.bits))), vb (IntKind.u8.wrap (i2.fdiv ((2 : Int) ^ min (Int.toNat (8 : Int)) IntKind.u32.bits))), vb (IntKind.u8.wrap i2)]).snd).length ≤ maxText) (V.str (s1 ++ List.map Sym.byteOf ((1 : Nat), [vb (IntKind.u8.wrap (i2.fdiv ((2 : Int) ^ min (Int.toNat (24 : Int)) IntKind.u32.bits))), vb (IntKind.u8.wrap (i2.fdiv ((2 : Int) ^ min (Int.toNat (16 : Int)) IntKind.u32.bits))), vb (IntKind.u8.wrap (i2.fdiv ((2 : Int) ^ min (Int.toNat (8 : Int)) IntKind.u32.bits))), vb (IntKind.u8.wrap i2)]).snd)))
    (c2 : cP ((k + 41)) 42 [V.str s0, V.str (s1 ++ List.map Sym.byteOf (1, [vb (IntKind.u8.wrap (i2.fdiv (2 ^ min (Int.toNat 24) IntKind.u32.bits))), vb (IntKind.u8.wrap (i2.fdiv (2 ^ min (Int.toNat 16) IntKind.u32.bits))), vb (IntKind.u8.wrap (i2.fdiv (2 ^ min (Int.toNat 8) IntKind.u32.bits))), vb (IntKind.u8.wrap i2)]).snd)] = some (V.tup [V.str s3, vi i3]))
    (c3 : libSem { k := 1, t := 64, e := 5 } [V.ptr 1 0, V.str s3] [(0, Ob.var [V.str s0, V.str s1]), (1, Ob.bld 64 5 2 s2), (2, Ob.raw 1), (71, Ob.row false 1 [vb (IntKind.u8.wrap (i2.fdiv (2 ^ min (Int.toNat 24) IntKind.u32.bits))), vb (IntKind.u8.wrap (i2.fdiv (2 ^ min (Int.toNat 16) IntKind.u32.bits))), vb (IntKind.u8.wrap (i2.fdiv (2 ^ min (Int.toNat 8) IntKind.u32.bits))), vb (IntKind.u8.wrap i2)])] 111 = some (V.tup [vi (↑s3.length : Int), V.nili], [(0, Ob.var [V.str s0, V.str s1]), (1, Ob.bld 64 5 111 (s2 ++ s3)), (2, Ob.dead), (71, Ob.row false 1 [vb (IntKind.u8.wrap (i2.fdiv (2 ^ min (Int.toNat 24) IntKind.u32.bits))), vb (IntKind.u8.wrap (i2.fdiv (2 ^ min (Int.toNat 16) IntKind.u32.bits))), vb (IntKind.u8.wrap (i2.fdiv (2 ^ min (Int.toNat 8) IntKind.u32.bits))), vb (IntKind.u8.wrap i2)]), (111, Ob.raw 1)], 112)) :
    evalCode Try.prog Try.cfg (evalFn Try.prog Try.cfg (k + 41)) 0 (Try.cfg.fc 63) (k + 41) (loopBody Try.f63 0) { tm := [(0, V.agg [V.str s0, V.str s1]), (1, V.int .u32 i2), (2, vi i1), (3, V.ptr 0 0), (6, V.str []), (7, V.ptr 1 0)], hp := [(0, Ob.var [V.str s0, V.str s1]), (1, Ob.bld 64 5 2 s2), (2, Ob.raw 1)], nx := 3 } = some (Exit.normal, { tm := [(0, V.agg [V.str s0, V.str s1]), (1, V.int .u32 (IntKind.u32.wrap (i2 + 1))), (2, vi i1), (3, V.ptr 0 0), (6, V.str []), (7, V.ptr 1 0), (8, V.str s3), (12, V.bool true)], hp := [(0, Ob.var [V.str s0, V.str s1]), (1, Ob.bld 64 5 111 (s2 ++ s3)), (2, Ob.dead), (71, Ob.row false 1 [vb (IntKind.u8.wrap (i2.fdiv (2 ^ min (Int.toNat 24) IntKind.u32.bits))), vb (IntKind.u8.wrap (i2.fdiv (2 ^ min (Int.toNat 16) IntKind.u32.bits))), vb (IntKind.u8.wrap (i2.fdiv (2 ^ min (Int.toNat 8) IntKind.u32.bits))), vb (IntKind.u8.wrap i2)]), (111, Ob.raw 1)], nx := 124 }) :=
  byL (k := k) (d := 41) [Hn.enter, Hn.br 12 true, Hn.op 33 (V.str (s1 ++ List.map Sym.byteOf (1, [vb (IntKind.u8.wrap (i2.fdiv (2 ^ min (Int.toNat 24) IntKind.u32.bits))), vb (IntKind.u8.wrap (i2.fdiv (2 ^ min (Int.toNat 16) IntKind.u32.bits))), vb (IntKind.u8.wrap (i2.fdiv (2 ^ min (Int.toNat 8) IntKind.u32.bits))), vb (IntKind.u8.wrap i2)]).snd)) [], Hn.call 34 (V.tup [V.str s3, vi i3]), Hn.enter, Hn.lib (V.tup [vi (↑s3.length : Int), V.nili], [(0, Ob.var [V.str s0, V.str s1]), (1, Ob.bld 64 5 111 (s2 ++ s3)), (2, Ob.dead), (71, Ob.row false 1 [vb (IntKind.u8.wrap (i2.fdiv (2 ^ min (Int.toNat 24) IntKind.u32.bits))), vb (IntKind.u8.wrap (i2.fdiv (2 ^ min (Int.toNat 16) IntKind.u32.bits))), vb (IntKind.u8.wrap (i2.fdiv (2 ^ min (Int.toNat 8) IntKind.u32.bits))), vb (IntKind.u8.wrap i2)]), (111, Ob.raw 1)], 112)] (aI c0 (aI c1 (aI c2 (aI c3 trivial)))) (by kernel_rfl)
theorem L63_0_b0h (i1 i2 : Int) (s0 s1 s2 s3 : List UInt8) : head 0 [0, 1, 2, 3, 6, 7] (Try.cfg.fc 63).acc { tm := [(0, V.agg [V.str s0, V.str s1]), (1, V.int .u32 (IntKind.u32.wrap (i2 + 1))), (2, vi i1), (3, V.ptr 0 0), (6, V.str []), (7, V.ptr 1 0), (8, V.str s3), (12, V.bool true)], hp := [(0, Ob.var [V.str s0, V.str s1]), (1, Ob.bld 64 5 111 (s2 ++ s3)), (2, Ob.dead), (71, Ob.row false 1 [vb (IntKind.u8.wrap (i2.fdiv (2 ^ min (Int.toNat 24) IntKind.u32.bits))), vb (IntKind.u8.wrap (i2.fdiv (2 ^ min (Int.toNat 16) IntKind.u32.bits))), vb (IntKind.u8.wrap (i2.fdiv (2 ^ min (Int.toNat 8) IntKind.u32.bits))), vb (IntKind.u8.wrap i2)]), (111, Ob.raw 1)], nx := 124 } = { tm := [(0, V.agg [V.str s0, V.str s1]), (1, V.int .u32 (IntKind.u32.wrap (i2 + 1))), (2, vi i1), (3, V.ptr 0 0), (6, V.str []), (7, V.ptr 1 0)], hp := [(0, Ob.var [V.str s0, V.str s1]), (1, Ob.bld 64 5 2 (s2 ++ s3)), (2, Ob.raw 1)], nx := 3 } := by kernel_rfl
theorem L63_0_b1 (i1 i2 : Int) (s0 s1 s2 : List UInt8) (k : Nat)
    (c0 : decide ((↑s2.length : Int) < i1) = false) :
    evalCode Try.prog Try.cfg (evalFn Try.prog Try.cfg (k + 41)) 0 (Try.cfg.fc 63) (k + 41) (loopBody Try.f63 0) { tm := [(0, V.agg [V.str s0, V.str s1]), (1, V.int .u32 i2), (2, vi i1), (3, V.ptr 0 0), (6, V.str []), (7, V.ptr 1 0)], hp := [(0, Ob.var [V.str s0, V.str s1]), (1, Ob.bld 64 5 2 s2), (2, Ob.raw 1)], nx := 3 } = some (Exit.exit 0, { tm := [(0, V.agg [V.str s0, V.str s1]), (1, V.int .u32 i2), (2, vi i1), (3, V.ptr 0 0), (6, V.str []), (7, V.ptr 1 0), (12, V.bool false)], hp := [(0, Ob.var [V.str s0, V.str s1]), (1, Ob.bld 64 5 2 s2), (2, Ob.raw 1)], nx := 11 }) :=
  byL (k := k) (d := 41) [Hn.enter, Hn.br 12 false] (aI c0 trivial) (by kernel_rfl)
inductive L63_0_R where
  | e0 (i2 : Int) (s2 : List UInt8)
noncomputable def L63_0_end (i1 : Int) (s0 : List UInt8) (s1 : List UInt8) : L63_0_R → Exit × St
  | .e0 i2 s2 => (Exit.exit 0, { tm := [(0, V.agg [V.str s0, V.str s1]), (1, V.int .u32 i2), (2, V.int .i64 i1), (3, V.ptr 0 0), (6, V.str []), (7, V.ptr 1 0), (12, V.bool false)], hp := [(0, Ob.var [V.str s0, V.str s1]), (1, Ob.bld 64 5 2 s2), (2, Ob.raw 1)], nx := 11 })
def L63_0 (k : Nat) (i1 : Int) (s0 s1 : List UInt8) : Nat → Int → List UInt8 → Option L63_0_R
  | 0, _, _ => none
  | f + 1, i2, s2 => (bif decide ((↑s2.length : Int) < i1) then (guardP (s1.length + (List.map Sym.byteOf ((1 : Nat), [V.int .u8 (IntKind.u8.wrap (i2.fdiv ((2 : Int) ^ min (Int.toNat (24 : Int)) IntKind.u32.bits))), V.int .u8 (IntKind.u8.wrap (i2.fdiv ((2 : Int) ^ min (Int.toNat (16 : Int)) IntKind.u32.bits))), V.int .u8 (IntKind.u8.wrap (i2.fdiv ((2 : Int) ^ min (Int.toNat (8 : Int)) IntKind.u32.bits))), V.int .u8 (IntKind.u8.wrap i2)]).snd).length ≤ maxText) ((F42 (k + 2) (s0) (s1 ++ List.map Sym.byteOf (1, [V.int .u8 (IntKind.u8.wrap (i2.fdiv (2 ^ min (Int.toNat 24) IntKind.u32.bits))), V.int .u8 (IntKind.u8.wrap (i2.fdiv (2 ^ min (Int.toNat 16) IntKind.u32.bits))), V.int .u8 (IntKind.u8.wrap (i2.fdiv (2 ^ min (Int.toNat 8) IntKind.u32.bits))), V.int .u8 (IntKind.u8.wrap i2)]).snd)).bind fun (s3, i3) => (guardP (s2.length + s3.length ≤ maxBld) (L63_0 k i1 s0 s1 f (IntKind.u32.wrap (i2 + 1)) (s2 ++ s3))))) else (some (L63_0_R.e0 i2 s2)))
theorem L63_0_ok {i1 : Int} {s0 s1 : List UInt8} {k : Nat} : ∀ {f : Nat} {i2 : Int} {s2 : List UInt8} {r : L63_0_R}, L63_0 k i1 s0 s1 f i2 s2 = some r →
    LoopsN Try.prog Try.cfg (k + 41) 0 Try.f63 (Try.cfg.fc 63) 0 [0, 1, 2, 3, 6, 7] f { tm := [(0, V.agg [V.str s0, V.str s1]), (1, V.int .u32 i2), (2, vi i1), (3, V.ptr 0 0), (6, V.str []), (7, V.ptr 1 0)], hp := [(0, Ob.var [V.str s0, V.str s1]), (1, Ob.bld 64 5 2 s2), (2, Ob.raw 1)], nx := 3 } (L63_0_end i1 s0 s1 r) := by
  intro f
  induction f with
  | zero => intro i2 s2 r h; cases h
  | succ f ih =>
    intro i2 s2 r h
    rw [L63_0] at h
    rcases cond_elim h with ⟨e0, h⟩ | ⟨e0, h⟩
    ·
      obtain ⟨e1, h⟩ := guardP_some.1 h
      obtain ⟨⟨s3, i3⟩, e2, h⟩ := bE h
      obtain ⟨e3, h⟩ := guardP_some.1 h
      exact LoopsN.next (L63_0_b0 i1 i2 i3 s0 s1 s2 s3 k e0 (GrdP.mk e1) (F42_ok e2) (libG e3 (by kernel_rfl))) (L63_0_b0h i1 i2 s0 s1 s2 s3) (ih h)
    ·
      cases h; exact LoopsN.done (L63_0_b1 i1 i2 s0 s1 s2 k e0) (fun h => by cases h)
theorem P63_0 (i0 i1 i2 : Int) (s0 s1 s2 : List UInt8) (k : Nat)
    (c0 : LoopsN Try.prog Try.cfg (k + 41) 0 Try.f63 (Try.cfg.fc 63) 0 [0, 1, 2, 3, 6, 7] (k + 41) { tm := [(0, V.agg [V.str s0, V.str s1]), (1, V.int .u32 i0), (2, vi i1), (3, V.ptr 0 0), (6, V.str []), (7, V.ptr 1 0)], hp := [(0, Ob.var [V.str s0, V.str s1]), (1, Ob.bld 64 5 2 []), (2, Ob.raw 1)], nx := 3 } (Exit.exit 0, { tm := [(0, V.agg [V.str s0, V.str s1]), (1, V.int .u32 i2), (2, vi i1), (3, V.ptr 0 0), (6, V.str []), (7, V.ptr 1 0), (12, V.bool false)], hp := [(0, Ob.var [V.str s0, V.str s1]), (1, Ob.bld 64 5 2 s2), (2, Ob.raw 1)], nx := 11 }))
    (c1 : SlcP false 0 (V.str s2) none (some (vi i1)) none (V.str (List.take i1.toNat s2))) :
    cP ((k + 42)) 63 [V.agg [V.str s0, V.str s1], V.int .u32 i0, vi i1] = some (V.str (List.take i1.toNat s2)) :=
  byF (k := k) (d := 42) [Hn.loop (Exit.exit 0, { tm := [(0, V.agg [V.str s0, V.str s1]), (1, V.int .u32 i2), (2, vi i1), (3, V.ptr 0 0), (6, V.str []), (7, V.ptr 1 0), (12, V.bool false)], hp := [(0, Ob.var [V.str s0, V.str s1]), (1, Ob.bld 64 5 2 s2), (2, Ob.raw 1)], nx := 11 }), Hn.enter, Hn.op 41 (V.str (List.take i1.toNat s2)) []] (aI c0 (aI c1 trivial)) (by kernel_rfl)
def F63 (k : Nat) (s0 s1 : List UInt8) (i0 i1 : Int) : Option (List UInt8) :=
  ((L63_0 k i1 s0 s1 (k + 41) (i0) ([])).bind fun
    | L63_0_R.e0 i2 s2 => (guardP ((0 : Int) ≤ i1 ∧ i1 ≤ (↑s2.length : Int)) (some (List.take i1.toNat s2))))
theorem F63_ok {s0 s1 : List UInt8} {i0 i1 : Int} {k : Nat} {r : List UInt8} (h : F63 k s0 s1 i0 i1 = some r) :
    cP ((k + 42)) 63 [V.agg [V.str s0, V.str s1], V.int .u32 i0, vi i1] = some (V.str r) := by
  unfold F63 at h
  obtain ⟨ee, e0, h⟩ := bE h
  cases ee with
  | e0 i2 s2 =>
    obtain ⟨e1, h⟩ := guardP_some.1 h
    have h := Option.some.inj h; subst h; exact P63_0 i0 i1 i2 s0 s1 s2 k (L63_0_ok e0) (SlcP.strUptoS e1)
theorem L84_0_b0 (i0 i1 : Int) (s0 s1 : List UInt8) (x0 : List V) (u0 : UInt8) (k : Nat)
    (c0 : decide (i0 < (↑(List.map (fun c => vb (↑c.toNat : Int)) s1).length : Int)) = true)
    (c1 : IdxR x0.length i0 1 1 (V.ept 0 i0.toNat 0))
    (c2 : LdP Try.prog 5 x0 i0.toNat 0 (vb i1))
    (c3 : StrP s0 i0 u0)
    (c4 : IdxR x0.length i0 1 1 (V.ept 0 i0.toNat 0))
    (c5 : GrdW (false = false ∧ (rid (vb (IntKind.u8.wrap (↑(BitVec.ofInt IntKind.u8.bits i1 ^^^ BitVec.ofInt IntKind.u8.bits (↑u0.toNat : Int)).toNat : Int)))).contains (0 : Nat) = false ∧ i0.toNat < x0.length) (V.tup []) [((0 : Nat), Ob.row false (1 : Nat) (x0.set i0.toNat (vb (IntKind.u8.wrap (↑(BitVec.ofInt IntKind.u8.bits i1 ^^^ BitVec.ofInt IntKind.u8.bits (↑u0.toNat : Int)).toNat : Int)))))]) :
    evalCode Try.prog Try.cfg (evalFn Try.prog Try.cfg (k + 2)) 0 (Try.cfg.fc 84) (k + 2) (loopBody Try.f84 0) { tm := [(0, V.str s0), (1, V.str s1), (4, V.str []), (5, V.ref 0), (10, vi (↑(List.map (fun c => vb (↑c.toNat : Int)) s1).length : Int)), (11, vi i0)], hp := [(0, Ob.row false 1 x0)], nx := 1 } = some (Exit.normal, { tm := [(0, V.str s0), (1, V.str s1), (4, V.str []), (5, V.ref 0), (6, vi i0), (10, vi (↑(List.map (fun c => vb (↑c.toNat : Int)) s1).length : Int)), (11, vi (IntKind.i64.wrap (i0 + 1))), (12, V.bool true)], hp := [(0, Ob.row false 1 (x0.set i0.toNat (vb (IntKind.u8.wrap (↑(BitVec.ofInt IntKind.u8.bits i1 ^^^ BitVec.ofInt IntKind.u8.bits (↑u0.toNat : Int)).toNat : Int)))))], nx := 61 }) :=
  byL (k := k) (d := 2) [Hn.br 12 true, Hn.op 16 (V.ept 0 i0.toNat 0) [], Hn.op 17 (vb i1) [], Hn.op 20 (vb (↑u0.toNat : Int)) [], Hn.op 22 (V.ept 0 i0.toNat 0) [], Hn.wr 49 (V.tup []) [(0, Ob.row false 1 (x0.set i0.toNat (vb (IntKind.u8.wrap (↑(BitVec.ofInt IntKind.u8.bits i1 ^^^ BitVec.ofInt IntKind.u8.bits (↑u0.toNat : Int)).toNat : Int)))))]] (aI c0 (aI c1 (aI c2 (aI c3 (aI c4 (aI c5 trivial)))))) (by kernel_rfl)
theorem L84_0_b0h (i0 i1 : Int) (s0 s1 : List UInt8) (x0 : List V) (u0 : UInt8) : head 0 [0, 1, 4, 5, 10, 11] (Try.cfg.fc 84).acc { tm := [(0, V.str s0), (1, V.str s1), (4, V.str []), (5, V.ref 0), (6, vi i0), (10, vi (↑(List.map (fun c => vb (↑c.toNat : Int)) s1).length : Int)), (11, vi (IntKind.i64.wrap (i0 + 1))), (12, V.bool true)], hp := [(0, Ob.row false 1 (x0.set i0.toNat (vb (IntKind.u8.wrap (↑(BitVec.ofInt IntKind.u8.bits i1 ^^^ BitVec.ofInt IntKind.u8.bits (↑u0.toNat : Int)).toNat : Int)))))], nx := 61 } = { tm := [(0, V.str s0), (1, V.str s1), (4, V.str []), (5, V.ref 0), (10, vi (↑(List.map (fun c => vb (↑c.toNat : Int)) s1).length : Int)), (11, vi (IntKind.i64.wrap (i0 + 1)))], hp := [(0, Ob.row false 1 (x0.set i0.toNat (vb (IntKind.u8.wrap (↑(BitVec.ofInt IntKind.u8.bits i1 ^^^ BitVec.ofInt IntKind.u8.bits (↑u0.toNat : Int)).toNat : Int)))))], nx := 1 } := by kernel_rfl
theorem L84_0_b1 (i0 : Int) (s0 s1 : List UInt8) (x0 : List V) (k : Nat)
    (c0 : decide (i0 < (↑(List.map (fun c => vb (↑c.toNat : Int)) s1).length : Int)) = false) :
    evalCode Try.prog Try.cfg (evalFn Try.prog Try.cfg (k + 2)) 0 (Try.cfg.fc 84) (k + 2) (loopBody Try.f84 0) { tm := [(0, V.str s0), (1, V.str s1), (4, V.str []), (5, V.ref 0), (10, vi (↑(List.map (fun c => vb (↑c.toNat : Int)) s1).length : Int)), (11, vi i0)], hp := [(0, Ob.row false 1 x0)], nx := 1 } = some (Exit.exit 0, { tm := [(0, V.str s0), (1, V.str s1), (4, V.str []), (5, V.ref 0), (10, vi (↑(List.map (fun c => vb (↑c.toNat : Int)) s1).length : Int)), (11, vi i0), (12, V.bool false)], hp := [(0, Ob.row false 1 x0)], nx := 5 }) :=
  byL (k := k) (d := 2) [Hn.br 12 false] (aI c0 trivial) (by kernel_rfl)
inductive L84_0_R where
  | e0 (i0 : Int) (x0 : List V)
noncomputable def L84_0_end (s0 : List UInt8) (s1 : List UInt8) : L84_0_R → Exit × St
  | .e0 i0 x0 => (Exit.exit 0, { tm := [(0, V.str s0), (1, V.str s1), (4, V.str []), (5, V.ref 0), (10, V.int .i64 (↑(List.map (fun c => V.int .u8 (↑c.toNat : Int)) s1).length : Int)), (11, V.int .i64 i0), (12, V.bool false)], hp := [(0, Ob.row false 1 x0)], nx := 5 })
def L84_0 (k : Nat) (s0 s1 : List UInt8) : Nat → Int → List V → Option L84_0_R
  | 0, _, _ => none
  | f + 1, i0, x0 => (bif decide (i0 < (↑(List.map (fun c => V.int .u8 (↑c.toNat : Int)) s1).length : Int)) then (guardP ((0 : Int) ≤ i0 ∧ i0 < (↑x0.length : Int)) ((((x0)[i0.toNat]?).bind (dI IntKind.u8)).bind fun i1 => ((satB (s0) (i0)).bind fun u0 => (guardP (i0.toNat < x0.length) (L84_0 k s0 s1 f (IntKind.i64.wrap (i0 + 1)) (x0.set i0.toNat (V.int .u8 (IntKind.u8.wrap (↑(BitVec.ofInt IntKind.u8.bits i1 ^^^ BitVec.ofInt IntKind.u8.bits (↑u0.toNat : Int)).toNat : Int))))))))) else (some (L84_0_R.e0 i0 x0)))
theorem L84_0_ok {s0 s1 : List UInt8} {k : Nat} : ∀ {f : Nat} {i0 : Int} {x0 : List V} {r : L84_0_R}, L84_0 k s0 s1 f i0 x0 = some r →
    LoopsN Try.prog Try.cfg (k + 2) 0 Try.f84 (Try.cfg.fc 84) 0 [0, 1, 4, 5, 10, 11] f { tm := [(0, V.str s0), (1, V.str s1), (4, V.str []), (5, V.ref 0), (10, vi (↑(List.map (fun c => vb (↑c.toNat : Int)) s1).length : Int)), (11, vi i0)], hp := [(0, Ob.row false 1 x0)], nx := 1 } (L84_0_end s0 s1 r) := by
  intro f
  induction f with
  | zero => intro i0 x0 r h; cases h
  | succ f ih =>
    intro i0 x0 r h
    rw [L84_0] at h
    rcases cond_elim h with ⟨e0, h⟩ | ⟨e0, h⟩
    ·
      obtain ⟨e1, h⟩ := guardP_some.1 h
      obtain ⟨i1, e2, h⟩ := bE h
      obtain ⟨u0, e3, h⟩ := bE h
      obtain ⟨e4, h⟩ := guardP_some.1 h
      exact LoopsN.next (L84_0_b0 i0 i1 s0 s1 x0 u0 k e0 (IdxR.mk' e1 rfl) (LdP.mk (get_d dI_ok e2 :) (by kernel_rfl)) (StrP.of_at e3) (IdxR.mk' e1 rfl) (GrdW.mk ⟨rfl, rfl, e4⟩)) (L84_0_b0h i0 i1 s0 s1 x0 u0) (ih h)
    ·
      cases h; exact LoopsN.done (L84_0_b1 i0 s0 s1 x0 k e0) (fun h => by cases h)
theorem P84_0 (i0 : Int) (s0 s1 : List UInt8) (x0 : List V) (k : Nat)
    (c0 : GrdW (s1.length ≤ maxLen' ∧ (1 : Nat) = (1 : Nat)) (V.ref (8 : Nat)) [((8 : Nat), Ob.row false (1 : Nat) (List.map (fun c => vb (↑c.toNat : Int)) s1))])
    (c1 : LoopsN Try.prog Try.cfg (k + 2) 0 Try.f84 (Try.cfg.fc 84) 0 [0, 1, 4, 5, 10, 11] (k + 2) { tm := [(0, V.str s0), (1, V.str s1), (4, V.str []), (5, V.ref 0), (10, vi (↑(List.map (fun c => vb (↑c.toNat : Int)) s1).length : Int)), (11, vi 0)], hp := [(0, Ob.row false 1 (List.map (fun c => vb (↑c.toNat : Int)) s1))], nx := 1 } (Exit.exit 0, { tm := [(0, V.str s0), (1, V.str s1), (4, V.str []), (5, V.ref 0), (10, vi (↑(List.map (fun c => vb (↑c.toNat : Int)) s1).length : Int)), (11, vi i0), (12, V.bool false)], hp := [(0, Ob.row false 1 x0)], nx := 5 }))
    (c2 : GrdW (((1 : Nat) = (1 : Nat) ∨ x0.isEmpty = true) ∧ x0.all isByte = true) (V.str (List.map Sym.byteOf x0)) []) :
    cP ((k + 3)) 84 [V.str s0, V.str s1] = some (V.str (List.map Sym.byteOf x0)) :=
  byF (k := k) (d := 3) [Hn.op 8 (V.ref 8) [(8, Ob.row false 1 (List.map (fun c => vb (↑c.toNat : Int)) s1))], Hn.loop (Exit.exit 0, { tm := [(0, V.str s0), (1, V.str s1), (4, V.str []), (5, V.ref 0), (10, vi (↑(List.map (fun c => vb (↑c.toNat : Int)) s1).length : Int)), (11, vi i0), (12, V.bool false)], hp := [(0, Ob.row false 1 x0)], nx := 5 }), Hn.op 25 (V.str (List.map Sym.byteOf x0)) []] (aI c0 (aI c1 (aI c2 trivial))) (by kernel_rfl)
def F84 (k : Nat) (s0 s1 : List UInt8) : Option (List UInt8) :=
  (guardP (s1.length ≤ maxLen') ((L84_0 k s0 s1 (k + 2) (0) (List.map (fun c => V.int .u8 (↑c.toNat : Int)) s1)).bind fun
    | L84_0_R.e0 i0 x0 => (guardP (x0.all isByte = true) (some (List.map Sym.byteOf x0)))))
theorem F84_ok {s0 s1 : List UInt8} {k : Nat} {r : List UInt8} (h : F84 k s0 s1 = some r) :
    cP ((k + 3)) 84 [V.str s0, V.str s1] = some (V.str r) := by
  unfold F84 at h
  obtain ⟨e0, h⟩ := guardP_some.1 h
  obtain ⟨ee, e1, h⟩ := bE h
  cases ee with
  | e0 i0 x0 =>
    obtain ⟨e2, h⟩ := guardP_some.1 h
    have h := Option.some.inj h; subst h; exact P84_0 i0 s0 s1 x0 k (GrdW.mk ⟨e0, rfl⟩) (L84_0_ok e1) (GrdW.mk ⟨(.inl rfl), e2⟩)
inductive L38_0_R where
  | e0 (i2 : Int) (s2 : List UInt8)
noncomputable def L38_0_end (i1 : Int) (s0 : List UInt8) (s1 : List UInt8) : L38_0_R → Exit × St
  | .e0 i2 s2 => (Exit.exit 0, { tm := [(0, V.str s0), (1, V.str s1), (2, V.int .u32 i2), (3, V.int .i64 i1), (8, V.str []), (9, V.str s2), (13, V.bool false)], hp := [], nx := 16 })
theorem P32_0 (s0 : List UInt8) (k : Nat)
    (c0 : SlcP false 0 (V.str s0) none (some (vi (if 70 < (↑s0.length : Int) then 70 else (↑s0.length : Int)))) none (V.str (List.take (if 70 < (↑s0.length : Int) then 70 else (↑s0.length : Int)).toNat s0))) :
    cP ((k + 3)) 32 [V.str s0] = some (V.str (List.take (if 70 < (↑s0.length : Int) then 70 else (↑s0.length : Int)).toNat s0)) :=
  byF (k := k) (d := 3) [Hn.op 7 (V.str (List.take (if 70 < (↑s0.length : Int) then 70 else (↑s0.length : Int)).toNat s0)) []] (aI c0 trivial) (by kernel_rfl)
def F32 (k : Nat) (s0 : List UInt8) : Option (List UInt8) :=
  (guardP (((0 : Int) ≤ if (70 : Int) < (↑s0.length : Int) then (70 : Int) else (↑s0.length : Int)) ∧ (if (70 : Int) < (↑s0.length : Int) then (70 : Int) else (↑s0.length : Int)) ≤ (↑s0.length : Int)) (some (List.take (if 70 < (↑s0.length : Int) then 70 else (↑s0.length : Int)).toNat s0)))
theorem F32_ok {s0 : List UInt8} {k : Nat} {r : List UInt8} (h : F32 k s0 = some r) :
    cP ((k + 3)) 32 [V.str s0] = some (V.str r) := by
  unfold F32 at h
  obtain ⟨e0, h⟩ := guardP_some.1 h
  have h := Option.some.inj h; subst h; exact P32_0 s0 k (SlcP.strUptoS e0)
theorem P60_0 (i0 i1 : Int) (s0 s1 s2 s3 s4 s5 s6 s7 s8 : List UInt8) (k : Nat)
    (c0 : cP ((k + 45)) 41 [V.str [0], vi 16] = some (V.str s4))
    (c1 : cP ((k + 45)) 42 [V.str s0, V.str s4] = some (V.tup [V.str s5, vi i0]))
    (c2 : cP ((k + 45)) 27 [V.str s5, V.str s2, V.str s3] = some (V.tup [V.str s6, vi i1]))
    (c3 : cP ((k + 44)) 63 [V.agg [V.str s0, V.str s1], V.int .u32 1, vi 16] = some (V.str s7))
    (c4 : cP ((k + 45)) 84 [V.str s7, V.str s6] = some (V.str s8)) :
    cP ((k + 46)) 60 [V.agg [V.str s0, V.str s1], V.str s2, V.str s3] = some (V.str s8) :=
  byF (k := k) (d := 46) [Hn.call 14 (V.str s4), Hn.call 15 (V.tup [V.str s5, vi i0]), Hn.call 22 (V.tup [V.str s6, vi i1]), Hn.enter, Hn.call 10 (V.str s7), Hn.call 28 (V.str s8)] (aI c0 (aI c1 (aI c2 (aI c3 (aI c4 trivial))))) (by kernel_rfl)
def F60 (k : Nat) (s0 s1 s2 s3 : List UInt8) : Option (List UInt8) :=
  ((F41 (k + 44) ([0]) (16)).bind fun s4 => ((F42 (k + 6) (s0) (s4)).bind fun (s5, i0) => ((F27 (k + 27) (s5) (s2) (s3)).bind fun (s6, i1) => ((F63 (k + 2) (s0) (s1) (1) (16)).bind fun s7 => ((F84 (k + 42) (s7) (s6)).bind fun s8 => (some (s8)))))))
theorem F60_ok {s0 s1 s2 s3 : List UInt8} {k : Nat} {r : List UInt8} (h : F60 k s0 s1 s2 s3 = some r) :
    cP ((k + 46)) 60 [V.agg [V.str s0, V.str s1], V.str s2, V.str s3] = some (V.str r) := by
  unfold F60 at h
  obtain ⟨s4, e0, h⟩ := bE h
  obtain ⟨⟨s5, i0⟩, e1, h⟩ := bE h
  obtain ⟨⟨s6, i1⟩, e2, h⟩ := bE h
  obtain ⟨s7, e3, h⟩ := bE h
  obtain ⟨s8, e4, h⟩ := bE h
  have h := Option.some.inj h; subst h; exact P60_0 i0 i1 s0 s1 s2 s3 s4 s5 s6 s7 s8 k (F41_ok e0) (F42_ok e1) (F27_ok e2) (F63_ok e3) (F84_ok e4)
theorem P33_0 (b0 : Bool) (s0 s1 s2 s3 : List UInt8) (k : Nat)
    (c0 : cP ((k + 48)) 58 [V.agg [V.str s0, V.str s1]] = some (V.bool b0))
    (c1 : (!b0) = true) :
    cP ((k + 49)) 33 [V.str s0, V.str s1, V.str s2, V.str s3] = some (V.tup [V.str [], vi 4]) :=
  byF (k := k) (d := 49) [Hn.call 16 (V.bool b0), Hn.br 18 true] (aI c0 (aI c1 trivial)) (by kernel_rfl)
theorem P33_1 (b0 : Bool) (s0 s1 s2 s3 : List UInt8) (k : Nat)
    (c0 : cP ((k + 48)) 58 [V.agg [V.str s0, V.str s1]] = some (V.bool b0))
    (c1 : (!b0) = false)
    (c2 : decide (4096 < (↑s2.length : Int)) = true) :
    cP ((k + 49)) 33 [V.str s0, V.str s1, V.str s2, V.str s3] = some (V.tup [V.str [], vi 4]) :=
  byF (k := k) (d := 49) [Hn.call 16 (V.bool b0), Hn.br 18 false, Hn.br 23 true] (aI c0 (aI c1 (aI c2 trivial))) (by kernel_rfl)
theorem P33_2 (b0 : Bool) (s0 s1 s2 s3 : List UInt8) (k : Nat)
    (c0 : cP ((k + 48)) 58 [V.agg [V.str s0, V.str s1]] = some (V.bool b0))
    (c1 : (!b0) = false)
    (c2 : decide (4096 < (↑s2.length : Int)) = false)
    (c3 : decide (4096 < (↑s3.length : Int)) = true) :
    cP ((k + 49)) 33 [V.str s0, V.str s1, V.str s2, V.str s3] = some (V.tup [V.str [], vi 4]) :=
  byF (k := k) (d := 49) [Hn.call 16 (V.bool b0), Hn.br 18 false, Hn.br 23 false, Hn.br 27 true] (aI c0 (aI c1 (aI c2 (aI c3 trivial)))) (by kernel_rfl)
theorem P33_3 (b0 : Bool) (s0 s1 s2 s3 s4 s5 s6 : List UInt8) (k : Nat)
    (c0 : cP ((k + 48)) 58 [V.agg [V.str s0, V.str s1]] = some (V.bool b0))
    (c1 : (!b0) = false)
    (c2 : decide (4096 < (↑s2.length : Int)) = false)
    (c3 : decide (4096 < (↑s3.length : Int)) = false)
    (c4 : cP ((k + 47)) 63 [V.agg [V.str s0, V.str s1], V.int .u32 2, vi (↑s3.length : Int)] = some (V.str s4))
    (c5 : cP ((k + 48)) 84 [V.str s4, V.str s3] = some (V.str s5))
    (c6 : cP ((k + 48)) 60 [V.agg [V.str s0, V.str s1], V.str s2, V.str s5] = some (V.str s6))
    (c7 : GrdP (s5.length + s6.length ≤ maxText) (V.str (s5 ++ s6))) :
    cP ((k + 49)) 33 [V.str s0, V.str s1, V.str s2, V.str s3] = some (V.tup [V.str (s5 ++ s6), vi 0]) :=
  byF (k := k) (d := 49) [Hn.call 16 (V.bool b0), Hn.br 18 false, Hn.br 23 false, Hn.br 27 false, Hn.enter, Hn.call 10 (V.str s4), Hn.call 33 (V.str s5), Hn.call 38 (V.str s6), Hn.op 39 (V.str (s5 ++ s6)) []] (aI c0 (aI c1 (aI c2 (aI c3 (aI c4 (aI c5 (aI c6 (aI c7 trivial)))))))) (by kernel_rfl)
def F33 (k : Nat) (s0 s1 s2 s3 : List UInt8) : Option (List UInt8 × Int) :=
  ((F58 (k + 45) (s0) (s1)).bind fun b0 => (bif !b0 then (some (([]), (4))) else (bif decide (4096 < (↑s2.length : Int)) then (some (([]), (4))) else (bif decide (4096 < (↑s3.length : Int)) then (some (([]), (4))) else ((F63 (k + 5) (s0) (s1) (2) ((↑s3.length : Int))).bind fun s4 => ((F84 (k + 45) (s4) (s3)).bind fun s5 => ((F60 (k + 2) (s0) (s1) (s2) (s5)).bind fun s6 => (guardP (s5.length + s6.length ≤ maxText) (some ((s5 ++ s6), (0)))))))))))
theorem F33_ok {s0 s1 s2 s3 : List UInt8} {k : Nat} {r : List UInt8 × Int} (h : F33 k s0 s1 s2 s3 = some r) :
    cP ((k + 49)) 33 [V.str s0, V.str s1, V.str s2, V.str s3] = some (V.tup [V.str r.1, vi r.2]) := by
  unfold F33 at h
  obtain ⟨b0, e0, h⟩ := bE h
  rcases cond_elim h with ⟨e1, h⟩ | ⟨e1, h⟩
  ·
    have h := Option.some.inj h; subst h; exact P33_0 b0 s0 s1 s2 s3 k (F58_ok e0) e1
  ·
    rcases cond_elim h with ⟨e2, h⟩ | ⟨e2, h⟩
    ·
      have h := Option.some.inj h; subst h; exact P33_1 b0 s0 s1 s2 s3 k (F58_ok e0) e1 e2
    ·
      rcases cond_elim h with ⟨e3, h⟩ | ⟨e3, h⟩
      ·
        have h := Option.some.inj h; subst h; exact P33_2 b0 s0 s1 s2 s3 k (F58_ok e0) e1 e2 e3
      ·
        obtain ⟨s4, e4, h⟩ := bE h
        obtain ⟨s5, e5, h⟩ := bE h
        obtain ⟨s6, e6, h⟩ := bE h
        obtain ⟨e7, h⟩ := guardP_some.1 h
        have h := Option.some.inj h; subst h; exact P33_3 b0 s0 s1 s2 s3 s4 s5 s6 k (F58_ok e0) e1 e2 e3 (F63_ok e4) (F84_ok e5) (F60_ok e6) (GrdP.mk e7)
theorem P39_0 (b0 : Bool) (s0 s1 s2 s3 : List UInt8) (k : Nat)
    (c0 : cP ((k + 48)) 58 [V.agg [V.str s0, V.str s1]] = some (V.bool b0))
    (c1 : (!b0) = true) :
    cP ((k + 49)) 39 [V.str s0, V.str s1, V.str s2, V.str s3] = some (V.tup [V.str [], vi 4]) :=
  byF (k := k) (d := 49) [Hn.call 19 (V.bool b0), Hn.br 21 true] (aI c0 (aI c1 trivial)) (by kernel_rfl)
theorem P39_1 (b0 : Bool) (s0 s1 s2 s3 : List UInt8) (k : Nat)
    (c0 : cP ((k + 48)) 58 [V.agg [V.str s0, V.str s1]] = some (V.bool b0))
    (c1 : (!b0) = false)
    (c2 : decide (4096 < (↑s2.length : Int)) = true) :
    cP ((k + 49)) 39 [V.str s0, V.str s1, V.str s2, V.str s3] = some (V.tup [V.str [], vi 4]) :=
  byF (k := k) (d := 49) [Hn.call 19 (V.bool b0), Hn.br 21 false, Hn.br 26 true] (aI c0 (aI c1 (aI c2 trivial))) (by kernel_rfl)
theorem P39_2 (b0 : Bool) (s0 s1 s2 s3 : List UInt8) (k : Nat)
    (c0 : cP ((k + 48)) 58 [V.agg [V.str s0, V.str s1]] = some (V.bool b0))
    (c1 : (!b0) = false)
    (c2 : decide (4096 < (↑s2.length : Int)) = false)
    (c3 : decide (IntKind.i64.wrap ((↑s3.length : Int) - 16) < 0) = true) :
    cP ((k + 49)) 39 [V.str s0, V.str s1, V.str s2, V.str s3] = some (V.tup [V.str [], vi 4]) :=
  byF (k := k) (d := 49) [Hn.call 19 (V.bool b0), Hn.br 21 false, Hn.br 26 false, Hn.br 30 true] (aI c0 (aI c1 (aI c2 (aI c3 trivial)))) (by kernel_rfl)
theorem P39_3 (b0 : Bool) (s0 s1 s2 s3 : List UInt8) (k : Nat)
    (c0 : cP ((k + 48)) 58 [V.agg [V.str s0, V.str s1]] = some (V.bool b0))
    (c1 : (!b0) = false)
    (c2 : decide (4096 < (↑s2.length : Int)) = false)
    (c3 : decide (IntKind.i64.wrap ((↑s3.length : Int) - 16) < 0) = false)
    (c4 : decide (4096 < IntKind.i64.wrap ((↑s3.length : Int) - 16)) = true) :
    cP ((k + 49)) 39 [V.str s0, V.str s1, V.str s2, V.str s3] = some (V.tup [V.str [], vi 4]) :=
  byF (k := k) (d := 49) [Hn.call 19 (V.bool b0), Hn.br 21 false, Hn.br 26 false, Hn.br 30 false, Hn.br 33 true] (aI c0 (aI c1 (aI c2 (aI c3 (aI c4 trivial))))) (by kernel_rfl)
theorem P39_4 (b0 : Bool) (s0 s1 s2 s3 s4 : List UInt8) (k : Nat)
    (c0 : cP ((k + 48)) 58 [V.agg [V.str s0, V.str s1]] = some (V.bool b0))
    (c1 : (!b0) = false)
    (c2 : decide (4096 < (↑s2.length : Int)) = false)
    (c3 : decide (IntKind.i64.wrap ((↑s3.length : Int) - 16) < 0) = false)
    (c4 : decide (4096 < IntKind.i64.wrap ((↑s3.length : Int) - 16)) = false)
    (c5 : SlcP false 0 (V.str s3) none (some (vi (IntKind.i64.wrap ((↑s3.length : Int) - 16)))) none (V.str (List.take (IntKind.i64.wrap ((↑s3.length : Int) - 16)).toNat s3)))
    (c6 : cP ((k + 48)) 60 [V.agg [V.str s0, V.str s1], V.str s2, V.str (List.take (IntKind.i64.wrap ((↑s3.length : Int) - 16)).toNat s3)] = some (V.str s4))
    (c7 : SlcP false 0 (V.str s3) (some (vi (IntKind.i64.wrap ((↑s3.length : Int) - 16)))) none none (V.str (List.drop (IntKind.i64.wrap ((↑s3.length : Int) - 16)).toNat s3)))
    (c8 : (!decide (s4 = List.drop (IntKind.i64.wrap ((↑s3.length : Int) - 16)).toNat s3)) = true) :
    cP ((k + 49)) 39 [V.str s0, V.str s1, V.str s2, V.str s3] = some (V.tup [V.str [], vi 5]) :=
  byF (k := k) (d := 49) [Hn.call 19 (V.bool b0), Hn.br 21 false, Hn.br 26 false, Hn.br 30 false, Hn.br 33 false, Hn.op 38 (V.str (List.take (IntKind.i64.wrap ((↑s3.length : Int) - 16)).toNat s3)) [], Hn.call 39 (V.str s4), Hn.op 42 (V.str (List.drop (IntKind.i64.wrap ((↑s3.length : Int) - 16)).toNat s3)) [], Hn.br 43 true] (aI c0 (aI c1 (aI c2 (aI c3 (aI c4 (aI c5 (aI c6 (aI c7 (aI c8 trivial))))))))) (by kernel_rfl)
theorem P39_5 (b0 : Bool) (s0 s1 s2 s3 s4 s5 s6 : List UInt8) (k : Nat)
    (c0 : cP ((k + 48)) 58 [V.agg [V.str s0, V.str s1]] = some (V.bool b0))
    (c1 : (!b0) = false)
    (c2 : decide (4096 < (↑s2.length : Int)) = false)
    (c3 : decide (IntKind.i64.wrap ((↑s3.length : Int) - 16) < 0) = false)
    (c4 : decide (4096 < IntKind.i64.wrap ((↑s3.length : Int) - 16)) = false)
    (c5 : SlcP false 0 (V.str s3) none (some (vi (IntKind.i64.wrap ((↑s3.length : Int) - 16)))) none (V.str (List.take (IntKind.i64.wrap ((↑s3.length : Int) - 16)).toNat s3)))
    (c6 : cP ((k + 48)) 60 [V.agg [V.str s0, V.str s1], V.str s2, V.str (List.take (IntKind.i64.wrap ((↑s3.length : Int) - 16)).toNat s3)] = some (V.str s4))
    (c7 : SlcP false 0 (V.str s3) (some (vi (IntKind.i64.wrap ((↑s3.length : Int) - 16)))) none none (V.str (List.drop (IntKind.i64.wrap ((↑s3.length : Int) - 16)).toNat s3)))
    (c8 : (!decide (s4 = List.drop (IntKind.i64.wrap ((↑s3.length : Int) - 16)).toNat s3)) = false)
    (c9 : cP ((k + 47)) 63 [V.agg [V.str s0, V.str s1], V.int .u32 2, vi (IntKind.i64.wrap ((↑s3.length : Int) - 16))] = some (V.str s5))
    (c10 : SlcP false 0 (V.str s3) none (some (vi (IntKind.i64.wrap ((↑s3.length : Int) - 16)))) none (V.str (List.take (IntKind.i64.wrap ((↑s3.length : Int) - 16)).toNat s3)))
    (c11 : cP ((k + 48)) 84 [V.str s5, V.str (List.take (IntKind.i64.wrap ((↑s3.length : Int) - 16)).toNat s3)] = some (V.str s6)) :
    cP ((k + 49)) 39 [V.str s0, V.str s1, V.str s2, V.str s3] = some (V.tup [V.str s6, vi 0]) :=
  byF (k := k) (d := 49) [Hn.call 19 (V.bool b0), Hn.br 21 false, Hn.br 26 false, Hn.br 30 false, Hn.br 33 false, Hn.op 38 (V.str (List.take (IntKind.i64.wrap ((↑s3.length : Int) - 16)).toNat s3)) [], Hn.call 39 (V.str s4), Hn.op 42 (V.str (List.drop (IntKind.i64.wrap ((↑s3.length : Int) - 16)).toNat s3)) [], Hn.br 43 false, Hn.enter, Hn.call 10 (V.str s5), Hn.op 49 (V.str (List.take (IntKind.i64.wrap ((↑s3.length : Int) - 16)).toNat s3)) [], Hn.call 50 (V.str s6)] (aI c0 (aI c1 (aI c2 (aI c3 (aI c4 (aI c5 (aI c6 (aI c7 (aI c8 (aI c9 (aI c10 (aI c11 trivial)))))))))))) (by kernel_rfl)
def F39 (k : Nat) (s0 s1 s2 s3 : List UInt8) : Option (List UInt8 × Int) :=
  ((F58 (k + 45) (s0) (s1)).bind fun b0 => (bif !b0 then (some (([]), (4))) else (bif decide (4096 < (↑s2.length : Int)) then (some (([]), (4))) else (bif decide (IntKind.i64.wrap ((↑s3.length : Int) - 16) < 0) then (some (([]), (4))) else (bif decide (4096 < IntKind.i64.wrap ((↑s3.length : Int) - 16)) then (some (([]), (4))) else (guardP ((0 : Int) ≤ IntKind.i64.wrap ((↑s3.length : Int) - (16 : Int)) ∧ IntKind.i64.wrap ((↑s3.length : Int) - (16 : Int)) ≤ (↑s3.length : Int)) ((F60 (k + 2) (s0) (s1) (s2) (List.take (IntKind.i64.wrap ((↑s3.length : Int) - 16)).toNat s3)).bind fun s4 => (bif !decide (s4 = List.drop (IntKind.i64.wrap ((↑s3.length : Int) - 16)).toNat s3) then (some (([]), (5))) else ((F63 (k + 5) (s0) (s1) (2) (IntKind.i64.wrap ((↑s3.length : Int) - 16))).bind fun s5 => ((F84 (k + 45) (s5) (List.take (IntKind.i64.wrap ((↑s3.length : Int) - 16)).toNat s3)).bind fun s6 => (some ((s6), (0)))))))))))))
theorem F39_ok {s0 s1 s2 s3 : List UInt8} {k : Nat} {r : List UInt8 × Int} (h : F39 k s0 s1 s2 s3 = some r) :
    cP ((k + 49)) 39 [V.str s0, V.str s1, V.str s2, V.str s3] = some (V.tup [V.str r.1, vi r.2]) := by
  unfold F39 at h
  obtain ⟨b0, e0, h⟩ := bE h
  rcases cond_elim h with ⟨e1, h⟩ | ⟨e1, h⟩
  ·
    have h := Option.some.inj h; subst h; exact P39_0 b0 s0 s1 s2 s3 k (F58_ok e0) e1
  ·
    rcases cond_elim h with ⟨e2, h⟩ | ⟨e2, h⟩
    ·
      have h := Option.some.inj h; subst h; exact P39_1 b0 s0 s1 s2 s3 k (F58_ok e0) e1 e2
    ·
      rcases cond_elim h with ⟨e3, h⟩ | ⟨e3, h⟩
      ·
        have h := Option.some.inj h; subst h; exact P39_2 b0 s0 s1 s2 s3 k (F58_ok e0) e1 e2 e3
      ·
        rcases cond_elim h with ⟨e4, h⟩ | ⟨e4, h⟩
        ·
          have h := Option.some.inj h; subst h; exact P39_3 b0 s0 s1 s2 s3 k (F58_ok e0) e1 e2 e3 e4
        ·
          obtain ⟨e5, h⟩ := guardP_some.1 h
          obtain ⟨s4, e6, h⟩ := bE h
          rcases cond_elim h with ⟨e7, h⟩ | ⟨e7, h⟩
          ·
            have h := Option.some.inj h; subst h; exact P39_4 b0 s0 s1 s2 s3 s4 k (F58_ok e0) e1 e2 e3 e4 (SlcP.strUptoS e5) (F60_ok e6) (SlcP.strFromS e5) e7
          ·
            obtain ⟨s5, e8, h⟩ := bE h
            obtain ⟨s6, e9, h⟩ := bE h
            have h := Option.some.inj h; subst h; exact P39_5 b0 s0 s1 s2 s3 s4 s5 s6 k (F58_ok e0) e1 e2 e3 e4 (SlcP.strUptoS e5) (F60_ok e6) (SlcP.strFromS e5) e7 (F63_ok e8) (SlcP.strUptoS e5) (F84_ok e9)
theorem P35_0 (i0 : Int) (s0 s1 s2 : List UInt8) (u0 u1 : UInt8) (k : Nat)
    (c0 : cP ((k + 51)) 41 [V.str [0], vi 16] = some (V.str s0))
    (c1 : cP ((k + 51)) 41 [V.str [0], vi 12] = some (V.str s1))
    (c2 : cP ((k + 51)) 33 [V.str s0, V.str s1, V.str [], V.str []] = some (V.tup [V.str s2, vi i0]))
    (c3 : decide (i0 = 0) = true)
    (c4 : decide ((↑s2.length : Int) = 16) = true)
    (c5 : StrP s2 0 u0)
    (c6 : decide ((↑u0.toNat : Int) = 88) = true)
    (c7 : StrP s2 1 u1) :
    cP ((k + 52)) 35 [] = some (V.bool (decide ((↑u1.toNat : Int) = 226))) :=
  byF (k := k) (d := 52) [Hn.call 4 (V.str s0), Hn.call 5 (V.str s1), Hn.call 6 (V.tup [V.str s2, vi i0]), Hn.br 11 true, Hn.br 16 true, Hn.op 18 (vb (↑u0.toNat : Int)) [], Hn.br 21 true, Hn.op 23 (vb (↑u1.toNat : Int)) []] (aI c0 (aI c1 (aI c2 (aI c3 (aI c4 (aI c5 (aI c6 (aI c7 trivial)))))))) (by kernel_rfl)
theorem P35_1 (i0 : Int) (s0 s1 s2 : List UInt8) (u0 : UInt8) (k : Nat)
    (c0 : cP ((k + 51)) 41 [V.str [0], vi 16] = some (V.str s0))
    (c1 : cP ((k + 51)) 41 [V.str [0], vi 12] = some (V.str s1))
    (c2 : cP ((k + 51)) 33 [V.str s0, V.str s1, V.str [], V.str []] = some (V.tup [V.str s2, vi i0]))
    (c3 : decide (i0 = 0) = true)
    (c4 : decide ((↑s2.length : Int) = 16) = true)
    (c5 : StrP s2 0 u0)
    (c6 : decide ((↑u0.toNat : Int) = 88) = false) :
    cP ((k + 52)) 35 [] = some (V.bool false) :=
  byF (k := k) (d := 52) [Hn.call 4 (V.str s0), Hn.call 5 (V.str s1), Hn.call 6 (V.tup [V.str s2, vi i0]), Hn.br 11 true, Hn.br 16 true, Hn.op 18 (vb (↑u0.toNat : Int)) [], Hn.br 21 false] (aI c0 (aI c1 (aI c2 (aI c3 (aI c4 (aI c5 (aI c6 trivial))))))) (by kernel_rfl)
theorem P35_2 (i0 : Int) (s0 s1 s2 : List UInt8) (k : Nat)
    (c0 : cP ((k + 51)) 41 [V.str [0], vi 16] = some (V.str s0))
    (c1 : cP ((k + 51)) 41 [V.str [0], vi 12] = some (V.str s1))
    (c2 : cP ((k + 51)) 33 [V.str s0, V.str s1, V.str [], V.str []] = some (V.tup [V.str s2, vi i0]))
    (c3 : decide (i0 = 0) = true)
    (c4 : decide ((↑s2.length : Int) = 16) = false) :
    cP ((k + 52)) 35 [] = some (V.bool false) :=
  byF (k := k) (d := 52) [Hn.call 4 (V.str s0), Hn.call 5 (V.str s1), Hn.call 6 (V.tup [V.str s2, vi i0]), Hn.br 11 true, Hn.br 16 false] (aI c0 (aI c1 (aI c2 (aI c3 (aI c4 trivial))))) (by kernel_rfl)
theorem P35_3 (i0 : Int) (s0 s1 s2 : List UInt8) (k : Nat)
    (c0 : cP ((k + 51)) 41 [V.str [0], vi 16] = some (V.str s0))
    (c1 : cP ((k + 51)) 41 [V.str [0], vi 12] = some (V.str s1))
    (c2 : cP ((k + 51)) 33 [V.str s0, V.str s1, V.str [], V.str []] = some (V.tup [V.str s2, vi i0]))
    (c3 : decide (i0 = 0) = false) :
    cP ((k + 52)) 35 [] = some (V.bool false) :=
  byF (k := k) (d := 52) [Hn.call 4 (V.str s0), Hn.call 5 (V.str s1), Hn.call 6 (V.tup [V.str s2, vi i0]), Hn.br 11 false] (aI c0 (aI c1 (aI c2 (aI c3 trivial)))) (by kernel_rfl)
def F35 (k : Nat) : Option (Bool) :=
  ((F41 (k + 50) ([0]) (16)).bind fun s0 => ((F41 (k + 50) ([0]) (12)).bind fun s1 => ((F33 (k + 2) (s0) (s1) ([]) ([])).bind fun (s2, i0) => (bif decide (i0 = 0) then (bif decide ((↑s2.length : Int) = 16) then ((satB (s2) (0)).bind fun u0 => (bif decide ((↑u0.toNat : Int) = 88) then ((satB (s2) (1)).bind fun u1 => (some (decide ((↑u1.toNat : Int) = 226)))) else (some (false)))) else (some (false))) else (some (false))))))
theorem F35_ok {k : Nat} {r : Bool} (h : F35 k = some r) :
    cP ((k + 52)) 35 [] = some (V.bool r) := by
  unfold F35 at h
  obtain ⟨s0, e0, h⟩ := bE h
  obtain ⟨s1, e1, h⟩ := bE h
  obtain ⟨⟨s2, i0⟩, e2, h⟩ := bE h
  rcases cond_elim h with ⟨e3, h⟩ | ⟨e3, h⟩
  ·
    rcases cond_elim h with ⟨e4, h⟩ | ⟨e4, h⟩
    ·
      obtain ⟨u0, e5, h⟩ := bE h
      rcases cond_elim h with ⟨e6, h⟩ | ⟨e6, h⟩
      ·
        obtain ⟨u1, e7, h⟩ := bE h
        have h := Option.some.inj h; subst h; exact P35_0 i0 s0 s1 s2 u0 u1 k (F41_ok e0) (F41_ok e1) (F33_ok e2) e3 e4 (StrP.of_at e5) e6 (StrP.of_at e7)
      ·
        have h := Option.some.inj h; subst h; exact P35_1 i0 s0 s1 s2 u0 k (F41_ok e0) (F41_ok e1) (F33_ok e2) e3 e4 (StrP.of_at e5) e6
    ·
      have h := Option.some.inj h; subst h; exact P35_2 i0 s0 s1 s2 k (F41_ok e0) (F41_ok e1) (F33_ok e2) e3 e4
  ·
    have h := Option.some.inj h; subst h; exact P35_3 i0 s0 s1 s2 k (F41_ok e0) (F41_ok e1) (F33_ok e2) e3
end Go.Proofs
