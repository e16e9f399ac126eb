/-
  What functions of span and model answer, each checked against the program.
-/
import Derived.Test.YtfjloeemhiffgaaMShort
set_option linter.unusedVariables false
set_option maxHeartbeats 0
set_option maxRecDepth 100000
namespace Go.Proofs
open Go Go.Sym

def F59 (k : Nat) (s0 : List UInt8) (i0 : Int) : Option (List UInt8) :=
  (guardP (0 ≤ i0 ∧ s0.length * i0.toNat ≤ maxBld ∧ i0 ≤ (maxBld : Int)) (some (repeatN s0 i0.toNat)))
theorem F59_ok {s0 : List UInt8} {i0 : Int} {k : Nat} {r : List UInt8} (h : F59 k s0 i0 = some r) :
    cP ((k + 1)) 59 [V.str s0, vi i0] = some (V.str r) := by
  unfold F59 at h
  obtain ⟨e0, h⟩ := guardP_some.1 h
  have h := Option.some.inj h; subst h
  exact callP_repeat (by kernel_rfl) (by kernel_rfl) e0
theorem P16_0 (i0 i1 : Int) (k : Nat)
    (c0 : decide (i1 = 0) = true) :
    cP ((k + 4)) 16 [V.agg [vu i0, vu i1]] = some (V.tup [vu 0, vi 1]) :=
  byF (k := k) (d := 4) [Hn.enter, Hn.br 3 true] (aI c0 trivial) (by kernel_rfl)
theorem P16_1 (i0 i1 : Int) (k : Nat)
    (c0 : decide (i1 = 0) = false)
    (c1 : decide (wU (wU (i0 + i1) - 1) < i0) = true) :
    cP ((k + 4)) 16 [V.agg [vu i0, vu i1]] = some (V.tup [vu 0, vi 2]) :=
  byF (k := k) (d := 4) [Hn.enter, Hn.br 3 false, Hn.br 7 true] (aI c0 (aI c1 trivial)) (by kernel_rfl)
theorem P16_2 (i0 i1 : Int) (k : Nat)
    (c0 : decide (i1 = 0) = false)
    (c1 : decide (wU (wU (i0 + i1) - 1) < i0) = false) :
    cP ((k + 4)) 16 [V.agg [vu i0, vu i1]] = some (V.tup [vu (wU (wU (i0 + i1) - 1)), vi 0]) :=
  byF (k := k) (d := 4) [Hn.enter, Hn.br 3 false, Hn.br 7 false, Hn.enter] (aI c0 (aI c1 trivial)) (by kernel_rfl)
def F16 (k : Nat) (i0 i1 : Int) : Option (Int × Int) :=
  (bif decide (i1 = 0) then (some ((0), (1))) else (bif decide (IntKind.u64.wrap (IntKind.u64.wrap (i0 + i1) - 1) < i0) then (some ((0), (2))) else (some ((IntKind.u64.wrap (IntKind.u64.wrap (i0 + i1) - 1)), (0)))))
theorem F16_ok {i0 i1 : Int} {k : Nat} {r : Int × Int} (h : F16 k i0 i1 = some r) :
    cP ((k + 4)) 16 [V.agg [vu i0, vu i1]] = some (V.tup [vu r.1, vi r.2]) := by
  unfold F16 at h
  rcases cond_elim h with ⟨e0, h⟩ | ⟨e0, h⟩
  ·
    have h := Option.some.inj h; subst h; exact P16_0 i0 i1 k e0
  ·
    rcases cond_elim h with ⟨e1, h⟩ | ⟨e1, h⟩
    ·
      have h := Option.some.inj h; subst h; exact P16_1 i0 i1 k e0 e1
    ·
      have h := Option.some.inj h; subst h; exact P16_2 i0 i1 k e0 e1
theorem P19_0 (i0 i1 : Int) (k : Nat)
    (c0 : decide (i1 = 0) = true) :
    cP ((k + 3)) 19 [V.agg [vu i0, vu i1]] = some (vi 1) :=
  byF (k := k) (d := 3) [Hn.br 3 true] (aI c0 trivial) (by kernel_rfl)
theorem P19_1 (i0 i1 : Int) (k : Nat)
    (c0 : decide (i1 = 0) = false)
    (c1 : decide (wU (wU (i0 + i1) - 1) < i0) = true) :
    cP ((k + 3)) 19 [V.agg [vu i0, vu i1]] = some (vi 2) :=
  byF (k := k) (d := 3) [Hn.br 3 false, Hn.br 7 true] (aI c0 (aI c1 trivial)) (by kernel_rfl)
theorem P19_2 (i0 i1 : Int) (k : Nat)
    (c0 : decide (i1 = 0) = false)
    (c1 : decide (wU (wU (i0 + i1) - 1) < i0) = false) :
    cP ((k + 3)) 19 [V.agg [vu i0, vu i1]] = some (vi 0) :=
  byF (k := k) (d := 3) [Hn.br 3 false, Hn.br 7 false] (aI c0 (aI c1 trivial)) (by kernel_rfl)
def F19 (k : Nat) (i0 i1 : Int) : Option (Int) :=
  (bif decide (i1 = 0) then (some (1)) else (bif decide (IntKind.u64.wrap (IntKind.u64.wrap (i0 + i1) - 1) < i0) then (some (2)) else (some (0))))
theorem F19_ok {i0 i1 : Int} {k : Nat} {r : Int} (h : F19 k i0 i1 = some r) :
    cP ((k + 3)) 19 [V.agg [vu i0, vu i1]] = some (vi r) := by
  unfold F19 at h
  rcases cond_elim h with ⟨e0, h⟩ | ⟨e0, h⟩
  ·
    have h := Option.some.inj h; subst h; exact P19_0 i0 i1 k e0
  ·
    rcases cond_elim h with ⟨e1, h⟩ | ⟨e1, h⟩
    ·
      have h := Option.some.inj h; subst h; exact P19_1 i0 i1 k e0 e1
    ·
      have h := Option.some.inj h; subst h; exact P19_2 i0 i1 k e0 e1
theorem P106_0 (i0 : Int) (k : Nat)
    (c0 : (!decide (i0 = i0)) = false) :
    cP ((k + 3)) 106 [vu i0] = some (V.bool false) :=
  byF (k := k) (d := 3) [Hn.br 5 false] (aI c0 trivial) (by kernel_rfl)
def F106 (k : Nat) (i0 : Int) : Option (Bool) :=
  (some (false))
theorem F106_ok {i0 : Int} {k : Nat} {r : Bool} (h : F106 k i0 = some r) :
    cP ((k + 3)) 106 [vu i0] = some (V.bool r) := by
  unfold F106 at h
  have h := Option.some.inj h; subst h; exact P106_0 i0 k (by simp)
theorem P67_0 (i0 i1 : Int) (b0 b1 : Bool) (k : Nat)
    (c0 : cP ((k + 5)) 106 [vu i0] = some (V.bool b0))
    (c1 : cP ((k + 5)) 106 [vu i1] = some (V.bool b1))
    (c2 : b0 = true)
    (c3 : b1 = true) :
    cP ((k + 6)) 67 [vu i0, vu i1] = some (vi 0) :=
  byF (k := k) (d := 6) [Hn.call 8 (V.bool b0), Hn.call 10 (V.bool b1), Hn.br 11 true, Hn.br 12 true] (aI c0 (aI c1 (aI c2 (aI c3 trivial)))) (by kernel_rfl)
theorem P67_1 (i0 i1 : Int) (b0 b1 : Bool) (k : Nat)
    (c0 : cP ((k + 5)) 106 [vu i0] = some (V.bool b0))
    (c1 : cP ((k + 5)) 106 [vu i1] = some (V.bool b1))
    (c2 : b0 = true)
    (c3 : b1 = false) :
    cP ((k + 6)) 67 [vu i0, vu i1] = some (vi (-1)) :=
  byF (k := k) (d := 6) [Hn.call 8 (V.bool b0), Hn.call 10 (V.bool b1), Hn.br 11 true, Hn.br 12 false] (aI c0 (aI c1 (aI c2 (aI c3 trivial)))) (by kernel_rfl)
theorem P67_2 (i0 i1 : Int) (b0 b1 : Bool) (k : Nat)
    (c0 : cP ((k + 5)) 106 [vu i0] = some (V.bool b0))
    (c1 : cP ((k + 5)) 106 [vu i1] = some (V.bool b1))
    (c2 : b0 = false)
    (c3 : b1 = true) :
    cP ((k + 6)) 67 [vu i0, vu i1] = some (vi 1) :=
  byF (k := k) (d := 6) [Hn.call 8 (V.bool b0), Hn.call 10 (V.bool b1), Hn.br 11 false, Hn.br 13 true] (aI c0 (aI c1 (aI c2 (aI c3 trivial)))) (by kernel_rfl)
theorem P67_3 (i0 i1 : Int) (b0 b1 : Bool) (k : Nat)
    (c0 : cP ((k + 5)) 106 [vu i0] = some (V.bool b0))
    (c1 : cP ((k + 5)) 106 [vu i1] = some (V.bool b1))
    (c2 : b0 = false)
    (c3 : b1 = false)
    (c4 : decide (i0 < i1) = true) :
    cP ((k + 6)) 67 [vu i0, vu i1] = some (vi (-1)) :=
  byF (k := k) (d := 6) [Hn.call 8 (V.bool b0), Hn.call 10 (V.bool b1), Hn.br 11 false, Hn.br 13 false, Hn.br 16 true] (aI c0 (aI c1 (aI c2 (aI c3 (aI c4 trivial))))) (by kernel_rfl)
theorem P67_4 (i0 i1 : Int) (b0 b1 : Bool) (k : Nat)
    (c0 : cP ((k + 5)) 106 [vu i0] = some (V.bool b0))
    (c1 : cP ((k + 5)) 106 [vu i1] = some (V.bool b1))
    (c2 : b0 = false)
    (c3 : b1 = false)
    (c4 : decide (i0 < i1) = false)
    (c5 : decide (i1 < i0) = true) :
    cP ((k + 6)) 67 [vu i0, vu i1] = some (vi 1) :=
  byF (k := k) (d := 6) [Hn.call 8 (V.bool b0), Hn.call 10 (V.bool b1), Hn.br 11 false, Hn.br 13 false, Hn.br 16 false, Hn.br 19 true] (aI c0 (aI c1 (aI c2 (aI c3 (aI c4 (aI c5 trivial)))))) (by kernel_rfl)
theorem P67_5 (i0 i1 : Int) (b0 b1 : Bool) (k : Nat)
    (c0 : cP ((k + 5)) 106 [vu i0] = some (V.bool b0))
    (c1 : cP ((k + 5)) 106 [vu i1] = some (V.bool b1))
    (c2 : b0 = false)
    (c3 : b1 = false)
    (c4 : decide (i0 < i1) = false)
    (c5 : decide (i1 < i0) = false) :
    cP ((k + 6)) 67 [vu i0, vu i1] = some (vi 0) :=
  byF (k := k) (d := 6) [Hn.call 8 (V.bool b0), Hn.call 10 (V.bool b1), Hn.br 11 false, Hn.br 13 false, Hn.br 16 false, Hn.br 19 false] (aI c0 (aI c1 (aI c2 (aI c3 (aI c4 (aI c5 trivial)))))) (by kernel_rfl)
def F67 (k : Nat) (i0 i1 : Int) : Option (Int) :=
  ((F106 (k + 2) (i0)).bind fun b0 => ((F106 (k + 2) (i1)).bind fun b1 => (bif b0 then (bif b1 then (some (0)) else (some (-1))) else (bif b1 then (some (1)) else (bif decide (i0 < i1) then (some (-1)) else (bif decide (i1 < i0) then (some (1)) else (some (0))))))))
theorem F67_ok {i0 i1 : Int} {k : Nat} {r : Int} (h : F67 k i0 i1 = some r) :
    cP ((k + 6)) 67 [vu i0, vu i1] = some (vi r) := by
  unfold F67 at h
  obtain ⟨b0, e0, h⟩ := bE h
  obtain ⟨b1, e1, h⟩ := bE h
  rcases cond_elim h with ⟨e2, h⟩ | ⟨e2, h⟩
  ·
    rcases cond_elim h with ⟨e3, h⟩ | ⟨e3, h⟩
    ·
      have h := Option.some.inj h; subst h; exact P67_0 i0 i1 b0 b1 k (F106_ok e0) (F106_ok e1) e2 e3
    ·
      have h := Option.some.inj h; subst h; exact P67_1 i0 i1 b0 b1 k (F106_ok e0) (F106_ok e1) e2 e3
  ·
    rcases cond_elim h with ⟨e3, h⟩ | ⟨e3, h⟩
    ·
      have h := Option.some.inj h; subst h; exact P67_2 i0 i1 b0 b1 k (F106_ok e0) (F106_ok e1) e2 e3
    ·
      rcases cond_elim h with ⟨e4, h⟩ | ⟨e4, h⟩
      ·
        have h := Option.some.inj h; subst h; exact P67_3 i0 i1 b0 b1 k (F106_ok e0) (F106_ok e1) e2 e3 e4
      ·
        rcases cond_elim h with ⟨e5, h⟩ | ⟨e5, h⟩
        ·
          have h := Option.some.inj h; subst h; exact P67_4 i0 i1 b0 b1 k (F106_ok e0) (F106_ok e1) e2 e3 e4 e5
        ·
          have h := Option.some.inj h; subst h; exact P67_5 i0 i1 b0 b1 k (F106_ok e0) (F106_ok e1) e2 e3 e4 e5
theorem P121_0 (i0 i1 i2 i3 : Int) (s0 : List UInt8) (k : Nat)
    (c0 : cP ((k + 8)) 67 [vu i0, vu i2] = some (vi i3)) :
    cP ((k + 9)) 121 [V.agg [vu i0, vi i1, V.str s0], vu i2] = some (vi i3) :=
  byF (k := k) (d := 9) [Hn.call 8 (vi i3)] (aI c0 trivial) (by kernel_rfl)
def F121 (k : Nat) (i0 i1 : Int) (s0 : List UInt8) (i2 : Int) : Option (Int) :=
  ((F67 (k + 2) (i0) (i2)).bind fun i3 => (some (i3)))
theorem F121_ok {i0 i1 : Int} {s0 : List UInt8} {i2 : Int} {k : Nat} {r : Int} (h : F121 k i0 i1 s0 i2 = some r) :
    cP ((k + 9)) 121 [V.agg [vu i0, vi i1, V.str s0], vu i2] = some (vi r) := by
  unfold F121 at h
  obtain ⟨i3, e0, h⟩ := bE h
  have h := Option.some.inj h; subst h; exact P121_0 i0 i1 i2 i3 s0 k (F67_ok e0)
theorem P139_0 (i0 i1 i2 i3 : Int) (s0 : List UInt8) (k : Nat)
    (c0 : cP ((k + 8)) 67 [vu i0, vu i2] = some (vi i3)) :
    cP ((k + 9)) 139 [V.agg [vu i0, vi i1, V.str s0], vu i2] = some (vi i3) :=
  byF (k := k) (d := 9) [Hn.call 8 (vi i3)] (aI c0 trivial) (by kernel_rfl)
def F139 (k : Nat) (i0 i1 : Int) (s0 : List UInt8) (i2 : Int) : Option (Int) :=
  ((F67 (k + 2) (i0) (i2)).bind fun i3 => (some (i3)))
theorem F139_ok {i0 i1 : Int} {s0 : List UInt8} {i2 : Int} {k : Nat} {r : Int} (h : F139 k i0 i1 s0 i2 = some r) :
    cP ((k + 9)) 139 [V.agg [vu i0, vi i1, V.str s0], vu i2] = some (vi r) := by
  unfold F139 at h
  obtain ⟨i3, e0, h⟩ := bE h
  have h := Option.some.inj h; subst h; exact P139_0 i0 i1 i2 i3 s0 k (F67_ok e0)
theorem P91_0 (i0 i1 : Int) (s0 : List UInt8) (k : Nat) :
    cP ((k + 3)) 91 [V.agg [vu i0, vi i1, V.str s0]] = some (vi 0) :=
  byF (k := k) (d := 3) [] trivial (by kernel_rfl)
def F91 (k : Nat) (i0 i1 : Int) (s0 : List UInt8) : Option (Int) :=
  (some (0))
theorem F91_ok {i0 i1 : Int} {s0 : List UInt8} {k : Nat} {r : Int} (h : F91 k i0 i1 s0 = some r) :
    cP ((k + 3)) 91 [V.agg [vu i0, vi i1, V.str s0]] = some (vi r) := by
  unfold F91 at h
  have h := Option.some.inj h; subst h; exact P91_0 i0 i1 s0 k
theorem P94_0 (i0 i1 : Int) (s0 : List UInt8) (k : Nat)
    (c0 : decide (i1 = 1) = true) :
    cP ((k + 3)) 94 [V.agg [vu i0, vi i1, V.str s0]] = some (vi 2) :=
  byF (k := k) (d := 3) [Hn.br 5 true] (aI c0 trivial) (by kernel_rfl)
theorem P94_1 (i0 i1 : Int) (s0 : List UInt8) (k : Nat)
    (c0 : decide (i1 = 1) = false) :
    cP ((k + 3)) 94 [V.agg [vu i0, vi i1, V.str s0]] = some (vi i1) :=
  byF (k := k) (d := 3) [Hn.br 5 false] (aI c0 trivial) (by kernel_rfl)
def F94 (k : Nat) (i0 i1 : Int) (s0 : List UInt8) : Option (Int) :=
  (bif decide (i1 = 1) then (some (2)) else (some (i1)))
theorem F94_ok {i0 i1 : Int} {s0 : List UInt8} {k : Nat} {r : Int} (h : F94 k i0 i1 s0 = some r) :
    cP ((k + 3)) 94 [V.agg [vu i0, vi i1, V.str s0]] = some (vi r) := by
  unfold F94 at h
  rcases cond_elim h with ⟨e0, h⟩ | ⟨e0, h⟩
  ·
    have h := Option.some.inj h; subst h; exact P94_0 i0 i1 s0 k e0
  ·
    have h := Option.some.inj h; subst h; exact P94_1 i0 i1 s0 k e0
theorem P84_0 (i0 i1 : Int) (s0 : List UInt8) (k : Nat)
    (c0 : decide (i1 = 1) = true) :
    cP ((k + 4)) 84 [V.agg [vu i0, vi i1, V.str s0]] = some (V.str s0) :=
  byF (k := k) (d := 4) [Hn.br 5 true] (aI c0 trivial) (by kernel_rfl)
theorem P84_1 (i0 i1 : Int) (s0 s1 : List UInt8) (k : Nat)
    (c0 : decide (i1 = 1) = false)
    (c1 : cP ((k + 3)) 59 [V.str [0], vi 32] = some (V.str s1)) :
    cP ((k + 4)) 84 [V.agg [vu i0, vi i1, V.str s0]] = some (V.str s1) :=
  byF (k := k) (d := 4) [Hn.br 5 false, Hn.call 8 (V.str s1)] (aI c0 (aI c1 trivial)) (by kernel_rfl)
def F84 (k : Nat) (i0 i1 : Int) (s0 : List UInt8) : Option (List UInt8) :=
  (bif decide (i1 = 1) then (some (s0)) else ((F59 (k + 2) ([0]) (32)).bind fun s1 => (some (s1))))
theorem F84_ok {i0 i1 : Int} {s0 : List UInt8} {k : Nat} {r : List UInt8} (h : F84 k i0 i1 s0 = some r) :
    cP ((k + 4)) 84 [V.agg [vu i0, vi i1, V.str s0]] = some (V.str r) := by
  unfold F84 at h
  rcases cond_elim h with ⟨e0, h⟩ | ⟨e0, h⟩
  ·
    have h := Option.some.inj h; subst h; exact P84_0 i0 i1 s0 k e0
  ·
    obtain ⟨s1, e1, h⟩ := bE h
    have h := Option.some.inj h; subst h; exact P84_1 i0 i1 s0 s1 k e0 (F59_ok e1)
def dAu64i64sZ : V → Option (Int × Int × List UInt8)
  | V.agg [V.int .u64 a0, V.int .i64 a1, V.str a2] => some (a0, a1, a2)
  | _ => none
theorem dAu64i64sZ_ok {v : V} {a : Int × Int × List UInt8} (h : dAu64i64sZ v = some a) : v = (fun (a : Int × Int × List UInt8) => V.agg [vu a.1, vi a.2.1, V.str a.2.2] ) a := by
  unfold dAu64i64sZ at h; split at h
  · cases h; rfl
  · cases h
theorem L58_0_b0 (i0 i1 i2 : Int) (b0 : Bool) (s0 : List UInt8) (x0 : List V) (o0 : Option Bool) (n0 k : Nat)
    (c0 : decide (i0 < (↑x0.length : Int)) = true)
    (c1 : IdxP x0 i0 n0 3 (V.agg [vu i1, vi i2, V.str s0]))
    (c2 : decide (i2 = 1) = true)
    (c3 : decide (576460752303423488 ≤ i1) = true) :
    eC k 2 0 58 (loopBody Try.f58 0) { tm := [(0, V.sl o0 b0 n0 x0), (2, V.bool false), (6, V.sl o0 b0 n0 x0), (7, vi (↑x0.length : Int)), (8, vi i0)], hp := [], nx := 0 } = some (Exit.ret, { tm := [(0, V.sl o0 b0 n0 x0), (2, V.bool false), (3, vi i0), (4, V.ptr 16 0), (5, V.bool (decide ((↑s0.length : Int) = 32))), (6, V.sl o0 b0 n0 x0), (7, vi (↑x0.length : Int)), (8, vi i0), (9, V.bool true), (53, V.bool true)], hp := [(16, Ob.var [vu i1, vi i2, V.str s0])], nx := 200 }) :=
  byL (k := k) (d := 2) [Hn.br 9 true, Hn.op 11 ((V.agg [vu i1, vi i2, V.str s0]).cpt 0) [], Hn.br 16 true, Hn.br 25 true] (aI c0 (aI c1 (aI c2 (aI c3 trivial)))) (by kernel_rfl)
theorem L58_0_b1 (i0 i1 i2 : Int) (b0 : Bool) (s0 : List UInt8) (x0 : List V) (o0 : Option Bool) (n0 k : Nat)
    (c0 : decide (i0 < (↑x0.length : Int)) = true)
    (c1 : IdxP x0 i0 n0 3 (V.agg [vu i1, vi i2, V.str s0]))
    (c2 : decide (i2 = 1) = true)
    (c3 : decide (576460752303423488 ≤ i1) = false)
    (c4 : (!decide ((↑s0.length : Int) = 32)) = true)
    (c5 : (!decide (i2 = 2)) = true) :
    eC k 2 0 58 (loopBody Try.f58 0) { tm := [(0, V.sl o0 b0 n0 x0), (2, V.bool false), (6, V.sl o0 b0 n0 x0), (7, vi (↑x0.length : Int)), (8, vi i0)], hp := [], nx := 0 } = some (Exit.ret, { tm := [(0, V.sl o0 b0 n0 x0), (2, V.bool false), (3, vi i0), (4, V.ptr 16 0), (5, V.bool (decide ((↑s0.length : Int) = 32))), (6, V.sl o0 b0 n0 x0), (7, vi (↑x0.length : Int)), (8, vi i0), (9, V.bool true), (53, V.bool true)], hp := [(16, Ob.var [vu i1, vi i2, V.str s0])], nx := 200 }) :=
  byL (k := k) (d := 2) [Hn.br 9 true, Hn.op 11 ((V.agg [vu i1, vi i2, V.str s0]).cpt 0) [], Hn.br 16 true, Hn.br 25 false, Hn.br 28 true, Hn.br 32 true] (aI c0 (aI c1 (aI c2 (aI c3 (aI c4 (aI c5 trivial)))))) (by kernel_rfl)
theorem L58_0_b2 (i0 i1 i2 : Int) (b0 : Bool) (s0 : List UInt8) (x0 : List V) (o0 : Option Bool) (n0 k : Nat)
    (c0 : decide (i0 < (↑x0.length : Int)) = true)
    (c1 : IdxP x0 i0 n0 3 (V.agg [vu i1, vi i2, V.str s0]))
    (c2 : decide (i2 = 1) = true)
    (c3 : decide (576460752303423488 ≤ i1) = false)
    (c4 : (!decide ((↑s0.length : Int) = 32)) = true)
    (c5 : (!decide (i2 = 2)) = false)
    (c6 : (!decide (s0 = [])) = true) :
    eC k 2 0 58 (loopBody Try.f58 0) { tm := [(0, V.sl o0 b0 n0 x0), (2, V.bool false), (6, V.sl o0 b0 n0 x0), (7, vi (↑x0.length : Int)), (8, vi i0)], hp := [], nx := 0 } = some (Exit.ret, { tm := [(0, V.sl o0 b0 n0 x0), (2, V.bool false), (3, vi i0), (4, V.ptr 16 0), (5, V.bool (decide ((↑s0.length : Int) = 32))), (6, V.sl o0 b0 n0 x0), (7, vi (↑x0.length : Int)), (8, vi i0), (9, V.bool true), (53, V.bool true)], hp := [(16, Ob.var [vu i1, vi i2, V.str s0])], nx := 200 }) :=
  byL (k := k) (d := 2) [Hn.br 9 true, Hn.op 11 ((V.agg [vu i1, vi i2, V.str s0]).cpt 0) [], Hn.br 16 true, Hn.br 25 false, Hn.br 28 true, Hn.br 32 false, Hn.br 39 true] (aI c0 (aI c1 (aI c2 (aI c3 (aI c4 (aI c5 (aI c6 trivial))))))) (by kernel_rfl)
theorem L58_0_b3 (i0 i1 i2 i3 i4 : Int) (b0 : Bool) (s0 s1 : List UInt8) (x0 : List V) (o0 : Option Bool) (n0 k : Nat)
    (c0 : decide (i0 < (↑x0.length : Int)) = true)
    (c1 : IdxP x0 i0 n0 3 (V.agg [vu i1, vi i2, V.str s0]))
    (c2 : decide (i2 = 1) = true)
    (c3 : decide (576460752303423488 ≤ i1) = false)
    (c4 : (!decide ((↑s0.length : Int) = 32)) = true)
    (c5 : (!decide (i2 = 2)) = false)
    (c6 : (!decide (s0 = [])) = false)
    (c7 : decide (0 < i0) = true)
    (c8 : IdxP x0 (wI (i0 - 1)) n0 3 (V.agg [vu i3, vi i4, V.str s1]))
    (c9 : decide (i1 ≤ i3) = true) :
    eC k 2 0 58 (loopBody Try.f58 0) { tm := [(0, V.sl o0 b0 n0 x0), (2, V.bool false), (6, V.sl o0 b0 n0 x0), (7, vi (↑x0.length : Int)), (8, vi i0)], hp := [], nx := 0 } = some (Exit.ret, { tm := [(0, V.sl o0 b0 n0 x0), (2, V.bool false), (3, vi i0), (4, V.ptr 16 0), (5, V.bool (decide ((↑s0.length : Int) = 32))), (6, V.sl o0 b0 n0 x0), (7, vi (↑x0.length : Int)), (8, vi i0), (9, V.bool true), (53, V.bool true)], hp := [(16, Ob.var [vu i1, vi i2, V.str s0])], nx := 200 }) :=
  byL (k := k) (d := 2) [Hn.br 9 true, Hn.op 11 ((V.agg [vu i1, vi i2, V.str s0]).cpt 0) [], Hn.br 16 true, Hn.br 25 false, Hn.br 28 true, Hn.br 32 false, Hn.br 39 false, Hn.br 42 true, Hn.op 46 ((V.agg [vu i3, vi i4, V.str s1]).cpt 0) [], Hn.br 53 true] (aI c0 (aI c1 (aI c2 (aI c3 (aI c4 (aI c5 (aI c6 (aI c7 (aI c8 (aI c9 trivial)))))))))) (by kernel_rfl)
theorem L58_0_b4 (i0 i1 i2 i3 i4 : Int) (b0 : Bool) (s0 s1 : List UInt8) (x0 : List V) (o0 : Option Bool) (n0 k : Nat)
    (c0 : decide (i0 < (↑x0.length : Int)) = true)
    (c1 : IdxP x0 i0 n0 3 (V.agg [vu i1, vi i2, V.str s0]))
    (c2 : decide (i2 = 1) = true)
    (c3 : decide (576460752303423488 ≤ i1) = false)
    (c4 : (!decide ((↑s0.length : Int) = 32)) = true)
    (c5 : (!decide (i2 = 2)) = false)
    (c6 : (!decide (s0 = [])) = false)
    (c7 : decide (0 < i0) = true)
    (c8 : IdxP x0 (wI (i0 - 1)) n0 3 (V.agg [vu i3, vi i4, V.str s1]))
    (c9 : decide (i1 ≤ i3) = false) :
    eC k 2 0 58 (loopBody Try.f58 0) { tm := [(0, V.sl o0 b0 n0 x0), (2, V.bool false), (6, V.sl o0 b0 n0 x0), (7, vi (↑x0.length : Int)), (8, vi i0)], hp := [], nx := 0 } = some (Exit.normal, { tm := [(0, V.sl o0 b0 n0 x0), (2, V.bool false), (3, vi i0), (4, V.ptr 16 0), (5, V.bool (decide ((↑s0.length : Int) = 32))), (6, V.sl o0 b0 n0 x0), (7, vi (↑x0.length : Int)), (8, vi (wI (i0 + 1))), (9, V.bool true), (53, V.bool false)], hp := [(16, Ob.var [vu i1, vi i2, V.str s0])], nx := 204 }) :=
  byL (k := k) (d := 2) [Hn.br 9 true, Hn.op 11 ((V.agg [vu i1, vi i2, V.str s0]).cpt 0) [], Hn.br 16 true, Hn.br 25 false, Hn.br 28 true, Hn.br 32 false, Hn.br 39 false, Hn.br 42 true, Hn.op 46 ((V.agg [vu i3, vi i4, V.str s1]).cpt 0) [], Hn.br 53 false] (aI c0 (aI c1 (aI c2 (aI c3 (aI c4 (aI c5 (aI c6 (aI c7 (aI c8 (aI c9 trivial)))))))))) (by kernel_rfl)
theorem L58_0_b4h (i0 i1 i2 : Int) (b0 : Bool) (s0 : List UInt8) (x0 : List V) (o0 : Option Bool) (n0 : Nat) : head 0 [0, 2, 6, 7, 8] (Try.cfg.fc 58).acc { tm := [(0, V.sl o0 b0 n0 x0), (2, V.bool false), (3, vi i0), (4, V.ptr 16 0), (5, V.bool (decide ((↑s0.length : Int) = 32))), (6, V.sl o0 b0 n0 x0), (7, vi (↑x0.length : Int)), (8, vi (wI (i0 + 1))), (9, V.bool true), (53, V.bool false)], hp := [(16, Ob.var [vu i1, vi i2, V.str s0])], nx := 204 } = { tm := [(0, V.sl o0 b0 n0 x0), (2, V.bool false), (6, V.sl o0 b0 n0 x0), (7, vi (↑x0.length : Int)), (8, vi (wI (i0 + 1)))], hp := [], nx := 0 } := by kernel_rfl
theorem L58_0_b5 (i0 i1 i2 : Int) (b0 : Bool) (s0 : List UInt8) (x0 : List V) (o0 : Option Bool) (n0 k : Nat)
    (c0 : decide (i0 < (↑x0.length : Int)) = true)
    (c1 : IdxP x0 i0 n0 3 (V.agg [vu i1, vi i2, V.str s0]))
    (c2 : decide (i2 = 1) = true)
    (c3 : decide (576460752303423488 ≤ i1) = false)
    (c4 : (!decide ((↑s0.length : Int) = 32)) = true)
    (c5 : (!decide (i2 = 2)) = false)
    (c6 : (!decide (s0 = [])) = false)
    (c7 : decide (0 < i0) = false) :
    eC k 2 0 58 (loopBody Try.f58 0) { tm := [(0, V.sl o0 b0 n0 x0), (2, V.bool false), (6, V.sl o0 b0 n0 x0), (7, vi (↑x0.length : Int)), (8, vi i0)], hp := [], nx := 0 } = some (Exit.normal, { tm := [(0, V.sl o0 b0 n0 x0), (2, V.bool false), (3, vi i0), (4, V.ptr 16 0), (5, V.bool (decide ((↑s0.length : Int) = 32))), (6, V.sl o0 b0 n0 x0), (7, vi (↑x0.length : Int)), (8, vi (wI (i0 + 1))), (9, V.bool true), (53, V.bool false)], hp := [(16, Ob.var [vu i1, vi i2, V.str s0])], nx := 204 }) :=
  byL (k := k) (d := 2) [Hn.br 9 true, Hn.op 11 ((V.agg [vu i1, vi i2, V.str s0]).cpt 0) [], Hn.br 16 true, Hn.br 25 false, Hn.br 28 true, Hn.br 32 false, Hn.br 39 false, Hn.br 42 false] (aI c0 (aI c1 (aI c2 (aI c3 (aI c4 (aI c5 (aI c6 (aI c7 trivial)))))))) (by kernel_rfl)
theorem L58_0_b5h (i0 i1 i2 : Int) (b0 : Bool) (s0 : List UInt8) (x0 : List V) (o0 : Option Bool) (n0 : Nat) : head 0 [0, 2, 6, 7, 8] (Try.cfg.fc 58).acc { tm := [(0, V.sl o0 b0 n0 x0), (2, V.bool false), (3, vi i0), (4, V.ptr 16 0), (5, V.bool (decide ((↑s0.length : Int) = 32))), (6, V.sl o0 b0 n0 x0), (7, vi (↑x0.length : Int)), (8, vi (wI (i0 + 1))), (9, V.bool true), (53, V.bool false)], hp := [(16, Ob.var [vu i1, vi i2, V.str s0])], nx := 204 } = { tm := [(0, V.sl o0 b0 n0 x0), (2, V.bool false), (6, V.sl o0 b0 n0 x0), (7, vi (↑x0.length : Int)), (8, vi (wI (i0 + 1)))], hp := [], nx := 0 } := by kernel_rfl
theorem L58_0_b6 (i0 i1 i2 i3 i4 : Int) (b0 : Bool) (s0 s1 : List UInt8) (x0 : List V) (o0 : Option Bool) (n0 k : Nat)
    (c0 : decide (i0 < (↑x0.length : Int)) = true)
    (c1 : IdxP x0 i0 n0 3 (V.agg [vu i1, vi i2, V.str s0]))
    (c2 : decide (i2 = 1) = true)
    (c3 : decide (576460752303423488 ≤ i1) = false)
    (c4 : (!decide ((↑s0.length : Int) = 32)) = false)
    (c5 : decide (0 < i0) = true)
    (c6 : IdxP x0 (wI (i0 - 1)) n0 3 (V.agg [vu i3, vi i4, V.str s1]))
    (c7 : decide (i1 ≤ i3) = true) :
    eC k 2 0 58 (loopBody Try.f58 0) { tm := [(0, V.sl o0 b0 n0 x0), (2, V.bool false), (6, V.sl o0 b0 n0 x0), (7, vi (↑x0.length : Int)), (8, vi i0)], hp := [], nx := 0 } = some (Exit.ret, { tm := [(0, V.sl o0 b0 n0 x0), (2, V.bool false), (3, vi i0), (4, V.ptr 16 0), (5, V.bool (decide ((↑s0.length : Int) = 32))), (6, V.sl o0 b0 n0 x0), (7, vi (↑x0.length : Int)), (8, vi i0), (9, V.bool true), (53, V.bool true)], hp := [(16, Ob.var [vu i1, vi i2, V.str s0])], nx := 200 }) :=
  byL (k := k) (d := 2) [Hn.br 9 true, Hn.op 11 ((V.agg [vu i1, vi i2, V.str s0]).cpt 0) [], Hn.br 16 true, Hn.br 25 false, Hn.br 28 false, Hn.br 42 true, Hn.op 46 ((V.agg [vu i3, vi i4, V.str s1]).cpt 0) [], Hn.br 53 true] (aI c0 (aI c1 (aI c2 (aI c3 (aI c4 (aI c5 (aI c6 (aI c7 trivial)))))))) (by kernel_rfl)
theorem L58_0_b7 (i0 i1 i2 i3 i4 : Int) (b0 : Bool) (s0 s1 : List UInt8) (x0 : List V) (o0 : Option Bool) (n0 k : Nat)
    (c0 : decide (i0 < (↑x0.length : Int)) = true)
    (c1 : IdxP x0 i0 n0 3 (V.agg [vu i1, vi i2, V.str s0]))
    (c2 : decide (i2 = 1) = true)
    (c3 : decide (576460752303423488 ≤ i1) = false)
    (c4 : (!decide ((↑s0.length : Int) = 32)) = false)
    (c5 : decide (0 < i0) = true)
    (c6 : IdxP x0 (wI (i0 - 1)) n0 3 (V.agg [vu i3, vi i4, V.str s1]))
    (c7 : decide (i1 ≤ i3) = false) :
    eC k 2 0 58 (loopBody Try.f58 0) { tm := [(0, V.sl o0 b0 n0 x0), (2, V.bool false), (6, V.sl o0 b0 n0 x0), (7, vi (↑x0.length : Int)), (8, vi i0)], hp := [], nx := 0 } = some (Exit.normal, { tm := [(0, V.sl o0 b0 n0 x0), (2, V.bool false), (3, vi i0), (4, V.ptr 16 0), (5, V.bool (decide ((↑s0.length : Int) = 32))), (6, V.sl o0 b0 n0 x0), (7, vi (↑x0.length : Int)), (8, vi (wI (i0 + 1))), (9, V.bool true), (53, V.bool false)], hp := [(16, Ob.var [vu i1, vi i2, V.str s0])], nx := 204 }) :=
  byL (k := k) (d := 2) [Hn.br 9 true, Hn.op 11 ((V.agg [vu i1, vi i2, V.str s0]).cpt 0) [], Hn.br 16 true, Hn.br 25 false, Hn.br 28 false, Hn.br 42 true, Hn.op 46 ((V.agg [vu i3, vi i4, V.str s1]).cpt 0) [], Hn.br 53 false] (aI c0 (aI c1 (aI c2 (aI c3 (aI c4 (aI c5 (aI c6 (aI c7 trivial)))))))) (by kernel_rfl)
theorem L58_0_b7h (i0 i1 i2 : Int) (b0 : Bool) (s0 : List UInt8) (x0 : List V) (o0 : Option Bool) (n0 : Nat) : head 0 [0, 2, 6, 7, 8] (Try.cfg.fc 58).acc { tm := [(0, V.sl o0 b0 n0 x0), (2, V.bool false), (3, vi i0), (4, V.ptr 16 0), (5, V.bool (decide ((↑s0.length : Int) = 32))), (6, V.sl o0 b0 n0 x0), (7, vi (↑x0.length : Int)), (8, vi (wI (i0 + 1))), (9, V.bool true), (53, V.bool false)], hp := [(16, Ob.var [vu i1, vi i2, V.str s0])], nx := 204 } = { tm := [(0, V.sl o0 b0 n0 x0), (2, V.bool false), (6, V.sl o0 b0 n0 x0), (7, vi (↑x0.length : Int)), (8, vi (wI (i0 + 1)))], hp := [], nx := 0 } := by kernel_rfl
theorem L58_0_b8 (i0 i1 i2 : Int) (b0 : Bool) (s0 : List UInt8) (x0 : List V) (o0 : Option Bool) (n0 k : Nat)
    (c0 : decide (i0 < (↑x0.length : Int)) = true)
    (c1 : IdxP x0 i0 n0 3 (V.agg [vu i1, vi i2, V.str s0]))
    (c2 : decide (i2 = 1) = true)
    (c3 : decide (576460752303423488 ≤ i1) = false)
    (c4 : (!decide ((↑s0.length : Int) = 32)) = false)
    (c5 : decide (0 < i0) = false) :
    eC k 2 0 58 (loopBody Try.f58 0) { tm := [(0, V.sl o0 b0 n0 x0), (2, V.bool false), (6, V.sl o0 b0 n0 x0), (7, vi (↑x0.length : Int)), (8, vi i0)], hp := [], nx := 0 } = some (Exit.normal, { tm := [(0, V.sl o0 b0 n0 x0), (2, V.bool false), (3, vi i0), (4, V.ptr 16 0), (5, V.bool (decide ((↑s0.length : Int) = 32))), (6, V.sl o0 b0 n0 x0), (7, vi (↑x0.length : Int)), (8, vi (wI (i0 + 1))), (9, V.bool true), (53, V.bool false)], hp := [(16, Ob.var [vu i1, vi i2, V.str s0])], nx := 204 }) :=
  byL (k := k) (d := 2) [Hn.br 9 true, Hn.op 11 ((V.agg [vu i1, vi i2, V.str s0]).cpt 0) [], Hn.br 16 true, Hn.br 25 false, Hn.br 28 false, Hn.br 42 false] (aI c0 (aI c1 (aI c2 (aI c3 (aI c4 (aI c5 trivial)))))) (by kernel_rfl)
theorem L58_0_b8h (i0 i1 i2 : Int) (b0 : Bool) (s0 : List UInt8) (x0 : List V) (o0 : Option Bool) (n0 : Nat) : head 0 [0, 2, 6, 7, 8] (Try.cfg.fc 58).acc { tm := [(0, V.sl o0 b0 n0 x0), (2, V.bool false), (3, vi i0), (4, V.ptr 16 0), (5, V.bool (decide ((↑s0.length : Int) = 32))), (6, V.sl o0 b0 n0 x0), (7, vi (↑x0.length : Int)), (8, vi (wI (i0 + 1))), (9, V.bool true), (53, V.bool false)], hp := [(16, Ob.var [vu i1, vi i2, V.str s0])], nx := 204 } = { tm := [(0, V.sl o0 b0 n0 x0), (2, V.bool false), (6, V.sl o0 b0 n0 x0), (7, vi (↑x0.length : Int)), (8, vi (wI (i0 + 1)))], hp := [], nx := 0 } := by kernel_rfl
theorem L58_0_b9 (i0 i1 i2 : Int) (b0 : Bool) (s0 : List UInt8) (x0 : List V) (o0 : Option Bool) (n0 k : Nat)
    (c0 : decide (i0 < (↑x0.length : Int)) = true)
    (c1 : IdxP x0 i0 n0 3 (V.agg [vu i1, vi i2, V.str s0]))
    (c2 : decide (i2 = 1) = false)
    (c3 : decide (576460752303423488 ≤ i1) = true) :
    eC k 2 0 58 (loopBody Try.f58 0) { tm := [(0, V.sl o0 b0 n0 x0), (2, V.bool false), (6, V.sl o0 b0 n0 x0), (7, vi (↑x0.length : Int)), (8, vi i0)], hp := [], nx := 0 } = some (Exit.ret, { tm := [(0, V.sl o0 b0 n0 x0), (2, V.bool false), (3, vi i0), (4, V.ptr 16 0), (5, V.bool false), (6, V.sl o0 b0 n0 x0), (7, vi (↑x0.length : Int)), (8, vi i0), (9, V.bool true), (53, V.bool true)], hp := [(16, Ob.var [vu i1, vi i2, V.str s0])], nx := 200 }) :=
  byL (k := k) (d := 2) [Hn.br 9 true, Hn.op 11 ((V.agg [vu i1, vi i2, V.str s0]).cpt 0) [], Hn.br 16 false, Hn.br 25 true] (aI c0 (aI c1 (aI c2 (aI c3 trivial)))) (by kernel_rfl)
theorem L58_0_b10 (i0 i1 i2 : Int) (b0 : Bool) (s0 : List UInt8) (x0 : List V) (o0 : Option Bool) (n0 k : Nat)
    (c0 : decide (i0 < (↑x0.length : Int)) = true)
    (c1 : IdxP x0 i0 n0 3 (V.agg [vu i1, vi i2, V.str s0]))
    (c2 : decide (i2 = 1) = false)
    (c3 : decide (576460752303423488 ≤ i1) = false)
    (c4 : (!decide (i2 = 2)) = true) :
    eC k 2 0 58 (loopBody Try.f58 0) { tm := [(0, V.sl o0 b0 n0 x0), (2, V.bool false), (6, V.sl o0 b0 n0 x0), (7, vi (↑x0.length : Int)), (8, vi i0)], hp := [], nx := 0 } = some (Exit.ret, { tm := [(0, V.sl o0 b0 n0 x0), (2, V.bool false), (3, vi i0), (4, V.ptr 16 0), (5, V.bool false), (6, V.sl o0 b0 n0 x0), (7, vi (↑x0.length : Int)), (8, vi i0), (9, V.bool true), (53, V.bool true)], hp := [(16, Ob.var [vu i1, vi i2, V.str s0])], nx := 200 }) :=
  byL (k := k) (d := 2) [Hn.br 9 true, Hn.op 11 ((V.agg [vu i1, vi i2, V.str s0]).cpt 0) [], Hn.br 16 false, Hn.br 25 false, Hn.br 32 true] (aI c0 (aI c1 (aI c2 (aI c3 (aI c4 trivial))))) (by kernel_rfl)
theorem L58_0_b11 (i0 i1 i2 : Int) (b0 : Bool) (s0 : List UInt8) (x0 : List V) (o0 : Option Bool) (n0 k : Nat)
    (c0 : decide (i0 < (↑x0.length : Int)) = true)
    (c1 : IdxP x0 i0 n0 3 (V.agg [vu i1, vi i2, V.str s0]))
    (c2 : decide (i2 = 1) = false)
    (c3 : decide (576460752303423488 ≤ i1) = false)
    (c4 : (!decide (i2 = 2)) = false)
    (c5 : (!decide (s0 = [])) = true) :
    eC k 2 0 58 (loopBody Try.f58 0) { tm := [(0, V.sl o0 b0 n0 x0), (2, V.bool false), (6, V.sl o0 b0 n0 x0), (7, vi (↑x0.length : Int)), (8, vi i0)], hp := [], nx := 0 } = some (Exit.ret, { tm := [(0, V.sl o0 b0 n0 x0), (2, V.bool false), (3, vi i0), (4, V.ptr 16 0), (5, V.bool false), (6, V.sl o0 b0 n0 x0), (7, vi (↑x0.length : Int)), (8, vi i0), (9, V.bool true), (53, V.bool true)], hp := [(16, Ob.var [vu i1, vi i2, V.str s0])], nx := 200 }) :=
  byL (k := k) (d := 2) [Hn.br 9 true, Hn.op 11 ((V.agg [vu i1, vi i2, V.str s0]).cpt 0) [], Hn.br 16 false, Hn.br 25 false, Hn.br 32 false, Hn.br 39 true] (aI c0 (aI c1 (aI c2 (aI c3 (aI c4 (aI c5 trivial)))))) (by kernel_rfl)
theorem L58_0_b12 (i0 i1 i2 i3 i4 : Int) (b0 : Bool) (s0 s1 : List UInt8) (x0 : List V) (o0 : Option Bool) (n0 k : Nat)
    (c0 : decide (i0 < (↑x0.length : Int)) = true)
    (c1 : IdxP x0 i0 n0 3 (V.agg [vu i1, vi i2, V.str s0]))
    (c2 : decide (i2 = 1) = false)
    (c3 : decide (576460752303423488 ≤ i1) = false)
    (c4 : (!decide (i2 = 2)) = false)
    (c5 : (!decide (s0 = [])) = false)
    (c6 : decide (0 < i0) = true)
    (c7 : IdxP x0 (wI (i0 - 1)) n0 3 (V.agg [vu i3, vi i4, V.str s1]))
    (c8 : decide (i1 ≤ i3) = true) :
    eC k 2 0 58 (loopBody Try.f58 0) { tm := [(0, V.sl o0 b0 n0 x0), (2, V.bool false), (6, V.sl o0 b0 n0 x0), (7, vi (↑x0.length : Int)), (8, vi i0)], hp := [], nx := 0 } = some (Exit.ret, { tm := [(0, V.sl o0 b0 n0 x0), (2, V.bool false), (3, vi i0), (4, V.ptr 16 0), (5, V.bool false), (6, V.sl o0 b0 n0 x0), (7, vi (↑x0.length : Int)), (8, vi i0), (9, V.bool true), (53, V.bool true)], hp := [(16, Ob.var [vu i1, vi i2, V.str s0])], nx := 200 }) :=
  byL (k := k) (d := 2) [Hn.br 9 true, Hn.op 11 ((V.agg [vu i1, vi i2, V.str s0]).cpt 0) [], Hn.br 16 false, Hn.br 25 false, Hn.br 32 false, Hn.br 39 false, Hn.br 42 true, Hn.op 46 ((V.agg [vu i3, vi i4, V.str s1]).cpt 0) [], Hn.br 53 true] (aI c0 (aI c1 (aI c2 (aI c3 (aI c4 (aI c5 (aI c6 (aI c7 (aI c8 trivial))))))))) (by kernel_rfl)
theorem L58_0_b13 (i0 i1 i2 i3 i4 : Int) (b0 : Bool) (s0 s1 : List UInt8) (x0 : List V) (o0 : Option Bool) (n0 k : Nat)
    (c0 : decide (i0 < (↑x0.length : Int)) = true)
    (c1 : IdxP x0 i0 n0 3 (V.agg [vu i1, vi i2, V.str s0]))
    (c2 : decide (i2 = 1) = false)
    (c3 : decide (576460752303423488 ≤ i1) = false)
    (c4 : (!decide (i2 = 2)) = false)
    (c5 : (!decide (s0 = [])) = false)
    (c6 : decide (0 < i0) = true)
    (c7 : IdxP x0 (wI (i0 - 1)) n0 3 (V.agg [vu i3, vi i4, V.str s1]))
    (c8 : decide (i1 ≤ i3) = false) :
    eC k 2 0 58 (loopBody Try.f58 0) { tm := [(0, V.sl o0 b0 n0 x0), (2, V.bool false), (6, V.sl o0 b0 n0 x0), (7, vi (↑x0.length : Int)), (8, vi i0)], hp := [], nx := 0 } = some (Exit.normal, { tm := [(0, V.sl o0 b0 n0 x0), (2, V.bool false), (3, vi i0), (4, V.ptr 16 0), (5, V.bool false), (6, V.sl o0 b0 n0 x0), (7, vi (↑x0.length : Int)), (8, vi (wI (i0 + 1))), (9, V.bool true), (53, V.bool false)], hp := [(16, Ob.var [vu i1, vi i2, V.str s0])], nx := 204 }) :=
  byL (k := k) (d := 2) [Hn.br 9 true, Hn.op 11 ((V.agg [vu i1, vi i2, V.str s0]).cpt 0) [], Hn.br 16 false, Hn.br 25 false, Hn.br 32 false, Hn.br 39 false, Hn.br 42 true, Hn.op 46 ((V.agg [vu i3, vi i4, V.str s1]).cpt 0) [], Hn.br 53 false] (aI c0 (aI c1 (aI c2 (aI c3 (aI c4 (aI c5 (aI c6 (aI c7 (aI c8 trivial))))))))) (by kernel_rfl)
theorem L58_0_b13h (i0 i1 i2 : Int) (b0 : Bool) (s0 : List UInt8) (x0 : List V) (o0 : Option Bool) (n0 : Nat) : head 0 [0, 2, 6, 7, 8] (Try.cfg.fc 58).acc { tm := [(0, V.sl o0 b0 n0 x0), (2, V.bool false), (3, vi i0), (4, V.ptr 16 0), (5, V.bool false), (6, V.sl o0 b0 n0 x0), (7, vi (↑x0.length : Int)), (8, vi (wI (i0 + 1))), (9, V.bool true), (53, V.bool false)], hp := [(16, Ob.var [vu i1, vi i2, V.str s0])], nx := 204 } = { tm := [(0, V.sl o0 b0 n0 x0), (2, V.bool false), (6, V.sl o0 b0 n0 x0), (7, vi (↑x0.length : Int)), (8, vi (wI (i0 + 1)))], hp := [], nx := 0 } := by kernel_rfl
theorem L58_0_b14 (i0 i1 i2 : Int) (b0 : Bool) (s0 : List UInt8) (x0 : List V) (o0 : Option Bool) (n0 k : Nat)
    (c0 : decide (i0 < (↑x0.length : Int)) = true)
    (c1 : IdxP x0 i0 n0 3 (V.agg [vu i1, vi i2, V.str s0]))
    (c2 : decide (i2 = 1) = false)
    (c3 : decide (576460752303423488 ≤ i1) = false)
    (c4 : (!decide (i2 = 2)) = false)
    (c5 : (!decide (s0 = [])) = false)
    (c6 : decide (0 < i0) = false) :
    eC k 2 0 58 (loopBody Try.f58 0) { tm := [(0, V.sl o0 b0 n0 x0), (2, V.bool false), (6, V.sl o0 b0 n0 x0), (7, vi (↑x0.length : Int)), (8, vi i0)], hp := [], nx := 0 } = some (Exit.normal, { tm := [(0, V.sl o0 b0 n0 x0), (2, V.bool false), (3, vi i0), (4, V.ptr 16 0), (5, V.bool false), (6, V.sl o0 b0 n0 x0), (7, vi (↑x0.length : Int)), (8, vi (wI (i0 + 1))), (9, V.bool true), (53, V.bool false)], hp := [(16, Ob.var [vu i1, vi i2, V.str s0])], nx := 204 }) :=
  byL (k := k) (d := 2) [Hn.br 9 true, Hn.op 11 ((V.agg [vu i1, vi i2, V.str s0]).cpt 0) [], Hn.br 16 false, Hn.br 25 false, Hn.br 32 false, Hn.br 39 false, Hn.br 42 false] (aI c0 (aI c1 (aI c2 (aI c3 (aI c4 (aI c5 (aI c6 trivial))))))) (by kernel_rfl)
theorem L58_0_b14h (i0 i1 i2 : Int) (b0 : Bool) (s0 : List UInt8) (x0 : List V) (o0 : Option Bool) (n0 : Nat) : head 0 [0, 2, 6, 7, 8] (Try.cfg.fc 58).acc { tm := [(0, V.sl o0 b0 n0 x0), (2, V.bool false), (3, vi i0), (4, V.ptr 16 0), (5, V.bool false), (6, V.sl o0 b0 n0 x0), (7, vi (↑x0.length : Int)), (8, vi (wI (i0 + 1))), (9, V.bool true), (53, V.bool false)], hp := [(16, Ob.var [vu i1, vi i2, V.str s0])], nx := 204 } = { tm := [(0, V.sl o0 b0 n0 x0), (2, V.bool false), (6, V.sl o0 b0 n0 x0), (7, vi (↑x0.length : Int)), (8, vi (wI (i0 + 1)))], hp := [], nx := 0 } := by kernel_rfl
theorem L58_0_b15 (i0 : Int) (b0 : Bool) (x0 : List V) (o0 : Option Bool) (n0 k : Nat)
    (c0 : decide (i0 < (↑x0.length : Int)) = false) :
    eC k 2 0 58 (loopBody Try.f58 0) { tm := [(0, V.sl o0 b0 n0 x0), (2, V.bool false), (6, V.sl o0 b0 n0 x0), (7, vi (↑x0.length : Int)), (8, vi i0)], hp := [], nx := 0 } = some (Exit.exit 0, { tm := [(0, V.sl o0 b0 n0 x0), (2, V.bool false), (6, V.sl o0 b0 n0 x0), (7, vi (↑x0.length : Int)), (8, vi i0), (9, V.bool false)], hp := [], nx := 4 }) :=
  byL (k := k) (d := 2) [Hn.br 9 false] (aI c0 trivial) (by kernel_rfl)
inductive L58_0_R where
  | e0 (i0 : Int) (i1 : Int) (i2 : Int) (s0 : List UInt8)
  | e1 (i0 : Int) (i1 : Int) (i2 : Int) (s0 : List UInt8)
  | e2 (i0 : Int) (i1 : Int) (i2 : Int) (s0 : List UInt8)
  | e3 (i0 : Int) (i1 : Int) (i2 : Int) (s0 : List UInt8)
  | e4 (i0 : Int) (i1 : Int) (i2 : Int) (s0 : List UInt8)
  | e5 (i0 : Int) (i1 : Int) (i2 : Int) (s0 : List UInt8)
  | e6 (i0 : Int) (i1 : Int) (i2 : Int) (s0 : List UInt8)
  | e7 (i0 : Int) (i1 : Int) (i2 : Int) (s0 : List UInt8)
  | e8 (i0 : Int) (i1 : Int) (i2 : Int) (s0 : List UInt8)
  | e9 (i0 : Int)
noncomputable def L58_0_end (b0 : Bool) (x0 : List V) (o0 : Option Bool) (n0 : Nat) : L58_0_R → Exit × St
  | .e0 i0 i1 i2 s0 => (Exit.ret, { tm := [(0, V.sl o0 b0 n0 x0), (2, V.bool false), (3, V.int .i64 i0), (4, V.ptr 16 0), (5, V.bool (decide ((↑s0.length : Int) = 32))), (6, V.sl o0 b0 n0 x0), (7, V.int .i64 (↑x0.length : Int)), (8, V.int .i64 i0), (9, V.bool true), (53, V.bool true)], hp := [(16, Ob.var [V.int .u64 i1, V.int .i64 i2, V.str s0])], nx := 200 })
  | .e1 i0 i1 i2 s0 => (Exit.ret, { tm := [(0, V.sl o0 b0 n0 x0), (2, V.bool false), (3, V.int .i64 i0), (4, V.ptr 16 0), (5, V.bool (decide ((↑s0.length : Int) = 32))), (6, V.sl o0 b0 n0 x0), (7, V.int .i64 (↑x0.length : Int)), (8, V.int .i64 i0), (9, V.bool true), (53, V.bool true)], hp := [(16, Ob.var [V.int .u64 i1, V.int .i64 i2, V.str s0])], nx := 200 })
  | .e2 i0 i1 i2 s0 => (Exit.ret, { tm := [(0, V.sl o0 b0 n0 x0), (2, V.bool false), (3, V.int .i64 i0), (4, V.ptr 16 0), (5, V.bool (decide ((↑s0.length : Int) = 32))), (6, V.sl o0 b0 n0 x0), (7, V.int .i64 (↑x0.length : Int)), (8, V.int .i64 i0), (9, V.bool true), (53, V.bool true)], hp := [(16, Ob.var [V.int .u64 i1, V.int .i64 i2, V.str s0])], nx := 200 })
  | .e3 i0 i1 i2 s0 => (Exit.ret, { tm := [(0, V.sl o0 b0 n0 x0), (2, V.bool false), (3, V.int .i64 i0), (4, V.ptr 16 0), (5, V.bool (decide ((↑s0.length : Int) = 32))), (6, V.sl o0 b0 n0 x0), (7, V.int .i64 (↑x0.length : Int)), (8, V.int .i64 i0), (9, V.bool true), (53, V.bool true)], hp := [(16, Ob.var [V.int .u64 i1, V.int .i64 i2, V.str s0])], nx := 200 })
  | .e4 i0 i1 i2 s0 => (Exit.ret, { tm := [(0, V.sl o0 b0 n0 x0), (2, V.bool false), (3, V.int .i64 i0), (4, V.ptr 16 0), (5, V.bool (decide ((↑s0.length : Int) = 32))), (6, V.sl o0 b0 n0 x0), (7, V.int .i64 (↑x0.length : Int)), (8, V.int .i64 i0), (9, V.bool true), (53, V.bool true)], hp := [(16, Ob.var [V.int .u64 i1, V.int .i64 i2, V.str s0])], nx := 200 })
  | .e5 i0 i1 i2 s0 => (Exit.ret, { tm := [(0, V.sl o0 b0 n0 x0), (2, V.bool false), (3, V.int .i64 i0), (4, V.ptr 16 0), (5, V.bool false), (6, V.sl o0 b0 n0 x0), (7, V.int .i64 (↑x0.length : Int)), (8, V.int .i64 i0), (9, V.bool true), (53, V.bool true)], hp := [(16, Ob.var [V.int .u64 i1, V.int .i64 i2, V.str s0])], nx := 200 })
  | .e6 i0 i1 i2 s0 => (Exit.ret, { tm := [(0, V.sl o0 b0 n0 x0), (2, V.bool false), (3, V.int .i64 i0), (4, V.ptr 16 0), (5, V.bool false), (6, V.sl o0 b0 n0 x0), (7, V.int .i64 (↑x0.length : Int)), (8, V.int .i64 i0), (9, V.bool true), (53, V.bool true)], hp := [(16, Ob.var [V.int .u64 i1, V.int .i64 i2, V.str s0])], nx := 200 })
  | .e7 i0 i1 i2 s0 => (Exit.ret, { tm := [(0, V.sl o0 b0 n0 x0), (2, V.bool false), (3, V.int .i64 i0), (4, V.ptr 16 0), (5, V.bool false), (6, V.sl o0 b0 n0 x0), (7, V.int .i64 (↑x0.length : Int)), (8, V.int .i64 i0), (9, V.bool true), (53, V.bool true)], hp := [(16, Ob.var [V.int .u64 i1, V.int .i64 i2, V.str s0])], nx := 200 })
  | .e8 i0 i1 i2 s0 => (Exit.ret, { tm := [(0, V.sl o0 b0 n0 x0), (2, V.bool false), (3, V.int .i64 i0), (4, V.ptr 16 0), (5, V.bool false), (6, V.sl o0 b0 n0 x0), (7, V.int .i64 (↑x0.length : Int)), (8, V.int .i64 i0), (9, V.bool true), (53, V.bool true)], hp := [(16, Ob.var [V.int .u64 i1, V.int .i64 i2, V.str s0])], nx := 200 })
  | .e9 i0 => (Exit.exit 0, { tm := [(0, V.sl o0 b0 n0 x0), (2, V.bool false), (6, V.sl o0 b0 n0 x0), (7, V.int .i64 (↑x0.length : Int)), (8, V.int .i64 i0), (9, V.bool false)], hp := [], nx := 4 })
def L58_0 (k : Nat) (b0 : Bool) (x0 : List V) (o0 : Option Bool) (n0 : Nat) : Nat → Int → Option L58_0_R
  | 0, _ => none
  | f + 1, i0 => (bif decide (i0 < (↑x0.length : Int)) then (guardP (n0 = (3 : Nat)) (((at? (x0) (i0)).bind dAu64i64sZ).bind fun (i1, i2, s0) => (bif decide (i2 = 1) then (bif decide (576460752303423488 ≤ i1) then (some (L58_0_R.e0 i0 i1 i2 s0)) else (bif !decide ((↑s0.length : Int) = 32) then (bif !decide (i2 = 2) then (some (L58_0_R.e1 i0 i1 i2 s0)) else (bif !decide (s0 = []) then (some (L58_0_R.e2 i0 i1 i2 s0)) else (bif decide (0 < i0) then (((at? (x0) (IntKind.i64.wrap (i0 - 1))).bind dAu64i64sZ).bind fun (i3, i4, s1) => (bif decide (i1 ≤ i3) then (some (L58_0_R.e3 i0 i1 i2 s0)) else (L58_0 k b0 x0 o0 n0 f (IntKind.i64.wrap (i0 + 1))))) else (L58_0 k b0 x0 o0 n0 f (IntKind.i64.wrap (i0 + 1)))))) else (bif decide (0 < i0) then (((at? (x0) (IntKind.i64.wrap (i0 - 1))).bind dAu64i64sZ).bind fun (i3, i4, s1) => (bif decide (i1 ≤ i3) then (some (L58_0_R.e4 i0 i1 i2 s0)) else (L58_0 k b0 x0 o0 n0 f (IntKind.i64.wrap (i0 + 1))))) else (L58_0 k b0 x0 o0 n0 f (IntKind.i64.wrap (i0 + 1)))))) else (bif decide (576460752303423488 ≤ i1) then (some (L58_0_R.e5 i0 i1 i2 s0)) else (bif !decide (i2 = 2) then (some (L58_0_R.e6 i0 i1 i2 s0)) else (bif !decide (s0 = []) then (some (L58_0_R.e7 i0 i1 i2 s0)) else (bif decide (0 < i0) then (((at? (x0) (IntKind.i64.wrap (i0 - 1))).bind dAu64i64sZ).bind fun (i3, i4, s1) => (bif decide (i1 ≤ i3) then (some (L58_0_R.e8 i0 i1 i2 s0)) else (L58_0 k b0 x0 o0 n0 f (IntKind.i64.wrap (i0 + 1))))) else (L58_0 k b0 x0 o0 n0 f (IntKind.i64.wrap (i0 + 1)))))))))) else (some (L58_0_R.e9 i0)))
theorem L58_0_ok {b0 : Bool} {x0 : List V} {o0 : Option Bool} {n0 k : Nat} : ∀ {f : Nat} {i0 : Int} {r : L58_0_R}, L58_0 k b0 x0 o0 n0 f i0 = some r →
    LoopsN Try.prog Try.cfg (k + 2) 0 Try.f58 (Try.cfg.fc 58) 0 [0, 2, 6, 7, 8] f { tm := [(0, V.sl o0 b0 n0 x0), (2, V.bool false), (6, V.sl o0 b0 n0 x0), (7, vi (↑x0.length : Int)), (8, vi i0)], hp := [], nx := 0 } (L58_0_end b0 x0 o0 n0 r) := by
  intro f
  induction f with
  | zero => intro i0 r h; cases h
  | succ f ih =>
    intro i0 r h
    rw [L58_0] at h
    rcases cond_elim h with ⟨e0, h⟩ | ⟨e0, h⟩
    ·
      obtain ⟨e1, h⟩ := guardP_some.1 h
      obtain ⟨⟨i1, i2, s0⟩, e2, h⟩ := bE h
      rcases cond_elim h with ⟨e3, h⟩ | ⟨e3, h⟩
      ·
        rcases cond_elim h with ⟨e4, h⟩ | ⟨e4, h⟩
        ·
          cases h; exact LoopsN.done (L58_0_b0 i0 i1 i2 b0 s0 x0 o0 n0 k e0 (IdxP.of_at' (at_d dAu64i64sZ_ok e2 :) e1) e3 e4) (fun h => by cases h)
        ·
          rcases cond_elim h with ⟨e5, h⟩ | ⟨e5, h⟩
          ·
            rcases cond_elim h with ⟨e6, h⟩ | ⟨e6, h⟩
            ·
              cases h; exact LoopsN.done (L58_0_b1 i0 i1 i2 b0 s0 x0 o0 n0 k e0 (IdxP.of_at' (at_d dAu64i64sZ_ok e2 :) e1) e3 e4 e5 e6) (fun h => by cases h)
            ·
              rcases cond_elim h with ⟨e7, h⟩ | ⟨e7, h⟩
              ·
                cases h; exact LoopsN.done (L58_0_b2 i0 i1 i2 b0 s0 x0 o0 n0 k e0 (IdxP.of_at' (at_d dAu64i64sZ_ok e2 :) e1) e3 e4 e5 e6 e7) (fun h => by cases h)
              ·
                rcases cond_elim h with ⟨e8, h⟩ | ⟨e8, h⟩
                ·
                  obtain ⟨⟨i3, i4, s1⟩, e9, h⟩ := bE h
                  rcases cond_elim h with ⟨e10, h⟩ | ⟨e10, h⟩
                  ·
                    cases h; exact LoopsN.done (L58_0_b3 i0 i1 i2 i3 i4 b0 s0 s1 x0 o0 n0 k e0 (IdxP.of_at' (at_d dAu64i64sZ_ok e2 :) e1) e3 e4 e5 e6 e7 e8 (IdxP.of_at' (at_d dAu64i64sZ_ok e9 :) e1) e10) (fun h => by cases h)
                  ·
                    exact LoopsN.next (L58_0_b4 i0 i1 i2 i3 i4 b0 s0 s1 x0 o0 n0 k e0 (IdxP.of_at' (at_d dAu64i64sZ_ok e2 :) e1) e3 e4 e5 e6 e7 e8 (IdxP.of_at' (at_d dAu64i64sZ_ok e9 :) e1) e10) (L58_0_b4h i0 i1 i2 b0 s0 x0 o0 n0) (ih h)
                ·
                  exact LoopsN.next (L58_0_b5 i0 i1 i2 b0 s0 x0 o0 n0 k e0 (IdxP.of_at' (at_d dAu64i64sZ_ok e2 :) e1) e3 e4 e5 e6 e7 e8) (L58_0_b5h i0 i1 i2 b0 s0 x0 o0 n0) (ih h)
          ·
            rcases cond_elim h with ⟨e6, h⟩ | ⟨e6, h⟩
            ·
              obtain ⟨⟨i3, i4, s1⟩, e7, h⟩ := bE h
              rcases cond_elim h with ⟨e8, h⟩ | ⟨e8, h⟩
              ·
                cases h; exact LoopsN.done (L58_0_b6 i0 i1 i2 i3 i4 b0 s0 s1 x0 o0 n0 k e0 (IdxP.of_at' (at_d dAu64i64sZ_ok e2 :) e1) e3 e4 e5 e6 (IdxP.of_at' (at_d dAu64i64sZ_ok e7 :) e1) e8) (fun h => by cases h)
              ·
                exact LoopsN.next (L58_0_b7 i0 i1 i2 i3 i4 b0 s0 s1 x0 o0 n0 k e0 (IdxP.of_at' (at_d dAu64i64sZ_ok e2 :) e1) e3 e4 e5 e6 (IdxP.of_at' (at_d dAu64i64sZ_ok e7 :) e1) e8) (L58_0_b7h i0 i1 i2 b0 s0 x0 o0 n0) (ih h)
            ·
              exact LoopsN.next (L58_0_b8 i0 i1 i2 b0 s0 x0 o0 n0 k e0 (IdxP.of_at' (at_d dAu64i64sZ_ok e2 :) e1) e3 e4 e5 e6) (L58_0_b8h i0 i1 i2 b0 s0 x0 o0 n0) (ih h)
      ·
        rcases cond_elim h with ⟨e4, h⟩ | ⟨e4, h⟩
        ·
          cases h; exact LoopsN.done (L58_0_b9 i0 i1 i2 b0 s0 x0 o0 n0 k e0 (IdxP.of_at' (at_d dAu64i64sZ_ok e2 :) e1) e3 e4) (fun h => by cases h)
        ·
          rcases cond_elim h with ⟨e5, h⟩ | ⟨e5, h⟩
          ·
            cases h; exact LoopsN.done (L58_0_b10 i0 i1 i2 b0 s0 x0 o0 n0 k e0 (IdxP.of_at' (at_d dAu64i64sZ_ok e2 :) e1) e3 e4 e5) (fun h => by cases h)
          ·
            rcases cond_elim h with ⟨e6, h⟩ | ⟨e6, h⟩
            ·
              cases h; exact LoopsN.done (L58_0_b11 i0 i1 i2 b0 s0 x0 o0 n0 k e0 (IdxP.of_at' (at_d dAu64i64sZ_ok e2 :) e1) e3 e4 e5 e6) (fun h => by cases h)
            ·
              rcases cond_elim h with ⟨e7, h⟩ | ⟨e7, h⟩
              ·
                obtain ⟨⟨i3, i4, s1⟩, e8, h⟩ := bE h
                rcases cond_elim h with ⟨e9, h⟩ | ⟨e9, h⟩
                ·
                  cases h; exact LoopsN.done (L58_0_b12 i0 i1 i2 i3 i4 b0 s0 s1 x0 o0 n0 k e0 (IdxP.of_at' (at_d dAu64i64sZ_ok e2 :) e1) e3 e4 e5 e6 e7 (IdxP.of_at' (at_d dAu64i64sZ_ok e8 :) e1) e9) (fun h => by cases h)
                ·
                  exact LoopsN.next (L58_0_b13 i0 i1 i2 i3 i4 b0 s0 s1 x0 o0 n0 k e0 (IdxP.of_at' (at_d dAu64i64sZ_ok e2 :) e1) e3 e4 e5 e6 e7 (IdxP.of_at' (at_d dAu64i64sZ_ok e8 :) e1) e9) (L58_0_b13h i0 i1 i2 b0 s0 x0 o0 n0) (ih h)
              ·
                exact LoopsN.next (L58_0_b14 i0 i1 i2 b0 s0 x0 o0 n0 k e0 (IdxP.of_at' (at_d dAu64i64sZ_ok e2 :) e1) e3 e4 e5 e6 e7) (L58_0_b14h i0 i1 i2 b0 s0 x0 o0 n0) (ih h)
    ·
      cases h; exact LoopsN.done (L58_0_b15 i0 b0 x0 o0 n0 k e0) (fun h => by cases h)
theorem P58_0 (i0 : Int) (b0 : Bool) (x0 : List V) (o0 : Option Bool) (n0 k : Nat)
    (c0 : LoopsN Try.prog Try.cfg (k + 2) 0 Try.f58 (Try.cfg.fc 58) 0 [0, 2, 6, 7, 8] (k + 2) { tm := [(0, V.sl o0 b0 n0 x0), (2, V.bool false), (6, V.sl o0 b0 n0 x0), (7, vi (↑x0.length : Int)), (8, vi 0)], hp := [], nx := 0 } (Exit.exit 0, { tm := [(0, V.sl o0 b0 n0 x0), (2, V.bool false), (6, V.sl o0 b0 n0 x0), (7, vi (↑x0.length : Int)), (8, vi i0), (9, V.bool false)], hp := [], nx := 4 })) :
    cP ((k + 3)) 58 [V.sl o0 b0 n0 x0] = some (V.bool (decide ((↑x0.length : Int) ≤ 64))) :=
  byF (k := k) (d := 3) [Hn.loop (Exit.exit 0, { tm := [(0, V.sl o0 b0 n0 x0), (2, V.bool false), (6, V.sl o0 b0 n0 x0), (7, vi (↑x0.length : Int)), (8, vi i0), (9, V.bool false)], hp := [], nx := 4 })] (aI c0 trivial) (by kernel_rfl)
theorem P58_1 (i0 i1 i2 : Int) (b0 : Bool) (s0 : List UInt8) (x0 : List V) (o0 : Option Bool) (n0 k : Nat)
    (c0 : LoopsN Try.prog Try.cfg (k + 2) 0 Try.f58 (Try.cfg.fc 58) 0 [0, 2, 6, 7, 8] (k + 2) { tm := [(0, V.sl o0 b0 n0 x0), (2, V.bool false), (6, V.sl o0 b0 n0 x0), (7, vi (↑x0.length : Int)), (8, vi 0)], hp := [], nx := 0 } (Exit.ret, { tm := [(0, V.sl o0 b0 n0 x0), (2, V.bool false), (3, vi i0), (4, V.ptr 16 0), (5, V.bool false), (6, V.sl o0 b0 n0 x0), (7, vi (↑x0.length : Int)), (8, vi i0), (9, V.bool true), (53, V.bool true)], hp := [(16, Ob.var [vu i1, vi i2, V.str s0])], nx := 200 })) :
    cP ((k + 3)) 58 [V.sl o0 b0 n0 x0] = some (V.bool false) :=
  byF (k := k) (d := 3) [Hn.loop (Exit.ret, { tm := [(0, V.sl o0 b0 n0 x0), (2, V.bool false), (3, vi i0), (4, V.ptr 16 0), (5, V.bool false), (6, V.sl o0 b0 n0 x0), (7, vi (↑x0.length : Int)), (8, vi i0), (9, V.bool true), (53, V.bool true)], hp := [(16, Ob.var [vu i1, vi i2, V.str s0])], nx := 200 })] (aI c0 trivial) (by kernel_rfl)
theorem P58_2 (i0 i1 i2 : Int) (b0 : Bool) (s0 : List UInt8) (x0 : List V) (o0 : Option Bool) (n0 k : Nat)
    (c0 : LoopsN Try.prog Try.cfg (k + 2) 0 Try.f58 (Try.cfg.fc 58) 0 [0, 2, 6, 7, 8] (k + 2) { tm := [(0, V.sl o0 b0 n0 x0), (2, V.bool false), (6, V.sl o0 b0 n0 x0), (7, vi (↑x0.length : Int)), (8, vi 0)], hp := [], nx := 0 } (Exit.ret, { tm := [(0, V.sl o0 b0 n0 x0), (2, V.bool false), (3, vi i0), (4, V.ptr 16 0), (5, V.bool false), (6, V.sl o0 b0 n0 x0), (7, vi (↑x0.length : Int)), (8, vi i0), (9, V.bool true), (53, V.bool true)], hp := [(16, Ob.var [vu i1, vi i2, V.str s0])], nx := 200 })) :
    cP ((k + 3)) 58 [V.sl o0 b0 n0 x0] = some (V.bool false) :=
  byF (k := k) (d := 3) [Hn.loop (Exit.ret, { tm := [(0, V.sl o0 b0 n0 x0), (2, V.bool false), (3, vi i0), (4, V.ptr 16 0), (5, V.bool false), (6, V.sl o0 b0 n0 x0), (7, vi (↑x0.length : Int)), (8, vi i0), (9, V.bool true), (53, V.bool true)], hp := [(16, Ob.var [vu i1, vi i2, V.str s0])], nx := 200 })] (aI c0 trivial) (by kernel_rfl)
theorem P58_3 (i0 i1 i2 : Int) (b0 : Bool) (s0 : List UInt8) (x0 : List V) (o0 : Option Bool) (n0 k : Nat)
    (c0 : LoopsN Try.prog Try.cfg (k + 2) 0 Try.f58 (Try.cfg.fc 58) 0 [0, 2, 6, 7, 8] (k + 2) { tm := [(0, V.sl o0 b0 n0 x0), (2, V.bool false), (6, V.sl o0 b0 n0 x0), (7, vi (↑x0.length : Int)), (8, vi 0)], hp := [], nx := 0 } (Exit.ret, { tm := [(0, V.sl o0 b0 n0 x0), (2, V.bool false), (3, vi i0), (4, V.ptr 16 0), (5, V.bool false), (6, V.sl o0 b0 n0 x0), (7, vi (↑x0.length : Int)), (8, vi i0), (9, V.bool true), (53, V.bool true)], hp := [(16, Ob.var [vu i1, vi i2, V.str s0])], nx := 200 })) :
    cP ((k + 3)) 58 [V.sl o0 b0 n0 x0] = some (V.bool false) :=
  byF (k := k) (d := 3) [Hn.loop (Exit.ret, { tm := [(0, V.sl o0 b0 n0 x0), (2, V.bool false), (3, vi i0), (4, V.ptr 16 0), (5, V.bool false), (6, V.sl o0 b0 n0 x0), (7, vi (↑x0.length : Int)), (8, vi i0), (9, V.bool true), (53, V.bool true)], hp := [(16, Ob.var [vu i1, vi i2, V.str s0])], nx := 200 })] (aI c0 trivial) (by kernel_rfl)
theorem P58_4 (i0 i1 i2 : Int) (b0 : Bool) (s0 : List UInt8) (x0 : List V) (o0 : Option Bool) (n0 k : Nat)
    (c0 : LoopsN Try.prog Try.cfg (k + 2) 0 Try.f58 (Try.cfg.fc 58) 0 [0, 2, 6, 7, 8] (k + 2) { tm := [(0, V.sl o0 b0 n0 x0), (2, V.bool false), (6, V.sl o0 b0 n0 x0), (7, vi (↑x0.length : Int)), (8, vi 0)], hp := [], nx := 0 } (Exit.ret, { tm := [(0, V.sl o0 b0 n0 x0), (2, V.bool false), (3, vi i0), (4, V.ptr 16 0), (5, V.bool false), (6, V.sl o0 b0 n0 x0), (7, vi (↑x0.length : Int)), (8, vi i0), (9, V.bool true), (53, V.bool true)], hp := [(16, Ob.var [vu i1, vi i2, V.str s0])], nx := 200 })) :
    cP ((k + 3)) 58 [V.sl o0 b0 n0 x0] = some (V.bool false) :=
  byF (k := k) (d := 3) [Hn.loop (Exit.ret, { tm := [(0, V.sl o0 b0 n0 x0), (2, V.bool false), (3, vi i0), (4, V.ptr 16 0), (5, V.bool false), (6, V.sl o0 b0 n0 x0), (7, vi (↑x0.length : Int)), (8, vi i0), (9, V.bool true), (53, V.bool true)], hp := [(16, Ob.var [vu i1, vi i2, V.str s0])], nx := 200 })] (aI c0 trivial) (by kernel_rfl)
theorem P58_5 (i0 i1 i2 : Int) (b0 : Bool) (s0 : List UInt8) (x0 : List V) (o0 : Option Bool) (n0 k : Nat)
    (c0 : LoopsN Try.prog Try.cfg (k + 2) 0 Try.f58 (Try.cfg.fc 58) 0 [0, 2, 6, 7, 8] (k + 2) { tm := [(0, V.sl o0 b0 n0 x0), (2, V.bool false), (6, V.sl o0 b0 n0 x0), (7, vi (↑x0.length : Int)), (8, vi 0)], hp := [], nx := 0 } (Exit.ret, { tm := [(0, V.sl o0 b0 n0 x0), (2, V.bool false), (3, vi i0), (4, V.ptr 16 0), (5, V.bool (decide ((↑s0.length : Int) = 32))), (6, V.sl o0 b0 n0 x0), (7, vi (↑x0.length : Int)), (8, vi i0), (9, V.bool true), (53, V.bool true)], hp := [(16, Ob.var [vu i1, vi i2, V.str s0])], nx := 200 })) :
    cP ((k + 3)) 58 [V.sl o0 b0 n0 x0] = some (V.bool false) :=
  byF (k := k) (d := 3) [Hn.loop (Exit.ret, { tm := [(0, V.sl o0 b0 n0 x0), (2, V.bool false), (3, vi i0), (4, V.ptr 16 0), (5, V.bool (decide ((↑s0.length : Int) = 32))), (6, V.sl o0 b0 n0 x0), (7, vi (↑x0.length : Int)), (8, vi i0), (9, V.bool true), (53, V.bool true)], hp := [(16, Ob.var [vu i1, vi i2, V.str s0])], nx := 200 })] (aI c0 trivial) (by kernel_rfl)
theorem P58_6 (i0 i1 i2 : Int) (b0 : Bool) (s0 : List UInt8) (x0 : List V) (o0 : Option Bool) (n0 k : Nat)
    (c0 : LoopsN Try.prog Try.cfg (k + 2) 0 Try.f58 (Try.cfg.fc 58) 0 [0, 2, 6, 7, 8] (k + 2) { tm := [(0, V.sl o0 b0 n0 x0), (2, V.bool false), (6, V.sl o0 b0 n0 x0), (7, vi (↑x0.length : Int)), (8, vi 0)], hp := [], nx := 0 } (Exit.ret, { tm := [(0, V.sl o0 b0 n0 x0), (2, V.bool false), (3, vi i0), (4, V.ptr 16 0), (5, V.bool (decide ((↑s0.length : Int) = 32))), (6, V.sl o0 b0 n0 x0), (7, vi (↑x0.length : Int)), (8, vi i0), (9, V.bool true), (53, V.bool true)], hp := [(16, Ob.var [vu i1, vi i2, V.str s0])], nx := 200 })) :
    cP ((k + 3)) 58 [V.sl o0 b0 n0 x0] = some (V.bool false) :=
  byF (k := k) (d := 3) [Hn.loop (Exit.ret, { tm := [(0, V.sl o0 b0 n0 x0), (2, V.bool false), (3, vi i0), (4, V.ptr 16 0), (5, V.bool (decide ((↑s0.length : Int) = 32))), (6, V.sl o0 b0 n0 x0), (7, vi (↑x0.length : Int)), (8, vi i0), (9, V.bool true), (53, V.bool true)], hp := [(16, Ob.var [vu i1, vi i2, V.str s0])], nx := 200 })] (aI c0 trivial) (by kernel_rfl)
theorem P58_7 (i0 i1 i2 : Int) (b0 : Bool) (s0 : List UInt8) (x0 : List V) (o0 : Option Bool) (n0 k : Nat)
    (c0 : LoopsN Try.prog Try.cfg (k + 2) 0 Try.f58 (Try.cfg.fc 58) 0 [0, 2, 6, 7, 8] (k + 2) { tm := [(0, V.sl o0 b0 n0 x0), (2, V.bool false), (6, V.sl o0 b0 n0 x0), (7, vi (↑x0.length : Int)), (8, vi 0)], hp := [], nx := 0 } (Exit.ret, { tm := [(0, V.sl o0 b0 n0 x0), (2, V.bool false), (3, vi i0), (4, V.ptr 16 0), (5, V.bool (decide ((↑s0.length : Int) = 32))), (6, V.sl o0 b0 n0 x0), (7, vi (↑x0.length : Int)), (8, vi i0), (9, V.bool true), (53, V.bool true)], hp := [(16, Ob.var [vu i1, vi i2, V.str s0])], nx := 200 })) :
    cP ((k + 3)) 58 [V.sl o0 b0 n0 x0] = some (V.bool false) :=
  byF (k := k) (d := 3) [Hn.loop (Exit.ret, { tm := [(0, V.sl o0 b0 n0 x0), (2, V.bool false), (3, vi i0), (4, V.ptr 16 0), (5, V.bool (decide ((↑s0.length : Int) = 32))), (6, V.sl o0 b0 n0 x0), (7, vi (↑x0.length : Int)), (8, vi i0), (9, V.bool true), (53, V.bool true)], hp := [(16, Ob.var [vu i1, vi i2, V.str s0])], nx := 200 })] (aI c0 trivial) (by kernel_rfl)
theorem P58_8 (i0 i1 i2 : Int) (b0 : Bool) (s0 : List UInt8) (x0 : List V) (o0 : Option Bool) (n0 k : Nat)
    (c0 : LoopsN Try.prog Try.cfg (k + 2) 0 Try.f58 (Try.cfg.fc 58) 0 [0, 2, 6, 7, 8] (k + 2) { tm := [(0, V.sl o0 b0 n0 x0), (2, V.bool false), (6, V.sl o0 b0 n0 x0), (7, vi (↑x0.length : Int)), (8, vi 0)], hp := [], nx := 0 } (Exit.ret, { tm := [(0, V.sl o0 b0 n0 x0), (2, V.bool false), (3, vi i0), (4, V.ptr 16 0), (5, V.bool (decide ((↑s0.length : Int) = 32))), (6, V.sl o0 b0 n0 x0), (7, vi (↑x0.length : Int)), (8, vi i0), (9, V.bool true), (53, V.bool true)], hp := [(16, Ob.var [vu i1, vi i2, V.str s0])], nx := 200 })) :
    cP ((k + 3)) 58 [V.sl o0 b0 n0 x0] = some (V.bool false) :=
  byF (k := k) (d := 3) [Hn.loop (Exit.ret, { tm := [(0, V.sl o0 b0 n0 x0), (2, V.bool false), (3, vi i0), (4, V.ptr 16 0), (5, V.bool (decide ((↑s0.length : Int) = 32))), (6, V.sl o0 b0 n0 x0), (7, vi (↑x0.length : Int)), (8, vi i0), (9, V.bool true), (53, V.bool true)], hp := [(16, Ob.var [vu i1, vi i2, V.str s0])], nx := 200 })] (aI c0 trivial) (by kernel_rfl)
theorem P58_9 (i0 i1 i2 : Int) (b0 : Bool) (s0 : List UInt8) (x0 : List V) (o0 : Option Bool) (n0 k : Nat)
    (c0 : LoopsN Try.prog Try.cfg (k + 2) 0 Try.f58 (Try.cfg.fc 58) 0 [0, 2, 6, 7, 8] (k + 2) { tm := [(0, V.sl o0 b0 n0 x0), (2, V.bool false), (6, V.sl o0 b0 n0 x0), (7, vi (↑x0.length : Int)), (8, vi 0)], hp := [], nx := 0 } (Exit.ret, { tm := [(0, V.sl o0 b0 n0 x0), (2, V.bool false), (3, vi i0), (4, V.ptr 16 0), (5, V.bool (decide ((↑s0.length : Int) = 32))), (6, V.sl o0 b0 n0 x0), (7, vi (↑x0.length : Int)), (8, vi i0), (9, V.bool true), (53, V.bool true)], hp := [(16, Ob.var [vu i1, vi i2, V.str s0])], nx := 200 })) :
    cP ((k + 3)) 58 [V.sl o0 b0 n0 x0] = some (V.bool false) :=
  byF (k := k) (d := 3) [Hn.loop (Exit.ret, { tm := [(0, V.sl o0 b0 n0 x0), (2, V.bool false), (3, vi i0), (4, V.ptr 16 0), (5, V.bool (decide ((↑s0.length : Int) = 32))), (6, V.sl o0 b0 n0 x0), (7, vi (↑x0.length : Int)), (8, vi i0), (9, V.bool true), (53, V.bool true)], hp := [(16, Ob.var [vu i1, vi i2, V.str s0])], nx := 200 })] (aI c0 trivial) (by kernel_rfl)
def F58 (k : Nat) (o0 : Option Bool) (b0 : Bool) (n0 : Nat) (x0 : List V) : Option (Bool) :=
  ((L58_0 k b0 x0 o0 n0 (k + 2) (0)).bind fun
    | L58_0_R.e0 i0 i1 i2 s0 => (some (false))
    | L58_0_R.e1 i0 i1 i2 s0 => (some (false))
    | L58_0_R.e2 i0 i1 i2 s0 => (some (false))
    | L58_0_R.e3 i0 i1 i2 s0 => (some (false))
    | L58_0_R.e4 i0 i1 i2 s0 => (some (false))
    | L58_0_R.e5 i0 i1 i2 s0 => (some (false))
    | L58_0_R.e6 i0 i1 i2 s0 => (some (false))
    | L58_0_R.e7 i0 i1 i2 s0 => (some (false))
    | L58_0_R.e8 i0 i1 i2 s0 => (some (false))
    | L58_0_R.e9 i0 => (some (decide ((↑x0.length : Int) ≤ 64))))
theorem F58_ok {o0 : Option Bool} {b0 : Bool} {n0 : Nat} {x0 : List V} {k : Nat} {r : Bool} (h : F58 k o0 b0 n0 x0 = some r) :
    cP ((k + 3)) 58 [V.sl o0 b0 n0 x0] = some (V.bool r) := by
  unfold F58 at h
  obtain ⟨ee, e0, h⟩ := bE h
  cases ee with
  | e0 i0 i1 i2 s0 =>
    have h := Option.some.inj h; subst h; exact P58_9 i0 i1 i2 b0 s0 x0 o0 n0 k (L58_0_ok e0)
  | e1 i0 i1 i2 s0 =>
    have h := Option.some.inj h; subst h; exact P58_8 i0 i1 i2 b0 s0 x0 o0 n0 k (L58_0_ok e0)
  | e2 i0 i1 i2 s0 =>
    have h := Option.some.inj h; subst h; exact P58_7 i0 i1 i2 b0 s0 x0 o0 n0 k (L58_0_ok e0)
  | e3 i0 i1 i2 s0 =>
    have h := Option.some.inj h; subst h; exact P58_6 i0 i1 i2 b0 s0 x0 o0 n0 k (L58_0_ok e0)
  | e4 i0 i1 i2 s0 =>
    have h := Option.some.inj h; subst h; exact P58_5 i0 i1 i2 b0 s0 x0 o0 n0 k (L58_0_ok e0)
  | e5 i0 i1 i2 s0 =>
    have h := Option.some.inj h; subst h; exact P58_4 i0 i1 i2 b0 s0 x0 o0 n0 k (L58_0_ok e0)
  | e6 i0 i1 i2 s0 =>
    have h := Option.some.inj h; subst h; exact P58_3 i0 i1 i2 b0 s0 x0 o0 n0 k (L58_0_ok e0)
  | e7 i0 i1 i2 s0 =>
    have h := Option.some.inj h; subst h; exact P58_2 i0 i1 i2 b0 s0 x0 o0 n0 k (L58_0_ok e0)
  | e8 i0 i1 i2 s0 =>
    have h := Option.some.inj h; subst h; exact P58_1 i0 i1 i2 b0 s0 x0 o0 n0 k (L58_0_ok e0)
  | e9 i0 =>
    have h := Option.some.inj h; subst h; exact P58_0 i0 b0 x0 o0 n0 k (L58_0_ok e0)
theorem P81_0 (i0 i1 : Int) (b0 b1 : Bool) (x0 : List V) (o0 : Option Bool) (n0 k : Nat)
    (c0 : cP ((k + 5)) 58 [V.sl o0 b0 n0 x0] = some (V.bool b1))
    (c1 : (!b1) = true) :
    cP ((k + 6)) 81 [V.sl o0 b0 n0 x0, V.agg [vu i0, vu i1]] = some (vi 1) :=
  byF (k := k) (d := 6) [Hn.call 7 (V.bool b1), Hn.br 5 true] (aI c0 (aI c1 trivial)) (by kernel_rfl)
theorem P81_1 (i0 i1 : Int) (b0 b1 : Bool) (x0 : List V) (o0 : Option Bool) (n0 k : Nat)
    (c0 : cP ((k + 5)) 58 [V.sl o0 b0 n0 x0] = some (V.bool b1))
    (c1 : (!b1) = false)
    (c2 : decide (i1 < 1) = true) :
    cP ((k + 6)) 81 [V.sl o0 b0 n0 x0, V.agg [vu i0, vu i1]] = some (vi 4) :=
  byF (k := k) (d := 6) [Hn.call 7 (V.bool b1), Hn.br 5 false, Hn.br 13 true] (aI c0 (aI c1 (aI c2 trivial))) (by kernel_rfl)
theorem P81_2 (i0 i1 : Int) (b0 b1 : Bool) (x0 : List V) (o0 : Option Bool) (n0 k : Nat)
    (c0 : cP ((k + 5)) 58 [V.sl o0 b0 n0 x0] = some (V.bool b1))
    (c1 : (!b1) = false)
    (c2 : decide (i1 < 1) = false)
    (c3 : decide (224 < i1) = true) :
    cP ((k + 6)) 81 [V.sl o0 b0 n0 x0, V.agg [vu i0, vu i1]] = some (vi 4) :=
  byF (k := k) (d := 6) [Hn.call 7 (V.bool b1), Hn.br 5 false, Hn.br 13 false, Hn.br 9 true] (aI c0 (aI c1 (aI c2 (aI c3 trivial)))) (by kernel_rfl)
theorem P81_3 (i0 i1 i2 : Int) (b0 b1 : Bool) (x0 : List V) (o0 : Option Bool) (n0 k : Nat)
    (c0 : cP ((k + 5)) 58 [V.sl o0 b0 n0 x0] = some (V.bool b1))
    (c1 : (!b1) = false)
    (c2 : decide (i1 < 1) = false)
    (c3 : decide (224 < i1) = false)
    (c4 : cP ((k + 5)) 19 [V.agg [vu i0, vu i1]] = some (vi i2)) :
    cP ((k + 6)) 81 [V.sl o0 b0 n0 x0, V.agg [vu i0, vu i1]] = some (vi i2) :=
  byF (k := k) (d := 6) [Hn.call 7 (V.bool b1), Hn.br 5 false, Hn.br 13 false, Hn.br 9 false, Hn.call 19 (vi i2)] (aI c0 (aI c1 (aI c2 (aI c3 (aI c4 trivial))))) (by kernel_rfl)
def F81 (k : Nat) (o0 : Option Bool) (b0 : Bool) (n0 : Nat) (x0 : List V) (i0 i1 : Int) : Option (Int) :=
  ((F58 (k + 2) (o0) (b0) (n0) (x0)).bind fun b1 => (bif !b1 then (some (1)) else (bif decide (i1 < 1) then (some (4)) else (bif decide (224 < i1) then (some (4)) else ((F19 (k + 2) (i0) (i1)).bind fun i2 => (some (i2)))))))
theorem F81_ok {o0 : Option Bool} {b0 : Bool} {n0 : Nat} {x0 : List V} {i0 i1 : Int} {k : Nat} {r : Int} (h : F81 k o0 b0 n0 x0 i0 i1 = some r) :
    cP ((k + 6)) 81 [V.sl o0 b0 n0 x0, V.agg [vu i0, vu i1]] = some (vi r) := by
  unfold F81 at h
  obtain ⟨b1, e0, h⟩ := bE h
  rcases cond_elim h with ⟨e1, h⟩ | ⟨e1, h⟩
  ·
    have h := Option.some.inj h; subst h; exact P81_0 i0 i1 b0 b1 x0 o0 n0 k (F58_ok e0) e1
  ·
    rcases cond_elim h with ⟨e2, h⟩ | ⟨e2, h⟩
    ·
      have h := Option.some.inj h; subst h; exact P81_1 i0 i1 b0 b1 x0 o0 n0 k (F58_ok e0) e1 e2
    ·
      rcases cond_elim h with ⟨e3, h⟩ | ⟨e3, h⟩
      ·
        have h := Option.some.inj h; subst h; exact P81_2 i0 i1 b0 b1 x0 o0 n0 k (F58_ok e0) e1 e2 e3
      ·
        obtain ⟨i2, e4, h⟩ := bE h
        have h := Option.some.inj h; subst h; exact P81_3 i0 i1 i2 b0 b1 x0 o0 n0 k (F58_ok e0) e1 e2 e3 (F19_ok e4)
theorem L98_0_b0 (i0 i1 i2 i3 i4 i5 : Int) (b0 : Bool) (s0 : List UInt8) (x0 : List V) (o0 : Option Bool) (n0 k : Nat)
    (c0 : decide (i1 < i2) = true)
    (c1 : IdxP x0 (wI ((wU (wI (i1 + i2))).fdiv (2 ^ min (Int.toNat 1) IntKind.u64.bits))) n0 3 (V.agg [vu i3, vi i4, V.str s0]))
    (c2 : cP ((k + 10)) 121 [V.agg [vu i3, vi i4, V.str s0], vu i0] = some (vi i5))
    (c3 : decide (i5 < 0) = true) :
    eC k 10 12 120 (loopBody Try.f120 0) { tm := [(0, V.sl o0 b0 n0 x0), (1, vu i0), (2, V.fn (Fn.func 121) [] []), (6, vi 0), (7, V.bool false), (8, vi (↑x0.length : Int)), (9, vi i1), (10, vi i2)], hp := [(0, Ob.var [vu 0, vi 0, V.str []])], nx := 12 } = some (Exit.normal, { tm := [(0, V.sl o0 b0 n0 x0), (1, vu i0), (2, V.fn (Fn.func 121) [] []), (6, vi 0), (7, V.bool false), (8, vi (↑x0.length : Int)), (9, vi (wI (wI ((wU (wI (i1 + i2))).fdiv (2 ^ min (Int.toNat 1) IntKind.u64.bits)) + 1))), (10, vi i2), (11, vi (wI ((wU (wI (i1 + i2))).fdiv (2 ^ min (Int.toNat 1) IntKind.u64.bits)))), (17, V.bool true), (31, V.bool true)], hp := [(0, Ob.var [vu 0, vi 0, V.str []])], nx := 96 }) :=
  byL (k := k) (d := 10) [Hn.br 17 true, Hn.op 27 ((V.agg [vu i3, vi i4, V.str s0]).cpt 0) [], Hn.call 30 (vi i5), Hn.br 31 true] (aI c0 (aI c1 (aI c2 (aI c3 trivial)))) (by kernel_rfl)
theorem L98_0_b0h (i0 i1 i2 : Int) (b0 : Bool) (x0 : List V) (o0 : Option Bool) (n0 : Nat) : head 12 [0, 1, 2, 6, 7, 8, 9, 10] (Try.cfg.fc 120).acc { tm := [(0, V.sl o0 b0 n0 x0), (1, vu i0), (2, V.fn (Fn.func 121) [] []), (6, vi 0), (7, V.bool false), (8, vi (↑x0.length : Int)), (9, vi (wI (wI ((wU (wI (i1 + i2))).fdiv (2 ^ min (Int.toNat 1) IntKind.u64.bits)) + 1))), (10, vi i2), (11, vi (wI ((wU (wI (i1 + i2))).fdiv (2 ^ min (Int.toNat 1) IntKind.u64.bits)))), (17, V.bool true), (31, V.bool true)], hp := [(0, Ob.var [vu 0, vi 0, V.str []])], nx := 96 } = { tm := [(0, V.sl o0 b0 n0 x0), (1, vu i0), (2, V.fn (Fn.func 121) [] []), (6, vi 0), (7, V.bool false), (8, vi (↑x0.length : Int)), (9, vi (wI (wI ((wU (wI (i1 + i2))).fdiv (2 ^ min (Int.toNat 1) IntKind.u64.bits)) + 1))), (10, vi i2)], hp := [(0, Ob.var [vu 0, vi 0, V.str []])], nx := 12 } := by kernel_rfl
theorem L98_0_b1 (i0 i1 i2 i3 i4 i5 : Int) (b0 : Bool) (s0 : List UInt8) (x0 : List V) (o0 : Option Bool) (n0 k : Nat)
    (c0 : decide (i1 < i2) = true)
    (c1 : IdxP x0 (wI ((wU (wI (i1 + i2))).fdiv (2 ^ min (Int.toNat 1) IntKind.u64.bits))) n0 3 (V.agg [vu i3, vi i4, V.str s0]))
    (c2 : cP ((k + 10)) 121 [V.agg [vu i3, vi i4, V.str s0], vu i0] = some (vi i5))
    (c3 : decide (i5 < 0) = false) :
    eC k 10 12 120 (loopBody Try.f120 0) { tm := [(0, V.sl o0 b0 n0 x0), (1, vu i0), (2, V.fn (Fn.func 121) [] []), (6, vi 0), (7, V.bool false), (8, vi (↑x0.length : Int)), (9, vi i1), (10, vi i2)], hp := [(0, Ob.var [vu 0, vi 0, V.str []])], nx := 12 } = some (Exit.normal, { tm := [(0, V.sl o0 b0 n0 x0), (1, vu i0), (2, V.fn (Fn.func 121) [] []), (6, vi 0), (7, V.bool false), (8, vi (↑x0.length : Int)), (9, vi i1), (10, vi (wI ((wU (wI (i1 + i2))).fdiv (2 ^ min (Int.toNat 1) IntKind.u64.bits)))), (11, vi (wI ((wU (wI (i1 + i2))).fdiv (2 ^ min (Int.toNat 1) IntKind.u64.bits)))), (17, V.bool true), (31, V.bool false)], hp := [(0, Ob.var [vu 0, vi 0, V.str []])], nx := 92 }) :=
  byL (k := k) (d := 10) [Hn.br 17 true, Hn.op 27 ((V.agg [vu i3, vi i4, V.str s0]).cpt 0) [], Hn.call 30 (vi i5), Hn.br 31 false] (aI c0 (aI c1 (aI c2 (aI c3 trivial)))) (by kernel_rfl)
theorem L98_0_b1h (i0 i1 i2 : Int) (b0 : Bool) (x0 : List V) (o0 : Option Bool) (n0 : Nat) : head 12 [0, 1, 2, 6, 7, 8, 9, 10] (Try.cfg.fc 120).acc { tm := [(0, V.sl o0 b0 n0 x0), (1, vu i0), (2, V.fn (Fn.func 121) [] []), (6, vi 0), (7, V.bool false), (8, vi (↑x0.length : Int)), (9, vi i1), (10, vi (wI ((wU (wI (i1 + i2))).fdiv (2 ^ min (Int.toNat 1) IntKind.u64.bits)))), (11, vi (wI ((wU (wI (i1 + i2))).fdiv (2 ^ min (Int.toNat 1) IntKind.u64.bits)))), (17, V.bool true), (31, V.bool false)], hp := [(0, Ob.var [vu 0, vi 0, V.str []])], nx := 92 } = { tm := [(0, V.sl o0 b0 n0 x0), (1, vu i0), (2, V.fn (Fn.func 121) [] []), (6, vi 0), (7, V.bool false), (8, vi (↑x0.length : Int)), (9, vi i1), (10, vi (wI ((wU (wI (i1 + i2))).fdiv (2 ^ min (Int.toNat 1) IntKind.u64.bits))))], hp := [(0, Ob.var [vu 0, vi 0, V.str []])], nx := 12 } := by kernel_rfl
theorem L98_0_b2 (i0 i1 i2 : Int) (b0 : Bool) (x0 : List V) (o0 : Option Bool) (n0 k : Nat)
    (c0 : decide (i1 < i2) = false) :
    eC k 10 12 120 (loopBody Try.f120 0) { tm := [(0, V.sl o0 b0 n0 x0), (1, vu i0), (2, V.fn (Fn.func 121) [] []), (6, vi 0), (7, V.bool false), (8, vi (↑x0.length : Int)), (9, vi i1), (10, vi i2)], hp := [(0, Ob.var [vu 0, vi 0, V.str []])], nx := 12 } = some (Exit.exit 0, { tm := [(0, V.sl o0 b0 n0 x0), (1, vu i0), (2, V.fn (Fn.func 121) [] []), (6, vi 0), (7, V.bool false), (8, vi (↑x0.length : Int)), (9, vi i1), (10, vi i2), (17, V.bool false)], hp := [(0, Ob.var [vu 0, vi 0, V.str []])], nx := 24 }) :=
  byL (k := k) (d := 10) [Hn.br 17 false] (aI c0 trivial) (by kernel_rfl)
inductive L98_0_R where
  | e0 (i1 : Int) (i2 : Int)
noncomputable def L98_0_end (i0 : Int) (b0 : Bool) (x0 : List V) (o0 : Option Bool) (n0 : Nat) : L98_0_R → Exit × St
  | .e0 i1 i2 => (Exit.exit 0, { tm := [(0, V.sl o0 b0 n0 x0), (1, V.int .u64 i0), (2, V.fn (Fn.func 121) [] []), (6, V.int .i64 0), (7, V.bool false), (8, V.int .i64 (↑x0.length : Int)), (9, V.int .i64 i1), (10, V.int .i64 i2), (17, V.bool false)], hp := [(0, Ob.var [V.int .u64 0, V.int .i64 0, V.str []])], nx := 24 })
def L98_0 (k : Nat) (i0 : Int) (b0 : Bool) (x0 : List V) (o0 : Option Bool) (n0 : Nat) : Nat → Int → Int → Option L98_0_R
  | 0, _, _ => none
  | f + 1, i1, i2 => (bif decide (i1 < i2) then (guardP (n0 = (3 : Nat)) (((at? (x0) (IntKind.i64.wrap ((IntKind.u64.wrap (IntKind.i64.wrap (i1 + i2))).fdiv (2 ^ min (Int.toNat 1) IntKind.u64.bits)))).bind dAu64i64sZ).bind fun (i3, i4, s0) => ((F121 (k + 1) (i3) (i4) (s0) (i0)).bind fun i5 => (bif decide (i5 < 0) then (L98_0 k i0 b0 x0 o0 n0 f (IntKind.i64.wrap (IntKind.i64.wrap ((IntKind.u64.wrap (IntKind.i64.wrap (i1 + i2))).fdiv (2 ^ min (Int.toNat 1) IntKind.u64.bits)) + 1)) (i2)) else (L98_0 k i0 b0 x0 o0 n0 f (i1) (IntKind.i64.wrap ((IntKind.u64.wrap (IntKind.i64.wrap (i1 + i2))).fdiv (2 ^ min (Int.toNat 1) IntKind.u64.bits)))))))) else (some (L98_0_R.e0 i1 i2)))
theorem L98_0_ok {i0 : Int} {b0 : Bool} {x0 : List V} {o0 : Option Bool} {n0 k : Nat} : ∀ {f : Nat} {i1 : Int} {i2 : Int} {r : L98_0_R}, L98_0 k i0 b0 x0 o0 n0 f i1 i2 = some r →
    LoopsN Try.prog Try.cfg (k + 10) 12 Try.f120 (Try.cfg.fc 120) 0 [0, 1, 2, 6, 7, 8, 9, 10] f { tm := [(0, V.sl o0 b0 n0 x0), (1, vu i0), (2, V.fn (Fn.func 121) [] []), (6, vi 0), (7, V.bool false), (8, vi (↑x0.length : Int)), (9, vi i1), (10, vi i2)], hp := [(0, Ob.var [vu 0, vi 0, V.str []])], nx := 12 } (L98_0_end i0 b0 x0 o0 n0 r) := by
  intro f
  induction f with
  | zero => intro i1 i2 r h; cases h
  | succ f ih =>
    intro i1 i2 r h
    rw [L98_0] at h
    rcases cond_elim h with ⟨e0, h⟩ | ⟨e0, h⟩
    ·
      obtain ⟨e1, h⟩ := guardP_some.1 h
      obtain ⟨⟨i3, i4, s0⟩, e2, h⟩ := bE h
      obtain ⟨i5, e3, h⟩ := bE h
      rcases cond_elim h with ⟨e4, h⟩ | ⟨e4, h⟩
      ·
        exact LoopsN.next (L98_0_b0 i0 i1 i2 i3 i4 i5 b0 s0 x0 o0 n0 k e0 (IdxP.of_at' (at_d dAu64i64sZ_ok e2 :) e1) (F121_ok e3) e4) (L98_0_b0h i0 i1 i2 b0 x0 o0 n0) (ih h)
      ·
        exact LoopsN.next (L98_0_b1 i0 i1 i2 i3 i4 i5 b0 s0 x0 o0 n0 k e0 (IdxP.of_at' (at_d dAu64i64sZ_ok e2 :) e1) (F121_ok e3) e4) (L98_0_b1h i0 i1 i2 b0 x0 o0 n0) (ih h)
    ·
      cases h; exact LoopsN.done (L98_0_b2 i0 i1 i2 b0 x0 o0 n0 k e0) (fun h => by cases h)
theorem P98_0 (i0 i1 i2 i3 i4 i5 : Int) (b0 : Bool) (s0 : List UInt8) (x0 : List V) (o0 : Option Bool) (n0 k : Nat)
    (c0 : LoopsN Try.prog Try.cfg (k + 10) 12 Try.f120 (Try.cfg.fc 120) 0 [0, 1, 2, 6, 7, 8, 9, 10] (k + 10) { tm := [(0, V.sl o0 b0 n0 x0), (1, vu i0), (2, V.fn (Fn.func 121) [] []), (6, vi 0), (7, V.bool false), (8, vi (↑x0.length : Int)), (9, vi 0), (10, vi (↑x0.length : Int))], hp := [(0, Ob.var [vu 0, vi 0, V.str []])], nx := 12 } (Exit.exit 0, { tm := [(0, V.sl o0 b0 n0 x0), (1, vu i0), (2, V.fn (Fn.func 121) [] []), (6, vi 0), (7, V.bool false), (8, vi (↑x0.length : Int)), (9, vi i1), (10, vi i2), (17, V.bool false)], hp := [(0, Ob.var [vu 0, vi 0, V.str []])], nx := 24 }))
    (c1 : decide (i1 < (↑x0.length : Int)) = true)
    (c2 : IdxP x0 i1 n0 3 (V.agg [vu i3, vi i4, V.str s0]))
    (c3 : cP ((k + 10)) 121 [V.agg [vu i3, vi i4, V.str s0], vu i0] = some (vi i5))
    (c4 : decide (i5 = 0) = true)
    (c5 : IdxP x0 i1 n0 3 (V.agg [vu i3, vi i4, V.str s0])) :
    cP ((k + 12)) 98 [V.sl o0 b0 n0 x0, vu i0] = some (V.agg [vu i3, vi i4, V.str s0]) :=
  byF (k := k) (d := 12) [Hn.enter, Hn.loop (Exit.exit 0, { tm := [(0, V.sl o0 b0 n0 x0), (1, vu i0), (2, V.fn (Fn.func 121) [] []), (6, vi 0), (7, V.bool false), (8, vi (↑x0.length : Int)), (9, vi i1), (10, vi i2), (17, V.bool false)], hp := [(0, Ob.var [vu 0, vi 0, V.str []])], nx := 24 }), Hn.br 39 true, Hn.op 43 ((V.agg [vu i3, vi i4, V.str s0]).cpt 0) [], Hn.call 46 (vi i5), Hn.br 13 true, Hn.op 16 ((V.agg [vu i3, vi i4, V.str s0]).cpt 0) []] (aI c0 (aI c1 (aI c2 (aI c3 (aI c4 (aI c5 trivial)))))) (by kernel_rfl)
theorem P98_1 (i0 i1 i2 i3 i4 i5 : Int) (b0 : Bool) (s0 : List UInt8) (x0 : List V) (o0 : Option Bool) (n0 k : Nat)
    (c0 : LoopsN Try.prog Try.cfg (k + 10) 12 Try.f120 (Try.cfg.fc 120) 0 [0, 1, 2, 6, 7, 8, 9, 10] (k + 10) { tm := [(0, V.sl o0 b0 n0 x0), (1, vu i0), (2, V.fn (Fn.func 121) [] []), (6, vi 0), (7, V.bool false), (8, vi (↑x0.length : Int)), (9, vi 0), (10, vi (↑x0.length : Int))], hp := [(0, Ob.var [vu 0, vi 0, V.str []])], nx := 12 } (Exit.exit 0, { tm := [(0, V.sl o0 b0 n0 x0), (1, vu i0), (2, V.fn (Fn.func 121) [] []), (6, vi 0), (7, V.bool false), (8, vi (↑x0.length : Int)), (9, vi i1), (10, vi i2), (17, V.bool false)], hp := [(0, Ob.var [vu 0, vi 0, V.str []])], nx := 24 }))
    (c1 : decide (i1 < (↑x0.length : Int)) = true)
    (c2 : IdxP x0 i1 n0 3 (V.agg [vu i3, vi i4, V.str s0]))
    (c3 : cP ((k + 10)) 121 [V.agg [vu i3, vi i4, V.str s0], vu i0] = some (vi i5))
    (c4 : decide (i5 = 0) = false) :
    cP ((k + 12)) 98 [V.sl o0 b0 n0 x0, vu i0] = some (V.agg [vu i0, vi 0, V.str []]) :=
  byF (k := k) (d := 12) [Hn.enter, Hn.loop (Exit.exit 0, { tm := [(0, V.sl o0 b0 n0 x0), (1, vu i0), (2, V.fn (Fn.func 121) [] []), (6, vi 0), (7, V.bool false), (8, vi (↑x0.length : Int)), (9, vi i1), (10, vi i2), (17, V.bool false)], hp := [(0, Ob.var [vu 0, vi 0, V.str []])], nx := 24 }), Hn.br 39 true, Hn.op 43 ((V.agg [vu i3, vi i4, V.str s0]).cpt 0) [], Hn.call 46 (vi i5), Hn.br 13 false] (aI c0 (aI c1 (aI c2 (aI c3 (aI c4 trivial))))) (by kernel_rfl)
theorem P98_2 (i0 i1 i2 : Int) (b0 : Bool) (x0 : List V) (o0 : Option Bool) (n0 k : Nat)
    (c0 : LoopsN Try.prog Try.cfg (k + 10) 12 Try.f120 (Try.cfg.fc 120) 0 [0, 1, 2, 6, 7, 8, 9, 10] (k + 10) { tm := [(0, V.sl o0 b0 n0 x0), (1, vu i0), (2, V.fn (Fn.func 121) [] []), (6, vi 0), (7, V.bool false), (8, vi (↑x0.length : Int)), (9, vi 0), (10, vi (↑x0.length : Int))], hp := [(0, Ob.var [vu 0, vi 0, V.str []])], nx := 12 } (Exit.exit 0, { tm := [(0, V.sl o0 b0 n0 x0), (1, vu i0), (2, V.fn (Fn.func 121) [] []), (6, vi 0), (7, V.bool false), (8, vi (↑x0.length : Int)), (9, vi i1), (10, vi i2), (17, V.bool false)], hp := [(0, Ob.var [vu 0, vi 0, V.str []])], nx := 24 }))
    (c1 : decide (i1 < (↑x0.length : Int)) = false) :
    cP ((k + 12)) 98 [V.sl o0 b0 n0 x0, vu i0] = some (V.agg [vu i0, vi 0, V.str []]) :=
  byF (k := k) (d := 12) [Hn.enter, Hn.loop (Exit.exit 0, { tm := [(0, V.sl o0 b0 n0 x0), (1, vu i0), (2, V.fn (Fn.func 121) [] []), (6, vi 0), (7, V.bool false), (8, vi (↑x0.length : Int)), (9, vi i1), (10, vi i2), (17, V.bool false)], hp := [(0, Ob.var [vu 0, vi 0, V.str []])], nx := 24 }), Hn.br 39 false] (aI c0 (aI c1 trivial)) (by kernel_rfl)
def F98 (k : Nat) (o0 : Option Bool) (b0 : Bool) (n0 : Nat) (x0 : List V) (i0 : Int) : Option (Int × Int × List UInt8) :=
  ((L98_0 k i0 b0 x0 o0 n0 (k + 10) (0) ((↑x0.length : Int))).bind fun
    | L98_0_R.e0 i1 i2 => (bif decide (i1 < (↑x0.length : Int)) then (guardP (n0 = (3 : Nat)) (((at? (x0) (i1)).bind dAu64i64sZ).bind fun (i3, i4, s0) => ((F121 (k + 1) (i3) (i4) (s0) (i0)).bind fun i5 => (bif decide (i5 = 0) then (some ((i3), (i4), (s0))) else (some ((i0), (0), ([]))))))) else (some ((i0), (0), ([])))))
theorem F98_ok {o0 : Option Bool} {b0 : Bool} {n0 : Nat} {x0 : List V} {i0 : Int} {k : Nat} {r : Int × Int × List UInt8} (h : F98 k o0 b0 n0 x0 i0 = some r) :
    cP ((k + 12)) 98 [V.sl o0 b0 n0 x0, vu i0] = some (V.agg [vu r.1, vi r.2.1, V.str r.2.2]) := by
  unfold F98 at h
  obtain ⟨ee, e0, h⟩ := bE h
  cases ee with
  | e0 i1 i2 =>
    rcases cond_elim h with ⟨e1, h⟩ | ⟨e1, h⟩
    ·
      obtain ⟨e2, h⟩ := guardP_some.1 h
      obtain ⟨⟨i3, i4, s0⟩, e3, h⟩ := bE h
      obtain ⟨i5, e4, h⟩ := bE h
      rcases cond_elim h with ⟨e5, h⟩ | ⟨e5, h⟩
      ·
        have h := Option.some.inj h; subst h; exact P98_0 i0 i1 i2 i3 i4 i5 b0 s0 x0 o0 n0 k (L98_0_ok e0) e1 (IdxP.of_at' (at_d dAu64i64sZ_ok e3 :) e2) (F121_ok e4) e5 (IdxP.of_at' (at_d dAu64i64sZ_ok e3 :) e2)
      ·
        have h := Option.some.inj h; subst h; exact P98_1 i0 i1 i2 i3 i4 i5 b0 s0 x0 o0 n0 k (L98_0_ok e0) e1 (IdxP.of_at' (at_d dAu64i64sZ_ok e3 :) e2) (F121_ok e4) e5
    ·
      have h := Option.some.inj h; subst h; exact P98_2 i0 i1 i2 b0 x0 o0 n0 k (L98_0_ok e0) e1
theorem L115_0_b0 (i0 i1 i2 i3 i4 : Int) (s0 s1 : List UInt8) (x0 : List V) (k : Nat)
    (c0 : decide (i2 < (↑x0.length : Int)) = true)
    (c1 : IdxR x0.length i2 3 3 (V.ept 12 i2.toNat 0))
    (c2 : LdP Try.prog 120 x0 i2.toNat 0 (V.agg [vu i3, vi i4, V.str s1]))
    (c3 : decide (i3 = i0) = true) :
    eC k 9 32 151 (loopBody Try.f151 0) { tm := [(0, V.ref 12), (1, V.fn (Fn.func 138) [] [V.ptr 0 0]), (4, vi 0), (7, vi (↑x0.length : Int)), (8, vi i2)], hp := [(0, Ob.var [vu i0, vi i1, V.str s0]), (12, Ob.row false 3 x0)], nx := 32 } = some (Exit.ret, { tm := [(0, V.ref 12), (1, V.fn (Fn.func 138) [] [V.ptr 0 0]), (4, vi i2), (5, vi i2), (7, vi (↑x0.length : Int)), (8, vi i2), (9, V.bool true), (16, V.bool true)], hp := [(0, Ob.var [vu i0, vi i1, V.str s0]), (12, Ob.row false 3 x0), (64, Ob.var [vu i3, vi i4, V.str s1])], nx := 104 }) :=
  byL (k := k) (d := 9) [Hn.br 9 true, Hn.op 14 (V.ept 12 i2.toNat 0) [], Hn.op 15 (V.agg [vu i3, vi i4, V.str s1]) [], Hn.enter, Hn.br 16 true] (aI c0 (aI c1 (aI c2 (aI c3 trivial)))) (by kernel_rfl)
theorem L115_0_b1 (i0 i1 i2 i3 i4 : Int) (s0 s1 : List UInt8) (x0 : List V) (k : Nat)
    (c0 : decide (i2 < (↑x0.length : Int)) = true)
    (c1 : IdxR x0.length i2 3 3 (V.ept 12 i2.toNat 0))
    (c2 : LdP Try.prog 120 x0 i2.toNat 0 (V.agg [vu i3, vi i4, V.str s1]))
    (c3 : decide (i3 = i0) = false) :
    eC k 9 32 151 (loopBody Try.f151 0) { tm := [(0, V.ref 12), (1, V.fn (Fn.func 138) [] [V.ptr 0 0]), (4, vi 0), (7, vi (↑x0.length : Int)), (8, vi i2)], hp := [(0, Ob.var [vu i0, vi i1, V.str s0]), (12, Ob.row false 3 x0)], nx := 32 } = some (Exit.normal, { tm := [(0, V.ref 12), (1, V.fn (Fn.func 138) [] [V.ptr 0 0]), (4, vi 0), (5, vi i2), (7, vi (↑x0.length : Int)), (8, vi (wI (i2 + 1))), (9, V.bool true), (16, V.bool false)], hp := [(0, Ob.var [vu i0, vi i1, V.str s0]), (12, Ob.row false 3 x0), (64, Ob.var [vu i3, vi i4, V.str s1])], nx := 104 }) :=
  byL (k := k) (d := 9) [Hn.br 9 true, Hn.op 14 (V.ept 12 i2.toNat 0) [], Hn.op 15 (V.agg [vu i3, vi i4, V.str s1]) [], Hn.enter, Hn.br 16 false] (aI c0 (aI c1 (aI c2 (aI c3 trivial)))) (by kernel_rfl)
theorem L115_0_b1h (i0 i1 i2 i3 i4 : Int) (s0 s1 : List UInt8) (x0 : List V) : head 32 [0, 1, 4, 7, 8] (Try.cfg.fc 151).acc { tm := [(0, V.ref 12), (1, V.fn (Fn.func 138) [] [V.ptr 0 0]), (4, vi 0), (5, vi i2), (7, vi (↑x0.length : Int)), (8, vi (wI (i2 + 1))), (9, V.bool true), (16, V.bool false)], hp := [(0, Ob.var [vu i0, vi i1, V.str s0]), (12, Ob.row false 3 x0), (64, Ob.var [vu i3, vi i4, V.str s1])], nx := 104 } = { tm := [(0, V.ref 12), (1, V.fn (Fn.func 138) [] [V.ptr 0 0]), (4, vi 0), (7, vi (↑x0.length : Int)), (8, vi (wI (i2 + 1)))], hp := [(0, Ob.var [vu i0, vi i1, V.str s0]), (12, Ob.row false 3 x0)], nx := 32 } := by kernel_rfl
theorem L115_0_b2 (i0 i1 i2 : Int) (s0 : List UInt8) (x0 : List V) (k : Nat)
    (c0 : decide (i2 < (↑x0.length : Int)) = false) :
    eC k 9 32 151 (loopBody Try.f151 0) { tm := [(0, V.ref 12), (1, V.fn (Fn.func 138) [] [V.ptr 0 0]), (4, vi 0), (7, vi (↑x0.length : Int)), (8, vi i2)], hp := [(0, Ob.var [vu i0, vi i1, V.str s0]), (12, Ob.row false 3 x0)], nx := 32 } = some (Exit.exit 0, { tm := [(0, V.ref 12), (1, V.fn (Fn.func 138) [] [V.ptr 0 0]), (4, vi 0), (7, vi (↑x0.length : Int)), (8, vi i2), (9, V.bool false)], hp := [(0, Ob.var [vu i0, vi i1, V.str s0]), (12, Ob.row false 3 x0)], nx := 36 }) :=
  byL (k := k) (d := 9) [Hn.br 9 false] (aI c0 trivial) (by kernel_rfl)
inductive L115_0_R where
  | e0 (i2 : Int) (i3 : Int) (i4 : Int) (s1 : List UInt8)
  | e1 (i2 : Int)
noncomputable def L115_0_end (i0 : Int) (i1 : Int) (s0 : List UInt8) (x0 : List V) : L115_0_R → Exit × St
  | .e0 i2 i3 i4 s1 => (Exit.ret, { tm := [(0, V.ref 12), (1, V.fn (Fn.func 138) [] [V.ptr 0 0]), (4, V.int .i64 i2), (5, V.int .i64 i2), (7, V.int .i64 (↑x0.length : Int)), (8, V.int .i64 i2), (9, V.bool true), (16, V.bool true)], hp := [(0, Ob.var [V.int .u64 i0, V.int .i64 i1, V.str s0]), (12, Ob.row false 3 x0), (64, Ob.var [V.int .u64 i3, V.int .i64 i4, V.str s1])], nx := 104 })
  | .e1 i2 => (Exit.exit 0, { tm := [(0, V.ref 12), (1, V.fn (Fn.func 138) [] [V.ptr 0 0]), (4, V.int .i64 0), (7, V.int .i64 (↑x0.length : Int)), (8, V.int .i64 i2), (9, V.bool false)], hp := [(0, Ob.var [V.int .u64 i0, V.int .i64 i1, V.str s0]), (12, Ob.row false 3 x0)], nx := 36 })
def L115_0 (k : Nat) (i0 i1 : Int) (s0 : List UInt8) (x0 : List V) : Nat → Int → Option L115_0_R
  | 0, _ => none
  | f + 1, i2 => (bif decide (i2 < (↑x0.length : Int)) then (guardP ((0 : Int) ≤ i2 ∧ i2 < (↑x0.length : Int)) ((((x0)[i2.toNat]?).bind dAu64i64sZ).bind fun (i3, i4, s1) => (bif decide (i3 = i0) then (some (L115_0_R.e0 i2 i3 i4 s1)) else (L115_0 k i0 i1 s0 x0 f (IntKind.i64.wrap (i2 + 1)))))) else (some (L115_0_R.e1 i2)))
theorem L115_0_ok {i0 i1 : Int} {s0 : List UInt8} {x0 : List V} {k : Nat} : ∀ {f : Nat} {i2 : Int} {r : L115_0_R}, L115_0 k i0 i1 s0 x0 f i2 = some r →
    LoopsN Try.prog Try.cfg (k + 9) 32 Try.f151 (Try.cfg.fc 151) 0 [0, 1, 4, 7, 8] f { tm := [(0, V.ref 12), (1, V.fn (Fn.func 138) [] [V.ptr 0 0]), (4, vi 0), (7, vi (↑x0.length : Int)), (8, vi i2)], hp := [(0, Ob.var [vu i0, vi i1, V.str s0]), (12, Ob.row false 3 x0)], nx := 32 } (L115_0_end i0 i1 s0 x0 r) := by
  intro f
  induction f with
  | zero => intro i2 r h; cases h
  | succ f ih =>
    intro i2 r h
    rw [L115_0] at h
    rcases cond_elim h with ⟨e0, h⟩ | ⟨e0, h⟩
    ·
      obtain ⟨e1, h⟩ := guardP_some.1 h
      obtain ⟨⟨i3, i4, s1⟩, e2, h⟩ := bE h
      rcases cond_elim h with ⟨e3, h⟩ | ⟨e3, h⟩
      ·
        cases h; exact LoopsN.done (L115_0_b0 i0 i1 i2 i3 i4 s0 s1 x0 k e0 (IdxR.mk' e1 rfl) (LdP.mk (get_d dAu64i64sZ_ok e2 :) (by kernel_rfl)) e3) (fun h => by cases h)
      ·
        exact LoopsN.next (L115_0_b1 i0 i1 i2 i3 i4 s0 s1 x0 k e0 (IdxR.mk' e1 rfl) (LdP.mk (get_d dAu64i64sZ_ok e2 :) (by kernel_rfl)) e3) (L115_0_b1h i0 i1 i2 i3 i4 s0 s1 x0) (ih h)
    ·
      cases h; exact LoopsN.done (L115_0_b2 i0 i1 i2 s0 x0 k e0) (fun h => by cases h)
theorem L115_1_b0 (i0 i1 i3 i4 i5 i6 i7 : Int) (s0 s1 : List UInt8) (x0 : List V) (k : Nat)
    (c0 : decide (i3 < i4) = true)
    (c1 : IdxR x0.length (wI ((wU (wI (i3 + i4))).fdiv (2 ^ min (Int.toNat 1) IntKind.u64.bits))) 3 3 (V.ept 12 (wI ((wU (wI (i3 + i4))).fdiv (2 ^ min (Int.toNat 1) IntKind.u64.bits))).toNat 0))
    (c2 : LdP Try.prog 120 x0 (wI ((wU (wI (i3 + i4))).fdiv (2 ^ min (Int.toNat 1) IntKind.u64.bits))).toNat 0 (V.agg [vu i5, vi i6, V.str s1]))
    (c3 : cP ((k + 10)) 139 [V.agg [vu i5, vi i6, V.str s1], vu i0] = some (vi i7))
    (c4 : decide (i7 < 0) = true) :
    eC k 10 88 120 (loopBody Try.f120 0) { tm := [(0, V.ref 12), (1, vu i0), (2, V.fn (Fn.func 139) [] []), (6, vi 0), (7, V.bool false), (8, vi (↑x0.length : Int)), (9, vi i3), (10, vi i4)], hp := [(0, Ob.var [vu i0, vi i1, V.str s0]), (12, Ob.row false 3 x0)], nx := 88 } = some (Exit.normal, { tm := [(0, V.ref 12), (1, vu i0), (2, V.fn (Fn.func 139) [] []), (6, vi 0), (7, V.bool false), (8, vi (↑x0.length : Int)), (9, vi (wI (wI ((wU (wI (i3 + i4))).fdiv (2 ^ min (Int.toNat 1) IntKind.u64.bits)) + 1))), (10, vi i4), (11, vi (wI ((wU (wI (i3 + i4))).fdiv (2 ^ min (Int.toNat 1) IntKind.u64.bits)))), (17, V.bool true), (31, V.bool true)], hp := [(0, Ob.var [vu i0, vi i1, V.str s0]), (12, Ob.row false 3 x0)], nx := 172 }) :=
  byL (k := k) (d := 10) [Hn.br 17 true, Hn.op 27 (V.ept 12 (wI ((wU (wI (i3 + i4))).fdiv (2 ^ min (Int.toNat 1) IntKind.u64.bits))).toNat 0) [], Hn.op 28 (V.agg [vu i5, vi i6, V.str s1]) [], Hn.call 30 (vi i7), Hn.br 31 true] (aI c0 (aI c1 (aI c2 (aI c3 (aI c4 trivial))))) (by kernel_rfl)
theorem L115_1_b0h (i0 i1 i3 i4 : Int) (s0 : List UInt8) (x0 : List V) : head 88 [0, 1, 2, 6, 7, 8, 9, 10] (Try.cfg.fc 120).acc { tm := [(0, V.ref 12), (1, vu i0), (2, V.fn (Fn.func 139) [] []), (6, vi 0), (7, V.bool false), (8, vi (↑x0.length : Int)), (9, vi (wI (wI ((wU (wI (i3 + i4))).fdiv (2 ^ min (Int.toNat 1) IntKind.u64.bits)) + 1))), (10, vi i4), (11, vi (wI ((wU (wI (i3 + i4))).fdiv (2 ^ min (Int.toNat 1) IntKind.u64.bits)))), (17, V.bool true), (31, V.bool true)], hp := [(0, Ob.var [vu i0, vi i1, V.str s0]), (12, Ob.row false 3 x0)], nx := 172 } = { tm := [(0, V.ref 12), (1, vu i0), (2, V.fn (Fn.func 139) [] []), (6, vi 0), (7, V.bool false), (8, vi (↑x0.length : Int)), (9, vi (wI (wI ((wU (wI (i3 + i4))).fdiv (2 ^ min (Int.toNat 1) IntKind.u64.bits)) + 1))), (10, vi i4)], hp := [(0, Ob.var [vu i0, vi i1, V.str s0]), (12, Ob.row false 3 x0)], nx := 88 } := by kernel_rfl
theorem L115_1_b1 (i0 i1 i3 i4 i5 i6 i7 : Int) (s0 s1 : List UInt8) (x0 : List V) (k : Nat)
    (c0 : decide (i3 < i4) = true)
    (c1 : IdxR x0.length (wI ((wU (wI (i3 + i4))).fdiv (2 ^ min (Int.toNat 1) IntKind.u64.bits))) 3 3 (V.ept 12 (wI ((wU (wI (i3 + i4))).fdiv (2 ^ min (Int.toNat 1) IntKind.u64.bits))).toNat 0))
    (c2 : LdP Try.prog 120 x0 (wI ((wU (wI (i3 + i4))).fdiv (2 ^ min (Int.toNat 1) IntKind.u64.bits))).toNat 0 (V.agg [vu i5, vi i6, V.str s1]))
    (c3 : cP ((k + 10)) 139 [V.agg [vu i5, vi i6, V.str s1], vu i0] = some (vi i7))
    (c4 : decide (i7 < 0) = false) :
    eC k 10 88 120 (loopBody Try.f120 0) { tm := [(0, V.ref 12), (1, vu i0), (2, V.fn (Fn.func 139) [] []), (6, vi 0), (7, V.bool false), (8, vi (↑x0.length : Int)), (9, vi i3), (10, vi i4)], hp := [(0, Ob.var [vu i0, vi i1, V.str s0]), (12, Ob.row false 3 x0)], nx := 88 } = some (Exit.normal, { tm := [(0, V.ref 12), (1, vu i0), (2, V.fn (Fn.func 139) [] []), (6, vi 0), (7, V.bool false), (8, vi (↑x0.length : Int)), (9, vi i3), (10, vi (wI ((wU (wI (i3 + i4))).fdiv (2 ^ min (Int.toNat 1) IntKind.u64.bits)))), (11, vi (wI ((wU (wI (i3 + i4))).fdiv (2 ^ min (Int.toNat 1) IntKind.u64.bits)))), (17, V.bool true), (31, V.bool false)], hp := [(0, Ob.var [vu i0, vi i1, V.str s0]), (12, Ob.row false 3 x0)], nx := 168 }) :=
  byL (k := k) (d := 10) [Hn.br 17 true, Hn.op 27 (V.ept 12 (wI ((wU (wI (i3 + i4))).fdiv (2 ^ min (Int.toNat 1) IntKind.u64.bits))).toNat 0) [], Hn.op 28 (V.agg [vu i5, vi i6, V.str s1]) [], Hn.call 30 (vi i7), Hn.br 31 false] (aI c0 (aI c1 (aI c2 (aI c3 (aI c4 trivial))))) (by kernel_rfl)
theorem L115_1_b1h (i0 i1 i3 i4 : Int) (s0 : List UInt8) (x0 : List V) : head 88 [0, 1, 2, 6, 7, 8, 9, 10] (Try.cfg.fc 120).acc { tm := [(0, V.ref 12), (1, vu i0), (2, V.fn (Fn.func 139) [] []), (6, vi 0), (7, V.bool false), (8, vi (↑x0.length : Int)), (9, vi i3), (10, vi (wI ((wU (wI (i3 + i4))).fdiv (2 ^ min (Int.toNat 1) IntKind.u64.bits)))), (11, vi (wI ((wU (wI (i3 + i4))).fdiv (2 ^ min (Int.toNat 1) IntKind.u64.bits)))), (17, V.bool true), (31, V.bool false)], hp := [(0, Ob.var [vu i0, vi i1, V.str s0]), (12, Ob.row false 3 x0)], nx := 168 } = { tm := [(0, V.ref 12), (1, vu i0), (2, V.fn (Fn.func 139) [] []), (6, vi 0), (7, V.bool false), (8, vi (↑x0.length : Int)), (9, vi i3), (10, vi (wI ((wU (wI (i3 + i4))).fdiv (2 ^ min (Int.toNat 1) IntKind.u64.bits))))], hp := [(0, Ob.var [vu i0, vi i1, V.str s0]), (12, Ob.row false 3 x0)], nx := 88 } := by kernel_rfl
theorem L115_1_b2 (i0 i1 i3 i4 : Int) (s0 : List UInt8) (x0 : List V) (k : Nat)
    (c0 : decide (i3 < i4) = false) :
    eC k 10 88 120 (loopBody Try.f120 0) { tm := [(0, V.ref 12), (1, vu i0), (2, V.fn (Fn.func 139) [] []), (6, vi 0), (7, V.bool false), (8, vi (↑x0.length : Int)), (9, vi i3), (10, vi i4)], hp := [(0, Ob.var [vu i0, vi i1, V.str s0]), (12, Ob.row false 3 x0)], nx := 88 } = some (Exit.exit 0, { tm := [(0, V.ref 12), (1, vu i0), (2, V.fn (Fn.func 139) [] []), (6, vi 0), (7, V.bool false), (8, vi (↑x0.length : Int)), (9, vi i3), (10, vi i4), (17, V.bool false)], hp := [(0, Ob.var [vu i0, vi i1, V.str s0]), (12, Ob.row false 3 x0)], nx := 100 }) :=
  byL (k := k) (d := 10) [Hn.br 17 false] (aI c0 trivial) (by kernel_rfl)
inductive L115_1_R where
  | e0 (i3 : Int) (i4 : Int)
noncomputable def L115_1_end (i0 : Int) (i1 : Int) (s0 : List UInt8) (x0 : List V) : L115_1_R → Exit × St
  | .e0 i3 i4 => (Exit.exit 0, { tm := [(0, V.ref 12), (1, V.int .u64 i0), (2, V.fn (Fn.func 139) [] []), (6, V.int .i64 0), (7, V.bool false), (8, V.int .i64 (↑x0.length : Int)), (9, V.int .i64 i3), (10, V.int .i64 i4), (17, V.bool false)], hp := [(0, Ob.var [V.int .u64 i0, V.int .i64 i1, V.str s0]), (12, Ob.row false 3 x0)], nx := 100 })
def L115_1 (k : Nat) (i0 i1 : Int) (s0 : List UInt8) (x0 : List V) : Nat → Int → Int → Option L115_1_R
  | 0, _, _ => none
  | f + 1, i3, i4 => (bif decide (i3 < i4) then (guardP ((0 : Int) ≤ IntKind.i64.wrap ((IntKind.u64.wrap (IntKind.i64.wrap (i3 + i4))).fdiv ((2 : Int) ^ min (Int.toNat (1 : Int)) IntKind.u64.bits)) ∧ IntKind.i64.wrap ((IntKind.u64.wrap (IntKind.i64.wrap (i3 + i4))).fdiv ((2 : Int) ^ min (Int.toNat (1 : Int)) IntKind.u64.bits)) < (↑x0.length : Int)) ((((x0)[(IntKind.i64.wrap ((IntKind.u64.wrap (IntKind.i64.wrap (i3 + i4))).fdiv (2 ^ min (Int.toNat 1) IntKind.u64.bits))).toNat]?).bind dAu64i64sZ).bind fun (i5, i6, s1) => ((F139 (k + 1) (i5) (i6) (s1) (i0)).bind fun i7 => (bif decide (i7 < 0) then (L115_1 k i0 i1 s0 x0 f (IntKind.i64.wrap (IntKind.i64.wrap ((IntKind.u64.wrap (IntKind.i64.wrap (i3 + i4))).fdiv (2 ^ min (Int.toNat 1) IntKind.u64.bits)) + 1)) (i4)) else (L115_1 k i0 i1 s0 x0 f (i3) (IntKind.i64.wrap ((IntKind.u64.wrap (IntKind.i64.wrap (i3 + i4))).fdiv (2 ^ min (Int.toNat 1) IntKind.u64.bits)))))))) else (some (L115_1_R.e0 i3 i4)))
theorem L115_1_ok {i0 i1 : Int} {s0 : List UInt8} {x0 : List V} {k : Nat} : ∀ {f : Nat} {i3 : Int} {i4 : Int} {r : L115_1_R}, L115_1 k i0 i1 s0 x0 f i3 i4 = some r →
    LoopsN Try.prog Try.cfg (k + 10) 88 Try.f120 (Try.cfg.fc 120) 0 [0, 1, 2, 6, 7, 8, 9, 10] f { tm := [(0, V.ref 12), (1, vu i0), (2, V.fn (Fn.func 139) [] []), (6, vi 0), (7, V.bool false), (8, vi (↑x0.length : Int)), (9, vi i3), (10, vi i4)], hp := [(0, Ob.var [vu i0, vi i1, V.str s0]), (12, Ob.row false 3 x0)], nx := 88 } (L115_1_end i0 i1 s0 x0 r) := by
  intro f
  induction f with
  | zero => intro i3 i4 r h; cases h
  | succ f ih =>
    intro i3 i4 r h
    rw [L115_1] at h
    rcases cond_elim h with ⟨e0, h⟩ | ⟨e0, h⟩
    ·
      obtain ⟨e1, h⟩ := guardP_some.1 h
      obtain ⟨⟨i5, i6, s1⟩, e2, h⟩ := bE h
      obtain ⟨i7, e3, h⟩ := bE h
      rcases cond_elim h with ⟨e4, h⟩ | ⟨e4, h⟩
      ·
        exact LoopsN.next (L115_1_b0 i0 i1 i3 i4 i5 i6 i7 s0 s1 x0 k e0 (IdxR.mk' e1 rfl) (LdP.mk (get_d dAu64i64sZ_ok e2 :) (by kernel_rfl)) (F139_ok e3) e4) (L115_1_b0h i0 i1 i3 i4 s0 x0) (ih h)
      ·
        exact LoopsN.next (L115_1_b1 i0 i1 i3 i4 i5 i6 i7 s0 s1 x0 k e0 (IdxR.mk' e1 rfl) (LdP.mk (get_d dAu64i64sZ_ok e2 :) (by kernel_rfl)) (F139_ok e3) e4) (L115_1_b1h i0 i1 i3 i4 s0 x0) (ih h)
    ·
      cases h; exact LoopsN.done (L115_1_b2 i0 i1 i3 i4 s0 x0 k e0) (fun h => by cases h)
theorem L115_2_b0 (i0 i1 i3 i4 i5 i6 i7 i8 i9 : Int) (s0 s1 s2 : List UInt8) (x0 : List V) (k : Nat)
    (c0 : decide (i5 < i6) = true)
    (c1 : IdxR x0.length (wI ((wU (wI (i5 + i6))).fdiv (2 ^ min (Int.toNat 1) IntKind.u64.bits))) 3 3 (V.ept 12 (wI ((wU (wI (i5 + i6))).fdiv (2 ^ min (Int.toNat 1) IntKind.u64.bits))).toNat 0))
    (c2 : LdP Try.prog 120 x0 (wI ((wU (wI (i5 + i6))).fdiv (2 ^ min (Int.toNat 1) IntKind.u64.bits))).toNat 0 (V.agg [vu i7, vi i8, V.str s2]))
    (c3 : cP ((k + 10)) 139 [V.agg [vu i7, vi i8, V.str s2], vu i0] = some (vi i9))
    (c4 : decide (i9 < 0) = true) :
    eC k 10 152 120 (loopBody Try.f120 0) { tm := [(0, V.ref 12), (1, vu i0), (2, V.fn (Fn.func 139) [] []), (6, vi 0), (7, V.bool false), (8, vi (↑x0.length : Int)), (9, vi i5), (10, vi i6)], hp := [(0, Ob.var [vu i0, vi i1, V.str s0]), (12, Ob.row false 3 x0), (64, Ob.var [vu i3, vi i4, V.str s1])], nx := 152 } = some (Exit.normal, { tm := [(0, V.ref 12), (1, vu i0), (2, V.fn (Fn.func 139) [] []), (6, vi 0), (7, V.bool false), (8, vi (↑x0.length : Int)), (9, vi (wI (wI ((wU (wI (i5 + i6))).fdiv (2 ^ min (Int.toNat 1) IntKind.u64.bits)) + 1))), (10, vi i6), (11, vi (wI ((wU (wI (i5 + i6))).fdiv (2 ^ min (Int.toNat 1) IntKind.u64.bits)))), (17, V.bool true), (31, V.bool true)], hp := [(0, Ob.var [vu i0, vi i1, V.str s0]), (12, Ob.row false 3 x0), (64, Ob.var [vu i3, vi i4, V.str s1])], nx := 236 }) :=
  byL (k := k) (d := 10) [Hn.br 17 true, Hn.op 27 (V.ept 12 (wI ((wU (wI (i5 + i6))).fdiv (2 ^ min (Int.toNat 1) IntKind.u64.bits))).toNat 0) [], Hn.op 28 (V.agg [vu i7, vi i8, V.str s2]) [], Hn.call 30 (vi i9), Hn.br 31 true] (aI c0 (aI c1 (aI c2 (aI c3 (aI c4 trivial))))) (by kernel_rfl)
theorem L115_2_b0h (i0 i1 i3 i4 i5 i6 : Int) (s0 s1 : List UInt8) (x0 : List V) : head 152 [0, 1, 2, 6, 7, 8, 9, 10] (Try.cfg.fc 120).acc { tm := [(0, V.ref 12), (1, vu i0), (2, V.fn (Fn.func 139) [] []), (6, vi 0), (7, V.bool false), (8, vi (↑x0.length : Int)), (9, vi (wI (wI ((wU (wI (i5 + i6))).fdiv (2 ^ min (Int.toNat 1) IntKind.u64.bits)) + 1))), (10, vi i6), (11, vi (wI ((wU (wI (i5 + i6))).fdiv (2 ^ min (Int.toNat 1) IntKind.u64.bits)))), (17, V.bool true), (31, V.bool true)], hp := [(0, Ob.var [vu i0, vi i1, V.str s0]), (12, Ob.row false 3 x0), (64, Ob.var [vu i3, vi i4, V.str s1])], nx := 236 } = { tm := [(0, V.ref 12), (1, vu i0), (2, V.fn (Fn.func 139) [] []), (6, vi 0), (7, V.bool false), (8, vi (↑x0.length : Int)), (9, vi (wI (wI ((wU (wI (i5 + i6))).fdiv (2 ^ min (Int.toNat 1) IntKind.u64.bits)) + 1))), (10, vi i6)], hp := [(0, Ob.var [vu i0, vi i1, V.str s0]), (12, Ob.row false 3 x0), (64, Ob.var [vu i3, vi i4, V.str s1])], nx := 152 } := by kernel_rfl
theorem L115_2_b1 (i0 i1 i3 i4 i5 i6 i7 i8 i9 : Int) (s0 s1 s2 : List UInt8) (x0 : List V) (k : Nat)
    (c0 : decide (i5 < i6) = true)
    (c1 : IdxR x0.length (wI ((wU (wI (i5 + i6))).fdiv (2 ^ min (Int.toNat 1) IntKind.u64.bits))) 3 3 (V.ept 12 (wI ((wU (wI (i5 + i6))).fdiv (2 ^ min (Int.toNat 1) IntKind.u64.bits))).toNat 0))
    (c2 : LdP Try.prog 120 x0 (wI ((wU (wI (i5 + i6))).fdiv (2 ^ min (Int.toNat 1) IntKind.u64.bits))).toNat 0 (V.agg [vu i7, vi i8, V.str s2]))
    (c3 : cP ((k + 10)) 139 [V.agg [vu i7, vi i8, V.str s2], vu i0] = some (vi i9))
    (c4 : decide (i9 < 0) = false) :
    eC k 10 152 120 (loopBody Try.f120 0) { tm := [(0, V.ref 12), (1, vu i0), (2, V.fn (Fn.func 139) [] []), (6, vi 0), (7, V.bool false), (8, vi (↑x0.length : Int)), (9, vi i5), (10, vi i6)], hp := [(0, Ob.var [vu i0, vi i1, V.str s0]), (12, Ob.row false 3 x0), (64, Ob.var [vu i3, vi i4, V.str s1])], nx := 152 } = some (Exit.normal, { tm := [(0, V.ref 12), (1, vu i0), (2, V.fn (Fn.func 139) [] []), (6, vi 0), (7, V.bool false), (8, vi (↑x0.length : Int)), (9, vi i5), (10, vi (wI ((wU (wI (i5 + i6))).fdiv (2 ^ min (Int.toNat 1) IntKind.u64.bits)))), (11, vi (wI ((wU (wI (i5 + i6))).fdiv (2 ^ min (Int.toNat 1) IntKind.u64.bits)))), (17, V.bool true), (31, V.bool false)], hp := [(0, Ob.var [vu i0, vi i1, V.str s0]), (12, Ob.row false 3 x0), (64, Ob.var [vu i3, vi i4, V.str s1])], nx := 232 }) :=
  byL (k := k) (d := 10) [Hn.br 17 true, Hn.op 27 (V.ept 12 (wI ((wU (wI (i5 + i6))).fdiv (2 ^ min (Int.toNat 1) IntKind.u64.bits))).toNat 0) [], Hn.op 28 (V.agg [vu i7, vi i8, V.str s2]) [], Hn.call 30 (vi i9), Hn.br 31 false] (aI c0 (aI c1 (aI c2 (aI c3 (aI c4 trivial))))) (by kernel_rfl)
theorem L115_2_b1h (i0 i1 i3 i4 i5 i6 : Int) (s0 s1 : List UInt8) (x0 : List V) : head 152 [0, 1, 2, 6, 7, 8, 9, 10] (Try.cfg.fc 120).acc { tm := [(0, V.ref 12), (1, vu i0), (2, V.fn (Fn.func 139) [] []), (6, vi 0), (7, V.bool false), (8, vi (↑x0.length : Int)), (9, vi i5), (10, vi (wI ((wU (wI (i5 + i6))).fdiv (2 ^ min (Int.toNat 1) IntKind.u64.bits)))), (11, vi (wI ((wU (wI (i5 + i6))).fdiv (2 ^ min (Int.toNat 1) IntKind.u64.bits)))), (17, V.bool true), (31, V.bool false)], hp := [(0, Ob.var [vu i0, vi i1, V.str s0]), (12, Ob.row false 3 x0), (64, Ob.var [vu i3, vi i4, V.str s1])], nx := 232 } = { tm := [(0, V.ref 12), (1, vu i0), (2, V.fn (Fn.func 139) [] []), (6, vi 0), (7, V.bool false), (8, vi (↑x0.length : Int)), (9, vi i5), (10, vi (wI ((wU (wI (i5 + i6))).fdiv (2 ^ min (Int.toNat 1) IntKind.u64.bits))))], hp := [(0, Ob.var [vu i0, vi i1, V.str s0]), (12, Ob.row false 3 x0), (64, Ob.var [vu i3, vi i4, V.str s1])], nx := 152 } := by kernel_rfl
theorem L115_2_b2 (i0 i1 i3 i4 i5 i6 : Int) (s0 s1 : List UInt8) (x0 : List V) (k : Nat)
    (c0 : decide (i5 < i6) = false) :
    eC k 10 152 120 (loopBody Try.f120 0) { tm := [(0, V.ref 12), (1, vu i0), (2, V.fn (Fn.func 139) [] []), (6, vi 0), (7, V.bool false), (8, vi (↑x0.length : Int)), (9, vi i5), (10, vi i6)], hp := [(0, Ob.var [vu i0, vi i1, V.str s0]), (12, Ob.row false 3 x0), (64, Ob.var [vu i3, vi i4, V.str s1])], nx := 152 } = some (Exit.exit 0, { tm := [(0, V.ref 12), (1, vu i0), (2, V.fn (Fn.func 139) [] []), (6, vi 0), (7, V.bool false), (8, vi (↑x0.length : Int)), (9, vi i5), (10, vi i6), (17, V.bool false)], hp := [(0, Ob.var [vu i0, vi i1, V.str s0]), (12, Ob.row false 3 x0), (64, Ob.var [vu i3, vi i4, V.str s1])], nx := 164 }) :=
  byL (k := k) (d := 10) [Hn.br 17 false] (aI c0 trivial) (by kernel_rfl)
inductive L115_2_R where
  | e0 (i5 : Int) (i6 : Int)
noncomputable def L115_2_end (i0 : Int) (i1 : Int) (i3 : Int) (i4 : Int) (s0 : List UInt8) (s1 : List UInt8) (x0 : List V) : L115_2_R → Exit × St
  | .e0 i5 i6 => (Exit.exit 0, { tm := [(0, V.ref 12), (1, V.int .u64 i0), (2, V.fn (Fn.func 139) [] []), (6, V.int .i64 0), (7, V.bool false), (8, V.int .i64 (↑x0.length : Int)), (9, V.int .i64 i5), (10, V.int .i64 i6), (17, V.bool false)], hp := [(0, Ob.var [V.int .u64 i0, V.int .i64 i1, V.str s0]), (12, Ob.row false 3 x0), (64, Ob.var [V.int .u64 i3, V.int .i64 i4, V.str s1])], nx := 164 })
def L115_2 (k : Nat) (i0 i1 i3 i4 : Int) (s0 s1 : List UInt8) (x0 : List V) : Nat → Int → Int → Option L115_2_R
  | 0, _, _ => none
  | f + 1, i5, i6 => (bif decide (i5 < i6) then (guardP ((0 : Int) ≤ IntKind.i64.wrap ((IntKind.u64.wrap (IntKind.i64.wrap (i5 + i6))).fdiv ((2 : Int) ^ min (Int.toNat (1 : Int)) IntKind.u64.bits)) ∧ IntKind.i64.wrap ((IntKind.u64.wrap (IntKind.i64.wrap (i5 + i6))).fdiv ((2 : Int) ^ min (Int.toNat (1 : Int)) IntKind.u64.bits)) < (↑x0.length : Int)) ((((x0)[(IntKind.i64.wrap ((IntKind.u64.wrap (IntKind.i64.wrap (i5 + i6))).fdiv (2 ^ min (Int.toNat 1) IntKind.u64.bits))).toNat]?).bind dAu64i64sZ).bind fun (i7, i8, s2) => ((F139 (k + 1) (i7) (i8) (s2) (i0)).bind fun i9 => (bif decide (i9 < 0) then (L115_2 k i0 i1 i3 i4 s0 s1 x0 f (IntKind.i64.wrap (IntKind.i64.wrap ((IntKind.u64.wrap (IntKind.i64.wrap (i5 + i6))).fdiv (2 ^ min (Int.toNat 1) IntKind.u64.bits)) + 1)) (i6)) else (L115_2 k i0 i1 i3 i4 s0 s1 x0 f (i5) (IntKind.i64.wrap ((IntKind.u64.wrap (IntKind.i64.wrap (i5 + i6))).fdiv (2 ^ min (Int.toNat 1) IntKind.u64.bits)))))))) else (some (L115_2_R.e0 i5 i6)))
theorem L115_2_ok {i0 i1 i3 i4 : Int} {s0 s1 : List UInt8} {x0 : List V} {k : Nat} : ∀ {f : Nat} {i5 : Int} {i6 : Int} {r : L115_2_R}, L115_2 k i0 i1 i3 i4 s0 s1 x0 f i5 i6 = some r →
    LoopsN Try.prog Try.cfg (k + 10) 152 Try.f120 (Try.cfg.fc 120) 0 [0, 1, 2, 6, 7, 8, 9, 10] f { tm := [(0, V.ref 12), (1, vu i0), (2, V.fn (Fn.func 139) [] []), (6, vi 0), (7, V.bool false), (8, vi (↑x0.length : Int)), (9, vi i5), (10, vi i6)], hp := [(0, Ob.var [vu i0, vi i1, V.str s0]), (12, Ob.row false 3 x0), (64, Ob.var [vu i3, vi i4, V.str s1])], nx := 152 } (L115_2_end i0 i1 i3 i4 s0 s1 x0 r) := by
  intro f
  induction f with
  | zero => intro i5 i6 r h; cases h
  | succ f ih =>
    intro i5 i6 r h
    rw [L115_2] at h
    rcases cond_elim h with ⟨e0, h⟩ | ⟨e0, h⟩
    ·
      obtain ⟨e1, h⟩ := guardP_some.1 h
      obtain ⟨⟨i7, i8, s2⟩, e2, h⟩ := bE h
      obtain ⟨i9, e3, h⟩ := bE h
      rcases cond_elim h with ⟨e4, h⟩ | ⟨e4, h⟩
      ·
        exact LoopsN.next (L115_2_b0 i0 i1 i3 i4 i5 i6 i7 i8 i9 s0 s1 s2 x0 k e0 (IdxR.mk' e1 rfl) (LdP.mk (get_d dAu64i64sZ_ok e2 :) (by kernel_rfl)) (F139_ok e3) e4) (L115_2_b0h i0 i1 i3 i4 i5 i6 s0 s1 x0) (ih h)
      ·
        exact LoopsN.next (L115_2_b1 i0 i1 i3 i4 i5 i6 i7 i8 i9 s0 s1 s2 x0 k e0 (IdxR.mk' e1 rfl) (LdP.mk (get_d dAu64i64sZ_ok e2 :) (by kernel_rfl)) (F139_ok e3) e4) (L115_2_b1h i0 i1 i3 i4 i5 i6 s0 s1 x0) (ih h)
    ·
      cases h; exact LoopsN.done (L115_2_b2 i0 i1 i3 i4 i5 i6 s0 s1 x0 k e0) (fun h => by cases h)
theorem L115_3_b0 (i0 i1 i5 i6 i7 i8 : Int) (s0 s2 : List UInt8) (x1 : List V) (k : Nat)
    (c0 : decide (i6 < (↑x1.length : Int)) = true)
    (c1 : IdxR x1.length i6 3 3 (V.ept 12 i6.toNat 0))
    (c2 : LdP Try.prog 120 x1 i6.toNat 0 (V.agg [vu i7, vi i8, V.str s2]))
    (c3 : (!decide (i7 = i0)) = true)
    (c4 : IdxR x1.length i5 3 3 (V.ept 12 i5.toNat 0))
    (c5 : GrdW (false = false ∧ (rid (V.agg [vu i7, vi i8, V.str s2])).contains (12 : Nat) = false ∧ i5.toNat < x1.length) (V.tup []) [((12 : Nat), Ob.row false (3 : Nat) (x1.set i5.toNat (V.agg [vu i7, vi i8, V.str s2])))]) :
    eC k 10 20 136 (loopBody Try.f136 0) { tm := [(0, V.ref 12), (1, V.fn (Fn.func 138) [] [V.ptr 0 0]), (4, V.sl (some true) true 0 []), (5, vi i5), (6, vi i6), (12, V.bool false)], hp := [(0, Ob.var [vu i0, vi i1, V.str s0]), (12, Ob.row false 3 x1)], nx := 20 } = some (Exit.normal, { tm := [(0, V.ref 12), (1, V.fn (Fn.func 138) [] [V.ptr 0 0]), (4, V.sl (some true) true 0 []), (5, vi (wI (i5 + 1))), (6, vi (wI (i6 + 1))), (7, V.ptr 52 0), (12, V.bool false), (19, V.bool true), (29, V.bool true)], hp := [(0, Ob.var [vu i0, vi i1, V.str s0]), (12, Ob.row false 3 (x1.set i5.toNat (V.agg [vu i7, vi i8, V.str s2]))), (52, Ob.var [vu i7, vi i8, V.str s2]), (68, Ob.var [vu i7, vi i8, V.str s2])], nx := 148 }) :=
  byL (k := k) (d := 10) [Hn.br 19 true, Hn.op 24 (V.ept 12 i6.toNat 0) [], Hn.op 25 (V.agg [vu i7, vi i8, V.str s2]) [], Hn.enter, Hn.br 29 true, Hn.op 33 (V.ept 12 i5.toNat 0) [], Hn.wr 120 (V.tup []) [(12, Ob.row false 3 (x1.set i5.toNat (V.agg [vu i7, vi i8, V.str s2])))]] (aI c0 (aI c1 (aI c2 (aI c3 (aI c4 (aI c5 trivial)))))) (by kernel_rfl)
theorem L115_3_b0h (i0 i1 i5 i6 i7 i8 : Int) (s0 s2 : List UInt8) (x1 : List V) : head 20 [0, 1, 4, 5, 6, 12] (Try.cfg.fc 136).acc { tm := [(0, V.ref 12), (1, V.fn (Fn.func 138) [] [V.ptr 0 0]), (4, V.sl (some true) true 0 []), (5, vi (wI (i5 + 1))), (6, vi (wI (i6 + 1))), (7, V.ptr 52 0), (12, V.bool false), (19, V.bool true), (29, V.bool true)], hp := [(0, Ob.var [vu i0, vi i1, V.str s0]), (12, Ob.row false 3 (x1.set i5.toNat (V.agg [vu i7, vi i8, V.str s2]))), (52, Ob.var [vu i7, vi i8, V.str s2]), (68, Ob.var [vu i7, vi i8, V.str s2])], nx := 148 } = { tm := [(0, V.ref 12), (1, V.fn (Fn.func 138) [] [V.ptr 0 0]), (4, V.sl (some true) true 0 []), (5, vi (wI (i5 + 1))), (6, vi (wI (i6 + 1))), (12, V.bool false)], hp := [(0, Ob.var [vu i0, vi i1, V.str s0]), (12, Ob.row false 3 (x1.set i5.toNat (V.agg [vu i7, vi i8, V.str s2])))], nx := 20 } := by kernel_rfl
theorem L115_3_b1 (i0 i1 i5 i6 i7 i8 : Int) (s0 s2 : List UInt8) (x1 : List V) (k : Nat)
    (c0 : decide (i6 < (↑x1.length : Int)) = true)
    (c1 : IdxR x1.length i6 3 3 (V.ept 12 i6.toNat 0))
    (c2 : LdP Try.prog 120 x1 i6.toNat 0 (V.agg [vu i7, vi i8, V.str s2]))
    (c3 : (!decide (i7 = i0)) = false) :
    eC k 10 20 136 (loopBody Try.f136 0) { tm := [(0, V.ref 12), (1, V.fn (Fn.func 138) [] [V.ptr 0 0]), (4, V.sl (some true) true 0 []), (5, vi i5), (6, vi i6), (12, V.bool false)], hp := [(0, Ob.var [vu i0, vi i1, V.str s0]), (12, Ob.row false 3 x1)], nx := 20 } = some (Exit.normal, { tm := [(0, V.ref 12), (1, V.fn (Fn.func 138) [] [V.ptr 0 0]), (4, V.sl (some true) true 0 []), (5, vi i5), (6, vi (wI (i6 + 1))), (7, V.ptr 52 0), (12, V.bool false), (19, V.bool true), (29, V.bool false)], hp := [(0, Ob.var [vu i0, vi i1, V.str s0]), (12, Ob.row false 3 x1), (52, Ob.var [vu i7, vi i8, V.str s2]), (68, Ob.var [vu i7, vi i8, V.str s2])], nx := 116 }) :=
  byL (k := k) (d := 10) [Hn.br 19 true, Hn.op 24 (V.ept 12 i6.toNat 0) [], Hn.op 25 (V.agg [vu i7, vi i8, V.str s2]) [], Hn.enter, Hn.br 29 false] (aI c0 (aI c1 (aI c2 (aI c3 trivial)))) (by kernel_rfl)
theorem L115_3_b1h (i0 i1 i5 i6 i7 i8 : Int) (s0 s2 : List UInt8) (x1 : List V) : head 20 [0, 1, 4, 5, 6, 12] (Try.cfg.fc 136).acc { tm := [(0, V.ref 12), (1, V.fn (Fn.func 138) [] [V.ptr 0 0]), (4, V.sl (some true) true 0 []), (5, vi i5), (6, vi (wI (i6 + 1))), (7, V.ptr 52 0), (12, V.bool false), (19, V.bool true), (29, V.bool false)], hp := [(0, Ob.var [vu i0, vi i1, V.str s0]), (12, Ob.row false 3 x1), (52, Ob.var [vu i7, vi i8, V.str s2]), (68, Ob.var [vu i7, vi i8, V.str s2])], nx := 116 } = { tm := [(0, V.ref 12), (1, V.fn (Fn.func 138) [] [V.ptr 0 0]), (4, V.sl (some true) true 0 []), (5, vi i5), (6, vi (wI (i6 + 1))), (12, V.bool false)], hp := [(0, Ob.var [vu i0, vi i1, V.str s0]), (12, Ob.row false 3 x1)], nx := 20 } := by kernel_rfl
theorem L115_3_b2 (i0 i1 i5 i6 : Int) (s0 : List UInt8) (x1 : List V) (k : Nat)
    (c0 : decide (i6 < (↑x1.length : Int)) = false) :
    eC k 10 20 136 (loopBody Try.f136 0) { tm := [(0, V.ref 12), (1, V.fn (Fn.func 138) [] [V.ptr 0 0]), (4, V.sl (some true) true 0 []), (5, vi i5), (6, vi i6), (12, V.bool false)], hp := [(0, Ob.var [vu i0, vi i1, V.str s0]), (12, Ob.row false 3 x1)], nx := 20 } = some (Exit.exit 0, { tm := [(0, V.ref 12), (1, V.fn (Fn.func 138) [] [V.ptr 0 0]), (4, V.sl (some true) true 0 []), (5, vi i5), (6, vi i6), (12, V.bool false), (19, V.bool false)], hp := [(0, Ob.var [vu i0, vi i1, V.str s0]), (12, Ob.row false 3 x1)], nx := 36 }) :=
  byL (k := k) (d := 10) [Hn.br 19 false] (aI c0 trivial) (by kernel_rfl)
inductive L115_3_R where
  | e0 (i5 : Int) (i6 : Int) (x1 : List V)
noncomputable def L115_3_end (i0 : Int) (i1 : Int) (s0 : List UInt8) : L115_3_R → Exit × St
  | .e0 i5 i6 x1 => (Exit.exit 0, { tm := [(0, V.ref 12), (1, V.fn (Fn.func 138) [] [V.ptr 0 0]), (4, V.sl (some true) true 0 []), (5, V.int .i64 i5), (6, V.int .i64 i6), (12, V.bool false), (19, V.bool false)], hp := [(0, Ob.var [V.int .u64 i0, V.int .i64 i1, V.str s0]), (12, Ob.row false 3 x1)], nx := 36 })
def L115_3 (k : Nat) (i0 i1 : Int) (s0 : List UInt8) : Nat → Int → Int → List V → Option L115_3_R
  | 0, _, _, _ => none
  | f + 1, i5, i6, x1 => (bif decide (i6 < (↑x1.length : Int)) then (guardP ((0 : Int) ≤ i6 ∧ i6 < (↑x1.length : Int)) ((((x1)[i6.toNat]?).bind dAu64i64sZ).bind fun (i7, i8, s2) => (bif !decide (i7 = i0) then (guardP ((0 : Int) ≤ i5 ∧ i5 < (↑x1.length : Int)) (guardP (i5.toNat < x1.length) (L115_3 k i0 i1 s0 f (IntKind.i64.wrap (i5 + 1)) (IntKind.i64.wrap (i6 + 1)) (x1.set i5.toNat (V.agg [V.int .u64 i7, V.int .i64 i8, V.str s2]))))) else (L115_3 k i0 i1 s0 f (i5) (IntKind.i64.wrap (i6 + 1)) (x1))))) else (some (L115_3_R.e0 i5 i6 x1)))
theorem L115_3_ok {i0 i1 : Int} {s0 : List UInt8} {k : Nat} : ∀ {f : Nat} {i5 : Int} {i6 : Int} {x1 : List V} {r : L115_3_R}, L115_3 k i0 i1 s0 f i5 i6 x1 = some r →
    LoopsN Try.prog Try.cfg (k + 10) 20 Try.f136 (Try.cfg.fc 136) 0 [0, 1, 4, 5, 6, 12] f { tm := [(0, V.ref 12), (1, V.fn (Fn.func 138) [] [V.ptr 0 0]), (4, V.sl (some true) true 0 []), (5, vi i5), (6, vi i6), (12, V.bool false)], hp := [(0, Ob.var [vu i0, vi i1, V.str s0]), (12, Ob.row false 3 x1)], nx := 20 } (L115_3_end i0 i1 s0 r) := by
  intro f
  induction f with
  | zero => intro i5 i6 x1 r h; cases h
  | succ f ih =>
    intro i5 i6 x1 r h
    rw [L115_3] at h
    rcases cond_elim h with ⟨e0, h⟩ | ⟨e0, h⟩
    ·
      obtain ⟨e1, h⟩ := guardP_some.1 h
      obtain ⟨⟨i7, i8, s2⟩, e2, h⟩ := bE h
      rcases cond_elim h with ⟨e3, h⟩ | ⟨e3, h⟩
      ·
        obtain ⟨e4, h⟩ := guardP_some.1 h
        obtain ⟨e5, h⟩ := guardP_some.1 h
        exact LoopsN.next (L115_3_b0 i0 i1 i5 i6 i7 i8 s0 s2 x1 k e0 (IdxR.mk' e1 rfl) (LdP.mk (get_d dAu64i64sZ_ok e2 :) (by kernel_rfl)) e3 (IdxR.mk' e4 rfl) (GrdW.mk ⟨rfl, rfl, e5⟩)) (L115_3_b0h i0 i1 i5 i6 i7 i8 s0 s2 x1) (ih h)
      ·
        exact LoopsN.next (L115_3_b1 i0 i1 i5 i6 i7 i8 s0 s2 x1 k e0 (IdxR.mk' e1 rfl) (LdP.mk (get_d dAu64i64sZ_ok e2 :) (by kernel_rfl)) e3) (L115_3_b1h i0 i1 i5 i6 i7 i8 s0 s2 x1) (ih h)
    ·
      cases h; exact LoopsN.done (L115_3_b2 i0 i1 i5 i6 s0 x1 k e0) (fun h => by cases h)
theorem L115_4_b0 (i0 i1 i5 i7 i8 i9 i10 i11 : Int) (s0 s2 : List UInt8) (x2 : List V) (k : Nat)
    (c0 : decide (i7 < i8) = true)
    (c1 : IdxR i5.toNat (wI ((wU (wI (i7 + i8))).fdiv (2 ^ min (Int.toNat 1) IntKind.u64.bits))) 3 3 (V.ept 12 (0 + (wI ((wU (wI (i7 + i8))).fdiv (2 ^ min (Int.toNat 1) IntKind.u64.bits))).toNat) 0))
    (c2 : LdP Try.prog 120 x2 (0 + (wI ((wU (wI (i7 + i8))).fdiv (2 ^ min (Int.toNat 1) IntKind.u64.bits))).toNat) 0 (V.agg [vu i9, vi i10, V.str s2]))
    (c3 : cP ((k + 10)) 139 [V.agg [vu i9, vi i10, V.str s2], vu i0] = some (vi i11))
    (c4 : decide (i11 < 0) = true) :
    eC k 10 96 120 (loopBody Try.f120 0) { tm := [(0, V.sub 12 0 i5.toNat), (1, vu i0), (2, V.fn (Fn.func 139) [] []), (6, vi 0), (7, V.bool false), (8, vi (↑i5.toNat : Int)), (9, vi i7), (10, vi i8)], hp := [(0, Ob.var [vu i0, vi i1, V.str s0]), (12, Ob.row false 3 x2)], nx := 96 } = some (Exit.normal, { tm := [(0, V.sub 12 0 i5.toNat), (1, vu i0), (2, V.fn (Fn.func 139) [] []), (6, vi 0), (7, V.bool false), (8, vi (↑i5.toNat : Int)), (9, vi (wI (wI ((wU (wI (i7 + i8))).fdiv (2 ^ min (Int.toNat 1) IntKind.u64.bits)) + 1))), (10, vi i8), (11, vi (wI ((wU (wI (i7 + i8))).fdiv (2 ^ min (Int.toNat 1) IntKind.u64.bits)))), (17, V.bool true), (31, V.bool true)], hp := [(0, Ob.var [vu i0, vi i1, V.str s0]), (12, Ob.row false 3 x2)], nx := 180 }) :=
  byL (k := k) (d := 10) [Hn.br 17 true, Hn.op 27 (V.ept 12 (0 + (wI ((wU (wI (i7 + i8))).fdiv (2 ^ min (Int.toNat 1) IntKind.u64.bits))).toNat) 0) [], Hn.op 28 (V.agg [vu i9, vi i10, V.str s2]) [], Hn.call 30 (vi i11), Hn.br 31 true] (aI c0 (aI c1 (aI c2 (aI c3 (aI c4 trivial))))) (by kernel_rfl)
theorem L115_4_b0h (i0 i1 i5 i7 i8 : Int) (s0 : List UInt8) (x2 : List V) : head 96 [0, 1, 2, 6, 7, 8, 9, 10] (Try.cfg.fc 120).acc { tm := [(0, V.sub 12 0 i5.toNat), (1, vu i0), (2, V.fn (Fn.func 139) [] []), (6, vi 0), (7, V.bool false), (8, vi (↑i5.toNat : Int)), (9, vi (wI (wI ((wU (wI (i7 + i8))).fdiv (2 ^ min (Int.toNat 1) IntKind.u64.bits)) + 1))), (10, vi i8), (11, vi (wI ((wU (wI (i7 + i8))).fdiv (2 ^ min (Int.toNat 1) IntKind.u64.bits)))), (17, V.bool true), (31, V.bool true)], hp := [(0, Ob.var [vu i0, vi i1, V.str s0]), (12, Ob.row false 3 x2)], nx := 180 } = { tm := [(0, V.sub 12 0 i5.toNat), (1, vu i0), (2, V.fn (Fn.func 139) [] []), (6, vi 0), (7, V.bool false), (8, vi (↑i5.toNat : Int)), (9, vi (wI (wI ((wU (wI (i7 + i8))).fdiv (2 ^ min (Int.toNat 1) IntKind.u64.bits)) + 1))), (10, vi i8)], hp := [(0, Ob.var [vu i0, vi i1, V.str s0]), (12, Ob.row false 3 x2)], nx := 96 } := by kernel_rfl
theorem L115_4_b1 (i0 i1 i5 i7 i8 i9 i10 i11 : Int) (s0 s2 : List UInt8) (x2 : List V) (k : Nat)
    (c0 : decide (i7 < i8) = true)
    (c1 : IdxR i5.toNat (wI ((wU (wI (i7 + i8))).fdiv (2 ^ min (Int.toNat 1) IntKind.u64.bits))) 3 3 (V.ept 12 (0 + (wI ((wU (wI (i7 + i8))).fdiv (2 ^ min (Int.toNat 1) IntKind.u64.bits))).toNat) 0))
    (c2 : LdP Try.prog 120 x2 (0 + (wI ((wU (wI (i7 + i8))).fdiv (2 ^ min (Int.toNat 1) IntKind.u64.bits))).toNat) 0 (V.agg [vu i9, vi i10, V.str s2]))
    (c3 : cP ((k + 10)) 139 [V.agg [vu i9, vi i10, V.str s2], vu i0] = some (vi i11))
    (c4 : decide (i11 < 0) = false) :
    eC k 10 96 120 (loopBody Try.f120 0) { tm := [(0, V.sub 12 0 i5.toNat), (1, vu i0), (2, V.fn (Fn.func 139) [] []), (6, vi 0), (7, V.bool false), (8, vi (↑i5.toNat : Int)), (9, vi i7), (10, vi i8)], hp := [(0, Ob.var [vu i0, vi i1, V.str s0]), (12, Ob.row false 3 x2)], nx := 96 } = some (Exit.normal, { tm := [(0, V.sub 12 0 i5.toNat), (1, vu i0), (2, V.fn (Fn.func 139) [] []), (6, vi 0), (7, V.bool false), (8, vi (↑i5.toNat : Int)), (9, vi i7), (10, vi (wI ((wU (wI (i7 + i8))).fdiv (2 ^ min (Int.toNat 1) IntKind.u64.bits)))), (11, vi (wI ((wU (wI (i7 + i8))).fdiv (2 ^ min (Int.toNat 1) IntKind.u64.bits)))), (17, V.bool true), (31, V.bool false)], hp := [(0, Ob.var [vu i0, vi i1, V.str s0]), (12, Ob.row false 3 x2)], nx := 176 }) :=
  byL (k := k) (d := 10) [Hn.br 17 true, Hn.op 27 (V.ept 12 (0 + (wI ((wU (wI (i7 + i8))).fdiv (2 ^ min (Int.toNat 1) IntKind.u64.bits))).toNat) 0) [], Hn.op 28 (V.agg [vu i9, vi i10, V.str s2]) [], Hn.call 30 (vi i11), Hn.br 31 false] (aI c0 (aI c1 (aI c2 (aI c3 (aI c4 trivial))))) (by kernel_rfl)
theorem L115_4_b1h (i0 i1 i5 i7 i8 : Int) (s0 : List UInt8) (x2 : List V) : head 96 [0, 1, 2, 6, 7, 8, 9, 10] (Try.cfg.fc 120).acc { tm := [(0, V.sub 12 0 i5.toNat), (1, vu i0), (2, V.fn (Fn.func 139) [] []), (6, vi 0), (7, V.bool false), (8, vi (↑i5.toNat : Int)), (9, vi i7), (10, vi (wI ((wU (wI (i7 + i8))).fdiv (2 ^ min (Int.toNat 1) IntKind.u64.bits)))), (11, vi (wI ((wU (wI (i7 + i8))).fdiv (2 ^ min (Int.toNat 1) IntKind.u64.bits)))), (17, V.bool true), (31, V.bool false)], hp := [(0, Ob.var [vu i0, vi i1, V.str s0]), (12, Ob.row false 3 x2)], nx := 176 } = { tm := [(0, V.sub 12 0 i5.toNat), (1, vu i0), (2, V.fn (Fn.func 139) [] []), (6, vi 0), (7, V.bool false), (8, vi (↑i5.toNat : Int)), (9, vi i7), (10, vi (wI ((wU (wI (i7 + i8))).fdiv (2 ^ min (Int.toNat 1) IntKind.u64.bits))))], hp := [(0, Ob.var [vu i0, vi i1, V.str s0]), (12, Ob.row false 3 x2)], nx := 96 } := by kernel_rfl
theorem L115_4_b2 (i0 i1 i5 i7 i8 : Int) (s0 : List UInt8) (x2 : List V) (k : Nat)
    (c0 : decide (i7 < i8) = false) :
    eC k 10 96 120 (loopBody Try.f120 0) { tm := [(0, V.sub 12 0 i5.toNat), (1, vu i0), (2, V.fn (Fn.func 139) [] []), (6, vi 0), (7, V.bool false), (8, vi (↑i5.toNat : Int)), (9, vi i7), (10, vi i8)], hp := [(0, Ob.var [vu i0, vi i1, V.str s0]), (12, Ob.row false 3 x2)], nx := 96 } = some (Exit.exit 0, { tm := [(0, V.sub 12 0 i5.toNat), (1, vu i0), (2, V.fn (Fn.func 139) [] []), (6, vi 0), (7, V.bool false), (8, vi (↑i5.toNat : Int)), (9, vi i7), (10, vi i8), (17, V.bool false)], hp := [(0, Ob.var [vu i0, vi i1, V.str s0]), (12, Ob.row false 3 x2)], nx := 108 }) :=
  byL (k := k) (d := 10) [Hn.br 17 false] (aI c0 trivial) (by kernel_rfl)
inductive L115_4_R where
  | e0 (i7 : Int) (i8 : Int) (x2 : List V)
noncomputable def L115_4_end (i0 : Int) (i1 : Int) (i5 : Int) (s0 : List UInt8) : L115_4_R → Exit × St
  | .e0 i7 i8 x2 => (Exit.exit 0, { tm := [(0, V.sub 12 0 i5.toNat), (1, V.int .u64 i0), (2, V.fn (Fn.func 139) [] []), (6, V.int .i64 0), (7, V.bool false), (8, V.int .i64 (↑i5.toNat : Int)), (9, V.int .i64 i7), (10, V.int .i64 i8), (17, V.bool false)], hp := [(0, Ob.var [V.int .u64 i0, V.int .i64 i1, V.str s0]), (12, Ob.row false 3 x2)], nx := 108 })
def L115_4 (k : Nat) (i0 i1 i5 : Int) (s0 : List UInt8) : Nat → Int → Int → List V → Option L115_4_R
  | 0, _, _, _ => none
  | f + 1, i7, i8, x2 => (bif decide (i7 < i8) then (guardP ((0 : Int) ≤ IntKind.i64.wrap ((IntKind.u64.wrap (IntKind.i64.wrap (i7 + i8))).fdiv ((2 : Int) ^ min (Int.toNat (1 : Int)) IntKind.u64.bits)) ∧ IntKind.i64.wrap ((IntKind.u64.wrap (IntKind.i64.wrap (i7 + i8))).fdiv ((2 : Int) ^ min (Int.toNat (1 : Int)) IntKind.u64.bits)) < (↑i5.toNat : Int)) ((((x2)[0 + (IntKind.i64.wrap ((IntKind.u64.wrap (IntKind.i64.wrap (i7 + i8))).fdiv (2 ^ min (Int.toNat 1) IntKind.u64.bits))).toNat]?).bind dAu64i64sZ).bind fun (i9, i10, s2) => ((F139 (k + 1) (i9) (i10) (s2) (i0)).bind fun i11 => (bif decide (i11 < 0) then (L115_4 k i0 i1 i5 s0 f (IntKind.i64.wrap (IntKind.i64.wrap ((IntKind.u64.wrap (IntKind.i64.wrap (i7 + i8))).fdiv (2 ^ min (Int.toNat 1) IntKind.u64.bits)) + 1)) (i8) (x2)) else (L115_4 k i0 i1 i5 s0 f (i7) (IntKind.i64.wrap ((IntKind.u64.wrap (IntKind.i64.wrap (i7 + i8))).fdiv (2 ^ min (Int.toNat 1) IntKind.u64.bits))) (x2)))))) else (some (L115_4_R.e0 i7 i8 x2)))
theorem L115_4_ok {i0 i1 i5 : Int} {s0 : List UInt8} {k : Nat} : ∀ {f : Nat} {i7 : Int} {i8 : Int} {x2 : List V} {r : L115_4_R}, L115_4 k i0 i1 i5 s0 f i7 i8 x2 = some r →
    LoopsN Try.prog Try.cfg (k + 10) 96 Try.f120 (Try.cfg.fc 120) 0 [0, 1, 2, 6, 7, 8, 9, 10] f { tm := [(0, V.sub 12 0 i5.toNat), (1, vu i0), (2, V.fn (Fn.func 139) [] []), (6, vi 0), (7, V.bool false), (8, vi (↑i5.toNat : Int)), (9, vi i7), (10, vi i8)], hp := [(0, Ob.var [vu i0, vi i1, V.str s0]), (12, Ob.row false 3 x2)], nx := 96 } (L115_4_end i0 i1 i5 s0 r) := by
  intro f
  induction f with
  | zero => intro i7 i8 x2 r h; cases h
  | succ f ih =>
    intro i7 i8 x2 r h
    rw [L115_4] at h
    rcases cond_elim h with ⟨e0, h⟩ | ⟨e0, h⟩
    ·
      obtain ⟨e1, h⟩ := guardP_some.1 h
      obtain ⟨⟨i9, i10, s2⟩, e2, h⟩ := bE h
      obtain ⟨i11, e3, h⟩ := bE h
      rcases cond_elim h with ⟨e4, h⟩ | ⟨e4, h⟩
      ·
        exact LoopsN.next (L115_4_b0 i0 i1 i5 i7 i8 i9 i10 i11 s0 s2 x2 k e0 (IdxR.mk' e1 rfl) (LdP.mk (get_d dAu64i64sZ_ok e2 :) (by kernel_rfl)) (F139_ok e3) e4) (L115_4_b0h i0 i1 i5 i7 i8 s0 x2) (ih h)
      ·
        exact LoopsN.next (L115_4_b1 i0 i1 i5 i7 i8 i9 i10 i11 s0 s2 x2 k e0 (IdxR.mk' e1 rfl) (LdP.mk (get_d dAu64i64sZ_ok e2 :) (by kernel_rfl)) (F139_ok e3) e4) (L115_4_b1h i0 i1 i5 i7 i8 s0 x2) (ih h)
    ·
      cases h; exact LoopsN.done (L115_4_b2 i0 i1 i5 i7 i8 s0 x2 k e0) (fun h => by cases h)
theorem P115_0 (i0 i1 i2 : Int) (b0 : Bool) (s0 : List UInt8) (x0 : List V) (o0 : Option Bool) (n0 k : Nat)
    (c0 : libSem { k := 8, t := 3, e := 120 } [V.sl o0 b0 n0 x0] [(0, Ob.var [vu i0, vi i1, V.str s0])] 12 = some (V.ref 12, [(0, Ob.var [vu i0, vi i1, V.str s0]), (12, Ob.row false 3 x0)], 16))
    (c1 : LoopsN Try.prog Try.cfg (k + 9) 32 Try.f151 (Try.cfg.fc 151) 0 [0, 1, 4, 7, 8] (k + 9) { tm := [(0, V.ref 12), (1, V.fn (Fn.func 138) [] [V.ptr 0 0]), (4, vi 0), (7, vi (↑x0.length : Int)), (8, vi 0)], hp := [(0, Ob.var [vu i0, vi i1, V.str s0]), (12, Ob.row false 3 x0)], nx := 32 } (Exit.exit 0, { tm := [(0, V.ref 12), (1, V.fn (Fn.func 138) [] [V.ptr 0 0]), (4, vi 0), (7, vi (↑x0.length : Int)), (8, vi i2), (9, V.bool false)], hp := [(0, Ob.var [vu i0, vi i1, V.str s0]), (12, Ob.row false 3 x0)], nx := 36 }))
    (c2 : decide (i1 = 0) = true) :
    cP ((k + 12)) 115 [V.sl o0 b0 n0 x0, V.agg [vu i0, vi i1, V.str s0]] = some (V.sl none false 3 x0) :=
  byF (k := k) (d := 12) [Hn.enter, Hn.lib (V.ref 12, [(0, Ob.var [vu i0, vi i1, V.str s0]), (12, Ob.row false 3 x0)], 16), Hn.enter, Hn.enter, Hn.loop (Exit.exit 0, { tm := [(0, V.ref 12), (1, V.fn (Fn.func 138) [] [V.ptr 0 0]), (4, vi 0), (7, vi (↑x0.length : Int)), (8, vi i2), (9, V.bool false)], hp := [(0, Ob.var [vu i0, vi i1, V.str s0]), (12, Ob.row false 3 x0)], nx := 36 }), Hn.br 14 true] (aI c0 (aI c1 (aI c2 trivial))) (by kernel_rfl)
theorem P115_1 (i0 i1 i2 i3 i4 i5 i6 i7 : Int) (b0 : Bool) (s0 s1 : List UInt8) (x0 : List V) (o0 : Option Bool) (n0 k : Nat)
    (c0 : libSem { k := 8, t := 3, e := 120 } [V.sl o0 b0 n0 x0] [(0, Ob.var [vu i0, vi i1, V.str s0])] 12 = some (V.ref 12, [(0, Ob.var [vu i0, vi i1, V.str s0]), (12, Ob.row false 3 x0)], 16))
    (c1 : LoopsN Try.prog Try.cfg (k + 9) 32 Try.f151 (Try.cfg.fc 151) 0 [0, 1, 4, 7, 8] (k + 9) { tm := [(0, V.ref 12), (1, V.fn (Fn.func 138) [] [V.ptr 0 0]), (4, vi 0), (7, vi (↑x0.length : Int)), (8, vi 0)], hp := [(0, Ob.var [vu i0, vi i1, V.str s0]), (12, Ob.row false 3 x0)], nx := 32 } (Exit.exit 0, { tm := [(0, V.ref 12), (1, V.fn (Fn.func 138) [] [V.ptr 0 0]), (4, vi 0), (7, vi (↑x0.length : Int)), (8, vi i2), (9, V.bool false)], hp := [(0, Ob.var [vu i0, vi i1, V.str s0]), (12, Ob.row false 3 x0)], nx := 36 }))
    (c2 : decide (i1 = 0) = false)
    (c3 : LoopsN Try.prog Try.cfg (k + 10) 88 Try.f120 (Try.cfg.fc 120) 0 [0, 1, 2, 6, 7, 8, 9, 10] (k + 10) { tm := [(0, V.ref 12), (1, vu i0), (2, V.fn (Fn.func 139) [] []), (6, vi 0), (7, V.bool false), (8, vi (↑x0.length : Int)), (9, vi 0), (10, vi (↑x0.length : Int))], hp := [(0, Ob.var [vu i0, vi i1, V.str s0]), (12, Ob.row false 3 x0)], nx := 88 } (Exit.exit 0, { tm := [(0, V.ref 12), (1, vu i0), (2, V.fn (Fn.func 139) [] []), (6, vi 0), (7, V.bool false), (8, vi (↑x0.length : Int)), (9, vi i3), (10, vi i4), (17, V.bool false)], hp := [(0, Ob.var [vu i0, vi i1, V.str s0]), (12, Ob.row false 3 x0)], nx := 100 }))
    (c4 : decide (i3 < (↑x0.length : Int)) = true)
    (c5 : IdxR x0.length i3 3 3 (V.ept 12 i3.toNat 0))
    (c6 : LdP Try.prog 120 x0 i3.toNat 0 (V.agg [vu i5, vi i6, V.str s1]))
    (c7 : cP ((k + 10)) 139 [V.agg [vu i5, vi i6, V.str s1], vu i0] = some (vi i7))
    (c8 : libSem { k := 6, t := 3, e := 0 } [V.ref 12, vi i3, V.ref 196] [(0, Ob.var [vu i0, vi i1, V.str s0]), (12, Ob.row false 3 x0), (196, Ob.row false 3 [V.agg [vu i0, vi i1, V.str s0]])] 200 = some (V.ref 200, [(0, Ob.var [vu i0, vi i1, V.str s0]), (12, Ob.dead), (196, Ob.row false 3 [V.agg [vu i0, vi i1, V.str s0]]), (200, Ob.row false 3 (insL x0 i3.toNat (V.agg [vu i0, vi i1, V.str s0])))], 204)) :
    cP ((k + 12)) 115 [V.sl o0 b0 n0 x0, V.agg [vu i0, vi i1, V.str s0]] = some (V.sl none false 3 (insL x0 i3.toNat (V.agg [vu i0, vi i1, V.str s0]))) :=
  byF (k := k) (d := 12) [Hn.enter, Hn.lib (V.ref 12, [(0, Ob.var [vu i0, vi i1, V.str s0]), (12, Ob.row false 3 x0)], 16), Hn.enter, Hn.enter, Hn.loop (Exit.exit 0, { tm := [(0, V.ref 12), (1, V.fn (Fn.func 138) [] [V.ptr 0 0]), (4, vi 0), (7, vi (↑x0.length : Int)), (8, vi i2), (9, V.bool false)], hp := [(0, Ob.var [vu i0, vi i1, V.str s0]), (12, Ob.row false 3 x0)], nx := 36 }), Hn.br 14 false, Hn.enter, Hn.loop (Exit.exit 0, { tm := [(0, V.ref 12), (1, vu i0), (2, V.fn (Fn.func 139) [] []), (6, vi 0), (7, V.bool false), (8, vi (↑x0.length : Int)), (9, vi i3), (10, vi i4), (17, V.bool false)], hp := [(0, Ob.var [vu i0, vi i1, V.str s0]), (12, Ob.row false 3 x0)], nx := 100 }), Hn.br 39 true, Hn.op 43 (V.ept 12 i3.toNat 0) [], Hn.op 44 (V.agg [vu i5, vi i6, V.str s1]) [], Hn.call 46 (vi i7), Hn.enter, Hn.lib (V.ref 200, [(0, Ob.var [vu i0, vi i1, V.str s0]), (12, Ob.dead), (196, Ob.row false 3 [V.agg [vu i0, vi i1, V.str s0]]), (200, Ob.row false 3 (insL x0 i3.toNat (V.agg [vu i0, vi i1, V.str s0])))], 204)] (aI c0 (aI c1 (aI c2 (aI c3 (aI c4 (aI c5 (aI c6 (aI c7 (aI c8 trivial))))))))) (by kernel_rfl)
theorem P115_2 (i0 i1 i2 i3 i4 : Int) (b0 : Bool) (s0 : List UInt8) (x0 : List V) (o0 : Option Bool) (n0 k : Nat)
    (c0 : libSem { k := 8, t := 3, e := 120 } [V.sl o0 b0 n0 x0] [(0, Ob.var [vu i0, vi i1, V.str s0])] 12 = some (V.ref 12, [(0, Ob.var [vu i0, vi i1, V.str s0]), (12, Ob.row false 3 x0)], 16))
    (c1 : LoopsN Try.prog Try.cfg (k + 9) 32 Try.f151 (Try.cfg.fc 151) 0 [0, 1, 4, 7, 8] (k + 9) { tm := [(0, V.ref 12), (1, V.fn (Fn.func 138) [] [V.ptr 0 0]), (4, vi 0), (7, vi (↑x0.length : Int)), (8, vi 0)], hp := [(0, Ob.var [vu i0, vi i1, V.str s0]), (12, Ob.row false 3 x0)], nx := 32 } (Exit.exit 0, { tm := [(0, V.ref 12), (1, V.fn (Fn.func 138) [] [V.ptr 0 0]), (4, vi 0), (7, vi (↑x0.length : Int)), (8, vi i2), (9, V.bool false)], hp := [(0, Ob.var [vu i0, vi i1, V.str s0]), (12, Ob.row false 3 x0)], nx := 36 }))
    (c2 : decide (i1 = 0) = false)
    (c3 : LoopsN Try.prog Try.cfg (k + 10) 88 Try.f120 (Try.cfg.fc 120) 0 [0, 1, 2, 6, 7, 8, 9, 10] (k + 10) { tm := [(0, V.ref 12), (1, vu i0), (2, V.fn (Fn.func 139) [] []), (6, vi 0), (7, V.bool false), (8, vi (↑x0.length : Int)), (9, vi 0), (10, vi (↑x0.length : Int))], hp := [(0, Ob.var [vu i0, vi i1, V.str s0]), (12, Ob.row false 3 x0)], nx := 88 } (Exit.exit 0, { tm := [(0, V.ref 12), (1, vu i0), (2, V.fn (Fn.func 139) [] []), (6, vi 0), (7, V.bool false), (8, vi (↑x0.length : Int)), (9, vi i3), (10, vi i4), (17, V.bool false)], hp := [(0, Ob.var [vu i0, vi i1, V.str s0]), (12, Ob.row false 3 x0)], nx := 100 }))
    (c4 : decide (i3 < (↑x0.length : Int)) = false)
    (c5 : libSem { k := 6, t := 3, e := 0 } [V.ref 12, vi i3, V.ref 196] [(0, Ob.var [vu i0, vi i1, V.str s0]), (12, Ob.row false 3 x0), (196, Ob.row false 3 [V.agg [vu i0, vi i1, V.str s0]])] 200 = some (V.ref 200, [(0, Ob.var [vu i0, vi i1, V.str s0]), (12, Ob.dead), (196, Ob.row false 3 [V.agg [vu i0, vi i1, V.str s0]]), (200, Ob.row false 3 (insL x0 i3.toNat (V.agg [vu i0, vi i1, V.str s0])))], 204)) :
    cP ((k + 12)) 115 [V.sl o0 b0 n0 x0, V.agg [vu i0, vi i1, V.str s0]] = some (V.sl none false 3 (insL x0 i3.toNat (V.agg [vu i0, vi i1, V.str s0]))) :=
  byF (k := k) (d := 12) [Hn.enter, Hn.lib (V.ref 12, [(0, Ob.var [vu i0, vi i1, V.str s0]), (12, Ob.row false 3 x0)], 16), Hn.enter, Hn.enter, Hn.loop (Exit.exit 0, { tm := [(0, V.ref 12), (1, V.fn (Fn.func 138) [] [V.ptr 0 0]), (4, vi 0), (7, vi (↑x0.length : Int)), (8, vi i2), (9, V.bool false)], hp := [(0, Ob.var [vu i0, vi i1, V.str s0]), (12, Ob.row false 3 x0)], nx := 36 }), Hn.br 14 false, Hn.enter, Hn.loop (Exit.exit 0, { tm := [(0, V.ref 12), (1, vu i0), (2, V.fn (Fn.func 139) [] []), (6, vi 0), (7, V.bool false), (8, vi (↑x0.length : Int)), (9, vi i3), (10, vi i4), (17, V.bool false)], hp := [(0, Ob.var [vu i0, vi i1, V.str s0]), (12, Ob.row false 3 x0)], nx := 100 }), Hn.br 39 false, Hn.enter, Hn.lib (V.ref 200, [(0, Ob.var [vu i0, vi i1, V.str s0]), (12, Ob.dead), (196, Ob.row false 3 [V.agg [vu i0, vi i1, V.str s0]]), (200, Ob.row false 3 (insL x0 i3.toNat (V.agg [vu i0, vi i1, V.str s0])))], 204)] (aI c0 (aI c1 (aI c2 (aI c3 (aI c4 (aI c5 trivial)))))) (by kernel_rfl)
theorem P115_3 (i0 i1 i2 i3 i4 : Int) (b0 : Bool) (s0 s1 : List UInt8) (x0 : List V) (o0 : Option Bool) (n0 k : Nat)
    (c0 : libSem { k := 8, t := 3, e := 120 } [V.sl o0 b0 n0 x0] [(0, Ob.var [vu i0, vi i1, V.str s0])] 12 = some (V.ref 12, [(0, Ob.var [vu i0, vi i1, V.str s0]), (12, Ob.row false 3 x0)], 16))
    (c1 : LoopsN Try.prog Try.cfg (k + 9) 32 Try.f151 (Try.cfg.fc 151) 0 [0, 1, 4, 7, 8] (k + 9) { tm := [(0, V.ref 12), (1, V.fn (Fn.func 138) [] [V.ptr 0 0]), (4, vi 0), (7, vi (↑x0.length : Int)), (8, vi 0)], hp := [(0, Ob.var [vu i0, vi i1, V.str s0]), (12, Ob.row false 3 x0)], nx := 32 } (Exit.ret, { tm := [(0, V.ref 12), (1, V.fn (Fn.func 138) [] [V.ptr 0 0]), (4, vi i2), (5, vi i2), (7, vi (↑x0.length : Int)), (8, vi i2), (9, V.bool true), (16, V.bool true)], hp := [(0, Ob.var [vu i0, vi i1, V.str s0]), (12, Ob.row false 3 x0), (64, Ob.var [vu i3, vi i4, V.str s1])], nx := 104 }))
    (c2 : decide (i2 = -1) = true)
    (c3 : decide (i1 = 0) = true) :
    cP ((k + 12)) 115 [V.sl o0 b0 n0 x0, V.agg [vu i0, vi i1, V.str s0]] = some (V.sl none false 3 x0) :=
  byF (k := k) (d := 12) [Hn.enter, Hn.lib (V.ref 12, [(0, Ob.var [vu i0, vi i1, V.str s0]), (12, Ob.row false 3 x0)], 16), Hn.enter, Hn.enter, Hn.loop (Exit.ret, { tm := [(0, V.ref 12), (1, V.fn (Fn.func 138) [] [V.ptr 0 0]), (4, vi i2), (5, vi i2), (7, vi (↑x0.length : Int)), (8, vi i2), (9, V.bool true), (16, V.bool true)], hp := [(0, Ob.var [vu i0, vi i1, V.str s0]), (12, Ob.row false 3 x0), (64, Ob.var [vu i3, vi i4, V.str s1])], nx := 104 }), Hn.br 12 true, Hn.br 14 true] (aI c0 (aI c1 (aI c2 (aI c3 trivial)))) (by kernel_rfl)
theorem P115_4 (i0 i1 i2 i3 i4 i5 i6 i7 i8 i9 : Int) (b0 : Bool) (s0 s1 s2 : List UInt8) (x0 : List V) (o0 : Option Bool) (n0 k : Nat)
    (c0 : libSem { k := 8, t := 3, e := 120 } [V.sl o0 b0 n0 x0] [(0, Ob.var [vu i0, vi i1, V.str s0])] 12 = some (V.ref 12, [(0, Ob.var [vu i0, vi i1, V.str s0]), (12, Ob.row false 3 x0)], 16))
    (c1 : LoopsN Try.prog Try.cfg (k + 9) 32 Try.f151 (Try.cfg.fc 151) 0 [0, 1, 4, 7, 8] (k + 9) { tm := [(0, V.ref 12), (1, V.fn (Fn.func 138) [] [V.ptr 0 0]), (4, vi 0), (7, vi (↑x0.length : Int)), (8, vi 0)], hp := [(0, Ob.var [vu i0, vi i1, V.str s0]), (12, Ob.row false 3 x0)], nx := 32 } (Exit.ret, { tm := [(0, V.ref 12), (1, V.fn (Fn.func 138) [] [V.ptr 0 0]), (4, vi i2), (5, vi i2), (7, vi (↑x0.length : Int)), (8, vi i2), (9, V.bool true), (16, V.bool true)], hp := [(0, Ob.var [vu i0, vi i1, V.str s0]), (12, Ob.row false 3 x0), (64, Ob.var [vu i3, vi i4, V.str s1])], nx := 104 }))
    (c2 : decide (i2 = -1) = true)
    (c3 : decide (i1 = 0) = false)
    (c4 : LoopsN Try.prog Try.cfg (k + 10) 152 Try.f120 (Try.cfg.fc 120) 0 [0, 1, 2, 6, 7, 8, 9, 10] (k + 10) { tm := [(0, V.ref 12), (1, vu i0), (2, V.fn (Fn.func 139) [] []), (6, vi 0), (7, V.bool false), (8, vi (↑x0.length : Int)), (9, vi 0), (10, vi (↑x0.length : Int))], hp := [(0, Ob.var [vu i0, vi i1, V.str s0]), (12, Ob.row false 3 x0), (64, Ob.var [vu i3, vi i4, V.str s1])], nx := 152 } (Exit.exit 0, { tm := [(0, V.ref 12), (1, vu i0), (2, V.fn (Fn.func 139) [] []), (6, vi 0), (7, V.bool false), (8, vi (↑x0.length : Int)), (9, vi i5), (10, vi i6), (17, V.bool false)], hp := [(0, Ob.var [vu i0, vi i1, V.str s0]), (12, Ob.row false 3 x0), (64, Ob.var [vu i3, vi i4, V.str s1])], nx := 164 }))
    (c5 : decide (i5 < (↑x0.length : Int)) = true)
    (c6 : IdxR x0.length i5 3 3 (V.ept 12 i5.toNat 0))
    (c7 : LdP Try.prog 120 x0 i5.toNat 0 (V.agg [vu i7, vi i8, V.str s2]))
    (c8 : cP ((k + 10)) 139 [V.agg [vu i7, vi i8, V.str s2], vu i0] = some (vi i9))
    (c9 : libSem { k := 6, t := 3, e := 0 } [V.ref 12, vi i5, V.ref 260] [(0, Ob.var [vu i0, vi i1, V.str s0]), (12, Ob.row false 3 x0), (64, Ob.var [vu i3, vi i4, V.str s1]), (260, Ob.row false 3 [V.agg [vu i0, vi i1, V.str s0]])] 264 = some (V.ref 264, [(0, Ob.var [vu i0, vi i1, V.str s0]), (12, Ob.dead), (64, Ob.var [vu i3, vi i4, V.str s1]), (260, Ob.row false 3 [V.agg [vu i0, vi i1, V.str s0]]), (264, Ob.row false 3 (insL x0 i5.toNat (V.agg [vu i0, vi i1, V.str s0])))], 268)) :
    cP ((k + 12)) 115 [V.sl o0 b0 n0 x0, V.agg [vu i0, vi i1, V.str s0]] = some (V.sl none false 3 (insL x0 i5.toNat (V.agg [vu i0, vi i1, V.str s0]))) :=
  byF (k := k) (d := 12) [Hn.enter, Hn.lib (V.ref 12, [(0, Ob.var [vu i0, vi i1, V.str s0]), (12, Ob.row false 3 x0)], 16), Hn.enter, Hn.enter, Hn.loop (Exit.ret, { tm := [(0, V.ref 12), (1, V.fn (Fn.func 138) [] [V.ptr 0 0]), (4, vi i2), (5, vi i2), (7, vi (↑x0.length : Int)), (8, vi i2), (9, V.bool true), (16, V.bool true)], hp := [(0, Ob.var [vu i0, vi i1, V.str s0]), (12, Ob.row false 3 x0), (64, Ob.var [vu i3, vi i4, V.str s1])], nx := 104 }), Hn.br 12 true, Hn.br 14 false, Hn.enter, Hn.loop (Exit.exit 0, { tm := [(0, V.ref 12), (1, vu i0), (2, V.fn (Fn.func 139) [] []), (6, vi 0), (7, V.bool false), (8, vi (↑x0.length : Int)), (9, vi i5), (10, vi i6), (17, V.bool false)], hp := [(0, Ob.var [vu i0, vi i1, V.str s0]), (12, Ob.row false 3 x0), (64, Ob.var [vu i3, vi i4, V.str s1])], nx := 164 }), Hn.br 39 true, Hn.op 43 (V.ept 12 i5.toNat 0) [], Hn.op 44 (V.agg [vu i7, vi i8, V.str s2]) [], Hn.call 46 (vi i9), Hn.enter, Hn.lib (V.ref 264, [(0, Ob.var [vu i0, vi i1, V.str s0]), (12, Ob.dead), (64, Ob.var [vu i3, vi i4, V.str s1]), (260, Ob.row false 3 [V.agg [vu i0, vi i1, V.str s0]]), (264, Ob.row false 3 (insL x0 i5.toNat (V.agg [vu i0, vi i1, V.str s0])))], 268)] (aI c0 (aI c1 (aI c2 (aI c3 (aI c4 (aI c5 (aI c6 (aI c7 (aI c8 (aI c9 trivial)))))))))) (by kernel_rfl)
theorem P115_5 (i0 i1 i2 i3 i4 i5 i6 : Int) (b0 : Bool) (s0 s1 : List UInt8) (x0 : List V) (o0 : Option Bool) (n0 k : Nat)
    (c0 : libSem { k := 8, t := 3, e := 120 } [V.sl o0 b0 n0 x0] [(0, Ob.var [vu i0, vi i1, V.str s0])] 12 = some (V.ref 12, [(0, Ob.var [vu i0, vi i1, V.str s0]), (12, Ob.row false 3 x0)], 16))
    (c1 : LoopsN Try.prog Try.cfg (k + 9) 32 Try.f151 (Try.cfg.fc 151) 0 [0, 1, 4, 7, 8] (k + 9) { tm := [(0, V.ref 12), (1, V.fn (Fn.func 138) [] [V.ptr 0 0]), (4, vi 0), (7, vi (↑x0.length : Int)), (8, vi 0)], hp := [(0, Ob.var [vu i0, vi i1, V.str s0]), (12, Ob.row false 3 x0)], nx := 32 } (Exit.ret, { tm := [(0, V.ref 12), (1, V.fn (Fn.func 138) [] [V.ptr 0 0]), (4, vi i2), (5, vi i2), (7, vi (↑x0.length : Int)), (8, vi i2), (9, V.bool true), (16, V.bool true)], hp := [(0, Ob.var [vu i0, vi i1, V.str s0]), (12, Ob.row false 3 x0), (64, Ob.var [vu i3, vi i4, V.str s1])], nx := 104 }))
    (c2 : decide (i2 = -1) = true)
    (c3 : decide (i1 = 0) = false)
    (c4 : LoopsN Try.prog Try.cfg (k + 10) 152 Try.f120 (Try.cfg.fc 120) 0 [0, 1, 2, 6, 7, 8, 9, 10] (k + 10) { tm := [(0, V.ref 12), (1, vu i0), (2, V.fn (Fn.func 139) [] []), (6, vi 0), (7, V.bool false), (8, vi (↑x0.length : Int)), (9, vi 0), (10, vi (↑x0.length : Int))], hp := [(0, Ob.var [vu i0, vi i1, V.str s0]), (12, Ob.row false 3 x0), (64, Ob.var [vu i3, vi i4, V.str s1])], nx := 152 } (Exit.exit 0, { tm := [(0, V.ref 12), (1, vu i0), (2, V.fn (Fn.func 139) [] []), (6, vi 0), (7, V.bool false), (8, vi (↑x0.length : Int)), (9, vi i5), (10, vi i6), (17, V.bool false)], hp := [(0, Ob.var [vu i0, vi i1, V.str s0]), (12, Ob.row false 3 x0), (64, Ob.var [vu i3, vi i4, V.str s1])], nx := 164 }))
    (c5 : decide (i5 < (↑x0.length : Int)) = false)
    (c6 : libSem { k := 6, t := 3, e := 0 } [V.ref 12, vi i5, V.ref 260] [(0, Ob.var [vu i0, vi i1, V.str s0]), (12, Ob.row false 3 x0), (64, Ob.var [vu i3, vi i4, V.str s1]), (260, Ob.row false 3 [V.agg [vu i0, vi i1, V.str s0]])] 264 = some (V.ref 264, [(0, Ob.var [vu i0, vi i1, V.str s0]), (12, Ob.dead), (64, Ob.var [vu i3, vi i4, V.str s1]), (260, Ob.row false 3 [V.agg [vu i0, vi i1, V.str s0]]), (264, Ob.row false 3 (insL x0 i5.toNat (V.agg [vu i0, vi i1, V.str s0])))], 268)) :
    cP ((k + 12)) 115 [V.sl o0 b0 n0 x0, V.agg [vu i0, vi i1, V.str s0]] = some (V.sl none false 3 (insL x0 i5.toNat (V.agg [vu i0, vi i1, V.str s0]))) :=
  byF (k := k) (d := 12) [Hn.enter, Hn.lib (V.ref 12, [(0, Ob.var [vu i0, vi i1, V.str s0]), (12, Ob.row false 3 x0)], 16), Hn.enter, Hn.enter, Hn.loop (Exit.ret, { tm := [(0, V.ref 12), (1, V.fn (Fn.func 138) [] [V.ptr 0 0]), (4, vi i2), (5, vi i2), (7, vi (↑x0.length : Int)), (8, vi i2), (9, V.bool true), (16, V.bool true)], hp := [(0, Ob.var [vu i0, vi i1, V.str s0]), (12, Ob.row false 3 x0), (64, Ob.var [vu i3, vi i4, V.str s1])], nx := 104 }), Hn.br 12 true, Hn.br 14 false, Hn.enter, Hn.loop (Exit.exit 0, { tm := [(0, V.ref 12), (1, vu i0), (2, V.fn (Fn.func 139) [] []), (6, vi 0), (7, V.bool false), (8, vi (↑x0.length : Int)), (9, vi i5), (10, vi i6), (17, V.bool false)], hp := [(0, Ob.var [vu i0, vi i1, V.str s0]), (12, Ob.row false 3 x0), (64, Ob.var [vu i3, vi i4, V.str s1])], nx := 164 }), Hn.br 39 false, Hn.enter, Hn.lib (V.ref 264, [(0, Ob.var [vu i0, vi i1, V.str s0]), (12, Ob.dead), (64, Ob.var [vu i3, vi i4, V.str s1]), (260, Ob.row false 3 [V.agg [vu i0, vi i1, V.str s0]]), (264, Ob.row false 3 (insL x0 i5.toNat (V.agg [vu i0, vi i1, V.str s0])))], 268)] (aI c0 (aI c1 (aI c2 (aI c3 (aI c4 (aI c5 (aI c6 trivial))))))) (by kernel_rfl)
theorem P115_6 (i0 i1 i2 i3 i4 i5 i6 : Int) (b0 : Bool) (s0 s1 : List UInt8) (x0 x1 : List V) (o0 : Option Bool) (n0 k : Nat)
    (c0 : libSem { k := 8, t := 3, e := 120 } [V.sl o0 b0 n0 x0] [(0, Ob.var [vu i0, vi i1, V.str s0])] 12 = some (V.ref 12, [(0, Ob.var [vu i0, vi i1, V.str s0]), (12, Ob.row false 3 x0)], 16))
    (c1 : LoopsN Try.prog Try.cfg (k + 9) 32 Try.f151 (Try.cfg.fc 151) 0 [0, 1, 4, 7, 8] (k + 9) { tm := [(0, V.ref 12), (1, V.fn (Fn.func 138) [] [V.ptr 0 0]), (4, vi 0), (7, vi (↑x0.length : Int)), (8, vi 0)], hp := [(0, Ob.var [vu i0, vi i1, V.str s0]), (12, Ob.row false 3 x0)], nx := 32 } (Exit.ret, { tm := [(0, V.ref 12), (1, V.fn (Fn.func 138) [] [V.ptr 0 0]), (4, vi i2), (5, vi i2), (7, vi (↑x0.length : Int)), (8, vi i2), (9, V.bool true), (16, V.bool true)], hp := [(0, Ob.var [vu i0, vi i1, V.str s0]), (12, Ob.row false 3 x0), (64, Ob.var [vu i3, vi i4, V.str s1])], nx := 104 }))
    (c2 : decide (i2 = -1) = false)
    (c3 : LoopsN Try.prog Try.cfg (k + 10) 20 Try.f136 (Try.cfg.fc 136) 0 [0, 1, 4, 5, 6, 12] (k + 10) { tm := [(0, V.ref 12), (1, V.fn (Fn.func 138) [] [V.ptr 0 0]), (4, V.sl (some true) true 0 []), (5, vi i2), (6, vi (wI (i2 + 1))), (12, V.bool false)], hp := [(0, Ob.var [vu i0, vi i1, V.str s0]), (12, Ob.row false 3 x0)], nx := 20 } (Exit.exit 0, { tm := [(0, V.ref 12), (1, V.fn (Fn.func 138) [] [V.ptr 0 0]), (4, V.sl (some true) true 0 []), (5, vi i5), (6, vi i6), (12, V.bool false), (19, V.bool false)], hp := [(0, Ob.var [vu i0, vi i1, V.str s0]), (12, Ob.row false 3 x1)], nx := 36 }))
    (c4 : SlcR x1.length 3 3 12 (some (vi i5)) none (V.sub 12 i5.toNat (x1.length - i5.toNat)))
    (c5 : SlcR (List.take i5.toNat x1 ++ (List.replicate (x1.length - i5.toNat) (V.agg ((fun xs => vu 0 :: xs) ((fun xs => vi 0 :: xs) ((fun xs => V.str [] :: xs) [])))) ++ List.drop (i5.toNat + (x1.length - i5.toNat)) x1)).length 3 3 12 none (some (vi i5)) (V.sub 12 0 i5.toNat))
    (c6 : decide (i1 = 0) = true) :
    cP ((k + 12)) 115 [V.sl o0 b0 n0 x0, V.agg [vu i0, vi i1, V.str s0]] = some (V.sl none false 3 (List.take i5.toNat (List.drop 0 (List.take i5.toNat x1 ++ (List.replicate (x1.length - i5.toNat) (V.agg [vu 0, vi 0, V.str []]) ++ List.drop (i5.toNat + (x1.length - i5.toNat)) x1))))) :=
  byF (k := k) (d := 12) [Hn.enter, Hn.lib (V.ref 12, [(0, Ob.var [vu i0, vi i1, V.str s0]), (12, Ob.row false 3 x0)], 16), Hn.enter, Hn.enter, Hn.loop (Exit.ret, { tm := [(0, V.ref 12), (1, V.fn (Fn.func 138) [] [V.ptr 0 0]), (4, vi i2), (5, vi i2), (7, vi (↑x0.length : Int)), (8, vi i2), (9, V.bool true), (16, V.bool true)], hp := [(0, Ob.var [vu i0, vi i1, V.str s0]), (12, Ob.row false 3 x0), (64, Ob.var [vu i3, vi i4, V.str s1])], nx := 104 }), Hn.br 12 false, Hn.loop (Exit.exit 0, { tm := [(0, V.ref 12), (1, V.fn (Fn.func 138) [] [V.ptr 0 0]), (4, V.sl (some true) true 0 []), (5, vi i5), (6, vi i6), (12, V.bool false), (19, V.bool false)], hp := [(0, Ob.var [vu i0, vi i1, V.str s0]), (12, Ob.row false 3 x1)], nx := 36 }), Hn.op 38 (V.sub 12 i5.toNat (x1.length - i5.toNat)) [], Hn.op 41 (V.sub 12 0 i5.toNat) [], Hn.br 14 true] (aI c0 (aI c1 (aI c2 (aI c3 (aI c4 (aI c5 (aI c6 trivial))))))) (by kernel_rfl)
theorem P115_7 (i0 i1 i2 i3 i4 i5 i6 i7 i8 i9 i10 i11 : Int) (b0 : Bool) (s0 s1 s2 : List UInt8) (x0 x1 x2 : List V) (o0 : Option Bool) (n0 k : Nat)
    (c0 : libSem { k := 8, t := 3, e := 120 } [V.sl o0 b0 n0 x0] [(0, Ob.var [vu i0, vi i1, V.str s0])] 12 = some (V.ref 12, [(0, Ob.var [vu i0, vi i1, V.str s0]), (12, Ob.row false 3 x0)], 16))
    (c1 : LoopsN Try.prog Try.cfg (k + 9) 32 Try.f151 (Try.cfg.fc 151) 0 [0, 1, 4, 7, 8] (k + 9) { tm := [(0, V.ref 12), (1, V.fn (Fn.func 138) [] [V.ptr 0 0]), (4, vi 0), (7, vi (↑x0.length : Int)), (8, vi 0)], hp := [(0, Ob.var [vu i0, vi i1, V.str s0]), (12, Ob.row false 3 x0)], nx := 32 } (Exit.ret, { tm := [(0, V.ref 12), (1, V.fn (Fn.func 138) [] [V.ptr 0 0]), (4, vi i2), (5, vi i2), (7, vi (↑x0.length : Int)), (8, vi i2), (9, V.bool true), (16, V.bool true)], hp := [(0, Ob.var [vu i0, vi i1, V.str s0]), (12, Ob.row false 3 x0), (64, Ob.var [vu i3, vi i4, V.str s1])], nx := 104 }))
    (c2 : decide (i2 = -1) = false)
    (c3 : LoopsN Try.prog Try.cfg (k + 10) 20 Try.f136 (Try.cfg.fc 136) 0 [0, 1, 4, 5, 6, 12] (k + 10) { tm := [(0, V.ref 12), (1, V.fn (Fn.func 138) [] [V.ptr 0 0]), (4, V.sl (some true) true 0 []), (5, vi i2), (6, vi (wI (i2 + 1))), (12, V.bool false)], hp := [(0, Ob.var [vu i0, vi i1, V.str s0]), (12, Ob.row false 3 x0)], nx := 20 } (Exit.exit 0, { tm := [(0, V.ref 12), (1, V.fn (Fn.func 138) [] [V.ptr 0 0]), (4, V.sl (some true) true 0 []), (5, vi i5), (6, vi i6), (12, V.bool false), (19, V.bool false)], hp := [(0, Ob.var [vu i0, vi i1, V.str s0]), (12, Ob.row false 3 x1)], nx := 36 }))
    (c4 : SlcR x1.length 3 3 12 (some (vi i5)) none (V.sub 12 i5.toNat (x1.length - i5.toNat)))
    (c5 : SlcR (List.take i5.toNat x1 ++ (List.replicate (x1.length - i5.toNat) (V.agg ((fun xs => vu 0 :: xs) ((fun xs => vi 0 :: xs) ((fun xs => V.str [] :: xs) [])))) ++ List.drop (i5.toNat + (x1.length - i5.toNat)) x1)).length 3 3 12 none (some (vi i5)) (V.sub 12 0 i5.toNat))
    (c6 : decide (i1 = 0) = false)
    (c7 : LoopsN Try.prog Try.cfg (k + 10) 96 Try.f120 (Try.cfg.fc 120) 0 [0, 1, 2, 6, 7, 8, 9, 10] (k + 10) { tm := [(0, V.sub 12 0 i5.toNat), (1, vu i0), (2, V.fn (Fn.func 139) [] []), (6, vi 0), (7, V.bool false), (8, vi (↑i5.toNat : Int)), (9, vi 0), (10, vi (↑i5.toNat : Int))], hp := [(0, Ob.var [vu i0, vi i1, V.str s0]), (12, Ob.row false 3 (List.take i5.toNat x1 ++ (List.replicate (x1.length - i5.toNat) (V.agg ((fun xs => vu 0 :: xs) ((fun xs => vi 0 :: xs) ((fun xs => V.str [] :: xs) [])))) ++ List.drop (i5.toNat + (x1.length - i5.toNat)) x1)))], nx := 96 } (Exit.exit 0, { tm := [(0, V.sub 12 0 i5.toNat), (1, vu i0), (2, V.fn (Fn.func 139) [] []), (6, vi 0), (7, V.bool false), (8, vi (↑i5.toNat : Int)), (9, vi i7), (10, vi i8), (17, V.bool false)], hp := [(0, Ob.var [vu i0, vi i1, V.str s0]), (12, Ob.row false 3 x2)], nx := 108 }))
    (c8 : decide (i7 < (↑i5.toNat : Int)) = true)
    (c9 : IdxR i5.toNat i7 3 3 (V.ept 12 (0 + i7.toNat) 0))
    (c10 : LdP Try.prog 120 x2 (0 + i7.toNat) 0 (V.agg [vu i9, vi i10, V.str s2]))
    (c11 : cP ((k + 10)) 139 [V.agg [vu i9, vi i10, V.str s2], vu i0] = some (vi i11))
    (c12 : libSem { k := 6, t := 3, e := 0 } [V.sub 12 0 i5.toNat, vi i7, V.ref 204] [(0, Ob.var [vu i0, vi i1, V.str s0]), (12, Ob.row false 3 x2), (204, Ob.row false 3 [V.agg [vu i0, vi i1, V.str s0]])] 208 = some (V.ref 208, [(0, Ob.var [vu i0, vi i1, V.str s0]), (12, Ob.dead), (204, Ob.row false 3 [V.agg [vu i0, vi i1, V.str s0]]), (208, Ob.row false 3 (insL (List.take i5.toNat x2) i7.toNat (V.agg [vu i0, vi i1, V.str s0])))], 212)) :
    cP ((k + 12)) 115 [V.sl o0 b0 n0 x0, V.agg [vu i0, vi i1, V.str s0]] = some (V.sl none false 3 (insL (List.take i5.toNat x2) i7.toNat (V.agg [vu i0, vi i1, V.str s0]))) :=
  byF (k := k) (d := 12) [Hn.enter, Hn.lib (V.ref 12, [(0, Ob.var [vu i0, vi i1, V.str s0]), (12, Ob.row false 3 x0)], 16), Hn.enter, Hn.enter, Hn.loop (Exit.ret, { tm := [(0, V.ref 12), (1, V.fn (Fn.func 138) [] [V.ptr 0 0]), (4, vi i2), (5, vi i2), (7, vi (↑x0.length : Int)), (8, vi i2), (9, V.bool true), (16, V.bool true)], hp := [(0, Ob.var [vu i0, vi i1, V.str s0]), (12, Ob.row false 3 x0), (64, Ob.var [vu i3, vi i4, V.str s1])], nx := 104 }), Hn.br 12 false, Hn.loop (Exit.exit 0, { tm := [(0, V.ref 12), (1, V.fn (Fn.func 138) [] [V.ptr 0 0]), (4, V.sl (some true) true 0 []), (5, vi i5), (6, vi i6), (12, V.bool false), (19, V.bool false)], hp := [(0, Ob.var [vu i0, vi i1, V.str s0]), (12, Ob.row false 3 x1)], nx := 36 }), Hn.op 38 (V.sub 12 i5.toNat (x1.length - i5.toNat)) [], Hn.op 41 (V.sub 12 0 i5.toNat) [], Hn.br 14 false, Hn.enter, Hn.loop (Exit.exit 0, { tm := [(0, V.sub 12 0 i5.toNat), (1, vu i0), (2, V.fn (Fn.func 139) [] []), (6, vi 0), (7, V.bool false), (8, vi (↑i5.toNat : Int)), (9, vi i7), (10, vi i8), (17, V.bool false)], hp := [(0, Ob.var [vu i0, vi i1, V.str s0]), (12, Ob.row false 3 x2)], nx := 108 }), Hn.br 39 true, Hn.op 43 (V.ept 12 (0 + i7.toNat) 0) [], Hn.op 44 (V.agg [vu i9, vi i10, V.str s2]) [], Hn.call 46 (vi i11), Hn.enter, Hn.lib (V.ref 208, [(0, Ob.var [vu i0, vi i1, V.str s0]), (12, Ob.dead), (204, Ob.row false 3 [V.agg [vu i0, vi i1, V.str s0]]), (208, Ob.row false 3 (insL (List.take i5.toNat x2) i7.toNat (V.agg [vu i0, vi i1, V.str s0])))], 212)] (aI c0 (aI c1 (aI c2 (aI c3 (aI c4 (aI c5 (aI c6 (aI c7 (aI c8 (aI c9 (aI c10 (aI c11 (aI c12 trivial))))))))))))) (by kernel_rfl)
theorem P115_8 (i0 i1 i2 i3 i4 i5 i6 i7 i8 : Int) (b0 : Bool) (s0 s1 : List UInt8) (x0 x1 x2 : List V) (o0 : Option Bool) (n0 k : Nat)
    (c0 : libSem { k := 8, t := 3, e := 120 } [V.sl o0 b0 n0 x0] [(0, Ob.var [vu i0, vi i1, V.str s0])] 12 = some (V.ref 12, [(0, Ob.var [vu i0, vi i1, V.str s0]), (12, Ob.row false 3 x0)], 16))
    (c1 : LoopsN Try.prog Try.cfg (k + 9) 32 Try.f151 (Try.cfg.fc 151) 0 [0, 1, 4, 7, 8] (k + 9) { tm := [(0, V.ref 12), (1, V.fn (Fn.func 138) [] [V.ptr 0 0]), (4, vi 0), (7, vi (↑x0.length : Int)), (8, vi 0)], hp := [(0, Ob.var [vu i0, vi i1, V.str s0]), (12, Ob.row false 3 x0)], nx := 32 } (Exit.ret, { tm := [(0, V.ref 12), (1, V.fn (Fn.func 138) [] [V.ptr 0 0]), (4, vi i2), (5, vi i2), (7, vi (↑x0.length : Int)), (8, vi i2), (9, V.bool true), (16, V.bool true)], hp := [(0, Ob.var [vu i0, vi i1, V.str s0]), (12, Ob.row false 3 x0), (64, Ob.var [vu i3, vi i4, V.str s1])], nx := 104 }))
    (c2 : decide (i2 = -1) = false)
    (c3 : LoopsN Try.prog Try.cfg (k + 10) 20 Try.f136 (Try.cfg.fc 136) 0 [0, 1, 4, 5, 6, 12] (k + 10) { tm := [(0, V.ref 12), (1, V.fn (Fn.func 138) [] [V.ptr 0 0]), (4, V.sl (some true) true 0 []), (5, vi i2), (6, vi (wI (i2 + 1))), (12, V.bool false)], hp := [(0, Ob.var [vu i0, vi i1, V.str s0]), (12, Ob.row false 3 x0)], nx := 20 } (Exit.exit 0, { tm := [(0, V.ref 12), (1, V.fn (Fn.func 138) [] [V.ptr 0 0]), (4, V.sl (some true) true 0 []), (5, vi i5), (6, vi i6), (12, V.bool false), (19, V.bool false)], hp := [(0, Ob.var [vu i0, vi i1, V.str s0]), (12, Ob.row false 3 x1)], nx := 36 }))
    (c4 : SlcR x1.length 3 3 12 (some (vi i5)) none (V.sub 12 i5.toNat (x1.length - i5.toNat)))
    (c5 : SlcR (List.take i5.toNat x1 ++ (List.replicate (x1.length - i5.toNat) (V.agg ((fun xs => vu 0 :: xs) ((fun xs => vi 0 :: xs) ((fun xs => V.str [] :: xs) [])))) ++ List.drop (i5.toNat + (x1.length - i5.toNat)) x1)).length 3 3 12 none (some (vi i5)) (V.sub 12 0 i5.toNat))
    (c6 : decide (i1 = 0) = false)
    (c7 : LoopsN Try.prog Try.cfg (k + 10) 96 Try.f120 (Try.cfg.fc 120) 0 [0, 1, 2, 6, 7, 8, 9, 10] (k + 10) { tm := [(0, V.sub 12 0 i5.toNat), (1, vu i0), (2, V.fn (Fn.func 139) [] []), (6, vi 0), (7, V.bool false), (8, vi (↑i5.toNat : Int)), (9, vi 0), (10, vi (↑i5.toNat : Int))], hp := [(0, Ob.var [vu i0, vi i1, V.str s0]), (12, Ob.row false 3 (List.take i5.toNat x1 ++ (List.replicate (x1.length - i5.toNat) (V.agg ((fun xs => vu 0 :: xs) ((fun xs => vi 0 :: xs) ((fun xs => V.str [] :: xs) [])))) ++ List.drop (i5.toNat + (x1.length - i5.toNat)) x1)))], nx := 96 } (Exit.exit 0, { tm := [(0, V.sub 12 0 i5.toNat), (1, vu i0), (2, V.fn (Fn.func 139) [] []), (6, vi 0), (7, V.bool false), (8, vi (↑i5.toNat : Int)), (9, vi i7), (10, vi i8), (17, V.bool false)], hp := [(0, Ob.var [vu i0, vi i1, V.str s0]), (12, Ob.row false 3 x2)], nx := 108 }))
    (c8 : decide (i7 < (↑i5.toNat : Int)) = false)
    (c9 : libSem { k := 6, t := 3, e := 0 } [V.sub 12 0 i5.toNat, vi i7, V.ref 204] [(0, Ob.var [vu i0, vi i1, V.str s0]), (12, Ob.row false 3 x2), (204, Ob.row false 3 [V.agg [vu i0, vi i1, V.str s0]])] 208 = some (V.ref 208, [(0, Ob.var [vu i0, vi i1, V.str s0]), (12, Ob.dead), (204, Ob.row false 3 [V.agg [vu i0, vi i1, V.str s0]]), (208, Ob.row false 3 (insL (List.take i5.toNat x2) i7.toNat (V.agg [vu i0, vi i1, V.str s0])))], 212)) :
    cP ((k + 12)) 115 [V.sl o0 b0 n0 x0, V.agg [vu i0, vi i1, V.str s0]] = some (V.sl none false 3 (insL (List.take i5.toNat x2) i7.toNat (V.agg [vu i0, vi i1, V.str s0]))) :=
  byF (k := k) (d := 12) [Hn.enter, Hn.lib (V.ref 12, [(0, Ob.var [vu i0, vi i1, V.str s0]), (12, Ob.row false 3 x0)], 16), Hn.enter, Hn.enter, Hn.loop (Exit.ret, { tm := [(0, V.ref 12), (1, V.fn (Fn.func 138) [] [V.ptr 0 0]), (4, vi i2), (5, vi i2), (7, vi (↑x0.length : Int)), (8, vi i2), (9, V.bool true), (16, V.bool true)], hp := [(0, Ob.var [vu i0, vi i1, V.str s0]), (12, Ob.row false 3 x0), (64, Ob.var [vu i3, vi i4, V.str s1])], nx := 104 }), Hn.br 12 false, Hn.loop (Exit.exit 0, { tm := [(0, V.ref 12), (1, V.fn (Fn.func 138) [] [V.ptr 0 0]), (4, V.sl (some true) true 0 []), (5, vi i5), (6, vi i6), (12, V.bool false), (19, V.bool false)], hp := [(0, Ob.var [vu i0, vi i1, V.str s0]), (12, Ob.row false 3 x1)], nx := 36 }), Hn.op 38 (V.sub 12 i5.toNat (x1.length - i5.toNat)) [], Hn.op 41 (V.sub 12 0 i5.toNat) [], Hn.br 14 false, Hn.enter, Hn.loop (Exit.exit 0, { tm := [(0, V.sub 12 0 i5.toNat), (1, vu i0), (2, V.fn (Fn.func 139) [] []), (6, vi 0), (7, V.bool false), (8, vi (↑i5.toNat : Int)), (9, vi i7), (10, vi i8), (17, V.bool false)], hp := [(0, Ob.var [vu i0, vi i1, V.str s0]), (12, Ob.row false 3 x2)], nx := 108 }), Hn.br 39 false, Hn.enter, Hn.lib (V.ref 208, [(0, Ob.var [vu i0, vi i1, V.str s0]), (12, Ob.dead), (204, Ob.row false 3 [V.agg [vu i0, vi i1, V.str s0]]), (208, Ob.row false 3 (insL (List.take i5.toNat x2) i7.toNat (V.agg [vu i0, vi i1, V.str s0])))], 212)] (aI c0 (aI c1 (aI c2 (aI c3 (aI c4 (aI c5 (aI c6 (aI c7 (aI c8 (aI c9 trivial)))))))))) (by kernel_rfl)
def F115 (k : Nat) (o0 : Option Bool) (b0 : Bool) (n0 : Nat) (x0 : List V) (i0 i1 : Int) (s0 : List UInt8) : Option (Option Bool × Bool × Nat × List V) :=
  (guardP ((n0 = (3 : Nat) ∨ x0.isEmpty = true) ∧ x0.length ≤ maxLen') ((L115_0 k i0 i1 s0 x0 (k + 9) (0)).bind fun
    | L115_0_R.e0 i2 i3 i4 s1 => (bif decide (i2 = -1) then (bif decide (i1 = 0) then (some ((none), (false), (3), (x0))) else ((L115_2 k i0 i1 i3 i4 s0 s1 x0 (k + 10) (0) ((↑x0.length : Int))).bind fun
    | L115_2_R.e0 i5 i6 => (bif decide (i5 < (↑x0.length : Int)) then (guardP ((0 : Int) ≤ i5 ∧ i5 < (↑x0.length : Int)) ((((x0)[i5.toNat]?).bind dAu64i64sZ).bind fun (i7, i8, s2) => ((F139 (k + 1) (i7) (i8) (s2) (i0)).bind fun i9 => (guardP ((260 : Nat) ≠ (12 : Nat) ∧ (3 : Nat) = (3 : Nat) ∧ (3 : Nat) = (3 : Nat) ∧ (0 : Int) ≤ i5 ∧ i5.toNat ≤ x0.length ∧ x0.length < maxLen') (some ((none), (false), (3), (insL x0 i5.toNat (V.agg [V.int .u64 i0, V.int .i64 i1, V.str s0])))))))) else (guardP ((260 : Nat) ≠ (12 : Nat) ∧ (3 : Nat) = (3 : Nat) ∧ (3 : Nat) = (3 : Nat) ∧ (0 : Int) ≤ i5 ∧ i5.toNat ≤ x0.length ∧ x0.length < maxLen') (some ((none), (false), (3), (insL x0 i5.toNat (V.agg [V.int .u64 i0, V.int .i64 i1, V.str s0])))))))) else ((L115_3 k i0 i1 s0 (k + 10) (i2) (IntKind.i64.wrap (i2 + 1)) (x0)).bind fun
    | L115_3_R.e0 i5 i6 x1 => (guardP ((0 : Int) ≤ i5 ∧ i5 ≤ (↑x1.length : Int)) (guardP ((0 : Int) ≤ i5 ∧ i5 ≤ (↑(List.take i5.toNat x1 ++ (List.replicate (x1.length - i5.toNat) (V.agg ((fun xs => V.int .u64 (0 : Int) :: xs) ((fun xs => V.int .i64 (0 : Int) :: xs) ((fun xs => V.str [] :: xs) [])))) ++ List.drop (i5.toNat + (x1.length - i5.toNat)) x1)).length : Int)) (bif decide (i1 = 0) then (some ((none), (false), (3), (List.take i5.toNat (List.drop 0 (List.take i5.toNat x1 ++ (List.replicate (x1.length - i5.toNat) (V.agg [V.int .u64 0, V.int .i64 0, V.str []]) ++ List.drop (i5.toNat + (x1.length - i5.toNat)) x1)))))) else ((L115_4 k i0 i1 i5 s0 (k + 10) (0) ((↑i5.toNat : Int)) (List.take i5.toNat x1 ++ (List.replicate (x1.length - i5.toNat) (V.agg ((fun xs => V.int .u64 0 :: xs) ((fun xs => V.int .i64 0 :: xs) ((fun xs => V.str [] :: xs) [])))) ++ List.drop (i5.toNat + (x1.length - i5.toNat)) x1))).bind fun
    | L115_4_R.e0 i7 i8 x2 => (bif decide (i7 < (↑i5.toNat : Int)) then (guardP ((0 : Int) ≤ i7 ∧ i7 < (↑i5.toNat : Int)) ((((x2)[0 + i7.toNat]?).bind dAu64i64sZ).bind fun (i9, i10, s2) => ((F139 (k + 1) (i9) (i10) (s2) (i0)).bind fun i11 => (guardP ((204 : Nat) ≠ (12 : Nat) ∧ (3 : Nat) = (3 : Nat) ∧ (3 : Nat) = (3 : Nat) ∧ (0 : Int) ≤ i7 ∧ i7.toNat ≤ (List.take i5.toNat x2).length ∧ (List.take i5.toNat x2).length < maxLen') (some ((none), (false), (3), (insL (List.take i5.toNat x2) i7.toNat (V.agg [V.int .u64 i0, V.int .i64 i1, V.str s0])))))))) else (guardP ((204 : Nat) ≠ (12 : Nat) ∧ (3 : Nat) = (3 : Nat) ∧ (3 : Nat) = (3 : Nat) ∧ (0 : Int) ≤ i7 ∧ i7.toNat ≤ (List.take i5.toNat x2).length ∧ (List.take i5.toNat x2).length < maxLen') (some ((none), (false), (3), (insL (List.take i5.toNat x2) i7.toNat (V.agg [V.int .u64 i0, V.int .i64 i1, V.str s0]))))))))))))
    | L115_0_R.e1 i2 => (bif decide (i1 = 0) then (some ((none), (false), (3), (x0))) else ((L115_1 k i0 i1 s0 x0 (k + 10) (0) ((↑x0.length : Int))).bind fun
    | L115_1_R.e0 i3 i4 => (bif decide (i3 < (↑x0.length : Int)) then (guardP ((0 : Int) ≤ i3 ∧ i3 < (↑x0.length : Int)) ((((x0)[i3.toNat]?).bind dAu64i64sZ).bind fun (i5, i6, s1) => ((F139 (k + 1) (i5) (i6) (s1) (i0)).bind fun i7 => (guardP ((196 : Nat) ≠ (12 : Nat) ∧ (3 : Nat) = (3 : Nat) ∧ (3 : Nat) = (3 : Nat) ∧ (0 : Int) ≤ i3 ∧ i3.toNat ≤ x0.length ∧ x0.length < maxLen') (some ((none), (false), (3), (insL x0 i3.toNat (V.agg [V.int .u64 i0, V.int .i64 i1, V.str s0])))))))) else (guardP ((196 : Nat) ≠ (12 : Nat) ∧ (3 : Nat) = (3 : Nat) ∧ (3 : Nat) = (3 : Nat) ∧ (0 : Int) ≤ i3 ∧ i3.toNat ≤ x0.length ∧ x0.length < maxLen') (some ((none), (false), (3), (insL x0 i3.toNat (V.agg [V.int .u64 i0, V.int .i64 i1, V.str s0]))))))))))
theorem F115_ok {o0 : Option Bool} {b0 : Bool} {n0 : Nat} {x0 : List V} {i0 i1 : Int} {s0 : List UInt8} {k : Nat} {r : Option Bool × Bool × Nat × List V} (h : F115 k o0 b0 n0 x0 i0 i1 s0 = some r) :
    cP ((k + 12)) 115 [V.sl o0 b0 n0 x0, V.agg [vu i0, vi i1, V.str s0]] = some (V.sl r.1 r.2.1 r.2.2.1 r.2.2.2) := by
  unfold F115 at h
  obtain ⟨e0, h⟩ := guardP_some.1 h
  obtain ⟨ee, e1, h⟩ := bE h
  cases ee with
  | e0 i2 i3 i4 s1 =>
    rcases cond_elim h with ⟨e2, h⟩ | ⟨e2, h⟩
    ·
      rcases cond_elim h with ⟨e3, h⟩ | ⟨e3, h⟩
      ·
        have h := Option.some.inj h; subst h; exact P115_3 i0 i1 i2 i3 i4 b0 s0 s1 x0 o0 n0 k (libG e0 (by kernel_rfl)) (L115_0_ok e1) e2 e3
      ·
        obtain ⟨ee, e4, h⟩ := bE h
        cases ee with
        | e0 i5 i6 =>
          rcases cond_elim h with ⟨e5, h⟩ | ⟨e5, h⟩
          ·
            obtain ⟨e6, h⟩ := guardP_some.1 h
            obtain ⟨⟨i7, i8, s2⟩, e7, h⟩ := bE h
            obtain ⟨i9, e8, h⟩ := bE h
            obtain ⟨e9, h⟩ := guardP_some.1 h
            have h := Option.some.inj h; subst h; exact P115_4 i0 i1 i2 i3 i4 i5 i6 i7 i8 i9 b0 s0 s1 s2 x0 o0 n0 k (libG e0 (by kernel_rfl)) (L115_0_ok e1) e2 e3 (L115_2_ok e4) e5 (IdxR.mk' e6 rfl) (LdP.mk (get_d dAu64i64sZ_ok e7 :) (by kernel_rfl)) (F139_ok e8) (libG e9 (by kernel_rfl))
          ·
            obtain ⟨e6, h⟩ := guardP_some.1 h
            have h := Option.some.inj h; subst h; exact P115_5 i0 i1 i2 i3 i4 i5 i6 b0 s0 s1 x0 o0 n0 k (libG e0 (by kernel_rfl)) (L115_0_ok e1) e2 e3 (L115_2_ok e4) e5 (libG e6 (by kernel_rfl))
    ·
      obtain ⟨ee, e3, h⟩ := bE h
      cases ee with
      | e0 i5 i6 x1 =>
        obtain ⟨e4, h⟩ := guardP_some.1 h
        obtain ⟨e5, h⟩ := guardP_some.1 h
        rcases cond_elim h with ⟨e6, h⟩ | ⟨e6, h⟩
        ·
          have h := Option.some.inj h; subst h; exact P115_6 i0 i1 i2 i3 i4 i5 i6 b0 s0 s1 x0 x1 o0 n0 k (libG e0 (by kernel_rfl)) (L115_0_ok e1) e2 (L115_3_ok e3) (SlcR.from e4 rfl) (SlcR.upto e5 rfl) e6
        ·
          obtain ⟨ee, e7, h⟩ := bE h
          cases ee with
          | e0 i7 i8 x2 =>
            rcases cond_elim h with ⟨e8, h⟩ | ⟨e8, h⟩
            ·
              obtain ⟨e9, h⟩ := guardP_some.1 h
              obtain ⟨⟨i9, i10, s2⟩, e10, h⟩ := bE h
              obtain ⟨i11, e11, h⟩ := bE h
              obtain ⟨e12, h⟩ := guardP_some.1 h
              have h := Option.some.inj h; subst h; exact P115_7 i0 i1 i2 i3 i4 i5 i6 i7 i8 i9 i10 i11 b0 s0 s1 s2 x0 x1 x2 o0 n0 k (libG e0 (by kernel_rfl)) (L115_0_ok e1) e2 (L115_3_ok e3) (SlcR.from e4 rfl) (SlcR.upto e5 rfl) e6 (L115_4_ok e7) e8 (IdxR.mk' e9 rfl) (LdP.mk (get_d dAu64i64sZ_ok e10 :) (by kernel_rfl)) (F139_ok e11) (libG e12 (by kernel_rfl))
            ·
              obtain ⟨e9, h⟩ := guardP_some.1 h
              have h := Option.some.inj h; subst h; exact P115_8 i0 i1 i2 i3 i4 i5 i6 i7 i8 b0 s0 s1 x0 x1 x2 o0 n0 k (libG e0 (by kernel_rfl)) (L115_0_ok e1) e2 (L115_3_ok e3) (SlcR.from e4 rfl) (SlcR.upto e5 rfl) e6 (L115_4_ok e7) e8 (libG e9 (by kernel_rfl))
  | e1 i2 =>
    rcases cond_elim h with ⟨e2, h⟩ | ⟨e2, h⟩
    ·
      have h := Option.some.inj h; subst h; exact P115_0 i0 i1 i2 b0 s0 x0 o0 n0 k (libG e0 (by kernel_rfl)) (L115_0_ok e1) e2
    ·
      obtain ⟨ee, e3, h⟩ := bE h
      cases ee with
      | e0 i3 i4 =>
        rcases cond_elim h with ⟨e4, h⟩ | ⟨e4, h⟩
        ·
          obtain ⟨e5, h⟩ := guardP_some.1 h
          obtain ⟨⟨i5, i6, s1⟩, e6, h⟩ := bE h
          obtain ⟨i7, e7, h⟩ := bE h
          obtain ⟨e8, h⟩ := guardP_some.1 h
          have h := Option.some.inj h; subst h; exact P115_1 i0 i1 i2 i3 i4 i5 i6 i7 b0 s0 s1 x0 o0 n0 k (libG e0 (by kernel_rfl)) (L115_0_ok e1) e2 (L115_1_ok e3) e4 (IdxR.mk' e5 rfl) (LdP.mk (get_d dAu64i64sZ_ok e6 :) (by kernel_rfl)) (F139_ok e7) (libG e8 (by kernel_rfl))
        ·
          obtain ⟨e5, h⟩ := guardP_some.1 h
          have h := Option.some.inj h; subst h; exact P115_2 i0 i1 i2 i3 i4 b0 s0 x0 o0 n0 k (libG e0 (by kernel_rfl)) (L115_0_ok e1) e2 (L115_1_ok e3) e4 (libG e5 (by kernel_rfl))
theorem P85_0 (i0 : Int) (b0 b1 : Bool) (x0 x1 : List V) (o0 o1 : Option Bool) (n0 n1 k : Nat)
    (c0 : decide ((↑x0.length : Int) < (↑x1.length : Int)) = true)
    (c1 : decide (i0 < (↑x1.length : Int)) = true) :
    cP ((k + 3)) 85 [V.sl o0 b0 n0 x0, V.sl o1 b1 n1 x1, vi i0] = some (V.tup [V.sl (some true) true 0 [], vi 6]) :=
  byF (k := k) (d := 3) [Hn.br 13 true, Hn.br 18 true] (aI c0 (aI c1 trivial)) (by kernel_rfl)
theorem P85_1 (i0 : Int) (b0 b1 : Bool) (x0 x1 : List V) (o0 o1 : Option Bool) (n0 n1 k : Nat)
    (c0 : decide ((↑x0.length : Int) < (↑x1.length : Int)) = true)
    (c1 : decide (i0 < (↑x1.length : Int)) = false)
    (c2 : decide (64 < (↑x1.length : Int)) = true) :
    cP ((k + 3)) 85 [V.sl o0 b0 n0 x0, V.sl o1 b1 n1 x1, vi i0] = some (V.tup [V.sl (some true) true 0 [], vi 6]) :=
  byF (k := k) (d := 3) [Hn.br 13 true, Hn.br 18 false, Hn.br 23 true] (aI c0 (aI c1 (aI c2 trivial))) (by kernel_rfl)
theorem P85_2 (i0 : Int) (b0 b1 : Bool) (x0 x1 : List V) (o0 o1 : Option Bool) (n0 n1 k : Nat)
    (c0 : decide ((↑x0.length : Int) < (↑x1.length : Int)) = true)
    (c1 : decide (i0 < (↑x1.length : Int)) = false)
    (c2 : decide (64 < (↑x1.length : Int)) = false) :
    cP ((k + 3)) 85 [V.sl o0 b0 n0 x0, V.sl o1 b1 n1 x1, vi i0] = some (V.tup [V.sl o1 b1 n1 x1, vi 0]) :=
  byF (k := k) (d := 3) [Hn.br 13 true, Hn.br 18 false, Hn.br 23 false] (aI c0 (aI c1 (aI c2 trivial))) (by kernel_rfl)
theorem P85_3 (i0 : Int) (b0 b1 : Bool) (x0 x1 : List V) (o0 o1 : Option Bool) (n0 n1 k : Nat)
    (c0 : decide ((↑x0.length : Int) < (↑x1.length : Int)) = false) :
    cP ((k + 3)) 85 [V.sl o0 b0 n0 x0, V.sl o1 b1 n1 x1, vi i0] = some (V.tup [V.sl o1 b1 n1 x1, vi 0]) :=
  byF (k := k) (d := 3) [Hn.br 13 false] (aI c0 trivial) (by kernel_rfl)
def F85 (k : Nat) (o0 : Option Bool) (b0 : Bool) (n0 : Nat) (x0 : List V) (o1 : Option Bool) (b1 : Bool) (n1 : Nat) (x1 : List V) (i0 : Int) : Option (Option Bool × Bool × Nat × List V × Int) :=
  (bif decide ((↑x0.length : Int) < (↑x1.length : Int)) then (bif decide (i0 < (↑x1.length : Int)) then (some ((some true), (true), (0), ([]), (6))) else (bif decide (64 < (↑x1.length : Int)) then (some ((some true), (true), (0), ([]), (6))) else (some ((o1), (b1), (n1), (x1), (0))))) else (some ((o1), (b1), (n1), (x1), (0))))
theorem F85_ok {o0 : Option Bool} {b0 : Bool} {n0 : Nat} {x0 : List V} {o1 : Option Bool} {b1 : Bool} {n1 : Nat} {x1 : List V} {i0 : Int} {k : Nat} {r : Option Bool × Bool × Nat × List V × Int} (h : F85 k o0 b0 n0 x0 o1 b1 n1 x1 i0 = some r) :
    cP ((k + 3)) 85 [V.sl o0 b0 n0 x0, V.sl o1 b1 n1 x1, vi i0] = some (V.tup [V.sl r.1 r.2.1 r.2.2.1 r.2.2.2.1, vi r.2.2.2.2]) := by
  unfold F85 at h
  rcases cond_elim h with ⟨e0, h⟩ | ⟨e0, h⟩
  ·
    rcases cond_elim h with ⟨e1, h⟩ | ⟨e1, h⟩
    ·
      have h := Option.some.inj h; subst h; exact P85_0 i0 b0 b1 x0 x1 o0 o1 n0 n1 k e0 e1
    ·
      rcases cond_elim h with ⟨e2, h⟩ | ⟨e2, h⟩
      ·
        have h := Option.some.inj h; subst h; exact P85_1 i0 b0 b1 x0 x1 o0 o1 n0 n1 k e0 e1 e2
      ·
        have h := Option.some.inj h; subst h; exact P85_2 i0 b0 b1 x0 x1 o0 o1 n0 n1 k e0 e1 e2
  ·
    have h := Option.some.inj h; subst h; exact P85_3 i0 b0 b1 x0 x1 o0 o1 n0 n1 k e0
end Go.Proofs
