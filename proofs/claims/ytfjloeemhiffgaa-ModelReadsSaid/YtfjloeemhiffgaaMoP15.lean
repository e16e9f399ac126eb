/-
  What the law ModelReads answers, checked against the program.
-/
import Derived.Test.YtfjloeemhiffgaaMoPc
set_option linter.unusedVariables false
set_option maxHeartbeats 0
set_option maxRecDepth 100000
namespace Go.Proofs
open Go Go.Sym

theorem P60_0 (i0 i1 i2 i3 : Int) (b0 b1 : Bool) (s0 s1 : List UInt8) (x0 x1 : List V) (o0 o1 : Option Bool) (n0 n1 k : Nat)
    (c0 : cP ((k + 17)) 57 [V.sl o0 b0 n0 x0, V.agg [vu i0, vu i1]] = some (V.tup [V.str s1, vi i3]))
    (c1 : (!decide (i3 = 0)) = true) :
    cP ((k + 18)) 60 [V.sl o0 b0 n0 x0, V.agg [vu i0, vu i1], V.str s0, V.sl o1 b1 n1 x1, vu i2] = some (V.bool false) :=
  byF (k := k) (d := 18) [Hn.call 20 (V.tup [V.str s1, vi i3]), Hn.br 25 true] (aI c0 (aI c1 trivial)) (by kernel_rfl)
theorem P60_1 (i0 i1 i2 i3 : Int) (b0 b1 : Bool) (s0 s1 : List UInt8) (x0 x1 : List V) (o0 o1 : Option Bool) (n0 n1 k : Nat)
    (c0 : cP ((k + 17)) 57 [V.sl o0 b0 n0 x0, V.agg [vu i0, vu i1]] = some (V.tup [V.str s1, vi i3]))
    (c1 : (!decide (i3 = 0)) = false)
    (c2 : (!decide (s1 = s0)) = true) :
    cP ((k + 18)) 60 [V.sl o0 b0 n0 x0, V.agg [vu i0, vu i1], V.str s0, V.sl o1 b1 n1 x1, vu i2] = some (V.bool false) :=
  byF (k := k) (d := 18) [Hn.call 20 (V.tup [V.str s1, vi i3]), Hn.br 25 false, Hn.br 30 true] (aI c0 (aI c1 (aI c2 trivial))) (by kernel_rfl)
theorem P60_2 (i0 i1 i2 i3 : Int) (b0 b1 b2 : Bool) (s0 s1 : List UInt8) (x0 x1 : List V) (o0 o1 : Option Bool) (n0 n1 k : Nat)
    (c0 : cP ((k + 17)) 57 [V.sl o0 b0 n0 x0, V.agg [vu i0, vu i1]] = some (V.tup [V.str s1, vi i3]))
    (c1 : (!decide (i3 = 0)) = false)
    (c2 : (!decide (s1 = s0)) = false)
    (c3 : cP ((k + 17)) 58 [V.sl o0 b0 n0 x0] = some (V.bool b2))
    (c4 : (!b2) = true) :
    cP ((k + 18)) 60 [V.sl o0 b0 n0 x0, V.agg [vu i0, vu i1], V.str s0, V.sl o1 b1 n1 x1, vu i2] = some (V.bool false) :=
  byF (k := k) (d := 18) [Hn.call 20 (V.tup [V.str s1, vi i3]), Hn.br 25 false, Hn.br 30 false, Hn.call 32 (V.bool b2), Hn.br 34 true] (aI c0 (aI c1 (aI c2 (aI c3 (aI c4 trivial))))) (by kernel_rfl)
theorem P60_3 (i0 i1 i2 i3 : Int) (b0 b1 b2 : Bool) (s0 s1 : List UInt8) (x0 x1 : List V) (o0 o1 : Option Bool) (n0 n1 k : Nat)
    (c0 : cP ((k + 17)) 57 [V.sl o0 b0 n0 x0, V.agg [vu i0, vu i1]] = some (V.tup [V.str s1, vi i3]))
    (c1 : (!decide (i3 = 0)) = false)
    (c2 : (!decide (s1 = s0)) = false)
    (c3 : cP ((k + 17)) 58 [V.sl o0 b0 n0 x0] = some (V.bool b2))
    (c4 : (!b2) = false)
    (c5 : decide (i0 ≤ i2) = true)
    (c6 : decide (wU (i2 - i0) < i1) = true) :
    cP ((k + 18)) 60 [V.sl o0 b0 n0 x0, V.agg [vu i0, vu i1], V.str s0, V.sl o1 b1 n1 x1, vu i2] = some (V.bool true) :=
  byF (k := k) (d := 18) [Hn.call 20 (V.tup [V.str s1, vi i3]), Hn.br 25 false, Hn.br 30 false, Hn.call 32 (V.bool b2), Hn.br 34 false, Hn.br 39 true, Hn.br 47 true] (aI c0 (aI c1 (aI c2 (aI c3 (aI c4 (aI c5 (aI c6 trivial))))))) (by kernel_rfl)
theorem P60_4 (i0 i1 i2 i3 i4 i5 : Int) (b0 b1 b2 : Bool) (s0 s1 s2 s3 : List UInt8) (x0 x1 : List V) (o0 o1 : Option Bool) (n0 n1 k : Nat)
    (c0 : cP ((k + 17)) 57 [V.sl o0 b0 n0 x0, V.agg [vu i0, vu i1]] = some (V.tup [V.str s1, vi i3]))
    (c1 : (!decide (i3 = 0)) = false)
    (c2 : (!decide (s1 = s0)) = false)
    (c3 : cP ((k + 17)) 58 [V.sl o0 b0 n0 x0] = some (V.bool b2))
    (c4 : (!b2) = false)
    (c5 : decide (i0 ≤ i2) = true)
    (c6 : decide (wU (i2 - i0) < i1) = false)
    (c7 : cP ((k + 17)) 57 [V.sl o0 b0 n0 x0, V.agg [vu i2, vu 1]] = some (V.tup [V.str s2, vi i4]))
    (c8 : cP ((k + 17)) 57 [V.sl o1 b1 n1 x1, V.agg [vu i2, vu 1]] = some (V.tup [V.str s3, vi i5]))
    (c9 : decide (i4 = 0) = true)
    (c10 : decide (i5 = 0) = true) :
    cP ((k + 18)) 60 [V.sl o0 b0 n0 x0, V.agg [vu i0, vu i1], V.str s0, V.sl o1 b1 n1 x1, vu i2] = some (V.bool (decide (s2 = s3))) :=
  byF (k := k) (d := 18) [Hn.call 20 (V.tup [V.str s1, vi i3]), Hn.br 25 false, Hn.br 30 false, Hn.call 32 (V.bool b2), Hn.br 34 false, Hn.br 39 true, Hn.br 47 false, Hn.call 52 (V.tup [V.str s2, vi i4]), Hn.call 59 (V.tup [V.str s3, vi i5]), Hn.br 64 true, Hn.br 68 true] (aI c0 (aI c1 (aI c2 (aI c3 (aI c4 (aI c5 (aI c6 (aI c7 (aI c8 (aI c9 (aI c10 trivial))))))))))) (by kernel_rfl)
theorem P60_5 (i0 i1 i2 i3 i4 i5 : Int) (b0 b1 b2 : Bool) (s0 s1 s2 s3 : List UInt8) (x0 x1 : List V) (o0 o1 : Option Bool) (n0 n1 k : Nat)
    (c0 : cP ((k + 17)) 57 [V.sl o0 b0 n0 x0, V.agg [vu i0, vu i1]] = some (V.tup [V.str s1, vi i3]))
    (c1 : (!decide (i3 = 0)) = false)
    (c2 : (!decide (s1 = s0)) = false)
    (c3 : cP ((k + 17)) 58 [V.sl o0 b0 n0 x0] = some (V.bool b2))
    (c4 : (!b2) = false)
    (c5 : decide (i0 ≤ i2) = true)
    (c6 : decide (wU (i2 - i0) < i1) = false)
    (c7 : cP ((k + 17)) 57 [V.sl o0 b0 n0 x0, V.agg [vu i2, vu 1]] = some (V.tup [V.str s2, vi i4]))
    (c8 : cP ((k + 17)) 57 [V.sl o1 b1 n1 x1, V.agg [vu i2, vu 1]] = some (V.tup [V.str s3, vi i5]))
    (c9 : decide (i4 = 0) = true)
    (c10 : decide (i5 = 0) = false) :
    cP ((k + 18)) 60 [V.sl o0 b0 n0 x0, V.agg [vu i0, vu i1], V.str s0, V.sl o1 b1 n1 x1, vu i2] = some (V.bool false) :=
  byF (k := k) (d := 18) [Hn.call 20 (V.tup [V.str s1, vi i3]), Hn.br 25 false, Hn.br 30 false, Hn.call 32 (V.bool b2), Hn.br 34 false, Hn.br 39 true, Hn.br 47 false, Hn.call 52 (V.tup [V.str s2, vi i4]), Hn.call 59 (V.tup [V.str s3, vi i5]), Hn.br 64 true, Hn.br 68 false] (aI c0 (aI c1 (aI c2 (aI c3 (aI c4 (aI c5 (aI c6 (aI c7 (aI c8 (aI c9 (aI c10 trivial))))))))))) (by kernel_rfl)
theorem P60_6 (i0 i1 i2 i3 i4 i5 : Int) (b0 b1 b2 : Bool) (s0 s1 s2 s3 : List UInt8) (x0 x1 : List V) (o0 o1 : Option Bool) (n0 n1 k : Nat)
    (c0 : cP ((k + 17)) 57 [V.sl o0 b0 n0 x0, V.agg [vu i0, vu i1]] = some (V.tup [V.str s1, vi i3]))
    (c1 : (!decide (i3 = 0)) = false)
    (c2 : (!decide (s1 = s0)) = false)
    (c3 : cP ((k + 17)) 58 [V.sl o0 b0 n0 x0] = some (V.bool b2))
    (c4 : (!b2) = false)
    (c5 : decide (i0 ≤ i2) = true)
    (c6 : decide (wU (i2 - i0) < i1) = false)
    (c7 : cP ((k + 17)) 57 [V.sl o0 b0 n0 x0, V.agg [vu i2, vu 1]] = some (V.tup [V.str s2, vi i4]))
    (c8 : cP ((k + 17)) 57 [V.sl o1 b1 n1 x1, V.agg [vu i2, vu 1]] = some (V.tup [V.str s3, vi i5]))
    (c9 : decide (i4 = 0) = false) :
    cP ((k + 18)) 60 [V.sl o0 b0 n0 x0, V.agg [vu i0, vu i1], V.str s0, V.sl o1 b1 n1 x1, vu i2] = some (V.bool false) :=
  byF (k := k) (d := 18) [Hn.call 20 (V.tup [V.str s1, vi i3]), Hn.br 25 false, Hn.br 30 false, Hn.call 32 (V.bool b2), Hn.br 34 false, Hn.br 39 true, Hn.br 47 false, Hn.call 52 (V.tup [V.str s2, vi i4]), Hn.call 59 (V.tup [V.str s3, vi i5]), Hn.br 64 false] (aI c0 (aI c1 (aI c2 (aI c3 (aI c4 (aI c5 (aI c6 (aI c7 (aI c8 (aI c9 trivial)))))))))) (by kernel_rfl)
theorem P60_7 (i0 i1 i2 i3 i4 i5 : Int) (b0 b1 b2 : Bool) (s0 s1 s2 s3 : List UInt8) (x0 x1 : List V) (o0 o1 : Option Bool) (n0 n1 k : Nat)
    (c0 : cP ((k + 17)) 57 [V.sl o0 b0 n0 x0, V.agg [vu i0, vu i1]] = some (V.tup [V.str s1, vi i3]))
    (c1 : (!decide (i3 = 0)) = false)
    (c2 : (!decide (s1 = s0)) = false)
    (c3 : cP ((k + 17)) 58 [V.sl o0 b0 n0 x0] = some (V.bool b2))
    (c4 : (!b2) = false)
    (c5 : decide (i0 ≤ i2) = false)
    (c6 : cP ((k + 17)) 57 [V.sl o0 b0 n0 x0, V.agg [vu i2, vu 1]] = some (V.tup [V.str s2, vi i4]))
    (c7 : cP ((k + 17)) 57 [V.sl o1 b1 n1 x1, V.agg [vu i2, vu 1]] = some (V.tup [V.str s3, vi i5]))
    (c8 : decide (i4 = 0) = true)
    (c9 : decide (i5 = 0) = true) :
    cP ((k + 18)) 60 [V.sl o0 b0 n0 x0, V.agg [vu i0, vu i1], V.str s0, V.sl o1 b1 n1 x1, vu i2] = some (V.bool (decide (s2 = s3))) :=
  byF (k := k) (d := 18) [Hn.call 20 (V.tup [V.str s1, vi i3]), Hn.br 25 false, Hn.br 30 false, Hn.call 32 (V.bool b2), Hn.br 34 false, Hn.br 39 false, Hn.call 52 (V.tup [V.str s2, vi i4]), Hn.call 59 (V.tup [V.str s3, vi i5]), Hn.br 64 true, Hn.br 68 true] (aI c0 (aI c1 (aI c2 (aI c3 (aI c4 (aI c5 (aI c6 (aI c7 (aI c8 (aI c9 trivial)))))))))) (by kernel_rfl)
theorem P60_8 (i0 i1 i2 i3 i4 i5 : Int) (b0 b1 b2 : Bool) (s0 s1 s2 s3 : List UInt8) (x0 x1 : List V) (o0 o1 : Option Bool) (n0 n1 k : Nat)
    (c0 : cP ((k + 17)) 57 [V.sl o0 b0 n0 x0, V.agg [vu i0, vu i1]] = some (V.tup [V.str s1, vi i3]))
    (c1 : (!decide (i3 = 0)) = false)
    (c2 : (!decide (s1 = s0)) = false)
    (c3 : cP ((k + 17)) 58 [V.sl o0 b0 n0 x0] = some (V.bool b2))
    (c4 : (!b2) = false)
    (c5 : decide (i0 ≤ i2) = false)
    (c6 : cP ((k + 17)) 57 [V.sl o0 b0 n0 x0, V.agg [vu i2, vu 1]] = some (V.tup [V.str s2, vi i4]))
    (c7 : cP ((k + 17)) 57 [V.sl o1 b1 n1 x1, V.agg [vu i2, vu 1]] = some (V.tup [V.str s3, vi i5]))
    (c8 : decide (i4 = 0) = true)
    (c9 : decide (i5 = 0) = false) :
    cP ((k + 18)) 60 [V.sl o0 b0 n0 x0, V.agg [vu i0, vu i1], V.str s0, V.sl o1 b1 n1 x1, vu i2] = some (V.bool false) :=
  byF (k := k) (d := 18) [Hn.call 20 (V.tup [V.str s1, vi i3]), Hn.br 25 false, Hn.br 30 false, Hn.call 32 (V.bool b2), Hn.br 34 false, Hn.br 39 false, Hn.call 52 (V.tup [V.str s2, vi i4]), Hn.call 59 (V.tup [V.str s3, vi i5]), Hn.br 64 true, Hn.br 68 false] (aI c0 (aI c1 (aI c2 (aI c3 (aI c4 (aI c5 (aI c6 (aI c7 (aI c8 (aI c9 trivial)))))))))) (by kernel_rfl)
theorem P60_9 (i0 i1 i2 i3 i4 i5 : Int) (b0 b1 b2 : Bool) (s0 s1 s2 s3 : List UInt8) (x0 x1 : List V) (o0 o1 : Option Bool) (n0 n1 k : Nat)
    (c0 : cP ((k + 17)) 57 [V.sl o0 b0 n0 x0, V.agg [vu i0, vu i1]] = some (V.tup [V.str s1, vi i3]))
    (c1 : (!decide (i3 = 0)) = false)
    (c2 : (!decide (s1 = s0)) = false)
    (c3 : cP ((k + 17)) 58 [V.sl o0 b0 n0 x0] = some (V.bool b2))
    (c4 : (!b2) = false)
    (c5 : decide (i0 ≤ i2) = false)
    (c6 : cP ((k + 17)) 57 [V.sl o0 b0 n0 x0, V.agg [vu i2, vu 1]] = some (V.tup [V.str s2, vi i4]))
    (c7 : cP ((k + 17)) 57 [V.sl o1 b1 n1 x1, V.agg [vu i2, vu 1]] = some (V.tup [V.str s3, vi i5]))
    (c8 : decide (i4 = 0) = false) :
    cP ((k + 18)) 60 [V.sl o0 b0 n0 x0, V.agg [vu i0, vu i1], V.str s0, V.sl o1 b1 n1 x1, vu i2] = some (V.bool false) :=
  byF (k := k) (d := 18) [Hn.call 20 (V.tup [V.str s1, vi i3]), Hn.br 25 false, Hn.br 30 false, Hn.call 32 (V.bool b2), Hn.br 34 false, Hn.br 39 false, Hn.call 52 (V.tup [V.str s2, vi i4]), Hn.call 59 (V.tup [V.str s3, vi i5]), Hn.br 64 false] (aI c0 (aI c1 (aI c2 (aI c3 (aI c4 (aI c5 (aI c6 (aI c7 (aI c8 trivial))))))))) (by kernel_rfl)
def F60 (k : Nat) (o0 : Option Bool) (b0 : Bool) (n0 : Nat) (x0 : List V) (i0 i1 : Int) (s0 : List UInt8) (o1 : Option Bool) (b1 : Bool) (n1 : Nat) (x1 : List V) (i2 : Int) : Option (Bool) :=
  ((F57 (k + 2) (o0) (b0) (n0) (x0) (i0) (i1)).bind fun (s1, i3) => (bif !decide (i3 = 0) then (some (false)) else (bif !decide (s1 = s0) then (some (false)) else ((F58 (k + 14) (o0) (b0) (n0) (x0)).bind fun b2 => (bif !b2 then (some (false)) else (bif decide (i0 ≤ i2) then (bif decide (IntKind.u64.wrap (i2 - i0) < i1) then (some (true)) else ((F57 (k + 2) (o0) (b0) (n0) (x0) (i2) (1)).bind fun (s2, i4) => ((F57 (k + 2) (o1) (b1) (n1) (x1) (i2) (1)).bind fun (s3, i5) => (bif decide (i4 = 0) then (bif decide (i5 = 0) then (some (decide (s2 = s3))) else (some (false))) else (some (false)))))) else ((F57 (k + 2) (o0) (b0) (n0) (x0) (i2) (1)).bind fun (s2, i4) => ((F57 (k + 2) (o1) (b1) (n1) (x1) (i2) (1)).bind fun (s3, i5) => (bif decide (i4 = 0) then (bif decide (i5 = 0) then (some (decide (s2 = s3))) else (some (false))) else (some (false)))))))))))
theorem F60_ok {o0 : Option Bool} {b0 : Bool} {n0 : Nat} {x0 : List V} {i0 i1 : Int} {s0 : List UInt8} {o1 : Option Bool} {b1 : Bool} {n1 : Nat} {x1 : List V} {i2 : Int} {k : Nat} {r : Bool} (h : F60 k o0 b0 n0 x0 i0 i1 s0 o1 b1 n1 x1 i2 = some r) :
    cP ((k + 18)) 60 [V.sl o0 b0 n0 x0, V.agg [vu i0, vu i1], V.str s0, V.sl o1 b1 n1 x1, vu i2] = some (V.bool r) := by
  unfold F60 at h
  obtain ⟨⟨s1, i3⟩, e0, h⟩ := bE h
  rcases cond_elim h with ⟨e1, h⟩ | ⟨e1, h⟩
  ·
    have h := Option.some.inj h; subst h; exact P60_0 i0 i1 i2 i3 b0 b1 s0 s1 x0 x1 o0 o1 n0 n1 k (F57_ok e0) e1
  ·
    rcases cond_elim h with ⟨e2, h⟩ | ⟨e2, h⟩
    ·
      have h := Option.some.inj h; subst h; exact P60_1 i0 i1 i2 i3 b0 b1 s0 s1 x0 x1 o0 o1 n0 n1 k (F57_ok e0) e1 e2
    ·
      obtain ⟨b2, e3, h⟩ := bE h
      rcases cond_elim h with ⟨e4, h⟩ | ⟨e4, h⟩
      ·
        have h := Option.some.inj h; subst h; exact P60_2 i0 i1 i2 i3 b0 b1 b2 s0 s1 x0 x1 o0 o1 n0 n1 k (F57_ok e0) e1 e2 (F58_ok e3) e4
      ·
        rcases cond_elim h with ⟨e5, h⟩ | ⟨e5, h⟩
        ·
          rcases cond_elim h with ⟨e6, h⟩ | ⟨e6, h⟩
          ·
            have h := Option.some.inj h; subst h; exact P60_3 i0 i1 i2 i3 b0 b1 b2 s0 s1 x0 x1 o0 o1 n0 n1 k (F57_ok e0) e1 e2 (F58_ok e3) e4 e5 e6
          ·
            obtain ⟨⟨s2, i4⟩, e7, h⟩ := bE h
            obtain ⟨⟨s3, i5⟩, e8, h⟩ := bE h
            rcases cond_elim h with ⟨e9, h⟩ | ⟨e9, h⟩
            ·
              rcases cond_elim h with ⟨e10, h⟩ | ⟨e10, h⟩
              ·
                have h := Option.some.inj h; subst h; exact P60_4 i0 i1 i2 i3 i4 i5 b0 b1 b2 s0 s1 s2 s3 x0 x1 o0 o1 n0 n1 k (F57_ok e0) e1 e2 (F58_ok e3) e4 e5 e6 (F57_ok e7) (F57_ok e8) e9 e10
              ·
                have h := Option.some.inj h; subst h; exact P60_5 i0 i1 i2 i3 i4 i5 b0 b1 b2 s0 s1 s2 s3 x0 x1 o0 o1 n0 n1 k (F57_ok e0) e1 e2 (F58_ok e3) e4 e5 e6 (F57_ok e7) (F57_ok e8) e9 e10
            ·
              have h := Option.some.inj h; subst h; exact P60_6 i0 i1 i2 i3 i4 i5 b0 b1 b2 s0 s1 s2 s3 x0 x1 o0 o1 n0 n1 k (F57_ok e0) e1 e2 (F58_ok e3) e4 e5 e6 (F57_ok e7) (F57_ok e8) e9
        ·
          obtain ⟨⟨s2, i4⟩, e6, h⟩ := bE h
          obtain ⟨⟨s3, i5⟩, e7, h⟩ := bE h
          rcases cond_elim h with ⟨e8, h⟩ | ⟨e8, h⟩
          ·
            rcases cond_elim h with ⟨e9, h⟩ | ⟨e9, h⟩
            ·
              have h := Option.some.inj h; subst h; exact P60_7 i0 i1 i2 i3 i4 i5 b0 b1 b2 s0 s1 s2 s3 x0 x1 o0 o1 n0 n1 k (F57_ok e0) e1 e2 (F58_ok e3) e4 e5 (F57_ok e6) (F57_ok e7) e8 e9
            ·
              have h := Option.some.inj h; subst h; exact P60_8 i0 i1 i2 i3 i4 i5 b0 b1 b2 s0 s1 s2 s3 x0 x1 o0 o1 n0 n1 k (F57_ok e0) e1 e2 (F58_ok e3) e4 e5 (F57_ok e6) (F57_ok e7) e8 e9
          ·
            have h := Option.some.inj h; subst h; exact P60_9 i0 i1 i2 i3 i4 i5 b0 b1 b2 s0 s1 s2 s3 x0 x1 o0 o1 n0 n1 k (F57_ok e0) e1 e2 (F58_ok e3) e4 e5 (F57_ok e6) (F57_ok e7) e8
theorem P15_0 (i0 i1 i2 i3 : Int) (b0 b1 b2 : Bool) (s0 s1 : List UInt8) (x0 x1 : List V) (o0 o1 : Option Bool) (n0 n1 k : Nat)
    (c0 : cP ((k + 21)) 50 [V.sl o0 b0 n0 x0] = some (V.sl o1 b1 n1 x1))
    (c1 : SlcP false 0 (V.str s0) none (some (vi (if 230 < (↑s0.length : Int) then 230 else (↑s0.length : Int)))) none (V.str (List.take (if 230 < (↑s0.length : Int) then 230 else (↑s0.length : Int)).toNat s0)))
    (c2 : cP ((k + 21)) 57 [V.sl o1 b1 n1 x1, V.agg [vu i1, vu (wU (↑(List.take (if 230 < (↑s0.length : Int) then 230 else (↑s0.length : Int)).toNat s0).length : Int))]] = some (V.tup [V.str s1, vi i3]))
    (c3 : (!decide (i3 = 0)) = true)
    (c4 : cP ((k + 21)) 53 [] = some (V.bool b2))
    (c5 : b2 = true) :
    cP ((k + 22)) 15 [V.sl o0 b0 n0 x0, vi i0, vu i1, V.str s0, vu i2] = some (V.bool (decide (s1 = []))) :=
  byF (k := k) (d := 22) [Hn.call 24 (V.sl o1 b1 n1 x1), Hn.op 29 (V.str (List.take (if 230 < (↑s0.length : Int) then 230 else (↑s0.length : Int)).toNat s0)) [], Hn.call 38 (V.tup [V.str s1, vi i3]), Hn.br 42 true, Hn.call 43 (V.bool b2), Hn.br 44 true] (aI c0 (aI c1 (aI c2 (aI c3 (aI c4 (aI c5 trivial)))))) (by kernel_rfl)
theorem P15_1 (i0 i1 i2 i3 : Int) (b0 b1 b2 : Bool) (s0 s1 : List UInt8) (x0 x1 : List V) (o0 o1 : Option Bool) (n0 n1 k : Nat)
    (c0 : cP ((k + 21)) 50 [V.sl o0 b0 n0 x0] = some (V.sl o1 b1 n1 x1))
    (c1 : SlcP false 0 (V.str s0) none (some (vi (if 230 < (↑s0.length : Int) then 230 else (↑s0.length : Int)))) none (V.str (List.take (if 230 < (↑s0.length : Int) then 230 else (↑s0.length : Int)).toNat s0)))
    (c2 : cP ((k + 21)) 57 [V.sl o1 b1 n1 x1, V.agg [vu i1, vu (wU (↑(List.take (if 230 < (↑s0.length : Int) then 230 else (↑s0.length : Int)).toNat s0).length : Int))]] = some (V.tup [V.str s1, vi i3]))
    (c3 : (!decide (i3 = 0)) = true)
    (c4 : cP ((k + 21)) 53 [] = some (V.bool b2))
    (c5 : b2 = false) :
    cP ((k + 22)) 15 [V.sl o0 b0 n0 x0, vi i0, vu i1, V.str s0, vu i2] = some (V.bool false) :=
  byF (k := k) (d := 22) [Hn.call 24 (V.sl o1 b1 n1 x1), Hn.op 29 (V.str (List.take (if 230 < (↑s0.length : Int) then 230 else (↑s0.length : Int)).toNat s0)) [], Hn.call 38 (V.tup [V.str s1, vi i3]), Hn.br 42 true, Hn.call 43 (V.bool b2), Hn.br 44 false] (aI c0 (aI c1 (aI c2 (aI c3 (aI c4 (aI c5 trivial)))))) (by kernel_rfl)
theorem P15_2 (i0 i1 i2 i3 i4 i5 : Int) (b0 b1 b2 b3 : Bool) (s0 s1 : List UInt8) (x0 x1 x2 x3 : List V) (o0 o1 o2 o3 : Option Bool) (n0 n1 n2 n3 k : Nat)
    (c0 : cP ((k + 21)) 50 [V.sl o0 b0 n0 x0] = some (V.sl o1 b1 n1 x1))
    (c1 : SlcP false 0 (V.str s0) none (some (vi (if 230 < (↑s0.length : Int) then 230 else (↑s0.length : Int)))) none (V.str (List.take (if 230 < (↑s0.length : Int) then 230 else (↑s0.length : Int)).toNat s0)))
    (c2 : cP ((k + 21)) 57 [V.sl o1 b1 n1 x1, V.agg [vu i1, vu (wU (↑(List.take (if 230 < (↑s0.length : Int) then 230 else (↑s0.length : Int)).toNat s0).length : Int))]] = some (V.tup [V.str s1, vi i3]))
    (c3 : (!decide (i3 = 0)) = false)
    (c4 : cP ((k + 21)) 55 [V.sl o1 b1 n1 x1, V.agg [vu i1, vu (wU (↑(List.take (if 230 < (↑s0.length : Int) then 230 else (↑s0.length : Int)).toNat s0).length : Int))]] = some (V.tup [V.sl o2 b2 n2 x2, vi i4]))
    (c5 : cP ((k + 21)) 56 [V.sl o1 b1 n1 x1, V.agg [vu i1, vu (wU (↑(List.take (if 230 < (↑s0.length : Int) then 230 else (↑s0.length : Int)).toNat s0).length : Int))]] = some (V.tup [V.sl o3 b3 n3 x3, vi i5]))
    (c6 : (!decide (i4 = 0)) = true) :
    cP ((k + 22)) 15 [V.sl o0 b0 n0 x0, vi i0, vu i1, V.str s0, vu i2] = some (V.bool false) :=
  byF (k := k) (d := 22) [Hn.call 24 (V.sl o1 b1 n1 x1), Hn.op 29 (V.str (List.take (if 230 < (↑s0.length : Int) then 230 else (↑s0.length : Int)).toNat s0)) [], Hn.call 38 (V.tup [V.str s1, vi i3]), Hn.br 42 false, Hn.call 51 (V.tup [V.sl o2 b2 n2 x2, vi i4]), Hn.call 57 (V.tup [V.sl o3 b3 n3 x3, vi i5]), Hn.br 62 true] (aI c0 (aI c1 (aI c2 (aI c3 (aI c4 (aI c5 (aI c6 trivial))))))) (by kernel_rfl)
theorem P15_3 (i0 i1 i2 i3 i4 i5 : Int) (b0 b1 b2 b3 : Bool) (s0 s1 : List UInt8) (x0 x1 x2 x3 : List V) (o0 o1 o2 o3 : Option Bool) (n0 n1 n2 n3 k : Nat)
    (c0 : cP ((k + 21)) 50 [V.sl o0 b0 n0 x0] = some (V.sl o1 b1 n1 x1))
    (c1 : SlcP false 0 (V.str s0) none (some (vi (if 230 < (↑s0.length : Int) then 230 else (↑s0.length : Int)))) none (V.str (List.take (if 230 < (↑s0.length : Int) then 230 else (↑s0.length : Int)).toNat s0)))
    (c2 : cP ((k + 21)) 57 [V.sl o1 b1 n1 x1, V.agg [vu i1, vu (wU (↑(List.take (if 230 < (↑s0.length : Int) then 230 else (↑s0.length : Int)).toNat s0).length : Int))]] = some (V.tup [V.str s1, vi i3]))
    (c3 : (!decide (i3 = 0)) = false)
    (c4 : cP ((k + 21)) 55 [V.sl o1 b1 n1 x1, V.agg [vu i1, vu (wU (↑(List.take (if 230 < (↑s0.length : Int) then 230 else (↑s0.length : Int)).toNat s0).length : Int))]] = some (V.tup [V.sl o2 b2 n2 x2, vi i4]))
    (c5 : cP ((k + 21)) 56 [V.sl o1 b1 n1 x1, V.agg [vu i1, vu (wU (↑(List.take (if 230 < (↑s0.length : Int) then 230 else (↑s0.length : Int)).toNat s0).length : Int))]] = some (V.tup [V.sl o3 b3 n3 x3, vi i5]))
    (c6 : (!decide (i4 = 0)) = false)
    (c7 : (!decide (i5 = 0)) = true) :
    cP ((k + 22)) 15 [V.sl o0 b0 n0 x0, vi i0, vu i1, V.str s0, vu i2] = some (V.bool false) :=
  byF (k := k) (d := 22) [Hn.call 24 (V.sl o1 b1 n1 x1), Hn.op 29 (V.str (List.take (if 230 < (↑s0.length : Int) then 230 else (↑s0.length : Int)).toNat s0)) [], Hn.call 38 (V.tup [V.str s1, vi i3]), Hn.br 42 false, Hn.call 51 (V.tup [V.sl o2 b2 n2 x2, vi i4]), Hn.call 57 (V.tup [V.sl o3 b3 n3 x3, vi i5]), Hn.br 62 false, Hn.br 66 true] (aI c0 (aI c1 (aI c2 (aI c3 (aI c4 (aI c5 (aI c6 (aI c7 trivial)))))))) (by kernel_rfl)
theorem P15_4 (i0 i1 i2 i3 i4 i5 : Int) (b0 b1 b2 b3 : Bool) (s0 s1 : List UInt8) (x0 x1 x2 x3 : List V) (o0 o1 o2 o3 : Option Bool) (n0 n1 n2 n3 k : Nat)
    (c0 : cP ((k + 21)) 50 [V.sl o0 b0 n0 x0] = some (V.sl o1 b1 n1 x1))
    (c1 : SlcP false 0 (V.str s0) none (some (vi (if 230 < (↑s0.length : Int) then 230 else (↑s0.length : Int)))) none (V.str (List.take (if 230 < (↑s0.length : Int) then 230 else (↑s0.length : Int)).toNat s0)))
    (c2 : cP ((k + 21)) 57 [V.sl o1 b1 n1 x1, V.agg [vu i1, vu (wU (↑(List.take (if 230 < (↑s0.length : Int) then 230 else (↑s0.length : Int)).toNat s0).length : Int))]] = some (V.tup [V.str s1, vi i3]))
    (c3 : (!decide (i3 = 0)) = false)
    (c4 : cP ((k + 21)) 55 [V.sl o1 b1 n1 x1, V.agg [vu i1, vu (wU (↑(List.take (if 230 < (↑s0.length : Int) then 230 else (↑s0.length : Int)).toNat s0).length : Int))]] = some (V.tup [V.sl o2 b2 n2 x2, vi i4]))
    (c5 : cP ((k + 21)) 56 [V.sl o1 b1 n1 x1, V.agg [vu i1, vu (wU (↑(List.take (if 230 < (↑s0.length : Int) then 230 else (↑s0.length : Int)).toNat s0).length : Int))]] = some (V.tup [V.sl o3 b3 n3 x3, vi i5]))
    (c6 : (!decide (i4 = 0)) = false)
    (c7 : (!decide (i5 = 0)) = false)
    (c8 : decide ((↑x1.length : Int) < (↑x2.length : Int)) = true) :
    cP ((k + 22)) 15 [V.sl o0 b0 n0 x0, vi i0, vu i1, V.str s0, vu i2] = some (V.bool false) :=
  byF (k := k) (d := 22) [Hn.call 24 (V.sl o1 b1 n1 x1), Hn.op 29 (V.str (List.take (if 230 < (↑s0.length : Int) then 230 else (↑s0.length : Int)).toNat s0)) [], Hn.call 38 (V.tup [V.str s1, vi i3]), Hn.br 42 false, Hn.call 51 (V.tup [V.sl o2 b2 n2 x2, vi i4]), Hn.call 57 (V.tup [V.sl o3 b3 n3 x3, vi i5]), Hn.br 62 false, Hn.br 66 false, Hn.br 73 true] (aI c0 (aI c1 (aI c2 (aI c3 (aI c4 (aI c5 (aI c6 (aI c7 (aI c8 trivial))))))))) (by kernel_rfl)
theorem P15_5 (i0 i1 i2 i3 i4 i5 : Int) (b0 b1 b2 b3 : Bool) (s0 s1 : List UInt8) (x0 x1 x2 x3 : List V) (o0 o1 o2 o3 : Option Bool) (n0 n1 n2 n3 k : Nat)
    (c0 : cP ((k + 21)) 50 [V.sl o0 b0 n0 x0] = some (V.sl o1 b1 n1 x1))
    (c1 : SlcP false 0 (V.str s0) none (some (vi (if 230 < (↑s0.length : Int) then 230 else (↑s0.length : Int)))) none (V.str (List.take (if 230 < (↑s0.length : Int) then 230 else (↑s0.length : Int)).toNat s0)))
    (c2 : cP ((k + 21)) 57 [V.sl o1 b1 n1 x1, V.agg [vu i1, vu (wU (↑(List.take (if 230 < (↑s0.length : Int) then 230 else (↑s0.length : Int)).toNat s0).length : Int))]] = some (V.tup [V.str s1, vi i3]))
    (c3 : (!decide (i3 = 0)) = false)
    (c4 : cP ((k + 21)) 55 [V.sl o1 b1 n1 x1, V.agg [vu i1, vu (wU (↑(List.take (if 230 < (↑s0.length : Int) then 230 else (↑s0.length : Int)).toNat s0).length : Int))]] = some (V.tup [V.sl o2 b2 n2 x2, vi i4]))
    (c5 : cP ((k + 21)) 56 [V.sl o1 b1 n1 x1, V.agg [vu i1, vu (wU (↑(List.take (if 230 < (↑s0.length : Int) then 230 else (↑s0.length : Int)).toNat s0).length : Int))]] = some (V.tup [V.sl o3 b3 n3 x3, vi i5]))
    (c6 : (!decide (i4 = 0)) = false)
    (c7 : (!decide (i5 = 0)) = false)
    (c8 : decide ((↑x1.length : Int) < (↑x2.length : Int)) = false)
    (c9 : decide ((↑x1.length : Int) < (↑x3.length : Int)) = true) :
    cP ((k + 22)) 15 [V.sl o0 b0 n0 x0, vi i0, vu i1, V.str s0, vu i2] = some (V.bool false) :=
  byF (k := k) (d := 22) [Hn.call 24 (V.sl o1 b1 n1 x1), Hn.op 29 (V.str (List.take (if 230 < (↑s0.length : Int) then 230 else (↑s0.length : Int)).toNat s0)) [], Hn.call 38 (V.tup [V.str s1, vi i3]), Hn.br 42 false, Hn.call 51 (V.tup [V.sl o2 b2 n2 x2, vi i4]), Hn.call 57 (V.tup [V.sl o3 b3 n3 x3, vi i5]), Hn.br 62 false, Hn.br 66 false, Hn.br 73 false, Hn.br 80 true] (aI c0 (aI c1 (aI c2 (aI c3 (aI c4 (aI c5 (aI c6 (aI c7 (aI c8 (aI c9 trivial)))))))))) (by kernel_rfl)
theorem P15_6 (i0 i1 i2 i3 i4 i5 : Int) (b0 b1 b2 b3 b4 : Bool) (s0 s1 : List UInt8) (x0 x1 x2 x3 : List V) (o0 o1 o2 o3 : Option Bool) (n0 n1 n2 n3 k : Nat)
    (c0 : cP ((k + 21)) 50 [V.sl o0 b0 n0 x0] = some (V.sl o1 b1 n1 x1))
    (c1 : SlcP false 0 (V.str s0) none (some (vi (if 230 < (↑s0.length : Int) then 230 else (↑s0.length : Int)))) none (V.str (List.take (if 230 < (↑s0.length : Int) then 230 else (↑s0.length : Int)).toNat s0)))
    (c2 : cP ((k + 21)) 57 [V.sl o1 b1 n1 x1, V.agg [vu i1, vu (wU (↑(List.take (if 230 < (↑s0.length : Int) then 230 else (↑s0.length : Int)).toNat s0).length : Int))]] = some (V.tup [V.str s1, vi i3]))
    (c3 : (!decide (i3 = 0)) = false)
    (c4 : cP ((k + 21)) 55 [V.sl o1 b1 n1 x1, V.agg [vu i1, vu (wU (↑(List.take (if 230 < (↑s0.length : Int) then 230 else (↑s0.length : Int)).toNat s0).length : Int))]] = some (V.tup [V.sl o2 b2 n2 x2, vi i4]))
    (c5 : cP ((k + 21)) 56 [V.sl o1 b1 n1 x1, V.agg [vu i1, vu (wU (↑(List.take (if 230 < (↑s0.length : Int) then 230 else (↑s0.length : Int)).toNat s0).length : Int))]] = some (V.tup [V.sl o3 b3 n3 x3, vi i5]))
    (c6 : (!decide (i4 = 0)) = false)
    (c7 : (!decide (i5 = 0)) = false)
    (c8 : decide ((↑x1.length : Int) < (↑x2.length : Int)) = false)
    (c9 : decide ((↑x1.length : Int) < (↑x3.length : Int)) = false)
    (c10 : cP ((k + 21)) 58 [V.sl o2 b2 n2 x2] = some (V.bool b4))
    (c11 : (!b4) = true) :
    cP ((k + 22)) 15 [V.sl o0 b0 n0 x0, vi i0, vu i1, V.str s0, vu i2] = some (V.bool false) :=
  byF (k := k) (d := 22) [Hn.call 24 (V.sl o1 b1 n1 x1), Hn.op 29 (V.str (List.take (if 230 < (↑s0.length : Int) then 230 else (↑s0.length : Int)).toNat s0)) [], Hn.call 38 (V.tup [V.str s1, vi i3]), Hn.br 42 false, Hn.call 51 (V.tup [V.sl o2 b2 n2 x2, vi i4]), Hn.call 57 (V.tup [V.sl o3 b3 n3 x3, vi i5]), Hn.br 62 false, Hn.br 66 false, Hn.br 73 false, Hn.br 80 false, Hn.call 82 (V.bool b4), Hn.br 85 true] (aI c0 (aI c1 (aI c2 (aI c3 (aI c4 (aI c5 (aI c6 (aI c7 (aI c8 (aI c9 (aI c10 (aI c11 trivial)))))))))))) (by kernel_rfl)
theorem P15_7 (i0 i1 i2 i3 i4 i5 : Int) (b0 b1 b2 b3 b4 b5 : Bool) (s0 s1 : List UInt8) (x0 x1 x2 x3 : List V) (o0 o1 o2 o3 : Option Bool) (n0 n1 n2 n3 k : Nat)
    (c0 : cP ((k + 21)) 50 [V.sl o0 b0 n0 x0] = some (V.sl o1 b1 n1 x1))
    (c1 : SlcP false 0 (V.str s0) none (some (vi (if 230 < (↑s0.length : Int) then 230 else (↑s0.length : Int)))) none (V.str (List.take (if 230 < (↑s0.length : Int) then 230 else (↑s0.length : Int)).toNat s0)))
    (c2 : cP ((k + 21)) 57 [V.sl o1 b1 n1 x1, V.agg [vu i1, vu (wU (↑(List.take (if 230 < (↑s0.length : Int) then 230 else (↑s0.length : Int)).toNat s0).length : Int))]] = some (V.tup [V.str s1, vi i3]))
    (c3 : (!decide (i3 = 0)) = false)
    (c4 : cP ((k + 21)) 55 [V.sl o1 b1 n1 x1, V.agg [vu i1, vu (wU (↑(List.take (if 230 < (↑s0.length : Int) then 230 else (↑s0.length : Int)).toNat s0).length : Int))]] = some (V.tup [V.sl o2 b2 n2 x2, vi i4]))
    (c5 : cP ((k + 21)) 56 [V.sl o1 b1 n1 x1, V.agg [vu i1, vu (wU (↑(List.take (if 230 < (↑s0.length : Int) then 230 else (↑s0.length : Int)).toNat s0).length : Int))]] = some (V.tup [V.sl o3 b3 n3 x3, vi i5]))
    (c6 : (!decide (i4 = 0)) = false)
    (c7 : (!decide (i5 = 0)) = false)
    (c8 : decide ((↑x1.length : Int) < (↑x2.length : Int)) = false)
    (c9 : decide ((↑x1.length : Int) < (↑x3.length : Int)) = false)
    (c10 : cP ((k + 21)) 58 [V.sl o2 b2 n2 x2] = some (V.bool b4))
    (c11 : (!b4) = false)
    (c12 : cP ((k + 21)) 58 [V.sl o3 b3 n3 x3] = some (V.bool b5))
    (c13 : (!b5) = true) :
    cP ((k + 22)) 15 [V.sl o0 b0 n0 x0, vi i0, vu i1, V.str s0, vu i2] = some (V.bool false) :=
  byF (k := k) (d := 22) [Hn.call 24 (V.sl o1 b1 n1 x1), Hn.op 29 (V.str (List.take (if 230 < (↑s0.length : Int) then 230 else (↑s0.length : Int)).toNat s0)) [], Hn.call 38 (V.tup [V.str s1, vi i3]), Hn.br 42 false, Hn.call 51 (V.tup [V.sl o2 b2 n2 x2, vi i4]), Hn.call 57 (V.tup [V.sl o3 b3 n3 x3, vi i5]), Hn.br 62 false, Hn.br 66 false, Hn.br 73 false, Hn.br 80 false, Hn.call 82 (V.bool b4), Hn.br 85 false, Hn.call 87 (V.bool b5), Hn.br 90 true] (aI c0 (aI c1 (aI c2 (aI c3 (aI c4 (aI c5 (aI c6 (aI c7 (aI c8 (aI c9 (aI c10 (aI c11 (aI c12 (aI c13 trivial)))))))))))))) (by kernel_rfl)
theorem P15_8 (i0 i1 i2 i3 i4 i5 : Int) (b0 b1 b2 b3 b4 b5 b6 : Bool) (s0 s1 : List UInt8) (x0 x1 x2 x3 : List V) (o0 o1 o2 o3 : Option Bool) (n0 n1 n2 n3 k : Nat)
    (c0 : cP ((k + 21)) 50 [V.sl o0 b0 n0 x0] = some (V.sl o1 b1 n1 x1))
    (c1 : SlcP false 0 (V.str s0) none (some (vi (if 230 < (↑s0.length : Int) then 230 else (↑s0.length : Int)))) none (V.str (List.take (if 230 < (↑s0.length : Int) then 230 else (↑s0.length : Int)).toNat s0)))
    (c2 : cP ((k + 21)) 57 [V.sl o1 b1 n1 x1, V.agg [vu i1, vu (wU (↑(List.take (if 230 < (↑s0.length : Int) then 230 else (↑s0.length : Int)).toNat s0).length : Int))]] = some (V.tup [V.str s1, vi i3]))
    (c3 : (!decide (i3 = 0)) = false)
    (c4 : cP ((k + 21)) 55 [V.sl o1 b1 n1 x1, V.agg [vu i1, vu (wU (↑(List.take (if 230 < (↑s0.length : Int) then 230 else (↑s0.length : Int)).toNat s0).length : Int))]] = some (V.tup [V.sl o2 b2 n2 x2, vi i4]))
    (c5 : cP ((k + 21)) 56 [V.sl o1 b1 n1 x1, V.agg [vu i1, vu (wU (↑(List.take (if 230 < (↑s0.length : Int) then 230 else (↑s0.length : Int)).toNat s0).length : Int))]] = some (V.tup [V.sl o3 b3 n3 x3, vi i5]))
    (c6 : (!decide (i4 = 0)) = false)
    (c7 : (!decide (i5 = 0)) = false)
    (c8 : decide ((↑x1.length : Int) < (↑x2.length : Int)) = false)
    (c9 : decide ((↑x1.length : Int) < (↑x3.length : Int)) = false)
    (c10 : cP ((k + 21)) 58 [V.sl o2 b2 n2 x2] = some (V.bool b4))
    (c11 : (!b4) = false)
    (c12 : cP ((k + 21)) 58 [V.sl o3 b3 n3 x3] = some (V.bool b5))
    (c13 : (!b5) = false)
    (c14 : cP ((k + 21)) 53 [] = some (V.bool b6))
    (c15 : (!b6) = true) :
    cP ((k + 22)) 15 [V.sl o0 b0 n0 x0, vi i0, vu i1, V.str s0, vu i2] = some (V.bool false) :=
  byF (k := k) (d := 22) [Hn.call 24 (V.sl o1 b1 n1 x1), Hn.op 29 (V.str (List.take (if 230 < (↑s0.length : Int) then 230 else (↑s0.length : Int)).toNat s0)) [], Hn.call 38 (V.tup [V.str s1, vi i3]), Hn.br 42 false, Hn.call 51 (V.tup [V.sl o2 b2 n2 x2, vi i4]), Hn.call 57 (V.tup [V.sl o3 b3 n3 x3, vi i5]), Hn.br 62 false, Hn.br 66 false, Hn.br 73 false, Hn.br 80 false, Hn.call 82 (V.bool b4), Hn.br 85 false, Hn.call 87 (V.bool b5), Hn.br 90 false, Hn.call 91 (V.bool b6), Hn.br 93 true] (aI c0 (aI c1 (aI c2 (aI c3 (aI c4 (aI c5 (aI c6 (aI c7 (aI c8 (aI c9 (aI c10 (aI c11 (aI c12 (aI c13 (aI c14 (aI c15 trivial)))))))))))))))) (by kernel_rfl)
theorem P15_9 (i0 i1 i2 i3 i4 i5 i6 i7 : Int) (b0 b1 b2 b3 b4 b5 b6 b7 b8 b9 b10 : Bool) (s0 s1 s2 : List UInt8) (x0 x1 x2 x3 x4 x5 : List V) (o0 o1 o2 o3 o4 o5 : Option Bool) (n0 n1 n2 n3 n4 n5 k : Nat)
    (c0 : cP ((k + 21)) 50 [V.sl o0 b0 n0 x0] = some (V.sl o1 b1 n1 x1))
    (c1 : SlcP false 0 (V.str s0) none (some (vi (if 230 < (↑s0.length : Int) then 230 else (↑s0.length : Int)))) none (V.str (List.take (if 230 < (↑s0.length : Int) then 230 else (↑s0.length : Int)).toNat s0)))
    (c2 : cP ((k + 21)) 57 [V.sl o1 b1 n1 x1, V.agg [vu i1, vu (wU (↑(List.take (if 230 < (↑s0.length : Int) then 230 else (↑s0.length : Int)).toNat s0).length : Int))]] = some (V.tup [V.str s1, vi i3]))
    (c3 : (!decide (i3 = 0)) = false)
    (c4 : cP ((k + 21)) 55 [V.sl o1 b1 n1 x1, V.agg [vu i1, vu (wU (↑(List.take (if 230 < (↑s0.length : Int) then 230 else (↑s0.length : Int)).toNat s0).length : Int))]] = some (V.tup [V.sl o2 b2 n2 x2, vi i4]))
    (c5 : cP ((k + 21)) 56 [V.sl o1 b1 n1 x1, V.agg [vu i1, vu (wU (↑(List.take (if 230 < (↑s0.length : Int) then 230 else (↑s0.length : Int)).toNat s0).length : Int))]] = some (V.tup [V.sl o3 b3 n3 x3, vi i5]))
    (c6 : (!decide (i4 = 0)) = false)
    (c7 : (!decide (i5 = 0)) = false)
    (c8 : decide ((↑x1.length : Int) < (↑x2.length : Int)) = false)
    (c9 : decide ((↑x1.length : Int) < (↑x3.length : Int)) = false)
    (c10 : cP ((k + 21)) 58 [V.sl o2 b2 n2 x2] = some (V.bool b4))
    (c11 : (!b4) = false)
    (c12 : cP ((k + 21)) 58 [V.sl o3 b3 n3 x3] = some (V.bool b5))
    (c13 : (!b5) = false)
    (c14 : cP ((k + 21)) 53 [] = some (V.bool b6))
    (c15 : (!b6) = false)
    (c16 : cP ((k + 21)) 59 [V.str [0], vi (↑(List.take (if 230 < (↑s0.length : Int) then 230 else (↑s0.length : Int)).toNat s0).length : Int)] = some (V.str s2))
    (c17 : cP ((k + 21)) 51 [V.sl o1 b1 n1 x1, vi i0, vu i1, V.str (List.take (if 230 < (↑s0.length : Int) then 230 else (↑s0.length : Int)).toNat s0)] = some (V.tup [V.sl o4 b7 n4 x4, vi i6]))
    (c18 : cP ((k + 21)) 52 [V.sl o1 b1 n1 x1, vi i0, V.agg [vu i1, vu (wU (↑(List.take (if 230 < (↑s0.length : Int) then 230 else (↑s0.length : Int)).toNat s0).length : Int))]] = some (V.tup [V.sl o5 b8 n5 x5, vi i7]))
    (c19 : cP ((k + 21)) 60 [V.sl o2 b2 n2 x2, V.agg [vu i1, vu (wU (↑(List.take (if 230 < (↑s0.length : Int) then 230 else (↑s0.length : Int)).toNat s0).length : Int))], V.str s2, V.sl o1 b1 n1 x1, vu i2] = some (V.bool b9))
    (c20 : b9 = true)
    (c21 : cP ((k + 21)) 60 [V.sl o3 b3 n3 x3, V.agg [vu i1, vu (wU (↑(List.take (if 230 < (↑s0.length : Int) then 230 else (↑s0.length : Int)).toNat s0).length : Int))], V.str s2, V.sl o1 b1 n1 x1, vu i2] = some (V.bool b10))
    (c22 : b10 = true)
    (c23 : (!decide (i6 = 0)) = true)
    (c24 : (!decide (i7 = 0)) = true) :
    cP ((k + 22)) 15 [V.sl o0 b0 n0 x0, vi i0, vu i1, V.str s0, vu i2] = some (V.bool true) :=
  byF (k := k) (d := 22) [Hn.call 24 (V.sl o1 b1 n1 x1), Hn.op 29 (V.str (List.take (if 230 < (↑s0.length : Int) then 230 else (↑s0.length : Int)).toNat s0)) [], Hn.call 38 (V.tup [V.str s1, vi i3]), Hn.br 42 false, Hn.call 51 (V.tup [V.sl o2 b2 n2 x2, vi i4]), Hn.call 57 (V.tup [V.sl o3 b3 n3 x3, vi i5]), Hn.br 62 false, Hn.br 66 false, Hn.br 73 false, Hn.br 80 false, Hn.call 82 (V.bool b4), Hn.br 85 false, Hn.call 87 (V.bool b5), Hn.br 90 false, Hn.call 91 (V.bool b6), Hn.br 93 false, Hn.call 96 (V.str s2), Hn.call 102 (V.tup [V.sl o4 b7 n4 x4, vi i6]), Hn.call 109 (V.tup [V.sl o5 b8 n5 x5, vi i7]), Hn.call 117 (V.bool b9), Hn.br 118 true, Hn.call 124 (V.bool b10), Hn.br 126 true, Hn.br 129 true, Hn.br 141 true] (aI c0 (aI c1 (aI c2 (aI c3 (aI c4 (aI c5 (aI c6 (aI c7 (aI c8 (aI c9 (aI c10 (aI c11 (aI c12 (aI c13 (aI c14 (aI c15 (aI c16 (aI c17 (aI c18 (aI c19 (aI c20 (aI c21 (aI c22 (aI c23 (aI c24 trivial))))))))))))))))))))))))) (by kernel_rfl)
theorem P15_10 (i0 i1 i2 i3 i4 i5 i6 i7 : Int) (b0 b1 b2 b3 b4 b5 b6 b7 b8 b9 b10 b11 : Bool) (s0 s1 s2 : List UInt8) (x0 x1 x2 x3 x4 x5 : List V) (o0 o1 o2 o3 o4 o5 : Option Bool) (n0 n1 n2 n3 n4 n5 k : Nat)
    (c0 : cP ((k + 21)) 50 [V.sl o0 b0 n0 x0] = some (V.sl o1 b1 n1 x1))
    (c1 : SlcP false 0 (V.str s0) none (some (vi (if 230 < (↑s0.length : Int) then 230 else (↑s0.length : Int)))) none (V.str (List.take (if 230 < (↑s0.length : Int) then 230 else (↑s0.length : Int)).toNat s0)))
    (c2 : cP ((k + 21)) 57 [V.sl o1 b1 n1 x1, V.agg [vu i1, vu (wU (↑(List.take (if 230 < (↑s0.length : Int) then 230 else (↑s0.length : Int)).toNat s0).length : Int))]] = some (V.tup [V.str s1, vi i3]))
    (c3 : (!decide (i3 = 0)) = false)
    (c4 : cP ((k + 21)) 55 [V.sl o1 b1 n1 x1, V.agg [vu i1, vu (wU (↑(List.take (if 230 < (↑s0.length : Int) then 230 else (↑s0.length : Int)).toNat s0).length : Int))]] = some (V.tup [V.sl o2 b2 n2 x2, vi i4]))
    (c5 : cP ((k + 21)) 56 [V.sl o1 b1 n1 x1, V.agg [vu i1, vu (wU (↑(List.take (if 230 < (↑s0.length : Int) then 230 else (↑s0.length : Int)).toNat s0).length : Int))]] = some (V.tup [V.sl o3 b3 n3 x3, vi i5]))
    (c6 : (!decide (i4 = 0)) = false)
    (c7 : (!decide (i5 = 0)) = false)
    (c8 : decide ((↑x1.length : Int) < (↑x2.length : Int)) = false)
    (c9 : decide ((↑x1.length : Int) < (↑x3.length : Int)) = false)
    (c10 : cP ((k + 21)) 58 [V.sl o2 b2 n2 x2] = some (V.bool b4))
    (c11 : (!b4) = false)
    (c12 : cP ((k + 21)) 58 [V.sl o3 b3 n3 x3] = some (V.bool b5))
    (c13 : (!b5) = false)
    (c14 : cP ((k + 21)) 53 [] = some (V.bool b6))
    (c15 : (!b6) = false)
    (c16 : cP ((k + 21)) 59 [V.str [0], vi (↑(List.take (if 230 < (↑s0.length : Int) then 230 else (↑s0.length : Int)).toNat s0).length : Int)] = some (V.str s2))
    (c17 : cP ((k + 21)) 51 [V.sl o1 b1 n1 x1, vi i0, vu i1, V.str (List.take (if 230 < (↑s0.length : Int) then 230 else (↑s0.length : Int)).toNat s0)] = some (V.tup [V.sl o4 b7 n4 x4, vi i6]))
    (c18 : cP ((k + 21)) 52 [V.sl o1 b1 n1 x1, vi i0, V.agg [vu i1, vu (wU (↑(List.take (if 230 < (↑s0.length : Int) then 230 else (↑s0.length : Int)).toNat s0).length : Int))]] = some (V.tup [V.sl o5 b8 n5 x5, vi i7]))
    (c19 : cP ((k + 21)) 60 [V.sl o2 b2 n2 x2, V.agg [vu i1, vu (wU (↑(List.take (if 230 < (↑s0.length : Int) then 230 else (↑s0.length : Int)).toNat s0).length : Int))], V.str s2, V.sl o1 b1 n1 x1, vu i2] = some (V.bool b9))
    (c20 : b9 = true)
    (c21 : cP ((k + 21)) 60 [V.sl o3 b3 n3 x3, V.agg [vu i1, vu (wU (↑(List.take (if 230 < (↑s0.length : Int) then 230 else (↑s0.length : Int)).toNat s0).length : Int))], V.str s2, V.sl o1 b1 n1 x1, vu i2] = some (V.bool b10))
    (c22 : b10 = true)
    (c23 : (!decide (i6 = 0)) = true)
    (c24 : (!decide (i7 = 0)) = false)
    (c25 : cP ((k + 21)) 60 [V.sl o5 b8 n5 x5, V.agg [vu i1, vu (wU (↑(List.take (if 230 < (↑s0.length : Int) then 230 else (↑s0.length : Int)).toNat s0).length : Int))], V.str s1, V.sl o1 b1 n1 x1, vu i2] = some (V.bool b11)) :
    cP ((k + 22)) 15 [V.sl o0 b0 n0 x0, vi i0, vu i1, V.str s0, vu i2] = some (V.bool b11) :=
  byF (k := k) (d := 22) [Hn.call 24 (V.sl o1 b1 n1 x1), Hn.op 29 (V.str (List.take (if 230 < (↑s0.length : Int) then 230 else (↑s0.length : Int)).toNat s0)) [], Hn.call 38 (V.tup [V.str s1, vi i3]), Hn.br 42 false, Hn.call 51 (V.tup [V.sl o2 b2 n2 x2, vi i4]), Hn.call 57 (V.tup [V.sl o3 b3 n3 x3, vi i5]), Hn.br 62 false, Hn.br 66 false, Hn.br 73 false, Hn.br 80 false, Hn.call 82 (V.bool b4), Hn.br 85 false, Hn.call 87 (V.bool b5), Hn.br 90 false, Hn.call 91 (V.bool b6), Hn.br 93 false, Hn.call 96 (V.str s2), Hn.call 102 (V.tup [V.sl o4 b7 n4 x4, vi i6]), Hn.call 109 (V.tup [V.sl o5 b8 n5 x5, vi i7]), Hn.call 117 (V.bool b9), Hn.br 118 true, Hn.call 124 (V.bool b10), Hn.br 126 true, Hn.br 129 true, Hn.br 141 false, Hn.call 147 (V.bool b11)] (aI c0 (aI c1 (aI c2 (aI c3 (aI c4 (aI c5 (aI c6 (aI c7 (aI c8 (aI c9 (aI c10 (aI c11 (aI c12 (aI c13 (aI c14 (aI c15 (aI c16 (aI c17 (aI c18 (aI c19 (aI c20 (aI c21 (aI c22 (aI c23 (aI c24 (aI c25 trivial)))))))))))))))))))))))))) (by kernel_rfl)
theorem P15_11 (i0 i1 i2 i3 i4 i5 i6 i7 : Int) (b0 b1 b2 b3 b4 b5 b6 b7 b8 b9 b10 b11 : Bool) (s0 s1 s2 : List UInt8) (x0 x1 x2 x3 x4 x5 : List V) (o0 o1 o2 o3 o4 o5 : Option Bool) (n0 n1 n2 n3 n4 n5 k : Nat)
    (c0 : cP ((k + 21)) 50 [V.sl o0 b0 n0 x0] = some (V.sl o1 b1 n1 x1))
    (c1 : SlcP false 0 (V.str s0) none (some (vi (if 230 < (↑s0.length : Int) then 230 else (↑s0.length : Int)))) none (V.str (List.take (if 230 < (↑s0.length : Int) then 230 else (↑s0.length : Int)).toNat s0)))
    (c2 : cP ((k + 21)) 57 [V.sl o1 b1 n1 x1, V.agg [vu i1, vu (wU (↑(List.take (if 230 < (↑s0.length : Int) then 230 else (↑s0.length : Int)).toNat s0).length : Int))]] = some (V.tup [V.str s1, vi i3]))
    (c3 : (!decide (i3 = 0)) = false)
    (c4 : cP ((k + 21)) 55 [V.sl o1 b1 n1 x1, V.agg [vu i1, vu (wU (↑(List.take (if 230 < (↑s0.length : Int) then 230 else (↑s0.length : Int)).toNat s0).length : Int))]] = some (V.tup [V.sl o2 b2 n2 x2, vi i4]))
    (c5 : cP ((k + 21)) 56 [V.sl o1 b1 n1 x1, V.agg [vu i1, vu (wU (↑(List.take (if 230 < (↑s0.length : Int) then 230 else (↑s0.length : Int)).toNat s0).length : Int))]] = some (V.tup [V.sl o3 b3 n3 x3, vi i5]))
    (c6 : (!decide (i4 = 0)) = false)
    (c7 : (!decide (i5 = 0)) = false)
    (c8 : decide ((↑x1.length : Int) < (↑x2.length : Int)) = false)
    (c9 : decide ((↑x1.length : Int) < (↑x3.length : Int)) = false)
    (c10 : cP ((k + 21)) 58 [V.sl o2 b2 n2 x2] = some (V.bool b4))
    (c11 : (!b4) = false)
    (c12 : cP ((k + 21)) 58 [V.sl o3 b3 n3 x3] = some (V.bool b5))
    (c13 : (!b5) = false)
    (c14 : cP ((k + 21)) 53 [] = some (V.bool b6))
    (c15 : (!b6) = false)
    (c16 : cP ((k + 21)) 59 [V.str [0], vi (↑(List.take (if 230 < (↑s0.length : Int) then 230 else (↑s0.length : Int)).toNat s0).length : Int)] = some (V.str s2))
    (c17 : cP ((k + 21)) 51 [V.sl o1 b1 n1 x1, vi i0, vu i1, V.str (List.take (if 230 < (↑s0.length : Int) then 230 else (↑s0.length : Int)).toNat s0)] = some (V.tup [V.sl o4 b7 n4 x4, vi i6]))
    (c18 : cP ((k + 21)) 52 [V.sl o1 b1 n1 x1, vi i0, V.agg [vu i1, vu (wU (↑(List.take (if 230 < (↑s0.length : Int) then 230 else (↑s0.length : Int)).toNat s0).length : Int))]] = some (V.tup [V.sl o5 b8 n5 x5, vi i7]))
    (c19 : cP ((k + 21)) 60 [V.sl o2 b2 n2 x2, V.agg [vu i1, vu (wU (↑(List.take (if 230 < (↑s0.length : Int) then 230 else (↑s0.length : Int)).toNat s0).length : Int))], V.str s2, V.sl o1 b1 n1 x1, vu i2] = some (V.bool b9))
    (c20 : b9 = true)
    (c21 : cP ((k + 21)) 60 [V.sl o3 b3 n3 x3, V.agg [vu i1, vu (wU (↑(List.take (if 230 < (↑s0.length : Int) then 230 else (↑s0.length : Int)).toNat s0).length : Int))], V.str s2, V.sl o1 b1 n1 x1, vu i2] = some (V.bool b10))
    (c22 : b10 = true)
    (c23 : (!decide (i6 = 0)) = false)
    (c24 : cP ((k + 21)) 60 [V.sl o4 b7 n4 x4, V.agg [vu i1, vu (wU (↑(List.take (if 230 < (↑s0.length : Int) then 230 else (↑s0.length : Int)).toNat s0).length : Int))], V.str (List.take (if 230 < (↑s0.length : Int) then 230 else (↑s0.length : Int)).toNat s0), V.sl o1 b1 n1 x1, vu i2] = some (V.bool b11))
    (c25 : b11 = true)
    (c26 : (!decide (i7 = 0)) = true) :
    cP ((k + 22)) 15 [V.sl o0 b0 n0 x0, vi i0, vu i1, V.str s0, vu i2] = some (V.bool true) :=
  byF (k := k) (d := 22) [Hn.call 24 (V.sl o1 b1 n1 x1), Hn.op 29 (V.str (List.take (if 230 < (↑s0.length : Int) then 230 else (↑s0.length : Int)).toNat s0)) [], Hn.call 38 (V.tup [V.str s1, vi i3]), Hn.br 42 false, Hn.call 51 (V.tup [V.sl o2 b2 n2 x2, vi i4]), Hn.call 57 (V.tup [V.sl o3 b3 n3 x3, vi i5]), Hn.br 62 false, Hn.br 66 false, Hn.br 73 false, Hn.br 80 false, Hn.call 82 (V.bool b4), Hn.br 85 false, Hn.call 87 (V.bool b5), Hn.br 90 false, Hn.call 91 (V.bool b6), Hn.br 93 false, Hn.call 96 (V.str s2), Hn.call 102 (V.tup [V.sl o4 b7 n4 x4, vi i6]), Hn.call 109 (V.tup [V.sl o5 b8 n5 x5, vi i7]), Hn.call 117 (V.bool b9), Hn.br 118 true, Hn.call 124 (V.bool b10), Hn.br 126 true, Hn.br 129 false, Hn.call 135 (V.bool b11), Hn.br 138 true, Hn.br 141 true] (aI c0 (aI c1 (aI c2 (aI c3 (aI c4 (aI c5 (aI c6 (aI c7 (aI c8 (aI c9 (aI c10 (aI c11 (aI c12 (aI c13 (aI c14 (aI c15 (aI c16 (aI c17 (aI c18 (aI c19 (aI c20 (aI c21 (aI c22 (aI c23 (aI c24 (aI c25 (aI c26 trivial))))))))))))))))))))))))))) (by kernel_rfl)
theorem P15_12 (i0 i1 i2 i3 i4 i5 i6 i7 : Int) (b0 b1 b2 b3 b4 b5 b6 b7 b8 b9 b10 b11 b12 : Bool) (s0 s1 s2 : List UInt8) (x0 x1 x2 x3 x4 x5 : List V) (o0 o1 o2 o3 o4 o5 : Option Bool) (n0 n1 n2 n3 n4 n5 k : Nat)
    (c0 : cP ((k + 21)) 50 [V.sl o0 b0 n0 x0] = some (V.sl o1 b1 n1 x1))
    (c1 : SlcP false 0 (V.str s0) none (some (vi (if 230 < (↑s0.length : Int) then 230 else (↑s0.length : Int)))) none (V.str (List.take (if 230 < (↑s0.length : Int) then 230 else (↑s0.length : Int)).toNat s0)))
    (c2 : cP ((k + 21)) 57 [V.sl o1 b1 n1 x1, V.agg [vu i1, vu (wU (↑(List.take (if 230 < (↑s0.length : Int) then 230 else (↑s0.length : Int)).toNat s0).length : Int))]] = some (V.tup [V.str s1, vi i3]))
    (c3 : (!decide (i3 = 0)) = false)
    (c4 : cP ((k + 21)) 55 [V.sl o1 b1 n1 x1, V.agg [vu i1, vu (wU (↑(List.take (if 230 < (↑s0.length : Int) then 230 else (↑s0.length : Int)).toNat s0).length : Int))]] = some (V.tup [V.sl o2 b2 n2 x2, vi i4]))
    (c5 : cP ((k + 21)) 56 [V.sl o1 b1 n1 x1, V.agg [vu i1, vu (wU (↑(List.take (if 230 < (↑s0.length : Int) then 230 else (↑s0.length : Int)).toNat s0).length : Int))]] = some (V.tup [V.sl o3 b3 n3 x3, vi i5]))
    (c6 : (!decide (i4 = 0)) = false)
    (c7 : (!decide (i5 = 0)) = false)
    (c8 : decide ((↑x1.length : Int) < (↑x2.length : Int)) = false)
    (c9 : decide ((↑x1.length : Int) < (↑x3.length : Int)) = false)
    (c10 : cP ((k + 21)) 58 [V.sl o2 b2 n2 x2] = some (V.bool b4))
    (c11 : (!b4) = false)
    (c12 : cP ((k + 21)) 58 [V.sl o3 b3 n3 x3] = some (V.bool b5))
    (c13 : (!b5) = false)
    (c14 : cP ((k + 21)) 53 [] = some (V.bool b6))
    (c15 : (!b6) = false)
    (c16 : cP ((k + 21)) 59 [V.str [0], vi (↑(List.take (if 230 < (↑s0.length : Int) then 230 else (↑s0.length : Int)).toNat s0).length : Int)] = some (V.str s2))
    (c17 : cP ((k + 21)) 51 [V.sl o1 b1 n1 x1, vi i0, vu i1, V.str (List.take (if 230 < (↑s0.length : Int) then 230 else (↑s0.length : Int)).toNat s0)] = some (V.tup [V.sl o4 b7 n4 x4, vi i6]))
    (c18 : cP ((k + 21)) 52 [V.sl o1 b1 n1 x1, vi i0, V.agg [vu i1, vu (wU (↑(List.take (if 230 < (↑s0.length : Int) then 230 else (↑s0.length : Int)).toNat s0).length : Int))]] = some (V.tup [V.sl o5 b8 n5 x5, vi i7]))
    (c19 : cP ((k + 21)) 60 [V.sl o2 b2 n2 x2, V.agg [vu i1, vu (wU (↑(List.take (if 230 < (↑s0.length : Int) then 230 else (↑s0.length : Int)).toNat s0).length : Int))], V.str s2, V.sl o1 b1 n1 x1, vu i2] = some (V.bool b9))
    (c20 : b9 = true)
    (c21 : cP ((k + 21)) 60 [V.sl o3 b3 n3 x3, V.agg [vu i1, vu (wU (↑(List.take (if 230 < (↑s0.length : Int) then 230 else (↑s0.length : Int)).toNat s0).length : Int))], V.str s2, V.sl o1 b1 n1 x1, vu i2] = some (V.bool b10))
    (c22 : b10 = true)
    (c23 : (!decide (i6 = 0)) = false)
    (c24 : cP ((k + 21)) 60 [V.sl o4 b7 n4 x4, V.agg [vu i1, vu (wU (↑(List.take (if 230 < (↑s0.length : Int) then 230 else (↑s0.length : Int)).toNat s0).length : Int))], V.str (List.take (if 230 < (↑s0.length : Int) then 230 else (↑s0.length : Int)).toNat s0), V.sl o1 b1 n1 x1, vu i2] = some (V.bool b11))
    (c25 : b11 = true)
    (c26 : (!decide (i7 = 0)) = false)
    (c27 : cP ((k + 21)) 60 [V.sl o5 b8 n5 x5, V.agg [vu i1, vu (wU (↑(List.take (if 230 < (↑s0.length : Int) then 230 else (↑s0.length : Int)).toNat s0).length : Int))], V.str s1, V.sl o1 b1 n1 x1, vu i2] = some (V.bool b12)) :
    cP ((k + 22)) 15 [V.sl o0 b0 n0 x0, vi i0, vu i1, V.str s0, vu i2] = some (V.bool b12) :=
  byF (k := k) (d := 22) [Hn.call 24 (V.sl o1 b1 n1 x1), Hn.op 29 (V.str (List.take (if 230 < (↑s0.length : Int) then 230 else (↑s0.length : Int)).toNat s0)) [], Hn.call 38 (V.tup [V.str s1, vi i3]), Hn.br 42 false, Hn.call 51 (V.tup [V.sl o2 b2 n2 x2, vi i4]), Hn.call 57 (V.tup [V.sl o3 b3 n3 x3, vi i5]), Hn.br 62 false, Hn.br 66 false, Hn.br 73 false, Hn.br 80 false, Hn.call 82 (V.bool b4), Hn.br 85 false, Hn.call 87 (V.bool b5), Hn.br 90 false, Hn.call 91 (V.bool b6), Hn.br 93 false, Hn.call 96 (V.str s2), Hn.call 102 (V.tup [V.sl o4 b7 n4 x4, vi i6]), Hn.call 109 (V.tup [V.sl o5 b8 n5 x5, vi i7]), Hn.call 117 (V.bool b9), Hn.br 118 true, Hn.call 124 (V.bool b10), Hn.br 126 true, Hn.br 129 false, Hn.call 135 (V.bool b11), Hn.br 138 true, Hn.br 141 false, Hn.call 147 (V.bool b12)] (aI c0 (aI c1 (aI c2 (aI c3 (aI c4 (aI c5 (aI c6 (aI c7 (aI c8 (aI c9 (aI c10 (aI c11 (aI c12 (aI c13 (aI c14 (aI c15 (aI c16 (aI c17 (aI c18 (aI c19 (aI c20 (aI c21 (aI c22 (aI c23 (aI c24 (aI c25 (aI c26 (aI c27 trivial)))))))))))))))))))))))))))) (by kernel_rfl)
theorem P15_13 (i0 i1 i2 i3 i4 i5 i6 i7 : Int) (b0 b1 b2 b3 b4 b5 b6 b7 b8 b9 b10 b11 : Bool) (s0 s1 s2 : List UInt8) (x0 x1 x2 x3 x4 x5 : List V) (o0 o1 o2 o3 o4 o5 : Option Bool) (n0 n1 n2 n3 n4 n5 k : Nat)
    (c0 : cP ((k + 21)) 50 [V.sl o0 b0 n0 x0] = some (V.sl o1 b1 n1 x1))
    (c1 : SlcP false 0 (V.str s0) none (some (vi (if 230 < (↑s0.length : Int) then 230 else (↑s0.length : Int)))) none (V.str (List.take (if 230 < (↑s0.length : Int) then 230 else (↑s0.length : Int)).toNat s0)))
    (c2 : cP ((k + 21)) 57 [V.sl o1 b1 n1 x1, V.agg [vu i1, vu (wU (↑(List.take (if 230 < (↑s0.length : Int) then 230 else (↑s0.length : Int)).toNat s0).length : Int))]] = some (V.tup [V.str s1, vi i3]))
    (c3 : (!decide (i3 = 0)) = false)
    (c4 : cP ((k + 21)) 55 [V.sl o1 b1 n1 x1, V.agg [vu i1, vu (wU (↑(List.take (if 230 < (↑s0.length : Int) then 230 else (↑s0.length : Int)).toNat s0).length : Int))]] = some (V.tup [V.sl o2 b2 n2 x2, vi i4]))
    (c5 : cP ((k + 21)) 56 [V.sl o1 b1 n1 x1, V.agg [vu i1, vu (wU (↑(List.take (if 230 < (↑s0.length : Int) then 230 else (↑s0.length : Int)).toNat s0).length : Int))]] = some (V.tup [V.sl o3 b3 n3 x3, vi i5]))
    (c6 : (!decide (i4 = 0)) = false)
    (c7 : (!decide (i5 = 0)) = false)
    (c8 : decide ((↑x1.length : Int) < (↑x2.length : Int)) = false)
    (c9 : decide ((↑x1.length : Int) < (↑x3.length : Int)) = false)
    (c10 : cP ((k + 21)) 58 [V.sl o2 b2 n2 x2] = some (V.bool b4))
    (c11 : (!b4) = false)
    (c12 : cP ((k + 21)) 58 [V.sl o3 b3 n3 x3] = some (V.bool b5))
    (c13 : (!b5) = false)
    (c14 : cP ((k + 21)) 53 [] = some (V.bool b6))
    (c15 : (!b6) = false)
    (c16 : cP ((k + 21)) 59 [V.str [0], vi (↑(List.take (if 230 < (↑s0.length : Int) then 230 else (↑s0.length : Int)).toNat s0).length : Int)] = some (V.str s2))
    (c17 : cP ((k + 21)) 51 [V.sl o1 b1 n1 x1, vi i0, vu i1, V.str (List.take (if 230 < (↑s0.length : Int) then 230 else (↑s0.length : Int)).toNat s0)] = some (V.tup [V.sl o4 b7 n4 x4, vi i6]))
    (c18 : cP ((k + 21)) 52 [V.sl o1 b1 n1 x1, vi i0, V.agg [vu i1, vu (wU (↑(List.take (if 230 < (↑s0.length : Int) then 230 else (↑s0.length : Int)).toNat s0).length : Int))]] = some (V.tup [V.sl o5 b8 n5 x5, vi i7]))
    (c19 : cP ((k + 21)) 60 [V.sl o2 b2 n2 x2, V.agg [vu i1, vu (wU (↑(List.take (if 230 < (↑s0.length : Int) then 230 else (↑s0.length : Int)).toNat s0).length : Int))], V.str s2, V.sl o1 b1 n1 x1, vu i2] = some (V.bool b9))
    (c20 : b9 = true)
    (c21 : cP ((k + 21)) 60 [V.sl o3 b3 n3 x3, V.agg [vu i1, vu (wU (↑(List.take (if 230 < (↑s0.length : Int) then 230 else (↑s0.length : Int)).toNat s0).length : Int))], V.str s2, V.sl o1 b1 n1 x1, vu i2] = some (V.bool b10))
    (c22 : b10 = true)
    (c23 : (!decide (i6 = 0)) = false)
    (c24 : cP ((k + 21)) 60 [V.sl o4 b7 n4 x4, V.agg [vu i1, vu (wU (↑(List.take (if 230 < (↑s0.length : Int) then 230 else (↑s0.length : Int)).toNat s0).length : Int))], V.str (List.take (if 230 < (↑s0.length : Int) then 230 else (↑s0.length : Int)).toNat s0), V.sl o1 b1 n1 x1, vu i2] = some (V.bool b11))
    (c25 : b11 = false) :
    cP ((k + 22)) 15 [V.sl o0 b0 n0 x0, vi i0, vu i1, V.str s0, vu i2] = some (V.bool false) :=
  byF (k := k) (d := 22) [Hn.call 24 (V.sl o1 b1 n1 x1), Hn.op 29 (V.str (List.take (if 230 < (↑s0.length : Int) then 230 else (↑s0.length : Int)).toNat s0)) [], Hn.call 38 (V.tup [V.str s1, vi i3]), Hn.br 42 false, Hn.call 51 (V.tup [V.sl o2 b2 n2 x2, vi i4]), Hn.call 57 (V.tup [V.sl o3 b3 n3 x3, vi i5]), Hn.br 62 false, Hn.br 66 false, Hn.br 73 false, Hn.br 80 false, Hn.call 82 (V.bool b4), Hn.br 85 false, Hn.call 87 (V.bool b5), Hn.br 90 false, Hn.call 91 (V.bool b6), Hn.br 93 false, Hn.call 96 (V.str s2), Hn.call 102 (V.tup [V.sl o4 b7 n4 x4, vi i6]), Hn.call 109 (V.tup [V.sl o5 b8 n5 x5, vi i7]), Hn.call 117 (V.bool b9), Hn.br 118 true, Hn.call 124 (V.bool b10), Hn.br 126 true, Hn.br 129 false, Hn.call 135 (V.bool b11), Hn.br 138 false] (aI c0 (aI c1 (aI c2 (aI c3 (aI c4 (aI c5 (aI c6 (aI c7 (aI c8 (aI c9 (aI c10 (aI c11 (aI c12 (aI c13 (aI c14 (aI c15 (aI c16 (aI c17 (aI c18 (aI c19 (aI c20 (aI c21 (aI c22 (aI c23 (aI c24 (aI c25 trivial)))))))))))))))))))))))))) (by kernel_rfl)
theorem P15_14 (i0 i1 i2 i3 i4 i5 i6 i7 : Int) (b0 b1 b2 b3 b4 b5 b6 b7 b8 b9 b10 : Bool) (s0 s1 s2 : List UInt8) (x0 x1 x2 x3 x4 x5 : List V) (o0 o1 o2 o3 o4 o5 : Option Bool) (n0 n1 n2 n3 n4 n5 k : Nat)
    (c0 : cP ((k + 21)) 50 [V.sl o0 b0 n0 x0] = some (V.sl o1 b1 n1 x1))
    (c1 : SlcP false 0 (V.str s0) none (some (vi (if 230 < (↑s0.length : Int) then 230 else (↑s0.length : Int)))) none (V.str (List.take (if 230 < (↑s0.length : Int) then 230 else (↑s0.length : Int)).toNat s0)))
    (c2 : cP ((k + 21)) 57 [V.sl o1 b1 n1 x1, V.agg [vu i1, vu (wU (↑(List.take (if 230 < (↑s0.length : Int) then 230 else (↑s0.length : Int)).toNat s0).length : Int))]] = some (V.tup [V.str s1, vi i3]))
    (c3 : (!decide (i3 = 0)) = false)
    (c4 : cP ((k + 21)) 55 [V.sl o1 b1 n1 x1, V.agg [vu i1, vu (wU (↑(List.take (if 230 < (↑s0.length : Int) then 230 else (↑s0.length : Int)).toNat s0).length : Int))]] = some (V.tup [V.sl o2 b2 n2 x2, vi i4]))
    (c5 : cP ((k + 21)) 56 [V.sl o1 b1 n1 x1, V.agg [vu i1, vu (wU (↑(List.take (if 230 < (↑s0.length : Int) then 230 else (↑s0.length : Int)).toNat s0).length : Int))]] = some (V.tup [V.sl o3 b3 n3 x3, vi i5]))
    (c6 : (!decide (i4 = 0)) = false)
    (c7 : (!decide (i5 = 0)) = false)
    (c8 : decide ((↑x1.length : Int) < (↑x2.length : Int)) = false)
    (c9 : decide ((↑x1.length : Int) < (↑x3.length : Int)) = false)
    (c10 : cP ((k + 21)) 58 [V.sl o2 b2 n2 x2] = some (V.bool b4))
    (c11 : (!b4) = false)
    (c12 : cP ((k + 21)) 58 [V.sl o3 b3 n3 x3] = some (V.bool b5))
    (c13 : (!b5) = false)
    (c14 : cP ((k + 21)) 53 [] = some (V.bool b6))
    (c15 : (!b6) = false)
    (c16 : cP ((k + 21)) 59 [V.str [0], vi (↑(List.take (if 230 < (↑s0.length : Int) then 230 else (↑s0.length : Int)).toNat s0).length : Int)] = some (V.str s2))
    (c17 : cP ((k + 21)) 51 [V.sl o1 b1 n1 x1, vi i0, vu i1, V.str (List.take (if 230 < (↑s0.length : Int) then 230 else (↑s0.length : Int)).toNat s0)] = some (V.tup [V.sl o4 b7 n4 x4, vi i6]))
    (c18 : cP ((k + 21)) 52 [V.sl o1 b1 n1 x1, vi i0, V.agg [vu i1, vu (wU (↑(List.take (if 230 < (↑s0.length : Int) then 230 else (↑s0.length : Int)).toNat s0).length : Int))]] = some (V.tup [V.sl o5 b8 n5 x5, vi i7]))
    (c19 : cP ((k + 21)) 60 [V.sl o2 b2 n2 x2, V.agg [vu i1, vu (wU (↑(List.take (if 230 < (↑s0.length : Int) then 230 else (↑s0.length : Int)).toNat s0).length : Int))], V.str s2, V.sl o1 b1 n1 x1, vu i2] = some (V.bool b9))
    (c20 : b9 = true)
    (c21 : cP ((k + 21)) 60 [V.sl o3 b3 n3 x3, V.agg [vu i1, vu (wU (↑(List.take (if 230 < (↑s0.length : Int) then 230 else (↑s0.length : Int)).toNat s0).length : Int))], V.str s2, V.sl o1 b1 n1 x1, vu i2] = some (V.bool b10))
    (c22 : b10 = false) :
    cP ((k + 22)) 15 [V.sl o0 b0 n0 x0, vi i0, vu i1, V.str s0, vu i2] = some (V.bool false) :=
  byF (k := k) (d := 22) [Hn.call 24 (V.sl o1 b1 n1 x1), Hn.op 29 (V.str (List.take (if 230 < (↑s0.length : Int) then 230 else (↑s0.length : Int)).toNat s0)) [], Hn.call 38 (V.tup [V.str s1, vi i3]), Hn.br 42 false, Hn.call 51 (V.tup [V.sl o2 b2 n2 x2, vi i4]), Hn.call 57 (V.tup [V.sl o3 b3 n3 x3, vi i5]), Hn.br 62 false, Hn.br 66 false, Hn.br 73 false, Hn.br 80 false, Hn.call 82 (V.bool b4), Hn.br 85 false, Hn.call 87 (V.bool b5), Hn.br 90 false, Hn.call 91 (V.bool b6), Hn.br 93 false, Hn.call 96 (V.str s2), Hn.call 102 (V.tup [V.sl o4 b7 n4 x4, vi i6]), Hn.call 109 (V.tup [V.sl o5 b8 n5 x5, vi i7]), Hn.call 117 (V.bool b9), Hn.br 118 true, Hn.call 124 (V.bool b10), Hn.br 126 false] (aI c0 (aI c1 (aI c2 (aI c3 (aI c4 (aI c5 (aI c6 (aI c7 (aI c8 (aI c9 (aI c10 (aI c11 (aI c12 (aI c13 (aI c14 (aI c15 (aI c16 (aI c17 (aI c18 (aI c19 (aI c20 (aI c21 (aI c22 trivial))))))))))))))))))))))) (by kernel_rfl)
theorem P15_15 (i0 i1 i2 i3 i4 i5 i6 i7 : Int) (b0 b1 b2 b3 b4 b5 b6 b7 b8 b9 : Bool) (s0 s1 s2 : List UInt8) (x0 x1 x2 x3 x4 x5 : List V) (o0 o1 o2 o3 o4 o5 : Option Bool) (n0 n1 n2 n3 n4 n5 k : Nat)
    (c0 : cP ((k + 21)) 50 [V.sl o0 b0 n0 x0] = some (V.sl o1 b1 n1 x1))
    (c1 : SlcP false 0 (V.str s0) none (some (vi (if 230 < (↑s0.length : Int) then 230 else (↑s0.length : Int)))) none (V.str (List.take (if 230 < (↑s0.length : Int) then 230 else (↑s0.length : Int)).toNat s0)))
    (c2 : cP ((k + 21)) 57 [V.sl o1 b1 n1 x1, V.agg [vu i1, vu (wU (↑(List.take (if 230 < (↑s0.length : Int) then 230 else (↑s0.length : Int)).toNat s0).length : Int))]] = some (V.tup [V.str s1, vi i3]))
    (c3 : (!decide (i3 = 0)) = false)
    (c4 : cP ((k + 21)) 55 [V.sl o1 b1 n1 x1, V.agg [vu i1, vu (wU (↑(List.take (if 230 < (↑s0.length : Int) then 230 else (↑s0.length : Int)).toNat s0).length : Int))]] = some (V.tup [V.sl o2 b2 n2 x2, vi i4]))
    (c5 : cP ((k + 21)) 56 [V.sl o1 b1 n1 x1, V.agg [vu i1, vu (wU (↑(List.take (if 230 < (↑s0.length : Int) then 230 else (↑s0.length : Int)).toNat s0).length : Int))]] = some (V.tup [V.sl o3 b3 n3 x3, vi i5]))
    (c6 : (!decide (i4 = 0)) = false)
    (c7 : (!decide (i5 = 0)) = false)
    (c8 : decide ((↑x1.length : Int) < (↑x2.length : Int)) = false)
    (c9 : decide ((↑x1.length : Int) < (↑x3.length : Int)) = false)
    (c10 : cP ((k + 21)) 58 [V.sl o2 b2 n2 x2] = some (V.bool b4))
    (c11 : (!b4) = false)
    (c12 : cP ((k + 21)) 58 [V.sl o3 b3 n3 x3] = some (V.bool b5))
    (c13 : (!b5) = false)
    (c14 : cP ((k + 21)) 53 [] = some (V.bool b6))
    (c15 : (!b6) = false)
    (c16 : cP ((k + 21)) 59 [V.str [0], vi (↑(List.take (if 230 < (↑s0.length : Int) then 230 else (↑s0.length : Int)).toNat s0).length : Int)] = some (V.str s2))
    (c17 : cP ((k + 21)) 51 [V.sl o1 b1 n1 x1, vi i0, vu i1, V.str (List.take (if 230 < (↑s0.length : Int) then 230 else (↑s0.length : Int)).toNat s0)] = some (V.tup [V.sl o4 b7 n4 x4, vi i6]))
    (c18 : cP ((k + 21)) 52 [V.sl o1 b1 n1 x1, vi i0, V.agg [vu i1, vu (wU (↑(List.take (if 230 < (↑s0.length : Int) then 230 else (↑s0.length : Int)).toNat s0).length : Int))]] = some (V.tup [V.sl o5 b8 n5 x5, vi i7]))
    (c19 : cP ((k + 21)) 60 [V.sl o2 b2 n2 x2, V.agg [vu i1, vu (wU (↑(List.take (if 230 < (↑s0.length : Int) then 230 else (↑s0.length : Int)).toNat s0).length : Int))], V.str s2, V.sl o1 b1 n1 x1, vu i2] = some (V.bool b9))
    (c20 : b9 = false) :
    cP ((k + 22)) 15 [V.sl o0 b0 n0 x0, vi i0, vu i1, V.str s0, vu i2] = some (V.bool false) :=
  byF (k := k) (d := 22) [Hn.call 24 (V.sl o1 b1 n1 x1), Hn.op 29 (V.str (List.take (if 230 < (↑s0.length : Int) then 230 else (↑s0.length : Int)).toNat s0)) [], Hn.call 38 (V.tup [V.str s1, vi i3]), Hn.br 42 false, Hn.call 51 (V.tup [V.sl o2 b2 n2 x2, vi i4]), Hn.call 57 (V.tup [V.sl o3 b3 n3 x3, vi i5]), Hn.br 62 false, Hn.br 66 false, Hn.br 73 false, Hn.br 80 false, Hn.call 82 (V.bool b4), Hn.br 85 false, Hn.call 87 (V.bool b5), Hn.br 90 false, Hn.call 91 (V.bool b6), Hn.br 93 false, Hn.call 96 (V.str s2), Hn.call 102 (V.tup [V.sl o4 b7 n4 x4, vi i6]), Hn.call 109 (V.tup [V.sl o5 b8 n5 x5, vi i7]), Hn.call 117 (V.bool b9), Hn.br 118 false] (aI c0 (aI c1 (aI c2 (aI c3 (aI c4 (aI c5 (aI c6 (aI c7 (aI c8 (aI c9 (aI c10 (aI c11 (aI c12 (aI c13 (aI c14 (aI c15 (aI c16 (aI c17 (aI c18 (aI c19 (aI c20 trivial))))))))))))))))))))) (by kernel_rfl)
def F15 (k : Nat) (o0 : Option Bool) (b0 : Bool) (n0 : Nat) (x0 : List V) (i0 i1 : Int) (s0 : List UInt8) (i2 : Int) : Option (Bool) :=
  ((F50 (k + 18) (o0) (b0) (n0) (x0)).bind fun (o1, b1, n1, x1) => (guardP (((0 : Int) ≤ if (230 : Int) < (↑s0.length : Int) then (230 : Int) else (↑s0.length : Int)) ∧ (if (230 : Int) < (↑s0.length : Int) then (230 : Int) else (↑s0.length : Int)) ≤ (↑s0.length : Int)) ((F57 (k + 6) (o1) (b1) (n1) (x1) (i1) (IntKind.u64.wrap (↑(List.take (if 230 < (↑s0.length : Int) then 230 else (↑s0.length : Int)).toNat s0).length : Int))).bind fun (s1, i3) => (bif !decide (i3 = 0) then ((F53 (k + 2)).bind fun b2 => (bif b2 then (some (decide (s1 = []))) else (some (false)))) else ((F55 (k + 5) (o1) (b1) (n1) (x1) (i1) (IntKind.u64.wrap (↑(List.take (if 230 < (↑s0.length : Int) then 230 else (↑s0.length : Int)).toNat s0).length : Int))).bind fun (o2, b2, n2, x2, i4) => ((F56 (k + 5) (o1) (b1) (n1) (x1) (i1) (IntKind.u64.wrap (↑(List.take (if 230 < (↑s0.length : Int) then 230 else (↑s0.length : Int)).toNat s0).length : Int))).bind fun (o3, b3, n3, x3, i5) => (bif !decide (i4 = 0) then (some (false)) else (bif !decide (i5 = 0) then (some (false)) else (bif decide ((↑x1.length : Int) < (↑x2.length : Int)) then (some (false)) else (bif decide ((↑x1.length : Int) < (↑x3.length : Int)) then (some (false)) else ((F58 (k + 18) (o2) (b2) (n2) (x2)).bind fun b4 => (bif !b4 then (some (false)) else ((F58 (k + 18) (o3) (b3) (n3) (x3)).bind fun b5 => (bif !b5 then (some (false)) else ((F53 (k + 2)).bind fun b6 => (bif !b6 then (some (false)) else ((F59 (k + 20) ([0]) ((↑(List.take (if 230 < (↑s0.length : Int) then 230 else (↑s0.length : Int)).toNat s0).length : Int))).bind fun s2 => ((F51 (k + 5) (o1) (b1) (n1) (x1) (i0) (i1) (List.take (if 230 < (↑s0.length : Int) then 230 else (↑s0.length : Int)).toNat s0)).bind fun (o4, b7, n4, x4, i6) => ((F52 (k + 5) (o1) (b1) (n1) (x1) (i0) (i1) (IntKind.u64.wrap (↑(List.take (if 230 < (↑s0.length : Int) then 230 else (↑s0.length : Int)).toNat s0).length : Int))).bind fun (o5, b8, n5, x5, i7) => ((F60 (k + 3) (o2) (b2) (n2) (x2) (i1) (IntKind.u64.wrap (↑(List.take (if 230 < (↑s0.length : Int) then 230 else (↑s0.length : Int)).toNat s0).length : Int)) (s2) (o1) (b1) (n1) (x1) (i2)).bind fun b9 => (bif b9 then ((F60 (k + 3) (o3) (b3) (n3) (x3) (i1) (IntKind.u64.wrap (↑(List.take (if 230 < (↑s0.length : Int) then 230 else (↑s0.length : Int)).toNat s0).length : Int)) (s2) (o1) (b1) (n1) (x1) (i2)).bind fun b10 => (bif b10 then (bif !decide (i6 = 0) then (bif !decide (i7 = 0) then (some (true)) else ((F60 (k + 3) (o5) (b8) (n5) (x5) (i1) (IntKind.u64.wrap (↑(List.take (if 230 < (↑s0.length : Int) then 230 else (↑s0.length : Int)).toNat s0).length : Int)) (s1) (o1) (b1) (n1) (x1) (i2)).bind fun b11 => (some (b11)))) else ((F60 (k + 3) (o4) (b7) (n4) (x4) (i1) (IntKind.u64.wrap (↑(List.take (if 230 < (↑s0.length : Int) then 230 else (↑s0.length : Int)).toNat s0).length : Int)) (List.take (if 230 < (↑s0.length : Int) then 230 else (↑s0.length : Int)).toNat s0) (o1) (b1) (n1) (x1) (i2)).bind fun b11 => (bif b11 then (bif !decide (i7 = 0) then (some (true)) else ((F60 (k + 3) (o5) (b8) (n5) (x5) (i1) (IntKind.u64.wrap (↑(List.take (if 230 < (↑s0.length : Int) then 230 else (↑s0.length : Int)).toNat s0).length : Int)) (s1) (o1) (b1) (n1) (x1) (i2)).bind fun b12 => (some (b12)))) else (some (false))))) else (some (false)))) else (some (false)))))))))))))))))))))))
theorem F15_ok {o0 : Option Bool} {b0 : Bool} {n0 : Nat} {x0 : List V} {i0 i1 : Int} {s0 : List UInt8} {i2 : Int} {k : Nat} {r : Bool} (h : F15 k o0 b0 n0 x0 i0 i1 s0 i2 = some r) :
    cP ((k + 22)) 15 [V.sl o0 b0 n0 x0, vi i0, vu i1, V.str s0, vu i2] = some (V.bool r) := by
  unfold F15 at h
  obtain ⟨⟨o1, b1, n1, x1⟩, e0, h⟩ := bE h
  obtain ⟨e1, h⟩ := guardP_some.1 h
  obtain ⟨⟨s1, i3⟩, e2, h⟩ := bE h
  rcases cond_elim h with ⟨e3, h⟩ | ⟨e3, h⟩
  ·
    obtain ⟨b2, e4, h⟩ := bE h
    rcases cond_elim h with ⟨e5, h⟩ | ⟨e5, h⟩
    ·
      have h := Option.some.inj h; subst h; exact P15_0 i0 i1 i2 i3 b0 b1 b2 s0 s1 x0 x1 o0 o1 n0 n1 k (F50_ok e0) (SlcP.strUptoS e1) (F57_ok e2) e3 (F53_ok e4) e5
    ·
      have h := Option.some.inj h; subst h; exact P15_1 i0 i1 i2 i3 b0 b1 b2 s0 s1 x0 x1 o0 o1 n0 n1 k (F50_ok e0) (SlcP.strUptoS e1) (F57_ok e2) e3 (F53_ok e4) e5
  ·
    obtain ⟨⟨o2, b2, n2, x2, i4⟩, e4, h⟩ := bE h
    obtain ⟨⟨o3, b3, n3, x3, i5⟩, e5, h⟩ := bE h
    rcases cond_elim h with ⟨e6, h⟩ | ⟨e6, h⟩
    ·
      have h := Option.some.inj h; subst h; exact P15_2 i0 i1 i2 i3 i4 i5 b0 b1 b2 b3 s0 s1 x0 x1 x2 x3 o0 o1 o2 o3 n0 n1 n2 n3 k (F50_ok e0) (SlcP.strUptoS e1) (F57_ok e2) e3 (F55_ok e4) (F56_ok e5) e6
    ·
      rcases cond_elim h with ⟨e7, h⟩ | ⟨e7, h⟩
      ·
        have h := Option.some.inj h; subst h; exact P15_3 i0 i1 i2 i3 i4 i5 b0 b1 b2 b3 s0 s1 x0 x1 x2 x3 o0 o1 o2 o3 n0 n1 n2 n3 k (F50_ok e0) (SlcP.strUptoS e1) (F57_ok e2) e3 (F55_ok e4) (F56_ok e5) e6 e7
      ·
        rcases cond_elim h with ⟨e8, h⟩ | ⟨e8, h⟩
        ·
          have h := Option.some.inj h; subst h; exact P15_4 i0 i1 i2 i3 i4 i5 b0 b1 b2 b3 s0 s1 x0 x1 x2 x3 o0 o1 o2 o3 n0 n1 n2 n3 k (F50_ok e0) (SlcP.strUptoS e1) (F57_ok e2) e3 (F55_ok e4) (F56_ok e5) e6 e7 e8
        ·
          rcases cond_elim h with ⟨e9, h⟩ | ⟨e9, h⟩
          ·
            have h := Option.some.inj h; subst h; exact P15_5 i0 i1 i2 i3 i4 i5 b0 b1 b2 b3 s0 s1 x0 x1 x2 x3 o0 o1 o2 o3 n0 n1 n2 n3 k (F50_ok e0) (SlcP.strUptoS e1) (F57_ok e2) e3 (F55_ok e4) (F56_ok e5) e6 e7 e8 e9
          ·
            obtain ⟨b4, e10, h⟩ := bE h
            rcases cond_elim h with ⟨e11, h⟩ | ⟨e11, h⟩
            ·
              have h := Option.some.inj h; subst h; exact P15_6 i0 i1 i2 i3 i4 i5 b0 b1 b2 b3 b4 s0 s1 x0 x1 x2 x3 o0 o1 o2 o3 n0 n1 n2 n3 k (F50_ok e0) (SlcP.strUptoS e1) (F57_ok e2) e3 (F55_ok e4) (F56_ok e5) e6 e7 e8 e9 (F58_ok e10) e11
            ·
              obtain ⟨b5, e12, h⟩ := bE h
              rcases cond_elim h with ⟨e13, h⟩ | ⟨e13, h⟩
              ·
                have h := Option.some.inj h; subst h; exact P15_7 i0 i1 i2 i3 i4 i5 b0 b1 b2 b3 b4 b5 s0 s1 x0 x1 x2 x3 o0 o1 o2 o3 n0 n1 n2 n3 k (F50_ok e0) (SlcP.strUptoS e1) (F57_ok e2) e3 (F55_ok e4) (F56_ok e5) e6 e7 e8 e9 (F58_ok e10) e11 (F58_ok e12) e13
              ·
                obtain ⟨b6, e14, h⟩ := bE h
                rcases cond_elim h with ⟨e15, h⟩ | ⟨e15, h⟩
                ·
                  have h := Option.some.inj h; subst h; exact P15_8 i0 i1 i2 i3 i4 i5 b0 b1 b2 b3 b4 b5 b6 s0 s1 x0 x1 x2 x3 o0 o1 o2 o3 n0 n1 n2 n3 k (F50_ok e0) (SlcP.strUptoS e1) (F57_ok e2) e3 (F55_ok e4) (F56_ok e5) e6 e7 e8 e9 (F58_ok e10) e11 (F58_ok e12) e13 (F53_ok e14) e15
                ·
                  obtain ⟨s2, e16, h⟩ := bE h
                  obtain ⟨⟨o4, b7, n4, x4, i6⟩, e17, h⟩ := bE h
                  obtain ⟨⟨o5, b8, n5, x5, i7⟩, e18, h⟩ := bE h
                  obtain ⟨b9, e19, h⟩ := bE h
                  rcases cond_elim h with ⟨e20, h⟩ | ⟨e20, h⟩
                  ·
                    obtain ⟨b10, e21, h⟩ := bE h
                    rcases cond_elim h with ⟨e22, h⟩ | ⟨e22, h⟩
                    ·
                      rcases cond_elim h with ⟨e23, h⟩ | ⟨e23, h⟩
                      ·
                        rcases cond_elim h with ⟨e24, h⟩ | ⟨e24, h⟩
                        ·
                          have h := Option.some.inj h; subst h; exact P15_9 i0 i1 i2 i3 i4 i5 i6 i7 b0 b1 b2 b3 b4 b5 b6 b7 b8 b9 b10 s0 s1 s2 x0 x1 x2 x3 x4 x5 o0 o1 o2 o3 o4 o5 n0 n1 n2 n3 n4 n5 k (F50_ok e0) (SlcP.strUptoS e1) (F57_ok e2) e3 (F55_ok e4) (F56_ok e5) e6 e7 e8 e9 (F58_ok e10) e11 (F58_ok e12) e13 (F53_ok e14) e15 (F59_ok e16) (F51_ok e17) (F52_ok e18) (F60_ok e19) e20 (F60_ok e21) e22 e23 e24
                        ·
                          obtain ⟨b11, e25, h⟩ := bE h
                          have h := Option.some.inj h; subst h; exact P15_10 i0 i1 i2 i3 i4 i5 i6 i7 b0 b1 b2 b3 b4 b5 b6 b7 b8 b9 b10 b11 s0 s1 s2 x0 x1 x2 x3 x4 x5 o0 o1 o2 o3 o4 o5 n0 n1 n2 n3 n4 n5 k (F50_ok e0) (SlcP.strUptoS e1) (F57_ok e2) e3 (F55_ok e4) (F56_ok e5) e6 e7 e8 e9 (F58_ok e10) e11 (F58_ok e12) e13 (F53_ok e14) e15 (F59_ok e16) (F51_ok e17) (F52_ok e18) (F60_ok e19) e20 (F60_ok e21) e22 e23 e24 (F60_ok e25)
                      ·
                        obtain ⟨b11, e24, h⟩ := bE h
                        rcases cond_elim h with ⟨e25, h⟩ | ⟨e25, h⟩
                        ·
                          rcases cond_elim h with ⟨e26, h⟩ | ⟨e26, h⟩
                          ·
                            have h := Option.some.inj h; subst h; exact P15_11 i0 i1 i2 i3 i4 i5 i6 i7 b0 b1 b2 b3 b4 b5 b6 b7 b8 b9 b10 b11 s0 s1 s2 x0 x1 x2 x3 x4 x5 o0 o1 o2 o3 o4 o5 n0 n1 n2 n3 n4 n5 k (F50_ok e0) (SlcP.strUptoS e1) (F57_ok e2) e3 (F55_ok e4) (F56_ok e5) e6 e7 e8 e9 (F58_ok e10) e11 (F58_ok e12) e13 (F53_ok e14) e15 (F59_ok e16) (F51_ok e17) (F52_ok e18) (F60_ok e19) e20 (F60_ok e21) e22 e23 (F60_ok e24) e25 e26
                          ·
                            obtain ⟨b12, e27, h⟩ := bE h
                            have h := Option.some.inj h; subst h; exact P15_12 i0 i1 i2 i3 i4 i5 i6 i7 b0 b1 b2 b3 b4 b5 b6 b7 b8 b9 b10 b11 b12 s0 s1 s2 x0 x1 x2 x3 x4 x5 o0 o1 o2 o3 o4 o5 n0 n1 n2 n3 n4 n5 k (F50_ok e0) (SlcP.strUptoS e1) (F57_ok e2) e3 (F55_ok e4) (F56_ok e5) e6 e7 e8 e9 (F58_ok e10) e11 (F58_ok e12) e13 (F53_ok e14) e15 (F59_ok e16) (F51_ok e17) (F52_ok e18) (F60_ok e19) e20 (F60_ok e21) e22 e23 (F60_ok e24) e25 e26 (F60_ok e27)
                        ·
                          have h := Option.some.inj h; subst h; exact P15_13 i0 i1 i2 i3 i4 i5 i6 i7 b0 b1 b2 b3 b4 b5 b6 b7 b8 b9 b10 b11 s0 s1 s2 x0 x1 x2 x3 x4 x5 o0 o1 o2 o3 o4 o5 n0 n1 n2 n3 n4 n5 k (F50_ok e0) (SlcP.strUptoS e1) (F57_ok e2) e3 (F55_ok e4) (F56_ok e5) e6 e7 e8 e9 (F58_ok e10) e11 (F58_ok e12) e13 (F53_ok e14) e15 (F59_ok e16) (F51_ok e17) (F52_ok e18) (F60_ok e19) e20 (F60_ok e21) e22 e23 (F60_ok e24) e25
                    ·
                      have h := Option.some.inj h; subst h; exact P15_14 i0 i1 i2 i3 i4 i5 i6 i7 b0 b1 b2 b3 b4 b5 b6 b7 b8 b9 b10 s0 s1 s2 x0 x1 x2 x3 x4 x5 o0 o1 o2 o3 o4 o5 n0 n1 n2 n3 n4 n5 k (F50_ok e0) (SlcP.strUptoS e1) (F57_ok e2) e3 (F55_ok e4) (F56_ok e5) e6 e7 e8 e9 (F58_ok e10) e11 (F58_ok e12) e13 (F53_ok e14) e15 (F59_ok e16) (F51_ok e17) (F52_ok e18) (F60_ok e19) e20 (F60_ok e21) e22
                  ·
                    have h := Option.some.inj h; subst h; exact P15_15 i0 i1 i2 i3 i4 i5 i6 i7 b0 b1 b2 b3 b4 b5 b6 b7 b8 b9 s0 s1 s2 x0 x1 x2 x3 x4 x5 o0 o1 o2 o3 o4 o5 n0 n1 n2 n3 n4 n5 k (F50_ok e0) (SlcP.strUptoS e1) (F57_ok e2) e3 (F55_ok e4) (F56_ok e5) e6 e7 e8 e9 (F58_ok e10) e11 (F58_ok e12) e13 (F53_ok e14) e15 (F59_ok e16) (F51_ok e17) (F52_ok e18) (F60_ok e19) e20
end Go.Proofs
