/-
  What the law ModelWrites answers, checked against the program.
-/
import Derived.Test.YtfjloeemhiffgaaMoPc
set_option linter.unusedVariables false
set_option maxHeartbeats 0
set_option maxRecDepth 100000
namespace Go.Proofs
open Go Go.Sym

theorem P13_0 (i0 i1 i2 i3 i4 i5 : Int) (b0 b1 b2 b3 b4 b5 b6 : Bool) (s0 : List UInt8) (x0 x1 x2 x3 : List V) (o0 o1 o2 o3 : Option Bool) (n0 n1 n2 n3 k : Nat)
    (c0 : cP ((k + 21)) 50 [V.sl o0 b0 n0 x0] = some (V.sl o1 b1 n1 x1))
    (c1 : SlcP false 0 (V.str s0) none (some (vi (if 230 < (↑s0.length : Int) then 230 else (↑s0.length : Int)))) none (V.str (List.take (if 230 < (↑s0.length : Int) then 230 else (↑s0.length : Int)).toNat s0)))
    (c2 : cP ((k + 21)) 51 [V.sl o1 b1 n1 x1, vi i0, vu i1, V.str (List.take (if 230 < (↑s0.length : Int) then 230 else (↑s0.length : Int)).toNat s0)] = some (V.tup [V.sl o2 b2 n2 x2, vi i4]))
    (c3 : cP ((k + 21)) 52 [V.sl o1 b1 n1 x1, vi i0, V.agg [vu i2, vu i3]] = some (V.tup [V.sl o3 b3 n3 x3, vi i5]))
    (c4 : cP ((k + 21)) 53 [] = some (V.bool b4))
    (c5 : b4 = true)
    (c6 : cP ((k + 21)) 54 [V.sl o1 b1 n1 x1, V.sl o2 b2 n2 x2, vi i4, vi i0, V.agg [vi 1, vu i1, vu (wU (↑(List.take (if 230 < (↑s0.length : Int) then 230 else (↑s0.length : Int)).toNat s0).length : Int)), V.str (List.take (if 230 < (↑s0.length : Int) then 230 else (↑s0.length : Int)).toNat s0)]] = some (V.bool b5))
    (c7 : b5 = true)
    (c8 : cP ((k + 21)) 54 [V.sl o1 b1 n1 x1, V.sl o3 b3 n3 x3, vi i5, vi i0, V.agg [vi 4, vu i2, vu i3, V.str []]] = some (V.bool b6)) :
    cP ((k + 22)) 13 [V.sl o0 b0 n0 x0, vi i0, vu i1, V.str s0, V.agg [vu i2, vu i3]] = some (V.bool b6) :=
  byF (k := k) (d := 22) [Hn.call 17 (V.sl o1 b1 n1 x1), Hn.op 22 (V.str (List.take (if 230 < (↑s0.length : Int) then 230 else (↑s0.length : Int)).toNat s0)) [], Hn.call 28 (V.tup [V.sl o2 b2 n2 x2, vi i4]), Hn.call 35 (V.tup [V.sl o3 b3 n3 x3, vi i5]), Hn.call 43 (V.bool b4), Hn.br 44 true, Hn.call 52 (V.bool b5), Hn.br 54 true, Hn.call 61 (V.bool b6)] (aI c0 (aI c1 (aI c2 (aI c3 (aI c4 (aI c5 (aI c6 (aI c7 (aI c8 trivial))))))))) (by kernel_rfl)
theorem P13_1 (i0 i1 i2 i3 i4 i5 : Int) (b0 b1 b2 b3 b4 b5 : Bool) (s0 : List UInt8) (x0 x1 x2 x3 : List V) (o0 o1 o2 o3 : Option Bool) (n0 n1 n2 n3 k : Nat)
    (c0 : cP ((k + 21)) 50 [V.sl o0 b0 n0 x0] = some (V.sl o1 b1 n1 x1))
    (c1 : SlcP false 0 (V.str s0) none (some (vi (if 230 < (↑s0.length : Int) then 230 else (↑s0.length : Int)))) none (V.str (List.take (if 230 < (↑s0.length : Int) then 230 else (↑s0.length : Int)).toNat s0)))
    (c2 : cP ((k + 21)) 51 [V.sl o1 b1 n1 x1, vi i0, vu i1, V.str (List.take (if 230 < (↑s0.length : Int) then 230 else (↑s0.length : Int)).toNat s0)] = some (V.tup [V.sl o2 b2 n2 x2, vi i4]))
    (c3 : cP ((k + 21)) 52 [V.sl o1 b1 n1 x1, vi i0, V.agg [vu i2, vu i3]] = some (V.tup [V.sl o3 b3 n3 x3, vi i5]))
    (c4 : cP ((k + 21)) 53 [] = some (V.bool b4))
    (c5 : b4 = true)
    (c6 : cP ((k + 21)) 54 [V.sl o1 b1 n1 x1, V.sl o2 b2 n2 x2, vi i4, vi i0, V.agg [vi 1, vu i1, vu (wU (↑(List.take (if 230 < (↑s0.length : Int) then 230 else (↑s0.length : Int)).toNat s0).length : Int)), V.str (List.take (if 230 < (↑s0.length : Int) then 230 else (↑s0.length : Int)).toNat s0)]] = some (V.bool b5))
    (c7 : b5 = false) :
    cP ((k + 22)) 13 [V.sl o0 b0 n0 x0, vi i0, vu i1, V.str s0, V.agg [vu i2, vu i3]] = some (V.bool false) :=
  byF (k := k) (d := 22) [Hn.call 17 (V.sl o1 b1 n1 x1), Hn.op 22 (V.str (List.take (if 230 < (↑s0.length : Int) then 230 else (↑s0.length : Int)).toNat s0)) [], Hn.call 28 (V.tup [V.sl o2 b2 n2 x2, vi i4]), Hn.call 35 (V.tup [V.sl o3 b3 n3 x3, vi i5]), Hn.call 43 (V.bool b4), Hn.br 44 true, Hn.call 52 (V.bool b5), Hn.br 54 false] (aI c0 (aI c1 (aI c2 (aI c3 (aI c4 (aI c5 (aI c6 (aI c7 trivial)))))))) (by kernel_rfl)
theorem P13_2 (i0 i1 i2 i3 i4 i5 : Int) (b0 b1 b2 b3 b4 : Bool) (s0 : List UInt8) (x0 x1 x2 x3 : List V) (o0 o1 o2 o3 : Option Bool) (n0 n1 n2 n3 k : Nat)
    (c0 : cP ((k + 21)) 50 [V.sl o0 b0 n0 x0] = some (V.sl o1 b1 n1 x1))
    (c1 : SlcP false 0 (V.str s0) none (some (vi (if 230 < (↑s0.length : Int) then 230 else (↑s0.length : Int)))) none (V.str (List.take (if 230 < (↑s0.length : Int) then 230 else (↑s0.length : Int)).toNat s0)))
    (c2 : cP ((k + 21)) 51 [V.sl o1 b1 n1 x1, vi i0, vu i1, V.str (List.take (if 230 < (↑s0.length : Int) then 230 else (↑s0.length : Int)).toNat s0)] = some (V.tup [V.sl o2 b2 n2 x2, vi i4]))
    (c3 : cP ((k + 21)) 52 [V.sl o1 b1 n1 x1, vi i0, V.agg [vu i2, vu i3]] = some (V.tup [V.sl o3 b3 n3 x3, vi i5]))
    (c4 : cP ((k + 21)) 53 [] = some (V.bool b4))
    (c5 : b4 = false) :
    cP ((k + 22)) 13 [V.sl o0 b0 n0 x0, vi i0, vu i1, V.str s0, V.agg [vu i2, vu i3]] = some (V.bool false) :=
  byF (k := k) (d := 22) [Hn.call 17 (V.sl o1 b1 n1 x1), Hn.op 22 (V.str (List.take (if 230 < (↑s0.length : Int) then 230 else (↑s0.length : Int)).toNat s0)) [], Hn.call 28 (V.tup [V.sl o2 b2 n2 x2, vi i4]), Hn.call 35 (V.tup [V.sl o3 b3 n3 x3, vi i5]), Hn.call 43 (V.bool b4), Hn.br 44 false] (aI c0 (aI c1 (aI c2 (aI c3 (aI c4 (aI c5 trivial)))))) (by kernel_rfl)
def F13 (k : Nat) (o0 : Option Bool) (b0 : Bool) (n0 : Nat) (x0 : List V) (i0 i1 : Int) (s0 : List UInt8) (i2 i3 : Int) : Option (Bool) :=
  ((F50 (k + 18) (o0) (b0) (n0) (x0)).bind fun (o1, b1, n1, x1) => (guardP (((0 : Int) ≤ if (230 : Int) < (↑s0.length : Int) then (230 : Int) else (↑s0.length : Int)) ∧ (if (230 : Int) < (↑s0.length : Int) then (230 : Int) else (↑s0.length : Int)) ≤ (↑s0.length : Int)) ((F51 (k + 5) (o1) (b1) (n1) (x1) (i0) (i1) (List.take (if 230 < (↑s0.length : Int) then 230 else (↑s0.length : Int)).toNat s0)).bind fun (o2, b2, n2, x2, i4) => ((F52 (k + 5) (o1) (b1) (n1) (x1) (i0) (i2) (i3)).bind fun (o3, b3, n3, x3, i5) => ((F53 (k + 2)).bind fun b4 => (bif b4 then ((F54 (k + 3) (o1) (b1) (n1) (x1) (o2) (b2) (n2) (x2) (i4) (i0) (1) (i1) (IntKind.u64.wrap (↑(List.take (if 230 < (↑s0.length : Int) then 230 else (↑s0.length : Int)).toNat s0).length : Int)) (List.take (if 230 < (↑s0.length : Int) then 230 else (↑s0.length : Int)).toNat s0)).bind fun b5 => (bif b5 then ((F54 (k + 3) (o1) (b1) (n1) (x1) (o3) (b3) (n3) (x3) (i5) (i0) (4) (i2) (i3) ([])).bind fun b6 => (some (b6))) else (some (false)))) else (some (false))))))))
theorem F13_ok {o0 : Option Bool} {b0 : Bool} {n0 : Nat} {x0 : List V} {i0 i1 : Int} {s0 : List UInt8} {i2 i3 : Int} {k : Nat} {r : Bool} (h : F13 k o0 b0 n0 x0 i0 i1 s0 i2 i3 = some r) :
    cP ((k + 22)) 13 [V.sl o0 b0 n0 x0, vi i0, vu i1, V.str s0, V.agg [vu i2, vu i3]] = some (V.bool r) := by
  unfold F13 at h
  obtain ⟨⟨o1, b1, n1, x1⟩, e0, h⟩ := bE h
  obtain ⟨e1, h⟩ := guardP_some.1 h
  obtain ⟨⟨o2, b2, n2, x2, i4⟩, e2, h⟩ := bE h
  obtain ⟨⟨o3, b3, n3, x3, i5⟩, e3, h⟩ := bE h
  obtain ⟨b4, e4, h⟩ := bE h
  rcases cond_elim h with ⟨e5, h⟩ | ⟨e5, h⟩
  ·
    obtain ⟨b5, e6, h⟩ := bE h
    rcases cond_elim h with ⟨e7, h⟩ | ⟨e7, h⟩
    ·
      obtain ⟨b6, e8, h⟩ := bE h
      have h := Option.some.inj h; subst h; exact P13_0 i0 i1 i2 i3 i4 i5 b0 b1 b2 b3 b4 b5 b6 s0 x0 x1 x2 x3 o0 o1 o2 o3 n0 n1 n2 n3 k (F50_ok e0) (SlcP.strUptoS e1) (F51_ok e2) (F52_ok e3) (F53_ok e4) e5 (F54_ok e6) e7 (F54_ok e8)
    ·
      have h := Option.some.inj h; subst h; exact P13_1 i0 i1 i2 i3 i4 i5 b0 b1 b2 b3 b4 b5 s0 x0 x1 x2 x3 o0 o1 o2 o3 n0 n1 n2 n3 k (F50_ok e0) (SlcP.strUptoS e1) (F51_ok e2) (F52_ok e3) (F53_ok e4) e5 (F54_ok e6) e7
  ·
    have h := Option.some.inj h; subst h; exact P13_2 i0 i1 i2 i3 i4 i5 b0 b1 b2 b3 b4 s0 x0 x1 x2 x3 o0 o1 o2 o3 n0 n1 n2 n3 k (F50_ok e0) (SlcP.strUptoS e1) (F51_ok e2) (F52_ok e3) (F53_ok e4) e5
end Go.Proofs
