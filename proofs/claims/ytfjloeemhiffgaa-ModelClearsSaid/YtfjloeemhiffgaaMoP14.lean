/-
  What the law ModelClears answers, checked against the program.
-/
import Derived.Test.YtfjloeemhiffgaaMoPc
set_option linter.unusedVariables false
set_option maxHeartbeats 0
set_option maxRecDepth 100000
namespace Go.Proofs
open Go Go.Sym

theorem P14_0 (i0 i1 i2 i3 : Int) (b0 b1 b2 b3 b4 b5 b6 : Bool) (x0 x1 x2 x3 : List V) (o0 o1 o2 o3 : Option Bool) (n0 n1 n2 n3 k : Nat)
    (c0 : cP ((k + 21)) 50 [V.sl o0 b0 n0 x0] = some (V.sl o1 b1 n1 x1))
    (c1 : cP ((k + 21)) 55 [V.sl o1 b1 n1 x1, V.agg [vu i0, vu i1]] = some (V.tup [V.sl o2 b2 n2 x2, vi i2]))
    (c2 : cP ((k + 21)) 56 [V.sl o1 b1 n1 x1, V.agg [vu i0, vu i1]] = some (V.tup [V.sl o3 b3 n3 x3, vi i3]))
    (c3 : cP ((k + 21)) 53 [] = some (V.bool b4))
    (c4 : b4 = true)
    (c5 : cP ((k + 21)) 54 [V.sl o1 b1 n1 x1, V.sl o2 b2 n2 x2, vi i2, vi 64, V.agg [vi 2, vu i0, vu i1, V.str []]] = some (V.bool b5))
    (c6 : b5 = true)
    (c7 : cP ((k + 21)) 54 [V.sl o1 b1 n1 x1, V.sl o3 b3 n3 x3, vi i3, vi 64, V.agg [vi 3, vu i0, vu i1, V.str []]] = some (V.bool b6)) :
    cP ((k + 22)) 14 [V.sl o0 b0 n0 x0, V.agg [vu i0, vu i1]] = some (V.bool b6) :=
  byF (k := k) (d := 22) [Hn.call 10 (V.sl o1 b1 n1 x1), Hn.call 14 (V.tup [V.sl o2 b2 n2 x2, vi i2]), Hn.call 20 (V.tup [V.sl o3 b3 n3 x3, vi i3]), Hn.call 23 (V.bool b4), Hn.br 24 true, Hn.call 30 (V.bool b5), Hn.br 32 true, Hn.call 38 (V.bool b6)] (aI c0 (aI c1 (aI c2 (aI c3 (aI c4 (aI c5 (aI c6 (aI c7 trivial)))))))) (by kernel_rfl)
theorem P14_1 (i0 i1 i2 i3 : Int) (b0 b1 b2 b3 b4 b5 : Bool) (x0 x1 x2 x3 : List V) (o0 o1 o2 o3 : Option Bool) (n0 n1 n2 n3 k : Nat)
    (c0 : cP ((k + 21)) 50 [V.sl o0 b0 n0 x0] = some (V.sl o1 b1 n1 x1))
    (c1 : cP ((k + 21)) 55 [V.sl o1 b1 n1 x1, V.agg [vu i0, vu i1]] = some (V.tup [V.sl o2 b2 n2 x2, vi i2]))
    (c2 : cP ((k + 21)) 56 [V.sl o1 b1 n1 x1, V.agg [vu i0, vu i1]] = some (V.tup [V.sl o3 b3 n3 x3, vi i3]))
    (c3 : cP ((k + 21)) 53 [] = some (V.bool b4))
    (c4 : b4 = true)
    (c5 : cP ((k + 21)) 54 [V.sl o1 b1 n1 x1, V.sl o2 b2 n2 x2, vi i2, vi 64, V.agg [vi 2, vu i0, vu i1, V.str []]] = some (V.bool b5))
    (c6 : b5 = false) :
    cP ((k + 22)) 14 [V.sl o0 b0 n0 x0, V.agg [vu i0, vu i1]] = some (V.bool false) :=
  byF (k := k) (d := 22) [Hn.call 10 (V.sl o1 b1 n1 x1), Hn.call 14 (V.tup [V.sl o2 b2 n2 x2, vi i2]), Hn.call 20 (V.tup [V.sl o3 b3 n3 x3, vi i3]), Hn.call 23 (V.bool b4), Hn.br 24 true, Hn.call 30 (V.bool b5), Hn.br 32 false] (aI c0 (aI c1 (aI c2 (aI c3 (aI c4 (aI c5 (aI c6 trivial))))))) (by kernel_rfl)
theorem P14_2 (i0 i1 i2 i3 : Int) (b0 b1 b2 b3 b4 : Bool) (x0 x1 x2 x3 : List V) (o0 o1 o2 o3 : Option Bool) (n0 n1 n2 n3 k : Nat)
    (c0 : cP ((k + 21)) 50 [V.sl o0 b0 n0 x0] = some (V.sl o1 b1 n1 x1))
    (c1 : cP ((k + 21)) 55 [V.sl o1 b1 n1 x1, V.agg [vu i0, vu i1]] = some (V.tup [V.sl o2 b2 n2 x2, vi i2]))
    (c2 : cP ((k + 21)) 56 [V.sl o1 b1 n1 x1, V.agg [vu i0, vu i1]] = some (V.tup [V.sl o3 b3 n3 x3, vi i3]))
    (c3 : cP ((k + 21)) 53 [] = some (V.bool b4))
    (c4 : b4 = false) :
    cP ((k + 22)) 14 [V.sl o0 b0 n0 x0, V.agg [vu i0, vu i1]] = some (V.bool false) :=
  byF (k := k) (d := 22) [Hn.call 10 (V.sl o1 b1 n1 x1), Hn.call 14 (V.tup [V.sl o2 b2 n2 x2, vi i2]), Hn.call 20 (V.tup [V.sl o3 b3 n3 x3, vi i3]), Hn.call 23 (V.bool b4), Hn.br 24 false] (aI c0 (aI c1 (aI c2 (aI c3 (aI c4 trivial))))) (by kernel_rfl)
def F14 (k : Nat) (o0 : Option Bool) (b0 : Bool) (n0 : Nat) (x0 : List V) (i0 i1 : Int) : Option (Bool) :=
  ((F50 (k + 18) (o0) (b0) (n0) (x0)).bind fun (o1, b1, n1, x1) => ((F55 (k + 5) (o1) (b1) (n1) (x1) (i0) (i1)).bind fun (o2, b2, n2, x2, i2) => ((F56 (k + 5) (o1) (b1) (n1) (x1) (i0) (i1)).bind fun (o3, b3, n3, x3, i3) => ((F53 (k + 2)).bind fun b4 => (bif b4 then ((F54 (k + 3) (o1) (b1) (n1) (x1) (o2) (b2) (n2) (x2) (i2) (64) (2) (i0) (i1) ([])).bind fun b5 => (bif b5 then ((F54 (k + 3) (o1) (b1) (n1) (x1) (o3) (b3) (n3) (x3) (i3) (64) (3) (i0) (i1) ([])).bind fun b6 => (some (b6))) else (some (false)))) else (some (false)))))))
theorem F14_ok {o0 : Option Bool} {b0 : Bool} {n0 : Nat} {x0 : List V} {i0 i1 : Int} {k : Nat} {r : Bool} (h : F14 k o0 b0 n0 x0 i0 i1 = some r) :
    cP ((k + 22)) 14 [V.sl o0 b0 n0 x0, V.agg [vu i0, vu i1]] = some (V.bool r) := by
  unfold F14 at h
  obtain ⟨⟨o1, b1, n1, x1⟩, e0, h⟩ := bE h
  obtain ⟨⟨o2, b2, n2, x2, i2⟩, e1, h⟩ := bE h
  obtain ⟨⟨o3, b3, n3, x3, i3⟩, e2, h⟩ := bE h
  obtain ⟨b4, e3, h⟩ := bE h
  rcases cond_elim h with ⟨e4, h⟩ | ⟨e4, h⟩
  ·
    obtain ⟨b5, e5, h⟩ := bE h
    rcases cond_elim h with ⟨e6, h⟩ | ⟨e6, h⟩
    ·
      obtain ⟨b6, e7, h⟩ := bE h
      have h := Option.some.inj h; subst h; exact P14_0 i0 i1 i2 i3 b0 b1 b2 b3 b4 b5 b6 x0 x1 x2 x3 o0 o1 o2 o3 n0 n1 n2 n3 k (F50_ok e0) (F55_ok e1) (F56_ok e2) (F53_ok e3) e4 (F54_ok e5) e6 (F54_ok e7)
    ·
      have h := Option.some.inj h; subst h; exact P14_1 i0 i1 i2 i3 b0 b1 b2 b3 b4 b5 x0 x1 x2 x3 o0 o1 o2 o3 n0 n1 n2 n3 k (F50_ok e0) (F55_ok e1) (F56_ok e2) (F53_ok e3) e4 (F54_ok e5) e6
  ·
    have h := Option.some.inj h; subst h; exact P14_2 i0 i1 i2 i3 b0 b1 b2 b3 b4 x0 x1 x2 x3 o0 o1 o2 o3 n0 n1 n2 n3 k (F50_ok e0) (F55_ok e1) (F56_ok e2) (F53_ok e3) e4
end Go.Proofs
