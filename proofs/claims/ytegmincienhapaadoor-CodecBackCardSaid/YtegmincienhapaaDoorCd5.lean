/-
  What Split and its reference answer, each checked against the program.
-/
import Derived.Test.YtegmincienhapaaDoorCd4
set_option linter.unusedVariables false
set_option maxHeartbeats 0
set_option maxRecDepth 100000
namespace Go.Proofs
open Go Go.Sym

theorem L21_0_b0 (i0 i1 : Int) (s0 : List UInt8) (u0 : UInt8) (k : Nat)
    (c0 : decide (0 ≤ i1) = true)
    (c1 : StrP s0 i1 u0) :
    evalCode Tryd.prog Tryd.cfg (evalFn Tryd.prog Tryd.cfg (k + 2)) 0 (Tryd.cfg.fc 21) (k + 2) (loopBody Tryd.f21 0) { tm := [(0, V.str s0), (2, vu 0), (3, vu i0), (4, vi i1)], hp := [], nx := 0 } = some (Exit.normal, { tm := [(0, V.str s0), (2, vu 0), (3, vu (IntKind.u64.wrap (IntKind.u64.wrap (i0 * 256) + IntKind.u64.wrap (↑u0.toNat : Int)))), (4, vi (IntKind.i64.wrap (i1 - 1))), (9, V.bool true)], hp := [], nx := 52 }) :=
  byL (k := k) (d := 2) [Hn.br 9 true, Hn.op 16 (vb (↑u0.toNat : Int)) []] (aI c0 (aI c1 trivial)) (by kernel_rfl)
theorem L21_0_b0h (i0 i1 : Int) (s0 : List UInt8) (u0 : UInt8) : head 0 [0, 2, 3, 4] (Tryd.cfg.fc 21).acc { tm := [(0, V.str s0), (2, vu 0), (3, vu (IntKind.u64.wrap (IntKind.u64.wrap (i0 * 256) + IntKind.u64.wrap (↑u0.toNat : Int)))), (4, vi (IntKind.i64.wrap (i1 - 1))), (9, V.bool true)], hp := [], nx := 52 } = { tm := [(0, V.str s0), (2, vu 0), (3, vu (IntKind.u64.wrap (IntKind.u64.wrap (i0 * 256) + IntKind.u64.wrap (↑u0.toNat : Int)))), (4, vi (IntKind.i64.wrap (i1 - 1)))], hp := [], nx := 0 } := by kernel_rfl
theorem L21_0_b1 (i0 i1 : Int) (s0 : List UInt8) (k : Nat)
    (c0 : decide (0 ≤ i1) = false) :
    evalCode Tryd.prog Tryd.cfg (evalFn Tryd.prog Tryd.cfg (k + 2)) 0 (Tryd.cfg.fc 21) (k + 2) (loopBody Tryd.f21 0) { tm := [(0, V.str s0), (2, vu 0), (3, vu i0), (4, vi i1)], hp := [], nx := 0 } = some (Exit.exit 0, { tm := [(0, V.str s0), (2, vu 0), (3, vu i0), (4, vi i1), (9, V.bool false)], hp := [], nx := 8 }) :=
  byL (k := k) (d := 2) [Hn.br 9 false] (aI c0 trivial) (by kernel_rfl)
inductive L21_0_R where
  | e0 (i0 : Int) (i1 : Int)
noncomputable def L21_0_end (s0 : List UInt8) : L21_0_R → Exit × St
  | .e0 i0 i1 => (Exit.exit 0, { tm := [(0, V.str s0), (2, V.int .u64 0), (3, V.int .u64 i0), (4, V.int .i64 i1), (9, V.bool false)], hp := [], nx := 8 })
def L21_0 (k : Nat) (s0 : List UInt8) : Nat → Int → Int → Option L21_0_R
  | 0, _, _ => none
  | f + 1, i0, i1 => (bif decide (0 ≤ i1) then ((satB (s0) (i1)).bind fun u0 => (L21_0 k s0 f (IntKind.u64.wrap (IntKind.u64.wrap (i0 * 256) + IntKind.u64.wrap (↑u0.toNat : Int))) (IntKind.i64.wrap (i1 - 1)))) else (some (L21_0_R.e0 i0 i1)))
theorem L21_0_ok {s0 : List UInt8} {k : Nat} : ∀ {f : Nat} {i0 : Int} {i1 : Int} {r : L21_0_R}, L21_0 k s0 f i0 i1 = some r →
    LoopsN Tryd.prog Tryd.cfg (k + 2) 0 Tryd.f21 (Tryd.cfg.fc 21) 0 [0, 2, 3, 4] f { tm := [(0, V.str s0), (2, vu 0), (3, vu i0), (4, vi i1)], hp := [], nx := 0 } (L21_0_end s0 r) := by
  intro f
  induction f with
  | zero => intro i0 i1 r h; cases h
  | succ f ih =>
    intro i0 i1 r h
    rw [L21_0] at h
    rcases cond_elim h with ⟨e0, h⟩ | ⟨e0, h⟩
    ·
      obtain ⟨u0, e1, h⟩ := bE h
      exact LoopsN.next (L21_0_b0 i0 i1 s0 u0 k e0 (StrP.of_at e1)) (L21_0_b0h i0 i1 s0 u0) (ih h)
    ·
      cases h; exact LoopsN.done (L21_0_b1 i0 i1 s0 k e0) (fun h => by cases h)
theorem P21_0 (i0 i1 : Int) (s0 : List UInt8) (k : Nat)
    (c0 : LoopsN Tryd.prog Tryd.cfg (k + 2) 0 Tryd.f21 (Tryd.cfg.fc 21) 0 [0, 2, 3, 4] (k + 2) { tm := [(0, V.str s0), (2, vu 0), (3, vu 0), (4, vi (IntKind.i64.wrap ((↑s0.length : Int) - 1)))], hp := [], nx := 0 } (Exit.exit 0, { tm := [(0, V.str s0), (2, vu 0), (3, vu i0), (4, vi i1), (9, V.bool false)], hp := [], nx := 8 })) :
    cP ((k + 3)) 21 [V.str s0] = some (vu i0) :=
  byF (k := k) (d := 3) [Hn.loop (Exit.exit 0, { tm := [(0, V.str s0), (2, vu 0), (3, vu i0), (4, vi i1), (9, V.bool false)], hp := [], nx := 8 })] (aI c0 trivial) (by kernel_rfl)
def F21 (k : Nat) (s0 : List UInt8) : Option (Int) :=
  ((L21_0 k s0 (k + 2) (0) (IntKind.i64.wrap ((↑s0.length : Int) - 1))).bind fun
    | L21_0_R.e0 i0 i1 => (some (i0)))
theorem F21_ok {s0 : List UInt8} {k : Nat} {r : Int} (h : F21 k s0 = some r) :
    cP ((k + 3)) 21 [V.str s0] = some (vu r) := by
  unfold F21 at h
  obtain ⟨ee, e0, h⟩ := bE h
  cases ee with
  | e0 i0 i1 =>
    have h := Option.some.inj h; subst h; exact P21_0 i0 i1 s0 k (L21_0_ok e0)
theorem P20_0 (i0 : Int) (s0 : List UInt8) (k : Nat)
    (c0 : decide (i0 = 110) = true)
    (c1 : decide ((↑s0.length : Int) < 8) = true) :
    cP ((k + 6)) 20 [V.str s0, vb i0] = some (vi (-1)) :=
  byF (k := k) (d := 6) [Hn.br 7 true, Hn.br 10 true] (aI c0 (aI c1 trivial)) (by kernel_rfl)
theorem P20_1 (i0 : Int) (s0 : List UInt8) (k : Nat)
    (c0 : decide (i0 = 110) = true)
    (c1 : decide ((↑s0.length : Int) < 8) = false) :
    cP ((k + 6)) 20 [V.str s0, vb i0] = some (vi 8) :=
  byF (k := k) (d := 6) [Hn.br 7 true, Hn.br 10 false] (aI c0 (aI c1 trivial)) (by kernel_rfl)
theorem P20_2 (i0 : Int) (s0 : List UInt8) (k : Nat)
    (c0 : decide (i0 = 110) = false)
    (c1 : decide ((↑s0.length : Int) < 2) = true) :
    cP ((k + 6)) 20 [V.str s0, vb i0] = some (vi (-1)) :=
  byF (k := k) (d := 6) [Hn.br 7 false, Hn.br 13 true] (aI c0 (aI c1 trivial)) (by kernel_rfl)
theorem P20_3 (i0 i1 : Int) (s0 : List UInt8) (k : Nat)
    (c0 : decide (i0 = 110) = false)
    (c1 : decide ((↑s0.length : Int) < 2) = false)
    (c2 : SlcP false 0 (V.str s0) none (some (vi 2)) none (V.str (List.take (Int.toNat 2) s0)))
    (c3 : cP ((k + 5)) 21 [V.str (List.take (Int.toNat 2) s0)] = some (vu i1))
    (c4 : decide (4096 < IntKind.i64.wrap i1) = true) :
    cP ((k + 6)) 20 [V.str s0, vb i0] = some (vi (-1)) :=
  byF (k := k) (d := 6) [Hn.br 7 false, Hn.br 13 false, Hn.op 15 (V.str (List.take (Int.toNat 2) s0)) [], Hn.call 16 (vu i1), Hn.br 20 true] (aI c0 (aI c1 (aI c2 (aI c3 (aI c4 trivial))))) (by kernel_rfl)
theorem P20_4 (i0 i1 : Int) (s0 : List UInt8) (k : Nat)
    (c0 : decide (i0 = 110) = false)
    (c1 : decide ((↑s0.length : Int) < 2) = false)
    (c2 : SlcP false 0 (V.str s0) none (some (vi 2)) none (V.str (List.take (Int.toNat 2) s0)))
    (c3 : cP ((k + 5)) 21 [V.str (List.take (Int.toNat 2) s0)] = some (vu i1))
    (c4 : decide (4096 < IntKind.i64.wrap i1) = false)
    (c5 : decide ((↑s0.length : Int) < IntKind.i64.wrap (2 + IntKind.i64.wrap i1)) = true) :
    cP ((k + 6)) 20 [V.str s0, vb i0] = some (vi (-1)) :=
  byF (k := k) (d := 6) [Hn.br 7 false, Hn.br 13 false, Hn.op 15 (V.str (List.take (Int.toNat 2) s0)) [], Hn.call 16 (vu i1), Hn.br 20 false, Hn.br 26 true] (aI c0 (aI c1 (aI c2 (aI c3 (aI c4 (aI c5 trivial)))))) (by kernel_rfl)
theorem P20_5 (i0 i1 : Int) (s0 : List UInt8) (k : Nat)
    (c0 : decide (i0 = 110) = false)
    (c1 : decide ((↑s0.length : Int) < 2) = false)
    (c2 : SlcP false 0 (V.str s0) none (some (vi 2)) none (V.str (List.take (Int.toNat 2) s0)))
    (c3 : cP ((k + 5)) 21 [V.str (List.take (Int.toNat 2) s0)] = some (vu i1))
    (c4 : decide (4096 < IntKind.i64.wrap i1) = false)
    (c5 : decide ((↑s0.length : Int) < IntKind.i64.wrap (2 + IntKind.i64.wrap i1)) = false) :
    cP ((k + 6)) 20 [V.str s0, vb i0] = some (vi (IntKind.i64.wrap (2 + IntKind.i64.wrap i1))) :=
  byF (k := k) (d := 6) [Hn.br 7 false, Hn.br 13 false, Hn.op 15 (V.str (List.take (Int.toNat 2) s0)) [], Hn.call 16 (vu i1), Hn.br 20 false, Hn.br 26 false] (aI c0 (aI c1 (aI c2 (aI c3 (aI c4 (aI c5 trivial)))))) (by kernel_rfl)
def F20 (k : Nat) (s0 : List UInt8) (i0 : Int) : Option (Int) :=
  (bif decide (i0 = 110) then (bif decide ((↑s0.length : Int) < 8) then (some (-1)) else (some (8))) else (bif decide ((↑s0.length : Int) < 2) then (some (-1)) else (guardP ((0 : Int) ≤ (2 : Int) ∧ (2 : Int) ≤ (↑s0.length : Int)) ((F21 (k + 2) (List.take (Int.toNat 2) s0)).bind fun i1 => (bif decide (4096 < IntKind.i64.wrap i1) then (some (-1)) else (bif decide ((↑s0.length : Int) < IntKind.i64.wrap (2 + IntKind.i64.wrap i1)) then (some (-1)) else (some (IntKind.i64.wrap (2 + IntKind.i64.wrap i1)))))))))
theorem F20_ok {s0 : List UInt8} {i0 : Int} {k : Nat} {r : Int} (h : F20 k s0 i0 = some r) :
    cP ((k + 6)) 20 [V.str s0, vb i0] = some (vi r) := by
  unfold F20 at h
  rcases cond_elim h with ⟨e0, h⟩ | ⟨e0, h⟩
  ·
    rcases cond_elim h with ⟨e1, h⟩ | ⟨e1, h⟩
    ·
      have h := Option.some.inj h; subst h; exact P20_0 i0 s0 k e0 e1
    ·
      have h := Option.some.inj h; subst h; exact P20_1 i0 s0 k e0 e1
  ·
    rcases cond_elim h with ⟨e1, h⟩ | ⟨e1, h⟩
    ·
      have h := Option.some.inj h; subst h; exact P20_2 i0 s0 k e0 e1
    ·
      obtain ⟨e2, h⟩ := guardP_some.1 h
      obtain ⟨i1, e3, h⟩ := bE h
      rcases cond_elim h with ⟨e4, h⟩ | ⟨e4, h⟩
      ·
        have h := Option.some.inj h; subst h; exact P20_3 i0 i1 s0 k e0 e1 (SlcP.strUptoS e2) (F21_ok e3) e4
      ·
        rcases cond_elim h with ⟨e5, h⟩ | ⟨e5, h⟩
        ·
          have h := Option.some.inj h; subst h; exact P20_4 i0 i1 s0 k e0 e1 (SlcP.strUptoS e2) (F21_ok e3) e4 e5
        ·
          have h := Option.some.inj h; subst h; exact P20_5 i0 i1 s0 k e0 e1 (SlcP.strUptoS e2) (F21_ok e3) e4 e5
theorem L7_0_b0 (i0 : Int) (s0 s1 : List UInt8) (u0 : UInt8) (k : Nat)
    (c0 : decide (i0 < (↑s1.length : Int)) = true)
    (c1 : StrP s1 i0 u0)
    (c2 : (!decide ((↑u0.toNat : Int) = 110)) = true)
    (c3 : StrP s1 i0 u0)
    (c4 : (!decide ((↑u0.toNat : Int) = 116)) = true) :
    evalCode Tryd.prog Tryd.cfg (evalFn Tryd.prog Tryd.cfg (k + 8)) 0 (Tryd.cfg.fc 7) (k + 8) (loopBody Tryd.f7 0) { tm := [(0, V.str s0), (1, V.str s1), (4, V.ptr 0 0), (5, vi i0)], hp := [(0, Ob.var [V.sl (some true) true 0 [], vi 0, vi 0])], nx := 1 } = some (Exit.ret, { tm := [(0, V.str s0), (1, V.str s1), (4, V.ptr 0 0), (5, vi i0), (13, V.bool true), (25, V.bool true)], hp := [(0, Ob.var [V.sl (some true) true 0 [], vi 0, vi 1])], nx := 65 }) :=
  byL (k := k) (d := 8) [Hn.br 13 true, Hn.op 18 (vb (↑u0.toNat : Int)) [], Hn.br 20 true, Hn.op 23 (vb (↑u0.toNat : Int)) [], Hn.br 25 true] (aI c0 (aI c1 (aI c2 (aI c3 (aI c4 trivial))))) (by kernel_rfl)
theorem L7_0_b1 (i0 : Int) (s0 s1 : List UInt8) (u0 : UInt8) (k : Nat)
    (c0 : decide (i0 < (↑s1.length : Int)) = true)
    (c1 : StrP s1 i0 u0)
    (c2 : (!decide ((↑u0.toNat : Int) = 110)) = true)
    (c3 : StrP s1 i0 u0)
    (c4 : (!decide ((↑u0.toNat : Int) = 116)) = false) :
    evalCode Tryd.prog Tryd.cfg (evalFn Tryd.prog Tryd.cfg (k + 8)) 0 (Tryd.cfg.fc 7) (k + 8) (loopBody Tryd.f7 0) { tm := [(0, V.str s0), (1, V.str s1), (4, V.ptr 0 0), (5, vi i0)], hp := [(0, Ob.var [V.sl (some true) true 0 [], vi 0, vi 0])], nx := 1 } = some (Exit.normal, { tm := [(0, V.str s0), (1, V.str s1), (4, V.ptr 0 0), (5, vi (IntKind.i64.wrap (i0 + 1))), (13, V.bool true), (25, V.bool false)], hp := [(0, Ob.var [V.sl (some true) true 0 [], vi 0, vi 0])], nx := 69 }) :=
  byL (k := k) (d := 8) [Hn.br 13 true, Hn.op 18 (vb (↑u0.toNat : Int)) [], Hn.br 20 true, Hn.op 23 (vb (↑u0.toNat : Int)) [], Hn.br 25 false] (aI c0 (aI c1 (aI c2 (aI c3 (aI c4 trivial))))) (by kernel_rfl)
theorem L7_0_b1h (i0 : Int) (s0 s1 : List UInt8) : head 0 [0, 1, 4, 5] (Tryd.cfg.fc 7).acc { tm := [(0, V.str s0), (1, V.str s1), (4, V.ptr 0 0), (5, vi (IntKind.i64.wrap (i0 + 1))), (13, V.bool true), (25, V.bool false)], hp := [(0, Ob.var [V.sl (some true) true 0 [], vi 0, vi 0])], nx := 69 } = { tm := [(0, V.str s0), (1, V.str s1), (4, V.ptr 0 0), (5, vi (IntKind.i64.wrap (i0 + 1)))], hp := [(0, Ob.var [V.sl (some true) true 0 [], vi 0, vi 0])], nx := 1 } := by kernel_rfl
theorem L7_0_b2 (i0 : Int) (s0 s1 : List UInt8) (u0 : UInt8) (k : Nat)
    (c0 : decide (i0 < (↑s1.length : Int)) = true)
    (c1 : StrP s1 i0 u0)
    (c2 : (!decide ((↑u0.toNat : Int) = 110)) = false) :
    evalCode Tryd.prog Tryd.cfg (evalFn Tryd.prog Tryd.cfg (k + 8)) 0 (Tryd.cfg.fc 7) (k + 8) (loopBody Tryd.f7 0) { tm := [(0, V.str s0), (1, V.str s1), (4, V.ptr 0 0), (5, vi i0)], hp := [(0, Ob.var [V.sl (some true) true 0 [], vi 0, vi 0])], nx := 1 } = some (Exit.normal, { tm := [(0, V.str s0), (1, V.str s1), (4, V.ptr 0 0), (5, vi (IntKind.i64.wrap (i0 + 1))), (13, V.bool true), (25, V.bool false)], hp := [(0, Ob.var [V.sl (some true) true 0 [], vi 0, vi 0])], nx := 69 }) :=
  byL (k := k) (d := 8) [Hn.br 13 true, Hn.op 18 (vb (↑u0.toNat : Int)) [], Hn.br 20 false] (aI c0 (aI c1 (aI c2 trivial))) (by kernel_rfl)
theorem L7_0_b2h (i0 : Int) (s0 s1 : List UInt8) : head 0 [0, 1, 4, 5] (Tryd.cfg.fc 7).acc { tm := [(0, V.str s0), (1, V.str s1), (4, V.ptr 0 0), (5, vi (IntKind.i64.wrap (i0 + 1))), (13, V.bool true), (25, V.bool false)], hp := [(0, Ob.var [V.sl (some true) true 0 [], vi 0, vi 0])], nx := 69 } = { tm := [(0, V.str s0), (1, V.str s1), (4, V.ptr 0 0), (5, vi (IntKind.i64.wrap (i0 + 1)))], hp := [(0, Ob.var [V.sl (some true) true 0 [], vi 0, vi 0])], nx := 1 } := by kernel_rfl
theorem L7_0_b3 (i0 : Int) (s0 s1 : List UInt8) (k : Nat)
    (c0 : decide (i0 < (↑s1.length : Int)) = false) :
    evalCode Tryd.prog Tryd.cfg (evalFn Tryd.prog Tryd.cfg (k + 8)) 0 (Tryd.cfg.fc 7) (k + 8) (loopBody Tryd.f7 0) { tm := [(0, V.str s0), (1, V.str s1), (4, V.ptr 0 0), (5, vi i0)], hp := [(0, Ob.var [V.sl (some true) true 0 [], vi 0, vi 0])], nx := 1 } = some (Exit.exit 0, { tm := [(0, V.str s0), (1, V.str s1), (4, V.ptr 0 0), (5, vi i0), (13, V.bool false)], hp := [(0, Ob.var [V.sl (some true) true 0 [], vi 0, vi 0])], nx := 17 }) :=
  byL (k := k) (d := 8) [Hn.br 13 false] (aI c0 trivial) (by kernel_rfl)
inductive L7_0_R where
  | e0 (i0 : Int)
  | e1 (i0 : Int)
noncomputable def L7_0_end (s0 : List UInt8) (s1 : List UInt8) : L7_0_R → Exit × St
  | .e0 i0 => (Exit.ret, { tm := [(0, V.str s0), (1, V.str s1), (4, V.ptr 0 0), (5, V.int .i64 i0), (13, V.bool true), (25, V.bool true)], hp := [(0, Ob.var [V.sl (some true) true 0 [], V.int .i64 0, V.int .i64 1])], nx := 65 })
  | .e1 i0 => (Exit.exit 0, { tm := [(0, V.str s0), (1, V.str s1), (4, V.ptr 0 0), (5, V.int .i64 i0), (13, V.bool false)], hp := [(0, Ob.var [V.sl (some true) true 0 [], V.int .i64 0, V.int .i64 0])], nx := 17 })
def L7_0 (k : Nat) (s0 s1 : List UInt8) : Nat → Int → Option L7_0_R
  | 0, _ => none
  | f + 1, i0 => (bif decide (i0 < (↑s1.length : Int)) then ((satB (s1) (i0)).bind fun u0 => (bif !decide ((↑u0.toNat : Int) = 110) then (bif !decide ((↑u0.toNat : Int) = 116) then (some (L7_0_R.e0 i0)) else (L7_0 k s0 s1 f (IntKind.i64.wrap (i0 + 1)))) else (L7_0 k s0 s1 f (IntKind.i64.wrap (i0 + 1))))) else (some (L7_0_R.e1 i0)))
theorem L7_0_ok {s0 s1 : List UInt8} {k : Nat} : ∀ {f : Nat} {i0 : Int} {r : L7_0_R}, L7_0 k s0 s1 f i0 = some r →
    LoopsN Tryd.prog Tryd.cfg (k + 8) 0 Tryd.f7 (Tryd.cfg.fc 7) 0 [0, 1, 4, 5] f { tm := [(0, V.str s0), (1, V.str s1), (4, V.ptr 0 0), (5, vi i0)], hp := [(0, Ob.var [V.sl (some true) true 0 [], vi 0, vi 0])], nx := 1 } (L7_0_end s0 s1 r) := by
  intro f
  induction f with
  | zero => intro i0 r h; cases h
  | succ f ih =>
    intro i0 r h
    rw [L7_0] at h
    rcases cond_elim h with ⟨e0, h⟩ | ⟨e0, h⟩
    ·
      obtain ⟨u0, e1, h⟩ := bE h
      rcases cond_elim h with ⟨e2, h⟩ | ⟨e2, h⟩
      ·
        rcases cond_elim h with ⟨e3, h⟩ | ⟨e3, h⟩
        ·
          cases h; exact LoopsN.done (L7_0_b0 i0 s0 s1 u0 k e0 (StrP.of_at e1) e2 (StrP.of_at e1) e3) (fun h => by cases h)
        ·
          exact LoopsN.next (L7_0_b1 i0 s0 s1 u0 k e0 (StrP.of_at e1) e2 (StrP.of_at e1) e3) (L7_0_b1h i0 s0 s1) (ih h)
      ·
        exact LoopsN.next (L7_0_b2 i0 s0 s1 u0 k e0 (StrP.of_at e1) e2) (L7_0_b2h i0 s0 s1) (ih h)
    ·
      cases h; exact LoopsN.done (L7_0_b3 i0 s0 s1 k e0) (fun h => by cases h)
theorem L7_1_b0 (i0 i1 i2 i3 : Int) (s0 s1 : List UInt8) (x0 : List V) (u0 : UInt8) (k : Nat)
    (c0 : decide (i2 < (↑s1.length : Int)) = true)
    (c1 : SlcP false 0 (V.str s0) (some (vi i1)) none none (V.str (List.drop i1.toNat s0)))
    (c2 : StrP s1 i2 u0)
    (c3 : cP ((k + 8)) 20 [V.str (List.drop i1.toNat s0), vb (↑u0.toNat : Int)] = some (vi i3))
    (c4 : decide (i3 < 0) = true) :
    evalCode Tryd.prog Tryd.cfg (evalFn Tryd.prog Tryd.cfg (k + 8)) 0 (Tryd.cfg.fc 7) (k + 8) (loopBody Tryd.f7 1) { tm := [(0, V.str s0), (1, V.str s1), (4, V.ptr 0 0), (5, vi i0), (6, V.ref 1), (7, vi i1), (8, vi i2), (13, V.bool false)], hp := [(0, Ob.var [V.sl (some true) true 0 [], vi 0, vi 0]), (1, Ob.row false 3 x0)], nx := 2 } = some (Exit.ret, { tm := [(0, V.str s0), (1, V.str s1), (4, V.ptr 0 0), (5, vi i0), (6, V.ref 1), (7, vi i1), (8, vi i2), (9, vi i3), (13, V.bool false), (31, V.bool true), (42, V.bool true)], hp := [(0, Ob.var [V.sl (some true) true 0 [], vi i1, vi 10]), (1, Ob.row false 3 x0)], nx := 70 }) :=
  byL (k := k) (d := 8) [Hn.br 31 true, Hn.op 36 (V.str (List.drop i1.toNat s0)) [], Hn.op 39 (vb (↑u0.toNat : Int)) [], Hn.call 40 (vi i3), Hn.br 42 true] (aI c0 (aI c1 (aI c2 (aI c3 (aI c4 trivial))))) (by kernel_rfl)
theorem L7_1_b1 (i0 i1 i2 i3 i4 : Int) (s0 s1 : List UInt8) (x0 : List V) (u0 : UInt8) (k : Nat)
    (c0 : decide (i2 < (↑s1.length : Int)) = true)
    (c1 : SlcP false 0 (V.str s0) (some (vi i1)) none none (V.str (List.drop i1.toNat s0)))
    (c2 : StrP s1 i2 u0)
    (c3 : cP ((k + 8)) 20 [V.str (List.drop i1.toNat s0), vb (↑u0.toNat : Int)] = some (vi i3))
    (c4 : decide (i3 < 0) = false)
    (c5 : StrP s1 i2 u0)
    (c6 : decide ((↑u0.toNat : Int) = 110) = true)
    (c7 : SlcP false 0 (V.str s0) (some (vi i1)) (some (vi (IntKind.i64.wrap (i1 + 8)))) none (V.str (List.drop i1.toNat (List.take (IntKind.i64.wrap (i1 + 8)).toNat s0))))
    (c8 : cP ((k + 8)) 21 [V.str (List.drop i1.toNat (List.take (IntKind.i64.wrap (i1 + 8)).toNat s0))] = some (vu i4))
    (c9 : GrdW ((3 : Nat) = (3 : Nat) ∧ (0 : Nat) < (3 : Nat) ∧ (32 : Nat) ≤ (64 : Nat) ∧ x0.length + (1 : Nat) ≤ maxLen') (V.ref (110 : Nat)) [((1 : Nat), Ob.dead), ((110 : Nat), Ob.row false (3 : Nat) (x0 ++ [V.agg [V.bool false, vu i4, V.str []]]))]) :
    evalCode Tryd.prog Tryd.cfg (evalFn Tryd.prog Tryd.cfg (k + 8)) 0 (Tryd.cfg.fc 7) (k + 8) (loopBody Tryd.f7 1) { tm := [(0, V.str s0), (1, V.str s1), (4, V.ptr 0 0), (5, vi i0), (6, V.ref 1), (7, vi i1), (8, vi i2), (13, V.bool false)], hp := [(0, Ob.var [V.sl (some true) true 0 [], vi 0, vi 0]), (1, Ob.row false 3 x0)], nx := 2 } = some (Exit.normal, { tm := [(0, V.str s0), (1, V.str s1), (4, V.ptr 0 0), (5, vi i0), (6, V.ref 110), (7, vi (IntKind.i64.wrap (i1 + i3))), (8, vi (IntKind.i64.wrap (i2 + 1))), (9, vi i3), (13, V.bool false), (31, V.bool true), (42, V.bool false), (48, V.bool true)], hp := [(0, Ob.var [V.sl (some true) true 0 [], vi 0, vi 0]), (1, Ob.dead), (106, Ob.row false 3 [V.agg [V.bool false, vu i4, V.str []]]), (110, Ob.row false 3 (x0 ++ [V.agg [V.bool false, vu i4, V.str []]]))], nx := 146 }) :=
  byL (k := k) (d := 8) [Hn.br 31 true, Hn.op 36 (V.str (List.drop i1.toNat s0)) [], Hn.op 39 (vb (↑u0.toNat : Int)) [], Hn.call 40 (vi i3), Hn.br 42 false, Hn.op 47 (vb (↑u0.toNat : Int)) [], Hn.br 48 true, Hn.op 54 (V.str (List.drop i1.toNat (List.take (IntKind.i64.wrap (i1 + 8)).toNat s0))) [], Hn.call 55 (vu i4), Hn.op 58 (V.ref 110) [(1, Ob.dead), (110, Ob.row false 3 (x0 ++ [V.agg [V.bool false, vu i4, V.str []]]))]] (aI c0 (aI c1 (aI c2 (aI c3 (aI c4 (aI c5 (aI c6 (aI c7 (aI c8 (aI c9 trivial)))))))))) (by kernel_rfl)
theorem L7_1_b1h (i0 i1 i2 i3 i4 : Int) (s0 s1 : List UInt8) (x0 : List V) : head 0 [0, 1, 4, 5, 6, 7, 8, 13] (Tryd.cfg.fc 7).acc { tm := [(0, V.str s0), (1, V.str s1), (4, V.ptr 0 0), (5, vi i0), (6, V.ref 110), (7, vi (IntKind.i64.wrap (i1 + i3))), (8, vi (IntKind.i64.wrap (i2 + 1))), (9, vi i3), (13, V.bool false), (31, V.bool true), (42, V.bool false), (48, V.bool true)], hp := [(0, Ob.var [V.sl (some true) true 0 [], vi 0, vi 0]), (1, Ob.dead), (106, Ob.row false 3 [V.agg [V.bool false, vu i4, V.str []]]), (110, Ob.row false 3 (x0 ++ [V.agg [V.bool false, vu i4, V.str []]]))], nx := 146 } = { tm := [(0, V.str s0), (1, V.str s1), (4, V.ptr 0 0), (5, vi i0), (6, V.ref 1), (7, vi (IntKind.i64.wrap (i1 + i3))), (8, vi (IntKind.i64.wrap (i2 + 1))), (13, V.bool false)], hp := [(0, Ob.var [V.sl (some true) true 0 [], vi 0, vi 0]), (1, Ob.row false 3 (x0 ++ [V.agg [V.bool false, vu i4, V.str []]]))], nx := 2 } := by kernel_rfl
theorem L7_1_b2 (i0 i1 i2 i3 : Int) (s0 s1 : List UInt8) (x0 : List V) (u0 : UInt8) (k : Nat)
    (c0 : decide (i2 < (↑s1.length : Int)) = true)
    (c1 : SlcP false 0 (V.str s0) (some (vi i1)) none none (V.str (List.drop i1.toNat s0)))
    (c2 : StrP s1 i2 u0)
    (c3 : cP ((k + 8)) 20 [V.str (List.drop i1.toNat s0), vb (↑u0.toNat : Int)] = some (vi i3))
    (c4 : decide (i3 < 0) = false)
    (c5 : StrP s1 i2 u0)
    (c6 : decide ((↑u0.toNat : Int) = 110) = false)
    (c7 : SlcP false 0 (V.str s0) (some (vi (IntKind.i64.wrap (i1 + 2)))) (some (vi (IntKind.i64.wrap (i1 + i3)))) none (V.str (List.drop (IntKind.i64.wrap (i1 + 2)).toNat (List.take (IntKind.i64.wrap (i1 + i3)).toNat s0))))
    (c8 : GrdW ((3 : Nat) = (3 : Nat) ∧ (0 : Nat) < (3 : Nat) ∧ (32 : Nat) ≤ (64 : Nat) ∧ x0.length + (1 : Nat) ≤ maxLen') (V.ref (114 : Nat)) [((1 : Nat), Ob.dead), ((114 : Nat), Ob.row false (3 : Nat) (x0 ++ [V.agg [V.bool true, vu (0 : Int), V.str (List.drop (IntKind.i64.wrap (i1 + (2 : Int))).toNat (List.take (IntKind.i64.wrap (i1 + i3)).toNat s0))]]))]) :
    evalCode Tryd.prog Tryd.cfg (evalFn Tryd.prog Tryd.cfg (k + 8)) 0 (Tryd.cfg.fc 7) (k + 8) (loopBody Tryd.f7 1) { tm := [(0, V.str s0), (1, V.str s1), (4, V.ptr 0 0), (5, vi i0), (6, V.ref 1), (7, vi i1), (8, vi i2), (13, V.bool false)], hp := [(0, Ob.var [V.sl (some true) true 0 [], vi 0, vi 0]), (1, Ob.row false 3 x0)], nx := 2 } = some (Exit.normal, { tm := [(0, V.str s0), (1, V.str s1), (4, V.ptr 0 0), (5, vi i0), (6, V.ref 114), (7, vi (IntKind.i64.wrap (i1 + i3))), (8, vi (IntKind.i64.wrap (i2 + 1))), (9, vi i3), (13, V.bool false), (31, V.bool true), (42, V.bool false), (48, V.bool false)], hp := [(0, Ob.var [V.sl (some true) true 0 [], vi 0, vi 0]), (1, Ob.dead), (110, Ob.row false 3 [V.agg [V.bool true, vu 0, V.str (List.drop (IntKind.i64.wrap (i1 + 2)).toNat (List.take (IntKind.i64.wrap (i1 + i3)).toNat s0))]]), (114, Ob.row false 3 (x0 ++ [V.agg [V.bool true, vu 0, V.str (List.drop (IntKind.i64.wrap (i1 + 2)).toNat (List.take (IntKind.i64.wrap (i1 + i3)).toNat s0))]]))], nx := 150 }) :=
  byL (k := k) (d := 8) [Hn.br 31 true, Hn.op 36 (V.str (List.drop i1.toNat s0)) [], Hn.op 39 (vb (↑u0.toNat : Int)) [], Hn.call 40 (vi i3), Hn.br 42 false, Hn.op 47 (vb (↑u0.toNat : Int)) [], Hn.br 48 false, Hn.op 66 (V.str (List.drop (IntKind.i64.wrap (i1 + 2)).toNat (List.take (IntKind.i64.wrap (i1 + i3)).toNat s0))) [], Hn.op 69 (V.ref 114) [(1, Ob.dead), (114, Ob.row false 3 (x0 ++ [V.agg [V.bool true, vu 0, V.str (List.drop (IntKind.i64.wrap (i1 + 2)).toNat (List.take (IntKind.i64.wrap (i1 + i3)).toNat s0))]]))]] (aI c0 (aI c1 (aI c2 (aI c3 (aI c4 (aI c5 (aI c6 (aI c7 (aI c8 trivial))))))))) (by kernel_rfl)
theorem L7_1_b2h (i0 i1 i2 i3 : Int) (s0 s1 : List UInt8) (x0 : List V) : head 0 [0, 1, 4, 5, 6, 7, 8, 13] (Tryd.cfg.fc 7).acc { tm := [(0, V.str s0), (1, V.str s1), (4, V.ptr 0 0), (5, vi i0), (6, V.ref 114), (7, vi (IntKind.i64.wrap (i1 + i3))), (8, vi (IntKind.i64.wrap (i2 + 1))), (9, vi i3), (13, V.bool false), (31, V.bool true), (42, V.bool false), (48, V.bool false)], hp := [(0, Ob.var [V.sl (some true) true 0 [], vi 0, vi 0]), (1, Ob.dead), (110, Ob.row false 3 [V.agg [V.bool true, vu 0, V.str (List.drop (IntKind.i64.wrap (i1 + 2)).toNat (List.take (IntKind.i64.wrap (i1 + i3)).toNat s0))]]), (114, Ob.row false 3 (x0 ++ [V.agg [V.bool true, vu 0, V.str (List.drop (IntKind.i64.wrap (i1 + 2)).toNat (List.take (IntKind.i64.wrap (i1 + i3)).toNat s0))]]))], nx := 150 } = { tm := [(0, V.str s0), (1, V.str s1), (4, V.ptr 0 0), (5, vi i0), (6, V.ref 1), (7, vi (IntKind.i64.wrap (i1 + i3))), (8, vi (IntKind.i64.wrap (i2 + 1))), (13, V.bool false)], hp := [(0, Ob.var [V.sl (some true) true 0 [], vi 0, vi 0]), (1, Ob.row false 3 (x0 ++ [V.agg [V.bool true, vu 0, V.str (List.drop (IntKind.i64.wrap (i1 + 2)).toNat (List.take (IntKind.i64.wrap (i1 + i3)).toNat s0))]]))], nx := 2 } := by kernel_rfl
theorem L7_1_b3 (i0 i1 i2 : Int) (s0 s1 : List UInt8) (x0 : List V) (k : Nat)
    (c0 : decide (i2 < (↑s1.length : Int)) = false) :
    evalCode Tryd.prog Tryd.cfg (evalFn Tryd.prog Tryd.cfg (k + 8)) 0 (Tryd.cfg.fc 7) (k + 8) (loopBody Tryd.f7 1) { tm := [(0, V.str s0), (1, V.str s1), (4, V.ptr 0 0), (5, vi i0), (6, V.ref 1), (7, vi i1), (8, vi i2), (13, V.bool false)], hp := [(0, Ob.var [V.sl (some true) true 0 [], vi 0, vi 0]), (1, Ob.row false 3 x0)], nx := 2 } = some (Exit.exit 2, { tm := [(0, V.str s0), (1, V.str s1), (4, V.ptr 0 0), (5, vi i0), (6, V.ref 1), (7, vi i1), (8, vi i2), (13, V.bool false), (31, V.bool false)], hp := [(0, Ob.var [V.sl (some true) true 0 [], vi 0, vi 0]), (1, Ob.row false 3 x0)], nx := 18 }) :=
  byL (k := k) (d := 8) [Hn.br 31 false] (aI c0 trivial) (by kernel_rfl)
inductive L7_1_R where
  | e0 (i1 : Int) (i2 : Int) (i3 : Int) (x0 : List V)
  | e1 (i1 : Int) (i2 : Int) (x0 : List V)
noncomputable def L7_1_end (i0 : Int) (s0 : List UInt8) (s1 : List UInt8) : L7_1_R → Exit × St
  | .e0 i1 i2 i3 x0 => (Exit.ret, { tm := [(0, V.str s0), (1, V.str s1), (4, V.ptr 0 0), (5, V.int .i64 i0), (6, V.ref 1), (7, V.int .i64 i1), (8, V.int .i64 i2), (9, V.int .i64 i3), (13, V.bool false), (31, V.bool true), (42, V.bool true)], hp := [(0, Ob.var [V.sl (some true) true 0 [], V.int .i64 i1, V.int .i64 10]), (1, Ob.row false 3 x0)], nx := 70 })
  | .e1 i1 i2 x0 => (Exit.exit 2, { tm := [(0, V.str s0), (1, V.str s1), (4, V.ptr 0 0), (5, V.int .i64 i0), (6, V.ref 1), (7, V.int .i64 i1), (8, V.int .i64 i2), (13, V.bool false), (31, V.bool false)], hp := [(0, Ob.var [V.sl (some true) true 0 [], V.int .i64 0, V.int .i64 0]), (1, Ob.row false 3 x0)], nx := 18 })
def L7_1 (k : Nat) (i0 : Int) (s0 s1 : List UInt8) : Nat → Int → Int → List V → Option L7_1_R
  | 0, _, _, _ => none
  | f + 1, i1, i2, x0 => (bif decide (i2 < (↑s1.length : Int)) then (guardP ((0 : Int) ≤ i1 ∧ i1 ≤ (↑s0.length : Int)) ((satB (s1) (i2)).bind fun u0 => ((F20 (k + 2) (List.drop i1.toNat s0) ((↑u0.toNat : Int))).bind fun i3 => (bif decide (i3 < 0) then (some (L7_1_R.e0 i1 i2 i3 x0)) else (bif decide ((↑u0.toNat : Int) = 110) then (guardP ((0 : Int) ≤ i1 ∧ i1 ≤ IntKind.i64.wrap (i1 + (8 : Int)) ∧ IntKind.i64.wrap (i1 + (8 : Int)) ≤ (↑s0.length : Int)) ((F21 (k + 5) (List.drop i1.toNat (List.take (IntKind.i64.wrap (i1 + 8)).toNat s0))).bind fun i4 => (guardP (x0.length + (1 : Nat) ≤ maxLen') (L7_1 k i0 s0 s1 f (IntKind.i64.wrap (i1 + i3)) (IntKind.i64.wrap (i2 + 1)) (x0 ++ [V.agg [V.bool false, V.int .u64 i4, V.str []]]))))) else (guardP ((0 : Int) ≤ IntKind.i64.wrap (i1 + (2 : Int)) ∧ IntKind.i64.wrap (i1 + (2 : Int)) ≤ IntKind.i64.wrap (i1 + i3) ∧ IntKind.i64.wrap (i1 + i3) ≤ (↑s0.length : Int)) (guardP (x0.length + (1 : Nat) ≤ maxLen') (L7_1 k i0 s0 s1 f (IntKind.i64.wrap (i1 + i3)) (IntKind.i64.wrap (i2 + 1)) (x0 ++ [V.agg [V.bool true, V.int .u64 0, V.str (List.drop (IntKind.i64.wrap (i1 + 2)).toNat (List.take (IntKind.i64.wrap (i1 + i3)).toNat s0))]]))))))))) else (some (L7_1_R.e1 i1 i2 x0)))
theorem L7_1_ok {i0 : Int} {s0 s1 : List UInt8} {k : Nat} : ∀ {f : Nat} {i1 : Int} {i2 : Int} {x0 : List V} {r : L7_1_R}, L7_1 k i0 s0 s1 f i1 i2 x0 = some r →
    LoopsN Tryd.prog Tryd.cfg (k + 8) 0 Tryd.f7 (Tryd.cfg.fc 7) 1 [0, 1, 4, 5, 6, 7, 8, 13] f { tm := [(0, V.str s0), (1, V.str s1), (4, V.ptr 0 0), (5, vi i0), (6, V.ref 1), (7, vi i1), (8, vi i2), (13, V.bool false)], hp := [(0, Ob.var [V.sl (some true) true 0 [], vi 0, vi 0]), (1, Ob.row false 3 x0)], nx := 2 } (L7_1_end i0 s0 s1 r) := by
  intro f
  induction f with
  | zero => intro i1 i2 x0 r h; cases h
  | succ f ih =>
    intro i1 i2 x0 r h
    rw [L7_1] at h
    rcases cond_elim h with ⟨e0, h⟩ | ⟨e0, h⟩
    ·
      obtain ⟨e1, h⟩ := guardP_some.1 h
      obtain ⟨u0, e2, h⟩ := bE h
      obtain ⟨i3, e3, h⟩ := bE h
      rcases cond_elim h with ⟨e4, h⟩ | ⟨e4, h⟩
      ·
        cases h; exact LoopsN.done (L7_1_b0 i0 i1 i2 i3 s0 s1 x0 u0 k e0 (SlcP.strFromS e1) (StrP.of_at e2) (F20_ok e3) e4) (fun h => by cases h)
      ·
        rcases cond_elim h with ⟨e5, h⟩ | ⟨e5, h⟩
        ·
          obtain ⟨e6, h⟩ := guardP_some.1 h
          obtain ⟨i4, e7, h⟩ := bE h
          obtain ⟨e8, h⟩ := guardP_some.1 h
          exact LoopsN.next (L7_1_b1 i0 i1 i2 i3 i4 s0 s1 x0 u0 k e0 (SlcP.strFromS e1) (StrP.of_at e2) (F20_ok e3) e4 (StrP.of_at e2) e5 (SlcP.strMid e6) (F21_ok e7) (GrdW.mk ⟨rfl, by decide, by decide, e8⟩)) (L7_1_b1h i0 i1 i2 i3 i4 s0 s1 x0) (ih h)
        ·
          obtain ⟨e6, h⟩ := guardP_some.1 h
          obtain ⟨e7, h⟩ := guardP_some.1 h
          exact LoopsN.next (L7_1_b2 i0 i1 i2 i3 s0 s1 x0 u0 k e0 (SlcP.strFromS e1) (StrP.of_at e2) (F20_ok e3) e4 (StrP.of_at e2) e5 (SlcP.strMid e6) (GrdW.mk ⟨rfl, by decide, by decide, e7⟩)) (L7_1_b2h i0 i1 i2 i3 s0 s1 x0) (ih h)
    ·
      cases h; exact LoopsN.done (L7_1_b3 i0 i1 i2 s0 s1 x0 k e0) (fun h => by cases h)
theorem P7_0 (i0 i1 i2 : Int) (s0 s1 : List UInt8) (x0 : List V) (k : Nat)
    (c0 : LoopsN Tryd.prog Tryd.cfg (k + 8) 0 Tryd.f7 (Tryd.cfg.fc 7) 0 [0, 1, 4, 5] (k + 8) { tm := [(0, V.str s0), (1, V.str s1), (4, V.ptr 0 0), (5, vi 0)], hp := [(0, Ob.var [V.sl (some true) true 0 [], vi 0, vi 0])], nx := 1 } (Exit.exit 0, { tm := [(0, V.str s0), (1, V.str s1), (4, V.ptr 0 0), (5, vi i0), (13, V.bool false)], hp := [(0, Ob.var [V.sl (some true) true 0 [], vi 0, vi 0])], nx := 17 }))
    (c1 : LoopsN Tryd.prog Tryd.cfg (k + 8) 0 Tryd.f7 (Tryd.cfg.fc 7) 1 [0, 1, 4, 5, 6, 7, 8, 13] (k + 8) { tm := [(0, V.str s0), (1, V.str s1), (4, V.ptr 0 0), (5, vi i0), (6, V.ref 1), (7, vi 0), (8, vi 0), (13, V.bool false)], hp := [(0, Ob.var [V.sl (some true) true 0 [], vi 0, vi 0]), (1, Ob.row false 3 [])], nx := 2 } (Exit.exit 2, { tm := [(0, V.str s0), (1, V.str s1), (4, V.ptr 0 0), (5, vi i0), (6, V.ref 1), (7, vi i1), (8, vi i2), (13, V.bool false), (31, V.bool false)], hp := [(0, Ob.var [V.sl (some true) true 0 [], vi 0, vi 0]), (1, Ob.row false 3 x0)], nx := 18 }))
    (c2 : decide (i1 < (↑s0.length : Int)) = true) :
    cP ((k + 9)) 7 [V.str s0, V.str s1] = some (V.agg [V.sl (some true) true 0 [], vi i1, vi 10]) :=
  byF (k := k) (d := 9) [Hn.loop (Exit.exit 0, { tm := [(0, V.str s0), (1, V.str s1), (4, V.ptr 0 0), (5, vi i0), (13, V.bool false)], hp := [(0, Ob.var [V.sl (some true) true 0 [], vi 0, vi 0])], nx := 17 }), Hn.loop (Exit.exit 2, { tm := [(0, V.str s0), (1, V.str s1), (4, V.ptr 0 0), (5, vi i0), (6, V.ref 1), (7, vi i1), (8, vi i2), (13, V.bool false), (31, V.bool false)], hp := [(0, Ob.var [V.sl (some true) true 0 [], vi 0, vi 0]), (1, Ob.row false 3 x0)], nx := 18 }), Hn.br 76 true] (aI c0 (aI c1 (aI c2 trivial))) (by kernel_rfl)
theorem P7_1 (i0 i1 i2 : Int) (s0 s1 : List UInt8) (x0 : List V) (k : Nat)
    (c0 : LoopsN Tryd.prog Tryd.cfg (k + 8) 0 Tryd.f7 (Tryd.cfg.fc 7) 0 [0, 1, 4, 5] (k + 8) { tm := [(0, V.str s0), (1, V.str s1), (4, V.ptr 0 0), (5, vi 0)], hp := [(0, Ob.var [V.sl (some true) true 0 [], vi 0, vi 0])], nx := 1 } (Exit.exit 0, { tm := [(0, V.str s0), (1, V.str s1), (4, V.ptr 0 0), (5, vi i0), (13, V.bool false)], hp := [(0, Ob.var [V.sl (some true) true 0 [], vi 0, vi 0])], nx := 17 }))
    (c1 : LoopsN Tryd.prog Tryd.cfg (k + 8) 0 Tryd.f7 (Tryd.cfg.fc 7) 1 [0, 1, 4, 5, 6, 7, 8, 13] (k + 8) { tm := [(0, V.str s0), (1, V.str s1), (4, V.ptr 0 0), (5, vi i0), (6, V.ref 1), (7, vi 0), (8, vi 0), (13, V.bool false)], hp := [(0, Ob.var [V.sl (some true) true 0 [], vi 0, vi 0]), (1, Ob.row false 3 [])], nx := 2 } (Exit.exit 2, { tm := [(0, V.str s0), (1, V.str s1), (4, V.ptr 0 0), (5, vi i0), (6, V.ref 1), (7, vi i1), (8, vi i2), (13, V.bool false), (31, V.bool false)], hp := [(0, Ob.var [V.sl (some true) true 0 [], vi 0, vi 0]), (1, Ob.row false 3 x0)], nx := 18 }))
    (c2 : decide (i1 < (↑s0.length : Int)) = false) :
    cP ((k + 9)) 7 [V.str s0, V.str s1] = some (V.agg [V.sl none false 3 x0, vi 0, vi 0]) :=
  byF (k := k) (d := 9) [Hn.loop (Exit.exit 0, { tm := [(0, V.str s0), (1, V.str s1), (4, V.ptr 0 0), (5, vi i0), (13, V.bool false)], hp := [(0, Ob.var [V.sl (some true) true 0 [], vi 0, vi 0])], nx := 17 }), Hn.loop (Exit.exit 2, { tm := [(0, V.str s0), (1, V.str s1), (4, V.ptr 0 0), (5, vi i0), (6, V.ref 1), (7, vi i1), (8, vi i2), (13, V.bool false), (31, V.bool false)], hp := [(0, Ob.var [V.sl (some true) true 0 [], vi 0, vi 0]), (1, Ob.row false 3 x0)], nx := 18 }), Hn.br 76 false] (aI c0 (aI c1 (aI c2 trivial))) (by kernel_rfl)
theorem P7_2 (i0 i1 i2 i3 : Int) (s0 s1 : List UInt8) (x0 : List V) (k : Nat)
    (c0 : LoopsN Tryd.prog Tryd.cfg (k + 8) 0 Tryd.f7 (Tryd.cfg.fc 7) 0 [0, 1, 4, 5] (k + 8) { tm := [(0, V.str s0), (1, V.str s1), (4, V.ptr 0 0), (5, vi 0)], hp := [(0, Ob.var [V.sl (some true) true 0 [], vi 0, vi 0])], nx := 1 } (Exit.exit 0, { tm := [(0, V.str s0), (1, V.str s1), (4, V.ptr 0 0), (5, vi i0), (13, V.bool false)], hp := [(0, Ob.var [V.sl (some true) true 0 [], vi 0, vi 0])], nx := 17 }))
    (c1 : LoopsN Tryd.prog Tryd.cfg (k + 8) 0 Tryd.f7 (Tryd.cfg.fc 7) 1 [0, 1, 4, 5, 6, 7, 8, 13] (k + 8) { tm := [(0, V.str s0), (1, V.str s1), (4, V.ptr 0 0), (5, vi i0), (6, V.ref 1), (7, vi 0), (8, vi 0), (13, V.bool false)], hp := [(0, Ob.var [V.sl (some true) true 0 [], vi 0, vi 0]), (1, Ob.row false 3 [])], nx := 2 } (Exit.ret, { tm := [(0, V.str s0), (1, V.str s1), (4, V.ptr 0 0), (5, vi i0), (6, V.ref 1), (7, vi i1), (8, vi i2), (9, vi i3), (13, V.bool false), (31, V.bool true), (42, V.bool true)], hp := [(0, Ob.var [V.sl (some true) true 0 [], vi i1, vi 10]), (1, Ob.row false 3 x0)], nx := 70 })) :
    cP ((k + 9)) 7 [V.str s0, V.str s1] = some (V.agg [V.sl (some true) true 0 [], vi i1, vi 10]) :=
  byF (k := k) (d := 9) [Hn.loop (Exit.exit 0, { tm := [(0, V.str s0), (1, V.str s1), (4, V.ptr 0 0), (5, vi i0), (13, V.bool false)], hp := [(0, Ob.var [V.sl (some true) true 0 [], vi 0, vi 0])], nx := 17 }), Hn.loop (Exit.ret, { tm := [(0, V.str s0), (1, V.str s1), (4, V.ptr 0 0), (5, vi i0), (6, V.ref 1), (7, vi i1), (8, vi i2), (9, vi i3), (13, V.bool false), (31, V.bool true), (42, V.bool true)], hp := [(0, Ob.var [V.sl (some true) true 0 [], vi i1, vi 10]), (1, Ob.row false 3 x0)], nx := 70 })] (aI c0 (aI c1 trivial)) (by kernel_rfl)
theorem P7_3 (i0 : Int) (s0 s1 : List UInt8) (k : Nat)
    (c0 : LoopsN Tryd.prog Tryd.cfg (k + 8) 0 Tryd.f7 (Tryd.cfg.fc 7) 0 [0, 1, 4, 5] (k + 8) { tm := [(0, V.str s0), (1, V.str s1), (4, V.ptr 0 0), (5, vi 0)], hp := [(0, Ob.var [V.sl (some true) true 0 [], vi 0, vi 0])], nx := 1 } (Exit.ret, { tm := [(0, V.str s0), (1, V.str s1), (4, V.ptr 0 0), (5, vi i0), (13, V.bool true), (25, V.bool true)], hp := [(0, Ob.var [V.sl (some true) true 0 [], vi 0, vi 1])], nx := 65 })) :
    cP ((k + 9)) 7 [V.str s0, V.str s1] = some (V.agg [V.sl (some true) true 0 [], vi 0, vi 1]) :=
  byF (k := k) (d := 9) [Hn.loop (Exit.ret, { tm := [(0, V.str s0), (1, V.str s1), (4, V.ptr 0 0), (5, vi i0), (13, V.bool true), (25, V.bool true)], hp := [(0, Ob.var [V.sl (some true) true 0 [], vi 0, vi 1])], nx := 65 })] (aI c0 trivial) (by kernel_rfl)
def F7 (k : Nat) (s0 s1 : List UInt8) : Option (Option Bool × Bool × Nat × List V × Int × Int) :=
  ((L7_0 k s0 s1 (k + 8) (0)).bind fun
    | L7_0_R.e0 i0 => (some ((some true), (true), (0), ([]), (0), (1)))
    | L7_0_R.e1 i0 => ((L7_1 k i0 s0 s1 (k + 8) (0) (0) ([])).bind fun
    | L7_1_R.e0 i1 i2 i3 x0 => (some ((some true), (true), (0), ([]), (i1), (10)))
    | L7_1_R.e1 i1 i2 x0 => (bif decide (i1 < (↑s0.length : Int)) then (some ((some true), (true), (0), ([]), (i1), (10))) else (some ((none), (false), (3), (x0), (0), (0))))))
theorem F7_ok {s0 s1 : List UInt8} {k : Nat} {r : Option Bool × Bool × Nat × List V × Int × Int} (h : F7 k s0 s1 = some r) :
    cP ((k + 9)) 7 [V.str s0, V.str s1] = some (V.agg [V.sl r.1 r.2.1 r.2.2.1 r.2.2.2.1, vi r.2.2.2.2.1, vi r.2.2.2.2.2]) := by
  unfold F7 at h
  obtain ⟨ee, e0, h⟩ := bE h
  cases ee with
  | e0 i0 =>
    have h := Option.some.inj h; subst h; exact P7_3 i0 s0 s1 k (L7_0_ok e0)
  | e1 i0 =>
    obtain ⟨ee, e1, h⟩ := bE h
    cases ee with
    | e0 i1 i2 i3 x0 =>
      have h := Option.some.inj h; subst h; exact P7_2 i0 i1 i2 i3 s0 s1 x0 k (L7_0_ok e0) (L7_1_ok e1)
    | e1 i1 i2 x0 =>
      rcases cond_elim h with ⟨e2, h⟩ | ⟨e2, h⟩
      ·
        have h := Option.some.inj h; subst h; exact P7_0 i0 i1 i2 s0 s1 x0 k (L7_0_ok e0) (L7_1_ok e1) e2
      ·
        have h := Option.some.inj h; subst h; exact P7_1 i0 i1 i2 s0 s1 x0 k (L7_0_ok e0) (L7_1_ok e1) e2
theorem L9_0_b0 (i0 i1 i2 : Int) (b0 b1 b2 b3 : Bool) (s0 s1 : List UInt8) (x0 x1 : List V) (o0 o1 : Option Bool) (n0 n1 k : Nat)
    (c0 : decide (i0 < (↑x0.length : Int)) = true)
    (c1 : IdxP x0 i0 n0 3 (V.agg [V.bool b2, vu i1, V.str s0]))
    (c2 : IdxP x1 i0 n1 3 (V.agg [V.bool b3, vu i2, V.str s1]))
    (c3 : (!decide (b2 = b3)) = true) :
    evalCode Tryd.prog Tryd.cfg (evalFn Tryd.prog Tryd.cfg (k + 2)) 0 (Tryd.cfg.fc 9) (k + 2) (loopBody Tryd.f9 0) { tm := [(0, V.sl o0 b0 n0 x0), (1, V.sl o1 b1 n1 x1), (4, V.bool false), (10, V.bool false), (12, vi (↑x0.length : Int)), (13, vi i0)], hp := [], nx := 0 } = some (Exit.ret, { tm := [(0, V.sl o0 b0 n0 x0), (1, V.sl o1 b1 n1 x1), (4, V.bool false), (5, vi i0), (10, V.bool false), (12, vi (↑x0.length : Int)), (13, vi i0), (14, V.bool true), (67, V.bool true)], hp := [], nx := 224 }) :=
  byL (k := k) (d := 2) [Hn.br 14 true, Hn.op 18 ((V.agg [V.bool b2, vu i1, V.str s0]).cpt 0) [], Hn.op 23 ((V.agg [V.bool b3, vu i2, V.str s1]).cpt 0) [], Hn.br 27 true] (aI c0 (aI c1 (aI c2 (aI c3 trivial)))) (by kernel_rfl)
theorem L9_0_b1 (i0 i1 i2 : Int) (b0 b1 b2 b3 : Bool) (s0 s1 : List UInt8) (x0 x1 : List V) (o0 o1 : Option Bool) (n0 n1 k : Nat)
    (c0 : decide (i0 < (↑x0.length : Int)) = true)
    (c1 : IdxP x0 i0 n0 3 (V.agg [V.bool b2, vu i1, V.str s0]))
    (c2 : IdxP x1 i0 n1 3 (V.agg [V.bool b3, vu i2, V.str s1]))
    (c3 : (!decide (b2 = b3)) = false)
    (c4 : IdxP x0 i0 n0 3 (V.agg [V.bool b2, vu i1, V.str s0]))
    (c5 : b2 = true)
    (c6 : IdxP x0 i0 n0 3 (V.agg [V.bool b2, vu i1, V.str s0]))
    (c7 : IdxP x1 i0 n1 3 (V.agg [V.bool b3, vu i2, V.str s1]))
    (c8 : (!decide (s0 = s1)) = true) :
    evalCode Tryd.prog Tryd.cfg (evalFn Tryd.prog Tryd.cfg (k + 2)) 0 (Tryd.cfg.fc 9) (k + 2) (loopBody Tryd.f9 0) { tm := [(0, V.sl o0 b0 n0 x0), (1, V.sl o1 b1 n1 x1), (4, V.bool false), (10, V.bool false), (12, vi (↑x0.length : Int)), (13, vi i0)], hp := [], nx := 0 } = some (Exit.ret, { tm := [(0, V.sl o0 b0 n0 x0), (1, V.sl o1 b1 n1 x1), (4, V.bool false), (5, vi i0), (10, V.bool false), (12, vi (↑x0.length : Int)), (13, vi i0), (14, V.bool true), (67, V.bool true)], hp := [], nx := 224 }) :=
  byL (k := k) (d := 2) [Hn.br 14 true, Hn.op 18 ((V.agg [V.bool b2, vu i1, V.str s0]).cpt 0) [], Hn.op 23 ((V.agg [V.bool b3, vu i2, V.str s1]).cpt 0) [], Hn.br 27 false, Hn.op 30 ((V.agg [V.bool b2, vu i1, V.str s0]).cpt 0) [], Hn.br 33 true, Hn.op 36 ((V.agg [V.bool b2, vu i1, V.str s0]).cpt 0) [], Hn.op 41 ((V.agg [V.bool b3, vu i2, V.str s1]).cpt 0) [], Hn.br 47 true] (aI c0 (aI c1 (aI c2 (aI c3 (aI c4 (aI c5 (aI c6 (aI c7 (aI c8 trivial))))))))) (by kernel_rfl)
theorem L9_0_b2 (i0 i1 i2 : Int) (b0 b1 b2 b3 : Bool) (s0 s1 : List UInt8) (x0 x1 : List V) (o0 o1 : Option Bool) (n0 n1 k : Nat)
    (c0 : decide (i0 < (↑x0.length : Int)) = true)
    (c1 : IdxP x0 i0 n0 3 (V.agg [V.bool b2, vu i1, V.str s0]))
    (c2 : IdxP x1 i0 n1 3 (V.agg [V.bool b3, vu i2, V.str s1]))
    (c3 : (!decide (b2 = b3)) = false)
    (c4 : IdxP x0 i0 n0 3 (V.agg [V.bool b2, vu i1, V.str s0]))
    (c5 : b2 = true)
    (c6 : IdxP x0 i0 n0 3 (V.agg [V.bool b2, vu i1, V.str s0]))
    (c7 : IdxP x1 i0 n1 3 (V.agg [V.bool b3, vu i2, V.str s1]))
    (c8 : (!decide (s0 = s1)) = false)
    (c9 : IdxP x0 i0 n0 3 (V.agg [V.bool b2, vu i1, V.str s0]))
    (c10 : b2 = true) :
    evalCode Tryd.prog Tryd.cfg (evalFn Tryd.prog Tryd.cfg (k + 2)) 0 (Tryd.cfg.fc 9) (k + 2) (loopBody Tryd.f9 0) { tm := [(0, V.sl o0 b0 n0 x0), (1, V.sl o1 b1 n1 x1), (4, V.bool false), (10, V.bool false), (12, vi (↑x0.length : Int)), (13, vi i0)], hp := [], nx := 0 } = some (Exit.normal, { tm := [(0, V.sl o0 b0 n0 x0), (1, V.sl o1 b1 n1 x1), (4, V.bool false), (5, vi i0), (10, V.bool false), (12, vi (↑x0.length : Int)), (13, vi (IntKind.i64.wrap (i0 + 1))), (14, V.bool true), (67, V.bool false)], hp := [], nx := 228 }) :=
  byL (k := k) (d := 2) [Hn.br 14 true, Hn.op 18 ((V.agg [V.bool b2, vu i1, V.str s0]).cpt 0) [], Hn.op 23 ((V.agg [V.bool b3, vu i2, V.str s1]).cpt 0) [], Hn.br 27 false, Hn.op 30 ((V.agg [V.bool b2, vu i1, V.str s0]).cpt 0) [], Hn.br 33 true, Hn.op 36 ((V.agg [V.bool b2, vu i1, V.str s0]).cpt 0) [], Hn.op 41 ((V.agg [V.bool b3, vu i2, V.str s1]).cpt 0) [], Hn.br 47 false, Hn.op 50 ((V.agg [V.bool b2, vu i1, V.str s0]).cpt 0) [], Hn.br 52 true] (aI c0 (aI c1 (aI c2 (aI c3 (aI c4 (aI c5 (aI c6 (aI c7 (aI c8 (aI c9 (aI c10 trivial))))))))))) (by kernel_rfl)
theorem L9_0_b2h (i0 : Int) (b0 b1 : Bool) (x0 x1 : List V) (o0 o1 : Option Bool) (n0 n1 : Nat) : head 0 [0, 1, 4, 10, 12, 13] (Tryd.cfg.fc 9).acc { tm := [(0, V.sl o0 b0 n0 x0), (1, V.sl o1 b1 n1 x1), (4, V.bool false), (5, vi i0), (10, V.bool false), (12, vi (↑x0.length : Int)), (13, vi (IntKind.i64.wrap (i0 + 1))), (14, V.bool true), (67, V.bool false)], hp := [], nx := 228 } = { tm := [(0, V.sl o0 b0 n0 x0), (1, V.sl o1 b1 n1 x1), (4, V.bool false), (10, V.bool false), (12, vi (↑x0.length : Int)), (13, vi (IntKind.i64.wrap (i0 + 1)))], hp := [], nx := 0 } := by kernel_rfl
theorem L9_0_b3 (i0 i1 i2 : Int) (b0 b1 b2 b3 : Bool) (s0 s1 : List UInt8) (x0 x1 : List V) (o0 o1 : Option Bool) (n0 n1 k : Nat)
    (c0 : decide (i0 < (↑x0.length : Int)) = true)
    (c1 : IdxP x0 i0 n0 3 (V.agg [V.bool b2, vu i1, V.str s0]))
    (c2 : IdxP x1 i0 n1 3 (V.agg [V.bool b3, vu i2, V.str s1]))
    (c3 : (!decide (b2 = b3)) = false)
    (c4 : IdxP x0 i0 n0 3 (V.agg [V.bool b2, vu i1, V.str s0]))
    (c5 : b2 = false)
    (c6 : IdxP x0 i0 n0 3 (V.agg [V.bool b2, vu i1, V.str s0]))
    (c7 : b2 = false)
    (c8 : IdxP x0 i0 n0 3 (V.agg [V.bool b2, vu i1, V.str s0]))
    (c9 : IdxP x1 i0 n1 3 (V.agg [V.bool b3, vu i2, V.str s1]))
    (c10 : (!decide (i1 = i2)) = true) :
    evalCode Tryd.prog Tryd.cfg (evalFn Tryd.prog Tryd.cfg (k + 2)) 0 (Tryd.cfg.fc 9) (k + 2) (loopBody Tryd.f9 0) { tm := [(0, V.sl o0 b0 n0 x0), (1, V.sl o1 b1 n1 x1), (4, V.bool false), (10, V.bool false), (12, vi (↑x0.length : Int)), (13, vi i0)], hp := [], nx := 0 } = some (Exit.ret, { tm := [(0, V.sl o0 b0 n0 x0), (1, V.sl o1 b1 n1 x1), (4, V.bool false), (5, vi i0), (10, V.bool false), (12, vi (↑x0.length : Int)), (13, vi i0), (14, V.bool true), (67, V.bool true)], hp := [], nx := 224 }) :=
  byL (k := k) (d := 2) [Hn.br 14 true, Hn.op 18 ((V.agg [V.bool b2, vu i1, V.str s0]).cpt 0) [], Hn.op 23 ((V.agg [V.bool b3, vu i2, V.str s1]).cpt 0) [], Hn.br 27 false, Hn.op 30 ((V.agg [V.bool b2, vu i1, V.str s0]).cpt 0) [], Hn.br 33 false, Hn.op 50 ((V.agg [V.bool b2, vu i1, V.str s0]).cpt 0) [], Hn.br 52 false, Hn.op 57 ((V.agg [V.bool b2, vu i1, V.str s0]).cpt 0) [], Hn.op 62 ((V.agg [V.bool b3, vu i2, V.str s1]).cpt 0) [], Hn.br 67 true] (aI c0 (aI c1 (aI c2 (aI c3 (aI c4 (aI c5 (aI c6 (aI c7 (aI c8 (aI c9 (aI c10 trivial))))))))))) (by kernel_rfl)
theorem L9_0_b4 (i0 i1 i2 : Int) (b0 b1 b2 b3 : Bool) (s0 s1 : List UInt8) (x0 x1 : List V) (o0 o1 : Option Bool) (n0 n1 k : Nat)
    (c0 : decide (i0 < (↑x0.length : Int)) = true)
    (c1 : IdxP x0 i0 n0 3 (V.agg [V.bool b2, vu i1, V.str s0]))
    (c2 : IdxP x1 i0 n1 3 (V.agg [V.bool b3, vu i2, V.str s1]))
    (c3 : (!decide (b2 = b3)) = false)
    (c4 : IdxP x0 i0 n0 3 (V.agg [V.bool b2, vu i1, V.str s0]))
    (c5 : b2 = false)
    (c6 : IdxP x0 i0 n0 3 (V.agg [V.bool b2, vu i1, V.str s0]))
    (c7 : b2 = false)
    (c8 : IdxP x0 i0 n0 3 (V.agg [V.bool b2, vu i1, V.str s0]))
    (c9 : IdxP x1 i0 n1 3 (V.agg [V.bool b3, vu i2, V.str s1]))
    (c10 : (!decide (i1 = i2)) = false) :
    evalCode Tryd.prog Tryd.cfg (evalFn Tryd.prog Tryd.cfg (k + 2)) 0 (Tryd.cfg.fc 9) (k + 2) (loopBody Tryd.f9 0) { tm := [(0, V.sl o0 b0 n0 x0), (1, V.sl o1 b1 n1 x1), (4, V.bool false), (10, V.bool false), (12, vi (↑x0.length : Int)), (13, vi i0)], hp := [], nx := 0 } = some (Exit.normal, { tm := [(0, V.sl o0 b0 n0 x0), (1, V.sl o1 b1 n1 x1), (4, V.bool false), (5, vi i0), (10, V.bool false), (12, vi (↑x0.length : Int)), (13, vi (IntKind.i64.wrap (i0 + 1))), (14, V.bool true), (67, V.bool false)], hp := [], nx := 228 }) :=
  byL (k := k) (d := 2) [Hn.br 14 true, Hn.op 18 ((V.agg [V.bool b2, vu i1, V.str s0]).cpt 0) [], Hn.op 23 ((V.agg [V.bool b3, vu i2, V.str s1]).cpt 0) [], Hn.br 27 false, Hn.op 30 ((V.agg [V.bool b2, vu i1, V.str s0]).cpt 0) [], Hn.br 33 false, Hn.op 50 ((V.agg [V.bool b2, vu i1, V.str s0]).cpt 0) [], Hn.br 52 false, Hn.op 57 ((V.agg [V.bool b2, vu i1, V.str s0]).cpt 0) [], Hn.op 62 ((V.agg [V.bool b3, vu i2, V.str s1]).cpt 0) [], Hn.br 67 false] (aI c0 (aI c1 (aI c2 (aI c3 (aI c4 (aI c5 (aI c6 (aI c7 (aI c8 (aI c9 (aI c10 trivial))))))))))) (by kernel_rfl)
theorem L9_0_b4h (i0 : Int) (b0 b1 : Bool) (x0 x1 : List V) (o0 o1 : Option Bool) (n0 n1 : Nat) : head 0 [0, 1, 4, 10, 12, 13] (Tryd.cfg.fc 9).acc { tm := [(0, V.sl o0 b0 n0 x0), (1, V.sl o1 b1 n1 x1), (4, V.bool false), (5, vi i0), (10, V.bool false), (12, vi (↑x0.length : Int)), (13, vi (IntKind.i64.wrap (i0 + 1))), (14, V.bool true), (67, V.bool false)], hp := [], nx := 228 } = { tm := [(0, V.sl o0 b0 n0 x0), (1, V.sl o1 b1 n1 x1), (4, V.bool false), (10, V.bool false), (12, vi (↑x0.length : Int)), (13, vi (IntKind.i64.wrap (i0 + 1)))], hp := [], nx := 0 } := by kernel_rfl
theorem L9_0_b5 (i0 : Int) (b0 b1 : Bool) (x0 x1 : List V) (o0 o1 : Option Bool) (n0 n1 k : Nat)
    (c0 : decide (i0 < (↑x0.length : Int)) = false) :
    evalCode Tryd.prog Tryd.cfg (evalFn Tryd.prog Tryd.cfg (k + 2)) 0 (Tryd.cfg.fc 9) (k + 2) (loopBody Tryd.f9 0) { tm := [(0, V.sl o0 b0 n0 x0), (1, V.sl o1 b1 n1 x1), (4, V.bool false), (10, V.bool false), (12, vi (↑x0.length : Int)), (13, vi i0)], hp := [], nx := 0 } = some (Exit.exit 0, { tm := [(0, V.sl o0 b0 n0 x0), (1, V.sl o1 b1 n1 x1), (4, V.bool false), (10, V.bool false), (12, vi (↑x0.length : Int)), (13, vi i0), (14, V.bool false)], hp := [], nx := 4 }) :=
  byL (k := k) (d := 2) [Hn.br 14 false] (aI c0 trivial) (by kernel_rfl)
inductive L9_0_R where
  | e0 (i0 : Int)
  | e1 (i0 : Int)
  | e2 (i0 : Int)
  | e3 (i0 : Int)
noncomputable def L9_0_end (b0 : Bool) (b1 : Bool) (x0 : List V) (x1 : List V) (o0 : Option Bool) (o1 : Option Bool) (n0 : Nat) (n1 : Nat) : L9_0_R → Exit × St
  | .e0 i0 => (Exit.ret, { tm := [(0, V.sl o0 b0 n0 x0), (1, V.sl o1 b1 n1 x1), (4, V.bool false), (5, V.int .i64 i0), (10, V.bool false), (12, V.int .i64 (↑x0.length : Int)), (13, V.int .i64 i0), (14, V.bool true), (67, V.bool true)], hp := [], nx := 224 })
  | .e1 i0 => (Exit.ret, { tm := [(0, V.sl o0 b0 n0 x0), (1, V.sl o1 b1 n1 x1), (4, V.bool false), (5, V.int .i64 i0), (10, V.bool false), (12, V.int .i64 (↑x0.length : Int)), (13, V.int .i64 i0), (14, V.bool true), (67, V.bool true)], hp := [], nx := 224 })
  | .e2 i0 => (Exit.ret, { tm := [(0, V.sl o0 b0 n0 x0), (1, V.sl o1 b1 n1 x1), (4, V.bool false), (5, V.int .i64 i0), (10, V.bool false), (12, V.int .i64 (↑x0.length : Int)), (13, V.int .i64 i0), (14, V.bool true), (67, V.bool true)], hp := [], nx := 224 })
  | .e3 i0 => (Exit.exit 0, { tm := [(0, V.sl o0 b0 n0 x0), (1, V.sl o1 b1 n1 x1), (4, V.bool false), (10, V.bool false), (12, V.int .i64 (↑x0.length : Int)), (13, V.int .i64 i0), (14, V.bool false)], hp := [], nx := 4 })
def L9_0 (k : Nat) (b0 b1 : Bool) (x0 x1 : List V) (o0 o1 : Option Bool) (n0 n1 : Nat) : Nat → Int → Option L9_0_R
  | 0, _ => none
  | f + 1, i0 => (bif decide (i0 < (↑x0.length : Int)) then (guardP (n0 = (3 : Nat)) (((at? (x0) (i0)).bind dAbu64sZ).bind fun (b2, i1, s0) => (guardP (n1 = (3 : Nat)) (((at? (x1) (i0)).bind dAbu64sZ).bind fun (b3, i2, s1) => (bif !decide (b2 = b3) then (some (L9_0_R.e0 i0)) else (bif b2 then (bif !decide (s0 = s1) then (some (L9_0_R.e1 i0)) else (L9_0 k b0 b1 x0 x1 o0 o1 n0 n1 f (IntKind.i64.wrap (i0 + 1)))) else (bif !decide (i1 = i2) then (some (L9_0_R.e2 i0)) else (L9_0 k b0 b1 x0 x1 o0 o1 n0 n1 f (IntKind.i64.wrap (i0 + 1)))))))))) else (some (L9_0_R.e3 i0)))
theorem L9_0_ok {b0 b1 : Bool} {x0 x1 : List V} {o0 o1 : Option Bool} {n0 n1 k : Nat} : ∀ {f : Nat} {i0 : Int} {r : L9_0_R}, L9_0 k b0 b1 x0 x1 o0 o1 n0 n1 f i0 = some r →
    LoopsN Tryd.prog Tryd.cfg (k + 2) 0 Tryd.f9 (Tryd.cfg.fc 9) 0 [0, 1, 4, 10, 12, 13] f { tm := [(0, V.sl o0 b0 n0 x0), (1, V.sl o1 b1 n1 x1), (4, V.bool false), (10, V.bool false), (12, vi (↑x0.length : Int)), (13, vi i0)], hp := [], nx := 0 } (L9_0_end b0 b1 x0 x1 o0 o1 n0 n1 r) := by
  intro f
  induction f with
  | zero => intro i0 r h; cases h
  | succ f ih =>
    intro i0 r h
    rw [L9_0] at h
    rcases cond_elim h with ⟨e0, h⟩ | ⟨e0, h⟩
    ·
      obtain ⟨e1, h⟩ := guardP_some.1 h
      obtain ⟨⟨b2, i1, s0⟩, e2, h⟩ := bE h
      obtain ⟨e3, h⟩ := guardP_some.1 h
      obtain ⟨⟨b3, i2, s1⟩, e4, h⟩ := bE h
      rcases cond_elim h with ⟨e5, h⟩ | ⟨e5, h⟩
      ·
        cases h; exact LoopsN.done (L9_0_b0 i0 i1 i2 b0 b1 b2 b3 s0 s1 x0 x1 o0 o1 n0 n1 k e0 (IdxP.of_at' (at_d dAbu64sZ_ok e2 :) e1) (IdxP.of_at' (at_d dAbu64sZ_ok e4 :) e3) e5) (fun h => by cases h)
      ·
        rcases cond_elim h with ⟨e6, h⟩ | ⟨e6, h⟩
        ·
          rcases cond_elim h with ⟨e7, h⟩ | ⟨e7, h⟩
          ·
            cases h; exact LoopsN.done (L9_0_b1 i0 i1 i2 b0 b1 b2 b3 s0 s1 x0 x1 o0 o1 n0 n1 k e0 (IdxP.of_at' (at_d dAbu64sZ_ok e2 :) e1) (IdxP.of_at' (at_d dAbu64sZ_ok e4 :) e3) e5 (IdxP.of_at' (at_d dAbu64sZ_ok e2 :) e1) e6 (IdxP.of_at' (at_d dAbu64sZ_ok e2 :) e1) (IdxP.of_at' (at_d dAbu64sZ_ok e4 :) e3) e7) (fun h => by cases h)
          ·
            exact LoopsN.next (L9_0_b2 i0 i1 i2 b0 b1 b2 b3 s0 s1 x0 x1 o0 o1 n0 n1 k e0 (IdxP.of_at' (at_d dAbu64sZ_ok e2 :) e1) (IdxP.of_at' (at_d dAbu64sZ_ok e4 :) e3) e5 (IdxP.of_at' (at_d dAbu64sZ_ok e2 :) e1) e6 (IdxP.of_at' (at_d dAbu64sZ_ok e2 :) e1) (IdxP.of_at' (at_d dAbu64sZ_ok e4 :) e3) e7 (IdxP.of_at' (at_d dAbu64sZ_ok e2 :) e1) e6) (L9_0_b2h i0 b0 b1 x0 x1 o0 o1 n0 n1) (ih h)
        ·
          rcases cond_elim h with ⟨e7, h⟩ | ⟨e7, h⟩
          ·
            cases h; exact LoopsN.done (L9_0_b3 i0 i1 i2 b0 b1 b2 b3 s0 s1 x0 x1 o0 o1 n0 n1 k e0 (IdxP.of_at' (at_d dAbu64sZ_ok e2 :) e1) (IdxP.of_at' (at_d dAbu64sZ_ok e4 :) e3) e5 (IdxP.of_at' (at_d dAbu64sZ_ok e2 :) e1) e6 (IdxP.of_at' (at_d dAbu64sZ_ok e2 :) e1) e6 (IdxP.of_at' (at_d dAbu64sZ_ok e2 :) e1) (IdxP.of_at' (at_d dAbu64sZ_ok e4 :) e3) e7) (fun h => by cases h)
          ·
            exact LoopsN.next (L9_0_b4 i0 i1 i2 b0 b1 b2 b3 s0 s1 x0 x1 o0 o1 n0 n1 k e0 (IdxP.of_at' (at_d dAbu64sZ_ok e2 :) e1) (IdxP.of_at' (at_d dAbu64sZ_ok e4 :) e3) e5 (IdxP.of_at' (at_d dAbu64sZ_ok e2 :) e1) e6 (IdxP.of_at' (at_d dAbu64sZ_ok e2 :) e1) e6 (IdxP.of_at' (at_d dAbu64sZ_ok e2 :) e1) (IdxP.of_at' (at_d dAbu64sZ_ok e4 :) e3) e7) (L9_0_b4h i0 b0 b1 x0 x1 o0 o1 n0 n1) (ih h)
    ·
      cases h; exact LoopsN.done (L9_0_b5 i0 b0 b1 x0 x1 o0 o1 n0 n1 k e0) (fun h => by cases h)
theorem P9_0 (b0 b1 : Bool) (x0 x1 : List V) (o0 o1 : Option Bool) (n0 n1 k : Nat)
    (c0 : (!decide ((↑x0.length : Int) = (↑x1.length : Int))) = true) :
    cP ((k + 3)) 9 [V.sl o0 b0 n0 x0, V.sl o1 b1 n1 x1] = some (V.bool false) :=
  byF (k := k) (d := 3) [Hn.br 10 true] (aI c0 trivial) (by kernel_rfl)
theorem P9_1 (i0 : Int) (b0 b1 : Bool) (x0 x1 : List V) (o0 o1 : Option Bool) (n0 n1 k : Nat)
    (c0 : (!decide ((↑x0.length : Int) = (↑x1.length : Int))) = false)
    (c1 : LoopsN Tryd.prog Tryd.cfg (k + 2) 0 Tryd.f9 (Tryd.cfg.fc 9) 0 [0, 1, 4, 10, 12, 13] (k + 2) { tm := [(0, V.sl o0 b0 n0 x0), (1, V.sl o1 b1 n1 x1), (4, V.bool false), (10, V.bool false), (12, vi (↑x0.length : Int)), (13, vi 0)], hp := [], nx := 0 } (Exit.exit 0, { tm := [(0, V.sl o0 b0 n0 x0), (1, V.sl o1 b1 n1 x1), (4, V.bool false), (10, V.bool false), (12, vi (↑x0.length : Int)), (13, vi i0), (14, V.bool false)], hp := [], nx := 4 })) :
    cP ((k + 3)) 9 [V.sl o0 b0 n0 x0, V.sl o1 b1 n1 x1] = some (V.bool true) :=
  byF (k := k) (d := 3) [Hn.br 10 false, Hn.loop (Exit.exit 0, { tm := [(0, V.sl o0 b0 n0 x0), (1, V.sl o1 b1 n1 x1), (4, V.bool false), (10, V.bool false), (12, vi (↑x0.length : Int)), (13, vi i0), (14, V.bool false)], hp := [], nx := 4 })] (aI c0 (aI c1 trivial)) (by kernel_rfl)
theorem P9_2 (i0 : Int) (b0 b1 : Bool) (x0 x1 : List V) (o0 o1 : Option Bool) (n0 n1 k : Nat)
    (c0 : (!decide ((↑x0.length : Int) = (↑x1.length : Int))) = false)
    (c1 : LoopsN Tryd.prog Tryd.cfg (k + 2) 0 Tryd.f9 (Tryd.cfg.fc 9) 0 [0, 1, 4, 10, 12, 13] (k + 2) { tm := [(0, V.sl o0 b0 n0 x0), (1, V.sl o1 b1 n1 x1), (4, V.bool false), (10, V.bool false), (12, vi (↑x0.length : Int)), (13, vi 0)], hp := [], nx := 0 } (Exit.ret, { tm := [(0, V.sl o0 b0 n0 x0), (1, V.sl o1 b1 n1 x1), (4, V.bool false), (5, vi i0), (10, V.bool false), (12, vi (↑x0.length : Int)), (13, vi i0), (14, V.bool true), (67, V.bool true)], hp := [], nx := 224 })) :
    cP ((k + 3)) 9 [V.sl o0 b0 n0 x0, V.sl o1 b1 n1 x1] = some (V.bool false) :=
  byF (k := k) (d := 3) [Hn.br 10 false, Hn.loop (Exit.ret, { tm := [(0, V.sl o0 b0 n0 x0), (1, V.sl o1 b1 n1 x1), (4, V.bool false), (5, vi i0), (10, V.bool false), (12, vi (↑x0.length : Int)), (13, vi i0), (14, V.bool true), (67, V.bool true)], hp := [], nx := 224 })] (aI c0 (aI c1 trivial)) (by kernel_rfl)
theorem P9_3 (i0 : Int) (b0 b1 : Bool) (x0 x1 : List V) (o0 o1 : Option Bool) (n0 n1 k : Nat)
    (c0 : (!decide ((↑x0.length : Int) = (↑x1.length : Int))) = false)
    (c1 : LoopsN Tryd.prog Tryd.cfg (k + 2) 0 Tryd.f9 (Tryd.cfg.fc 9) 0 [0, 1, 4, 10, 12, 13] (k + 2) { tm := [(0, V.sl o0 b0 n0 x0), (1, V.sl o1 b1 n1 x1), (4, V.bool false), (10, V.bool false), (12, vi (↑x0.length : Int)), (13, vi 0)], hp := [], nx := 0 } (Exit.ret, { tm := [(0, V.sl o0 b0 n0 x0), (1, V.sl o1 b1 n1 x1), (4, V.bool false), (5, vi i0), (10, V.bool false), (12, vi (↑x0.length : Int)), (13, vi i0), (14, V.bool true), (67, V.bool true)], hp := [], nx := 224 })) :
    cP ((k + 3)) 9 [V.sl o0 b0 n0 x0, V.sl o1 b1 n1 x1] = some (V.bool false) :=
  byF (k := k) (d := 3) [Hn.br 10 false, Hn.loop (Exit.ret, { tm := [(0, V.sl o0 b0 n0 x0), (1, V.sl o1 b1 n1 x1), (4, V.bool false), (5, vi i0), (10, V.bool false), (12, vi (↑x0.length : Int)), (13, vi i0), (14, V.bool true), (67, V.bool true)], hp := [], nx := 224 })] (aI c0 (aI c1 trivial)) (by kernel_rfl)
theorem P9_4 (i0 : Int) (b0 b1 : Bool) (x0 x1 : List V) (o0 o1 : Option Bool) (n0 n1 k : Nat)
    (c0 : (!decide ((↑x0.length : Int) = (↑x1.length : Int))) = false)
    (c1 : LoopsN Tryd.prog Tryd.cfg (k + 2) 0 Tryd.f9 (Tryd.cfg.fc 9) 0 [0, 1, 4, 10, 12, 13] (k + 2) { tm := [(0, V.sl o0 b0 n0 x0), (1, V.sl o1 b1 n1 x1), (4, V.bool false), (10, V.bool false), (12, vi (↑x0.length : Int)), (13, vi 0)], hp := [], nx := 0 } (Exit.ret, { tm := [(0, V.sl o0 b0 n0 x0), (1, V.sl o1 b1 n1 x1), (4, V.bool false), (5, vi i0), (10, V.bool false), (12, vi (↑x0.length : Int)), (13, vi i0), (14, V.bool true), (67, V.bool true)], hp := [], nx := 224 })) :
    cP ((k + 3)) 9 [V.sl o0 b0 n0 x0, V.sl o1 b1 n1 x1] = some (V.bool false) :=
  byF (k := k) (d := 3) [Hn.br 10 false, Hn.loop (Exit.ret, { tm := [(0, V.sl o0 b0 n0 x0), (1, V.sl o1 b1 n1 x1), (4, V.bool false), (5, vi i0), (10, V.bool false), (12, vi (↑x0.length : Int)), (13, vi i0), (14, V.bool true), (67, V.bool true)], hp := [], nx := 224 })] (aI c0 (aI c1 trivial)) (by kernel_rfl)
def F9 (k : Nat) (o0 : Option Bool) (b0 : Bool) (n0 : Nat) (x0 : List V) (o1 : Option Bool) (b1 : Bool) (n1 : Nat) (x1 : List V) : Option (Bool) :=
  (bif !decide ((↑x0.length : Int) = (↑x1.length : Int)) then (some (false)) else ((L9_0 k b0 b1 x0 x1 o0 o1 n0 n1 (k + 2) (0)).bind fun
    | L9_0_R.e0 i0 => (some (false))
    | L9_0_R.e1 i0 => (some (false))
    | L9_0_R.e2 i0 => (some (false))
    | L9_0_R.e3 i0 => (some (true))))
theorem F9_ok {o0 : Option Bool} {b0 : Bool} {n0 : Nat} {x0 : List V} {o1 : Option Bool} {b1 : Bool} {n1 : Nat} {x1 : List V} {k : Nat} {r : Bool} (h : F9 k o0 b0 n0 x0 o1 b1 n1 x1 = some r) :
    cP ((k + 3)) 9 [V.sl o0 b0 n0 x0, V.sl o1 b1 n1 x1] = some (V.bool r) := by
  unfold F9 at h
  rcases cond_elim h with ⟨e0, h⟩ | ⟨e0, h⟩
  ·
    have h := Option.some.inj h; subst h; exact P9_0 b0 b1 x0 x1 o0 o1 n0 n1 k e0
  ·
    obtain ⟨ee, e1, h⟩ := bE h
    cases ee with
    | e0 i0 =>
      have h := Option.some.inj h; subst h; exact P9_4 i0 b0 b1 x0 x1 o0 o1 n0 n1 k e0 (L9_0_ok e1)
    | e1 i0 =>
      have h := Option.some.inj h; subst h; exact P9_3 i0 b0 b1 x0 x1 o0 o1 n0 n1 k e0 (L9_0_ok e1)
    | e2 i0 =>
      have h := Option.some.inj h; subst h; exact P9_2 i0 b0 b1 x0 x1 o0 o1 n0 n1 k e0 (L9_0_ok e1)
    | e3 i0 =>
      have h := Option.some.inj h; subst h; exact P9_1 i0 b0 b1 x0 x1 o0 o1 n0 n1 k e0 (L9_0_ok e1)
theorem L11_0_b0 (i0 i1 : Int) (b0 b1 : Bool) (s0 s1 : List UInt8) (x0 : List V) (o0 : Option Bool) (n0 k : Nat)
    (c0 : decide (i0 < (↑x0.length : Int)) = true)
    (c1 : IdxP x0 i0 n0 3 (V.agg [V.bool b1, vu i1, V.str s1]))
    (c2 : b1 = true)
    (c3 : GrdP (s0.length + [(116 : UInt8)].length ≤ maxText) (V.str (s0 ++ [(116 : UInt8)]))) :
    evalCode Tryd.prog Tryd.cfg (evalFn Tryd.prog Tryd.cfg (k + 2)) 0 (Tryd.cfg.fc 11) (k + 2) (loopBody Tryd.f11 0) { tm := [(0, V.sl o0 b0 n0 x0), (2, V.str []), (3, V.str s0), (6, V.sl o0 b0 n0 x0), (7, vi (↑x0.length : Int)), (8, vi i0)], hp := [], nx := 0 } = some (Exit.normal, { tm := [(0, V.sl o0 b0 n0 x0), (2, V.str []), (3, V.str (s0 ++ [116])), (5, V.ptr 12 0), (6, V.sl o0 b0 n0 x0), (7, vi (↑x0.length : Int)), (8, vi (IntKind.i64.wrap (i0 + 1))), (9, V.bool true), (13, V.bool true)], hp := [(12, Ob.var [V.bool b1, vu i1, V.str s1])], nx := 48 }) :=
  byL (k := k) (d := 2) [Hn.br 9 true, Hn.op 10 ((V.agg [V.bool b1, vu i1, V.str s1]).cpt 0) [], Hn.br 13 true, Hn.op 15 (V.str (s0 ++ [116])) []] (aI c0 (aI c1 (aI c2 (aI c3 trivial)))) (by kernel_rfl)
theorem L11_0_b0h (i0 i1 : Int) (b0 b1 : Bool) (s0 s1 : List UInt8) (x0 : List V) (o0 : Option Bool) (n0 : Nat) : head 0 [0, 2, 3, 6, 7, 8] (Tryd.cfg.fc 11).acc { tm := [(0, V.sl o0 b0 n0 x0), (2, V.str []), (3, V.str (s0 ++ [116])), (5, V.ptr 12 0), (6, V.sl o0 b0 n0 x0), (7, vi (↑x0.length : Int)), (8, vi (IntKind.i64.wrap (i0 + 1))), (9, V.bool true), (13, V.bool true)], hp := [(12, Ob.var [V.bool b1, vu i1, V.str s1])], nx := 48 } = { tm := [(0, V.sl o0 b0 n0 x0), (2, V.str []), (3, V.str (s0 ++ [116])), (6, V.sl o0 b0 n0 x0), (7, vi (↑x0.length : Int)), (8, vi (IntKind.i64.wrap (i0 + 1)))], hp := [], nx := 0 } := by kernel_rfl
theorem L11_0_b1 (i0 i1 : Int) (b0 b1 : Bool) (s0 s1 : List UInt8) (x0 : List V) (o0 : Option Bool) (n0 k : Nat)
    (c0 : decide (i0 < (↑x0.length : Int)) = true)
    (c1 : IdxP x0 i0 n0 3 (V.agg [V.bool b1, vu i1, V.str s1]))
    (c2 : b1 = false)
    (c3 : GrdP (s0.length + [(110 : UInt8)].length ≤ maxText) (V.str (s0 ++ [(110 : UInt8)]))) :
    evalCode Tryd.prog Tryd.cfg (evalFn Tryd.prog Tryd.cfg (k + 2)) 0 (Tryd.cfg.fc 11) (k + 2) (loopBody Tryd.f11 0) { tm := [(0, V.sl o0 b0 n0 x0), (2, V.str []), (3, V.str s0), (6, V.sl o0 b0 n0 x0), (7, vi (↑x0.length : Int)), (8, vi i0)], hp := [], nx := 0 } = some (Exit.normal, { tm := [(0, V.sl o0 b0 n0 x0), (2, V.str []), (3, V.str (s0 ++ [110])), (5, V.ptr 12 0), (6, V.sl o0 b0 n0 x0), (7, vi (↑x0.length : Int)), (8, vi (IntKind.i64.wrap (i0 + 1))), (9, V.bool true), (13, V.bool false)], hp := [(12, Ob.var [V.bool b1, vu i1, V.str s1])], nx := 48 }) :=
  byL (k := k) (d := 2) [Hn.br 9 true, Hn.op 10 ((V.agg [V.bool b1, vu i1, V.str s1]).cpt 0) [], Hn.br 13 false, Hn.op 17 (V.str (s0 ++ [110])) []] (aI c0 (aI c1 (aI c2 (aI c3 trivial)))) (by kernel_rfl)
theorem L11_0_b1h (i0 i1 : Int) (b0 b1 : Bool) (s0 s1 : List UInt8) (x0 : List V) (o0 : Option Bool) (n0 : Nat) : head 0 [0, 2, 3, 6, 7, 8] (Tryd.cfg.fc 11).acc { tm := [(0, V.sl o0 b0 n0 x0), (2, V.str []), (3, V.str (s0 ++ [110])), (5, V.ptr 12 0), (6, V.sl o0 b0 n0 x0), (7, vi (↑x0.length : Int)), (8, vi (IntKind.i64.wrap (i0 + 1))), (9, V.bool true), (13, V.bool false)], hp := [(12, Ob.var [V.bool b1, vu i1, V.str s1])], nx := 48 } = { tm := [(0, V.sl o0 b0 n0 x0), (2, V.str []), (3, V.str (s0 ++ [110])), (6, V.sl o0 b0 n0 x0), (7, vi (↑x0.length : Int)), (8, vi (IntKind.i64.wrap (i0 + 1)))], hp := [], nx := 0 } := by kernel_rfl
theorem L11_0_b2 (i0 : Int) (b0 : Bool) (s0 : List UInt8) (x0 : List V) (o0 : Option Bool) (n0 k : Nat)
    (c0 : decide (i0 < (↑x0.length : Int)) = false) :
    evalCode Tryd.prog Tryd.cfg (evalFn Tryd.prog Tryd.cfg (k + 2)) 0 (Tryd.cfg.fc 11) (k + 2) (loopBody Tryd.f11 0) { tm := [(0, V.sl o0 b0 n0 x0), (2, V.str []), (3, V.str s0), (6, V.sl o0 b0 n0 x0), (7, vi (↑x0.length : Int)), (8, vi i0)], hp := [], nx := 0 } = some (Exit.exit 0, { tm := [(0, V.sl o0 b0 n0 x0), (2, V.str []), (3, V.str s0), (6, V.sl o0 b0 n0 x0), (7, vi (↑x0.length : Int)), (8, vi i0), (9, V.bool false)], hp := [], nx := 4 }) :=
  byL (k := k) (d := 2) [Hn.br 9 false] (aI c0 trivial) (by kernel_rfl)
inductive L11_0_R where
  | e0 (i0 : Int) (s0 : List UInt8)
noncomputable def L11_0_end (b0 : Bool) (x0 : List V) (o0 : Option Bool) (n0 : Nat) : L11_0_R → Exit × St
  | .e0 i0 s0 => (Exit.exit 0, { tm := [(0, V.sl o0 b0 n0 x0), (2, V.str []), (3, V.str s0), (6, V.sl o0 b0 n0 x0), (7, V.int .i64 (↑x0.length : Int)), (8, V.int .i64 i0), (9, V.bool false)], hp := [], nx := 4 })
def L11_0 (k : Nat) (b0 : Bool) (x0 : List V) (o0 : Option Bool) (n0 : Nat) : Nat → List UInt8 → Int → Option L11_0_R
  | 0, _, _ => none
  | f + 1, s0, i0 => (bif decide (i0 < (↑x0.length : Int)) then (guardP (n0 = (3 : Nat)) (((at? (x0) (i0)).bind dAbu64sZ).bind fun (b1, i1, s1) => (bif b1 then (guardP (s0.length + [(116 : UInt8)].length ≤ maxText) (L11_0 k b0 x0 o0 n0 f (s0 ++ [116]) (IntKind.i64.wrap (i0 + 1)))) else (guardP (s0.length + [(110 : UInt8)].length ≤ maxText) (L11_0 k b0 x0 o0 n0 f (s0 ++ [110]) (IntKind.i64.wrap (i0 + 1))))))) else (some (L11_0_R.e0 i0 s0)))
theorem L11_0_ok {b0 : Bool} {x0 : List V} {o0 : Option Bool} {n0 k : Nat} : ∀ {f : Nat} {s0 : List UInt8} {i0 : Int} {r : L11_0_R}, L11_0 k b0 x0 o0 n0 f s0 i0 = some r →
    LoopsN Tryd.prog Tryd.cfg (k + 2) 0 Tryd.f11 (Tryd.cfg.fc 11) 0 [0, 2, 3, 6, 7, 8] f { tm := [(0, V.sl o0 b0 n0 x0), (2, V.str []), (3, V.str s0), (6, V.sl o0 b0 n0 x0), (7, vi (↑x0.length : Int)), (8, vi i0)], hp := [], nx := 0 } (L11_0_end b0 x0 o0 n0 r) := by
  intro f
  induction f with
  | zero => intro s0 i0 r h; cases h
  | succ f ih =>
    intro s0 i0 r h
    rw [L11_0] at h
    rcases cond_elim h with ⟨e0, h⟩ | ⟨e0, h⟩
    ·
      obtain ⟨e1, h⟩ := guardP_some.1 h
      obtain ⟨⟨b1, i1, s1⟩, e2, h⟩ := bE h
      rcases cond_elim h with ⟨e3, h⟩ | ⟨e3, h⟩
      ·
        obtain ⟨e4, h⟩ := guardP_some.1 h
        exact LoopsN.next (L11_0_b0 i0 i1 b0 b1 s0 s1 x0 o0 n0 k e0 (IdxP.of_at' (at_d dAbu64sZ_ok e2 :) e1) e3 (GrdP.mk e4)) (L11_0_b0h i0 i1 b0 b1 s0 s1 x0 o0 n0) (ih h)
      ·
        obtain ⟨e4, h⟩ := guardP_some.1 h
        exact LoopsN.next (L11_0_b1 i0 i1 b0 b1 s0 s1 x0 o0 n0 k e0 (IdxP.of_at' (at_d dAbu64sZ_ok e2 :) e1) e3 (GrdP.mk e4)) (L11_0_b1h i0 i1 b0 b1 s0 s1 x0 o0 n0) (ih h)
    ·
      cases h; exact LoopsN.done (L11_0_b2 i0 b0 s0 x0 o0 n0 k e0) (fun h => by cases h)
theorem P11_0 (i0 : Int) (b0 : Bool) (s0 : List UInt8) (x0 : List V) (o0 : Option Bool) (n0 k : Nat)
    (c0 : LoopsN Tryd.prog Tryd.cfg (k + 2) 0 Tryd.f11 (Tryd.cfg.fc 11) 0 [0, 2, 3, 6, 7, 8] (k + 2) { tm := [(0, V.sl o0 b0 n0 x0), (2, V.str []), (3, V.str []), (6, V.sl o0 b0 n0 x0), (7, vi (↑x0.length : Int)), (8, vi 0)], hp := [], nx := 0 } (Exit.exit 0, { tm := [(0, V.sl o0 b0 n0 x0), (2, V.str []), (3, V.str s0), (6, V.sl o0 b0 n0 x0), (7, vi (↑x0.length : Int)), (8, vi i0), (9, V.bool false)], hp := [], nx := 4 })) :
    cP ((k + 3)) 11 [V.sl o0 b0 n0 x0] = some (V.str s0) :=
  byF (k := k) (d := 3) [Hn.loop (Exit.exit 0, { tm := [(0, V.sl o0 b0 n0 x0), (2, V.str []), (3, V.str s0), (6, V.sl o0 b0 n0 x0), (7, vi (↑x0.length : Int)), (8, vi i0), (9, V.bool false)], hp := [], nx := 4 })] (aI c0 trivial) (by kernel_rfl)
def F11 (k : Nat) (o0 : Option Bool) (b0 : Bool) (n0 : Nat) (x0 : List V) : Option (List UInt8) :=
  ((L11_0 k b0 x0 o0 n0 (k + 2) ([]) (0)).bind fun
    | L11_0_R.e0 i0 s0 => (some (s0)))
theorem F11_ok {o0 : Option Bool} {b0 : Bool} {n0 : Nat} {x0 : List V} {k : Nat} {r : List UInt8} (h : F11 k o0 b0 n0 x0 = some r) :
    cP ((k + 3)) 11 [V.sl o0 b0 n0 x0] = some (V.str r) := by
  unfold F11 at h
  obtain ⟨ee, e0, h⟩ := bE h
  cases ee with
  | e0 i0 s0 =>
    have h := Option.some.inj h; subst h; exact P11_0 i0 b0 s0 x0 o0 n0 k (L11_0_ok e0)
theorem L6_0_b0 (i0 i1 i2 i3 : Int) (s0 s1 : List UInt8) (x0 : List V) (k : Nat)
    (c0 : decide (i0 < (↑(List.map (fun c => vb (↑c.toNat : Int)) s1).length : Int)) = true)
    (c1 : IdxR (List.map (fun c => vb (↑c.toNat : Int)) s1).length i0 1 1 (V.ept 1 i0.toNat 0))
    (c2 : LdP Tryd.prog 5 (List.map (fun c => vb (↑c.toNat : Int)) s1) i0.toNat 0 (vb i2))
    (c3 : decide (i2 = 116) = true)
    (c4 : decide (IntKind.i64.wrap ((↑s0.length : Int) - i1) < 2) = true)
    (c5 : cP ((k + 7)) 39 [V.str []] = some (vu i3)) :
    evalCode Tryd.prog Tryd.cfg (evalFn Tryd.prog Tryd.cfg (k + 8)) 0 (Tryd.cfg.fc 6) (k + 8) (loopBody Tryd.f6 0) { tm := [(0, V.str s0), (1, V.str s1), (4, V.sl (some true) true 0 []), (5, vi 0), (6, vi 0), (7, V.ptr 0 0), (14, V.bool false), (20, V.ref 1), (21, vi (↑(List.map (fun c => vb (↑c.toNat : Int)) s1).length : Int)), (22, vi i0)], hp := [(0, Ob.var [V.str s0, vi i1, V.ref 2]), (1, Ob.row false 1 (List.map (fun c => vb (↑c.toNat : Int)) s1)), (2, Ob.row false 3 x0)], nx := 3 } = some (Exit.ret, { tm := [(0, V.str s0), (1, V.str s1), (4, V.sl (some true) true 0 []), (5, vi i1), (6, vi 10), (7, V.ptr 0 0), (9, vb i2), (10, vi i1), (11, V.fn (Fn.func 19) [V.ptr 0 0] []), (14, V.bool false), (20, V.ref 1), (21, vi (↑(List.map (fun c => vb (↑c.toNat : Int)) s1).length : Int)), (22, vi i0), (23, V.bool true), (34, V.bool true), (39, V.bool true)], hp := [(0, Ob.var [V.str s0, vi i1, V.ref 2]), (1, Ob.row false 1 (List.map (fun c => vb (↑c.toNat : Int)) s1)), (2, Ob.row false 3 x0)], nx := 239 }) :=
  byL (k := k) (d := 8) [Hn.br 23 true, Hn.op 24 (V.ept 1 i0.toNat 0) [], Hn.op 25 (vb i2) [], Hn.br 34 true, Hn.enter, Hn.enter, Hn.br 17 true, Hn.call 14 (vu i3)] (aI c0 (aI c1 (aI c2 (aI c3 (aI c4 (aI c5 trivial)))))) (by kernel_rfl)
theorem L6_0_b1 (i0 i1 i2 i3 : Int) (s0 s1 : List UInt8) (x0 : List V) (k : Nat)
    (c0 : decide (i0 < (↑(List.map (fun c => vb (↑c.toNat : Int)) s1).length : Int)) = true)
    (c1 : IdxR (List.map (fun c => vb (↑c.toNat : Int)) s1).length i0 1 1 (V.ept 1 i0.toNat 0))
    (c2 : LdP Tryd.prog 5 (List.map (fun c => vb (↑c.toNat : Int)) s1) i0.toNat 0 (vb i2))
    (c3 : decide (i2 = 116) = true)
    (c4 : decide (IntKind.i64.wrap ((↑s0.length : Int) - i1) < 2) = false)
    (c5 : SlcP false 0 (V.str s0) (some (vi (IntKind.i64.wrap (IntKind.i64.wrap (i1 + 2) - 2)))) (some (vi (IntKind.i64.wrap (i1 + 2)))) none (V.str (List.drop (IntKind.i64.wrap (IntKind.i64.wrap (i1 + 2) - 2)).toNat (List.take (IntKind.i64.wrap (i1 + 2)).toNat s0))))
    (c6 : cP ((k + 7)) 39 [V.str (List.drop (IntKind.i64.wrap (IntKind.i64.wrap (i1 + 2) - 2)).toNat (List.take (IntKind.i64.wrap (i1 + 2)).toNat s0))] = some (vu i3))
    (c7 : decide (4096 < i3) = true) :
    evalCode Tryd.prog Tryd.cfg (evalFn Tryd.prog Tryd.cfg (k + 8)) 0 (Tryd.cfg.fc 6) (k + 8) (loopBody Tryd.f6 0) { tm := [(0, V.str s0), (1, V.str s1), (4, V.sl (some true) true 0 []), (5, vi 0), (6, vi 0), (7, V.ptr 0 0), (14, V.bool false), (20, V.ref 1), (21, vi (↑(List.map (fun c => vb (↑c.toNat : Int)) s1).length : Int)), (22, vi i0)], hp := [(0, Ob.var [V.str s0, vi i1, V.ref 2]), (1, Ob.row false 1 (List.map (fun c => vb (↑c.toNat : Int)) s1)), (2, Ob.row false 3 x0)], nx := 3 } = some (Exit.ret, { tm := [(0, V.str s0), (1, V.str s1), (4, V.sl (some true) true 0 []), (5, vi i1), (6, vi 10), (7, V.ptr 0 0), (9, vb i2), (10, vi i1), (11, V.fn (Fn.func 19) [V.ptr 0 0] []), (14, V.bool false), (20, V.ref 1), (21, vi (↑(List.map (fun c => vb (↑c.toNat : Int)) s1).length : Int)), (22, vi i0), (23, V.bool true), (34, V.bool true), (39, V.bool true)], hp := [(0, Ob.var [V.str s0, vi (IntKind.i64.wrap (i1 + 2)), V.ref 2]), (1, Ob.row false 1 (List.map (fun c => vb (↑c.toNat : Int)) s1)), (2, Ob.row false 3 x0)], nx := 335 }) :=
  byL (k := k) (d := 8) [Hn.br 23 true, Hn.op 24 (V.ept 1 i0.toNat 0) [], Hn.op 25 (vb i2) [], Hn.br 34 true, Hn.enter, Hn.enter, Hn.br 17 false, Hn.op 40 (V.str (List.drop (IntKind.i64.wrap (IntKind.i64.wrap (i1 + 2) - 2)).toNat (List.take (IntKind.i64.wrap (i1 + 2)).toNat s0))) [], Hn.call 14 (vu i3), Hn.br 20 true] (aI c0 (aI c1 (aI c2 (aI c3 (aI c4 (aI c5 (aI c6 (aI c7 trivial)))))))) (by kernel_rfl)
theorem L6_0_b2 (i0 i1 i2 i3 : Int) (s0 s1 : List UInt8) (x0 : List V) (k : Nat)
    (c0 : decide (i0 < (↑(List.map (fun c => vb (↑c.toNat : Int)) s1).length : Int)) = true)
    (c1 : IdxR (List.map (fun c => vb (↑c.toNat : Int)) s1).length i0 1 1 (V.ept 1 i0.toNat 0))
    (c2 : LdP Tryd.prog 5 (List.map (fun c => vb (↑c.toNat : Int)) s1) i0.toNat 0 (vb i2))
    (c3 : decide (i2 = 116) = true)
    (c4 : decide (IntKind.i64.wrap ((↑s0.length : Int) - i1) < 2) = false)
    (c5 : SlcP false 0 (V.str s0) (some (vi (IntKind.i64.wrap (IntKind.i64.wrap (i1 + 2) - 2)))) (some (vi (IntKind.i64.wrap (i1 + 2)))) none (V.str (List.drop (IntKind.i64.wrap (IntKind.i64.wrap (i1 + 2) - 2)).toNat (List.take (IntKind.i64.wrap (i1 + 2)).toNat s0))))
    (c6 : cP ((k + 7)) 39 [V.str (List.drop (IntKind.i64.wrap (IntKind.i64.wrap (i1 + 2) - 2)).toNat (List.take (IntKind.i64.wrap (i1 + 2)).toNat s0))] = some (vu i3))
    (c7 : decide (4096 < i3) = false)
    (c8 : decide (IntKind.i64.wrap ((↑s0.length : Int) - IntKind.i64.wrap (i1 + 2)) < IntKind.i64.wrap i3) = true)
    (c9 : GrdW ((3 : Nat) = (3 : Nat) ∧ (0 : Nat) < (3 : Nat) ∧ (32 : Nat) ≤ (64 : Nat) ∧ x0.length + (1 : Nat) ≤ maxLen') (V.ref (447 : Nat)) [((2 : Nat), Ob.dead), ((447 : Nat), Ob.row false (3 : Nat) (x0 ++ [V.agg [V.bool true, vu (0 : Int), V.str []]]))]) :
    evalCode Tryd.prog Tryd.cfg (evalFn Tryd.prog Tryd.cfg (k + 8)) 0 (Tryd.cfg.fc 6) (k + 8) (loopBody Tryd.f6 0) { tm := [(0, V.str s0), (1, V.str s1), (4, V.sl (some true) true 0 []), (5, vi 0), (6, vi 0), (7, V.ptr 0 0), (14, V.bool false), (20, V.ref 1), (21, vi (↑(List.map (fun c => vb (↑c.toNat : Int)) s1).length : Int)), (22, vi i0)], hp := [(0, Ob.var [V.str s0, vi i1, V.ref 2]), (1, Ob.row false 1 (List.map (fun c => vb (↑c.toNat : Int)) s1)), (2, Ob.row false 3 x0)], nx := 3 } = some (Exit.ret, { tm := [(0, V.str s0), (1, V.str s1), (4, V.sl (some true) true 0 []), (5, vi i1), (6, vi 10), (7, V.ptr 0 0), (9, vb i2), (10, vi i1), (11, V.fn (Fn.func 19) [V.ptr 0 0] []), (14, V.bool false), (20, V.ref 1), (21, vi (↑(List.map (fun c => vb (↑c.toNat : Int)) s1).length : Int)), (22, vi i0), (23, V.bool true), (34, V.bool true), (39, V.bool true)], hp := [(0, Ob.var [V.str s0, vi (IntKind.i64.wrap (i1 + 2)), V.ref 447]), (1, Ob.row false 1 (List.map (fun c => vb (↑c.toNat : Int)) s1)), (2, Ob.dead), (443, Ob.row false 3 [V.agg [V.bool true, vu 0, V.str []]]), (447, Ob.row false 3 (x0 ++ [V.agg [V.bool true, vu 0, V.str []]]))], nx := 491 }) :=
  byL (k := k) (d := 8) [Hn.br 23 true, Hn.op 24 (V.ept 1 i0.toNat 0) [], Hn.op 25 (vb i2) [], Hn.br 34 true, Hn.enter, Hn.enter, Hn.br 17 false, Hn.op 40 (V.str (List.drop (IntKind.i64.wrap (IntKind.i64.wrap (i1 + 2) - 2)).toNat (List.take (IntKind.i64.wrap (i1 + 2)).toNat s0))) [], Hn.call 14 (vu i3), Hn.br 20 false, Hn.enter, Hn.br 17 true, Hn.op 38 (V.ref 447) [(2, Ob.dead), (447, Ob.row false 3 (x0 ++ [V.agg [V.bool true, vu 0, V.str []]]))]] (aI c0 (aI c1 (aI c2 (aI c3 (aI c4 (aI c5 (aI c6 (aI c7 (aI c8 (aI c9 trivial)))))))))) (by kernel_rfl)
theorem L6_0_b3 (i0 i1 i2 i3 : Int) (s0 s1 : List UInt8) (x0 : List V) (k : Nat)
    (c0 : decide (i0 < (↑(List.map (fun c => vb (↑c.toNat : Int)) s1).length : Int)) = true)
    (c1 : IdxR (List.map (fun c => vb (↑c.toNat : Int)) s1).length i0 1 1 (V.ept 1 i0.toNat 0))
    (c2 : LdP Tryd.prog 5 (List.map (fun c => vb (↑c.toNat : Int)) s1) i0.toNat 0 (vb i2))
    (c3 : decide (i2 = 116) = true)
    (c4 : decide (IntKind.i64.wrap ((↑s0.length : Int) - i1) < 2) = false)
    (c5 : SlcP false 0 (V.str s0) (some (vi (IntKind.i64.wrap (IntKind.i64.wrap (i1 + 2) - 2)))) (some (vi (IntKind.i64.wrap (i1 + 2)))) none (V.str (List.drop (IntKind.i64.wrap (IntKind.i64.wrap (i1 + 2) - 2)).toNat (List.take (IntKind.i64.wrap (i1 + 2)).toNat s0))))
    (c6 : cP ((k + 7)) 39 [V.str (List.drop (IntKind.i64.wrap (IntKind.i64.wrap (i1 + 2) - 2)).toNat (List.take (IntKind.i64.wrap (i1 + 2)).toNat s0))] = some (vu i3))
    (c7 : decide (4096 < i3) = false)
    (c8 : decide (IntKind.i64.wrap ((↑s0.length : Int) - IntKind.i64.wrap (i1 + 2)) < IntKind.i64.wrap i3) = false)
    (c9 : SlcP false 0 (V.str s0) (some (vi (IntKind.i64.wrap (IntKind.i64.wrap (IntKind.i64.wrap (i1 + 2) + IntKind.i64.wrap i3) - IntKind.i64.wrap i3)))) (some (vi (IntKind.i64.wrap (IntKind.i64.wrap (i1 + 2) + IntKind.i64.wrap i3)))) none (V.str (List.drop (IntKind.i64.wrap (IntKind.i64.wrap (IntKind.i64.wrap (i1 + 2) + IntKind.i64.wrap i3) - IntKind.i64.wrap i3)).toNat (List.take (IntKind.i64.wrap (IntKind.i64.wrap (i1 + 2) + IntKind.i64.wrap i3)).toNat s0))))
    (c10 : GrdW ((3 : Nat) = (3 : Nat) ∧ (0 : Nat) < (3 : Nat) ∧ (32 : Nat) ≤ (64 : Nat) ∧ x0.length + (1 : Nat) ≤ maxLen') (V.ref (543 : Nat)) [((2 : Nat), Ob.dead), ((543 : Nat), Ob.row false (3 : Nat) (x0 ++ [V.agg [V.bool true, vu (0 : Int), V.str (List.drop (IntKind.i64.wrap (IntKind.i64.wrap (IntKind.i64.wrap (i1 + (2 : Int)) + IntKind.i64.wrap i3) - IntKind.i64.wrap i3)).toNat (List.take (IntKind.i64.wrap (IntKind.i64.wrap (i1 + (2 : Int)) + IntKind.i64.wrap i3)).toNat s0))]]))]) :
    evalCode Tryd.prog Tryd.cfg (evalFn Tryd.prog Tryd.cfg (k + 8)) 0 (Tryd.cfg.fc 6) (k + 8) (loopBody Tryd.f6 0) { tm := [(0, V.str s0), (1, V.str s1), (4, V.sl (some true) true 0 []), (5, vi 0), (6, vi 0), (7, V.ptr 0 0), (14, V.bool false), (20, V.ref 1), (21, vi (↑(List.map (fun c => vb (↑c.toNat : Int)) s1).length : Int)), (22, vi i0)], hp := [(0, Ob.var [V.str s0, vi i1, V.ref 2]), (1, Ob.row false 1 (List.map (fun c => vb (↑c.toNat : Int)) s1)), (2, Ob.row false 3 x0)], nx := 3 } = some (Exit.normal, { tm := [(0, V.str s0), (1, V.str s1), (4, V.sl (some true) true 0 []), (5, vi 0), (6, vi 0), (7, V.ptr 0 0), (9, vb i2), (10, vi i1), (11, V.fn (Fn.func 19) [V.ptr 0 0] []), (14, V.bool false), (20, V.ref 1), (21, vi (↑(List.map (fun c => vb (↑c.toNat : Int)) s1).length : Int)), (22, vi (IntKind.i64.wrap (i0 + 1))), (23, V.bool true), (34, V.bool true), (39, V.bool false)], hp := [(0, Ob.var [V.str s0, vi (IntKind.i64.wrap (IntKind.i64.wrap (i1 + 2) + IntKind.i64.wrap i3)), V.ref 543]), (1, Ob.row false 1 (List.map (fun c => vb (↑c.toNat : Int)) s1)), (2, Ob.dead), (539, Ob.row false 3 [V.agg [V.bool true, vu 0, V.str (List.drop (IntKind.i64.wrap (IntKind.i64.wrap (IntKind.i64.wrap (i1 + 2) + IntKind.i64.wrap i3) - IntKind.i64.wrap i3)).toNat (List.take (IntKind.i64.wrap (IntKind.i64.wrap (i1 + 2) + IntKind.i64.wrap i3)).toNat s0))]]), (543, Ob.row false 3 (x0 ++ [V.agg [V.bool true, vu 0, V.str (List.drop (IntKind.i64.wrap (IntKind.i64.wrap (IntKind.i64.wrap (i1 + 2) + IntKind.i64.wrap i3) - IntKind.i64.wrap i3)).toNat (List.take (IntKind.i64.wrap (IntKind.i64.wrap (i1 + 2) + IntKind.i64.wrap i3)).toNat s0))]]))], nx := 579 }) :=
  byL (k := k) (d := 8) [Hn.br 23 true, Hn.op 24 (V.ept 1 i0.toNat 0) [], Hn.op 25 (vb i2) [], Hn.br 34 true, Hn.enter, Hn.enter, Hn.br 17 false, Hn.op 40 (V.str (List.drop (IntKind.i64.wrap (IntKind.i64.wrap (i1 + 2) - 2)).toNat (List.take (IntKind.i64.wrap (i1 + 2)).toNat s0))) [], Hn.call 14 (vu i3), Hn.br 20 false, Hn.enter, Hn.br 17 false, Hn.op 40 (V.str (List.drop (IntKind.i64.wrap (IntKind.i64.wrap (IntKind.i64.wrap (i1 + 2) + IntKind.i64.wrap i3) - IntKind.i64.wrap i3)).toNat (List.take (IntKind.i64.wrap (IntKind.i64.wrap (i1 + 2) + IntKind.i64.wrap i3)).toNat s0))) [], Hn.op 38 (V.ref 543) [(2, Ob.dead), (543, Ob.row false 3 (x0 ++ [V.agg [V.bool true, vu 0, V.str (List.drop (IntKind.i64.wrap (IntKind.i64.wrap (IntKind.i64.wrap (i1 + 2) + IntKind.i64.wrap i3) - IntKind.i64.wrap i3)).toNat (List.take (IntKind.i64.wrap (IntKind.i64.wrap (i1 + 2) + IntKind.i64.wrap i3)).toNat s0))]]))]] (aI c0 (aI c1 (aI c2 (aI c3 (aI c4 (aI c5 (aI c6 (aI c7 (aI c8 (aI c9 (aI c10 trivial))))))))))) (by kernel_rfl)
theorem L6_0_b3h (i0 i1 i2 i3 : Int) (s0 s1 : List UInt8) (x0 : List V) : head 0 [0, 1, 4, 5, 6, 7, 14, 20, 21, 22] (Tryd.cfg.fc 6).acc { tm := [(0, V.str s0), (1, V.str s1), (4, V.sl (some true) true 0 []), (5, vi 0), (6, vi 0), (7, V.ptr 0 0), (9, vb i2), (10, vi i1), (11, V.fn (Fn.func 19) [V.ptr 0 0] []), (14, V.bool false), (20, V.ref 1), (21, vi (↑(List.map (fun c => vb (↑c.toNat : Int)) s1).length : Int)), (22, vi (IntKind.i64.wrap (i0 + 1))), (23, V.bool true), (34, V.bool true), (39, V.bool false)], hp := [(0, Ob.var [V.str s0, vi (IntKind.i64.wrap (IntKind.i64.wrap (i1 + 2) + IntKind.i64.wrap i3)), V.ref 543]), (1, Ob.row false 1 (List.map (fun c => vb (↑c.toNat : Int)) s1)), (2, Ob.dead), (539, Ob.row false 3 [V.agg [V.bool true, vu 0, V.str (List.drop (IntKind.i64.wrap (IntKind.i64.wrap (IntKind.i64.wrap (i1 + 2) + IntKind.i64.wrap i3) - IntKind.i64.wrap i3)).toNat (List.take (IntKind.i64.wrap (IntKind.i64.wrap (i1 + 2) + IntKind.i64.wrap i3)).toNat s0))]]), (543, Ob.row false 3 (x0 ++ [V.agg [V.bool true, vu 0, V.str (List.drop (IntKind.i64.wrap (IntKind.i64.wrap (IntKind.i64.wrap (i1 + 2) + IntKind.i64.wrap i3) - IntKind.i64.wrap i3)).toNat (List.take (IntKind.i64.wrap (IntKind.i64.wrap (i1 + 2) + IntKind.i64.wrap i3)).toNat s0))]]))], nx := 579 } = { tm := [(0, V.str s0), (1, V.str s1), (4, V.sl (some true) true 0 []), (5, vi 0), (6, vi 0), (7, V.ptr 0 0), (14, V.bool false), (20, V.ref 1), (21, vi (↑(List.map (fun c => vb (↑c.toNat : Int)) s1).length : Int)), (22, vi (IntKind.i64.wrap (i0 + 1)))], hp := [(0, Ob.var [V.str s0, vi (IntKind.i64.wrap (IntKind.i64.wrap (i1 + 2) + IntKind.i64.wrap i3)), V.ref 2]), (1, Ob.row false 1 (List.map (fun c => vb (↑c.toNat : Int)) s1)), (2, Ob.row false 3 (x0 ++ [V.agg [V.bool true, vu 0, V.str (List.drop (IntKind.i64.wrap (IntKind.i64.wrap (IntKind.i64.wrap (i1 + 2) + IntKind.i64.wrap i3) - IntKind.i64.wrap i3)).toNat (List.take (IntKind.i64.wrap (IntKind.i64.wrap (i1 + 2) + IntKind.i64.wrap i3)).toNat s0))]]))], nx := 3 } := by kernel_rfl
theorem L6_0_b4 (i0 i1 i2 i3 : Int) (s0 s1 : List UInt8) (x0 : List V) (k : Nat)
    (c0 : decide (i0 < (↑(List.map (fun c => vb (↑c.toNat : Int)) s1).length : Int)) = true)
    (c1 : IdxR (List.map (fun c => vb (↑c.toNat : Int)) s1).length i0 1 1 (V.ept 1 i0.toNat 0))
    (c2 : LdP Tryd.prog 5 (List.map (fun c => vb (↑c.toNat : Int)) s1) i0.toNat 0 (vb i2))
    (c3 : decide (i2 = 116) = false)
    (c4 : decide (IntKind.i64.wrap ((↑s0.length : Int) - i1) < 8) = true)
    (c5 : cP ((k + 7)) 39 [V.str []] = some (vu i3))
    (c6 : GrdW ((3 : Nat) = (3 : Nat) ∧ (0 : Nat) < (3 : Nat) ∧ (32 : Nat) ≤ (64 : Nat) ∧ x0.length + (1 : Nat) ≤ maxLen') (V.ref (203 : Nat)) [((2 : Nat), Ob.dead), ((203 : Nat), Ob.row false (3 : Nat) (x0 ++ [V.agg [V.bool false, vu i3, V.str []]]))]) :
    evalCode Tryd.prog Tryd.cfg (evalFn Tryd.prog Tryd.cfg (k + 8)) 0 (Tryd.cfg.fc 6) (k + 8) (loopBody Tryd.f6 0) { tm := [(0, V.str s0), (1, V.str s1), (4, V.sl (some true) true 0 []), (5, vi 0), (6, vi 0), (7, V.ptr 0 0), (14, V.bool false), (20, V.ref 1), (21, vi (↑(List.map (fun c => vb (↑c.toNat : Int)) s1).length : Int)), (22, vi i0)], hp := [(0, Ob.var [V.str s0, vi i1, V.ref 2]), (1, Ob.row false 1 (List.map (fun c => vb (↑c.toNat : Int)) s1)), (2, Ob.row false 3 x0)], nx := 3 } = some (Exit.ret, { tm := [(0, V.str s0), (1, V.str s1), (4, V.sl (some true) true 0 []), (5, vi i1), (6, vi 10), (7, V.ptr 0 0), (9, vb i2), (10, vi i1), (11, V.fn (Fn.func 18) [V.ptr 0 0] []), (14, V.bool false), (20, V.ref 1), (21, vi (↑(List.map (fun c => vb (↑c.toNat : Int)) s1).length : Int)), (22, vi i0), (23, V.bool true), (34, V.bool false), (39, V.bool true)], hp := [(0, Ob.var [V.str s0, vi i1, V.ref 203]), (1, Ob.row false 1 (List.map (fun c => vb (↑c.toNat : Int)) s1)), (2, Ob.dead), (199, Ob.row false 3 [V.agg [V.bool false, vu i3, V.str []]]), (203, Ob.row false 3 (x0 ++ [V.agg [V.bool false, vu i3, V.str []]]))], nx := 247 }) :=
  byL (k := k) (d := 8) [Hn.br 23 true, Hn.op 24 (V.ept 1 i0.toNat 0) [], Hn.op 25 (vb i2) [], Hn.br 34 false, Hn.enter, Hn.enter, Hn.br 17 true, Hn.call 18 (vu i3), Hn.op 21 (V.ref 203) [(2, Ob.dead), (203, Ob.row false 3 (x0 ++ [V.agg [V.bool false, vu i3, V.str []]]))]] (aI c0 (aI c1 (aI c2 (aI c3 (aI c4 (aI c5 (aI c6 trivial))))))) (by kernel_rfl)
theorem L6_0_b5 (i0 i1 i2 i3 : Int) (s0 s1 : List UInt8) (x0 : List V) (k : Nat)
    (c0 : decide (i0 < (↑(List.map (fun c => vb (↑c.toNat : Int)) s1).length : Int)) = true)
    (c1 : IdxR (List.map (fun c => vb (↑c.toNat : Int)) s1).length i0 1 1 (V.ept 1 i0.toNat 0))
    (c2 : LdP Tryd.prog 5 (List.map (fun c => vb (↑c.toNat : Int)) s1) i0.toNat 0 (vb i2))
    (c3 : decide (i2 = 116) = false)
    (c4 : decide (IntKind.i64.wrap ((↑s0.length : Int) - i1) < 8) = false)
    (c5 : SlcP false 0 (V.str s0) (some (vi (IntKind.i64.wrap (IntKind.i64.wrap (i1 + 8) - 8)))) (some (vi (IntKind.i64.wrap (i1 + 8)))) none (V.str (List.drop (IntKind.i64.wrap (IntKind.i64.wrap (i1 + 8) - 8)).toNat (List.take (IntKind.i64.wrap (i1 + 8)).toNat s0))))
    (c6 : cP ((k + 7)) 39 [V.str (List.drop (IntKind.i64.wrap (IntKind.i64.wrap (i1 + 8) - 8)).toNat (List.take (IntKind.i64.wrap (i1 + 8)).toNat s0))] = some (vu i3))
    (c7 : GrdW ((3 : Nat) = (3 : Nat) ∧ (0 : Nat) < (3 : Nat) ∧ (32 : Nat) ≤ (64 : Nat) ∧ x0.length + (1 : Nat) ≤ maxLen') (V.ref (299 : Nat)) [((2 : Nat), Ob.dead), ((299 : Nat), Ob.row false (3 : Nat) (x0 ++ [V.agg [V.bool false, vu i3, V.str []]]))]) :
    evalCode Tryd.prog Tryd.cfg (evalFn Tryd.prog Tryd.cfg (k + 8)) 0 (Tryd.cfg.fc 6) (k + 8) (loopBody Tryd.f6 0) { tm := [(0, V.str s0), (1, V.str s1), (4, V.sl (some true) true 0 []), (5, vi 0), (6, vi 0), (7, V.ptr 0 0), (14, V.bool false), (20, V.ref 1), (21, vi (↑(List.map (fun c => vb (↑c.toNat : Int)) s1).length : Int)), (22, vi i0)], hp := [(0, Ob.var [V.str s0, vi i1, V.ref 2]), (1, Ob.row false 1 (List.map (fun c => vb (↑c.toNat : Int)) s1)), (2, Ob.row false 3 x0)], nx := 3 } = some (Exit.normal, { tm := [(0, V.str s0), (1, V.str s1), (4, V.sl (some true) true 0 []), (5, vi 0), (6, vi 0), (7, V.ptr 0 0), (9, vb i2), (10, vi i1), (11, V.fn (Fn.func 18) [V.ptr 0 0] []), (14, V.bool false), (20, V.ref 1), (21, vi (↑(List.map (fun c => vb (↑c.toNat : Int)) s1).length : Int)), (22, vi (IntKind.i64.wrap (i0 + 1))), (23, V.bool true), (34, V.bool false), (39, V.bool false)], hp := [(0, Ob.var [V.str s0, vi (IntKind.i64.wrap (i1 + 8)), V.ref 299]), (1, Ob.row false 1 (List.map (fun c => vb (↑c.toNat : Int)) s1)), (2, Ob.dead), (295, Ob.row false 3 [V.agg [V.bool false, vu i3, V.str []]]), (299, Ob.row false 3 (x0 ++ [V.agg [V.bool false, vu i3, V.str []]]))], nx := 335 }) :=
  byL (k := k) (d := 8) [Hn.br 23 true, Hn.op 24 (V.ept 1 i0.toNat 0) [], Hn.op 25 (vb i2) [], Hn.br 34 false, Hn.enter, Hn.enter, Hn.br 17 false, Hn.op 40 (V.str (List.drop (IntKind.i64.wrap (IntKind.i64.wrap (i1 + 8) - 8)).toNat (List.take (IntKind.i64.wrap (i1 + 8)).toNat s0))) [], Hn.call 18 (vu i3), Hn.op 21 (V.ref 299) [(2, Ob.dead), (299, Ob.row false 3 (x0 ++ [V.agg [V.bool false, vu i3, V.str []]]))]] (aI c0 (aI c1 (aI c2 (aI c3 (aI c4 (aI c5 (aI c6 (aI c7 trivial)))))))) (by kernel_rfl)
theorem L6_0_b5h (i0 i1 i2 i3 : Int) (s0 s1 : List UInt8) (x0 : List V) : head 0 [0, 1, 4, 5, 6, 7, 14, 20, 21, 22] (Tryd.cfg.fc 6).acc { tm := [(0, V.str s0), (1, V.str s1), (4, V.sl (some true) true 0 []), (5, vi 0), (6, vi 0), (7, V.ptr 0 0), (9, vb i2), (10, vi i1), (11, V.fn (Fn.func 18) [V.ptr 0 0] []), (14, V.bool false), (20, V.ref 1), (21, vi (↑(List.map (fun c => vb (↑c.toNat : Int)) s1).length : Int)), (22, vi (IntKind.i64.wrap (i0 + 1))), (23, V.bool true), (34, V.bool false), (39, V.bool false)], hp := [(0, Ob.var [V.str s0, vi (IntKind.i64.wrap (i1 + 8)), V.ref 299]), (1, Ob.row false 1 (List.map (fun c => vb (↑c.toNat : Int)) s1)), (2, Ob.dead), (295, Ob.row false 3 [V.agg [V.bool false, vu i3, V.str []]]), (299, Ob.row false 3 (x0 ++ [V.agg [V.bool false, vu i3, V.str []]]))], nx := 335 } = { tm := [(0, V.str s0), (1, V.str s1), (4, V.sl (some true) true 0 []), (5, vi 0), (6, vi 0), (7, V.ptr 0 0), (14, V.bool false), (20, V.ref 1), (21, vi (↑(List.map (fun c => vb (↑c.toNat : Int)) s1).length : Int)), (22, vi (IntKind.i64.wrap (i0 + 1)))], hp := [(0, Ob.var [V.str s0, vi (IntKind.i64.wrap (i1 + 8)), V.ref 2]), (1, Ob.row false 1 (List.map (fun c => vb (↑c.toNat : Int)) s1)), (2, Ob.row false 3 (x0 ++ [V.agg [V.bool false, vu i3, V.str []]]))], nx := 3 } := by kernel_rfl
theorem L6_0_b6 (i0 i1 : Int) (s0 s1 : List UInt8) (x0 : List V) (k : Nat)
    (c0 : decide (i0 < (↑(List.map (fun c => vb (↑c.toNat : Int)) s1).length : Int)) = false) :
    evalCode Tryd.prog Tryd.cfg (evalFn Tryd.prog Tryd.cfg (k + 8)) 0 (Tryd.cfg.fc 6) (k + 8) (loopBody Tryd.f6 0) { tm := [(0, V.str s0), (1, V.str s1), (4, V.sl (some true) true 0 []), (5, vi 0), (6, vi 0), (7, V.ptr 0 0), (14, V.bool false), (20, V.ref 1), (21, vi (↑(List.map (fun c => vb (↑c.toNat : Int)) s1).length : Int)), (22, vi i0)], hp := [(0, Ob.var [V.str s0, vi i1, V.ref 2]), (1, Ob.row false 1 (List.map (fun c => vb (↑c.toNat : Int)) s1)), (2, Ob.row false 3 x0)], nx := 3 } = some (Exit.exit 0, { tm := [(0, V.str s0), (1, V.str s1), (4, V.sl (some true) true 0 []), (5, vi 0), (6, vi 0), (7, V.ptr 0 0), (14, V.bool false), (20, V.ref 1), (21, vi (↑(List.map (fun c => vb (↑c.toNat : Int)) s1).length : Int)), (22, vi i0), (23, V.bool false)], hp := [(0, Ob.var [V.str s0, vi i1, V.ref 2]), (1, Ob.row false 1 (List.map (fun c => vb (↑c.toNat : Int)) s1)), (2, Ob.row false 3 x0)], nx := 7 }) :=
  byL (k := k) (d := 8) [Hn.br 23 false] (aI c0 trivial) (by kernel_rfl)
inductive L6_0_R where
  | e0 (i0 : Int) (i1 : Int) (i2 : Int) (x0 : List V)
  | e1 (i0 : Int) (i1 : Int) (i2 : Int) (x0 : List V)
  | e2 (i0 : Int) (i1 : Int) (i2 : Int) (x0 : List V)
  | e3 (i0 : Int) (i1 : Int) (i2 : Int) (i3 : Int) (x0 : List V)
  | e4 (i0 : Int) (i1 : Int) (x0 : List V)
noncomputable def L6_0_end (s0 : List UInt8) (s1 : List UInt8) : L6_0_R → Exit × St
  | .e0 i0 i1 i2 x0 => (Exit.ret, { tm := [(0, V.str s0), (1, V.str s1), (4, V.sl (some true) true 0 []), (5, V.int .i64 i1), (6, V.int .i64 10), (7, V.ptr 0 0), (9, V.int .u8 i2), (10, V.int .i64 i1), (11, V.fn (Fn.func 19) [V.ptr 0 0] []), (14, V.bool false), (20, V.ref 1), (21, V.int .i64 (↑(List.map (fun c => V.int .u8 (↑c.toNat : Int)) s1).length : Int)), (22, V.int .i64 i0), (23, V.bool true), (34, V.bool true), (39, V.bool true)], hp := [(0, Ob.var [V.str s0, V.int .i64 i1, V.ref 2]), (1, Ob.row false 1 (List.map (fun c => V.int .u8 (↑c.toNat : Int)) s1)), (2, Ob.row false 3 x0)], nx := 239 })
  | .e1 i0 i1 i2 x0 => (Exit.ret, { tm := [(0, V.str s0), (1, V.str s1), (4, V.sl (some true) true 0 []), (5, V.int .i64 i1), (6, V.int .i64 10), (7, V.ptr 0 0), (9, V.int .u8 i2), (10, V.int .i64 i1), (11, V.fn (Fn.func 19) [V.ptr 0 0] []), (14, V.bool false), (20, V.ref 1), (21, V.int .i64 (↑(List.map (fun c => V.int .u8 (↑c.toNat : Int)) s1).length : Int)), (22, V.int .i64 i0), (23, V.bool true), (34, V.bool true), (39, V.bool true)], hp := [(0, Ob.var [V.str s0, V.int .i64 (IntKind.i64.wrap (i1 + 2)), V.ref 2]), (1, Ob.row false 1 (List.map (fun c => V.int .u8 (↑c.toNat : Int)) s1)), (2, Ob.row false 3 x0)], nx := 335 })
  | .e2 i0 i1 i2 x0 => (Exit.ret, { tm := [(0, V.str s0), (1, V.str s1), (4, V.sl (some true) true 0 []), (5, V.int .i64 i1), (6, V.int .i64 10), (7, V.ptr 0 0), (9, V.int .u8 i2), (10, V.int .i64 i1), (11, V.fn (Fn.func 19) [V.ptr 0 0] []), (14, V.bool false), (20, V.ref 1), (21, V.int .i64 (↑(List.map (fun c => V.int .u8 (↑c.toNat : Int)) s1).length : Int)), (22, V.int .i64 i0), (23, V.bool true), (34, V.bool true), (39, V.bool true)], hp := [(0, Ob.var [V.str s0, V.int .i64 (IntKind.i64.wrap (i1 + 2)), V.ref 447]), (1, Ob.row false 1 (List.map (fun c => V.int .u8 (↑c.toNat : Int)) s1)), (2, Ob.dead), (443, Ob.row false 3 [V.agg [V.bool true, V.int .u64 0, V.str []]]), (447, Ob.row false 3 (x0 ++ [V.agg [V.bool true, V.int .u64 0, V.str []]]))], nx := 491 })
  | .e3 i0 i1 i2 i3 x0 => (Exit.ret, { tm := [(0, V.str s0), (1, V.str s1), (4, V.sl (some true) true 0 []), (5, V.int .i64 i1), (6, V.int .i64 10), (7, V.ptr 0 0), (9, V.int .u8 i2), (10, V.int .i64 i1), (11, V.fn (Fn.func 18) [V.ptr 0 0] []), (14, V.bool false), (20, V.ref 1), (21, V.int .i64 (↑(List.map (fun c => V.int .u8 (↑c.toNat : Int)) s1).length : Int)), (22, V.int .i64 i0), (23, V.bool true), (34, V.bool false), (39, V.bool true)], hp := [(0, Ob.var [V.str s0, V.int .i64 i1, V.ref 203]), (1, Ob.row false 1 (List.map (fun c => V.int .u8 (↑c.toNat : Int)) s1)), (2, Ob.dead), (199, Ob.row false 3 [V.agg [V.bool false, V.int .u64 i3, V.str []]]), (203, Ob.row false 3 (x0 ++ [V.agg [V.bool false, V.int .u64 i3, V.str []]]))], nx := 247 })
  | .e4 i0 i1 x0 => (Exit.exit 0, { tm := [(0, V.str s0), (1, V.str s1), (4, V.sl (some true) true 0 []), (5, V.int .i64 0), (6, V.int .i64 0), (7, V.ptr 0 0), (14, V.bool false), (20, V.ref 1), (21, V.int .i64 (↑(List.map (fun c => V.int .u8 (↑c.toNat : Int)) s1).length : Int)), (22, V.int .i64 i0), (23, V.bool false)], hp := [(0, Ob.var [V.str s0, V.int .i64 i1, V.ref 2]), (1, Ob.row false 1 (List.map (fun c => V.int .u8 (↑c.toNat : Int)) s1)), (2, Ob.row false 3 x0)], nx := 7 })
def L6_0 (k : Nat) (s0 s1 : List UInt8) : Nat → Int → Int → List V → Option L6_0_R
  | 0, _, _, _ => none
  | f + 1, i0, i1, x0 => (bif decide (i0 < (↑(List.map (fun c => V.int .u8 (↑c.toNat : Int)) s1).length : Int)) then (guardP ((0 : Int) ≤ i0 ∧ i0 < (↑(List.map (fun c => V.int .u8 (↑c.toNat : Int)) s1).length : Int)) ((((List.map (fun c => V.int .u8 (↑c.toNat : Int)) s1)[i0.toNat]?).bind (dI IntKind.u8)).bind fun i2 => (bif decide (i2 = 116) then (bif decide (IntKind.i64.wrap ((↑s0.length : Int) - i1) < 2) then ((F39 (k + 2) ([])).bind fun i3 => (some (L6_0_R.e0 i0 i1 i2 x0))) else (guardP ((0 : Int) ≤ IntKind.i64.wrap (IntKind.i64.wrap (i1 + (2 : Int)) - (2 : Int)) ∧ IntKind.i64.wrap (IntKind.i64.wrap (i1 + (2 : Int)) - (2 : Int)) ≤ IntKind.i64.wrap (i1 + (2 : Int)) ∧ IntKind.i64.wrap (i1 + (2 : Int)) ≤ (↑s0.length : Int)) ((F39 (k + 2) (List.drop (IntKind.i64.wrap (IntKind.i64.wrap (i1 + 2) - 2)).toNat (List.take (IntKind.i64.wrap (i1 + 2)).toNat s0))).bind fun i3 => (bif decide (4096 < i3) then (some (L6_0_R.e1 i0 i1 i2 x0)) else (bif decide (IntKind.i64.wrap ((↑s0.length : Int) - IntKind.i64.wrap (i1 + 2)) < IntKind.i64.wrap i3) then (guardP (x0.length + (1 : Nat) ≤ maxLen') (some (L6_0_R.e2 i0 i1 i2 x0))) else (guardP ((0 : Int) ≤ IntKind.i64.wrap (IntKind.i64.wrap (IntKind.i64.wrap (i1 + (2 : Int)) + IntKind.i64.wrap i3) - IntKind.i64.wrap i3) ∧ IntKind.i64.wrap (IntKind.i64.wrap (IntKind.i64.wrap (i1 + (2 : Int)) + IntKind.i64.wrap i3) - IntKind.i64.wrap i3) ≤ IntKind.i64.wrap (IntKind.i64.wrap (i1 + (2 : Int)) + IntKind.i64.wrap i3) ∧ IntKind.i64.wrap (IntKind.i64.wrap (i1 + (2 : Int)) + IntKind.i64.wrap i3) ≤ (↑s0.length : Int)) (guardP (x0.length + (1 : Nat) ≤ maxLen') (L6_0 k s0 s1 f (IntKind.i64.wrap (i0 + 1)) (IntKind.i64.wrap (IntKind.i64.wrap (i1 + 2) + IntKind.i64.wrap i3)) (x0 ++ [V.agg [V.bool true, V.int .u64 0, V.str (List.drop (IntKind.i64.wrap (IntKind.i64.wrap (IntKind.i64.wrap (i1 + 2) + IntKind.i64.wrap i3) - IntKind.i64.wrap i3)).toNat (List.take (IntKind.i64.wrap (IntKind.i64.wrap (i1 + 2) + IntKind.i64.wrap i3)).toNat s0))]]))))))))) else (bif decide (IntKind.i64.wrap ((↑s0.length : Int) - i1) < 8) then ((F39 (k + 2) ([])).bind fun i3 => (guardP (x0.length + (1 : Nat) ≤ maxLen') (some (L6_0_R.e3 i0 i1 i2 i3 x0)))) else (guardP ((0 : Int) ≤ IntKind.i64.wrap (IntKind.i64.wrap (i1 + (8 : Int)) - (8 : Int)) ∧ IntKind.i64.wrap (IntKind.i64.wrap (i1 + (8 : Int)) - (8 : Int)) ≤ IntKind.i64.wrap (i1 + (8 : Int)) ∧ IntKind.i64.wrap (i1 + (8 : Int)) ≤ (↑s0.length : Int)) ((F39 (k + 2) (List.drop (IntKind.i64.wrap (IntKind.i64.wrap (i1 + 8) - 8)).toNat (List.take (IntKind.i64.wrap (i1 + 8)).toNat s0))).bind fun i3 => (guardP (x0.length + (1 : Nat) ≤ maxLen') (L6_0 k s0 s1 f (IntKind.i64.wrap (i0 + 1)) (IntKind.i64.wrap (i1 + 8)) (x0 ++ [V.agg [V.bool false, V.int .u64 i3, V.str []]]))))))))) else (some (L6_0_R.e4 i0 i1 x0)))
theorem L6_0_ok {s0 s1 : List UInt8} {k : Nat} : ∀ {f : Nat} {i0 : Int} {i1 : Int} {x0 : List V} {r : L6_0_R}, L6_0 k s0 s1 f i0 i1 x0 = some r →
    LoopsN Tryd.prog Tryd.cfg (k + 8) 0 Tryd.f6 (Tryd.cfg.fc 6) 0 [0, 1, 4, 5, 6, 7, 14, 20, 21, 22] f { tm := [(0, V.str s0), (1, V.str s1), (4, V.sl (some true) true 0 []), (5, vi 0), (6, vi 0), (7, V.ptr 0 0), (14, V.bool false), (20, V.ref 1), (21, vi (↑(List.map (fun c => vb (↑c.toNat : Int)) s1).length : Int)), (22, vi i0)], hp := [(0, Ob.var [V.str s0, vi i1, V.ref 2]), (1, Ob.row false 1 (List.map (fun c => vb (↑c.toNat : Int)) s1)), (2, Ob.row false 3 x0)], nx := 3 } (L6_0_end s0 s1 r) := by
  intro f
  induction f with
  | zero => intro i0 i1 x0 r h; cases h
  | succ f ih =>
    intro i0 i1 x0 r h
    rw [L6_0] at h
    rcases cond_elim h with ⟨e0, h⟩ | ⟨e0, h⟩
    ·
      obtain ⟨e1, h⟩ := guardP_some.1 h
      obtain ⟨i2, e2, h⟩ := bE h
      rcases cond_elim h with ⟨e3, h⟩ | ⟨e3, h⟩
      ·
        rcases cond_elim h with ⟨e4, h⟩ | ⟨e4, h⟩
        ·
          obtain ⟨i3, e5, h⟩ := bE h
          cases h; exact LoopsN.done (L6_0_b0 i0 i1 i2 i3 s0 s1 x0 k e0 (IdxR.mk' e1 rfl) (LdP.mk (get_d dI_ok e2 :) (by kernel_rfl)) e3 e4 (F39_ok e5)) (fun h => by cases h)
        ·
          obtain ⟨e5, h⟩ := guardP_some.1 h
          obtain ⟨i3, e6, h⟩ := bE h
          rcases cond_elim h with ⟨e7, h⟩ | ⟨e7, h⟩
          ·
            cases h; exact LoopsN.done (L6_0_b1 i0 i1 i2 i3 s0 s1 x0 k e0 (IdxR.mk' e1 rfl) (LdP.mk (get_d dI_ok e2 :) (by kernel_rfl)) e3 e4 (SlcP.strMid e5) (F39_ok e6) e7) (fun h => by cases h)
          ·
            rcases cond_elim h with ⟨e8, h⟩ | ⟨e8, h⟩
            ·
              obtain ⟨e9, h⟩ := guardP_some.1 h
              cases h; exact LoopsN.done (L6_0_b2 i0 i1 i2 i3 s0 s1 x0 k e0 (IdxR.mk' e1 rfl) (LdP.mk (get_d dI_ok e2 :) (by kernel_rfl)) e3 e4 (SlcP.strMid e5) (F39_ok e6) e7 e8 (GrdW.mk ⟨rfl, by decide, by decide, e9⟩)) (fun h => by cases h)
            ·
              obtain ⟨e9, h⟩ := guardP_some.1 h
              obtain ⟨e10, h⟩ := guardP_some.1 h
              exact LoopsN.next (L6_0_b3 i0 i1 i2 i3 s0 s1 x0 k e0 (IdxR.mk' e1 rfl) (LdP.mk (get_d dI_ok e2 :) (by kernel_rfl)) e3 e4 (SlcP.strMid e5) (F39_ok e6) e7 e8 (SlcP.strMid e9) (GrdW.mk ⟨rfl, by decide, by decide, e10⟩)) (L6_0_b3h i0 i1 i2 i3 s0 s1 x0) (ih h)
      ·
        rcases cond_elim h with ⟨e4, h⟩ | ⟨e4, h⟩
        ·
          obtain ⟨i3, e5, h⟩ := bE h
          obtain ⟨e6, h⟩ := guardP_some.1 h
          cases h; exact LoopsN.done (L6_0_b4 i0 i1 i2 i3 s0 s1 x0 k e0 (IdxR.mk' e1 rfl) (LdP.mk (get_d dI_ok e2 :) (by kernel_rfl)) e3 e4 (F39_ok e5) (GrdW.mk ⟨rfl, by decide, by decide, e6⟩)) (fun h => by cases h)
        ·
          obtain ⟨e5, h⟩ := guardP_some.1 h
          obtain ⟨i3, e6, h⟩ := bE h
          obtain ⟨e7, h⟩ := guardP_some.1 h
          exact LoopsN.next (L6_0_b5 i0 i1 i2 i3 s0 s1 x0 k e0 (IdxR.mk' e1 rfl) (LdP.mk (get_d dI_ok e2 :) (by kernel_rfl)) e3 e4 (SlcP.strMid e5) (F39_ok e6) (GrdW.mk ⟨rfl, by decide, by decide, e7⟩)) (L6_0_b5h i0 i1 i2 i3 s0 s1 x0) (ih h)
    ·
      cases h; exact LoopsN.done (L6_0_b6 i0 i1 s0 s1 x0 k e0) (fun h => by cases h)
theorem P6_0 (s0 s1 s2 : List UInt8) (k : Nat)
    (c0 : cP ((k + 8)) 17 [V.str s1, V.str [110, 116]] = some (V.str s2))
    (c1 : (!decide (s2 = [])) = true) :
    cP ((k + 9)) 6 [V.str s0, V.str s1] = some (V.tup [V.sl (some true) true 0 [], vi 0, vi 1]) :=
  byF (k := k) (d := 9) [Hn.call 13 (V.str s2), Hn.br 14 true] (aI c0 (aI c1 trivial)) (by kernel_rfl)
theorem P6_1 (i0 i1 : Int) (s0 s1 s2 : List UInt8) (x0 : List V) (k : Nat)
    (c0 : cP ((k + 8)) 17 [V.str s1, V.str [110, 116]] = some (V.str s2))
    (c1 : (!decide (s2 = [])) = false)
    (c2 : GrdW (s1.length ≤ maxLen' ∧ (1 : Nat) = (1 : Nat)) (V.ref (48 : Nat)) [((48 : Nat), Ob.row false (1 : Nat) (List.map (fun c => vb (↑c.toNat : Int)) s1))])
    (c3 : LoopsN Tryd.prog Tryd.cfg (k + 8) 0 Tryd.f6 (Tryd.cfg.fc 6) 0 [0, 1, 4, 5, 6, 7, 14, 20, 21, 22] (k + 8) { tm := [(0, V.str s0), (1, V.str s1), (4, V.sl (some true) true 0 []), (5, vi 0), (6, vi 0), (7, V.ptr 0 0), (14, V.bool false), (20, V.ref 1), (21, vi (↑(List.map (fun c => vb (↑c.toNat : Int)) s1).length : Int)), (22, vi 0)], hp := [(0, Ob.var [V.str s0, vi 0, V.ref 2]), (1, Ob.row false 1 (List.map (fun c => vb (↑c.toNat : Int)) s1)), (2, Ob.row false 3 [])], nx := 3 } (Exit.exit 0, { tm := [(0, V.str s0), (1, V.str s1), (4, V.sl (some true) true 0 []), (5, vi 0), (6, vi 0), (7, V.ptr 0 0), (14, V.bool false), (20, V.ref 1), (21, vi (↑(List.map (fun c => vb (↑c.toNat : Int)) s1).length : Int)), (22, vi i0), (23, V.bool false)], hp := [(0, Ob.var [V.str s0, vi i1, V.ref 2]), (1, Ob.row false 1 (List.map (fun c => vb (↑c.toNat : Int)) s1)), (2, Ob.row false 3 x0)], nx := 7 }))
    (c4 : decide (i1 < (↑s0.length : Int)) = true) :
    cP ((k + 9)) 6 [V.str s0, V.str s1] = some (V.tup [V.sl (some true) true 0 [], vi i1, vi 10]) :=
  byF (k := k) (d := 9) [Hn.call 13 (V.str s2), Hn.br 14 false, Hn.op 20 (V.ref 48) [(48, Ob.row false 1 (List.map (fun c => vb (↑c.toNat : Int)) s1))], Hn.loop (Exit.exit 0, { tm := [(0, V.str s0), (1, V.str s1), (4, V.sl (some true) true 0 []), (5, vi 0), (6, vi 0), (7, V.ptr 0 0), (14, V.bool false), (20, V.ref 1), (21, vi (↑(List.map (fun c => vb (↑c.toNat : Int)) s1).length : Int)), (22, vi i0), (23, V.bool false)], hp := [(0, Ob.var [V.str s0, vi i1, V.ref 2]), (1, Ob.row false 1 (List.map (fun c => vb (↑c.toNat : Int)) s1)), (2, Ob.row false 3 x0)], nx := 7 }), Hn.br 49 true] (aI c0 (aI c1 (aI c2 (aI c3 (aI c4 trivial))))) (by kernel_rfl)
theorem P6_2 (i0 i1 : Int) (s0 s1 s2 : List UInt8) (x0 : List V) (k : Nat)
    (c0 : cP ((k + 8)) 17 [V.str s1, V.str [110, 116]] = some (V.str s2))
    (c1 : (!decide (s2 = [])) = false)
    (c2 : GrdW (s1.length ≤ maxLen' ∧ (1 : Nat) = (1 : Nat)) (V.ref (48 : Nat)) [((48 : Nat), Ob.row false (1 : Nat) (List.map (fun c => vb (↑c.toNat : Int)) s1))])
    (c3 : LoopsN Tryd.prog Tryd.cfg (k + 8) 0 Tryd.f6 (Tryd.cfg.fc 6) 0 [0, 1, 4, 5, 6, 7, 14, 20, 21, 22] (k + 8) { tm := [(0, V.str s0), (1, V.str s1), (4, V.sl (some true) true 0 []), (5, vi 0), (6, vi 0), (7, V.ptr 0 0), (14, V.bool false), (20, V.ref 1), (21, vi (↑(List.map (fun c => vb (↑c.toNat : Int)) s1).length : Int)), (22, vi 0)], hp := [(0, Ob.var [V.str s0, vi 0, V.ref 2]), (1, Ob.row false 1 (List.map (fun c => vb (↑c.toNat : Int)) s1)), (2, Ob.row false 3 [])], nx := 3 } (Exit.exit 0, { tm := [(0, V.str s0), (1, V.str s1), (4, V.sl (some true) true 0 []), (5, vi 0), (6, vi 0), (7, V.ptr 0 0), (14, V.bool false), (20, V.ref 1), (21, vi (↑(List.map (fun c => vb (↑c.toNat : Int)) s1).length : Int)), (22, vi i0), (23, V.bool false)], hp := [(0, Ob.var [V.str s0, vi i1, V.ref 2]), (1, Ob.row false 1 (List.map (fun c => vb (↑c.toNat : Int)) s1)), (2, Ob.row false 3 x0)], nx := 7 }))
    (c4 : decide (i1 < (↑s0.length : Int)) = false) :
    cP ((k + 9)) 6 [V.str s0, V.str s1] = some (V.tup [V.sl none false 3 x0, vi 0, vi 0]) :=
  byF (k := k) (d := 9) [Hn.call 13 (V.str s2), Hn.br 14 false, Hn.op 20 (V.ref 48) [(48, Ob.row false 1 (List.map (fun c => vb (↑c.toNat : Int)) s1))], Hn.loop (Exit.exit 0, { tm := [(0, V.str s0), (1, V.str s1), (4, V.sl (some true) true 0 []), (5, vi 0), (6, vi 0), (7, V.ptr 0 0), (14, V.bool false), (20, V.ref 1), (21, vi (↑(List.map (fun c => vb (↑c.toNat : Int)) s1).length : Int)), (22, vi i0), (23, V.bool false)], hp := [(0, Ob.var [V.str s0, vi i1, V.ref 2]), (1, Ob.row false 1 (List.map (fun c => vb (↑c.toNat : Int)) s1)), (2, Ob.row false 3 x0)], nx := 7 }), Hn.br 49 false] (aI c0 (aI c1 (aI c2 (aI c3 (aI c4 trivial))))) (by kernel_rfl)
theorem P6_3 (i0 i1 i2 i3 : Int) (s0 s1 s2 : List UInt8) (x0 : List V) (k : Nat)
    (c0 : cP ((k + 8)) 17 [V.str s1, V.str [110, 116]] = some (V.str s2))
    (c1 : (!decide (s2 = [])) = false)
    (c2 : GrdW (s1.length ≤ maxLen' ∧ (1 : Nat) = (1 : Nat)) (V.ref (48 : Nat)) [((48 : Nat), Ob.row false (1 : Nat) (List.map (fun c => vb (↑c.toNat : Int)) s1))])
    (c3 : LoopsN Tryd.prog Tryd.cfg (k + 8) 0 Tryd.f6 (Tryd.cfg.fc 6) 0 [0, 1, 4, 5, 6, 7, 14, 20, 21, 22] (k + 8) { tm := [(0, V.str s0), (1, V.str s1), (4, V.sl (some true) true 0 []), (5, vi 0), (6, vi 0), (7, V.ptr 0 0), (14, V.bool false), (20, V.ref 1), (21, vi (↑(List.map (fun c => vb (↑c.toNat : Int)) s1).length : Int)), (22, vi 0)], hp := [(0, Ob.var [V.str s0, vi 0, V.ref 2]), (1, Ob.row false 1 (List.map (fun c => vb (↑c.toNat : Int)) s1)), (2, Ob.row false 3 [])], nx := 3 } (Exit.ret, { tm := [(0, V.str s0), (1, V.str s1), (4, V.sl (some true) true 0 []), (5, vi i1), (6, vi 10), (7, V.ptr 0 0), (9, vb i2), (10, vi i1), (11, V.fn (Fn.func 18) [V.ptr 0 0] []), (14, V.bool false), (20, V.ref 1), (21, vi (↑(List.map (fun c => vb (↑c.toNat : Int)) s1).length : Int)), (22, vi i0), (23, V.bool true), (34, V.bool false), (39, V.bool true)], hp := [(0, Ob.var [V.str s0, vi i1, V.ref 203]), (1, Ob.row false 1 (List.map (fun c => vb (↑c.toNat : Int)) s1)), (2, Ob.dead), (199, Ob.row false 3 [V.agg [V.bool false, vu i3, V.str []]]), (203, Ob.row false 3 (x0 ++ [V.agg [V.bool false, vu i3, V.str []]]))], nx := 247 })) :
    cP ((k + 9)) 6 [V.str s0, V.str s1] = some (V.tup [V.sl (some true) true 0 [], vi i1, vi 10]) :=
  byF (k := k) (d := 9) [Hn.call 13 (V.str s2), Hn.br 14 false, Hn.op 20 (V.ref 48) [(48, Ob.row false 1 (List.map (fun c => vb (↑c.toNat : Int)) s1))], Hn.loop (Exit.ret, { tm := [(0, V.str s0), (1, V.str s1), (4, V.sl (some true) true 0 []), (5, vi i1), (6, vi 10), (7, V.ptr 0 0), (9, vb i2), (10, vi i1), (11, V.fn (Fn.func 18) [V.ptr 0 0] []), (14, V.bool false), (20, V.ref 1), (21, vi (↑(List.map (fun c => vb (↑c.toNat : Int)) s1).length : Int)), (22, vi i0), (23, V.bool true), (34, V.bool false), (39, V.bool true)], hp := [(0, Ob.var [V.str s0, vi i1, V.ref 203]), (1, Ob.row false 1 (List.map (fun c => vb (↑c.toNat : Int)) s1)), (2, Ob.dead), (199, Ob.row false 3 [V.agg [V.bool false, vu i3, V.str []]]), (203, Ob.row false 3 (x0 ++ [V.agg [V.bool false, vu i3, V.str []]]))], nx := 247 })] (aI c0 (aI c1 (aI c2 (aI c3 trivial)))) (by kernel_rfl)
theorem P6_4 (i0 i1 i2 : Int) (s0 s1 s2 : List UInt8) (x0 : List V) (k : Nat)
    (c0 : cP ((k + 8)) 17 [V.str s1, V.str [110, 116]] = some (V.str s2))
    (c1 : (!decide (s2 = [])) = false)
    (c2 : GrdW (s1.length ≤ maxLen' ∧ (1 : Nat) = (1 : Nat)) (V.ref (48 : Nat)) [((48 : Nat), Ob.row false (1 : Nat) (List.map (fun c => vb (↑c.toNat : Int)) s1))])
    (c3 : LoopsN Tryd.prog Tryd.cfg (k + 8) 0 Tryd.f6 (Tryd.cfg.fc 6) 0 [0, 1, 4, 5, 6, 7, 14, 20, 21, 22] (k + 8) { tm := [(0, V.str s0), (1, V.str s1), (4, V.sl (some true) true 0 []), (5, vi 0), (6, vi 0), (7, V.ptr 0 0), (14, V.bool false), (20, V.ref 1), (21, vi (↑(List.map (fun c => vb (↑c.toNat : Int)) s1).length : Int)), (22, vi 0)], hp := [(0, Ob.var [V.str s0, vi 0, V.ref 2]), (1, Ob.row false 1 (List.map (fun c => vb (↑c.toNat : Int)) s1)), (2, Ob.row false 3 [])], nx := 3 } (Exit.ret, { tm := [(0, V.str s0), (1, V.str s1), (4, V.sl (some true) true 0 []), (5, vi i1), (6, vi 10), (7, V.ptr 0 0), (9, vb i2), (10, vi i1), (11, V.fn (Fn.func 19) [V.ptr 0 0] []), (14, V.bool false), (20, V.ref 1), (21, vi (↑(List.map (fun c => vb (↑c.toNat : Int)) s1).length : Int)), (22, vi i0), (23, V.bool true), (34, V.bool true), (39, V.bool true)], hp := [(0, Ob.var [V.str s0, vi (IntKind.i64.wrap (i1 + 2)), V.ref 447]), (1, Ob.row false 1 (List.map (fun c => vb (↑c.toNat : Int)) s1)), (2, Ob.dead), (443, Ob.row false 3 [V.agg [V.bool true, vu 0, V.str []]]), (447, Ob.row false 3 (x0 ++ [V.agg [V.bool true, vu 0, V.str []]]))], nx := 491 })) :
    cP ((k + 9)) 6 [V.str s0, V.str s1] = some (V.tup [V.sl (some true) true 0 [], vi i1, vi 10]) :=
  byF (k := k) (d := 9) [Hn.call 13 (V.str s2), Hn.br 14 false, Hn.op 20 (V.ref 48) [(48, Ob.row false 1 (List.map (fun c => vb (↑c.toNat : Int)) s1))], Hn.loop (Exit.ret, { tm := [(0, V.str s0), (1, V.str s1), (4, V.sl (some true) true 0 []), (5, vi i1), (6, vi 10), (7, V.ptr 0 0), (9, vb i2), (10, vi i1), (11, V.fn (Fn.func 19) [V.ptr 0 0] []), (14, V.bool false), (20, V.ref 1), (21, vi (↑(List.map (fun c => vb (↑c.toNat : Int)) s1).length : Int)), (22, vi i0), (23, V.bool true), (34, V.bool true), (39, V.bool true)], hp := [(0, Ob.var [V.str s0, vi (IntKind.i64.wrap (i1 + 2)), V.ref 447]), (1, Ob.row false 1 (List.map (fun c => vb (↑c.toNat : Int)) s1)), (2, Ob.dead), (443, Ob.row false 3 [V.agg [V.bool true, vu 0, V.str []]]), (447, Ob.row false 3 (x0 ++ [V.agg [V.bool true, vu 0, V.str []]]))], nx := 491 })] (aI c0 (aI c1 (aI c2 (aI c3 trivial)))) (by kernel_rfl)
theorem P6_5 (i0 i1 i2 : Int) (s0 s1 s2 : List UInt8) (x0 : List V) (k : Nat)
    (c0 : cP ((k + 8)) 17 [V.str s1, V.str [110, 116]] = some (V.str s2))
    (c1 : (!decide (s2 = [])) = false)
    (c2 : GrdW (s1.length ≤ maxLen' ∧ (1 : Nat) = (1 : Nat)) (V.ref (48 : Nat)) [((48 : Nat), Ob.row false (1 : Nat) (List.map (fun c => vb (↑c.toNat : Int)) s1))])
    (c3 : LoopsN Tryd.prog Tryd.cfg (k + 8) 0 Tryd.f6 (Tryd.cfg.fc 6) 0 [0, 1, 4, 5, 6, 7, 14, 20, 21, 22] (k + 8) { tm := [(0, V.str s0), (1, V.str s1), (4, V.sl (some true) true 0 []), (5, vi 0), (6, vi 0), (7, V.ptr 0 0), (14, V.bool false), (20, V.ref 1), (21, vi (↑(List.map (fun c => vb (↑c.toNat : Int)) s1).length : Int)), (22, vi 0)], hp := [(0, Ob.var [V.str s0, vi 0, V.ref 2]), (1, Ob.row false 1 (List.map (fun c => vb (↑c.toNat : Int)) s1)), (2, Ob.row false 3 [])], nx := 3 } (Exit.ret, { tm := [(0, V.str s0), (1, V.str s1), (4, V.sl (some true) true 0 []), (5, vi i1), (6, vi 10), (7, V.ptr 0 0), (9, vb i2), (10, vi i1), (11, V.fn (Fn.func 19) [V.ptr 0 0] []), (14, V.bool false), (20, V.ref 1), (21, vi (↑(List.map (fun c => vb (↑c.toNat : Int)) s1).length : Int)), (22, vi i0), (23, V.bool true), (34, V.bool true), (39, V.bool true)], hp := [(0, Ob.var [V.str s0, vi (IntKind.i64.wrap (i1 + 2)), V.ref 2]), (1, Ob.row false 1 (List.map (fun c => vb (↑c.toNat : Int)) s1)), (2, Ob.row false 3 x0)], nx := 335 })) :
    cP ((k + 9)) 6 [V.str s0, V.str s1] = some (V.tup [V.sl (some true) true 0 [], vi i1, vi 10]) :=
  byF (k := k) (d := 9) [Hn.call 13 (V.str s2), Hn.br 14 false, Hn.op 20 (V.ref 48) [(48, Ob.row false 1 (List.map (fun c => vb (↑c.toNat : Int)) s1))], Hn.loop (Exit.ret, { tm := [(0, V.str s0), (1, V.str s1), (4, V.sl (some true) true 0 []), (5, vi i1), (6, vi 10), (7, V.ptr 0 0), (9, vb i2), (10, vi i1), (11, V.fn (Fn.func 19) [V.ptr 0 0] []), (14, V.bool false), (20, V.ref 1), (21, vi (↑(List.map (fun c => vb (↑c.toNat : Int)) s1).length : Int)), (22, vi i0), (23, V.bool true), (34, V.bool true), (39, V.bool true)], hp := [(0, Ob.var [V.str s0, vi (IntKind.i64.wrap (i1 + 2)), V.ref 2]), (1, Ob.row false 1 (List.map (fun c => vb (↑c.toNat : Int)) s1)), (2, Ob.row false 3 x0)], nx := 335 })] (aI c0 (aI c1 (aI c2 (aI c3 trivial)))) (by kernel_rfl)
theorem P6_6 (i0 i1 i2 : Int) (s0 s1 s2 : List UInt8) (x0 : List V) (k : Nat)
    (c0 : cP ((k + 8)) 17 [V.str s1, V.str [110, 116]] = some (V.str s2))
    (c1 : (!decide (s2 = [])) = false)
    (c2 : GrdW (s1.length ≤ maxLen' ∧ (1 : Nat) = (1 : Nat)) (V.ref (48 : Nat)) [((48 : Nat), Ob.row false (1 : Nat) (List.map (fun c => vb (↑c.toNat : Int)) s1))])
    (c3 : LoopsN Tryd.prog Tryd.cfg (k + 8) 0 Tryd.f6 (Tryd.cfg.fc 6) 0 [0, 1, 4, 5, 6, 7, 14, 20, 21, 22] (k + 8) { tm := [(0, V.str s0), (1, V.str s1), (4, V.sl (some true) true 0 []), (5, vi 0), (6, vi 0), (7, V.ptr 0 0), (14, V.bool false), (20, V.ref 1), (21, vi (↑(List.map (fun c => vb (↑c.toNat : Int)) s1).length : Int)), (22, vi 0)], hp := [(0, Ob.var [V.str s0, vi 0, V.ref 2]), (1, Ob.row false 1 (List.map (fun c => vb (↑c.toNat : Int)) s1)), (2, Ob.row false 3 [])], nx := 3 } (Exit.ret, { tm := [(0, V.str s0), (1, V.str s1), (4, V.sl (some true) true 0 []), (5, vi i1), (6, vi 10), (7, V.ptr 0 0), (9, vb i2), (10, vi i1), (11, V.fn (Fn.func 19) [V.ptr 0 0] []), (14, V.bool false), (20, V.ref 1), (21, vi (↑(List.map (fun c => vb (↑c.toNat : Int)) s1).length : Int)), (22, vi i0), (23, V.bool true), (34, V.bool true), (39, V.bool true)], hp := [(0, Ob.var [V.str s0, vi i1, V.ref 2]), (1, Ob.row false 1 (List.map (fun c => vb (↑c.toNat : Int)) s1)), (2, Ob.row false 3 x0)], nx := 239 })) :
    cP ((k + 9)) 6 [V.str s0, V.str s1] = some (V.tup [V.sl (some true) true 0 [], vi i1, vi 10]) :=
  byF (k := k) (d := 9) [Hn.call 13 (V.str s2), Hn.br 14 false, Hn.op 20 (V.ref 48) [(48, Ob.row false 1 (List.map (fun c => vb (↑c.toNat : Int)) s1))], Hn.loop (Exit.ret, { tm := [(0, V.str s0), (1, V.str s1), (4, V.sl (some true) true 0 []), (5, vi i1), (6, vi 10), (7, V.ptr 0 0), (9, vb i2), (10, vi i1), (11, V.fn (Fn.func 19) [V.ptr 0 0] []), (14, V.bool false), (20, V.ref 1), (21, vi (↑(List.map (fun c => vb (↑c.toNat : Int)) s1).length : Int)), (22, vi i0), (23, V.bool true), (34, V.bool true), (39, V.bool true)], hp := [(0, Ob.var [V.str s0, vi i1, V.ref 2]), (1, Ob.row false 1 (List.map (fun c => vb (↑c.toNat : Int)) s1)), (2, Ob.row false 3 x0)], nx := 239 })] (aI c0 (aI c1 (aI c2 (aI c3 trivial)))) (by kernel_rfl)
def F6 (k : Nat) (s0 s1 : List UInt8) : Option (Option Bool × Bool × Nat × List V × Int × Int) :=
  ((F17 (k + 7) (s1) ([110, 116])).bind fun s2 => (bif !decide (s2 = []) then (some ((some true), (true), (0), ([]), (0), (1))) else (guardP (s1.length ≤ maxLen') ((L6_0 k s0 s1 (k + 8) (0) (0) ([])).bind fun
    | L6_0_R.e0 i0 i1 i2 x0 => (some ((some true), (true), (0), ([]), (i1), (10)))
    | L6_0_R.e1 i0 i1 i2 x0 => (some ((some true), (true), (0), ([]), (i1), (10)))
    | L6_0_R.e2 i0 i1 i2 x0 => (some ((some true), (true), (0), ([]), (i1), (10)))
    | L6_0_R.e3 i0 i1 i2 i3 x0 => (some ((some true), (true), (0), ([]), (i1), (10)))
    | L6_0_R.e4 i0 i1 x0 => (bif decide (i1 < (↑s0.length : Int)) then (some ((some true), (true), (0), ([]), (i1), (10))) else (some ((none), (false), (3), (x0), (0), (0))))))))
theorem F6_ok {s0 s1 : List UInt8} {k : Nat} {r : Option Bool × Bool × Nat × List V × Int × Int} (h : F6 k s0 s1 = some r) :
    cP ((k + 9)) 6 [V.str s0, V.str s1] = some (V.tup [V.sl r.1 r.2.1 r.2.2.1 r.2.2.2.1, vi r.2.2.2.2.1, vi r.2.2.2.2.2]) := by
  unfold F6 at h
  obtain ⟨s2, e0, h⟩ := bE h
  rcases cond_elim h with ⟨e1, h⟩ | ⟨e1, h⟩
  ·
    have h := Option.some.inj h; subst h; exact P6_0 s0 s1 s2 k (F17_ok e0) e1
  ·
    obtain ⟨e2, h⟩ := guardP_some.1 h
    obtain ⟨ee, e3, h⟩ := bE h
    cases ee with
    | e0 i0 i1 i2 x0 =>
      have h := Option.some.inj h; subst h; exact P6_6 i0 i1 i2 s0 s1 s2 x0 k (F17_ok e0) e1 (GrdW.mk ⟨e2, rfl⟩) (L6_0_ok e3)
    | e1 i0 i1 i2 x0 =>
      have h := Option.some.inj h; subst h; exact P6_5 i0 i1 i2 s0 s1 s2 x0 k (F17_ok e0) e1 (GrdW.mk ⟨e2, rfl⟩) (L6_0_ok e3)
    | e2 i0 i1 i2 x0 =>
      have h := Option.some.inj h; subst h; exact P6_4 i0 i1 i2 s0 s1 s2 x0 k (F17_ok e0) e1 (GrdW.mk ⟨e2, rfl⟩) (L6_0_ok e3)
    | e3 i0 i1 i2 i3 x0 =>
      have h := Option.some.inj h; subst h; exact P6_3 i0 i1 i2 i3 s0 s1 s2 x0 k (F17_ok e0) e1 (GrdW.mk ⟨e2, rfl⟩) (L6_0_ok e3)
    | e4 i0 i1 x0 =>
      rcases cond_elim h with ⟨e4, h⟩ | ⟨e4, h⟩
      ·
        have h := Option.some.inj h; subst h; exact P6_1 i0 i1 s0 s1 s2 x0 k (F17_ok e0) e1 (GrdW.mk ⟨e2, rfl⟩) (L6_0_ok e3) e4
      ·
        have h := Option.some.inj h; subst h; exact P6_2 i0 i1 s0 s1 s2 x0 k (F17_ok e0) e1 (GrdW.mk ⟨e2, rfl⟩) (L6_0_ok e3) e4
end Go.Proofs
