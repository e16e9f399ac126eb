/-
  What functions of ghash's sums and their reference answer, each checked against the program.
-/
import Derived.Test.YtegmincienhapaaGhB
set_option linter.unusedVariables false
set_option maxHeartbeats 0
set_option maxRecDepth 100000
namespace Go.Proofs
open Go Go.Sym

def F41 (k : Nat) (s0 : List UInt8) (i0 : Int) : Option (List UInt8) :=
  (guardP (0 ≤ i0 ∧ s0.length * i0.toNat ≤ maxBld ∧ i0 ≤ (maxBld : Int)) (some (repeatN s0 i0.toNat)))
theorem F41_ok {s0 : List UInt8} {i0 : Int} {k : Nat} {r : List UInt8} (h : F41 k s0 i0 = some r) :
    cP ((k + 1)) 41 [V.str s0, vi i0] = some (V.str r) := by
  unfold F41 at h
  obtain ⟨e0, h⟩ := guardP_some.1 h
  have h := Option.some.inj h; subst h
  exact callP_repeat (by kernel_rfl) (by kernel_rfl) e0
theorem L29_0_b0 (s2 s3 : List UInt8) (x0 : List V) (k : Nat)
    (c0 : (!decide (s2 = [])) = true)
    (c1 : SlcP false 0 (V.str s2) none (some (vi (if 16 < (↑s2.length : Int) then 16 else (↑s2.length : Int)))) none (V.str (List.take (if 16 < (↑s2.length : Int) then 16 else (↑s2.length : Int)).toNat s2)))
    (c2 : cP ((k + 11)) 41 [V.str [0], vi (IntKind.i64.wrap (16 - (↑(List.take (if 16 < (↑s2.length : Int) then 16 else (↑s2.length : Int)).toNat s2).length : Int)))] = some (V.str s3))
    (c3 : GrdP ((List.take (if (16 : Int) < (↑s2.length : Int) then (16 : Int) else (↑s2.length : Int)).toNat s2).length + s3.length ≤ maxText) (V.str (List.take (if (16 : Int) < (↑s2.length : Int) then (16 : Int) else (↑s2.length : Int)).toNat s2 ++ s3)))
    (c4 : GrdW ((1 : Nat) = (1 : Nat) ∧ (0 : Nat) < (1 : Nat) ∧ (16 : Nat) ≤ (64 : Nat) ∧ x0.length + (1 : Nat) ≤ maxLen') (V.ref (112 : Nat)) [((35 : Nat), Ob.dead), ((112 : Nat), Ob.row false (1 : Nat) (x0 ++ [V.str (List.take (if (16 : Int) < (↑s2.length : Int) then (16 : Int) else (↑s2.length : Int)).toNat s2 ++ s3)]))])
    (c5 : SlcP false 0 (V.str s2) (some (vi (if 16 < (↑s2.length : Int) then 16 else (↑s2.length : Int)))) none none (V.str (List.drop (if 16 < (↑s2.length : Int) then 16 else (↑s2.length : Int)).toNat s2))) :
    evalCode Try.prog Try.cfg (evalFn Try.prog Try.cfg (k + 11)) 35 (Try.cfg.fc 83) (k + 11) (loopBody Try.f83 0) { tm := [(0, V.yld 34), (1, V.ptr 8 0)], hp := [(8, Ob.var [V.str s2]), (32, Ob.var [V.ref 35]), (34, Ob.loop LS.ready (Try.cfg.fc 82) (rangeCode Try.f82 0) [(0, V.sl (some true) true 0 []), (1, V.fn (Fn.func 83) [] [V.ptr 8 0]), (2, V.ptr 32 0), (4, V.sl (some true) true 0 []), (6, V.fn (Fn.func 83) [] [V.ptr 8 0])]), (35, Ob.row false 1 x0)], nx := 36 } = some (Exit.normal, { tm := [(0, V.yld 34), (1, V.ptr 8 0), (3, V.str (List.take (if 16 < (↑s2.length : Int) then 16 else (↑s2.length : Int)).toNat s2)), (5, V.bool true), (24, V.bool false)], hp := [(8, Ob.var [V.str (List.drop (if 16 < (↑s2.length : Int) then 16 else (↑s2.length : Int)).toNat s2)]), (32, Ob.var [V.ref 112]), (34, Ob.loop LS.ready (Try.cfg.fc 82) (rangeCode Try.f82 0) [(0, V.sl (some true) true 0 []), (1, V.fn (Fn.func 83) [] [V.ptr 8 0]), (2, V.ptr 32 0), (4, V.sl (some true) true 0 []), (6, V.fn (Fn.func 83) [] [V.ptr 8 0])]), (35, Ob.dead), (108, Ob.row false 1 [V.str (List.take (if 16 < (↑s2.length : Int) then 16 else (↑s2.length : Int)).toNat s2 ++ s3)]), (112, Ob.row false 1 (x0 ++ [V.str (List.take (if 16 < (↑s2.length : Int) then 16 else (↑s2.length : Int)).toNat s2 ++ s3)]))], nx := 148 }) :=
  byL (k := k) (d := 11) [Hn.br 5 true, Hn.op 15 (V.str (List.take (if 16 < (↑s2.length : Int) then 16 else (↑s2.length : Int)).toNat s2)) [], Hn.call 21 (V.str s3), Hn.op 22 (V.str (List.take (if 16 < (↑s2.length : Int) then 16 else (↑s2.length : Int)).toNat s2 ++ s3)) [], Hn.enter, Hn.op 11 (V.ref 112) [(35, Ob.dead), (112, Ob.row false 1 (x0 ++ [V.str (List.take (if 16 < (↑s2.length : Int) then 16 else (↑s2.length : Int)).toNat s2 ++ s3)]))], Hn.op 10 (V.str (List.drop (if 16 < (↑s2.length : Int) then 16 else (↑s2.length : Int)).toNat s2)) []] (aI c0 (aI c1 (aI c2 (aI c3 (aI c4 (aI c5 trivial)))))) (by kernel_rfl)
theorem L29_0_b0h (s2 s3 : List UInt8) (x0 : List V) : head 35 [0, 1] (Try.cfg.fc 83).acc { tm := [(0, V.yld 34), (1, V.ptr 8 0), (3, V.str (List.take (if 16 < (↑s2.length : Int) then 16 else (↑s2.length : Int)).toNat s2)), (5, V.bool true), (24, V.bool false)], hp := [(8, Ob.var [V.str (List.drop (if 16 < (↑s2.length : Int) then 16 else (↑s2.length : Int)).toNat s2)]), (32, Ob.var [V.ref 112]), (34, Ob.loop LS.ready (Try.cfg.fc 82) (rangeCode Try.f82 0) [(0, V.sl (some true) true 0 []), (1, V.fn (Fn.func 83) [] [V.ptr 8 0]), (2, V.ptr 32 0), (4, V.sl (some true) true 0 []), (6, V.fn (Fn.func 83) [] [V.ptr 8 0])]), (35, Ob.dead), (108, Ob.row false 1 [V.str (List.take (if 16 < (↑s2.length : Int) then 16 else (↑s2.length : Int)).toNat s2 ++ s3)]), (112, Ob.row false 1 (x0 ++ [V.str (List.take (if 16 < (↑s2.length : Int) then 16 else (↑s2.length : Int)).toNat s2 ++ s3)]))], nx := 148 } = { tm := [(0, V.yld 34), (1, V.ptr 8 0)], hp := [(8, Ob.var [V.str (List.drop (if 16 < (↑s2.length : Int) then 16 else (↑s2.length : Int)).toNat s2)]), (32, Ob.var [V.ref 35]), (34, Ob.loop LS.ready (Try.cfg.fc 82) (rangeCode Try.f82 0) [(0, V.sl (some true) true 0 []), (1, V.fn (Fn.func 83) [] [V.ptr 8 0]), (2, V.ptr 32 0), (4, V.sl (some true) true 0 []), (6, V.fn (Fn.func 83) [] [V.ptr 8 0])]), (35, Ob.row false 1 (x0 ++ [V.str (List.take (if 16 < (↑s2.length : Int) then 16 else (↑s2.length : Int)).toNat s2 ++ s3)]))], nx := 36 } := by kernel_rfl
theorem L29_0_b1 (s2 : List UInt8) (x0 : List V) (k : Nat)
    (c0 : (!decide (s2 = [])) = false) :
    evalCode Try.prog Try.cfg (evalFn Try.prog Try.cfg (k + 11)) 35 (Try.cfg.fc 83) (k + 11) (loopBody Try.f83 0) { tm := [(0, V.yld 34), (1, V.ptr 8 0)], hp := [(8, Ob.var [V.str s2]), (32, Ob.var [V.ref 35]), (34, Ob.loop LS.ready (Try.cfg.fc 82) (rangeCode Try.f82 0) [(0, V.sl (some true) true 0 []), (1, V.fn (Fn.func 83) [] [V.ptr 8 0]), (2, V.ptr 32 0), (4, V.sl (some true) true 0 []), (6, V.fn (Fn.func 83) [] [V.ptr 8 0])]), (35, Ob.row false 1 x0)], nx := 36 } = some (Exit.exit 0, { tm := [(0, V.yld 34), (1, V.ptr 8 0), (5, V.bool false)], hp := [(8, Ob.var [V.str s2]), (32, Ob.var [V.ref 35]), (34, Ob.loop LS.ready (Try.cfg.fc 82) (rangeCode Try.f82 0) [(0, V.sl (some true) true 0 []), (1, V.fn (Fn.func 83) [] [V.ptr 8 0]), (2, V.ptr 32 0), (4, V.sl (some true) true 0 []), (6, V.fn (Fn.func 83) [] [V.ptr 8 0])]), (35, Ob.row false 1 x0)], nx := 44 }) :=
  byL (k := k) (d := 11) [Hn.br 5 false] (aI c0 trivial) (by kernel_rfl)
inductive L29_0_R where
  | e0 (s2 : List UInt8) (x0 : List V)
noncomputable def L29_0_end : L29_0_R → Exit × St
  | .e0 s2 x0 => (Exit.exit 0, { tm := [(0, V.yld 34), (1, V.ptr 8 0), (5, V.bool false)], hp := [(8, Ob.var [V.str s2]), (32, Ob.var [V.ref 35]), (34, Ob.loop LS.ready (Try.cfg.fc 82) (rangeCode Try.f82 0) [(0, V.sl (some true) true 0 []), (1, V.fn (Fn.func 83) [] [V.ptr 8 0]), (2, V.ptr 32 0), (4, V.sl (some true) true 0 []), (6, V.fn (Fn.func 83) [] [V.ptr 8 0])]), (35, Ob.row false 1 x0)], nx := 44 })
def L29_0 (k : Nat) : Nat → List UInt8 → List V → Option L29_0_R
  | 0, _, _ => none
  | f + 1, s2, x0 => (bif !decide (s2 = []) then (guardP (((0 : Int) ≤ if (16 : Int) < (↑s2.length : Int) then (16 : Int) else (↑s2.length : Int)) ∧ (if (16 : Int) < (↑s2.length : Int) then (16 : Int) else (↑s2.length : Int)) ≤ (↑s2.length : Int)) ((F41 (k + 10) ([0]) (IntKind.i64.wrap (16 - (↑(List.take (if 16 < (↑s2.length : Int) then 16 else (↑s2.length : Int)).toNat s2).length : Int)))).bind fun s3 => (guardP ((List.take (if (16 : Int) < (↑s2.length : Int) then (16 : Int) else (↑s2.length : Int)).toNat s2).length + s3.length ≤ maxText) (guardP (x0.length + (1 : Nat) ≤ maxLen') (L29_0 k f (List.drop (if 16 < (↑s2.length : Int) then 16 else (↑s2.length : Int)).toNat s2) (x0 ++ [V.str (List.take (if 16 < (↑s2.length : Int) then 16 else (↑s2.length : Int)).toNat s2 ++ s3)])))))) else (some (L29_0_R.e0 s2 x0)))
theorem L29_0_ok {k : Nat} : ∀ {f : Nat} {s2 : List UInt8} {x0 : List V} {r : L29_0_R}, L29_0 k f s2 x0 = some r →
    LoopsN Try.prog Try.cfg (k + 11) 35 Try.f83 (Try.cfg.fc 83) 0 [0, 1] f { tm := [(0, V.yld 34), (1, V.ptr 8 0)], hp := [(8, Ob.var [V.str s2]), (32, Ob.var [V.ref 35]), (34, Ob.loop LS.ready (Try.cfg.fc 82) (rangeCode Try.f82 0) [(0, V.sl (some true) true 0 []), (1, V.fn (Fn.func 83) [] [V.ptr 8 0]), (2, V.ptr 32 0), (4, V.sl (some true) true 0 []), (6, V.fn (Fn.func 83) [] [V.ptr 8 0])]), (35, Ob.row false 1 x0)], nx := 36 } (L29_0_end r) := by
  intro f
  induction f with
  | zero => intro s2 x0 r h; cases h
  | succ f ih =>
    intro s2 x0 r h
    rw [L29_0] at h
    rcases cond_elim h with ⟨e0, h⟩ | ⟨e0, h⟩
    ·
      obtain ⟨e1, h⟩ := guardP_some.1 h
      obtain ⟨s3, e2, h⟩ := bE h
      obtain ⟨e3, h⟩ := guardP_some.1 h
      obtain ⟨e4, h⟩ := guardP_some.1 h
      exact LoopsN.next (L29_0_b0 s2 s3 x0 k e0 (SlcP.strUptoS e1) (F41_ok e2) (GrdP.mk e3) (GrdW.mk ⟨rfl, by decide, by decide, e4⟩) (SlcP.strFromS e1)) (L29_0_b0h s2 s3 x0) (ih h)
    ·
      cases h; exact LoopsN.done (L29_0_b1 s2 x0 k e0) (fun h => by cases h)
theorem L29_1_b0 (s0 s1 s3 s4 : List UInt8) (x1 : List V) (k : Nat)
    (c0 : (!decide (s3 = [])) = true)
    (c1 : SlcP false 0 (V.str s3) none (some (vi (if 16 < (↑s3.length : Int) then 16 else (↑s3.length : Int)))) none (V.str (List.take (if 16 < (↑s3.length : Int) then 16 else (↑s3.length : Int)).toNat s3)))
    (c2 : cP ((k + 13)) 41 [V.str [0], vi (IntKind.i64.wrap (16 - (↑(List.take (if 16 < (↑s3.length : Int) then 16 else (↑s3.length : Int)).toNat s3).length : Int)))] = some (V.str s4))
    (c3 : GrdP ((List.take (if (16 : Int) < (↑s3.length : Int) then (16 : Int) else (↑s3.length : Int)).toNat s3).length + s4.length ≤ maxText) (V.str (List.take (if (16 : Int) < (↑s3.length : Int) then (16 : Int) else (↑s3.length : Int)).toNat s3 ++ s4)))
    (c4 : GrdW ((1 : Nat) = (1 : Nat) ∧ (0 : Nat) < (1 : Nat) ∧ (16 : Nat) ≤ (64 : Nat) ∧ x1.length + (1 : Nat) ≤ maxLen') (V.ref (81 : Nat)) [((4 : Nat), Ob.dead), ((81 : Nat), Ob.row false (1 : Nat) (x1 ++ [V.str (List.take (if (16 : Int) < (↑s3.length : Int) then (16 : Int) else (↑s3.length : Int)).toNat s3 ++ s4)]))])
    (c5 : SlcP false 0 (V.str s3) (some (vi (if 16 < (↑s3.length : Int) then 16 else (↑s3.length : Int)))) none none (V.str (List.drop (if 16 < (↑s3.length : Int) then 16 else (↑s3.length : Int)).toNat s3))) :
    evalCode Try.prog Try.cfg (evalFn Try.prog Try.cfg (k + 13)) 4 (Try.cfg.fc 83) (k + 13) (loopBody Try.f83 0) { tm := [(0, V.yld 3), (1, V.ptr 1 0)], hp := [(0, Ob.var [V.ref 4]), (1, Ob.var [V.str s3]), (3, Ob.loop LS.ready (Try.cfg.fc 29) (rangeCode Try.f29 0) [(0, V.str s0), (1, V.str s1), (4, V.sl (some true) true 0 []), (5, V.ptr 0 0), (11, V.fn (Fn.func 83) [] [V.ptr 1 0])]), (4, Ob.row false 1 x1)], nx := 5 } = some (Exit.normal, { tm := [(0, V.yld 3), (1, V.ptr 1 0), (3, V.str (List.take (if 16 < (↑s3.length : Int) then 16 else (↑s3.length : Int)).toNat s3)), (5, V.bool true), (24, V.bool false)], hp := [(0, Ob.var [V.ref 81]), (1, Ob.var [V.str (List.drop (if 16 < (↑s3.length : Int) then 16 else (↑s3.length : Int)).toNat s3)]), (3, Ob.loop LS.ready (Try.cfg.fc 29) (rangeCode Try.f29 0) [(0, V.str s0), (1, V.str s1), (4, V.sl (some true) true 0 []), (5, V.ptr 0 0), (11, V.fn (Fn.func 83) [] [V.ptr 1 0])]), (4, Ob.dead), (77, Ob.row false 1 [V.str (List.take (if 16 < (↑s3.length : Int) then 16 else (↑s3.length : Int)).toNat s3 ++ s4)]), (81, Ob.row false 1 (x1 ++ [V.str (List.take (if 16 < (↑s3.length : Int) then 16 else (↑s3.length : Int)).toNat s3 ++ s4)]))], nx := 117 }) :=
  byL (k := k) (d := 13) [Hn.br 5 true, Hn.op 15 (V.str (List.take (if 16 < (↑s3.length : Int) then 16 else (↑s3.length : Int)).toNat s3)) [], Hn.call 21 (V.str s4), Hn.op 22 (V.str (List.take (if 16 < (↑s3.length : Int) then 16 else (↑s3.length : Int)).toNat s3 ++ s4)) [], Hn.enter, Hn.op 16 (V.ref 81) [(4, Ob.dead), (81, Ob.row false 1 (x1 ++ [V.str (List.take (if 16 < (↑s3.length : Int) then 16 else (↑s3.length : Int)).toNat s3 ++ s4)]))], Hn.op 10 (V.str (List.drop (if 16 < (↑s3.length : Int) then 16 else (↑s3.length : Int)).toNat s3)) []] (aI c0 (aI c1 (aI c2 (aI c3 (aI c4 (aI c5 trivial)))))) (by kernel_rfl)
theorem L29_1_b0h (s0 s1 s3 s4 : List UInt8) (x1 : List V) : head 4 [0, 1] (Try.cfg.fc 83).acc { tm := [(0, V.yld 3), (1, V.ptr 1 0), (3, V.str (List.take (if 16 < (↑s3.length : Int) then 16 else (↑s3.length : Int)).toNat s3)), (5, V.bool true), (24, V.bool false)], hp := [(0, Ob.var [V.ref 81]), (1, Ob.var [V.str (List.drop (if 16 < (↑s3.length : Int) then 16 else (↑s3.length : Int)).toNat s3)]), (3, Ob.loop LS.ready (Try.cfg.fc 29) (rangeCode Try.f29 0) [(0, V.str s0), (1, V.str s1), (4, V.sl (some true) true 0 []), (5, V.ptr 0 0), (11, V.fn (Fn.func 83) [] [V.ptr 1 0])]), (4, Ob.dead), (77, Ob.row false 1 [V.str (List.take (if 16 < (↑s3.length : Int) then 16 else (↑s3.length : Int)).toNat s3 ++ s4)]), (81, Ob.row false 1 (x1 ++ [V.str (List.take (if 16 < (↑s3.length : Int) then 16 else (↑s3.length : Int)).toNat s3 ++ s4)]))], nx := 117 } = { tm := [(0, V.yld 3), (1, V.ptr 1 0)], hp := [(0, Ob.var [V.ref 4]), (1, Ob.var [V.str (List.drop (if 16 < (↑s3.length : Int) then 16 else (↑s3.length : Int)).toNat s3)]), (3, Ob.loop LS.ready (Try.cfg.fc 29) (rangeCode Try.f29 0) [(0, V.str s0), (1, V.str s1), (4, V.sl (some true) true 0 []), (5, V.ptr 0 0), (11, V.fn (Fn.func 83) [] [V.ptr 1 0])]), (4, Ob.row false 1 (x1 ++ [V.str (List.take (if 16 < (↑s3.length : Int) then 16 else (↑s3.length : Int)).toNat s3 ++ s4)]))], nx := 5 } := by kernel_rfl
theorem L29_1_b1 (s0 s1 s3 : List UInt8) (x1 : List V) (k : Nat)
    (c0 : (!decide (s3 = [])) = false) :
    evalCode Try.prog Try.cfg (evalFn Try.prog Try.cfg (k + 13)) 4 (Try.cfg.fc 83) (k + 13) (loopBody Try.f83 0) { tm := [(0, V.yld 3), (1, V.ptr 1 0)], hp := [(0, Ob.var [V.ref 4]), (1, Ob.var [V.str s3]), (3, Ob.loop LS.ready (Try.cfg.fc 29) (rangeCode Try.f29 0) [(0, V.str s0), (1, V.str s1), (4, V.sl (some true) true 0 []), (5, V.ptr 0 0), (11, V.fn (Fn.func 83) [] [V.ptr 1 0])]), (4, Ob.row false 1 x1)], nx := 5 } = some (Exit.exit 0, { tm := [(0, V.yld 3), (1, V.ptr 1 0), (5, V.bool false)], hp := [(0, Ob.var [V.ref 4]), (1, Ob.var [V.str s3]), (3, Ob.loop LS.ready (Try.cfg.fc 29) (rangeCode Try.f29 0) [(0, V.str s0), (1, V.str s1), (4, V.sl (some true) true 0 []), (5, V.ptr 0 0), (11, V.fn (Fn.func 83) [] [V.ptr 1 0])]), (4, Ob.row false 1 x1)], nx := 13 }) :=
  byL (k := k) (d := 13) [Hn.br 5 false] (aI c0 trivial) (by kernel_rfl)
inductive L29_1_R where
  | e0 (s3 : List UInt8) (x1 : List V)
noncomputable def L29_1_end (s0 : List UInt8) (s1 : List UInt8) : L29_1_R → Exit × St
  | .e0 s3 x1 => (Exit.exit 0, { tm := [(0, V.yld 3), (1, V.ptr 1 0), (5, V.bool false)], hp := [(0, Ob.var [V.ref 4]), (1, Ob.var [V.str s3]), (3, Ob.loop LS.ready (Try.cfg.fc 29) (rangeCode Try.f29 0) [(0, V.str s0), (1, V.str s1), (4, V.sl (some true) true 0 []), (5, V.ptr 0 0), (11, V.fn (Fn.func 83) [] [V.ptr 1 0])]), (4, Ob.row false 1 x1)], nx := 13 })
def L29_1 (k : Nat) (s0 s1 : List UInt8) : Nat → List UInt8 → List V → Option L29_1_R
  | 0, _, _ => none
  | f + 1, s3, x1 => (bif !decide (s3 = []) then (guardP (((0 : Int) ≤ if (16 : Int) < (↑s3.length : Int) then (16 : Int) else (↑s3.length : Int)) ∧ (if (16 : Int) < (↑s3.length : Int) then (16 : Int) else (↑s3.length : Int)) ≤ (↑s3.length : Int)) ((F41 (k + 12) ([0]) (IntKind.i64.wrap (16 - (↑(List.take (if 16 < (↑s3.length : Int) then 16 else (↑s3.length : Int)).toNat s3).length : Int)))).bind fun s4 => (guardP ((List.take (if (16 : Int) < (↑s3.length : Int) then (16 : Int) else (↑s3.length : Int)).toNat s3).length + s4.length ≤ maxText) (guardP (x1.length + (1 : Nat) ≤ maxLen') (L29_1 k s0 s1 f (List.drop (if 16 < (↑s3.length : Int) then 16 else (↑s3.length : Int)).toNat s3) (x1 ++ [V.str (List.take (if 16 < (↑s3.length : Int) then 16 else (↑s3.length : Int)).toNat s3 ++ s4)])))))) else (some (L29_1_R.e0 s3 x1)))
theorem L29_1_ok {s0 s1 : List UInt8} {k : Nat} : ∀ {f : Nat} {s3 : List UInt8} {x1 : List V} {r : L29_1_R}, L29_1 k s0 s1 f s3 x1 = some r →
    LoopsN Try.prog Try.cfg (k + 13) 4 Try.f83 (Try.cfg.fc 83) 0 [0, 1] f { tm := [(0, V.yld 3), (1, V.ptr 1 0)], hp := [(0, Ob.var [V.ref 4]), (1, Ob.var [V.str s3]), (3, Ob.loop LS.ready (Try.cfg.fc 29) (rangeCode Try.f29 0) [(0, V.str s0), (1, V.str s1), (4, V.sl (some true) true 0 []), (5, V.ptr 0 0), (11, V.fn (Fn.func 83) [] [V.ptr 1 0])]), (4, Ob.row false 1 x1)], nx := 5 } (L29_1_end s0 s1 r) := by
  intro f
  induction f with
  | zero => intro s3 x1 r h; cases h
  | succ f ih =>
    intro s3 x1 r h
    rw [L29_1] at h
    rcases cond_elim h with ⟨e0, h⟩ | ⟨e0, h⟩
    ·
      obtain ⟨e1, h⟩ := guardP_some.1 h
      obtain ⟨s4, e2, h⟩ := bE h
      obtain ⟨e3, h⟩ := guardP_some.1 h
      obtain ⟨e4, h⟩ := guardP_some.1 h
      exact LoopsN.next (L29_1_b0 s0 s1 s3 s4 x1 k e0 (SlcP.strUptoS e1) (F41_ok e2) (GrdP.mk e3) (GrdW.mk ⟨rfl, by decide, by decide, e4⟩) (SlcP.strFromS e1)) (L29_1_b0h s0 s1 s3 s4 x1) (ih h)
    ·
      cases h; exact LoopsN.done (L29_1_b1 s0 s1 s3 x1 k e0) (fun h => by cases h)
theorem P29_0 (s0 s1 s2 s3 s4 s5 : List UInt8) (x0 x1 : List V) (k : Nat)
    (c0 : LoopsN Try.prog Try.cfg (k + 11) 35 Try.f83 (Try.cfg.fc 83) 0 [0, 1] (k + 11) { tm := [(0, V.yld 34), (1, V.ptr 8 0)], hp := [(8, Ob.var [V.str s0]), (32, Ob.var [V.ref 35]), (34, Ob.loop LS.ready (Try.cfg.fc 82) (rangeCode Try.f82 0) [(0, V.sl (some true) true 0 []), (1, V.fn (Fn.func 83) [] [V.ptr 8 0]), (2, V.ptr 32 0), (4, V.sl (some true) true 0 []), (6, V.fn (Fn.func 83) [] [V.ptr 8 0])]), (35, Ob.row false 1 [])], nx := 36 } (Exit.exit 0, { tm := [(0, V.yld 34), (1, V.ptr 8 0), (5, V.bool false)], hp := [(8, Ob.var [V.str s2]), (32, Ob.var [V.ref 35]), (34, Ob.loop LS.ready (Try.cfg.fc 82) (rangeCode Try.f82 0) [(0, V.sl (some true) true 0 []), (1, V.fn (Fn.func 83) [] [V.ptr 8 0]), (2, V.ptr 32 0), (4, V.sl (some true) true 0 []), (6, V.fn (Fn.func 83) [] [V.ptr 8 0])]), (35, Ob.row false 1 x0)], nx := 44 }))
    (c1 : LoopsN Try.prog Try.cfg (k + 13) 4 Try.f83 (Try.cfg.fc 83) 0 [0, 1] (k + 13) { tm := [(0, V.yld 3), (1, V.ptr 1 0)], hp := [(0, Ob.var [V.ref 4]), (1, Ob.var [V.str s1]), (3, Ob.loop LS.ready (Try.cfg.fc 29) (rangeCode Try.f29 0) [(0, V.str s0), (1, V.str s1), (4, V.sl (some true) true 0 []), (5, V.ptr 0 0), (11, V.fn (Fn.func 83) [] [V.ptr 1 0])]), (4, Ob.row false 1 x0)], nx := 5 } (Exit.exit 0, { tm := [(0, V.yld 3), (1, V.ptr 1 0), (5, V.bool false)], hp := [(0, Ob.var [V.ref 4]), (1, Ob.var [V.str s3]), (3, Ob.loop LS.ready (Try.cfg.fc 29) (rangeCode Try.f29 0) [(0, V.str s0), (1, V.str s1), (4, V.sl (some true) true 0 []), (5, V.ptr 0 0), (11, V.fn (Fn.func 83) [] [V.ptr 1 0])]), (4, Ob.row false 1 x1)], nx := 13 }))
    (c2 : cP ((k + 14)) 54 [vu (IntKind.u64.wrap (IntKind.u64.wrap (↑s0.length : Int) * 8))] = some (V.str s4))
    (c3 : cP ((k + 14)) 54 [vu (IntKind.u64.wrap (IntKind.u64.wrap (↑s1.length : Int) * 8))] = some (V.str s5))
    (c4 : GrdP (s4.length + s5.length ≤ maxText) (V.str (s4 ++ s5)))
    (c5 : GrdW ((1 : Nat) = (1 : Nat) ∧ (0 : Nat) < (1 : Nat) ∧ (16 : Nat) ≤ (64 : Nat) ∧ x1.length + (1 : Nat) ≤ maxLen') (V.ref (65 : Nat)) [((4 : Nat), Ob.dead), ((65 : Nat), Ob.row false (1 : Nat) (x1 ++ [V.str (s4 ++ s5)]))]) :
    cP ((k + 15)) 29 [V.str s0, V.str s1] = some (V.sl none false 1 (x1 ++ [V.str (s4 ++ s5)])) :=
  byF (k := k) (d := 15) [Hn.enter, Hn.enter, Hn.enter, Hn.enter, Hn.loop (Exit.exit 0, { tm := [(0, V.yld 34), (1, V.ptr 8 0), (5, V.bool false)], hp := [(8, Ob.var [V.str s2]), (32, Ob.var [V.ref 35]), (34, Ob.loop LS.ready (Try.cfg.fc 82) (rangeCode Try.f82 0) [(0, V.sl (some true) true 0 []), (1, V.fn (Fn.func 83) [] [V.ptr 8 0]), (2, V.ptr 32 0), (4, V.sl (some true) true 0 []), (6, V.fn (Fn.func 83) [] [V.ptr 8 0])]), (35, Ob.row false 1 x0)], nx := 44 }), Hn.enter, Hn.enter, Hn.loop (Exit.exit 0, { tm := [(0, V.yld 3), (1, V.ptr 1 0), (5, V.bool false)], hp := [(0, Ob.var [V.ref 4]), (1, Ob.var [V.str s3]), (3, Ob.loop LS.ready (Try.cfg.fc 29) (rangeCode Try.f29 0) [(0, V.str s0), (1, V.str s1), (4, V.sl (some true) true 0 []), (5, V.ptr 0 0), (11, V.fn (Fn.func 83) [] [V.ptr 1 0])]), (4, Ob.row false 1 x1)], nx := 13 }), Hn.call 22 (V.str s4), Hn.call 27 (V.str s5), Hn.op 28 (V.str (s4 ++ s5)) [], Hn.op 30 (V.ref 65) [(4, Ob.dead), (65, Ob.row false 1 (x1 ++ [V.str (s4 ++ s5)]))]] (aI c0 (aI c1 (aI c2 (aI c3 (aI c4 (aI c5 trivial)))))) (by kernel_rfl)
def F29 (k : Nat) (s0 s1 : List UInt8) : Option (Option Bool × Bool × Nat × List V) :=
  ((L29_0 k (k + 11) (s0) ([])).bind fun
    | L29_0_R.e0 s2 x0 => ((L29_1 k s0 s1 (k + 13) (s1) (x0)).bind fun
    | L29_1_R.e0 s3 x1 => ((F54 (k + 2) (IntKind.u64.wrap (IntKind.u64.wrap (↑s0.length : Int) * 8))).bind fun s4 => ((F54 (k + 2) (IntKind.u64.wrap (IntKind.u64.wrap (↑s1.length : Int) * 8))).bind fun s5 => (guardP (s4.length + s5.length ≤ maxText) (guardP (x1.length + (1 : Nat) ≤ maxLen') (some ((none), (false), (1), (x1 ++ [V.str (s4 ++ s5)])))))))))
theorem F29_ok {s0 s1 : List UInt8} {k : Nat} {r : Option Bool × Bool × Nat × List V} (h : F29 k s0 s1 = some r) :
    cP ((k + 15)) 29 [V.str s0, V.str s1] = some (V.sl r.1 r.2.1 r.2.2.1 r.2.2.2) := by
  unfold F29 at h
  obtain ⟨ee, e0, h⟩ := bE h
  cases ee with
  | e0 s2 x0 =>
    obtain ⟨ee, e1, h⟩ := bE h
    cases ee with
    | e0 s3 x1 =>
      obtain ⟨s4, e2, h⟩ := bE h
      obtain ⟨s5, e3, h⟩ := bE h
      obtain ⟨e4, h⟩ := guardP_some.1 h
      obtain ⟨e5, h⟩ := guardP_some.1 h
      have h := Option.some.inj h; subst h; exact P29_0 s0 s1 s2 s3 s4 s5 x0 x1 k (L29_0_ok e0) (L29_1_ok e1) (F54_ok e2) (F54_ok e3) (GrdP.mk e4) (GrdW.mk ⟨rfl, by decide, by decide, e5⟩)
theorem L27_0_b0 (i0 i1 i2 i3 i4 i5 i6 i7 i8 : Int) (b0 : Bool) (s0 s1 s2 s3 : List UInt8) (x0 : List V) (o0 : Option Bool) (n0 k : Nat)
    (c0 : decide (i2 < (↑x0.length : Int)) = true)
    (c1 : IdxP x0 i2 n0 1 (V.str s3))
    (c2 : cP ((k + 17)) 46 [V.str s3] = some (V.agg [vu i5, vu i6]))
    (c3 : cP ((k + 17)) 47 [V.agg [vu (IntKind.u64.wrap (↑(BitVec.ofInt IntKind.u64.bits i3 ^^^ BitVec.ofInt IntKind.u64.bits i5).toNat : Int)), vu (IntKind.u64.wrap (↑(BitVec.ofInt IntKind.u64.bits i4 ^^^ BitVec.ofInt IntKind.u64.bits i6).toNat : Int))], V.agg [vu i0, vu i1]] = some (V.agg [vu i7, vu i8])) :
    evalCode Try.prog Try.cfg (evalFn Try.prog Try.cfg (k + 17)) 0 (Try.cfg.fc 27) (k + 17) (loopBody Try.f27 0) { tm := [(0, V.str s0), (1, V.str s1), (2, V.str s2), (6, V.str []), (7, vi 0), (8, V.ptr 0 0), (9, V.ptr 1 0), (15, V.bool false), (20, V.sl o0 b0 n0 x0), (21, vi (↑x0.length : Int)), (22, vi i2)], hp := [(0, Ob.var [vu i3, vu i4]), (1, Ob.var [vu i0, vu i1])], nx := 2 } = some (Exit.normal, { tm := [(0, V.str s0), (1, V.str s1), (2, V.str s2), (6, V.str []), (7, vi 0), (8, V.ptr 0 0), (9, V.ptr 1 0), (11, V.str s3), (12, V.ptr 26 0), (15, V.bool false), (20, V.sl o0 b0 n0 x0), (21, vi (↑x0.length : Int)), (22, vi (IntKind.i64.wrap (i2 + 1))), (23, V.bool true)], hp := [(0, Ob.var [vu i7, vu i8]), (1, Ob.var [vu i0, vu i1]), (26, Ob.var [vu i5, vu i6])], nx := 98 }) :=
  byL (k := k) (d := 17) [Hn.br 23 true, Hn.op 24 ((V.str s3).cpt 0) [], Hn.call 27 (V.agg [vu i5, vu i6]), Hn.call 40 (V.agg [vu i7, vu i8])] (aI c0 (aI c1 (aI c2 (aI c3 trivial)))) (by kernel_rfl)
theorem L27_0_b0h (i0 i1 i2 i5 i6 i7 i8 : Int) (b0 : Bool) (s0 s1 s2 s3 : List UInt8) (x0 : List V) (o0 : Option Bool) (n0 : Nat) : head 0 [0, 1, 2, 6, 7, 8, 9, 15, 20, 21, 22] (Try.cfg.fc 27).acc { tm := [(0, V.str s0), (1, V.str s1), (2, V.str s2), (6, V.str []), (7, vi 0), (8, V.ptr 0 0), (9, V.ptr 1 0), (11, V.str s3), (12, V.ptr 26 0), (15, V.bool false), (20, V.sl o0 b0 n0 x0), (21, vi (↑x0.length : Int)), (22, vi (IntKind.i64.wrap (i2 + 1))), (23, V.bool true)], hp := [(0, Ob.var [vu i7, vu i8]), (1, Ob.var [vu i0, vu i1]), (26, Ob.var [vu i5, vu i6])], nx := 98 } = { tm := [(0, V.str s0), (1, V.str s1), (2, V.str s2), (6, V.str []), (7, vi 0), (8, V.ptr 0 0), (9, V.ptr 1 0), (15, V.bool false), (20, V.sl o0 b0 n0 x0), (21, vi (↑x0.length : Int)), (22, vi (IntKind.i64.wrap (i2 + 1)))], hp := [(0, Ob.var [vu i7, vu i8]), (1, Ob.var [vu i0, vu i1])], nx := 2 } := by kernel_rfl
theorem L27_0_b1 (i0 i1 i2 i3 i4 : Int) (b0 : Bool) (s0 s1 s2 : List UInt8) (x0 : List V) (o0 : Option Bool) (n0 k : Nat)
    (c0 : decide (i2 < (↑x0.length : Int)) = false) :
    evalCode Try.prog Try.cfg (evalFn Try.prog Try.cfg (k + 17)) 0 (Try.cfg.fc 27) (k + 17) (loopBody Try.f27 0) { tm := [(0, V.str s0), (1, V.str s1), (2, V.str s2), (6, V.str []), (7, vi 0), (8, V.ptr 0 0), (9, V.ptr 1 0), (15, V.bool false), (20, V.sl o0 b0 n0 x0), (21, vi (↑x0.length : Int)), (22, vi i2)], hp := [(0, Ob.var [vu i3, vu i4]), (1, Ob.var [vu i0, vu i1])], nx := 2 } = some (Exit.exit 0, { tm := [(0, V.str s0), (1, V.str s1), (2, V.str s2), (6, V.str []), (7, vi 0), (8, V.ptr 0 0), (9, V.ptr 1 0), (15, V.bool false), (20, V.sl o0 b0 n0 x0), (21, vi (↑x0.length : Int)), (22, vi i2), (23, V.bool false)], hp := [(0, Ob.var [vu i3, vu i4]), (1, Ob.var [vu i0, vu i1])], nx := 6 }) :=
  byL (k := k) (d := 17) [Hn.br 23 false] (aI c0 trivial) (by kernel_rfl)
inductive L27_0_R where
  | e0 (i2 : Int) (i3 : Int) (i4 : Int)
noncomputable def L27_0_end (i0 : Int) (i1 : Int) (b0 : Bool) (s0 : List UInt8) (s1 : List UInt8) (s2 : List UInt8) (x0 : List V) (o0 : Option Bool) (n0 : Nat) : L27_0_R → Exit × St
  | .e0 i2 i3 i4 => (Exit.exit 0, { tm := [(0, V.str s0), (1, V.str s1), (2, V.str s2), (6, V.str []), (7, V.int .i64 0), (8, V.ptr 0 0), (9, V.ptr 1 0), (15, V.bool false), (20, V.sl o0 b0 n0 x0), (21, V.int .i64 (↑x0.length : Int)), (22, V.int .i64 i2), (23, V.bool false)], hp := [(0, Ob.var [V.int .u64 i3, V.int .u64 i4]), (1, Ob.var [V.int .u64 i0, V.int .u64 i1])], nx := 6 })
def L27_0 (k : Nat) (i0 i1 : Int) (b0 : Bool) (s0 s1 s2 : List UInt8) (x0 : List V) (o0 : Option Bool) (n0 : Nat) : Nat → Int → Int → Int → Option L27_0_R
  | 0, _, _, _ => none
  | f + 1, i2, i3, i4 => (bif decide (i2 < (↑x0.length : Int)) then (guardP (n0 = (1 : Nat)) (((at? (x0) (i2)).bind dS).bind fun s3 => ((F46 (k + 11) (s3)).bind fun (i5, i6) => ((F47 (k + 11) (IntKind.u64.wrap (↑(BitVec.ofInt IntKind.u64.bits i3 ^^^ BitVec.ofInt IntKind.u64.bits i5).toNat : Int)) (IntKind.u64.wrap (↑(BitVec.ofInt IntKind.u64.bits i4 ^^^ BitVec.ofInt IntKind.u64.bits i6).toNat : Int)) (i0) (i1)).bind fun (i7, i8) => (L27_0 k i0 i1 b0 s0 s1 s2 x0 o0 n0 f (IntKind.i64.wrap (i2 + 1)) (i7) (i8)))))) else (some (L27_0_R.e0 i2 i3 i4)))
theorem L27_0_ok {i0 i1 : Int} {b0 : Bool} {s0 s1 s2 : List UInt8} {x0 : List V} {o0 : Option Bool} {n0 k : Nat} : ∀ {f : Nat} {i2 : Int} {i3 : Int} {i4 : Int} {r : L27_0_R}, L27_0 k i0 i1 b0 s0 s1 s2 x0 o0 n0 f i2 i3 i4 = some r →
    LoopsN Try.prog Try.cfg (k + 17) 0 Try.f27 (Try.cfg.fc 27) 0 [0, 1, 2, 6, 7, 8, 9, 15, 20, 21, 22] f { tm := [(0, V.str s0), (1, V.str s1), (2, V.str s2), (6, V.str []), (7, vi 0), (8, V.ptr 0 0), (9, V.ptr 1 0), (15, V.bool false), (20, V.sl o0 b0 n0 x0), (21, vi (↑x0.length : Int)), (22, vi i2)], hp := [(0, Ob.var [vu i3, vu i4]), (1, Ob.var [vu i0, vu i1])], nx := 2 } (L27_0_end i0 i1 b0 s0 s1 s2 x0 o0 n0 r) := by
  intro f
  induction f with
  | zero => intro i2 i3 i4 r h; cases h
  | succ f ih =>
    intro i2 i3 i4 r h
    rw [L27_0] at h
    rcases cond_elim h with ⟨e0, h⟩ | ⟨e0, h⟩
    ·
      obtain ⟨e1, h⟩ := guardP_some.1 h
      obtain ⟨s3, e2, h⟩ := bE h
      obtain ⟨⟨i5, i6⟩, e3, h⟩ := bE h
      obtain ⟨⟨i7, i8⟩, e4, h⟩ := bE h
      exact LoopsN.next (L27_0_b0 i0 i1 i2 i3 i4 i5 i6 i7 i8 b0 s0 s1 s2 s3 x0 o0 n0 k e0 (IdxP.of_at' (at_d dS_ok e2 :) e1) (F46_ok e3) (F47_ok e4)) (L27_0_b0h i0 i1 i2 i5 i6 i7 i8 b0 s0 s1 s2 s3 x0 o0 n0) (ih h)
    ·
      cases h; exact LoopsN.done (L27_0_b1 i0 i1 i2 i3 i4 b0 s0 s1 s2 x0 o0 n0 k e0) (fun h => by cases h)
theorem P27_0 (s0 s1 s2 : List UInt8) (k : Nat)
    (c0 : (!decide ((↑s0.length : Int) = 16)) = true) :
    cP ((k + 18)) 27 [V.str s0, V.str s1, V.str s2] = some (V.tup [V.str [], vi 4]) :=
  byF (k := k) (d := 18) [Hn.br 15 true] (aI c0 trivial) (by kernel_rfl)
theorem P27_1 (i0 i1 i2 i3 i4 : Int) (b0 : Bool) (s0 s1 s2 s3 : List UInt8) (x0 : List V) (o0 : Option Bool) (n0 k : Nat)
    (c0 : (!decide ((↑s0.length : Int) = 16)) = false)
    (c1 : cP ((k + 17)) 46 [V.str s0] = some (V.agg [vu i0, vu i1]))
    (c2 : cP ((k + 17)) 29 [V.str s1, V.str s2] = some (V.sl o0 b0 n0 x0))
    (c3 : LoopsN Try.prog Try.cfg (k + 17) 0 Try.f27 (Try.cfg.fc 27) 0 [0, 1, 2, 6, 7, 8, 9, 15, 20, 21, 22] (k + 17) { tm := [(0, V.str s0), (1, V.str s1), (2, V.str s2), (6, V.str []), (7, vi 0), (8, V.ptr 0 0), (9, V.ptr 1 0), (15, V.bool false), (20, V.sl o0 b0 n0 x0), (21, vi (↑x0.length : Int)), (22, vi 0)], hp := [(0, Ob.var [vu 0, vu 0]), (1, Ob.var [vu i0, vu i1])], nx := 2 } (Exit.exit 0, { tm := [(0, V.str s0), (1, V.str s1), (2, V.str s2), (6, V.str []), (7, vi 0), (8, V.ptr 0 0), (9, V.ptr 1 0), (15, V.bool false), (20, V.sl o0 b0 n0 x0), (21, vi (↑x0.length : Int)), (22, vi i2), (23, V.bool false)], hp := [(0, Ob.var [vu i3, vu i4]), (1, Ob.var [vu i0, vu i1])], nx := 6 }))
    (c4 : cP ((k + 17)) 48 [V.agg [vu i3, vu i4]] = some (V.str s3)) :
    cP ((k + 18)) 27 [V.str s0, V.str s1, V.str s2] = some (V.tup [V.str s3, vi 0]) :=
  byF (k := k) (d := 18) [Hn.br 15 false, Hn.call 17 (V.agg [vu i0, vu i1]), Hn.call 20 (V.sl o0 b0 n0 x0), Hn.loop (Exit.exit 0, { tm := [(0, V.str s0), (1, V.str s1), (2, V.str s2), (6, V.str []), (7, vi 0), (8, V.ptr 0 0), (9, V.ptr 1 0), (15, V.bool false), (20, V.sl o0 b0 n0 x0), (21, vi (↑x0.length : Int)), (22, vi i2), (23, V.bool false)], hp := [(0, Ob.var [vu i3, vu i4]), (1, Ob.var [vu i0, vu i1])], nx := 6 }), Hn.call 43 (V.str s3)] (aI c0 (aI c1 (aI c2 (aI c3 (aI c4 trivial))))) (by kernel_rfl)
def F27 (k : Nat) (s0 s1 s2 : List UInt8) : Option (List UInt8 × Int) :=
  (bif !decide ((↑s0.length : Int) = 16) then (some (([]), (4))) else ((F46 (k + 11) (s0)).bind fun (i0, i1) => ((F29 (k + 2) (s1) (s2)).bind fun (o0, b0, n0, x0) => ((L27_0 k i0 i1 b0 s0 s1 s2 x0 o0 n0 (k + 17) (0) (0) (0)).bind fun
    | L27_0_R.e0 i2 i3 i4 => ((F48 (k + 2) (i3) (i4)).bind fun s3 => (some ((s3), (0))))))))
theorem F27_ok {s0 s1 s2 : List UInt8} {k : Nat} {r : List UInt8 × Int} (h : F27 k s0 s1 s2 = some r) :
    cP ((k + 18)) 27 [V.str s0, V.str s1, V.str s2] = some (V.tup [V.str r.1, vi r.2]) := by
  unfold F27 at h
  rcases cond_elim h with ⟨e0, h⟩ | ⟨e0, h⟩
  ·
    have h := Option.some.inj h; subst h; exact P27_0 s0 s1 s2 k e0
  ·
    obtain ⟨⟨i0, i1⟩, e1, h⟩ := bE h
    obtain ⟨⟨o0, b0, n0, x0⟩, e2, h⟩ := bE h
    obtain ⟨ee, e3, h⟩ := bE h
    cases ee with
    | e0 i2 i3 i4 =>
      obtain ⟨s3, e4, h⟩ := bE h
      have h := Option.some.inj h; subst h; exact P27_1 i0 i1 i2 i3 i4 b0 s0 s1 s2 s3 x0 o0 n0 k e0 (F46_ok e1) (F29_ok e2) (L27_0_ok e3) (F48_ok e4)
inductive L55_0_R where
  | e0 (s1 : List UInt8)
noncomputable def L55_0_end : L55_0_R → Exit × St
  | .e0 s1 => (Exit.exit 0, { tm := [(0, V.str s1), (2, V.sl (some true) true 0 []), (8, V.bool false)], hp := [], nx := 16 })
inductive L55_1_R where
  | e0 (i0 : Int) (x0 : List V)
noncomputable def L55_1_end (s1 : List UInt8) : L55_1_R → Exit × St
  | .e0 i0 x0 => (Exit.exit 2, { tm := [(0, V.str s1), (2, V.sl (some true) true 0 []), (3, V.ref 0), (4, V.int .i64 i0), (8, V.bool false), (17, V.bool false)], hp := [(0, Ob.row false 1 x0)], nx := 17 })
inductive L56_0_R where
  | e0 (i1 : Int) (i2 : Int) (s0 : List UInt8)
noncomputable def L56_0_end : L56_0_R → Exit × St
  | .e0 i1 i2 s0 => (Exit.exit 0, { tm := [(0, V.int .u64 i1), (2, V.str []), (3, V.str s0), (4, V.int .i64 i2), (6, V.bool false)], hp := [], nx := 8 })
inductive L30_0_R where
  | e0 (s2 : List UInt8)
noncomputable def L30_0_end : L30_0_R → Exit × St
  | .e0 s2 => (Exit.exit 0, { tm := [(0, V.str s2), (2, V.sl (some true) true 0 []), (8, V.bool false)], hp := [], nx := 24 })
inductive L30_1_R where
  | e0 (i0 : Int) (x0 : List V)
noncomputable def L30_1_end (s2 : List UInt8) : L30_1_R → Exit × St
  | .e0 i0 x0 => (Exit.exit 2, { tm := [(0, V.str s2), (2, V.sl (some true) true 0 []), (3, V.ref 8), (4, V.int .i64 i0), (8, V.bool false), (17, V.bool false)], hp := [(8, Ob.row false 1 x0)], nx := 25 })
inductive L30_2_R where
  | e0 (s3 : List UInt8)
noncomputable def L30_2_end (x0 : List V) : L30_2_R → Exit × St
  | .e0 s3 => (Exit.exit 0, { tm := [(0, V.str s3), (2, V.sl (some true) true 0 []), (8, V.bool false)], hp := [(8, Ob.row false 1 x0)], nx := 61 })
inductive L30_3_R where
  | e0 (i1 : Int) (x1 : List V)
noncomputable def L30_3_end (s3 : List UInt8) (x0 : List V) : L30_3_R → Exit × St
  | .e0 i1 x1 => (Exit.exit 2, { tm := [(0, V.str s3), (2, V.sl (some true) true 0 []), (3, V.ref 45), (4, V.int .i64 i1), (8, V.bool false), (17, V.bool false)], hp := [(8, Ob.row false 1 x0), (45, Ob.row false 1 x1)], nx := 62 })
inductive L28_0_R where
  | e0 (i0 : Int)
  | e1 (i0 : Int)
noncomputable def L28_0_end (b0 : Bool) (b1 : Bool) (x0 : List V) (x1 : List V) (o0 : Option Bool) (o1 : Option Bool) (n0 : Nat) (n1 : Nat) : L28_0_R → Exit × St
  | .e0 i0 => (Exit.ret, { tm := [(0, V.sl o0 b0 n0 x0), (1, V.sl o1 b1 n1 x1), (4, V.bool false), (5, V.int .i64 i0), (10, V.bool false), (12, V.int .i64 (↑x0.length : Int)), (13, V.int .i64 i0), (14, V.bool true), (24, V.bool true)], hp := [], nx := 52 })
  | .e1 i0 => (Exit.exit 0, { tm := [(0, V.sl o0 b0 n0 x0), (1, V.sl o1 b1 n1 x1), (4, V.bool false), (10, V.bool false), (12, V.int .i64 (↑x0.length : Int)), (13, V.int .i64 i0), (14, V.bool false)], hp := [], nx := 4 })
inductive L57_0_R where
  | e0 (i0 : Int) (x0 : List V)
noncomputable def L57_0_end (s0 : List UInt8) (s1 : List UInt8) : L57_0_R → Exit × St
  | .e0 i0 x0 => (Exit.exit 0, { tm := [(0, V.str s0), (1, V.str s1), (4, V.str []), (5, V.ref 0), (6, V.int .i64 i0), (11, V.bool false)], hp := [(0, Ob.row false 1 x0)], nx := 17 })
inductive L31_0_R where
  | e0 (i0 : Int) (s3 : List UInt8)
noncomputable def L31_0_end (b0 : Bool) (s0 : List UInt8) (s1 : List UInt8) (s2 : List UInt8) (x0 : List V) (o0 : Option Bool) (n0 : Nat) : L31_0_R → Exit × St
  | .e0 i0 s3 => (Exit.exit 0, { tm := [(0, V.str s0), (1, V.str s1), (2, V.str s2), (6, V.str []), (7, V.str s3), (14, V.sl o0 b0 n0 x0), (15, V.int .i64 (↑x0.length : Int)), (16, V.int .i64 i0), (17, V.bool false)], hp := [], nx := 4 })
end Go.Proofs
