/-
  What functions of ghash's sums and their reference answer, each checked against the program.
-/
import Derived.Test.YtegmincienhapaaGhB
set_option linter.unusedVariables false
set_option maxHeartbeats 0
set_option maxRecDepth 100000
namespace Go.Proofs
open Go Go.Sym

def F41 (k : Nat) (s0 : List UInt8) (i0 : Int) : Option (List UInt8) :=
  (guardP (0 ≤ i0 ∧ s0.length * i0.toNat ≤ maxBld ∧ i0 ≤ (maxBld : Int)) (some (repeatN s0 i0.toNat)))
theorem F41_ok {s0 : List UInt8} {i0 : Int} {k : Nat} {r : List UInt8} (h : F41 k s0 i0 = some r) :
    cP ((k + 1)) 41 [V.str s0, vi i0] = some (V.str r) := by
  unfold F41 at h
  obtain ⟨e0, h⟩ := guardP_some.1 h
  have h := Option.some.inj h; subst h
  exact callP_repeat (by kernel_rfl) (by kernel_rfl) e0
theorem L29_0_b0 (s2 s3 : List UInt8) (x0 : List V) (k : Nat)
    (c0 : (!decide (s2 = [])) = true)
    (c1 : SlcP false 0 (V.str s2) none (some (vi (if 16 < (↑s2.length : Int) then 16 else (↑s2.length : Int)))) none (V.str (List.take (if 16 < (↑s2.length : Int) then 16 else (↑s2.length : Int)).toNat s2)))
    (c2 : cP ((k + 11)) 41 [V.str [0], vi (IntKind.i64.wrap (16 - (↑(List.take (if 16 < (↑s2.length : Int) then 16 else (↑s2.length : Int)).toNat s2).length : Int)))] = some (V.str s3))
    (c3 : GrdP ((List.take (if (16 : Int) < (↑s2.length : Int) then (16 : Int) else (↑s2.length : Int)).toNat s2).length + s3.length ≤ maxText) (V.str (List.take (if (16 : Int) < (↑s2.length : Int) then (16 : Int) else (↑s2.length : Int)).toNat s2 ++ s3)))
    (c4 : GrdW ((1 : Nat) = (1 : Nat) ∧ (0 : Nat) < (1 : Nat) ∧ (16 : Nat) ≤ (64 : Nat) ∧ x0.length + (1 : Nat) ≤ maxLen') (V.ref (112 : Nat)) [((35 : Nat), Ob.dead), ((112 : Nat), Ob.row false (1 : Nat) (x0 ++ [V.str (List.take (if (16 : Int) < (↑s2.length : Int) then (16 : Int) else (↑s2.length : Int)).toNat s2 ++ s3)]))])
    (c5 : SlcP false 0 (V.str s2) (some (vi (if 16 < (↑s2.length : Int) then 16 else (↑s2.length : Int)))) none none (V.str (List.drop (if 16 < (↑s2.length : Int) then 16 else (↑s2.length : Int)).toNat s2))) :
    evalCode Try.prog Try.cfg (evalFn Try.prog Try.cfg (k + 11)) 35 (Try.cfg.fc 83) (k + 11) (loopBody Try.f83 0) { tm := [(0, V.yld 34), (1, V.ptr 8 0)], hp := [(8, Ob.var [V.str s2]), (32, Ob.var [V.ref 35]), (34, Ob.loop LS.ready (Try.cfg.fc 82) (rangeCode Try.f82 0) [(0, V.sl (some true) true 0 []), (1, V.fn (Fn.func 83) [] [V.ptr 8 0]), (2, V.ptr 32 0), (4, V.sl (some true) true 0 []), (6, V.fn (Fn.func 83) [] [V.ptr 8 0])]), (35, Ob.row false 1 x0)], nx := 36 } = some (Exit.normal, { tm := [(0, V.yld 34), (1, V.ptr 8 0), (3, V.str (List.take (if 16 < (↑s2.length : Int) then 16 else (↑s2.length : Int)).toNat s2)), (5, V.bool true), (24, V.bool false)], hp := [(8, Ob.var [V.str (List.drop (if 16 < (↑s2.length : Int) then 16 else (↑s2.length : Int)).toNat s2)]), (32, Ob.var [V.ref 112]), (34, Ob.loop LS.ready (Try.cfg.fc 82) (rangeCode Try.f82 0) [(0, V.sl (some true) true 0 []), (1, V.fn (Fn.func 83) [] [V.ptr 8 0]), (2, V.ptr 32 0), (4, V.sl (some true) true 0 []), (6, V.fn (Fn.func 83) [] [V.ptr 8 0])]), (35, Ob.dead), (108, Ob.row false 1 [V.str (List.take (if 16 < (↑s2.length : Int) then 16 else (↑s2.length : Int)).toNat s2 ++ s3)]), (112, Ob.row false 1 (x0 ++ [V.str (List.take (if 16 < (↑s2.length : Int) then 16 else (↑s2.length : Int)).toNat s2 ++ s3)]))], nx := 148 }) :=
  byL (k := k) (d := 11) [Hn.br 5 true, Hn.op 15 (V.str (List.take (if 16 < (↑s2.length : Int) then 16 else (↑s2.length : Int)).toNat s2)) [], Hn.call 21 (V.str s3), Hn.op 22 (V.str (List.take (if 16 < (↑s2.length : Int) then 16 else (↑s2.length : Int)).toNat s2 ++ s3)) [], Hn.enter, Hn.op 11 (V.ref 112) [(35, Ob.dead), (112, Ob.row false 1 (x0 ++ [V.str (List.take (if 16 < (↑s2.length : Int) then 16 else (↑s2.length : Int)).toNat s2 ++ s3)]))], Hn.op 10 (V.str (List.drop (if 16 < (↑s2.length : Int) then 16 else (↑s2.length : Int)).toNat s2)) []] (aI c0 (aI c1 (aI c2 (aI c3 (aI c4 (aI c5 trivial)))))) (by kernel_rfl)
theorem L29_0_b0h (s2 s3 : List UInt8) (x0 : List V) : head 35 [0, 1] (Try.cfg.fc 83).acc { tm := [(0, V.yld 34), (1, V.ptr 8 0), (3, V.str (List.take (if 16 < (↑s2.length : Int) then 16 else (↑s2.length : Int)).toNat s2)), (5, V.bool true), (24, V.bool false)], hp := [(8, Ob.var [V.str (List.drop (if 16 < (↑s2.length : Int) then 16 else (↑s2.length : Int)).toNat s2)]), (32, Ob.var [V.ref 112]), (34, Ob.loop LS.ready (Try.cfg.fc 82) (rangeCode Try.f82 0) [(0, V.sl (some true) true 0 []), (1, V.fn (Fn.func 83) [] [V.ptr 8 0]), (2, V.ptr 32 0), (4, V.sl (some true) true 0 []), (6, V.fn (Fn.func 83) [] [V.ptr 8 0])]), (35, Ob.dead), (108, Ob.row false 1 [V.str (List.take (if 16 < (↑s2.length : Int) then 16 else (↑s2.length : Int)).toNat s2 ++ s3)]), (112, Ob.row false 1 (x0 ++ [V.str (List.take (if 16 < (↑s2.length : Int) then 16 else (↑s2.length : Int)).toNat s2 ++ s3)]))], nx := 148 } = { tm := [(0, V.yld 34), (1, V.ptr 8 0)], hp := [(8, Ob.var [V.str (List.drop (if 16 < (↑s2.length : Int) then 16 else (↑s2.length : Int)).toNat s2)]), (32, Ob.var [V.ref 35]), (34, Ob.loop LS.ready (Try.cfg.fc 82) (rangeCode Try.f82 0) [(0, V.sl (some true) true 0 []), (1, V.fn (Fn.func 83) [] [V.ptr 8 0]), (2, V.ptr 32 0), (4, V.sl (some true) true 0 []), (6, V.fn (Fn.func 83) [] [V.ptr 8 0])]), (35, Ob.row false 1 (x0 ++ [V.str (List.take (if 16 < (↑s2.length : Int) then 16 else (↑s2.length : Int)).toNat s2 ++ s3)]))], nx := 36 } := by kernel_rfl
theorem L29_0_b1 (s2 : List UInt8) (x0 : List V) (k : Nat)
    (c0 : (!decide (s2 = [])) = false) :
    evalCode Try.prog Try.cfg (evalFn Try.prog Try.cfg (k + 11)) 35 (Try.cfg.fc 83) (k + 11) (loopBody Try.f83 0) { tm := [(0, V.yld 34), (1, V.ptr 8 0)], hp := [(8, Ob.var [V.str s2]), (32, Ob.var [V.ref 35]), (34, Ob.loop LS.ready (Try.cfg.fc 82) (rangeCode Try.f82 0) [(0, V.sl (some true) true 0 []), (1, V.fn (Fn.func 83) [] [V.ptr 8 0]), (2, V.ptr 32 0), (4, V.sl (some true) true 0 []), (6, V.fn (Fn.func 83) [] [V.ptr 8 0])]), (35, Ob.row false 1 x0)], nx := 36 } = some (Exit.exit 0, { tm := [(0, V.yld 34), (1, V.ptr 8 0), (5, V.bool false)], hp := [(8, Ob.var [V.str s2]), (32, Ob.var [V.ref 35]), (34, Ob.loop LS.ready (Try.cfg.fc 82) (rangeCode Try.f82 0) [(0, V.sl (some true) true 0 []), (1, V.fn (Fn.func 83) [] [V.ptr 8 0]), (2, V.ptr 32 0), (4, V.sl (some true) true 0 []), (6, V.fn (Fn.func 83) [] [V.ptr 8 0])]), (35, Ob.row false 1 x0)], nx := 44 }) :=
  byL (k := k) (d := 11) [Hn.br 5 false] (aI c0 trivial) (by kernel_rfl)
inductive L29_0_R where
  | e0 (s2 : List UInt8) (x0 : List V)
noncomputable def L29_0_end : L29_0_R → Exit × St
  | .e0 s2 x0 => (Exit.exit 0, { tm := [(0, V.yld 34), (1, V.ptr 8 0), (5, V.bool false)], hp := [(8, Ob.var [V.str s2]), (32, Ob.var [V.ref 35]), (34, Ob.loop LS.ready (Try.cfg.fc 82) (rangeCode Try.f82 0) [(0, V.sl (some true) true 0 []), (1, V.fn (Fn.func 83) [] [V.ptr 8 0]), (2, V.ptr 32 0), (4, V.sl (some true) true 0 []), (6, V.fn (Fn.func 83) [] [V.ptr 8 0])]), (35, Ob.row false 1 x0)], nx := 44 })
def L29_0 (k : Nat) : Nat → List UInt8 → List V → Option L29_0_R
  | 0, _, _ => none
  | f + 1, s2, x0 => (bif !decide (s2 = []) then (guardP (((0 : Int) ≤ if (16 : Int) < (↑s2.length : Int) then (16 : Int) else (↑s2.length : Int)) ∧ (if (16 : Int) < (↑s2.length : Int) then (16 : Int) else (↑s2.length : Int)) ≤ (↑s2.length : Int)) ((F41 (k + 10) ([0]) (IntKind.i64.wrap (16 - (↑(List.take (if 16 < (↑s2.length : Int) then 16 else (↑s2.length : Int)).toNat s2).length : Int)))).bind fun s3 => (guardP ((List.take (if (16 : Int) < (↑s2.length : Int) then (16 : Int) else (↑s2.length : Int)).toNat s2).length + s3.length ≤ maxText) (guardP (x0.length + (1 : Nat) ≤ maxLen') (L29_0 k f (List.drop (if 16 < (↑s2.length : Int) then 16 else (↑s2.length : Int)).toNat s2) (x0 ++ [V.str (List.take (if 16 < (↑s2.length : Int) then 16 else (↑s2.length : Int)).toNat s2 ++ s3)])))))) else (some (L29_0_R.e0 s2 x0)))
theorem L29_0_ok {k : Nat} : ∀ {f : Nat} {s2 : List UInt8} {x0 : List V} {r : L29_0_R}, L29_0 k f s2 x0 = some r →
    LoopsN Try.prog Try.cfg (k + 11) 35 Try.f83 (Try.cfg.fc 83) 0 [0, 1] f { tm := [(0, V.yld 34), (1, V.ptr 8 0)], hp := [(8, Ob.var [V.str s2]), (32, Ob.var [V.ref 35]), (34, Ob.loop LS.ready (Try.cfg.fc 82) (rangeCode Try.f82 0) [(0, V.sl (some true) true 0 []), (1, V.fn (Fn.func 83) [] [V.ptr 8 0]), (2, V.ptr 32 0), (4, V.sl (some true) true 0 []), (6, V.fn (Fn.func 83) [] [V.ptr 8 0])]), (35, Ob.row false 1 x0)], nx := 36 } (L29_0_end r) := by
  intro f
  induction f with
  | zero => intro s2 x0 r h; cases h
  | succ f ih =>
    intro s2 x0 r h
    rw [L29_0] at h
    rcases cond_elim h with ⟨e0, h⟩ | ⟨e0, h⟩
    ·
      obtain ⟨e1, h⟩ := guardP_some.1 h
      obtain ⟨s3, e2, h⟩ := bE h
      obtain ⟨e3, h⟩ := guardP_some.1 h
      obtain ⟨e4, h⟩ := guardP_some.1 h
      exact LoopsN.next (L29_0_b0 s2 s3 x0 k e0 (SlcP.strUptoS e1) (F41_ok e2) (GrdP.mk e3) (GrdW.mk ⟨rfl, by decide, by decide, e4⟩) (SlcP.strFromS e1)) (L29_0_b0h s2 s3 x0) (ih h)
    ·
      cases h; exact LoopsN.done (L29_0_b1 s2 x0 k e0) (fun h => by cases h)
theorem L29_1_b0 (s0 s1 s3 s4 : List UInt8) (x1 : List V) (k : Nat)
    (c0 : (!decide (s3 = [])) = true)
    (c1 : SlcP false 0 (V.str s3) none (some (vi (if 16 < (↑s3.length : Int) then 16 else (↑s3.length : Int)))) none (V.str (List.take (if 16 < (↑s3.length : Int) then 16 else (↑s3.length : Int)).toNat s3)))
    (c2 : cP ((k + 13)) 41 [V.str [0], vi (IntKind.i64.wrap (16 - (↑(List.take (if 16 < (↑s3.length : Int) then 16 else (↑s3.length : Int)).toNat s3).length : Int)))] = some (V.str s4))
    (c3 : GrdP ((List.take (if (16 : Int) < (↑s3.length : Int) then (16 : Int) else (↑s3.length : Int)).toNat s3).length + s4.length ≤ maxText) (V.str (List.take (if (16 : Int) < (↑s3.length : Int) then (16 : Int) else (↑s3.length : Int)).toNat s3 ++ s4)))
    (c4 : GrdW ((1 : Nat) = (1 : Nat) ∧ (0 : Nat) < (1 : Nat) ∧ (16 : Nat) ≤ (64 : Nat) ∧ x1.length + (1 : Nat) ≤ maxLen') (V.ref (81 : Nat)) [((4 : Nat), Ob.dead), ((81 : Nat), Ob.row false (1 : Nat) (x1 ++ [V.str (List.take (if (16 : Int) < (↑s3.length : Int) then (16 : Int) else (↑s3.length : Int)).toNat s3 ++ s4)]))])
    (c5 : SlcP false 0 (V.str s3) (some (vi (if 16 < (↑s3.length : Int) then 16 else (↑s3.length : Int)))) none none (V.str (List.drop (if 16 < (↑s3.length : Int) then 16 else (↑s3.length : Int)).toNat s3))) :
    evalCode Try.prog Try.cfg (evalFn Try.prog Try.cfg (k + 13)) 4 (Try.cfg.fc 83) (k + 13) (loopBody Try.f83 0) { tm := [(0, V.yld 3), (1, V.ptr 1 0)], hp := [(0, Ob.var [V.ref 4]), (1, Ob.var [V.str s3]), (3, Ob.loop LS.ready (Try.cfg.fc 29) (rangeCode Try.f29 0) [(0, V.str s0), (1, V.str s1), (4, V.sl (some true) true 0 []), (5, V.ptr 0 0), (11, V.fn (Fn.func 83) [] [V.ptr 1 0])]), (4, Ob.row false 1 x1)], nx := 5 } = some (Exit.normal, { tm := [(0, V.yld 3), (1, V.ptr 1 0), (3, V.str (List.take (if 16 < (↑s3.length : Int) then 16 else (↑s3.length : Int)).toNat s3)), (5, V.bool true), (24, V.bool false)], hp := [(0, Ob.var [V.ref 81]), (1, Ob.var [V.str (List.drop (if 16 < (↑s3.length : Int) then 16 else (↑s3.length : Int)).toNat s3)]), (3, Ob.loop LS.ready (Try.cfg.fc 29) (rangeCode Try.f29 0) [(0, V.str s0), (1, V.str s1), (4, V.sl (some true) true 0 []), (5, V.ptr 0 0), (11, V.fn (Fn.func 83) [] [V.ptr 1 0])]), (4, Ob.dead), (77, Ob.row false 1 [V.str (List.take (if 16 < (↑s3.length : Int) then 16 else (↑s3.length : Int)).toNat s3 ++ s4)]), (81, Ob.row false 1 (x1 ++ [V.str (List.take (if 16 < (↑s3.length : Int) then 16 else (↑s3.length : Int)).toNat s3 ++ s4)]))], nx := 117 }) :=
  byL (k := k) (d := 13) [Hn.br 5 true, Hn.op 15 (V.str (List.take (if 16 < (↑s3.length : Int) then 16 else (↑s3.length : Int)).toNat s3)) [], Hn.call 21 (V.str s4), Hn.op 22 (V.str (List.take (if 16 < (↑s3.length : Int) then 16 else (↑s3.length : Int)).toNat s3 ++ s4)) [], Hn.enter, Hn.op 16 (V.ref 81) [(4, Ob.dead), (81, Ob.row false 1 (x1 ++ [V.str (List.take (if 16 < (↑s3.length : Int) then 16 else (↑s3.length : Int)).toNat s3 ++ s4)]))], Hn.op 10 (V.str (List.drop (if 16 < (↑s3.length : Int) then 16 else (↑s3.length : Int)).toNat s3)) []] (aI c0 (aI c1 (aI c2 (aI c3 (aI c4 (aI c5 trivial)))))) (by kernel_rfl)
theorem L29_1_b0h (s0 s1 s3 s4 : List UInt8) (x1 : List V) : head 4 [0, 1] (Try.cfg.fc 83).acc { tm := [(0, V.yld 3), (1, V.ptr 1 0), (3, V.str (List.take (if 16 < (↑s3.length : Int) then 16 else (↑s3.length : Int)).toNat s3)), (5, V.bool true), (24, V.bool false)], hp := [(0, Ob.var [V.ref 81]), (1, Ob.var [V.str (List.drop (if 16 < (↑s3.length : Int) then 16 else (↑s3.length : Int)).toNat s3)]), (3, Ob.loop LS.ready (Try.cfg.fc 29) (rangeCode Try.f29 0) [(0, V.str s0), (1, V.str s1), (4, V.sl (some true) true 0 []), (5, V.ptr 0 0), (11, V.fn (Fn.func 83) [] [V.ptr 1 0])]), (4, Ob.dead), (77, Ob.row false 1 [V.str (List.take (if 16 < (↑s3.length : Int) then 16 else (↑s3.length : Int)).toNat s3 ++ s4)]), (81, Ob.row false 1 (x1 ++ [V.str (List.take (if 16 < (↑s3.length : Int) then 16 else (↑s3.length : Int)).toNat s3 ++ s4)]))], nx := 117 } = { tm := [(0, V.yld 3), (1, V.ptr 1 0)], hp := [(0, Ob.var [V.ref 4]), (1, Ob.var [V.str (List.drop (if 16 < (↑s3.length : Int) then 16 else (↑s3.length : Int)).toNat s3)]), (3, Ob.loop LS.ready (Try.cfg.fc 29) (rangeCode Try.f29 0) [(0, V.str s0), (1, V.str s1), (4, V.sl (some true) true 0 []), (5, V.ptr 0 0), (11, V.fn (Fn.func 83) [] [V.ptr 1 0])]), (4, Ob.row false 1 (x1 ++ [V.str (List.take (if 16 < (↑s3.length : Int) then 16 else (↑s3.length : Int)).toNat s3 ++ s4)]))], nx := 5 } := by kernel_rfl
theorem L29_1_b1 (s0 s1 s3 : List UInt8) (x1 : List V) (k : Nat)
    (c0 : (!decide (s3 = [])) = false) :
    evalCode Try.prog Try.cfg (evalFn Try.prog Try.cfg (k + 13)) 4 (Try.cfg.fc 83) (k + 13) (loopBody Try.f83 0) { tm := [(0, V.yld 3), (1, V.ptr 1 0)], hp := [(0, Ob.var [V.ref 4]), (1, Ob.var [V.str s3]), (3, Ob.loop LS.ready (Try.cfg.fc 29) (rangeCode Try.f29 0) [(0, V.str s0), (1, V.str s1), (4, V.sl (some true) true 0 []), (5, V.ptr 0 0), (11, V.fn (Fn.func 83) [] [V.ptr 1 0])]), (4, Ob.row false 1 x1)], nx := 5 } = some (Exit.exit 0, { tm := [(0, V.yld 3), (1, V.ptr 1 0), (5, V.bool false)], hp := [(0, Ob.var [V.ref 4]), (1, Ob.var [V.str s3]), (3, Ob.loop LS.ready (Try.cfg.fc 29) (rangeCode Try.f29 0) [(0, V.str s0), (1, V.str s1), (4, V.sl (some true) true 0 []), (5, V.ptr 0 0), (11, V.fn (Fn.func 83) [] [V.ptr 1 0])]), (4, Ob.row false 1 x1)], nx := 13 }) :=
  byL (k := k) (d := 13) [Hn.br 5 false] (aI c0 trivial) (by kernel_rfl)
inductive L29_1_R where
  | e0 (s3 : List UInt8) (x1 : List V)
noncomputable def L29_1_end (s0 : List UInt8) (s1 : List UInt8) : L29_1_R → Exit × St
  | .e0 s3 x1 => (Exit.exit 0, { tm := [(0, V.yld 3), (1, V.ptr 1 0), (5, V.bool false)], hp := [(0, Ob.var [V.ref 4]), (1, Ob.var [V.str s3]), (3, Ob.loop LS.ready (Try.cfg.fc 29) (rangeCode Try.f29 0) [(0, V.str s0), (1, V.str s1), (4, V.sl (some true) true 0 []), (5, V.ptr 0 0), (11, V.fn (Fn.func 83) [] [V.ptr 1 0])]), (4, Ob.row false 1 x1)], nx := 13 })
def L29_1 (k : Nat) (s0 s1 : List UInt8) : Nat → List UInt8 → List V → Option L29_1_R
  | 0, _, _ => none
  | f + 1, s3, x1 => (bif !decide (s3 = []) then (guardP (((0 : Int) ≤ if (16 : Int) < (↑s3.length : Int) then (16 : Int) else (↑s3.length : Int)) ∧ (if (16 : Int) < (↑s3.length : Int) then (16 : Int) else (↑s3.length : Int)) ≤ (↑s3.length : Int)) ((F41 (k + 12) ([0]) (IntKind.i64.wrap (16 - (↑(List.take (if 16 < (↑s3.length : Int) then 16 else (↑s3.length : Int)).toNat s3).length : Int)))).bind fun s4 => (guardP ((List.take (if (16 : Int) < (↑s3.length : Int) then (16 : Int) else (↑s3.length : Int)).toNat s3).length + s4.length ≤ maxText) (guardP (x1.length + (1 : Nat) ≤ maxLen') (L29_1 k s0 s1 f (List.drop (if 16 < (↑s3.length : Int) then 16 else (↑s3.length : Int)).toNat s3) (x1 ++ [V.str (List.take (if 16 < (↑s3.length : Int) then 16 else (↑s3.length : Int)).toNat s3 ++ s4)])))))) else (some (L29_1_R.e0 s3 x1)))
theorem L29_1_ok {s0 s1 : List UInt8} {k : Nat} : ∀ {f : Nat} {s3 : List UInt8} {x1 : List V} {r : L29_1_R}, L29_1 k s0 s1 f s3 x1 = some r →
    LoopsN Try.prog Try.cfg (k + 13) 4 Try.f83 (Try.cfg.fc 83) 0 [0, 1] f { tm := [(0, V.yld 3), (1, V.ptr 1 0)], hp := [(0, Ob.var [V.ref 4]), (1, Ob.var [V.str s3]), (3, Ob.loop LS.ready (Try.cfg.fc 29) (rangeCode Try.f29 0) [(0, V.str s0), (1, V.str s1), (4, V.sl (some true) true 0 []), (5, V.ptr 0 0), (11, V.fn (Fn.func 83) [] [V.ptr 1 0])]), (4, Ob.row false 1 x1)], nx := 5 } (L29_1_end s0 s1 r) := by
  intro f
  induction f with
  | zero => intro s3 x1 r h; cases h
  | succ f ih =>
    intro s3 x1 r h
    rw [L29_1] at h
    rcases cond_elim h with ⟨e0, h⟩ | ⟨e0, h⟩
    ·
      obtain ⟨e1, h⟩ := guardP_some.1 h
      obtain ⟨s4, e2, h⟩ := bE h
      obtain ⟨e3, h⟩ := guardP_some.1 h
      obtain ⟨e4, h⟩ := guardP_some.1 h
      exact LoopsN.next (L29_1_b0 s0 s1 s3 s4 x1 k e0 (SlcP.strUptoS e1) (F41_ok e2) (GrdP.mk e3) (GrdW.mk ⟨rfl, by decide, by decide, e4⟩) (SlcP.strFromS e1)) (L29_1_b0h s0 s1 s3 s4 x1) (ih h)
    ·
      cases h; exact LoopsN.done (L29_1_b1 s0 s1 s3 x1 k e0) (fun h => by cases h)
theorem P29_0 (s0 s1 s2 s3 s4 s5 : List UInt8) (x0 x1 : List V) (k : Nat)
    (c0 : LoopsN Try.prog Try.cfg (k + 11) 35 Try.f83 (Try.cfg.fc 83) 0 [0, 1] (k + 11) { tm := [(0, V.yld 34), (1, V.ptr 8 0)], hp := [(8, Ob.var [V.str s0]), (32, Ob.var [V.ref 35]), (34, Ob.loop LS.ready (Try.cfg.fc 82) (rangeCode Try.f82 0) [(0, V.sl (some true) true 0 []), (1, V.fn (Fn.func 83) [] [V.ptr 8 0]), (2, V.ptr 32 0), (4, V.sl (some true) true 0 []), (6, V.fn (Fn.func 83) [] [V.ptr 8 0])]), (35, Ob.row false 1 [])], nx := 36 } (Exit.exit 0, { tm := [(0, V.yld 34), (1, V.ptr 8 0), (5, V.bool false)], hp := [(8, Ob.var [V.str s2]), (32, Ob.var [V.ref 35]), (34, Ob.loop LS.ready (Try.cfg.fc 82) (rangeCode Try.f82 0) [(0, V.sl (some true) true 0 []), (1, V.fn (Fn.func 83) [] [V.ptr 8 0]), (2, V.ptr 32 0), (4, V.sl (some true) true 0 []), (6, V.fn (Fn.func 83) [] [V.ptr 8 0])]), (35, Ob.row false 1 x0)], nx := 44 }))
    (c1 : LoopsN Try.prog Try.cfg (k + 13) 4 Try.f83 (Try.cfg.fc 83) 0 [0, 1] (k + 13) { tm := [(0, V.yld 3), (1, V.ptr 1 0)], hp := [(0, Ob.var [V.ref 4]), (1, Ob.var [V.str s1]), (3, Ob.loop LS.ready (Try.cfg.fc 29) (rangeCode Try.f29 0) [(0, V.str s0), (1, V.str s1), (4, V.sl (some true) true 0 []), (5, V.ptr 0 0), (11, V.fn (Fn.func 83) [] [V.ptr 1 0])]), (4, Ob.row false 1 x0)], nx := 5 } (Exit.exit 0, { tm := [(0, V.yld 3), (1, V.ptr 1 0), (5, V.bool false)], hp := [(0, Ob.var [V.ref 4]), (1, Ob.var [V.str s3]), (3, Ob.loop LS.ready (Try.cfg.fc 29) (rangeCode Try.f29 0) [(0, V.str s0), (1, V.str s1), (4, V.sl (some true) true 0 []), (5, V.ptr 0 0), (11, V.fn (Fn.func 83) [] [V.ptr 1 0])]), (4, Ob.row false 1 x1)], nx := 13 }))
    (c2 : cP ((k + 14)) 54 [vu (IntKind.u64.wrap (IntKind.u64.wrap (↑s0.length : Int) * 8))] = some (V.str s4))
    (c3 : cP ((k + 14)) 54 [vu (IntKind.u64.wrap (IntKind.u64.wrap (↑s1.length : Int) * 8))] = some (V.str s5))
    (c4 : GrdP (s4.length + s5.length ≤ maxText) (V.str (s4 ++ s5)))
    (c5 : GrdW ((1 : Nat) = (1 : Nat) ∧ (0 : Nat) < (1 : Nat) ∧ (16 : Nat) ≤ (64 : Nat) ∧ x1.length + (1 : Nat) ≤ maxLen') (V.ref (65 : Nat)) [((4 : Nat), Ob.dead), ((65 : Nat), Ob.row false (1 : Nat) (x1 ++ [V.str (s4 ++ s5)]))]) :
    cP ((k + 15)) 29 [V.str s0, V.str s1] = some (V.sl none false 1 (x1 ++ [V.str (s4 ++ s5)])) :=
  byF (k := k) (d := 15) [Hn.enter, Hn.enter, Hn.enter, Hn.enter, Hn.loop (Exit.exit 0, { tm := [(0, V.yld 34), (1, V.ptr 8 0), (5, V.bool false)], hp := [(8, Ob.var [V.str s2]), (32, Ob.var [V.ref 35]), (34, Ob.loop LS.ready (Try.cfg.fc 82) (rangeCode Try.f82 0) [(0, V.sl (some true) true 0 []), (1, V.fn (Fn.func 83) [] [V.ptr 8 0]), (2, V.ptr 32 0), (4, V.sl (some true) true 0 []), (6, V.fn (Fn.func 83) [] [V.ptr 8 0])]), (35, Ob.row false 1 x0)], nx := 44 }), Hn.enter, Hn.enter, Hn.loop (Exit.exit 0, { tm := [(0, V.yld 3), (1, V.ptr 1 0), (5, V.bool false)], hp := [(0, Ob.var [V.ref 4]), (1, Ob.var [V.str s3]), (3, Ob.loop LS.ready (Try.cfg.fc 29) (rangeCode Try.f29 0) [(0, V.str s0), (1, V.str s1), (4, V.sl (some true) true 0 []), (5, V.ptr 0 0), (11, V.fn (Fn.func 83) [] [V.ptr 1 0])]), (4, Ob.row false 1 x1)], nx := 13 }), Hn.call 22 (V.str s4), Hn.call 27 (V.str s5), Hn.op 28 (V.str (s4 ++ s5)) [], Hn.op 30 (V.ref 65) [(4, Ob.dead), (65, Ob.row false 1 (x1 ++ [V.str (s4 ++ s5)]))]] (aI c0 (aI c1 (aI c2 (aI c3 (aI c4 (aI c5 trivial)))))) (by kernel_rfl)
def F29 (k : Nat) (s0 s1 : List UInt8) : Option (Option Bool × Bool × Nat × List V) :=
  ((L29_0 k (k + 11) (s0) ([])).bind fun
    | L29_0_R.e0 s2 x0 => ((L29_1 k s0 s1 (k + 13) (s1) (x0)).bind fun
    | L29_1_R.e0 s3 x1 => ((F54 (k + 2) (IntKind.u64.wrap (IntKind.u64.wrap (↑s0.length : Int) * 8))).bind fun s4 => ((F54 (k + 2) (IntKind.u64.wrap (IntKind.u64.wrap (↑s1.length : Int) * 8))).bind fun s5 => (guardP (s4.length + s5.length ≤ maxText) (guardP (x1.length + (1 : Nat) ≤ maxLen') (some ((none), (false), (1), (x1 ++ [V.str (s4 ++ s5)])))))))))
theorem F29_ok {s0 s1 : List UInt8} {k : Nat} {r : Option Bool × Bool × Nat × List V} (h : F29 k s0 s1 = some r) :
    cP ((k + 15)) 29 [V.str s0, V.str s1] = some (V.sl r.1 r.2.1 r.2.2.1 r.2.2.2) := by
  unfold F29 at h
  obtain ⟨ee, e0, h⟩ := bE h
  cases ee with
  | e0 s2 x0 =>
    obtain ⟨ee, e1, h⟩ := bE h
    cases ee with
    | e0 s3 x1 =>
      obtain ⟨s4, e2, h⟩ := bE h
      obtain ⟨s5, e3, h⟩ := bE h
      obtain ⟨e4, h⟩ := guardP_some.1 h
      obtain ⟨e5, h⟩ := guardP_some.1 h
      have h := Option.some.inj h; subst h; exact P29_0 s0 s1 s2 s3 s4 s5 x0 x1 k (L29_0_ok e0) (L29_1_ok e1) (F54_ok e2) (F54_ok e3) (GrdP.mk e4) (GrdW.mk ⟨rfl, by decide, by decide, e5⟩)
theorem L27_0_b0 (i0 i1 i2 i3 i4 i5 i6 i7 i8 : Int) (b0 : Bool) (s0 s1 s2 s3 : List UInt8) (x0 : List V) (o0 : Option Bool) (n0 k : Nat)
    (c0 : decide (i2 < (↑x0.length : Int)) = true)
    (c1 : IdxP x0 i2 n0 1 (V.str s3))
    (c2 : cP ((k + 17)) 46 [V.str s3] = some (V.agg [vu i5, vu i6]))
    (c3 : cP ((k + 17)) 47 [V.agg [vu (IntKind.u64.wrap (↑(BitVec.ofInt IntKind.u64.bits i3 ^^^ BitVec.ofInt IntKind.u64.bits i5).toNat : Int)), vu (IntKind.u64.wrap (↑(BitVec.ofInt IntKind.u64.bits i4 ^^^ BitVec.ofInt IntKind.u64.bits i6).toNat : Int))], V.agg [vu i0, vu i1]] = some (V.agg [vu i7, vu i8])) :
    evalCode Try.prog Try.cfg (evalFn Try.prog Try.cfg (k + 17)) 0 (Try.cfg.fc 27) (k + 17) (loopBody Try.f27 0) { tm := [(0, V.str s0), (1, V.str s1), (2, V.str s2), (6, V.str []), (7, vi 0), (8, V.ptr 0 0), (9, V.ptr 1 0), (15, V.bool false), (20, V.sl o0 b0 n0 x0), (21, vi (↑x0.length : Int)), (22, vi i2)], hp := [(0, Ob.var [vu i3, vu i4]), (1, Ob.var [vu i0, vu i1])], nx := 2 } = some (Exit.normal, { tm := [(0, V.str s0), (1, V.str s1), (2, V.str s2), (6, V.str []), (7, vi 0), (8, V.ptr 0 0), (9, V.ptr 1 0), (11, V.str s3), (12, V.ptr 26 0), (15, V.bool false), (20, V.sl o0 b0 n0 x0), (21, vi (↑x0.length : Int)), (22, vi (IntKind.i64.wrap (i2 + 1))), (23, V.bool true)], hp := [(0, Ob.var [vu i7, vu i8]), (1, Ob.var [vu i0, vu i1]), (26, Ob.var [vu i5, vu i6])], nx := 98 }) :=
  byL (k := k) (d := 17) [Hn.br 23 true, Hn.op 24 ((V.str s3).cpt 0) [], Hn.call 27 (V.agg [vu i5, vu i6]), Hn.call 40 (V.agg [vu i7, vu i8])] (aI c0 (aI c1 (aI c2 (aI c3 trivial)))) (by kernel_rfl)
theorem L27_0_b0h (i0 i1 i2 i5 i6 i7 i8 : Int) (b0 : Bool) (s0 s1 s2 s3 : List UInt8) (x0 : List V) (o0 : Option Bool) (n0 : Nat) : head 0 [0, 1, 2, 6, 7, 8, 9, 15, 20, 21, 22] (Try.cfg.fc 27).acc { tm := [(0, V.str s0), (1, V.str s1), (2, V.str s2), (6, V.str []), (7, vi 0), (8, V.ptr 0 0), (9, V.ptr 1 0), (11, V.str s3), (12, V.ptr 26 0), (15, V.bool false), (20, V.sl o0 b0 n0 x0), (21, vi (↑x0.length : Int)), (22, vi (IntKind.i64.wrap (i2 + 1))), (23, V.bool true)], hp := [(0, Ob.var [vu i7, vu i8]), (1, Ob.var [vu i0, vu i1]), (26, Ob.var [vu i5, vu i6])], nx := 98 } = { tm := [(0, V.str s0), (1, V.str s1), (2, V.str s2), (6, V.str []), (7, vi 0), (8, V.ptr 0 0), (9, V.ptr 1 0), (15, V.bool false), (20, V.sl o0 b0 n0 x0), (21, vi (↑x0.length : Int)), (22, vi (IntKind.i64.wrap (i2 + 1)))], hp := [(0, Ob.var [vu i7, vu i8]), (1, Ob.var [vu i0, vu i1])], nx := 2 } := by kernel_rfl
theorem L27_0_b1 (i0 i1 i2 i3 i4 : Int) (b0 : Bool) (s0 s1 s2 : List UInt8) (x0 : List V) (o0 : Option Bool) (n0 k : Nat)
    (c0 : decide (i2 < (↑x0.length : Int)) = false) :
    evalCode Try.prog Try.cfg (evalFn Try.prog Try.cfg (k + 17)) 0 (Try.cfg.fc 27) (k + 17) (loopBody Try.f27 0) { tm := [(0, V.str s0), (1, V.str s1), (2, V.str s2), (6, V.str []), (7, vi 0), (8, V.ptr 0 0), (9, V.ptr 1 0), (15, V.bool false), (20, V.sl o0 b0 n0 x0), (21, vi (↑x0.length : Int)), (22, vi i2)], hp := [(0, Ob.var [vu i3, vu i4]), (1, Ob.var [vu i0, vu i1])], nx := 2 } = some (Exit.exit 0, { tm := [(0, V.str s0), (1, V.str s1), (2, V.str s2), (6, V.str []), (7, vi 0), (8, V.ptr 0 0), (9, V.ptr 1 0), (15, V.bool false), (20, V.sl o0 b0 n0 x0), (21, vi (↑x0.length : Int)), (22, vi i2), (23, V.bool false)], hp := [(0, Ob.var [vu i3, vu i4]), (1, Ob.var [vu i0, vu i1])], nx := 6 }) :=
  byL (k := k) (d := 17) [Hn.br 23 false] (aI c0 trivial) (by kernel_rfl)
inductive L27_0_R where
  | e0 (i2 : Int) (i3 : Int) (i4 : Int)
noncomputable def L27_0_end (i0 : Int) (i1 : Int) (b0 : Bool) (s0 : List UInt8) (s1 : List UInt8) (s2 : List UInt8) (x0 : List V) (o0 : Option Bool) (n0 : Nat) : L27_0_R → Exit × St
  | .e0 i2 i3 i4 => (Exit.exit 0, { tm := [(0, V.str s0), (1, V.str s1), (2, V.str s2), (6, V.str []), (7, V.int .i64 0), (8, V.ptr 0 0), (9, V.ptr 1 0), (15, V.bool false), (20, V.sl o0 b0 n0 x0), (21, V.int .i64 (↑x0.length : Int)), (22, V.int .i64 i2), (23, V.bool false)], hp := [(0, Ob.var [V.int .u64 i3, V.int .u64 i4]), (1, Ob.var [V.int .u64 i0, V.int .u64 i1])], nx := 6 })
def L27_0 (k : Nat) (i0 i1 : Int) (b0 : Bool) (s0 s1 s2 : List UInt8) (x0 : List V) (o0 : Option Bool) (n0 : Nat) : Nat → Int → Int → Int → Option L27_0_R
  | 0, _, _, _ => none
  | f + 1, i2, i3, i4 => (bif decide (i2 < (↑x0.length : Int)) then (guardP (n0 = (1 : Nat)) (((at? (x0) (i2)).bind dS).bind fun s3 => ((F46 (k + 11) (s3)).bind fun (i5, i6) => ((F47 (k + 11) (IntKind.u64.wrap (↑(BitVec.ofInt IntKind.u64.bits i3 ^^^ BitVec.ofInt IntKind.u64.bits i5).toNat : Int)) (IntKind.u64.wrap (↑(BitVec.ofInt IntKind.u64.bits i4 ^^^ BitVec.ofInt IntKind.u64.bits i6).toNat : Int)) (i0) (i1)).bind fun (i7, i8) => (L27_0 k i0 i1 b0 s0 s1 s2 x0 o0 n0 f (IntKind.i64.wrap (i2 + 1)) (i7) (i8)))))) else (some (L27_0_R.e0 i2 i3 i4)))
theorem L27_0_ok {i0 i1 : Int} {b0 : Bool} {s0 s1 s2 : List UInt8} {x0 : List V} {o0 : Option Bool} {n0 k : Nat} : ∀ {f : Nat} {i2 : Int} {i3 : Int} {i4 : Int} {r : L27_0_R}, L27_0 k i0 i1 b0 s0 s1 s2 x0 o0 n0 f i2 i3 i4 = some r →
    LoopsN Try.prog Try.cfg (k + 17) 0 Try.f27 (Try.cfg.fc 27) 0 [0, 1, 2, 6, 7, 8, 9, 15, 20, 21, 22] f { tm := [(0, V.str s0), (1, V.str s1), (2, V.str s2), (6, V.str []), (7, vi 0), (8, V.ptr 0 0), (9, V.ptr 1 0), (15, V.bool false), (20, V.sl o0 b0 n0 x0), (21, vi (↑x0.length : Int)), (22, vi i2)], hp := [(0, Ob.var [vu i3, vu i4]), (1, Ob.var [vu i0, vu i1])], nx := 2 } (L27_0_end i0 i1 b0 s0 s1 s2 x0 o0 n0 r) := by
  intro f
  induction f with
  | zero => intro i2 i3 i4 r h; cases h
  | succ f ih =>
    intro i2 i3 i4 r h
    rw [L27_0] at h
    rcases cond_elim h with ⟨e0, h⟩ | ⟨e0, h⟩
    ·
      obtain ⟨e1, h⟩ := guardP_some.1 h
      obtain ⟨s3, e2, h⟩ := bE h
      obtain ⟨⟨i5, i6⟩, e3, h⟩ := bE h
      obtain ⟨⟨i7, i8⟩, e4, h⟩ := bE h
      exact LoopsN.next (L27_0_b0 i0 i1 i2 i3 i4 i5 i6 i7 i8 b0 s0 s1 s2 s3 x0 o0 n0 k e0 (IdxP.of_at' (at_d dS_ok e2 :) e1) (F46_ok e3) (F47_ok e4)) (L27_0_b0h i0 i1 i2 i5 i6 i7 i8 b0 s0 s1 s2 s3 x0 o0 n0) (ih h)
    ·
      cases h; exact LoopsN.done (L27_0_b1 i0 i1 i2 i3 i4 b0 s0 s1 s2 x0 o0 n0 k e0) (fun h => by cases h)
theorem P27_0 (s0 s1 s2 : List UInt8) (k : Nat)
    (c0 : (!decide ((↑s0.length : Int) = 16)) = true) :
    cP ((k + 18)) 27 [V.str s0, V.str s1, V.str s2] = some (V.tup [V.str [], vi 4]) :=
  byF (k := k) (d := 18) [Hn.br 15 true] (aI c0 trivial) (by kernel_rfl)
theorem P27_1 (i0 i1 i2 i3 i4 : Int) (b0 : Bool) (s0 s1 s2 s3 : List UInt8) (x0 : List V) (o0 : Option Bool) (n0 k : Nat)
    (c0 : (!decide ((↑s0.length : Int) = 16)) = false)
    (c1 : cP ((k + 17)) 46 [V.str s0] = some (V.agg [vu i0, vu i1]))
    (c2 : cP ((k + 17)) 29 [V.str s1, V.str s2] = some (V.sl o0 b0 n0 x0))
    (c3 : LoopsN Try.prog Try.cfg (k + 17) 0 Try.f27 (Try.cfg.fc 27) 0 [0, 1, 2, 6, 7, 8, 9, 15, 20, 21, 22] (k + 17) { tm := [(0, V.str s0), (1, V.str s1), (2, V.str s2), (6, V.str []), (7, vi 0), (8, V.ptr 0 0), (9, V.ptr 1 0), (15, V.bool false), (20, V.sl o0 b0 n0 x0), (21, vi (↑x0.length : Int)), (22, vi 0)], hp := [(0, Ob.var [vu 0, vu 0]), (1, Ob.var [vu i0, vu i1])], nx := 2 } (Exit.exit 0, { tm := [(0, V.str s0), (1, V.str s1), (2, V.str s2), (6, V.str []), (7, vi 0), (8, V.ptr 0 0), (9, V.ptr 1 0), (15, V.bool false), (20, V.sl o0 b0 n0 x0), (21, vi (↑x0.length : Int)), (22, vi i2), (23, V.bool false)], hp := [(0, Ob.var [vu i3, vu i4]), (1, Ob.var [vu i0, vu i1])], nx := 6 }))
    (c4 : cP ((k + 17)) 48 [V.agg [vu i3, vu i4]] = some (V.str s3)) :
    cP ((k + 18)) 27 [V.str s0, V.str s1, V.str s2] = some (V.tup [V.str s3, vi 0]) :=
  byF (k := k) (d := 18) [Hn.br 15 false, Hn.call 17 (V.agg [vu i0, vu i1]), Hn.call 20 (V.sl o0 b0 n0 x0), Hn.loop (Exit.exit 0, { tm := [(0, V.str s0), (1, V.str s1), (2, V.str s2), (6, V.str []), (7, vi 0), (8, V.ptr 0 0), (9, V.ptr 1 0), (15, V.bool false), (20, V.sl o0 b0 n0 x0), (21, vi (↑x0.length : Int)), (22, vi i2), (23, V.bool false)], hp := [(0, Ob.var [vu i3, vu i4]), (1, Ob.var [vu i0, vu i1])], nx := 6 }), Hn.call 43 (V.str s3)] (aI c0 (aI c1 (aI c2 (aI c3 (aI c4 trivial))))) (by kernel_rfl)
def F27 (k : Nat) (s0 s1 s2 : List UInt8) : Option (List UInt8 × Int) :=
  (bif !decide ((↑s0.length : Int) = 16) then (some (([]), (4))) else ((F46 (k + 11) (s0)).bind fun (i0, i1) => ((F29 (k + 2) (s1) (s2)).bind fun (o0, b0, n0, x0) => ((L27_0 k i0 i1 b0 s0 s1 s2 x0 o0 n0 (k + 17) (0) (0) (0)).bind fun
    | L27_0_R.e0 i2 i3 i4 => ((F48 (k + 2) (i3) (i4)).bind fun s3 => (some ((s3), (0))))))))
theorem F27_ok {s0 s1 s2 : List UInt8} {k : Nat} {r : List UInt8 × Int} (h : F27 k s0 s1 s2 = some r) :
    cP ((k + 18)) 27 [V.str s0, V.str s1, V.str s2] = some (V.tup [V.str r.1, vi r.2]) := by
  unfold F27 at h
  rcases cond_elim h with ⟨e0, h⟩ | ⟨e0, h⟩
  ·
    have h := Option.some.inj h; subst h; exact P27_0 s0 s1 s2 k e0
  ·
    obtain ⟨⟨i0, i1⟩, e1, h⟩ := bE h
    obtain ⟨⟨o0, b0, n0, x0⟩, e2, h⟩ := bE h
    obtain ⟨ee, e3, h⟩ := bE h
    cases ee with
    | e0 i2 i3 i4 =>
      obtain ⟨s3, e4, h⟩ := bE h
      have h := Option.some.inj h; subst h; exact P27_1 i0 i1 i2 i3 i4 b0 s0 s1 s2 s3 x0 o0 n0 k e0 (F46_ok e1) (F29_ok e2) (L27_0_ok e3) (F48_ok e4)
theorem L55_0_b0 (s1 : List UInt8) (k : Nat)
    (c0 : (!decide ((↑s1.length : Int).tmod 16 = 0)) = true)
    (c1 : GrdP (s1.length + [(0 : UInt8)].length ≤ maxText) (V.str (s1 ++ [(0 : UInt8)]))) :
    evalCode Try.prog Try.cfg (evalFn Try.prog Try.cfg (k + 2)) 0 (Try.cfg.fc 55) (k + 2) (loopBody Try.f55 0) { tm := [(0, V.str s1), (2, V.sl (some true) true 0 [])], hp := [], nx := 0 } = some (Exit.normal, { tm := [(0, V.str (s1 ++ [0])), (2, V.sl (some true) true 0 []), (8, V.bool true)], hp := [(20, Ob.row false 1 [vb 0])], nx := 36 }) :=
  byL (k := k) (d := 2) [Hn.br 8 true, Hn.op 12 (V.str (s1 ++ [0])) []] (aI c0 (aI c1 trivial)) (by kernel_rfl)
theorem L55_0_b0h (s1 : List UInt8) : head 0 [0, 2] (Try.cfg.fc 55).acc { tm := [(0, V.str (s1 ++ [0])), (2, V.sl (some true) true 0 []), (8, V.bool true)], hp := [(20, Ob.row false 1 [vb 0])], nx := 36 } = { tm := [(0, V.str (s1 ++ [0])), (2, V.sl (some true) true 0 [])], hp := [], nx := 0 } := by kernel_rfl
theorem L55_0_b1 (s1 : List UInt8) (k : Nat)
    (c0 : (!decide ((↑s1.length : Int).tmod 16 = 0)) = false) :
    evalCode Try.prog Try.cfg (evalFn Try.prog Try.cfg (k + 2)) 0 (Try.cfg.fc 55) (k + 2) (loopBody Try.f55 0) { tm := [(0, V.str s1), (2, V.sl (some true) true 0 [])], hp := [], nx := 0 } = some (Exit.exit 0, { tm := [(0, V.str s1), (2, V.sl (some true) true 0 []), (8, V.bool false)], hp := [], nx := 16 }) :=
  byL (k := k) (d := 2) [Hn.br 8 false] (aI c0 trivial) (by kernel_rfl)
inductive L55_0_R where
  | e0 (s1 : List UInt8)
noncomputable def L55_0_end : L55_0_R → Exit × St
  | .e0 s1 => (Exit.exit 0, { tm := [(0, V.str s1), (2, V.sl (some true) true 0 []), (8, V.bool false)], hp := [], nx := 16 })
def L55_0 (k : Nat) : Nat → List UInt8 → Option L55_0_R
  | 0, _ => none
  | f + 1, s1 => (bif !decide ((↑s1.length : Int).tmod 16 = 0) then (guardP (s1.length + [(0 : UInt8)].length ≤ maxText) (L55_0 k f (s1 ++ [0]))) else (some (L55_0_R.e0 s1)))
theorem L55_0_ok {k : Nat} : ∀ {f : Nat} {s1 : List UInt8} {r : L55_0_R}, L55_0 k f s1 = some r →
    LoopsN Try.prog Try.cfg (k + 2) 0 Try.f55 (Try.cfg.fc 55) 0 [0, 2] f { tm := [(0, V.str s1), (2, V.sl (some true) true 0 [])], hp := [], nx := 0 } (L55_0_end r) := by
  intro f
  induction f with
  | zero => intro s1 r h; cases h
  | succ f ih =>
    intro s1 r h
    rw [L55_0] at h
    rcases cond_elim h with ⟨e0, h⟩ | ⟨e0, h⟩
    ·
      obtain ⟨e1, h⟩ := guardP_some.1 h
      exact LoopsN.next (L55_0_b0 s1 k e0 (GrdP.mk e1)) (L55_0_b0h s1) (ih h)
    ·
      cases h; exact LoopsN.done (L55_0_b1 s1 k e0) (fun h => by cases h)
theorem L55_1_b0 (i0 : Int) (s1 : List UInt8) (x0 : List V) (k : Nat)
    (c0 : decide (i0 < (↑s1.length : Int)) = true)
    (c1 : SlcP false 0 (V.str s1) (some (vi i0)) (some (vi (IntKind.i64.wrap (i0 + 16)))) none (V.str (List.drop i0.toNat (List.take (IntKind.i64.wrap (i0 + 16)).toNat s1))))
    (c2 : GrdW ((1 : Nat) = (1 : Nat) ∧ (0 : Nat) < (1 : Nat) ∧ (16 : Nat) ≤ (64 : Nat) ∧ x0.length + (1 : Nat) ≤ maxLen') (V.ref (45 : Nat)) [((0 : Nat), Ob.dead), ((45 : Nat), Ob.row false (1 : Nat) (x0 ++ [V.str (List.drop i0.toNat (List.take (IntKind.i64.wrap (i0 + (16 : Int))).toNat s1))]))]) :
    evalCode Try.prog Try.cfg (evalFn Try.prog Try.cfg (k + 2)) 0 (Try.cfg.fc 55) (k + 2) (loopBody Try.f55 1) { tm := [(0, V.str s1), (2, V.sl (some true) true 0 []), (3, V.ref 0), (4, vi i0), (8, V.bool false)], hp := [(0, Ob.row false 1 x0)], nx := 1 } = some (Exit.normal, { tm := [(0, V.str s1), (2, V.sl (some true) true 0 []), (3, V.ref 45), (4, vi (IntKind.i64.wrap (i0 + 16))), (8, V.bool false), (17, V.bool true)], hp := [(0, Ob.dead), (41, Ob.row false 1 [V.str (List.drop i0.toNat (List.take (IntKind.i64.wrap (i0 + 16)).toNat s1))]), (45, Ob.row false 1 (x0 ++ [V.str (List.drop i0.toNat (List.take (IntKind.i64.wrap (i0 + 16)).toNat s1))]))], nx := 65 }) :=
  byL (k := k) (d := 2) [Hn.br 17 true, Hn.op 25 (V.str (List.drop i0.toNat (List.take (IntKind.i64.wrap (i0 + 16)).toNat s1))) [], Hn.op 27 (V.ref 45) [(0, Ob.dead), (45, Ob.row false 1 (x0 ++ [V.str (List.drop i0.toNat (List.take (IntKind.i64.wrap (i0 + 16)).toNat s1))]))]] (aI c0 (aI c1 (aI c2 trivial))) (by kernel_rfl)
theorem L55_1_b0h (i0 : Int) (s1 : List UInt8) (x0 : List V) : head 0 [0, 2, 3, 4, 8] (Try.cfg.fc 55).acc { tm := [(0, V.str s1), (2, V.sl (some true) true 0 []), (3, V.ref 45), (4, vi (IntKind.i64.wrap (i0 + 16))), (8, V.bool false), (17, V.bool true)], hp := [(0, Ob.dead), (41, Ob.row false 1 [V.str (List.drop i0.toNat (List.take (IntKind.i64.wrap (i0 + 16)).toNat s1))]), (45, Ob.row false 1 (x0 ++ [V.str (List.drop i0.toNat (List.take (IntKind.i64.wrap (i0 + 16)).toNat s1))]))], nx := 65 } = { tm := [(0, V.str s1), (2, V.sl (some true) true 0 []), (3, V.ref 0), (4, vi (IntKind.i64.wrap (i0 + 16))), (8, V.bool false)], hp := [(0, Ob.row false 1 (x0 ++ [V.str (List.drop i0.toNat (List.take (IntKind.i64.wrap (i0 + 16)).toNat s1))]))], nx := 1 } := by kernel_rfl
theorem L55_1_b1 (i0 : Int) (s1 : List UInt8) (x0 : List V) (k : Nat)
    (c0 : decide (i0 < (↑s1.length : Int)) = false) :
    evalCode Try.prog Try.cfg (evalFn Try.prog Try.cfg (k + 2)) 0 (Try.cfg.fc 55) (k + 2) (loopBody Try.f55 1) { tm := [(0, V.str s1), (2, V.sl (some true) true 0 []), (3, V.ref 0), (4, vi i0), (8, V.bool false)], hp := [(0, Ob.row false 1 x0)], nx := 1 } = some (Exit.exit 2, { tm := [(0, V.str s1), (2, V.sl (some true) true 0 []), (3, V.ref 0), (4, vi i0), (8, V.bool false), (17, V.bool false)], hp := [(0, Ob.row false 1 x0)], nx := 17 }) :=
  byL (k := k) (d := 2) [Hn.br 17 false] (aI c0 trivial) (by kernel_rfl)
inductive L55_1_R where
  | e0 (i0 : Int) (x0 : List V)
noncomputable def L55_1_end (s1 : List UInt8) : L55_1_R → Exit × St
  | .e0 i0 x0 => (Exit.exit 2, { tm := [(0, V.str s1), (2, V.sl (some true) true 0 []), (3, V.ref 0), (4, V.int .i64 i0), (8, V.bool false), (17, V.bool false)], hp := [(0, Ob.row false 1 x0)], nx := 17 })
def L55_1 (k : Nat) (s1 : List UInt8) : Nat → Int → List V → Option L55_1_R
  | 0, _, _ => none
  | f + 1, i0, x0 => (bif decide (i0 < (↑s1.length : Int)) then (guardP ((0 : Int) ≤ i0 ∧ i0 ≤ IntKind.i64.wrap (i0 + (16 : Int)) ∧ IntKind.i64.wrap (i0 + (16 : Int)) ≤ (↑s1.length : Int)) (guardP (x0.length + (1 : Nat) ≤ maxLen') (L55_1 k s1 f (IntKind.i64.wrap (i0 + 16)) (x0 ++ [V.str (List.drop i0.toNat (List.take (IntKind.i64.wrap (i0 + 16)).toNat s1))])))) else (some (L55_1_R.e0 i0 x0)))
theorem L55_1_ok {s1 : List UInt8} {k : Nat} : ∀ {f : Nat} {i0 : Int} {x0 : List V} {r : L55_1_R}, L55_1 k s1 f i0 x0 = some r →
    LoopsN Try.prog Try.cfg (k + 2) 0 Try.f55 (Try.cfg.fc 55) 1 [0, 2, 3, 4, 8] f { tm := [(0, V.str s1), (2, V.sl (some true) true 0 []), (3, V.ref 0), (4, vi i0), (8, V.bool false)], hp := [(0, Ob.row false 1 x0)], nx := 1 } (L55_1_end s1 r) := by
  intro f
  induction f with
  | zero => intro i0 x0 r h; cases h
  | succ f ih =>
    intro i0 x0 r h
    rw [L55_1] at h
    rcases cond_elim h with ⟨e0, h⟩ | ⟨e0, h⟩
    ·
      obtain ⟨e1, h⟩ := guardP_some.1 h
      obtain ⟨e2, h⟩ := guardP_some.1 h
      exact LoopsN.next (L55_1_b0 i0 s1 x0 k e0 (SlcP.strMid e1) (GrdW.mk ⟨rfl, by decide, by decide, e2⟩)) (L55_1_b0h i0 s1 x0) (ih h)
    ·
      cases h; exact LoopsN.done (L55_1_b1 i0 s1 x0 k e0) (fun h => by cases h)
theorem P55_0 (i0 : Int) (s0 s1 : List UInt8) (x0 : List V) (k : Nat)
    (c0 : LoopsN Try.prog Try.cfg (k + 2) 0 Try.f55 (Try.cfg.fc 55) 0 [0, 2] (k + 2) { tm := [(0, V.str s0), (2, V.sl (some true) true 0 [])], hp := [], nx := 0 } (Exit.exit 0, { tm := [(0, V.str s1), (2, V.sl (some true) true 0 []), (8, V.bool false)], hp := [], nx := 16 }))
    (c1 : LoopsN Try.prog Try.cfg (k + 2) 0 Try.f55 (Try.cfg.fc 55) 1 [0, 2, 3, 4, 8] (k + 2) { tm := [(0, V.str s1), (2, V.sl (some true) true 0 []), (3, V.ref 0), (4, vi 0), (8, V.bool false)], hp := [(0, Ob.row false 1 [])], nx := 1 } (Exit.exit 2, { tm := [(0, V.str s1), (2, V.sl (some true) true 0 []), (3, V.ref 0), (4, vi i0), (8, V.bool false), (17, V.bool false)], hp := [(0, Ob.row false 1 x0)], nx := 17 })) :
    cP ((k + 3)) 55 [V.str s0] = some (V.sl none false 1 x0) :=
  byF (k := k) (d := 3) [Hn.loop (Exit.exit 0, { tm := [(0, V.str s1), (2, V.sl (some true) true 0 []), (8, V.bool false)], hp := [], nx := 16 }), Hn.loop (Exit.exit 2, { tm := [(0, V.str s1), (2, V.sl (some true) true 0 []), (3, V.ref 0), (4, vi i0), (8, V.bool false), (17, V.bool false)], hp := [(0, Ob.row false 1 x0)], nx := 17 })] (aI c0 (aI c1 trivial)) (by kernel_rfl)
def F55 (k : Nat) (s0 : List UInt8) : Option (Option Bool × Bool × Nat × List V) :=
  ((L55_0 k (k + 2) (s0)).bind fun
    | L55_0_R.e0 s1 => ((L55_1 k s1 (k + 2) (0) ([])).bind fun
    | L55_1_R.e0 i0 x0 => (some ((none), (false), (1), (x0)))))
theorem F55_ok {s0 : List UInt8} {k : Nat} {r : Option Bool × Bool × Nat × List V} (h : F55 k s0 = some r) :
    cP ((k + 3)) 55 [V.str s0] = some (V.sl r.1 r.2.1 r.2.2.1 r.2.2.2) := by
  unfold F55 at h
  obtain ⟨ee, e0, h⟩ := bE h
  cases ee with
  | e0 s1 =>
    obtain ⟨ee, e1, h⟩ := bE h
    cases ee with
    | e0 i0 x0 =>
      have h := Option.some.inj h; subst h; exact P55_0 i0 s0 s1 x0 k (L55_0_ok e0) (L55_1_ok e1)
theorem L56_0_b0 (i1 i2 : Int) (s0 : List UInt8) (k : Nat)
    (c0 : decide (i2 < 8) = true)
    (c1 : GrdP ((List.map Sym.byteOf ((1 : Nat), [vb (IntKind.u8.wrap (i1.tmod (256 : Int)))]).snd).length + s0.length ≤ maxText) (V.str (List.map Sym.byteOf ((1 : Nat), [vb (IntKind.u8.wrap (i1.tmod (256 : Int)))]).snd ++ s0))) :
    evalCode Try.prog Try.cfg (evalFn Try.prog Try.cfg (k + 2)) 0 (Try.cfg.fc 56) (k + 2) (loopBody Try.f56 0) { tm := [(0, vu i1), (2, V.str []), (3, V.str s0), (4, vi i2)], hp := [], nx := 0 } = some (Exit.normal, { tm := [(0, vu (IntKind.u64.wrap (i1.tdiv 256))), (2, V.str []), (3, V.str (List.map Sym.byteOf (1, [vb (IntKind.u8.wrap (i1.tmod 256))]).snd ++ s0)), (4, vi (IntKind.i64.wrap (i2 + 1))), (6, V.bool true)], hp := [(20, Ob.row false 1 [vb (IntKind.u8.wrap (i1.tmod 256))])], nx := 64 }) :=
  byL (k := k) (d := 2) [Hn.br 6 true, Hn.op 15 (V.str (List.map Sym.byteOf (1, [vb (IntKind.u8.wrap (i1.tmod 256))]).snd ++ s0)) []] (aI c0 (aI c1 trivial)) (by kernel_rfl)
theorem L56_0_b0h (i1 i2 : Int) (s0 : List UInt8) : head 0 [0, 2, 3, 4] (Try.cfg.fc 56).acc { tm := [(0, vu (IntKind.u64.wrap (i1.tdiv 256))), (2, V.str []), (3, V.str (List.map Sym.byteOf (1, [vb (IntKind.u8.wrap (i1.tmod 256))]).snd ++ s0)), (4, vi (IntKind.i64.wrap (i2 + 1))), (6, V.bool true)], hp := [(20, Ob.row false 1 [vb (IntKind.u8.wrap (i1.tmod 256))])], nx := 64 } = { tm := [(0, vu (IntKind.u64.wrap (i1.tdiv 256))), (2, V.str []), (3, V.str (List.map Sym.byteOf (1, [vb (IntKind.u8.wrap (i1.tmod 256))]).snd ++ s0)), (4, vi (IntKind.i64.wrap (i2 + 1)))], hp := [], nx := 0 } := by kernel_rfl
theorem L56_0_b1 (i1 i2 : Int) (s0 : List UInt8) (k : Nat)
    (c0 : decide (i2 < 8) = false) :
    evalCode Try.prog Try.cfg (evalFn Try.prog Try.cfg (k + 2)) 0 (Try.cfg.fc 56) (k + 2) (loopBody Try.f56 0) { tm := [(0, vu i1), (2, V.str []), (3, V.str s0), (4, vi i2)], hp := [], nx := 0 } = some (Exit.exit 0, { tm := [(0, vu i1), (2, V.str []), (3, V.str s0), (4, vi i2), (6, V.bool false)], hp := [], nx := 8 }) :=
  byL (k := k) (d := 2) [Hn.br 6 false] (aI c0 trivial) (by kernel_rfl)
inductive L56_0_R where
  | e0 (i1 : Int) (i2 : Int) (s0 : List UInt8)
noncomputable def L56_0_end : L56_0_R → Exit × St
  | .e0 i1 i2 s0 => (Exit.exit 0, { tm := [(0, V.int .u64 i1), (2, V.str []), (3, V.str s0), (4, V.int .i64 i2), (6, V.bool false)], hp := [], nx := 8 })
def L56_0 (k : Nat) : Nat → Int → List UInt8 → Int → Option L56_0_R
  | 0, _, _, _ => none
  | f + 1, i1, s0, i2 => (bif decide (i2 < 8) then (guardP ((List.map Sym.byteOf ((1 : Nat), [V.int .u8 (IntKind.u8.wrap (i1.tmod (256 : Int)))]).snd).length + s0.length ≤ maxText) (L56_0 k f (IntKind.u64.wrap (i1.tdiv 256)) (List.map Sym.byteOf (1, [V.int .u8 (IntKind.u8.wrap (i1.tmod 256))]).snd ++ s0) (IntKind.i64.wrap (i2 + 1)))) else (some (L56_0_R.e0 i1 i2 s0)))
theorem L56_0_ok {k : Nat} : ∀ {f : Nat} {i1 : Int} {s0 : List UInt8} {i2 : Int} {r : L56_0_R}, L56_0 k f i1 s0 i2 = some r →
    LoopsN Try.prog Try.cfg (k + 2) 0 Try.f56 (Try.cfg.fc 56) 0 [0, 2, 3, 4] f { tm := [(0, vu i1), (2, V.str []), (3, V.str s0), (4, vi i2)], hp := [], nx := 0 } (L56_0_end r) := by
  intro f
  induction f with
  | zero => intro i1 s0 i2 r h; cases h
  | succ f ih =>
    intro i1 s0 i2 r h
    rw [L56_0] at h
    rcases cond_elim h with ⟨e0, h⟩ | ⟨e0, h⟩
    ·
      obtain ⟨e1, h⟩ := guardP_some.1 h
      exact LoopsN.next (L56_0_b0 i1 i2 s0 k e0 (GrdP.mk e1)) (L56_0_b0h i1 i2 s0) (ih h)
    ·
      cases h; exact LoopsN.done (L56_0_b1 i1 i2 s0 k e0) (fun h => by cases h)
theorem P56_0 (i0 i1 i2 : Int) (s0 : List UInt8) (k : Nat)
    (c0 : LoopsN Try.prog Try.cfg (k + 2) 0 Try.f56 (Try.cfg.fc 56) 0 [0, 2, 3, 4] (k + 2) { tm := [(0, vu i0), (2, V.str []), (3, V.str []), (4, vi 0)], hp := [], nx := 0 } (Exit.exit 0, { tm := [(0, vu i1), (2, V.str []), (3, V.str s0), (4, vi i2), (6, V.bool false)], hp := [], nx := 8 })) :
    cP ((k + 3)) 56 [vu i0] = some (V.str s0) :=
  byF (k := k) (d := 3) [Hn.loop (Exit.exit 0, { tm := [(0, vu i1), (2, V.str []), (3, V.str s0), (4, vi i2), (6, V.bool false)], hp := [], nx := 8 })] (aI c0 trivial) (by kernel_rfl)
def F56 (k : Nat) (i0 : Int) : Option (List UInt8) :=
  ((L56_0 k (k + 2) (i0) ([]) (0)).bind fun
    | L56_0_R.e0 i1 i2 s0 => (some (s0)))
theorem F56_ok {i0 : Int} {k : Nat} {r : List UInt8} (h : F56 k i0 = some r) :
    cP ((k + 3)) 56 [vu i0] = some (V.str r) := by
  unfold F56 at h
  obtain ⟨ee, e0, h⟩ := bE h
  cases ee with
  | e0 i1 i2 s0 =>
    have h := Option.some.inj h; subst h; exact P56_0 i0 i1 i2 s0 k (L56_0_ok e0)
theorem L30_0_b0 (s2 : List UInt8) (k : Nat)
    (c0 : (!decide ((↑s2.length : Int).tmod 16 = 0)) = true)
    (c1 : GrdP (s2.length + [(0 : UInt8)].length ≤ maxText) (V.str (s2 ++ [(0 : UInt8)]))) :
    evalCode Try.prog Try.cfg (evalFn Try.prog Try.cfg (k + 4)) 8 (Try.cfg.fc 55) (k + 4) (loopBody Try.f55 0) { tm := [(0, V.str s2), (2, V.sl (some true) true 0 [])], hp := [], nx := 8 } = some (Exit.normal, { tm := [(0, V.str (s2 ++ [0])), (2, V.sl (some true) true 0 []), (8, V.bool true)], hp := [(28, Ob.row false 1 [vb 0])], nx := 44 }) :=
  byL (k := k) (d := 4) [Hn.br 8 true, Hn.op 12 (V.str (s2 ++ [0])) []] (aI c0 (aI c1 trivial)) (by kernel_rfl)
theorem L30_0_b0h (s2 : List UInt8) : head 8 [0, 2] (Try.cfg.fc 55).acc { tm := [(0, V.str (s2 ++ [0])), (2, V.sl (some true) true 0 []), (8, V.bool true)], hp := [(28, Ob.row false 1 [vb 0])], nx := 44 } = { tm := [(0, V.str (s2 ++ [0])), (2, V.sl (some true) true 0 [])], hp := [], nx := 8 } := by kernel_rfl
theorem L30_0_b1 (s2 : List UInt8) (k : Nat)
    (c0 : (!decide ((↑s2.length : Int).tmod 16 = 0)) = false) :
    evalCode Try.prog Try.cfg (evalFn Try.prog Try.cfg (k + 4)) 8 (Try.cfg.fc 55) (k + 4) (loopBody Try.f55 0) { tm := [(0, V.str s2), (2, V.sl (some true) true 0 [])], hp := [], nx := 8 } = some (Exit.exit 0, { tm := [(0, V.str s2), (2, V.sl (some true) true 0 []), (8, V.bool false)], hp := [], nx := 24 }) :=
  byL (k := k) (d := 4) [Hn.br 8 false] (aI c0 trivial) (by kernel_rfl)
inductive L30_0_R where
  | e0 (s2 : List UInt8)
noncomputable def L30_0_end : L30_0_R → Exit × St
  | .e0 s2 => (Exit.exit 0, { tm := [(0, V.str s2), (2, V.sl (some true) true 0 []), (8, V.bool false)], hp := [], nx := 24 })
def L30_0 (k : Nat) : Nat → List UInt8 → Option L30_0_R
  | 0, _ => none
  | f + 1, s2 => (bif !decide ((↑s2.length : Int).tmod 16 = 0) then (guardP (s2.length + [(0 : UInt8)].length ≤ maxText) (L30_0 k f (s2 ++ [0]))) else (some (L30_0_R.e0 s2)))
theorem L30_0_ok {k : Nat} : ∀ {f : Nat} {s2 : List UInt8} {r : L30_0_R}, L30_0 k f s2 = some r →
    LoopsN Try.prog Try.cfg (k + 4) 8 Try.f55 (Try.cfg.fc 55) 0 [0, 2] f { tm := [(0, V.str s2), (2, V.sl (some true) true 0 [])], hp := [], nx := 8 } (L30_0_end r) := by
  intro f
  induction f with
  | zero => intro s2 r h; cases h
  | succ f ih =>
    intro s2 r h
    rw [L30_0] at h
    rcases cond_elim h with ⟨e0, h⟩ | ⟨e0, h⟩
    ·
      obtain ⟨e1, h⟩ := guardP_some.1 h
      exact LoopsN.next (L30_0_b0 s2 k e0 (GrdP.mk e1)) (L30_0_b0h s2) (ih h)
    ·
      cases h; exact LoopsN.done (L30_0_b1 s2 k e0) (fun h => by cases h)
theorem L30_1_b0 (i0 : Int) (s2 : List UInt8) (x0 : List V) (k : Nat)
    (c0 : decide (i0 < (↑s2.length : Int)) = true)
    (c1 : SlcP false 0 (V.str s2) (some (vi i0)) (some (vi (IntKind.i64.wrap (i0 + 16)))) none (V.str (List.drop i0.toNat (List.take (IntKind.i64.wrap (i0 + 16)).toNat s2))))
    (c2 : GrdW ((1 : Nat) = (1 : Nat) ∧ (0 : Nat) < (1 : Nat) ∧ (16 : Nat) ≤ (64 : Nat) ∧ x0.length + (1 : Nat) ≤ maxLen') (V.ref (53 : Nat)) [((8 : Nat), Ob.dead), ((53 : Nat), Ob.row false (1 : Nat) (x0 ++ [V.str (List.drop i0.toNat (List.take (IntKind.i64.wrap (i0 + (16 : Int))).toNat s2))]))]) :
    evalCode Try.prog Try.cfg (evalFn Try.prog Try.cfg (k + 4)) 8 (Try.cfg.fc 55) (k + 4) (loopBody Try.f55 1) { tm := [(0, V.str s2), (2, V.sl (some true) true 0 []), (3, V.ref 8), (4, vi i0), (8, V.bool false)], hp := [(8, Ob.row false 1 x0)], nx := 9 } = some (Exit.normal, { tm := [(0, V.str s2), (2, V.sl (some true) true 0 []), (3, V.ref 53), (4, vi (IntKind.i64.wrap (i0 + 16))), (8, V.bool false), (17, V.bool true)], hp := [(8, Ob.dead), (49, Ob.row false 1 [V.str (List.drop i0.toNat (List.take (IntKind.i64.wrap (i0 + 16)).toNat s2))]), (53, Ob.row false 1 (x0 ++ [V.str (List.drop i0.toNat (List.take (IntKind.i64.wrap (i0 + 16)).toNat s2))]))], nx := 73 }) :=
  byL (k := k) (d := 4) [Hn.br 17 true, Hn.op 25 (V.str (List.drop i0.toNat (List.take (IntKind.i64.wrap (i0 + 16)).toNat s2))) [], Hn.op 27 (V.ref 53) [(8, Ob.dead), (53, Ob.row false 1 (x0 ++ [V.str (List.drop i0.toNat (List.take (IntKind.i64.wrap (i0 + 16)).toNat s2))]))]] (aI c0 (aI c1 (aI c2 trivial))) (by kernel_rfl)
theorem L30_1_b0h (i0 : Int) (s2 : List UInt8) (x0 : List V) : head 8 [0, 2, 3, 4, 8] (Try.cfg.fc 55).acc { tm := [(0, V.str s2), (2, V.sl (some true) true 0 []), (3, V.ref 53), (4, vi (IntKind.i64.wrap (i0 + 16))), (8, V.bool false), (17, V.bool true)], hp := [(8, Ob.dead), (49, Ob.row false 1 [V.str (List.drop i0.toNat (List.take (IntKind.i64.wrap (i0 + 16)).toNat s2))]), (53, Ob.row false 1 (x0 ++ [V.str (List.drop i0.toNat (List.take (IntKind.i64.wrap (i0 + 16)).toNat s2))]))], nx := 73 } = { tm := [(0, V.str s2), (2, V.sl (some true) true 0 []), (3, V.ref 8), (4, vi (IntKind.i64.wrap (i0 + 16))), (8, V.bool false)], hp := [(8, Ob.row false 1 (x0 ++ [V.str (List.drop i0.toNat (List.take (IntKind.i64.wrap (i0 + 16)).toNat s2))]))], nx := 9 } := by kernel_rfl
theorem L30_1_b1 (i0 : Int) (s2 : List UInt8) (x0 : List V) (k : Nat)
    (c0 : decide (i0 < (↑s2.length : Int)) = false) :
    evalCode Try.prog Try.cfg (evalFn Try.prog Try.cfg (k + 4)) 8 (Try.cfg.fc 55) (k + 4) (loopBody Try.f55 1) { tm := [(0, V.str s2), (2, V.sl (some true) true 0 []), (3, V.ref 8), (4, vi i0), (8, V.bool false)], hp := [(8, Ob.row false 1 x0)], nx := 9 } = some (Exit.exit 2, { tm := [(0, V.str s2), (2, V.sl (some true) true 0 []), (3, V.ref 8), (4, vi i0), (8, V.bool false), (17, V.bool false)], hp := [(8, Ob.row false 1 x0)], nx := 25 }) :=
  byL (k := k) (d := 4) [Hn.br 17 false] (aI c0 trivial) (by kernel_rfl)
inductive L30_1_R where
  | e0 (i0 : Int) (x0 : List V)
noncomputable def L30_1_end (s2 : List UInt8) : L30_1_R → Exit × St
  | .e0 i0 x0 => (Exit.exit 2, { tm := [(0, V.str s2), (2, V.sl (some true) true 0 []), (3, V.ref 8), (4, V.int .i64 i0), (8, V.bool false), (17, V.bool false)], hp := [(8, Ob.row false 1 x0)], nx := 25 })
def L30_1 (k : Nat) (s2 : List UInt8) : Nat → Int → List V → Option L30_1_R
  | 0, _, _ => none
  | f + 1, i0, x0 => (bif decide (i0 < (↑s2.length : Int)) then (guardP ((0 : Int) ≤ i0 ∧ i0 ≤ IntKind.i64.wrap (i0 + (16 : Int)) ∧ IntKind.i64.wrap (i0 + (16 : Int)) ≤ (↑s2.length : Int)) (guardP (x0.length + (1 : Nat) ≤ maxLen') (L30_1 k s2 f (IntKind.i64.wrap (i0 + 16)) (x0 ++ [V.str (List.drop i0.toNat (List.take (IntKind.i64.wrap (i0 + 16)).toNat s2))])))) else (some (L30_1_R.e0 i0 x0)))
theorem L30_1_ok {s2 : List UInt8} {k : Nat} : ∀ {f : Nat} {i0 : Int} {x0 : List V} {r : L30_1_R}, L30_1 k s2 f i0 x0 = some r →
    LoopsN Try.prog Try.cfg (k + 4) 8 Try.f55 (Try.cfg.fc 55) 1 [0, 2, 3, 4, 8] f { tm := [(0, V.str s2), (2, V.sl (some true) true 0 []), (3, V.ref 8), (4, vi i0), (8, V.bool false)], hp := [(8, Ob.row false 1 x0)], nx := 9 } (L30_1_end s2 r) := by
  intro f
  induction f with
  | zero => intro i0 x0 r h; cases h
  | succ f ih =>
    intro i0 x0 r h
    rw [L30_1] at h
    rcases cond_elim h with ⟨e0, h⟩ | ⟨e0, h⟩
    ·
      obtain ⟨e1, h⟩ := guardP_some.1 h
      obtain ⟨e2, h⟩ := guardP_some.1 h
      exact LoopsN.next (L30_1_b0 i0 s2 x0 k e0 (SlcP.strMid e1) (GrdW.mk ⟨rfl, by decide, by decide, e2⟩)) (L30_1_b0h i0 s2 x0) (ih h)
    ·
      cases h; exact LoopsN.done (L30_1_b1 i0 s2 x0 k e0) (fun h => by cases h)
theorem L30_2_b0 (s3 : List UInt8) (x0 : List V) (k : Nat)
    (c0 : (!decide ((↑s3.length : Int).tmod 16 = 0)) = true)
    (c1 : GrdP (s3.length + [(0 : UInt8)].length ≤ maxText) (V.str (s3 ++ [(0 : UInt8)]))) :
    evalCode Try.prog Try.cfg (evalFn Try.prog Try.cfg (k + 4)) 45 (Try.cfg.fc 55) (k + 4) (loopBody Try.f55 0) { tm := [(0, V.str s3), (2, V.sl (some true) true 0 [])], hp := [(8, Ob.row false 1 x0)], nx := 45 } = some (Exit.normal, { tm := [(0, V.str (s3 ++ [0])), (2, V.sl (some true) true 0 []), (8, V.bool true)], hp := [(8, Ob.row false 1 x0), (65, Ob.row false 1 [vb 0])], nx := 81 }) :=
  byL (k := k) (d := 4) [Hn.br 8 true, Hn.op 12 (V.str (s3 ++ [0])) []] (aI c0 (aI c1 trivial)) (by kernel_rfl)
theorem L30_2_b0h (s3 : List UInt8) (x0 : List V) : head 45 [0, 2] (Try.cfg.fc 55).acc { tm := [(0, V.str (s3 ++ [0])), (2, V.sl (some true) true 0 []), (8, V.bool true)], hp := [(8, Ob.row false 1 x0), (65, Ob.row false 1 [vb 0])], nx := 81 } = { tm := [(0, V.str (s3 ++ [0])), (2, V.sl (some true) true 0 [])], hp := [(8, Ob.row false 1 x0)], nx := 45 } := by kernel_rfl
theorem L30_2_b1 (s3 : List UInt8) (x0 : List V) (k : Nat)
    (c0 : (!decide ((↑s3.length : Int).tmod 16 = 0)) = false) :
    evalCode Try.prog Try.cfg (evalFn Try.prog Try.cfg (k + 4)) 45 (Try.cfg.fc 55) (k + 4) (loopBody Try.f55 0) { tm := [(0, V.str s3), (2, V.sl (some true) true 0 [])], hp := [(8, Ob.row false 1 x0)], nx := 45 } = some (Exit.exit 0, { tm := [(0, V.str s3), (2, V.sl (some true) true 0 []), (8, V.bool false)], hp := [(8, Ob.row false 1 x0)], nx := 61 }) :=
  byL (k := k) (d := 4) [Hn.br 8 false] (aI c0 trivial) (by kernel_rfl)
inductive L30_2_R where
  | e0 (s3 : List UInt8)
noncomputable def L30_2_end (x0 : List V) : L30_2_R → Exit × St
  | .e0 s3 => (Exit.exit 0, { tm := [(0, V.str s3), (2, V.sl (some true) true 0 []), (8, V.bool false)], hp := [(8, Ob.row false 1 x0)], nx := 61 })
def L30_2 (k : Nat) (x0 : List V) : Nat → List UInt8 → Option L30_2_R
  | 0, _ => none
  | f + 1, s3 => (bif !decide ((↑s3.length : Int).tmod 16 = 0) then (guardP (s3.length + [(0 : UInt8)].length ≤ maxText) (L30_2 k x0 f (s3 ++ [0]))) else (some (L30_2_R.e0 s3)))
theorem L30_2_ok {x0 : List V} {k : Nat} : ∀ {f : Nat} {s3 : List UInt8} {r : L30_2_R}, L30_2 k x0 f s3 = some r →
    LoopsN Try.prog Try.cfg (k + 4) 45 Try.f55 (Try.cfg.fc 55) 0 [0, 2] f { tm := [(0, V.str s3), (2, V.sl (some true) true 0 [])], hp := [(8, Ob.row false 1 x0)], nx := 45 } (L30_2_end x0 r) := by
  intro f
  induction f with
  | zero => intro s3 r h; cases h
  | succ f ih =>
    intro s3 r h
    rw [L30_2] at h
    rcases cond_elim h with ⟨e0, h⟩ | ⟨e0, h⟩
    ·
      obtain ⟨e1, h⟩ := guardP_some.1 h
      exact LoopsN.next (L30_2_b0 s3 x0 k e0 (GrdP.mk e1)) (L30_2_b0h s3 x0) (ih h)
    ·
      cases h; exact LoopsN.done (L30_2_b1 s3 x0 k e0) (fun h => by cases h)
theorem L30_3_b0 (i1 : Int) (s3 : List UInt8) (x0 x1 : List V) (k : Nat)
    (c0 : decide (i1 < (↑s3.length : Int)) = true)
    (c1 : SlcP false 0 (V.str s3) (some (vi i1)) (some (vi (IntKind.i64.wrap (i1 + 16)))) none (V.str (List.drop i1.toNat (List.take (IntKind.i64.wrap (i1 + 16)).toNat s3))))
    (c2 : GrdW ((1 : Nat) = (1 : Nat) ∧ (0 : Nat) < (1 : Nat) ∧ (16 : Nat) ≤ (64 : Nat) ∧ x1.length + (1 : Nat) ≤ maxLen') (V.ref (90 : Nat)) [((45 : Nat), Ob.dead), ((90 : Nat), Ob.row false (1 : Nat) (x1 ++ [V.str (List.drop i1.toNat (List.take (IntKind.i64.wrap (i1 + (16 : Int))).toNat s3))]))]) :
    evalCode Try.prog Try.cfg (evalFn Try.prog Try.cfg (k + 4)) 45 (Try.cfg.fc 55) (k + 4) (loopBody Try.f55 1) { tm := [(0, V.str s3), (2, V.sl (some true) true 0 []), (3, V.ref 45), (4, vi i1), (8, V.bool false)], hp := [(8, Ob.row false 1 x0), (45, Ob.row false 1 x1)], nx := 46 } = some (Exit.normal, { tm := [(0, V.str s3), (2, V.sl (some true) true 0 []), (3, V.ref 90), (4, vi (IntKind.i64.wrap (i1 + 16))), (8, V.bool false), (17, V.bool true)], hp := [(8, Ob.row false 1 x0), (45, Ob.dead), (86, Ob.row false 1 [V.str (List.drop i1.toNat (List.take (IntKind.i64.wrap (i1 + 16)).toNat s3))]), (90, Ob.row false 1 (x1 ++ [V.str (List.drop i1.toNat (List.take (IntKind.i64.wrap (i1 + 16)).toNat s3))]))], nx := 110 }) :=
  byL (k := k) (d := 4) [Hn.br 17 true, Hn.op 25 (V.str (List.drop i1.toNat (List.take (IntKind.i64.wrap (i1 + 16)).toNat s3))) [], Hn.op 27 (V.ref 90) [(45, Ob.dead), (90, Ob.row false 1 (x1 ++ [V.str (List.drop i1.toNat (List.take (IntKind.i64.wrap (i1 + 16)).toNat s3))]))]] (aI c0 (aI c1 (aI c2 trivial))) (by kernel_rfl)
theorem L30_3_b0h (i1 : Int) (s3 : List UInt8) (x0 x1 : List V) : head 45 [0, 2, 3, 4, 8] (Try.cfg.fc 55).acc { tm := [(0, V.str s3), (2, V.sl (some true) true 0 []), (3, V.ref 90), (4, vi (IntKind.i64.wrap (i1 + 16))), (8, V.bool false), (17, V.bool true)], hp := [(8, Ob.row false 1 x0), (45, Ob.dead), (86, Ob.row false 1 [V.str (List.drop i1.toNat (List.take (IntKind.i64.wrap (i1 + 16)).toNat s3))]), (90, Ob.row false 1 (x1 ++ [V.str (List.drop i1.toNat (List.take (IntKind.i64.wrap (i1 + 16)).toNat s3))]))], nx := 110 } = { tm := [(0, V.str s3), (2, V.sl (some true) true 0 []), (3, V.ref 45), (4, vi (IntKind.i64.wrap (i1 + 16))), (8, V.bool false)], hp := [(8, Ob.row false 1 x0), (45, Ob.row false 1 (x1 ++ [V.str (List.drop i1.toNat (List.take (IntKind.i64.wrap (i1 + 16)).toNat s3))]))], nx := 46 } := by kernel_rfl
theorem L30_3_b1 (i1 : Int) (s3 : List UInt8) (x0 x1 : List V) (k : Nat)
    (c0 : decide (i1 < (↑s3.length : Int)) = false) :
    evalCode Try.prog Try.cfg (evalFn Try.prog Try.cfg (k + 4)) 45 (Try.cfg.fc 55) (k + 4) (loopBody Try.f55 1) { tm := [(0, V.str s3), (2, V.sl (some true) true 0 []), (3, V.ref 45), (4, vi i1), (8, V.bool false)], hp := [(8, Ob.row false 1 x0), (45, Ob.row false 1 x1)], nx := 46 } = some (Exit.exit 2, { tm := [(0, V.str s3), (2, V.sl (some true) true 0 []), (3, V.ref 45), (4, vi i1), (8, V.bool false), (17, V.bool false)], hp := [(8, Ob.row false 1 x0), (45, Ob.row false 1 x1)], nx := 62 }) :=
  byL (k := k) (d := 4) [Hn.br 17 false] (aI c0 trivial) (by kernel_rfl)
inductive L30_3_R where
  | e0 (i1 : Int) (x1 : List V)
noncomputable def L30_3_end (s3 : List UInt8) (x0 : List V) : L30_3_R → Exit × St
  | .e0 i1 x1 => (Exit.exit 2, { tm := [(0, V.str s3), (2, V.sl (some true) true 0 []), (3, V.ref 45), (4, V.int .i64 i1), (8, V.bool false), (17, V.bool false)], hp := [(8, Ob.row false 1 x0), (45, Ob.row false 1 x1)], nx := 62 })
def L30_3 (k : Nat) (s3 : List UInt8) (x0 : List V) : Nat → Int → List V → Option L30_3_R
  | 0, _, _ => none
  | f + 1, i1, x1 => (bif decide (i1 < (↑s3.length : Int)) then (guardP ((0 : Int) ≤ i1 ∧ i1 ≤ IntKind.i64.wrap (i1 + (16 : Int)) ∧ IntKind.i64.wrap (i1 + (16 : Int)) ≤ (↑s3.length : Int)) (guardP (x1.length + (1 : Nat) ≤ maxLen') (L30_3 k s3 x0 f (IntKind.i64.wrap (i1 + 16)) (x1 ++ [V.str (List.drop i1.toNat (List.take (IntKind.i64.wrap (i1 + 16)).toNat s3))])))) else (some (L30_3_R.e0 i1 x1)))
theorem L30_3_ok {s3 : List UInt8} {x0 : List V} {k : Nat} : ∀ {f : Nat} {i1 : Int} {x1 : List V} {r : L30_3_R}, L30_3 k s3 x0 f i1 x1 = some r →
    LoopsN Try.prog Try.cfg (k + 4) 45 Try.f55 (Try.cfg.fc 55) 1 [0, 2, 3, 4, 8] f { tm := [(0, V.str s3), (2, V.sl (some true) true 0 []), (3, V.ref 45), (4, vi i1), (8, V.bool false)], hp := [(8, Ob.row false 1 x0), (45, Ob.row false 1 x1)], nx := 46 } (L30_3_end s3 x0 r) := by
  intro f
  induction f with
  | zero => intro i1 x1 r h; cases h
  | succ f ih =>
    intro i1 x1 r h
    rw [L30_3] at h
    rcases cond_elim h with ⟨e0, h⟩ | ⟨e0, h⟩
    ·
      obtain ⟨e1, h⟩ := guardP_some.1 h
      obtain ⟨e2, h⟩ := guardP_some.1 h
      exact LoopsN.next (L30_3_b0 i1 s3 x0 x1 k e0 (SlcP.strMid e1) (GrdW.mk ⟨rfl, by decide, by decide, e2⟩)) (L30_3_b0h i1 s3 x0 x1) (ih h)
    ·
      cases h; exact LoopsN.done (L30_3_b1 i1 s3 x0 x1 k e0) (fun h => by cases h)
theorem P30_0 (i0 i1 : Int) (s0 s1 s2 s3 s4 s5 : List UInt8) (x0 x1 : List V) (k : Nat)
    (c0 : LoopsN Try.prog Try.cfg (k + 4) 8 Try.f55 (Try.cfg.fc 55) 0 [0, 2] (k + 4) { tm := [(0, V.str s0), (2, V.sl (some true) true 0 [])], hp := [], nx := 8 } (Exit.exit 0, { tm := [(0, V.str s2), (2, V.sl (some true) true 0 []), (8, V.bool false)], hp := [], nx := 24 }))
    (c1 : LoopsN Try.prog Try.cfg (k + 4) 8 Try.f55 (Try.cfg.fc 55) 1 [0, 2, 3, 4, 8] (k + 4) { tm := [(0, V.str s2), (2, V.sl (some true) true 0 []), (3, V.ref 8), (4, vi 0), (8, V.bool false)], hp := [(8, Ob.row false 1 [])], nx := 9 } (Exit.exit 2, { tm := [(0, V.str s2), (2, V.sl (some true) true 0 []), (3, V.ref 8), (4, vi i0), (8, V.bool false), (17, V.bool false)], hp := [(8, Ob.row false 1 x0)], nx := 25 }))
    (c2 : LoopsN Try.prog Try.cfg (k + 4) 45 Try.f55 (Try.cfg.fc 55) 0 [0, 2] (k + 4) { tm := [(0, V.str s1), (2, V.sl (some true) true 0 [])], hp := [(8, Ob.row false 1 x0)], nx := 45 } (Exit.exit 0, { tm := [(0, V.str s3), (2, V.sl (some true) true 0 []), (8, V.bool false)], hp := [(8, Ob.row false 1 x0)], nx := 61 }))
    (c3 : LoopsN Try.prog Try.cfg (k + 4) 45 Try.f55 (Try.cfg.fc 55) 1 [0, 2, 3, 4, 8] (k + 4) { tm := [(0, V.str s3), (2, V.sl (some true) true 0 []), (3, V.ref 45), (4, vi 0), (8, V.bool false)], hp := [(8, Ob.row false 1 x0), (45, Ob.row false 1 [])], nx := 46 } (Exit.exit 2, { tm := [(0, V.str s3), (2, V.sl (some true) true 0 []), (3, V.ref 45), (4, vi i1), (8, V.bool false), (17, V.bool false)], hp := [(8, Ob.row false 1 x0), (45, Ob.row false 1 x1)], nx := 62 }))
    (c4 : GrdW ((1 : Nat) = (1 : Nat) ∧ (0 : Nat) < (1 : Nat) ∧ (16 : Nat) ≤ (64 : Nat) ∧ x0.length + x1.length ≤ maxLen') (V.ref (70 : Nat)) [((8 : Nat), Ob.dead), ((70 : Nat), Ob.row false (1 : Nat) (x0 ++ x1))])
    (c5 : cP ((k + 5)) 56 [vu (IntKind.u64.wrap (8 * IntKind.u64.wrap (↑s0.length : Int)))] = some (V.str s4))
    (c6 : cP ((k + 5)) 56 [vu (IntKind.u64.wrap (8 * IntKind.u64.wrap (↑s1.length : Int)))] = some (V.str s5))
    (c7 : GrdP (s4.length + s5.length ≤ maxText) (V.str (s4 ++ s5)))
    (c8 : GrdW ((1 : Nat) = (1 : Nat) ∧ (0 : Nat) < (1 : Nat) ∧ (16 : Nat) ≤ (64 : Nat) ∧ (x0 ++ x1).length + (1 : Nat) ≤ maxLen') (V.ref (130 : Nat)) [((70 : Nat), Ob.dead), ((130 : Nat), Ob.row false (1 : Nat) (x0 ++ x1 ++ [V.str (s4 ++ s5)]))]) :
    cP ((k + 6)) 30 [V.str s0, V.str s1] = some (V.sl none false 1 (x0 ++ x1 ++ [V.str (s4 ++ s5)])) :=
  byF (k := k) (d := 6) [Hn.enter, Hn.loop (Exit.exit 0, { tm := [(0, V.str s2), (2, V.sl (some true) true 0 []), (8, V.bool false)], hp := [], nx := 24 }), Hn.loop (Exit.exit 2, { tm := [(0, V.str s2), (2, V.sl (some true) true 0 []), (3, V.ref 8), (4, vi i0), (8, V.bool false), (17, V.bool false)], hp := [(8, Ob.row false 1 x0)], nx := 25 }), Hn.enter, Hn.loop (Exit.exit 0, { tm := [(0, V.str s3), (2, V.sl (some true) true 0 []), (8, V.bool false)], hp := [(8, Ob.row false 1 x0)], nx := 61 }), Hn.loop (Exit.exit 2, { tm := [(0, V.str s3), (2, V.sl (some true) true 0 []), (3, V.ref 45), (4, vi i1), (8, V.bool false), (17, V.bool false)], hp := [(8, Ob.row false 1 x0), (45, Ob.row false 1 x1)], nx := 62 }), Hn.op 11 (V.ref 70) [(8, Ob.dead), (70, Ob.row false 1 (x0 ++ x1))], Hn.call 17 (V.str s4), Hn.call 22 (V.str s5), Hn.op 23 (V.str (s4 ++ s5)) [], Hn.op 25 (V.ref 130) [(70, Ob.dead), (130, Ob.row false 1 (x0 ++ x1 ++ [V.str (s4 ++ s5)]))]] (aI c0 (aI c1 (aI c2 (aI c3 (aI c4 (aI c5 (aI c6 (aI c7 (aI c8 trivial))))))))) (by kernel_rfl)
def F30 (k : Nat) (s0 s1 : List UInt8) : Option (Option Bool × Bool × Nat × List V) :=
  ((L30_0 k (k + 4) (s0)).bind fun
    | L30_0_R.e0 s2 => ((L30_1 k s2 (k + 4) (0) ([])).bind fun
    | L30_1_R.e0 i0 x0 => ((L30_2 k x0 (k + 4) (s1)).bind fun
    | L30_2_R.e0 s3 => ((L30_3 k s3 x0 (k + 4) (0) ([])).bind fun
    | L30_3_R.e0 i1 x1 => (guardP (x0.length + x1.length ≤ maxLen') ((F56 (k + 2) (IntKind.u64.wrap (8 * IntKind.u64.wrap (↑s0.length : Int)))).bind fun s4 => ((F56 (k + 2) (IntKind.u64.wrap (8 * IntKind.u64.wrap (↑s1.length : Int)))).bind fun s5 => (guardP (s4.length + s5.length ≤ maxText) (guardP ((x0 ++ x1).length + (1 : Nat) ≤ maxLen') (some ((none), (false), (1), (x0 ++ x1 ++ [V.str (s4 ++ s5)]))))))))))))
theorem F30_ok {s0 s1 : List UInt8} {k : Nat} {r : Option Bool × Bool × Nat × List V} (h : F30 k s0 s1 = some r) :
    cP ((k + 6)) 30 [V.str s0, V.str s1] = some (V.sl r.1 r.2.1 r.2.2.1 r.2.2.2) := by
  unfold F30 at h
  obtain ⟨ee, e0, h⟩ := bE h
  cases ee with
  | e0 s2 =>
    obtain ⟨ee, e1, h⟩ := bE h
    cases ee with
    | e0 i0 x0 =>
      obtain ⟨ee, e2, h⟩ := bE h
      cases ee with
      | e0 s3 =>
        obtain ⟨ee, e3, h⟩ := bE h
        cases ee with
        | e0 i1 x1 =>
          obtain ⟨e4, h⟩ := guardP_some.1 h
          obtain ⟨s4, e5, h⟩ := bE h
          obtain ⟨s5, e6, h⟩ := bE h
          obtain ⟨e7, h⟩ := guardP_some.1 h
          obtain ⟨e8, h⟩ := guardP_some.1 h
          have h := Option.some.inj h; subst h; exact P30_0 i0 i1 s0 s1 s2 s3 s4 s5 x0 x1 k (L30_0_ok e0) (L30_1_ok e1) (L30_2_ok e2) (L30_3_ok e3) (GrdW.mk ⟨rfl, by decide, by decide, e4⟩) (F56_ok e5) (F56_ok e6) (GrdP.mk e7) (GrdW.mk ⟨rfl, by decide, by decide, e8⟩)
theorem L28_0_b0 (i0 : Int) (b0 b1 : Bool) (s0 s1 : List UInt8) (x0 x1 : List V) (o0 o1 : Option Bool) (n0 n1 k : Nat)
    (c0 : decide (i0 < (↑x0.length : Int)) = true)
    (c1 : IdxP x0 i0 n0 1 (V.str s0))
    (c2 : IdxP x1 i0 n1 1 (V.str s1))
    (c3 : (!decide (s0 = s1)) = true) :
    evalCode Try.prog Try.cfg (evalFn Try.prog Try.cfg (k + 2)) 0 (Try.cfg.fc 28) (k + 2) (loopBody Try.f28 0) { tm := [(0, V.sl o0 b0 n0 x0), (1, V.sl o1 b1 n1 x1), (4, V.bool false), (10, V.bool false), (12, vi (↑x0.length : Int)), (13, vi i0)], hp := [], nx := 0 } = some (Exit.ret, { tm := [(0, V.sl o0 b0 n0 x0), (1, V.sl o1 b1 n1 x1), (4, V.bool false), (5, vi i0), (10, V.bool false), (12, vi (↑x0.length : Int)), (13, vi i0), (14, V.bool true), (24, V.bool true)], hp := [], nx := 52 }) :=
  byL (k := k) (d := 2) [Hn.br 14 true, Hn.op 18 ((V.str s0).cpt 0) [], Hn.op 22 ((V.str s1).cpt 0) [], Hn.br 24 true] (aI c0 (aI c1 (aI c2 (aI c3 trivial)))) (by kernel_rfl)
theorem L28_0_b1 (i0 : Int) (b0 b1 : Bool) (s0 s1 : List UInt8) (x0 x1 : List V) (o0 o1 : Option Bool) (n0 n1 k : Nat)
    (c0 : decide (i0 < (↑x0.length : Int)) = true)
    (c1 : IdxP x0 i0 n0 1 (V.str s0))
    (c2 : IdxP x1 i0 n1 1 (V.str s1))
    (c3 : (!decide (s0 = s1)) = false) :
    evalCode Try.prog Try.cfg (evalFn Try.prog Try.cfg (k + 2)) 0 (Try.cfg.fc 28) (k + 2) (loopBody Try.f28 0) { tm := [(0, V.sl o0 b0 n0 x0), (1, V.sl o1 b1 n1 x1), (4, V.bool false), (10, V.bool false), (12, vi (↑x0.length : Int)), (13, vi i0)], hp := [], nx := 0 } = some (Exit.normal, { tm := [(0, V.sl o0 b0 n0 x0), (1, V.sl o1 b1 n1 x1), (4, V.bool false), (5, vi i0), (10, V.bool false), (12, vi (↑x0.length : Int)), (13, vi (IntKind.i64.wrap (i0 + 1))), (14, V.bool true), (24, V.bool false)], hp := [], nx := 56 }) :=
  byL (k := k) (d := 2) [Hn.br 14 true, Hn.op 18 ((V.str s0).cpt 0) [], Hn.op 22 ((V.str s1).cpt 0) [], Hn.br 24 false] (aI c0 (aI c1 (aI c2 (aI c3 trivial)))) (by kernel_rfl)
theorem L28_0_b1h (i0 : Int) (b0 b1 : Bool) (x0 x1 : List V) (o0 o1 : Option Bool) (n0 n1 : Nat) : head 0 [0, 1, 4, 10, 12, 13] (Try.cfg.fc 28).acc { tm := [(0, V.sl o0 b0 n0 x0), (1, V.sl o1 b1 n1 x1), (4, V.bool false), (5, vi i0), (10, V.bool false), (12, vi (↑x0.length : Int)), (13, vi (IntKind.i64.wrap (i0 + 1))), (14, V.bool true), (24, V.bool false)], hp := [], nx := 56 } = { tm := [(0, V.sl o0 b0 n0 x0), (1, V.sl o1 b1 n1 x1), (4, V.bool false), (10, V.bool false), (12, vi (↑x0.length : Int)), (13, vi (IntKind.i64.wrap (i0 + 1)))], hp := [], nx := 0 } := by kernel_rfl
theorem L28_0_b2 (i0 : Int) (b0 b1 : Bool) (x0 x1 : List V) (o0 o1 : Option Bool) (n0 n1 k : Nat)
    (c0 : decide (i0 < (↑x0.length : Int)) = false) :
    evalCode Try.prog Try.cfg (evalFn Try.prog Try.cfg (k + 2)) 0 (Try.cfg.fc 28) (k + 2) (loopBody Try.f28 0) { tm := [(0, V.sl o0 b0 n0 x0), (1, V.sl o1 b1 n1 x1), (4, V.bool false), (10, V.bool false), (12, vi (↑x0.length : Int)), (13, vi i0)], hp := [], nx := 0 } = some (Exit.exit 0, { tm := [(0, V.sl o0 b0 n0 x0), (1, V.sl o1 b1 n1 x1), (4, V.bool false), (10, V.bool false), (12, vi (↑x0.length : Int)), (13, vi i0), (14, V.bool false)], hp := [], nx := 4 }) :=
  byL (k := k) (d := 2) [Hn.br 14 false] (aI c0 trivial) (by kernel_rfl)
inductive L28_0_R where
  | e0 (i0 : Int)
  | e1 (i0 : Int)
noncomputable def L28_0_end (b0 : Bool) (b1 : Bool) (x0 : List V) (x1 : List V) (o0 : Option Bool) (o1 : Option Bool) (n0 : Nat) (n1 : Nat) : L28_0_R → Exit × St
  | .e0 i0 => (Exit.ret, { tm := [(0, V.sl o0 b0 n0 x0), (1, V.sl o1 b1 n1 x1), (4, V.bool false), (5, V.int .i64 i0), (10, V.bool false), (12, V.int .i64 (↑x0.length : Int)), (13, V.int .i64 i0), (14, V.bool true), (24, V.bool true)], hp := [], nx := 52 })
  | .e1 i0 => (Exit.exit 0, { tm := [(0, V.sl o0 b0 n0 x0), (1, V.sl o1 b1 n1 x1), (4, V.bool false), (10, V.bool false), (12, V.int .i64 (↑x0.length : Int)), (13, V.int .i64 i0), (14, V.bool false)], hp := [], nx := 4 })
def L28_0 (k : Nat) (b0 b1 : Bool) (x0 x1 : List V) (o0 o1 : Option Bool) (n0 n1 : Nat) : Nat → Int → Option L28_0_R
  | 0, _ => none
  | f + 1, i0 => (bif decide (i0 < (↑x0.length : Int)) then (guardP (n0 = (1 : Nat)) (((at? (x0) (i0)).bind dS).bind fun s0 => (guardP (n1 = (1 : Nat)) (((at? (x1) (i0)).bind dS).bind fun s1 => (bif !decide (s0 = s1) then (some (L28_0_R.e0 i0)) else (L28_0 k b0 b1 x0 x1 o0 o1 n0 n1 f (IntKind.i64.wrap (i0 + 1)))))))) else (some (L28_0_R.e1 i0)))
theorem L28_0_ok {b0 b1 : Bool} {x0 x1 : List V} {o0 o1 : Option Bool} {n0 n1 k : Nat} : ∀ {f : Nat} {i0 : Int} {r : L28_0_R}, L28_0 k b0 b1 x0 x1 o0 o1 n0 n1 f i0 = some r →
    LoopsN Try.prog Try.cfg (k + 2) 0 Try.f28 (Try.cfg.fc 28) 0 [0, 1, 4, 10, 12, 13] f { tm := [(0, V.sl o0 b0 n0 x0), (1, V.sl o1 b1 n1 x1), (4, V.bool false), (10, V.bool false), (12, vi (↑x0.length : Int)), (13, vi i0)], hp := [], nx := 0 } (L28_0_end b0 b1 x0 x1 o0 o1 n0 n1 r) := by
  intro f
  induction f with
  | zero => intro i0 r h; cases h
  | succ f ih =>
    intro i0 r h
    rw [L28_0] at h
    rcases cond_elim h with ⟨e0, h⟩ | ⟨e0, h⟩
    ·
      obtain ⟨e1, h⟩ := guardP_some.1 h
      obtain ⟨s0, e2, h⟩ := bE h
      obtain ⟨e3, h⟩ := guardP_some.1 h
      obtain ⟨s1, e4, h⟩ := bE h
      rcases cond_elim h with ⟨e5, h⟩ | ⟨e5, h⟩
      ·
        cases h; exact LoopsN.done (L28_0_b0 i0 b0 b1 s0 s1 x0 x1 o0 o1 n0 n1 k e0 (IdxP.of_at' (at_d dS_ok e2 :) e1) (IdxP.of_at' (at_d dS_ok e4 :) e3) e5) (fun h => by cases h)
      ·
        exact LoopsN.next (L28_0_b1 i0 b0 b1 s0 s1 x0 x1 o0 o1 n0 n1 k e0 (IdxP.of_at' (at_d dS_ok e2 :) e1) (IdxP.of_at' (at_d dS_ok e4 :) e3) e5) (L28_0_b1h i0 b0 b1 x0 x1 o0 o1 n0 n1) (ih h)
    ·
      cases h; exact LoopsN.done (L28_0_b2 i0 b0 b1 x0 x1 o0 o1 n0 n1 k e0) (fun h => by cases h)
theorem P28_0 (b0 b1 : Bool) (x0 x1 : List V) (o0 o1 : Option Bool) (n0 n1 k : Nat)
    (c0 : (!decide ((↑x0.length : Int) = (↑x1.length : Int))) = true) :
    cP ((k + 3)) 28 [V.sl o0 b0 n0 x0, V.sl o1 b1 n1 x1] = some (V.bool false) :=
  byF (k := k) (d := 3) [Hn.br 10 true] (aI c0 trivial) (by kernel_rfl)
theorem P28_1 (i0 : Int) (b0 b1 : Bool) (x0 x1 : List V) (o0 o1 : Option Bool) (n0 n1 k : Nat)
    (c0 : (!decide ((↑x0.length : Int) = (↑x1.length : Int))) = false)
    (c1 : LoopsN Try.prog Try.cfg (k + 2) 0 Try.f28 (Try.cfg.fc 28) 0 [0, 1, 4, 10, 12, 13] (k + 2) { tm := [(0, V.sl o0 b0 n0 x0), (1, V.sl o1 b1 n1 x1), (4, V.bool false), (10, V.bool false), (12, vi (↑x0.length : Int)), (13, vi 0)], hp := [], nx := 0 } (Exit.exit 0, { tm := [(0, V.sl o0 b0 n0 x0), (1, V.sl o1 b1 n1 x1), (4, V.bool false), (10, V.bool false), (12, vi (↑x0.length : Int)), (13, vi i0), (14, V.bool false)], hp := [], nx := 4 })) :
    cP ((k + 3)) 28 [V.sl o0 b0 n0 x0, V.sl o1 b1 n1 x1] = some (V.bool true) :=
  byF (k := k) (d := 3) [Hn.br 10 false, Hn.loop (Exit.exit 0, { tm := [(0, V.sl o0 b0 n0 x0), (1, V.sl o1 b1 n1 x1), (4, V.bool false), (10, V.bool false), (12, vi (↑x0.length : Int)), (13, vi i0), (14, V.bool false)], hp := [], nx := 4 })] (aI c0 (aI c1 trivial)) (by kernel_rfl)
theorem P28_2 (i0 : Int) (b0 b1 : Bool) (x0 x1 : List V) (o0 o1 : Option Bool) (n0 n1 k : Nat)
    (c0 : (!decide ((↑x0.length : Int) = (↑x1.length : Int))) = false)
    (c1 : LoopsN Try.prog Try.cfg (k + 2) 0 Try.f28 (Try.cfg.fc 28) 0 [0, 1, 4, 10, 12, 13] (k + 2) { tm := [(0, V.sl o0 b0 n0 x0), (1, V.sl o1 b1 n1 x1), (4, V.bool false), (10, V.bool false), (12, vi (↑x0.length : Int)), (13, vi 0)], hp := [], nx := 0 } (Exit.ret, { tm := [(0, V.sl o0 b0 n0 x0), (1, V.sl o1 b1 n1 x1), (4, V.bool false), (5, vi i0), (10, V.bool false), (12, vi (↑x0.length : Int)), (13, vi i0), (14, V.bool true), (24, V.bool true)], hp := [], nx := 52 })) :
    cP ((k + 3)) 28 [V.sl o0 b0 n0 x0, V.sl o1 b1 n1 x1] = some (V.bool false) :=
  byF (k := k) (d := 3) [Hn.br 10 false, Hn.loop (Exit.ret, { tm := [(0, V.sl o0 b0 n0 x0), (1, V.sl o1 b1 n1 x1), (4, V.bool false), (5, vi i0), (10, V.bool false), (12, vi (↑x0.length : Int)), (13, vi i0), (14, V.bool true), (24, V.bool true)], hp := [], nx := 52 })] (aI c0 (aI c1 trivial)) (by kernel_rfl)
def F28 (k : Nat) (o0 : Option Bool) (b0 : Bool) (n0 : Nat) (x0 : List V) (o1 : Option Bool) (b1 : Bool) (n1 : Nat) (x1 : List V) : Option (Bool) :=
  (bif !decide ((↑x0.length : Int) = (↑x1.length : Int)) then (some (false)) else ((L28_0 k b0 b1 x0 x1 o0 o1 n0 n1 (k + 2) (0)).bind fun
    | L28_0_R.e0 i0 => (some (false))
    | L28_0_R.e1 i0 => (some (true))))
theorem F28_ok {o0 : Option Bool} {b0 : Bool} {n0 : Nat} {x0 : List V} {o1 : Option Bool} {b1 : Bool} {n1 : Nat} {x1 : List V} {k : Nat} {r : Bool} (h : F28 k o0 b0 n0 x0 o1 b1 n1 x1 = some r) :
    cP ((k + 3)) 28 [V.sl o0 b0 n0 x0, V.sl o1 b1 n1 x1] = some (V.bool r) := by
  unfold F28 at h
  rcases cond_elim h with ⟨e0, h⟩ | ⟨e0, h⟩
  ·
    have h := Option.some.inj h; subst h; exact P28_0 b0 b1 x0 x1 o0 o1 n0 n1 k e0
  ·
    obtain ⟨ee, e1, h⟩ := bE h
    cases ee with
    | e0 i0 =>
      have h := Option.some.inj h; subst h; exact P28_2 i0 b0 b1 x0 x1 o0 o1 n0 n1 k e0 (L28_0_ok e1)
    | e1 i0 =>
      have h := Option.some.inj h; subst h; exact P28_1 i0 b0 b1 x0 x1 o0 o1 n0 n1 k e0 (L28_0_ok e1)
theorem L57_0_b0 (i0 : Int) (s0 s1 : List UInt8) (x0 : List V) (u0 u1 : UInt8) (k : Nat)
    (c0 : decide (i0 < (↑s0.length : Int)) = true)
    (c1 : StrP s0 i0 u0)
    (c2 : StrP s1 i0 u1)
    (c3 : GrdW ((1 : Nat) = (1 : Nat) ∧ (0 : Nat) < (1 : Nat) ∧ (1 : Nat) ≤ (64 : Nat) ∧ x0.length + (1 : Nat) ≤ maxLen') (V.ref (53 : Nat)) [((0 : Nat), Ob.dead), ((53 : Nat), Ob.row false (1 : Nat) (x0 ++ [vb (IntKind.u8.wrap (↑(BitVec.ofInt IntKind.u8.bits (↑u0.toNat : Int) ^^^ BitVec.ofInt IntKind.u8.bits (↑u1.toNat : Int)).toNat : Int))]))]) :
    evalCode Try.prog Try.cfg (evalFn Try.prog Try.cfg (k + 2)) 0 (Try.cfg.fc 57) (k + 2) (loopBody Try.f57 0) { tm := [(0, V.str s0), (1, V.str s1), (4, V.str []), (5, V.ref 0), (6, vi i0)], hp := [(0, Ob.row false 1 x0)], nx := 1 } = some (Exit.normal, { tm := [(0, V.str s0), (1, V.str s1), (4, V.str []), (5, V.ref 53), (6, vi (IntKind.i64.wrap (i0 + 1))), (11, V.bool true)], hp := [(0, Ob.dead), (49, Ob.row false 1 [vb (IntKind.u8.wrap (↑(BitVec.ofInt IntKind.u8.bits (↑u0.toNat : Int) ^^^ BitVec.ofInt IntKind.u8.bits (↑u1.toNat : Int)).toNat : Int))]), (53, Ob.row false 1 (x0 ++ [vb (IntKind.u8.wrap (↑(BitVec.ofInt IntKind.u8.bits (↑u0.toNat : Int) ^^^ BitVec.ofInt IntKind.u8.bits (↑u1.toNat : Int)).toNat : Int))]))], nx := 73 }) :=
  byL (k := k) (d := 2) [Hn.br 11 true, Hn.op 17 (vb (↑u0.toNat : Int)) [], Hn.op 20 (vb (↑u1.toNat : Int)) [], Hn.op 23 (V.ref 53) [(0, Ob.dead), (53, Ob.row false 1 (x0 ++ [vb (IntKind.u8.wrap (↑(BitVec.ofInt IntKind.u8.bits (↑u0.toNat : Int) ^^^ BitVec.ofInt IntKind.u8.bits (↑u1.toNat : Int)).toNat : Int))]))]] (aI c0 (aI c1 (aI c2 (aI c3 trivial)))) (by kernel_rfl)
theorem L57_0_b0h (i0 : Int) (s0 s1 : List UInt8) (x0 : List V) (u0 u1 : UInt8) : head 0 [0, 1, 4, 5, 6] (Try.cfg.fc 57).acc { tm := [(0, V.str s0), (1, V.str s1), (4, V.str []), (5, V.ref 53), (6, vi (IntKind.i64.wrap (i0 + 1))), (11, V.bool true)], hp := [(0, Ob.dead), (49, Ob.row false 1 [vb (IntKind.u8.wrap (↑(BitVec.ofInt IntKind.u8.bits (↑u0.toNat : Int) ^^^ BitVec.ofInt IntKind.u8.bits (↑u1.toNat : Int)).toNat : Int))]), (53, Ob.row false 1 (x0 ++ [vb (IntKind.u8.wrap (↑(BitVec.ofInt IntKind.u8.bits (↑u0.toNat : Int) ^^^ BitVec.ofInt IntKind.u8.bits (↑u1.toNat : Int)).toNat : Int))]))], nx := 73 } = { tm := [(0, V.str s0), (1, V.str s1), (4, V.str []), (5, V.ref 0), (6, vi (IntKind.i64.wrap (i0 + 1)))], hp := [(0, Ob.row false 1 (x0 ++ [vb (IntKind.u8.wrap (↑(BitVec.ofInt IntKind.u8.bits (↑u0.toNat : Int) ^^^ BitVec.ofInt IntKind.u8.bits (↑u1.toNat : Int)).toNat : Int))]))], nx := 1 } := by kernel_rfl
theorem L57_0_b1 (i0 : Int) (s0 s1 : List UInt8) (x0 : List V) (k : Nat)
    (c0 : decide (i0 < (↑s0.length : Int)) = false) :
    evalCode Try.prog Try.cfg (evalFn Try.prog Try.cfg (k + 2)) 0 (Try.cfg.fc 57) (k + 2) (loopBody Try.f57 0) { tm := [(0, V.str s0), (1, V.str s1), (4, V.str []), (5, V.ref 0), (6, vi i0)], hp := [(0, Ob.row false 1 x0)], nx := 1 } = some (Exit.exit 0, { tm := [(0, V.str s0), (1, V.str s1), (4, V.str []), (5, V.ref 0), (6, vi i0), (11, V.bool false)], hp := [(0, Ob.row false 1 x0)], nx := 17 }) :=
  byL (k := k) (d := 2) [Hn.br 11 false] (aI c0 trivial) (by kernel_rfl)
inductive L57_0_R where
  | e0 (i0 : Int) (x0 : List V)
noncomputable def L57_0_end (s0 : List UInt8) (s1 : List UInt8) : L57_0_R → Exit × St
  | .e0 i0 x0 => (Exit.exit 0, { tm := [(0, V.str s0), (1, V.str s1), (4, V.str []), (5, V.ref 0), (6, V.int .i64 i0), (11, V.bool false)], hp := [(0, Ob.row false 1 x0)], nx := 17 })
def L57_0 (k : Nat) (s0 s1 : List UInt8) : Nat → Int → List V → Option L57_0_R
  | 0, _, _ => none
  | f + 1, i0, x0 => (bif decide (i0 < (↑s0.length : Int)) then ((satB (s0) (i0)).bind fun u0 => ((satB (s1) (i0)).bind fun u1 => (guardP (x0.length + (1 : Nat) ≤ maxLen') (L57_0 k s0 s1 f (IntKind.i64.wrap (i0 + 1)) (x0 ++ [V.int .u8 (IntKind.u8.wrap (↑(BitVec.ofInt IntKind.u8.bits (↑u0.toNat : Int) ^^^ BitVec.ofInt IntKind.u8.bits (↑u1.toNat : Int)).toNat : Int))]))))) else (some (L57_0_R.e0 i0 x0)))
theorem L57_0_ok {s0 s1 : List UInt8} {k : Nat} : ∀ {f : Nat} {i0 : Int} {x0 : List V} {r : L57_0_R}, L57_0 k s0 s1 f i0 x0 = some r →
    LoopsN Try.prog Try.cfg (k + 2) 0 Try.f57 (Try.cfg.fc 57) 0 [0, 1, 4, 5, 6] f { tm := [(0, V.str s0), (1, V.str s1), (4, V.str []), (5, V.ref 0), (6, vi i0)], hp := [(0, Ob.row false 1 x0)], nx := 1 } (L57_0_end s0 s1 r) := by
  intro f
  induction f with
  | zero => intro i0 x0 r h; cases h
  | succ f ih =>
    intro i0 x0 r h
    rw [L57_0] at h
    rcases cond_elim h with ⟨e0, h⟩ | ⟨e0, h⟩
    ·
      obtain ⟨u0, e1, h⟩ := bE h
      obtain ⟨u1, e2, h⟩ := bE h
      obtain ⟨e3, h⟩ := guardP_some.1 h
      exact LoopsN.next (L57_0_b0 i0 s0 s1 x0 u0 u1 k e0 (StrP.of_at e1) (StrP.of_at e2) (GrdW.mk ⟨rfl, by decide, by decide, e3⟩)) (L57_0_b0h i0 s0 s1 x0 u0 u1) (ih h)
    ·
      cases h; exact LoopsN.done (L57_0_b1 i0 s0 s1 x0 k e0) (fun h => by cases h)
theorem P57_0 (i0 : Int) (s0 s1 : List UInt8) (x0 : List V) (k : Nat)
    (c0 : LoopsN Try.prog Try.cfg (k + 2) 0 Try.f57 (Try.cfg.fc 57) 0 [0, 1, 4, 5, 6] (k + 2) { tm := [(0, V.str s0), (1, V.str s1), (4, V.str []), (5, V.ref 0), (6, vi 0)], hp := [(0, Ob.row false 1 [])], nx := 1 } (Exit.exit 0, { tm := [(0, V.str s0), (1, V.str s1), (4, V.str []), (5, V.ref 0), (6, vi i0), (11, V.bool false)], hp := [(0, Ob.row false 1 x0)], nx := 17 }))
    (c1 : GrdW (((1 : Nat) = (1 : Nat) ∨ x0.isEmpty = true) ∧ x0.all isByte = true) (V.str (List.map Sym.byteOf x0)) []) :
    cP ((k + 3)) 57 [V.str s0, V.str s1] = some (V.str (List.map Sym.byteOf x0)) :=
  byF (k := k) (d := 3) [Hn.loop (Exit.exit 0, { tm := [(0, V.str s0), (1, V.str s1), (4, V.str []), (5, V.ref 0), (6, vi i0), (11, V.bool false)], hp := [(0, Ob.row false 1 x0)], nx := 17 }), Hn.op 25 (V.str (List.map Sym.byteOf x0)) []] (aI c0 (aI c1 trivial)) (by kernel_rfl)
def F57 (k : Nat) (s0 s1 : List UInt8) : Option (List UInt8) :=
  ((L57_0 k s0 s1 (k + 2) (0) ([])).bind fun
    | L57_0_R.e0 i0 x0 => (guardP (x0.all isByte = true) (some (List.map Sym.byteOf x0))))
theorem F57_ok {s0 s1 : List UInt8} {k : Nat} {r : List UInt8} (h : F57 k s0 s1 = some r) :
    cP ((k + 3)) 57 [V.str s0, V.str s1] = some (V.str r) := by
  unfold F57 at h
  obtain ⟨ee, e0, h⟩ := bE h
  cases ee with
  | e0 i0 x0 =>
    obtain ⟨e1, h⟩ := guardP_some.1 h
    have h := Option.some.inj h; subst h; exact P57_0 i0 s0 s1 x0 k (L57_0_ok e0) (GrdW.mk ⟨(.inl rfl), e1⟩)
theorem L31_0_b0 (i0 : Int) (b0 : Bool) (s0 s1 s2 s3 s4 s5 s6 : List UInt8) (x0 : List V) (o0 : Option Bool) (n0 k : Nat)
    (c0 : decide (i0 < (↑x0.length : Int)) = true)
    (c1 : IdxP x0 i0 n0 1 (V.str s4))
    (c2 : cP ((k + 11)) 57 [V.str s3, V.str s4] = some (V.str s5))
    (c3 : cP ((k + 11)) 25 [V.str s5, V.str s0] = some (V.str s6)) :
    evalCode Try.prog Try.cfg (evalFn Try.prog Try.cfg (k + 11)) 0 (Try.cfg.fc 31) (k + 11) (loopBody Try.f31 0) { tm := [(0, V.str s0), (1, V.str s1), (2, V.str s2), (6, V.str []), (7, V.str s3), (14, V.sl o0 b0 n0 x0), (15, vi (↑x0.length : Int)), (16, vi i0)], hp := [], nx := 0 } = some (Exit.normal, { tm := [(0, V.str s0), (1, V.str s1), (2, V.str s2), (6, V.str []), (7, V.str s6), (9, V.str s4), (14, V.sl o0 b0 n0 x0), (15, vi (↑x0.length : Int)), (16, vi (IntKind.i64.wrap (i0 + 1))), (17, V.bool true)], hp := [], nx := 48 }) :=
  byL (k := k) (d := 11) [Hn.br 17 true, Hn.op 18 ((V.str s4).cpt 0) [], Hn.call 22 (V.str s5), Hn.call 24 (V.str s6)] (aI c0 (aI c1 (aI c2 (aI c3 trivial)))) (by kernel_rfl)
theorem L31_0_b0h (i0 : Int) (b0 : Bool) (s0 s1 s2 s4 s6 : List UInt8) (x0 : List V) (o0 : Option Bool) (n0 : Nat) : head 0 [0, 1, 2, 6, 7, 14, 15, 16] (Try.cfg.fc 31).acc { tm := [(0, V.str s0), (1, V.str s1), (2, V.str s2), (6, V.str []), (7, V.str s6), (9, V.str s4), (14, V.sl o0 b0 n0 x0), (15, vi (↑x0.length : Int)), (16, vi (IntKind.i64.wrap (i0 + 1))), (17, V.bool true)], hp := [], nx := 48 } = { tm := [(0, V.str s0), (1, V.str s1), (2, V.str s2), (6, V.str []), (7, V.str s6), (14, V.sl o0 b0 n0 x0), (15, vi (↑x0.length : Int)), (16, vi (IntKind.i64.wrap (i0 + 1)))], hp := [], nx := 0 } := by kernel_rfl
theorem L31_0_b1 (i0 : Int) (b0 : Bool) (s0 s1 s2 s3 : List UInt8) (x0 : List V) (o0 : Option Bool) (n0 k : Nat)
    (c0 : decide (i0 < (↑x0.length : Int)) = false) :
    evalCode Try.prog Try.cfg (evalFn Try.prog Try.cfg (k + 11)) 0 (Try.cfg.fc 31) (k + 11) (loopBody Try.f31 0) { tm := [(0, V.str s0), (1, V.str s1), (2, V.str s2), (6, V.str []), (7, V.str s3), (14, V.sl o0 b0 n0 x0), (15, vi (↑x0.length : Int)), (16, vi i0)], hp := [], nx := 0 } = some (Exit.exit 0, { tm := [(0, V.str s0), (1, V.str s1), (2, V.str s2), (6, V.str []), (7, V.str s3), (14, V.sl o0 b0 n0 x0), (15, vi (↑x0.length : Int)), (16, vi i0), (17, V.bool false)], hp := [], nx := 4 }) :=
  byL (k := k) (d := 11) [Hn.br 17 false] (aI c0 trivial) (by kernel_rfl)
inductive L31_0_R where
  | e0 (i0 : Int) (s3 : List UInt8)
noncomputable def L31_0_end (b0 : Bool) (s0 : List UInt8) (s1 : List UInt8) (s2 : List UInt8) (x0 : List V) (o0 : Option Bool) (n0 : Nat) : L31_0_R → Exit × St
  | .e0 i0 s3 => (Exit.exit 0, { tm := [(0, V.str s0), (1, V.str s1), (2, V.str s2), (6, V.str []), (7, V.str s3), (14, V.sl o0 b0 n0 x0), (15, V.int .i64 (↑x0.length : Int)), (16, V.int .i64 i0), (17, V.bool false)], hp := [], nx := 4 })
def L31_0 (k : Nat) (b0 : Bool) (s0 s1 s2 : List UInt8) (x0 : List V) (o0 : Option Bool) (n0 : Nat) : Nat → List UInt8 → Int → Option L31_0_R
  | 0, _, _ => none
  | f + 1, s3, i0 => (bif decide (i0 < (↑x0.length : Int)) then (guardP (n0 = (1 : Nat)) (((at? (x0) (i0)).bind dS).bind fun s4 => ((F57 (k + 8) (s3) (s4)).bind fun s5 => ((F25 (k + 2) (s5) (s0)).bind fun s6 => (L31_0 k b0 s0 s1 s2 x0 o0 n0 f (s6) (IntKind.i64.wrap (i0 + 1))))))) else (some (L31_0_R.e0 i0 s3)))
theorem L31_0_ok {b0 : Bool} {s0 s1 s2 : List UInt8} {x0 : List V} {o0 : Option Bool} {n0 k : Nat} : ∀ {f : Nat} {s3 : List UInt8} {i0 : Int} {r : L31_0_R}, L31_0 k b0 s0 s1 s2 x0 o0 n0 f s3 i0 = some r →
    LoopsN Try.prog Try.cfg (k + 11) 0 Try.f31 (Try.cfg.fc 31) 0 [0, 1, 2, 6, 7, 14, 15, 16] f { tm := [(0, V.str s0), (1, V.str s1), (2, V.str s2), (6, V.str []), (7, V.str s3), (14, V.sl o0 b0 n0 x0), (15, vi (↑x0.length : Int)), (16, vi i0)], hp := [], nx := 0 } (L31_0_end b0 s0 s1 s2 x0 o0 n0 r) := by
  intro f
  induction f with
  | zero => intro s3 i0 r h; cases h
  | succ f ih =>
    intro s3 i0 r h
    rw [L31_0] at h
    rcases cond_elim h with ⟨e0, h⟩ | ⟨e0, h⟩
    ·
      obtain ⟨e1, h⟩ := guardP_some.1 h
      obtain ⟨s4, e2, h⟩ := bE h
      obtain ⟨s5, e3, h⟩ := bE h
      obtain ⟨s6, e4, h⟩ := bE h
      exact LoopsN.next (L31_0_b0 i0 b0 s0 s1 s2 s3 s4 s5 s6 x0 o0 n0 k e0 (IdxP.of_at' (at_d dS_ok e2 :) e1) (F57_ok e3) (F25_ok e4)) (L31_0_b0h i0 b0 s0 s1 s2 s4 s6 x0 o0 n0) (ih h)
    ·
      cases h; exact LoopsN.done (L31_0_b1 i0 b0 s0 s1 s2 s3 x0 o0 n0 k e0) (fun h => by cases h)
theorem P31_0 (i0 : Int) (b0 : Bool) (s0 s1 s2 s3 : List UInt8) (x0 : List V) (o0 : Option Bool) (n0 k : Nat)
    (c0 : cP ((k + 11)) 30 [V.str s1, V.str s2] = some (V.sl o0 b0 n0 x0))
    (c1 : LoopsN Try.prog Try.cfg (k + 11) 0 Try.f31 (Try.cfg.fc 31) 0 [0, 1, 2, 6, 7, 14, 15, 16] (k + 11) { tm := [(0, V.str s0), (1, V.str s1), (2, V.str s2), (6, V.str []), (7, V.str [0, 0, 0, 0, 0, 0, 0, 0, 0, 0, 0, 0, 0, 0, 0, 0]), (14, V.sl o0 b0 n0 x0), (15, vi (↑x0.length : Int)), (16, vi 0)], hp := [], nx := 0 } (Exit.exit 0, { tm := [(0, V.str s0), (1, V.str s1), (2, V.str s2), (6, V.str []), (7, V.str s3), (14, V.sl o0 b0 n0 x0), (15, vi (↑x0.length : Int)), (16, vi i0), (17, V.bool false)], hp := [], nx := 4 })) :
    cP ((k + 12)) 31 [V.str s0, V.str s1, V.str s2] = some (V.str s3) :=
  byF (k := k) (d := 12) [Hn.call 14 (V.sl o0 b0 n0 x0), Hn.loop (Exit.exit 0, { tm := [(0, V.str s0), (1, V.str s1), (2, V.str s2), (6, V.str []), (7, V.str s3), (14, V.sl o0 b0 n0 x0), (15, vi (↑x0.length : Int)), (16, vi i0), (17, V.bool false)], hp := [], nx := 4 })] (aI c0 (aI c1 trivial)) (by kernel_rfl)
def F31 (k : Nat) (s0 s1 s2 : List UInt8) : Option (List UInt8) :=
  ((F30 (k + 5) (s1) (s2)).bind fun (o0, b0, n0, x0) => ((L31_0 k b0 s0 s1 s2 x0 o0 n0 (k + 11) ([0, 0, 0, 0, 0, 0, 0, 0, 0, 0, 0, 0, 0, 0, 0, 0]) (0)).bind fun
    | L31_0_R.e0 i0 s3 => (some (s3))))
theorem F31_ok {s0 s1 s2 : List UInt8} {k : Nat} {r : List UInt8} (h : F31 k s0 s1 s2 = some r) :
    cP ((k + 12)) 31 [V.str s0, V.str s1, V.str s2] = some (V.str r) := by
  unfold F31 at h
  obtain ⟨⟨o0, b0, n0, x0⟩, e0, h⟩ := bE h
  obtain ⟨ee, e1, h⟩ := bE h
  cases ee with
  | e0 i0 s3 =>
    have h := Option.some.inj h; subst h; exact P31_0 i0 b0 s0 s1 s2 s3 x0 o0 n0 k (F30_ok e0) (L31_0_ok e1)
end Go.Proofs
