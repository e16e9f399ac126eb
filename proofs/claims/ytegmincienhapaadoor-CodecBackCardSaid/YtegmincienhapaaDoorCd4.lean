/-
  What functions of codec answer, as functions on numbers, texts and rows, each checked against the program.
-/
import Derived.Test.YtegmincienhapaaDoorShort
set_option linter.unusedVariables false
set_option maxHeartbeats 0
set_option maxRecDepth 100000
namespace Go.Proofs
open Go Go.Sym

def F17 (k : Nat) (s0 s1 : List UInt8) : Option (List UInt8) :=
  (guardP (s0.length ≤ maxBld ∧ s1.length ≤ 1000 ∧ asciiB s1 = true) (some (trimB s0 s1)))
theorem F17_ok {s0 s1 : List UInt8} {k : Nat} {r : List UInt8} (h : F17 k s0 s1 = some r) :
    cP ((k + 1)) 17 [V.str s0, V.str s1] = some (V.str r) := by
  unfold F17 at h
  obtain ⟨e0, h⟩ := guardP_some.1 h
  have h := Option.some.inj h; subst h
  exact callP_trim (by kernel_rfl) (by kernel_rfl) e0
theorem L40_0_b0 (i0 i1 i2 : Int) (x0 : List V) (k : Nat)
    (c0 : decide (i2 < (↑(List.replicate i1.toNat (vb 0)).length : Int)) = true)
    (c1 : GrdP ((0 : Int) ≤ IntKind.i64.wrap ((8 : Int) * i2)) (vu (i0.fdiv ((2 : Int) ^ min (IntKind.i64.wrap ((8 : Int) * i2)).toNat IntKind.u64.bits))))
    (c2 : IdxR x0.length i2 1 1 (V.ept 0 i2.toNat 0))
    (c3 : GrdW (false = false ∧ (rid (vb (IntKind.u8.wrap (i0.fdiv ((2 : Int) ^ min (IntKind.i64.wrap ((8 : Int) * i2)).toNat IntKind.u64.bits))))).contains (0 : Nat) = false ∧ i2.toNat < x0.length) (V.tup []) [((0 : Nat), Ob.row false (1 : Nat) (x0.set i2.toNat (vb (IntKind.u8.wrap (i0.fdiv ((2 : Int) ^ min (IntKind.i64.wrap ((8 : Int) * i2)).toNat IntKind.u64.bits))))))]) :
    evalCode Tryd.prog Tryd.cfg (evalFn Tryd.prog Tryd.cfg (k + 2)) 0 (Tryd.cfg.fc 40) (k + 2) (loopBody Tryd.f40 0) { tm := [(0, vu i0), (1, vi i1), (4, V.str []), (5, V.ref 0), (10, vi (↑(List.replicate i1.toNat (vb 0)).length : Int)), (11, vi i2)], hp := [(0, Ob.row false 1 x0)], nx := 1 } = some (Exit.normal, { tm := [(0, vu i0), (1, vi i1), (4, V.str []), (5, V.ref 0), (6, vi i2), (10, vi (↑(List.replicate i1.toNat (vb 0)).length : Int)), (11, vi (IntKind.i64.wrap (i2 + 1))), (12, V.bool true)], hp := [(0, Ob.row false 1 (x0.set i2.toNat (vb (IntKind.u8.wrap (i0.fdiv (2 ^ min (IntKind.i64.wrap (8 * i2)).toNat IntKind.u64.bits))))))], nx := 57 }) :=
  byL (k := k) (d := 2) [Hn.br 12 true, Hn.op 19 (vu (i0.fdiv (2 ^ min (IntKind.i64.wrap (8 * i2)).toNat IntKind.u64.bits))) [], Hn.op 21 (V.ept 0 i2.toNat 0) [], Hn.wr 45 (V.tup []) [(0, Ob.row false 1 (x0.set i2.toNat (vb (IntKind.u8.wrap (i0.fdiv (2 ^ min (IntKind.i64.wrap (8 * i2)).toNat IntKind.u64.bits))))))]] (aI c0 (aI c1 (aI c2 (aI c3 trivial)))) (by kernel_rfl)
theorem L40_0_b0h (i0 i1 i2 : Int) (x0 : List V) : head 0 [0, 1, 4, 5, 10, 11] (Tryd.cfg.fc 40).acc { tm := [(0, vu i0), (1, vi i1), (4, V.str []), (5, V.ref 0), (6, vi i2), (10, vi (↑(List.replicate i1.toNat (vb 0)).length : Int)), (11, vi (IntKind.i64.wrap (i2 + 1))), (12, V.bool true)], hp := [(0, Ob.row false 1 (x0.set i2.toNat (vb (IntKind.u8.wrap (i0.fdiv (2 ^ min (IntKind.i64.wrap (8 * i2)).toNat IntKind.u64.bits))))))], nx := 57 } = { tm := [(0, vu i0), (1, vi i1), (4, V.str []), (5, V.ref 0), (10, vi (↑(List.replicate i1.toNat (vb 0)).length : Int)), (11, vi (IntKind.i64.wrap (i2 + 1)))], hp := [(0, Ob.row false 1 (x0.set i2.toNat (vb (IntKind.u8.wrap (i0.fdiv (2 ^ min (IntKind.i64.wrap (8 * i2)).toNat IntKind.u64.bits))))))], nx := 1 } := by kernel_rfl
theorem L40_0_b1 (i0 i1 i2 : Int) (x0 : List V) (k : Nat)
    (c0 : decide (i2 < (↑(List.replicate i1.toNat (vb 0)).length : Int)) = false) :
    evalCode Tryd.prog Tryd.cfg (evalFn Tryd.prog Tryd.cfg (k + 2)) 0 (Tryd.cfg.fc 40) (k + 2) (loopBody Tryd.f40 0) { tm := [(0, vu i0), (1, vi i1), (4, V.str []), (5, V.ref 0), (10, vi (↑(List.replicate i1.toNat (vb 0)).length : Int)), (11, vi i2)], hp := [(0, Ob.row false 1 x0)], nx := 1 } = some (Exit.exit 0, { tm := [(0, vu i0), (1, vi i1), (4, V.str []), (5, V.ref 0), (10, vi (↑(List.replicate i1.toNat (vb 0)).length : Int)), (11, vi i2), (12, V.bool false)], hp := [(0, Ob.row false 1 x0)], nx := 5 }) :=
  byL (k := k) (d := 2) [Hn.br 12 false] (aI c0 trivial) (by kernel_rfl)
inductive L40_0_R where
  | e0 (i2 : Int) (x0 : List V)
noncomputable def L40_0_end (i0 : Int) (i1 : Int) : L40_0_R → Exit × St
  | .e0 i2 x0 => (Exit.exit 0, { tm := [(0, V.int .u64 i0), (1, V.int .i64 i1), (4, V.str []), (5, V.ref 0), (10, V.int .i64 (↑(List.replicate i1.toNat (V.int .u8 0)).length : Int)), (11, V.int .i64 i2), (12, V.bool false)], hp := [(0, Ob.row false 1 x0)], nx := 5 })
def L40_0 (k : Nat) (i0 i1 : Int) : Nat → Int → List V → Option L40_0_R
  | 0, _, _ => none
  | f + 1, i2, x0 => (bif decide (i2 < (↑(List.replicate i1.toNat (V.int .u8 0)).length : Int)) then (guardP ((0 : Int) ≤ IntKind.i64.wrap ((8 : Int) * i2)) (guardP ((0 : Int) ≤ i2 ∧ i2 < (↑x0.length : Int)) (guardP (i2.toNat < x0.length) (L40_0 k i0 i1 f (IntKind.i64.wrap (i2 + 1)) (x0.set i2.toNat (V.int .u8 (IntKind.u8.wrap (i0.fdiv (2 ^ min (IntKind.i64.wrap (8 * i2)).toNat IntKind.u64.bits))))))))) else (some (L40_0_R.e0 i2 x0)))
theorem L40_0_ok {i0 i1 : Int} {k : Nat} : ∀ {f : Nat} {i2 : Int} {x0 : List V} {r : L40_0_R}, L40_0 k i0 i1 f i2 x0 = some r →
    LoopsN Tryd.prog Tryd.cfg (k + 2) 0 Tryd.f40 (Tryd.cfg.fc 40) 0 [0, 1, 4, 5, 10, 11] f { tm := [(0, vu i0), (1, vi i1), (4, V.str []), (5, V.ref 0), (10, vi (↑(List.replicate i1.toNat (vb 0)).length : Int)), (11, vi i2)], hp := [(0, Ob.row false 1 x0)], nx := 1 } (L40_0_end i0 i1 r) := by
  intro f
  induction f with
  | zero => intro i2 x0 r h; cases h
  | succ f ih =>
    intro i2 x0 r h
    rw [L40_0] at h
    rcases cond_elim h with ⟨e0, h⟩ | ⟨e0, h⟩
    ·
      obtain ⟨e1, h⟩ := guardP_some.1 h
      obtain ⟨e2, h⟩ := guardP_some.1 h
      obtain ⟨e3, h⟩ := guardP_some.1 h
      exact LoopsN.next (L40_0_b0 i0 i1 i2 x0 k e0 (GrdP.mk e1) (IdxR.mk' e2 rfl) (GrdW.mk ⟨rfl, rfl, e3⟩)) (L40_0_b0h i0 i1 i2 x0) (ih h)
    ·
      cases h; exact LoopsN.done (L40_0_b1 i0 i1 i2 x0 k e0) (fun h => by cases h)
theorem P40_0 (i0 i1 i2 : Int) (x0 : List V) (k : Nat)
    (c0 : GrdW ((0 : Nat) < (1 : Nat) ∧ (1 : Nat) ≤ (64 : Nat) ∧ (vb (0 : Int)).cells.length = (1 : Nat) ∧ (0 : Int) ≤ i1 ∧ i1 ≤ i1 ∧ i1 ≤ (↑maxLen' : Int)) (V.ref (8 : Nat)) [((8 : Nat), Ob.row false (1 : Nat) (List.replicate i1.toNat (vb (0 : Int))))])
    (c1 : LoopsN Tryd.prog Tryd.cfg (k + 2) 0 Tryd.f40 (Tryd.cfg.fc 40) 0 [0, 1, 4, 5, 10, 11] (k + 2) { tm := [(0, vu i0), (1, vi i1), (4, V.str []), (5, V.ref 0), (10, vi (↑(List.replicate i1.toNat (vb 0)).length : Int)), (11, vi 0)], hp := [(0, Ob.row false 1 (List.replicate i1.toNat (vb 0)))], nx := 1 } (Exit.exit 0, { tm := [(0, vu i0), (1, vi i1), (4, V.str []), (5, V.ref 0), (10, vi (↑(List.replicate i1.toNat (vb 0)).length : Int)), (11, vi i2), (12, V.bool false)], hp := [(0, Ob.row false 1 x0)], nx := 5 }))
    (c2 : GrdW (((1 : Nat) = (1 : Nat) ∨ x0.isEmpty = true) ∧ x0.all isByte = true) (V.str (List.map Sym.byteOf x0)) []) :
    cP ((k + 3)) 40 [vu i0, vi i1] = some (V.str (List.map Sym.byteOf x0)) :=
  byF (k := k) (d := 3) [Hn.op 8 (V.ref 8) [(8, Ob.row false 1 (List.replicate i1.toNat (vb 0)))], Hn.loop (Exit.exit 0, { tm := [(0, vu i0), (1, vi i1), (4, V.str []), (5, V.ref 0), (10, vi (↑(List.replicate i1.toNat (vb 0)).length : Int)), (11, vi i2), (12, V.bool false)], hp := [(0, Ob.row false 1 x0)], nx := 5 }), Hn.op 24 (V.str (List.map Sym.byteOf x0)) []] (aI c0 (aI c1 (aI c2 trivial))) (by kernel_rfl)
def F40 (k : Nat) (i0 i1 : Int) : Option (List UInt8) :=
  (guardP ((0 : Int) ≤ i1 ∧ i1 ≤ i1 ∧ i1 ≤ (↑maxLen' : Int)) ((L40_0 k i0 i1 (k + 2) (0) (List.replicate i1.toNat (V.int .u8 0))).bind fun
    | L40_0_R.e0 i2 x0 => (guardP (x0.all isByte = true) (some (List.map Sym.byteOf x0)))))
theorem F40_ok {i0 i1 : Int} {k : Nat} {r : List UInt8} (h : F40 k i0 i1 = some r) :
    cP ((k + 3)) 40 [vu i0, vi i1] = some (V.str r) := by
  unfold F40 at h
  obtain ⟨e0, h⟩ := guardP_some.1 h
  obtain ⟨ee, e1, h⟩ := bE h
  cases ee with
  | e0 i2 x0 =>
    obtain ⟨e2, h⟩ := guardP_some.1 h
    have h := Option.some.inj h; subst h; exact P40_0 i0 i1 i2 x0 k (GrdW.mk ⟨by decide, by decide, rfl, e0⟩) (L40_0_ok e1) (GrdW.mk ⟨(.inl rfl), e2⟩)
theorem P22_0 (i0 : Int) (s0 : List UInt8) (k : Nat)
    (c0 : cP ((k + 5)) 40 [vu i0, vi 8] = some (V.str s0)) :
    cP ((k + 6)) 22 [vu i0] = some (V.str s0) :=
  byF (k := k) (d := 6) [Hn.call 4 (V.str s0)] (aI c0 trivial) (by kernel_rfl)
def F22 (k : Nat) (i0 : Int) : Option (List UInt8) :=
  ((F40 (k + 2) (i0) (8)).bind fun s0 => (some (s0)))
theorem F22_ok {i0 : Int} {k : Nat} {r : List UInt8} (h : F22 k i0 = some r) :
    cP ((k + 6)) 22 [vu i0] = some (V.str r) := by
  unfold F22 at h
  obtain ⟨s0, e0, h⟩ := bE h
  have h := Option.some.inj h; subst h; exact P22_0 i0 s0 k (F40_ok e0)
theorem P8_0 (s0 : List UInt8) (k : Nat)
    (c0 : cP ((k + 8)) 22 [vu 258] = some (V.str s0)) :
    cP ((k + 9)) 8 [] = some (V.bool (decide (s0 = [2, 1, 0, 0, 0, 0, 0, 0]))) :=
  byF (k := k) (d := 9) [Hn.call 1 (V.str s0)] (aI c0 trivial) (by kernel_rfl)
def F8 (k : Nat) : Option (Bool) :=
  ((F22 (k + 2) (258)).bind fun s0 => (some (decide (s0 = [2, 1, 0, 0, 0, 0, 0, 0]))))
theorem F8_ok {k : Nat} {r : Bool} (h : F8 k = some r) :
    cP ((k + 9)) 8 [] = some (V.bool r) := by
  unfold F8 at h
  obtain ⟨s0, e0, h⟩ := bE h
  have h := Option.some.inj h; subst h; exact P8_0 s0 k (F22_ok e0)
theorem L39_0_b0 (i0 i1 i2 : Int) (s0 : List UInt8) (k : Nat)
    (c0 : decide (0 ≤ i0) = true)
    (c1 : IdxR (List.map (fun c => vb (↑c.toNat : Int)) s0).length i0 1 1 (V.ept 4 i0.toNat 0))
    (c2 : LdP Tryd.prog 5 (List.map (fun c => vb (↑c.toNat : Int)) s0) i0.toNat 0 (vb i2)) :
    evalCode Tryd.prog Tryd.cfg (evalFn Tryd.prog Tryd.cfg (k + 3)) 4 (Tryd.cfg.fc 59) (k + 3) (loopBody Tryd.f59 0) { tm := [(0, V.yld 3), (1, V.ptr 1 0), (3, vi i0)], hp := [(0, Ob.var [vu i1]), (1, Ob.var [V.ref 4]), (3, Ob.loop LS.ready (Tryd.cfg.fc 39) (rangeCode Tryd.f39 0) [(0, V.str s0), (2, vu 0), (3, V.ptr 0 0), (8, V.fn (Fn.func 59) [] [V.ptr 1 0])]), (4, Ob.row false 1 (List.map (fun c => vb (↑c.toNat : Int)) s0))], nx := 5 } = some (Exit.normal, { tm := [(0, V.yld 3), (1, V.ptr 1 0), (3, vi (IntKind.i64.wrap (i0 - 1))), (8, V.bool true), (18, V.bool false)], hp := [(0, Ob.var [vu (IntKind.u64.wrap (↑(BitVec.ofInt IntKind.u64.bits (IntKind.u64.wrap (i1 * 2 ^ min (Int.toNat 8) IntKind.u64.bits)) ||| BitVec.ofInt IntKind.u64.bits (IntKind.u64.wrap i2)).toNat : Int))]), (1, Ob.var [V.ref 4]), (3, Ob.loop LS.ready (Tryd.cfg.fc 39) (rangeCode Tryd.f39 0) [(0, V.str s0), (2, vu 0), (3, V.ptr 0 0), (8, V.fn (Fn.func 59) [] [V.ptr 1 0])]), (4, Ob.row false 1 (List.map (fun c => vb (↑c.toNat : Int)) s0))], nx := 81 }) :=
  byL (k := k) (d := 3) [Hn.br 8 true, Hn.op 15 (V.ept 4 i0.toNat 0) [], Hn.op 16 (vb i2) [], Hn.enter] (aI c0 (aI c1 (aI c2 trivial))) (by kernel_rfl)
theorem L39_0_b0h (i0 i1 i2 : Int) (s0 : List UInt8) : head 4 [0, 1, 3] (Tryd.cfg.fc 59).acc { tm := [(0, V.yld 3), (1, V.ptr 1 0), (3, vi (IntKind.i64.wrap (i0 - 1))), (8, V.bool true), (18, V.bool false)], hp := [(0, Ob.var [vu (IntKind.u64.wrap (↑(BitVec.ofInt IntKind.u64.bits (IntKind.u64.wrap (i1 * 2 ^ min (Int.toNat 8) IntKind.u64.bits)) ||| BitVec.ofInt IntKind.u64.bits (IntKind.u64.wrap i2)).toNat : Int))]), (1, Ob.var [V.ref 4]), (3, Ob.loop LS.ready (Tryd.cfg.fc 39) (rangeCode Tryd.f39 0) [(0, V.str s0), (2, vu 0), (3, V.ptr 0 0), (8, V.fn (Fn.func 59) [] [V.ptr 1 0])]), (4, Ob.row false 1 (List.map (fun c => vb (↑c.toNat : Int)) s0))], nx := 81 } = { tm := [(0, V.yld 3), (1, V.ptr 1 0), (3, vi (IntKind.i64.wrap (i0 - 1)))], hp := [(0, Ob.var [vu (IntKind.u64.wrap (↑(BitVec.ofInt IntKind.u64.bits (IntKind.u64.wrap (i1 * 2 ^ min (Int.toNat 8) IntKind.u64.bits)) ||| BitVec.ofInt IntKind.u64.bits (IntKind.u64.wrap i2)).toNat : Int))]), (1, Ob.var [V.ref 4]), (3, Ob.loop LS.ready (Tryd.cfg.fc 39) (rangeCode Tryd.f39 0) [(0, V.str s0), (2, vu 0), (3, V.ptr 0 0), (8, V.fn (Fn.func 59) [] [V.ptr 1 0])]), (4, Ob.row false 1 (List.map (fun c => vb (↑c.toNat : Int)) s0))], nx := 5 } := by kernel_rfl
theorem L39_0_b1 (i0 i1 : Int) (s0 : List UInt8) (k : Nat)
    (c0 : decide (0 ≤ i0) = false) :
    evalCode Tryd.prog Tryd.cfg (evalFn Tryd.prog Tryd.cfg (k + 3)) 4 (Tryd.cfg.fc 59) (k + 3) (loopBody Tryd.f59 0) { tm := [(0, V.yld 3), (1, V.ptr 1 0), (3, vi i0)], hp := [(0, Ob.var [vu i1]), (1, Ob.var [V.ref 4]), (3, Ob.loop LS.ready (Tryd.cfg.fc 39) (rangeCode Tryd.f39 0) [(0, V.str s0), (2, vu 0), (3, V.ptr 0 0), (8, V.fn (Fn.func 59) [] [V.ptr 1 0])]), (4, Ob.row false 1 (List.map (fun c => vb (↑c.toNat : Int)) s0))], nx := 5 } = some (Exit.exit 0, { tm := [(0, V.yld 3), (1, V.ptr 1 0), (3, vi i0), (8, V.bool false)], hp := [(0, Ob.var [vu i1]), (1, Ob.var [V.ref 4]), (3, Ob.loop LS.ready (Tryd.cfg.fc 39) (rangeCode Tryd.f39 0) [(0, V.str s0), (2, vu 0), (3, V.ptr 0 0), (8, V.fn (Fn.func 59) [] [V.ptr 1 0])]), (4, Ob.row false 1 (List.map (fun c => vb (↑c.toNat : Int)) s0))], nx := 13 }) :=
  byL (k := k) (d := 3) [Hn.br 8 false] (aI c0 trivial) (by kernel_rfl)
inductive L39_0_R where
  | e0 (i0 : Int) (i1 : Int)
noncomputable def L39_0_end (s0 : List UInt8) : L39_0_R → Exit × St
  | .e0 i0 i1 => (Exit.exit 0, { tm := [(0, V.yld 3), (1, V.ptr 1 0), (3, V.int .i64 i0), (8, V.bool false)], hp := [(0, Ob.var [V.int .u64 i1]), (1, Ob.var [V.ref 4]), (3, Ob.loop LS.ready (Tryd.cfg.fc 39) (rangeCode Tryd.f39 0) [(0, V.str s0), (2, V.int .u64 0), (3, V.ptr 0 0), (8, V.fn (Fn.func 59) [] [V.ptr 1 0])]), (4, Ob.row false 1 (List.map (fun c => V.int .u8 (↑c.toNat : Int)) s0))], nx := 13 })
def L39_0 (k : Nat) (s0 : List UInt8) : Nat → Int → Int → Option L39_0_R
  | 0, _, _ => none
  | f + 1, i0, i1 => (bif decide (0 ≤ i0) then (guardP ((0 : Int) ≤ i0 ∧ i0 < (↑(List.map (fun c => V.int .u8 (↑c.toNat : Int)) s0).length : Int)) ((((List.map (fun c => V.int .u8 (↑c.toNat : Int)) s0)[i0.toNat]?).bind (dI IntKind.u8)).bind fun i2 => (L39_0 k s0 f (IntKind.i64.wrap (i0 - 1)) (IntKind.u64.wrap (↑(BitVec.ofInt IntKind.u64.bits (IntKind.u64.wrap (i1 * 2 ^ min (Int.toNat 8) IntKind.u64.bits)) ||| BitVec.ofInt IntKind.u64.bits (IntKind.u64.wrap i2)).toNat : Int))))) else (some (L39_0_R.e0 i0 i1)))
theorem L39_0_ok {s0 : List UInt8} {k : Nat} : ∀ {f : Nat} {i0 : Int} {i1 : Int} {r : L39_0_R}, L39_0 k s0 f i0 i1 = some r →
    LoopsN Tryd.prog Tryd.cfg (k + 3) 4 Tryd.f59 (Tryd.cfg.fc 59) 0 [0, 1, 3] f { tm := [(0, V.yld 3), (1, V.ptr 1 0), (3, vi i0)], hp := [(0, Ob.var [vu i1]), (1, Ob.var [V.ref 4]), (3, Ob.loop LS.ready (Tryd.cfg.fc 39) (rangeCode Tryd.f39 0) [(0, V.str s0), (2, vu 0), (3, V.ptr 0 0), (8, V.fn (Fn.func 59) [] [V.ptr 1 0])]), (4, Ob.row false 1 (List.map (fun c => vb (↑c.toNat : Int)) s0))], nx := 5 } (L39_0_end s0 r) := by
  intro f
  induction f with
  | zero => intro i0 i1 r h; cases h
  | succ f ih =>
    intro i0 i1 r h
    rw [L39_0] at h
    rcases cond_elim h with ⟨e0, h⟩ | ⟨e0, h⟩
    ·
      obtain ⟨e1, h⟩ := guardP_some.1 h
      obtain ⟨i2, e2, h⟩ := bE h
      exact LoopsN.next (L39_0_b0 i0 i1 i2 s0 k e0 (IdxR.mk' e1 rfl) (LdP.mk (get_d dI_ok e2 :) (by kernel_rfl))) (L39_0_b0h i0 i1 i2 s0) (ih h)
    ·
      cases h; exact LoopsN.done (L39_0_b1 i0 i1 s0 k e0) (fun h => by cases h)
theorem P39_0 (i0 i1 : Int) (s0 : List UInt8) (k : Nat)
    (c0 : GrdW (s0.length ≤ maxLen' ∧ (1 : Nat) = (1 : Nat)) (V.ref (16 : Nat)) [((16 : Nat), Ob.row false (1 : Nat) (List.map (fun c => vb (↑c.toNat : Int)) s0))])
    (c1 : LoopsN Tryd.prog Tryd.cfg (k + 3) 4 Tryd.f59 (Tryd.cfg.fc 59) 0 [0, 1, 3] (k + 3) { tm := [(0, V.yld 3), (1, V.ptr 1 0), (3, vi (IntKind.i64.wrap ((↑(List.map (fun c => vb (↑c.toNat : Int)) s0).length : Int) - 1)))], hp := [(0, Ob.var [vu 0]), (1, Ob.var [V.ref 4]), (3, Ob.loop LS.ready (Tryd.cfg.fc 39) (rangeCode Tryd.f39 0) [(0, V.str s0), (2, vu 0), (3, V.ptr 0 0), (8, V.fn (Fn.func 59) [] [V.ptr 1 0])]), (4, Ob.row false 1 (List.map (fun c => vb (↑c.toNat : Int)) s0))], nx := 5 } (Exit.exit 0, { tm := [(0, V.yld 3), (1, V.ptr 1 0), (3, vi i0), (8, V.bool false)], hp := [(0, Ob.var [vu i1]), (1, Ob.var [V.ref 4]), (3, Ob.loop LS.ready (Tryd.cfg.fc 39) (rangeCode Tryd.f39 0) [(0, V.str s0), (2, vu 0), (3, V.ptr 0 0), (8, V.fn (Fn.func 59) [] [V.ptr 1 0])]), (4, Ob.row false 1 (List.map (fun c => vb (↑c.toNat : Int)) s0))], nx := 13 })) :
    cP ((k + 5)) 39 [V.str s0] = some (vu i1) :=
  byF (k := k) (d := 5) [Hn.op 7 (V.ref 16) [(16, Ob.row false 1 (List.map (fun c => vb (↑c.toNat : Int)) s0))], Hn.enter, Hn.enter, Hn.loop (Exit.exit 0, { tm := [(0, V.yld 3), (1, V.ptr 1 0), (3, vi i0), (8, V.bool false)], hp := [(0, Ob.var [vu i1]), (1, Ob.var [V.ref 4]), (3, Ob.loop LS.ready (Tryd.cfg.fc 39) (rangeCode Tryd.f39 0) [(0, V.str s0), (2, vu 0), (3, V.ptr 0 0), (8, V.fn (Fn.func 59) [] [V.ptr 1 0])]), (4, Ob.row false 1 (List.map (fun c => vb (↑c.toNat : Int)) s0))], nx := 13 })] (aI c0 (aI c1 trivial)) (by kernel_rfl)
def F39 (k : Nat) (s0 : List UInt8) : Option (Int) :=
  (guardP (s0.length ≤ maxLen') ((L39_0 k s0 (k + 3) (IntKind.i64.wrap ((↑(List.map (fun c => V.int .u8 (↑c.toNat : Int)) s0).length : Int) - 1)) (0)).bind fun
    | L39_0_R.e0 i0 i1 => (some (i1))))
theorem F39_ok {s0 : List UInt8} {k : Nat} {r : Int} (h : F39 k s0 = some r) :
    cP ((k + 5)) 39 [V.str s0] = some (vu r) := by
  unfold F39 at h
  obtain ⟨e0, h⟩ := guardP_some.1 h
  obtain ⟨ee, e1, h⟩ := bE h
  cases ee with
  | e0 i0 i1 =>
    have h := Option.some.inj h; subst h; exact P39_0 i0 i1 s0 k (GrdW.mk ⟨e0, rfl⟩) (L39_0_ok e1)
theorem P24_0 (s0 : List UInt8) (k : Nat)
    (c0 : decide (4096 < (↑s0.length : Int)) = true) :
    cP ((k + 6)) 24 [V.str s0] = some (V.tup [V.str [], vi 4]) :=
  byF (k := k) (d := 6) [Hn.br 6 true] (aI c0 trivial) (by kernel_rfl)
theorem P24_1 (s0 s1 : List UInt8) (k : Nat)
    (c0 : decide (4096 < (↑s0.length : Int)) = false)
    (c1 : cP ((k + 5)) 40 [vu (IntKind.u64.wrap (↑s0.length : Int)), vi 2] = some (V.str s1))
    (c2 : GrdP (s1.length + s0.length ≤ maxText) (V.str (s1 ++ s0))) :
    cP ((k + 6)) 24 [V.str s0] = some (V.tup [V.str (s1 ++ s0), vi 0]) :=
  byF (k := k) (d := 6) [Hn.br 6 false, Hn.call 10 (V.str s1), Hn.op 12 (V.str (s1 ++ s0)) []] (aI c0 (aI c1 (aI c2 trivial))) (by kernel_rfl)
def F24 (k : Nat) (s0 : List UInt8) : Option (List UInt8 × Int) :=
  (bif decide (4096 < (↑s0.length : Int)) then (some (([]), (4))) else ((F40 (k + 2) (IntKind.u64.wrap (↑s0.length : Int)) (2)).bind fun s1 => (guardP (s1.length + s0.length ≤ maxText) (some ((s1 ++ s0), (0))))))
theorem F24_ok {s0 : List UInt8} {k : Nat} {r : List UInt8 × Int} (h : F24 k s0 = some r) :
    cP ((k + 6)) 24 [V.str s0] = some (V.tup [V.str r.1, vi r.2]) := by
  unfold F24 at h
  rcases cond_elim h with ⟨e0, h⟩ | ⟨e0, h⟩
  ·
    have h := Option.some.inj h; subst h; exact P24_0 s0 k e0
  ·
    obtain ⟨s1, e1, h⟩ := bE h
    obtain ⟨e2, h⟩ := guardP_some.1 h
    have h := Option.some.inj h; subst h; exact P24_1 s0 s1 k e0 (F40_ok e1) (GrdP.mk e2)
def dAbu64sZ : V → Option (Bool × Int × List UInt8)
  | V.agg [V.bool a0, V.int .u64 a1, V.str a2] => some (a0, a1, a2)
  | _ => none
theorem dAbu64sZ_ok {v : V} {a : Bool × Int × List UInt8} (h : dAbu64sZ v = some a) : v = (fun (a : Bool × Int × List UInt8) => V.agg [V.bool a.1, vu a.2.1, V.str a.2.2] ) a := by
  unfold dAbu64sZ at h; split at h
  · cases h; rfl
  · cases h
theorem L10_0_b0 (i0 i1 : Int) (b0 b1 : Bool) (s0 s1 s2 : List UInt8) (x0 : List V) (o0 : Option Bool) (n0 k : Nat)
    (c0 : decide (i0 < (↑x0.length : Int)) = true)
    (c1 : IdxP x0 i0 n0 3 (V.agg [V.bool b1, vu i1, V.str s1]))
    (c2 : (!b1) = true)
    (c3 : cP ((k + 8)) 22 [vu i1] = some (V.str s2))
    (c4 : libSem { k := 1, t := 57, e := 5 } [V.ptr 0 0, V.str s2] [(0, Ob.bld 57 5 1 s0), (1, Ob.raw 0), (14, Ob.var [V.bool b1, vu i1, V.str s1])] 46 = some (V.tup [vi (↑s2.length : Int), V.nili], [(0, Ob.bld 57 5 46 (s0 ++ s2)), (1, Ob.dead), (14, Ob.var [V.bool b1, vu i1, V.str s1]), (46, Ob.raw 0)], 47)) :
    evalCode Tryd.prog Tryd.cfg (evalFn Tryd.prog Tryd.cfg (k + 8)) 0 (Tryd.cfg.fc 10) (k + 8) (loopBody Tryd.f10 0) { tm := [(0, V.sl o0 b0 n0 x0), (2, V.str []), (3, vi 0), (4, V.ptr 0 0), (9, V.sl o0 b0 n0 x0), (10, vi (↑x0.length : Int)), (11, vi i0)], hp := [(0, Ob.bld 57 5 1 s0), (1, Ob.raw 0)], nx := 2 } = some (Exit.normal, { tm := [(0, V.sl o0 b0 n0 x0), (2, V.str []), (3, vi 0), (4, V.ptr 0 0), (6, V.ptr 14 0), (9, V.sl o0 b0 n0 x0), (10, vi (↑x0.length : Int)), (11, vi (IntKind.i64.wrap (i0 + 1))), (12, V.bool true), (17, V.bool true)], hp := [(0, Ob.bld 57 5 46 (s0 ++ s2)), (1, Ob.dead), (14, Ob.var [V.bool b1, vu i1, V.str s1]), (46, Ob.raw 0)], nx := 55 }) :=
  byL (k := k) (d := 8) [Hn.br 12 true, Hn.op 13 ((V.agg [V.bool b1, vu i1, V.str s1]).cpt 0) [], Hn.br 17 true, Hn.call 20 (V.str s2), Hn.enter, Hn.lib (V.tup [vi (↑s2.length : Int), V.nili], [(0, Ob.bld 57 5 46 (s0 ++ s2)), (1, Ob.dead), (14, Ob.var [V.bool b1, vu i1, V.str s1]), (46, Ob.raw 0)], 47)] (aI c0 (aI c1 (aI c2 (aI c3 (aI c4 trivial))))) (by kernel_rfl)
theorem L10_0_b0h (i0 i1 : Int) (b0 b1 : Bool) (s0 s1 s2 : List UInt8) (x0 : List V) (o0 : Option Bool) (n0 : Nat) : head 0 [0, 2, 3, 4, 9, 10, 11] (Tryd.cfg.fc 10).acc { tm := [(0, V.sl o0 b0 n0 x0), (2, V.str []), (3, vi 0), (4, V.ptr 0 0), (6, V.ptr 14 0), (9, V.sl o0 b0 n0 x0), (10, vi (↑x0.length : Int)), (11, vi (IntKind.i64.wrap (i0 + 1))), (12, V.bool true), (17, V.bool true)], hp := [(0, Ob.bld 57 5 46 (s0 ++ s2)), (1, Ob.dead), (14, Ob.var [V.bool b1, vu i1, V.str s1]), (46, Ob.raw 0)], nx := 55 } = { tm := [(0, V.sl o0 b0 n0 x0), (2, V.str []), (3, vi 0), (4, V.ptr 0 0), (9, V.sl o0 b0 n0 x0), (10, vi (↑x0.length : Int)), (11, vi (IntKind.i64.wrap (i0 + 1)))], hp := [(0, Ob.bld 57 5 1 (s0 ++ s2)), (1, Ob.raw 0)], nx := 2 } := by kernel_rfl
theorem L10_0_b1 (i0 i1 i2 : Int) (b0 b1 : Bool) (s0 s1 s2 : List UInt8) (x0 : List V) (o0 : Option Bool) (n0 k : Nat)
    (c0 : decide (i0 < (↑x0.length : Int)) = true)
    (c1 : IdxP x0 i0 n0 3 (V.agg [V.bool b1, vu i1, V.str s1]))
    (c2 : (!b1) = false)
    (c3 : cP ((k + 8)) 24 [V.str s1] = some (V.tup [V.str s2, vi i2]))
    (c4 : (!decide (i2 = 0)) = true) :
    evalCode Tryd.prog Tryd.cfg (evalFn Tryd.prog Tryd.cfg (k + 8)) 0 (Tryd.cfg.fc 10) (k + 8) (loopBody Tryd.f10 0) { tm := [(0, V.sl o0 b0 n0 x0), (2, V.str []), (3, vi 0), (4, V.ptr 0 0), (9, V.sl o0 b0 n0 x0), (10, vi (↑x0.length : Int)), (11, vi i0)], hp := [(0, Ob.bld 57 5 1 s0), (1, Ob.raw 0)], nx := 2 } = some (Exit.ret, { tm := [(0, V.sl o0 b0 n0 x0), (2, V.str []), (3, vi i2), (4, V.ptr 0 0), (6, V.ptr 14 0), (7, V.str s2), (8, vi i2), (9, V.sl o0 b0 n0 x0), (10, vi (↑x0.length : Int)), (11, vi i0), (12, V.bool true), (17, V.bool false), (29, V.bool true)], hp := [(0, Ob.bld 57 5 1 s0), (1, Ob.raw 0), (14, Ob.var [V.bool b1, vu i1, V.str s1])], nx := 86 }) :=
  byL (k := k) (d := 8) [Hn.br 12 true, Hn.op 13 ((V.agg [V.bool b1, vu i1, V.str s1]).cpt 0) [], Hn.br 17 false, Hn.call 25 (V.tup [V.str s2, vi i2]), Hn.br 29 true] (aI c0 (aI c1 (aI c2 (aI c3 (aI c4 trivial))))) (by kernel_rfl)
theorem L10_0_b2 (i0 i1 i2 : Int) (b0 b1 : Bool) (s0 s1 s2 : List UInt8) (x0 : List V) (o0 : Option Bool) (n0 k : Nat)
    (c0 : decide (i0 < (↑x0.length : Int)) = true)
    (c1 : IdxP x0 i0 n0 3 (V.agg [V.bool b1, vu i1, V.str s1]))
    (c2 : (!b1) = false)
    (c3 : cP ((k + 8)) 24 [V.str s1] = some (V.tup [V.str s2, vi i2]))
    (c4 : (!decide (i2 = 0)) = false)
    (c5 : libSem { k := 1, t := 57, e := 5 } [V.ptr 0 0, V.str s2] [(0, Ob.bld 57 5 1 s0), (1, Ob.raw 0), (14, Ob.var [V.bool b1, vu i1, V.str s1])] 78 = some (V.tup [vi (↑s2.length : Int), V.nili], [(0, Ob.bld 57 5 78 (s0 ++ s2)), (1, Ob.dead), (14, Ob.var [V.bool b1, vu i1, V.str s1]), (78, Ob.raw 0)], 79)) :
    evalCode Tryd.prog Tryd.cfg (evalFn Tryd.prog Tryd.cfg (k + 8)) 0 (Tryd.cfg.fc 10) (k + 8) (loopBody Tryd.f10 0) { tm := [(0, V.sl o0 b0 n0 x0), (2, V.str []), (3, vi 0), (4, V.ptr 0 0), (9, V.sl o0 b0 n0 x0), (10, vi (↑x0.length : Int)), (11, vi i0)], hp := [(0, Ob.bld 57 5 1 s0), (1, Ob.raw 0)], nx := 2 } = some (Exit.normal, { tm := [(0, V.sl o0 b0 n0 x0), (2, V.str []), (3, vi 0), (4, V.ptr 0 0), (6, V.ptr 14 0), (7, V.str s2), (8, vi i2), (9, V.sl o0 b0 n0 x0), (10, vi (↑x0.length : Int)), (11, vi (IntKind.i64.wrap (i0 + 1))), (12, V.bool true), (17, V.bool false), (29, V.bool false)], hp := [(0, Ob.bld 57 5 78 (s0 ++ s2)), (1, Ob.dead), (14, Ob.var [V.bool b1, vu i1, V.str s1]), (78, Ob.raw 0)], nx := 87 }) :=
  byL (k := k) (d := 8) [Hn.br 12 true, Hn.op 13 ((V.agg [V.bool b1, vu i1, V.str s1]).cpt 0) [], Hn.br 17 false, Hn.call 25 (V.tup [V.str s2, vi i2]), Hn.br 29 false, Hn.enter, Hn.lib (V.tup [vi (↑s2.length : Int), V.nili], [(0, Ob.bld 57 5 78 (s0 ++ s2)), (1, Ob.dead), (14, Ob.var [V.bool b1, vu i1, V.str s1]), (78, Ob.raw 0)], 79)] (aI c0 (aI c1 (aI c2 (aI c3 (aI c4 (aI c5 trivial)))))) (by kernel_rfl)
theorem L10_0_b2h (i0 i1 i2 : Int) (b0 b1 : Bool) (s0 s1 s2 : List UInt8) (x0 : List V) (o0 : Option Bool) (n0 : Nat) : head 0 [0, 2, 3, 4, 9, 10, 11] (Tryd.cfg.fc 10).acc { tm := [(0, V.sl o0 b0 n0 x0), (2, V.str []), (3, vi 0), (4, V.ptr 0 0), (6, V.ptr 14 0), (7, V.str s2), (8, vi i2), (9, V.sl o0 b0 n0 x0), (10, vi (↑x0.length : Int)), (11, vi (IntKind.i64.wrap (i0 + 1))), (12, V.bool true), (17, V.bool false), (29, V.bool false)], hp := [(0, Ob.bld 57 5 78 (s0 ++ s2)), (1, Ob.dead), (14, Ob.var [V.bool b1, vu i1, V.str s1]), (78, Ob.raw 0)], nx := 87 } = { tm := [(0, V.sl o0 b0 n0 x0), (2, V.str []), (3, vi 0), (4, V.ptr 0 0), (9, V.sl o0 b0 n0 x0), (10, vi (↑x0.length : Int)), (11, vi (IntKind.i64.wrap (i0 + 1)))], hp := [(0, Ob.bld 57 5 1 (s0 ++ s2)), (1, Ob.raw 0)], nx := 2 } := by kernel_rfl
theorem L10_0_b3 (i0 : Int) (b0 : Bool) (s0 : List UInt8) (x0 : List V) (o0 : Option Bool) (n0 k : Nat)
    (c0 : decide (i0 < (↑x0.length : Int)) = false) :
    evalCode Tryd.prog Tryd.cfg (evalFn Tryd.prog Tryd.cfg (k + 8)) 0 (Tryd.cfg.fc 10) (k + 8) (loopBody Tryd.f10 0) { tm := [(0, V.sl o0 b0 n0 x0), (2, V.str []), (3, vi 0), (4, V.ptr 0 0), (9, V.sl o0 b0 n0 x0), (10, vi (↑x0.length : Int)), (11, vi i0)], hp := [(0, Ob.bld 57 5 1 s0), (1, Ob.raw 0)], nx := 2 } = some (Exit.exit 0, { tm := [(0, V.sl o0 b0 n0 x0), (2, V.str []), (3, vi 0), (4, V.ptr 0 0), (9, V.sl o0 b0 n0 x0), (10, vi (↑x0.length : Int)), (11, vi i0), (12, V.bool false)], hp := [(0, Ob.bld 57 5 1 s0), (1, Ob.raw 0)], nx := 6 }) :=
  byL (k := k) (d := 8) [Hn.br 12 false] (aI c0 trivial) (by kernel_rfl)
inductive L10_0_R where
  | e0 (i0 : Int) (i1 : Int) (i2 : Int) (b1 : Bool) (s0 : List UInt8) (s1 : List UInt8) (s2 : List UInt8)
  | e1 (i0 : Int) (s0 : List UInt8)
noncomputable def L10_0_end (b0 : Bool) (x0 : List V) (o0 : Option Bool) (n0 : Nat) : L10_0_R → Exit × St
  | .e0 i0 i1 i2 b1 s0 s1 s2 => (Exit.ret, { tm := [(0, V.sl o0 b0 n0 x0), (2, V.str []), (3, V.int .i64 i2), (4, V.ptr 0 0), (6, V.ptr 14 0), (7, V.str s2), (8, V.int .i64 i2), (9, V.sl o0 b0 n0 x0), (10, V.int .i64 (↑x0.length : Int)), (11, V.int .i64 i0), (12, V.bool true), (17, V.bool false), (29, V.bool true)], hp := [(0, Ob.bld 57 5 1 s0), (1, Ob.raw 0), (14, Ob.var [V.bool b1, V.int .u64 i1, V.str s1])], nx := 86 })
  | .e1 i0 s0 => (Exit.exit 0, { tm := [(0, V.sl o0 b0 n0 x0), (2, V.str []), (3, V.int .i64 0), (4, V.ptr 0 0), (9, V.sl o0 b0 n0 x0), (10, V.int .i64 (↑x0.length : Int)), (11, V.int .i64 i0), (12, V.bool false)], hp := [(0, Ob.bld 57 5 1 s0), (1, Ob.raw 0)], nx := 6 })
def L10_0 (k : Nat) (b0 : Bool) (x0 : List V) (o0 : Option Bool) (n0 : Nat) : Nat → Int → List UInt8 → Option L10_0_R
  | 0, _, _ => none
  | f + 1, i0, s0 => (bif decide (i0 < (↑x0.length : Int)) then (guardP (n0 = (3 : Nat)) (((at? (x0) (i0)).bind dAbu64sZ).bind fun (b1, i1, s1) => (bif !b1 then ((F22 (k + 2) (i1)).bind fun s2 => (guardP (s0.length + s2.length ≤ maxBld) (L10_0 k b0 x0 o0 n0 f (IntKind.i64.wrap (i0 + 1)) (s0 ++ s2)))) else ((F24 (k + 2) (s1)).bind fun (s2, i2) => (bif !decide (i2 = 0) then (some (L10_0_R.e0 i0 i1 i2 b1 s0 s1 s2)) else (guardP (s0.length + s2.length ≤ maxBld) (L10_0 k b0 x0 o0 n0 f (IntKind.i64.wrap (i0 + 1)) (s0 ++ s2)))))))) else (some (L10_0_R.e1 i0 s0)))
theorem L10_0_ok {b0 : Bool} {x0 : List V} {o0 : Option Bool} {n0 k : Nat} : ∀ {f : Nat} {i0 : Int} {s0 : List UInt8} {r : L10_0_R}, L10_0 k b0 x0 o0 n0 f i0 s0 = some r →
    LoopsN Tryd.prog Tryd.cfg (k + 8) 0 Tryd.f10 (Tryd.cfg.fc 10) 0 [0, 2, 3, 4, 9, 10, 11] f { tm := [(0, V.sl o0 b0 n0 x0), (2, V.str []), (3, vi 0), (4, V.ptr 0 0), (9, V.sl o0 b0 n0 x0), (10, vi (↑x0.length : Int)), (11, vi i0)], hp := [(0, Ob.bld 57 5 1 s0), (1, Ob.raw 0)], nx := 2 } (L10_0_end b0 x0 o0 n0 r) := by
  intro f
  induction f with
  | zero => intro i0 s0 r h; cases h
  | succ f ih =>
    intro i0 s0 r h
    rw [L10_0] at h
    rcases cond_elim h with ⟨e0, h⟩ | ⟨e0, h⟩
    ·
      obtain ⟨e1, h⟩ := guardP_some.1 h
      obtain ⟨⟨b1, i1, s1⟩, e2, h⟩ := bE h
      rcases cond_elim h with ⟨e3, h⟩ | ⟨e3, h⟩
      ·
        obtain ⟨s2, e4, h⟩ := bE h
        obtain ⟨e5, h⟩ := guardP_some.1 h
        exact LoopsN.next (L10_0_b0 i0 i1 b0 b1 s0 s1 s2 x0 o0 n0 k e0 (IdxP.of_at' (at_d dAbu64sZ_ok e2 :) e1) e3 (F22_ok e4) (libG e5 (by kernel_rfl))) (L10_0_b0h i0 i1 b0 b1 s0 s1 s2 x0 o0 n0) (ih h)
      ·
        obtain ⟨⟨s2, i2⟩, e4, h⟩ := bE h
        rcases cond_elim h with ⟨e5, h⟩ | ⟨e5, h⟩
        ·
          cases h; exact LoopsN.done (L10_0_b1 i0 i1 i2 b0 b1 s0 s1 s2 x0 o0 n0 k e0 (IdxP.of_at' (at_d dAbu64sZ_ok e2 :) e1) e3 (F24_ok e4) e5) (fun h => by cases h)
        ·
          obtain ⟨e6, h⟩ := guardP_some.1 h
          exact LoopsN.next (L10_0_b2 i0 i1 i2 b0 b1 s0 s1 s2 x0 o0 n0 k e0 (IdxP.of_at' (at_d dAbu64sZ_ok e2 :) e1) e3 (F24_ok e4) e5 (libG e6 (by kernel_rfl))) (L10_0_b2h i0 i1 i2 b0 b1 s0 s1 s2 x0 o0 n0) (ih h)
    ·
      cases h; exact LoopsN.done (L10_0_b3 i0 b0 s0 x0 o0 n0 k e0) (fun h => by cases h)
theorem P10_0 (i0 : Int) (b0 : Bool) (s0 : List UInt8) (x0 : List V) (o0 : Option Bool) (n0 k : Nat)
    (c0 : LoopsN Tryd.prog Tryd.cfg (k + 8) 0 Tryd.f10 (Tryd.cfg.fc 10) 0 [0, 2, 3, 4, 9, 10, 11] (k + 8) { tm := [(0, V.sl o0 b0 n0 x0), (2, V.str []), (3, vi 0), (4, V.ptr 0 0), (9, V.sl o0 b0 n0 x0), (10, vi (↑x0.length : Int)), (11, vi 0)], hp := [(0, Ob.bld 57 5 1 []), (1, Ob.raw 0)], nx := 2 } (Exit.exit 0, { tm := [(0, V.sl o0 b0 n0 x0), (2, V.str []), (3, vi 0), (4, V.ptr 0 0), (9, V.sl o0 b0 n0 x0), (10, vi (↑x0.length : Int)), (11, vi i0), (12, V.bool false)], hp := [(0, Ob.bld 57 5 1 s0), (1, Ob.raw 0)], nx := 6 })) :
    cP ((k + 9)) 10 [V.sl o0 b0 n0 x0] = some (V.tup [V.str s0, vi 0]) :=
  byF (k := k) (d := 9) [Hn.loop (Exit.exit 0, { tm := [(0, V.sl o0 b0 n0 x0), (2, V.str []), (3, vi 0), (4, V.ptr 0 0), (9, V.sl o0 b0 n0 x0), (10, vi (↑x0.length : Int)), (11, vi i0), (12, V.bool false)], hp := [(0, Ob.bld 57 5 1 s0), (1, Ob.raw 0)], nx := 6 }), Hn.enter] (aI c0 trivial) (by kernel_rfl)
theorem P10_1 (i0 i1 i2 : Int) (b0 b1 : Bool) (s0 s1 s2 : List UInt8) (x0 : List V) (o0 : Option Bool) (n0 k : Nat)
    (c0 : LoopsN Tryd.prog Tryd.cfg (k + 8) 0 Tryd.f10 (Tryd.cfg.fc 10) 0 [0, 2, 3, 4, 9, 10, 11] (k + 8) { tm := [(0, V.sl o0 b0 n0 x0), (2, V.str []), (3, vi 0), (4, V.ptr 0 0), (9, V.sl o0 b0 n0 x0), (10, vi (↑x0.length : Int)), (11, vi 0)], hp := [(0, Ob.bld 57 5 1 []), (1, Ob.raw 0)], nx := 2 } (Exit.ret, { tm := [(0, V.sl o0 b0 n0 x0), (2, V.str []), (3, vi i2), (4, V.ptr 0 0), (6, V.ptr 14 0), (7, V.str s2), (8, vi i2), (9, V.sl o0 b0 n0 x0), (10, vi (↑x0.length : Int)), (11, vi i0), (12, V.bool true), (17, V.bool false), (29, V.bool true)], hp := [(0, Ob.bld 57 5 1 s0), (1, Ob.raw 0), (14, Ob.var [V.bool b1, vu i1, V.str s1])], nx := 86 })) :
    cP ((k + 9)) 10 [V.sl o0 b0 n0 x0] = some (V.tup [V.str [], vi i2]) :=
  byF (k := k) (d := 9) [Hn.loop (Exit.ret, { tm := [(0, V.sl o0 b0 n0 x0), (2, V.str []), (3, vi i2), (4, V.ptr 0 0), (6, V.ptr 14 0), (7, V.str s2), (8, vi i2), (9, V.sl o0 b0 n0 x0), (10, vi (↑x0.length : Int)), (11, vi i0), (12, V.bool true), (17, V.bool false), (29, V.bool true)], hp := [(0, Ob.bld 57 5 1 s0), (1, Ob.raw 0), (14, Ob.var [V.bool b1, vu i1, V.str s1])], nx := 86 })] (aI c0 trivial) (by kernel_rfl)
def F10 (k : Nat) (o0 : Option Bool) (b0 : Bool) (n0 : Nat) (x0 : List V) : Option (List UInt8 × Int) :=
  ((L10_0 k b0 x0 o0 n0 (k + 8) (0) ([])).bind fun
    | L10_0_R.e0 i0 i1 i2 b1 s0 s1 s2 => (some (([]), (i2)))
    | L10_0_R.e1 i0 s0 => (some ((s0), (0))))
theorem F10_ok {o0 : Option Bool} {b0 : Bool} {n0 : Nat} {x0 : List V} {k : Nat} {r : List UInt8 × Int} (h : F10 k o0 b0 n0 x0 = some r) :
    cP ((k + 9)) 10 [V.sl o0 b0 n0 x0] = some (V.tup [V.str r.1, vi r.2]) := by
  unfold F10 at h
  obtain ⟨ee, e0, h⟩ := bE h
  cases ee with
  | e0 i0 i1 i2 b1 s0 s1 s2 =>
    have h := Option.some.inj h; subst h; exact P10_1 i0 i1 i2 b0 b1 s0 s1 s2 x0 o0 n0 k (L10_0_ok e0)
  | e1 i0 s0 =>
    have h := Option.some.inj h; subst h; exact P10_0 i0 b0 s0 x0 o0 n0 k (L10_0_ok e0)
end Go.Proofs
