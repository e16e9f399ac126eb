/-
  Paths of the functions of rings, first part.
-/
import Derived.Test.YtpnpneffbkdomaaDevF
set_option linter.unusedVariables false
set_option linter.unusedSimpArgs false
set_option linter.constructorNameAsVariable false
set_option maxHeartbeats 0
set_option maxRecDepth 100000
namespace Go.Proofs
open Go Go.Sym
def rgHp (n : Option Bool) (c : Bool) (xs rs : List V) (fr mn : Int) : List (Nat × Ob) := [(0, Ob.var [V.sl n c 1 xs, V.int IntKind.i64 fr, V.int IntKind.i64 mn]), (156, Ob.dead), (164, Ob.row false 1 rs), (172, Ob.var [V.ref 164]), (184, Ob.var [V.sl n c 1 xs, V.int IntKind.i64 fr, V.int IntKind.i64 mn])]
noncomputable def rgLp (n : Option Bool) (c : Bool) (xs : List V) (fr mn : Int) (s : LS) : Nat × Ob := (200, Ob.loop s (Try.cfg.fc 47) (rangeCode Try.f47 0) [(0, V.agg [V.sl n c 1 xs, V.int IntKind.i64 fr, V.int IntKind.i64 mn]), (1, V.ptr 0 0), (2, V.bool false), (3, V.int IntKind.i64 (↑xs.length : Int)), (4, V.ptr 172 0), (36, V.bool false), (41, V.fn (Fn.func 87) [] [V.ptr 184 0])])
noncomputable def rgEnd (n : Option Bool) (c : Bool) (xs rs : List V) (fr mn : Int) : List (Nat × Ob) := [(0, Ob.var [V.sl n c 1 xs, V.int IntKind.i64 fr, V.int IntKind.i64 mn]), (156, Ob.dead), (172, Ob.var [V.ref 201]), (184, Ob.var [V.sl n c 1 xs, V.int IntKind.i64 fr, V.int IntKind.i64 mn]), rgLp n c xs fr mn .ready, (201, Ob.row false 1 rs)]
def plV (n f s : Int) : Int := if f ≤ s then s - f else s - f + n
def fullV : V → Bool | .str t => !decide (t = []) | _ => false

theorem p46_0 (a : Int) (k : Nat)
    (c0 : decide (a < 1) = true) :
    callP (evalFn Try.prog Try.cfg (k + 1)) 46 [V.int IntKind.i64 a] = some (V.tup [V.agg [V.sl (some true) true 0 [], V.int IntKind.i64 0, V.int IntKind.i64 0], V.int IntKind.i64 4]) :=
  byP [Hint.br 6 true] ((decide (a < 1) = true) ∧ True) (by kernel_rfl) ⟨c0, trivial⟩
theorem p46_1 (a : Int) (k : Nat)
    (c0 : decide (a < 1) = false)
    (c1 : decide (64 < a) = true) :
    callP (evalFn Try.prog Try.cfg (k + 1)) 46 [V.int IntKind.i64 a] = some (V.tup [V.agg [V.sl (some true) true 0 [], V.int IntKind.i64 0, V.int IntKind.i64 0], V.int IntKind.i64 4]) :=
  byP [Hint.br 6 false, Hint.br 9 true] ((decide (a < 1) = false) ∧ (decide (64 < a) = true) ∧ True) (by kernel_rfl) ⟨c0, c1, trivial⟩
theorem p46_2 (a : Int) (k : Nat)
    (c0 : decide (a < 1) = false)
    (c1 : decide (64 < a) = false)
    (c2 : GrdW (0 < 1 ∧ 16 ≤ 64 ∧ (V.str []).cells.length = 1 ∧ 0 ≤ a ∧ a ≤ a ∧ a ≤ (↑maxLen' : Int)) (V.ref 36) [(36, Ob.row false 1 (List.replicate a.toNat (V.str [])))]) :
    callP (evalFn Try.prog Try.cfg (k + 1)) 46 [V.int IntKind.i64 a] = some (V.tup [V.agg [V.sl none false 1 (List.replicate a.toNat (V.str [])), V.int IntKind.i64 0, V.int IntKind.i64 0], V.int IntKind.i64 0]) :=
  byP [Hint.br 6 false, Hint.br 9 false, Hint.op 12 (V.ref 36) [(36, Ob.row false 1 (List.replicate a.toNat (V.str [])))]] ((decide (a < 1) = false) ∧ (decide (64 < a) = false) ∧ (GrdW (0 < 1 ∧ 16 ≤ 64 ∧ (V.str []).cells.length = 1 ∧ 0 ≤ a ∧ a ≤ a ∧ a ≤ (↑maxLen' : Int)) (V.ref 36) [(36, Ob.row false 1 (List.replicate a.toNat (V.str [])))]) ∧ True) (by kernel_rfl) ⟨c0, c1, c2, trivial⟩
theorem p45_0 (n : Option Bool) (c : Bool) (xs : List V) (fr : Int) (mn : Int) (k : Nat)
    (c0 : SlcP true 1 (V.sl n c 1 xs) none (some (V.int IntKind.i64 (if 70 < (↑xs.length : Int) then 70 else (↑xs.length : Int)))) none (V.sl n false 1 (List.take (if 70 < (↑xs.length : Int) then 70 else (↑xs.length : Int)).toNat xs))) :
    callP (evalFn Try.prog Try.cfg (k + 1)) 45 [V.agg [V.sl n c 1 xs, V.int IntKind.i64 fr, V.int IntKind.i64 mn]] = some (V.agg [V.sl n false 1 (List.take (if 70 < (↑xs.length : Int) then 70 else (↑xs.length : Int)).toNat xs), V.int IntKind.i64 fr, V.int IntKind.i64 mn]) :=
  byP [Hint.op 9 (V.sl n false 1 (List.take (if 70 < (↑xs.length : Int) then 70 else (↑xs.length : Int)).toNat xs)) []] ((SlcP true 1 (V.sl n c 1 xs) none (some (V.int IntKind.i64 (if 70 < (↑xs.length : Int) then 70 else (↑xs.length : Int)))) none (V.sl n false 1 (List.take (if 70 < (↑xs.length : Int) then 70 else (↑xs.length : Int)).toNat xs))) ∧ True) (by kernel_rfl) ⟨c0, trivial⟩
theorem p79_0 (n : Option Bool) (c : Bool) (xs : List V) (fr : Int) (mn : Int) (k : Nat) :
    evalFn Try.prog Try.cfg (k + 1) 79 [V.agg [V.sl n c 1 xs, V.int IntKind.i64 fr, V.int IntKind.i64 mn]] [(0, Ob.var [V.sl n c 1 xs, V.int IntKind.i64 fr, V.int IntKind.i64 mn]), (156, Ob.dead), (164, Ob.row false 1 xs), (172, Ob.var [V.ref 164])] 184 = some (V.fn (Fn.func 87) [] [V.ptr 184 0], [(0, Ob.var [V.sl n c 1 xs, V.int IntKind.i64 fr, V.int IntKind.i64 mn]), (156, Ob.dead), (164, Ob.row false 1 xs), (172, Ob.var [V.ref 164]), (184, Ob.var [V.sl n c 1 xs, V.int IntKind.i64 fr, V.int IntKind.i64 mn])], 200) :=
  byR [] (True) (by kernel_rfl) trivial
theorem p68r_0 (c : Bool) (xs : List V) (x : V) (fr : Int) (mn : Int) (k : Nat)
    (c0 : GrdW (1 = 1 ∧ 0 < 1 ∧ 16 ≤ 64 ∧ 0 + (x :: xs).length ≤ maxLen') (V.ref 164) [(156, Ob.dead), (164, Ob.row false 1 ([] ++ x :: xs))]) :
    evalFn Try.prog Try.cfg (k + 1) 68 [V.sl (some false) c 1 (x :: xs)] [(0, Ob.var [V.sl (some false) c 1 (x :: xs), V.int IntKind.i64 fr, V.int IntKind.i64 mn])] 144 = some (V.ref 164, [(0, Ob.var [V.sl (some false) c 1 (x :: xs), V.int IntKind.i64 fr, V.int IntKind.i64 mn]), (156, Ob.dead), (164, Ob.row false 1 ([] ++ x :: xs))], 172) :=
  byR [Hint.op 7 (V.ref 164) [(156, Ob.dead), (164, Ob.row false 1 ([] ++ x :: xs))]] ((GrdW (1 = 1 ∧ 0 < 1 ∧ 16 ≤ 64 ∧ 0 + (x :: xs).length ≤ maxLen') (V.ref 164) [(156, Ob.dead), (164, Ob.row false 1 ([] ++ x :: xs))]) ∧ True) (by kernel_rfl) ⟨c0, trivial⟩
theorem p81_0 (n : Option Bool) (c : Bool) (xs : List V) (fr : Int) (mn : Int) (s : Int) (k : Nat)
    (c0 : GrdP (IntKind.i64 = IntKind.i64 ∧ (↑xs.length : Int) ≠ 0) (V.int IntKind.i64 ((IntKind.i64.wrap (IntKind.i64.wrap (s - fr) + (↑xs.length : Int))).tmod (↑xs.length : Int)))) :
    callP (evalFn Try.prog Try.cfg (k + 1)) 81 [V.agg [V.sl n c 1 xs, V.int IntKind.i64 fr, V.int IntKind.i64 mn], V.int IntKind.i64 s] = some (V.int IntKind.i64 ((IntKind.i64.wrap (IntKind.i64.wrap (s - fr) + (↑xs.length : Int))).tmod (↑xs.length : Int))) :=
  byP [Hint.op 16 (V.int IntKind.i64 ((IntKind.i64.wrap (IntKind.i64.wrap (s - fr) + (↑xs.length : Int))).tmod (↑xs.length : Int))) []] ((GrdP (IntKind.i64 = IntKind.i64 ∧ (↑xs.length : Int) ≠ 0) (V.int IntKind.i64 ((IntKind.i64.wrap (IntKind.i64.wrap (s - fr) + (↑xs.length : Int))).tmod (↑xs.length : Int)))) ∧ True) (by kernel_rfl) ⟨c0, trivial⟩
theorem pr47_0 (n : Option Bool) (c : Bool) (xs : List V) (rs : List V) (fr : Int) (mn : Int) (a : Int) (k : Nat)
    (c0 : IdxR rs.length a 1 1 (V.ept 201 a.toNat 0))
    (c1 : GrdW (false = false ∧ (rid (V.str [])).contains 201 = false ∧ a.toNat < rs.length) (V.tup []) [(201, Ob.row false 1 (rs.set a.toNat (V.str [])))]) :
    evalFn Try.prog Try.cfg (k + 1) yn [V.yld 200, V.int IntKind.i64 a] [(0, Ob.var [V.sl n c 1 xs, V.int IntKind.i64 fr, V.int IntKind.i64 mn]), (156, Ob.dead), (172, Ob.var [V.ref 201]), (184, Ob.var [V.sl n c 1 xs, V.int IntKind.i64 fr, V.int IntKind.i64 mn]), (200, Ob.loop LS.ready (Try.cfg.fc 47) (rangeCode Try.f47 0) [(0, V.agg [V.sl n c 1 xs, V.int IntKind.i64 fr, V.int IntKind.i64 mn]), (1, V.ptr 0 0), (2, V.bool false), (3, V.int IntKind.i64 (↑xs.length : Int)), (4, V.ptr 172 0), (36, V.bool false), (41, V.fn (Fn.func 87) [] [V.ptr 184 0])]), (201, Ob.row false 1 rs)] 250 = some (V.bool true, [(0, Ob.var [V.sl n c 1 xs, V.int IntKind.i64 fr, V.int IntKind.i64 mn]), (156, Ob.dead), (172, Ob.var [V.ref 201]), (184, Ob.var [V.sl n c 1 xs, V.int IntKind.i64 fr, V.int IntKind.i64 mn]), (200, Ob.loop LS.ready (Try.cfg.fc 47) (rangeCode Try.f47 0) [(0, V.agg [V.sl n c 1 xs, V.int IntKind.i64 fr, V.int IntKind.i64 mn]), (1, V.ptr 0 0), (2, V.bool false), (3, V.int IntKind.i64 (↑xs.length : Int)), (4, V.ptr 172 0), (36, V.bool false), (41, V.fn (Fn.func 87) [] [V.ptr 184 0])]), (201, Ob.row false 1 (rs.set a.toNat (V.str [])))], 270) :=
  byY [Hint.op 45 (V.ept 201 a.toNat 0) [], Hint.wr 266 (V.tup []) [(201, Ob.row false 1 (rs.set a.toNat (V.str [])))]] ((IdxR rs.length a 1 1 (V.ept 201 a.toNat 0)) ∧ (GrdW (false = false ∧ (rid (V.str [])).contains 201 = false ∧ a.toNat < rs.length) (V.tup []) [(201, Ob.row false 1 (rs.set a.toNat (V.str [])))]) ∧ True) (by kernel_rfl) ⟨c0, c1, trivial⟩
theorem l87_b_0 (n : Option Bool) (c : Bool) (xs : List V) (fr : Int) (mn : Int) (v0 : Int) (v1 : List V) (K : Nat)
    (c0 : decide (v0 < mn) = true)
    (c1 : GrdP (IntKind.i64 = IntKind.i64 ∧ (↑xs.length : Int) ≠ 0) (V.int IntKind.i64 ((IntKind.i64.wrap (fr + v0)).tmod (↑xs.length : Int))))
    (c2 : evalFn Try.prog Try.cfg K 1000000000 [V.yld 200, V.int IntKind.i64 ((IntKind.i64.wrap (fr + v0)).tmod (↑xs.length : Int))] [(0, Ob.var [V.sl n c 1 xs, V.int IntKind.i64 fr, V.int IntKind.i64 mn]), (156, Ob.dead), (172, Ob.var [V.ref 201]), (184, Ob.var [V.sl n c 1 xs, V.int IntKind.i64 fr, V.int IntKind.i64 mn]), (200, Ob.loop LS.ready (Try.cfg.fc 47) (rangeCode Try.f47 0) [(0, V.agg [V.sl n c 1 xs, V.int IntKind.i64 fr, V.int IntKind.i64 mn]), (1, V.ptr 0 0), (2, V.bool false), (3, V.int IntKind.i64 (↑xs.length : Int)), (4, V.ptr 172 0), (36, V.bool false), (41, V.fn (Fn.func 87) [] [V.ptr 184 0])]), (201, Ob.row false 1 v1)] 250 = some (V.bool true, [(0, Ob.var [V.sl n c 1 xs, V.int IntKind.i64 fr, V.int IntKind.i64 mn]), (156, Ob.dead), (172, Ob.var [V.ref 201]), (184, Ob.var [V.sl n c 1 xs, V.int IntKind.i64 fr, V.int IntKind.i64 mn]), (200, Ob.loop LS.ready (Try.cfg.fc 47) (rangeCode Try.f47 0) [(0, V.agg [V.sl n c 1 xs, V.int IntKind.i64 fr, V.int IntKind.i64 mn]), (1, V.ptr 0 0), (2, V.bool false), (3, V.int IntKind.i64 (↑xs.length : Int)), (4, V.ptr 172 0), (36, V.bool false), (41, V.fn (Fn.func 87) [] [V.ptr 184 0])]), (201, Ob.row false 1 (v1.set ((IntKind.i64.wrap (fr + v0)).tmod (↑xs.length : Int)).toNat (V.str [])))], 270)) :
    evalCode Try.prog Try.cfg (evalFn Try.prog Try.cfg K) 201 (Try.cfg.fc 87) K (loopBody Try.f87 0) { tm := [(0, V.yld 200), (1, V.ptr 184 0), (5, V.int IntKind.i64 mn), (6, V.int IntKind.i64 v0)], hp := [(0, Ob.var [V.sl n c 1 xs, V.int IntKind.i64 fr, V.int IntKind.i64 mn]), (156, Ob.dead), (172, Ob.var [V.ref 201]), (184, Ob.var [V.sl n c 1 xs, V.int IntKind.i64 fr, V.int IntKind.i64 mn]), (200, Ob.loop LS.ready (Try.cfg.fc 47) (rangeCode Try.f47 0) [(0, V.agg [V.sl n c 1 xs, V.int IntKind.i64 fr, V.int IntKind.i64 mn]), (1, V.ptr 0 0), (2, V.bool false), (3, V.int IntKind.i64 (↑xs.length : Int)), (4, V.ptr 172 0), (36, V.bool false), (41, V.fn (Fn.func 87) [] [V.ptr 184 0])]), (201, Ob.row false 1 v1)], nx := 202 } = some (Exit.normal, { tm := [(0, V.yld 200), (1, V.ptr 184 0), (3, V.int IntKind.i64 v0), (5, V.int IntKind.i64 mn), (6, V.int IntKind.i64 (IntKind.i64.wrap (v0 + 1))), (7, V.bool true), (19, V.bool false)], hp := [(0, Ob.var [V.sl n c 1 xs, V.int IntKind.i64 fr, V.int IntKind.i64 mn]), (156, Ob.dead), (172, Ob.var [V.ref 201]), (184, Ob.var [V.sl n c 1 xs, V.int IntKind.i64 fr, V.int IntKind.i64 mn]), (200, Ob.loop LS.ready (Try.cfg.fc 47) (rangeCode Try.f47 0) [(0, V.agg [V.sl n c 1 xs, V.int IntKind.i64 fr, V.int IntKind.i64 mn]), (1, V.ptr 0 0), (2, V.bool false), (3, V.int IntKind.i64 (↑xs.length : Int)), (4, V.ptr 172 0), (36, V.bool false), (41, V.fn (Fn.func 87) [] [V.ptr 184 0])]), (201, Ob.row false 1 (v1.set ((IntKind.i64.wrap (fr + v0)).tmod (↑xs.length : Int)).toNat (V.str [])))], nx := 282 }) :=
  byC [Hint.br 7 true, Hint.op 17 (V.int IntKind.i64 ((IntKind.i64.wrap (fr + v0)).tmod (↑xs.length : Int))) [], Hint.inl 18 (V.bool true) [(0, Ob.var [V.sl n c 1 xs, V.int IntKind.i64 fr, V.int IntKind.i64 mn]), (156, Ob.dead), (172, Ob.var [V.ref 201]), (184, Ob.var [V.sl n c 1 xs, V.int IntKind.i64 fr, V.int IntKind.i64 mn]), (200, Ob.loop LS.ready (Try.cfg.fc 47) (rangeCode Try.f47 0) [(0, V.agg [V.sl n c 1 xs, V.int IntKind.i64 fr, V.int IntKind.i64 mn]), (1, V.ptr 0 0), (2, V.bool false), (3, V.int IntKind.i64 (↑xs.length : Int)), (4, V.ptr 172 0), (36, V.bool false), (41, V.fn (Fn.func 87) [] [V.ptr 184 0])]), (201, Ob.row false 1 (v1.set ((IntKind.i64.wrap (fr + v0)).tmod (↑xs.length : Int)).toNat (V.str [])))] 270] ((decide (v0 < mn) = true) ∧ (GrdP (IntKind.i64 = IntKind.i64 ∧ (↑xs.length : Int) ≠ 0) (V.int IntKind.i64 ((IntKind.i64.wrap (fr + v0)).tmod (↑xs.length : Int)))) ∧ (evalFn Try.prog Try.cfg K 1000000000 [V.yld 200, V.int IntKind.i64 ((IntKind.i64.wrap (fr + v0)).tmod (↑xs.length : Int))] [(0, Ob.var [V.sl n c 1 xs, V.int IntKind.i64 fr, V.int IntKind.i64 mn]), (156, Ob.dead), (172, Ob.var [V.ref 201]), (184, Ob.var [V.sl n c 1 xs, V.int IntKind.i64 fr, V.int IntKind.i64 mn]), (200, Ob.loop LS.ready (Try.cfg.fc 47) (rangeCode Try.f47 0) [(0, V.agg [V.sl n c 1 xs, V.int IntKind.i64 fr, V.int IntKind.i64 mn]), (1, V.ptr 0 0), (2, V.bool false), (3, V.int IntKind.i64 (↑xs.length : Int)), (4, V.ptr 172 0), (36, V.bool false), (41, V.fn (Fn.func 87) [] [V.ptr 184 0])]), (201, Ob.row false 1 v1)] 250 = some (V.bool true, [(0, Ob.var [V.sl n c 1 xs, V.int IntKind.i64 fr, V.int IntKind.i64 mn]), (156, Ob.dead), (172, Ob.var [V.ref 201]), (184, Ob.var [V.sl n c 1 xs, V.int IntKind.i64 fr, V.int IntKind.i64 mn]), (200, Ob.loop LS.ready (Try.cfg.fc 47) (rangeCode Try.f47 0) [(0, V.agg [V.sl n c 1 xs, V.int IntKind.i64 fr, V.int IntKind.i64 mn]), (1, V.ptr 0 0), (2, V.bool false), (3, V.int IntKind.i64 (↑xs.length : Int)), (4, V.ptr 172 0), (36, V.bool false), (41, V.fn (Fn.func 87) [] [V.ptr 184 0])]), (201, Ob.row false 1 (v1.set ((IntKind.i64.wrap (fr + v0)).tmod (↑xs.length : Int)).toNat (V.str [])))], 270)) ∧ True) (by kernel_rfl) ⟨c0, c1, c2, trivial⟩
theorem l87_b_0h (n : Option Bool) (c : Bool) (xs : List V) (fr : Int) (mn : Int) (v0 : Int) (v1 : List V) : head 201 [0, 1, 5, 6] (Try.cfg.fc 87).acc { tm := [(0, V.yld 200), (1, V.ptr 184 0), (3, V.int IntKind.i64 v0), (5, V.int IntKind.i64 mn), (6, V.int IntKind.i64 (IntKind.i64.wrap (v0 + 1))), (7, V.bool true), (19, V.bool false)], hp := [(0, Ob.var [V.sl n c 1 xs, V.int IntKind.i64 fr, V.int IntKind.i64 mn]), (156, Ob.dead), (172, Ob.var [V.ref 201]), (184, Ob.var [V.sl n c 1 xs, V.int IntKind.i64 fr, V.int IntKind.i64 mn]), (200, Ob.loop LS.ready (Try.cfg.fc 47) (rangeCode Try.f47 0) [(0, V.agg [V.sl n c 1 xs, V.int IntKind.i64 fr, V.int IntKind.i64 mn]), (1, V.ptr 0 0), (2, V.bool false), (3, V.int IntKind.i64 (↑xs.length : Int)), (4, V.ptr 172 0), (36, V.bool false), (41, V.fn (Fn.func 87) [] [V.ptr 184 0])]), (201, Ob.row false 1 (v1.set ((IntKind.i64.wrap (fr + v0)).tmod (↑xs.length : Int)).toNat (V.str [])))], nx := 282 } = { tm := [(0, V.yld 200), (1, V.ptr 184 0), (5, V.int IntKind.i64 mn), (6, V.int IntKind.i64 (IntKind.i64.wrap (v0 + 1)))], hp := [(0, Ob.var [V.sl n c 1 xs, V.int IntKind.i64 fr, V.int IntKind.i64 mn]), (156, Ob.dead), (172, Ob.var [V.ref 201]), (184, Ob.var [V.sl n c 1 xs, V.int IntKind.i64 fr, V.int IntKind.i64 mn]), (200, Ob.loop LS.ready (Try.cfg.fc 47) (rangeCode Try.f47 0) [(0, V.agg [V.sl n c 1 xs, V.int IntKind.i64 fr, V.int IntKind.i64 mn]), (1, V.ptr 0 0), (2, V.bool false), (3, V.int IntKind.i64 (↑xs.length : Int)), (4, V.ptr 172 0), (36, V.bool false), (41, V.fn (Fn.func 87) [] [V.ptr 184 0])]), (201, Ob.row false 1 (v1.set ((IntKind.i64.wrap (fr + v0)).tmod (↑xs.length : Int)).toNat (V.str [])))], nx := 202 } := by kernel_rfl
theorem l87_b_2 (n : Option Bool) (c : Bool) (xs : List V) (fr : Int) (mn : Int) (v0 : Int) (v1 : List V) (K : Nat)
    (c0 : decide (v0 < mn) = false) :
    evalCode Try.prog Try.cfg (evalFn Try.prog Try.cfg K) 201 (Try.cfg.fc 87) K (loopBody Try.f87 0) { tm := [(0, V.yld 200), (1, V.ptr 184 0), (5, V.int IntKind.i64 mn), (6, V.int IntKind.i64 v0)], hp := [(0, Ob.var [V.sl n c 1 xs, V.int IntKind.i64 fr, V.int IntKind.i64 mn]), (156, Ob.dead), (172, Ob.var [V.ref 201]), (184, Ob.var [V.sl n c 1 xs, V.int IntKind.i64 fr, V.int IntKind.i64 mn]), (200, Ob.loop LS.ready (Try.cfg.fc 47) (rangeCode Try.f47 0) [(0, V.agg [V.sl n c 1 xs, V.int IntKind.i64 fr, V.int IntKind.i64 mn]), (1, V.ptr 0 0), (2, V.bool false), (3, V.int IntKind.i64 (↑xs.length : Int)), (4, V.ptr 172 0), (36, V.bool false), (41, V.fn (Fn.func 87) [] [V.ptr 184 0])]), (201, Ob.row false 1 v1)], nx := 202 } = some (Exit.exit 0, { tm := [(0, V.yld 200), (1, V.ptr 184 0), (5, V.int IntKind.i64 mn), (6, V.int IntKind.i64 v0), (7, V.bool false)], hp := [(0, Ob.var [V.sl n c 1 xs, V.int IntKind.i64 fr, V.int IntKind.i64 mn]), (156, Ob.dead), (172, Ob.var [V.ref 201]), (184, Ob.var [V.sl n c 1 xs, V.int IntKind.i64 fr, V.int IntKind.i64 mn]), (200, Ob.loop LS.ready (Try.cfg.fc 47) (rangeCode Try.f47 0) [(0, V.agg [V.sl n c 1 xs, V.int IntKind.i64 fr, V.int IntKind.i64 mn]), (1, V.ptr 0 0), (2, V.bool false), (3, V.int IntKind.i64 (↑xs.length : Int)), (4, V.ptr 172 0), (36, V.bool false), (41, V.fn (Fn.func 87) [] [V.ptr 184 0])]), (201, Ob.row false 1 v1)], nx := 206 }) :=
  byC [Hint.br 7 false] ((decide (v0 < mn) = false) ∧ True) (by kernel_rfl) ⟨c0, trivial⟩
inductive l87_R where
  | e2 (v0 : Int) (v1 : List V)
noncomputable def l87_end (n : Option Bool) (c : Bool) (xs : List V) (fr : Int) (mn : Int) : l87_R → Exit × St
  | .e2 v0 v1 => (Exit.exit 0, { tm := [(0, V.yld 200), (1, V.ptr 184 0), (5, V.int IntKind.i64 mn), (6, V.int IntKind.i64 v0), (7, V.bool false)], hp := [(0, Ob.var [V.sl n c 1 xs, V.int IntKind.i64 fr, V.int IntKind.i64 mn]), (156, Ob.dead), (172, Ob.var [V.ref 201]), (184, Ob.var [V.sl n c 1 xs, V.int IntKind.i64 fr, V.int IntKind.i64 mn]), (200, Ob.loop LS.ready (Try.cfg.fc 47) (rangeCode Try.f47 0) [(0, V.agg [V.sl n c 1 xs, V.int IntKind.i64 fr, V.int IntKind.i64 mn]), (1, V.ptr 0 0), (2, V.bool false), (3, V.int IntKind.i64 (↑xs.length : Int)), (4, V.ptr 172 0), (36, V.bool false), (41, V.fn (Fn.func 87) [] [V.ptr 184 0])]), (201, Ob.row false 1 v1)], nx := 206 })
def l87 (n : Option Bool) (c : Bool) (xs : List V) (fr : Int) (mn : Int) : Nat → Int → List V → Option l87_R
  | 0, _, _ => none
  | f + 1, v0, v1 => (bif decide (v0 < mn) then (if IntKind.i64 = IntKind.i64 ∧ (↑xs.length : Int) ≠ 0 then (bif decide (0 ≤ (IntKind.i64.wrap (fr + v0)).tmod (↑xs.length : Int) ∧ (IntKind.i64.wrap (fr + v0)).tmod (↑xs.length : Int) < (↑v1.length : Int)) then l87 n c xs fr mn f (IntKind.i64.wrap (v0 + 1)) (v1.set ((IntKind.i64.wrap (fr + v0)).tmod (↑xs.length : Int)).toNat (V.str [])) else none /- STUCK/FAIL Go.Op.unOp at "ring.go:17" dst some (19) operands -/) else none) else some (l87_R.e2 v0 v1))
theorem l87_ok (n : Option Bool) (c : Bool) (xs : List V) (fr : Int) (mn : Int) (K : Nat)
    (hc0 : ∀ (v0 : Int) (v1 : List V), decide (0 ≤ (IntKind.i64.wrap (fr + v0)).tmod (↑xs.length : Int) ∧ (IntKind.i64.wrap (fr + v0)).tmod (↑xs.length : Int) < (↑v1.length : Int)) = true → evalFn Try.prog Try.cfg K 1000000000 [V.yld 200, V.int IntKind.i64 ((IntKind.i64.wrap (fr + v0)).tmod (↑xs.length : Int))] [(0, Ob.var [V.sl n c 1 xs, V.int IntKind.i64 fr, V.int IntKind.i64 mn]), (156, Ob.dead), (172, Ob.var [V.ref 201]), (184, Ob.var [V.sl n c 1 xs, V.int IntKind.i64 fr, V.int IntKind.i64 mn]), (200, Ob.loop LS.ready (Try.cfg.fc 47) (rangeCode Try.f47 0) [(0, V.agg [V.sl n c 1 xs, V.int IntKind.i64 fr, V.int IntKind.i64 mn]), (1, V.ptr 0 0), (2, V.bool false), (3, V.int IntKind.i64 (↑xs.length : Int)), (4, V.ptr 172 0), (36, V.bool false), (41, V.fn (Fn.func 87) [] [V.ptr 184 0])]), (201, Ob.row false 1 v1)] 250 = some (V.bool true, [(0, Ob.var [V.sl n c 1 xs, V.int IntKind.i64 fr, V.int IntKind.i64 mn]), (156, Ob.dead), (172, Ob.var [V.ref 201]), (184, Ob.var [V.sl n c 1 xs, V.int IntKind.i64 fr, V.int IntKind.i64 mn]), (200, Ob.loop LS.ready (Try.cfg.fc 47) (rangeCode Try.f47 0) [(0, V.agg [V.sl n c 1 xs, V.int IntKind.i64 fr, V.int IntKind.i64 mn]), (1, V.ptr 0 0), (2, V.bool false), (3, V.int IntKind.i64 (↑xs.length : Int)), (4, V.ptr 172 0), (36, V.bool false), (41, V.fn (Fn.func 87) [] [V.ptr 184 0])]), (201, Ob.row false 1 (v1.set ((IntKind.i64.wrap (fr + v0)).tmod (↑xs.length : Int)).toNat (V.str [])))], 270)) : ∀ (f : Nat) (v0 : Int) (v1 : List V) (r : l87_R), l87 n c xs fr mn f v0 v1 = some r →
    LoopsN Try.prog Try.cfg K 201 Try.f87 (Try.cfg.fc 87) 0 [0, 1, 5, 6] f { tm := [(0, V.yld 200), (1, V.ptr 184 0), (5, V.int IntKind.i64 mn), (6, V.int IntKind.i64 v0)], hp := [(0, Ob.var [V.sl n c 1 xs, V.int IntKind.i64 fr, V.int IntKind.i64 mn]), (156, Ob.dead), (172, Ob.var [V.ref 201]), (184, Ob.var [V.sl n c 1 xs, V.int IntKind.i64 fr, V.int IntKind.i64 mn]), (200, Ob.loop LS.ready (Try.cfg.fc 47) (rangeCode Try.f47 0) [(0, V.agg [V.sl n c 1 xs, V.int IntKind.i64 fr, V.int IntKind.i64 mn]), (1, V.ptr 0 0), (2, V.bool false), (3, V.int IntKind.i64 (↑xs.length : Int)), (4, V.ptr 172 0), (36, V.bool false), (41, V.fn (Fn.func 87) [] [V.ptr 184 0])]), (201, Ob.row false 1 v1)], nx := 202 } (l87_end n c xs fr mn r) := by
  intro f
  induction f with
  | zero => intro v0 v1 r h; cases h
  | succ f ih =>
    intro v0 v1 r h
    rw [l87] at h
    cases d0 : (decide (v0 < mn))
    · rw [d0, cond_false] at h
      cases h
      exact LoopsN.done (l87_b_2 n c xs fr mn v0 v1 K d0) (fun h => by cases h)
    · rw [d0, cond_true] at h
      split at h
      · rename_i g1
        cases d12001 : (decide (0 ≤ (IntKind.i64.wrap (fr + v0)).tmod (↑xs.length : Int) ∧ (IntKind.i64.wrap (fr + v0)).tmod (↑xs.length : Int) < (↑v1.length : Int)))
        · rw [d12001, cond_false] at h
          cases h
        · rw [d12001, cond_true] at h
          exact LoopsN.next (l87_b_0 n c xs fr mn v0 v1 K d0 (GrdP.mk g1) (hc0 _ _ d12001)) (l87_b_0h n c xs fr mn v0 v1) (ih _ _ _ h)
      · cases h
theorem p87_0 (n : Option Bool) (c : Bool) (xs : List V) (fr : Int) (mn : Int) (v : Int) (rs : List V) (k : Nat)
    (c0 : LoopsN Try.prog Try.cfg k 201 Try.f87 (Try.cfg.fc 87) 0 [0, 1, 5, 6] k { tm := [(0, V.yld 200), (1, V.ptr 184 0), (5, V.int IntKind.i64 mn), (6, V.int IntKind.i64 0)], hp := [(0, Ob.var [V.sl n c 1 xs, V.int IntKind.i64 fr, V.int IntKind.i64 mn]), (156, Ob.dead), (172, Ob.var [V.ref 201]), (184, Ob.var [V.sl n c 1 xs, V.int IntKind.i64 fr, V.int IntKind.i64 mn]), (200, Ob.loop LS.ready (Try.cfg.fc 47) (rangeCode Try.f47 0) [(0, V.agg [V.sl n c 1 xs, V.int IntKind.i64 fr, V.int IntKind.i64 mn]), (1, V.ptr 0 0), (2, V.bool false), (3, V.int IntKind.i64 (↑xs.length : Int)), (4, V.ptr 172 0), (36, V.bool false), (41, V.fn (Fn.func 87) [] [V.ptr 184 0])]), (201, Ob.row false 1 xs)], nx := 202 } (Exit.exit 0, { tm := [(0, V.yld 200), (1, V.ptr 184 0), (5, V.int IntKind.i64 mn), (6, V.int IntKind.i64 v), (7, V.bool false)], hp := [(0, Ob.var [V.sl n c 1 xs, V.int IntKind.i64 fr, V.int IntKind.i64 mn]), (156, Ob.dead), (172, Ob.var [V.ref 201]), (184, Ob.var [V.sl n c 1 xs, V.int IntKind.i64 fr, V.int IntKind.i64 mn]), (200, Ob.loop LS.ready (Try.cfg.fc 47) (rangeCode Try.f47 0) [(0, V.agg [V.sl n c 1 xs, V.int IntKind.i64 fr, V.int IntKind.i64 mn]), (1, V.ptr 0 0), (2, V.bool false), (3, V.int IntKind.i64 (↑xs.length : Int)), (4, V.ptr 172 0), (36, V.bool false), (41, V.fn (Fn.func 87) [] [V.ptr 184 0])]), (201, Ob.row false 1 rs)], nx := 206 })) :
    evalFn Try.prog Try.cfg (k + 1) 87 [V.yld 200, V.ptr 184 0] [(0, Ob.var [V.sl n c 1 xs, V.int IntKind.i64 fr, V.int IntKind.i64 mn]), (156, Ob.dead), (164, Ob.row false 1 xs), (172, Ob.var [V.ref 164]), (184, Ob.var [V.sl n c 1 xs, V.int IntKind.i64 fr, V.int IntKind.i64 mn]), (200, Ob.loop LS.ready (Try.cfg.fc 47) (rangeCode Try.f47 0) [(0, V.agg [V.sl n c 1 xs, V.int IntKind.i64 fr, V.int IntKind.i64 mn]), (1, V.ptr 0 0), (2, V.bool false), (3, V.int IntKind.i64 (↑xs.length : Int)), (4, V.ptr 172 0), (36, V.bool false), (41, V.fn (Fn.func 87) [] [V.ptr 184 0])])] 201 = some (V.tup [], [(0, Ob.var [V.sl n c 1 xs, V.int IntKind.i64 fr, V.int IntKind.i64 mn]), (156, Ob.dead), (172, Ob.var [V.ref 201]), (184, Ob.var [V.sl n c 1 xs, V.int IntKind.i64 fr, V.int IntKind.i64 mn]), (200, Ob.loop LS.ready (Try.cfg.fc 47) (rangeCode Try.f47 0) [(0, V.agg [V.sl n c 1 xs, V.int IntKind.i64 fr, V.int IntKind.i64 mn]), (1, V.ptr 0 0), (2, V.bool false), (3, V.int IntKind.i64 (↑xs.length : Int)), (4, V.ptr 172 0), (36, V.bool false), (41, V.fn (Fn.func 87) [] [V.ptr 184 0])]), (201, Ob.row false 1 rs)], 206) :=
  byR [Hint.loop (Exit.exit 0, { tm := [(0, V.yld 200), (1, V.ptr 184 0), (5, V.int IntKind.i64 mn), (6, V.int IntKind.i64 v), (7, V.bool false)], hp := [(0, Ob.var [V.sl n c 1 xs, V.int IntKind.i64 fr, V.int IntKind.i64 mn]), (156, Ob.dead), (172, Ob.var [V.ref 201]), (184, Ob.var [V.sl n c 1 xs, V.int IntKind.i64 fr, V.int IntKind.i64 mn]), (200, Ob.loop LS.ready (Try.cfg.fc 47) (rangeCode Try.f47 0) [(0, V.agg [V.sl n c 1 xs, V.int IntKind.i64 fr, V.int IntKind.i64 mn]), (1, V.ptr 0 0), (2, V.bool false), (3, V.int IntKind.i64 (↑xs.length : Int)), (4, V.ptr 172 0), (36, V.bool false), (41, V.fn (Fn.func 87) [] [V.ptr 184 0])]), (201, Ob.row false 1 rs)], nx := 206 })] ((LoopsN Try.prog Try.cfg k 201 Try.f87 (Try.cfg.fc 87) 0 [0, 1, 5, 6] k { tm := [(0, V.yld 200), (1, V.ptr 184 0), (5, V.int IntKind.i64 mn), (6, V.int IntKind.i64 0)], hp := [(0, Ob.var [V.sl n c 1 xs, V.int IntKind.i64 fr, V.int IntKind.i64 mn]), (156, Ob.dead), (172, Ob.var [V.ref 201]), (184, Ob.var [V.sl n c 1 xs, V.int IntKind.i64 fr, V.int IntKind.i64 mn]), (200, Ob.loop LS.ready (Try.cfg.fc 47) (rangeCode Try.f47 0) [(0, V.agg [V.sl n c 1 xs, V.int IntKind.i64 fr, V.int IntKind.i64 mn]), (1, V.ptr 0 0), (2, V.bool false), (3, V.int IntKind.i64 (↑xs.length : Int)), (4, V.ptr 172 0), (36, V.bool false), (41, V.fn (Fn.func 87) [] [V.ptr 184 0])]), (201, Ob.row false 1 xs)], nx := 202 } (Exit.exit 0, { tm := [(0, V.yld 200), (1, V.ptr 184 0), (5, V.int IntKind.i64 mn), (6, V.int IntKind.i64 v), (7, V.bool false)], hp := [(0, Ob.var [V.sl n c 1 xs, V.int IntKind.i64 fr, V.int IntKind.i64 mn]), (156, Ob.dead), (172, Ob.var [V.ref 201]), (184, Ob.var [V.sl n c 1 xs, V.int IntKind.i64 fr, V.int IntKind.i64 mn]), (200, Ob.loop LS.ready (Try.cfg.fc 47) (rangeCode Try.f47 0) [(0, V.agg [V.sl n c 1 xs, V.int IntKind.i64 fr, V.int IntKind.i64 mn]), (1, V.ptr 0 0), (2, V.bool false), (3, V.int IntKind.i64 (↑xs.length : Int)), (4, V.ptr 172 0), (36, V.bool false), (41, V.fn (Fn.func 87) [] [V.ptr 184 0])]), (201, Ob.row false 1 rs)], nx := 206 })) ∧ True) (by kernel_rfl) ⟨c0, trivial⟩
theorem l84r_b_0 (n : Option Bool) (c : Bool) (xs : List V) (v0 : Int) (t_00 : List UInt8) (K : Nat)
    (c0 : decide (v0 < (↑xs.length : Int)) = true)
    (c1 : IdxP xs v0 1 1 (V.str t_00))
    (c2 : callP (evalFn Try.prog Try.cfg K) 80 [V.str t_00] = some (V.bool true)) :
    evalCode Try.prog Try.cfg (evalFn Try.prog Try.cfg K) 0 (Try.cfg.fc 84) K (loopBody Try.f84 0) { tm := [(0, V.sl n c 1 xs), (1, V.fn (Fn.func 80) [] []), (4, V.int IntKind.i64 0), (7, V.int IntKind.i64 (↑xs.length : Int)), (8, V.int IntKind.i64 v0)], hp := [], nx := 0 } = some (Exit.ret, { tm := [(0, V.sl n c 1 xs), (1, V.fn (Fn.func 80) [] []), (4, V.int IntKind.i64 v0), (5, V.int IntKind.i64 v0), (7, V.int IntKind.i64 (↑xs.length : Int)), (8, V.int IntKind.i64 v0), (9, V.bool true), (16, V.bool true)], hp := [], nx := 44 }) :=
  byC [Hint.br 9 true, Hint.op 14 ((V.str t_00).cpt 0) [], Hint.call 16 (V.bool true)] ((decide (v0 < (↑xs.length : Int)) = true) ∧ (IdxP xs v0 1 1 (V.str t_00)) ∧ (callP (evalFn Try.prog Try.cfg K) 80 [V.str t_00] = some (V.bool true)) ∧ True) (by kernel_rfl) ⟨c0, c1, c2, trivial⟩
theorem l84r_b_1 (n : Option Bool) (c : Bool) (xs : List V) (v0 : Int) (t_00 : List UInt8) (K : Nat)
    (c0 : decide (v0 < (↑xs.length : Int)) = true)
    (c1 : IdxP xs v0 1 1 (V.str t_00))
    (c2 : callP (evalFn Try.prog Try.cfg K) 80 [V.str t_00] = some (V.bool false)) :
    evalCode Try.prog Try.cfg (evalFn Try.prog Try.cfg K) 0 (Try.cfg.fc 84) K (loopBody Try.f84 0) { tm := [(0, V.sl n c 1 xs), (1, V.fn (Fn.func 80) [] []), (4, V.int IntKind.i64 0), (7, V.int IntKind.i64 (↑xs.length : Int)), (8, V.int IntKind.i64 v0)], hp := [], nx := 0 } = some (Exit.normal, { tm := [(0, V.sl n c 1 xs), (1, V.fn (Fn.func 80) [] []), (4, V.int IntKind.i64 0), (5, V.int IntKind.i64 v0), (7, V.int IntKind.i64 (↑xs.length : Int)), (8, V.int IntKind.i64 (IntKind.i64.wrap (v0 + 1))), (9, V.bool true), (16, V.bool false)], hp := [], nx := 44 }) :=
  byC [Hint.br 9 true, Hint.op 14 ((V.str t_00).cpt 0) [], Hint.call 16 (V.bool false)] ((decide (v0 < (↑xs.length : Int)) = true) ∧ (IdxP xs v0 1 1 (V.str t_00)) ∧ (callP (evalFn Try.prog Try.cfg K) 80 [V.str t_00] = some (V.bool false)) ∧ True) (by kernel_rfl) ⟨c0, c1, c2, trivial⟩
theorem l84r_b_1h (n : Option Bool) (c : Bool) (xs : List V) (v0 : Int) (t_00 : List UInt8) : head 0 [0, 1, 4, 7, 8] (Try.cfg.fc 84).acc { tm := [(0, V.sl n c 1 xs), (1, V.fn (Fn.func 80) [] []), (4, V.int IntKind.i64 0), (5, V.int IntKind.i64 v0), (7, V.int IntKind.i64 (↑xs.length : Int)), (8, V.int IntKind.i64 (IntKind.i64.wrap (v0 + 1))), (9, V.bool true), (16, V.bool false)], hp := [], nx := 44 } = { tm := [(0, V.sl n c 1 xs), (1, V.fn (Fn.func 80) [] []), (4, V.int IntKind.i64 0), (7, V.int IntKind.i64 (↑xs.length : Int)), (8, V.int IntKind.i64 (IntKind.i64.wrap (v0 + 1)))], hp := [], nx := 0 } := by kernel_rfl
theorem l84r_b_2 (n : Option Bool) (c : Bool) (xs : List V) (v0 : Int) (K : Nat)
    (c0 : decide (v0 < (↑xs.length : Int)) = false) :
    evalCode Try.prog Try.cfg (evalFn Try.prog Try.cfg K) 0 (Try.cfg.fc 84) K (loopBody Try.f84 0) { tm := [(0, V.sl n c 1 xs), (1, V.fn (Fn.func 80) [] []), (4, V.int IntKind.i64 0), (7, V.int IntKind.i64 (↑xs.length : Int)), (8, V.int IntKind.i64 v0)], hp := [], nx := 0 } = some (Exit.exit 0, { tm := [(0, V.sl n c 1 xs), (1, V.fn (Fn.func 80) [] []), (4, V.int IntKind.i64 0), (7, V.int IntKind.i64 (↑xs.length : Int)), (8, V.int IntKind.i64 v0), (9, V.bool false)], hp := [], nx := 4 }) :=
  byC [Hint.br 9 false] ((decide (v0 < (↑xs.length : Int)) = false) ∧ True) (by kernel_rfl) ⟨c0, trivial⟩
inductive l84r_R where
  | e0 (v0 : Int)
  | e2 (v0 : Int)
def l84r_end (n : Option Bool) (c : Bool) (xs : List V) : l84r_R → Exit × St
  | .e0 v0 => (Exit.ret, { tm := [(0, V.sl n c 1 xs), (1, V.fn (Fn.func 80) [] []), (4, V.int IntKind.i64 v0), (5, V.int IntKind.i64 v0), (7, V.int IntKind.i64 (↑xs.length : Int)), (8, V.int IntKind.i64 v0), (9, V.bool true), (16, V.bool true)], hp := [], nx := 44 })
  | .e2 v0 => (Exit.exit 0, { tm := [(0, V.sl n c 1 xs), (1, V.fn (Fn.func 80) [] []), (4, V.int IntKind.i64 0), (7, V.int IntKind.i64 (↑xs.length : Int)), (8, V.int IntKind.i64 v0), (9, V.bool false)], hp := [], nx := 4 })
def l84r (n : Option Bool) (c : Bool) (xs : List V) : Nat → Int → Option l84r_R
  | 0, _ => none
  | f + 1, v0 => (bif decide (v0 < (↑xs.length : Int)) then (match at? xs (v0) with | some (V.str t_00) => (bif !decide (t_00 = []) then some (l84r_R.e0 v0) else l84r n c xs f (IntKind.i64.wrap (v0 + 1))) | _ => none) else some (l84r_R.e2 v0))
theorem l84r_ok (n : Option Bool) (c : Bool) (xs : List V) (K : Nat)
    (hc0 : ∀ (t_00 : List UInt8), callP (evalFn Try.prog Try.cfg K) 80 [V.str t_00] = some (V.bool !decide (t_00 = []))) : ∀ (f : Nat) (v0 : Int) (r : l84r_R), l84r n c xs f v0 = some r →
    LoopsN Try.prog Try.cfg K 0 Try.f84 (Try.cfg.fc 84) 0 [0, 1, 4, 7, 8] f { tm := [(0, V.sl n c 1 xs), (1, V.fn (Fn.func 80) [] []), (4, V.int IntKind.i64 0), (7, V.int IntKind.i64 (↑xs.length : Int)), (8, V.int IntKind.i64 v0)], hp := [], nx := 0 } (l84r_end n c xs r) := by
  intro f
  induction f with
  | zero => intro v0 r h; cases h
  | succ f ih =>
    intro v0 r h
    rw [l84r] at h
    cases d0 : (decide (v0 < (↑xs.length : Int)))
    · rw [d0, cond_false] at h
      cases h
      exact LoopsN.done (l84r_b_2 n c xs v0 K d0) (fun h => by cases h)
    · rw [d0, cond_true] at h
      split at h
      · rename_i t_00 a1
        cases d8000 : (!decide (t_00 = []))
        · rw [d8000, cond_false] at h
          exact LoopsN.next (l84r_b_1 n c xs v0 t_00 K d0 (IdxP.of_at ‹_›) ((hc0 _).trans (by rw [d8000]))) (l84r_b_1h n c xs v0 t_00) (ih _ _ h)
        · rw [d8000, cond_true] at h
          cases h
          exact LoopsN.done (l84r_b_0 n c xs v0 t_00 K d0 (IdxP.of_at ‹_›) ((hc0 _).trans (by rw [d8000]))) (fun h => by cases h)
      · cases h
theorem p84ra_0 (n : Option Bool) (c : Bool) (xs : List V) (v : Int) (k : Nat)
    (c0 : LoopsN Try.prog Try.cfg k 0 Try.f84 (Try.cfg.fc 84) 0 [0, 1, 4, 7, 8] k { tm := [(0, V.sl n c 1 xs), (1, V.fn (Fn.func 80) [] []), (4, V.int IntKind.i64 0), (7, V.int IntKind.i64 (↑xs.length : Int)), (8, V.int IntKind.i64 0)], hp := [], nx := 0 } (Exit.ret, { tm := [(0, V.sl n c 1 xs), (1, V.fn (Fn.func 80) [] []), (4, V.int IntKind.i64 v), (5, V.int IntKind.i64 v), (7, V.int IntKind.i64 (↑xs.length : Int)), (8, V.int IntKind.i64 v), (9, V.bool true), (16, V.bool true)], hp := [], nx := 44 })) :
    callP (evalFn Try.prog Try.cfg (k + 1)) 84 [V.sl n c 1 xs, V.fn (Fn.func 80) [] []] = some (V.int IntKind.i64 v) :=
  byP [Hint.loop (Exit.ret, { tm := [(0, V.sl n c 1 xs), (1, V.fn (Fn.func 80) [] []), (4, V.int IntKind.i64 v), (5, V.int IntKind.i64 v), (7, V.int IntKind.i64 (↑xs.length : Int)), (8, V.int IntKind.i64 v), (9, V.bool true), (16, V.bool true)], hp := [], nx := 44 })] ((LoopsN Try.prog Try.cfg k 0 Try.f84 (Try.cfg.fc 84) 0 [0, 1, 4, 7, 8] k { tm := [(0, V.sl n c 1 xs), (1, V.fn (Fn.func 80) [] []), (4, V.int IntKind.i64 0), (7, V.int IntKind.i64 (↑xs.length : Int)), (8, V.int IntKind.i64 0)], hp := [], nx := 0 } (Exit.ret, { tm := [(0, V.sl n c 1 xs), (1, V.fn (Fn.func 80) [] []), (4, V.int IntKind.i64 v), (5, V.int IntKind.i64 v), (7, V.int IntKind.i64 (↑xs.length : Int)), (8, V.int IntKind.i64 v), (9, V.bool true), (16, V.bool true)], hp := [], nx := 44 })) ∧ True) (by kernel_rfl) ⟨c0, trivial⟩
theorem p84rb_0 (n : Option Bool) (c : Bool) (xs : List V) (v : Int) (k : Nat)
    (c0 : LoopsN Try.prog Try.cfg k 0 Try.f84 (Try.cfg.fc 84) 0 [0, 1, 4, 7, 8] k { tm := [(0, V.sl n c 1 xs), (1, V.fn (Fn.func 80) [] []), (4, V.int IntKind.i64 0), (7, V.int IntKind.i64 (↑xs.length : Int)), (8, V.int IntKind.i64 0)], hp := [], nx := 0 } (Exit.exit 0, { tm := [(0, V.sl n c 1 xs), (1, V.fn (Fn.func 80) [] []), (4, V.int IntKind.i64 0), (7, V.int IntKind.i64 (↑xs.length : Int)), (8, V.int IntKind.i64 v), (9, V.bool false)], hp := [], nx := 4 })) :
    callP (evalFn Try.prog Try.cfg (k + 1)) 84 [V.sl n c 1 xs, V.fn (Fn.func 80) [] []] = some (V.int IntKind.i64 (-1)) :=
  byP [Hint.loop (Exit.exit 0, { tm := [(0, V.sl n c 1 xs), (1, V.fn (Fn.func 80) [] []), (4, V.int IntKind.i64 0), (7, V.int IntKind.i64 (↑xs.length : Int)), (8, V.int IntKind.i64 v), (9, V.bool false)], hp := [], nx := 4 })] ((LoopsN Try.prog Try.cfg k 0 Try.f84 (Try.cfg.fc 84) 0 [0, 1, 4, 7, 8] k { tm := [(0, V.sl n c 1 xs), (1, V.fn (Fn.func 80) [] []), (4, V.int IntKind.i64 0), (7, V.int IntKind.i64 (↑xs.length : Int)), (8, V.int IntKind.i64 0)], hp := [], nx := 0 } (Exit.exit 0, { tm := [(0, V.sl n c 1 xs), (1, V.fn (Fn.func 80) [] []), (4, V.int IntKind.i64 0), (7, V.int IntKind.i64 (↑xs.length : Int)), (8, V.int IntKind.i64 v), (9, V.bool false)], hp := [], nx := 4 })) ∧ True) (by kernel_rfl) ⟨c0, trivial⟩
theorem l48_b_0 (n : Option Bool) (c : Bool) (xs : List V) (fr : Int) (mn : Int) (v0 : Int) (t_00 : List UInt8) (K : Nat)
    (c0 : decide (v0 < (↑xs.length : Int)) = true)
    (c1 : IdxP xs v0 1 1 (V.str t_00))
    (c2 : (!decide (t_00 = [])) = true)
    (c3 : callP (evalFn Try.prog Try.cfg K) 81 [V.agg [V.sl n c 1 xs, V.int IntKind.i64 fr, V.int IntKind.i64 mn], V.int IntKind.i64 v0] = some (V.int IntKind.i64 (plV (↑xs.length : Int) fr v0)))
    (c4 : decide (mn ≤ plV (↑xs.length : Int) fr v0) = true) :
    evalCode Try.prog Try.cfg (evalFn Try.prog Try.cfg K) 0 (Try.cfg.fc 48) K (loopBody Try.f48 0) { tm := [(0, V.agg [V.sl n c 1 xs, V.int IntKind.i64 fr, V.int IntKind.i64 mn]), (1, V.ptr 0 0), (2, V.bool false), (3, V.int IntKind.i64 (↑xs.length : Int)), (36, V.bool false), (38, V.sl n c 1 xs), (39, V.int IntKind.i64 (↑xs.length : Int)), (40, V.int IntKind.i64 v0)], hp := [(0, Ob.var [V.sl n c 1 xs, V.int IntKind.i64 fr, V.int IntKind.i64 mn])], nx := 1 } = some (Exit.ret, { tm := [(0, V.agg [V.sl n c 1 xs, V.int IntKind.i64 fr, V.int IntKind.i64 mn]), (1, V.ptr 0 0), (2, V.bool false), (3, V.int IntKind.i64 (↑xs.length : Int)), (4, V.int IntKind.i64 v0), (5, V.str t_00), (36, V.bool false), (38, V.sl n c 1 xs), (39, V.int IntKind.i64 (↑xs.length : Int)), (40, V.int IntKind.i64 v0), (41, V.bool true), (54, V.bool true)], hp := [(0, Ob.var [V.sl n c 1 xs, V.int IntKind.i64 fr, V.int IntKind.i64 mn])], nx := 69 }) :=
  byC [Hint.br 41 true, Hint.op 43 ((V.str t_00).cpt 0) [], Hint.br 47 true, Hint.call 50 (V.int IntKind.i64 (plV (↑xs.length : Int) fr v0)), Hint.br 54 true] ((decide (v0 < (↑xs.length : Int)) = true) ∧ (IdxP xs v0 1 1 (V.str t_00)) ∧ ((!decide (t_00 = [])) = true) ∧ (callP (evalFn Try.prog Try.cfg K) 81 [V.agg [V.sl n c 1 xs, V.int IntKind.i64 fr, V.int IntKind.i64 mn], V.int IntKind.i64 v0] = some (V.int IntKind.i64 (plV (↑xs.length : Int) fr v0))) ∧ (decide (mn ≤ plV (↑xs.length : Int) fr v0) = true) ∧ True) (by kernel_rfl) ⟨c0, c1, c2, c3, c4, trivial⟩
theorem l48_b_1 (n : Option Bool) (c : Bool) (xs : List V) (fr : Int) (mn : Int) (v0 : Int) (t_00 : List UInt8) (K : Nat)
    (c0 : decide (v0 < (↑xs.length : Int)) = true)
    (c1 : IdxP xs v0 1 1 (V.str t_00))
    (c2 : (!decide (t_00 = [])) = true)
    (c3 : callP (evalFn Try.prog Try.cfg K) 81 [V.agg [V.sl n c 1 xs, V.int IntKind.i64 fr, V.int IntKind.i64 mn], V.int IntKind.i64 v0] = some (V.int IntKind.i64 (plV (↑xs.length : Int) fr v0)))
    (c4 : decide (mn ≤ plV (↑xs.length : Int) fr v0) = false) :
    evalCode Try.prog Try.cfg (evalFn Try.prog Try.cfg K) 0 (Try.cfg.fc 48) K (loopBody Try.f48 0) { tm := [(0, V.agg [V.sl n c 1 xs, V.int IntKind.i64 fr, V.int IntKind.i64 mn]), (1, V.ptr 0 0), (2, V.bool false), (3, V.int IntKind.i64 (↑xs.length : Int)), (36, V.bool false), (38, V.sl n c 1 xs), (39, V.int IntKind.i64 (↑xs.length : Int)), (40, V.int IntKind.i64 v0)], hp := [(0, Ob.var [V.sl n c 1 xs, V.int IntKind.i64 fr, V.int IntKind.i64 mn])], nx := 1 } = some (Exit.normal, { tm := [(0, V.agg [V.sl n c 1 xs, V.int IntKind.i64 fr, V.int IntKind.i64 mn]), (1, V.ptr 0 0), (2, V.bool false), (3, V.int IntKind.i64 (↑xs.length : Int)), (4, V.int IntKind.i64 v0), (5, V.str t_00), (36, V.bool false), (38, V.sl n c 1 xs), (39, V.int IntKind.i64 (↑xs.length : Int)), (40, V.int IntKind.i64 (IntKind.i64.wrap (v0 + 1))), (41, V.bool true), (54, V.bool false)], hp := [(0, Ob.var [V.sl n c 1 xs, V.int IntKind.i64 fr, V.int IntKind.i64 mn])], nx := 73 }) :=
  byC [Hint.br 41 true, Hint.op 43 ((V.str t_00).cpt 0) [], Hint.br 47 true, Hint.call 50 (V.int IntKind.i64 (plV (↑xs.length : Int) fr v0)), Hint.br 54 false] ((decide (v0 < (↑xs.length : Int)) = true) ∧ (IdxP xs v0 1 1 (V.str t_00)) ∧ ((!decide (t_00 = [])) = true) ∧ (callP (evalFn Try.prog Try.cfg K) 81 [V.agg [V.sl n c 1 xs, V.int IntKind.i64 fr, V.int IntKind.i64 mn], V.int IntKind.i64 v0] = some (V.int IntKind.i64 (plV (↑xs.length : Int) fr v0))) ∧ (decide (mn ≤ plV (↑xs.length : Int) fr v0) = false) ∧ True) (by kernel_rfl) ⟨c0, c1, c2, c3, c4, trivial⟩
theorem l48_b_1h (n : Option Bool) (c : Bool) (xs : List V) (fr : Int) (mn : Int) (v0 : Int) (t_00 : List UInt8) : head 0 [0, 1, 2, 3, 36, 38, 39, 40] (Try.cfg.fc 48).acc { tm := [(0, V.agg [V.sl n c 1 xs, V.int IntKind.i64 fr, V.int IntKind.i64 mn]), (1, V.ptr 0 0), (2, V.bool false), (3, V.int IntKind.i64 (↑xs.length : Int)), (4, V.int IntKind.i64 v0), (5, V.str t_00), (36, V.bool false), (38, V.sl n c 1 xs), (39, V.int IntKind.i64 (↑xs.length : Int)), (40, V.int IntKind.i64 (IntKind.i64.wrap (v0 + 1))), (41, V.bool true), (54, V.bool false)], hp := [(0, Ob.var [V.sl n c 1 xs, V.int IntKind.i64 fr, V.int IntKind.i64 mn])], nx := 73 } = { tm := [(0, V.agg [V.sl n c 1 xs, V.int IntKind.i64 fr, V.int IntKind.i64 mn]), (1, V.ptr 0 0), (2, V.bool false), (3, V.int IntKind.i64 (↑xs.length : Int)), (36, V.bool false), (38, V.sl n c 1 xs), (39, V.int IntKind.i64 (↑xs.length : Int)), (40, V.int IntKind.i64 (IntKind.i64.wrap (v0 + 1)))], hp := [(0, Ob.var [V.sl n c 1 xs, V.int IntKind.i64 fr, V.int IntKind.i64 mn])], nx := 1 } := by kernel_rfl
theorem l48_b_3 (n : Option Bool) (c : Bool) (xs : List V) (fr : Int) (mn : Int) (v0 : Int) (t_00 : List UInt8) (K : Nat)
    (c0 : decide (v0 < (↑xs.length : Int)) = true)
    (c1 : IdxP xs v0 1 1 (V.str t_00))
    (c2 : (!decide (t_00 = [])) = false) :
    evalCode Try.prog Try.cfg (evalFn Try.prog Try.cfg K) 0 (Try.cfg.fc 48) K (loopBody Try.f48 0) { tm := [(0, V.agg [V.sl n c 1 xs, V.int IntKind.i64 fr, V.int IntKind.i64 mn]), (1, V.ptr 0 0), (2, V.bool false), (3, V.int IntKind.i64 (↑xs.length : Int)), (36, V.bool false), (38, V.sl n c 1 xs), (39, V.int IntKind.i64 (↑xs.length : Int)), (40, V.int IntKind.i64 v0)], hp := [(0, Ob.var [V.sl n c 1 xs, V.int IntKind.i64 fr, V.int IntKind.i64 mn])], nx := 1 } = some (Exit.normal, { tm := [(0, V.agg [V.sl n c 1 xs, V.int IntKind.i64 fr, V.int IntKind.i64 mn]), (1, V.ptr 0 0), (2, V.bool false), (3, V.int IntKind.i64 (↑xs.length : Int)), (4, V.int IntKind.i64 v0), (5, V.str t_00), (36, V.bool false), (38, V.sl n c 1 xs), (39, V.int IntKind.i64 (↑xs.length : Int)), (40, V.int IntKind.i64 (IntKind.i64.wrap (v0 + 1))), (41, V.bool true), (54, V.bool false)], hp := [(0, Ob.var [V.sl n c 1 xs, V.int IntKind.i64 fr, V.int IntKind.i64 mn])], nx := 73 }) :=
  byC [Hint.br 41 true, Hint.op 43 ((V.str t_00).cpt 0) [], Hint.br 47 false] ((decide (v0 < (↑xs.length : Int)) = true) ∧ (IdxP xs v0 1 1 (V.str t_00)) ∧ ((!decide (t_00 = [])) = false) ∧ True) (by kernel_rfl) ⟨c0, c1, c2, trivial⟩
theorem l48_b_3h (n : Option Bool) (c : Bool) (xs : List V) (fr : Int) (mn : Int) (v0 : Int) (t_00 : List UInt8) : head 0 [0, 1, 2, 3, 36, 38, 39, 40] (Try.cfg.fc 48).acc { tm := [(0, V.agg [V.sl n c 1 xs, V.int IntKind.i64 fr, V.int IntKind.i64 mn]), (1, V.ptr 0 0), (2, V.bool false), (3, V.int IntKind.i64 (↑xs.length : Int)), (4, V.int IntKind.i64 v0), (5, V.str t_00), (36, V.bool false), (38, V.sl n c 1 xs), (39, V.int IntKind.i64 (↑xs.length : Int)), (40, V.int IntKind.i64 (IntKind.i64.wrap (v0 + 1))), (41, V.bool true), (54, V.bool false)], hp := [(0, Ob.var [V.sl n c 1 xs, V.int IntKind.i64 fr, V.int IntKind.i64 mn])], nx := 73 } = { tm := [(0, V.agg [V.sl n c 1 xs, V.int IntKind.i64 fr, V.int IntKind.i64 mn]), (1, V.ptr 0 0), (2, V.bool false), (3, V.int IntKind.i64 (↑xs.length : Int)), (36, V.bool false), (38, V.sl n c 1 xs), (39, V.int IntKind.i64 (↑xs.length : Int)), (40, V.int IntKind.i64 (IntKind.i64.wrap (v0 + 1)))], hp := [(0, Ob.var [V.sl n c 1 xs, V.int IntKind.i64 fr, V.int IntKind.i64 mn])], nx := 1 } := by kernel_rfl
theorem l48_b_4 (n : Option Bool) (c : Bool) (xs : List V) (fr : Int) (mn : Int) (v0 : Int) (K : Nat)
    (c0 : decide (v0 < (↑xs.length : Int)) = false) :
    evalCode Try.prog Try.cfg (evalFn Try.prog Try.cfg K) 0 (Try.cfg.fc 48) K (loopBody Try.f48 0) { tm := [(0, V.agg [V.sl n c 1 xs, V.int IntKind.i64 fr, V.int IntKind.i64 mn]), (1, V.ptr 0 0), (2, V.bool false), (3, V.int IntKind.i64 (↑xs.length : Int)), (36, V.bool false), (38, V.sl n c 1 xs), (39, V.int IntKind.i64 (↑xs.length : Int)), (40, V.int IntKind.i64 v0)], hp := [(0, Ob.var [V.sl n c 1 xs, V.int IntKind.i64 fr, V.int IntKind.i64 mn])], nx := 1 } = some (Exit.exit 0, { tm := [(0, V.agg [V.sl n c 1 xs, V.int IntKind.i64 fr, V.int IntKind.i64 mn]), (1, V.ptr 0 0), (2, V.bool false), (3, V.int IntKind.i64 (↑xs.length : Int)), (36, V.bool false), (38, V.sl n c 1 xs), (39, V.int IntKind.i64 (↑xs.length : Int)), (40, V.int IntKind.i64 v0), (41, V.bool false)], hp := [(0, Ob.var [V.sl n c 1 xs, V.int IntKind.i64 fr, V.int IntKind.i64 mn])], nx := 5 }) :=
  byC [Hint.br 41 false] ((decide (v0 < (↑xs.length : Int)) = false) ∧ True) (by kernel_rfl) ⟨c0, trivial⟩
inductive l48_R where
  | e0 (v0 : Int) (t_00 : List UInt8)
  | e4 (v0 : Int)
def l48_end (n : Option Bool) (c : Bool) (xs : List V) (fr : Int) (mn : Int) : l48_R → Exit × St
  | .e0 v0 t_00 => (Exit.ret, { tm := [(0, V.agg [V.sl n c 1 xs, V.int IntKind.i64 fr, V.int IntKind.i64 mn]), (1, V.ptr 0 0), (2, V.bool false), (3, V.int IntKind.i64 (↑xs.length : Int)), (4, V.int IntKind.i64 v0), (5, V.str t_00), (36, V.bool false), (38, V.sl n c 1 xs), (39, V.int IntKind.i64 (↑xs.length : Int)), (40, V.int IntKind.i64 v0), (41, V.bool true), (54, V.bool true)], hp := [(0, Ob.var [V.sl n c 1 xs, V.int IntKind.i64 fr, V.int IntKind.i64 mn])], nx := 69 })
  | .e4 v0 => (Exit.exit 0, { tm := [(0, V.agg [V.sl n c 1 xs, V.int IntKind.i64 fr, V.int IntKind.i64 mn]), (1, V.ptr 0 0), (2, V.bool false), (3, V.int IntKind.i64 (↑xs.length : Int)), (36, V.bool false), (38, V.sl n c 1 xs), (39, V.int IntKind.i64 (↑xs.length : Int)), (40, V.int IntKind.i64 v0), (41, V.bool false)], hp := [(0, Ob.var [V.sl n c 1 xs, V.int IntKind.i64 fr, V.int IntKind.i64 mn])], nx := 5 })
def l48 (n : Option Bool) (c : Bool) (xs : List V) (fr : Int) (mn : Int) : Nat → Int → Option l48_R
  | 0, _ => none
  | f + 1, v0 => (bif decide (v0 < (↑xs.length : Int)) then (match at? xs (v0) with | some (V.str t_00) => (bif !decide (t_00 = []) then (bif decide (0 ≤ fr ∧ fr < (↑xs.length : Int) ∧ 0 ≤ v0 ∧ v0 < (↑xs.length : Int)) then (bif decide (mn ≤ plV (↑xs.length : Int) fr v0) then some (l48_R.e0 v0 t_00) else l48 n c xs fr mn f (IntKind.i64.wrap (v0 + 1))) else none /- STUCK/FAIL Go.Op.binOp at "ref.go:22" dst some (53) operands -/) else l48 n c xs fr mn f (IntKind.i64.wrap (v0 + 1))) | _ => none) else some (l48_R.e4 v0))
theorem l48_ok (n : Option Bool) (c : Bool) (xs : List V) (fr : Int) (mn : Int) (K : Nat)
    (hc0 : ∀ (v0 : Int), decide (0 ≤ fr ∧ fr < (↑xs.length : Int) ∧ 0 ≤ v0 ∧ v0 < (↑xs.length : Int)) = true → callP (evalFn Try.prog Try.cfg K) 81 [V.agg [V.sl n c 1 xs, V.int IntKind.i64 fr, V.int IntKind.i64 mn], V.int IntKind.i64 v0] = some (V.int IntKind.i64 (plV (↑xs.length : Int) fr v0))) : ∀ (f : Nat) (v0 : Int) (r : l48_R), l48 n c xs fr mn f v0 = some r →
    LoopsN Try.prog Try.cfg K 0 Try.f48 (Try.cfg.fc 48) 0 [0, 1, 2, 3, 36, 38, 39, 40] f { tm := [(0, V.agg [V.sl n c 1 xs, V.int IntKind.i64 fr, V.int IntKind.i64 mn]), (1, V.ptr 0 0), (2, V.bool false), (3, V.int IntKind.i64 (↑xs.length : Int)), (36, V.bool false), (38, V.sl n c 1 xs), (39, V.int IntKind.i64 (↑xs.length : Int)), (40, V.int IntKind.i64 v0)], hp := [(0, Ob.var [V.sl n c 1 xs, V.int IntKind.i64 fr, V.int IntKind.i64 mn])], nx := 1 } (l48_end n c xs fr mn r) := by
  intro f
  induction f with
  | zero => intro v0 r h; cases h
  | succ f ih =>
    intro v0 r h
    rw [l48] at h
    cases d0 : (decide (v0 < (↑xs.length : Int)))
    · rw [d0, cond_false] at h
      cases h
      exact LoopsN.done (l48_b_4 n c xs fr mn v0 K d0) (fun h => by cases h)
    · rw [d0, cond_true] at h
      split at h
      · rename_i t_00 a1
        cases d8000 : (!decide (t_00 = []))
        · rw [d8000, cond_false] at h
          exact LoopsN.next (l48_b_3 n c xs fr mn v0 t_00 K d0 (IdxP.of_at ‹_›) d8000) (l48_b_3h n c xs fr mn v0 t_00) (ih _ _ h)
        · rw [d8000, cond_true] at h
          cases d11001 : (decide (0 ≤ fr ∧ fr < (↑xs.length : Int) ∧ 0 ≤ v0 ∧ v0 < (↑xs.length : Int)))
          · rw [d11001, cond_false] at h
            cases h
          · rw [d11001, cond_true] at h
            cases d15000 : (decide (mn ≤ plV (↑xs.length : Int) fr v0))
            · rw [d15000, cond_false] at h
              exact LoopsN.next (l48_b_1 n c xs fr mn v0 t_00 K d0 (IdxP.of_at ‹_›) d8000 (hc0 _ d11001) d15000) (l48_b_1h n c xs fr mn v0 t_00) (ih _ _ h)
            · rw [d15000, cond_true] at h
              cases h
              exact LoopsN.done (l48_b_0 n c xs fr mn v0 t_00 K d0 (IdxP.of_at ‹_›) d8000 (hc0 _ d11001) d15000) (fun h => by cases h)
      · cases h
theorem p48a_0 (n : Option Bool) (c : Bool) (xs : List V) (fr : Int) (mn : Int) (v : Int) (t : List UInt8) (k : Nat)
    (c0 : decide ((↑xs.length : Int) < 1) = true) :
    callP (evalFn Try.prog Try.cfg (k + 1)) 48 [V.agg [V.sl n c 1 xs, V.int IntKind.i64 fr, V.int IntKind.i64 mn]] = some (V.bool false) :=
  byP [Hint.br 11 true] ((decide ((↑xs.length : Int) < 1) = true) ∧ True) (by kernel_rfl) ⟨c0, trivial⟩
theorem p48a_1 (n : Option Bool) (c : Bool) (xs : List V) (fr : Int) (mn : Int) (v : Int) (t : List UInt8) (k : Nat)
    (c0 : decide ((↑xs.length : Int) < 1) = false)
    (c1 : decide (64 < (↑xs.length : Int)) = true) :
    callP (evalFn Try.prog Try.cfg (k + 1)) 48 [V.agg [V.sl n c 1 xs, V.int IntKind.i64 fr, V.int IntKind.i64 mn]] = some (V.bool false) :=
  byP [Hint.br 11 false, Hint.br 15 true] ((decide ((↑xs.length : Int) < 1) = false) ∧ (decide (64 < (↑xs.length : Int)) = true) ∧ True) (by kernel_rfl) ⟨c0, c1, trivial⟩
theorem p48a_2 (n : Option Bool) (c : Bool) (xs : List V) (fr : Int) (mn : Int) (v : Int) (t : List UInt8) (k : Nat)
    (c0 : decide ((↑xs.length : Int) < 1) = false)
    (c1 : decide (64 < (↑xs.length : Int)) = false)
    (c2 : decide (fr < 0) = true) :
    callP (evalFn Try.prog Try.cfg (k + 1)) 48 [V.agg [V.sl n c 1 xs, V.int IntKind.i64 fr, V.int IntKind.i64 mn]] = some (V.bool false) :=
  byP [Hint.br 11 false, Hint.br 15 false, Hint.br 20 true] ((decide ((↑xs.length : Int) < 1) = false) ∧ (decide (64 < (↑xs.length : Int)) = false) ∧ (decide (fr < 0) = true) ∧ True) (by kernel_rfl) ⟨c0, c1, c2, trivial⟩
theorem p48a_3 (n : Option Bool) (c : Bool) (xs : List V) (fr : Int) (mn : Int) (v : Int) (t : List UInt8) (k : Nat)
    (c0 : decide ((↑xs.length : Int) < 1) = false)
    (c1 : decide (64 < (↑xs.length : Int)) = false)
    (c2 : decide (fr < 0) = false)
    (c3 : decide ((↑xs.length : Int) ≤ fr) = true) :
    callP (evalFn Try.prog Try.cfg (k + 1)) 48 [V.agg [V.sl n c 1 xs, V.int IntKind.i64 fr, V.int IntKind.i64 mn]] = some (V.bool false) :=
  byP [Hint.br 11 false, Hint.br 15 false, Hint.br 20 false, Hint.br 26 true] ((decide ((↑xs.length : Int) < 1) = false) ∧ (decide (64 < (↑xs.length : Int)) = false) ∧ (decide (fr < 0) = false) ∧ (decide ((↑xs.length : Int) ≤ fr) = true) ∧ True) (by kernel_rfl) ⟨c0, c1, c2, c3, trivial⟩
theorem p48a_4 (n : Option Bool) (c : Bool) (xs : List V) (fr : Int) (mn : Int) (v : Int) (t : List UInt8) (k : Nat)
    (c0 : decide ((↑xs.length : Int) < 1) = false)
    (c1 : decide (64 < (↑xs.length : Int)) = false)
    (c2 : decide (fr < 0) = false)
    (c3 : decide ((↑xs.length : Int) ≤ fr) = false)
    (c4 : decide (mn < 0) = true) :
    callP (evalFn Try.prog Try.cfg (k + 1)) 48 [V.agg [V.sl n c 1 xs, V.int IntKind.i64 fr, V.int IntKind.i64 mn]] = some (V.bool false) :=
  byP [Hint.br 11 false, Hint.br 15 false, Hint.br 20 false, Hint.br 26 false, Hint.br 31 true] ((decide ((↑xs.length : Int) < 1) = false) ∧ (decide (64 < (↑xs.length : Int)) = false) ∧ (decide (fr < 0) = false) ∧ (decide ((↑xs.length : Int) ≤ fr) = false) ∧ (decide (mn < 0) = true) ∧ True) (by kernel_rfl) ⟨c0, c1, c2, c3, c4, trivial⟩
theorem p48a_5 (n : Option Bool) (c : Bool) (xs : List V) (fr : Int) (mn : Int) (v : Int) (t : List UInt8) (k : Nat)
    (c0 : decide ((↑xs.length : Int) < 1) = false)
    (c1 : decide (64 < (↑xs.length : Int)) = false)
    (c2 : decide (fr < 0) = false)
    (c3 : decide ((↑xs.length : Int) ≤ fr) = false)
    (c4 : decide (mn < 0) = false)
    (c5 : decide ((↑xs.length : Int) < mn) = true) :
    callP (evalFn Try.prog Try.cfg (k + 1)) 48 [V.agg [V.sl n c 1 xs, V.int IntKind.i64 fr, V.int IntKind.i64 mn]] = some (V.bool false) :=
  byP [Hint.br 11 false, Hint.br 15 false, Hint.br 20 false, Hint.br 26 false, Hint.br 31 false, Hint.br 36 true] ((decide ((↑xs.length : Int) < 1) = false) ∧ (decide (64 < (↑xs.length : Int)) = false) ∧ (decide (fr < 0) = false) ∧ (decide ((↑xs.length : Int) ≤ fr) = false) ∧ (decide (mn < 0) = false) ∧ (decide ((↑xs.length : Int) < mn) = true) ∧ True) (by kernel_rfl) ⟨c0, c1, c2, c3, c4, c5, trivial⟩
theorem p48a_6 (n : Option Bool) (c : Bool) (xs : List V) (fr : Int) (mn : Int) (v : Int) (t : List UInt8) (k : Nat)
    (c0 : decide ((↑xs.length : Int) < 1) = false)
    (c1 : decide (64 < (↑xs.length : Int)) = false)
    (c2 : decide (fr < 0) = false)
    (c3 : decide ((↑xs.length : Int) ≤ fr) = false)
    (c4 : decide (mn < 0) = false)
    (c5 : decide ((↑xs.length : Int) < mn) = false)
    (c6 : LoopsN Try.prog Try.cfg k 0 Try.f48 (Try.cfg.fc 48) 0 [0, 1, 2, 3, 36, 38, 39, 40] k { tm := [(0, V.agg [V.sl n c 1 xs, V.int IntKind.i64 fr, V.int IntKind.i64 mn]), (1, V.ptr 0 0), (2, V.bool false), (3, V.int IntKind.i64 (↑xs.length : Int)), (36, V.bool false), (38, V.sl n c 1 xs), (39, V.int IntKind.i64 (↑xs.length : Int)), (40, V.int IntKind.i64 0)], hp := [(0, Ob.var [V.sl n c 1 xs, V.int IntKind.i64 fr, V.int IntKind.i64 mn])], nx := 1 } (Exit.ret, { tm := [(0, V.agg [V.sl n c 1 xs, V.int IntKind.i64 fr, V.int IntKind.i64 mn]), (1, V.ptr 0 0), (2, V.bool false), (3, V.int IntKind.i64 (↑xs.length : Int)), (4, V.int IntKind.i64 v), (5, V.str t), (36, V.bool false), (38, V.sl n c 1 xs), (39, V.int IntKind.i64 (↑xs.length : Int)), (40, V.int IntKind.i64 v), (41, V.bool true), (54, V.bool true)], hp := [(0, Ob.var [V.sl n c 1 xs, V.int IntKind.i64 fr, V.int IntKind.i64 mn])], nx := 69 })) :
    callP (evalFn Try.prog Try.cfg (k + 1)) 48 [V.agg [V.sl n c 1 xs, V.int IntKind.i64 fr, V.int IntKind.i64 mn]] = some (V.bool false) :=
  byP [Hint.br 11 false, Hint.br 15 false, Hint.br 20 false, Hint.br 26 false, Hint.br 31 false, Hint.br 36 false, Hint.loop (Exit.ret, { tm := [(0, V.agg [V.sl n c 1 xs, V.int IntKind.i64 fr, V.int IntKind.i64 mn]), (1, V.ptr 0 0), (2, V.bool false), (3, V.int IntKind.i64 (↑xs.length : Int)), (4, V.int IntKind.i64 v), (5, V.str t), (36, V.bool false), (38, V.sl n c 1 xs), (39, V.int IntKind.i64 (↑xs.length : Int)), (40, V.int IntKind.i64 v), (41, V.bool true), (54, V.bool true)], hp := [(0, Ob.var [V.sl n c 1 xs, V.int IntKind.i64 fr, V.int IntKind.i64 mn])], nx := 69 })] ((decide ((↑xs.length : Int) < 1) = false) ∧ (decide (64 < (↑xs.length : Int)) = false) ∧ (decide (fr < 0) = false) ∧ (decide ((↑xs.length : Int) ≤ fr) = false) ∧ (decide (mn < 0) = false) ∧ (decide ((↑xs.length : Int) < mn) = false) ∧ (LoopsN Try.prog Try.cfg k 0 Try.f48 (Try.cfg.fc 48) 0 [0, 1, 2, 3, 36, 38, 39, 40] k { tm := [(0, V.agg [V.sl n c 1 xs, V.int IntKind.i64 fr, V.int IntKind.i64 mn]), (1, V.ptr 0 0), (2, V.bool false), (3, V.int IntKind.i64 (↑xs.length : Int)), (36, V.bool false), (38, V.sl n c 1 xs), (39, V.int IntKind.i64 (↑xs.length : Int)), (40, V.int IntKind.i64 0)], hp := [(0, Ob.var [V.sl n c 1 xs, V.int IntKind.i64 fr, V.int IntKind.i64 mn])], nx := 1 } (Exit.ret, { tm := [(0, V.agg [V.sl n c 1 xs, V.int IntKind.i64 fr, V.int IntKind.i64 mn]), (1, V.ptr 0 0), (2, V.bool false), (3, V.int IntKind.i64 (↑xs.length : Int)), (4, V.int IntKind.i64 v), (5, V.str t), (36, V.bool false), (38, V.sl n c 1 xs), (39, V.int IntKind.i64 (↑xs.length : Int)), (40, V.int IntKind.i64 v), (41, V.bool true), (54, V.bool true)], hp := [(0, Ob.var [V.sl n c 1 xs, V.int IntKind.i64 fr, V.int IntKind.i64 mn])], nx := 69 })) ∧ True) (by kernel_rfl) ⟨c0, c1, c2, c3, c4, c5, c6, trivial⟩
theorem p48b_0 (n : Option Bool) (c : Bool) (xs : List V) (fr : Int) (mn : Int) (v : Int) (k : Nat)
    (c0 : decide ((↑xs.length : Int) < 1) = true) :
    callP (evalFn Try.prog Try.cfg (k + 1)) 48 [V.agg [V.sl n c 1 xs, V.int IntKind.i64 fr, V.int IntKind.i64 mn]] = some (V.bool false) :=
  byP [Hint.br 11 true] ((decide ((↑xs.length : Int) < 1) = true) ∧ True) (by kernel_rfl) ⟨c0, trivial⟩
theorem p48b_1 (n : Option Bool) (c : Bool) (xs : List V) (fr : Int) (mn : Int) (v : Int) (k : Nat)
    (c0 : decide ((↑xs.length : Int) < 1) = false)
    (c1 : decide (64 < (↑xs.length : Int)) = true) :
    callP (evalFn Try.prog Try.cfg (k + 1)) 48 [V.agg [V.sl n c 1 xs, V.int IntKind.i64 fr, V.int IntKind.i64 mn]] = some (V.bool false) :=
  byP [Hint.br 11 false, Hint.br 15 true] ((decide ((↑xs.length : Int) < 1) = false) ∧ (decide (64 < (↑xs.length : Int)) = true) ∧ True) (by kernel_rfl) ⟨c0, c1, trivial⟩
theorem p48b_2 (n : Option Bool) (c : Bool) (xs : List V) (fr : Int) (mn : Int) (v : Int) (k : Nat)
    (c0 : decide ((↑xs.length : Int) < 1) = false)
    (c1 : decide (64 < (↑xs.length : Int)) = false)
    (c2 : decide (fr < 0) = true) :
    callP (evalFn Try.prog Try.cfg (k + 1)) 48 [V.agg [V.sl n c 1 xs, V.int IntKind.i64 fr, V.int IntKind.i64 mn]] = some (V.bool false) :=
  byP [Hint.br 11 false, Hint.br 15 false, Hint.br 20 true] ((decide ((↑xs.length : Int) < 1) = false) ∧ (decide (64 < (↑xs.length : Int)) = false) ∧ (decide (fr < 0) = true) ∧ True) (by kernel_rfl) ⟨c0, c1, c2, trivial⟩
theorem p48b_3 (n : Option Bool) (c : Bool) (xs : List V) (fr : Int) (mn : Int) (v : Int) (k : Nat)
    (c0 : decide ((↑xs.length : Int) < 1) = false)
    (c1 : decide (64 < (↑xs.length : Int)) = false)
    (c2 : decide (fr < 0) = false)
    (c3 : decide ((↑xs.length : Int) ≤ fr) = true) :
    callP (evalFn Try.prog Try.cfg (k + 1)) 48 [V.agg [V.sl n c 1 xs, V.int IntKind.i64 fr, V.int IntKind.i64 mn]] = some (V.bool false) :=
  byP [Hint.br 11 false, Hint.br 15 false, Hint.br 20 false, Hint.br 26 true] ((decide ((↑xs.length : Int) < 1) = false) ∧ (decide (64 < (↑xs.length : Int)) = false) ∧ (decide (fr < 0) = false) ∧ (decide ((↑xs.length : Int) ≤ fr) = true) ∧ True) (by kernel_rfl) ⟨c0, c1, c2, c3, trivial⟩
theorem p48b_4 (n : Option Bool) (c : Bool) (xs : List V) (fr : Int) (mn : Int) (v : Int) (k : Nat)
    (c0 : decide ((↑xs.length : Int) < 1) = false)
    (c1 : decide (64 < (↑xs.length : Int)) = false)
    (c2 : decide (fr < 0) = false)
    (c3 : decide ((↑xs.length : Int) ≤ fr) = false)
    (c4 : decide (mn < 0) = true) :
    callP (evalFn Try.prog Try.cfg (k + 1)) 48 [V.agg [V.sl n c 1 xs, V.int IntKind.i64 fr, V.int IntKind.i64 mn]] = some (V.bool false) :=
  byP [Hint.br 11 false, Hint.br 15 false, Hint.br 20 false, Hint.br 26 false, Hint.br 31 true] ((decide ((↑xs.length : Int) < 1) = false) ∧ (decide (64 < (↑xs.length : Int)) = false) ∧ (decide (fr < 0) = false) ∧ (decide ((↑xs.length : Int) ≤ fr) = false) ∧ (decide (mn < 0) = true) ∧ True) (by kernel_rfl) ⟨c0, c1, c2, c3, c4, trivial⟩
theorem p48b_5 (n : Option Bool) (c : Bool) (xs : List V) (fr : Int) (mn : Int) (v : Int) (k : Nat)
    (c0 : decide ((↑xs.length : Int) < 1) = false)
    (c1 : decide (64 < (↑xs.length : Int)) = false)
    (c2 : decide (fr < 0) = false)
    (c3 : decide ((↑xs.length : Int) ≤ fr) = false)
    (c4 : decide (mn < 0) = false)
    (c5 : decide ((↑xs.length : Int) < mn) = true) :
    callP (evalFn Try.prog Try.cfg (k + 1)) 48 [V.agg [V.sl n c 1 xs, V.int IntKind.i64 fr, V.int IntKind.i64 mn]] = some (V.bool false) :=
  byP [Hint.br 11 false, Hint.br 15 false, Hint.br 20 false, Hint.br 26 false, Hint.br 31 false, Hint.br 36 true] ((decide ((↑xs.length : Int) < 1) = false) ∧ (decide (64 < (↑xs.length : Int)) = false) ∧ (decide (fr < 0) = false) ∧ (decide ((↑xs.length : Int) ≤ fr) = false) ∧ (decide (mn < 0) = false) ∧ (decide ((↑xs.length : Int) < mn) = true) ∧ True) (by kernel_rfl) ⟨c0, c1, c2, c3, c4, c5, trivial⟩
theorem p48b_6 (n : Option Bool) (c : Bool) (xs : List V) (fr : Int) (mn : Int) (v : Int) (k : Nat)
    (c0 : decide ((↑xs.length : Int) < 1) = false)
    (c1 : decide (64 < (↑xs.length : Int)) = false)
    (c2 : decide (fr < 0) = false)
    (c3 : decide ((↑xs.length : Int) ≤ fr) = false)
    (c4 : decide (mn < 0) = false)
    (c5 : decide ((↑xs.length : Int) < mn) = false)
    (c6 : LoopsN Try.prog Try.cfg k 0 Try.f48 (Try.cfg.fc 48) 0 [0, 1, 2, 3, 36, 38, 39, 40] k { tm := [(0, V.agg [V.sl n c 1 xs, V.int IntKind.i64 fr, V.int IntKind.i64 mn]), (1, V.ptr 0 0), (2, V.bool false), (3, V.int IntKind.i64 (↑xs.length : Int)), (36, V.bool false), (38, V.sl n c 1 xs), (39, V.int IntKind.i64 (↑xs.length : Int)), (40, V.int IntKind.i64 0)], hp := [(0, Ob.var [V.sl n c 1 xs, V.int IntKind.i64 fr, V.int IntKind.i64 mn])], nx := 1 } (Exit.exit 0, { tm := [(0, V.agg [V.sl n c 1 xs, V.int IntKind.i64 fr, V.int IntKind.i64 mn]), (1, V.ptr 0 0), (2, V.bool false), (3, V.int IntKind.i64 (↑xs.length : Int)), (36, V.bool false), (38, V.sl n c 1 xs), (39, V.int IntKind.i64 (↑xs.length : Int)), (40, V.int IntKind.i64 v), (41, V.bool false)], hp := [(0, Ob.var [V.sl n c 1 xs, V.int IntKind.i64 fr, V.int IntKind.i64 mn])], nx := 5 })) :
    callP (evalFn Try.prog Try.cfg (k + 1)) 48 [V.agg [V.sl n c 1 xs, V.int IntKind.i64 fr, V.int IntKind.i64 mn]] = some (V.bool true) :=
  byP [Hint.br 11 false, Hint.br 15 false, Hint.br 20 false, Hint.br 26 false, Hint.br 31 false, Hint.br 36 false, Hint.loop (Exit.exit 0, { tm := [(0, V.agg [V.sl n c 1 xs, V.int IntKind.i64 fr, V.int IntKind.i64 mn]), (1, V.ptr 0 0), (2, V.bool false), (3, V.int IntKind.i64 (↑xs.length : Int)), (36, V.bool false), (38, V.sl n c 1 xs), (39, V.int IntKind.i64 (↑xs.length : Int)), (40, V.int IntKind.i64 v), (41, V.bool false)], hp := [(0, Ob.var [V.sl n c 1 xs, V.int IntKind.i64 fr, V.int IntKind.i64 mn])], nx := 5 })] ((decide ((↑xs.length : Int) < 1) = false) ∧ (decide (64 < (↑xs.length : Int)) = false) ∧ (decide (fr < 0) = false) ∧ (decide ((↑xs.length : Int) ≤ fr) = false) ∧ (decide (mn < 0) = false) ∧ (decide ((↑xs.length : Int) < mn) = false) ∧ (LoopsN Try.prog Try.cfg k 0 Try.f48 (Try.cfg.fc 48) 0 [0, 1, 2, 3, 36, 38, 39, 40] k { tm := [(0, V.agg [V.sl n c 1 xs, V.int IntKind.i64 fr, V.int IntKind.i64 mn]), (1, V.ptr 0 0), (2, V.bool false), (3, V.int IntKind.i64 (↑xs.length : Int)), (36, V.bool false), (38, V.sl n c 1 xs), (39, V.int IntKind.i64 (↑xs.length : Int)), (40, V.int IntKind.i64 0)], hp := [(0, Ob.var [V.sl n c 1 xs, V.int IntKind.i64 fr, V.int IntKind.i64 mn])], nx := 1 } (Exit.exit 0, { tm := [(0, V.agg [V.sl n c 1 xs, V.int IntKind.i64 fr, V.int IntKind.i64 mn]), (1, V.ptr 0 0), (2, V.bool false), (3, V.int IntKind.i64 (↑xs.length : Int)), (36, V.bool false), (38, V.sl n c 1 xs), (39, V.int IntKind.i64 (↑xs.length : Int)), (40, V.int IntKind.i64 v), (41, V.bool false)], hp := [(0, Ob.var [V.sl n c 1 xs, V.int IntKind.i64 fr, V.int IntKind.i64 mn])], nx := 5 })) ∧ True) (by kernel_rfl) ⟨c0, c1, c2, c3, c4, c5, c6, trivial⟩
theorem l55_b_0 (n : Option Bool) (m : Option Bool) (c : Bool) (d : Bool) (xs : List V) (ys : List V) (v0 : Int) (t_00 : List UInt8) (u_10 : List UInt8) (K : Nat)
    (c0 : decide (v0 < (↑xs.length : Int)) = true)
    (c1 : IdxP xs v0 1 1 (V.str t_00))
    (c2 : IdxP ys v0 1 1 (V.str u_10))
    (c3 : (!decide (t_00 = u_10)) = true) :
    evalCode Try.prog Try.cfg (evalFn Try.prog Try.cfg K) 0 (Try.cfg.fc 55) K (loopBody Try.f55 0) { tm := [(0, V.sl n c 1 xs), (1, V.sl m d 1 ys), (4, V.bool false), (10, V.bool false), (12, V.int IntKind.i64 (↑xs.length : Int)), (13, V.int IntKind.i64 v0)], hp := [], nx := 0 } = some (Exit.ret, { tm := [(0, V.sl n c 1 xs), (1, V.sl m d 1 ys), (4, V.bool false), (5, V.int IntKind.i64 v0), (10, V.bool false), (12, V.int IntKind.i64 (↑xs.length : Int)), (13, V.int IntKind.i64 v0), (14, V.bool true), (24, V.bool true)], hp := [], nx := 52 }) :=
  byC [Hint.br 14 true, Hint.op 18 ((V.str t_00).cpt 0) [], Hint.op 22 ((V.str u_10).cpt 0) [], Hint.br 24 true] ((decide (v0 < (↑xs.length : Int)) = true) ∧ (IdxP xs v0 1 1 (V.str t_00)) ∧ (IdxP ys v0 1 1 (V.str u_10)) ∧ ((!decide (t_00 = u_10)) = true) ∧ True) (by kernel_rfl) ⟨c0, c1, c2, c3, trivial⟩
theorem l55_b_1 (n : Option Bool) (m : Option Bool) (c : Bool) (d : Bool) (xs : List V) (ys : List V) (v0 : Int) (t_00 : List UInt8) (u_10 : List UInt8) (K : Nat)
    (c0 : decide (v0 < (↑xs.length : Int)) = true)
    (c1 : IdxP xs v0 1 1 (V.str t_00))
    (c2 : IdxP ys v0 1 1 (V.str u_10))
    (c3 : (!decide (t_00 = u_10)) = false) :
    evalCode Try.prog Try.cfg (evalFn Try.prog Try.cfg K) 0 (Try.cfg.fc 55) K (loopBody Try.f55 0) { tm := [(0, V.sl n c 1 xs), (1, V.sl m d 1 ys), (4, V.bool false), (10, V.bool false), (12, V.int IntKind.i64 (↑xs.length : Int)), (13, V.int IntKind.i64 v0)], hp := [], nx := 0 } = some (Exit.normal, { tm := [(0, V.sl n c 1 xs), (1, V.sl m d 1 ys), (4, V.bool false), (5, V.int IntKind.i64 v0), (10, V.bool false), (12, V.int IntKind.i64 (↑xs.length : Int)), (13, V.int IntKind.i64 (IntKind.i64.wrap (v0 + 1))), (14, V.bool true), (24, V.bool false)], hp := [], nx := 56 }) :=
  byC [Hint.br 14 true, Hint.op 18 ((V.str t_00).cpt 0) [], Hint.op 22 ((V.str u_10).cpt 0) [], Hint.br 24 false] ((decide (v0 < (↑xs.length : Int)) = true) ∧ (IdxP xs v0 1 1 (V.str t_00)) ∧ (IdxP ys v0 1 1 (V.str u_10)) ∧ ((!decide (t_00 = u_10)) = false) ∧ True) (by kernel_rfl) ⟨c0, c1, c2, c3, trivial⟩
theorem l55_b_1h (n : Option Bool) (m : Option Bool) (c : Bool) (d : Bool) (xs : List V) (ys : List V) (v0 : Int) (t_00 : List UInt8) (u_10 : List UInt8) : head 0 [0, 1, 4, 10, 12, 13] (Try.cfg.fc 55).acc { tm := [(0, V.sl n c 1 xs), (1, V.sl m d 1 ys), (4, V.bool false), (5, V.int IntKind.i64 v0), (10, V.bool false), (12, V.int IntKind.i64 (↑xs.length : Int)), (13, V.int IntKind.i64 (IntKind.i64.wrap (v0 + 1))), (14, V.bool true), (24, V.bool false)], hp := [], nx := 56 } = { tm := [(0, V.sl n c 1 xs), (1, V.sl m d 1 ys), (4, V.bool false), (10, V.bool false), (12, V.int IntKind.i64 (↑xs.length : Int)), (13, V.int IntKind.i64 (IntKind.i64.wrap (v0 + 1)))], hp := [], nx := 0 } := by kernel_rfl
theorem l55_b_2 (n : Option Bool) (m : Option Bool) (c : Bool) (d : Bool) (xs : List V) (ys : List V) (v0 : Int) (K : Nat)
    (c0 : decide (v0 < (↑xs.length : Int)) = false) :
    evalCode Try.prog Try.cfg (evalFn Try.prog Try.cfg K) 0 (Try.cfg.fc 55) K (loopBody Try.f55 0) { tm := [(0, V.sl n c 1 xs), (1, V.sl m d 1 ys), (4, V.bool false), (10, V.bool false), (12, V.int IntKind.i64 (↑xs.length : Int)), (13, V.int IntKind.i64 v0)], hp := [], nx := 0 } = some (Exit.exit 0, { tm := [(0, V.sl n c 1 xs), (1, V.sl m d 1 ys), (4, V.bool false), (10, V.bool false), (12, V.int IntKind.i64 (↑xs.length : Int)), (13, V.int IntKind.i64 v0), (14, V.bool false)], hp := [], nx := 4 }) :=
  byC [Hint.br 14 false] ((decide (v0 < (↑xs.length : Int)) = false) ∧ True) (by kernel_rfl) ⟨c0, trivial⟩
inductive l55_R where
  | e0 (v0 : Int)
  | e2 (v0 : Int)
def l55_end (n : Option Bool) (m : Option Bool) (c : Bool) (d : Bool) (xs : List V) (ys : List V) : l55_R → Exit × St
  | .e0 v0 => (Exit.ret, { tm := [(0, V.sl n c 1 xs), (1, V.sl m d 1 ys), (4, V.bool false), (5, V.int IntKind.i64 v0), (10, V.bool false), (12, V.int IntKind.i64 (↑xs.length : Int)), (13, V.int IntKind.i64 v0), (14, V.bool true), (24, V.bool true)], hp := [], nx := 52 })
  | .e2 v0 => (Exit.exit 0, { tm := [(0, V.sl n c 1 xs), (1, V.sl m d 1 ys), (4, V.bool false), (10, V.bool false), (12, V.int IntKind.i64 (↑xs.length : Int)), (13, V.int IntKind.i64 v0), (14, V.bool false)], hp := [], nx := 4 })
def l55 (n : Option Bool) (m : Option Bool) (c : Bool) (d : Bool) (xs : List V) (ys : List V) : Nat → Int → Option l55_R
  | 0, _ => none
  | f + 1, v0 => (bif decide (v0 < (↑xs.length : Int)) then (match at? xs (v0) with | some (V.str t_00) => (match at? ys (v0) with | some (V.str u_10) => (bif !decide (t_00 = u_10) then some (l55_R.e0 v0) else l55 n m c d xs ys f (IntKind.i64.wrap (v0 + 1))) | _ => none) | _ => none) else some (l55_R.e2 v0))
theorem l55_ok (n : Option Bool) (m : Option Bool) (c : Bool) (d : Bool) (xs : List V) (ys : List V) (K : Nat) : ∀ (f : Nat) (v0 : Int) (r : l55_R), l55 n m c d xs ys f v0 = some r →
    LoopsN Try.prog Try.cfg K 0 Try.f55 (Try.cfg.fc 55) 0 [0, 1, 4, 10, 12, 13] f { tm := [(0, V.sl n c 1 xs), (1, V.sl m d 1 ys), (4, V.bool false), (10, V.bool false), (12, V.int IntKind.i64 (↑xs.length : Int)), (13, V.int IntKind.i64 v0)], hp := [], nx := 0 } (l55_end n m c d xs ys r) := by
  intro f
  induction f with
  | zero => intro v0 r h; cases h
  | succ f ih =>
    intro v0 r h
    rw [l55] at h
    cases d0 : (decide (v0 < (↑xs.length : Int)))
    · rw [d0, cond_false] at h
      cases h
      exact LoopsN.done (l55_b_2 n m c d xs ys v0 K d0) (fun h => by cases h)
    · rw [d0, cond_true] at h
      split at h
      · rename_i t_00 a1
        split at h
        · rename_i u_10 a2
          cases d11000 : (!decide (t_00 = u_10))
          · rw [d11000, cond_false] at h
            exact LoopsN.next (l55_b_1 n m c d xs ys v0 t_00 u_10 K d0 (IdxP.of_at ‹_›) (IdxP.of_at ‹_›) d11000) (l55_b_1h n m c d xs ys v0 t_00 u_10) (ih _ _ h)
          · rw [d11000, cond_true] at h
            cases h
            exact LoopsN.done (l55_b_0 n m c d xs ys v0 t_00 u_10 K d0 (IdxP.of_at ‹_›) (IdxP.of_at ‹_›) d11000) (fun h => by cases h)
        · cases h
      · cases h
theorem p55a_0 (n : Option Bool) (m : Option Bool) (c : Bool) (d : Bool) (xs : List V) (ys : List V) (v : Int) (k : Nat)
    (c0 : (!decide ((↑xs.length : Int) = (↑ys.length : Int))) = true) :
    callP (evalFn Try.prog Try.cfg (k + 1)) 55 [V.sl n c 1 xs, V.sl m d 1 ys] = some (V.bool false) :=
  byP [Hint.br 10 true] (((!decide ((↑xs.length : Int) = (↑ys.length : Int))) = true) ∧ True) (by kernel_rfl) ⟨c0, trivial⟩
theorem p55a_1 (n : Option Bool) (m : Option Bool) (c : Bool) (d : Bool) (xs : List V) (ys : List V) (v : Int) (k : Nat)
    (c0 : (!decide ((↑xs.length : Int) = (↑ys.length : Int))) = false)
    (c1 : LoopsN Try.prog Try.cfg k 0 Try.f55 (Try.cfg.fc 55) 0 [0, 1, 4, 10, 12, 13] k { tm := [(0, V.sl n c 1 xs), (1, V.sl m d 1 ys), (4, V.bool false), (10, V.bool false), (12, V.int IntKind.i64 (↑xs.length : Int)), (13, V.int IntKind.i64 0)], hp := [], nx := 0 } (Exit.ret, { tm := [(0, V.sl n c 1 xs), (1, V.sl m d 1 ys), (4, V.bool false), (5, V.int IntKind.i64 v), (10, V.bool false), (12, V.int IntKind.i64 (↑xs.length : Int)), (13, V.int IntKind.i64 v), (14, V.bool true), (24, V.bool true)], hp := [], nx := 52 })) :
    callP (evalFn Try.prog Try.cfg (k + 1)) 55 [V.sl n c 1 xs, V.sl m d 1 ys] = some (V.bool false) :=
  byP [Hint.br 10 false, Hint.loop (Exit.ret, { tm := [(0, V.sl n c 1 xs), (1, V.sl m d 1 ys), (4, V.bool false), (5, V.int IntKind.i64 v), (10, V.bool false), (12, V.int IntKind.i64 (↑xs.length : Int)), (13, V.int IntKind.i64 v), (14, V.bool true), (24, V.bool true)], hp := [], nx := 52 })] (((!decide ((↑xs.length : Int) = (↑ys.length : Int))) = false) ∧ (LoopsN Try.prog Try.cfg k 0 Try.f55 (Try.cfg.fc 55) 0 [0, 1, 4, 10, 12, 13] k { tm := [(0, V.sl n c 1 xs), (1, V.sl m d 1 ys), (4, V.bool false), (10, V.bool false), (12, V.int IntKind.i64 (↑xs.length : Int)), (13, V.int IntKind.i64 0)], hp := [], nx := 0 } (Exit.ret, { tm := [(0, V.sl n c 1 xs), (1, V.sl m d 1 ys), (4, V.bool false), (5, V.int IntKind.i64 v), (10, V.bool false), (12, V.int IntKind.i64 (↑xs.length : Int)), (13, V.int IntKind.i64 v), (14, V.bool true), (24, V.bool true)], hp := [], nx := 52 })) ∧ True) (by kernel_rfl) ⟨c0, c1, trivial⟩
theorem p55b_0 (n : Option Bool) (m : Option Bool) (c : Bool) (d : Bool) (xs : List V) (ys : List V) (v : Int) (k : Nat)
    (c0 : (!decide ((↑xs.length : Int) = (↑ys.length : Int))) = true) :
    callP (evalFn Try.prog Try.cfg (k + 1)) 55 [V.sl n c 1 xs, V.sl m d 1 ys] = some (V.bool false) :=
  byP [Hint.br 10 true] (((!decide ((↑xs.length : Int) = (↑ys.length : Int))) = true) ∧ True) (by kernel_rfl) ⟨c0, trivial⟩
theorem p55b_1 (n : Option Bool) (m : Option Bool) (c : Bool) (d : Bool) (xs : List V) (ys : List V) (v : Int) (k : Nat)
    (c0 : (!decide ((↑xs.length : Int) = (↑ys.length : Int))) = false)
    (c1 : LoopsN Try.prog Try.cfg k 0 Try.f55 (Try.cfg.fc 55) 0 [0, 1, 4, 10, 12, 13] k { tm := [(0, V.sl n c 1 xs), (1, V.sl m d 1 ys), (4, V.bool false), (10, V.bool false), (12, V.int IntKind.i64 (↑xs.length : Int)), (13, V.int IntKind.i64 0)], hp := [], nx := 0 } (Exit.exit 0, { tm := [(0, V.sl n c 1 xs), (1, V.sl m d 1 ys), (4, V.bool false), (10, V.bool false), (12, V.int IntKind.i64 (↑xs.length : Int)), (13, V.int IntKind.i64 v), (14, V.bool false)], hp := [], nx := 4 })) :
    callP (evalFn Try.prog Try.cfg (k + 1)) 55 [V.sl n c 1 xs, V.sl m d 1 ys] = some (V.bool true) :=
  byP [Hint.br 10 false, Hint.loop (Exit.exit 0, { tm := [(0, V.sl n c 1 xs), (1, V.sl m d 1 ys), (4, V.bool false), (10, V.bool false), (12, V.int IntKind.i64 (↑xs.length : Int)), (13, V.int IntKind.i64 v), (14, V.bool false)], hp := [], nx := 4 })] (((!decide ((↑xs.length : Int) = (↑ys.length : Int))) = false) ∧ (LoopsN Try.prog Try.cfg k 0 Try.f55 (Try.cfg.fc 55) 0 [0, 1, 4, 10, 12, 13] k { tm := [(0, V.sl n c 1 xs), (1, V.sl m d 1 ys), (4, V.bool false), (10, V.bool false), (12, V.int IntKind.i64 (↑xs.length : Int)), (13, V.int IntKind.i64 0)], hp := [], nx := 0 } (Exit.exit 0, { tm := [(0, V.sl n c 1 xs), (1, V.sl m d 1 ys), (4, V.bool false), (10, V.bool false), (12, V.int IntKind.i64 (↑xs.length : Int)), (13, V.int IntKind.i64 v), (14, V.bool false)], hp := [], nx := 4 })) ∧ True) (by kernel_rfl) ⟨c0, c1, trivial⟩
theorem p49_0 (n : Option Bool) (m : Option Bool) (c : Bool) (d : Bool) (xs : List V) (ys : List V) (fr : Int) (mn : Int) (gr : Int) (gn : Int) (k : Nat)
    (c0 : callP (evalFn Try.prog Try.cfg k) 66 [V.sl n c 1 xs, V.sl m d 1 ys] = some (V.bool (eqL xs ys)))
    (c1 : eqL xs ys = true)
    (c2 : decide (fr = gr) = true) :
    callP (evalFn Try.prog Try.cfg (k + 1)) 49 [V.agg [V.sl n c 1 xs, V.int IntKind.i64 fr, V.int IntKind.i64 mn], V.agg [V.sl m d 1 ys, V.int IntKind.i64 gr, V.int IntKind.i64 gn]] = some (V.bool (decide (mn = gn))) :=
  byP [Hint.call 9 (V.bool (eqL xs ys)), Hint.br 10 true, Hint.br 17 true] ((callP (evalFn Try.prog Try.cfg k) 66 [V.sl n c 1 xs, V.sl m d 1 ys] = some (V.bool (eqL xs ys))) ∧ (eqL xs ys = true) ∧ (decide (fr = gr) = true) ∧ True) (by kernel_rfl) ⟨c0, c1, c2, trivial⟩
theorem p49_1 (n : Option Bool) (m : Option Bool) (c : Bool) (d : Bool) (xs : List V) (ys : List V) (fr : Int) (mn : Int) (gr : Int) (gn : Int) (k : Nat)
    (c0 : callP (evalFn Try.prog Try.cfg k) 66 [V.sl n c 1 xs, V.sl m d 1 ys] = some (V.bool (eqL xs ys)))
    (c1 : eqL xs ys = true)
    (c2 : decide (fr = gr) = false) :
    callP (evalFn Try.prog Try.cfg (k + 1)) 49 [V.agg [V.sl n c 1 xs, V.int IntKind.i64 fr, V.int IntKind.i64 mn], V.agg [V.sl m d 1 ys, V.int IntKind.i64 gr, V.int IntKind.i64 gn]] = some (V.bool false) :=
  byP [Hint.call 9 (V.bool (eqL xs ys)), Hint.br 10 true, Hint.br 17 false] ((callP (evalFn Try.prog Try.cfg k) 66 [V.sl n c 1 xs, V.sl m d 1 ys] = some (V.bool (eqL xs ys))) ∧ (eqL xs ys = true) ∧ (decide (fr = gr) = false) ∧ True) (by kernel_rfl) ⟨c0, c1, c2, trivial⟩
theorem p49_2 (n : Option Bool) (m : Option Bool) (c : Bool) (d : Bool) (xs : List V) (ys : List V) (fr : Int) (mn : Int) (gr : Int) (gn : Int) (k : Nat)
    (c0 : callP (evalFn Try.prog Try.cfg k) 66 [V.sl n c 1 xs, V.sl m d 1 ys] = some (V.bool (eqL xs ys)))
    (c1 : eqL xs ys = false) :
    callP (evalFn Try.prog Try.cfg (k + 1)) 49 [V.agg [V.sl n c 1 xs, V.int IntKind.i64 fr, V.int IntKind.i64 mn], V.agg [V.sl m d 1 ys, V.int IntKind.i64 gr, V.int IntKind.i64 gn]] = some (V.bool false) :=
  byP [Hint.call 9 (V.bool (eqL xs ys)), Hint.br 10 false] ((callP (evalFn Try.prog Try.cfg k) 66 [V.sl n c 1 xs, V.sl m d 1 ys] = some (V.bool (eqL xs ys))) ∧ (eqL xs ys = false) ∧ True) (by kernel_rfl) ⟨c0, c1, trivial⟩
theorem p50_0 (n : Option Bool) (m : Option Bool) (c : Bool) (d : Bool) (xs : List V) (ys : List V) (fr : Int) (mn : Int) (gr : Int) (gn : Int) (k : Nat)
    (c0 : callP (evalFn Try.prog Try.cfg k) 55 [V.sl n c 1 xs, V.sl m d 1 ys] = some (V.bool (eqL xs ys)))
    (c1 : eqL xs ys = true)
    (c2 : decide (fr = gr) = true) :
    callP (evalFn Try.prog Try.cfg (k + 1)) 50 [V.agg [V.sl n c 1 xs, V.int IntKind.i64 fr, V.int IntKind.i64 mn], V.agg [V.sl m d 1 ys, V.int IntKind.i64 gr, V.int IntKind.i64 gn]] = some (V.bool (decide (mn = gn))) :=
  byP [Hint.call 9 (V.bool (eqL xs ys)), Hint.br 10 true, Hint.br 17 true] ((callP (evalFn Try.prog Try.cfg k) 55 [V.sl n c 1 xs, V.sl m d 1 ys] = some (V.bool (eqL xs ys))) ∧ (eqL xs ys = true) ∧ (decide (fr = gr) = true) ∧ True) (by kernel_rfl) ⟨c0, c1, c2, trivial⟩
theorem p50_1 (n : Option Bool) (m : Option Bool) (c : Bool) (d : Bool) (xs : List V) (ys : List V) (fr : Int) (mn : Int) (gr : Int) (gn : Int) (k : Nat)
    (c0 : callP (evalFn Try.prog Try.cfg k) 55 [V.sl n c 1 xs, V.sl m d 1 ys] = some (V.bool (eqL xs ys)))
    (c1 : eqL xs ys = true)
    (c2 : decide (fr = gr) = false) :
    callP (evalFn Try.prog Try.cfg (k + 1)) 50 [V.agg [V.sl n c 1 xs, V.int IntKind.i64 fr, V.int IntKind.i64 mn], V.agg [V.sl m d 1 ys, V.int IntKind.i64 gr, V.int IntKind.i64 gn]] = some (V.bool false) :=
  byP [Hint.call 9 (V.bool (eqL xs ys)), Hint.br 10 true, Hint.br 17 false] ((callP (evalFn Try.prog Try.cfg k) 55 [V.sl n c 1 xs, V.sl m d 1 ys] = some (V.bool (eqL xs ys))) ∧ (eqL xs ys = true) ∧ (decide (fr = gr) = false) ∧ True) (by kernel_rfl) ⟨c0, c1, c2, trivial⟩
theorem p50_2 (n : Option Bool) (m : Option Bool) (c : Bool) (d : Bool) (xs : List V) (ys : List V) (fr : Int) (mn : Int) (gr : Int) (gn : Int) (k : Nat)
    (c0 : callP (evalFn Try.prog Try.cfg k) 55 [V.sl n c 1 xs, V.sl m d 1 ys] = some (V.bool (eqL xs ys)))
    (c1 : eqL xs ys = false) :
    callP (evalFn Try.prog Try.cfg (k + 1)) 50 [V.agg [V.sl n c 1 xs, V.int IntKind.i64 fr, V.int IntKind.i64 mn], V.agg [V.sl m d 1 ys, V.int IntKind.i64 gr, V.int IntKind.i64 gn]] = some (V.bool false) :=
  byP [Hint.call 9 (V.bool (eqL xs ys)), Hint.br 10 false] ((callP (evalFn Try.prog Try.cfg k) 55 [V.sl n c 1 xs, V.sl m d 1 ys] = some (V.bool (eqL xs ys))) ∧ (eqL xs ys = false) ∧ True) (by kernel_rfl) ⟨c0, c1, trivial⟩
theorem p47_0 (c : Bool) (xs : List V) (rs : List V) (fr : Int) (mn : Int) (k : Nat)
    (c0 : decide ((↑xs.length : Int) < 1) = true) :
    callP (evalFn Try.prog Try.cfg (k + 1)) 47 [V.agg [V.sl (some false) c 1 xs, V.int IntKind.i64 fr, V.int IntKind.i64 mn]] = some (V.bool false) :=
  byP [Hint.br 11 true] ((decide ((↑xs.length : Int) < 1) = true) ∧ True) (by kernel_rfl) ⟨c0, trivial⟩
theorem p47_1 (c : Bool) (xs : List V) (rs : List V) (fr : Int) (mn : Int) (k : Nat)
    (c0 : decide ((↑xs.length : Int) < 1) = false)
    (c1 : decide (64 < (↑xs.length : Int)) = true) :
    callP (evalFn Try.prog Try.cfg (k + 1)) 47 [V.agg [V.sl (some false) c 1 xs, V.int IntKind.i64 fr, V.int IntKind.i64 mn]] = some (V.bool false) :=
  byP [Hint.br 11 false, Hint.br 15 true] ((decide ((↑xs.length : Int) < 1) = false) ∧ (decide (64 < (↑xs.length : Int)) = true) ∧ True) (by kernel_rfl) ⟨c0, c1, trivial⟩
theorem p47_2 (c : Bool) (xs : List V) (rs : List V) (fr : Int) (mn : Int) (k : Nat)
    (c0 : decide ((↑xs.length : Int) < 1) = false)
    (c1 : decide (64 < (↑xs.length : Int)) = false)
    (c2 : decide (fr < 0) = true) :
    callP (evalFn Try.prog Try.cfg (k + 1)) 47 [V.agg [V.sl (some false) c 1 xs, V.int IntKind.i64 fr, V.int IntKind.i64 mn]] = some (V.bool false) :=
  byP [Hint.br 11 false, Hint.br 15 false, Hint.br 20 true] ((decide ((↑xs.length : Int) < 1) = false) ∧ (decide (64 < (↑xs.length : Int)) = false) ∧ (decide (fr < 0) = true) ∧ True) (by kernel_rfl) ⟨c0, c1, c2, trivial⟩
theorem p47_3 (c : Bool) (xs : List V) (rs : List V) (fr : Int) (mn : Int) (k : Nat)
    (c0 : decide ((↑xs.length : Int) < 1) = false)
    (c1 : decide (64 < (↑xs.length : Int)) = false)
    (c2 : decide (fr < 0) = false)
    (c3 : decide ((↑xs.length : Int) ≤ fr) = true) :
    callP (evalFn Try.prog Try.cfg (k + 1)) 47 [V.agg [V.sl (some false) c 1 xs, V.int IntKind.i64 fr, V.int IntKind.i64 mn]] = some (V.bool false) :=
  byP [Hint.br 11 false, Hint.br 15 false, Hint.br 20 false, Hint.br 26 true] ((decide ((↑xs.length : Int) < 1) = false) ∧ (decide (64 < (↑xs.length : Int)) = false) ∧ (decide (fr < 0) = false) ∧ (decide ((↑xs.length : Int) ≤ fr) = true) ∧ True) (by kernel_rfl) ⟨c0, c1, c2, c3, trivial⟩
theorem p47_4 (c : Bool) (xs : List V) (rs : List V) (fr : Int) (mn : Int) (k : Nat)
    (c0 : decide ((↑xs.length : Int) < 1) = false)
    (c1 : decide (64 < (↑xs.length : Int)) = false)
    (c2 : decide (fr < 0) = false)
    (c3 : decide ((↑xs.length : Int) ≤ fr) = false)
    (c4 : decide (mn < 0) = true) :
    callP (evalFn Try.prog Try.cfg (k + 1)) 47 [V.agg [V.sl (some false) c 1 xs, V.int IntKind.i64 fr, V.int IntKind.i64 mn]] = some (V.bool false) :=
  byP [Hint.br 11 false, Hint.br 15 false, Hint.br 20 false, Hint.br 26 false, Hint.br 31 true] ((decide ((↑xs.length : Int) < 1) = false) ∧ (decide (64 < (↑xs.length : Int)) = false) ∧ (decide (fr < 0) = false) ∧ (decide ((↑xs.length : Int) ≤ fr) = false) ∧ (decide (mn < 0) = true) ∧ True) (by kernel_rfl) ⟨c0, c1, c2, c3, c4, trivial⟩
theorem p47_5 (c : Bool) (xs : List V) (rs : List V) (fr : Int) (mn : Int) (k : Nat)
    (c0 : decide ((↑xs.length : Int) < 1) = false)
    (c1 : decide (64 < (↑xs.length : Int)) = false)
    (c2 : decide (fr < 0) = false)
    (c3 : decide ((↑xs.length : Int) ≤ fr) = false)
    (c4 : decide (mn < 0) = false)
    (c5 : decide ((↑xs.length : Int) < mn) = true) :
    callP (evalFn Try.prog Try.cfg (k + 1)) 47 [V.agg [V.sl (some false) c 1 xs, V.int IntKind.i64 fr, V.int IntKind.i64 mn]] = some (V.bool false) :=
  byP [Hint.br 11 false, Hint.br 15 false, Hint.br 20 false, Hint.br 26 false, Hint.br 31 false, Hint.br 36 true] ((decide ((↑xs.length : Int) < 1) = false) ∧ (decide (64 < (↑xs.length : Int)) = false) ∧ (decide (fr < 0) = false) ∧ (decide ((↑xs.length : Int) ≤ fr) = false) ∧ (decide (mn < 0) = false) ∧ (decide ((↑xs.length : Int) < mn) = true) ∧ True) (by kernel_rfl) ⟨c0, c1, c2, c3, c4, c5, trivial⟩
theorem p47_6 (c : Bool) (xs : List V) (rs : List V) (fr : Int) (mn : Int) (k : Nat)
    (c0 : decide ((↑xs.length : Int) < 1) = false)
    (c1 : decide (64 < (↑xs.length : Int)) = false)
    (c2 : decide (fr < 0) = false)
    (c3 : decide ((↑xs.length : Int) ≤ fr) = false)
    (c4 : decide (mn < 0) = false)
    (c5 : decide ((↑xs.length : Int) < mn) = false)
    (c6 : evalFn Try.prog Try.cfg k 68 [V.sl (some false) c 1 xs] [(0, Ob.var [V.sl (some false) c 1 xs, V.int IntKind.i64 fr, V.int IntKind.i64 mn])] 144 = some (V.ref 164, [(0, Ob.var [V.sl (some false) c 1 xs, V.int IntKind.i64 fr, V.int IntKind.i64 mn]), (156, Ob.dead), (164, Ob.row false 1 xs)], 172))
    (c7 : evalFn Try.prog Try.cfg k 79 [V.agg [V.sl (some false) c 1 xs, V.int IntKind.i64 fr, V.int IntKind.i64 mn]] [(0, Ob.var [V.sl (some false) c 1 xs, V.int IntKind.i64 fr, V.int IntKind.i64 mn]), (156, Ob.dead), (164, Ob.row false 1 xs), (172, Ob.var [V.ref 164])] 184 = some (V.fn (Fn.func 87) [] [V.ptr 184 0], [(0, Ob.var [V.sl (some false) c 1 xs, V.int IntKind.i64 fr, V.int IntKind.i64 mn]), (156, Ob.dead), (164, Ob.row false 1 xs), (172, Ob.var [V.ref 164]), (184, Ob.var [V.sl (some false) c 1 xs, V.int IntKind.i64 fr, V.int IntKind.i64 mn])], 200))
    (c8 : evalFn Try.prog Try.cfg k 87 [V.yld 200, V.ptr 184 0] [(0, Ob.var [V.sl (some false) c 1 xs, V.int IntKind.i64 fr, V.int IntKind.i64 mn]), (156, Ob.dead), (164, Ob.row false 1 xs), (172, Ob.var [V.ref 164]), (184, Ob.var [V.sl (some false) c 1 xs, V.int IntKind.i64 fr, V.int IntKind.i64 mn]), (200, Ob.loop LS.ready (Try.cfg.fc 47) (rangeCode Try.f47 0) [(0, V.agg [V.sl (some false) c 1 xs, V.int IntKind.i64 fr, V.int IntKind.i64 mn]), (1, V.ptr 0 0), (2, V.bool false), (3, V.int IntKind.i64 (↑xs.length : Int)), (4, V.ptr 172 0), (36, V.bool false), (41, V.fn (Fn.func 87) [] [V.ptr 184 0])])] 201 = some (V.tup [], [(0, Ob.var [V.sl (some false) c 1 xs, V.int IntKind.i64 fr, V.int IntKind.i64 mn]), (156, Ob.dead), (172, Ob.var [V.ref 201]), (184, Ob.var [V.sl (some false) c 1 xs, V.int IntKind.i64 fr, V.int IntKind.i64 mn]), (200, Ob.loop LS.ready (Try.cfg.fc 47) (rangeCode Try.f47 0) [(0, V.agg [V.sl (some false) c 1 xs, V.int IntKind.i64 fr, V.int IntKind.i64 mn]), (1, V.ptr 0 0), (2, V.bool false), (3, V.int IntKind.i64 (↑xs.length : Int)), (4, V.ptr 172 0), (36, V.bool false), (41, V.fn (Fn.func 87) [] [V.ptr 184 0])]), (201, Ob.row false 1 rs)], 206))
    (c9 : callP (evalFn Try.prog Try.cfg k) 64 [V.sl none false 1 rs, V.fn (Fn.func 80) [] []] = some (V.bool (rs.any fullV))) :
    callP (evalFn Try.prog Try.cfg (k + 1)) 47 [V.agg [V.sl (some false) c 1 xs, V.int IntKind.i64 fr, V.int IntKind.i64 mn]] = some (V.bool !rs.any fullV) :=
  byP [Hint.br 11 false, Hint.br 15 false, Hint.br 20 false, Hint.br 26 false, Hint.br 31 false, Hint.br 36 false, Hint.inl 39 (V.ref 164) [(0, Ob.var [V.sl (some false) c 1 xs, V.int IntKind.i64 fr, V.int IntKind.i64 mn]), (156, Ob.dead), (164, Ob.row false 1 xs)] 172, Hint.inl 41 (V.fn (Fn.func 87) [] [V.ptr 184 0]) [(0, Ob.var [V.sl (some false) c 1 xs, V.int IntKind.i64 fr, V.int IntKind.i64 mn]), (156, Ob.dead), (164, Ob.row false 1 xs), (172, Ob.var [V.ref 164]), (184, Ob.var [V.sl (some false) c 1 xs, V.int IntKind.i64 fr, V.int IntKind.i64 mn])] 200, Hint.range (V.tup []) [(0, Ob.var [V.sl (some false) c 1 xs, V.int IntKind.i64 fr, V.int IntKind.i64 mn]), (156, Ob.dead), (172, Ob.var [V.ref 201]), (184, Ob.var [V.sl (some false) c 1 xs, V.int IntKind.i64 fr, V.int IntKind.i64 mn]), (200, Ob.loop LS.ready (Try.cfg.fc 47) (rangeCode Try.f47 0) [(0, V.agg [V.sl (some false) c 1 xs, V.int IntKind.i64 fr, V.int IntKind.i64 mn]), (1, V.ptr 0 0), (2, V.bool false), (3, V.int IntKind.i64 (↑xs.length : Int)), (4, V.ptr 172 0), (36, V.bool false), (41, V.fn (Fn.func 87) [] [V.ptr 184 0])]), (201, Ob.row false 1 rs)] 206, Hint.call 47 (V.bool (rs.any fullV))] ((decide ((↑xs.length : Int) < 1) = false) ∧ (decide (64 < (↑xs.length : Int)) = false) ∧ (decide (fr < 0) = false) ∧ (decide ((↑xs.length : Int) ≤ fr) = false) ∧ (decide (mn < 0) = false) ∧ (decide ((↑xs.length : Int) < mn) = false) ∧ (evalFn Try.prog Try.cfg k 68 [V.sl (some false) c 1 xs] [(0, Ob.var [V.sl (some false) c 1 xs, V.int IntKind.i64 fr, V.int IntKind.i64 mn])] 144 = some (V.ref 164, [(0, Ob.var [V.sl (some false) c 1 xs, V.int IntKind.i64 fr, V.int IntKind.i64 mn]), (156, Ob.dead), (164, Ob.row false 1 xs)], 172)) ∧ (evalFn Try.prog Try.cfg k 79 [V.agg [V.sl (some false) c 1 xs, V.int IntKind.i64 fr, V.int IntKind.i64 mn]] [(0, Ob.var [V.sl (some false) c 1 xs, V.int IntKind.i64 fr, V.int IntKind.i64 mn]), (156, Ob.dead), (164, Ob.row false 1 xs), (172, Ob.var [V.ref 164])] 184 = some (V.fn (Fn.func 87) [] [V.ptr 184 0], [(0, Ob.var [V.sl (some false) c 1 xs, V.int IntKind.i64 fr, V.int IntKind.i64 mn]), (156, Ob.dead), (164, Ob.row false 1 xs), (172, Ob.var [V.ref 164]), (184, Ob.var [V.sl (some false) c 1 xs, V.int IntKind.i64 fr, V.int IntKind.i64 mn])], 200)) ∧ (evalFn Try.prog Try.cfg k 87 [V.yld 200, V.ptr 184 0] [(0, Ob.var [V.sl (some false) c 1 xs, V.int IntKind.i64 fr, V.int IntKind.i64 mn]), (156, Ob.dead), (164, Ob.row false 1 xs), (172, Ob.var [V.ref 164]), (184, Ob.var [V.sl (some false) c 1 xs, V.int IntKind.i64 fr, V.int IntKind.i64 mn]), (200, Ob.loop LS.ready (Try.cfg.fc 47) (rangeCode Try.f47 0) [(0, V.agg [V.sl (some false) c 1 xs, V.int IntKind.i64 fr, V.int IntKind.i64 mn]), (1, V.ptr 0 0), (2, V.bool false), (3, V.int IntKind.i64 (↑xs.length : Int)), (4, V.ptr 172 0), (36, V.bool false), (41, V.fn (Fn.func 87) [] [V.ptr 184 0])])] 201 = some (V.tup [], [(0, Ob.var [V.sl (some false) c 1 xs, V.int IntKind.i64 fr, V.int IntKind.i64 mn]), (156, Ob.dead), (172, Ob.var [V.ref 201]), (184, Ob.var [V.sl (some false) c 1 xs, V.int IntKind.i64 fr, V.int IntKind.i64 mn]), (200, Ob.loop LS.ready (Try.cfg.fc 47) (rangeCode Try.f47 0) [(0, V.agg [V.sl (some false) c 1 xs, V.int IntKind.i64 fr, V.int IntKind.i64 mn]), (1, V.ptr 0 0), (2, V.bool false), (3, V.int IntKind.i64 (↑xs.length : Int)), (4, V.ptr 172 0), (36, V.bool false), (41, V.fn (Fn.func 87) [] [V.ptr 184 0])]), (201, Ob.row false 1 rs)], 206)) ∧ (callP (evalFn Try.prog Try.cfg k) 64 [V.sl none false 1 rs, V.fn (Fn.func 80) [] []] = some (V.bool (rs.any fullV))) ∧ True) (by kernel_rfl) ⟨c0, c1, c2, c3, c4, c5, c6, c7, c8, c9, trivial⟩
theorem p64r_0 (n : Option Bool) (c : Bool) (xs : List V) (k : Nat)
    (c0 : callP (evalFn Try.prog Try.cfg k) 84 [V.sl n c 1 xs, V.fn (Fn.func 80) [] []] = some (V.int IntKind.i64 (idxV fullV xs))) :
    callP (evalFn Try.prog Try.cfg (k + 1)) 64 [V.sl n c 1 xs, V.fn (Fn.func 80) [] []] = some (V.bool (decide (0 ≤ idxV fullV xs))) :=
  byP [Hint.call 7 (V.int IntKind.i64 (idxV fullV xs))] ((callP (evalFn Try.prog Try.cfg k) 84 [V.sl n c 1 xs, V.fn (Fn.func 80) [] []] = some (V.int IntKind.i64 (idxV fullV xs))) ∧ True) (by kernel_rfl) ⟨c0, trivial⟩
theorem p47n_0 (n : Option Bool) (c : Bool) (xs : List V) (fr : Int) (mn : Int) (k : Nat)
    (c0 : decide ((↑xs.length : Int) < 1) = true) :
    callP (evalFn Try.prog Try.cfg (k + 1)) 47 [V.agg [V.sl n c 1 xs, V.int IntKind.i64 fr, V.int IntKind.i64 mn]] = some (V.bool false) :=
  byP [Hint.br 11 true] ((decide ((↑xs.length : Int) < 1) = true) ∧ True) (by kernel_rfl) ⟨c0, trivial⟩
theorem p47n_1 (n : Option Bool) (c : Bool) (xs : List V) (fr : Int) (mn : Int) (k : Nat)
    (c0 : decide ((↑xs.length : Int) < 1) = false)
    (c1 : decide (64 < (↑xs.length : Int)) = true) :
    callP (evalFn Try.prog Try.cfg (k + 1)) 47 [V.agg [V.sl n c 1 xs, V.int IntKind.i64 fr, V.int IntKind.i64 mn]] = some (V.bool false) :=
  byP [Hint.br 11 false, Hint.br 15 true] ((decide ((↑xs.length : Int) < 1) = false) ∧ (decide (64 < (↑xs.length : Int)) = true) ∧ True) (by kernel_rfl) ⟨c0, c1, trivial⟩
theorem p47n_2 (n : Option Bool) (c : Bool) (xs : List V) (fr : Int) (mn : Int) (k : Nat)
    (c0 : decide ((↑xs.length : Int) < 1) = false)
    (c1 : decide (64 < (↑xs.length : Int)) = false)
    (c2 : decide (fr < 0) = true) :
    callP (evalFn Try.prog Try.cfg (k + 1)) 47 [V.agg [V.sl n c 1 xs, V.int IntKind.i64 fr, V.int IntKind.i64 mn]] = some (V.bool false) :=
  byP [Hint.br 11 false, Hint.br 15 false, Hint.br 20 true] ((decide ((↑xs.length : Int) < 1) = false) ∧ (decide (64 < (↑xs.length : Int)) = false) ∧ (decide (fr < 0) = true) ∧ True) (by kernel_rfl) ⟨c0, c1, c2, trivial⟩
theorem p47n_3 (n : Option Bool) (c : Bool) (xs : List V) (fr : Int) (mn : Int) (k : Nat)
    (c0 : decide ((↑xs.length : Int) < 1) = false)
    (c1 : decide (64 < (↑xs.length : Int)) = false)
    (c2 : decide (fr < 0) = false)
    (c3 : decide ((↑xs.length : Int) ≤ fr) = true) :
    callP (evalFn Try.prog Try.cfg (k + 1)) 47 [V.agg [V.sl n c 1 xs, V.int IntKind.i64 fr, V.int IntKind.i64 mn]] = some (V.bool false) :=
  byP [Hint.br 11 false, Hint.br 15 false, Hint.br 20 false, Hint.br 26 true] ((decide ((↑xs.length : Int) < 1) = false) ∧ (decide (64 < (↑xs.length : Int)) = false) ∧ (decide (fr < 0) = false) ∧ (decide ((↑xs.length : Int) ≤ fr) = true) ∧ True) (by kernel_rfl) ⟨c0, c1, c2, c3, trivial⟩
theorem p47n_4 (n : Option Bool) (c : Bool) (xs : List V) (fr : Int) (mn : Int) (k : Nat)
    (c0 : decide ((↑xs.length : Int) < 1) = false)
    (c1 : decide (64 < (↑xs.length : Int)) = false)
    (c2 : decide (fr < 0) = false)
    (c3 : decide ((↑xs.length : Int) ≤ fr) = false)
    (c4 : decide (mn < 0) = true) :
    callP (evalFn Try.prog Try.cfg (k + 1)) 47 [V.agg [V.sl n c 1 xs, V.int IntKind.i64 fr, V.int IntKind.i64 mn]] = some (V.bool false) :=
  byP [Hint.br 11 false, Hint.br 15 false, Hint.br 20 false, Hint.br 26 false, Hint.br 31 true] ((decide ((↑xs.length : Int) < 1) = false) ∧ (decide (64 < (↑xs.length : Int)) = false) ∧ (decide (fr < 0) = false) ∧ (decide ((↑xs.length : Int) ≤ fr) = false) ∧ (decide (mn < 0) = true) ∧ True) (by kernel_rfl) ⟨c0, c1, c2, c3, c4, trivial⟩
theorem p47n_5 (n : Option Bool) (c : Bool) (xs : List V) (fr : Int) (mn : Int) (k : Nat)
    (c0 : decide ((↑xs.length : Int) < 1) = false)
    (c1 : decide (64 < (↑xs.length : Int)) = false)
    (c2 : decide (fr < 0) = false)
    (c3 : decide ((↑xs.length : Int) ≤ fr) = false)
    (c4 : decide (mn < 0) = false)
    (c5 : decide ((↑xs.length : Int) < mn) = true) :
    callP (evalFn Try.prog Try.cfg (k + 1)) 47 [V.agg [V.sl n c 1 xs, V.int IntKind.i64 fr, V.int IntKind.i64 mn]] = some (V.bool false) :=
  byP [Hint.br 11 false, Hint.br 15 false, Hint.br 20 false, Hint.br 26 false, Hint.br 31 false, Hint.br 36 true] ((decide ((↑xs.length : Int) < 1) = false) ∧ (decide (64 < (↑xs.length : Int)) = false) ∧ (decide (fr < 0) = false) ∧ (decide ((↑xs.length : Int) ≤ fr) = false) ∧ (decide (mn < 0) = false) ∧ (decide ((↑xs.length : Int) < mn) = true) ∧ True) (by kernel_rfl) ⟨c0, c1, c2, c3, c4, c5, trivial⟩
theorem p80_0 (t : List UInt8) (k : Nat) :
    callP (evalFn Try.prog Try.cfg (k + 1)) 80 [V.str t] = some (V.bool !decide (t = [])) :=
  byP [] (True) (by kernel_rfl) trivial
end Go.Proofs
