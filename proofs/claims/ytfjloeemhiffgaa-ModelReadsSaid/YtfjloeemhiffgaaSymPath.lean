/- DERIVED. Paths: the evaluator led by hints, so that the kernel alone carries it out; what the hints claim is collected. -/
import Derived.Test.YtfjloeemhiffgaaSymLaw
set_option linter.unusedVariables false
set_option linter.unusedSimpArgs false
namespace Go.Sym

/-- What is told ahead of a path: what an operation (by the number of its result) answers and writes; which bool it is; what a call by value answers; what a call that works on the caller's things leaves; how a loop ends; that it goes round. -/
inductive Hint where
  | op (d : Nat) (v : V) (ws : List (Nat × Ob))
  | br (d : Nat) (t : Bool)
  | call (d : Nat) (r : V)
  | inl (d : Nat) (v : V) (hp : List (Nat × Ob)) (nx : Nat)
  | loop (r : Exit × St)
  | rounds
  | range (v : V) (hp : List (Nat × Ob)) (nx : Nat)
  | wr (x : Nat) (v : V) (ws : List (Nat × Ob))

def All : List Prop → Prop
  | [] => True
  | p :: r => p ∧ All r
theorem All_append {l l' : List Prop} (h : All (l ++ l')) : All l ∧ All l' := by
  induction l with
  | nil => exact ⟨trivial, h⟩
  | cons p r ih => exact ⟨⟨h.1, (ih h.2).1⟩, (ih h.2).2⟩

/-- The arguments of a call by value, without references. -/
def callArgs (C : Cfg) (op : Op) (e : Operand → V) (h : Nat → Option Ob) : Option (Nat × List V × List Nat) :=
  match op with
  | .call { callee := .value g, args, .. } => match e g with
    | .fn (.func f) first cap => if Nat.beq f yn then none else if C.vcl.any (Nat.beq f) then none else
        (purifys h (first ++ (args.toList.map e) ++ cap)).map fun ps => (f, ps, (first ++ (args.toList.map e) ++ cap).flatMap rid)
    | _ => none
  | _ => none

/-- One operation, by a hint or as it is. -/
def stepX (P : Program) (C : Cfg) (call : CallFn) (o : Oper) (st : St) (hs : List Hint) : Option ((V × List (Nat × Ob)) × List Hint × List Prop) :=
  match hs with
  | .op d v ws :: hs' => if o.dst = some d then some ((v, ws), hs', [stepD P C call o st = some (v, ws)]) else (stepD P C call o st).map fun x => (x, hs, [])
  | .br d t :: hs' => if o.dst = some d then (match stepD P C call o st with | some (.bool u, []) => some ((.bool t, []), hs', [u = t]) | _ => none) else (stepD P C call o st).map fun x => (x, hs, [])
  | .call d r :: hs' => if o.dst = some d then (match callArgs C o.op (ev st.tm) (look st.hp) with
      | some (f, ps, ids) => some ((r, if flatR r then [] else freeze (look st.hp) ids), hs', [callP call f ps = some r])
      | none => none) else (stepD P C call o st).map fun x => (x, hs, [])
  | .wr x v ws :: hs' => if st.nx = x then some ((v, ws), hs', [stepD P C call o st = some (v, ws)]) else (stepD P C call o st).map fun x => (x, hs, [])
  | _ => (stepD P C call o st).map fun x => (x, hs, [])

def opX (P : Program) (C : Cfg) (call : CallFn) (o : Oper) (st : St) (hs : List Hint) : Option (St × List Hint × List Prop) :=
  match inlOf C o.op (ev st.tm) with
  | some (f, as) => match hs with
    | .inl d v hp nx :: hs' => if o.dst = some d then some ({ tm := putD st.tm o.dst v, hp := hp, nx := nx }, hs', [call f as st.hp st.nx = some (v, hp, nx)]) else none
    | _ => none
  | none => (stepX P C call o st hs).map fun r => ({ tm := putD st.tm o.dst r.1.1, hp := puts st.hp r.1.2, nx := st.nx + 4 }, r.2)

def opsX (P : Program) (C : Cfg) (call : CallFn) (ops : List Oper) : List Oper → St → List Hint → Option (St × List Hint × List Prop)
  | [], st, hs => some (st, hs, [])
  | o :: r, st, hs => match wantedV ops st.tm o with
    | some true => match opX P C call o st hs with
      | some (st', hs', cs) => (opsX P C call ops r st' hs').map fun y => (y.1, y.2.1, cs ++ y.2.2)
      | none => none
    | some false => opsX P C call ops r { st with tm := putD st.tm o.dst (.tup []), nx := st.nx + 4 } hs
    | none => none

def drawX (P : Program) (C : Cfg) (call : CallFn) (ops : List Oper) : List Oper → St → List Hint → Option ((St × List (List Nat × List Nat)) × List Hint × List Prop)
  | [], st, hs => some ((st, []), hs, [])
  | o :: r, st, hs => match wantedV ops st.tm o with
    | some true => match stepX P C call o st hs with
      | some (x, hs', cs) => (drawX P C call ops r { tm := putD st.tm o.dst x.1, hp := puts st.hp x.2, nx := st.nx + 4 } hs').map fun y => ((y.1.1, (hreads o.op (ev st.tm), x.2.map (·.1)) :: y.1.2), y.2.1, cs ++ y.2.2)
      | none => none
    | some false => (drawX P C call ops r { st with tm := putD st.tm o.dst (.tup []), nx := st.nx + 4 } hs).map fun y => ((y.1.1, ([], []) :: y.1.2), y.2)
    | none => none

def iterX (f : St → List Hint → Option ((Exit × St) × List Hint × List Prop)) (hd : St → St) : Nat → St → List Hint → Option ((Exit × St) × List Hint × List Prop)
  | 0, _, _ => none
  | k + 1, st, hs => match f st hs with
    | some ((.normal, st'), hs', cs) => (iterX f hd k (hd st') hs').map fun y => (y.1, y.2.1, cs ++ y.2.2)
    | some (r, hs', cs) => some (r, hs', cs)
    | none => none

def codeX (P : Program) (C : Cfg) (call : CallFn) (n0 : Nat) (fc : FC) (k : Nat) : Code → St → List Hint → Option ((Exit × St) × List Hint × List Prop)
  | .skip, st, hs => some ((.normal, st), hs, [])
  | .label _, st, hs => some ((.normal, st), hs, [])
  | .region id ops draw, st, hs =>
    if draw then (if isLst ((look fc.draws id).getD []) then (match drawX P C call ops.toList.dropLast ops.toList.dropLast st hs with
        | some (y, hs', cs) => if (((look fc.draws id).getD []).all fun p => pairOk y.2 p.1 p.2) then (match ops.toList.getLast? with
          | some o => (match opX P C call o y.1 hs' with
            | some (st2, hs2, cs2) => some ((.normal, { st2 with tm := restrict fc.keep st2.tm }), hs2, cs ++ cs2)
            | none => none)
          | none => none) else none
        | none => none)
      else match drawX P C call ops.toList ops.toList st hs with
      | some (y, hs', cs) => if (((look fc.draws id).getD []).all fun p => pairOk y.2 p.1 p.2) then some ((.normal, { y.1 with tm := restrict fc.keep y.1.tm }), hs', cs) else none
      | none => none)
    else (opsX P C call ops.toList ops.toList st hs).map fun y => ((.normal, { y.1 with tm := restrict fc.keep y.1.tm }), y.2)
  | .seq a b, st, hs => match codeX P C call n0 fc k a st hs with
    | some ((.normal, st'), hs', cs) => (codeX P C call n0 fc k b st' hs').map fun y => (y.1, y.2.1, cs ++ y.2.2)
    | some (r, hs', cs) => some (r, hs', cs)
    | none => none
  | .cond c a b, st, hs => match ev st.tm c with
    | .bool t => if t then codeX P C call n0 fc k a st hs else codeX P C call n0 fc k b st hs
    | _ => none
  | .block id b, st, hs => (codeX P C call n0 fc k b st hs).map fun r => (match r.1.1 with
    | .exit i => if i = id then (.normal, r.1.2) else (.exit i, r.1.2)
    | x => (x, r.1.2), r.2)
  | .loop b, st, hs => match hs with
    | .loop r :: hs' => some (r, hs', [iter (evalCode P C call n0 fc k b) (head n0 (st.tm.map (·.1)) fc.acc) k (head n0 (st.tm.map (·.1)) fc.acc st) = some r])
    | .rounds :: hs' => iterX (codeX P C call n0 fc k b) (head n0 (st.tm.map (·.1)) fc.acc) k (head n0 (st.tm.map (·.1)) fc.acc st) hs'
    | _ => none
  | .exit id, st, hs => some ((.exit id, st), hs, [])
  | .ret, st, hs => some ((.ret, st), hs, [])
  | .rangeFunc g ps asg body, st, hs => match hs with
    | .range v hp nx :: hs' => match entry fc (.rangeFunc g ps asg body) g (gc n0 (accs fc.acc st)) with
      | some x => (left (gc n0 (accs fc.acc st)).nx hp nx).map fun r => (r, hs', [call x.1 x.2.1 x.2.2 ((gc n0 (accs fc.acc st)).nx + 1) = some (v, hp, nx)])
      | none => none
    | _ => none
  | _, _, _ => none

/-- A path through code: it ends so. -/
def PathC (P : Program) (C : Cfg) (call : CallFn) (n0 : Nat) (fc : FC) (k : Nat) (c : Code) (st : St) (hs : List Hint) (r : Exit × St) : Prop :=
  match codeX P C call n0 fc k c st hs with
  | some (x, [], cs) => x = r ∧ All cs
  | _ => False
/-- A path through a function: it leaves so. -/
def PathR (P : Program) (C : Cfg) (k f : Nat) (args : List V) (hp : List (Nat × Ob)) (nx : Nat) (hs : List Hint) (r : V × List (Nat × Ob) × Nat) : Prop :=
  match Nat.beq f yn, look C.lib f, look C.fcs f, P.funcs[f]? with
  | false, none, some fc, some fn => match fn.body with
    | some c => match codeX P C (evalFn P C k) nx fc k c { tm := idx 0 args, hp, nx } hs with
      | some ((x, st), [], cs) => match x with
        | .normal | .ret => (evalRes P st fn.results.toList).map (fun vs => (pack vs, st.hp, st.nx)) = some r ∧ All cs
        | _ => False
      | _ => False
    | none => False
  | _, _, _, _ => False
/-- A path through a function that is called by value. -/
def PathP (P : Program) (C : Cfg) (k f : Nat) (args : List V) (hs : List Hint) (r : V) : Prop :=
  match Nat.beq f yn, look C.lib f, look C.fcs f, P.funcs[f]? with
  | false, none, some fc, some fn => match fn.body with
    | some c => match codeX P C (evalFn P C k) 0 fc k c { tm := idx 0 args, hp := [], nx := 0 } hs with
      | some ((x, st), [], cs) => match x with
        | .normal | .ret => ((evalRes P st fn.results.toList).bind fun vs => purifyR (look st.hp) (pack vs)) = some r ∧ All cs
        | _ => False
      | _ => False
    | none => False
  | _, _, _, _ => False

/-- A path through a round. -/
def PathY (P : Program) (C : Cfg) (k : Nat) (args : List V) (hp : List (Nat × Ob)) (nx : Nat) (hs : List Hint) (r : V × List (Nat × Ob) × Nat) : Prop :=
  match roundOf args hp with
  | some x => match codeX P C (evalFn P C k) nx x.2.1 k x.2.2.1 { tm := x.2.2.2.2, hp, nx } hs with
    | some ((.normal, st1), hs1, cs1) => match begun x.1 st1.hp with
      | some hp' => match codeX P C (evalFn P C k) nx x.2.1 k x.2.2.2.1 { tm := st1.tm, hp := hp', nx := st1.nx } hs1 with
        | some (q, [], cs2) => ended x.1 q = some r ∧ All (cs1 ++ cs2)
        | _ => False
      | none => False
    | _ => False
  | none => False

section
variable {P : Program} {C : Cfg} {call : CallFn}

def loopsOf : Code → List Code
  | .seq a b => loopsOf a ++ loopsOf b
  | .cond _ a b => loopsOf a ++ loopsOf b
  | .block _ b => loopsOf b
  | .loop b => b :: loopsOf b
  | .scope b => loopsOf b
  | _ => []
/-- The body of a function's loop, by its place in the text. -/
def loopBody (fn : Func) (j : Nat) : Code := (((fn.body.map loopsOf).getD [])[j]?).getD .skip
/-- The range over a function of a function, by its place in the text. -/
def rangesOf : Code → List Code
  | .seq a b => rangesOf a ++ rangesOf b
  | .cond _ a b => rangesOf a ++ rangesOf b
  | .block _ b => rangesOf b
  | .loop b => rangesOf b
  | .scope b => rangesOf b
  | .rangeFunc g ps a b => .rangeFunc g ps a b :: rangesOf b
  | _ => []
def rangeCode (fn : Func) (j : Nat) : Code := (((fn.body.map rangesOf).getD [])[j]?).getD .skip
/-- A loop, from a state at its head on, ends so. n: rounds that are allowed; K: the fuel within the body; n0: the number of the first thing of the function's own. -/
def LoopsN (P : Program) (C : Cfg) (K n0 : Nat) (fn : Func) (fc : FC) (j : Nat) (slots : List Nat) (n : Nat) (st : St) (r : Exit × St) : Prop :=
  iter (evalCode P C (evalFn P C K) n0 fc K (loopBody fn j)) (head n0 slots fc.acc) n st = some r
theorem LoopsN.next {K n0 : Nat} {fn : Func} {fc : FC} {j : Nat} {slots : List Nat} {n : Nat} {st st' st2 : St} {r : Exit × St} (h : evalCode P C (evalFn P C K) n0 fc K (loopBody fn j) st = some (.normal, st'))
    (hh : head n0 slots fc.acc st' = st2) (hn : LoopsN P C K n0 fn fc j slots n st2 r) : LoopsN P C K n0 fn fc j slots (n + 1) st r := by
  unfold LoopsN at *
  simp only [iter, h, Option.bind_some]
  rw [hh]; exact hn
theorem LoopsN.done {K n0 : Nat} {fn : Func} {fc : FC} {j : Nat} {slots : List Nat} {n : Nat} {st st' : St} {x : Exit} (h : evalCode P C (evalFn P C K) n0 fc K (loopBody fn j) st = some (x, st')) (hx : x ≠ .normal) :
    LoopsN P C K n0 fn fc j slots (n + 1) st (x, st') := by
  unfold LoopsN
  simp only [iter, h, Option.bind_some]
abbrev Loops (P : Program) (C : Cfg) (K : Nat) (fn : Func) (fc : FC) (j : Nat) (slots : List Nat) (n : Nat) (st : St) (r : Exit × St) : Prop := LoopsN P C K 0 fn fc j slots n st r
theorem Loops.next {K : Nat} {fn : Func} {fc : FC} {j : Nat} {slots : List Nat} {n : Nat} {st st' st2 : St} {r : Exit × St} (h : evalCode P C (evalFn P C K) 0 fc K (loopBody fn j) st = some (.normal, st'))
    (hh : head 0 slots fc.acc st' = st2) (hn : Loops P C K fn fc j slots n st2 r) : Loops P C K fn fc j slots (n + 1) st r := LoopsN.next h hh hn
theorem Loops.done {K : Nat} {fn : Func} {fc : FC} {j : Nat} {slots : List Nat} {n : Nat} {st st' : St} {x : Exit} (h : evalCode P C (evalFn P C K) 0 fc K (loopBody fn j) st = some (x, st')) (hx : x ≠ .normal) :
    Loops P C K fn fc j slots (n + 1) st (x, st') := LoopsN.done h hx

/-- What an index into a slice of unknown elements asks. -/
def IdxP (xs : List V) (i : Int) (s s' : Nat) (x : V) : Prop := guardP (0 ≤ i ∧ i < xs.length ∧ s = s') ((xs[i.toNat]?).map fun v => (V.cpt v 0, ([] : List (Nat × Ob)))) = some (V.cpt x 0, [])
theorem IdxP.mk {xs : List V} {i : Nat} {s s' : Nat} {x : V} (h : xs[i]? = some x) (hs : s = s' := by rfl) : IdxP xs i s s' x := by
  have := (List.getElem?_eq_some_iff.1 h).1
  unfold IdxP
  rw [guardP_pos ⟨by omega, by omega, hs⟩]
  simp [h]

/-- What lies at a place. -/
def at? (xs : List V) (i : Int) : Option V := if 0 ≤ i then xs[i.toNat]? else none
theorem IdxP.of_at {xs : List V} {i : Int} {s s' : Nat} {x : V} (h : at? xs i = some x) (hs : s = s' := by rfl) : IdxP xs i s s' x := by
  unfold at? at h
  split at h
  · rename_i h0
    have h1 := (List.getElem?_eq_some_iff.1 h).1
    unfold IdxP
    rw [guardP_pos ⟨h0, by omega, hs⟩]
    simp [h]
  · cases h
theorem at_nat (xs : List V) (i : Nat) : at? xs (i : Int) = xs[i]? := by simp [at?]

/-- What an operation with a guard asks (a quotient's divisor is not 0, ..). -/
def GrdP (p : Prop) [Decidable p] (v : V) : Prop := ((guardP p (some v)).map fun v => (v, ([] : List (Nat × Ob)))) = some (v, [])
theorem GrdP.mk {p : Prop} [Decidable p] {v : V} (h : p) : GrdP p v := by unfold GrdP; rw [guardP_pos h]; rfl

/-- A slice's part. -/
def SlcP (isS : Bool) (sz : Nat) (x : V) (lo hi mx : Option V) (v : V) : Prop := ((sliceV (fun _ => none) isS sz x lo hi mx).map fun v => (v, ([] : List (Nat × Ob)))) = some (v, [])
theorem SlcP.upto {n : Option Bool} {c : Bool} {s : Nat} {xs : List V} {k : IntKind} {b : Int} (h0 : 0 ≤ b) (h1 : b ≤ xs.length) (hs : 0 < s := by decide) : SlcP true s (.sl n c s xs) none (some (.int k b)) none (.sl n false s (xs.take b.toNat)) := by
  have : b.toNat ≤ xs.length := by omega
  simp [SlcP, sliceV, boundD, bound, guardP, h0, this, hs]
theorem SlcP.clip {n : Option Bool} {c : Bool} {s : Nat} {xs : List V} {k k' : IntKind} {b : Int} (h0 : 0 ≤ b) (h1 : b ≤ xs.length) (hs : 0 < s := by decide) : SlcP true s (.sl n c s xs) none (some (.int k b)) (some (.int k' b)) (.sl n true s (xs.take b.toNat)) := by
  have : b.toNat ≤ xs.length := by omega
  simp [SlcP, sliceV, boundD, bound, guardP, h0, this, hs]
theorem SlcP.from {n : Option Bool} {c : Bool} {s : Nat} {xs : List V} {k : IntKind} {b : Int} (h0 : 0 ≤ b) (h1 : b ≤ xs.length) (hs : 0 < s := by decide) : SlcP true s (.sl n c s xs) (some (.int k b)) none none (.sl n c s (xs.drop b.toNat)) := by
  have : b.toNat ≤ xs.length := by omega
  have e : (xs.drop b.toNat).take (xs.length - b.toNat) = xs.drop b.toNat := List.take_of_length_le (by simp)
  simp [SlcP, sliceV, boundD, bound, guardP, h0, this, hs, e]
theorem SlcP.strUpto {xs : List UInt8} {sz : Nat} {k : IntKind} {b : Int} (h0 : 0 ≤ b) (h1 : b ≤ xs.length) : SlcP false sz (.str xs) none (some (.int k b)) none (.str (xs.take b.toNat)) := by
  have : b.toNat ≤ xs.length := by omega
  simp [SlcP, sliceV, boundD, bound, guardP, h0, this]
theorem SlcP.strFrom {xs : List UInt8} {sz : Nat} {k : IntKind} {b : Int} (h0 : 0 ≤ b) (h1 : b ≤ xs.length) : SlcP false sz (.str xs) (some (.int k b)) none none (.str (xs.drop b.toNat)) := by
  have : b.toNat ≤ xs.length := by omega
  have e : (xs.drop b.toNat).take (xs.length - b.toNat) = xs.drop b.toNat := List.take_of_length_le (by simp)
  simp [SlcP, sliceV, boundD, bound, guardP, h0, this, e]

/-- What an operation with a guard asks that writes. -/
def GrdW (p : Prop) [Decidable p] (v : V) (ws : List (Nat × Ob)) : Prop := guardP p (some (v, ws)) = some (v, ws)
theorem GrdW.mk {p : Prop} [Decidable p] {v : V} {ws : List (Nat × Ob)} (h : p) : GrdW p v ws := by unfold GrdW; rw [guardP_pos h]
/-- An index into a row. -/
def IdxR (n : Nat) (i : Int) (s s' : Nat) (v : V) : Prop := guardP (0 ≤ i ∧ i < n ∧ s = s') (some (v, ([] : List (Nat × Ob)))) = some (v, [])
theorem IdxR.mk {n : Nat} {i : Int} {s s' : Nat} {v : V} (h0 : 0 ≤ i) (h1 : i < n) (hs : s = s' := by rfl) : IdxR n i s s' v := by unfold IdxR; rw [guardP_pos ⟨h0, h1, hs⟩]

end
end Go.Sym
