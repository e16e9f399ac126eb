/- DERIVED. Paths that enter callees: the evaluator led by hints, where calls may be carried out in place. -/
import Derived.Test.YtfjloeemhiffgaaSymPath
set_option linter.unusedVariables false
set_option linter.unusedSimpArgs false
namespace Go.Sym

/-- What is told ahead of a path: what an operation answers and writes; which bool it is; what a call by value answers; how a loop ends; that it goes round; that a call is carried out in place. -/
inductive Hn where
  | op (d : Nat) (v : V) (ws : List (Nat × Ob))
  | br (d : Nat) (t : Bool)
  | call (d : Nat) (r : V)
  | loop (r : Exit × St)
  | rounds
  | enter
  | wr (x : Nat) (v : V) (ws : List (Nat × Ob))
  | lib (r : V × List (Nat × Ob) × Nat)

abbrev SubX := Nat → List V → List (Nat × Ob) → Nat → List Hn → Option ((V × List (Nat × Ob) × Nat) × List Hn × List Prop)

/-- A bool that a call in place answers, decided. -/
def brH (o : Oper) (r : V) (hs : List Hn) : V × List Hn × List Prop :=
  match hs, r with
  | .br d t :: hs', .bool u => if o.dst = some d then (.bool t, hs', [u = t]) else (r, hs, [])
  | _, _ => (r, hs, [])
theorem brH_ok {o : Oper} {r : V} {hs : List Hn} (h : All (brH o r hs).2.2) : (brH o r hs).1 = r := by
  unfold brH at *
  split at h
  · split at h
    · rename_i hd
      rw [if_pos hd]
      rw [h.1]
    · rename_i hd; rw [if_neg hd]
  · rfl

/-- The arguments of a call that is handed variables of the caller's. -/
def callVArgs (C : Cfg) (op : Op) (e : Operand → V) (h : Nat → Option Ob) : Option (Nat × List V × List (Nat × Ob)) :=
  match op with
  | .call { callee := .value g, args, .. } => match e g with
    | .fn (.func f) first cap => if Nat.beq f yn then none else if C.vcl.any (Nat.beq f) then
        (varsOf h (first ++ (args.toList.map e) ++ cap)).map fun hs => (f, first ++ (args.toList.map e) ++ cap, hs) else none
    | _ => none
  | _ => none
theorem callVArgs_args {C : Cfg} {P : Program} {call : CallFn} {o : Op} {e : Operand → V} {h : Nat → Option Ob} {b f : Nat} {vs : List V} {vh : List (Nat × Ob)} (ha : callVArgs C o e h = some (f, vs, vh)) :
    stepE P C call o e h b = (call f vs vh (topOf vh)).bind (endV vh) := by
  unfold callVArgs at ha
  split at ha
  · rename_i g args tys
    split at ha
    · rename_i f' first cap hg
      split at ha
      · cases ha
      · rename_i hin
        split at ha
        · rename_i hiv
          rw [Option.map_eq_some_iff] at ha
          obtain ⟨hs, hps, he⟩ := ha
          cases he
          simp only [stepE, hg, if_neg hin, if_pos hiv, callV, hps, Option.bind_some]
        · cases ha
    · cases ha
  · cases ha

def stepF (P : Program) (C : Cfg) (call : CallFn) (sub : SubX) (o : Oper) (st : St) (hs : List Hn) : Option ((V × List (Nat × Ob)) × List Hn × List Prop) :=
  match hs with
  | .op d v ws :: hs' => if o.dst = some d then some ((v, ws), hs', [stepD P C call o st = some (v, ws)]) else (stepD P C call o st).map fun x => (x, hs, [])
  | .br d t :: hs' => if o.dst = some d then (match stepD P C call o st with | some (.bool u, []) => some ((.bool t, []), hs', [u = t]) | _ => none) else (stepD P C call o st).map fun x => (x, hs, [])
  | .call d r :: hs' => if o.dst = some d then (match callArgs C o.op (ev st.tm) (look st.hp) with
      | some (f, ps, ids) => some ((r, if flatR r then [] else freeze (look st.hp) ids), hs', [callP call f ps = some r])
      | none => none) else (stepD P C call o st).map fun x => (x, hs, [])
  | .wr x v ws :: hs' => if st.nx = x then some ((v, ws), hs', [stepD P C call o st = some (v, ws)]) else (stepD P C call o st).map fun x => (x, hs, [])
  | .enter :: hs' => match callArgs C o.op (ev st.tm) (look st.hp) with
      | some (f, ps, ids) => match sub f ps [] 0 hs' with
        | some (x, hs2, cs) => match purifyR (look x.2.1) x.1 with
          | some r => let q := brH o r hs2
            some ((q.1, if flatR r then [] else freeze (look st.hp) ids), q.2.1, cs ++ q.2.2)
          | none => none
        | none => none
      | none => match callVArgs C o.op (ev st.tm) (look st.hp) with
        | some (f, vs, vh) => match sub f vs vh (topOf vh) hs' with
          | some (x, hs2, cs) => (endV vh x).map fun r => (r, hs2, cs)
          | none => none
        | none => (stepD P C call o st).map fun x => (x, hs, [])
  | _ => (stepD P C call o st).map fun x => (x, hs, [])

def opF (P : Program) (C : Cfg) (call : CallFn) (sub : SubX) (o : Oper) (st : St) (hs : List Hn) : Option (St × List Hn × List Prop) :=
  match inlOf C o.op (ev st.tm) with
  | some (f, as) => match hs with
    | .enter :: hs' => match sub f as st.hp st.nx hs' with
      | some (x, hs2, cs) => let q := brH o x.1 hs2
        some ({ tm := putD st.tm o.dst q.1, hp := x.2.1, nx := x.2.2 }, q.2.1, cs ++ q.2.2)
      | none => none
    | _ => none
  | none => (stepF P C call sub o st hs).map fun r => ({ tm := putD st.tm o.dst r.1.1, hp := puts st.hp r.1.2, nx := st.nx + 4 }, r.2)

def opsF (P : Program) (C : Cfg) (call : CallFn) (sub : SubX) (ops : List Oper) : List Oper → St → List Hn → Option (St × List Hn × List Prop)
  | [], st, hs => some (st, hs, [])
  | o :: r, st, hs => match wantedV ops st.tm o with
    | some true => match opF P C call sub o st hs with
      | some (st', hs', cs) => (opsF P C call sub ops r st' hs').map fun y => (y.1, y.2.1, cs ++ y.2.2)
      | none => none
    | some false => opsF P C call sub ops r { st with tm := putD st.tm o.dst (.tup []), nx := st.nx + 4 } hs
    | none => none

def drawF (P : Program) (C : Cfg) (call : CallFn) (sub : SubX) (ops : List Oper) : List Oper → St → List Hn → Option ((St × List (List Nat × List Nat)) × List Hn × List Prop)
  | [], st, hs => some ((st, []), hs, [])
  | o :: r, st, hs => match wantedV ops st.tm o with
    | some true => match stepF P C call sub o st hs with
      | some (x, hs', cs) => (drawF P C call sub ops r { tm := putD st.tm o.dst x.1, hp := puts st.hp x.2, nx := st.nx + 4 } hs').map fun y => ((y.1.1, (hreads o.op (ev st.tm), x.2.map (·.1)) :: y.1.2), y.2.1, cs ++ y.2.2)
      | none => none
    | some false => (drawF P C call sub ops r { st with tm := putD st.tm o.dst (.tup []), nx := st.nx + 4 } hs).map fun y => ((y.1.1, ([], []) :: y.1.2), y.2)
    | none => none

def iterF (f : St → List Hn → Option ((Exit × St) × List Hn × List Prop)) (hd : St → St) : Nat → St → List Hn → Option ((Exit × St) × List Hn × List Prop)
  | 0, _, _ => none
  | k + 1, st, hs => match f st hs with
    | some ((.normal, st'), hs', cs) => (iterF f hd k (hd st') hs').map fun y => (y.1, y.2.1, cs ++ y.2.2)
    | some (r, hs', cs) => some (r, hs', cs)
    | none => none

def codeF (P : Program) (C : Cfg) (call : CallFn) (sub : SubX) (n0 : Nat) (fc : FC) (k : Nat) : Code → St → List Hn → Option ((Exit × St) × List Hn × List Prop)
  | .skip, st, hs => some ((.normal, st), hs, [])
  | .label _, st, hs => some ((.normal, st), hs, [])
  | .region id ops draw, st, hs =>
    if draw then (if isLst ((look fc.draws id).getD []) then (match drawF P C call sub ops.toList.dropLast ops.toList.dropLast st hs with
        | some (y, hs', cs) => if (((look fc.draws id).getD []).all fun p => pairOk y.2 p.1 p.2) then (match ops.toList.getLast? with
          | some o => (match opF P C call sub o y.1 hs' with
            | some (st2, hs2, cs2) => some ((.normal, { st2 with tm := restrict fc.keep st2.tm }), hs2, cs ++ cs2)
            | none => none)
          | none => none) else none
        | none => none)
      else match drawF P C call sub ops.toList ops.toList st hs with
      | some (y, hs', cs) => if (((look fc.draws id).getD []).all fun p => pairOk y.2 p.1 p.2) then some ((.normal, { y.1 with tm := restrict fc.keep y.1.tm }), hs', cs) else none
      | none => none)
    else (opsF P C call sub ops.toList ops.toList st hs).map fun y => ((.normal, { y.1 with tm := restrict fc.keep y.1.tm }), y.2)
  | .seq a b, st, hs => match codeF P C call sub n0 fc k a st hs with
    | some ((.normal, st'), hs', cs) => (codeF P C call sub n0 fc k b st' hs').map fun y => (y.1, y.2.1, cs ++ y.2.2)
    | some (r, hs', cs) => some (r, hs', cs)
    | none => none
  | .cond c a b, st, hs => match ev st.tm c with
    | .bool t => if t then codeF P C call sub n0 fc k a st hs else codeF P C call sub n0 fc k b st hs
    | _ => none
  | .block id b, st, hs => (codeF P C call sub n0 fc k b st hs).map fun r => (match r.1.1 with
    | .exit i => if i = id then (.normal, r.1.2) else (.exit i, r.1.2)
    | x => (x, r.1.2), r.2)
  | .loop b, st, hs => match hs with
    | .loop r :: hs' => some (r, hs', [iter (evalCode P C call n0 fc k b) (head n0 (st.tm.map (·.1)) fc.acc) k (head n0 (st.tm.map (·.1)) fc.acc st) = some r])
    | .rounds :: hs' => iterF (codeF P C call sub n0 fc k b) (head n0 (st.tm.map (·.1)) fc.acc) k (head n0 (st.tm.map (·.1)) fc.acc st) hs'
    | _ => none
  | .exit id, st, hs => some ((.exit id, st), hs, [])
  | .ret, st, hs => some ((.ret, st), hs, [])
  | .scope b, st, hs => match codeF P C call sub n0 fc k b st hs with
    | some ((.goto _, _), _) => none
    | r => r
  | .rangeFunc g ps asg body, st, hs => match hs with
    | .enter :: hs' => match entry fc (.rangeFunc g ps asg body) g (gc n0 (accs fc.acc st)) with
      | some x => match sub x.1 x.2.1 x.2.2 ((gc n0 (accs fc.acc st)).nx + 1) hs' with
        | some (y, hs2, cs) => (left (gc n0 (accs fc.acc st)).nx y.2.1 y.2.2).map fun r => (r, hs2, cs)
        | none => none
      | none => none
    | _ => none
  | _, _, _ => none

def bodyF (P : Program) (C : Cfg) (call : CallFn) (sub : SubX) (k : Nat) : SubX := fun f args hp nx hs =>
  match look C.lib f with
  | some kind => (match hs with
    | .lib r :: hs' => some (r, hs', [libSem kind args hp nx = some r])
    | _ => (libSem kind args hp nx).map fun r => (r, hs, []))
  | none => match look C.fcs f, P.funcs[f]? with
  | some fc, some fn => match fn.body with
    | some c => match codeF P C call sub nx fc k c { tm := idx 0 args, hp, nx } hs with
      | some ((x, st), hs', cs) => match x with
        | .normal | .ret => (evalRes P st fn.results.toList).map fun vs => ((pack vs, st.hp, st.nx), hs', cs)
        | _ => none
      | none => none
    | none => none
  | _, _ => none
def roundF (P : Program) (C : Cfg) (call : CallFn) (sub : SubX) (k : Nat) (args : List V) (hp : List (Nat × Ob)) (nx : Nat) (hs : List Hn) : Option ((V × List (Nat × Ob) × Nat) × List Hn × List Prop) :=
  match roundOf args hp with
  | some x => match codeF P C call sub nx x.2.1 k x.2.2.1 { tm := x.2.2.2.2, hp, nx } hs with
    | some ((.normal, st1), hs1, cs1) => match begun x.1 st1.hp with
      | some hp' => match codeF P C call sub nx x.2.1 k x.2.2.2.1 { tm := st1.tm, hp := hp', nx := st1.nx } hs1 with
        | some (q, hs2, cs2) => (ended x.1 q).map fun r => (r, hs2, cs1 ++ cs2)
        | none => none
      | none => none
    | _ => none
  | none => none
def fnF (P : Program) (C : Cfg) (k : Nat) : Nat → SubX
  | 0 => fun _ _ _ _ _ => none
  | d + 1 => fun f args hp nx hs => if Nat.beq f yn then roundF P C (evalFn P C (k + d)) (fnF P C k d) (k + d) args hp nx hs else bodyF P C (evalFn P C (k + d)) (fnF P C k d) (k + d) f args hp nx hs

section
variable {P : Program} {C : Cfg} {call : CallFn} {sub : SubX}

theorem callArgs_args {o : Op} {e : Operand → V} {h : Nat → Option Ob} {b f : Nat} {ps : List V} {ids : List Nat} (ha : callArgs C o e h = some (f, ps, ids)) :
    stepE P C call o e h b = (callP call f ps).map fun r => (r, if flatR r then [] else freeze h ids) := by
  unfold callArgs at ha
  split at ha
  · rename_i g args tys
    split at ha
    · rename_i f' first cap hg
      split at ha
      · cases ha
      · rename_i hin
        split at ha
        · cases ha
        · rename_i hiv
          rw [Option.map_eq_some_iff] at ha
          obtain ⟨ps', hps, he⟩ := ha
          cases he
          simp only [stepE, hg, if_neg hin, if_neg hiv, hps, Option.bind_some]
    · cases ha
  · cases ha

/-- What carries out calls in place says what the calls answer. -/
structure SubOk (call : CallFn) (sub : SubX) : Prop where
  ok : ∀ {f : Nat} {as : List V} {hp : List (Nat × Ob)} {nx : Nat} {hs hs' : List Hn} {r : V × List (Nat × Ob) × Nat} {cs : List Prop}, sub f as hp nx hs = some (r, hs', cs) → All cs → call f as hp nx = some r

theorem stepF_ok (S : SubOk call sub) {o : Oper} {st : St} {hs hs' : List Hn} {x : V × List (Nat × Ob)} {cs : List Prop} (h : stepF P C call sub o st hs = some (x, hs', cs)) (hc : All cs) : stepD P C call o st = some x := by
  have plain : ∀ {hs : List Hn}, ((stepD P C call o st).map fun x => (x, hs, ([] : List Prop))) = some (x, hs', cs) → stepD P C call o st = some x := by
    intro hs h
    rw [Option.map_eq_some_iff] at h
    obtain ⟨y, hy, he⟩ := h
    cases he; exact hy
  unfold stepF at h
  split at h
  · split at h
    · cases h; exact hc.1
    · exact plain h
  · split at h
    · split at h
      · rename_i hs
        cases h
        rw [hs, hc.1]
      · cases h
    · exact plain h
  · split at h
    · split at h
      · rename_i ha
        cases h
        unfold stepD
        rw [callArgs_args ha, hc.1]
        rfl
      · cases h
    · exact plain h
  · split at h
    · cases h; exact hc.1
    · exact plain h
  · split at h
    · rename_i f ps ids ha
      split at h
      · rename_i y hs2 cs2 hy
        split at h
        · rename_i r hr
          cases h
          obtain ⟨hc1, hc2⟩ := All_append hc
          unfold stepD
          rw [callArgs_args ha]
          have := S.ok hy hc1
          unfold callP
          rw [this]
          simp only [Option.bind_some]
          rw [hr, brH_ok hc2]; rfl
        · cases h
      · cases h
    · split at h
      · rename_i f vs vh ha
        split at h
        · rename_i y hs2 cs2 hy
          rw [Option.map_eq_some_iff] at h
          obtain ⟨r, hr, he⟩ := h
          cases he
          unfold stepD
          rw [callVArgs_args ha, S.ok hy hc]
          exact hr
        · cases h
      · exact plain h
  · exact plain h

theorem opF_ok (S : SubOk call sub) {o : Oper} {st st' : St} {hs hs' : List Hn} {cs : List Prop} (h : opF P C call sub o st hs = some (st', hs', cs)) (hc : All cs) : evalOp P C call o st = some st' := by
  unfold opF at h
  unfold evalOp
  split at h
  · rename_i f as hi
    rw [hi]
    simp only
    split at h
    · split at h
      · rename_i hy
        cases h
        obtain ⟨hc1, hc2⟩ := All_append hc
        rw [S.ok hy hc1, brH_ok hc2]; rfl
      · cases h
    · cases h
  · rename_i hi
    rw [hi]
    simp only
    rw [Option.map_eq_some_iff] at h
    obtain ⟨⟨x, hs1, cs1⟩, hx, he⟩ := h
    cases he
    rw [stepF_ok S hx hc]; rfl

theorem opsF_ok (S : SubOk call sub) {ops : List Oper} : ∀ {l : List Oper} {st st' : St} {hs hs' : List Hn} {cs : List Prop}, opsF P C call sub ops l st hs = some (st', hs', cs) → All cs → evalOps P C call ops l st = some st' := by
  intro l
  induction l with
  | nil => intro st st' hs hs' cs h _; simp only [opsF, Option.some.injEq, Prod.mk.injEq] at h; rw [h.1]; rfl
  | cons o r ih =>
    intro st st' hs hs' cs h hc
    simp only [opsF] at h
    simp only [evalOps]
    split at h
    · rename_i hw
      rw [hw]
      simp only [Option.bind_some, if_true]
      split at h
      · rename_i st1 hs1 cs1 h1
        rw [Option.map_eq_some_iff] at h
        obtain ⟨⟨st2, hs2, cs2⟩, h2, he⟩ := h
        cases he
        obtain ⟨c1, c2⟩ := All_append hc
        rw [opF_ok S h1 c1]
        exact ih h2 c2
      · cases h
    · rename_i hw
      rw [hw]
      simp only [Option.bind_some, Bool.false_eq_true, if_false]
      exact ih h hc
    · cases h

theorem drawF_ok (S : SubOk call sub) {ops : List Oper} : ∀ {l : List Oper} {st : St} {y : St × List (List Nat × List Nat)} {hs hs' : List Hn} {cs : List Prop}, drawF P C call sub ops l st hs = some (y, hs', cs) → All cs → evalD P C call ops l st = some y := by
  intro l
  induction l with
  | nil => intro st y hs hs' cs h _; simp only [drawF, Option.some.injEq, Prod.mk.injEq] at h; rw [← h.1]; rfl
  | cons o r ih =>
    intro st y hs hs' cs h hc
    simp only [drawF] at h
    simp only [evalD]
    split at h
    · rename_i hw
      rw [hw]
      simp only [Option.bind_some, if_true]
      split at h
      · rename_i x hs1 cs1 h1
        rw [Option.map_eq_some_iff] at h
        obtain ⟨⟨y2, hs2, cs2⟩, h2, he⟩ := h
        cases he
        obtain ⟨c1, c2⟩ := All_append hc
        rw [stepF_ok S h1 c1]
        simp only [Option.bind_some]
        rw [ih h2 c2]
        rfl
      · cases h
    · rename_i hw
      rw [hw]
      simp only [Option.bind_some, Bool.false_eq_true, if_false]
      rw [Option.map_eq_some_iff] at h
      obtain ⟨⟨y2, hs2, cs2⟩, h2, he⟩ := h
      cases he
      rw [ih h2 hc]
      rfl
    · cases h

theorem iterF_ok {f : St → List Hn → Option ((Exit × St) × List Hn × List Prop)} {g : St → Option (Exit × St)} {hd : St → St} (hf : ∀ {st : St} {r : Exit × St} {hs hs' : List Hn} {cs : List Prop}, f st hs = some (r, hs', cs) → All cs → g st = some r) :
    ∀ {k : Nat} {st : St} {r : Exit × St} {hs hs' : List Hn} {cs : List Prop}, iterF f hd k st hs = some (r, hs', cs) → All cs → iter g hd k st = some r := by
  intro k
  induction k with
  | zero => intro st r hs hs' cs h _; cases h
  | succ k ih =>
    intro st r hs hs' cs h hc
    simp only [iterF] at h
    simp only [iter]
    split at h
    · rename_i st1 hs1 cs1 h1
      rw [Option.map_eq_some_iff] at h
      obtain ⟨⟨y, hs2, cs2⟩, h2, he⟩ := h
      cases he
      obtain ⟨c1, c2⟩ := All_append hc
      rw [hf h1 c1]
      exact ih h2 c2
    · rename_i r1 hs1 cs1 hne h1
      cases h
      rw [hf h1 hc]
      obtain ⟨e, st1⟩ := r
      cases e with
      | normal => exact (hne st1 rfl).elim
      | _ => rfl
    · cases h

theorem codeF_ok (S : SubOk call sub) {n0 : Nat} {fc : FC} {k : Nat} : ∀ {c : Code} {st : St} {r : Exit × St} {hs hs' : List Hn} {cs : List Prop}, codeF P C call sub n0 fc k c st hs = some (r, hs', cs) → All cs → evalCode P C call n0 fc k c st = some r := by
  intro c
  induction c with
  | skip => intro st r hs hs' cs h _; simp only [codeF, Option.some.injEq, Prod.mk.injEq] at h; rw [← h.1]; rfl
  | label l => intro st r hs hs' cs h _; simp only [codeF, Option.some.injEq, Prod.mk.injEq] at h; rw [← h.1]; rfl
  | exit id => intro st r hs hs' cs h _; simp only [codeF, Option.some.injEq, Prod.mk.injEq] at h; rw [← h.1]; rfl
  | ret => intro st r hs hs' cs h _; simp only [codeF, Option.some.injEq, Prod.mk.injEq] at h; rw [← h.1]; rfl
  | region id ops draw =>
    intro st r hs hs' cs h hc
    simp only [codeF] at h
    simp only [evalCode]
    split at h
    · rename_i hd
      rw [if_pos hd]
      split at h
      · rename_i hl
        rw [if_pos hl]
        split at h
        · rename_i y hs1 cs1 h1
          split at h
          · rename_i hp
            split at h
            · rename_i o ho
              split at h
              · rename_i st2 hs2 cs2 h2
                cases h
                obtain ⟨c1, c2⟩ := All_append hc
                rw [drawF_ok S h1 c1]
                simp only [Option.bind_some]
                rw [if_pos hp, ho]
                simp only
                rw [opF_ok S h2 c2]
                rfl
              · cases h
            · cases h
          · cases h
        · cases h
      · rename_i hl
        rw [if_neg hl]
        split at h
        · rename_i y hs1 cs1 h1
          split at h
          · rename_i hp
            cases h
            rw [drawF_ok S h1 hc]
            simp only [Option.bind_some]
            rw [if_pos hp]
          · cases h
        · cases h
    · rename_i hd
      rw [if_neg hd]
      rw [Option.map_eq_some_iff] at h
      obtain ⟨⟨st1, hs1, cs1⟩, h1, he⟩ := h
      cases he
      rw [opsF_ok S h1 hc]
      rfl
  | seq a b iha ihb =>
    intro st r hs hs' cs h hc
    simp only [codeF] at h
    simp only [evalCode]
    split at h
    · rename_i st1 hs1 cs1 h1
      rw [Option.map_eq_some_iff] at h
      obtain ⟨⟨y, hs2, cs2⟩, h2, he⟩ := h
      cases he
      obtain ⟨c1, c2⟩ := All_append hc
      rw [iha h1 c1]
      exact ihb h2 c2
    · rename_i r1 hs1 cs1 hne h1
      cases h
      rw [iha h1 hc]
      obtain ⟨e, st1⟩ := r
      cases e with
      | normal => exact (hne st1 rfl).elim
      | _ => rfl
    · cases h
  | cond c a b iha ihb =>
    intro st r hs hs' cs h hc
    simp only [codeF] at h
    simp only [evalCode]
    split at h
    · rename_i t ht
      rw [ht]
      simp only
      split at h
      · rename_i hb; rw [if_pos hb]; exact iha h hc
      · rename_i hb; rw [if_neg hb]; exact ihb h hc
    · cases h
  | block id b ih =>
    intro st r hs hs' cs h hc
    simp only [codeF] at h
    simp only [evalCode]
    rw [Option.map_eq_some_iff] at h
    obtain ⟨⟨y, hs2, cs2⟩, h2, he⟩ := h
    cases he
    rw [ih h2 hc]
    rfl
  | loop b ih =>
    intro st r hs hs' cs h hc
    simp only [codeF] at h
    simp only [evalCode]
    split at h
    · cases h; exact hc.1
    · exact iterF_ok (fun h1 c1 => ih h1 c1) h hc
    · cases h
  | scope b ih =>
    intro st r hs hs' cs h hc
    simp only [codeF] at h
    simp only [evalCode]
    split at h
    · cases h
    · rename_i hx
      rw [ih h hc]
      simp only [Option.bind_some]
      obtain ⟨e, st1⟩ := r
      cases e with
      | goto l => exact (hx l st1 _ h).elim
      | _ => rfl
  | rangeFunc g ps asg body iha ihb =>
    intro st r hs hs' cs h hc
    simp only [codeF] at h
    simp only [evalCode]
    split at h
    · split at h
      · rename_i x hx
        split at h
        · rename_i y hs2 cs2 hy
          rw [Option.map_eq_some_iff] at h
          obtain ⟨q, hq, he⟩ := h
          cases he
          rw [hx]
          simp only [Option.bind_some]
          rw [S.ok hy hc]
          exact hq
        · cases h
      · cases h
    · cases h
  | _ => intro st r hs hs' cs h _; simp [codeF] at h

theorem bodyF_ok (S : SubOk call sub) {k f : Nat} {args : List V} {hp : List (Nat × Ob)} {nx : Nat} {hs hs' : List Hn} {r : V × List (Nat × Ob) × Nat} {cs : List Prop} (h : bodyF P C call sub k f args hp nx hs = some (r, hs', cs)) (hc : All cs) : evalBody P C call k f args hp nx = some r := by
  unfold bodyF at h
  unfold evalBody
  split at h
  · rename_i kind hk
    rw [hk]
    simp only
    split at h
    · cases h; exact hc.1
    · rw [Option.map_eq_some_iff] at h
      obtain ⟨y, hy, he⟩ := h
      cases he; exact hy
  rename_i hk
  rw [hk]
  simp only
  split at h
  · rename_i fc fn hfc hfn
    rw [hfc, hfn]
    simp only
    split at h
    · rename_i c hb
      rw [hb]
      simp only
      split at h
      · rename_i x st hs1 cs1 hx
        have fin : ∀ {o : Option (List V)}, (o.map fun vs => ((pack vs, st.hp, st.nx), hs1, cs1)) = some (r, hs', cs) → cs1 = cs ∧ (o.map fun vs => (pack vs, st.hp, st.nx)) = some r := by
          intro o ho
          cases o with
          | none => cases ho
          | some vs => cases ho; exact ⟨rfl, rfl⟩
        split at h
        · obtain ⟨rfl, e⟩ := fin h; rw [codeF_ok S hx hc]; exact e
        · obtain ⟨rfl, e⟩ := fin h; rw [codeF_ok S hx hc]; exact e
        · cases h
      · cases h
    · cases h
  · cases h

theorem roundF_ok (S : SubOk call sub) {k : Nat} {args : List V} {hp : List (Nat × Ob)} {nx : Nat} {hs hs' : List Hn} {r : V × List (Nat × Ob) × Nat} {cs : List Prop} (h : roundF P C call sub k args hp nx hs = some (r, hs', cs)) (hc : All cs) : evalRound P C call k args hp nx = some r := by
  unfold roundF at h
  unfold evalRound
  split at h
  · rename_i x hx
    rw [hx]
    simp only [Option.bind_some]
    split at h
    · rename_i st1 hs1 cs1 h1
      split at h
      · rename_i hp' hb
        split at h
        · rename_i q hs2 cs2 h2
          rw [Option.map_eq_some_iff] at h
          obtain ⟨r', hr, he⟩ := h
          cases he
          obtain ⟨c1, c2⟩ := All_append hc
          rw [codeF_ok S h1 c1]
          simp only [Option.bind_some]
          rw [hb]
          simp only [Option.bind_some]
          rw [codeF_ok S h2 c2]
          exact hr
        · cases h
      · cases h
    · cases h
  · cases h

theorem fnF_ok (k : Nat) : ∀ d : Nat, SubOk (evalFn P C (k + d)) (fnF P C k d) := by
  intro d
  induction d with
  | zero => constructor; intro f as hp nx hs hs' r cs h _; cases h
  | succ d ih =>
    constructor
    intro f as hp nx hs hs' r cs h hc
    simp only [fnF] at h
    show evalFn P C (k + d + 1) f as hp nx = some r
    simp only [evalFn]
    split at h
    · rename_i hf; rw [if_pos hf]; exact roundF_ok ih h hc
    · rename_i hf; rw [if_neg hf]; exact bodyF_ok ih h hc
end

/-- A path through a function that is called by value. -/
def PathF (P : Program) (C : Cfg) (k d f : Nat) (args : List V) (hs : List Hn) (r : V) : Prop :=
  match fnF P C k d f args [] 0 hs with
  | some (x, [], cs) => purifyR (look x.2.1) x.1 = some r ∧ All cs
  | _ => False
theorem byF {P : Program} {C : Cfg} {k d f : Nat} {args : List V} (hs : List Hn) {r : V} {q : Prop} (hq : q) (e : PathF P C k d f args hs r = (some r = some r ∧ q)) : callP (evalFn P C (k + d)) f args = some r := by
  have h : PathF P C k d f args hs r := e.mpr ⟨rfl, hq⟩
  unfold PathF at h
  split at h
  · rename_i x cs hx
    unfold callP
    rw [(fnF_ok k d).ok hx h.2]
    exact h.1
  · exact h.elim
/-- A path through a loop's body. -/
def PathL (P : Program) (C : Cfg) (k d n0 : Nat) (fc : FC) (c : Code) (st : St) (hs : List Hn) (r : Exit × St) : Prop :=
  match codeF P C (evalFn P C (k + d)) (fnF P C k d) n0 fc (k + d) c st hs with
  | some (x, [], cs) => x = r ∧ All cs
  | _ => False
theorem byL {P : Program} {C : Cfg} {k d n0 : Nat} {fc : FC} {c : Code} {st : St} (hs : List Hn) {r : Exit × St} {q : Prop} (hq : q) (e : PathL P C k d n0 fc c st hs r = (r = r ∧ q)) : evalCode P C (evalFn P C (k + d)) n0 fc (k + d) c st = some r := by
  have h : PathL P C k d n0 fc c st hs r := e.mpr ⟨rfl, hq⟩
  unfold PathL at h
  split at h
  · rename_i x cs hx
    rw [codeF_ok (fnF_ok k d) hx h.2]
    rw [h.1]
  · exact h.elim

/-- A load from an element of a row, at a place that is not known. -/
def LdP (P : Program) (t : TypeId) (xs : List V) (i off : Nat) (v : V) : Prop := ((xs[i]?).bind fun x => (readC P t x.cells off).map fun v => (v, ([] : List (Nat × Ob)))) = some (v, [])
theorem LdP.mk {P : Program} {t : TypeId} {xs : List V} {i off : Nat} {x v : V} (h : xs[i]? = some x) (hr : readC P t x.cells off = some v) : LdP P t xs i off v := by
  unfold LdP; rw [h]; simp [hr]
/-- A slice's elements as an array. -/
def ArrP (n len : Nat) (v : V) : Prop := guardP (n ≤ len) (some (v, ([] : List (Nat × Ob)))) = some (v, [])
theorem ArrP.mk {n len : Nat} {v : V} (h : n ≤ len) : ArrP n len v := guardP_pos h
/-- A load of some elements of a row of one cell each, as an array. -/
def LdA (P : Program) (t : TypeId) (s : Nat) (xs : List V) (i : Nat) (v : V) : Prop := (if s < tsize P t then guardP (s = 1 ∧ 0 = 0) ((arr? xs i (tsize P t)).bind fun x => (readC P t x.cells 0).map fun v => (v, ([] : List (Nat × Ob)))) else (xs[i]?).bind fun x => (readC P t x.cells 0).map fun v => (v, [])) = some (v, [])
theorem LdA.mk {P : Program} {t : TypeId} {s n : Nat} {xs : List V} {i : Nat} {x v : V} (h : arr? xs i n = some x) (hn : tsize P t = n) (hs : s = 1) (h1 : 1 < n) (hr : readC P t x.cells 0 = some v) : LdA P t s xs i v := by
  subst hs
  unfold LdA; rw [hn, if_pos h1, guardP_pos ⟨rfl, rfl⟩, h]; simp [hr]
theorem IdxP.of_at' {xs : List V} {i : Int} {s s' : Nat} {x : V} (h : at? xs i = some x) (hs : s = s') : IdxP xs i s s' x := IdxP.of_at h hs
/-- An index into a text. -/
def StrP (s : List UInt8) (i : Int) (c : UInt8) : Prop := guardP (0 ≤ i) ((s[i.toNat]?).map fun c => (V.int .u8 c.toNat, ([] : List (Nat × Ob)))) = some (V.int .u8 c.toNat, [])
def satB (s : List UInt8) (i : Int) : Option UInt8 := if 0 ≤ i then s[i.toNat]? else none
theorem StrP.of_at {s : List UInt8} {i : Int} {c : UInt8} (h : satB s i = some c) : StrP s i c := by
  unfold satB at h
  split at h
  · rename_i h0
    unfold StrP
    rw [guardP_pos h0, h]; rfl
  · cases h
theorem SlcP.uptoS {n : Option Bool} {c : Bool} {s sz : Nat} {xs : List V} {k : IntKind} {b : Int} (h : 0 ≤ b ∧ b ≤ xs.length) (hs : s = sz) (h0 : 0 < sz := by decide) : SlcP true sz (.sl n c s xs) none (some (.int k b)) none (.sl n false s (xs.take b.toNat)) := by
  subst hs; exact SlcP.upto h.1 h.2 h0
theorem SlcP.strMid {xs : List UInt8} {sz : Nat} {k k' : IntKind} {a b : Int} (h : 0 ≤ a ∧ a ≤ b ∧ b ≤ xs.length) : SlcP false sz (.str xs) (some (.int k a)) (some (.int k' b)) none (.str ((xs.take b.toNat).drop a.toNat)) := by
  have h1 : b.toNat ≤ xs.length := by omega
  have h2 : a.toNat ≤ b.toNat := by omega
  have h3 : 0 ≤ b := by omega
  simp [SlcP, sliceV, boundD, bound, guardP, h.1, h1, h2, h3, List.drop_take]
  omega
theorem SlcP.strUptoS {xs : List UInt8} {sz : Nat} {k : IntKind} {b : Int} (h : 0 ≤ b ∧ b ≤ xs.length) : SlcP false sz (.str xs) none (some (.int k b)) none (.str (xs.take b.toNat)) := SlcP.strUpto h.1 h.2
theorem SlcP.strFromS {xs : List UInt8} {sz : Nat} {k : IntKind} {b : Int} (h : 0 ≤ b ∧ b ≤ xs.length) : SlcP false sz (.str xs) (some (.int k b)) none none (.str (xs.drop b.toNat)) := SlcP.strFrom h.1 h.2
theorem IdxR.mk' {n : Nat} {i : Int} {s s' : Nat} {v : V} (h : 0 ≤ i ∧ i < n) (hs : s = s') : IdxR n i s s' v := IdxR.mk h.1 h.2 hs
/-- An index into an array, at a place that is known. -/
def IdxA (n : Nat) (i : Int) (sz : Nat) (f : Nat → V) (v : V) : Prop := guardP (0 ≤ i ∧ i < n ∧ 0 < sz) (some (f (i.toNat * sz), ([] : List (Nat × Ob)))) = some (v, [])
theorem IdxA.mk {n sz : Nat} {i : Int} {f : Nat → V} {v : V} (q : Nat) (h : decide (i = (q : Int)) = true) (hq : q < n) (h0 : 0 < sz) (hv : f (q * sz) = v) : IdxA n i sz f v := by
  have := of_decide_eq_true h
  subst this
  unfold IdxA
  rw [guardP_pos ⟨by omega, by omega, h0⟩, Int.toNat_natCast, hv]
def IdxG (n : Nat) (i : Int) (sz : Nat) (g : Nat → Option V) (v : V) : Prop := guardP (0 ≤ i ∧ i < n ∧ 0 < sz) ((g (i.toNat * sz)).map fun v => (v, ([] : List (Nat × Ob)))) = some (v, [])
theorem IdxG.mk {n sz : Nat} {i : Int} {g : Nat → Option V} {v : V} (q : Nat) (h : decide (i = (q : Int)) = true) (hq : q < n) (h0 : 0 < sz) (hv : g (q * sz) = some v) : IdxG n i sz g v := by
  have := of_decide_eq_true h
  subst this
  unfold IdxG
  rw [guardP_pos ⟨by omega, by omega, h0⟩, Int.toNat_natCast, hv]; rfl
/-- A part of a row. -/
def SlcR (n s sz id : Nat) (lo hi : Option V) (v : V) : Prop := (((boundD lo 0).bind fun l => (boundD hi n).bind fun r => guardP (l ≤ r ∧ r ≤ n ∧ true = true ∧ s = sz ∧ 0 < sz) (some (V.sub id l (r - l)))).map fun v => (v, ([] : List (Nat × Ob)))) = some (v, [])
theorem SlcR.from {n s sz id : Nat} {k : IntKind} {b : Int} (h : 0 ≤ b ∧ b ≤ n) (hs : s = sz) (h0 : 0 < sz := by decide) : SlcR n s sz id (some (.int k b)) none (.sub id b.toNat (n - b.toNat)) := by
  subst hs
  have : b.toNat ≤ n := by omega
  simp [SlcR, boundD, bound, guardP, h.1, this, h0]
theorem SlcR.upto {n s sz id : Nat} {k : IntKind} {b : Int} (h : 0 ≤ b ∧ b ≤ n) (hs : s = sz) (h0 : 0 < sz := by decide) : SlcR n s sz id none (some (.int k b)) (.sub id 0 b.toNat) := by
  subst hs
  have : b.toNat ≤ n := by omega
  simp [SlcR, boundD, bound, guardP, h.1, this, h0]
theorem SlcR.mid {n s sz id : Nat} {k k' : IntKind} {a b : Int} (h : 0 ≤ a ∧ a ≤ b ∧ b ≤ n) (hs : s = sz) (h0 : 0 < sz := by decide) : SlcR n s sz id (some (.int k a)) (some (.int k' b)) (.sub id a.toNat (b.toNat - a.toNat)) := by
  subst hs
  have h1 : b.toNat ≤ n := by omega
  have h2 : a.toNat ≤ b.toNat := by omega
  have h3 : 0 ≤ b := by omega
  simp [SlcR, boundD, bound, guardP, h.1, h3, h1, h0]
  omega
/-- A guard in a guard. -/
def GrdV (p q : Prop) [Decidable p] [Decidable q] (v : V) (ws : List (Nat × Ob)) : Prop := guardP p (guardP q (some (v, ws))) = some (v, ws)
theorem GrdV.mk {p q : Prop} [Decidable p] [Decidable q] {v : V} {ws : List (Nat × Ob)} (h : p) (h2 : q) : GrdV p q v ws := by unfold GrdV; rw [guardP_pos h, guardP_pos h2]
/-- Is a slice nil? -/
def NilP (n : Option Bool) (xs : List V) (neg : Bool) (b : Bool) : Prop := ((guardP (true = true) (match neg with | false => (isNil n xs).map .bool | true => (isNil n xs).map fun r => .bool (!r))).map fun v => (v, ([] : List (Nat × Ob)))) = some (V.bool b, [])
theorem NilP.eql {n : Option Bool} {xs : List V} {b : Bool} (h : isNil n xs = some b) : NilP n xs false b := by unfold NilP; simp [h, guardP]
theorem NilP.neq {n : Option Bool} {xs : List V} {b : Bool} (h : isNil n xs = some b) : NilP n xs true (!b) := by unfold NilP; simp [h, guardP]

def dI (k : IntKind) : V → Option Int | .int k' a => guardP (k' = k) (some a) | _ => none
def dS : V → Option (List UInt8) | .str s => some s | _ => none
def dB : V → Option Bool | .bool b => some b | _ => none
/-- A store into a part of an element of a row. -/
def StE (q : Prop) [Decidable q] (xs : List V) (i id s off : Nat) (ps : List V) (v : V) (ws : List (Nat × Ob)) : Prop :=
  guardP q ((xs[i]?).bind fun y => match y with
    | .agg cs => (writeC cs off ps).map fun cs' => (V.tup [], [(id, Ob.row false s (xs.set i (.agg cs')))])
    | _ => none) = some (v, ws)
theorem StE.mk {q : Prop} [Decidable q] {xs : List V} {i id s off : Nat} {ps cs cs' : List V} (hq : q) (h : xs[i]? = some (.agg cs)) (hw : writeC cs off ps = some cs') :
    StE q xs i id s off ps (.tup []) [(id, .row false s (xs.set i (.agg cs')))] := by
  unfold StE; rw [guardP_pos hq, h]; simp only [Option.bind_some, hw, Option.map_some]
theorem at_d {α : Type} {xs : List V} {i : Int} {d : V → Option α} {a : α} {f : α → V} (hd : ∀ {v : V} {a : α}, d v = some a → v = f a) (h : (at? xs i).bind d = some a) : at? xs i = some (f a) := by
  obtain ⟨v, h1, h2⟩ := Option.bind_eq_some_iff.1 h
  rw [h1, hd h2]
theorem get_d {α : Type} {xs : List V} {i : Nat} {d : V → Option α} {a : α} {f : α → V} (hd : ∀ {v : V} {a : α}, d v = some a → v = f a) (h : (xs[i]?).bind d = some a) : xs[i]? = some (f a) := by
  obtain ⟨v, h1, h2⟩ := Option.bind_eq_some_iff.1 h
  rw [h1, hd h2]
theorem cond_elim {α : Type} {u : Bool} {a b r : α} (h : (bif u then a else b) = r) : (u = true ∧ a = r) ∨ (u = false ∧ b = r) := by
  cases u
  · exact .inr ⟨rfl, h⟩
  · exact .inl ⟨rfl, h⟩
/-- A guard of the library's is met. -/
theorem libG {kind : Lk} {args : List V} {hp : List (Nat × Ob)} {nx : Nat} {r : V × List (Nat × Ob) × Nat} {p : Prop} [Decidable p] (h : p) (e : libSem kind args hp nx = guardP p (some r)) : libSem kind args hp nx = some r := e.trans (guardP_pos h)
/-- strings.Repeat, called by value. -/
theorem callP_repeat {P : Program} {C : Cfg} {k f : Nat} {s : List UInt8} {i : Int} (hl : look C.lib f = some ⟨3, 0, 0⟩) (hf : Nat.beq f yn = false) (h : 0 ≤ i ∧ s.length * i.toNat ≤ maxBld ∧ i ≤ (maxBld : Int)) :
    callP (evalFn P C (k + 1)) f [.str s, .int .i64 i] = some (.str (repeatN s i.toNat)) := by
  unfold callP
  simp only [evalFn]
  rw [hf, if_neg (by simp)]
  unfold evalBody
  rw [hl]
  simp only [libSem]
  rw [guardP_pos h]
  rfl
end Go.Sym
