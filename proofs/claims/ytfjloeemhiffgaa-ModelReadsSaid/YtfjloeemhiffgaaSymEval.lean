/- DERIVED. The machine of plain values, second part: calls, regions, code, functions. -/
import Derived.Test.YtfjloeemhiffgaaSymCore
import Derived.Sort.Defs
import Derived.Lib.BitFns
namespace Go.Sym

structure St where
  tm : List (Nat × V)
  hp : List (Nat × Ob)
  nx : Nat

/-- A function of the library's: which one; strings.Builder's type, and the byte's. -/
structure Lk where
  k : Nat
  t : Nat
  e : Nat
structure Cfg where
  fcs : List (Nat × FC)
  inl : List Nat
  lib : List (Nat × Lk) := []
  vcl : List Nat := []
def Cfg.fc (C : Cfg) (f : Nat) : FC := (look C.fcs f).getD ⟨[], [], []⟩

def ev (tm : List (Nat × V)) (x : Operand) : V :=
  match x with
  | .tmp t => (look tm t).getD .junk
  | .const v => ofValue v
  | .global _ => .junk
  | .func f => .fn (.func f) [] []

abbrev CallFn := Nat → List V → List (Nat × Ob) → Nat → Option (V × List (Nat × Ob) × Nat)

/-- A call by value: neither arguments nor results name anything. -/
def callP (call : CallFn) (f : Nat) (ps : List V) : Option V := (call f ps [] 0).bind fun x => purifyR (look x.2.1) x.1

def putD (tm : List (Nat × V)) (dst : Option Nat) (v : V) : List (Nat × V) := match dst with | some d => put tm d v | none => tm

/-- May the operation go on? A guard that was itself passed by says no. -/
def wantedV (ops : List Oper) (tm : List (Nat × V)) (o : Oper) : Option Bool :=
  match o.guard with
  | none => some true
  | some (j, want) => match (ops[j]?).bind (·.dst) with
    | none => none
    | some d => match look tm d with
      | some (.bool b) => some (b == want)
      | some (.tup []) => some false
      | _ => none

def aid : V → List Nat
  | .ptr id _ => [id]
  | .ept id _ _ => [id]
  | _ => []
def crid (v : V) : List Nat := rid v ++ aid v
/-- The numbers at which an operation looks. -/
def hreads (op : Op) (e : Operand → V) : List Nat :=
  match op with
  | .load _ a => aid (e a)
  | .store _ a x => aid (e a) ++ rid (e x)
  | .convert _ _ x => rid (e x)
  | .slice _ x _ _ _ => rid1 (e x) ++ aid (e x)
  | .indexAddr _ x _ => rid1 (e x)
  | .sliceToArrayPointer _ x => rid1 (e x)
  | .buildSlice _ _ ps => (ps.toList.map fun p => rid (e p.2)).flatten
  | .call { callee := .builtin _, args, .. } => (args.toList.map fun x => rid (e x)).flatten
  | .call { callee := .value g, args, .. } => match e g with
    | .fn _ first cap => (first ++ (args.toList.map e) ++ cap).flatMap crid
    | _ => []
  | _ => []

/-- The number under which a round is called. -/
def yn : Nat := 1000000000
/-- A function without things of its own is no reference. -/
def flatF : V → Bool
  | .fn (.func _) [] [] => true
  | v => flat1 v
/-- The variables of the caller's that a call is handed by their places; all else without references. -/
def varOf (h : Nat → Option Ob) : V → Option (List (Nat × Ob))
  | .ptr id 0 => match h id with | some (.var cs) => if cs.all flatF then some [(id, .var cs)] else none | _ => none
  | v => if flat v then some [] else none
def varsOf (h : Nat → Option Ob) : List V → Option (List (Nat × Ob))
  | [] => some []
  | v :: r => (varOf h v).bind fun a => (varsOf h r).map fun b => a ++ b
def topOf (hs : List (Nat × Ob)) : Nat := hs.foldl (fun m p => max m (p.1 + 1)) 0
def backOf (h' : Nat → Option Ob) : List (Nat × Ob) → Option (List (Nat × Ob))
  | [] => some []
  | p :: r => match h' p.1 with
    | some (.var cs) => if cs.all flatF then (backOf h' r).map fun b => (p.1, .var cs) :: b else none
    | _ => none
def endV (hs : List (Nat × Ob)) (r : V × List (Nat × Ob) × Nat) : Option (V × List (Nat × Ob)) :=
  if flatR r.1 then (backOf (look r.2.1) hs).map fun ws => (r.1, ws) else none
/-- A call that is handed variables of the caller's: what it answers, and what they are then. -/
def callV (call : CallFn) (f : Nat) (vs : List V) (h : Nat → Option Ob) : Option (V × List (Nat × Ob)) :=
  (varsOf h vs).bind fun hs => (call f vs hs (topOf hs)).bind (endV hs)
/-- What one operation answers and writes. -/
def stepE (P : Program) (C : Cfg) (call : CallFn) (op : Op) (e : Operand → V) (h : Nat → Option Ob) (b : Nat) : Option (V × List (Nat × Ob)) :=
  match op with
  | .call { callee := .value g, args, .. } => match e g with
    | .fn (.func f) first cap => if Nat.beq f yn then none else if C.vcl.any (Nat.beq f) then callV call f (first ++ (args.toList.map e) ++ cap) h else
        (purifys h (first ++ (args.toList.map e) ++ cap)).bind fun ps => (callP call f ps).map fun r => (r, if flatR r then [] else freeze h ((first ++ (args.toList.map e) ++ cap).flatMap rid))
    | _ => none
  | op => opSem P op e h b
def stepD (P : Program) (C : Cfg) (call : CallFn) (o : Oper) (st : St) : Option (V × List (Nat × Ob)) := stepE P C call o.op (ev st.tm) (look st.hp) st.nx

/-- Is a function called that works on the caller's own things, or a round? -/
def inlOf (C : Cfg) (op : Op) (e : Operand → V) : Option (Nat × List V) :=
  match op with
  | .call { callee := .value g, args, .. } => match e g with
    | .fn (.func f) first cap => if C.inl.contains f && !Nat.beq f yn then some (f, first ++ (args.toList.map e) ++ cap) else none
    | .yld id => some (yn, .yld id :: args.toList.map e)
    | _ => none
  | _ => none
def evalOp (P : Program) (C : Cfg) (call : CallFn) (o : Oper) (st : St) : Option St :=
  match inlOf C o.op (ev st.tm) with
  | some (f, as) => (call f as st.hp st.nx).map fun r => { tm := putD st.tm o.dst r.1, hp := r.2.1, nx := r.2.2 }
  | none => (stepD P C call o st).map fun r => { tm := putD st.tm o.dst r.1, hp := puts st.hp r.2, nx := st.nx + 4 }

def evalOps (P : Program) (C : Cfg) (call : CallFn) (ops : List Oper) : List Oper → St → Option St
  | [], st => some st
  | o :: r, st => (wantedV ops st.tm o).bind fun b =>
      if b then (evalOp P C call o st).bind (evalOps P C call ops r) else evalOps P C call ops r { st with tm := putD st.tm o.dst (.tup []), nx := st.nx + 4 }

def evalD (P : Program) (C : Cfg) (call : CallFn) (ops : List Oper) : List Oper → St → Option (St × List (List Nat × List Nat))
  | [], st => some (st, [])
  | o :: r, st => (wantedV ops st.tm o).bind fun b =>
      if b then (stepD P C call o st).bind fun x =>
        (evalD P C call ops r { tm := putD st.tm o.dst x.1, hp := puts st.hp x.2, nx := st.nx + 4 }).map fun y => (y.1, (hreads o.op (ev st.tm), x.2.map (·.1)) :: y.2)
      else (evalD P C call ops r { st with tm := putD st.tm o.dst (.tup []), nx := st.nx + 4 }).map fun y => (y.1, ([], []) :: y.2)

def disjoint (a b : List Nat) : Bool := a.all fun x => !b.contains x
def pairOk (l : List (List Nat × List Nat)) (i j : Nat) : Bool :=
  let x := l.getD i ([], [])
  let y := l.getD j ([], [])
  disjoint x.2 y.1 && disjoint x.2 y.2 && disjoint y.2 x.1

/-- Is a region's last operation to be carried out by itself (all others are ahead of it)? A pair that no region has tells. -/
def isLst (ps : List (Nat × Nat)) : Bool := ps.any fun p => Nat.beq p.1 9999

def ids1 : V → List (Nat × Bool)
  | .ref id => [(id, true)]
  | .sub id _ _ => [(id, true)]
  | .ept id _ _ => [(id, true)]
  | .vsl id _ _ => [(id, false)]
  | .ptr id _ => [(id, false)]
  | .yld id => [(id, false)]
  | _ => []
def ids : V → List (Nat × Bool)
  | .agg cs => cs.flatMap ids1
  | .fn _ a c => a.flatMap ids1 ++ c.flatMap ids1
  | v => ids1 v
def adds (n0 : Nat) (all : Bool) (m : List (Nat × Nat)) : List (Nat × Bool) → List (Nat × Nat)
  | [] => m
  | p :: r => if (look m p.1).isSome then adds n0 all m r
      else if n0 ≤ p.1 || (all && p.2) then adds n0 all (m ++ [(p.1, n0 + m.length)]) r else adds n0 all m r
def follow (n0 : Nat) (hp : List (Nat × Ob)) : Nat → Nat → List (Nat × Nat) → List (Nat × Nat)
  | 0, _, m => m
  | k + 1, i, m => match m[i]? with
    | none => m
    | some p => match look hp p.1 with
      | some ob => follow n0 hp k (i + 1) (adds n0 true m (ob.vals.flatMap ids))
      | _ => follow n0 hp k (i + 1) m
def roots (n0 : Nat) (hp : List (Nat × Ob)) : List (Nat × Bool) :=
  hp.flatMap fun p => if p.1 < n0 then (p.2.vals.flatMap ids).filter (·.2) else []
def renTo (n0 : Nat) (m : List (Nat × Nat)) (id : Nat) (k : Nat → V) : V := match look m id with | some n => k n | none => if id < n0 then k id else .junk
def ren1 (n0 : Nat) (m : List (Nat × Nat)) (v : V) : V :=
  match v with
  | .ref id => renTo n0 m id .ref
  | .sub id off len => renTo n0 m id fun n => .sub n off len
  | .vsl id off len => renTo n0 m id fun n => .vsl n off len
  | .ptr id off => renTo n0 m id fun n => .ptr n off
  | .ept id i off => renTo n0 m id fun n => .ept n i off
  | .yld id => renTo n0 m id .yld
  | .agg _ | .tup _ | .fn _ _ _ | .ifc _ _ => .junk
  | v => v
def ren (n0 : Nat) (m : List (Nat × Nat)) (v : V) : V :=
  match v with
  | .agg cs => .agg (cs.map (ren1 n0 m))
  | .fn f a c => .fn f (a.map (ren1 n0 m)) (c.map (ren1 n0 m))
  | v => ren1 n0 m v
def renOb (n0 : Nat) (m : List (Nat × Nat)) : Ob → Ob
  | .var cs => .var (cs.map (ren n0 m))
  | .loop s fc c tm => .loop s fc c (tm.map fun p => (p.1, ren n0 m p.2))
  | .bld t e r s => match look m r with | some r' => .bld t e r' s | none => if r < n0 then .bld t e r s else .dead
  | .raw o => match look m o with | some o' => .raw o' | none => if o < n0 then .raw o else .dead
  | o => o
def gc (n0 : Nat) (st : St) : St :=
  let m := follow n0 st.hp (st.hp.length + 1) 0 (adds n0 false (adds n0 true [] (roots n0 st.hp)) (st.tm.flatMap fun p => ids p.2))
  { tm := st.tm.map fun p => (p.1, ren n0 m p.2)
    hp := ((st.hp.filter fun p => decide (p.1 < n0) && (look m p.1).isNone).map fun p => (p.1, renOb n0 m p.2)) ++
      m.map fun p => (p.2, renOb n0 m ((look st.hp p.1).getD .dead))
    nx := n0 + m.length }
def restrict (keep : List Nat) (tm : List (Nat × V)) : List (Nat × V) := keep.filterMap fun s => (look tm s).map fun v => (s, v)
/-- nil becomes a row that has nothing yet (of a slot, or of a part of the variable to which a slot points: at (number / 1000); the size: (number % 1000)). -/
def accs : List (Nat × Nat) → St → St
  | [], st => st
  | p :: r, st => match look st.tm p.1 with
    | some (.sl _ true _ []) => accs r { tm := put st.tm p.1 (.ref st.nx), hp := put st.hp st.nx (.row false (p.2 % 1000) []), nx := st.nx + 1 }
    | some (.sub id 0 0) => match look st.hp id with
      | some (.row false s _) => accs r { tm := put st.tm p.1 (.ref st.nx), hp := put (put st.hp id .dead) st.nx (.row false s []), nx := st.nx + 1 }
      | _ => accs r st
    | some (.ptr id 0) => match look st.hp id with
      | some (.var cs) => match cs[p.2 / 1000]? with
        | some (.sl _ true _ []) => accs r { tm := st.tm, hp := put (put st.hp st.nx (.row false (p.2 % 1000) [])) id (.var (cs.set (p.2 / 1000) (.ref st.nx))), nx := st.nx + 1 }
        | _ => accs r st
      | _ => accs r st
    | _ => accs r st
def head (n0 : Nat) (slots : List Nat) (acc : List (Nat × Nat)) (st : St) : St := gc n0 (accs acc { st with tm := restrict slots st.tm })

def iter (f : St → Option (Exit × St)) (hd : St → St) : Nat → St → Option (Exit × St)
  | 0, _ => none
  | k + 1, st => (f st).bind fun r => match r.1 with
    | .normal => iter f hd k (hd r.2)
    | x => some (x, r.2)

/-- A range over a function: whom it calls, with what; how it is left. -/
def entry (fc : FC) (c : Code) (g : Operand) (st : St) : Option (Nat × List V × List (Nat × Ob)) :=
  match ev st.tm g with
  | .fn (.func f) first cap => if Nat.beq f yn then none else some (f, first ++ [.yld st.nx] ++ cap, put st.hp st.nx (.loop .ready fc c st.tm))
  | _ => none
def left (l : Nat) (hp : List (Nat × Ob)) (nx : Nat) : Option (Exit × St) :=
  match look hp l with
  | some (.loop .ready _ _ tm) => some (.normal, { tm, hp := put hp l .dead, nx })
  | some (.loop (.done e) _ _ tm) => some (e, { tm, hp := put hp l .dead, nx })
  | _ => none
/-- A round: yield's arguments are laid into the loop's own slots. -/
def setps (tm : List (Nat × V)) : List Nat → List V → List (Nat × V)
  | d :: ds, v :: vs => setps (put tm d v) ds vs
  | _, _ => tm
def begun (id : Nat) (hp : List (Nat × Ob)) : Option (List (Nat × Ob)) :=
  match look hp id with
  | some (.loop .ready fc c tm) => some (put hp id (.loop .busy fc c tm))
  | _ => none
def ended (id : Nat) (r : Exit × St) : Option (V × List (Nat × Ob) × Nat) :=
  match look r.2.hp id with
  | some (.loop .busy fc c tm) => match r.1 with
    | .normal => some (.bool true, put r.2.hp id (.loop .ready fc c tm), r.2.nx)
    | .ret => some (.bool false, put r.2.hp id (.loop (.done .ret) fc c tm), r.2.nx)
    | .exit i => some (.bool false, put r.2.hp id (.loop (.done (.exit i)) fc c tm), r.2.nx)
    | _ => none
  | _ => none
def roundOf (args : List V) (hp : List (Nat × Ob)) : Option (Nat × FC × Code × Code × List (Nat × V)) :=
  match args with
  | .yld id :: ys => match look hp id with
    | some (.loop .ready fc (.rangeFunc _ ps asg body) tm) => if ps.size = ys.length then some (id, fc, asg, body, setps tm ps.toList ys) else none
    | _ => none
  | _ => none

def evalCode (P : Program) (C : Cfg) (call : CallFn) (n0 : Nat) (fc : FC) (k : Nat) : Code → St → Option (Exit × St)
  | .skip, st => some (.normal, st)
  | .label _, st => some (.normal, st)
  | .region id ops draw, st =>
    if draw then (if isLst ((look fc.draws id).getD []) then
        (evalD P C call ops.toList.dropLast ops.toList.dropLast st).bind fun y =>
          if (((look fc.draws id).getD []).all fun p => pairOk y.2 p.1 p.2) then (match ops.toList.getLast? with
            | some o => (evalOp P C call o y.1).map fun st => (.normal, { st with tm := restrict fc.keep st.tm })
            | none => none) else none
      else (evalD P C call ops.toList ops.toList st).bind fun y =>
        if (((look fc.draws id).getD []).all fun p => pairOk y.2 p.1 p.2) then some (.normal, { y.1 with tm := restrict fc.keep y.1.tm }) else none)
    else (evalOps P C call ops.toList ops.toList st).map fun st => (.normal, { st with tm := restrict fc.keep st.tm })
  | .seq a b, st => (evalCode P C call n0 fc k a st).bind fun r => match r.1 with
    | .normal => evalCode P C call n0 fc k b r.2
    | x => some (x, r.2)
  | .cond c a b, st => match ev st.tm c with
    | .bool t => if t then evalCode P C call n0 fc k a st else evalCode P C call n0 fc k b st
    | _ => none
  | .block id b, st => (evalCode P C call n0 fc k b st).map fun r => match r.1 with
    | .exit i => if i = id then (.normal, r.2) else (.exit i, r.2)
    | x => (x, r.2)
  | .loop b, st => iter (evalCode P C call n0 fc k b) (head n0 (st.tm.map (·.1)) fc.acc) k (head n0 (st.tm.map (·.1)) fc.acc st)
  | .exit id, st => some (.exit id, st)
  | .ret, st => some (.ret, st)
  | .scope b, st => (evalCode P C call n0 fc k b st).bind fun r => match r.1 with | .goto _ => none | _ => some r
  | .rangeFunc g ps asg body, st => (entry fc (.rangeFunc g ps asg body) g (gc n0 (accs fc.acc st))).bind fun x => (call x.1 x.2.1 x.2.2 ((gc n0 (accs fc.acc st)).nx + 1)).bind fun r => left (gc n0 (accs fc.acc st)).nx r.2.1 r.2.2
  | _, _ => none

def evalRes (P : Program) (st : St) : List ResultVar → Option (List V)
  | [] => some []
  | .tmp t :: r => (look st.tm t).bind fun v => (evalRes P st r).map fun vs => v :: vs
  | .cell a t :: r => match ev st.tm (.tmp a) with
    | .ptr id off => match look st.hp id with
      | some (.var cs) => (readC P t cs off).bind fun v => (evalRes P st r).map fun vs => v :: vs
      | _ => none
    | _ => none

def pack : List V → V
  | [v] => v
  | vs => .tup vs

def idx (n : Nat) : List V → List (Nat × V)
  | [] => []
  | v :: r => (n, v) :: idx (n + 1) r

/-- The greatest length of what a builder takes. -/
def maxBld : Nat := 70368744177664
def repeatN (s : List UInt8) : Nat → List UInt8
  | 0 => []
  | n + 1 => s ++ repeatN s n
/-- What strings.Trim leaves of a text, at ASCII bytes. -/
def trimB (s c : List UInt8) : List UInt8 := ((s.reverse.dropWhile (c.contains ·)).reverse).dropWhile (c.contains ·)
def asciiB (c : List UInt8) : Bool := c.all fun b => decide (b.toNat < 128)
/-- Elements of two numbers of 64 bits each, by their first ones. -/
def isE2 : V → Bool
  | .agg [.int .u64 _, .int .u64 _] => true
  | _ => false
def e2 : V → Int × Int
  | .agg [.int _ a, .int _ b] => (a, b)
  | _ => (0, 0)
def vE2 (x : Int × Int) : V := .agg [.int .u64 x.1, .int .u64 x.2]
def ltE (x y : Int × Int) : Bool := decide (x.1 < y.1)
/-- What slices.SortFunc makes of them. -/
def sortE (xs : List V) : List V := (Go.Sort.pdq ltE (xs.map e2).toArray 0 xs.length (Go.Lib.bitLen xs.length) true true).toList.map vE2
/-- A row of the caller's own, or its first ones. -/
def ownRow (x : V) (hp : List (Nat × Ob)) : Option (Nat × Nat × List V) :=
  match x with
  | .ref id => match look hp id with | some (.row false s xs) => some (id, s, xs) | _ => none
  | .sub id 0 n => match look hp id with | some (.row false s xs) => some (id, s, xs.take n) | _ => none
  | _ => none
def insL (xs : List V) (i : Nat) (c : V) : List V := xs.take i ++ c :: xs.drop i
/-- The library's functions that are told by contracts. 1: (*strings.Builder).WriteString; 2: String (nothing is written behind it); 4: Len; 3: strings.Repeat; 5: strings.Trim; 6: slices.Insert of one element (of t cells) to a row of the caller's own; 8: slices.Clone of elements of t cells; 7: slices.SortFunc at elements of two numbers, by a function (t) that compares their first ones. -/
def libSem (K : Lk) (args : List V) (hp : List (Nat × Ob)) (nx : Nat) : Option (V × List (Nat × Ob) × Nat) :=
  match K.k with
  | 1 => match args with
    | [.ptr id 0, .str x] => match look hp id with
      | some (.bld t e r s) => match look hp r with
        | some (.raw o) => if Nat.beq o id && Nat.beq t K.t && Nat.beq e K.e then guardP (s.length + x.length ≤ maxBld) (some (.tup [.int .i64 x.length, .nili], put (put (put hp r .dead) nx (.raw id)) id (.bld t e nx (s ++ x)), nx + 1)) else none
        | _ => none
      | _ => none
    | _ => none
  | 2 => match args with
    | [.ptr id 0] => match look hp id with
      | some (.bld t e r s) => match look hp r with
        | some (.raw o) => if Nat.beq o id && Nat.beq t K.t && Nat.beq e K.e then some (.str s, put (put hp r .dead) id .dead, nx) else none
        | _ => none
      | _ => none
    | _ => none
  | 4 => match args with
    | [.ptr id 0] => match look hp id with
      | some (.bld t e r s) => match look hp r with
        | some (.raw o) => if Nat.beq o id && Nat.beq t K.t && Nat.beq e K.e then some (.int .i64 s.length, hp, nx) else none
        | _ => none
      | _ => none
    | _ => none
  | 3 => match args with
    | [.str s, .int .i64 n] => guardP (0 ≤ n ∧ s.length * n.toNat ≤ maxBld ∧ n ≤ maxBld) (some (.str (repeatN s n.toNat), hp, nx))
    | _ => none
  | 5 => match args with
    | [.str s, .str c] => guardP (s.length ≤ maxBld ∧ c.length ≤ 1000 ∧ asciiB c = true) (some (.str (trimB s c), hp, nx))
    | _ => none
  | 6 => match args with
    | [.sl _ true _ [], .int .i64 0, .ref y] => match look hp y with
      | some (.row _ s' [c]) => guardP (s' = K.t) (some (.ref nx, put hp nx (.row false K.t [c]), nx + 4))
      | _ => none
    | [x, .int .i64 i, .ref y] => match ownRow x hp with
      | some (id, s, xs) => match look hp y with
        | some (.row _ s' [c]) => guardP (y ≠ id ∧ s = K.t ∧ s' = K.t ∧ 0 ≤ i ∧ i.toNat ≤ xs.length ∧ xs.length < maxLen') (some (.ref nx, put (put hp id .dead) nx (.row false K.t (insL xs i.toNat c)), nx + 4))
        | _ => none
      | _ => none
    | _ => none
  | 8 => match args with
    | [.sl _ _ s xs] => guardP ((s = K.t ∨ xs.isEmpty = true) ∧ xs.length ≤ maxLen') (some (.ref nx, put hp nx (.row false K.t xs), nx + 4))
    | _ => none
  | 7 => match args with
    | [.ref id, .fn (.func f) [] []] => match look hp id with
      | some (.row false s xs) => guardP (f = K.t ∧ s = 2 ∧ xs.all isE2 = true ∧ xs.length ≤ maxLen') (some (.tup [], put hp id (.row false s (sortE xs)), nx))
      | _ => none
    | [.sl _ _ _ [], .fn (.func f) [] []] => some (.tup [], hp, nx)
    | _ => none
  | _ => none

def evalBody (P : Program) (C : Cfg) (call : CallFn) (k : Nat) : CallFn := fun f args hp nx =>
  match look C.lib f with
  | some kind => libSem kind args hp nx
  | none => match look C.fcs f, P.funcs[f]? with
    | some fc, some fn => match fn.body with
      | some c => (evalCode P C call nx fc k c { tm := idx 0 args, hp, nx }).bind fun r => match r.1 with
        | .normal | .ret => (evalRes P r.2 fn.results.toList).map fun vs => (pack vs, r.2.hp, r.2.nx)
        | _ => none
      | none => none
    | _, _ => none
def evalRound (P : Program) (C : Cfg) (call : CallFn) (k : Nat) (args : List V) (hp : List (Nat × Ob)) (nx : Nat) : Option (V × List (Nat × Ob) × Nat) :=
  (roundOf args hp).bind fun x => (evalCode P C call nx x.2.1 k x.2.2.1 { tm := x.2.2.2.2, hp, nx }).bind fun r => match r.1 with
    | .normal => (begun x.1 r.2.hp).bind fun hp' => (evalCode P C call nx x.2.1 k x.2.2.2.1 { tm := r.2.tm, hp := hp', nx := r.2.nx }).bind (ended x.1)
    | _ => none
def evalFn (P : Program) (C : Cfg) : Nat → CallFn
  | 0, _, _, _, _ => none
  | k + 1, f, args, hp, nx => if Nat.beq f yn then evalRound P C (evalFn P C k) k args hp nx else evalBody P C (evalFn P C k) k f args hp nx

def evalP (P : Program) (C : Cfg) (k : Nat) (f : Nat) (args : List V) : Option V := callP (evalFn P C k) f args

/-- 0: the operation has nothing to do with what lies under numbers; 1: it looks; 2: it may write. -/
def touch (op : Op) : Nat :=
  match op with
  | .alloc _ | .box _ _ | .buildSlice _ _ _ | .store _ _ _ | .makeSlice _ _ _ | .convert _ _ _ => 2
  | .load _ _ | .slice _ _ _ _ _ | .indexAddr _ _ _ | .sliceToArrayPointer _ _ => 1
  | .call { callee := .builtin .len, .. } | .call { callee := .builtin .max, .. } | .call { callee := .builtin .min, .. } => 1
  | .call _ => 2
  | _ => 0
/-- The operations that are carried out ahead of each, whatever is drawn. -/
def nub (l : List Nat) : List Nat := l.foldl (fun acc x => if acc.any (Nat.beq x) then acc else x :: acc) []
def ahead (ops : List Oper) : List (List Nat) :=
  ops.foldl (fun acc o => acc ++ [nub (o.after.toList.flatMap fun e => if Region.binds .any e then e.on :: acc.getD e.on [] else [])]) []
def names (ops : List Oper) (o : Oper) : List Nat :=
  (o.op.operands.toList.filterMap fun x => match x with | .tmp t => some t | _ => none) ++
    (match o.guard with | some (g, _) => ((ops[g]?).bind (·.dst)).toList | none => [])
def tmpsApart (ops : List Oper) (x y : Oper) : Bool :=
  (match x.dst with | some d => !(names ops y).contains d && y.dst != some d | none => true) &&
  (match y.dst with | some d => !(names ops x).contains d | none => true)
def regionOk (ops : List Oper) (pairs : List (Nat × Nat)) : Bool :=
  let an := ahead ops
  (List.range ops.length).all fun j => (List.range j).all fun i =>
    (an.getD j []).contains i ||
    (match ops[i]?, ops[j]? with
      | some x, some y => tmpsApart ops x y && (touch x.op == 0 || touch y.op == 0 || (touch x.op ≤ 1 && touch y.op ≤ 1) || pairs.contains (i, j))
      | _, _ => false)
def edgesOk (ops : List Oper) : Bool := (List.range ops.length).all fun j => match ops[j]? with
  | some o => o.after.toList.all (fun e => !Region.binds .any e || Nat.blt e.on j) && (match o.op with | .defer _ => false | .select _ _ => false | _ => true)
  | none => true
def lastOk (L : List Oper) : Bool := match L.getLast? with
  | some o => o.guard.isNone && (List.range (L.length - 1)).all fun i => ((ahead L).getD (L.length - 1) []).any (Nat.beq i)
  | none => false
def dstsOk (n : Nat) (ops : List Oper) : Bool := ops.all fun o => match o.dst with | some d => Nat.blt d n | none => true
def codeOk (n : Nat) (draws : List (Nat × List (Nat × Nat))) : Code → Bool
  | .region id ops draw => dstsOk n ops.toList && (!draw || (edgesOk ops.toList && (if isLst ((look draws id).getD []) then lastOk ops.toList && regionOk ops.toList.dropLast ((look draws id).getD []) else regionOk ops.toList ((look draws id).getD []))))
  | .seq a b => codeOk n draws a && codeOk n draws b
  | .cond _ a b => codeOk n draws a && codeOk n draws b
  | .block _ b => codeOk n draws b
  | .loop b => codeOk n draws b
  | .rangeFunc _ ps a b => codeOk n draws a && codeOk n draws b && ps.toList.all fun d => Nat.blt d n
  | .scope b => codeOk n draws b
  | _ => true
def funcOk (fc : FC) (fn : Func) : Bool :=
  match fn.body with
  | some c => codeOk fn.ntmps fc.draws c && !(fn.name == "runtime.NumGoroutine")
  | none => false
def progOk (P : Program) (C : Cfg) : Bool := C.fcs.all fun p => match P.funcs[p.1]? with | some fn => funcOk p.2 fn | none => false

end Go.Sym
