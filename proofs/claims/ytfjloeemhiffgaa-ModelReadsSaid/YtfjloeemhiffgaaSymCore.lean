/- DERIVED. A machine of plain values for the programs of these seats: what a Go function answers, told without addresses. Nothing here is trusted: the later texts prove that whatever it answers the model answers too. -/
import Derived.OrdersIn
import Derived.TacticsIn
import Derived.Wp
namespace Go.Sym

/-- Plain values. 'sl n c s xs': a slice that nobody writes to (n: whether it is nil, if that is known; c: it has no spare place; s: an element's cells); 'ref', 'sub': slices over a row of the call's own; 'ptr': a cell of a variable; 'ept': a cell of a row's element; 'cpt': a cell of a value that nobody writes to. -/
inductive V where
  | junk
  | bool (b : Bool)
  | int (k : IntKind) (n : Int)
  | str (s : List UInt8)
  | agg (cs : List V)
  | tup (vs : List V)
  | sl (nl : Option Bool) (clip : Bool) (size : Nat) (xs : List V)
  | ref (id : Nat)
  | sub (id off len : Nat)
  | vsl (id off len : Nat)
  | ptr (id off : Nat)
  | ept (id i off : Nat)
  | cpt (v : V) (off : Nat)
  | nilp
  | fn (f : Fn) (first cap : List V)
  | nilf
  | ifc (t : TypeId) (v : V)
  | nili
  | yld (id : Nat)

/-- What is told of a function ahead: which slots live on behind a region; of each region that draws its order, which pairs of its operations are to be looked at; which slots hold nil where a row of elements of a size is to grow. -/
structure FC where
  keep : List Nat
  draws : List (Nat × List (Nat × Nat))
  acc : List (Nat × Nat)
/-- A range over a function: a round may begin; one is under way; one was left so. -/
inductive LS where
  | ready
  | busy
  | done (e : Exit)
/-- What lies under a number: a variable's cells; a row of elements of so many cells each (frozen: it may grow, but none of its elements is written any more); a range over a function: its code, and its function's slots; nothing. -/
inductive Ob where
  | var (cs : List V)
  | row (frozen : Bool) (size : Nat) (xs : List V)
  | loop (s : LS) (fc : FC) (c : Code) (tm : List (Nat × V))
  | bld (t e r : Nat) (s : List UInt8)
  | raw (o : Nat)
  | dead
def Ob.vals : Ob → List V
  | .var cs => cs
  | .loop _ _ _ tm => tm.map (·.2)
  | .bld _ _ r _ => [.ref r]
  | _ => []
/-- Does a pointer into a variable lead there? -/
def Ob.isV : Ob → Bool
  | .var _ => true
  | .bld _ _ _ _ => true
  | _ => false

def solid : V → Bool
  | .junk => false
  | .tup _ => false
  | _ => true
def V.cells : V → List V
  | .agg cs => cs
  | v => [v]

def guardP {α : Type} (p : Prop) [Decidable p] (x : Option α) : Option α := if p then x else none
theorem guardP_pos {α : Type} {p : Prop} [Decidable p] {x : Option α} (h : p) : guardP p x = x := if_pos h
theorem guardP_some {α : Type} {p : Prop} [Decidable p] {x : Option α} {y : α} : guardP p x = some y ↔ p ∧ x = some y := by
  unfold guardP; split <;> simp [*]

def look {α : Type} : List (Nat × α) → Nat → Option α
  | [], _ => none
  | p :: r, n => if p.1 = n then some p.2 else look r n
def put {α : Type} : List (Nat × α) → Nat → α → List (Nat × α)
  | [], n, v => [(n, v)]
  | p :: r, n, v => if p.1 = n then (n, v) :: r else p :: put r n v
def puts {α : Type} (l : List (Nat × α)) : List (Nat × α) → List (Nat × α)
  | [] => l
  | p :: r => puts (put l p.1 p.2) r

theorem look_put {α : Type} (l : List (Nat × α)) (n m : Nat) (v : α) : look (put l n v) m = if n = m then some v else look l m := by
  induction l with
  | nil => simp [put, look]
  | cons p r ih =>
    unfold put
    by_cases h : p.1 = n
    · rw [if_pos h]; unfold look; subst h; simp only []; split <;> simp
    · rw [if_neg h]; unfold look; rw [ih]
      by_cases h2 : p.1 = m
      · rw [if_pos h2, if_pos h2, if_neg (fun e => h (by omega))]
      · rw [if_neg h2, if_neg h2]

/-- The constants of the code. -/
def leafOf : Value → V
  | .bool b => .bool b
  | .int k n => .int k n
  | .string s => .str s.data.toList
  | .pointer none => .nilp
  | .slice none 0 0 => .sl (some true) true 0 []
  | .nilFunc => .nilf
  | .nilIface => .nili
  | _ => .junk
def ofValue : Value → V
  | .agg cs => if cs.toList.all Value.oneCell then .agg (cs.toList.map leafOf) else .junk
  | v => leafOf v

section types
variable (P : Program)
def tsize (t : TypeId) : Nat := ((P.info? t).map (·.size)).getD 0
def tbytes (t : TypeId) : Nat := ((P.info? t).map (·.bytes)).getD 0
def tzero (t : TypeId) : Option V := ((P.info? t).bind (·.zero)).map ofValue
def tagg (t : TypeId) : Option Bool := match P.underlying t with | some (.struct _) => some true | some (.array _ _) => some true | some _ => some false | none => none
def telem (t : TypeId) : Option TypeId := match P.underlying t with | some (.slice e) => some e | _ => none
def tslice (t : TypeId) : Bool := match P.underlying t with | some .string => true | some (.slice _) => true | _ => false
def tfield (t : TypeId) (f : Nat) : Option (Nat × TypeId) := match P.underlying t with | some (.struct fs) => (fs[f]?).map fun f => (f.offset, f.type) | _ => none
end types

/-- strings.Builder's type: its own address and a row of bytes: the byte's type. -/
def bldElem (P : Program) (t : TypeId) : Option TypeId :=
  match (P.info? t).bind (·.zero), P.underlying t with
  | some (.agg ⟨[.pointer none, .slice none 0 0]⟩), some (.struct ⟨[f, g]⟩) => if f.name == "addr" && g.name == "buf" then (match P.underlying g.type with
      | some (.slice e) => match P.underlying e with | some (.int .u8) => some e | _ => none
      | _ => none) else none
  | _, _ => none

/-- A part of cells: of a type's size, from a place on. -/
def readC (P : Program) (t : TypeId) (cs : List V) (off : Nat) : Option V :=
  match tagg P t with
  | some true => guardP (off + tsize P t ≤ cs.length) (some (.agg ((cs.drop off).take (tsize P t))))
  | some false => cs[off]?
  | none => none
def one1 : V → Bool
  | .agg _ => false
  | _ => true
/-- So many elements of a row of one cell each, as one value. -/
def arr? (xs : List V) (i n : Nat) : Option V := guardP (i + n ≤ xs.length ∧ ((xs.drop i).take n).all one1 = true) (some (.agg ((xs.drop i).take n)))
def writeC (cs : List V) (off : Nat) (vs : List V) : Option (List V) := guardP (off + vs.length ≤ cs.length) (some (cs.take off ++ (vs ++ cs.drop (off + vs.length))))

def flat1 : V → Bool
  | .bool _ | .int _ _ | .str _ | .nilf | .nilp | .nili => true
  | _ => false
/-- Without references: what a row's elements may be, and what is handed to a callee that is asked by value. -/
def pure1 (h : Nat → Option Ob) : V → Option V
  | .ref id => match h id with | some (.row _ s xs) => some (.sl none false s xs) | _ => none
  | .sub id off len => match h id with | some (.row _ s xs) => some (.sl none false s ((xs.drop off).take len)) | _ => none
  | .bool b => some (.bool b)
  | .int k n => some (.int k n)
  | .str s => some (.str s)
  | .sl n c s xs => some (.sl n c s xs)
  | .fn (.func f) as [] => guardP (as.all flat1 = true) (some (.fn (.func f) as []))
  | .nilf => some .nilf
  | .nilp => some .nilp
  | .nili => some .nili
  | _ => none
def pures (h : Nat → Option Ob) : List V → Option (List V)
  | [] => some []
  | v :: r => (pure1 h v).bind fun x => (pures h r).map fun xs => x :: xs
def purify (h : Nat → Option Ob) : V → Option V
  | .agg cs => (pures h cs).map .agg
  | v => pure1 h v
def purifys (h : Nat → Option Ob) : List V → Option (List V)
  | [] => some []
  | v :: r => (purify h v).bind fun x => (purifys h r).map fun xs => x :: xs
/-- A function's results, without references. -/
def purifyR (h : Nat → Option Ob) : V → Option V
  | .tup vs => (purifys h vs).map .tup
  | v => purify h v

/-- Has it a slice in it (or may it)? -/
def flat : V → Bool
  | .agg cs => cs.all flat1
  | v => flat1 v
def flatR : V → Bool
  | .tup vs => vs.all flat
  | v => flat v

/-- The rows that values name. -/
def rid1 : V → List Nat
  | .ref id => [id]
  | .sub id _ _ => [id]
  | .vsl id _ _ => [id]
  | _ => []
def rid : V → List Nat
  | .agg cs => cs.flatMap rid1
  | v => rid1 v
def freeze (h : Nat → Option Ob) : List Nat → List (Nat × Ob)
  | [] => []
  | id :: r => match h id with | some (.row _ s xs) => (id, .row true s xs) :: freeze h r | _ => freeze h r

def intBin (op : BinOp) (k : IntKind) (a : Int) (k' : IntKind) (b : Int) : Option V :=
  match op with
  | .shl => guardP (0 ≤ b) (some (.int k (k.wrap (a * 2 ^ (min b.toNat k.bits)))))
  | .shr => guardP (0 ≤ b) (some (.int k (a.fdiv (2 ^ (min b.toNat k.bits)))))
  | .add => guardP (k = k') (some (.int k (k.wrap (a + b))))
  | .sub => guardP (k = k') (some (.int k (k.wrap (a - b))))
  | .mul => guardP (k = k') (some (.int k (k.wrap (a * b))))
  | .quo => guardP (k = k' ∧ b ≠ 0) (some (.int k (k.wrap (a.tdiv b))))
  | .rem => guardP (k = k' ∧ b ≠ 0) (some (.int k (a.tmod b)))
  | .and => guardP (k = k') (some (.int k (k.wrap ((BitVec.ofInt k.bits a &&& BitVec.ofInt k.bits b).toNat))))
  | .or => guardP (k = k') (some (.int k (k.wrap ((BitVec.ofInt k.bits a ||| BitVec.ofInt k.bits b).toNat))))
  | .xor => guardP (k = k') (some (.int k (k.wrap ((BitVec.ofInt k.bits a ^^^ BitVec.ofInt k.bits b).toNat))))
  | .andNot => guardP (k = k') (some (.int k (k.wrap ((BitVec.ofInt k.bits a &&& ~~~ BitVec.ofInt k.bits b).toNat))))
  | .eql => guardP (k = k') (some (.bool (decide (a = b))))
  | .neq => guardP (k = k') (some (.bool (!decide (a = b))))
  | .lss => guardP (k = k') (some (.bool (decide (a < b))))
  | .leq => guardP (k = k') (some (.bool (decide (a ≤ b))))
  | .gtr => guardP (k = k') (some (.bool (decide (b < a))))
  | .geq => guardP (k = k') (some (.bool (decide (b ≤ a))))

def maxText : Nat := 70368744177664
def strBin (op : BinOp) (a b : List UInt8) : Option V :=
  match op with
  | .add => guardP (a.length + b.length ≤ maxText) (some (.str (a ++ b)))
  | .eql => some (.bool (decide (a = b)))
  | .neq => some (.bool (!decide (a = b)))
  | .lss => some (.bool (Op.bytesLess a b))
  | .geq => some (.bool (!Op.bytesLess a b))
  | _ => none

def eqFs (P : Program) (eq : TypeId → V → V → Option Bool) : List Field → List V → List V → Option Bool
  | [], _, _ => some true
  | f :: r, xs, ys => guardP (f.name ≠ "_") ((readC P f.type xs f.offset).bind fun a => (readC P f.type ys f.offset).bind fun b =>
      (eq f.type a b).bind fun t => (eqFs P eq r xs ys).map fun u => t && u)
/-- The elements of two arrays. -/
def eqAs (P : Program) (eq : TypeId → V → V → Option Bool) (el : TypeId) (s : Nat) : List Nat → List V → List V → Option Bool
  | [], _, _ => some true
  | i :: r, xs, ys => (readC P el xs (i * s)).bind fun a => (readC P el ys (i * s)).bind fun b =>
      (eq el a b).bind fun t => (eqAs P eq el s r xs ys).map fun u => t && u
/-- Go's '==' on numbers, bools, texts, and structs of these. -/
def eqT (P : Program) : Nat → TypeId → V → V → Option Bool
  | 0, _, _, _ => none
  | d + 1, t, x, y =>
    match P.underlying t with
    | some .bool => match x, y with | .bool a, .bool b => some (decide (a = b)) | _, _ => none
    | some (.int _) => match x, y with | .int k a, .int k' b => guardP (k = k') (some (decide (a = b))) | _, _ => none
    | some .string => match x, y with | .str a, .str b => some (decide (a = b)) | _, _ => none
    | some (.struct fs) => match x, y with
      | .agg xs, .agg ys => guardP (P.stoodInHeld t = false) (eqFs P (eqT P d) fs.toList xs ys)
      | _, _ => none
    | some (.array n el) => match x, y with
      | .agg xs, .agg ys => guardP (0 < tsize P el) (eqAs P (eqT P d) el (tsize P el) (List.range n) xs ys)
      | _, _ => none
    | _ => none

/-- Is a slice nil? One with elements is not. -/
def isNil (n : Option Bool) (xs : List V) : Option Bool :=
  match n with
  | some b => some b
  | none => guardP (xs ≠ []) (some false)

def binV (P : Program) (op : BinOp) (t : TypeId) (x y : V) : Option V :=
  match x, y with
  | .int k a, .int k' b => intBin op k a k' b
  | .str a, .str b => strBin op a b
  | .bool a, .bool b => match op with
    | .eql => (eqT P 9 t (.bool a) (.bool b)).map .bool
    | .neq => (eqT P 9 t (.bool a) (.bool b)).map fun r => .bool (!r)
    | _ => none
  | .agg a, .agg b => match op with
    | .eql => guardP (P.eqGuardType P.depth t = false) ((eqT P 9 t (.agg a) (.agg b)).map .bool)
    | .neq => guardP (P.eqGuardType P.depth t = false) ((eqT P 9 t (.agg a) (.agg b)).map fun r => .bool (!r))
    | _ => none
  | .sl n _ _ xs, .sl (some true) _ _ [] => guardP ((telem P t).isSome = true) (match op with
    | .eql => (isNil n xs).map .bool
    | .neq => (isNil n xs).map fun r => .bool (!r)
    | _ => none)
  | _, _ => none

def unV (op : UnOp) (x : V) : Option V :=
  match op, x with
  | .not, .bool b => some (.bool (!b))
  | .neg, .int k n => some (.int k (k.wrap (0 - n)))
  | .xor, .int k n => intBin .xor k (if k.signed then -1 else k.max) k n
  | _, _ => none

def isByte : V → Bool | .int .u8 _ => true | _ => false
def byteOf : V → UInt8 | .int _ n => UInt8.ofNat n.toNat | _ => 0
/-- How many elements; the elements. -/
def elems (h : Nat → Option Ob) : V → Option (Nat × List V)
  | .sl _ _ s xs => some (s, xs)
  | .ref id => match h id with | some (.row _ s xs) => some (s, xs) | _ => none
  | .sub id off len => match h id with | some (.row _ s xs) => some (s, (xs.drop off).take len) | _ => none
  | .vsl id off len => match h id with | some (.var cs) => guardP (((cs.drop off).take len).all flat1 = true) (some (1, (cs.drop off).take len)) | _ => none
  | _ => none
def lenV (h : Nat → Option Ob) : V → Option Nat
  | .sl _ _ _ xs => some xs.length
  | .ref id => match h id with | some (.row _ _ xs) => some xs.length | _ => none
  | .sub id _ len => match h id with | some (.row _ _ _) => some len | _ => none
  | .vsl id _ len => match h id with | some (.var _) => some len | _ => none
  | _ => none

/-- The place that a part of a struct or an array has. -/
def place (P : Program) (t : TypeId) (i : Nat) : Option (Nat × Nat) :=
  match P.underlying t with
  | some (.struct fs) => (fs[i]?).map fun f => (f.offset, tsize P f.type)
  | some (.array _ e) => some (i * tsize P e, tsize P e)
  | _ => none
/-- Are the sizes of the parts known? -/
def partsOk (P : Program) (t : TypeId) : Bool :=
  match P.underlying t with
  | some (.struct fs) => fs.toList.all fun f => decide (0 < tsize P f.type)
  | some (.array _ e) => decide (0 < tsize P e)
  | _ => false
def fillV (pl : Nat → Option (Nat × Nat)) (cs : List V) : List (Nat × V) → Option (List V)
  | [] => some cs
  | p :: r => match pl p.1 with
    | some (off, size) => guardP (solid p.2 = true ∧ p.2.cells.length = size) ((writeC cs off p.2.cells).bind fun cs' => fillV pl cs' r)
    | none => none
/-- The elements of a slice that is written out: those that are told, else zeros. -/
def fillS (h : Nat → Option Ob) (size : Nat) (zs : List V) : List (Nat × V) → Option (List V)
  | [] => some zs
  | p :: r => guardP (p.1 < zs.length) ((purify h p.2).bind fun x => guardP (x.cells.length = size) (fillS h size (zs.set p.1 x) r))

def bound (x : V) : Option Nat := match x with | .int _ n => guardP (0 ≤ n) (some n.toNat) | _ => none
def boundD (x : Option V) (d : Nat) : Option Nat := match x with | some v => bound v | none => some d

/-- 'x[lo:hi:max]'. -/
def sliceV (h : Nat → Option Ob) (isS : Bool) (sz : Nat) (x : V) (lo hi mx : Option V) : Option V :=
  match x with
  | .str s => match mx with
    | none => (boundD lo 0).bind fun l => (boundD hi s.length).bind fun r => guardP (l ≤ r ∧ r ≤ s.length ∧ isS = false) (some (.str ((s.drop l).take (r - l))))
    | some _ => none
  | .sl n c s xs => (boundD lo 0).bind fun l => (boundD hi xs.length).bind fun r => (boundD mx r).bind fun m =>
      guardP (l ≤ r ∧ r ≤ xs.length ∧ m = r ∧ (s = sz ∨ xs.isEmpty = true) ∧ 0 < sz ∧ (mx.isNone || hi.isSome) = true) (some (.sl n (mx.isSome || (c && hi.isNone)) s ((xs.drop l).take (r - l))))
  | .ref id => match h id with
    | some (.row _ s xs) => (boundD lo 0).bind fun l => (boundD hi xs.length).bind fun r => guardP (l ≤ r ∧ r ≤ xs.length ∧ mx.isNone = true ∧ s = sz ∧ 0 < sz) (some (.sub id l (r - l)))
    | _ => none
  | .sub id off len => match h id with
    | some (.row _ s _) => (boundD lo 0).bind fun l => (boundD hi len).bind fun r => guardP (l ≤ r ∧ r ≤ len ∧ mx.isNone = true ∧ s = sz ∧ 0 < sz) (some (.sub id (off + l) (r - l)))
    | _ => none
  | _ => none

def maxLen' : Nat := 1099511627776

/-- 'append(x, ys..)': b: the number of a new row. -/
def appendV (h : Nat → Option Ob) (b : Nat) (size bytes : Nat) (x : V) (ys : List V) : Option (V × List (Nat × Ob)) :=
  match x with
  | .sl _ true _ [] => guardP (0 < size ∧ bytes ≤ 64 ∧ ys.length ≤ maxLen') (some (.ref b, [(b, .row false size ys)]))
  | .sl _ true s (x0 :: xs) => match ys with
    | [] => none
    | y :: ys => guardP (s = size ∧ 0 < size ∧ bytes ≤ 64 ∧ (x0 :: xs).length + (y :: ys).length ≤ maxLen') (some (.ref b, [(b, .row false size ((x0 :: xs) ++ (y :: ys)))]))
  | .ref id => match h id with
    | some (.row fz s xs) => guardP (s = size ∧ 0 < size ∧ bytes ≤ 64 ∧ xs.length + ys.length ≤ maxLen') (some (.ref b, [(id, .dead), (b, .row fz size (xs ++ ys))]))
    | _ => none
  | _ => none

/-- What an operation that calls no function answers: a value, and what is written; b, b + 1, ..: numbers of new things. -/
def opSem (P : Program) (op : Op) (e : Operand → V) (h : Nat → Option Ob) (b : Nat) : Option (V × List (Nat × Ob)) :=
  match op with
  | .move x | .assign x => some (e x, [])
  | .pick c x y => match e c with | .bool t => some (if t then e x else e y, []) | _ => none
  | .alloc t => match bldElem P t with
    | some e => guardP (tsize P t = 2) (some (.ptr b 0, [(b, .bld t e (b + 1) []), (b + 1, .raw b)]))
    | none => (tzero P t).bind fun z => guardP (solid z = true) (some (.ptr b 0, [(b, .var z.cells)]))
  | .box _ x => guardP (solid (e x) = true) (some (.ptr b 0, [(b, .var (e x).cells)]))
  | .build t ps => guardP (partsOk P t = true) ((tzero P t).bind fun z => guardP (solid z = true) ((fillV (place P t) z.cells (ps.toList.map fun p => (p.1, e p.2))).map fun cs => (.agg cs, [])))
  | .buildSlice t n ps => (telem P t).bind fun el => (tzero P el).bind fun z =>
      guardP (0 < tsize P el ∧ n * tsize P el ≤ 2 ^ 24 ∧ z.cells.length = tsize P el) ((purify h z).bind fun z => (fillS h (tsize P el) (List.replicate n z) (ps.toList.map fun p => (p.1, e p.2))).map fun xs =>
        (.ref b, freeze h ((ps.toList.map fun p => rid (e p.2)).flatten) ++ [(b, .row false (tsize P el) xs)]))
  | .load t a => match e a with
    | .ptr id off => match h id with | some (.var cs) => (readC P t cs off).map fun v => (v, []) | _ => none
    | .ept id i off => match h id with
      | some (.row _ s xs) => if s < tsize P t then guardP (s = 1 ∧ off = 0) ((arr? xs i (tsize P t)).bind fun x => (readC P t x.cells 0).map fun v => (v, [])) else (xs[i]?).bind fun x => (readC P t x.cells off).map fun v => (v, [])
      | _ => none
    | .cpt v off => (readC P t v.cells off).map fun v => (v, [])
    | _ => none
  | .sliceToArrayPointer t x => match P.underlying t with
    | some (.array n el) => guardP (0 < n ∧ tsize P el = 1) (match e x with
      | .vsl id off len => match h id with | some (.var _) => guardP (n ≤ len) (some (.ptr id off, [])) | _ => none
      | .ref id => match h id with | some (.row _ _ xs) => guardP (n ≤ xs.length) (some (.ept id 0 0, [])) | _ => none
      | .sub id off len => match h id with | some (.row _ _ _) => guardP (n ≤ len) (some (.ept id off 0, [])) | _ => none
      | _ => none)
    | _ => none
  | .store t a x => guardP (solid (e x) = true ∧ (e x).cells.length = tsize P t ∧ 0 < tsize P t) (match e a with
      | .ptr id off => match h id with | some (.var cs) => (writeC cs off (e x).cells).map fun cs' => (.tup [], [(id, .var cs')]) | _ => none
      | .ept id i off => match h id with
        | some (.row fz s xs) => guardP (fz = false ∧ (rid (e x)).contains id = false ∧ i < xs.length) ((purify h (e x)).bind fun p =>
            if off = 0 ∧ p.cells.length = s then some (.tup [], freeze h (rid (e x)) ++ [(id, .row fz s (xs.set i p))])
            else (xs[i]?).bind fun y => match y with
              | .agg cs => (writeC cs off p.cells).map fun cs' => (.tup [], freeze h (rid (e x)) ++ [(id, .row fz s (xs.set i (.agg cs')))])
              | _ => none)
        | _ => none
      | _ => none)
  | .nilCheck x => match e x with
    | .ptr id o => some (.ptr id o, [])
    | .ept id i o => some (.ept id i o, [])
    | .cpt v o => some (.cpt v o, [])
    | .fn (.func f) a c => some (.fn (.func f) a c, [])
    | .yld l => some (.yld l, [])
    | _ => none
  | .binOp op t x y _ => (binV P op t (e x) (e y)).map fun v => (v, [])
  | .unOp op _ x => (unV op (e x)).map fun v => (v, [])
  | .convert s d x => match P.underlying s, P.underlying d, e x with
    | some (.int _), some (.int k), .int _ n => some (.int k (k.wrap n), [])
    | some .string, some .string, .str s => some (.str s, [])
    | some .string, some (.slice el), .str s => match P.underlying el with
      | some (.int .u8) => guardP (s.length ≤ maxLen' ∧ tsize P el = 1) (some (.ref b, [(b, .row false 1 (s.map fun c => .int .u8 c.toNat))]))
      | _ => none
    | some (.slice el), some .string, _ => match P.underlying el with
      | some (.int .u8) => (elems h (e x)).bind fun ys => guardP ((ys.1 = 1 ∨ ys.2.isEmpty = true) ∧ ys.2.all isByte = true) (some (.str (ys.2.map byteOf), []))
      | _ => none
    | _, _, _ => none
  | .makeFunc f a c => some (.fn f (a.toList.map e) (c.toList.map e), [])
  | .makeSlice t n c => (telem P t).bind fun el => (tzero P el).bind fun z => match e n, e c with
    | .int _ n, .int _ c => guardP (0 < tsize P el ∧ tbytes P el ≤ 64 ∧ z.cells.length = tsize P el ∧ 0 ≤ n ∧ n ≤ c ∧ c ≤ maxLen') ((purify h z).map fun z => (.ref b, [(b, .row false (tsize P el) (List.replicate n.toNat z))]))
    | _, _ => none
  | .slice t x lo hi mx => match P.underlying t, e x with
   | some (.array n el), .ptr id off => (boundD (lo.map e) 0).bind fun l => (boundD (hi.map e) n).bind fun r => match h id with
     | some (.var cs) => guardP (l ≤ r ∧ r ≤ n ∧ l < n ∧ mx = none ∧ tsize P el = 1 ∧ off + n ≤ cs.length) (some (.vsl id (off + l) (r - l), []))
     | _ => none
   | some (.array _ _), _ => none
   | _, _ => guardP (tslice P t = true) (sliceV h (telem P t).isSome (((telem P t).map (tsize P)).getD 0) (e x) (lo.map e) (hi.map e) (mx.map e) |>.map fun v => (v, []))
  | .fieldAddr t x f => (tfield P t f).bind fun o => guardP (0 < tsize P o.2) (match e x with
    | .ptr id off => some (.ptr id (off + o.1), [])
    | .ept id i off => some (.ept id i (off + o.1), [])
    | .cpt v off => some (.cpt v (off + o.1), [])
    | _ => none)
  | .field t x f => (tfield P t f).bind fun o => match e x with
    | .agg cs => (readC P o.2 cs o.1).map fun v => (v, [])
    | _ => none
  | .indexAddr t x i => match e i with
    | .int _ i => match P.underlying t, e x with
      | some (.slice el), .sl _ _ s xs => guardP (0 ≤ i ∧ i < xs.length ∧ s = tsize P el) ((xs[i.toNat]?).map fun v => (.cpt v 0, []))
      | some (.slice el), .ref id => match h id with | some (.row _ s xs) => guardP (0 ≤ i ∧ i < xs.length ∧ s = tsize P el) (some (.ept id i.toNat 0, [])) | _ => none
      | some (.slice el), .sub id off len => match h id with | some (.row _ s _) => guardP (0 ≤ i ∧ i < len ∧ s = tsize P el) (some (.ept id (off + i.toNat) 0, [])) | _ => none
      | some (.array n el), .ptr id off => guardP (0 ≤ i ∧ i < n ∧ 0 < tsize P el) (some (.ptr id (off + i.toNat * tsize P el), []))
      | some (.array n el), .cpt v off => guardP (0 ≤ i ∧ i < n ∧ 0 < tsize P el) (some (.cpt v (off + i.toNat * tsize P el), []))
      | some (.array n el), .ept id j off => guardP (0 ≤ i ∧ i < n ∧ 0 < tsize P el) (some (.ept id j (off + i.toNat * tsize P el), []))
      | _, _ => none
    | _ => none
  | .index t x i => match e i with
    | .int _ i => match P.underlying t, e x with
      | some (.array n el), .agg cs => guardP (0 ≤ i ∧ i < n ∧ 0 < tsize P el) ((readC P el cs (i.toNat * tsize P el)).map fun v => (v, []))
      | some .string, .str s => guardP (0 ≤ i) ((s[i.toNat]?).map fun c => (.int .u8 c.toNat, []))
      | _, _ => none
    | _ => none
  | .extract x i => match e x with | .tup vs => (vs[i]?).map fun v => (v, []) | _ => none
  | .call { callee := .builtin bi, args, argTypes } => match bi with
    | .len => match argTypes.toList with
      | [t] => match P.underlying t with
        | some (.array n _) => match args.toList with | [_] => some (.int .i64 n, []) | _ => none
        | some .string => match args.toList with | [x] => (match e x with | .str s => some (.int .i64 s.length, []) | _ => none) | _ => none
        | some (.slice _) => match args.toList with | [x] => (lenV h (e x)).map fun (n : Nat) => (.int .i64 (n : Int), []) | _ => none
        | _ => none
      | _ => none
    | .cap => match argTypes.toList, args.toList with
      | [t], [x] => (match P.underlying t, e x with
        | some (.slice _), .sl _ true _ xs => some (.int .i64 (xs.length : Int), [])
        | _, _ => none)
      | _, _ => none
    | .max => match args.toList with | [x, y] => (match e x, e y with | .int k a, .int _ c => some (.int k (if a < c then c else a), []) | _, _ => none) | _ => none
    | .min => match args.toList with | [x, y] => (match e x, e y with | .int k a, .int _ c => some (.int k (if c < a then c else a), []) | _, _ => none) | _ => none
    | .clear => match args.toList, argTypes.toList with
      | [x], [t] => (telem P t).bind fun el => (tzero P el).bind fun z => match e x with
        | .sub id off len => match h id with
          | some (.row false s xs) => guardP (s = tsize P el ∧ 0 < tsize P el ∧ z.cells.length = tsize P el) ((purify h z).map fun z => (.tup [], [(id, .row false s (xs.take off ++ (List.replicate len z ++ xs.drop (off + len))))]))
          | _ => none
        | _ => none
      | _, _ => none
    | .append => match args.toList, argTypes.toList with
      | [x, y], [t, u] => (telem P t).bind fun el => (tzero P el).bind fun z => guardP (solid z = true ∧ z.cells.length = tsize P el) (match P.underlying u with
        | some (.int _) => match e x, e y with
          | .sl (some true) _ _ [], .int _ n => guardP (0 < n ∧ n ≤ maxLen' ∧ 0 < tsize P el ∧ tbytes P el ≤ 64) ((purify h z).map fun z => (.ref b, [(b, .row false (tsize P el) (List.replicate n.toNat z))]))
          | _, _ => none
        | some _ => match e y with
          | .str s => guardP (tsize P el = 1) (appendV h b (tsize P el) (tbytes P el) (e x) (s.map fun c => .int .u8 c.toNat))
          | v => (elems h v).bind fun ys => guardP (ys.1 = tsize P el ∨ ys.2.isEmpty = true) (appendV h b (tsize P el) (tbytes P el) (e x) ys.2)
        | none => none)
      | _, _ => none
    | _ => none
  | _ => none

end Go.Sym
