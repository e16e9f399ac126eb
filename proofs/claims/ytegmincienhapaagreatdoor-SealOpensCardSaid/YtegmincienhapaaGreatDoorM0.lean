/-
  Lemmas on the machine of plain values and on what functions of this program answer, part 0.
-/
import Derived.OrdersIn
import Derived.TacticsIn
import Derived.Wp
import Derived.Laws.World
import Derived.Below
import Derived.Laws.Entries
import Derived.ChangeKeysEq
import Derived.Laws.StructEq
import Derived.Laws.Small
import Derived.Lib.ConvBytes
import Derived.Laws.BytesString
namespace Go.Sym
inductive V where
  | junk
  | bool (b : Bool)
  | int (k : IntKind) (n : Int)
  | str (s : List UInt8)
  | agg (cs : List V)
  | tup (vs : List V)
  | sl (nl : Option Bool) (clip : Bool) (size : Nat) (xs : List V)
  | ref (id : Nat)
  | sub (id off len : Nat)
  | vsl (id off len : Nat)
  | ptr (id off : Nat)
  | ept (id i off : Nat)
  | cpt (v : V) (off : Nat)
  | nilp
  | fn (f : Fn) (first cap : List V)
  | nilf
  | ifc (t : TypeId) (v : V)
  | nili
  | yld (id : Nat)
structure FC where
  keep : List Nat
  draws : List (Nat × List (Nat × Nat))
  acc : List (Nat × Nat)
inductive LS where
  | ready
  | busy
  | done (e : Exit)
inductive Ob where
  | var (cs : List V)
  | row (frozen : Bool) (size : Nat) (xs : List V)
  | loop (s : LS) (fc : FC) (c : Code) (tm : List (Nat × V))
  | bld (t e r : Nat) (s : List UInt8)
  | raw (o : Nat)
  | dead
def Ob.vals : Ob → List V
  | .var cs => cs
  | .loop _ _ _ tm => tm.map (·.2)
  | .bld _ _ r _ => [.ref r]
  | _ => []
def Ob.isV : Ob → Bool
  | .var _ => true
  | .bld _ _ _ _ => true
  | _ => false
def solid : V → Bool
  | .junk => false
  | .tup _ => false
  | _ => true
def V.cells : V → List V
  | .agg cs => cs
  | v => [v]
def guardP {α : Type} (p : Prop) [Decidable p] (x : Option α) : Option α := if p then x else none
theorem guardP_pos {α : Type} {p : Prop} [Decidable p] {x : Option α} (h : p) : guardP p x = x := if_pos h
theorem guardP_some {α : Type} {p : Prop} [Decidable p] {x : Option α} {y : α} : guardP p x = some y ↔ p ∧ x = some y := by
  unfold guardP; split <;> simp [*]
def look {α : Type} : List (Nat × α) → Nat → Option α
  | [], _ => none
  | p :: r, n => if p.1 = n then some p.2 else look r n
def put {α : Type} : List (Nat × α) → Nat → α → List (Nat × α)
  | [], n, v => [(n, v)]
  | p :: r, n, v => if p.1 = n then (n, v) :: r else p :: put r n v
def puts {α : Type} (l : List (Nat × α)) : List (Nat × α) → List (Nat × α)
  | [] => l
  | p :: r => puts (put l p.1 p.2) r
theorem look_put {α : Type} (l : List (Nat × α)) (n m : Nat) (v : α) : look (put l n v) m = if n = m then some v else look l m := by
  induction l with
  | nil => simp [put, look]
  | cons p r ih =>
    unfold put
    by_cases h : p.1 = n
    · rw [if_pos h]; unfold look; subst h; simp only []; split <;> simp
    · rw [if_neg h]; unfold look; rw [ih]
      by_cases h2 : p.1 = m
      · rw [if_pos h2, if_pos h2, if_neg (fun e => h (by omega))]
      · rw [if_neg h2, if_neg h2]
def leafOf : Value → V
  | .bool b => .bool b
  | .int k n => .int k n
  | .string s => .str s.data.toList
  | .pointer none => .nilp
  | .slice none 0 0 => .sl (some true) true 0 []
  | .nilFunc => .nilf
  | .nilIface => .nili
  | _ => .junk
def ofValue : Value → V
  | .agg cs => if cs.toList.all Value.oneCell then .agg (cs.toList.map leafOf) else .junk
  | v => leafOf v
section types
variable (P : Program)
def tsize (t : TypeId) : Nat := ((P.info? t).map (·.size)).getD 0
def tbytes (t : TypeId) : Nat := ((P.info? t).map (·.bytes)).getD 0
def tzero (t : TypeId) : Option V := ((P.info? t).bind (·.zero)).map ofValue
def tagg (t : TypeId) : Option Bool := match P.underlying t with | some (.struct _) => some true | some (.array _ _) => some true | some _ => some false | none => none
def telem (t : TypeId) : Option TypeId := match P.underlying t with | some (.slice e) => some e | _ => none
def tslice (t : TypeId) : Bool := match P.underlying t with | some .string => true | some (.slice _) => true | _ => false
def tfield (t : TypeId) (f : Nat) : Option (Nat × TypeId) := match P.underlying t with | some (.struct fs) => (fs[f]?).map fun f => (f.offset, f.type) | _ => none
end types
def bldElem (P : Program) (t : TypeId) : Option TypeId :=
  match (P.info? t).bind (·.zero), P.underlying t with
  | some (.agg ⟨[.pointer none, .slice none 0 0]⟩), some (.struct ⟨[f, g]⟩) => if f.name == "addr" && g.name == "buf" then (match P.underlying g.type with
      | some (.slice e) => match P.underlying e with | some (.int .u8) => some e | _ => none
      | _ => none) else none
  | _, _ => none
def readC (P : Program) (t : TypeId) (cs : List V) (off : Nat) : Option V :=
  match tagg P t with
  | some true => guardP (off + tsize P t ≤ cs.length) (some (.agg ((cs.drop off).take (tsize P t))))
  | some false => cs[off]?
  | none => none
def one1 : V → Bool
  | .agg _ => false
  | _ => true
def arr? (xs : List V) (i n : Nat) : Option V := guardP (i + n ≤ xs.length ∧ ((xs.drop i).take n).all one1 = true) (some (.agg ((xs.drop i).take n)))
def writeC (cs : List V) (off : Nat) (vs : List V) : Option (List V) := guardP (off + vs.length ≤ cs.length) (some (cs.take off ++ (vs ++ cs.drop (off + vs.length))))
def flat1 : V → Bool
  | .bool _ | .int _ _ | .str _ | .nilf | .nilp | .nili => true
  | _ => false
def pure1 (h : Nat → Option Ob) : V → Option V
  | .ref id => match h id with | some (.row _ s xs) => some (.sl none false s xs) | _ => none
  | .sub id off len => match h id with | some (.row _ s xs) => some (.sl none false s ((xs.drop off).take len)) | _ => none
  | .bool b => some (.bool b)
  | .int k n => some (.int k n)
  | .str s => some (.str s)
  | .sl n c s xs => some (.sl n c s xs)
  | .fn (.func f) as [] => guardP (as.all flat1 = true) (some (.fn (.func f) as []))
  | .nilf => some .nilf
  | .nilp => some .nilp
  | .nili => some .nili
  | _ => none
def pures (h : Nat → Option Ob) : List V → Option (List V)
  | [] => some []
  | v :: r => (pure1 h v).bind fun x => (pures h r).map fun xs => x :: xs
def purify (h : Nat → Option Ob) : V → Option V
  | .agg cs => (pures h cs).map .agg
  | v => pure1 h v
def purifys (h : Nat → Option Ob) : List V → Option (List V)
  | [] => some []
  | v :: r => (purify h v).bind fun x => (purifys h r).map fun xs => x :: xs
def purifyR (h : Nat → Option Ob) : V → Option V
  | .tup vs => (purifys h vs).map .tup
  | v => purify h v
def flat : V → Bool
  | .agg cs => cs.all flat1
  | v => flat1 v
def flatR : V → Bool
  | .tup vs => vs.all flat
  | v => flat v
def rid1 : V → List Nat
  | .ref id => [id]
  | .sub id _ _ => [id]
  | .vsl id _ _ => [id]
  | _ => []
def rid : V → List Nat
  | .agg cs => cs.flatMap rid1
  | v => rid1 v
def freeze (h : Nat → Option Ob) : List Nat → List (Nat × Ob)
  | [] => []
  | id :: r => match h id with | some (.row _ s xs) => (id, .row true s xs) :: freeze h r | _ => freeze h r
def intBin (op : BinOp) (k : IntKind) (a : Int) (k' : IntKind) (b : Int) : Option V :=
  match op with
  | .shl => guardP (0 ≤ b) (some (.int k (k.wrap (a * 2 ^ (min b.toNat k.bits)))))
  | .shr => guardP (0 ≤ b) (some (.int k (a.fdiv (2 ^ (min b.toNat k.bits)))))
  | .add => guardP (k = k') (some (.int k (k.wrap (a + b))))
  | .sub => guardP (k = k') (some (.int k (k.wrap (a - b))))
  | .mul => guardP (k = k') (some (.int k (k.wrap (a * b))))
  | .quo => guardP (k = k' ∧ b ≠ 0) (some (.int k (k.wrap (a.tdiv b))))
  | .rem => guardP (k = k' ∧ b ≠ 0) (some (.int k (a.tmod b)))
  | .and => guardP (k = k') (some (.int k (k.wrap ((BitVec.ofInt k.bits a &&& BitVec.ofInt k.bits b).toNat))))
  | .or => guardP (k = k') (some (.int k (k.wrap ((BitVec.ofInt k.bits a ||| BitVec.ofInt k.bits b).toNat))))
  | .xor => guardP (k = k') (some (.int k (k.wrap ((BitVec.ofInt k.bits a ^^^ BitVec.ofInt k.bits b).toNat))))
  | .andNot => guardP (k = k') (some (.int k (k.wrap ((BitVec.ofInt k.bits a &&& ~~~ BitVec.ofInt k.bits b).toNat))))
  | .eql => guardP (k = k') (some (.bool (decide (a = b))))
  | .neq => guardP (k = k') (some (.bool (!decide (a = b))))
  | .lss => guardP (k = k') (some (.bool (decide (a < b))))
  | .leq => guardP (k = k') (some (.bool (decide (a ≤ b))))
  | .gtr => guardP (k = k') (some (.bool (decide (b < a))))
  | .geq => guardP (k = k') (some (.bool (decide (b ≤ a))))
def maxText : Nat := 70368744177664
def strBin (op : BinOp) (a b : List UInt8) : Option V :=
  match op with
  | .add => guardP (a.length + b.length ≤ maxText) (some (.str (a ++ b)))
  | .eql => some (.bool (decide (a = b)))
  | .neq => some (.bool (!decide (a = b)))
  | .lss => some (.bool (Op.bytesLess a b))
  | .geq => some (.bool (!Op.bytesLess a b))
  | _ => none
def eqFs (P : Program) (eq : TypeId → V → V → Option Bool) : List Field → List V → List V → Option Bool
  | [], _, _ => some true
  | f :: r, xs, ys => guardP (f.name ≠ "_") ((readC P f.type xs f.offset).bind fun a => (readC P f.type ys f.offset).bind fun b =>
      (eq f.type a b).bind fun t => (eqFs P eq r xs ys).map fun u => t && u)
def eqT (P : Program) : Nat → TypeId → V → V → Option Bool
  | 0, _, _, _ => none
  | d + 1, t, x, y =>
    match P.underlying t with
    | some .bool => match x, y with | .bool a, .bool b => some (decide (a = b)) | _, _ => none
    | some (.int _) => match x, y with | .int k a, .int k' b => guardP (k = k') (some (decide (a = b))) | _, _ => none
    | some .string => match x, y with | .str a, .str b => some (decide (a = b)) | _, _ => none
    | some (.struct fs) => match x, y with
      | .agg xs, .agg ys => guardP (P.stoodInHeld t = false) (eqFs P (eqT P d) fs.toList xs ys)
      | _, _ => none
    | _ => none
def isNil (n : Option Bool) (xs : List V) : Option Bool :=
  match n with
  | some b => some b
  | none => guardP (xs ≠ []) (some false)
def binV (P : Program) (op : BinOp) (t : TypeId) (x y : V) : Option V :=
  match x, y with
  | .int k a, .int k' b => intBin op k a k' b
  | .str a, .str b => strBin op a b
  | .bool a, .bool b => match op with
    | .eql => (eqT P 9 t (.bool a) (.bool b)).map .bool
    | .neq => (eqT P 9 t (.bool a) (.bool b)).map fun r => .bool (!r)
    | _ => none
  | .agg a, .agg b => match op with
    | .eql => guardP (P.eqGuardType P.depth t = false) ((eqT P 9 t (.agg a) (.agg b)).map .bool)
    | .neq => guardP (P.eqGuardType P.depth t = false) ((eqT P 9 t (.agg a) (.agg b)).map fun r => .bool (!r))
    | _ => none
  | .sl n _ _ xs, .sl (some true) _ _ [] => guardP ((telem P t).isSome = true) (match op with
    | .eql => (isNil n xs).map .bool
    | .neq => (isNil n xs).map fun r => .bool (!r)
    | _ => none)
  | _, _ => none
def unV (op : UnOp) (x : V) : Option V :=
  match op, x with
  | .not, .bool b => some (.bool (!b))
  | .neg, .int k n => some (.int k (k.wrap (0 - n)))
  | .xor, .int k n => intBin .xor k (if k.signed then -1 else k.max) k n
  | _, _ => none
def isByte : V → Bool | .int .u8 _ => true | _ => false
def byteOf : V → UInt8 | .int _ n => UInt8.ofNat n.toNat | _ => 0
def elems (h : Nat → Option Ob) : V → Option (Nat × List V)
  | .sl _ _ s xs => some (s, xs)
  | .ref id => match h id with | some (.row _ s xs) => some (s, xs) | _ => none
  | .sub id off len => match h id with | some (.row _ s xs) => some (s, (xs.drop off).take len) | _ => none
  | .vsl id off len => match h id with | some (.var cs) => guardP (((cs.drop off).take len).all flat1 = true) (some (1, (cs.drop off).take len)) | _ => none
  | _ => none
def lenV (h : Nat → Option Ob) : V → Option Nat
  | .sl _ _ _ xs => some xs.length
  | .ref id => match h id with | some (.row _ _ xs) => some xs.length | _ => none
  | .sub id _ len => match h id with | some (.row _ _ _) => some len | _ => none
  | .vsl id _ len => match h id with | some (.var _) => some len | _ => none
  | _ => none
def place (P : Program) (t : TypeId) (i : Nat) : Option (Nat × Nat) :=
  match P.underlying t with
  | some (.struct fs) => (fs[i]?).map fun f => (f.offset, tsize P f.type)
  | some (.array _ e) => some (i * tsize P e, tsize P e)
  | _ => none
def partsOk (P : Program) (t : TypeId) : Bool :=
  match P.underlying t with
  | some (.struct fs) => fs.toList.all fun f => decide (0 < tsize P f.type)
  | some (.array _ e) => decide (0 < tsize P e)
  | _ => false
def fillV (pl : Nat → Option (Nat × Nat)) (cs : List V) : List (Nat × V) → Option (List V)
  | [] => some cs
  | p :: r => match pl p.1 with
    | some (off, size) => guardP (solid p.2 = true ∧ p.2.cells.length = size) ((writeC cs off p.2.cells).bind fun cs' => fillV pl cs' r)
    | none => none
def fillS (h : Nat → Option Ob) (size : Nat) (zs : List V) : List (Nat × V) → Option (List V)
  | [] => some zs
  | p :: r => guardP (p.1 < zs.length) ((purify h p.2).bind fun x => guardP (x.cells.length = size) (fillS h size (zs.set p.1 x) r))
def bound (x : V) : Option Nat := match x with | .int _ n => guardP (0 ≤ n) (some n.toNat) | _ => none
def boundD (x : Option V) (d : Nat) : Option Nat := match x with | some v => bound v | none => some d
def sliceV (h : Nat → Option Ob) (isS : Bool) (sz : Nat) (x : V) (lo hi mx : Option V) : Option V :=
  match x with
  | .str s => match mx with
    | none => (boundD lo 0).bind fun l => (boundD hi s.length).bind fun r => guardP (l ≤ r ∧ r ≤ s.length ∧ isS = false) (some (.str ((s.drop l).take (r - l))))
    | some _ => none
  | .sl n c s xs => (boundD lo 0).bind fun l => (boundD hi xs.length).bind fun r => (boundD mx r).bind fun m =>
      guardP (l ≤ r ∧ r ≤ xs.length ∧ m = r ∧ (s = sz ∨ xs.isEmpty = true) ∧ 0 < sz ∧ (mx.isNone || hi.isSome) = true) (some (.sl n (mx.isSome || (c && hi.isNone)) s ((xs.drop l).take (r - l))))
  | .ref id => match h id with
    | some (.row _ s xs) => (boundD lo 0).bind fun l => (boundD hi xs.length).bind fun r => guardP (l ≤ r ∧ r ≤ xs.length ∧ mx.isNone = true ∧ s = sz ∧ 0 < sz) (some (.sub id l (r - l)))
    | _ => none
  | .sub id off len => match h id with
    | some (.row _ s _) => (boundD lo 0).bind fun l => (boundD hi len).bind fun r => guardP (l ≤ r ∧ r ≤ len ∧ mx.isNone = true ∧ s = sz ∧ 0 < sz) (some (.sub id (off + l) (r - l)))
    | _ => none
  | _ => none
def maxLen' : Nat := 1099511627776
def appendV (h : Nat → Option Ob) (b : Nat) (size bytes : Nat) (x : V) (ys : List V) : Option (V × List (Nat × Ob)) :=
  match x with
  | .sl _ true _ [] => guardP (0 < size ∧ bytes ≤ 64 ∧ ys.length ≤ maxLen') (some (.ref b, [(b, .row false size ys)]))
  | .sl _ true s (x0 :: xs) => match ys with
    | [] => none
    | y :: ys => guardP (s = size ∧ 0 < size ∧ bytes ≤ 64 ∧ (x0 :: xs).length + (y :: ys).length ≤ maxLen') (some (.ref b, [(b, .row false size ((x0 :: xs) ++ (y :: ys)))]))
  | .ref id => match h id with
    | some (.row fz s xs) => guardP (s = size ∧ 0 < size ∧ bytes ≤ 64 ∧ xs.length + ys.length ≤ maxLen') (some (.ref b, [(id, .dead), (b, .row fz size (xs ++ ys))]))
    | _ => none
  | _ => none
def opSem (P : Program) (op : Op) (e : Operand → V) (h : Nat → Option Ob) (b : Nat) : Option (V × List (Nat × Ob)) :=
  match op with
  | .move x | .assign x => some (e x, [])
  | .pick c x y => match e c with | .bool t => some (if t then e x else e y, []) | _ => none
  | .alloc t => match bldElem P t with
    | some e => guardP (tsize P t = 2) (some (.ptr b 0, [(b, .bld t e (b + 1) []), (b + 1, .raw b)]))
    | none => (tzero P t).bind fun z => guardP (solid z = true) (some (.ptr b 0, [(b, .var z.cells)]))
  | .box _ x => guardP (solid (e x) = true) (some (.ptr b 0, [(b, .var (e x).cells)]))
  | .build t ps => guardP (partsOk P t = true) ((tzero P t).bind fun z => guardP (solid z = true) ((fillV (place P t) z.cells (ps.toList.map fun p => (p.1, e p.2))).map fun cs => (.agg cs, [])))
  | .buildSlice t n ps => (telem P t).bind fun el => (tzero P el).bind fun z =>
      guardP (0 < tsize P el ∧ n * tsize P el ≤ 2 ^ 24 ∧ z.cells.length = tsize P el) ((purify h z).bind fun z => (fillS h (tsize P el) (List.replicate n z) (ps.toList.map fun p => (p.1, e p.2))).map fun xs =>
        (.ref b, freeze h ((ps.toList.map fun p => rid (e p.2)).flatten) ++ [(b, .row false (tsize P el) xs)]))
  | .load t a => match e a with
    | .ptr id off => match h id with | some (.var cs) => (readC P t cs off).map fun v => (v, []) | _ => none
    | .ept id i off => match h id with
      | some (.row _ s xs) => if s < tsize P t then guardP (s = 1 ∧ off = 0) ((arr? xs i (tsize P t)).bind fun x => (readC P t x.cells 0).map fun v => (v, [])) else (xs[i]?).bind fun x => (readC P t x.cells off).map fun v => (v, [])
      | _ => none
    | .cpt v off => (readC P t v.cells off).map fun v => (v, [])
    | _ => none
  | .sliceToArrayPointer t x => match P.underlying t with
    | some (.array n el) => guardP (0 < n ∧ tsize P el = 1) (match e x with
      | .vsl id off len => match h id with | some (.var _) => guardP (n ≤ len) (some (.ptr id off, [])) | _ => none
      | .ref id => match h id with | some (.row _ _ xs) => guardP (n ≤ xs.length) (some (.ept id 0 0, [])) | _ => none
      | .sub id off len => match h id with | some (.row _ _ _) => guardP (n ≤ len) (some (.ept id off 0, [])) | _ => none
      | _ => none)
    | _ => none
  | .store t a x => guardP (solid (e x) = true ∧ (e x).cells.length = tsize P t ∧ 0 < tsize P t) (match e a with
      | .ptr id off => match h id with | some (.var cs) => (writeC cs off (e x).cells).map fun cs' => (.tup [], [(id, .var cs')]) | _ => none
      | .ept id i off => match h id with
        | some (.row fz s xs) => guardP (fz = false ∧ (rid (e x)).contains id = false ∧ i < xs.length) ((purify h (e x)).bind fun p =>
            if off = 0 ∧ p.cells.length = s then some (.tup [], freeze h (rid (e x)) ++ [(id, .row fz s (xs.set i p))])
            else (xs[i]?).bind fun y => match y with
              | .agg cs => (writeC cs off p.cells).map fun cs' => (.tup [], freeze h (rid (e x)) ++ [(id, .row fz s (xs.set i (.agg cs')))])
              | _ => none)
        | _ => none
      | _ => none)
  | .nilCheck x => match e x with
    | .ptr id o => some (.ptr id o, [])
    | .ept id i o => some (.ept id i o, [])
    | .cpt v o => some (.cpt v o, [])
    | .fn (.func f) a c => some (.fn (.func f) a c, [])
    | .yld l => some (.yld l, [])
    | _ => none
  | .binOp op t x y _ => (binV P op t (e x) (e y)).map fun v => (v, [])
  | .unOp op _ x => (unV op (e x)).map fun v => (v, [])
  | .convert s d x => match P.underlying s, P.underlying d, e x with
    | some (.int _), some (.int k), .int _ n => some (.int k (k.wrap n), [])
    | some .string, some .string, .str s => some (.str s, [])
    | some .string, some (.slice el), .str s => match P.underlying el with
      | some (.int .u8) => guardP (s.length ≤ maxLen' ∧ tsize P el = 1) (some (.ref b, [(b, .row false 1 (s.map fun c => .int .u8 c.toNat))]))
      | _ => none
    | some (.slice el), some .string, _ => match P.underlying el with
      | some (.int .u8) => (elems h (e x)).bind fun ys => guardP ((ys.1 = 1 ∨ ys.2.isEmpty = true) ∧ ys.2.all isByte = true) (some (.str (ys.2.map byteOf), []))
      | _ => none
    | _, _, _ => none
  | .makeFunc f a c => some (.fn f (a.toList.map e) (c.toList.map e), [])
  | .makeSlice t n c => (telem P t).bind fun el => (tzero P el).bind fun z => match e n, e c with
    | .int _ n, .int _ c => guardP (0 < tsize P el ∧ tbytes P el ≤ 64 ∧ z.cells.length = tsize P el ∧ 0 ≤ n ∧ n ≤ c ∧ c ≤ maxLen') ((purify h z).map fun z => (.ref b, [(b, .row false (tsize P el) (List.replicate n.toNat z))]))
    | _, _ => none
  | .slice t x lo hi mx => match P.underlying t, e x with
   | some (.array n el), .ptr id off => (boundD (lo.map e) 0).bind fun l => (boundD (hi.map e) n).bind fun r => match h id with
     | some (.var cs) => guardP (l ≤ r ∧ r ≤ n ∧ l < n ∧ mx = none ∧ tsize P el = 1 ∧ off + n ≤ cs.length) (some (.vsl id (off + l) (r - l), []))
     | _ => none
   | some (.array _ _), _ => none
   | _, _ => guardP (tslice P t = true) (sliceV h (telem P t).isSome (((telem P t).map (tsize P)).getD 0) (e x) (lo.map e) (hi.map e) (mx.map e) |>.map fun v => (v, []))
  | .fieldAddr t x f => (tfield P t f).bind fun o => guardP (0 < tsize P o.2) (match e x with
    | .ptr id off => some (.ptr id (off + o.1), [])
    | .ept id i off => some (.ept id i (off + o.1), [])
    | .cpt v off => some (.cpt v (off + o.1), [])
    | _ => none)
  | .field t x f => (tfield P t f).bind fun o => match e x with
    | .agg cs => (readC P o.2 cs o.1).map fun v => (v, [])
    | _ => none
  | .indexAddr t x i => match e i with
    | .int _ i => match P.underlying t, e x with
      | some (.slice el), .sl _ _ s xs => guardP (0 ≤ i ∧ i < xs.length ∧ s = tsize P el) ((xs[i.toNat]?).map fun v => (.cpt v 0, []))
      | some (.slice el), .ref id => match h id with | some (.row _ s xs) => guardP (0 ≤ i ∧ i < xs.length ∧ s = tsize P el) (some (.ept id i.toNat 0, [])) | _ => none
      | some (.slice el), .sub id off len => match h id with | some (.row _ s _) => guardP (0 ≤ i ∧ i < len ∧ s = tsize P el) (some (.ept id (off + i.toNat) 0, [])) | _ => none
      | some (.array n el), .ptr id off => guardP (0 ≤ i ∧ i < n ∧ 0 < tsize P el) (some (.ptr id (off + i.toNat * tsize P el), []))
      | some (.array n el), .cpt v off => guardP (0 ≤ i ∧ i < n ∧ 0 < tsize P el) (some (.cpt v (off + i.toNat * tsize P el), []))
      | some (.array n el), .ept id j off => guardP (0 ≤ i ∧ i < n ∧ 0 < tsize P el) (some (.ept id j (off + i.toNat * tsize P el), []))
      | _, _ => none
    | _ => none
  | .index t x i => match e i with
    | .int _ i => match P.underlying t, e x with
      | some (.array n el), .agg cs => guardP (0 ≤ i ∧ i < n ∧ 0 < tsize P el) ((readC P el cs (i.toNat * tsize P el)).map fun v => (v, []))
      | some .string, .str s => guardP (0 ≤ i) ((s[i.toNat]?).map fun c => (.int .u8 c.toNat, []))
      | _, _ => none
    | _ => none
  | .extract x i => match e x with | .tup vs => (vs[i]?).map fun v => (v, []) | _ => none
  | .call { callee := .builtin bi, args, argTypes } => match bi with
    | .len => match argTypes.toList with
      | [t] => match P.underlying t with
        | some (.array n _) => match args.toList with | [_] => some (.int .i64 n, []) | _ => none
        | some .string => match args.toList with | [x] => (match e x with | .str s => some (.int .i64 s.length, []) | _ => none) | _ => none
        | some (.slice _) => match args.toList with | [x] => (lenV h (e x)).map fun (n : Nat) => (.int .i64 (n : Int), []) | _ => none
        | _ => none
      | _ => none
    | .cap => match argTypes.toList, args.toList with
      | [t], [x] => (match P.underlying t, e x with
        | some (.slice _), .sl _ true _ xs => some (.int .i64 (xs.length : Int), [])
        | _, _ => none)
      | _, _ => none
    | .max => match args.toList with | [x, y] => (match e x, e y with | .int k a, .int _ c => some (.int k (if a < c then c else a), []) | _, _ => none) | _ => none
    | .min => match args.toList with | [x, y] => (match e x, e y with | .int k a, .int _ c => some (.int k (if c < a then c else a), []) | _, _ => none) | _ => none
    | .append => match args.toList, argTypes.toList with
      | [x, y], [t, u] => (telem P t).bind fun el => (tzero P el).bind fun z => guardP (solid z = true ∧ z.cells.length = tsize P el) (match P.underlying u with
        | some (.int _) => match e x, e y with
          | .sl (some true) _ _ [], .int _ n => guardP (0 < n ∧ n ≤ maxLen' ∧ 0 < tsize P el ∧ tbytes P el ≤ 64) ((purify h z).map fun z => (.ref b, [(b, .row false (tsize P el) (List.replicate n.toNat z))]))
          | _, _ => none
        | some _ => match e y with
          | .str s => guardP (tsize P el = 1) (appendV h b (tsize P el) (tbytes P el) (e x) (s.map fun c => .int .u8 c.toNat))
          | v => (elems h v).bind fun ys => guardP (ys.1 = tsize P el ∨ ys.2.isEmpty = true) (appendV h b (tsize P el) (tbytes P el) (e x) ys.2)
        | none => none)
      | _, _ => none
    | _ => none
  | _ => none
end Go.Sym
namespace Go.Sym
structure St where
  tm : List (Nat × V)
  hp : List (Nat × Ob)
  nx : Nat
structure Lk where
  k : Nat
  t : Nat
  e : Nat
structure Cfg where
  fcs : List (Nat × FC)
  inl : List Nat
  lib : List (Nat × Lk) := []
def Cfg.fc (C : Cfg) (f : Nat) : FC := (look C.fcs f).getD ⟨[], [], []⟩
def ev (tm : List (Nat × V)) (x : Operand) : V :=
  match x with
  | .tmp t => (look tm t).getD .junk
  | .const v => ofValue v
  | .global _ => .junk
  | .func f => .fn (.func f) [] []
abbrev CallFn := Nat → List V → List (Nat × Ob) → Nat → Option (V × List (Nat × Ob) × Nat)
def callP (call : CallFn) (f : Nat) (ps : List V) : Option V := (call f ps [] 0).bind fun x => purifyR (look x.2.1) x.1
def putD (tm : List (Nat × V)) (dst : Option Nat) (v : V) : List (Nat × V) := match dst with | some d => put tm d v | none => tm
def wantedV (ops : List Oper) (tm : List (Nat × V)) (o : Oper) : Option Bool :=
  match o.guard with
  | none => some true
  | some (j, want) => match (ops[j]?).bind (·.dst) with
    | none => none
    | some d => match look tm d with
      | some (.bool b) => some (b == want)
      | some (.tup []) => some false
      | _ => none
def aid : V → List Nat
  | .ptr id _ => [id]
  | .ept id _ _ => [id]
  | _ => []
def hreads (op : Op) (e : Operand → V) : List Nat :=
  match op with
  | .load _ a => aid (e a)
  | .store _ a x => aid (e a) ++ rid (e x)
  | .convert _ _ x => rid (e x)
  | .slice _ x _ _ _ => rid1 (e x) ++ aid (e x)
  | .indexAddr _ x _ => rid1 (e x)
  | .sliceToArrayPointer _ x => rid1 (e x)
  | .buildSlice _ _ ps => (ps.toList.map fun p => rid (e p.2)).flatten
  | .call { callee := .builtin _, args, .. } => (args.toList.map fun x => rid (e x)).flatten
  | .call { callee := .value g, args, .. } => match e g with
    | .fn _ first cap => (first ++ (args.toList.map e) ++ cap).flatMap rid
    | _ => []
  | _ => []
def yn : Nat := 1000000000
def stepE (P : Program) (C : Cfg) (call : CallFn) (op : Op) (e : Operand → V) (h : Nat → Option Ob) (b : Nat) : Option (V × List (Nat × Ob)) :=
  match op with
  | .call { callee := .value g, args, .. } => match e g with
    | .fn (.func f) first cap => if Nat.beq f yn then none else
        (purifys h (first ++ (args.toList.map e) ++ cap)).bind fun ps => (callP call f ps).map fun r => (r, if flatR r then [] else freeze h ((first ++ (args.toList.map e) ++ cap).flatMap rid))
    | _ => none
  | op => opSem P op e h b
def stepD (P : Program) (C : Cfg) (call : CallFn) (o : Oper) (st : St) : Option (V × List (Nat × Ob)) := stepE P C call o.op (ev st.tm) (look st.hp) st.nx
def inlOf (C : Cfg) (op : Op) (e : Operand → V) : Option (Nat × List V) :=
  match op with
  | .call { callee := .value g, args, .. } => match e g with
    | .fn (.func f) first cap => if C.inl.contains f && !Nat.beq f yn then some (f, first ++ (args.toList.map e) ++ cap) else none
    | .yld id => some (yn, .yld id :: args.toList.map e)
    | _ => none
  | _ => none
def evalOp (P : Program) (C : Cfg) (call : CallFn) (o : Oper) (st : St) : Option St :=
  match inlOf C o.op (ev st.tm) with
  | some (f, as) => (call f as st.hp st.nx).map fun r => { tm := putD st.tm o.dst r.1, hp := r.2.1, nx := r.2.2 }
  | none => (stepD P C call o st).map fun r => { tm := putD st.tm o.dst r.1, hp := puts st.hp r.2, nx := st.nx + 4 }
def evalOps (P : Program) (C : Cfg) (call : CallFn) (ops : List Oper) : List Oper → St → Option St
  | [], st => some st
  | o :: r, st => (wantedV ops st.tm o).bind fun b =>
      if b then (evalOp P C call o st).bind (evalOps P C call ops r) else evalOps P C call ops r { st with tm := putD st.tm o.dst (.tup []), nx := st.nx + 4 }
def evalD (P : Program) (C : Cfg) (call : CallFn) (ops : List Oper) : List Oper → St → Option (St × List (List Nat × List Nat))
  | [], st => some (st, [])
  | o :: r, st => (wantedV ops st.tm o).bind fun b =>
      if b then (stepD P C call o st).bind fun x =>
        (evalD P C call ops r { tm := putD st.tm o.dst x.1, hp := puts st.hp x.2, nx := st.nx + 4 }).map fun y => (y.1, (hreads o.op (ev st.tm), x.2.map (·.1)) :: y.2)
      else (evalD P C call ops r { st with tm := putD st.tm o.dst (.tup []), nx := st.nx + 4 }).map fun y => (y.1, ([], []) :: y.2)
def disjoint (a b : List Nat) : Bool := a.all fun x => !b.contains x
def pairOk (l : List (List Nat × List Nat)) (i j : Nat) : Bool :=
  let x := l.getD i ([], [])
  let y := l.getD j ([], [])
  disjoint x.2 y.1 && disjoint x.2 y.2 && disjoint y.2 x.1
def ids1 : V → List (Nat × Bool)
  | .ref id => [(id, true)]
  | .sub id _ _ => [(id, true)]
  | .ept id _ _ => [(id, true)]
  | .vsl id _ _ => [(id, false)]
  | .ptr id _ => [(id, false)]
  | .yld id => [(id, false)]
  | _ => []
def ids : V → List (Nat × Bool)
  | .agg cs => cs.flatMap ids1
  | .fn _ a c => a.flatMap ids1 ++ c.flatMap ids1
  | v => ids1 v
def adds (n0 : Nat) (all : Bool) (m : List (Nat × Nat)) : List (Nat × Bool) → List (Nat × Nat)
  | [] => m
  | p :: r => if (look m p.1).isSome then adds n0 all m r
      else if n0 ≤ p.1 || (all && p.2) then adds n0 all (m ++ [(p.1, n0 + m.length)]) r else adds n0 all m r
def follow (n0 : Nat) (hp : List (Nat × Ob)) : Nat → Nat → List (Nat × Nat) → List (Nat × Nat)
  | 0, _, m => m
  | k + 1, i, m => match m[i]? with
    | none => m
    | some p => match look hp p.1 with
      | some ob => follow n0 hp k (i + 1) (adds n0 true m (ob.vals.flatMap ids))
      | _ => follow n0 hp k (i + 1) m
def roots (n0 : Nat) (hp : List (Nat × Ob)) : List (Nat × Bool) :=
  hp.flatMap fun p => if p.1 < n0 then (p.2.vals.flatMap ids).filter (·.2) else []
def renTo (n0 : Nat) (m : List (Nat × Nat)) (id : Nat) (k : Nat → V) : V := match look m id with | some n => k n | none => if id < n0 then k id else .junk
def ren1 (n0 : Nat) (m : List (Nat × Nat)) (v : V) : V :=
  match v with
  | .ref id => renTo n0 m id .ref
  | .sub id off len => renTo n0 m id fun n => .sub n off len
  | .vsl id off len => renTo n0 m id fun n => .vsl n off len
  | .ptr id off => renTo n0 m id fun n => .ptr n off
  | .ept id i off => renTo n0 m id fun n => .ept n i off
  | .yld id => renTo n0 m id .yld
  | .agg _ | .tup _ | .fn _ _ _ | .ifc _ _ => .junk
  | v => v
def ren (n0 : Nat) (m : List (Nat × Nat)) (v : V) : V :=
  match v with
  | .agg cs => .agg (cs.map (ren1 n0 m))
  | .fn f a c => .fn f (a.map (ren1 n0 m)) (c.map (ren1 n0 m))
  | v => ren1 n0 m v
def renOb (n0 : Nat) (m : List (Nat × Nat)) : Ob → Ob
  | .var cs => .var (cs.map (ren n0 m))
  | .loop s fc c tm => .loop s fc c (tm.map fun p => (p.1, ren n0 m p.2))
  | .bld t e r s => match look m r with | some r' => .bld t e r' s | none => if r < n0 then .bld t e r s else .dead
  | .raw o => match look m o with | some o' => .raw o' | none => if o < n0 then .raw o else .dead
  | o => o
def gc (n0 : Nat) (st : St) : St :=
  let m := follow n0 st.hp (st.hp.length + 1) 0 (adds n0 false (adds n0 true [] (roots n0 st.hp)) (st.tm.flatMap fun p => ids p.2))
  { tm := st.tm.map fun p => (p.1, ren n0 m p.2)
    hp := ((st.hp.filter fun p => decide (p.1 < n0) && (look m p.1).isNone).map fun p => (p.1, renOb n0 m p.2)) ++
      m.map fun p => (p.2, renOb n0 m ((look st.hp p.1).getD .dead))
    nx := n0 + m.length }
def restrict (keep : List Nat) (tm : List (Nat × V)) : List (Nat × V) := keep.filterMap fun s => (look tm s).map fun v => (s, v)
def accs : List (Nat × Nat) → St → St
  | [], st => st
  | p :: r, st => match look st.tm p.1 with
    | some (.sl _ true _ []) => accs r { tm := put st.tm p.1 (.ref st.nx), hp := put st.hp st.nx (.row false (p.2 % 1000) []), nx := st.nx + 1 }
    | some (.sub id 0 0) => match look st.hp id with
      | some (.row false s _) => accs r { tm := put st.tm p.1 (.ref st.nx), hp := put (put st.hp id .dead) st.nx (.row false s []), nx := st.nx + 1 }
      | _ => accs r st
    | some (.ptr id 0) => match look st.hp id with
      | some (.var cs) => match cs[p.2 / 1000]? with
        | some (.sl _ true _ []) => accs r { tm := st.tm, hp := put (put st.hp st.nx (.row false (p.2 % 1000) [])) id (.var (cs.set (p.2 / 1000) (.ref st.nx))), nx := st.nx + 1 }
        | _ => accs r st
      | _ => accs r st
    | _ => accs r st
def head (n0 : Nat) (slots : List Nat) (acc : List (Nat × Nat)) (st : St) : St := gc n0 (accs acc { st with tm := restrict slots st.tm })
def iter (f : St → Option (Exit × St)) (hd : St → St) : Nat → St → Option (Exit × St)
  | 0, _ => none
  | k + 1, st => (f st).bind fun r => match r.1 with
    | .normal => iter f hd k (hd r.2)
    | x => some (x, r.2)
def entry (fc : FC) (c : Code) (g : Operand) (st : St) : Option (Nat × List V × List (Nat × Ob)) :=
  match ev st.tm g with
  | .fn (.func f) first cap => if Nat.beq f yn then none else some (f, first ++ [.yld st.nx] ++ cap, put st.hp st.nx (.loop .ready fc c st.tm))
  | _ => none
def left (l : Nat) (hp : List (Nat × Ob)) (nx : Nat) : Option (Exit × St) :=
  match look hp l with
  | some (.loop .ready _ _ tm) => some (.normal, { tm, hp := put hp l .dead, nx })
  | some (.loop (.done e) _ _ tm) => some (e, { tm, hp := put hp l .dead, nx })
  | _ => none
def setps (tm : List (Nat × V)) : List Nat → List V → List (Nat × V)
  | d :: ds, v :: vs => setps (put tm d v) ds vs
  | _, _ => tm
def begun (id : Nat) (hp : List (Nat × Ob)) : Option (List (Nat × Ob)) :=
  match look hp id with
  | some (.loop .ready fc c tm) => some (put hp id (.loop .busy fc c tm))
  | _ => none
def ended (id : Nat) (r : Exit × St) : Option (V × List (Nat × Ob) × Nat) :=
  match look r.2.hp id with
  | some (.loop .busy fc c tm) => match r.1 with
    | .normal => some (.bool true, put r.2.hp id (.loop .ready fc c tm), r.2.nx)
    | .ret => some (.bool false, put r.2.hp id (.loop (.done .ret) fc c tm), r.2.nx)
    | .exit i => some (.bool false, put r.2.hp id (.loop (.done (.exit i)) fc c tm), r.2.nx)
    | _ => none
  | _ => none
def roundOf (args : List V) (hp : List (Nat × Ob)) : Option (Nat × FC × Code × Code × List (Nat × V)) :=
  match args with
  | .yld id :: ys => match look hp id with
    | some (.loop .ready fc (.rangeFunc _ ps asg body) tm) => if ps.size = ys.length then some (id, fc, asg, body, setps tm ps.toList ys) else none
    | _ => none
  | _ => none
def evalCode (P : Program) (C : Cfg) (call : CallFn) (n0 : Nat) (fc : FC) (k : Nat) : Code → St → Option (Exit × St)
  | .skip, st => some (.normal, st)
  | .label _, st => some (.normal, st)
  | .region id ops draw, st =>
    if draw then (evalD P C call ops.toList ops.toList st).bind fun y =>
        if (((look fc.draws id).getD []).all fun p => pairOk y.2 p.1 p.2) then some (.normal, { y.1 with tm := restrict fc.keep y.1.tm }) else none
    else (evalOps P C call ops.toList ops.toList st).map fun st => (.normal, { st with tm := restrict fc.keep st.tm })
  | .seq a b, st => (evalCode P C call n0 fc k a st).bind fun r => match r.1 with
    | .normal => evalCode P C call n0 fc k b r.2
    | x => some (x, r.2)
  | .cond c a b, st => match ev st.tm c with
    | .bool t => if t then evalCode P C call n0 fc k a st else evalCode P C call n0 fc k b st
    | _ => none
  | .block id b, st => (evalCode P C call n0 fc k b st).map fun r => match r.1 with
    | .exit i => if i = id then (.normal, r.2) else (.exit i, r.2)
    | x => (x, r.2)
  | .loop b, st => iter (evalCode P C call n0 fc k b) (head n0 (st.tm.map (·.1)) fc.acc) k (head n0 (st.tm.map (·.1)) fc.acc st)
  | .exit id, st => some (.exit id, st)
  | .ret, st => some (.ret, st)
  | .scope b, st => (evalCode P C call n0 fc k b st).bind fun r => match r.1 with | .goto _ => none | _ => some r
  | .rangeFunc g ps asg body, st => (entry fc (.rangeFunc g ps asg body) g (gc n0 (accs fc.acc st))).bind fun x => (call x.1 x.2.1 x.2.2 ((gc n0 (accs fc.acc st)).nx + 1)).bind fun r => left (gc n0 (accs fc.acc st)).nx r.2.1 r.2.2
  | _, _ => none
def evalRes (P : Program) (st : St) : List ResultVar → Option (List V)
  | [] => some []
  | .tmp t :: r => (look st.tm t).bind fun v => (evalRes P st r).map fun vs => v :: vs
  | .cell a t :: r => match ev st.tm (.tmp a) with
    | .ptr id off => match look st.hp id with
      | some (.var cs) => (readC P t cs off).bind fun v => (evalRes P st r).map fun vs => v :: vs
      | _ => none
    | _ => none
def pack : List V → V
  | [v] => v
  | vs => .tup vs
def idx (n : Nat) : List V → List (Nat × V)
  | [] => []
  | v :: r => (n, v) :: idx (n + 1) r
def maxBld : Nat := 70368744177664
def repeatN (s : List UInt8) : Nat → List UInt8
  | 0 => []
  | n + 1 => s ++ repeatN s n
def trimB (s c : List UInt8) : List UInt8 := ((s.reverse.dropWhile (c.contains ·)).reverse).dropWhile (c.contains ·)
def asciiB (c : List UInt8) : Bool := c.all fun b => decide (b.toNat < 128)
def libSem (K : Lk) (args : List V) (hp : List (Nat × Ob)) (nx : Nat) : Option (V × List (Nat × Ob) × Nat) :=
  match K.k with
  | 1 => match args with
    | [.ptr id 0, .str x] => match look hp id with
      | some (.bld t e r s) => match look hp r with
        | some (.raw o) => if Nat.beq o id && Nat.beq t K.t && Nat.beq e K.e then guardP (s.length + x.length ≤ maxBld) (some (.tup [.int .i64 x.length, .nili], put (put (put hp r .dead) nx (.raw id)) id (.bld t e nx (s ++ x)), nx + 1)) else none
        | _ => none
      | _ => none
    | _ => none
  | 2 => match args with
    | [.ptr id 0] => match look hp id with
      | some (.bld t e r s) => match look hp r with
        | some (.raw o) => if Nat.beq o id && Nat.beq t K.t && Nat.beq e K.e then some (.str s, put (put hp r .dead) id .dead, nx) else none
        | _ => none
      | _ => none
    | _ => none
  | 4 => match args with
    | [.ptr id 0] => match look hp id with
      | some (.bld t e r s) => match look hp r with
        | some (.raw o) => if Nat.beq o id && Nat.beq t K.t && Nat.beq e K.e then some (.int .i64 s.length, hp, nx) else none
        | _ => none
      | _ => none
    | _ => none
  | 3 => match args with
    | [.str s, .int .i64 n] => guardP (0 ≤ n ∧ s.length * n.toNat ≤ maxBld ∧ n ≤ maxBld) (some (.str (repeatN s n.toNat), hp, nx))
    | _ => none
  | 5 => match args with
    | [.str s, .str c] => guardP (s.length ≤ maxBld ∧ c.length ≤ 1000 ∧ asciiB c = true) (some (.str (trimB s c), hp, nx))
    | _ => none
  | _ => none
def evalBody (P : Program) (C : Cfg) (call : CallFn) (k : Nat) : CallFn := fun f args hp nx =>
  match look C.lib f with
  | some kind => libSem kind args hp nx
  | none => match look C.fcs f, P.funcs[f]? with
    | some fc, some fn => match fn.body with
      | some c => (evalCode P C call nx fc k c { tm := idx 0 args, hp, nx }).bind fun r => match r.1 with
        | .normal | .ret => (evalRes P r.2 fn.results.toList).map fun vs => (pack vs, r.2.hp, r.2.nx)
        | _ => none
      | none => none
    | _, _ => none
def evalRound (P : Program) (C : Cfg) (call : CallFn) (k : Nat) (args : List V) (hp : List (Nat × Ob)) (nx : Nat) : Option (V × List (Nat × Ob) × Nat) :=
  (roundOf args hp).bind fun x => (evalCode P C call nx x.2.1 k x.2.2.1 { tm := x.2.2.2.2, hp, nx }).bind fun r => match r.1 with
    | .normal => (begun x.1 r.2.hp).bind fun hp' => (evalCode P C call nx x.2.1 k x.2.2.2.1 { tm := r.2.tm, hp := hp', nx := r.2.nx }).bind (ended x.1)
    | _ => none
def evalFn (P : Program) (C : Cfg) : Nat → CallFn
  | 0, _, _, _, _ => none
  | k + 1, f, args, hp, nx => if Nat.beq f yn then evalRound P C (evalFn P C k) k args hp nx else evalBody P C (evalFn P C k) k f args hp nx
def evalP (P : Program) (C : Cfg) (k : Nat) (f : Nat) (args : List V) : Option V := callP (evalFn P C k) f args
def touch (op : Op) : Nat :=
  match op with
  | .alloc _ | .box _ _ | .buildSlice _ _ _ | .store _ _ _ | .makeSlice _ _ _ | .convert _ _ _ => 2
  | .load _ _ | .slice _ _ _ _ _ | .indexAddr _ _ _ | .sliceToArrayPointer _ _ => 1
  | .call { callee := .builtin .len, .. } | .call { callee := .builtin .max, .. } | .call { callee := .builtin .min, .. } => 1
  | .call _ => 2
  | _ => 0
def nub (l : List Nat) : List Nat := l.foldl (fun acc x => if acc.any (Nat.beq x) then acc else x :: acc) []
def ahead (ops : List Oper) : List (List Nat) :=
  ops.foldl (fun acc o => acc ++ [nub (o.after.toList.flatMap fun e => if Region.binds .any e then e.on :: acc.getD e.on [] else [])]) []
def names (ops : List Oper) (o : Oper) : List Nat :=
  (o.op.operands.toList.filterMap fun x => match x with | .tmp t => some t | _ => none) ++
    (match o.guard with | some (g, _) => ((ops[g]?).bind (·.dst)).toList | none => [])
def tmpsApart (ops : List Oper) (x y : Oper) : Bool :=
  (match x.dst with | some d => !(names ops y).contains d && y.dst != some d | none => true) &&
  (match y.dst with | some d => !(names ops x).contains d | none => true)
def regionOk (ops : List Oper) (pairs : List (Nat × Nat)) : Bool :=
  let an := ahead ops
  (List.range ops.length).all fun j => (List.range j).all fun i =>
    (an.getD j []).contains i ||
    (match ops[i]?, ops[j]? with
      | some x, some y => tmpsApart ops x y && (touch x.op == 0 || touch y.op == 0 || (touch x.op ≤ 1 && touch y.op ≤ 1) || pairs.contains (i, j))
      | _, _ => false)
def edgesOk (ops : List Oper) : Bool := (List.range ops.length).all fun j => match ops[j]? with
  | some o => o.after.toList.all (fun e => !Region.binds .any e || Nat.blt e.on j) && (match o.op with | .defer _ => false | .select _ _ => false | _ => true)
  | none => true
def dstsOk (n : Nat) (ops : List Oper) : Bool := ops.all fun o => match o.dst with | some d => Nat.blt d n | none => true
def codeOk (n : Nat) (draws : List (Nat × List (Nat × Nat))) : Code → Bool
  | .region id ops draw => dstsOk n ops.toList && (!draw || (edgesOk ops.toList && regionOk ops.toList ((look draws id).getD [])))
  | .seq a b => codeOk n draws a && codeOk n draws b
  | .cond _ a b => codeOk n draws a && codeOk n draws b
  | .block _ b => codeOk n draws b
  | .loop b => codeOk n draws b
  | .rangeFunc _ ps a b => codeOk n draws a && codeOk n draws b && ps.toList.all fun d => Nat.blt d n
  | .scope b => codeOk n draws b
  | _ => true
def funcOk (fc : FC) (fn : Func) : Bool :=
  match fn.body with
  | some c => codeOk fn.ntmps fc.draws c && !(fn.name == "runtime.NumGoroutine")
  | none => false
def progOk (P : Program) (C : Cfg) : Bool := C.fcs.all fun p => match P.funcs[p.1]? with | some fn => funcOk p.2 fn | none => false
end Go.Sym
set_option linter.unusedVariables false
set_option linter.unusedSimpArgs false
namespace Go.Sym
inductive VP (w : World) (Z : Nat → Nat → Prop) : V → Value → Prop where
  | bool (b : Bool) : VP w Z (.bool b) (.bool b)
  | int (k : IntKind) (n : Int) : VP w Z (.int k n) (.int k n)
  | str (s : ByteArray) : VP w Z (.str s.data.toList) (.string s)
  | agg (cs : List V) (us : Array Value) (hl : cs.length = us.size) (h1 : ∀ (i : Nat) (u : Value), us[i]? = some u → u.oneCell = true)
      (hv : ∀ (i : Nat) (c : V) (u : Value), cs[i]? = some c → us[i]? = some u → VP w Z c u) : VP w Z (.agg cs) (.agg us)
  | sl (nl : Option Bool) (clip : Bool) (s : Nat) (xs : List V) (a : Option Addr) (cap : Nat)
      (hc : xs.length ≤ cap) (hclip : clip = true → cap = xs.length) (ht : nl = some true → a = none) (hf : nl = some false → a.isSome = true)
      (hn : a = none → cap = 0) (hs : xs ≠ [] → 0 < s) (hsp : 0 < cap → ∀ ad, a = some ad → ad.spot = none)
      (hx : ∀ (i : Nat) (x : V), xs[i]? = some x → x.cells.length = s)
      (he : ∀ (ad : Addr) (i : Nat) (x : V) (j : Nat) (c : V), a = some ad → xs[i]? = some x → x.cells[j]? = some c →
        Z ad.block (ad.off + (i * s + j)) ∧ ∃ u : Value, w.cell? ⟨ad.block, ad.off + (i * s + j), none⟩ = some u ∧ u.oneCell = true)
      (hv : ∀ (ad : Addr) (i : Nat) (x : V) (j : Nat) (c : V) (u : Value), a = some ad → xs[i]? = some x → x.cells[j]? = some c →
        w.cell? ⟨ad.block, ad.off + (i * s + j), none⟩ = some u → VP w Z c u) : VP w Z (.sl nl clip s xs) (.slice a xs.length cap)
  | fnc (f : Nat) (as : List V) (ua : Array Value) (hl : as.length = ua.size) (hv : ∀ (i : Nat) (c : V) (u : Value), as[i]? = some c → ua[i]? = some u → VP w Z c u) : VP w Z (.fn (.func f) as []) (.func (.func f) ua #[])
  | nilf : VP w Z .nilf .nilFunc
  | nilp : VP w Z .nilp (.pointer none)
  | nili : VP w Z .nili .nilIface
theorem VP.evo {w w' : World} {Z Z' : Nat → Nat → Prop} (hz : ∀ b o, Z b o → Z' b o ∧ w'.cell? ⟨b, o, none⟩ = w.cell? ⟨b, o, none⟩) {v : V} {u : Value} (h : VP w Z v u) : VP w' Z' v u := by
  induction h with
  | bool b => exact .bool b
  | int k n => exact .int k n
  | str s => exact .str s
  | agg cs us hl h1 hv ih => exact .agg cs us hl h1 ih
  | sl nl clip s xs a cap hc hclip ht hf hn hs hsp hx he hv ih =>
    refine .sl nl clip s xs a cap hc hclip ht hf hn hs hsp hx ?_ ?_
    · intro ad i x j c ha hxi hj
      obtain ⟨hZ, u, hu, h1⟩ := he ad i x j c ha hxi hj
      exact ⟨(hz _ _ hZ).1, u, by rw [(hz _ _ hZ).2]; exact hu, h1⟩
    · intro ad i x j c u ha hxi hj hu
      obtain ⟨hZ, _⟩ := he ad i x j c ha hxi hj
      exact ih ad i x j c u ha hxi hj (by rw [← (hz _ _ hZ).2]; exact hu)
  | fnc f as ua hl hv ih => exact .fnc f as ua hl ih
  | nilf => exact .nilf
  | nilp => exact .nilp
  | nili => exact .nili
structure Cx where
  ρ : Nat → Option (Nat × Nat)
  Z : Nat → Nat → Prop
  h : Nat → Option Ob
  n : Nat → Prop
  w : World
def Fresh (n : Nat → Prop) (b : Nat) : Prop := ∀ k, b ≤ k → k < b + 4 → ¬ n k
def more (n : Nat → Prop) (b : Nat) : Nat → Prop := fun i => n i ∨ (b ≤ i ∧ i < b + 4)
theorem Fresh.at {n : Nat → Prop} {b : Nat} (h : Fresh n b) : ¬ n b := h b (Nat.le_refl _) (by omega)
theorem more_at (n : Nat → Prop) (b : Nat) : more n b b := .inr ⟨Nat.le_refl _, by omega⟩
theorem more_of {n : Nat → Prop} {b : Nat} (i : Nat) (h : n i) : more n b i := .inl h
def live (h : Nat → Option Ob) (id : Nat) : Prop := ∃ ob, h id = some ob ∧ ob ≠ .dead
def RefOk (Γ : Cx) (id s off len : Nat) (u : Value) : Prop :=
  ∃ a cap, u = .slice a len cap ∧ len ≤ cap ∧ (0 < cap → ∀ ad, a = some ad → ad.spot = none) ∧ (0 < cap → ∃ b base c E z, Γ.ρ id = some (b, base) ∧ a = some ⟨b, base + off * s, none⟩ ∧
    Γ.w.heap[b]? = some (.cells c E z) ∧ base + (off + cap) * s ≤ c.size)
inductive VR (Γ : Cx) : V → Value → Prop where
  | junk (u : Value) : VR Γ .junk u
  | pure {v : V} {u : Value} (h : VP Γ.w Γ.Z v u) : VR Γ v u
  | agg (cs : List V) (us : Array Value) (hl : cs.length = us.size) (h1 : ∀ (i : Nat) (u : Value), us[i]? = some u → u.oneCell = true)
      (hv : ∀ (i : Nat) (c : V) (u : Value), cs[i]? = some c → us[i]? = some u → VR Γ c u) : VR Γ (.agg cs) (.agg us)
  | tup (vs : List V) (us : Array Value) (hl : vs.length = us.size) (hv : ∀ (i : Nat) (c : V) (u : Value), vs[i]? = some c → us[i]? = some u → VR Γ c u) : VR Γ (.tup vs) (.tuple us)
  | ref (id : Nat) (u : Value) (h1 : u.oneCell = true) (hn : Γ.n id) (h : ∀ fz s xs, Γ.h id = some (.row fz s xs) → RefOk Γ id s 0 xs.length u) : VR Γ (.ref id) u
  | sub (id off len : Nat) (u : Value) (h1 : u.oneCell = true) (hn : Γ.n id) (h : ∀ fz s xs, Γ.h id = some (.row fz s xs) → off + len ≤ xs.length ∧ RefOk Γ id s off len u) : VR Γ (.sub id off len) u
  | vsl (id off len b cap : Nat) (hn : Γ.n id) (hle : len ≤ cap) (h : ∀ cs, Γ.h id = some (.var cs) → off + len ≤ cs.length ∧ Γ.ρ id = some (b, 0)) : VR Γ (.vsl id off len) (.slice (some ⟨b, off, none⟩) len cap)
  | ptr (id off b : Nat) (hn : Γ.n id) (h : ∀ ob, Γ.h id = some ob → ob.isV = true → Γ.ρ id = some (b, 0)) : VR Γ (.ptr id off) (.pointer (some ⟨b, off, none⟩))
  | ept (id i off b o : Nat) (hn : Γ.n id) (h : ∀ fz s xs, Γ.h id = some (.row fz s xs) → ∃ base, Γ.ρ id = some (b, base) ∧ o = base + i * s) : VR Γ (.ept id i off) (.pointer (some ⟨b, o + off, none⟩))
  | cpt (v : V) (off b o : Nat) (he : ∀ (j : Nat) (c : V), v.cells[j]? = some c → Γ.Z b (o + j) ∧ ∃ u' : Value, Γ.w.cell? ⟨b, o + j, none⟩ = some u' ∧ u'.oneCell = true ∧ VP Γ.w Γ.Z c u') :
      VR Γ (.cpt v off) (.pointer (some ⟨b, o + off, none⟩))
  | fn (f : Fn) (as cs : List V) (ua uc : Array Value) (hla : as.length = ua.size) (hlc : cs.length = uc.size)
      (ha : ∀ (i : Nat) (c : V) (u : Value), as[i]? = some c → ua[i]? = some u → VR Γ c u) (hc : ∀ (i : Nat) (c : V) (u : Value), cs[i]? = some c → uc[i]? = some u → VR Γ c u) : VR Γ (.fn f as cs) (.func f ua uc)
  | yld (id l : Nat) (hn : Γ.n id) (h : ∀ s fc c tm, Γ.h id = some (.loop s fc c tm) → Γ.ρ id = some (l, 0)) : VR Γ (.yld id) (.func (.yield l) #[] #[])
def SameLoop (r r' : Loop) : Prop := r'.fn = r.fn ∧ r'.tmps = r.tmps ∧ r'.params = r.params ∧ r'.assign = r.assign ∧ r'.body = r.body ∧ r'.defers = r.defers
theorem SameLoop.refl (r : Loop) : SameLoop r r := ⟨rfl, rfl, rfl, rfl, rfl, rfl⟩
theorem SameLoop.trans {a b c : Loop} (h : SameLoop a b) (k : SameLoop b c) : SameLoop a c :=
  ⟨k.1.trans h.1, k.2.1.trans h.2.1, k.2.2.1.trans h.2.2.1, k.2.2.2.1.trans h.2.2.2.1, k.2.2.2.2.1.trans h.2.2.2.2.1, k.2.2.2.2.2.trans h.2.2.2.2.2⟩
structure Evo (Γ Δ : Cx) : Prop where
  n : ∀ i, Γ.n i → Δ.n i
  keep : ∀ id, Γ.n id → live Δ.h id → live Γ.h id ∧ Δ.ρ id = Γ.ρ id
  var : ∀ id cs, Γ.n id → Δ.h id = some (.var cs) → ∃ cs0, Γ.h id = some (.var cs0) ∧ cs0.length = cs.length
  row : ∀ id fz s xs, Γ.n id → Δ.h id = some (.row fz s xs) → ∃ fz0 xs0, Γ.h id = some (.row fz0 s xs0) ∧ xs0.length = xs.length
  loop : ∀ id s fc c tm, Γ.n id → Δ.h id = some (.loop s fc c tm) → ∃ s0 tm0, Γ.h id = some (.loop s0 fc c tm0)
  bld : ∀ id t e r s, Γ.n id → Δ.h id = some (.bld t e r s) → ∃ r0 s0, Γ.h id = some (.bld t e r0 s0)
  raw : ∀ id o, Γ.n id → Δ.h id = some (.raw o) → ∃ o0, Γ.h id = some (.raw o0)
  lp : ∀ (b : Nat) (r : Loop), Γ.w.heap[b]? = some (.loop r) → ∃ r' : Loop, Δ.w.heap[b]? = some (.loop r') ∧ SameLoop r r'
  csize : ∀ id b base c E z, Γ.n id → live Δ.h id → Γ.ρ id = some (b, base) → Γ.w.heap[b]? = some (.cells c E z) → ∃ c' E' z', Δ.w.heap[b]? = some (.cells c' E' z') ∧ c'.size = c.size
  zc : ∀ b o, Γ.Z b o → Δ.Z b o ∧ Δ.w.cell? ⟨b, o, none⟩ = Γ.w.cell? ⟨b, o, none⟩
  zn : ∀ b o, Δ.Z b o → Γ.Z b o ∨ Γ.w.heap.size ≤ b ∨ ∃ id base, live Γ.h id ∧ Γ.ρ id = some (b, base)
  blk : ∀ k, k < Γ.w.heap.size → (∀ id base, live Γ.h id → Γ.ρ id ≠ some (k, base)) → Δ.w.heap[k]? = Γ.w.heap[k]? ∧ ∀ id base, live Δ.h id → Δ.ρ id ≠ some (k, base)
  size : Γ.w.heap.size ≤ Δ.w.heap.size
  os : Δ.w.os = Γ.w.os
  tape : Δ.w.tape = Γ.w.tape
  output : Δ.w.output = Γ.w.output
theorem live_row {h : Nat → Option Ob} {id : Nat} {fz : Bool} {s : Nat} {xs : List V} (e : h id = some (.row fz s xs)) : live h id := ⟨_, e, by simp⟩
theorem live_var {h : Nat → Option Ob} {id : Nat} {cs : List V} (e : h id = some (.var cs)) : live h id := ⟨_, e, by simp⟩
theorem live_loop {h : Nat → Option Ob} {id : Nat} {s : LS} {fc : FC} {c : Code} {tm : List (Nat × V)} (e : h id = some (.loop s fc c tm)) : live h id := ⟨_, e, by simp⟩
theorem live_bld {h : Nat → Option Ob} {id t e' r : Nat} {s : List UInt8} (e : h id = some (.bld t e' r s)) : live h id := ⟨_, e, by simp⟩
theorem live_raw {h : Nat → Option Ob} {id o : Nat} (e : h id = some (.raw o)) : live h id := ⟨_, e, by simp⟩
def isB (h : Nat → Option Ob) (id : Nat) : Prop := (∃ t e r s, h id = some (.bld t e r s)) ∨ ∃ o, h id = some (.raw o)
theorem isB.live {h : Nat → Option Ob} {id : Nat} (hb : isB h id) : live h id := by
  rcases hb with ⟨t, e', r, s, e⟩ | ⟨o, e⟩
  · exact live_bld e
  · exact live_raw e
theorem live_cases {h : Nat → Option Ob} {id : Nat} (hl : live h id) : (∃ cs, h id = some (.var cs)) ∨ (∃ fz s xs, h id = some (.row fz s xs)) ∨ (∃ s fc c tm, h id = some (.loop s fc c tm)) ∨ isB h id := by
  obtain ⟨ob, e, hne⟩ := hl
  cases ob with
  | var cs => exact .inl ⟨cs, e⟩
  | row fz s xs => exact .inr (.inl ⟨fz, s, xs, e⟩)
  | loop s fc c tm => exact .inr (.inr (.inl ⟨s, fc, c, tm, e⟩))
  | bld t e' r s => exact .inr (.inr (.inr (.inl ⟨t, e', r, s, e⟩)))
  | raw o => exact .inr (.inr (.inr (.inr ⟨o, e⟩)))
  | dead => exact absurd rfl hne
theorem Evo.refl (Γ : Cx) : Evo Γ Γ :=
  ⟨fun _ h => h, fun _ _ h => ⟨h, rfl⟩, fun _ cs _ h => ⟨cs, h, rfl⟩, fun _ fz _ xs _ h => ⟨fz, xs, h, rfl⟩, fun _ s _ _ tm _ h => ⟨s, tm, h⟩, fun _ _ _ r s _ h => ⟨r, s, h⟩, fun _ o _ h => ⟨o, h⟩, fun _ r h => ⟨r, h, .refl r⟩, fun _ _ _ c E z _ _ _ h => ⟨c, E, z, h, rfl⟩, fun _ _ h => ⟨h, rfl⟩, fun _ _ h => .inl h,
    fun _ _ h => ⟨rfl, h⟩, Nat.le_refl _, rfl, rfl, rfl⟩
theorem Evo.trans {A B C : Cx} (h : Evo A B) (k : Evo B C) : Evo A C where
  n := fun i hi => k.n i (h.n i hi)
  keep id hi hl := by
    obtain ⟨h1, e1⟩ := k.keep id (h.n _ hi) hl
    obtain ⟨h2, e2⟩ := h.keep id hi h1
    exact ⟨h2, e1.trans e2⟩
  var id cs hi e := by
    obtain ⟨c1, e1, l1⟩ := k.var id cs (h.n _ hi) e
    obtain ⟨c2, e2, l2⟩ := h.var id c1 hi e1
    exact ⟨c2, e2, l2.trans l1⟩
  row id fz s xs hi e := by
    obtain ⟨f1, x1, e1, l1⟩ := k.row id fz s xs (h.n _ hi) e
    obtain ⟨f2, x2, e2, l2⟩ := h.row id f1 s x1 hi e1
    exact ⟨f2, x2, e2, l2.trans l1⟩
  loop id s fc c tm hi e := by
    obtain ⟨s1, t1, e1⟩ := k.loop id s fc c tm (h.n _ hi) e
    exact h.loop id s1 fc c t1 hi e1
  bld id t e r s hi hb := by
    obtain ⟨r1, s1, e1⟩ := k.bld id t e r s (h.n _ hi) hb
    exact h.bld id t e r1 s1 hi e1
  raw id o hi hb := by
    obtain ⟨o1, e1⟩ := k.raw id o (h.n _ hi) hb
    exact h.raw id o1 hi e1
  lp b r e := by
    obtain ⟨r1, e1, s1⟩ := h.lp b r e
    obtain ⟨r2, e2, s2⟩ := k.lp b r1 e1
    exact ⟨r2, e2, s1.trans s2⟩
  csize id b base c E z hi hl hr hb := by
    obtain ⟨hl1, e1⟩ := k.keep id (h.n _ hi) hl
    obtain ⟨hl0, e0⟩ := h.keep id hi hl1
    obtain ⟨c1, E1, z1, hb1, s1⟩ := h.csize id b base c E z hi hl1 hr hb
    obtain ⟨c2, E2, z2, hb2, s2⟩ := k.csize id b base c1 E1 z1 (h.n _ hi) hl (e0.trans hr) hb1
    exact ⟨c2, E2, z2, hb2, s2.trans s1⟩
  zc b o hz := by
    obtain ⟨z1, e1⟩ := h.zc b o hz
    obtain ⟨z2, e2⟩ := k.zc b o z1
    exact ⟨z2, e2.trans e1⟩
  zn b o hz := by
    rcases k.zn b o hz with h1 | h1 | ⟨id, base, hl, hr⟩
    · exact h.zn b o h1
    · exact .inr (.inl (Nat.le_trans h.size h1))
    · by_cases hb : A.w.heap.size ≤ b
      · exact .inr (.inl hb)
      · by_cases hx : ∃ id base, live A.h id ∧ A.ρ id = some (b, base)
        · exact .inr (.inr hx)
        · exact absurd hr ((h.blk b (by omega) (fun id base hl hr => hx ⟨id, base, hl, hr⟩)).2 id base hl)
  blk kk hk hno := by
    obtain ⟨e1, no1⟩ := h.blk kk hk hno
    obtain ⟨e2, no2⟩ := k.blk kk (Nat.lt_of_lt_of_le hk h.size) no1
    exact ⟨e2.trans e1, no2⟩
  size := Nat.le_trans h.size k.size
  os := k.os.trans h.os
  tape := k.tape.trans h.tape
  output := k.output.trans h.output
structure Ev1 (Γ Δ : Cx) : Prop where
  n : ∀ i, Γ.n i → Δ.n i
  keep : ∀ id, Γ.n id → live Δ.h id → live Γ.h id ∧ Δ.ρ id = Γ.ρ id
  var : ∀ id cs, Γ.n id → Δ.h id = some (.var cs) → ∃ cs0, Γ.h id = some (.var cs0) ∧ cs0.length = cs.length
  row : ∀ id fz s xs, Γ.n id → Δ.h id = some (.row fz s xs) → ∃ fz0 xs0, Γ.h id = some (.row fz0 s xs0) ∧ xs0.length = xs.length
  loop : ∀ id s fc c tm, Γ.n id → Δ.h id = some (.loop s fc c tm) → ∃ s0 tm0, Γ.h id = some (.loop s0 fc c tm0)
  bld : ∀ id t e r s, Γ.n id → Δ.h id = some (.bld t e r s) → ∃ r0 s0, Γ.h id = some (.bld t e r0 s0)
  raw : ∀ id o, Γ.n id → Δ.h id = some (.raw o) → ∃ o0, Γ.h id = some (.raw o0)
  csize : ∀ id b base c E z, Γ.n id → live Δ.h id → Γ.ρ id = some (b, base) → Γ.w.heap[b]? = some (.cells c E z) → ∃ c' E' z', Δ.w.heap[b]? = some (.cells c' E' z') ∧ c'.size = c.size
  zc : ∀ b o, Γ.Z b o → Δ.Z b o ∧ Δ.w.cell? ⟨b, o, none⟩ = Γ.w.cell? ⟨b, o, none⟩
theorem Evo.one {Γ Δ : Cx} (E : Evo Γ Δ) : Ev1 Γ Δ := ⟨E.n, E.keep, E.var, E.row, E.loop, E.bld, E.raw, E.csize, E.zc⟩
theorem RefOk.evo {Γ Δ : Cx} (E : Ev1 Γ Δ) {id s off len : Nat} {u : Value} (hi : Γ.n id) (hl : live Δ.h id) (h : RefOk Γ id s off len u) : RefOk Δ id s off len u := by
  obtain ⟨a, cap, hu, hle, hsp, hc⟩ := h
  refine ⟨a, cap, hu, hle, hsp, fun h0 => ?_⟩
  obtain ⟨b, base, c, E1, z, hr, ha, hb, hsz⟩ := hc h0
  obtain ⟨c', E', z', hb', hs'⟩ := E.csize id b base c E1 z hi hl hr hb
  exact ⟨b, base, c', E', z', (E.keep id hi hl).2.trans hr, ha, hb', by omega⟩
theorem VR.ev1 {Γ Δ : Cx} (E : Ev1 Γ Δ) {v : V} {u : Value} (h : VR Γ v u) : VR Δ v u := by
  induction h with
  | junk u => exact .junk u
  | pure h => exact .pure (h.evo E.zc)
  | agg cs us hl h1 hv ih => exact .agg cs us hl h1 ih
  | tup vs us hl hv ih => exact .tup vs us hl ih
  | ref id u h1 hn h =>
    refine .ref id u h1 (E.n _ hn) fun fz s xs e => ?_
    obtain ⟨fz0, xs0, e0, hl0⟩ := E.row id fz s xs hn e
    rw [← hl0]
    exact (h fz0 s xs0 e0).evo E hn (live_row e)
  | sub id off len u h1 hn h =>
    refine .sub id off len u h1 (E.n _ hn) fun fz s xs e => ?_
    obtain ⟨fz0, xs0, e0, hl0⟩ := E.row id fz s xs hn e
    obtain ⟨h1, h2⟩ := h fz0 s xs0 e0
    exact ⟨by omega, h2.evo E hn (live_row e)⟩
  | vsl id off len b cap hn hle h =>
    refine .vsl id off len b cap (E.n _ hn) hle fun cs e => ?_
    obtain ⟨cs0, e0, hl0⟩ := E.var id cs hn e
    obtain ⟨h1, h2⟩ := h cs0 e0
    exact ⟨by omega, (E.keep id hn (live_var e)).2.trans h2⟩
  | ptr id off b hn h =>
    refine .ptr id off b (E.n _ hn) fun ob e hv => ?_
    cases ob with
    | var cs =>
      obtain ⟨cs0, e0, _⟩ := E.var id cs hn e
      exact (E.keep id hn (live_var e)).2.trans (h _ e0 rfl)
    | bld t e' r s =>
      obtain ⟨r0, s0, e0⟩ := E.bld id t e' r s hn e
      exact (E.keep id hn (live_bld e)).2.trans (h _ e0 rfl)
    | _ => cases hv
  | ept id i off b o hn h =>
    refine .ept id i off b o (E.n _ hn) fun fz s xs e => ?_
    obtain ⟨fz0, xs0, e0, _⟩ := E.row id fz s xs hn e
    obtain ⟨base, hr, hu⟩ := h fz0 s xs0 e0
    exact ⟨base, (E.keep id hn (live_row e)).2.trans hr, hu⟩
  | cpt v off b o he =>
    refine .cpt v off b o fun j c hj => ?_
    obtain ⟨hz, u', hu, h1, hv⟩ := he j c hj
    obtain ⟨hz', e'⟩ := E.zc _ _ hz
    exact ⟨hz', u', by rw [e']; exact hu, h1, hv.evo E.zc⟩
  | fn f as cs ua uc hla hlc ha hc iha ihc => exact .fn f as cs ua uc hla hlc iha ihc
  | yld id l hn h =>
    refine .yld id l (E.n _ hn) fun s fc c tm e => ?_
    obtain ⟨s0, tm0, e0⟩ := E.loop id s fc c tm hn e
    exact (E.keep id hn (live_loop e)).2.trans (h s0 fc c tm0 e0)
theorem VR.evo {Γ Δ : Cx} (E : Evo Γ Δ) {v : V} {u : Value} (h : VR Γ v u) : VR Δ v u := h.ev1 E.one
def unfrozen (z : Nat × Nat) (n : Nat) : Prop := ∀ o, o < n → ¬ (z.1 ≤ o ∧ o < z.2)
def VarOk (Γ : Cx) (id : Nat) (cs : List V) : Prop :=
  ∃ b c E z, Γ.ρ id = some (b, 0) ∧ Γ.w.heap[b]? = some (.cells c E z) ∧ unfrozen z c.size ∧ c.size = cs.length ∧
    (∀ (j : Nat) (u : Value), c[j]? = some u → u.oneCell = true) ∧ ∀ (j : Nat) (x : V) (u : Value), cs[j]? = some x → c[j]? = some u → VR Γ x u
def RowOk (Γ : Cx) (id s : Nat) (xs : List V) : Prop :=
  (Γ.ρ id = none ∧ xs = []) ∨ ∃ b base c E z, Γ.ρ id = some (b, base) ∧ Γ.w.heap[b]? = some (.cells c E z) ∧ unfrozen z c.size ∧ 0 < s ∧ base + xs.length * s ≤ c.size ∧
    (∀ (j : Nat) (u : Value), c[j]? = some u → u.oneCell = true) ∧ (∀ (i : Nat) (x : V), xs[i]? = some x → x.cells.length = s) ∧
    ∀ (i : Nat) (x : V) (j : Nat) (y : V) (u : Value), xs[i]? = some x → x.cells[j]? = some y → c[base + (i * s + j)]? = some u → VP Γ.w Γ.Z y u
def LoopIs (r : Loop) (s : LS) (fc : FC) (c : Code) : Prop :=
  (∃ N g, c = .rangeFunc g r.params r.assign r.body ∧ codeOk N fc.draws r.assign = true ∧ codeOk N fc.draws r.body = true ∧ (∀ d ∈ r.params.toList, d < N) ∧ N ≤ r.tmps.size) ∧
  match s with
  | .ready => r.state = .ready ∧ r.pending = none
  | .busy => r.state = .busy
  | .done .ret => r.state = .done ∧ r.pending = some .ret
  | .done (.exit i) => r.state = .done ∧ r.pending = some (.exit i)
  | .done _ => False
def LoopOk (Γ : Cx) (id : Nat) (s : LS) (fc : FC) (c : Code) (tm : List (Nat × V)) : Prop :=
  ∃ b r, Γ.ρ id = some (b, 0) ∧ Γ.w.heap[b]? = some (.loop r) ∧ LoopIs r s fc c ∧ ∀ t v, look tm t = some v → VR Γ v (r.tmps.getD t undef)
def bcells (s : List UInt8) : List Value := s.map fun x => .int .u8 x.toNat
def BldOk (Γ : Cx) (id t e r : Nat) (s : List UInt8) : Prop :=
  ∃ b p v, Γ.ρ id = some (b, 0) ∧ Γ.w.heap[b]? = some (.cells #[p, v] t (0, 0)) ∧ (p = .pointer none ∨ p = .pointer (some ⟨b, 0, none⟩)) ∧
    ((v = .slice none 0 0 ∧ s = [] ∧ Γ.ρ r = none) ∨ ∃ g cap cur, Γ.ρ r = some (g, 0) ∧ v = .slice (some ⟨g, 0, none⟩) s.length cap ∧ Γ.w.heap[g]? = some (.cells cur e (0, 0)) ∧ s.length ≤ cap ∧ cap ≤ maxLen ∧ cur.size = cap * 1 ∧ cur.toList.take (s.length * 1) = bcells s)
structure HOk (Γ : Cx) : Prop where
  var : ∀ id cs, Γ.h id = some (.var cs) → VarOk Γ id cs
  row : ∀ id fz s xs, Γ.h id = some (.row fz s xs) → RowOk Γ id s xs
  loop : ∀ id s fc c tm, Γ.h id = some (.loop s fc c tm) → LoopOk Γ id s fc c tm
  bld : ∀ id t e r s, Γ.h id = some (.bld t e r s) → Γ.h r = some (.raw id) → BldOk Γ id t e r s
  own : ∀ id b base, isB Γ.h id → Γ.ρ id = some (b, base) → b < Γ.w.heap.size
  inj : ∀ i j b bi bj, live Γ.h i → live Γ.h j → Γ.ρ i = some (b, bi) → Γ.ρ j = some (b, bj) → i = j
  lt : ∀ id, live Γ.h id → Γ.n id
  z : ∀ b o, Γ.Z b o → b < Γ.w.heap.size ∧ ∀ id base, live Γ.h id → Γ.ρ id = some (b, base) → ∃ s xs, Γ.h id = some (.row true s xs) ∧ o < base + xs.length * s
theorem HOk.there {Γ : Cx} (H : HOk Γ) {id b base : Nat} (hl : live Γ.h id) (hr : Γ.ρ id = some (b, base)) : b < Γ.w.heap.size := by
  rcases live_cases hl with ⟨cs, e⟩ | ⟨fz, s, xs, e⟩ | ⟨s, fc, c, tm, e⟩ | e
  · obtain ⟨b', c, E, z, hr', hb, _⟩ := H.var id cs e
    rw [hr] at hr'; cases hr'
    exact (Array.getElem?_eq_some_iff.1 hb).1
  · rcases H.row id fz s xs e with ⟨hn, _⟩ | ⟨b', base', c, E, z, hr', hb, _⟩
    · rw [hr] at hn; cases hn
    · rw [hr] at hr'; cases hr'
      exact (Array.getElem?_eq_some_iff.1 hb).1
  · obtain ⟨b', r, hr', hb, _⟩ := H.loop id s fc c tm e
    rw [hr] at hr'; cases hr'
    exact (Array.getElem?_eq_some_iff.1 hb).1
  · exact H.own id b base e hr
theorem HOk.step {Γ Δ : Cx} (H : HOk Γ) (E : Evo Γ Δ)
    (var : ∀ id cs, Δ.h id = some (.var cs) → (Γ.n id ∧ Γ.h id = some (.var cs) ∧ ∀ b base, Γ.ρ id = some (b, base) → Δ.w.heap[b]? = Γ.w.heap[b]?) ∨ VarOk Δ id cs)
    (row : ∀ id fz s xs, Δ.h id = some (.row fz s xs) → (Γ.n id ∧ (∃ fz0, Γ.h id = some (.row fz0 s xs)) ∧ ∀ b base, Γ.ρ id = some (b, base) → Δ.w.heap[b]? = Γ.w.heap[b]?) ∨ RowOk Δ id s xs)
    (loop : ∀ id s fc c tm, Δ.h id = some (.loop s fc c tm) → (Γ.n id ∧ Γ.h id = some (.loop s fc c tm) ∧ ∀ b base, Γ.ρ id = some (b, base) → Δ.w.heap[b]? = Γ.w.heap[b]?) ∨ LoopOk Δ id s fc c tm)
    (bld : ∀ id t e r s, Δ.h id = some (.bld t e r s) → Δ.h r = some (.raw id) → (Γ.n id ∧ Γ.n r ∧ Γ.h id = some (.bld t e r s) ∧ Γ.h r = some (.raw id) ∧ (∀ b base, Γ.ρ id = some (b, base) → Δ.w.heap[b]? = Γ.w.heap[b]?) ∧ ∀ b base, Γ.ρ r = some (b, base) → Δ.w.heap[b]? = Γ.w.heap[b]?) ∨ BldOk Δ id t e r s)
    (own : ∀ id, isB Δ.h id → Γ.n id ∨ ∀ b base, Δ.ρ id = some (b, base) → b < Δ.w.heap.size)
    (inj : ∀ i j b bi bj, live Δ.h i → live Δ.h j → Δ.ρ i = some (b, bi) → Δ.ρ j = some (b, bj) → i = j)
    (lt : ∀ id, live Δ.h id → Δ.n id)
    (z : ∀ b o, Δ.Z b o → b < Δ.w.heap.size ∧ ∀ id base, live Δ.h id → Δ.ρ id = some (b, base) → ∃ s xs, Δ.h id = some (.row true s xs) ∧ o < base + xs.length * s) : HOk Δ where
  var id cs e := by
    rcases var id cs e with ⟨hn, e0, hb⟩ | h
    · obtain ⟨b, c, E1, z, hr, hbl, hz, hs, h1, hv⟩ := H.var id cs e0
      exact ⟨b, c, E1, z, ((E.keep id hn (live_var e)).2).trans hr, (hb b 0 hr).trans hbl, hz, hs, h1, fun j x u hj hu => (hv j x u hj hu).evo E⟩
    · exact h
  row id fz s xs e := by
    rcases row id fz s xs e with ⟨hn, ⟨fz0, e0⟩, hb⟩ | h
    · rcases H.row id fz0 s xs e0 with ⟨hr, hx⟩ | ⟨b, base, c, E1, z, hr, hbl, hz, h0, hs, h1, hx, hv⟩
      · exact .inl ⟨((E.keep id hn (live_row e)).2).trans hr, hx⟩
      · exact .inr ⟨b, base, c, E1, z, ((E.keep id hn (live_row e)).2).trans hr, (hb b base hr).trans hbl, hz, h0, hs, h1, hx, fun i x j y u hi hj hu => (hv i x j y u hi hj hu).evo E.zc⟩
    · exact h
  loop id s fc c tm e := by
    rcases loop id s fc c tm e with ⟨hn, e0, hb⟩ | h
    · obtain ⟨b, r, hr, hbl, hi, hv⟩ := H.loop id s fc c tm e0
      exact ⟨b, r, ((E.keep id hn (live_loop e)).2).trans hr, (hb b 0 hr).trans hbl, hi, fun t v ht => (hv t v ht).evo E⟩
    · exact h
  bld id t e r s hb hr := by
    rcases bld id t e r s hb hr with ⟨hn, hnr, e0, er, h1, h2⟩ | h
    · obtain ⟨b, p, v, hρ, hbk, hp, hv⟩ := H.bld id t e r s e0 er
      refine ⟨b, p, v, (E.keep id hn (live_bld hb)).2.trans hρ, (h1 b 0 hρ).trans hbk, hp, ?_⟩
      rcases hv with ⟨hv, hs, hn⟩ | ⟨g, cap, cur, hg, hv, hbg, h3⟩
      · exact .inl ⟨hv, hs, (E.keep r hnr (live_raw hr)).2.trans hn⟩
      · exact .inr ⟨g, cap, cur, (E.keep r hnr (live_raw hr)).2.trans hg, hv, (h2 g 0 hg).trans hbg, h3⟩
    · exact h
  own id b base hb hr := by
    rcases own id hb with hn | h
    · have hr0 : Γ.ρ id = some (b, base) := by rw [← (E.keep id hn hb.live).2]; exact hr
      refine Nat.lt_of_lt_of_le (H.own id b base ?_ hr0) E.size
      rcases hb with ⟨t, e, r, s, hb⟩ | ⟨o, hb⟩
      · obtain ⟨r0, s0, h0⟩ := E.bld id t e r s hn hb
        exact .inl ⟨t, e, r0, s0, h0⟩
      · exact .inr (E.raw id o hn hb)
    · exact h b base hr
  inj := inj
  lt := lt
  z := z
def upd {α : Type} (h : Nat → Option α) (id : Nat) (ob : Option α) : Nat → Option α := fun i => if i = id then ob else h i
@[simp] theorem upd_same {α : Type} (h : Nat → Option α) (id : Nat) (ob : Option α) : upd h id ob id = ob := by simp [upd]
theorem upd_other {α : Type} (h : Nat → Option α) {id i : Nat} (ob : Option α) (hne : i ≠ id) : upd h id ob i = h i := by simp [upd, hne]
def upds (h : Nat → Option Ob) : List (Nat × Ob) → Nat → Option Ob
  | [] => h
  | p :: r => upds (upd h p.1 (some p.2)) r
theorem look_puts (l : List (Nat × Ob)) (ws : List (Nat × Ob)) : look (puts l ws) = upds (look l) ws := by
  induction ws generalizing l with
  | nil => rfl
  | cons p r ih =>
    simp only [puts, upds]
    rw [ih]
    congr 1
    funext i
    rw [look_put]
    unfold upd
    by_cases h : p.1 = i
    · rw [if_pos h, if_pos h.symm]
    · rw [if_neg h, if_neg (fun e => h e.symm)]
theorem step_same {Γ : Cx} (H : HOk Γ) (w' : World) (m : Nat → Prop) (hh : w'.heap = Γ.w.heap) (hos : w'.os = Γ.w.os) (ht : w'.tape = Γ.w.tape) (ho : w'.output = Γ.w.output) (hm : ∀ i, Γ.n i → m i) :
    HOk { Γ with w := w', n := m } ∧ Evo Γ { Γ with w := w', n := m } := by
  have hc : ∀ a, w'.cell? a = Γ.w.cell? a := fun a => by simp [World.cell?, hh]
  have E : Evo Γ { Γ with w := w', n := m } :=
    ⟨hm, fun _ _ h => ⟨h, rfl⟩, fun _ cs _ h => ⟨cs, h, rfl⟩, fun _ fz _ xs _ h => ⟨fz, xs, h, rfl⟩, fun _ s _ _ tm _ h => ⟨s, tm, h⟩, fun _ _ _ r s _ h => ⟨r, s, h⟩, fun _ o _ h => ⟨o, h⟩, fun _ r h => ⟨r, by rw [hh]; exact h, .refl r⟩, fun _ _ _ c E z _ _ _ h => ⟨c, E, z, by rw [hh]; exact h, rfl⟩,
      fun _ _ h => ⟨h, hc _⟩, fun _ _ h => .inl h, fun k _ h => ⟨by rw [hh], h⟩, by rw [hh]; exact Nat.le_refl _, hos, ht, ho⟩
  refine ⟨H.step E (fun id cs e => .inl ⟨H.lt id (live_var e), e, fun _ _ _ => by rw [hh]⟩) (fun id fz s xs e => .inl ⟨H.lt id (live_row e), ⟨fz, e⟩, fun _ _ _ => by rw [hh]⟩) (fun id s fc c tm e => .inl ⟨H.lt id (live_loop e), e, fun _ _ _ => by rw [hh]⟩)
    (fun id t e r s hb hr => .inl ⟨H.lt id (live_bld hb), H.lt r (live_raw hr), hb, hr, fun _ _ _ => by rw [hh], fun _ _ _ => by rw [hh]⟩) (fun id hb => .inl (H.lt id hb.live))
    H.inj (fun id h => hm _ (H.lt id h)) (fun b o h => ?_), E⟩
  obtain ⟨h1, h2⟩ := H.z b o h
  exact ⟨by rw [hh]; exact h1, h2⟩
def Cx.new (Γ : Cx) (id : Nat) (ob : Ob) (c : Array Value) (E : TypeId) (z : Nat × Nat) (m : Nat → Prop) : Cx :=
  { Γ with ρ := upd Γ.ρ id (some (Γ.w.heap.size, 0)), h := upd Γ.h id (some ob), n := m, w := Γ.w.alloc (.cells c E z) }
theorem alloc_block (w : World) (o : Obj) (k : Nat) (hk : k < w.heap.size) : (w.alloc o).heap[k]? = w.heap[k]? := Go.RowKit.Below.heap_alloc w o k hk
theorem alloc_new (w : World) (o : Obj) : (w.alloc o).heap[w.heap.size]? = some o := by show (w.heap.push o)[w.heap.size]? = some o; simp
theorem cell_of_block {w w' : World} {b o : Nat} (h : w'.heap[b]? = w.heap[b]?) : w'.cell? ⟨b, o, none⟩ = w.cell? ⟨b, o, none⟩ := by simp [World.cell?, h]
theorem evo_new {Γ : Cx} (H : HOk Γ) (id : Nat) (ob : Ob) (c : Array Value) (E : TypeId) (z : Nat × Nat) (m : Nat → Prop) (hid : ¬ Γ.n id) (hm : (∀ i, Γ.n i → m i) ∧ m id) : Evo Γ (Γ.new id ob c E z m) := by
  have hne : ∀ i, Γ.n i → i ≠ id := fun i hi e => hid (e ▸ hi)
  refine ⟨hm.1, ?_, ?_, ?_, ?_, (fun i t e r s hi h => by simp only [Cx.new, upd_other _ _ (hne i hi)] at h; exact ⟨r, s, h⟩), (fun i o hi h => by simp only [Cx.new, upd_other _ _ (hne i hi)] at h; exact ⟨o, h⟩), fun b r h => ⟨r, (alloc_block _ _ _ (Array.getElem?_eq_some_iff.1 h).1).trans h, .refl r⟩, ?_, ?_, fun _ _ h => .inl h, ?_, by simp [Cx.new], rfl, rfl, rfl⟩
  · rintro i hi ⟨o, e, h⟩
    simp only [Cx.new, upd_other _ _ (hne i hi)] at e ⊢
    exact ⟨⟨o, e, h⟩, trivial⟩
  · intro i cs hi e
    simp only [Cx.new, upd_other _ _ (hne i hi)] at e
    exact ⟨cs, e, rfl⟩
  · intro i fz s xs hi e
    simp only [Cx.new, upd_other _ _ (hne i hi)] at e
    exact ⟨fz, xs, e, rfl⟩
  · intro i s fc c1 tm hi e
    simp only [Cx.new, upd_other _ _ (hne i hi)] at e
    exact ⟨s, tm, e⟩
  · intro i b base c' E' z' hi hl hr hb
    refine ⟨c', E', z', ?_, rfl⟩
    exact (alloc_block _ _ _ (Array.getElem?_eq_some_iff.1 hb).1).trans hb
  · intro b o hz
    exact ⟨hz, cell_of_block (alloc_block _ _ _ (H.z b o hz).1)⟩
  · intro k hk hno
    refine ⟨alloc_block _ _ _ hk, ?_⟩
    rintro i base ⟨o, e, h⟩
    by_cases hi : i = id
    · subst hi; simp only [Cx.new, upd_same]; intro e2; simp at e2; omega
    · simp only [Cx.new, upd_other _ _ hi] at e ⊢
      exact hno i base ⟨o, e, h⟩
theorem ok_new {Γ : Cx} (H : HOk Γ) (id : Nat) (ob : Ob) (c : Array Value) (E : TypeId) (z : Nat × Nat) (m : Nat → Prop) (hid : ¬ Γ.n id) (hm : (∀ i, Γ.n i → m i) ∧ m id)
    (hv : ∀ cs, ob = .var cs → VarOk (Γ.new id ob c E z m) id cs) (hr : ∀ fz s xs, ob = .row fz s xs → RowOk (Γ.new id ob c E z m) id s xs) (hlo : ∀ s fc c tm, ob ≠ .loop s fc c tm := by simp) (hbo : (∀ t e r s, ob ≠ .bld t e r s) ∧ ∀ o, ob ≠ .raw o := by simp) : HOk (Γ.new id ob c E z m) := by
  have EV := evo_new H id ob c E z m hid hm
  have hlt : ∀ i, i ≠ id → live (Γ.new id ob c E z m).h i → Γ.n i ∧ live Γ.h i := by
    rintro i hi ⟨o, e, h⟩
    simp only [Cx.new, upd_other _ _ hi] at e
    exact ⟨H.lt i ⟨o, e, h⟩, ⟨o, e, h⟩⟩
  have hB : ∀ i, isB (Γ.new id ob c E z m).h i → i ≠ id ∧ isB Γ.h i := by
    rintro i (⟨t, e', r, s, e⟩ | ⟨o, e⟩)
    all_goals
      by_cases hi : i = id
      · subst hi; simp only [Cx.new, upd_same, Option.some.injEq] at e; first | exact absurd e (hbo.1 _ _ _ _) | exact absurd e (hbo.2 _)
      · simp only [Cx.new, upd_other _ _ hi] at e; first | exact ⟨hi, .inl ⟨_, _, _, _, e⟩⟩ | exact ⟨hi, .inr ⟨_, e⟩⟩
  refine H.step EV ?_ ?_ ?_ ?_ (fun i hb => .inl (H.lt i (hB i hb).2.live)) ?_ ?_ ?_
  rotate_left 3
  · intro i t e' r s hb hr
    obtain ⟨hi, hbi⟩ := hB i (.inl ⟨_, _, _, _, hb⟩)
    obtain ⟨hj, hbj⟩ := hB r (.inr ⟨_, hr⟩)
    simp only [Cx.new, upd_other _ _ hi] at hb
    simp only [Cx.new, upd_other _ _ hj] at hr
    exact .inl ⟨H.lt i hbi.live, H.lt r hbj.live, hb, hr, fun b base hb => alloc_block _ _ _ (H.there hbi.live hb), fun b base hb => alloc_block _ _ _ (H.there hbj.live hb)⟩
  rotate_left 3
  · intro i cs e
    by_cases hi : i = id
    · subst hi; simp only [Cx.new, upd_same, Option.some.injEq] at e; exact .inr (hv cs e)
    · obtain ⟨h1, h2⟩ := hlt i hi (live_var e)
      simp only [Cx.new, upd_other _ _ hi] at e
      exact .inl ⟨h1, e, fun b base hb => alloc_block _ _ _ (H.there h2 hb)⟩
  · intro i fz s xs e
    by_cases hi : i = id
    · subst hi; simp only [Cx.new, upd_same, Option.some.injEq] at e; exact .inr (hr fz s xs e)
    · obtain ⟨h1, h2⟩ := hlt i hi (live_row e)
      simp only [Cx.new, upd_other _ _ hi] at e
      exact .inl ⟨h1, ⟨fz, e⟩, fun b base hb => alloc_block _ _ _ (H.there h2 hb)⟩
  · intro i s fc c1 tm e
    by_cases hi : i = id
    · subst hi; simp only [Cx.new, upd_same, Option.some.injEq] at e; exact absurd e (hlo s fc c1 tm)
    · obtain ⟨h1, h2⟩ := hlt i hi (live_loop e)
      simp only [Cx.new, upd_other _ _ hi] at e
      exact .inl ⟨h1, e, fun b base hb => alloc_block _ _ _ (H.there h2 hb)⟩
  · intro i j b bi bj hi hj ei ej
    by_cases h1 : i = id <;> by_cases h2 : j = id
    · omega
    · subst h1
      obtain ⟨_, hl⟩ := hlt j h2 hj
      simp only [Cx.new, upd_same, upd_other _ _ h2, Option.some.injEq, Prod.mk.injEq] at ei ej
      have := H.there hl ej; omega
    · subst h2
      obtain ⟨_, hl⟩ := hlt i h1 hi
      simp only [Cx.new, upd_same, upd_other _ _ h1, Option.some.injEq, Prod.mk.injEq] at ei ej
      have := H.there hl ei; omega
    · simp only [Cx.new, upd_other _ _ h1, upd_other _ _ h2] at ei ej
      exact H.inj i j b bi bj (hlt i h1 hi).2 (hlt j h2 hj).2 ei ej
  · intro i hi
    by_cases h1 : i = id
    · subst h1; exact hm.2
    · exact hm.1 i (hlt i h1 hi).1
  · intro b o hz
    obtain ⟨h1, h2⟩ := H.z b o hz
    refine ⟨by simp [Cx.new]; omega, fun i base hl hr => ?_⟩
    by_cases hi : i = id
    · subst hi
      simp only [Cx.new, upd_same, Option.some.injEq, Prod.mk.injEq] at hr
      omega
    · obtain ⟨_, hl'⟩ := hlt i hi hl
      simp only [Cx.new, upd_other _ _ hi] at hr ⊢
      exact h2 i base hl' hr
theorem step_virtual {Γ : Cx} (H : HOk Γ) (id s : Nat) (m : Nat → Prop) (fz : Bool) (hid : ¬ Γ.n id) (hm : (∀ i, Γ.n i → m i) ∧ m id) :
    HOk { Γ with ρ := upd Γ.ρ id none, h := upd Γ.h id (some (.row fz s [])), n := m } ∧ Evo Γ { Γ with ρ := upd Γ.ρ id none, h := upd Γ.h id (some (.row fz s [])), n := m } := by
  have hne : ∀ i, Γ.n i → i ≠ id := fun i hi e => hid (e ▸ hi)
  have E : Evo Γ { Γ with ρ := upd Γ.ρ id none, h := upd Γ.h id (some (.row fz s [])), n := m } := by
    refine ⟨hm.1, ?_, ?_, ?_, ?_, (fun i t e r s hi h => by simp only [upd_other _ _ (hne i hi)] at h; exact ⟨r, s, h⟩), (fun i o hi h => by simp only [upd_other _ _ (hne i hi)] at h; exact ⟨o, h⟩), fun _ r h => ⟨r, h, .refl r⟩, ?_, fun _ _ h => ⟨h, rfl⟩, fun _ _ h => .inl h, ?_, Nat.le_refl _, rfl, rfl, rfl⟩
    · rintro i hi ⟨o, e, h⟩
      simp only [upd_other _ _ (hne i hi)] at e ⊢
      exact ⟨⟨o, e, h⟩, trivial⟩
    · intro i cs hi e
      simp only [upd_other _ _ (hne i hi)] at e
      exact ⟨cs, e, rfl⟩
    · intro i fz s xs hi e
      simp only [upd_other _ _ (hne i hi)] at e
      exact ⟨fz, xs, e, rfl⟩
    · intro i s fc c1 tm hi e
      simp only [upd_other _ _ (hne i hi)] at e
      exact ⟨s, tm, e⟩
    · intro i b base c' E' z' hi hl hr hb
      exact ⟨c', E', z', hb, rfl⟩
    · intro k hk hno
      refine ⟨rfl, ?_⟩
      rintro i base ⟨o, e, h⟩
      by_cases hi : i = id
      · subst hi; simp [upd]
      · simp only [upd_other _ _ hi] at e ⊢
        exact hno i base ⟨o, e, h⟩
  have hlt : ∀ i, i ≠ id → live (upd Γ.h id (some (.row fz s []))) i → live Γ.h i := by
    rintro i hi ⟨o, e, h⟩
    rw [upd_other _ _ hi] at e
    exact ⟨o, e, h⟩
  have hB : ∀ i, isB (upd Γ.h id (some (.row fz s []))) i → i ≠ id ∧ isB Γ.h i := by
    rintro i (⟨t, e', r, s', e⟩ | ⟨o, e⟩)
    all_goals
      by_cases hi : i = id
      · subst hi; simp [upd] at e
      · rw [upd_other _ _ hi] at e; first | exact ⟨hi, .inl ⟨_, _, _, _, e⟩⟩ | exact ⟨hi, .inr ⟨_, e⟩⟩
  refine ⟨H.step E ?_ ?_ ?_ (fun i t e r s hb hr => ?_) (fun i hb => .inl (H.lt i (hB i hb).2.live)) ?_ ?_ ?_, E⟩
  rotate_left 3
  · obtain ⟨hi, hbi⟩ := hB i (.inl ⟨_, _, _, _, hb⟩)
    obtain ⟨hj, hbj⟩ := hB r (.inr ⟨_, hr⟩)
    simp only [upd_other _ _ hi] at hb
    simp only [upd_other _ _ hj] at hr
    exact .inl ⟨H.lt i hbi.live, H.lt r hbj.live, hb, hr, fun _ _ _ => rfl, fun _ _ _ => rfl⟩
  rotate_left 3
  · intro i cs e
    by_cases hi : i = id
    · subst hi; simp [upd] at e
    · have hl := hlt i hi (live_var e)
      simp only [upd_other _ _ hi] at e
      exact .inl ⟨H.lt i hl, e, fun _ _ _ => rfl⟩
  · intro i fz' s' xs e
    by_cases hi : i = id
    · subst hi; simp [upd] at e; exact .inr (.inl ⟨by simp [upd], e.2.2⟩)
    · have hl := hlt i hi (live_row e)
      simp only [upd_other _ _ hi] at e
      exact .inl ⟨H.lt i hl, ⟨fz', e⟩, fun _ _ _ => rfl⟩
  · intro i s1 fc c1 tm e
    by_cases hi : i = id
    · subst hi; simp [upd] at e
    · have hl := hlt i hi (live_loop e)
      simp only [upd_other _ _ hi] at e
      exact .inl ⟨H.lt i hl, e, fun _ _ _ => rfl⟩
  · intro i j b bi bj hi hj ei ej
    by_cases h1 : i = id
    · subst h1; simp [upd] at ei
    · by_cases h2 : j = id
      · subst h2; simp [upd] at ej
      · simp only [upd_other _ _ h1, upd_other _ _ h2] at ei ej
        exact H.inj i j b bi bj (hlt i h1 hi) (hlt j h2 hj) ei ej
  · intro i hi
    by_cases h1 : i = id
    · subst h1; exact hm.2
    · exact hm.1 i (H.lt i (hlt i h1 hi))
  · intro b o hz
    obtain ⟨h1, h2⟩ := H.z b o hz
    refine ⟨h1, fun i base hl hr => ?_⟩
    by_cases hi : i = id
    · subst hi; simp [upd] at hr
    · simp only [upd_other _ _ hi] at hr ⊢
      exact h2 i base (hlt i hi hl) hr
theorem step_kill {Γ : Cx} (H : HOk Γ) (id : Nat) : HOk { Γ with h := upd Γ.h id (some .dead) } ∧ Evo Γ { Γ with h := upd Γ.h id (some .dead) } := by
  have hlt : ∀ i, live (upd Γ.h id (some .dead)) i → i ≠ id ∧ live Γ.h i := by
    rintro i ⟨o, e, h⟩
    by_cases hi : i = id
    · subst hi; simp [upd] at e; exact absurd e.symm h
    · rw [upd_other _ _ hi] at e; exact ⟨hi, o, e, h⟩
  have E : Evo Γ { Γ with h := upd Γ.h id (some .dead) } := by
    refine ⟨fun _ h => h, fun i _ hl => ⟨(hlt i hl).2, rfl⟩, ?_, ?_, ?_, (fun i t e r s _ h => by have hi := (hlt i (live_bld h)).1; simp only [upd_other _ _ hi] at h; exact ⟨r, s, h⟩), (fun i o _ h => by have hi := (hlt i (live_raw h)).1; simp only [upd_other _ _ hi] at h; exact ⟨o, h⟩), fun _ r h => ⟨r, h, .refl r⟩, fun _ _ _ c E z _ _ _ h => ⟨c, E, z, h, rfl⟩, fun _ _ h => ⟨h, rfl⟩, fun _ _ h => .inl h,
      fun k _ hno => ⟨rfl, fun i base hl => hno i base (hlt i hl).2⟩, Nat.le_refl _, rfl, rfl, rfl⟩
    · intro i cs _ e
      have hi := (hlt i (live_var e)).1
      simp only [upd_other _ _ hi] at e
      exact ⟨cs, e, rfl⟩
    · intro i fz s xs _ e
      have hi := (hlt i (live_row e)).1
      simp only [upd_other _ _ hi] at e
      exact ⟨fz, xs, e, rfl⟩
    · intro i s fc c1 tm _ e
      have hi := (hlt i (live_loop e)).1
      simp only [upd_other _ _ hi] at e
      exact ⟨s, tm, e⟩
  refine ⟨H.step E ?_ ?_ ?_ (fun i t e r s hb hr => by
      obtain ⟨hi, hbi⟩ := hlt i (live_bld hb)
      obtain ⟨hj, hbj⟩ := hlt r (live_raw hr)
      simp only [upd_other _ _ hi] at hb
      simp only [upd_other _ _ hj] at hr
      exact .inl ⟨H.lt i hbi, H.lt r hbj, hb, hr, fun _ _ _ => rfl, fun _ _ _ => rfl⟩) (fun i hb => .inl (H.lt i (hlt i hb.live).2)) (fun i j b bi bj hi hj => H.inj i j b bi bj (hlt i hi).2 (hlt j hj).2) (fun i hi => H.lt i (hlt i hi).2) ?_, E⟩
  · intro i cs e
    obtain ⟨hi, hl⟩ := hlt i (live_var e)
    simp only [upd_other _ _ hi] at e
    exact .inl ⟨H.lt i hl, e, fun _ _ _ => rfl⟩
  · intro i fz s xs e
    obtain ⟨hi, hl⟩ := hlt i (live_row e)
    simp only [upd_other _ _ hi] at e
    exact .inl ⟨H.lt i hl, ⟨fz, e⟩, fun _ _ _ => rfl⟩
  · intro i s fc c1 tm e
    obtain ⟨hi, hl⟩ := hlt i (live_loop e)
    simp only [upd_other _ _ hi] at e
    exact .inl ⟨H.lt i hl, e, fun _ _ _ => rfl⟩
  · intro b o hz
    obtain ⟨h1, h2⟩ := H.z b o hz
    refine ⟨h1, fun i base hl hr => ?_⟩
    obtain ⟨hi, hl'⟩ := hlt i hl
    simp only [upd_other _ _ hi]
    exact h2 i base hl' hr
end Go.Sym
set_option linter.unusedVariables false
set_option linter.unusedSimpArgs false
namespace Go.Sym
def wr (c : Array Value) (o : Nat) : List Value → Array Value
  | [] => c
  | u :: r => wr (c.setIfInBounds o u) (o + 1) r
theorem wr_size (us : List Value) : ∀ (c : Array Value) (o : Nat), (wr c o us).size = c.size := by
  induction us with
  | nil => intro c o; rfl
  | cons u r ih => intro c o; simp [wr, ih]
theorem wr_get (us : List Value) : ∀ (c : Array Value) (o k : Nat), o + us.length ≤ c.size → (wr c o us)[k]? = if o ≤ k ∧ k < o + us.length then us[k - o]? else c[k]? := by
  induction us with
  | nil => intro c o k _; simp [wr]; omega
  | cons u r ih =>
    intro c o k h
    simp only [List.length_cons] at h
    rw [wr, ih _ _ _ (by simp; omega)]
    by_cases h1 : o = k
    · subst h1
      rw [if_neg (by omega), if_pos (by simp)]
      simp [Array.getElem?_setIfInBounds, show o < c.size by omega]
    · rw [Array.getElem?_setIfInBounds_ne h1]
      by_cases h2 : o + 1 ≤ k ∧ k < o + 1 + r.length
      · rw [if_pos h2, if_pos (by simp; omega)]
        rw [show k - o = (k - (o + 1)) + 1 by omega, List.getElem?_cons_succ]
      · rw [if_neg h2, if_neg (by simp; omega)]
def setBlk (w : World) (b : Nat) (o : Obj) : World := { w with heap := w.heap.setIfInBounds b o }
theorem setBlk_same {w : World} {b : Nat} {o : Obj} (h : b < w.heap.size) : (setBlk w b o).heap[b]? = some o := by simp [setBlk, h]
theorem setBlk_other {w : World} {b k : Nat} {o : Obj} (h : k ≠ b) : (setBlk w b o).heap[k]? = w.heap[k]? := by
  simp [setBlk, Array.getElem?_setIfInBounds_ne (Ne.symm h)]
theorem setCell_eq {w : World} {b o : Nat} {c : Array Value} {E : TypeId} {z : Nat × Nat} (hb : w.heap[b]? = some (.cells c E z)) (u : Value) :
    w.setCell ⟨b, o, none⟩ u = setBlk w b (.cells (c.setIfInBounds o u) E z) := by
  obtain ⟨hlt, he⟩ := Array.getElem?_eq_some_iff.1 hb
  unfold World.setCell setBlk
  congr 1
  apply Array.ext_getElem?
  intro k
  by_cases hk : b = k
  · subst hk
    rw [Array.getElem?_modify, if_pos rfl, hb]
    simp [hlt]
  · rw [Array.getElem?_modify, if_neg hk, Array.getElem?_setIfInBounds_ne hk]
theorem setBlk_setBlk (w : World) (b : Nat) (o o' : Obj) : setBlk (setBlk w b o) b o' = setBlk w b o' := by
  simp [setBlk]
theorem add_none (b o i : Nat) : (⟨b, o, none⟩ : Addr).add i = ⟨b, o + i, none⟩ := by
  unfold Addr.add; split
  · simp [*]
  · rfl
theorem run_storeCells (P : Program) (b : Nat) (E : TypeId) (z : Nat × Nat) (us : List Value) : ∀ (w : World) (c : Array Value) (o i : Nat),
    w.heap[b]? = some (.cells c E z) → unfrozen z c.size → o + i + us.length ≤ c.size → (∀ u ∈ us, u.oneCell = true) →
    (storeCells ⟨b, o, none⟩ us i).run P w = .ok () (if us = [] then w else setBlk w b (.cells (wr c (o + i) us) E z)) := by
  induction us with
  | nil => intro w c o i hb hz hs h1; simp [storeCells, Sem.run, Pure.pure]
  | cons u r ih =>
    intro w c o i hb hz hs h1
    simp only [List.length_cons] at hs
    have hu : u.oneCell = true := h1 u (by simp)
    have hlt : o + i < c.size := by omega
    have hcell : w.cell? ⟨b, o + i, none⟩ = some c[o + i] := by simp [World.cell?, hb, hlt]
    have hfz : w.frozen? ⟨b, o + i, none⟩ = false := by
      have := hz (o + i) hlt
      simp only [World.frozen?, hb]
      cases hd : decide (z.1 ≤ o + i) && decide (o + i < z.2) with
      | false => rfl
      | true => simp at hd; exact absurd hd this
    have hst : (store ((⟨b, o, none⟩ : Addr).add i) u).run P w = .ok () (setBlk w b (.cells (c.setIfInBounds (o + i) u) E z)) := by
      rw [add_none, ← setCell_eq hb u]
      unfold store
      cases u <;> simp [Value.oneCell] at hu <;> simp [Sem.run, hcell, hfz]
    have hb' : (setBlk w b (.cells (c.setIfInBounds (o + i) u) E z)).heap[b]? = some (.cells (c.setIfInBounds (o + i) u) E z) := setBlk_same (Array.getElem?_eq_some_iff.1 hb).1
    rw [storeCells, Sem.run_bind, hst]
    simp only [Result.andThen]
    rw [ih _ _ o (i + 1) hb' (by simpa using hz) (by simp; omega) (fun x hx => h1 x (by simp [hx]))]
    simp only [setBlk_setBlk, wr, Nat.add_assoc]
    by_cases hr : r = []
    · subst hr; simp [wr]
    · simp [hr]
theorem ext_get (c : Array Value) (s m k : Nat) (h : s + m ≤ c.size) : (c.extract s (s + m))[k]? = if k < m then c[s + k]? else none := by
  rw [Array.getElem?_extract, Nat.min_eq_left h, show s + m - s = m by omega]
theorem ext_size (c : Array Value) (s m : Nat) (h : s + m ≤ c.size) : (c.extract s (s + m)).size = m := by
  rw [Array.size_extract, Nat.min_eq_left h]; omega
theorem run_loadCellsFrom (P : Program) (b o n : Nat) (w : World) (c : Array Value) (E : TypeId) (z : Nat × Nat) (hb : w.heap[b]? = some (.cells c E z)) : ∀ (m i : Nat) (acc : Array Value),
    o + i + m ≤ c.size → (loadCellsFrom ⟨b, o, none⟩ i m acc).run P w = .ok (acc ++ c.extract (o + i) (o + i + m)) w := by
  intro m
  induction m with
  | zero =>
    intro i acc h
    have e : c.extract (o + i) (o + i + 0) = #[] := by apply Array.ext_getElem?; intro k; rw [ext_get _ _ _ _ (by omega)]; simp
    rw [e]; simp [loadCellsFrom, Sem.run, Pure.pure]
  | succ m ih =>
    intro i acc h
    have hlt : o + i < c.size := by omega
    have hcell : w.cell? ⟨b, o + i, none⟩ = some c[o + i] := by simp [World.cell?, hb, hlt]
    have hl : (load ((⟨b, o, none⟩ : Addr).add i)).run P w = .ok c[o + i] w := by rw [add_none]; simp [load, Sem.run, hcell]
    rw [loadCellsFrom, Sem.run_bind, hl]
    simp only [Result.andThen]
    rw [ih (i + 1) _ (by omega)]
    congr 1
    apply Array.ext_getElem?
    intro k
    rw [Array.getElem?_append, Array.getElem?_append, ext_get _ _ _ _ (by omega), ext_get _ _ _ _ (by omega)]
    simp only [Array.size_push, Array.getElem?_push]
    by_cases h1 : k < acc.size
    · rw [if_pos (by omega), if_neg (by omega), if_pos h1]
    · by_cases h2 : k = acc.size
      · subst h2
        rw [if_pos (by omega), if_pos rfl, if_neg (by omega), if_pos (by omega)]
        simp [hlt]
      · rw [if_neg (by omega), if_neg h1]
        by_cases h3 : k - acc.size < m + 1
        · rw [if_pos (by omega), if_pos h3]
          congr 1; omega
        · rw [if_neg (by omega), if_neg h3]
theorem run_loadCells (P : Program) {b o n : Nat} {w : World} {c : Array Value} {E : TypeId} {z : Nat × Nat} (hb : w.heap[b]? = some (.cells c E z)) (h : o + n ≤ c.size) :
    (loadCells ⟨b, o, none⟩ n).run P w = .ok (c.extract o (o + n)) w := by
  rw [loadCells, run_loadCellsFrom P b o n w c E z hb n 0 #[] (by omega)]
  simp
theorem evo_write {Γ : Cx} (H : HOk Γ) {id b base : Nat} (hl : live Γ.h id) (hr : Γ.ρ id = some (b, base)) {c c' : Array Value} {E : TypeId} {z : Nat × Nat} (hb : Γ.w.heap[b]? = some (.cells c E z))
    (hs : c'.size = c.size) (hz : ∀ o, Γ.Z b o → c'[o]? = c[o]?) (ob : Ob)
    (hv : ∀ cs', ob = .var cs' → ∃ cs, Γ.h id = some (.var cs) ∧ cs.length = cs'.length)
    (hrow : ∀ fz s xs', ob = .row fz s xs' → ∃ fz0 xs, Γ.h id = some (.row fz0 s xs) ∧ xs.length = xs'.length) (hd : ob ≠ .dead) (hnl : ∀ s fc c tm, ob ≠ .loop s fc c tm := by simp) (hnb : (∀ t e r s, ob ≠ .bld t e r s) ∧ ∀ o, ob ≠ .raw o := by simp) :
    Evo Γ { Γ with h := upd Γ.h id (some ob), w := setBlk Γ.w b (.cells c' E z) } := by
  have hlt := (Array.getElem?_eq_some_iff.1 hb).1
  have hlive : ∀ i, live (upd Γ.h id (some ob)) i → live Γ.h i := by
    rintro i ⟨o, e, h⟩
    by_cases hi : i = id
    · subst hi; exact hl
    · rw [upd_other _ _ hi] at e; exact ⟨o, e, h⟩
  refine ⟨fun _ h => h, fun i _ h => ⟨hlive i h, rfl⟩, ?_, ?_, ?_, ?_, ?_, ?_, ?_, ?_, fun _ _ h => .inl h, ?_, by simp [setBlk], rfl, rfl, rfl⟩
  rotate_left 3
  · intro i t e r s _ h
    by_cases hi : i = id
    · subst hi; simp only [upd_same, Option.some.injEq] at h; exact absurd h (hnb.1 _ _ _ _)
    · simp only [upd_other _ _ hi] at h; exact ⟨r, s, h⟩
  · intro i o _ h
    by_cases hi : i = id
    · subst hi; simp only [upd_same, Option.some.injEq] at h; exact absurd h (hnb.2 _)
    · simp only [upd_other _ _ hi] at h; exact ⟨o, h⟩
  rotate_left 4
  · intro i cs _ e
    by_cases hi : i = id
    · subst hi; simp only [upd_same, Option.some.injEq] at e; exact hv cs e
    · simp only [upd_other _ _ hi] at e; exact ⟨cs, e, rfl⟩
  · intro i fz s xs _ e
    by_cases hi : i = id
    · subst hi; simp only [upd_same, Option.some.injEq] at e; exact hrow fz s xs e
    · simp only [upd_other _ _ hi] at e; exact ⟨fz, xs, e, rfl⟩
  · intro i s fc c1 tm _ e
    by_cases hi : i = id
    · subst hi; simp only [upd_same, Option.some.injEq] at e; exact absurd e (hnl s fc c1 tm)
    · simp only [upd_other _ _ hi] at e; exact ⟨s, tm, e⟩
  · intro b' r1 hb1
    have hk : b' ≠ b := fun e => by subst e; rw [hb] at hb1; cases hb1
    exact ⟨r1, (setBlk_other hk).trans hb1, .refl r1⟩
  · intro i b' base' c1 E1 z1 _ _ hri hbi
    by_cases hk : b' = b
    · subst hk
      rw [hb] at hbi; cases hbi
      exact ⟨c', E, z, setBlk_same hlt, hs⟩
    · exact ⟨c1, E1, z1, (setBlk_other hk).trans hbi, rfl⟩
  · intro b' o hZ
    refine ⟨hZ, ?_⟩
    by_cases hk : b' = b
    · subst hk
      simp only [World.cell?, setBlk_same hlt, hb]
      simp [hz o hZ]
    · exact cell_of_block (setBlk_other hk)
  · intro k hk hno
    have hne : k ≠ b := fun e => hno id base hl (e ▸ hr)
    exact ⟨setBlk_other hne, fun i base' h => hno i base' (hlive i h)⟩
theorem ok_write {Γ : Cx} (H : HOk Γ) {id b base : Nat} (hl : live Γ.h id) (hr : Γ.ρ id = some (b, base)) {c c' : Array Value} {E : TypeId} {z : Nat × Nat} (hb : Γ.w.heap[b]? = some (.cells c E z))
    (hs : c'.size = c.size) (hz : ∀ o, Γ.Z b o → c'[o]? = c[o]?) (ob : Ob)
    (hv : ∀ cs', ob = .var cs' → ∃ cs, Γ.h id = some (.var cs) ∧ cs.length = cs'.length)
    (hrow : ∀ fz s xs', ob = .row fz s xs' → ∃ fz0 xs, Γ.h id = some (.row fz0 s xs) ∧ xs.length = xs'.length ∧ fz = fz0) (hd : ob ≠ .dead)
    (gv : ∀ cs', ob = .var cs' → VarOk { Γ with h := upd Γ.h id (some ob), w := setBlk Γ.w b (.cells c' E z) } id cs')
    (gr : ∀ fz s xs', ob = .row fz s xs' → RowOk { Γ with h := upd Γ.h id (some ob), w := setBlk Γ.w b (.cells c' E z) } id s xs') (hnl : ∀ s fc c tm, ob ≠ .loop s fc c tm := by simp) (hnb : (∀ t e r s, ob ≠ .bld t e r s) ∧ ∀ o, ob ≠ .raw o := by simp) :
    HOk { Γ with h := upd Γ.h id (some ob), w := setBlk Γ.w b (.cells c' E z) } := by
  have EV := evo_write H hl hr hb hs hz ob hv (fun fz s xs' e => let ⟨a, b, c, d, _⟩ := hrow fz s xs' e; ⟨a, b, c, d⟩) hd hnl hnb
  have hlive : ∀ i, live (upd Γ.h id (some ob)) i → live Γ.h i := by
    rintro i ⟨o, e, h⟩
    by_cases hi : i = id
    · subst hi; exact hl
    · rw [upd_other _ _ hi] at e; exact ⟨o, e, h⟩
  have hother : ∀ i, i ≠ id → live Γ.h i → ∀ b' base', Γ.ρ i = some (b', base') → b' ≠ b := fun i hi hli b' base' e eb => hi (H.inj i id b' base' base hli hl e (eb ▸ hr))
  have hB : ∀ i, isB (upd Γ.h id (some ob)) i → i ≠ id ∧ isB Γ.h i := by
    rintro i (⟨t, e', r, s, e⟩ | ⟨o, e⟩)
    all_goals
      by_cases hi : i = id
      · subst hi; simp only [upd_same, Option.some.injEq] at e; first | exact absurd e (hnb.1 _ _ _ _) | exact absurd e (hnb.2 _)
      · rw [upd_other _ _ hi] at e; first | exact ⟨hi, .inl ⟨_, _, _, _, e⟩⟩ | exact ⟨hi, .inr ⟨_, e⟩⟩
  refine H.step EV ?_ ?_ ?_ (fun i t e r s hb hr => ?_) (fun i hb => .inl (H.lt i (hB i hb).2.live)) (fun i j b bi bj hi hj => H.inj i j b bi bj (hlive i hi) (hlive j hj)) (fun i hi => H.lt i (hlive i hi)) ?_
  rotate_left 3
  · obtain ⟨hi, hbi⟩ := hB i (.inl ⟨_, _, _, _, hb⟩)
    obtain ⟨hj, hbj⟩ := hB r (.inr ⟨_, hr⟩)
    simp only [upd_other _ _ hi] at hb
    simp only [upd_other _ _ hj] at hr
    exact .inl ⟨H.lt i hbi.live, H.lt r hbj.live, hb, hr, fun b' base' h => setBlk_other (hother i hi hbi.live b' base' h), fun b' base' h => setBlk_other (hother r hj hbj.live b' base' h)⟩
  rotate_left 1
  · intro i cs e
    by_cases hi : i = id
    · subst hi; simp only [upd_same, Option.some.injEq] at e; exact .inr (gv cs e)
    · simp only [upd_other _ _ hi] at e
      exact .inl ⟨H.lt i (live_var e), e, fun b' base' h => setBlk_other (hother i hi (live_var e) b' base' h)⟩
  · intro i fz s xs e
    by_cases hi : i = id
    · subst hi; simp only [upd_same, Option.some.injEq] at e; exact .inr (gr fz s xs e)
    · simp only [upd_other _ _ hi] at e
      exact .inl ⟨H.lt i (live_row e), ⟨fz, e⟩, fun b' base' h => setBlk_other (hother i hi (live_row e) b' base' h)⟩
  · intro i s fc c1 tm e
    by_cases hi : i = id
    · subst hi; simp only [upd_same, Option.some.injEq] at e; exact absurd e (hnl s fc c1 tm)
    · simp only [upd_other _ _ hi] at e
      exact .inl ⟨H.lt i (live_loop e), e, fun b' base' h => setBlk_other (hother i hi (live_loop e) b' base' h)⟩
  · intro b' o hZ
    obtain ⟨h1, h2⟩ := H.z b' o hZ
    refine ⟨by simp [setBlk]; exact h1, fun i base' hli hri => ?_⟩
    obtain ⟨s, xs, e, ho⟩ := h2 i base' (hlive i hli) hri
    by_cases hi : i = id
    · subst hi
      simp only [upd_same]
      rcases live_cases hli with ⟨cs, ec⟩ | ⟨fz, s', xs', ec⟩ | ⟨s', fc, c1, tm, ec⟩ | ec
      · simp only [upd_same, Option.some.injEq] at ec
        obtain ⟨cs0, e0, _⟩ := hv cs ec
        rw [e] at e0; cases e0
      · simp only [upd_same, Option.some.injEq] at ec
        obtain ⟨fz0, xs0, e0, hlen, hf⟩ := hrow fz s' xs' ec
        rw [e] at e0; cases e0
        exact ⟨s, xs', by rw [ec, hf], by rw [← hlen]; exact ho⟩
      · simp only [upd_same, Option.some.injEq] at ec; exact absurd ec (hnl s' fc c1 tm)
      · exact absurd rfl (hB i ec).1
    · exact ⟨s, xs, by simp only [upd_other _ _ hi]; exact e, ho⟩
def Cx.froze (Γ : Cx) (id s : Nat) (xs : List V) : Cx :=
  { Γ with h := upd Γ.h id (some (.row true s xs)), Z := fun b o => Γ.Z b o ∨ ∃ base, Γ.ρ id = some (b, base) ∧ o < base + xs.length * s ∧ base ≤ o }
theorem step_freeze {Γ : Cx} (H : HOk Γ) {id s : Nat} {fz : Bool} {xs : List V} (e0 : Γ.h id = some (.row fz s xs)) : HOk (Γ.froze id s xs) ∧ Evo Γ (Γ.froze id s xs) := by
  have hl := live_row e0
  have hlive : ∀ i, live (upd Γ.h id (some (.row true s xs))) i → live Γ.h i := by
    rintro i ⟨o, e, h⟩
    by_cases hi : i = id
    · subst hi; exact hl
    · rw [upd_other _ _ hi] at e; exact ⟨o, e, h⟩
  have EV : Evo Γ (Γ.froze id s xs) := by
    refine ⟨fun _ h => h, fun i _ h => ⟨hlive i h, rfl⟩, ?_, ?_, ?_, (fun i t e r s1 _ h => by
        by_cases hi : i = id
        · subst hi; simp [Cx.froze, upd] at h
        · simp only [Cx.froze, upd_other _ _ hi] at h; exact ⟨r, s1, h⟩), (fun i o _ h => by
        by_cases hi : i = id
        · subst hi; simp [Cx.froze, upd] at h
        · simp only [Cx.froze, upd_other _ _ hi] at h; exact ⟨o, h⟩), fun _ r h => ⟨r, h, .refl r⟩, fun _ _ _ c E z _ _ _ h => ⟨c, E, z, h, rfl⟩, fun _ _ h => ⟨.inl h, rfl⟩, ?_, fun k _ hno => ⟨rfl, fun i base h => hno i base (hlive i h)⟩, Nat.le_refl _, rfl, rfl, rfl⟩
    · intro i cs _ e
      by_cases hi : i = id
      · subst hi; simp [Cx.froze, upd] at e
      · simp only [Cx.froze, upd_other _ _ hi] at e; exact ⟨cs, e, rfl⟩
    · intro i fz' s' xs' _ e
      by_cases hi : i = id
      · subst hi; simp only [Cx.froze, upd_same, Option.some.injEq, Ob.row.injEq] at e
        obtain ⟨_, rfl, rfl⟩ := e
        exact ⟨fz, xs, e0, rfl⟩
      · simp only [Cx.froze, upd_other _ _ hi] at e; exact ⟨fz', xs', e, rfl⟩
    · intro i s1 fc c1 tm _ e
      by_cases hi : i = id
      · subst hi; simp [Cx.froze, upd] at e
      · simp only [Cx.froze, upd_other _ _ hi] at e; exact ⟨s1, tm, e⟩
    · rintro b o (h | ⟨base, hr, _⟩)
      · exact .inl h
      · exact .inr (.inr ⟨id, base, hl, hr⟩)
  have hB : ∀ i, isB (Γ.froze id s xs).h i → i ≠ id ∧ isB Γ.h i := by
    rintro i (⟨t, e', r, s', e⟩ | ⟨o, e⟩)
    all_goals
      by_cases hi : i = id
      · subst hi; simp [Cx.froze, upd] at e
      · simp only [Cx.froze, upd_other _ _ hi] at e; first | exact ⟨hi, .inl ⟨_, _, _, _, e⟩⟩ | exact ⟨hi, .inr ⟨_, e⟩⟩
  refine ⟨H.step EV ?_ ?_ ?_ (fun i t e r s1 hb hr => ?_) (fun i hb => .inl (H.lt i (hB i hb).2.live)) (fun i j b bi bj hi hj => H.inj i j b bi bj (hlive i hi) (hlive j hj)) (fun i hi => H.lt i (hlive i hi)) ?_, EV⟩
  rotate_left 3
  · obtain ⟨hi, hbi⟩ := hB i (.inl ⟨_, _, _, _, hb⟩)
    obtain ⟨hj, hbj⟩ := hB r (.inr ⟨_, hr⟩)
    simp only [Cx.froze, upd_other _ _ hi] at hb
    simp only [Cx.froze, upd_other _ _ hj] at hr
    exact .inl ⟨H.lt i hbi.live, H.lt r hbj.live, hb, hr, fun _ _ _ => rfl, fun _ _ _ => rfl⟩
  rotate_left 1
  · intro i cs e
    by_cases hi : i = id
    · subst hi; simp [Cx.froze, upd] at e
    · simp only [Cx.froze, upd_other _ _ hi] at e; exact .inl ⟨H.lt i (live_var e), e, fun _ _ _ => rfl⟩
  · intro i fz' s' xs' e
    by_cases hi : i = id
    · subst hi; simp only [Cx.froze, upd_same, Option.some.injEq, Ob.row.injEq] at e
      obtain ⟨_, rfl, rfl⟩ := e
      exact .inl ⟨H.lt i hl, ⟨fz, e0⟩, fun _ _ _ => rfl⟩
    · simp only [Cx.froze, upd_other _ _ hi] at e; exact .inl ⟨H.lt i (live_row e), ⟨fz', e⟩, fun _ _ _ => rfl⟩
  · intro i s1 fc c1 tm e
    by_cases hi : i = id
    · subst hi; simp [Cx.froze, upd] at e
    · simp only [Cx.froze, upd_other _ _ hi] at e; exact .inl ⟨H.lt i (live_loop e), e, fun _ _ _ => rfl⟩
  · rintro b o (h | ⟨base, hr, ho, _⟩)
    · obtain ⟨h1, h2⟩ := H.z b o h
      refine ⟨h1, fun i base hli hri => ?_⟩
      obtain ⟨s', xs', e, ho⟩ := h2 i base (hlive i hli) hri
      by_cases hi : i = id
      · subst hi; rw [e0] at e; cases e
        exact ⟨s, xs, by simp [Cx.froze, upd], ho⟩
      · exact ⟨s', xs', by simp only [Cx.froze, upd_other _ _ hi]; exact e, ho⟩
    · refine ⟨H.there hl hr, fun i base' hli hri => ?_⟩
      obtain rfl : i = id := H.inj i id b base' base (hlive i hli) hl hri hr
      have : base' = base := by
        have hri' : Γ.ρ i = some (b, base') := hri
        rw [hr] at hri'; cases hri'; rfl
      subst this
      exact ⟨s, xs, by simp [Cx.froze, upd], ho⟩
def Cx.grow (Γ : Cx) (id id' : Nat) (ob : Ob) (b base : Nat) (m : Nat → Prop) (o : Obj) : Cx :=
  { Γ with ρ := upd Γ.ρ id' (some (b, base)), h := upd (upd Γ.h id (some .dead)) id' (some ob), n := m, w := setBlk Γ.w b o }
theorem step_grow {Γ : Cx} (H : HOk Γ) {id id' b base s : Nat} {m : Nat → Prop} {fz : Bool} {xs ys : List V} {c c' : Array Value} {E : TypeId} {z : Nat × Nat} (e0 : Γ.h id = some (.row fz s xs)) (hr : Γ.ρ id = some (b, base))
    (hb : Γ.w.heap[b]? = some (.cells c E z)) (hs : c'.size = c.size) (hz : ∀ o, o < base + xs.length * s → c'[o]? = c[o]?) (hid : ¬ Γ.n id') (hm : (∀ i, Γ.n i → m i) ∧ m id')
    (gr : RowOk (Γ.grow id id' (.row fz s (xs ++ ys)) b base m (.cells c' E z)) id' s (xs ++ ys)) :
    HOk (Γ.grow id id' (.row fz s (xs ++ ys)) b base m (.cells c' E z)) ∧ Evo Γ (Γ.grow id id' (.row fz s (xs ++ ys)) b base m (.cells c' E z)) := by
  have hl := live_row e0
  have hlt := (Array.getElem?_eq_some_iff.1 hb).1
  have hidn : Γ.n id := H.lt id hl
  have hZ : ∀ o, Γ.Z b o → o < base + xs.length * s := by
    intro o h
    obtain ⟨s', xs', e, ho⟩ := (H.z b o h).2 id base hl hr
    rw [e0] at e; cases e; exact ho
  have hfz : ∀ o, Γ.Z b o → fz = true := by
    intro o h
    obtain ⟨s', xs', e, ho⟩ := (H.z b o h).2 id base hl hr
    rw [e0] at e; cases e; rfl
  have hlive : ∀ i, i ≠ id' → live (upd (upd Γ.h id (some .dead)) id' (some (.row fz s (xs ++ ys)))) i → i ≠ id ∧ live Γ.h i ∧ upd (upd Γ.h id (some .dead)) id' (some (.row fz s (xs ++ ys))) i = Γ.h i := by
    rintro i hi ⟨o, e, h⟩
    rw [upd_other _ _ hi] at e ⊢
    by_cases h2 : i = id
    · subst h2; rw [upd_same] at e; cases e; exact absurd rfl h
    · rw [upd_other _ _ h2] at e ⊢; exact ⟨h2, ⟨o, e, h⟩, rfl⟩
  have hother : ∀ i, i ≠ id → live Γ.h i → ∀ b' base', Γ.ρ i = some (b', base') → b' ≠ b := fun i hi hli b' base' e eb => hi (H.inj i id b' base' base hli hl e (eb ▸ hr))
  have hB : ∀ i, isB (Γ.grow id id' (.row fz s (xs ++ ys)) b base m (.cells c' E z)).h i → i ≠ id' ∧ i ≠ id ∧ isB Γ.h i := by
    rintro i (⟨t, e', r, s', e⟩ | ⟨o, e⟩)
    all_goals
      by_cases hi : i = id'
      · subst hi; simp [Cx.grow, upd] at e
      · by_cases h2 : i = id
        · subst h2; simp only [Cx.grow, upd_other _ _ hi, upd_same] at e; cases e
        · simp only [Cx.grow, upd_other _ _ hi, upd_other _ _ h2] at e; first | exact ⟨hi, h2, .inl ⟨_, _, _, _, e⟩⟩ | exact ⟨hi, h2, .inr ⟨_, e⟩⟩
  have EV : Evo Γ (Γ.grow id id' (.row fz s (xs ++ ys)) b base m (.cells c' E z)) := by
    refine ⟨hm.1, ?_, ?_, ?_, ?_, (fun i t e r s1 hi h => by
        obtain ⟨h1, h2, _⟩ := hB i (.inl ⟨_, _, _, _, h⟩)
        simp only [Cx.grow, upd_other _ _ h1, upd_other _ _ h2] at h; exact ⟨r, s1, h⟩), (fun i o hi h => by
        obtain ⟨h1, h2, _⟩ := hB i (.inr ⟨_, h⟩)
        simp only [Cx.grow, upd_other _ _ h1, upd_other _ _ h2] at h; exact ⟨o, h⟩), ?_, ?_, ?_, fun _ _ h => .inl h, ?_, by simp [Cx.grow, setBlk], rfl, rfl, rfl⟩
    · intro i hi h
      have hne : i ≠ id' := fun e => hid (e ▸ hi)
      obtain ⟨_, h1, _⟩ := hlive i hne h
      exact ⟨h1, by simp only [Cx.grow, upd_other _ _ hne]⟩
    · intro i cs hi e
      have hne : i ≠ id' := fun e => hid (e ▸ hi)
      obtain ⟨_, h1, h2⟩ := hlive i hne (live_var e)
      exact ⟨cs, h2.symm.trans e, rfl⟩
    · intro i fz' s' xs' hi e
      have hne : i ≠ id' := fun e => hid (e ▸ hi)
      obtain ⟨_, h1, h2⟩ := hlive i hne (live_row e)
      exact ⟨fz', xs', h2.symm.trans e, rfl⟩
    · intro i s1 fc c1 tm hi e
      have hne : i ≠ id' := fun e => hid (e ▸ hi)
      obtain ⟨_, h1, h2⟩ := hlive i hne (live_loop e)
      exact ⟨s1, tm, h2.symm.trans e⟩
    · intro b' r1 hb1
      have hk : b' ≠ b := fun e => by subst e; rw [hb] at hb1; cases hb1
      exact ⟨r1, (setBlk_other hk).trans hb1, .refl r1⟩
    · intro i b' base' c1 E1 z1 hi _ hri hbi
      by_cases hk : b' = b
      · subst hk
        rw [hb] at hbi; cases hbi
        exact ⟨c', E, z, setBlk_same hlt, hs⟩
      · exact ⟨c1, E1, z1, (setBlk_other hk).trans hbi, rfl⟩
    · intro b' o hZb
      refine ⟨hZb, ?_⟩
      by_cases hk : b' = b
      · subst hk
        simp only [Cx.grow, World.cell?, setBlk_same hlt, hb]
        simp [hz o (hZ o hZb)]
      · exact cell_of_block (setBlk_other hk)
    · intro k hk hno
      have hne : k ≠ b := fun e => hno id base hl (e ▸ hr)
      refine ⟨setBlk_other hne, fun i base' h hri => ?_⟩
      by_cases hi : i = id'
      · subst hi
        simp only [Cx.grow, upd_same, Option.some.injEq, Prod.mk.injEq] at hri
        exact hne hri.1.symm
      · simp only [Cx.grow, upd_other _ _ hi] at hri
        exact hno i base' (hlive i hi h).2.1 hri
  refine ⟨H.step EV ?_ ?_ ?_ (fun i t e r s1 hb hr => ?_) (fun i hb => .inl (H.lt i (hB i hb).2.2.live)) ?_ ?_ ?_, EV⟩
  rotate_left 3
  · obtain ⟨hi, hi1, hbi⟩ := hB i (.inl ⟨_, _, _, _, hb⟩)
    obtain ⟨hj, hj1, hbj⟩ := hB r (.inr ⟨_, hr⟩)
    simp only [Cx.grow, upd_other _ _ hi, upd_other _ _ hi1] at hb
    simp only [Cx.grow, upd_other _ _ hj, upd_other _ _ hj1] at hr
    exact .inl ⟨H.lt i hbi.live, H.lt r hbj.live, hb, hr, fun b' base' h => setBlk_other (hother i hi1 hbi.live b' base' h), fun b' base' h => setBlk_other (hother r hj1 hbj.live b' base' h)⟩
  rotate_left 3
  · intro i cs e
    by_cases hi : i = id'
    · subst hi; simp [Cx.grow, upd] at e
    · obtain ⟨h0, h1, h2⟩ := hlive i hi (live_var e)
      exact .inl ⟨H.lt i h1, h2.symm.trans e, fun b' base' h => setBlk_other (hother i h0 h1 b' base' h)⟩
  · intro i fz' s' xs' e
    by_cases hi : i = id'
    · subst hi; simp only [Cx.grow, upd_same, Option.some.injEq, Ob.row.injEq] at e
      obtain ⟨_, rfl, rfl⟩ := e
      exact .inr gr
    · obtain ⟨h0, h1, h2⟩ := hlive i hi (live_row e)
      exact .inl ⟨H.lt i h1, ⟨fz', h2.symm.trans e⟩, fun b' base' h => setBlk_other (hother i h0 h1 b' base' h)⟩
  · intro i s1 fc c1 tm e
    by_cases hi : i = id'
    · subst hi; simp [Cx.grow, upd] at e
    · obtain ⟨h0, h1, h2⟩ := hlive i hi (live_loop e)
      exact .inl ⟨H.lt i h1, h2.symm.trans e, fun b' base' h => setBlk_other (hother i h0 h1 b' base' h)⟩
  · intro i j b' bi bj hi hj ei ej
    by_cases h1 : i = id' <;> by_cases h2 : j = id'
    · omega
    · subst h1
      simp only [Cx.grow, upd_same, upd_other _ _ h2, Option.some.injEq, Prod.mk.injEq] at ei ej
      obtain ⟨h0, hlj, _⟩ := hlive j h2 hj
      exact absurd ei.1.symm (hother j h0 hlj b' bj ej)
    · subst h2
      simp only [Cx.grow, upd_same, upd_other _ _ h1, Option.some.injEq, Prod.mk.injEq] at ei ej
      obtain ⟨h0, hli, _⟩ := hlive i h1 hi
      exact absurd ej.1.symm (hother i h0 hli b' bi ei)
    · simp only [Cx.grow, upd_other _ _ h1, upd_other _ _ h2] at ei ej
      exact H.inj i j b' bi bj (hlive i h1 hi).2.1 (hlive j h2 hj).2.1 ei ej
  · intro i hi
    by_cases h1 : i = id'
    · subst h1; exact hm.2
    · exact hm.1 i (H.lt i (hlive i h1 hi).2.1)
  · intro b' o hZb
    obtain ⟨h1, h2⟩ := H.z b' o hZb
    refine ⟨by simp [Cx.grow, setBlk]; exact h1, fun i base' hli hri => ?_⟩
    by_cases hi : i = id'
    · subst hi
      simp only [Cx.grow, upd_same, Option.some.injEq, Prod.mk.injEq] at hri
      obtain ⟨rfl, rfl⟩ := hri
      refine ⟨s, xs ++ ys, by simp only [Cx.grow, upd_same]; rw [hfz o hZb], ?_⟩
      have := hZ o hZb
      simp only [List.length_append, Nat.add_mul]; omega
    · simp only [Cx.grow, upd_other _ _ hi] at hri
      obtain ⟨h0, hl1, he⟩ := hlive i hi hli
      obtain ⟨s', xs', e, ho⟩ := h2 i base' hl1 hri
      exact ⟨s', xs', he.trans e, ho⟩
def Cx.shrink (Γ : Cx) (id id' : Nat) (ob : Ob) (m : Nat → Prop) : Cx :=
  { Γ with ρ := upd Γ.ρ id' (Γ.ρ id), h := upd (upd Γ.h id (some .dead)) id' (some ob), n := m }
theorem step_shrink {Γ : Cx} (H : HOk Γ) {id id' s : Nat} {m : Nat → Prop} {xs : List V} (e0 : Γ.h id = some (.row false s xs)) (hid : ¬ Γ.n id') (hm : (∀ i, Γ.n i → m i) ∧ m id') :
    HOk (Γ.shrink id id' (.row false s []) m) ∧ Evo Γ (Γ.shrink id id' (.row false s []) m) := by
  have hl := live_row e0
  have hidn : Γ.n id := H.lt id hl
  have hfz : ∀ b base o, Γ.ρ id = some (b, base) → ¬ Γ.Z b o := by
    intro b base o hr h
    obtain ⟨s', xs', e, ho⟩ := (H.z b o h).2 id base hl hr
    rw [e0] at e; cases e
  have hlive : ∀ i, i ≠ id' → live (upd (upd Γ.h id (some .dead)) id' (some (.row false s []))) i → i ≠ id ∧ live Γ.h i ∧ upd (upd Γ.h id (some .dead)) id' (some (.row false s [])) i = Γ.h i := by
    rintro i hi ⟨o, e, h⟩
    rw [upd_other _ _ hi] at e ⊢
    by_cases h2 : i = id
    · subst h2; rw [upd_same] at e; cases e; exact absurd rfl h
    · rw [upd_other _ _ h2] at e ⊢; exact ⟨h2, ⟨o, e, h⟩, rfl⟩
  have hother : ∀ i, i ≠ id → live Γ.h i → ∀ b base b' base', Γ.ρ id = some (b, base) → Γ.ρ i = some (b', base') → b' ≠ b := fun i hi hli b base b' base' hr e eb => hi (H.inj i id b' base' base hli hl e (eb ▸ hr))
  have hB : ∀ i, isB (Γ.shrink id id' (.row false s []) m).h i → i ≠ id' ∧ i ≠ id ∧ isB Γ.h i := by
    rintro i (⟨t, e', r, s', e⟩ | ⟨o, e⟩)
    all_goals
      by_cases hi : i = id'
      · subst hi; simp [Cx.shrink, upd] at e
      · by_cases h2 : i = id
        · subst h2; simp only [Cx.shrink, upd_other _ _ hi, upd_same] at e; cases e
        · simp only [Cx.shrink, upd_other _ _ hi, upd_other _ _ h2] at e; first | exact ⟨hi, h2, .inl ⟨_, _, _, _, e⟩⟩ | exact ⟨hi, h2, .inr ⟨_, e⟩⟩
  have EV : Evo Γ (Γ.shrink id id' (.row false s []) m) := by
    refine ⟨hm.1, ?_, ?_, ?_, ?_, (fun i t e r s1 hi h => by
        obtain ⟨h1, h2, _⟩ := hB i (.inl ⟨_, _, _, _, h⟩)
        simp only [Cx.shrink, upd_other _ _ h1, upd_other _ _ h2] at h; exact ⟨r, s1, h⟩), (fun i o hi h => by
        obtain ⟨h1, h2, _⟩ := hB i (.inr ⟨_, h⟩)
        simp only [Cx.shrink, upd_other _ _ h1, upd_other _ _ h2] at h; exact ⟨o, h⟩), ?_, ?_, ?_, fun _ _ h => .inl h, ?_, Nat.le_refl _, rfl, rfl, rfl⟩
    · intro i hi h
      have hne : i ≠ id' := fun e => hid (e ▸ hi)
      obtain ⟨_, h1, _⟩ := hlive i hne h
      exact ⟨h1, by simp only [Cx.shrink, upd_other _ _ hne]⟩
    · intro i cs hi e
      have hne : i ≠ id' := fun e => hid (e ▸ hi)
      obtain ⟨_, h1, h2⟩ := hlive i hne (live_var e)
      exact ⟨cs, h2.symm.trans e, rfl⟩
    · intro i fz' s' xs' hi e
      have hne : i ≠ id' := fun e => hid (e ▸ hi)
      obtain ⟨_, h1, h2⟩ := hlive i hne (live_row e)
      exact ⟨fz', xs', h2.symm.trans e, rfl⟩
    · intro i s1 fc c1 tm hi e
      have hne : i ≠ id' := fun e => hid (e ▸ hi)
      obtain ⟨_, h1, h2⟩ := hlive i hne (live_loop e)
      exact ⟨s1, tm, h2.symm.trans e⟩
    · intro b' r1 hb1
      exact ⟨r1, hb1, .refl r1⟩
    · intro i b' base' c1 E1 z1 hi _ hri hbi
      exact ⟨c1, E1, z1, hbi, rfl⟩
    · intro b' o hZb
      exact ⟨hZb, rfl⟩
    · intro k hk hno
      refine ⟨rfl, fun i base' h hri => ?_⟩
      by_cases hi : i = id'
      · subst hi
        simp only [Cx.shrink, upd_same] at hri
        exact hno id base' hl hri
      · simp only [Cx.shrink, upd_other _ _ hi] at hri
        exact hno i base' (hlive i hi h).2.1 hri
  refine ⟨H.step EV ?_ ?_ ?_ (fun i t e r s1 hb hr => ?_) (fun i hb => .inl (H.lt i (hB i hb).2.2.live)) ?_ ?_ ?_, EV⟩
  rotate_left 3
  · obtain ⟨hi, hi1, hbi⟩ := hB i (.inl ⟨_, _, _, _, hb⟩)
    obtain ⟨hj, hj1, hbj⟩ := hB r (.inr ⟨_, hr⟩)
    simp only [Cx.shrink, upd_other _ _ hi, upd_other _ _ hi1] at hb
    simp only [Cx.shrink, upd_other _ _ hj, upd_other _ _ hj1] at hr
    exact .inl ⟨H.lt i hbi.live, H.lt r hbj.live, hb, hr, fun b' base' h => rfl, fun b' base' h => rfl⟩
  rotate_left 3
  · intro i cs e
    by_cases hi : i = id'
    · subst hi; simp [Cx.shrink, upd] at e
    · obtain ⟨h0, h1, h2⟩ := hlive i hi (live_var e)
      exact .inl ⟨H.lt i h1, h2.symm.trans e, fun b' base' h => rfl⟩
  · intro i fz' s' xs' e
    by_cases hi : i = id'
    · subst hi; simp only [Cx.shrink, upd_same, Option.some.injEq, Ob.row.injEq] at e
      obtain ⟨_, rfl, rfl⟩ := e
      refine .inr ?_
      rcases H.row id false s xs e0 with ⟨hn, _⟩ | ⟨b, base, c, E, z, hr, hb, hz, h0, hs, h1, _, _⟩
      · exact .inl ⟨by simp only [Cx.shrink, upd_same]; exact hn, rfl⟩
      · refine .inr ⟨b, base, c, E, z, by simp only [Cx.shrink, upd_same]; exact hr, hb, hz, h0, ?_, h1, ?_, ?_⟩
        · simp only [List.length_nil, Nat.zero_mul]; omega
        · intro i x hx; simp at hx
        · intro i x j y u hx; simp at hx
    · obtain ⟨h0, h1, h2⟩ := hlive i hi (live_row e)
      exact .inl ⟨H.lt i h1, ⟨fz', h2.symm.trans e⟩, fun b' base' h => rfl⟩
  · intro i s1 fc c1 tm e
    by_cases hi : i = id'
    · subst hi; simp [Cx.shrink, upd] at e
    · obtain ⟨h0, h1, h2⟩ := hlive i hi (live_loop e)
      exact .inl ⟨H.lt i h1, h2.symm.trans e, fun b' base' h => rfl⟩
  · intro i j b' bi bj hi hj ei ej
    by_cases h1 : i = id' <;> by_cases h2 : j = id'
    · omega
    · subst h1
      simp only [Cx.shrink, upd_same, upd_other _ _ h2] at ei ej
      obtain ⟨h0, hlj, _⟩ := hlive j h2 hj
      exact absurd rfl (hother j h0 hlj b' bi b' bj ei ej)
    · subst h2
      simp only [Cx.shrink, upd_same, upd_other _ _ h1] at ei ej
      obtain ⟨h0, hli, _⟩ := hlive i h1 hi
      exact absurd rfl (hother i h0 hli b' bj b' bi ej ei)
    · simp only [Cx.shrink, upd_other _ _ h1, upd_other _ _ h2] at ei ej
      exact H.inj i j b' bi bj (hlive i h1 hi).2.1 (hlive j h2 hj).2.1 ei ej
  · intro i hi
    by_cases h1 : i = id'
    · subst h1; exact hm.2
    · exact hm.1 i (H.lt i (hlive i h1 hi).2.1)
  · intro b' o hZb
    obtain ⟨h1, h2⟩ := H.z b' o hZb
    refine ⟨h1, fun i base' hli hri => ?_⟩
    by_cases hi : i = id'
    · subst hi
      simp only [Cx.shrink, upd_same] at hri
      exact absurd hZb (hfz b' base' o hri)
    · simp only [Cx.shrink, upd_other _ _ hi] at hri
      obtain ⟨h0, hl1, he⟩ := hlive i hi hli
      obtain ⟨s', xs', e, ho⟩ := h2 i base' hl1 hri
      exact ⟨s', xs', he.trans e, ho⟩
structure BStep (Γ : Cx) (Δ : Cx) (T : Nat → Prop) : Prop where
  Z : Δ.Z = Γ.Z
  m : ∀ i, Γ.n i → Δ.n i
  same : ∀ i, ¬ T i → Δ.h i = Γ.h i ∧ Δ.ρ i = Γ.ρ i
  old : ∀ i, T i → live Γ.h i → isB Γ.h i ∧ ∀ b base, Γ.ρ i = some (b, base) → ∃ c E z, Γ.w.heap[b]? = some (.cells c E z)
  new : ∀ i, T i → live Δ.h i → isB Δ.h i ∧ Δ.n i ∧ (∀ b base, Δ.ρ i = some (b, base) → b < Δ.w.heap.size ∧ (Γ.w.heap.size ≤ b ∨ ∃ j bj, T j ∧ live Γ.h j ∧ Γ.ρ j = some (b, bj)))
  kept : ∀ i, T i → Γ.n i → live Δ.h i → live Γ.h i ∧ Δ.ρ i = Γ.ρ i ∧ (∀ t e r s, Δ.h i = some (.bld t e r s) → ∃ r0 s0, Γ.h i = some (.bld t e r0 s0)) ∧ (∀ o, Δ.h i = some (.raw o) → ∃ o0, Γ.h i = some (.raw o0)) ∧
    ∀ b base c E z, Γ.ρ i = some (b, base) → Γ.w.heap[b]? = some (.cells c E z) → ∃ c' E' z', Δ.w.heap[b]? = some (.cells c' E' z') ∧ c'.size = c.size
  inj : ∀ i j b bi bj, T i → T j → live Δ.h i → live Δ.h j → Δ.ρ i = some (b, bi) → Δ.ρ j = some (b, bj) → i = j
  blk : ∀ k, k < Γ.w.heap.size → (∀ i base, T i → live Γ.h i → Γ.ρ i ≠ some (k, base)) → Δ.w.heap[k]? = Γ.w.heap[k]?
  size : Γ.w.heap.size ≤ Δ.w.heap.size
  os : Δ.w.os = Γ.w.os
  tape : Δ.w.tape = Γ.w.tape
  output : Δ.w.output = Γ.w.output
  bld : ∀ id t e r s, Δ.h id = some (.bld t e r s) → Δ.h r = some (.raw id) → (T id ∧ T r ∧ BldOk Δ id t e r s) ∨ (¬ T id ∧ ¬ T r)
theorem BStep.ok {Γ Δ : Cx} {T : Nat → Prop} (S : BStep Γ Δ T) (H : HOk Γ) : HOk Δ ∧ Evo Γ Δ := by
  classical
  have far : ∀ i b base, ¬ T i → live Γ.h i → Γ.ρ i = some (b, base) → Δ.w.heap[b]? = Γ.w.heap[b]? := by
    intro i b base hT hl hr
    refine S.blk b (H.there hl hr) fun j bj hTj hlj e => ?_
    exact hT ((H.inj i j b base bj hl hlj hr e) ▸ hTj)
  have lv : ∀ i, ¬ T i → live Δ.h i → live Γ.h i := by
    rintro i hT ⟨o, e, h⟩
    rw [(S.same i hT).1] at e
    exact ⟨o, e, h⟩
  have kind : ∀ i ob, Δ.h i = some ob → ob ≠ .dead → (∀ t e r s, ob ≠ .bld t e r s) → (∀ o, ob ≠ .raw o) → ¬ T i := by
    intro i ob e hd h1 h2 hT
    rcases (S.new i hT ⟨ob, e, hd⟩).1 with ⟨t, e', r, s, h⟩ | ⟨o, h⟩
    · rw [e] at h; cases h; exact h1 _ _ _ _ rfl
    · rw [e] at h; cases h; exact h2 _ rfl
  have hZ : ∀ b o, Γ.Z b o → Δ.w.heap[b]? = Γ.w.heap[b]? := by
    intro b o hz
    obtain ⟨h1, h2⟩ := H.z b o hz
    refine S.blk b h1 fun i base hT hl hr => ?_
    obtain ⟨s, xs, e, _⟩ := h2 i base hl hr
    rcases (S.old i hT hl).1 with ⟨t, e', r, s', h⟩ | ⟨o', h⟩ <;> (rw [e] at h; cases h)
  have E : Evo Γ Δ := by
    refine ⟨S.m, ?_, ?_, ?_, ?_, ?_, ?_, ?_, ?_, ?_, ?_, ?_, S.size, S.os, S.tape, S.output⟩
    · intro i hn hl
      by_cases hT : T i
      · have := S.kept i hT hn hl; exact ⟨this.1, this.2.1⟩
      · exact ⟨lv i hT hl, (S.same i hT).2⟩
    · intro i cs hn e
      have hT := kind i _ e (by simp) (by simp) (by simp)
      exact ⟨cs, by rw [← (S.same i hT).1]; exact e, rfl⟩
    · intro i fz s xs hn e
      have hT := kind i _ e (by simp) (by simp) (by simp)
      exact ⟨fz, xs, by rw [← (S.same i hT).1]; exact e, rfl⟩
    · intro i s fc c tm hn e
      have hT := kind i _ e (by simp) (by simp) (by simp)
      exact ⟨s, tm, by rw [← (S.same i hT).1]; exact e⟩
    · intro i t e r s hn h
      by_cases hT : T i
      · exact (S.kept i hT hn (live_bld h)).2.2.1 t e r s h
      · exact ⟨r, s, by rw [← (S.same i hT).1]; exact h⟩
    · intro i o hn h
      by_cases hT : T i
      · exact (S.kept i hT hn (live_raw h)).2.2.2.1 o h
      · exact ⟨o, by rw [← (S.same i hT).1]; exact h⟩
    · intro b r hb
      refine ⟨r, ?_, .refl r⟩
      rw [← hb]
      refine S.blk b (Array.getElem?_eq_some_iff.1 hb).1 fun i base hT hl hr => ?_
      obtain ⟨c, E, z, hc⟩ := (S.old i hT hl).2 b base hr
      rw [hb] at hc; cases hc
    · intro i b base c E z hn hl hr hb
      by_cases hT : T i
      · exact (S.kept i hT hn hl).2.2.2.2 b base c E z hr hb
      · exact ⟨c, E, z, (far i b base hT (lv i hT hl) hr).trans hb, rfl⟩
    · intro b o hz
      exact ⟨by rw [S.Z]; exact hz, cell_of_block (hZ b o hz)⟩
    · intro b o hz
      rw [S.Z] at hz; exact .inl hz
    · intro k hk hno
      refine ⟨S.blk k hk fun i base _ hl => hno i base hl, fun i base hl hr => ?_⟩
      by_cases hT : T i
      · rcases ((S.new i hT hl).2.2 k base hr).2 with h | ⟨j, bj, _, hlj, hj⟩
        · omega
        · exact hno j bj hlj hj
      · rw [(S.same i hT).2] at hr
        exact hno i base (lv i hT hl) hr
  refine ⟨H.step E ?_ ?_ ?_ ?_ ?_ ?_ ?_ ?_, E⟩
  · intro i cs e
    have hT := kind i _ e (by simp) (by simp) (by simp)
    rw [(S.same i hT).1] at e
    exact .inl ⟨H.lt i (live_var e), e, fun b base hr => far i b base hT (live_var e) hr⟩
  · intro i fz s xs e
    have hT := kind i _ e (by simp) (by simp) (by simp)
    rw [(S.same i hT).1] at e
    exact .inl ⟨H.lt i (live_row e), ⟨fz, e⟩, fun b base hr => far i b base hT (live_row e) hr⟩
  · intro i s fc c tm e
    have hT := kind i _ e (by simp) (by simp) (by simp)
    rw [(S.same i hT).1] at e
    exact .inl ⟨H.lt i (live_loop e), e, fun b base hr => far i b base hT (live_loop e) hr⟩
  · intro i t e r s hb hr
    rcases S.bld i t e r s hb hr with ⟨_, _, h⟩ | ⟨h1, h2⟩
    · exact .inr h
    · rw [(S.same i h1).1] at hb
      rw [(S.same r h2).1] at hr
      exact .inl ⟨H.lt i (live_bld hb), H.lt r (live_raw hr), hb, hr, fun b base h => far i b base h1 (live_bld hb) h, fun b base h => far r b base h2 (live_raw hr) h⟩
  · intro i hb
    by_cases hT : T i
    · exact .inr fun b base hr => ((S.new i hT hb.live).2.2 b base hr).1
    · exact .inl (H.lt i (lv i hT hb.live))
  · intro i j b bi bj hi hj ei ej
    by_cases h1 : T i <;> by_cases h2 : T j
    · exact S.inj i j b bi bj h1 h2 hi hj ei ej
    · rw [(S.same j h2).2] at ej
      have hlj := lv j h2 hj
      rcases ((S.new i h1 hi).2.2 b bi ei).2 with h | ⟨q, bq, hq, hlq, eq⟩
      · have := H.there hlj ej; omega
      · exact absurd hq ((H.inj j q b bj bq hlj hlq ej eq) ▸ h2)
    · rw [(S.same i h1).2] at ei
      have hli := lv i h1 hi
      rcases ((S.new j h2 hj).2.2 b bj ej).2 with h | ⟨q, bq, hq, hlq, eq⟩
      · have := H.there hli ei; omega
      · exact absurd hq ((H.inj i q b bi bq hli hlq ei eq) ▸ h1)
    · rw [(S.same i h1).2] at ei
      rw [(S.same j h2).2] at ej
      exact H.inj i j b bi bj (lv i h1 hi) (lv j h2 hj) ei ej
  · intro i hi
    by_cases hT : T i
    · exact (S.new i hT hi).2.1
    · exact S.m i (H.lt i (lv i hT hi))
  · intro b o hz
    rw [S.Z] at hz
    obtain ⟨h1, h2⟩ := H.z b o hz
    refine ⟨Nat.lt_of_lt_of_le h1 S.size, fun i base hl hr => ?_⟩
    by_cases hT : T i
    · rcases ((S.new i hT hl).2.2 b base hr).2 with h | ⟨q, bq, hq, hlq, eq⟩
      · omega
      · obtain ⟨s, xs, e, _⟩ := h2 q bq hlq eq
        rcases (S.old q hq hlq).1 with ⟨t, e', r, s', h⟩ | ⟨o', h⟩ <;> (rw [e] at h; cases h)
    · rw [(S.same i hT).2] at hr
      rw [(S.same i hT).1]
      exact h2 i base (lv i hT hl) hr
end Go.Sym
set_option linter.unusedVariables false
set_option linter.unusedSimpArgs false
namespace Go.Sym
section inv
variable {Γ : Cx} {u : Value}
theorem VR.bool_inv {b : Bool} (h : VR Γ (.bool b) u) : u = .bool b := by cases h with | pure h => cases h; rfl
theorem VR.int_inv {k : IntKind} {n : Int} (h : VR Γ (.int k n) u) : u = .int k n := by cases h with | pure h => cases h; rfl
theorem VR.str_inv {s : List UInt8} (h : VR Γ (.str s) u) : ∃ b : ByteArray, u = .string b ∧ b.data.toList = s := by cases h with | pure h => cases h; exact ⟨_, rfl, rfl⟩
theorem VR.agg_inv {cs : List V} (h : VR Γ (.agg cs) u) : ∃ us : Array Value, u = .agg us ∧ cs.length = us.size ∧ (∀ (i : Nat) (u : Value), us[i]? = some u → u.oneCell = true) ∧ ∀ (i : Nat) (c : V) (u : Value), cs[i]? = some c → us[i]? = some u → VR Γ c u := by
  cases h with
  | pure h => cases h with | agg _ us hl h1 hv => exact ⟨us, rfl, hl, h1, fun i c u hc hu => .pure (hv i c u hc hu)⟩
  | agg _ us hl h1 hv => exact ⟨us, rfl, hl, h1, hv⟩
theorem VR.tup_inv {vs : List V} (h : VR Γ (.tup vs) u) : ∃ us : Array Value, u = .tuple us ∧ vs.length = us.size ∧ ∀ (i : Nat) (c : V) (u : Value), vs[i]? = some c → us[i]? = some u → VR Γ c u := by
  cases h with
  | pure h => cases h
  | tup _ us hl hv => exact ⟨us, rfl, hl, hv⟩
theorem VR.sl_inv {nl : Option Bool} {clip : Bool} {s : Nat} {xs : List V} (h : VR Γ (.sl nl clip s xs) u) : VP Γ.w Γ.Z (.sl nl clip s xs) u := by cases h with | pure h => exact h
theorem VR.ref_inv {id : Nat} (h : VR Γ (.ref id) u) : u.oneCell = true ∧ Γ.n id ∧ ∀ fz s xs, Γ.h id = some (.row fz s xs) → RefOk Γ id s 0 xs.length u := by
  cases h with
  | pure h => cases h
  | ref _ _ h1 hn h => exact ⟨h1, hn, h⟩
theorem VR.sub_inv {id off len : Nat} (h : VR Γ (.sub id off len) u) : u.oneCell = true ∧ Γ.n id ∧ ∀ fz s xs, Γ.h id = some (.row fz s xs) → off + len ≤ xs.length ∧ RefOk Γ id s off len u := by
  cases h with
  | pure h => cases h
  | sub _ _ _ _ h1 hn h => exact ⟨h1, hn, h⟩
theorem VR.vsl_inv {id off len : Nat} (h : VR Γ (.vsl id off len) u) : ∃ b cap, u = .slice (some ⟨b, off, none⟩) len cap ∧ len ≤ cap ∧ Γ.n id ∧ ∀ cs, Γ.h id = some (.var cs) → off + len ≤ cs.length ∧ Γ.ρ id = some (b, 0) := by
  cases h with
  | pure h => cases h
  | vsl _ _ _ b cap hn hle h => exact ⟨b, cap, rfl, hle, hn, h⟩
theorem VR.ptr_inv {id off : Nat} (h : VR Γ (.ptr id off) u) : ∃ b, u = .pointer (some ⟨b, off, none⟩) ∧ Γ.n id ∧ ∀ ob, Γ.h id = some ob → ob.isV = true → Γ.ρ id = some (b, 0) := by
  cases h with
  | pure h => cases h
  | ptr _ _ b hn h => exact ⟨b, rfl, hn, h⟩
theorem VR.ept_inv {id i off : Nat} (h : VR Γ (.ept id i off) u) : ∃ b o, u = .pointer (some ⟨b, o + off, none⟩) ∧ Γ.n id ∧ ∀ fz s xs, Γ.h id = some (.row fz s xs) → ∃ base, Γ.ρ id = some (b, base) ∧ o = base + i * s := by
  cases h with
  | pure h => cases h
  | ept _ _ _ b o hn h => exact ⟨b, o, rfl, hn, h⟩
theorem VR.cpt_inv {v : V} {off : Nat} (h : VR Γ (.cpt v off) u) : ∃ b o, u = .pointer (some ⟨b, o + off, none⟩) ∧ ∀ (j : Nat) (c : V), v.cells[j]? = some c → Γ.Z b (o + j) ∧ ∃ u' : Value, Γ.w.cell? ⟨b, o + j, none⟩ = some u' ∧ u'.oneCell = true ∧ VP Γ.w Γ.Z c u' := by
  cases h with
  | pure h => cases h
  | cpt _ _ b o he => exact ⟨b, o, rfl, he⟩
theorem VR.fn_inv {f : Fn} {as cs : List V} (h : VR Γ (.fn f as cs) u) : ∃ ua uc : Array Value, u = .func f ua uc ∧ as.length = ua.size ∧ cs.length = uc.size ∧
    (∀ (i : Nat) (c : V) (u : Value), as[i]? = some c → ua[i]? = some u → VR Γ c u) ∧ ∀ (i : Nat) (c : V) (u : Value), cs[i]? = some c → uc[i]? = some u → VR Γ c u := by
  cases h with
  | pure h =>
    cases h with
    | fnc f as ua hl hv => exact ⟨ua, #[], rfl, hl, rfl, fun i c u hc hu => .pure (hv i c u hc hu), by simp⟩
  | fn _ _ _ ua uc hla hlc ha hc => exact ⟨ua, uc, rfl, hla, hlc, ha, hc⟩
theorem VR.yld_inv {id : Nat} (h : VR Γ (.yld id) u) : ∃ l, u = .func (.yield l) #[] #[] ∧ Γ.n id ∧ ∀ s fc c tm, Γ.h id = some (.loop s fc c tm) → Γ.ρ id = some (l, 0) := by
  cases h with
  | pure h => cases h
  | yld _ l hn h => exact ⟨l, rfl, hn, h⟩
end inv
theorem oneCell_cells {u : Value} (h : u.oneCell = true) : u.cells = #[u] := by cases u <;> simp_all [Value.oneCell, Value.cells]
theorem VR.cells {Γ : Cx} {v : V} {u : Value} (h : VR Γ v u) (hs : solid v = true) : v.cells.length = u.cells.size ∧ (∀ (i : Nat) (x : Value), u.cells[i]? = some x → x.oneCell = true) ∧
    ∀ (i : Nat) (c : V) (x : Value), v.cells[i]? = some c → u.cells[i]? = some x → VR Γ c x := by
  have leaf : v.cells = [v] → u.oneCell = true → v.cells.length = u.cells.size ∧ (∀ (i : Nat) (x : Value), u.cells[i]? = some x → x.oneCell = true) ∧
      ∀ (i : Nat) (c : V) (x : Value), v.cells[i]? = some c → u.cells[i]? = some x → VR Γ c x := by
    intro e h1
    rw [e, oneCell_cells h1]
    refine ⟨rfl, ?_, ?_⟩
    · intro i x hx
      cases i with
      | zero => simp at hx; subst hx; exact h1
      | succ i => simp at hx
    · intro i c x hc hx
      cases i with
      | zero => simp at hc hx; subst hc hx; exact h
      | succ i => simp at hc
  cases v with
  | agg cs =>
    obtain ⟨us, rfl, hl, h1, hv⟩ := h.agg_inv
    exact ⟨hl, h1, hv⟩
  | junk => simp [solid] at hs
  | tup vs => simp [solid] at hs
  | bool b => exact leaf rfl (by rw [h.bool_inv]; rfl)
  | int k n => exact leaf rfl (by rw [h.int_inv]; rfl)
  | str s => exact leaf rfl (by obtain ⟨b, rfl, _⟩ := h.str_inv; rfl)
  | sl nl c s xs => exact leaf rfl (by cases h.sl_inv; rfl)
  | ref id => exact leaf rfl h.ref_inv.1
  | sub id off len => exact leaf rfl h.sub_inv.1
  | ptr id off => exact leaf rfl (by obtain ⟨b, rfl, _⟩ := h.ptr_inv; rfl)
  | ept id i off => exact leaf rfl (by obtain ⟨b, o, rfl, _⟩ := h.ept_inv; rfl)
  | cpt v off => exact leaf rfl (by obtain ⟨b, o, rfl, _⟩ := h.cpt_inv; rfl)
  | fn f a c => exact leaf rfl (by obtain ⟨ua, uc, rfl, _⟩ := h.fn_inv; rfl)
  | nilf => exact leaf rfl (by cases h with | pure h => cases h; rfl)
  | nilp => exact leaf rfl (by cases h with | pure h => cases h; rfl)
  | nili => exact leaf rfl (by cases h with | pure h => cases h; rfl)
  | vsl a b c => exact leaf rfl (by obtain ⟨b, cap, rfl, _⟩ := h.vsl_inv; rfl)
  | ifc t v => cases h with | pure h => cases h
  | yld l => exact leaf rfl (by obtain ⟨b, rfl, _⟩ := h.yld_inv; rfl)
theorem VP.cells {w : World} {Z : Nat → Nat → Prop} {v : V} {u : Value} (h : VP w Z v u) : v.cells.length = u.cells.size ∧ (∀ (i : Nat) (x : Value), u.cells[i]? = some x → x.oneCell = true) ∧
    ∀ (i : Nat) (c : V) (x : Value), v.cells[i]? = some c → u.cells[i]? = some x → VP w Z c x := by
  have leaf : v.cells = [v] → u.oneCell = true → v.cells.length = u.cells.size ∧ (∀ (i : Nat) (x : Value), u.cells[i]? = some x → x.oneCell = true) ∧
      ∀ (i : Nat) (c : V) (x : Value), v.cells[i]? = some c → u.cells[i]? = some x → VP w Z c x := by
    intro e h1
    rw [e, oneCell_cells h1]
    refine ⟨rfl, ?_, ?_⟩
    · intro i x hx
      cases i with
      | zero => simp at hx; subst hx; exact h1
      | succ i => simp at hx
    · intro i c x hc hx
      cases i with
      | zero => simp at hc hx; subst hc hx; exact h
      | succ i => simp at hc
  cases h with
  | agg cs us hl h1 hv => exact ⟨hl, h1, hv⟩
  | bool b => exact leaf rfl rfl
  | int k n => exact leaf rfl rfl
  | str s => exact leaf rfl rfl
  | sl nl c s xs => exact leaf rfl rfl
  | fnc f => exact leaf rfl rfl
  | nilf => exact leaf rfl rfl
  | nilp => exact leaf rfl rfl
  | nili => exact leaf rfl rfl
theorem VP_leaf (w : World) (Z : Nat → Nat → Prop) (u : Value) : leafOf u = .junk ∨ VP w Z (leafOf u) u := by
  unfold leafOf
  split
  · exact .inr (.bool _)
  · exact .inr (.int _ _)
  · exact .inr (.str _)
  · exact .inr .nilp
  · exact .inr (.sl (some true) true 0 [] none 0 (Nat.le_refl _) (fun _ => rfl) (fun _ => rfl) (by simp) (fun _ => rfl) (by simp) (by simp) (by simp) (by simp) (by simp))
  · exact .inr .nilf
  · exact .inr .nili
  · exact .inl rfl
theorem VR_leaf (Γ : Cx) (u : Value) : VR Γ (leafOf u) u := by
  rcases VP_leaf Γ.w Γ.Z u with h | h
  · rw [h]; exact .junk u
  · exact .pure h
theorem VR_const (Γ : Cx) (u : Value) : VR Γ (ofValue u) u := by
  cases u with
  | agg cs =>
    by_cases h : cs.toList.all Value.oneCell = true
    · have e : ofValue (.agg cs) = .agg (cs.toList.map leafOf) := by unfold ofValue; exact if_pos h
      rw [e]
      refine .agg _ cs (by simp) ?_ ?_
      · intro i u hu
        rw [List.all_eq_true] at h
        exact h u (by simpa using Array.mem_of_getElem? hu)
      · intro i c u hc hu
        simp only [List.getElem?_map, Array.getElem?_toList, hu, Option.map_some, Option.some.injEq] at hc
        subst hc; exact VR_leaf Γ u
    · have e : ofValue (.agg cs) = .junk := by unfold ofValue; exact if_neg h
      rw [e]; exact .junk _
  | _ => exact (by unfold ofValue; exact VR_leaf Γ _)
section types
variable {P : Program} {t : TypeId} {w : World}
theorem info_of_underlying {d : TypeDesc} (h : P.underlying t = some d) : ∃ i, P.info? t = some i := by
  unfold Program.underlying at h
  cases hi : P.info? t with
  | none => simp [hi] at h
  | some i => exact ⟨i, rfl⟩
theorem run_size {d : TypeDesc} (h : P.underlying t = some d) : (sizeOf t).run P w = .ok (tsize P t) w := by
  obtain ⟨i, hi⟩ := info_of_underlying h
  simp [sizeOf, run_typeInfo w hi, tsize, hi]
theorem info_of_tsize (h : 0 < tsize P t) : ∃ i, P.info? t = some i := by
  unfold tsize at h
  cases hi : P.info? t with
  | none => simp [hi] at h
  | some i => exact ⟨i, rfl⟩
theorem run_size' (h : 0 < tsize P t) : (sizeOf t).run P w = .ok (tsize P t) w := by
  obtain ⟨i, hi⟩ := info_of_tsize h
  simp [sizeOf, run_typeInfo w hi, tsize, hi]
theorem run_agg {b : Bool} (h : tagg P t = some b) : (isAgg t).run P w = .ok b w := by
  unfold tagg at h
  cases hd : P.underlying t with
  | none => simp [hd] at h
  | some d =>
    rw [isAgg, Sem.run_bind, run_underlying hd]
    simp only [Result.andThen]
    cases d <;> simp_all
theorem under_of_tagg {b : Bool} (h : tagg P t = some b) : ∃ d, P.underlying t = some d := by
  unfold tagg at h
  cases hd : P.underlying t with
  | none => simp [hd] at h
  | some d => exact ⟨d, rfl⟩
theorem tzero_inv {z : V} (h : tzero P t = some z) : ∃ i zv, P.info? t = some i ∧ i.zero = some zv ∧ z = ofValue zv ∧ (zeroValue t).run P w = .ok zv w := by
  unfold tzero at h
  cases hi : P.info? t with
  | none => simp [hi] at h
  | some i =>
    cases hz : i.zero with
    | none => simp [hi, hz] at h
    | some zv =>
      simp [hi, hz] at h
      refine ⟨i, zv, rfl, hz, h.symm, ?_⟩
      simp [zeroValue, run_typeInfo w hi, hz]
end types
def Zof (Γ : Cx) (ids : List Nat) (b o : Nat) : Prop :=
  Γ.Z b o ∨ ∃ id fz s xs base, id ∈ ids ∧ Γ.h id = some (.row fz s xs) ∧ Γ.ρ id = some (b, base) ∧ o < base + xs.length * s ∧ base ≤ o
theorem Zof.mono {Γ : Cx} {ids ids' : List Nat} (h : ∀ i ∈ ids, i ∈ ids') {b o : Nat} (hz : Zof Γ ids b o) : Zof Γ ids' b o := by
  rcases hz with hz | ⟨id, fz, s, xs, base, hm, r⟩
  · exact .inl hz
  · exact .inr ⟨id, fz, s, xs, base, h id hm, r⟩
theorem VP.zmono {w : World} {Z Z' : Nat → Nat → Prop} (h : ∀ b o, Z b o → Z' b o) {v : V} {u : Value} (hv : VP w Z v u) : VP w Z' v u := hv.evo fun b o hz => ⟨h b o hz, rfl⟩
theorem snap {Γ : Cx} (H : HOk Γ) {id off len s : Nat} {fz : Bool} {xs : List V} {u : Value} (e : Γ.h id = some (.row fz s xs)) (hle : off + len ≤ xs.length) (hr : RefOk Γ id s off len u) :
    VP Γ.w (Zof Γ [id]) (.sl none false s ((xs.drop off).take len)) u := by
  obtain ⟨a, cap, rfl, hc, hsp, ha⟩ := hr
  have hlen : ((xs.drop off).take len).length = len := by simp; omega
  have key : len = ((xs.drop off).take len).length := hlen.symm
  have hget : ∀ i x, ((xs.drop off).take len)[i]? = some x → i < len ∧ xs[off + i]? = some x := by
    intro i x hx
    have hi : i < len := by
      have := (List.getElem?_eq_some_iff.1 hx).1; omega
    refine ⟨hi, ?_⟩
    rw [List.getElem?_take_of_lt hi, List.getElem?_drop] at hx
    exact hx
  rw [show Value.slice a len cap = Value.slice a ((xs.drop off).take len).length cap by rw [hlen]]
  rcases H.row id fz s xs e with ⟨hn, hx0⟩ | ⟨b, base, c, E, z, hρ, hb, hz, h0, hsz, h1, hcl, hv⟩
  · subst hx0
    have hl0 : len = 0 := by simp at hle; omega
    subst hl0
    refine .sl none false s _ a cap (by simp) (by simp) (by simp) (by simp) ?_ (by simp) hsp (by simp) (by simp) (by simp)
    intro hnone
    rcases Nat.eq_zero_or_pos cap with h | h
    · exact h
    · obtain ⟨b, base, c, E, z, hr, _⟩ := ha h
      rw [hn] at hr; cases hr
  · refine .sl none false s _ a cap (by omega) (by simp) (by simp) (by simp) ?_ (fun _ => h0) hsp (fun i x hx => hcl _ x (hget i x hx).2) ?_ ?_
    · intro hnone
      rcases Nat.eq_zero_or_pos cap with h | h
      · exact h
      · obtain ⟨b', base', c', E', z', hr, ha', _⟩ := ha h
        rw [hnone] at ha'; cases ha'
    · intro ad i x j y had hx hj
      obtain ⟨hi, hx'⟩ := hget i x hx
      obtain ⟨b', base', c', E', z', hr, ha', hb', _⟩ := ha (by omega)
      rw [hρ] at hr; cases hr
      rw [hb] at hb'; cases hb'
      rw [had] at ha'; cases ha'
      have hxs := (List.getElem?_eq_some_iff.1 hx').1
      have hcx := hcl _ x hx'
      have hjs : j < s := by have := (List.getElem?_eq_some_iff.1 hj).1; omega
      have hbound : base + ((off + i) * s + j) < base + xs.length * s := by
        have : (off + i + 1) * s ≤ xs.length * s := Nat.mul_le_mul_right s (by omega)
        rw [Nat.add_mul, Nat.one_mul] at this; omega
      have eo : base + off * s + (i * s + j) = base + ((off + i) * s + j) := by rw [Nat.add_mul]; omega
      refine ⟨.inr ⟨id, fz, s, xs, base, by simp, e, hρ, by simp only; omega, by simp only; omega⟩, ?_⟩
      simp only
      rw [eo]
      have hlt : base + ((off + i) * s + j) < c.size := by omega
      refine ⟨c[base + ((off + i) * s + j)], by simp [World.cell?, hb, hlt], h1 _ _ (Array.getElem?_eq_getElem hlt)⟩
    · intro ad i x j y u had hx hj hu
      obtain ⟨hi, hx'⟩ := hget i x hx
      obtain ⟨b', base', c', E', z', hr, ha', hb', _⟩ := ha (by omega)
      rw [hρ] at hr; cases hr
      rw [hb] at hb'; cases hb'
      rw [had] at ha'; cases ha'
      have eo : base + off * s + (i * s + j) = base + ((off + i) * s + j) := by rw [Nat.add_mul]; omega
      simp only [eo] at hu
      have hc' : c[base + ((off + i) * s + j)]? = some u := by simpa [World.cell?, hb] using hu
      exact (hv (off + i) x j y u hx' hj hc').zmono fun b o h => .inl h
theorem pure1_sound {Γ : Cx} (H : HOk Γ) {v p : V} {u : Value} (h : VR Γ v u) (hp : pure1 Γ.h v = some p) : VP Γ.w (Zof Γ (rid1 v)) p u := by
  have lift : ∀ {v : V}, VP Γ.w Γ.Z v u → ∀ ids, VP Γ.w (Zof Γ ids) v u := fun hv ids => hv.zmono fun b o h => .inl h
  cases v with
  | ref id =>
    simp only [pure1] at hp
    split at hp
    · rename_i fz s xs e
      cases hp
      have := snap H e (by omega : 0 + xs.length ≤ xs.length) (h.ref_inv.2.2 fz s xs e)
      simpa [rid1] using this
    · cases hp
  | sub id off len =>
    simp only [pure1] at hp
    split at hp
    · rename_i fz s xs e
      cases hp
      obtain ⟨h1, h2⟩ := h.sub_inv.2.2 fz s xs e
      exact snap H e h1 h2
    · cases hp
  | bool b => cases hp; cases h with | pure h => exact lift h _
  | int k n => cases hp; cases h with | pure h => exact lift h _
  | str s => cases hp; cases h with | pure h => exact lift h _
  | sl n c s xs => cases hp; cases h with | pure h => exact lift h _
  | nilf => cases hp; cases h with | pure h => exact lift h _
  | nilp => cases hp; cases h with | pure h => exact lift h _
  | nili => cases hp; cases h with | pure h => exact lift h _
  | fn f a c =>
    cases f with
    | func g =>
      cases c with
      | nil =>
        simp only [pure1, guardP_some] at hp
        obtain ⟨hfl, hp⟩ := hp
        cases hp
        obtain ⟨ua, uc, rfl, hla, hlc, hva, _⟩ := h.fn_inv
        have e2 : uc = #[] := by apply Array.eq_empty_of_size_eq_zero; simpa using hlc.symm
        subst e2
        refine .fnc g a ua hla fun i c u hc hu => ?_
        have h1 : flat1 c = true := List.all_eq_true.1 hfl c (List.mem_of_getElem? hc)
        have h2 := hva i c u hc hu
        refine VP.zmono (Z := Γ.Z) (fun b o h => .inl h) ?_
        cases c <;> first | (cases h1; done) | (cases h2 with | pure h => exact h)
      | cons _ _ => simp [pure1] at hp
    | _ => simp [pure1] at hp
  | _ => simp [pure1] at hp
theorem pures_get {h : Nat → Option Ob} : ∀ {vs ps : List V}, pures h vs = some ps → ps.length = vs.length ∧ ∀ (i : Nat) (v : V), vs[i]? = some v → ∃ p, ps[i]? = some p ∧ pure1 h v = some p := by
  intro vs
  induction vs with
  | nil => intro ps e; simp [pures] at e; subst e; simp
  | cons v r ih =>
    intro ps e
    simp only [pures, Option.bind_eq_some_iff, Option.map_eq_some_iff] at e
    obtain ⟨p, hp, ps', hps, rfl⟩ := e
    obtain ⟨hl, hg⟩ := ih hps
    refine ⟨by simp [hl], ?_⟩
    intro i x hx
    cases i with
    | zero => simp at hx; subst hx; exact ⟨p, by simp, hp⟩
    | succ i => simp at hx; simpa using hg i x hx
theorem purify_sound {Γ : Cx} (H : HOk Γ) {v p : V} {u : Value} (h : VR Γ v u) (hp : purify Γ.h v = some p) : VP Γ.w (Zof Γ (rid v)) p u := by
  cases v with
  | agg cs =>
    simp only [purify, Option.map_eq_some_iff] at hp
    obtain ⟨ps, hps, rfl⟩ := hp
    obtain ⟨us, rfl, hl, h1, hv⟩ := h.agg_inv
    obtain ⟨hlen, hg⟩ := pures_get hps
    refine .agg ps us (by omega) h1 ?_
    intro i c u hc hu
    have hi : i < cs.length := by have := (List.getElem?_eq_some_iff.1 hc).1; omega
    obtain ⟨p, hp1, hp2⟩ := hg i cs[i] (List.getElem?_eq_getElem hi)
    rw [hc] at hp1; cases hp1
    refine (pure1_sound H (hv i _ u (List.getElem?_eq_getElem hi) hu) hp2).zmono fun b o hz => hz.mono ?_
    intro x hx
    simp only [rid, List.mem_flatMap]
    exact ⟨cs[i], List.getElem_mem hi, hx⟩
  | _ => exact pure1_sound H h hp
theorem purifys_get {h : Nat → Option Ob} : ∀ {vs ps : List V}, purifys h vs = some ps → ps.length = vs.length ∧ ∀ (i : Nat) (v : V), vs[i]? = some v → ∃ p, ps[i]? = some p ∧ purify h v = some p := by
  intro vs
  induction vs with
  | nil => intro ps e; simp [purifys] at e; subst e; simp
  | cons v r ih =>
    intro ps e
    simp only [purifys, Option.bind_eq_some_iff, Option.map_eq_some_iff] at e
    obtain ⟨p, hp, ps', hps, rfl⟩ := e
    obtain ⟨hl, hg⟩ := ih hps
    refine ⟨by simp [hl], ?_⟩
    intro i x hx
    cases i with
    | zero => simp at hx; subst hx; exact ⟨p, by simp, hp⟩
    | succ i => simp at hx; simpa using hg i x hx
theorem step_freezes : ∀ (ids : List Nat) {Γ : Cx} (H : HOk Γ) (h0 : Nat → Option Ob), (∀ id fz s xs, h0 id = some (.row fz s xs) → ∃ fz', Γ.h id = some (.row fz' s xs)) →
    ∃ Δ : Cx, HOk Δ ∧ Evo Γ Δ ∧ Δ.h = upds Γ.h (freeze h0 ids) ∧ Δ.w = Γ.w ∧ Δ.n = Γ.n ∧ Δ.ρ = Γ.ρ ∧ (∀ b o, Γ.Z b o → Δ.Z b o) ∧
      ∀ id fz s xs base b o, id ∈ ids → h0 id = some (.row fz s xs) → Γ.ρ id = some (b, base) → o < base + xs.length * s → base ≤ o → Δ.Z b o := by
  intro ids
  induction ids with
  | nil => intro Γ H h0 hh; exact ⟨Γ, H, Evo.refl Γ, rfl, rfl, rfl, rfl, fun _ _ h => h, by simp⟩
  | cons id r ih =>
    intro Γ H h0 hh
    by_cases hrow : ∃ fz s xs, h0 id = some (.row fz s xs)
    · obtain ⟨fz, s, xs, e⟩ := hrow
      obtain ⟨fz', e'⟩ := hh id fz s xs e
      obtain ⟨H1, E1⟩ := step_freeze H e'
      obtain ⟨Δ, HΔ, EΔ, hhΔ, hw, hn, hρ, hz, hzs⟩ := ih H1 h0 (by
        intro i fz2 s2 xs2 e2
        by_cases hi : i = id
        · subst hi; rw [e] at e2; cases e2; exact ⟨true, by simp [Cx.froze, upd]⟩
        · obtain ⟨f3, e3⟩ := hh i fz2 s2 xs2 e2
          exact ⟨f3, by simp only [Cx.froze, upd_other _ _ hi]; exact e3⟩)
      refine ⟨Δ, HΔ, E1.trans EΔ, ?_, hw, hn, hρ, fun b o h => hz b o (.inl h), ?_⟩
      · rw [hhΔ]; simp only [freeze, e, upds]; rfl
      · intro i fz2 s2 xs2 base b o hi e2 hr ho1 ho2
        rcases List.mem_cons.1 hi with rfl | hi
        · rw [e] at e2; cases e2
          exact hz b o (.inr ⟨base, hr, ho1, ho2⟩)
        · exact hzs i fz2 s2 xs2 base b o hi e2 hr ho1 ho2
    · obtain ⟨Δ, HΔ, EΔ, hhΔ, hw, hn, hρ, hz, hzs⟩ := ih H h0 hh
      refine ⟨Δ, HΔ, EΔ, ?_, hw, hn, hρ, hz, ?_⟩
      · rw [hhΔ]
        congr 1
        simp only [freeze]
        split
        · rename_i fz s xs e; exact absurd ⟨_, _, _, e⟩ hrow
        · rfl
      · intro i fz2 s2 xs2 base b o hi e2 hr ho1 ho2
        rcases List.mem_cons.1 hi with rfl | hi
        · exact absurd ⟨fz2, s2, xs2, e2⟩ hrow
        · exact hzs i fz2 s2 xs2 base b o hi e2 hr ho1 ho2
end Go.Sym
set_option linter.unusedVariables false
set_option linter.unusedSimpArgs false
namespace Go.Sym
def OpOk (P : Program) (o : Oper) (α : Operand → Value) (Γ : Cx) (b : Nat) (v : V) (ws : List (Nat × Ob)) : Prop :=
  ∃ (u : Value) (Δ : Cx), ((execOp α o).run P Γ.w = .ok (.value u) Δ.w ∨ ((execOp α o).run P Γ.w = .ok .skip Δ.w ∧ u = undef)) ∧ Δ.h = upds Γ.h ws ∧ Δ.n = more Γ.n b ∧ HOk Δ ∧ Evo Γ Δ ∧ VR Δ v u
variable {P : Program} {o : Oper} {α : Operand → Value} {e : Operand → V} {Γ : Cx} {b : Nat}
theorem ok_quiet (H : HOk Γ) (hb : Fresh Γ.n b) {u : Value} {v : V} (hrun : (execOp α o).run P Γ.w = .ok (.value u) Γ.w) (hv : VR Γ v u) : OpOk P o α Γ b v [] := by
  obtain ⟨H1, E1⟩ := step_same H Γ.w (more Γ.n b) rfl rfl rfl rfl more_of
  exact ⟨u, { Γ with n := more Γ.n b }, .inl hrun, rfl, rfl, H1, E1, hv.evo E1⟩
theorem beq_dec (a c : Int) : (a == c) = decide (a = c) := by by_cases h : a = c <;> simp [h]
theorem bne_dec (a c : Int) : (a != c) = !decide (a = c) := by by_cases h : a = c <;> simp [h]
theorem strs_dec (x y : List UInt8) : (x == y) = decide (x = y) := by by_cases h : x = y <;> simp [h]
theorem intBin_sound {op : BinOp} {t : TypeId} {k k' : IntKind} {x y : Int} {v : V} (w : World) (h : intBin op k x k' y = some v) :
    ∃ u, (binOp op t (.int k x) (.int k' y)).run P w = .ok u w ∧ ∀ Γ, VR Γ v u := by
  cases op <;> simp only [intBin, guardP_some, Option.some.injEq] at h
  case shl => obtain ⟨hb, rfl⟩ := h; exact ⟨_, by simp only [binOp, Op.shift]; rw [if_neg (by omega)]; rfl, fun Γ => .pure (.int _ _)⟩
  case shr => obtain ⟨hb, rfl⟩ := h; exact ⟨_, by simp only [binOp, Op.shift]; rw [if_neg (by omega)]; rfl, fun Γ => .pure (.int _ _)⟩
  case quo => obtain ⟨⟨hk, h0⟩, rfl⟩ := h; subst hk; exact ⟨_, by simp [binOp, Op.intDiv, h0] <;> rfl, fun Γ => .pure (.int _ _)⟩
  case rem => obtain ⟨⟨hk, h0⟩, rfl⟩ := h; subst hk; exact ⟨_, by simp [binOp, Op.intDiv, h0] <;> rfl, fun Γ => .pure (.int _ _)⟩
  case eql => obtain ⟨hk, rfl⟩ := h; subst hk; exact ⟨.bool (decide (x = y)), by simp [binOp, Op.intCmp, beq_dec], fun Γ => .pure (.bool _)⟩
  case neq => obtain ⟨hk, rfl⟩ := h; subst hk; exact ⟨.bool (!decide (x = y)), by simp [binOp, Op.intCmp, bne_dec], fun Γ => .pure (.bool _)⟩
  case lss => obtain ⟨hk, rfl⟩ := h; subst hk; exact ⟨.bool (decide (x < y)), by simp [binOp, Op.intCmp], fun Γ => .pure (.bool _)⟩
  case leq => obtain ⟨hk, rfl⟩ := h; subst hk; exact ⟨.bool (decide (x ≤ y)), by simp [binOp, Op.intCmp], fun Γ => .pure (.bool _)⟩
  case gtr => obtain ⟨hk, rfl⟩ := h; subst hk; exact ⟨.bool (decide (y < x)), by simp [binOp, Op.intCmp], fun Γ => .pure (.bool _)⟩
  case geq => obtain ⟨hk, rfl⟩ := h; subst hk; exact ⟨.bool (decide (y ≤ x)), by simp [binOp, Op.intCmp], fun Γ => .pure (.bool _)⟩
  all_goals (obtain ⟨hk, rfl⟩ := h; subst hk; exact ⟨_, by simp [binOp, Op.intArith, Op.intBits] <;> rfl, fun Γ => .pure (.int _ _)⟩)
theorem strBin_sound {op : BinOp} {t : TypeId} {x y : ByteArray} {v : V} (w : World) (h : strBin op x.data.toList y.data.toList = some v) :
    ∃ u, (binOp op t (.string x) (.string y)).run P w = .ok u w ∧ ∀ Γ, VR Γ v u := by
  have ex := ByteArray.toList_eq x
  have ey := ByteArray.toList_eq y
  cases op <;> simp only [strBin, guardP_some, Option.some.injEq, reduceCtorEq] at h
  case add =>
    obtain ⟨hb, rfl⟩ := h
    refine ⟨.string (x ++ y), ?_, fun Γ => .pure ?_⟩
    · simp only [binOp, Op.stringOp]
      rw [if_neg]
      · rfl
      · have h1 : x.size = x.data.toList.length := by rw [Array.length_toList]; rfl
        have h2 : y.size = y.data.toList.length := by rw [Array.length_toList]; rfl
        unfold maxText at hb
        simp only [IntKind.max, IntKind.signed, IntKind.bits, if_true]
        omega
    · have : x.data.toList ++ y.data.toList = (x ++ y).data.toList := by simp
      rw [this]; exact .str _
  case eql => subst h; exact ⟨.bool (decide (x.data.toList = y.data.toList)), by simp only [binOp, Op.stringOp, ex, ey, strs_dec]; rfl, fun Γ => .pure (.bool _)⟩
  case neq => subst h; exact ⟨.bool (!decide (x.data.toList = y.data.toList)), by simp only [binOp, Op.stringOp, ex, ey, strs_dec]; rfl, fun Γ => .pure (.bool _)⟩
  case lss => subst h; exact ⟨.bool (Op.bytesLess x.data.toList y.data.toList), by simp only [binOp, Op.stringOp, ex, ey]; rfl, fun Γ => .pure (.bool _)⟩
  case geq => subst h; exact ⟨.bool (!Op.bytesLess x.data.toList y.data.toList), by simp only [binOp, Op.stringOp, ex, ey]; rfl, fun Γ => .pure (.bool _)⟩
def CellsR (Γ : Cx) (cs : List V) (us : Array Value) : Prop :=
  cs.length = us.size ∧ (∀ (i : Nat) (u : Value), us[i]? = some u → u.oneCell = true) ∧ ∀ (i : Nat) (c : V) (u : Value), cs[i]? = some c → us[i]? = some u → VR Γ c u
theorem sub_cells {Γ : Cx} {cs : List V} {us : Array Value} (h : CellsR Γ cs us) {off n : Nat} (hle : off + n ≤ cs.length) : CellsR Γ ((cs.drop off).take n) (us.extract off (off + n)) := by
  obtain ⟨hl, h1, hv⟩ := h
  have hs : (us.extract off (off + n)).size = n := ext_size _ _ _ (by omega)
  have hg : ∀ i u, (us.extract off (off + n))[i]? = some u → i < n ∧ us[off + i]? = some u := by
    intro i u hu
    rw [ext_get _ _ _ _ (by omega)] at hu
    split at hu
    · exact ⟨by assumption, hu⟩
    · cases hu
  refine ⟨by rw [hs]; simp; omega, fun i u hu => h1 _ u (hg i u hu).2, fun i c u hc hu => ?_⟩
  obtain ⟨hi, hu'⟩ := hg i u hu
  rw [List.getElem?_take_of_lt hi, List.getElem?_drop] at hc
  exact hv _ c u hc hu'
theorem readC_part {t : TypeId} {cs : List V} {us : Array Value} {off : Nat} {v : V} (h : CellsR Γ cs us) (hr : readC P t cs off = some v) (w : World) : ∃ u, (part t us off).run P w = .ok u w ∧ VR Γ v u := by
  unfold readC at hr
  split at hr
  · rename_i ht
    obtain ⟨d, hd⟩ := under_of_tagg ht
    rw [guardP_some] at hr
    obtain ⟨hle, hv⟩ := hr
    cases hv
    obtain ⟨h1, h2, h3⟩ := sub_cells h hle
    refine ⟨.agg (us.extract off (off + tsize P t)), ?_, .agg _ _ h1 h2 h3⟩
    simp [part, run_agg ht, run_size hd]
  · rename_i ht
    have hlt := (List.getElem?_eq_some_iff.1 hr).1
    have hu : off < us.size := by rw [← h.1]; exact hlt
    refine ⟨us[off], ?_, h.2.2 off v _ hr (Array.getElem?_eq_getElem hu)⟩
    simp [part, run_agg ht, hu]
  · cases hr
theorem readC_load {t : TypeId} {cs : List V} {off b o : Nat} {v : V} {w : World} (hr : readC P t cs off = some v)
    (hm : ∀ (j : Nat) (c : V), cs[j]? = some c → ∃ u, w.cell? ⟨b, o + j, none⟩ = some u ∧ u.oneCell = true ∧ VR Γ c u) :
    ∃ u, (loadVar t ⟨b, o + off, none⟩).run P w = .ok u w ∧ VR Γ v u := by
  unfold readC at hr
  split at hr
  · rename_i ht
    obtain ⟨d, hd⟩ := under_of_tagg ht
    rw [guardP_some] at hr
    obtain ⟨hle, hv⟩ := hr
    cases hv
    by_cases h0 : tsize P t = 0
    · refine ⟨.agg #[], ?_, ?_⟩
      · rw [loadVar, Sem.run_bind, run_agg ht]
        simp [run_size hd, h0, loadCells, loadCellsFrom]
      · rw [h0]; simp only [List.take_zero]
        exact .agg [] #[] rfl (by simp) (by simp)
    · have hblk : ∃ c E z, w.heap[b]? = some (.cells c E z) := by
        obtain ⟨u, hu, _⟩ := hm off cs[off] (List.getElem?_eq_getElem (by omega))
        unfold World.cell? at hu
        split at hu
        · exact ⟨_, _, _, by assumption⟩
        · cases hu
      obtain ⟨c, E, z, hb⟩ := hblk
      have hcell : ∀ j, w.cell? ⟨b, j, none⟩ = c[j]? := fun j => by simp [World.cell?, hb]
      have hsz : o + off + tsize P t ≤ c.size := by
        obtain ⟨u, hu, _⟩ := hm (off + tsize P t - 1) cs[off + tsize P t - 1] (List.getElem?_eq_getElem (by omega))
        rw [hcell] at hu
        have := (Array.getElem?_eq_some_iff.1 hu).1
        omega
      refine ⟨.agg (c.extract (o + off) (o + off + tsize P t)), ?_, ?_⟩
      · rw [loadVar, Sem.run_bind, run_agg ht]
        simp [run_size hd, run_loadCells P hb hsz]
      · have hg : ∀ i u, (c.extract (o + off) (o + off + tsize P t))[i]? = some u → i < tsize P t ∧ c[o + (off + i)]? = some u := by
          intro i u hu
          rw [ext_get _ _ _ _ hsz] at hu
          split at hu
          · exact ⟨by assumption, by rw [← Nat.add_assoc]; exact hu⟩
          · cases hu
        refine .agg _ _ (by rw [ext_size _ _ _ hsz]; simp; omega) ?_ ?_
        · intro i u hu
          obtain ⟨hi, hu'⟩ := hg i u hu
          obtain ⟨u2, hu2, h1, _⟩ := hm (off + i) cs[off + i] (List.getElem?_eq_getElem (by omega))
          rw [hcell, hu'] at hu2; cases hu2; exact h1
        · intro i x u hx hu
          obtain ⟨hi, hu'⟩ := hg i u hu
          rw [List.getElem?_take_of_lt hi, List.getElem?_drop] at hx
          obtain ⟨u2, hu2, _, hv⟩ := hm (off + i) x hx
          rw [hcell, hu'] at hu2; cases hu2; exact hv
  · rename_i ht
    obtain ⟨u, hu, _, hv⟩ := hm off v hr
    refine ⟨u, ?_, hv⟩
    rw [loadVar, Sem.run_bind, run_agg ht]
    simp [hu]
  · cases hr
theorem eqT_sound : ∀ (d D : Nat), d ≤ D → ∀ (t : TypeId) (x y : V) (u v : Value) (r : Bool) (w : World) (Γ : Cx), eqT P d t x y = some r → VR Γ x u → VR Γ y v → (Op.equalIn D t u v).run P w = .ok r w := by
  intro d
  induction d with
  | zero => intro D _ t x y u v r w Γ h; simp [eqT] at h
  | succ d ih =>
    intro D hD t x y u v r w Γ h hx hy
    obtain ⟨D, rfl⟩ : ∃ D', D = D' + 1 := ⟨D - 1, by omega⟩
    simp only [eqT] at h
    split at h
    · rename_i ht
      split at h <;> simp at h
      rw [hx.bool_inv, hy.bool_inv, run_equalIn_bool' w D t _ _ ht]
      subst h; rfl
    · rename_i ht
      split at h
      · rw [guardP_some] at h
        obtain ⟨hk, hr⟩ := h
        simp at hr
        rw [hx.int_inv, hy.int_inv, hk, run_equalIn_int w D t _ _ _ _ ht, beq_dec, hr]
      · cases h
    · rename_i ht
      split at h <;> simp at h
      obtain ⟨bx, rfl, ex⟩ := hx.str_inv
      obtain ⟨by', rfl, ey⟩ := hy.str_inv
      rw [run_equalIn_string w D t _ _ ht, ByteArray.toList_eq, ByteArray.toList_eq, ex, ey, strs_dec, h]
    · rename_i fs ht
      split at h
      · rename_i xs ys
        rw [guardP_some] at h
        obtain ⟨hst, h⟩ := h
        obtain ⟨us, rfl, hxc⟩ := hx.agg_inv
        obtain ⟨vs, rfl, hyc⟩ := hy.agg_inv
        have hf : P.fieldsOf t = fs := by simp [Program.fieldsOf, ht]
        rw [run_equalIn_struct (P := P) w D t us vs (by rw [hf]; exact ht) hst, hf]
        clear ht hst hf
        generalize fs.toList = l at h ⊢
        induction l generalizing r with
        | nil => simp [eqFs] at h; subst h; simp [Op.eqFields]
        | cons f l ihl =>
          simp only [eqFs, guardP_some, Option.bind_eq_some_iff, Option.map_eq_some_iff] at h
          obtain ⟨hn, a, ha, c, hc, t1, ht1, t2, ht2, rfl⟩ := h
          obtain ⟨ua, hua, hva⟩ := readC_part (P := P) hxc ha w
          obtain ⟨uc, huc, hvc⟩ := readC_part (P := P) hyc hc w
          have h1 := ih D (by omega) f.type a c ua uc t1 w Γ ht1 hva hvc
          have h2 := ihl t2 ht2
          rw [Op.eqFields]
          simp only [if_pos hn, Sem.run_bind, hua, huc, h1, Result.andThen_ok]
          cases t1
          · simp
          · simpa using h2
      · cases h
    · cases h
theorem isNil_sound {nl : Option Bool} {clip : Bool} {s : Nat} {xs : List V} {w : World} {Z : Nat → Nat → Prop} {a : Option Addr} {n cap : Nat} {r : Bool} (h : VP w Z (.sl nl clip s xs) (.slice a n cap)) (hr : isNil nl xs = some r) : a.isNone = r := by
  cases h with
  | sl _ _ _ _ _ _ hc hclip ht hf hn hs hsp hx he hv =>
    cases nl with
    | some b =>
      simp [isNil] at hr; subst hr
      cases b with
      | true => simp [ht rfl]
      | false => have := hf rfl; cases a <;> simp_all
    | none =>
      simp only [isNil, guardP_some, Option.some.injEq] at hr
      obtain ⟨hne, rfl⟩ := hr
      cases a with
      | some a => rfl
      | none =>
        have h1 := hn rfl
        have h2 : xs.length = 0 := by omega
        exact absurd (List.length_eq_zero_iff.1 h2) hne
theorem telem_inv {t el : TypeId} (h : telem P t = some el) : P.underlying t = some (.slice el) := by
  unfold telem at h
  split at h
  · rename_i e he; cases h; exact he
  · cases h
theorem guard_agg {op : BinOp} {t : TypeId} {x y : Operand} {us vs : Array Value} {w : World} (h : P.eqGuardType P.depth t = false) : (eqGuard op t x y (.agg us) (.agg vs)).run P w = .ok () w := by
  unfold eqGuard
  cases op <;> simp [h]
theorem guard_other {op : BinOp} {t : TypeId} {x y : Operand} {u v : Value} {w : World} (h1 : u ≠ .nilIface) (h2 : ∀ us, u ≠ .agg us) : (eqGuard op t x y u v).run P w = .ok () w := by
  unfold eqGuard
  cases op <;> cases u <;> simp_all
theorem binV_sound {op : BinOp} {t : TypeId} {x y : V} {ox oy : Operand} {u u' : Value} {v : V} (w : World) (h : binV P op t x y = some v) (hw : w = Γ.w) (hx : VR Γ x u) (hy : VR Γ y u') :
    ∃ r, (do eqGuard op t ox oy u u'; binOp op t u u' : Sem Value).run P w = .ok r w ∧ ∀ Δ, VR Δ v r := by
  unfold binV at h
  split at h
  · rw [hx.int_inv, hy.int_inv]
    obtain ⟨r, hr, hv⟩ := intBin_sound (P := P) (t := t) w h
    exact ⟨r, by rw [Sem.run_bind, guard_other (by simp) (by simp)]; exact hr, hv⟩
  · obtain ⟨bx, rfl, rfl⟩ := hx.str_inv
    obtain ⟨by', rfl, rfl⟩ := hy.str_inv
    obtain ⟨r, hr, hv⟩ := strBin_sound (P := P) (t := t) w h
    exact ⟨r, by rw [Sem.run_bind, guard_other (by simp) (by simp)]; exact hr, hv⟩
  · rename_i a c
    rw [hx.bool_inv, hy.bool_inv]
    split at h
    · simp only [Option.map_eq_some_iff] at h
      obtain ⟨r, hr, rfl⟩ := h
      have := eqT_sound 9 Op.maxDepth (by simp [Op.maxDepth]) t (.bool a) (.bool c) (.bool a) (.bool c) r w Γ hr (.pure (.bool _)) (.pure (.bool _))
      exact ⟨.bool r, by rw [Sem.run_bind, guard_other (by simp) (by simp)]; simp [binOp, Op.equal, this], fun Δ => .pure (.bool _)⟩
    · simp only [Option.map_eq_some_iff] at h
      obtain ⟨r, hr, rfl⟩ := h
      have := eqT_sound 9 Op.maxDepth (by simp [Op.maxDepth]) t (.bool a) (.bool c) (.bool a) (.bool c) r w Γ hr (.pure (.bool _)) (.pure (.bool _))
      exact ⟨.bool (!r), by rw [Sem.run_bind, guard_other (by simp) (by simp)]; simp [binOp, Op.equal, this], fun Δ => .pure (.bool _)⟩
    · cases h
  · rename_i a c
    have hxa := hx
    have hya := hy
    obtain ⟨us, rfl, _⟩ := hx.agg_inv
    obtain ⟨vs, rfl, _⟩ := hy.agg_inv
    split at h
    · simp only [guardP_some, Option.map_eq_some_iff] at h
      obtain ⟨hg, r, hr, rfl⟩ := h
      have := eqT_sound 9 Op.maxDepth (by simp [Op.maxDepth]) t (.agg a) (.agg c) _ _ r w Γ hr hxa hya
      exact ⟨.bool r, by rw [Sem.run_bind, guard_agg hg]; simp [binOp, Op.equal, this], fun Δ => .pure (.bool _)⟩
    · simp only [guardP_some, Option.map_eq_some_iff] at h
      obtain ⟨hg, r, hr, rfl⟩ := h
      have := eqT_sound 9 Op.maxDepth (by simp [Op.maxDepth]) t (.agg a) (.agg c) _ _ r w Γ hr hxa hya
      exact ⟨.bool (!r), by rw [Sem.run_bind, guard_agg hg]; simp [binOp, Op.equal, this], fun Δ => .pure (.bool _)⟩
    · cases h
  · rename_i n cl s xs cl' s'
    rw [guardP_some] at h
    obtain ⟨ht, h⟩ := h
    obtain ⟨el, hel⟩ := Option.isSome_iff_exists.1 ht
    have hu := telem_inv hel
    have hxs := hx.sl_inv
    have hys := hy.sl_inv
    obtain ⟨a, m, cap, rfl⟩ : ∃ a m cap, u = .slice a m cap := by cases hxs; exact ⟨_, _, _, rfl⟩
    obtain ⟨m', cap', rfl⟩ : ∃ m' cap', u' = .slice none m' cap' := by
      cases hys with | sl _ _ _ _ a' _ hc hclip ht hf => rw [ht rfl]; exact ⟨_, _, rfl⟩
    have key : ∀ D, (Op.equalIn (D + 1) t (.slice a m cap) (.slice none m' cap')).run P w = .ok a.isNone w := by
      intro D
      cases a <;> simp [Op.equalIn, run_underlying hu]
    split at h
    · simp only [Option.map_eq_some_iff] at h
      obtain ⟨r, hr, rfl⟩ := h
      have hn := isNil_sound hxs hr
      exact ⟨.bool r, by rw [Sem.run_bind, guard_other (by simp) (by simp)]; simp [binOp, Op.equal, Op.maxDepth, key, hn], fun Δ => .pure (.bool _)⟩
    · simp only [Option.map_eq_some_iff] at h
      obtain ⟨r, hr, rfl⟩ := h
      have hn := isNil_sound hxs hr
      exact ⟨.bool (!r), by rw [Sem.run_bind, guard_other (by simp) (by simp)]; simp [binOp, Op.equal, Op.maxDepth, key, hn], fun Δ => .pure (.bool _)⟩
    · cases h
  · cases h
theorem unV_sound {op : UnOp} {x : V} {u : Value} {v : V} (w : World) (h : unV op x = some v) (hx : VR Γ x u) : ∃ r, (Op.unary op u).run P w = .ok r w ∧ ∀ Δ, VR Δ v r := by
  unfold unV at h
  split at h
  · cases h; rw [hx.bool_inv]; exact ⟨_, by simp [Op.unary] <;> rfl, fun Δ => .pure (.bool _)⟩
  · cases h; rw [hx.int_inv]; exact ⟨_, by simp [Op.unary, Op.intArith] <;> rfl, fun Δ => .pure (.int _ _)⟩
  · rw [hx.int_inv]
    simp only [intBin, guardP_some, Option.some.injEq] at h
    obtain ⟨_, rfl⟩ := h
    exact ⟨_, by simp [Op.unary, Op.intBits] <;> rfl, fun Δ => .pure (.int _ _)⟩
  · cases h
end Go.Sym
set_option linter.unusedVariables false
set_option linter.unusedSimpArgs false
namespace Go.Sym
variable {P : Program} {o : Oper} {α : Operand → Value} {e : Operand → V} {Γ : Cx} {b : Nat}
theorem new_var (H : HOk Γ) (hb : Fresh Γ.n b) {v : V} {u : Value} (hv : VR Γ v u) (hs : solid v = true) (E : TypeId) :
    ∃ Δ : Cx, Δ.w = Γ.w.alloc (.cells u.cells E) ∧ Δ.h = upd Γ.h b (some (.var v.cells)) ∧ Δ.n = more Γ.n b ∧ HOk Δ ∧ Evo Γ Δ ∧ VR Δ (.ptr b 0) (.pointer (some ⟨Γ.w.heap.size, 0, none⟩)) := by
  have EV := evo_new H b (.var v.cells) u.cells E (0, 0) (more Γ.n b) hb.at ⟨more_of, more_at _ _⟩
  obtain ⟨hl, h1, hc⟩ := hv.cells hs
  have hok := ok_new H b (.var v.cells) u.cells E (0, 0) (more Γ.n b) hb.at ⟨more_of, more_at _ _⟩ (fun cs hcs => by
      cases hcs
      exact ⟨Γ.w.heap.size, u.cells, E, (0, 0), by simp [Cx.new], alloc_new _ _, fun o _ h => by omega, hl.symm, h1, fun j x u' hx hu => (hc j x u' hx hu).evo EV⟩) (by simp)
  refine ⟨_, rfl, rfl, rfl, hok, EV, .ptr b 0 _ (more_at _ _) fun ob hob _ => by simp [Cx.new]⟩
def RowC (w : World) (Z : Nat → Nat → Prop) (s : Nat) (xs : List V) (c : Array Value) : Prop :=
  0 < s ∧ xs.length * s ≤ c.size ∧ (∀ (j : Nat) (u : Value), c[j]? = some u → u.oneCell = true) ∧ (∀ (i : Nat) (x : V), xs[i]? = some x → x.cells.length = s) ∧
    ∀ (i : Nat) (x : V) (j : Nat) (y : V) (u : Value), xs[i]? = some x → x.cells[j]? = some y → c[i * s + j]? = some u → VP w Z y u
theorem new_row (H : HOk Γ) (hb : Fresh Γ.n b) (fz : Bool) {s : Nat} {xs : List V} {c : Array Value} (hc : RowC Γ.w Γ.Z s xs c) (E : TypeId) (z : Nat × Nat) (hz : unfrozen z c.size) {cap : Nat} (hcap : xs.length ≤ cap) (hcs : cap * s ≤ c.size) :
    ∃ Δ : Cx, Δ.w = Γ.w.alloc (.cells c E z) ∧ Δ.h = upd Γ.h b (some (.row fz s xs)) ∧ Δ.n = more Γ.n b ∧ HOk Δ ∧ Evo Γ Δ ∧ VR Δ (.ref b) (.slice (some ⟨Γ.w.heap.size, 0, none⟩) xs.length cap) := by
  have EV := evo_new H b (.row fz s xs) c E z (more Γ.n b) hb.at ⟨more_of, more_at _ _⟩
  obtain ⟨h0, hsz, h1, hl, hv⟩ := hc
  have hok := ok_new H b (.row fz s xs) c E z (more Γ.n b) hb.at ⟨more_of, more_at _ _⟩ (by simp) (fun fz' s' xs' hcs => by
      cases hcs
      exact .inr ⟨Γ.w.heap.size, 0, c, E, z, by simp [Cx.new], alloc_new _ _, hz, h0, by omega, h1, hl, fun i x j y u hx hy hu => (hv i x j y u hx hy (by simpa using hu)).evo EV.zc⟩)
  refine ⟨_, rfl, rfl, rfl, hok, EV, .ref b _ rfl (more_at _ _) fun fz' s' xs' hcs => ?_⟩
  simp only [Cx.new, upd_same, Option.some.injEq, Ob.row.injEq] at hcs
  obtain ⟨_, rfl, rfl⟩ := hcs
  exact ⟨_, cap, rfl, hcap, by simp, fun _ => ⟨Γ.w.heap.size, 0, c, E, z, by simp [Cx.new], by simp, alloc_new _ _, by simpa using hcs⟩⟩
theorem new_bld (H : HOk Γ) (hb : Fresh Γ.n b) (t e : TypeId) :
    ∃ Δ : Cx, Δ.w = Γ.w.alloc (.cells #[.pointer none, .slice none 0 0] t) ∧ Δ.h = upds Γ.h [(b, .bld t e (b + 1) []), (b + 1, .raw b)] ∧ Δ.n = more Γ.n b ∧ HOk Δ ∧ Evo Γ Δ ∧ VR Δ (.ptr b 0) (.pointer (some ⟨Γ.w.heap.size, 0, none⟩)) := by
  have hne : b + 1 ≠ b := by omega
  obtain ⟨h', hh', h0, h1, h2⟩ : ∃ h', h' = upds Γ.h [(b, .bld t e (b + 1) []), (b + 1, .raw b)] ∧ h' b = some (.bld t e (b + 1) []) ∧ h' (b + 1) = some (.raw b) ∧ ∀ i, i ≠ b → i ≠ b + 1 → h' i = Γ.h i :=
    ⟨_, rfl, by simp [upds, upd], by simp [upds, upd], fun i g1 g2 => by simp [upds, upd, g1, g2]⟩
  obtain ⟨ρ', r0, r1, r2⟩ : ∃ ρ' : Nat → Option (Nat × Nat), ρ' b = some (Γ.w.heap.size, 0) ∧ ρ' (b + 1) = none ∧ ∀ i, i ≠ b → i ≠ b + 1 → ρ' i = Γ.ρ i :=
    ⟨fun i => if i = b + 1 then none else if i = b then some (Γ.w.heap.size, 0) else Γ.ρ i, by simp, by simp, fun i g1 g2 => by simp [g1, g2]⟩
  rw [← hh']
  have nb : ¬ Γ.n b := hb b (Nat.le_refl _) (by omega)
  have nb1 : ¬ Γ.n (b + 1) := hb (b + 1) (by omega) (by omega)
  have lvo : ∀ i, (i = b ∨ i = b + 1) → ¬ live Γ.h i := by
    rintro i (rfl | rfl) hl
    · exact nb (H.lt _ hl)
    · exact nb1 (H.lt _ hl)
  refine ⟨{ Γ with ρ := ρ', h := h', n := more Γ.n b, w := Γ.w.alloc (.cells #[.pointer none, .slice none 0 0] t) }, rfl, rfl, rfl, ?_⟩
  have S : BStep Γ { Γ with ρ := ρ', h := h', n := more Γ.n b, w := Γ.w.alloc (.cells #[.pointer none, .slice none 0 0] t) } (fun i => i = b ∨ i = b + 1) := by
    refine ⟨rfl, more_of, ?_, fun i hT hl => absurd hl (lvo i hT), ?_, ?_, ?_, fun k hk _ => alloc_block _ _ _ hk, by simp, rfl, rfl, rfl, ?_⟩
    · intro i hT
      simp only [not_or] at hT
      exact ⟨h2 i hT.1 hT.2, r2 i hT.1 hT.2⟩
    · rintro i (rfl | rfl) hl
      · refine ⟨.inl ⟨t, e, i + 1, [], h0⟩, more_at _ _, fun b0 base (hr : ρ' i = _) => ?_⟩
        rw [r0] at hr
        cases hr
        exact ⟨by simp, .inl (Nat.le_refl _)⟩
      · refine ⟨.inr ⟨b, h1⟩, .inr ⟨by omega, by omega⟩, fun b0 base (hr : ρ' (b + 1) = _) => ?_⟩
        rw [r1] at hr
        cases hr
    · rintro i (rfl | rfl) hn _
      · exact absurd hn nb
      · exact absurd hn nb1
    · rintro i j b0 bi bj (rfl | rfl) (rfl | rfl) _ _ (ei : ρ' _ = _) (ej : ρ' _ = _)
      · rfl
      · rw [r1] at ej; cases ej
      · rw [r1] at ei; cases ei
      · rfl
    · intro id t' e' r s (g1 : h' id = _) (g2 : h' r = _)
      by_cases hi : id = b
      · subst hi
        rw [h0] at g1
        cases g1
        exact .inl ⟨.inl rfl, .inr rfl, Γ.w.heap.size, .pointer none, .slice none 0 0, r0, alloc_new _ _, .inl rfl, .inl ⟨rfl, rfl, r1⟩⟩
      · have hi1 : id ≠ b + 1 := by
          intro h; subst h
          rw [h1] at g1; cases g1
        refine .inr ⟨by simp only [not_or]; exact ⟨hi, hi1⟩, ?_⟩
        rintro (rfl | rfl)
        · rw [h0] at g2; cases g2
        · rw [h1] at g2; cases g2; exact hi rfl
  obtain ⟨hok, hev⟩ := S.ok H
  exact ⟨hok, hev, .ptr b 0 _ (more_at _ _) fun ob hob _ => r0⟩
theorem op_alloc (H : HOk Γ) (hb : Fresh Γ.n b) {t : TypeId} (ho : o.op = .alloc t) {v : V} {ws : List (Nat × Ob)} (h : opSem P o.op e Γ.h b = some (v, ws)) : OpOk P o α Γ b v ws := by
  rw [ho] at h
  simp only [opSem] at h
  split at h
  · rename_i e' hbe
    rw [guardP_some] at h
    obtain ⟨_, h⟩ := h
    cases h
    unfold bldElem at hbe
    split at hbe
    · rename_i f g hz0 _
      have hz : tzero P t = some (ofValue (.agg ⟨[.pointer none, .slice none 0 0]⟩)) := by unfold tzero; rw [hz0]; rfl
      obtain ⟨i, zv, hi, hzv, _, hrun⟩ := tzero_inv (w := Γ.w) hz
      rw [hi, Option.bind_some, hzv] at hz0
      cases hz0
      obtain ⟨Δ, hw, hh, hn, hok, hev, hvr⟩ := new_bld H hb t e'
      refine ⟨_, Δ, .inl ?_, hh, hn, hok, hev, hvr⟩
      rw [hw]
      simp [execOp, ho, Instr.alloc, hrun, newVar, newRow, newObj, Sem.run, Value.cells]
    · cases hbe
  simp only [Option.bind_eq_some_iff] at h
  obtain ⟨z, hz, h⟩ := h
  rw [guardP_some] at h
  obtain ⟨hsol, h⟩ := h
  cases h
  obtain ⟨i, zv, hi, hzv, rfl, hrun⟩ := tzero_inv (w := Γ.w) hz
  obtain ⟨Δ, hw, hh, hn, hok, hev, hvr⟩ := new_var H hb (VR_const Γ zv) hsol t
  refine ⟨_, Δ, .inl ?_, hh, hn, hok, hev, hvr⟩
  rw [hw]
  simp [execOp, ho, Instr.alloc, hrun, newVar, newRow, newObj, Sem.run]
theorem op_box (H : HOk Γ) (hb : Fresh Γ.n b) (he : ∀ x, VR Γ (e x) (α x)) {t : TypeId} {x : Operand} (ho : o.op = .box t x) {v : V} {ws : List (Nat × Ob)} (h : opSem P o.op e Γ.h b = some (v, ws)) : OpOk P o α Γ b v ws := by
  rw [ho] at h
  simp only [opSem] at h
  have hx := he x
  rw [guardP_some] at h
  obtain ⟨hsol, h⟩ := h
  cases h
  obtain ⟨Δ, hw, hh, hn, hok, hev, hvr⟩ := new_var H hb hx hsol t
  refine ⟨_, Δ, .inl ?_, hh, hn, hok, hev, hvr⟩
  rw [hw]
  simp [execOp, ho, Instr.box, newVar, newRow, newObj, Sem.run]
theorem var_cells (H : HOk Γ) {id : Nat} {cs : List V} (hid : Γ.h id = some (.var cs)) {b0 : Nat} (hr : Γ.ρ id = some (b0, 0)) :
    ∀ (j : Nat) (c : V), cs[j]? = some c → ∃ u, Γ.w.cell? ⟨b0, 0 + j, none⟩ = some u ∧ u.oneCell = true ∧ VR Γ c u := by
  obtain ⟨b1, c, E, z, hr1, hbl, hz, hs, h1, hv⟩ := H.var id cs hid
  rw [hr] at hr1; cases hr1
  intro j x hx
  have hj : j < c.size := by rw [hs]; exact (List.getElem?_eq_some_iff.1 hx).1
  refine ⟨c[j], by simp [World.cell?, hbl, hj], h1 j _ (Array.getElem?_eq_getElem hj), hv j x _ hx (Array.getElem?_eq_getElem hj)⟩
theorem row_cells (H : HOk Γ) {id s : Nat} {fz : Bool} {xs : List V} (hid : Γ.h id = some (.row fz s xs)) {b0 base : Nat} (hr : Γ.ρ id = some (b0, base)) {i : Nat} {x : V} (hx : xs[i]? = some x) :
    x.cells.length = s ∧ ∀ (j : Nat) (c : V), x.cells[j]? = some c → ∃ u, Γ.w.cell? ⟨b0, base + i * s + j, none⟩ = some u ∧ u.oneCell = true ∧ VP Γ.w Γ.Z c u := by
  rcases H.row id fz s xs hid with ⟨hn, hx0⟩ | ⟨b1, base1, c, E, z, hr1, hbl, hz, h0, hsz, h1, hl, hv⟩
  · rw [hr] at hn; cases hn
  · rw [hr] at hr1; cases hr1
    refine ⟨hl i x hx, fun j y hy => ?_⟩
    have hi := (List.getElem?_eq_some_iff.1 hx).1
    have hj : j < s := by rw [← hl i x hx]; exact (List.getElem?_eq_some_iff.1 hy).1
    have : (i + 1) * s ≤ xs.length * s := Nat.mul_le_mul_right s hi
    rw [Nat.add_mul, Nat.one_mul] at this
    have hlt : base + i * s + j < c.size := by omega
    refine ⟨c[base + i * s + j], by simp [World.cell?, hbl, hlt], h1 _ _ (Array.getElem?_eq_getElem hlt), hv i x j y _ hx hy ?_⟩
    rw [← Nat.add_assoc]; exact Array.getElem?_eq_getElem hlt
theorem op_load (H : HOk Γ) (hb : Fresh Γ.n b) (he : ∀ x, VR Γ (e x) (α x)) {t : TypeId} {a : Operand} (ho : o.op = .load t a) {v : V} {ws : List (Nat × Ob)} (h : opSem P o.op e Γ.h b = some (v, ws)) : OpOk P o α Γ b v ws := by
  rw [ho] at h
  simp only [opSem] at h
  have ha := he a
  split at h
  · rename_i id off hea
    split at h
    · rename_i cs hid
      simp only [Option.map_eq_some_iff] at h
      obtain ⟨x, hx, hh⟩ := h
      cases hh
      rw [hea] at ha
      obtain ⟨b0, hu, _, hr⟩ := ha.ptr_inv
      have hr := hr _ hid rfl
      obtain ⟨u, hrun, hv⟩ := readC_load (P := P) (o := 0) (b := b0) hx (var_cells H hid hr)
      refine ok_quiet H hb ?_ hv
      rw [Nat.zero_add] at hrun
      simp [execOp, ho, Instr.loadAt, hu, Instr.sureAddr, hrun]
    · cases h
  · rename_i id i off hea
    split at h
    · rename_i fz s xs hid
      rw [hea] at ha
      obtain ⟨b0, o0, hu, _, hr0⟩ := ha.ept_inv
      obtain ⟨base, hr, rfl⟩ := hr0 fz s xs hid
      clear hr0
      split at h
      · rw [guardP_some] at h
        obtain ⟨⟨rfl, rfl⟩, h⟩ := h
        simp only [Option.bind_eq_some_iff, Option.map_eq_some_iff] at h
        obtain ⟨x, hx, y, hy, hh⟩ := h
        cases hh
        unfold arr? at hx
        rw [guardP_some] at hx
        obtain ⟨⟨hle, hone⟩, hx⟩ := hx
        cases hx
        obtain ⟨u, hrun, hv⟩ := readC_load (P := P) (Γ := Γ) (o := base + i * 1) (b := b0) hy (fun j c hj => by
          simp only [V.cells] at hj
          have hc1 : one1 c = true := List.all_eq_true.1 hone c (List.mem_of_getElem? hj)
          rw [List.getElem?_take] at hj
          split at hj
          · rw [List.getElem?_drop] at hj
            obtain ⟨_, hc⟩ := row_cells H hid hr hj
            have hcc : c.cells = [c] := by cases c <;> first | rfl | cases hc1
            obtain ⟨u, h1, h2, h3⟩ := hc 0 c (by rw [hcc]; rfl)
            refine ⟨u, ?_, h2, .pure h3⟩
            rw [show base + i * 1 + j = base + (i + j) * 1 + 0 by omega]; exact h1
          · cases hj)
        refine ok_quiet H hb ?_ hv
        simp [execOp, ho, Instr.loadAt, hu, Instr.sureAddr] at hrun ⊢
        simp [hrun]
      simp only [Option.bind_eq_some_iff, Option.map_eq_some_iff] at h
      obtain ⟨x, hx, y, hy, hh⟩ := h
      cases hh
      obtain ⟨_, hc⟩ := row_cells H hid hr hx
      obtain ⟨u, hrun, hv⟩ := readC_load (P := P) (Γ := Γ) (o := base + i * s) (b := b0) hy (fun j c hj => let ⟨u, h1, h2, h3⟩ := hc j c hj; ⟨u, h1, h2, .pure h3⟩)
      refine ok_quiet H hb ?_ hv
      simp [execOp, ho, Instr.loadAt, hu, Instr.sureAddr, hrun]
    · cases h
  · rename_i x off hea
    simp only [Option.map_eq_some_iff] at h
    obtain ⟨y, hy, hh⟩ := h
    cases hh
    rw [hea] at ha
    obtain ⟨b0, base, hu, hc⟩ := ha.cpt_inv
    obtain ⟨u, hrun, hv⟩ := readC_load (P := P) (Γ := Γ) (o := base) (b := b0) hy (fun j c hj => let ⟨_, u, h1, h2, h3⟩ := hc j c hj; ⟨u, h1, h2, .pure h3⟩)
    refine ok_quiet H hb ?_ hv
    simp [execOp, ho, Instr.loadAt, hu, Instr.sureAddr, hrun]
  · cases h
theorem run_storeAt {t : TypeId} {b0 o0 : Nat} {u : Value} {w : World} {c : Array Value} {E : TypeId} {z : Nat × Nat} (ht : 0 < tsize P t) (hsz : u.cells.size = tsize P t) (h1 : ∀ (i : Nat) (x : Value), u.cells[i]? = some x → x.oneCell = true)
    (hb : w.heap[b0]? = some (.cells c E z)) (hz : unfrozen z c.size) (hle : o0 + u.cells.size ≤ c.size) :
    (Instr.storeAt t (.pointer (some ⟨b0, o0, none⟩)) u).run P w = .ok () (setBlk w b0 (.cells (wr c o0 u.cells.toList) E z)) := by
  have hne : u.cells.toList ≠ [] := by
    intro hn
    have : u.cells.size = 0 := by rw [← Array.length_toList, hn]; rfl
    omega
  have := run_storeCells P b0 E z u.cells.toList w c o0 0 hb hz (by rw [Array.length_toList]; omega) (fun x hx => by
    obtain ⟨i, hi, hx⟩ := List.getElem_of_mem hx
    exact h1 i x (by rw [← hx]; simp))
  rw [if_neg hne] at this
  simp only [Nat.add_zero] at this
  simp [Instr.storeAt, Instr.sureAddr, storeVar, run_size' ht, hsz, this]
theorem writeC_get {cs vs cs' : List V} {off : Nat} (h : writeC cs off vs = some cs') : off + vs.length ≤ cs.length ∧ cs'.length = cs.length ∧ ∀ j, cs'[j]? = if off ≤ j ∧ j < off + vs.length then vs[j - off]? else cs[j]? := by
  unfold writeC at h
  rw [guardP_some] at h
  obtain ⟨hle, h⟩ := h
  cases h
  refine ⟨hle, by simp; omega, fun j => ?_⟩
  rw [List.getElem?_append]
  by_cases h1 : j < off
  · rw [if_pos (by simp; omega), if_neg (by omega), List.getElem?_take_of_lt h1]
  · rw [if_neg (by simp; omega), List.getElem?_append]
    simp only [List.length_take, Nat.min_eq_left (show off ≤ cs.length by omega)]
    by_cases h2 : j < off + vs.length
    · rw [if_pos (by omega), if_pos (by omega)]
    · rw [if_neg (by omega), if_neg (by omega), List.getElem?_drop]
      congr 1; omega
theorem op_store (H : HOk Γ) (hb : Fresh Γ.n b) (he : ∀ x, VR Γ (e x) (α x)) {t : TypeId} {a x : Operand} (ho : o.op = .store t a x) {v : V} {ws : List (Nat × Ob)} (h : opSem P o.op e Γ.h b = some (v, ws)) : OpOk P o α Γ b v ws := by
  rw [ho] at h
  simp only [opSem] at h
  have ha := he a
  have hx := he x
  rw [guardP_some] at h
  obtain ⟨⟨hsol, hlen, ht⟩, h⟩ := h
  obtain ⟨hcl, hc1, hcv⟩ := hx.cells hsol
  have hsz : (α x).cells.size = tsize P t := by omega
  have hul : (α x).cells.toList.length = (e x).cells.length := by rw [Array.length_toList]; omega
  split at h
  · rename_i id off hea
    split at h
    · rename_i cs hid
      simp only [Option.map_eq_some_iff] at h
      obtain ⟨cs', hw, hh⟩ := h
      cases hh
      rw [hea] at ha
      obtain ⟨b0, hu, _, hr⟩ := ha.ptr_inv
      have hr := hr _ hid rfl
      obtain ⟨b1, c, E, z, hr1, hbl, hz, hs, h1, hv⟩ := H.var id cs hid
      rw [hr] at hr1; cases hr1
      obtain ⟨hle, hlen', hget⟩ := writeC_get hw
      have hwr : ∀ k, (wr c off (α x).cells.toList)[k]? = if off ≤ k ∧ k < off + (e x).cells.length then (α x).cells[k - off]? else c[k]? := by
        intro k
        rw [wr_get _ _ _ _ (by rw [hul]; omega), hul]
        simp
      have hZ : ∀ o', Γ.Z b0 o' → (wr c off (α x).cells.toList)[o']? = c[o']? := by
        intro o' hzz
        obtain ⟨s', xs', e', _⟩ := (H.z b0 o' hzz).2 id 0 (live_var hid) hr
        rw [hid] at e'; cases e'
      have EV := evo_write H (live_var hid) hr hbl (wr_size _ c off) hZ (.var cs') (fun cs2 h2 => by cases h2; exact ⟨cs, hid, hlen'.symm⟩) (by simp) (by simp)
      have hok := ok_write H (live_var hid) hr hbl (wr_size _ c off) hZ (.var cs') (fun cs2 h2 => by cases h2; exact ⟨cs, hid, hlen'.symm⟩) (by simp) (by simp)
        (fun cs2 h2 => by
          cases h2
          refine ⟨b0, wr c off (α x).cells.toList, E, z, hr, setBlk_same (Array.getElem?_eq_some_iff.1 hbl).1, by rw [wr_size]; exact hz, by rw [wr_size]; omega, ?_, ?_⟩
          · intro j u hj
            rw [hwr] at hj
            split at hj
            · exact hc1 _ u hj
            · exact h1 _ u hj
          · intro j y u hy hj
            rw [hwr] at hj
            rw [hget] at hy
            split at hj
            · rw [if_pos (by assumption)] at hy; exact (hcv _ y u hy hj).evo EV
            · rw [if_neg (by assumption)] at hy; exact (hv j y u hy hj).evo EV) (by simp)
      obtain ⟨H2, E2⟩ := step_same hok _ (more Γ.n b) rfl rfl rfl rfl more_of
      refine ⟨undef, _, .inr ⟨?_, rfl⟩, rfl, rfl, H2, EV.trans E2, .tup [] #[] rfl (by simp)⟩
      have hrun := run_storeAt (P := P) ht hsz hc1 hbl hz (show off + (α x).cells.size ≤ c.size by omega)
      simp [execOp, ho, hu, hrun]
    · cases h
  · rename_i id i off hea
    split at h
    · rename_i fz s xs hid
      rw [guardP_some, Option.bind_eq_some_iff] at h
      obtain ⟨⟨hfz, hnid, hi⟩, p, hp, h⟩ := h
      rw [hea] at ha
      obtain ⟨b0, o0, hu, _, hr0⟩ := ha.ept_inv
      obtain ⟨base, hr, rfl⟩ := hr0 fz s xs hid
      clear hr0
      have hvp := purify_sound H hx hp
      obtain ⟨Γf, Hf, Ef, hhf, hwf, hnf, hρf, hzf, hzsf⟩ := step_freezes (rid (e x)) H Γ.h (fun id fz s xs h => ⟨fz, h⟩)
      have hvp' : VP Γf.w Γf.Z p (α x) := by
        rw [hwf]
        refine hvp.zmono fun b' o' hz => ?_
        rcases hz with hz | ⟨id', fz', s', xs', base', hm, h1, h2, h3, h4⟩
        · exact hzf _ _ hz
        · exact hzsf id' fz' s' xs' base' b' o' hm h1 h2 h3 h4
      have hidf : Γf.h id = some (.row fz s xs) := by
        rw [hhf]
        have : ∀ (ids : List Nat) (h : Nat → Option Ob), id ∉ ids → upds h (freeze Γ.h ids) id = h id := by
          intro ids
          induction ids with
          | nil => intro h _; rfl
          | cons i r ih =>
            intro h hm
            simp only [List.mem_cons, not_or] at hm
            simp only [freeze]
            split
            · simp only [upds]; rw [ih _ hm.2, upd_other _ _ hm.1]
            · exact ih h hm.2
        rw [this _ _ (by simpa using hnid)]; exact hid
      have hrf : Γf.ρ id = some (b0, base) := by rw [hρf]; exact hr
      rcases Hf.row id fz s xs hidf with ⟨hn, _⟩ | ⟨b1, base1, c, E, z, hr1, hbl, hz, h0, hle, h1, hl, hv⟩
      · rw [hrf] at hn; cases hn
      rw [hrf] at hr1; cases hr1
      obtain ⟨hpl, hp1, hpv⟩ := hvp'.cells
      have hup : (α x).cells.toList.length = p.cells.length := by rw [Array.length_toList]; omega
      have main : ∀ (y' : V), y'.cells.length = s → off + p.cells.length ≤ s → (∀ j, y'.cells[j]? = if off ≤ j ∧ j < off + p.cells.length then p.cells[j - off]? else (xs[i]'hi).cells[j]?) →
          (v, ws) = (V.tup [], freeze Γ.h (rid (e x)) ++ [(id, .row fz s (xs.set i y'))]) → OpOk P o α Γ b v ws := by
        intro y' hy' hoff hget hvw
        cases hvw
        have his : (i + 1) * s ≤ xs.length * s := Nat.mul_le_mul_right s hi
        rw [Nat.add_mul, Nat.one_mul] at his
        have hwr : ∀ k, (wr c (base + (i * s + off)) (α x).cells.toList)[k]? = if base + (i * s + off) ≤ k ∧ k < base + (i * s + off) + p.cells.length then (α x).cells[k - (base + (i * s + off))]? else c[k]? := by
          intro k
          rw [wr_get _ _ _ _ (by rw [hup]; omega), hup]
          simp
        have hZ : ∀ o', Γf.Z b0 o' → (wr c (base + (i * s + off)) (α x).cells.toList)[o']? = c[o']? := by
          intro o' hzz
          obtain ⟨s', xs', e', _⟩ := (Hf.z b0 o' hzz).2 id base (live_row hidf) hrf
          rw [hidf, hfz] at e'; cases e'
        have EV := evo_write Hf (live_row hidf) hrf hbl (wr_size _ c _) hZ (.row fz s (xs.set i y')) (by simp) (fun fz2 s2 xs2 h2 => by cases h2; exact ⟨fz, xs, hidf, by simp⟩) (by simp)
        have hok := ok_write Hf (live_row hidf) hrf hbl (wr_size _ c _) hZ (.row fz s (xs.set i y')) (by simp) (fun fz2 s2 xs2 h2 => by cases h2; exact ⟨fz, xs, hidf, by simp, rfl⟩) (by simp) (by simp)
          (fun fz2 s2 xs2 h2 => by
            cases h2
            refine .inr ⟨b0, base, wr c (base + (i * s + off)) (α x).cells.toList, E, z, hrf, setBlk_same (Array.getElem?_eq_some_iff.1 hbl).1, by rw [wr_size]; exact hz, h0, by rw [wr_size]; simpa using hle, ?_, ?_, ?_⟩
            · intro j u hj
              rw [hwr] at hj
              split at hj
              · exact hc1 _ u hj
              · exact h1 _ u hj
            · intro k y hy
              by_cases hki : i = k
              · subst hki
                rw [List.getElem?_set_self hi] at hy
                cases hy; exact hy'
              · rw [List.getElem?_set_ne hki] at hy
                exact hl k y hy
            · intro k y j yc u hy hj hu'
              have hjs : j < s := by
                by_cases hki : i = k
                · subst hki
                  rw [List.getElem?_set_self hi] at hy
                  cases hy; rw [← hy']; exact (List.getElem?_eq_some_iff.1 hj).1
                · rw [List.getElem?_set_ne hki] at hy
                  rw [← hl k y hy]; exact (List.getElem?_eq_some_iff.1 hj).1
              rw [hwr] at hu'
              by_cases hki : i = k
              · subst hki
                rw [List.getElem?_set_self hi] at hy
                cases hy
                rw [hget] at hj
                by_cases hin : off ≤ j ∧ j < off + p.cells.length
                · rw [if_pos hin] at hj
                  rw [if_pos (by omega), show base + (i * s + j) - (base + (i * s + off)) = j - off by omega] at hu'
                  exact (hpv _ yc u hj hu').evo EV.zc
                · rw [if_neg hin] at hj
                  rw [if_neg (by omega)] at hu'
                  exact (hv i _ j yc u (List.getElem?_eq_getElem hi) hj hu').evo EV.zc
              · rw [List.getElem?_set_ne hki] at hy
                have : ¬ (base + (i * s + off) ≤ base + (k * s + j) ∧ base + (k * s + j) < base + (i * s + off) + p.cells.length) := by
                  rcases Nat.lt_or_gt_of_ne hki with hlt | hgt
                  · have : (i + 1) * s ≤ k * s := Nat.mul_le_mul_right s hlt
                    rw [Nat.add_mul, Nat.one_mul] at this; omega
                  · have : (k + 1) * s ≤ i * s := Nat.mul_le_mul_right s hgt
                    rw [Nat.add_mul, Nat.one_mul] at this; omega
                rw [if_neg this] at hu'
                exact (hv k y j yc u hy hj hu').evo EV.zc)
        obtain ⟨H2, E2⟩ := step_same hok _ (more Γ.n b) rfl rfl rfl rfl (by intro i hi; exact .inl (by first | exact hi | (rw [← hnf]; exact hi)))
        refine ⟨undef, _, .inr ⟨?_, rfl⟩, ?_, rfl, H2, (Ef.trans EV).trans E2, .tup [] #[] rfl (by simp)⟩
        · have hblg : Γ.w.heap[b0]? = some (.cells c E z) := by rw [← hwf]; exact hbl
          simp only [execOp, ho, hu, Sem.run_bind]
          rw [Nat.add_assoc, run_storeAt ht hsz hc1 hblg hz (show base + (i * s + off) + (α x).cells.size ≤ c.size by omega)]
          simp [hwf]
        · show upd Γf.h id _ = _
          rw [hhf]
          have : ∀ (l1 : List (Nat × Ob)) (h : Nat → Option Ob) (q : Nat × Ob), upds h (l1 ++ [q]) = upd (upds h l1) q.1 (some q.2) := by
            intro l1
            induction l1 with
            | nil => intro h q; rfl
            | cons a r ih => intro h q; simp only [List.cons_append, upds]; exact ih _ q
          rw [this]
      split at h
      · rename_i hc
        cases h
        refine main p hc.2 (by omega) (fun j => ?_) rfl
        by_cases hj : j < p.cells.length
        · rw [if_pos (by omega)]; simp [hc.1]
        · rw [if_neg (by omega)]
          have hxi := hl i _ (List.getElem?_eq_getElem hi)
          rw [List.getElem?_eq_none (by omega), List.getElem?_eq_none (by omega)]
      · rw [Option.bind_eq_some_iff] at h
        obtain ⟨y, hy, h⟩ := h
        have hyi : xs[i]'hi = y := by rw [List.getElem?_eq_getElem hi] at hy; exact Option.some.inj hy
        split at h
        · rename_i cs
          simp only [Option.map_eq_some_iff] at h
          obtain ⟨cs', hw, hh⟩ := h
          obtain ⟨hle', hlen', hget⟩ := writeC_get hw
          have hcs : cs.length = s := by have := hl i _ hy; simpa [V.cells] using this
          refine main (.agg cs') (by simp [V.cells]; omega) (by omega) (fun j => ?_) hh.symm
          rw [hyi]
          exact hget j
        · cases h
    · cases h
  · cases h
end Go.Sym
set_option linter.unusedVariables false
set_option linter.unusedSimpArgs false
namespace Go.Sym
variable {P : Program} {o : Oper} {α : Operand → Value} {e : Operand → V} {Γ : Cx} {b : Nat}
theorem tfield_inv {t : TypeId} {f : Nat} {r : Nat × TypeId} (h : tfield P t f = some r) : ∃ fs fd, P.underlying t = some (.struct fs) ∧ fs[f]? = some fd ∧ r = (fd.offset, fd.type) := by
  unfold tfield at h
  split at h
  · rename_i fs hu
    simp only [Option.map_eq_some_iff] at h
    obtain ⟨fd, hf, rfl⟩ := h
    exact ⟨fs, fd, hu, hf, rfl⟩
  · cases h
theorem op_fieldAddr (H : HOk Γ) (hb : Fresh Γ.n b) (he : ∀ x, VR Γ (e x) (α x)) {t : TypeId} {x : Operand} {f : Nat} (ho : o.op = .fieldAddr t x f) {v : V} {ws : List (Nat × Ob)} (h : opSem P o.op e Γ.h b = some (v, ws)) : OpOk P o α Γ b v ws := by
  rw [ho] at h
  simp only [opSem, Option.bind_eq_some_iff, guardP_some] at h
  obtain ⟨r, hr, hts, h⟩ := h
  obtain ⟨fs, fd, hu, hf, rfl⟩ := tfield_inv hr
  have hx := he x
  have run : ∀ (b0 o0 : Nat), α x = .pointer (some ⟨b0, o0, none⟩) → (execOp α o).run P Γ.w = .ok (.value (.pointer (some ⟨b0, o0 + fd.offset, none⟩))) Γ.w := by
    intro b0 o0 ha
    have hne : tsize P fd.type ≠ 0 := by simp only at hts; omega
    simp [execOp, ho, Instr.fieldAt, run_underlying hu, hf, ha, Instr.sureAddr, fieldPlace, run_size' hts, hne, add_none]
  split at h
  · rename_i id off hex
    cases h
    rw [hex] at hx
    obtain ⟨b0, hu', hn, hr'⟩ := hx.ptr_inv
    exact ok_quiet H hb (run b0 off hu') (.ptr id _ b0 hn hr')
  · rename_i id i off hex
    cases h
    rw [hex] at hx
    obtain ⟨b0, o0, hu', hn, hr'⟩ := hx.ept_inv
    refine ok_quiet H hb (run b0 _ hu') ?_
    rw [Nat.add_assoc]; exact .ept id i _ b0 o0 hn hr'
  · rename_i v off hex
    cases h
    rw [hex] at hx
    obtain ⟨b0, o0, hu', hc⟩ := hx.cpt_inv
    refine ok_quiet H hb (run b0 _ hu') ?_
    rw [Nat.add_assoc]; exact .cpt v _ b0 o0 hc
  · cases h
theorem op_field (H : HOk Γ) (hb : Fresh Γ.n b) (he : ∀ x, VR Γ (e x) (α x)) {t : TypeId} {x : Operand} {f : Nat} (ho : o.op = .field t x f) {v : V} {ws : List (Nat × Ob)} (h : opSem P o.op e Γ.h b = some (v, ws)) : OpOk P o α Γ b v ws := by
  rw [ho] at h
  simp only [opSem, Option.bind_eq_some_iff] at h
  obtain ⟨r, hr, h⟩ := h
  obtain ⟨fs, fd, hu, hf, rfl⟩ := tfield_inv hr
  have hx := he x
  split at h
  · rename_i cs hex
    simp only [Option.map_eq_some_iff] at h
    obtain ⟨y, hy, hh⟩ := h
    cases hh
    rw [hex] at hx
    obtain ⟨us, hu', hcr⟩ := hx.agg_inv
    obtain ⟨u, hrun, hv⟩ := readC_part (P := P) hcr hy Γ.w
    refine ok_quiet H hb ?_ hv
    simp [execOp, ho, Instr.field, run_underlying hu, hf, hu', asAgg, hrun]
  · cases h
theorem VP_row_elem {w : World} {Z : Nat → Nat → Prop} {nl : Option Bool} {clip : Bool} {s : Nat} {xs : List V} {u : Value} (h : VP w Z (.sl nl clip s xs) u) {i : Nat} {x : V} (hx : xs[i]? = some x) :
    ∃ b o cap, u = .slice (some ⟨b, o, none⟩) xs.length cap ∧ x.cells.length = s ∧ ∀ (j : Nat) (c : V), x.cells[j]? = some c → Z b (o + i * s + j) ∧ ∃ u' : Value, w.cell? ⟨b, o + i * s + j, none⟩ = some u' ∧ u'.oneCell = true ∧ VP w Z c u' := by
  cases h with
  | sl _ _ _ _ a cap hc hclip ht hf hn hs hsp hxl he hv =>
    have hi := (List.getElem?_eq_some_iff.1 hx).1
    cases a with
    | none => have := hn rfl; omega
    | some ad =>
      obtain ⟨b, o, sp⟩ := ad
      have hsp' := hsp (by omega) _ rfl
      simp only at hsp'
      subst hsp'
      refine ⟨b, o, cap, rfl, hxl i x hx, fun j c hj => ?_⟩
      obtain ⟨hz, u', hu', h1⟩ := he _ i x j c rfl hx hj
      have := hv _ i x j c u' rfl hx hj hu'
      simp only [← Nat.add_assoc] at hz hu' this
      exact ⟨hz, u', hu', h1, this⟩
theorem VP_sl_pos {w : World} {Z : Nat → Nat → Prop} {nl : Option Bool} {clip : Bool} {s : Nat} {xs : List V} {u : Value} (h : VP w Z (.sl nl clip s xs) u) (hne : xs ≠ []) : 0 < s := by
  cases h with
  | sl _ _ _ _ _ _ _ _ _ _ _ hs0 _ _ _ _ => exact hs0 hne
theorem op_indexAddr (H : HOk Γ) (hb : Fresh Γ.n b) (he : ∀ x, VR Γ (e x) (α x)) {t : TypeId} {x i : Operand} (ho : o.op = .indexAddr t x i) {v : V} {ws : List (Nat × Ob)} (h : opSem P o.op e Γ.h b = some (v, ws)) : OpOk P o α Γ b v ws := by
  rw [ho] at h
  simp only [opSem] at h
  have hx := he x
  have hi := he i
  split at h
  · rename_i ki n hei
    rw [hei] at hi
    have hαi := hi.int_inv
    split at h
    ·
      rename_i el nl clip s xs hu hex
      simp only [guardP_some, Option.map_eq_some_iff] at h
      obtain ⟨⟨h0, hlt, hs⟩, y, hy, hh⟩ := h
      cases hh
      rw [hex] at hx
      obtain ⟨b0, o0, cap, hu', hl, hc⟩ := VP_row_elem hx.sl_inv hy
      have hts : 0 < tsize P el := by
        rw [← hs]; exact VP_sl_pos hx.sl_inv (by intro hn; subst hn; simp at hlt; omega)
      refine ok_quiet H hb (u := .pointer (some ⟨b0, o0 + n.toNat * s, none⟩)) ?_ ?_
      · simp [execOp, ho, Instr.indexAt, hαi, asIntOf, run_underlying hu, hu', h0, hlt, run_size' hts, hs, add_none]
      · exact .cpt y 0 b0 (o0 + n.toNat * s) fun j c hj => hc j c hj
    ·
      rename_i el id hu hex
      split at h
      · rename_i fz s xs hid
        rw [guardP_some] at h
        obtain ⟨⟨h0, hlt, hs⟩, hh⟩ := h
        cases hh
        rw [hex] at hx
        obtain ⟨_, hn, hr⟩ := hx.ref_inv
        obtain ⟨a, cap, hu', hle, _, hc⟩ := hr fz s xs hid
        obtain ⟨b0, base, c, E, z, hρ, ha, _, _⟩ := hc (by omega)
        subst ha
        have hts : 0 < tsize P el := by
          rcases H.row id fz s xs hid with ⟨hn, _⟩ | ⟨_, _, _, _, _, _, _, _, h0, _⟩
          · rw [hρ] at hn; cases hn
          · omega
        refine ok_quiet H hb (u := .pointer (some ⟨b0, base + n.toNat * s, none⟩)) ?_ ?_
        · simp [execOp, ho, Instr.indexAt, hαi, asIntOf, run_underlying hu, hu', h0, hlt, run_size' hts, hs, add_none]
        · exact .ept id n.toNat 0 b0 (base + n.toNat * s) hn fun fz' s' xs' hid' => by rw [hid] at hid'; cases hid'; exact ⟨base, hρ, rfl⟩
      · cases h
    · rename_i el id off len hu hex
      split at h
      · rename_i fz s xs hid
        rw [guardP_some] at h
        obtain ⟨⟨h0, hlt, hs⟩, hh⟩ := h
        cases hh
        rw [hex] at hx
        obtain ⟨_, hn, hr⟩ := hx.sub_inv
        obtain ⟨hle2, a, cap, hu', hle, _, hc⟩ := hr fz s xs hid
        obtain ⟨b0, base, c, E, z, hρ, ha, _, _⟩ := hc (by omega)
        subst ha
        have hts : 0 < tsize P el := by
          rcases H.row id fz s xs hid with ⟨hn, _⟩ | ⟨_, _, _, _, _, _, _, _, h0, _⟩
          · rw [hρ] at hn; cases hn
          · omega
        refine ok_quiet H hb (u := .pointer (some ⟨b0, base + (off + n.toNat) * s, none⟩)) ?_ ?_
        · simp [execOp, ho, Instr.indexAt, hαi, asIntOf, run_underlying hu, hu', h0, hlt, run_size' hts, hs, add_none, Nat.add_mul, Nat.add_assoc]
        · exact .ept id (off + n.toNat) 0 b0 (base + (off + n.toNat) * s) hn fun fz' s' xs' hid' => by rw [hid] at hid'; cases hid'; exact ⟨base, hρ, rfl⟩
      · cases h
    · rename_i n' el id off hu hex
      rw [guardP_some] at h
      obtain ⟨⟨h0, hlt, hts⟩, hh⟩ := h
      cases hh
      rw [hex] at hx
      obtain ⟨b0, hu', hn, hr⟩ := hx.ptr_inv
      refine ok_quiet H hb (u := .pointer (some ⟨b0, off + n.toNat * tsize P el, none⟩)) ?_ (.ptr id _ b0 hn hr)
      simp [execOp, ho, Instr.indexAt, hαi, asIntOf, run_underlying hu, hu', Instr.sureAddr, h0, hlt, run_size' hts, add_none]
    · rename_i n' el v' off hu hex
      rw [guardP_some] at h
      obtain ⟨⟨h0, hlt, hts⟩, hh⟩ := h
      cases hh
      rw [hex] at hx
      obtain ⟨b0, o0, hu', hc⟩ := hx.cpt_inv
      refine ok_quiet H hb (u := .pointer (some ⟨b0, o0 + (off + n.toNat * tsize P el), none⟩)) ?_ (.cpt v' _ b0 o0 hc)
      simp [execOp, ho, Instr.indexAt, hαi, asIntOf, run_underlying hu, hu', Instr.sureAddr, h0, hlt, run_size' hts, add_none, Nat.add_assoc]
    · rename_i n' el id j off hu hex
      rw [guardP_some] at h
      obtain ⟨⟨h0, hlt, hts⟩, hh⟩ := h
      cases hh
      rw [hex] at hx
      obtain ⟨b0, o0, hu', hn, hr⟩ := hx.ept_inv
      refine ok_quiet H hb (u := .pointer (some ⟨b0, o0 + (off + n.toNat * tsize P el), none⟩)) ?_ (.ept id j _ b0 o0 hn hr)
      simp [execOp, ho, Instr.indexAt, hαi, asIntOf, run_underlying hu, hu', Instr.sureAddr, h0, hlt, run_size' hts, add_none, Nat.add_assoc]
    · cases h
  · cases h
theorem op_index (H : HOk Γ) (hb : Fresh Γ.n b) (he : ∀ x, VR Γ (e x) (α x)) {t : TypeId} {x i : Operand} (ho : o.op = .index t x i) {v : V} {ws : List (Nat × Ob)} (h : opSem P o.op e Γ.h b = some (v, ws)) : OpOk P o α Γ b v ws := by
  rw [ho] at h
  simp only [opSem] at h
  have hx := he x
  have hi := he i
  split at h
  · rename_i ki n hei
    rw [hei] at hi
    have hαi := hi.int_inv
    split at h
    · rename_i n' el cs hu hex
      simp only [guardP_some, Option.map_eq_some_iff] at h
      obtain ⟨⟨h0, hlt, hts⟩, y, hy, hh⟩ := h
      cases hh
      rw [hex] at hx
      obtain ⟨us, hu', hcr⟩ := hx.agg_inv
      obtain ⟨u, hrun, hv⟩ := readC_part (P := P) hcr hy Γ.w
      refine ok_quiet H hb ?_ hv
      simp [execOp, ho, Instr.index, hαi, asIntOf, run_underlying hu, hu', h0, hlt, run_size' hts, hrun]
    · rename_i s hu hex
      simp only [guardP_some, Option.map_eq_some_iff] at h
      obtain ⟨h0, c, hc, hh⟩ := h
      cases hh
      rw [hex] at hx
      obtain ⟨bs, hu', hbs⟩ := hx.str_inv
      have hg : bs[n.toNat]? = some c := by
        rw [← hbs] at hc
        have hlt := (List.getElem?_eq_some_iff.1 hc).1
        have hlt' : n.toNat < bs.size := by rw [Array.length_toList] at hlt; exact hlt
        rw [getElem?_pos bs n.toNat hlt']
        rw [Array.getElem?_toList] at hc
        rw [← hc]
        exact (Array.getElem?_eq_getElem (by rw [Array.length_toList] at hlt; exact hlt)).symm
      refine ok_quiet H hb (u := .int .u8 c.toNat) ?_ (.pure (.int _ _))
      simp [execOp, ho, Instr.index, hαi, asIntOf, run_underlying hu, hu', h0, hg]
    · cases h
  · cases h
theorem op_extract (H : HOk Γ) (hb : Fresh Γ.n b) (he : ∀ x, VR Γ (e x) (α x)) {x : Operand} {i : Nat} (ho : o.op = .extract x i) {v : V} {ws : List (Nat × Ob)} (h : opSem P o.op e Γ.h b = some (v, ws)) : OpOk P o α Γ b v ws := by
  rw [ho] at h
  simp only [opSem] at h
  have hx := he x
  split at h
  · rename_i vs hex
    simp only [Option.map_eq_some_iff] at h
    obtain ⟨y, hy, hh⟩ := h
    cases hh
    rw [hex] at hx
    obtain ⟨us, hu', hl, hc⟩ := hx.tup_inv
    have hlt : i < us.size := by rw [← hl]; exact (List.getElem?_eq_some_iff.1 hy).1
    refine ok_quiet H hb (u := us[i]) ?_ (hc i _ _ hy (Array.getElem?_eq_getElem hlt))
    simp [execOp, ho, Instr.extract, hu', hlt]
  · cases h
theorem op_small (H : HOk Γ) (hb : Fresh Γ.n b) (he : ∀ x, VR Γ (e x) (α x)) {x : Operand} (ho : o.op = .move x ∨ o.op = .assign x) {v : V} {ws : List (Nat × Ob)} (h : opSem P o.op e Γ.h b = some (v, ws)) : OpOk P o α Γ b v ws := by
  rcases ho with ho | ho <;> (rw [ho] at h; simp only [opSem] at h; cases h; exact ok_quiet H hb (by simp [execOp, ho]) (he x))
theorem op_pick (H : HOk Γ) (hb : Fresh Γ.n b) (he : ∀ x, VR Γ (e x) (α x)) {c x y : Operand} (ho : o.op = .pick c x y) {v : V} {ws : List (Nat × Ob)} (h : opSem P o.op e Γ.h b = some (v, ws)) : OpOk P o α Γ b v ws := by
  rw [ho] at h
  simp only [opSem] at h
  have hc := he c
  split at h
  · rename_i t hec
    cases h
    rw [hec] at hc
    cases t with
    | true => exact ok_quiet H hb (u := α x) (by simp [execOp, ho, hc.bool_inv, asBool]) (by simpa using he x)
    | false => exact ok_quiet H hb (u := α y) (by simp [execOp, ho, hc.bool_inv, asBool]) (by simpa using he y)
  · cases h
theorem op_bin (H : HOk Γ) (hb : Fresh Γ.n b) (he : ∀ x, VR Γ (e x) (α x)) {op : BinOp} {t t' : TypeId} {x y : Operand} (ho : o.op = .binOp op t x y t') {v : V} {ws : List (Nat × Ob)} (h : opSem P o.op e Γ.h b = some (v, ws)) : OpOk P o α Γ b v ws := by
  rw [ho] at h
  simp only [opSem, Option.map_eq_some_iff] at h
  obtain ⟨r, hr, hh⟩ := h
  cases hh
  obtain ⟨u, hrun, hv⟩ := binV_sound (P := P) (ox := x) (oy := y) Γ.w hr rfl (he x) (he y)
  refine ok_quiet H hb ?_ (hv Γ)
  rw [Sem.run_bind] at hrun
  simp only [execOp, ho, Sem.run_bind]
  cases hg : (eqGuard op t x y (α x) (α y)).run P Γ.w with
  | ok a w' => rw [hg] at hrun; simp only [Result.andThen] at hrun ⊢; simp [hrun]
  | halt hh w' => rw [hg] at hrun; simp [Result.andThen] at hrun
theorem op_un (H : HOk Γ) (hb : Fresh Γ.n b) (he : ∀ x, VR Γ (e x) (α x)) {op : UnOp} {t : TypeId} {x : Operand} (ho : o.op = .unOp op t x) {v : V} {ws : List (Nat × Ob)} (h : opSem P o.op e Γ.h b = some (v, ws)) : OpOk P o α Γ b v ws := by
  rw [ho] at h
  simp only [opSem, Option.map_eq_some_iff] at h
  obtain ⟨r, hr, hh⟩ := h
  cases hh
  obtain ⟨u, hrun, hv⟩ := unV_sound (P := P) Γ.w hr (he x)
  exact ok_quiet H hb (by simp [execOp, ho, hrun]) (hv Γ)
theorem op_nilCheck (H : HOk Γ) (hb : Fresh Γ.n b) (he : ∀ x, VR Γ (e x) (α x)) {x : Operand} (ho : o.op = .nilCheck x) {v : V} {ws : List (Nat × Ob)} (h : opSem P o.op e Γ.h b = some (v, ws)) : OpOk P o α Γ b v ws := by
  rw [ho] at h
  simp only [opSem] at h
  have hx := he x
  split at h
  · rename_i id off hex
    cases h
    rw [hex] at hx
    obtain ⟨b0, hu, _⟩ := hx.ptr_inv
    exact ok_quiet H hb (u := α x) (by simp [execOp, ho, hu]) hx
  · rename_i id i off hex
    cases h
    rw [hex] at hx
    obtain ⟨b0, o0, hu, _⟩ := hx.ept_inv
    exact ok_quiet H hb (u := α x) (by simp [execOp, ho, hu]) hx
  · rename_i v off hex
    cases h
    rw [hex] at hx
    obtain ⟨b0, o0, hu, _⟩ := hx.cpt_inv
    exact ok_quiet H hb (u := α x) (by simp [execOp, ho, hu]) hx
  · rename_i f a c hex
    cases h
    rw [hex] at hx
    obtain ⟨ua, uc, hu, _⟩ := hx.fn_inv
    exact ok_quiet H hb (u := α x) (by simp [execOp, ho, hu]) hx
  · rename_i l hex
    cases h
    rw [hex] at hx
    obtain ⟨b0, hu, _⟩ := hx.yld_inv
    exact ok_quiet H hb (u := α x) (by simp [execOp, ho, hu]) hx
  · cases h
theorem op_arrayPtr (H : HOk Γ) (hb : Fresh Γ.n b) (he : ∀ x, VR Γ (e x) (α x)) {t : TypeId} {x : Operand} (ho : o.op = .sliceToArrayPointer t x) {v : V} {ws : List (Nat × Ob)} (h : opSem P o.op e Γ.h b = some (v, ws)) : OpOk P o α Γ b v ws := by
  rw [ho] at h
  simp only [opSem] at h
  have hx := he x
  split at h
  · rename_i n el hu
    rw [guardP_some] at h
    obtain ⟨⟨hn0, hts⟩, h⟩ := h
    split at h
    · rename_i id off len hex
      split at h
      · rename_i cs hid
        rw [guardP_some] at h
        obtain ⟨hle, hh⟩ := h
        cases hh
        rw [hex] at hx
        obtain ⟨b0, cap, hu', _, hn, hc⟩ := hx.vsl_inv
        refine ok_quiet H hb (u := .pointer (some ⟨b0, off, none⟩)) ?_ (.ptr id off b0 hn fun ob hob _ => (hc cs hid).2)
        simp [execOp, ho, Instr.arrayAt, run_underlying hu, hu', show ¬ len < n by omega]
      · cases h
    · rename_i id hex
      split at h
      · rename_i fz s xs hid
        rw [guardP_some] at h
        obtain ⟨hle, hh⟩ := h
        cases hh
        rw [hex] at hx
        obtain ⟨_, hn, hr⟩ := hx.ref_inv
        obtain ⟨a, cap, hu', hle', _, hc⟩ := hr fz s xs hid
        obtain ⟨b0, base, c, E, z, hρ, ha, _, _⟩ := hc (by omega)
        subst ha
        refine ok_quiet H hb (u := .pointer (some ⟨b0, base + 0 * s + 0, none⟩)) ?_ (.ept id 0 0 b0 (base + 0 * s) hn fun fz' s' xs' hid' => by rw [hid] at hid'; cases hid'; exact ⟨base, hρ, rfl⟩)
        simp [execOp, ho, Instr.arrayAt, run_underlying hu, hu', show ¬ xs.length < n by omega]
      · cases h
    · rename_i id off len hex
      split at h
      · rename_i fz s xs hid
        rw [guardP_some] at h
        obtain ⟨hle, hh⟩ := h
        cases hh
        rw [hex] at hx
        obtain ⟨_, hn, hr⟩ := hx.sub_inv
        obtain ⟨hle2, a, cap, hu', hle', _, hc⟩ := hr fz s xs hid
        obtain ⟨b0, base, c, E, z, hρ, ha, _, _⟩ := hc (by omega)
        subst ha
        refine ok_quiet H hb (u := .pointer (some ⟨b0, base + off * s + 0, none⟩)) ?_ (.ept id off 0 b0 (base + off * s) hn fun fz' s' xs' hid' => by rw [hid] at hid'; cases hid'; exact ⟨base, hρ, rfl⟩)
        simp [execOp, ho, Instr.arrayAt, run_underlying hu, hu', show ¬ len < n by omega]
      · cases h
    · cases h
  · cases h
theorem op_makeFunc (H : HOk Γ) (hb : Fresh Γ.n b) (he : ∀ x, VR Γ (e x) (α x)) {f : Fn} {a c : Array Operand} (ho : o.op = .makeFunc f a c) {v : V} {ws : List (Nat × Ob)} (h : opSem P o.op e Γ.h b = some (v, ws)) : OpOk P o α Γ b v ws := by
  rw [ho] at h
  simp only [opSem] at h
  cases h
  have key : ∀ (a : Array Operand) (i : Nat) (c : V) (u : Value), (a.toList.map e)[i]? = some c → (a.map α)[i]? = some u → VR Γ c u := by
    intro a i c u hc hu
    simp only [List.getElem?_map, Array.getElem?_toList, Array.getElem?_map, Option.map_eq_some_iff] at hc hu
    obtain ⟨x, hx, rfl⟩ := hc
    obtain ⟨y, hy, rfl⟩ := hu
    rw [hx] at hy; cases hy
    exact he x
  exact ok_quiet H hb (by simp [execOp, ho, Instr.makeFunc]) (.fn f _ _ (a.map α) (c.map α) (by simp) (by simp) (key a) (key c))
end Go.Sym
set_option linter.unusedVariables false
set_option linter.unusedSimpArgs false
namespace Go.Sym
variable {P : Program} {o : Oper} {α : Operand → Value} {e : Operand → V} {Γ : Cx} {b : Nat}
theorem bound_inv {x : V} {n : Nat} {u : Value} (h : bound x = some n) (hv : VR Γ x u) : ∃ k, u = .int k n := by
  unfold bound at h
  split at h
  · rename_i k i
    simp only [guardP_some, Option.some.injEq] at h
    obtain ⟨h0, rfl⟩ := h
    rw [hv.int_inv]
    exact ⟨k, by rw [Int.toNat_of_nonneg h0]⟩
  · cases h
theorem run_sliceBound {k : IntKind} {n y : Nat} {c : BoundsCode} {w : World} (h : n ≤ y) : (Instr.sliceBound (.int k n) y c).run P w = .ok n w := by
  simp [Instr.sliceBound, asIntOf, h]
theorem opt_VR (he : ∀ x, VR Γ (e x) (α x)) {lo : Option Operand} {d n : Nat} (h : boundD (lo.map e) d = some n) : (lo = none ∧ n = d) ∨ ∃ x k, lo = some x ∧ α x = .int k n := by
  cases lo with
  | none => simp [boundD] at h; exact .inl ⟨rfl, h.symm⟩
  | some x =>
    simp only [Option.map_some, boundD] at h
    obtain ⟨k, hk⟩ := bound_inv h (he x)
    exact .inr ⟨x, k, rfl, hk⟩
theorem run_bounds (he : ∀ x, VR Γ (e x) (α x)) {lo hi mx : Option Operand} {isS : Bool} {len cap l r m : Nat} {w : World}
    (hl : boundD (lo.map e) 0 = some l) (hr : boundD (hi.map e) len = some r) (hm : (mx = none ∧ m = cap) ∨ (∃ x k, mx = some x ∧ α x = .int k m ∧ hi ≠ none)) (h1 : l ≤ r) (h2 : r ≤ m) (h3 : m ≤ cap) (h4 : len ≤ cap) :
    (Instr.sliceBounds isS len cap (lo.map α) (hi.map α) (mx.map α)).run P w = .ok (l, r, m) w := by
  rcases hm with ⟨rfl, rfl⟩ | ⟨xm, km, rfl, hxm, hhi⟩ <;> rcases opt_VR he hr with ⟨rfl, rfl⟩ | ⟨x, k, rfl, hx⟩ <;> rcases opt_VR he hl with ⟨rfl, rfl⟩ | ⟨x', k', rfl, hx'⟩ <;>
    first
      | exact absurd rfl hhi
      | (simp [Instr.sliceBounds, *, run_sliceBound h1, run_sliceBound h2, run_sliceBound h3]; done)
theorem run_sliceAt_slice {t el : TypeId} (ht : P.underlying t = some (.slice el)) (hz : 0 < tsize P el) {a : Option Addr} {len cap l r m : Nat} {lo hi mx : Option Value} {w : World}
    (h : (Instr.sliceBounds true len cap lo hi mx).run P w = .ok (l, r, m) w) :
    (Instr.sliceAt t (.slice a len cap) lo hi mx).run P w = .ok (.slice (if m = l then a else a.map (·.add (l * tsize P el))) (r - l) (m - l)) w := by
  simp [Instr.sliceAt, Instr.slice, run_underlying ht, h, run_size' hz]
theorem op_slice (H : HOk Γ) (hb : Fresh Γ.n b) (he : ∀ x, VR Γ (e x) (α x)) {t : TypeId} {x : Operand} {lo hi mx : Option Operand} (ho : o.op = .slice t x lo hi mx) {v : V} {ws : List (Nat × Ob)} (h : opSem P o.op e Γ.h b = some (v, ws)) : OpOk P o α Γ b v ws := by
  rw [ho] at h
  simp only [opSem] at h
  have hx := he x
  have hexec : ∀ u, (Instr.sliceAt t (α x) (lo.map α) (hi.map α) (mx.map α)).run P Γ.w = .ok u Γ.w → (execOp α o).run P Γ.w = .ok (.value u) Γ.w := by
    intro u hu; simp [execOp, ho, hu]
  split at h
  ·
    rename_i n el id off hu hex
    simp only [Option.bind_eq_some_iff] at h
    obtain ⟨l, hl, r, hr, h⟩ := h
    split at h
    · rename_i cs hid
      rw [guardP_some] at h
      obtain ⟨⟨h1, h2, h3, h4, h5, h6⟩, hh⟩ := h
      cases hh
      subst h4
      rw [hex] at hx
      obtain ⟨b0, hαx, hn, hρ⟩ := hx.ptr_inv
      have hb2 := run_bounds (P := P) (Γ := Γ) (w := Γ.w) (isS := false) (len := n) (cap := n) (m := n) (mx := none) he hl hr (.inl ⟨rfl, rfl⟩) h1 h2 (Nat.le_refl _) (Nat.le_refl _)
      refine ok_quiet H hb (hexec (.slice (some ⟨b0, off + l, none⟩) (r - l) (n - l)) ?_) (.vsl id (off + l) (r - l) b0 (n - l) hn (by omega) fun cs' e => ?_)
      · have hne : ¬ n = l := by omega
        simp only [Option.map_none] at hb2
        have hts : 0 < tsize P el := by omega
        simp [Instr.sliceAt, run_underlying hu, hαx, Instr.sureAddr, hb2, run_size' hts, h5, hne, Addr.add]
      · rw [hid] at e
        cases e
        exact ⟨by omega, hρ _ hid rfl⟩
    · cases h
  · cases h
  simp only [guardP_some, Option.map_eq_some_iff] at h
  obtain ⟨hts, y, hy, hh⟩ := h
  cases hh
  have htel : ∀ sz, sz = ((telem P t).map (tsize P)).getD 0 → 0 < sz → ∃ el, P.underlying t = some (.slice el) ∧ tsize P el = sz := by
    intro sz h1 h2
    cases hel : telem P t with
    | none => simp [hel] at h1; omega
    | some el => simp [hel] at h1; exact ⟨el, telem_inv hel, h1.symm⟩
  unfold sliceV at hy
  split at hy
  ·
    rename_i s hex
    split at hy
    · rename_i hmx
      simp only [Option.bind_eq_some_iff, guardP_some, Option.some.injEq] at hy
      obtain ⟨l, hl, r, hr, ⟨h1, h2, h3⟩, rfl⟩ := hy
      rw [hex] at hx
      obtain ⟨bs, hu, hbs⟩ := hx.str_inv
      have hmx' : mx = none := by cases mx <;> simp_all
      subst hmx'
      have ht : P.underlying t = some .string := by
        unfold tslice at hts; unfold telem at h3
        split at hts
        · assumption
        · rename_i e hu; simp [hu] at h3
        · cases hts
      have hlen : s.length = bs.size := by rw [← hbs, Array.length_toList]; rfl
      have hb2 := run_bounds (P := P) (Γ := Γ) (w := Γ.w) (isS := false) (len := s.length) (cap := s.length) (m := s.length) (mx := none) he hl hr (.inl ⟨rfl, rfl⟩) h1 h2 (Nat.le_refl _) (Nat.le_refl _)
      have e2 : (bs.extract l r).data.toList = (s.drop l).take (r - l) := by
        rw [← hbs]
        simp [List.extract_eq_take_drop]
      refine ok_quiet H hb (hexec (.string (bs.extract l r)) ?_) (by rw [← e2]; exact .pure (.str _))
      simp only [Option.map_none] at hb2
      rw [hlen] at hb2
      simp [Instr.sliceAt, Instr.slice, run_underlying ht, hu, hb2]
    · cases hy
  ·
    rename_i nl cl s xs hex
    simp only [Option.bind_eq_some_iff, guardP_some, Option.some.injEq] at hy
    obtain ⟨l, hl, r, hr, m, hm, ⟨h1, h2, h3, h4, h5, h6⟩, rfl⟩ := hy
    rw [hex] at hx
    obtain ⟨el, ht, hsz⟩ := htel _ rfl h5
    have hsp := hx.sl_inv
    generalize hα : α x = u at hsp
    cases hsp with
    | sl _ _ _ _ a cap hc hclip hnt hnf hnn hs0 hspot hxl hee hvv =>
      obtain ⟨m', hm', hmc, hm2, hm3⟩ : ∃ m', ((mx = none ∧ m' = cap) ∨ (∃ x k, mx = some x ∧ α x = .int k m' ∧ hi ≠ none)) ∧ m' ≤ cap ∧ r ≤ m' ∧ (mx.isSome = true → m' = r) := by
        rcases opt_VR he hm with ⟨rfl, hmd⟩ | ⟨xm, k, rfl, hxm⟩
        · exact ⟨cap, .inl ⟨rfl, rfl⟩, Nat.le_refl _, by omega, by simp⟩
        · subst h3
          have hhi : hi ≠ none := by intro hn; subst hn; simp at h6
          exact ⟨m, .inr ⟨xm, k, rfl, hxm, hhi⟩, by omega, Nat.le_refl _, fun _ => rfl⟩
      have hb2 := run_bounds (P := P) (Γ := Γ) (w := Γ.w) (isS := true) (len := xs.length) (cap := cap) (m := m') (mx := mx) he hl hr hm' h1 hm2 hmc hc
      have hrun := run_sliceAt_slice (P := P) ht (by omega) (a := a) hb2
      rw [← hα] at hrun
      have hlen : ((xs.drop l).take (r - l)).length = r - l := by simp; omega
      refine ok_quiet H hb (hexec _ hrun) (.pure ?_)
      have hget : ∀ (i : Nat) (x : V), ((xs.drop l).take (r - l))[i]? = some x → i < r - l ∧ xs[l + i]? = some x := by
        intro i x hx
        have hi : i < r - l := by have := (List.getElem?_eq_some_iff.1 hx).1; omega
        rw [List.getElem?_take_of_lt hi, List.getElem?_drop] at hx
        exact ⟨hi, hx⟩
      rw [show (.slice (if m' = l then a else a.map (·.add (l * tsize P el))) (r - l) (m' - l) : Value) = .slice (if m' = l then a else a.map (·.add (l * tsize P el))) ((xs.drop l).take (r - l)).length (m' - l) by rw [hlen]]
      have hne : ∀ (i : Nat) (x : V), ((xs.drop l).take (r - l))[i]? = some x → m' ≠ l ∧ s = tsize P el := by
        intro i x hx
        obtain ⟨hi, hx'⟩ := hget i x hx
        refine ⟨by omega, ?_⟩
        rcases h4 with h4 | h4
        · omega
        · rw [List.isEmpty_iff] at h4; subst h4; simp at hx'
      refine .sl nl _ s _ _ _ (by omega) ?_ ?_ ?_ ?_ ?_ ?_ ?_ ?_ ?_
      · intro hcl
        rw [hlen]
        simp only [Bool.or_eq_true, Bool.and_eq_true, Option.isSome_map, Option.isNone_map] at hcl
        rcases hcl with hcl | ⟨hcl, hhi⟩
        · rw [hm3 hcl]
        · have := hclip hcl
          have hhn : hi = none := by cases hi <;> simp_all
          subst hhn
          simp only [Option.map_none, boundD, Option.some.injEq] at hr
          rcases hm' with ⟨_, h⟩ | ⟨_, _, _, _, h⟩
          · omega
          · exact absurd rfl h
      · intro hn; have := hnt hn; subst this; simp
      · intro hn
        have := hnf hn
        split
        · exact this
        · simpa using this
      · intro hn
        split at hn
        · omega
        · have : a = none := by simpa using hn
          have := hnn this; omega
      · intro hne'
        refine hs0 (fun h => hne' (by simp [h]))
      · intro hpos0 ad had
        have hspot := hspot (by omega)
        split at had
        · exact hspot ad had
        · simp only [Option.map_eq_some_iff] at had
          obtain ⟨a0, ha0, rfl⟩ := had
          have := hspot a0 ha0
          obtain ⟨b0, o0, sp⟩ := a0
          simp only at this; subst this
          rw [add_none]
      · intro i x hx
        exact hxl _ x (hget i x hx).2
      · intro ad i x j c had hx hj
        obtain ⟨hi, hx'⟩ := hget i x hx
        obtain ⟨hml, hs⟩ := hne i x hx
        rw [if_neg hml] at had
        simp only [Option.map_eq_some_iff] at had
        obtain ⟨a0, ha0, rfl⟩ := had
        have hsp0 := hspot (by have := (List.getElem?_eq_some_iff.1 hx').1; omega) a0 ha0
        obtain ⟨b0, o0, sp⟩ := a0
        simp only at hsp0; subst hsp0
        have := hee _ (l + i) x j c ha0 hx' hj
        rw [add_none]
        simp only at this ⊢
        rw [show o0 + l * tsize P el + (i * s + j) = o0 + ((l + i) * s + j) by rw [← hs, Nat.add_mul]; omega]
        exact this
      · intro ad i x j c u had hx hj hu
        obtain ⟨hi, hx'⟩ := hget i x hx
        obtain ⟨hml, hs⟩ := hne i x hx
        rw [if_neg hml] at had
        simp only [Option.map_eq_some_iff] at had
        obtain ⟨a0, ha0, rfl⟩ := had
        have hsp0 := hspot (by have := (List.getElem?_eq_some_iff.1 hx').1; omega) a0 ha0
        obtain ⟨b0, o0, sp⟩ := a0
        simp only at hsp0; subst hsp0
        rw [add_none] at hu
        simp only at hu
        rw [show o0 + l * tsize P el + (i * s + j) = o0 + ((l + i) * s + j) by rw [← hs, Nat.add_mul]; omega] at hu
        exact hvv _ (l + i) x j c u ha0 hx' hj hu
  ·
    rename_i id hex
    split at hy
    · rename_i fz s xs hid
      simp only [Option.bind_eq_some_iff, guardP_some, Option.some.injEq] at hy
      obtain ⟨l, hl, r, hr, ⟨h1, h2, h3, h4, h5⟩, rfl⟩ := hy
      rw [hex] at hx
      have hmx : mx = none := by cases mx <;> simp_all
      subst hmx
      obtain ⟨el, ht, hsz⟩ := htel _ rfl h5
      obtain ⟨_, hn, hr0⟩ := hx.ref_inv
      obtain ⟨a, cap, hu, hle, hspot, hca⟩ := hr0 fz s xs hid
      have hb2 := run_bounds (P := P) (Γ := Γ) (w := Γ.w) (isS := true) (len := xs.length) (cap := cap) (m := cap) (mx := none) he hl hr (.inl ⟨rfl, rfl⟩) h1 (by omega) (Nat.le_refl _) hle
      have hrun := run_sliceAt_slice (P := P) ht (by omega) (a := a) hb2
      rw [← hu] at hrun
      refine ok_quiet H hb (hexec _ hrun) (.sub id l (r - l) _ rfl hn fun fz' s' xs' hid' => ?_)
      rw [hid] at hid'; cases hid'
      refine ⟨by omega, _, cap - l, rfl, by omega, ?_, ?_⟩
      · intro hpos0 ad had
        have hspot := hspot (by omega)
        split at had
        · exact hspot ad had
        · simp only [Option.map_eq_some_iff] at had
          obtain ⟨a0, ha0, rfl⟩ := had
          have := hspot a0 ha0
          obtain ⟨b0, o0, sp⟩ := a0
          simp only at this; subst this
          rw [add_none]
      · intro hpos
        obtain ⟨b0, base, c, E, z, hρ, ha, hbl, hcs⟩ := hca (by omega)
        refine ⟨b0, base, c, E, z, hρ, ?_, hbl, ?_⟩
        · rw [if_neg (by omega), ha]
          simp [add_none, h4, hsz]
        · rw [show l + (cap - l) = cap by omega]
          simpa using hcs
    · cases hy
  · rename_i id off len hex
    split at hy
    · rename_i fz s xs hid
      simp only [Option.bind_eq_some_iff, guardP_some, Option.some.injEq] at hy
      obtain ⟨l, hl, r, hr, ⟨h1, h2, h3, h4, h5⟩, rfl⟩ := hy
      rw [hex] at hx
      have hmx : mx = none := by cases mx <;> simp_all
      subst hmx
      obtain ⟨el, ht, hsz⟩ := htel _ rfl h5
      obtain ⟨_, hn, hr0⟩ := hx.sub_inv
      obtain ⟨hlen2, a, cap, hu, hle, hspot, hca⟩ := hr0 fz s xs hid
      have hb2 := run_bounds (P := P) (Γ := Γ) (w := Γ.w) (isS := true) (len := len) (cap := cap) (m := cap) (mx := none) he hl hr (.inl ⟨rfl, rfl⟩) h1 (by omega) (Nat.le_refl _) hle
      have hrun := run_sliceAt_slice (P := P) ht (by omega) (a := a) hb2
      rw [← hu] at hrun
      refine ok_quiet H hb (hexec _ hrun) (.sub id (off + l) (r - l) _ rfl hn fun fz' s' xs' hid' => ?_)
      rw [hid] at hid'; cases hid'
      refine ⟨by omega, _, cap - l, rfl, by omega, ?_, ?_⟩
      · intro hpos0 ad had
        have hspot := hspot (by omega)
        split at had
        · exact hspot ad had
        · simp only [Option.map_eq_some_iff] at had
          obtain ⟨a0, ha0, rfl⟩ := had
          have := hspot a0 ha0
          obtain ⟨b0, o0, sp⟩ := a0
          simp only at this; subst this
          rw [add_none]
      · intro hpos
        obtain ⟨b0, base, c, E, z, hρ, ha, hbl, hcs⟩ := hca (by omega)
        refine ⟨b0, base, c, E, z, hρ, ?_, hbl, ?_⟩
        · rw [if_neg (by omega), ha]
          simp [add_none, h4, hsz, Nat.add_mul, Nat.add_assoc]
        · rw [show off + l + (cap - l) = off + cap by omega]
          exact hcs
    · cases hy
  · cases hy
theorem lenV_sound (H : HOk Γ) {x : V} {u : Value} {n : Nat} (h : lenV Γ.h x = some n) (hv : VR Γ x u) : ∃ a cap, u = .slice a n cap := by
  unfold lenV at h
  split at h
  · cases h
    cases hv.sl_inv
    exact ⟨_, _, rfl⟩
  · split at h
    · rename_i fz s xs hid
      cases h
      obtain ⟨a, cap, hu, _⟩ := hv.ref_inv.2.2 _ _ _ hid
      exact ⟨a, cap, hu⟩
    · cases h
  · split at h
    · rename_i fz s xs hid
      cases h
      obtain ⟨_, a, cap, hu, _⟩ := hv.sub_inv.2.2 _ _ _ hid
      exact ⟨a, cap, hu⟩
    · cases h
  · split at h
    · cases h
      obtain ⟨b0, cap, hu, _⟩ := hv.vsl_inv
      exact ⟨_, cap, hu⟩
    · cases h
  · cases h
theorem toList_one {A : Type} {a : Array A} {x : A} (h : a.toList = [x]) : a = #[x] := by
  apply Array.ext'; simpa using h
theorem toList_two {A : Type} {a : Array A} {x y : A} (h : a.toList = [x, y]) : a = #[x, y] := by
  apply Array.ext'; simpa using h
theorem bytesWorld_eq (w : World) (el : TypeId) (s : ByteArray) : Lib.bytesWorld w el s = w.drew.alloc (.cells (Lib.bytesCells w el s) el ((Lib.bytesCells w el s).size, (Lib.bytesCells w el s).size + 1)) := by
  have hh : (Lib.bytesWorld w el s).heap = (w.drew.alloc (.cells (Lib.bytesCells w el s) el ((Lib.bytesCells w el s).size, (Lib.bytesCells w el s).size + 1))).heap := by
    apply Array.ext_getElem?
    intro k
    rcases Nat.lt_trichotomy k w.heap.size with h | h | h
    · rw [Lib.bytesWorld_at_old w el s k h]; exact (alloc_block w.drew _ k h).symm
    · subst h; rw [Lib.bytesWorld_at_new]; exact (alloc_new w.drew _).symm
    · rw [Array.getElem?_eq_none (by rw [Lib.bytesWorld_size]; omega), Array.getElem?_eq_none (by simp; omega)]
  have h2 : ∀ a b : World, a.heap = b.heap → a.tape = b.tape → a.drawn = b.drawn → a.os = b.os → a.output = b.output → a = b := by
    intro a b; cases a; cases b; simp_all
  refine h2 _ _ hh ?_ ?_ ?_ ?_ <;> (unfold Lib.bytesWorld World.freeze; rw [if_neg (by omega)]; rfl)
end Go.Sym
set_option linter.unusedVariables false
set_option linter.unusedSimpArgs false
namespace Go.Sym
variable {P : Program} {o : Oper} {α : Operand → Value} {e : Operand → V} {Γ : Cx} {b : Nat}
theorem exec_builtin {bi : Builtin} {args : Array Operand} {tys : Array TypeId} (ho : o.op = .call { callee := .builtin bi, args := args, argTypes := tys }) (w : World) :
    ∃ consts, (execOp α o).run P w = (builtin bi tys o.type consts (args.map α)).run P w := by
  have h : (execOp α o).run P w = (builtin bi tys o.type (args.map fun x => match x with | .const _ => true | _ => false) (args.map α)).run P w := by
    simp [execOp, ho, resolve, invoke]
    rfl
  exact ⟨_, h⟩
theorem op_len (H : HOk Γ) (hb : Fresh Γ.n b) (he : ∀ x, VR Γ (e x) (α x)) {args : Array Operand} {tys : Array TypeId} (ho : o.op = .call { callee := .builtin .len, args := args, argTypes := tys }) {v : V} {ws : List (Nat × Ob)} (h : opSem P o.op e Γ.h b = some (v, ws)) : OpOk P o α Γ b v ws := by
  rw [ho] at h
  simp only [opSem] at h
  have key : ∀ (n : Nat), (Builtin.len_ tys o.type (args.map α)).run P Γ.w = .ok (.int .i64 n) Γ.w → (v, ws) = (V.int .i64 n, []) → OpOk P o α Γ b v ws := by
    intro n hr hh
    cases hh
    refine ok_quiet H hb (u := .int .i64 n) ?_ (.pure (.int _ _))
    obtain ⟨consts, hexb⟩ := exec_builtin (P := P) (α := α) ho Γ.w
    rw [hexb]
    simp [builtin, hr]
  split at h
  · rename_i t ht
    have ht := toList_one ht
    split at h
    · rename_i n el hu
      split at h
      · rename_i x hx
        have hx := toList_one hx
        exact key n (by simp [ht, hx, Builtin.len_, run_underlying hu, goInt]) (by cases h; rfl)
      · cases h
    · rename_i hu
      split at h
      · rename_i x hx
        have hx := toList_one hx
        have hex := he x
        split at h
        · rename_i s hs
          rw [hs] at hex
          obtain ⟨bs, hα, hbs⟩ := hex.str_inv
          have hlen : bs.size = s.length := by rw [← hbs, Array.length_toList]; rfl
          exact key s.length (by simp [ht, hx, Builtin.len_, run_underlying hu, goInt, hα, hlen]) (by cases h; rfl)
        · cases h
      · cases h
    · rename_i el hu
      split at h
      · rename_i x hx
        have hx := toList_one hx
        simp only [Option.map_eq_some_iff] at h
        obtain ⟨n, hn, hh⟩ := h
        obtain ⟨a, cap, hα⟩ := lenV_sound H hn (he x)
        exact key n (by simp [ht, hx, Builtin.len_, run_underlying hu, goInt, hα]) hh.symm
      · cases h
    · cases h
  · cases h
theorem op_cap (H : HOk Γ) (hb : Fresh Γ.n b) (he : ∀ x, VR Γ (e x) (α x)) {args : Array Operand} {tys : Array TypeId} (ho : o.op = .call { callee := .builtin .cap, args := args, argTypes := tys }) {v : V} {ws : List (Nat × Ob)} (h : opSem P o.op e Γ.h b = some (v, ws)) : OpOk P o α Γ b v ws := by
  rw [ho] at h
  simp only [opSem] at h
  split at h
  · rename_i t x ht hx
    have ht := toList_one ht
    have hx := toList_one hx
    split at h
    · rename_i el nl s xs hu hex
      cases h
      have hv := he x
      rw [hex] at hv
      have hp := hv.sl_inv
      generalize hα : α x = u0 at hp
      cases hp with
      | sl _ _ _ _ a cap hc hclip hnt hnf hnn hs0 hspot hxl hee hvv =>
        have hcap : cap = xs.length := hclip rfl
        refine ok_quiet H hb (u := .int .i64 (xs.length : Int)) ?_ (.pure (.int _ _))
        obtain ⟨consts, hexb⟩ := exec_builtin (P := P) (α := α) ho Γ.w
        rw [hexb]
        simp [builtin, ht, hx, Builtin.cap_, run_underlying hu, goInt, hα, hcap]
    · cases h
  · cases h
theorem op_max (H : HOk Γ) (hb : Fresh Γ.n b) (he : ∀ x, VR Γ (e x) (α x)) {args : Array Operand} {tys : Array TypeId} (ho : o.op = .call { callee := .builtin .max, args := args, argTypes := tys }) {v : V} {ws : List (Nat × Ob)} (h : opSem P o.op e Γ.h b = some (v, ws)) : OpOk P o α Γ b v ws := by
  rw [ho] at h
  simp only [opSem] at h
  split at h
  · rename_i x y hxy
    have hxy := toList_two hxy
    split at h
    · rename_i k m k' n hx hy
      cases h
      have h1 := he x
      have h2 := he y
      rw [hx] at h1
      rw [hy] at h2
      refine ok_quiet H hb (u := .int k (if m < n then n else m)) ?_ (.pure (.int _ _))
      obtain ⟨consts, hexb⟩ := exec_builtin (P := P) (α := α) ho Γ.w
      rw [hexb]
      simp [builtin, hxy, h1.int_inv, h2.int_inv, Builtin.max_, Builtin.max2]
    · cases h
  · cases h
theorem op_min (H : HOk Γ) (hb : Fresh Γ.n b) (he : ∀ x, VR Γ (e x) (α x)) {args : Array Operand} {tys : Array TypeId} (ho : o.op = .call { callee := .builtin .min, args := args, argTypes := tys }) {v : V} {ws : List (Nat × Ob)} (h : opSem P o.op e Γ.h b = some (v, ws)) : OpOk P o α Γ b v ws := by
  rw [ho] at h
  simp only [opSem] at h
  split at h
  · rename_i x y hxy
    have hxy := toList_two hxy
    split at h
    · rename_i k m k' n hx hy
      cases h
      have h1 := he x
      have h2 := he y
      rw [hx] at h1
      rw [hy] at h2
      refine ok_quiet H hb (u := .int k (if n < m then n else m)) ?_ (.pure (.int _ _))
      obtain ⟨consts, hexb⟩ := exec_builtin (P := P) (α := α) ho Γ.w
      rw [hexb]
      simp [builtin, hxy, h1.int_inv, h2.int_inv, Builtin.min_, Builtin.min2]
    · cases h
  · cases h
theorem fold_wr (us : List Value) : ∀ (c : Array Value) (off k : Nat), (us.zipIdx k).foldl (fun cs (x : Value × Nat) => cs.setIfInBounds (off + x.2) x.1) c = wr c (off + k) us := by
  induction us with
  | nil => intro c off k; rfl
  | cons u r ih => intro c off k; simp only [List.zipIdx_cons, List.foldl_cons, wr]; rw [ih]; rfl
theorem fold_arr (us : Array Value) (c : Array Value) (off : Nat) : us.zipIdx.foldl (fun cs x => cs.setIfInBounds (off + x.2) x.1) c = wr c off us.toList := by
  rw [← Array.foldl_toList, Array.toList_zipIdx, fold_wr]; rfl
theorem wr_cells {cs vs cs' : List V} {us xs : Array Value} {off : Nat} (h : CellsR Γ cs us) (hx : CellsR Γ vs xs) (hw : writeC cs off vs = some cs') : CellsR Γ cs' (wr us off xs.toList) := by
  obtain ⟨hle, hlen, hget⟩ := writeC_get hw
  obtain ⟨hl, h1, hv⟩ := h
  obtain ⟨hl2, h12, hv2⟩ := hx
  have hxl : xs.toList.length = vs.length := by rw [Array.length_toList]; omega
  have hwr : ∀ k, (wr us off xs.toList)[k]? = if off ≤ k ∧ k < off + vs.length then xs[k - off]? else us[k]? := by
    intro k; rw [wr_get _ _ _ _ (by omega), hxl]; simp
  refine ⟨by rw [wr_size]; omega, ?_, ?_⟩
  · intro i u hu
    rw [hwr] at hu
    split at hu
    · exact h12 _ u hu
    · exact h1 _ u hu
  · intro i c u hc hu
    rw [hwr] at hu
    rw [hget] at hc
    split at hu
    · rw [if_pos (by assumption)] at hc; exact hv2 _ c u hc hu
    · rw [if_neg (by assumption)] at hc; exact hv _ c u hc hu
theorem fill_sound {pl : Nat → Option (Nat × Nat)} : ∀ (ps : List (Nat × Operand)) {cs cs' : List V} {us : Array Value}, (∀ x, VR Γ (e x) (α x)) → CellsR Γ cs us → fillV pl cs (ps.map fun p => (p.1, e p.2)) = some cs' →
    ∃ us', Instr.fill pl us (ps.map fun p => (p.1, α p.2)) = some us' ∧ CellsR Γ cs' us' := by
  intro ps
  induction ps with
  | nil => intro cs cs' us he h hf; simp [fillV] at hf; subst hf; exact ⟨us, rfl, h⟩
  | cons p r ih =>
    intro cs cs' us he h hf
    simp only [List.map_cons, fillV] at hf
    split at hf
    · rename_i off size hpl
      simp only [guardP_some, Option.bind_eq_some_iff] at hf
      obtain ⟨⟨hs, hsz⟩, cs1, hw, hf⟩ := hf
      have hc := (he p.2).cells hs
      have h1 := wr_cells h hc hw
      obtain ⟨us', hfi, hr⟩ := ih he h1 hf
      obtain ⟨hle, _, _⟩ := writeC_get hw
      refine ⟨us', ?_, hr⟩
      simp only [List.map_cons, Instr.fill, hpl]
      have hh1 : (α p.2).cells.size = size := by rw [← hc.1]; exact hsz
      have hh2 : ¬ (off + (α p.2).cells.size > us.size) := by rw [← hc.1, ← h.1]; omega
      rw [if_neg (by simp [hh1]; omega)]
      have := fold_arr (α p.2).cells us off
      rw [this]
      exact hfi
    · cases hf
theorem run_mapM_list {A B : Type} (g : A → Sem B) (r : A → B) (w : World) : ∀ (l : List A), (∀ a ∈ l, (g a).run P w = .ok (r a) w) → (l.mapM g).run P w = .ok (l.map r) w := by
  intro l
  induction l with
  | nil => intro _; simp
  | cons a l ih =>
    intro h
    have h1 := h a (by simp)
    have h2 := ih fun g hg => h g (by simp [hg])
    simp [h1, h2]
theorem run_mapM_arr {A B : Type} (g : A → Sem B) (r : A → B) (w : World) (l : Array A) (h : ∀ a ∈ l.toList, (g a).run P w = .ok (r a) w) : (l.mapM g).run P w = .ok (l.toList.map r).toArray w := by
  rw [Array.mapM_eq_mapM_toList]
  simp [run_mapM_list g r w l.toList h]
theorem op_build (H : HOk Γ) (hb : Fresh Γ.n b) (he : ∀ x, VR Γ (e x) (α x)) {t : TypeId} {ps : Array (Nat × Operand)} (ho : o.op = .build t ps) {v : V} {ws : List (Nat × Ob)} (h : opSem P o.op e Γ.h b = some (v, ws)) : OpOk P o α Γ b v ws := by
  rw [ho] at h
  simp only [opSem, guardP_some, Option.bind_eq_some_iff, Option.map_eq_some_iff] at h
  obtain ⟨hp, z, hz, hsol, cs, hf, hh⟩ := h
  cases hh
  obtain ⟨i, zv, hi, hzv, rfl, hrun⟩ := tzero_inv (w := Γ.w) hz
  have hp' := hp
  unfold partsOk at hp
  have hcells : ∀ us', Instr.fill (place P t) zv.cells (ps.toList.map fun p => (p.1, α p.2)) = some us' → (Instr.build t (ps.map fun p => (p.1, α p.2))).run P Γ.w = .ok (.agg us') Γ.w := by
    intro us' hfi
    split at hp
    · rename_i fs hu
      rw [List.all_eq_true] at hp
      have hpl : (fun i => ((fs.toList.map fun f => (f.offset, tsize P f.type)).toArray)[i]?) = place P t := by
        funext i; simp [place, hu]
      simp only [Instr.build, Sem.run_bind, hrun, Result.andThen_ok, run_underlying hu]
      rw [run_mapM_arr _ (fun f => (f.offset, tsize P f.type)) _ fs (fun f hf => by
        have := run_size' (P := P) (w := Γ.w) (show 0 < tsize P f.type by simpa using hp f hf)
        simp [this])]
      simp only [Result.andThen_ok]
      rw [show (ps.map fun p => (p.1, α p.2)).toList = ps.toList.map fun p => (p.1, α p.2) by simp]
      simp only [hpl]
      simp [hfi]
    · rename_i n el hu
      have hts : 0 < tsize P el := by simpa using hp
      have hpl : (fun i => some (i * tsize P el, tsize P el)) = place P t := by funext i; simp [place, hu]
      simp only [Instr.build, Sem.run_bind, hrun, Result.andThen_ok, run_underlying hu, run_size' hts, hpl]
      rw [show (ps.map fun p => (p.1, α p.2)).toList = ps.toList.map fun p => (p.1, α p.2) by simp]
      simp [hfi]
    · cases hp
  obtain ⟨us', hfi, hr⟩ := fill_sound ps.toList he ((VR_const Γ zv).cells hsol) hf
  refine ok_quiet H hb (u := .agg us') ?_ (.agg _ _ hr.1 hr.2.1 hr.2.2)
  have := hcells us' hfi
  simp [execOp, ho, this]
end Go.Sym
set_option linter.unusedVariables false
set_option linter.unusedSimpArgs false
namespace Go.Sym
variable {P : Program} {o : Oper} {α : Operand → Value} {e : Operand → V} {Γ : Cx} {b : Nat}
theorem run_loadCells_cells (P : Program) {b o m : Nat} {w : World} (h : ∀ k, k < m → ∃ u, w.cell? ⟨b, o + k, none⟩ = some u) :
    ∃ arr : Array Value, (loadCells ⟨b, o, none⟩ m).run P w = .ok arr w ∧ arr.size = m ∧ ∀ k, k < m → arr[k]? = w.cell? ⟨b, o + k, none⟩ := by
  cases m with
  | zero => exact ⟨#[], by simp [loadCells, loadCellsFrom], rfl, by omega⟩
  | succ m =>
    obtain ⟨c, E, z, hb⟩ : ∃ c E z, w.heap[b]? = some (.cells c E z) := by
      obtain ⟨u, hu⟩ := h 0 (by omega)
      unfold World.cell? at hu
      split at hu
      · exact ⟨_, _, _, by assumption⟩
      · cases hu
    have hcell : ∀ k, w.cell? ⟨b, o + k, none⟩ = c[o + k]? := fun k => by simp [World.cell?, hb]
    have hsz : o + (m + 1) ≤ c.size := by
      obtain ⟨u, hu⟩ := h m (by omega)
      rw [hcell] at hu
      have := (Array.getElem?_eq_some_iff.1 hu).1
      omega
    exact ⟨_, run_loadCells P hb hsz, ext_size _ _ _ hsz, fun k hk => by rw [ext_get _ _ _ _ hsz, if_pos hk, hcell]⟩
def RowE (w : World) (Z : Nat → Nat → Prop) (s : Nat) (xs : List V) (c : Array Value) : Prop :=
  c.size = xs.length * s ∧ (∀ (j : Nat) (u : Value), c[j]? = some u → u.oneCell = true) ∧ (∀ (i : Nat) (x : V), xs[i]? = some x → x.cells.length = s) ∧
    ∀ (i : Nat) (x : V) (j : Nat) (y : V) (u : Value), xs[i]? = some x → x.cells[j]? = some y → c[i * s + j]? = some u → VP w Z y u
theorem RowE.nil (w : World) (Z : Nat → Nat → Prop) (s : Nat) : RowE w Z s [] #[] := ⟨by simp, by simp, by simp, by simp⟩
theorem RowE.append {w : World} {Z : Nat → Nat → Prop} {s : Nat} {xs ys : List V} {c d : Array Value} (h : RowE w Z s xs c) (k : RowE w Z s ys d) : RowE w Z s (xs ++ ys) (c ++ d) := by
  obtain ⟨h1, h2, h3, h4⟩ := h
  obtain ⟨k1, k2, k3, k4⟩ := k
  refine ⟨by simp [h1, k1, Nat.add_mul], ?_, ?_, ?_⟩
  · intro j u hu
    rw [Array.getElem?_append] at hu
    split at hu
    · exact h2 _ u hu
    · exact k2 _ u hu
  · intro i x hx
    rw [List.getElem?_append] at hx
    split at hx
    · exact h3 _ x hx
    · exact k3 _ x hx
  · intro i x j y u hx hy hu
    have hj : j < s := by
      have hlt := (List.getElem?_eq_some_iff.1 hy).1
      rw [List.getElem?_append] at hx
      split at hx
      · rw [h3 _ x hx] at hlt; exact hlt
      · rw [k3 _ x hx] at hlt; exact hlt
    rw [List.getElem?_append] at hx
    split at hx
    · rename_i hi
      have : (i + 1) * s ≤ xs.length * s := Nat.mul_le_mul_right s hi
      rw [Nat.add_mul, Nat.one_mul] at this
      rw [Array.getElem?_append_left (by omega)] at hu
      exact h4 i x j y u hx hy hu
    · rename_i hi
      have e1 : i * s = xs.length * s + (i - xs.length) * s := by rw [← Nat.add_mul]; congr 1; omega
      rw [Array.getElem?_append_right (by omega)] at hu
      rw [show i * s + j - c.size = (i - xs.length) * s + j by omega] at hu
      exact k4 _ x j y u hx hy hu
theorem RowE.toC {w : World} {Z : Nat → Nat → Prop} {s : Nat} {xs : List V} {c d : Array Value} (h : RowE w Z s xs c) (hs : 0 < s) (hd : ∀ (j : Nat) (u : Value), d[j]? = some u → u.oneCell = true) : RowC w Z s xs (c ++ d) := by
  obtain ⟨h1, h2, h3, h4⟩ := h
  refine ⟨hs, by simp [h1], ?_, h3, ?_⟩
  · intro j u hu
    rw [Array.getElem?_append] at hu
    split at hu
    · exact h2 _ u hu
    · exact hd _ u hu
  · intro i x j y u hx hy hu
    have hi := (List.getElem?_eq_some_iff.1 hx).1
    have hj : j < s := by rw [← h3 i x hx]; exact (List.getElem?_eq_some_iff.1 hy).1
    have : (i + 1) * s ≤ xs.length * s := Nat.mul_le_mul_right s hi
    rw [Nat.add_mul, Nat.one_mul] at this
    rw [Array.getElem?_append_left (by omega)] at hu
    exact h4 i x j y u hx hy hu
theorem cell_heap {w w' : World} (h : w'.heap = w.heap) (a : Addr) : w'.cell? a = w.cell? a := by simp [World.cell?, h]
theorem flat_VP {Γ : Cx} {v : V} {u : Value} (hf : flat1 v = true) (h : VR Γ v u) : VP Γ.w Γ.Z v u := by
  cases h with
  | pure h => exact h
  | _ => cases hf
theorem src_cells (H : HOk Γ) {x : V} {u : Value} {s sz : Nat} {ys : List V} (hv : VR Γ x u) (h : elems Γ.h x = some (s, ys)) (hsz : s = sz ∨ ys = []) :
    ∃ a cap, u = .slice a ys.length cap ∧ ∃ arr, (∀ w' : World, w'.heap = Γ.w.heap → (Builtin.firstCells sz ys.length u).run P w' = .ok arr w') ∧ RowE Γ.w Γ.Z sz ys arr := by
  by_cases hne : ys = []
  · subst hne
    obtain ⟨a, cap, hu⟩ : ∃ a cap, u = .slice a 0 cap := by
      unfold elems at h
      split at h
      · simp only [Option.some.injEq, Prod.mk.injEq] at h
        obtain ⟨rfl, rfl⟩ := h
        cases hv.sl_inv; exact ⟨_, _, rfl⟩
      · split at h
        · rename_i fz s' xs hid
          simp only [Option.some.injEq, Prod.mk.injEq] at h
          obtain ⟨rfl, rfl⟩ := h
          obtain ⟨a, cap, hu, _⟩ := hv.ref_inv.2.2 _ _ _ hid
          exact ⟨a, cap, hu⟩
        · cases h
      · rename_i id off len
        split at h
        · rename_i fz s' xs hid
          simp only [Option.some.injEq, Prod.mk.injEq] at h
          obtain ⟨rfl, he⟩ := h
          obtain ⟨hle, a, cap, hu, _⟩ := hv.sub_inv.2.2 _ _ _ hid
          have : len = 0 := by
            have := congrArg List.length he
            simp at this; omega
          subst this
          exact ⟨a, cap, hu⟩
        · cases h
      · rename_i id off len
        split at h
        · rename_i cs hid
          rw [guardP_some] at h
          obtain ⟨_, h⟩ := h
          simp only [Option.some.injEq, Prod.mk.injEq] at h
          obtain ⟨_, he⟩ := h
          obtain ⟨b0, cap, hu, hle, _, hc⟩ := hv.vsl_inv
          have hl := (hc _ hid).1
          have : len = 0 := by
            have := congrArg List.length he
            simp at this; omega
          subst this
          exact ⟨_, cap, hu⟩
        · cases h
      · cases h
    refine ⟨a, cap, hu, #[], fun w' hw' => ?_, RowE.nil _ _ _⟩
    subst hu
    cases a <;> simp [Builtin.firstCells, loadCells, loadCellsFrom]
  · have hs : s = sz := hsz.resolve_right hne
    subst hs
    have hpos : 0 < ys.length := List.length_pos_iff.2 hne
    obtain ⟨b0, o0, cap, hu, hcells⟩ : ∃ b0 o0 cap, u = .slice (some ⟨b0, o0, none⟩) ys.length cap ∧ ∀ (i : Nat) (x : V), ys[i]? = some x → x.cells.length = s ∧ ∀ (j : Nat) (c : V), x.cells[j]? = some c →
        ∃ u' : Value, Γ.w.cell? ⟨b0, o0 + i * s + j, none⟩ = some u' ∧ u'.oneCell = true ∧ VP Γ.w Γ.Z c u' := by
      unfold elems at h
      split at h
      · rename_i nl cl s' xs
        simp only [Option.some.injEq, Prod.mk.injEq] at h
        obtain ⟨rfl, rfl⟩ := h
        have hp := hv.sl_inv
        obtain ⟨b0, o0, cap, hu, _⟩ := VP_row_elem hp (i := 0) (List.getElem?_eq_getElem hpos)
        refine ⟨b0, o0, cap, hu, fun i x hx => ?_⟩
        obtain ⟨b1, o1, cap1, hu1, hl, hc⟩ := VP_row_elem hp hx
        rw [hu] at hu1; cases hu1
        exact ⟨hl, fun j c hj => (hc j c hj).2⟩
      · split at h
        · rename_i fz s' xs hid
          simp only [Option.some.injEq, Prod.mk.injEq] at h
          obtain ⟨rfl, rfl⟩ := h
          obtain ⟨a, cap, hu, hle, _, hc⟩ := hv.ref_inv.2.2 _ _ _ hid
          obtain ⟨b0, base, c, E, z, hρ, ha, _, _⟩ := hc (by omega)
          subst ha
          refine ⟨b0, base, cap, by simpa using hu, fun i x hx => row_cells H hid hρ hx⟩
        · cases h
      · rename_i id off len
        split at h
        · rename_i fz s' xs hid
          simp only [Option.some.injEq, Prod.mk.injEq] at h
          obtain ⟨rfl, rfl⟩ := h
          obtain ⟨hle2, a, cap, hu, hle, _, hc⟩ := hv.sub_inv.2.2 _ _ _ hid
          have hlen : ((xs.drop off).take len).length = len := by simp; omega
          obtain ⟨b0, base, c, E, z, hρ, ha, _, _⟩ := hc (by omega)
          subst ha
          refine ⟨b0, base + off * s', cap, by rw [hlen]; exact hu, fun i x hx => ?_⟩
          have hi : i < len := by have := (List.getElem?_eq_some_iff.1 hx).1; omega
          rw [List.getElem?_take_of_lt hi, List.getElem?_drop] at hx
          obtain ⟨h1, h2⟩ := row_cells H hid hρ hx
          refine ⟨h1, fun j c hj => ?_⟩
          rw [show base + off * s' + i * s' + j = base + (off + i) * s' + j by rw [Nat.add_mul]; omega]
          exact h2 j c hj
        · cases h
      · rename_i id off len
        split at h
        · rename_i cs hid
          rw [guardP_some] at h
          obtain ⟨hall, h⟩ := h
          simp only [Option.some.injEq, Prod.mk.injEq] at h
          obtain ⟨rfl, rfl⟩ := h
          obtain ⟨b0, cap, hu, hle, _, hc⟩ := hv.vsl_inv
          obtain ⟨hl, hρ⟩ := hc _ hid
          have hlen : ((cs.drop off).take len).length = len := by simp; omega
          obtain ⟨b1, c, E, z, hρ', hb1, _, hsz, h1c, hvc⟩ := H.var _ _ hid
          rw [hρ] at hρ'
          cases hρ'
          refine ⟨b0, off, cap, by rw [hlen]; exact hu, fun i x hx => ?_⟩
          have hf := List.all_eq_true.1 hall x (List.mem_of_getElem? hx)
          have hi : i < len := by have := (List.getElem?_eq_some_iff.1 hx).1; omega
          rw [List.getElem?_take_of_lt hi, List.getElem?_drop] at hx
          have hcl : x.cells = [x] := by
            cases x <;> first | rfl | cases hf
          refine ⟨by rw [hcl]; rfl, fun j y hj => ?_⟩
          rw [hcl] at hj
          have hj0 : j = 0 := by
            have := (List.getElem?_eq_some_iff.1 hj).1
            simp at this; exact this
          subst hj0
          cases hj
          have hlt : off + i < c.size := by omega
          refine ⟨c[off + i], ?_, h1c (off + i) _ (Array.getElem?_eq_getElem hlt), ?_⟩
          · simp [World.cell?, hb1, Nat.mul_one, hlt]
          · have hvr := hvc (off + i) x c[off + i] hx (Array.getElem?_eq_getElem hlt)
            exact flat_VP hf hvr
        · cases h
      · cases h
    have hs0 : 0 < s ∨ s = 0 := by omega
    have hall : ∀ k, k < ys.length * s → ∃ u', Γ.w.cell? ⟨b0, o0 + k, none⟩ = some u' := by
      intro k hk
      have h0 : 0 < s := by
        rcases hs0 with h | h
        · exact h
        · subst h; simp at hk
      have hi : k / s < ys.length := Nat.div_lt_of_lt_mul (by rw [Nat.mul_comm]; exact hk)
      obtain ⟨hl, hc⟩ := hcells (k / s) ys[k / s] (List.getElem?_eq_getElem hi)
      have hj : k % s < (ys[k / s]).cells.length := by rw [hl]; exact Nat.mod_lt _ h0
      obtain ⟨u', hu', _⟩ := hc (k % s) _ (List.getElem?_eq_getElem hj)
      refine ⟨u', ?_⟩
      rw [← hu']
      have := Nat.div_add_mod k s
      rw [Nat.mul_comm] at this
      congr 2; omega
    obtain ⟨arr, hrun, hsize, hget⟩ := run_loadCells_cells P (w := Γ.w) hall
    refine ⟨_, cap, hu, arr, fun w' hw' => ?_, hsize, ?_, fun i x hx => (hcells i x hx).1, ?_⟩
    · obtain ⟨arr', hrun', hsize', hget'⟩ := run_loadCells_cells P (w := w') (b := b0) (o := o0) (m := ys.length * s) (fun k hk => by rw [cell_heap hw']; exact hall k hk)
      have : arr' = arr := by
        apply Array.ext_getElem?
        intro k
        by_cases hk : k < ys.length * s
        · rw [hget k hk, hget' k hk, cell_heap hw']
        · rw [Array.getElem?_eq_none (by omega), Array.getElem?_eq_none (by omega)]
      subst hu
      simp [Builtin.firstCells, hrun', this]
    · intro k u' hu'
      have hk : k < ys.length * s := by rw [← hsize]; exact (Array.getElem?_eq_some_iff.1 hu').1
      have h0 : 0 < s := by
        rcases hs0 with h | h
        · exact h
        · subst h; simp at hk
      rw [hget k hk] at hu'
      have hi : k / s < ys.length := Nat.div_lt_of_lt_mul (by rw [Nat.mul_comm]; exact hk)
      obtain ⟨hl, hc⟩ := hcells (k / s) ys[k / s] (List.getElem?_eq_getElem hi)
      have hj : k % s < (ys[k / s]).cells.length := by rw [hl]; exact Nat.mod_lt _ h0
      obtain ⟨u2, hu2, h1, _⟩ := hc (k % s) _ (List.getElem?_eq_getElem hj)
      have := Nat.div_add_mod k s
      rw [Nat.mul_comm] at this
      rw [show o0 + k / s * s + k % s = o0 + k by omega, hu'] at hu2
      cases hu2; exact h1
    · intro i x j y u' hx hy hu'
      obtain ⟨hl, hc⟩ := hcells i x hx
      have hi := (List.getElem?_eq_some_iff.1 hx).1
      have hj : j < s := by rw [← hl]; exact (List.getElem?_eq_some_iff.1 hy).1
      have : (i + 1) * s ≤ ys.length * s := Nat.mul_le_mul_right s hi
      rw [Nat.add_mul, Nat.one_mul] at this
      rw [hget _ (by omega)] at hu'
      obtain ⟨u2, hu2, _, hv2⟩ := hc j y hy
      rw [Nat.add_assoc, hu'] at hu2
      cases hu2; exact hv2
theorem growBy_le (newLen : Nat) : ∀ (r c : Nat), 256 ≤ c → c ≤ 2 * newLen → Builtin.growBy newLen r c ≤ 2 * newLen := by
  intro r
  induction r with
  | zero => intro c _ h; exact h
  | succ r ih =>
    intro c h1 h2
    rw [Builtin.growBy]
    split
    · exact h2
    · exact ih _ (by omega) (by omega)
theorem next_le {need cap : Nat} (h : cap < need) : Builtin.nextslicecap need cap ≤ 2 * need := by
  unfold Builtin.nextslicecap
  split
  · omega
  · split
    · omega
    · exact growBy_le _ _ _ (by omega) (by omega)
theorem zeroCells_one {zero : Array Value} (hz : ∀ (i : Nat) (u : Value), zero[i]? = some u → u.oneCell = true) (n j : Nat) (u : Value) (h : (Builtin.zeroCells zero n)[j]? = some u) : u.oneCell = true := by
  unfold Builtin.zeroCells at h
  rw [Array.getElem?_map, Option.map_eq_some_iff] at h
  obtain ⟨k, hk, rfl⟩ := h
  rw [Array.getElem?_range] at hk
  split at hk
  · rename_i hlt
    cases hk
    have hpos : 0 < zero.size := by
      rcases Nat.eq_zero_or_pos zero.size with h0 | h0
      · rw [h0] at hlt; simp at hlt
      · exact h0
    have hmod : j % zero.size < zero.size := Nat.mod_lt _ hpos
    rw [getElem!_pos zero _ hmod]
    exact hz _ _ (Array.getElem?_eq_getElem hmod)
  · cases hk
theorem zeroCells_size (zero : Array Value) (n : Nat) : (Builtin.zeroCells zero n).size = n * zero.size := by simp [Builtin.zeroCells]
theorem run_append {tys : Array TypeId} {t ut el ty : TypeId} {d : TypeDesc} (hty : tys = #[t, ut]) (ht : P.underlying t = some (.slice el)) (hu : P.underlying ut = some d) (hd : ∀ k, d ≠ .int k)
    (hsz : 0 < tsize P el) (hby : tbytes P el ≤ 64) {zv : Value} {i : TypeInfo} (hi : P.info? el = some i) (hz : i.zero = some zv) {base : Option Addr} {sLen sCap n : Nat} {x : Value} {w : World} {old new : Array Value}
    (hn : (Builtin.lenOf x).run P w = .ok n w) (hnew : ∀ w' : World, w'.heap = w.heap → (Builtin.firstCells (tsize P el) n x).run P w' = .ok new w')
    (hold : ∀ w' : World, w'.heap = w.heap → (Builtin.firstCells (tsize P el) sLen (.slice base sLen sCap)).run P w' = .ok old w') (hb : sLen + n ≤ maxLen') :
    (Builtin.append_ tys ty #[.slice base sLen sCap, x]).run P w =
      if sLen + n ≤ sCap then (match base with | some a => (storeCells (a.add (sLen * tsize P el)) new.toList).run P w | none => .ok () w).andThen fun _ w' => .ok (.slice base (sLen + n) sCap) w'
      else .ok (.slice (some ⟨w.heap.size, 0, none⟩) (sLen + n) (grownCap w (sLen + n) sCap el)) (w.drew.alloc (.cells (old ++ new ++ Builtin.zeroCells zv.cells (grownCap w (sLen + n) sCap el - (sLen + n))) el)) := by
  subst hty
  have hti : ∀ w' : World, (typeInfo el).run P w' = .ok i w' := fun w' => run_typeInfo w' hi
  have hby' : i.bytes ≤ 64 := by simpa [tbytes, hi] using hby
  have hzv : ∀ w' : World, (zeroValue el).run P w' = .ok zv w' := fun w' => by simp [zeroValue, hti, hz]
  by_cases hle : sLen + n ≤ sCap
  · rw [if_pos hle]
    have hnw := hnew w rfl
    cases d <;> first
      | exact absurd rfl (hd _)
      | (unfold Builtin.append_
         simp only [List.getElem?_toArray, List.getElem?_cons_zero, List.getElem?_cons_succ, Sem.run_bind, run_underlying ht, run_underlying hu, Result.andThen_ok, run_size' hsz, Sem.run_pure, Bool.false_eq_true, if_false, hn, Bool.not_false, if_true, hle, hnw]
         cases base
         · rfl
         · rw [Sem.run_bind]; rfl)
  · rw [if_neg hle]
    have hcap : sCap < sLen + n := by omega
    have hnx := next_le hcap
    have h1 : ¬ (IntKind.i64.max < ((sLen : Int) + (n : Int))) := by
      unfold maxLen' at hb
      simp only [IntKind.max, IntKind.signed, IntKind.bits, if_true]
      omega
    have h2 : ¬ (2 ^ 48 < Builtin.nextslicecap (sLen + n) sCap * i.bytes) := by
      have : Builtin.nextslicecap (sLen + n) sCap * i.bytes ≤ (2 * maxLen') * 64 := Nat.mul_le_mul (by omega) hby'
      unfold maxLen' at this
      omega
    have hforced : (Question.appendCap (sLen + n) sCap el).forced = false := rfl
    have hnw := hnew w.drew rfl
    have hod := hold w.drew rfl
    have hask : ∀ (k : Nat) (w' : World), (askRoom k).run P w' = .ok () w' := by
      intro k w'; unfold askRoom; split <;> simp [mark, Sem.run]
    have h1' : ¬ (((sLen + n : Nat) : Int) > IntKind.i64.max ∧ (False ∨ i.bytes = 0)) := by
      intro h; apply h1; have := h.1; push_cast at this; omega
    cases d <;> first
      | exact absurd rfl (hd _)
      | (unfold Builtin.append_
         simp only [List.getElem?_toArray, List.getElem?_cons_zero, List.getElem?_cons_succ, Sem.run_bind, run_underlying ht, run_underlying hu, Result.andThen_ok, run_size' hsz, Sem.run_pure, Bool.false_eq_true, if_false, hn, Bool.not_false, if_true, hle, hti]
         rw [if_neg h1']
         simp only [Sem.run_bind, hti, Result.andThen_ok]
         rw [if_neg h2]
         simp only [Sem.run_bind, run_choose_drew, hforced, Bool.false_eq_true, if_false, hti, hask, hod, hnw, hzv, Result.andThen_ok, newRow, run_newObj_alloc, Sem.run_pure, grownCap]
         rfl)
theorem op_convert (H : HOk Γ) (hb : Fresh Γ.n b) (he : ∀ x, VR Γ (e x) (α x)) {s d : TypeId} {x : Operand} (ho : o.op = .convert s d x) {v : V} {ws : List (Nat × Ob)} (h : opSem P o.op e Γ.h b = some (v, ws)) : OpOk P o α Γ b v ws := by
  rw [ho] at h
  simp only [opSem] at h
  have hx := he x
  split at h
  · rename_i ks kd k n hs hd hex
    cases h
    rw [hex] at hx
    refine ok_quiet H hb (u := .int kd (kd.wrap n)) ?_ (.pure (.int _ _))
    simp [execOp, ho, convert, run_underlying hs, run_underlying hd, hx.int_inv, Conv.intToInt]
  · rename_i t hs hd hex
    cases h
    rw [hex] at hx
    obtain ⟨bs, hu, hbs⟩ := hx.str_inv
    refine ok_quiet H hb (u := α x) ?_ hx
    simp [execOp, ho, convert, run_underlying hs, run_underlying hd, hu]
  · rename_i el t hs hd hex
    split at h
    · rename_i hel
      rw [guardP_some] at h
      obtain ⟨⟨hle, hsz⟩, hh⟩ := h
      cases hh
      rw [hex] at hx
      obtain ⟨bs, hu, hbs⟩ := hx.str_inv
      have hlen : t.length = bs.size := by rw [← hbs, Array.length_toList]; rfl
      obtain ⟨H1, E1⟩ := step_same H Γ.w.drew Γ.n rfl rfl rfl rfl (fun _ h => h)
      obtain ⟨cap, hcap⟩ : ∃ cap, cap = grownCap Γ.w bs.size 0 el := ⟨_, rfl⟩
      have hcap' : bs.size ≤ cap := by rw [hcap]; simp [grownCap, Question.cut]
      obtain ⟨c, hc⟩ : ∃ c : Array Value, c = (bs.data.map fun b => Value.int .u8 b.toNat) ++ Array.replicate (cap - bs.size) (.int .u8 0) := ⟨_, rfl⟩
      have hcs : c.size = cap := by
        rw [hc]; simp only [Array.size_append, Array.size_map, Array.size_replicate]
        have : bs.data.size = bs.size := rfl
        omega
      have hget : ∀ (i : Nat) (x : UInt8), t[i]? = some x → c[i]? = some (Value.int .u8 x.toNat) := by
        intro i x hx
        rw [← hbs, Array.getElem?_toList] at hx
        have hi := (Array.getElem?_eq_some_iff.1 hx).1
        rw [hc, Array.getElem?_append_left (by simpa using hi)]
        simp [hx]
      have hrow : RowC Γ.w.drew Γ.Z 1 (t.map fun c => V.int .u8 c.toNat) c := by
        refine ⟨by omega, by simp; omega, ?_, ?_, ?_⟩
        · intro j u hu
          rw [hc, Array.getElem?_append] at hu
          split at hu
          · simp only [Array.getElem?_map, Option.map_eq_some_iff] at hu
            obtain ⟨_, _, rfl⟩ := hu; rfl
          · have := Array.mem_of_getElem? hu
            simp at this
            rw [this.2]; rfl
        · intro i x hx
          simp only [List.getElem?_map, Option.map_eq_some_iff] at hx
          obtain ⟨_, _, rfl⟩ := hx; rfl
        · intro i x j y u hx hy hu
          simp only [List.getElem?_map, Option.map_eq_some_iff] at hx
          obtain ⟨x0, hx0, rfl⟩ := hx
          cases j with
          | zero =>
            simp [V.cells] at hy
            subst hy
            rw [Nat.mul_one, Nat.add_zero, hget i x0 hx0] at hu
            cases hu; exact .int _ _
          | succ j => simp [V.cells] at hy
      obtain ⟨Δ, hw, hh, hn, hok, hev, hvr⟩ := new_row (b := b) H1 hb false hrow el (c.size, c.size + 1) (fun o h1 h2 => by simp only at h2; omega) (cap := cap) (by simp; omega) (by omega)
      refine ⟨_, Δ, .inl ?_, hh, hn, hok, E1.trans hev, hvr⟩
      rw [hw]
      have hrun := Lib.run_convert_string_bytes (P := P) Γ.w s d el bs hs hd hel
      rw [bytesWorld_eq, ← hcap] at hrun
      have hcc : Lib.bytesCells Γ.w el bs = c := by rw [hc, Lib.bytesCells, ← hcap]
      rw [hcc] at hrun
      simp [execOp, ho, hu, hrun, hlen]
    · cases h
  · rename_i el v' hs hd
    split at h
    · rename_i hel
      simp only [Option.bind_eq_some_iff] at h
      obtain ⟨⟨s', ys⟩, hel', h⟩ := h
      rw [guardP_some] at h
      obtain ⟨⟨hsz, hall⟩, hh⟩ := h
      cases hh
      obtain ⟨a, cap, hu, arr, hrun, hrow⟩ := src_cells (P := P) (sz := 1) H hx hel' (by rcases hsz with h | h; exact .inl h; exact .inr (by simpa using h))
      refine ok_quiet H hb (u := .string ⟨(ys.map byteOf).toArray⟩) ?_ (.pure (by simpa using VP.str ⟨(ys.map byteOf).toArray⟩))
      have hb : (Conv.bytesToString (.slice a ys.length cap)).run P Γ.w = .ok (.string ⟨(ys.map byteOf).toArray⟩) Γ.w := by
        obtain ⟨g1, g2, g3, g4⟩ := hrow
        have hb : ∀ x ∈ ys, ∃ n, x = V.int .u8 n := by
          intro x hm
          have := List.all_eq_true.1 hall x hm
          unfold isByte at this
          split at this
          · exact ⟨_, rfl⟩
          · cases this
        have harr : arr = ((ys.map fun x => match x with | .int _ n => n | _ => 0).map (Value.int .u8)).toArray := by
          apply Array.ext_getElem?
          intro i
          rcases Nat.lt_or_ge i ys.length with hi | hi
          · obtain ⟨n, hn⟩ := hb ys[i] (List.getElem_mem hi)
            have hai : i < arr.size := by omega
            have := g4 i _ 0 (V.int .u8 n) arr[i] (List.getElem?_eq_getElem hi) (by rw [hn]; rfl) (by rw [Nat.mul_one, Nat.add_zero]; exact Array.getElem?_eq_getElem hai)
            rw [Array.getElem?_eq_getElem hai]
            generalize arr[i] = u at this
            cases this
            simp [List.getElem?_eq_getElem hi, hn]
          · rw [Array.getElem?_eq_none (by omega)]
            simp [List.getElem?_eq_none hi]
        have hpush : ∀ (l : List V) (s : ByteArray), (∀ x ∈ l, ∃ n, x = V.int .u8 n) → (l.map fun x => match x with | .int _ n => n | _ => 0).foldl (fun r n => r.push (UInt8.ofNat n.toNat)) s = ⟨s.data ++ (l.map byteOf).toArray⟩ := by
          intro l
          induction l with
          | nil => intro s _; simp
          | cons x r ih =>
            intro s hl
            obtain ⟨n, rfl⟩ := hl x (List.mem_cons_self ..)
            rw [List.map_cons, List.foldl_cons, ih _ fun y hy => hl y (List.mem_cons_of_mem _ hy)]
            simp [ByteArray.push, byteOf]
        cases a with
        | none =>
          have h0 : ys = [] := by
            have := hrun Γ.w rfl
            rw [hu] at hx
            cases ys with
            | nil => rfl
            | cons y r =>
              rw [hu] at this
              simp [Builtin.firstCells] at this
              rw [this] at g1
              simp at g1
          subst h0
          simp [Conv.bytesToString, ByteArray.empty, ByteArray.emptyWithCapacity]
          rfl
        | some a =>
          have hload := hrun Γ.w rfl
          rw [hu] at hload
          simp only [Builtin.firstCells, Nat.mul_one] at hload
          rw [harr] at hload
          rw [run_bytesToString (P := P) Γ.w a ys.length cap _ hload, hpush ys _ hb]
          have e : ByteArray.empty.data ++ (ys.map byteOf).toArray = (ys.map byteOf).toArray := by
            show #[] ++ (ys.map byteOf).toArray = _
            simp
          rw [e]
      simp [execOp, ho, hu, convert, run_underlying hs, run_underlying hd, run_underlying hel, hb]
    · cases h
  · cases h
end Go.Sym
set_option linter.unusedVariables false
set_option linter.unusedSimpArgs false
namespace Go.Sym
variable {P : Program} {o : Oper} {α : Operand → Value} {e : Operand → V} {Γ : Cx} {b : Nat}
theorem grow_row (H : HOk Γ) (hb : Fresh Γ.n b) (fz : Bool) {s : Nat} (hs : 0 < s) {xs ys : List V} {old new : Array Value} (ho : RowE Γ.w Γ.Z s xs old) (hn : RowE Γ.w Γ.Z s ys new)
    {zero : Array Value} (hz1 : ∀ (i : Nat) (u : Value), zero[i]? = some u → u.oneCell = true) (hzs : zero.size = s) (el : TypeId) {cap need : Nat} (hneed : need = xs.length + ys.length) (hcap : need ≤ cap) :
    ∃ Δ : Cx, Δ.w = Γ.w.drew.alloc (.cells (old ++ new ++ Builtin.zeroCells zero (cap - need)) el) ∧ Δ.h = upd Γ.h b (some (.row fz s (xs ++ ys))) ∧ Δ.n = more Γ.n b ∧ HOk Δ ∧ Evo Γ Δ ∧
      VR Δ (.ref b) (.slice (some ⟨Γ.w.heap.size, 0, none⟩) need cap) := by
  obtain ⟨H1, E1⟩ := step_same H Γ.w.drew Γ.n rfl rfl rfl rfl (fun _ h => h)
  have hz : ∀ b o, Γ.Z b o → Γ.Z b o ∧ Γ.w.drew.cell? ⟨b, o, none⟩ = Γ.w.cell? ⟨b, o, none⟩ := fun b o h => ⟨h, rfl⟩
  have hE := ho.append hn
  have hE' : RowE Γ.w.drew Γ.Z s (xs ++ ys) (old ++ new) := ⟨hE.1, hE.2.1, hE.2.2.1, fun i x j y u hx hy hu => (hE.2.2.2 i x j y u hx hy hu).evo hz⟩
  have hC := hE'.toC hs (fun j u hu => zeroCells_one hz1 (cap - need) j u hu)
  have hsize : (old ++ new ++ Builtin.zeroCells zero (cap - need)).size = cap * s := by
    have h1 : (old ++ new).size = need * s := by rw [hE.1, List.length_append, ← hneed]
    rw [Array.size_append, h1, zeroCells_size, hzs, ← Nat.add_mul]; congr 1; omega
  obtain ⟨Δ, hw, hh, hn', hok, hev, hvr⟩ := new_row (b := b) H1 hb fz hC el (0, 0) (fun o _ h => by simp only at h; omega) (cap := cap) (by rw [List.length_append]; omega) (by omega)
  refine ⟨Δ, hw, hh, hn', hok, E1.trans hev, ?_⟩
  rw [hneed, ← List.length_append]; exact hvr
theorem setBlk_self {w : World} {b : Nat} {o : Obj} (h : w.heap[b]? = some o) : setBlk w b o = w := by
  have : w.heap.setIfInBounds b o = w.heap := by
    apply Array.ext_getElem?
    intro k
    by_cases hk : b = k
    · subst hk
      rw [h]
      simp [(Array.getElem?_eq_some_iff.1 h).1]
    · rw [Array.getElem?_setIfInBounds_ne hk]
  unfold setBlk; rw [this]
theorem src_any (H : HOk Γ) (he : ∀ x, VR Γ (e x) (α x)) {y : Operand} {sz : Nat} {ys : List V}
    (h : (∃ s, e y = .str s ∧ sz = 1 ∧ ys = s.map fun c => V.int .u8 c.toNat) ∨ (∃ s, elems Γ.h (e y) = some (s, ys) ∧ (s = sz ∨ ys = []))) :
    (∀ w', (Builtin.lenOf (α y)).run P w' = .ok ys.length w') ∧ ∃ new, (∀ w' : World, w'.heap = Γ.w.heap → (Builtin.firstCells sz ys.length (α y)).run P w' = .ok new w') ∧ RowE Γ.w Γ.Z sz ys new := by
  rcases h with ⟨s, hy, rfl, rfl⟩ | ⟨s, hy, hs⟩
  · have hv := he y
    rw [hy] at hv
    obtain ⟨bs, hα, hbs⟩ := hv.str_inv
    have hlen : bs.size = s.length := by rw [← hbs, Array.length_toList]; rfl
    refine ⟨fun w' => by simp [hα, Builtin.lenOf, hlen], bs.data.map (fun c => Value.int .u8 c.toNat), fun w' _ => ?_, ?_, ?_, ?_, ?_⟩
    · simp [hα, Builtin.firstCells]
      exact .inr (by omega)
    · simp [← hbs]
    · intro j u hu
      simp only [Array.getElem?_map, Option.map_eq_some_iff] at hu
      obtain ⟨_, _, rfl⟩ := hu; rfl
    · intro i x hx
      simp only [List.getElem?_map, Option.map_eq_some_iff] at hx
      obtain ⟨_, _, rfl⟩ := hx; rfl
    · intro i x j y u hx hy hu
      simp only [List.getElem?_map, Option.map_eq_some_iff] at hx
      obtain ⟨x0, hx0, rfl⟩ := hx
      cases j with
      | zero =>
        simp [V.cells] at hy
        subst hy
        rw [Nat.mul_one, Nat.add_zero, Array.getElem?_map, ← Array.getElem?_toList, hbs, hx0] at hu
        cases hu; exact .int _ _
      | succ j => simp [V.cells] at hy
  · obtain ⟨a, cap, hα, arr, hrun, hE⟩ := src_cells (P := P) H (he y) hy hs
    exact ⟨fun w' => by simp [hα, Builtin.lenOf], arr, hrun, hE⟩
theorem upds_append (l1 : List (Nat × Ob)) : ∀ (h : Nat → Option Ob) (l2 : List (Nat × Ob)), upds h (l1 ++ l2) = upds (upds h l1) l2 := by
  induction l1 with
  | nil => intro h l2; rfl
  | cons a r ih => intro h l2; simp only [List.cons_append, upds]; exact ih _ l2
theorem append_sound (H : HOk Γ) (hb : Fresh Γ.n b) (he : ∀ x, VR Γ (e x) (α x)) {args : Array Operand} {tys : Array TypeId} (ho : o.op = .call { callee := .builtin .append, args := args, argTypes := tys })
    {x y : Operand} (ha : args = #[x, y]) {t ut el : TypeId} (hty : tys = #[t, ut]) {d : TypeDesc} (ht : P.underlying t = some (.slice el)) (hu : P.underlying ut = some d) (hd : ∀ k, d ≠ .int k)
    {z : V} (hz : tzero P el = some z) (hzs : solid z = true) (hzl : z.cells.length = tsize P el) {ys : List V}
    (hsrc : (∃ s, e y = .str s ∧ tsize P el = 1 ∧ ys = s.map fun c => V.int .u8 c.toNat) ∨ (∃ s, elems Γ.h (e y) = some (s, ys) ∧ (s = tsize P el ∨ ys = [])))
    {v : V} {ws : List (Nat × Ob)} (h : appendV Γ.h b (tsize P el) (tbytes P el) (e x) ys = some (v, ws)) : OpOk P o α Γ b v ws := by
  obtain ⟨i, zv, hi, hzv, rfl, _⟩ := tzero_inv (w := Γ.w) hz
  obtain ⟨hn, new, hnew, hE⟩ := src_any (P := P) H he hsrc
  obtain ⟨hzc, hz1, _⟩ := (VR_const Γ zv).cells hzs
  have hzsize : zv.cells.size = tsize P el := by omega
  have hx := he x
  have hexec : ∀ (base : Option Addr) (sLen sCap : Nat), α x = .slice base sLen sCap → ∀ u w', (Builtin.append_ tys o.type #[.slice base sLen sCap, α y]).run P Γ.w = .ok u w' → (execOp α o).run P Γ.w = .ok (.value u) w' := by
    intro base sLen sCap hα u w' hr
    obtain ⟨consts, hexb⟩ := exec_builtin (P := P) (α := α) ho Γ.w
    rw [hexb]
    simp [builtin, ha, hα, hr]
  have hgrown : ∀ (w : World) (need old : Nat), need ≤ grownCap w need old el := by intro w need old; simp [grownCap, Question.cut]
  unfold appendV at h
  split at h
  ·
    rename_i nl s hex
    rw [guardP_some] at h
    obtain ⟨⟨hsz, hby, hlen⟩, hh⟩ := h
    cases hh
    rw [hex] at hx
    have hp := hx.sl_inv
    generalize hα : α x = u0 at hp
    cases hp with
    | sl _ _ _ _ a cap hc hclip hnt hnf hnn hs0 hspot hxl hee hvv =>
      have hcap : cap = 0 := hclip rfl
      subst hcap
      have hold : ∀ w' : World, w'.heap = Γ.w.heap → (Builtin.firstCells (tsize P el) 0 (.slice a 0 0)).run P w' = .ok #[] w' := by
        intro w' _; cases a <;> simp [Builtin.firstCells, loadCells, loadCellsFrom]
      have hrun := run_append (P := P) (ty := o.type) hty ht hu hd hsz hby hi hzv (base := a) (sLen := 0) (sCap := 0) (w := Γ.w) (hn Γ.w) hnew hold (by omega)
      by_cases hy0 : ys.length = 0
      · have hys : ys = [] := List.length_eq_zero_iff.1 hy0
        subst hys
        have hnew0 : new = #[] := by apply Array.eq_empty_of_size_eq_zero; simpa using hE.1
        subst hnew0
        rw [if_pos (by simp)] at hrun
        have hrun' : (Builtin.append_ tys o.type #[.slice a 0 0, α y]).run P Γ.w = .ok (.slice a 0 0) Γ.w := by
          rw [hrun]; cases a <;> simp [storeCells, Result.andThen]
        obtain ⟨H1, E1⟩ := step_virtual H b (tsize P el) (more Γ.n b) false hb.at ⟨more_of, more_at _ _⟩
        refine ⟨_, { Γ with ρ := upd Γ.ρ b none, h := upd Γ.h b (some (.row false (tsize P el) [])), n := more Γ.n b }, .inl (hexec a 0 0 (by simpa using hα) _ _ hrun'), rfl, rfl, H1, E1, .ref b _ rfl (more_at _ _) fun fz s xs hid => ?_⟩
        simp only [upd_same, Option.some.injEq, Ob.row.injEq] at hid
        obtain ⟨_, _, rfl⟩ := hid
        exact ⟨a, 0, rfl, Nat.le_refl _, hspot, fun h => absurd h (by omega)⟩
      · rw [if_neg (by omega)] at hrun
        obtain ⟨Δ, hw, hh, hn', hok, hev, hvr⟩ := grow_row H hb false hsz (RowE.nil _ _ _) hE hz1 hzsize el (need := 0 + ys.length) (by simp) (hgrown Γ.w (0 + ys.length) 0)
        refine ⟨_, Δ, .inl (hexec a 0 0 (by simpa using hα) _ _ (by rw [hrun, hw])), ?_, hn', hok, hev, hvr⟩
        rw [hh]; rfl
  ·
    rename_i nl s x0 xs hex
    split at h
    · cases h
    · rename_i y0 ys'
      rw [guardP_some] at h
      obtain ⟨⟨hss, hsz, hby, hlen⟩, hh⟩ := h
      cases hh
      rw [hex] at hx
      have hp := hx.sl_inv
      obtain ⟨a, cap, hα, old, hold, hEo⟩ := src_cells (P := P) H hx (s := s) (ys := x0 :: xs) rfl (.inl hss)
      rw [hα] at hp
      have hcap : cap = (x0 :: xs).length := by cases hp with | sl _ _ _ _ _ _ hc hclip => exact hclip rfl
      have hrun := run_append (P := P) (ty := o.type) hty ht hu hd hsz hby hi hzv (base := a) (sLen := (x0 :: xs).length) (sCap := cap) (w := Γ.w) (hn Γ.w) hnew (fun w' hw' => by rw [← hα]; exact hold w' hw') hlen
      rw [if_neg (by rw [hcap]; simp only [List.length_cons]; omega)] at hrun
      obtain ⟨Δ, hw, hh, hn', hok, hev, hvr⟩ := grow_row H hb false hsz hEo hE hz1 hzsize el rfl (hgrown Γ.w ((x0 :: xs).length + (y0 :: ys').length) cap)
      refine ⟨_, Δ, .inl (hexec a _ cap hα _ _ (by rw [hrun, hw])), ?_, hn', hok, hev, hvr⟩
      rw [hh]; rfl
  ·
    rename_i id hex
    split at h
    · rename_i fz s xs hid
      rw [guardP_some] at h
      obtain ⟨⟨hss, hsz, hby, hlen⟩, hh⟩ := h
      cases hh
      rw [hex] at hx
      obtain ⟨_, hidn, hr0⟩ := hx.ref_inv
      obtain ⟨a, cap, hα, hle, hspot, hca⟩ := hr0 fz s xs hid
      obtain ⟨a', cap', hα', old, hold, hEo⟩ := src_cells (P := P) H hx (s := s) (ys := xs) (by simp [elems, hid]) (.inl hss)
      rw [hα] at hα'; cases hα'
      have hrun := run_append (P := P) (ty := o.type) hty ht hu hd hsz hby hi hzv (base := a) (sLen := xs.length) (sCap := cap) (w := Γ.w) (hn Γ.w) hnew (fun w' hw' => by rw [← hα]; exact hold w' hw') hlen
      by_cases hfit : xs.length + ys.length ≤ cap
      · rw [if_pos hfit] at hrun
        by_cases hc0 : cap = 0
        ·
          subst hc0
          have hx0 : xs = [] := List.length_eq_zero_iff.1 (by omega)
          have hy0 : ys = [] := List.length_eq_zero_iff.1 (by omega)
          subst hx0 hy0
          have hnew0 : new = #[] := by apply Array.eq_empty_of_size_eq_zero; simpa using hE.1
          subst hnew0
          have hrun' : (Builtin.append_ tys o.type #[.slice a 0 0, α y]).run P Γ.w = .ok (.slice a 0 0) Γ.w := by
            have := hrun
            simp only [List.length_nil, Nat.add_zero] at this
            rw [this]; cases a <;> simp [storeCells, Result.andThen]
          obtain ⟨H1, E1⟩ := step_kill H id
          obtain ⟨H2, E2⟩ := step_virtual H1 b (tsize P el) (more Γ.n b) fz hb.at ⟨more_of, more_at _ _⟩
          refine ⟨_, { Γ with ρ := upd Γ.ρ b none, h := upd (upd Γ.h id (some .dead)) b (some (.row fz (tsize P el) [])), n := more Γ.n b }, .inl (hexec a 0 0 (by simpa using hα) _ _ hrun'), ?_, rfl, H2, E1.trans E2, .ref b _ rfl (more_at _ _) fun fz s xs hid => ?_⟩
          · simp [upds]
          · simp only [upd_same, Option.some.injEq, Ob.row.injEq] at hid
            obtain ⟨_, _, rfl⟩ := hid
            exact ⟨a, 0, rfl, Nat.le_refl _, hspot, fun h => absurd h (by omega)⟩
        ·
          obtain ⟨b0, base, c, E, zz, hρ, ha', hbl, hcs⟩ := hca (by omega)
          subst ha'
          rcases H.row id fz s xs hid with ⟨hnn, _⟩ | ⟨b1, base1, c1, E1, z1, hr1, hb1, hz1', h0, hsz1, h11, hl1, hv1⟩
          · rw [hρ] at hnn; cases hnn
          rw [hρ] at hr1; cases hr1
          rw [hbl] at hb1; cases hb1
          subst hss
          have hnl : new.toList.length = ys.length * tsize P el := by rw [Array.length_toList]; exact hE.1
          have hroom : base + xs.length * tsize P el + ys.length * tsize P el ≤ c.size := by
            have h1 : (xs.length + ys.length) * tsize P el ≤ cap * tsize P el := Nat.mul_le_mul_right _ hfit
            rw [Nat.add_mul] at h1
            have h2 := hcs
            rw [Nat.zero_add] at h2
            omega
          have hst := run_storeCells P b0 E zz new.toList Γ.w c (base + 0 * tsize P el + xs.length * tsize P el) 0 hbl hz1' (by rw [hnl]; omega) (fun u hu => by
            obtain ⟨k, hk, rfl⟩ := List.getElem_of_mem hu
            exact hE.2.1 k _ (by rw [← Array.getElem?_toList]; exact List.getElem?_eq_getElem hk))
          have hst' : (storeCells ((⟨b0, base + 0 * tsize P el, none⟩ : Addr).add (xs.length * tsize P el)) new.toList).run P Γ.w = .ok () (setBlk Γ.w b0 (.cells (wr c (base + xs.length * tsize P el) new.toList) E zz)) := by
            rw [add_none, hst]
            congr 1
            by_cases hnn : new.toList = []
            · rw [if_pos hnn, hnn]; exact (setBlk_self hbl).symm
            · rw [if_neg hnn]; simp
          have hwr : ∀ k, (wr c (base + xs.length * tsize P el) new.toList)[k]? = if base + xs.length * tsize P el ≤ k ∧ k < base + xs.length * tsize P el + ys.length * tsize P el then new[k - (base + xs.length * tsize P el)]? else c[k]? := by
            intro k
            rw [wr_get _ _ _ _ (by rw [hnl]; omega), hnl]
            simp
          have hzk : ∀ k, k < base + xs.length * tsize P el → (wr c (base + xs.length * tsize P el) new.toList)[k]? = c[k]? := by
            intro k hk; rw [hwr, if_neg (by omega)]
          have hVPz : ∀ b' o', Γ.Z b' o' → Γ.Z b' o' ∧ (setBlk Γ.w b0 (.cells (wr c (base + xs.length * tsize P el) new.toList) E zz)).cell? ⟨b', o', none⟩ = Γ.w.cell? ⟨b', o', none⟩ := by
            intro b' o' hZ
            refine ⟨hZ, ?_⟩
            by_cases hk : b' = b0
            · subst hk
              obtain ⟨s', xs', e', ho'⟩ := (H.z _ o' hZ).2 id base (live_row hid) hρ
              rw [hid] at e'; cases e'
              simp only [World.cell?, setBlk_same (Array.getElem?_eq_some_iff.1 hbl).1, hbl]
              simp [hzk o' ho']
            · exact cell_of_block (setBlk_other hk)
          obtain ⟨H2, E2⟩ := step_grow (id' := b) (m := more Γ.n b) (ys := ys) H hid hρ hbl (wr_size new.toList c (base + xs.length * tsize P el)) hzk hb.at ⟨more_of, more_at _ _⟩ (by
            refine .inr ⟨b0, base, wr c (base + xs.length * tsize P el) new.toList, E, zz, by simp [Cx.grow], setBlk_same (Array.getElem?_eq_some_iff.1 hbl).1, by rw [wr_size]; exact hz1', hsz, ?_, ?_, ?_, ?_⟩
            · rw [wr_size, List.length_append, Nat.add_mul]; omega
            · intro j u hu
              rw [hwr] at hu
              split at hu
              · exact hE.2.1 _ u hu
              · exact h11 _ u hu
            · intro k x hx
              rw [List.getElem?_append] at hx
              split at hx
              · exact hl1 _ x hx
              · exact hE.2.2.1 _ x hx
            · intro k x j yv u hx hy hu
              have hj : j < tsize P el := by
                have hlt := (List.getElem?_eq_some_iff.1 hy).1
                rw [List.getElem?_append] at hx
                split at hx
                · rw [hl1 _ x hx] at hlt; exact hlt
                · rw [hE.2.2.1 _ x hx] at hlt; exact hlt
              rw [hwr] at hu
              rw [List.getElem?_append] at hx
              split at hx
              · rename_i hk
                have : (k + 1) * tsize P el ≤ xs.length * tsize P el := Nat.mul_le_mul_right _ hk
                rw [Nat.add_mul, Nat.one_mul] at this
                rw [if_neg (by omega)] at hu
                exact (hv1 k x j yv u hx hy hu).evo hVPz
              · rename_i hk
                have hk2 := (List.getElem?_eq_some_iff.1 hx).1
                have e1 : k * tsize P el = xs.length * tsize P el + (k - xs.length) * tsize P el := by rw [← Nat.add_mul]; congr 1; omega
                have e2 : (k - xs.length + 1) * tsize P el ≤ ys.length * tsize P el := Nat.mul_le_mul_right _ (by omega)
                rw [Nat.add_mul, Nat.one_mul] at e2
                rw [if_pos (by omega)] at hu
                rw [show base + (k * tsize P el + j) - (base + xs.length * tsize P el) = (k - xs.length) * tsize P el + j by omega] at hu
                exact (hE.2.2.2 _ x j yv u hx hy hu).evo hVPz)
          refine ⟨_, _, .inl (hexec _ _ cap hα _ _ (by rw [hrun]; simp only; rw [hst']; rfl)), rfl, rfl, H2, E2, .ref b _ rfl (more_at _ _) fun fz' s' xs' hid' => ?_⟩
          simp only [Cx.grow, upd_same, Option.some.injEq, Ob.row.injEq] at hid'
          obtain ⟨_, rfl, rfl⟩ := hid'
          refine ⟨_, cap, by rw [List.length_append], by rw [List.length_append]; exact hfit, hspot, fun _ => ⟨b0, base, wr c (base + xs.length * tsize P el) new.toList, E, zz, by simp [Cx.grow], rfl, setBlk_same (Array.getElem?_eq_some_iff.1 hbl).1, by rw [wr_size]; exact hcs⟩⟩
      · rw [if_neg hfit] at hrun
        obtain ⟨H1, E1⟩ := step_kill H id
        subst hss
        obtain ⟨Δ, hw, hh, hn', hok, hev, hvr⟩ := grow_row (Γ := { Γ with h := upd Γ.h id (some .dead) }) H1 hb fz hsz hEo hE hz1 hzsize el rfl (hgrown Γ.w (xs.length + ys.length) cap)
        refine ⟨_, Δ, .inl (hexec a _ cap hα _ _ (by rw [hrun, hw])), ?_, hn', hok, E1.trans hev, hvr⟩
        rw [hh]; rfl
    · cases h
  · cases h
end Go.Sym
