/-
  Short names that the tool's print leans on.
-/
import Derived.Test.YtfjloeemhiffgaaMBase
import Derived.Test.YtfjloeemhiffgaaSymPath2
namespace Go.Proofs
open Go Go.Sym

abbrev vb (n : Int) : V := V.int .u8 n
abbrev vi (n : Int) : V := V.int .i64 n
abbrev vu (n : Int) : V := V.int .u64 n
noncomputable abbrev cP (k f : Nat) (xs : List V) : Option V := callP (evalFn Try.prog Try.cfg k) f xs
theorem bE {α β : Type} {x : Option α} {f : α → Option β} {r : β} (h : x.bind f = some r) : ∃ a, x = some a ∧ f a = some r := Option.bind_eq_some_iff.1 h
theorem aI {a b : Prop} (h : a) (g : b) : a ∧ b := And.intro h g
abbrev bN (u : UInt8) : Int := (u.toNat : Int)
abbrev wI (n : Int) : Int := IntKind.i64.wrap n
abbrev wU (n : Int) : Int := IntKind.u64.wrap n
abbrev wB (n : Int) : Int := IntKind.u8.wrap n
abbrev x8 (a b : Int) : Int := IntKind.u8.wrap (↑(BitVec.ofInt IntKind.u8.bits a ^^^ BitVec.ofInt IntKind.u8.bits b).toNat : Int)
noncomputable abbrev eC (k d n f : Nat) (c : Code) (s : St) : Option (Exit × St) := evalCode Try.prog Try.cfg (evalFn Try.prog Try.cfg (k + d)) n (Try.cfg.fc f) (k + d) c s
end Go.Proofs
