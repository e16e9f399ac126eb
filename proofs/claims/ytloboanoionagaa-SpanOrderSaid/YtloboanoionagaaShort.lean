/-
  Short names that the tool's print leans on.
-/
import Derived.Test.YtloboanoionagaaBase
import Derived.Test.YtloboanoionagaaSymPath2
namespace Go.Proofs
open Go Go.Sym

abbrev vb (n : Int) : V := V.int .u8 n
abbrev vi (n : Int) : V := V.int .i64 n
abbrev vu (n : Int) : V := V.int .u64 n
noncomputable abbrev cP (k f : Nat) (xs : List V) : Option V := callP (evalFn Try.prog Try.cfg k) f xs
theorem bE {α β : Type} {x : Option α} {f : α → Option β} {r : β} (h : x.bind f = some r) : ∃ a, x = some a ∧ f a = some r := Option.bind_eq_some_iff.1 h
theorem aI {a b : Prop} (h : a) (g : b) : a ∧ b := And.intro h g
end Go.Proofs
