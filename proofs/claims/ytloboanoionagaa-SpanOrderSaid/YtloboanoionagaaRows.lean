/-
  No cell of these rows narrows 'for every input' (looked for: loops, veiled, ifaces, maps, wideKeys, modest, calm, conditions, laid).
  DERIVED. THE GIVEN ROWS OF THIS SEAT. 6 by the template 'for every input the law returns true; each argument reads behind the call as it read before'; 0 by the template 'total and deterministic' (their statements: YtloboanoionagaaTotals.lean).
  GIVEN WITH THE SEED: the statements are not yours to turn. If you find one false, say at which input.
  Laid BY PROGRAM, IN A SANDBOX (cutbox-rows.mjs): the forced cells as the released guide's own fill.sh prints them over the translation 363986fc8ca26041… (all of the seat's roots in one cut). By AI agents, Wed Nov 11 2026. No macro, syntax, notation, axiom, sorry.
-/
import Derived.Test.YtloboanoionagaaChecked
import GoSem.Claim
import GoSem.ClaimJoined
import GoSem.ClaimMapViews
import Derived.JoinedTies
import Derived.KernelRfl
namespace Go.Proofs.Ytloboanoionagaa
/- THE CELL 'sum', in the pinned program and in every row, IS THE sha256 OF THE DUMP (.gsa) THAT YtloboanoionagaaProg.lean LOADS. Nothing in Lean hashes anything: it is a label: what it is worth is what the hold of that sum in a sandbox is worth. -/
noncomputable def Try.pinned : Pinned := { name := "ytloboanoionagaa", sum := "363986fc8ca260416df90f74d33b29ef2c46c175abd7304e9c40e879d9995dea", checked := Try.checked }
namespace Rows
def none {H : Type} : Left H := { results := [], args := [] }

/-- 'saltuslaw01.SpanChecks': WHATEVER THE INPUT: true; the input reads as it did. -/
def spanChecksSpec : ChangeSpec := { name := "spanChecks", fn := fun _ => fun
  | [d] => { results := [.lit (.bool true)], args := [d] }
  | _ => none }
def spanChecksRow : OpenClaim := { program := "ytloboanoionagaa", sum := "363986fc8ca260416df90f74d33b29ef2c46c175abd7304e9c40e879d9995dea", func := "saltus/saltuslaw01.SpanChecks", spec := "spanChecks", apart := false }
def SpanChecksSaid : Prop := spanChecksRow.holds Try.pinned (OpenSpec.ofChange spanChecksSpec)

/-- ITS FALSE NEIGHBOUR: 'it returns false'. Refute it at one input. -/
def spanChecksWrong : ChangeSpec := { name := "spanChecks", fn := fun _ => fun
  | [d] => { results := [.lit (.bool false)], args := [d] }
  | _ => none }
def SpanChecksWrongFalsely : Prop := spanChecksRow.holds Try.pinned (OpenSpec.ofChange spanChecksWrong)

/-- 'saltuslaw01.SpanCuts': WHATEVER THE INPUT: true; the input reads as it did. -/
def spanCutsSpec : ChangeSpec := { name := "spanCuts", fn := fun _ => fun
  | [d1, d2] => { results := [.lit (.bool true)], args := [d1, d2] }
  | _ => none }
def spanCutsRow : OpenClaim := { program := "ytloboanoionagaa", sum := "363986fc8ca260416df90f74d33b29ef2c46c175abd7304e9c40e879d9995dea", func := "saltus/saltuslaw01.SpanCuts", spec := "spanCuts", apart := false }
def SpanCutsSaid : Prop := spanCutsRow.holds Try.pinned (OpenSpec.ofChange spanCutsSpec)

/-- ITS FALSE NEIGHBOUR: 'it returns false'. Refute it at one input. -/
def spanCutsWrong : ChangeSpec := { name := "spanCuts", fn := fun _ => fun
  | [d1, d2] => { results := [.lit (.bool false)], args := [d1, d2] }
  | _ => none }
def SpanCutsWrongFalsely : Prop := spanCutsRow.holds Try.pinned (OpenSpec.ofChange spanCutsWrong)

/-- 'saltuslaw01.SpanCovers': WHATEVER THE INPUT: true; the input reads as it did. -/
def spanCoversSpec : ChangeSpec := { name := "spanCovers", fn := fun _ => fun
  | [d1, d2] => { results := [.lit (.bool true)], args := [d1, d2] }
  | _ => none }
def spanCoversRow : OpenClaim := { program := "ytloboanoionagaa", sum := "363986fc8ca260416df90f74d33b29ef2c46c175abd7304e9c40e879d9995dea", func := "saltus/saltuslaw01.SpanCovers", spec := "spanCovers", apart := false }
def SpanCoversSaid : Prop := spanCoversRow.holds Try.pinned (OpenSpec.ofChange spanCoversSpec)

/-- ITS FALSE NEIGHBOUR: 'it returns false'. Refute it at one input. -/
def spanCoversWrong : ChangeSpec := { name := "spanCovers", fn := fun _ => fun
  | [d1, d2] => { results := [.lit (.bool false)], args := [d1, d2] }
  | _ => none }
def SpanCoversWrongFalsely : Prop := spanCoversRow.holds Try.pinned (OpenSpec.ofChange spanCoversWrong)

/-- 'saltuslaw01.SpanParts': WHATEVER THE INPUT: true; the input reads as it did. -/
def spanPartsSpec : ChangeSpec := { name := "spanParts", fn := fun _ => fun
  | [d1, d2] => { results := [.lit (.bool true)], args := [d1, d2] }
  | _ => none }
def spanPartsRow : OpenClaim := { program := "ytloboanoionagaa", sum := "363986fc8ca260416df90f74d33b29ef2c46c175abd7304e9c40e879d9995dea", func := "saltus/saltuslaw01.SpanParts", spec := "spanParts", apart := false }
def SpanPartsSaid : Prop := spanPartsRow.holds Try.pinned (OpenSpec.ofChange spanPartsSpec)

/-- ITS FALSE NEIGHBOUR: 'it returns false'. Refute it at one input. -/
def spanPartsWrong : ChangeSpec := { name := "spanParts", fn := fun _ => fun
  | [d1, d2] => { results := [.lit (.bool false)], args := [d1, d2] }
  | _ => none }
def SpanPartsWrongFalsely : Prop := spanPartsRow.holds Try.pinned (OpenSpec.ofChange spanPartsWrong)

/-- 'saltuslaw01.SpanUnions': WHATEVER THE INPUT: true; the input reads as it did. -/
def spanUnionsSpec : ChangeSpec := { name := "spanUnions", fn := fun _ => fun
  | [d] => { results := [.lit (.bool true)], args := [d] }
  | _ => none }
def spanUnionsRow : OpenClaim := { program := "ytloboanoionagaa", sum := "363986fc8ca260416df90f74d33b29ef2c46c175abd7304e9c40e879d9995dea", func := "saltus/saltuslaw01.SpanUnions", spec := "spanUnions", unfollowed := true, recurses := true, apart := false }
def SpanUnionsSaid : Prop := spanUnionsRow.holds Try.pinned (OpenSpec.ofChange spanUnionsSpec)

/-- ITS FALSE NEIGHBOUR: 'it returns false'. Refute it at one input. -/
def spanUnionsWrong : ChangeSpec := { name := "spanUnions", fn := fun _ => fun
  | [d] => { results := [.lit (.bool false)], args := [d] }
  | _ => none }
def SpanUnionsWrongFalsely : Prop := spanUnionsRow.holds Try.pinned (OpenSpec.ofChange spanUnionsWrong)

/-- 'saltuslaw01.SpanOrder': WHATEVER THE INPUT: true; the input reads as it did. -/
def spanOrderSpec : ChangeSpec := { name := "spanOrder", fn := fun _ => fun
  | [d1, d2] => { results := [.lit (.bool true)], args := [d1, d2] }
  | _ => none }
def spanOrderRow : OpenClaim := { program := "ytloboanoionagaa", sum := "363986fc8ca260416df90f74d33b29ef2c46c175abd7304e9c40e879d9995dea", func := "saltus/saltuslaw01.SpanOrder", spec := "spanOrder", unfollowed := true, recurses := true, apart := false }
def SpanOrderSaid : Prop := spanOrderRow.holds Try.pinned (OpenSpec.ofChange spanOrderSpec)

/-- ITS FALSE NEIGHBOUR: 'it returns false'. Refute it at one input. -/
def spanOrderWrong : ChangeSpec := { name := "spanOrder", fn := fun _ => fun
  | [d1, d2] => { results := [.lit (.bool false)], args := [d1, d2] }
  | _ => none }
def SpanOrderWrongFalsely : Prop := spanOrderRow.holds Try.pinned (OpenSpec.ofChange spanOrderWrong)

/- THE SECOND FORM. 'bulk': how many values and letters a reading holds, each counted each time it is reached (what is shared counts as often as it is met; a slice's spare places count too). A statement '..UptoSaid' is the law's where the arguments, and the package variables that the reading takes, are together of bulk at most 1048576: NARROWER than '..Said'. Prove '..Said' where nothing that the law and all that it calls make is longer than what came in: it says more and counts as full. Else prove '..UptoSaid'. A law counts once. -/
mutual
def uptoBulk {H : Type} : DataW H → Nat
  | .lit (.string bytes) => bytes.length + 1
  | .lit _ => 1
  | .nil => 1
  | .ptr d => uptoBulk d + 1
  | .slice elems spare => uptoBulkAll elems + uptoBulkAll spare + 1
  | .agg parts => uptoBulkAll parts + 1
  | .iface _ d => uptoBulk d + 1
  | .map entries => uptoBulkEntries entries + 1
  | .held _ => 1
def uptoBulkAll {H : Type} : List (DataW H) → Nat
  | [] => 0
  | d :: r => uptoBulk d + uptoBulkAll r
def uptoBulkEntries {H : Type} : List (Lit × DataW H) → Nat
  | [] => 0
  | x :: r => uptoBulkEntry x + uptoBulkEntries r
def uptoBulkEntry {H : Type} : Lit × DataW H → Nat
  | (.string bytes, d) => bytes.length + uptoBulk d + 1
  | (_, d) => uptoBulk d + 1
 end
def uptoSmall : (H : Type) → List (DataW H) → Bool := fun _ ds => decide (uptoBulkAll ds ≤ 1048576)
def OpenSpec.upto (s : _root_.Go.ChangeSpec) : _root_.Go.OpenSpec := { _root_.Go.OpenSpec.ofChange s with cond := some uptoSmall }

/-- 'saltuslaw01.SpanChecks', WHERE WHAT IT READS IS OF BULK AT MOST 1048576: true; the input reads as it did. -/
def spanChecksUptoRow : OpenClaim := { program := "ytloboanoionagaa", sum := "363986fc8ca260416df90f74d33b29ef2c46c175abd7304e9c40e879d9995dea", func := "saltus/saltuslaw01.SpanChecks", spec := "spanChecks", apart := false, narrowed := true }
def SpanChecksUptoSaid : Prop := spanChecksUptoRow.holds Try.pinned (OpenSpec.upto spanChecksSpec)

/-- 'saltuslaw01.SpanCuts', WHERE WHAT IT READS IS OF BULK AT MOST 1048576: true; the input reads as it did. -/
def spanCutsUptoRow : OpenClaim := { program := "ytloboanoionagaa", sum := "363986fc8ca260416df90f74d33b29ef2c46c175abd7304e9c40e879d9995dea", func := "saltus/saltuslaw01.SpanCuts", spec := "spanCuts", apart := false, narrowed := true }
def SpanCutsUptoSaid : Prop := spanCutsUptoRow.holds Try.pinned (OpenSpec.upto spanCutsSpec)

/-- 'saltuslaw01.SpanCovers', WHERE WHAT IT READS IS OF BULK AT MOST 1048576: true; the input reads as it did. -/
def spanCoversUptoRow : OpenClaim := { program := "ytloboanoionagaa", sum := "363986fc8ca260416df90f74d33b29ef2c46c175abd7304e9c40e879d9995dea", func := "saltus/saltuslaw01.SpanCovers", spec := "spanCovers", apart := false, narrowed := true }
def SpanCoversUptoSaid : Prop := spanCoversUptoRow.holds Try.pinned (OpenSpec.upto spanCoversSpec)

/-- 'saltuslaw01.SpanParts', WHERE WHAT IT READS IS OF BULK AT MOST 1048576: true; the input reads as it did. -/
def spanPartsUptoRow : OpenClaim := { program := "ytloboanoionagaa", sum := "363986fc8ca260416df90f74d33b29ef2c46c175abd7304e9c40e879d9995dea", func := "saltus/saltuslaw01.SpanParts", spec := "spanParts", apart := false, narrowed := true }
def SpanPartsUptoSaid : Prop := spanPartsUptoRow.holds Try.pinned (OpenSpec.upto spanPartsSpec)

/-- 'saltuslaw01.SpanUnions', WHERE WHAT IT READS IS OF BULK AT MOST 1048576: true; the input reads as it did. -/
def spanUnionsUptoRow : OpenClaim := { program := "ytloboanoionagaa", sum := "363986fc8ca260416df90f74d33b29ef2c46c175abd7304e9c40e879d9995dea", func := "saltus/saltuslaw01.SpanUnions", spec := "spanUnions", unfollowed := true, recurses := true, apart := false, narrowed := true }
def SpanUnionsUptoSaid : Prop := spanUnionsUptoRow.holds Try.pinned (OpenSpec.upto spanUnionsSpec)

/-- 'saltuslaw01.SpanOrder', WHERE WHAT IT READS IS OF BULK AT MOST 1048576: true; the input reads as it did. -/
def spanOrderUptoRow : OpenClaim := { program := "ytloboanoionagaa", sum := "363986fc8ca260416df90f74d33b29ef2c46c175abd7304e9c40e879d9995dea", func := "saltus/saltuslaw01.SpanOrder", spec := "spanOrder", unfollowed := true, recurses := true, apart := false, narrowed := true }
def SpanOrderUptoSaid : Prop := spanOrderUptoRow.holds Try.pinned (OpenSpec.upto spanOrderSpec)

end Rows
end Go.Proofs.Ytloboanoionagaa
