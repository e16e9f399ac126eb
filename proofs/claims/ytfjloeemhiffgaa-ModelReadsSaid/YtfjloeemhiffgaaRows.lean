/-
  No cell of these rows narrows 'for every input' (looked for: loops, veiled, ifaces, maps, wideKeys, modest, calm, conditions, laid).
  DERIVED. THE GIVEN ROWS OF THIS SEAT. 13 by the template 'for every input the law returns true; each argument reads behind the call as it read before'; 0 by the template 'total and deterministic' (their statements: YtfjloeemhiffgaaTotals.lean).
  GIVEN WITH THE SEED: the statements are not yours to turn. If you find one false, say at which input.
  Laid BY PROGRAM, IN A SANDBOX (cutbox-rows.mjs): the forced cells as the released guide's own fill.sh prints them over the translation 333d6eca1619657b… (all of the seat's roots in one cut). By AI agents, Wed Nov 11 2026. No macro, syntax, notation, axiom, sorry.
-/
import Derived.Test.YtfjloeemhiffgaaChecked
import GoSem.Claim
import GoSem.ClaimJoined
import GoSem.ClaimMapViews
import Derived.JoinedTies
import Derived.KernelRfl
namespace Go.Proofs.Ytfjloeemhiffgaa
/- THE CELL 'sum', in the pinned program and in every row, IS THE sha256 OF THE DUMP (.gsa) THAT YtfjloeemhiffgaaProg.lean LOADS. Nothing in Lean hashes anything: it is a label: what it is worth is what the hold of that sum in a sandbox is worth. -/
noncomputable def Try.pinned : Pinned := { name := "ytfjloeemhiffgaa", sum := "333d6eca1619657b21fae748c917670d754e4971a4dc144fdacedd625534690f", checked := Try.checked }
namespace Rows
def none {H : Type} : Left H := { results := [], args := [] }

/-- 'saltuslaw01.SpanChecks': WHATEVER THE INPUT: true; the input reads as it did. -/
def spanChecksSpec : ChangeSpec := { name := "spanChecks", fn := fun _ => fun
  | [d] => { results := [.lit (.bool true)], args := [d] }
  | _ => none }
def spanChecksRow : OpenClaim := { program := "ytfjloeemhiffgaa", sum := "333d6eca1619657b21fae748c917670d754e4971a4dc144fdacedd625534690f", func := "saltus/saltuslaw01.SpanChecks", spec := "spanChecks", apart := false }
def SpanChecksSaid : Prop := spanChecksRow.holds Try.pinned (OpenSpec.ofChange spanChecksSpec)

/-- ITS FALSE NEIGHBOUR: 'it returns false'. Refute it at one input. -/
def spanChecksWrong : ChangeSpec := { name := "spanChecks", fn := fun _ => fun
  | [d] => { results := [.lit (.bool false)], args := [d] }
  | _ => none }
def SpanChecksWrongFalsely : Prop := spanChecksRow.holds Try.pinned (OpenSpec.ofChange spanChecksWrong)

/-- 'saltuslaw01.SpanCuts': WHATEVER THE INPUT: true; the input reads as it did. -/
def spanCutsSpec : ChangeSpec := { name := "spanCuts", fn := fun _ => fun
  | [d1, d2] => { results := [.lit (.bool true)], args := [d1, d2] }
  | _ => none }
def spanCutsRow : OpenClaim := { program := "ytfjloeemhiffgaa", sum := "333d6eca1619657b21fae748c917670d754e4971a4dc144fdacedd625534690f", func := "saltus/saltuslaw01.SpanCuts", spec := "spanCuts", apart := false }
def SpanCutsSaid : Prop := spanCutsRow.holds Try.pinned (OpenSpec.ofChange spanCutsSpec)

/-- ITS FALSE NEIGHBOUR: 'it returns false'. Refute it at one input. -/
def spanCutsWrong : ChangeSpec := { name := "spanCuts", fn := fun _ => fun
  | [d1, d2] => { results := [.lit (.bool false)], args := [d1, d2] }
  | _ => none }
def SpanCutsWrongFalsely : Prop := spanCutsRow.holds Try.pinned (OpenSpec.ofChange spanCutsWrong)

/-- 'saltuslaw01.SpanCovers': WHATEVER THE INPUT: true; the input reads as it did. -/
def spanCoversSpec : ChangeSpec := { name := "spanCovers", fn := fun _ => fun
  | [d1, d2] => { results := [.lit (.bool true)], args := [d1, d2] }
  | _ => none }
def spanCoversRow : OpenClaim := { program := "ytfjloeemhiffgaa", sum := "333d6eca1619657b21fae748c917670d754e4971a4dc144fdacedd625534690f", func := "saltus/saltuslaw01.SpanCovers", spec := "spanCovers", apart := false }
def SpanCoversSaid : Prop := spanCoversRow.holds Try.pinned (OpenSpec.ofChange spanCoversSpec)

/-- ITS FALSE NEIGHBOUR: 'it returns false'. Refute it at one input. -/
def spanCoversWrong : ChangeSpec := { name := "spanCovers", fn := fun _ => fun
  | [d1, d2] => { results := [.lit (.bool false)], args := [d1, d2] }
  | _ => none }
def SpanCoversWrongFalsely : Prop := spanCoversRow.holds Try.pinned (OpenSpec.ofChange spanCoversWrong)

/-- 'saltuslaw01.SpanParts': WHATEVER THE INPUT: true; the input reads as it did. -/
def spanPartsSpec : ChangeSpec := { name := "spanParts", fn := fun _ => fun
  | [d1, d2] => { results := [.lit (.bool true)], args := [d1, d2] }
  | _ => none }
def spanPartsRow : OpenClaim := { program := "ytfjloeemhiffgaa", sum := "333d6eca1619657b21fae748c917670d754e4971a4dc144fdacedd625534690f", func := "saltus/saltuslaw01.SpanParts", spec := "spanParts", apart := false }
def SpanPartsSaid : Prop := spanPartsRow.holds Try.pinned (OpenSpec.ofChange spanPartsSpec)

/-- ITS FALSE NEIGHBOUR: 'it returns false'. Refute it at one input. -/
def spanPartsWrong : ChangeSpec := { name := "spanParts", fn := fun _ => fun
  | [d1, d2] => { results := [.lit (.bool false)], args := [d1, d2] }
  | _ => none }
def SpanPartsWrongFalsely : Prop := spanPartsRow.holds Try.pinned (OpenSpec.ofChange spanPartsWrong)

/-- 'saltuslaw01.SpanUnions': WHATEVER THE INPUT: true; the input reads as it did. -/
def spanUnionsSpec : ChangeSpec := { name := "spanUnions", fn := fun _ => fun
  | [d] => { results := [.lit (.bool true)], args := [d] }
  | _ => none }
def spanUnionsRow : OpenClaim := { program := "ytfjloeemhiffgaa", sum := "333d6eca1619657b21fae748c917670d754e4971a4dc144fdacedd625534690f", func := "saltus/saltuslaw01.SpanUnions", spec := "spanUnions", unfollowed := true, recurses := true, apart := false }
def SpanUnionsSaid : Prop := spanUnionsRow.holds Try.pinned (OpenSpec.ofChange spanUnionsSpec)

/-- ITS FALSE NEIGHBOUR: 'it returns false'. Refute it at one input. -/
def spanUnionsWrong : ChangeSpec := { name := "spanUnions", fn := fun _ => fun
  | [d] => { results := [.lit (.bool false)], args := [d] }
  | _ => none }
def SpanUnionsWrongFalsely : Prop := spanUnionsRow.holds Try.pinned (OpenSpec.ofChange spanUnionsWrong)

/-- 'saltuslaw01.SpanOrder': WHATEVER THE INPUT: true; the input reads as it did. -/
def spanOrderSpec : ChangeSpec := { name := "spanOrder", fn := fun _ => fun
  | [d1, d2] => { results := [.lit (.bool true)], args := [d1, d2] }
  | _ => none }
def spanOrderRow : OpenClaim := { program := "ytfjloeemhiffgaa", sum := "333d6eca1619657b21fae748c917670d754e4971a4dc144fdacedd625534690f", func := "saltus/saltuslaw01.SpanOrder", spec := "spanOrder", unfollowed := true, recurses := true, apart := false }
def SpanOrderSaid : Prop := spanOrderRow.holds Try.pinned (OpenSpec.ofChange spanOrderSpec)

/-- ITS FALSE NEIGHBOUR: 'it returns false'. Refute it at one input. -/
def spanOrderWrong : ChangeSpec := { name := "spanOrder", fn := fun _ => fun
  | [d1, d2] => { results := [.lit (.bool false)], args := [d1, d2] }
  | _ => none }
def SpanOrderWrongFalsely : Prop := spanOrderRow.holds Try.pinned (OpenSpec.ofChange spanOrderWrong)

/-- 'saltuslaw19.ExtentPuts': WHATEVER THE INPUT: true; the input reads as it did. -/
def extentPutsSpec : ChangeSpec := { name := "extentPuts", fn := fun _ => fun
  | [d1, d2, d3] => { results := [.lit (.bool true)], args := [d1, d2, d3] }
  | _ => none }
def extentPutsRow : OpenClaim := { program := "ytfjloeemhiffgaa", sum := "333d6eca1619657b21fae748c917670d754e4971a4dc144fdacedd625534690f", func := "saltus/saltuslaw19.ExtentPuts", spec := "extentPuts", unfollowed := true, recurses := true, apart := false }
def ExtentPutsSaid : Prop := extentPutsRow.holds Try.pinned (OpenSpec.ofChange extentPutsSpec)

/-- ITS FALSE NEIGHBOUR: 'it returns false'. Refute it at one input. -/
def extentPutsWrong : ChangeSpec := { name := "extentPuts", fn := fun _ => fun
  | [d1, d2, d3] => { results := [.lit (.bool false)], args := [d1, d2, d3] }
  | _ => none }
def ExtentPutsWrongFalsely : Prop := extentPutsRow.holds Try.pinned (OpenSpec.ofChange extentPutsWrong)

/-- 'saltuslaw19.ExtentQueries': WHATEVER THE INPUT: true; the input reads as it did. -/
def extentQueriesSpec : ChangeSpec := { name := "extentQueries", fn := fun _ => fun
  | [d1, d2] => { results := [.lit (.bool true)], args := [d1, d2] }
  | _ => none }
def extentQueriesRow : OpenClaim := { program := "ytfjloeemhiffgaa", sum := "333d6eca1619657b21fae748c917670d754e4971a4dc144fdacedd625534690f", func := "saltus/saltuslaw19.ExtentQueries", spec := "extentQueries", unfollowed := true, recurses := true, apart := false }
def ExtentQueriesSaid : Prop := extentQueriesRow.holds Try.pinned (OpenSpec.ofChange extentQueriesSpec)

/-- ITS FALSE NEIGHBOUR: 'it returns false'. Refute it at one input. -/
def extentQueriesWrong : ChangeSpec := { name := "extentQueries", fn := fun _ => fun
  | [d1, d2] => { results := [.lit (.bool false)], args := [d1, d2] }
  | _ => none }
def ExtentQueriesWrongFalsely : Prop := extentQueriesRow.holds Try.pinned (OpenSpec.ofChange extentQueriesWrong)

/-- 'saltuslaw19.ExtentStays': WHATEVER THE INPUT: true; the input reads as it did. -/
def extentStaysSpec : ChangeSpec := { name := "extentStays", fn := fun _ => fun
  | [d1, d2, d3, d4] => { results := [.lit (.bool true)], args := [d1, d2, d3, d4] }
  | _ => none }
def extentStaysRow : OpenClaim := { program := "ytfjloeemhiffgaa", sum := "333d6eca1619657b21fae748c917670d754e4971a4dc144fdacedd625534690f", func := "saltus/saltuslaw19.ExtentStays", spec := "extentStays", unfollowed := true, recurses := true, apart := false }
def ExtentStaysSaid : Prop := extentStaysRow.holds Try.pinned (OpenSpec.ofChange extentStaysSpec)

/-- ITS FALSE NEIGHBOUR: 'it returns false'. Refute it at one input. -/
def extentStaysWrong : ChangeSpec := { name := "extentStays", fn := fun _ => fun
  | [d1, d2, d3, d4] => { results := [.lit (.bool false)], args := [d1, d2, d3, d4] }
  | _ => none }
def ExtentStaysWrongFalsely : Prop := extentStaysRow.holds Try.pinned (OpenSpec.ofChange extentStaysWrong)

/-- 'saltuslaw19.ExtentTells': WHATEVER THE INPUT: true; the input reads as it did. -/
def extentTellsSpec : ChangeSpec := { name := "extentTells", fn := fun _ => fun
  | [d1, d2, d3] => { results := [.lit (.bool true)], args := [d1, d2, d3] }
  | _ => none }
def extentTellsRow : OpenClaim := { program := "ytfjloeemhiffgaa", sum := "333d6eca1619657b21fae748c917670d754e4971a4dc144fdacedd625534690f", func := "saltus/saltuslaw19.ExtentTells", spec := "extentTells", unfollowed := true, recurses := true, apart := false }
def ExtentTellsSaid : Prop := extentTellsRow.holds Try.pinned (OpenSpec.ofChange extentTellsSpec)

/-- ITS FALSE NEIGHBOUR: 'it returns false'. Refute it at one input. -/
def extentTellsWrong : ChangeSpec := { name := "extentTells", fn := fun _ => fun
  | [d1, d2, d3] => { results := [.lit (.bool false)], args := [d1, d2, d3] }
  | _ => none }
def ExtentTellsWrongFalsely : Prop := extentTellsRow.holds Try.pinned (OpenSpec.ofChange extentTellsWrong)

/-- 'saltuslaw20.ModelWrites': WHATEVER THE INPUT: true; the input reads as it did. -/
def modelWritesSpec : ChangeSpec := { name := "modelWrites", fn := fun _ => fun
  | [d1, d2, d3, d4, d5] => { results := [.lit (.bool true)], args := [d1, d2, d3, d4, d5] }
  | _ => none }
def modelWritesRow : OpenClaim := { program := "ytfjloeemhiffgaa", sum := "333d6eca1619657b21fae748c917670d754e4971a4dc144fdacedd625534690f", func := "saltus/saltuslaw20.ModelWrites", spec := "modelWrites", inPlace := ["internal/abi.NoEscape", "internal/bytealg.MakeNoZero", "slices.overlaps[saltus/api.Cell]"], unfollowed := true, recurses := true, apart := false }
def ModelWritesSaid : Prop := modelWritesRow.holds Try.pinned (OpenSpec.ofChange modelWritesSpec)

/-- ITS FALSE NEIGHBOUR: 'it returns false'. Refute it at one input. -/
def modelWritesWrong : ChangeSpec := { name := "modelWrites", fn := fun _ => fun
  | [d1, d2, d3, d4, d5] => { results := [.lit (.bool false)], args := [d1, d2, d3, d4, d5] }
  | _ => none }
def ModelWritesWrongFalsely : Prop := modelWritesRow.holds Try.pinned (OpenSpec.ofChange modelWritesWrong)

/-- 'saltuslaw20.ModelClears': WHATEVER THE INPUT: true; the input reads as it did. -/
def modelClearsSpec : ChangeSpec := { name := "modelClears", fn := fun _ => fun
  | [d1, d2] => { results := [.lit (.bool true)], args := [d1, d2] }
  | _ => none }
def modelClearsRow : OpenClaim := { program := "ytfjloeemhiffgaa", sum := "333d6eca1619657b21fae748c917670d754e4971a4dc144fdacedd625534690f", func := "saltus/saltuslaw20.ModelClears", spec := "modelClears", inPlace := ["internal/abi.NoEscape", "internal/bytealg.MakeNoZero", "slices.overlaps[saltus/api.Cell]"], unfollowed := true, recurses := true, apart := false }
def ModelClearsSaid : Prop := modelClearsRow.holds Try.pinned (OpenSpec.ofChange modelClearsSpec)

/-- ITS FALSE NEIGHBOUR: 'it returns false'. Refute it at one input. -/
def modelClearsWrong : ChangeSpec := { name := "modelClears", fn := fun _ => fun
  | [d1, d2] => { results := [.lit (.bool false)], args := [d1, d2] }
  | _ => none }
def ModelClearsWrongFalsely : Prop := modelClearsRow.holds Try.pinned (OpenSpec.ofChange modelClearsWrong)

/-- 'saltuslaw20.ModelReads': WHATEVER THE INPUT: true; the input reads as it did. -/
def modelReadsSpec : ChangeSpec := { name := "modelReads", fn := fun _ => fun
  | [d1, d2, d3, d4, d5] => { results := [.lit (.bool true)], args := [d1, d2, d3, d4, d5] }
  | _ => none }
def modelReadsRow : OpenClaim := { program := "ytfjloeemhiffgaa", sum := "333d6eca1619657b21fae748c917670d754e4971a4dc144fdacedd625534690f", func := "saltus/saltuslaw20.ModelReads", spec := "modelReads", inPlace := ["internal/abi.NoEscape", "internal/bytealg.MakeNoZero", "slices.overlaps[saltus/api.Cell]"], unfollowed := true, recurses := true, apart := false }
def ModelReadsSaid : Prop := modelReadsRow.holds Try.pinned (OpenSpec.ofChange modelReadsSpec)

/-- ITS FALSE NEIGHBOUR: 'it returns false'. Refute it at one input. -/
def modelReadsWrong : ChangeSpec := { name := "modelReads", fn := fun _ => fun
  | [d1, d2, d3, d4, d5] => { results := [.lit (.bool false)], args := [d1, d2, d3, d4, d5] }
  | _ => none }
def ModelReadsWrongFalsely : Prop := modelReadsRow.holds Try.pinned (OpenSpec.ofChange modelReadsWrong)

/- THE SECOND FORM. 'bulk': how many values and letters a reading holds, each counted each time it is reached (what is shared counts as often as it is met; a slice's spare places count too). A statement '..UptoSaid' is the law's where the arguments, and the package variables that the reading takes, are together of bulk at most 1048576: NARROWER than '..Said'. Prove '..Said' where nothing that the law and all that it calls make is longer than what came in: it says more and counts as full. Else prove '..UptoSaid'. A law counts once. -/
mutual
def uptoBulk {H : Type} : DataW H → Nat
  | .lit (.string bytes) => bytes.length + 1
  | .lit _ => 1
  | .nil => 1
  | .ptr d => uptoBulk d + 1
  | .slice elems spare => uptoBulkAll elems + uptoBulkAll spare + 1
  | .agg parts => uptoBulkAll parts + 1
  | .iface _ d => uptoBulk d + 1
  | .map entries => uptoBulkEntries entries + 1
  | .held _ => 1
def uptoBulkAll {H : Type} : List (DataW H) → Nat
  | [] => 0
  | d :: r => uptoBulk d + uptoBulkAll r
def uptoBulkEntries {H : Type} : List (Lit × DataW H) → Nat
  | [] => 0
  | x :: r => uptoBulkEntry x + uptoBulkEntries r
def uptoBulkEntry {H : Type} : Lit × DataW H → Nat
  | (.string bytes, d) => bytes.length + uptoBulk d + 1
  | (_, d) => uptoBulk d + 1
 end
def uptoSmall : (H : Type) → List (DataW H) → Bool := fun _ ds => decide (uptoBulkAll ds ≤ 1048576)
def OpenSpec.upto (s : _root_.Go.ChangeSpec) : _root_.Go.OpenSpec := { _root_.Go.OpenSpec.ofChange s with cond := some uptoSmall }

/-- 'saltuslaw01.SpanChecks', WHERE WHAT IT READS IS OF BULK AT MOST 1048576: true; the input reads as it did. -/
def spanChecksUptoRow : OpenClaim := { program := "ytfjloeemhiffgaa", sum := "333d6eca1619657b21fae748c917670d754e4971a4dc144fdacedd625534690f", func := "saltus/saltuslaw01.SpanChecks", spec := "spanChecks", apart := false, narrowed := true }
def SpanChecksUptoSaid : Prop := spanChecksUptoRow.holds Try.pinned (OpenSpec.upto spanChecksSpec)

/-- 'saltuslaw01.SpanCuts', WHERE WHAT IT READS IS OF BULK AT MOST 1048576: true; the input reads as it did. -/
def spanCutsUptoRow : OpenClaim := { program := "ytfjloeemhiffgaa", sum := "333d6eca1619657b21fae748c917670d754e4971a4dc144fdacedd625534690f", func := "saltus/saltuslaw01.SpanCuts", spec := "spanCuts", apart := false, narrowed := true }
def SpanCutsUptoSaid : Prop := spanCutsUptoRow.holds Try.pinned (OpenSpec.upto spanCutsSpec)

/-- 'saltuslaw01.SpanCovers', WHERE WHAT IT READS IS OF BULK AT MOST 1048576: true; the input reads as it did. -/
def spanCoversUptoRow : OpenClaim := { program := "ytfjloeemhiffgaa", sum := "333d6eca1619657b21fae748c917670d754e4971a4dc144fdacedd625534690f", func := "saltus/saltuslaw01.SpanCovers", spec := "spanCovers", apart := false, narrowed := true }
def SpanCoversUptoSaid : Prop := spanCoversUptoRow.holds Try.pinned (OpenSpec.upto spanCoversSpec)

/-- 'saltuslaw01.SpanParts', WHERE WHAT IT READS IS OF BULK AT MOST 1048576: true; the input reads as it did. -/
def spanPartsUptoRow : OpenClaim := { program := "ytfjloeemhiffgaa", sum := "333d6eca1619657b21fae748c917670d754e4971a4dc144fdacedd625534690f", func := "saltus/saltuslaw01.SpanParts", spec := "spanParts", apart := false, narrowed := true }
def SpanPartsUptoSaid : Prop := spanPartsUptoRow.holds Try.pinned (OpenSpec.upto spanPartsSpec)

/-- 'saltuslaw01.SpanUnions', WHERE WHAT IT READS IS OF BULK AT MOST 1048576: true; the input reads as it did. -/
def spanUnionsUptoRow : OpenClaim := { program := "ytfjloeemhiffgaa", sum := "333d6eca1619657b21fae748c917670d754e4971a4dc144fdacedd625534690f", func := "saltus/saltuslaw01.SpanUnions", spec := "spanUnions", unfollowed := true, recurses := true, apart := false, narrowed := true }
def SpanUnionsUptoSaid : Prop := spanUnionsUptoRow.holds Try.pinned (OpenSpec.upto spanUnionsSpec)

/-- 'saltuslaw01.SpanOrder', WHERE WHAT IT READS IS OF BULK AT MOST 1048576: true; the input reads as it did. -/
def spanOrderUptoRow : OpenClaim := { program := "ytfjloeemhiffgaa", sum := "333d6eca1619657b21fae748c917670d754e4971a4dc144fdacedd625534690f", func := "saltus/saltuslaw01.SpanOrder", spec := "spanOrder", unfollowed := true, recurses := true, apart := false, narrowed := true }
def SpanOrderUptoSaid : Prop := spanOrderUptoRow.holds Try.pinned (OpenSpec.upto spanOrderSpec)

/-- 'saltuslaw19.ExtentPuts', WHERE WHAT IT READS IS OF BULK AT MOST 1048576: true; the input reads as it did. -/
def extentPutsUptoRow : OpenClaim := { program := "ytfjloeemhiffgaa", sum := "333d6eca1619657b21fae748c917670d754e4971a4dc144fdacedd625534690f", func := "saltus/saltuslaw19.ExtentPuts", spec := "extentPuts", unfollowed := true, recurses := true, apart := false, narrowed := true }
def ExtentPutsUptoSaid : Prop := extentPutsUptoRow.holds Try.pinned (OpenSpec.upto extentPutsSpec)

/-- 'saltuslaw19.ExtentQueries', WHERE WHAT IT READS IS OF BULK AT MOST 1048576: true; the input reads as it did. -/
def extentQueriesUptoRow : OpenClaim := { program := "ytfjloeemhiffgaa", sum := "333d6eca1619657b21fae748c917670d754e4971a4dc144fdacedd625534690f", func := "saltus/saltuslaw19.ExtentQueries", spec := "extentQueries", unfollowed := true, recurses := true, apart := false, narrowed := true }
def ExtentQueriesUptoSaid : Prop := extentQueriesUptoRow.holds Try.pinned (OpenSpec.upto extentQueriesSpec)

/-- 'saltuslaw19.ExtentStays', WHERE WHAT IT READS IS OF BULK AT MOST 1048576: true; the input reads as it did. -/
def extentStaysUptoRow : OpenClaim := { program := "ytfjloeemhiffgaa", sum := "333d6eca1619657b21fae748c917670d754e4971a4dc144fdacedd625534690f", func := "saltus/saltuslaw19.ExtentStays", spec := "extentStays", unfollowed := true, recurses := true, apart := false, narrowed := true }
def ExtentStaysUptoSaid : Prop := extentStaysUptoRow.holds Try.pinned (OpenSpec.upto extentStaysSpec)

/-- 'saltuslaw19.ExtentTells', WHERE WHAT IT READS IS OF BULK AT MOST 1048576: true; the input reads as it did. -/
def extentTellsUptoRow : OpenClaim := { program := "ytfjloeemhiffgaa", sum := "333d6eca1619657b21fae748c917670d754e4971a4dc144fdacedd625534690f", func := "saltus/saltuslaw19.ExtentTells", spec := "extentTells", unfollowed := true, recurses := true, apart := false, narrowed := true }
def ExtentTellsUptoSaid : Prop := extentTellsUptoRow.holds Try.pinned (OpenSpec.upto extentTellsSpec)

/-- 'saltuslaw20.ModelWrites', WHERE WHAT IT READS IS OF BULK AT MOST 1048576: true; the input reads as it did. -/
def modelWritesUptoRow : OpenClaim := { program := "ytfjloeemhiffgaa", sum := "333d6eca1619657b21fae748c917670d754e4971a4dc144fdacedd625534690f", func := "saltus/saltuslaw20.ModelWrites", spec := "modelWrites", inPlace := ["internal/abi.NoEscape", "internal/bytealg.MakeNoZero", "slices.overlaps[saltus/api.Cell]"], unfollowed := true, recurses := true, apart := false, narrowed := true }
def ModelWritesUptoSaid : Prop := modelWritesUptoRow.holds Try.pinned (OpenSpec.upto modelWritesSpec)

/-- 'saltuslaw20.ModelClears', WHERE WHAT IT READS IS OF BULK AT MOST 1048576: true; the input reads as it did. -/
def modelClearsUptoRow : OpenClaim := { program := "ytfjloeemhiffgaa", sum := "333d6eca1619657b21fae748c917670d754e4971a4dc144fdacedd625534690f", func := "saltus/saltuslaw20.ModelClears", spec := "modelClears", inPlace := ["internal/abi.NoEscape", "internal/bytealg.MakeNoZero", "slices.overlaps[saltus/api.Cell]"], unfollowed := true, recurses := true, apart := false, narrowed := true }
def ModelClearsUptoSaid : Prop := modelClearsUptoRow.holds Try.pinned (OpenSpec.upto modelClearsSpec)

/-- 'saltuslaw20.ModelReads', WHERE WHAT IT READS IS OF BULK AT MOST 1048576: true; the input reads as it did. -/
def modelReadsUptoRow : OpenClaim := { program := "ytfjloeemhiffgaa", sum := "333d6eca1619657b21fae748c917670d754e4971a4dc144fdacedd625534690f", func := "saltus/saltuslaw20.ModelReads", spec := "modelReads", inPlace := ["internal/abi.NoEscape", "internal/bytealg.MakeNoZero", "slices.overlaps[saltus/api.Cell]"], unfollowed := true, recurses := true, apart := false, narrowed := true }
def ModelReadsUptoSaid : Prop := modelReadsUptoRow.holds Try.pinned (OpenSpec.upto modelReadsSpec)

end Rows
end Go.Proofs.Ytfjloeemhiffgaa
