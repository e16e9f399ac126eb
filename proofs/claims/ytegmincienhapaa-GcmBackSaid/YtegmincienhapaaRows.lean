/-
  No cell of these rows narrows 'for every input' (looked for: loops, veiled, ifaces, maps, wideKeys, modest, calm, conditions, laid).
  DERIVED. THE GIVEN ROWS OF THIS SEAT. 10 by the template 'for every input the law returns true; each argument reads behind the call as it read before'; 0 by the template 'total and deterministic' (their statements: YtegmincienhapaaTotals.lean).
  GIVEN WITH THE SEED: the statements are not yours to turn. If you find one false, say at which input.
  Laid BY PROGRAM, IN A SANDBOX (cutbox-rows.mjs): the forced cells as the released guide's own fill.sh prints them over the translation 62ded49fb4f20e32… (all of the seat's roots in one cut). By AI agents, Wed Nov 11 2026. No macro, syntax, notation, axiom, sorry.
-/
import Derived.Test.YtegmincienhapaaChecked
import GoSem.Claim
import GoSem.ClaimJoined
import GoSem.ClaimMapViews
import Derived.JoinedTies
import Derived.KernelRfl
namespace Go.Proofs.Ytegmincienhapaa
/- THE CELL 'sum', in the pinned program and in every row, IS THE sha256 OF THE DUMP (.gsa) THAT YtegmincienhapaaProg.lean LOADS. Nothing in Lean hashes anything: it is a label: what it is worth is what the hold of that sum in a sandbox is worth. -/
noncomputable def Try.pinned : Pinned := { name := "ytegmincienhapaa", sum := "62ded49fb4f20e32c16b416952f29bbae34dfb503f8f3437cd115afd76dbf7ec", checked := Try.checked }
namespace Rows
def none {H : Type} : Left H := { results := [], args := [] }

/-- 'saltuslaw02.CodecRises': WHATEVER THE INPUT: true; the input reads as it did. -/
def codecRisesSpec : ChangeSpec := { name := "codecRises", fn := fun _ => fun
  | [d1, d2] => { results := [.lit (.bool true)], args := [d1, d2] }
  | _ => none }
def codecRisesRow : OpenClaim := { program := "ytegmincienhapaa", sum := "62ded49fb4f20e32c16b416952f29bbae34dfb503f8f3437cd115afd76dbf7ec", func := "saltus/saltuslaw02.CodecRises", spec := "codecRises", apart := false }
def CodecRisesSaid : Prop := codecRisesRow.holds Try.pinned (OpenSpec.ofChange codecRisesSpec)

/-- ITS FALSE NEIGHBOUR: 'it returns false'. Refute it at one input. -/
def codecRisesWrong : ChangeSpec := { name := "codecRises", fn := fun _ => fun
  | [d1, d2] => { results := [.lit (.bool false)], args := [d1, d2] }
  | _ => none }
def CodecRisesWrongFalsely : Prop := codecRisesRow.holds Try.pinned (OpenSpec.ofChange codecRisesWrong)

/-- 'saltuslaw02.CodecJoins': WHATEVER THE INPUT: true; the input reads as it did. -/
def codecJoinsSpec : ChangeSpec := { name := "codecJoins", fn := fun _ => fun
  | [d1, d2, d3] => { results := [.lit (.bool true)], args := [d1, d2, d3] }
  | _ => none }
def codecJoinsRow : OpenClaim := { program := "ytegmincienhapaa", sum := "62ded49fb4f20e32c16b416952f29bbae34dfb503f8f3437cd115afd76dbf7ec", func := "saltus/saltuslaw02.CodecJoins", spec := "codecJoins", inPlace := ["internal/abi.NoEscape"], apart := false }
def CodecJoinsSaid : Prop := codecJoinsRow.holds Try.pinned (OpenSpec.ofChange codecJoinsSpec)

/-- ITS FALSE NEIGHBOUR: 'it returns false'. Refute it at one input. -/
def codecJoinsWrong : ChangeSpec := { name := "codecJoins", fn := fun _ => fun
  | [d1, d2, d3] => { results := [.lit (.bool false)], args := [d1, d2, d3] }
  | _ => none }
def CodecJoinsWrongFalsely : Prop := codecJoinsRow.holds Try.pinned (OpenSpec.ofChange codecJoinsWrong)

/-- 'saltuslaw07.GhashMuls': WHATEVER THE INPUT: true; the input reads as it did. -/
def ghashMulsSpec : ChangeSpec := { name := "ghashMuls", fn := fun _ => fun
  | [d1, d2] => { results := [.lit (.bool true)], args := [d1, d2] }
  | _ => none }
def ghashMulsRow : OpenClaim := { program := "ytegmincienhapaa", sum := "62ded49fb4f20e32c16b416952f29bbae34dfb503f8f3437cd115afd76dbf7ec", func := "saltus/saltuslaw07.GhashMuls", spec := "ghashMuls", apart := false }
def GhashMulsSaid : Prop := ghashMulsRow.holds Try.pinned (OpenSpec.ofChange ghashMulsSpec)

/-- ITS FALSE NEIGHBOUR: 'it returns false'. Refute it at one input. -/
def ghashMulsWrong : ChangeSpec := { name := "ghashMuls", fn := fun _ => fun
  | [d1, d2] => { results := [.lit (.bool false)], args := [d1, d2] }
  | _ => none }
def GhashMulsWrongFalsely : Prop := ghashMulsRow.holds Try.pinned (OpenSpec.ofChange ghashMulsWrong)

/-- 'saltuslaw07.GhashField': WHATEVER THE INPUT: true; the input reads as it did. -/
def ghashFieldSpec : ChangeSpec := { name := "ghashField", fn := fun _ => fun
  | [d1, d2, d3] => { results := [.lit (.bool true)], args := [d1, d2, d3] }
  | _ => none }
def ghashFieldRow : OpenClaim := { program := "ytegmincienhapaa", sum := "62ded49fb4f20e32c16b416952f29bbae34dfb503f8f3437cd115afd76dbf7ec", func := "saltus/saltuslaw07.GhashField", spec := "ghashField", apart := false }
def GhashFieldSaid : Prop := ghashFieldRow.holds Try.pinned (OpenSpec.ofChange ghashFieldSpec)

/-- ITS FALSE NEIGHBOUR: 'it returns false'. Refute it at one input. -/
def ghashFieldWrong : ChangeSpec := { name := "ghashField", fn := fun _ => fun
  | [d1, d2, d3] => { results := [.lit (.bool false)], args := [d1, d2, d3] }
  | _ => none }
def GhashFieldWrongFalsely : Prop := ghashFieldRow.holds Try.pinned (OpenSpec.ofChange ghashFieldWrong)

/-- 'saltuslaw07.GhashSums': WHATEVER THE INPUT: true; the input reads as it did. -/
def ghashSumsSpec : ChangeSpec := { name := "ghashSums", fn := fun _ => fun
  | [d1, d2, d3] => { results := [.lit (.bool true)], args := [d1, d2, d3] }
  | _ => none }
def ghashSumsRow : OpenClaim := { program := "ytegmincienhapaa", sum := "62ded49fb4f20e32c16b416952f29bbae34dfb503f8f3437cd115afd76dbf7ec", func := "saltus/saltuslaw07.GhashSums", spec := "ghashSums", inPlace := ["internal/abi.NoEscape", "internal/bytealg.MakeNoZero"], unfollowed := true, recurses := true, apart := false }
def GhashSumsSaid : Prop := ghashSumsRow.holds Try.pinned (OpenSpec.ofChange ghashSumsSpec)

/-- ITS FALSE NEIGHBOUR: 'it returns false'. Refute it at one input. -/
def ghashSumsWrong : ChangeSpec := { name := "ghashSums", fn := fun _ => fun
  | [d1, d2, d3] => { results := [.lit (.bool false)], args := [d1, d2, d3] }
  | _ => none }
def GhashSumsWrongFalsely : Prop := ghashSumsRow.holds Try.pinned (OpenSpec.ofChange ghashSumsWrong)

/-- 'saltuslaw07.GhashApart': WHATEVER THE INPUT: true; the input reads as it did. -/
def ghashApartSpec : ChangeSpec := { name := "ghashApart", fn := fun _ => fun
  | [d1, d2, d3, d4] => { results := [.lit (.bool true)], args := [d1, d2, d3, d4] }
  | _ => none }
def ghashApartRow : OpenClaim := { program := "ytegmincienhapaa", sum := "62ded49fb4f20e32c16b416952f29bbae34dfb503f8f3437cd115afd76dbf7ec", func := "saltus/saltuslaw07.GhashApart", spec := "ghashApart", inPlace := ["internal/abi.NoEscape", "internal/bytealg.MakeNoZero"], unfollowed := true, recurses := true, apart := false }
def GhashApartSaid : Prop := ghashApartRow.holds Try.pinned (OpenSpec.ofChange ghashApartSpec)

/-- ITS FALSE NEIGHBOUR: 'it returns false'. Refute it at one input. -/
def ghashApartWrong : ChangeSpec := { name := "ghashApart", fn := fun _ => fun
  | [d1, d2, d3, d4] => { results := [.lit (.bool false)], args := [d1, d2, d3, d4] }
  | _ => none }
def GhashApartWrongFalsely : Prop := ghashApartRow.holds Try.pinned (OpenSpec.ofChange ghashApartWrong)

/-- 'saltuslaw08.GcmSeals': WHATEVER THE INPUT: true; the input reads as it did. -/
def gcmSealsSpec : ChangeSpec := { name := "gcmSeals", fn := fun _ => fun
  | [d1, d2, d3, d4] => { results := [.lit (.bool true)], args := [d1, d2, d3, d4] }
  | _ => none }
def gcmSealsRow : OpenClaim := { program := "ytegmincienhapaa", sum := "62ded49fb4f20e32c16b416952f29bbae34dfb503f8f3437cd115afd76dbf7ec", func := "saltus/saltuslaw08.GcmSeals", spec := "gcmSeals", inPlace := ["internal/abi.NoEscape", "internal/bytealg.MakeNoZero"], unfollowed := true, recurses := true, apart := false }
def GcmSealsSaid : Prop := gcmSealsRow.holds Try.pinned (OpenSpec.ofChange gcmSealsSpec)

/-- ITS FALSE NEIGHBOUR: 'it returns false'. Refute it at one input. -/
def gcmSealsWrong : ChangeSpec := { name := "gcmSeals", fn := fun _ => fun
  | [d1, d2, d3, d4] => { results := [.lit (.bool false)], args := [d1, d2, d3, d4] }
  | _ => none }
def GcmSealsWrongFalsely : Prop := gcmSealsRow.holds Try.pinned (OpenSpec.ofChange gcmSealsWrong)

/-- 'saltuslaw08.GcmStreams': WHATEVER THE INPUT: true; the input reads as it did. -/
def gcmStreamsSpec : ChangeSpec := { name := "gcmStreams", fn := fun _ => fun
  | [d1, d2, d3, d4] => { results := [.lit (.bool true)], args := [d1, d2, d3, d4] }
  | _ => none }
def gcmStreamsRow : OpenClaim := { program := "ytegmincienhapaa", sum := "62ded49fb4f20e32c16b416952f29bbae34dfb503f8f3437cd115afd76dbf7ec", func := "saltus/saltuslaw08.GcmStreams", spec := "gcmStreams", inPlace := ["internal/abi.NoEscape", "internal/bytealg.MakeNoZero"], unfollowed := true, recurses := true, apart := false }
def GcmStreamsSaid : Prop := gcmStreamsRow.holds Try.pinned (OpenSpec.ofChange gcmStreamsSpec)

/-- ITS FALSE NEIGHBOUR: 'it returns false'. Refute it at one input. -/
def gcmStreamsWrong : ChangeSpec := { name := "gcmStreams", fn := fun _ => fun
  | [d1, d2, d3, d4] => { results := [.lit (.bool false)], args := [d1, d2, d3, d4] }
  | _ => none }
def GcmStreamsWrongFalsely : Prop := gcmStreamsRow.holds Try.pinned (OpenSpec.ofChange gcmStreamsWrong)

/-- 'saltuslaw08.GcmOpens': WHATEVER THE INPUT: true; the input reads as it did. -/
def gcmOpensSpec : ChangeSpec := { name := "gcmOpens", fn := fun _ => fun
  | [d1, d2, d3, d4] => { results := [.lit (.bool true)], args := [d1, d2, d3, d4] }
  | _ => none }
def gcmOpensRow : OpenClaim := { program := "ytegmincienhapaa", sum := "62ded49fb4f20e32c16b416952f29bbae34dfb503f8f3437cd115afd76dbf7ec", func := "saltus/saltuslaw08.GcmOpens", spec := "gcmOpens", inPlace := ["internal/abi.NoEscape", "internal/bytealg.MakeNoZero"], unfollowed := true, recurses := true, apart := false }
def GcmOpensSaid : Prop := gcmOpensRow.holds Try.pinned (OpenSpec.ofChange gcmOpensSpec)

/-- ITS FALSE NEIGHBOUR: 'it returns false'. Refute it at one input. -/
def gcmOpensWrong : ChangeSpec := { name := "gcmOpens", fn := fun _ => fun
  | [d1, d2, d3, d4] => { results := [.lit (.bool false)], args := [d1, d2, d3, d4] }
  | _ => none }
def GcmOpensWrongFalsely : Prop := gcmOpensRow.holds Try.pinned (OpenSpec.ofChange gcmOpensWrong)

/-- 'saltuslaw08.GcmBack': WHATEVER THE INPUT: true; the input reads as it did. -/
def gcmBackSpec : ChangeSpec := { name := "gcmBack", fn := fun _ => fun
  | [d1, d2, d3, d4, d5, d6] => { results := [.lit (.bool true)], args := [d1, d2, d3, d4, d5, d6] }
  | _ => none }
def gcmBackRow : OpenClaim := { program := "ytegmincienhapaa", sum := "62ded49fb4f20e32c16b416952f29bbae34dfb503f8f3437cd115afd76dbf7ec", func := "saltus/saltuslaw08.GcmBack", spec := "gcmBack", inPlace := ["internal/abi.NoEscape", "internal/bytealg.MakeNoZero"], unfollowed := true, recurses := true, apart := false }
def GcmBackSaid : Prop := gcmBackRow.holds Try.pinned (OpenSpec.ofChange gcmBackSpec)

/-- ITS FALSE NEIGHBOUR: 'it returns false'. Refute it at one input. -/
def gcmBackWrong : ChangeSpec := { name := "gcmBack", fn := fun _ => fun
  | [d1, d2, d3, d4, d5, d6] => { results := [.lit (.bool false)], args := [d1, d2, d3, d4, d5, d6] }
  | _ => none }
def GcmBackWrongFalsely : Prop := gcmBackRow.holds Try.pinned (OpenSpec.ofChange gcmBackWrong)

/- THE SECOND FORM. 'bulk': how many values and letters a reading holds, each counted each time it is reached (what is shared counts as often as it is met; a slice's spare places count too). A statement '..UptoSaid' is the law's where the arguments, and the package variables that the reading takes, are together of bulk at most 1048576: NARROWER than '..Said'. Prove '..Said' where nothing that the law and all that it calls make is longer than what came in: it says more and counts as full. Else prove '..UptoSaid'. A law counts once. -/
mutual
def uptoBulk {H : Type} : DataW H → Nat
  | .lit (.string bytes) => bytes.length + 1
  | .lit _ => 1
  | .nil => 1
  | .ptr d => uptoBulk d + 1
  | .slice elems spare => uptoBulkAll elems + uptoBulkAll spare + 1
  | .agg parts => uptoBulkAll parts + 1
  | .iface _ d => uptoBulk d + 1
  | .map entries => uptoBulkEntries entries + 1
  | .held _ => 1
def uptoBulkAll {H : Type} : List (DataW H) → Nat
  | [] => 0
  | d :: r => uptoBulk d + uptoBulkAll r
def uptoBulkEntries {H : Type} : List (Lit × DataW H) → Nat
  | [] => 0
  | x :: r => uptoBulkEntry x + uptoBulkEntries r
def uptoBulkEntry {H : Type} : Lit × DataW H → Nat
  | (.string bytes, d) => bytes.length + uptoBulk d + 1
  | (_, d) => uptoBulk d + 1
 end
def uptoSmall : (H : Type) → List (DataW H) → Bool := fun _ ds => decide (uptoBulkAll ds ≤ 1048576)
def OpenSpec.upto (s : _root_.Go.ChangeSpec) : _root_.Go.OpenSpec := { _root_.Go.OpenSpec.ofChange s with cond := some uptoSmall }

/-- 'saltuslaw02.CodecRises', WHERE WHAT IT READS IS OF BULK AT MOST 1048576: true; the input reads as it did. -/
def codecRisesUptoRow : OpenClaim := { program := "ytegmincienhapaa", sum := "62ded49fb4f20e32c16b416952f29bbae34dfb503f8f3437cd115afd76dbf7ec", func := "saltus/saltuslaw02.CodecRises", spec := "codecRises", apart := false, narrowed := true }
def CodecRisesUptoSaid : Prop := codecRisesUptoRow.holds Try.pinned (OpenSpec.upto codecRisesSpec)

/-- 'saltuslaw02.CodecJoins', WHERE WHAT IT READS IS OF BULK AT MOST 1048576: true; the input reads as it did. -/
def codecJoinsUptoRow : OpenClaim := { program := "ytegmincienhapaa", sum := "62ded49fb4f20e32c16b416952f29bbae34dfb503f8f3437cd115afd76dbf7ec", func := "saltus/saltuslaw02.CodecJoins", spec := "codecJoins", inPlace := ["internal/abi.NoEscape"], apart := false, narrowed := true }
def CodecJoinsUptoSaid : Prop := codecJoinsUptoRow.holds Try.pinned (OpenSpec.upto codecJoinsSpec)

/-- 'saltuslaw07.GhashMuls', WHERE WHAT IT READS IS OF BULK AT MOST 1048576: true; the input reads as it did. -/
def ghashMulsUptoRow : OpenClaim := { program := "ytegmincienhapaa", sum := "62ded49fb4f20e32c16b416952f29bbae34dfb503f8f3437cd115afd76dbf7ec", func := "saltus/saltuslaw07.GhashMuls", spec := "ghashMuls", apart := false, narrowed := true }
def GhashMulsUptoSaid : Prop := ghashMulsUptoRow.holds Try.pinned (OpenSpec.upto ghashMulsSpec)

/-- 'saltuslaw07.GhashField', WHERE WHAT IT READS IS OF BULK AT MOST 1048576: true; the input reads as it did. -/
def ghashFieldUptoRow : OpenClaim := { program := "ytegmincienhapaa", sum := "62ded49fb4f20e32c16b416952f29bbae34dfb503f8f3437cd115afd76dbf7ec", func := "saltus/saltuslaw07.GhashField", spec := "ghashField", apart := false, narrowed := true }
def GhashFieldUptoSaid : Prop := ghashFieldUptoRow.holds Try.pinned (OpenSpec.upto ghashFieldSpec)

/-- 'saltuslaw07.GhashSums', WHERE WHAT IT READS IS OF BULK AT MOST 1048576: true; the input reads as it did. -/
def ghashSumsUptoRow : OpenClaim := { program := "ytegmincienhapaa", sum := "62ded49fb4f20e32c16b416952f29bbae34dfb503f8f3437cd115afd76dbf7ec", func := "saltus/saltuslaw07.GhashSums", spec := "ghashSums", inPlace := ["internal/abi.NoEscape", "internal/bytealg.MakeNoZero"], unfollowed := true, recurses := true, apart := false, narrowed := true }
def GhashSumsUptoSaid : Prop := ghashSumsUptoRow.holds Try.pinned (OpenSpec.upto ghashSumsSpec)

/-- 'saltuslaw07.GhashApart', WHERE WHAT IT READS IS OF BULK AT MOST 1048576: true; the input reads as it did. -/
def ghashApartUptoRow : OpenClaim := { program := "ytegmincienhapaa", sum := "62ded49fb4f20e32c16b416952f29bbae34dfb503f8f3437cd115afd76dbf7ec", func := "saltus/saltuslaw07.GhashApart", spec := "ghashApart", inPlace := ["internal/abi.NoEscape", "internal/bytealg.MakeNoZero"], unfollowed := true, recurses := true, apart := false, narrowed := true }
def GhashApartUptoSaid : Prop := ghashApartUptoRow.holds Try.pinned (OpenSpec.upto ghashApartSpec)

/-- 'saltuslaw08.GcmSeals', WHERE WHAT IT READS IS OF BULK AT MOST 1048576: true; the input reads as it did. -/
def gcmSealsUptoRow : OpenClaim := { program := "ytegmincienhapaa", sum := "62ded49fb4f20e32c16b416952f29bbae34dfb503f8f3437cd115afd76dbf7ec", func := "saltus/saltuslaw08.GcmSeals", spec := "gcmSeals", inPlace := ["internal/abi.NoEscape", "internal/bytealg.MakeNoZero"], unfollowed := true, recurses := true, apart := false, narrowed := true }
def GcmSealsUptoSaid : Prop := gcmSealsUptoRow.holds Try.pinned (OpenSpec.upto gcmSealsSpec)

/-- 'saltuslaw08.GcmStreams', WHERE WHAT IT READS IS OF BULK AT MOST 1048576: true; the input reads as it did. -/
def gcmStreamsUptoRow : OpenClaim := { program := "ytegmincienhapaa", sum := "62ded49fb4f20e32c16b416952f29bbae34dfb503f8f3437cd115afd76dbf7ec", func := "saltus/saltuslaw08.GcmStreams", spec := "gcmStreams", inPlace := ["internal/abi.NoEscape", "internal/bytealg.MakeNoZero"], unfollowed := true, recurses := true, apart := false, narrowed := true }
def GcmStreamsUptoSaid : Prop := gcmStreamsUptoRow.holds Try.pinned (OpenSpec.upto gcmStreamsSpec)

/-- 'saltuslaw08.GcmOpens', WHERE WHAT IT READS IS OF BULK AT MOST 1048576: true; the input reads as it did. -/
def gcmOpensUptoRow : OpenClaim := { program := "ytegmincienhapaa", sum := "62ded49fb4f20e32c16b416952f29bbae34dfb503f8f3437cd115afd76dbf7ec", func := "saltus/saltuslaw08.GcmOpens", spec := "gcmOpens", inPlace := ["internal/abi.NoEscape", "internal/bytealg.MakeNoZero"], unfollowed := true, recurses := true, apart := false, narrowed := true }
def GcmOpensUptoSaid : Prop := gcmOpensUptoRow.holds Try.pinned (OpenSpec.upto gcmOpensSpec)

/-- 'saltuslaw08.GcmBack', WHERE WHAT IT READS IS OF BULK AT MOST 1048576: true; the input reads as it did. -/
def gcmBackUptoRow : OpenClaim := { program := "ytegmincienhapaa", sum := "62ded49fb4f20e32c16b416952f29bbae34dfb503f8f3437cd115afd76dbf7ec", func := "saltus/saltuslaw08.GcmBack", spec := "gcmBack", inPlace := ["internal/abi.NoEscape", "internal/bytealg.MakeNoZero"], unfollowed := true, recurses := true, apart := false, narrowed := true }
def GcmBackUptoSaid : Prop := gcmBackUptoRow.holds Try.pinned (OpenSpec.upto gcmBackSpec)

end Rows
end Go.Proofs.Ytegmincienhapaa
