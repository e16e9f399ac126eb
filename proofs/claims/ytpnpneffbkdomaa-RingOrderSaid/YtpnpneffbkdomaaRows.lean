/-
  No cell of these rows narrows 'for every input' (looked for: loops, veiled, ifaces, maps, wideKeys, modest, calm, conditions, laid).
  DERIVED. THE GIVEN ROWS OF THIS SEAT. 11 by the template 'for every input the law returns true; each argument reads behind the call as it read before'; 0 by the template 'total and deterministic' (their statements: YtpnpneffbkdomaaTotals.lean).
  GIVEN WITH THE SEED: the statements are not yours to turn. If you find one false, say at which input.
  Laid BY PROGRAM, IN A SANDBOX (cutbox-rows.mjs): the forced cells as the released guide's own fill.sh prints them over the translation 732c0794f7af7bd9… (all of the seat's roots in one cut). By AI agents, Wed Nov 11 2026. No macro, syntax, notation, axiom, sorry.
-/
import Derived.Test.YtpnpneffbkdomaaChecked
import GoSem.Claim
import GoSem.ClaimJoined
import GoSem.ClaimMapViews
import Derived.JoinedTies
import Derived.KernelRfl
namespace Go.Proofs.Ytpnpneffbkdomaa
/- THE CELL 'sum', in the pinned program and in every row, IS THE sha256 OF THE DUMP (.gsa) THAT YtpnpneffbkdomaaProg.lean LOADS. Nothing in Lean hashes anything: it is a label: what it is worth is what the hold of that sum in a sandbox is worth. -/
noncomputable def Try.pinned : Pinned := { name := "ytpnpneffbkdomaa", sum := "732c0794f7af7bd90801c3aa27f66a4cc3fd4e0ca68211608b04156a3667c97d", checked := Try.checked }
namespace Rows
def none {H : Type} : Left H := { results := [], args := [] }

/-- 'saltuslaw09.DeviceSectors': WHATEVER THE INPUT: true; the input reads as it did. -/
def deviceSectorsSpec : ChangeSpec := { name := "deviceSectors", fn := fun _ => fun
  | [d1, d2, d3] => { results := [.lit (.bool true)], args := [d1, d2, d3] }
  | _ => none }
def deviceSectorsRow : OpenClaim := { program := "ytpnpneffbkdomaa", sum := "732c0794f7af7bd90801c3aa27f66a4cc3fd4e0ca68211608b04156a3667c97d", func := "saltus/saltuslaw09.DeviceSectors", spec := "deviceSectors", unfollowed := true, recurses := true, apart := false }
def DeviceSectorsSaid : Prop := deviceSectorsRow.holds Try.pinned (OpenSpec.ofChange deviceSectorsSpec)

/-- ITS FALSE NEIGHBOUR: 'it returns false'. Refute it at one input. -/
def deviceSectorsWrong : ChangeSpec := { name := "deviceSectors", fn := fun _ => fun
  | [d1, d2, d3] => { results := [.lit (.bool false)], args := [d1, d2, d3] }
  | _ => none }
def DeviceSectorsWrongFalsely : Prop := deviceSectorsRow.holds Try.pinned (OpenSpec.ofChange deviceSectorsWrong)

/-- 'saltuslaw09.DeviceRight': WHATEVER THE INPUT: true; the input reads as it did. -/
def deviceRightSpec : ChangeSpec := { name := "deviceRight", fn := fun _ => fun
  | [d1, d2, d3] => { results := [.lit (.bool true)], args := [d1, d2, d3] }
  | _ => none }
def deviceRightRow : OpenClaim := { program := "ytpnpneffbkdomaa", sum := "732c0794f7af7bd90801c3aa27f66a4cc3fd4e0ca68211608b04156a3667c97d", func := "saltus/saltuslaw09.DeviceRight", spec := "deviceRight", unfollowed := true, recurses := true, apart := false }
def DeviceRightSaid : Prop := deviceRightRow.holds Try.pinned (OpenSpec.ofChange deviceRightSpec)

/-- ITS FALSE NEIGHBOUR: 'it returns false'. Refute it at one input. -/
def deviceRightWrong : ChangeSpec := { name := "deviceRight", fn := fun _ => fun
  | [d1, d2, d3] => { results := [.lit (.bool false)], args := [d1, d2, d3] }
  | _ => none }
def DeviceRightWrongFalsely : Prop := deviceRightRow.holds Try.pinned (OpenSpec.ofChange deviceRightWrong)

/-- 'saltuslaw09.DeviceStays': WHATEVER THE INPUT: true; the input reads as it did. -/
def deviceStaysSpec : ChangeSpec := { name := "deviceStays", fn := fun _ => fun
  | [d1, d2] => { results := [.lit (.bool true)], args := [d1, d2] }
  | _ => none }
def deviceStaysRow : OpenClaim := { program := "ytpnpneffbkdomaa", sum := "732c0794f7af7bd90801c3aa27f66a4cc3fd4e0ca68211608b04156a3667c97d", func := "saltus/saltuslaw09.DeviceStays", spec := "deviceStays", unfollowed := true, recurses := true, apart := false }
def DeviceStaysSaid : Prop := deviceStaysRow.holds Try.pinned (OpenSpec.ofChange deviceStaysSpec)

/-- ITS FALSE NEIGHBOUR: 'it returns false'. Refute it at one input. -/
def deviceStaysWrong : ChangeSpec := { name := "deviceStays", fn := fun _ => fun
  | [d1, d2] => { results := [.lit (.bool false)], args := [d1, d2] }
  | _ => none }
def DeviceStaysWrongFalsely : Prop := deviceStaysRow.holds Try.pinned (OpenSpec.ofChange deviceStaysWrong)

/-- 'saltuslaw09.DeviceReads': WHATEVER THE INPUT: true; the input reads as it did. -/
def deviceReadsSpec : ChangeSpec := { name := "deviceReads", fn := fun _ => fun
  | [d1, d2, d3, d4] => { results := [.lit (.bool true)], args := [d1, d2, d3, d4] }
  | _ => none }
def deviceReadsRow : OpenClaim := { program := "ytpnpneffbkdomaa", sum := "732c0794f7af7bd90801c3aa27f66a4cc3fd4e0ca68211608b04156a3667c97d", func := "saltus/saltuslaw09.DeviceReads", spec := "deviceReads", unfollowed := true, recurses := true, apart := false }
def DeviceReadsSaid : Prop := deviceReadsRow.holds Try.pinned (OpenSpec.ofChange deviceReadsSpec)

/-- ITS FALSE NEIGHBOUR: 'it returns false'. Refute it at one input. -/
def deviceReadsWrong : ChangeSpec := { name := "deviceReads", fn := fun _ => fun
  | [d1, d2, d3, d4] => { results := [.lit (.bool false)], args := [d1, d2, d3, d4] }
  | _ => none }
def DeviceReadsWrongFalsely : Prop := deviceReadsRow.holds Try.pinned (OpenSpec.ofChange deviceReadsWrong)

/-- 'saltuslaw12.BitmapNew': WHATEVER THE INPUT: true; the input reads as it did. -/
def bitmapNewSpec : ChangeSpec := { name := "bitmapNew", fn := fun _ => fun
  | [d1, d2, d3] => { results := [.lit (.bool true)], args := [d1, d2, d3] }
  | _ => none }
def bitmapNewRow : OpenClaim := { program := "ytpnpneffbkdomaa", sum := "732c0794f7af7bd90801c3aa27f66a4cc3fd4e0ca68211608b04156a3667c97d", func := "saltus/saltuslaw12.BitmapNew", spec := "bitmapNew", apart := false }
def BitmapNewSaid : Prop := bitmapNewRow.holds Try.pinned (OpenSpec.ofChange bitmapNewSpec)

/-- ITS FALSE NEIGHBOUR: 'it returns false'. Refute it at one input. -/
def bitmapNewWrong : ChangeSpec := { name := "bitmapNew", fn := fun _ => fun
  | [d1, d2, d3] => { results := [.lit (.bool false)], args := [d1, d2, d3] }
  | _ => none }
def BitmapNewWrongFalsely : Prop := bitmapNewRow.holds Try.pinned (OpenSpec.ofChange bitmapNewWrong)

/-- 'saltuslaw12.BitmapSets': WHATEVER THE INPUT: true; the input reads as it did. -/
def bitmapSetsSpec : ChangeSpec := { name := "bitmapSets", fn := fun _ => fun
  | [d1, d2, d3] => { results := [.lit (.bool true)], args := [d1, d2, d3] }
  | _ => none }
def bitmapSetsRow : OpenClaim := { program := "ytpnpneffbkdomaa", sum := "732c0794f7af7bd90801c3aa27f66a4cc3fd4e0ca68211608b04156a3667c97d", func := "saltus/saltuslaw12.BitmapSets", spec := "bitmapSets", apart := false }
def BitmapSetsSaid : Prop := bitmapSetsRow.holds Try.pinned (OpenSpec.ofChange bitmapSetsSpec)

/-- ITS FALSE NEIGHBOUR: 'it returns false'. Refute it at one input. -/
def bitmapSetsWrong : ChangeSpec := { name := "bitmapSets", fn := fun _ => fun
  | [d1, d2, d3] => { results := [.lit (.bool false)], args := [d1, d2, d3] }
  | _ => none }
def BitmapSetsWrongFalsely : Prop := bitmapSetsRow.holds Try.pinned (OpenSpec.ofChange bitmapSetsWrong)

/-- 'saltuslaw12.BitmapFinds': WHATEVER THE INPUT: true; the input reads as it did. -/
def bitmapFindsSpec : ChangeSpec := { name := "bitmapFinds", fn := fun _ => fun
  | [d1, d2] => { results := [.lit (.bool true)], args := [d1, d2] }
  | _ => none }
def bitmapFindsRow : OpenClaim := { program := "ytpnpneffbkdomaa", sum := "732c0794f7af7bd90801c3aa27f66a4cc3fd4e0ca68211608b04156a3667c97d", func := "saltus/saltuslaw12.BitmapFinds", spec := "bitmapFinds", apart := false }
def BitmapFindsSaid : Prop := bitmapFindsRow.holds Try.pinned (OpenSpec.ofChange bitmapFindsSpec)

/-- ITS FALSE NEIGHBOUR: 'it returns false'. Refute it at one input. -/
def bitmapFindsWrong : ChangeSpec := { name := "bitmapFinds", fn := fun _ => fun
  | [d1, d2] => { results := [.lit (.bool false)], args := [d1, d2] }
  | _ => none }
def BitmapFindsWrongFalsely : Prop := bitmapFindsRow.holds Try.pinned (OpenSpec.ofChange bitmapFindsWrong)

/-- 'saltuslaw12.BitmapTakes': WHATEVER THE INPUT: true; the input reads as it did. -/
def bitmapTakesSpec : ChangeSpec := { name := "bitmapTakes", fn := fun _ => fun
  | [d1, d2, d3, d4] => { results := [.lit (.bool true)], args := [d1, d2, d3, d4] }
  | _ => none }
def bitmapTakesRow : OpenClaim := { program := "ytpnpneffbkdomaa", sum := "732c0794f7af7bd90801c3aa27f66a4cc3fd4e0ca68211608b04156a3667c97d", func := "saltus/saltuslaw12.BitmapTakes", spec := "bitmapTakes", apart := false }
def BitmapTakesSaid : Prop := bitmapTakesRow.holds Try.pinned (OpenSpec.ofChange bitmapTakesSpec)

/-- ITS FALSE NEIGHBOUR: 'it returns false'. Refute it at one input. -/
def bitmapTakesWrong : ChangeSpec := { name := "bitmapTakes", fn := fun _ => fun
  | [d1, d2, d3, d4] => { results := [.lit (.bool false)], args := [d1, d2, d3, d4] }
  | _ => none }
def BitmapTakesWrongFalsely : Prop := bitmapTakesRow.holds Try.pinned (OpenSpec.ofChange bitmapTakesWrong)

/-- 'saltuslaw14.RingNew': WHATEVER THE INPUT: true; the input reads as it did. -/
def ringNewSpec : ChangeSpec := { name := "ringNew", fn := fun _ => fun
  | [d1, d2, d3] => { results := [.lit (.bool true)], args := [d1, d2, d3] }
  | _ => none }
def ringNewRow : OpenClaim := { program := "ytpnpneffbkdomaa", sum := "732c0794f7af7bd90801c3aa27f66a4cc3fd4e0ca68211608b04156a3667c97d", func := "saltus/saltuslaw14.RingNew", spec := "ringNew", unfollowed := true, recurses := true, apart := false }
def RingNewSaid : Prop := ringNewRow.holds Try.pinned (OpenSpec.ofChange ringNewSpec)

/-- ITS FALSE NEIGHBOUR: 'it returns false'. Refute it at one input. -/
def ringNewWrong : ChangeSpec := { name := "ringNew", fn := fun _ => fun
  | [d1, d2, d3] => { results := [.lit (.bool false)], args := [d1, d2, d3] }
  | _ => none }
def RingNewWrongFalsely : Prop := ringNewRow.holds Try.pinned (OpenSpec.ofChange ringNewWrong)

/-- 'saltuslaw14.RingTurns': WHATEVER THE INPUT: true; the input reads as it did. -/
def ringTurnsSpec : ChangeSpec := { name := "ringTurns", fn := fun _ => fun
  | [d1, d2, d3] => { results := [.lit (.bool true)], args := [d1, d2, d3] }
  | _ => none }
def ringTurnsRow : OpenClaim := { program := "ytpnpneffbkdomaa", sum := "732c0794f7af7bd90801c3aa27f66a4cc3fd4e0ca68211608b04156a3667c97d", func := "saltus/saltuslaw14.RingTurns", spec := "ringTurns", unfollowed := true, recurses := true, apart := false }
def RingTurnsSaid : Prop := ringTurnsRow.holds Try.pinned (OpenSpec.ofChange ringTurnsSpec)

/-- ITS FALSE NEIGHBOUR: 'it returns false'. Refute it at one input. -/
def ringTurnsWrong : ChangeSpec := { name := "ringTurns", fn := fun _ => fun
  | [d1, d2, d3] => { results := [.lit (.bool false)], args := [d1, d2, d3] }
  | _ => none }
def RingTurnsWrongFalsely : Prop := ringTurnsRow.holds Try.pinned (OpenSpec.ofChange ringTurnsWrong)

/-- 'saltuslaw14.RingOrder': WHATEVER THE INPUT: true; the input reads as it did. -/
def ringOrderSpec : ChangeSpec := { name := "ringOrder", fn := fun _ => fun
  | [d1, d2, d3, d4] => { results := [.lit (.bool true)], args := [d1, d2, d3, d4] }
  | _ => none }
def ringOrderRow : OpenClaim := { program := "ytpnpneffbkdomaa", sum := "732c0794f7af7bd90801c3aa27f66a4cc3fd4e0ca68211608b04156a3667c97d", func := "saltus/saltuslaw14.RingOrder", spec := "ringOrder", unfollowed := true, recurses := true, apart := false }
def RingOrderSaid : Prop := ringOrderRow.holds Try.pinned (OpenSpec.ofChange ringOrderSpec)

/-- ITS FALSE NEIGHBOUR: 'it returns false'. Refute it at one input. -/
def ringOrderWrong : ChangeSpec := { name := "ringOrder", fn := fun _ => fun
  | [d1, d2, d3, d4] => { results := [.lit (.bool false)], args := [d1, d2, d3, d4] }
  | _ => none }
def RingOrderWrongFalsely : Prop := ringOrderRow.holds Try.pinned (OpenSpec.ofChange ringOrderWrong)

/- THE SECOND FORM. 'bulk': how many values and letters a reading holds, each counted each time it is reached (what is shared counts as often as it is met; a slice's spare places count too). A statement '..UptoSaid' is the law's where the arguments, and the package variables that the reading takes, are together of bulk at most 1048576: NARROWER than '..Said'. Prove '..Said' where nothing that the law and all that it calls make is longer than what came in: it says more and counts as full. Else prove '..UptoSaid'. A law counts once. -/
mutual
def uptoBulk {H : Type} : DataW H → Nat
  | .lit (.string bytes) => bytes.length + 1
  | .lit _ => 1
  | .nil => 1
  | .ptr d => uptoBulk d + 1
  | .slice elems spare => uptoBulkAll elems + uptoBulkAll spare + 1
  | .agg parts => uptoBulkAll parts + 1
  | .iface _ d => uptoBulk d + 1
  | .map entries => uptoBulkEntries entries + 1
  | .held _ => 1
def uptoBulkAll {H : Type} : List (DataW H) → Nat
  | [] => 0
  | d :: r => uptoBulk d + uptoBulkAll r
def uptoBulkEntries {H : Type} : List (Lit × DataW H) → Nat
  | [] => 0
  | x :: r => uptoBulkEntry x + uptoBulkEntries r
def uptoBulkEntry {H : Type} : Lit × DataW H → Nat
  | (.string bytes, d) => bytes.length + uptoBulk d + 1
  | (_, d) => uptoBulk d + 1
 end
def uptoSmall : (H : Type) → List (DataW H) → Bool := fun _ ds => decide (uptoBulkAll ds ≤ 1048576)
def OpenSpec.upto (s : _root_.Go.ChangeSpec) : _root_.Go.OpenSpec := { _root_.Go.OpenSpec.ofChange s with cond := some uptoSmall }

/-- 'saltuslaw09.DeviceSectors', WHERE WHAT IT READS IS OF BULK AT MOST 1048576: true; the input reads as it did. -/
def deviceSectorsUptoRow : OpenClaim := { program := "ytpnpneffbkdomaa", sum := "732c0794f7af7bd90801c3aa27f66a4cc3fd4e0ca68211608b04156a3667c97d", func := "saltus/saltuslaw09.DeviceSectors", spec := "deviceSectors", unfollowed := true, recurses := true, apart := false, narrowed := true }
def DeviceSectorsUptoSaid : Prop := deviceSectorsUptoRow.holds Try.pinned (OpenSpec.upto deviceSectorsSpec)

/-- 'saltuslaw09.DeviceRight', WHERE WHAT IT READS IS OF BULK AT MOST 1048576: true; the input reads as it did. -/
def deviceRightUptoRow : OpenClaim := { program := "ytpnpneffbkdomaa", sum := "732c0794f7af7bd90801c3aa27f66a4cc3fd4e0ca68211608b04156a3667c97d", func := "saltus/saltuslaw09.DeviceRight", spec := "deviceRight", unfollowed := true, recurses := true, apart := false, narrowed := true }
def DeviceRightUptoSaid : Prop := deviceRightUptoRow.holds Try.pinned (OpenSpec.upto deviceRightSpec)

/-- 'saltuslaw09.DeviceStays', WHERE WHAT IT READS IS OF BULK AT MOST 1048576: true; the input reads as it did. -/
def deviceStaysUptoRow : OpenClaim := { program := "ytpnpneffbkdomaa", sum := "732c0794f7af7bd90801c3aa27f66a4cc3fd4e0ca68211608b04156a3667c97d", func := "saltus/saltuslaw09.DeviceStays", spec := "deviceStays", unfollowed := true, recurses := true, apart := false, narrowed := true }
def DeviceStaysUptoSaid : Prop := deviceStaysUptoRow.holds Try.pinned (OpenSpec.upto deviceStaysSpec)

/-- 'saltuslaw09.DeviceReads', WHERE WHAT IT READS IS OF BULK AT MOST 1048576: true; the input reads as it did. -/
def deviceReadsUptoRow : OpenClaim := { program := "ytpnpneffbkdomaa", sum := "732c0794f7af7bd90801c3aa27f66a4cc3fd4e0ca68211608b04156a3667c97d", func := "saltus/saltuslaw09.DeviceReads", spec := "deviceReads", unfollowed := true, recurses := true, apart := false, narrowed := true }
def DeviceReadsUptoSaid : Prop := deviceReadsUptoRow.holds Try.pinned (OpenSpec.upto deviceReadsSpec)

/-- 'saltuslaw12.BitmapNew', WHERE WHAT IT READS IS OF BULK AT MOST 1048576: true; the input reads as it did. -/
def bitmapNewUptoRow : OpenClaim := { program := "ytpnpneffbkdomaa", sum := "732c0794f7af7bd90801c3aa27f66a4cc3fd4e0ca68211608b04156a3667c97d", func := "saltus/saltuslaw12.BitmapNew", spec := "bitmapNew", apart := false, narrowed := true }
def BitmapNewUptoSaid : Prop := bitmapNewUptoRow.holds Try.pinned (OpenSpec.upto bitmapNewSpec)

/-- 'saltuslaw12.BitmapSets', WHERE WHAT IT READS IS OF BULK AT MOST 1048576: true; the input reads as it did. -/
def bitmapSetsUptoRow : OpenClaim := { program := "ytpnpneffbkdomaa", sum := "732c0794f7af7bd90801c3aa27f66a4cc3fd4e0ca68211608b04156a3667c97d", func := "saltus/saltuslaw12.BitmapSets", spec := "bitmapSets", apart := false, narrowed := true }
def BitmapSetsUptoSaid : Prop := bitmapSetsUptoRow.holds Try.pinned (OpenSpec.upto bitmapSetsSpec)

/-- 'saltuslaw12.BitmapFinds', WHERE WHAT IT READS IS OF BULK AT MOST 1048576: true; the input reads as it did. -/
def bitmapFindsUptoRow : OpenClaim := { program := "ytpnpneffbkdomaa", sum := "732c0794f7af7bd90801c3aa27f66a4cc3fd4e0ca68211608b04156a3667c97d", func := "saltus/saltuslaw12.BitmapFinds", spec := "bitmapFinds", apart := false, narrowed := true }
def BitmapFindsUptoSaid : Prop := bitmapFindsUptoRow.holds Try.pinned (OpenSpec.upto bitmapFindsSpec)

/-- 'saltuslaw12.BitmapTakes', WHERE WHAT IT READS IS OF BULK AT MOST 1048576: true; the input reads as it did. -/
def bitmapTakesUptoRow : OpenClaim := { program := "ytpnpneffbkdomaa", sum := "732c0794f7af7bd90801c3aa27f66a4cc3fd4e0ca68211608b04156a3667c97d", func := "saltus/saltuslaw12.BitmapTakes", spec := "bitmapTakes", apart := false, narrowed := true }
def BitmapTakesUptoSaid : Prop := bitmapTakesUptoRow.holds Try.pinned (OpenSpec.upto bitmapTakesSpec)

/-- 'saltuslaw14.RingNew', WHERE WHAT IT READS IS OF BULK AT MOST 1048576: true; the input reads as it did. -/
def ringNewUptoRow : OpenClaim := { program := "ytpnpneffbkdomaa", sum := "732c0794f7af7bd90801c3aa27f66a4cc3fd4e0ca68211608b04156a3667c97d", func := "saltus/saltuslaw14.RingNew", spec := "ringNew", unfollowed := true, recurses := true, apart := false, narrowed := true }
def RingNewUptoSaid : Prop := ringNewUptoRow.holds Try.pinned (OpenSpec.upto ringNewSpec)

/-- 'saltuslaw14.RingTurns', WHERE WHAT IT READS IS OF BULK AT MOST 1048576: true; the input reads as it did. -/
def ringTurnsUptoRow : OpenClaim := { program := "ytpnpneffbkdomaa", sum := "732c0794f7af7bd90801c3aa27f66a4cc3fd4e0ca68211608b04156a3667c97d", func := "saltus/saltuslaw14.RingTurns", spec := "ringTurns", unfollowed := true, recurses := true, apart := false, narrowed := true }
def RingTurnsUptoSaid : Prop := ringTurnsUptoRow.holds Try.pinned (OpenSpec.upto ringTurnsSpec)

/-- 'saltuslaw14.RingOrder', WHERE WHAT IT READS IS OF BULK AT MOST 1048576: true; the input reads as it did. -/
def ringOrderUptoRow : OpenClaim := { program := "ytpnpneffbkdomaa", sum := "732c0794f7af7bd90801c3aa27f66a4cc3fd4e0ca68211608b04156a3667c97d", func := "saltus/saltuslaw14.RingOrder", spec := "ringOrder", unfollowed := true, recurses := true, apart := false, narrowed := true }
def RingOrderUptoSaid : Prop := ringOrderUptoRow.holds Try.pinned (OpenSpec.upto ringOrderSpec)

end Rows
end Go.Proofs.Ytpnpneffbkdomaa
