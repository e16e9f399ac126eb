/-
  DERIVED. GIVEN WITH THE SEED: THE CARDS: each row of YtegmincienhapaaGreatDoorRows.lean that lists a variable, with what it lists TIED to the program's text (the seventh form; the later family's looks); each row that meets fmt, with fmt's text TOLD by the authors' own Lean function (tested against real Go, not proved from fmt's source: count such statements apart). THE CARD IS WHAT COUNTS. Prove the row's statement (the work); the ties are given (YtegmincienhapaaGreatDoorTie.lean); close each card by the builder's one call (the guide's Derived/Test/ToyasCard.lean, 'card_holds'). Laid BY PROGRAM, IN A SANDBOX (cutbox-door.mjs). By AI agents, Wed Nov 11 2026. No macro, syntax, notation, axiom, sorry.
-/
import Derived.Test.YtegmincienhapaaGreatDoorRows
import GoSem.ClaimSeven
namespace Go.Proofs.YtegmincienhapaaGreatDoor
namespace Rows

/-- THE TIED CARD OF 'saltuslaw11.SealOpens'. -/
def sealOpensCard : Claim7 := { stood := { row := sealOpensRow, standIns := [], harness := (true, "fd441b02b26cdcd1eb8f00ca3d693de1045e52ec322cd8b52509ef20e1cbf99c"), looks := false }, kinds := [], alts := [], laidByText := true, laidKinds := [.data, .pinned], laidTests := true, laidLooks := .later }
def SealOpensCardSaid : Prop := Claim7.holds Tryz.pinned (.plain (OpenSpec.ofChange sealOpensSpec)) sealOpensCard

/-- THE TIED CARD OF 'saltuslaw11.SealTexts'. -/
def sealTextsCard : Claim7 := { stood := { row := sealTextsRow, standIns := [], harness := (true, "fd441b02b26cdcd1eb8f00ca3d693de1045e52ec322cd8b52509ef20e1cbf99c"), looks := false }, kinds := [], alts := [], laidByText := true, laidKinds := [.data, .pinned], laidTests := true, laidLooks := .later }
def SealTextsCardSaid : Prop := Claim7.holds Tryz.pinned (.plain (OpenSpec.ofChange sealTextsSpec)) sealTextsCard

/-- THE SECOND FORM's CARD OF 'saltuslaw11.SealOpens'. -/
def sealOpensUptoCard : Claim7 := { stood := { row := sealOpensUptoRow, standIns := [], harness := (true, "fd441b02b26cdcd1eb8f00ca3d693de1045e52ec322cd8b52509ef20e1cbf99c"), looks := false }, kinds := [], alts := [], laidByText := true, laidKinds := [.data, .pinned], laidTests := true, laidLooks := .later }
def SealOpensUptoCardSaid : Prop := Claim7.holds Tryz.pinned (.plain (OpenSpec.upto sealOpensSpec)) sealOpensUptoCard

/-- THE SECOND FORM's CARD OF 'saltuslaw11.SealTexts'. -/
def sealTextsUptoCard : Claim7 := { stood := { row := sealTextsUptoRow, standIns := [], harness := (true, "fd441b02b26cdcd1eb8f00ca3d693de1045e52ec322cd8b52509ef20e1cbf99c"), looks := false }, kinds := [], alts := [], laidByText := true, laidKinds := [.data, .pinned], laidTests := true, laidLooks := .later }
def SealTextsUptoCardSaid : Prop := Claim7.holds Tryz.pinned (.plain (OpenSpec.upto sealTextsSpec)) sealTextsUptoCard
end Rows
end Go.Proofs.YtegmincienhapaaGreatDoor
