/-
  DERIVED. GIVEN WITH THE SEED: THE CARDS: each row of YtegmincienhapaaDoorRows.lean that lists a variable, with what it lists TIED to the program's text (the seventh form; the later family's looks); each row that meets fmt, with fmt's text TOLD by the authors' own Lean function (tested against real Go, not proved from fmt's source: count such statements apart). THE CARD IS WHAT COUNTS. Prove the row's statement (the work); the ties are given (YtegmincienhapaaDoorTie.lean); close each card by the builder's one call (the guide's Derived/Test/ToyasCard.lean, 'card_holds'). Laid BY PROGRAM, IN A SANDBOX (cutbox-door.mjs). By AI agents, Wed Nov 11 2026. No macro, syntax, notation, axiom, sorry.
-/
import Derived.Test.YtegmincienhapaaDoorRows
import GoSem.ClaimSeven
namespace Go.Proofs.YtegmincienhapaaDoor
namespace Rows

/-- THE TIED CARD OF 'saltuslaw02.CodecSplits'. -/
def codecSplitsCard : Claim7 := { stood := { row := codecSplitsRow, standIns := [], harness := (true, "54a6429d481665aca09a510248411736228757f6a08b0e4cfbd9dcf184029f2a"), looks := false }, kinds := [], alts := [], laidByText := true, laidKinds := [.data, .pinned], laidTests := true, laidLooks := .later }
def CodecSplitsCardSaid : Prop := Claim7.holds Tryd.pinned (.plain (OpenSpec.ofChange codecSplitsSpec)) codecSplitsCard

/-- THE TIED CARD OF 'saltuslaw02.CodecBack'. -/
def codecBackCard : Claim7 := { stood := { row := codecBackRow, standIns := [], harness := (true, "54a6429d481665aca09a510248411736228757f6a08b0e4cfbd9dcf184029f2a"), looks := false }, kinds := [], alts := [], laidByText := true, laidKinds := [.data, .pinned], laidTests := true, laidLooks := .later }
def CodecBackCardSaid : Prop := Claim7.holds Tryd.pinned (.plain (OpenSpec.ofChange codecBackSpec)) codecBackCard

/-- THE TIED CARD OF 'saltuslaw11.SealBack'. -/
def sealBackCard : Claim7 := { stood := { row := sealBackRow, standIns := [], harness := (true, "54a6429d481665aca09a510248411736228757f6a08b0e4cfbd9dcf184029f2a"), looks := false }, kinds := [], alts := [], laidByText := true, laidKinds := [.data, .pinned], laidTests := true, laidLooks := .later }
def SealBackCardSaid : Prop := Claim7.holds Tryd.pinned (.plain (OpenSpec.ofChange sealBackSpec)) sealBackCard

/-- THE SECOND FORM's CARD OF 'saltuslaw02.CodecSplits'. -/
def codecSplitsUptoCard : Claim7 := { stood := { row := codecSplitsUptoRow, standIns := [], harness := (true, "54a6429d481665aca09a510248411736228757f6a08b0e4cfbd9dcf184029f2a"), looks := false }, kinds := [], alts := [], laidByText := true, laidKinds := [.data, .pinned], laidTests := true, laidLooks := .later }
def CodecSplitsUptoCardSaid : Prop := Claim7.holds Tryd.pinned (.plain (OpenSpec.upto codecSplitsSpec)) codecSplitsUptoCard

/-- THE SECOND FORM's CARD OF 'saltuslaw02.CodecBack'. -/
def codecBackUptoCard : Claim7 := { stood := { row := codecBackUptoRow, standIns := [], harness := (true, "54a6429d481665aca09a510248411736228757f6a08b0e4cfbd9dcf184029f2a"), looks := false }, kinds := [], alts := [], laidByText := true, laidKinds := [.data, .pinned], laidTests := true, laidLooks := .later }
def CodecBackUptoCardSaid : Prop := Claim7.holds Tryd.pinned (.plain (OpenSpec.upto codecBackSpec)) codecBackUptoCard

/-- THE SECOND FORM's CARD OF 'saltuslaw11.SealBack'. -/
def sealBackUptoCard : Claim7 := { stood := { row := sealBackUptoRow, standIns := [], harness := (true, "54a6429d481665aca09a510248411736228757f6a08b0e4cfbd9dcf184029f2a"), looks := false }, kinds := [], alts := [], laidByText := true, laidKinds := [.data, .pinned], laidTests := true, laidLooks := .later }
def SealBackUptoCardSaid : Prop := Claim7.holds Tryd.pinned (.plain (OpenSpec.upto sealBackSpec)) sealBackUptoCard
end Rows
end Go.Proofs.YtegmincienhapaaDoor
