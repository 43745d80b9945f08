/-
  DERIVED. GIVEN WITH THE SEED: THE CARDS: each row of YtnkelahimiipjaaGreatDoorRows.lean that lists a variable, with what it lists TIED to the program's text (the seventh form; the later family's looks); each row that meets fmt, with fmt's text TOLD by the authors' own Lean function (tested against real Go, not proved from fmt's source: count such statements apart). THE CARD IS WHAT COUNTS. Prove the row's statement (the work); the ties are given (YtnkelahimiipjaaGreatDoorTie.lean); close each card by the builder's one call (the guide's Derived/Test/ToyasCard.lean, 'card_holds'). Laid BY PROGRAM, IN A SANDBOX (cutbox-door.mjs). By AI agents, Wed Nov 11 2026. No macro, syntax, notation, axiom, sorry.
-/
import Derived.Test.YtnkelahimiipjaaGreatDoorRows
import GoSem.ClaimSeven
namespace Go.Proofs.YtnkelahimiipjaaGreatDoor
namespace Rows

/-- THE TIED CARD OF 'eskerlaw17.DatapartBuilds'. -/
def datapartBuildsCard : Claim7 := { stood := { row := datapartBuildsRow, standIns := [], harness := (true, "4be9889bae0208d6bff554f4c76cff9a657a210910cc12b03041e2eb7ae14168"), looks := true }, kinds := [], alts := [], laidByText := true, laidKinds := [.data, .data, .widerDeep, .widerDeep, .data, .data, .data, .data, .data, .sentinel, .sentinel, .data, .data, .pinned, .pinned], laidTests := true, laidLooks := .later }
def DatapartBuildsCardSaid : Prop := Claim7.holds Tryz.pinned (.plain (OpenSpec.ofChange datapartBuildsSpec)) datapartBuildsCard

/-- THE TIED CARD OF 'eskerlaw17.DatapartTells'. -/
def datapartTellsCard : Claim7 := { stood := { row := datapartTellsRow, standIns := [], harness := (true, "4be9889bae0208d6bff554f4c76cff9a657a210910cc12b03041e2eb7ae14168"), looks := true }, kinds := [], alts := [], laidByText := true, laidKinds := [.data, .data, .widerDeep, .widerDeep, .data, .data, .data, .data, .data, .sentinel, .sentinel, .data, .data, .pinned, .pinned], laidTests := true, laidLooks := .later }
def DatapartTellsCardSaid : Prop := Claim7.holds Tryz.pinned (.plain (OpenSpec.ofChange datapartTellsSpec)) datapartTellsCard

/-- THE TIED CARD OF 'eskerlaw17.DatapartBack'. -/
def datapartBackCard : Claim7 := { stood := { row := datapartBackRow, standIns := [], harness := (true, "4be9889bae0208d6bff554f4c76cff9a657a210910cc12b03041e2eb7ae14168"), looks := true }, kinds := [], alts := [], laidByText := true, laidKinds := [.data, .data, .widerDeep, .widerDeep, .data, .data, .data, .data, .data, .sentinel, .sentinel, .data, .data, .pinned, .pinned], laidTests := true, laidLooks := .later }
def DatapartBackCardSaid : Prop := Claim7.holds Tryz.pinned (.plain (OpenSpec.ofChange datapartBackSpec)) datapartBackCard

/-- THE TIED CARD OF 'eskerlaw17.DatapartTurned'. -/
def datapartTurnedCard : Claim7 := { stood := { row := datapartTurnedRow, standIns := [], harness := (true, "4be9889bae0208d6bff554f4c76cff9a657a210910cc12b03041e2eb7ae14168"), looks := true }, kinds := [], alts := [], laidByText := true, laidKinds := [.data, .data, .widerDeep, .widerDeep, .data, .data, .data, .data, .data, .sentinel, .sentinel, .data, .data, .pinned, .pinned], laidTests := true, laidLooks := .later }
def DatapartTurnedCardSaid : Prop := Claim7.holds Tryz.pinned (.plain (OpenSpec.ofChange datapartTurnedSpec)) datapartTurnedCard

/-- THE TIED CARD OF 'eskerlaw17.DatapartParts'. -/
def datapartPartsCard : Claim7 := { stood := { row := datapartPartsRow, standIns := [], harness := (true, "4be9889bae0208d6bff554f4c76cff9a657a210910cc12b03041e2eb7ae14168"), looks := true }, kinds := [], alts := [], laidByText := true, laidKinds := [.data, .data, .widerDeep, .widerDeep, .data, .data, .data, .data, .data, .sentinel, .sentinel, .data, .data, .pinned, .pinned], laidTests := true, laidLooks := .later }
def DatapartPartsCardSaid : Prop := Claim7.holds Tryz.pinned (.plain (OpenSpec.ofChange datapartPartsSpec)) datapartPartsCard

/-- THE TIED CARD OF 'eskerlaw17.DatapartNone'. -/
def datapartNoneCard : Claim7 := { stood := { row := datapartNoneRow, standIns := [], harness := (true, "4be9889bae0208d6bff554f4c76cff9a657a210910cc12b03041e2eb7ae14168"), looks := true }, kinds := [], alts := [], laidByText := true, laidKinds := [.data, .data, .widerDeep, .widerDeep, .data, .data, .data, .data, .data, .sentinel, .sentinel, .data, .data, .pinned, .pinned], laidTests := true, laidLooks := .later }
def DatapartNoneCardSaid : Prop := Claim7.holds Tryz.pinned (.plain (OpenSpec.ofChange datapartNoneSpec)) datapartNoneCard

/-- THE SECOND FORM's CARD OF 'eskerlaw17.DatapartBuilds'. -/
def datapartBuildsUptoCard : Claim7 := { stood := { row := datapartBuildsUptoRow, standIns := [], harness := (true, "4be9889bae0208d6bff554f4c76cff9a657a210910cc12b03041e2eb7ae14168"), looks := true }, kinds := [], alts := [], laidByText := true, laidKinds := [.data, .data, .widerDeep, .widerDeep, .data, .data, .data, .data, .data, .sentinel, .sentinel, .data, .data, .pinned, .pinned], laidTests := true, laidLooks := .later }
def DatapartBuildsUptoCardSaid : Prop := Claim7.holds Tryz.pinned (.plain (OpenSpec.upto datapartBuildsSpec)) datapartBuildsUptoCard

/-- THE SECOND FORM's CARD OF 'eskerlaw17.DatapartTells'. -/
def datapartTellsUptoCard : Claim7 := { stood := { row := datapartTellsUptoRow, standIns := [], harness := (true, "4be9889bae0208d6bff554f4c76cff9a657a210910cc12b03041e2eb7ae14168"), looks := true }, kinds := [], alts := [], laidByText := true, laidKinds := [.data, .data, .widerDeep, .widerDeep, .data, .data, .data, .data, .data, .sentinel, .sentinel, .data, .data, .pinned, .pinned], laidTests := true, laidLooks := .later }
def DatapartTellsUptoCardSaid : Prop := Claim7.holds Tryz.pinned (.plain (OpenSpec.upto datapartTellsSpec)) datapartTellsUptoCard

/-- THE SECOND FORM's CARD OF 'eskerlaw17.DatapartBack'. -/
def datapartBackUptoCard : Claim7 := { stood := { row := datapartBackUptoRow, standIns := [], harness := (true, "4be9889bae0208d6bff554f4c76cff9a657a210910cc12b03041e2eb7ae14168"), looks := true }, kinds := [], alts := [], laidByText := true, laidKinds := [.data, .data, .widerDeep, .widerDeep, .data, .data, .data, .data, .data, .sentinel, .sentinel, .data, .data, .pinned, .pinned], laidTests := true, laidLooks := .later }
def DatapartBackUptoCardSaid : Prop := Claim7.holds Tryz.pinned (.plain (OpenSpec.upto datapartBackSpec)) datapartBackUptoCard

/-- THE SECOND FORM's CARD OF 'eskerlaw17.DatapartTurned'. -/
def datapartTurnedUptoCard : Claim7 := { stood := { row := datapartTurnedUptoRow, standIns := [], harness := (true, "4be9889bae0208d6bff554f4c76cff9a657a210910cc12b03041e2eb7ae14168"), looks := true }, kinds := [], alts := [], laidByText := true, laidKinds := [.data, .data, .widerDeep, .widerDeep, .data, .data, .data, .data, .data, .sentinel, .sentinel, .data, .data, .pinned, .pinned], laidTests := true, laidLooks := .later }
def DatapartTurnedUptoCardSaid : Prop := Claim7.holds Tryz.pinned (.plain (OpenSpec.upto datapartTurnedSpec)) datapartTurnedUptoCard

/-- THE SECOND FORM's CARD OF 'eskerlaw17.DatapartParts'. -/
def datapartPartsUptoCard : Claim7 := { stood := { row := datapartPartsUptoRow, standIns := [], harness := (true, "4be9889bae0208d6bff554f4c76cff9a657a210910cc12b03041e2eb7ae14168"), looks := true }, kinds := [], alts := [], laidByText := true, laidKinds := [.data, .data, .widerDeep, .widerDeep, .data, .data, .data, .data, .data, .sentinel, .sentinel, .data, .data, .pinned, .pinned], laidTests := true, laidLooks := .later }
def DatapartPartsUptoCardSaid : Prop := Claim7.holds Tryz.pinned (.plain (OpenSpec.upto datapartPartsSpec)) datapartPartsUptoCard

/-- THE SECOND FORM's CARD OF 'eskerlaw17.DatapartNone'. -/
def datapartNoneUptoCard : Claim7 := { stood := { row := datapartNoneUptoRow, standIns := [], harness := (true, "4be9889bae0208d6bff554f4c76cff9a657a210910cc12b03041e2eb7ae14168"), looks := true }, kinds := [], alts := [], laidByText := true, laidKinds := [.data, .data, .widerDeep, .widerDeep, .data, .data, .data, .data, .data, .sentinel, .sentinel, .data, .data, .pinned, .pinned], laidTests := true, laidLooks := .later }
def DatapartNoneUptoCardSaid : Prop := Claim7.holds Tryz.pinned (.plain (OpenSpec.upto datapartNoneSpec)) datapartNoneUptoCard
end Rows
end Go.Proofs.YtnkelahimiipjaaGreatDoor
