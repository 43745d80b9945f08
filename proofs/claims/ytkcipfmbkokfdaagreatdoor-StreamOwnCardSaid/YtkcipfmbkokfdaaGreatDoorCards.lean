/-
  DERIVED. GIVEN WITH THE SEED: THE CARDS: each row of YtkcipfmbkokfdaaGreatDoorRows.lean that lists a variable, with what it lists TIED to the program's text (the seventh form; the later family's looks); each row that meets fmt, with fmt's text TOLD by the authors' own Lean function (tested against real Go, not proved from fmt's source: count such statements apart). THE CARD IS WHAT COUNTS. Prove the row's statement (the work); the ties are given (YtkcipfmbkokfdaaGreatDoorTie.lean); close each card by the builder's one call (the guide's Derived/Test/ToyasCard.lean, 'card_holds'). Laid BY PROGRAM, IN A SANDBOX (cutbox-door.mjs). By AI agents, Wed Nov 11 2026. No macro, syntax, notation, axiom, sorry.
-/
import Derived.Test.YtkcipfmbkokfdaaGreatDoorRows
import GoSem.ClaimSeven
namespace Go.Proofs.YtkcipfmbkokfdaaGreatDoor
namespace Rows

/-- THE TIED CARD OF 'eskerlaw16.StreamMerges'. -/
def streamMergesCard : Claim7 := { stood := { row := streamMergesRow, standIns := [], harness := (true, "46a48153de8cebeeae594ca6986354040d2a8ff2ad5998ea105fca36d1e4817a"), looks := true }, kinds := [], alts := [], laidByText := true, laidKinds := [.data, .data, .widerDeep, .widerDeep, .data, .data, .data, .data, .data, .sentinel, .sentinel, .pinned, .pinned], laidTests := true, laidLooks := .later }
def StreamMergesCardSaid : Prop := Claim7.holds Tryz.pinned (.plain (OpenSpec.ofChange streamMergesSpec)) streamMergesCard

/-- THE TIED CARD OF 'eskerlaw16.StreamCleans'. -/
def streamCleansCard : Claim7 := { stood := { row := streamCleansRow, standIns := [], harness := (true, "46a48153de8cebeeae594ca6986354040d2a8ff2ad5998ea105fca36d1e4817a"), looks := true }, kinds := [], alts := [], laidByText := true, laidKinds := [.data, .data, .widerDeep, .widerDeep, .data, .data, .data, .data, .data, .sentinel, .sentinel, .pinned, .pinned], laidTests := true, laidLooks := .later }
def StreamCleansCardSaid : Prop := Claim7.holds Tryz.pinned (.plain (OpenSpec.ofChange streamCleansSpec)) streamCleansCard

/-- THE TIED CARD OF 'eskerlaw16.StreamHides'. -/
def streamHidesCard : Claim7 := { stood := { row := streamHidesRow, standIns := [], harness := (true, "46a48153de8cebeeae594ca6986354040d2a8ff2ad5998ea105fca36d1e4817a"), looks := true }, kinds := [], alts := [], laidByText := true, laidKinds := [.data, .data, .widerDeep, .widerDeep, .data, .data, .data, .data, .data, .sentinel, .sentinel, .pinned, .pinned], laidTests := true, laidLooks := .later }
def StreamHidesCardSaid : Prop := Claim7.holds Tryz.pinned (.plain (OpenSpec.ofChange streamHidesSpec)) streamHidesCard

/-- THE TIED CARD OF 'eskerlaw16.StreamMonths'. -/
def streamMonthsCard : Claim7 := { stood := { row := streamMonthsRow, standIns := [], harness := (true, "46a48153de8cebeeae594ca6986354040d2a8ff2ad5998ea105fca36d1e4817a"), looks := true }, kinds := [], alts := [], laidByText := true, laidKinds := [.data, .data, .widerDeep, .widerDeep, .data, .data, .data, .data, .data, .sentinel, .sentinel, .pinned, .pinned], laidTests := true, laidLooks := .later }
def StreamMonthsCardSaid : Prop := Claim7.holds Tryz.pinned (.plain (OpenSpec.ofChange streamMonthsSpec)) streamMonthsCard

/-- THE TIED CARD OF 'eskerlaw16.StreamLeaves'. -/
def streamLeavesCard : Claim7 := { stood := { row := streamLeavesRow, standIns := [], harness := (true, "46a48153de8cebeeae594ca6986354040d2a8ff2ad5998ea105fca36d1e4817a"), looks := true }, kinds := [], alts := [], laidByText := true, laidKinds := [.data, .data, .widerDeep, .widerDeep, .data, .data, .data, .data, .data, .sentinel, .sentinel, .pinned, .pinned], laidTests := true, laidLooks := .later }
def StreamLeavesCardSaid : Prop := Claim7.holds Tryz.pinned (.plain (OpenSpec.ofChange streamLeavesSpec)) streamLeavesCard

/-- THE TIED CARD OF 'eskerlaw16.StreamOwn'. -/
def streamOwnCard : Claim7 := { stood := { row := streamOwnRow, standIns := [], harness := (true, "46a48153de8cebeeae594ca6986354040d2a8ff2ad5998ea105fca36d1e4817a"), looks := true }, kinds := [], alts := [], laidByText := true, laidKinds := [.data, .data, .widerDeep, .widerDeep, .data, .data, .data, .data, .data, .sentinel, .sentinel, .pinned, .pinned], laidTests := true, laidLooks := .later }
def StreamOwnCardSaid : Prop := Claim7.holds Tryz.pinned (.plain (OpenSpec.ofChange streamOwnSpec)) streamOwnCard

/-- THE SECOND FORM's CARD OF 'eskerlaw16.StreamMerges'. -/
def streamMergesUptoCard : Claim7 := { stood := { row := streamMergesUptoRow, standIns := [], harness := (true, "46a48153de8cebeeae594ca6986354040d2a8ff2ad5998ea105fca36d1e4817a"), looks := true }, kinds := [], alts := [], laidByText := true, laidKinds := [.data, .data, .widerDeep, .widerDeep, .data, .data, .data, .data, .data, .sentinel, .sentinel, .pinned, .pinned], laidTests := true, laidLooks := .later }
def StreamMergesUptoCardSaid : Prop := Claim7.holds Tryz.pinned (.plain (OpenSpec.upto streamMergesSpec)) streamMergesUptoCard

/-- THE SECOND FORM's CARD OF 'eskerlaw16.StreamCleans'. -/
def streamCleansUptoCard : Claim7 := { stood := { row := streamCleansUptoRow, standIns := [], harness := (true, "46a48153de8cebeeae594ca6986354040d2a8ff2ad5998ea105fca36d1e4817a"), looks := true }, kinds := [], alts := [], laidByText := true, laidKinds := [.data, .data, .widerDeep, .widerDeep, .data, .data, .data, .data, .data, .sentinel, .sentinel, .pinned, .pinned], laidTests := true, laidLooks := .later }
def StreamCleansUptoCardSaid : Prop := Claim7.holds Tryz.pinned (.plain (OpenSpec.upto streamCleansSpec)) streamCleansUptoCard

/-- THE SECOND FORM's CARD OF 'eskerlaw16.StreamHides'. -/
def streamHidesUptoCard : Claim7 := { stood := { row := streamHidesUptoRow, standIns := [], harness := (true, "46a48153de8cebeeae594ca6986354040d2a8ff2ad5998ea105fca36d1e4817a"), looks := true }, kinds := [], alts := [], laidByText := true, laidKinds := [.data, .data, .widerDeep, .widerDeep, .data, .data, .data, .data, .data, .sentinel, .sentinel, .pinned, .pinned], laidTests := true, laidLooks := .later }
def StreamHidesUptoCardSaid : Prop := Claim7.holds Tryz.pinned (.plain (OpenSpec.upto streamHidesSpec)) streamHidesUptoCard

/-- THE SECOND FORM's CARD OF 'eskerlaw16.StreamMonths'. -/
def streamMonthsUptoCard : Claim7 := { stood := { row := streamMonthsUptoRow, standIns := [], harness := (true, "46a48153de8cebeeae594ca6986354040d2a8ff2ad5998ea105fca36d1e4817a"), looks := true }, kinds := [], alts := [], laidByText := true, laidKinds := [.data, .data, .widerDeep, .widerDeep, .data, .data, .data, .data, .data, .sentinel, .sentinel, .pinned, .pinned], laidTests := true, laidLooks := .later }
def StreamMonthsUptoCardSaid : Prop := Claim7.holds Tryz.pinned (.plain (OpenSpec.upto streamMonthsSpec)) streamMonthsUptoCard

/-- THE SECOND FORM's CARD OF 'eskerlaw16.StreamLeaves'. -/
def streamLeavesUptoCard : Claim7 := { stood := { row := streamLeavesUptoRow, standIns := [], harness := (true, "46a48153de8cebeeae594ca6986354040d2a8ff2ad5998ea105fca36d1e4817a"), looks := true }, kinds := [], alts := [], laidByText := true, laidKinds := [.data, .data, .widerDeep, .widerDeep, .data, .data, .data, .data, .data, .sentinel, .sentinel, .pinned, .pinned], laidTests := true, laidLooks := .later }
def StreamLeavesUptoCardSaid : Prop := Claim7.holds Tryz.pinned (.plain (OpenSpec.upto streamLeavesSpec)) streamLeavesUptoCard

/-- THE SECOND FORM's CARD OF 'eskerlaw16.StreamOwn'. -/
def streamOwnUptoCard : Claim7 := { stood := { row := streamOwnUptoRow, standIns := [], harness := (true, "46a48153de8cebeeae594ca6986354040d2a8ff2ad5998ea105fca36d1e4817a"), looks := true }, kinds := [], alts := [], laidByText := true, laidKinds := [.data, .data, .widerDeep, .widerDeep, .data, .data, .data, .data, .data, .sentinel, .sentinel, .pinned, .pinned], laidTests := true, laidLooks := .later }
def StreamOwnUptoCardSaid : Prop := Claim7.holds Tryz.pinned (.plain (OpenSpec.upto streamOwnSpec)) streamOwnUptoCard
end Rows
end Go.Proofs.YtkcipfmbkokfdaaGreatDoor
