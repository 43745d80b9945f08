/-
  DERIVED. GIVEN WITH THE SEED: THE CARDS: each row of YtglamimbkdldaaaGreatDoorRows.lean that lists a variable, with what it lists TIED to the program's text (the seventh form; the later family's looks); each row that meets fmt, with fmt's text TOLD by the authors' own Lean function (tested against real Go, not proved from fmt's source: count such statements apart). THE CARD IS WHAT COUNTS. Prove the row's statement (the work); the ties are given (YtglamimbkdldaaaGreatDoorTie.lean); close each card by the builder's one call (the guide's Derived/Test/ToyasCard.lean, 'card_holds'). Laid BY PROGRAM, IN A SANDBOX (cutbox-door.mjs). By AI agents, Wed Nov 11 2026. No macro, syntax, notation, axiom, sorry.
-/
import Derived.Test.YtglamimbkdldaaaGreatDoorRows
import GoSem.ClaimSeven
namespace Go.Proofs.YtglamimbkdldaaaGreatDoor
namespace Rows

/-- THE TIED CARD OF 'eskerlaw02.FloatBits'. -/
def floatBitsCard : Claim7 := { stood := { row := floatBitsRow, standIns := [], harness := (true, "6f532b349f04958d0d65ddfd37481345a22fcae1dc6ab12f3d6a6b07582a6ce9"), looks := true }, kinds := [], alts := [], laidByText := true, laidKinds := [.data, .data, .widerDeep, .widerDeep, .data, .data, .data, .data, .data, .sentinel, .sentinel, .pinned, .pinned], laidTests := true, laidLooks := .later }
def FloatBitsCardSaid : Prop := Claim7.holds Tryz.pinned (.plain (OpenSpec.ofChange floatBitsSpec)) floatBitsCard

/-- THE TIED CARD OF 'eskerlaw02.FloatOfs'. -/
def floatOfsCard : Claim7 := { stood := { row := floatOfsRow, standIns := [], harness := (true, "6f532b349f04958d0d65ddfd37481345a22fcae1dc6ab12f3d6a6b07582a6ce9"), looks := true }, kinds := [], alts := [], laidByText := true, laidKinds := [.data, .data, .widerDeep, .widerDeep, .data, .data, .data, .data, .data, .sentinel, .sentinel, .pinned, .pinned], laidTests := true, laidLooks := .later }
def FloatOfsCardSaid : Prop := Claim7.holds Tryz.pinned (.plain (OpenSpec.ofChange floatOfsSpec)) floatOfsCard

/-- THE TIED CARD OF 'eskerlaw02.FloatCleans'. -/
def floatCleansCard : Claim7 := { stood := { row := floatCleansRow, standIns := [], harness := (true, "6f532b349f04958d0d65ddfd37481345a22fcae1dc6ab12f3d6a6b07582a6ce9"), looks := true }, kinds := [], alts := [], laidByText := true, laidKinds := [.data, .data, .widerDeep, .widerDeep, .data, .data, .data, .data, .data, .sentinel, .sentinel, .pinned, .pinned], laidTests := true, laidLooks := .later }
def FloatCleansCardSaid : Prop := Claim7.holds Tryz.pinned (.plain (OpenSpec.ofChange floatCleansSpec)) floatCleansCard

/-- THE TIED CARD OF 'eskerlaw02.FloatOrders'. -/
def floatOrdersCard : Claim7 := { stood := { row := floatOrdersRow, standIns := [], harness := (true, "6f532b349f04958d0d65ddfd37481345a22fcae1dc6ab12f3d6a6b07582a6ce9"), looks := true }, kinds := [], alts := [], laidByText := true, laidKinds := [.data, .data, .widerDeep, .widerDeep, .data, .data, .data, .data, .data, .sentinel, .sentinel, .pinned, .pinned], laidTests := true, laidLooks := .later }
def FloatOrdersCardSaid : Prop := Claim7.holds Tryz.pinned (.plain (OpenSpec.ofChange floatOrdersSpec)) floatOrdersCard

/-- THE TIED CARD OF 'eskerlaw02.FloatOne'. -/
def floatOneCard : Claim7 := { stood := { row := floatOneRow, standIns := [], harness := (true, "6f532b349f04958d0d65ddfd37481345a22fcae1dc6ab12f3d6a6b07582a6ce9"), looks := true }, kinds := [], alts := [], laidByText := true, laidKinds := [.data, .data, .widerDeep, .widerDeep, .data, .data, .data, .data, .data, .sentinel, .sentinel, .pinned, .pinned], laidTests := true, laidLooks := .later }
def FloatOneCardSaid : Prop := Claim7.holds Tryz.pinned (.plain (OpenSpec.ofChange floatOneSpec)) floatOneCard

/-- THE TIED CARD OF 'eskerlaw02.FloatCompares'. -/
def floatComparesCard : Claim7 := { stood := { row := floatComparesRow, standIns := [], harness := (true, "6f532b349f04958d0d65ddfd37481345a22fcae1dc6ab12f3d6a6b07582a6ce9"), looks := true }, kinds := [], alts := [], laidByText := true, laidKinds := [.data, .data, .widerDeep, .widerDeep, .data, .data, .data, .data, .data, .sentinel, .sentinel, .pinned, .pinned], laidTests := true, laidLooks := .later }
def FloatComparesCardSaid : Prop := Claim7.holds Tryz.pinned (.plain (OpenSpec.ofChange floatComparesSpec)) floatComparesCard

/-- THE SECOND FORM's CARD OF 'eskerlaw02.FloatBits'. -/
def floatBitsUptoCard : Claim7 := { stood := { row := floatBitsUptoRow, standIns := [], harness := (true, "6f532b349f04958d0d65ddfd37481345a22fcae1dc6ab12f3d6a6b07582a6ce9"), looks := true }, kinds := [], alts := [], laidByText := true, laidKinds := [.data, .data, .widerDeep, .widerDeep, .data, .data, .data, .data, .data, .sentinel, .sentinel, .pinned, .pinned], laidTests := true, laidLooks := .later }
def FloatBitsUptoCardSaid : Prop := Claim7.holds Tryz.pinned (.plain (OpenSpec.upto floatBitsSpec)) floatBitsUptoCard

/-- THE SECOND FORM's CARD OF 'eskerlaw02.FloatOfs'. -/
def floatOfsUptoCard : Claim7 := { stood := { row := floatOfsUptoRow, standIns := [], harness := (true, "6f532b349f04958d0d65ddfd37481345a22fcae1dc6ab12f3d6a6b07582a6ce9"), looks := true }, kinds := [], alts := [], laidByText := true, laidKinds := [.data, .data, .widerDeep, .widerDeep, .data, .data, .data, .data, .data, .sentinel, .sentinel, .pinned, .pinned], laidTests := true, laidLooks := .later }
def FloatOfsUptoCardSaid : Prop := Claim7.holds Tryz.pinned (.plain (OpenSpec.upto floatOfsSpec)) floatOfsUptoCard

/-- THE SECOND FORM's CARD OF 'eskerlaw02.FloatCleans'. -/
def floatCleansUptoCard : Claim7 := { stood := { row := floatCleansUptoRow, standIns := [], harness := (true, "6f532b349f04958d0d65ddfd37481345a22fcae1dc6ab12f3d6a6b07582a6ce9"), looks := true }, kinds := [], alts := [], laidByText := true, laidKinds := [.data, .data, .widerDeep, .widerDeep, .data, .data, .data, .data, .data, .sentinel, .sentinel, .pinned, .pinned], laidTests := true, laidLooks := .later }
def FloatCleansUptoCardSaid : Prop := Claim7.holds Tryz.pinned (.plain (OpenSpec.upto floatCleansSpec)) floatCleansUptoCard

/-- THE SECOND FORM's CARD OF 'eskerlaw02.FloatOrders'. -/
def floatOrdersUptoCard : Claim7 := { stood := { row := floatOrdersUptoRow, standIns := [], harness := (true, "6f532b349f04958d0d65ddfd37481345a22fcae1dc6ab12f3d6a6b07582a6ce9"), looks := true }, kinds := [], alts := [], laidByText := true, laidKinds := [.data, .data, .widerDeep, .widerDeep, .data, .data, .data, .data, .data, .sentinel, .sentinel, .pinned, .pinned], laidTests := true, laidLooks := .later }
def FloatOrdersUptoCardSaid : Prop := Claim7.holds Tryz.pinned (.plain (OpenSpec.upto floatOrdersSpec)) floatOrdersUptoCard

/-- THE SECOND FORM's CARD OF 'eskerlaw02.FloatOne'. -/
def floatOneUptoCard : Claim7 := { stood := { row := floatOneUptoRow, standIns := [], harness := (true, "6f532b349f04958d0d65ddfd37481345a22fcae1dc6ab12f3d6a6b07582a6ce9"), looks := true }, kinds := [], alts := [], laidByText := true, laidKinds := [.data, .data, .widerDeep, .widerDeep, .data, .data, .data, .data, .data, .sentinel, .sentinel, .pinned, .pinned], laidTests := true, laidLooks := .later }
def FloatOneUptoCardSaid : Prop := Claim7.holds Tryz.pinned (.plain (OpenSpec.upto floatOneSpec)) floatOneUptoCard

/-- THE SECOND FORM's CARD OF 'eskerlaw02.FloatCompares'. -/
def floatComparesUptoCard : Claim7 := { stood := { row := floatComparesUptoRow, standIns := [], harness := (true, "6f532b349f04958d0d65ddfd37481345a22fcae1dc6ab12f3d6a6b07582a6ce9"), looks := true }, kinds := [], alts := [], laidByText := true, laidKinds := [.data, .data, .widerDeep, .widerDeep, .data, .data, .data, .data, .data, .sentinel, .sentinel, .pinned, .pinned], laidTests := true, laidLooks := .later }
def FloatComparesUptoCardSaid : Prop := Claim7.holds Tryz.pinned (.plain (OpenSpec.upto floatComparesSpec)) floatComparesUptoCard
end Rows
end Go.Proofs.YtglamimbkdldaaaGreatDoor
