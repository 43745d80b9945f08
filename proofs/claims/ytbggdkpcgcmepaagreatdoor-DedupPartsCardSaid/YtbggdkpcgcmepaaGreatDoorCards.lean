/-
  DERIVED. GIVEN WITH THE SEED: THE CARDS: each row of YtbggdkpcgcmepaaGreatDoorRows.lean that lists a variable, with what it lists TIED to the program's text (the seventh form; the later family's looks); each row that meets fmt, with fmt's text TOLD by the authors' own Lean function (tested against real Go, not proved from fmt's source: count such statements apart). THE CARD IS WHAT COUNTS. Prove the row's statement (the work); the ties are given (YtbggdkpcgcmepaaGreatDoorTie.lean); close each card by the builder's one call (the guide's Derived/Test/ToyasCard.lean, 'card_holds'). Laid BY PROGRAM, IN A SANDBOX (cutbox-door.mjs). By AI agents, Wed Nov 11 2026. No macro, syntax, notation, axiom, sorry.
-/
import Derived.Test.YtbggdkpcgcmepaaGreatDoorRows
import GoSem.ClaimSeven
namespace Go.Proofs.YtbggdkpcgcmepaaGreatDoor
namespace Rows

/-- THE TIED CARD OF 'eskerlaw15.DedupSorts'. -/
def dedupSortsCard : Claim7 := { stood := { row := dedupSortsRow, standIns := [], harness := (true, "90e87c0966952f15645987c18305ac7866c292d02d5964e45db266303f80c0f4"), looks := true }, kinds := [], alts := [], laidByText := true, laidKinds := [.data, .data, .widerDeep, .widerDeep, .data, .data, .data, .data, .data, .sentinel, .sentinel, .pinned, .pinned], laidTests := true, laidLooks := .later }
def DedupSortsCardSaid : Prop := Claim7.holds Tryz.pinned (.plain (OpenSpec.ofChange dedupSortsSpec)) dedupSortsCard

/-- THE TIED CARD OF 'eskerlaw15.DedupKeeps'. -/
def dedupKeepsCard : Claim7 := { stood := { row := dedupKeepsRow, standIns := [], harness := (true, "90e87c0966952f15645987c18305ac7866c292d02d5964e45db266303f80c0f4"), looks := true }, kinds := [], alts := [], laidByText := true, laidKinds := [.data, .data, .widerDeep, .widerDeep, .data, .data, .data, .data, .data, .sentinel, .sentinel, .pinned, .pinned], laidTests := true, laidLooks := .later }
def DedupKeepsCardSaid : Prop := Claim7.holds Tryz.pinned (.plain (OpenSpec.ofChange dedupKeepsSpec)) dedupKeepsCard

/-- THE TIED CARD OF 'eskerlaw15.DedupTwice'. -/
def dedupTwiceCard : Claim7 := { stood := { row := dedupTwiceRow, standIns := [], harness := (true, "90e87c0966952f15645987c18305ac7866c292d02d5964e45db266303f80c0f4"), looks := true }, kinds := [], alts := [], laidByText := true, laidKinds := [.data, .data, .widerDeep, .widerDeep, .data, .data, .data, .data, .data, .sentinel, .sentinel, .pinned, .pinned], laidTests := true, laidLooks := .later }
def DedupTwiceCardSaid : Prop := Claim7.holds Tryz.pinned (.plain (OpenSpec.ofChange dedupTwiceSpec)) dedupTwiceCard

/-- THE TIED CARD OF 'eskerlaw15.DedupParts'. -/
def dedupPartsCard : Claim7 := { stood := { row := dedupPartsRow, standIns := [], harness := (true, "90e87c0966952f15645987c18305ac7866c292d02d5964e45db266303f80c0f4"), looks := true }, kinds := [], alts := [], laidByText := true, laidKinds := [.data, .data, .widerDeep, .widerDeep, .data, .data, .data, .data, .data, .sentinel, .sentinel, .pinned, .pinned], laidTests := true, laidLooks := .later }
def DedupPartsCardSaid : Prop := Claim7.holds Tryz.pinned (.plain (OpenSpec.ofChange dedupPartsSpec)) dedupPartsCard

/-- THE TIED CARD OF 'eskerlaw15.DedupOne'. -/
def dedupOneCard : Claim7 := { stood := { row := dedupOneRow, standIns := [], harness := (true, "90e87c0966952f15645987c18305ac7866c292d02d5964e45db266303f80c0f4"), looks := true }, kinds := [], alts := [], laidByText := true, laidKinds := [.data, .data, .widerDeep, .widerDeep, .data, .data, .data, .data, .data, .sentinel, .sentinel, .pinned, .pinned], laidTests := true, laidLooks := .later }
def DedupOneCardSaid : Prop := Claim7.holds Tryz.pinned (.plain (OpenSpec.ofChange dedupOneSpec)) dedupOneCard

/-- THE TIED CARD OF 'eskerlaw15.DedupTicks'. -/
def dedupTicksCard : Claim7 := { stood := { row := dedupTicksRow, standIns := [], harness := (true, "90e87c0966952f15645987c18305ac7866c292d02d5964e45db266303f80c0f4"), looks := true }, kinds := [], alts := [], laidByText := true, laidKinds := [.data, .data, .widerDeep, .widerDeep, .data, .data, .data, .data, .data, .sentinel, .sentinel, .pinned, .pinned], laidTests := true, laidLooks := .later }
def DedupTicksCardSaid : Prop := Claim7.holds Tryz.pinned (.plain (OpenSpec.ofChange dedupTicksSpec)) dedupTicksCard

/-- THE TIED CARD OF 'eskerlaw15.DedupOwn'. -/
def dedupOwnCard : Claim7 := { stood := { row := dedupOwnRow, standIns := [], harness := (true, "90e87c0966952f15645987c18305ac7866c292d02d5964e45db266303f80c0f4"), looks := true }, kinds := [], alts := [], laidByText := true, laidKinds := [.data, .data, .widerDeep, .widerDeep, .data, .data, .data, .data, .data, .sentinel, .sentinel, .pinned, .pinned], laidTests := true, laidLooks := .later }
def DedupOwnCardSaid : Prop := Claim7.holds Tryz.pinned (.plain (OpenSpec.ofChange dedupOwnSpec)) dedupOwnCard

/-- THE SECOND FORM's CARD OF 'eskerlaw15.DedupSorts'. -/
def dedupSortsUptoCard : Claim7 := { stood := { row := dedupSortsUptoRow, standIns := [], harness := (true, "90e87c0966952f15645987c18305ac7866c292d02d5964e45db266303f80c0f4"), looks := true }, kinds := [], alts := [], laidByText := true, laidKinds := [.data, .data, .widerDeep, .widerDeep, .data, .data, .data, .data, .data, .sentinel, .sentinel, .pinned, .pinned], laidTests := true, laidLooks := .later }
def DedupSortsUptoCardSaid : Prop := Claim7.holds Tryz.pinned (.plain (OpenSpec.upto dedupSortsSpec)) dedupSortsUptoCard

/-- THE SECOND FORM's CARD OF 'eskerlaw15.DedupKeeps'. -/
def dedupKeepsUptoCard : Claim7 := { stood := { row := dedupKeepsUptoRow, standIns := [], harness := (true, "90e87c0966952f15645987c18305ac7866c292d02d5964e45db266303f80c0f4"), looks := true }, kinds := [], alts := [], laidByText := true, laidKinds := [.data, .data, .widerDeep, .widerDeep, .data, .data, .data, .data, .data, .sentinel, .sentinel, .pinned, .pinned], laidTests := true, laidLooks := .later }
def DedupKeepsUptoCardSaid : Prop := Claim7.holds Tryz.pinned (.plain (OpenSpec.upto dedupKeepsSpec)) dedupKeepsUptoCard

/-- THE SECOND FORM's CARD OF 'eskerlaw15.DedupTwice'. -/
def dedupTwiceUptoCard : Claim7 := { stood := { row := dedupTwiceUptoRow, standIns := [], harness := (true, "90e87c0966952f15645987c18305ac7866c292d02d5964e45db266303f80c0f4"), looks := true }, kinds := [], alts := [], laidByText := true, laidKinds := [.data, .data, .widerDeep, .widerDeep, .data, .data, .data, .data, .data, .sentinel, .sentinel, .pinned, .pinned], laidTests := true, laidLooks := .later }
def DedupTwiceUptoCardSaid : Prop := Claim7.holds Tryz.pinned (.plain (OpenSpec.upto dedupTwiceSpec)) dedupTwiceUptoCard

/-- THE SECOND FORM's CARD OF 'eskerlaw15.DedupParts'. -/
def dedupPartsUptoCard : Claim7 := { stood := { row := dedupPartsUptoRow, standIns := [], harness := (true, "90e87c0966952f15645987c18305ac7866c292d02d5964e45db266303f80c0f4"), looks := true }, kinds := [], alts := [], laidByText := true, laidKinds := [.data, .data, .widerDeep, .widerDeep, .data, .data, .data, .data, .data, .sentinel, .sentinel, .pinned, .pinned], laidTests := true, laidLooks := .later }
def DedupPartsUptoCardSaid : Prop := Claim7.holds Tryz.pinned (.plain (OpenSpec.upto dedupPartsSpec)) dedupPartsUptoCard

/-- THE SECOND FORM's CARD OF 'eskerlaw15.DedupOne'. -/
def dedupOneUptoCard : Claim7 := { stood := { row := dedupOneUptoRow, standIns := [], harness := (true, "90e87c0966952f15645987c18305ac7866c292d02d5964e45db266303f80c0f4"), looks := true }, kinds := [], alts := [], laidByText := true, laidKinds := [.data, .data, .widerDeep, .widerDeep, .data, .data, .data, .data, .data, .sentinel, .sentinel, .pinned, .pinned], laidTests := true, laidLooks := .later }
def DedupOneUptoCardSaid : Prop := Claim7.holds Tryz.pinned (.plain (OpenSpec.upto dedupOneSpec)) dedupOneUptoCard

/-- THE SECOND FORM's CARD OF 'eskerlaw15.DedupTicks'. -/
def dedupTicksUptoCard : Claim7 := { stood := { row := dedupTicksUptoRow, standIns := [], harness := (true, "90e87c0966952f15645987c18305ac7866c292d02d5964e45db266303f80c0f4"), looks := true }, kinds := [], alts := [], laidByText := true, laidKinds := [.data, .data, .widerDeep, .widerDeep, .data, .data, .data, .data, .data, .sentinel, .sentinel, .pinned, .pinned], laidTests := true, laidLooks := .later }
def DedupTicksUptoCardSaid : Prop := Claim7.holds Tryz.pinned (.plain (OpenSpec.upto dedupTicksSpec)) dedupTicksUptoCard

/-- THE SECOND FORM's CARD OF 'eskerlaw15.DedupOwn'. -/
def dedupOwnUptoCard : Claim7 := { stood := { row := dedupOwnUptoRow, standIns := [], harness := (true, "90e87c0966952f15645987c18305ac7866c292d02d5964e45db266303f80c0f4"), looks := true }, kinds := [], alts := [], laidByText := true, laidKinds := [.data, .data, .widerDeep, .widerDeep, .data, .data, .data, .data, .data, .sentinel, .sentinel, .pinned, .pinned], laidTests := true, laidLooks := .later }
def DedupOwnUptoCardSaid : Prop := Claim7.holds Tryz.pinned (.plain (OpenSpec.upto dedupOwnSpec)) dedupOwnUptoCard
end Rows
end Go.Proofs.YtbggdkpcgcmepaaGreatDoor
