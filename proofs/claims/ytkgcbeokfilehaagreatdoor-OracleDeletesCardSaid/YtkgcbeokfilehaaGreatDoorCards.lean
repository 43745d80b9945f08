/-
  DERIVED. GIVEN WITH THE SEED: THE CARDS: each row of YtkgcbeokfilehaaGreatDoorRows.lean that lists a variable, with what it lists TIED to the program's text (the seventh form; the later family's looks); each row that meets fmt, with fmt's text TOLD by the authors' own Lean function (tested against real Go, not proved from fmt's source: count such statements apart). THE CARD IS WHAT COUNTS. Prove the row's statement (the work); the ties are given (YtkgcbeokfilehaaGreatDoorTie.lean); close each card by the builder's one call (the guide's Derived/Test/ToyasCard.lean, 'card_holds'). Laid BY PROGRAM, IN A SANDBOX (cutbox-door.mjs). By AI agents, Wed Nov 11 2026. No macro, syntax, notation, axiom, sorry.
-/
import Derived.Test.YtkgcbeokfilehaaGreatDoorRows
import GoSem.ClaimSeven
namespace Go.Proofs.YtkgcbeokfilehaaGreatDoor
namespace Rows

/-- THE TIED CARD OF 'eskerlaw20.OracleOrder'. -/
def oracleOrderCard : Claim7 := { stood := { row := oracleOrderRow, standIns := [], harness := (true, "64d8c32d45eb8cca83407106ea2235e42eba15d56e400592d0f080fdeecbfa63"), looks := true }, kinds := [], alts := [], laidByText := true, laidKinds := [.data, .data, .widerDeep, .widerDeep, .data, .data, .data, .data, .data, .data, .sentinel, .sentinel, .pinned, .pinned, .pinned], laidTests := true, laidLooks := .later }
def OracleOrderCardSaid : Prop := Claim7.holds Tryz.pinned (.plain (OpenSpec.ofChange oracleOrderSpec)) oracleOrderCard

/-- THE TIED CARD OF 'eskerlaw20.OracleOld'. -/
def oracleOldCard : Claim7 := { stood := { row := oracleOldRow, standIns := [], harness := (true, "64d8c32d45eb8cca83407106ea2235e42eba15d56e400592d0f080fdeecbfa63"), looks := true }, kinds := [], alts := [], laidByText := true, laidKinds := [.data, .data, .widerDeep, .widerDeep, .data, .data, .data, .data, .data, .data, .sentinel, .sentinel, .pinned, .pinned, .pinned], laidTests := true, laidLooks := .later }
def OracleOldCardSaid : Prop := Claim7.holds Tryz.pinned (.plain (OpenSpec.ofChange oracleOldSpec)) oracleOldCard

/-- THE TIED CARD OF 'eskerlaw20.OracleNames'. -/
def oracleNamesCard : Claim7 := { stood := { row := oracleNamesRow, standIns := [], harness := (true, "64d8c32d45eb8cca83407106ea2235e42eba15d56e400592d0f080fdeecbfa63"), looks := true }, kinds := [], alts := [], laidByText := true, laidKinds := [.data, .data, .widerDeep, .widerDeep, .data, .data, .data, .data, .data, .data, .sentinel, .sentinel, .pinned, .pinned, .pinned], laidTests := true, laidLooks := .later }
def OracleNamesCardSaid : Prop := Claim7.holds Tryz.pinned (.plain (OpenSpec.ofChange oracleNamesSpec)) oracleNamesCard

/-- THE TIED CARD OF 'eskerlaw20.OraclePlays'. -/
def oraclePlaysCard : Claim7 := { stood := { row := oraclePlaysRow, standIns := [], harness := (true, "64d8c32d45eb8cca83407106ea2235e42eba15d56e400592d0f080fdeecbfa63"), looks := true }, kinds := [], alts := [], laidByText := true, laidKinds := [.data, .data, .widerDeep, .widerDeep, .data, .data, .data, .data, .data, .data, .sentinel, .sentinel, .pinned, .pinned, .pinned], laidTests := true, laidLooks := .later }
def OraclePlaysCardSaid : Prop := Claim7.holds Tryz.pinned (.plain (OpenSpec.ofChange oraclePlaysSpec)) oraclePlaysCard

/-- THE TIED CARD OF 'eskerlaw20.OracleTells'. -/
def oracleTellsCard : Claim7 := { stood := { row := oracleTellsRow, standIns := [], harness := (true, "64d8c32d45eb8cca83407106ea2235e42eba15d56e400592d0f080fdeecbfa63"), looks := true }, kinds := [], alts := [], laidByText := true, laidKinds := [.data, .data, .widerDeep, .widerDeep, .data, .data, .data, .data, .data, .data, .sentinel, .sentinel, .pinned, .pinned, .pinned], laidTests := true, laidLooks := .later }
def OracleTellsCardSaid : Prop := Claim7.holds Tryz.pinned (.plain (OpenSpec.ofChange oracleTellsSpec)) oracleTellsCard

/-- THE TIED CARD OF 'eskerlaw20.OracleDeletes'. -/
def oracleDeletesCard : Claim7 := { stood := { row := oracleDeletesRow, standIns := [], harness := (true, "64d8c32d45eb8cca83407106ea2235e42eba15d56e400592d0f080fdeecbfa63"), looks := true }, kinds := [], alts := [], laidByText := true, laidKinds := [.data, .data, .widerDeep, .widerDeep, .data, .data, .data, .data, .data, .data, .sentinel, .sentinel, .pinned, .pinned, .pinned], laidTests := true, laidLooks := .later }
def OracleDeletesCardSaid : Prop := Claim7.holds Tryz.pinned (.plain (OpenSpec.ofChange oracleDeletesSpec)) oracleDeletesCard

/-- THE SECOND FORM's CARD OF 'eskerlaw20.OracleOrder'. -/
def oracleOrderUptoCard : Claim7 := { stood := { row := oracleOrderUptoRow, standIns := [], harness := (true, "64d8c32d45eb8cca83407106ea2235e42eba15d56e400592d0f080fdeecbfa63"), looks := true }, kinds := [], alts := [], laidByText := true, laidKinds := [.data, .data, .widerDeep, .widerDeep, .data, .data, .data, .data, .data, .data, .sentinel, .sentinel, .pinned, .pinned, .pinned], laidTests := true, laidLooks := .later }
def OracleOrderUptoCardSaid : Prop := Claim7.holds Tryz.pinned (.plain (OpenSpec.upto oracleOrderSpec)) oracleOrderUptoCard

/-- THE SECOND FORM's CARD OF 'eskerlaw20.OracleOld'. -/
def oracleOldUptoCard : Claim7 := { stood := { row := oracleOldUptoRow, standIns := [], harness := (true, "64d8c32d45eb8cca83407106ea2235e42eba15d56e400592d0f080fdeecbfa63"), looks := true }, kinds := [], alts := [], laidByText := true, laidKinds := [.data, .data, .widerDeep, .widerDeep, .data, .data, .data, .data, .data, .data, .sentinel, .sentinel, .pinned, .pinned, .pinned], laidTests := true, laidLooks := .later }
def OracleOldUptoCardSaid : Prop := Claim7.holds Tryz.pinned (.plain (OpenSpec.upto oracleOldSpec)) oracleOldUptoCard

/-- THE SECOND FORM's CARD OF 'eskerlaw20.OracleNames'. -/
def oracleNamesUptoCard : Claim7 := { stood := { row := oracleNamesUptoRow, standIns := [], harness := (true, "64d8c32d45eb8cca83407106ea2235e42eba15d56e400592d0f080fdeecbfa63"), looks := true }, kinds := [], alts := [], laidByText := true, laidKinds := [.data, .data, .widerDeep, .widerDeep, .data, .data, .data, .data, .data, .data, .sentinel, .sentinel, .pinned, .pinned, .pinned], laidTests := true, laidLooks := .later }
def OracleNamesUptoCardSaid : Prop := Claim7.holds Tryz.pinned (.plain (OpenSpec.upto oracleNamesSpec)) oracleNamesUptoCard

/-- THE SECOND FORM's CARD OF 'eskerlaw20.OraclePlays'. -/
def oraclePlaysUptoCard : Claim7 := { stood := { row := oraclePlaysUptoRow, standIns := [], harness := (true, "64d8c32d45eb8cca83407106ea2235e42eba15d56e400592d0f080fdeecbfa63"), looks := true }, kinds := [], alts := [], laidByText := true, laidKinds := [.data, .data, .widerDeep, .widerDeep, .data, .data, .data, .data, .data, .data, .sentinel, .sentinel, .pinned, .pinned, .pinned], laidTests := true, laidLooks := .later }
def OraclePlaysUptoCardSaid : Prop := Claim7.holds Tryz.pinned (.plain (OpenSpec.upto oraclePlaysSpec)) oraclePlaysUptoCard

/-- THE SECOND FORM's CARD OF 'eskerlaw20.OracleTells'. -/
def oracleTellsUptoCard : Claim7 := { stood := { row := oracleTellsUptoRow, standIns := [], harness := (true, "64d8c32d45eb8cca83407106ea2235e42eba15d56e400592d0f080fdeecbfa63"), looks := true }, kinds := [], alts := [], laidByText := true, laidKinds := [.data, .data, .widerDeep, .widerDeep, .data, .data, .data, .data, .data, .data, .sentinel, .sentinel, .pinned, .pinned, .pinned], laidTests := true, laidLooks := .later }
def OracleTellsUptoCardSaid : Prop := Claim7.holds Tryz.pinned (.plain (OpenSpec.upto oracleTellsSpec)) oracleTellsUptoCard

/-- THE SECOND FORM's CARD OF 'eskerlaw20.OracleDeletes'. -/
def oracleDeletesUptoCard : Claim7 := { stood := { row := oracleDeletesUptoRow, standIns := [], harness := (true, "64d8c32d45eb8cca83407106ea2235e42eba15d56e400592d0f080fdeecbfa63"), looks := true }, kinds := [], alts := [], laidByText := true, laidKinds := [.data, .data, .widerDeep, .widerDeep, .data, .data, .data, .data, .data, .data, .sentinel, .sentinel, .pinned, .pinned, .pinned], laidTests := true, laidLooks := .later }
def OracleDeletesUptoCardSaid : Prop := Claim7.holds Tryz.pinned (.plain (OpenSpec.upto oracleDeletesSpec)) oracleDeletesUptoCard
end Rows
end Go.Proofs.YtkgcbeokfilehaaGreatDoor
