/-
  The reference: a rising row of texts with one more; names; values.
-/
import Derived.Test.YtkgcbeokfilehaaGreatDoorGnd
import Derived.Test.YtkgcbeokfilehaaGreatDoorXsd
import Derived.Test.YtkgcbeokfilehaaGreatDoorWdd
namespace Go.Proofs.YtkgcbeokfilehaaGreatDoor
open Go.RowKit Go.Sort Go.Maps
end Go.Proofs.YtkgcbeokfilehaaGreatDoor
