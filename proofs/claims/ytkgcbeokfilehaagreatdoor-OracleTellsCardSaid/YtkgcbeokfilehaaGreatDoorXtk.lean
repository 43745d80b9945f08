/-
  The reference: a rising row of texts with one more; names; values.
-/
import Derived.Test.YtkgcbeokfilehaaGreatDoorGnk
import Derived.Test.YtkgcbeokfilehaaGreatDoorXsk
import Derived.Test.YtkgcbeokfilehaaGreatDoorWdk
namespace Go.Proofs.YtkgcbeokfilehaaGreatDoor
open Go.RowKit Go.Sort Go.Maps
end Go.Proofs.YtkgcbeokfilehaaGreatDoor
