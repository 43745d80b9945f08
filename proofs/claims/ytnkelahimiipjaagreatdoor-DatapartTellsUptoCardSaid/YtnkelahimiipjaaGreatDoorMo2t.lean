/-
 The reference's Months.
-/
import Derived.Test.YtnkelahimiipjaaGreatDoorVrt
import Derived.Test.YtnkelahimiipjaaGreatDoorPzt
import Derived.Test.YtnkelahimiipjaaGreatDoorKst
import Derived.Shelf.Abstract
namespace Go.Proofs.YtnkelahimiipjaaGreatDoor
open Go.RowKit Go.Sort Go.Maps
end Go.Proofs.YtnkelahimiipjaaGreatDoor
