/-
 The reference's Months.
-/
import Derived.Test.YtnkelahimiipjaaGreatDoorVrk
import Derived.Test.YtnkelahimiipjaaGreatDoorRkk
import Derived.Test.YtnkelahimiipjaaGreatDoorOqk
import Derived.Test.YtnkelahimiipjaaGreatDoorKsk
import Derived.Shelf.Abstract
namespace Go.Proofs.YtnkelahimiipjaaGreatDoor
open Go.RowKit Go.Sort Go.Maps
end Go.Proofs.YtnkelahimiipjaaGreatDoor

/-
 The first sample of another month: stream.Months' closure, slices.IndexFunc over it.
-/
namespace Go.Proofs.YtnkelahimiipjaaGreatDoor
open Go.RowKit Go.Sort Go.Maps
end Go.Proofs.YtnkelahimiipjaaGreatDoor

/-
 stream.Months: the sorted keys of its map; one more of points in one month.
-/
namespace Go.Proofs.YtnkelahimiipjaaGreatDoor
open Go.RowKit Go.Sort Go.Maps
end Go.Proofs.YtnkelahimiipjaaGreatDoor
