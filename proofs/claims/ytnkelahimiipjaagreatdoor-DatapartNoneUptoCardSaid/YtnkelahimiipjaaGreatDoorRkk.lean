/-
 A map whose elements are rows of points that the call made itself: no two keys' rows in one block.
-/
import Derived.Test.YtnkelahimiipjaaGreatDoorOqk
import Derived.Test.YtnkelahimiipjaaGreatDoorKsk
import Derived.Test.YtnkelahimiipjaaGreatDoorMmk
import Derived.Test.YtnkelahimiipjaaGreatDoorRgk
import Derived.Test.YtnkelahimiipjaaGreatDoorQpk
namespace Go.Proofs.YtnkelahimiipjaaGreatDoor
open Go.RowKit Go.Sort Go.Maps
end Go.Proofs.YtnkelahimiipjaaGreatDoor

/-
 eskerref11.Put: a number put into a rising row, once.
-/
namespace Go.Proofs.YtnkelahimiipjaaGreatDoor
open Go.RowKit Go.Sort
end Go.Proofs.YtnkelahimiipjaaGreatDoor

/-
 The reference's own words on points: Of, Ids.
-/
namespace Go.Proofs.YtnkelahimiipjaaGreatDoor
open Go.RowKit Go.Sort Go.Maps
end Go.Proofs.YtnkelahimiipjaaGreatDoor

/-
 The reference's Clean, Many.
-/
namespace Go.Proofs.YtnkelahimiipjaaGreatDoor
open Go.RowKit Go.Sort Go.Maps
end Go.Proofs.YtnkelahimiipjaaGreatDoor
