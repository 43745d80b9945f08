/-
 Rows of whole numbers.
-/
import Derived.Test.YtnkelahimiipjaaGreatDoorProg
import Derived.Test.YtnkelahimiipjaaGreatDoorBasek
import Derived.Maps.AppendAt
import Derived.Laws.AppendOwnNone
import Derived.Test.YtnkelahimiipjaaGreatDoorPak
namespace Go.Proofs.YtnkelahimiipjaaGreatDoor
open Go.RowKit Go.Sort
end Go.Proofs.YtnkelahimiipjaaGreatDoor

namespace Go.Proofs.YtnkelahimiipjaaGreatDoor
open Go.RowKit Go.Sort
end Go.Proofs.YtnkelahimiipjaaGreatDoor

namespace Go.Proofs.YtnkelahimiipjaaGreatDoor
open Go.RowKit Go.Sort
end Go.Proofs.YtnkelahimiipjaaGreatDoor

namespace Go.Proofs.YtnkelahimiipjaaGreatDoor
open Go.RowKit Go.Sort
end Go.Proofs.YtnkelahimiipjaaGreatDoor

namespace Go.Proofs.YtnkelahimiipjaaGreatDoor
open Go.RowKit Go.Sort
end Go.Proofs.YtnkelahimiipjaaGreatDoor
