/-
 stream.Months.
-/
import Derived.Test.YtnkelahimiipjaaGreatDoorMo2t
import Derived.Deep.RegionHeld3
import Derived.Deep.DrawnRows
import Derived.WalkArith
namespace Go.Proofs.YtnkelahimiipjaaGreatDoor
open Go.RowKit Go.Sort Go.Maps
attribute [local go_sem ↓] Go.wp_at_zero Go.wp_at_succ
end Go.Proofs.YtnkelahimiipjaaGreatDoor
