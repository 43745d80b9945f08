import Derived.Test.YtglamimbkdldaaaGreatDoorProg
import Derived.Deep.Light
import Derived.Test.YtglamimbkdldaaaGreatDoorBase
import Derived.Test.YtglamimbkdldaaaGreatDoorPa
namespace Go.Proofs.YtglamimbkdldaaaGreatDoor
open Go.RowKit Go.Sort

set_option maxHeartbeats 400000 in
/-- float.Right. -/
theorem fright_walk (m x s : Int) (w : World) :
    Calls Tryz.prog 12 #[.agg #[.int .i64 m, .int .i64 x, .int .i64 s]] w fun e w' => e = .returned (.bool (rightV m x s)) ∧ Ext w w' := by
  go_enter Tryz.func12, Tryz.ntmps12
  go_wp2
  all_goals go_ret
  all_goals refine ⟨ret_bool ?_, by repeat (first | exact Ext.refl _ | apply Ext.drew | apply Ext.alloc)⟩
  all_goals (try simp only [tmod10] at *)
  all_goals (go_light; rw [Bool.eq_iff_iff]; unfold rightV; simp_all <;> first | omega | (rw [tmod10]; omega))
set_option maxHeartbeats 400000 in
/-- eskerref02.Right. -/
theorem rright_walk (m x s : Int) (w : World) :
    Calls Tryz.prog 13 #[.agg #[.int .i64 m, .int .i64 x, .int .i64 s]] w fun e w' => e = .returned (.bool (rightV m x s)) ∧ Ext w w' := by
  go_enter Tryz.func13, Tryz.ntmps13
  go_wp2
  all_goals go_ret
  all_goals refine ⟨ret_bool ?_, by repeat (first | exact Ext.refl _ | apply Ext.drew | apply Ext.alloc)⟩
  all_goals (try simp only [tmod10] at *)
  all_goals (go_light; rw [Bool.eq_iff_iff]; unfold rightV; simp_all <;> first | omega | (rw [tmod10]; omega))
end Go.Proofs.YtglamimbkdldaaaGreatDoor
