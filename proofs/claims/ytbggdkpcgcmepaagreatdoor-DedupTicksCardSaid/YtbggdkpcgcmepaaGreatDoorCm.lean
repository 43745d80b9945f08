import Derived.Test.YtbggdkpcgcmepaaGreatDoorAn
namespace Go.Proofs.YtbggdkpcgcmepaaGreatDoor
open Go.RowKit Go.Sort

set_option maxHeartbeats 400000 in
theorem dcmp_walk (a b : Smp) (w : World) (T : Tabs w) :
    Calls Tryz.prog 13 #[vS a, vS b] w fun e w' => e = .returned (.int .i64 (cmpS a b)) ∧ Ext w w' := by
  obtain ⟨w1, hw1⟩ : ∃ w1, w1 = (w.alloc (.cells #[.int .i64 a.1, .int .i64 a.2.1, .int .i64 a.2.2.1, .int .i64 a.2.2.2] 28)).alloc (.cells #[.int .i64 b.1, .int .i64 b.2.1, .int .i64 b.2.2.1, .int .i64 b.2.2.2] 28) := ⟨_, rfl⟩
  have hE : Ext w w1 := by rw [hw1]; exact ((Ext.refl w).alloc _).alloc _
  have HE : Hid (Ext w w1) := hE
  have K := Lib.hid (scmp_walk a b w1 (T.ext hE))
  obtain ⟨c, hc⟩ : ∃ c, c = cmpS a b := ⟨_, rfl⟩
  rw [← hc] at K ⊢
  clear hE T hc
  unfold vS at *
  go_enter Tryz.func13, Tryz.ntmps13
  go_wp2_with fail
  rw [← hw1]
  refine K.out.mono ?_
  rintro e w2 ⟨rfl, hE2⟩
  go_wp2_with fail
  go_ret
  exact ⟨rfl, HE.out.trans hE2⟩

theorem at_walk (t m : Int) (w : World) : Calls Tryz.prog 25 #[.int .i64 t, .int .i64 m] w fun e w' => e = .returned (vS (t, m, 0, 0)) ∧ Ext w w' := by
  unfold vS
  go_enter Tryz.func25, Tryz.ntmps25
  go_wp2_with fail
  have hr : Tryz.f25.results = #[.cell 4 28] := by kernel_rfl
  refine bodyPost_ret (v := .agg #[.int .i64 t, .int .i64 m, .int .i64 0, .int .i64 0]) ?_ rfl ⟨rfl, (Ext.refl w).alloc _⟩
  unfold results
  rw [hr]
  go_simp
end Go.Proofs.YtbggdkpcgcmepaaGreatDoor
