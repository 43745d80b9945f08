import Derived.Test.YtbggdkpcgcmepaaGreatDoorCmp
namespace Go.Proofs.YtbggdkpcgcmepaaGreatDoor
open Go.RowKit Go.Sort

def vS (a : Smp) : Value := .agg #[.int .i64 a.1, .int .i64 a.2.1, .int .i64 a.2.2.1, .int .i64 a.2.2.2]

theorem new_cell (w : World) (cs : Array Value) (t : TypeId) (i : Nat) : (w.alloc (.cells cs t)).cell? ⟨w.heap.size, i, none⟩ = cs[i]? := by
  unfold World.cell?; rw [heap_alloc_new]; rfl
set_option maxRecDepth 100000 in
set_option maxHeartbeats 1000000 in
theorem scmp_walk (a b : Smp) (w : World) (T : Tabs w) :
    Calls Tryz.prog 27 #[vS a, vS b] w fun e w' => e = .returned (.int .i64 (cmpS a b)) ∧ Ext w w' := by
  obtain ⟨at_, am, ax, as_⟩ := a
  obtain ⟨bt, bm, bx, bs⟩ := b
  have KF : ∀ W, Tabs W → Calls Tryz.prog 37 #[.agg #[.int .i64 am, .int .i64 ax, .int .i64 as_], .agg #[.int .i64 bm, .int .i64 bx, .int .i64 bs]] W fun e w' => e = .returned (.int .i64 (cmpV (at_, am, ax, as_) (bt, bm, bx, bs))) ∧ Ext W w' := fun W T => fcmp_walk (at_, am, ax, as_) (bt, bm, bx, bs) W T
  obtain ⟨v, hv⟩ : ∃ v, v = cmpV (at_, am, ax, as_) (bt, bm, bx, bs) := ⟨_, rfl⟩
  have hfin : Hid (cmpS (at_, am, ax, as_) (bt, bm, bx, bs) = orI (cmpI at_ bt) v) := by rw [hv]; rfl
  rw [hfin.out]
  rw [← hv] at KF
  have K := Lib.hid KF
  clear KF hv hfin
  obtain ⟨u, hu⟩ : ∃ u, u = cmpI at_ bt := ⟨_, rfl⟩
  have K2 : Hid (∀ W, Calls Tryz.prog 36 #[.int .i64 at_, .int .i64 bt] W fun e w' => e = .returned (.int .i64 u) ∧ W = w') := fun W => by rw [hu]; exact cmp64_walk at_ bt W
  rw [← hu]
  clear hu
  unfold vS
  have hs1 : w.heap.size + 1 < w.heap.size + 1 + 1 := by omega
  go_enter Tryz.func27, Tryz.ntmps27
  go_wp2_with fail
  obtain ⟨w1, hw1⟩ : ∃ w1, w1 = (w.alloc (.cells #[.int .i64 at_, .int .i64 am, .int .i64 ax, .int .i64 as_] 43)).alloc (.cells #[.int .i64 bt, .int .i64 bm, .int .i64 bx, .int .i64 bs] 43) := ⟨_, rfl⟩
  rw [← hw1]
  have a0 : w1.cell? ⟨w.heap.size, 0, none⟩ = some (.int .i64 at_) := by rw [hw1]; simp
  have a1 : w1.cell? ⟨w.heap.size, 1, none⟩ = some (.int .i64 am) := by rw [hw1]; simp
  have a2 : w1.cell? ⟨w.heap.size, 2, none⟩ = some (.int .i64 ax) := by rw [hw1]; simp
  have a3 : w1.cell? ⟨w.heap.size, 3, none⟩ = some (.int .i64 as_) := by rw [hw1]; simp
  have b0 : w1.cell? ⟨w.heap.size + 1, 0, none⟩ = some (.int .i64 bt) := by rw [hw1]; simp
  have b1 : w1.cell? ⟨w.heap.size + 1, 1, none⟩ = some (.int .i64 bm) := by rw [hw1]; simp
  have b2 : w1.cell? ⟨w.heap.size + 1, 2, none⟩ = some (.int .i64 bx) := by rw [hw1]; simp
  have b3 : w1.cell? ⟨w.heap.size + 1, 3, none⟩ = some (.int .i64 bs) := by rw [hw1]; simp
  have hE : Ext w w1 := by rw [hw1]; exact ((Ext.refl w).alloc _).alloc _
  have hT : Tabs w1 := T.ext hE
  clear hw1
  go_region_held3 (fun w' => w'.cell? ⟨w.heap.size, 0, none⟩ = some (.int .i64 at_) ∧ w'.cell? ⟨w.heap.size, 1, none⟩ = some (.int .i64 am) ∧ w'.cell? ⟨w.heap.size, 2, none⟩ = some (.int .i64 ax) ∧ w'.cell? ⟨w.heap.size, 3, none⟩ = some (.int .i64 as_) ∧ w'.cell? ⟨w.heap.size + 1, 0, none⟩ = some (.int .i64 bt) ∧ w'.cell? ⟨w.heap.size + 1, 1, none⟩ = some (.int .i64 bm) ∧ w'.cell? ⟨w.heap.size + 1, 2, none⟩ = some (.int .i64 bx) ∧ w'.cell? ⟨w.heap.size + 1, 3, none⟩ = some (.int .i64 bs) ∧ Ext w w' ∧ Tabs w')
    (refine ⟨?_, ?_, ?_, ?_, ?_, ?_, ?_, ?_, ?_, ?_⟩ <;> first | assumption | exact Ext.drew (by assumption) | exact Tabs.drew (by assumption) | exact Ext.cell_some (by assumption) (by assumption) | exact Ext.trans (Ext.drew (by assumption)) (by assumption) | exact Ext.trans (by assumption) (by assumption) | exact Tabs.ext (Tabs.drew (by assumption)) (by assumption) | exact Tabs.ext (by assumption) (by assumption) | exact Ext.cell_some (Ext.alloc (Ext.refl _) _) (by assumption) | exact Ext.alloc (by assumption) _ | exact Tabs.ext (by assumption) (Ext.alloc (Ext.refl _) _))
    (first | (go_at_call 36; refine (K2.out _).mono ?_; rintro e w' ⟨rfl, rfl⟩) | (go_at_call 37; refine (K.out _ ?_).mono ?_; (first | assumption | exact Tabs.drew (by assumption)); rintro e w' ⟨rfl, hE'⟩; have hX' := Ext.trans (Ext.drew hE) hE'; have hT' := Tabs.ext (Tabs.drew hT) hE'; have a0' := Ext.cell_some hE' a0; have a1' := Ext.cell_some hE' a1; have a2' := Ext.cell_some hE' a2; have a3' := Ext.cell_some hE' a3; have b0' := Ext.cell_some hE' b0; have b1' := Ext.cell_some hE' b1; have b2' := Ext.cell_some hE' b2; have b3' := Ext.cell_some hE' b3) | (go_at_call 35; refine (or_walk u v w'.heap.size 2 _ (new_cell _ _ _ 0) (new_cell _ _ _ 1)).mono ?_; rintro e w3 ⟨rfl, rfl⟩))
  go_wp2_with fail
  go_ret
  exact ⟨rfl, hX'.alloc _⟩
end Go.Proofs.YtbggdkpcgcmepaaGreatDoor
