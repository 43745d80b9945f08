import Derived.Test.YtglamimbkdldaaaGreatDoorBc
import Derived.Deep.RegionHeld3
namespace Go.Proofs.YtglamimbkdldaaaGreatDoor
open Go.RowKit Go.Sort
def cmpI (a b : Int) : Int := if a < b then -1 else if b < a then 1 else 0
set_option maxHeartbeats 400000 in
theorem cmpu64_walk (a b : Int) (w : World) : Calls Tryz.prog 32 #[.int .u64 a, .int .u64 b] w fun e w' => e = .returned (.int .i64 (cmpI a b)) ∧ w = w' := by
  rcases Int.lt_trichotomy a b with h | rfl | h
  · have h1 : decide (a < b) = true := by simp [h]
    have hv : Hid (cmpI a b = -1) := by show cmpI a b = -1; unfold cmpI; rw [if_pos h]
    go_enter Tryz.func32, Tryz.ntmps32
    go_wp2
    go_ret
    exact ⟨ret_int hv.out.symm, rfl⟩
  · have hv : Hid (cmpI a a = 0) := by show cmpI a a = 0; unfold cmpI; simp
    go_enter Tryz.func32, Tryz.ntmps32
    go_wp2
    go_ret
    exact ⟨ret_int hv.out.symm, rfl⟩
  · have h1 : ¬ a < b := by omega
    have hv : Hid (cmpI a b = 1) := by show cmpI a b = 1; unfold cmpI; rw [if_neg h1, if_pos h]
    go_enter Tryz.func32, Tryz.ntmps32
    go_wp2
    go_ret
    exact ⟨ret_int hv.out.symm, rfl⟩
set_option maxHeartbeats 400000 in
theorem fcmpV_walk (am ax as_ bm bx bs : Int) (w : World) (T : Tabs w) :
    Calls Tryz.prog 17 #[.agg #[.int .i64 am, .int .i64 ax, .int .i64 as_], .agg #[.int .i64 bm, .int .i64 bx, .int .i64 bs]] w fun e w' => e = .returned (.int .i64 (cmpI (bitsV am ax as_) (bitsV bm bx bs))) ∧ Ext w w' := by
  obtain ⟨u, hu⟩ : ∃ u, u = bitsV am ax as_ := ⟨_, rfl⟩
  obtain ⟨v, hv⟩ : ∃ v, v = bitsV bm bx bs := ⟨_, rfl⟩
  have B1 : ∀ w, Tabs w → Calls Tryz.prog 10 #[.agg #[.int .i64 am, .int .i64 ax, .int .i64 as_]] w fun e w' => e = .returned (.tuple #[.int .u64 u, .int .i64 (errV am ax as_)]) ∧ Ext w w' := fun w T => by rw [hu]; exact bits_walk am ax as_ w T
  have B2 : ∀ w, Tabs w → Calls Tryz.prog 10 #[.agg #[.int .i64 bm, .int .i64 bx, .int .i64 bs]] w fun e w' => e = .returned (.tuple #[.int .u64 v, .int .i64 (errV bm bx bs)]) ∧ Ext w w' := fun w T => by rw [hv]; exact bits_walk bm bx bs w T
  rw [← hu, ← hv]
  have K1 := Lib.hid B1
  have K2 := Lib.hid B2
  clear hu hv B1 B2
  have hs0 : w.heap.size < w.heap.size + 1 + 1 := by omega
  have hs1 : w.heap.size + 1 < w.heap.size + 1 + 1 := by omega
  go_enter Tryz.func17, Tryz.ntmps17
  go_wp2_with fail
  refine (K1.out _ (T.ext (((Ext.refl w).alloc _).alloc _))).mono ?_; rintro e w1 ⟨rfl, hE1⟩
  have hc0 : w1.cell? ⟨w.heap.size + 1, 0, none⟩ = some (.int .i64 bm) := hE1.cell_some (by simp)
  have hc1 : w1.cell? ⟨w.heap.size + 1, 1, none⟩ = some (.int .i64 bx) := hE1.cell_some (by simp)
  have hc2 : w1.cell? ⟨w.heap.size + 1, 2, none⟩ = some (.int .i64 bs) := hE1.cell_some (by simp)
  have hE : Ext w w1 := (((Ext.refl w).alloc _).alloc _).trans hE1
  go_wp2_with fail
  refine (K2.out _ (T.ext hE)).mono ?_; rintro e w2 ⟨rfl, hE2⟩
  go_wp2_with fail
  refine (cmpu64_walk _ _ _).mono ?_; rintro e w3 ⟨rfl, rfl⟩
  go_wp2_with fail
  go_ret
  exact ⟨rfl, hE.trans hE2⟩
set_option maxHeartbeats 1000000 in
theorem rcmpV_walk (am ax as_ bm bx bs : Int) (w : World) :
    Calls Tryz.prog 18 #[.agg #[.int .i64 am, .int .i64 ax, .int .i64 as_], .agg #[.int .i64 bm, .int .i64 bx, .int .i64 bs]] w fun e w' => e = .returned (.int .i64 (cmpI (bitsV am ax as_) (bitsV bm bx bs))) ∧ Below w.heap.size w w' := by
  obtain ⟨u, hu⟩ : ∃ u, u = bitsV am ax as_ := ⟨_, rfl⟩
  obtain ⟨v, hv⟩ : ∃ v, v = bitsV bm bx bs := ⟨_, rfl⟩
  have B1 : ∀ w, Calls Tryz.prog 11 #[.agg #[.int .i64 am, .int .i64 ax, .int .i64 as_]] w fun e w' => e = .returned (.tuple #[.int .u64 u, .int .i64 (errV am ax as_)]) ∧ Below w.heap.size w w' := fun w => by rw [hu]; exact rbits_walk am ax as_ w
  have B2 : ∀ w, Calls Tryz.prog 11 #[.agg #[.int .i64 bm, .int .i64 bx, .int .i64 bs]] w fun e w' => e = .returned (.tuple #[.int .u64 v, .int .i64 (errV bm bx bs)]) ∧ Below w.heap.size w w' := fun w => by rw [hv]; exact rbits_walk bm bx bs w
  rw [← hu, ← hv]
  have K1 := Lib.hid B1
  have K2 := Lib.hid B2
  clear hu hv B1 B2
  obtain ⟨w0, hw0⟩ : ∃ w0, w0 = (w.alloc (.cells #[.int .i64 am, .int .i64 ax, .int .i64 as_] 23)).alloc (.cells #[.int .i64 bm, .int .i64 bx, .int .i64 bs] 23) := ⟨_, rfl⟩
  have HE0 : Hid (Ext w w0) := by show Ext _ _; rw [hw0]; exact ((Ext.refl w).alloc _).alloc _
  have hs : w0.heap.size = w.heap.size + 2 := by rw [hw0]; simp
  have HS := Lib.hid hs
  have d0 : w0.cell? ⟨w.heap.size + 1, 0, none⟩ = some (.int .i64 bm) := by rw [hw0]; simp
  have d1 : w0.cell? ⟨w.heap.size + 1, 1, none⟩ = some (.int .i64 bx) := by rw [hw0]; simp
  have d2 : w0.cell? ⟨w.heap.size + 1, 2, none⟩ = some (.int .i64 bs) := by rw [hw0]; simp
  have D0 := Lib.hid d0
  have D1 := Lib.hid d1
  have D2 := Lib.hid d2
  clear hs d0 d1 d2
  have hcase : (u < v ∧ cmpI u v = -1) ∨ (u = v ∧ cmpI u v = 0) ∨ (v < u ∧ cmpI u v = 1) := by
    unfold cmpI
    rcases Nat.lt_trichotomy u v with h | h | h
    · exact .inl ⟨h, by rw [if_pos (by omega)]⟩
    · exact .inr (.inl ⟨h, by rw [if_neg (by omega), if_neg (by omega)]⟩)
    · exact .inr (.inr ⟨h, by rw [if_neg (by omega), if_pos (by omega)]⟩)
  rcases hcase with ⟨h, hc⟩ | ⟨h, hc⟩ | ⟨h, hc⟩
  all_goals
    rw [hc]
    clear hc
    first | subst h | skip
    go_enter Tryz.func18, Tryz.ntmps18
    go_wp2_with fail
    rw [← hw0]
    refine (K1.out _).mono ?_; rintro e w1 ⟨rfl, hE1⟩
    have hc0 : w1.cell? ⟨w.heap.size + 1, 0, none⟩ = some (.int .i64 bm) := (hE1.cell (by have := HS.out; simp; omega)).trans D0.out
    have hc1 : w1.cell? ⟨w.heap.size + 1, 1, none⟩ = some (.int .i64 bx) := (hE1.cell (by have := HS.out; simp; omega)).trans D1.out
    have hc2 : w1.cell? ⟨w.heap.size + 1, 2, none⟩ = some (.int .i64 bs) := (hE1.cell (by have := HS.out; simp; omega)).trans D2.out
    have HB1 : Hid (Below w.heap.size w w1) := HE0.out.below.trans (hE1.mono HE0.out.size)
    clear hE1 hw0
    go_wp2_with fail
    refine (K2.out _).mono ?_; rintro e w2 ⟨rfl, hE2⟩
    have HB2 : Hid (Below w.heap.size w w2) := HB1.out.trans (hE2.mono HB1.out.size)
    clear hE2
    go_wp2_with fail
    go_ret
    exact ⟨rfl, HB2.out⟩

end Go.Proofs.YtglamimbkdldaaaGreatDoor
