import Derived.Test.YtbggdkpcgcmepaaGreatDoorBits0
import Derived.Deep.RegionHeld3
namespace Go.Proofs.YtbggdkpcgcmepaaGreatDoor
open Go.RowKit Go.Sort

def cmpI (a b : Int) : Int := if a < b then -1 else if b < a then 1 else 0
/-- A sample: its tick, and its value's three numbers. -/
abbrev Smp := Int × Int × Int × Int
def Smp.bits (a : Smp) : Nat := bitsV a.2.1 a.2.2.1 a.2.2.2
def cmpV (a b : Smp) : Int := cmpI (Smp.bits a) (Smp.bits b)
def orI (a b : Int) : Int := if a ≠ 0 then a else b
def cmpS (a b : Smp) : Int := orI (cmpI a.1 b.1) (cmpV a b)
def encS (a : Smp) : List Value := [.int .i64 a.1, .int .i64 a.2.1, .int .i64 a.2.2.1, .int .i64 a.2.2.2]

set_option maxHeartbeats 400000 in
theorem cmp64_walk (a b : Int) (w : World) : Calls Tryz.prog 36 #[.int .i64 a, .int .i64 b] w fun e w' => e = .returned (.int .i64 (cmpI a b)) ∧ w = w' := by
  rcases Int.lt_trichotomy a b with h | rfl | h
  · have h1 : decide (a < b) = true := by simp [h]
    have hv : Hid (cmpI a b = -1) := by show cmpI a b = -1; unfold cmpI; rw [if_pos h]
    go_enter Tryz.func36, Tryz.ntmps36
    go_wp2
    go_ret
    exact ⟨ret_int hv.out.symm, rfl⟩
  · have hv : Hid (cmpI a a = 0) := by show cmpI a a = 0; unfold cmpI; simp
    go_enter Tryz.func36, Tryz.ntmps36
    go_wp2
    go_ret
    exact ⟨ret_int hv.out.symm, rfl⟩
  · have h1 : ¬ a < b := by omega
    have hv : Hid (cmpI a b = 1) := by show cmpI a b = 1; unfold cmpI; rw [if_neg h1, if_pos h]
    go_enter Tryz.func36, Tryz.ntmps36
    go_wp2
    go_ret
    exact ⟨ret_int hv.out.symm, rfl⟩
set_option maxHeartbeats 400000 in
theorem cmpu64_walk (a b : Int) (w : World) : Calls Tryz.prog 44 #[.int .u64 a, .int .u64 b] w fun e w' => e = .returned (.int .i64 (cmpI a b)) ∧ w = w' := by
  rcases Int.lt_trichotomy a b with h | rfl | h
  · have h1 : decide (a < b) = true := by simp [h]
    have hv : Hid (cmpI a b = -1) := by show cmpI a b = -1; unfold cmpI; rw [if_pos h]
    go_enter Tryz.func44, Tryz.ntmps44
    go_wp2
    go_ret
    exact ⟨ret_int hv.out.symm, rfl⟩
  · have hv : Hid (cmpI a a = 0) := by show cmpI a a = 0; unfold cmpI; simp
    go_enter Tryz.func44, Tryz.ntmps44
    go_wp2
    go_ret
    exact ⟨ret_int hv.out.symm, rfl⟩
  · have h1 : ¬ a < b := by omega
    have hv : Hid (cmpI a b = 1) := by show cmpI a b = 1; unfold cmpI; rw [if_neg h1, if_pos h]
    go_enter Tryz.func44, Tryz.ntmps44
    go_wp2
    go_ret
    exact ⟨ret_int hv.out.symm, rfl⟩
set_option maxHeartbeats 400000 in
/-- cmp.Or of two numbers. -/
theorem or_walk (a b : Int) (k c : Nat) (w : World) (h0 : w.cell? ⟨k, 0, none⟩ = some (.int .i64 a)) (h1 : w.cell? ⟨k, 1, none⟩ = some (.int .i64 b)) :
    Calls Tryz.prog 35 #[.slice (some ⟨k, 0, none⟩) 2 c] w fun e w' => e = .returned (.int .i64 (orI a b)) ∧ w = w' := by
  unfold orI
  by_cases ha : a = 0
  · subst ha
    by_cases hb : b = 0
    · subst hb
      go_enter Tryz.func35, Tryz.ntmps35
      go_wp2
      refine wp_loop_rounds 3 ?_
      rw [rounds_succ]
      go_wp2
      rw [rounds_succ]
      go_wp2
      rw [rounds_succ]
      go_wp2
      go_ret
      exact ⟨rfl, rfl⟩
    · have hb' : (b != 0) = true := by simp [hb]
      go_enter Tryz.func35, Tryz.ntmps35
      go_wp2
      refine wp_loop_rounds 3 ?_
      rw [rounds_succ]
      go_wp2
      rw [rounds_succ]
      go_wp2
      go_ret
      exact ⟨rfl, rfl⟩
  · have ha' : (a != 0) = true := by simp [ha]
    rw [if_pos ha]
    go_enter Tryz.func35, Tryz.ntmps35
    go_wp2
    refine wp_loop_rounds 3 ?_
    rw [rounds_succ]
    go_wp2
    go_ret
    exact ⟨rfl, rfl⟩

set_option maxHeartbeats 400000 in
theorem fcmp_walk (a b : Smp) (w : World) (T : Tabs w) :
    Calls Tryz.prog 37 #[.agg #[.int .i64 a.2.1, .int .i64 a.2.2.1, .int .i64 a.2.2.2], .agg #[.int .i64 b.2.1, .int .i64 b.2.2.1, .int .i64 b.2.2.2]] w fun e w' => e = .returned (.int .i64 (cmpV a b)) ∧ Ext w w' := by
  obtain ⟨at_, am, ax, as_⟩ := a
  obtain ⟨bt, bm, bx, bs⟩ := b
  unfold cmpV Smp.bits
  obtain ⟨u, hu⟩ : ∃ u, u = bitsV am ax as_ := ⟨_, rfl⟩
  obtain ⟨v, hv⟩ : ∃ v, v = bitsV bm bx bs := ⟨_, rfl⟩
  have B1 : ∀ w, Tabs w → Calls Tryz.prog 43 #[.agg #[.int .i64 am, .int .i64 ax, .int .i64 as_]] w fun e w' => e = .returned (.tuple #[.int .u64 u, .int .i64 (errV am ax as_)]) ∧ Ext w w' := fun w T => by rw [hu]; exact bits_walk am ax as_ w T
  have B2 : ∀ w, Tabs w → Calls Tryz.prog 43 #[.agg #[.int .i64 bm, .int .i64 bx, .int .i64 bs]] w fun e w' => e = .returned (.tuple #[.int .u64 v, .int .i64 (errV bm bx bs)]) ∧ Ext w w' := fun w T => by rw [hv]; exact bits_walk bm bx bs w T
  simp only
  rw [← hu, ← hv]
  have K1 := Lib.hid B1
  have K2 := Lib.hid B2
  clear hu hv B1 B2
  have hs0 : w.heap.size < w.heap.size + 1 + 1 := by omega
  have hs1 : w.heap.size + 1 < w.heap.size + 1 + 1 := by omega
  go_enter Tryz.func37, Tryz.ntmps37
  go_wp2_with fail
  refine (K1.out _ (T.ext (((Ext.refl w).alloc _).alloc _))).mono ?_; rintro e w1 ⟨rfl, hE1⟩
  have hc0 : w1.cell? ⟨w.heap.size + 1, 0, none⟩ = some (.int .i64 bm) := hE1.cell_some (by simp)
  have hc1 : w1.cell? ⟨w.heap.size + 1, 1, none⟩ = some (.int .i64 bx) := hE1.cell_some (by simp)
  have hc2 : w1.cell? ⟨w.heap.size + 1, 2, none⟩ = some (.int .i64 bs) := hE1.cell_some (by simp)
  have hE : Ext w w1 := (((Ext.refl w).alloc _).alloc _).trans hE1
  go_wp2_with fail
  refine (K2.out _ (T.ext hE)).mono ?_; rintro e w2 ⟨rfl, hE2⟩
  go_wp2_with fail
  refine (cmpu64_walk _ _ _).mono ?_; rintro e w3 ⟨rfl, rfl⟩
  go_wp2_with fail
  go_ret
  exact ⟨rfl, hE.trans hE2⟩
end Go.Proofs.YtbggdkpcgcmepaaGreatDoor
