import Derived.Test.YtglamimbkdldaaaGreatDoorFa
import Derived.Test.YtglamimbkdldaaaGreatDoorRl
import Derived.Test.YtglamimbkdldaaaGreatDoorBc
import Derived.Deep.RegionHeld3
namespace Go.Proofs.YtglamimbkdldaaaGreatDoor
open Go.RowKit Go.Sort
set_option maxRecDepth 100000 in
set_option maxHeartbeats 2000000 in
/-- FloatBits answers true. -/
theorem lbits_walk (m x s : Int) (w : World) (T : Tabs w) (k : Int) (hk : w.cell? ⟨5, 0, none⟩ = some (.int .i64 k)) :
    Calls Tryz.prog 3 #[.agg #[.int .i64 m, .int .i64 x, .int .i64 s]] w fun e w' => e = .returned (.bool true) ∧ Below w.heap.size w w' := by
  have KW := Lib.hid (awake_walk · · k ·)
  have HT := Lib.hid T
  have HK := Lib.hid hk
  obtain ⟨B, hB⟩ : ∃ B, B = bitsV m x s := ⟨_, rfl⟩
  obtain ⟨E, hE⟩ : ∃ E, E = errV m x s := ⟨_, rfl⟩
  obtain ⟨R, hR⟩ : ∃ R, R = rightV m x s := ⟨_, rfl⟩
  have KB : Hid (∀ w, Tabs w → Calls Tryz.prog 10 #[.agg #[.int .i64 m, .int .i64 x, .int .i64 s]] w fun e w' => e = .returned (.tuple #[.int .u64 B, .int .i64 E]) ∧ Ext w w') := by
    rw [hB, hE]; exact fun w T => bits_walk m x s w T
  have KR : Hid (∀ w, Calls Tryz.prog 11 #[.agg #[.int .i64 m, .int .i64 x, .int .i64 s]] w fun e w' => e = .returned (.tuple #[.int .u64 B, .int .i64 E]) ∧ Below w.heap.size w w') := by
    rw [hB, hE]; exact fun w => rbits_walk m x s w
  have KF : Hid (∀ w, Calls Tryz.prog 12 #[.agg #[.int .i64 m, .int .i64 x, .int .i64 s]] w fun e w' => e = .returned (.bool R) ∧ Ext w w') := by
    rw [hR]; exact fun w => fright_walk m x s w
  have KG : Hid (∀ w, Calls Tryz.prog 13 #[.agg #[.int .i64 m, .int .i64 x, .int .i64 s]] w fun e w' => e = .returned (.bool R) ∧ Ext w w') := by
    rw [hR]; exact fun w => rright_walk m x s w
  clear T hk hB hE hR
  go_enter Tryz.func3, Tryz.ntmps3
  go_wp2_with fail
  refine (KW.out _ (HT.out.ext ((Ext.refl w).alloc _)) ((((Ext.refl w).alloc _)).cell_some HK.out)).mono ?_
  rintro e w1 ⟨rfl, hA⟩
  have hB1 : Below w.heap.size w w1 := ((Below.refl w.heap.size w).alloc (Nat.le_refl _) _).trans (hA.mono (by simp))
  have c0 : w1.cell? ⟨w.heap.size, 0, none⟩ = some (.int .i64 m) := (hA.cell (by simp)).trans (by simp)
  have c1 : w1.cell? ⟨w.heap.size, 1, none⟩ = some (.int .i64 x) := (hA.cell (by simp)).trans (by simp)
  have c2 : w1.cell? ⟨w.heap.size, 2, none⟩ = some (.int .i64 s) := (hA.cell (by simp)).trans (by simp)
  have HB1 := Lib.hid hB1
  have HT1 := Lib.hid (HT.out.below hB1)
  clear hA hB1 KW HK HT
  go_wp2_with fail
  refine (KB.out _ HT1.out).mono ?_
  rintro e w2 ⟨rfl, hE2⟩
  have c0' := hE2.cell_some c0
  have c1' := hE2.cell_some c1
  have c2' := hE2.cell_some c2
  have HE2 := Lib.hid hE2
  clear hE2 c0 c1 c2 KB
  go_wp2_with fail
  refine (KR.out _).mono ?_
  rintro e w3 ⟨rfl, hB3⟩
  have hl : w.heap.size < w2.heap.size := lt_of_cell c0'
  have c0 := (hB3.cell hl).trans c0'
  have c1 := (hB3.cell hl).trans c1'
  have c2 := (hB3.cell hl).trans c2'
  have HB3 : Hid (Below w.heap.size w w3) := (HB1.out.trans (HE2.out.below.mono HB1.out.size)).trans (hB3.mono (Nat.le_of_lt hl))
  clear hB3 HB1 HE2 c0' c1' c2' KR HT1
  have KC : Hid (∀ W, Ext w3 W → W.cell? ⟨w.heap.size, 0, none⟩ = some (.int .i64 m) ∧ W.cell? ⟨w.heap.size, 1, none⟩ = some (.int .i64 x) ∧ W.cell? ⟨w.heap.size, 2, none⟩ = some (.int .i64 s)) := fun W h => ⟨h.cell_some c0, h.cell_some c1, h.cell_some c2⟩
  have hE0 := Ext.refl w3
  go_wp2_with fail
  go_region_held3 (fun w' => w'.cell? ⟨w.heap.size, 0, none⟩ = some (.int .i64 m) ∧ w'.cell? ⟨w.heap.size, 1, none⟩ = some (.int .i64 x) ∧ w'.cell? ⟨w.heap.size, 2, none⟩ = some (.int .i64 s) ∧ Ext w3 w')
    (first | assumption | (have hd := Ext.drew (by assumption : Ext w3 _); exact ⟨(KC.out _ hd).1, (KC.out _ hd).2.1, (KC.out _ hd).2.2, hd⟩) | exact ⟨by assumption, by assumption, by assumption, by assumption⟩)
    (first
      | (go_at_call 12; refine (KF.out _).mono ?_; rintro e w' ⟨rfl, hN⟩; have hN := Ext.trans (by first | assumption | exact Ext.drew (by assumption)) hN; obtain ⟨c0', c1', c2'⟩ := KC.out _ hN)
      | (go_at_call 13; refine (KG.out _).mono ?_; rintro e w' ⟨rfl, hN⟩; have hN := Ext.trans (by first | assumption | exact Ext.drew (by assumption)) hN; obtain ⟨c0', c1', c2'⟩ := KC.out _ hN))
  go_wp2_with fail
  go_ret
  exact ⟨ret_bool (by simp), HB3.out.trans ((Ext.below (by assumption : Ext w3 _)).mono HB3.out.size)⟩
end Go.Proofs.YtglamimbkdldaaaGreatDoor
