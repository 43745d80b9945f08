import Derived.Test.YtglamimbkdldaaaGreatDoorOg
import Derived.Test.YtglamimbkdldaaaGreatDoorBi
import Derived.Test.YtglamimbkdldaaaGreatDoorEq
namespace Go.Proofs.YtglamimbkdldaaaGreatDoor
open Go.RowKit Go.Sort
theorem bits_a : bitsV 15 (-1) 0 = 4609434218613702656 := by decide +kernel
theorem right_a : rightV 15 1 0 = true := by decide +kernel
theorem err_a : errV 15 (-1) 0 = 0 := by decide +kernel
theorem cl_b : cleanR 1500 (-1) = .tuple #[.agg #[.int .i64 15, .int .i64 1, .int .i64 0], .bool true] := by
  have h : cleanV 1500 (-1) = some (15, 1) := by decide +kernel
  unfold cleanR; rw [h]
set_option maxRecDepth 100000 in
set_option maxHeartbeats 2000000 in
theorem awake_walk (w : World) (T : Tabs w) (m : Int) (hm : w.cell? ⟨5, 0, none⟩ = some (.int .i64 m)) :
    Calls Tryz.prog 9 #[] w fun e w' => e = .returned (.bool true) ∧ Below w.heap.size w w' := by
  have HT := Lib.hid T
  have HM := Lib.hid hm
  have hq1 := fun w => eql_V 15 1 0 15 1 0 w
  have hq2 := fun w => eql_V 15 (-1) 0 15 (-1) 0 w
  have hg1 := fun op x y w => guard_V op 23 x y 15 1 0 15 1 0 (by kernel_rfl) w
  have hg2 := fun op x y w => guard_V op 23 x y 15 (-1) 0 15 (-1) 0 (by kernel_rfl) w
  unfold vV at hq1 hq2 hg1 hg2
  clear T hm
  go_enter Tryz.func9, Tryz.ntmps9
  go_wp2_with fail
  refine (clean_walk 1500 (-1) w (by decide) (by decide)).mono ?_
  rintro e w1 ⟨rfl, hE1⟩
  rw [cl_b]
  have HE1 := Lib.hid hE1
  clear hE1
  go_wp2_with fail
  refine (bits_walk 15 (-1) 0 _ (HT.out.ext (HE1.out.alloc _))).mono ?_
  rintro e w2 ⟨rfl, hE2⟩
  rw [bits_a, err_a]
  have hX2 : Ext w w2 := (HE1.out.alloc (.cells #[.int .i64 15, .int .i64 1, .int .i64 0] 23)).trans hE2
  have hT2 : Tabs w2 := HT.out.ext hX2
  have hm2 := hX2.cell_some HM.out
  have hl1 : w1.heap.size < w2.heap.size := Nat.lt_of_lt_of_le (by simp) hE2.size
  have a0 : w2.cell? ⟨w1.heap.size, 0, none⟩ = some (.int .i64 15) := hE2.cell_some (by simp)
  have a1 : w2.cell? ⟨w1.heap.size, 1, none⟩ = some (.int .i64 1) := hE2.cell_some (by simp)
  have a2 : w2.cell? ⟨w1.heap.size, 2, none⟩ = some (.int .i64 0) := hE2.cell_some (by simp)
  have HX2 := Lib.hid hX2
  have HT2 := Lib.hid hT2
  have HM2 := Lib.hid hm2
  clear hE2 hX2 hT2 hm2
  go_wp2_with fail
  refine (of_a w2 HT2.out m HM2.out).mono ?_
  rintro e w3 ⟨rfl, hB3⟩
  have hA3 : Below w2.heap.size w2 (w3.alloc (.cells #[.int .i64 15, .int .i64 (-1), .int .i64 0] 23)) := hB3.alloc hB3.size _
  have HT3 : Hid (Tabs (w3.alloc (.cells #[.int .i64 15, .int .i64 (-1), .int .i64 0] 23))) := HT2.out.below hA3
  have HM3 : Hid ((w3.alloc (.cells #[.int .i64 15, .int .i64 (-1), .int .i64 0] 23)).cell? ⟨5, 0, none⟩ = some (.int .i64 m)) := (hA3.cell (lt_of_cell HM2.out)).trans HM2.out
  have hl3 : w2.heap.size ≤ w3.heap.size := hB3.size
  have HB3 := Lib.hid hA3
  clear hB3 hA3
  go_wp2_with fail
  refine (of_b _ HT3.out m HM3.out).mono ?_
  rintro e w4 ⟨rfl, hB4⟩
  have hA4 := HB3.out.trans (hB4.mono (by simp; omega))
  have b0 : w4.cell? ⟨w1.heap.size, 0, none⟩ = some (.int .i64 15) := (hA4.cell hl1).trans a0
  have b1 : w4.cell? ⟨w1.heap.size, 1, none⟩ = some (.int .i64 1) := (hA4.cell hl1).trans a1
  have b2 : w4.cell? ⟨w1.heap.size, 2, none⟩ = some (.int .i64 0) := (hA4.cell hl1).trans a2
  have c0 : w4.cell? ⟨w3.heap.size, 0, none⟩ = some (.int .i64 15) := (hB4.cell (by simp)).trans (by simp)
  have c1 : w4.cell? ⟨w3.heap.size, 1, none⟩ = some (.int .i64 (-1)) := (hB4.cell (by simp)).trans (by simp)
  have c2 : w4.cell? ⟨w3.heap.size, 2, none⟩ = some (.int .i64 0) := (hB4.cell (by simp)).trans (by simp)
  have HB4 : Hid (Below w.heap.size w w4) := HX2.out.below.trans (hA4.mono HX2.out.size)
  have b0' : (w4.alloc (.cells #[.int .i64 0, .int .i64 0, .int .i64 0] 23)).cell? ⟨w1.heap.size, 0, none⟩ = some (.int .i64 15) := ((Ext.refl w4).alloc _).cell_some b0
  have b1' : (w4.alloc (.cells #[.int .i64 0, .int .i64 0, .int .i64 0] 23)).cell? ⟨w1.heap.size, 1, none⟩ = some (.int .i64 1) := ((Ext.refl w4).alloc _).cell_some b1
  have b2' : (w4.alloc (.cells #[.int .i64 0, .int .i64 0, .int .i64 0] 23)).cell? ⟨w1.heap.size, 2, none⟩ = some (.int .i64 0) := ((Ext.refl w4).alloc _).cell_some b2
  have c0' : (w4.alloc (.cells #[.int .i64 0, .int .i64 0, .int .i64 0] 23)).cell? ⟨w3.heap.size, 0, none⟩ = some (.int .i64 15) := ((Ext.refl w4).alloc _).cell_some c0
  have c1' : (w4.alloc (.cells #[.int .i64 0, .int .i64 0, .int .i64 0] 23)).cell? ⟨w3.heap.size, 1, none⟩ = some (.int .i64 (-1)) := ((Ext.refl w4).alloc _).cell_some c1
  have c2' : (w4.alloc (.cells #[.int .i64 0, .int .i64 0, .int .i64 0] 23)).cell? ⟨w3.heap.size, 2, none⟩ = some (.int .i64 0) := ((Ext.refl w4).alloc _).cell_some c2
  have hn1 : w1.heap.size ≠ w4.heap.size := by have := lt_of_cell b0; omega
  have hn3 : w3.heap.size ≠ w4.heap.size := by have := lt_of_cell c0; omega
  clear hA4 hB4 a0 a1 a2
  go_wp2_with fail
  refine (fright_walk 15 1 0 _).mono ?_
  rintro e w5 ⟨rfl, hE5⟩
  rw [right_a]
  have HB5 : Hid (Below w.heap.size w w5) := (HB4.out.alloc HB4.out.size _).trans (hE5.below.mono (by have := HB4.out.size; simp; omega))
  clear hE5
  go_wp2_with fail
  go_ret
  exact ⟨rfl, HB5.out⟩
end Go.Proofs.YtglamimbkdldaaaGreatDoor
