import Derived.Test.YtglamimbkdldaaaGreatDoorFa
import Derived.Test.YtglamimbkdldaaaGreatDoorRl
import Derived.Deep.RegionHeld3
namespace Go.Proofs.YtglamimbkdldaaaGreatDoor
open Go.RowKit Go.Sort
theorem cleanR_cases (m x : Int) : ∃ (a b : Int) (q : Bool), cleanR m x = .tuple #[.agg #[.int .i64 a, .int .i64 b, .int .i64 0], .bool q] := by
  unfold cleanR
  cases h : cleanV m x with
  | none => exact ⟨0, 0, false, rfl⟩
  | some y => exact ⟨y.1, y.2, true, rfl⟩
set_option maxRecDepth 100000 in
set_option maxHeartbeats 2000000 in
/-- FloatCleans answers true. -/
theorem lclean_walk (m x : Int) (w : World) (T : Tabs w) (k : Int) (hk : w.cell? ⟨5, 0, none⟩ = some (.int .i64 k)) (h1 : -9223372036854775808 ≤ m) (h2 : m ≤ 9223372036854775807) (_h3 : -9223372036854775808 ≤ x) (_h4 : x ≤ 9223372036854775807) :
    Calls Tryz.prog 5 #[.int .i64 m, .int .i64 x] w fun e w' => e = .returned (.bool true) ∧ Below w.heap.size w w' := by
  have KW := Lib.hid (awake_walk w T k hk)
  have KB : Hid (∀ w, _) := fun w => clean_walk m x w h1 h2
  have KR : Hid (∀ w, _) := fun w => rclean_walk m x w h1 h2
  obtain ⟨a, b, q, hR⟩ := cleanR_cases m x
  rw [hR] at KB KR
  clear T hk hR h1 h2
  have hq1 := fun w => eql_V a b 0 a b 0 w
  have hg1 := fun op x y w => guard_V op 23 x y a b 0 a b 0 (by kernel_rfl) w
  simp only [decide_true] at hq1
  unfold vV at hq1 hg1
  go_enter Tryz.func5, Tryz.ntmps5
  go_wp2_with fail
  refine KW.out.mono ?_
  rintro e w1 ⟨rfl, hA⟩
  have HB1 := Lib.hid hA
  clear hA KW
  go_wp2_with fail
  refine (KB.out _).mono ?_
  rintro e w2 ⟨rfl, hE2⟩
  have HE2 := Lib.hid hE2
  clear hE2
  go_wp2_with fail
  have a0 : (w2.alloc (.cells #[.int .i64 a, .int .i64 b, .int .i64 0] 23)).cell? ⟨w2.heap.size, 0, none⟩ = some (.int .i64 a) := by simp
  refine (KR.out _).mono ?_
  rintro e w3 ⟨rfl, hE3⟩
  have a0 : w3.cell? ⟨w2.heap.size, 0, none⟩ = some (.int .i64 a) := hE3.cell_some (by simp)
  have a1 : w3.cell? ⟨w2.heap.size, 1, none⟩ = some (.int .i64 b) := hE3.cell_some (by simp)
  have a2 : w3.cell? ⟨w2.heap.size, 2, none⟩ = some (.int .i64 0) := hE3.cell_some (by simp)
  have hl : w2.heap.size < w3.heap.size := lt_of_cell a0
  have hne : w2.heap.size ≠ w3.heap.size := Nat.ne_of_lt hl
  have HB3 : Hid (Below w.heap.size w w3) := HB1.out.trans (((HE2.out.alloc _).trans hE3).below.mono HB1.out.size)
  clear hE3
  have b0 : (w3.alloc (.cells #[.int .i64 a, .int .i64 b, .int .i64 0] 23)).cell? ⟨w2.heap.size, 0, none⟩ = some (.int .i64 a) := ((Ext.refl w3).alloc _).cell_some a0
  have b1 : (w3.alloc (.cells #[.int .i64 a, .int .i64 b, .int .i64 0] 23)).cell? ⟨w2.heap.size, 1, none⟩ = some (.int .i64 b) := ((Ext.refl w3).alloc _).cell_some a1
  have b2 : (w3.alloc (.cells #[.int .i64 a, .int .i64 b, .int .i64 0] 23)).cell? ⟨w2.heap.size, 2, none⟩ = some (.int .i64 0) := ((Ext.refl w3).alloc _).cell_some a2
  go_wp2_with fail
  go_ret
  exact ⟨ret_bool (by simp), HB3.out.alloc HB3.out.size _⟩
end Go.Proofs.YtglamimbkdldaaaGreatDoor
