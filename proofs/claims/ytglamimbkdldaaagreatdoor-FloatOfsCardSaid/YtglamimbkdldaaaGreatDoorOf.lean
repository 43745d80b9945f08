import Derived.Test.YtglamimbkdldaaaGreatDoorFw
import Derived.Test.YtglamimbkdldaaaGreatDoorCl
import Derived.WalkMore
namespace Go.Proofs.YtglamimbkdldaaaGreatDoor
open Go.RowKit Go.Sort
theorem run_mffb (n : Int) (w : World) : (callFunc 24 #[.int .u64 n]).run Tryz.prog w = .ok (.value (.float .f64 n.toNat)) w := by
  rw [run_callFunc_extern Tryz.func24 (by kernel_rfl) (by kernel_rfl) (by kernel_rfl) (e := Extern.MathFloatBits.float64frombits) (by kernel_rfl)]; rfl
attribute [local go_sem] run_mffb run_f64b
set_option maxHeartbeats 400000 in
theorem isnan_walk (f : Nat) (w : World) (hf : FloatKind.f64.format.order f f = some .eq) : Calls Tryz.prog 25 #[.float .f64 f] w fun e w' => e = .returned (.bool false) ∧ w = w' := by
  go_enter Tryz.func25, Tryz.ntmps25
  go_wp2
  go_ret
  exact ⟨rfl, rfl⟩
set_option maxRecDepth 100000 in
set_option maxHeartbeats 400000 in
theorem abs_walk (f : Nat) (w : World) (h : bits BinOp.andNot IntKind.u64 (f : Int) 9223372036854775808 = (f : Int)) : Calls Tryz.prog 41 #[.float .f64 f] w fun e w' => e = .returned (.float .f64 f) ∧ w = w' := by
  go_enter Tryz.func41, Tryz.ntmps41
  go_wp2_with fail
  go_ret
  exact ⟨by simp, rfl⟩
set_option maxRecDepth 100000 in
set_option maxHeartbeats 400000 in
theorem isinf_walk (f : Nat) (w : World) (hb : bits BinOp.andNot IntKind.u64 (f : Int) 9223372036854775808 = (f : Int)) (h1 : FloatKind.f64.format.order f 9218868437227405311 = some .lt) : Calls Tryz.prog 26 #[.float .f64 f, .int .i64 0] w fun e w' => e = .returned (.bool false) ∧ w = w' := by
  go_enter Tryz.func26, Tryz.ntmps26
  go_wp2_with fail
  refine (abs_walk f _ hb).mono ?_
  rintro e w' ⟨rfl, rfl⟩
  go_wp2_with fail
  go_ret
  exact ⟨rfl, rfl⟩
set_option maxHeartbeats 400000 in
theorem ff_walk (f : Nat) (w : World) (s : ByteArray) (h : Calls Tryz.prog 42 #[.float .f64 f, .int .u8 101, .int .i64 (-1), .int .i64 64] w fun e w' => e = .returned (.string s) ∧ Below w.heap.size w w') :
    Calls Tryz.prog 27 #[.float .f64 f, .int .u8 101, .int .i64 (-1), .int .i64 64] w fun e w' => e = .returned (.string s) ∧ Below w.heap.size w w' := by
  have K := Lib.hid h
  clear h
  go_enter Tryz.func27, Tryz.ntmps27
  go_wp2_with fail
  refine K.out.mono ?_
  rintro e w' ⟨rfl, hB⟩
  have HB := Lib.hid hB
  clear hB
  go_wp2_with fail
  go_ret
  exact ⟨rfl, HB.out⟩

theorem cat_a : (⟨#[49]⟩ ++ ⟨#[53]⟩ : ByteArray) = ⟨#[49, 53]⟩ := by decide +kernel
theorem pi_a : Lib.parseIntB 64 (⟨#[49, 53]⟩ : ByteArray).data.toList = .ok 15 := by decide +kernel
theorem at_a : Lib.atoi (⟨#[43, 48, 48]⟩ : ByteArray).data.toList = some 0 := by decide +kernel
theorem cl_a : cleanR 15 (-1) = .tuple #[.agg #[.int .i64 15, .int .i64 (-1), .int .i64 0], .bool true] := by
  have h : cleanV 15 (-1) = some (15, -1) := by decide +kernel
  unfold cleanR; rw [h]
set_option maxRecDepth 100000 in
set_option maxHeartbeats 600000 in
theorem of_a (w : World) (T : Tabs w) (m : Int) (hm : w.cell? ⟨5, 0, none⟩ = some (.int .i64 m)) :
    Calls Tryz.prog 14 #[.int .u64 4609434218613702656] w fun e w' => e = .returned (.tuple #[.agg #[.int .i64 15, .int .i64 (-1), .int .i64 0], .bool true]) ∧ Below w.heap.size w w' := by
  have HT := Lib.hid T
  have HM := Lib.hid hm
  clear T hm
  go_enter Tryz.func14, Tryz.ntmps14
  go_wp2_with fail
  go_step3
  go_wp2_with fail
  refine (isnan_walk 4609434218613702656 _ (by decide +kernel)).mono ?_
  rintro e w1 ⟨rfl, rfl⟩
  go_wp2_with fail
  refine (isinf_walk 4609434218613702656 _ (by decide +kernel) (by decide +kernel)).mono ?_
  rintro e w1 ⟨rfl, rfl⟩
  go_wp2_with fail
  refine (ff_walk 4609434218613702656 _ _ (iff_a _ (HT.out.ext ((Ext.refl _).alloc _)))).mono ?_
  rintro e w1 ⟨rfl, hB1⟩
  have HB1 := Lib.hid hB1
  have hm1 : w1.cell? ⟨5, 0, none⟩ = some (.int .i64 m) := (hB1.cell (by have := lt_of_cell HM.out; simp; omega)).trans (((Ext.refl w).alloc _).cell_some HM.out)
  have HM1 := Lib.hid hm1
  clear hB1 hm1
  go_wp2_with fail
  refine (Tryz.strings_Cut ⟨#[49, 46, 53, 101, 43, 48, 48]⟩ ⟨#[101]⟩ m _ (by decide) HM1.out).mono ?_
  rintro e w2 ⟨rfl, n2, rfl⟩
  rw [show Lib.cut (⟨#[49, 46, 53, 101, 43, 48, 48]⟩ : ByteArray).data.toList (⟨#[101]⟩ : ByteArray).data.toList = ((⟨#[49, 46, 53]⟩ : ByteArray).data.toList, (⟨#[43, 48, 48]⟩ : ByteArray).data.toList, true) from by decide +kernel]
  go_wp2_with fail
  refine (Tryz.strings_Cut ⟨#[49, 46, 53]⟩ ⟨#[46]⟩ m (w1.drewN n2) (by decide) HM1.out).mono ?_
  rintro e w3 ⟨rfl, n3, rfl⟩
  rw [show Lib.cut (⟨#[49, 46, 53]⟩ : ByteArray).data.toList (⟨#[46]⟩ : ByteArray).data.toList = ((⟨#[49]⟩ : ByteArray).data.toList, (⟨#[53]⟩ : ByteArray).data.toList, true) from by decide +kernel]
  go_wp2_with fail
  refine (Tryz.strings_TrimPrefix ⟨#[49]⟩ ⟨#[45]⟩ _).mono ?_
  rintro e w4 ⟨rfl, rfl⟩
  rw [show Lib.trimPrefix (⟨#[49]⟩ : ByteArray).data.toList (⟨#[45]⟩ : ByteArray).data.toList = (⟨#[49]⟩ : ByteArray).data.toList from by decide +kernel]
  go_wp2_with fail
  rw [cat_a]
  refine (Tryz.strconv_ParseInt_10_at64_ok ⟨#[49, 53]⟩ (by decide) 15 pi_a _).mono ?_
  rintro e w5 ⟨rfl, hw5⟩
  have HB5 : Hid (Below (w.alloc (.cells #[.int .i64 0, .int .i64 0, .int .i64 0] 23)).heap.size (w.alloc (.cells #[.int .i64 0, .int .i64 0, .int .i64 0] 23)) w5) := by
    have h0 : Below (w.alloc (.cells #[.int .i64 0, .int .i64 0, .int .i64 0] 23)).heap.size (w.alloc (.cells #[.int .i64 0, .int .i64 0, .int .i64 0] 23)) (w1.drewN (n2 + n3)) := HB1.out.trans ⟨rfl, rfl, rfl, Nat.le_refl _, fun _ _ => rfl⟩
    rcases hw5 with rfl | ⟨t, rfl⟩
    · exact h0
    · exact h0.trans ((Lib.bytesWorld_below _ _ _).mono h0.size)
  clear hw5
  go_wp2_with fail
  refine (Tryz.strconv_Atoi ⟨#[43, 48, 48]⟩ 0 (by decide) at_a w5).mono ?_
  rintro e w6 ⟨rfl, t6, hw6⟩
  have HB6 : Hid (Below (w.alloc (.cells #[.int .i64 0, .int .i64 0, .int .i64 0] 23)).heap.size (w.alloc (.cells #[.int .i64 0, .int .i64 0, .int .i64 0] 23)) w6) := by
    rw [hw6]; exact HB5.out.trans ((Lib.bytesWorld_below _ _ _).mono HB5.out.size)
  clear hw6
  go_wp2_with fail
  refine (clean_walk 15 (-1) w6 (by decide) (by decide)).mono ?_
  rintro e w7 ⟨rfl, hE7⟩
  rw [cl_a]
  have hB7 : Below (w.alloc (.cells #[.int .i64 0, .int .i64 0, .int .i64 0] 23)).heap.size (w.alloc (.cells #[.int .i64 0, .int .i64 0, .int .i64 0] 23)) w7 := HB6.out.trans (hE7.below.mono HB6.out.size)
  have hsz : w.heap.size < (w.alloc (.cells #[.int .i64 0, .int .i64 0, .int .i64 0] 23)).heap.size := by simp
  have hd0 : w7.cell? ⟨w.heap.size, 0, none⟩ = some (.int .i64 0) := (hB7.cell hsz).trans (by simp)
  have hd1 : w7.cell? ⟨w.heap.size, 1, none⟩ = some (.int .i64 0) := (hB7.cell hsz).trans (by simp)
  have hd2 : w7.cell? ⟨w.heap.size, 2, none⟩ = some (.int .i64 0) := (hB7.cell hsz).trans (by simp)
  have hf0 : w7.frozen? ⟨w.heap.size, 0, none⟩ = false := (hB7.frozen hsz).trans (World.frozen?_alloc_new _ _ _ _)
  have hf1 : w7.frozen? ⟨w.heap.size, 1, none⟩ = false := (hB7.frozen hsz).trans (World.frozen?_alloc_new _ _ _ _)
  have hf2 : w7.frozen? ⟨w.heap.size, 2, none⟩ = false := (hB7.frozen hsz).trans (World.frozen?_alloc_new _ _ _ _)
  have HB7 : Hid (Below w.heap.size w w7) := (((Ext.refl w).alloc _).below).trans (hB7.mono (by simp))
  clear hE7 hB7 hsz
  go_wp2_with fail
  rw [Exit.noGoto_ret]
  have hr : Tryz.f14.results = #[.cell 2 23, .tmp 3] := by kernel_rfl
  refine bodyPost_ret (v := .tuple #[.agg #[.int .i64 15, .int .i64 (-1), .int .i64 0], .bool true]) ?_ rfl ⟨rfl, ?_⟩
  · unfold results; rw [hr]; go_simp
  · have := HB7.out
    repeat (first | assumption | (refine Below.setCell ?_ (by simp) _) | apply Below.drew)
end Go.Proofs.YtglamimbkdldaaaGreatDoor
