import Derived.Test.YtglamimbkdldaaaGreatDoorFv
import Derived.Test.YtglamimbkdldaaaGreatDoorOg
namespace Go.Proofs.YtglamimbkdldaaaGreatDoor
open Go.RowKit Go.Sort
attribute [local go_sem] run_mffb run_f64b
set_option maxRecDepth 100000 in
set_option maxHeartbeats 1000000 in
/-- float.Of at a text of up to fifteen digits. -/
theorem of_short (f nz : Nat) (TX FR BK WH RE TP : ByteArray) (M x X a b : Int) (q b1 : Bool) (w : World) (T : Tabs w) (m : Int) (hm : w.cell? ⟨5, 0, none⟩ = some (.int .i64 m))
    (s1 : ((f : Int) == 9218868437227405314) = false) (s2 : ((f : Int) == 9218868437227405312) = false) (s3 : ((f : Int) == 18442240474082181120) = false) (s4 : ((f : Int) == 9223372036854775808) = false)
    (KN : Hid (∀ w, Calls Tryz.prog 25 #[.float .f64 f] w fun e w' => e = .returned (.bool false) ∧ w = w'))
    (KI : Hid (∀ w, Calls Tryz.prog 26 #[.float .f64 f, .int .i64 0] w fun e w' => e = .returned (.bool false) ∧ w = w'))
    (KF : Hid (∀ w, Tabs w → Calls Tryz.prog 27 #[.float .f64 f, .int .u8 101, .int .i64 (-1), .int .i64 64] w fun e w' => e = .returned (.string TX) ∧ Below w.heap.size w w'))
    (hT : TX.size < 100) (hF : FR.size < 100) (hWR : WH.size + RE.size ≤ 100) (hBK : BK.size ≤ 18)
    (c1 : Hid (Lib.cut TX.data.toList (⟨#[101]⟩ : ByteArray).data.toList = (FR.data.toList, BK.data.toList, true)))
    (c2 : Hid (Lib.cut FR.data.toList (⟨#[46]⟩ : ByteArray).data.toList = (WH.data.toList, RE.data.toList, b1)))
    (c3 : Hid (Lib.trimPrefix WH.data.toList (⟨#[45]⟩ : ByteArray).data.toList = TP.data.toList))
    (hpi : Hid (Lib.parseIntB 64 (WH ++ RE).data.toList = .ok M)) (hat : Hid (Lib.atoi BK.data.toList = some x)) (hsz : TP.size + RE.size = nz) (hnz : nz ≤ 15) (hX : IntKind.i64.wrap (x - (RE.size : Int)) = X)
    (KC : Hid (∀ w, Calls Tryz.prog 15 #[.int .i64 M, .int .i64 X] w fun e w' => e = .returned (.tuple #[.agg #[.int .i64 a, .int .i64 b, .int .i64 0], .bool q]) ∧ Ext w w')) :
    Calls Tryz.prog 14 #[.int .u64 f] w fun e w' => e = .returned (.tuple #[.agg #[.int .i64 a, .int .i64 b, .int .i64 0], .bool q]) ∧ Below w.heap.size w w' := by
  have HT := Lib.hid T
  have HM := Lib.hid hm
  clear T hm
  go_enter Tryz.func14, Tryz.ntmps14
  go_wp2_with fail
  go_step3
  go_wp2_with fail
  refine (KN.out _).mono ?_
  rintro e w1 ⟨rfl, rfl⟩
  go_wp2_with fail
  refine (KI.out _).mono ?_
  rintro e w1 ⟨rfl, rfl⟩
  go_wp2_with fail
  refine (KF.out _ (HT.out.ext ((Ext.refl _).alloc _))).mono ?_
  rintro e w1 ⟨rfl, hB1⟩
  have HB1 := Lib.hid hB1
  have hm1 : w1.cell? ⟨5, 0, none⟩ = some (.int .i64 m) := (hB1.cell (by have := lt_of_cell HM.out; simp; omega)).trans (((Ext.refl w).alloc _).cell_some HM.out)
  have HM1 := Lib.hid hm1
  clear hB1 hm1
  go_wp2_with fail
  refine (Tryz.strings_Cut TX ⟨#[101]⟩ m _ (by omega) HM1.out).mono ?_
  rintro e w2 ⟨rfl, n2, rfl⟩
  rw [c1.out]
  go_wp2_with fail
  refine (Tryz.strings_Cut FR ⟨#[46]⟩ m (w1.drewN n2) (by omega) HM1.out).mono ?_
  rintro e w3 ⟨rfl, n3, rfl⟩
  rw [c2.out]
  go_wp2_with fail
  refine (Tryz.strings_TrimPrefix WH ⟨#[45]⟩ _).mono ?_
  rintro e w4 ⟨rfl, rfl⟩
  rw [c3.out]
  go_wp2_with fail
  refine (Tryz.strconv_ParseInt_10_at64_ok (WH ++ RE) (by rw [ByteArray.size_append]; omega) M hpi.out _).mono ?_
  rintro e w5 ⟨rfl, hw5⟩
  have HB5 : Hid (Below (w.alloc (.cells #[.int .i64 0, .int .i64 0, .int .i64 0] 23)).heap.size (w.alloc (.cells #[.int .i64 0, .int .i64 0, .int .i64 0] 23)) w5) := by
    have h0 : Below (w.alloc (.cells #[.int .i64 0, .int .i64 0, .int .i64 0] 23)).heap.size (w.alloc (.cells #[.int .i64 0, .int .i64 0, .int .i64 0] 23)) (w1.drewN (n2 + n3)) := HB1.out.trans ⟨rfl, rfl, rfl, Nat.le_refl _, fun _ _ => rfl⟩
    rcases hw5 with rfl | ⟨t, rfl⟩
    · exact h0
    · exact h0.trans ((Lib.bytesWorld_below _ _ _).mono h0.size)
  clear hw5
  go_wp2_with fail
  refine (Tryz.strconv_Atoi BK x hBK hat.out w5).mono ?_
  rintro e w6 ⟨rfl, t6, hw6⟩
  have HB6 : Hid (Below (w.alloc (.cells #[.int .i64 0, .int .i64 0, .int .i64 0] 23)).heap.size (w.alloc (.cells #[.int .i64 0, .int .i64 0, .int .i64 0] 23)) w6) := by
    rw [hw6]; exact HB5.out.trans ((Lib.bytesWorld_below _ _ _).mono HB5.out.size)
  clear hw6
  go_wp2_with fail
  refine (KC.out w6).mono ?_
  rintro e w7 ⟨rfl, hE7⟩
  have hB7 : Below (w.alloc (.cells #[.int .i64 0, .int .i64 0, .int .i64 0] 23)).heap.size (w.alloc (.cells #[.int .i64 0, .int .i64 0, .int .i64 0] 23)) w7 := HB6.out.trans (hE7.below.mono HB6.out.size)
  have hsz : w.heap.size < (w.alloc (.cells #[.int .i64 0, .int .i64 0, .int .i64 0] 23)).heap.size := by simp
  have hd0 : w7.cell? ⟨w.heap.size, 0, none⟩ = some (.int .i64 0) := (hB7.cell hsz).trans (by simp)
  have hd1 : w7.cell? ⟨w.heap.size, 1, none⟩ = some (.int .i64 0) := (hB7.cell hsz).trans (by simp)
  have hd2 : w7.cell? ⟨w.heap.size, 2, none⟩ = some (.int .i64 0) := (hB7.cell hsz).trans (by simp)
  have hf0 : w7.frozen? ⟨w.heap.size, 0, none⟩ = false := (hB7.frozen hsz).trans (World.frozen?_alloc_new _ _ _ _)
  have hf1 : w7.frozen? ⟨w.heap.size, 1, none⟩ = false := (hB7.frozen hsz).trans (World.frozen?_alloc_new _ _ _ _)
  have hf2 : w7.frozen? ⟨w.heap.size, 2, none⟩ = false := (hB7.frozen hsz).trans (World.frozen?_alloc_new _ _ _ _)
  have HB7 : Hid (Below w.heap.size w w7) := (((Ext.refl w).alloc _).below).trans (hB7.mono (by simp))
  clear hE7 hB7 hsz
  go_wp2_with fail
  rw [Exit.noGoto_ret]
  have hr : Tryz.f14.results = #[.cell 2 23, .tmp 3] := by kernel_rfl
  refine bodyPost_ret (v := .tuple #[.agg #[.int .i64 a, .int .i64 b, .int .i64 0], .bool q]) ?_ rfl ⟨rfl, ?_⟩
  · unfold results; rw [hr]; go_simp
  · have := HB7.out
    repeat (first | assumption | (refine Below.setCell ?_ (by simp) _) | apply Below.drew)
set_option maxRecDepth 100000 in
set_option maxHeartbeats 1000000 in
/-- float.Of at a text of more digits. -/
theorem of_long (f nz : Nat) (TX FR BK WH RE TP : ByteArray) (b1 : Bool) (w : World) (T : Tabs w) (m : Int) (hm : w.cell? ⟨5, 0, none⟩ = some (.int .i64 m))
    (s1 : ((f : Int) == 9218868437227405314) = false) (s2 : ((f : Int) == 9218868437227405312) = false) (s3 : ((f : Int) == 18442240474082181120) = false) (s4 : ((f : Int) == 9223372036854775808) = false)
    (KN : Hid (∀ w, Calls Tryz.prog 25 #[.float .f64 f] w fun e w' => e = .returned (.bool false) ∧ w = w'))
    (KI : Hid (∀ w, Calls Tryz.prog 26 #[.float .f64 f, .int .i64 0] w fun e w' => e = .returned (.bool false) ∧ w = w'))
    (KF : Hid (∀ w, Tabs w → Calls Tryz.prog 27 #[.float .f64 f, .int .u8 101, .int .i64 (-1), .int .i64 64] w fun e w' => e = .returned (.string TX) ∧ Below w.heap.size w w'))
    (hT : TX.size < 100) (hF : FR.size < 100) 
    (c1 : Hid (Lib.cut TX.data.toList (⟨#[101]⟩ : ByteArray).data.toList = (FR.data.toList, BK.data.toList, true)))
    (c2 : Hid (Lib.cut FR.data.toList (⟨#[46]⟩ : ByteArray).data.toList = (WH.data.toList, RE.data.toList, b1)))
    (c3 : Hid (Lib.trimPrefix WH.data.toList (⟨#[45]⟩ : ByteArray).data.toList = TP.data.toList))
    (hsz : TP.size + RE.size = nz) (hnz : 15 < nz) (hnz2 : nz ≤ 30) :
    Calls Tryz.prog 14 #[.int .u64 f] w fun e w' => e = .returned (.tuple #[.agg #[.int .i64 0, .int .i64 0, .int .i64 0], .bool false]) ∧ Below w.heap.size w w' := by
  have HT := Lib.hid T
  have HM := Lib.hid hm
  clear T hm
  go_enter Tryz.func14, Tryz.ntmps14
  go_wp2_with fail
  refine wp_scope_jumps 0 (fun a' w' => (Below w.heap.size w w' ∧ ∀ o, o < 3 → (∃ v, w'.cell? ⟨w.heap.size, o, none⟩ = some v) ∧ w'.frozen? ⟨w.heap.size, o, none⟩ = false) ∧ ∃ u0 u1 u3 u4 u5 u6 u7 u8 u9 u10 u11 u12 u13 u14 u15 u16 u17 u18 u19 u20 u21 u22 u23 u24 u25 u26 u27 u28 u29 u30 u31 u32 u33 u34 u35 u36 u37 u38 u39 u40 u41 u42 u43 u44 u45 u46 u47 u48 u49 u50 u51 u52 u53 u54 u55 u56 u57 u58 u59 u60 u61 u62 u63 u64 u65 u66 u67 u68 u69 u70 u71 u72 u73 u74 u75 u76 u77 u78 u79 u80 u81 : Value, a' = { tmps := #[u0, u1, .pointer (some ⟨w.heap.size, 0, none⟩), u3, u4, u5, u6, u7, u8, u9, u10, u11, u12, u13, u14, u15, u16, u17, u18, u19, u20, u21, u22, u23, u24, u25, u26, u27, u28, u29, u30, u31, u32, u33, u34, u35, u36, u37, u38, u39, u40, u41, u42, u43, u44, u45, u46, u47, u48, u49, u50, u51, u52, u53, u54, u55, u56, u57, u58, u59, u60, u61, u62, u63, u64, u65, u66, u67, u68, u69, u70, u71, u72, u73, u74, u75, u76, u77, u78, u79, u80, u81], defers := [] }) (fun _ _ => 0) rfl ?_ ?_
  rotate_left
  · rintro a' w' ⟨⟨hB, hc⟩, hex⟩
    obtain ⟨⟨c0, hc0⟩, hf0⟩ := hc 0 (by decide)
    obtain ⟨⟨c1, hc1⟩, hf1⟩ := hc 1 (by decide)
    obtain ⟨⟨c2, hc2⟩, hf2⟩ := hc 2 (by decide)
    have HB := Lib.hid hB
    clear hc hB
    obtain ⟨u0, u1, u3, u4, u5, u6, u7, u8, u9, u10, u11, u12, u13, u14, u15, u16, u17, u18, u19, u20, u21, u22, u23, u24, u25, u26, u27, u28, u29, u30, u31, u32, u33, u34, u35, u36, u37, u38, u39, u40, u41, u42, u43, u44, u45, u46, u47, u48, u49, u50, u51, u52, u53, u54, u55, u56, u57, u58, u59, u60, u61, u62, u63, u64, u65, u66, u67, u68, u69, u70, u71, u72, u73, u74, u75, u76, u77, u78, u79, u80, u81, rfl⟩ := hex
    go_wp2_with fail
    simp only [Exit.jump]
    have hr : Tryz.f14.results = #[.cell 2 23, .tmp 3] := by kernel_rfl
    refine bodyPost_ret (v := .tuple #[.agg #[.int .i64 0, .int .i64 0, .int .i64 0], .bool false]) ?_ rfl ⟨rfl, ?_⟩
    · unfold results; rw [hr]; go_simp
    · have := HB.out
      repeat (first | assumption | (refine Below.setCell ?_ (by simp) _) | apply Below.drew)
  go_wp2_with fail
  refine (KN.out _).mono ?_
  rintro e w1 ⟨rfl, rfl⟩
  go_wp2_with fail
  refine (KI.out _).mono ?_
  rintro e w1 ⟨rfl, rfl⟩
  go_wp2_with fail
  refine (KF.out _ (HT.out.ext ((Ext.refl _).alloc _))).mono ?_
  rintro e w1 ⟨rfl, hB1⟩
  have HB1 := Lib.hid hB1
  have hm1 : w1.cell? ⟨5, 0, none⟩ = some (.int .i64 m) := (hB1.cell (by have := lt_of_cell HM.out; simp; omega)).trans (((Ext.refl w).alloc _).cell_some HM.out)
  have HM1 := Lib.hid hm1
  clear hB1 hm1
  go_wp2_with fail
  refine (Tryz.strings_Cut TX ⟨#[101]⟩ m _ (by omega) HM1.out).mono ?_
  rintro e w2 ⟨rfl, n2, rfl⟩
  rw [c1.out]
  go_wp2_with fail
  refine (Tryz.strings_Cut FR ⟨#[46]⟩ m (w1.drewN n2) (by omega) HM1.out).mono ?_
  rintro e w3 ⟨rfl, n3, rfl⟩
  rw [c2.out]
  go_wp2_with fail
  refine (Tryz.strings_TrimPrefix WH ⟨#[45]⟩ _).mono ?_
  rintro e w4 ⟨rfl, rfl⟩
  rw [c3.out]
  have hB7 : Below (w.alloc (.cells #[.int .i64 0, .int .i64 0, .int .i64 0] 23)).heap.size (w.alloc (.cells #[.int .i64 0, .int .i64 0, .int .i64 0] 23)) (w1.drewN (n2 + n3)) := HB1.out.trans ⟨rfl, rfl, rfl, Nat.le_refl _, fun _ _ => rfl⟩
  have hsz : w.heap.size < (w.alloc (.cells #[.int .i64 0, .int .i64 0, .int .i64 0] 23)).heap.size := by simp
  have hd0 : w1.cell? ⟨w.heap.size, 0, none⟩ = some (.int .i64 0) := (hB7.cell hsz).trans (by simp)
  have hd1 : w1.cell? ⟨w.heap.size, 1, none⟩ = some (.int .i64 0) := (hB7.cell hsz).trans (by simp)
  have hd2 : w1.cell? ⟨w.heap.size, 2, none⟩ = some (.int .i64 0) := (hB7.cell hsz).trans (by simp)
  have hf0 : w1.frozen? ⟨w.heap.size, 0, none⟩ = false := (hB7.frozen hsz).trans (World.frozen?_alloc_new _ _ _ _)
  have hf1 : w1.frozen? ⟨w.heap.size, 1, none⟩ = false := (hB7.frozen hsz).trans (World.frozen?_alloc_new _ _ _ _)
  have hf2 : w1.frozen? ⟨w.heap.size, 2, none⟩ = false := (hB7.frozen hsz).trans (World.frozen?_alloc_new _ _ _ _)
  have HB7 : Hid (Below w.heap.size w (w1.drewN (n2 + n3))) := (((Ext.refl w).alloc _).below).trans (hB7.mono (by simp))
  clear hB7 hsz
  go_wp2_with fail
  go_step3
  refine ⟨rfl, ⟨HB7.out, fun o ho => ?_⟩, ?_⟩
  · match o, ho with
    | 0, _ => exact ⟨⟨_, hd0⟩, hf0⟩
    | 1, _ => exact ⟨⟨_, hd1⟩, hf1⟩
    | 2, _ => exact ⟨⟨_, hd2⟩, hf2⟩
  · repeat apply Exists.intro
    rfl
end Go.Proofs.YtglamimbkdldaaaGreatDoor
