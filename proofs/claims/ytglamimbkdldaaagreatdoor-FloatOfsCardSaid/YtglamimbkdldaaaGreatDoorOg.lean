import Derived.Test.YtglamimbkdldaaaGreatDoorOf
import Derived.ScopeJumps
namespace Go.Proofs.YtglamimbkdldaaaGreatDoor
open Go.RowKit Go.Sort
attribute [local go_sem] run_mffb run_f64b
set_option maxRecDepth 100000 in
set_option maxHeartbeats 600000 in
theorem of_b (w : World) (T : Tabs w) (m : Int) (hm : w.cell? ⟨5, 0, none⟩ = some (.int .i64 m)) :
    Calls Tryz.prog 14 #[.int .u64 4599676419421066581] w fun e w' => e = .returned (.tuple #[.agg #[.int .i64 0, .int .i64 0, .int .i64 0], .bool false]) ∧ Below w.heap.size w w' := by
  have HT := Lib.hid T
  have HM := Lib.hid hm
  clear T hm
  go_enter Tryz.func14, Tryz.ntmps14
  go_wp2_with fail
  refine wp_scope_jumps 0 (fun a' w' => (Below w.heap.size w w' ∧ ∀ o, o < 3 → (∃ v, w'.cell? ⟨w.heap.size, o, none⟩ = some v) ∧ w'.frozen? ⟨w.heap.size, o, none⟩ = false) ∧ ∃ u0 u1 u3 u4 u5 u6 u7 u8 u9 u10 u11 u12 u13 u14 u15 u16 u17 u18 u19 u20 u21 u22 u23 u24 u25 u26 u27 u28 u29 u30 u31 u32 u33 u34 u35 u36 u37 u38 u39 u40 u41 u42 u43 u44 u45 u46 u47 u48 u49 u50 u51 u52 u53 u54 u55 u56 u57 u58 u59 u60 u61 u62 u63 u64 u65 u66 u67 u68 u69 u70 u71 u72 u73 u74 u75 u76 u77 u78 u79 u80 u81 : Value, a' = { tmps := #[u0, u1, .pointer (some ⟨w.heap.size, 0, none⟩), u3, u4, u5, u6, u7, u8, u9, u10, u11, u12, u13, u14, u15, u16, u17, u18, u19, u20, u21, u22, u23, u24, u25, u26, u27, u28, u29, u30, u31, u32, u33, u34, u35, u36, u37, u38, u39, u40, u41, u42, u43, u44, u45, u46, u47, u48, u49, u50, u51, u52, u53, u54, u55, u56, u57, u58, u59, u60, u61, u62, u63, u64, u65, u66, u67, u68, u69, u70, u71, u72, u73, u74, u75, u76, u77, u78, u79, u80, u81], defers := [] }) (fun _ _ => 0) rfl ?_ ?_
  rotate_left
  · rintro a' w' ⟨⟨hB, hc⟩, hex⟩
    obtain ⟨⟨c0, hc0⟩, hf0⟩ := hc 0 (by decide)
    obtain ⟨⟨c1, hc1⟩, hf1⟩ := hc 1 (by decide)
    obtain ⟨⟨c2, hc2⟩, hf2⟩ := hc 2 (by decide)
    have HB := Lib.hid hB
    clear hc hB
    obtain ⟨u0, u1, u3, u4, u5, u6, u7, u8, u9, u10, u11, u12, u13, u14, u15, u16, u17, u18, u19, u20, u21, u22, u23, u24, u25, u26, u27, u28, u29, u30, u31, u32, u33, u34, u35, u36, u37, u38, u39, u40, u41, u42, u43, u44, u45, u46, u47, u48, u49, u50, u51, u52, u53, u54, u55, u56, u57, u58, u59, u60, u61, u62, u63, u64, u65, u66, u67, u68, u69, u70, u71, u72, u73, u74, u75, u76, u77, u78, u79, u80, u81, rfl⟩ := hex
    go_wp2_with fail
    simp only [Exit.jump]
    have hr : Tryz.f14.results = #[.cell 2 23, .tmp 3] := by kernel_rfl
    refine bodyPost_ret (v := .tuple #[.agg #[.int .i64 0, .int .i64 0, .int .i64 0], .bool false]) ?_ rfl ⟨rfl, ?_⟩
    · unfold results; rw [hr]; go_simp
    · have := HB.out
      repeat (first | assumption | (refine Below.setCell ?_ (by simp) _) | apply Below.drew)
  go_wp2_with fail
  refine (isnan_walk 4599676419421066581 _ (by decide +kernel)).mono ?_
  rintro e w1 ⟨rfl, rfl⟩
  go_wp2_with fail
  refine (isinf_walk 4599676419421066581 _ (by decide +kernel) (by decide +kernel)).mono ?_
  rintro e w1 ⟨rfl, rfl⟩
  go_wp2_with fail
  refine (ff_walk 4599676419421066581 _ _ (iff_b _ (HT.out.ext ((Ext.refl _).alloc _)))).mono ?_
  rintro e w1 ⟨rfl, hB1⟩
  have HB1 := Lib.hid hB1
  have hm1 : w1.cell? ⟨5, 0, none⟩ = some (.int .i64 m) := (hB1.cell (by have := lt_of_cell HM.out; simp; omega)).trans (((Ext.refl w).alloc _).cell_some HM.out)
  have HM1 := Lib.hid hm1
  clear hB1 hm1
  go_wp2_with fail
  refine (Tryz.strings_Cut ⟨#[51, 46, 51, 51, 51, 51, 51, 51, 51, 51, 51, 51, 51, 51, 51, 51, 51, 101, 45, 48, 49]⟩ ⟨#[101]⟩ m _ (by decide) HM1.out).mono ?_
  rintro e w2 ⟨rfl, n2, rfl⟩
  rw [show Lib.cut (⟨#[51, 46, 51, 51, 51, 51, 51, 51, 51, 51, 51, 51, 51, 51, 51, 51, 51, 101, 45, 48, 49]⟩ : ByteArray).data.toList (⟨#[101]⟩ : ByteArray).data.toList = ((⟨#[51, 46, 51, 51, 51, 51, 51, 51, 51, 51, 51, 51, 51, 51, 51, 51, 51]⟩ : ByteArray).data.toList, (⟨#[45, 48, 49]⟩ : ByteArray).data.toList, true) from by decide +kernel]
  go_wp2_with fail
  refine (Tryz.strings_Cut ⟨#[51, 46, 51, 51, 51, 51, 51, 51, 51, 51, 51, 51, 51, 51, 51, 51, 51]⟩ ⟨#[46]⟩ m (w1.drewN n2) (by decide) HM1.out).mono ?_
  rintro e w3 ⟨rfl, n3, rfl⟩
  rw [show Lib.cut (⟨#[51, 46, 51, 51, 51, 51, 51, 51, 51, 51, 51, 51, 51, 51, 51, 51, 51]⟩ : ByteArray).data.toList (⟨#[46]⟩ : ByteArray).data.toList = ((⟨#[51]⟩ : ByteArray).data.toList, (⟨#[51, 51, 51, 51, 51, 51, 51, 51, 51, 51, 51, 51, 51, 51, 51]⟩ : ByteArray).data.toList, true) from by decide +kernel]
  go_wp2_with fail
  refine (Tryz.strings_TrimPrefix ⟨#[51]⟩ ⟨#[45]⟩ _).mono ?_
  rintro e w4 ⟨rfl, rfl⟩
  rw [show Lib.trimPrefix (⟨#[51]⟩ : ByteArray).data.toList (⟨#[45]⟩ : ByteArray).data.toList = (⟨#[51]⟩ : ByteArray).data.toList from by decide +kernel]
  have hB7 : Below (w.alloc (.cells #[.int .i64 0, .int .i64 0, .int .i64 0] 23)).heap.size (w.alloc (.cells #[.int .i64 0, .int .i64 0, .int .i64 0] 23)) (w1.drewN (n2 + n3)) := HB1.out.trans ⟨rfl, rfl, rfl, Nat.le_refl _, fun _ _ => rfl⟩
  have hsz : w.heap.size < (w.alloc (.cells #[.int .i64 0, .int .i64 0, .int .i64 0] 23)).heap.size := by simp
  have hd0 : w1.cell? ⟨w.heap.size, 0, none⟩ = some (.int .i64 0) := (hB7.cell hsz).trans (by simp)
  have hd1 : w1.cell? ⟨w.heap.size, 1, none⟩ = some (.int .i64 0) := (hB7.cell hsz).trans (by simp)
  have hd2 : w1.cell? ⟨w.heap.size, 2, none⟩ = some (.int .i64 0) := (hB7.cell hsz).trans (by simp)
  have hf0 : w1.frozen? ⟨w.heap.size, 0, none⟩ = false := (hB7.frozen hsz).trans (World.frozen?_alloc_new _ _ _ _)
  have hf1 : w1.frozen? ⟨w.heap.size, 1, none⟩ = false := (hB7.frozen hsz).trans (World.frozen?_alloc_new _ _ _ _)
  have hf2 : w1.frozen? ⟨w.heap.size, 2, none⟩ = false := (hB7.frozen hsz).trans (World.frozen?_alloc_new _ _ _ _)
  have HB7 : Hid (Below w.heap.size w (w1.drewN (n2 + n3))) := (((Ext.refl w).alloc _).below).trans (hB7.mono (by simp))
  clear hB7 hsz
  go_wp2_with fail
  go_step3
  refine ⟨rfl, ⟨HB7.out, fun o ho => ?_⟩, ?_⟩
  · match o, ho with
    | 0, _ => exact ⟨⟨_, hd0⟩, hf0⟩
    | 1, _ => exact ⟨⟨_, hd1⟩, hf1⟩
    | 2, _ => exact ⟨⟨_, hd2⟩, hf2⟩
  · repeat apply Exists.intro
    rfl
end Go.Proofs.YtglamimbkdldaaaGreatDoor
