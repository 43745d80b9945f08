import Derived.Test.YtglamimbkdldaaaGreatDoorFt
import Derived.OwnWalk
import Derived.Laws.IdiomStrings
namespace Go.Proofs.YtglamimbkdldaaaGreatDoor
open Go.RowKit Go.Sort
theorem Tabs.below {w w' : World} (h : Tabs w) (k : Below w.heap.size w w') : Tabs w' := by
  obtain ⟨pb, po, pc, h1, h2⟩ := h.pow
  have kc : ∀ {b o v}, w.cell? ⟨b, o, none⟩ = some v → w'.cell? ⟨b, o, none⟩ = some v := fun hc => (k.cell (lt_of_cell hc)).trans hc
  exact ⟨kc h.info, kc h.opt, ⟨pb, po, pc, kc h1, fun i hi => kc (h2 i hi)⟩, fun P hP => kc (h.hi P hP), fun P hP => kc (h.lo P hP),
    var?_below k gU64 (Nat.lt_of_lt_of_le (by decide) (Nat.le_of_lt h.size)) h.u64⟩


set_option maxRecDepth 100000 in
set_option maxHeartbeats 2000000 in
/-- strconv's FormatFloat at 'e', -1, 64, over what ftoa64 lays. -/
theorem iff_walk (f : Nat) (tx : List UInt8) (w : World) (T : Tabs w) (h0 : tx ≠ [])
    (hft : ∀ v w1, Tabs w1 → OwnB w1 w.heap.size v [] → Below w.heap.size w w1 → Calls Tryz.prog 59 #[v, .float .f64 f, .int .u8 101, .int .i64 (-1)] w1 fun e w' => ∃ v', e = .returned v' ∧ OwnB w' w.heap.size v' tx ∧ Below w.heap.size w w') :
    Calls Tryz.prog 42 #[.float .f64 f, .int .u8 101, .int .i64 (-1), .int .i64 64] w fun e w' => e = .returned (.string ⟨tx.toArray⟩) ∧ Below w.heap.size w w' := by
  obtain ⟨i, hi, hz, hsz, hby⟩ := of_infoB info_u8
  have KF := Lib.hid hft
  have HT := Lib.hid T
  clear hft T
  go_enter Tryz.func42, Tryz.ntmps42
  go_wp2_with (first | (at_make; go_loud (refine wpList_make_own _ rfl _ _ 77 rfl w.heap.size 5 i _ 1 Tryz.underlying77 hi hz hsz .i64 .i64 24 24 rfl rfl rfl (by rw [hby]; decide) (by unfold maxLen; decide) (Nat.le_refl _) ?_)) | fail)
  intro w1 hO1 hg1
  have hB1 : Below w.heap.size w w1 := (Below.refl _ _).grown hg1 (Nat.le_refl _) (fun k e => by cases e)
  have HO1 : Hid (OwnB w1 w.heap.size (.slice (some ⟨w.heap.size, 0, none⟩) 0 24) []) := hO1
  have HB1 := Lib.hid hB1
  clear hO1 hB1 hg1
  go_wp2_with fail
  refine (KF.out _ w1 (HT.out.below HB1.out) HO1.out HB1.out).mono ?_
  rintro e w2 ⟨v2, rfl, hO2, hB2⟩
  obtain ⟨g, c, rfl, hc1, hc2⟩ := hO2.cells h0
  have hr : (convert 77 9 (.slice (some ⟨g, 0, none⟩) tx.length c)).run Tryz.prog w2 = .ok (.string ⟨tx.toArray⟩) w2 :=
    run_convert_bytes_back w2 77 9 5 ⟨g, 0, none⟩ c tx Tryz.underlying77 Tryz.underlying5 Tryz.underlying9 (fun j hj => by rw [Lib.add_plain, Nat.zero_add]; exact hc2 j hj)
  have HB2 := Lib.hid hB2
  clear hO2 hc1 hc2 hB2
  go_wp2_with fail
  go_ret
  exact ⟨rfl, HB2.out⟩
end Go.Proofs.YtglamimbkdldaaaGreatDoor
