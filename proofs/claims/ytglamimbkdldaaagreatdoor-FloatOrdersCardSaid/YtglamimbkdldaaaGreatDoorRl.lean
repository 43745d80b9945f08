import Derived.Test.YtglamimbkdldaaaGreatDoorCl
namespace Go.Proofs.YtglamimbkdldaaaGreatDoor
open Go.RowKit Go.Sort
set_option maxRecDepth 100000 in
set_option maxHeartbeats 2000000 in
theorem rclean_walk (m x : Int) (w : World) (h1 : -9223372036854775808 ≤ m) (h2 : m ≤ 9223372036854775807) :
    Calls Tryz.prog 16 #[.int .i64 m, .int .i64 x] w fun e w' => e = .returned (cleanR m x) ∧ Ext w w' := by
  have hr : Tryz.f16.results = #[.cell 4 23, .tmp 5] := by kernel_rfl
  obtain ⟨R, hR⟩ : ∃ R, R = cleanR m x := ⟨_, rfl⟩
  rw [← hR]
  by_cases hx : x < -1000 ∨ 1000 < x
  · have hv : R = .tuple #[.agg #[.int .i64 0, .int .i64 0, .int .i64 0], .bool false] := by
      rw [hR]; unfold cleanR cleanV; rw [if_pos hx]
    subst hv
    clear hR
    go_enter Tryz.func16, Tryz.ntmps16
    rcases hx with hx | hx
    all_goals go_wp2
    all_goals refine bodyPost_ret (v := .tuple #[.agg #[.int .i64 0, .int .i64 0, .int .i64 0], .bool false]) ?_ rfl ⟨rfl, (by repeat (first | exact Ext.refl _ | (refine Ext.setCell ?_ (by simp) _) | apply Ext.drew | apply Ext.alloc))⟩
    all_goals (unfold results; rw [hr]; go_simp)
  · by_cases hm : m = 0
    · have hv : R = .tuple #[.agg #[.int .i64 0, .int .i64 0, .int .i64 0], .bool true] := by
        rw [hR]; unfold cleanR cleanV; rw [if_neg hx, if_pos hm]
      subst hv hm
      clear hR
      have hxa : -1000 ≤ x := by omega
      have hxb : x ≤ 1000 := by omega
      clear hx
      go_enter Tryz.func16, Tryz.ntmps16
      go_wp2
      all_goals refine bodyPost_ret (v := .tuple #[.agg #[.int .i64 0, .int .i64 0, .int .i64 0], .bool true]) ?_ rfl ⟨rfl, (by repeat (first | exact Ext.refl _ | (refine Ext.setCell ?_ (by simp) _) | apply Ext.drew | apply Ext.alloc))⟩
      all_goals (unfold results; rw [hr]; go_simp)
    · have HC : Hid (∀ (mm : Int) (k : Nat), m = mm * 10 ^ k → mm % 10 ≠ 0 → R = if rightV mm (x + k) 0 then .tuple #[.agg #[.int .i64 mm, .int .i64 (x + k), .int .i64 0], .bool true] else .tuple #[.agg #[.int .i64 0, .int .i64 0, .int .i64 0], .bool false]) := by
        intro mm k e h9
        have hk := pow10_bd e hm h1 h2
        rw [hR]; unfold cleanR cleanV
        rw [if_neg hx, if_neg hm, e, strip_of k 20 mm (by omega) h9]
        by_cases h8 : rightV mm (x + k) 0 = true
        · simp only [h8, if_true]
        · simp only [h8]; simp
      have HM : Hid (m ≠ 0 ∧ -9223372036854775808 ≤ m ∧ m ≤ 9223372036854775807) := ⟨hm, h1, h2⟩
      have hxa : -1000 ≤ x := by omega
      have hxb : x ≤ 1000 := by omega
      have hm0 : ((m : Int) == 0) = false := by rw [beq_eq_false_iff_ne]; exact hm
      clear hx hR hm
      go_enter Tryz.func16, Tryz.ntmps16
      go_wp2_with fail
      go_loopw [0, 1] (fun a b wl => ∃ (mm : Int) (k : Nat), a = .int .i64 mm ∧ b = .int .i64 (x + k) ∧ k ≤ 18 ∧ Hid (m = mm * 10 ^ k) ∧ -9223372036854775808 ≤ mm ∧ mm ≤ 9223372036854775807 ∧ Hid (Ext (w.alloc (.cells #[.int .i64 0, .int .i64 0, .int .i64 0] 23)) wl)) (fun _ b _ => (2000 - intOf b).toNat)
      case atStart => exact ⟨m, 0, rfl, by simp, by omega, by show _ = _; simp, h1, h2, by first | exact Ext.refl _ | exact (Ext.refl _).drew⟩
      case round =>
        obtain ⟨mm, k, rfl, rfl, hk, HP, b1, b2, HE⟩ := hrel
        by_cases h0 : mm % 10 = 0
        · obtain ⟨q, hq⟩ : ∃ q, mm = q * 10 := ⟨mm / 10, by omega⟩
          subst hq
          have t1 : Int.tmod (q * 10) 10 = 0 := Int.mul_tmod_left q 10
          have t2 : Int.tdiv (q * 10) 10 = q := Int.mul_tdiv_cancel q (by decide)
          have HP2 : Hid (m = q * 10 ^ (k + 1)) := by show _ = _; rw [HP.out, Int.pow_succ, Int.mul_assoc, Int.mul_comm 10]
          have hk2 : k + 1 ≤ 18 := pow10_bd HP2.out HM.out.1 HM.out.2.1 HM.out.2.2
          go_wp2_with fail
          go_roundw
          case rel => exact ⟨q, k + 1, rfl, by go_num, hk2, HP2, by omega, by omega, HE⟩
          case measure => simp [intOf]; omega
        · have t1 : (Int.tmod mm 10 == 0) = false := by
            rw [beq_eq_false_iff_ne]
            intro e
            have := Int.dvd_of_tmod_eq_zero e
            omega
          have hR := HC.out mm k HP.out h0
          go_wp2_with fail
          have hnew : (wr.alloc (.cells #[.int .i64 mm, .int .i64 (x + k), .int .i64 0] 23)).heap.size = wr.heap.size + 1 := by simp
          refine (rright_walk mm (x + k) 0 _).mono ?_
          rintro e w2 ⟨rfl, hE2⟩
          have hE3 := ((HE.out.alloc (.cells #[.int .i64 mm, .int .i64 (x + k), .int .i64 0] 23)).trans hE2)
          have hc0 : w2.cell? ⟨wr.heap.size, 0, none⟩ = some (.int .i64 mm) := hE2.cell_some (by simp)
          have hc1 : w2.cell? ⟨wr.heap.size, 1, none⟩ = some (.int .i64 (x + k)) := hE2.cell_some (by simp)
          have hc2 : w2.cell? ⟨wr.heap.size, 2, none⟩ = some (.int .i64 0) := hE2.cell_some (by simp)
          have HE3 := Lib.hid hE3
          have hfz : ∀ o, w2.frozen? ⟨w.heap.size, o, none⟩ = false := fun o => by
            rw [hE3.frozen (b := w.heap.size) (o := o) (by simp)]
            exact World.frozen?_alloc_new _ _ _ _
          have hd0 : w2.cell? ⟨w.heap.size, 0, none⟩ = some (.int .i64 0) := hE3.cell_some (by simp)
          have hd1 : w2.cell? ⟨w.heap.size, 1, none⟩ = some (.int .i64 0) := hE3.cell_some (by simp)
          have hd2 : w2.cell? ⟨w.heap.size, 2, none⟩ = some (.int .i64 0) := hE3.cell_some (by simp)
          have hf0 := hfz 0
          have hf1 := hfz 1
          have hf2 := hfz 2
          have HEW : Hid (Ext w w2) := ((Ext.refl w).alloc _).trans hE3
          clear hfz
          clear hE2 hE3 hnew
          cases hb : rightV mm (x + k) 0
          · rw [hb] at hR
            have hv : R = .tuple #[.agg #[.int .i64 0, .int .i64 0, .int .i64 0], .bool false] := hR
            subst hv
            clear hR
            go_wp2_with fail
            all_goals refine bodyPost_ret (v := .tuple #[.agg #[.int .i64 0, .int .i64 0, .int .i64 0], .bool false]) ?_ rfl ⟨rfl, ?_⟩
            all_goals first | (unfold results; rw [hr]; go_simp; done) | (have := HEW.out; repeat (first | assumption | (refine Ext.setCell ?_ (by simp) _) | apply Ext.drew | apply Ext.alloc))
          · rw [hb] at hR
            have hv : R = .tuple #[.agg #[.int .i64 mm, .int .i64 (x + k), .int .i64 0], .bool true] := hR
            subst hv
            clear hR
            go_wp2_with fail
            all_goals refine bodyPost_ret (v := .tuple #[.agg #[.int .i64 mm, .int .i64 (x + k), .int .i64 0], .bool true]) ?_ rfl ⟨rfl, ?_⟩
            all_goals first | (unfold results; rw [hr]; go_simp; done) | (have := HEW.out; repeat (first | assumption | (refine Ext.setCell ?_ (by simp) _) | apply Ext.drew | apply Ext.alloc))
end Go.Proofs.YtglamimbkdldaaaGreatDoor
