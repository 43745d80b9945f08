import Derived.Test.YtglamimbkdldaaaGreatDoorFa
import Derived.Test.YtglamimbkdldaaaGreatDoorPo
import Derived.Deep.RegionHeld3
namespace Go.Proofs.YtglamimbkdldaaaGreatDoor
open Go.RowKit Go.Sort
set_option maxRecDepth 100000 in
set_option maxHeartbeats 4000000 in
/-- FloatOne. -/
theorem lone_walk (m x s m2 x2 s2 : Int) (w : World) (T : Tabs w) (k : Int) (hk : w.cell? ⟨5, 0, none⟩ = some (.int .i64 k)) :
    Calls Tryz.prog 7 #[.agg #[.int .i64 m, .int .i64 x, .int .i64 s], .agg #[.int .i64 m2, .int .i64 x2, .int .i64 s2]] w fun e w' => e = .returned (.bool true) ∧ Below w.heap.size w w' := by
  have KW := Lib.hid (awake_walk · · k ·)
  have HT := Lib.hid T
  have HK := Lib.hid hk
  obtain ⟨X, hX⟩ : ∃ X, X = bitsV m x s := ⟨_, rfl⟩
  obtain ⟨Y, hY⟩ : ∃ Y, Y = bitsV m2 x2 s2 := ⟨_, rfl⟩
  obtain ⟨q1, hq1⟩ : ∃ q1, q1 = rightV m x s := ⟨_, rfl⟩
  obtain ⟨q2, hq2⟩ : ∃ q2, q2 = rightV m2 x2 s2 := ⟨_, rfl⟩
  have KB1 : Hid (∀ w, Tabs w → Calls Tryz.prog 10 #[.agg #[.int .i64 m, .int .i64 x, .int .i64 s]] w fun e w' => e = .returned (.tuple #[.int .u64 X, .int .i64 (errV m x s)]) ∧ Ext w w') := fun w T => by rw [hX]; exact bits_walk m x s w T
  have KB2 : Hid (∀ w, Tabs w → Calls Tryz.prog 10 #[.agg #[.int .i64 m2, .int .i64 x2, .int .i64 s2]] w fun e w' => e = .returned (.tuple #[.int .u64 Y, .int .i64 (errV m2 x2 s2)]) ∧ Ext w w') := fun w T => by rw [hY]; exact bits_walk m2 x2 s2 w T
  have KF1 : Hid (∀ w, Calls Tryz.prog 12 #[.agg #[.int .i64 m, .int .i64 x, .int .i64 s]] w fun e w' => e = .returned (.bool q1) ∧ Ext w w') := fun w => by rw [hq1]; exact fright_walk m x s w
  have KF2 : Hid (∀ w, Calls Tryz.prog 12 #[.agg #[.int .i64 m2, .int .i64 x2, .int .i64 s2]] w fun e w' => e = .returned (.bool q2) ∧ Ext w w') := fun w => by rw [hq2]; exact fright_walk m2 x2 s2 w
  obtain ⟨w0, hw0⟩ : ∃ w0, w0 = (w.alloc (.cells #[.int .i64 m, .int .i64 x, .int .i64 s] 23)).alloc (.cells #[.int .i64 m2, .int .i64 x2, .int .i64 s2] 23) := ⟨_, rfl⟩
  have HE0 : Hid (Ext w w0) := by show Ext _ _; rw [hw0]; exact ((Ext.refl w).alloc _).alloc _
  have hs : w0.heap.size = w.heap.size + 2 := by rw [hw0]; simp
  have D : Hid (w0.cell? ⟨w.heap.size, 0, none⟩ = some (.int .i64 m) ∧ w0.cell? ⟨w.heap.size, 1, none⟩ = some (.int .i64 x) ∧ w0.cell? ⟨w.heap.size, 2, none⟩ = some (.int .i64 s) ∧ w0.cell? ⟨w.heap.size + 1, 0, none⟩ = some (.int .i64 m2) ∧ w0.cell? ⟨w.heap.size + 1, 1, none⟩ = some (.int .i64 x2) ∧ w0.cell? ⟨w.heap.size + 1, 2, none⟩ = some (.int .i64 s2)) := by
    show _ ∧ _; rw [hw0]; refine ⟨?_, ?_, ?_, ?_, ?_, ?_⟩ <;> simp
  have KC : Hid (∀ W, Below w0.heap.size w0 W → Tabs W ∧ W.cell? ⟨w.heap.size, 0, none⟩ = some (.int .i64 m) ∧ W.cell? ⟨w.heap.size, 1, none⟩ = some (.int .i64 x) ∧ W.cell? ⟨w.heap.size, 2, none⟩ = some (.int .i64 s) ∧ W.cell? ⟨w.heap.size + 1, 0, none⟩ = some (.int .i64 m2) ∧ W.cell? ⟨w.heap.size + 1, 1, none⟩ = some (.int .i64 x2) ∧ W.cell? ⟨w.heap.size + 1, 2, none⟩ = some (.int .i64 s2)) := fun W h => by
    obtain ⟨d0, d1, d2, d3, d4, d5⟩ := D.out
    have l0 : w.heap.size < w0.heap.size := by omega
    have l1 : w.heap.size + 1 < w0.heap.size := by omega
    exact ⟨(HT.out.ext HE0.out).below h, (h.cell l0).trans d0, (h.cell l0).trans d1, (h.cell l0).trans d2, (h.cell l1).trans d3, (h.cell l1).trans d4, (h.cell l1).trans d5⟩
  have KN : Hid (∀ {W W' : World}, Below w0.heap.size w0 W → Ext W W' → Below w0.heap.size w0 W') := fun h h' => h.trans (h'.below.mono h.size)
  have HP : Hid (∀ W, Below w0.heap.size w0 W → Below w.heap.size w W) := fun W h => HE0.out.below.trans (h.mono HE0.out.size)
  clear T hk D hs
  have hcase : (q1 = false ∨ (q1 = true ∧ q2 = false)) ∨ (q1 = true ∧ q2 = true) := by cases q1 <;> cases q2 <;> simp
  rcases hcase with hn | ⟨h1, h2⟩
  · have e1 : Hid (errV m x s = if q1 then 0 else 20) := by show _ = _; rw [hq1]; cases h : rightV m x s <;> simp [errV, h]
    have e2 : Hid (errV m2 x2 s2 = if q2 then 0 else 20) := by show _ = _; rw [hq2]; cases h : rightV m2 x2 s2 <;> simp [errV, h]
    rw [e1.out] at KB1
    rw [e2.out] at KB2
    clear e1 e2 hq1 hq2 hX hY
    have hn : (q1 = false ∧ q2 = false) ∨ (q1 = false ∧ q2 = true) ∨ (q1 = true ∧ q2 = false) := by cases q1 <;> cases q2 <;> simp_all
    rcases hn with ⟨rfl, rfl⟩ | ⟨rfl, rfl⟩ | ⟨rfl, rfl⟩
    all_goals
      simp only [Bool.false_eq_true, if_false, if_true] at KB1 KB2
      go_enter Tryz.func7, Tryz.ntmps7
      go_wp2_with fail
      rw [← hw0]
      refine (KW.out _ (HT.out.ext HE0.out) (HE0.out.cell_some HK.out)).mono ?_
      rintro e w1 ⟨rfl, hA⟩
      obtain ⟨hT, a0, a1, a2, d0, d1, d2⟩ := KC.out _ hA
      clear hw0
      go_wp2_with fail
      refine (KB1.out _ hT).mono ?_
      rintro e w2 ⟨rfl, hE⟩
      have hA2 := KN.out hA hE
      obtain ⟨hT2, a0', a1', a2', d0', d1', d2'⟩ := KC.out _ hA2
      clear hE hT a0 a1 a2 d0 d1 d2 hA
      go_wp2_with fail
      refine (KB2.out _ hT2).mono ?_
      rintro e w3 ⟨rfl, hE⟩
      have hA3 := KN.out hA2 hE
      obtain ⟨hT3, a0, a1, a2, d0, d1, d2⟩ := KC.out _ hA3
      clear hE hT2 a0' a1' a2' d0' d1' d2' hA2
      go_wp2_with fail
      refine (KF1.out _).mono ?_
      rintro e w4 ⟨rfl, hE⟩
      have hA4 := KN.out hA3 hE
      obtain ⟨hT4, a0', a1', a2', d0', d1', d2'⟩ := KC.out _ hA4
      clear hE hT3 a0 a1 a2 d0 d1 d2 hA3
      go_wp2_with fail
      refine (KF2.out _).mono ?_
      rintro e w5 ⟨rfl, hE⟩
      have hA5 := KN.out hA4 hE
      clear hE hT4 a0' a1' a2' d0' d1' d2' hA4
      go_wp2_with fail
      go_ret
      exact ⟨ret_bool (by simp), HP.out _ hA5⟩
  · subst h1 h2
    have e1 : errV m x s = 0 := by unfold errV; rw [← hq1]; rfl
    have e2 : errV m2 x2 s2 = 0 := by unfold errV; rw [← hq2]; rfl
    rw [e1] at KB1
    rw [e2] at KB2
    have hinj : X = Y → m = m2 ∧ x = x2 ∧ s = s2 := fun h => bitsV_inj hq1.symm hq2.symm (by rw [← hX, ← hY]; exact h)
    have htw : s = 0 → x = 0 → 0 < m → m < 400000000000000 → m % 5 ≠ 0 → errV (2 * m) 0 0 = 0 ∧ bitsV (2 * m) 0 0 = X + 4503599627370496 ∧ X < 9218868437227405312 := fun hs hx0 h0 h1 h5 => by
      rw [hX, hs, hx0]; exact twice_bits h0 h1 h5
    have hYX : m = m2 → x = x2 → s = s2 → X = Y := fun h h' h'' => by rw [hX, hY, h, h', h'']
    have HI := Lib.hid hinj
    have HW := Lib.hid htw
    clear hinj htw hX hY hq1 hq2 KF1 KF2
    have hcond : (s ≠ 0 ∨ (s = 0 ∧ x ≠ 0) ∨ (s = 0 ∧ x = 0 ∧ m ≤ 0) ∨ (s = 0 ∧ x = 0 ∧ 0 < m ∧ 400000000000000 ≤ m) ∨ (s = 0 ∧ x = 0 ∧ 0 < m ∧ m < 400000000000000 ∧ m % 5 = 0)) ∨ (s = 0 ∧ x = 0 ∧ 0 < m ∧ m < 400000000000000 ∧ m % 5 ≠ 0) := by omega
    have hg := fun op x' y' w => guard_V op 23 x' y' m x s m2 x2 s2 (by kernel_rfl) w
    unfold vV at hg
    by_cases heq : (m, x, s) = (m2, x2, s2)
    · have hq := fun w => eql_V m x s m2 x2 s2 w
      rw [decide_eq_true heq] at hq
      unfold vV at hq
      simp only [Prod.mk.injEq] at heq
      have hXY := hYX heq.1 heq.2.1 heq.2.2
      subst hXY
      clear HI hYX heq
      rcases hcond with hcond | hcond
      · rcases hcond with h | ⟨rfl, h⟩ | ⟨rfl, rfl, h⟩ | ⟨rfl, rfl, h0, h⟩ | ⟨rfl, rfl, h0, h1, h⟩
        all_goals
          go_enter Tryz.func7, Tryz.ntmps7
          go_wp2_with fail
          rw [← hw0]
          refine (KW.out _ (HT.out.ext HE0.out) (HE0.out.cell_some HK.out)).mono ?_
          rintro e w1 ⟨rfl, hA⟩
          obtain ⟨hT, a0, a1, a2, d0, d1, d2⟩ := KC.out _ hA
          clear hw0
          go_wp2_with fail
          refine (KB1.out _ hT).mono ?_
          rintro e w2 ⟨rfl, hE⟩
          have hA2 := KN.out hA hE
          obtain ⟨hT2, a0', a1', a2', d0', d1', d2'⟩ := KC.out _ hA2
          clear hE hT a0 a1 a2 d0 d1 d2 hA
          go_wp2_with fail
          refine (KB2.out _ hT2).mono ?_
          rintro e w3 ⟨rfl, hE⟩
          have hA3 := KN.out hA2 hE
          obtain ⟨hT3, a0, a1, a2, d0, d1, d2⟩ := KC.out _ hA3
          clear hE hT2 a0' a1' a2' d0' d1' d2' hA2
          go_wp2_with fail
          go_ret
          exact ⟨rfl, HP.out _ hA3⟩
      · obtain ⟨rfl, rfl, h0, h1, h2⟩ := hcond
        have hm := HW.out rfl rfl h0 h1 h2
        obtain ⟨hm1, hm2, hm3⟩ := hm
        have hw2 : IntKind.i64.wrap (2 * m) = 2 * m := IntWalk.i64_in _ (by omega)
        obtain ⟨Z, hZ⟩ : ∃ Z, Z = bitsV (2 * m) 0 0 := ⟨_, rfl⟩
        rw [← hZ] at hm2
        have hZX : IntKind.u64.wrap ((X : Int) + 4503599627370496) = (Z : Int) := by rw [IntKind.wrap_u64]; omega
        have KB5 : Hid (∀ w, Tabs w → Calls Tryz.prog 10 #[.agg #[.int .i64 (2 * m), .int .i64 0, .int .i64 0]] w fun e w' => e = .returned (.tuple #[.int .u64 Z, .int .i64 0]) ∧ Ext w w') := fun w T => by
          have := bits_walk (2 * m) 0 0 w T
          rw [hm1, ← hZ] at this; exact this
        have ht5 : (m % 5 == 0) = false := beq_eq_false_iff_ne.2 h2
        clear hm1 hm2 hm3 hZ
        go_enter Tryz.func7, Tryz.ntmps7
        go_wp2_with fail
        rw [← hw0]
        refine (KW.out _ (HT.out.ext HE0.out) (HE0.out.cell_some HK.out)).mono ?_
        rintro e w1 ⟨rfl, hA⟩
        obtain ⟨hT, a0, a1, a2, d0, d1, d2⟩ := KC.out _ hA
        clear hw0
        go_wp2_with fail
        refine (KB1.out _ hT).mono ?_
        rintro e w2 ⟨rfl, hE⟩
        have hA2 := KN.out hA hE
        obtain ⟨hT2, a0', a1', a2', d0', d1', d2'⟩ := KC.out _ hA2
        clear hE hT a0 a1 a2 d0 d1 d2 hA
        go_wp2_with fail
        refine (KB2.out _ hT2).mono ?_
        rintro e w3 ⟨rfl, hE⟩
        have hA3 := KN.out hA2 hE
        obtain ⟨hT3, a0, a1, a2, d0, d1, d2⟩ := KC.out _ hA3
        clear hE hT2 a0' a1' a2' d0' d1' d2' hA2
        go_wp2_with fail
        refine (KB5.out _ hT3).mono ?_
        rintro e w4 ⟨rfl, hE⟩
        have hA4 := KN.out hA3 hE
        clear hE hT3 a0 a1 a2 d0 d1 d2 hA3
        go_wp2_with fail
        go_ret
        exact ⟨ret_bool (by simp), HP.out _ hA4⟩
    · have hq := fun w => eql_V m x s m2 x2 s2 w
      rw [decide_eq_false heq] at hq
      unfold vV at hq
      have hXY : ¬ X = Y := fun h => heq (by obtain ⟨a, b, c⟩ := HI.out h; rw [a, b, c])
      clear HI hYX heq
      rcases hcond with hcond | hcond
      · rcases hcond with h | ⟨rfl, h⟩ | ⟨rfl, rfl, h⟩ | ⟨rfl, rfl, h0, h⟩ | ⟨rfl, rfl, h0, h1, h⟩
        all_goals
          go_enter Tryz.func7, Tryz.ntmps7
          go_wp2_with fail
          rw [← hw0]
          refine (KW.out _ (HT.out.ext HE0.out) (HE0.out.cell_some HK.out)).mono ?_
          rintro e w1 ⟨rfl, hA⟩
          obtain ⟨hT, a0, a1, a2, d0, d1, d2⟩ := KC.out _ hA
          clear hw0
          go_wp2_with fail
          refine (KB1.out _ hT).mono ?_
          rintro e w2 ⟨rfl, hE⟩
          have hA2 := KN.out hA hE
          obtain ⟨hT2, a0', a1', a2', d0', d1', d2'⟩ := KC.out _ hA2
          clear hE hT a0 a1 a2 d0 d1 d2 hA
          go_wp2_with fail
          refine (KB2.out _ hT2).mono ?_
          rintro e w3 ⟨rfl, hE⟩
          have hA3 := KN.out hA2 hE
          obtain ⟨hT3, a0, a1, a2, d0, d1, d2⟩ := KC.out _ hA3
          clear hE hT2 a0' a1' a2' d0' d1' d2' hA2
          go_wp2_with fail
          go_ret
          exact ⟨rfl, HP.out _ hA3⟩
      · obtain ⟨rfl, rfl, h0, h1, h2⟩ := hcond
        have hm := HW.out rfl rfl h0 h1 h2
        obtain ⟨hm1, hm2, hm3⟩ := hm
        have hw2 : IntKind.i64.wrap (2 * m) = 2 * m := IntWalk.i64_in _ (by omega)
        obtain ⟨Z, hZ⟩ : ∃ Z, Z = bitsV (2 * m) 0 0 := ⟨_, rfl⟩
        rw [← hZ] at hm2
        have hZX : IntKind.u64.wrap ((X : Int) + 4503599627370496) = (Z : Int) := by rw [IntKind.wrap_u64]; omega
        have KB5 : Hid (∀ w, Tabs w → Calls Tryz.prog 10 #[.agg #[.int .i64 (2 * m), .int .i64 0, .int .i64 0]] w fun e w' => e = .returned (.tuple #[.int .u64 Z, .int .i64 0]) ∧ Ext w w') := fun w T => by
          have := bits_walk (2 * m) 0 0 w T
          rw [hm1, ← hZ] at this; exact this
        have ht5 : (m % 5 == 0) = false := beq_eq_false_iff_ne.2 h2
        clear hm1 hm2 hm3 hZ
        go_enter Tryz.func7, Tryz.ntmps7
        go_wp2_with fail
        rw [← hw0]
        refine (KW.out _ (HT.out.ext HE0.out) (HE0.out.cell_some HK.out)).mono ?_
        rintro e w1 ⟨rfl, hA⟩
        obtain ⟨hT, a0, a1, a2, d0, d1, d2⟩ := KC.out _ hA
        clear hw0
        go_wp2_with fail
        refine (KB1.out _ hT).mono ?_
        rintro e w2 ⟨rfl, hE⟩
        have hA2 := KN.out hA hE
        obtain ⟨hT2, a0', a1', a2', d0', d1', d2'⟩ := KC.out _ hA2
        clear hE hT a0 a1 a2 d0 d1 d2 hA
        go_wp2_with fail
        refine (KB2.out _ hT2).mono ?_
        rintro e w3 ⟨rfl, hE⟩
        have hA3 := KN.out hA2 hE
        obtain ⟨hT3, a0, a1, a2, d0, d1, d2⟩ := KC.out _ hA3
        clear hE hT2 a0' a1' a2' d0' d1' d2' hA2
        go_wp2_with fail
        refine (KB5.out _ hT3).mono ?_
        rintro e w4 ⟨rfl, hE⟩
        have hA4 := KN.out hA3 hE
        clear hE hT3 a0 a1 a2 d0 d1 d2 hA3
        go_wp2_with fail
        go_ret
        exact ⟨ret_bool (by simp), HP.out _ hA4⟩
end Go.Proofs.YtglamimbkdldaaaGreatDoor
