import Derived.Test.YtbggdkpcgcmepaaGreatDoorAwk
namespace Go.Proofs.YtbggdkpcgcmepaaGreatDoor
open Go.RowKit Go.Sort

theorem ivl_law (t d : Int) (h0 : 0 ≤ t) (h1 : t ≤ 1099511627776) : 0 ≤ ivl t d ∧ ivl t d ≤ t ∧ t ≤ ivl t d * ivN d ∧ ivl t d * ivN d ≤ 1100585369600 ∧ (t ≠ 0 → 1 ≤ ivl t d ∧ (ivl t d - 1) * ivN d < t) ∧ (t = 0 → ivl t d = 0) := by
  obtain ⟨n1, n2⟩ := ivN_bd d
  have hT : ivT t = t := by unfold ivT; rw [if_neg (by omega), if_neg (by omega)]
  unfold ivl
  rw [hT]
  generalize ivN d = n at *
  have e := Int.mul_ediv_add_emod (t + n - 1) n
  have m1 := Int.emod_nonneg (t + n - 1) (by omega : n ≠ 0)
  have m2 := Int.emod_lt_of_pos (t + n - 1) (by omega : 0 < n)
  have q0 : 0 ≤ (t + n - 1) / n := Int.ediv_nonneg (by omega) (by omega)
  generalize (t + n - 1) / n = k at *
  generalize (t + n - 1) % n = r at *
  have hc : n * k = k * n := Int.mul_comm _ _
  have hs : (k - 1) * n = k * n - n := by rw [Int.sub_mul, Int.one_mul]
  rw [hs]
  refine ⟨q0, ?_, by omega, by omega, fun ht => ⟨?_, by omega⟩, fun ht => ?_⟩
  · rcases (by omega : t < k ∨ k ≤ t) with h | h
    · exfalso
      have : (t + 1) * n ≤ k * n := Int.mul_le_mul_of_nonneg_right (by omega) (by omega)
      have h2 : (t + 1) * n = t * n + n := by rw [Int.add_mul, Int.one_mul]
      have h3 : t * 1 ≤ t * n := Int.mul_le_mul_of_nonneg_left (by omega) h0
      omega
    · exact h
  · rcases (by omega : 0 < k ∨ k ≤ 0) with h | h
    · omega
    · have : k = 0 := by omega
      subst this; omega
  · subst ht
    rcases (by omega : 0 < k ∨ k ≤ 0) with h | h
    · exfalso
      have : 1 * n ≤ k * n := Int.mul_le_mul_of_nonneg_right (by omega) (by omega)
      omega
    · omega
theorem ivl_one (t d : Int) (h0 : 0 ≤ t) (h1 : t ≤ 1099511627776) (hd : d ≤ 1) : ivl t d = t := by
  have hT : ivT t = t := by unfold ivT; rw [if_neg (by omega), if_neg (by omega)]
  have hN : ivN d = 1 := by unfold ivN; split <;> (try split) <;> omega
  unfold ivl; rw [hT, hN]; omega
theorem ivl_nonneg (t d : Int) : 0 ≤ ivl t d := by
  obtain ⟨n1, n2⟩ := ivN_bd d
  obtain ⟨t1, t2⟩ := ivT_bd t
  unfold ivl
  exact Int.ediv_nonneg (by omega) (by omega)

set_option maxRecDepth 100000 in
set_option maxHeartbeats 2000000 in
theorem ticks_walk (t d : Int) (W : World) (T : Tabs W) :
    Calls Tryz.prog 8 #[.int .i64 t, .int .i64 d] W fun e w' => e = .returned (.bool true) ∧ Below W.heap.size W w' := by
  have KW := Lib.hid (awake_walk W T)
  clear T
  have KI : Hid (∀ t d w, Calls Tryz.prog 18 #[.int .i64 t, .int .i64 d] w fun e w' => e = .returned (.int .i64 (ivl t d)) ∧ w = w') := ivl_walk
  by_cases ht : 0 ≤ t ∧ t ≤ 1099511627776
  · obtain ⟨t0, t1⟩ := ht
    have hl := ivl_law t d t0 t1
    have e1 := ivl_one t 1 t0 t1 (by omega)
    have e7 := ivl_one t (-7) t0 t1 (by omega)
    have KI1 : Hid (∀ w, Calls Tryz.prog 18 #[.int .i64 t, .int .i64 1] w fun e w' => e = .returned (.int .i64 t) ∧ w = w') := fun w => by have := ivl_walk t 1 w; rwa [e1] at this
    have KI7 : Hid (∀ w, Calls Tryz.prog 18 #[.int .i64 t, .int .i64 (-7)] w fun e w' => e = .returned (.int .i64 t) ∧ w = w') := fun w => by have := ivl_walk t (-7) w; rwa [e7] at this
    have KId : Hid (∀ w, Calls Tryz.prog 18 #[.int .i64 t, .int .i64 d] w fun e w' => e = .returned (.int .i64 (ivl t d)) ∧ w = w') := ivl_walk t d
    obtain ⟨k, hk⟩ : ∃ k, k = ivl t d := ⟨_, rfl⟩
    obtain ⟨n, hn⟩ : ∃ n, n = ivN d := ⟨_, rfl⟩
    have hnb := ivN_bd d
    have hmm : min (max d 1) 1073741824 = n := by rw [hn]; unfold ivN; split <;> (try split) <;> omega
    rw [← hk] at hl KId
    rw [← hn] at hl hnb
    obtain ⟨l1, l2, l3, l4, l5, l6⟩ := hl
    obtain ⟨p, hp⟩ : ∃ p, p = k * n := ⟨_, rfl⟩
    obtain ⟨p1, hp1⟩ : ∃ p1, p1 = (k - 1) * n := ⟨_, rfl⟩
    have hpp : p1 = p - n := by rw [hp1, hp, Int.sub_mul, Int.one_mul]
    rw [← hp] at l3 l4
    rw [← hp1] at l5
    have g1 : IntKind.i64.wrap (k * n) = p := by rw [← hp]; exact IntWalk.i64_in _ (by omega)
    have g2 : IntKind.i64.wrap (k - 1) = k - 1 := IntWalk.i64_in _ (by omega)
    have g3 : IntKind.i64.wrap ((k - 1) * n) = p1 := by rw [← hp1]; exact IntWalk.i64_in _ (by omega)
    clear KI hk hn hp hp1 e1 e7
    go_enter Tryz.func8, Tryz.ntmps8
    go_wp2_with fail
    refine KW.out.mono ?_
    rintro e w1 ⟨rfl, hB⟩
    have HB := Lib.hid hB
    clear hB KW
    go_wp2_with fail
    refine (KId.out _).mono ?_
    rintro e w2 ⟨rfl, rfl⟩
    clear KId
    by_cases ht0 : t = 0
    · have hk0 := l6 ht0
      subst ht0 hk0
      go_wp2_with fail
      refine (KI1.out _).mono ?_
      rintro e w2 ⟨rfl, rfl⟩
      go_wp2_with fail
      refine (KI7.out _).mono ?_
      rintro e w2 ⟨rfl, rfl⟩
      go_wp2_with fail
      go_ret
      exact ⟨ret_bool (by simp; try omega), HB.out⟩
    · obtain ⟨k1, k2⟩ := l5 ht0
      have hk0 : ¬ k = 0 := by omega
      have h1 : decide (0 ≤ k) = true := by simp [l1]
      have h2 : decide (t ≤ p) = true := by simp [l3]
      have h3 : (k == 0) = false := by simp [hk0]
      have h4 : decide (p1 < t) = true := by simp [k2]
      clear l6 l5 hpp hmm l4 hnb
      go_wp2_with fail
      refine (KI1.out _).mono ?_
      rintro e w2 ⟨rfl, rfl⟩
      go_wp2_with fail
      refine (KI7.out _).mono ?_
      rintro e w2 ⟨rfl, rfl⟩
      go_wp2_with fail
      go_ret
      exact ⟨ret_bool (by simp; try omega), HB.out⟩
  · have hkn := ivl_nonneg t d
    obtain ⟨k, hk⟩ : ∃ k, k = ivl t d := ⟨_, rfl⟩
    have KId : Hid (∀ w, Calls Tryz.prog 18 #[.int .i64 t, .int .i64 d] w fun e w' => e = .returned (.int .i64 (ivl t d)) ∧ w = w') := ivl_walk t d
    rw [← hk] at hkn KId
    clear KI hk
    have h1 : decide (0 ≤ k) = true := by simp [hkn]
    rcases (by omega : t < 0 ∨ 1099511627776 < t) with h | h
    all_goals
      go_enter Tryz.func8, Tryz.ntmps8
      go_wp2_with fail
      refine KW.out.mono ?_
      rintro e w1 ⟨rfl, hB⟩
      have HB := Lib.hid hB
      clear hB KW
      go_wp2_with fail
      refine (KId.out _).mono ?_
      rintro e w2 ⟨rfl, rfl⟩
      go_wp2_with fail
      go_ret
      exact ⟨ret_bool (by simp), HB.out⟩
end Go.Proofs.YtbggdkpcgcmepaaGreatDoor
