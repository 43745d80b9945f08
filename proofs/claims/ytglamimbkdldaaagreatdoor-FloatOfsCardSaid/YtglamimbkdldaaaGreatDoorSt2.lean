import Derived.Test.YtglamimbkdldaaaGreatDoorSn
namespace Go.Proofs.YtglamimbkdldaaaGreatDoor
open Go.RowKit Go.Sort

set_option maxRecDepth 100000 in
set_option maxHeartbeats 1000000 in
/-- shortFloat below the normal doubles, and at the least of them. -/
theorem sf_walk2 (m z X0 X1 U0 U1 U2 R0 R1 s hi lo : Nat) (o : Int) (w : World) (hz : 11 ≤ z) (hz' : z ≤ 63) (h11 : ¬ z = 11) (hse : s + 5 = z) (ho : 0 ≤ o) (ho' : o ≤ 1)
    (hX0 : IntKind.u64.wrap ((m : Int) - IntKind.u64.wrap (2 ^ (z - 1))) = (X0 : Int)) (hX1 : IntKind.u64.wrap ((m : Int) + IntKind.u64.wrap (2 ^ (z - 1))) = (X1 : Int)) (hoo : bits BinOp.and IntKind.i64 (wrap64 ((m : Int) / 2 ^ z)) 1 = o)
    (u0 : 4 ≤ U0) (u0' : U0 < 1000000000000000000) (u1 : 4 ≤ U1) (u1' : U1 < 1000000000000000000) (u2' : U2 < 1000000000000000000) (hR0 : (U0 : Int) + o = (R0 : Int)) (hR1 : (U1 : Int) + -o = (R1 : Int))
    (hsz : 13 < w.heap.size)
    (hu0 : ∀ (w : World) (k : Nat), w.cell? ⟨k, 0, none⟩ = some (.int .u64 hi) → w.cell? ⟨k, 1, none⟩ = some (.int .u64 lo) → w.cell? ⟨k, 2, none⟩ = some (.int .i64 s) →
      Calls Tryz.prog 110 #[.int .u64 X0, .pointer (some ⟨k, 0, none⟩)] w fun e w' => e = .returned (.int .u64 U0) ∧ ∃ n, w' = w.drewN n)
    (hu1 : ∀ (w : World) (k : Nat), w.cell? ⟨k, 0, none⟩ = some (.int .u64 hi) → w.cell? ⟨k, 1, none⟩ = some (.int .u64 lo) → w.cell? ⟨k, 2, none⟩ = some (.int .i64 s) →
      Calls Tryz.prog 110 #[.int .u64 X1, .pointer (some ⟨k, 0, none⟩)] w fun e w' => e = .returned (.int .u64 U1) ∧ ∃ n, w' = w.drewN n)
    (hu2 : ∀ (w : World) (k : Nat), w.cell? ⟨k, 0, none⟩ = some (.int .u64 hi) → w.cell? ⟨k, 1, none⟩ = some (.int .u64 lo) → w.cell? ⟨k, 2, none⟩ = some (.int .i64 s) →
      Calls Tryz.prog 110 #[.int .u64 m, .pointer (some ⟨k, 0, none⟩)] w fun e w' => e = .returned (.int .u64 U2) ∧ ∃ n, w' = w.drewN n)
    (c0 : w.cell? ⟨13, 672 * 2, none⟩ = some (.int .u64 hi)) (c1 : w.cell? ⟨13, 672 * 2 + 1, none⟩ = some (.int .u64 lo)) :
    Calls Tryz.prog 83 #[.int .u64 m, .int .i64 (-1074 - (z : Int))] w fun r w' => r = .returned (.tuple #[.int .u64 (sfV R0 R1 U2 324).1, .int .i64 (sfV R0 R1 U2 324).2]) ∧ Ext w w' := by
  have K0 := Lib.hid hu0
  have K1 := Lib.hid hu1
  have K2 := Lib.hid hu2
  have HX0 := Lib.hid hX0
  have HX1 := Lib.hid hX1
  have HO := Lib.hid hoo
  clear hu0 hu1 hu2 hX0 hX1 hoo
  by_cases h63 : m = 9223372036854775808
  · have heq : ((m : Int) == 9223372036854775808) = true := by rw [beq_iff_eq]; omega
    have h9 : ¬ z = 11 := h11
    clear h63
    · have he : -1074 - (z : Int) < -1085 := by omega
      go_enter Tryz.func83, Tryz.ntmps83
      go_wp2_with fail
      rw [show 11 + (-1085 - (-1074 - (z : Int))) = (z : Int) by omega, show -1074 - (z : Int) + (z : Int) = -1074 by omega]
      refine (log10p2_walk _ _ (by decide) (by decide)).mono ?_; rintro r w' ⟨rfl, rfl⟩
      rw [show (-1074 : Int) * 78913 / 262144 = -324 by decide]
      go_wp2_with fail
      first | rw [HX0.out, HX1.out, HO.out] | skip
      refine (log2p10_walk 324 _ (by decide) (by decide)).mono ?_; rintro r w' ⟨rfl, rfl⟩
      rw [show (324 : Int) * 108853 / 32768 = 1076 by decide]
      go_wp2_with fail
      refine (prescale_walk _ 1076 672 hi lo _ (by decide) (by omega) (by omega) (by decide) (by decide) hsz c0 c1).mono ?_; rintro r w1 ⟨rfl, rfl⟩
      rw [show -((-1074 - (z : Int)) + 1076 + 3) = (s : Int) by omega]
      go_wp2_with fail
      first | rw [HX0.out, HX1.out, HO.out] | skip
      refine (K0.out _ _ (by simp) (by simp) (by simp)).mono ?_; rintro r w2 ⟨rfl, n1, rfl⟩
      go_wp2_with fail
      refine (nudge_walk U0 R0 o _ (by omega) u0 (by omega) (by omega) hR0).mono ?_; rintro r w3 ⟨rfl, rfl⟩
      go_wp2_with fail
      refine (ceil_walk R0 _ (by omega)).mono ?_; rintro r w4 ⟨rfl, rfl⟩
      go_wp2_with fail
      refine (K1.out _ _ (by simp) (by simp) (by simp)).mono ?_; rintro r w5 ⟨rfl, n2, rfl⟩
      go_wp2_with fail
      refine (nudge_walk U1 R1 (-o) _ (by omega) u1 (by omega) (by omega) hR1).mono ?_; rintro r w6 ⟨rfl, rfl⟩
      go_wp2_with fail
      refine (floor_walk R1 _ (by omega)).mono ?_; rintro r w7 ⟨rfl, rfl⟩
      go_wp2_with fail
      · have hq : (R0 + 3) / 4 ≤ R1 / 4 / 10 * 10 := by omega
        have hv : sfV R0 R1 U2 324 = (R1 / 4 / 10, -(324 - 1)) := by unfold sfV; rw [if_pos hq]
        go_ret2
        rw [hv]
        exact ⟨by simp, ((Ext.refl _).alloc _).drewN _⟩
      · have hq : ¬ (R0 + 3) / 4 ≤ R1 / 4 / 10 * 10 := by omega
        have hq2 : (R0 + 3) / 4 < R1 / 4 := by omega
        have hv : sfV R0 R1 U2 324 = ((U2 + 1 + U2 / 4 % 2) / 4, -324) := by unfold sfV; rw [if_neg hq, if_pos hq2]
        refine (K2.out _ _ (by simp) (by simp) (by simp)).mono ?_; rintro r w8 ⟨rfl, n3, rfl⟩
        go_wp2_with fail
        refine (round_walk U2 _ (by omega)).mono ?_; rintro r w9 ⟨rfl, rfl⟩
        go_wp2_with fail
        go_ret2
        rw [hv]
        exact ⟨by simp, ((Ext.refl _).alloc _).drewN _⟩
      · have hq : ¬ (R0 + 3) / 4 ≤ R1 / 4 / 10 * 10 := by omega
        have hq2 : ¬ (R0 + 3) / 4 < R1 / 4 := by omega
        have hv : sfV R0 R1 U2 324 = ((R0 + 3) / 4, -324) := by unfold sfV; rw [if_neg hq, if_neg hq2]
        go_ret2
        rw [hv]
        exact ⟨by simp, ((Ext.refl _).alloc _).drewN _⟩
  · have h9 : ¬ z = 11 := h11
    have hne : ((m : Int) == 9223372036854775808) = false := by rw [beq_eq_false_iff_ne]; omega
    · have he : -1074 - (z : Int) < -1085 := by omega
      go_enter Tryz.func83, Tryz.ntmps83
      go_wp2_with fail
      rw [show 11 + (-1085 - (-1074 - (z : Int))) = (z : Int) by omega, show -1074 - (z : Int) + (z : Int) = -1074 by omega]
      refine (log10p2_walk _ _ (by decide) (by decide)).mono ?_; rintro r w' ⟨rfl, rfl⟩
      rw [show (-1074 : Int) * 78913 / 262144 = -324 by decide]
      go_wp2_with fail
      first | rw [HX0.out, HX1.out, HO.out] | skip
      refine (log2p10_walk 324 _ (by decide) (by decide)).mono ?_; rintro r w' ⟨rfl, rfl⟩
      rw [show (324 : Int) * 108853 / 32768 = 1076 by decide]
      go_wp2_with fail
      refine (prescale_walk _ 1076 672 hi lo _ (by decide) (by omega) (by omega) (by decide) (by decide) hsz c0 c1).mono ?_; rintro r w1 ⟨rfl, rfl⟩
      rw [show -((-1074 - (z : Int)) + 1076 + 3) = (s : Int) by omega]
      go_wp2_with fail
      first | rw [HX0.out, HX1.out, HO.out] | skip
      refine (K0.out _ _ (by simp) (by simp) (by simp)).mono ?_; rintro r w2 ⟨rfl, n1, rfl⟩
      go_wp2_with fail
      refine (nudge_walk U0 R0 o _ (by omega) u0 (by omega) (by omega) hR0).mono ?_; rintro r w3 ⟨rfl, rfl⟩
      go_wp2_with fail
      refine (ceil_walk R0 _ (by omega)).mono ?_; rintro r w4 ⟨rfl, rfl⟩
      go_wp2_with fail
      refine (K1.out _ _ (by simp) (by simp) (by simp)).mono ?_; rintro r w5 ⟨rfl, n2, rfl⟩
      go_wp2_with fail
      refine (nudge_walk U1 R1 (-o) _ (by omega) u1 (by omega) (by omega) hR1).mono ?_; rintro r w6 ⟨rfl, rfl⟩
      go_wp2_with fail
      refine (floor_walk R1 _ (by omega)).mono ?_; rintro r w7 ⟨rfl, rfl⟩
      go_wp2_with fail
      · have hq : (R0 + 3) / 4 ≤ R1 / 4 / 10 * 10 := by omega
        have hv : sfV R0 R1 U2 324 = (R1 / 4 / 10, -(324 - 1)) := by unfold sfV; rw [if_pos hq]
        go_ret2
        rw [hv]
        exact ⟨by simp, ((Ext.refl _).alloc _).drewN _⟩
      · have hq : ¬ (R0 + 3) / 4 ≤ R1 / 4 / 10 * 10 := by omega
        have hq2 : (R0 + 3) / 4 < R1 / 4 := by omega
        have hv : sfV R0 R1 U2 324 = ((U2 + 1 + U2 / 4 % 2) / 4, -324) := by unfold sfV; rw [if_neg hq, if_pos hq2]
        refine (K2.out _ _ (by simp) (by simp) (by simp)).mono ?_; rintro r w8 ⟨rfl, n3, rfl⟩
        go_wp2_with fail
        refine (round_walk U2 _ (by omega)).mono ?_; rintro r w9 ⟨rfl, rfl⟩
        go_wp2_with fail
        go_ret2
        rw [hv]
        exact ⟨by simp, ((Ext.refl _).alloc _).drewN _⟩
      · have hq : ¬ (R0 + 3) / 4 ≤ R1 / 4 / 10 * 10 := by omega
        have hq2 : ¬ (R0 + 3) / 4 < R1 / 4 := by omega
        have hv : sfV R0 R1 U2 324 = ((R0 + 3) / 4, -324) := by unfold sfV; rw [if_neg hq, if_neg hq2]
        go_ret2
        rw [hv]
        exact ⟨by simp, ((Ext.refl _).alloc _).drewN _⟩
set_option maxRecDepth 100000 in
set_option maxHeartbeats 600000 in
theorem sf_walk3 (m U0 U1 U2 R0 R1 s hi lo P : Nat) (e lp o : Int) (w : World) (hm : 9223372036854775808 ≤ m) (hmq : m ≤ 9223372036854775808) (he : -1085 ≤ e) (he' : e ≤ -1085) (hlp : -1200 ≤ lp) (hlp' : lp ≤ 1200)
    (hP : P < 696) (hse : -(e + lp + 3) = (s : Int)) (ho : 0 ≤ o) (ho' : o ≤ 1) (hoo : bits BinOp.and IntKind.i64 ((m : Int) / 2048) 1 = o)
    (hpe : -((e + 11) * 78913 / 262144) = (P : Int) - 348)
    (u0 : 4 ≤ U0) (u0' : U0 < 1000000000000000000) (u1 : 4 ≤ U1) (u1' : U1 < 1000000000000000000) (u2' : U2 < 1000000000000000000) (hR0 : (U0 : Int) + o = (R0 : Int)) (hR1 : (U1 : Int) + -o = (R1 : Int))
    (hsz : 13 < w.heap.size)
    (hl2 : ∀ w, Calls Tryz.prog 109 #[.int .i64 ((P : Int) - 348)] w fun e w' => e = .returned (.int .i64 lp) ∧ w = w')
    (hu0 : ∀ (w : World) (k : Nat), w.cell? ⟨k, 0, none⟩ = some (.int .u64 hi) → w.cell? ⟨k, 1, none⟩ = some (.int .u64 lo) → w.cell? ⟨k, 2, none⟩ = some (.int .i64 s) →
      Calls Tryz.prog 110 #[.int .u64 ((m : Int) - 1024), .pointer (some ⟨k, 0, none⟩)] w fun e w' => e = .returned (.int .u64 U0) ∧ ∃ n, w' = w.drewN n)
    (hu1 : ∀ (w : World) (k : Nat), w.cell? ⟨k, 0, none⟩ = some (.int .u64 hi) → w.cell? ⟨k, 1, none⟩ = some (.int .u64 lo) → w.cell? ⟨k, 2, none⟩ = some (.int .i64 s) →
      Calls Tryz.prog 110 #[.int .u64 ((m : Int) + 1024), .pointer (some ⟨k, 0, none⟩)] w fun e w' => e = .returned (.int .u64 U1) ∧ ∃ n, w' = w.drewN n)
    (hu2 : ∀ (w : World) (k : Nat), w.cell? ⟨k, 0, none⟩ = some (.int .u64 hi) → w.cell? ⟨k, 1, none⟩ = some (.int .u64 lo) → w.cell? ⟨k, 2, none⟩ = some (.int .i64 s) →
      Calls Tryz.prog 110 #[.int .u64 m, .pointer (some ⟨k, 0, none⟩)] w fun e w' => e = .returned (.int .u64 U2) ∧ ∃ n, w' = w.drewN n)
    (c0 : w.cell? ⟨13, P * 2, none⟩ = some (.int .u64 hi)) (c1 : w.cell? ⟨13, P * 2 + 1, none⟩ = some (.int .u64 lo)) :
    Calls Tryz.prog 83 #[.int .u64 m, .int .i64 e] w fun r w' => r = .returned (.tuple #[.int .u64 (sfV R0 R1 U2 ((P : Int) - 348)).1, .int .i64 (sfV R0 R1 U2 ((P : Int) - 348)).2]) ∧ Ext w w' := by
  have K0 := Lib.hid hu0
  have K1 := Lib.hid hu1
  have K2 := Lib.hid hu2
  have K3 := Lib.hid hl2
  have heq : ((m : Int) == 9223372036854775808) = true := by rw [beq_iff_eq]; omega
  clear hu0 hu1 hu2 hl2
  obtain ⟨p, hpe'⟩ : ∃ p, p = (e + 11) * 78913 / 262144 := ⟨_, rfl⟩
  rw [← hpe'] at hpe
  go_enter Tryz.func83, Tryz.ntmps83
  go_wp2_with fail
  refine (log10p2_walk _ _ (by omega) (by omega)).mono ?_; rintro r w' ⟨rfl, rfl⟩
  rw [← hpe'] at *
  go_wp2_with fail
  refine (K3.out _).mono ?_; rintro r w' ⟨rfl, rfl⟩
  go_wp2_with fail
  refine (prescale_walk _ lp P hi lo _ hP (by omega) (by omega) (by omega) (by omega) hsz c0 c1).mono ?_; rintro r w1 ⟨rfl, rfl⟩
  rw [hse]
  go_wp2_with fail
  refine (K0.out _ _ (by simp) (by simp) (by simp)).mono ?_; rintro r w2 ⟨rfl, n1, rfl⟩
  go_wp2_with fail
  refine (nudge_walk U0 R0 o _ (by omega) u0 (by omega) (by omega) hR0).mono ?_; rintro r w3 ⟨rfl, rfl⟩
  go_wp2_with fail
  refine (ceil_walk R0 _ (by omega)).mono ?_; rintro r w4 ⟨rfl, rfl⟩
  go_wp2_with fail
  refine (K1.out _ _ (by simp) (by simp) (by simp)).mono ?_; rintro r w5 ⟨rfl, n2, rfl⟩
  go_wp2_with fail
  refine (nudge_walk U1 R1 (-o) _ (by omega) u1 (by omega) (by omega) hR1).mono ?_; rintro r w6 ⟨rfl, rfl⟩
  go_wp2_with fail
  refine (floor_walk R1 _ (by omega)).mono ?_; rintro r w7 ⟨rfl, rfl⟩
  go_wp2_with fail
  · have hq : (R0 + 3) / 4 ≤ R1 / 4 / 10 * 10 := by omega
    have hv : sfV R0 R1 U2 ((P : Int) - 348) = (R1 / 4 / 10, -((P : Int) - 348 - 1)) := by unfold sfV; rw [if_pos hq]
    go_ret2
    rw [hv]
    exact ⟨by simp, ((Ext.refl _).alloc _).drewN _⟩
  · have hq : ¬ (R0 + 3) / 4 ≤ R1 / 4 / 10 * 10 := by omega
    have hq2 : (R0 + 3) / 4 < R1 / 4 := by omega
    have hv : sfV R0 R1 U2 ((P : Int) - 348) = ((U2 + 1 + U2 / 4 % 2) / 4, -((P : Int) - 348)) := by unfold sfV; rw [if_neg hq, if_pos hq2]
    refine (K2.out _ _ (by simp) (by simp) (by simp)).mono ?_; rintro r w8 ⟨rfl, n3, rfl⟩
    go_wp2_with fail
    refine (round_walk U2 _ (by omega)).mono ?_; rintro r w9 ⟨rfl, rfl⟩
    go_wp2_with fail
    go_ret2
    rw [hv]
    exact ⟨by simp, ((Ext.refl _).alloc _).drewN _⟩
  · have hq : ¬ (R0 + 3) / 4 ≤ R1 / 4 / 10 * 10 := by omega
    have hq2 : ¬ (R0 + 3) / 4 < R1 / 4 := by omega
    have hv : sfV R0 R1 U2 ((P : Int) - 348) = ((R0 + 3) / 4, -((P : Int) - 348)) := by unfold sfV; rw [if_neg hq, if_neg hq2]
    go_ret2
    rw [hv]
    exact ⟨by simp, ((Ext.refl _).alloc _).drewN _⟩
end Go.Proofs.YtglamimbkdldaaaGreatDoor

namespace Go.Proofs.YtglamimbkdldaaaGreatDoor
open Go.RowKit Go.Sort

theorem uscS_bd (X hi lo s : Nat) (hX : 4611686018427387904 ≤ X) (hX' : X < 18446744073709551616) (h1 : 9223372036854775808 ≤ hi) (h2 : hi < 18446744073709551616) (hs : 6 ≤ s) (hs' : s ≤ 58) : 4 ≤ uscS X hi lo s ∧ uscS X hi lo s < 1000000000000000000 := by
  have hlo : 2305843009213693952 ≤ X * hi / 18446744073709551616 := by
    rw [Nat.le_div_iff_mul_le (by decide)]
    exact Nat.le_trans (by decide) (Nat.mul_le_mul hX h1)
  have hhi : X * hi / 18446744073709551616 < 18446744073709551616 := by
    rw [Nat.div_lt_iff_lt_mul (by decide)]
    exact Nat.mul_lt_mul'' hX' h2
  have p1 : (2 : Nat) ^ s ≤ 288230376151711744 := by
    calc (2 : Nat) ^ s ≤ 2 ^ 58 := Nat.pow_le_pow_right (by decide) hs'
      _ = _ := by decide
  have p2 : 64 ≤ (2 : Nat) ^ s := by
    calc 64 = 2 ^ 6 := by decide
      _ ≤ (2 : Nat) ^ s := Nat.pow_le_pow_right (by decide) hs
  have key : ∀ H b : Nat, 2305843009213693951 ≤ H → H < 18446744073709551616 → b ≤ 1 → 4 ≤ H / 2 ^ s ||| b ∧ H / 2 ^ s ||| b < 1000000000000000000 := by
    intro H b k1 k2 hb
    have q1 : 4 ≤ H / 2 ^ s := by
      rw [Nat.le_div_iff_mul_le (by omega)]; omega
    have q2 : H / 2 ^ s ≤ 288230376151711744 := by
      refine Nat.le_trans (Nat.div_le_div_left p2 (by decide)) ?_
      omega
    rcases (by omega : b = 0 ∨ b = 1) with rfl | rfl
    · rw [Nat.or_zero]; omega
    · rw [or_one_eq]; omega
  unfold uscS uscG
  generalize X * hi / 18446744073709551616 = H at *
  split
  · exact key H 1 (by omega) hhi (Nat.le_refl _)
  · have a := toNat_le_one (decide (X * hi % 18446744073709551616 < X * lo / 18446744073709551616))
    exact key _ _ (by omega) (by omega) (toNat_le_one _)
theorem sfV_pos {R0 R1 U2 : Nat} {p : Int} (h0 : 4 ≤ R0) (h2 : 4 ≤ U2) : 1 ≤ (sfV R0 R1 U2 p).1 := by
  unfold sfV
  split
  · simp only; omega
  · split
    · simp only; omega
    · simp only; omega
theorem sfV_exp {R0 R1 U2 : Nat} {p : Int} : (sfV R0 R1 U2 p).2 = -p ∨ (sfV R0 R1 U2 p).2 = -(p - 1) := by
  unfold sfV
  split
  · exact .inr rfl
  · split
    · exact .inl rfl
    · exact .inl rfl
/-- shortFloat below the normal doubles. -/
theorem sf_tiny (r z : Nat) (hz : 12 ≤ z) (hz' : z ≤ 63) (hr : 9223372036854775808 ≤ r * 2 ^ z) (hr' : r * 2 ^ z < 18446744073709551616) :
    ∃ (d : Nat) (p : Int), 1 ≤ d ∧ d < 1000000000000000000 ∧ -400 ≤ p ∧ p ≤ -322 ∧ ∀ w, Tabs w →
      Calls Tryz.prog 83 #[.int .u64 ((r * 2 ^ z : Nat) : Int), .int .i64 (-1074 - (z : Int))] w fun e w' => e = .returned (.tuple #[.int .u64 d, .int .i64 p]) ∧ Ext w w' := by
  obtain ⟨t1, t2, t3⟩ := tab_ok 672 (by decide)
  have hzz : (2 : Nat) ^ z = 2 * 2 ^ (z - 1) := by
    rw [← Nat.pow_succ']; congr 1; omega
  have p63 : (2 : Nat) ^ (z - 1) ≤ 4611686018427387904 := by
    calc (2 : Nat) ^ (z - 1) ≤ 2 ^ 62 := Nat.pow_le_pow_right (by decide) (by omega)
      _ = _ := by decide
  obtain ⟨y, hy⟩ : ∃ y, y = 2 ^ (z - 1) := ⟨_, rfl⟩
  have hyp : 0 < y := by rw [hy]; exact Nat.two_pow_pos _
  have hcy : (2 : Int) ^ (z - 1) = (y : Int) := by rw [hy]; push_cast; rfl
  have hcz : (2 : Int) ^ z = ((2 * y : Nat) : Int) := by rw [hy, ← hzz]; push_cast; rfl
  rw [← hy] at hzz p63
  have hro : r * 2 ^ z + y < 18446744073709551616 := by
    rcases Nat.lt_or_ge (r * 2 ^ z + y) 18446744073709551616 with h | h
    · exact h
    · exfalso
      obtain ⟨k, hk⟩ : ∃ k, 64 = z + (k + 1) := ⟨63 - z, by omega⟩
      have e64 : (18446744073709551616 : Nat) = 2 ^ z * 2 ^ (k + 1) := by rw [← Nat.pow_add, ← hk]
      rw [hzz] at h hr' e64
      rw [e64] at h hr'
      have : r < 2 ^ (k + 1) := by
        rw [Nat.mul_comm (2 * y)] at hr'
        exact Nat.lt_of_mul_lt_mul_right hr'
      have := Nat.mul_le_mul_right (2 * y) (show r + 1 ≤ 2 ^ (k + 1) by omega)
      rw [Nat.add_mul, Nat.one_mul, Nat.mul_comm (2 ^ (k + 1))] at this
      omega
  obtain ⟨m, hm⟩ : ∃ m, m = r * 2 ^ z := ⟨_, rfl⟩
  have hmo : m / 2 ^ z = r := by rw [hm, Nat.mul_div_cancel _ (Nat.two_pow_pos _)]
  rw [hzz] at hmo
  have hr9 : r < 9007199254740992 := by
    rcases Nat.lt_or_ge r 9007199254740992 with h | h
    · exact h
    · exfalso
      have h12 : 4096 ≤ (2 : Nat) ^ z := by
        calc 4096 = 2 ^ 12 := by decide
          _ ≤ (2 : Nat) ^ z := Nat.pow_le_pow_right (by decide) hz
      have := Nat.mul_le_mul h h12
      omega
  rw [← hm] at hr hr' hro ⊢
  clear hm hy
  obtain ⟨U0, hU0⟩ : ∃ U0, U0 = uscS (m - y) (tabHi 672) (tabLo 672) (z - 5) := ⟨_, rfl⟩
  obtain ⟨U1, hU1⟩ : ∃ U1, U1 = uscS (m + y) (tabHi 672) (tabLo 672) (z - 5) := ⟨_, rfl⟩
  obtain ⟨U2, hU2⟩ : ∃ U2, U2 = uscS m (tabHi 672) (tabLo 672) (z - 5) := ⟨_, rfl⟩
  have b0 := uscS_bd (m - y) (tabHi 672) (tabLo 672) (z - 5) (by omega) (by omega) t1 (by omega) (by omega) (by omega)
  have b1 := uscS_bd (m + y) (tabHi 672) (tabLo 672) (z - 5) (by omega) (by omega) t1 (by omega) (by omega) (by omega)
  have b2 := uscS_bd m (tabHi 672) (tabLo 672) (z - 5) (by omega) (by omega) t1 (by omega) (by omega) (by omega)
  rw [← hU0] at b0
  rw [← hU1] at b1
  rw [← hU2] at b2
  have ho2 : r % 2 ≤ 1 := by omega
  obtain ⟨R0, hR0⟩ : ∃ R0, R0 = U0 + r % 2 := ⟨_, rfl⟩
  obtain ⟨R1, hR1⟩ : ∃ R1, R1 + r % 2 = U1 := ⟨U1 - r % 2, by omega⟩
  have hbd := sfV_bd (R0 := R0) (R1 := R1) (U2 := U2) (p := 324) (by omega) (by omega) b2.2 (by decide) (by decide)
  have hps := sfV_pos (R0 := R0) (R1 := R1) (U2 := U2) (p := 324) (by omega) b2.1
  have hex := sfV_exp (R0 := R0) (R1 := R1) (U2 := U2) (p := 324)
  refine ⟨_, _, hps, hbd.1, hbd.2.1, by omega, fun W T => ?_⟩
  have hh : ∀ y, 9223372036854775808 ≤ y * 2 → 18446744073709551616 ≤ y * tabHi 672 := fun y hy =>
    Nat.le_trans (by decide) (Nat.mul_le_mul (show 4611686018427387904 ≤ y by omega) t1)
  refine sf_walk2 m z (m - y) (m + y) U0 U1 U2 R0 R1 (z - 5) (tabHi 672) (tabLo 672) ((r % 2 : Nat) : Int) W (by omega) hz' (by omega) (by omega) (by omega) (by omega) ?_ ?_ ?_ b0.1 b0.2 b1.1 b1.2 b2.2 (by omega) (by omega) T.size (fun w k c0 c1 c2 => ?_) (fun w k c0 c1 c2 => ?_) (fun w k c0 c1 c2 => ?_) (T.hi 672 (by decide)) (T.lo 672 (by decide))
  · rw [hcy, IntKind.wrap_u64, IntKind.wrap_u64]; omega
  · rw [hcy, IntKind.wrap_u64, IntKind.wrap_u64]; omega
  · rw [hcz, show ((m : Int) / ((2 * y : Nat) : Int)) = ((m / (2 * y) : Nat) : Int) by push_cast; rfl, hmo]
    rw [show wrap64 (r : Int) = (r : Int) from by unfold wrap64; omega]
    exact and_one r hr9
  · have := uscaleG (m - y) _ _ k (z - 5) w (by omega) (by omega) (by omega) t3 (hh _ (by omega)) c0 c1 c2
    rw [← hU0] at this; exact this
  · have := uscaleG (m + y) _ _ k (z - 5) w (by omega) (by omega) (by omega) t3 (hh _ (by omega)) c0 c1 c2
    rw [← hU1] at this; exact this
  · have := uscaleG m _ _ k (z - 5) w (by omega) (by omega) (by omega) t3 (hh _ (by omega)) c0 c1 c2
    rw [← hU2] at this; exact this
end Go.Proofs.YtglamimbkdldaaaGreatDoor
