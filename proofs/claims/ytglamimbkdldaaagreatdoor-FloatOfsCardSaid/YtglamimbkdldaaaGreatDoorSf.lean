import Derived.Test.YtglamimbkdldaaaGreatDoorFs
namespace Go.Proofs.YtglamimbkdldaaaGreatDoor
open Go.RowKit Go.Sort

/-- uscale at any shift. -/
theorem uscaleG (x hi lo b s : Nat) (w : World) (hs : s ≤ 63) (hx : x < 18446744073709551616) (hh : hi < 18446744073709551616) (hl : lo < 18446744073709551616) (hxh : 18446744073709551616 ≤ x * hi)
    (c0 : w.cell? ⟨b, 0, none⟩ = some (.int .u64 hi)) (c1 : w.cell? ⟨b, 1, none⟩ = some (.int .u64 lo)) (c2 : w.cell? ⟨b, 2, none⟩ = some (.int .i64 s)) :
    Calls Tryz.prog 110 #[.int .u64 x, .pointer (some ⟨b, 0, none⟩)] w fun e w' => e = .returned (.int .u64 (uscS x hi lo s)) ∧ ∃ n, w' = w.drewN n := by
  have hd : ∀ y, y < 18446744073709551616 → x * y / 18446744073709551616 ≤ 18446744073709551615 := fun y hy => by
    have h1 : x * y < 18446744073709551616 * 18446744073709551616 := Nat.mul_lt_mul'' hx hy
    have := Nat.div_lt_of_lt_mul h1
    omega
  exact uscaleG0 x hi lo b _ _ _ _ s w hs (Nat.div_pos hxh (by decide)) (hd hi hh) (by omega) (hd lo hl) (Tryz.bits_Mul64 x hi hx hh) (Tryz.bits_Mul64 x lo hx hl) c0 c1 c2

/-- shortFloat's answer, of the three unrounded numbers. -/
def sfV (R0 R1 U2 : Nat) (p : Int) : Nat × Int :=
  if (R0 + 3) / 4 ≤ R1 / 4 / 10 * 10 then (R1 / 4 / 10, -(p - 1))
  else if (R0 + 3) / 4 < R1 / 4 then ((U2 + 1 + U2 / 4 % 2) / 4, -p)
  else ((R0 + 3) / 4, -p)

set_option maxRecDepth 100000 in
set_option maxHeartbeats 600000 in
theorem sf_walk0 (m U0 U1 U2 R0 R1 s hi lo P : Nat) (e lp o : Int) (w : World) (hm : 9223372036854775808 < m) (hm' : m ≤ 18446744073709549568) (he : -1085 ≤ e) (he' : e ≤ 1000) (hlp : -1200 ≤ lp) (hlp' : lp ≤ 1200)
    (hP : P < 696) (hse : -(e + lp + 3) = (s : Int)) (ho : 0 ≤ o) (ho' : o ≤ 1) (hoo : bits BinOp.and IntKind.i64 ((m : Int) / 2048) 1 = o)
    (hpe : -((e + 11) * 78913 / 262144) = (P : Int) - 348)
    (u0 : 4 ≤ U0) (u0' : U0 < 1000000000000000000) (u1 : 4 ≤ U1) (u1' : U1 < 1000000000000000000) (u2' : U2 < 1000000000000000000) (hR0 : (U0 : Int) + o = (R0 : Int)) (hR1 : (U1 : Int) + -o = (R1 : Int))
    (hsz : 13 < w.heap.size)
    (hl2 : ∀ w, Calls Tryz.prog 109 #[.int .i64 ((P : Int) - 348)] w fun e w' => e = .returned (.int .i64 lp) ∧ w = w')
    (hu0 : ∀ (w : World) (k : Nat), w.cell? ⟨k, 0, none⟩ = some (.int .u64 hi) → w.cell? ⟨k, 1, none⟩ = some (.int .u64 lo) → w.cell? ⟨k, 2, none⟩ = some (.int .i64 s) →
      Calls Tryz.prog 110 #[.int .u64 ((m : Int) - 1024), .pointer (some ⟨k, 0, none⟩)] w fun e w' => e = .returned (.int .u64 U0) ∧ ∃ n, w' = w.drewN n)
    (hu1 : ∀ (w : World) (k : Nat), w.cell? ⟨k, 0, none⟩ = some (.int .u64 hi) → w.cell? ⟨k, 1, none⟩ = some (.int .u64 lo) → w.cell? ⟨k, 2, none⟩ = some (.int .i64 s) →
      Calls Tryz.prog 110 #[.int .u64 ((m : Int) + 1024), .pointer (some ⟨k, 0, none⟩)] w fun e w' => e = .returned (.int .u64 U1) ∧ ∃ n, w' = w.drewN n)
    (hu2 : ∀ (w : World) (k : Nat), w.cell? ⟨k, 0, none⟩ = some (.int .u64 hi) → w.cell? ⟨k, 1, none⟩ = some (.int .u64 lo) → w.cell? ⟨k, 2, none⟩ = some (.int .i64 s) →
      Calls Tryz.prog 110 #[.int .u64 m, .pointer (some ⟨k, 0, none⟩)] w fun e w' => e = .returned (.int .u64 U2) ∧ ∃ n, w' = w.drewN n)
    (c0 : w.cell? ⟨13, P * 2, none⟩ = some (.int .u64 hi)) (c1 : w.cell? ⟨13, P * 2 + 1, none⟩ = some (.int .u64 lo)) :
    Calls Tryz.prog 83 #[.int .u64 m, .int .i64 e] w fun r w' => r = .returned (.tuple #[.int .u64 (sfV R0 R1 U2 ((P : Int) - 348)).1, .int .i64 (sfV R0 R1 U2 ((P : Int) - 348)).2]) ∧ Ext w w' := by
  have K0 := Lib.hid hu0
  have K1 := Lib.hid hu1
  have K2 := Lib.hid hu2
  have K3 := Lib.hid hl2
  have hne : ((m : Int) == 9223372036854775808) = false := by rw [beq_eq_false_iff_ne]; omega
  clear hu0 hu1 hu2 hl2
  obtain ⟨p, hpe'⟩ : ∃ p, p = (e + 11) * 78913 / 262144 := ⟨_, rfl⟩
  rw [← hpe'] at hpe
  go_enter Tryz.func83, Tryz.ntmps83
  go_wp2_with fail
  refine (log10p2_walk _ _ (by omega) (by omega)).mono ?_; rintro r w' ⟨rfl, rfl⟩
  rw [← hpe'] at *
  go_wp2_with fail
  refine (K3.out _).mono ?_; rintro r w' ⟨rfl, rfl⟩
  go_wp2_with fail
  refine (prescale_walk _ lp P hi lo _ hP (by omega) (by omega) (by omega) (by omega) hsz c0 c1).mono ?_; rintro r w1 ⟨rfl, rfl⟩
  rw [hse]
  go_wp2_with fail
  refine (K0.out _ _ (by simp) (by simp) (by simp)).mono ?_; rintro r w2 ⟨rfl, n1, rfl⟩
  go_wp2_with fail
  refine (nudge_walk U0 R0 o _ (by omega) u0 (by omega) (by omega) hR0).mono ?_; rintro r w3 ⟨rfl, rfl⟩
  go_wp2_with fail
  refine (ceil_walk R0 _ (by omega)).mono ?_; rintro r w4 ⟨rfl, rfl⟩
  go_wp2_with fail
  refine (K1.out _ _ (by simp) (by simp) (by simp)).mono ?_; rintro r w5 ⟨rfl, n2, rfl⟩
  go_wp2_with fail
  refine (nudge_walk U1 R1 (-o) _ (by omega) u1 (by omega) (by omega) hR1).mono ?_; rintro r w6 ⟨rfl, rfl⟩
  go_wp2_with fail
  refine (floor_walk R1 _ (by omega)).mono ?_; rintro r w7 ⟨rfl, rfl⟩
  go_wp2_with fail
  · have hq : (R0 + 3) / 4 ≤ R1 / 4 / 10 * 10 := by omega
    have hv : sfV R0 R1 U2 ((P : Int) - 348) = (R1 / 4 / 10, -((P : Int) - 348 - 1)) := by unfold sfV; rw [if_pos hq]
    go_ret2
    rw [hv]
    exact ⟨by simp, ((Ext.refl _).alloc _).drewN _⟩
  · have hq : ¬ (R0 + 3) / 4 ≤ R1 / 4 / 10 * 10 := by omega
    have hq2 : (R0 + 3) / 4 < R1 / 4 := by omega
    have hv : sfV R0 R1 U2 ((P : Int) - 348) = ((U2 + 1 + U2 / 4 % 2) / 4, -((P : Int) - 348)) := by unfold sfV; rw [if_neg hq, if_pos hq2]
    refine (K2.out _ _ (by simp) (by simp) (by simp)).mono ?_; rintro r w8 ⟨rfl, n3, rfl⟩
    go_wp2_with fail
    refine (round_walk U2 _ (by omega)).mono ?_; rintro r w9 ⟨rfl, rfl⟩
    go_wp2_with fail
    go_ret2
    rw [hv]
    exact ⟨by simp, ((Ext.refl _).alloc _).drewN _⟩
  · have hq : ¬ (R0 + 3) / 4 ≤ R1 / 4 / 10 * 10 := by omega
    have hq2 : ¬ (R0 + 3) / 4 < R1 / 4 := by omega
    have hv : sfV R0 R1 U2 ((P : Int) - 348) = ((R0 + 3) / 4, -((P : Int) - 348)) := by unfold sfV; rw [if_neg hq, if_neg hq2]
    go_ret2
    rw [hv]
    exact ⟨by simp, ((Ext.refl _).alloc _).drewN _⟩
set_option maxRecDepth 100000 in
set_option maxHeartbeats 600000 in
theorem sf_walk1 (U0 U1 U2 R0 R1 s hi lo P : Nat) (e lp : Int) (w : World) (he : -1085 < e) (he' : e ≤ 1000) (hlp : -1200 ≤ lp) (hlp' : lp ≤ 1200)
    (hP : P < 696) (hse : -(e + lp + 3) = (s : Int)) 
    (hpe : -(((e + 11) * 631305 - 261663) / 2097152) = (P : Int) - 348)
    (u0 : 4 ≤ U0) (u0' : U0 < 1000000000000000000) (u1 : 4 ≤ U1) (u1' : U1 < 1000000000000000000) (u2' : U2 < 1000000000000000000) (hR0 : (U0 : Int) + 0 = (R0 : Int)) (hR1 : (U1 : Int) + 0 = (R1 : Int))
    (hsz : 13 < w.heap.size)
    (hl2 : ∀ w, Calls Tryz.prog 109 #[.int .i64 ((P : Int) - 348)] w fun e w' => e = .returned (.int .i64 lp) ∧ w = w')
    (hu0 : ∀ (w : World) (k : Nat), w.cell? ⟨k, 0, none⟩ = some (.int .u64 hi) → w.cell? ⟨k, 1, none⟩ = some (.int .u64 lo) → w.cell? ⟨k, 2, none⟩ = some (.int .i64 s) →
      Calls Tryz.prog 110 #[.int .u64 9223372036854775296, .pointer (some ⟨k, 0, none⟩)] w fun e w' => e = .returned (.int .u64 U0) ∧ ∃ n, w' = w.drewN n)
    (hu1 : ∀ (w : World) (k : Nat), w.cell? ⟨k, 0, none⟩ = some (.int .u64 hi) → w.cell? ⟨k, 1, none⟩ = some (.int .u64 lo) → w.cell? ⟨k, 2, none⟩ = some (.int .i64 s) →
      Calls Tryz.prog 110 #[.int .u64 9223372036854776832, .pointer (some ⟨k, 0, none⟩)] w fun e w' => e = .returned (.int .u64 U1) ∧ ∃ n, w' = w.drewN n)
    (hu2 : ∀ (w : World) (k : Nat), w.cell? ⟨k, 0, none⟩ = some (.int .u64 hi) → w.cell? ⟨k, 1, none⟩ = some (.int .u64 lo) → w.cell? ⟨k, 2, none⟩ = some (.int .i64 s) →
      Calls Tryz.prog 110 #[.int .u64 9223372036854775808, .pointer (some ⟨k, 0, none⟩)] w fun e w' => e = .returned (.int .u64 U2) ∧ ∃ n, w' = w.drewN n)
    (c0 : w.cell? ⟨13, P * 2, none⟩ = some (.int .u64 hi)) (c1 : w.cell? ⟨13, P * 2 + 1, none⟩ = some (.int .u64 lo)) :
    Calls Tryz.prog 83 #[.int .u64 9223372036854775808, .int .i64 e] w fun r w' => r = .returned (.tuple #[.int .u64 (sfV R0 R1 U2 ((P : Int) - 348)).1, .int .i64 (sfV R0 R1 U2 ((P : Int) - 348)).2]) ∧ Ext w w' := by
  have K0 := Lib.hid hu0
  have K1 := Lib.hid hu1
  have K2 := Lib.hid hu2
  have K3 := Lib.hid hl2
  have ho : bits BinOp.and IntKind.i64 4503599627370496 1 = 0 := by decide
  clear hu0 hu1 hu2 hl2
  obtain ⟨p, hpe'⟩ : ∃ p, p = ((e + 11) * 631305 - 261663) / 2097152 := ⟨_, rfl⟩
  rw [← hpe'] at hpe
  go_enter Tryz.func83, Tryz.ntmps83
  go_wp2_with fail
  refine (skewed_walk _ _ (by omega) (by omega)).mono ?_; rintro r w' ⟨rfl, rfl⟩
  rw [← hpe'] at *
  go_wp2_with fail
  refine (K3.out _).mono ?_; rintro r w' ⟨rfl, rfl⟩
  go_wp2_with fail
  refine (prescale_walk _ lp P hi lo _ hP (by omega) (by omega) (by omega) (by omega) hsz c0 c1).mono ?_; rintro r w1 ⟨rfl, rfl⟩
  rw [hse]
  go_wp2_with fail
  refine (K0.out _ _ (by simp) (by simp) (by simp)).mono ?_; rintro r w2 ⟨rfl, n1, rfl⟩
  go_wp2_with fail
  refine (nudge_walk U0 R0 0 _ (by omega) u0 (by omega) (by omega) hR0).mono ?_; rintro r w3 ⟨rfl, rfl⟩
  go_wp2_with fail
  refine (ceil_walk R0 _ (by omega)).mono ?_; rintro r w4 ⟨rfl, rfl⟩
  go_wp2_with fail
  refine (K1.out _ _ (by simp) (by simp) (by simp)).mono ?_; rintro r w5 ⟨rfl, n2, rfl⟩
  go_wp2_with fail
  refine (nudge_walk U1 R1 0 _ (by omega) u1 (by omega) (by omega) hR1).mono ?_; rintro r w6 ⟨rfl, rfl⟩
  go_wp2_with fail
  refine (floor_walk R1 _ (by omega)).mono ?_; rintro r w7 ⟨rfl, rfl⟩
  go_wp2_with fail
  · have hq : (R0 + 3) / 4 ≤ R1 / 4 / 10 * 10 := by omega
    have hv : sfV R0 R1 U2 ((P : Int) - 348) = (R1 / 4 / 10, -((P : Int) - 348 - 1)) := by unfold sfV; rw [if_pos hq]
    go_ret2
    rw [hv]
    exact ⟨by simp, ((Ext.refl _).alloc _).drewN _⟩
  · have hq : ¬ (R0 + 3) / 4 ≤ R1 / 4 / 10 * 10 := by omega
    have hq2 : (R0 + 3) / 4 < R1 / 4 := by omega
    have hv : sfV R0 R1 U2 ((P : Int) - 348) = ((U2 + 1 + U2 / 4 % 2) / 4, -((P : Int) - 348)) := by unfold sfV; rw [if_neg hq, if_pos hq2]
    refine (K2.out _ _ (by simp) (by simp) (by simp)).mono ?_; rintro r w8 ⟨rfl, n3, rfl⟩
    go_wp2_with fail
    refine (round_walk U2 _ (by omega)).mono ?_; rintro r w9 ⟨rfl, rfl⟩
    go_wp2_with fail
    go_ret2
    rw [hv]
    exact ⟨by simp, ((Ext.refl _).alloc _).drewN _⟩
  · have hq : ¬ (R0 + 3) / 4 ≤ R1 / 4 / 10 * 10 := by omega
    have hq2 : ¬ (R0 + 3) / 4 < R1 / 4 := by omega
    have hv : sfV R0 R1 U2 ((P : Int) - 348) = ((R0 + 3) / 4, -((P : Int) - 348)) := by unfold sfV; rw [if_neg hq, if_neg hq2]
    go_ret2
    rw [hv]
    exact ⟨by simp, ((Ext.refl _).alloc _).drewN _⟩
end Go.Proofs.YtglamimbkdldaaaGreatDoor
