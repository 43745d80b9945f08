import Derived.Test.YtglamimbkdldaaaGreatDoorGq
namespace Go.Proofs.YtglamimbkdldaaaGreatDoor
open Go.RowKit Go.Sort

/-- uscale's answer at any shift. -/
def uscG (s H M m2 : Nat) : Nat :=
  if H / 2 ^ s * 2 ^ s ≠ H then H / 2 ^ s ||| 1
  else (H - (decide (M < m2)).toNat) / 2 ^ s ||| (decide (1 < subW M m2)).toNat
def uscS (x hi lo s : Nat) : Nat := uscG s (x * hi / 18446744073709551616) (x * hi % 18446744073709551616) (x * lo / 18446744073709551616)

set_option maxHeartbeats 400000 in
theorem skewed_walk (e : Int) (w : World) (h1 : -1200 ≤ e) (h2 : e ≤ 1200) : Calls Tryz.prog 107 #[.int .i64 e] w fun r w' => r = .returned (.int .i64 ((e * 631305 - 261663) / 2097152)) ∧ w = w' := by
  go_enter Tryz.func107, Tryz.ntmps107
  go_wp2
  go_ret
  exact ⟨rfl, rfl⟩
set_option maxHeartbeats 400000 in
theorem log10p2_walk (e : Int) (w : World) (h1 : -1200 ≤ e) (h2 : e ≤ 1200) : Calls Tryz.prog 67 #[.int .i64 e] w fun r w' => r = .returned (.int .i64 (e * 78913 / 262144)) ∧ w = w' := by
  go_enter Tryz.func67, Tryz.ntmps67
  go_wp2
  go_ret
  exact ⟨rfl, rfl⟩
set_option maxHeartbeats 400000 in
theorem ceil_walk (u : Nat) (w : World) (h : u < 1152921504606846976) : Calls Tryz.prog 112 #[.int .u64 u] w fun e w' => e = .returned (.int .u64 ((u + 3) / 4 : Nat)) ∧ w = w' := by
  have hw : IntKind.u64.wrap ((u : Int) + 3) = (u : Int) + 3 := by rw [IntKind.wrap_u64]; omega
  go_enter Tryz.func112, Tryz.ntmps112
  go_wp2
  go_ret
  exact ⟨ret_int (by simp), rfl⟩
set_option maxHeartbeats 400000 in
theorem floor_walk (u : Nat) (w : World) (h : u < 1152921504606846976) : Calls Tryz.prog 113 #[.int .u64 u] w fun e w' => e = .returned (.int .u64 (u / 4 : Nat)) ∧ w = w' := by
  go_enter Tryz.func113, Tryz.ntmps113
  go_wp2
  go_ret
  exact ⟨ret_int (by simp), rfl⟩
set_option maxHeartbeats 400000 in
theorem nudge_walk (u r : Nat) (d : Int) (w : World) (h : u < 1152921504606846976) (h0 : 4 ≤ u) (hd : -1 ≤ d) (hd' : d ≤ 1) (hr : (u : Int) + d = (r : Int)) : Calls Tryz.prog 111 #[.int .u64 u, .int .i64 d] w fun e w' => e = .returned (.int .u64 r) ∧ w = w' := by
  have hw : IntKind.u64.wrap ((u : Int) + IntKind.u64.wrap d) = (r : Int) := by rw [IntKind.wrap_u64, IntKind.wrap_u64]; omega
  go_enter Tryz.func111, Tryz.ntmps111
  go_wp2
  go_ret
  exact ⟨ret_int (by first | omega | exact hw | (rw [IntKind.wrap_u64]; omega)), rfl⟩

set_option maxRecDepth 100000 in
set_option maxHeartbeats 400000 in
theorem uscaleG0 (x hi lo b H M m2 l2 s : Nat) (w : World) (hs : s ≤ 63) (hH0 : 0 < H) (hH : H ≤ 18446744073709551615) (hM : M ≤ 18446744073709551615) (hm2 : m2 ≤ 18446744073709551615)
    (hm : ∀ w, Calls Tryz.prog 131 #[.int .u64 x, .int .u64 hi] w fun e w' => e = .returned (.tuple #[.int .u64 H, .int .u64 M]) ∧ w' = w)
    (hmm : ∀ w, Calls Tryz.prog 131 #[.int .u64 x, .int .u64 lo] w fun e w' => e = .returned (.tuple #[.int .u64 m2, .int .u64 l2]) ∧ w' = w)
    (c0 : w.cell? ⟨b, 0, none⟩ = some (.int .u64 hi)) (c1 : w.cell? ⟨b, 1, none⟩ = some (.int .u64 lo)) (c2 : w.cell? ⟨b, 2, none⟩ = some (.int .i64 s)) :
    Calls Tryz.prog 110 #[.int .u64 x, .pointer (some ⟨b, 0, none⟩)] w fun e w' => e = .returned (.int .u64 (uscG s H M m2)) ∧ ∃ n, w' = w.drewN n := by
  have h8 : bits BinOp.and IntKind.i64 s 63 = s := by
    have h : (s : Nat) < 64 := by omega
    have hb : bits BinOp.and IntKind.i64 s 63 = IntKind.i64.wrap ((BitVec.ofInt 64 s &&& 63#64).toNat : Int) := rfl
    rw [hb, BitVec.toNat_and]
    have e1 : (BitVec.ofInt 64 (s : Int)).toNat = s := by
      rw [BitVec.toNat_ofInt]; omega
    rw [e1, show (63#64).toNat = 2 ^ 6 - 1 from rfl, Nat.and_two_pow_sub_one_eq_mod, Nat.mod_eq_of_lt (by omega), IntWalk.i64_in _ (by omega)]
  have hmin : min s 64 = s := by omega
  have hdl : ∀ y, y ≤ 18446744073709551615 → y / 2 ^ s < 18446744073709551616 := fun y hy => by
    have := Nat.div_le_self y (2 ^ s); omega
  have hwr : ∀ y : Nat, y ≤ 18446744073709551615 → IntKind.u64.wrap ((y : Int) / 2 ^ s * 2 ^ s) = (y : Int) / 2 ^ s * 2 ^ s := fun y hy => by
    have h1 : y / 2 ^ s * 2 ^ s ≤ y := Nat.div_mul_le_self _ _
    have h2 : ((y : Int) / 2 ^ s * 2 ^ s) = ((y / 2 ^ s * 2 ^ s : Nat) : Int) := by simp
    rw [h2, IntKind.wrap_u64]; omega
  have K1 := Lib.hid hm
  have K2 := Lib.hid hmm
  clear hm hmm
  go_enter Tryz.func110, Tryz.ntmps110
  go_wp2_with fail
  refine (K1.out _).mono ?_; rintro e w' ⟨rfl, rfl⟩
  go_wp2_with fail
  · rename_i hne
    have ho : bits BinOp.or IntKind.u64 ((H : Int) / 2 ^ s) 1 = ((H / 2 ^ s ||| 1 : Nat) : Int) := by
      have := u64_or_nat (H / 2 ^ s) 1 (hdl _ hH) (by omega)
      simpa using this
    have hf : uscG s H M m2 = H / 2 ^ s ||| 1 := by
      unfold uscG; rw [if_pos]; try rw [hwr H hH] at hne
      simp at hne
      intro e; apply hne; exact_mod_cast e
    go_ret
    exact ⟨ret_int (by rw [hf]; simpa using ho), 0, rfl⟩
  · have hne : ((H : Int) / 2 ^ s * 2 ^ s != (H : Int)) = false := by
      first
      | assumption
      | (have h9 : (IntKind.u64.wrap ((H : Int) / 2 ^ s * 2 ^ s) != (H : Int)) = false := by assumption
         rw [hwr H hH] at h9
         exact h9)
    refine (K2.out _).mono ?_; rintro e w1 ⟨rfl, rfl⟩
    obtain ⟨H1, hH1⟩ : ∃ H1, H1 = H - (decide (M < m2)).toNat := ⟨_, rfl⟩
    obtain ⟨D, hDv⟩ : ∃ D, D = subW M m2 := ⟨_, rfl⟩
    have hD : D ≤ 18446744073709551615 := by rw [hDv]; exact subW_le _ _ hM hm2
    have hH1l : H1 ≤ 18446744073709551615 := by omega
    have e1 : IntKind.u64.wrap ((H : Int) - (((decide (M < m2)).toNat : Nat) : Int)) = (H1 : Int) := by
      have := toNat_le_one (decide (M < m2))
      rw [IntKind.wrap_u64]; omega
    have e2 : IntKind.u64.wrap ((M : Int) - (m2 : Int)) = (D : Int) := by rw [hDv]; exact wrap_subW M m2 hM hm2
    have e3 : bits BinOp.or IntKind.u64 ((H1 : Int) / 2 ^ s) (((decide ((1 : Int) < (D : Int))).toNat : Nat) : Int) = ((H1 / 2 ^ s ||| (decide (1 < D)).toNat : Nat) : Int) := by
      rw [show decide ((1 : Int) < (D : Int)) = decide (1 < D) from decide_eq_decide.2 (by omega)]
      have hq := toNat_le_one (decide (1 < D))
      have := u64_or_nat (H1 / 2 ^ s) (decide (1 < D)).toNat (hdl _ hH1l) (by omega)
      simpa using this
    have hf : Hid (uscG s H M m2 = H1 / 2 ^ s ||| (decide (1 < D)).toNat) := by
      rw [hH1, hDv]; show uscG s H M m2 = _
      unfold uscG; rw [if_neg]
      simp at hne
      intro e; apply e; exact_mod_cast hne
    clear hH1 hDv hwr hdl
    go_wp2_with (go_at_call 99; refine (bool2u_walk _ _).mono ?_; rintro e w' ⟨rfl, rfl⟩)
    go_quiet ((go_at_call 99; exact quiet_left (bool2u_walk _ _)))
    go_wp2
    go_ret
    exact ⟨ret_int (by rw [hf.out]), _, rfl⟩
end Go.Proofs.YtglamimbkdldaaaGreatDoor
