import Derived.Test.YtbggdkpcgcmepaaGreatDoorPf
import GoSem.PinnedTables
import Derived.Lib.ItoaNum
namespace Go.Proofs.YtbggdkpcgcmepaaGreatDoor
open Go.RowKit Go.Sort
attribute [local go_sem] run_ffb run_f64b
set_option maxRecDepth 100000 in
set_option maxHeartbeats 400000 in
theorem pf64_walk0 (d b P s hi lo X u u1 r : Nat) (c : Bool) (lp : Int) (w : World) (hP : P < 696) (hb : 1 ≤ b) (hb' : b ≤ 50) (hl : -1200 ≤ lp) (hl' : lp ≤ 1200)
    (hsz : 12 < w.heap.size) (hlo : -1021 - (b : Int) < lp)
    (hlen : ∀ w, Calls Tryz.prog 55 #[.int .u64 d] w fun e w' => e = .returned (.int .i64 b) ∧ w' = w)
    (hlp : ∀ w, Calls Tryz.prog 113 #[.int .i64 ((P : Int) - 348)] w fun e w' => e = .returned (.int .i64 lp) ∧ w = w')
    (hc : decide ((36028797018963966 : Int) ≤ (u : Int)) = c)
    (hU : bits BinOp.or IntKind.u64 ((u : Int) / 2 ^ min c.toNat 64) (bits BinOp.and IntKind.u64 (u : Int) 1) = (u1 : Int)) (hu1 : u1 ≤ 72057594037927935)
    (hr : Hid ((u1 + 1 + u1 / 4 % 2) / 4 = r)) (hr1 : 4503599627370496 ≤ r) (hr2 : r < 9007199254740992) (hs : s = 0 ∨ s = 9223372036854775808)
    (hO : bits BinOp.or IntKind.u64 (s : Int) (r : Int) = ((s + r : Nat) : Int)) (hx1 : -1074 ≤ -(53 - (b : Int) - lp - (c.toNat : Int))) (hx2 : -(53 - (b : Int) - lp - (c.toNat : Int)) < 972)
    (hX : IntKind.u64.wrap ((d : Int) * 2 ^ (64 - b)) = (X : Int))
    (hus : ∀ (w : World) (k : Nat), w.cell? ⟨k, 0, none⟩ = some (.int .u64 hi) → w.cell? ⟨k, 1, none⟩ = some (.int .u64 lo) → w.cell? ⟨k, 2, none⟩ = some (.int .i64 8) →
      Calls Tryz.prog 115 #[.int .u64 X, .pointer (some ⟨k, 0, none⟩)] w fun e w' => e = .returned (.int .u64 u) ∧ ∃ n, w' = w.drewN n)
    (c0 : w.cell? ⟨12, P * 2, none⟩ = some (.int .u64 hi)) (c1 : w.cell? ⟨12, P * 2 + 1, none⟩ = some (.int .u64 lo)) :
    Calls Tryz.prog 105 #[.int .u64 d, .int .i64 ((P : Int) - 348), .int .u64 s] w fun e w' => e = .returned (.tuple #[.float .f64 (s + (r - 4503599627370496) + (1075 + -(53 - (b : Int) - lp - (c.toNat : Int))).toNat * 4503599627370496), .nilIface]) ∧ Ext w w' := by
  have K1 := Lib.hid hlen
  have K2 := Lib.hid hlp
  have K3 := Lib.hid hus
  have H1 := Lib.hid hr1
  have H2 := Lib.hid hr2
  have H3 := Lib.hid hs
  clear hlen hlp hus hr1 hr2 hs
  have hmin : min (1074 : Int) (53 - (b : Int) - lp) = 53 - (b : Int) - lp := by omega
  have e8 : -(53 - (b : Int) - lp - (64 - (b : Int)) + lp + 3) = 8 := by omega
  go_enter Tryz.func105, Tryz.ntmps105
  go_wp2_with fail
  refine (K1.out _).mono ?_; rintro e w' ⟨rfl, rfl⟩
  go_wp2_with fail
  refine (K2.out _).mono ?_; rintro e w' ⟨rfl, rfl⟩
  go_wp2_with fail
  refine (prescale_walk _ lp P hi lo _ hP (by omega) (by omega) (by omega) (by omega) hsz c0 c1).mono ?_; rintro e w1 ⟨rfl, rfl⟩
  go_wp2_with fail
  refine (K3.out _ _ (by simp) (by simp) (by simp)).mono ?_; rintro e w2 ⟨rfl, n1, rfl⟩
  go_wp2_with fail
  refine (unmin53_walk _).mono ?_; rintro e w3 ⟨rfl, rfl⟩
  go_wp2_with fail
  refine (bool2i_walk _ _).mono ?_; rintro e w4 ⟨rfl, rfl⟩
  go_wp2_with fail
  refine (round_walk u1 _ (by omega)).mono ?_; rintro e w5 ⟨rfl, rfl⟩
  rw [hr.out]
  go_wp2_with fail
  refine (pack_walk s r _ _ H3.out H1.out H2.out hx1 hx2).mono ?_; rintro e w6 ⟨rfl, rfl⟩
  go_wp2_with fail
  go_ret2
  refine ⟨rfl, ?_⟩
  exact ((Ext.refl _).alloc _).drewN _

theorem or_one_eq (a : Nat) : a ||| 1 = a / 2 * 2 + 1 := by
  by_cases h : a % 2 = 0
  · rw [nat_join 1 a 1 (by omega) (by decide)]; omega
  · have e : a = (a - 1) ||| 1 := by rw [nat_join 1 (a - 1) 1 (by omega) (by decide)]; omega
    have e2 : a ||| 1 = a := by
      conv => lhs; lhs; rw [e]
      rw [Nat.or_assoc, Nat.or_self, ← e]
    omega
/-- A last bit that tells that something is left. -/
def stick (a : Nat) (t : Bool) : Nat := if t then a / 2 * 2 + 1 else a
theorem or_toNat (a : Nat) (t : Bool) : a ||| t.toNat = stick a t := by
  cases t
  · simp [stick]
  · simp [stick, or_one_eq]
theorem stick_le (a : Nat) (t : Bool) : a ≤ stick a t ∧ stick a t ≤ a + 1 := by unfold stick; split <;> omega

/-- The rows of Go's table of powers of ten: the upper and the lower word. -/
def tabHi (P : Nat) : Nat := (Go.Pinned.pow10Rows.getD P (0, 0)).1
def tabLo (P : Nat) : Nat := (Go.Pinned.pow10Rows.getD P (0, 0)).2
theorem tab_all : Go.Pinned.pow10Rows.length = 696 ∧ Go.Pinned.pow10Rows.all (fun x => decide (9223372036854775808 ≤ x.1) && decide (x.1 ≤ 18446742974197923840) && decide (x.2 < 18446744073709551616)) = true := by decide +kernel
theorem tab_ok (P : Nat) (hP : P < 696) : 9223372036854775808 ≤ tabHi P ∧ tabHi P ≤ 18446742974197923840 ∧ tabLo P < 18446744073709551616 := by
  have h := List.all_eq_true.1 tab_all.2 (Go.Pinned.pow10Rows.getD P (0, 0)) (by
    rw [List.getD_eq_getElem?_getD, List.getElem?_eq_getElem (by rw [tab_all.1]; exact hP)]
    exact List.getElem_mem _)
  simp only [Bool.and_eq_true, decide_eq_true_eq] at h
  exact ⟨h.1.1, h.1.2, h.2⟩

def pfU (d P : Nat) : Nat := usc (d * 2 ^ (64 - Lib.bitLen d)) (tabHi P) (tabLo P)
def pfC (d P : Nat) : Bool := decide (36028797018963966 ≤ pfU d P)
def pfV (d P : Nat) : Nat := if pfC d P then stick (pfU d P / 2) (decide (pfU d P % 2 = 1)) else pfU d P
def pfR (d P : Nat) : Nat := (pfV d P + 1 + pfV d P / 4 % 2) / 4
/-- The bits that parseFloat64 gives, without the sign. -/
def pfBits (d P : Nat) : Nat := pfR d P - 4503599627370496 + (1075 + -(53 - (Lib.bitLen d : Int) - ((P : Int) - 348) * 108853 / 32768 - ((pfC d P).toNat : Int))).toNat * 4503599627370496

theorem bitLen_bd (d : Nat) (h0 : 1 ≤ d) (h : d < 18446744073709551616) : 1 ≤ Lib.bitLen d ∧ Lib.bitLen d ≤ 64 ∧ 2 ^ (Lib.bitLen d - 1) ≤ d ∧ d < 2 ^ Lib.bitLen d := by
  have := Lib.bitLenAux_bounds 64 d h (by omega)
  exact ⟨this.1, Lib.bitLen_le d 64 (by decide) h, this.2⟩
theorem shift_bd (d : Nat) (h0 : 1 ≤ d) (h : d < 18446744073709551616) : 9223372036854775808 ≤ d * 2 ^ (64 - Lib.bitLen d) ∧ d * 2 ^ (64 - Lib.bitLen d) < 18446744073709551616 := by
  obtain ⟨h1, h2, h3, h4⟩ := bitLen_bd d h0 h
  generalize Lib.bitLen d = b at *
  constructor
  · calc 9223372036854775808 = 2 ^ (b - 1) * 2 ^ (64 - b) := by rw [← Nat.pow_add, show b - 1 + (64 - b) = 63 by omega]
      _ ≤ _ := Nat.mul_le_mul_right _ h3
  · calc _ < 2 ^ b * 2 ^ (64 - b) := Nat.mul_lt_mul_of_pos_right h4 (Nat.two_pow_pos _)
      _ = 18446744073709551616 := by rw [← Nat.pow_add, show b + (64 - b) = 64 by omega]
theorem pfU_bd (d P : Nat) (h0 : 1 ≤ d) (h : d < 18446744073709551616) (hP : P < 696) : 18014398509481983 ≤ pfU d P ∧ pfU d P ≤ 72057589742960641 := by
  obtain ⟨x1, x2⟩ := shift_bd d h0 h
  obtain ⟨t1, t2, t3⟩ := tab_ok P hP
  unfold pfU usc
  generalize d * 2 ^ (64 - Lib.bitLen d) = x at *
  generalize tabHi P = hi at *
  generalize tabLo P = lo at *
  have hH1 : 4611686018427387904 ≤ x * hi / 18446744073709551616 := by
    rw [Nat.le_div_iff_mul_le (by decide)]
    calc 4611686018427387904 * 18446744073709551616 = 9223372036854775808 * 9223372036854775808 := by decide
      _ ≤ x * hi := Nat.mul_le_mul x1 t1
  have hH2 : x * hi / 18446744073709551616 ≤ 18446742974197923840 := by
    apply Nat.div_le_of_le_mul
    exact Nat.mul_le_mul (by omega) t2
  generalize x * hi / 18446744073709551616 = H at *
  generalize x * hi % 18446744073709551616 = M
  generalize x * lo / 18446744073709551616 = m
  unfold uscOf
  split
  · rw [or_one_eq]; omega
  · rw [or_toNat]
    have := stick_le ((H - (decide (M < m)).toNat) / 256) (decide (1 < subW M m))
    have := toNat_le_one (decide (M < m))
    omega
theorem pfR_bd (d P : Nat) (h0 : 1 ≤ d) (h : d < 18446744073709551616) (hP : P < 696) : 4503599627370496 ≤ pfR d P ∧ pfR d P < 9007199254740992 := by
  obtain ⟨u1, u2⟩ := pfU_bd d P h0 h hP
  unfold pfR pfV pfC
  generalize pfU d P = u at *
  split
  · rename_i hc
    simp only [decide_eq_true_eq] at hc
    have := stick_le (u / 2) (decide (u % 2 = 1))
    omega
  · rename_i hc
    simp only [decide_eq_true_eq] at hc
    omega
/-- parseFloat64, of up to fifteen digits: no error, the bits. -/
theorem pf64_walk (d P s : Nat) (w : World) (hd : 1 ≤ d) (hd' : d ≤ 999999999999999) (hP0 : 48 ≤ P) (hP : P ≤ 638) (hs : s = 0 ∨ s = 9223372036854775808)
    (hsz : 12 < w.heap.size) (c0 : w.cell? ⟨12, P * 2, none⟩ = some (.int .u64 (tabHi P))) (c1 : w.cell? ⟨12, P * 2 + 1, none⟩ = some (.int .u64 (tabLo P))) :
    Calls Tryz.prog 105 #[.int .u64 d, .int .i64 ((P : Int) - 348), .int .u64 s] w fun e w' => e = .returned (.tuple #[.float .f64 (s + pfBits d P), .nilIface]) ∧ Ext w w' := by
  obtain ⟨b1, b2, b3, b4⟩ := bitLen_bd d hd (by omega)
  obtain ⟨x1, x2⟩ := shift_bd d hd (by omega)
  obtain ⟨t1, t2, t3⟩ := tab_ok P (by omega)
  obtain ⟨u1, u2⟩ := pfU_bd d P hd (by omega) (by omega)
  obtain ⟨r1, r2⟩ := pfR_bd d P hd (by omega) (by omega)
  have b5 : Lib.bitLen d ≤ 50 := Lib.bitLen_le d 50 (by decide) (by omega)
  have hv : pfV d P ≤ 72057594037927935 := by
    unfold pfV; have := stick_le (pfU d P / 2) (decide (pfU d P % 2 = 1)); split <;> omega
  have hct : (pfC d P).toNat ≤ 1 := toNat_le_one _
  refine (pf64_walk0 d (Lib.bitLen d) P s (tabHi P) (tabLo P) (d * 2 ^ (64 - Lib.bitLen d)) (pfU d P) (pfV d P) (pfR d P) (pfC d P) (((P : Int) - 348) * 108853 / 32768) w (by omega) b1 b5 (by omega) (by omega) hsz (by omega)
    ?_ ?_ ?_ ?_ hv rfl r1 r2 hs ?_ (by omega) (by omega) ?_ ?_ c0 c1).mono fun e w' ⟨he, hw⟩ => ⟨?_, hw⟩
  · intro w; have := Tryz.bits_Len64 (d : Int) w (by omega) (by omega); simpa using this
  · exact fun w => log2p10_walk _ w (by omega) (by omega)
  · unfold pfC; exact decide_eq_decide.2 (by omega)
  · rw [show bits BinOp.and IntKind.u64 (pfU d P : Int) 1 = ((pfU d P % 2 : Nat) : Int) from by rw [and_one_u64 _ (by omega) (by omega)]; omega]
    unfold pfV
    cases hc : pfC d P
    · have := u64_or_nat (pfU d P) (pfU d P % 2) (by omega) (by omega)
      simp only [Bool.toNat_false, Nat.zero_min, Int.pow_zero, Int.ediv_one, if_false, Bool.false_eq_true]
      rw [this]
      have : pfU d P ||| pfU d P % 2 = pfU d P := by
        rcases Nat.mod_two_eq_zero_or_one (pfU d P) with h | h <;> rw [h]
        · simp
        · rw [or_one_eq]; omega
      rw [this]
    · have := u64_or_nat (pfU d P / 2) (pfU d P % 2) (by omega) (by omega)
      have e : ((pfU d P : Nat) : Int) / 2 ^ min true.toNat 64 = ((pfU d P / 2 : Nat) : Int) := by simp
      rw [e, this, if_pos rfl, ← or_toNat]
      rcases Nat.mod_two_eq_zero_or_one (pfU d P) with h | h <;> simp [h]
  · have := u64_or_nat s (pfR d P) (by omega) (by omega)
    rw [this, nat_join 63 s (pfR d P) (by rcases hs with rfl | rfl <;> decide) (by omega)]
  · rw [IntKind.wrap_u64, show ((d : Int) * 2 ^ (64 - Lib.bitLen d)) = ((d * 2 ^ (64 - Lib.bitLen d) : Nat) : Int) from by simp]
    omega
  · intro w k h0 h1 h2
    exact uscale_walk _ _ _ k w x2 (by omega) t3 (by
      calc 18446744073709551616 ≤ 9223372036854775808 * 9223372036854775808 := by decide
        _ ≤ _ := Nat.mul_le_mul x1 t1) h0 h1 h2
  · rw [he]; unfold pfBits; rw [Nat.add_assoc]
end Go.Proofs.YtbggdkpcgcmepaaGreatDoor
