import Derived.Test.YtkgcbeokfilehaaGreatDoorRfBased
import Derived.Test.YtkgcbeokfilehaaGreatDoorPad
namespace Go.Proofs.YtkgcbeokfilehaaGreatDoor
open Go.RowKit Go.Sort Ieee

/-- Where atof64exact answers. -/
def exOK (d : Nat) (x : Int) : Bool := decide (-22 ≤ x ∧ x ≤ 22) || decide (23 ≤ x ∧ x ≤ 37 ∧ d * 10 ^ (x - 22).toNat ≤ 1000000000000000)

/-- The library's own small tables, in memory. -/
structure Tabs (w : World) : Prop where
  info : w.cell? ⟨9, 0, none⟩ = some (.int .u64 52)
  opt : w.cell? ⟨8, 0, none⟩ = some (.bool true)
  pow : ∃ pb po pc, w.cell? ⟨12, 0, none⟩ = some (.slice (some ⟨pb, po, none⟩) 23 pc) ∧ ∀ i, i ≤ 22 → w.cell? ⟨pb, po + i, none⟩ = some (.float .f64 (P10.getD i 0))
  hi : ∀ P, P < 696 → w.cell? ⟨15, P * 2, none⟩ = some (.int .u64 (tabHi P))
  lo : ∀ P, P < 696 → w.cell? ⟨15, P * 2 + 1, none⟩ = some (.int .u64 (tabLo P))
  u64 : Lib.TabIs Tryz.prog w "internal/strconv.uint64pow10" .u64 Lib.pow10Tab
theorem Tabs.size {w : World} (h : Tabs w) : 15 < w.heap.size := lt_of_cell (h.hi 0 (by decide))
theorem gU64 : Tryz.prog.globalNamed "internal/strconv.uint64pow10" = some 6 := by kernel_rfl
theorem tabIs_ext {w w' : World} (h : Lib.TabIs Tryz.prog w "internal/strconv.uint64pow10" .u64 Lib.pow10Tab) (k : Ext w w') (hs : 6 < w.heap.size) : Lib.TabIs Tryz.prog w' "internal/strconv.uint64pow10" .u64 Lib.pow10Tab :=
  var?_below k.below gU64 hs h
theorem Tabs.ext {w w' : World} (h : Tabs w) (k : Ext w w') : Tabs w' := by
  obtain ⟨pb, po, pc, h1, h2⟩ := h.pow
  exact ⟨k.cell_some h.info, k.cell_some h.opt, ⟨pb, po, pc, k.cell_some h1, fun i hi => k.cell_some (h2 i hi)⟩, fun P hP => k.cell_some (h.hi P hP), fun P hP => k.cell_some (h.lo P hP),
    tabIs_ext h.u64 k (Nat.lt_of_lt_of_le (by decide) (Nat.le_of_lt h.size))⟩

theorem d_lt15 {d : Nat} (hd' : d ≤ 999999999999999) : d * 2 ^ E0 < 1000000000000000 * 2 ^ E0 := Nat.mul_lt_mul_of_pos_right (by omega) (Nat.two_pow_pos _)
theorem ten_pos (n : Nat) : 1 ≤ 10 ^ n := Nat.pow_pos (by decide)

theorem ex_yes (d : Nat) (x : Int) (g : Bool) (w : World) (hd : 1 ≤ d) (hd' : d ≤ 999999999999999) (T : Tabs w) (hok : exOK d x = true) :
    Calls Tryz.prog 228 #[.int .u64 d, .int .i64 x, .bool g] w fun e w' => e = .returned (.tuple #[.float .f64 (double.word g (nearV d x)), .bool true]) ∧ w' = w := by
  have hrep := rep_int d g hd (by omega)
  obtain ⟨fb, hfb⟩ : ∃ fb, fb = negIf g (floatOfInt .f64 d) := ⟨_, rfl⟩
  have hR : Rep g fb (d * 2 ^ E0) := by rw [hfb]; exact hrep
  obtain ⟨pb, po, pc, h1, h2⟩ := T.pow
  have hord : FloatKind.f64.format.order fb 4831355200913801216 = some .lt ∧ FloatKind.f64.format.order fb 14054727237768577024 = some .gt := by
    obtain ⟨j, q, e, q1, q2, q3, q4, q5⟩ := hR
    rw [e]
    exact (order15 g j q q1 q2 (by omega)).1 (by rw [q3]; exact d_lt15 hd')
  rcases Int.lt_trichotomy x 0 with hx | rfl | hx
  · -- below 0
    obtain ⟨n, rfl⟩ : ∃ n : Nat, x = -(n : Int) := ⟨(-x).toNat, by omega⟩
    have hn : n ≤ 22 := by
      unfold exOK at hok; simp only [Bool.or_eq_true, decide_eq_true_eq] at hok; omega
    have hdv := rep_div hR (rep_pow n hn) hd (ten_pos n) (Nat.pow_le_pow_right (by decide) hn)
    have hv : nearV d (-(n : Int)) = nearOf (d * 2 ^ E0) (10 ^ n) := by
      unfold nearV; rw [if_neg (by omega), show (-(-(n : Int))).toNat = n from by omega]
    rw [hv]
    exact ex_neg d g w hd' T.info fb hfb.symm n pb po pc _ _ (by omega) hn h1 (h2 n hn) hdv
  · have hv : fb = double.word g (nearV d 0) := by
      rw [hR.eq]; unfold nearV; rw [if_pos (by decide)]; simp
    rw [← hv]
    exact ex_zero d g w hd' T.info fb hfb.symm
  · obtain ⟨n, rfl⟩ : ∃ n : Nat, x = (n : Int) := ⟨x.toNat, by omega⟩
    have hv : nearV d (n : Int) = nearOf (d * 10 ^ n * 2 ^ E0) 1 := by
      unfold nearV; rw [if_pos (by omega), Int.toNat_natCast]
    rw [hv]
    rcases Nat.lt_or_ge 22 n with hn | hn
    · have hok' : n ≤ 37 ∧ d * 10 ^ (n - 22) ≤ 1000000000000000 := by
        unfold exOK at hok; simp only [Bool.or_eq_true, decide_eq_true_eq] at hok
        rw [show ((n : Int) - 22).toNat = n - 22 from by omega] at hok
        rcases hok with h | h
        · omega
        · exact ⟨by omega, h.2.2⟩
      have hm := rep_mul hR (rep_pow (n - 22) (by omega)) hd (ten_pos _)
      have hN1 : 1 ≤ d * 10 ^ (n - 22) := Nat.mul_pos hd (ten_pos _)
      have hR2 : Rep g (double.word g (nearOf (d * 10 ^ (n - 22) * 2 ^ E0) 1)) (d * 10 ^ (n - 22) * 2 ^ E0) := by
        have := rep_int (d * 10 ^ (n - 22)) g hN1 (by omega)
        rw [← this.eq]; exact this
      have hm2 := rep_mul hR2 (rep_pow 22 (by decide)) hN1 (ten_pos _)
      have htb : tooBig (double.word g (nearOf (d * 10 ^ (n - 22) * 2 ^ E0) 1)) = false := by
        obtain ⟨j, q, e, q1, q2, q3, q4, q5⟩ := hR2
        rw [e]
        exact (order15 g j q q1 q2 (by omega)).2.2 (by rw [q3]; exact Nat.mul_le_mul_right _ hok'.2)
      have hw := ex_far d g w hd' T.info fb hfb.symm n pb po pc _ _ _ _ _ _ (by omega) hok'.1 h1 (h2 (n - 22) (by omega)) (h2 22 (by decide)) hm hm2 rfl rfl
      rw [htb] at hw
      have e2 : d * 10 ^ (n - 22) * 10 ^ 22 = d * 10 ^ n := by rw [Nat.mul_assoc, ← Nat.pow_add, Nat.sub_add_cancel (by omega)]
      rw [e2] at hw
      simpa using hw
    · have hm := rep_mul hR (rep_pow n hn) hd (ten_pos n)
      exact ex_pos d g w hd' T.info fb hfb.symm n pb po pc _ _ (by omega) hn h1 (h2 n hn) hord.1 hord.2 hm

theorem far_big {g : Bool} {N : Nat} (h15 : 1000000000000000 < N) (hN : N < 2 ^ 200) : tooBig (double.word g (nearOf (N * 2 ^ E0) 1)) = true ∧ ∃ j q, nearOf (N * 2 ^ E0) 1 = j * 4503599627370496 + q ∧ 4503599627370496 ≤ q ∧ q < 9007199254740992 ∧ j ≤ 1400 ∧ 900 ≤ j := by
  have hE := E0_eq
  have hn := nearOf_near (N * 2 ^ E0) 1 (by decide) (by
    rw [Nat.div_one]
    calc 4503599627370496 ≤ 2 ^ E0 := Nat.le_trans (by decide) E0_big
      _ ≤ N * 2 ^ E0 := Nat.le_mul_of_pos_left _ (by omega))
  obtain ⟨r, hr⟩ : ∃ r, r = nearOf (N * 2 ^ E0) 1 := ⟨_, rfl⟩
  rw [← hr] at hn ⊢
  obtain ⟨j, q, q1, q2, q3, q4, q5⟩ := hn
  rw [Nat.mul_one] at q3 q4
  have hbig : 1000000000000000 * 2 ^ E0 < q * 2 ^ j := by
    rcases Nat.lt_or_ge E0 j with h | h
    · calc 1000000000000000 * 2 ^ E0 < 9007199254740992 * 2 ^ E0 := Nat.mul_lt_mul_of_pos_right (by decide) (Nat.two_pow_pos _)
        _ = 4503599627370496 * 2 ^ (E0 + 1) := by rw [Nat.pow_succ 2 E0, Nat.mul_comm (2 ^ E0) 2, ← Nat.mul_assoc]
        _ ≤ q * 2 ^ j := Nat.mul_le_mul q1 (Nat.pow_le_pow_right (by decide) h)
    · obtain ⟨t, ht⟩ : ∃ t, E0 = t + j := ⟨E0 - j, by omega⟩
      rw [ht, Nat.pow_add, ← Nat.mul_assoc] at q3 q4 ⊢
      have a := Nat.le_of_mul_le_mul_right q3 (Nat.two_pow_pos j)
      have b := Nat.lt_of_mul_lt_mul_right q4
      refine Nat.mul_lt_mul_of_pos_right ?_ (Nat.two_pow_pos j)
      have : q = N * 2 ^ t := by omega
      rw [this]
      exact Nat.mul_lt_mul_of_pos_right h15 (Nat.two_pow_pos _)
  have hj : j ≤ 1300 := by
    rcases Nat.lt_or_ge 1300 j with h | h
    · exfalso
      have a : q * 2 ^ j < 2 ^ 200 * 2 ^ E0 := Nat.lt_of_le_of_lt q3 (Nat.mul_lt_mul_of_pos_right hN (Nat.two_pow_pos _))
      have b : 1 * 2 ^ (200 + E0) ≤ q * 2 ^ j := Nat.mul_le_mul (by omega) (Nat.pow_le_pow_right (by decide) (by omega))
      rw [Nat.one_mul, Nat.pow_add] at b
      omega
    · exact h
  have hj0 : 900 ≤ j := by
    rcases Nat.lt_or_ge j 900 with h | h
    · exfalso
      obtain ⟨F, hF⟩ : ∃ F, F = 900 := ⟨_, rfl⟩
      have a : q * 2 ^ j ≤ 9007199254740992 * 2 ^ F := Nat.mul_le_mul (by omega) (Nat.pow_le_pow_right (by decide) (by omega))
      have b : (9007199254740992 : Nat) * 2 ^ F ≤ 2 ^ E0 := by
        rw [show (9007199254740992 : Nat) = 2 ^ 53 from by decide, ← Nat.pow_add]
        exact Nat.pow_le_pow_right (by decide) (by omega)
      have c : 2 ^ E0 ≤ 1000000000000000 * 2 ^ E0 := Nat.le_mul_of_pos_left _ (by decide)
      exact absurd hbig (Nat.not_lt.2 (Nat.le_trans a (Nat.le_trans b c)))
    · exact h
  have hu := up_le (N * 2 ^ E0 - q * (2 ^ j * 1)) (2 ^ j * 1) q
  generalize up (N * 2 ^ E0 - q * (2 ^ j * 1)) (2 ^ j * 1) q = u at q5 hu
  unfold tooBig
  rcases Nat.lt_or_ge (q + u) 9007199254740992 with h | h
  · rw [q5, Nat.add_assoc]
    refine ⟨?_, j, q + u, rfl, by omega, h, by omega, by omega⟩
    refine (order15 g j (q + u) (by omega) h (by omega)).2.1 (Nat.lt_of_lt_of_le hbig (Nat.mul_le_mul_right _ (by omega)))
  · have e : j * 4503599627370496 + q + u = (j + 1) * 4503599627370496 + 4503599627370496 := by omega
    rw [q5, e]
    refine ⟨?_, j + 1, 4503599627370496, rfl, by omega, by omega, by omega, by omega⟩
    refine (order15 g (j + 1) 4503599627370496 (by omega) (by omega) (by omega)).2.1 (Nat.lt_of_lt_of_le hbig ?_)
    rw [Nat.pow_succ 2 j, Nat.mul_comm (2 ^ j) 2, ← Nat.mul_assoc]
    exact Nat.mul_le_mul_right _ (by omega)

theorem ex_no (d : Nat) (x : Int) (g : Bool) (w : World) (hd : 1 ≤ d) (hd' : d ≤ 999999999999999) (T : Tabs w) (hok : exOK d x = false) :
    Calls Tryz.prog 228 #[.int .u64 d, .int .i64 x, .bool g] w fun e w' => (∃ v, e = .returned (.tuple #[.float .f64 v, .bool false])) ∧ w' = w := by
  have hrep := rep_int d g hd (by omega)
  obtain ⟨fb, hfb⟩ : ∃ fb, fb = negIf g (floatOfInt .f64 d) := ⟨_, rfl⟩
  have hR : Rep g fb (d * 2 ^ E0) := by rw [hfb]; exact hrep
  obtain ⟨pb, po, pc, h1, h2⟩ := T.pow
  unfold exOK at hok
  simp only [Bool.or_eq_false_iff, decide_eq_false_iff_not] at hok
  by_cases hx : 37 < x ∨ x < -22
  · exact (ex_none d g w hd' T.info fb hfb.symm x hx).mono fun e w' h => ⟨⟨_, h.1⟩, h.2⟩
  · obtain ⟨n, rfl⟩ : ∃ n : Nat, x = (n : Int) := ⟨x.toNat, by omega⟩
    rw [show ((n : Int) - 22).toNat = n - 22 from by omega] at hok
    have hN : 1000000000000000 < d * 10 ^ (n - 22) := by omega
    have hm := rep_mul hR (rep_pow (n - 22) (by omega)) hd (ten_pos _)
    have hN2 : d * 10 ^ (n - 22) < 2 ^ 200 := by
      calc d * 10 ^ (n - 22) ≤ 999999999999999 * 10 ^ 15 := Nat.mul_le_mul hd' (Nat.pow_le_pow_right (by decide) (by omega))
        _ < 2 ^ 200 := by decide +kernel
    obtain ⟨htb, j, q, hjq, k1, k2, k3, k4⟩ := far_big (g := g) hN hN2
    have hmm : ∃ r, floatBits .mul .f64 (double.word g (nearOf (d * 10 ^ (n - 22) * 2 ^ E0) 1)) (P10.getD 22 0) = some r := by
      obtain ⟨j2, q2, e2, b1, b2, b3, b4, b5⟩ := rep_pow 22 (by decide)
      obtain ⟨P, hP⟩ : ∃ P, j + j2 = P + 1074 := ⟨j + j2 - 1074, by omega⟩
      obtain ⟨r, e, _⟩ := mul_near g j q j2 q2 P k1 k2 b1 b2 hP (by omega) (by omega)
      exact ⟨_, by rw [hjq, e2]; exact e⟩
    obtain ⟨r, hm2⟩ := hmm
    have hw := ex_far d g w hd' T.info fb hfb.symm n pb po pc _ _ _ _ _ _ (by omega) (by omega) h1 (h2 (n - 22) (by omega)) (h2 22 (by decide)) hm hm2 rfl rfl
    rw [htb] at hw
    exact hw.mono fun e w' h => ⟨⟨_, by simpa using h.1⟩, h.2⟩
end Go.Proofs.YtkgcbeokfilehaaGreatDoor

namespace Go.Proofs.YtkgcbeokfilehaaGreatDoor
open Go.RowKit Go.Sort Ieee
attribute [local go_sem] run_ffb run_f64b

/-- The bits that the program gives, without the sign. -/
def bitsD (d : Nat) (x : Int) : Nat := if exOK d x then nearV d x else pfBits d (x + 348).toNat

set_option maxRecDepth 100000 in
set_option maxHeartbeats 1000000 in
theorem at_yes (s : ByteArray) (d : Nat) (x : Int) (g : Bool) (w : World) (v : Nat) (hd : 1 ≤ d) (hx : -300 ≤ x) (hx' : x ≤ 290)
    (hopt : w.cell? ⟨8, 0, none⟩ = some (.bool true))
    (hsp : ∀ w, Calls Tryz.prog 217 #[.string s] w fun e w' => e = .returned (.tuple #[.float .f64 0, .int .i64 0, .bool false]) ∧ w = w')
    (hrf : ∀ w, Calls Tryz.prog 218 #[.string s] w fun e w' => e = .returned (.tuple #[.int .u64 d, .int .i64 x, .bool g, .bool false, .bool false, .int .i64 s.size, .bool true]) ∧ w = w')
    (hex : Calls Tryz.prog 228 #[.int .u64 d, .int .i64 x, .bool g] w fun e w' => e = .returned (.tuple #[.float .f64 v, .bool true]) ∧ w' = w) :
    Calls Tryz.prog 209 #[.string s] w fun e w' => e = .returned (.tuple #[.float .f64 v, .int .i64 s.size, .nilIface]) ∧ Ext w w' := by
  have K1 := Lib.hid hsp
  have K2 := Lib.hid hrf
  have K3 := Lib.hid hex
  clear hsp hrf hex
  have hd0 : ((d : Int) == 0) = false := by rw [beq_eq_false_iff_ne]; omega
  go_enter Tryz.func209, Tryz.ntmps209
  go_wp2_with fail
  refine (K1.out _).mono ?_; rintro e w1 ⟨rfl, rfl⟩
  go_wp2_with fail
  refine (K2.out _).mono ?_; rintro e w2 ⟨rfl, rfl⟩
  go_wp2_with fail
  refine (bool2u_walk _ _).mono ?_; rintro e w3 ⟨rfl, rfl⟩
  go_wp2_with fail
  refine K3.out.mono ?_; rintro e w4 ⟨rfl, rfl⟩
  go_wp2_with fail
  go_ret3
  exact ⟨rfl, Ext.refl _⟩

set_option maxRecDepth 100000 in
set_option maxHeartbeats 1000000 in
theorem at_no (s : ByteArray) (d : Nat) (x : Int) (g : Bool) (w : World) (v sg : Nat) (hd : 1 ≤ d) (hx : -300 ≤ x) (hx' : x ≤ 290)
    (hopt : w.cell? ⟨8, 0, none⟩ = some (.bool true)) (hsg : IntKind.u64.wrap ((g.toNat : Int) * 9223372036854775808) = (sg : Int))
    (hsp : ∀ w, Calls Tryz.prog 217 #[.string s] w fun e w' => e = .returned (.tuple #[.float .f64 0, .int .i64 0, .bool false]) ∧ w = w')
    (hrf : ∀ w, Calls Tryz.prog 218 #[.string s] w fun e w' => e = .returned (.tuple #[.int .u64 d, .int .i64 x, .bool g, .bool false, .bool false, .int .i64 s.size, .bool true]) ∧ w = w')
    (hex : Calls Tryz.prog 228 #[.int .u64 d, .int .i64 x, .bool g] w fun e w' => (∃ v, e = .returned (.tuple #[.float .f64 v, .bool false])) ∧ w' = w)
    (hpf : Calls Tryz.prog 229 #[.int .u64 d, .int .i64 x, .int .u64 sg] w fun e w' => e = .returned (.tuple #[.float .f64 v, .nilIface]) ∧ Ext w w') :
    Calls Tryz.prog 209 #[.string s] w fun e w' => e = .returned (.tuple #[.float .f64 v, .int .i64 s.size, .nilIface]) ∧ Ext w w' := by
  have K1 := Lib.hid hsp
  have K2 := Lib.hid hrf
  have K3 := Lib.hid hex
  have K4 := Lib.hid hpf
  clear hsp hrf hex hpf
  have hd0 : ((d : Int) == 0) = false := by rw [beq_eq_false_iff_ne]; omega
  go_enter Tryz.func209, Tryz.ntmps209
  go_wp2_with fail
  refine (K1.out _).mono ?_; rintro e w1 ⟨rfl, rfl⟩
  go_wp2_with fail
  refine (K2.out _).mono ?_; rintro e w2 ⟨rfl, rfl⟩
  go_wp2_with fail
  refine (bool2u_walk _ _).mono ?_; rintro e w3 ⟨rfl, rfl⟩
  go_wp2_with fail
  refine K3.out.mono ?_; rintro e w4 ⟨⟨u, rfl⟩, rfl⟩
  go_wp2_with fail
  refine K4.out.mono ?_; rintro e w5 ⟨rfl, hw5⟩
  go_wp2_with fail
  go_ret3
  exact ⟨rfl, hw5⟩
end Go.Proofs.YtkgcbeokfilehaaGreatDoor
