/-
  Products, quotients and comparisons of the model's floats against the rounding relation: no program in sight.
-/
import Derived.Test.YtbggdkpcgcmepaaGreatDoorIeee
namespace Go.Proofs.YtbggdkpcgcmepaaGreatDoor
open Ieee

/-- The floats 10^0 to 10^22. -/
def P10 : List Nat := [4607182418800017408, 4621819117588971520, 4636737291354636288, 4652007308841189376, 4666723172467343360, 4681608360884174848, 4696837146684686336, 4711630319722168320, 4726483295884279808, 4741671816366391296, 4756540486875873280, 4771362005757984768, 4786511204640096256, 4801453603149578240, 4816244402031689728, 4831355200913801216, 4846369599423283200, 4861130398305394688, 4876203697187506176, 4891288408196988160, 4906019910204099648, 4921056587992461136, 4936209963552724370]
theorem P10_all : ((List.range 23).all fun i => decide (P10.getD i 0 / 4503599627370496 ≤ 1100) && decide (1000 ≤ P10.getD i 0 / 4503599627370496) && ((4503599627370496 + P10.getD i 0 % 4503599627370496) * 2 ^ (P10.getD i 0 / 4503599627370496 - 1) == 10 ^ i * 2 ^ E0)) = true := by decide +kernel
theorem P10_ok (i : Nat) (hi : i ≤ 22) : ∃ j q, P10.getD i 0 = double.word false (j * 4503599627370496 + q) ∧ 4503599627370496 ≤ q ∧ q < 9007199254740992 ∧ q * 2 ^ j = 10 ^ i * 2 ^ E0 ∧ 999 ≤ j ∧ j ≤ 1099 := by
  have h := List.all_eq_true.1 P10_all i (List.mem_range.2 (by omega))
  simp only [Bool.and_eq_true, decide_eq_true_eq, beq_iff_eq] at h
  generalize P10.getD i 0 = p at *
  refine ⟨p / 4503599627370496 - 1, 4503599627370496 + p % 4503599627370496, ?_, by omega, by omega, h.2, by omega, by omega⟩
  unfold Format.word
  simp only [Bool.false_eq_true, if_false]
  omega

/-- A whole number below 2^53 is a float as it is. -/
theorem int_float (d : Nat) (h0 : 1 ≤ d) (h : d < 9007199254740992) : ∃ j q, floatOfInt .f64 d = double.word false (j * 4503599627370496 + q) ∧ 4503599627370496 ≤ q ∧ q < 9007199254740992 ∧ q * 2 ^ j = d * 2 ^ E0 ∧ 1022 ≤ j ∧ j ≤ 1074 := by
  have hE := E0_eq
  have hl2 : d.log2 ≤ 52 := by
    rcases Nat.lt_or_ge 52 d.log2 with h1 | h1
    · have := (Nat.le_log2 (by omega)).1 (show 53 ≤ d.log2 from h1); omega
    · exact h1
  obtain ⟨r, e, ⟨j, q, n1, n2, n3, n4, n5⟩, hr⟩ := ieee_near false d E0 (by omega) (by omega) (by omega)
  rw [Nat.mul_one] at n3 n4
  have hj : j ≤ E0 := by
    rcases Nat.lt_or_ge E0 j with h1 | h1
    · exfalso
      have a : 4503599627370496 * 2 ^ (E0 + 1) ≤ q * 2 ^ j := Nat.mul_le_mul n1 (Nat.pow_le_pow_right (by decide) h1)
      have b : d * 2 ^ E0 < 9007199254740992 * 2 ^ E0 := Nat.mul_lt_mul_of_pos_right h (Nat.two_pow_pos _)
      have c : 2 ^ (E0 + 1) = 2 * 2 ^ E0 := by rw [Nat.pow_succ 2 E0, Nat.mul_comm]
      rw [c, ← Nat.mul_assoc] at a
      generalize 2 ^ E0 = z at *
      generalize q * 2 ^ j = y at *
      omega
    · exact h1
  have hex : q * 2 ^ j = d * 2 ^ E0 := by
    obtain ⟨t, ht⟩ : ∃ t, E0 = t + j := ⟨E0 - j, by omega⟩
    rw [ht, Nat.pow_add, ← Nat.mul_assoc] at n3 n4 ⊢
    have a := Nat.le_of_mul_le_mul_right n3 (Nat.two_pow_pos j)
    have b := Nat.lt_of_mul_lt_mul_right n4
    congr 1; omega
  have hj2 : 1022 ≤ j := by
    rcases Nat.lt_or_ge j 1022 with h1 | h1
    · exfalso
      obtain ⟨F, hF⟩ : ∃ F, F = 1021 := ⟨_, rfl⟩
      have a : q * 2 ^ j < 9007199254740992 * 2 ^ F := Nat.lt_of_lt_of_le (Nat.mul_lt_mul_of_pos_right n2 (Nat.two_pow_pos _)) (Nat.mul_le_mul_left _ (Nat.pow_le_pow_right (by decide) (by omega)))
      have hEF : E0 = 53 + F := by omega
      have b : 1 * 2 ^ (53 + F) ≤ d * 2 ^ E0 := by rw [hEF]; exact Nat.mul_le_mul_right _ h0
      rw [Nat.one_mul, Nat.pow_add] at b
      rw [hex] at a
      have c : (2 : Nat) ^ 53 = 9007199254740992 := by decide
      rw [c] at b
      generalize 9007199254740992 * 2 ^ F = z at *
      generalize d * 2 ^ E0 = y at *
      omega
    · exact h1
  refine ⟨j, q, ?_, n1, n2, hex, hj2, by omega⟩
  have hup : up (d * 2 ^ E0 - q * (2 ^ j * 1)) (2 ^ j * 1) q = 0 := by
    rw [Nat.mul_one, hex, Nat.sub_self]; unfold up; have := Nat.two_pow_pos j; rw [if_neg (by omega)]
  rw [hup, Nat.add_zero] at n5
  rw [← n5, ← e]
  show double.nearest (decide ((d : Int) < 0)) (d : Int).natAbs 0 = _
  rw [show decide ((d : Int) < 0) = false from by simp, Int.natAbs_natCast, show ((E0 : Nat) : Int) - 1074 = 0 from by omega]

theorem xor63 (r : Nat) (h : r < 9223372036854775808) : r ^^^ 2 ^ 63 = 9223372036854775808 + r := by
  have hx : (9223372036854775808 : Nat) = 2 ^ 63 := by decide
  rw [hx] at h ⊢
  apply Nat.eq_of_testBit_eq
  intro i
  rw [Nat.testBit_xor, Nat.testBit_two_pow]
  rcases Nat.lt_trichotomy i 63 with hi | rfl | hi
  · rw [Nat.testBit_two_pow_add_gt hi, show decide (63 = i) = false from by simp; omega, Bool.xor_false]
  · rw [Nat.testBit_two_pow_add_eq]; simp
  · have a : r.testBit i = false := Nat.testBit_lt_two_pow (Nat.lt_trans h (Nat.pow_lt_pow_right (by decide) hi))
    have b : (2 ^ 63 + r).testBit i = false := Nat.testBit_lt_two_pow (Nat.lt_of_lt_of_le (show 2 ^ 63 + r < 2 ^ 64 by omega) (Nat.pow_le_pow_right (by decide) hi))
    rw [a, b, show decide (63 = i) = false from by simp; omega]; rfl

theorem neg_word (r : Nat) (h : r < 9223372036854775808) : Op.negFloat .f64 (double.word false r) = double.word true r := by
  show r ^^^ 2 ^ 63 = _
  rw [xor63 r h]; rfl

theorem log2_q {q : Nat} (h1 : 4503599627370496 ≤ q) (h2 : q < 9007199254740992) : q.log2 = 52 := by
  have a := (Nat.le_log2 (n := q) (by omega)).2 (show 2 ^ 52 ≤ q from h1)
  have b := (Nat.log2_lt (n := q) (by omega)).2 (show q < 2 ^ 53 from h2)
  omega

/-- The product of two normal floats. -/
theorem mul_near (g : Bool) (j1 q1 j2 q2 P : Nat) (a1 : 4503599627370496 ≤ q1) (a2 : q1 < 9007199254740992) (b1 : 4503599627370496 ≤ q2) (b2 : q2 < 9007199254740992) (hj : j1 + j2 = P + 1074) (hj1 : j1 ≤ 1500) (hj2 : j2 ≤ 1500) :
    ∃ r, floatBits .mul .f64 (double.word g (j1 * 4503599627370496 + q1)) (double.word false (j2 * 4503599627370496 + q2)) = some (double.word g r) ∧ Near (q1 * q2 * 2 ^ P) 1 r ∧ r < 9218868437227405312 := by
  have c1 : 104 ≤ (q1 * q2).log2 := (Nat.le_log2 (n := q1 * q2) (Nat.pos_iff_ne_zero.1 (Nat.mul_pos (by omega) (by omega)))).2 (Nat.le_trans (by decide) (Nat.mul_le_mul a1 b1))
  have c2 : (q1 * q2).log2 < 106 := (Nat.log2_lt (n := q1 * q2) (Nat.pos_iff_ne_zero.1 (Nat.mul_pos (by omega) (by omega)))).2 (Nat.lt_of_lt_of_le (Nat.mul_lt_mul'' a2 b2) (by decide))
  obtain ⟨r, e, hn, hr⟩ := ieee_near g (q1 * q2) P (Nat.mul_pos (by omega) (by omega)) (by omega) (by omega)
  refine ⟨r, ?_, hn, hr⟩
  show ((double.read _).product (double.read _)).map double.write = _
  rw [ieee_read g j1 q1 a1 a2 (by omega), ieee_read false j2 q2 b1 b2 (by omega)]
  simp only [Datum.product, Option.map_some, Format.write, Bool.xor_false]
  rw [← e]
  congr 2
  omega

/-- The quotient of two normal floats. -/
theorem div_near (g : Bool) (j1 q1 j2 q2 P : Nat) (a1 : 4503599627370496 ≤ q1) (a2 : q1 < 9007199254740992) (b1 : 4503599627370496 ≤ q2) (b2 : q2 < 9007199254740992) (hj : j1 + 1019 = P + j2) (hP : P ≤ 1500) (hj1 : j1 ≤ 1500) (hj2 : j2 ≤ 1500) :
    ∃ r, floatBits .quo .f64 (double.word g (j1 * 4503599627370496 + q1)) (double.word false (j2 * 4503599627370496 + q2)) = some (double.word g r) ∧ Near (2 * (q1 * 2 ^ 54) * 2 ^ P) q2 r ∧ r < 9218868437227405312 := by
  obtain ⟨t, ht⟩ : ∃ t, t = 2 * (q1 * 2 ^ 54 / q2) + (if q1 * 2 ^ 54 % q2 = 0 then 0 else 1) := ⟨_, rfl⟩
  have d1 : 9007199254740992 ≤ q1 * 2 ^ 54 / q2 := by
    rw [Nat.le_div_iff_mul_le (by omega)]
    calc 9007199254740992 * q2 ≤ 9007199254740992 * 9007199254740992 := Nat.mul_le_mul_left _ (by omega)
      _ = 4503599627370496 * 2 ^ 54 := by decide
      _ ≤ q1 * 2 ^ 54 := Nat.mul_le_mul_right _ a1
  have d2 : q1 * 2 ^ 54 / q2 ≤ 36028797018963968 := by
    apply Nat.div_le_of_le_mul
    calc q1 * 2 ^ 54 ≤ 9007199254740992 * 2 ^ 54 := Nat.mul_le_mul_right _ (by omega)
      _ = 4503599627370496 * 36028797018963968 := by decide
      _ ≤ q2 * 36028797018963968 := Nat.mul_le_mul_right _ b1
  have t1 : 18014398509481984 ≤ t := by omega
  have t2 : t < 144115188075855872 := by split at ht <;> omega
  have c1 : 54 ≤ t.log2 := (Nat.le_log2 (by omega)).2 t1
  have c2 : t.log2 < 57 := (Nat.log2_lt (by omega)).2 t2
  obtain ⟨r, e, hn, hr⟩ := ieee_near g t P (by omega) (by omega) (by omega)
  refine ⟨r, ?_, near_sticky (by omega) ht t1 hn, hr⟩
  show ((double.read _).quotient (double.fractionBits + 2) (double.read _)).map double.write = _
  rw [ieee_read g j1 q1 a1 a2 (by omega), ieee_read false j2 q2 b1 b2 (by omega)]
  have hmore : double.fractionBits + 2 + q2.log2 - q1.log2 = 54 := by rw [log2_q a1 a2, log2_q b1 b2]; decide
  simp only [Datum.quotient, hmore, Bool.xor_false]
  rw [if_neg (by omega)]
  simp only [Option.map_some, Format.write, Nat.shiftLeft_eq]
  have hs : (q1 * 2 ^ 54 % q2 != 0).toNat = if q1 * 2 ^ 54 % q2 = 0 then 0 else 1 := by
    by_cases h : q1 * 2 ^ 54 % q2 = 0
    · rw [h]; rfl
    · rw [if_neg h, show (q1 * 2 ^ 54 % q2 != 0) = true from by simp [h]]; rfl
  rw [hs, ← ht, ← e]
  congr 2
  omega

/-- How two normal floats stand to each other. -/
theorem order_words (g h : Bool) (j1 q1 j2 q2 : Nat) (a1 : 4503599627370496 ≤ q1) (a2 : q1 < 9007199254740992) (b1 : 4503599627370496 ≤ q2) (b2 : q2 < 9007199254740992) (hj1 : j1 ≤ 2045) (hj2 : j2 ≤ 2045) :
    FloatKind.f64.format.order (double.word g (j1 * 4503599627370496 + q1)) (double.word h (j2 * 4503599627370496 + q2)) =
      some (compare (signed g (q1 * 2 ^ (j1 - min j1 j2)) 0) (signed h (q2 * 2 ^ (j2 - min j1 j2)) 0)) := by
  show (double.read _).order (double.read _) = _
  rw [ieee_read g j1 q1 a1 a2 hj1, ieee_read h j2 q2 b1 b2 hj2]
  have e1 : ((j1 : Int) - 1074 - min ((j1 : Int) - 1074) ((j2 : Int) - 1074)).toNat = j1 - min j1 j2 := by omega
  have e2 : ((j2 : Int) - 1074 - min ((j1 : Int) - 1074) ((j2 : Int) - 1074)).toNat = j2 - min j1 j2 := by omega
  simp only [Datum.order, e1, e2, signed, Nat.shiftLeft_eq, Nat.pow_zero, Nat.mul_one]
end Go.Proofs.YtbggdkpcgcmepaaGreatDoor
