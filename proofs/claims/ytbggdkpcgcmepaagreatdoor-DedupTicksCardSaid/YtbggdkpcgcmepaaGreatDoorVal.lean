/-
  The bits of d times ten to the power of x: what exact steps give. No program in sight.
-/
import Derived.Test.YtbggdkpcgcmepaaGreatDoorIee2
namespace Go.Proofs.YtbggdkpcgcmepaaGreatDoor
open Ieee

/-- The bits, without the sign, of the double that is nearest to d times ten to the power of x. -/
def nearV (d : Nat) (x : Int) : Nat := if 0 ≤ x then nearOf (d * 10 ^ x.toNat * 2 ^ E0) 1 else nearOf (d * 2 ^ E0) (10 ^ (-x).toNat)

theorem near_prop {N D r N' D' : Nat} (h : Near N D r) (hp : N * D' = N' * D) (hD' : 0 < D') (hb : 4503599627370496 * D' ≤ N') : r = nearOf N' D' := by
  have hD : 0 < D := by
    obtain ⟨j, q, h1, h2, h3, h4, h5⟩ := h
    rcases Nat.eq_zero_or_pos D with hD | hD
    · rw [hD] at h4; simp at h4
    · exact hD
  have a := h.scale D' hD'
  have b := (nearOf_near N' D' hD' ((Nat.le_div_iff_mul_le hD').2 hb)).scale D hD
  rw [show D' * N = D * N' from by rw [Nat.mul_comm, hp, Nat.mul_comm], Nat.mul_comm D' D] at a
  exact a.unique b

/-- f is the whole number N / 2^E0, in the format as it is. -/
def Rep (g : Bool) (f N : Nat) : Prop := ∃ j q, f = double.word g (j * 4503599627370496 + q) ∧ 4503599627370496 ≤ q ∧ q < 9007199254740992 ∧ q * 2 ^ j = N ∧ 999 ≤ j ∧ j ≤ 1099
theorem near_exact {j q : Nat} (h1 : 4503599627370496 ≤ q) (h2 : q < 9007199254740992) : Near (q * 2 ^ j) 1 (j * 4503599627370496 + q) := by
  have h0 := Nat.two_pow_pos j
  refine ⟨j, q, h1, h2, by rw [Nat.mul_one]; exact Nat.le_refl _, by rw [Nat.mul_one, Nat.add_mul]; omega, ?_⟩
  rw [Nat.mul_one, Nat.sub_self]; unfold up; rw [if_neg (by omega), Nat.add_zero]
theorem Rep.eq {g : Bool} {f N : Nat} (h : Rep g f N) : f = double.word g (nearOf N 1) := by
  obtain ⟨j, q, rfl, h1, h2, rfl, _, _⟩ := h
  rw [← (near_exact h1 h2).eq_nearOf]
theorem rep_int (d : Nat) (g : Bool) (h0 : 1 ≤ d) (h : d < 9007199254740992) : Rep g (if g then Op.negFloat .f64 (floatOfInt .f64 d) else floatOfInt .f64 d) (d * 2 ^ E0) := by
  obtain ⟨j, q, e, h1, h2, h3, h4, h5⟩ := int_float d h0 h
  refine ⟨j, q, ?_, h1, h2, h3, by omega, by omega⟩
  cases g
  · simp only [Bool.false_eq_true, if_false]; rw [e]
  · simp only [if_true]; rw [e, neg_word _ (by omega)]
theorem rep_pow (i : Nat) (hi : i ≤ 22) : Rep false (P10.getD i 0) (10 ^ i * 2 ^ E0) := by
  obtain ⟨j, q, e, h1, h2, h3, h4, h5⟩ := P10_ok i hi
  exact ⟨j, q, e, h1, h2, h3, h4, h5⟩

theorem E0_big : 4503599627370496 * 10 ^ 22 ≤ 2 ^ E0 := by
  rw [E0_eq]; decide +kernel
/-- The product of two exact ones. -/
theorem rep_mul {g : Bool} {f p A B : Nat} (hf : Rep g f (A * 2 ^ E0)) (hp : Rep false p (B * 2 ^ E0)) (hA : 1 ≤ A) (hB : 1 ≤ B) :
    floatBits .mul .f64 f p = some (double.word g (nearOf (A * B * 2 ^ E0) 1)) := by
  obtain ⟨j1, q1, rfl, a1, a2, a3, a4, a5⟩ := hf
  obtain ⟨j2, q2, rfl, b1, b2, b3, b4, b5⟩ := hp
  obtain ⟨P, hP⟩ : ∃ P, j1 + j2 = P + 1074 := ⟨j1 + j2 - 1074, by omega⟩
  obtain ⟨r, e, hn, _⟩ := mul_near g j1 q1 j2 q2 P a1 a2 b1 b2 hP (by omega) (by omega)
  rw [e]
  congr 2
  refine near_prop hn ?_ (by decide) ?_
  · rw [Nat.mul_one, Nat.mul_one]
    apply Nat.eq_of_mul_eq_mul_right (Nat.two_pow_pos E0)
    calc q1 * q2 * 2 ^ P * 2 ^ E0 = q1 * q2 * 2 ^ (j1 + j2) := by rw [Nat.mul_assoc, ← Nat.pow_add, hP, E0_eq]
      _ = (q1 * 2 ^ j1) * (q2 * 2 ^ j2) := by rw [Nat.pow_add, Nat.mul_mul_mul_comm]
      _ = A * B * 2 ^ E0 * 2 ^ E0 := by rw [a3, b3, Nat.mul_mul_mul_comm, Nat.mul_assoc (A * B)]
  · rw [Nat.mul_one]
    calc 4503599627370496 ≤ 2 ^ E0 := Nat.le_trans (by decide) E0_big
      _ ≤ A * B * 2 ^ E0 := Nat.le_mul_of_pos_left _ (Nat.mul_pos hA hB)
/-- The quotient of two exact ones. -/
theorem rep_div {g : Bool} {f p A B : Nat} (hf : Rep g f (A * 2 ^ E0)) (hp : Rep false p (B * 2 ^ E0)) (hA : 1 ≤ A) (hB : 1 ≤ B) (hB2 : B ≤ 10 ^ 22) :
    floatBits .quo .f64 f p = some (double.word g (nearOf (A * 2 ^ E0) B)) := by
  obtain ⟨j1, q1, rfl, a1, a2, a3, a4, a5⟩ := hf
  obtain ⟨j2, q2, rfl, b1, b2, b3, b4, b5⟩ := hp
  obtain ⟨P, hP⟩ : ∃ P, j1 + 1019 = P + j2 := ⟨j1 + 1019 - j2, by omega⟩
  obtain ⟨r, e, hn, _⟩ := div_near g j1 q1 j2 q2 P a1 a2 b1 b2 hP (by omega) (by omega) (by omega)
  rw [e]
  congr 2
  refine near_prop hn ?_ hB ?_
  · apply Nat.eq_of_mul_eq_mul_right (Nat.two_pow_pos j2)
    have h55 : 2 * (q1 * 2 ^ 54) * 2 ^ P * 2 ^ j2 = (q1 * 2 ^ j1) * 2 ^ E0 := by
      calc 2 * (q1 * 2 ^ 54) * 2 ^ P * 2 ^ j2 = q1 * (2 ^ 55 * 2 ^ P * 2 ^ j2) := by
            rw [Nat.mul_left_comm, ← Nat.pow_succ', Nat.mul_assoc q1, Nat.mul_assoc q1]
        _ = q1 * (2 ^ j1 * 2 ^ E0) := by
            congr 1
            rw [← Nat.pow_add, ← Nat.pow_add, ← Nat.pow_add]
            congr 1
            have := E0_eq
            omega
        _ = _ := by rw [Nat.mul_assoc]
    calc 2 * (q1 * 2 ^ 54) * 2 ^ P * B * 2 ^ j2 = 2 * (q1 * 2 ^ 54) * 2 ^ P * 2 ^ j2 * B := by rw [Nat.mul_right_comm]
      _ = A * 2 ^ E0 * (B * 2 ^ E0) := by rw [h55, a3, Nat.mul_assoc (A * 2 ^ E0), Nat.mul_comm (2 ^ E0) B]
      _ = A * 2 ^ E0 * q2 * 2 ^ j2 := by rw [← b3, Nat.mul_assoc (A * 2 ^ E0)]
  · calc 4503599627370496 * B ≤ 4503599627370496 * 10 ^ 22 := Nat.mul_le_mul_left _ hB2
      _ ≤ 2 ^ E0 := E0_big
      _ ≤ A * 2 ^ E0 := Nat.le_mul_of_pos_left _ hA

theorem cancel_min {j1 q1 j2 q2 : Nat} : q1 * 2 ^ j1 < q2 * 2 ^ j2 ↔ q1 * 2 ^ (j1 - min j1 j2) < q2 * 2 ^ (j2 - min j1 j2) := by
  have e1 : q1 * 2 ^ j1 = q1 * 2 ^ (j1 - min j1 j2) * 2 ^ (min j1 j2) := by rw [Nat.mul_assoc, ← Nat.pow_add, Nat.sub_add_cancel (Nat.min_le_left _ _)]
  have e2 : q2 * 2 ^ j2 = q2 * 2 ^ (j2 - min j1 j2) * 2 ^ (min j1 j2) := by rw [Nat.mul_assoc, ← Nat.pow_add, Nat.sub_add_cancel (Nat.min_le_right _ _)]
  rw [e1, e2]
  exact Nat.mul_lt_mul_right (Nat.two_pow_pos _)

theorem cmp_lt {a b : Int} (h : a < b) : compare a b = .lt := by
  show compareOfLessAndEq a b = _
  unfold compareOfLessAndEq; rw [if_pos h]
theorem cmp_gt {a b : Int} (h : b < a) : compare a b = .gt := by
  show compareOfLessAndEq a b = _
  unfold compareOfLessAndEq; rw [if_neg (by omega), if_neg (by omega)]
theorem cmp_not_gt {a b : Int} (h : a ≤ b) : compare a b ≠ .gt := by
  rcases Int.lt_or_eq_of_le h with h | rfl
  · rw [cmp_lt h]; decide
  · show compareOfLessAndEq a a ≠ _
    unfold compareOfLessAndEq; rw [if_neg (by omega), if_pos rfl]; decide
theorem cmp_not_lt {a b : Int} (h : b ≤ a) : compare a b ≠ .lt := by
  rcases Int.lt_or_eq_of_le h with h | rfl
  · rw [cmp_gt h]; decide
  · show compareOfLessAndEq b b ≠ _
    unfold compareOfLessAndEq; rw [if_neg (by omega), if_pos rfl]; decide
theorem signed_false (m : Nat) : signed false m 0 = (m : Int) := by simp [signed]
theorem signed_true (m : Nat) : signed true m 0 = -(m : Int) := by simp [signed]
theorem neg15 : (14054727237768577024 : Nat) = double.word true (4831355200913801216) := by decide
theorem pos15 : (4831355200913801216 : Nat) = double.word false (4831355200913801216) := by decide

/-- A word against 10^15 and its opposite. -/
theorem order15 (g : Bool) (j q : Nat) (h1 : 4503599627370496 ≤ q) (h2 : q < 9007199254740992) (hj : j ≤ 2045) :
    (q * 2 ^ j < 1000000000000000 * 2 ^ E0 → FloatKind.f64.format.order (double.word g (j * 4503599627370496 + q)) 4831355200913801216 = some .lt ∧ FloatKind.f64.format.order (double.word g (j * 4503599627370496 + q)) 14054727237768577024 = some .gt) ∧
    (1000000000000000 * 2 ^ E0 < q * 2 ^ j → (FloatKind.f64.format.order (double.word g (j * 4503599627370496 + q)) 4831355200913801216 == some .gt || FloatKind.f64.format.order (double.word g (j * 4503599627370496 + q)) 14054727237768577024 == some .lt) = true) ∧
    (q * 2 ^ j ≤ 1000000000000000 * 2 ^ E0 → (FloatKind.f64.format.order (double.word g (j * 4503599627370496 + q)) 4831355200913801216 == some .gt || FloatKind.f64.format.order (double.word g (j * 4503599627370496 + q)) 14054727237768577024 == some .lt) = false) := by
  obtain ⟨j2, q2, e, b1, b2, b3, b4, b5⟩ := rep_pow 15 (by decide)
  have hw : (4831355200913801216 : Nat) = double.word false (j2 * 4503599627370496 + q2) := e
  have hr : (4831355200913801216 : Nat) = j2 * 4503599627370496 + q2 := hw
  have hw2 : (14054727237768577024 : Nat) = double.word true (j2 * 4503599627370496 + q2) := by rw [neg15, ← hr]
  rw [hw2]
  have o1 := order_words g false j q j2 q2 h1 h2 b1 b2 hj (by omega)
  have o2 := order_words g true j q j2 q2 h1 h2 b1 b2 hj (by omega)
  rw [← hw] at o1
  rw [o1, o2, show (1000000000000000 : Nat) = 10 ^ 15 from by decide, ← b3]
  have k1 := cancel_min (j1 := j) (q1 := q) (j2 := j2) (q2 := q2)
  have k2 := cancel_min (j1 := j2) (q1 := q2) (j2 := j) (q2 := q)
  rw [Nat.min_comm j2 j] at k2
  have p1 : 0 < q * 2 ^ (j - min j j2) := Nat.mul_pos (by omega) (Nat.two_pow_pos _)
  have p2 : 0 < q2 * 2 ^ (j2 - min j j2) := Nat.mul_pos (by omega) (Nat.two_pow_pos _)
  generalize q * 2 ^ (j - min j j2) = A at *
  generalize q2 * 2 ^ (j2 - min j j2) = B at *
  refine ⟨fun h => ?_, fun h => ?_, fun h => ?_⟩
  · have := k1.1 h
    cases g
    · rw [signed_false, signed_false, signed_true, cmp_lt (by omega), cmp_gt (by omega)]; exact ⟨rfl, rfl⟩
    · rw [signed_true, signed_false, signed_true, cmp_lt (by omega), cmp_gt (by omega)]; exact ⟨rfl, rfl⟩
  · have := k2.1 h
    cases g
    · rw [signed_false, signed_false, cmp_gt (by omega)]; rfl
    · rw [signed_true, signed_true, cmp_lt (a := -(A : Int)) (b := -(B : Int)) (by omega)]; simp
  · have hAB : A ≤ B := Nat.le_of_not_lt (fun c => absurd (k2.2 c) (by omega))
    cases g
    · have a := cmp_not_gt (a := (A : Int)) (b := (B : Int)) (by omega)
      have b := cmp_gt (a := (A : Int)) (b := -(B : Int)) (by omega)
      rw [signed_false, signed_false, signed_true, b]
      simp [a]
    · have a := cmp_lt (a := -(A : Int)) (b := (B : Int)) (by omega)
      have b := cmp_not_lt (a := -(A : Int)) (b := -(B : Int)) (by omega)
      rw [signed_true, signed_false, signed_true, a]
      simp [b]
end Go.Proofs.YtbggdkpcgcmepaaGreatDoor
