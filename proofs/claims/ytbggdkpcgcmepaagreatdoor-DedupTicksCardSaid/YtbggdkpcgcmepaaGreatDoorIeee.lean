/-
  The model's floats (Ieee) against the rounding relation: no program in sight.
-/
import Derived.Test.YtbggdkpcgcmepaaGreatDoorNear
import Derived.Laws.FloatArith
namespace Go.Proofs.YtbggdkpcgcmepaaGreatDoor
open Ieee

theorem dbl_least : double.leastPlace = -1074 := rfl
theorem dbl_binade : double.binade = 4503599627370496 := rfl
theorem dbl_inf : double.infRung = 9218868437227405312 := rfl
theorem dbl_sign : double.signWeight = 9223372036854775808 := rfl

/-- What Ieee writes for mag * 2^(P - 1074), where it is normal. -/
theorem ieee_near (neg : Bool) (mag P : Nat) (h0 : 0 < mag) (hlo : 52 ≤ P + mag.log2) (hhi : P + mag.log2 ≤ 2096) :
    ∃ r, double.nearest neg mag ((P : Int) - 1074) = double.word neg r ∧ Near (mag * 2 ^ P) 1 r ∧ r < 9218868437227405312 := by
  obtain ⟨L, hL⟩ : ∃ L, L = mag.log2 := ⟨_, rfl⟩
  have hlo2 : 2 ^ L ≤ mag := by rw [hL]; exact Nat.log2_self_le (by omega)
  have hhi2 : mag < 2 ^ (L + 1) := by rw [hL]; exact Nat.lt_log2_self
  rw [← hL] at hlo hhi
  obtain ⟨j, hj⟩ : ∃ j, P + L = 52 + j := ⟨P + L - 52, by omega⟩
  have hlast : max ((P : Int) - 1074 + (L : Int) - ((52 : Nat) : Int)) (-1074) = (j : Int) - 1074 := by omega
  have hnum : (j : Int) - 1074 - -1074 = (j : Int) := by omega
  unfold Format.nearest
  rw [if_neg (by omega), ← hL]
  have hfb : double.fractionBits = 52 := rfl
  simp only [hfb, dbl_least, dbl_binade, dbl_inf, hlast, hnum, Int.toNat_natCast]
  rcases Nat.lt_or_ge 52 L with h | h
  · -- digits are dropped
    obtain ⟨e, he⟩ : ∃ e, L = 52 + (e + 1) := ⟨L - 53, by omega⟩
    have e1 : ((P : Int) - 1074 - ((j : Int) - 1074)).toNat = 0 := by omega
    have e2 : ((j : Int) - 1074 - ((P : Int) - 1074)).toNat = e + 1 := by omega
    have hje : j = P + (e + 1) := by omega
    rw [e1, e2]
    unfold Toward.cut
    have hmin : min (e + 1) (mag.log2 + 2) = e + 1 := by
      rw [← hL]; omega
    simp only [Nat.shiftLeft_zero, Nat.one_shiftLeft, hmin]
    obtain ⟨g, hg⟩ : ∃ g, g = 2 ^ (e + 1) := ⟨_, rfl⟩
    have hg0 : 0 < g := by rw [hg]; exact Nat.two_pow_pos _
    rw [← hg]
    have q1 : 4503599627370496 ≤ mag / g := by
      rw [Nat.le_div_iff_mul_le hg0]
      calc 4503599627370496 * g = 2 ^ L := by rw [he, Nat.pow_add, ← hg]
        _ ≤ mag := hlo2
    have q2 : mag / g < 9007199254740992 := by
      rw [Nat.div_lt_iff_lt_mul hg0]
      calc mag < 2 ^ (L + 1) := hhi2
        _ = 9007199254740992 * g := by rw [he, show 52 + (e + 1) + 1 = 53 + (e + 1) by omega, Nat.pow_add, ← hg]
    have hdm : g * (mag / g) + mag % g = mag := Nat.div_add_mod mag g
    have hml : mag % g < g := Nat.mod_lt _ hg0
    have hp0 : 0 < 2 ^ P := Nat.two_pow_pos _
    have hj2 : 2 ^ j * 1 = g * 2 ^ P := by rw [Nat.mul_one, hje, Nat.pow_add, ← hg, Nat.mul_comm]
    have hup : up (mag * 2 ^ P - mag / g * (2 ^ j * 1)) (2 ^ j * 1) (mag / g) = (decide (g < 2 * (mag % g)) || (g == 2 * (mag % g) && mag / g % 2 == 1)).toNat := by
      rw [hj2, ← Nat.mul_assoc, ← Nat.sub_mul, Nat.mul_comm _ (2 ^ P), Nat.mul_comm g (2 ^ P), up_scale _ _ _ _ hp0]
      have : mag - mag / g * g = mag % g := by rw [Nat.mul_comm]; omega
      rw [this]
      unfold up
      by_cases a : g < 2 * (mag % g)
      · simp [a]
      · by_cases b : 2 * (mag % g) = g
        · by_cases c : mag / g % 2 = 1
          · simp [b, c]
          · have : mag / g % 2 = 0 := by omega
            simp [b, this]
        · have : ¬ g = 2 * (mag % g) := fun h => b h.symm
          simp [a, b, beq_eq_false_iff_ne.2 this]
    have hupl := up_le (mag * 2 ^ P - mag / g * (2 ^ j * 1)) (2 ^ j * 1) (mag / g)
    rw [hup] at hupl
    refine ⟨j * 4503599627370496 + mag / g + (decide (g < 2 * (mag % g)) || (g == 2 * (mag % g) && mag / g % 2 == 1)).toNat, ?_, ⟨j, mag / g, q1, q2, ?_, ?_, ?_⟩, ?_⟩
    · rw [Nat.min_eq_left (by omega), Nat.add_assoc]
    · rw [hj2, ← Nat.mul_assoc]; exact Nat.mul_le_mul_right _ (Nat.div_mul_le_self _ _)
    · rw [hj2, ← Nat.mul_assoc]; refine Nat.mul_lt_mul_of_pos_right ?_ hp0
      rw [Nat.add_mul, Nat.one_mul, Nat.mul_comm]; omega
    · rw [hup]
    · omega
  · -- all digits are kept
    have e1 : ((P : Int) - 1074 - ((j : Int) - 1074)).toNat = 52 - L := by omega
    have e2 : ((j : Int) - 1074 - ((P : Int) - 1074)).toNat = 0 := by omega
    rw [e1, e2]
    have hcut : Toward.even.cut neg (mag <<< (52 - L)) 0 = mag <<< (52 - L) := by
      unfold Toward.cut
      simp [Nat.mod_one]
    rw [hcut, Nat.shiftLeft_eq]
    have hP : P = j + (52 - L) := by omega
    have q1 : 4503599627370496 ≤ mag * 2 ^ (52 - L) := by
      calc 4503599627370496 = 2 ^ L * 2 ^ (52 - L) := by rw [← Nat.pow_add, show L + (52 - L) = 52 by omega]
        _ ≤ _ := Nat.mul_le_mul_right _ hlo2
    have q2 : mag * 2 ^ (52 - L) < 9007199254740992 := by
      calc mag * 2 ^ (52 - L) < 2 ^ (L + 1) * 2 ^ (52 - L) := Nat.mul_lt_mul_of_pos_right hhi2 (Nat.two_pow_pos _)
        _ = 9007199254740992 := by rw [← Nat.pow_add, show L + 1 + (52 - L) = 53 by omega]
    have hm : mag * 2 ^ P = mag * 2 ^ (52 - L) * (2 ^ j * 1) := by rw [Nat.mul_one, hP, Nat.pow_add, Nat.mul_comm (2 ^ j), Nat.mul_assoc]
    refine ⟨j * 4503599627370496 + mag * 2 ^ (52 - L), ?_, ⟨j, mag * 2 ^ (52 - L), q1, q2, ?_, ?_, ?_⟩, ?_⟩
    · rw [Nat.min_eq_left (by omega)]
    · rw [hm]; exact Nat.le_refl _
    · rw [hm, Nat.add_mul]; have : 0 < 2 ^ j * 1 := by rw [Nat.mul_one]; exact Nat.two_pow_pos _
      omega
    · have : 0 < 2 ^ j * 1 := by rw [Nat.mul_one]; exact Nat.two_pow_pos _
      have hu : ∀ q, up 0 (2 ^ j * 1) q = 0 := fun q => by unfold up; rw [if_neg (by omega)]
      rw [hm, Nat.sub_self, hu, Nat.add_zero]
    · omega

/-- What a normal word stands for. -/
theorem ieee_read (neg : Bool) (j q : Nat) (h1 : 4503599627370496 ≤ q) (h2 : q < 9007199254740992) (hj : j ≤ 2045) :
    double.read (double.word neg (j * 4503599627370496 + q)) = .number neg q ((j : Int) - 1074) := by
  have hr : j * 4503599627370496 + q < 9218868437227405312 := by omega
  have e1 : double.word neg (j * 4503599627370496 + q) / 9223372036854775808 % 2 = neg.toNat := by
    unfold Format.word; rw [dbl_sign]; cases neg <;> simp <;> omega
  have e2 : double.word neg (j * 4503599627370496 + q) % 9223372036854775808 = j * 4503599627370496 + q := by
    unfold Format.word; rw [dbl_sign]; cases neg <;> simp <;> omega
  unfold Format.read
  simp only [dbl_sign, dbl_binade, dbl_inf, dbl_least, e1, e2]
  rw [if_neg (by omega), if_pos hr]
  have e3 : (j * 4503599627370496 + q) / 4503599627370496 - 1 = j := by omega
  have e4 : 4503599627370496 + (j * 4503599627370496 + q) % 4503599627370496 = q := by omega
  rw [e3, e4]
  have : ((neg.toNat : Nat) == 1) = neg := by cases neg <;> rfl
  rw [this, show (-1074 : Int) + (j : Int) = (j : Int) - 1074 from by omega]
end Go.Proofs.YtbggdkpcgcmepaaGreatDoor
