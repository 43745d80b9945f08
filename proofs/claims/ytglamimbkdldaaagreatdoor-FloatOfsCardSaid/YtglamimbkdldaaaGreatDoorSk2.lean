/-
  Powers of two, whose step below is half as wide: each exponent is tried by the kernel. No program in sight.
-/
import Derived.Test.YtglamimbkdldaaaGreatDoorSh2
namespace Go.Proofs.YtglamimbkdldaaaGreatDoor
open Go.RowKit Go.Sort

/-- Where the powers' table is read for the double 2^(q - 1023), and uscale's shift. -/
def skP (q : Nat) : Nat := (348 - (((q : Int) - 1075) * 631305 - 261663) / 2097152).toNat
def skL (q : Nat) : Int := ((skP q : Int) - 348) * 108853 / 32768
def skS (q : Nat) : Nat := (1083 - (q : Int) - skL q).toNat
def skU0 (q : Nat) : Nat := uscS 9223372036854775296 (tabHi (skP q)) (tabLo (skP q)) (skS q)
def skU1 (q : Nat) : Nat := uscS 9223372036854776832 (tabHi (skP q)) (tabLo (skP q)) (skS q)
def skU2 (q : Nat) : Nat := uscS 9223372036854775808 (tabHi (skP q)) (tabLo (skP q)) (skS q)
def skChk (q P s N M w U0 U1 U2 a b d : Nat) (L : Int) : Bool :=
  decide ((P : Int) = 348 - (((q : Int) - 1075) * 631305 - 261663) / 2097152) && decide ((s : Int) = 1083 - (q : Int) - L) && decide (s ≤ 8) && decide (P ≤ 672) && decide (4 ≤ U0) && decide (U0 < 1000000000000000000) && decide (4 ≤ U1) && decide (U1 < 1000000000000000000) && decide (U2 < 1000000000000000000) &&
  decide (M ≤ w) && decide (1 ≤ a) && decide (18014398509481983 * w ≤ 4 * a * M) && decide (4 * (a - 1) * M < 18014398509481983 * w) && decide (2 * b * M ≤ 9007199254740993 * w) && decide (9007199254740993 * w < 2 * (b + 1) * M) && decide (w = 2 ^ (8 - s) * N) &&
  (if a ≤ b / 10 * 10 then decide (b < a + 10) && decide (10 ≤ b) else decide (d % 10 ≠ 0) && decide (1000000000000000 ≤ d))
def skOk (q : Nat) : Bool :=
  skChk q (skP q) (skS q) (NP (skP q)) (MP (skP q)) (2 ^ (8 - skS q) * NP (skP q)) (skU0 q) (skU1 q) (skU2 q) ((skU0 q + 3) / 4) (skU1 q / 4) (if (skU0 q + 3) / 4 < skU1 q / 4 then (skU2 q + 1 + skU2 q / 4 % 2) / 4 else (skU0 q + 3) / 4) (skL q)
theorem sk_all : ((List.range 2045).all fun i => skOk (i + 2)) = true := by decide +kernel
end Go.Proofs.YtglamimbkdldaaaGreatDoor

namespace Go.Proofs.YtglamimbkdldaaaGreatDoor
open Go.RowKit Go.Sort

def InS (w M n : Nat) : Prop := 18014398509481983 * w ≤ 4 * n * M ∧ 2 * n * M ≤ 9007199254740993 * w
theorem inS_near {j P s a t : Nat} {b : Int} (hs : s ≤ 8) (hb : b + ((P : Int) - 348) = t) (hE : ScaleAt (j + 1) P s) :
    InS (2 ^ (8 - s) * NP P) (MP P) (a * 10 ^ t) ↔ Near (vN a b) (vD b) ((j + 1) * 4503599627370496 + 4503599627370496) := by
  have hz : 0 < 2 ^ (8 - s) * NP P := Nat.mul_pos (Nat.two_pow_pos _) (NP_pos P)
  have hz' : 0 < 2 ^ (j + 1) * vD b := Nat.mul_pos (Nat.two_pow_pos _) (vD_pos b)
  have hx := scale_law a b t (j + 1) P s hs hb hE
  have hx4 : 4 * (a * 10 ^ t) * MP P * (2 ^ (j + 1) * vD b) = 4 * vN a b * (2 ^ (8 - s) * NP P) := by
    have e1 : ∀ x y z : Nat, 4 * x * y * z = 2 * (2 * x * y * z) := fun x y z => by
      rw [show (4 : Nat) = 2 * 2 from rfl]; simp only [Nat.mul_assoc]
    have e2 : ∀ x y : Nat, 4 * x * y = 2 * (2 * x * y) := fun x y => by
      rw [show (4 : Nat) = 2 * 2 from rfl]; simp only [Nat.mul_assoc]
    rw [e1, e2, hx]
  have g1 := cross_ge hz hz' hx4 18014398509481983
  have g2 := cross_le hz hz' hx 9007199254740993
  constructor
  · rintro ⟨k1, k2⟩
    exact near_skew (vD_pos b) (g1.1 k1) (g2.1 k2)
  · intro h
    obtain ⟨k1, k2⟩ := near_conv_skew h
    exact ⟨g1.2 k1, g2.2 k2⟩
/-- What is known of a power of two. -/
structure SkF (q : Nat) : Prop where
  P : (skP q : Int) = 348 - (((q : Int) - 1075) * 631305 - 261663) / 2097152
  P2 : skP q ≤ 672
  S : (skS q : Int) = 1083 - (q : Int) - skL q
  S8 : skS q ≤ 8
  u0 : 4 ≤ skU0 q
  u0' : skU0 q < 1000000000000000000
  u1 : 4 ≤ skU1 q
  u1' : skU1 q < 1000000000000000000
  u2' : skU2 q < 1000000000000000000
  spec : Spec (q * 4503599627370496) (sfV (skU0 q) (skU1 q) (skU2 q) ((skP q : Int) - 348)).1 (sfV (skU0 q) (skU1 q) (skU2 q) ((skP q : Int) - 348)).2
theorem sk_of (q : Nat) (hq : 2 ≤ q) (hq' : q ≤ 2046) : SkF q := by
  have h := List.all_eq_true.1 sk_all (q - 2) (List.mem_range.2 (by omega))
  rw [show q - 2 + 2 = q by omega] at h
  unfold skOk at h
  obtain ⟨P, hP⟩ : ∃ P, P = skP q := ⟨_, rfl⟩
  obtain ⟨s, hs⟩ : ∃ s, s = skS q := ⟨_, rfl⟩
  obtain ⟨L, hL⟩ : ∃ L, L = skL q := ⟨_, rfl⟩
  obtain ⟨U0, hU0⟩ : ∃ U0, U0 = skU0 q := ⟨_, rfl⟩
  obtain ⟨U1, hU1⟩ : ∃ U1, U1 = skU1 q := ⟨_, rfl⟩
  obtain ⟨U2, hU2⟩ : ∃ U2, U2 = skU2 q := ⟨_, rfl⟩
  have hLP : L = ((P : Int) - 348) * 108853 / 32768 := by rw [hL, hP]; rfl
  rw [← hP, ← hs, ← hL, ← hU0, ← hU1, ← hU2] at h
  unfold skChk at h
  simp only [Bool.and_eq_true, decide_eq_true_eq] at h
  obtain ⟨⟨⟨⟨⟨⟨⟨⟨⟨⟨⟨⟨⟨⟨⟨⟨c1, c2⟩, c3⟩, c4⟩, c5⟩, c6⟩, c7⟩, c8⟩, c9⟩, c10⟩, c11⟩, c12⟩, c13⟩, c14⟩, c15⟩, _⟩, c16⟩ := h
  refine ⟨by rw [← hP]; exact c1, by rw [← hP]; exact c4, by rw [← hs, ← hL]; exact c2, by rw [← hs]; exact c3, by rw [← hU0]; exact c5, by rw [← hU0]; exact c6, by rw [← hU1]; exact c7, by rw [← hU1]; exact c8, by rw [← hU2]; exact c9, ?_⟩
  rw [← hP, ← hU0, ← hU1, ← hU2]
  clear hP hs hL hU0 hU1 hU2
  obtain ⟨j, rfl⟩ : ∃ j, q = j + 2 := ⟨q - 2, by omega⟩
  have hE : ScaleAt (j + 1) P s := by unfold ScaleAt; rw [← hLP]; omega
  have hM := MP_pos P
  obtain ⟨w, hw⟩ : ∃ w, w = 2 ^ (8 - s) * NP P := ⟨_, rfl⟩
  have hwp : 0 < w := by rw [hw]; exact Nat.mul_pos (Nat.two_pow_pos _) (NP_pos P)
  have hiN := fun (a t : Nat) (b : Int) (hb : b + ((P : Int) - 348) = t) => inS_near (a := a) c3 hb hE
  have hten := fun (a : Nat) (b : Int) (ha : a < 1000000000000000) hh => scaled_ten (u := 4503599627370496) (j := j + 1) (P := P) (s := s) (a := a) (b := b) (Nat.le_refl _) c3 hE c10 ha hh
  rw [← hw] at c10 c12 c13 c14 c15 hiN
  rw [show (j + 2) * 4503599627370496 = (j + 1) * 4503599627370496 + 4503599627370496 by omega]
  clear hw hLP hE c1 c2
  obtain ⟨a, ha⟩ : ∃ a, a = (U0 + 3) / 4 := ⟨_, rfl⟩
  obtain ⟨b, hb⟩ : ∃ b, b = U1 / 4 := ⟨_, rfl⟩
  rw [← ha] at c11 c12 c13 c16
  rw [← hb] at c14 c15 c16
  have hab : ∀ n, (a ≤ n ∧ n ≤ b) ↔ InS w (MP P) n := by
    intro n
    unfold InS
    constructor
    · rintro ⟨k1, k2⟩
      refine ⟨Nat.le_trans c12 (Nat.mul_le_mul_right _ (by omega)), Nat.le_trans (Nat.mul_le_mul_right _ (by omega)) c14⟩
    · rintro ⟨k1, k2⟩
      constructor
      · rcases Nat.lt_or_ge n a with h | h
        · exfalso
          have := Nat.mul_le_mul_right (MP P) (show 4 * n ≤ 4 * (a - 1) by omega)
          omega
        · exact h
      · rcases Nat.lt_or_ge b n with h | h
        · exfalso
          have := Nat.mul_le_mul_right (MP P) (show 2 * (b + 1) ≤ 2 * n by omega)
          omega
        · exact h
  have all : ∀ (a0 : Nat) (b0 : Int), 1 ≤ a0 → a0 < 1000000000000000 → -300 ≤ b0 → nearV a0 b0 = (j + 1) * 4503599627370496 + 4503599627370496 → ∃ k : Nat, b0 + ((P : Int) - 348) = k + 1 ∧ a ≤ 10 * (a0 * 10 ^ k) ∧ 10 * (a0 * 10 ^ k) ≤ b := by
    intro a0 b0 ha0 ha1 hb0 hn
    have hN := nearV_near a0 b0 ha0 hb0
    rw [hn] at hN
    have h9 := hten a0 b0 ha1 (by
      have := (near_conv_skew hN).1
      omega)
    obtain ⟨k, hk⟩ : ∃ k : Nat, b0 + ((P : Int) - 348) = k + 1 := ⟨(b0 + ((P : Int) - 348) - 1).toNat, by omega⟩
    have := (hiN a0 (k + 1) b0 (by omega)).2 hN
    rw [Nat.pow_succ, ← Nat.mul_assoc, Nat.mul_comm (a0 * 10 ^ k) 10, ← hab] at this
    exact ⟨k, hk, this⟩
  by_cases hq1 : a ≤ b / 10 * 10
  · rw [if_pos hq1] at c16
    simp only [Bool.and_eq_true, decide_eq_true_eq] at c16
    have e : sfV U0 U1 U2 ((P : Int) - 348) = (b / 10, -((P : Int) - 348 - 1)) := by unfold sfV; rw [← ha, ← hb, if_pos hq1]
    rw [e]
    refine ⟨by simp only; omega, fun a0 b0 h1 h2 h3 h4 h5 hn => ?_, fun a0 k hk h1 h2 h3 h4 => ?_⟩
    · obtain ⟨k, hk, g1, g2⟩ := all a0 b0 h1 h2 h4 hn
      exact ⟨k, by simp only; omega, by simp only; omega⟩
    · simp only at hk h3 h4 ⊢
      have hin := (hab (10 * (b / 10))).1 (by omega)
      have hN := (hiN a0 (k + 1) (-((P : Int) - 348 - 1) + k) (by omega)).1 (by
        rw [Nat.pow_succ, ← Nat.mul_assoc, Nat.mul_comm (a0 * 10 ^ k) 10, ← hk]; exact hin)
      exact (nearV_near a0 _ h1 h3).unique hN
  · rw [if_neg hq1] at c16
    simp only [Bool.and_eq_true, decide_eq_true_eq] at c16
    obtain ⟨d, hd⟩ : ∃ d, d = (if a < b then (U2 + 1 + U2 / 4 % 2) / 4 else a) := ⟨_, rfl⟩
    have e : sfV U0 U1 U2 ((P : Int) - 348) = (d, -((P : Int) - 348)) := by
      unfold sfV
      rw [← ha, ← hb, if_neg hq1, hd]
      split <;> rfl
    have c16 : d % 10 ≠ 0 ∧ 1000000000000000 ≤ d := by rw [hd]; exact c16
    rw [e]
    refine ⟨by simp only; omega, fun a0 b0 h1 h2 h3 h4 h5 hn => ?_, fun a0 k hk h1 h2 h3 h4 => ?_⟩
    · obtain ⟨k, hk, g1, g2⟩ := all a0 b0 h1 h2 h4 hn
      exfalso; omega
    · exfalso
      simp only at hk
      cases k with
      | zero => rw [Nat.pow_zero, Nat.mul_one] at hk; omega
      | succ k =>
        rw [Nat.pow_succ, ← Nat.mul_assoc] at hk
        omega
end Go.Proofs.YtglamimbkdldaaaGreatDoor
