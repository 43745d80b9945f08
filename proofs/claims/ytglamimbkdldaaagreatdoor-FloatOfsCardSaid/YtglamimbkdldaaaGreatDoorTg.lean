/-
  The unrounded scaling at the shifts 5 to 8, by the table of powers; the gaps to the whole numbers, for factors below 2^58. No program in sight.
-/
import Derived.Test.YtglamimbkdldaaaGreatDoorGq
import Derived.Test.YtglamimbkdldaaaGreatDoorFs
namespace Go.Proofs.YtglamimbkdldaaaGreatDoor
open Go.RowKit Go.Sort

/-- No multiple of N / M by a number below 2^58 is next to a whole number, but for those that are whole. -/
def GapW (N M : Nat) : Prop := ∀ D n : Nat, 0 < D → D < 288230376151711744 → D * N ≠ n * M → M ≤ (D * N - n * M) * 590295810358705651712 ∧ n * M < D * N ∨ M ≤ (n * M - D * N) * 590295810358705651712 ∧ D * N < n * M

theorem gapw_small {N M : Nat} (h : M ≤ 590295810358705651712) : GapW N M := by
  intro D n _ _ hne
  rcases Nat.lt_or_ge (n * M) (D * N) with h1 | h1
  · left; exact ⟨by omega, h1⟩
  · right; exact ⟨by omega, by omega⟩

theorem gapw_cert {N M a b c d s t : Nat} (h0 : b * c = a * d + 1) (hbd : 288230376151711744 ≤ b + d) (hs : a * M + s = b * N) (ht : d * N + t = c * M) (hs2 : M ≤ s * 590295810358705651712) (ht2 : M ≤ t * 590295810358705651712) : GapW N M := by
  intro D n hD hD2 hne
  obtain ⟨i, hi⟩ : ∃ i : Int, i = (D : Int) * c - n * d := ⟨_, rfl⟩
  obtain ⟨k, hk⟩ : ∃ k : Int, k = (n : Int) * b - D * a := ⟨_, rfl⟩
  have h0' : (b : Int) * c = a * d + 1 := by exact_mod_cast h0
  have hs' : (a : Int) * M + s = b * N := by exact_mod_cast hs
  have ht' : (d : Int) * N + t = c * M := by exact_mod_cast ht
  have hDi : (D : Int) = i * b + k * d := by
    have e : i * b + k * d = D * (b * c - a * d) := by
      rw [hi, hk]
      simp only [Int.sub_mul, Int.mul_sub, Int.mul_assoc, Int.mul_comm, Int.mul_left_comm]; omega
    rw [e, h0', show (a : Int) * d + 1 - a * d = 1 by omega, Int.mul_one]
  have hni : (n : Int) = i * a + k * c := by
    have e : i * a + k * c = n * (b * c - a * d) := by
      rw [hi, hk]
      simp only [Int.sub_mul, Int.mul_sub, Int.mul_assoc, Int.mul_comm, Int.mul_left_comm]; omega
    rw [e, h0', show (a : Int) * d + 1 - a * d = 1 by omega, Int.mul_one]
  have hg : (D : Int) * N - n * M = i * s - k * t := by
    have e1 : (i * b + k * d) * (N : Int) - (i * a + k * c) * M = i * (b * N - a * M) + k * (d * N - c * M) := by
      simp only [Int.mul_sub, Int.add_mul, Int.mul_assoc]; omega
    rw [hDi, hni, e1, show (b : Int) * N - a * M = s by omega, show (d : Int) * N - c * M = -t by omega, Int.mul_neg]; omega
  clear hi hk hni h0' hs' ht'
  have hDN : (D : Int) * N = ((D * N : Nat) : Int) := by push_cast; rfl
  have hnM : (n : Int) * M = ((n * M : Nat) : Int) := by push_cast; rfl
  rw [hDN, hnM] at hg
  generalize D * N = DN at *
  generalize n * M = nM at *
  rcases (by omega : 1 ≤ i ∨ i ≤ 0) with hi1 | hi0
  · rcases (by omega : 1 ≤ k ∨ k ≤ 0) with hk1 | hk0
    · exfalso
      have a1 : 1 * (b : Int) ≤ i * b := Int.mul_le_mul_of_nonneg_right hi1 (by omega)
      have a2 : 1 * (d : Int) ≤ k * d := Int.mul_le_mul_of_nonneg_right hk1 (by omega)
      omega
    · have a1 : 1 * (s : Int) ≤ i * s := Int.mul_le_mul_of_nonneg_right hi1 (by omega)
      have a2 : k * (t : Int) ≤ 0 * t := Int.mul_le_mul_of_nonneg_right hk0 (by omega)
      left
      omega
  · have hk1 : 1 ≤ k := by
      rcases (by omega : 1 ≤ k ∨ k ≤ 0) with h | h
      · exact h
      · exfalso
        have a1 : i * (b : Int) ≤ 0 * b := Int.mul_le_mul_of_nonneg_right hi0 (by omega)
        have a2 : k * (d : Int) ≤ 0 * d := Int.mul_le_mul_of_nonneg_right h (by omega)
        omega
    have a1 : i * (s : Int) ≤ 0 * s := Int.mul_le_mul_of_nonneg_right hi0 (by omega)
    have a2 : 1 * (t : Int) ≤ k * t := Int.mul_le_mul_of_nonneg_right hk1 (by omega)
    right
    omega

/-- Two neighbours among the fractions, one below N / M and one above. -/
def certGoW : Nat → Nat → Nat → Nat → Nat → Nat → Nat → Nat × Nat × Nat × Nat
  | 0, a, b, _, c, d, _ => (a, b, c, d)
  | f + 1, a, b, s, c, d, t =>
    if 288230376151711744 ≤ b + d then (a, b, c, d)
    else if t < s then
      let k := min ((s - 1) / t) ((288230376151711744 - (b + d) + (d - 1)) / d)
      certGoW f (a + k * c) (b + k * d) (s - k * t) c d t
    else
      let k := min ((t - 1) / s) ((288230376151711744 - (b + d) + (b - 1)) / b)
      certGoW f a b s (c + k * a) (d + k * b) (t - k * s)
/-- Do they show that nothing is near? -/
def certOkW (N M : Nat) (x : Nat × Nat × Nat × Nat) : Bool :=
  x.2.1 * x.2.2.1 == x.1 * x.2.2.2 + 1 && decide (288230376151711744 ≤ x.2.1 + x.2.2.2) && decide (x.1 * M ≤ x.2.1 * N) && decide (x.2.2.2 * N ≤ x.2.2.1 * M) &&
    decide (M ≤ (x.2.1 * N - x.1 * M) * 590295810358705651712) && decide (M ≤ (x.2.2.1 * M - x.2.2.2 * N) * 590295810358705651712)
def gapWB (N M : Nat) : Bool := decide (M ≤ 590295810358705651712) || certOkW N M (certGoW 60 1 1 (N - M) 2 1 (2 * M - N))
theorem gapw_of {N M : Nat} (h : gapWB N M = true) : GapW N M := by
  unfold gapWB at h
  rw [Bool.or_eq_true, decide_eq_true_eq] at h
  rcases h with h | h
  · exact gapw_small h
  · unfold certOkW at h
    simp only [Bool.and_eq_true, decide_eq_true_eq, beq_iff_eq] at h
    obtain ⟨⟨⟨⟨⟨h1, h2⟩, h3⟩, h4⟩, h5⟩, h6⟩ := h
    exact gapw_cert h1 h2 (by omega) (by omega) h5 h6


theorem lin_odd_5 {H Mi m2 l2 Y : Nat} (hMi : Mi < 18446744073709551616) (hX : m2 * 18446744073709551616 + l2 ≤ 340282366920938463426481119284349108225) (hY : Y + (m2 * 18446744073709551616 + l2) = (H * 18446744073709551616 + Mi) * 18446744073709551616) (hH : H / 32 * 32 ≠ H) :
    H / 32 * 10889035741470030830827987437816582766592 + 18446744073709551616 ≤ Y ∧ Y < (H / 32 + 1) * 10889035741470030830827987437816582766592 := by omega
theorem lin_sub_5 {H Mi m2 l2 Y : Nat} (hl2 : l2 < 18446744073709551616) (hX : m2 * 18446744073709551616 + l2 ≤ 340282366920938463426481119284349108225) (hY : Y + (m2 * 18446744073709551616 + l2) = (H * 18446744073709551616 + Mi) * 18446744073709551616) (_hlt : Mi < m2) (hH : 0 < H) :
    Y + l2 = (H - 1) * 340282366920938463463374607431768211456 + (Mi + 18446744073709551616 - m2) * 18446744073709551616 := by omega
theorem lin_sub2_5 {H Mi m2 l2 Y : Nat} (hY : Y + (m2 * 18446744073709551616 + l2) = (H * 18446744073709551616 + Mi) * 18446744073709551616) (hlt : m2 ≤ Mi) : Y + l2 = H * 340282366920938463463374607431768211456 + (Mi - m2) * 18446744073709551616 := by omega
theorem lin_D_5 {H1 D l2 Y : Nat} (hl2 : l2 < 18446744073709551616) (hD : D ≤ 18446744073709551615) (h1 : 1 < D) (hY : Y + l2 = H1 * 340282366920938463463374607431768211456 + D * 18446744073709551616) : H1 / 32 * 10889035741470030830827987437816582766592 + 18446744073709551616 ≤ Y ∧ Y < (H1 / 32 + 1) * 10889035741470030830827987437816582766592 := by omega
theorem lin_E_5 {h D l2 Y : Nat} (hl2 : l2 < 18446744073709551616) (h1 : ¬ 1 < D) (hY : Y + l2 = h * 32 * 340282366920938463463374607431768211456 + D * 18446744073709551616) : Y ≤ h * 10889035741470030830827987437816582766592 + 18446744073709551616 ∧ h * 10889035741470030830827987437816582766592 ≤ Y + 18446744073709551616 := by omega
theorem lin_gap_5 {DN nM YM XM M : Nat} (t1 : YM < 2 * DN * 10889035741470030830827987437816582766592 + XM) (t2 : 2 * DN * 10889035741470030830827987437816582766592 ≤ YM) (hX : XM + M ≤ 18446744073709551616 * M) (v1 : YM ≤ 2 * nM * 10889035741470030830827987437816582766592 + 18446744073709551616 * M) (v2 : 2 * nM * 10889035741470030830827987437816582766592 ≤ YM + 18446744073709551616 * M)
    (hg : M ≤ (DN - nM) * 590295810358705651712 ∧ nM < DN ∨ M ≤ (nM - DN) * 590295810358705651712 ∧ DN < nM) : False := by omega
theorem lin_f_5 {g Y : Nat} (h : (g + 1) * 10889035741470030830827987437816582766592 ≤ Y + 18446744073709551616) : g * 10889035741470030830827987437816582766592 + 18446744073709551616 ≤ Y := by omega
theorem lin_g_5 {h Y : Nat} (u : Y ≤ h * 10889035741470030830827987437816582766592 + 18446744073709551616) : Y < (h + 1) * 10889035741470030830827987437816582766592 := by omega
theorem lin_lo_5 {A hM YM XM M : Nat} (t1 : YM < A * 10889035741470030830827987437816582766592 + XM) (hX : XM + M ≤ 18446744073709551616 * M) (h : hM * 10889035741470030830827987437816582766592 + 18446744073709551616 * M ≤ YM) : hM < A := by omega
theorem lin_hi_5 {A hM YM : Nat} (t2 : A * 10889035741470030830827987437816582766592 ≤ YM) (h : YM < hM * 10889035741470030830827987437816582766592) : A < hM := by omega

theorem uscG_5 (H M m2 : Nat) : uscG 5 H M m2 = if H / 32 * 32 ≠ H then H / 32 ||| 1 else (H - (decide (M < m2)).toNat) / 32 ||| (decide (1 < subW M m2)).toNat := rfl

theorem tells_u5 {X D hi lo N M H Mi m2 l2 Y : Nat} (hM : 0 < M) (hD1 : 1 ≤ D) (hD2 : D < 288230376151711744) (hX : X = D * 128) (hX64 : X ≤ 18446744073709551615) (hlo : lo < 18446744073709551616)
    (e1 : X * hi = H * 18446744073709551616 + Mi) (hMi : Mi < 18446744073709551616) (e2 : X * lo = m2 * 18446744073709551616 + l2) (hl2 : l2 < 18446744073709551616)
    (hY : Y + X * lo = X * hi * 18446744073709551616) (t1 : Y * M < N * 170141183460469231731687303715884105728 * X + X * M) (t2 : N * 170141183460469231731687303715884105728 * X ≤ Y * M) (hH0 : 0 < H) (hg : GapW N M) :
    Tells (uscG 5 H Mi m2) (2 * D * N) M := by
  have hXW : X ≤ 18446744073709551615 := hX64
  have hXl : X * lo ≤ 340282366920938463426481119284349108225 := by
    calc X * lo ≤ 18446744073709551615 * 18446744073709551615 := Nat.mul_le_mul hXW (by omega)
      _ = _ := by decide
  obtain ⟨DN, hDN⟩ : ∃ DN, DN = D * N := ⟨_, rfl⟩
  have hA : 2 * D * N = 2 * DN := by rw [hDN, Nat.mul_assoc]
  have hA2 : N * 170141183460469231731687303715884105728 * X = 2 * DN * 10889035741470030830827987437816582766592 := by
    rw [hDN, hX, Nat.mul_mul_mul_comm, Nat.mul_comm N D]
    clear t1 t2 hY e1 e2 hXl
    generalize D * N = z
    omega
  rw [hA2] at t1 t2
  have hXM : X * M + M ≤ 18446744073709551616 * M := by
    have : (X + 1) * M ≤ 18446744073709551616 * M := Nat.mul_le_mul_right _ (by omega)
    rwa [Nat.add_mul, Nat.one_mul] at this
  rw [e1] at hY
  rw [e2] at hY hXl
  have lo_lem : ∀ h, h * 10889035741470030830827987437816582766592 + 18446744073709551616 ≤ Y → h * M < 2 * DN := by
    intro h hh
    have := Nat.mul_le_mul_right M hh
    rw [Nat.add_mul, Nat.mul_right_comm] at this
    exact lin_lo_5 t1 hXM this
  have hi_lem : ∀ h, Y < h * 10889035741470030830827987437816582766592 → 2 * DN < h * M := by
    intro h hh
    have := Nat.mul_lt_mul_of_pos_right hh hM
    rw [Nat.mul_right_comm] at this
    exact lin_hi_5 t2 this
  rw [hA]
  have odd : ∀ h, h * 10889035741470030830827987437816582766592 + 18446744073709551616 ≤ Y → Y < (h + 1) * 10889035741470030830827987437816582766592 → Tells (h ||| 1) (2 * DN) M := by
    intro h k1 k2
    rw [or_one_eq]
    have a1 := lo_lem h k1
    have a2 := hi_lem (h + 1) k2
    right
    exact ⟨by omega, Nat.lt_of_le_of_lt (Nat.mul_le_mul_right _ (by omega)) a1, Nat.lt_of_lt_of_le a2 (Nat.mul_le_mul_right _ (by omega))⟩
  rw [uscG_5]
  by_cases hH : H / 32 * 32 ≠ H
  · rw [if_pos hH]
    exact odd _ (lin_odd_5 hMi hXl hY hH).1 (lin_odd_5 hMi hXl hY hH).2
  · rw [if_neg hH]
    obtain ⟨D2, hD2v⟩ : ∃ D2, D2 = subW Mi m2 := ⟨_, rfl⟩
    have hm2 : m2 ≤ 18446744073709551614 := by clear hY t1 t2 e1 e2 hA2; omega
    obtain ⟨H1, hH1⟩ : ∃ H1, H1 = H - (decide (Mi < m2)).toNat := ⟨_, rfl⟩
    rw [← hD2v, ← hH1]
    have hYY : Y + l2 = H1 * 340282366920938463463374607431768211456 + D2 * 18446744073709551616 := by
      rw [hH1, hD2v]
      unfold subW
      by_cases hlt : Mi < m2
      · rw [if_pos hlt, decide_eq_true hlt, Bool.toNat_true]; exact lin_sub_5 hl2 hXl hY hlt hH0
      · rw [if_neg hlt, decide_eq_false hlt, Bool.toNat_false]; exact lin_sub2_5 hY (by omega)
    by_cases h1 : 1 < D2
    · rw [decide_eq_true h1, Bool.toNat_true]
      have hd : D2 ≤ 18446744073709551615 := by rw [hD2v]; exact subW_le _ _ (by clear hY t1 t2 e1 e2 hA2; omega) (by clear hY t1 t2 e1 e2 hA2; omega)
      exact odd _ (lin_D_5 hl2 hd h1 hYY).1 (lin_D_5 hl2 hd h1 hYY).2
    · rw [decide_eq_false h1, Bool.toNat_false, Nat.or_zero]
      have hge : m2 ≤ Mi := by
        rcases Nat.lt_or_ge Mi m2 with h | h
        · exfalso; rw [hD2v] at h1; unfold subW at h1; rw [if_pos h] at h1; clear hY t1 t2 e1 e2 hA2 hYY; omega
        · exact h
      have hHH : H1 = H / 32 * 32 := by rw [hH1, decide_eq_false (Nat.not_lt.2 hge), Bool.toNat_false]; exact (Decidable.not_not.1 hH).symm
      obtain ⟨h, hh⟩ : ∃ h, h = H / 32 := ⟨_, rfl⟩
      rw [← hh] at hHH
      have hq : H1 / 32 = h := by rw [hHH]; exact Nat.mul_div_cancel _ (by decide)
      rw [hq]
      rw [hHH] at hYY
      obtain ⟨u1, u2⟩ := lin_E_5 hl2 h1 hYY
      rcases Nat.mod_two_eq_zero_or_one h with he | ho
      · left
        refine ⟨he, ?_⟩
        obtain ⟨n, hn⟩ : ∃ n, h = 2 * n := ⟨h / 2, by clear hY t1 t2 e1 e2 hA2 hYY u1 u2; omega⟩
        have v1 := Nat.mul_le_mul_right M u1
        have v2 := Nat.mul_le_mul_right M u2
        rw [Nat.add_mul, Nat.mul_right_comm, hn, Nat.mul_assoc 2 n M] at v1
        rw [Nat.add_mul, Nat.mul_right_comm, hn, Nat.mul_assoc 2 n M] at v2
        rw [hn, Nat.mul_assoc]
        refine congrArg (2 * ·) ?_
        refine Classical.byContradiction fun hne => ?_
        have hgap := hg D n (by clear hY t1 t2 e1 e2 hA2 hYY u1 u2 v1 v2; omega) hD2 (by rw [← hDN]; exact hne)
        rw [← hDN] at hgap
        exact lin_gap_5 t1 t2 hXM v1 v2 hgap
      · right
        refine ⟨ho, ?_, ?_⟩
        · refine lo_lem (h - 1) ?_
          obtain ⟨g, hg'⟩ : ∃ g, h = g + 1 := ⟨h - 1, by clear hY t1 t2 e1 e2 hA2 hYY u1 u2; omega⟩
          rw [hg', Nat.add_sub_cancel]
          rw [hg'] at u2
          exact lin_f_5 u2
        · exact hi_lem (h + 1) (lin_g_5 u1)


theorem lin_odd_6 {H Mi m2 l2 Y : Nat} (hMi : Mi < 18446744073709551616) (hX : m2 * 18446744073709551616 + l2 ≤ 340282366920938463426481119284349108225) (hY : Y + (m2 * 18446744073709551616 + l2) = (H * 18446744073709551616 + Mi) * 18446744073709551616) (hH : H / 64 * 64 ≠ H) :
    H / 64 * 21778071482940061661655974875633165533184 + 18446744073709551616 ≤ Y ∧ Y < (H / 64 + 1) * 21778071482940061661655974875633165533184 := by omega
theorem lin_sub_6 {H Mi m2 l2 Y : Nat} (hl2 : l2 < 18446744073709551616) (hX : m2 * 18446744073709551616 + l2 ≤ 340282366920938463426481119284349108225) (hY : Y + (m2 * 18446744073709551616 + l2) = (H * 18446744073709551616 + Mi) * 18446744073709551616) (_hlt : Mi < m2) (hH : 0 < H) :
    Y + l2 = (H - 1) * 340282366920938463463374607431768211456 + (Mi + 18446744073709551616 - m2) * 18446744073709551616 := by omega
theorem lin_sub2_6 {H Mi m2 l2 Y : Nat} (hY : Y + (m2 * 18446744073709551616 + l2) = (H * 18446744073709551616 + Mi) * 18446744073709551616) (hlt : m2 ≤ Mi) : Y + l2 = H * 340282366920938463463374607431768211456 + (Mi - m2) * 18446744073709551616 := by omega
theorem lin_D_6 {H1 D l2 Y : Nat} (hl2 : l2 < 18446744073709551616) (hD : D ≤ 18446744073709551615) (h1 : 1 < D) (hY : Y + l2 = H1 * 340282366920938463463374607431768211456 + D * 18446744073709551616) : H1 / 64 * 21778071482940061661655974875633165533184 + 18446744073709551616 ≤ Y ∧ Y < (H1 / 64 + 1) * 21778071482940061661655974875633165533184 := by omega
theorem lin_E_6 {h D l2 Y : Nat} (hl2 : l2 < 18446744073709551616) (h1 : ¬ 1 < D) (hY : Y + l2 = h * 64 * 340282366920938463463374607431768211456 + D * 18446744073709551616) : Y ≤ h * 21778071482940061661655974875633165533184 + 18446744073709551616 ∧ h * 21778071482940061661655974875633165533184 ≤ Y + 18446744073709551616 := by omega
theorem lin_gap_6 {DN nM YM XM M : Nat} (t1 : YM < 2 * DN * 21778071482940061661655974875633165533184 + XM) (t2 : 2 * DN * 21778071482940061661655974875633165533184 ≤ YM) (hX : XM + M ≤ 18446744073709551616 * M) (v1 : YM ≤ 2 * nM * 21778071482940061661655974875633165533184 + 18446744073709551616 * M) (v2 : 2 * nM * 21778071482940061661655974875633165533184 ≤ YM + 18446744073709551616 * M)
    (hg : M ≤ (DN - nM) * 590295810358705651712 ∧ nM < DN ∨ M ≤ (nM - DN) * 590295810358705651712 ∧ DN < nM) : False := by omega
theorem lin_f_6 {g Y : Nat} (h : (g + 1) * 21778071482940061661655974875633165533184 ≤ Y + 18446744073709551616) : g * 21778071482940061661655974875633165533184 + 18446744073709551616 ≤ Y := by omega
theorem lin_g_6 {h Y : Nat} (u : Y ≤ h * 21778071482940061661655974875633165533184 + 18446744073709551616) : Y < (h + 1) * 21778071482940061661655974875633165533184 := by omega
theorem lin_lo_6 {A hM YM XM M : Nat} (t1 : YM < A * 21778071482940061661655974875633165533184 + XM) (hX : XM + M ≤ 18446744073709551616 * M) (h : hM * 21778071482940061661655974875633165533184 + 18446744073709551616 * M ≤ YM) : hM < A := by omega
theorem lin_hi_6 {A hM YM : Nat} (t2 : A * 21778071482940061661655974875633165533184 ≤ YM) (h : YM < hM * 21778071482940061661655974875633165533184) : A < hM := by omega

theorem uscG_6 (H M m2 : Nat) : uscG 6 H M m2 = if H / 64 * 64 ≠ H then H / 64 ||| 1 else (H - (decide (M < m2)).toNat) / 64 ||| (decide (1 < subW M m2)).toNat := rfl

theorem tells_u6 {X D hi lo N M H Mi m2 l2 Y : Nat} (hM : 0 < M) (hD1 : 1 ≤ D) (hD2 : D < 288230376151711744) (hX : X = D * 256) (hX64 : X ≤ 18446744073709551615) (hlo : lo < 18446744073709551616)
    (e1 : X * hi = H * 18446744073709551616 + Mi) (hMi : Mi < 18446744073709551616) (e2 : X * lo = m2 * 18446744073709551616 + l2) (hl2 : l2 < 18446744073709551616)
    (hY : Y + X * lo = X * hi * 18446744073709551616) (t1 : Y * M < N * 170141183460469231731687303715884105728 * X + X * M) (t2 : N * 170141183460469231731687303715884105728 * X ≤ Y * M) (hH0 : 0 < H) (hg : GapW N M) :
    Tells (uscG 6 H Mi m2) (2 * D * N) M := by
  have hXW : X ≤ 18446744073709551615 := hX64
  have hXl : X * lo ≤ 340282366920938463426481119284349108225 := by
    calc X * lo ≤ 18446744073709551615 * 18446744073709551615 := Nat.mul_le_mul hXW (by omega)
      _ = _ := by decide
  obtain ⟨DN, hDN⟩ : ∃ DN, DN = D * N := ⟨_, rfl⟩
  have hA : 2 * D * N = 2 * DN := by rw [hDN, Nat.mul_assoc]
  have hA2 : N * 170141183460469231731687303715884105728 * X = 2 * DN * 21778071482940061661655974875633165533184 := by
    rw [hDN, hX, Nat.mul_mul_mul_comm, Nat.mul_comm N D]
    clear t1 t2 hY e1 e2 hXl
    generalize D * N = z
    omega
  rw [hA2] at t1 t2
  have hXM : X * M + M ≤ 18446744073709551616 * M := by
    have : (X + 1) * M ≤ 18446744073709551616 * M := Nat.mul_le_mul_right _ (by omega)
    rwa [Nat.add_mul, Nat.one_mul] at this
  rw [e1] at hY
  rw [e2] at hY hXl
  have lo_lem : ∀ h, h * 21778071482940061661655974875633165533184 + 18446744073709551616 ≤ Y → h * M < 2 * DN := by
    intro h hh
    have := Nat.mul_le_mul_right M hh
    rw [Nat.add_mul, Nat.mul_right_comm] at this
    exact lin_lo_6 t1 hXM this
  have hi_lem : ∀ h, Y < h * 21778071482940061661655974875633165533184 → 2 * DN < h * M := by
    intro h hh
    have := Nat.mul_lt_mul_of_pos_right hh hM
    rw [Nat.mul_right_comm] at this
    exact lin_hi_6 t2 this
  rw [hA]
  have odd : ∀ h, h * 21778071482940061661655974875633165533184 + 18446744073709551616 ≤ Y → Y < (h + 1) * 21778071482940061661655974875633165533184 → Tells (h ||| 1) (2 * DN) M := by
    intro h k1 k2
    rw [or_one_eq]
    have a1 := lo_lem h k1
    have a2 := hi_lem (h + 1) k2
    right
    exact ⟨by omega, Nat.lt_of_le_of_lt (Nat.mul_le_mul_right _ (by omega)) a1, Nat.lt_of_lt_of_le a2 (Nat.mul_le_mul_right _ (by omega))⟩
  rw [uscG_6]
  by_cases hH : H / 64 * 64 ≠ H
  · rw [if_pos hH]
    exact odd _ (lin_odd_6 hMi hXl hY hH).1 (lin_odd_6 hMi hXl hY hH).2
  · rw [if_neg hH]
    obtain ⟨D2, hD2v⟩ : ∃ D2, D2 = subW Mi m2 := ⟨_, rfl⟩
    have hm2 : m2 ≤ 18446744073709551614 := by clear hY t1 t2 e1 e2 hA2; omega
    obtain ⟨H1, hH1⟩ : ∃ H1, H1 = H - (decide (Mi < m2)).toNat := ⟨_, rfl⟩
    rw [← hD2v, ← hH1]
    have hYY : Y + l2 = H1 * 340282366920938463463374607431768211456 + D2 * 18446744073709551616 := by
      rw [hH1, hD2v]
      unfold subW
      by_cases hlt : Mi < m2
      · rw [if_pos hlt, decide_eq_true hlt, Bool.toNat_true]; exact lin_sub_6 hl2 hXl hY hlt hH0
      · rw [if_neg hlt, decide_eq_false hlt, Bool.toNat_false]; exact lin_sub2_6 hY (by omega)
    by_cases h1 : 1 < D2
    · rw [decide_eq_true h1, Bool.toNat_true]
      have hd : D2 ≤ 18446744073709551615 := by rw [hD2v]; exact subW_le _ _ (by clear hY t1 t2 e1 e2 hA2; omega) (by clear hY t1 t2 e1 e2 hA2; omega)
      exact odd _ (lin_D_6 hl2 hd h1 hYY).1 (lin_D_6 hl2 hd h1 hYY).2
    · rw [decide_eq_false h1, Bool.toNat_false, Nat.or_zero]
      have hge : m2 ≤ Mi := by
        rcases Nat.lt_or_ge Mi m2 with h | h
        · exfalso; rw [hD2v] at h1; unfold subW at h1; rw [if_pos h] at h1; clear hY t1 t2 e1 e2 hA2 hYY; omega
        · exact h
      have hHH : H1 = H / 64 * 64 := by rw [hH1, decide_eq_false (Nat.not_lt.2 hge), Bool.toNat_false]; exact (Decidable.not_not.1 hH).symm
      obtain ⟨h, hh⟩ : ∃ h, h = H / 64 := ⟨_, rfl⟩
      rw [← hh] at hHH
      have hq : H1 / 64 = h := by rw [hHH]; exact Nat.mul_div_cancel _ (by decide)
      rw [hq]
      rw [hHH] at hYY
      obtain ⟨u1, u2⟩ := lin_E_6 hl2 h1 hYY
      rcases Nat.mod_two_eq_zero_or_one h with he | ho
      · left
        refine ⟨he, ?_⟩
        obtain ⟨n, hn⟩ : ∃ n, h = 2 * n := ⟨h / 2, by clear hY t1 t2 e1 e2 hA2 hYY u1 u2; omega⟩
        have v1 := Nat.mul_le_mul_right M u1
        have v2 := Nat.mul_le_mul_right M u2
        rw [Nat.add_mul, Nat.mul_right_comm, hn, Nat.mul_assoc 2 n M] at v1
        rw [Nat.add_mul, Nat.mul_right_comm, hn, Nat.mul_assoc 2 n M] at v2
        rw [hn, Nat.mul_assoc]
        refine congrArg (2 * ·) ?_
        refine Classical.byContradiction fun hne => ?_
        have hgap := hg D n (by clear hY t1 t2 e1 e2 hA2 hYY u1 u2 v1 v2; omega) hD2 (by rw [← hDN]; exact hne)
        rw [← hDN] at hgap
        exact lin_gap_6 t1 t2 hXM v1 v2 hgap
      · right
        refine ⟨ho, ?_, ?_⟩
        · refine lo_lem (h - 1) ?_
          obtain ⟨g, hg'⟩ : ∃ g, h = g + 1 := ⟨h - 1, by clear hY t1 t2 e1 e2 hA2 hYY u1 u2; omega⟩
          rw [hg', Nat.add_sub_cancel]
          rw [hg'] at u2
          exact lin_f_6 u2
        · exact hi_lem (h + 1) (lin_g_6 u1)


theorem lin_odd_7 {H Mi m2 l2 Y : Nat} (hMi : Mi < 18446744073709551616) (hX : m2 * 18446744073709551616 + l2 ≤ 340282366920938463426481119284349108225) (hY : Y + (m2 * 18446744073709551616 + l2) = (H * 18446744073709551616 + Mi) * 18446744073709551616) (hH : H / 128 * 128 ≠ H) :
    H / 128 * 43556142965880123323311949751266331066368 + 18446744073709551616 ≤ Y ∧ Y < (H / 128 + 1) * 43556142965880123323311949751266331066368 := by omega
theorem lin_sub_7 {H Mi m2 l2 Y : Nat} (hl2 : l2 < 18446744073709551616) (hX : m2 * 18446744073709551616 + l2 ≤ 340282366920938463426481119284349108225) (hY : Y + (m2 * 18446744073709551616 + l2) = (H * 18446744073709551616 + Mi) * 18446744073709551616) (_hlt : Mi < m2) (hH : 0 < H) :
    Y + l2 = (H - 1) * 340282366920938463463374607431768211456 + (Mi + 18446744073709551616 - m2) * 18446744073709551616 := by omega
theorem lin_sub2_7 {H Mi m2 l2 Y : Nat} (hY : Y + (m2 * 18446744073709551616 + l2) = (H * 18446744073709551616 + Mi) * 18446744073709551616) (hlt : m2 ≤ Mi) : Y + l2 = H * 340282366920938463463374607431768211456 + (Mi - m2) * 18446744073709551616 := by omega
theorem lin_D_7 {H1 D l2 Y : Nat} (hl2 : l2 < 18446744073709551616) (hD : D ≤ 18446744073709551615) (h1 : 1 < D) (hY : Y + l2 = H1 * 340282366920938463463374607431768211456 + D * 18446744073709551616) : H1 / 128 * 43556142965880123323311949751266331066368 + 18446744073709551616 ≤ Y ∧ Y < (H1 / 128 + 1) * 43556142965880123323311949751266331066368 := by omega
theorem lin_E_7 {h D l2 Y : Nat} (hl2 : l2 < 18446744073709551616) (h1 : ¬ 1 < D) (hY : Y + l2 = h * 128 * 340282366920938463463374607431768211456 + D * 18446744073709551616) : Y ≤ h * 43556142965880123323311949751266331066368 + 18446744073709551616 ∧ h * 43556142965880123323311949751266331066368 ≤ Y + 18446744073709551616 := by omega
theorem lin_gap_7 {DN nM YM XM M : Nat} (t1 : YM < 2 * DN * 43556142965880123323311949751266331066368 + XM) (t2 : 2 * DN * 43556142965880123323311949751266331066368 ≤ YM) (hX : XM + M ≤ 18446744073709551616 * M) (v1 : YM ≤ 2 * nM * 43556142965880123323311949751266331066368 + 18446744073709551616 * M) (v2 : 2 * nM * 43556142965880123323311949751266331066368 ≤ YM + 18446744073709551616 * M)
    (hg : M ≤ (DN - nM) * 590295810358705651712 ∧ nM < DN ∨ M ≤ (nM - DN) * 590295810358705651712 ∧ DN < nM) : False := by omega
theorem lin_f_7 {g Y : Nat} (h : (g + 1) * 43556142965880123323311949751266331066368 ≤ Y + 18446744073709551616) : g * 43556142965880123323311949751266331066368 + 18446744073709551616 ≤ Y := by omega
theorem lin_g_7 {h Y : Nat} (u : Y ≤ h * 43556142965880123323311949751266331066368 + 18446744073709551616) : Y < (h + 1) * 43556142965880123323311949751266331066368 := by omega
theorem lin_lo_7 {A hM YM XM M : Nat} (t1 : YM < A * 43556142965880123323311949751266331066368 + XM) (hX : XM + M ≤ 18446744073709551616 * M) (h : hM * 43556142965880123323311949751266331066368 + 18446744073709551616 * M ≤ YM) : hM < A := by omega
theorem lin_hi_7 {A hM YM : Nat} (t2 : A * 43556142965880123323311949751266331066368 ≤ YM) (h : YM < hM * 43556142965880123323311949751266331066368) : A < hM := by omega

theorem uscG_7 (H M m2 : Nat) : uscG 7 H M m2 = if H / 128 * 128 ≠ H then H / 128 ||| 1 else (H - (decide (M < m2)).toNat) / 128 ||| (decide (1 < subW M m2)).toNat := rfl

theorem tells_u7 {X D hi lo N M H Mi m2 l2 Y : Nat} (hM : 0 < M) (hD1 : 1 ≤ D) (hD2 : D < 288230376151711744) (hX : X = D * 512) (hX64 : X ≤ 18446744073709551615) (hlo : lo < 18446744073709551616)
    (e1 : X * hi = H * 18446744073709551616 + Mi) (hMi : Mi < 18446744073709551616) (e2 : X * lo = m2 * 18446744073709551616 + l2) (hl2 : l2 < 18446744073709551616)
    (hY : Y + X * lo = X * hi * 18446744073709551616) (t1 : Y * M < N * 170141183460469231731687303715884105728 * X + X * M) (t2 : N * 170141183460469231731687303715884105728 * X ≤ Y * M) (hH0 : 0 < H) (hg : GapW N M) :
    Tells (uscG 7 H Mi m2) (2 * D * N) M := by
  have hXW : X ≤ 18446744073709551615 := hX64
  have hXl : X * lo ≤ 340282366920938463426481119284349108225 := by
    calc X * lo ≤ 18446744073709551615 * 18446744073709551615 := Nat.mul_le_mul hXW (by omega)
      _ = _ := by decide
  obtain ⟨DN, hDN⟩ : ∃ DN, DN = D * N := ⟨_, rfl⟩
  have hA : 2 * D * N = 2 * DN := by rw [hDN, Nat.mul_assoc]
  have hA2 : N * 170141183460469231731687303715884105728 * X = 2 * DN * 43556142965880123323311949751266331066368 := by
    rw [hDN, hX, Nat.mul_mul_mul_comm, Nat.mul_comm N D]
    clear t1 t2 hY e1 e2 hXl
    generalize D * N = z
    omega
  rw [hA2] at t1 t2
  have hXM : X * M + M ≤ 18446744073709551616 * M := by
    have : (X + 1) * M ≤ 18446744073709551616 * M := Nat.mul_le_mul_right _ (by omega)
    rwa [Nat.add_mul, Nat.one_mul] at this
  rw [e1] at hY
  rw [e2] at hY hXl
  have lo_lem : ∀ h, h * 43556142965880123323311949751266331066368 + 18446744073709551616 ≤ Y → h * M < 2 * DN := by
    intro h hh
    have := Nat.mul_le_mul_right M hh
    rw [Nat.add_mul, Nat.mul_right_comm] at this
    exact lin_lo_7 t1 hXM this
  have hi_lem : ∀ h, Y < h * 43556142965880123323311949751266331066368 → 2 * DN < h * M := by
    intro h hh
    have := Nat.mul_lt_mul_of_pos_right hh hM
    rw [Nat.mul_right_comm] at this
    exact lin_hi_7 t2 this
  rw [hA]
  have odd : ∀ h, h * 43556142965880123323311949751266331066368 + 18446744073709551616 ≤ Y → Y < (h + 1) * 43556142965880123323311949751266331066368 → Tells (h ||| 1) (2 * DN) M := by
    intro h k1 k2
    rw [or_one_eq]
    have a1 := lo_lem h k1
    have a2 := hi_lem (h + 1) k2
    right
    exact ⟨by omega, Nat.lt_of_le_of_lt (Nat.mul_le_mul_right _ (by omega)) a1, Nat.lt_of_lt_of_le a2 (Nat.mul_le_mul_right _ (by omega))⟩
  rw [uscG_7]
  by_cases hH : H / 128 * 128 ≠ H
  · rw [if_pos hH]
    exact odd _ (lin_odd_7 hMi hXl hY hH).1 (lin_odd_7 hMi hXl hY hH).2
  · rw [if_neg hH]
    obtain ⟨D2, hD2v⟩ : ∃ D2, D2 = subW Mi m2 := ⟨_, rfl⟩
    have hm2 : m2 ≤ 18446744073709551614 := by clear hY t1 t2 e1 e2 hA2; omega
    obtain ⟨H1, hH1⟩ : ∃ H1, H1 = H - (decide (Mi < m2)).toNat := ⟨_, rfl⟩
    rw [← hD2v, ← hH1]
    have hYY : Y + l2 = H1 * 340282366920938463463374607431768211456 + D2 * 18446744073709551616 := by
      rw [hH1, hD2v]
      unfold subW
      by_cases hlt : Mi < m2
      · rw [if_pos hlt, decide_eq_true hlt, Bool.toNat_true]; exact lin_sub_7 hl2 hXl hY hlt hH0
      · rw [if_neg hlt, decide_eq_false hlt, Bool.toNat_false]; exact lin_sub2_7 hY (by omega)
    by_cases h1 : 1 < D2
    · rw [decide_eq_true h1, Bool.toNat_true]
      have hd : D2 ≤ 18446744073709551615 := by rw [hD2v]; exact subW_le _ _ (by clear hY t1 t2 e1 e2 hA2; omega) (by clear hY t1 t2 e1 e2 hA2; omega)
      exact odd _ (lin_D_7 hl2 hd h1 hYY).1 (lin_D_7 hl2 hd h1 hYY).2
    · rw [decide_eq_false h1, Bool.toNat_false, Nat.or_zero]
      have hge : m2 ≤ Mi := by
        rcases Nat.lt_or_ge Mi m2 with h | h
        · exfalso; rw [hD2v] at h1; unfold subW at h1; rw [if_pos h] at h1; clear hY t1 t2 e1 e2 hA2 hYY; omega
        · exact h
      have hHH : H1 = H / 128 * 128 := by rw [hH1, decide_eq_false (Nat.not_lt.2 hge), Bool.toNat_false]; exact (Decidable.not_not.1 hH).symm
      obtain ⟨h, hh⟩ : ∃ h, h = H / 128 := ⟨_, rfl⟩
      rw [← hh] at hHH
      have hq : H1 / 128 = h := by rw [hHH]; exact Nat.mul_div_cancel _ (by decide)
      rw [hq]
      rw [hHH] at hYY
      obtain ⟨u1, u2⟩ := lin_E_7 hl2 h1 hYY
      rcases Nat.mod_two_eq_zero_or_one h with he | ho
      · left
        refine ⟨he, ?_⟩
        obtain ⟨n, hn⟩ : ∃ n, h = 2 * n := ⟨h / 2, by clear hY t1 t2 e1 e2 hA2 hYY u1 u2; omega⟩
        have v1 := Nat.mul_le_mul_right M u1
        have v2 := Nat.mul_le_mul_right M u2
        rw [Nat.add_mul, Nat.mul_right_comm, hn, Nat.mul_assoc 2 n M] at v1
        rw [Nat.add_mul, Nat.mul_right_comm, hn, Nat.mul_assoc 2 n M] at v2
        rw [hn, Nat.mul_assoc]
        refine congrArg (2 * ·) ?_
        refine Classical.byContradiction fun hne => ?_
        have hgap := hg D n (by clear hY t1 t2 e1 e2 hA2 hYY u1 u2 v1 v2; omega) hD2 (by rw [← hDN]; exact hne)
        rw [← hDN] at hgap
        exact lin_gap_7 t1 t2 hXM v1 v2 hgap
      · right
        refine ⟨ho, ?_, ?_⟩
        · refine lo_lem (h - 1) ?_
          obtain ⟨g, hg'⟩ : ∃ g, h = g + 1 := ⟨h - 1, by clear hY t1 t2 e1 e2 hA2 hYY u1 u2; omega⟩
          rw [hg', Nat.add_sub_cancel]
          rw [hg'] at u2
          exact lin_f_7 u2
        · exact hi_lem (h + 1) (lin_g_7 u1)


theorem lin_odd_8 {H Mi m2 l2 Y : Nat} (hMi : Mi < 18446744073709551616) (hX : m2 * 18446744073709551616 + l2 ≤ 340282366920938463426481119284349108225) (hY : Y + (m2 * 18446744073709551616 + l2) = (H * 18446744073709551616 + Mi) * 18446744073709551616) (hH : H / 256 * 256 ≠ H) :
    H / 256 * 87112285931760246646623899502532662132736 + 18446744073709551616 ≤ Y ∧ Y < (H / 256 + 1) * 87112285931760246646623899502532662132736 := by omega
theorem lin_sub_8 {H Mi m2 l2 Y : Nat} (hl2 : l2 < 18446744073709551616) (hX : m2 * 18446744073709551616 + l2 ≤ 340282366920938463426481119284349108225) (hY : Y + (m2 * 18446744073709551616 + l2) = (H * 18446744073709551616 + Mi) * 18446744073709551616) (_hlt : Mi < m2) (hH : 0 < H) :
    Y + l2 = (H - 1) * 340282366920938463463374607431768211456 + (Mi + 18446744073709551616 - m2) * 18446744073709551616 := by omega
theorem lin_sub2_8 {H Mi m2 l2 Y : Nat} (hY : Y + (m2 * 18446744073709551616 + l2) = (H * 18446744073709551616 + Mi) * 18446744073709551616) (hlt : m2 ≤ Mi) : Y + l2 = H * 340282366920938463463374607431768211456 + (Mi - m2) * 18446744073709551616 := by omega
theorem lin_D_8 {H1 D l2 Y : Nat} (hl2 : l2 < 18446744073709551616) (hD : D ≤ 18446744073709551615) (h1 : 1 < D) (hY : Y + l2 = H1 * 340282366920938463463374607431768211456 + D * 18446744073709551616) : H1 / 256 * 87112285931760246646623899502532662132736 + 18446744073709551616 ≤ Y ∧ Y < (H1 / 256 + 1) * 87112285931760246646623899502532662132736 := by omega
theorem lin_E_8 {h D l2 Y : Nat} (hl2 : l2 < 18446744073709551616) (h1 : ¬ 1 < D) (hY : Y + l2 = h * 256 * 340282366920938463463374607431768211456 + D * 18446744073709551616) : Y ≤ h * 87112285931760246646623899502532662132736 + 18446744073709551616 ∧ h * 87112285931760246646623899502532662132736 ≤ Y + 18446744073709551616 := by omega
theorem lin_gap_8 {DN nM YM XM M : Nat} (t1 : YM < 2 * DN * 87112285931760246646623899502532662132736 + XM) (t2 : 2 * DN * 87112285931760246646623899502532662132736 ≤ YM) (hX : XM + M ≤ 18446744073709551616 * M) (v1 : YM ≤ 2 * nM * 87112285931760246646623899502532662132736 + 18446744073709551616 * M) (v2 : 2 * nM * 87112285931760246646623899502532662132736 ≤ YM + 18446744073709551616 * M)
    (hg : M ≤ (DN - nM) * 590295810358705651712 ∧ nM < DN ∨ M ≤ (nM - DN) * 590295810358705651712 ∧ DN < nM) : False := by omega
theorem lin_f_8 {g Y : Nat} (h : (g + 1) * 87112285931760246646623899502532662132736 ≤ Y + 18446744073709551616) : g * 87112285931760246646623899502532662132736 + 18446744073709551616 ≤ Y := by omega
theorem lin_g_8 {h Y : Nat} (u : Y ≤ h * 87112285931760246646623899502532662132736 + 18446744073709551616) : Y < (h + 1) * 87112285931760246646623899502532662132736 := by omega
theorem lin_lo_8 {A hM YM XM M : Nat} (t1 : YM < A * 87112285931760246646623899502532662132736 + XM) (hX : XM + M ≤ 18446744073709551616 * M) (h : hM * 87112285931760246646623899502532662132736 + 18446744073709551616 * M ≤ YM) : hM < A := by omega
theorem lin_hi_8 {A hM YM : Nat} (t2 : A * 87112285931760246646623899502532662132736 ≤ YM) (h : YM < hM * 87112285931760246646623899502532662132736) : A < hM := by omega

theorem uscG_8 (H M m2 : Nat) : uscG 8 H M m2 = if H / 256 * 256 ≠ H then H / 256 ||| 1 else (H - (decide (M < m2)).toNat) / 256 ||| (decide (1 < subW M m2)).toNat := rfl

theorem tells_u8 {X D hi lo N M H Mi m2 l2 Y : Nat} (hM : 0 < M) (hD1 : 1 ≤ D) (hD2 : D < 288230376151711744) (hX : X = D * 1024) (hX64 : X ≤ 18446744073709551615) (hlo : lo < 18446744073709551616)
    (e1 : X * hi = H * 18446744073709551616 + Mi) (hMi : Mi < 18446744073709551616) (e2 : X * lo = m2 * 18446744073709551616 + l2) (hl2 : l2 < 18446744073709551616)
    (hY : Y + X * lo = X * hi * 18446744073709551616) (t1 : Y * M < N * 170141183460469231731687303715884105728 * X + X * M) (t2 : N * 170141183460469231731687303715884105728 * X ≤ Y * M) (hH0 : 0 < H) (hg : GapW N M) :
    Tells (uscG 8 H Mi m2) (2 * D * N) M := by
  have hXW : X ≤ 18446744073709551615 := hX64
  have hXl : X * lo ≤ 340282366920938463426481119284349108225 := by
    calc X * lo ≤ 18446744073709551615 * 18446744073709551615 := Nat.mul_le_mul hXW (by omega)
      _ = _ := by decide
  obtain ⟨DN, hDN⟩ : ∃ DN, DN = D * N := ⟨_, rfl⟩
  have hA : 2 * D * N = 2 * DN := by rw [hDN, Nat.mul_assoc]
  have hA2 : N * 170141183460469231731687303715884105728 * X = 2 * DN * 87112285931760246646623899502532662132736 := by
    rw [hDN, hX, Nat.mul_mul_mul_comm, Nat.mul_comm N D]
    clear t1 t2 hY e1 e2 hXl
    generalize D * N = z
    omega
  rw [hA2] at t1 t2
  have hXM : X * M + M ≤ 18446744073709551616 * M := by
    have : (X + 1) * M ≤ 18446744073709551616 * M := Nat.mul_le_mul_right _ (by omega)
    rwa [Nat.add_mul, Nat.one_mul] at this
  rw [e1] at hY
  rw [e2] at hY hXl
  have lo_lem : ∀ h, h * 87112285931760246646623899502532662132736 + 18446744073709551616 ≤ Y → h * M < 2 * DN := by
    intro h hh
    have := Nat.mul_le_mul_right M hh
    rw [Nat.add_mul, Nat.mul_right_comm] at this
    exact lin_lo_8 t1 hXM this
  have hi_lem : ∀ h, Y < h * 87112285931760246646623899502532662132736 → 2 * DN < h * M := by
    intro h hh
    have := Nat.mul_lt_mul_of_pos_right hh hM
    rw [Nat.mul_right_comm] at this
    exact lin_hi_8 t2 this
  rw [hA]
  have odd : ∀ h, h * 87112285931760246646623899502532662132736 + 18446744073709551616 ≤ Y → Y < (h + 1) * 87112285931760246646623899502532662132736 → Tells (h ||| 1) (2 * DN) M := by
    intro h k1 k2
    rw [or_one_eq]
    have a1 := lo_lem h k1
    have a2 := hi_lem (h + 1) k2
    right
    exact ⟨by omega, Nat.lt_of_le_of_lt (Nat.mul_le_mul_right _ (by omega)) a1, Nat.lt_of_lt_of_le a2 (Nat.mul_le_mul_right _ (by omega))⟩
  rw [uscG_8]
  by_cases hH : H / 256 * 256 ≠ H
  · rw [if_pos hH]
    exact odd _ (lin_odd_8 hMi hXl hY hH).1 (lin_odd_8 hMi hXl hY hH).2
  · rw [if_neg hH]
    obtain ⟨D2, hD2v⟩ : ∃ D2, D2 = subW Mi m2 := ⟨_, rfl⟩
    have hm2 : m2 ≤ 18446744073709551614 := by clear hY t1 t2 e1 e2 hA2; omega
    obtain ⟨H1, hH1⟩ : ∃ H1, H1 = H - (decide (Mi < m2)).toNat := ⟨_, rfl⟩
    rw [← hD2v, ← hH1]
    have hYY : Y + l2 = H1 * 340282366920938463463374607431768211456 + D2 * 18446744073709551616 := by
      rw [hH1, hD2v]
      unfold subW
      by_cases hlt : Mi < m2
      · rw [if_pos hlt, decide_eq_true hlt, Bool.toNat_true]; exact lin_sub_8 hl2 hXl hY hlt hH0
      · rw [if_neg hlt, decide_eq_false hlt, Bool.toNat_false]; exact lin_sub2_8 hY (by omega)
    by_cases h1 : 1 < D2
    · rw [decide_eq_true h1, Bool.toNat_true]
      have hd : D2 ≤ 18446744073709551615 := by rw [hD2v]; exact subW_le _ _ (by clear hY t1 t2 e1 e2 hA2; omega) (by clear hY t1 t2 e1 e2 hA2; omega)
      exact odd _ (lin_D_8 hl2 hd h1 hYY).1 (lin_D_8 hl2 hd h1 hYY).2
    · rw [decide_eq_false h1, Bool.toNat_false, Nat.or_zero]
      have hge : m2 ≤ Mi := by
        rcases Nat.lt_or_ge Mi m2 with h | h
        · exfalso; rw [hD2v] at h1; unfold subW at h1; rw [if_pos h] at h1; clear hY t1 t2 e1 e2 hA2 hYY; omega
        · exact h
      have hHH : H1 = H / 256 * 256 := by rw [hH1, decide_eq_false (Nat.not_lt.2 hge), Bool.toNat_false]; exact (Decidable.not_not.1 hH).symm
      obtain ⟨h, hh⟩ : ∃ h, h = H / 256 := ⟨_, rfl⟩
      rw [← hh] at hHH
      have hq : H1 / 256 = h := by rw [hHH]; exact Nat.mul_div_cancel _ (by decide)
      rw [hq]
      rw [hHH] at hYY
      obtain ⟨u1, u2⟩ := lin_E_8 hl2 h1 hYY
      rcases Nat.mod_two_eq_zero_or_one h with he | ho
      · left
        refine ⟨he, ?_⟩
        obtain ⟨n, hn⟩ : ∃ n, h = 2 * n := ⟨h / 2, by clear hY t1 t2 e1 e2 hA2 hYY u1 u2; omega⟩
        have v1 := Nat.mul_le_mul_right M u1
        have v2 := Nat.mul_le_mul_right M u2
        rw [Nat.add_mul, Nat.mul_right_comm, hn, Nat.mul_assoc 2 n M] at v1
        rw [Nat.add_mul, Nat.mul_right_comm, hn, Nat.mul_assoc 2 n M] at v2
        rw [hn, Nat.mul_assoc]
        refine congrArg (2 * ·) ?_
        refine Classical.byContradiction fun hne => ?_
        have hgap := hg D n (by clear hY t1 t2 e1 e2 hA2 hYY u1 u2 v1 v2; omega) hD2 (by rw [← hDN]; exact hne)
        rw [← hDN] at hgap
        exact lin_gap_8 t1 t2 hXM v1 v2 hgap
      · right
        refine ⟨ho, ?_, ?_⟩
        · refine lo_lem (h - 1) ?_
          obtain ⟨g, hg'⟩ : ∃ g, h = g + 1 := ⟨h - 1, by clear hY t1 t2 e1 e2 hA2 hYY u1 u2; omega⟩
          rw [hg', Nat.add_sub_cancel]
          rw [hg'] at u2
          exact lin_f_8 u2
        · exact hi_lem (h + 1) (lin_g_8 u1)



theorem MP_pos (P : Nat) : 0 < MP P := by
  unfold MP; split
  · exact Nat.two_pow_pos _
  · exact Nat.pow_pos (by decide)
def tabW (P hi lo : Nat) : Bool :=
  decide ((hi * 18446744073709551616 - lo - 1) * MP P < NP P * 170141183460469231731687303715884105728) && decide (NP P * 170141183460469231731687303715884105728 ≤ (hi * 18446744073709551616 - lo) * MP P) && gapWB (NP P) (MP P)
def tabWAll : List (Nat × Nat) → Nat → Bool
  | [], _ => true
  | x :: l, P => (decide (P < 48) || decide (672 < P) || tabW P x.1 x.2) && tabWAll l (P + 1)
theorem tabWAll_ok : tabWAll Go.Pinned.pow10Rows 0 = true := by decide +kernel
theorem tabWAll_get : ∀ (l : List (Nat × Nat)) (s i : Nat), tabWAll l s = true → i < l.length → 48 ≤ s + i → s + i ≤ 672 → tabW (s + i) (l.getD i (0, 0)).1 (l.getD i (0, 0)).2 = true
  | [], _, _, _, h, _, _ => by simp at h
  | x :: l, s, 0, h, _, h1, h2 => by
    unfold tabWAll at h
    rw [Bool.and_eq_true, Bool.or_eq_true, Bool.or_eq_true, decide_eq_true_eq, decide_eq_true_eq] at h
    rcases h.1 with (h | h) | h
    · omega
    · omega
    · exact h
  | x :: l, s, i + 1, h, hi, h1, h2 => by
    unfold tabWAll at h
    rw [Bool.and_eq_true] at h
    have := tabWAll_get l (s + 1) i h.2 (by simpa using hi) (by omega) (by omega)
    rw [show s + (i + 1) = s + 1 + i by omega]
    exact this

/-- What the scaled number is told to be. -/
theorem tells_short (s X D P : Nat) (hs : 5 ≤ s) (hs' : s ≤ 8) (hX : X = D * 2 ^ (s + 2)) (hX1 : 9223372036854775808 ≤ X * 2) (hX2 : X ≤ 18446744073709551615) (hD : D < 288230376151711744) (hP0 : 48 ≤ P) (hP : P ≤ 672) :
    Tells (uscS X (tabHi P) (tabLo P) s) (2 * D * NP P) (MP P) := by
  have hT : tabW P (tabHi P) (tabLo P) = true := by
    have := tabWAll_get Go.Pinned.pow10Rows 0 P tabWAll_ok (by rw [tab_all.1]; omega) (by omega) (by omega)
    rwa [Nat.zero_add] at this
  obtain ⟨k1, k2, k3⟩ := tab_ok P (by omega)
  unfold tabW at hT
  simp only [Bool.and_eq_true, decide_eq_true_eq] at hT
  obtain ⟨⟨t1, t2⟩, hgb⟩ := hT
  have hM := MP_pos P
  have hg := gapw_of hgb
  clear hgb
  have hD1 : 1 ≤ D := by
    rcases Nat.eq_zero_or_pos D with h | h
    · rw [h, Nat.zero_mul] at hX; omega
    · exact h
  obtain ⟨hi, hhi⟩ : ∃ hi, hi = tabHi P := ⟨_, rfl⟩
  obtain ⟨lo, hlo⟩ : ∃ lo, lo = tabLo P := ⟨_, rfl⟩
  obtain ⟨N, hN⟩ : ∃ N, N = NP P := ⟨_, rfl⟩
  obtain ⟨M, hMv⟩ : ∃ M, M = MP P := ⟨_, rfl⟩
  rw [← hhi] at k1 k2 t1 t2
  rw [← hlo] at k3 t1 t2
  rw [← hN] at t1 t2 hg
  rw [← hMv] at t1 t2 hM hg
  rw [← hhi, ← hlo, ← hN, ← hMv]
  clear hhi hlo hN hMv
  obtain ⟨pm, hpm⟩ : ∃ pm, pm = hi * 18446744073709551616 - lo := ⟨_, rfl⟩
  rw [← hpm] at t1 t2
  have hpm0 : pm = pm - 1 + 1 := by omega
  have e1 : X * hi = X * hi / 18446744073709551616 * 18446744073709551616 + X * hi % 18446744073709551616 := by
    have := Nat.div_add_mod (X * hi) 18446744073709551616; omega
  have e2 : X * lo = X * lo / 18446744073709551616 * 18446744073709551616 + X * lo % 18446744073709551616 := by
    have := Nat.div_add_mod (X * lo) 18446744073709551616; omega
  have hY : X * pm + X * lo = X * hi * 18446744073709551616 := by
    rw [Nat.mul_assoc, ← Nat.mul_add, hpm, Nat.sub_add_cancel (by omega)]
  have y1 : X * pm * M < N * 170141183460469231731687303715884105728 * X + X * M := by
    have e : X * pm * M = (pm - 1) * M * X + X * M := by
      rw [show X * pm = X * (pm - 1) + X by rw [← Nat.mul_succ, Nat.succ_eq_add_one, ← hpm0], Nat.add_mul]
      congr 1
      rw [Nat.mul_assoc, Nat.mul_comm]
    rw [e]
    have := Nat.mul_lt_mul_of_pos_right t1 (show 0 < X by omega)
    omega
  have y2 : N * 170141183460469231731687303715884105728 * X ≤ X * pm * M := by
    have := Nat.mul_le_mul_right X t2
    rwa [show pm * M * X = X * pm * M by rw [Nat.mul_right_comm, Nat.mul_comm pm X]] at this
  have hH0 : 0 < X * hi / 18446744073709551616 := by
    refine Nat.div_pos ?_ (by decide)
    calc 18446744073709551616 ≤ 4611686018427387904 * 9223372036854775808 := by decide
      _ ≤ X * hi := Nat.mul_le_mul (by omega) k1
  have m1 := Nat.mod_lt (X * hi) (show 0 < 18446744073709551616 by decide)
  have m2 := Nat.mod_lt (X * lo) (show 0 < 18446744073709551616 by decide)
  unfold uscS
  have hcase : s = 5 ∨ s = 6 ∨ s = 7 ∨ s = 8 := by omega
  rcases hcase with rfl | rfl | rfl | rfl
  · exact tells_u5 hM hD1 hD hX hX2 k3 e1 m1 e2 m2 hY y1 y2 hH0 hg
  · exact tells_u6 hM hD1 hD hX hX2 k3 e1 m1 e2 m2 hY y1 y2 hH0 hg
  · exact tells_u7 hM hD1 hD hX hX2 k3 e1 m1 e2 m2 hY y1 y2 hH0 hg
  · exact tells_u8 hM hD1 hD hX hX2 k3 e1 m1 e2 m2 hY y1 y2 hH0 hg
end Go.Proofs.YtglamimbkdldaaaGreatDoor
