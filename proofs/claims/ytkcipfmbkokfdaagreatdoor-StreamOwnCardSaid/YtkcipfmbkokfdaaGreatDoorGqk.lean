/-
  parseFloat64's answer is the nearest double: the tables of powers, held against the powers themselves.
-/
import Derived.Test.YtkcipfmbkokfdaaGreatDoorPak
import Derived.Test.YtkcipfmbkokfdaaGreatDoorAtk
namespace Go.Proofs.YtkcipfmbkokfdaaGreatDoor
open Go.RowKit Go.Sort Ieee

/-- Ten to the power of P - 348, between 1 and 2 by a power of two: NP / MP. -/
def NP (P : Nat) : Nat := if 348 ≤ P then 5 ^ (P - 348) else 2 ^ (((348 - P) * 108853 + 32767) / 32768 - (348 - P))
def MP (P : Nat) : Nat := if 348 ≤ P then 2 ^ ((P - 348) * 108853 / 32768 - (P - 348)) else 5 ^ (348 - P)
def tabB (P hi lo : Nat) : Bool :=
  decide (MP P ≤ NP P) && decide ((hi * 18446744073709551616 - lo - 1) * MP P < NP P * 170141183460469231731687303715884105728) && decide (NP P * 170141183460469231731687303715884105728 ≤ (hi * 18446744073709551616 - lo) * MP P) && gapB (NP P) (MP P)
def tabAll : List (Nat × Nat) → Nat → Bool
  | [], _ => true
  | x :: l, P => (decide (P < 48) || decide (638 < P) || tabB P x.1 x.2) && tabAll l (P + 1)
theorem tabAll_ok : tabAll Go.Pinned.pow10Rows 0 = true := by decide +kernel
theorem tabAll_get : ∀ (l : List (Nat × Nat)) (s i : Nat), tabAll l s = true → i < l.length → 48 ≤ s + i → s + i ≤ 638 → tabB (s + i) (l.getD i (0, 0)).1 (l.getD i (0, 0)).2 = true
  | [], _, _, _, h, _, _ => by simp at h
  | x :: l, s, 0, h, _, h1, h2 => by
    unfold tabAll at h
    rw [Bool.and_eq_true, Bool.or_eq_true, Bool.or_eq_true, decide_eq_true_eq, decide_eq_true_eq] at h
    rcases h.1 with (h | h) | h
    · omega
    · omega
    · exact h
  | x :: l, s, i + 1, h, hi, h1, h2 => by
    unfold tabAll at h
    rw [Bool.and_eq_true] at h
    have := tabAll_get l (s + 1) i h.2 (by simpa using hi) (by omega) (by omega)
    rw [show s + (i + 1) = s + 1 + i by omega]
    exact this

theorem tells_usc {X D hi lo N M H Mi m2 l2 Y : Nat} (hM : 0 < M) (hD1 : 9007199254740992 ≤ D) (hD2 : D < 18014398509481984) (hX : X = D * 1024) (hlo : lo < 18446744073709551616)
    (e1 : X * hi = H * 18446744073709551616 + Mi) (hMi : Mi < 18446744073709551616) (e2 : X * lo = m2 * 18446744073709551616 + l2) (hl2 : l2 < 18446744073709551616)
    (hY : Y + X * lo = X * hi * 18446744073709551616) (t1 : Y * M < N * 170141183460469231731687303715884105728 * X + X * M) (t2 : N * 170141183460469231731687303715884105728 * X ≤ Y * M) (hH0 : 0 < H) (hg : Gap N M) :
    Tells (uscOf H Mi m2) (2 * D * N) M := by
  have hXW : X ≤ 18446744073709551615 := by omega
  have hXl : X * lo ≤ 340282366920938463426481119284349108225 := by
    calc X * lo ≤ 18446744073709551615 * 18446744073709551615 := Nat.mul_le_mul hXW (by omega)
      _ = _ := by decide
  obtain ⟨DN, hDN⟩ : ∃ DN, DN = D * N := ⟨_, rfl⟩
  have hA : 2 * D * N = 2 * DN := by rw [hDN, Nat.mul_assoc]
  have hA2 : N * 170141183460469231731687303715884105728 * X = 2 * DN * 87112285931760246646623899502532662132736 := by
    rw [hDN, hX, Nat.mul_mul_mul_comm, Nat.mul_comm N D]
    clear t1 t2 hY e1 e2 hXl
    generalize D * N = z
    omega
  rw [hA2] at t1 t2
  have hXM : X * M + M ≤ 18446744073709551616 * M := by
    have : (X + 1) * M ≤ 18446744073709551616 * M := Nat.mul_le_mul_right _ (by omega)
    rwa [Nat.add_mul, Nat.one_mul] at this
  rw [e1] at hY
  rw [e2] at hY hXl
  have lo_lem : ∀ h, h * 87112285931760246646623899502532662132736 + 18446744073709551616 ≤ Y → h * M < 2 * DN := by
    intro h hh
    have := Nat.mul_le_mul_right M hh
    rw [Nat.add_mul, Nat.mul_right_comm] at this
    exact lin_lo t1 hXM this
  have hi_lem : ∀ h, Y < h * 87112285931760246646623899502532662132736 → 2 * DN < h * M := by
    intro h hh
    have := Nat.mul_lt_mul_of_pos_right hh hM
    rw [Nat.mul_right_comm] at this
    exact lin_hi t2 this
  rw [hA]
  have odd : ∀ h, h * 87112285931760246646623899502532662132736 + 18446744073709551616 ≤ Y → Y < (h + 1) * 87112285931760246646623899502532662132736 → Tells (h ||| 1) (2 * DN) M := by
    intro h k1 k2
    rw [or_one_eq]
    have a1 := lo_lem h k1
    have a2 := hi_lem (h + 1) k2
    right
    exact ⟨by omega, Nat.lt_of_le_of_lt (Nat.mul_le_mul_right _ (by omega)) a1, Nat.lt_of_lt_of_le a2 (Nat.mul_le_mul_right _ (by omega))⟩
  unfold uscOf
  by_cases hH : H / 256 * 256 ≠ H
  · rw [if_pos hH]
    exact odd _ (lin_odd hMi hXl hY hH).1 (lin_odd hMi hXl hY hH).2
  · rw [if_neg hH]
    obtain ⟨D2, hD2v⟩ : ∃ D2, D2 = subW Mi m2 := ⟨_, rfl⟩
    have hm2 : m2 ≤ 18446744073709551614 := by clear hY t1 t2 e1 e2 hA2; omega
    obtain ⟨H1, hH1⟩ : ∃ H1, H1 = H - (decide (Mi < m2)).toNat := ⟨_, rfl⟩
    rw [← hD2v, ← hH1]
    have hYY : Y + l2 = H1 * 340282366920938463463374607431768211456 + D2 * 18446744073709551616 := by
      rw [hH1, hD2v]
      unfold subW
      by_cases hlt : Mi < m2
      · rw [if_pos hlt, decide_eq_true hlt, Bool.toNat_true]; exact lin_sub hl2 hXl hY hlt hH0
      · rw [if_neg hlt, decide_eq_false hlt, Bool.toNat_false]; exact lin_sub2 hY (by omega)
    by_cases h1 : 1 < D2
    · rw [decide_eq_true h1, Bool.toNat_true]
      have hd : D2 ≤ 18446744073709551615 := by rw [hD2v]; exact subW_le _ _ (by clear hY t1 t2 e1 e2 hA2; omega) (by clear hY t1 t2 e1 e2 hA2; omega)
      exact odd _ (lin_D hl2 hd h1 hYY).1 (lin_D hl2 hd h1 hYY).2
    · rw [decide_eq_false h1, Bool.toNat_false, Nat.or_zero]
      have hge : m2 ≤ Mi := by
        rcases Nat.lt_or_ge Mi m2 with h | h
        · exfalso; rw [hD2v] at h1; unfold subW at h1; rw [if_pos h] at h1; clear hY t1 t2 e1 e2 hA2 hYY; omega
        · exact h
      have hHH : H1 = H / 256 * 256 := by rw [hH1, decide_eq_false (Nat.not_lt.2 hge), Bool.toNat_false]; exact (Decidable.not_not.1 hH).symm
      obtain ⟨h, hh⟩ : ∃ h, h = H / 256 := ⟨_, rfl⟩
      rw [← hh] at hHH
      have hq : H1 / 256 = h := by rw [hHH]; exact Nat.mul_div_cancel _ (by decide)
      rw [hq]
      rw [hHH] at hYY
      obtain ⟨u1, u2⟩ := lin_E hl2 h1 hYY
      rcases Nat.mod_two_eq_zero_or_one h with he | ho
      · left
        refine ⟨he, ?_⟩
        obtain ⟨n, hn⟩ : ∃ n, h = 2 * n := ⟨h / 2, by clear hY t1 t2 e1 e2 hA2 hYY u1 u2; omega⟩
        have v1 := Nat.mul_le_mul_right M u1
        have v2 := Nat.mul_le_mul_right M u2
        rw [Nat.add_mul, Nat.mul_right_comm, hn, Nat.mul_assoc 2 n M] at v1
        rw [Nat.add_mul, Nat.mul_right_comm, hn, Nat.mul_assoc 2 n M] at v2
        rw [hn, Nat.mul_assoc]
        refine congrArg (2 * ·) ?_
        refine Classical.byContradiction fun hne => ?_
        have hgap := hg D n (by clear hY t1 t2 e1 e2 hA2 hYY u1 u2 v1 v2; omega) hD2 (by rw [← hDN]; exact hne)
        rw [← hDN] at hgap
        exact lin_gap t1 t2 hXM v1 v2 hgap
      · right
        refine ⟨ho, ?_, ?_⟩
        · refine lo_lem (h - 1) ?_
          obtain ⟨g, hg'⟩ : ∃ g, h = g + 1 := ⟨h - 1, by clear hY t1 t2 e1 e2 hA2 hYY u1 u2; omega⟩
          rw [hg', Nat.add_sub_cancel]
          rw [hg'] at u2
          exact lin_f u2
        · exact hi_lem (h + 1) (lin_g u1)

theorem pow_pos_case (d x lp b j : Nat) (hx : x ≤ lp) (hb : b ≤ 54) (hj : j = 1021 + b + lp) :
    d * 10 ^ x * 2 ^ E0 * (4 * 2 ^ (lp - x)) = 2 * (d * 2 ^ (54 - b)) * 5 ^ x * (2 ^ j * 1) := by
  have hE := E0_eq
  have e1 : d * 10 ^ x * 2 ^ E0 * (4 * 2 ^ (lp - x)) = d * 5 ^ x * (2 ^ x * 2 ^ E0 * 2 ^ 2 * 2 ^ (lp - x)) := by
    rw [show (10 : Nat) = 2 * 5 from rfl, Nat.mul_pow, show (4 : Nat) = 2 ^ 2 from rfl]
    simp only [Nat.mul_assoc, Nat.mul_comm, Nat.mul_left_comm]
  have e2 : 2 * (d * 2 ^ (54 - b)) * 5 ^ x * (2 ^ j * 1) = d * 5 ^ x * (2 ^ 1 * 2 ^ (54 - b) * 2 ^ j) := by
    rw [Nat.mul_one, Nat.pow_one]
    simp only [Nat.mul_assoc, Nat.mul_comm, Nat.mul_left_comm]
  rw [e1, e2, ← Nat.pow_add, ← Nat.pow_add, ← Nat.pow_add, ← Nat.pow_add, ← Nat.pow_add]
  congr 2
  omega
theorem pow_neg_case (d y k b j : Nat) (hy : y ≤ k) (hb : b ≤ 54) (hj : j + k = 1021 + b) :
    d * 2 ^ E0 * (4 * 5 ^ y) = 2 * (d * 2 ^ (54 - b)) * 2 ^ (k - y) * (2 ^ j * 10 ^ y) := by
  have hE := E0_eq
  have e1 : d * 2 ^ E0 * (4 * 5 ^ y) = d * 5 ^ y * (2 ^ E0 * 2 ^ 2) := by
    rw [show (4 : Nat) = 2 ^ 2 from rfl]
    simp only [Nat.mul_assoc, Nat.mul_comm, Nat.mul_left_comm]
  have e2 : 2 * (d * 2 ^ (54 - b)) * 2 ^ (k - y) * (2 ^ j * 10 ^ y) = d * 5 ^ y * (2 ^ 1 * 2 ^ (54 - b) * 2 ^ (k - y) * 2 ^ j * 2 ^ y) := by
    rw [show (10 : Nat) = 2 * 5 from rfl, Nat.mul_pow, Nat.pow_one]
    simp only [Nat.mul_assoc, Nat.mul_comm, Nat.mul_left_comm]
  rw [e1, e2, ← Nat.pow_add, ← Nat.pow_add, ← Nat.pow_add, ← Nat.pow_add, ← Nat.pow_add]
  congr 2
  omega

/-- parseFloat64 gives the nearest double. -/
theorem pf_near (d P : Nat) (hd : 1 ≤ d) (hd' : d ≤ 999999999999999) (hP0 : 48 ≤ P) (hP : P ≤ 638) : pfBits d P = nearV d ((P : Int) - 348) := by
  obtain ⟨b1, b2, b3, b4⟩ := bitLen_bd d hd (by omega)
  have hus := pfU_bd d P hd (by omega) (by omega)
  have hb50 : Lib.bitLen d ≤ 50 := by
    rcases Nat.lt_or_ge 50 (Lib.bitLen d) with h | h
    · exfalso
      have : 2 ^ 50 ≤ 2 ^ (Lib.bitLen d - 1) := Nat.pow_le_pow_right (by decide) (by omega)
      have : (2 : Nat) ^ 50 = 1125899906842624 := by decide
      omega
    · exact h
  have hT : tabB P (tabHi P) (tabLo P) = true := by
    have := tabAll_get Go.Pinned.pow10Rows 0 P tabAll_ok (by rw [tab_all.1]; omega) (by omega) (by omega)
    rwa [Nat.zero_add] at this
  obtain ⟨k1, k2, k3⟩ := tab_ok P (by omega)
  unfold tabB at hT
  simp only [Bool.and_eq_true, decide_eq_true_eq] at hT
  obtain ⟨⟨⟨hMN, t1⟩, t2⟩, hgb⟩ := hT
  have hM : 0 < MP P := by
    unfold MP; split
    · exact Nat.two_pow_pos _
    · exact Nat.pow_pos (by decide)
  obtain ⟨b, hb⟩ : ∃ b, b = Lib.bitLen d := ⟨_, rfl⟩
  rw [← hb] at b1 b2 b3 b4 hb50
  obtain ⟨D, hD⟩ : ∃ D, D = d * 2 ^ (54 - b) := ⟨_, rfl⟩
  have hD1 : 9007199254740992 ≤ D := by
    rw [hD]
    calc 9007199254740992 = 2 ^ (b - 1) * 2 ^ (54 - b) := by rw [← Nat.pow_add, show b - 1 + (54 - b) = 53 by omega]
      _ ≤ _ := Nat.mul_le_mul_right _ b3
  have hD2 : D < 18014398509481984 := by
    rw [hD]
    calc d * 2 ^ (54 - b) < 2 ^ b * 2 ^ (54 - b) := Nat.mul_lt_mul_of_pos_right b4 (Nat.two_pow_pos _)
      _ = 18014398509481984 := by rw [← Nat.pow_add, show b + (54 - b) = 54 by omega]
  obtain ⟨X, hX⟩ : ∃ X, X = d * 2 ^ (64 - b) := ⟨_, rfl⟩
  have hXD : X = D * 1024 := by rw [hX, hD, show 64 - b = 54 - b + 10 by omega, Nat.pow_add, Nat.mul_assoc]
  obtain ⟨pm, hpm⟩ : ∃ pm, pm = tabHi P * 18446744073709551616 - tabLo P := ⟨_, rfl⟩
  rw [← hpm] at t1 t2
  have hpm0 : pm = pm - 1 + 1 := by omega
  have hTl : Tells (pfU d P) (2 * D * NP P) (MP P) := by
    have hu : pfU d P = uscOf (X * tabHi P / 18446744073709551616) (X * tabHi P % 18446744073709551616) (X * tabLo P / 18446744073709551616) := by
      unfold pfU usc; rw [← hb, ← hX]
    rw [hu]
    refine tells_usc (X := X) (hi := tabHi P) (lo := tabLo P) (l2 := X * tabLo P % 18446744073709551616) (Y := X * pm) hM hD1 hD2 hXD k3 ?_ (Nat.mod_lt _ (by decide)) ?_ (Nat.mod_lt _ (by decide)) ?_ ?_ ?_ ?_ (gap_of hgb)
    · have := Nat.div_add_mod (X * tabHi P) 18446744073709551616; omega
    · have := Nat.div_add_mod (X * tabLo P) 18446744073709551616; omega
    · rw [Nat.mul_assoc, ← Nat.mul_add, hpm, Nat.sub_add_cancel (by omega)]
    · have e : X * pm * MP P = (pm - 1) * MP P * X + X * MP P := by
        rw [show X * pm = X * (pm - 1) + X by rw [← Nat.mul_succ, Nat.succ_eq_add_one, ← hpm0], Nat.add_mul]
        congr 1
        rw [Nat.mul_assoc, Nat.mul_comm]
      rw [e]
      have := Nat.mul_lt_mul_of_pos_right t1 (show 0 < X by omega)
      omega
    · have := Nat.mul_le_mul_right X t2
      rwa [show pm * MP P * X = X * pm * MP P by rw [Nat.mul_right_comm, Nat.mul_comm pm X]] at this
    · refine Nat.div_pos ?_ (by decide)
      calc 18446744073709551616 ≤ 9223372036854775808 * 9223372036854775808 := by decide
        _ ≤ X * tabHi P := Nat.mul_le_mul (by omega) k1
  have hA : 18014398509481984 * MP P ≤ 2 * D * NP P := Nat.mul_le_mul (by omega) hMN
  -- the exponent
  obtain ⟨j, hj, hjx⟩ : ∃ j : Nat, (j : Int) = 1021 + b + ((P : Int) - 348) * 108853 / 32768 ∧ vN d ((P : Int) - 348) * (4 * MP P) = 2 * D * NP P * (2 ^ j * vD ((P : Int) - 348)) := by
    rcases Nat.lt_or_ge P 348 with hlt | hge
    · obtain ⟨y, hy⟩ : ∃ y, y = 348 - P := ⟨_, rfl⟩
      obtain ⟨k, hk⟩ : ∃ k, k = (y * 108853 + 32767) / 32768 := ⟨_, rfl⟩
      refine ⟨1021 + b - k, by omega, ?_⟩
      have ev : vN d ((P : Int) - 348) = d * 2 ^ E0 := by unfold vN; rw [if_neg (by omega)]
      have ed : vD ((P : Int) - 348) = 10 ^ y := by unfold vD; rw [if_neg (by omega)]; congr 1; omega
      have em : MP P = 5 ^ y := by unfold MP; rw [if_neg (by omega), hy]
      have en : NP P = 2 ^ (k - y) := by unfold NP; rw [if_neg (by omega), ← hy, ← hk]
      rw [ev, ed, em, en, hD]
      exact pow_neg_case d y k b _ (by omega) (by omega) (by omega)
    · obtain ⟨x, hx⟩ : ∃ x, x = P - 348 := ⟨_, rfl⟩
      obtain ⟨lp, hlp⟩ : ∃ lp, lp = x * 108853 / 32768 := ⟨_, rfl⟩
      refine ⟨1021 + b + lp, by omega, ?_⟩
      have ev : vN d ((P : Int) - 348) = d * 10 ^ x * 2 ^ E0 := by unfold vN; rw [if_pos (by omega), show ((P : Int) - 348).toNat = x by omega]
      have ed : vD ((P : Int) - 348) = 1 := by unfold vD; rw [if_pos (by omega)]
      have em : MP P = 2 ^ (lp - x) := by unfold MP; rw [if_pos hge, ← hx, ← hlp]
      have en : NP P = 5 ^ x := by unfold NP; rw [if_pos hge, hx]
      rw [ev, ed, em, en, hD]
      exact pow_pos_case d x lp b _ (by omega) (by omega) rfl
  have hn := near_round (c := pfC d P) (v := pfV d P) hM (vD_pos _) hA (by omega) hTl hjx rfl (by
    unfold pfV stick
    cases pfC d P
    · rfl
    · by_cases h : pfU d P % 2 = 1
      · simp [h]
      · simp [h])
  have hr := pfR_bd d P hd (by omega) (by omega)
  have hc := toNat_le_one (pfC d P)
  have hfin : pfBits d P = (j + (pfC d P).toNat) * 4503599627370496 + (pfV d P + 1 + pfV d P / 4 % 2) / 4 := by
    have hR : pfR d P = (pfV d P + 1 + pfV d P / 4 % 2) / 4 := rfl
    unfold pfBits
    rw [← hR, ← hb]
    generalize pfR d P = r at *
    generalize (pfC d P).toNat = c at *
    rw [show (1075 + -(53 - (b : Int) - ((P : Int) - 348) * 108853 / 32768 - (c : Int))).toNat = j + c + 1 by omega]
    omega
  rw [hfin]
  exact hn.unique (nearV_near d _ hd (by omega))
/-- The program's bits are those of the nearest double. -/
theorem bitsD_near (d : Nat) (x : Int) (hd : 1 ≤ d) (hd' : d ≤ 999999999999999) (hx : -300 ≤ x) (hx' : x ≤ 290) : bitsD d x = nearV d x := by
  unfold bitsD
  split
  · rfl
  · rw [pf_near d _ hd hd' (by omega) (by omega)]
    congr 1
    omega
end Go.Proofs.YtkcipfmbkokfdaaGreatDoor
