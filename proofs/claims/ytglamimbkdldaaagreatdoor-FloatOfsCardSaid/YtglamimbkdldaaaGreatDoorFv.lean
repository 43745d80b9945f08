import Derived.Test.YtglamimbkdldaaaGreatDoorFu2
import Derived.Test.YtglamimbkdldaaaGreatDoorOt
namespace Go.Proofs.YtglamimbkdldaaaGreatDoor
open Go.RowKit Go.Sort

theorem and_2047 (n : Nat) (h : n < 9223372036854775808) : bits BinOp.and IntKind.i64 (n : Int) 2047 = ((n % 2048 : Nat) : Int) := by
  have hb : bits BinOp.and IntKind.i64 (n : Int) 2047 = IntKind.i64.wrap ((BitVec.ofInt 64 (n : Int) &&& 2047#64).toNat : Int) := rfl
  rw [hb, BitVec.toNat_and]
  have e1 : (BitVec.ofInt 64 (n : Int)).toNat = n := by
    rw [BitVec.toNat_ofInt]; omega
  rw [e1, show (2047#64).toNat = 2 ^ 11 - 1 from rfl, Nat.and_two_pow_sub_one_eq_mod, IntWalk.i64_in _ (by omega)]
theorem and_frac (n : Nat) (h : n < 18446744073709551616) : bits BinOp.and IntKind.u64 (n : Int) 4503599627370495 = ((n % 4503599627370496 : Nat) : Int) := by
  have := u64_and_nat n 4503599627370495 h (by decide)
  rw [show (4503599627370495 : Nat) = 2 ^ 52 - 1 by decide, Nat.and_two_pow_sub_one_eq_mod] at this
  exact this
theorem or_hid (r : Nat) (h : r < 4503599627370496) : bits BinOp.or IntKind.u64 (r : Int) 4503599627370496 = ((r + 4503599627370496 : Nat) : Int) := by
  have := u64_or_nat r 4503599627370496 (by omega) (by decide)
  rw [Nat.or_comm, show (4503599627370496 : Nat) = 2 ^ 52 * 1 by decide, ← Nat.two_pow_add_eq_or_of_lt (by omega : r < 2 ^ 52)] at this
  rw [show r + 4503599627370496 = 2 ^ 52 * 1 + r by omega]
  exact this
theorem len_norm (r : Nat) (h : r < 4503599627370496) (w : World) : Calls Tryz.prog 68 #[.int .u64 ((r : Int) + 4503599627370496)] w fun e w' => e = .returned (.int .i64 53) ∧ w' = w := by
  have h1 := Tryz.bits_Len64 ((r : Int) + 4503599627370496) w (by omega) (by omega)
  obtain ⟨b1, b2, b3, b4⟩ := bitLen_bd (r + 4503599627370496) (by omega) (by omega)
  have e : ((r : Int) + 4503599627370496).toNat = r + 4503599627370496 := by omega
  rw [e] at h1
  have h53 : Lib.bitLen (r + 4503599627370496) = 53 := by
    generalize Lib.bitLen (r + 4503599627370496) = b at *
    rcases (by omega : b < 53 ∨ b = 53 ∨ 53 < b) with h | h | h
    · have : (2 : Nat) ^ b ≤ 2 ^ 52 := Nat.pow_le_pow_right (by decide) (by omega)
      have : (2 : Nat) ^ 52 = 4503599627370496 := by decide
      omega
    · exact h
    · have : (2 : Nat) ^ 53 ≤ 2 ^ (b - 1) := Nat.pow_le_pow_right (by decide) (by omega)
      have : (2 : Nat) ^ 53 = 9007199254740992 := by decide
      omega
  rw [h53] at h1
  exact h1
theorem len_sub (r : Nat) (h0 : 1 ≤ r) (h : r < 4503599627370496) : ∃ z : Nat, 12 ≤ z ∧ z ≤ 63 ∧ 9223372036854775808 ≤ r * 2 ^ z ∧ r * 2 ^ z < 18446744073709551616 ∧
    ∀ w, Calls Tryz.prog 68 #[.int .u64 (r : Int)] w fun e w' => e = .returned (.int .i64 (64 - (z : Int))) ∧ w' = w := by
  obtain ⟨b1, b2, b3, b4⟩ := bitLen_bd r h0 (by omega)
  have hs := shift_bd r h0 (by omega)
  have h52 : Lib.bitLen r ≤ 52 := by
    rcases Nat.lt_or_ge 52 (Lib.bitLen r) with h9 | h9
    · exfalso
      have : (2 : Nat) ^ 52 ≤ 2 ^ (Lib.bitLen r - 1) := Nat.pow_le_pow_right (by decide) (by omega)
      have : (2 : Nat) ^ 52 = 4503599627370496 := by decide
      omega
    · exact h9
  refine ⟨64 - Lib.bitLen r, by omega, by omega, hs.1, hs.2, fun w => ?_⟩
  have h1 := Tryz.bits_Len64 (r : Int) w (by omega) (by omega)
  rw [Int.toNat_natCast] at h1
  rw [show (64 : Int) - ((64 - Lib.bitLen r : Nat) : Int) = (Lib.bitLen r : Int) by omega]
  exact h1
/-- shortFloat at the least normal double. -/
theorem sf_least : ∃ (d : Nat) (p : Int), 1 ≤ d ∧ d < 1000000000000000000 ∧ -400 ≤ p ∧ p ≤ -322 ∧ ∀ w, Tabs w →
      Calls Tryz.prog 83 #[.int .u64 ((((0 : Nat) : Int) + 4503599627370496) * 2048), .int .i64 (((1 : Nat) : Int) + -1023 - 11 - 52)] w fun e w' => e = .returned (.tuple #[.int .u64 d, .int .i64 p]) ∧ Ext w w' := by
  obtain ⟨t1, t2, t3⟩ := tab_ok 672 (by decide)
  obtain ⟨U0, hU0⟩ : ∃ U0, U0 = uscS 9223372036854774784 (tabHi 672) (tabLo 672) 6 := ⟨_, rfl⟩
  obtain ⟨U1, hU1⟩ : ∃ U1, U1 = uscS 9223372036854776832 (tabHi 672) (tabLo 672) 6 := ⟨_, rfl⟩
  obtain ⟨U2, hU2⟩ : ∃ U2, U2 = uscS 9223372036854775808 (tabHi 672) (tabLo 672) 6 := ⟨_, rfl⟩
  have b0 := uscS_bd 9223372036854774784 (tabHi 672) (tabLo 672) 6 (by decide) (by decide) t1 (by omega) (by decide) (by decide)
  have b1 := uscS_bd 9223372036854776832 (tabHi 672) (tabLo 672) 6 (by decide) (by decide) t1 (by omega) (by decide) (by decide)
  have b2 := uscS_bd 9223372036854775808 (tabHi 672) (tabLo 672) 6 (by decide) (by decide) t1 (by omega) (by decide) (by decide)
  rw [← hU0] at b0
  rw [← hU1] at b1
  rw [← hU2] at b2
  have hbd := sfV_bd (R0 := U0) (R1 := U1) (U2 := U2) (p := 324) (by omega) (by omega) b2.2 (by decide) (by decide)
  have hps := sfV_pos (R0 := U0) (R1 := U1) (U2 := U2) (p := 324) (by omega) b2.1
  have hex := sfV_exp (R0 := U0) (R1 := U1) (U2 := U2) (p := 324)
  refine ⟨_, _, hps, hbd.1, hbd.2.1, by omega, fun W T => ?_⟩
  have hh : ∀ y, 9223372036854775808 ≤ y * 2 → 18446744073709551616 ≤ y * tabHi 672 := fun y hy =>
    Nat.le_trans (by decide) (Nat.mul_le_mul (show 4611686018427387904 ≤ y by omega) t1)
  have h := sf_walk3 9223372036854775808 U0 U1 U2 U0 U1 6 (tabHi 672) (tabLo 672) 672 (-1085) 1076 0 W (by decide) (by decide) (by decide) (by decide) (by decide) (by decide) (by decide) (by decide) (by decide) (by decide) (by decide) (by decide) b0.1 b0.2 b1.1 b1.2 b2.2 (by omega) (by omega) T.size
    (fun w => by have := log2p10_walk 324 w (by decide) (by decide); exact this)
    (fun w k c0 c1 c2 => by have := uscaleG 9223372036854774784 _ _ k 6 w (by decide) (by decide) (by omega) t3 (hh _ (by decide)) c0 c1 c2; rw [← hU0] at this; exact this)
    (fun w k c0 c1 c2 => by have := uscaleG 9223372036854776832 _ _ k 6 w (by decide) (by decide) (by omega) t3 (hh _ (by decide)) c0 c1 c2; rw [← hU1] at this; exact this)
    (fun w k c0 c1 c2 => by have := uscaleG 9223372036854775808 _ _ k 6 w (by decide) (by decide) (by omega) t3 (hh _ (by decide)) c0 c1 c2; rw [← hU2] at this; exact this)
    (T.hi 672 (by decide)) (T.lo 672 (by decide))
  exact h
/-- shortFloat at a normal double. -/
theorem sf_norm (q r : Nat) (hq : 1 ≤ q) (hq' : q ≤ 2046) (hr' : r < 4503599627370496) :
    ∃ (d : Nat) (p : Int), Spec (q * 4503599627370496 + r) d p ∧ d < 1000000000000000000 ∧ -400 ≤ p ∧ p ≤ 400 ∧ ∀ w, Tabs w →
      Calls Tryz.prog 83 #[.int .u64 (((r : Int) + 4503599627370496) * 2048), .int .i64 ((q : Int) + -1023 - 11 - 52)] w fun e w' => e = .returned (.tuple #[.int .u64 d, .int .i64 p]) ∧ Ext w w' := by
  rcases Nat.eq_zero_or_pos r with rfl | h0
  · rcases (by omega : q = 1 ∨ 2 ≤ q) with rfl | h2
    · obtain ⟨d, p, h1, h2, h3, h4, h5⟩ := sf_least
      exact ⟨d, p, spec_tiny (by decide) h1 h2 h4, h2, h3, by omega, h5⟩
    · exact sf_skew q h2 hq'
  · exact sf_reg q r hq hq' h0 hr'
/-- What FormatFloat says of a finite double but 0. -/
theorem ff_all (f : Nat) (hf : f < 18446744073709551616) (hfin : f % 9223372036854775808 < 9218868437227405312) (h0 : f % 9223372036854775808 ≠ 0) :
    ∃ (d n nz : Nat) (p : Int), Spec (f % 9223372036854775808) d p ∧ d < 1000000000000000000 ∧ -400 ≤ p ∧ p ≤ 400 ∧ n = Lib.nDigits d ∧ n ≤ 18 ∧ nz = trimZ (fun t => Lib.dg d (n - 1 - t)) n ∧ 1 ≤ nz ∧ nz ≤ n ∧ d = d / 10 ^ (n - nz) * 10 ^ (n - nz) ∧ d / 10 ^ (n - nz) % 10 ≠ 0 ∧
      ∀ w, Tabs w → Calls Tryz.prog 42 #[.float .f64 f, .int .u8 101, .int .i64 (-1), .int .i64 64] w fun e w' => e = .returned (.string ⟨((if decide (9223372036854775808 ≤ f) then [45] else []) ++ digT (fun t => Lib.dg d (n - 1 - t)) nz ++ expT ((n : Int) + p - 1)).toArray⟩) ∧ Below w.heap.size w w' := by
  obtain ⟨q, hq⟩ : ∃ q, q = f / 4503599627370496 % 2048 := ⟨_, rfl⟩
  obtain ⟨r, hr⟩ : ∃ r, r = f % 4503599627370496 := ⟨_, rfl⟩
  have hfr : f % 9223372036854775808 = q * 4503599627370496 + r := by omega
  have hq6 : q ≤ 2046 := by omega
  have hr5 : r < 4503599627370496 := by omega
  have hsg : ((f : Int) / 9223372036854775808 != 0) = decide (9223372036854775808 ≤ f) := by
    by_cases h : 9223372036854775808 ≤ f
    · rw [decide_eq_true h, bne_iff_ne]; omega
    · rw [decide_eq_false h, bne_eq_false_iff_eq]; omega
  have b1 : bits BinOp.and IntKind.i64 ((f : Int) / 4503599627370496) 2047 = (q : Int) := by
    rw [show (f : Int) / 4503599627370496 = ((f / 4503599627370496 : Nat) : Int) by omega, and_2047 _ (by omega), hq]
  have b2 : bits BinOp.and IntKind.u64 (f : Int) 4503599627370495 = (r : Int) := by rw [and_frac f hf, hr]
  have fin : ∀ (d : Nat) (p : Int), Spec (f % 9223372036854775808) d p → d < 1000000000000000000 → -400 ≤ p → p ≤ 400 →
      (∀ n nz v W w, Tabs w → OwnB w W.heap.size v [] → Below W.heap.size W w → n = Lib.nDigits d → n ≤ 20 → nz = trimZ (fun t => Lib.dg d (n - 1 - t)) n → 1 ≤ nz → nz ≤ n →
        Calls Tryz.prog 59 #[v, .float .f64 f, .int .u8 101, .int .i64 (-1)] w fun e w' =>
          ∃ v', e = .returned v' ∧ OwnB w' W.heap.size v' ((if decide (9223372036854775808 ≤ f) then [45] else []) ++ digT (fun t => Lib.dg d (n - 1 - t)) nz ++ expT ((n : Int) + p - 1)) ∧ Below W.heap.size W w') →
      ∃ (d n nz : Nat) (p : Int), Spec (f % 9223372036854775808) d p ∧ d < 1000000000000000000 ∧ -400 ≤ p ∧ p ≤ 400 ∧ n = Lib.nDigits d ∧ n ≤ 18 ∧ nz = trimZ (fun t => Lib.dg d (n - 1 - t)) n ∧ 1 ≤ nz ∧ nz ≤ n ∧ d = d / 10 ^ (n - nz) * 10 ^ (n - nz) ∧ d / 10 ^ (n - nz) % 10 ≠ 0 ∧
      ∀ w, Tabs w → Calls Tryz.prog 42 #[.float .f64 f, .int .u8 101, .int .i64 (-1), .int .i64 64] w fun e w' => e = .returned (.string ⟨((if decide (9223372036854775808 ≤ f) then [45] else []) ++ digT (fun t => Lib.dg d (n - 1 - t)) nz ++ expT ((n : Int) + p - 1)).toArray⟩) ∧ Below w.heap.size w w' := by
    intro d p hS hd hp hp' K
    have hn := Lib.lt_pow_nDigits d
    have hn18 : Lib.nDigits d ≤ 18 := nDigits_le d 18 (by rw [show (10 : Nat) ^ 18 = 1000000000000000000 by decide]; exact hd) (by decide)
    obtain ⟨nz, e1, g1, g2, g3, g4⟩ := trim_spec d (Lib.nDigits d) hS.pos hn (Lib.nDigits d) (Nat.le_refl _) (by rw [Nat.sub_self, Nat.pow_zero, Nat.mod_one])
    refine ⟨d, Lib.nDigits d, nz, p, hS, hd, hp, hp', rfl, hn18, e1, g1, g2, g3, g4, fun w T => ?_⟩
    refine iff_walk f _ w T (by intro h; have := congrArg List.length h; simp [expT] at this) fun v w1 T1 hO hB => ?_
    exact K _ nz v w w1 T1 hO hB rfl (by omega) e1 g1 g2
  rcases Nat.eq_zero_or_pos q with hq0 | hq0
  · have hr1 : 1 ≤ r := by omega
    obtain ⟨z, z1, z2, z3, z4, z5⟩ := len_sub r hr1 hr5
    obtain ⟨d, p, h1, h2, h3, h4, h5⟩ := sf_tiny r z z1 z2 z3 z4
    refine fin d p (spec_tiny (by omega) h1 h2 h4) h2 h3 (by omega) fun n nz v W w T hO hB hn hn' hnz k1 k2 => ?_
    exact ft_walk1 f r d n nz z p ((n : Int) + p - 1) _ v W w T hO hB hf hr5 hr1 z1 z2 z4 hsg (by rw [b1, hq0]; rfl) b2 h1 (by omega) hn hn' hnz k1 k2 rfl h3 (by omega) z5 h5
  · obtain ⟨d, p, hS, h2, h3, h4, h5⟩ := sf_norm q r hq0 hq6 hr5
    rw [← hfr] at hS
    refine fin d p hS h2 h3 h4 fun n nz v W w T hO hB hn hn' hnz k1 k2 => ?_
    exact ft_walk0 f q r d n nz p ((n : Int) + p - 1) _ v W w T hO hB hf hq0 hq6 hr5 hsg b1 b2 (or_hid r hr5) hS.pos (by omega) hn hn' hnz k1 k2 rfl h3 h4 (fun w => len_norm r hr5 w) h5
end Go.Proofs.YtglamimbkdldaaaGreatDoor
