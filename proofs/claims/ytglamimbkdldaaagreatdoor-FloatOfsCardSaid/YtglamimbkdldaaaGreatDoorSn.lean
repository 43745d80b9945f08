import Derived.Test.YtglamimbkdldaaaGreatDoorSk2
import Derived.Test.YtglamimbkdldaaaGreatDoorFt
namespace Go.Proofs.YtglamimbkdldaaaGreatDoor
open Go.RowKit Go.Sort

/-- The double's place in the powers' table, and the shift, for other doubles than powers of two. -/
def rgP (q : Nat) : Nat := (348 - ((q : Int) - 1075) * 78913 / 262144).toNat
def rgL (q : Nat) : Int := ((rgP q : Int) - 348) * 108853 / 32768
def rgS (q : Nat) : Nat := (1083 - (q : Int) - rgL q).toNat
def rgChk (q P s N M : Nat) (L : Int) : Bool :=
  decide ((P : Int) = 348 - ((q : Int) - 1075) * 78913 / 262144) && decide ((s : Int) = 1083 - (q : Int) - L) && decide (5 ≤ s) && decide (s ≤ 8) && decide (48 ≤ P) && decide (P ≤ 672) && decide (M ≤ 2 ^ (8 - s) * N) && decide (2 ^ (8 - s) * N < 10 * M)
theorem rg_all : ((List.range 2046).all fun i => rgChk (i + 1) (rgP (i + 1)) (rgS (i + 1)) (NP (rgP (i + 1))) (MP (rgP (i + 1))) (rgL (i + 1))) = true := by decide +kernel
theorem rg_of (q : Nat) (hq : 1 ≤ q) (hq' : q ≤ 2046) : (rgP q : Int) = 348 - ((q : Int) - 1075) * 78913 / 262144 ∧ (rgS q : Int) = 1083 - (q : Int) - rgL q ∧ 5 ≤ rgS q ∧ rgS q ≤ 8 ∧ 48 ≤ rgP q ∧ rgP q ≤ 672 ∧ MP (rgP q) ≤ 2 ^ (8 - rgS q) * NP (rgP q) ∧ 2 ^ (8 - rgS q) * NP (rgP q) < 10 * MP (rgP q) := by
  have h := List.all_eq_true.1 rg_all (q - 1) (List.mem_range.2 (by omega))
  rw [show q - 1 + 1 = q by omega] at h
  unfold rgChk at h
  simp only [Bool.and_eq_true, decide_eq_true_eq] at h
  obtain ⟨⟨⟨⟨⟨⟨⟨a, b⟩, c⟩, d⟩, e⟩, f⟩, g⟩, k⟩ := h
  exact ⟨a, b, c, d, e, f, g, k⟩
theorem and_one (u : Nat) (h : u < 9007199254740992) : bits BinOp.and IntKind.i64 (u : Int) 1 = ((u % 2 : Nat) : Int) := by
  have hb : bits BinOp.and IntKind.i64 (u : Int) 1 = IntKind.i64.wrap ((BitVec.ofInt 64 (u : Int) &&& 1#64).toNat : Int) := rfl
  rw [hb, BitVec.toNat_and]
  have e1 : (BitVec.ofInt 64 (u : Int)).toNat = u := by
    rw [BitVec.toNat_ofInt]; omega
  rw [e1, show (1#64).toNat = 2 ^ 1 - 1 from rfl, Nat.and_two_pow_sub_one_eq_mod, IntWalk.i64_in _ (by omega)]
theorem tells_bd {U y w M : Nat} (hM : 0 < M) (h1 : M ≤ w) (h2 : w < 10 * M) (hy : 3 ≤ y) (hy' : y < 18014398509481984) (h : Tells U (2 * (y * w)) M) : 4 ≤ U ∧ U < 1000000000000000000 := by
  have k1 : 3 * M ≤ y * w := Nat.mul_le_mul hy h1
  have k2 : y * w ≤ 18014398509481984 * (10 * M) := Nat.mul_le_mul (by omega) (by omega)
  generalize y * w = z at *
  have hU : 2 * z ≤ (U + 1) * M ∧ U * M ≤ 2 * z + M := by
    rcases h with ⟨_, h⟩ | ⟨h0, h, h'⟩
    · rw [Nat.add_mul]; omega
    · refine ⟨by omega, ?_⟩
      have : U * M = (U - 1) * M + M := by rw [← Nat.succ_mul]; congr 1; omega
      omega
  constructor
  · rcases Nat.lt_or_ge U 5 with h5 | h5
    · have := Nat.mul_le_mul_right M (show U + 1 ≤ 5 by omega)
      omega
    · omega
  · rcases Nat.lt_or_ge U 1000000000000000000 with h5 | h5
    · exact h5
    · have := Nat.mul_le_mul_right M h5
      omega
theorem sfV_bd {R0 R1 U2 : Nat} {p : Int} (h0 : R0 < 1000000000000000001) (h1 : R1 < 1000000000000000000) (h2 : U2 < 1000000000000000000) (hp : -390 ≤ p) (hp' : p ≤ 390) : (sfV R0 R1 U2 p).1 < 1000000000000000000 ∧ -400 ≤ (sfV R0 R1 U2 p).2 ∧ (sfV R0 R1 U2 p).2 ≤ 400 := by
  unfold sfV
  split
  · simp only; omega
  · split
    · simp only; omega
    · simp only; omega
/-- shortFloat at a normal double that is no power of two. -/
theorem sf_reg (q r : Nat) (hq : 1 ≤ q) (hq' : q ≤ 2046) (hr : 1 ≤ r) (hr' : r < 4503599627370496) :
    ∃ (d : Nat) (p : Int), Spec (q * 4503599627370496 + r) d p ∧ d < 1000000000000000000 ∧ -400 ≤ p ∧ p ≤ 400 ∧ ∀ w, Tabs w →
      Calls Tryz.prog 83 #[.int .u64 (((r : Int) + 4503599627370496) * 2048), .int .i64 ((q : Int) + -1023 - 11 - 52)] w fun e w' => e = .returned (.tuple #[.int .u64 d, .int .i64 p]) ∧ Ext w w' := by
  obtain ⟨g1, g2, g3, g4, g5, g6, g7, g8⟩ := rg_of q hq hq'
  obtain ⟨P, hP⟩ : ∃ P, P = rgP q := ⟨_, rfl⟩
  obtain ⟨s, hs⟩ : ∃ s, s = rgS q := ⟨_, rfl⟩
  obtain ⟨L, hL⟩ : ∃ L, L = rgL q := ⟨_, rfl⟩
  have hLP : L = ((P : Int) - 348) * 108853 / 32768 := by rw [hL, hP]; rfl
  rw [← hP] at g1 g5 g6 g7 g8
  rw [← hs] at g2 g3 g4 g7 g8
  rw [← hL] at g2
  clear hP hs hL
  obtain ⟨u, hu⟩ : ∃ u, u = r + 4503599627370496 := ⟨_, rfl⟩
  have hM := MP_pos P
  obtain ⟨w, hw⟩ : ∃ w, w = 2 ^ (8 - s) * NP P := ⟨_, rfl⟩
  obtain ⟨t1, t2, t3⟩ := tab_ok P (by omega)
  have hpow : (2 : Nat) ^ (8 - s) * 2 ^ (s + 2) = 1024 := by rw [← Nat.pow_add, show 8 - s + (s + 2) = 10 by omega]
  have hp8 : (2 : Nat) ^ (8 - s) ≤ 8 := by
    calc (2 : Nat) ^ (8 - s) ≤ 2 ^ 3 := Nat.pow_le_pow_right (by decide) (by omega)
      _ = 8 := by decide
  have tl : ∀ y X : Nat, X = 1024 * y → 9223372036854775808 ≤ X * 2 → X ≤ 18446744073709551615 → Tells (uscS X (tabHi P) (tabLo P) s) (2 * (y * w)) (MP P) := by
    intro y X hX hX1 hX2
    have hy : y * 2 ^ (8 - s) < 288230376151711744 := by
      calc y * 2 ^ (8 - s) ≤ y * 8 := Nat.mul_le_mul_left _ hp8
        _ < _ := by omega
    have := tells_short s X (y * 2 ^ (8 - s)) P g3 g4 (by rw [Nat.mul_assoc, hpow, hX, Nat.mul_comm]) hX1 hX2 hy g5 g6
    rwa [hw, ← Nat.mul_assoc y, ← Nat.mul_assoc 2]
  have T0 := tl (2 * u - 1) (u * 2048 - 1024) (by omega) (by omega) (by omega)
  have T1 := tl (2 * u + 1) (u * 2048 + 1024) (by omega) (by omega) (by omega)
  have T2 := tl (2 * u) (u * 2048) (by omega) (by omega) (by omega)
  obtain ⟨U0, hU0⟩ : ∃ U0, U0 = uscS (u * 2048 - 1024) (tabHi P) (tabLo P) s := ⟨_, rfl⟩
  obtain ⟨U1, hU1⟩ : ∃ U1, U1 = uscS (u * 2048 + 1024) (tabHi P) (tabLo P) s := ⟨_, rfl⟩
  obtain ⟨U2, hU2⟩ : ∃ U2, U2 = uscS (u * 2048) (tabHi P) (tabLo P) s := ⟨_, rfl⟩
  rw [← hU0] at T0
  rw [← hU1] at T1
  rw [← hU2] at T2
  rw [← hw] at g7 g8
  have b0 := tells_bd hM g7 g8 (by omega) (by omega) T0
  have b1 := tells_bd hM g7 g8 (by omega) (by omega) T1
  have b2 := tells_bd hM g7 g8 (by omega) (by omega) T2
  obtain ⟨j, rfl⟩ : ∃ j, q = j + 1 := ⟨q - 1, by omega⟩
  have hE : ScaleAt j P s := by unfold ScaleAt; rw [← hLP]; omega
  obtain ⟨R0, hR0⟩ : ∃ R0, R0 = U0 + u % 2 := ⟨_, rfl⟩
  obtain ⟨R1, hR1⟩ : ∃ R1, R1 + u % 2 = U1 := ⟨U1 - u % 2, by omega⟩
  have hsp := spec_of (u := u) (j := j) (P := P) (s := s) (R0 := R0) (R1 := R1) (by omega) (by omega) g4 hE (by rw [← hw]; exact g7) (by rw [← hw]; exact g8) (by rw [← hw]; exact T0) (by rw [← hw]; exact T1) (by rw [← hw]; exact T2) hR0 hR1
  have hbd := sfV_bd (R0 := R0) (R1 := R1) (U2 := U2) (p := (P : Int) - 348) (by omega) (by omega) b2.2 (by omega) (by omega)
  refine ⟨_, _, ?_, hbd.1, hbd.2.1, hbd.2.2, fun W T => ?_⟩
  · have : (j + 1) * 4503599627370496 + r = j * 4503599627370496 + u := by omega
    rw [this]; exact hsp
  · have hh : ∀ y, 9223372036854775808 ≤ y * 2 → 18446744073709551616 ≤ y * tabHi P := fun y hy =>
      Nat.le_trans (by decide) (Nat.mul_le_mul (show 4611686018427387904 ≤ y by omega) t1)
    have hcast : ((r : Int) + 4503599627370496) * 2048 = ((u * 2048 : Nat) : Int) := by omega
    rw [hcast]
    have hdiv : ((u * 2048 : Nat) : Int) / 2048 = (u : Int) := by omega
    refine sf_walk0 (u * 2048) U0 U1 U2 R0 R1 s (tabHi P) (tabLo P) P _ L ((u % 2 : Nat) : Int) W (by omega) (by omega) (by omega) (by omega) (by omega) (by omega) (by omega) (by omega) (by omega) (by omega) (by rw [hdiv]; exact and_one u (by omega)) (by omega) b0.1 b0.2 b1.1 b1.2 b2.2 (by omega) (by omega) T.size (fun w => ?_) (fun w k c0 c1 c2 => ?_) (fun w k c0 c1 c2 => ?_) (fun w k c0 c1 c2 => ?_) (T.hi P (by omega)) (T.lo P (by omega))
    · rw [hLP]; exact log2p10_walk _ w (by omega) (by omega)
    · have := uscaleG (u * 2048 - 1024) _ _ k s w (by omega) (by omega) (by omega) t3 (hh _ (by omega)) c0 c1 c2
      rw [← hU0] at this
      rw [show ((u * 2048 : Nat) : Int) - 1024 = ((u * 2048 - 1024 : Nat) : Int) by omega]
      exact this
    · have := uscaleG (u * 2048 + 1024) _ _ k s w (by omega) (by omega) (by omega) t3 (hh _ (by omega)) c0 c1 c2
      rw [← hU1] at this
      rw [show ((u * 2048 : Nat) : Int) + 1024 = ((u * 2048 + 1024 : Nat) : Int) by omega]
      exact this
    · have := uscaleG (u * 2048) _ _ k s w (by omega) (by omega) (by omega) t3 (hh _ (by omega)) c0 c1 c2
      rw [← hU2] at this
      exact this
/-- shortFloat at a power of two. -/
theorem sf_skew (q : Nat) (hq : 2 ≤ q) (hq' : q ≤ 2046) :
    ∃ (d : Nat) (p : Int), Spec (q * 4503599627370496 + 0) d p ∧ d < 1000000000000000000 ∧ -400 ≤ p ∧ p ≤ 400 ∧ ∀ w, Tabs w →
      Calls Tryz.prog 83 #[.int .u64 ((((0 : Nat) : Int) + 4503599627370496) * 2048), .int .i64 ((q : Int) + -1023 - 11 - 52)] w fun e w' => e = .returned (.tuple #[.int .u64 d, .int .i64 p]) ∧ Ext w w' := by
  have F := sk_of q hq hq'
  obtain ⟨P, hP⟩ : ∃ P, P = skP q := ⟨_, rfl⟩
  obtain ⟨s, hs⟩ : ∃ s, s = skS q := ⟨_, rfl⟩
  obtain ⟨U0, hU0⟩ : ∃ U0, U0 = skU0 q := ⟨_, rfl⟩
  obtain ⟨U1, hU1⟩ : ∃ U1, U1 = skU1 q := ⟨_, rfl⟩
  obtain ⟨U2, hU2⟩ : ∃ U2, U2 = skU2 q := ⟨_, rfl⟩
  have hLP : skL q = ((P : Int) - 348) * 108853 / 32768 := by rw [hP]; rfl
  have f1 := F.P
  have f2 := F.P2
  have f3 := F.S
  have f4 := F.S8
  have f5 := F.u0
  have f6 := F.u0'
  have f7 := F.u1
  have f8 := F.u1'
  have f9 := F.u2'
  have f10 := F.spec
  have d0 : U0 = uscS 9223372036854775296 (tabHi P) (tabLo P) s := by rw [hU0, hP, hs]; rfl
  have d1 : U1 = uscS 9223372036854776832 (tabHi P) (tabLo P) s := by rw [hU1, hP, hs]; rfl
  have d2 : U2 = uscS 9223372036854775808 (tabHi P) (tabLo P) s := by rw [hU2, hP, hs]; rfl
  rw [← hP] at f1 f2 f10
  rw [← hs] at f3 f4
  rw [← hU0] at f5 f6 f10
  rw [← hU1] at f7 f8 f10
  rw [← hU2] at f9 f10
  obtain ⟨L, hL⟩ : ∃ L, L = skL q := ⟨_, rfl⟩
  rw [← hL] at f3 hLP
  clear hL hP hs hU0 hU1 hU2 F
  obtain ⟨t1, t2, t3⟩ := tab_ok P (by omega)
  have hbd := sfV_bd (R0 := U0) (R1 := U1) (U2 := U2) (p := (P : Int) - 348) (by omega) (by omega) f9 (by omega) (by omega)
  refine ⟨_, _, by rw [Nat.add_zero]; exact f10, hbd.1, hbd.2.1, hbd.2.2, fun W T => ?_⟩
  have hh : ∀ y, 9223372036854775808 ≤ y * 2 → 18446744073709551616 ≤ y * tabHi P := fun y hy =>
    Nat.le_trans (by decide) (Nat.mul_le_mul (show 4611686018427387904 ≤ y by omega) t1)
  rw [show (((0 : Nat) : Int) + 4503599627370496) * 2048 = 9223372036854775808 from rfl]
  refine sf_walk1 U0 U1 U2 U0 U1 s (tabHi P) (tabLo P) P _ L W (by omega) (by omega) (by omega) (by omega) (by omega) (by omega) (by omega) f5 f6 f7 f8 f9 (by omega) (by omega) T.size (fun w => ?_) (fun w k c0 c1 c2 => ?_) (fun w k c0 c1 c2 => ?_) (fun w k c0 c1 c2 => ?_) (T.hi P (by omega)) (T.lo P (by omega))
  · rw [hLP]; exact log2p10_walk _ w (by omega) (by omega)
  · have := uscaleG 9223372036854775296 _ _ k s w (by omega) (by omega) (by omega) t3 (hh _ (by omega)) c0 c1 c2
    rw [← d0] at this; exact this
  · have := uscaleG 9223372036854776832 _ _ k s w (by omega) (by omega) (by omega) t3 (hh _ (by omega)) c0 c1 c2
    rw [← d1] at this; exact this
  · have := uscaleG 9223372036854775808 _ _ k s w (by omega) (by omega) (by omega) t3 (hh _ (by omega)) c0 c1 c2
    rw [← d2] at this; exact this
end Go.Proofs.YtglamimbkdldaaaGreatDoor
