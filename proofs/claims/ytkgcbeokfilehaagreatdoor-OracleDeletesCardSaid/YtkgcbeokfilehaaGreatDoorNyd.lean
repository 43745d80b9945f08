import Derived.Test.YtkgcbeokfilehaaGreatDoorNwd
import Derived.Test.YtkgcbeokfilehaaGreatDoorRfBased
namespace Go.Proofs.YtkgcbeokfilehaaGreatDoor
open Go.RowKit Go.Sort

/-- A great bound, behind a name. -/
def F0 : Nat := 1060
theorem F0_eq : F0 = 1060 := rfl
attribute [irreducible] F0
def F1 : Nat := 10000
theorem F1_eq : F1 = 10000 := rfl
attribute [irreducible] F1
theorem F0_big' {n : Nat} (h : n < 2 ^ F0 * 2) : n < 65536 ^ F1 := by
  refine Nat.lt_of_lt_of_le h ?_
  rw [show (65536 : Nat) = 2 ^ 16 from rfl, ← Nat.pow_mul, ← Nat.pow_succ]
  exact Nat.pow_le_pow_right (by decide) (by rw [F0_eq, F1_eq]; omega)
/-- Small enough for the rows. -/
def Big (n : Nat) : Prop := n < 65536 ^ 10000
theorem Big.bd {n : Nat} (h : Big n) : n < 65536 ^ 10000 := h
theorem Big.le {n m : Nat} (h : Big m) (k : n ≤ m) : Big n := Nat.lt_of_le_of_lt k h
theorem F0_big {n : Nat} (h : n < 2 ^ F0 * 2) : Big n := by
  have := F0_big' h
  rwa [F1_eq] at this
attribute [irreducible] Big
theorem lessY {va vb : Value} {n m : Nat} {W : World} (hRa : RdN W va n) (hRb : RdN W vb m) (hn : Big n) (hm : Big m) (h : n < m) :
    Calls Tryz.prog 205 #[va, vb] W fun e w' => e = .returned (.bool true) ∧ Ext W w' := less_yes hRa hRb hn.bd hm.bd h
theorem lessN {va vb : Value} {n m : Nat} {W : World} (hRa : RdN W va n) (hRb : RdN W vb m) (hn : Big n) (hm : Big m) (h : m ≤ n) :
    Calls Tryz.prog 205 #[va, vb] W fun e w' => e = .returned (.bool false) ∧ Ext W w' := less_no hRa hRb hn.bd hm.bd h
theorem minusB (va vb : Value) (n m : Nat) (W : World) (hRa : RdN W va n) (hRb : RdN W vb m) (hn : Big n) (hmn : m ≤ n) :
    Calls Tryz.prog 206 #[va, vb] W (RetN W (n - m)) := minus_walk va vb n m W hRa hRb hn.bd hmn
theorem rN_bd (m : Nat) (x : Int) (hm : m ≤ 999999999999999) (hx : x ≤ 290) : rN m x < 2 ^ F0 := by
  unfold rN
  refine Nat.lt_of_le_of_lt (Nat.mul_le_mul hm (Nat.pow_le_pow_right (by decide) (show x.toNat ≤ 290 by omega))) ?_
  rw [F0_eq]; decide +kernel
theorem rD_bd (x : Int) (hx : -300 ≤ x) : rD x * 2 ^ 53 < 2 ^ F0 := by
  unfold rD
  refine Nat.lt_of_le_of_lt (Nat.mul_le_mul_right _ (Nat.pow_le_pow_right (by decide) (show (-x).toNat ≤ 300 by omega))) ?_
  rw [F0_eq]; decide +kernel
def G0 : Nat := 1049
theorem G0_eq : G0 = 1049 := rfl
attribute [irreducible] G0
theorem rD_bd2 (x : Int) (hx : -300 ≤ x) : rD x * 2 ^ 52 < 2 ^ G0 := by
  unfold rD
  refine Nat.lt_of_le_of_lt (Nat.mul_le_mul_right _ (Nat.pow_le_pow_right (by decide) (show (-x).toNat ≤ 300 by omega))) ?_
  rw [G0_eq]; decide +kernel
theorem s_bd {N D s : Nat} (hN : 1 ≤ N) (h : N * 2 ^ s < D * 2 ^ 52) (hD : D * 2 ^ 52 < 2 ^ G0) : s < 1049 := by
  have h1 : 1 * 2 ^ s ≤ N * 2 ^ s := Nat.mul_le_mul_right _ hN
  rw [Nat.one_mul] at h1
  have h2 : 2 ^ s < 2 ^ G0 := by omega
  have := (Nat.pow_lt_pow_iff_right (by decide : 1 < 2)).1 h2
  rwa [G0_eq] at this
theorem num_bd {N D s : Nat} (hN : N < 2 ^ F0) (hD : D * 2 ^ 53 < 2 ^ F0) (h : s = 0 ∨ N * 2 ^ (s - 1) < D * 2 ^ 52) : N * 2 ^ s < 2 ^ F0 := by
  rcases Nat.eq_zero_or_pos s with h0 | h0
  · subst h0; simpa using hN
  · have h1 : N * 2 ^ (s - 1) < D * 2 ^ 52 := by omega
    have e : N * 2 ^ s = N * 2 ^ (s - 1) * 2 := by rw [Nat.mul_assoc, ← Nat.pow_succ, show (s - 1).succ = s by omega]
    rw [e]
    have e2 : D * 2 ^ 53 = D * 2 ^ 52 * 2 := by rw [Nat.mul_assoc, ← Nat.pow_succ]
    rw [e2] at hD
    omega
theorem u_bd {N D u : Nat} (hN : N < 2 ^ F0) (hD : 1 ≤ D) (h : D * 2 ^ u * 2 ^ 53 ≤ N) : u < 1010 := by
  have h1 : 1 * 2 ^ (u + 53) ≤ D * 2 ^ (u + 53) := Nat.mul_le_mul_right _ hD
  rw [Nat.one_mul, Nat.pow_add, ← Nat.mul_assoc] at h1
  rw [← Nat.pow_add] at h1
  have h2 : 2 ^ (u + 53) < 2 ^ F0 := by omega
  have := (Nat.pow_lt_pow_iff_right (by decide : 1 < 2)).1 h2
  rw [F0_eq] at this
  omega
theorem rN_pos (m : Nat) (x : Int) (hm : 1 ≤ m) : 1 ≤ rN m x := Nat.mul_pos hm (Nat.pow_pos (by decide))
theorem rD_pos (x : Int) : 1 ≤ rD x := Nat.pow_pos (by decide)
theorem p53 (z : Nat) : z * 2 ^ 53 = z * 2 ^ 52 * 2 := by rw [Nat.mul_assoc, ← Nat.pow_succ]
theorem p53s (z u : Nat) : z * 2 ^ (u + 1) * 2 ^ 53 = z * 2 ^ u * 2 ^ 53 * 2 := by
  rw [Nat.pow_succ, ← Nat.mul_assoc, Nat.mul_right_comm]
theorem p52s (z u : Nat) : z * 2 ^ (u + 1) * 2 ^ 52 = z * 2 ^ u * 2 ^ 53 := by
  rw [p53, Nat.pow_succ, ← Nat.mul_assoc, Nat.mul_right_comm]
theorem q_bd {N D q t r : Nat} (hN : N < D * 2 ^ 53) (h : N = q * (D * 2 ^ t) + r) : q ≤ 9007199254740991 := by
  have h1 : q * (D * 2 ^ t) < D * 2 ^ 53 := by omega
  rw [Nat.mul_left_comm] at h1
  have h2 := Nat.lt_of_mul_lt_mul_left h1
  have h3 : q * 1 ≤ q * 2 ^ t := Nat.mul_le_mul_left _ (Nat.two_pow_pos t)
  have h4 : (2 : Nat) ^ 53 = 9007199254740992 := by decide
  omega
theorem q_lo {N D q r : Nat} (hN : D * 2 ^ 52 ≤ N) (h : N = q * (D * 2 ^ 0) + r) (hr : r < D * 2 ^ 0) : 4503599627370496 ≤ q := by
  rw [Nat.pow_zero, Nat.mul_one] at h hr
  have h1 : D * 2 ^ 52 < D * (q + 1) := by
    refine Nat.lt_of_le_of_lt hN ?_
    rw [h, Nat.mul_add, Nat.mul_one, Nat.mul_comm D q]; omega
  have h2 := Nat.lt_of_mul_lt_mul_left h1
  have h4 : (2 : Nat) ^ 52 = 4503599627370496 := by decide
  omega
theorem times10 (v : Value) (n : Nat) (W : World) (hR : RdN W v n) (hn : Big n) :
    Calls Tryz.prog 204 #[v, .int .i64 10, .int .i64 0] W (RetN W (n * 10)) := times_walk v n 10 W hR (by decide) (by decide) hn.bd
theorem times2 (v : Value) (n : Nat) (W : World) (hR : RdN W v n) (hn : Big n) :
    Calls Tryz.prog 204 #[v, .int .i64 2, .int .i64 0] W (RetN W (n * 2)) := times_walk v n 2 W hR (by decide) (by decide) hn.bd
theorem one_rd (w : World) : RdN (w.alloc (.cells #[.int .i64 1] 3)) (.slice (some ⟨w.heap.size, 0, none⟩) 1 1) 1 :=
  ⟨[1], ⟨_, 1, rfl, Nat.le_refl _, .inr ⟨w.heap.size, 0, rfl, by simp, ⟨_, _, heap_alloc_new _ _⟩, fun i hi => by
    have : i = 0 := by simpa using hi
    subst this
    exact new_one _ _ _⟩⟩, ⟨fun x hx => by simp at hx; omega, rfl, by simp⟩⟩

set_option maxRecDepth 100000 in
set_option maxHeartbeats 4000000 in
theorem nearest_walk (m : Nat) (x : Int) (W : World) (hm : 1 ≤ m) (hm' : m ≤ 999999999999999) (hx : -300 ≤ x) (hx' : x ≤ 290) :
    Calls Tryz.prog 192 #[.int .i64 m, .int .i64 x] W fun e w' => e = .returned (.int .u64 (nearV m x)) ∧ Below W.heap.size W w' := by
  have HN0 := Lib.hid (rN_bd m x hm' hx')
  have HD0 := Lib.hid (rD_bd x hx)
  have KN := Lib.hid (natural_walk m W hm')
  go_enter Tryz.func192, Tryz.ntmps192
  go_wp2_with fail
  refine KN.out.mono ?_
  rintro e w1 ⟨r, rfl, hr, hB⟩
  have HR := Lib.hid hr
  have HB := Lib.hid hB
  clear hr hB KN
  go_wp2_with fail
  obtain ⟨w2, hw2⟩ : ∃ w2, w2 = w1.alloc (.cells #[.int .i64 1] 3) := ⟨_, rfl⟩
  have HB2 : Hid (Below W.heap.size W w2) := by show Below _ _ _; rw [hw2]; exact HB.out.alloc HB.out.size _
  have HR2 : Hid (RdN w2 r m) := HR.out.on (by rw [hw2]; exact (Below.refl _ _).alloc (Nat.le_refl _) _)
  have HO2 : Hid (RdN w2 (.slice (some ⟨w1.heap.size, 0, none⟩) 1 1) 1) := by show RdN _ _ _; rw [hw2]; exact one_rd w1
  rw [← hw2]
  clear hw2 HR HB
  obtain ⟨dv, hdv⟩ : ∃ dv, dv = Value.slice (some ⟨w1.heap.size, 0, none⟩) 1 1 := ⟨_, rfl⟩
  rw [← hdv] at HO2
  go_loopw [5, 7] (fun v i wl => ∃ t : Int, i = .int .i64 t ∧ 0 ≤ t ∧ (t = 0 ∨ t ≤ x) ∧ t ≤ 290 ∧ Hid (RdN wl v (m * 10 ^ t.toNat)) ∧ Hid (RdN wl dv 1) ∧ Hid (Below W.heap.size W wl))
    (fun _ i _ => (x - intOf i).toNat)
  case atStart => exact ⟨0, rfl, by omega, by omega, by omega, by show RdN _ _ _; simpa using HR2.out, HO2.out, HB2.out⟩
  case round =>
    obtain ⟨t, rfl, ht0, ht1, ht2, HR, HO, HB⟩ := hrel
    by_cases hlt : t < x
    · have HX : Hid (Big (m * 10 ^ t.toNat)) := by
        refine F0_big (Nat.lt_of_lt_of_le (rN_bd m t hm' (by omega)) (by omega))
      have HE : Hid (m * 10 ^ t.toNat * 10 = m * 10 ^ (t + 1).toNat) := by
        show _ = _
        rw [show (t + 1).toNat = t.toNat + 1 by omega, Nat.pow_succ, Nat.mul_assoc]
      go_wp2_with fail
      refine (times10 _ _ _ HR.out HX.out).mono ?_
      rintro e w3 ⟨r3, rfl, hr, hB⟩
      have HR3 := Lib.hid hr
      have HB3 := Lib.hid hB
      clear hr hB
      go_wp2_with fail
      go_roundw
      case rel => exact ⟨t + 1, rfl, by omega, by omega, by omega, HE.out ▸ HR3.out, HO.out.on HB3.out, HB.out.trans (HB3.out.mono HB.out.size)⟩
      case measure => simp [intOf]; omega
    · obtain ⟨N0, hN0⟩ : ∃ N0, N0 = rN m x := ⟨_, rfl⟩
      have HN0' : Hid (N0 = rN m x) := hN0
      have HRn : Hid (RdN wr u5 N0) := by
        have e : m * 10 ^ t.toNat = N0 := by rw [hN0]; unfold rN; rw [show t.toNat = x.toNat by omega]
        exact e ▸ HR.out
      clear hN0 HR ht1 ht2
      go_wp2_with fail
      clear hlt ht0
      go_loopw [6, 8] (fun v i wl => ∃ t : Int, i = .int .i64 t ∧ t ≤ 0 ∧ (t = 0 ∨ x ≤ t) ∧ -300 ≤ t ∧ Hid (RdN wl v (10 ^ (-t).toNat)) ∧ Hid (RdN wl u5 N0) ∧ Hid (Below W.heap.size W wl))
        (fun _ i _ => (intOf i - x).toNat)
      case atStart => exact ⟨0, rfl, by omega, by omega, by omega, by show RdN _ _ _; simpa [hdv] using HO.out, HRn.out, HB.out⟩
      case round =>
        obtain ⟨t, rfl, ht0, ht1, ht2, HR, HO, HB⟩ := hrel
        by_cases hlt : x < t
        · have HX : Hid (Big (10 ^ (-t).toNat)) := by
            refine F0_big (Nat.lt_of_le_of_lt (Nat.le_mul_of_pos_right _ (by decide : 0 < 2 ^ 53)) (Nat.lt_of_lt_of_le (rD_bd t ht2) (by omega)))
          have HE : Hid (10 ^ (-t).toNat * 10 = 10 ^ (-(t - 1)).toNat) := by
            show _ = _
            rw [show (-(t - 1)).toNat = (-t).toNat + 1 by omega, Nat.pow_succ]
          go_wp2_with fail
          refine (times10 _ _ _ HR.out HX.out).mono ?_
          rintro e w3 ⟨r3, rfl, hr, hB⟩
          have HR3 := Lib.hid hr
          have HB3 := Lib.hid hB
          clear hr hB
          go_wp2_with fail
          go_roundw
          case rel => exact ⟨t - 1, rfl, by omega, by omega, by omega, HE.out ▸ HR3.out, HO.out.on HB3.out, HB.out.trans (HB3.out.mono HB.out.size)⟩
          case measure => simp [intOf]; omega
        · obtain ⟨D0, hD0⟩ : ∃ D0, D0 = rD x := ⟨_, rfl⟩
          have HD0' : Hid (D0 = rD x) := hD0
          have HRd : Hid (RdN wr u6 D0) := by
            have e : 10 ^ (-t).toNat = D0 := by rw [hD0]; unfold rD; rw [show (-t).toNat = (-x).toNat by omega]
            exact e ▸ HR.out
          rw [← hD0] at HD0
          rw [← HN0'.out] at HN0
          clear hD0 HR ht1 ht2
          have HRn : Hid (RdN wr u5 N0) := HO
          clear HO
          go_wp2_with fail
          clear hlt ht0
          go_loopw [10, 11] (fun v i wl => ∃ t : Nat, i = .int .i64 t ∧ t ≤ 52 ∧ Hid (RdN wl v (D0 * 2 ^ t)) ∧ Hid (RdN wl u5 N0) ∧ Hid (RdN wl u6 D0) ∧ Hid (Below W.heap.size W wl))
            (fun _ i _ => 52 - (intOf i).toNat)
          case atStart => exact ⟨0, rfl, by omega, by show RdN _ _ _; simpa using HRd.out, HRn.out, HRd.out, HB.out⟩
          case round =>
            obtain ⟨t, rfl, ht, HR, HRn, HRd, HB⟩ := hrel
            by_cases hlt : t < 52
            · have HX : Hid (Big (D0 * 2 ^ t)) := by
                refine F0_big (Nat.lt_of_le_of_lt (Nat.mul_le_mul_left _ (Nat.pow_le_pow_right (by decide) (by omega : t ≤ 53))) (Nat.lt_of_lt_of_le HD0.out (by omega)))
              go_wp2_with fail
              refine (times2 _ _ _ HR.out HX.out).mono ?_
              rintro e w3 ⟨r3, rfl, hr, hB⟩
              have HR3 : Hid (RdN w3 r3 (D0 * 2 ^ (t + 1))) := by show RdN _ _ _; rw [Nat.pow_succ, ← Nat.mul_assoc]; exact hr
              have HB3 := Lib.hid hB
              clear hr hB
              go_wp2_with fail
              go_roundw
              case rel => exact ⟨t + 1, by go_num, by omega, HR3.out, HRn.out.on HB3.out, HRd.out.on HB3.out, HB.out.trans (HB3.out.mono HB.out.size)⟩
              case measure => simp [intOf]; omega
            · obtain rfl : t = 52 := by omega
              clear hlt ht
              have HD0b : Hid (D0 * 2 ^ 52 < 2 ^ G0) := by show _ < _; rw [HD0'.out]; exact rD_bd2 x hx
              have HN1 : Hid (1 ≤ N0) := by show _ ≤ _; rw [HN0'.out]; exact rN_pos m x hm
              have HD1 : Hid (1 ≤ D0) := by show _ ≤ _; rw [HD0'.out]; exact rD_pos x
              have HLb : Hid (Big (D0 * 2 ^ 52)) := by
                refine F0_big (Nat.lt_of_le_of_lt (Nat.mul_le_mul_left _ (Nat.pow_le_pow_right (by decide) (by decide : 52 ≤ 53))) (Nat.lt_of_lt_of_le HD0.out (by omega)))
              go_wp2_with fail
              go_loopw [5, 9] (fun v i wl => ∃ t : Int, i = .int .i64 t ∧ t ≤ 0 ∧ -1049 ≤ t ∧ Hid (RdN wl v (N0 * 2 ^ (-t).toNat)) ∧ Hid ((-t).toNat = 0 ∨ N0 * 2 ^ ((-t).toNat - 1) < D0 * 2 ^ 52) ∧ Hid (RdN wl u10 (D0 * 2 ^ 52)) ∧ Hid (RdN wl u6 D0) ∧ Hid (Below W.heap.size W wl))
                (fun _ i _ => (intOf i + 1049).toNat)
              case atStart => exact ⟨0, rfl, by omega, by omega, by show RdN _ _ _; simpa using HRn.out, .inl rfl, HR.out, HRd.out, HB.out⟩
              case round =>
                obtain ⟨t, rfl, ht0, ht1, HRn, HS, HR, HRd, HB⟩ := hrel
                have HNb : Hid (N0 * 2 ^ (-t).toNat < 2 ^ F0) := num_bd HN0.out HD0.out HS.out
                have HNc : Hid (Big (N0 * 2 ^ (-t).toNat)) := F0_big (by have := HNb.out; omega)
                by_cases hlt : N0 * 2 ^ (-t).toNat < D0 * 2 ^ 52
                · have HT := Lib.hid hlt
                  have hs := s_bd HN1.out HT.out HD0b.out
                  clear hlt
                  go_wp2_with fail
                  refine (lessY HRn.out HR.out HNc.out HLb.out HT.out).mono ?_
                  rintro e w3 ⟨rfl, hE⟩
                  have HE := Lib.hid hE.below
                  clear hE
                  go_wp2_with fail
                  refine (times2 _ _ _ (HRn.out.on HE.out) HNc.out).mono ?_
                  rintro e w4 ⟨r3, rfl, hr, hB⟩
                  have HB4 : Hid (Below wr.heap.size wr w4) := HE.out.trans (hB.mono HE.out.size)
                  have HR3 : Hid (RdN w4 r3 (N0 * 2 ^ (-(t - 1)).toNat)) := by
                    show RdN _ _ _
                    rw [show (-(t - 1)).toNat = (-t).toNat + 1 by omega, Nat.pow_succ, ← Nat.mul_assoc]; exact hr
                  clear hr hB
                  go_wp2_with fail
                  go_roundw
                  case rel => ((repeat apply Exists.intro); exact ⟨⟨t - 1, rfl, by omega, by omega, HR3.out, .inr (by rw [show (-(t - 1)).toNat - 1 = (-t).toNat by omega]; exact HT.out), HR.out.on HB4.out, HRd.out.on HB4.out, HB.out.trans (HB4.out.mono HB.out.size)⟩, rfl⟩)
                  case measure => simp [intOf]; omega
                · have HT : Hid (D0 * 2 ^ 52 ≤ N0 * 2 ^ (-t).toNat) := by show _ ≤ _; omega
                  clear hlt
                  go_wp2_with fail
                  refine (lessN HRn.out HR.out HNc.out HLb.out HT.out).mono ?_
                  rintro e w3 ⟨rfl, hE⟩
                  have HE := Lib.hid hE.below
                  clear hE
                  go_wp2_with fail
                  refine (times2 _ _ _ (HR.out.on HE.out) HLb.out).mono ?_
                  rintro e w4 ⟨r3, rfl, hr, hB⟩
                  have HB4 : Hid (Below wr.heap.size wr w4) := HE.out.trans (hB.mono HE.out.size)
                  have HRh : Hid (RdN w4 r3 (D0 * 2 ^ 53)) := by
                    show RdN _ _ _
                    rw [p53]; exact hr
                  clear hr hB
                  obtain ⟨N1, hN1⟩ : ∃ N1, N1 = N0 * 2 ^ (-t).toNat := ⟨_, rfl⟩
                  rw [← hN1] at HRn HNb HNc HT
                  have HNe := Lib.hid hN1
                  have HRn4 : Hid (RdN w4 u5 N1) := HRn.out.on HB4.out
                  have HRl4 : Hid (RdN w4 u10 (D0 * 2 ^ 52)) := HR.out.on HB4.out
                  have HRd4 : Hid (RdN w4 u6 D0) := HRd.out.on HB4.out
                  have HBB : Hid (Below W.heap.size W w4) := HB.out.trans (HB4.out.mono HB.out.size)
                  clear hN1 HRn HR HRd HB HB4 HE HS
                  go_wp2_with fail
                  go_loopw [6, 9, 10, 12] (fun d i l h wl => ∃ (k : Int) (u : Nat), i = .int .i64 k ∧ k = t + u ∧ u ≤ 1010 ∧ Hid (RdN wl d (D0 * 2 ^ u)) ∧ Hid (RdN wl l (D0 * 2 ^ u * 2 ^ 52)) ∧ Hid (RdN wl h (D0 * 2 ^ u * 2 ^ 53)) ∧ Hid (D0 * 2 ^ u * 2 ^ 52 ≤ N1) ∧ Hid (RdN wl u5 N1) ∧ Hid (Below W.heap.size W wl))
                    (fun _ i _ _ _ => (1010 + t - intOf i).toNat)
                  case atStart => exact ⟨t, 0, rfl, by omega, by omega, by show RdN _ _ _; simpa using HRd4.out, by show RdN _ _ _; simpa using HRl4.out, by show RdN _ _ _; simpa using HRh.out, by show _ ≤ _; simpa using HT.out, HRn4.out, HBB.out⟩
                  case round =>
                    obtain ⟨k, u, rfl, hk, hu, HRd, HRl, HRh, HT, HRn, HB⟩ := hrel
                    subst hk
                    have HNl : Hid (Big (D0 * 2 ^ u * 2 ^ 53)) := by
                      refine F0_big ?_
                      have h1 := HT.out
                      have h2 := HNb.out
                      rw [p53]
                      exact Nat.mul_lt_mul_of_pos_right (Nat.lt_of_le_of_lt h1 h2) (by decide)
                    have HNd : Hid (Big (D0 * 2 ^ u)) := by
                      have h2 : D0 * 2 ^ u * 1 ≤ D0 * 2 ^ u * 2 ^ 53 := Nat.mul_le_mul_left _ (by decide)
                      rw [Nat.mul_one] at h2
                      exact HNl.out.le h2
                    have HNb2 := HNb
                    by_cases hlt : D0 * 2 ^ u * 2 ^ 53 ≤ N1
                    · have HT2 := Lib.hid hlt
                      have hub := u_bd HNb.out HD1.out HT2.out
                      clear hlt
                      go_wp2_with fail
                      refine (lessN HRn.out HRh.out HNc.out HNl.out HT2.out).mono ?_
                      rintro e w5 ⟨rfl, hE⟩
                      have HE := Lib.hid hE.below
                      clear hE
                      go_wp2_with fail
                      refine (times2 _ _ _ (HRd.out.on HE.out) HNd.out).mono ?_
                      rintro e w6 ⟨r5, rfl, hr, hB⟩
                      have HE6 : Hid (Below wr.heap.size wr w6) := HE.out.trans (hB.mono HE.out.size)
                      have HR5 : Hid (RdN w6 r5 (D0 * 2 ^ (u + 1))) := by show RdN _ _ _; rw [Nat.pow_succ, ← Nat.mul_assoc]; exact hr
                      clear hr hB HE
                      go_wp2_with fail
                      refine (times2 _ _ _ (HRh.out.on HE6.out) HNl.out).mono ?_
                      rintro e w7 ⟨r6, rfl, hr, hB⟩
                      have HE7 : Hid (Below wr.heap.size wr w7) := HE6.out.trans (hB.mono HE6.out.size)
                      have HR7 : Hid (RdN w7 r5 (D0 * 2 ^ (u + 1))) := HR5.out.on hB
                      have HR6 : Hid (RdN w7 r6 (D0 * 2 ^ (u + 1) * 2 ^ 53)) := by
                        show RdN _ _ _
                        rw [p53s]; exact hr
                      have HL7 : Hid (RdN w7 u12 (D0 * 2 ^ (u + 1) * 2 ^ 52)) := by
                        have := HRh.out.on HE7.out
                        show RdN _ _ _
                        rwa [p52s]
                      have HT7 : Hid (D0 * 2 ^ (u + 1) * 2 ^ 52 ≤ N1) := by
                        show _ ≤ _
                        rw [p52s]
                        exact HT2.out
                      clear hr hB HE6 HR5
                      go_wp2_with fail
                      go_roundw
                      case rel => exact ⟨t + u + 1, u + 1, rfl, by omega, by omega, HR7.out, HL7.out, HR6.out, HT7.out, HRn.out.on HE7.out, HB.out.trans (HE7.out.mono HB.out.size)⟩
                      case measure => simp [intOf]; omega
                    · have HT2 : Hid (N1 < D0 * 2 ^ u * 2 ^ 53) := by show _ < _; omega
                      clear hlt
                      go_wp2_with fail
                      refine (lessY HRn.out HRh.out HNc.out HNl.out HT2.out).mono ?_
                      rintro e w5 ⟨rfl, hE⟩
                      have HE := Lib.hid hE.below
                      clear hE
                      obtain ⟨D1, hD1⟩ : ∃ D1, D1 = D0 * 2 ^ u := ⟨_, rfl⟩
                      rw [← hD1] at HRd HT HT2 HNl HNd
                      have HDe := Lib.hid hD1
                      have HRn5 : Hid (RdN w5 u5 N1) := HRn.out.on HE.out
                      have HRd5 : Hid (RdN w5 u6 D1) := HRd.out.on HE.out
                      have HB5 : Hid (Below W.heap.size W w5) := HB.out.trans (HE.out.mono HB.out.size)
                      clear hD1 HRn HRd HRl HRh HB HE
                      go_wp2_with fail
                      go_loopw [14, 15, 16] (fun pv p i wl => ∃ (j : Nat) (vs : List Value), i = .int .i64 j ∧ j ≤ 53 ∧ OwnV wl W.heap.size pv vs ∧ Hid (vs.length = j ∧ ∀ a (h : a < vs.length), RdN wl vs[a] (D1 * 2 ^ a)) ∧ Hid (RdN wl p (D1 * 2 ^ j)) ∧ Hid (RdN wl u5 N1) ∧ Hid (RdN wl u6 D1) ∧ Hid (Below W.heap.size W wl))
                        (fun _ _ i _ => 53 - (intOf i).toNat)
                      case atStart => exact ⟨0, [], rfl, by omega, OwnV.nil _ _, ⟨rfl, fun a h => by simp at h⟩, by show RdN _ _ _; simpa using HRd5.out, HRn5.out, HRd5.out, HB5.out⟩
                      case round =>
                        obtain ⟨j, vs, rfl, hj, hown, HV, HP, HRn, HRd, HB⟩ := hrel
                        by_cases hlt : j ≤ 52
                        · have HX : Hid (Big (D1 * 2 ^ j)) := by
                            have h2 : D1 * 2 ^ j ≤ D1 * 2 ^ 53 := Nat.mul_le_mul_left _ (Nat.pow_le_pow_right (by decide) (by omega))
                            exact HNl.out.le h2
                          obtain ⟨Ap, np, cp, hpe⟩ : ∃ Ap np cp, u15 = .slice Ap np cp := by
                            obtain ⟨lp, ⟨Ap, cp, h, _⟩, _⟩ := HP.out
                            exact ⟨_, _, _, h⟩
                          subst hpe
                          have hy := HP.out.one
                          have HY := Lib.hid hy
                          clear hy
                          have HA : Hid (∀ u t, Below wr.heap.size wr (wr.alloc (.cells #[u] t))) := fun u t => (Below.refl _ _).alloc (Nat.le_refl _) _
                          have HB0 : Hid (W.heap.size ≤ wr.heap.size) := HB.out.size
                          have HVl := Lib.hid HV.out.1
                          go_wp2_with (first | (at_builtin; refine app1V rfl _ _ rfl W.heap.size _ vs (.slice Ap np cp) rfl (hown.alloc _) wr.heap.size 0 1 rfl (new_one _ _ _) ?c0 ?c1 ?c2 ?_) | fail)
                          case c0 => exact HY.out
                          case c1 => have := HVl.out; omega
                          case c2 => have := HB0.out; simp; omega
                          · intro v' w6 hown2 hg
                            have hkeep : ∀ (v : Value) (n : Nat), RdN wr v n → RdN w6 v n := fun v n h => (h.on (HA.out _ _)).kept hg (fun g hg' => ((hown.alloc _).blk hg').2)
                            have HB6 : Hid (Below W.heap.size W w6) := (HB.out.trans ((HA.out _ _).mono HB.out.size)).grown hg (by have := HB0.out; simp; omega) (fun g hg' => (hown.blk hg').1)
                            have HP6 := Lib.hid (hkeep _ _ HP.out)
                            have HRn6 := Lib.hid (hkeep _ _ HRn.out)
                            have HRd6 := Lib.hid (hkeep _ _ HRd.out)
                            have HV6 : Hid ((vs ++ [Value.slice Ap np cp]).length = j + 1 ∧ ∀ a (h : a < (vs ++ [Value.slice Ap np cp]).length), RdN w6 (vs ++ [Value.slice Ap np cp])[a] (D1 * 2 ^ a)) := by
                              refine ⟨by simp [HVl.out], fun a h => ?_⟩
                              rw [List.getElem_append]
                              split
                              · exact hkeep _ _ (HV.out.2 a (by assumption))
                              · have : a = j := by have := HVl.out; simp at h; omega
                                subst this
                                simpa using HP6.out
                            have HO6 := Lib.hid hown2
                            clear hg hkeep hown2 hown HV HP HRn HRd
                            go_wp2_with fail
                            refine (times2 _ _ _ HP6.out HX.out).mono ?_
                            rintro e w7 ⟨r6, rfl, hr, hB⟩
                            have HB7 := Lib.hid hB
                            have HR7 : Hid (RdN w7 r6 (D1 * 2 ^ (j + 1))) := by show RdN _ _ _; rw [Nat.pow_succ, ← Nat.mul_assoc]; exact hr
                            clear hr hB
                            go_wp2_with fail
                            go_roundw
                            case rel => exact ⟨j + 1, _, by go_num, by omega, HO6.out.below HB7.out, ⟨HV6.out.1, fun a h => (HV6.out.2 a h).on HB7.out⟩, HR7.out, HRn6.out.on HB7.out, HRd6.out.on HB7.out, HB6.out.trans (HB7.out.mono HB6.out.size)⟩
                            case measure => simp [intOf]; omega
                        · obtain rfl : j = 53 := by omega
                          have hne : vs ≠ [] := by intro e; have := HV.out.1; rw [e] at this; simp at this
                          obtain ⟨g, cap, hpv, hcap, hcl⟩ := hown.cells hne
                          rw [HV.out.1] at hpv hcap
                          have HC : Hid (∀ a, a < 53 → ∃ pv, wr.cell? ⟨g, a, none⟩ = some pv ∧ RdN wr pv (D1 * 2 ^ a)) := fun a ha => ⟨vs[a]'(by rw [HV.out.1]; exact ha), hcl a (by rw [HV.out.1]; exact ha), HV.out.2 a (by rw [HV.out.1]; exact ha)⟩
                          have HRn' := HRn
                          have HRd' := HRd
                          have HB' := HB
                          clear hown HV HP HRn HRd HB hne hcl
                          subst hpv
                          go_wp2_with fail
                          clear hlt
                          have HN2 : Hid (N1 < D1 * 2 ^ 53) := HT2
                          go_loopw [5, 13, 17] (fun nv qv iv wl => ∃ (i : Int) (q r : Nat), iv = .int .i64 i ∧ -1 ≤ i ∧ i ≤ 52 ∧ qv = .int .u64 q ∧ q ≤ 9007199254740991 ∧ Hid (RdN wl nv r) ∧ Hid (N1 = q * (D1 * 2 ^ (i + 1).toNat) + r ∧ r < D1 * 2 ^ (i + 1).toNat) ∧ Hid (∀ a, a < 53 → ∃ pv, wl.cell? ⟨g, a, none⟩ = some pv ∧ RdN wl pv (D1 * 2 ^ a)) ∧ Hid (RdN wl u6 D1) ∧ Hid (Below W.heap.size W wl))
                            (fun _ _ i _ => (intOf i + 1).toNat)
                          case atStart => exact ⟨52, 0, N1, rfl, by omega, by omega, rfl, by omega, HRn'.out, ⟨by simp, HN2.out⟩, HC.out, HRd'.out, HB'.out⟩
                          case round =>
                            obtain ⟨i, q, r, rfl, hi1, hi2, rfl, hq, HRn, HQ, HC, HRd, HB⟩ := hrel
                            have HRb : Hid (Big (r)) := HNc.out.le (by have := HQ.out.1; omega)
                            by_cases hi0 : 0 ≤ i
                            · obtain ⟨t, rfl⟩ := Int.eq_ofNat_of_zero_le hi0
                              obtain ⟨pv, hcell, hpv⟩ := HC.out t (by omega)
                              have HPv := Lib.hid hpv
                              have HCell := Lib.hid hcell
                              obtain ⟨q2, hq2⟩ : ∃ q2, q2 = 2 * q := ⟨_, rfl⟩
                              have gq : IntKind.u64.wrap ((q : Int) * 2) = (q2 : Int) := by rw [IntKind.wrap_u64]; omega
                              obtain ⟨P, hP⟩ : ∃ P, P = D1 * 2 ^ t := ⟨_, rfl⟩
                              have hQ : N1 = q * (2 * P) + r ∧ r < 2 * P := by
                                have e : D1 * 2 ^ ((t : Int) + 1).toNat = 2 * P := by
                                  rw [show ((t : Int) + 1).toNat = t + 1 by omega, Nat.pow_succ, ← Nat.mul_assoc, ← hP, Nat.mul_comm P 2]
                                have := HQ.out
                                rwa [e] at this
                              have HPe := Lib.hid hP
                              rw [← hP] at HPv
                              have HPb : Hid (Big (P)) := by
                                have h2 : D1 * 2 ^ t ≤ D1 * 2 ^ 53 := Nat.mul_le_mul_left _ (Nat.pow_le_pow_right (by decide) (by omega))
                                show Big _
                                rw [hP]
                                exact HNl.out.le h2
                              have ht53 : (t : Int) < 53 := by omega
                              clear hpv hP
                              by_cases hle : P ≤ r
                              · obtain ⟨b1, b2⟩ := bit_yes hQ.1 hle hQ.2
                                rw [← hq2] at b1
                                obtain ⟨q3, hq3⟩ : ∃ q3, q3 = q2 + 1 := ⟨_, rfl⟩
                                rw [← hq3] at b1
                                have hqb : q3 ≤ 9007199254740991 := q_bd HN2.out (by rw [← HPe.out]; exact b1)
                                have gq3 : IntKind.u64.wrap ((q2 : Int) + 1) = (q3 : Int) := by rw [IntKind.wrap_u64]; omega
                                have HQ3 : Hid (N1 = q3 * (D1 * 2 ^ ((t : Int) - 1 + 1).toNat) + (r - P) ∧ r - P < D1 * 2 ^ ((t : Int) - 1 + 1).toNat) := by
                                  rw [show ((t : Int) - 1 + 1).toNat = t by omega, ← HPe.out]; exact ⟨b1, b2⟩
                                have HLe := Lib.hid hle
                                clear b1 b2 hle hQ hq2 hq3
                                go_wp2_with fail
                                refine (lessN HRn.out HPv.out HRb.out HPb.out HLe.out).mono ?_
                                rintro e w3 ⟨rfl, hE⟩
                                have hcell3 := hE.cell_some HCell.out
                                have HE3 := Lib.hid hE.below
                                clear hE
                                go_wp2_with fail
                                refine (minusB _ _ _ _ _ (HRn.out.on HE3.out) (HPv.out.on HE3.out) HRb.out HLe.out).mono ?_
                                rintro e w4 ⟨r4, rfl, hr, hB⟩
                                have HR4 := Lib.hid hr
                                have HB4 : Hid (Below wr.heap.size wr w4) := HE3.out.trans (hB.mono HE3.out.size)
                                clear hr hB hcell hcell3
                                have HC4 : Hid (∀ a, a < 53 → ∃ pv, w4.cell? ⟨g, a, none⟩ = some pv ∧ RdN w4 pv (D1 * 2 ^ a)) := fun a ha => by
                                  obtain ⟨pv, h1, h2⟩ := HC.out a ha
                                  exact ⟨pv, (HB4.out.cell (lt_of_cell h1)).trans h1, h2.on HB4.out⟩
                                go_wp2_with fail
                                go_roundw
                                case rel => first | exact ⟨(t : Int) - 1, q3, r - P, rfl, by omega, by omega, rfl, hqb, HR4.out, HQ3.out, HC4.out, HRd.out.on HB4.out, HB.out.trans (HB4.out.mono HB.out.size)⟩ | ((repeat apply Exists.intro); exact ⟨⟨(t : Int) - 1, q3, r - P, rfl, by omega, by omega, rfl, hqb, HR4.out, HQ3.out, HC4.out, HRd.out.on HB4.out, HB.out.trans (HB4.out.mono HB.out.size)⟩, rfl⟩)
                                case measure => simp [intOf]
                              · obtain ⟨b1, b2⟩ := bit_no hQ.1 (by omega : r < P)
                                rw [← hq2] at b1
                                have hqb : q2 ≤ 9007199254740991 := q_bd HN2.out (by rw [← HPe.out]; exact b1)
                                have HQ3 : Hid (N1 = q2 * (D1 * 2 ^ ((t : Int) - 1 + 1).toNat) + r ∧ r < D1 * 2 ^ ((t : Int) - 1 + 1).toNat) := by
                                  rw [show ((t : Int) - 1 + 1).toNat = t by omega, ← HPe.out]; exact ⟨b1, b2⟩
                                have HLt := Lib.hid b2
                                clear b1 b2 hle hQ hq2
                                go_wp2_with fail
                                refine (lessY HRn.out HPv.out HRb.out HPb.out HLt.out).mono ?_
                                rintro e w3 ⟨rfl, hE⟩
                                have HE3 := Lib.hid hE.below
                                clear hE hcell
                                have HC4 : Hid (∀ a, a < 53 → ∃ pv, w3.cell? ⟨g, a, none⟩ = some pv ∧ RdN w3 pv (D1 * 2 ^ a)) := fun a ha => by
                                  obtain ⟨pv, h1, h2⟩ := HC.out a ha
                                  exact ⟨pv, (HE3.out.cell (lt_of_cell h1)).trans h1, h2.on HE3.out⟩
                                go_wp2_with fail
                                go_roundw
                                case rel => first | exact ⟨(t : Int) - 1, q2, r, rfl, by omega, by omega, rfl, hqb, HRn.out.on HE3.out, HQ3.out, HC4.out, HRd.out.on HE3.out, HB.out.trans (HE3.out.mono HB.out.size)⟩ | ((repeat apply Exists.intro); exact ⟨⟨(t : Int) - 1, q2, r, rfl, by omega, by omega, rfl, hqb, HRn.out.on HE3.out, HQ3.out, HC4.out, HRd.out.on HE3.out, HB.out.trans (HE3.out.mono HB.out.size)⟩, rfl⟩)
                                case measure => simp [intOf]
                            · obtain rfl : i = -1 := by omega
                              have HQe := HQ.out
                              rw [show ((-1 : Int) + 1).toNat = 0 from rfl] at HQe
                              have hql : 4503599627370496 ≤ q := q_lo HT.out HQe.1 HQe.2
                              rw [Nat.pow_zero, Nat.mul_one] at HQe
                              have HQ2 := Lib.hid HQe
                              have HTb : Hid (Big (r * 2)) := by
                                refine HNl.out.le ?_
                                have h1 := HQe.2
                                have h2 : D1 * 2 ≤ D1 * 2 ^ 53 := Nat.mul_le_mul_left _ (by decide)
                                omega
                              have HDb : Hid (Big D1) := HNl.out.le (Nat.le_mul_of_pos_right _ (by decide))
                              clear HQe HQ
                              go_wp2_with fail
                              refine (times2 _ _ _ HRn.out HRb.out).mono ?_
                              rintro e w3 ⟨tv, rfl, hr, hB⟩
                              have HRt := Lib.hid hr
                              have HB3 := Lib.hid hB
                              have HRd3 : Hid (RdN w3 u6 D1) := HRd.out.on hB
                              have HBW : Hid (Below W.heap.size W w3) := HB.out.trans (hB.mono HB.out.size)
                              clear hr hB HRd HB HRn HC
                              go_wp2_with fail
                              have HFin : Hid (∀ c, up r D1 q = c → ((nearV m x : Nat) : Int) = (1074 + t + u) * 4503599627370496 + q + c) := by
                                intro c hc
                                have hj : (1074 + t + u).toNat + (-t).toNat = 1074 + u := by omega
                                have h1 := ref_near (m := m) (x := x) (s := (-t).toNat) (u := u) (q := q) (r := r) (j := (1074 + t + u).toNat) hm hx (by omega) hj hql (by omega)
                                  (by rw [← HD0'.out, ← HDe.out]; exact HQ2.out.2) (by rw [← HN0'.out, ← HNe.out, ← HD0'.out, ← HDe.out]; exact HQ2.out.1)
                                rw [← HD0'.out, ← HDe.out, hc] at h1
                                rw [h1]; omega
                              clear hi0 hi1 hi2 HQ2 HNe HDe HN0' HD0' HNb HNc HN0 HD0 HD0b HN1 HD1 HLb HNl HNd HNb2 HT HT2 HN2 HRb
                              by_cases hA : D1 < r * 2
                              · have HLt := Lib.hid hA
                                clear hA
                                refine (lessY HRd3.out HRt.out HDb.out HTb.out HLt.out).mono ?_
                                rintro e w4 ⟨rfl, hE⟩
                                have HB4 : Hid (Below W.heap.size W w4) := HBW.out.trans (hE.below.mono HBW.out.size)
                                have HU := Lib.hid (HFin.out 1 (by unfold up; rw [if_pos]; left; have := HLt.out; omega))
                                clear hE
                                go_wp2_with fail
                                all_goals
                                  go_ret
                                  refine ⟨ret_int ?_, HB4.out⟩
                                  rw [HU.out]
                                  first
                                    | (have h : ((q : Int) + 1 == 9007199254740992) = false := by assumption
                                       omega)
                                    | (have h : ((q : Int) + 1 == 9007199254740992) = true := by assumption
                                       rw [beq_iff_eq] at h
                                       rw [IntKind.wrap_u64, IntKind.wrap_u64]
                                       omega)
                              · have HLt : Hid (r * 2 ≤ D1) := by show _ ≤ _; omega
                                clear hA
                                refine (lessN HRd3.out HRt.out HDb.out HTb.out HLt.out).mono ?_
                                rintro e w4 ⟨rfl, hE⟩
                                have HB4 : Hid (Below W.heap.size W w4) := HBW.out.trans (hE.below.mono HBW.out.size)
                                have HRd4 : Hid (RdN w4 u6 D1) := HRd3.out.on hE.below
                                have HRt4 : Hid (RdN w4 tv (r * 2)) := HRt.out.on hE.below
                                clear hE
                                go_wp2_with fail
                                rcases Nat.lt_or_ge (r * 2) D1 with hA | hA
                                · have HLs := Lib.hid hA
                                  clear hA
                                  refine (lessY HRt4.out HRd4.out HTb.out HDb.out HLs.out).mono ?_
                                  rintro e w5 ⟨rfl, hE⟩
                                  have HB5 : Hid (Below W.heap.size W w5) := HB4.out.trans (hE.below.mono HB4.out.size)
                                  have HU := Lib.hid (HFin.out 0 (by unfold up; rw [if_neg]; have := HLs.out; omega))
                                  clear hE
                                  go_wp2_with fail
                                  go_ret
                                  refine ⟨ret_int ?_, HB5.out⟩
                                  rw [HU.out]; omega
                                · have HLs := Lib.hid hA
                                  clear hA
                                  refine (lessN HRt4.out HRd4.out HTb.out HDb.out HLs.out).mono ?_
                                  rintro e w5 ⟨rfl, hE⟩
                                  have HB5 : Hid (Below W.heap.size W w5) := HB4.out.trans (hE.below.mono HB4.out.size)
                                  clear hE
                                  rcases Nat.mod_two_eq_zero_or_one q with h2 | h2
                                  · have HU := Lib.hid (HFin.out 0 (by unfold up; rw [if_neg]; have := HLs.out; have := HLt.out; omega))
                                    have g2 : ((q : Int) % 2 == 1) = false := by rw [beq_eq_false_iff_ne]; omega
                                    clear h2
                                    go_wp2_with fail
                                    go_ret
                                    refine ⟨ret_int ?_, HB5.out⟩
                                    rw [HU.out]; omega
                                  · have HU := Lib.hid (HFin.out 1 (by unfold up; rw [if_pos]; right; have := HLs.out; have := HLt.out; exact ⟨by omega, h2⟩))
                                    have g2 : ((q : Int) % 2 == 1) = true := by rw [beq_iff_eq]; omega
                                    clear h2
                                    go_wp2_with fail
                                    all_goals
                                      go_ret
                                      refine ⟨ret_int ?_, HB5.out⟩
                                      rw [HU.out]
                                      first
                                        | (have h : ((q : Int) + 1 == 9007199254740992) = false := by assumption
                                           omega)
                                        | (have h : ((q : Int) + 1 == 9007199254740992) = true := by assumption
                                           rw [beq_iff_eq] at h
                                           rw [IntKind.wrap_u64, IntKind.wrap_u64]
                                           omega)
end Go.Proofs.YtkgcbeokfilehaaGreatDoor
