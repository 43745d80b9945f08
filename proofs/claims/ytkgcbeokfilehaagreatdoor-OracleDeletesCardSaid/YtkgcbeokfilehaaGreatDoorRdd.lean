import Derived.Test.YtkgcbeokfilehaaGreatDoorNyd
import Derived.Test.YtkgcbeokfilehaaGreatDoorPsd
import Derived.Test.YtkgcbeokfilehaaGreatDoorCmqd
import Derived.Test.YtkgcbeokfilehaaGreatDoorPld
import Derived.Test.YtkgcbeokfilehaaGreatDoorAncd
namespace Go.Proofs.YtkgcbeokfilehaaGreatDoor
open Go.RowKit Go.Sort Ieee

theorem word_t (r : Nat) : double.word true r = 9223372036854775808 + r := by
  unfold Format.word; rw [dbl_sign]; simp
theorem word_f (r : Nat) : double.word false r = r := by
  unfold Format.word; simp

set_option maxRecDepth 100000 in
set_option maxHeartbeats 1000000 in
theorem rbits_pos (m : Nat) (x : Int) (w : World) (h1 : 1 ≤ m) (h2 : m ≤ 999999999999999) (hx : -300 ≤ x) (hx' : x ≤ 290) (hr : rightV m x 0 = true) :
    Calls Tryz.prog 182 #[.agg #[.int .i64 m, .int .i64 x, .int .i64 0]] w fun e w' => e = .returned (.tuple #[.int .u64 (nearV m x), .int .i64 0]) ∧ Below w.heap.size w w' := by
  have HR := Lib.hid hr
  have KN := Lib.hid (fun W => nearest_walk m x W h1 h2 hx hx')
  have hb := (nearV_bd m x h1 (by omega) hx hx').2
  obtain ⟨b, hbe⟩ : ∃ b, b = nearV m x := ⟨_, rfl⟩
  rw [← hbe] at KN hb ⊢
  have g0 : ((m : Int) == 0) = false := by rw [beq_eq_false_iff_ne]; omega
  clear hr hbe
  go_enter Tryz.func182, Tryz.ntmps182
  go_wp2_with fail
  refine (rright_walk m x 0 _).mono ?_; rintro e w1 ⟨rfl, hE1⟩
  rw [HR.out]
  have hc0 : w1.cell? ⟨w.heap.size, 0, none⟩ = some (.int .i64 m) := hE1.cell_some (by simp)
  have hc1 : w1.cell? ⟨w.heap.size, 1, none⟩ = some (.int .i64 x) := hE1.cell_some (by simp)
  have hc2 : w1.cell? ⟨w.heap.size, 2, none⟩ = some (.int .i64 0) := hE1.cell_some (by simp)
  have HE : Hid (Ext w w1) := ((Ext.refl w).alloc _).trans hE1
  clear hE1
  go_wp2_with fail
  refine (KN.out _).mono ?_; rintro e w2 ⟨rfl, hB⟩
  have HB : Hid (Below w.heap.size w w2) := HE.out.below.trans (hB.mono HE.out.size)
  clear hB
  go_wp2_with fail
  go_ret2
  exact ⟨rfl, HB.out⟩
set_option maxRecDepth 100000 in
set_option maxHeartbeats 1000000 in
theorem rbits_neg (m : Nat) (x : Int) (w : World) (h1 : 1 ≤ m) (h2 : m ≤ 999999999999999) (hx : -300 ≤ x) (hx' : x ≤ 290) (hr : rightV (-(m : Int)) x 0 = true) :
    Calls Tryz.prog 182 #[.agg #[.int .i64 (-(m : Int)), .int .i64 x, .int .i64 0]] w fun e w' => e = .returned (.tuple #[.int .u64 (9223372036854775808 + nearV m x : Nat), .int .i64 0]) ∧ Below w.heap.size w w' := by
  have HR := Lib.hid hr
  have KN := Lib.hid (fun W => nearest_walk m x W h1 h2 hx hx')
  have hb := (nearV_bd m x h1 (by omega) hx hx').2
  obtain ⟨b, hbe⟩ : ∃ b, b = nearV m x := ⟨_, rfl⟩
  rw [← hbe] at KN hb ⊢
  have g0 : (-(m : Int) == 0) = false := by rw [beq_eq_false_iff_ne]; omega
  have g1 : -(m : Int) < 0 := by omega
  clear hr hbe
  go_enter Tryz.func182, Tryz.ntmps182
  go_wp2_with fail
  refine (rright_walk (-(m : Int)) x 0 _).mono ?_; rintro e w1 ⟨rfl, hE1⟩
  rw [HR.out]
  have hc0 : w1.cell? ⟨w.heap.size, 0, none⟩ = some (.int .i64 (-(m : Int))) := hE1.cell_some (by simp)
  have hc1 : w1.cell? ⟨w.heap.size, 1, none⟩ = some (.int .i64 x) := hE1.cell_some (by simp)
  have hc2 : w1.cell? ⟨w.heap.size, 2, none⟩ = some (.int .i64 0) := hE1.cell_some (by simp)
  have HE : Hid (Ext w w1) := ((Ext.refl w).alloc _).trans hE1
  clear hE1
  go_wp2_with fail
  refine (KN.out _).mono ?_; rintro e w2 ⟨rfl, hB⟩
  have HB : Hid (Below w.heap.size w w2) := HE.out.below.trans (hB.mono HE.out.size)
  clear hB
  go_wp2_with fail
  go_ret2
  exact ⟨by simp, HB.out⟩
set_option maxRecDepth 100000 in
set_option maxHeartbeats 1000000 in
theorem rbits_not (m x s : Int) (w : World) (hr : rightV m x s = false) :
    Calls Tryz.prog 182 #[.agg #[.int .i64 m, .int .i64 x, .int .i64 s]] w fun e w' => e = .returned (.tuple #[.int .u64 0, .int .i64 20]) ∧ Below w.heap.size w w' := by
  have HR := Lib.hid hr
  clear hr
  go_enter Tryz.func182, Tryz.ntmps182
  go_wp2_with fail
  refine (rright_walk m x s _).mono ?_; rintro e w1 ⟨rfl, hE1⟩
  rw [HR.out]
  have HE : Hid (Ext w w1) := ((Ext.refl w).alloc _).trans hE1
  clear hE1
  go_wp2_with fail
  go_ret2
  exact ⟨rfl, HE.out.below⟩
set_option maxRecDepth 100000 in
set_option maxHeartbeats 1000000 in
theorem rbits_kind (s : Int) (b : Nat) (w : World) (hs : (s = 1 ∧ b = 9218868437227405314) ∨ (s = 2 ∧ b = 9218868437227405312) ∨ (s = 3 ∧ b = 18442240474082181120) ∨ (s = 4 ∧ b = 9223372036854775808) ∨ (s = 0 ∧ b = 0)) :
    Calls Tryz.prog 182 #[.agg #[.int .i64 0, .int .i64 0, .int .i64 s]] w fun e w' => e = .returned (.tuple #[.int .u64 b, .int .i64 0]) ∧ Below w.heap.size w w' := by
  rcases hs with ⟨rfl, rfl⟩ | ⟨rfl, rfl⟩ | ⟨rfl, rfl⟩ | ⟨rfl, rfl⟩ | ⟨rfl, rfl⟩
  all_goals
    go_enter Tryz.func182, Tryz.ntmps182
    go_wp2_with fail
    refine (rright_walk 0 0 _ _).mono ?_; rintro e w1 ⟨rfl, hE1⟩
    rw [show rightV 0 0 _ = true from rfl]
    have hc0 : w1.cell? ⟨w.heap.size, 0, none⟩ = some (.int .i64 0) := hE1.cell_some (by simp)
    have hc2 : w1.cell? ⟨w.heap.size, 2, none⟩ = some (.int .i64 _) := hE1.cell_some (by simp; rfl)
    have HE : Hid (Ext w w1) := ((Ext.refl w).alloc _).trans hE1
    clear hE1
    go_wp2_with fail
    go_ret2
    exact ⟨rfl, HE.out.below⟩

/-- The program's bits, by the nearest double. -/
theorem bitsN_near (m x : Int) (hm : m ≠ 0) (h1 : -1000000000000000 < m) (h2 : m < 1000000000000000) (hx : -300 ≤ x) (hx' : x ≤ 290) : bitsN m x = (if m < 0 then 9223372036854775808 else 0) + nearV m.natAbs x := by
  unfold bitsN
  rw [if_neg hm, bitsD_near m.natAbs x (by omega) (by omega) hx hx']
  by_cases h : m < 0
  · rw [decide_eq_true h, word_t, if_pos h]
  · rw [decide_eq_false h, word_f, if_neg h, Nat.zero_add]

/-- eskerref02.Bits. -/
theorem rbits_walk (m x s : Int) (w : World) :
    Calls Tryz.prog 182 #[.agg #[.int .i64 m, .int .i64 x, .int .i64 s]] w fun e w' => e = .returned (.tuple #[.int .u64 (bitsV m x s), .int .i64 (errV m x s)]) ∧ Below w.heap.size w w' := by
  unfold bitsV errV
  cases hr : rightV m x s
  · exact rbits_not m x s w hr
  · simp only [Bool.true_eq_false, if_false, if_true]
    have h := hr
    unfold rightV at h
    by_cases hs : s = 0
    · subst hs
      simp only [show (0 : Int) ≠ 1 from by decide, show (0 : Int) ≠ 2 from by decide, show (0 : Int) ≠ 3 from by decide, show (0 : Int) ≠ 4 from by decide, if_false]
      rw [if_neg (by decide)] at h
      split at h
      · cases h
      · split at h
        · rename_i hm
          simp only [decide_eq_true_eq] at h
          subst hm; subst h
          exact rbits_kind 0 0 w (.inr (.inr (.inr (.inr ⟨rfl, rfl⟩))))
        · simp only [decide_eq_true_eq] at h
          have hm0 : m ≠ 0 := by assumption
          rw [bitsN_near m x hm0 (by omega) (by omega) h.2.1 h.2.2]
          rcases (by omega : 0 < m ∨ m < 0) with hm | hm
          · obtain ⟨n, rfl⟩ : ∃ n : Nat, m = n := ⟨m.toNat, by omega⟩
            rw [if_neg (by omega), Nat.zero_add, Int.natAbs_natCast]
            exact rbits_pos n x w (by omega) (by omega) h.2.1 h.2.2 hr
          · obtain ⟨n, rfl⟩ : ∃ n : Nat, m = -(n : Int) := ⟨m.natAbs, by omega⟩
            rw [if_pos hm, Int.natAbs_neg, Int.natAbs_natCast]
            exact rbits_neg n x w (by omega) (by omega) h.2.1 h.2.2 hr
    · rw [if_pos hs] at h
      simp only [decide_eq_true_eq] at h
      obtain ⟨h1, h2, rfl, rfl⟩ := h
      have : s = 1 ∨ s = 2 ∨ s = 3 ∨ s = 4 := by omega
      rcases this with rfl | rfl | rfl | rfl
      · exact rbits_kind 1 _ w (.inl ⟨rfl, rfl⟩)
      · exact rbits_kind 2 _ w (.inr (.inl ⟨rfl, rfl⟩))
      · exact rbits_kind 3 _ w (.inr (.inr (.inl ⟨rfl, rfl⟩)))
      · exact rbits_kind 4 _ w (.inr (.inr (.inr (.inl ⟨rfl, rfl⟩))))
end Go.Proofs.YtkgcbeokfilehaaGreatDoor

namespace Go.Proofs.YtkgcbeokfilehaaGreatDoor
open Go.RowKit Go.Sort

/-- What a value's bits are. -/
theorem bitsV_cases {m x s : Int} (h : rightV m x s = true) :
    (s = 0 ∧ m = 0 ∧ x = 0 ∧ bitsV m x s = 0) ∨
    (s = 0 ∧ m ≠ 0 ∧ -1000000000000000 < m ∧ m < 1000000000000000 ∧ -300 ≤ x ∧ x ≤ 290 ∧ m % 10 ≠ 0 ∧ bitsV m x s = (if m < 0 then 9223372036854775808 else 0) + nearV m.natAbs x ∧ 4503599627370496 ≤ nearV m.natAbs x ∧ nearV m.natAbs x < 9218868437227405312) ∨
    (m = 0 ∧ x = 0 ∧ ((s = 1 ∧ bitsV m x s = 9218868437227405314) ∨ (s = 2 ∧ bitsV m x s = 9218868437227405312) ∨ (s = 3 ∧ bitsV m x s = 18442240474082181120) ∨ (s = 4 ∧ bitsV m x s = 9223372036854775808))) := by
  have hb : bitsV m x s = if s = 1 then 9218868437227405314 else if s = 2 then 9218868437227405312 else if s = 3 then 18442240474082181120 else if s = 4 then 9223372036854775808 else bitsN m x := by
    unfold bitsV; rw [h, if_neg (show ¬ (true = false) by decide)]
  unfold rightV at h
  by_cases hs : s = 0
  · have hb2 : bitsV m x s = bitsN m x := by
      rw [hb, if_neg (by omega), if_neg (by omega), if_neg (by omega), if_neg (by omega)]
    rw [if_neg (by rw [hs]; decide)] at h
    split at h
    · cases h
    · split at h
      · rename_i hm
        simp only [decide_eq_true_eq] at h
        left
        refine ⟨hs, hm, h, ?_⟩
        rw [hb2, hm]; unfold bitsN; rw [if_pos rfl]
      · simp only [decide_eq_true_eq] at h
        have hm0 : m ≠ 0 := by assumption
        right; left
        have hn := nearV_bd m.natAbs x (by omega) (by omega) h.2.1 h.2.2
        exact ⟨hs, hm0, by omega, by omega, h.2.1, h.2.2, h.1, hb2.trans (bitsN_near m x hm0 (by omega) (by omega) h.2.1 h.2.2), hn.1, hn.2⟩
  · rw [if_pos hs] at h
    simp only [decide_eq_true_eq] at h
    obtain ⟨h1, h2, h3, h4⟩ := h
    right; right
    refine ⟨h3, h4, ?_⟩
    rcases (by omega : s = 1 ∨ s = 2 ∨ s = 3 ∨ s = 4) with e | e | e | e
    · exact .inl ⟨e, by rw [hb, if_pos e]⟩
    · exact .inr (.inl ⟨e, by rw [hb, if_neg (by omega), if_pos e]⟩)
    · exact .inr (.inr (.inl ⟨e, by rw [hb, if_neg (by omega), if_neg (by omega), if_pos e]⟩))
    · exact .inr (.inr (.inr ⟨e, by rw [hb, if_neg (by omega), if_neg (by omega), if_neg (by omega), if_pos e]⟩))
/-- Values that aren't the same have other bits. -/
theorem bitsV_inj {m x s m' x' s' : Int} (h : rightV m x s = true) (h' : rightV m' x' s' = true) (e : bitsV m x s = bitsV m' x' s') : m = m' ∧ x = x' ∧ s = s' := by
  rcases bitsV_cases h with ⟨a1, a2, a3, a4⟩ | ⟨a1, a2, a3, a4, a5, a6, a7, a8, a9, a10⟩ | ⟨a1, a2, a3⟩ <;>
  rcases bitsV_cases h' with ⟨b1, b2, b3, b4⟩ | ⟨b1, b2, b3, b4, b5, b6, b7, b8, b9, b10⟩ | ⟨b1, b2, b3⟩
  · omega
  · rw [a4, b8] at e; split at e <;> omega
  · omega
  · rw [a8, b4] at e; split at e <;> omega
  · rw [a8, b8] at e
    have hn : nearV m.natAbs x = nearV m'.natAbs x' ∧ (m < 0 ↔ m' < 0) := by split at e <;> split at e <;> omega
    obtain ⟨h1, h2⟩ := nearV_inj m.natAbs m'.natAbs x x' (by omega) (by omega) (by omega) (by omega) a5 b5 hn.1
    omega
  · rw [a8] at e; split at e <;> omega
  · omega
  · rw [b8] at e; split at e <;> omega
  · omega
end Go.Proofs.YtkgcbeokfilehaaGreatDoor

namespace Go.Proofs.YtkgcbeokfilehaaGreatDoor
open Go.RowKit Go.Sort

set_option maxHeartbeats 1000000 in
theorem rcmp_walk (a b : Smp) (w : World) :
    Calls Tryz.prog 168 #[.agg #[.int .i64 a.2.1, .int .i64 a.2.2.1, .int .i64 a.2.2.2], .agg #[.int .i64 b.2.1, .int .i64 b.2.2.1, .int .i64 b.2.2.2]] w fun e w' => e = .returned (.int .i64 (cmpV a b)) ∧ Below w.heap.size w w' := by
  obtain ⟨at_, am, ax, as_⟩ := a
  obtain ⟨bt, bm, bx, bs⟩ := b
  unfold cmpV Smp.bits
  obtain ⟨u, hu⟩ : ∃ u, u = bitsV am ax as_ := ⟨_, rfl⟩
  obtain ⟨v, hv⟩ : ∃ v, v = bitsV bm bx bs := ⟨_, rfl⟩
  have B1 : ∀ w, Calls Tryz.prog 182 #[.agg #[.int .i64 am, .int .i64 ax, .int .i64 as_]] w fun e w' => e = .returned (.tuple #[.int .u64 u, .int .i64 (errV am ax as_)]) ∧ Below w.heap.size w w' := fun w => by rw [hu]; exact rbits_walk am ax as_ w
  have B2 : ∀ w, Calls Tryz.prog 182 #[.agg #[.int .i64 bm, .int .i64 bx, .int .i64 bs]] w fun e w' => e = .returned (.tuple #[.int .u64 v, .int .i64 (errV bm bx bs)]) ∧ Below w.heap.size w w' := fun w => by rw [hv]; exact rbits_walk bm bx bs w
  simp only
  rw [← hu, ← hv]
  have K1 := Lib.hid B1
  have K2 := Lib.hid B2
  clear hu hv B1 B2
  obtain ⟨w0, hw0⟩ : ∃ w0, w0 = (w.alloc (.cells #[.int .i64 am, .int .i64 ax, .int .i64 as_] 26)).alloc (.cells #[.int .i64 bm, .int .i64 bx, .int .i64 bs] 26) := ⟨_, rfl⟩
  have HE0 : Hid (Ext w w0) := by show Ext _ _; rw [hw0]; exact ((Ext.refl w).alloc _).alloc _
  have hs : w0.heap.size = w.heap.size + 2 := by rw [hw0]; simp
  have HS := Lib.hid hs
  have d0 : w0.cell? ⟨w.heap.size + 1, 0, none⟩ = some (.int .i64 bm) := by rw [hw0]; simp
  have d1 : w0.cell? ⟨w.heap.size + 1, 1, none⟩ = some (.int .i64 bx) := by rw [hw0]; simp
  have d2 : w0.cell? ⟨w.heap.size + 1, 2, none⟩ = some (.int .i64 bs) := by rw [hw0]; simp
  have D0 := Lib.hid d0
  have D1 := Lib.hid d1
  have D2 := Lib.hid d2
  clear hs d0 d1 d2
  have hcase : (u < v ∧ cmpI u v = -1) ∨ (u = v ∧ cmpI u v = 0) ∨ (v < u ∧ cmpI u v = 1) := by
    unfold cmpI
    rcases Nat.lt_trichotomy u v with h | h | h
    · exact .inl ⟨h, by rw [if_pos (by omega)]⟩
    · exact .inr (.inl ⟨h, by rw [if_neg (by omega), if_neg (by omega)]⟩)
    · exact .inr (.inr ⟨h, by rw [if_neg (by omega), if_pos (by omega)]⟩)
  rcases hcase with ⟨h, hc⟩ | ⟨h, hc⟩ | ⟨h, hc⟩
  all_goals
    rw [hc]
    clear hc
    first | subst h | skip
    go_enter Tryz.func168, Tryz.ntmps168
    go_wp2_with fail
    rw [← hw0]
    refine (K1.out _).mono ?_; rintro e w1 ⟨rfl, hE1⟩
    have hc0 : w1.cell? ⟨w.heap.size + 1, 0, none⟩ = some (.int .i64 bm) := (hE1.cell (by have := HS.out; simp; omega)).trans D0.out
    have hc1 : w1.cell? ⟨w.heap.size + 1, 1, none⟩ = some (.int .i64 bx) := (hE1.cell (by have := HS.out; simp; omega)).trans D1.out
    have hc2 : w1.cell? ⟨w.heap.size + 1, 2, none⟩ = some (.int .i64 bs) := (hE1.cell (by have := HS.out; simp; omega)).trans D2.out
    have HB1 : Hid (Below w.heap.size w w1) := HE0.out.below.trans (hE1.mono HE0.out.size)
    clear hE1 hw0
    go_wp2_with fail
    refine (K2.out _).mono ?_; rintro e w2 ⟨rfl, hE2⟩
    have HB2 : Hid (Below w.heap.size w w2) := HB1.out.trans (hE2.mono HB1.out.size)
    clear hE2
    go_wp2_with fail
    go_ret
    exact ⟨rfl, HB2.out⟩

theorem orI_ne {a b : Int} (h : a ≠ 0) : orI a b = a := by unfold orI; rw [if_pos h]
theorem orI_zero (b : Int) : orI 0 b = b := by unfold orI; simp
set_option maxHeartbeats 1000000 in
/-- eskerref15.Compare. -/
theorem rcmpS_walk (a b : Smp) (w : World) :
    Calls Tryz.prog 144 #[vS a, vS b] w fun e w' => e = .returned (.int .i64 (cmpS a b)) ∧ Below w.heap.size w w' := by
  have KF : ∀ W, Calls Tryz.prog 168 #[.agg #[.int .i64 a.2.1, .int .i64 a.2.2.1, .int .i64 a.2.2.2], .agg #[.int .i64 b.2.1, .int .i64 b.2.2.1, .int .i64 b.2.2.2]] W fun e w' => e = .returned (.int .i64 (cmpV a b)) ∧ Below W.heap.size W w' := fun W => rcmp_walk a b W
  obtain ⟨v, hv⟩ : ∃ v, v = cmpV a b := ⟨_, rfl⟩
  have hcase : (a.1 < b.1 ∧ cmpS a b = -1) ∨ (b.1 < a.1 ∧ cmpS a b = 1) ∨ (a.1 = b.1 ∧ cmpS a b = v) := by
    rw [hv]
    rcases Int.lt_trichotomy a.1 b.1 with h | h | h
    · have e : cmpI a.1 b.1 = -1 := by unfold cmpI; rw [if_pos h]
      exact .inl ⟨h, by unfold cmpS; rw [e]; exact orI_ne (by decide)⟩
    · have e : cmpI a.1 b.1 = 0 := by unfold cmpI; rw [if_neg (by omega), if_neg (by omega)]
      exact .inr (.inr ⟨h, by unfold cmpS; rw [e]; exact orI_zero _⟩)
    · have e : cmpI a.1 b.1 = 1 := by unfold cmpI; rw [if_neg (by omega), if_pos h]
      exact .inr (.inl ⟨h, by unfold cmpS; rw [e]; exact orI_ne (by decide)⟩)
  rw [← hv] at KF
  have K := Lib.hid KF
  clear KF hv
  unfold vS
  obtain ⟨w0, hw0⟩ : ∃ w0, w0 = (w.alloc (.cells #[.int .i64 a.1, .int .i64 a.2.1, .int .i64 a.2.2.1, .int .i64 a.2.2.2] 54)).alloc (.cells #[.int .i64 b.1, .int .i64 b.2.1, .int .i64 b.2.2.1, .int .i64 b.2.2.2] 54) := ⟨_, rfl⟩
  have HE0 : Hid (Ext w w0) := by show Ext _ _; rw [hw0]; exact ((Ext.refl w).alloc _).alloc _
  have a0 : w0.cell? ⟨w.heap.size, 0, none⟩ = some (.int .i64 a.1) := by rw [hw0]; simp
  have a1 : w0.cell? ⟨w.heap.size, 1, none⟩ = some (.int .i64 a.2.1) := by rw [hw0]; simp
  have a2 : w0.cell? ⟨w.heap.size, 2, none⟩ = some (.int .i64 a.2.2.1) := by rw [hw0]; simp
  have a3 : w0.cell? ⟨w.heap.size, 3, none⟩ = some (.int .i64 a.2.2.2) := by rw [hw0]; simp
  have b0 : w0.cell? ⟨w.heap.size + 1, 0, none⟩ = some (.int .i64 b.1) := by rw [hw0]; simp
  have b1 : w0.cell? ⟨w.heap.size + 1, 1, none⟩ = some (.int .i64 b.2.1) := by rw [hw0]; simp
  have b2 : w0.cell? ⟨w.heap.size + 1, 2, none⟩ = some (.int .i64 b.2.2.1) := by rw [hw0]; simp
  have b3 : w0.cell? ⟨w.heap.size + 1, 3, none⟩ = some (.int .i64 b.2.2.2) := by rw [hw0]; simp
  rcases hcase with ⟨h, hc⟩ | ⟨h, hc⟩ | ⟨h, hc⟩
  · rw [hc]
    clear hc
    go_enter Tryz.func144, Tryz.ntmps144
    go_wp2_with fail
    rw [← hw0]
    clear hw0
    go_wp2_with fail
    go_ret
    exact ⟨rfl, HE0.out.below⟩
  · rw [hc]
    have h2 : ¬ a.1 < b.1 := by omega
    clear hc
    go_enter Tryz.func144, Tryz.ntmps144
    go_wp2_with fail
    rw [← hw0]
    clear hw0
    go_wp2_with fail
    go_ret
    exact ⟨rfl, HE0.out.below⟩
  · rw [hc]
    have h2 : ¬ a.1 < b.1 := by omega
    have h3 : ¬ b.1 < a.1 := by omega
    clear hc h
    go_enter Tryz.func144, Tryz.ntmps144
    go_wp2_with fail
    rw [← hw0]
    clear hw0
    go_wp2_with fail
    refine (K.out _).mono ?_; rintro e w1 ⟨rfl, hE1⟩
    have HB1 : Hid (Below w.heap.size w w1) := HE0.out.below.trans (hE1.mono HE0.out.size)
    clear hE1
    go_wp2_with fail
    go_ret
    exact ⟨rfl, HB1.out⟩

set_option maxHeartbeats 1000000 in
/-- eskerref15.Right. -/
theorem rrightS_walk (a : Smp) (w : World) :
    Calls Tryz.prog 53 #[vS a] w fun e w' => e = .returned (.bool (rightS a)) ∧ Ext w w' := by
  obtain ⟨t, m, x, s⟩ := a
  unfold vS rightS
  simp only
  obtain ⟨v, hv⟩ : ∃ v, v = rightV m x s := ⟨_, rfl⟩
  have KR : ∀ W, Calls Tryz.prog 83 #[.agg #[.int .i64 m, .int .i64 x, .int .i64 s]] W fun e w' => e = .returned (.bool v) ∧ Ext W w' := fun W => by rw [hv]; exact rright_walk m x s W
  rw [← hv]
  have K := Lib.hid KR
  clear KR hv
  obtain ⟨w0, hw0⟩ : ∃ w0, w0 = w.alloc (.cells #[.int .i64 t, .int .i64 m, .int .i64 x, .int .i64 s] 54) := ⟨_, rfl⟩
  have HE0 : Hid (Ext w w0) := by show Ext _ _; rw [hw0]; exact (Ext.refl w).alloc _
  have c0 : w0.cell? ⟨w.heap.size, 0, none⟩ = some (.int .i64 t) := by rw [hw0]; simp
  have C0 := Lib.hid c0
  have c1 : w0.cell? ⟨w.heap.size, 1, none⟩ = some (.int .i64 m) := by rw [hw0]; simp
  have c2 : w0.cell? ⟨w.heap.size, 2, none⟩ = some (.int .i64 x) := by rw [hw0]; simp
  have c3 : w0.cell? ⟨w.heap.size, 3, none⟩ = some (.int .i64 s) := by rw [hw0]; simp
  rcases (by omega : (0 ≤ t ∧ t ≤ 1099511627776) ∨ t < 0 ∨ (0 ≤ t ∧ 1099511627776 < t)) with ⟨h1, h2⟩ | h | ⟨h1, h2⟩
  all_goals
    cases v
    all_goals
      first
        | (have g1 : decide (0 ≤ t) = true := by simp; omega)
        | (have g1 : decide (0 ≤ t) = false := by simp; omega)
      first
        | (have g2 : decide (t ≤ 1099511627776) = true := by simp; omega)
        | (have g2 : decide (t ≤ 1099511627776) = false := by simp; omega)
      have hd : Hid (decide (0 ≤ t ∧ t ≤ 1099511627776) = (decide (0 ≤ t) && decide (t ≤ 1099511627776))) := by show _ = _; simp
      rw [hd.out, g1, g2]
      go_enter Tryz.func53, Tryz.ntmps53
      go_wp2_with fail
      rw [← hw0]
      clear hw0
      refine (K.out _).mono ?_; rintro e w1 ⟨rfl, hE1⟩
      have d0 := hE1.cell_some C0.out
      have HE := Lib.hid (HE0.out.trans hE1)
      clear hE1 c0 c1 c2 c3 hd
      go_wp2_with fail
      go_ret
      exact ⟨rfl, HE.out⟩
end Go.Proofs.YtkgcbeokfilehaaGreatDoor

namespace Go.Proofs.YtkgcbeokfilehaaGreatDoor
open Go.RowKit Go.Sort
/-- A sample put into a row in order, once. -/
def putS : List Smp → Smp → List Smp
  | [], s => [s]
  | a :: l, s => if cmpS a s < 0 then a :: putS l s else if a = s then a :: l else s :: a :: l
theorem putS_end {l : List Smp} {s : Smp} (h : ∀ i (h : i < l.length), cmpS l[i] s < 0) : putS l s = l ++ [s] := by
  induction l with
  | nil => rfl
  | cons a l ih =>
    have h0 := h 0 (by simp)
    have h1 := ih fun i hi => h (i + 1) (by simpa using hi)
    unfold putS
    rw [if_pos (by simpa using h0), h1]; rfl
theorem putS_at {l : List Smp} {s : Smp} {k : Nat} (hk : k < l.length) (h : ∀ i (h : i < l.length), i < k → cmpS l[i] s < 0) (hn : ¬ cmpS l[k] s < 0) :
    putS l s = if l[k] = s then l else l.take k ++ [s] ++ l.drop k := by
  induction l generalizing k with
  | nil => simp at hk
  | cons a l ih =>
    cases k with
    | zero =>
      unfold putS
      simp only [List.getElem_cons_zero] at hn ⊢
      rw [if_neg hn]
      split <;> simp
    | succ k =>
      have h0 := h 0 (by simp) (by omega)
      have h1 := ih (k := k) (by simpa using hk) (fun i hi hik => h (i + 1) (by simpa using hi) (by omega)) (by simpa using hn)
      unfold putS
      simp only [List.getElem_cons_zero, List.getElem_cons_succ] at h0 ⊢
      rw [if_pos h0, h1]
      split <;> simp
theorem putS_length (l : List Smp) (s : Smp) : (putS l s).length ≤ l.length + 1 := by
  induction l with
  | nil => simp [putS]
  | cons a l ih => unfold putS; split <;> (try split) <;> simp <;> omega

/-- A part of a row that can be read. -/
theorem Rd.cutTo {w : World} {B : Nat} {A : Option Addr} {n c k : Nat} {l : List Smp} (hn : n = l.length) (h : Rd w B (.slice A n c) l) (hk : k ≤ n) : Rd w B (.slice A k c) (l.take k) := by
  obtain ⟨A', c', e, hc, hA⟩ := h
  injection e with e1 e2 e3
  subst e1 e3
  have hl : (l.take k).length = k := by rw [List.length_take]; omega
  refine ⟨A, c, by rw [hl], by omega, ?_⟩
  rcases hA with rfl | ⟨b, o, rfl, hb, hcl⟩
  · left; simp
  · right
    refine ⟨b, o, rfl, hb, fun i hi => ?_⟩
    have hi' : i < l.length := by omega
    rw [List.getElem_take]
    exact hcl i hi'
theorem Rd.cutFrom {w : World} {B b o : Nat} {n c k : Nat} {l : List Smp} (hn : n = l.length) (h : Rd w B (.slice (some ⟨b, o, none⟩) n c) l) (hk : k < n) : Rd w B (.slice (some ⟨b, o + k * 4, none⟩) (n - k) (c - k)) (l.drop k) := by
  obtain ⟨A', c', e, hc, hA⟩ := h
  injection e with e1 e2 e3
  subst e1 e3
  have hl : (l.drop k).length = n - k := by rw [List.length_drop]; omega
  refine ⟨_, c - k, by rw [hl], by omega, ?_⟩
  rcases hA with rfl | ⟨b', o', e, hb, hcl⟩
  · simp at hn; omega
  · injection e with e
    injection e with e1 e2
    subst e1 e2
    right
    refine ⟨b, _, rfl, hb, fun i hi => ?_⟩
    have := hcl (k + i) (by omega)
    rw [show o + k * 4 + i * 4 = o + (k + i) * 4 by omega, List.getElem_drop]
    exact this
theorem Cell4.ext {w w' : World} {b o : Nat} {s : Smp} (h : Cell4 w b o s) (k : Below w.heap.size w w') : Cell4 w' b o s := h.below k (lt_of_cell h.1)
end Go.Proofs.YtkgcbeokfilehaaGreatDoor
