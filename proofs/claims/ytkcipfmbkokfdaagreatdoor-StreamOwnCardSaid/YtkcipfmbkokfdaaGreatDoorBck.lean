import Derived.Test.YtkcipfmbkokfdaaGreatDoorNyk
import Derived.Test.YtkcipfmbkokfdaaGreatDoorGqk
import Derived.Test.YtkcipfmbkokfdaaGreatDoorBik
namespace Go.Proofs.YtkcipfmbkokfdaaGreatDoor
open Go.RowKit Go.Sort Ieee

theorem word_t (r : Nat) : double.word true r = 9223372036854775808 + r := by
  unfold Format.word; rw [dbl_sign]; simp
theorem word_f (r : Nat) : double.word false r = r := by
  unfold Format.word; simp

set_option maxRecDepth 100000 in
set_option maxHeartbeats 1000000 in
theorem rbits_pos (m : Nat) (x : Int) (w : World) (h1 : 1 ≤ m) (h2 : m ≤ 999999999999999) (hx : -300 ≤ x) (hx' : x ≤ 290) (hr : rightV m x 0 = true) :
    Calls Tryz.prog 111 #[.agg #[.int .i64 m, .int .i64 x, .int .i64 0]] w fun e w' => e = .returned (.tuple #[.int .u64 (nearV m x), .int .i64 0]) ∧ Below w.heap.size w w' := by
  have HR := Lib.hid hr
  have KN := Lib.hid (fun W => nearest_walk m x W h1 h2 hx hx')
  have hb := (nearV_bd m x h1 (by omega) hx hx').2
  obtain ⟨b, hbe⟩ : ∃ b, b = nearV m x := ⟨_, rfl⟩
  rw [← hbe] at KN hb ⊢
  have g0 : ((m : Int) == 0) = false := by rw [beq_eq_false_iff_ne]; omega
  clear hr hbe
  go_enter Tryz.func111, Tryz.ntmps111
  go_wp2_with fail
  refine (rright_walk m x 0 _).mono ?_; rintro e w1 ⟨rfl, hE1⟩
  rw [HR.out]
  have hc0 : w1.cell? ⟨w.heap.size, 0, none⟩ = some (.int .i64 m) := hE1.cell_some (by simp)
  have hc1 : w1.cell? ⟨w.heap.size, 1, none⟩ = some (.int .i64 x) := hE1.cell_some (by simp)
  have hc2 : w1.cell? ⟨w.heap.size, 2, none⟩ = some (.int .i64 0) := hE1.cell_some (by simp)
  have HE : Hid (Ext w w1) := ((Ext.refl w).alloc _).trans hE1
  clear hE1
  go_wp2_with fail
  refine (KN.out _).mono ?_; rintro e w2 ⟨rfl, hB⟩
  have HB : Hid (Below w.heap.size w w2) := HE.out.below.trans (hB.mono HE.out.size)
  clear hB
  go_wp2_with fail
  go_ret2
  exact ⟨rfl, HB.out⟩
set_option maxRecDepth 100000 in
set_option maxHeartbeats 1000000 in
theorem rbits_neg (m : Nat) (x : Int) (w : World) (h1 : 1 ≤ m) (h2 : m ≤ 999999999999999) (hx : -300 ≤ x) (hx' : x ≤ 290) (hr : rightV (-(m : Int)) x 0 = true) :
    Calls Tryz.prog 111 #[.agg #[.int .i64 (-(m : Int)), .int .i64 x, .int .i64 0]] w fun e w' => e = .returned (.tuple #[.int .u64 (9223372036854775808 + nearV m x : Nat), .int .i64 0]) ∧ Below w.heap.size w w' := by
  have HR := Lib.hid hr
  have KN := Lib.hid (fun W => nearest_walk m x W h1 h2 hx hx')
  have hb := (nearV_bd m x h1 (by omega) hx hx').2
  obtain ⟨b, hbe⟩ : ∃ b, b = nearV m x := ⟨_, rfl⟩
  rw [← hbe] at KN hb ⊢
  have g0 : (-(m : Int) == 0) = false := by rw [beq_eq_false_iff_ne]; omega
  have g1 : -(m : Int) < 0 := by omega
  clear hr hbe
  go_enter Tryz.func111, Tryz.ntmps111
  go_wp2_with fail
  refine (rright_walk (-(m : Int)) x 0 _).mono ?_; rintro e w1 ⟨rfl, hE1⟩
  rw [HR.out]
  have hc0 : w1.cell? ⟨w.heap.size, 0, none⟩ = some (.int .i64 (-(m : Int))) := hE1.cell_some (by simp)
  have hc1 : w1.cell? ⟨w.heap.size, 1, none⟩ = some (.int .i64 x) := hE1.cell_some (by simp)
  have hc2 : w1.cell? ⟨w.heap.size, 2, none⟩ = some (.int .i64 0) := hE1.cell_some (by simp)
  have HE : Hid (Ext w w1) := ((Ext.refl w).alloc _).trans hE1
  clear hE1
  go_wp2_with fail
  refine (KN.out _).mono ?_; rintro e w2 ⟨rfl, hB⟩
  have HB : Hid (Below w.heap.size w w2) := HE.out.below.trans (hB.mono HE.out.size)
  clear hB
  go_wp2_with fail
  go_ret2
  exact ⟨by simp, HB.out⟩
set_option maxRecDepth 100000 in
set_option maxHeartbeats 1000000 in
theorem rbits_not (m x s : Int) (w : World) (hr : rightV m x s = false) :
    Calls Tryz.prog 111 #[.agg #[.int .i64 m, .int .i64 x, .int .i64 s]] w fun e w' => e = .returned (.tuple #[.int .u64 0, .int .i64 20]) ∧ Below w.heap.size w w' := by
  have HR := Lib.hid hr
  clear hr
  go_enter Tryz.func111, Tryz.ntmps111
  go_wp2_with fail
  refine (rright_walk m x s _).mono ?_; rintro e w1 ⟨rfl, hE1⟩
  rw [HR.out]
  have HE : Hid (Ext w w1) := ((Ext.refl w).alloc _).trans hE1
  clear hE1
  go_wp2_with fail
  go_ret2
  exact ⟨rfl, HE.out.below⟩
set_option maxRecDepth 100000 in
set_option maxHeartbeats 1000000 in
theorem rbits_kind (s : Int) (b : Nat) (w : World) (hs : (s = 1 ∧ b = 9218868437227405314) ∨ (s = 2 ∧ b = 9218868437227405312) ∨ (s = 3 ∧ b = 18442240474082181120) ∨ (s = 4 ∧ b = 9223372036854775808) ∨ (s = 0 ∧ b = 0)) :
    Calls Tryz.prog 111 #[.agg #[.int .i64 0, .int .i64 0, .int .i64 s]] w fun e w' => e = .returned (.tuple #[.int .u64 b, .int .i64 0]) ∧ Below w.heap.size w w' := by
  rcases hs with ⟨rfl, rfl⟩ | ⟨rfl, rfl⟩ | ⟨rfl, rfl⟩ | ⟨rfl, rfl⟩ | ⟨rfl, rfl⟩
  all_goals
    go_enter Tryz.func111, Tryz.ntmps111
    go_wp2_with fail
    refine (rright_walk 0 0 _ _).mono ?_; rintro e w1 ⟨rfl, hE1⟩
    rw [show rightV 0 0 _ = true from rfl]
    have hc0 : w1.cell? ⟨w.heap.size, 0, none⟩ = some (.int .i64 0) := hE1.cell_some (by simp)
    have hc2 : w1.cell? ⟨w.heap.size, 2, none⟩ = some (.int .i64 _) := hE1.cell_some (by simp; rfl)
    have HE : Hid (Ext w w1) := ((Ext.refl w).alloc _).trans hE1
    clear hE1
    go_wp2_with fail
    go_ret2
    exact ⟨rfl, HE.out.below⟩

/-- The program's bits, by the nearest double. -/
theorem bitsN_near (m x : Int) (hm : m ≠ 0) (h1 : -1000000000000000 < m) (h2 : m < 1000000000000000) (hx : -300 ≤ x) (hx' : x ≤ 290) : bitsN m x = (if m < 0 then 9223372036854775808 else 0) + nearV m.natAbs x := by
  unfold bitsN
  rw [if_neg hm, bitsD_near m.natAbs x (by omega) (by omega) hx hx']
  by_cases h : m < 0
  · rw [decide_eq_true h, word_t, if_pos h]
  · rw [decide_eq_false h, word_f, if_neg h, Nat.zero_add]

/-- eskerref02.Bits. -/
theorem rbits_walk (m x s : Int) (w : World) :
    Calls Tryz.prog 111 #[.agg #[.int .i64 m, .int .i64 x, .int .i64 s]] w fun e w' => e = .returned (.tuple #[.int .u64 (bitsV m x s), .int .i64 (errV m x s)]) ∧ Below w.heap.size w w' := by
  unfold bitsV errV
  cases hr : rightV m x s
  · exact rbits_not m x s w hr
  · simp only [Bool.true_eq_false, if_false, if_true]
    have h := hr
    unfold rightV at h
    by_cases hs : s = 0
    · subst hs
      simp only [show (0 : Int) ≠ 1 from by decide, show (0 : Int) ≠ 2 from by decide, show (0 : Int) ≠ 3 from by decide, show (0 : Int) ≠ 4 from by decide, if_false]
      rw [if_neg (by decide)] at h
      split at h
      · cases h
      · split at h
        · rename_i hm
          simp only [decide_eq_true_eq] at h
          subst hm; subst h
          exact rbits_kind 0 0 w (.inr (.inr (.inr (.inr ⟨rfl, rfl⟩))))
        · simp only [decide_eq_true_eq] at h
          have hm0 : m ≠ 0 := by assumption
          rw [bitsN_near m x hm0 (by omega) (by omega) h.2.1 h.2.2]
          rcases (by omega : 0 < m ∨ m < 0) with hm | hm
          · obtain ⟨n, rfl⟩ : ∃ n : Nat, m = n := ⟨m.toNat, by omega⟩
            rw [if_neg (by omega), Nat.zero_add, Int.natAbs_natCast]
            exact rbits_pos n x w (by omega) (by omega) h.2.1 h.2.2 hr
          · obtain ⟨n, rfl⟩ : ∃ n : Nat, m = -(n : Int) := ⟨m.natAbs, by omega⟩
            rw [if_pos hm, Int.natAbs_neg, Int.natAbs_natCast]
            exact rbits_neg n x w (by omega) (by omega) h.2.1 h.2.2 hr
    · rw [if_pos hs] at h
      simp only [decide_eq_true_eq] at h
      obtain ⟨h1, h2, rfl, rfl⟩ := h
      have : s = 1 ∨ s = 2 ∨ s = 3 ∨ s = 4 := by omega
      rcases this with rfl | rfl | rfl | rfl
      · exact rbits_kind 1 _ w (.inl ⟨rfl, rfl⟩)
      · exact rbits_kind 2 _ w (.inr (.inl ⟨rfl, rfl⟩))
      · exact rbits_kind 3 _ w (.inr (.inr (.inl ⟨rfl, rfl⟩)))
      · exact rbits_kind 4 _ w (.inr (.inr (.inr (.inl ⟨rfl, rfl⟩))))
end Go.Proofs.YtkcipfmbkokfdaaGreatDoor

namespace Go.Proofs.YtkcipfmbkokfdaaGreatDoor
open Go.RowKit Go.Sort

/-- What a value's bits are. -/
theorem bitsV_cases {m x s : Int} (h : rightV m x s = true) :
    (s = 0 ∧ m = 0 ∧ x = 0 ∧ bitsV m x s = 0) ∨
    (s = 0 ∧ m ≠ 0 ∧ -1000000000000000 < m ∧ m < 1000000000000000 ∧ -300 ≤ x ∧ x ≤ 290 ∧ m % 10 ≠ 0 ∧ bitsV m x s = (if m < 0 then 9223372036854775808 else 0) + nearV m.natAbs x ∧ 4503599627370496 ≤ nearV m.natAbs x ∧ nearV m.natAbs x < 9218868437227405312) ∨
    (m = 0 ∧ x = 0 ∧ ((s = 1 ∧ bitsV m x s = 9218868437227405314) ∨ (s = 2 ∧ bitsV m x s = 9218868437227405312) ∨ (s = 3 ∧ bitsV m x s = 18442240474082181120) ∨ (s = 4 ∧ bitsV m x s = 9223372036854775808))) := by
  have hb : bitsV m x s = if s = 1 then 9218868437227405314 else if s = 2 then 9218868437227405312 else if s = 3 then 18442240474082181120 else if s = 4 then 9223372036854775808 else bitsN m x := by
    unfold bitsV; rw [h, if_neg (show ¬ (true = false) by decide)]
  unfold rightV at h
  by_cases hs : s = 0
  · have hb2 : bitsV m x s = bitsN m x := by
      rw [hb, if_neg (by omega), if_neg (by omega), if_neg (by omega), if_neg (by omega)]
    rw [if_neg (by rw [hs]; decide)] at h
    split at h
    · cases h
    · split at h
      · rename_i hm
        simp only [decide_eq_true_eq] at h
        left
        refine ⟨hs, hm, h, ?_⟩
        rw [hb2, hm]; unfold bitsN; rw [if_pos rfl]
      · simp only [decide_eq_true_eq] at h
        have hm0 : m ≠ 0 := by assumption
        right; left
        have hn := nearV_bd m.natAbs x (by omega) (by omega) h.2.1 h.2.2
        exact ⟨hs, hm0, by omega, by omega, h.2.1, h.2.2, h.1, hb2.trans (bitsN_near m x hm0 (by omega) (by omega) h.2.1 h.2.2), hn.1, hn.2⟩
  · rw [if_pos hs] at h
    simp only [decide_eq_true_eq] at h
    obtain ⟨h1, h2, h3, h4⟩ := h
    right; right
    refine ⟨h3, h4, ?_⟩
    rcases (by omega : s = 1 ∨ s = 2 ∨ s = 3 ∨ s = 4) with e | e | e | e
    · exact .inl ⟨e, by rw [hb, if_pos e]⟩
    · exact .inr (.inl ⟨e, by rw [hb, if_neg (by omega), if_pos e]⟩)
    · exact .inr (.inr (.inl ⟨e, by rw [hb, if_neg (by omega), if_neg (by omega), if_pos e]⟩))
    · exact .inr (.inr (.inr ⟨e, by rw [hb, if_neg (by omega), if_neg (by omega), if_neg (by omega), if_pos e]⟩))
/-- Values that aren't the same have other bits. -/
theorem bitsV_inj {m x s m' x' s' : Int} (h : rightV m x s = true) (h' : rightV m' x' s' = true) (e : bitsV m x s = bitsV m' x' s') : m = m' ∧ x = x' ∧ s = s' := by
  rcases bitsV_cases h with ⟨a1, a2, a3, a4⟩ | ⟨a1, a2, a3, a4, a5, a6, a7, a8, a9, a10⟩ | ⟨a1, a2, a3⟩ <;>
  rcases bitsV_cases h' with ⟨b1, b2, b3, b4⟩ | ⟨b1, b2, b3, b4, b5, b6, b7, b8, b9, b10⟩ | ⟨b1, b2, b3⟩
  · omega
  · rw [a4, b8] at e; split at e <;> omega
  · omega
  · rw [a8, b4] at e; split at e <;> omega
  · rw [a8, b8] at e
    have hn : nearV m.natAbs x = nearV m'.natAbs x' ∧ (m < 0 ↔ m' < 0) := by split at e <;> split at e <;> omega
    obtain ⟨h1, h2⟩ := nearV_inj m.natAbs m'.natAbs x x' (by omega) (by omega) (by omega) (by omega) a5 b5 hn.1
    omega
  · rw [a8] at e; split at e <;> omega
  · omega
  · rw [b8] at e; split at e <;> omega
  · omega
end Go.Proofs.YtkcipfmbkokfdaaGreatDoor
