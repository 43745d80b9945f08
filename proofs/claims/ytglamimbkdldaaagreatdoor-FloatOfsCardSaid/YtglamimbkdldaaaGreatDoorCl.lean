import Derived.Test.YtglamimbkdldaaaGreatDoorRight
namespace Go.Proofs.YtglamimbkdldaaaGreatDoor
open Go.RowKit Go.Sort

/-- Noughts struck off a number's end, and how many. -/
def stripF : Nat → Int → Int × Nat
  | 0, m => (m, 0)
  | f + 1, m => if m % 10 = 0 then ((stripF f (m / 10)).1, (stripF f (m / 10)).2 + 1) else (m, 0)
theorem strip_of (k : Nat) : ∀ (f : Nat) (m' : Int), k ≤ f → m' % 10 ≠ 0 → stripF f (m' * 10 ^ k) = (m', k) := by
  induction k with
  | zero =>
    intro f m' _ h
    cases f with
    | zero => simp [stripF]
    | succ f => unfold stripF; rw [Int.pow_zero, Int.mul_one, if_neg h]
  | succ k ih =>
    intro f m' hf h
    cases f with
    | zero => omega
    | succ f =>
      have e : m' * 10 ^ (k + 1) = m' * 10 ^ k * 10 := by rw [Int.pow_succ, Int.mul_assoc]
      unfold stripF
      rw [e, if_pos (by omega), Int.mul_ediv_cancel _ (by decide), ih f m' (by omega) h]
/-- float.Clean: the mantissa and the exponent, if there is a value. -/
def cleanV (m x : Int) : Option (Int × Int) :=
  if x < -1000 ∨ 1000 < x then none
  else if m = 0 then some (0, 0)
  else if rightV (stripF 20 m).1 (x + (stripF 20 m).2) 0 then some ((stripF 20 m).1, x + (stripF 20 m).2) else none
/-- What Clean answers. -/
def cleanR (m x : Int) : Value := match cleanV m x with
  | some (a, b) => .tuple #[.agg #[.int .i64 a, .int .i64 b, .int .i64 0], .bool true]
  | none => .tuple #[.agg #[.int .i64 0, .int .i64 0, .int .i64 0], .bool false]
theorem pow10_bd {m mm : Int} {k : Nat} (h : m = mm * 10 ^ k) (hm : m ≠ 0) (h1 : -9223372036854775808 ≤ m) (h2 : m ≤ 9223372036854775807) : k ≤ 18 := by
  rcases Nat.lt_or_ge 18 k with hk | hk
  · exfalso
    obtain ⟨t, rfl⟩ : ∃ t, k = 19 + t := ⟨k - 19, by omega⟩
    have h0 : mm ≠ 0 := by rintro rfl; simp at h; exact hm h
    have ha : m.natAbs = mm.natAbs * (10 ^ 19 * 10 ^ t) := by
      rw [h, Int.natAbs_mul, Int.natAbs_pow, ← Nat.pow_add]; rfl
    have hp : 1 ≤ mm.natAbs * 10 ^ t := Nat.mul_pos (by omega) (Nat.pow_pos (by decide))
    rw [Nat.mul_left_comm] at ha
    have hq : 10 ^ 19 * 1 ≤ 10 ^ 19 * (mm.natAbs * 10 ^ t) := Nat.mul_le_mul_left _ hp
    have h19 : (10 : Nat) ^ 19 = 10000000000000000000 := by decide
    omega
  · exact hk

set_option maxRecDepth 100000 in
set_option maxHeartbeats 2000000 in
theorem clean_walk (m x : Int) (w : World) (h1 : -9223372036854775808 ≤ m) (h2 : m ≤ 9223372036854775807) :
    Calls Tryz.prog 15 #[.int .i64 m, .int .i64 x] w fun e w' => e = .returned (cleanR m x) ∧ Ext w w' := by
  have hr : Tryz.f15.results = #[.cell 4 23, .tmp 5] := by kernel_rfl
  obtain ⟨R, hR⟩ : ∃ R, R = cleanR m x := ⟨_, rfl⟩
  rw [← hR]
  by_cases hx : x < -1000 ∨ 1000 < x
  · have hv : R = .tuple #[.agg #[.int .i64 0, .int .i64 0, .int .i64 0], .bool false] := by
      rw [hR]; unfold cleanR cleanV; rw [if_pos hx]
    subst hv
    clear hR
    go_enter Tryz.func15, Tryz.ntmps15
    rcases hx with hx | hx
    all_goals go_wp2
    all_goals refine bodyPost_ret (v := .tuple #[.agg #[.int .i64 0, .int .i64 0, .int .i64 0], .bool false]) ?_ rfl ⟨rfl, (by repeat (first | exact Ext.refl _ | (refine Ext.setCell ?_ (by simp) _) | apply Ext.drew | apply Ext.alloc))⟩
    all_goals (unfold results; rw [hr]; go_simp)
  · by_cases hm : m = 0
    · have hv : R = .tuple #[.agg #[.int .i64 0, .int .i64 0, .int .i64 0], .bool true] := by
        rw [hR]; unfold cleanR cleanV; rw [if_neg hx, if_pos hm]
      subst hv hm
      clear hR
      have hxa : -1000 ≤ x := by omega
      have hxb : x ≤ 1000 := by omega
      clear hx
      go_enter Tryz.func15, Tryz.ntmps15
      go_wp2
      all_goals refine bodyPost_ret (v := .tuple #[.agg #[.int .i64 0, .int .i64 0, .int .i64 0], .bool true]) ?_ rfl ⟨rfl, (by repeat (first | exact Ext.refl _ | (refine Ext.setCell ?_ (by simp) _) | apply Ext.drew | apply Ext.alloc))⟩
      all_goals (unfold results; rw [hr]; go_simp)
    · have HC : Hid (∀ (mm : Int) (k : Nat), m = mm * 10 ^ k → mm % 10 ≠ 0 → R = if rightV mm (x + k) 0 then .tuple #[.agg #[.int .i64 mm, .int .i64 (x + k), .int .i64 0], .bool true] else .tuple #[.agg #[.int .i64 0, .int .i64 0, .int .i64 0], .bool false]) := by
        intro mm k e h9
        have hk := pow10_bd e hm h1 h2
        rw [hR]; unfold cleanR cleanV
        rw [if_neg hx, if_neg hm, e, strip_of k 20 mm (by omega) h9]
        by_cases h8 : rightV mm (x + k) 0 = true
        · simp only [h8, if_true]
        · simp only [h8]; simp
      have HM : Hid (m ≠ 0 ∧ -9223372036854775808 ≤ m ∧ m ≤ 9223372036854775807) := ⟨hm, h1, h2⟩
      have hxa : -1000 ≤ x := by omega
      have hxb : x ≤ 1000 := by omega
      have hm0 : ((m : Int) == 0) = false := by rw [beq_eq_false_iff_ne]; exact hm
      clear hx hR hm
      go_enter Tryz.func15, Tryz.ntmps15
      go_wp2_with fail
      go_loopw [0, 1] (fun a b wl => ∃ (mm : Int) (k : Nat), a = .int .i64 mm ∧ b = .int .i64 (x + k) ∧ k ≤ 18 ∧ Hid (m = mm * 10 ^ k) ∧ -9223372036854775808 ≤ mm ∧ mm ≤ 9223372036854775807 ∧ Hid (Ext (w.alloc (.cells #[.int .i64 0, .int .i64 0, .int .i64 0] 23)) wl)) (fun _ b _ => (2000 - intOf b).toNat)
      case atStart => exact ⟨m, 0, rfl, by simp, by omega, by show _ = _; simp, h1, h2, by first | exact Ext.refl _ | exact (Ext.refl _).drew⟩
      case round =>
        obtain ⟨mm, k, rfl, rfl, hk, HP, b1, b2, HE⟩ := hrel
        by_cases h0 : mm % 10 = 0
        · obtain ⟨q, hq⟩ : ∃ q, mm = q * 10 := ⟨mm / 10, by omega⟩
          subst hq
          have t1 : Int.tmod (q * 10) 10 = 0 := Int.mul_tmod_left q 10
          have t2 : Int.tdiv (q * 10) 10 = q := Int.mul_tdiv_cancel q (by decide)
          have HP2 : Hid (m = q * 10 ^ (k + 1)) := by show _ = _; rw [HP.out, Int.pow_succ, Int.mul_assoc, Int.mul_comm 10]
          have hk2 : k + 1 ≤ 18 := pow10_bd HP2.out HM.out.1 HM.out.2.1 HM.out.2.2
          go_wp2_with fail
          go_roundw
          case rel => exact ⟨q, k + 1, rfl, by go_num, hk2, HP2, by omega, by omega, HE⟩
          case measure => simp [intOf]; omega
        · have t1 : (Int.tmod mm 10 == 0) = false := by
            rw [beq_eq_false_iff_ne]
            intro e
            have := Int.dvd_of_tmod_eq_zero e
            omega
          have hR := HC.out mm k HP.out h0
          go_wp2_with fail
          have hnew : (wr.alloc (.cells #[.int .i64 mm, .int .i64 (x + k), .int .i64 0] 23)).heap.size = wr.heap.size + 1 := by simp
          refine (fright_walk mm (x + k) 0 _).mono ?_
          rintro e w2 ⟨rfl, hE2⟩
          have hE3 := ((HE.out.alloc (.cells #[.int .i64 mm, .int .i64 (x + k), .int .i64 0] 23)).trans hE2)
          have hc0 : w2.cell? ⟨wr.heap.size, 0, none⟩ = some (.int .i64 mm) := hE2.cell_some (by simp)
          have hc1 : w2.cell? ⟨wr.heap.size, 1, none⟩ = some (.int .i64 (x + k)) := hE2.cell_some (by simp)
          have hc2 : w2.cell? ⟨wr.heap.size, 2, none⟩ = some (.int .i64 0) := hE2.cell_some (by simp)
          have HE3 := Lib.hid hE3
          have hfz : ∀ o, w2.frozen? ⟨w.heap.size, o, none⟩ = false := fun o => by
            rw [hE3.frozen (b := w.heap.size) (o := o) (by simp)]
            exact World.frozen?_alloc_new _ _ _ _
          have hd0 : w2.cell? ⟨w.heap.size, 0, none⟩ = some (.int .i64 0) := hE3.cell_some (by simp)
          have hd1 : w2.cell? ⟨w.heap.size, 1, none⟩ = some (.int .i64 0) := hE3.cell_some (by simp)
          have hd2 : w2.cell? ⟨w.heap.size, 2, none⟩ = some (.int .i64 0) := hE3.cell_some (by simp)
          have hf0 := hfz 0
          have hf1 := hfz 1
          have hf2 := hfz 2
          have HEW : Hid (Ext w w2) := ((Ext.refl w).alloc _).trans hE3
          clear hfz
          clear hE2 hE3 hnew
          cases hb : rightV mm (x + k) 0
          · rw [hb] at hR
            have hv : R = .tuple #[.agg #[.int .i64 0, .int .i64 0, .int .i64 0], .bool false] := hR
            subst hv
            clear hR
            go_wp2_with fail
            all_goals refine bodyPost_ret (v := .tuple #[.agg #[.int .i64 0, .int .i64 0, .int .i64 0], .bool false]) ?_ rfl ⟨rfl, ?_⟩
            all_goals first | (unfold results; rw [hr]; go_simp; done) | (have := HEW.out; repeat (first | assumption | (refine Ext.setCell ?_ (by simp) _) | apply Ext.drew | apply Ext.alloc))
          · rw [hb] at hR
            have hv : R = .tuple #[.agg #[.int .i64 mm, .int .i64 (x + k), .int .i64 0], .bool true] := hR
            subst hv
            clear hR
            go_wp2_with fail
            all_goals refine bodyPost_ret (v := .tuple #[.agg #[.int .i64 mm, .int .i64 (x + k), .int .i64 0], .bool true]) ?_ rfl ⟨rfl, ?_⟩
            all_goals first | (unfold results; rw [hr]; go_simp; done) | (have := HEW.out; repeat (first | assumption | (refine Ext.setCell ?_ (by simp) _) | apply Ext.drew | apply Ext.alloc))
end Go.Proofs.YtglamimbkdldaaaGreatDoor
