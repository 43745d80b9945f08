import Derived.Test.YtbggdkpcgcmepaaGreatDoorRb
import Derived.Test.YtbggdkpcgcmepaaGreatDoorPl
namespace Go.Proofs.YtbggdkpcgcmepaaGreatDoor
open Go.RowKit Go.Sort

set_option maxHeartbeats 1000000 in
theorem rcmp_walk (a b : Smp) (w : World) :
    Calls Tryz.prog 28 #[.agg #[.int .i64 a.2.1, .int .i64 a.2.2.1, .int .i64 a.2.2.2], .agg #[.int .i64 b.2.1, .int .i64 b.2.2.1, .int .i64 b.2.2.2]] w fun e w' => e = .returned (.int .i64 (cmpV a b)) ∧ Below w.heap.size w w' := by
  obtain ⟨at_, am, ax, as_⟩ := a
  obtain ⟨bt, bm, bx, bs⟩ := b
  unfold cmpV Smp.bits
  obtain ⟨u, hu⟩ : ∃ u, u = bitsV am ax as_ := ⟨_, rfl⟩
  obtain ⟨v, hv⟩ : ∃ v, v = bitsV bm bx bs := ⟨_, rfl⟩
  have B1 : ∀ w, Calls Tryz.prog 38 #[.agg #[.int .i64 am, .int .i64 ax, .int .i64 as_]] w fun e w' => e = .returned (.tuple #[.int .u64 u, .int .i64 (errV am ax as_)]) ∧ Below w.heap.size w w' := fun w => by rw [hu]; exact rbits_walk am ax as_ w
  have B2 : ∀ w, Calls Tryz.prog 38 #[.agg #[.int .i64 bm, .int .i64 bx, .int .i64 bs]] w fun e w' => e = .returned (.tuple #[.int .u64 v, .int .i64 (errV bm bx bs)]) ∧ Below w.heap.size w w' := fun w => by rw [hv]; exact rbits_walk bm bx bs w
  simp only
  rw [← hu, ← hv]
  have K1 := Lib.hid B1
  have K2 := Lib.hid B2
  clear hu hv B1 B2
  obtain ⟨w0, hw0⟩ : ∃ w0, w0 = (w.alloc (.cells #[.int .i64 am, .int .i64 ax, .int .i64 as_] 26)).alloc (.cells #[.int .i64 bm, .int .i64 bx, .int .i64 bs] 26) := ⟨_, rfl⟩
  have HE0 : Hid (Ext w w0) := by show Ext _ _; rw [hw0]; exact ((Ext.refl w).alloc _).alloc _
  have hs : w0.heap.size = w.heap.size + 2 := by rw [hw0]; simp
  have HS := Lib.hid hs
  have d0 : w0.cell? ⟨w.heap.size + 1, 0, none⟩ = some (.int .i64 bm) := by rw [hw0]; simp
  have d1 : w0.cell? ⟨w.heap.size + 1, 1, none⟩ = some (.int .i64 bx) := by rw [hw0]; simp
  have d2 : w0.cell? ⟨w.heap.size + 1, 2, none⟩ = some (.int .i64 bs) := by rw [hw0]; simp
  have D0 := Lib.hid d0
  have D1 := Lib.hid d1
  have D2 := Lib.hid d2
  clear hs d0 d1 d2
  have hcase : (u < v ∧ cmpI u v = -1) ∨ (u = v ∧ cmpI u v = 0) ∨ (v < u ∧ cmpI u v = 1) := by
    unfold cmpI
    rcases Nat.lt_trichotomy u v with h | h | h
    · exact .inl ⟨h, by rw [if_pos (by omega)]⟩
    · exact .inr (.inl ⟨h, by rw [if_neg (by omega), if_neg (by omega)]⟩)
    · exact .inr (.inr ⟨h, by rw [if_neg (by omega), if_pos (by omega)]⟩)
  rcases hcase with ⟨h, hc⟩ | ⟨h, hc⟩ | ⟨h, hc⟩
  all_goals
    rw [hc]
    clear hc
    first | subst h | skip
    go_enter Tryz.func28, Tryz.ntmps28
    go_wp2_with fail
    rw [← hw0]
    refine (K1.out _).mono ?_; rintro e w1 ⟨rfl, hE1⟩
    have hc0 : w1.cell? ⟨w.heap.size + 1, 0, none⟩ = some (.int .i64 bm) := (hE1.cell (by have := HS.out; simp; omega)).trans D0.out
    have hc1 : w1.cell? ⟨w.heap.size + 1, 1, none⟩ = some (.int .i64 bx) := (hE1.cell (by have := HS.out; simp; omega)).trans D1.out
    have hc2 : w1.cell? ⟨w.heap.size + 1, 2, none⟩ = some (.int .i64 bs) := (hE1.cell (by have := HS.out; simp; omega)).trans D2.out
    have HB1 : Hid (Below w.heap.size w w1) := HE0.out.below.trans (hE1.mono HE0.out.size)
    clear hE1 hw0
    go_wp2_with fail
    refine (K2.out _).mono ?_; rintro e w2 ⟨rfl, hE2⟩
    have HB2 : Hid (Below w.heap.size w w2) := HB1.out.trans (hE2.mono HB1.out.size)
    clear hE2
    go_wp2_with fail
    go_ret
    exact ⟨rfl, HB2.out⟩

theorem orI_ne {a b : Int} (h : a ≠ 0) : orI a b = a := by unfold orI; rw [if_pos h]
theorem orI_zero (b : Int) : orI 0 b = b := by unfold orI; simp
set_option maxHeartbeats 1000000 in
/-- eskerref15.Compare. -/
theorem rcmpS_walk (a b : Smp) (w : World) :
    Calls Tryz.prog 14 #[vS a, vS b] w fun e w' => e = .returned (.int .i64 (cmpS a b)) ∧ Below w.heap.size w w' := by
  have KF : ∀ W, Calls Tryz.prog 28 #[.agg #[.int .i64 a.2.1, .int .i64 a.2.2.1, .int .i64 a.2.2.2], .agg #[.int .i64 b.2.1, .int .i64 b.2.2.1, .int .i64 b.2.2.2]] W fun e w' => e = .returned (.int .i64 (cmpV a b)) ∧ Below W.heap.size W w' := fun W => rcmp_walk a b W
  obtain ⟨v, hv⟩ : ∃ v, v = cmpV a b := ⟨_, rfl⟩
  have hcase : (a.1 < b.1 ∧ cmpS a b = -1) ∨ (b.1 < a.1 ∧ cmpS a b = 1) ∨ (a.1 = b.1 ∧ cmpS a b = v) := by
    rw [hv]
    rcases Int.lt_trichotomy a.1 b.1 with h | h | h
    · have e : cmpI a.1 b.1 = -1 := by unfold cmpI; rw [if_pos h]
      exact .inl ⟨h, by unfold cmpS; rw [e]; exact orI_ne (by decide)⟩
    · have e : cmpI a.1 b.1 = 0 := by unfold cmpI; rw [if_neg (by omega), if_neg (by omega)]
      exact .inr (.inr ⟨h, by unfold cmpS; rw [e]; exact orI_zero _⟩)
    · have e : cmpI a.1 b.1 = 1 := by unfold cmpI; rw [if_neg (by omega), if_pos h]
      exact .inr (.inl ⟨h, by unfold cmpS; rw [e]; exact orI_ne (by decide)⟩)
  rw [← hv] at KF
  have K := Lib.hid KF
  clear KF hv
  unfold vS
  obtain ⟨w0, hw0⟩ : ∃ w0, w0 = (w.alloc (.cells #[.int .i64 a.1, .int .i64 a.2.1, .int .i64 a.2.2.1, .int .i64 a.2.2.2] 28)).alloc (.cells #[.int .i64 b.1, .int .i64 b.2.1, .int .i64 b.2.2.1, .int .i64 b.2.2.2] 28) := ⟨_, rfl⟩
  have HE0 : Hid (Ext w w0) := by show Ext _ _; rw [hw0]; exact ((Ext.refl w).alloc _).alloc _
  have a0 : w0.cell? ⟨w.heap.size, 0, none⟩ = some (.int .i64 a.1) := by rw [hw0]; simp
  have a1 : w0.cell? ⟨w.heap.size, 1, none⟩ = some (.int .i64 a.2.1) := by rw [hw0]; simp
  have a2 : w0.cell? ⟨w.heap.size, 2, none⟩ = some (.int .i64 a.2.2.1) := by rw [hw0]; simp
  have a3 : w0.cell? ⟨w.heap.size, 3, none⟩ = some (.int .i64 a.2.2.2) := by rw [hw0]; simp
  have b0 : w0.cell? ⟨w.heap.size + 1, 0, none⟩ = some (.int .i64 b.1) := by rw [hw0]; simp
  have b1 : w0.cell? ⟨w.heap.size + 1, 1, none⟩ = some (.int .i64 b.2.1) := by rw [hw0]; simp
  have b2 : w0.cell? ⟨w.heap.size + 1, 2, none⟩ = some (.int .i64 b.2.2.1) := by rw [hw0]; simp
  have b3 : w0.cell? ⟨w.heap.size + 1, 3, none⟩ = some (.int .i64 b.2.2.2) := by rw [hw0]; simp
  rcases hcase with ⟨h, hc⟩ | ⟨h, hc⟩ | ⟨h, hc⟩
  · rw [hc]
    clear hc
    go_enter Tryz.func14, Tryz.ntmps14
    go_wp2_with fail
    rw [← hw0]
    clear hw0
    go_wp2_with fail
    go_ret
    exact ⟨rfl, HE0.out.below⟩
  · rw [hc]
    have h2 : ¬ a.1 < b.1 := by omega
    clear hc
    go_enter Tryz.func14, Tryz.ntmps14
    go_wp2_with fail
    rw [← hw0]
    clear hw0
    go_wp2_with fail
    go_ret
    exact ⟨rfl, HE0.out.below⟩
  · rw [hc]
    have h2 : ¬ a.1 < b.1 := by omega
    have h3 : ¬ b.1 < a.1 := by omega
    clear hc h
    go_enter Tryz.func14, Tryz.ntmps14
    go_wp2_with fail
    rw [← hw0]
    clear hw0
    go_wp2_with fail
    refine (K.out _).mono ?_; rintro e w1 ⟨rfl, hE1⟩
    have HB1 : Hid (Below w.heap.size w w1) := HE0.out.below.trans (hE1.mono HE0.out.size)
    clear hE1
    go_wp2_with fail
    go_ret
    exact ⟨rfl, HB1.out⟩

set_option maxHeartbeats 1000000 in
/-- eskerref15.Right. -/
theorem rrightS_walk (a : Smp) (w : World) :
    Calls Tryz.prog 12 #[vS a] w fun e w' => e = .returned (.bool (rightS a)) ∧ Ext w w' := by
  obtain ⟨t, m, x, s⟩ := a
  unfold vS rightS
  simp only
  obtain ⟨v, hv⟩ : ∃ v, v = rightV m x s := ⟨_, rfl⟩
  have KR : ∀ W, Calls Tryz.prog 24 #[.agg #[.int .i64 m, .int .i64 x, .int .i64 s]] W fun e w' => e = .returned (.bool v) ∧ Ext W w' := fun W => by rw [hv]; exact rright_walk m x s W
  rw [← hv]
  have K := Lib.hid KR
  clear KR hv
  obtain ⟨w0, hw0⟩ : ∃ w0, w0 = w.alloc (.cells #[.int .i64 t, .int .i64 m, .int .i64 x, .int .i64 s] 28) := ⟨_, rfl⟩
  have HE0 : Hid (Ext w w0) := by show Ext _ _; rw [hw0]; exact (Ext.refl w).alloc _
  have c0 : w0.cell? ⟨w.heap.size, 0, none⟩ = some (.int .i64 t) := by rw [hw0]; simp
  have C0 := Lib.hid c0
  have c1 : w0.cell? ⟨w.heap.size, 1, none⟩ = some (.int .i64 m) := by rw [hw0]; simp
  have c2 : w0.cell? ⟨w.heap.size, 2, none⟩ = some (.int .i64 x) := by rw [hw0]; simp
  have c3 : w0.cell? ⟨w.heap.size, 3, none⟩ = some (.int .i64 s) := by rw [hw0]; simp
  rcases (by omega : (0 ≤ t ∧ t ≤ 1099511627776) ∨ t < 0 ∨ (0 ≤ t ∧ 1099511627776 < t)) with ⟨h1, h2⟩ | h | ⟨h1, h2⟩
  all_goals
    cases v
    all_goals
      first
        | (have g1 : decide (0 ≤ t) = true := by simp; omega)
        | (have g1 : decide (0 ≤ t) = false := by simp; omega)
      first
        | (have g2 : decide (t ≤ 1099511627776) = true := by simp; omega)
        | (have g2 : decide (t ≤ 1099511627776) = false := by simp; omega)
      have hd : Hid (decide (0 ≤ t ∧ t ≤ 1099511627776) = (decide (0 ≤ t) && decide (t ≤ 1099511627776))) := by show _ = _; simp
      rw [hd.out, g1, g2]
      go_enter Tryz.func12, Tryz.ntmps12
      go_wp2_with fail
      rw [← hw0]
      clear hw0
      refine (K.out _).mono ?_; rintro e w1 ⟨rfl, hE1⟩
      have d0 := hE1.cell_some C0.out
      have HE := Lib.hid (HE0.out.trans hE1)
      clear hE1 c0 c1 c2 c3 hd
      go_wp2_with fail
      go_ret
      exact ⟨rfl, HE.out⟩
end Go.Proofs.YtbggdkpcgcmepaaGreatDoor
