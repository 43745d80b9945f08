import Derived.Test.YtglamimbkdldaaaGreatDoorFa
import Derived.Test.YtglamimbkdldaaaGreatDoorOx2
import Derived.Test.YtglamimbkdldaaaGreatDoorBc
import Derived.Deep.RegionHeld3
namespace Go.Proofs.YtglamimbkdldaaaGreatDoor
open Go.RowKit Go.Sort
set_option maxRecDepth 100000 in
set_option maxHeartbeats 4000000 in
/-- FloatOfs. -/
theorem lofs_walk (y m x s : Int) (w : World) (T : Tabs w) (k : Int) (hk : w.cell? ⟨5, 0, none⟩ = some (.int .i64 k)) (hy : 0 ≤ y) (hy' : y ≤ 18446744073709551615) :
    Calls Tryz.prog 4 #[.int .u64 y, .agg #[.int .i64 m, .int .i64 x, .int .i64 s]] w fun e w' => e = .returned (.bool true) ∧ Below w.heap.size w w' := by
  obtain ⟨f, rfl⟩ : ∃ f : Nat, y = f := ⟨y.toNat, by omega⟩
  have hf : f < 18446744073709551616 := by omega
  clear hy hy'
  have KW := Lib.hid (awake_walk · · k ·)
  have HT := Lib.hid T
  have HK := Lib.hid hk
  obtain ⟨a, b, t, q, hS, K1⟩ := of_walk f hf
  obtain ⟨w0, hw0⟩ : ∃ w0, w0 = w.alloc (.cells #[.int .i64 m, .int .i64 x, .int .i64 s] 23) := ⟨_, rfl⟩
  have HE0 : Hid (Ext w w0) := by show Ext _ _; rw [hw0]; exact (Ext.refl w).alloc _
  have hs : w0.heap.size = w.heap.size + 1 := by rw [hw0]; simp
  have D : Hid (w0.cell? ⟨w.heap.size, 0, none⟩ = some (.int .i64 m) ∧ w0.cell? ⟨w.heap.size, 1, none⟩ = some (.int .i64 x) ∧ w0.cell? ⟨w.heap.size, 2, none⟩ = some (.int .i64 s)) := by
    show _ ∧ _; rw [hw0]; refine ⟨?_, ?_, ?_⟩ <;> simp
  have KC : Hid (∀ W, Below w0.heap.size w0 W → Tabs W ∧ W.cell? ⟨5, 0, none⟩ = some (.int .i64 k) ∧ W.cell? ⟨w.heap.size, 0, none⟩ = some (.int .i64 m) ∧ W.cell? ⟨w.heap.size, 1, none⟩ = some (.int .i64 x) ∧ W.cell? ⟨w.heap.size, 2, none⟩ = some (.int .i64 s)) := fun W h => by
    obtain ⟨d0, d1, d2⟩ := D.out
    have l0 : w.heap.size < w0.heap.size := by omega
    have hk0 := HE0.out.cell_some HK.out
    exact ⟨(HT.out.ext HE0.out).below h, (h.cell (lt_of_cell hk0)).trans hk0, (h.cell l0).trans d0, (h.cell l0).trans d1, (h.cell l0).trans d2⟩
  have KN : Hid (∀ {W W' : World}, Below w0.heap.size w0 W → Below W.heap.size W W' → Below w0.heap.size w0 W') := fun h h' => h.trans (h'.mono h.size)
  have HP : Hid (∀ W, Below w0.heap.size w0 W → Below w.heap.size w W) := fun W h => HE0.out.below.trans (h.mono HE0.out.size)
  have HL : Hid (w.heap.size < w0.heap.size) := by show _ < _; omega
  have KO : Hid (∀ w, Tabs w → w.cell? ⟨5, 0, none⟩ = some (.int .i64 k) → Calls Tryz.prog 14 #[.int .u64 f] w fun e w' => e = .returned (.tuple #[.agg #[.int .i64 a, .int .i64 b, .int .i64 t], .bool q]) ∧ Below w.heap.size w w') := fun w T h => K1 w k T h
  clear T hk D hs K1
  -- the bits of what Of tells
  have hB : ∃ B : Nat, (q = true → B = f) ∧ Hid (∀ w, Calls Tryz.prog 11 #[.agg #[.int .i64 a, .int .i64 b, .int .i64 t]] w fun e w' => e = .returned (.tuple #[.int .u64 B, .int .i64 0]) ∧ Below w.heap.size w w') := by
    refine ⟨bitsV a b t, fun h => (hS.yes h).2, fun w => ?_⟩
    have h0 : errV a b t = 0 := by
      cases hq : q
      · obtain ⟨rfl, rfl, rfl⟩ := hS.no hq
        exact err_right (by decide +kernel)
      · exact err_right (hS.yes hq).1
    have := rbits_walk a b t w
    rwa [h0] at this
  obtain ⟨B, hBf, KR⟩ := hB
  obtain ⟨C, hC⟩ : ∃ C, C = bitsV m x s := ⟨_, rfl⟩
  have hg := fun op x' y' w => guard_V op 23 x' y' 0 0 0 0 0 0 (by kernel_rfl) w
  have hqn := fun w => neq_V 0 0 0 0 0 0 w
  rw [decide_eq_true rfl] at hqn
  have hg2 := fun op x' y' w => guard_V op 23 x' y' m x s m x s (by kernel_rfl) w
  have hq2 := fun w => eql_V m x s m x s w
  rw [decide_eq_true rfl] at hq2
  unfold vV at hg hqn hg2 hq2
  simp only [Bool.not_true] at hqn
  cases hr : rightV m x s
  · have KV : Hid (∀ w, Calls Tryz.prog 11 #[.agg #[.int .i64 m, .int .i64 x, .int .i64 s]] w fun e w' => e = .returned (.tuple #[.int .u64 C, .int .i64 20]) ∧ Below w.heap.size w w') := fun w => by
      have := rbits_walk m x s w
      rw [err_not hr, ← hC] at this; exact this
    cases q
    · obtain ⟨rfl, rfl, rfl⟩ := hS.no rfl
      clear hS hBf hC hr
      go_enter Tryz.func4, Tryz.ntmps4
      go_wp2_with fail
      rw [← hw0]
      refine (KW.out _ (HT.out.ext HE0.out) (HE0.out.cell_some HK.out)).mono ?_
      rintro e w1 ⟨rfl, hA⟩
      obtain ⟨hT, hM, a0, a1, a2⟩ := KC.out _ hA
      clear hw0
      go_wp2_with fail
      refine (KO.out _ hT hM).mono ?_
      rintro e w2 ⟨rfl, hB2⟩
      have hA2 := KN.out hA hB2
      have hA2' := KN.out hA (hB2.alloc hB2.size (.cells #[.int .i64 0, .int .i64 0, .int .i64 0] 23))
      have hl2 : w.heap.size < w2.heap.size := Nat.lt_of_lt_of_le HL.out hA2.size
      have HN2 := Lib.hid hA2'
      clear hB2 hT hM a0 a1 a2 hA hA2 hA2'
      go_wp2_with fail
      refine (KR.out _).mono ?_
      rintro e w3 ⟨rfl, hB3⟩
      have b0 : w3.cell? ⟨w2.heap.size, 0, none⟩ = some (.int .i64 0) := (hB3.cell (by simp)).trans (by simp)
      have b1 : w3.cell? ⟨w2.heap.size, 1, none⟩ = some (.int .i64 0) := (hB3.cell (by simp)).trans (by simp)
      have b2 : w3.cell? ⟨w2.heap.size, 2, none⟩ = some (.int .i64 0) := (hB3.cell (by simp)).trans (by simp)
      have hA3 := KN.out HN2.out hB3
      obtain ⟨_, _, a0, a1, a2⟩ := KC.out _ hA3
      have HA3 := Lib.hid hA3
      clear hB3 hA3 HN2 hl2
      go_wp2_with fail
      refine (KV.out _).mono ?_
      rintro e w4 ⟨rfl, hB4⟩
      have hA4 := KN.out HA3.out hB4
      obtain ⟨hT4, hM4, a0', a1', a2'⟩ := KC.out _ hA4
      have HA4 := Lib.hid hA4
      have HT4 := Lib.hid hT4
      have HM4 := Lib.hid hM4
      clear hB4 hA4 HA3 hT4 hM4 a0 a1 a2 b0 b1 b2
      go_wp2_with fail
      go_ret
      exact ⟨rfl, HP.out _ HA4.out⟩
    · obtain rfl := hBf rfl
      clear hS hBf hC hr
      go_enter Tryz.func4, Tryz.ntmps4
      go_wp2_with fail
      rw [← hw0]
      refine (KW.out _ (HT.out.ext HE0.out) (HE0.out.cell_some HK.out)).mono ?_
      rintro e w1 ⟨rfl, hA⟩
      obtain ⟨hT, hM, a0, a1, a2⟩ := KC.out _ hA
      clear hw0
      go_wp2_with fail
      refine (KO.out _ hT hM).mono ?_
      rintro e w2 ⟨rfl, hB2⟩
      have hA2 := KN.out hA hB2
      have hA2' := KN.out hA (hB2.alloc hB2.size (.cells #[.int .i64 a, .int .i64 b, .int .i64 t] 23))
      have hl2 : w.heap.size < w2.heap.size := Nat.lt_of_lt_of_le HL.out hA2.size
      have HN2 := Lib.hid hA2'
      clear hB2 hT hM a0 a1 a2 hA hA2 hA2'
      go_wp2_with fail
      refine (KR.out _).mono ?_
      rintro e w3 ⟨rfl, hB3⟩
      have b0 : w3.cell? ⟨w2.heap.size, 0, none⟩ = some (.int .i64 a) := (hB3.cell (by simp)).trans (by simp)
      have b1 : w3.cell? ⟨w2.heap.size, 1, none⟩ = some (.int .i64 b) := (hB3.cell (by simp)).trans (by simp)
      have b2 : w3.cell? ⟨w2.heap.size, 2, none⟩ = some (.int .i64 t) := (hB3.cell (by simp)).trans (by simp)
      have hA3 := KN.out HN2.out hB3
      obtain ⟨_, _, a0, a1, a2⟩ := KC.out _ hA3
      have HA3 := Lib.hid hA3
      clear hB3 hA3 HN2 hl2
      go_wp2_with fail
      refine (KV.out _).mono ?_
      rintro e w4 ⟨rfl, hB4⟩
      have hA4 := KN.out HA3.out hB4
      obtain ⟨hT4, hM4, a0', a1', a2'⟩ := KC.out _ hA4
      have HA4 := Lib.hid hA4
      have HT4 := Lib.hid hT4
      have HM4 := Lib.hid hM4
      clear hB4 hA4 HA3 hT4 hM4 a0 a1 a2 b0 b1 b2
      go_wp2_with fail
      go_ret
      exact ⟨rfl, HP.out _ HA4.out⟩
  · have KV : Hid (∀ w, Calls Tryz.prog 11 #[.agg #[.int .i64 m, .int .i64 x, .int .i64 s]] w fun e w' => e = .returned (.tuple #[.int .u64 C, .int .i64 0]) ∧ Below w.heap.size w w') := fun w => by
      have := rbits_walk m x s w
      rw [err_right hr, ← hC] at this; exact this
    have hCb : C < 18446744073709551616 := by
      rw [hC]
      rcases bitsV_cases hr with ⟨a1, a2, a3, a4⟩ | ⟨a1, a2, a3, a4, a5, a6, a7, a8, a9, a10⟩ | ⟨a1, a2, a3⟩
      · omega
      · rw [a8]
        by_cases hm : m < 0
        · rw [if_pos hm]; omega
        · rw [if_neg hm]; omega
      · omega
    have KO2 : Hid (∀ w, Tabs w → w.cell? ⟨5, 0, none⟩ = some (.int .i64 k) → Calls Tryz.prog 14 #[.int .u64 C] w fun e w' => e = .returned (.tuple #[.agg #[.int .i64 m, .int .i64 x, .int .i64 s], .bool true]) ∧ Below w.heap.size w w') := by
      obtain ⟨a', b', t', q', hS', K2⟩ := of_walk C hCb
      obtain ⟨e1, e2, e3, e4⟩ := hS'.all m x s hr hC.symm
      rw [e1, ← e2, ← e3, ← e4] at K2
      exact fun w T h => K2 w k T h
    cases q
    · obtain ⟨rfl, rfl, rfl⟩ := hS.no rfl
      have hCf : ¬ C = f := fun h => (by have := (hS.all m x s hr (hC.symm.trans h)).1; cases this)
      clear hS hBf hC hr hCb
      go_enter Tryz.func4, Tryz.ntmps4
      go_wp2_with fail
      rw [← hw0]
      refine (KW.out _ (HT.out.ext HE0.out) (HE0.out.cell_some HK.out)).mono ?_
      rintro e w1 ⟨rfl, hA⟩
      obtain ⟨hT, hM, a0, a1, a2⟩ := KC.out _ hA
      clear hw0
      go_wp2_with fail
      refine (KO.out _ hT hM).mono ?_
      rintro e w2 ⟨rfl, hB2⟩
      have hA2 := KN.out hA hB2
      have hA2' := KN.out hA (hB2.alloc hB2.size (.cells #[.int .i64 0, .int .i64 0, .int .i64 0] 23))
      have hl2 : w.heap.size < w2.heap.size := Nat.lt_of_lt_of_le HL.out hA2.size
      have HN2 := Lib.hid hA2'
      clear hB2 hT hM a0 a1 a2 hA hA2 hA2'
      go_wp2_with fail
      refine (KR.out _).mono ?_
      rintro e w3 ⟨rfl, hB3⟩
      have b0 : w3.cell? ⟨w2.heap.size, 0, none⟩ = some (.int .i64 0) := (hB3.cell (by simp)).trans (by simp)
      have b1 : w3.cell? ⟨w2.heap.size, 1, none⟩ = some (.int .i64 0) := (hB3.cell (by simp)).trans (by simp)
      have b2 : w3.cell? ⟨w2.heap.size, 2, none⟩ = some (.int .i64 0) := (hB3.cell (by simp)).trans (by simp)
      have hA3 := KN.out HN2.out hB3
      obtain ⟨_, _, a0, a1, a2⟩ := KC.out _ hA3
      have HA3 := Lib.hid hA3
      clear hB3 hA3 HN2 hl2
      go_wp2_with fail
      refine (KV.out _).mono ?_
      rintro e w4 ⟨rfl, hB4⟩
      have hA4 := KN.out HA3.out hB4
      obtain ⟨hT4, hM4, a0', a1', a2'⟩ := KC.out _ hA4
      have HA4 := Lib.hid hA4
      have HT4 := Lib.hid hT4
      have HM4 := Lib.hid hM4
      clear hB4 hA4 HA3 hT4 hM4 a0 a1 a2 b0 b1 b2
      go_wp2_with fail
      refine (KO2.out _ HT4.out HM4.out).mono ?_
      rintro e w5 ⟨rfl, hB5⟩
      have hA5 := KN.out HA4.out hB5
      have hA5' := KN.out HA4.out (hB5.alloc hB5.size (.cells #[.int .i64 m, .int .i64 x, .int .i64 s] 23))
      have hl5 : w.heap.size < w5.heap.size := Nat.lt_of_lt_of_le HL.out hA5.size
      have hne : w.heap.size ≠ w5.heap.size := Nat.ne_of_lt hl5
      obtain ⟨_, _, a0, a1, a2⟩ := KC.out _ hA5'
      have HA5 := Lib.hid hA5'
      clear hB5 hA5 hA5' HA4 a0' a1' a2'
      go_wp2_with fail
      go_ret
      exact ⟨ret_bool (by first | (simp; done) | (simp; omega)), HP.out _ HA5.out⟩
    · obtain rfl := hBf rfl
      clear hS hBf hC hr hCb
      go_enter Tryz.func4, Tryz.ntmps4
      go_wp2_with fail
      rw [← hw0]
      refine (KW.out _ (HT.out.ext HE0.out) (HE0.out.cell_some HK.out)).mono ?_
      rintro e w1 ⟨rfl, hA⟩
      obtain ⟨hT, hM, a0, a1, a2⟩ := KC.out _ hA
      clear hw0
      go_wp2_with fail
      refine (KO.out _ hT hM).mono ?_
      rintro e w2 ⟨rfl, hB2⟩
      have hA2 := KN.out hA hB2
      have hA2' := KN.out hA (hB2.alloc hB2.size (.cells #[.int .i64 a, .int .i64 b, .int .i64 t] 23))
      have hl2 : w.heap.size < w2.heap.size := Nat.lt_of_lt_of_le HL.out hA2.size
      have HN2 := Lib.hid hA2'
      clear hB2 hT hM a0 a1 a2 hA hA2 hA2'
      go_wp2_with fail
      refine (KR.out _).mono ?_
      rintro e w3 ⟨rfl, hB3⟩
      have b0 : w3.cell? ⟨w2.heap.size, 0, none⟩ = some (.int .i64 a) := (hB3.cell (by simp)).trans (by simp)
      have b1 : w3.cell? ⟨w2.heap.size, 1, none⟩ = some (.int .i64 b) := (hB3.cell (by simp)).trans (by simp)
      have b2 : w3.cell? ⟨w2.heap.size, 2, none⟩ = some (.int .i64 t) := (hB3.cell (by simp)).trans (by simp)
      have hA3 := KN.out HN2.out hB3
      obtain ⟨_, _, a0, a1, a2⟩ := KC.out _ hA3
      have HA3 := Lib.hid hA3
      clear hB3 hA3 HN2 hl2
      go_wp2_with fail
      refine (KV.out _).mono ?_
      rintro e w4 ⟨rfl, hB4⟩
      have hA4 := KN.out HA3.out hB4
      obtain ⟨hT4, hM4, a0', a1', a2'⟩ := KC.out _ hA4
      have HA4 := Lib.hid hA4
      have HT4 := Lib.hid hT4
      have HM4 := Lib.hid hM4
      clear hB4 hA4 HA3 hT4 hM4 a0 a1 a2 b0 b1 b2
      go_wp2_with fail
      refine (KO2.out _ HT4.out HM4.out).mono ?_
      rintro e w5 ⟨rfl, hB5⟩
      have hA5 := KN.out HA4.out hB5
      have hA5' := KN.out HA4.out (hB5.alloc hB5.size (.cells #[.int .i64 m, .int .i64 x, .int .i64 s] 23))
      have hl5 : w.heap.size < w5.heap.size := Nat.lt_of_lt_of_le HL.out hA5.size
      have hne : w.heap.size ≠ w5.heap.size := Nat.ne_of_lt hl5
      obtain ⟨_, _, a0, a1, a2⟩ := KC.out _ hA5'
      have HA5 := Lib.hid hA5'
      clear hB5 hA5 hA5' HA4 a0' a1' a2'
      go_wp2_with fail
      go_ret
      exact ⟨ret_bool (by first | (simp; done) | (simp; omega)), HP.out _ HA5.out⟩
end Go.Proofs.YtglamimbkdldaaaGreatDoor
