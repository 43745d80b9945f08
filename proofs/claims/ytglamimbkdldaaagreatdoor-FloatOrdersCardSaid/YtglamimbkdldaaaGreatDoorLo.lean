import Derived.Test.YtglamimbkdldaaaGreatDoorFa
import Derived.Test.YtglamimbkdldaaaGreatDoorPo
import Derived.Test.YtglamimbkdldaaaGreatDoorLc
import Derived.Deep.RegionHeld3
namespace Go.Proofs.YtglamimbkdldaaaGreatDoor
open Go.RowKit Go.Sort
def cleanT (a b : Int) (q : Bool) : Value := .tuple #[.agg #[.int .i64 a, .int .i64 b, .int .i64 0], .bool q]

set_option maxRecDepth 100000 in
set_option maxHeartbeats 2000000 in
/-- FloatOrders, where nothing is asked. -/
theorem lord_early (m n e a ea b eb c ec : Int) (q1 q2 q3 : Bool) (w : World) (T : Tabs w) (k : Int) (hk : w.cell? ⟨5, 0, none⟩ = some (.int .i64 k))
    (KA : Hid (∀ w, Calls Tryz.prog 15 #[.int .i64 m, .int .i64 e] w fun r w' => r = .returned (.tuple #[.agg #[.int .i64 a, .int .i64 ea, .int .i64 0], .bool q1]) ∧ Ext w w'))
    (KB : Hid (∀ w, Calls Tryz.prog 15 #[.int .i64 n, .int .i64 e] w fun r w' => r = .returned (.tuple #[.agg #[.int .i64 b, .int .i64 eb, .int .i64 0], .bool q2]) ∧ Ext w w'))
    (KC : Hid (∀ w, Calls Tryz.prog 15 #[.int .i64 m, .int .i64 (IntKind.i64.wrap (e + 1))] w fun r w' => r = .returned (.tuple #[.agg #[.int .i64 c, .int .i64 ec, .int .i64 0], .bool q3]) ∧ Ext w w'))
    (hs : q1 = false ∨ (q1 = true ∧ q2 = false) ∨ (q1 = true ∧ q2 = true ∧ decide (m ≤ 0) = true) ∨ (q1 = true ∧ q2 = true ∧ decide (m ≤ 0) = false ∧ decide (n ≤ m) = true)) :
    Calls Tryz.prog 6 #[.int .i64 m, .int .i64 n, .int .i64 e] w fun r w' => r = .returned (.bool true) ∧ Below w.heap.size w w' := by
  have KW := Lib.hid (awake_walk w T k hk)
  obtain ⟨e1, he1⟩ : ∃ e1, e1 = IntKind.i64.wrap (e + 1) := ⟨_, rfl⟩
  rw [← he1] at KC
  have he1' := he1.symm
  clear T hk he1
  rcases hs with rfl | ⟨rfl, rfl⟩ | ⟨rfl, rfl, h1⟩ | ⟨rfl, rfl, h1, h2⟩
  all_goals
    go_enter Tryz.func6, Tryz.ntmps6
    go_wp2_with fail
    refine KW.out.mono ?_
    rintro r w1 ⟨rfl, hB1⟩
    have HB1 := Lib.hid hB1
    clear hB1 KW
    go_wp2_with fail
    refine (KA.out _).mono ?_
    rintro r w2 ⟨rfl, hE2⟩
    have HE2 := Lib.hid hE2
    clear hE2 KA
    go_wp2_with fail
    refine (KB.out _).mono ?_
    rintro r w3 ⟨rfl, hE3⟩
    have HE3 := Lib.hid hE3
    clear hE3 KB
    go_wp2_with fail
    refine (KC.out _).mono ?_
    rintro r w4 ⟨rfl, hE4⟩
    have HE4 := Lib.hid hE4
    clear hE4 KC
    go_wp2_with fail
    go_ret
    exact ⟨rfl, HB1.out.trans (((((HE2.out.alloc _).trans HE3.out).alloc _).trans HE4.out).alloc _ |>.below.mono HB1.out.size)⟩

theorem newV3 (w : World) (a b : Int) : (w.alloc (.cells #[.int .i64 a, .int .i64 b, .int .i64 0] 23)).cell? ⟨w.heap.size, 0, none⟩ = some (.int .i64 a) ∧ (w.alloc (.cells #[.int .i64 a, .int .i64 b, .int .i64 0] 23)).cell? ⟨w.heap.size, 1, none⟩ = some (.int .i64 b) ∧ (w.alloc (.cells #[.int .i64 a, .int .i64 b, .int .i64 0] 23)).cell? ⟨w.heap.size, 2, none⟩ = some (.int .i64 0) := by
  refine ⟨?_, ?_, ?_⟩ <;> simp
set_option maxRecDepth 100000 in
set_option maxHeartbeats 4000000 in
/-- FloatOrders, where both numbers are. -/
theorem lord_main (m n e a ea b eb c ec : Int) (X Y Z V : Nat) (q3 : Bool) (w : World) (T : Tabs w) (k : Int) (hk : w.cell? ⟨5, 0, none⟩ = some (.int .i64 k))
    (KA : Hid (∀ w, Calls Tryz.prog 15 #[.int .i64 m, .int .i64 e] w fun r w' => r = .returned (.tuple #[.agg #[.int .i64 a, .int .i64 ea, .int .i64 0], .bool true]) ∧ Ext w w'))
    (KB : Hid (∀ w, Calls Tryz.prog 15 #[.int .i64 n, .int .i64 e] w fun r w' => r = .returned (.tuple #[.agg #[.int .i64 b, .int .i64 eb, .int .i64 0], .bool true]) ∧ Ext w w'))
    (KC : Hid (∀ w, Calls Tryz.prog 15 #[.int .i64 m, .int .i64 (IntKind.i64.wrap (e + 1))] w fun r w' => r = .returned (.tuple #[.agg #[.int .i64 c, .int .i64 ec, .int .i64 0], .bool q3]) ∧ Ext w w'))
    (K1 : Hid (∀ w, Tabs w → Calls Tryz.prog 10 #[.agg #[.int .i64 a, .int .i64 ea, .int .i64 0]] w fun r w' => r = .returned (.tuple #[.int .u64 X, .int .i64 0]) ∧ Ext w w'))
    (K2 : Hid (∀ w, Tabs w → Calls Tryz.prog 10 #[.agg #[.int .i64 b, .int .i64 eb, .int .i64 0]] w fun r w' => r = .returned (.tuple #[.int .u64 Y, .int .i64 0]) ∧ Ext w w'))
    (K3 : Hid (∀ w, Tabs w → Calls Tryz.prog 10 #[.agg #[.int .i64 (-a), .int .i64 ea, .int .i64 0]] w fun r w' => r = .returned (.tuple #[.int .u64 Z, .int .i64 0]) ∧ Ext w w'))
    (K4 : q3 = true → Hid (∀ w, Tabs w → Calls Tryz.prog 10 #[.agg #[.int .i64 c, .int .i64 ec, .int .i64 0]] w fun r w' => r = .returned (.tuple #[.int .u64 V, .int .i64 0]) ∧ Ext w w'))
    (h1 : decide (m ≤ 0) = false) (h2 : decide (n ≤ m) = false) (hna : IntKind.i64.wrap (-a) = -a) (hXY : decide (Y ≤ X) = false) (hZ : IntKind.u64.wrap ((X : Int) + 9223372036854775808) = (Z : Int)) (hV : q3 = true → decide (X < V) = true) :
    Calls Tryz.prog 6 #[.int .i64 m, .int .i64 n, .int .i64 e] w fun r w' => r = .returned (.bool true) ∧ Below w.heap.size w w' := by
  have KW := Lib.hid (awake_walk w T k hk)
  have HT := Lib.hid T
  obtain ⟨e1, he1⟩ : ∃ e1, e1 = IntKind.i64.wrap (e + 1) := ⟨_, rfl⟩
  rw [← he1] at KC
  have he1' := he1.symm
  have HV := Lib.hid hV
  have H4 := Lib.hid K4
  clear T hk he1 hV K4
  go_enter Tryz.func6, Tryz.ntmps6
  go_wp2_with fail
  refine KW.out.mono ?_
  rintro r w1 ⟨rfl, hB1⟩
  have HB1 := Lib.hid hB1
  clear hB1 KW
  go_wp2_with fail
  refine (KA.out _).mono ?_
  rintro r w2 ⟨rfl, hE2⟩
  have HE2 := Lib.hid hE2
  clear hE2 KA
  go_wp2_with fail
  refine (KB.out _).mono ?_
  rintro r w3 ⟨rfl, hE3⟩
  have HE3 := Lib.hid hE3
  clear hE3 KB
  go_wp2_with fail
  refine (KC.out _).mono ?_
  rintro r w4 ⟨rfl, hE4⟩
  have HE4 := Lib.hid hE4
  clear hE4 KC
  have HX : Hid (Ext w3 (w4.alloc (.cells #[.int .i64 c, .int .i64 ec, .int .i64 0] 23))) := (((Ext.refl w3).alloc _).trans HE4.out).alloc _
  have KK : Hid (∀ W, Ext (w4.alloc (.cells #[.int .i64 c, .int .i64 ec, .int .i64 0] 23)) W → Tabs W ∧ W.cell? ⟨w2.heap.size, 0, none⟩ = some (.int .i64 a) ∧ W.cell? ⟨w2.heap.size, 1, none⟩ = some (.int .i64 ea) ∧ W.cell? ⟨w2.heap.size, 2, none⟩ = some (.int .i64 0) ∧ W.cell? ⟨w3.heap.size, 0, none⟩ = some (.int .i64 b) ∧ W.cell? ⟨w3.heap.size, 1, none⟩ = some (.int .i64 eb) ∧ W.cell? ⟨w3.heap.size, 2, none⟩ = some (.int .i64 0) ∧ W.cell? ⟨w4.heap.size, 0, none⟩ = some (.int .i64 c) ∧ W.cell? ⟨w4.heap.size, 1, none⟩ = some (.int .i64 ec) ∧ W.cell? ⟨w4.heap.size, 2, none⟩ = some (.int .i64 0)) := by
    intro W hW
    have g2 := newV3 w2 a ea
    have g3 := newV3 w3 b eb
    have g4 := newV3 w4 c ec
    have x3 : Ext (w3.alloc (.cells #[.int .i64 b, .int .i64 eb, .int .i64 0] 23)) W := (HE4.out.alloc _).trans hW
    have x2 : Ext (w2.alloc (.cells #[.int .i64 a, .int .i64 ea, .int .i64 0] 23)) W := (HE3.out.alloc _).trans x3
    exact ⟨((HT.out.below HB1.out).ext ((HE2.out.alloc _).trans x2)), x2.cell_some g2.1, x2.cell_some g2.2.1, x2.cell_some g2.2.2, x3.cell_some g3.1, x3.cell_some g3.2.1, x3.cell_some g3.2.2, hW.cell_some g4.1, hW.cell_some g4.2.1, hW.cell_some g4.2.2⟩
  have HBB : Hid (∀ W, Ext (w4.alloc (.cells #[.int .i64 c, .int .i64 ec, .int .i64 0] 23)) W → Below w.heap.size w W) := fun W hW =>
    HB1.out.trans (((((((HE2.out.alloc _).trans HE3.out).alloc _).trans HE4.out).alloc _).trans hW).below.mono HB1.out.size)
  obtain ⟨_, a0, a1, a2, b0, b1, b2, c0, c1, c2⟩ := KK.out _ (Ext.refl _)
  have hn2 : w2.heap.size ≠ w4.heap.size := by
    have h2 := HE3.out.size
    have h3 := HE4.out.size
    simp at h2 h3; omega
  have hn3 : w3.heap.size ≠ w4.heap.size := by
    have h3 := HE4.out.size
    simp at h3; omega
  clear c0 c1 c2
  clear HB1 HE2 HE3 HE4 HT
  cases q3
  all_goals
    go_wp2_with fail
    refine (K1.out _ (KK.out _ (Ext.refl _)).1).mono ?_
    rintro r w5 ⟨rfl, hE5⟩
    obtain ⟨hT5, a0', a1', a2', b0', b1', b2', c0', c1', c2'⟩ := KK.out _ hE5
    have HE5 := Lib.hid hE5
    clear hE5 a0 a1 a2 b0 b1 b2 HX
    go_wp2_with fail
    refine (K2.out _ hT5).mono ?_
    rintro r w6 ⟨rfl, hE6⟩
    have hE6 := HE5.out.trans hE6
    obtain ⟨hT6, a0, a1, a2, b0, b1, b2, c0, c1, c2⟩ := KK.out _ hE6
    have HE6 := Lib.hid hE6
    clear hE6 a0' a1' a2' b0' b1' b2' c0' c1' c2' hT5 HE5
    go_wp2_with fail
    refine (K3.out _ hT6).mono ?_
    rintro r w7 ⟨rfl, hE7⟩
    have hE7 := HE6.out.trans hE7
    obtain ⟨hT7, a0', a1', a2', b0', b1', b2', c0', c1', c2'⟩ := KK.out _ hE7
    have HE7 := Lib.hid hE7
    clear hE7 a0 a1 a2 b0 b1 b2 c0 c1 c2 hT6 HE6
  · go_wp2_with fail
    go_ret
    exact ⟨rfl, HBB.out _ HE7.out⟩
  · have hV := HV.out trivial
    have K4 := H4.out trivial
    go_wp2_with fail
    refine (K4.out _ hT7).mono ?_
    rintro r w8 ⟨rfl, hE8⟩
    have HE8 := Lib.hid (HE7.out.trans hE8)
    clear hE8
    go_wp2_with fail
    go_ret
    exact ⟨ret_bool (by simp), HBB.out _ HE8.out⟩
/-- FloatOrders answers true. -/
theorem lord_walk (m n e : Int) (w : World) (T : Tabs w) (k : Int) (hk : w.cell? ⟨5, 0, none⟩ = some (.int .i64 k))
    (h1 : -9223372036854775808 ≤ m) (h2 : m ≤ 9223372036854775807) (h3 : -9223372036854775808 ≤ n) (h4 : n ≤ 9223372036854775807) (h5 : -9223372036854775808 ≤ e) (h6 : e ≤ 9223372036854775807) :
    Calls Tryz.prog 6 #[.int .i64 m, .int .i64 n, .int .i64 e] w fun r w' => r = .returned (.bool true) ∧ Below w.heap.size w w' := by
  have cc : ∀ m e : Int, ∃ (a b : Int) (q : Bool), cleanR m e = .tuple #[.agg #[.int .i64 a, .int .i64 b, .int .i64 0], .bool q] ∧ (q = true → cleanV m e = some (a, b)) := by
    intro m e
    unfold cleanR
    cases h : cleanV m e with
    | none => exact ⟨0, 0, false, rfl, fun h => by cases h⟩
    | some y => exact ⟨y.1, y.2, true, rfl, fun _ => rfl⟩
  obtain ⟨a, ea, q1, hA, gA⟩ := cc m e
  obtain ⟨b, eb, q2, hB, gB⟩ := cc n e
  obtain ⟨c, ec, q3, hC, gC⟩ := cc m (IntKind.i64.wrap (e + 1))
  have KA := fun w => clean_walk m e w h1 h2
  have KB := fun w => clean_walk n e w h3 h4
  have KC := fun w => clean_walk m (IntKind.i64.wrap (e + 1)) w h1 h2
  rw [hA] at KA
  rw [hB] at KB
  rw [hC] at KC
  by_cases hq : q1 = true ∧ q2 = true ∧ 0 < m ∧ m < n
  · obtain ⟨rfl, rfl, hm, hn⟩ := hq
    obtain ⟨p1, p2, r1, r2, r3, x1, x2, x3, x4, x5⟩ := orders_lt hm hn h4 (gA rfl) (gB rfl)
    have hw : IntKind.i64.wrap (e + 1) = e + 1 := IntWalk.i64_in _ (by omega)
    have ht : q3 = true → errV c ec 0 = 0 ∧ bitsV a ea 0 < bitsV c ec 0 := fun h => by
      have := gC h
      rw [hw] at this
      exact orders_ten hm h2 (gA rfl) this
    refine lord_main m n e a ea b eb c ec (bitsV a ea 0) (bitsV b eb 0) (bitsV (-a) ea 0) (bitsV c ec 0) q3 w T k hk KA KB KC ?_ ?_ ?_ ?_ (decide_eq_false (by omega)) (decide_eq_false (by omega)) (IntWalk.i64_in _ (by omega)) (decide_eq_false (by omega)) ?_ (fun h => decide_eq_true (by have := (ht h).2; omega))
    · exact fun w T => by have := bits_walk a ea 0 w T; rwa [r1] at this
    · exact fun w T => by have := bits_walk b eb 0 w T; rwa [r2] at this
    · exact fun w T => by have := bits_walk (-a) ea 0 w T; rwa [r3] at this
    · exact fun h w T => by have := bits_walk c ec 0 w T; rwa [(ht h).1] at this
    · rw [IntKind.wrap_u64]; omega
  · refine lord_early m n e a ea b eb c ec q1 q2 q3 w T k hk KA KB KC ?_
    cases q1
    · exact .inl rfl
    · cases q2
      · exact .inr (.inl ⟨rfl, rfl⟩)
      · by_cases hm : m ≤ 0
        · exact .inr (.inr (.inl ⟨rfl, rfl, decide_eq_true hm⟩))
        · exact .inr (.inr (.inr ⟨rfl, rfl, decide_eq_false hm, decide_eq_true (by
            simp only [true_and, not_and] at hq
            have := hq (by omega); omega)⟩))
end Go.Proofs.YtglamimbkdldaaaGreatDoor
