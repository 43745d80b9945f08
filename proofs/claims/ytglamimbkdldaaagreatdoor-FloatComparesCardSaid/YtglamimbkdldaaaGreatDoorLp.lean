import Derived.Test.YtglamimbkdldaaaGreatDoorFa
import Derived.Test.YtglamimbkdldaaaGreatDoorCp
import Derived.Deep.RegionHeld3
namespace Go.Proofs.YtglamimbkdldaaaGreatDoor
open Go.RowKit Go.Sort
theorem cmpI_neg (a b : Int) : cmpI b a = -cmpI a b := by unfold cmpI; split <;> split <;> omega
theorem cmpI_bd (a b : Int) : -1 ≤ cmpI a b ∧ cmpI a b ≤ 1 := by unfold cmpI; split <;> (try split) <;> omega
set_option maxRecDepth 100000 in
set_option maxHeartbeats 2000000 in
/-- FloatCompares answers true. -/
theorem lcomp_walk (m x s m2 x2 s2 : Int) (w : World) (T : Tabs w) (k : Int) (hk : w.cell? ⟨5, 0, none⟩ = some (.int .i64 k)) :
    Calls Tryz.prog 8 #[.agg #[.int .i64 m, .int .i64 x, .int .i64 s], .agg #[.int .i64 m2, .int .i64 x2, .int .i64 s2]] w fun e w' => e = .returned (.bool true) ∧ Below w.heap.size w w' := by
  have KW := Lib.hid (awake_walk · · k ·)
  have HT := Lib.hid T
  have HK := Lib.hid hk
  obtain ⟨C, hC⟩ : ∃ C : Int → Int → Int → Int → Int → Int → Int, C = fun m x s m2 x2 s2 => cmpI (bitsV m x s) (bitsV m2 x2 s2) := ⟨_, rfl⟩
  obtain ⟨c, hc⟩ : ∃ c, c = C m x s m2 x2 s2 := ⟨_, rfl⟩
  have hcb : -1 ≤ c ∧ c ≤ 1 := by rw [hc, hC]; exact cmpI_bd _ _
  have hc2 : C m2 x2 s2 m x s = -c := by rw [hc, hC]; exact cmpI_neg _ _
  have HC1 : Hid (C m x s m2 x2 s2 = c) := hc.symm
  have HC2 := Lib.hid hc2
  have KB : Hid (∀ m x s m2 x2 s2 w, Tabs w → Calls Tryz.prog 17 #[.agg #[.int .i64 m, .int .i64 x, .int .i64 s], .agg #[.int .i64 m2, .int .i64 x2, .int .i64 s2]] w fun e w' => e = .returned (.int .i64 (C m x s m2 x2 s2)) ∧ Below w.heap.size w w') := by
    rw [hC]; exact fun m x s m2 x2 s2 w T => (fcmpV_walk m x s m2 x2 s2 w T).mono fun _ _ h => ⟨h.1, h.2.below⟩
  have KR : Hid (∀ m x s m2 x2 s2 w, Calls Tryz.prog 18 #[.agg #[.int .i64 m, .int .i64 x, .int .i64 s], .agg #[.int .i64 m2, .int .i64 x2, .int .i64 s2]] w fun e w' => e = .returned (.int .i64 (C m x s m2 x2 s2)) ∧ Below w.heap.size w w') := by
    rw [hC]; exact fun m x s m2 x2 s2 w => rcmpV_walk m x s m2 x2 s2 w
  obtain ⟨b1, b2⟩ := hcb
  clear T hk hc hC hc2
  obtain ⟨w0, hw0⟩ : ∃ w0, w0 = (w.alloc (.cells #[.int .i64 m, .int .i64 x, .int .i64 s] 23)).alloc (.cells #[.int .i64 m2, .int .i64 x2, .int .i64 s2] 23) := ⟨_, rfl⟩
  have HE0 : Hid (Ext w w0) := by show Ext _ _; rw [hw0]; exact ((Ext.refl w).alloc _).alloc _
  have hs : w0.heap.size = w.heap.size + 2 := by rw [hw0]; simp
  have D : Hid (w0.cell? ⟨w.heap.size, 0, none⟩ = some (.int .i64 m) ∧ w0.cell? ⟨w.heap.size, 1, none⟩ = some (.int .i64 x) ∧ w0.cell? ⟨w.heap.size, 2, none⟩ = some (.int .i64 s) ∧ w0.cell? ⟨w.heap.size + 1, 0, none⟩ = some (.int .i64 m2) ∧ w0.cell? ⟨w.heap.size + 1, 1, none⟩ = some (.int .i64 x2) ∧ w0.cell? ⟨w.heap.size + 1, 2, none⟩ = some (.int .i64 s2)) := by
    show _ ∧ _; rw [hw0]; refine ⟨?_, ?_, ?_, ?_, ?_, ?_⟩ <;> simp
  have KC : Hid (∀ W, Below w0.heap.size w0 W → Tabs W ∧ W.cell? ⟨w.heap.size, 0, none⟩ = some (.int .i64 m) ∧ W.cell? ⟨w.heap.size, 1, none⟩ = some (.int .i64 x) ∧ W.cell? ⟨w.heap.size, 2, none⟩ = some (.int .i64 s) ∧ W.cell? ⟨w.heap.size + 1, 0, none⟩ = some (.int .i64 m2) ∧ W.cell? ⟨w.heap.size + 1, 1, none⟩ = some (.int .i64 x2) ∧ W.cell? ⟨w.heap.size + 1, 2, none⟩ = some (.int .i64 s2)) := fun W h => by
    obtain ⟨d0, d1, d2, d3, d4, d5⟩ := D.out
    have l0 : w.heap.size < w0.heap.size := by omega
    have l1 : w.heap.size + 1 < w0.heap.size := by omega
    exact ⟨(HT.out.ext HE0.out).below h, (h.cell l0).trans d0, (h.cell l0).trans d1, (h.cell l0).trans d2, (h.cell l1).trans d3, (h.cell l1).trans d4, (h.cell l1).trans d5⟩
  have HS := Lib.hid hs
  have KN : Hid (∀ {W W' : World}, Below w0.heap.size w0 W → Below W.heap.size W W' → Below w0.heap.size w0 W') := fun h h' => h.trans (h'.mono h.size)
  clear D hs
  go_enter Tryz.func8, Tryz.ntmps8
  go_wp2_with fail
  rw [← hw0]
  refine (KW.out _ (HT.out.ext HE0.out) (HE0.out.cell_some HK.out)).mono ?_
  rintro e w1 ⟨rfl, hA⟩
  obtain ⟨_, a0, a1, a2, d0, d1, d2⟩ := KC.out _ hA
  clear hw0
  go_wp2_with fail
  go_region_held3 (fun w' => w'.cell? ⟨w.heap.size, 0, none⟩ = some (.int .i64 m) ∧ w'.cell? ⟨w.heap.size, 1, none⟩ = some (.int .i64 x) ∧ w'.cell? ⟨w.heap.size, 2, none⟩ = some (.int .i64 s) ∧ w'.cell? ⟨w.heap.size + 1, 0, none⟩ = some (.int .i64 m2) ∧ w'.cell? ⟨w.heap.size + 1, 1, none⟩ = some (.int .i64 x2) ∧ w'.cell? ⟨w.heap.size + 1, 2, none⟩ = some (.int .i64 s2) ∧ Below w0.heap.size w0 w')
    (first | assumption | (have hd := Below.drew (by assumption : Below w0.heap.size w0 _); exact ⟨(KC.out _ hd).2.1, (KC.out _ hd).2.2.1, (KC.out _ hd).2.2.2.1, (KC.out _ hd).2.2.2.2.1, (KC.out _ hd).2.2.2.2.2.1, (KC.out _ hd).2.2.2.2.2.2, hd⟩) | exact ⟨by assumption, by assumption, by assumption, by assumption, by assumption, by assumption, by assumption⟩)
    (first
      | (go_at_call 17; refine (KB.out _ _ _ _ _ _ _ (KC.out _ ?_).1).mono ?_; (first | assumption | exact Below.drew (by assumption)); rintro e w' ⟨rfl, hN⟩; (try rw [HC1.out]); (try rw [HC2.out]); have hN := KN.out (by first | assumption | exact Below.drew (by assumption)) hN; obtain ⟨_, a0', a1', a2', d0', d1', d2'⟩ := KC.out _ hN)
      | (go_at_call 18; refine (KR.out _ _ _ _ _ _ _).mono ?_; rintro e w' ⟨rfl, hN⟩; (try rw [HC1.out]); (try rw [HC2.out]); have hN := KN.out (by first | assumption | exact Below.drew (by assumption)) hN; obtain ⟨_, a0', a1', a2', d0', d1', d2'⟩ := KC.out _ hN))
  go_wp2_with fail
  go_ret
  exact ⟨ret_bool (by have hw : IntKind.i64.wrap (-c) = -c := IntWalk.i64_in _ (by omega)
                      simp [hw]), HE0.out.below.trans ((by assumption : Below w0.heap.size w0 _).mono HE0.out.size)⟩
end Go.Proofs.YtglamimbkdldaaaGreatDoor
