import Derived.Test.YtbggdkpcgcmepaaGreatDoorPl
import Derived.Test.YtbggdkpcgcmepaaGreatDoorClp
namespace Go.Proofs.YtbggdkpcgcmepaaGreatDoor
open Go.RowKit Go.Sort

/-- The document's example. -/
def awL : List Smp := [(20, 1, 0, 0), (5, 1, 0, 0), (10, 1, 0, 0), (11, 1, 0, 0), (19, 1, 0, 0), (10, 2, 0, 0)]
def awS : List Smp := [(5, 1, 0, 0), (10, 1, 0, 0), (10, 2, 0, 0), (11, 1, 0, 0), (19, 1, 0, 0), (20, 1, 0, 0)]
def awD : List Smp := [(10, 2, 0, 0), (20, 1, 0, 0)]
theorem aw_bits : bitsV 1 0 0 < bitsV 2 0 0 := by decide +kernel
theorem aw_lt : ltS (10, 1, 0, 0) (10, 2, 0, 0) := by
  unfold ltS Smp.bits
  have := aw_bits
  right
  refine ⟨rfl, ?_⟩
  simp only
  omega
theorem ltS_t {a b : Smp} (h : a.1 < b.1) : ltS a b := .inl h
theorem awS_sorted : awS.Pairwise ltS := by
  unfold awS
  simp only [List.pairwise_cons, List.mem_cons, List.not_mem_nil, or_false, forall_eq_or_imp, forall_eq, List.Pairwise.nil, and_true, false_implies, implies_true]
  refine ⟨⟨?_, ?_, ?_, ?_, ?_⟩, ⟨?_, ?_, ?_, ?_⟩, ⟨?_, ?_, ?_⟩, ⟨?_, ?_⟩, ?_⟩ <;> first | exact ltS_t (by decide) | exact aw_lt
theorem aw_sort : sortS awL = awS := by
  refine sortS_is _ _ awS_sorted fun x => ?_
  have hr : ∀ y ∈ awL, rightS y = true := by decide +kernel
  have hm : ∀ x, x ∈ awS ↔ x ∈ awL := by
    intro x; unfold awS awL; simp only [List.mem_cons, List.not_mem_nil, or_false]
    constructor <;> (intro h; rcases h with h | h | h | h | h | h <;> simp [h])
  rw [hm x]
  exact ⟨fun h => ⟨h, hr x h⟩, fun h => h.1⟩
theorem aw_dedup : dedupS 10 awL = awD := by
  unfold dedupS; rw [aw_sort]; decide +kernel
theorem aw_cmp : cmpS (10, 2, 0, 0) (20, 1, 0, 0) = -1 := by
  have h : cmpS (10, 2, 0, 0) (20, 1, 0, 0) = orI (cmpI 10 20) (cmpV (10, 2, 0, 0) (20, 1, 0, 0)) := rfl
  rw [h]; simp [cmpI, orI]
theorem aw_clip : (delS 0 10 awD).length = 1 := by decide +kernel
theorem aw_sort2 : sortS awD = awD := by
  refine sortS_is _ _ ?_ fun x => ?_
  · unfold awD
    simp only [List.pairwise_cons, List.mem_cons, List.not_mem_nil, or_false, forall_eq, List.Pairwise.nil, and_true, false_implies, implies_true]
    exact ltS_t (by decide)
  · have hr : ∀ y ∈ awD, rightS y = true := by decide +kernel
    exact ⟨fun h => ⟨h, hr x h⟩, fun h => h.1⟩
theorem aw_right : rightS (10, 2, 0, 0) = true := by decide +kernel
theorem aw_ivl : ivl 11 10 = 2 := by decide +kernel
end Go.Proofs.YtbggdkpcgcmepaaGreatDoor

namespace Go.Proofs.YtbggdkpcgcmepaaGreatDoor
open Go.RowKit Go.Sort

set_option maxRecDepth 100000 in
set_option maxHeartbeats 4000000 in
theorem awake_walk (W : World) (T : Tabs W) :
    Calls Tryz.prog 10 #[] W fun e w' => e = .returned (.bool true) ∧ Below W.heap.size W w' := by
  have KA : Hid (∀ (t m : Int) w, Calls Tryz.prog 25 #[.int .i64 t, .int .i64 m] w fun e w' => e = .returned (.agg #[.int .i64 t, .int .i64 m, .int .i64 0, .int .i64 0]) ∧ Ext w w') := fun t m w => at_walk t m w
  have HT := Lib.hid T
  clear T
  go_enter Tryz.func10, Tryz.ntmps10
  go_wp2_with fail
  refine (KA.out 20 1 _).mono ?_; rintro e w1 ⟨rfl, hE1⟩
  go_wp2_with fail
  refine (KA.out 5 1 _).mono ?_; rintro e w2 ⟨rfl, hE2⟩
  go_wp2_with fail
  refine (KA.out 10 1 _).mono ?_; rintro e w3 ⟨rfl, hE3⟩
  go_wp2_with fail
  refine (KA.out 11 1 _).mono ?_; rintro e w4 ⟨rfl, hE4⟩
  go_wp2_with fail
  refine (KA.out 19 1 _).mono ?_; rintro e w5 ⟨rfl, hE5⟩
  go_wp2_with fail
  refine (KA.out 10 2 _).mono ?_; rintro e w6 ⟨rfl, hE6⟩
  have HE6 : Hid (Ext W w6) := ((((hE1.trans hE2).trans hE3).trans hE4).trans hE5).trans hE6
  clear hE1 hE2 hE3 hE4 hE5 hE6
  go_wp2_with fail
  obtain ⟨wa, hwa⟩ : ∃ wa, wa = w6.alloc (.cells #[.int .i64 20, .int .i64 1, .int .i64 0, .int .i64 0, .int .i64 5, .int .i64 1, .int .i64 0, .int .i64 0, .int .i64 10, .int .i64 1, .int .i64 0, .int .i64 0, .int .i64 11, .int .i64 1, .int .i64 0, .int .i64 0, .int .i64 19, .int .i64 1, .int .i64 0, .int .i64 0, .int .i64 10, .int .i64 2, .int .i64 0, .int .i64 0] 28) := ⟨_, rfl⟩
  rw [← hwa]
  have hRd : Rd wa wa.heap.size (.slice (some ⟨w6.heap.size, 0, none⟩) 6 6) awL := by
    refine ⟨_, 6, rfl, Nat.le_refl _, .inr ⟨w6.heap.size, 0, rfl, by rw [hwa]; simp, fun i hi => ?_⟩⟩
    rw [hwa]
    match i, hi with
    | 0, _ => exact ⟨new_cell _ _ _ _, new_cell _ _ _ _, new_cell _ _ _ _, new_cell _ _ _ _⟩
    | 1, _ => exact ⟨new_cell _ _ _ _, new_cell _ _ _ _, new_cell _ _ _ _, new_cell _ _ _ _⟩
    | 2, _ => exact ⟨new_cell _ _ _ _, new_cell _ _ _ _, new_cell _ _ _ _, new_cell _ _ _ _⟩
    | 3, _ => exact ⟨new_cell _ _ _ _, new_cell _ _ _ _, new_cell _ _ _ _, new_cell _ _ _ _⟩
    | 4, _ => exact ⟨new_cell _ _ _ _, new_cell _ _ _ _, new_cell _ _ _ _, new_cell _ _ _ _⟩
    | 5, _ => exact ⟨new_cell _ _ _ _, new_cell _ _ _ _, new_cell _ _ _ _, new_cell _ _ _ _⟩
  have hEa : Ext W wa := HE6.out.trans (by rw [hwa]; exact (Ext.refl w6).alloc _)
  have HEa := Lib.hid hEa
  have KD := Lib.hid (ddup_walk _ awL 10 wa (HT.out.ext hEa) hRd (by decide))
  rw [aw_dedup] at KD
  clear hwa hRd hEa HE6
  refine KD.out.mono ?_
  rintro e w1 ⟨r, rfl, hO, hB⟩
  obtain ⟨A, c, rfl, hc, hA⟩ := hO.opened
  have hnz := hO.nz
  have hrd := hO.rd
  have hT1 : Tabs w1 := (HT.out.ext HEa.out).below hB
  have HB1 : Hid (Below W.heap.size W w1) := HEa.out.below.trans (hB.mono HEa.out.size)
  rcases hA with h0 | ⟨g, rfl, -, hg, hcl⟩
  · exact absurd h0 (by decide)
  have KRd : Hid (∀ w', Below w1.heap.size w1 w' → Rd w' w'.heap.size (.slice (some ⟨g, 0, none⟩) 2 c) awD) := fun w' h => (hrd.below h).mono h.size
  have KNz : Hid (Nz (.slice (some ⟨g, 0, none⟩) 2 c)) := hnz
  have KT : Hid (∀ w', Below w1.heap.size w1 w' → Tabs w') := fun w' h => hT1.below h
  have KX : Hid (∀ w' w'', Below w1.heap.size w1 w' → Ext w' w'' → Below w1.heap.size w1 w'') := fun w' w'' h e => h.trans (e.below.mono h.size)
  have KY : Hid (∀ w' w'', Below w1.heap.size w1 w' → Below w'.heap.size w' w'' → Below w1.heap.size w1 w'') := fun w' w'' h e => h.trans (e.mono h.size)
  have KC : Hid (∀ w', Below w1.heap.size w1 w' → (w'.cell? ⟨g, 0, none⟩ = some (.int .i64 10) ∧ w'.cell? ⟨g, 1, none⟩ = some (.int .i64 2) ∧ w'.cell? ⟨g, 2, none⟩ = some (.int .i64 0) ∧ w'.cell? ⟨g, 3, none⟩ = some (.int .i64 0) ∧ w'.cell? ⟨g, 4, none⟩ = some (.int .i64 20) ∧ w'.cell? ⟨g, 5, none⟩ = some (.int .i64 1) ∧ w'.cell? ⟨g, 6, none⟩ = some (.int .i64 0) ∧ w'.cell? ⟨g, 7, none⟩ = some (.int .i64 0))) := fun w' h => by
    have a := (hcl 0 (by decide)).below h hg
    have b := (hcl 1 (by decide)).below h hg
    exact ⟨a.1, a.2.1, a.2.2.1, a.2.2.2, b.1, b.2.1, b.2.2.1, b.2.2.2⟩
  have K13 : Hid (∀ w', Below w1.heap.size w1 w' → Calls Tryz.prog 13 #[.agg #[.int .i64 10, .int .i64 2, .int .i64 0, .int .i64 0], .agg #[.int .i64 20, .int .i64 1, .int .i64 0, .int .i64 0]] w' fun e w'' => e = .returned (.int .i64 (-1)) ∧ Below w1.heap.size w1 w'') := fun w' h => by
    have := dcmp_walk (10, 2, 0, 0) (20, 1, 0, 0) w' (KT.out w' h)
    rw [aw_cmp] at this
    exact this.mono fun e w'' ⟨h1, h2⟩ => ⟨h1, KX.out _ _ h h2⟩
  have K11 : Hid (∀ w', Below w1.heap.size w1 w' → Calls Tryz.prog 11 #[.agg #[.int .i64 10, .int .i64 2, .int .i64 0, .int .i64 0]] w' fun e w'' => e = .returned (.bool true) ∧ Below w1.heap.size w1 w'') := fun w' h => by
    have := dright_walk (10, 2, 0, 0) w'
    rw [aw_right] at this
    exact this.mono fun e w'' ⟨h1, h2⟩ => ⟨h1, KX.out _ _ h h2⟩
  have K18 : Hid (∀ w', Below w1.heap.size w1 w' → Calls Tryz.prog 18 #[.int .i64 11, .int .i64 10] w' fun e w'' => e = .returned (.int .i64 2) ∧ Below w1.heap.size w1 w'') := fun w' h => by
    have := ivl_walk 11 10 w'
    rw [aw_ivl] at this
    exact this.mono fun e w'' ⟨h1, h2⟩ => ⟨h1, h2 ▸ h⟩
  have K25 : Hid (∀ (t m : Int) w', Below w1.heap.size w1 w' → Calls Tryz.prog 25 #[.int .i64 t, .int .i64 m] w' fun e w'' => e = .returned (.agg #[.int .i64 t, .int .i64 m, .int .i64 0, .int .i64 0]) ∧ Below w1.heap.size w1 w'') := fun t m w' h =>
    (KA.out t m w').mono fun e w'' ⟨h1, h2⟩ => ⟨h1, KX.out _ _ h h2⟩
  have K22 : Hid (∀ w', Below w1.heap.size w1 w' → Calls Tryz.prog 22 #[.slice (some ⟨g, 0, none⟩) 2 c, .int .i64 0, .int .i64 10] w' fun e w'' => ∃ A2 c2, e = .returned (.slice A2 1 c2) ∧ Below w1.heap.size w1 w'') := fun w' h =>
    (clip_walk _ awD 0 10 w' (KRd.out w' h) KNz.out (by decide)).mono fun e w'' ⟨r2, h1, h2, h3⟩ => by
      obtain ⟨A2, c2, h4, _⟩ := h2.rd
      rw [aw_clip] at h4
      exact ⟨A2, c2, by rw [h1, h4], KY.out _ _ h h3⟩
  have K16 : Hid (∀ w', Below w1.heap.size w1 w' → Calls Tryz.prog 16 #[.slice (some ⟨g, 0, none⟩) 2 c] w' fun e w'' => ∃ A2 c2, e = .returned (.slice A2 2 c2) ∧ Below w1.heap.size w1 w'') := fun w' h =>
    (dsort_walk _ awD w' (KT.out w' h) (KRd.out w' h) (by decide)).mono fun e w'' ⟨r2, h1, h2, h3⟩ => by
      obtain ⟨A2, c2, h4, _⟩ := h2.rd
      rw [aw_sort2] at h4
      exact ⟨A2, c2, by rw [h1, h4]; rfl, KY.out _ _ h h3⟩
  have q1 : ∀ w, (binOp .eql 28 (.agg #[.int .i64 10, .int .i64 2, .int .i64 0, .int .i64 0]) (.agg #[.int .i64 10, .int .i64 2, .int .i64 0, .int .i64 0])).run Tryz.prog w = .ok (.bool true) w := fun w => eql_Smp (10, 2, 0, 0) (10, 2, 0, 0) w
  have q2 : ∀ w, (binOp .eql 28 (.agg #[.int .i64 20, .int .i64 1, .int .i64 0, .int .i64 0]) (.agg #[.int .i64 20, .int .i64 1, .int .i64 0, .int .i64 0])).run Tryz.prog w = .ok (.bool true) w := fun w => eql_Smp (20, 1, 0, 0) (20, 1, 0, 0) w
  have hBB : Below w1.heap.size w1 w1 := Below.refl _ _
  obtain ⟨a0, a1, a2, a3, b0, b1, b2, b3⟩ := KC.out w1 hBB
  clear hcl hrd hnz hT1 hB hO KD KA hc hg
  have hlen : awD.length = 2 := rfl
  rw [hlen]
  clear hlen
  go_wp2_with fail
  go_region_held3 (fun w' => w'.cell? ⟨g, 0, none⟩ = some (.int .i64 10) ∧ w'.cell? ⟨g, 1, none⟩ = some (.int .i64 2) ∧ w'.cell? ⟨g, 2, none⟩ = some (.int .i64 0) ∧ w'.cell? ⟨g, 3, none⟩ = some (.int .i64 0) ∧ w'.cell? ⟨g, 4, none⟩ = some (.int .i64 20) ∧ w'.cell? ⟨g, 5, none⟩ = some (.int .i64 1) ∧ w'.cell? ⟨g, 6, none⟩ = some (.int .i64 0) ∧ w'.cell? ⟨g, 7, none⟩ = some (.int .i64 0) ∧ Below w1.heap.size w1 w')
    (first | assumption | (have hd := Below.drew (by assumption : Below w1.heap.size w1 _); exact ⟨(KC.out _ hd).1, (KC.out _ hd).2.1, (KC.out _ hd).2.2.1, (KC.out _ hd).2.2.2.1, (KC.out _ hd).2.2.2.2.1, (KC.out _ hd).2.2.2.2.2.1, (KC.out _ hd).2.2.2.2.2.2.1, (KC.out _ hd).2.2.2.2.2.2.2, hd⟩) | exact ⟨by assumption, by assumption, by assumption, by assumption, by assumption, by assumption, by assumption, by assumption, by assumption⟩)
    (first
      | (go_at_call 25; refine (K25.out _ _ _ ?_).mono ?_; (first | assumption | exact Below.drew (by assumption)); rintro e w' ⟨rfl, hN⟩; obtain ⟨a0', a1', a2', a3', b0', b1', b2', b3'⟩ := KC.out _ hN)
      | (go_at_call 18; refine (K18.out _ ?_).mono ?_; (first | assumption | exact Below.drew (by assumption)); rintro e w' ⟨rfl, hN⟩; obtain ⟨a0', a1', a2', a3', b0', b1', b2', b3'⟩ := KC.out _ hN)
      | (go_at_call 11; refine (K11.out _ ?_).mono ?_; (first | assumption | exact Below.drew (by assumption)); rintro e w' ⟨rfl, hN⟩; obtain ⟨a0', a1', a2', a3', b0', b1', b2', b3'⟩ := KC.out _ hN)
      | (go_at_call 13; refine (K13.out _ ?_).mono ?_; (first | assumption | exact Below.drew (by assumption)); rintro e w' ⟨rfl, hN⟩; obtain ⟨a0', a1', a2', a3', b0', b1', b2', b3'⟩ := KC.out _ hN)
      | (go_at_call 22; refine (K22.out _ ?_).mono ?_; (first | assumption | exact Below.drew (by assumption)); rintro e w' ⟨A2, c2, rfl, hN⟩; obtain ⟨a0', a1', a2', a3', b0', b1', b2', b3'⟩ := KC.out _ hN)
      | (go_at_call 16; refine (K16.out _ ?_).mono ?_; (first | assumption | exact Below.drew (by assumption)); rintro e w' ⟨A2, c2, rfl, hN⟩; obtain ⟨a0', a1', a2', a3', b0', b1', b2', b3'⟩ := KC.out _ hN))
  go_wp2_with fail
  go_ret
  exact ⟨rfl, HB1.out.trans (Below.mono (by assumption) HB1.out.size)⟩
end Go.Proofs.YtbggdkpcgcmepaaGreatDoor
