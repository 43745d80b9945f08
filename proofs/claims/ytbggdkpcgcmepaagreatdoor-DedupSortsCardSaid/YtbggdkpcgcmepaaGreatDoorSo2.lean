import Derived.Test.YtbggdkpcgcmepaaGreatDoorKe
namespace Go.Proofs.YtbggdkpcgcmepaaGreatDoor
open Go.RowKit Go.Sort

set_option maxRecDepth 100000 in
set_option maxHeartbeats 4000000 in
theorem sorts_walk (v : Value) (l : List Smp) (t d : Int) (W : World) (T : Tabs W) (hR : Rd W W.heap.size v l) (hz : Nz v) :
    Calls Tryz.prog 3 #[v, .int .i64 t, .int .i64 d] W fun e w' => e = .returned (.bool true) ∧ Below W.heap.size W w' := by
  have _ := hz
  have KW := Lib.hid (awake_walk W T)
  have KT : Hid (∀ w, Below W.heap.size W w → Tabs w) := fun w h => T.below h
  have KR : Hid (∀ w, Below W.heap.size W w → Rd w w.heap.size v l) := fun w h => hR.on h
  have KY : Hid (∀ w' w'', Below W.heap.size W w' → Below w'.heap.size w' w'' → Below W.heap.size W w'') := fun w' w'' h e => h.trans (e.mono h.size)
  have KYE : Hid (∀ w' w'', Below W.heap.size W w' → Ext w' w'' → Below W.heap.size W w'') := fun w' w'' h e => h.trans (e.below.mono h.size)
  obtain ⟨A, c, rfl, hc, hA⟩ := hR
  obtain ⟨n, hn⟩ : ∃ n, n = l.length := ⟨_, rfl⟩
  rw [← hn] at KR hc ⊢
  have HN := Lib.hid hn
  have HA := Lib.hid hA
  clear T hn hc hz hA
  by_cases hg : n ≤ 60
  · have g0 : (n : Int) ≤ 60 := by omega
    have hl32 : l.length * 32 ≤ 140737488355328 := by have := HN.out; omega
    have hl4 : l.length ≤ 10000 := by have := HN.out; omega
    have KS : Hid (∀ w, Below W.heap.size W w → Calls Tryz.prog 16 #[.slice A n c] w fun r w' => ∃ rv, r = .returned rv ∧ Own w' w.heap.size 28 rv (sortS l) ∧ Below w.heap.size w w') := fun w h => dsort_walk _ l w (KT.out w h) (KR.out w h) hl32
    have KE : Hid (∀ w, Below W.heap.size W w → Calls Tryz.prog 17 #[.slice A n c] w fun r w' => ∃ rv, r = .returned rv ∧ Rd w' w'.heap.size rv (sortS l) ∧ Below w.heap.size w w') := fun w h => (rsort_walk _ l w (KR.out w h) hl4).mono fun _ _ ⟨r, h1, h2, _, h3⟩ => ⟨r, h1, rsortS_eq l ▸ h2, h3⟩
    have KI : Hid (∀ w, Calls Tryz.prog 18 #[.int .i64 t, .int .i64 d] w fun e w' => e = .returned (.int .i64 (ivl t d)) ∧ w = w') := fun w => ivl_walk t d w
    have KJ : Hid (∀ w, Calls Tryz.prog 19 #[.int .i64 t, .int .i64 d] w fun e w' => e = .returned (.int .i64 (ivl t d)) ∧ w = w') := fun w => rivl_walk t d w
    have HLd : Hid ((sortS l).length ≤ 10000) := by show _ ≤ _; have := sortS_length l; omega
    clear hl32 hl4
    go_enter Tryz.func3, Tryz.ntmps3
    go_wp2_with fail
    refine KW.out.mono ?_
    rintro e w1 ⟨rfl, hB⟩
    have HB := Lib.hid hB
    clear hB KW
    go_wp2_with fail
    go_loopw [8] (fun i wl => ∃ k : Nat, k ≤ n ∧ i = .int .i64 k ∧ Hid (Below W.heap.size W wl))
      (fun i _ => n - (intOf i).toNat)
    case atStart => exact ⟨0, Nat.zero_le _, rfl, HB.out⟩
    case round =>
      obtain ⟨k, hk, rfl, HB⟩ := hrel
      by_cases hlt : k < n
      · have hkl : k < l.length := by rw [← HN.out]; exact hlt
        rcases HA.out with e | ⟨b, o, e, hb, hcl⟩
        · subst e; simp at hkl
        subst e
        obtain ⟨y, hy⟩ : ∃ y, y = l[k] := ⟨_, rfl⟩
        obtain ⟨z, hz⟩ : ∃ z, z = l[0] := ⟨_, rfl⟩
        have KC : Hid (∀ w, Below W.heap.size W w → Cell4 w b (o + k * 4) y ∧ Cell4 w b o z) := fun w h => by
          refine ⟨by rw [hy]; exact (hcl k hkl).below h hb, ?_⟩
          have := (hcl 0 (by omega)).below h hb
          rw [hz]; simpa using this
        clear hcl hy hz
        obtain ⟨⟨c0, c1, c2, c3⟩, ⟨d0, d1, d2, d3⟩⟩ := KC.out wr HB.out
        obtain ⟨rb, hrb⟩ : ∃ rb, rb = rightS y := ⟨_, rfl⟩
        obtain ⟨cb, hcb⟩ : ∃ cb, cb = cmpS y z := ⟨_, rfl⟩
        have K11 : Hid (∀ w, Below W.heap.size W w → Calls Tryz.prog 11 #[.agg #[.int .i64 y.1, .int .i64 y.2.1, .int .i64 y.2.2.1, .int .i64 y.2.2.2]] w fun e w' => e = .returned (.bool rb) ∧ Below W.heap.size W w') := fun w h => by rw [hrb]; exact (dright_walk y w).mono fun _ _ ⟨h1, h2⟩ => ⟨h1, KYE.out _ _ h h2⟩
        have K12 : Hid (∀ w, Below W.heap.size W w → Calls Tryz.prog 12 #[.agg #[.int .i64 y.1, .int .i64 y.2.1, .int .i64 y.2.2.1, .int .i64 y.2.2.2]] w fun e w' => e = .returned (.bool rb) ∧ Below W.heap.size W w') := fun w h => by rw [hrb]; exact (rrightS_walk y w).mono fun _ _ ⟨h1, h2⟩ => ⟨h1, KYE.out _ _ h h2⟩
        have K13 : Hid (∀ w, Below W.heap.size W w → Calls Tryz.prog 13 #[.agg #[.int .i64 y.1, .int .i64 y.2.1, .int .i64 y.2.2.1, .int .i64 y.2.2.2], .agg #[.int .i64 z.1, .int .i64 z.2.1, .int .i64 z.2.2.1, .int .i64 z.2.2.2]] w fun e w' => e = .returned (.int .i64 cb) ∧ Below W.heap.size W w') := fun w h => by rw [hcb]; exact (dcmp_walk y z w (KT.out w h)).mono fun _ _ ⟨h1, h2⟩ => ⟨h1, KYE.out _ _ h h2⟩
        have K14 : Hid (∀ w, Below W.heap.size W w → Calls Tryz.prog 14 #[.agg #[.int .i64 y.1, .int .i64 y.2.1, .int .i64 y.2.2.1, .int .i64 y.2.2.2], .agg #[.int .i64 z.1, .int .i64 z.2.1, .int .i64 z.2.2.1, .int .i64 z.2.2.2]] w fun e w' => e = .returned (.int .i64 cb) ∧ Below W.heap.size W w') := fun w h => by rw [hcb]; exact (rcmpS_walk y z w).mono fun _ _ ⟨h1, h2⟩ => ⟨h1, KY.out _ _ h h2⟩
        have g1 : (k : Int) < (n : Int) := by omega
        have g2 : (0 : Int) < (n : Int) := by omega
        have g3 : 0 < n := by omega
        have gb : (rb != rb) = false := by cases rb <;> rfl
        have gc : (cb != cb) = false := by simp
        have hBB := HB.out
        clear hrb hcb
        go_wp2_with fail
        go_region_held3 (fun w' => w'.cell? ⟨b, o + k * 4, none⟩ = some (.int .i64 y.1) ∧ w'.cell? ⟨b, o + k * 4 + 1, none⟩ = some (.int .i64 y.2.1) ∧ w'.cell? ⟨b, o + k * 4 + 2, none⟩ = some (.int .i64 y.2.2.1) ∧ w'.cell? ⟨b, o + k * 4 + 3, none⟩ = some (.int .i64 y.2.2.2) ∧ w'.cell? ⟨b, o, none⟩ = some (.int .i64 z.1) ∧ w'.cell? ⟨b, o + 1, none⟩ = some (.int .i64 z.2.1) ∧ w'.cell? ⟨b, o + 2, none⟩ = some (.int .i64 z.2.2.1) ∧ w'.cell? ⟨b, o + 3, none⟩ = some (.int .i64 z.2.2.2) ∧ Below W.heap.size W w')
          (first | assumption | (have hd := Below.drew (by assumption : Below W.heap.size W _); exact ⟨(KC.out _ hd).1.1, (KC.out _ hd).1.2.1, (KC.out _ hd).1.2.2.1, (KC.out _ hd).1.2.2.2, (KC.out _ hd).2.1, (KC.out _ hd).2.2.1, (KC.out _ hd).2.2.2.1, (KC.out _ hd).2.2.2.2, hd⟩) | exact ⟨by assumption, by assumption, by assumption, by assumption, by assumption, by assumption, by assumption, by assumption, by assumption⟩)
          (first
            | (go_at_call 11; refine (K11.out _ ?_).mono ?_; (first | assumption | exact Below.drew (by assumption)); rintro e w' ⟨rfl, hN⟩; obtain ⟨⟨c0', c1', c2', c3'⟩, ⟨d0', d1', d2', d3'⟩⟩ := KC.out _ hN)
            | (go_at_call 12; refine (K12.out _ ?_).mono ?_; (first | assumption | exact Below.drew (by assumption)); rintro e w' ⟨rfl, hN⟩; obtain ⟨⟨c0', c1', c2', c3'⟩, ⟨d0', d1', d2', d3'⟩⟩ := KC.out _ hN)
            | (go_at_call 13; refine (K13.out _ ?_).mono ?_; (first | assumption | exact Below.drew (by assumption)); rintro e w' ⟨rfl, hN⟩; obtain ⟨⟨c0', c1', c2', c3'⟩, ⟨d0', d1', d2', d3'⟩⟩ := KC.out _ hN)
            | (go_at_call 14; refine (K14.out _ ?_).mono ?_; (first | assumption | exact Below.drew (by assumption)); rintro e w' ⟨rfl, hN⟩; obtain ⟨⟨c0', c1', c2', c3'⟩, ⟨d0', d1', d2', d3'⟩⟩ := KC.out _ hN))
        go_wp2_with fail
        go_roundw
        case rel => exact ⟨k + 1, by omega, by go_num, (by assumption : Below W.heap.size W _)⟩
        case measure => simp [intOf]; omega
      · obtain rfl : n = k := by omega
        go_wp2_with fail
        refine (KS.out wr HB.out).mono ?_
        rintro e w2 ⟨r1, rfl, hO1, hC1⟩
        have HB2 := Lib.hid (KY.out _ _ HB.out hC1)
        have HO1 := Lib.hid hO1
        clear hO1 hC1
        go_wp2_with fail
        refine (KE.out w2 HB2.out).mono ?_
        rintro e w3 ⟨r2, rfl, hO2, hC2⟩
        have HB3 := Lib.hid (KY.out _ _ HB2.out hC2)
        have HR2 := Lib.hid hO2
        have HR1 := Lib.hid (HO1.out.rd.on hC2)
        clear hO2 hC2 HO1
        go_wp2_with fail
        refine (same_yes _ _ _ _ w3 HR1.out HR2.out HLd.out rfl).mono ?_
        rintro e w4 ⟨rfl, hC3⟩
        have HB4 := Lib.hid (KY.out _ _ HB3.out hC3)
        clear hC3 HR1 HR2
        go_wp2_with fail
        refine (KI.out _).mono ?_
        rintro e w5 ⟨rfl, rfl⟩
        go_wp2_with fail
        refine (KJ.out _).mono ?_
        rintro e w5 ⟨rfl, rfl⟩
        go_wp2_with fail
        go_ret
        exact ⟨ret_bool (by simp), HB4.out⟩
  · have h : 60 < n := by omega
    clear KR KT HN
    go_enter Tryz.func3, Tryz.ntmps3
    go_wp2_with fail
    refine KW.out.mono ?_
    rintro e w1 ⟨rfl, hB⟩
    have HB := Lib.hid hB
    clear hB KW
    go_wp2_with fail
    go_ret
    exact ⟨rfl, HB.out⟩
end Go.Proofs.YtbggdkpcgcmepaaGreatDoor
