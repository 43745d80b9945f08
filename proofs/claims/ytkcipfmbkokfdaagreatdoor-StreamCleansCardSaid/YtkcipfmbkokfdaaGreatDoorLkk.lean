/-
  StreamCleans: any points in order, the samples of any number, how many, from when to when, and those of each month.
-/
import Derived.Test.YtkcipfmbkokfdaaGreatDoorLmk
import Derived.Test.YtkcipfmbkokfdaaGreatDoorVrk
import Derived.Test.YtkcipfmbkokfdaaGreatDoorRtk
import Derived.Test.YtkcipfmbkokfdaaGreatDoorRkk
import Derived.Test.YtkcipfmbkokfdaaGreatDoorPmk
namespace Go.Proofs.YtkcipfmbkokfdaaGreatDoor
open Go.RowKit Go.Sort Go.Maps
attribute [local go_sem ↓] Go.wp_at_zero Go.wp_at_succ
theorem cnt_one (l : List Pts) : cntL [l] = l.length + manyL l := by unfold cntL; simp
theorem one_bd {l : List Pts} (h : ([l] : List (List Pts)).length ≤ 10 ∧ cntL [l] ≤ 150) : l.length ≤ 150 ∧ manyL l ≤ 150 := by
  have := h.2
  rw [cnt_one] at this
  omega
theorem monthC_small {l : List Pts} (h1 : l.length ≤ 150) (h2 : manyL l ≤ 150) (z : Int) : SmallP (monthC (cleanS l) z) := by
  have a1 := cleanS_length l
  have a2 := cleanS_many l
  have b1 : (monthC (cleanS l) z).length ≤ (cleanS l).length := fosC_length _ _
  have b2 : manyL (monthC (cleanS l) z) ≤ manyL (cleanS l) := fosC_many _ (fun _ _ => List.length_filter_le _ _) _
  exact small_of (by omega) (by omega)
set_option maxRecDepth 100000 in
set_option maxHeartbeats 8000000 in
theorem cleans_walk (v : Value) (l : List Pts) (id : Int) (W : World) (T : Tabs W) (hR : RdP W W.heap.size v l) (_hz : Nz v) (hwf : ∀ p ∈ l, (Lit.int .i64 p.1).wf = true) (hs : SizR l) (hid : (Lit.int .i64 id).wf = true) :
    Calls Tryz.prog 4 #[v, .int .i64 id] W fun e w' => e = .returned (.bool true) ∧ Below W.heap.size W w' := by
  have HAw := Lib.hid (awake16_walk W T)
  have HAL : Hid (∀ (w : World) o, Below w.heap.size w (w.alloc o)) := fun w o => (Below.refl _ w).alloc (Nat.le_refl _) _
  have HF : Hid (∀ w', Below W.heap.size W w' → Calls Tryz.prog 10 #[.slice (some ⟨w'.heap.size, 0, none⟩) 1 1] (w'.alloc (.cells #[v] 29)) fun e w'' => ∃ q, e = .returned (.bool q) ∧ Hid (q = true → ([l] : List (List Pts)).length ≤ 10 ∧ cntL [l] ≤ 150) ∧ Below (w'.alloc (.cells #[v] 29)).heap.size (w'.alloc (.cells #[v] 29)) w'') := fun w' h => few_walk _ [l] _ (RdR.one (hR.on h) _) (fun r hr => by rw [List.mem_singleton] at hr; subst hr; exact hs) (by simp)
  have HP : Hid (∀ w', Below W.heap.size W w' → RdP w' w'.heap.size v l) := fun w' h => hR.on h
  have HTT : Hid (∀ w', Below W.heap.size W w' → Tabs w') := fun w' h => T.below h
  have HW := Lib.hid hwf
  have HI := Lib.hid hid
  obtain ⟨A, c, rfl, hc, _⟩ := hR
  obtain ⟨n, hn⟩ : ∃ n, n = l.length := ⟨_, rfl⟩
  rw [← hn] at hc HF HP ⊢
  clear hn hs hwf hid T
  go_enter Tryz.func4, Tryz.ntmps4
  go_wp2_with fail
  refine HAw.out.mono ?_; rintro e w1 ⟨rfl, hB1⟩
  have HB1 := Lib.hid hB1
  have KF := Lib.hid (HF.out w1 hB1)
  clear hB1 HAw HF
  go_wp2_with fail
  refine KF.out.mono ?_; rintro e w2 ⟨q, rfl, hq, hB2⟩
  have HB2 : Hid (Below W.heap.size W w2) := HB1.out.trans (((HAL.out w1 _).trans (hB2.mono (HAL.out w1 _).size)).mono HB1.out.size)
  clear hB2 HB1 KF
  cases q with
  | false =>
    clear hq
    go_wp2_with fail
    go_ret
    exact ⟨rfl, HB2.out⟩
  | true =>
    obtain ⟨hb1, hb2⟩ := one_bd (hq.out rfl)
    have HQ : Hid (l.length ≤ 150 ∧ manyL l ≤ 150) := ⟨hb1, hb2⟩
    clear hq
    have K1 : Hid (∀ w', Below W.heap.size W w' → Calls Tryz.prog 14 #[.slice A n c] w' fun e w'' => e = .returned (encSpan (spanS (cleanS l))) ∧ Below w'.heap.size w' w'') := fun w' h => sspan_walk _ l w' (HTT.out _ h) (HP.out _ h) HW.out (by omega) (by omega)
    have K2 : Hid (∀ w', Below W.heap.size W w' → Calls Tryz.prog 15 #[.slice A n c] w' fun e w'' => e = .returned (encSpan (spanS (cleanS l))) ∧ Below w'.heap.size w' w'') := fun w' h => rspan_walk _ l w' (HP.out _ h) (by omega) (by omega)
    have K3 : Hid (∀ w', Below W.heap.size W w' → Calls Tryz.prog 16 #[.slice A n c] w' fun e w'' => ∃ r, e = .returned r ∧ MonR w'' (cleanS l) r ∧ Below w'.heap.size w' w'') := fun w' h => smonths_walk _ l w' (HTT.out _ h) (HP.out _ h) HW.out (by omega) (by omega)
    have K4 : Hid (∀ w', Below W.heap.size W w' → Calls Tryz.prog 17 #[.slice A n c] w' fun e w'' => ∃ r, e = .returned r ∧ MonR w'' (cleanS l) r ∧ Below w'.heap.size w' w'') := fun w' h => rmonths_walk _ l w' (HP.out _ h) (by omega) (by omega)
    have K5 : Hid (∀ w', Below W.heap.size W w' → Calls Tryz.prog 19 #[.slice A n c] w' fun e w'' => ∃ r, e = .returned r ∧ RdP w'' w''.heap.size r (cleanS l) ∧ Below w'.heap.size w' w'') := fun w' h => sclean _ l w' (HTT.out _ h) (HP.out _ h) HW.out (by omega) (by omega)
    have K6 : Hid (∀ w', Below W.heap.size W w' → Calls Tryz.prog 20 #[.slice A n c] w' fun e w'' => ∃ r, e = .returned r ∧ RdP w'' w''.heap.size r (cleanS l) ∧ Below w'.heap.size w' w'') := fun w' h => rclean_walk _ l w' (HP.out _ h) (by omega) (by omega)
    have K7 : Hid (∀ w', Below W.heap.size W w' → Calls Tryz.prog 22 #[.slice A n c, .int .i64 id] w' fun e w'' => ∃ r, e = .returned r ∧ Own w'' w'.heap.size 52 r (sortS (ofL l id)) ∧ Below w'.heap.size w' w'') := fun w' h => sof_walk _ l id w' (HTT.out _ h) (HP.out _ h) HW.out HI.out (by omega) (by unfold manyL at hb2; omega)
    have K8 : Hid (∀ w', Below W.heap.size W w' → Calls Tryz.prog 23 #[.slice A n c, .int .i64 id] w' fun e w'' => ∃ r, e = .returned r ∧ Own w'' w'.heap.size 52 r (sortS (ofL l id)) ∧ Below w'.heap.size w' w'') := fun w' h => rof_walk _ l id w' (HP.out _ h) (by omega) (by omega)
    have K9 : Hid (∀ w', Below W.heap.size W w' → Calls Tryz.prog 24 #[.slice A n c] w' fun e w'' => e = .returned (.int .i64 (manyL (cleanS l))) ∧ Below w'.heap.size w' w'') := fun w' h => smany _ l w' (HTT.out _ h) (HP.out _ h) HW.out (by omega) (by omega)
    have K10 : Hid (∀ w', Below W.heap.size W w' → Calls Tryz.prog 25 #[.slice A n c] w' fun e w'' => e = .returned (.int .i64 (manyL (cleanS l))) ∧ Below w'.heap.size w' w'') := fun w' h => rmany_walk _ l w' (HP.out _ h) (by omega) (by omega)
    have HKl : Hid ((monthsK (cleanS l)).length ≤ 150) := by
      have h1 := monthsK_length (cleanS l)
      have h2 := cleanS_many l
      show _ ≤ _
      omega
    have HSC : Hid (SmallP (cleanS l)) := by
      have h1 := cleanS_length l
      have h2 := cleanS_many l
      exact small_of (by omega) (by omega)
    have HSM : Hid (∀ z, SmallP (monthC (cleanS l) z)) := monthC_small hb1 hb2
    have HOl : Hid ((sortS (ofL l id)).length * 32 ≤ 140737488355328) := by
      have h1 := sortS_length (ofL l id)
      have h2 := ofL_len l id
      unfold manyL at hb2
      show _ ≤ _
      omega
    clear hb1 hb2
    obtain ⟨Q, hQe⟩ : ∃ Q, Q = cleanS l := ⟨_, rfl⟩
    rw [← hQe] at K1 K2 K3 K4 K5 K6 K9 K10 HKl HSC HSM
    obtain ⟨O, hOe⟩ : ∃ O, O = sortS (ofL l id) := ⟨_, rfl⟩
    rw [← hOe] at K7 K8 HOl
    clear hQe hOe HP HTT
    obtain ⟨⟨x1, x2, x3⟩, hx⟩ : ∃ x, x = spanS Q := ⟨_, rfl⟩
    rw [← hx] at K1 K2
    clear hx
    unfold encSpan at K1 K2
    dsimp only at K1 K2
    go_wp2_with fail
    refine (K1.out w2 HB2.out).mono ?_; rintro e w3 ⟨rfl, hB⟩
    have HB3 : Hid (Below W.heap.size W w3) := HB2.out.trans (hB.mono HB2.out.size)
    clear hB HB2 K1
    go_wp2_with fail
    refine (K2.out w3 HB3.out).mono ?_; rintro e w4 ⟨rfl, hB⟩
    have HB4 : Hid (Below W.heap.size W w4) := HB3.out.trans (hB.mono HB3.out.size)
    clear hB HB3 K2
    go_wp2_with fail
    refine (K3.out w4 HB4.out).mono ?_; rintro e w5 ⟨r5, rfl, ⟨kv, pv, rfl, hk5, hp5⟩, hB⟩
    have HB5 : Hid (Below W.heap.size W w5) := HB4.out.trans (hB.mono HB4.out.size)
    have HK5 := Lib.hid hk5
    have HP5 := Lib.hid hp5
    clear hB HB4 K3 hk5 hp5
    go_wp2_with fail
    refine (K4.out w5 HB5.out).mono ?_; rintro e w6 ⟨r6, rfl, ⟨kv2, pv2, rfl, hk6, hp6⟩, hB⟩
    have HB6 : Hid (Below W.heap.size W w6) := HB5.out.trans (hB.mono HB5.out.size)
    have KS := Lib.hid (sameZ_walk kv kv2 _ _ w6 (HK5.out.on hB) hk6 (by have := HKl.out; omega))
    have HP6 := Lib.hid (HP5.out.on hB)
    have HP7 := Lib.hid hp6
    obtain ⟨Ap, cp, rfl, hcp, hAp⟩ := HP6.out
    obtain ⟨Aq, cq, rfl, hcq, hAq⟩ := HP7.out
    obtain ⟨m, hm⟩ : ∃ m, m = ((monthsK Q).map (monthC Q)).length := ⟨_, rfl⟩
    rw [← hm] at hcp hcq HP6 HP7 ⊢
    have hml : m ≤ 150 := by rw [hm, List.length_map]; exact HKl.out
    have HM := Lib.hid hm
    have HAp := Lib.hid hAp
    have HAq := Lib.hid hAq
    clear hB HB5 K4 hk6 hp6 hm hAp hAq HP5 HK5
    go_wp2_with fail
    refine KS.out.mono ?_; rintro e w7 ⟨rfl, hE7⟩
    have HE7 := Lib.hid hE7.below
    clear hE7 KS
    go_wp2_with fail
    have HB7 : Hid (Below W.heap.size W w7) := HB6.out.trans (HE7.out.mono HB6.out.size)
    go_loopw [17] (fun i wl => ∃ k : Nat, k ≤ m ∧ i = .int .i64 k ∧ Hid (Below w7.heap.size w7 wl)) (fun i _ => m - (intOf i).toNat)
    case atStart => exact ⟨0, Nat.zero_le _, rfl, Below.refl _ _⟩
    case round =>
      obtain ⟨k, hk, rfl, HBk⟩ := hrel
      have HBw : Hid (Below w6.heap.size w6 wr) := HE7.out.trans (HBk.out.mono HE7.out.size)
      by_cases hlt : k < m
      · have hkl : k < ((monthsK Q).map (monthC Q)).length := by rw [← HM.out]; exact hlt
        rcases HAp.out with h0 | ⟨b1, o1, e1, hb1, hcl1⟩
        · rw [h0] at hkl; simp at hkl
        rcases HAq.out with h0 | ⟨b2, o2, e2, hb2, hcl2⟩
        · rw [h0] at hkl; simp at hkl
        subst e1 e2
        obtain ⟨sv1, p1, p2, _⟩ := hcl1 k hkl
        obtain ⟨sv2, p3, p4, _⟩ := hcl2 k hkl
        obtain ⟨M, hMe⟩ : ∃ M, M = ((monthsK Q).map (monthC Q))[k] := ⟨_, rfl⟩
        rw [← hMe] at p2 p4
        have hMs : SmallP M := by rw [hMe, List.getElem_map]; exact HSM.out _
        have c1 : wr.cell? ⟨b1, o1 + k, none⟩ = some sv1 := (HBw.out.cell hb1).trans p1
        have c2 : wr.cell? ⟨b2, o2 + k, none⟩ = some sv2 := (HBw.out.cell hb2).trans p3
        have HKS : Hid (∀ w', Below wr.heap.size wr w' → Calls Tryz.prog 11 #[sv1, sv2] w' fun e w'' => e = .returned (.bool true) ∧ Ext w' w'') := fun w' h => by
          have h2 := HBw.out.trans (h.mono HBw.out.size)
          have := sameP_walk sv1 sv2 M M w' (p2.on h2) (p4.on h2) hMs
          rw [decide_eq_true rfl] at this
          exact this
        have HCC : Hid (∀ w', Below wr.heap.size wr w' → w'.cell? ⟨b1, o1 + k, none⟩ = some sv1 ∧ w'.cell? ⟨b2, o2 + k, none⟩ = some sv2) := fun w' h => ⟨(h.cell (lt_of_cell c1)).trans c1, (h.cell (lt_of_cell c2)).trans c2⟩
        have hBB : Below wr.heap.size wr wr := Below.refl _ _
        have i1 : (k : Int) < (m : Int) := by omega
        clear hcl1 hcl2 p1 p2 p3 p4 hMe hMs
        go_wp2_with fail
        go_region_held3 (fun w' => w'.cell? ⟨b1, o1 + k, none⟩ = some sv1 ∧ w'.cell? ⟨b2, o2 + k, none⟩ = some sv2 ∧ Below wr.heap.size wr w')
          (first | assumption | (have hd := Below.drew (by assumption : Below wr.heap.size wr _); exact ⟨(HCC.out _ hd).1, (HCC.out _ hd).2, hd⟩) | exact ⟨by assumption, by assumption, by assumption⟩)
          ((go_at_call 11; refine (HKS.out _ (by first | assumption | exact Below.drew (by assumption))).mono ?_; rintro e w8 ⟨rfl, hE8⟩; have hN8 : Below wr.heap.size wr w8 := Below.trans (by first | assumption | exact Below.drew (by assumption)) (hE8.below.mono (by first | exact Nat.le_refl _)); obtain ⟨d1, d2⟩ := HCC.out _ hN8; clear hE8))
        go_wp2_with fail
        go_roundw
        case rel => exact ⟨k + 1, by omega, by go_num, HBk.out.trans (hN8.mono HBk.out.size)⟩
        case measure => simp [intOf]; omega
      · obtain rfl : m = k := by omega
        obtain ⟨w9, rfl⟩ : ∃ w0, w0 = wr := ⟨wr, rfl⟩
        have HB9 : Hid (Below W.heap.size W w9) := HB7.out.trans (HBk.out.mono HB7.out.size)
        clear HBk HBw HB6 HB7 HE7
        go_wp2_with fail
        refine (K5.out w9 HB9.out).mono ?_; rintro e w10 ⟨r10, rfl, hr10, hB⟩
        have HB10 : Hid (Below W.heap.size W w10) := HB9.out.trans (hB.mono HB9.out.size)
        have HR10 := Lib.hid hr10
        clear hB hr10 HB9 K5
        go_wp2_with fail
        refine (K6.out w10 HB10.out).mono ?_; rintro e w11 ⟨r11, rfl, hr11, hB⟩
        have HB11 : Hid (Below W.heap.size W w11) := HB10.out.trans (hB.mono HB10.out.size)
        have KS1 := Lib.hid (sameP_walk r10 r11 Q Q w11 (HR10.out.on hB) hr11 HSC.out)
        clear hB hr11 HB10 K6 HR10
        go_wp2_with fail
        refine KS1.out.mono ?_; rintro e w12 ⟨rfl, hE⟩
        have HB12 : Hid (Below W.heap.size W w12) := HB11.out.trans (hE.below.mono HB11.out.size)
        clear hE HB11 KS1
        go_wp2_with fail
        refine (K7.out w12 HB12.out).mono ?_; rintro e w13 ⟨r13, rfl, hr13, hB⟩
        have HB13 : Hid (Below W.heap.size W w13) := HB12.out.trans (hB.mono HB12.out.size)
        have HR13 := Lib.hid hr13
        clear hB hr13 HB12 K7
        go_wp2_with fail
        refine (K8.out w13 HB13.out).mono ?_; rintro e w14 ⟨r14, rfl, hr14, hB⟩
        have HB14 : Hid (Below W.heap.size W w14) := HB13.out.trans (hB.mono HB13.out.size)
        have KS2 := Lib.hid (same_walk r13 r14 O O w14 ((HR13.out.below hB).rd) hr14.rd HOl.out)
        clear hB hr14 HB13 K8 HR13
        go_wp2_with fail
        refine KS2.out.mono ?_; rintro e w15 ⟨rfl, hE⟩
        have HB15 : Hid (Below W.heap.size W w15) := HB14.out.trans (hE.below.mono HB14.out.size)
        clear hE HB14 KS2
        go_wp2_with fail
        refine (K9.out w15 HB15.out).mono ?_; rintro e w16 ⟨rfl, hB⟩
        have HB16 : Hid (Below W.heap.size W w16) := HB15.out.trans (hB.mono HB15.out.size)
        clear hB HB15 K9
        go_wp2_with fail
        refine (K10.out w16 HB16.out).mono ?_; rintro e w17 ⟨rfl, hB⟩
        have HB17 : Hid (Below W.heap.size W w17) := HB16.out.trans (hB.mono HB16.out.size)
        clear hB HB16 K10
        go_wp2_with fail
        go_ret
        exact ⟨ret_bool (by simp), HB17.out⟩
end Go.Proofs.YtkcipfmbkokfdaaGreatDoor
