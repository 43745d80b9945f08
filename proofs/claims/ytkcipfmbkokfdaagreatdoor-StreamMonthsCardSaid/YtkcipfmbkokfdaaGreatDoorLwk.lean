/-
  StreamMonths: the months' points together are all points; each month's lie in it.
-/
import Derived.Test.YtkcipfmbkokfdaaGreatDoorMqk
import Derived.Test.YtkcipfmbkokfdaaGreatDoorVrk
import Derived.Test.YtkcipfmbkokfdaaGreatDoorRtk
import Derived.Test.YtkcipfmbkokfdaaGreatDoorPmk
namespace Go.Proofs.YtkcipfmbkokfdaaGreatDoor
open Go.RowKit Go.Sort Go.Maps
attribute [local go_sem ↓] Go.wp_at_zero Go.wp_at_succ
theorem one_bd3 {l : List Pts} (h : ([l] : List (List Pts)).length ≤ 10 ∧ cntL [l] ≤ 150) : l.length ≤ 150 ∧ manyL l ≤ 150 := by
  have := h.2
  unfold cntL at this
  simp at this
  omega
set_option maxRecDepth 100000 in
set_option maxHeartbeats 8000000 in
theorem monthsL_walk (v : Value) (l : List Pts) (W : World) (T : Tabs W) (hR : RdP W W.heap.size v l) (_hz : Nz v) (hwf : ∀ p ∈ l, (Lit.int .i64 p.1).wf = true) (hs : SizR l) :
    Calls Tryz.prog 6 #[v] W fun e w' => e = .returned (.bool true) ∧ Below W.heap.size W w' := by
  have HAw := Lib.hid (awake16_walk W T)
  have HAL : Hid (∀ (w : World) o, Below w.heap.size w (w.alloc o)) := fun w o => (Below.refl _ w).alloc (Nat.le_refl _) _
  have HF : Hid (∀ w', Below W.heap.size W w' → Calls Tryz.prog 10 #[.slice (some ⟨w'.heap.size, 0, none⟩) 1 1] (w'.alloc (.cells #[v] 29)) fun e w'' => ∃ q, e = .returned (.bool q) ∧ Hid (q = true → ([l] : List (List Pts)).length ≤ 10 ∧ cntL [l] ≤ 150) ∧ Below (w'.alloc (.cells #[v] 29)).heap.size (w'.alloc (.cells #[v] 29)) w'') := fun w' h => few_walk _ [l] _ (RdR.one (hR.on h) _) (fun r hr => by rw [List.mem_singleton] at hr; subst hr; exact hs) (by simp)
  have HP : Hid (∀ w', Below W.heap.size W w' → RdP w' w'.heap.size v l) := fun w' h => hR.on h
  have HTT : Hid (∀ w', Below W.heap.size W w' → Tabs w') := fun w' h => T.below h
  have HW := Lib.hid hwf
  obtain ⟨A, c, rfl, hc, _⟩ := hR
  obtain ⟨n, hn⟩ : ∃ n, n = l.length := ⟨_, rfl⟩
  rw [← hn] at hc HF HP ⊢
  clear hn hs hwf T
  go_enter Tryz.func6, Tryz.ntmps6
  go_wp2_with fail
  refine HAw.out.mono ?_; rintro e w1 ⟨rfl, hB1⟩
  have HB1 := Lib.hid hB1
  have KF := Lib.hid (HF.out w1 hB1)
  clear hB1 HAw HF
  go_wp2_with fail
  refine KF.out.mono ?_; rintro e w2 ⟨q, rfl, hq, hB2⟩
  have HB2 : Hid (Below W.heap.size W w2) := HB1.out.trans (((HAL.out w1 _).trans (hB2.mono (HAL.out w1 _).size)).mono HB1.out.size)
  clear hB2 HB1 KF
  cases q with
  | false =>
    clear hq
    go_wp2_with fail
    go_ret
    exact ⟨rfl, HB2.out⟩
  | true =>
    obtain ⟨hb1, hb2⟩ := one_bd3 (hq.out rfl)
    clear hq
    have K3 : Hid (∀ w', Below W.heap.size W w' → Calls Tryz.prog 16 #[.slice A n c] w' fun e w'' => ∃ r, e = .returned r ∧ MonR w'' (cleanS l) r ∧ Below w'.heap.size w' w'') := fun w' h => smonths_walk _ l w' (HTT.out _ h) (HP.out _ h) HW.out (by omega) (by omega)
    have K5 : Hid (∀ w', Below W.heap.size W w' → Calls Tryz.prog 19 #[.slice A n c] w' fun e w'' => ∃ r, e = .returned r ∧ RdP w'' w''.heap.size r (cleanS l) ∧ Below w'.heap.size w' w'') := fun w' h => sclean _ l w' (HTT.out _ h) (HP.out _ h) HW.out (by omega) (by omega)
    have K9 : Hid (∀ w', Below W.heap.size W w' → Calls Tryz.prog 24 #[.slice A n c] w' fun e w'' => e = .returned (.int .i64 (manyL (cleanS l))) ∧ Below w'.heap.size w' w'') := fun w' h => smany _ l w' (HTT.out _ h) (HP.out _ h) HW.out (by omega) (by omega)
    have hq1 := cleanS_length l
    have hq2 := cleanS_many l
    have hCl : Clean (cleanS l) := cleanS_clean l
    obtain ⟨Q, hQe⟩ : ∃ Q, Q = cleanS l := ⟨_, rfl⟩
    rw [← hQe] at K3 K5 K9 hq1 hq2 hCl
    obtain ⟨K, hK⟩ : ∃ K, K = monthsK Q := ⟨_, rfl⟩
    have hKl : K.length ≤ 150 := by rw [hK]; have := monthsK_length Q; omega
    have HLt : Hid (K.Pairwise (· < ·)) := by rw [hK]; exact monthsK_lt Q
    have hAm : manyL (allM Q K) = manyL Q := by rw [hK]; exact months_many
    have hAl := allM_len Q K
    have HAt : Hid (∀ k, manyL (allM Q (K.take k)) ≤ 150) := fun k => by have := allM_take Q K k; omega
    have HAtl : Hid (∀ k, (allM Q (K.take k)).length ≤ 150) := fun k => by have := allM_take Q K k; have := allM_len Q (K.take k); omega
    have HM1 : Hid (∀ m, (monthC Q m).length ≤ 150 ∧ manyL (monthC Q m) ≤ 150) := fun m => by
      have b1 : (monthC Q m).length ≤ Q.length := fosC_length _ _
      have b2 : manyL (monthC Q m) ≤ manyL Q := fosC_many _ (fun _ _ => List.length_filter_le _ _) _
      omega
    have HMw : Hid (∀ m, ∀ p ∈ monthC Q m, (Lit.int .i64 p.1).wf = true) := fun m p hp => by
      have := (monthC_clean hCl m).inr p hp
      exact WalkArith.wf_i64 (by
        unfold inR at this
        rw [Bool.and_eq_true, decide_eq_true_eq, decide_eq_true_eq] at this
        omega)
    have KSp : Hid (∀ w' sv m, Below W.heap.size W w' → RdP w' w'.heap.size sv (monthC Q m) → m ∈ K → Calls Tryz.prog 14 #[sv] w' fun e w'' => (∃ a b : Int, e = .returned (.tuple #[.int .i64 a, .int .i64 b, .bool true]) ∧ 0 ≤ a ∧ a ≤ 1099511627776 ∧ 0 ≤ b ∧ b ≤ 1099511627776 ∧ a / 1000 = m ∧ b / 1000 = m) ∧ Below w'.heap.size w' w'') := fun w' sv m h h2 h3 => by
      have := HM1.out m
      obtain ⟨a, b, e, hab⟩ := month_span hCl (hK ▸ h3)
      refine (sspan_walk sv (monthC Q m) w' (HTT.out _ h) h2 (HMw.out m) (by omega) (by omega)).mono ?_
      rintro e2 w'' ⟨rfl, h4⟩
      rw [clean_again (monthC_clean hCl m), e]
      exact ⟨⟨a, b, rfl, hab⟩, h4⟩
    have KMy : Hid (∀ w' sv m, Below W.heap.size W w' → RdP w' w'.heap.size sv (monthC Q m) → Calls Tryz.prog 24 #[sv] w' fun e w'' => e = .returned (.int .i64 (manyL (monthC Q m))) ∧ Below w'.heap.size w' w'') := fun w' sv m h h2 => by
      have := HM1.out m
      have h9 := smany sv (monthC Q m) w' (HTT.out _ h) h2 (HMw.out m) (by omega) (by omega)
      rw [clean_again (monthC_clean hCl m)] at h9
      exact h9
    have KCa : Hid (∀ w' sv, Below W.heap.size W w' → RdP w' w'.heap.size sv (allM Q K) → Calls Tryz.prog 19 #[sv] w' fun e w'' => ∃ r, e = .returned r ∧ RdP w'' w''.heap.size r Q ∧ Below w'.heap.size w' w'') := fun w' sv h h2 => by
      have h9 := sclean sv (allM Q K) w' (HTT.out _ h) h2 (allM_wf hCl K) (by omega) (by omega)
      rw [hK, months_all hCl] at h9
      exact h9
    have HSC : Hid (SmallP Q) := small_of (by omega) (by omega)
    have HAm : Hid (manyL (allM Q K) = manyL Q) := hAm
    have HMem : Hid (∀ k (h : k < K.length), allM Q (K.take (k + 1)) = allM Q (K.take k) ++ monthC Q K[k]) := fun k h => by
      rw [List.take_succ_eq_append_getElem h, allM_snoc]
    have HQn : Hid (manyL Q ≤ 150) := by show _ ≤ _; omega
    clear hb1 hb2 hQe hq1 hq2 hCl hAm hAl HP HTT HM1 HMw
    have e9 : (monthsK Q) = K := hK.symm
    have K3' : Hid (∀ w', Below W.heap.size W w' → Calls Tryz.prog 16 #[.slice A n c] w' fun e w'' => ∃ kv pv, e = .returned (.tuple #[kv, pv]) ∧ RdZ w'' w''.heap.size kv K ∧ RdQ w'' w''.heap.size pv (K.map (monthC Q)) ∧ Below w'.heap.size w' w'') := fun w' h => by
      refine (K3.out w' h).mono ?_
      rintro e w'' ⟨r, rfl, ⟨kv, pv, rfl, h1, h2⟩, h3⟩
      rw [e9] at h1 h2
      exact ⟨kv, pv, rfl, h1, h2, h3⟩
    clear hK e9 K3
    go_wp2_with fail
    refine (K3'.out w2 HB2.out).mono ?_; rintro e w5 ⟨kv, pv, rfl, hk5, hp5, hB⟩
    have HB5 : Hid (Below W.heap.size W w5) := HB2.out.trans (hB.mono HB2.out.size)
    obtain ⟨Ak, ck, rfl, hck, hAk⟩ := hk5
    obtain ⟨Ap, cp, rfl, hcp, hAp⟩ := hp5
    rw [List.length_map] at hcp ⊢
    obtain ⟨m, hm⟩ : ∃ m, m = K.length := ⟨_, rfl⟩
    rw [← hm] at hck hcp hKl ⊢
    have HM := Lib.hid hm
    have HAk := Lib.hid hAk
    have HAp := Lib.hid hAp
    clear hB hm hAk hAp K3' HB2
    go_wp2_with fail
    go_loopw [7, 8, 9, 10, 11, 12] (fun o nn i _ _ _ wl => ∃ (k : Nat) (cs : List Row), k ≤ m ∧ i = .int .i64 k ∧ nn = .int .i64 (manyL (allM Q (K.take k)) : Nat) ∧ Hid (OwP wl w5.heap.size o cs) ∧ Hid (cut cs = allM Q (K.take k)) ∧ Hid (Below w5.heap.size w5 wl)) (fun _ _ i _ _ _ _ => m - (intOf i).toNat)
    case atStart => exact ⟨0, [], Nat.zero_le _, rfl, rfl, OwP.nil _ _, rfl, Below.refl _ _⟩
    case round =>
      obtain ⟨k, cs, hk, rfl, rfl, HO, HC, HBk⟩ := hrel
      have HBw : Hid (Below W.heap.size W wr) := HB5.out.trans (HBk.out.mono HB5.out.size)
      obtain ⟨N1, hN1⟩ : ∃ N, N = manyL (allM Q (K.take k)) := ⟨_, rfl⟩
      rw [← hN1]
      by_cases hlt : k < m
      · have hkl : k < K.length := by rw [← HM.out]; exact hlt
        rcases HAk.out with h0 | ⟨b1, o1, e1, hb1, hcl1⟩
        · rw [h0] at hkl; simp at hkl
        rcases HAp.out with h0 | ⟨b2, o2, e2, hb2, hcl2⟩
        · rw [List.map_eq_nil_iff] at h0; rw [h0] at hkl; simp at hkl
        subst e1 e2
        obtain ⟨sv, p1, p2, p3⟩ := hcl2 k (by rw [List.length_map]; exact hkl)
        rw [List.getElem_map] at p2
        obtain ⟨z, hz⟩ : ∃ z, z = K[k] := ⟨_, rfl⟩
        rw [← hz] at p2
        have a1 : wr.cell? ⟨b1, o1 + k, none⟩ = some (.int .i64 z) := by rw [hz]; exact (HBk.out.cell hb1).trans (hcl1 k hkl)
        have a2 : wr.cell? ⟨b2, o2 + k, none⟩ = some sv := (HBk.out.cell hb2).trans p1
        have HRow : Hid (RdP wr wr.heap.size sv (monthC Q z)) := p2.on HBk.out
        have HR5 : Hid (RdP w5 w5.heap.size sv (monthC Q z)) := p2
        have HNz := Lib.hid p3
        have HT : Hid (allM Q (K.take (k + 1)) = allM Q (K.take k) ++ monthC Q z) := by show _ = _; rw [hz]; exact HMem.out k hkl
        obtain ⟨N2, hN2⟩ : ∃ N, N = manyL (monthC Q z) := ⟨_, rfl⟩
        have HN3 : Hid (manyL (allM Q (K.take (k + 1))) = N1 + N2) := by show _ = _; rw [HT.out, manyL_append, ← hN1, ← hN2]
        have hN3 : N1 + N2 ≤ 150 := by rw [← HN3.out]; exact HAt.out _
        have KS := Lib.hid (KSp.out wr sv z HBw.out HRow.out (hz ▸ List.getElem_mem hkl))
        have HKM : Hid (∀ w', Below wr.heap.size wr w' → Calls Tryz.prog 24 #[sv] w' fun e w'' => e = .returned (.int .i64 N2) ∧ Below w'.heap.size w' w'') := fun w' h => by
          have := KMy.out w' sv z (HBw.out.trans (h.mono HBw.out.size)) (HRow.out.on h)
          rw [← hN2] at this
          exact this
        have HLn : Hid ((cs.length + (monthC Q z).length) * 32 ≤ 140737488355328) := by
          have h1 := congrArg List.length HC.out
          have h2 := HAtl.out (k + 1)
          rw [HT.out, List.length_append] at h2
          have h4 : (cut cs).length = cs.length := by simp [cut]
          show _ ≤ _
          omega
        have KY : Hid (∀ w', Below wr.heap.size wr w' → w'.cell? ⟨b1, o1 + k, none⟩ = some (.int .i64 z) ∧ w'.cell? ⟨b2, o2 + k, none⟩ = some sv) := fun w' h => ⟨(h.cell (lt_of_cell a1)).trans a1, (h.cell (lt_of_cell a2)).trans a2⟩
        have HJ : Hid (∀ j, k = j + 1 → ∃ y, y < z ∧ ∀ w', Below wr.heap.size wr w' → w'.cell? ⟨b1, o1 + j, none⟩ = some (.int .i64 y)) := fun j hj => by
          have hjl : j < K.length := by omega
          have b1c : wr.cell? ⟨b1, o1 + j, none⟩ = some (.int .i64 K[j]) := (HBk.out.cell hb1).trans (hcl1 j hjl)
          exact ⟨K[j], by rw [hz]; exact List.pairwise_iff_getElem.1 HLt.out j k hjl hkl (by omega), fun w' h => (h.cell (lt_of_cell b1c)).trans b1c⟩
        have i1 : (k : Int) < (m : Int) := by omega
        clear hcl1 hcl2 p1 p2 p3 hz hN1 hN2 hkl
        go_wp2_with fail
        refine KS.out.mono ?_; rintro e w6 ⟨⟨a, b, rfl, f1, f2, f3, f4, f5, f6⟩, hB6⟩
        have HB6 := Lib.hid hB6
        obtain ⟨d1, d2⟩ := KY.out w6 hB6
        clear KS a1 a2
        have i2 : ((a / 1000 : Int) != z) = false := by rw [f5]; simp
        have i3 : ((b / 1000 : Int) != z) = false := by rw [f6]; simp
        have HDw : Hid (∀ w', Below wr.heap.size wr w' → Below wr.heap.size wr w'.drew) := fun w' h => Below.drew h
        have KAp : Hid (∀ nq, ∃ wq, wq = w6.drewN nq ∧ Below wr.heap.size wr wq) := fun nq => ⟨_, rfl, HB6.out.trans (((Ext.refl w6).drewN nq).below.mono HB6.out.size)⟩
        have HRw : Hid (∀ w', Below wr.heap.size wr w' → RdP w' w5.heap.size sv (monthC Q z)) := fun w' h => HR5.out.below (HBk.out.trans (h.mono HBk.out.size))
        have HOw : Hid (∀ w', Below wr.heap.size wr w' → OwP w' w5.heap.size u7 cs) := fun w' h => HO.out.on h
        have HBg : Hid (∀ w' w'' , Below wr.heap.size wr w' → w'.grownBy w'' u7.ownBlock → Below w5.heap.size w5 w'') := fun w' w'' h hg => (HBk.out.trans (h.mono HBk.out.size)).grown hg (Nat.le_trans HBk.out.size h.size) (fun g hg => (World.ownsRow.lt HO.out.row g hg).1)
        have HBs : Hid (∀ w', Below wr.heap.size wr w' → w5.heap.size ≤ w'.heap.size) := fun w' h => Nat.le_trans HBk.out.size h.size
        by_cases hk0 : k = 0
        · subst hk0
          rw [Nat.add_zero] at d1 d2
          have KY0 : Hid (∀ w', Below wr.heap.size wr w' → w'.cell? ⟨b1, o1, none⟩ = some (.int .i64 z) ∧ w'.cell? ⟨b2, o2, none⟩ = some sv) := KY.out
          have i1' : (0 : Int) < (m : Int) := by omega
          clear HJ
          go_wp2_with fail
          go_quiet (fail)
          obtain ⟨wq, hwq, hBq⟩ := KAp.out nq
          rw [← hwq]
          obtain ⟨g1, g2⟩ := KY0.out wq hBq
          have HKM1 := Lib.hid (HKM.out wq hBq)
          have HBq := Lib.hid hBq
          clear d1 d2 hwq hBq
          go_wp2_with fail
          refine HKM1.out.mono ?_; rintro e w7 ⟨rfl, hB7⟩
          have HB7 : Hid (Below wr.heap.size wr w7) := HBq.out.trans (hB7.mono HBq.out.size)
          obtain ⟨h1, h2⟩ := KY0.out w7 HB7.out
          clear g1 g2 hB7 HKM1
          go_wp2_with (at_builtin; refine appNP rfl _ _ 29 rfl Tryz.underlying29 info_Pt w5.heap.size _ cs _ (monthC Q z) w5.heap.size rfl (HOw.out w7 HB7.out) rfl (HRw.out w7 HB7.out) HNz.out (Nat.le_refl _) HLn.out (HBs.out w7 HB7.out) ?_; intro v1 w8 cs1 q1 q2 q3 q4; have HO1 := Lib.hid q1; have HC1 := Lib.hid q2; have HB1 : Hid (Below w5.heap.size w5 w8) := HBg.out w7 w8 HB7.out q3; clear q1 q2 q3 q4)
          go_roundw
          case rel => exact ⟨1, cs1, by omega, by go_num, by rw [HN3.out]; first | go_num | exact congrArg (Value.int .i64) (by rw [IntWalk.i64_in _ (by omega)]; omega), HO1.out, by show _ = _; rw [HC1.out, HT.out, HC.out], HB1.out⟩
          case measure => simp [intOf]; omega
        · obtain ⟨j, hj⟩ : ∃ j, k = j + 1 := ⟨k - 1, by omega⟩
          obtain ⟨y, hy, HJc⟩ := HJ.out j hj
          have d3 := HJc w6 HB6.out
          have i5 : (0 : Int) < (k : Int) := by omega
          have i6 : IntKind.i64.wrap ((k : Int) - 1) = (j : Int) := by rw [IntWalk.i64_in _ (by omega)]; omega
          have i7 : (j : Int) < (m : Int) := by omega
          have i8 : ¬ z ≤ y := by omega
          have i9 : (decide (z ≤ y)) = false := decide_eq_false i8
          have HKp : Hid (0 < k) := by show 0 < k; omega
          clear hj hy HJc HJ
          go_wp2_with fail
          have e5 : (0 < (k : Int)) = True := by simp only [eq_iff_iff, iff_true]; omega
          have e6 : (0 < k) = True := by simp only [eq_iff_iff, iff_true]; omega
          have e8 : (z ≤ y) = False := by simp only [eq_iff_iff, iff_false]; omega
          go_quiet (fail)
          obtain ⟨wq, hwq, hBq⟩ := KAp.out nq
          rw [← hwq]
          obtain ⟨g1, g2⟩ := KY.out wq hBq
          have HKM1 := Lib.hid (HKM.out wq hBq)
          have HBq := Lib.hid hBq
          clear d1 d2 d3 hwq hBq
          go_wp2_with fail
          refine HKM1.out.mono ?_; rintro e w7 ⟨rfl, hB7⟩
          have HB7 : Hid (Below wr.heap.size wr w7) := HBq.out.trans (hB7.mono HBq.out.size)
          obtain ⟨h1, h2⟩ := KY.out w7 HB7.out
          clear g1 g2 hB7 HKM1
          go_wp2_with (at_builtin; refine appNP rfl _ _ 29 rfl Tryz.underlying29 info_Pt w5.heap.size _ cs _ (monthC Q z) w5.heap.size rfl (HOw.out w7 HB7.out) rfl (HRw.out w7 HB7.out) HNz.out (Nat.le_refl _) HLn.out (HBs.out w7 HB7.out) ?_; intro v1 w8 cs1 q1 q2 q3 q4; have HO1 := Lib.hid q1; have HC1 := Lib.hid q2; have HB1 : Hid (Below w5.heap.size w5 w8) := HBg.out w7 w8 HB7.out q3; clear q1 q2 q3 q4)
          go_roundw
          case rel => exact ⟨k + 1, cs1, by omega, by go_num, by rw [HN3.out]; first | go_num | exact congrArg (Value.int .i64) (by rw [IntWalk.i64_in _ (by omega)]; omega), HO1.out, by show _ = _; rw [HC1.out, HT.out, HC.out], HB1.out⟩
          case measure => simp [intOf]; omega
      · obtain rfl : m = k := by omega
        obtain ⟨w9, rfl⟩ : ∃ w0, w0 = wr := ⟨wr, rfl⟩
        have HB9 := HBw
        have hC := HC.out
        rw [HM.out, List.take_length] at hC
        have hn1 : N1 = manyL Q := by rw [hN1, HM.out, List.take_length]; exact HAm.out
        have hra := HO.out.rdP
        rw [hC] at hra
        have HRa := Lib.hid hra
        have KM := Lib.hid (K9.out w9 HB9.out)
        rw [← hn1] at KM
        clear hC hn1 hra HO HC HBw HBk hN1 HM HAk HAp
        go_wp2_with fail
        refine KM.out.mono ?_; rintro e w10 ⟨rfl, hB⟩
        have HB10 : Hid (Below W.heap.size W w10) := HB9.out.trans (hB.mono HB9.out.size)
        have KA := Lib.hid (KCa.out w10 u7 HB10.out (HRa.out.on hB))
        clear hB KM
        go_wp2_with fail
        refine KA.out.mono ?_; rintro e w11 ⟨r11, rfl, hr11, hB⟩
        have HB11 : Hid (Below W.heap.size W w11) := HB10.out.trans (hB.mono HB10.out.size)
        have HR11 := Lib.hid hr11
        clear hB hr11 KA
        go_wp2_with fail
        refine (K5.out w11 HB11.out).mono ?_; rintro e w12 ⟨r12, rfl, hr12, hB⟩
        have HB12 : Hid (Below W.heap.size W w12) := HB11.out.trans (hB.mono HB11.out.size)
        have ks := sameP_walk r11 r12 Q Q w12 (HR11.out.on hB) hr12 HSC.out
        rw [decide_eq_true rfl] at ks
        have KS := Lib.hid ks
        clear hB hr12 ks
        go_wp2_with fail
        refine KS.out.mono ?_; rintro e w13 ⟨rfl, hE⟩
        have HB13 : Hid (Below W.heap.size W w13) := HB12.out.trans (hE.below.mono HB12.out.size)
        clear hE KS
        go_wp2_with fail
        go_ret
        exact ⟨ret_bool (by simp), HB13.out⟩
end Go.Proofs.YtkcipfmbkokfdaaGreatDoor
