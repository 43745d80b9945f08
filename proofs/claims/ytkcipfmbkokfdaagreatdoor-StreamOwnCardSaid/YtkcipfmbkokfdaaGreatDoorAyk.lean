/-
  eskerlaw16.awake: the document's example.
-/
import Derived.Test.YtkcipfmbkokfdaaGreatDoorAqk
import Derived.Test.YtkcipfmbkokfdaaGreatDoorMo3k
import Derived.Test.YtkcipfmbkokfdaaGreatDoorPmk
import Derived.Test.YtkcipfmbkokfdaaGreatDoorSsk
import Derived.Test.YtkcipfmbkokfdaaGreatDoorQpk
namespace Go.Proofs.YtkcipfmbkokfdaaGreatDoor
open Go.RowKit Go.Sort Go.Maps
attribute [local go_sem ↓] Go.wp_at_zero Go.wp_at_succ
theorem wf_small {l : List Pts} (h : ∀ p ∈ l, -1000 ≤ p.1 ∧ p.1 ≤ 1000) : ∀ p ∈ l, (Lit.int .i64 p.1).wf = true := fun p hp => WalkArith.wf_i64 (by have := h p hp; omega)
set_option maxRecDepth 100000 in
set_option maxHeartbeats 4000000 in
theorem awake16_walk (W : World) (T : Tabs W) :
    Calls Tryz.prog 9 #[] W fun e w' => e = .returned (.bool true) ∧ Below W.heap.size W w' := by
  have KA : Hid (∀ (id : Int) (ts : List Int) tv w, RdZ w w.heap.size tv ts → ts.length ≤ 1000 → Calls Tryz.prog 27 #[.int .i64 id, tv] w fun e w' => ∃ sv, e = .returned (.agg #[.int .i64 id, sv]) ∧ Own w' w.heap.size 52 sv (ts.map mkS) ∧ Below w.heap.size w w') := fun id ts tv w h1 h2 => at16_walk id tv ts w h1 h2
  have HT := Lib.hid T
  clear T
  go_enter Tryz.func9, Tryz.ntmps9
  go_wp2_with fail
  -- a
  refine (KA.out 1 [5, 12] _ _ (RdZ.built W [5, 12] _) (by decide)).mono ?_; rintro e w1 ⟨s1, rfl, hO1, hB1⟩
  obtain ⟨wa, hwa⟩ : ∃ wa, wa = w1.alloc (.cells #[.int .i64 1, s1] 48) := ⟨_, rfl⟩
  have HBa : Hid (Below W.heap.size W wa) := by
    show Below _ _ _
    rw [hwa]
    have h1 := (((Below.refl _ W).alloc (Nat.le_refl _) _).trans (hB1.mono (by simp)))
    exact h1.alloc h1.size _
  have HA : Hid (RdP wa wa.heap.size (.slice (some ⟨w1.heap.size, 0, none⟩) 1 1) aA) := by
    show RdP _ _ _ _
    rw [hwa]
    exact RdP.built w1 [(1, s1, [mkS 5, mkS 12])] _ (fun x hx => by rw [List.mem_singleton] at hx; subst hx; exact ⟨hO1.rd, hO1.nz⟩)
  have hsa : wa.heap.size = w1.heap.size + 1 := by rw [hwa]; simp
  have HSa := Lib.hid hsa
  clear hO1 hB1
  go_wp2_with fail
  rw [← hwa]
  clear hwa hsa
  rw [← HSa.out]
  -- b
  refine (KA.out 2 [3] _ _ (RdZ.built wa [3] _) (by decide)).mono ?_; rintro e w2 ⟨s2, rfl, hO2, hB2⟩
  have HB2 : Hid (Below wa.heap.size wa w2) := ((Below.refl _ wa).alloc (Nat.le_refl _) _).trans (hB2.mono (by simp))
  have HO2 := Lib.hid hO2
  clear hO2 hB2
  go_wp2_with fail
  refine (KA.out 1 [10] _ _ (RdZ.built w2 [10] _) (by decide)).mono ?_; rintro e w3 ⟨s3, rfl, hO3, hB3⟩
  have hB23 : Below w2.heap.size w2 w3 := ((Below.refl _ w2).alloc (Nat.le_refl _) _).trans (hB3.mono (by simp))
  obtain ⟨wb, hwb⟩ : ∃ wb, wb = w3.alloc (.cells #[.int .i64 2, s2, .int .i64 1, s3] 48) := ⟨_, rfl⟩
  have hBab : Below wa.heap.size wa wb := by
    rw [hwb]
    have h1 := HB2.out.trans (hB23.mono HB2.out.size)
    exact h1.alloc h1.size _
  have HB : Hid (RdP wb wb.heap.size (.slice (some ⟨w3.heap.size, 0, none⟩) 2 2) bB) := by
    show RdP _ _ _ _
    rw [hwb]
    have h2 := HO2.out.below hB23
    exact RdP.built w3 [(2, s2, [mkS 3]), (1, s3, [mkS 10])] _ (fun x hx => by
      simp only [List.mem_cons, List.not_mem_nil, or_false] at hx
      rcases hx with rfl | rfl
      · exact ⟨h2.rd, h2.nz⟩
      · exact ⟨hO3.rd, hO3.nz⟩)
  have HA2 := Lib.hid (HA.out.on hBab)
  have HBb : Hid (Below W.heap.size W wb) := HBa.out.trans (hBab.mono HBa.out.size)
  have HSb : Hid (wb.heap.size = w3.heap.size + 1) := by show _ = _; rw [hwb]; simp
  clear hB23 hO3 hB3 hBab HA HO2
  go_wp2_with fail
  rw [← hwb, ← HSb.out]
  clear hwb
  obtain ⟨ba, hba⟩ : ∃ ba, ba = w1.heap.size := ⟨_, rfl⟩
  obtain ⟨bb, hbb⟩ : ∃ bb, bb = w3.heap.size := ⟨_, rfl⟩
  rw [← hba] at HA2 ⊢
  rw [← hbb] at HB ⊢
  clear hba hbb
  have hwfA : ∀ p ∈ aA, (Lit.int .i64 p.1).wf = true := wf_small (by decide)
  have hwfB : ∀ p ∈ bB, (Lit.int .i64 p.1).wf = true := wf_small (by decide)
  have hwfR : ∀ r ∈ [aA, bB], ∀ p ∈ r, (Lit.int .i64 p.1).wf = true := fun r hr => by
    simp only [List.mem_cons, List.not_mem_nil, or_false] at hr
    rcases hr with rfl | rfl
    · exact hwfA
    · exact hwfB
  have HWA := Lib.hid hwfA
  have HWB := Lib.hid hwfB
  have HWR := Lib.hid hwfR
  clear hwfA hwfB hwfR
  -- m
  have hal1 : ∀ (w : World) o, Below w.heap.size w (w.alloc o) := fun w o => (Below.refl _ w).alloc (Nat.le_refl _) _
  have HAL := Lib.hid hal1
  clear hal1
  have hRR : ∀ w va vb, RdP w w.heap.size va aA → RdP w w.heap.size vb bB → RdR (w.alloc (.cells #[va, vb] 29)) (w.alloc (.cells #[va, vb] 29)).heap.size (.slice (some ⟨w.heap.size, 0, none⟩) 2 2) [aA, bB] := fun w va vb h1 h2 => RdR.built w [(va, aA), (vb, bB)] _ (fun x hx => by
    simp only [List.mem_cons, List.not_mem_nil, or_false] at hx
    rcases hx with rfl | rfl
    · exact h1
    · exact h2)
  have HRR := Lib.hid hRR
  clear hRR
  refine (smerge_walk _ [aA, bB] 10 _ [] 0 _ (HT.out.below (HBb.out.trans ((HAL.out wb _).mono HBb.out.size))) (HRR.out wb _ _ HA2.out HB.out) ⟨none, 0, rfl, Nat.le_refl _, .inl rfl⟩ (by decide) HWR.out (by decide) (by decide) (by decide)).mono ?_; rintro e w4 ⟨mv, rfl, hm, hB4⟩
  rw [aw_m] at hm
  have hB4' : Below wb.heap.size wb w4 := (HAL.out wb _).trans (hB4.mono (HAL.out wb _).size)
  have HM4 := Lib.hid hm
  have HA4 := Lib.hid (HA2.out.on hB4')
  have HBB4 := Lib.hid (HB.out.on hB4')
  have HB4 : Hid (Below W.heap.size W w4) := HBb.out.trans (hB4'.mono HBb.out.size)
  clear hm hB4 hB4' HA2 HB HBb
  go_wp2_with fail
  -- n
  obtain ⟨wq, hwq⟩ : ∃ wq, wq = w4.alloc (.cells #[.int .i64 2] 3) := ⟨_, rfl⟩
  have HZ : Hid (RdZ wq wq.heap.size (.slice (some ⟨w4.heap.size, 0, none⟩) 1 1) [2]) := by
    show RdZ _ _ _ _
    rw [hwq]
    exact RdZ.built w4 [2] _
  have hB4q : Below w4.heap.size w4 wq := by rw [hwq]; exact HAL.out w4 _
  have HSq : Hid (wq.heap.size = w4.heap.size + 1) := by show _ = _; rw [hwq]; simp
  have HAq := HA4.out.on hB4q
  have HBq := HBB4.out.on hB4q
  rw [← hwq, ← HSq.out]
  refine (smerge_walk _ [aA, bB] 10 _ [2] 11 _ (HT.out.below (HB4.out.trans ((hB4q.trans ((HAL.out wq _).mono hB4q.size)).mono HB4.out.size))) (HRR.out wq _ _ HAq HBq) (HZ.out.on (HAL.out wq _)) (by decide) HWR.out (by decide) (by decide) (by decide)).mono ?_; rintro e w5 ⟨nv, rfl, hm, hB5⟩
  rw [aw_n] at hm
  have hB5' : Below w4.heap.size w4 w5 := hB4q.trans (((HAL.out wq _).trans (hB5.mono (HAL.out wq _).size)).mono hB4q.size)
  have HN5 := Lib.hid hm
  have HM5 := Lib.hid (HM4.out.on hB5')
  have HA5 := Lib.hid (HA4.out.on hB5')
  have HBB5 := Lib.hid (HBB4.out.on hB5')
  have HB5 : Hid (Below W.heap.size W w5) := HB4.out.trans (hB5'.mono HB4.out.size)
  clear hm hB5 hB5' HA4 HBB4 HM4 HB4 HAq HBq hB4q hwq HZ HSq
  -- the months
  go_wp2_with fail
  refine (KA.out 1 [5, 1000] _ _ (RdZ.built w5 [5, 1000] _) (by decide)).mono ?_; rintro e w6 ⟨s6, rfl, hO6, hB6⟩
  have hB56 : Below w5.heap.size w5 w6 := (HAL.out w5 _).trans (hB6.mono (HAL.out w5 _).size)
  obtain ⟨wc, hwc⟩ : ∃ wc, wc = w6.alloc (.cells #[.int .i64 1, s6] 48) := ⟨_, rfl⟩
  have hBc : Below w5.heap.size w5 wc := by rw [hwc]; exact hB56.trans ((HAL.out w6 _).mono hB56.size)
  have HC : Hid (RdP wc wc.heap.size (.slice (some ⟨w6.heap.size, 0, none⟩) 1 1) cC) := by
    show RdP _ _ _ _
    rw [hwc]
    exact RdP.built w6 [(1, s6, [mkS 5, mkS 1000])] _ (fun x hx => by rw [List.mem_singleton] at hx; subst hx; exact ⟨hO6.rd, hO6.nz⟩)
  have HMc := Lib.hid (HM5.out.on hBc)
  have HNc := Lib.hid (HN5.out.on hBc)
  have HAc := Lib.hid (HA5.out.on hBc)
  have HBBc := Lib.hid (HBB5.out.on hBc)
  have HBc : Hid (Below W.heap.size W wc) := HB5.out.trans (hBc.mono HB5.out.size)
  clear hBc hB56 hO6 hB6 HN5 HM5 HA5 HBB5 HB5
  go_wp2_with fail
  rw [← hwc]
  clear hwc
  refine (smonths_walk _ cC wc (HT.out.below HBc.out) HC.out (wf_small (by decide)) (by decide) (by decide)).mono ?_; rintro e w7 ⟨r7, rfl, ⟨kv, pv, rfl, hk, hp⟩, hB7⟩
  rw [aw_k] at hk hp
  obtain ⟨Ak, ck, rfl, hck, hAk⟩ := hk
  obtain ⟨Ap, cp, rfl, hcp, _⟩ := hp
  rcases hAk with h0 | ⟨bk, ok, rfl, hbk, hclk⟩
  · cases h0
  have HK1 : Hid (w7.cell? ⟨bk, ok + 1, none⟩ = some (.int .i64 1)) := hclk 1 (by decide)
  have HM7 := Lib.hid (HMc.out.on hB7)
  have HN7 := Lib.hid (HNc.out.on hB7)
  have HA7 := Lib.hid (HAc.out.on hB7)
  have HBB7 := Lib.hid (HBBc.out.on hB7)
  have HB7 : Hid (Below W.heap.size W w7) := HBc.out.trans (hB7.mono HBc.out.size)
  have HBK := Lib.hid hbk
  clear hB7 hclk hbk HMc HNc HAc HBBc HBc HC
  have hl1 : ([0, 1] : List Int).length = 2 := rfl
  have hl2 : (([0, 1] : List Int).map (monthC (cleanS cC))).length = 2 := rfl
  rw [hl1] at hck ⊢
  rw [hl2] at hcp ⊢
  clear hl1 hl2
  go_wp2_with fail
  refine (sspan_walk _ bB w7 (HT.out.below HB7.out) HBB7.out HWB.out (by decide) (by decide)).mono ?_; rintro e w8 ⟨rfl, hB8⟩
  rw [aw_s]
  have HK8 : Hid (w8.cell? ⟨bk, ok + 1, none⟩ = some (.int .i64 1)) := (hB8.cell HBK.out).trans HK1.out
  have HM8 := Lib.hid (HM7.out.on hB8)
  have HN8 := Lib.hid (HN7.out.on hB8)
  have HA8 := Lib.hid (HA7.out.on hB8)
  have HBB8 := Lib.hid (HBB7.out.on hB8)
  have HB8 : Hid (Below W.heap.size W w8) := HB7.out.trans (hB8.mono HB7.out.size)
  have HBK8 : Hid (bk < w8.heap.size) := Nat.lt_of_lt_of_le HBK.out hB8.size
  clear hB8 HM7 HN7 HA7 HBB7 HB7 HK1 HBK
  unfold encSpan
  go_wp2_with fail
  refine (KA.out 1 [10, 12] _ _ (RdZ.built w8 [10, 12] _) (by decide)).mono ?_; rintro e w9 ⟨s9, rfl, hO9, hB9⟩
  have HB89 : Hid (Below w8.heap.size w8 w9) := (HAL.out w8 _).trans (hB9.mono (HAL.out w8 _).size)
  have HO9 := Lib.hid hO9
  clear hO9 hB9
  go_wp2_with fail
  refine (KA.out 2 [3] _ _ (RdZ.built w9 [3] _) (by decide)).mono ?_; rintro e w10 ⟨s10, rfl, hO10, hB10⟩
  have hB910 : Below w9.heap.size w9 w10 := (HAL.out w9 _).trans (hB10.mono (HAL.out w9 _).size)
  obtain ⟨wd, hwd⟩ : ∃ wd, wd = w10.alloc (.cells #[.int .i64 1, s9, .int .i64 2, s10] 48) := ⟨_, rfl⟩
  have hB8d : Below w8.heap.size w8 wd := by
    rw [hwd]
    have h1 := HB89.out.trans (hB910.mono HB89.out.size)
    exact h1.alloc h1.size _
  have HD : Hid (RdP wd wd.heap.size (.slice (some ⟨w10.heap.size, 0, none⟩) 2 2) [(1, [mkS 10, mkS 12]), (2, [mkS 3])]) := by
    show RdP _ _ _ _
    rw [hwd]
    have h2 := HO9.out.below hB910
    exact RdP.built w10 [(1, s9, [mkS 10, mkS 12]), (2, s10, [mkS 3])] _ (fun x hx => by
      simp only [List.mem_cons, List.not_mem_nil, or_false] at hx
      rcases hx with rfl | rfl
      · exact ⟨h2.rd, h2.nz⟩
      · exact ⟨hO10.rd, hO10.nz⟩)
  have KS1 := Lib.hid (sameP_walk mv _ _ _ wd (HM8.out.on hB8d) HD.out ⟨by decide, by decide⟩)
  have HND := Lib.hid (HN8.out.on hB8d)
  have HAD := Lib.hid (HA8.out.on hB8d)
  have HBBD := Lib.hid (HBB8.out.on hB8d)
  have HKD : Hid (wd.cell? ⟨bk, ok + 1, none⟩ = some (.int .i64 1)) := (hB8d.cell HBK8.out).trans HK8.out
  have HBD : Hid (Below W.heap.size W wd) := HB8.out.trans (hB8d.mono HB8.out.size)
  have HBKD : Hid (bk < wd.heap.size) := Nat.lt_of_lt_of_le HBK8.out hB8d.size
  clear hB8d hB910 hO10 hB10 HM8 HN8 HA8 HBB8 HK8 HB8 HBK8 HB89 HO9
  go_wp2_with fail
  rw [← hwd]
  clear hwd
  refine KS1.out.mono ?_; rintro e w11 ⟨rfl, hE11⟩
  have HB11 := Lib.hid hE11.below
  clear hE11 KS1
  go_wp2_with fail
  refine (KA.out 1 [12] _ _ (RdZ.built w11 [12] _) (by decide)).mono ?_; rintro e w12 ⟨s12, rfl, hO12, hB12⟩
  have hB1112 : Below w11.heap.size w11 w12 := (HAL.out w11 _).trans (hB12.mono (HAL.out w11 _).size)
  obtain ⟨we, hwe⟩ : ∃ we, we = w12.alloc (.cells #[.int .i64 1, s12] 48) := ⟨_, rfl⟩
  have hBde : Below wd.heap.size wd we := by
    rw [hwe]
    have h1 := HB11.out.trans (hB1112.mono HB11.out.size)
    exact h1.alloc h1.size _
  have HE : Hid (RdP we we.heap.size (.slice (some ⟨w12.heap.size, 0, none⟩) 1 1) [(1, [mkS 12])]) := by
    show RdP _ _ _ _
    rw [hwe]
    exact RdP.built w12 [(1, s12, [mkS 12])] _ (fun x hx => by rw [List.mem_singleton] at hx; subst hx; exact ⟨hO12.rd, hO12.nz⟩)
  have KS2 := Lib.hid (sameP_walk nv _ _ _ we (HND.out.on hBde) HE.out ⟨by decide, by decide⟩)
  have HAE := Lib.hid (HAD.out.on hBde)
  have HBBE := Lib.hid (HBBD.out.on hBde)
  have HKE : Hid (we.cell? ⟨bk, ok + 1, none⟩ = some (.int .i64 1)) := (hBde.cell HBKD.out).trans HKD.out
  have HBE : Hid (Below W.heap.size W we) := HBD.out.trans (hBde.mono HBD.out.size)
  have HBKE : Hid (bk < we.heap.size) := Nat.lt_of_lt_of_le HBKD.out hBde.size
  clear hBde hB1112 hO12 hB12 HND HAD HBBD HKD HBD HBKD HB11
  go_wp2_with fail
  rw [← hwe]
  clear hwe
  refine KS2.out.mono ?_; rintro e w13 ⟨rfl, hE13⟩
  have hb13 := hE13.below
  have c1 : w13.cell? ⟨bk, ok + 1, none⟩ = some (.int .i64 1) := (hb13.cell HBKE.out).trans HKE.out
  have HA13 := Lib.hid (HAE.out.on hb13)
  have HBB13 := Lib.hid (HBBE.out.on hb13)
  have HB13 : Hid (Below W.heap.size W w13) := HBE.out.trans (hb13.mono HBE.out.size)
  clear hE13 hb13 KS2 HAE HBBE HKE HBE HBKE
  go_wp2_with fail
  refine (smany _ bB w13 (HT.out.below HB13.out) HBB13.out HWB.out (by decide) (by decide)).mono ?_; rintro e w14 ⟨rfl, hB14⟩
  rw [aw_y]
  have HA14 := Lib.hid (HA13.out.on hB14)
  have HBB14 := Lib.hid (HBB13.out.on hB14)
  have HB14 : Hid (Below W.heap.size W w14) := HB13.out.trans (hB14.mono HB13.out.size)
  clear hB14 HA13 HBB13 HB13 c1
  go_wp2_with fail
  refine (sof_walk _ aA 1 w14 (HT.out.below HB14.out) HA14.out HWA.out (WalkArith.wf_i64 (by decide)) (by decide) (by decide)).mono ?_; rintro e w15 ⟨ro, rfl, hOo, hB15⟩
  obtain ⟨Ao, co, rfl, _, _⟩ := hOo.rd
  rw [aw_o]
  have HBB15 := Lib.hid (HBB14.out.on hB15)
  have HB15 : Hid (Below W.heap.size W w15) := HB14.out.trans (hB15.mono HB14.out.size)
  clear hB15 hOo HA14 HBB14 HB14
  go_wp2_with fail
  refine (sclean _ bB w15 (HT.out.below HB15.out) HBB15.out HWB.out (by decide) (by decide)).mono ?_; rintro e w16 ⟨rc, rfl, hRc, hB16⟩
  obtain ⟨Ac, cc, rfl, _, _⟩ := hRc
  rw [aw_c]
  have HB16 : Hid (Below W.heap.size W w16) := HB15.out.trans (hB16.mono HB15.out.size)
  clear hB16 HBB15 HB15
  go_wp2_with fail
  go_ret
  exact ⟨rfl, HB16.out⟩
end Go.Proofs.YtkcipfmbkokfdaaGreatDoor
