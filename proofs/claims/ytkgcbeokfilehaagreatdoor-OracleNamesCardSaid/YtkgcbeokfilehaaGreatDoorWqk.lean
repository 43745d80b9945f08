/-
  eskerlaw20.OracleNames.
-/
import Derived.Test.YtkgcbeokfilehaaGreatDoorWmk
namespace Go.Proofs.YtkgcbeokfilehaaGreatDoor
open Go.RowKit Go.Sort Go.Maps
theorem any_take {l : List Str} {k : Nat} {y s : Str} (hk : k < l.length) (hy : y = l[k]) : (l.take (k + 1)).any (fun x => decide (x = s)) = ((l.take k).any (fun x => decide (x = s)) || decide (y = s)) := by
  rw [List.take_succ_eq_append_getElem hk, ← hy, List.any_append]; simp
/-- One filter. -/
theorem rdF_one {w w' : World} {f : Fil} (hw : w' = w.alloc (.cells #[vT f.name, vT f.value, .bool f.pre, .bool f.neg] 61)) :
    RdF w' w'.heap.size (.slice (some ⟨w.heap.size, 0, none⟩) 1 1) [f] := by
  have hc : ∀ i, w'.cell? ⟨w.heap.size, i, none⟩ = (#[vT f.name, vT f.value, .bool f.pre, .bool f.neg] : Array Value)[i]? := fun i => by rw [hw]; exact new_cell _ _ _ i
  refine ⟨_, 1, rfl, Nat.le_refl _, .inr ⟨_, 0, rfl, by rw [hw]; simp, fun i hi => ?_⟩⟩
  match i, hi with
  | 0, _ => exact ⟨hc _, hc _, hc _, hc _⟩
theorem sum_take {g : Str → Nat} {l : List Str} {k : Nat} (hk : k < l.length) : ((l.take (k + 1)).map g).sum = ((l.take k).map g).sum + g l[k] := by
  rw [List.take_succ_eq_append_getElem hk, List.map_append, List.sum_append]; simp
set_option maxRecDepth 100000 in
set_option maxHeartbeats 8000000 in
theorem names_law (v : Value) (l : List RowS) (nm : Str) (W : World) (T : Tabs W) (hR : RdW W W.heap.size v l) (hz : Nz v) (hs : l.length ≤ 140737488355328) :
    Calls Tryz.prog 5 #[v, vT nm] W fun e w' => e = .returned (.bool true) ∧ Below W.heap.size W w' := by
  have HT := Lib.hid T
  have KW := Lib.hid (awake_walkO W T)
  have HR := Lib.hid hR
  have HZ := Lib.hid hz
  have HS := Lib.hid hs
  obtain ⟨A, c, rfl, hc, _⟩ := hR
  obtain ⟨n, hn⟩ : ∃ n, n = l.length := ⟨_, rfl⟩
  rw [← hn] at HR HZ hs ⊢
  have HN := Lib.hid hn
  obtain ⟨xn, hxn⟩ : ∃ xn : ByteArray, xn = ⟨nm.toArray⟩ := ⟨_, rfl⟩
  have HX : Hid (vT nm = .string xn) := by show _ = _; rw [hxn]; rfl
  have hsx : xn.size = nm.length := by rw [hxn]; simp [ByteArray.size]
  rw [HX.out]
  obtain ⟨m3, hm3⟩ : ∃ m3, m3 = nm.length := ⟨_, rfl⟩
  rw [← hm3] at hsx
  clear T hc hz hn hxn hm3
  go_enter Tryz.func5, Tryz.ntmps5
  go_wp2_with fail
  refine KW.out.mono ?_
  rintro e w1 ⟨rfl, hB1⟩
  have HB1 := Lib.hid hB1
  clear hB1 KW
  obtain ⟨w2, hw2⟩ : ∃ w2, w2 = w1.alloc (.cells #[.int .i64 0, .slice A n c, .slice none 0 0, .int .i64 0] 34) := ⟨_, rfl⟩
  have KF := Lib.hid (few_walk _ _ w2 (rdA_one hw2 (HR.out.on HB1.out) HZ.out (RdF.empty w1 _) (fun n c e => by cases e; rfl)) (by intro a ha; rw [List.mem_singleton] at ha; subst ha; exact HS.out))
  have HB2 : Hid (Below W.heap.size W w2) := by show Below _ _ _; rw [hw2]; exact HB1.out.alloc HB1.out.size _
  go_wp2_with fail
  rw [← hw2]
  clear hw2 HB1
  refine KF.out.mono ?_
  rintro e w3 ⟨⟨q, rfl, hq⟩, hE3⟩
  have HB3 : Hid (Below W.heap.size W w3) := HB2.out.trans (hE3.below.mono HB2.out.size)
  have HQ := Lib.hid hq
  clear hq hE3 KF HB2
  cases q with
  | false =>
    go_wp2_with fail
    go_ret
    exact ⟨rfl, HB3.out⟩
  | true =>
    have HFA := Lib.hid (HQ.out rfl)
    clear HQ
    by_cases h16 : n ≤ 16
    case neg =>
      have g16 : ¬ (n : Int) ≤ 16 := by omega
      go_wp2_with fail
      go_ret
      exact ⟨rfl, HB3.out⟩
    by_cases h30 : m3 ≤ 30
    case neg =>
      have g16 : (n : Int) ≤ 16 := by omega
      have g30 : ¬ (m3 : Int) ≤ 30 := by omega
      go_wp2_with fail
      go_ret
      exact ⟨rfl, HB3.out⟩
    have g16 : (n : Int) ≤ 16 := by omega
    have g30 : (m3 : Int) ≤ 30 := by omega
    have HL8 : Hid (∀ r ∈ l, r.1.length ≤ 8) := (HFA.out.ok _ (List.mem_singleton.2 rfl)).2
    have Hl16 : Hid (l.length ≤ 16) := by show _ ≤ _; rw [← HN.out]; exact h16
    clear HFA
    have KN := Lib.hid (liv_new 1 1099511627776 HB3.out)
    rw [show keepN 1099511627776 = 1099511627776 by decide] at KN
    go_wp2_with fail
    refine KN.out.mono ?_
    rintro e w4 ⟨o, rfl, hV4, hB4⟩
    have KN := Lib.hid (liv_clock hV4 hB4 500)
    rw [show clkN 0 500 = 500 by decide] at KN
    clear hV4 hB4 HB3
    go_wp2_with fail
    refine KN.out.mono ?_
    rintro e w5 ⟨rfl, hV5, hB5⟩
    have KN := Lib.hid (liv_add hV5 hB5 (HR.out.below hB5) Hl16.out (by decide))
    clear hV5 hB5
    obtain ⟨R, hRd⟩ : ∃ R, R = addR 1099511627776 500 [] l := ⟨_, rfl⟩
    rw [← hRd] at KN
    have HRl : Hid (R.length ≤ 16) := by
      show _ ≤ _
      have := addR_length 1099511627776 500 [] l
      have := Hl16.out
      rw [hRd]; simp only [List.length_nil] at *; omega
    have HRL : Hid (R.length ≤ 60000) := Nat.le_trans HRl.out (by decide)
    have HFR : Hid (FewL R) := by show FewL _; rw [hRd]; exact FewL.nil.add HL8.out
    have HG : Hid (GoodR R) := by show GoodR _; rw [hRd]; exact GoodR.nil.add
    clear hRd
    go_wp2_with fail
    refine KN.out.mono ?_
    rintro e w6 ⟨rfl, hV6, hB6⟩
    have HV6 := Lib.hid hV6
    have HB6 := Lib.hid hB6
    have KS := Lib.hid (liv_search hV6 (HT.out.below hB6) (RdF.empty w6 _) 0 1099511627776 HRL.out HFR.out aw2_check)
    rw [show fromS 0 500 1099511627776 = 0 by decide] at KS
    clear hV6 hB6 KN
    go_wp2_with fail
    refine KS.out.mono ?_
    rintro e w7 ⟨va, rfl, hX7, _, hB7⟩
    obtain ⟨al, hal⟩ : ∃ al, al = tellS 1 0 1099511627776 [] R := ⟨_, rfl⟩
    rw [← hal] at hX7
    have HAL := Lib.hid hal
    have HV7 := Lib.hid (HV6.out.on hB7)
    have HB7 : Hid (Below W.heap.size W w7) := HB6.out.trans (hB7.mono HB6.out.size)
    have HX7 := Lib.hid hX7
    have KM := Lib.hid (liv_names HV7.out HRL.out HFR.out)
    clear hX7 hB7 HV6 HB6 KS hal
    go_wp2_with fail
    refine KM.out.mono ?_
    rintro e w8 ⟨vn, rfl, hX8, hB8⟩
    have HV8 := Lib.hid (HV7.out.on hB8)
    have HB8 : Hid (Below W.heap.size W w8) := HB7.out.trans (hB8.mono HB7.out.size)
    have HX8 := Lib.hid hX8
    have HX7' := Lib.hid (HX7.out.on hB8)
    have KM := liv_values HV8.out nm HRL.out HFR.out
    rw [HX.out] at KM
    have KM := Lib.hid KM
    clear hX8 hB8 HV7 HB7 HX7
    go_wp2_with fail
    refine KM.out.mono ?_
    rintro e w9 ⟨vv, rfl, hX9, hB9⟩
    have HV9 := Lib.hid (HV8.out.on hB9)
    have HB9 : Hid (Below W.heap.size W w9) := HB8.out.trans (hB9.mono HB8.out.size)
    have HX9 := Lib.hid hX9
    have HXa := HX7'.out.on hB9
    have HXn := HX8.out.on hB9
    clear hB9 HV8 HB8 HX8 HX7' KM
    obtain ⟨AA, ca, rfl, hca, hAA⟩ := HXa
    obtain ⟨AN, cn, rfl, hcn, hAN⟩ := HXn
    obtain ⟨AV, cv, rfl, hcv, hAV⟩ := hX9
    have HAA := Lib.hid hAA
    have HAN := Lib.hid hAN
    have HAV := Lib.hid hAV
    obtain ⟨na, hna⟩ : ∃ na, na = al.length := ⟨_, rfl⟩
    obtain ⟨nn, hnn⟩ : ∃ nn, nn = (namesS R).length := ⟨_, rfl⟩
    obtain ⟨nv, hnv⟩ : ∃ nv, nv = (valuesS R nm).length := ⟨_, rfl⟩
    have hna16 : na ≤ 16 := by
      rw [hna, HAL.out, tell_count HG.out]
      exact Nat.le_trans (List.countP_le_length) (Nat.le_trans (labs_length R) HRl.out)
    have hnnb : nn ≤ 60000000 := by rw [hnn]; exact namesS_few HRL.out HFR.out
    have hnvb : nv ≤ 16 := by
      have h1 := values_sum HG.out nm
      rw [← HAL.out, ← hna] at h1
      have h2 : ∀ V : List Str, (∀ v ∈ V, 0 < cntV R nm v) → V.length ≤ (V.map (cntV R nm)).sum := by
        intro V
        induction V with
        | nil => intro _; simp
        | cons v V ih =>
          intro h
          have := ih (fun x hx => h x (List.mem_cons_of_mem _ hx))
          have := h v List.mem_cons_self
          rw [List.length_cons, List.map_cons, List.sum_cons]; omega
      have h3 := h2 _ (fun v hv => (values_found HG.out nm hv).2)
      omega
    rw [← hna, ← hnn, ← hnv]
    have HNA := Lib.hid hna
    have HNN := Lib.hid hnn
    have HNV := Lib.hid hnv
    clear hca hcn hcv hAA hAN hAV hna hnn hnv HX9
    go_wp2_with fail
    go_loopw [12, 13, 14, 15] (fun iv _ _ _ wl => ∃ k : Nat, k ≤ na ∧ iv = .int .i64 k ∧ Hid (Below w9.heap.size w9 wl))
      (fun iv _ _ _ _ => na - (intOf iv).toNat)
    case atStart => exact ⟨0, Nat.zero_le _, rfl, Below.refl _ _⟩
    case round =>
      obtain ⟨k, hk, rfl, HB⟩ := hrel
      by_cases hlt : k < na
      · have hal : k < al.length := by rw [← HNA.out]; exact hlt
        obtain ⟨wo, hwo⟩ : ∃ wo, wo = wr := ⟨_, rfl⟩
        subst hwo
        rcases HAA.out with h0 | ⟨ba, oa, e, hba, hcla⟩
        · rw [h0] at hal; simp at hal
        subst e
        obtain ⟨y, hy⟩ : ∃ y, y = al[k] := ⟨_, rfl⟩
        obtain ⟨lv, sv, c0, _, hlv, _⟩ : SerAt w9 w9.heap.size ba (oa + k * 2) y := by rw [hy]; exact hcla k hal
        obtain ⟨LA, lc, rfl, _, hLA⟩ := hlv
        have HYN : Hid (∀ x ∈ y.1, x.1 ∈ namesS R) := fun x hx => names_all (x := y) (by rw [hy, ← HAL.out]; exact List.getElem_mem hal) hx
        have hyl : y.1.length ≤ 1000000 := ((tellS_few HRL.out HFR.out).2 y (by rw [hy, ← HAL.out]; exact List.getElem_mem hal)).1
        obtain ⟨ln, hln⟩ : ∃ ln, ln = y.1.length := ⟨_, rfl⟩
        rw [← hln] at c0 hyl
        have HLN := Lib.hid hln
        have HLA := Lib.hid hLA
        have KC0 : Hid (∀ w', Below w9.heap.size w9 w' → w'.cell? ⟨ba, oa + k * 2, none⟩ = some (.slice LA ln lc)) := fun w' h => (h.cell hba).trans c0
        clear c0 hy hcla hln hLA
        have i1 : (k : Int) < (na : Int) := by omega
        go_wp2_with fail
        go_loopw [13, 14, 15] (fun jv _ _ wl => ∃ j : Nat, j ≤ ln ∧ jv = .int .i64 j ∧ Hid (Below w9.heap.size w9 wl))
          (fun jv _ _ _ => ln - (intOf jv).toNat)
        case atStart => exact ⟨0, Nat.zero_le _, rfl, HB.out⟩
        case round =>
          obtain ⟨j, hj, rfl, HB2⟩ := hrel
          have d0 := KC0.out _ HB2.out
          by_cases hlj : j < ln
          · have hjl : j < y.1.length := by rw [← HLN.out]; exact hlj
            obtain ⟨wo2, hwo2⟩ : ∃ wo2, wo2 = wr := ⟨_, rfl⟩
            subst hwo2
            rcases HLA.out with h0 | ⟨bl, ol, e, hbl, hcll⟩
            · rw [h0] at hjl; simp at hjl
            subst e
            obtain ⟨x, hx⟩ : ∃ x, x = y.1[j] := ⟨_, rfl⟩
            have e0 : w9.cell? ⟨bl, ol + j * 2, none⟩ = some (vT x.1) := by rw [hx]; exact (hcll j hjl).1
            have hxn : Hid ((namesS R).any (fun z => decide (z = x.1)) = true) := by
              show _ = _
              rw [List.any_eq_true]
              exact ⟨x.1, HYN.out x (by rw [hx]; exact List.getElem_mem hjl), by simp⟩
            obtain ⟨s1, hs1⟩ : ∃ s1, s1 = x.1 := ⟨_, rfl⟩
            rw [← hs1] at e0 hxn
            obtain ⟨xb, hxb⟩ : ∃ xb : ByteArray, xb = ⟨s1.toArray⟩ := ⟨_, rfl⟩
            unfold vT at e0
            rw [← hxb] at e0
            have HXB := Lib.hid hxb
            have KC1 : Hid (∀ w', Below w9.heap.size w9 w' → w'.cell? ⟨ba, oa + k * 2, none⟩ = some (.slice (some ⟨bl, ol, none⟩) ln lc) ∧ w'.cell? ⟨bl, ol + j * 2, none⟩ = some (.string xb)) := fun w' h => ⟨KC0.out w' h, (h.cell hbl).trans e0⟩
            have i2 : (j : Int) < (ln : Int) := by omega
            clear hx hcll e0 hs1 hxb
            go_wp2_with fail
            clear d0
            go_loopw [14, 15] (fun tv qv wl => ∃ (r : Bool) (h : Nat), h ≤ nn ∧ qv = .int .i64 h ∧ tv = .bool r ∧ Hid (r = ((namesS R).take h).any (fun z => decide (z = s1))) ∧ Hid (Below w9.heap.size w9 wl))
              (fun _ qv _ => nn - (intOf qv).toNat)
            case atStart => exact ⟨false, 0, Nat.zero_le _, rfl, rfl, by rw [List.take_zero]; rfl, HB2.out⟩
            case round =>
              obtain ⟨r, h, hh, rfl, rfl, HTR, HB3⟩ := hrel
              by_cases hlh : h < nn
              · have hhl : h < (namesS R).length := by rw [← HNN.out]; exact hlh
                rcases HAN.out with h0 | ⟨bn, on, e, hbn, hcln⟩
                · rw [h0] at hhl; simp at hhl
                subst e
                obtain ⟨z, hz2⟩ : ∃ z, z = (namesS R)[h] := ⟨_, rfl⟩
                have f0 : wr.cell? ⟨bn, on + h, none⟩ = some (vT z) := by rw [hz2]; exact (HB3.out.cell hbn).trans (hcln h hhl)
                have HST := Lib.hid (any_take (s := s1) hhl hz2)
                obtain ⟨zb, hzb⟩ : ∃ zb : ByteArray, zb = ⟨z.toArray⟩ := ⟨_, rfl⟩
                obtain ⟨p, hp⟩ : ∃ p, p = decide (z = s1) := ⟨_, rfl⟩
                have hne : (zb.toList == xb.toList) = p := by rw [eq_bytes, hp, hzb, HXB.out]; simp only [str_bytes]
                rw [← hp] at HST
                unfold vT at f0
                rw [← hzb] at f0
                obtain ⟨g0, g1⟩ := KC1.out wr HB3.out
                have i3 : (h : Int) < (nn : Int) := by omega
                have HBn : Hid (∀ q, Below w9.heap.size w9 (wr.drewN q)) := fun q => HB3.out.trans (((Ext.refl wr).drewN q).below.mono HB3.out.size)
                clear hz2 hcln hzb hp
                cases r with
                | true =>
                  have HR2 : Hid (true = ((namesS R).take (h + 1)).any (fun z => decide (z = s1))) := by show _ = _; rw [HST.out, ← HTR.out]; rfl
                  clear HST HTR
                  go_wp2_with fail
                  go_quiet (fail)
                  clear g0 g1 f0
                  go_wp2_with fail
                  go_roundw
                  case rel => exact ⟨true, h + 1, by omega, by go_num, rfl, HR2.out, HBn.out _⟩
                  case measure => simp [intOf]; omega
                | false =>
                  have HR2 : Hid (p = ((namesS R).take (h + 1)).any (fun z => decide (z = s1))) := by show _ = _; rw [HST.out, ← HTR.out]; rfl
                  clear HST HTR
                  go_wp2_with fail
                  go_quiet (fail)
                  clear g0 g1 f0
                  go_wp2_with fail
                  go_roundw
                  case rel => exact ⟨p, h + 1, by omega, by go_num, rfl, HR2.out, HBn.out _⟩
                  case measure => simp [intOf]; omega
              · have hhn : h = nn := by omega
                have hrt : r = true := by
                  have := HTR.out
                  rwa [hhn, HNN.out, List.take_length, hxn.out] at this
                subst hrt
                clear HTR
                go_wp2_with fail
                go_roundw
                case rel => exact ⟨j + 1, by omega, by go_num, HB3.out⟩
                case measure => simp [intOf]; omega
          · have hjn : j = ln := by omega
            have i2 : ¬ (j : Int) < (ln : Int) := by omega
            go_wp2_with fail
            go_roundw
            case rel => exact ⟨k + 1, by omega, by go_num, HB2.out⟩
            case measure => simp [intOf]; omega
      · have hkn : ¬ (k : Int) < (na : Int) := by omega
        go_wp2_with fail
        obtain ⟨wz, hwz⟩ : ∃ wz, wz = wr := ⟨_, rfl⟩
        subst hwz
        go_loopw [16, 17, 18, 19] (fun nv' iv _ _ wl => ∃ k q : Nat, k ≤ nv ∧ q ≤ na ∧ iv = .int .i64 k ∧ nv' = .int .i64 q ∧ Hid (q = (((valuesS R nm).take k).map (cntV R nm)).sum) ∧ Hid (Below w9.heap.size w9 wl))
          (fun _ iv _ _ _ => nv - (intOf iv).toNat)
        case atStart => exact ⟨0, 0, Nat.zero_le _, Nat.zero_le _, rfl, rfl, by rw [List.take_zero]; rfl, HB.out⟩
        case round =>
          obtain ⟨k, q, hk, hqa, rfl, rfl, HQ, HB2⟩ := hrel
          have HB2W : Hid (Below W.heap.size W wr) := HB9.out.trans (HB2.out.mono HB9.out.size)
          by_cases hlt : k < nv
          · have hvl : k < (valuesS R nm).length := by rw [← HNV.out]; exact hlt
            rcases HAV.out with h0 | ⟨bv, ov, e, hbv, hclv⟩
            · rw [h0] at hvl; simp at hvl
            subst e
            obtain ⟨z, hz2⟩ : ∃ z, z = (valuesS R nm)[k] := ⟨_, rfl⟩
            have f0 : wr.cell? ⟨bv, ov + k, none⟩ = some (vT z) := by rw [hz2]; exact (HB2.out.cell hbv).trans (hclv k hvl)
            have hfd := values_found HG.out nm (v := z) (by rw [hz2]; exact List.getElem_mem hvl)
            have HQ2 : Hid (q + cntV R nm z = (((valuesS R nm).take (k + 1)).map (cntV R nm)).sum) := by show _ = _; rw [sum_take hvl, ← hz2, HQ.out]
            have hq2 : q + cntV R nm z ≤ na := by rw [HQ2.out, HNA.out, HAL.out]; exact values_part HG.out nm (k + 1)
            obtain ⟨wp, hwp⟩ : ∃ wp, wp = wr.alloc (.cells #[.string xn, vT z, .bool false, .bool false] 61) := ⟨_, rfl⟩
            have hEp : Below w9.heap.size w9 wp := by rw [hwp]; exact HB2.out.alloc HB2.out.size _
            have HEpW : Hid (Below W.heap.size W wp) := HB9.out.trans (hEp.mono HB9.out.size)
            have hrf : RdF wp wp.heap.size (.slice (some ⟨wr.heap.size, 0, none⟩) 1 1) [isF nm z] := rdF_one (f := isF nm z) (by rw [hwp, ← HX.out]; rfl)
            have KS := Lib.hid (liv_search (HV9.out.on hEp) (HT.out.below HEpW.out) hrf 0 1099511627776 HRL.out HFR.out hfd.1)
            rw [show fromS 0 500 1099511627776 = 0 by decide] at KS
            obtain ⟨cz, hcz⟩ : ∃ cz, cz = cntV R nm z := ⟨_, rfl⟩
            have hcz2 : (tellS 1 0 1099511627776 [isF nm z] R).length = cz := hcz.symm
            have hcz0 : 0 < cz := by rw [hcz]; exact hfd.2
            rw [← hcz] at HQ2 hq2
            have HCZ := Lib.hid hcz2
            have HEp := Lib.hid hEp
            unfold vT at f0 hwp
            generalize (⟨z.toArray⟩ : ByteArray) = zb at f0 hwp
            have i1 : (k : Int) < (nv : Int) := by omega
            have i2 : ¬ (cz : Int) = 0 := by omega
            have i4 : ((cz : Int) == 0) = false := by simp; omega
            have i5 : (q : Int) + (cz : Int) ≤ 16 := by omega
            clear hz2 hclv hfd hrf hcz hcz2 hEp HQ
            go_wp2_with fail
            rw [← hwp]
            clear hwp f0
            refine KS.out.mono ?_
            rintro e w11 ⟨vs, rfl, ⟨As, cs, rfl, _, _⟩, _, hB11⟩
            rw [HCZ.out]
            have HB11 : Hid (Below w9.heap.size w9 w11) := HEp.out.trans (hB11.mono HEp.out.size)
            clear hB11 KS
            go_wp2_with fail
            go_roundw
            case rel => exact ⟨k + 1, q + cz, by omega, hq2, by go_num, by go_num, HQ2.out, HB11.out⟩
            case measure => simp [intOf]; omega
          · have hkn : k = nv := by omega
            have HQ2 : Hid (q = ((valuesS R nm).map (cntV R nm)).sum) := by
              have := HQ.out
              rwa [hkn, HNV.out, List.take_length] at this
            have i1 : ¬ (k : Int) < (nv : Int) := by omega
            have i0 : (q : Int) ≤ (na : Int) := by omega
            obtain ⟨wp, hwp⟩ : ∃ wp, wp = wr.alloc (.cells #[.string xn, .string ⟨#[]⟩, .bool false, .bool false] 61) := ⟨_, rfl⟩
            have hEp : Below w9.heap.size w9 wp := by rw [hwp]; exact HB2.out.alloc HB2.out.size _
            have HEpW : Hid (Below W.heap.size W wp) := HB9.out.trans (hEp.mono HB9.out.size)
            have hrf : RdF wp wp.heap.size (.slice (some ⟨wr.heap.size, 0, none⟩) 1 1) [isF nm []] := rdF_one (f := isF nm []) (by rw [hwp, ← HX.out]; rfl)
            have KS := Lib.hid (liv_ask (HV9.out.on hEp) (HT.out.below HEpW.out) hrf 0 1099511627776 HRL.out HFR.out)
            by_cases hq0 : checkF [isF nm []] = 0
            · have hsum : Hid (q + cntV R nm [] = na) := by show _ = _; rw [HQ2.out, values_sum HG.out nm, HNA.out, HAL.out]
              have hask : (askS 1 1099511627776 500 0 1099511627776 [isF nm []] R).length = cntV R nm [] := by unfold askS; rw [if_pos hq0]; rfl
              obtain ⟨cz, hcz⟩ : ∃ cz, cz = cntV R nm [] := ⟨_, rfl⟩
              rw [← hcz] at hask hsum
              have HCZ := Lib.hid hask
              rw [hq0] at KS
              have i3 : (q : Int) + (cz : Int) = (na : Int) := by have := hsum.out; omega
              have i4 : (q : Int) + (cz : Int) ≤ 16 := by omega
              clear hq0 hask hcz hrf hsum hEp HQ
              go_wp2_with fail
              rw [← hwp]
              clear hwp
              refine KS.out.mono ?_
              rintro e w11 ⟨vs, rfl, ⟨As, cs, rfl, _, _⟩, _, hB11⟩
              rw [HCZ.out]
              have HB11 : Hid (Below W.heap.size W w11) := HEpW.out.trans (hB11.mono HEpW.out.size)
              clear hB11 KS
              go_wp2_with fail
              go_ret
              exact ⟨rfl, HB11.out⟩
            · have hq00 : q = 0 := by rw [HQ2.out, values_none HG.out nm hq0]; rfl
              subst hq00
              obtain ⟨ec, hec⟩ : ∃ ec, ec = checkF [isF nm []] := ⟨_, rfl⟩
              rw [← hec] at KS hq0
              have i3 : ((ec : Int) != 0) = true := by simp [hq0]
              have i4 : ((ec : Int) == 0) = false := by simp [hq0]
              clear hrf hEp HQ hec
              go_wp2_with fail
              rw [← hwp]
              clear hwp
              refine KS.out.mono ?_
              rintro e w11 ⟨vs, rfl, ⟨As, cs, rfl, _, _⟩, _, hB11⟩
              have HB11 : Hid (Below W.heap.size W w11) := HEpW.out.trans (hB11.mono HEpW.out.size)
              generalize (askS 1 1099511627776 500 0 1099511627776 [isF nm []] R).length = m9
              clear hB11 KS
              go_wp2_with fail
              go_ret
              exact ⟨rfl, HB11.out⟩
end Go.Proofs.YtkgcbeokfilehaaGreatDoor

/-
  A series that is gathered: its cells, its samples.
-/
namespace Go.Proofs.YtkgcbeokfilehaaGreatDoor
open Go.RowKit Go.Sort Go.Maps
/-- Of block wi's end on: the series' cells, its samples; all else stands. -/
structure Gth (wi w : World) (lv sv : Value) (l : List Smp) : Prop where
  below : Below wi.heap.size wi w
  blk : w.heap[wi.heap.size]? = some (.cells #[lv, sv] 52 (0, 0))
  own : Own w wi.heap.size 54 sv l
theorem Gth.made (wi : World) (lv : Value) : Gth wi (wi.alloc (.cells #[lv, .slice none 0 0] 52)) lv (.slice none 0 0) [] :=
  ⟨(Below.refl _ _).alloc (Nat.le_refl _) _, heap_alloc_new _ _, Own.nil _ _ _⟩
theorem Gth.lt {wi w : World} {lv sv : Value} {l : List Smp} (h : Gth wi w lv sv l) : wi.heap.size < w.heap.size := (Array.getElem?_eq_some_iff.1 h.blk).1
theorem Gth.ne {wi w : World} {lv sv : Value} {l : List Smp} (h : Gth wi w lv sv l) : sv.ownBlock ≠ some wi.heap.size := by
  intro e
  obtain ⟨cur, hcur⟩ := owns_tag h.own e
  exact absurd (lit_ty w h.blk hcur) (by decide)
theorem Gth.cell {wi w : World} {lv sv : Value} {l : List Smp} (h : Gth wi w lv sv l) : w.cell? ⟨wi.heap.size, 0, none⟩ = some lv ∧ w.cell? ⟨wi.heap.size, 1, none⟩ = some sv ∧ w.frozen? ⟨wi.heap.size, 1, none⟩ = false := by
  refine ⟨by simp [World.cell?, h.blk], by simp [World.cell?, h.blk], ?_⟩
  simp [World.frozen?, h.blk]
theorem Gth.on {wi w w' : World} {lv sv : Value} {l : List Smp} (h : Gth wi w lv sv l) (k : Below w.heap.size w w') : Gth wi w' lv sv l :=
  ⟨h.below.trans (k.mono h.below.size), (k.block _ h.lt).trans h.blk, below_owns k h.own⟩
theorem Gth.push {wi w wa w6 : World} {lv sv v' : Value} {l : List Smp} {y : Smp} (h : Gth wi w lv sv l) (hga : w.grownBy wa none) (hg : wa.grownBy w6 sv.ownBlock) (ho : Own w6 wi.heap.size 54 v' (l ++ [y])) :
    Gth wi (w6.setCell ⟨wi.heap.size, 1, none⟩ v') lv v' (l ++ [y]) := by
  have b1 : w6.heap[wi.heap.size]? = some (.cells #[lv, sv] 52 (0, 0)) :=
    (hg.block _ (Nat.lt_of_lt_of_le h.lt hga.size) (Ne.symm h.ne)).trans ((hga.block _ h.lt (by simp)).trans h.blk)
  have hlt := World.ownsRow.lt h.own
  have k1 : Below wi.heap.size wi w6 := by
    refine h.below.trans ⟨hg.os.trans hga.os, hg.tape.trans hga.tape, hg.output.trans hga.output, Nat.le_trans hga.size hg.size, fun i hi => ?_⟩
    have hi2 : i < w.heap.size := Nat.lt_trans hi h.lt
    exact (hg.block i (Nat.lt_of_lt_of_le hi2 hga.size) (fun e => by have := (hlt i e.symm).1; omega)).trans (hga.block i hi2 (by simp))
  have hb2 : ∀ x, x ≠ wi.heap.size → (w6.setCell ⟨wi.heap.size, 1, none⟩ v').heap[x]? = w6.heap[x]? := fun x hx => RowKit.Below.heap_setCell w6 _ v' x hx
  refine ⟨k1.trans ((Chg.setCell w6 ⟨wi.heap.size, 1, none⟩ v').below k1.size (fun x hx => by rw [hx]; exact Nat.le_refl _)), ?_, owns_same ho fun g hg2 => hb2 g ?_⟩
  · have := heap_setCell_same w6 wi.heap.size 1 _ _ v' b1
    simpa using this
  · rintro rfl
    obtain ⟨cur, hcur⟩ := owns_tag ho hg2
    exact absurd (lit_ty w6 b1 hcur) (by decide)
/-- An oracle all of which lies in blocks from W on, below N. -/
def LivN (W : World) (N : Nat) (w : World) (o : Nat) (every keep now : Int) (R : Told) : Prop := ∃ S B b X, Orc w S B o b every keep now X R ∧ S b ∧ W.heap.size ≤ B ∧ ∀ k, S k → k < N
theorem Liv.at_ {W w : World} {o : Nat} {every keep now : Int} {R : Told} (h : Liv W w o every keep now R) : LivN W w.heap.size w o every keep now R := by
  obtain ⟨S, B, b, X, h1, h2, h3⟩ := h
  exact ⟨S, B, b, X, h1, h2, h3, fun k hk => (h1.lt hk).2⟩
theorem LivN.liv {W w : World} {N o : Nat} {every keep now : Int} {R : Told} (h : LivN W N w o every keep now R) : Liv W w o every keep now R := by
  obtain ⟨S, B, b, X, h1, h2, h3, _⟩ := h
  exact ⟨S, B, b, X, h1, h2, h3⟩
theorem LivN.on {W w w' : World} {N o : Nat} {every keep now : Int} {R : Told} (h : LivN W N w o every keep now R) (k : Below w.heap.size w w') : LivN W N w' o every keep now R := by
  obtain ⟨S, B, b, X, h1, h2, h3, h4⟩ := h
  exact ⟨S, B, b, X, h1.on k, h2, h3, h4⟩
/-- What lies from block N on stands. -/
structure Since (N : Nat) (w w' : World) : Prop where
  size : w.heap.size ≤ w'.heap.size
  block : ∀ g, N ≤ g → g < w.heap.size → w'.heap[g]? = w.heap[g]?
theorem livN_clock {W w : World} {N o : Nat} {every keep now : Int} {R : Told} (h : LivN W N w o every keep now R) (hB : Below W.heap.size W w) (x : Int) :
    Calls Tryz.prog 12 #[.pointer (some ⟨o, 0, none⟩), .int .i64 x] w fun e w' => e = .returned (.tuple #[]) ∧ LivN W N w' o every keep (clkN now x) R ∧ Since N w w' ∧ Below W.heap.size W w' := by
  obtain ⟨S, B, b, X, h1, h2, h3, h4⟩ := h
  exact (clock_walk h1 x).mono fun _ _ ⟨k1, k2, k3⟩ => ⟨k1, ⟨S, B, b, X, k2, h2, h3, h4⟩, ⟨k3.size, fun g hg hl => k3.block g hl (fun e => by have := h4 g e; omega)⟩, hB.trans (k3.far (fun k hk => (h1.lt hk).1) h3 hB.size)⟩
theorem OutV.since {w w' : World} {B N : Nat} {v : Value} {xs : List SerV} (h : OutV w B v xs) (k : Since N w w') (hN : N ≤ B) : OutV w' B v xs := by
  have hk : ∀ {e s n : Nat} {u : Value} {ys : List Value}, w.ownsRow B e s u n ys → w'.ownsRow B e s u n ys := fun ho =>
    owns_same ho fun g hg => by
      have := World.ownsRow.lt ho g hg
      exact k.block g (by omega) this.2
  exact ⟨hk h.row, fun x hx => ⟨hk (h.rd x hx).1, hk (h.rd x hx).2⟩⟩
theorem OutV.lower {w : World} {B B' : Nat} {v : Value} {xs : List SerV} (h : OutV w B v xs) (k : B' ≤ B) : OutV w B' v xs := by
  have hk : ∀ {e s n : Nat} {u : Value} {ys : List Value}, w.ownsRow B e s u n ys → w.ownsRow B' e s u n ys := fun ho =>
    ⟨ho.1, ho.2.imp id fun ⟨g, cap, cur, hv, hg, r⟩ => ⟨g, cap, cur, hv, Nat.le_trans k hg, r⟩⟩
  exact ⟨hk h.row, fun x hx => ⟨hk (h.rd x hx).1, hk (h.rd x hx).2⟩⟩
end Go.Proofs.YtkgcbeokfilehaaGreatDoor
