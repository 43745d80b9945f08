/-
  eskerlaw20.OracleOld.
-/
import Derived.Test.YtkgcbeokfilehaaGreatDoorWqk
import Derived.Test.YtkgcbeokfilehaaGreatDoorVtk
import Derived.Test.YtkgcbeokfilehaaGreatDoorRgnk
import Derived.Test.YtkgcbeokfilehaaGreatDoorWbk
import Derived.Deep.RegionHeld3
import Derived.Deep.DrawnRows
namespace Go.Proofs.YtkgcbeokfilehaaGreatDoor
open Go.RowKit Go.Sort Go.Maps
attribute [local go_sem ↓] Go.wp_at_zero Go.wp_at_succ
/-- Those later than q. -/
def lateS (q : Int) (l : List Smp) : List Smp := l.filter (fun s => decide (q < s.1))
theorem late_take {q : Int} {l : List Smp} {k : Nat} {y : Smp} (hk : k < l.length) (hy : y = l[k]) : lateS q (l.take (k + 1)) = lateS q (l.take k) ++ if q < y.1 then [y] else [] := by
  unfold lateS
  rw [List.take_succ_eq_append_getElem hk, ← hy, List.filter_append]
  by_cases h : q < y.1 <;> simp [h]
theorem want_take {q : Int} {l : List Ser} {k : Nat} {y : Ser} (hk : k < l.length) (hy : y = l[k]) : wantS q (l.take (k + 1)) = wantS q (l.take k) ++ if lateS q y.2 = [] then [] else [(y.1, lateS q y.2)] := by
  rw [List.take_succ_eq_append_getElem hk, ← hy, wantS_snoc]; rfl
theorem old_tell {keep later : Int} (hk : 1 ≤ keep) (hl : 0 ≤ later) (R : Told) : tellS 1 (fromS 0 (200 + later) keep) 1099511627776 [] R = wantS (200 + later - keep) (tellS 1 (fromS 0 200 keep) 1099511627776 [] R) :=
  tell_later (fun T => by unfold fromS; omega) [] R
set_option maxRecDepth 100000 in
set_option maxHeartbeats 8000000 in
theorem old_law (v : Value) (l : List RowS) (keep later : Int) (W : World) (T : Tabs W) (hR : RdW W W.heap.size v l) (hz : Nz v) (hs : l.length ≤ 140737488355328) (_ : (Lit.int .i64 keep).wf = true) (_ : (Lit.int .i64 later).wf = true) :
    Calls Tryz.prog 4 #[v, .int .i64 keep, .int .i64 later] W fun e w' => e = .returned (.bool true) ∧ Below W.heap.size W w' := by
  have HT := Lib.hid T
  have KW := Lib.hid (awake_walkO W T)
  have HR := Lib.hid hR
  have HZ := Lib.hid hz
  have HS := Lib.hid hs
  obtain ⟨A, c, rfl, hc, _⟩ := hR
  obtain ⟨n, hn⟩ : ∃ n, n = l.length := ⟨_, rfl⟩
  rw [← hn] at HR HZ hs ⊢
  have HN := Lib.hid hn
  clear T hc hz hn
  go_enter Tryz.func4, Tryz.ntmps4
  go_wp2_with fail
  refine KW.out.mono ?_
  rintro e w1 ⟨rfl, hB1⟩
  have HB1 := Lib.hid hB1
  clear hB1 KW
  obtain ⟨w2, hw2⟩ : ∃ w2, w2 = w1.alloc (.cells #[.int .i64 0, .slice A n c, .slice none 0 0, .int .i64 0] 34) := ⟨_, rfl⟩
  have KF := Lib.hid (few_walk _ _ w2 (rdA_one hw2 (HR.out.on HB1.out) HZ.out (RdF.empty w1 _) (fun n c e => by cases e; rfl)) (by intro a ha; rw [List.mem_singleton] at ha; subst ha; exact HS.out))
  have HB2 : Hid (Below W.heap.size W w2) := by show Below _ _ _; rw [hw2]; exact HB1.out.alloc HB1.out.size _
  go_wp2_with fail
  rw [← hw2]
  clear hw2 HB1
  refine KF.out.mono ?_
  rintro e w3 ⟨⟨q, rfl, hq⟩, hE3⟩
  have HB3 : Hid (Below W.heap.size W w3) := HB2.out.trans (hE3.below.mono HB2.out.size)
  have HQ := Lib.hid hq
  clear hq hE3 KF HB2
  cases q with
  | false =>
    go_wp2_with fail
    go_ret
    exact ⟨rfl, HB3.out⟩
  | true =>
    have HFA := Lib.hid (HQ.out rfl)
    clear HQ
    by_cases h16 : n ≤ 16
    case neg =>
      have g16 : ¬ (n : Int) ≤ 16 := by omega
      go_wp2_with fail
      go_ret
      exact ⟨rfl, HB3.out⟩
    have g16 : (n : Int) ≤ 16 := by omega
    by_cases hk1 : 1 ≤ keep
    case neg =>
      go_wp2_with fail
      go_ret
      exact ⟨rfl, HB3.out⟩
    by_cases hk2 : keep ≤ 100000
    case neg =>
      go_wp2_with fail
      go_ret
      exact ⟨rfl, HB3.out⟩
    by_cases hl1 : 0 ≤ later
    case neg =>
      go_wp2_with fail
      go_ret
      exact ⟨rfl, HB3.out⟩
    by_cases hl2 : later ≤ 100000
    case neg =>
      go_wp2_with fail
      go_ret
      exact ⟨rfl, HB3.out⟩
    have HL8 : Hid (∀ r ∈ l, r.1.length ≤ 8) := (HFA.out.ok _ (List.mem_singleton.2 rfl)).2
    have Hl16 : Hid (l.length ≤ 16) := by show _ ≤ _; rw [← HN.out]; exact h16
    clear HFA
    have KN := Lib.hid (liv_new 1 keep HB3.out)
    rw [show keepN keep = keep by unfold keepN; omega] at KN
    go_wp2_with fail
    refine KN.out.mono ?_
    rintro e w4 ⟨o, rfl, hV4, hB4⟩
    have KN := Lib.hid (liv_clock hV4 hB4 200)
    rw [show clkN 0 200 = 200 by decide] at KN
    clear hV4 hB4 HB3
    go_wp2_with fail
    refine KN.out.mono ?_
    rintro e w5 ⟨rfl, hV5, hB5⟩
    have KN := Lib.hid (liv_add hV5 hB5 (HR.out.below hB5) Hl16.out (by decide))
    clear hV5 hB5
    obtain ⟨R, hRd⟩ : ∃ R, R = addR keep 200 [] l := ⟨_, rfl⟩
    rw [← hRd] at KN
    have HRl : Hid (R.length ≤ 16) := by
      show _ ≤ _
      have := addR_length keep 200 [] l
      have := Hl16.out
      rw [hRd]; simp only [List.length_nil] at *; omega
    have HRL : Hid (R.length ≤ 60000) := Nat.le_trans HRl.out (by decide)
    have HFR : Hid (FewL R) := by show FewL _; rw [hRd]; exact FewL.nil.add HL8.out
    clear hRd
    go_wp2_with fail
    refine KN.out.mono ?_
    rintro e w6 ⟨rfl, hV6, hB6⟩
    have HV6 := Lib.hid hV6
    have HB6 := Lib.hid hB6
    have KS := Lib.hid (liv_searchV hV6 (HT.out.below hB6) (RdF.empty w6 _) 0 1099511627776 HRL.out HFR.out aw2_check)
    clear hV6 hB6 KN
    go_wp2_with fail
    refine KS.out.mono ?_
    rintro e w7 ⟨va, xa, rfl, hX7, hxa, hB7⟩
    obtain ⟨al, hal⟩ : ∃ al, al = tellS 1 (fromS 0 200 keep) 1099511627776 [] R := ⟨_, rfl⟩
    rw [← hal] at hxa
    have HAL := Lib.hid hal
    have HXA := Lib.hid hxa
    have HB67 := Lib.hid hB7
    have HB7 : Hid (Below W.heap.size W w7) := HB6.out.trans (hB7.mono HB6.out.size)
    have HX7 := Lib.hid hX7
    have HS67 := Lib.hid hB7.size
    clear hX7 hB7 KS hal hxa
    -- FROM HERE (genold.py)
    have HVN := Lib.hid (HV6.out.at_)
    have HVN7 := Lib.hid (HVN.out.on HB67.out)
    have KN := Lib.hid (livN_clock HVN7.out HB7.out (200 + later))
    rw [show clkN 200 (200 + later) = 200 + later by unfold clkN; omega] at KN
    clear HV6 HVN HVN7 HB67
    go_wp2_with fail
    refine KN.out.mono ?_
    rintro e w8 ⟨rfl, hV8, hS8, hB8⟩
    have HX8 := Lib.hid (HX7.out.since hS8 (Nat.le_refl _))
    have HV8 := Lib.hid hV8
    have HB8 := Lib.hid hB8
    have KS := Lib.hid (liv_searchV hV8.liv (HT.out.below hB8) (RdF.empty w8 _) 0 1099511627776 HRL.out HFR.out aw2_check)
    rw [old_tell hk1 hl1] at KS
    rw [← HAL.out] at KS
    have HS8 : Hid (w6.heap.size ≤ w8.heap.size) := Nat.le_trans HS67.out hS8.size
    clear hV8 hS8 hB8 KN HX7 HB7
    go_wp2_with fail
    refine KS.out.mono ?_
    rintro e w9 ⟨vb, xb, rfl, hX9, hxb, hB9⟩
    have HY9 := Lib.hid hX9
    have HXB := Lib.hid hxb
    have HX9 := Lib.hid (HX8.out.on hB9)
    have HV9 := Lib.hid (HV8.out.on hB9)
    have HB9 : Hid (Below W.heap.size W w9) := HB8.out.trans (hB9.mono HB8.out.size)
    have HS9 : Hid (w6.heap.size ≤ w9.heap.size) := Nat.le_trans HS8.out hB9.size
    have KN := Lib.hid (livN_clock HV9.out HB9.out 5)
    rw [show clkN (200 + later) 5 = 200 + later by unfold clkN; omega] at KN
    clear hX9 hxb hB9 HX8 HV8 HB8 KS
    go_wp2_with fail
    refine KN.out.mono ?_
    rintro e w10 ⟨rfl, hV10, hS10, hB10⟩
    have HX10 := Lib.hid (HX9.out.since hS10 (Nat.le_refl _))
    have HY10 := Lib.hid (HY9.out.since hS10 HS8.out)
    have HV10 := Lib.hid hV10
    have HB10 := Lib.hid hB10
    have HS10 : Hid (w6.heap.size ≤ w10.heap.size) := Nat.le_trans HS9.out hS10.size
    have KS := Lib.hid (liv_searchV hV10.liv (HT.out.below hB10) (RdF.empty w10 _) 0 1099511627776 HRL.out HFR.out aw2_check)
    rw [old_tell hk1 hl1] at KS
    rw [← HAL.out] at KS
    clear hV10 hS10 hB10 KN HX9 HY9 HV9 HB9
    go_wp2_with fail
    refine KS.out.mono ?_
    rintro e wz ⟨vc, xc, rfl, hXz, hxc, hBz⟩
    have HYb := Lib.hid (HY10.out.on hBz).rdX
    have HYc := Lib.hid hXz.rdX
    rw [HXB.out] at HYb
    rw [hxc] at HYc
    have hXa := HX10.out.on hBz
    have HVz := Lib.hid (HV10.out.on hBz).liv
    have HBz : Hid (Below W.heap.size W wz) := HB10.out.trans (hBz.mono HB10.out.size)
    obtain ⟨qq, hqq⟩ : ∃ qq, qq = 200 + later - keep := ⟨_, rfl⟩
    have HQQ := Lib.hid hqq
    rw [← hqq] at HYb HYc
    have HALF : Hid (FewX al) := by show FewX _; rw [HAL.out]; exact tellS_few HRL.out HFR.out
    have hnal : al.length ≤ 16 := by
      rw [HAL.out]
      unfold tellS
      rw [List.length_map]
      exact Nat.le_trans (List.length_filter_le _ _) (Nat.le_trans (labs_length R) HRl.out)
    obtain ⟨AA, ca, rfl, hca, hAA⟩ := hXa.cells
    have hxal : xa.length = al.length := by rw [← HXA.out]; simp [cutV]
    obtain ⟨na, hna⟩ : ∃ na, na = xa.length := ⟨_, rfl⟩
    have hna16 : na ≤ 16 := by omega
    have HXa := Lib.hid (hXa.lower (show W.heap.size ≤ w6.heap.size from HB6.out.size))
    rw [← hna] at HXa ⊢
    have HAA := Lib.hid hAA
    have HNA := Lib.hid hna
    have HNL : Hid (na = al.length) := hna.trans hxal
    have HS10z := Lib.hid hBz.size
    clear hXz hxc hBz HX10 HY10 HV10 HB10 KS hXa hca hAA hxal hna hqq hnal
    have KS9 : Hid (∀ w', Below wz.heap.size wz w' → Below W.heap.size W w') := fun w' h => HBz.out.trans (h.mono HBz.out.size)
    go_wp2_with fail
    go_loopw [16, 17, 18, 19] (fun wv iv _ _ wl => ∃ (k : Nat) (xs : List SerV), k ≤ na ∧ iv = .int .i64 k ∧ Hid (OutV wl W.heap.size wv xs) ∧ Hid (cutV xs = wantS qq (al.take k)) ∧ Hid (∀ g, wv.ownBlock = some g → wz.heap.size ≤ g) ∧ Hid (Below wz.heap.size wz wl))
      (fun _ iv _ _ _ => na - (intOf iv).toNat)
    case atStart => exact ⟨0, [], Nat.zero_le _, rfl, OutV.nil _ _, (by show cutV [] = wantS qq (al.take 0); rw [List.take_zero]; rfl), (fun g e => by cases e), Below.refl _ _⟩
    case round =>
      obtain ⟨k, xs, hk, rfl, HO, HC, HW, HB⟩ := hrel
      by_cases hlt : k < na
      · have hkx : k < xa.length := by rw [← HNA.out]; exact hlt
        have hka : k < al.length := by rw [← HNL.out]; exact hlt
        obtain ⟨wi, hwi⟩ : ∃ wi, wi = wr := ⟨_, rfl⟩
        subst hwi
        rcases HAA.out with h0 | ⟨ga, e, hga0, hcla⟩
        · rw [h0] at hkx; simp at hkx
        subst e
        obtain ⟨ev, hev⟩ : ∃ ev, ev = xa[k] := ⟨_, rfl⟩
        obtain ⟨e0, e1⟩ := hcla k hkx
        rw [← hev] at e0 e1
        have hmem : ev ∈ xa := by rw [hev]; exact List.getElem_mem hkx
        obtain ⟨hoL, hoS⟩ := HXa.out.rd ev hmem
        obtain ⟨lv, sa, y⟩ := ev
        have hy : y = al[k] := by
          have h1 : (cutV xa)[k]'(by rw [HXA.out]; exact hka) = y := by unfold cutV; rw [List.getElem_map, ← hev]
          rw [← h1]; simp only [HXA.out]
        have hyf := HALF.out.2 y (by rw [hy]; exact List.getElem_mem hka)
        have HWT := Lib.hid (want_take (q := qq) hka hy)
        rw [Nat.zero_add] at e0 e1
        have e0 : wz.cell? ⟨ga, k * 2, none⟩ = some lv := e0
        have E1 : wz.cell? ⟨ga, k * 2 + 1, none⟩ = some sa := e1
        clear e1
        have hoS2 : Rd wz wz.heap.size sa y.2 := hoS.rd
        have HOL := Lib.hid (hoL.below HB.out)
        obtain ⟨AS, cs, rfl, _, hAS⟩ := hoS2
        obtain ⟨m, hm⟩ : ∃ m, m = y.2.length := ⟨_, rfl⟩
        rw [← hm] at E1
        have HM := Lib.hid hm
        have HAS := Lib.hid hAS
        have hm6 : m ≤ 1000000 := by rw [hm]; exact hyf.2
        obtain ⟨LA, lc, hlv, _, _⟩ := hoL.rd
        obtain ⟨ln, hln⟩ : ∃ ln, ln = y.1.length := ⟨_, rfl⟩
        rw [← hln] at hlv
        subst hlv
        clear hln
        have c0 : wi.cell? ⟨ga, k * 2, none⟩ = some (Value.slice LA ln lc) := (HB.out.cell hga0).trans e0
        have KC : Hid (∀ w', Below wi.heap.size wi w' → w'.cell? ⟨ga, k * 2 + 1, none⟩ = some (.slice AS m cs)) := fun w' h => (h.cell (Nat.lt_of_lt_of_le hga0 HB.out.size)).trans ((HB.out.cell hga0).trans E1)
        have HGAL : Hid (ga < wi.heap.size) := Nat.lt_of_lt_of_le hga0 HB.out.size
        have i1 : (k : Int) < (na : Int) := by omega
        obtain ⟨ws, hws⟩ : ∃ ws, ws = wi.alloc (.cells #[(Value.slice LA ln lc), .slice none 0 0] 52) := ⟨_, rfl⟩
        have HG0 : Hid (Gth wi ws (Value.slice LA ln lc) (.slice none 0 0) []) := by show Gth _ _ _ _ _; rw [hws]; exact Gth.made wi (Value.slice LA ln lc)
        clear hev hmem hoL hoS hy hyf hm hAS hcla e0 E1
        go_wp2_with fail
        rw [← hws]
        clear hws c0
        go_loopw [19] (fun kv wl => ∃ (j : Nat) (sv : Value) (l1 : List Smp), j ≤ m ∧ kv = .int .i64 j ∧ Hid (l1 = lateS qq (y.2.take j)) ∧ Hid (Gth wi wl (Value.slice LA ln lc) sv l1))
          (fun kv _ => m - (intOf kv).toNat)
        case atStart => exact ⟨0, _, _, Nat.zero_le _, rfl, (by show [] = lateS qq (y.2.take 0); rw [List.take_zero]; rfl), HG0.out⟩
        case round =>
          obtain ⟨j, sv, l1, hj, rfl, HL, HG⟩ := hrel
          have d0 := KC.out _ HG.out.below
          by_cases hlj : j < m
          · have hjl : j < y.2.length := by rw [← HM.out]; exact hlj
            rcases HAS.out with h0 | ⟨bs, os, e, hbs, hcls⟩
            · rw [h0] at hjl; simp at hjl
            subst e
            obtain ⟨s, hs⟩ : ∃ s, s = y.2[j] := ⟨_, rfl⟩
            have HBSL : Hid (bs < wi.heap.size) := Nat.lt_of_lt_of_le hbs HB.out.size
            obtain ⟨d1, d2, d3, d4⟩ : Cell4 wr bs (os + j * 4) s := by rw [hs]; exact ((hcls j hjl).below HB.out hbs).below HG.out.below HBSL.out
            have HLT := late_take (q := qq) hjl hs
            rw [← HL.out] at HLT
            have HLL : Hid (l1.length ≤ 1000000) := by
              show _ ≤ _
              rw [HL.out]
              unfold lateS
              exact Nat.le_trans (List.length_filter_le _ _) (by rw [List.length_take]; omega)
            have HLT := Lib.hid HLT
            obtain ⟨yt, ym, yx, ys⟩ := s
            clear hs hcls
            dsimp only at d1 d2 d3 d4 HLT
            have i2 : (j : Int) < (m : Int) := by omega
            by_cases hyq : qq < yt
            · have HL1 : Hid (l1 ++ [(yt, ym, yx, ys)] = lateS qq (y.2.take (j + 1))) := by show _ = _; rw [HLT.out, if_pos hyq]
              have hcmp : 200 + later - keep < yt := by rw [← HQQ.out]; exact hyq
              clear HLT
              go_wp2_with fail
              have q1 := HG.out.cell.2.1
              have f1 : wr.drew.cell? ⟨wi.heap.size, 1, none⟩ = some sv := q1
              have r0 : wr.drew.cell? ⟨ga, k * 2 + 1, none⟩ = some (.slice (some ⟨bs, os, none⟩) m cs) := d0
              have r1 : wr.drew.cell? ⟨bs, os + j * 4, none⟩ = some (.int .i64 yt) := d1
              have r2 : wr.drew.cell? ⟨bs, os + j * 4 + 1, none⟩ = some (.int .i64 ym) := d2
              have r3 : wr.drew.cell? ⟨bs, os + j * 4 + 2, none⟩ = some (.int .i64 yx) := d3
              have r4 : wr.drew.cell? ⟨bs, os + j * 4 + 3, none⟩ = some (.int .i64 ys) := d4
              obtain ⟨wa, hwa⟩ : ∃ wa, wa = (wr.alloc (.cells #[.int .i64 yt, .int .i64 ym, .int .i64 yx, .int .i64 ys] 54)).drew := ⟨_, rfl⟩
              have hga : wr.grownBy wa none := by rw [hwa]; exact (World.grownBy_alloc wr (.cells #[.int .i64 yt, .int .i64 ym, .int .i64 yx, .int .i64 ys] 54) none).andThen (c := (wr.alloc (.cells #[.int .i64 yt, .int .i64 ym, .int .i64 yx, .int .i64 ys] 54)).drew) (row' := none) ⟨rfl, rfl, rfl, Nat.le_refl _, fun _ _ _ => rfl⟩ (fun j e => by cases e)
              have hsa : wa.heap.size = wr.heap.size + 1 := by rw [hwa]; simp
              have hglt := HG.out.lt
              have HLT1 : Hid (ga < wa.heap.size) := by show _ < _; have := HGAL.out; omega
              have HLT2 : Hid (bs < wa.heap.size) := by show _ < _; have := HBSL.out; omega
              have HLT3 : Hid (wi.heap.size < wa.heap.size) := by show _ < _; omega
              have hown := World.ownsRow.lt HG.out.own
              have HNE1 : Hid (some ga ≠ sv.ownBlock) := fun e => by have := (hown ga e.symm).1; have := HGAL.out; omega
              have HNE2 : Hid (some bs ≠ sv.ownBlock) := fun e => by have := (hown bs e.symm).1; have := HBSL.out; omega
              have HNE3 : Hid (some wi.heap.size ≠ sv.ownBlock) := Ne.symm HG.out.ne
              have HNG1 : Hid (ga ≠ wi.heap.size) := fun e => by have := HGAL.out; omega
              have HNG2 : Hid (bs ≠ wi.heap.size) := fun e => by have := HBSL.out; omega
              have f2 : wa.cell? ⟨wi.heap.size, 1, none⟩ = some sv := (hga.cell_far _ hglt (by simp)).trans q1
              have v0 : wa.cell? ⟨ga, k * 2 + 1, none⟩ = some (.slice (some ⟨bs, os, none⟩) m cs) := (hga.cell_far _ (by first | exact (Nat.lt_trans HGAL.out hglt) | exact (Nat.lt_trans HBSL.out hglt)) (by simp)).trans d0
              have v1 : wa.cell? ⟨bs, os + j * 4, none⟩ = some (.int .i64 yt) := (hga.cell_far _ (by first | exact (Nat.lt_trans HGAL.out hglt) | exact (Nat.lt_trans HBSL.out hglt)) (by simp)).trans d1
              have v2 : wa.cell? ⟨bs, os + j * 4 + 1, none⟩ = some (.int .i64 ym) := (hga.cell_far _ (by first | exact (Nat.lt_trans HGAL.out hglt) | exact (Nat.lt_trans HBSL.out hglt)) (by simp)).trans d2
              have v3 : wa.cell? ⟨bs, os + j * 4 + 2, none⟩ = some (.int .i64 yx) := (hga.cell_far _ (by first | exact (Nat.lt_trans HGAL.out hglt) | exact (Nat.lt_trans HBSL.out hglt)) (by simp)).trans d3
              have v4 : wa.cell? ⟨bs, os + j * 4 + 3, none⟩ = some (.int .i64 ys) := (hga.cell_far _ (by first | exact (Nat.lt_trans HGAL.out hglt) | exact (Nat.lt_trans HBSL.out hglt)) (by simp)).trans d4
              have HOA : Hid (Own wa wi.heap.size 54 sv l1) := owns_same HG.out.own fun g hg2 => hga.block g (hown g hg2).2 (by simp)
              have HCA : Hid (Cell4 wa wr.heap.size 0 (yt, ym, yx, ys)) := by show Cell4 _ _ _ _; rw [hwa]; exact Cell4.new wr (yt, ym, yx, ys) _ _ rfl
              have HLA : Hid ((l1.length + 1) * 32 ≤ 140737488355328) := by show _ ≤ _; have := HLL.out; omega
              have HBA : Hid (wi.heap.size ≤ wa.heap.size) := Nat.le_of_lt HLT3.out
              have HGA := Lib.hid hga
              have hr0 : wr.drew.cell? ⟨ga, k * 2 + 1, none⟩ = some (.slice (some ⟨bs, os, none⟩) m cs) ∧ wr.drew.cell? ⟨bs, os + j * 4, none⟩ = some (.int .i64 yt) ∧ wr.drew.cell? ⟨bs, os + j * 4 + 1, none⟩ = some (.int .i64 ym) ∧ wr.drew.cell? ⟨bs, os + j * 4 + 2, none⟩ = some (.int .i64 yx) ∧ wr.drew.cell? ⟨bs, os + j * 4 + 3, none⟩ = some (.int .i64 ys) := ⟨r0, r1, r2, r3, r4⟩
              have hra : wa.cell? ⟨ga, k * 2 + 1, none⟩ = some (.slice (some ⟨bs, os, none⟩) m cs) ∧ wa.cell? ⟨bs, os + j * 4, none⟩ = some (.int .i64 yt) ∧ wa.cell? ⟨bs, os + j * 4 + 1, none⟩ = some (.int .i64 ym) ∧ wa.cell? ⟨bs, os + j * 4 + 2, none⟩ = some (.int .i64 yx) ∧ wa.cell? ⟨bs, os + j * 4 + 3, none⟩ = some (.int .i64 ys) := ⟨v0, v1, v2, v3, v4⟩
              have f3 : (wr.alloc (.cells #[.int .i64 yt, .int .i64 ym, .int .i64 yx, .int .i64 ys] 54)).drew.cell? ⟨wi.heap.size, 1, none⟩ = some sv := by rw [← hwa]; exact f2
              have HWA := Lib.hid hwa
              clear hga hown hwa hsa hglt q1 d0 d1 d2 d3 d4
              go_wp2_with fail
              refine wp_region_held_drew (S := fun w' => w'.cell? ⟨ga, k * 2 + 1, none⟩ = some (.slice (some ⟨bs, os, none⟩) m cs) ∧ w'.cell? ⟨bs, os + j * 4, none⟩ = some (.int .i64 yt) ∧ w'.cell? ⟨bs, os + j * 4 + 1, none⟩ = some (.int .i64 ym) ∧ w'.cell? ⟨bs, os + j * 4 + 2, none⟩ = some (.int .i64 yx) ∧ w'.cell? ⟨bs, os + j * 4 + 3, none⟩ = some (.int .i64 ys)) (by kernel_rfl) ?_ (fun hHeld => ?_)
              · exact hr0
              refine takeW (i := 0) (v := ?_) rfl (by kernel_rfl) (by kernel_rfl) (by kernel_rfl) (fun _ _ _ h => h) (by rfl) ?_ (by assumption) ?_
              rotate_left
              · (intro w hSw; (try dsimp only at hSw); go_simp; try with_reducible rfl)
              simp only [Act.put, List.setIfInBounds_toArray, List.set_cons_zero, List.set_cons_succ]
              refine takeW (i := 2) (v := ?_) rfl (by kernel_rfl) (by kernel_rfl) (by kernel_rfl) (fun _ _ _ h => h) (by rfl) ?_ (by assumption) ?_
              rotate_left
              · (intro w hSw; (try dsimp only at hSw); go_simp; try with_reducible rfl)
              simp only [Act.put, List.setIfInBounds_toArray, List.set_cons_zero, List.set_cons_succ]
              refine takeW (i := 3) (v := ?_) rfl (by kernel_rfl) (by kernel_rfl) (by kernel_rfl) (fun _ _ _ h => h) (by rfl) ?_ (by assumption) ?_
              rotate_left
              · (intro w hSw; (try dsimp only at hSw); go_simp; try with_reducible rfl)
              simp only [Act.put, List.setIfInBounds_toArray, List.set_cons_zero, List.set_cons_succ]
              refine takeW (i := 4) (v := ?_) rfl (by kernel_rfl) (by kernel_rfl) (by kernel_rfl) (fun _ _ _ h => h) (by rfl) ?_ (by assumption) ?_
              rotate_left
              · (intro w hSw; (try dsimp only at hSw); go_simp; try with_reducible rfl)
              simp only [Act.put, List.setIfInBounds_toArray, List.set_cons_zero, List.set_cons_succ]
              refine takeW (i := 5) (v := ?_) rfl (by kernel_rfl) (by kernel_rfl) (by kernel_rfl) (fun _ _ _ h => h) (by rfl) ?_ (by assumption) ?_
              rotate_left
              · (intro w hSw; (try dsimp only at hSw); go_simp; try with_reducible rfl)
              simp only [Act.put, List.setIfInBounds_toArray, List.set_cons_zero, List.set_cons_succ]
              refine takeW (i := 6) (v := ?_) rfl (by kernel_rfl) (by kernel_rfl) (by kernel_rfl) (fun _ _ _ h => h) (by rfl) ?_ (by assumption) ?_
              rotate_left
              · (intro w hSw; (try dsimp only at hSw); go_simp; try with_reducible rfl)
              simp only [Act.put, List.setIfInBounds_toArray, List.set_cons_zero, List.set_cons_succ]
              refine takeW (i := 7) (v := ?_) rfl (by kernel_rfl) (by kernel_rfl) (by kernel_rfl) (fun _ _ _ h => h) (by rfl) ?_ (by assumption) ?_
              rotate_left
              · (intro w hSw; (try dsimp only at hSw); go_simp; try with_reducible rfl)
              simp only [Act.put, List.setIfInBounds_toArray, List.set_cons_zero, List.set_cons_succ]
              refine takeW (i := 8) (v := ?_) rfl (by kernel_rfl) (by kernel_rfl) (by kernel_rfl) (fun _ _ _ h => h) (by rfl) ?_ (by assumption) ?_
              rotate_left
              · (intro w hSw; (try dsimp only at hSw); go_simp; try with_reducible rfl)
              simp only [Act.put, List.setIfInBounds_toArray, List.set_cons_zero, List.set_cons_succ]
              refine takeW (i := 9) (v := ?_) rfl (by kernel_rfl) (by kernel_rfl) (by kernel_rfl) (fun _ _ _ h => h) (by rfl) ?_ (by assumption) ?_
              rotate_left
              · (intro w hSw; (try dsimp only at hSw); go_simp; try with_reducible rfl)
              simp only [Act.put, List.setIfInBounds_toArray, List.set_cons_zero, List.set_cons_succ]
              refine wpAnyH_ready (rs := [1, 10]) (by kernel_rfl) (by simp) (AllReadyH.cons (get_drop (i := 1) rfl) (fun K hK => ?_) (AllReadyH.cons (get_drop (i := 10) rfl) (fun K hK => ?_) AllReadyH.nil))
              · rw [if_pos (by rfl)]
                go_simp
                refine hK.out _ _ ?_ (fun hHeld => ?_)
                · (try dsimp only)
                  exact hr0
                clear hK K
                try simp only [Act.put, List.setIfInBounds_toArray, List.set_cons_zero, List.set_cons_succ]
                refine takeC (i := 10) rfl (by kernel_rfl) (by rfl) (fun K hK => ?_)
                go_simp
                refine hK.out _ _ ?_ (fun hHeld => ?_)
                · (try dsimp only)
                  (rw [← HWA.out]; exact hra)
                clear hK K
                try simp only [Act.put, List.setIfInBounds_toArray, List.set_cons_zero, List.set_cons_succ]
                refine takeC (i := 11) rfl (by kernel_rfl) (by rfl) (fun K hK => ?_)
                rw [← HWA.out]
                refine add1 _ _ 50 54 rfl Tryz.underlying50 info_Smp wi.heap.size sv l1 (yt, ym, yx, ys) rfl HOA.out wr.heap.size 1 rfl HCA.out HLA.out HBA.out ?_
                intro v6 w6 hown6 hg6 _
                have u0 : w6.cell? ⟨ga, k * 2 + 1, none⟩ = some (.slice (some ⟨bs, os, none⟩) m cs) := (hg6.cell_far _ (by first | exact HLT1.out | exact HLT2.out) (by first | exact HNE1.out | exact HNE2.out)).trans v0
                have u1 : w6.cell? ⟨bs, os + j * 4, none⟩ = some (.int .i64 yt) := (hg6.cell_far _ (by first | exact HLT1.out | exact HLT2.out) (by first | exact HNE1.out | exact HNE2.out)).trans v1
                have u2 : w6.cell? ⟨bs, os + j * 4 + 1, none⟩ = some (.int .i64 ym) := (hg6.cell_far _ (by first | exact HLT1.out | exact HLT2.out) (by first | exact HNE1.out | exact HNE2.out)).trans v2
                have u3 : w6.cell? ⟨bs, os + j * 4 + 2, none⟩ = some (.int .i64 yx) := (hg6.cell_far _ (by first | exact HLT1.out | exact HLT2.out) (by first | exact HNE1.out | exact HNE2.out)).trans v3
                have u4 : w6.cell? ⟨bs, os + j * 4 + 3, none⟩ = some (.int .i64 ys) := (hg6.cell_far _ (by first | exact HLT1.out | exact HLT2.out) (by first | exact HNE1.out | exact HNE2.out)).trans v4
                have g1 : w6.cell? ⟨wi.heap.size, 1, none⟩ = some sv := (hg6.cell_far _ HLT3.out HNE3.out).trans f2
                have g2 : w6.frozen? ⟨wi.heap.size, 1, none⟩ = false := by
                  rw [World.frozen?_of_block ((hg6.block wi.heap.size HLT3.out HNE3.out).trans (HGA.out.block wi.heap.size HG.out.lt (by simp)))]
                  exact HG.out.cell.2.2
                obtain ⟨A6, c6, hv6, _, _⟩ := hown6.rd
                obtain ⟨n6, hn6⟩ : ∃ n6, n6 = (l1 ++ [(yt, ym, yx, ys)]).length := ⟨_, rfl⟩
                rw [← hn6] at hv6
                clear hn6
                subst hv6
                have HG9 := Lib.hid (HG.out.push HGA.out hg6 hown6)
                have x0 : (w6.setCell ⟨wi.heap.size, 1, none⟩ (.slice A6 n6 c6)).cell? ⟨ga, k * 2 + 1, none⟩ = some (.slice (some ⟨bs, os, none⟩) m cs) := (World.cell?_setCell_other _ _ _ _ (fun e => (by first | exact HNG1.out | exact HNG2.out : ga ≠ wi.heap.size) (by first | exact (congrArg Addr.block e).symm | exact congrArg Addr.block e))).trans u0
                have x1 : (w6.setCell ⟨wi.heap.size, 1, none⟩ (.slice A6 n6 c6)).cell? ⟨bs, os + j * 4, none⟩ = some (.int .i64 yt) := (World.cell?_setCell_other _ _ _ _ (fun e => (by first | exact HNG1.out | exact HNG2.out : bs ≠ wi.heap.size) (by first | exact (congrArg Addr.block e).symm | exact congrArg Addr.block e))).trans u1
                have x2 : (w6.setCell ⟨wi.heap.size, 1, none⟩ (.slice A6 n6 c6)).cell? ⟨bs, os + j * 4 + 1, none⟩ = some (.int .i64 ym) := (World.cell?_setCell_other _ _ _ _ (fun e => (by first | exact HNG1.out | exact HNG2.out : bs ≠ wi.heap.size) (by first | exact (congrArg Addr.block e).symm | exact congrArg Addr.block e))).trans u2
                have x3 : (w6.setCell ⟨wi.heap.size, 1, none⟩ (.slice A6 n6 c6)).cell? ⟨bs, os + j * 4 + 2, none⟩ = some (.int .i64 yx) := (World.cell?_setCell_other _ _ _ _ (fun e => (by first | exact HNG1.out | exact HNG2.out : bs ≠ wi.heap.size) (by first | exact (congrArg Addr.block e).symm | exact congrArg Addr.block e))).trans u3
                have x4 : (w6.setCell ⟨wi.heap.size, 1, none⟩ (.slice A6 n6 c6)).cell? ⟨bs, os + j * 4 + 3, none⟩ = some (.int .i64 ys) := (World.cell?_setCell_other _ _ _ _ (fun e => (by first | exact HNG1.out | exact HNG2.out : bs ≠ wi.heap.size) (by first | exact (congrArg Addr.block e).symm | exact congrArg Addr.block e))).trans u4
                clear hown6 hg6
                refine hK.out _ _ ?_ (fun hHeld => ?_)
                · (try dsimp only)
                  exact ⟨u0, u1, u2, u3, u4⟩
                clear hK K
                try simp only [Act.put, List.setIfInBounds_toArray, List.set_cons_zero, List.set_cons_succ]
                refine takeW (i := 12) (v := ?_) rfl (by kernel_rfl) (by kernel_rfl) (by kernel_rfl) (fun _ _ _ h => h) (by rfl) ?_ (by assumption) ?_
                rotate_left
                · (intro w hSw; (try dsimp only at hSw); go_simp; try with_reducible rfl)
                simp only [Act.put, List.setIfInBounds_toArray, List.set_cons_zero, List.set_cons_succ]
                refine takeC (i := 13) rfl (by kernel_rfl) (by rfl) (fun K hK => ?_)
                go_simp
                refine hK.out _ _ ?_ (fun hHeld => ?_)
                · (try dsimp only)
                  exact ⟨x0, x1, x2, x3, x4⟩
                clear hK K
                try simp only [Act.put, List.setIfInBounds_toArray, List.set_cons_zero, List.set_cons_succ]
                refine wpAnyH_done (by kernel_rfl) ?_ _
                clear u0 v0 x0 r0 u1 v1 x1 r1 u2 v2 x2 r2 u3 v3 x3 r3 u4 v4 x4 r4 hr0 hra f1 f2 f3 g1 g2
                go_wp2_with fail
                go_roundw
                case rel => exact ⟨j + 1, .slice A6 n6 c6, l1 ++ [(yt, ym, yx, ys)], by omega, by go_num, HL1.out, HG9.out⟩
                case measure => simp [intOf]; omega
              · rw [if_pos (by rfl)]
                go_simp
                refine hK.out _ _ ?_ (fun hHeld => ?_)
                · (try dsimp only)
                  (rw [← HWA.out]; exact hra)
                clear hK K
                try simp only [Act.put, List.setIfInBounds_toArray, List.set_cons_zero, List.set_cons_succ]
                refine takeC (i := 1) rfl (by kernel_rfl) (by rfl) (fun K hK => ?_)
                go_simp
                refine hK.out _ _ ?_ (fun hHeld => ?_)
                · (try dsimp only)
                  (rw [← HWA.out]; exact hra)
                clear hK K
                try simp only [Act.put, List.setIfInBounds_toArray, List.set_cons_zero, List.set_cons_succ]
                refine takeC (i := 11) rfl (by kernel_rfl) (by rfl) (fun K hK => ?_)
                rw [← HWA.out]
                refine add1 _ _ 50 54 rfl Tryz.underlying50 info_Smp wi.heap.size sv l1 (yt, ym, yx, ys) rfl HOA.out wr.heap.size 1 rfl HCA.out HLA.out HBA.out ?_
                intro v6 w6 hown6 hg6 _
                have u0 : w6.cell? ⟨ga, k * 2 + 1, none⟩ = some (.slice (some ⟨bs, os, none⟩) m cs) := (hg6.cell_far _ (by first | exact HLT1.out | exact HLT2.out) (by first | exact HNE1.out | exact HNE2.out)).trans v0
                have u1 : w6.cell? ⟨bs, os + j * 4, none⟩ = some (.int .i64 yt) := (hg6.cell_far _ (by first | exact HLT1.out | exact HLT2.out) (by first | exact HNE1.out | exact HNE2.out)).trans v1
                have u2 : w6.cell? ⟨bs, os + j * 4 + 1, none⟩ = some (.int .i64 ym) := (hg6.cell_far _ (by first | exact HLT1.out | exact HLT2.out) (by first | exact HNE1.out | exact HNE2.out)).trans v2
                have u3 : w6.cell? ⟨bs, os + j * 4 + 2, none⟩ = some (.int .i64 yx) := (hg6.cell_far _ (by first | exact HLT1.out | exact HLT2.out) (by first | exact HNE1.out | exact HNE2.out)).trans v3
                have u4 : w6.cell? ⟨bs, os + j * 4 + 3, none⟩ = some (.int .i64 ys) := (hg6.cell_far _ (by first | exact HLT1.out | exact HLT2.out) (by first | exact HNE1.out | exact HNE2.out)).trans v4
                have g1 : w6.cell? ⟨wi.heap.size, 1, none⟩ = some sv := (hg6.cell_far _ HLT3.out HNE3.out).trans f2
                have g2 : w6.frozen? ⟨wi.heap.size, 1, none⟩ = false := by
                  rw [World.frozen?_of_block ((hg6.block wi.heap.size HLT3.out HNE3.out).trans (HGA.out.block wi.heap.size HG.out.lt (by simp)))]
                  exact HG.out.cell.2.2
                obtain ⟨A6, c6, hv6, _, _⟩ := hown6.rd
                obtain ⟨n6, hn6⟩ : ∃ n6, n6 = (l1 ++ [(yt, ym, yx, ys)]).length := ⟨_, rfl⟩
                rw [← hn6] at hv6
                clear hn6
                subst hv6
                have HG9 := Lib.hid (HG.out.push HGA.out hg6 hown6)
                have x0 : (w6.setCell ⟨wi.heap.size, 1, none⟩ (.slice A6 n6 c6)).cell? ⟨ga, k * 2 + 1, none⟩ = some (.slice (some ⟨bs, os, none⟩) m cs) := (World.cell?_setCell_other _ _ _ _ (fun e => (by first | exact HNG1.out | exact HNG2.out : ga ≠ wi.heap.size) (by first | exact (congrArg Addr.block e).symm | exact congrArg Addr.block e))).trans u0
                have x1 : (w6.setCell ⟨wi.heap.size, 1, none⟩ (.slice A6 n6 c6)).cell? ⟨bs, os + j * 4, none⟩ = some (.int .i64 yt) := (World.cell?_setCell_other _ _ _ _ (fun e => (by first | exact HNG1.out | exact HNG2.out : bs ≠ wi.heap.size) (by first | exact (congrArg Addr.block e).symm | exact congrArg Addr.block e))).trans u1
                have x2 : (w6.setCell ⟨wi.heap.size, 1, none⟩ (.slice A6 n6 c6)).cell? ⟨bs, os + j * 4 + 1, none⟩ = some (.int .i64 ym) := (World.cell?_setCell_other _ _ _ _ (fun e => (by first | exact HNG1.out | exact HNG2.out : bs ≠ wi.heap.size) (by first | exact (congrArg Addr.block e).symm | exact congrArg Addr.block e))).trans u2
                have x3 : (w6.setCell ⟨wi.heap.size, 1, none⟩ (.slice A6 n6 c6)).cell? ⟨bs, os + j * 4 + 2, none⟩ = some (.int .i64 yx) := (World.cell?_setCell_other _ _ _ _ (fun e => (by first | exact HNG1.out | exact HNG2.out : bs ≠ wi.heap.size) (by first | exact (congrArg Addr.block e).symm | exact congrArg Addr.block e))).trans u3
                have x4 : (w6.setCell ⟨wi.heap.size, 1, none⟩ (.slice A6 n6 c6)).cell? ⟨bs, os + j * 4 + 3, none⟩ = some (.int .i64 ys) := (World.cell?_setCell_other _ _ _ _ (fun e => (by first | exact HNG1.out | exact HNG2.out : bs ≠ wi.heap.size) (by first | exact (congrArg Addr.block e).symm | exact congrArg Addr.block e))).trans u4
                clear hown6 hg6
                refine hK.out _ _ ?_ (fun hHeld => ?_)
                · (try dsimp only)
                  exact ⟨u0, u1, u2, u3, u4⟩
                clear hK K
                try simp only [Act.put, List.setIfInBounds_toArray, List.set_cons_zero, List.set_cons_succ]
                refine takeW (i := 12) (v := ?_) rfl (by kernel_rfl) (by kernel_rfl) (by kernel_rfl) (fun _ _ _ h => h) (by rfl) ?_ (by assumption) ?_
                rotate_left
                · (intro w hSw; (try dsimp only at hSw); go_simp; try with_reducible rfl)
                simp only [Act.put, List.setIfInBounds_toArray, List.set_cons_zero, List.set_cons_succ]
                refine takeC (i := 13) rfl (by kernel_rfl) (by rfl) (fun K hK => ?_)
                go_simp
                refine hK.out _ _ ?_ (fun hHeld => ?_)
                · (try dsimp only)
                  exact ⟨x0, x1, x2, x3, x4⟩
                clear hK K
                try simp only [Act.put, List.setIfInBounds_toArray, List.set_cons_zero, List.set_cons_succ]
                refine wpAnyH_done (by kernel_rfl) ?_ _
                clear u0 v0 x0 r0 u1 v1 x1 r1 u2 v2 x2 r2 u3 v3 x3 r3 u4 v4 x4 r4 hr0 hra f1 f2 f3 g1 g2
                go_wp2_with fail
                go_roundw
                case rel => exact ⟨j + 1, .slice A6 n6 c6, l1 ++ [(yt, ym, yx, ys)], by omega, by go_num, HL1.out, HG9.out⟩
                case measure => simp [intOf]; omega
            · have HL1 : Hid (l1 = lateS qq (y.2.take (j + 1))) := by show _ = _; rw [HLT.out, if_neg hyq, List.append_nil]
              have hcmp : ¬ 200 + later - keep < yt := by rw [← HQQ.out]; exact hyq
              clear HLT
              go_wp2_with fail
              go_roundw
              case rel => exact ⟨j + 1, sv, l1, by omega, by go_num, HL1.out, HG.out⟩
              case measure => simp [intOf]; omega
          · have hjm : j = m := by omega
            have i2 : ¬ (j : Int) < (m : Int) := by omega
            have HL1 : Hid (l1 = lateS qq y.2) := by
              have := HL.out
              rwa [hjm, HM.out, List.take_length] at this
            have q1 := HG.out.cell.2.1
            have q0 := HG.out.cell.1
            obtain ⟨A9, c9, hv9, _, _⟩ := HG.out.own.rd
            have hO2 := HO.out.on HG.out.below
            have HB2 : Hid (Below wz.heap.size wz wr) := HB.out.trans (HG.out.below.mono HB.out.size)
            obtain ⟨n9, hn9⟩ : ∃ n9, n9 = l1.length := ⟨_, rfl⟩
            rw [← hn9] at hv9
            subst hv9
            by_cases h9 : n9 = 0
            · have hl0 : l1 = [] := List.eq_nil_of_length_eq_zero (by omega)
              have HC2 : Hid (cutV xs = wantS qq (al.take (k + 1))) := by show _ = _; rw [HWT.out, ← HL1.out, if_pos hl0, List.append_nil]; exact HC.out
              have HO2 := Lib.hid hO2
              have i3 : ¬ (0 : Int) < (n9 : Int) := by omega
              clear hO2
              go_wp2_with fail
              go_roundw
              case rel => exact ⟨k + 1, xs, by omega, by go_num, HO2.out, HC2.out, HW.out, HB2.out⟩
              case measure => simp [intOf]; omega
            · have hl0 : l1 ≠ [] := fun e => h9 (by rw [hn9, e]; rfl)
              have HC2 : Hid (cutV (xs ++ [((Value.slice LA ln lc), Value.slice A9 n9 c9, y.1, l1)]) = wantS qq (al.take (k + 1))) := by
                show _ = _
                rw [HWT.out, ← HL1.out, if_neg hl0, ← HC.out]; simp [cutV]
              have HO2 := Lib.hid hO2
              have HOw : Hid (Own wr W.heap.size 54 (Value.slice A9 n9 c9) l1) :=
                ⟨HG.out.own.1, HG.out.own.2.imp id fun ⟨g, cap, cur, hv, hg, r⟩ => ⟨g, cap, cur, hv, Nat.le_trans (Nat.le_trans HBz.out.size HB.out.size) hg, r⟩⟩
              have HOL2 : Hid (OwnL wr W.heap.size (Value.slice LA ln lc) y.1) := HOL.out.below HG.out.below
              have hxl : xs.length ≤ 16 := by
                have h1 : (cutV xs).length = xs.length := by simp [cutV]
                rw [← h1, HC.out]
                unfold wantS
                exact Nat.le_trans (List.length_filter_le _ _) (by rw [List.length_map, List.length_take]; omega)
              have HXL := Lib.hid hxl
              have i3 : (0 : Int) < (n9 : Int) := by omega
              have HSZ : Hid (W.heap.size ≤ wr.heap.size) := (KS9.out _ HB2.out).size
              clear hO2 hxl hn9
              go_wp2_with (first | (at_builtin; refine app1S rfl _ _ rfl W.heap.size _ xs ((Value.slice LA ln lc), Value.slice A9 n9 c9, y.1, l1) rfl (HO2.out.on ((Below.refl _ _).alloc (Nat.le_refl _) _)) wr.heap.size 1 rfl (new_cell _ _ _ 0) (new_cell _ _ _ 1) (HOL2.out.below ((Below.refl _ _).alloc (Nat.le_refl _) _)) (HOw.out.below ((Below.refl _ _).alloc (Nat.le_refl _) _)) ?c1 ?c2 ?_) | fail)
              case c1 => have := HXL.out; omega
              case c2 => have := HSZ.out; simp; omega
              · intro v' w' hO' hg' hl'
                have HO' := Lib.hid hO'
                have HBp : Hid (Below wz.heap.size wz w') := (HB2.out.alloc HB2.out.size _).grown hg' (by have := HB2.out.size; simp; omega) (fun g e => HW.out g e)
                have HW2 : Hid (∀ g, v'.ownBlock = some g → wz.heap.size ≤ g) := fun g e => by
                  rcases hl' with h | h
                  · exact HW.out g (h ▸ e)
                  · rw [h] at e; injection e with e
                    have := HB2.out.size
                    try simp at e
                    omega
                clear hO' hg' hl' q0 q1 HO2 HO
                go_wp2_with fail
                go_roundw
                case rel => exact ⟨k + 1, xs ++ [((Value.slice LA ln lc), Value.slice A9 n9 c9, y.1, l1)], by omega, by go_num, HO'.out, HC2.out, HW2.out, HBp.out⟩
                case measure => simp [intOf]; omega
      · have hkn : k = na := by omega
        have HCw : Hid (cutV xs = wantS qq al) := by
          have := HC.out
          rwa [hkn, HNL.out, List.take_length] at this
        have i1 : ¬ (k : Int) < (na : Int) := by omega
        have hRw := HO.out.rdX
        rw [HCw.out] at hRw
        have HFw : Hid (FewX (wantS qq al)) := by
          refine ⟨?_, fun x hx => ?_⟩
          · unfold wantS
            exact Nat.le_trans (List.length_filter_le _ _) (by rw [List.length_map]; exact HALF.out.1)
          · unfold wantS at hx
            obtain ⟨y, hy, rfl⟩ := List.mem_map.1 (List.mem_filter.1 hx).1
            obtain ⟨h1, h2⟩ := HALF.out.2 y hy
            exact ⟨h1, Nat.le_trans (List.length_filter_le _ _) h2⟩
        have KE := sameX_walk vb _ _ _ wr (HYb.out.on HB.out) hRw HFw.out
        rw [decide_eq_true rfl] at KE
        have KE := Lib.hid KE
        clear hRw
        go_wp2_with fail
        refine KE.out.mono ?_
        rintro e wy ⟨rfl, hEy⟩
        have HBy : Hid (Below wz.heap.size wz wy) := HB.out.trans (hEy.below.mono HB.out.size)
        have KE := sameX_walk vc vb _ _ wy (HYc.out.on HBy.out) (HYb.out.on HBy.out) HFw.out
        rw [decide_eq_true rfl] at KE
        have KE := Lib.hid KE
        clear hEy
        go_wp2_with fail
        refine KE.out.mono ?_
        rintro e wx ⟨rfl, hEx⟩
        have HBx : Hid (Below wz.heap.size wz wx) := HBy.out.trans (hEx.below.mono HBy.out.size)
        have KN := Lib.hid (liv_now (HVz.out.on HBx.out))
        clear hEx KE
        go_wp2_with fail
        refine KN.out.mono ?_
        rintro e wv ⟨rfl, hwv⟩
        subst hwv
        clear KN
        go_wp2_with fail
        go_ret
        exact ⟨ret_bool (by simp), KS9.out _ HBx.out⟩
end Go.Proofs.YtkgcbeokfilehaaGreatDoor
