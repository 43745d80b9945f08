/-
  eskerlaw20.OracleOrder.
-/
import Derived.Test.YtkgcbeokfilehaaGreatDoorWjk
namespace Go.Proofs.YtkgcbeokfilehaaGreatDoor
open Go.RowKit Go.Sort Go.Maps
theorem sameX_nil (c : Nat) (W : World) (B : Nat) : RdX W B (.slice none 0 c) [] := ⟨none, c, rfl, Nat.zero_le _, .inl rfl⟩
theorem checkF_vals (fs : List Fil) : checkF fs = 0 ∨ checkF fs = 2 ∨ checkF fs = 80 := by
  unfold checkF
  split
  · exact .inr (.inl rfl)
  · split
    · exact .inl rfl
    · exact .inr (.inr rfl)
/-- What is answered. -/
def askS (every keep now f t : Int) (fs : List Fil) (R : Told) : List Ser := if checkF fs = 0 then tellS every (fromS f now keep) t fs R else []
theorem askS_few {every keep now f t : Int} {fs : List Fil} {R : Told} (hR : R.length ≤ 60000) (hf : FewL R) : FewX (askS every keep now f t fs R) := by
  unfold askS
  split
  · exact tellS_few hR hf
  · exact ⟨Nat.zero_le _, fun _ h => absurd h List.not_mem_nil⟩
theorem askS_congr {every keep now f t : Int} {fs : List Fil} {R R' : Told} (h : ∀ r, r ∈ R ↔ r ∈ R') : askS every keep now f t fs R = askS every keep now f t fs R' := by unfold askS; rw [tellS_congr h]
theorem liv_ask {W w : World} {o : Nat} {every keep now : Int} {R : Told} (h : Liv W w o every keep now R) (T : Tabs w) {fv : Value} {fs : List Fil} (hF : RdF w w.heap.size fv fs) (f t : Int) (hRl : R.length ≤ 60000) (hfl : FewL R) :
    Calls Tryz.prog 14 #[.pointer (some ⟨o, 0, none⟩), fv, .int .i64 f, .int .i64 t] w fun e w' =>
      ∃ v, e = .returned (.tuple #[v, .int .i64 (checkF fs)]) ∧ RdX w' w'.heap.size v (askS every keep now f t fs R) ∧ Nz v ∧ Below w.heap.size w w' := by
  unfold askS
  by_cases hq : checkF fs = 0
  · rw [if_pos hq, hq]
    exact liv_search h T hF f t hRl hfl hq
  · rw [if_neg hq]
    exact (search_fail o fv fs hF f t hq).mono fun _ _ ⟨h1, h2⟩ => ⟨_, h1, sameX_nil _ _ _, fun n c e => by cases e; rfl, h2⟩
/-- One act: rows, filters. -/
theorem rdA_one {w w' : World} {rv fv : Value} {l : List RowS} {fs : List Fil} (hw : w' = w.alloc (.cells #[.int .i64 0, rv, fv, .int .i64 0] 34)) (hR : RdW w w.heap.size rv l) (hz : Nz rv) (hF : RdF w w.heap.size fv fs) (hzf : Nz fv) :
    RdA w' w'.heap.size (.slice (some ⟨w.heap.size, 0, none⟩) 1 1) [⟨0, l, fs, 0⟩] := by
  have hE : Below w.heap.size w w' := by rw [hw]; exact (Below.refl _ _).alloc (Nat.le_refl _) _
  have hc : ∀ i, w'.cell? ⟨w.heap.size, i, none⟩ = (#[.int .i64 0, rv, fv, .int .i64 0] : Array Value)[i]? := fun i => by rw [hw]; exact new_cell _ _ _ i
  refine ⟨_, 1, rfl, Nat.le_refl _, .inr ⟨_, 0, rfl, by rw [hw]; simp, fun i hi => ?_⟩⟩
  match i, hi with
  | 0, _ => exact ⟨rv, fv, hc _, hc _, hc _, hc _, hR.on hE, hz, hF.on hE, hzf⟩
set_option maxRecDepth 100000 in
set_option maxHeartbeats 8000000 in
theorem order_walk (every : Int) (v : Value) (l : List RowS) (fv : Value) (fs : List Fil) (f t : Int) (nm : Str) (rv : Value) (sm : Smp) (W : World) (T : Tabs W)
    (hR : RdW W W.heap.size v l) (hs : l.length ≤ 140737488355328) (hF : RdF W W.heap.size fv fs) (hz : Nz v) (hzf : Nz fv) :
    Calls Tryz.prog 3 #[.int .i64 every, v, .agg #[fv, .int .i64 f, .int .i64 t, vT nm, rv, .int .i64 sm.1, .int .i64 sm.2.1, .int .i64 sm.2.2.1, .int .i64 sm.2.2.2]] W fun e w' => e = .returned (.bool true) ∧ Below W.heap.size W w' := by
  obtain ⟨W1, hW1⟩ : ∃ W1, W1 = W.alloc (.cells #[fv, .int .i64 f, .int .i64 t, vT nm, rv, .int .i64 sm.1, .int .i64 sm.2.1, .int .i64 sm.2.2.1, .int .i64 sm.2.2.2] 30) := ⟨_, rfl⟩
  have hBW : Below W.heap.size W W1 := by rw [hW1]; exact (Below.refl _ _).alloc (Nat.le_refl _) _
  have HBW := Lib.hid hBW
  replace hR := hR.on hBW
  replace hF := hF.on hBW
  have HT := Lib.hid (T.below hBW)
  have KW := Lib.hid (awake_walkO W1 HT.out)
  have KC : Hid (∀ w, Below W1.heap.size W1 w → w.cell? ⟨W.heap.size, 0, none⟩ = some fv ∧ w.cell? ⟨W.heap.size, 1, none⟩ = some (.int .i64 f) ∧ w.cell? ⟨W.heap.size, 2, none⟩ = some (.int .i64 t)) := fun w h => by
    have c0 : ∀ i, W1.cell? ⟨W.heap.size, i, none⟩ = (#[fv, .int .i64 f, .int .i64 t, vT nm, rv, .int .i64 sm.1, .int .i64 sm.2.1, .int .i64 sm.2.2.1, .int .i64 sm.2.2.2] : Array Value)[i]? := fun i => by rw [hW1]; exact new_cell _ _ _ i
    have hlt : W.heap.size < W1.heap.size := by rw [hW1]; simp
    exact ⟨(h.cell hlt).trans (c0 0), (h.cell hlt).trans (c0 1), (h.cell hlt).trans (c0 2)⟩
  have HR := Lib.hid hR
  have HF := Lib.hid hF
  have HZ := Lib.hid hz
  have HZF := Lib.hid hzf
  have HS := Lib.hid hs
  obtain ⟨A, c, rfl, hc, hA⟩ := hR
  have HA := Lib.hid hA
  obtain ⟨A3, c3, rfl, _, _⟩ := hF
  obtain ⟨n, hn⟩ : ∃ n, n = l.length := ⟨_, rfl⟩
  rw [← hn] at HR HZ hs ⊢
  have HN := Lib.hid hn
  obtain ⟨m3, hm3⟩ : ∃ m3, m3 = fs.length := ⟨_, rfl⟩
  rw [← hm3] at HF HZF KC hW1 ⊢
  unfold vT at hW1 ⊢
  generalize (⟨nm.toArray⟩ : ByteArray) = xn at hW1 ⊢
  clear T hA hc hz hzf hn hBW hm3
  go_enter Tryz.func3, Tryz.ntmps3
  go_wp2_with fail
  rw [← hW1]
  clear hW1
  refine KW.out.mono ?_
  rintro e w1 ⟨rfl, hB1⟩
  obtain ⟨b0, b1, b2⟩ := KC.out w1 hB1
  have HB1 := Lib.hid hB1
  clear hB1 KW
  obtain ⟨w2, hw2⟩ : ∃ w2, w2 = w1.alloc (.cells #[.int .i64 0, .slice A n c, .slice A3 m3 c3, .int .i64 0] 34) := ⟨_, rfl⟩
  have KF := Lib.hid (few_walk _ _ w2 (rdA_one hw2 (HR.out.on HB1.out) HZ.out (HF.out.on HB1.out) HZF.out) (by intro a ha; rw [List.mem_singleton] at ha; subst ha; exact HS.out))
  have HB2 : Hid (Below W1.heap.size W1 w2) := by show Below _ _ _; rw [hw2]; exact HB1.out.alloc HB1.out.size _
  go_wp2_with fail
  rw [← hw2]
  clear hw2 b0 b1 b2 HB1
  refine KF.out.mono ?_
  rintro e w3 ⟨⟨q, rfl, hq⟩, hE3⟩
  have HB3 : Hid (Below W1.heap.size W1 w3) := HB2.out.trans (hE3.below.mono HB2.out.size)
  have HQ := Lib.hid hq
  clear hq hE3 KF HB2
  cases q with
  | false =>
    go_wp2_with fail
    go_ret
    exact ⟨rfl, HBW.out.trans (HB3.out.mono HBW.out.size)⟩
  | true =>
    have HFA := Lib.hid (HQ.out rfl)
    clear HQ
    by_cases h16 : n ≤ 16
    · have g16 : (n : Int) ≤ 16 := by omega
      have HL8 : Hid (∀ r ∈ l, r.1.length ≤ 8) := (HFA.out.ok _ (List.mem_singleton.2 rfl)).2
      have Hl16 : Hid (l.length ≤ 16) := by show _ ≤ _; rw [← HN.out]; exact h16
      clear HFA
      have KN := Lib.hid (liv_new every 1000 HB3.out)
      rw [show keepN 1000 = 1000 by decide] at KN
      go_wp2_with fail
      refine KN.out.mono ?_
      rintro e w4 ⟨ox, rfl, hV4, hB4⟩
      have KN := Lib.hid (two_new hV4 1000 (by decide) hB4)
      clear hV4 hB4 HB3
      go_wp2_with fail
      refine KN.out.mono ?_
      rintro e w5 ⟨oy, rfl, hV5, hB5⟩
      have KN := Lib.hid (two_clock hV5.swap hB5 500)
      rw [show clkN 0 500 = 500 by decide] at KN
      clear hV5 hB5
      go_wp2_with fail
      refine KN.out.mono ?_
      rintro e w6 ⟨rfl, hV6, hB6⟩
      have KN := Lib.hid (two_clock hV6.swap hB6 500)
      rw [show clkN 0 500 = 500 by decide] at KN
      clear hV6 hB6
      go_wp2_with fail
      refine KN.out.mono ?_
      rintro e w7 ⟨rfl, hV7, hB7⟩
      have KN := Lib.hid (two_add hV7.swap hB7 (Below.refl _ _) (RdWU.low HR.out hB7) Hl16.out (by decide))
      clear hV7 hB7
      obtain ⟨r, hr⟩ : ∃ r, r = refusedR 1000 500 l := ⟨_, rfl⟩
      obtain ⟨Rx, hRx⟩ : ∃ Rx, Rx = addR 1000 500 [] l := ⟨_, rfl⟩
      rw [← hr, ← hRx] at KN
      have HRr := Lib.hid hr
      have HRx := Lib.hid hRx
      have hrl : r ≤ n := by rw [hr, HN.out]; exact refusedR_length _ _ _
      clear hr hRx
      go_wp2_with fail
      refine KN.out.mono ?_
      rintro e w8 ⟨rfl, hV8, hB8⟩
      have HV8 := Lib.hid hV8.swap
      have HB8 := Lib.hid hB8
      clear hV8 hB8 KN
      go_wp2_with fail
      go_loopw [13, 14, 15, 16] (fun mv iv _ _ wl => ∃ k q : Nat, k ≤ n ∧ q ≤ n ∧ iv = .int .i64 ((k : Int) - 1) ∧ mv = .int .i64 q ∧ Hid (q = refusedR 1000 500 (l.drop k)) ∧ Hid (Two W1 wl ox oy every 1000 500 500 Rx (addR 1000 500 [] (l.drop k).reverse)) ∧ Hid (Below W1.heap.size W1 wl))
        (fun _ iv _ _ _ => (intOf iv + 1).toNat)
      case atStart => exact ⟨n, 0, Nat.le_refl _, Nat.zero_le _, rfl, rfl, by rw [HN.out, List.drop_length]; rfl, by rw [HN.out, List.drop_length]; exact HV8, HB8⟩
      case round =>
        obtain ⟨k, q, hk, hqn, rfl, rfl, HQ, HV, HB⟩ := hrel
        by_cases hk0 : k = 0
        · subst hk0
          have hqr : q = r := HQ.out.trans HRr.out.symm
          subst hqr
          rw [List.drop_zero] at HV
          have g0 : ¬ (0 : Int) ≤ ((0 : Nat) : Int) - 1 := by omega
          obtain ⟨Ry, hRy⟩ : ∃ Ry, Ry = addR 1000 500 (addR 1000 500 [] l.reverse) l := ⟨_, rfl⟩
          have hlen : l.reverse.length ≤ 16 := by rw [List.length_reverse]; exact Hl16.out
          have KN := Lib.hid (two_add HV.out HB.out (Below.refl _ _) (RdWU.low HR.out HB.out) Hl16.out (by have := addR_length 1000 500 [] l.reverse; simp only [List.length_nil] at this; omega))
          rw [← hRy, ← HRr.out] at KN
          have HXY : Hid (∀ x, x ∈ Rx ↔ x ∈ Ry) := by rw [hRy, HRx.out]; exact add_order 1000 500 l
          have HLX : Hid (Rx.length ≤ 60000) := by
            show _ ≤ _
            have := addR_length 1000 500 [] l
            have := Hl16.out
            rw [HRx.out]; simp only [List.length_nil] at *; omega
          have HLY : Hid (Ry.length ≤ 60000) := by
            show _ ≤ _
            have := addR_length 1000 500 (addR 1000 500 [] l.reverse) l
            have := addR_length 1000 500 [] l.reverse
            have := Hl16.out
            rw [hRy]; simp only [List.length_nil] at *; omega
          have HFX : Hid (FewL Rx) := by show FewL _; rw [HRx.out]; exact FewL.nil.add HL8.out
          have HFY : Hid (FewL Ry) := by show FewL _; rw [hRy]; exact (FewL.nil.add (fun r hr => HL8.out r (List.mem_reverse.1 hr))).add HL8.out
          clear hlen hRy HV HQ HRr HRx HB8 HV8
          go_wp2_with fail
          refine KN.out.mono ?_
          rintro e wa ⟨rfl, hVa, hBa⟩
          obtain ⟨b0, b1, b2⟩ := KC.out wa hBa
          have HVa := Lib.hid hVa
          have HBa := Lib.hid hBa
          have KS := Lib.hid (liv_ask HVa.out.fst (HT.out.below hBa) (HF.out.on hBa) f t HLX.out HFX.out)
          clear hVa hBa KN HB
          go_wp2_with fail
          refine KS.out.mono ?_
          rintro e wb ⟨v1, rfl, hX1, _, hBb⟩
          have HBb : Hid (Below W1.heap.size W1 wb) := HBa.out.trans (hBb.mono HBa.out.size)
          obtain ⟨b0', b1', b2'⟩ := KC.out wb HBb.out
          have HVb := Lib.hid (HVa.out.on hBb)
          have KS := Lib.hid (liv_ask HVb.out.snd (HT.out.below HBb.out) (HF.out.on HBb.out) f t HLY.out HFY.out)
          have HX1 := Lib.hid hX1
          clear hX1 hBb HVa HBa b0 b1 b2
          go_wp2_with fail
          refine KS.out.mono ?_
          rintro e wc ⟨v2, rfl, hX2, _, hBc⟩
          have HBc : Hid (Below W1.heap.size W1 wc) := HBb.out.trans (hBc.mono HBb.out.size)
          have HVc := Lib.hid (HVb.out.on hBc)
          have KE := sameX_walk v1 v2 _ _ wc (HX1.out.on hBc) hX2 (askS_few HLX.out HFX.out)
          rw [decide_eq_true (askS_congr HXY.out)] at KE
          have KE := Lib.hid KE
          clear hX2 hBc HX1 HVb HBb b0' b1' b2'
          go_wp2_with fail
          refine KE.out.mono ?_
          rintro e wd ⟨rfl, hEd⟩
          have HBd : Hid (Below W1.heap.size W1 wd) := HBc.out.trans (hEd.below.mono HBc.out.size)
          have HVd := Lib.hid (HVc.out.on hEd.below)
          have KM := Lib.hid (liv_names HVd.out.fst HLX.out HFX.out)
          clear hEd HVc HBc KE
          go_wp2_with fail
          refine KM.out.mono ?_
          rintro e we ⟨v3, rfl, hX3, hBe⟩
          have HBe : Hid (Below W1.heap.size W1 we) := HBd.out.trans (hBe.mono HBd.out.size)
          have HVe := Lib.hid (HVd.out.on hBe)
          have HX3 := Lib.hid hX3
          have KM := Lib.hid (liv_names HVe.out.snd HLY.out HFY.out)
          clear hBe HVd HBd hX3
          go_wp2_with fail
          refine KM.out.mono ?_
          rintro e wf ⟨v4, rfl, hX4, hBf⟩
          have HBf : Hid (Below W1.heap.size W1 wf) := HBe.out.trans (hBf.mono HBe.out.size)
          have KE := strings_walk v3 v4 _ _ wf (HX3.out.on hBf) hX4 (namesS_few HLX.out HFX.out)
          rw [decide_eq_true (namesS_congr HXY.out)] at KE
          have KE := Lib.hid KE
          clear hBf HVe HBe hX4 HX3 KM
          go_wp2_with fail
          refine KE.out.mono ?_
          rintro e wg ⟨rfl, hEg⟩
          have HBg : Hid (Below W1.heap.size W1 wg) := HBf.out.trans (hEg.below.mono HBf.out.size)
          clear KE hEg
          go_wp2_with fail
          go_ret
          exact ⟨rfl, HBW.out.trans (HBg.out.mono HBW.out.size)⟩
        · obtain ⟨j, rfl⟩ : ∃ j, k = j + 1 := ⟨k - 1, by omega⟩
          have e1 : ((j + 1 : Nat) : Int) - 1 = (j : Int) := by omega
          rw [e1]
          have hjl : j < l.length := by rw [← HN.out]; omega
          rcases HA.out with h0 | ⟨b1, o1, e, hb1, hcl1⟩
          · subst h0; simp at hjl
          subst e
          obtain ⟨y, hy⟩ : ∃ y, y = l[j] := ⟨_, rfl⟩
          obtain ⟨lv, c0, hlv, hzl, c1, c2, c3, c4⟩ : RowAt wr W1.heap.size b1 (o1 + j * 5) y := by rw [hy]; exact (hcl1 j hjl).below HB.out hb1
          have hlv0 : RdL W1 W1.heap.size lv y.1 := by
            obtain ⟨lv', c0', hlv', _⟩ : RowAt W1 W1.heap.size b1 (o1 + j * 5) y := by rw [hy]; exact hcl1 j hjl
            have : lv' = lv := by
              have := (HB.out.cell hb1).trans c0'
              rw [c0] at this; exact (Option.some.inj this).symm
            rw [← this]; exact hlv'
          obtain ⟨wp, hwp⟩ : ∃ wp, wp = wr.alloc (.cells #[lv, .int .i64 y.2.1, .int .i64 y.2.2.1, .int .i64 y.2.2.2.1, .int .i64 y.2.2.2.2] 28) := ⟨_, rfl⟩
          have hEp : Below wr.heap.size wr wp := by rw [hwp]; exact (Below.refl _ _).alloc (Nat.le_refl _) _
          have KN := two_add HV.out HB.out hEp (row1 HB.out hwp hlv0 hzl) (by simp) (by
            have := addR_length 1000 500 [] (l.drop (j + 1)).reverse
            have := Hl16.out
            simp only [List.length_reverse, List.length_drop, List.length_nil] at *; omega)
          obtain ⟨r1, hr1⟩ : ∃ r1, r1 = refusedR 1000 500 [y] := ⟨_, rfl⟩
          have hr11 : r1 ≤ 1 := by rw [hr1]; exact refusedR_length _ _ _
          rw [hy, addR_back hjl, ← hy, ← hr1] at KN
          have KN := Lib.hid KN
          have HQ2 : Hid (q + r1 = refusedR 1000 500 (l.drop j)) := by
            show _ = _
            rw [HQ.out, hr1, hy]; exact refusedR_one hjl
          have hq16 : q + r1 ≤ n := by
            rw [HQ2.out, HN.out]
            exact Nat.le_trans (refusedR_length _ _ _) (by rw [List.length_drop]; omega)
          clear hy hcl1 hlv hlv0 hzl hr1 HQ HV hEp
          have i1 : (j : Int) < (n : Int) := by omega
          have i2 : (q : Int) ≤ 16 := by omega
          have i3 : (r1 : Int) ≤ 16 := by omega
          go_wp2_with fail
          rw [← hwp]
          refine KN.out.mono ?_
          rintro e wq ⟨rfl, hVq, hBq⟩
          have HVq := Lib.hid hVq
          have HBq := Lib.hid hBq
          clear KN hVq hBq c0 c1 c2 c3 c4 hwp HB HB8 HV8
          go_wp2_with fail
          go_roundw
          case rel => exact ⟨j, q + r1, by omega, hq16, by go_num, by go_num, HQ2, HVq, HBq⟩
          case measure => simp [intOf]
    · have g16 : ¬ (n : Int) ≤ 16 := by omega
      go_wp2_with fail
      go_ret
      exact ⟨rfl, HBW.out.trans (HB3.out.mono HBW.out.size)⟩
theorem order_law (every : Int) (v : Value) (l : List RowS) (fv : Value) (fs : List Fil) (f t : Int) (nm : Str) (lv : Value) (r : RowS) (W : World) (T : Tabs W) (_ : (Lit.int .i64 every).wf = true)
    (hR : RdW W W.heap.size v l) (hz : Nz v) (hs : l.length ≤ 140737488355328) (hF : RdF W W.heap.size fv fs) (hzf : Nz fv) (_ : RdL W W.heap.size lv r.1) (_ : Nz lv) :
    Calls Tryz.prog 3 #[.int .i64 every, v, .agg #[fv, .int .i64 f, .int .i64 t, vT nm, lv, .int .i64 r.2.1, .int .i64 r.2.2.1, .int .i64 r.2.2.2.1, .int .i64 r.2.2.2.2]] W fun e w' => e = .returned (.bool true) ∧ Below W.heap.size W w' :=
  order_walk every v l fv fs f t nm lv r.2 W T hR hs hF hz hzf
end Go.Proofs.YtkgcbeokfilehaaGreatDoor

/-
  OracleNames in plain words: each series is told; the values of a name part the series.
-/
namespace Go.Proofs.YtkgcbeokfilehaaGreatDoor
/-- All that is there may be there. -/
def GoodR (R : Told) : Prop := ∀ r ∈ R, mayL r.1 = true ∧ rightS r.2 = true
theorem mayL_perm {a b : Lbs} (h : a.Perm b) (hb : mayL b = true) : mayL a = true := by
  obtain ⟨⟨h1, h2⟩, h3, h4⟩ := mayL_parts hb
  have e := h.length_eq
  unfold mayL
  rw [Bool.and_eq_true, Bool.and_eq_true, Bool.and_eq_true, List.all_eq_true]
  refine ⟨⟨⟨decide_eq_true (by omega), decide_eq_true (by omega)⟩, fun x hx => ?_⟩, ?_⟩
  · rw [Bool.and_eq_true]
    exact h3 x (h.mem_iff.1 hx)
  · rw [namesApart_iff] at h4 ⊢
    exact (h.pairwise_iff (fun hxy => Ne.symm hxy)).2 h4
theorem GoodR.nil : GoodR [] := fun _ h => absurd h List.not_mem_nil
theorem GoodR.add {keep now : Int} {R : Told} {l : List RowS} (h : GoodR R) : GoodR (addR keep now R l) := by
  intro x hx
  rcases mem_addR.1 hx with hx | ⟨r, hr, ht, rfl⟩
  · exact h x hx
  · unfold takesR at ht
    rw [Bool.and_eq_true, Bool.and_eq_true, Bool.and_eq_true] at ht
    exact ⟨mayL_perm (canonL_perm r.1) ht.1.1.1, ht.1.1.2⟩
theorem GoodR.lab {R : Told} (h : GoodR R) {c : Lbs} (hc : c ∈ labsOf R) : mayL c = true := by
  obtain ⟨r, hr, rfl⟩ := hasR_iff.1 (mem_labs.1 hc)
  exact (h r hr).1
/-- Each series is told, where nothing is too old. -/
theorem told_some {R : Told} (h : GoodR R) {c : Lbs} (hc : c ∈ labsOf R) (d : Int) : tellC d 0 1099511627776 R c ≠ [] := by
  obtain ⟨r, hr, rfl⟩ := hasR_iff.1 (mem_labs.1 hc)
  obtain ⟨z, hz, _, _⟩ := dedup_max d (smpOf R r.1) r.2 (mem_smpOf.2 hr) (h r hr).2
  have h2 := ((dedup_mem d _ z).1 hz).1.2
  have hm : z ∈ tellC d 0 1099511627776 R r.1 := by
    unfold tellC delS
    refine List.mem_filter.2 ⟨hz, ?_⟩
    unfold rightS at h2
    rw [Bool.and_eq_true] at h2
    have h3 := of_decide_eq_true h2.1
    unfold outS
    simp; omega
  exact List.ne_nil_of_mem hm
theorem tell_count {R : Told} (h : GoodR R) (fs : List Fil) (d : Int) : (tellS d 0 1099511627776 fs R).length = (labsOf R).countP (allF fs) := by
  unfold tellS
  rw [List.length_map, List.countP_eq_length_filter]
  congr 1
  refine List.filter_congr fun c hc => ?_
  have := told_some h hc d
  simp [this]
/-- The values of a name part the series. -/
theorem part_count (g : Lbs → Str) {V : List Str} (hn : V.Nodup) (he : ([] : Str) ∉ V) : ∀ ls : List Lbs, (∀ c ∈ ls, g c ∈ V ∨ g c = []) → (V.map (fun v => ls.countP (fun c => decide (g c = v)))).sum + ls.countP (fun c => decide (g c = [])) = ls.length
  | [], _ => by
    have : ∀ V : List Str, (V.map (fun v => ([] : List Lbs).countP (fun c => decide (g c = v)))).sum = 0 := fun V => by
      induction V with
      | nil => rfl
      | cons v V ih => rw [List.map_cons, List.sum_cons, ih]; rfl
    rw [this]; rfl
  | c :: ls, h => by
    have ih := part_count g hn he ls (fun x hx => h x (List.mem_cons_of_mem _ hx))
    have hs : ∀ V : List Str, V.Nodup → (V.map (fun v => (c :: ls).countP (fun c => decide (g c = v)))).sum = (V.map (fun v => ls.countP (fun c => decide (g c = v)))).sum + (if g c ∈ V then 1 else 0) := by
      intro V
      induction V with
      | nil => intro _; rfl
      | cons v V ih2 =>
        intro hn
        obtain ⟨h1, h2⟩ := List.nodup_cons.1 hn
        rw [List.map_cons, List.map_cons, List.sum_cons, List.sum_cons, ih2 h2, List.countP_cons]
        by_cases e : g c = v
        · have hv : g c ∉ V := by rw [e]; exact h1
          simp [e, h1]; omega
        · have hm : (g c ∈ v :: V) ↔ g c ∈ V := by rw [List.mem_cons]; exact ⟨fun h => h.resolve_left e, .inr⟩
          simp only [e, decide_false, Bool.false_eq_true, if_false, hm]; omega
    rw [hs V hn, List.countP_cons, List.length_cons]
    rcases h c List.mem_cons_self with h1 | h1
    · have h2 : g c ≠ [] := fun e => he (e ▸ h1)
      simp only [h1, if_true, h2, decide_false, Bool.false_eq_true, if_false]; omega
    · have h2 : g c ∉ V := fun e => he (h1 ▸ e)
      simp only [h1] at h2
      simp only [h1, h2, decide_true, if_true, if_false]; omega
def isF (nm v : Str) : Fil := ⟨nm, v, false, false⟩
theorem one_isF (nm v : Str) (c : Lbs) : allF [isF nm v] c = decide (getL c nm = v) := by
  unfold allF oneF isF
  simp
theorem getL_of {c : Lbs} (h : namesApart c = true) {x : Lb} (hx : x ∈ c) : getL c x.1 = x.2 := by
  rw [namesApart_iff] at h
  induction c with
  | nil => cases hx
  | cons y c ih =>
    obtain ⟨h1, h2⟩ := List.pairwise_cons.1 h
    unfold getL
    by_cases e : y.1 = x.1
    · rw [List.find?_cons]
      simp only [e, decide_true]
      rcases List.mem_cons.1 hx with rfl | hx
      · rfl
      · exact absurd e (h1 x hx)
    · rw [List.find?_cons]
      simp only [e, decide_false]
      rcases List.mem_cons.1 hx with rfl | hx
      · exact absurd rfl e
      · exact ih h2 hx
theorem getL_none {c : Lbs} {nm : Str} (h : ∀ x ∈ c, x.1 ≠ nm) : getL c nm = [] := by
  unfold getL
  rw [List.find?_eq_none.2 (fun x hx => by simpa using h x hx)]
  rfl
theorem mem_values {R : Told} {nm v : Str} : v ∈ valuesS R nm ↔ ∃ c ∈ labsOf R, ∃ x ∈ c, x.1 = nm ∧ x.2 = v := by
  unfold valuesS
  rw [mem_texts, List.mem_flatMap]
  constructor
  · rintro ⟨c, hc, hv⟩
    obtain ⟨x, hx, rfl⟩ := List.mem_map.1 hv
    obtain ⟨h1, h2⟩ := List.mem_filter.1 hx
    exact ⟨c, hc, x, h1, of_decide_eq_true h2, rfl⟩
  · rintro ⟨c, hc, x, hx, h1, rfl⟩
    exact ⟨c, hc, List.mem_map.2 ⟨x, List.mem_filter.2 ⟨hx, decide_eq_true h1⟩, rfl⟩⟩
section
variable {R : Told} (h : GoodR R) (nm : Str)
include h
theorem values_get {c : Lbs} (hc : c ∈ labsOf R) : getL c nm ∈ valuesS R nm ∨ getL c nm = [] := by
  obtain ⟨_, _, h4⟩ := mayL_parts (h.lab hc)
  by_cases e : ∃ x ∈ c, x.1 = nm
  · obtain ⟨x, hx, rfl⟩ := e
    rw [getL_of h4 hx]
    exact .inl (mem_values.2 ⟨c, hc, x, hx, rfl, rfl⟩)
  · exact .inr (getL_none fun x hx e2 => e ⟨x, hx, e2⟩)
theorem values_ok {v : Str} (hv : v ∈ valuesS R nm) : nameOk nm = true ∧ valueOk v = true ∧ ∃ c ∈ labsOf R, getL c nm = v := by
  obtain ⟨c, hc, x, hx, rfl, rfl⟩ := mem_values.1 hv
  obtain ⟨_, h3, h4⟩ := mayL_parts (h.lab hc)
  exact ⟨(h3 x hx).1, (h3 x hx).2, c, hc, getL_of h4 hx⟩
def cntV (R : Told) (nm v : Str) : Nat := (tellS 1 0 1099511627776 [isF nm v] R).length
theorem cntV_eq (v : Str) : cntV R nm v = (labsOf R).countP (fun c => decide (getL c nm = v)) := by
  unfold cntV
  rw [tell_count h]
  congr 1
  funext c
  exact one_isF nm v c
theorem values_found {v : Str} (hv : v ∈ valuesS R nm) : checkF [isF nm v] = 0 ∧ 0 < cntV R nm v := by
  obtain ⟨h1, h2, c, hc, h3⟩ := values_ok h nm hv
  refine ⟨?_, ?_⟩
  · unfold valueOk at h2
    rw [Bool.and_eq_true] at h2
    have := of_decide_eq_true h2.2
    unfold checkF isF
    simp [h1]; omega
  · rw [cntV_eq h, List.countP_pos_iff]
    exact ⟨c, hc, decide_eq_true h3⟩
theorem values_sum : ((valuesS R nm).map (cntV R nm)).sum + cntV R nm [] = (tellS 1 0 1099511627776 [] R).length := by
  have he : ([] : Str) ∉ valuesS R nm := fun hv => by
    have := (values_ok h nm hv).2.1
    simp [valueOk] at this
  have := part_count (fun c => getL c nm) (upT_nodup (texts_up _)) he (labsOf R) (fun c hc => values_get h nm hc)
  rw [tell_count h, ← cntV_eq h] at *
  have e : (labsOf R).countP (allF []) = (labsOf R).length := by
    rw [List.countP_eq_length]; intro c _; rfl
  rw [e, ← this]
  congr 2
  refine List.map_congr_left fun v _ => ?_
  exact cntV_eq h nm v
theorem values_part (k : Nat) : (((valuesS R nm).take k).map (cntV R nm)).sum ≤ (tellS 1 0 1099511627776 [] R).length := by
  have := values_sum h nm
  have e : ((valuesS R nm).map (cntV R nm)).sum = (((valuesS R nm).take k).map (cntV R nm)).sum + (((valuesS R nm).drop k).map (cntV R nm)).sum := by
    rw [← List.sum_append, ← List.map_append, List.take_append_drop]
  omega
theorem values_none (hq : checkF [isF nm []] ≠ 0) : valuesS R nm = [] := by
  apply Classical.byContradiction
  intro hn
  obtain ⟨v, hv⟩ := List.exists_mem_of_ne_nil _ hn
  have h1 := (values_ok h nm hv).1
  apply hq
  unfold checkF isF
  simp [h1]
omit h in
theorem names_all {x : Ser} {d f t : Int} {fs : List Fil} (hx : x ∈ tellS d f t fs R) {y : Lb} (hy : y ∈ x.1) : y.1 ∈ namesS R := by
  unfold tellS at hx
  obtain ⟨c, hc, rfl⟩ := List.mem_map.1 hx
  unfold namesS
  rw [mem_texts, List.mem_flatMap]
  exact ⟨c, (List.mem_filter.1 hc).1, List.mem_map.2 ⟨y, hy, rfl⟩⟩
end
end Go.Proofs.YtkgcbeokfilehaaGreatDoor
