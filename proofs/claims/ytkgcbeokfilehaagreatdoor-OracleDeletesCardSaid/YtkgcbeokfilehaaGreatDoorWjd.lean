/-
  eskerlaw20.few, eskerlaw20.row.
-/
import Derived.Test.YtkgcbeokfilehaaGreatDoorVid
import Derived.Test.YtkgcbeokfilehaaGreatDoorVfd
import Derived.Test.YtkgcbeokfilehaaGreatDoorWfd
import Derived.Test.YtkgcbeokfilehaaGreatDoorWdd
import Derived.Test.YtkgcbeokfilehaaGreatDoorVtd
import Derived.Test.YtkgcbeokfilehaaGreatDoorVkd
import Derived.Test.YtkgcbeokfilehaaGreatDoorVpd
import Derived.Test.YtkgcbeokfilehaaGreatDoorWcd
namespace Go.Proofs.YtkgcbeokfilehaaGreatDoor
open Go.RowKit Go.Sort Go.Maps
/-- Few acts, of few rows, of few labels. -/
structure FewA (l : List ActS) : Prop where
  len : l.length ≤ 20
  sum : (l.map (fun a => a.rows.length)).sum ≤ 150
  ok : ∀ a ∈ l, a.fs.length ≤ 8 ∧ ∀ r ∈ a.rows, r.1.length ≤ 8
/-- As far as it has been looked at. -/
structure FewT (l : List ActS) (k s : Nat) : Prop where
  sum : ((l.take k).map (fun a => a.rows.length)).sum = s
  ok : ∀ a ∈ l.take k, a.fs.length ≤ 8 ∧ ∀ r ∈ a.rows, r.1.length ≤ 8
theorem FewT.succ {l : List ActS} {k s : Nat} {y : ActS} (h : FewT l k s) (hk : k < l.length) (hy : y = l[k]) (hf : y.fs.length ≤ 8) (hr : ∀ r ∈ y.rows, r.1.length ≤ 8) : FewT l (k + 1) (s + y.rows.length) := by
  refine ⟨?_, fun a ha => ?_⟩
  · rw [List.take_succ_eq_append_getElem hk, ← hy, List.map_append, List.sum_append, h.sum]; simp
  · rw [List.take_succ_eq_append_getElem hk, ← hy] at ha
    rcases List.mem_append.1 ha with ha | ha
    · exact h.ok a ha
    · rw [List.mem_singleton] at ha; subst ha; exact ⟨hf, hr⟩
theorem rows_take {l : List RowS} {k : Nat} {y : RowS} (hk : k < l.length) (hy : y = l[k]) (h : ∀ r ∈ l.take k, r.1.length ≤ 8) (h2 : y.1.length ≤ 8) : ∀ r ∈ l.take (k + 1), r.1.length ≤ 8 := by
  intro r hr
  rw [List.take_succ_eq_append_getElem hk, ← hy] at hr
  rcases List.mem_append.1 hr with hr | hr
  · exact h r hr
  · rw [List.mem_singleton] at hr; subst hr; exact h2
def FewP (l : List ActS) (e : Ending) : Prop := ∃ q, e = .returned (.bool q) ∧ (q = true → FewA l)
theorem FewP.no {l : List ActS} {v : Value} (h : v = .bool false) : FewP l (.returned v) := ⟨false, by rw [h], fun h => (by cases h)⟩
theorem FewP.yes {l : List ActS} {v : Value} (h : v = .bool true) (k : FewA l) : FewP l (.returned v) := ⟨true, by rw [h], fun _ => k⟩
set_option maxRecDepth 100000 in
set_option maxHeartbeats 4000000 in
theorem few_walk (v : Value) (l : List ActS) (W : World) (hR : RdA W W.heap.size v l) (hs : ∀ a ∈ l, a.rows.length ≤ 140737488355328) :
    Calls Tryz.prog 10 #[v] W fun e w' => FewP l e ∧ Ext W w' := by
  obtain ⟨A, c, rfl, hc, hA⟩ := hR
  have HA := Lib.hid hA
  have HS := Lib.hid hs
  obtain ⟨n, hn⟩ : ∃ n, n = l.length := ⟨_, rfl⟩
  rw [← hn]
  have HN := Lib.hid hn
  clear hA hc hn hs
  by_cases hg : n ≤ 20
  · have g0 : (n : Int) ≤ 20 := by omega
    go_enter Tryz.func10, Tryz.ntmps10
    go_wp2_with fail
    go_loopw [3, 4, 5] (fun nv iv _ wl => ∃ k s : Nat, k ≤ n ∧ s ≤ 150 ∧ iv = .int .i64 k ∧ nv = .int .i64 s ∧ Hid (FewT l k s) ∧ Hid (Ext W wl))
      (fun _ iv _ _ => n - (intOf iv).toNat)
    case atStart => exact ⟨0, 0, Nat.zero_le _, Nat.zero_le _, rfl, rfl, ⟨by simp, by simp⟩, Ext.refl _⟩
    case round =>
      obtain ⟨k, s, hk, hs, rfl, rfl, HF, HE⟩ := hrel
      by_cases hlt : k < n
      · have hl2 : k < l.length := by rw [← HN.out]; exact hlt
        rcases HA.out with h0 | ⟨b1, o1, e, hb1, hcl1⟩
        · subst h0; simp at hl2
        subst e
        obtain ⟨y, hy⟩ : ∃ y, y = l[k] := ⟨_, rfl⟩
        obtain ⟨w1, hw1⟩ : ∃ w1, w1 = wr := ⟨_, rfl⟩
        subst hw1
        obtain ⟨rv, fv, c0, c1, c2, c3, hrv, _, hfv, _⟩ : ActAt w1 W.heap.size b1 (o1 + k * 4) y := by rw [hy]; exact (hcl1 k hl2).below HE.out.below hb1
        have hsz := HS.out y (by rw [hy]; exact List.getElem_mem hl2)
        have HK := Lib.hid (fun h1 h2 => HF.out.succ hl2 hy h1 h2)
        obtain ⟨A2, ca, rfl, hca, hA2⟩ := hrv
        obtain ⟨A3, cb, rfl, hcb, _⟩ := hfv
        have HA2 := Lib.hid hA2
        obtain ⟨m, hm⟩ : ∃ m, m = y.rows.length := ⟨_, rfl⟩
        obtain ⟨q, hq⟩ : ∃ q, q = y.fs.length := ⟨_, rfl⟩
        rw [← hm] at hsz c1 HK
        rw [← hq] at c2 HK
        have HM := Lib.hid hm
        clear hy hcl1 hm hq hA2 hca hcb c0 c3
        have i1 : (k : Int) < (n : Int) := by omega
        have i2 : (m : Int) ≤ 140737488355328 := by omega
        have i3 : (s : Int) ≤ 150 := by omega
        have KC : Hid (∀ w', Ext w1 w' → w'.cell? ⟨b1, o1 + k * 4 + 1, none⟩ = some (.slice A2 m ca)) := fun w' h => h.cell_some c1
        by_cases hg1 : s + m ≤ 150
        · have g1 : ((s : Int) + (m : Int)) ≤ 150 := by omega
          by_cases hg2 : q ≤ 8
          · have g2 : (q : Int) ≤ 8 := by omega
            go_wp2_with fail
            go_loopw [5] (fun jv wl => ∃ j : Nat, j ≤ m ∧ jv = .int .i64 j ∧ Hid (∀ r ∈ y.rows.take j, r.1.length ≤ 8) ∧ Hid (Ext w1 wl))
              (fun jv _ => m - (intOf jv).toNat)
            case atStart => exact ⟨0, Nat.zero_le _, rfl, (by simp : ∀ r ∈ y.rows.take 0, r.1.length ≤ 8), Ext.refl _⟩
            case round =>
              obtain ⟨j, hj, rfl, HJ, HE2⟩ := hrel
              have d1 := KC.out _ HE2.out
              by_cases hlj : j < m
              · have hl3 : j < y.rows.length := by rw [← HM.out]; exact hlj
                rcases HA2.out with h0 | ⟨b2, o2, e, hb2, hcl2⟩
                · rw [h0] at hl3; simp at hl3
                subst e
                obtain ⟨z, hz⟩ : ∃ z, z = y.rows[j] := ⟨_, rfl⟩
                obtain ⟨lv, e0, hlv, _, _⟩ : RowAt w1 W.heap.size b2 (o2 + j * 5) z := by rw [hz]; exact hcl2 j hl3
                replace e0 := HE2.out.cell_some e0
                have HZ := Lib.hid (fun h => rows_take hl3 hz HJ.out h)
                obtain ⟨A4, cd, rfl, _, _⟩ := hlv
                obtain ⟨p, hp⟩ : ∃ p, p = z.1.length := ⟨_, rfl⟩
                rw [← hp] at e0 HZ
                clear hz hp hcl2
                have j1 : (j : Int) < (m : Int) := by omega
                by_cases hg3 : p ≤ 8
                · have g3 : (p : Int) ≤ 8 := by omega
                  have HZ2 := Lib.hid (HZ.out hg3)
                  go_wp2_with fail
                  go_roundw
                  case rel => exact ⟨j + 1, by omega, by go_num, HZ2.out, HE2.out⟩
                  case measure => simp [intOf]; omega
                · have g3 : ¬ (p : Int) ≤ 8 := by omega
                  go_wp2_with fail
                  go_ret
                  exact ⟨FewP.no rfl, HE.out.trans HE2.out⟩
              · have hjm : j = m := by omega
                have HF2 : Hid (FewT l (k + 1) (s + m)) := HK.out hg2 (by have := HJ.out; rwa [hjm, HM.out, List.take_length] at this)
                have j1 : ¬ (j : Int) < (m : Int) := by omega
                go_wp2_with fail
                go_roundw
                case rel => exact ⟨k + 1, s + m, by omega, by omega, by go_num, by go_num, HF2.out, HE.out.trans HE2.out⟩
                case measure => simp [intOf]; omega
          · have g2 : ¬ (q : Int) ≤ 8 := by omega
            go_wp2_with fail
            go_ret
            exact ⟨FewP.no rfl, HE.out⟩
        · have g1 : ¬ ((s : Int) + (m : Int)) ≤ 150 := by omega
          go_wp2_with fail
          go_ret
          exact ⟨FewP.no rfl, HE.out⟩
      · have hkn : k = n := by omega
        have HF2 : Hid (FewA l) := by
          have h := HF.out
          rw [hkn, HN.out] at h
          have h1 := h.sum
          have h2 := h.ok
          rw [List.take_length] at h1 h2
          exact ⟨by rw [← HN.out]; exact hg, by rw [h1]; exact hs, h2⟩
        have i1 : ¬ (k : Int) < (n : Int) := by omega
        go_wp2_with fail
        go_ret
        exact ⟨FewP.yes rfl HF2.out, HE.out⟩
  · have g0 : ¬ (n : Int) ≤ 20 := by omega
    go_enter Tryz.func10, Tryz.ntmps10
    go_wp2_with fail
    go_ret
    exact ⟨FewP.no rfl, Ext.refl _⟩
/-- A row of one label, job. -/
def rowJ (v : Str) (t m : Int) : RowS := ([([106, 111, 98], v)], (t, m, 0, 0))
set_option maxHeartbeats 1000000 in
theorem row_walk (v : Str) (t m : Int) (W : World) :
    Calls Tryz.prog 32 #[vT v, .int .i64 t, .int .i64 m] W fun e w' => e = .returned (vR (.slice (some ⟨W.heap.size + 1, 0, none⟩) 1 1) (rowJ v t m).2) ∧ RdL w' w'.heap.size (.slice (some ⟨W.heap.size + 1, 0, none⟩) 1 1) (rowJ v t m).1 ∧ Ext W w' := by
  unfold vT
  obtain ⟨x, hx⟩ : ∃ z : ByteArray, z = ⟨v.toArray⟩ := ⟨_, rfl⟩
  rw [← hx]
  have HX := Lib.hid hx
  have hr : Tryz.f32.results = #[.cell 6 28] := by kernel_rfl
  clear hx
  go_enter Tryz.func32, Tryz.ntmps32
  go_wp2_with fail
  refine bodyPost_ret (v := vR (.slice (some ⟨W.heap.size + 1, 0, none⟩) 1 1) (rowJ v t m).2) ?_ rfl ⟨rfl, ?_, ((Ext.refl W).alloc _).alloc _⟩
  · unfold results
    rw [hr]
    go_simp
    rfl
  · refine ⟨_, 1, rfl, Nat.le_refl _, .inr ⟨_, 0, rfl, by simp, fun i hi => ?_⟩⟩
    have h0 : i = 0 := by simp [rowJ] at hi; exact hi
    subst h0
    rw [HX.out]
    exact ⟨by simp [rowJ, vT], by simp [rowJ, vT]⟩
end Go.Proofs.YtkgcbeokfilehaaGreatDoor

/-
  eskerlaw20.awake: in plain words; the document's example.
-/
namespace Go.Proofs.YtkgcbeokfilehaaGreatDoor
open Go.RowKit Go.Sort Go.Maps
def jobT : Str := [106, 111, 98]
def awC : Lbs := [(jobT, [120])]
def awR : Told := [(awC, (151, 1, 0, 0)), (awC, (350, 1, 0, 0))]
def awRows : List RowS := [rowJ [120] 150 1, rowJ [120] 151 1, rowJ [120] 350 1, rowJ [120] 351 1]
theorem aw2_ref : refusedR 100 250 awRows = 2 := by decide +kernel
theorem aw2_add : addR 100 250 [] awRows = awR := by decide +kernel
theorem aw2_takes : takesR 100 252 (rowJ [120] 200 1) = true := by decide +kernel
theorem aw2_labs : labsOf awR = [awC] := by decide +kernel
theorem aw2_smp : smpOf awR awC = [(151, 1, 0, 0), (350, 1, 0, 0)] := by decide +kernel
theorem aw2_sort : sortS [(151, 1, 0, 0), (350, 1, 0, 0)] = [(151, 1, 0, 0), (350, 1, 0, 0)] := by
  refine sortS_is _ _ ?_ fun x => ?_
  · simp only [List.pairwise_cons, List.mem_cons, List.not_mem_nil, or_false, forall_eq, List.Pairwise.nil, and_true, false_implies, implies_true]
    exact .inl (by decide)
  · have hr : ∀ y ∈ ([(151, 1, 0, 0), (350, 1, 0, 0)] : List Smp), rightS y = true := by decide +kernel
    exact ⟨fun h => ⟨h, hr x h⟩, fun h => h.1⟩
theorem aw2_dd : dedupS 10 (smpOf awR awC) = [(151, 1, 0, 0), (350, 1, 0, 0)] := by
  rw [aw2_smp]; unfold dedupS; rw [aw2_sort]; decide +kernel
theorem aw2_tell1 : tellS 10 (fromS 0 250 100) 1000 [] awR = [(awC, [(151, 1, 0, 0), (350, 1, 0, 0)])] := by
  unfold tellS tellC; rw [aw2_labs]; simp only [List.filter_cons, List.filter_nil, aw2_dd]; decide +kernel
theorem aw2_tell2 : tellS 10 (fromS 0 252 100) 1000 [] awR = [(awC, [(350, 1, 0, 0)])] := by
  unfold tellS tellC; rw [aw2_labs]; simp only [List.filter_cons, List.filter_nil, aw2_dd]; decide +kernel
theorem aw2_names : (namesS awR).length = 1 := by unfold namesS; rw [aw2_labs]; decide +kernel
theorem aw2_values : (valuesS awR jobT).length = 1 := by unfold valuesS; rw [aw2_labs]; decide +kernel
theorem aw2_check : checkF [] = 0 := by decide
theorem RdX.cell1 {w : World} {B : Nat} {v : Value} {x : Ser} (h : RdX w B v [x]) : ∃ b o c lv sv, v = .slice (some ⟨b, o, none⟩) 1 c ∧ b < B ∧ w.cell? ⟨b, o, none⟩ = some lv ∧ w.cell? ⟨b, o + 1, none⟩ = some sv ∧ RdL w B lv x.1 ∧ Rd w B sv x.2 := by
  obtain ⟨A, c, rfl, _, h⟩ := h
  rcases h with h | ⟨b, o, rfl, hb, h⟩
  · cases h
  · obtain ⟨lv, sv, h1, h2, h3, _, h4, _⟩ := h 0 (by simp)
    exact ⟨b, o, c, lv, sv, rfl, hb, by simpa using h1, by simpa using h2, h3, h4⟩
/-- A row of labels in a block that does not turn. -/
theorem RdL.chg {w w' : World} {S : Nat → Prop} {B g o n c : Nat} {l : Lbs} (h : RdL w B (.slice (some ⟨g, o, none⟩) n c) l) (k : Chg S w w') (hg : ¬ S g) (hB : B ≤ w.heap.size) : RdL w' w'.heap.size (.slice (some ⟨g, o, none⟩) n c) l := by
  obtain ⟨A, c', e, hc, h⟩ := h
  injection e with e1 e2 e3
  subst e1 e2 e3
  refine ⟨_, _, rfl, hc, h.imp id ?_⟩
  rintro ⟨b, o', e, hb, hx⟩
  injection e with e
  injection e with e1 e2
  subst e1 e2
  have hblk : w'.heap[g]? = w.heap[g]? := k.block g (by omega) hg
  refine ⟨_, _, rfl, by have := k.size; omega, fun i hi => ?_⟩
  obtain ⟨h1, h2⟩ := hx i hi
  exact ⟨by rw [← h1]; simp [World.cell?, hblk], by rw [← h2]; simp [World.cell?, hblk]⟩
theorem rows4 {w w7 : World} {S : Nat → Prop} {lv1 lv2 lv3 lv4 : Value} {r1 r2 r3 r4 : RowS} (hS : ∀ k, S k → k < w.heap.size)
    (h1 : ∀ w', Chg S w7 w' → RdL w' w'.heap.size lv1 r1.1) (h2 : ∀ w', Chg S w7 w' → RdL w' w'.heap.size lv2 r2.1) (h3 : ∀ w', Chg S w7 w' → RdL w' w'.heap.size lv3 r3.1) (h4 : ∀ w', Chg S w7 w' → RdL w' w'.heap.size lv4 r4.1)
    (z1 : Nz lv1) (z2 : Nz lv2) (z3 : Nz lv3) (z4 : Nz lv4)
    (hw : w7 = w.alloc (.cells #[lv1, .int .i64 r1.2.1, .int .i64 r1.2.2.1, .int .i64 r1.2.2.2.1, .int .i64 r1.2.2.2.2, lv2, .int .i64 r2.2.1, .int .i64 r2.2.2.1, .int .i64 r2.2.2.2.1, .int .i64 r2.2.2.2.2, lv3, .int .i64 r3.2.1, .int .i64 r3.2.2.1, .int .i64 r3.2.2.2.1, .int .i64 r3.2.2.2.2, lv4, .int .i64 r4.2.1, .int .i64 r4.2.2.1, .int .i64 r4.2.2.2.1, .int .i64 r4.2.2.2.2] 28)) :
    RdWT w7 S (.slice (some ⟨w.heap.size, 0, none⟩) 4 4) [r1, r2, r3, r4] := by
  intro w' hk
  have hlt : w.heap.size < w7.heap.size := by rw [hw]; simp
  have hblk : ∀ i, w'.cell? ⟨w.heap.size, i, none⟩ = w7.cell? ⟨w.heap.size, i, none⟩ := fun i => by
    have := hk.block w.heap.size hlt (fun e => by have := hS _ e; omega)
    simp only [World.cell?, this]
  have hc : ∀ i, w'.cell? ⟨w.heap.size, i, none⟩ = (#[lv1, .int .i64 r1.2.1, .int .i64 r1.2.2.1, .int .i64 r1.2.2.2.1, .int .i64 r1.2.2.2.2, lv2, .int .i64 r2.2.1, .int .i64 r2.2.2.1, .int .i64 r2.2.2.2.1, .int .i64 r2.2.2.2.2, lv3, .int .i64 r3.2.1, .int .i64 r3.2.2.1, .int .i64 r3.2.2.2.1, .int .i64 r3.2.2.2.2, lv4, .int .i64 r4.2.1, .int .i64 r4.2.2.1, .int .i64 r4.2.2.2.1, .int .i64 r4.2.2.2.2] : Array Value)[i]? := fun i => by
    rw [hblk, hw]; exact new_cell _ _ _ i
  refine ⟨_, 4, rfl, Nat.le_refl _, .inr ⟨_, 0, rfl, Nat.lt_of_lt_of_le hlt hk.size, fun i hi => ?_⟩⟩
  match i, hi with
  | 0, _ => exact ⟨lv1, hc _, h1 w' hk, z1, hc _, hc _, hc _, hc _⟩
  | 1, _ => exact ⟨lv2, hc _, h2 w' hk, z2, hc _, hc _, hc _, hc _⟩
  | 2, _ => exact ⟨lv3, hc _, h3 w' hk, z3, hc _, hc _, hc _, hc _⟩
  | 3, _ => exact ⟨lv4, hc _, h4 w' hk, z4, hc _, hc _, hc _, hc _⟩
theorem FewL.aw : FewL awR := by
  intro r hr
  have : ∀ r ∈ awR, r.1.length ≤ 1000 := by decide +kernel
  exact this r hr
set_option maxRecDepth 100000 in
set_option maxHeartbeats 8000000 in
theorem awake_walkO (W : World) (T : Tabs W) :
    Calls Tryz.prog 9 #[] W fun e w' => e = .returned (.bool true) ∧ Below W.heap.size W w' := by
  have KR : Hid (∀ (t m : Int) w, Calls Tryz.prog 32 #[.string ⟨#[120]⟩, .int .i64 t, .int .i64 m] w fun e w' => e = .returned (.agg #[.slice (some ⟨w.heap.size + 1, 0, none⟩) 1 1, .int .i64 t, .int .i64 m, .int .i64 0, .int .i64 0]) ∧ Hid (RdL w' w'.heap.size (.slice (some ⟨w.heap.size + 1, 0, none⟩) 1 1) (rowJ [120] t m).1) ∧ Hid (Ext w w')) := fun t m w => row_walk [120] t m w
  have HT := Lib.hid T
  have KN := Lib.hid (new_walk 10 100 W)
  clear T
  go_enter Tryz.func9, Tryz.ntmps9
  go_wp2_with fail
  refine KN.out.mono ?_
  rintro e w1 ⟨rfl, hO1, hE1⟩
  have KC := Lib.hid (clock_walk hO1 250)
  have HE1 := Lib.hid hE1
  clear hO1 hE1 KN
  go_wp2_with fail
  refine KC.out.mono ?_
  rintro e w2 ⟨rfl, hO2, hC2⟩
  have HO2 := Lib.hid hO2
  have HC2 := Lib.hid hC2
  clear hO2 hC2 KC
  have HS2 : Hid (∀ k, (k = W.heap.size ∨ k = W.heap.size + 1) → k < w2.heap.size) := fun k hk => (HO2.out.lt hk).2
  go_wp2_with fail
  refine (KR.out 150 1 _).mono ?_; rintro e w3 ⟨rfl, HL3, HE3⟩
  go_wp2_with fail
  refine (KR.out 151 1 _).mono ?_; rintro e w4 ⟨rfl, HL4, HE4⟩
  go_wp2_with fail
  refine (KR.out 350 1 _).mono ?_; rintro e w5 ⟨rfl, HL5, HE5⟩
  go_wp2_with fail
  refine (KR.out 351 1 _).mono ?_; rintro e w6 ⟨rfl, HL6, HE6⟩
  go_wp2_with fail
  obtain ⟨S, hSd⟩ : ∃ S : Nat → Prop, S = fun k => k = W.heap.size ∨ k = W.heap.size + 1 := ⟨_, rfl⟩
  rw [← hSd] at HO2 HC2
  have hsb : S W.heap.size := by rw [hSd]; exact .inl rfl
  have HSW : Hid (∀ k, S k → W.heap.size ≤ k) := fun k hk => by rw [hSd] at hk; omega
  replace HS2 : Hid (∀ k, S k → k < w2.heap.size) := fun k hk => by rw [hSd] at hk; exact HS2.out k hk
  obtain ⟨w7, hw7⟩ : ∃ w7, w7 = w6.alloc (.cells #[.slice (some ⟨w2.heap.size + 1, 0, none⟩) 1 1, .int .i64 150, .int .i64 1, .int .i64 0, .int .i64 0, .slice (some ⟨w3.heap.size + 1, 0, none⟩) 1 1, .int .i64 151, .int .i64 1, .int .i64 0, .int .i64 0, .slice (some ⟨w4.heap.size + 1, 0, none⟩) 1 1, .int .i64 350, .int .i64 1, .int .i64 0, .int .i64 0, .slice (some ⟨w5.heap.size + 1, 0, none⟩) 1 1, .int .i64 351, .int .i64 1, .int .i64 0, .int .i64 0] 28) := ⟨_, rfl⟩
  have e7 : Ext w6 w7 := by rw [hw7]; exact (Ext.refl w6).alloc _
  have e5 := HE6.out.trans e7
  have e4 := HE5.out.trans e5
  have e3 := HE4.out.trans e4
  have e2 := HE3.out.trans e3
  have z3 := HE3.out.size
  have z4 := HE4.out.size
  have z5 := HE5.out.size
  have z6 := HE6.out.size
  have hR7 : RdWT w7 S (.slice (some ⟨w6.heap.size, 0, none⟩) 4 4) awRows := by
    refine rows4 (r1 := rowJ [120] 150 1) (r2 := rowJ [120] 151 1) (r3 := rowJ [120] 350 1) (r4 := rowJ [120] 351 1) (fun k hk => by have := HS2.out k hk; omega)
      (fun w' hk => (HL3.out.on e3.below).chg hk (fun e => by have := HS2.out _ e; omega) (Nat.le_refl _))
      (fun w' hk => (HL4.out.on e4.below).chg hk (fun e => by have := HS2.out _ e; omega) (Nat.le_refl _))
      (fun w' hk => (HL5.out.on e5.below).chg hk (fun e => by have := HS2.out _ e; omega) (Nat.le_refl _))
      (fun w' hk => (HL6.out.on e7.below).chg hk (fun e => by have := HS2.out _ e; omega) (Nat.le_refl _))
      (fun _ _ e => (by cases e)) (fun _ _ e => (by cases e)) (fun _ _ e => (by cases e)) (fun _ _ e => (by cases e)) hw7
  have hO7 := HO2.out.on e2.below
  have HB7 : Hid (Below W.heap.size W w7) := (HE1.out.below.trans (HC2.out.below (HE1.out.size) HSW.out)).trans (e2.below.mono (by have := HE1.out.size; have := HC2.out.size; omega))
  have KA := Lib.hid (add_walk hO7 hsb _ awRows hR7 (by decide) (by decide))
  rw [show keepN 100 = 100 by decide, show clkN 0 250 = 250 by decide, aw2_ref, aw2_add] at KA
  rw [← hw7]
  have HW7 := Lib.hid hw7
  clear hw7 e7 e5 e4 e3 e2 z3 z4 z5 z6 hR7 hO7 HL3 HL4 HL5 HL6 HE3 HE4 HE5 HE6 HS2 HO2 HC2 HE1 hSd
  refine KA.out.mono ?_
  rintro e w8 ⟨rfl, S', X', hA⟩
  have HO8 := Lib.hid hA.orc
  have HSl := Lib.hid hA.loc
  have HSb : Hid (∀ k, S' k → W.heap.size ≤ k) := fun k hk => by
    rcases HSl.out k hk with h | h
    · exact HSW.out k h
    · have := HB7.out.size; omega
  have HB8 : Hid (Below W.heap.size W w8) := HB7.out.trans (hA.chg.below HB7.out.size HSW.out)
  clear hA KA HSl HB7 HSW hsb
  have KS := Lib.hid (search_walk HO8.out (HT.out.below HB8.out) _ [] (RdF.empty w8 _) 0 1000 (by decide) FewL.aw aw2_check)
  rw [aw2_tell1] at KS
  go_wp2_with fail
  refine KS.out.mono ?_
  rintro e w9 ⟨v, xs, rfl, hv, hx, hB9⟩
  have hrx := hv.rdX
  rw [hx] at hrx
  have hlt := World.ownsRow.lt hv.row
  obtain ⟨b9, o9, c9, lv9, sv9, rfl, hb9, hc9, hs9, _, hrs9⟩ := hrx.cell1
  have hb9l := (hlt b9 rfl).1
  obtain ⟨A9, d9, rfl, _, _⟩ := hrs9
  have HO9 := Lib.hid (HO8.out.on hB9)
  have HB9 : Hid (Below W.heap.size W w9) := HB8.out.trans (hB9.mono HB8.out.size)
  have HN9 : Hid (∀ k, S' k → k ≠ b9) := fun k hk e => by have := (HO8.out.lt hk).2; omega
  have HC9 := Lib.hid hs9
  have HL9 := Lib.hid hb9
  clear hrx hlt hc9 hs9 hv hx hB9 hb9 hb9l KS HB8 HO8
  have KC := Lib.hid (clock_walk HO9.out 252)
  rw [show clkN 250 252 = 252 by decide] at KC
  clear HW7 HO9
  go_wp2_with fail
  refine KC.out.mono ?_
  rintro e w10 ⟨rfl, hO10, hC10⟩
  have hs10 : w10.cell? ⟨b9, o9 + 1, none⟩ = some (.slice A9 2 d9) := by
    have h1 := hC10.block b9 HL9.out (fun e => HN9.out _ e rfl)
    have h2 := HC9.out
    simp only [World.cell?, h1] at h2 ⊢
    exact h2
  have hl10 : b9 < w10.heap.size := Nat.lt_of_lt_of_le HL9.out hC10.size
  have HB10 : Hid (Below W.heap.size W w10) := HB9.out.trans (hC10.below HB9.out.size HSb.out)
  have HO10 := Lib.hid hO10
  have KS := Lib.hid (search_walk HO10.out (HT.out.below HB10.out) _ [] (RdF.empty w10 _) 0 1000 (by decide) FewL.aw aw2_check)
  rw [aw2_tell2] at KS
  have HC10 := Lib.hid hs10
  have HL10 := Lib.hid hl10
  clear hO10 hC10 KC HC9 HL9 HN9 hs10 hl10 HB9
  go_wp2_with fail
  refine KS.out.mono ?_
  rintro e w11 ⟨v, xs, rfl, hv, hx, hB11⟩
  have hrx := hv.rdX
  rw [hx] at hrx
  obtain ⟨b11, o11, c11, lv11, sv11, rfl, hb11, hc11, hs11, _, hrs11⟩ := hrx.cell1
  obtain ⟨A11, d11, rfl, _, _⟩ := hrs11
  have HO11 := Lib.hid (HO10.out.on hB11)
  have HB11 : Hid (Below W.heap.size W w11) := HB10.out.trans (hB11.mono HB10.out.size)
  have a1 : w11.cell? ⟨b9, o9 + 1, none⟩ = some (.slice A9 2 d9) := (hB11.cell HL10.out).trans HC10.out
  have KN := Lib.hid (now_walk HO11.out)
  have HF := Lib.hid FewL.aw
  clear hrx hv hx hB11 hb11 hc11 KS HB10 HO10 HC10 HL10
  go_wp2_with fail
  refine KN.out.mono ?_
  rintro e w12 ⟨rfl, hw12⟩
  subst hw12
  clear KN a1 hs11
  go_wp2_with fail
  refine (KR.out 200 1 _).mono ?_
  rintro e w13 ⟨rfl, HL13, HE13⟩
  have KT := Lib.hid (takes_walk (HO11.out.on HE13.out.below) _ (rowJ [120] 200 1).1 (rowJ [120] 200 1).2 HL13.out (fun _ _ e => (by cases e)))
  rw [show ((rowJ [120] 200 1).1, (rowJ [120] 200 1).2) = rowJ [120] 200 1 from rfl, aw2_takes] at KT
  go_wp2_with fail
  refine KT.out.mono ?_
  rintro e w14 ⟨rfl, hB14⟩
  have HB14 : Hid (Below w12.heap.size w12 w14) := HE13.out.below.trans (hB14.mono HE13.out.size)
  clear KT hB14 HL13 HE13
  have KM := Lib.hid (names_walk (HO11.out.on HB14.out) (by decide) HF.out)
  go_wp2_with fail
  refine KM.out.mono ?_
  rintro e w15 ⟨v, rfl, ⟨A15, c15, rfl, _⟩, hB15⟩
  have HB15 : Hid (Below w12.heap.size w12 w15) := HB14.out.trans (hB15.mono HB14.out.size)
  rw [aw2_names]
  clear hB15 HB14 KM
  have KV : Hid (Calls Tryz.prog 19 #[.pointer (some ⟨W.heap.size + 1, 0, none⟩), .string ⟨#[106, 111, 98]⟩] w15 fun e w' => ∃ v, e = .returned v ∧ RdT w' w'.heap.size v (valuesS awR jobT) ∧ Below w15.heap.size w15 w') := values_walk (HO11.out.on HB15.out) jobT (by decide) HF.out
  go_wp2_with fail
  refine KV.out.mono ?_
  rintro e w16 ⟨v, rfl, ⟨A16, c16, rfl, _⟩, hB16⟩
  rw [aw2_values]
  clear KV
  go_wp2_with fail
  go_ret
  exact ⟨rfl, HB11.out.trans ((HB15.out.trans (hB16.mono HB15.out.size)).mono HB11.out.size)⟩
end Go.Proofs.YtkgcbeokfilehaaGreatDoor

/-
  An oracle that a law made itself, step by step.
-/
namespace Go.Proofs.YtkgcbeokfilehaaGreatDoor
open Go.RowKit Go.Sort Go.Maps
/-- An oracle all of which lies in blocks from W on. -/
def Liv (W w : World) (o : Nat) (every keep now : Int) (R : Told) : Prop := ∃ S B b X, Orc w S B o b every keep now X R ∧ S b ∧ W.heap.size ≤ B
theorem Liv.on {W w w' : World} {o : Nat} {every keep now : Int} {R : Told} (h : Liv W w o every keep now R) (k : Below w.heap.size w w') : Liv W w' o every keep now R := by
  obtain ⟨S, B, b, X, h1, h2, h3⟩ := h
  exact ⟨S, B, b, X, h1.on k, h2, h3⟩
theorem Liv.bd {W w : World} {o : Nat} {every keep now : Int} {R : Told} (h : Liv W w o every keep now R) : 1 ≤ keep ∧ keep ≤ 1099511627776 ∧ 0 ≤ now ∧ now ≤ 1099511627776 := by
  obtain ⟨S, B, b, X, h1, h2, h3⟩ := h
  exact h1.bd
theorem Chg.far {W w w' : World} {S : Nat → Prop} {B : Nat} (h : Chg S w w') (hS : ∀ k, S k → B ≤ k) (hB : W.heap.size ≤ B) (hW : W.heap.size ≤ w.heap.size) : Below W.heap.size w w' :=
  h.below hW (fun k hk => Nat.le_trans hB (hS k hk))
theorem rdWT_low {W w : World} {S : Nat → Prop} {B : Nat} {v : Value} {l : List RowS} (h : RdW w W.heap.size v l) (hS : ∀ k, S k → B ≤ k) (hB : W.heap.size ≤ B) (hW : W.heap.size ≤ w.heap.size) : RdWT w S v l := fun w' hk => by
  have := hk.far hS hB hW
  exact (h.below this).mono (Nat.le_trans hW hk.size)
theorem rdFT_low {W w : World} {S : Nat → Prop} {B : Nat} {v : Value} {l : List Fil} (h : RdF w W.heap.size v l) (hS : ∀ k, S k → B ≤ k) (hB : W.heap.size ≤ B) (hW : W.heap.size ≤ w.heap.size) : RdFT w S v l := fun w' hk => by
  have := hk.far hS hB hW
  exact (h.below this).mono (Nat.le_trans hW hk.size)
theorem row_nz {w : World} {B e s n : Nat} {v : Value} {xs : List Value} (h : w.ownsRow B e s v n xs) : Nz v := by
  rcases h.2 with ⟨rfl, _⟩ | ⟨g, cap, cur, rfl, _⟩
  · intro n c h; cases h; rfl
  · intro n c h; cases h
theorem liv_search {W w : World} {o : Nat} {every keep now : Int} {R : Told} (h : Liv W w o every keep now R) (T : Tabs w) {fv : Value} {fs : List Fil} (hF : RdF w w.heap.size fv fs) (f t : Int) (hRl : R.length ≤ 60000) (hfl : FewL R) (hq : checkF fs = 0) :
    Calls Tryz.prog 14 #[.pointer (some ⟨o, 0, none⟩), fv, .int .i64 f, .int .i64 t] w fun e w' =>
      ∃ v, e = .returned (.tuple #[v, .int .i64 0]) ∧ RdX w' w'.heap.size v (tellS every (fromS f now keep) t fs R) ∧ Nz v ∧ Below w.heap.size w w' := by
  obtain ⟨S, B, b, X, h1, h2, h3⟩ := h
  refine (search_walk h1 T fv fs hF f t hRl hfl hq).mono ?_
  rintro e w' ⟨v, xs, k1, k2, k3, k4⟩
  exact ⟨v, k1, k3 ▸ k2.rdX, row_nz k2.row, k4⟩
/-- A row of series of one's own, cell by cell. -/
theorem OutV.cells {w : World} {B : Nat} {v : Value} {xs : List SerV} (h : OutV w B v xs) : ∃ A c, v = .slice A xs.length c ∧ xs.length ≤ c ∧ (xs = [] ∨ ∃ g, A = some ⟨g, 0, none⟩ ∧ g < w.heap.size ∧ ∀ i (hi : i < xs.length), w.cell? ⟨g, 0 + i * 2, none⟩ = some xs[i].1 ∧ w.cell? ⟨g, 0 + i * 2 + 1, none⟩ = some xs[i].2.1) := by
  rcases h.row.2 with ⟨rfl, hn⟩ | ⟨g, cap, cur, rfl, hb, hc, h1, h2, h3, h4⟩
  · have : xs = [] := List.eq_nil_of_length_eq_zero hn
    subst this
    exact ⟨none, 0, rfl, Nat.zero_le _, .inl rfl⟩
  · refine ⟨some ⟨g, 0, none⟩, cap, rfl, h1, .inr ⟨g, rfl, (Array.getElem?_eq_some_iff.1 hc).1, fun i hi => ?_⟩⟩
    have hcell : ∀ t (ht : t < 2), w.cell? ⟨g, 0 + i * 2 + t, none⟩ = (serC xs[i])[t]? := by
      intro t ht
      have e1 : w.cell? ⟨g, 0 + i * 2 + t, none⟩ = cur[0 + i * 2 + t]? := by simp [World.cell?, hc]
      have e2 : (cur.toList.take (xs.length * 2))[i * 2 + t]? = cur.toList[i * 2 + t]? := List.getElem?_take_of_lt (by omega)
      rw [e1, Nat.zero_add, ← flatV_at xs i t hi ht, ← h4, e2, Array.getElem?_toList]
    exact ⟨hcell 0 (by omega), hcell 1 (by omega)⟩
theorem liv_takes {W w : World} {o : Nat} {every keep now : Int} {R : Told} (h : Liv W w o every keep now R) (lv : Value) (l : Lbs) (s : Smp) (hR : RdL w w.heap.size lv l) (hz : Nz lv) :
    Calls Tryz.prog 22 #[.pointer (some ⟨o, 0, none⟩), vR lv s] w fun e w' => e = .returned (.bool (takesR keep now (l, s))) ∧ Below w.heap.size w w' := by
  obtain ⟨S, B, b, X, h1, h2, h3⟩ := h
  exact takes_walk h1 lv l s hR hz
theorem canonL_length (l : Lbs) : (canonL l).length = l.length := by
  unfold canonL
  induction l with
  | nil => rfl
  | cons a l ih => rw [List.foldr_cons, (insN_perm a _).length_eq, List.length_cons, ih, List.length_cons]
theorem mayL_len {l : Lbs} (h : mayL l = true) : l.length ≤ 1000 := by
  have := mayL_parts h
  omega
theorem FewL.add {keep now : Int} {R : Told} {l : List RowS} (h : FewL R) (hl : ∀ r ∈ l, r.1.length ≤ 8) : FewL (addR keep now R l) := by
  intro x hx
  rcases mem_addR.1 hx with hx | ⟨r, hr, _, rfl⟩
  · exact h x hx
  · show (canonL r.1).length ≤ _
    rw [canonL_length]; have := hl r hr; omega
theorem FewL.nil : FewL [] := fun _ h => absurd h List.not_mem_nil
/-- What is told is few. -/
theorem tellS_few {d f t : Int} {fs : List Fil} {R : Told} (hR : R.length ≤ 60000) (hf : FewL R) : FewX (tellS d f t fs R) := by
  refine ⟨?_, fun x hx => ?_⟩
  · unfold tellS
    rw [List.length_map]
    have := List.length_filter_le (fun c => allF fs c && decide (tellC d f t R c ≠ [])) (labsOf R)
    have := labs_length R
    omega
  · unfold tellS at hx
    obtain ⟨c, hc, rfl⟩ := List.mem_map.1 hx
    have h1 := hf.at_ (mem_labs.1 (List.mem_filter.1 hc).1)
    refine ⟨by show c.length ≤ _; omega, ?_⟩
    show (tellC d f t R c).length ≤ _
    unfold tellC
    have h2 := List.length_filter_le (fun s => !outS f t s) (dedupS d (smpOf R c))
    have h3 := dedupS_length d (smpOf R c)
    have h4 := smpOf_length R c
    have : (delS f t (dedupS d (smpOf R c))).length ≤ (dedupS d (smpOf R c)).length := List.length_filter_le _ _
    omega
end Go.Proofs.YtkgcbeokfilehaaGreatDoor

/-
  Two oracles that a law made itself: neither turns the other.
-/
namespace Go.Proofs.YtkgcbeokfilehaaGreatDoor
open Go.RowKit Go.Sort Go.Maps
def Two (W w : World) (o1 o2 : Nat) (every keep n1 n2 : Int) (R1 R2 : Told) : Prop :=
  ∃ S1 B1 b1 X1 S2 B2 b2 X2, Orc w S1 B1 o1 b1 every keep n1 X1 R1 ∧ S1 b1 ∧ W.heap.size ≤ B1 ∧ Orc w S2 B2 o2 b2 every keep n2 X2 R2 ∧ S2 b2 ∧ W.heap.size ≤ B2 ∧ ∀ k, S1 k → ¬ S2 k
section
variable {W w : World} {o1 o2 : Nat} {every keep n1 n2 : Int} {R1 R2 : Told}
theorem Two.fst (h : Two W w o1 o2 every keep n1 n2 R1 R2) : Liv W w o1 every keep n1 R1 := by
  obtain ⟨S1, B1, b1, X1, S2, B2, b2, X2, h1, h2, h3, h4, h5, h6, h7⟩ := h
  exact ⟨S1, B1, b1, X1, h1, h2, h3⟩
theorem Two.swap (h : Two W w o1 o2 every keep n1 n2 R1 R2) : Two W w o2 o1 every keep n2 n1 R2 R1 := by
  obtain ⟨S1, B1, b1, X1, S2, B2, b2, X2, h1, h2, h3, h4, h5, h6, h7⟩ := h
  exact ⟨S2, B2, b2, X2, S1, B1, b1, X1, h4, h5, h6, h1, h2, h3, fun k a b => h7 k b a⟩
theorem Two.on {w' : World} (h : Two W w o1 o2 every keep n1 n2 R1 R2) (k : Below w.heap.size w w') : Two W w' o1 o2 every keep n1 n2 R1 R2 := by
  obtain ⟨S1, B1, b1, X1, S2, B2, b2, X2, h1, h2, h3, h4, h5, h6, h7⟩ := h
  exact ⟨S1, B1, b1, X1, S2, B2, b2, X2, h1.on k, h2, h3, h4.on k, h5, h6, h7⟩
/-- Rows that can be read as long as just what a law's oracles own turns. -/
def RdWU (W w w' : World) (v : Value) (l : List RowS) : Prop := ∀ S : Nat → Prop, (∀ k, S k → W.heap.size ≤ k ∧ k < w.heap.size) → RdWT w' S v l
theorem RdWU.low {w' : World} {v : Value} {l : List RowS} (h : RdW W W.heap.size v l) (hB : Below W.heap.size W w') : RdWU W w w' v l := fun _ hS =>
  rdWT_low (h.below hB) (fun k hk => (hS k hk).1) (Nat.le_refl _) hB.size
end
/-- One row alone, in a block of its own. -/
theorem row1 {W w w' : World} {lv : Value} {r : RowS} (hB : Below W.heap.size W w) (hw : w' = w.alloc (.cells #[lv, .int .i64 r.2.1, .int .i64 r.2.2.1, .int .i64 r.2.2.2.1, .int .i64 r.2.2.2.2] 28)) (hl : RdL W W.heap.size lv r.1) (hz : Nz lv) :
    RdWU W w w' (.slice (some ⟨w.heap.size, 0, none⟩) 1 1) [r] := by
  intro S hS w2 hk
  have hlt : w.heap.size < w'.heap.size := by rw [hw]; simp
  have hE : Below w.heap.size w w' := by rw [hw]; exact (Below.refl _ _).alloc (Nat.le_refl _) _
  have hB' := hB.trans (hE.mono hB.size)
  have hB2 : Below W.heap.size W w2 := hB'.trans (hk.far (fun k h => (hS k h).1) (Nat.le_refl _) hB'.size)
  have hc : ∀ i, w2.cell? ⟨w.heap.size, i, none⟩ = (#[lv, .int .i64 r.2.1, .int .i64 r.2.2.1, .int .i64 r.2.2.2.1, .int .i64 r.2.2.2.2] : Array Value)[i]? := fun i => by
    have := hk.block w.heap.size hlt (fun e => by have := (hS _ e).2; omega)
    rw [← new_cell w _ 28 i, ← hw]
    simp only [World.cell?, this]
  refine ⟨_, 1, rfl, Nat.le_refl _, .inr ⟨_, 0, rfl, Nat.lt_of_lt_of_le hlt hk.size, fun i hi => ?_⟩⟩
  match i, hi with
  | 0, _ => exact ⟨lv, hc _, (hl.below hB2).mono hB2.size, hz, hc _, hc _, hc _, hc _⟩
end Go.Proofs.YtkgcbeokfilehaaGreatDoor
