/-
  stream.Months.
-/
import Derived.Test.YtkcipfmbkokfdaaGreatDoorMo2k
import Derived.Deep.RegionHeld3
import Derived.Deep.DrawnRows
import Derived.WalkArith
namespace Go.Proofs.YtkcipfmbkokfdaaGreatDoor
open Go.RowKit Go.Sort Go.Maps
attribute [local go_sem ↓] Go.wp_at_zero Go.wp_at_succ
theorem Rd.on' {w w' : World} {v : Value} {l : List Smp} (h : Rd w w.heap.size v l) (k : Below w.heap.size w w') : Rd w' w'.heap.size v l := (h.below k).mono k.size
set_option maxRecDepth 100000 in
set_option maxHeartbeats 4000000 in
theorem smonths_walk (v : Value) (l : List Pts) (W : World) (T : Tabs W) (hR : RdP W W.heap.size v l) (hwf : ∀ p ∈ l, (Lit.int .i64 p.1).wf = true) (hn2 : l.length ≤ 100000) (hn3 : manyL l ≤ 100000) :
    Calls Tryz.prog 16 #[v] W fun e w' => ∃ r, e = .returned r ∧ MonR w' (cleanS l) r ∧ Below W.heap.size W w' := by
  have hmm := @run_makeMap Tryz.prog
  have hB0 : Below W.heap.size W (W.alloc (.map #[] 0)) := (Below.refl _ W).alloc (Nat.le_refl _) _
  have HK := Lib.hid (scleanO v l (W.alloc (.map #[] 0)) (T.below hB0) (hR.on hB0) hwf hn2 hn3)
  have HB0 := Lib.hid hB0
  obtain ⟨A, c, rfl, hc, _⟩ := hR
  have HCl := Lib.hid (cleanS_clean l)
  have HBd : Hid ((cleanS l).length ≤ 100000 ∧ manyL (cleanS l) ≤ 100000) := ⟨Nat.le_trans (cleanS_length l) hn2, Nat.le_trans (cleanS_many l) hn3⟩
  obtain ⟨n0, hn0⟩ : ∃ n0, n0 = l.length := ⟨_, rfl⟩
  rw [← hn0] at hc hn2 HK ⊢
  clear hwf hn3 T hn0 hn2 hB0
  obtain ⟨q, hq⟩ : ∃ q, q = cleanS l := ⟨_, rfl⟩
  rw [← hq] at HK HCl HBd ⊢
  clear hq
  go_enter Tryz.func16, Tryz.ntmps16
  go_wp2_with fail
  refine HK.out.mono ?_
  rintro e w1 ⟨r, rfl, h2, h3⟩
  have HBM : Hid ((W.alloc (.map #[] 0)).grownBy w1 none) := ⟨h3.os, h3.tape, h3.output, h3.size, fun i hi _ => h3.block i hi⟩
  have HB1 : Hid (Below W.heap.size W w1) := HB0.out.trans (h3.mono HB0.out.size)
  obtain ⟨b, hb⟩ : ∃ b, b = W.heap.size := ⟨_, rfl⟩
  have HbE := Lib.hid hb
  have hblt : b < w1.heap.size := by rw [hb]; have := h3.size; simp at this; omega
  have HM0 : Hid (Mon w1 b w1.heap.size w1.heap.size 0 b (fun _ => []) (fun _ => false)) := Mon.made hb HBM.out hblt (Nat.le_refl _)
  rw [← hb]
  clear hb
  obtain ⟨A2, c2, rfl, hc2, hA2⟩ := h2.rdP
  obtain ⟨m, hm⟩ : ∃ m, m = q.length := ⟨_, rfl⟩
  have hbd := HBd.out.1
  rw [← hm] at hc2 hbd
  rw [← hm]
  have HM := Lib.hid hm
  have HA := Lib.hid hA2
  clear h2 h3 hA2 hm HK
  go_wp2_with fail
  go_loopw [17] (fun i wl => ∃ (k cnt bx : Nat) (L : Int → List Row) (S : Int → Bool), k ≤ m ∧ i = .int .i64 k ∧ Hid (Mon wl b w1.heap.size w1.heap.size cnt bx L S) ∧ Hid (∀ z, cut (L z) = monthC (q.take k) z) ∧ Hid (∀ z, S z = true ↔ hasM (q.take k) z) ∧ Hid (cnt ≤ manyL (q.take k)) ∧ Hid (w1.grownBy wl (some b))) (fun i _ => m - (intOf i).toNat)
  case atStart => exact ⟨0, 0, b, _, _, Nat.zero_le _, rfl, HM0.out, fun z => rfl, fun z => ⟨fun h => (by cases h), fun ⟨p, hp, _⟩ => absurd hp List.not_mem_nil⟩, Nat.zero_le _, ⟨rfl, rfl, rfl, Nat.le_refl _, fun _ _ _ => rfl⟩⟩
  case round =>
    obtain ⟨k, cnt, bx, L, S, hk, rfl, HMo, HL, HS, HCn, HG⟩ := hrel
    by_cases hlt : k < m
    · have hkl : k < q.length := by rw [← HM.out]; exact hlt
      rcases HA.out with h0 | ⟨b3, o3, e, hb3, hcl⟩
      · subst h0; simp at hkl
      subst e
      obtain ⟨p, hp⟩ : ∃ p, p = q[k] := ⟨_, rfl⟩
      obtain ⟨c3, sv, c4, hsv, _⟩ : PtAt w1 w1.heap.size b3 (o3 + k * 2) p := by rw [hp]; exact hcl k hkl
      have hpm : p ∈ q := by rw [hp]; exact List.getElem_mem hkl
      have hnb : b3 ≠ b := by
        intro e9
        obtain ⟨D, G, _⟩ := HM0.out.map
        have := ownsMap_cell G.map (o3 + k * 2)
        rw [e9] at c3
        rw [this] at c3
        cases c3
      have c3' : wr.cell? ⟨b3, o3 + k * 2, none⟩ = some (.int .i64 p.1) := (HG.out.cell_far _ hb3 (fun e => hnb (by injection e))).trans c3
      have c4' : wr.cell? ⟨b3, o3 + k * 2 + 1, none⟩ = some sv := (HG.out.cell_far _ hb3 (fun e => hnb (by injection e))).trans c4
      have HSv := Lib.hid hsv
      have htk : q.take (k + 1) = q.take k ++ [p] := by rw [hp]; exact List.take_succ_eq_append_getElem hkl
      have HTk := Lib.hid htk
      have HUp := Lib.hid (HCl.out.up p hpm)
      have HNe := Lib.hid (HCl.out.ne p hpm)
      have HPb : Hid (∀ x ∈ p.2, 0 ≤ x.1 ∧ x.1 ≤ 1099511627776) := fun x hx => rightS_bd (HCl.out.bd p hpm x hx)
      have hp5 : p.2.length ≤ 100000 := by have := many_mem hpm; have := HBd.out.2; omega
      have HCm : Hid (manyL (q.take k) + p.2.length ≤ 100000) := by
        have h1 := manyL_take q (k + 1)
        rw [htk, manyL_snoc] at h1
        have := HBd.out.2
        show _ ≤ _
        omega
      obtain ⟨A4, c5, rfl, hc5, hA4⟩ := hsv
      rcases hA4 with h0 | ⟨b4, o4, e, hb4, hcl4⟩
      · exact absurd h0 HNe.out
      subst e
      have HC4 := Lib.hid hcl4
      have hnb4 : b4 ≠ b := by
        intro e9
        obtain ⟨D, G, _⟩ := HM0.out.map
        have h9 := (hcl4 0 (List.length_pos_iff.2 HNe.out)).1
        have := ownsMap_cell G.map (o4 + 0 * 4)
        rw [e9] at h9
        rw [this] at h9
        cases h9
      obtain ⟨sl, hsl⟩ : ∃ sl, sl = p.2 := ⟨_, rfl⟩
      obtain ⟨id, hid⟩ : ∃ id, id = p.1 := ⟨_, rfl⟩
      have hpe : p = (id, sl) := by rw [hsl, hid]
      rw [hpe] at HTk
      rw [← hsl] at HSv HUp HNe HPb hp5 HCm hc5 c4' HC4
      rw [← hid] at c3'
      obtain ⟨n5, hn5⟩ : ∃ n, n = sl.length := ⟨_, rfl⟩
      rw [← hn5] at c4' hc5 hp5 HCm HSv
      have HN5 := Lib.hid hn5
      have i1 : (k : Int) < (m : Int) := by omega
      have hszw : w1.heap.size ≤ wr.heap.size := HG.out.size
      clear hp hcl hcl4 hn5 hpm c3 c4 htk hpe hsl hid HM0 HBM
      go_wp2_with fail
      obtain ⟨bp, hbp⟩ : ∃ bp, bp = wr.heap.size := ⟨_, rfl⟩
      obtain ⟨wp, hwp⟩ : ∃ wp, wp = wr.alloc (.cells #[.int .i64 id, .slice (some ⟨b4, o4, none⟩) n5 c5] 48) := ⟨_, rfl⟩
      have e0 : wp.cell? ⟨bp, 0, none⟩ = some (.int .i64 id) := by rw [hwp, hbp]; exact new_cell _ _ _ 0
      have e1 : wp.cell? ⟨bp, 1, none⟩ = some (.slice (some ⟨b4, o4, none⟩) n5 c5) := by rw [hwp, hbp]; exact new_cell _ _ _ 1
      have e2 : wp.frozen? ⟨bp, 1, none⟩ = false := by rw [hwp, hbp]; unfold World.frozen?; simp only; rw [World.alloc_heap_new]; rfl
      have HMp : Hid (Mon wp b w1.heap.size w1.heap.size cnt bp L S) := by
        show Mon _ _ _ _ _ _ _ _
        rw [hwp, hbp]
        exact HMo.out.rebox.kept hszw (World.grownBy_alloc _ _ none)
      have hbpB : w1.heap.size ≤ bp := by rw [hbp]; exact hszw
      have HGp : Hid (w1.grownBy wp (some b)) := by
        show World.grownBy _ _ _
        rw [hwp]
        exact ⟨HG.out.os, HG.out.tape, HG.out.output, Nat.le_trans hszw (by simp), fun i hi hne => (Below.heap_alloc _ _ i (by omega)).trans (HG.out.block i hi hne)⟩
      have e0' := Lib.hid e0
      have e1' := Lib.hid e1
      have e2' := Lib.hid e2
      rw [← hwp, ← hbp]
      clear hwp hbp e0 e1 e2 HMo HG hszw
      go_loopw [8] (fun _ wl => ∃ (t n9 c9 cnt' : Nat) (A9 : Option Addr) (L' : Int → List Row) (S' : Int → Bool), t ≤ n5 ∧ n9 = n5 - t ∧ wl.cell? ⟨bp, 0, none⟩ = some (.int .i64 id) ∧ wl.cell? ⟨bp, 1, none⟩ = some (.slice A9 n9 c9) ∧ wl.frozen? ⟨bp, 1, none⟩ = false ∧ (0 < n9 → A9 = some ⟨b4, o4 + t * 4, none⟩ ∧ c9 = c5 - t) ∧
          Hid (Mon wl b w1.heap.size w1.heap.size cnt' bp L' S') ∧ Hid (∀ z, cut (L' z) = monthC (q.take k ++ [(id, sl.take t)]) z) ∧ Hid (∀ z, S' z = true ↔ hasM (q.take k ++ [(id, sl.take t)]) z) ∧ Hid (cnt' ≤ manyL (q.take k) + t) ∧ Hid (w1.grownBy wl (some b)) ∧ Hid (∀ x ∈ sl.take t, ∀ y ∈ sl.drop t, x.1 / 1000 < y.1 / 1000)) (fun _ wl => boxLen wl bp)
      case atStart =>
        refine ⟨0, n5, c5, cnt, _, L, S, Nat.zero_le _, rfl, e0'.out, e1'.out, e2'.out, fun _ => ⟨by rw [Nat.zero_mul, Nat.add_zero], rfl⟩, HMp.out, fun z => ?_, fun z => ?_, HCn.out, HGp.out, fun x hx => absurd hx List.not_mem_nil⟩
        · rw [List.take_zero, month_start]; exact HL.out z
        · rw [HS.out z]
          constructor
          · rintro ⟨p', hp', x, hx, e⟩
            exact ⟨p', List.mem_append_left _ hp', x, hx, e⟩
          · rintro ⟨p', hp', x, hx, e⟩
            rcases List.mem_append.1 hp' with hp' | hp'
            · exact ⟨p', hp', x, hx, e⟩
            · rw [List.mem_singleton] at hp'
              subst hp'
              exact absurd hx List.not_mem_nil
      case round =>
        obtain ⟨t, n9, c9, cnt', A9, L', S', ht, hn9, f0, f1, f2, hA9, HM1, HL1, HS1, HC1, HG1, HSep⟩ := hrel
        have HN9 := Lib.hid hn9
        clear hn9
        by_cases hlt2 : 0 < n9
        · obtain ⟨rfl, rfl⟩ := hA9 hlt2
          have htl : t < sl.length := by have := HN9.out; rw [← HN5.out]; omega
          obtain ⟨y, hy⟩ : ∃ y, y = sl[t].1 := ⟨_, rfl⟩
          have hcw : ∀ i, i < sl.length → Cell4 wr b4 (o4 + i * 4) sl[i]! := fun i hi => by
            obtain ⟨q0, q1, q2, q3⟩ := HC4.out i hi
            have hk2 := fun u => HG1.out.cell_far ⟨b4, u, none⟩ hb4 (fun e => hnb4 (by injection e))
            rw [getElem!_pos sl i hi]
            exact ⟨(hk2 _).trans q0, (hk2 _).trans q1, (hk2 _).trans q2, (hk2 _).trans q3⟩
          have g0 : wr.cell? ⟨b4, o4 + t * 4, none⟩ = some (.int .i64 y) := by
            have := (hcw t htl).1
            rw [getElem!_pos sl t htl] at this
            rw [hy]; exact this
          obtain ⟨y1, y2⟩ : 0 ≤ y ∧ y ≤ 1099511627776 := by rw [hy]; exact HPb.out _ (List.getElem_mem htl)
          have hRs : Rd wr wr.heap.size (.slice (some ⟨b4, o4 + t * 4, none⟩) n9 (c5 - t)) (sl.drop t) := by
            have hw2 : Rd wr wr.heap.size (.slice (some ⟨b4, o4, none⟩) n5 c5) sl := ⟨_, c5, by rw [HN5.out], by rw [← HN5.out]; exact hc5, .inr ⟨b4, o4, rfl, Nat.lt_of_lt_of_le hb4 HG1.out.size, fun i hi => by
              have := hcw i hi
              rw [getElem!_pos sl i hi] at this
              exact this⟩⟩
            rw [HN9.out]
            exact hw2.cutFrom HN5.out (by have := HN9.out; omega)
          have hRs0 : Rd wr w1.heap.size (.slice (some ⟨b4, o4 + t * 4, none⟩) n9 (c5 - t)) (sl.drop t) := by
            have hw2 : Rd wr w1.heap.size (.slice (some ⟨b4, o4, none⟩) n5 c5) sl := ⟨_, c5, by rw [HN5.out], by rw [← HN5.out]; exact hc5, .inr ⟨b4, o4, rfl, hb4, fun i hi => by
              have := hcw i hi
              rw [getElem!_pos sl i hi] at this
              exact this⟩⟩
            rw [HN9.out]
            exact hw2.cutFrom HN5.out (by have := HN9.out; omega)
          have HRs0 := Lib.hid hRs0
          have HBL : Hid (boxLen wr bp = n9) := boxLen_of f1
          have HY := Lib.hid hy
          have hszw : w1.heap.size ≤ wr.heap.size := HG1.out.size
          obtain ⟨mo, hmo⟩ : ∃ mo, mo = y / 1000 := ⟨_, rfl⟩
          obtain ⟨wq, hwq⟩ : ∃ wq, wq = wr.alloc (.cells #[.int .i64 mo] 2) := ⟨_, rfl⟩
          have hBq : Below wr.heap.size wr wq := by rw [hwq]; exact (Below.refl _ _).alloc (Nat.le_refl _) _
          have KI := Lib.hid (idxf_walk _ (sl.drop t) wr.heap.size mo wq (hRs.on' hBq) (by rw [hwq]; exact new_cell _ _ _ 0) (fun x hx => HPb.out x (List.mem_of_mem_drop hx)) (by rw [List.length_drop]; have := HN5.out; omega))
          have hm0 : sl[t].1 / 1000 = mo := by rw [hmo, hy]
          have HLo := Lib.hid (fun r h => run_ok (r := r) HUp.out htl hm0 h)
          have HM0e := Lib.hid hm0
          have hnc : n9 ≤ c5 - t := by have := HN9.out; omega
          have hbpr : bp < wr.heap.size := lt_of_cell f0
          have hbne : bp ≠ wr.heap.size := by omega
          clear hy hRs hRs0 hcw hm0
          go_wp2_with fail
          rw [← hmo, ← hwq]
          have HBq := Lib.hid hBq
          have HQc : Hid (wq.cell? ⟨wr.heap.size, 0, none⟩ = some (.int .i64 mo)) := by show _ = _; rw [hwq]; exact new_cell _ _ _ 0
          have HQs : Hid (wr.heap.size < wq.heap.size) := by show _ < _; rw [hwq]; simp
          have hwf : (Lit.int .i64 mo).wf = true := WalkArith.wf_i64 (by omega)
          refine KI.out.mono ?_
          rintro e w2 ⟨r, rfl, hI, h2⟩
          obtain ⟨nn, hRun, hr⟩ := HLo.out r hI
          have HRun := Lib.hid hRun
          obtain ⟨r1, r2, _, _⟩ := hRun
          have hnn : nn ≤ n9 := by have := HN9.out; have := HN5.out; omega
          have hB2 : Below wr.heap.size wr w2 := HBq.out.trans (h2.mono HBq.out.size)
          have j0 : w2.cell? ⟨bp, 0, none⟩ = some (.int .i64 id) := (hB2.cell hbpr).trans f0
          have j1 : w2.cell? ⟨bp, 1, none⟩ = some (.slice (some ⟨b4, o4 + t * 4, none⟩) n9 (c5 - t)) := (hB2.cell hbpr).trans f1
          have j2 : w2.cell? ⟨wr.heap.size, 0, none⟩ = some (.int .i64 mo) := (h2.cell HQs.out).trans HQc.out
          have j3 : w2.frozen? ⟨bp, 1, none⟩ = false := by rw [hB2.frozen hbpr]; exact f2
          have HM2 : Hid (Mon w2 b w1.heap.size w1.heap.size cnt' bp L' S') := HM1.out.kept hszw ⟨hB2.os, hB2.tape, hB2.output, hB2.size, fun i hi _ => hB2.block i hi⟩
          have HG2 : Hid (w1.grownBy w2 (some b)) := ⟨by rw [hB2.os]; exact HG1.out.os, by rw [hB2.tape]; exact HG1.out.tape, by rw [hB2.output]; exact HG1.out.output, Nat.le_trans hszw hB2.size, fun i hi hne => (hB2.block i (by omega)).trans (HG1.out.block i hi hne)⟩
          have hw12 : w1.heap.size ≤ w2.heap.size := Nat.le_trans hszw hB2.size
          have hbp2 : bp < w2.heap.size := Nat.lt_of_lt_of_le hbpr hB2.size
          obtain ⟨v0, hvo, hvx, hlk, hup⟩ := HM2.out.round hw12 hbp2 hwf (by have := HC1.out; have := HCm.out; omega)
          have hwn : wr.grownBy w2 none := ⟨hB2.os, hB2.tape, hB2.output, hB2.size, fun i hi _ => hB2.block i hi⟩
          have hmbn0 : wr.heap.size < w2.heap.size := Nat.lt_of_lt_of_le HQs.out h2.size
          have HVM : Hid (v0.ownBlock ≠ some wr.heap.size) := by
            obtain ⟨v0', _, hvx', hlk', _⟩ := (HM1.out.rebox.kept hszw hwn).round hw12 hmbn0 hwf (by have := HC1.out; have := HCm.out; omega)
            have a1 := hlk w2 ⟨rfl, rfl, rfl, Nat.le_refl _, fun _ _ _ => rfl⟩
            have a2 := hlk' w2 ⟨rfl, rfl, rfl, Nat.le_refl _, fun _ _ _ => rfl⟩
            rw [a1] at a2
            injection a2 with a2
            rw [a2]
            exact hvx'
          have HSub : Hid (Rd w2 w1.heap.size (.slice (some ⟨b4, o4 + t * 4, none⟩) nn nn) ((sl.drop t).take nn)) := by
            have h9 := HRs0.out.below (hB2.mono hszw)
            exact h9.sub nn hnn
          have HNext := Lib.hid (month_next HL1.out HS1.out HSep.out HRun.out htl HM0e.out (.slice (some ⟨b4, o4 + t * 4, none⟩) nn nn))
          have hmbn : wr.heap.size < w2.heap.size := Nat.lt_of_lt_of_le HQs.out h2.size
          have HUP := Lib.hid hup
          have HLK := Lib.hid hlk
          have HVO := Lib.hid hvo
          have HVX := Lib.hid hvx
          have HHI := Lib.hid hB2
          have HLl : Hid (((L' mo).length + 1) * 32 ≤ 140737488355328) := by
            have h1 := congrArg List.length (HL1.out mo)
            have h2 : (monthC (q.take k ++ [(id, sl.take t)]) mo).length ≤ (q.take k ++ [(id, sl.take t)]).length := fosC_length _ _
            rw [List.length_append, List.length_take, List.length_singleton] at h2
            have h3 : (cut (L' mo)).length = (L' mo).length := by simp [cut]
            show _ ≤ _
            omega
          clear hI h2 hmo hwq hBq hB2 KI hup hlk hvo hvx f0 f1 f2 g0 HLo
          obtain ⟨bm, hbm⟩ : ∃ bm, bm = wr.heap.size := ⟨_, rfl⟩
          rw [← hbm] at j2 hmbn HVM ⊢
          have hgd : ∀ n, w2.grownBy (w2.drewN n) none := fun n => ⟨rfl, rfl, rfl, Nat.le_refl _, fun _ _ _ => rfl⟩
          have hq0 : (Instr.lookup 60 (.map (some b)) (.int .i64 mo) false).run Tryz.prog w2.drew = .ok v0 w2.drew := HLK.out _ (hgd 1)
          have hcc : nn ≤ c5 - t := by omega
          have hbmB : w1.heap.size ≤ bm := by rw [hbm]; exact hszw
          have HGA : Hid (w2.grownBy (w2.alloc (.cells #[.int .i64 id, .slice (some ⟨b4, o4 + t * 4, none⟩) nn nn] 48)).drew none) := ⟨rfl, rfl, rfl, by show _ ≤ (w2.alloc _).heap.size; simp, fun i hi _ => Below.heap_alloc _ _ i hi⟩
          have hq1 : (Instr.lookup 60 (.map (some b)) (.int .i64 mo) false).run Tryz.prog (w2.alloc (.cells #[.int .i64 id, .slice (some ⟨b4, o4 + t * 4, none⟩) nn nn] 48)).drew = .ok v0 (w2.alloc (.cells #[.int .i64 id, .slice (some ⟨b4, o4 + t * 4, none⟩) nn nn] 48)).drew := HLK.out _ HGA.out
          have ja0 : (w2.alloc (.cells #[.int .i64 id, .slice (some ⟨b4, o4 + t * 4, none⟩) nn nn] 48)).drew.cell? ⟨bp, 0, none⟩ = some (.int .i64 id) := (HGA.out.cell_far _ hbp2 (by simp)).trans j0
          have ja1 : (w2.alloc (.cells #[.int .i64 id, .slice (some ⟨b4, o4 + t * 4, none⟩) nn nn] 48)).drew.cell? ⟨bp, 1, none⟩ = some (.slice (some ⟨b4, o4 + t * 4, none⟩) n9 (c5 - t)) := (HGA.out.cell_far _ hbp2 (by simp)).trans j1
          have ja2 : (w2.alloc (.cells #[.int .i64 id, .slice (some ⟨b4, o4 + t * 4, none⟩) nn nn] 48)).drew.cell? ⟨bm, 0, none⟩ = some (.int .i64 mo) := (HGA.out.cell_far _ hmbn (by simp)).trans j2
          have HVA : Hid (OwC (w2.alloc (.cells #[.int .i64 id, .slice (some ⟨b4, o4 + t * 4, none⟩) nn nn] 48)).drew w1.heap.size 48 v0 (L' mo)) := HVO.out.kept HGA.out (by cases v0.ownBlock with | none => exact .inl rfl | some g => exact .inr (by simp))
          have HNb : Hid (bm ≠ b ∧ bp ≠ b) := ⟨by omega, by omega⟩
          have HJ3 := Lib.hid j3
          have HSz : Hid (w1.heap.size ≤ (w2.alloc (.cells #[.int .i64 id, .slice (some ⟨b4, o4 + t * 4, none⟩) nn nn] 48)).drew.heap.size) := Nat.le_trans hw12 HGA.out.size
          clear j3
          have j0d : w2.drew.cell? ⟨bp, 0, none⟩ = some (.int .i64 id) := j0
          have j1d : w2.drew.cell? ⟨bp, 1, none⟩ = some (.slice (some ⟨b4, o4 + t * 4, none⟩) n9 (c5 - t)) := j1
          have j2d : w2.drew.cell? ⟨bm, 0, none⟩ = some (.int .i64 mo) := j2
          clear hbm
          have hrr : w2.cell? ⟨bm, 0, none⟩ = some (.int .i64 mo) ∧ w2.cell? ⟨bp, 0, none⟩ = some (.int .i64 id) ∧ w2.cell? ⟨bp, 1, none⟩ = some (.slice (some ⟨b4, o4 + t * 4, none⟩) n9 (c5 - t)) := ⟨j2, j0, j1⟩
          have case3 : nn < n9 ∨ (nn = n9 ∧ n9 < c5 - t) ∨ (nn = n9 ∧ n9 = c5 - t) := by omega
          have HE9 : Hid (r < 0 → (n9 : Int) = (nn : Int)) := fun h => by
            rcases hr with ⟨_, hr⟩ | hr
            · have := HN9.out; have := HN5.out; omega
            · omega
          have HR9 : Hid (¬ r < 0 → r = (nn : Int)) := fun h => by
            rcases hr with ⟨hr, _⟩ | hr
            · exact absurd hr h
            · exact hr
          clear hr
          by_cases hneg : r < 0
          · go_wp2_with fail
            rw [HE9.out hneg]
            go_region_held3 (fun w' => w'.cell? ⟨bm, 0, none⟩ = some (.int .i64 mo) ∧ w'.cell? ⟨bp, 0, none⟩ = some (.int .i64 id) ∧ w'.cell? ⟨bp, 1, none⟩ = some (.slice (some ⟨b4, o4 + t * 4, none⟩) n9 (c5 - t)))
              (first | assumption | exact ⟨by assumption, by assumption, by assumption⟩)
              ((refine step_app1C (by rfl) _ _ 29 (by rfl) Tryz.underlying29 info_Pt w1.heap.size v0 (L' mo) (id, .slice (some ⟨b4, o4 + t * 4, none⟩) nn nn, (sl.drop t).take nn) (by rfl) HVA.out w2.heap.size 0 1 (by rfl) (new_cell _ _ _ 0) (new_cell _ _ _ 1) rfl HLl.out HSz.out ?_; intro v1 w4 hown4 hg4 hloc4;
                have k0 : w4.cell? ⟨bp, 0, none⟩ = some (.int .i64 id) := (hg4.cell_far _ (Nat.lt_of_lt_of_le hbp2 HGA.out.size) (Ne.symm HVX.out)).trans ja0;
                have k1 : w4.cell? ⟨bp, 1, none⟩ = some (.slice (some ⟨b4, o4 + t * 4, none⟩) n9 (c5 - t)) := (hg4.cell_far _ (Nat.lt_of_lt_of_le hbp2 HGA.out.size) (Ne.symm HVX.out)).trans ja1;
                have k2 : w4.cell? ⟨bm, 0, none⟩ = some (.int .i64 mo) := (hg4.cell_far _ (Nat.lt_of_lt_of_le hmbn HGA.out.size) (Ne.symm HVM.out)).trans ja2;
                obtain ⟨w5, hupd, hM5, hg5⟩ := HUP.out _ w4 v1 (id, .slice (some ⟨b4, o4 + t * 4, none⟩) nn nn, (sl.drop t).take nn) HGA.out hg4 hown4 hloc4 HSub.out (nz_some _ _ _);
                have m0 : w5.cell? ⟨bp, 0, none⟩ = some (.int .i64 id) := (hg5.cell_far _ (lt_of_cell k0) (fun e => HNb.out.2 (by injection e))).trans k0;
                have m1 : w5.cell? ⟨bp, 1, none⟩ = some (.slice (some ⟨b4, o4 + t * 4, none⟩) n9 (c5 - t)) := (hg5.cell_far _ (lt_of_cell k1) (fun e => HNb.out.2 (by injection e))).trans k1;
                have m2 : w5.cell? ⟨bm, 0, none⟩ = some (.int .i64 mo) := (hg5.cell_far _ (lt_of_cell k2) (fun e => HNb.out.1 (by injection e))).trans k2;
                have HM5 := Lib.hid hM5;
                have m3 : w5.frozen? ⟨bp, 1, none⟩ = false := by
                  rw [World.frozen?_of_block ((hg5.block bp (lt_of_cell k0) (fun e => HNb.out.2 (by injection e))).trans (hg4.block bp (Nat.lt_of_lt_of_le hbp2 HGA.out.size) (Ne.symm HVX.out))), World.frozen?_of_block (HGA.out.block bp hbp2 (by simp))]
                  exact HJ3.out;
                have HG5 : Hid (w1.grownBy w5 (some b)) := ⟨(hg5.os.trans hg4.os).trans (HGA.out.os.trans HG2.out.os), (hg5.tape.trans hg4.tape).trans (HGA.out.tape.trans HG2.out.tape), (hg5.output.trans hg4.output).trans (HGA.out.output.trans HG2.out.output), Nat.le_trans HSz.out (Nat.le_trans hg4.size hg5.size), fun i hi hne => ((hg5.block i (Nat.lt_of_lt_of_le hi (Nat.le_trans HSz.out hg4.size)) hne).trans (hg4.block i (Nat.lt_of_lt_of_le hi HSz.out) (fun e => by have := (World.ownsRow.lt HVO.out i e.symm).1; omega))).trans ((HGA.out.block i (Nat.lt_of_lt_of_le hi hw12) (by simp)).trans (HG2.out.block i hi hne))⟩;
                clear hown4 hg4 hloc4 hg5 hM5))
            all_goals (
              clear k0 k1 k2 m2 ja0 ja1 ja2 hq0 hq1 j0 j1 j2 j0d j1d j2d hrr hupd
              have hw15 : w1.heap.size ≤ w5.heap.size := HG5.out.size
              have HSET : Hid (∀ u, Mon (w5.setCell ⟨bp, 1, none⟩ u) b w1.heap.size w1.heap.size (cnt' + 1) bp (fun x => if x = mo then L' mo ++ [(id, .slice (some ⟨b4, o4 + t * 4, none⟩) nn nn, (sl.drop t).take nn)] else L' x) (fun x => decide (x = mo) || S' x) ∧ w1.grownBy (w5.setCell ⟨bp, 1, none⟩ u) (some b) ∧ (w5.setCell ⟨bp, 1, none⟩ u).cell? ⟨bp, 0, none⟩ = some (.int .i64 id) ∧ (w5.setCell ⟨bp, 1, none⟩ u).cell? ⟨bp, 1, none⟩ = some u ∧ (w5.setCell ⟨bp, 1, none⟩ u).frozen? ⟨bp, 1, none⟩ = false) := fun u => by
                have hgs : w5.grownBy (w5.setCell ⟨bp, 1, none⟩ u) (some bp) := (But.refl bp w5).set 1 u
                refine ⟨HM5.out.set hbpB hw15 hgs, ⟨hgs.os.trans HG5.out.os, hgs.tape.trans HG5.out.tape, hgs.output.trans HG5.out.output, Nat.le_trans hw15 hgs.size, fun i hi hne => (hgs.block i (by omega) (fun e => by injection e with e; omega)).trans (HG5.out.block i hi hne)⟩, ?_, World.cell?_setCell_same _ _ _ m1, by rw [World.frozen?_setCell]; exact m3⟩
                rw [World.cell?_setCell_other]
                · exact m0
                · intro e; injection e with _ e; omega
              rcases case3 with h3 | ⟨h3, h4⟩ | ⟨h3, h4⟩
              · have hnc3 : nn < c5 - t := by omega
                go_wp2_with fail
                go_roundw
                case rel =>
                  obtain ⟨s1, s2, s3, s4, s5⟩ := HSET.out (.slice (some ⟨b4, o4 + t * 4 + nn * 4, none⟩) (n9 - nn) (c5 - t - nn))
                  exact ⟨t + nn, n9 - nn, _, cnt' + 1, _, _, _, by have := HN9.out; omega, by have := HN9.out; omega, s3, s4, s5, fun _ => ⟨by rw [Nat.add_mul, Nat.add_assoc], by omega⟩, s1, HNext.out.1, HNext.out.2.1, by show _ ≤ _; have := HC1.out; omega, s2, HNext.out.2.2⟩
                case measure => rw [boxLen_of (HSET.out _).2.2.2.1, HBL.out]; omega
              · have hz : n9 - nn = 0 := by omega
                subst h3
                go_wp2_with fail
                go_roundw
                case rel =>
                  obtain ⟨s1, s2, s3, s4, s5⟩ := HSET.out _
                  exact ⟨t + nn, 0, _, cnt' + 1, _, _, _, by have := HN9.out; omega, by have := HN9.out; omega, s3, s4, s5, fun h => absurd h (Nat.lt_irrefl 0), s1, HNext.out.1, HNext.out.2.1, by show _ ≤ _; have := HC1.out; omega, s2, HNext.out.2.2⟩
                case measure => rw [boxLen_of (HSET.out _).2.2.2.1, HBL.out]; omega
              · have hz : n9 - nn = 0 := by omega
                subst h3
                go_wp2_with fail
                go_roundw
                case rel =>
                  obtain ⟨s1, s2, s3, s4, s5⟩ := HSET.out _
                  exact ⟨t + nn, 0, _, cnt' + 1, _, _, _, by have := HN9.out; omega, by have := HN9.out; omega, s3, s4, s5, fun h => absurd h (Nat.lt_irrefl 0), s1, HNext.out.1, HNext.out.2.1, by show _ ≤ _; have := HC1.out; omega, s2, HNext.out.2.2⟩
                case measure => rw [boxLen_of (HSET.out _).2.2.2.1, HBL.out]; omega)
          · obtain rfl := HR9.out hneg
            go_wp2_with fail
            go_region_held3 (fun w' => w'.cell? ⟨bm, 0, none⟩ = some (.int .i64 mo) ∧ w'.cell? ⟨bp, 0, none⟩ = some (.int .i64 id) ∧ w'.cell? ⟨bp, 1, none⟩ = some (.slice (some ⟨b4, o4 + t * 4, none⟩) n9 (c5 - t)))
              (first | assumption | exact ⟨by assumption, by assumption, by assumption⟩)
              ((refine step_app1C (by rfl) _ _ 29 (by rfl) Tryz.underlying29 info_Pt w1.heap.size v0 (L' mo) (id, .slice (some ⟨b4, o4 + t * 4, none⟩) nn nn, (sl.drop t).take nn) (by rfl) HVA.out w2.heap.size 0 1 (by rfl) (new_cell _ _ _ 0) (new_cell _ _ _ 1) rfl HLl.out HSz.out ?_; intro v1 w4 hown4 hg4 hloc4;
                have k0 : w4.cell? ⟨bp, 0, none⟩ = some (.int .i64 id) := (hg4.cell_far _ (Nat.lt_of_lt_of_le hbp2 HGA.out.size) (Ne.symm HVX.out)).trans ja0;
                have k1 : w4.cell? ⟨bp, 1, none⟩ = some (.slice (some ⟨b4, o4 + t * 4, none⟩) n9 (c5 - t)) := (hg4.cell_far _ (Nat.lt_of_lt_of_le hbp2 HGA.out.size) (Ne.symm HVX.out)).trans ja1;
                have k2 : w4.cell? ⟨bm, 0, none⟩ = some (.int .i64 mo) := (hg4.cell_far _ (Nat.lt_of_lt_of_le hmbn HGA.out.size) (Ne.symm HVM.out)).trans ja2;
                obtain ⟨w5, hupd, hM5, hg5⟩ := HUP.out _ w4 v1 (id, .slice (some ⟨b4, o4 + t * 4, none⟩) nn nn, (sl.drop t).take nn) HGA.out hg4 hown4 hloc4 HSub.out (nz_some _ _ _);
                have m0 : w5.cell? ⟨bp, 0, none⟩ = some (.int .i64 id) := (hg5.cell_far _ (lt_of_cell k0) (fun e => HNb.out.2 (by injection e))).trans k0;
                have m1 : w5.cell? ⟨bp, 1, none⟩ = some (.slice (some ⟨b4, o4 + t * 4, none⟩) n9 (c5 - t)) := (hg5.cell_far _ (lt_of_cell k1) (fun e => HNb.out.2 (by injection e))).trans k1;
                have m2 : w5.cell? ⟨bm, 0, none⟩ = some (.int .i64 mo) := (hg5.cell_far _ (lt_of_cell k2) (fun e => HNb.out.1 (by injection e))).trans k2;
                have HM5 := Lib.hid hM5;
                have m3 : w5.frozen? ⟨bp, 1, none⟩ = false := by
                  rw [World.frozen?_of_block ((hg5.block bp (lt_of_cell k0) (fun e => HNb.out.2 (by injection e))).trans (hg4.block bp (Nat.lt_of_lt_of_le hbp2 HGA.out.size) (Ne.symm HVX.out))), World.frozen?_of_block (HGA.out.block bp hbp2 (by simp))]
                  exact HJ3.out;
                have HG5 : Hid (w1.grownBy w5 (some b)) := ⟨(hg5.os.trans hg4.os).trans (HGA.out.os.trans HG2.out.os), (hg5.tape.trans hg4.tape).trans (HGA.out.tape.trans HG2.out.tape), (hg5.output.trans hg4.output).trans (HGA.out.output.trans HG2.out.output), Nat.le_trans HSz.out (Nat.le_trans hg4.size hg5.size), fun i hi hne => ((hg5.block i (Nat.lt_of_lt_of_le hi (Nat.le_trans HSz.out hg4.size)) hne).trans (hg4.block i (Nat.lt_of_lt_of_le hi HSz.out) (fun e => by have := (World.ownsRow.lt HVO.out i e.symm).1; omega))).trans ((HGA.out.block i (Nat.lt_of_lt_of_le hi hw12) (by simp)).trans (HG2.out.block i hi hne))⟩;
                clear hown4 hg4 hloc4 hg5 hM5))
            all_goals (
              clear k0 k1 k2 m2 ja0 ja1 ja2 hq0 hq1 j0 j1 j2 j0d j1d j2d hrr hupd
              have hw15 : w1.heap.size ≤ w5.heap.size := HG5.out.size
              have HSET : Hid (∀ u, Mon (w5.setCell ⟨bp, 1, none⟩ u) b w1.heap.size w1.heap.size (cnt' + 1) bp (fun x => if x = mo then L' mo ++ [(id, .slice (some ⟨b4, o4 + t * 4, none⟩) nn nn, (sl.drop t).take nn)] else L' x) (fun x => decide (x = mo) || S' x) ∧ w1.grownBy (w5.setCell ⟨bp, 1, none⟩ u) (some b) ∧ (w5.setCell ⟨bp, 1, none⟩ u).cell? ⟨bp, 0, none⟩ = some (.int .i64 id) ∧ (w5.setCell ⟨bp, 1, none⟩ u).cell? ⟨bp, 1, none⟩ = some u ∧ (w5.setCell ⟨bp, 1, none⟩ u).frozen? ⟨bp, 1, none⟩ = false) := fun u => by
                have hgs : w5.grownBy (w5.setCell ⟨bp, 1, none⟩ u) (some bp) := (But.refl bp w5).set 1 u
                refine ⟨HM5.out.set hbpB hw15 hgs, ⟨hgs.os.trans HG5.out.os, hgs.tape.trans HG5.out.tape, hgs.output.trans HG5.out.output, Nat.le_trans hw15 hgs.size, fun i hi hne => (hgs.block i (by omega) (fun e => by injection e with e; omega)).trans (HG5.out.block i hi hne)⟩, ?_, World.cell?_setCell_same _ _ _ m1, by rw [World.frozen?_setCell]; exact m3⟩
                rw [World.cell?_setCell_other]
                · exact m0
                · intro e; injection e with _ e; omega
              rcases case3 with h3 | ⟨h3, h4⟩ | ⟨h3, h4⟩
              · have hnc3 : nn < c5 - t := by omega
                go_wp2_with fail
                go_roundw
                case rel =>
                  obtain ⟨s1, s2, s3, s4, s5⟩ := HSET.out (.slice (some ⟨b4, o4 + t * 4 + nn * 4, none⟩) (n9 - nn) (c5 - t - nn))
                  exact ⟨t + nn, n9 - nn, _, cnt' + 1, _, _, _, by have := HN9.out; omega, by have := HN9.out; omega, s3, s4, s5, fun _ => ⟨by rw [Nat.add_mul, Nat.add_assoc], by omega⟩, s1, HNext.out.1, HNext.out.2.1, by show _ ≤ _; have := HC1.out; omega, s2, HNext.out.2.2⟩
                case measure => rw [boxLen_of (HSET.out _).2.2.2.1, HBL.out]; omega
              · have hz : n9 - nn = 0 := by omega
                subst h3
                go_wp2_with fail
                go_roundw
                case rel =>
                  obtain ⟨s1, s2, s3, s4, s5⟩ := HSET.out _
                  exact ⟨t + nn, 0, _, cnt' + 1, _, _, _, by have := HN9.out; omega, by have := HN9.out; omega, s3, s4, s5, fun h => absurd h (Nat.lt_irrefl 0), s1, HNext.out.1, HNext.out.2.1, by show _ ≤ _; have := HC1.out; omega, s2, HNext.out.2.2⟩
                case measure => rw [boxLen_of (HSET.out _).2.2.2.1, HBL.out]; omega
              · have hz : n9 - nn = 0 := by omega
                subst h3
                go_wp2_with fail
                go_roundw
                case rel =>
                  obtain ⟨s1, s2, s3, s4, s5⟩ := HSET.out _
                  exact ⟨t + nn, 0, _, cnt' + 1, _, _, _, by have := HN9.out; omega, by have := HN9.out; omega, s3, s4, s5, fun h => absurd h (Nat.lt_irrefl 0), s1, HNext.out.1, HNext.out.2.1, by show _ ≤ _; have := HC1.out; omega, s2, HNext.out.2.2⟩
                case measure => rw [boxLen_of (HSET.out _).2.2.2.1, HBL.out]; omega)
        · have hn0 : n9 = 0 := by omega
          have htn : t = n5 := by have := HN9.out; omega
          have HL2 : Hid (∀ z, cut (L' z) = monthC (q.take (k + 1)) z) := fun z => by
            rw [HL1.out z, HTk.out, htn, HN5.out, List.take_length]
          have HS2 : Hid (∀ z, S' z = true ↔ hasM (q.take (k + 1)) z) := fun z => by
            rw [HS1.out z, HTk.out, htn, HN5.out, List.take_length]
          have HC2 : Hid (cnt' ≤ manyL (q.take (k + 1))) := by
            have h1 := HC1.out
            show _ ≤ _
            rw [HTk.out, manyL_snoc]
            have := HN5.out
            show _ ≤ _ + sl.length
            omega
          clear htn hA9
          subst hn0
          go_wp2_with fail
          go_roundw
          case rel => exact ⟨k + 1, cnt', bp, L', S', by omega, by go_num, HM1.out, HL2.out, HS2.out, HC2.out, HG1.out⟩
          case measure => simp [intOf]; omega
    · obtain rfl : m = k := by omega
      obtain ⟨wr0, rfl⟩ : ∃ w0, w0 = wr := ⟨wr, rfl⟩
      have HL2 : Hid (∀ z, cut (L z) = monthC q z) := fun z => by rw [HL.out z, HM.out, List.take_length]
      have HS2 : Hid (∀ z, S z = true ↔ hasM q z) := fun z => by rw [HS.out z, HM.out, List.take_length]
      have hw1r : w1.heap.size ≤ wr0.heap.size := HG.out.size
      have HBW : Hid (Below W.heap.size W wr0) := by
        have h1 := HB1.out
        have h2 := HG.out
        exact ⟨h2.os.trans h1.os, h2.tape.trans h1.tape, h2.output.trans h1.output, Nat.le_trans h1.size h2.size, fun i hi => (h2.block i (by have := h1.size; omega) (fun e => by injection e with e; have := HbE.out; omega)).trans (h1.block i hi)⟩
      obtain ⟨D, GD, hDx⟩ := HMo.out.map
      obtain ⟨cK, cS⟩ := keysP_walk b cnt D wr0 GD.map (by have := HCn.out; have := manyL_take q m; have := HBd.out.2; omega)
      have HKy := Lib.hid cK
      have HSo := Lib.hid cS
      have HHas : Hid (∀ z, has D (.int .i64 z) = true ↔ hasM q z) := fun z => by rw [GD.has z]; exact HS2.out z
      have HCb : Hid (cnt ≤ 100000) := by have := HCn.out; have := manyL_take q m; have := HBd.out.2; show _ ≤ _; omega
      clear cK cS GD hDx
      go_wp2_with (first
        | (go_at_call 39; refine HKy.out.mono ?_; rintro e w2 ⟨rfl, rfl⟩)
        | (go_at_call 38; refine HSo.out.mono ?_; rintro e w3 ⟨kv, ks, rfl, hK1, hK2, hK3, hK4, hK5, hK6⟩; have hK : Hid (ks = monthsK q) := (lt_unique hK2 (monthsK_lt q) fun x => by rw [hK3 x, HHas.out x, monthsK_mem]); have HKR := Lib.hid hK1; have HB3 := Lib.hid hK6; obtain ⟨A6, c6, rfl, hc6, hA6⟩ := hK1; obtain ⟨n6, hn6⟩ : ∃ n, n = ks.length := ⟨_, rfl⟩; rw [← hn6] at hc6 HKR hK5; rw [← hn6]; have HN6 := Lib.hid hn6; have HA6 := Lib.hid hA6; have HWf := Lib.hid hK4; have hl6 : n6 ≤ 100000 := Nat.le_trans hK5 HCb.out; clear hn6 hA6 hK2 hK3 hK4 hK5 hK6))
      go_loopw [10, 12, 66] (fun o _ i wl => ∃ (k : Nat) (vs : List (Value × List Pts)), k ≤ n6 ∧ i = .int .i64 k ∧ Hid (OwV wl w3.heap.size o vs) ∧ Hid (vs.map (fun x => x.2) = (ks.take k).map (monthC q)) ∧ Hid (Below w3.heap.size w3 wl)) (fun _ _ i _ => n6 - (intOf i).toNat)
      case atStart => exact ⟨0, [], Nat.zero_le _, rfl, OwV.nil _ _, rfl, Below.refl _ _⟩
      case round =>
        obtain ⟨k, vs, hk, rfl, HO, HC, HB⟩ := hrel
        by_cases hlt : k < n6
        · have hkl : k < ks.length := by rw [← HN6.out]; exact hlt
          rcases HA6.out with h0 | ⟨b6, o6, e, hb6, hcl6⟩
          · subst h0; simp at hkl
          subst e
          obtain ⟨z, hz⟩ : ∃ z, z = ks[k] := ⟨_, rfl⟩
          have c0 : wr.cell? ⟨b6, o6 + k, none⟩ = some (.int .i64 z) := by rw [hz]; exact (HB.out.cell hb6).trans (hcl6 k hkl)
          have hzw : (Lit.int .i64 z).wf = true := HWf.out z (by rw [hz]; exact List.getElem_mem hkl)
          have HCu : Hid ((ks.take (k + 1)).map (monthC q) = (ks.take k).map (monthC q) ++ [monthC q z]) := take_map_snoc _ ks k hkl z hz
          have hb03 : Below wr0.heap.size wr0 w3 := HB3.out
          have HM3 : Hid (Mon w3 b w1.heap.size w1.heap.size cnt bx L S) := HMo.out.kept hw1r ⟨hb03.os, hb03.tape, hb03.output, hb03.size, fun i hi _ => hb03.block i hi⟩
          obtain ⟨v0, hlk, hr0, hz0⟩ := HM3.out.at (Nat.le_trans hw1r hb03.size) hzw
          have hq0 : (Instr.lookup 60 (.map (some b)) (.int .i64 z) false).run Tryz.prog wr = .ok v0 wr := hlk wr ⟨HB.out.os, HB.out.tape, HB.out.output, HB.out.size, fun i hi _ => HB.out.block i hi⟩
          rw [HL2.out z] at hr0
          have h9 := (RdPx.low (hr0.below HB.out) HB.out.size (fun g hg => (World.ownsRow.lt HO.out.row g hg).1))
          have HPx := Lib.hid h9
          have HNz := Lib.hid hz0
          obtain ⟨Ao, co, eo, _, _⟩ := h9
          subst eo
          obtain ⟨no, hno⟩ : ∃ n, n = (monthC q z).length := ⟨_, rfl⟩
          rw [← hno] at HPx HNz hq0
          have HBa : Hid (∀ o, Below wr.heap.size wr (wr.alloc o)) := fun o => (Below.refl _ _).alloc (Nat.le_refl _) _
          have HVl : Hid ((vs.length + 1) * 24 ≤ 140737488355328) := by
            have h1 := congrArg List.length HC.out
            rw [List.length_map, List.length_map, List.length_take] at h1
            show _ ≤ _
            omega
          have i1 : (k : Int) < (n6 : Int) := by omega
          clear hz hcl6 hr0 hz0 hno hlk hb03
          go_wp2_with (at_builtin; refine app1VP rfl _ _ 25 rfl Tryz.underlying25 info_rowP w3.heap.size _ vs (.slice Ao no co, monthC q z) rfl (HO.out.on (HBa.out _)) wr.heap.size 0 1 rfl (new_cell _ _ _ 0) (HPx.out.on (HBa.out _)) HNz.out HVl.out (Nat.le_trans HB.out.size (HBa.out _).size) ?_; intro v4 w4 h1 h2 h3; have HO4 := Lib.hid h1; have HB4 : Hid (Below w3.heap.size w3 w4) := (HB.out.alloc HB.out.size _).grown h2 (Nat.le_trans HB.out.size (HBa.out _).size) (fun g hg => (World.ownsRow.lt HO.out.row g hg).1); clear h1 h2 h3)
          go_roundw
          case rel => exact ⟨k + 1, _, by omega, by go_num, HO4.out, by show _ = _; rw [List.map_append, HC.out, HCu.out]; rfl, HB4.out⟩
          case measure => simp [intOf]; omega
        · obtain rfl : n6 = k := by omega
          have HC2 : Hid (vs.map (fun x => x.2) = (monthsK q).map (monthC q)) := by
            show _ = _
            rw [HC.out, HN6.out, List.take_length, hK.out]
          have h9 := HKR.out.on HB.out
          rw [hK.out] at h9
          have HK2 := Lib.hid h9
          clear h9
          go_wp2_with fail
          go_ret2
          exact ⟨_, rfl, ⟨_, _, rfl, HK2.out, by rw [← HC2.out]; exact HO.out.rdQ⟩, HBW.out.trans ((HB3.out.trans (HB.out.mono HB3.out.size)).mono HBW.out.size)⟩
end Go.Proofs.YtkcipfmbkokfdaaGreatDoor
