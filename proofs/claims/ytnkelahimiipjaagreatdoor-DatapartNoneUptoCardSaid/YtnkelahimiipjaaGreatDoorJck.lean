/-
 datapart: heads.of, as an iterator.
-/
import Derived.Test.YtnkelahimiipjaaGreatDoorJak
import Derived.Test.YtnkelahimiipjaaGreatDoorMmk
namespace Go.Proofs.YtnkelahimiipjaaGreatDoor
open Go.RowKit Go.Sort
attribute [local go_sem] Oper.semAt_some
def encO (x : Blk × Value) : Array Value := #[.agg #[.int .i64 x.1.1, x.2]]
def NewO (w : World) (Z : Nat) (bl : List Blk) (ids : List Int) (f t : Int) (pre : List (Blk × Value)) (_ _ : World) (x : Blk × Value) : Prop :=
 (bl.filter (readB ids f t))[pre.length]? = some x.1 ∧ Rd w Z x.2 x.1.2 ∧ Nz x.2
/-- The three variables that the closure looks at. -/
def OfB (Bi Bt Bf : Nat) (iv : Value) (f t : Int) (w : World) : Prop := Boxed w Bi 37 iv ∧ Boxed w Bt 2 (.int .i64 t) ∧ Boxed w Bf 2 (.int .i64 f)
theorem OfB.on {Bi Bt Bf : Nat} {iv : Value} {f t : Int} {w w' : World} (h : OfB Bi Bt Bf iv f t w) (k : Below w.heap.size w w') : OfB Bi Bt Bf iv f t w' := ⟨boxOn h.1 k, boxOn h.2.1 k, boxOn h.2.2 k⟩
theorem OfB.kept {kt : TypeId → Bool} (h1 : kt 37 = false) (h2 : kt 2 = false) {Z Bi Bt Bf : Nat} {iv : Value} {f t : Int} {w w' : World} (h : OfB Bi Bt Bf iv f t w) (k : KpU kt Z w w') : OfB Bi Bt Bf iv f t w' :=
 ⟨k.2 _ _ h.1 (by show (!kt 37) = true; rw [h1]; rfl), k.2 _ _ h.2.1 (by show (!kt 2) = true; rw [h2]; rfl), k.2 _ _ h.2.2 (by show (!kt 2) = true; rw [h2]; rfl)⟩
theorem read_take {bl : List Blk} {ids : List Int} {f t : Int} {k : Nat} (h : k < bl.length) : (bl.take (k + 1)).filter (readB ids f t) = (bl.take k).filter (readB ids f t) ++ if readB ids f t bl[k] = true then [bl[k]] else [] := by
 rw [List.take_succ_eq_append_getElem h, List.filter_append]
 congr 1
 cases hr : readB ids f t bl[k] <;> simp [hr]
theorem read_here {bl : List Blk} {ids : List Int} {f t : Int} {k : Nat} (h : k < bl.length) (hr : readB ids f t bl[k] = true) : (bl.filter (readB ids f t))[((bl.take k).filter (readB ids f t)).length]? = some bl[k] := by
 have e : bl = bl.take k ++ bl[k] :: bl.drop (k + 1) := by rw [← List.drop_eq_getElem_cons h, List.take_append_drop]
 have e2 : bl.filter (readB ids f t) = (bl.take k).filter (readB ids f t) ++ bl[k] :: (bl.drop (k + 1)).filter (readB ids f t) := by
  conv => lhs; rw [e]
  rw [List.filter_append, List.filter_cons_of_pos hr]
 rw [e2, List.getElem?_append_right (Nat.le_refl _), Nat.sub_self]
 rfl
set_option maxRecDepth 100000 in
set_option maxHeartbeats 4000000 in
theorem iter_of (kt : TypeId → Bool) (hk1 : kt 37 = false) (hk2 : kt 2 = false) (Z n Bp hp Bi Bt Bf : Nat) (hv iv : Value) (bl : List Blk) (ids : List Int) (f t : Int) (w : World) (hn : 12 ≤ n) (hBp : Boxed w Bp 86 (.pointer (some ⟨hp, 0, none⟩))) (hhp : w.cell? ⟨hp, 0, none⟩ = some hv) (hB : OfB Bi Bt Bf iv f t w) (hZ : Z ≤ w.heap.size) (hR : RdP w Z hv bl) (hI : RdZ w Z iv ids) (hl : bl.length ≤ 1000000) (hil : ids.length ≤ 1000000) (hne : ∀ b ∈ bl, b.2 ≠ [] ∧ b.2.length ≤ 1000000) :
  IterX kt Z Fence.wide n Tryz.prog 85 #[.pointer (some ⟨Bp, 0, none⟩), .pointer (some ⟨Bi, 0, none⟩), .pointer (some ⟨Bt, 0, none⟩), .pointer (some ⟨Bf, 0, none⟩)] encO (NewO w Z bl ids f t) (fun xs => xs.map (fun x => x.1) = bl.filter (readB ids f t)) (fun _ => True) (bl.filter (readB ids f t)).length w := by
 intro lp J Jx W hW hY h0
 have HZ : Hid (Z ≤ W.heap.size) := Nat.le_trans hZ hW.size
 have HZw : Hid (Z ≤ w.heap.size) := hZ
 have HWW : Hid (Below w.heap.size w W) := hW
 have HBX : Hid (OfB Bi Bt Bf iv f t W) := hB.on hW
 have HIZ := Lib.hid hI
 have HIL := Lib.hid hil
 have HNE := Lib.hid hne
 obtain ⟨N, hN⟩ : ∃ N, N = bl.length := ⟨_, rfl⟩
 obtain ⟨A, c, rfl, hc, hA⟩ := id hR
 obtain ⟨Ai, ci, rfl, _⟩ := id hI
 obtain ⟨ni, hni⟩ : ∃ ni, ni = ids.length := ⟨_, rfl⟩
 rw [← hni] at HBX HIZ
 rw [← hN] at hhp hc hl
 have c0 := (boxOn hBp hW).cell
 have c1 : W.cell? ⟨hp, 0, none⟩ = some (.slice A N c) := (hW.cell (lt_of_cell hhp)).trans hhp
 have HA := Lib.hid hA
 have HY := Lib.hid hY
 have HN := Lib.hid hN
 have h1 : 1 ≤ n := by omega
 have hf1 : Fence.wide.fn 86 := trivial
 have hf2 : Fence.wide.fn 33 := trivial
 have hf3 : Fence.wide.fn 34 := trivial
 clear hY hW hR hA hZ hI hil hne hN hBp hhp hB hni
 refine callsIn_of_wp Tryz.func85 rfl trivial ?_ rfl
 simp only [Tryz.ntmps85, List.size_toArray, List.length_cons, List.length_nil, Nat.reduceAdd, Nat.reduceSub, Array.replicate_succ, Array.replicate_zero, List.push_toArray, List.append_toArray, List.nil_append, List.cons_append]
 gi_wp2_with fail
 clear c0 c1
 gi_loopw [7, 13] (fun _ xv wl => ∃ (k : Nat) (pre : List (Blk × Value)) (W0 : World), xv = .int .i64 (k : Int) ∧ k ≤ N ∧ Hid (pre.map (fun x => x.1) = (bl.take k).filter (readB ids f t)) ∧ Hid (J pre W0) ∧ Hid (Below W0.heap.size W0 wl) ∧ Hid (Below Z W wl) ∧ Hid (OfB Bi Bt Bf (.slice Ai ni ci) f t wl))
  (fun _ xv _ => N - (intOf xv).toNat)
 case atStart => exact ⟨0, [], W, rfl, Nat.zero_le _, rfl, h0, Below.refl _ _, Below.refl _ _, HBX.out⟩
 case round =>
  obtain ⟨k, pre, W0, rfl, hkN, HP, HJ, HB0, HBZ, HOB⟩ := hrel
  by_cases hlt : k < N
  ·have hlt2 : k < bl.length := by rw [← HN.out]; exact hlt
   rcases HA.out with h0 | ⟨b, ob, e, hb, hcl⟩
   ·subst h0; simp at hlt2
   subst e
   have hlow : Below Z w wr := (HWW.out.mono HZw.out).trans HBZ.out
   obtain ⟨p, hp2⟩ : ∃ p, p = bl[k] := ⟨_, rfl⟩
   have hpm : p ∈ bl := by rw [hp2]; exact List.getElem_mem hlt2
   obtain ⟨hpn, hpl⟩ := HNE.out p hpm
   obtain ⟨c0, sv, c1, hsv, hnz⟩ : PtAt wr Z b (ob + k * 2) p := by
    rw [hp2]; exact (hcl k hlt2).below hlow hb
   have HRW : Hid (Rd w Z sv p.2) := by
    obtain ⟨_, sv2, e2, h2, _⟩ := hcl k hlt2
    have e3 := (hlow.cell hb).trans e2
    rw [c1] at e3
    injection e3 with e3
    rw [e3, hp2]; exact h2
   have HRT := Lib.hid (read_take (ids := ids) (f := f) (t := t) hlt2)
   have HRH := Lib.hid (read_here (ids := ids) (f := f) (t := t) hlt2)
   rw [← hp2] at HRT HRH
   obtain ⟨pid, ps⟩ := p
   dsimp only at c0 c1 hsv hnz hpn hpl HRW
   obtain ⟨s0, rest, hps0⟩ : ∃ s0 rest, ps = s0 :: rest := by
    cases ps with
    | nil => exact absurd rfl hpn
    | cons a b => exact ⟨a, b, rfl⟩
   obtain ⟨sl, hsl⟩ : ∃ sl, ps.getLast? = some sl := ⟨_, List.getLast?_eq_some_getLast hpn⟩
   obtain ⟨fs, hfs⟩ : ∃ fs, fs = s0.1 := ⟨_, rfl⟩
   obtain ⟨ls, hls⟩ : ∃ ls, ls = sl.1 := ⟨_, rfl⟩
   have hf1' : firstT ps = fs := by rw [hfs, hps0]; rfl
   have hl1' : lastT ps = ls := by rw [hls]; unfold lastT; rw [hsl]; rfl
   obtain ⟨As, cs, rfl, _⟩ := id hsv
   obtain ⟨R, hR0⟩ : ∃ R, R = ps.length := ⟨_, rfl⟩
   rw [← hR0] at c1 hsv hnz HRW
   have HNZ := Lib.hid hnz
   obtain ⟨Wc, hWc⟩ : ∃ Wc, Wc = wr.alloc (.cells #[.int .i64 pid, .slice As R cs] 71) := ⟨_, rfl⟩
   obtain ⟨H7, hH7⟩ : ∃ H7, H7 = wr.heap.size := ⟨_, rfl⟩
   have hbc : Below wr.heap.size wr Wc := by rw [hWc]; exact (Below.refl _ _).alloc (Nat.le_refl _) _
   have hhc : Wc.heap[H7]? = some (.cells #[.int .i64 pid, .slice As R cs] 71 (0, 0)) := by rw [hWc, hH7]; exact heap_alloc_new wr _
   have k0 : Wc.cell? ⟨H7, 0, none⟩ = some (.int .i64 pid) := by simp [World.cell?, hhc]
   have k1 : Wc.cell? ⟨H7, 1, none⟩ = some (.slice As R cs) := by simp [World.cell?, hhc]
   have hOc := HOB.out.on hbc
   have HOC := Lib.hid hOc
   have HK := Lib.hid (And.intro k0 (And.intro k1 (And.intro hOc.1.cell (And.intro hOc.2.1.cell hOc.2.2.cell))))
   have HBc : Hid (Below Z W Wc) := HBZ.out.trans (hbc.mono (Nat.le_trans HZ.out HBZ.out.size))
   have HZc : Hid (Z ≤ Wc.heap.size) := Nat.le_trans HZ.out HBc.out.size
   have HB0c : Hid (Below W0.heap.size W0 Wc) := HB0.out.trans (hbc.mono HB0.out.size)
   have KC : Hid (∀ w', Below Wc.heap.size Wc w' → CallsIn Fence.wide (n - 1) Tryz.prog 86 #[.slice Ai ni ci, .int .i64 pid] w' fun e w'' => e = .returned (.bool (decide (pid ∈ ids))) ∧ Below Wc.heap.size Wc w'') := fun w' h => callsIn_wide.2 ((contains_walk _ ids pid w' ((HIZ.out.below ((HWW.out.mono HZw.out).trans (HBc.out.trans (h.mono HZc.out)))).mono (Nat.le_trans HZc.out h.size)) (by have := HIL.out; omega)).mono fun e w'' ⟨h1, h2⟩ => ⟨h1, by rw [h2]; exact h⟩)
   have HRS : Hid (∀ w', Below Wc.heap.size Wc w' → Rd w' w'.heap.size (.slice As R cs) ps) := fun w' h => (HRW.out.below ((HWW.out.mono HZw.out).trans (HBc.out.trans (h.mono HZc.out)))).mono (Nat.le_trans HZc.out h.size)
   have KF : Hid (∀ w', Below Wc.heap.size Wc w' → CallsIn Fence.wide (n - 1) Tryz.prog 33 #[.agg #[.int .i64 pid, .slice As R cs]] w' fun e w'' => e = .returned (.int .i64 fs) ∧ Below Wc.heap.size Wc w'') := fun w' h => callsIn_wide.2 ((hfirst_walk pid _ s0 rest w' (by rw [← hps0]; exact HRS.out w' h)).mono fun e w'' ⟨h1, h2⟩ => ⟨by rw [h1, hfs], h.trans (h2.below.mono h.size)⟩)
   have KL : Hid (∀ w', Below Wc.heap.size Wc w' → CallsIn Fence.wide (n - 1) Tryz.prog 34 #[.agg #[.int .i64 pid, .slice As R cs]] w' fun e w'' => e = .returned (.int .i64 ls) ∧ Below Wc.heap.size Wc w'') := fun w' h => callsIn_wide.2 ((hlast_walk pid _ sl ps w' (HRS.out w' h) hpl hsl).mono fun e w'' ⟨h1, h2⟩ => ⟨by rw [h1, hls], h.trans (h2.below.mono h.size)⟩)
   have HRB : Hid (readB ids f t (pid, ps) = (decide (pid ∈ ids) && (decide (fs ≤ t) && decide (f ≤ ls)))) := by show _ = _; unfold readB; rw [hf1', hl1']
   have i1 : (k : Int) < (N : Int) := by omega
   have HWC := Lib.hid hWc
   have HH7 := Lib.hid hH7
   clear hcl hb hp2 hpm hpn hpl hsv hnz hps0 hsl hfs hls hf1' hl1' hR0 hWc hH7 hbc hhc hOc hlow hlt2
   gi_wp2_with fail
   rw [← HH7.out, ← HWC.out]
   clear c0 c1
   obtain ⟨q1, hq1⟩ : ∃ q1, q1 = decide (pid ∈ ids) := ⟨_, rfl⟩
   rw [← hq1] at KC HRB
   clear hq1
   cases q1 with
   | false =>
     refine wpIn_region_any (by kernel_rfl) ?_
     change wpAnyIn _ _ _ _ _ _ _ _ _ (World.drew _)
     refine wpAnyIn_quiet (by kernel_rfl) [0, 1, 2, 3, 4, 5, 6, 7, 8, 9, 10, 11, 12, 13, 14, 15, 16, 17, 18, 19, 20, 21] (fun w' => Below Wc.heap.size Wc w') [(some 17, .slice Ai ni ci), (some 18, .pointer (some ⟨H7, 0, none⟩)), (some 19, .int .i64 pid), (some 20, .bool false), (some 21, .bool false), (some 22, undef), (some 23, undef), (some 24, undef), (some 25, undef), (some 26, .bool false), (some 27, .bool false), (some 28, undef), (some 29, undef), (some 30, undef), (some 31, undef), (some 32, .bool false), (some 33, .bool false), (some 34, undef), (some 35, undef), (some 36, undef), (some 37, undef), (some 38, .bool false)] (by kernel_rfl) (by kernel_rfl) (by rfl) ((Ext.refl Wc).drewN _).below ?A1 ?hA1 ?hq1 ?hfin1
     case hA1 =>
      simp only [List.foldl_cons, List.foldl_nil]
      go_simp
      rfl
     case hq1 =>
      repeat (refine AllQ.cons rfl (fun w' K hS hK => ?_) ?_; rotate_left)
      exact AllQ.nil
      all_goals
       have d0 : w'.cell? ⟨H7, 0, none⟩ = some (.int .i64 pid) := (hS.cell (lt_of_cell HK.out.1)).trans HK.out.1
       have d1 : w'.cell? ⟨H7, 1, none⟩ = some (.slice As R cs) := (hS.cell (lt_of_cell HK.out.1)).trans HK.out.2.1
       have d2 : w'.cell? ⟨Bi, 0, none⟩ = some (.slice Ai ni ci) := (hS.cell (lt_of_cell HK.out.2.2.1)).trans HK.out.2.2.1
       have d3 : w'.cell? ⟨Bt, 0, none⟩ = some (.int .i64 t) := (hS.cell (lt_of_cell HK.out.2.2.2.1)).trans HK.out.2.2.2.1
       have d4 : w'.cell? ⟨Bf, 0, none⟩ = some (.int .i64 f) := (hS.cell (lt_of_cell HK.out.2.2.2.2)).trans HK.out.2.2.2.2
       go_simp
      all_goals first | exact hK _ hS | exact ⟨fun _ _ => trivial, hK _ hS⟩ | (refine (KC.out _ hS).mono ?_; rintro e w'' ⟨rfl, h9⟩; exact hK _ h9) | (refine (KF.out _ hS).mono ?_; rintro e w'' ⟨rfl, h9⟩; exact hK _ h9) | (refine (KL.out _ hS).mono ?_; rintro e w'' ⟨rfl, h9⟩; exact hK _ h9) | (refine ⟨trivial, (KC.out _ hS).mono ?_⟩; rintro e w'' ⟨rfl, h9⟩; exact hK _ h9) | (refine ⟨trivial, (KF.out _ hS).mono ?_⟩; rintro e w'' ⟨rfl, h9⟩; exact hK _ h9) | (refine ⟨trivial, (KL.out _ hS).mono ?_⟩; rintro e w'' ⟨rfl, h9⟩; exact hK _ h9)
     case hfin1 =>
      intro Wd hSd
      simp only [List.foldl_cons, List.foldl_nil, List.length_cons, List.length_nil]
      have HSd := Lib.hid hSd
      have HBd : Hid (Below Z W Wd) := HBc.out.trans (hSd.mono HZc.out)
      have HB0d : Hid (Below W0.heap.size W0 Wd) := HB0c.out.trans (hSd.mono HB0c.out.size)
      have HOd := Lib.hid (HOC.out.on hSd)
      clear hSd
      refine wpAnyIn_done (by kernel_rfl) ?_ _
      have HP2 : Hid (pre.map (fun x => x.1) = (bl.take (k + 1)).filter (readB ids f t)) := by
       show _ = _
       rw [HRT.out, HRB.out, HP.out]
       simp
      gi_wp2_with fail
      go_roundw
      case rel => exact ⟨k + 1, pre, W0, by go_num, by omega, HP2.out, HJ.out, HB0d.out, HBd.out, HOd.out⟩
      case measure => simp [intOf]; omega
   | true =>
     by_cases g2 : fs ≤ t
     ·by_cases g3 : f ≤ ls
      ·have g4 : ls ≥ f := g3
       refine wpIn_region_any (by kernel_rfl) ?_
       change wpAnyIn _ _ _ _ _ _ _ _ _ (World.drew _)
       refine wpAnyIn_quiet (by kernel_rfl) [0, 1, 2, 3, 4, 5, 6, 7, 8, 9, 10, 11, 12, 13, 14, 15, 16, 17, 18] (fun w' => Below Wc.heap.size Wc w') [(some 17, .slice Ai ni ci), (some 18, .pointer (some ⟨H7, 0, none⟩)), (some 19, .int .i64 pid), (some 20, .bool true), (some 21, .bool true), (some 22, .agg #[.int .i64 pid, .slice As R cs]), (some 23, .int .i64 fs), (some 24, .int .i64 t), (some 25, .bool true), (some 26, .bool true), (some 27, .bool true), (some 28, .agg #[.int .i64 pid, .slice As R cs]), (some 29, .int .i64 ls), (some 30, .int .i64 f), (some 31, .bool true), (some 32, .bool true), (some 33, .bool true), (some 34, .func (.yield lp) #[] #[]), (some 35, .agg #[.int .i64 pid, .slice As R cs])] (by kernel_rfl) (by kernel_rfl) (by rfl) ((Ext.refl Wc).drewN _).below ?A2 ?hA2 ?hq2 ?hfin2
       case hA2 =>
        simp only [List.foldl_cons, List.foldl_nil]
        go_simp
        rfl
       case hq2 =>
        repeat (refine AllQ.cons rfl (fun w' K hS hK => ?_) ?_; rotate_left)
        exact AllQ.nil
        all_goals
         have d0 : w'.cell? ⟨H7, 0, none⟩ = some (.int .i64 pid) := (hS.cell (lt_of_cell HK.out.1)).trans HK.out.1
         have d1 : w'.cell? ⟨H7, 1, none⟩ = some (.slice As R cs) := (hS.cell (lt_of_cell HK.out.1)).trans HK.out.2.1
         have d2 : w'.cell? ⟨Bi, 0, none⟩ = some (.slice Ai ni ci) := (hS.cell (lt_of_cell HK.out.2.2.1)).trans HK.out.2.2.1
         have d3 : w'.cell? ⟨Bt, 0, none⟩ = some (.int .i64 t) := (hS.cell (lt_of_cell HK.out.2.2.2.1)).trans HK.out.2.2.2.1
         have d4 : w'.cell? ⟨Bf, 0, none⟩ = some (.int .i64 f) := (hS.cell (lt_of_cell HK.out.2.2.2.2)).trans HK.out.2.2.2.2
         go_simp
        all_goals first | exact hK _ hS | exact ⟨fun _ _ => trivial, hK _ hS⟩ | (refine (KC.out _ hS).mono ?_; rintro e w'' ⟨rfl, h9⟩; exact hK _ h9) | (refine (KF.out _ hS).mono ?_; rintro e w'' ⟨rfl, h9⟩; exact hK _ h9) | (refine (KL.out _ hS).mono ?_; rintro e w'' ⟨rfl, h9⟩; exact hK _ h9) | (refine ⟨trivial, (KC.out _ hS).mono ?_⟩; rintro e w'' ⟨rfl, h9⟩; exact hK _ h9) | (refine ⟨trivial, (KF.out _ hS).mono ?_⟩; rintro e w'' ⟨rfl, h9⟩; exact hK _ h9) | (refine ⟨trivial, (KL.out _ hS).mono ?_⟩; rintro e w'' ⟨rfl, h9⟩; exact hK _ h9)
       case hfin2 =>
        intro Wd hSd
        simp only [List.foldl_cons, List.foldl_nil, List.length_cons, List.length_nil]
        have HSd := Lib.hid hSd
        have HBd : Hid (Below Z W Wd) := HBc.out.trans (hSd.mono HZc.out)
        have HB0d : Hid (Below W0.heap.size W0 Wd) := HB0c.out.trans (hSd.mono HB0c.out.size)
        have HOd := Lib.hid (HOC.out.on hSd)
        clear hSd
        have HRE : Hid (readB ids f t (pid, ps) = true) := by
         show _ = _
         rw [HRB.out]; simp [g2, g3]
        have hhere := HRH.out HRE.out
        have hpl2 : pre.length = ((bl.take k).filter (readB ids f t)).length := by rw [← HP.out, List.length_map]
        rw [← hpl2] at hhere
        have hlN : pre.length < (bl.filter (readB ids f t)).length := (List.getElem?_eq_some_iff.1 hhere).1
        have hY1 := HY.out pre ((pid, ps), .slice As R cs) W0 Wd HJ.out hlN HB0d.out ⟨hhere, HRW.out, HNZ.out⟩
        obtain ⟨fn, tmps, assign, body, hy, hRd⟩ := hY1
        have HR2 := Lib.hid hRd
        have HP2 : Hid ((pre ++ [(((pid, ps), Value.slice As R cs) : Blk × Value)]).map (fun x => x.1) = (bl.take (k + 1)).filter (readB ids f t)) := by
         show _ = _
         rw [HRT.out, HRE.out, List.map_append, HP.out]; rfl
        dsimp only [encO] at hy
        clear hRd hhere hpl2 hlN
        refine wpAnyIn_ready (rs := [19]) (by kernel_rfl) (by simp) ?_
        refine AllReadyIn.cons rfl (fun K hK => ?_) AllReadyIn.nil
        go_simp
        refine HR2.out.mono ?_
        rintro e W3 hh
        obtain ⟨qq, rfl, hq1, hq2⟩ := toQ hh
        dsimp only
        refine hK _ _ ?_
        clear hK K hh hy HR2
        refine wpAnyIn_ready (rs := [20]) (by kernel_rfl) (by simp) ?_
        refine AllReadyIn.cons rfl (fun K hK => ?_) AllReadyIn.nil
        go_simp
        refine hK _ _ ?_
        clear hK K
        refine wpAnyIn_ready (rs := [21]) (by kernel_rfl) (by simp) ?_
        refine AllReadyIn.cons rfl (fun K hK => ?_) AllReadyIn.nil
        go_simp
        refine hK _ _ ?_
        clear hK K
        refine wpAnyIn_done (by kernel_rfl) ?_ _
        cases qq with
        | false =>
          have hJx := hq2 rfl
          gi_wp2_with fail
          refine bodyPost_ret (results_none rfl _ _ _) rfl ?_
          exact ⟨⟨_, rfl⟩, .inr ⟨_, W3, hJx, Below.refl _ _⟩⟩
        | true =>
          obtain ⟨hJ3, hK3⟩ := hq1 rfl
          have HJ3 := Lib.hid hJ3
          have HZ3 : Hid (Below Z W W3) := HBd.out.trans hK3.1
          have HO3 := Lib.hid (HOd.out.kept hk1 hk2 hK3)
          clear hJ3 hK3 hq1 hq2
          gi_wp2_with fail
          go_roundw
          case rel => exact ⟨k + 1, _, W3, by go_num, by omega, HP2.out, HJ3.out, Below.refl _ _, HZ3.out, HO3.out⟩
          case measure => simp [intOf]; omega
      ·have g4 : decide (f ≤ ls) = false := decide_eq_false g3
       refine wpIn_region_any (by kernel_rfl) ?_
       change wpAnyIn _ _ _ _ _ _ _ _ _ (World.drew _)
       refine wpAnyIn_quiet (by kernel_rfl) [0, 1, 2, 3, 4, 5, 6, 7, 8, 9, 10, 11, 12, 13, 14, 15, 16, 17, 18, 19, 20, 21] (fun w' => Below Wc.heap.size Wc w') [(some 17, .slice Ai ni ci), (some 18, .pointer (some ⟨H7, 0, none⟩)), (some 19, .int .i64 pid), (some 20, .bool true), (some 21, .bool true), (some 22, .agg #[.int .i64 pid, .slice As R cs]), (some 23, .int .i64 fs), (some 24, .int .i64 t), (some 25, .bool true), (some 26, .bool true), (some 27, .bool true), (some 28, .agg #[.int .i64 pid, .slice As R cs]), (some 29, .int .i64 ls), (some 30, .int .i64 f), (some 31, .bool false), (some 32, .bool false), (some 33, .bool false), (some 34, undef), (some 35, undef), (some 36, undef), (some 37, undef), (some 38, .bool false)] (by kernel_rfl) (by kernel_rfl) (by rfl) ((Ext.refl Wc).drewN _).below ?A3 ?hA3 ?hq3 ?hfin3
       case hA3 =>
        simp only [List.foldl_cons, List.foldl_nil]
        go_simp
        rfl
       case hq3 =>
        repeat (refine AllQ.cons rfl (fun w' K hS hK => ?_) ?_; rotate_left)
        exact AllQ.nil
        all_goals
         have d0 : w'.cell? ⟨H7, 0, none⟩ = some (.int .i64 pid) := (hS.cell (lt_of_cell HK.out.1)).trans HK.out.1
         have d1 : w'.cell? ⟨H7, 1, none⟩ = some (.slice As R cs) := (hS.cell (lt_of_cell HK.out.1)).trans HK.out.2.1
         have d2 : w'.cell? ⟨Bi, 0, none⟩ = some (.slice Ai ni ci) := (hS.cell (lt_of_cell HK.out.2.2.1)).trans HK.out.2.2.1
         have d3 : w'.cell? ⟨Bt, 0, none⟩ = some (.int .i64 t) := (hS.cell (lt_of_cell HK.out.2.2.2.1)).trans HK.out.2.2.2.1
         have d4 : w'.cell? ⟨Bf, 0, none⟩ = some (.int .i64 f) := (hS.cell (lt_of_cell HK.out.2.2.2.2)).trans HK.out.2.2.2.2
         go_simp
        all_goals first | exact hK _ hS | exact ⟨fun _ _ => trivial, hK _ hS⟩ | (refine (KC.out _ hS).mono ?_; rintro e w'' ⟨rfl, h9⟩; exact hK _ h9) | (refine (KF.out _ hS).mono ?_; rintro e w'' ⟨rfl, h9⟩; exact hK _ h9) | (refine (KL.out _ hS).mono ?_; rintro e w'' ⟨rfl, h9⟩; exact hK _ h9) | (refine ⟨trivial, (KC.out _ hS).mono ?_⟩; rintro e w'' ⟨rfl, h9⟩; exact hK _ h9) | (refine ⟨trivial, (KF.out _ hS).mono ?_⟩; rintro e w'' ⟨rfl, h9⟩; exact hK _ h9) | (refine ⟨trivial, (KL.out _ hS).mono ?_⟩; rintro e w'' ⟨rfl, h9⟩; exact hK _ h9)
       case hfin3 =>
        intro Wd hSd
        simp only [List.foldl_cons, List.foldl_nil, List.length_cons, List.length_nil]
        have HSd := Lib.hid hSd
        have HBd : Hid (Below Z W Wd) := HBc.out.trans (hSd.mono HZc.out)
        have HB0d : Hid (Below W0.heap.size W0 Wd) := HB0c.out.trans (hSd.mono HB0c.out.size)
        have HOd := Lib.hid (HOC.out.on hSd)
        clear hSd
        refine wpAnyIn_done (by kernel_rfl) ?_ _
        have HP2 : Hid (pre.map (fun x => x.1) = (bl.take (k + 1)).filter (readB ids f t)) := by
         show _ = _
         rw [HRT.out, HRB.out, HP.out]
         simp [g3]
        gi_wp2_with fail
        go_roundw
        case rel => exact ⟨k + 1, pre, W0, by go_num, by omega, HP2.out, HJ.out, HB0d.out, HBd.out, HOd.out⟩
        case measure => simp [intOf]; omega
     ·have g4 : decide (fs ≤ t) = false := decide_eq_false g2
      refine wpIn_region_any (by kernel_rfl) ?_
      change wpAnyIn _ _ _ _ _ _ _ _ _ (World.drew _)
      refine wpAnyIn_quiet (by kernel_rfl) [0, 1, 2, 3, 4, 5, 6, 7, 8, 9, 10, 11, 12, 13, 14, 15, 16, 17, 18, 19, 20, 21] (fun w' => Below Wc.heap.size Wc w') [(some 17, .slice Ai ni ci), (some 18, .pointer (some ⟨H7, 0, none⟩)), (some 19, .int .i64 pid), (some 20, .bool true), (some 21, .bool true), (some 22, .agg #[.int .i64 pid, .slice As R cs]), (some 23, .int .i64 fs), (some 24, .int .i64 t), (some 25, .bool false), (some 26, .bool false), (some 27, .bool false), (some 28, undef), (some 29, undef), (some 30, undef), (some 31, undef), (some 32, .bool false), (some 33, .bool false), (some 34, undef), (some 35, undef), (some 36, undef), (some 37, undef), (some 38, .bool false)] (by kernel_rfl) (by kernel_rfl) (by rfl) ((Ext.refl Wc).drewN _).below ?A4 ?hA4 ?hq4 ?hfin4
      case hA4 =>
       simp only [List.foldl_cons, List.foldl_nil]
       go_simp
       rfl
      case hq4 =>
       repeat (refine AllQ.cons rfl (fun w' K hS hK => ?_) ?_; rotate_left)
       exact AllQ.nil
       all_goals
        have d0 : w'.cell? ⟨H7, 0, none⟩ = some (.int .i64 pid) := (hS.cell (lt_of_cell HK.out.1)).trans HK.out.1
        have d1 : w'.cell? ⟨H7, 1, none⟩ = some (.slice As R cs) := (hS.cell (lt_of_cell HK.out.1)).trans HK.out.2.1
        have d2 : w'.cell? ⟨Bi, 0, none⟩ = some (.slice Ai ni ci) := (hS.cell (lt_of_cell HK.out.2.2.1)).trans HK.out.2.2.1
        have d3 : w'.cell? ⟨Bt, 0, none⟩ = some (.int .i64 t) := (hS.cell (lt_of_cell HK.out.2.2.2.1)).trans HK.out.2.2.2.1
        have d4 : w'.cell? ⟨Bf, 0, none⟩ = some (.int .i64 f) := (hS.cell (lt_of_cell HK.out.2.2.2.2)).trans HK.out.2.2.2.2
        go_simp
       all_goals first | exact hK _ hS | exact ⟨fun _ _ => trivial, hK _ hS⟩ | (refine (KC.out _ hS).mono ?_; rintro e w'' ⟨rfl, h9⟩; exact hK _ h9) | (refine (KF.out _ hS).mono ?_; rintro e w'' ⟨rfl, h9⟩; exact hK _ h9) | (refine (KL.out _ hS).mono ?_; rintro e w'' ⟨rfl, h9⟩; exact hK _ h9) | (refine ⟨trivial, (KC.out _ hS).mono ?_⟩; rintro e w'' ⟨rfl, h9⟩; exact hK _ h9) | (refine ⟨trivial, (KF.out _ hS).mono ?_⟩; rintro e w'' ⟨rfl, h9⟩; exact hK _ h9) | (refine ⟨trivial, (KL.out _ hS).mono ?_⟩; rintro e w'' ⟨rfl, h9⟩; exact hK _ h9)
      case hfin4 =>
       intro Wd hSd
       simp only [List.foldl_cons, List.foldl_nil, List.length_cons, List.length_nil]
       have HSd := Lib.hid hSd
       have HBd : Hid (Below Z W Wd) := HBc.out.trans (hSd.mono HZc.out)
       have HB0d : Hid (Below W0.heap.size W0 Wd) := HB0c.out.trans (hSd.mono HB0c.out.size)
       have HOd := Lib.hid (HOC.out.on hSd)
       clear hSd
       refine wpAnyIn_done (by kernel_rfl) ?_ _
       have HP2 : Hid (pre.map (fun x => x.1) = (bl.take (k + 1)).filter (readB ids f t)) := by
        show _ = _
        rw [HRT.out, HRB.out, HP.out]
        simp [g2]
       gi_wp2_with fail
       go_roundw
       case rel => exact ⟨k + 1, pre, W0, by go_num, by omega, HP2.out, HJ.out, HB0d.out, HBd.out, HOd.out⟩
       case measure => simp [intOf]; omega
  ·have hkN2 : k = N := by omega
   have HPE : Hid (pre.map (fun x => x.1) = bl.filter (readB ids f t)) := by have h := HP.out; rw [hkN2, HN.out, List.take_length] at h; exact h
   have i1 : ¬ (k : Int) < (N : Int) := by omega
   gi_wp2_with fail
   first | go_end0 | refine bodyPost_ret (results_none rfl _ _ _) rfl ?_
   exact ⟨⟨_, rfl⟩, .inl ⟨_, HPE.out, W0, HJ.out, HB0.out⟩⟩
end Go.Proofs.YtnkelahimiipjaaGreatDoor
