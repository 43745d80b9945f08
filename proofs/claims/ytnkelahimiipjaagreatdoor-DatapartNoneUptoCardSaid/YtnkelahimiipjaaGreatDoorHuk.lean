/-
 datapart.Build: clean points that are not too many.
-/
import Derived.Test.YtnkelahimiipjaaGreatDoorHpk
import Derived.Test.YtnkelahimiipjaaGreatDoorHxk
import Derived.Test.YtnkelahimiipjaaGreatDoorPmk
import Derived.Test.YtnkelahimiipjaaGreatDoorHnk
import Derived.Test.YtnkelahimiipjaaGreatDoorCwk
import Derived.Test.YtnkelahimiipjaaGreatDoorCzk
import Derived.Test.YtnkelahimiipjaaGreatDoorCjk
namespace Go.Proofs.YtnkelahimiipjaaGreatDoor
open Go.RowKit Go.Sort
attribute [local go_sem] Oper.semAt_some
theorem Rd.side {Z : Nat} {W w1 w2 : World} {v : Value} {l : List Smp} (h : Rd w1 Z v l) (h1 : Below Z W w1) (h2 : Below Z W w2) : Rd w2 Z v l := by
 obtain ⟨A, c, rfl, hc, hA⟩ := h
 refine ⟨A, c, rfl, hc, hA.imp id fun ⟨b, o, e, hb, hcl⟩ => ⟨b, o, e, hb, fun i hi => ?_⟩⟩
 obtain ⟨q0, q1, q2, q3⟩ := hcl i hi
 have k : ∀ t, w2.cell? ⟨b, t, none⟩ = w1.cell? ⟨b, t, none⟩ := fun t => (h2.cell hb).trans (h1.cell hb).symm
 exact ⟨(k _).trans q0, (k _).trans q1, (k _).trans q2, (k _).trans q3⟩
theorem alloc_put {w : World} {l : Nat} (h : l < w.heap.size) (o c : Obj) : (w.putObj l o).alloc c = (w.alloc c).putObj l o := by
 unfold World.alloc World.putObj
 simp only [World.mk.injEq, and_true]
 refine Array.ext_getElem? fun k => ?_
 rw [Array.getElem?_push, Array.getElem?_setIfInBounds, Array.getElem?_setIfInBounds, Array.size_setIfInBounds, Array.size_push, Array.getElem?_push]
 by_cases h1 : k = w.heap.size
 ·by_cases h2 : l = k
  ·omega
  ·rw [if_pos h1, if_neg h2, if_pos h1]
 ·by_cases h2 : l = k
  ·rw [if_neg h1, if_pos h2, if_pos h2, if_pos h, if_pos (by omega)]
  ·rw [if_neg h1, if_neg h2, if_neg h2, if_neg h1]
theorem putV_some (u : Nat) : putV u ≠ [] := fun e => by
 have := putV_pos u
 rw [e] at this
 simp at this
theorem index_some {bl : List Blk} (h : bl ≠ []) (o : Nat) : indexB o bl ≠ [] := by
 cases bl with
 | nil => exact absurd rfl h
 | cons b bl =>
   intro e
   rw [indexB] at e
   have e1 := (List.append_eq_nil_iff.1 e).1
   unfold entB at e1
   exact putV_some _ (List.append_eq_nil_iff.1 e1).1
theorem blks_some {l : List Pts} (h : Clean l) (h0 : l ≠ []) : blksV l ≠ [] := fun e => h0 (by
 have h1 := blks_clean h
 rw [e] at h1
 rw [← h1]; rfl)
set_option maxRecDepth 100000 in
set_option maxHeartbeats 4000000 in
theorem build_file (v : Value) (l : List Pts) (W : World) (T : Tabs W) (hT : TabT W) (hH : TabH W) (hR : RdP W W.heap.size v l) (hwf : ∀ p ∈ l, (Lit.int .i64 p.1).wf = true) (h0 : l ≠ []) (h1 : cleanS l = l) (h2 : manyL (cleanS l) ≤ 2000) :
  Calls Tryz.prog 11 #[v] W fun e w' => BldR W l e w' := by
 have hr : Tryz.f11.results = #[.tmp 2, .tmp 3] := by kernel_rfl
 have hcl : Clean l := by rw [← h1]; exact cleanS_clean l
 have HCL := Lib.hid hcl
 have hsm := small_many hcl (by rw [h1] at h2; exact h2)
 have HSM := Lib.hid hsm
 have hlen : l.length ≤ 1000000 := hsm.1
 have hml : manyL l ≤ 2000 := by rw [h1] at h2; exact h2
 have HFIT := Lib.hid (table_fits hcl hml)
 have HBV := Lib.hid (build_ok h0 h1 h2)
 have HSOME := Lib.hid (blks_some hcl h0)
 have KM : Hid (CallsIn Fence.wide 39 Tryz.prog 30 #[v] W fun e w' => e = .returned (.int .i64 (manyL l : Nat)) ∧ Below W.heap.size W w') := callsIn_wide.2 (by
  have h := smany v l W T hR hwf (by omega) (by omega)
  rw [h1] at h; exact h)
 have KC : Hid (∀ w', Below W.heap.size W w' → CallsIn Fence.wide 39 Tryz.prog 31 #[v] w' fun e w'' => e = .returned (.bool true) ∧ Below w'.heap.size w' w'') := fun w' hb => callsIn_wide.2 (by
  have h := dclean_walk v l w' (T.below hb) (hR.on hb) hwf (by omega) (by omega) (by rw [h1]; exact hsm)
  rw [decide_eq_true h1] at h; exact h)
 have hg : 0 < W.heap.size := lt_of_cell (hT 0 (by decide))
 have HG := Lib.hid hg
 have HT := Lib.hid hT
 have HH := Lib.hid hH
 have HR := Lib.hid hR
 obtain ⟨m, hm⟩ : ∃ m, m = manyL l := ⟨_, rfl⟩
 rw [← hm] at KM hml
 have g1 : ¬ (m : Int) > 2000 := by omega
 obtain ⟨n, hn⟩ : ∃ n, n = l.length := ⟨_, rfl⟩
 obtain ⟨A, c, rfl, _⟩ := hR
 have g3 : ((n : Int) == 0) = false := by
  have : n ≠ 0 := by rw [hn]; exact fun e => h0 (List.eq_nil_of_length_eq_zero e)
  simp; omega
 rw [← hn] at KM KC HR ⊢
 have KS : ∀ w, CallsIn Fence.wide 39 Tryz.prog 32 #[.slice A n c] w fun e w' => e = .returned (.func (.func 61) #[] #[.pointer (some ⟨w.heap.size, 0, none⟩)]) ∧ w' = w.alloc (.cells #[.slice A n c] 22) := fun w => callsIn_wide.2 (split_walk A n c w)
 have hf1 : Fence.wide.fn 30 := trivial
 have hf2 : Fence.wide.fn 31 := trivial
 have hf3 : Fence.wide.fn 32 := trivial
 have hf4 : Fence.wide.fn 36 := trivial
 have hf5 : Fence.wide.fn 35 := trivial
 have hf6 : Fence.wide.fn 37 := trivial
 clear T hT hH hwf h0 h1 h2 hcl hsm hlen hml hm hn hg
 refine (callsIn_wide (n := 40)).1 ?_
 refine callsIn_of_wp_marks Tryz.func11 rfl trivial ?_ rfl
 simp only [Tryz.ntmps11, List.size_toArray, List.length_cons, List.length_nil, Nat.reduceAdd, Nat.reduceSub, Array.replicate_succ, Array.replicate_zero, List.push_toArray, List.append_toArray, List.nil_append, List.cons_append]
 gi_wp2_with fail
 refine KM.out.mono ?_
 rintro e wa ⟨rfl, hB⟩
 have HBa := Lib.hid hB
 have KC1 := Lib.hid (KC.out wa hB)
 clear hB KM KC
 gi_wp2_with fail
 refine KC1.out.mono ?_
 rintro e wb ⟨rfl, hB⟩
 have HBb : Hid (Below W.heap.size W wb) := HBa.out.trans (hB.mono HBa.out.size)
 clear hB KC1 HBa
 gi_wp2_with fail
 refine (KS _).mono ?_
 rintro e w1 ⟨rfl, hw1⟩
 obtain ⟨B0, hB0⟩ : ∃ B0, B0 = wb.heap.size := ⟨_, rfl⟩
 have hWB0 : W.heap.size ≤ B0 := by rw [hB0]; exact HBb.out.size
 have hsz : w1.heap.size = B0 + 4 := by rw [hw1, hB0]; simp
 have hbx : Boxed w1 (B0 + 1 + 1 + 1) 22 (.slice A n c) := by rw [hw1]; exact boxNew _ _ _ (by simp <;> omega)
 have hBw : Below wb.heap.size wb w1 := by
  rw [hw1]; exact ((((Below.refl _ wb).alloc (Nat.le_refl _) _).alloc (by simp) _).alloc (by simp <;> omega) _).alloc (by simp <;> omega) _
 have hB1 : Below W.heap.size W w1 := HBb.out.trans (hBw.mono HBb.out.size)
 have HI0 : Hid (BdI W B0 (.slice none 0 0) (.slice none 0 0) [] [] 0 w1) := by
  refine ⟨?_, OwnG.nil _ _, ?_, OwnG.nil _ _, ?_, fun k e => (by cases e), hB1, hWB0⟩
  ·rw [hw1, hB0]; exact (((boxNew _ _ _ rfl).alloc _).alloc _).alloc _
  ·rw [hw1, hB0]; exact ((boxNew _ _ _ (by simp)).alloc _).alloc _
  ·rw [hw1, hB0]; exact (boxNew _ _ _ (by simp)).alloc _
 have HB1 := Lib.hid hB1
 have HB0 := Lib.hid hB0
 clear hw1 hBw HBb hB0 hB1 KS
 gi_wp2_with fail
 rw [← HB0.out]
 have hZ : W.heap.size ≤ w1.heap.size := by omega
 refine range_y (kt := ktB) (Z := W.heap.size) (N := (blksV l).length) (F := Fence.wide) (n := 40) rfl (by omega) (gf := 61) (lb := #[.pointer (some ⟨B0 + 1 + 1 + 1, 0, none⟩)]) (by simp [Act.eval]) trivial (enters_of Tryz.func61 (by kernel_rfl) rfl) (encs := encH) (New := NewH w1 W.heap.size l) (S := fun xs => xs.map (fun x => x.1) = blksV l) (Sp := fun _ => True) (w0 := w1) hZ
  (iter_split ktB rfl W.heap.size 39 _ (.slice A n c) l w1 (by omega) hbx.cell (by omega) hZ (HR.out.below HB1.out) (HT.out.below HB1.out) HG.out HSM.out (okP_clean HCL.out)) (Below.refl _ _) (fun _ => rfl) (fun pre A1 B x l1 o h hl => h.put hl o)
  (fun pre W1 => (∃ bv xv, BdI W B0 bv xv (framesB (pre.map fun x => x.1)) (indexB 0 (pre.map fun x => x.1)) pre.length W1) ∧ pre.map (fun x => x.1) = (blksV l).take pre.length) (fun _ _ => False) ?hI ?hIx ?h0 (fun x W9 => { tmps := #[.slice A n c, undef, .slice none 0 0, .int .i64 0, .pointer (some ⟨B0, 0, none⟩), .pointer (some ⟨B0 + 1, 0, none⟩), .pointer (some ⟨B0 + 1 + 1, 0, none⟩), .pointer (some ⟨W9.heap.size, 0, none⟩), x.2.2, undef, undef, undef, undef, undef, undef, undef, .bool (decide (2000 < (m : Int))), .slice A n c, .int .i64 (m : Int), .bool (decide (2000 < (m : Int))), .bool false, .slice A n c, .int .i64 (n : Int), .bool false, .slice A n c, .bool true, .bool false, .slice A n c, .func (.func 61) #[] #[.pointer (some ⟨B0 + 1 + 1 + 1, 0, none⟩)], .agg #[.int .i64 x.1.1, x.2.1], x.2.2, undef, undef, undef, undef, undef, undef, undef, undef, undef, undef, undef, undef, undef, undef, undef, undef, undef, undef, undef, undef, undef, undef, undef, undef, undef, undef, undef, undef, undef, undef, undef, undef, undef, undef, undef, undef, undef, undef, undef, undef, undef, undef, undef, undef, undef, undef, undef, undef, undef, undef, undef, undef, undef, undef, undef, undef, undef, undef, undef, undef, undef, undef, undef, undef, undef], defers := [] }) (fun x W9 => W9.alloc (.cells #[.int .i64 x.1.1, x.2.1] 71)) ?cb ?ca ?cw ?assign ?body ?done ?stop
 case hI => rintro s A1 l1 r o ⟨⟨bv, xv, h⟩, h2⟩ hl hr1; exact ⟨⟨bv, xv, h.putLoop hr1 (by omega) o⟩, h2⟩
 case hIx => intro s A1 l1 r o h; exact h.elim
 case h0 => intro B hB; exact ⟨⟨_, _, HI0.out.on hB⟩, rfl⟩
 case cb => intro x W9; exact (Below.refl _ _).alloc (Nat.le_refl _) _
 case ca => intro x W9 l1 o; rw [World.putObj_size]
 case cw => 
  intro x W9 l1 o hl
  exact alloc_put hl _ _
 case assign =>
  rintro l1 x W9 K ⟨_, _, _, _, hRd, _⟩ hK
  obtain ⟨⟨pid, ps⟩, sv, bd⟩ := x
  obtain ⟨As, cs, hsv, _⟩ := hRd
  dsimp only at hsv
  subst hsv
  dsimp only [encH] at hK ⊢
  gi_wp2
  exact hK
 case body =>
  rintro l1 pre x W0 Wb hl1 hlW ⟨⟨bv, xv, hI⟩, hpre⟩ hpl hbel ⟨hx, hRd, hNz, hO⟩
  obtain ⟨⟨pid, ps⟩, sv, bd⟩ := x
  dsimp only at hx hRd hNz hO ⊢
  have hmem : ((pid, ps) : Blk) ∈ blksV l := List.mem_of_getElem? hx
  obtain ⟨hok, hne, hpid⟩ := blks_ok HCL.out _ hmem
  have htk := blk_ticks HCL.out hmem
  dsimp only at hne hpid htk
  have hps : ps.length ≤ 16 := hok.2.2.1
  have hpm : pid ≤ 1073741824 := hok.2.1
  have HB8 : Hid (∀ c ∈ blkB ((pid, ps) : Blk), c < 256) := blkB_byte hps
  have hbl := blkB_len hok
  have HBL := Lib.hid hbl
  obtain ⟨fs, hfs⟩ : ∃ fs, fs = firstT ps := ⟨_, rfl⟩
  obtain ⟨ls, hls⟩ : ∃ ls, ls = lastT ps := ⟨_, rfl⟩
  rw [← hfs, ← hls] at htk
  obtain ⟨s0, rest, hps0⟩ : ∃ s0 rest, ps = s0 :: rest := by
   cases ps with
   | nil => exact absurd rfl hne
   | cons a b => exact ⟨a, b, rfl⟩
  obtain ⟨sl, hsl⟩ : ∃ sl, ps.getLast? = some sl := ⟨_, List.getLast?_eq_some_getLast hne⟩
  have hf1 : s0.1 = fs := by rw [hfs, hps0]; rfl
  have hl2 : sl.1 = ls := by rw [hls]; unfold lastT; rw [hsl]; rfl
  obtain ⟨bl, hbl0⟩ : ∃ bl, bl = pre.map (fun x : BlkX => x.1) := ⟨_, rfl⟩
  rw [← hbl0] at hI hpre
  have HBL0 : Hid (pre.map (fun x : BlkX => x.1) = bl) := hbl0.symm
  obtain ⟨P, hP⟩ : ∃ P, P = pre.length := ⟨_, rfl⟩
  have HP0 : Hid (pre.length = P) := hP.symm
  rw [← hP] at hI
  have hmb : ∀ b ∈ bl, b ∈ blksV l := fun b hb => by rw [hpre] at hb; exact List.mem_of_mem_take hb
  have h2000 : bl.length ≤ 2000 := by have h1 := HFIT.out.2.2; rw [hpre, List.length_take]; omega
  have hbl9 : (framesB bl).length ≤ 2100000 := by
   have h3 := frames_max (bl := bl) (fun b hb => (blks_ok HCL.out b (hmb b hb)).1)
   omega
  have hix : (indexB 0 bl).length ≤ 64000 := by
   have := index_len HCL.out bl 0 hmb (by omega)
   omega
  have HPRE : Hid (bl ++ [(pid, ps)] = (blksV l).take (P + 1)) := by
   show _ = _
   rw [hpre, hP, List.take_add_one, hx]; rfl
  have hPb : P ≤ 2000 := by have := HFIT.out.2.2; omega
  clear hbl0 hP hx hpl hpre hmb h2000
  obtain ⟨pu, rfl⟩ : ∃ pu : Nat, pid = (pu : Int) := ⟨pid.toNat, by omega⟩
  obtain ⟨fu, rfl⟩ : ∃ fu : Nat, fs = (fu : Int) := ⟨fs.toNat, by omega⟩
  obtain ⟨du, hdu⟩ : ∃ du : Nat, ls - (fu : Int) = (du : Int) := ⟨(ls - fu).toNat, by omega⟩
  have hlw : IntKind.i64.wrap (ls - (fu : Int)) = (du : Int) := by rw [hdu]; exact IntWalk.i64_in _ (by omega)
  obtain ⟨As, cs, rfl, _⟩ := id hRd
  obtain ⟨Ad, nd, cd, rfl⟩ := hO.sl
  obtain ⟨Ab, cb, hbv, _⟩ := hI.ob.rd
  obtain ⟨Bn, hBn⟩ : ∃ Bn, Bn = (framesB bl).length := ⟨_, rfl⟩
  obtain ⟨R, hR0⟩ : ∃ R, R = ps.length := ⟨_, rfl⟩
  rw [← hBn] at hbv hbl9
  subst hbv
  rw [← hR0] at hps hRd hNz ⊢
  obtain ⟨Wc, hWc⟩ : ∃ Wc, Wc = Wb.alloc (.cells #[.int .i64 (pu : Int), .slice As R cs] 71) := ⟨_, rfl⟩
  obtain ⟨H7, hH7⟩ : ∃ H7, H7 = Wb.heap.size := ⟨_, rfl⟩
  have hbc : Below Wb.heap.size Wb Wc := by rw [hWc]; exact (Below.refl _ _).alloc (Nat.le_refl _) _
  have hh7 : Wc.heap[H7]? = some (.cells #[.int .i64 (pu : Int), .slice As R cs] 71 (0, 0)) := by rw [hWc, hH7]; exact heap_alloc_new Wb _
  have c70 : Wc.cell? ⟨H7, 0, none⟩ = some (.int .i64 (pu : Int)) := by simp [World.cell?, hh7]
  have c71 : Wc.cell? ⟨H7, 1, none⟩ = some (.slice As R cs) := by simp [World.cell?, hh7]
  have hIc := (hI.on hbel).on hbc
  have c4 := hIc.b.cell
  have HI := Lib.hid hIc
  have HK0 : Hid (KpT ktB W.heap.size Wb Wc) := KpT.below hbc (hI.on hbel).below.size
  have HOd : Hid (OwnG EB 5 Wc W0.heap.size (.slice Ad nd cd) (blkB ((pu : Int), ps))) := hO.below hbc
  have HRS : Hid (∀ w', Below Wc.heap.size Wc w' → Rd w' w'.heap.size (.slice As R cs) ps) := fun w' h => by
   have h2 := hIc.below.trans (h.mono hIc.below.size)
   exact (hRd.side HB1.out h2).mono h2.size
  have HC := Lib.hid (And.intro c70 (And.intro c71 c4))
  have KF : Hid (∀ w', Below Wc.heap.size Wc w' → CallsIn (Fence.wide.inRound l1) 37 Tryz.prog 33 #[.agg #[.int .i64 (pu : Int), .slice As R cs]] w' fun e w'' => e = .returned (.int .i64 (fu : Int)) ∧ Below Wc.heap.size Wc w'') := fun w' h =>
   CallsIn.inRound l1 (callsIn_wide.2 ((hfirst_walk (pu : Int) _ s0 rest w' (by rw [← hps0]; exact HRS.out w' h)).mono fun e w'' ⟨h1, h2⟩ => ⟨by rw [h1, hf1], h.trans (h2.below.mono h.size)⟩))
  have KL : Hid (∀ w', Below Wc.heap.size Wc w' → CallsIn (Fence.wide.inRound l1) 37 Tryz.prog 34 #[.agg #[.int .i64 (pu : Int), .slice As R cs]] w' fun e w'' => e = .returned (.int .i64 ls) ∧ Below Wc.heap.size Wc w'') := fun w' h =>
   CallsIn.inRound l1 (callsIn_wide.2 ((hlast_walk (pu : Int) _ sl ps w' (HRS.out w' h) (by omega) hsl).mono fun e w'' ⟨h1, h2⟩ => ⟨by rw [h1, hl2], h.trans (h2.below.mono h.size)⟩))
  have hfF : (Fence.wide.inRound l1).fn 33 := trivial
  have hfL : (Fence.wide.inRound l1).fn 34 := trivial
  have HENT : Hid (entB Bn ((pu : Int), ps) = putsN [pu, R, fu, du, Bn]) := by
   show _ = _
   rw [← putsN_ent]
   unfold entN
   rw [← hfs, ← hls, hdu, hR0]
   simp
  have HBN := Lib.hid hBn
  have HB64 : Hid (pu < 18446744073709551616 ∧ R < 18446744073709551616 ∧ fu < 18446744073709551616 ∧ du < 18446744073709551616 ∧ Bn < 18446744073709551616) := by show _ ∧ _; omega
  rw [← hH7, ← hWc]
  clear hWc hH7 hbc hh7 hI hIc hO hRd hbel hok hmem hBn hR0 hps0 hf1 hl2 hsl hfs hls hdu htk
  gi_wp2_with fail
  refine wpIn_region_any (by kernel_rfl) ?_
  change wpAnyIn _ _ _ _ _ _ _ _ _ (World.drew _)
  refine wpAnyIn_takeR (i := 16) (v := ?_) (by kernel_rfl) rfl (by kernel_rfl) (by kernel_rfl) (by kernel_rfl) (fun _ _ _ h => h) (Or.inl ⟨by rfl, ?_⟩) (fun _ => rfl) ?_
  rotate_left
  · intro w
    (go_simp <;> with_reducible rfl)
  refine wpAnyIn_quiet (by kernel_rfl) [0, 1, 2, 3, 4, 5, 6, 7, 8, 9, 10, 11, 12, 13] (fun w' => Below Wc.heap.size Wc w') [(some 31, .pointer (some ⟨H7, 0, none⟩)), (some 32, .int .i64 (pu : Int)), (some 33, .pointer (some ⟨H7, 1, none⟩)), (some 34, .slice As R cs), (some 35, .int .i64 (R : Int)), (some 36, .agg #[.int .i64 (pu : Int), .slice As R cs]), (some 37, .int .i64 (fu : Int)), (some 38, .agg #[.int .i64 (pu : Int), .slice As R cs]), (some 39, .int .i64 ls), (some 40, .agg #[.int .i64 (pu : Int), .slice As R cs]), (some 41, .int .i64 (fu : Int)), (some 42, .int .i64 (du : Int)), (some 43, .slice Ab Bn cb), (some 44, .int .i64 (Bn : Int))] (by kernel_rfl) (by kernel_rfl) (by rfl) ((Ext.refl Wc).drewN _).below ?A ?hA ?hq ?hfin
  case hA =>
   simp only [List.foldl_cons, List.foldl_nil]
   go_simp
   rfl
  case hq =>
   refine AllQ.cons rfl (fun w' K hS hK => ?_) (AllQ.cons rfl (fun w' K hS hK => ?_) (AllQ.cons rfl (fun w' K hS hK => ?_) (AllQ.cons rfl (fun w' K hS hK => ?_) (AllQ.cons rfl (fun w' K hS hK => ?_) (AllQ.cons rfl (fun w' K hS hK => ?_) (AllQ.cons rfl (fun w' K hS hK => ?_) (AllQ.cons rfl (fun w' K hS hK => ?_) (AllQ.cons rfl (fun w' K hS hK => ?_) (AllQ.cons rfl (fun w' K hS hK => ?_) (AllQ.cons rfl (fun w' K hS hK => ?_) (AllQ.cons rfl (fun w' K hS hK => ?_) (AllQ.cons rfl (fun w' K hS hK => ?_) (AllQ.cons rfl (fun w' K hS hK => ?_) AllQ.nil)))))))))))))
   all_goals
    have d0 : w'.cell? ⟨H7, 0, none⟩ = some (.int .i64 (pu : Int)) := (hS.cell (lt_of_cell HC.out.1)).trans HC.out.1
    have d1 : w'.cell? ⟨H7, 1, none⟩ = some (.slice As R cs) := (hS.cell (lt_of_cell HC.out.1)).trans HC.out.2.1
    have d4 : w'.cell? ⟨B0, 0, none⟩ = some (.slice Ab Bn cb) := (hS.cell (lt_of_cell HC.out.2.2)).trans HC.out.2.2
    go_simp
   all_goals first | exact hK _ hS | (refine ⟨trivial, (KF.out _ hS).mono ?_⟩; rintro e w'' ⟨rfl, h9⟩; exact hK _ h9) | (refine ⟨trivial, (KL.out _ hS).mono ?_⟩; rintro e w'' ⟨rfl, h9⟩; exact hK _ h9)
  case hfin =>
   intro Wd hSd
   simp only [List.foldl_cons, List.foldl_nil, List.length_cons, List.length_nil]
   refine wpAnyIn_ready (rs := [14]) (by kernel_rfl) (by simp) ?_
   refine AllReadyIn.cons rfl (fun K hK => ?_) AllReadyIn.nil
   go_simp
   refine hK _ _ ?_
   clear hK K
   refine wpAnyIn_ready (rs := [15]) (by kernel_rfl) (by simp) ?_
   refine AllReadyIn.cons rfl (fun K hK => ?_) AllReadyIn.nil
   go_simp
   refine hK _ _ ?_
   clear hK K
   refine wpAnyIn_done (by kernel_rfl) ?_ _
   have HSd := Lib.hid hSd
   have hId := HI.out.on hSd
   obtain ⟨nsL, hns⟩ : ∃ nsL, nsL = [pu, R, fu, du, Bn] := ⟨_, rfl⟩
   rw [← hns] at HENT
   have HN64 : Hid (∀ i, nsL.getD i 0 < 18446744073709551616 ∧ (putV (nsL.getD i 0)).length ≤ 10) := fun i => by
    have h : nsL.getD i 0 < 18446744073709551616 := by
     rw [hns]
     have := HB64.out
     match i with
     | 0 | 1 | 2 | 3 | 4 => simp; omega
     | k + 5 => simp
    exact ⟨h, put_len 9 _ (by omega)⟩
   have HNL : Hid (nsL.length = 5) := by show _ = _; rw [hns]; rfl
   obtain ⟨Nb, hNb⟩ : ∃ Nb, Nb = Wd.heap.size := ⟨_, rfl⟩
   obtain ⟨We, hWe⟩ : ∃ We, We = Wd.alloc (.cells #[.int .i64 (pu : Int), .int .i64 (R : Int), .int .i64 (fu : Int), .int .i64 (du : Int), .int .i64 (Bn : Int)] 2) := ⟨_, rfl⟩
   have hhe : We.heap[Nb]? = some (.cells #[.int .i64 (pu : Int), .int .i64 (R : Int), .int .i64 (fu : Int), .int .i64 (du : Int), .int .i64 (Bn : Int)] 2 (0, 0)) := by rw [hWe, hNb]; exact heap_alloc_new Wd _
   have HNC : Hid (∀ i, i < 5 → We.cell? ⟨Nb, i, none⟩ = some (.int .i64 ((nsL.getD i 0 : Nat) : Int))) := fun i hi => by
    rw [hns]
    match i, hi with
    | 0, _ | 1, _ | 2, _ | 3, _ | 4, _ => simp [World.cell?, hhe]
   have hbe : Below Wd.heap.size Wd We := by rw [hWe]; exact (Below.refl _ _).alloc (Nat.le_refl _) _
   have HNBlt : Hid (Nb < We.heap.size) := by show _ < _; rw [hWe, hNb]; simp
   have hIe := hId.on hbe
   have hKe : KpT ktB W.heap.size Wb We := HK0.out.trans ((KpT.below hSd HI.out.below.size).trans (KpT.below hbe hId.below.size))
   have hOe : OwnG EB 5 We W0.heap.size (.slice Ad nd cd) (blkB ((pu : Int), ps)) := (HOd.out.below hSd).below hbe
   have HIe : Hid (∃ XA xn xc, BdI W B0 (.slice Ab Bn cb) (.slice XA xn xc) (framesB bl) (indexB 0 bl ++ putsN (nsL.take 0)) P We) := by
    obtain ⟨XA, xc, ex, _⟩ := hIe.ox.rd
    refine ⟨XA, (indexB 0 bl).length, xc, ?_⟩
    rw [← ex]
    simpa [putsN] using hIe
   have HKe := Lib.hid hKe
   have HOe := Lib.hid hOe
   have HIX := Lib.hid hix
   rw [← hNb, ← hWe]
   gi_wp2_with fail
   clear hNb hWe hhe hbe hIe hKe hOe hId hSd HSd hns HC HRS KF KL HI HK0 HOd hix hNz
   gi_loopw [10, 47] (fun _ iv wl => ∃ (i : Nat) (XA : Option Addr) (xn xc : Nat), i ≤ 5 ∧ iv = .int .i64 (i : Int) ∧ Hid (BdI W B0 (.slice Ab Bn cb) (.slice XA xn xc) (framesB bl) (indexB 0 bl ++ putsN (nsL.take i)) P wl) ∧ Hid (KpT ktB W.heap.size Wb wl) ∧ Hid (OwnG EB 5 wl W0.heap.size (.slice Ad nd cd) (blkB ((pu : Int), ps))) ∧ Hid (∀ i, i < 5 → wl.cell? ⟨Nb, i, none⟩ = some (.int .i64 ((nsL.getD i 0 : Nat) : Int))))
    (fun _ iv _ => 5 - (intOf iv).toNat)
   case atStart =>
    obtain ⟨XA, xn, xc, h⟩ := HIe.out
    exact ⟨0, XA, xn, xc, by omega, rfl, h, HKe.out, HOe.out, HNC.out⟩
   case round =>
    obtain ⟨i, XA, xn, xc, hi, rfl, HIi, HKi, HOi, HNi⟩ := hrel
    by_cases hlt : i < 5
    ·have hnc := HNi.out i hlt
     have cx := HIi.out.x.cell
     have fx := HIi.out.x.frozen
     have h64 := HN64.out i
     obtain ⟨nn, hnn⟩ : ∃ nn, nn = nsL.getD i 0 := ⟨_, rfl⟩
     rw [← hnn] at hnc h64
     have hwr : IntKind.u64.wrap (nn : Int) = (nn : Int) := by rw [IntKind.wrap_u64]; omega
     have hln : ∀ k, (putsN (nsL.take k)).length ≤ 10 * k := by
      intro k
      induction k with
      | zero => simp [putsN]
      | succ k ih =>
        by_cases hk : k < nsL.length
        ·rw [putsN_snoc _ hk, List.length_append]
         have := (HN64.out k).2
         rw [List.getD_eq_getElem?_getD, List.getElem?_eq_getElem hk] at this
         simp only [Option.getD_some] at this
         omega
        ·rw [List.take_of_length_le (by omega)]
         rw [List.take_of_length_le (by omega)] at ih
         omega
     have hln2 := hln i
     have KP : Hid (CallsIn (Fence.wide.inRound l1) 37 Tryz.prog 35 #[.slice XA xn xc, .int .u64 (nn : Int)] wr fun e w' => ∃ A n c, e = .returned (.slice A n c) ∧ OwnG EB 5 w' wr.heap.size (.slice A n c) (indexB 0 bl ++ putsN (nsL.take i) ++ putV nn) ∧ Below wr.heap.size wr w') := CallsIn.inRound l1 (callsIn_wide.2 ((vPut_walk _ _ nn wr HIi.out.ox.rd h64.1 (by rw [List.length_append]; have := HIX.out; omega)).mono (by
      rintro e w' ⟨v', rfl, ho, hb⟩
      obtain ⟨A, n, c, rfl⟩ := ho.sl
      exact ⟨A, n, c, rfl, ho, hb⟩)))
     have HNN : Hid (indexB 0 bl ++ putsN (nsL.take i) ++ putV nn = indexB 0 bl ++ putsN (nsL.take (i + 1))) := by
      show _ = _
      rw [putsN_snoc _ (by rw [HNL.out]; exact hlt), List.append_assoc, hnn, List.getD_eq_getElem?_getD, List.getElem?_eq_getElem (by rw [HNL.out]; exact hlt)]
      rfl
     have i1 : (i : Int) < 5 := by omega
     clear hln hln2 hnn h64 HIe HKe HOe HNC
     gi_wp2_with fail
     refine KP.out.mono ?_
     rintro e w2 ⟨A2, n2, c2, rfl, ho2, hb2⟩
     have hI2 := HIi.out.on hb2
     obtain ⟨hI3, hK3⟩ := hI2.putX (ho2.lower HIi.out.below.size) (apart_new HIi.out.ob ho2)
     have cx2 := hI2.x.cell
     have fx2 := hI2.x.frozen
     rw [HNN.out] at hI3
     have HI3 := Lib.hid hI3
     have HK3 : Hid (KpT ktB W.heap.size Wb (w2.setCell ⟨B0 + 1, 0, none⟩ (.slice A2 n2 c2))) := HKi.out.trans ((KpT.below hb2 HIi.out.below.size).trans hK3)
     have HO3 : Hid (OwnG EB 5 (w2.setCell ⟨B0 + 1, 0, none⟩ (.slice A2 n2 c2)) W0.heap.size (.slice Ad nd cd) (blkB ((pu : Int), ps))) := (HOi.out.below hb2).set hI2.x (by decide) _
     have HN3 : Hid (∀ i, i < 5 → (w2.setCell ⟨B0 + 1, 0, none⟩ (.slice A2 n2 c2)).cell? ⟨Nb, i, none⟩ = some (.int .i64 ((nsL.getD i 0 : Nat) : Int))) := fun k hk => by
      have h1 := HNi.out k hk
      have h2 := (hb2.cell (lt_of_cell h1)).trans h1
      rw [World.cell?_setCell_other]
      ·exact h2
      ·intro e
       injection e with e1 e2
       subst e1 e2
       rw [hI2.x.cell] at h2
       cases h2
     clear hb2 ho2 hI2 hI3 hK3 KP cx fx hnc
     gi_wp2_with fail
     go_roundw
     case rel => exact ⟨i + 1, _, _, _, by omega, by go_num, HI3.out, HK3.out, HO3.out, HN3.out⟩
     case measure => simp [intOf]; omega
    ·have hi5 : i = 5 := by omega
     subst hi5
     obtain ⟨blk, hblk⟩ : ∃ blk, blk = (((pu : Int), ps) : Blk) := ⟨_, rfl⟩
     have hix : indexB 0 bl ++ putsN (nsL.take 5) = indexB 0 (bl ++ [blk]) := by
      rw [indexB_snoc, Nat.zero_add, List.take_of_length_le (by rw [HNL.out]; omega), ← HENT.out, HBN.out, hblk]
     have hI5 := HIi.out
     rw [hix] at hI5
     have HI5 := Lib.hid hI5
     have hblen := HBL.out
     rw [← hblk] at hblen
     have HFL : Hid ((frameV 3 (blkB blk)).length ≤ 1100 ∧ frameV 3 (blkB blk) ≠ []) := by
      have h1 := put_len 9 (blkB blk).length (by omega)
      have h2 := frameV_len 3 (blkB blk)
      refine ⟨by omega, fun e => ?_⟩
      rw [e] at h2; simp at h2
     have HOi2 := HOi.out
     have HB82 := HB8.out
     rw [← hblk] at HOi2 HB82
     have KM : Hid (CallsIn (Fence.wide.inRound l1) 37 Tryz.prog 36 #[.int .i64 3, .slice Ad nd cd] wr fun e w' => ∃ A n c, e = .returned (.tuple #[.slice A n c, .int .i64 0]) ∧ OwnG EB 5 w' wr.heap.size (.slice A n c) (frameV 3 (blkB blk)) ∧ Below wr.heap.size wr w') := CallsIn.inRound l1 (callsIn_wide.2 ((make_ok 3 (by omega) _ (blkB blk) wr (TabH.below HH.out HIi.out.below) HOi2.rd HB82 (by omega)).mono (by
      rintro e w' ⟨v', rfl, ho, hb⟩
      obtain ⟨A, n, c, rfl⟩ := ho.sl
      exact ⟨A, n, c, rfl, ho, hb⟩)))
     have HPR := HPRE.out
     rw [← hblk] at HPR
     have HBK := Lib.hid hblk
     have HPR4 := Lib.hid HPR
     clear hix hI5 hblen HOi2 HB82 HPR hblk HIe HKe HOe HNC
     gi_wp2_with fail
     refine KM.out.mono ?_
     rintro e w3 ⟨A3, n3, c3, rfl, ho3, hb3⟩
     have hI3 := HI5.out.on hb3
     have c4 := hI3.b.cell
     have f4 := hI3.b.frozen
     have HI3 := Lib.hid hI3
     have HO3 := Lib.hid ho3.rd
     have HK3 : Hid (KpT ktB W.heap.size Wb w3) := HKi.out.trans (KpT.below hb3 HI5.out.below.size)
     have hlf : ((framesB bl).length + (frameV 3 (blkB blk)).length) * 1 ≤ 140737488355328 := by have := HFL.out.1; have := HBN.out; omega
     clear hb3 ho3 hI3 KM
     gi_wp2_with (first | (gi_at_builtin; refine appNGI EB rfl _ _ 23 5 rfl Tryz.underlying23 info_b rfl (by decide) W.heap.size _ (framesB bl) _ (frameV 3 (blkB blk)) w3.heap.size rfl HI3.out.ob rfl HO3.out HFL.out.2 hlf HI3.out.below.size ?_) | fail)
     intro v4 w4 hown hg hloc
     obtain ⟨q0, hI4, hK4⟩ := HI3.out.putB hg hown hloc
     rw [← framesB_snoc] at hI4
     obtain ⟨A4, n4, c4', e4⟩ := hown.sl
     subst e4
     have d4 := q0.cell
     have g4 := q0.frozen
     have dm := hI4.many.cell
     have gm := hI4.many.frozen
     obtain ⟨hI5, hK5⟩ := hI4.putM (m' := P + 1)
     have HI6 := Lib.hid hI5
     have HK6 := Lib.hid ((HK3.out.trans hK4).trans hK5)
     clear hown hg hloc q0 hI4 hK4 hI5 hK5 c4 f4 hlf
     gi_wp2_with fail
     rw [HBL0.out, HP0.out, ← HBK.out]
     exact ⟨HK6.out, ⟨_, _, HI6.out⟩, HPR4.out⟩
 case done =>
  rintro xs W0 W2 hS ⟨⟨bv, xv, hI⟩, _⟩ hbel hlt hdef
  rw [hS] at hI
  have hxl : xs.length = (blksV l).length := by rw [← hS, List.length_map]
  rw [hxl] at hI
  have hI2 := hI.on hbel
  obtain ⟨bl, hbl⟩ : ∃ bl, bl = blksV l := ⟨_, rfl⟩
  have hfit := HFIT.out
  have hbv := HBV.out
  have hsome := HSOME.out
  rw [← hbl] at hI2 hfit hbv hsome
  have HSM2 := Lib.hid hsome
  obtain ⟨Bn, hBn⟩ : ∃ Bn, Bn = (framesB bl).length := ⟨_, rfl⟩
  obtain ⟨P, hP⟩ : ∃ P, P = bl.length := ⟨_, rfl⟩
  obtain ⟨Ab, cb, e, _⟩ := hI2.ob.rd
  rw [← hBn] at e hfit
  subst e
  obtain ⟨Ax, nx, cx, rfl⟩ := hI2.ox.sl
  rw [← hP] at hI2 hfit
  have c4 := hI2.b.cell
  have c5 := hI2.x.cell
  have c6 := hI2.many.cell
  have HI := Lib.hid hI2
  have HBN := Lib.hid hBn
  have HPL := Lib.hid hP
  have HF := Lib.hid hfit
  have HBL := Lib.hid hbl
  have HBV2 := Lib.hid hbv
  have HDF := Lib.hid hdef
  have hwz : W.heap.size ≤ w1.heap.size := hZ
  have hPb := hfit.2.2
  have hBb := hfit.2.1
  clear hS hxl hI hI2 hfit hbv hbl hBn hP hdef hsome
  have hS0 : Below W2.heap.size W2 (World.drew W2) := ((Ext.refl W2).drewN _).below
  have HC := Lib.hid (And.intro c4 (And.intro c5 c6))
  have hwr : IntKind.u64.wrap (P : Int) = (P : Int) := by rw [IntKind.wrap_u64]; omega
  have KP : Hid (∀ w', Below W2.heap.size W2 w' → CallsIn Fence.wide 39 Tryz.prog 35 #[.slice none 0 0, .int .u64 (P : Int)] w' fun e w'' => ∃ A n c, e = .returned (.slice A n c) ∧ OwnG EB 5 w'' W2.heap.size (.slice A n c) (putV P) ∧ Below W2.heap.size W2 w'') := fun w' h => callsIn_wide.2 ((vPut_walk _ [] P w' (RdG.nil _ _) (by omega) (by simp)).mono (by
   rintro e w'' ⟨v', rfl, ho, hb⟩
   obtain ⟨A, n, c, rfl⟩ := ho.sl
   exact ⟨A, n, c, rfl, ho.lower h.size, h.trans (hb.mono h.size)⟩))
  have hpl := put_len 9 P (by omega)
  have HPL2 := Lib.hid hpl
  gi_wp2_with fail
  refine wpIn_calm ?_
  refine wpIn_region_any (by kernel_rfl) ?_
  change wpAnyIn _ _ _ _ _ _ _ _ _ (World.drew _)
  refine heldIn_sound (S := fun w' => Below W2.heap.size W2 w') _ _ _ _ ?_
  refine heldIn_take (i := 0) (v := ?_) (by kernel_rfl) rfl (by kernel_rfl) (by kernel_rfl) (by kernel_rfl) (fun _ _ _ h => calm_panic h) ⟨Or.inl ⟨by rfl, ?_⟩, fun _ => rfl⟩ hS0 ?_
  rotate_left
  · intro w' hS
    have c0 := (hS.cell (lt_of_cell HC.out.2.2)).trans HC.out.2.2
    (go_simp <;> with_reducible rfl)
  refine heldIn_take (i := 3) (v := ?_) (by kernel_rfl) rfl (by kernel_rfl) (by kernel_rfl) (by kernel_rfl) (fun _ _ _ h => calm_panic h) ⟨Or.inl ⟨by rfl, ?_⟩, fun _ => rfl⟩ hS0 ?_
  rotate_left
  · intro w' hS
    have c0 := (hS.cell (lt_of_cell HC.out.2.1)).trans HC.out.2.1
    (go_simp <;> with_reducible rfl)
  refine heldIn_take (i := 1) (v := ?_) (by kernel_rfl) rfl (by kernel_rfl) (by kernel_rfl) (by kernel_rfl) (fun _ _ _ h => calm_panic h) ⟨Or.inl ⟨by rfl, ?_⟩, fun _ => rfl⟩ hS0 ?_
  rotate_left
  · intro w' _
    (go_simp <;> with_reducible rfl)
  refine heldIn_one (i := 2) (by kernel_rfl) rfl (fun K hK => ?_)
  go_simp
  refine (KP.out _ hS0).mono ?_
  rintro e w3 ⟨A3, n3, c3, rfl, ho3, hS3⟩
  have HO3 := Lib.hid ho3
  have HS3 := Lib.hid hS3
  refine hK _ _ hS3 ?_
  clear hK K ho3 hS3 KP
  have hl9 : ((putV P).length + (indexB 0 bl).length) * 1 ≤ 140737488355328 := by
   have h1 := HF.out.1
   unfold tableB at h1
   rw [List.length_append, ← HPL.out] at h1
   omega
  refine heldIn_one (i := 4) (by kernel_rfl) rfl (fun K hK => ?_)
  refine step_appNGI rfl EB rfl _ _ 23 5 rfl Tryz.underlying23 info_b rfl (by decide) W2.heap.size _ (putV P) _ (indexB 0 bl) w3.heap.size rfl HO3.out rfl (HI.out.ox.rd.on HS3.out) (index_some HSM2.out 0) hl9 HS3.out.size ?_
  intro v4 w4 hown hg hloc
  obtain ⟨A4, n4, c4', e4⟩ := hown.sl
  subst e4
  have HS4 : Hid (Below W2.heap.size W2 w4) := HO3.out.step HS3.out HS3.out.size hg
  have e9 : putV P ++ indexB 0 bl = tableB bl := by unfold tableB; rw [← HPL.out]
  rw [e9] at hown
  have HO4 := Lib.hid hown
  refine hK _ _ HS4.out ?_
  clear hK K hown hg hloc e9 hl9
  have KM : Hid (CallsIn Fence.wide 39 Tryz.prog 36 #[.int .i64 4, .slice A4 n4 c4'] w4 fun e w' => ∃ A n c, e = .returned (.tuple #[.slice A n c, .int .i64 0]) ∧ OwnG EB 5 w' w4.heap.size (.slice A n c) (frameV 4 (tableB bl)) ∧ Below w4.heap.size w4 w') := callsIn_wide.2 ((make_ok 4 (by omega) _ (tableB bl) w4 (TabH.below HH.out (HI.out.below.trans (HS4.out.mono HI.out.below.size))) HO4.out.rd (table_byte bl) HF.out.1).mono (by
   rintro e w' ⟨v', rfl, ho, hb⟩
   obtain ⟨A, n, c, rfl⟩ := ho.sl
   exact ⟨A, n, c, rfl, ho, hb⟩))
  refine heldIn_one (i := 5) (by kernel_rfl) rfl (fun K hK => ?_)
  go_simp
  refine KM.out.mono ?_
  rintro e w5 ⟨A5, n5, c5', rfl, ho5, hb5⟩
  have HS5 : Hid (Below W2.heap.size W2 w5) := HS4.out.trans (hb5.mono HS4.out.size)
  have HO5 : Hid (OwnG EB 5 w5 W2.heap.size (.slice A5 n5 c5') (frameV 4 (tableB bl))) := ho5.lower HS4.out.size
  refine hK _ _ HS5.out ?_
  clear hK K ho5 hb5 KM
  refine heldIn_take (i := 6) (v := ?_) (by kernel_rfl) rfl (by kernel_rfl) (by kernel_rfl) (by kernel_rfl) (fun _ _ _ h => calm_panic h) ⟨Or.inl ⟨by rfl, ?_⟩, fun _ => rfl⟩ HS5.out ?_
  rotate_left
  · intro w' _
    (go_simp <;> with_reducible rfl)
  refine heldIn_take (i := 7) (v := ?_) (by kernel_rfl) rfl (by kernel_rfl) (by kernel_rfl) (by kernel_rfl) (fun _ _ _ h => calm_panic h) ⟨Or.inl ⟨by rfl, ?_⟩, fun _ => rfl⟩ HS5.out ?_
  rotate_left
  · intro w' _
    (go_simp <;> with_reducible rfl)
  refine heldIn_take (i := 8) (v := ?_) (by kernel_rfl) rfl (by kernel_rfl) (by kernel_rfl) (by kernel_rfl) (fun _ _ _ h => calm_panic h) ⟨Or.inl ⟨by rfl, ?_⟩, fun _ => rfl⟩ HS5.out ?_
  rotate_left
  · intro w' _
    (go_simp <;> with_reducible rfl)
  refine heldIn_take (i := 9) (v := ?_) (by kernel_rfl) rfl (by kernel_rfl) (by kernel_rfl) (by kernel_rfl) (fun _ _ _ h => calm_panic h) ⟨Or.inl ⟨by rfl, ?_⟩, fun _ => rfl⟩ HS5.out ?_
  rotate_left
  · intro w' _
    (go_simp <;> with_reducible rfl)
  refine heldIn_one (i := 10) (by kernel_rfl) rfl (fun K hK => ?_)
  go_simp
  refine hK _ _ HS5.out ?_
  clear hK K
  refine heldIn_done (by kernel_rfl) ⟨rfl, ?_⟩ _
  have d4 : w5.cell? ⟨B0, 0, none⟩ = some (.slice Ab Bn cb) := (HS5.out.cell (lt_of_cell HC.out.1)).trans HC.out.1
  clear c4 c5 c6
  obtain ⟨T4, hT4⟩ : ∃ T4, T4 = tail4 Bn := ⟨_, rfl⟩
  have hfl : ([framesB bl, frameV 4 (tableB bl), T4] : List (List Nat)).flatten = fileB bl := by
   unfold fileB
   rw [← HBN.out, hT4]
   simp
  have hfll : 0 < (fileB bl).length ∧ (fileB bl).length ≤ 1000000000 := by
   have h1 := HF.out.1
   have h2 := frameV_len 4 (tableB bl)
   have h3 := put_len 9 (tableB bl).length (by omega)
   unfold fileB
   rw [List.length_append, List.length_append, ← HBN.out, h2]
   unfold tail4
   simp only [List.length_cons, List.length_nil]
   omega
  obtain ⟨w6, hw6⟩ : ∃ w6, w6 = w5.alloc (.cells #[.int .u8 ((Bn : Int) / 16777216), .int .u8 ((Bn : Int) / 65536), .int .u8 ((Bn : Int) / 256 % 256), .int .u8 ((Bn : Int) % 256)] 5) := ⟨_, rfl⟩
  have hb6 : Below w5.heap.size w5 w6 := by rw [hw6]; exact (Below.refl _ _).alloc (Nat.le_refl _) _
  have hs6 : w6.heap.size = w5.heap.size + 1 := by rw [hw6]; simp
  have hT : RdG EB w6 (w5.heap.size + 1) (.slice (some ⟨w5.heap.size, 0, none⟩) 4 4) T4 := by
   rw [hw6, hT4]
   exact rd4 (by omega) (by omega) (by omega) (by omega)
  obtain ⟨w7, hw7⟩ : ∃ w7, w7 = w6.alloc (.cells #[.slice Ab Bn cb, .slice A5 n5 c5', .slice (some ⟨w5.heap.size, 0, none⟩) 4 4] 23) := ⟨_, rfl⟩
  have hb7 : Below w6.heap.size w6 w7 := by rw [hw7]; exact (Below.refl _ _).alloc (Nat.le_refl _) _
  have hs7 : w7.heap.size = w5.heap.size + 2 := by rw [hw7]; simp [hs6]
  have hb57 : Below w5.heap.size w5 w7 := hb6.trans (hb7.mono hb6.size)
  have hh7 : w7.heap[w5.heap.size + 1]? = some (.cells #[.slice Ab Bn cb, .slice A5 n5 c5', .slice (some ⟨w5.heap.size, 0, none⟩) 4 4] 23 (0, 0)) := by rw [hw7, ← hs6]; exact heap_alloc_new w6 _
  have hB7 : Below W.heap.size W w7 := HI.out.below.trans ((HS5.out.trans (hb57.mono HS5.out.size)).mono HI.out.below.size)
  have HB7 := Lib.hid hB7
  have hwz2 : w1.heap.size < w7.heap.size := by
   have h1 := HS5.out.size
   have h2 := hbel.size
   omega
  have KCC : Hid (CallsIn Fence.wide 39 Tryz.prog 37 #[.slice (some ⟨w5.heap.size + 1, 0, none⟩) 3 3] w7 fun e w' => ∃ A n c, e = .returned (.slice A n c) ∧ OwnG EB 5 w' w7.heap.size (.slice A n c) (fileB bl) ∧ Below w7.heap.size w7 w') := callsIn_wide.2 (by
   have h := concat_walk (w5.heap.size + 1) 0 3 3 [framesB bl, frameV 4 (tableB bl), T4] w7 rfl (by omega) (fun i hi => by
    match i, hi with
    | 0, _ => exact ⟨.slice Ab Bn cb, by simp [World.cell?, hh7], (HI.out.ob.rd.on HS5.out).on hb57⟩
    | 1, _ => exact ⟨.slice A5 n5 c5', by simp [World.cell?, hh7], HO5.out.rd.on hb57⟩
    | 2, _ => exact ⟨.slice (some ⟨w5.heap.size, 0, none⟩) 4 4, by simp [World.cell?, hh7], ((hT.mono (by omega)).below (hb7.mono (Nat.le_refl _))).mono (by omega)⟩) (by omega) (by rw [hfl]; exact hfll.1) (by rw [hfl]; exact hfll.2)
   rw [hfl] at h
   exact h.mono (by
    rintro e w' ⟨v', rfl, ho, hb⟩
    obtain ⟨A, n, c, rfl⟩ := ho.sl
    exact ⟨A, n, c, rfl, ho, hb⟩))
  have HDF7 : Hid (w7.heap[B0 + 4]? = some (.deferred (some []))) := by
   have h0 := HDF.out
   have hl0 : w1.heap.size < W2.heap.size := Nat.lt_of_lt_of_le hlt hbel.size
   rw [hsz] at h0 hl0
   exact (hb57.block _ (Nat.lt_of_lt_of_le hl0 HS5.out.size)).trans ((HS5.out.block _ hl0).trans h0)
  have HLT7 : Hid (B0 + 4 < w7.heap.size) := by rw [hsz] at hwz2; exact hwz2
  clear hT hb6 hs6 hb7 hb57 hh7 hB7 hT4 hfl hfll
  gi_wp2_with fail
  rw [← hw6, ← hw7]
  clear hw6 hw7
  refine KCC.out.mono ?_
  rintro e w8 ⟨A8, n8, c8, rfl, ho8, hb8⟩
  have HO8 := Lib.hid ho8
  have HB8 := Lib.hid hb8
  clear ho8 hb8 KCC
  gi_wp2_with fail
  have hdef : w8.heap[B0 + 4]? = some (.deferred (some [])) := (HB8.out.block _ HLT7.out).trans HDF7.out
  refine ⟨by simp, .inl ⟨_, _, rfl, run_takeDeferred hdef, ?_⟩⟩
  have hB8 : Below W.heap.size W w8 := HB7.out.trans (HB8.out.mono HB7.out.size)
  refine ⟨.tuple #[.slice A8 n8 c8, .int .i64 0], by unfold results; rw [hr]; go_simp, .slice A8 n8 c8, by rw [HBV2.out], ?_, belowPut hB8 (by omega) _⟩
  rw [HBV2.out]
  exact (HO8.out.lower HB7.out.size).putO _ hdef rfl
 case stop => rintro xs W0 W2 _ hX; exact hX.elim
/-- datapart.Build. -/
theorem build_walk (v : Value) (l : List Pts) (W : World) (T : Tabs W) (hT : TabT W) (hH : TabH W) (hR : RdP W W.heap.size v l) (hwf : ∀ p ∈ l, (Lit.int .i64 p.1).wf = true) (hn2 : l.length ≤ 990000000) (hn3 : manyL l ≤ 990000000) :
  Calls Tryz.prog 11 #[v] W fun e w' => BldR W l e w' := by
 by_cases h : 2000 < manyL (cleanS l)
 ·exact build_limit v l W T hR hwf hn2 hn3 h
 ·by_cases h2 : l = [] ∨ cleanS l ≠ l
  ·exact build_arg v l W T hR hwf hn2 hn3 (by omega) h2
  ·exact build_file v l W T hT hH hR hwf (fun e => h2 (.inl e)) (Classical.byContradiction fun e => h2 (.inr e)) (by omega)
end Go.Proofs.YtnkelahimiipjaaGreatDoor

/-
 Rows of points, and of heads, that grow.
-/
namespace Go.Proofs.YtnkelahimiipjaaGreatDoor
open Go.RowKit Go.Sort
/-- Two cells: a number, and a slice. -/
abbrev PtX := Int × Option Addr × Nat × Nat
def sliceX (x : PtX) : Value := .slice x.2.1 x.2.2.1 x.2.2.2
def EP : Enc PtX := ⟨2, fun x => [.int .i64 x.1, sliceX x], fun _ => rfl, fun x u hu => by
 simp only [List.mem_cons, List.not_mem_nil, or_false] at hu
 rcases hu with rfl | rfl <;> rfl, by decide⟩
theorem cellP {w : World} {b o : Nat} {x : PtX} : CellG EP w b o x ↔ w.cell? ⟨b, o, none⟩ = some (.int .i64 x.1) ∧ w.cell? ⟨b, o + 1, none⟩ = some (sliceX x) := by
 constructor
 ·intro h; exact ⟨h 0 (by decide), h 1 (by decide)⟩
 ·rintro ⟨h0, h1⟩ j hj
  have hj : j < 2 := hj
  match j, hj with
  | 0, _ => exact h0
  | 1, _ => exact h1
/-- Two rows of different kinds lie apart. -/
theorem rows_apart {w : World} {base base' e e' k k' n n' : Nat} {v v' : Value} {xs xs' : List Value} (h : w.ownsRow base e k v n xs) (h2 : w.ownsRow base' e' k' v' n' xs') (hne : e ≠ e') : v.ownBlock = none ∨ v.ownBlock ≠ v'.ownBlock := by
 rcases h.2 with ⟨rfl, _⟩ | ⟨g, cap, cur, rfl, _, h3, _⟩
 ·exact .inl rfl
 ·right
  rcases h2.2 with ⟨rfl, _⟩ | ⟨g', cap', cur', rfl, _, h4, _⟩
  ·simp [Value.ownBlock]
  ·intro e9
   have e9 : g = g' := by simpa [Value.ownBlock] using e9
   subst e9
   rw [h3] at h4
   cases h4
   exact hne rfl
/-- Points in a row of the call's own, whose samples are its own too. -/
structure PtsO (w : World) (base : Nat) (v : Value) (cs : List PtX) (l : List Pts) : Prop where
 row : OwnG EP 62 w base v cs
 len : cs.length = l.length
 at_ : ∀ i (h : i < cs.length) (h' : i < l.length), cs[i].1 = l[i].1 ∧ Own w base 66 (sliceX cs[i]) l[i].2
theorem PtsO.nil (w : World) (base : Nat) : PtsO w base (.slice none 0 0) [] [] := ⟨OwnG.nil _ _, rfl, fun i h _ => by simp at h⟩
theorem PtsO.on {w w' : World} {base : Nat} {v : Value} {cs : List PtX} {l : List Pts} (h : PtsO w base v cs l) (k : Below w.heap.size w w') : PtsO w' base v cs l :=
 ⟨h.row.below k, h.len, fun i h1 h2 => ⟨(h.at_ i h1 h2).1, (h.at_ i h1 h2).2.below k⟩⟩
theorem PtsO.push {w w' : World} {base : Nat} {v v' : Value} {cs : List PtX} {l : List Pts} {x : PtX} {p : Pts} (h : PtsO w base v cs l) (h1 : x.1 = p.1) (h2 : Own w base 66 (sliceX x) p.2) (hown : OwnG EP 62 w' base v' (cs ++ [x])) (hg : w.grownBy w' v.ownBlock) : PtsO w' base v' (cs ++ [x]) (l ++ [p]) := by
 have hk : ∀ y s, Own w base 66 y s → Own w' base 66 y s := fun y s hy => hy.kept hg (rows_apart hy h.row (by decide))
 refine ⟨hown, by simp [h.len], fun i hi hi' => ?_⟩
 by_cases hlt : i < cs.length
 ·have hlt' : i < l.length := by rw [← h.len]; exact hlt
  rw [List.getElem_append_left hlt, List.getElem_append_left hlt']
  obtain ⟨q1, q2⟩ := h.at_ i hlt hlt'
  exact ⟨q1, hk _ _ q2⟩
 ·have e1 : i = cs.length := by simp at hi; omega
  have e2 : i = l.length := by rw [← h.len]; exact e1
  have a1 : (cs ++ [x])[i] = x := by simp [e1]
  have a2 : (l ++ [p])[i] = p := by simp [e2]
  rw [a1, a2]
  exact ⟨h1, hk _ _ h2⟩
theorem rdP_of {w : World} {v : Value} {cs : List PtX} {l : List Pts} (h : RdG EP w w.heap.size v cs) (hl : cs.length = l.length) (hat : ∀ i (h : i < cs.length) (h' : i < l.length), cs[i].1 = l[i].1 ∧ Rd w w.heap.size (sliceX cs[i]) l[i].2 ∧ Nz (sliceX cs[i])) : RdP w w.heap.size v l := by
 obtain ⟨A, c, rfl, hc, hn, hA⟩ := h
 rw [hl] at hc ⊢
 refine ⟨A, c, rfl, hc, ?_⟩
 rcases hA with h0 | ⟨b, o, e, hb, hcl⟩
 ·left
  rw [h0] at hl
  exact List.eq_nil_of_length_eq_zero hl.symm
 ·right
  refine ⟨b, o, e, hb, fun i hi => ?_⟩
  have hi2 : i < cs.length := by rw [hl]; exact hi
  obtain ⟨q1, q2⟩ := cellP.1 (hcl i hi2)
  obtain ⟨r1, r2, r3⟩ := hat i hi2 hi
  exact ⟨by rw [← r1]; exact q1, _, q2, r2, r3⟩
theorem PtsO.rdP {w : World} {base : Nat} {v : Value} {cs : List PtX} {l : List Pts} (h : PtsO w base v cs l) : RdP w w.heap.size v l :=
 rdP_of h.row.rd h.len fun i h1 h2 => ⟨(h.at_ i h1 h2).1, (h.at_ i h1 h2).2.rd, (h.at_ i h1 h2).2.nz⟩
theorem info_p : (Tryz.prog.info? 62).map (fun i => (i.zero, i.size, i.bytes)) = some (some (.agg #[.int .i64 0, .slice none 0 0]), 2, 32) := by kernel_rfl
theorem info_h : (Tryz.prog.info? 71).map (fun i => (i.zero, i.size, i.bytes)) = some (some (.agg #[.int .i64 0, .slice none 0 0]), 2, 32) := by kernel_rfl
end Go.Proofs.YtnkelahimiipjaaGreatDoor

/-
 datapart.parse: what lies in memory as a block's body is taken apart.
-/
namespace Go.Proofs.YtnkelahimiipjaaGreatDoor
open Go.RowKit Go.Sort
/-- Whether all is well, the bytes still to come, and the answer's own variable. -/
structure PrI (W : World) (bo br : Nat) (q : Bool) (rv : Value) (w : World) : Prop where
 ok : Boxed w bo 4 (.bool q)
 rest : Boxed w br 23 rv
 out : w.heap[W.heap.size]? = some (.cells #[.int .i64 0, .slice none 0 0] 62 (0, 0))
 below : Below W.heap.size W w
 hi1 : W.heap.size < bo
 hi2 : W.heap.size < br
variable {W w w' : World} {bo br : Nat} {q : Bool} {rv : Value}
theorem PrI.ne (h : PrI W bo br q rv w) : bo ≠ br := fun e => by
 have h1 : w.heap[bo]? = _ := h.ok
 have h2 : w.heap[br]? = _ := h.rest
 rw [e, h2] at h1
 cases h1
theorem PrI.on (h : PrI W bo br q rv w) (k : Below w.heap.size w w') : PrI W bo br q rv w' :=
 ⟨boxOn h.ok k, boxOn h.rest k, (k.block _ (Array.getElem?_eq_some_iff.1 h.out).1).trans h.out, h.below.trans (k.mono h.below.size), h.hi1, h.hi2⟩
theorem PrI.setOk (h : PrI W bo br q rv w) (q' : Bool) : PrI W bo br q' rv (w.setCell ⟨bo, 0, none⟩ (.bool q')) := by
 have h1 := h.hi1
 exact ⟨h.ok.set _, boxSet h.rest (Ne.symm h.ne) _, (Below.heap_setCell _ _ _ _ (by show W.heap.size ≠ bo; omega)).trans h.out, h.below.setCell (by show W.heap.size ≤ bo; omega) _, h.hi1, h.hi2⟩
theorem PrI.setRest (h : PrI W bo br q rv w) (rv' : Value) : PrI W bo br q rv' (w.setCell ⟨br, 0, none⟩ rv') := by
 have h1 := h.hi2
 exact ⟨boxSet h.ok h.ne _, h.rest.set _, (Below.heap_setCell _ _ _ _ (by show W.heap.size ≠ br; omega)).trans h.out, h.below.setCell (by show W.heap.size ≤ br; omega) _, h.hi1, h.hi2⟩
/-- A row of numbers stays own as the two variables turn. -/
def KeepN (w w' : World) : Prop := (∀ base v l, OwnG EI 2 w base v l → OwnG EI 2 w' base v l) ∧ ∀ base v l, OwnG EB 5 w base v l → OwnG EB 5 w' base v l
theorem KeepN.trans {a b c : World} (h : KeepN a b) (k : KeepN b c) : KeepN a c := ⟨fun _ _ _ x => k.1 _ _ _ (h.1 _ _ _ x), fun _ _ _ x => k.2 _ _ _ (h.2 _ _ _ x)⟩
theorem KeepN.below (k : Below w.heap.size w w') : KeepN w w' := ⟨fun _ _ _ x => x.below k, fun _ _ _ x => x.below k⟩
theorem KeepN.set {B : Nat} {t : TypeId} {u : Value} (h : Boxed w B t u) (h1 : t ≠ 2) (h2 : t ≠ 5) (u' : Value) : KeepN w (w.setCell ⟨B, 0, none⟩ u') := ⟨fun _ _ _ x => x.set h h1 u', fun _ _ _ x => x.set h h2 u'⟩
theorem prow_step {b : List Nat} (h : PrI W bo br true rv w) (hR : RdG EB w w.heap.size rv b) (h8 : ∀ c ∈ b, c < 256) (hl : b.length ≤ 100000000) :
  Calls Tryz.prog 75 #[.pointer (some ⟨bo, 0, none⟩), .pointer (some ⟨br, 0, none⟩)] w fun e w' => ∃ A n c A2 n2 c2, e = .returned (.slice A n c) ∧ PrI W bo br (decide ((decV b).1 = 0)) (.slice A2 n2 c2) w' ∧ KeepN w w' ∧ Below W.heap.size W w' ∧
   ((decV b).1 = 0 → OwnG EI 2 w' W.heap.size (.slice A n c) (decV b).2.1 ∧ OwnG EB 5 w' W.heap.size (.slice A2 n2 c2) (decV b).2.2) := by
 refine (prow_walk bo br rv b w h.ok h.rest h.ne hR h8 hl).mono ?_
 rintro e w2 ⟨w1, xv, rv2, rfl, ⟨xv2, rv3, he, hB, hD⟩, rfl⟩
 injection he with he
 injection he with he
 have e1 : xv = xv2 ∧ rv2 = rv3 := by
  simp at he; exact he
 obtain ⟨rfl, rfl⟩ := e1
 have h1 := (h.on hB).setOk (decide ((decV b).1 = 0))
 have h2 := h1.setRest rv2
 have hk : KeepN w ((w1.setCell ⟨bo, 0, none⟩ (.bool (decide ((decV b).1 = 0)))).setCell ⟨br, 0, none⟩ rv2) :=
  ((KeepN.below hB).trans (KeepN.set (h.on hB).ok (by decide) (by decide) _)).trans (KeepN.set h1.rest (by decide) (by decide) _)
 have hk2 : KeepN w1 ((w1.setCell ⟨bo, 0, none⟩ (.bool (decide ((decV b).1 = 0)))).setCell ⟨br, 0, none⟩ rv2) :=
  (KeepN.set (h.on hB).ok (by decide) (by decide) _).trans (KeepN.set h1.rest (by decide) (by decide) _)
 have hz := h.below.size
 split at hD
 case isTrue e0 =>
  obtain ⟨A, n, c, rfl⟩ := hD.1.sl
  obtain ⟨A2, n2, c2, rfl⟩ := hD.2.sl
  exact ⟨A, n, c, A2, n2, c2, rfl, h2, hk, h2.below, fun _ => ⟨hk2.1 _ _ _ (hD.1.lower hz), hk2.2 _ _ _ (hD.2.lower hz)⟩⟩
 case isFalse e0 =>
  obtain ⟨rfl, rfl⟩ := hD
  exact ⟨none, 0, 0, none, 0, 0, rfl, h2, hk, h2.below, fun e => absurd e e0⟩
/-- What parse answers. -/
def ParR (W : World) (b : List Nat) (e : Ending) (w' : World) : Prop :=
 Below W.heap.size W w' ∧ ((parseB b = none ∧ e = .returned (.tuple #[.agg #[.int .i64 0, .slice none 0 0], .bool false])) ∨ ∃ p A n c, parseB b = some p ∧ e = .returned (.tuple #[.agg #[.int .i64 p.1, .slice A n c], .bool true]) ∧ Own w' W.heap.size 66 (.slice A n c) p.2)
theorem par_take {b : List Nat} (h : ¬ ((takeV b).1 = 0 ∧ (takeV b).2.1 ≤ 1073741824)) : parseB b = none := by unfold parseB; rw [if_neg h]
theorem par_tick {b : List Nat} (h : (decV (b.drop (takeV b).2.2)).1 ≠ 0) : parseB b = none := by
 unfold parseB
 simp only
 rw [if_neg h, ite_self]
theorem par_exp {b b1 : List Nat} (h1 : b1 = (decV (b.drop (takeV b).2.2)).2.2) (h : ¬ ((takesV 1 b1).1 = 0 ∧ -1000 ≤ (takesV 1 b1).2.1.getD 0 0 ∧ (takesV 1 b1).2.1.getD 0 0 ≤ 1000)) : parseB b = none := by
 subst h1
 unfold parseB
 simp only
 rw [if_neg h, ite_self, ite_self]
theorem par_mant {b b2 : List Nat} (h2 : b2 = (takesV 1 (decV (b.drop (takeV b).2.2)).2.2).2.2) (h : ¬ ((decV b2).1 = 0 ∧ (decV b2).2.1.length = (decV (b.drop (takeV b).2.2)).2.1.length)) : parseB b = none := by
 subst h2
 unfold parseB
 simp only
 rw [if_neg h, ite_self, ite_self, ite_self]
theorem par_all {b b2 : List Nat} {x : Int} {t : List Int} (h0 : (takeV b).1 = 0 ∧ (takeV b).2.1 ≤ 1073741824) (ht : (decV (b.drop (takeV b).2.2)).1 = 0) (hx : (takesV 1 (decV (b.drop (takeV b).2.2)).2.2).1 = 0 ∧ -1000 ≤ (takesV 1 (decV (b.drop (takeV b).2.2)).2.2).2.1.getD 0 0 ∧ (takesV 1 (decV (b.drop (takeV b).2.2)).2.2).2.1.getD 0 0 ≤ 1000)
  (hb : b2 = (takesV 1 (decV (b.drop (takeV b).2.2)).2.2).2.2) (hm : (decV b2).1 = 0 ∧ (decV b2).2.1.length = (decV (b.drop (takeV b).2.2)).2.1.length) (ex : x = (takesV 1 (decV (b.drop (takeV b).2.2)).2.2).2.1.getD 0 0) (et : t = (decV (b.drop (takeV b).2.2)).2.1) :
  parseB b = match unpackV (decV b2).2.1 x with | some v => some (((takeV b).2.1 : Nat), t.zip v) | none => none := by
 subst hb ex et
 unfold parseB
 simp only
 rw [if_pos h0, if_pos ht, if_pos hx, if_pos hm]
 generalize unpackV _ _ = r
 cases r <;> rfl
end Go.Proofs.YtnkelahimiipjaaGreatDoor

/-
 What is known of numbers that are read; small contracts for datapart.parse.
-/
namespace Go.Proofs.YtnkelahimiipjaaGreatDoor
open Go.RowKit Go.Sort
theorem takes_in : ∀ (n : Nat) (b : List Nat), ∀ y ∈ (takesV n b).2.1, In64 y
 | 0, b, y, hy => by cases hy
 | n + 1, b, y, hy => by
   have ih := takes_in n (b.drop (takeV b).2.2)
   unfold takesV at hy
   split at hy
   ·split at hy
    ·rcases List.mem_cons.1 hy with rfl | hy
     ·exact zag_in (take_lt b)
     ·exact ih y hy
    ·exact ih y hy
   ·cases hy
theorem dec_facts (b : List Nat) (h : (decV b).1 = 0) : (∀ y ∈ (decV b).2.1, In64 y) ∧ (decV b).2.1.length ≤ 4096 ∧ ∃ k, (decV b).2.2 = b.drop k := by
 by_cases h0 : b.length = 0
 ·rw [dec_short h0] at h; cases h
 by_cases h1 : 3 < b.getD 0 0
 ·rw [dec_kind h0 h1] at h; cases h
 by_cases h2 : (takeV (b.drop 1)).1 = 0
 ·by_cases h3 : 4096 < (takeV (b.drop 1)).2.1 ∨ (takeV (b.drop 1)).2.1 < leastV (b.getD 0 0)
  ·rw [dec_size h0 h1 h2 h3] at h; cases h
  ·by_cases h4 : (takesV (haveV (b.getD 0 0) (takeV (b.drop 1)).2.1) ((b.drop 1).drop (takeV (b.drop 1)).2.2)).1 = 0
   ·have e := dec_ok h0 h1 h2 h3 h4
    rw [e]
    refine ⟨fun y hy => ?_, by show ((List.range _).map _).length ≤ 4096; rw [List.length_map, List.length_range]; omega, ?_⟩
    ·obtain ⟨i, _, rfl⟩ := List.mem_map.1 hy
     exact (undo_in (takes_in _ _) i).1
    ·have h5 := (takes_rest _ _ h4).2.2.1
     exact ⟨_, h5.trans (by rw [List.drop_drop, List.drop_drop])⟩
   ·have e := dec_all h0 h1 h2 h3 h4
    rw [e] at h
    exact absurd h h4
 ·rw [dec_take h0 h1 h2] at h
  exact absurd h h2
theorem take_c (v : Value) (b : List Nat) (W : World) (hR : RdG EB W W.heap.size v b) (h8 : ∀ c ∈ b, c < 256) (hb : b.length ≤ 1000000000) :
  Calls Tryz.prog 73 #[v] W fun e w' => ∃ A n c, e = .returned (.tuple #[.int .u64 (if (takeV b).1 = 0 then ((takeV b).2.1 : Int) else 0), .slice A n c, .int .i64 (takeV b).1]) ∧ Below W.heap.size W w' ∧ ((takeV b).1 = 0 → OwnG EB 5 w' W.heap.size (.slice A n c) (b.drop (takeV b).2.2)) := by
 refine (vTake_walk v b W hR h8 hb).mono ?_
 rintro e w' ⟨r, rfl, hB, hO⟩
 split at hO
 case isTrue h =>
  obtain ⟨A, n, c, rfl⟩ := hO.sl
  exact ⟨A, n, c, by rw [if_pos h], hB, fun _ => hO⟩
 case isFalse h => subst hO; exact ⟨none, 0, 0, by rw [if_neg h], hB, fun h' => absurd h' h⟩
theorem takeAll_c (v : Value) (b : List Nat) (W : World) (hR : RdG EB W W.heap.size v b) (hF : Flat v) (h8 : ∀ c ∈ b, c < 256) (hb : b.length ≤ 1000000000) :
  Calls Tryz.prog 77 #[v, .int .i64 1] W fun e w' => ∃ A n c A2 n2 c2, e = .returned (.tuple #[.slice A n c, .slice A2 n2 c2, .int .i64 (takesV 1 b).1]) ∧ Below W.heap.size W w' ∧ ((takesV 1 b).1 = 0 → OwnG EI 2 w' W.heap.size (.slice A n c) (takesV 1 b).2.1 ∧ OwnG EB 5 w' W.heap.size (.slice A2 n2 c2) (takesV 1 b).2.2) := by
 refine Calls.mono (takeAll_walk v b 1 W hR hF h8 hb (by omega)) ?_
 rintro e w' ⟨xv, rv, er, rfl, rfl, hB, hO⟩
 split at hO
 case isTrue h =>
  obtain ⟨A, n, c, rfl⟩ := hO.1.sl
  obtain ⟨A2, n2, c2, rfl⟩ := hO.2.sl
  exact ⟨A, n, c, A2, n2, c2, rfl, hB, fun _ => hO⟩
 case isFalse h =>
  obtain ⟨rfl, rfl⟩ := hO
  exact ⟨none, 0, 0, none, 0, 0, rfl, hB, fun h' => absurd h' h⟩
theorem unpack_c (v : Value) (l : List Int) (x : Int) (W : World) (hT : TabT W) (hR : RdG EI W W.heap.size v l) (hi : ∀ y ∈ l, In64 y) (hl : l.length ≤ 1000000) :
  Calls Tryz.prog 78 #[v, .int .i64 x] W fun e w' => ∃ A n c er, e = .returned (.tuple #[.slice A n c, .int .i64 er]) ∧ Below W.heap.size W w' ∧ (∀ r, unpackV l x = some r → er = 0 ∧ OwnG EV 64 w' W.heap.size (.slice A n c) r) ∧ (unpackV l x = none → er = 20) := by
 refine (unpack_walk v l x W hT hR hi hl).mono ?_
 rintro e w' ⟨ov, er, rfl, hB, h1, h2⟩
 cases h : unpackV l x with
 | none =>
   obtain ⟨rfl, rfl⟩ := h2 h
   exact ⟨none, 0, 0, 20, rfl, hB, fun r hr => (by cases hr), fun _ => rfl⟩
 | some r =>
   obtain ⟨rfl, ho⟩ := h1 r h
   obtain ⟨A, n, c, rfl⟩ := ho.sl
   exact ⟨A, n, c, 0, rfl, hB, fun r' hr => ⟨rfl, by cases hr; exact ho⟩, fun hn => (by cases hn)⟩
theorem unpackL_len (e : Int) : ∀ (m : List Int) (r : List Val), unpackL e m = some r → r.length = m.length
 | [], r, h => by
   unfold unpackL at h
   cases h; rfl
 | k :: m, r, h => by
   unfold unpackL at h
   cases h1 : unpack1 e k with
   | none => rw [h1] at h; cases h
   | some v =>
     rw [h1] at h
     cases h2 : unpackL e m with
     | none => rw [h2] at h; cases h
     | some s =>
       rw [h2] at h
       cases h
       rw [List.length_cons, List.length_cons, unpackL_len e m s h2]
theorem unpackV_len {m : List Int} {e : Int} {r : List Val} (h : unpackV m e = some r) : r.length = m.length := by
 unfold unpackV at h
 split at h
 ·cases h
 ·exact unpackL_len e m r h
/-- A row that isn't empty lies somewhere. -/
theorem OwnG.some_ {α : Type} {E : Enc α} {ty : TypeId} {w : World} {base n c : Nat} {A : Option Addr} {l : List α} (h : OwnG E ty w base (.slice A n c) l) (hl : l ≠ []) : ∃ g, A = some ⟨g, 0, none⟩ ∧ n = l.length ∧ n ≤ c := by
 rcases h.2 with ⟨h0, h1⟩ | ⟨g, cap, cur, h0, _⟩
 ·exact absurd (List.eq_nil_of_length_eq_zero h1) hl
 ·obtain ⟨A2, c2, e, hc, _⟩ := h.rd
  injection h0 with h0
  injection e with e1 e2 e3
  exact ⟨g, h0, e2, by rw [e2, e3]; exact hc⟩
theorem OwnG.len {α : Type} {E : Enc α} {ty : TypeId} {w : World} {base n c : Nat} {A : Option Addr} {l : List α} (h : OwnG E ty w base (.slice A n c) l) : n = l.length := by
 obtain ⟨_, _, e, _⟩ := h.rd
 injection e
def ES : Enc Smp := ⟨4, encS, fun _ => rfl, encS_one, by decide⟩
theorem info_S : (Tryz.prog.info? 66).map (fun i => (i.zero, i.size, i.bytes)) = some (some (.agg #[.int .i64 0, .int .i64 0, .int .i64 0, .int .i64 0]), 4, 32) := info_Smp
theorem own_ES {w : World} {base : Nat} {t : TypeId} {v : Value} {l : List Smp} (h : OwnG ES t w base v l) : Own w base t v l := h
theorem OwnG.cellAt {α : Type} {E : Enc α} {ty : TypeId} {w : World} {base g n c : Nat} {l : List α} (h : OwnG E ty w base (.slice (some ⟨g, 0, none⟩) n c) l) (i : Nat) (hi : i < l.length) : CellG E w g (i * E.k) l[i] := by
 rcases h.2 with ⟨h0, _⟩ | ⟨g', cap, cur, h0, _, hh, _, ht⟩
 ·cases h0
 ·injection h0 with h0
  injection h0 with h0
  injection h0 with h0
  subst h0
  have h1 := OwnG.cell hh ht.2.2 i hi
  rwa [Nat.zero_add] at h1
theorem cell_heap {w w' : World} {b : Nat} (h : w'.heap[b]? = w.heap[b]?) (i : Nat) : w'.cell? ⟨b, i, none⟩ = w.cell? ⟨b, i, none⟩ := by
 unfold World.cell?
 rw [h]
theorem grownBy_set (W : World) (b i : Nat) (v : Value) : W.grownBy (W.setCell ⟨b, i, none⟩ v) (some b) :=
 ⟨rfl, rfl, rfl, (KeepsWalks.setCell W _ v).size, fun k _ hk => Below.heap_setCell _ _ _ k (fun e => hk (by rw [e]))⟩
theorem blk_not_row {w : World} {b t : Nat} {c : Array Value} {z : Nat × Nat} (h : w.heap[b]? = some (.cells c t z)) {base e size n : Nat} {v : Value} {xs : List Value} (hr : w.ownsRow base e size v n xs) (hne : t ≠ e) : some b ≠ v.ownBlock := by
 rcases hr.2 with ⟨rfl, _⟩ | ⟨g, cap, cur, rfl, _, h3, _⟩
 ·simp [Value.ownBlock]
 ·intro e9
  have e9 : b = g := by simpa [Value.ownBlock] using e9
  subst e9
  rw [h3] at h
  cases h
  exact hne rfl
theorem set_two {w : World} {b t : Nat} {x y : Value} {z : Nat × Nat} (h : w.heap[b]? = some (.cells #[x, y] t z)) (v : Value) : (w.setCell ⟨b, 1, none⟩ v).heap[b]? = some (.cells #[x, v] t z) := by
 unfold World.setCell
 show (w.heap.modify b _)[b]? = _
 rw [Array.getElem?_modify]
 simp [h]
theorem RdG.one1 {α : Type} {E : Enc α} (w : World) {cs : Array Value} {x : α} (t : TypeId) (h : cs.toList = E.enc x) : RdG E (w.alloc (.cells cs t)) (w.alloc (.cells cs t)).heap.size (.slice (some ⟨w.heap.size, 0, none⟩) 1 1) [x] :=
 ⟨_, 1, rfl, Nat.le_refl _, fun e => (by cases e), .inr ⟨_, 0, rfl, by simp, fun i hi => by
  obtain rfl : i = 0 := by simp at hi; exact hi
  simpa using CellG.mk h t⟩⟩
end Go.Proofs.YtnkelahimiipjaaGreatDoor
