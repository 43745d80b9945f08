/-
 The reference's Merge.
-/
import Derived.Test.YtnkelahimiipjaaGreatDoorRkk
import Derived.Test.YtnkelahimiipjaaGreatDoorOqk
import Derived.Deep.RegionHeld3
namespace Go.Proofs.YtnkelahimiipjaaGreatDoor
open Go.RowKit Go.Sort Go.Maps
end Go.Proofs.YtnkelahimiipjaaGreatDoor

/-
 stream.Span.
-/
namespace Go.Proofs.YtnkelahimiipjaaGreatDoor
open Go.RowKit Go.Sort Go.Maps
attribute [local go_sem ↓] Go.wp_at_zero Go.wp_at_succ
def encSpan (x : Int × Int × Bool) : Value := .tuple #[.int .i64 x.1, .int .i64 x.2.1, .bool x.2.2]
set_option maxRecDepth 100000 in
set_option maxHeartbeats 2000000 in
theorem sspan_walk (v : Value) (l : List Pts) (W : World) (T : Tabs W) (hR : RdP W W.heap.size v l) (hwf : ∀ p ∈ l, (Lit.int .i64 p.1).wf = true) (hn2 : l.length ≤ 990000000) (hn3 : manyL l ≤ 990000000) :
  Calls Tryz.prog 52 #[v] W fun e w' => e = .returned (encSpan (spanS (cleanS l))) ∧ Below W.heap.size W w' := by
 have HK := Lib.hid (sclean v l W T hR hwf hn2 hn3)
 obtain ⟨A, c, rfl, hc, _⟩ := hR
 have HCl := Lib.hid (cleanS_clean l)
 have HBd : Hid ((cleanS l).length ≤ 990000000) := Nat.le_trans (cleanS_length l) hn2
 have HMd : Hid (∀ p ∈ cleanS l, p.2.length ≤ 990000000) := fun p hp => by
  have h1 := cleanS_many l
  have h2 := many_mem hp
  omega
 obtain ⟨n0, hn0⟩ : ∃ n0, n0 = l.length := ⟨_, rfl⟩
 rw [← hn0] at hc hn2 HK ⊢
 clear hwf hn3 T hn0 hn2
 unfold encSpan
 obtain ⟨q, hq⟩ : ∃ q, q = cleanS l := ⟨_, rfl⟩
 rw [← hq] at HK HCl HBd HMd ⊢
 clear hq
 go_enter Tryz.func52, Tryz.ntmps52
 go_wp2_with fail
 refine HK.out.mono ?_
 rintro e w1 ⟨r, rfl, h2, h3⟩
 have HB := Lib.hid h3
 obtain ⟨A2, c2, rfl, hc2, hA2⟩ := h2
 obtain ⟨m, hm⟩ : ∃ m, m = q.length := ⟨_, rfl⟩
 have hbd := HBd.out
 rw [← hm] at hc2 hbd
 rw [← hm]
 have HM := Lib.hid hm
 have HA := Lib.hid hA2
 clear h3 hA2 hm HK HBd
 by_cases hm0 : m = 0
 ·have HQ0 : Hid (spanS q = (0, 0, false)) := by
   have : q = [] := List.eq_nil_of_length_eq_zero (by rw [← HM.out]; exact hm0)
   show _ = _
   rw [this]; rfl
  subst hm0
  go_wp2_with fail
  go_ret3
  exact ⟨by rw [HQ0.out]; rfl, HB.out⟩
 ·have g0 : ((m : Int) == 0) = false := by rw [beq_eq_false_iff_ne]; omega
  have HS : Hid (spanS q = (mnT 1099511627776 (q.flatMap (fun p => p.2)), mxT 0 (q.flatMap (fun p => p.2)), true)) := by
   show _ = _
   unfold spanS
   rw [if_neg]
   intro h
   rw [h] at HM
   exact hm0 HM.out
  go_wp2_with fail
  clear g0
  go_loopw [6, 7, 17] (fun a b i wl => ∃ (k : Nat), k ≤ m ∧ i = .int .i64 k ∧ a = .int .i64 (mnT 1099511627776 ((q.take k).flatMap (fun p => p.2))) ∧ b = .int .i64 (mxT 0 ((q.take k).flatMap (fun p => p.2))) ∧ Hid (Below w1.heap.size w1 wl)) (fun _ _ i _ => m - (intOf i).toNat)
  case atStart => exact ⟨0, Nat.zero_le _, rfl, rfl, rfl, Below.refl _ _⟩
  case round =>
   obtain ⟨k, hk, rfl, rfl, rfl, HB2⟩ := hrel
   by_cases hlt : k < m
   ·have hkl : k < q.length := by rw [← HM.out]; exact hlt
    rcases HA.out with h0 | ⟨b3, o3, e, hb3, hcl⟩
    ·subst h0; simp at hkl
    subst e
    obtain ⟨p, hp⟩ : ∃ p, p = q[k] := ⟨_, rfl⟩
    have hpm : p ∈ q := by rw [hp]; exact List.getElem_mem hkl
    have hpn : p.2 ≠ [] := HCl.out.ne p hpm
    have hpl : 0 < p.2.length := List.length_pos_iff.2 hpn
    have hpl1 : p.2.length - 1 < p.2.length := by omega
    have hpu := HCl.out.up p hpm
    have hp5 := HMd.out p hpm
    obtain ⟨c3, sv, c4, hsv, _⟩ : PtAt wr w1.heap.size b3 (o3 + k * 2) p := by rw [hp]; exact (hcl k hkl).below HB2.out hb3
    obtain ⟨A4, c5, rfl, hc5, hA4⟩ := hsv
    rcases hA4 with h0 | ⟨b4, o4, e, hb4, hcl4⟩
    ·exact absurd h0 hpn
    subst e
    have d0 := (hcl4 0 hpl).1
    have e0 := (hcl4 (p.2.length - 1) hpl1).1
    have htk : q.take (k + 1) = q.take k ++ [p] := by rw [hp]; exact List.take_succ_eq_append_getElem hkl
    have HSp : Hid (_ ∧ _) := span_fold (q.take k) 1099511627776 0 p hpu hpl hpl1
    rw [← htk] at HSp
    obtain ⟨x0, hx0⟩ : ∃ x, x = p.2[0].1 := ⟨_, rfl⟩
    obtain ⟨x1, hx1⟩ : ∃ x, x = p.2[p.2.length - 1].1 := ⟨_, rfl⟩
    rw [← hx0] at d0 HSp
    rw [← hx1] at e0 HSp
    rw [Nat.zero_mul, Nat.add_zero] at d0
    obtain ⟨n5, hn5⟩ : ∃ n, n = p.2.length := ⟨_, rfl⟩
    rw [← hn5] at c4 hc5 hpl e0 hp5
    obtain ⟨i5, hi5⟩ : ∃ i, i = n5 - 1 := ⟨_, rfl⟩
    rw [← hi5] at e0
    have i1 : (k : Int) < (m : Int) := by omega
    have g1 : IntKind.i64.wrap ((n5 : Int) - 1) = (i5 : Int) := by rw [IntWalk.i64_in _ (by omega)]; omega
    have g2 : (i5 : Int) < (n5 : Int) := by omega
    have g3 : (0 : Int) < (n5 : Int) := by omega
    have g4 : i5 < n5 := by omega
    obtain ⟨ta, hta⟩ : ∃ t, t = mnT 1099511627776 ((q.take k).flatMap (fun p => p.2)) := ⟨_, rfl⟩
    obtain ⟨tb, htb⟩ : ∃ t, t = mxT 0 ((q.take k).flatMap (fun p => p.2)) := ⟨_, rfl⟩
    rw [← hta, ← htb] at HSp ⊢
    have d0' : wr.cell? ⟨b4, o4, none⟩ = some (.int .i64 x0) := d0
    have e0' : wr.cell? ⟨b4, o4 + i5 * 4, none⟩ = some (.int .i64 x1) := e0
    clear d0 e0 hp hcl hcl4 htk hx0 hx1 hn5 hi5 hpm hpn hpl1 hpu hta htb
    go_wp2_with fail
    obtain ⟨wp, hwp⟩ : ∃ wp, wp = wr.alloc (.cells #[.int .i64 p.1, .slice (some ⟨b4, o4, none⟩) n5 c5] 62) := ⟨_, rfl⟩
    have HBp : Hid (Below wr.heap.size wr wp) := by show Below _ _ _; rw [hwp]; exact (Below.refl _ _).alloc (Nat.le_refl _) _
    have f1 : wp.cell? ⟨wr.heap.size, 1, none⟩ = some (.slice (some ⟨b4, o4, none⟩) n5 c5) := by rw [hwp]; simp
    have f2 : wp.cell? ⟨b4, o4, none⟩ = some (.int .i64 x0) := (HBp.out.cell (lt_of_cell d0')).trans d0'
    have f3 : wp.cell? ⟨b4, o4 + i5 * 4, none⟩ = some (.int .i64 x1) := (HBp.out.cell (lt_of_cell e0')).trans e0'
    have KY : Hid (∀ w', Below wp.heap.size wp w' → w'.cell? ⟨wr.heap.size, 1, none⟩ = some (.slice (some ⟨b4, o4, none⟩) n5 c5) ∧ w'.cell? ⟨b4, o4, none⟩ = some (.int .i64 x0) ∧ w'.cell? ⟨b4, o4 + i5 * 4, none⟩ = some (.int .i64 x1)) := fun w' h => ⟨(h.cell (lt_of_cell f1)).trans f1, (h.cell (lt_of_cell f2)).trans f2, (h.cell (lt_of_cell f3)).trans f3⟩
    have hBB : Below wp.heap.size wp wp := Below.refl _ _
    rw [← hwp]
    clear hwp d0' e0'
    go_region_held3 (fun w' => w'.cell? ⟨wr.heap.size, 1, none⟩ = some (.slice (some ⟨b4, o4, none⟩) n5 c5) ∧ w'.cell? ⟨b4, o4, none⟩ = some (.int .i64 x0) ∧ w'.cell? ⟨b4, o4 + i5 * 4, none⟩ = some (.int .i64 x1) ∧ Below wp.heap.size wp w')
     (first | assumption | (have hd := Below.drew (by assumption : Below wp.heap.size wp _); exact ⟨(KY.out _ hd).1, (KY.out _ hd).2.1, (KY.out _ hd).2.2, hd⟩) | exact ⟨by assumption, by assumption, by assumption, by assumption⟩)
     (fail)
    all_goals (
     go_wp2_with fail
     go_roundw
     case rel => exact ⟨k + 1, by omega, by go_num, by rw [HSp.out.1], by rw [HSp.out.2], HB2.out.trans ((HBp.out.trans ((by first | assumption | exact Below.drew (by assumption) : Below wp.heap.size wp _).mono HBp.out.size)).mono HB2.out.size)⟩
     case measure => simp [intOf]; omega)
   ·have hkm : k = m := by omega
    have hfin : Hid (q.take k = q) := by show _ = _; rw [hkm, HM.out, List.take_length]
    clear hkm
    go_wp2_with fail
    go_ret3
    exact ⟨by rw [HS.out, hfin.out]; rfl, HB.out.trans (HB2.out.mono HB.out.size)⟩
end Go.Proofs.YtnkelahimiipjaaGreatDoor

/-
 Rows of rows of points, that the call makes itself.
-/
namespace Go.Proofs.YtnkelahimiipjaaGreatDoor
open Go.RowKit Go.Sort Go.Maps
end Go.Proofs.YtnkelahimiipjaaGreatDoor
