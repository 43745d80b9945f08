/-
 decimal: Pack.
-/
import Derived.Test.YtnkelahimiipjaaGreatDoorHbk
import Derived.Test.YtnkelahimiipjaaGreatDoorCqk
import Derived.Test.YtnkelahimiipjaaGreatDoorCtk
import Derived.Test.YtnkelahimiipjaaGreatDoorRqk
import Derived.WalkMore
import Derived.StillTailTactics
import Derived.Deep.Cut
import Derived.Deep.CutRange
import Derived.Test.YtnkelahimiipjaaGreatDoorCck
namespace Go.Proofs.YtnkelahimiipjaaGreatDoor
open Go.RowKit Go.Sort
theorem take_getD {l : List Val} {k : Nat} (h : k < l.length) : l.take (k + 1) = l.take k ++ [l.getD k (0, 0, 0)] := by
 rw [List.take_succ_eq_append_getElem h, List.getD_eq_getElem?_getD, List.getElem?_eq_getElem h]; rfl
set_option maxRecDepth 100000 in
set_option maxHeartbeats 8000000 in
theorem dpack_walk (v : Value) (l : List Val) (W : World) (hT : TabT W) (hR : RdG EV W W.heap.size v l) (hb : ∀ y ∈ l, (-1000000 ≤ y.2.1 ∧ y.2.1 ≤ 1000000) ∧ In64 y.1 ∧ In64 y.2.2) (hl : l.length ≤ 1000000) :
  Calls Tryz.prog 62 #[v] W fun e w' => ∃ mv, e = .returned (.tuple #[mv, .int .i64 (leastL (l.take (packN l l.length))).1, .int .i64 (packN l l.length : Nat)]) ∧
   OwnG EI 2 w' W.heap.size mv ((l.take (packN l l.length)).map (mantV (leastL (l.take (packN l l.length))).1)) ∧ Below W.heap.size W w' := by
 have hr : Tryz.f62.results = #[.tmp 2, .tmp 3, .tmp 4] := by kernel_rfl
 obtain ⟨N, hN⟩ : ∃ N, N = l.length := ⟨_, rfl⟩
 obtain ⟨A, c, rfl, hc, hn0, hA⟩ := hR
 rw [← hN] at hc hl ⊢
 have HN := Lib.hid hN
 have HC := Lib.hid hc
 have HT := Lib.hid hT
 have HBD := Lib.hid hb
 have HCL : Hid (∀ j, j < N → ∃ b1 o1, A = some ⟨b1, o1, none⟩ ∧ CellG EV W b1 (o1 + j * 3) (l.getD j (0, 0, 0)) ∧ b1 < W.heap.size) := fun j hj => by
  rcases hA with h1 | ⟨b1, o1, e, hb1, hcl⟩
  ·rw [h1] at hN; simp at hN; omega
  ·refine ⟨b1, o1, e, ?_, hb1⟩
   have := hcl j (by omega)
   rw [List.getD_eq_getElem?_getD, List.getElem?_eq_getElem (by omega)]
   exact this
 clear hA hn0 hT hb hN hc
 go_enter Tryz.func62, Tryz.ntmps62
 go_wp2_with fail
 go_step3
 go_wp2_with fail
 go_step3
 go_wp2_with fail
 go_loopw [5, 6, 7, 9, 10, 12, 18, 41] (fun lv sv nv _ _ _ iv _ wl => ∃ k : Nat, k ≤ N ∧ iv = .int .i64 (k : Int) ∧ nv = .int .i64 (k : Int) ∧ lv = .int .i64 (leastL (l.take k)).1 ∧ sv = .bool (leastL (l.take k)).2 ∧ Hid (goodL (l.take k) = true) ∧ Hid (Ext W wl))
  (fun _ _ _ _ _ _ iv _ _ => N - (intOf iv).toNat)
 case atStart => exact ⟨0, Nat.zero_le _, rfl, rfl, rfl, rfl, rfl, Ext.refl _⟩
 case round =>
  obtain ⟨k, hk, rfl, rfl, rfl, rfl, HG, HE⟩ := hrel
  by_cases hlt : k < N
  case' pos =>
   have i1 : (k : Int) < (N : Int) := by omega
   obtain ⟨b1, o1, rfl, hcl, hb1⟩ := HCL.out k hlt
   have hTK : l.take (k + 1) = l.take k ++ [l.getD k (0, 0, 0)] := take_getD (by rw [← HN.out]; exact hlt)
   have hmem : l.getD k (0, 0, 0) ∈ l := by
    rw [List.getD_eq_getElem?_getD, List.getElem?_eq_getElem (by rw [← HN.out]; exact hlt)]; exact List.getElem_mem _
   have hbd := HBD.out _ hmem
   obtain ⟨y, hy⟩ : ∃ y, y = l.getD k (0, 0, 0) := ⟨_, rfl⟩
   rw [← hy] at hcl hTK hbd
   obtain ⟨m, x, s⟩ := y
   obtain ⟨d0, d1, d2⟩ := cellV.1 hcl
   have c0 : wr.cell? ⟨b1, o1 + k * 3, none⟩ = some (.int .i64 m) := (HE.out.cell hb1).trans d0
   have c1 : wr.cell? ⟨b1, o1 + k * 3 + 1, none⟩ = some (.int .i64 x) := (HE.out.cell hb1).trans d1
   have c2 : wr.cell? ⟨b1, o1 + k * 3 + 2, none⟩ = some (.int .i64 s) := (HE.out.cell hb1).trans d2
   have HTK := Lib.hid hTK
   have HYK := Lib.hid hy
   have KR : Hid (∀ w, Calls Tryz.prog 93 #[.agg #[.int .i64 m, .int .i64 x, .int .i64 s]] w fun e w' => e = .returned (.bool (rightB (m, x, s))) ∧ Ext w w') := fun w => fright_walk m x s w
   have KN : Hid (∀ w, Calls Tryz.prog 94 #[.agg #[.int .i64 m, .int .i64 x, .int .i64 s]] w fun e w' => e = .returned (.bool (numB (m, x, s))) ∧ Ext w w') := fun w => number_walk m x s w
   obtain ⟨bx, hbx⟩ : ∃ b, b = wr.heap.size := ⟨_, rfl⟩
   obtain ⟨wb, hwb⟩ : ∃ w, w = wr.alloc (.cells #[.int .i64 m, .int .i64 x, .int .i64 s] 64) := ⟨_, rfl⟩
   have HE1 : Hid (Ext W wb) := by rw [hwb]; exact HE.out.alloc _
   have bm : wb.cell? ⟨bx, 0, none⟩ = some (.int .i64 m) := by rw [hwb, hbx]; exact new_cellG wr _ _ 0
   have bxx : wb.cell? ⟨bx, 1, none⟩ = some (.int .i64 x) := by rw [hwb, hbx]; exact new_cellG wr _ _ 1
   have bs : wb.cell? ⟨bx, 2, none⟩ = some (.int .i64 s) := by rw [hwb, hbx]; exact new_cellG wr _ _ 2
   have HB3 := Lib.hid (And.intro bm (And.intro bxx bs))
   obtain ⟨lx, hlx⟩ : ∃ x, x = (leastL (l.take k)).1 := ⟨_, rfl⟩
   obtain ⟨ls, hls⟩ : ∃ x, x = (leastL (l.take k)).2 := ⟨_, rfl⟩
   have HLL : Hid (leastL (l.take k) = (lx, ls)) := by show _ = _; rw [hlx, hls]
   go_wp2_with fail
   rw [← hwb, ← hbx, ← hlx, ← hls]
   clear hwb hbx bm bxx bs hlx hls c0 c1 c2
   refine (KR.out wb).mono ?_
   rintro e w1 ⟨rfl, hE1⟩
   have HE2 : Hid (Ext wb w1) := hE1
   clear hE1
   cases hrt : rightB (m, x, s)
   case' false =>
    have HBAD : Hid (k < l.length → goodL (l.take (k + 1)) = false) := fun _ => by rw [HTK.out]; exact bad_right hrt
    have hkN : k ≤ N := hk
    have hEx := HE1.out.trans HE2.out
    have hLx' : (leastL (l.take k)).1 = lx := by rw [HLL.out]
    clear hk hlt hrt i1
    rw [← hLx']
    clear hLx'
   case' true =>
    have HRT := Lib.hid hrt
    have bm := HE2.out.cell_some HB3.out.1
    have bxx := HE2.out.cell_some HB3.out.2.1
    have bs := HE2.out.cell_some HB3.out.2.2
    clear hrt
    go_wp2_with fail
    refine (KN.out w1).mono ?_
    rintro e w2 ⟨rfl, hE1⟩
    have HE3 : Hid (Ext w1 w2) := hE1
    have bm := HE3.out.cell_some bm
    have bxx := HE3.out.cell_some bxx
    have bs := HE3.out.cell_some bs
    clear hE1
    cases hnb : numB (m, x, s)
    case false =>
     have HG2 : Hid (goodL (l.take (k + 1)) = true) := by show _ = _; rw [HTK.out]; exact good_plain HG.out HRT.out hnb
     have HL2 : Hid (leastL (l.take (k + 1)) = (lx, ls)) := by show _ = _; rw [HTK.out, least_plain hnb]; exact HLL.out
     clear hnb
     go_wp2_with fail
     go_roundw
     case rel => exact ⟨k + 1, by omega, by go_num, by go_num, by rw [HL2.out], by rw [HL2.out], HG2.out, (HE1.out.trans HE2.out).trans HE3.out⟩
     case measure => simp [intOf]; omega
    case' true =>
     have HNB := Lib.hid hnb
     obtain ⟨e2, he2⟩ : ∃ e, leastL (l.take (k + 1)) = (e, true) ∧ e = (if ls then min x lx else x) := ⟨_, by rw [HTK.out, least_num hnb, HLL.out], rfl⟩
     clear hnb
     have HE22 := Lib.hid he2
     have HK := Lib.hid hk
     clear he2 hbd
     go_upto_if 32 with fail
     go_cut [10, 18] from 18 to 57 (fun s10 s18 wx => s10 = .int .i64 e2 ∧ s18 = .int .i64 (k : Int) ∧ wx = w2)
     case first =>
      have he := HE22.out.2
      cases ls with
      | false =>
        have e : e2 = x := by simpa using he
        clear he
        go_wp2_with fail
        go_meet
        exact ⟨by rw [e], rfl, rfl⟩
      | true =>
        by_cases hml : x ≤ lx
        ·have e : e2 = x := by rw [he]; simp; omega
         have HEE := Lib.hid e
         clear he e
         go_wp2_with fail
         go_meet
         exact ⟨by rw [HEE.out], rfl, rfl⟩
        ·have e : e2 = lx := by rw [he]; simp; omega
         have HEE := Lib.hid e
         clear he e
         go_wp2_with fail
         go_meet
         exact ⟨by rw [HEE.out], rfl, rfl⟩
     case' rest =>
      obtain ⟨rfl, rfl, rfl⟩ := hcut
      have hkc : k + 1 ≤ c := by have := HC.out; omega
      have i2 : (k : Int) + 1 ≤ (c : Int) := by omega
      have HALL : Hid (∀ j, j < k + 1 → rightB (l.getD j (0, 0, 0)) = true) := fun j hj => by
       by_cases e : j = k
       ·subst e
        have h1 : l.getD j (0, 0, 0) ∈ l.take (j + 1) := by rw [HTK.out]; simp [HYK.out]
        rw [← HYK.out]; exact HRT.out
       ·have hjl : j < l.length := by have := HN.out; omega
        refine (good_iff.1 HG.out).1 _ ?_
        rw [List.getD_eq_getElem?_getD, List.getElem?_eq_getElem hjl, List.mem_take_iff_getElem]
        exact ⟨j, by omega, rfl⟩
      have hE2b : -300 ≤ e2 ∧ e2 ≤ 290 := by
       have h1 := least_in (l := l.take (k + 1)) (fun v hv => by
        obtain ⟨i, hi, rfl⟩ := List.getElem_of_mem hv
        rw [List.length_take] at hi
        have := HALL.out i (by omega)
        rw [List.getD_eq_getElem?_getD, List.getElem?_eq_getElem (by omega)] at this
        rw [List.getElem_take]; exact this)
       rw [HE22.out.1] at h1
       exact h1
      have HEB := Lib.hid hE2b
      clear hE2b
      go_wp2_with fail
      go_loopw [12, 41] (fun _ jv wl => ∃ j : Nat, j ≤ k + 1 ∧ jv = .int .i64 (j : Int) ∧ Hid (Ext W wl) ∧ Hid (∀ i, i < j → numB (l.getD i (0, 0, 0)) = true → fitB e2 (l.getD i (0, 0, 0)) = true))
       (fun _ jv _ => k + 1 - (intOf jv).toNat)
      case atStart => exact ⟨0, Nat.zero_le _, rfl, (HE1.out.trans HE2.out).trans HE3.out, fun i hi => absurd hi (Nat.not_lt_zero _)⟩
      case' round =>
       obtain ⟨j, hj, rfl, HEj, HFj⟩ := hrel
       by_cases hjk : j < k + 1
       case' pos =>
        have i3 : (j : Int) < (k : Int) + 1 := by omega
        have hjN : j < N := by omega
        obtain ⟨b3, o3, e3, hcl3, hb3⟩ := HCL.out j hjN
        injection e3 with e3
        injection e3 with e4 e5
        subst e4 e5
        have hmem3 : l.getD j (0, 0, 0) ∈ l := by
         rw [List.getD_eq_getElem?_getD, List.getElem?_eq_getElem (by rw [← HN.out]; exact hjN)]; exact List.getElem_mem _
        have hbd3 := HBD.out _ hmem3
        have hr3 := HALL.out j hjk
        obtain ⟨y3, hy3⟩ : ∃ y, y = l.getD j (0, 0, 0) := ⟨_, rfl⟩
        have HY3 := Lib.hid hy3
        rw [← hy3] at hcl3 hbd3 hr3
        obtain ⟨m3, x3, s3⟩ := y3
        obtain ⟨d0, d1, d2⟩ := cellV.1 hcl3
        have c0 : wr.cell? ⟨b1, o1 + j * 3, none⟩ = some (.int .i64 m3) := (HEj.out.cell hb1).trans d0
        have c1 : wr.cell? ⟨b1, o1 + j * 3 + 1, none⟩ = some (.int .i64 x3) := (HEj.out.cell hb1).trans d1
        have c2 : wr.cell? ⟨b1, o1 + j * 3 + 2, none⟩ = some (.int .i64 s3) := (HEj.out.cell hb1).trans d2
        have KN3 : Hid (∀ w, Calls Tryz.prog 94 #[.agg #[.int .i64 m3, .int .i64 x3, .int .i64 s3]] w fun e w' => e = .returned (.bool (numB (m3, x3, s3))) ∧ Ext w w') := fun w => number_walk m3 x3 s3 w
        have KF3 : Hid (∀ w, Ext W w → numB (m3, x3, s3) = true → Calls Tryz.prog 95 #[.agg #[.int .i64 m3, .int .i64 x3, .int .i64 s3], .int .i64 e2] w fun r w' => r = .returned (.bool (fitB e2 (m3, x3, s3))) ∧ Ext w w') := fun w hw hn => by
         have hq := right_num hr3 hn
         exact fits_walk m3 x3 s3 e2 w (HT.out.below hw.below) (by have := hq.1; have := hq.2.1; simp only at *; omega) hbd3.1 (by have := HEB.out; omega)
        obtain ⟨bx3, hbx⟩ : ∃ b, b = wr.heap.size := ⟨_, rfl⟩
        obtain ⟨wb3, hwb⟩ : ∃ w, w = wr.alloc (.cells #[.int .i64 m3, .int .i64 x3, .int .i64 s3] 64) := ⟨_, rfl⟩
        have HEb : Hid (Ext W wb3) := by rw [hwb]; exact HEj.out.alloc _
        have bm3 : wb3.cell? ⟨bx3, 0, none⟩ = some (.int .i64 m3) := by rw [hwb, hbx]; exact new_cellG wr _ _ 0
        have bx3c : wb3.cell? ⟨bx3, 1, none⟩ = some (.int .i64 x3) := by rw [hwb, hbx]; exact new_cellG wr _ _ 1
        have bs3 : wb3.cell? ⟨bx3, 2, none⟩ = some (.int .i64 s3) := by rw [hwb, hbx]; exact new_cellG wr _ _ 2
        clear hcl3 d0 d1 d2 hy3 hmem3 hbd3 hr3 hjN
        cases hn3 : numB (m3, x3, s3)
        case false =>
         have HF4 : Hid (∀ i, i < j + 1 → numB (l.getD i (0, 0, 0)) = true → fitB e2 (l.getD i (0, 0, 0)) = true) := fun i hi hni => by
          by_cases e : i = j
          ·subst e; rw [← HY3.out, hn3] at hni; cases hni
          ·exact HFj.out i (by omega) hni
         rw [hn3] at KN3
         clear hn3
         go_wp2_with fail
         rw [← hwb, ← hbx]
         clear hwb hbx c0 c1 c2
         refine (KN3.out wb3).mono ?_
         rintro e w4 ⟨rfl, hE4⟩
         have HE5 := Lib.hid (HEb.out.trans hE4)
         clear hE4
         go_wp2_with fail
         go_roundw
         case rel => exact ⟨j + 1, by omega, by go_num, HE5.out, HF4.out⟩
         case measure => simp [intOf]; omega
        case' true =>
         have HN3 := Lib.hid hn3
         rw [hn3] at KN3
         clear hn3
         cases hf3 : fitB e2 (m3, x3, s3)
         case true =>
          have HF4 : Hid (∀ i, i < j + 1 → numB (l.getD i (0, 0, 0)) = true → fitB e2 (l.getD i (0, 0, 0)) = true) := fun i hi hni => by
           by_cases e : i = j
           ·subst e; rw [← HY3.out]; exact hf3
           ·exact HFj.out i (by omega) hni
          rw [hf3] at KF3
          clear hf3
          go_wp2_with fail
          rw [← hwb, ← hbx]
          clear hwb hbx c0 c1 c2
          refine (KN3.out wb3).mono ?_
          rintro e w4 ⟨rfl, hE4⟩
          have HE5 := Lib.hid (HEb.out.trans hE4)
          have bm3 := hE4.cell_some bm3
          have bx3c := hE4.cell_some bx3c
          have bs3 := hE4.cell_some bs3
          clear hE4
          go_wp2_with fail
          refine (KF3.out w4 HE5.out HN3.out).mono ?_
          rintro e w5 ⟨rfl, hE4⟩
          have HE6 := Lib.hid (HE5.out.trans hE4)
          clear hE4
          go_wp2_with fail
          go_roundw
          case rel => exact ⟨j + 1, by omega, by go_num, HE6.out, HF4.out⟩
          case measure => simp [intOf]; omega
         case' false =>
          have HBAD : Hid (k < l.length → goodL (l.take (k + 1)) = false) := fun hkl => by
           rw [HTK.out]
           refine bad_fit (x := (m3, x3, s3)) ?_ HN3.out (by rw [← HTK.out, HE22.out.1]; exact hf3)
           rw [← HTK.out, HY3.out, List.getD_eq_getElem?_getD, List.getElem?_eq_getElem (show j < l.length by omega), List.mem_take_iff_getElem]
           exact ⟨j, by omega, rfl⟩
          rw [hf3] at KF3
          clear hf3
          go_wp2_with fail
          rw [← hwb, ← hbx]
          clear hwb hbx c0 c1 c2
          refine (KN3.out wb3).mono ?_
          rintro e w4 ⟨rfl, hE4⟩
          have HE5 := Lib.hid (HEb.out.trans hE4)
          have bm3 := hE4.cell_some bm3
          have bx3c := hE4.cell_some bx3c
          have bs3 := hE4.cell_some bs3
          clear hE4
          go_wp2_with fail
          refine (KF3.out w4 HE5.out HN3.out).mono ?_
          rintro e w5 ⟨rfl, hE4⟩
          have hEx := HE5.out.trans hE4
          have hkN : k ≤ N := HK.out
          have hLx' : (leastL (l.take k)).1 = lx := by rw [HLL.out]
          clear hE4 hj hjk i3 hk hlt i1 bm3 bx3c bs3 bm bxx bs i2 hkc
          rw [← hLx']
          clear hLx'
       case neg =>
        have hjk2 : j = k + 1 := by omega
        have i3 : ¬ (j : Int) < (k : Int) + 1 := by omega
        have HG2 : Hid (goodL (l.take (k + 1)) = true) := by
         show _ = _
         rw [HTK.out]
         refine good_num HG.out HRT.out (fun z hz hn => ?_)
         rw [← HTK.out] at hz ⊢
         obtain ⟨i, hi, rfl⟩ := List.getElem_of_mem hz
         rw [List.length_take] at hi
         rw [List.getElem_take] at hn ⊢
         have h1 := HFj.out i (by omega)
         rw [List.getD_eq_getElem?_getD, List.getElem?_eq_getElem (show i < l.length by omega)] at h1
         rw [HE22.out.1]
         exact h1 hn
        clear hj hjk hjk2
        go_wp2_with fail
        go_roundw
        case rel => exact ⟨k + 1, by omega, by go_num, by go_num, by rw [HE22.out.1], by rw [HE22.out.1], HG2.out, HEj.out⟩
        case measure => simp [intOf]; omega
  case' neg =>
   have hkN : k ≤ N := hk
   have HBAD : Hid (k < l.length → goodL (l.take (k + 1)) = false) := fun h => absurd h (by rw [← HN.out]; exact hlt)
   have i1 : ¬ (k : Int) < (N : Int) := by omega
   have hEx := HE.out
   clear hk hlt
  all_goals
   have HK := Lib.hid hkN
   have HPK : Hid (packN l N = k) := by
    show _ = _
    rw [HN.out]
    exact pack_is (by rw [← HN.out]; exact hkN) HG.out (fun h => HBAD.out h)
   have hcN : k ≤ c := by have := HC.out; omega
   have hkb : k ≤ 1000000 := by omega
   have i20 : (k : Int) ≤ (c : Int) := by omega
   obtain ⟨Lx, hLx⟩ : ∃ x, x = (leastL (l.take k)).1 := ⟨_, rfl⟩
   rw [← hLx]
   have HLX := Lib.hid hLx
   have HEX := Lib.hid hEx
   clear hLx hkN hEx
   go_wp2_with fail
   go_loopw [13, 15, 62] (fun ov _ iv wl => ∃ j : Nat, j ≤ k ∧ iv = .int .i64 (j : Int) ∧ Hid (OwnG EI 2 wl W.heap.size ov ((l.take j).map (mantV Lx))) ∧ Hid (Below W.heap.size W wl))
    (fun _ _ iv _ => k - (intOf iv).toNat)
   case atStart => exact ⟨0, Nat.zero_le _, rfl, OwnG.nil _ _, HEX.out.below⟩
   case round =>
    obtain ⟨j, hj, rfl, HO, HB⟩ := hrel
    by_cases hlt : j < k
    ·have i1 : (j : Int) < (k : Int) := by omega
     obtain ⟨b3, o3, e3, hclT, hb3⟩ := HCL.out j (by have := HK.out; omega)
     first
      | subst e3
      | (injection e3 with e3
         injection e3 with e4 e5
         have e4' := e4.symm
         have e5' := e5.symm
         subst e4' e5')
     obtain ⟨y, hy⟩ : ∃ y, y = l.getD j (0, 0, 0) := ⟨_, rfl⟩
     rw [← hy] at hclT
     have hjl : j < l.length := by have := HK.out; have := HN.out; omega
     have hmem : y ∈ l.take k := by
      rw [hy, List.getD_eq_getElem?_getD, List.getElem?_eq_getElem hjl, List.mem_take_iff_getElem]
      exact ⟨j, by omega, rfl⟩
     obtain ⟨hg1, hg2⟩ := good_iff.1 HG.out
     have hry := hg1 y hmem
     have hfy := hg2 y hmem
     rw [← HLX.out] at hfy
     have HT1 : Hid ((l.take (j + 1)).map (mantV Lx) = (l.take j).map (mantV Lx) ++ [mantV Lx y]) := by
      show _ = _
      rw [take_getD hjl, List.map_append, ← hy]; rfl
     obtain ⟨L, hL⟩ : ∃ L, L = (l.take j).map (mantV Lx) := ⟨_, rfl⟩
     have hLl : L.length ≤ 1000000 := by rw [hL, List.length_map, List.length_take]; have := HK.out; omega
     rw [← hL] at HO
     have HL := Lib.hid hL
     have hLb := least_in (l := l.take k) hg1
     rw [← HLX.out] at hLb
     clear hg1 hg2 hmem hjl hL hy
     obtain ⟨m, x, s⟩ := y
     obtain ⟨d0, d1, d2⟩ := cellV.1 hclT
     have c0 : wr.cell? ⟨b3, o3 + j * 3, none⟩ = some (.int .i64 m) := (HB.out.cell hb3).trans d0
     have c1 : wr.cell? ⟨b3, o3 + j * 3 + 1, none⟩ = some (.int .i64 x) := (HB.out.cell hb3).trans d1
     have c2 : wr.cell? ⟨b3, o3 + j * 3 + 2, none⟩ = some (.int .i64 s) := (HB.out.cell hb3).trans d2
     obtain ⟨bx, hbx⟩ : ∃ b, b = wr.heap.size := ⟨_, rfl⟩
     obtain ⟨wb, hwb⟩ : ∃ w, w = wr.alloc (.cells #[.int .i64 m, .int .i64 x, .int .i64 s] 64) := ⟨_, rfl⟩
     have bm : wb.cell? ⟨bx, 0, none⟩ = some (.int .i64 m) := by rw [hwb, hbx]; exact new_cellG wr _ _ 0
     have bxx : wb.cell? ⟨bx, 1, none⟩ = some (.int .i64 x) := by rw [hwb, hbx]; exact new_cellG wr _ _ 1
     have bs : wb.cell? ⟨bx, 2, none⟩ = some (.int .i64 s) := by rw [hwb, hbx]; exact new_cellG wr _ _ 2
     have HOb : Hid (OwnG EI 2 wb W.heap.size u13 L) := by rw [hwb]; exact HO.out.alloc _
     have HBb : Hid (Below W.heap.size W wb) := by rw [hwb]; exact HB.out.alloc HB.out.size _
     have hl1 : (L.length + 1) * 8 ≤ 140737488355328 := by omega
     have HTb : Hid (TabT wb) := HT.out.below HBb.out
     by_cases hs0 : s = 0
     ·by_cases hm0 : m = 0
      ·have g1 : (s != 0) = false := by simp [hs0]
       have g2 : (m == 0) = true := by simp [hm0]
       have hz : mantV Lx (m, x, s) = 0 := by unfold mantV; simp [hs0, hm0]
       rw [hz] at HT1
       have HCC : Hid (CellG EI ((wr.alloc (.cells #[.int .i64 m, .int .i64 x, .int .i64 s] 64)).alloc (.cells #[.int .i64 0] 2)) (wr.heap.size + 1) 0 0) := by
        have h := CellG.mk (E := EI) (w := (wr.alloc (.cells #[.int .i64 m, .int .i64 x, .int .i64 s] 64))) (x := 0) (cs := #[.int .i64 0]) rfl 2
        rw [World.size_alloc] at h
        exact h
       have HOc : Hid (OwnG EI 2 (wr.alloc (.cells #[.int .i64 m, .int .i64 x, .int .i64 s] 64)) W.heap.size u13 L) := HO.out.alloc _
       have HBc : Hid (Below W.heap.size W ((wr.alloc (.cells #[.int .i64 m, .int .i64 x, .int .i64 s] 64)).alloc (.cells #[.int .i64 0] 2))) := (HB.out.alloc HB.out.size _).alloc (HB.out.alloc HB.out.size _).size _
       clear hs0 hm0 hz hclT d0 d1 d2 hry hfy hwb hbx bm bxx bs HOb HBb
       go_wp2_with (first | (at_builtin; refine app1G EI rfl _ _ 73 2 rfl Tryz.underlying73 info_i rfl (by decide) W.heap.size _ L 0 rfl (HOc.out.alloc _) _ 0 1 rfl HCC.out hl1 HBc.out.size ?_) | fail)
       intro v' w' hown hg hloc
       have HO2 : Hid (OwnG EI 2 w' W.heap.size v' ((l.take (j + 1)).map (mantV Lx))) := by
        show OwnG _ _ _ _ _ _
        rw [HT1.out, ← HL.out]; exact hown
       have HB2 : Hid (Below W.heap.size W w') := HBc.out.grown hg HBc.out.size (fun _ e => (HOc.out.blk e).1)
       clear hown hg hloc
       go_wp2_with fail
       go_roundw
       case rel => exact ⟨j + 1, by omega, by go_num, HO2.out, HB2.out⟩
       case measure => simp [intOf]; omega
      ·have g1 : (s != 0) = false := by simp [hs0]
       have g2 : (m == 0) = false := by simp [hm0]
       have hnb : numB (m, x, s) = true := by unfold numB; simp [hs0, hm0]
       have hff := hfy hnb
       unfold fitB at hff
       simp only [Bool.and_eq_true, decide_eq_true_eq] at hff
       obtain ⟨⟨f1, f2⟩, f3⟩ := hff
       obtain ⟨dd, hdd⟩ : ∃ d : Nat, x - Lx = (d : Int) := ⟨(x - Lx).toNat, by omega⟩
       obtain ⟨td, htd⟩ : ∃ t, t = 10 ^ dd := ⟨_, rfl⟩
       have hd18 : dd ≤ 18 := by omega
       have ct : wb.cell? ⟨0, dd, none⟩ = some (.int .i64 (td : Int)) := by rw [HTb.out dd (by omega), htd]
       rw [show (x - Lx).toNat = dd by omega, ← htd] at f3
       obtain ⟨z, hz0⟩ : ∃ z, z = m * (td : Int) := ⟨_, rfl⟩
       have hza : z.natAbs < 1000000000000000000 := by rw [hz0, Int.natAbs_mul]; exact f3
       have hzw : IntKind.i64.wrap (m * (td : Int)) = z := by rw [← hz0]; exact IntWalk.i64_in _ (by omega)
       have hzw2 : wrap64 (m * (td : Int)) = z := by rw [← wr_64]; exact hzw
       have hz : mantV Lx (m, x, s) = z := by
        unfold mantV
        simp only [hs0, ne_eq, not_true, if_false, hm0]
        rw [show (x - Lx).toNat = dd by omega, hz0, htd, Int.natCast_pow]; rfl
       rw [hz] at HT1
       have i30 : (0 : Int) ≤ (dd : Int) := by omega
       have hwd : IntKind.i64.wrap (x - Lx) = (dd : Int) := by rw [hdd]; exact IntWalk.i64_in _ (by omega)
       have hwd2 : IntKind.i64.wrap (dd : Int) = (dd : Int) := IntWalk.i64_in _ (by omega)
       have i31 : (dd : Int) < 19 := by omega
       have HCC : Hid ((#[.int .i64 z] : Array Value).toList = EI.enc z) := rfl
       clear hs0 hm0 hz hclT d0 d1 d2 hry hfy f1 f2 f3 hza hz0 htd hd18 hnb
       have HNE : Hid (∀ k, u13.ownBlock = some k → W.heap.size ≤ k ∧ k ≠ bx) := fun k e => ⟨(HO.out.blk e).1, by have := (HO.out.blk e).2; omega⟩
       have hbl : bx < wb.heap.size := by rw [hwb, hbx]; simp
       have HBL := Lib.hid hbl
       have htl : 0 < W.heap.size := lt_of_cell (HT.out 0 (by omega))
       have HTL := Lib.hid htl
       clear hbl htl
       go_wp2_with fail
       rw [← hwb, ← hbx]
       clear hwb hbx c0 c1 c2
       go_wp2_with fail
       have hBA : ∀ w' o, Below wb.heap.size wb w' → Below wb.heap.size wb (w'.alloc o) := fun w' o h => h.alloc h.size _
       have HBA := Lib.hid hBA
       have HOA : Hid (∀ w', Below wb.heap.size wb w' → OwnG EI 2 w' W.heap.size u13 L) := fun w' h => HOb.out.below h
       have HSA : Hid (∀ w', Below wb.heap.size wb w' → W.heap.size ≤ w'.heap.size) := fun w' h => Nat.le_trans HBb.out.size h.size
       have HCA : Hid (∀ w', Below wb.heap.size wb w' → w'.cell? ⟨bx, 0, none⟩ = some (.int .i64 m) ∧ w'.cell? ⟨bx, 1, none⟩ = some (.int .i64 x) ∧ w'.cell? ⟨0, dd, none⟩ = some (.int .i64 (td : Int))) := fun w' h => ⟨(h.cell (lt_of_cell bm)).trans bm, (h.cell (lt_of_cell bxx)).trans bxx, (h.cell (lt_of_cell ct)).trans ct⟩
       have HGA : Hid (∀ w' w7, Below wb.heap.size wb w' → w'.grownBy w7 u13.ownBlock → Below W.heap.size W w7 ∧ w7.cell? ⟨bx, 0, none⟩ = some (.int .i64 m) ∧ w7.cell? ⟨bx, 1, none⟩ = some (.int .i64 x) ∧ w7.cell? ⟨0, dd, none⟩ = some (.int .i64 (td : Int))) := fun w' w7 h hg => by
        have c := HCA.out w' h
        have hs := h.size
        have h1 := HBL.out
        have h2 := HTL.out
        have h3 := HBb.out.size
        have e1 : ∀ i, w7.cell? ⟨bx, i, none⟩ = w'.cell? ⟨bx, i, none⟩ := fun i => World.cell?_of_block (hg.block bx (Nat.lt_of_lt_of_le h1 hs) fun e => (HNE.out _ e.symm).2 rfl)
        have e2 : ∀ i, w7.cell? ⟨0, i, none⟩ = w'.cell? ⟨0, i, none⟩ := fun i => World.cell?_of_block (hg.block 0 (Nat.lt_of_lt_of_le (Nat.lt_of_lt_of_le h2 h3) hs) fun e => by have := (HNE.out _ e.symm).1; omega)
        exact ⟨(HBb.out.trans (h.mono h3)).grown hg (Nat.le_trans h3 hs) (fun _ e => (HNE.out _ e).1), (e1 0).trans c.1, (e1 1).trans c.2.1, (e2 dd).trans c.2.2⟩
       clear hBA
       go_region_held3 (fun w' => w'.cell? ⟨bx, 0, none⟩ = some (.int .i64 m) ∧ w'.cell? ⟨bx, 1, none⟩ = some (.int .i64 x) ∧ w'.cell? ⟨0, dd, none⟩ = some (.int .i64 (td : Int)))
        (first | exact HS7.out.2 | exact HCA.out _ (by repeat (first | exact Below.refl _ _ | assumption | refine HBA.out _ _ ?_ | refine Below.drew ?_)))
        ((refine step_app1G EI (by rfl) _ _ 73 2 (by rfl) Tryz.underlying73 info_i (by rfl) (by decide) W.heap.size _ L z (by rfl) (HOA.out _ (by repeat (first | exact Below.refl _ _ | assumption | refine HBA.out _ _ ?_ | refine Below.drew ?_))) _ 0 1 (by rfl) (CellG.mk HCC.out _) hl1 (HSA.out _ (by repeat (first | exact Below.refl _ _ | assumption | refine HBA.out _ _ ?_ | refine Below.drew ?_))) ?_; intro v7 w7 hown7 hg7 hloc7; have HS7 := Lib.hid (HGA.out _ w7 (by repeat (first | exact Below.refl _ _ | assumption | refine HBA.out _ _ ?_ | refine Below.drew ?_)) hg7); have HO7 := Lib.hid hown7; clear hown7 hg7 hloc7))
       have HO2 : Hid (OwnG EI 2 w7 W.heap.size v7 ((l.take (j + 1)).map (mantV Lx))) := by
        show OwnG _ _ _ _ _ _
        rw [HT1.out, ← HL.out]; exact HO7.out
       have HB2 := Lib.hid HS7.out.1
       go_wp2_with fail
       go_roundw
       case rel => exact ⟨j + 1, by omega, by go_num, HO2.out, HB2.out⟩
       case measure => simp [intOf]; omega
     ·have hrr : m = 0 ∧ x = 0 ∧ 1 ≤ s ∧ s ≤ 4 := by
       unfold rightB rightV at hry
       simp only at hry
       rw [if_pos hs0] at hry
       have := of_decide_eq_true hry
       omega
      have g1 : (s != 0) = true := by simp [hs0]
      have hs1 := hrr.2.2.1
      have hs4 := hrr.2.2.2
      clear hrr
      have hz : mantV Lx (m, x, s) = -9223372036854775808 + s := by unfold mantV; simp [hs0]
      rw [hz] at HT1
      have HCC : Hid (CellG EI ((wr.alloc (.cells #[.int .i64 m, .int .i64 x, .int .i64 s] 64)).alloc (.cells #[.int .i64 (-9223372036854775808 + s)] 2)) (wr.heap.size + 1) 0 (-9223372036854775808 + s)) := by
       have h := CellG.mk (E := EI) (w := (wr.alloc (.cells #[.int .i64 m, .int .i64 x, .int .i64 s] 64))) (x := (-9223372036854775808 + s)) (cs := #[.int .i64 (-9223372036854775808 + s)]) rfl 2
       rw [World.size_alloc] at h
       exact h
      have HOc : Hid (OwnG EI 2 (wr.alloc (.cells #[.int .i64 m, .int .i64 x, .int .i64 s] 64)) W.heap.size u13 L) := HO.out.alloc _
      have HBc : Hid (Below W.heap.size W ((wr.alloc (.cells #[.int .i64 m, .int .i64 x, .int .i64 s] 64)).alloc (.cells #[.int .i64 (-9223372036854775808 + s)] 2))) := (HB.out.alloc HB.out.size _).alloc (HB.out.alloc HB.out.size _).size _
      clear hs0 hz hclT d0 d1 d2 hry hfy hwb hbx bm bxx bs HOb HBb
      go_wp2_with (first | (at_builtin; refine app1G EI rfl _ _ 73 2 rfl Tryz.underlying73 info_i rfl (by decide) W.heap.size _ L (-9223372036854775808 + s) rfl (HOc.out.alloc _) _ 0 1 rfl HCC.out hl1 HBc.out.size ?_) | fail)
      intro v' w' hown hg hloc
      have HO2 : Hid (OwnG EI 2 w' W.heap.size v' ((l.take (j + 1)).map (mantV Lx))) := by
       show OwnG _ _ _ _ _ _
       rw [HT1.out, ← HL.out]; exact hown
      have HB2 : Hid (Below W.heap.size W w') := HBc.out.grown hg HBc.out.size (fun _ e => (HOc.out.blk e).1)
      clear hown hg hloc
      go_wp2_with fail
      go_roundw
      case rel => exact ⟨j + 1, by omega, by go_num, HO2.out, HB2.out⟩
      case measure => simp [intOf]; omega
    ·have hjk : j = k := by omega
     have i1 : ¬ (j : Int) < (k : Int) := by omega
     rw [hjk] at HO
     obtain ⟨OA, oc, rfl, _⟩ := HO.out.rd
     clear hj hlt hjk
     go_wp2_with fail
     refine bodyPost_ret (v := .tuple #[.slice OA ((l.take k).map (mantV Lx)).length oc, .int .i64 Lx, .int .i64 (k : Int)]) ?_ rfl ⟨_, by rw [HPK.out, ← HLX.out], by rw [HPK.out, ← HLX.out]; exact HO.out, HB.out⟩
     unfold results
     rw [hr]
     go_simp
end Go.Proofs.YtnkelahimiipjaaGreatDoor

/-
 decimal: Unpack.
-/
namespace Go.Proofs.YtnkelahimiipjaaGreatDoor
open Go.RowKit Go.Sort
theorem unpack_app (e : Int) : ∀ (a b : List Int), unpackL e (a ++ b) = match unpackL e a, unpackL e b with | some r, some s => some (r ++ s) | _, _ => none
 | [], b => by
   show unpackL e b = _
   cases h : unpackL e b with
   | none => rfl
   | some s => rfl
 | k :: a, b => by
   have ih := unpack_app e a b
   rw [List.cons_append, unpackL, ih, unpackL]
   cases unpack1 e k <;> cases unpackL e a <;> cases unpackL e b <;> rfl
theorem unpack_snoc {e : Int} {a : List Int} {k : Int} {r : List Val} (h : unpackL e a = some r) : unpackL e (a ++ [k]) = (unpack1 e k).map (fun v => r ++ [v]) := by
 rw [unpack_app, h]
 unfold unpackL
 unfold unpackL
 cases unpack1 e k <;> rfl
theorem unpack_bad {e : Int} {a b : List Int} {k : Int} {r : List Val} (h : unpackL e a = some r) (hk : unpack1 e k = none) : unpackL e (a ++ k :: b) = none := by
 rw [unpack_app, h]
 have : unpackL e (k :: b) = none := by rw [unpackL, hk]
 rw [this]
theorem info_v : (Tryz.prog.info? 64).map (fun i => (i.zero, i.size, i.bytes)) = some (some (.agg #[.int .i64 0, .int .i64 0, .int .i64 0]), 3, 24) := by kernel_rfl
def UnpR (W : World) (m : List Int) (x : Int) (e : Ending) (w' : World) : Prop :=
 ∃ ov er, e = .returned (.tuple #[ov, .int .i64 er]) ∧ Below W.heap.size W w' ∧ (∀ r, unpackV m x = some r → er = 0 ∧ OwnG EV 64 w' W.heap.size ov r) ∧ (unpackV m x = none → er = 20 ∧ ov = .slice none 0 0)
set_option maxRecDepth 100000 in
set_option maxHeartbeats 4000000 in
theorem unpack_walk (v : Value) (l : List Int) (x : Int) (W : World) (hT : TabT W) (hR : RdG EI W W.heap.size v l) (hi : ∀ y ∈ l, In64 y) (hl : l.length ≤ 1000000) :
  Calls Tryz.prog 78 #[v, .int .i64 x] W (UnpR W l x) := by
 have hr : Tryz.f78.results = #[.tmp 4, .tmp 5] := by kernel_rfl
 obtain ⟨N, hN⟩ : ∃ N, N = l.length := ⟨_, rfl⟩
 obtain ⟨A, c, rfl, hc, hn0, hA⟩ := hR
 rw [← hN] at hc hl ⊢
 have HN := Lib.hid hN
 have HT := Lib.hid hT
 have HBD := Lib.hid hi
 have HCL : Hid (∀ j, j < N → ∃ b1 o1, A = some ⟨b1, o1, none⟩ ∧ W.cell? ⟨b1, o1 + j, none⟩ = some (.int .i64 (l.getD j 0)) ∧ b1 < W.heap.size) := fun j hj => by
  rcases hA with h1 | ⟨b1, o1, e, hb1, hcl⟩
  ·rw [h1] at hN; simp at hN; omega
  ·refine ⟨b1, o1, e, ?_, hb1⟩
   have := cellI.1 (hcl j (by omega))
   rw [List.getD_eq_getElem?_getD, List.getElem?_eq_getElem (by omega)]
   simpa [EI] using this
 clear hA hn0 hT hi hN hc
 by_cases hx : x < -1000 ∨ 1000 < x
 ·have hv : unpackV l x = none := by unfold unpackV; rw [if_pos hx]
  have HV := Lib.hid hv
  clear hv
  by_cases hx1 : x < -1000
  ·clear hx
   go_enter Tryz.func78, Tryz.ntmps78
   go_wp2_with fail
   refine bodyPost_ret (v := .tuple #[.slice none 0 0, .int .i64 20]) ?_ rfl (show UnpR W l x _ _ from ⟨.slice none 0 0, 20, rfl, Below.refl _ _, fun r h => (by rw [HV.out] at h; cases h), fun _ => ⟨rfl, rfl⟩⟩)
   unfold results
   rw [hr]
   go_simp
  ·have hx2 : x > 1000 := by omega
   clear hx
   go_enter Tryz.func78, Tryz.ntmps78
   go_wp2_with fail
   refine bodyPost_ret (v := .tuple #[.slice none 0 0, .int .i64 20]) ?_ rfl (show UnpR W l x _ _ from ⟨.slice none 0 0, 20, rfl, Below.refl _ _, fun r h => (by rw [HV.out] at h; cases h), fun _ => ⟨rfl, rfl⟩⟩)
   unfold results
   rw [hr]
   go_simp
 ·have HV : Hid (unpackV l x = unpackL x l) := by show _ = _; unfold unpackV; rw [if_neg hx]
  have hx1 : ¬ x < -1000 := by omega
  have hx2 : ¬ x > 1000 := by omega
  clear hx
  go_enter Tryz.func78, Tryz.ntmps78
  go_wp2_with fail
  go_loopw [6, 8, 9, 10, 11, 20] (fun ov _ _ _ _ iv wl => ∃ (k : Nat) (r : List Val), k ≤ N ∧ iv = .int .i64 (k : Int) ∧ Hid (unpackL x (l.take k) = some r) ∧ Hid (OwnG EV 64 wl W.heap.size ov r) ∧ Hid (Below W.heap.size W wl) ∧ Hid (r.length ≤ k))
   (fun _ _ _ _ _ iv _ => N - (intOf iv).toNat)
  case atStart => exact ⟨0, [], Nat.zero_le _, rfl, rfl, OwnG.nil _ _, Below.refl _ _, Nat.le_refl _⟩
  case round =>
   obtain ⟨k, r, hk, rfl, HU, HO, HB, HRL⟩ := hrel
   by_cases hlt : k < N
   ·have i1 : (k : Int) < (N : Int) := by omega
    obtain ⟨b1, o1, rfl, hcl, hb1⟩ := HCL.out k hlt
    obtain ⟨z, hz⟩ : ∃ z, z = l.getD k 0 := ⟨_, rfl⟩
    rw [← hz] at hcl
    have hkl : k < l.length := by rw [← HN.out]; exact hlt
    have hze : l[k] = z := by rw [hz, List.getD_eq_getElem?_getD, List.getElem?_eq_getElem hkl]; rfl
    have hzi : In64 z := HBD.out z (by rw [← hze]; exact List.getElem_mem _)
    have HTK : Hid (l.take (k + 1) = l.take k ++ [z]) := by show _ = _; rw [List.take_succ_eq_append_getElem hkl, hze]
    have HDR : Hid (l = l.take k ++ z :: l.drop (k + 1)) := by show _ = _; rw [← hze, ← List.drop_eq_getElem_cons hkl, List.take_append_drop]
    have c0 : wr.cell? ⟨b1, o1 + k, none⟩ = some (.int .i64 z) := (HB.out.cell hb1).trans hcl
    have hzi1 : -9223372036854775808 ≤ z := hzi.1
    have hzi2 : z ≤ 9223372036854775807 := by have := hzi.2; omega
    have hl1 : (r.length + 1) * 24 ≤ 140737488355328 := by have := HRL.out; omega
    clear hz hze hzi hkl hcl
    by_cases hsp : z < 0 ∧ 1 ≤ z + 9223372036854775808 ∧ z + 9223372036854775808 ≤ 4
    ·have hu1 : unpack1 x z = some (0, 0, z + 9223372036854775808) := by unfold unpack1; rw [if_pos hsp]
     have HU2 : Hid (unpackL x (l.take (k + 1)) = some (r ++ [(0, 0, z + 9223372036854775808)])) := by show _ = _; rw [HTK.out, unpack_snoc HU.out, hu1]; rfl
     obtain ⟨s1, s2, s3⟩ := hsp
     have hw : IntKind.i64.wrap (z - -9223372036854775808) = z + 9223372036854775808 := by rw [show z - -9223372036854775808 = z + 9223372036854775808 by omega]; exact IntWalk.i64_in _ (by omega)
     have HCC : Hid (CellG EV (wr.alloc (.cells #[.int .i64 0, .int .i64 0, .int .i64 (z + 9223372036854775808)] 64)) wr.heap.size 0 (0, 0, z + 9223372036854775808)) := CellG.mk (cs := #[.int .i64 0, .int .i64 0, .int .i64 (z + 9223372036854775808)]) rfl _
     have HW : Hid (W.heap.size ≤ (wr.alloc (.cells #[.int .i64 0, .int .i64 0, .int .i64 (z + 9223372036854775808)] 64)).heap.size) := by have := HB.out.size; show _ ≤ _; simp; omega
     clear hu1
     go_wp2_with (first | (at_builtin; refine app1G EV rfl _ _ 103 64 rfl Tryz.underlying103 info_v rfl (by decide) W.heap.size _ r (0, 0, z + 9223372036854775808) rfl (HO.out.alloc _) wr.heap.size 0 1 rfl HCC.out hl1 HW.out ?_) | fail)
     intro v' w' hown hg hloc
     have HO2 := Lib.hid hown
     have HB2 : Hid (Below W.heap.size W w') := (HB.out.alloc HB.out.size _).grown hg HW.out (fun _ e => (HO.out.blk e).1)
     clear hown hg hloc
     go_wp2_with fail
     go_roundw
     case rel => exact ⟨k + 1, _, by omega, by go_num, HU2.out, HO2.out, HB2.out, by have := HRL.out; simp; omega⟩
     case measure => simp [intOf]; omega
    ·have hu1 : unpack1 x z = match cleanV z x with | some (a, b) => if -1000000000000000000 < z ∧ z < 1000000000000000000 then some (a, b, 0) else none | none => none := by unfold unpack1; rw [if_neg hsp]; rfl
     have KCl : Hid (∀ w, Calls Tryz.prog 105 #[.int .i64 z, .int .i64 x] w fun e w' => e = .returned (cleanR z x) ∧ Ext w w') := fun w => clean_walk z x w hzi1 hzi2
     have HUN : Hid (unpack1 x z = none → unpackV l x = none) := fun h => by rw [HV.out, HDR.out]; exact unpack_bad HU.out h
     have HUS : Hid (∀ y, unpack1 x z = some y → unpackL x (l.take (k + 1)) = some (r ++ [y])) := fun y h => by rw [HTK.out, unpack_snoc HU.out, h]; rfl
     have hcase : (¬ z < 0) ∨ (z < 0 ∧ ¬ z + 9223372036854775808 ≥ 1 ∧ IntKind.i64.wrap (z - -9223372036854775808) = z + 9223372036854775808) ∨ (z < 0 ∧ z + 9223372036854775808 ≥ 1 ∧ ¬ z + 9223372036854775808 ≤ 4 ∧ IntKind.i64.wrap (z - -9223372036854775808) = z + 9223372036854775808) := by
      have hw : z < 0 → IntKind.i64.wrap (z - -9223372036854775808) = z + 9223372036854775808 := fun h => by rw [show z - -9223372036854775808 = z + 9223372036854775808 by omega]; exact IntWalk.i64_in _ (by omega)
      by_cases h1 : z < 0
      ·by_cases h2 : z + 9223372036854775808 ≥ 1
       ·exact .inr (.inr ⟨h1, h2, by omega, hw h1⟩)
       ·exact .inr (.inl ⟨h1, h2, hw h1⟩)
      ·exact .inl h1
     clear hsp
     cases hcv : cleanV z x with
     | none =>
       have hR : cleanR z x = .tuple #[.agg #[.int .i64 0, .int .i64 0, .int .i64 0], .bool false] := by unfold cleanR; rw [hcv]
       rw [hR] at KCl
       rw [hcv] at hu1
       have HVN := Lib.hid (HUN.out hu1)
       clear hcv hu1 hR HUN HUS
       rcases hcase with h1 | ⟨h1, h2, h3⟩ | ⟨h1, h2, h3, h4⟩
       all_goals
        go_wp2_with fail
        refine (KCl.out _).mono ?_
        rintro e w1 ⟨rfl, hE⟩
        have HB1 : Hid (Below W.heap.size W w1) := HB.out.trans (hE.below.mono HB.out.size)
        clear hE
        go_wp2_with fail
        refine bodyPost_ret (v := .tuple #[.slice none 0 0, .int .i64 20]) ?_ rfl (show UnpR W l x _ _ from ⟨.slice none 0 0, 20, rfl, HB1.out.alloc HB1.out.size _, fun r h => (by rw [HVN.out] at h; cases h), fun _ => ⟨rfl, rfl⟩⟩)
        unfold results
        rw [hr]
        go_simp
     | some ab =>
       obtain ⟨a, b⟩ := ab
       have hR : cleanR z x = .tuple #[.agg #[.int .i64 a, .int .i64 b, .int .i64 0], .bool true] := by unfold cleanR; rw [hcv]
       rw [hR] at KCl
       rw [hcv] at hu1
       simp only at hu1
       clear hcv hR
       by_cases hin : -1000000000000000000 < z ∧ z < 1000000000000000000
       ·rw [if_pos hin] at hu1
        have HU2 := Lib.hid (HUS.out _ hu1)
        obtain ⟨q1, q2⟩ := hin
        have q1' : ¬ z ≤ -1000000000000000000 := by omega
        have q2' : ¬ z ≥ 1000000000000000000 := by omega
        clear hu1 HUN HUS
        rcases hcase with h1 | ⟨h1, h2, h3⟩ | ⟨h1, h2, h3, h4⟩
        rotate_left
        ·exact absurd q1 (by omega)
        all_goals
         go_wp2_with fail
         refine (KCl.out _).mono ?_
         rintro e w1 ⟨rfl, hE⟩
         have HB1 : Hid (Below W.heap.size W w1) := HB.out.trans (hE.below.mono HB.out.size)
         have HO1 : Hid (OwnG EV 64 w1 W.heap.size u6 r) := HO.out.below hE.below
         have ct18 : w1.cell? ⟨0, 18, none⟩ = some (.int .i64 1000000000000000000) := HT.out.below HB1.out 18 (by omega)
         have ct19 : (w1.alloc (.cells #[.int .i64 a, .int .i64 b, .int .i64 0] 64)).cell? ⟨0, 18, none⟩ = some (.int .i64 1000000000000000000) := ((Ext.refl w1).alloc _).cell_some ct18
         have HCC : Hid (CellG EV ((w1.alloc (.cells #[.int .i64 a, .int .i64 b, .int .i64 0] 64)).alloc (.cells #[.int .i64 a, .int .i64 b, .int .i64 0] 64)) (w1.heap.size + 1) 0 (a, b, 0)) := by
          have h := CellG.mk (E := EV) (w := w1.alloc (.cells #[.int .i64 a, .int .i64 b, .int .i64 0] 64)) (x := (a, b, 0)) (cs := #[.int .i64 a, .int .i64 b, .int .i64 0]) rfl 64
          rw [World.size_alloc] at h
          exact h
         have HBc : Hid (Below W.heap.size W ((w1.alloc (.cells #[.int .i64 a, .int .i64 b, .int .i64 0] 64)).alloc (.cells #[.int .i64 a, .int .i64 b, .int .i64 0] 64))) := (HB1.out.alloc HB1.out.size _).alloc (HB1.out.alloc HB1.out.size _).size _
         clear hE
         go_wp2_with (first | (at_builtin; refine app1G EV rfl _ _ 103 64 rfl Tryz.underlying103 info_v rfl (by decide) W.heap.size _ r (a, b, 0) rfl ((HO1.out.alloc _).alloc _) _ 0 1 rfl HCC.out hl1 HBc.out.size ?_) | fail)
         intro v' w' hown hg hloc
         have HO2 := Lib.hid hown
         have HB2 : Hid (Below W.heap.size W w') := HBc.out.grown hg HBc.out.size (fun _ e => (HO1.out.blk e).1)
         clear hown hg hloc
         go_wp2_with fail
         go_roundw
         case rel => exact ⟨k + 1, _, by omega, by go_num, HU2.out, HO2.out, HB2.out, by have := HRL.out; simp; omega⟩
         case measure => simp [intOf]; omega
       ·rw [if_neg hin] at hu1
        have HVN := Lib.hid (HUN.out hu1)
        clear hu1 HUN HUS
        by_cases q1 : z ≤ -1000000000000000000
        ·clear hin
         rcases hcase with h1 | ⟨h1, h2, h3⟩ | ⟨h1, h2, h3, h4⟩
         ·exact absurd q1 (by omega)
         all_goals
          go_wp2_with fail
          refine (KCl.out _).mono ?_
          rintro e w1 ⟨rfl, hE⟩
          have HB1 : Hid (Below W.heap.size W w1) := HB.out.trans (hE.below.mono HB.out.size)
          have ct18 : w1.cell? ⟨0, 18, none⟩ = some (.int .i64 1000000000000000000) := HT.out.below HB1.out 18 (by omega)
          have ct19 : (w1.alloc (.cells #[.int .i64 a, .int .i64 b, .int .i64 0] 64)).cell? ⟨0, 18, none⟩ = some (.int .i64 1000000000000000000) := ((Ext.refl w1).alloc _).cell_some ct18
          clear hE
          go_wp2_with fail
          refine bodyPost_ret (v := .tuple #[.slice none 0 0, .int .i64 20]) ?_ rfl (show UnpR W l x _ _ from ⟨.slice none 0 0, 20, rfl, HB1.out.alloc HB1.out.size _, fun r h => (by rw [HVN.out] at h; cases h), fun _ => ⟨rfl, rfl⟩⟩)
          unfold results
          rw [hr]
          go_simp
        ·have q2 : z ≥ 1000000000000000000 := by omega
         clear hin
         rcases hcase with h1 | ⟨h1, h2, h3⟩ | ⟨h1, h2, h3, h4⟩
         rotate_left
         ·exact absurd h1 (by omega)
         ·exact absurd h1 (by omega)
         all_goals
          go_wp2_with fail
          refine (KCl.out _).mono ?_
          rintro e w1 ⟨rfl, hE⟩
          have HB1 : Hid (Below W.heap.size W w1) := HB.out.trans (hE.below.mono HB.out.size)
          have ct18 : w1.cell? ⟨0, 18, none⟩ = some (.int .i64 1000000000000000000) := HT.out.below HB1.out 18 (by omega)
          have ct19 : (w1.alloc (.cells #[.int .i64 a, .int .i64 b, .int .i64 0] 64)).cell? ⟨0, 18, none⟩ = some (.int .i64 1000000000000000000) := ((Ext.refl w1).alloc _).cell_some ct18
          clear hE
          go_wp2_with fail
          refine bodyPost_ret (v := .tuple #[.slice none 0 0, .int .i64 20]) ?_ rfl (show UnpR W l x _ _ from ⟨.slice none 0 0, 20, rfl, HB1.out.alloc HB1.out.size _, fun r h => (by rw [HVN.out] at h; cases h), fun _ => ⟨rfl, rfl⟩⟩)
          unfold results
          rw [hr]
          go_simp
   ·have hkN : k = N := by omega
    have i1 : ¬ (k : Int) < (N : Int) := by omega
    have HF : Hid (unpackV l x = some r) := by
     show _ = _
     rw [HV.out, ← HU.out, hkN, HN.out, List.take_length]
    obtain ⟨OA, oc, rfl, _⟩ := HO.out.rd
    clear hk hlt hkN
    go_wp2_with fail
    refine bodyPost_ret (v := .tuple #[.slice OA r.length oc, .int .i64 0]) ?_ rfl (show UnpR W l x _ _ from ⟨_, _, rfl, HB.out, fun r2 h => (by
     rw [HF.out] at h
     injection h with h
     subst h
     exact ⟨rfl, HO.out⟩), fun h => (by rw [HF.out] at h; cases h)⟩)
    unfold results
    rw [hr]
    go_simp
end Go.Proofs.YtnkelahimiipjaaGreatDoor
