/-
 datapart.parse, where all is well.
-/
import Derived.Test.YtnkelahimiipjaaGreatDoorHvk
import Derived.LoopNIn
import Derived.LoopIn
import Derived.Shelf.RegionOpen
import Derived.TacticsInMore
import Derived.OwnWalkIn
import Derived.WalkKit
import Derived.Test.YtnkelahimiipjaaGreatDoorHuk
import Derived.Test.YtnkelahimiipjaaGreatDoorHxk
import Derived.Test.YtnkelahimiipjaaGreatDoorHnk
namespace Go.Proofs.YtnkelahimiipjaaGreatDoor
open Go.RowKit Go.Sort
attribute [local go_sem] Oper.semAt_some

set_option maxRecDepth 100000 in
set_option maxHeartbeats 8000000 in
theorem parse_end (v : Value) (b : List Nat) (W : World) (hT : TabT W) (hR : RdG EB W W.heap.size v b) (h8 : ∀ c ∈ b, c < 256) (hl : b.length ≤ 1000000) (h0 : (takeV b).1 = 0 ∧ (takeV b).2.1 ≤ 1073741824) (b0 : List Nat) (hb0 : b0 = b.drop (takeV b).2.2) (ht : (decV b0).1 = 0) (b1 : List Nat) (hb1 : b1 = (decV b0).2.2) (hx : (takesV 1 b1).1 = 0 ∧ -1000 ≤ (takesV 1 b1).2.1.getD 0 0 ∧ (takesV 1 b1).2.1.getD 0 0 ≤ 1000) (b2 : List Nat) (hb2 : b2 = (takesV 1 b1).2.2) (hm : (decV b2).1 = 0 ∧ (decV b2).2.1.length = (decV b0).2.1.length) :
  Calls Tryz.prog 42 #[v] W (ParR W b) := by
 have hr : Tryz.f42.results = #[.cell 2 62, .tmp 3] := by kernel_rfl
 have hmf : ∀ (fn : Fn) (first cap : Array Value) (w : World), (Instr.makeFunc fn first cap).run Tryz.prog w = .ok (.func fn first cap) w := fun _ _ _ _ => rfl
 have hA : Below W.heap.size W (W.alloc (.cells #[.int .i64 0, .slice none 0 0] 62)) := (Below.refl _ _).alloc (Nat.le_refl _) _
 have KT : Hid (CallsIn Fence.wide 19 Tryz.prog 73 #[v] (W.alloc (.cells #[.int .i64 0, .slice none 0 0] 62)) _) := callsIn_wide.2 (take_c v b _ (hR.on hA) h8 (by omega))
 have hf1 : Fence.wide.fn 73 := trivial
 have hf2 : Fence.wide.fn 75 := trivial
 have hf3 : Fence.wide.fn 77 := trivial
 have hf4 : Fence.wide.fn 78 := trivial
 have KN : Hid (∀ bo br w, Boxed w bo 4 (.bool false) → CallsIn Fence.wide 19 Tryz.prog 75 #[.pointer (some ⟨bo, 0, none⟩), .pointer (some ⟨br, 0, none⟩)] w fun e w' => e = .returned (.slice none 0 0) ∧ w' = w) := fun bo br w h => callsIn_wide.2 (prow_no bo br w h)
 obtain ⟨A, c, rfl, _⟩ := hR
 have HALL := Lib.hid (par_all (b := b) (b2 := b2) (x := (takesV 1 b1).2.1.getD 0 0) (t := (decV b0).2.1) h0 (by rw [← hb0]; exact ht) (by rw [← hb0, ← hb1]; exact hx) (by rw [← hb0, ← hb1]; exact hb2) (by rw [← hb0]; exact hm) (by rw [← hb0, ← hb1]) (by rw [← hb0]))
 have h80 : ∀ c ∈ b0, c < 256 := fun c hc => by rw [hb0] at hc; exact h8 c (List.mem_of_mem_drop hc)
 have hl0 : b0.length ≤ 1000000 := by rw [hb0, List.length_drop]; omega
 obtain ⟨u, hu⟩ : ∃ u, u = (takeV b).2.1 := ⟨_, rfl⟩
 rw [h0.1, if_pos rfl, ← hu, ← hb0] at KT
 have g2 : decide ((u : Int) ≤ 1073741824) = true := decide_eq_true (by have := h0.2; omega)
 have HU : Hid (u = (takeV b).2.1 ∧ u ≤ 1073741824) := ⟨hu, by have := h0.2; omega⟩
 obtain ⟨dk, hdk⟩ := (dec_facts b0 ht).2.2
 have h81 : ∀ c ∈ b1, c < 256 := fun c hc => by rw [hb1, hdk] at hc; exact h80 c (List.mem_of_mem_drop hc)
 have hl1 : b1.length ≤ 1000000 := by rw [hb1, hdk, List.length_drop]; omega
 have H81 := Lib.hid h81
 have HL1 := Lib.hid hl1
 have HTT := Lib.hid ht
 have HB1E := Lib.hid hb1
 have h82 : ∀ c ∈ b2, c < 256 := fun c hc => by rw [hb2, (takes_rest 1 b1 hx.1).2.2.1] at hc; exact h81 c (List.mem_of_mem_drop hc)
 have hl2 : b2.length ≤ 1000000 := by rw [hb2, (takes_rest 1 b1 hx.1).2.2.1, List.length_drop]; omega
 have H82 := Lib.hid h82
 have HL2 := Lib.hid hl2
 have HB2E := Lib.hid hb2
 have HXX := Lib.hid hx
 have H80 := Lib.hid h80
 have HL0 := Lib.hid hl0
 have HMM := Lib.hid hm
 have HTB := Lib.hid hT
 have HDF := Lib.hid (dec_facts b2 hm.1)
 clear hm hT
 clear hu h0 h8 hl hA hb0 h80 hl0 ht hb1 h81 hl1 hdk dk hx hb2 h82 hl2
 refine (callsIn_wide (n := 20)).1 ?_
 refine callsIn_of_wp Tryz.func42 rfl trivial ?_ rfl
 simp only [Tryz.ntmps42, List.size_toArray, List.length_cons, List.length_nil, Nat.reduceAdd, Nat.reduceSub, Array.replicate_succ, Array.replicate_zero, List.push_toArray, List.append_toArray, List.nil_append, List.cons_append]
 gi_wp2_with fail
 refine KT.out.mono ?_
 rintro e w1 ⟨A1, n1, c1, rfl, hB, hO⟩
 have hI := PrI.new (W := W) (q := true) (rv := .slice A1 n1 c1) hB
 obtain ⟨w2, hw2⟩ : ∃ w2, w2 = (w1.alloc (.cells #[.slice A1 n1 c1] 23)).alloc (.cells #[.bool true] 4) := ⟨_, rfl⟩
 rw [← hw2] at hI
 obtain ⟨bo, hbo⟩ : ∃ bo, bo = w1.heap.size + 1 := ⟨_, rfl⟩
 obtain ⟨br, hbr⟩ : ∃ br, br = w1.heap.size := ⟨_, rfl⟩
 have hbe : Below w1.heap.size w1 w2 := by rw [hw2]; exact ((Below.refl _ w1).alloc (Nat.le_refl _) _).alloc (by simp) _
 have HB1 : Hid (Below (W.alloc (.cells #[.int .i64 0, .slice none 0 0] 62)).heap.size (W.alloc (.cells #[.int .i64 0, .slice none 0 0] 62)) w1) := hB
 rw [← hbo, ← hbr] at hI
 have HI2 := Lib.hid hI
 have HR2 := Lib.hid hO
 have HBE := Lib.hid hbe
 have HW2 := Lib.hid hw2
 have HBO := Lib.hid hbo
 have HBR := Lib.hid hbr
 clear hB hO hI hw2 hbe hbo hbr KT
 gi_wp2_with fail
 rw [← HW2.out, ← HBO.out, ← HBR.out]
 have hO2 : OwnG EB 5 w2 (W.alloc (.cells #[.int .i64 0, .slice none 0 0] 62)).heap.size (.slice A1 n1 c1) b0 := (HR2.out (by first | rfl | trivial)).below HBE.out
 have KR : Hid (CallsIn Fence.wide 19 Tryz.prog 75 #[.pointer (some ⟨bo, 0, none⟩), .pointer (some ⟨br, 0, none⟩)] w2 _) := callsIn_wide.2 (prow_step HI2.out hO2.rd H80.out (by have := HL0.out; omega))
 clear hO2
 refine KR.out.mono ?_
 rintro e w3 ⟨At, nt, ct, A2, n2, c2, rfl, hI, hK, hB, hO⟩
 rw [decide_eq_true HTT.out] at hI
 have HI3 := Lib.hid hI
 obtain ⟨hOT, hOB⟩ := hO HTT.out
 rw [← HB1E.out] at hOB
 obtain ⟨Tl, hTl⟩ : ∃ Tl, Tl = (decV b0).2.1 := ⟨_, rfl⟩
 rw [← hTl] at hOT
 have HTL := Lib.hid hTl
 have HOT3 := Lib.hid hOT
 have HOB3 := Lib.hid hOB
 have KA : Hid (CallsIn Fence.wide 19 Tryz.prog 77 #[.slice A2 n2 c2, .int .i64 1] w3 _) := callsIn_wide.2 (takeAll_c _ b1 w3 hOB.rd hOB.flatV H81.out (by have := HL1.out; omega))
 have co := hI.ok.cell
 have cr := hI.rest.cell
 clear hI hK hB hO hOT hOB hTl KR
 gi_wp2_with fail
 refine KA.out.mono ?_
 rintro e w4 ⟨Ax, nx, cx, A3, n3, c3, rfl, hB, hO⟩
 have hI4 := HI3.out.on hB
 have hI5 := hI4.setRest (.slice A3 n3 c3)
 have co4 := hI4.ok.cell
 have cr4 := hI4.rest.cell
 have fr4 := hI4.rest.frozen
 have co5 := hI5.ok.cell
 have fo5 := hI5.ok.frozen
 have HI5 := Lib.hid hI5
 have HB34 := Lib.hid hB
 have HK45 : Hid (KeepN w4 (w4.setCell ⟨br, 0, none⟩ (.slice A3 n3 c3))) := KeepN.set hI4.rest (by decide) (by decide) _
 obtain ⟨hOX, hOB⟩ := hO HXX.out.1
 rw [← HB2E.out] at hOB
 have hlx := (takes_rest 1 b1 HXX.out.1).2.2.2.1
 obtain ⟨Xl, hXl⟩ : ∃ Xl, Xl = (takesV 1 b1).2.1 := ⟨_, rfl⟩
 obtain ⟨x0, hx0⟩ : ∃ x0, x0 = (takesV 1 b1).2.1.getD 0 0 := ⟨_, rfl⟩
 rw [← hXl] at hOX hlx hx0
 obtain ⟨gx, rfl, rfl, _⟩ := hOX.some_ (by intro e; rw [e] at hlx; simp at hlx)
 have hOX5 := HK45.out.1 _ _ _ hOX
 have hcx := hOX5.atI rfl (by rw [hlx]; omega : 0 < Xl.length)
 rw [← hx0] at hcx
 have hlx0 : (0 : Int) < (Xl.length : Int) := by rw [hlx]; decide
 rw [HXX.out.1]
 have hxx := HXX.out.2
 rw [← hXl, ← hx0] at hxx
 have d1 : decide (-1000 ≤ x0) = true := decide_eq_true (by omega)
 have d2 : decide (x0 ≤ 1000) = true := decide_eq_true (by omega)
 have hI6 := hI5.setOk true
 obtain ⟨w6, hw6⟩ : ∃ w6, w6 = (w4.setCell ⟨br, 0, none⟩ (.slice A3 n3 c3)).setCell ⟨bo, 0, none⟩ (.bool true) := ⟨_, rfl⟩
 rw [← hw6] at hI6
 have hK46 : KeepN w4 w6 := by rw [hw6]; exact HK45.out.trans (KeepN.set hI5.ok (by decide) (by decide) _)
 have HI6 := Lib.hid hI6
 have HOB6 := Lib.hid (hK46.2 _ _ _ hOB)
 have HOX6 := Lib.hid (hK46.1 _ _ _ hOX)
 have HOT6 := Lib.hid (hK46.1 _ _ _ (HOT3.out.below HB34.out))
 have HX0 : Hid (x0 = Xl.getD 0 0 ∧ Xl.length = 1) := ⟨hx0, hlx⟩
 have HXB : Hid (-1000 ≤ x0 ∧ x0 ≤ 1000 ∧ x0 = (takesV 1 b1).2.1.getD 0 0) := ⟨by omega, by omega, by rw [hx0, hXl]⟩
 have HW6 := Lib.hid hw6
 have KR2 : Hid (CallsIn Fence.wide 19 Tryz.prog 75 #[.pointer (some ⟨bo, 0, none⟩), .pointer (some ⟨br, 0, none⟩)] w6 _) := callsIn_wide.2 (prow_step hI6 HOB6.out.rd H82.out (by have := HL2.out; omega))
 clear hB hO hI4 hI5 hI6 KA co cr hOX hOB hOX5 hXl hx0 hxx hw6 hK46
 gi_wp2_with fail
 rw [← HW6.out]
 refine KR2.out.mono ?_
 rintro e w7 ⟨Am, nm, cm, A7, n7, c7, rfl, hI, hK, hB, hO⟩
 rw [decide_eq_true HMM.out.1] at hI
 have HI7 := Lib.hid hI
 obtain ⟨hOM, _⟩ := hO HMM.out.1
 obtain ⟨Ml, hMl⟩ : ∃ Ml, Ml = (decV b2).2.1 := ⟨_, rfl⟩
 rw [← hMl] at hOM
 have hdf := HDF.out
 rw [← hMl] at hdf
 have e1 := hOM.len
 have e2 := HOT6.out.len
 have hml : Ml.length = Tl.length := by rw [hMl, HTL.out]; exact HMM.out.2
 obtain rfl : nm = nt := by rw [e1, e2]; exact hml
 have HOT7 := Lib.hid (hK.1 _ _ _ HOT6.out)
 have hOX7 := hK.1 _ _ _ HOX6.out
 have hcx7 := hOX7.atI rfl (by rw [HX0.out.2]; omega : 0 < Xl.length)
 rw [← HX0.out.1] at hcx7
 have HML : Hid (Ml.length = nm ∧ Tl.length = nm ∧ nm ≤ 4096) := ⟨e1.symm, e2.symm, by rw [e1]; exact hdf.2.1⟩
 have HME := Lib.hid hMl
 have hT7 : TabT w7 := fun i hi => (hI.below.cell (lt_of_cell (HTB.out i hi))).trans (HTB.out i hi)
 have KU : Hid (CallsIn Fence.wide 19 Tryz.prog 78 #[.slice Am nm cm, .int .i64 x0] w7 _) := callsIn_wide.2 (unpack_c _ Ml x0 w7 hT7 hOM.rd hdf.1 (by have := hdf.2.1; omega))
 have co := hI.ok.cell
 clear hI hK hB hO KR2 hcx co4 cr4 fr4 co5 fo5 hOM hMl hdf e1 e2 hml hOX7 hT7
 gi_wp2_with fail
 refine KU.out.mono ?_
 rintro e w8 ⟨Av, nv, cv, er, rfl, hB, hs, hn⟩
 have hI8 := HI7.out.on hB
 have HI8 := Lib.hid hI8
 have HOT8 := Lib.hid (HOT7.out.below hB)
 have hall := HALL.out
 rw [← HXB.out.2.2, ← HTL.out, ← HME.out, ← HU.out.1] at hall
 cases hu : unpackV Ml x0 with
 | none =>
   obtain rfl := hn hu
   have HNONE : Hid (parseB b = none) := by rw [hu] at hall; exact hall
   clear hB hs hn hI8 hall hu KU hcx7 co
   have co := HI8.out.ok.cell
   have cr := HI8.out.cells
   obtain ⟨cr0, cr1, cf0, cf1⟩ := cr
   gi_wp2_with fail
   refine bodyPost_ret (v := .tuple #[.agg #[.int .i64 0, .slice none 0 0], .bool false]) ?_ rfl ⟨HI8.out.end_ _ _, .inl ⟨HNONE.out, rfl⟩⟩
   unfold results
   rw [hr]
   go_simp
 | some Vl =>
   obtain ⟨rfl, hOV⟩ := hs Vl hu
   rw [hu] at hall
   have HALL2 : Hid (parseB b = some (((u : Nat) : Int), Tl.zip Vl)) := hall
   have e1 := hOV.len
   have hvl := unpackV_len hu
   obtain rfl : nv = nm := by rw [e1, hvl]; exact HML.out.1
   have HVL : Hid (Vl.length = nv) := e1.symm
   have HOV8 := Lib.hid (hOV.lower HI7.out.below.size)
   have hnm : nv ≤ 4096 := HML.out.2.2
   have huw : IntKind.i64.wrap (u : Int) = (u : Int) := IntWalk.i64_in _ (by have := HU.out.2; omega)
   obtain ⟨Pb, hPb⟩ : ∃ Pb, Pb = w8.heap.size := ⟨_, rfl⟩
   obtain ⟨w9, hw9⟩ : ∃ w9, w9 = w8.alloc (.cells #[.int .i64 (u : Int), .slice none 0 0] 62) := ⟨_, rfl⟩
   have hbe : Below w8.heap.size w8 w9 := by rw [hw9]; exact (Below.refl _ _).alloc (Nat.le_refl _) _
   have hph : w9.heap[Pb]? = some (.cells #[.int .i64 (u : Int), .slice none 0 0] 62 (0, 0)) := by rw [hw9, hPb]; exact heap_alloc_new w8 _
   have hI9 := hI8.on hbe
   have HPW : Hid (W.heap.size < Pb) := by
    have h1 := (Array.getElem?_eq_some_iff.1 hI8.out).1
    show _ < _
    omega
   have HPH := Lib.hid hph
   have HB9 := Lib.hid hI9.below
   have HRC := Lib.hid hI9.out
   have HOT9 := Lib.hid (HOT8.out.below hbe)
   have HOV9 := Lib.hid (HOV8.out.below hbe)
   have HW9 := Lib.hid hw9
   have HPB := Lib.hid hPb
   clear hB hs hn hI8 hall hu KU hcx7 co e1 hvl hOV hw9 hbe hPb hph hI9
   gi_wp2_with fail
   rw [← HW9.out, ← HPB.out]
   gi_loopw [14, 79] (fun _ iv wl => ∃ (i : Nat) (As : Option Addr) (cs : Nat), i ≤ nv ∧ iv = .int .i64 (i : Int) ∧ Hid (wl.heap[Pb]? = some (.cells #[.int .i64 (u : Int), .slice As i cs] 62 (0, 0))) ∧ Hid (OwnG ES 66 wl W.heap.size (.slice As i cs) ((Tl.zip Vl).take i)) ∧ Hid (OwnG EI 2 wl W.heap.size (.slice At nv ct) Tl) ∧ Hid (OwnG EV 64 wl W.heap.size (.slice Av nv cv) Vl) ∧ Hid (wl.heap[W.heap.size]? = some (.cells #[.int .i64 0, .slice none 0 0] 62 (0, 0))) ∧ Hid (Below W.heap.size W wl))
    (fun _ iv _ => nv - (intOf iv).toNat)
   case atStart => exact ⟨0, none, 0, Nat.zero_le _, rfl, HPH.out, OwnG.nil _ _, HOT9.out, HOV9.out, HRC.out, HB9.out⟩
   case round =>
    obtain ⟨i, As, cs, hi, rfl, HPi, HOi, HTi, HVi, HRi, HBi⟩ := hrel
    by_cases hlt : i < nv
    ·have hit : i < Tl.length := by rw [HML.out.2.1]; exact hlt
     have hiv : i < Vl.length := by rw [HVL.out]; exact hlt
     obtain ⟨gt, rfl, -, -⟩ := HTi.out.some_ (by intro e; rw [e] at hit; simp at hit)
     obtain ⟨gv, rfl, -, -⟩ := HVi.out.some_ (by intro e; rw [e] at hiv; simp at hiv)
     obtain ⟨xt, hxt⟩ : ∃ xt, xt = Tl[i] := ⟨_, rfl⟩
     obtain ⟨xv, hxv⟩ : ∃ xv, xv = Vl[i] := ⟨_, rfl⟩
     have k0 : wr.cell? ⟨gt, i, none⟩ = some (.int .i64 xt) := by
      have h := HTi.out.atI HML.out.2.1.symm hlt
      rw [List.getD_eq_getElem?_getD, List.getElem?_eq_getElem hit] at h
      rw [hxt]; exact h
     have hcv := HVi.out.cellAt i hiv
     rw [← hxv] at hcv
     obtain ⟨va, vb, vc⟩ := xv
     have k1 : wr.cell? ⟨gv, i * 3, none⟩ = some (.int .i64 va) := hcv 0 (by decide)
     have k2 : wr.cell? ⟨gv, i * 3 + 1, none⟩ = some (.int .i64 vb) := hcv 1 (by decide)
     have k3 : wr.cell? ⟨gv, i * 3 + 2, none⟩ = some (.int .i64 vc) := hcv 2 (by decide)
     have HZ : Hid ((Tl.zip Vl).take (i + 1) = (Tl.zip Vl).take i ++ [(xt, va, vb, vc)]) := by
      have hz : i < (Tl.zip Vl).length := by rw [List.length_zip]; omega
      show _ = _
      rw [List.take_succ_eq_append_getElem hz, List.getElem_zip, ← hxt, ← hxv]
     have hzl : ((Tl.zip Vl).take i).length = i := by rw [List.length_take, List.length_zip]; omega
     have p1 : wr.cell? ⟨Pb, 1, none⟩ = some (.slice As i cs) := by have h := HPi.out; simp [World.cell?, h]
     have hpl : Pb < wr.heap.size := (Array.getElem?_eq_some_iff.1 HPi.out).1
     have hgt : gt < wr.heap.size := lt_of_cell k0
     have hgv : gv < wr.heap.size := lt_of_cell k1
     have hWr : W.heap.size < wr.heap.size := (Array.getElem?_eq_some_iff.1 HRi.out).1
     have HK := Lib.hid (And.intro k0 (And.intro k1 (And.intro k2 k3)))
     have HLT := Lib.hid (And.intro hpl (And.intro hgt (And.intro hgv hWr)))
     obtain ⟨wt, hwt⟩ : ∃ wt, wt = (wr.alloc (.cells #[.int .i64 xt, .int .i64 va, .int .i64 vb, .int .i64 vc] 66)).drew := ⟨_, rfl⟩
     have hbt : Below wr.heap.size wr wt := by rw [hwt]; exact ((Below.refl _ wr).alloc (Nat.le_refl _) _).trans ((((Ext.refl (wr.alloc (.cells #[.int .i64 xt, .int .i64 va, .int .i64 vb, .int .i64 vc] 66))).drewN _).below).mono (by simp))
     have hzt : wt.heap.size = wr.heap.size + 1 := by rw [hwt]; simp
     have hRx : RdG ES wt wt.heap.size (.slice (some ⟨wr.heap.size, 0, none⟩) 1 1) [(xt, va, vb, vc)] := by
      rw [hwt]; exact (RdG.one1 (E := ES) wr 66 rfl).on (((Ext.refl (wr.alloc (.cells #[.int .i64 xt, .int .i64 va, .int .i64 vb, .int .i64 vc] 66))).drewN _).below)
     have p1t : wt.cell? ⟨Pb, 1, none⟩ = some (.slice As i cs) := (hbt.cell hpl).trans p1
     have hO1 := HOi.out.below hbt
     have HO1 := Lib.hid hO1
     have HRX := Lib.hid hRx
     have HBT := Lib.hid hbt
     have HWT := Lib.hid hwt
     have HZT := Lib.hid hzt
     have hll : (((Tl.zip Vl).take i).length + [(xt, va, vb, vc)].length) * 32 ≤ 140737488355328 := by rw [hzl]; simp; omega
     have HLL := Lib.hid hll
     have i1 : (i : Int) < (nv : Int) := by omega
     have hS0 : (World.drew wr).heap[gt]? = wr.heap[gt]? ∧ (World.drew wr).heap[gv]? = wr.heap[gv]? := ⟨rfl, rfl⟩
     have HST : Hid (wt.heap[gt]? = wr.heap[gt]? ∧ wt.heap[gv]? = wr.heap[gv]?) := ⟨hbt.block _ hgt, hbt.block _ hgv⟩
     clear hcv hxt hxv hit hiv hzl hwt hbt hzt hRx hO1 hll hpl hgt hgv hWr
     gi_wp2_with fail
     refine wpIn_calm ?_
     refine wpIn_region_any (by kernel_rfl) ?_
     change wpAnyIn _ _ _ _ _ _ _ _ _ (World.drew _)
     refine heldIn_sound (S := fun w' => w'.heap[gt]? = wr.heap[gt]? ∧ w'.heap[gv]? = wr.heap[gv]?) _ _ _ _ ?_
     refine heldIn_take (i := 0) (v := ?_) (by kernel_rfl) rfl (by kernel_rfl) (by kernel_rfl) (by kernel_rfl) (fun _ _ _ h => calm_panic h) ⟨Or.inl ⟨by rfl, ?_⟩, fun _ => rfl⟩ hS0 ?_
     rotate_left
     · intro w' _
       (go_simp <;> with_reducible rfl)
     refine heldIn_take (i := 2) (v := ?_) (by kernel_rfl) rfl (by kernel_rfl) (by kernel_rfl) (by kernel_rfl) (fun _ _ _ h => calm_panic h) ⟨Or.inl ⟨by rfl, ?_⟩, fun _ => rfl⟩ hS0 ?_
     rotate_left
     · intro w' _
       (go_simp <;> with_reducible rfl)
     refine heldIn_take (i := 3) (v := ?_) (by kernel_rfl) rfl (by kernel_rfl) (by kernel_rfl) (by kernel_rfl) (fun _ _ _ h => calm_panic h) ⟨Or.inl ⟨by rfl, ?_⟩, fun _ => rfl⟩ hS0 ?_
     rotate_left
     · intro w' _
       (go_simp <;> with_reducible rfl)
     refine heldIn_take (i := 4) (v := ?_) (by kernel_rfl) rfl (by kernel_rfl) (by kernel_rfl) (by kernel_rfl) (fun _ _ _ h => calm_panic h) ⟨Or.inl ⟨by rfl, ?_⟩, fun _ => rfl⟩ hS0 ?_
     rotate_left
     · intro w' _
       (go_simp <;> with_reducible rfl)
     refine heldIn_take (i := 5) (v := ?_) (by kernel_rfl) rfl (by kernel_rfl) (by kernel_rfl) (by kernel_rfl) (fun _ _ _ h => calm_panic h) ⟨Or.inl ⟨by rfl, ?_⟩, fun _ => rfl⟩ hS0 ?_
     rotate_left
     · intro w' hS
       have c0 := (cell_heap hS.1 i).trans HK.out.1
       (go_simp <;> with_reducible rfl)
     refine heldIn_take (i := 6) (v := ?_) (by kernel_rfl) rfl (by kernel_rfl) (by kernel_rfl) (by kernel_rfl) (fun _ _ _ h => calm_panic h) ⟨Or.inl ⟨by rfl, ?_⟩, fun _ => rfl⟩ hS0 ?_
     rotate_left
     · intro w' _
       (go_simp <;> with_reducible rfl)
     refine heldIn_take (i := 7) (v := ?_) (by kernel_rfl) rfl (by kernel_rfl) (by kernel_rfl) (by kernel_rfl) (fun _ _ _ h => calm_panic h) ⟨Or.inl ⟨by rfl, ?_⟩, fun _ => rfl⟩ hS0 ?_
     rotate_left
     · intro w' _
       (go_simp <;> with_reducible rfl)
     refine heldIn_take (i := 8) (v := ?_) (by kernel_rfl) rfl (by kernel_rfl) (by kernel_rfl) (by kernel_rfl) (fun _ _ _ h => calm_panic h) ⟨Or.inl ⟨by rfl, ?_⟩, fun _ => rfl⟩ hS0 ?_
     rotate_left
     · intro w' _
       (go_simp <;> with_reducible rfl)
     refine heldIn_take (i := 9) (v := ?_) (by kernel_rfl) rfl (by kernel_rfl) (by kernel_rfl) (by kernel_rfl) (fun _ _ _ h => calm_panic h) ⟨Or.inl ⟨by rfl, ?_⟩, fun _ => rfl⟩ hS0 ?_
     rotate_left
     · intro w' hS
       have c0 := (cell_heap hS.2 _).trans HK.out.2.1
       have c1 := (cell_heap hS.2 _).trans HK.out.2.2.1
       have c2 := (cell_heap hS.2 _).trans HK.out.2.2.2
       (go_simp <;> with_reducible rfl)
     refine heldIn_take (i := 10) (v := ?_) (by kernel_rfl) rfl (by kernel_rfl) (by kernel_rfl) (by kernel_rfl) (fun _ _ _ h => calm_panic h) ⟨Or.inl ⟨by rfl, ?_⟩, fun _ => rfl⟩ hS0 ?_
     rotate_left
     · intro w' _
       (go_simp <;> with_reducible rfl)
     refine heldIn_two (i := 1) (j := 11) (by kernel_rfl) rfl rfl (fun K hK => ?_) (fun K hK => ?_)
     focus
      go_simp
      refine hK _ _ hS0 ?_
      clear hK K
      refine heldIn_one (i := 11) (by kernel_rfl) rfl (fun K hK => ?_)
     all_goals
      go_simp
      rw [← HWT.out]
      refine hK _ _ HST.out ?_
      clear hK K
     rotate_left
     focus
      refine heldIn_one (i := 1) (by kernel_rfl) rfl (fun K hK => ?_)
      go_simp
      refine hK _ _ HST.out ?_
      clear hK K
     all_goals
      refine heldIn_one (i := 12) (by kernel_rfl) rfl (fun K hK => ?_)
      refine step_appNGI rfl ES rfl _ _ 60 66 rfl Tryz.underlying60 info_S rfl (by decide) W.heap.size _ ((Tl.zip Vl).take i) _ [(xt, va, vb, vc)] wt.heap.size rfl HO1.out rfl HRX.out (by simp) HLL.out (Nat.le_trans (Nat.le_of_lt HLT.out.2.2.2) HBT.out.size) ?_
      intro v2 w2 hown hg hloc
      rw [← HZ.out] at hown
      obtain ⟨A2', n2', c2', e2⟩ := hown.sl
      subst e2
      have e3 := hown.len
      rw [List.length_take, List.length_zip, HML.out.2.1, HVL.out] at e3
      have e3 : n2' = i + 1 := by omega
      subst e3
      have hT2 := ((HTi.out.below HBT.out).kept hg ((HTi.out.below HBT.out).other HO1.out (by decide)))
      have hV2 := ((HVi.out.below HBT.out).kept hg ((HVi.out.below HBT.out).other HO1.out (by decide)))
      have hbk : ∀ k, k < wr.heap.size → (∀ t c z, wr.heap[k]? = some (.cells c t z) → t ≠ 66) → w2.heap[k]? = wr.heap[k]? := fun k hk ht => (hg.block k (Nat.lt_of_lt_of_le hk HBT.out.size) (fun e => by
       obtain ⟨_, c, z, h3⟩ := HO1.out.cellsAt k e.symm
       rw [HBT.out.block k hk] at h3
       exact ht _ _ _ h3 rfl)).trans (HBT.out.block k hk)
      have hP2 : w2.heap[Pb]? = some (.cells #[.int .i64 (u : Int), .slice As i cs] 62 (0, 0)) := (hbk Pb HLT.out.1 (fun t c z h => by rw [HPi.out] at h; cases h; decide)).trans HPi.out
      have hR2 : w2.heap[W.heap.size]? = _ := (hbk W.heap.size HLT.out.2.2.2 (fun t c z h => by rw [HRi.out] at h; cases h; decide)).trans HRi.out
      obtain ⟨_, ct', zt', ht3⟩ := HTi.out.cellsAt gt rfl
      obtain ⟨_, cv', zv', hv3⟩ := HVi.out.cellsAt gv rfl
      have HS2 : Hid (w2.heap[gt]? = wr.heap[gt]? ∧ w2.heap[gv]? = wr.heap[gv]?) := ⟨hbk gt HLT.out.2.1 (fun t c z h => by rw [ht3] at h; cases h; decide), hbk gv HLT.out.2.2.1 (fun t c z h => by rw [hv3] at h; cases h; decide)⟩
      have hB2 : Below W.heap.size W w2 := (HBi.out.trans (HBT.out.mono HBi.out.size)).grown hg (by have := HLT.out.2.2.2; have := HBT.out.size; omega) (fun k e => (HO1.out.blk e).1)
      have q1 : w2.cell? ⟨Pb, 1, none⟩ = some (.slice As i cs) := by simp [World.cell?, hP2]
      have q2 : w2.frozen? ⟨Pb, 1, none⟩ = false := by simp [World.frozen?, hP2]
      have hgs := grownBy_set w2 Pb 1 (.slice A2' (i + 1) c2')
      have HP3 := Lib.hid (set_two hP2 (.slice A2' (i + 1) c2'))
      have HO3 : Hid (OwnG ES 66 (w2.setCell ⟨Pb, 1, none⟩ (.slice A2' (i + 1) c2')) W.heap.size (.slice A2' (i + 1) c2') ((Tl.zip Vl).take (i + 1))) := hown.kept hgs (.inr (blk_not_row hP2 hown (by decide)).symm)
      have HT3 : Hid (OwnG EI 2 (w2.setCell ⟨Pb, 1, none⟩ (.slice A2' (i + 1) c2')) W.heap.size (.slice (some ⟨gt, 0, none⟩) nv ct) Tl) := hT2.kept hgs (.inr (blk_not_row hP2 hT2 (by decide)).symm)
      have HV3 : Hid (OwnG EV 64 (w2.setCell ⟨Pb, 1, none⟩ (.slice A2' (i + 1) c2')) W.heap.size (.slice (some ⟨gv, 0, none⟩) nv cv) Vl) := hV2.kept hgs (.inr (blk_not_row hP2 hV2 (by decide)).symm)
      have hne : W.heap.size ≠ Pb := Nat.ne_of_lt HPW.out
      have HR3 : Hid ((w2.setCell ⟨Pb, 1, none⟩ (.slice A2' (i + 1) c2')).heap[W.heap.size]? = some (.cells #[.int .i64 0, .slice none 0 0] 62 (0, 0))) := (Below.heap_setCell _ _ _ _ hne).trans hR2
      have HB3 : Hid (Below W.heap.size W (w2.setCell ⟨Pb, 1, none⟩ (.slice A2' (i + 1) c2'))) := hB2.setCell (Nat.le_of_lt HPW.out) _
      have hne1 : gt ≠ Pb := fun e => by
       have h := HPi.out
       rw [← e, ht3] at h
       cases h
      have hne2 : gv ≠ Pb := fun e => by
       have h := HPi.out
       rw [← e, hv3] at h
       cases h
      have HS3 : Hid ((w2.setCell ⟨Pb, 1, none⟩ (.slice A2' (i + 1) c2')).heap[gt]? = wr.heap[gt]? ∧ (w2.setCell ⟨Pb, 1, none⟩ (.slice A2' (i + 1) c2')).heap[gv]? = wr.heap[gv]?) := ⟨(Below.heap_setCell _ _ _ _ hne1).trans HS2.out.1, (Below.heap_setCell _ _ _ _ hne2).trans HS2.out.2⟩
      refine hK _ _ HS2.out ?_
      clear hK K hown hg hloc e3 hT2 hV2 hbk hP2 hR2 ht3 hv3 hB2 hgs hne hne1 hne2 k0 k1 k2 k3 p1 p1t
      refine heldIn_take (i := 13) (v := ?_) (by kernel_rfl) rfl (by kernel_rfl) (by kernel_rfl) (by kernel_rfl) (fun _ _ _ h => calm_panic h) ⟨Or.inl ⟨by rfl, ?_⟩, fun _ => rfl⟩ HS2.out ?_
      rotate_left
      · intro w' _
        (go_simp <;> with_reducible rfl)
      refine heldIn_one (i := 14) (by kernel_rfl) rfl (fun K hK => ?_)
      go_simp
      refine hK _ _ HS3.out ?_
      clear hK K
      refine heldIn_done (by kernel_rfl) ⟨rfl, ?_⟩ _
      gi_wp2_with fail
      go_roundw
      case rel => exact ⟨i + 1, A2', c2', by omega, by go_num, HP3.out, HO3.out, HT3.out, HV3.out, HR3.out, HB3.out⟩
      case measure => simp [intOf]; omega
    ·have hin : i = nv := by omega
     subst hin
     have i1 : ¬ (i : Int) < (i : Int) := by omega
     have p0 : wr.cell? ⟨Pb, 0, none⟩ = some (.int .i64 (u : Int)) := by have h := HPi.out; simp [World.cell?, h]
     have p1 : wr.cell? ⟨Pb, 1, none⟩ = some (.slice As i cs) := by have h := HPi.out; simp [World.cell?, h]
     have r0 : wr.cell? ⟨W.heap.size, 0, none⟩ = some (.int .i64 0) := by have h := HRi.out; simp [World.cell?, h]
     have r1 : wr.cell? ⟨W.heap.size, 1, none⟩ = some (.slice none 0 0) := by have h := HRi.out; simp [World.cell?, h]
     have f0 : wr.frozen? ⟨W.heap.size, 0, none⟩ = false := by have h := HRi.out; simp [World.frozen?, h]
     have f1 : wr.frozen? ⟨W.heap.size, 1, none⟩ = false := by have h := HRi.out; simp [World.frozen?, h]
     have hB2 : Below W.heap.size W ((wr.setCell ⟨W.heap.size, 0, none⟩ (.int .i64 (u : Int))).setCell ⟨W.heap.size, 1, none⟩ (.slice As i cs)) := (HBi.out.setCell (Nat.le_refl _) _).setCell (Nat.le_refl _) _
     have hO2 : OwnG ES 66 ((wr.setCell ⟨W.heap.size, 0, none⟩ (.int .i64 (u : Int))).setCell ⟨W.heap.size, 1, none⟩ (.slice As i cs)) W.heap.size (.slice As i cs) (Tl.zip Vl) := by
      have h1 := HOi.out
      rw [List.take_of_length_le (by rw [List.length_zip, HML.out.2.1, HVL.out]; omega)] at h1
      have h2 := h1.kept (grownBy_set wr W.heap.size 0 (.int .i64 (u : Int))) (.inr (blk_not_row HRi.out h1 (by decide)).symm)
      exact h2.kept (grownBy_set _ W.heap.size 1 (.slice As i cs)) (.inr (blk_not_row HRi.out h1 (by decide)).symm)
     have HB2 := Lib.hid hB2
     have HO2 := Lib.hid hO2
     clear hB2 hO2
     gi_wp2_with fail
     refine bodyPost_ret (v := .tuple #[.agg #[.int .i64 (u : Int), .slice As i cs], .bool true]) ?_ rfl ⟨HB2.out, .inr ⟨((u : Int), Tl.zip Vl), As, i, cs, HALL2.out, rfl, own_ES HO2.out⟩⟩
     unfold results
     rw [hr]
     go_simp

/-- datapart.parse. -/
theorem parse_walk (v : Value) (b : List Nat) (W : World) (hT : TabT W) (hR : RdG EB W W.heap.size v b) (h8 : ∀ c ∈ b, c < 256) (hl : b.length ≤ 1000000) :
  Calls Tryz.prog 42 #[v] W (ParR W b) := by
 by_cases h0 : (takeV b).1 = 0 ∧ (takeV b).2.1 ≤ 1073741824
 ·obtain ⟨b0, hb0⟩ : ∃ b0, b0 = b.drop (takeV b).2.2 := ⟨_, rfl⟩
  by_cases ht : (decV b0).1 = 0
  ·obtain ⟨b1, hb1⟩ : ∃ b1, b1 = (decV b0).2.2 := ⟨_, rfl⟩
   by_cases hx0 : (takesV 1 b1).1 = 0
   ·by_cases hx1 : -1000 ≤ (takesV 1 b1).2.1.getD 0 0
    ·by_cases hx2 : (takesV 1 b1).2.1.getD 0 0 ≤ 1000
     ·obtain ⟨b2, hb2⟩ : ∃ b2, b2 = (takesV 1 b1).2.2 := ⟨_, rfl⟩
      by_cases hm0 : (decV b2).1 = 0
      ·by_cases hm1 : (decV b2).2.1.length = (decV b0).2.1.length
       ·exact parse_end v b W hT hR h8 hl h0 b0 hb0 ht b1 hb1 ⟨hx0, hx1, hx2⟩ b2 hb2 ⟨hm0, hm1⟩
       ·exact parse_m1 v b W hR h8 hl h0 b0 hb0 ht b1 hb1 ⟨hx0, hx1, hx2⟩ b2 hb2 ⟨hm0, hm1⟩
      ·exact parse_m0 v b W hR h8 hl h0 b0 hb0 ht b1 hb1 ⟨hx0, hx1, hx2⟩ b2 hb2 hm0
     ·exact parse_x2 v b W hR h8 hl h0 b0 hb0 ht b1 hb1 ⟨hx0, hx1, hx2⟩
    ·exact parse_x1 v b W hR h8 hl h0 b0 hb0 ht b1 hb1 ⟨hx0, hx1⟩
   ·exact parse_x0 v b W hR h8 hl h0 b0 hb0 ht b1 hb1 hx0
  ·exact parse_t v b W hR h8 hl h0 b0 hb0 ht
 ·exact parse_no v b W hR h8 hl h0
end Go.Proofs.YtnkelahimiipjaaGreatDoor

/-
 What is known of a file's points as they are read.
-/
namespace Go.Proofs.YtnkelahimiipjaaGreatDoor
theorem next_facts {b : List Nat} (h : (nextV b).1 = 0) : (nextV b).2.2.2.length + 5 ≤ b.length ∧ (nextV b).2.2.1.length ≤ 65535 ∧ (∀ c ∈ (nextV b).2.2.1, c ∈ b) ∧ ∀ c ∈ (nextV b).2.2.2, c ∈ b := by
 by_cases h0 : b.length = 0
 ·unfold nextV at h; rw [if_pos h0] at h; cases h
 by_cases h1 : (takeV (b.drop 1)).1 = 0
 ·by_cases h2 : 65535 < (takeV (b.drop 1)).2.1
  ·unfold nextV at h; rw [if_neg h0, if_neg (fun e => e h1), if_pos h2] at h; cases h
  by_cases h3 : ((b.drop 1).drop (takeV (b.drop 1)).2.2).length < (takeV (b.drop 1)).2.1 + 4
  ·unfold nextV at h; rw [if_neg h0, if_neg (fun e => e h1), if_neg h2, if_pos h3] at h; cases h
  by_cases h4 : sealV (b.take (1 + (takeV (b.drop 1)).2.2 + (takeV (b.drop 1)).2.1)) = b.take (1 + (takeV (b.drop 1)).2.2 + (takeV (b.drop 1)).2.1 + 4)
  ·have e : nextV b = (0, b.getD 0 0, ((b.drop 1).drop (takeV (b.drop 1)).2.2).take (takeV (b.drop 1)).2.1, ((b.drop 1).drop (takeV (b.drop 1)).2.2).drop ((takeV (b.drop 1)).2.1 + 4)) := by
    unfold nextV
    rw [if_neg h0, if_neg (fun e => e h1), if_neg h2, if_neg h3, if_pos h4]
   rw [e]
   refine ⟨?_, ?_, fun c hc => List.mem_of_mem_drop (List.mem_of_mem_drop (List.mem_of_mem_take hc)), fun c hc => List.mem_of_mem_drop (List.mem_of_mem_drop (List.mem_of_mem_drop hc))⟩
   ·show (List.drop _ _).length + 5 ≤ _
    rw [List.length_drop, List.length_drop, List.length_drop]
    rw [List.length_drop, List.length_drop] at h3
    omega
   ·show (List.take _ _).length ≤ _
    rw [List.length_take]; omega
  ·unfold nextV at h; rw [if_neg h0, if_neg (fun e => e h1), if_neg h2, if_neg h3, if_neg h4] at h; cases h
 ·unfold nextV at h; rw [if_neg h0, if_pos h1] at h; exact absurd h h1
theorem par_facts {b : List Nat} {p : Pts} (h : parseB b = some p) : 0 ≤ p.1 ∧ p.1 ≤ 1073741824 ∧ p.2.length ≤ 4096 := by
 by_cases h0 : (takeV b).1 = 0 ∧ (takeV b).2.1 ≤ 1073741824
 ·by_cases ht : (decV (b.drop (takeV b).2.2)).1 = 0
  ·have hl := (dec_facts _ ht).2.1
   by_cases hx : (takesV 1 (decV (b.drop (takeV b).2.2)).2.2).1 = 0 ∧ -1000 ≤ (takesV 1 (decV (b.drop (takeV b).2.2)).2.2).2.1.getD 0 0 ∧ (takesV 1 (decV (b.drop (takeV b).2.2)).2.2).2.1.getD 0 0 ≤ 1000
   ·by_cases hm : (decV (takesV 1 (decV (b.drop (takeV b).2.2)).2.2).2.2).1 = 0 ∧ (decV (takesV 1 (decV (b.drop (takeV b).2.2)).2.2).2.2).2.1.length = (decV (b.drop (takeV b).2.2)).2.1.length
    ·rw [par_all h0 ht hx rfl hm rfl rfl] at h
     revert h
     generalize unpackV _ _ = r
     intro h
     cases r with
     | none => cases h
     | some v =>
       cases h
       refine ⟨by show (0 : Int) ≤ ((takeV b).2.1 : Nat); omega, by show (((takeV b).2.1 : Nat) : Int) ≤ _; omega, ?_⟩
       show (List.zip _ _).length ≤ _
       rw [List.length_zip]; omega
    ·rw [par_mant rfl hm] at h; cases h
   ·rw [par_exp rfl hx] at h; cases h
  ·rw [par_tick ht] at h; cases h
 ·rw [par_take h0] at h; cases h
theorem open_err {f : Nat} {b : List Nat} (h : (nextV b).1 ≠ 0) : openL f b = none := by
 cases f with
 | zero => rfl
 | succ f => rw [openL, if_pos h]
theorem open_end {f : Nat} {b : List Nat} (h : (nextV b).1 = 0) (h2 : (nextV b).2.1 ≠ 3) : openL (f + 1) b = some [] := by
 rw [openL, if_neg (fun e => e h), if_pos h2]
theorem open_bad {f : Nat} {b : List Nat} (h : (nextV b).1 = 0) (h2 : (nextV b).2.1 = 3) (h3 : parseB (nextV b).2.2.1 = none) : openL (f + 1) b = none := by
 rw [openL, if_neg (fun e => e h), if_neg (fun e => e h2), h3]
theorem open_more1 {f : Nat} {b : List Nat} {p : Pts} (h : (nextV b).1 = 0) (h2 : (nextV b).2.1 = 3) (h3 : parseB (nextV b).2.2.1 = some p) : openL (f + 1) b = (openL f (nextV b).2.2.2).map (fun l => p :: l) := by
 rw [openL, if_neg (fun e => e h), if_neg (fun e => e h2), h3]
 simp only
 cases openL f (nextV b).2.2.2 <;> rfl
theorem openL_facts : ∀ (f : Nat) (b : List Nat) (l : List Pts), openL f b = some l → l.length ≤ b.length ∧ ∀ p ∈ l, 0 ≤ p.1 ∧ p.1 ≤ 1073741824 ∧ p.2.length ≤ 4096
 | 0, _, _, h => by cases h
 | f + 1, b, l, h => by
   by_cases h1 : (nextV b).1 = 0
   ·by_cases h2 : (nextV b).2.1 = 3
    ·cases h3 : parseB (nextV b).2.2.1 with
     | none => rw [open_bad h1 h2 h3] at h; cases h
     | some p =>
       rw [open_more1 h1 h2 h3] at h
       obtain ⟨l', hl, rfl⟩ := Option.map_eq_some_iff.1 h
       obtain ⟨k1, k2⟩ := openL_facts f _ l' hl
       have k3 := (next_facts h1).1
       refine ⟨by rw [List.length_cons]; omega, fun q hq => ?_⟩
       rcases List.mem_cons.1 hq with rfl | hq
       ·exact par_facts h3
       ·exact k2 q hq
    ·rw [open_end h1 h2] at h
     cases h
     exact ⟨Nat.zero_le _, fun p hp => by cases hp⟩
   ·rw [open_err h1] at h; cases h
theorem many_4096 {l : List Pts} (h : ∀ p ∈ l, p.2.length ≤ 4096) : manyL l ≤ 4096 * l.length := by
 induction l with
 | nil => simp [manyL]
 | cons p l ih =>
   have h1 := h p List.mem_cons_self
   have h2 := ih fun q hq => h q (List.mem_cons_of_mem _ hq)
   have h3 : manyL (p :: l) = p.2.length + manyL l := by unfold manyL; simp
   rw [h3, List.length_cons]; omega
theorem wf_id {x : Int} (h0 : 0 ≤ x) (h1 : x ≤ 1073741824) : (Lit.int .i64 x).wf = true := by
 have h2 : IntKind.i64.min = -9223372036854775808 := by decide
 have h3 : IntKind.i64.max = 9223372036854775807 := by decide
 show (decide (IntKind.i64.min ≤ x) && decide (x ≤ IntKind.i64.max)) = true
 rw [h2, h3, Bool.and_eq_true, decide_eq_true_eq, decide_eq_true_eq]
 omega
theorem build_has {c b : List _} (h : buildV c = (0, b)) : c ≠ [] ∧ cleanS c = c ∧ manyL (cleanS c) ≤ 2000 := by
 unfold buildV at h
 split at h
 ·cases h
 case isFalse h1 =>
  split at h
  ·cases h
  case isFalse h2 => exact ⟨fun e => h2 (.inl e), Classical.byContradiction fun e => h2 (.inr e), by omega⟩
theorem build_byte {c : List Pts} : ∀ x ∈ (buildV c).2, x < 256 := by
 intro x hx
 unfold buildV at hx
 split at hx
 ·cases hx
 case isFalse h1 =>
  split at hx
  ·cases hx
  case isFalse h2 =>
   split at hx
   ·cases hx
   ·have hc : Clean c := by
     have e : cleanS c = c := Classical.byContradiction fun e => h2 (.inr e)
     rw [← e]; exact cleanS_clean c
    exact file_byte (fun b hb => (blks_ok hc b hb).1.2.2.1) x hx
end Go.Proofs.YtnkelahimiipjaaGreatDoor

/-
 datapart.Open: the heads in memory, round by round.
-/
namespace Go.Proofs.YtnkelahimiipjaaGreatDoor
open Go.RowKit Go.Sort
/-- append of a row, as a step of a region that draws its order, in a round too. -/
theorem step_appNGR {α : Type} {P : Program} {F : Fence} {nF : Nat} {w : World} {ops : Array Oper} {o : Oper} {a : Act} {K : Act → World → Prop} {Q : Exit → Act → World → Prop} (E : Enc α) (hgd : o.guard = none) (s x : Operand) (t e : TypeId) {z : Value} {bytes : Nat}
  (ho : o.op = .call { callee := .builtin .append, args := #[s, x], argTypes := #[t, t] }) (ht : P.underlying t = some (.slice e))
  (hinf : (P.info? e).map (fun i => (i.zero, i.size, i.bytes)) = some (some z, E.k, bytes)) (hz : z.cells.size = E.k) (hb : 0 < bytes)
  (base : Nat) (v : Value) (l : List α) (xv : Value) (l2 : List α) (B : Nat) (hs : a.eval s = v) (hown : OwnG E e w base v l) (hx : a.eval x = xv) (hR : RdG E w B xv l2) (hne : l2 ≠ [])
  (hl : (l.length + l2.length) * bytes ≤ 140737488355328) (hbase : base ≤ w.heap.size)
  (h : ∀ v' w', OwnG E e w' base v' (l ++ l2) → w.grownBy w' v.ownBlock → (v'.ownBlock = v.ownBlock ∨ v'.ownBlock = some w.heap.size) → K (a.put o.dst v') w') :
  if Region.wanted o (yielded ops a.tmps) = true then Oper.wpIn F nF P o a w K Q else (∀ f, o.about P w a.eval = some f → F.fn f) ∧ K (a.put o.dst undef) w := by
 have hw : Region.wanted o (yielded ops a.tmps) = true := by simp [Region.wanted, hgd]
 rw [if_pos hw]
 obtain ⟨i, hi, hz1, hsz, hby⟩ := of_infoG hinf
 obtain ⟨A, c, rfl, hc, hn0, hA⟩ := hR
 rcases hA with h0 | ⟨b, off, rfl, _, hcl⟩
 ·exact absurd h0 hne
 have hm : l.length + l2.length ≤ maxLen := by
  have := Nat.le_mul_of_pos_right (l.length + l2.length) hb
  have e : maxLen = 9223372036854775807 := rfl
  omega
 obtain ⟨v', w', hr, h2, h3, _, h5⟩ := run_append_own_at (P := P) w base t o.type e i _ E.k bytes ht hi hz1 hsz hby hz E.pos v l.length (E.flat l) hown ⟨b, off, none⟩ l2.length c (E.flat l2) (E.flat_len l2) (cells_news hcl) (E.flat_cell l2) hm hl hbase
 unfold Oper.wpIn
 rw [Oper.semAt_eq _ _ _ (fun c e => by rw [ho] at e; cases e)]
 refine ⟨fun f hf => ?_, ?_⟩
 ·unfold Oper.about at hf
  simp [ho, resolve, Target.leads] at hf
 ·unfold execOp
  simp only [ho, resolve, invoke, builtin, Sem.run_bind, Sem.run_pure, Result.andThen_ok, List.map_toArray, List.map_cons, List.map_nil, hs, hx, hr]
  refine h v' w' ?_ h3 h5
  unfold OwnG
  rw [E.flat_app, List.length_append]
  exact h2
def ktO (t : TypeId) : Bool := t == 89 || t == 71
def encX (x : BlkX) : PtX := (x.1.1, match x.2.1 with | .slice A n c => (A, n, c) | _ => (none, 0, 0))
/-- The blocks that stay, whatever the rounds do. -/
def GdO (hb : Nat) (w9 : World) (b : Nat) : Prop := ∃ o, w9.heap[b]? = some o ∧ (b < hb ∨ keptU ktO o = true)
theorem GdO.lt {hb b : Nat} {w9 : World} (h : GdO hb w9 b) : b < w9.heap.size := by
 obtain ⟨o, ho, _⟩ := h
 exact (Array.getElem?_eq_some_iff.1 ho).1
theorem GdO.keep {hb : Nat} {w9 : World} : ∀ A B, StJ (GdO hb w9) w9 A → KpU ktO hb A B → StJ (GdO hb w9) A B := fun A B h1 h2 =>
 ⟨h2.1.size, fun b hg => by
  obtain ⟨o, ho, hk⟩ := id hg
  have ha : A.heap[b]? = some o := (h1.block b hg).trans ho
  rcases hk with hk | hk
  ·exact h2.1.block b hk
  ·rw [ha]; exact h2.2 b o ha hk⟩
structure HdI (W w9 : World) (hb : Nat) (c : List Pts) (hv : Value) (pre : List BlkX) (w : World) : Prop where
 box : Boxed w hb 89 hv
 own : OwnG EP 71 w w9.heap.size hv (pre.map encX)
 st : StJ (GdO hb w9) w9 w
 below : Below W.heap.size W w
 pre_ : pre.map (fun x => x.1) = (blksV c).take pre.length
 rd : ∀ x ∈ pre, (∃ A n k, x.2.1 = .slice A n k) ∧ RdJ (GdO hb w9) w9 x.2.1 x.1.2 ∧ Nz x.2.1
variable {W w9 w w' : World} {hb : Nat} {c : List Pts} {hv : Value} {pre : List BlkX}
theorem HdI.on (h : HdI W w9 hb c hv pre w) (k : Below w.heap.size w w') : HdI W w9 hb c hv pre w' :=
 ⟨boxOn h.box k, h.own.below k, h.st.trans (StJ.of_below k (fun _ hg => Nat.lt_of_lt_of_le hg.lt h.st.size)), h.below.trans (k.mono h.below.size), h.pre_, h.rd⟩
theorem HdI.putLoop {l : Nat} {r : Loop} (h : HdI W w9 hb c hv pre w) (hl : w.heap[l]? = some (.loop r)) (hz : w9.heap.size ≤ l) (hW : W.heap.size ≤ w9.heap.size) (o : Obj) : HdI W w9 hb c hv pre (w.putObj l o) :=
 ⟨boxPutLoop h.box hl o, h.own.putO o hl rfl, ⟨by rw [World.putObj_size]; exact h.st.size, fun b hg => (World.putObj_heap_other (by have := hg.lt; omega)).trans (h.st.block b hg)⟩, belowPut h.below (by omega) o, h.pre_, h.rd⟩
theorem HdI.put {l : Nat} {o0 : Obj} (h : HdI W w9 hb c hv pre w) (hl : w.heap[l]? = some o0) (hc : o0.isCells = false) (hz : w9.heap.size ≤ l) (hW : W.heap.size ≤ w9.heap.size) (o : Obj) : HdI W w9 hb c hv pre (w.putObj l o) :=
 ⟨boxPut h.box hl hc o, h.own.putO o hl hc, ⟨by rw [World.putObj_size]; exact h.st.size, fun b hg => (World.putObj_heap_other (by have := hg.lt; omega)).trans (h.st.block b hg)⟩, belowPut h.below (by omega) o, h.pre_, h.rd⟩
theorem own_st {G : Nat → Prop} {A B : World} {base : Nat} {v : Value} {l : List Smp} (h : Own A base 66 v l) (k : StJ G A B) (hG : ∀ g c z, A.heap[g]? = some (.cells c 66 z) → G g) : Own B base 66 v l := by
 refine ⟨h.1, h.2.imp id ?_⟩
 rintro ⟨g, cap, cur, e, hb, hh, hr⟩
 exact ⟨g, cap, cur, e, hb, (k.block g (hG _ _ _ hh)).trans hh, hr⟩
theorem RdO.st {G : Nat → Prop} {A B : World} {base : Nat} {v : Value} {l : List Pts} (h : RdO A base v l) (k : StJ G A B) (hG : ∀ g c z, A.heap[g]? = some (.cells c 66 z) → G g) (hG2 : ∀ g c z, A.heap[g]? = some (.cells c 62 z) → G g) : RdO B base v l := by
 obtain ⟨A', c', e, hc, hA⟩ := h
 refine ⟨A', c', e, hc, hA.imp id ?_⟩
 rintro ⟨b, o, e2, hb0, hb, ⟨cc, ht⟩, hcl⟩
 have hg := hG2 _ _ _ ht
 refine ⟨b, o, e2, hb0, Nat.lt_of_lt_of_le hb k.size, ⟨cc, (k.block b hg).trans ht⟩, fun i hi => ?_⟩
 obtain ⟨h1, sv, h2, h3, h4⟩ := hcl i hi
 exact ⟨(k.cell hg).trans h1, sv, (k.cell hg).trans h2, own_st h3 k hG, h4⟩
theorem HdI.push {w1 : World} {hv' : Value} {x : BlkX} (h : HdI W w9 hb c hv pre w) (hhb : W.heap.size ≤ hb) (hh9 : hb < w9.heap.size) (hng : ¬ GdO hb w9 hb) (hx : (blksV c)[pre.length]? = some x.1) (hs : ∃ A n k, x.2.1 = .slice A n k) (hr : RdJ (GdO hb w9) w9 x.2.1 x.1.2) (hn : Nz x.2.1)
  (hg : w.grownBy w1 hv.ownBlock) (ho : OwnG EP 71 w1 w9.heap.size hv' (pre.map encX ++ [encX x])) :
  Boxed w1 hb 89 hv ∧ HdI W w9 hb c hv' (pre ++ [x]) (w1.setCell ⟨hb, 0, none⟩ hv') ∧ KpT ktO hb w (w1.setCell ⟨hb, 0, none⟩ hv') := by
 have hz := h.st.size
 have b1 : Boxed w1 hb 89 hv := boxGrown h.box hg h.own (by decide)
 have hk1 : KpT ktO hb w w1 := KpT.grown hg (by omega) (fun k e => by
  obtain ⟨q1, cc, z, q2⟩ := h.own.cellsAt k e
  exact ⟨by omega, cc, _, z, q2, rfl⟩)
 have hk2 : KpT ktO hb w1 (w1.setCell ⟨hb, 0, none⟩ hv') := KpT.setCell (e := 89) b1 rfl (Nat.le_refl _) _ _
 have hk := hk1.trans hk2
 refine ⟨b1, ⟨b1.set _, ?_, ⟨Nat.le_trans hz hk.1.size, fun b hgb => ?_⟩, h.below.trans (hk.1.mono hhb), ?_, ?_⟩, hk⟩
 ·rw [List.map_append]; exact ho.set b1 (by decide) _
 ·have hbn : b ≠ hb := fun e => hng (e ▸ hgb)
  have hlt := hgb.lt
  rw [Below.heap_setCell _ _ _ _ (show b ≠ hb from hbn), hg.block b (by omega) (fun e => by have := (h.own.blk e.symm).1; omega)]
  exact h.st.block b hgb
 ·rw [List.map_append, h.pre_, List.length_append, List.length_singleton, List.take_add_one, hx]; rfl
 ·intro y hy
  rcases List.mem_append.1 hy with hy | hy
  ·exact h.rd y hy
  ·rw [List.mem_singleton] at hy; subst hy; exact ⟨hs, hr, hn⟩
/-- The heads, read. -/
theorem HdI.heads (h : HdI W w9 hb c hv pre w) (hS : pre.map (fun x => x.1) = blksV c) : RdP w w.heap.size hv (blksV c) := by
 refine rdP_of h.own.rd (by rw [List.length_map, ← hS, List.length_map]) (fun i hi hi' => ?_)
 have hip : i < pre.length := by simpa using hi
 obtain ⟨⟨A, n, k, e⟩, h2, h3⟩ := h.rd pre[i] (List.getElem_mem hip)
 have e1 : (blksV c)[i] = (pre[i]).1 := by simp [← hS]
 have e2 : (pre.map encX)[i] = encX pre[i] := by simp
 rw [e1, e2]
 have e3 : sliceX (encX pre[i]) = pre[i].2.1 := by
  unfold sliceX encX
  rw [e]
 rw [e3]
 have hq := (h2.st h.st).rd (fun _ hg => Nat.lt_of_lt_of_le hg.lt h.st.size)
 exact ⟨rfl, hq, h3⟩
end Go.Proofs.YtnkelahimiipjaaGreatDoor
