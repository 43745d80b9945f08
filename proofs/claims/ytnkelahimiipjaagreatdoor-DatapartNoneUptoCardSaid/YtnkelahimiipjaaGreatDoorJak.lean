/-
 datapart.Open: the loop over the frames.
-/
import Derived.Test.YtnkelahimiipjaaGreatDoorJbk
import Derived.Test.YtnkelahimiipjaaGreatDoorHuk
import Derived.Test.YtnkelahimiipjaaGreatDoorDbk
import Derived.Test.YtnkelahimiipjaaGreatDoorHbk
import Derived.Test.YtnkelahimiipjaaGreatDoorHpk
namespace Go.Proofs.YtnkelahimiipjaaGreatDoor
open Go.RowKit Go.Sort
attribute [local go_sem] Oper.semAt_some
/-- What Open answers. -/
def OpnR (W : World) (b : List Nat) (e : Ending) (w' : World) : Prop :=
 Below W.heap.size W w' ∧ ((openV b = none ∧ e = .returned (.tuple #[.pointer none, .int .i64 170])) ∨ ∃ c pb hb pv hv, openV b = some c ∧ e = .returned (.tuple #[.pointer (some ⟨pb, 0, none⟩), .int .i64 0]) ∧ PartAt w' pb hb pv ∧ W.heap.size ≤ pb ∧ w'.cell? ⟨hb, 0, none⟩ = some hv ∧ RdO w' W.heap.size pv c ∧ RdP w' w'.heap.size hv (blksV c))
theorem openV_none {b : List Nat} (h : openL (b.length + 1) b = none) : openV b = none := by unfold openV; rw [h]
theorem openV_some {b : List Nat} {l : List Pts} (h : openL (b.length + 1) b = some l) : openV b = if buildV (cleanS l) = (0, b) then some (cleanS l) else none := by unfold openV; rw [h]
theorem next_c (v : Value) (b : List Nat) (W : World) (hT : TabH W) (hR : RdG EB W W.heap.size v b) (h8 : ∀ c ∈ b, c < 256) (hb : b.length ≤ 10000000) :
  Calls Tryz.prog 41 #[v] W fun e w' => ∃ A n c A2 n2 c2, e = .returned (.tuple #[.int .i64 ((nextV b).2.1 : Int), .slice A n c, .slice A2 n2 c2, .int .i64 (nextV b).1]) ∧ Below W.heap.size W w' ∧ ((nextV b).1 = 0 → RdG EB w' w'.heap.size (.slice A n c) (nextV b).2.2.1 ∧ OwnG EB 5 w' W.heap.size (.slice A2 n2 c2) (nextV b).2.2.2) := by
 refine Calls.mono (next_walk v b W hT hR h8 hb) ?_
 rintro e w' ⟨bv, rv, rfl, hB, hO⟩
 split at hO
 case isTrue h =>
  obtain ⟨A, c, rfl, _⟩ := id hO.1
  obtain ⟨A2, n2, c2, rfl⟩ := hO.2.sl
  exact ⟨A, _, c, A2, n2, c2, rfl, hB, fun _ => hO⟩
 case isFalse h =>
  obtain ⟨rfl, rfl⟩ := hO
  exact ⟨none, 0, 0, none, 0, 0, rfl, hB, fun h' => absurd h' h⟩
set_option maxRecDepth 100000 in
set_option maxHeartbeats 4000000 in
theorem open_walk (v : Value) (b : List Nat) (W : World) (T : Tabs W) (hT : TabT W) (hH : TabH W) (hR : RdG EB W W.heap.size v b) (h8 : ∀ c ∈ b, c < 256) (hl : b.length ≤ 240000) :
  Calls Tryz.prog 13 #[v] W fun e w' => OpnR W b e w' := by
 have hr : Tryz.f13.results = #[.tmp 2, .tmp 3] := by kernel_rfl
 have HR := Lib.hid hR
 have H8 := Lib.hid h8
 have HT := Lib.hid hT
 have HH := Lib.hid hH
 have HTT := Lib.hid T
 obtain ⟨A, c, rfl, _⟩ := hR
 obtain ⟨N, hN⟩ : ∃ N, N = b.length := ⟨_, rfl⟩
 rw [← hN] at HR hl ⊢
 have HN := Lib.hid hN
 have hf1 : Fence.wide.fn 41 := trivial
 have hf2 : Fence.wide.fn 42 := trivial
 have hf3 : Fence.wide.fn 43 := trivial
 have hf4 : Fence.wide.fn 11 := trivial
 have hf5 : Fence.wide.fn 44 := trivial
 have hf6 : Fence.wide.fn 32 := trivial
 clear T hT hH h8 hN
 refine (callsIn_wide (n := 40)).1 ?_
 refine callsIn_of_wp_marks Tryz.func13 rfl trivial ?_ rfl
 simp only [Tryz.ntmps13, List.size_toArray, List.length_cons, List.length_nil, Nat.reduceAdd, Nat.reduceSub, Array.replicate_succ, Array.replicate_zero, List.push_toArray, List.append_toArray, List.nil_append, List.cons_append]
 gi_wp2_with fail
 gi_loopw [4, 5] (fun av rv wl => ∃ (f : Nat) (pre : List Pts) (csx : List PtX) (rest : List Nat) (Aa : Option Addr) (ca : Nat) (Ar : Option Addr) (nr cr : Nat), av = .slice Aa pre.length ca ∧ rv = .slice Ar nr cr ∧ Hid (nr = rest.length) ∧ Hid (PtsO wl W.heap.size (.slice Aa pre.length ca) csx pre) ∧ Hid (RdG EB wl wl.heap.size (.slice Ar nr cr) rest) ∧ Hid (openL (b.length + 1) b = (openL f rest).map (fun l => pre ++ l)) ∧ Hid (rest.length < f) ∧ Hid (rest.length ≤ N ∧ (∀ c ∈ rest, c < 256) ∧ pre.length + rest.length ≤ N) ∧ Hid (Below W.heap.size W wl))
  (fun _ rv _ => lenOf rv)
 case atStart => exact ⟨b.length + 1, [], [], b, none, 0, A, N, c, rfl, rfl, HN.out, PtsO.nil _ _, HR.out, by show _ = _; cases openL (b.length + 1) b <;> simp, Nat.lt_succ_self _, ⟨by rw [HN.out]; exact Nat.le_refl _, H8.out, by rw [HN.out]; simp⟩, Below.refl _ _⟩
 case round =>
  obtain ⟨f, pre, csx, rest, Aa, ca, Ar, nr, cr, rfl, rfl, HNR, HP, HRR, HE, HF, HL, HB⟩ := hrel
  have KX : Hid (CallsIn Fence.wide 39 Tryz.prog 41 #[.slice Ar nr cr] wr _) := callsIn_wide.2 (next_c _ rest wr (TabH.below HH.out HB.out) HRR.out HL.out.2.1 (by have := HL.out.1; omega))
  obtain ⟨er, her⟩ : ∃ er, er = (nextV rest).1 := ⟨_, rfl⟩
  obtain ⟨kd, hkd⟩ : ∃ kd, kd = (nextV rest).2.1 := ⟨_, rfl⟩
  rw [← her, ← hkd] at KX
  obtain ⟨g, hfg⟩ : ∃ g, f = g + 1 := ⟨f - 1, by have := HF.out; omega⟩
  have HFG := Lib.hid hfg
  have HPL : Hid (pre.length ≤ 240000) := by have := HL.out.2.2; show _ ≤ _; omega
  have hpl := HPL.out
  clear hfg
  by_cases e1 : er = 0
  ·subst e1
   have HE1 : Hid ((nextV rest).1 = 0) := her.symm
   by_cases e2 : kd = 3
   ·subst e2
    have HE2 : Hid ((nextV rest).2.1 = 3) := hkd.symm
    clear her hkd
    gi_wp2_with fail
    refine KX.out.mono ?_
    rintro e w2 ⟨Ab, nb, cb, A2, n2, c2, rfl, hB2, hO2⟩
    obtain ⟨hbd, hlf⟩ := hO2 (by first | rfl | trivial)
    have hnf := next_facts HE1.out
    have h8r := HL.out.2.1
    have hB12 : Below W.heap.size W w2 := HB.out.trans (hB2.mono HB.out.size)
    have KP : Hid (CallsIn Fence.wide 39 Tryz.prog 42 #[.slice Ab nb cb] w2 _) := callsIn_wide.2 (parse_walk _ _ w2 (fun i hi => (hB12.cell (lt_of_cell (HT.out i hi))).trans (HT.out i hi)) hbd (fun c hc => h8r c (hnf.2.2.1 c hc)) (by have := hnf.2.1; omega))
    have HB12 := Lib.hid hB12
    have HP2 := Lib.hid (HP.out.on hB2)
    have HLF := Lib.hid hlf
    have HNF := Lib.hid hnf
    clear hB2 hO2 hbd hlf hnf h8r hB12 KX
    gi_wp2_with fail
    refine KP.out.mono ?_
    rintro e w3 ⟨hB3, ⟨hn, rfl⟩ | ⟨p, A3, n3, c3, hp, rfl, hO3⟩⟩
    ·have HV : Hid (openV b = none) := openV_none (by rw [HE.out, HFG.out, open_bad HE1.out HE2.out hn]; rfl)
     have HB3 : Hid (Below W.heap.size W w3) := HB12.out.trans (hB3.mono HB12.out.size)
     clear hn hB3 KP
     gi_wp2_with fail
     exact ⟨.tuple #[.pointer none, .int .i64 170], by unfold results; rw [hr]; go_simp, HB3.out.alloc HB3.out.size _, .inl ⟨HV.out, rfl⟩⟩
    ·obtain ⟨pid, ps⟩ := p
     dsimp only
     have hP3 := HP2.out.on hB3
     have HP3 := Lib.hid hP3
     have HO3 : Hid (Own w3 W.heap.size 66 (.slice A3 n3 c3) ps) := hO3.lower HB12.out.size
     have HB13 : Hid (Below W.heap.size W w3) := HB12.out.trans (hB3.mono HB12.out.size)
     have HLF3 := Lib.hid (HLF.out.below hB3)
     have hC := CellG.mk (E := EP) (w := w3.alloc (.cells #[.int .i64 pid, .slice A3 n3 c3] 62)) (cs := #[.int .i64 pid, .slice A3 n3 c3]) (x := (pid, A3, n3, c3)) rfl 62
     rw [World.size_alloc] at hC
     have HC := Lib.hid hC
     have hl1 : (csx.length + 1) * 32 ≤ 140737488355328 := by rw [hP3.len]; omega
     have HL1 := Lib.hid hl1
     have HSZ : Hid (W.heap.size ≤ ((w3.alloc (.cells #[.int .i64 pid, .slice A3 n3 c3] 62)).alloc (.cells #[.int .i64 pid, .slice A3 n3 c3] 62)).heap.size) := by have := HB13.out.size; show _ ≤ _; simp; omega
     have HE3 : Hid (openL (b.length + 1) b = (openL g (nextV rest).2.2.2).map (fun l => (pre ++ [(pid, ps)]) ++ l)) := by
      show _ = _
      rw [HE.out, HFG.out, open_more1 HE1.out HE2.out hp, Option.map_map]
      congr 1
      funext l
      simp
     clear hP3 hO3 hC hl1 hB3 hp KP
     gi_wp2_with (first | (gi_at_builtin; refine app1GI EP rfl _ _ 22 62 rfl Tryz.underlying22 info_p rfl (by decide) W.heap.size _ csx (pid, A3, n3, c3) rfl ((HP3.out.row.alloc _).alloc _) _ 0 1 rfl HC.out HL1.out HSZ.out ?_) | fail)
     intro v4 w4 hown hg hloc
     have hbb : Below w3.heap.size w3 ((w3.alloc (.cells #[.int .i64 pid, .slice A3 n3 c3] 62)).alloc (.cells #[.int .i64 pid, .slice A3 n3 c3] 62)) := ((Below.refl _ w3).alloc (Nat.le_refl _) _).alloc (by simp) _
     have hP4 := (HP3.out.on hbb).push (x := (pid, A3, n3, c3)) (p := (pid, ps)) rfl (HO3.out.below hbb) hown hg
     have HB4 : Hid (Below W.heap.size W w4) := (HP3.out.row.below hbb).step (HB13.out.trans (hbb.mono HB13.out.size)) HSZ.out hg
     have HRR4 : Hid (RdG EB w4 w4.heap.size (.slice A2 n2 c2) (nextV rest).2.2.2) := ((HLF3.out.below hbb).kept hg (rows_apart (HLF3.out.below hbb) (HP3.out.row.below hbb) (by decide))).rd
     obtain ⟨A5, n5, c5, e5⟩ := hown.sl
     subst e5
     have e6 := hown.len
     have e7 : n5 = (pre ++ [(pid, ps)]).length := by rw [e6, List.length_append, List.length_append, HP3.out.len]; rfl
     subst e7
     have HP4 := Lib.hid hP4
     have HN2 : Hid (n2 = (nextV rest).2.2.2.length) := HLF.out.len
     have hnl := HNF.out.1
     have hnr := HNR.out
     have HMS : Hid (n2 < nr) := by show _ < _; rw [HN2.out, hnr]; omega
     have HLL : Hid ((nextV rest).2.2.2.length ≤ N ∧ (∀ c ∈ (nextV rest).2.2.2, c < 256) ∧ (pre ++ [(pid, ps)]).length + (nextV rest).2.2.2.length ≤ N) := by
      refine ⟨by have := HL.out.1; omega, fun c hc => HL.out.2.1 c (HNF.out.2.2.2 c hc), ?_⟩
      rw [List.length_append, List.length_singleton]
      have := HL.out.2.2
      omega
     have HFF : Hid ((nextV rest).2.2.2.length < g) := by have := HF.out; have := HFG.out; show _ < _; omega
     clear hown hg hloc hbb hP4 e6 hnl hnr
     gi_wp2_with fail
     go_roundw
     case rel => exact ⟨g, pre ++ [(pid, ps)], csx ++ [(pid, A3, n3, c3)], (nextV rest).2.2.2, A5, c5, A2, n2, c2, rfl, rfl, HN2.out, HP4.out, HRR4.out, HE3.out, HFF.out, HLL.out, HB4.out⟩
     case measure => exact HMS.out
   ·have g2 : ((kd : Int) == 3) = false := by simp; omega
    have HALL : Hid (openL (b.length + 1) b = some pre) := by
     show _ = _
     rw [HE.out, HFG.out, open_end her.symm (by rw [← hkd]; exact e2)]
     simp
    have HFA := Lib.hid (openL_facts _ _ _ HALL.out)
    clear her hkd e2
    gi_wp2_with fail
    refine KX.out.mono ?_
    rintro e w2 ⟨Ab, nb, cb, A2, n2, c2, rfl, hB2, _⟩
    obtain ⟨hb, hhb⟩ : ∃ hb, hb = w2.heap.size := ⟨_, rfl⟩
    obtain ⟨w3, hw3⟩ : ∃ w3, w3 = w2.alloc (.cells #[.slice none 0 0] 89) := ⟨_, rfl⟩
    have hb23 : Below w2.heap.size w2 w3 := by rw [hw3]; exact (Below.refl _ _).alloc (Nat.le_refl _) _
    have hHB3 : Boxed w3 hb 89 (.slice none 0 0) := by rw [hw3]; exact boxNew _ _ _ hhb.symm
    have hB12 : Below W.heap.size W w2 := HB.out.trans (hB2.mono HB.out.size)
    have hB13 : Below W.heap.size W w3 := hB12.trans (hb23.mono hB12.size)
    have hP3 := (HP.out.on hB2).on hb23
    have hfa := HFA.out
    have hml := many_4096 (l := pre) (fun p hp => (hfa.2 p hp).2.2)
    have KC : Hid (CallsIn Fence.wide 39 Tryz.prog 43 #[.slice Aa pre.length ca] w3 _) := callsIn_wide.2 (scleanO _ pre w3 (HTT.out.below hB13) hP3.rdP (fun p hp => wf_id (hfa.2 p hp).1 (hfa.2 p hp).2.1) (by omega) (by omega))
    have HW3 := Lib.hid hw3
    have HHB := Lib.hid hhb
    have HHB3 := Lib.hid hHB3
    have HB13 := Lib.hid hB13
    have HML := Lib.hid hml
    have hWb : W.heap.size ≤ hb := by rw [hhb]; exact hB12.size
    clear hw3 hhb hHB3 hB2 hb23 hB12 hB13 hP3 hfa hml KX
    gi_wp2_with fail
    rw [← HW3.out, ← HHB.out]
    refine KC.out.mono ?_
    rintro e w4 ⟨r, rfl, hO4, hB4⟩
    obtain ⟨c0, hc0⟩ : ∃ c0, c0 = cleanS pre := ⟨_, rfl⟩
    have hcb : c0.length ≤ 990000000 ∧ manyL c0 ≤ 990000000 := by
     have h1 := cleanS_length pre
     have h2 := cleanS_many pre
     have h3 := HML.out
     rw [hc0]; omega
    rw [← hc0] at hO4
    have hcl : Clean c0 := by rw [hc0]; exact cleanS_clean pre
    obtain ⟨A4, cr4, e4, _⟩ := id hO4
    obtain ⟨n4, hn4⟩ : ∃ n4, n4 = c0.length := ⟨_, rfl⟩
    rw [← hn4] at e4
    subst e4
    obtain ⟨pb, hpb⟩ : ∃ pb, pb = w4.heap.size := ⟨_, rfl⟩
    obtain ⟨w5, hw5⟩ : ∃ w5, w5 = w4.alloc (.cells #[.pointer (some ⟨hb, 0, none⟩), .slice A4 n4 cr4] 91) := ⟨_, rfl⟩
    obtain ⟨w6, hw6⟩ : ∃ w6, w6 = w5.alloc (.cells #[.pointer (some ⟨pb, 0, none⟩)] 29) := ⟨_, rfl⟩
    have hb45 : Below w4.heap.size w4 w5 := by rw [hw5]; exact (Below.refl _ _).alloc (Nat.le_refl _) _
    have hb56 : Below w5.heap.size w5 w6 := by rw [hw6]; exact (Below.refl _ _).alloc (Nat.le_refl _) _
    have hs5 : w5.heap.size = pb + 1 := by rw [hw5, hpb]; simp
    have hb46 : Below w4.heap.size w4 w6 := hb45.trans (hb56.mono hb45.size)
    have hph : w6.heap[pb]? = some (.cells #[.pointer (some ⟨hb, 0, none⟩), .slice A4 n4 cr4] 91 (0, 0)) := (hb56.block pb (by omega)).trans (by rw [hw5, hpb]; exact heap_alloc_new w4 _)
    have hxb : Boxed w6 (pb + 1) 29 (.pointer (some ⟨pb, 0, none⟩)) := by rw [hw6]; exact boxNew _ _ _ hs5
    have hhb6 : Boxed w6 hb 89 (.slice none 0 0) := boxOn (boxOn HHB3.out hB4) hb46
    have hB14 : Below W.heap.size W w4 := HB13.out.trans (hB4.mono HB13.out.size)
    have hB16 : Below W.heap.size W w6 := hB14.trans (hb46.mono hB14.size)
    have hO6 : RdO w6 W.heap.size (.slice A4 n4 cr4) c0 := (hO4.lower HB13.out.size).on hb46
    have hhp : hb < pb := by
     have h1 := HHB3.out.lt
     have h2 := hB4.size
     omega
    have KB : Hid (CallsIn Fence.wide 39 Tryz.prog 11 #[.slice A4 n4 cr4] w6 _) := callsIn_wide.2 (build_walk _ c0 w6 (HTT.out.below hB16) (fun i hi => (hB16.cell (lt_of_cell (HT.out i hi))).trans (HT.out i hi)) (TabH.below HH.out hB16) hO6.rdP (fun p hp => by
     have h3 := hcl.inr p hp
     unfold inR at h3
     rw [Bool.and_eq_true, decide_eq_true_eq, decide_eq_true_eq] at h3
     exact wf_id (by omega) (by omega)) hcb.1 hcb.2)
    have hx0 := hxb.cell
    have hp0 : w6.cell? ⟨pb, 0, none⟩ = some (.pointer (some ⟨hb, 0, none⟩)) := by simp [World.cell?, hph]
    have hp1 : w6.cell? ⟨pb, 1, none⟩ = some (.slice A4 n4 cr4) := by simp [World.cell?, hph]
    have HPH := Lib.hid hph
    have HXB := Lib.hid hxb
    have HHB6 := Lib.hid hhb6
    have HB16 := Lib.hid hB16
    have HO6 := Lib.hid hO6
    have HCL := Lib.hid hcl
    have HW5 := Lib.hid hw5
    have HW6 := Lib.hid hw6
    have HPB := Lib.hid hpb
    have HC0 := Lib.hid hc0
    have HN4 := Lib.hid hn4
    have HS5 := Lib.hid hs5
    clear hO4 hB4 hcb hcl hc0 hn4 hpb hw5 hw6 hb45 hb56 hs5 hb46 hph hxb hhb6 hB14 hB16 hO6 KC
    gi_wp2_with fail
    rw [← HPB.out, ← HW5.out, ← HW6.out]
    refine KB.out.mono ?_
    rintro e w7 ⟨v7, rfl, hO7, hB7⟩
    obtain ⟨A7, n7, c7, rfl⟩ := hO7.sl
    have HB17 : Hid (Below W.heap.size W w7) := HB16.out.trans (hB7.mono HB16.out.size)
    have HX7 := Lib.hid (boxOn HXB.out hB7)
    have HPH7 : Hid (w7.heap[pb]? = some (.cells #[.pointer (some ⟨hb, 0, none⟩), .slice A4 n4 cr4] 91 (0, 0))) := (hB7.block pb (Array.getElem?_eq_some_iff.1 HPH.out).1).trans HPH.out
    have HHB7 := Lib.hid (boxOn HHB6.out hB7)
    have HO7 := Lib.hid (HO6.out.on hB7)
    have HOB := Lib.hid hO7.rd
    have HBY := Lib.hid (build_byte (c := c0))
    obtain ⟨bc, hbc⟩ : ∃ bc, bc = (buildV c0).1 := ⟨_, rfl⟩
    obtain ⟨bw, hbw⟩ : ∃ bw, bw = (buildV c0).2 := ⟨_, rfl⟩
    rw [← hbw] at HOB HBY
    rw [← hbc]
    have HBE : Hid (buildV c0 = (bc, bw)) := by show _ = _; rw [hbc, hbw]
    have hov := openV_some HALL.out
    rw [← HC0.out, HBE.out] at hov
    clear hO7 hB7 hbc hbw KB hx0 hp0 hp1
    by_cases g3 : bc = 0
    ·subst g3
     have KE : Hid (CallsIn Fence.wide 39 Tryz.prog 44 #[.slice A7 n7 c7, .slice A N c] w7 _) := callsIn_wide.2 (byequal_walk _ _ bw b w7 HOB.out (HR.out.on HB17.out) HBY.out H8.out)
     by_cases g4 : bw = b
     ·subst g4
      rw [decide_eq_true rfl] at KE
      have HV : Hid (openV bw = some c0) := by
       show _ = _
       rw [hov, if_pos rfl]
      have KS : ∀ w, CallsIn Fence.wide 39 Tryz.prog 32 #[.slice A4 n4 cr4] w fun e w' => e = .returned (.func (.func 61) #[] #[.pointer (some ⟨w.heap.size, 0, none⟩)]) ∧ w' = w.alloc (.cells #[.slice A4 n4 cr4] 22) := fun w => callsIn_wide.2 (split_walk A4 n4 cr4 w)
      clear hov
      gi_wp2_with fail
      refine KE.out.mono ?_
      rintro e w8 ⟨rfl, hw8⟩
      have hw8 := hw8.symm
      subst hw8
      have cx := HX7.out.cell
      have cp0 : w7.cell? ⟨pb, 0, none⟩ = some (.pointer (some ⟨hb, 0, none⟩)) := by have h := HPH7.out; simp [World.cell?, h]
      have cp1 : w7.cell? ⟨pb, 1, none⟩ = some (.slice A4 n4 cr4) := by have h := HPH7.out; simp [World.cell?, h]
      have HC := Lib.hid (And.intro cx (And.intro cp0 cp1))
      clear KE
      gi_wp2_with fail
      refine (KS _).mono ?_
      rintro e w9 ⟨rfl, hw9⟩
      have HW9 := Lib.hid hw9
      clear hw9 KS
      gi_wp2_with fail
      obtain ⟨cb9, hcb9⟩ : ∃ cb9, cb9 = w7.heap.size := ⟨_, rfl⟩
      have hw9 := HW9.out
      have hb79 : Below w7.heap.size w7 w9 := by rw [hw9]; exact (Below.refl _ _).alloc (Nat.le_refl _) _
      have hs9 : w9.heap.size = cb9 + 1 := by rw [hw9, hcb9]; simp
      have hbx : Boxed w9 cb9 22 (.slice A4 n4 cr4) := by rw [hw9]; exact boxNew _ _ _ hcb9.symm
      have hB19 : Below W.heap.size W w9 := HB17.out.trans (hb79.mono HB17.out.size)
      have hX9 := boxOn HX7.out hb79
      have hH9 := boxOn HHB7.out hb79
      have hP9 : w9.heap[pb]? = some (.cells #[.pointer (some ⟨hb, 0, none⟩), .slice A4 n4 cr4] 91 (0, 0)) := (hb79.block pb (Array.getElem?_eq_some_iff.1 HPH7.out).1).trans HPH7.out
      have hO9 := HO7.out.on hb79
      have hbs : hb < w9.heap.size := hH9.lt
      have hgk : ∀ g cc z, w9.heap[g]? = some (.cells cc 66 z) → GdO hb w9 g := fun g cc z h => ⟨_, h, .inr rfl⟩
      have hgp : ∀ g cc z, w9.heap[g]? = some (.cells cc 62 z) → GdO hb w9 g := fun g cc z h => ⟨_, h, .inr rfl⟩
      have hng : ¬ GdO hb w9 hb := by
       rintro ⟨o, ho, h | h⟩
       ·omega
       ·rw [show w9.heap[hb]? = _ from hH9] at ho
        cases ho
        cases h
      have hT9 : TabT w9 := fun i hi => (hB19.cell (lt_of_cell (HT.out i hi))).trans (HT.out i hi)
      have hgt : GdO hb w9 0 := by
       have h1 := lt_of_cell (HT.out 0 (by decide))
       have h1 : 0 < W.heap.size := h1
       exact ⟨_, Array.getElem?_eq_getElem (by omega), .inl (by omega)⟩
      obtain ⟨hk0, hk1, hk2⟩ := build_has HBE.out
      have hG1 : GdO hb w9 (pb + 1) := ⟨_, hX9, .inr rfl⟩
      have hG2 : GdO hb w9 pb := ⟨_, hP9, .inr rfl⟩
      have HG1 := Lib.hid hG1
      have HG2 := Lib.hid hG2
      have HX9 := Lib.hid hX9
      have HP9 := Lib.hid hP9
      have HO9 := Lib.hid hO9
      have HB19 := Lib.hid hB19
      have HNG := Lib.hid hng
      have HH9 := Lib.hid hbs
      have HWB := Lib.hid hWb
      have HI0 : Hid (HdI W w9 hb c0 (.slice none 0 0) [] w9) := ⟨hH9, OwnG.nil _ _, StJ.refl _ _, hB19, rfl, fun x hx => by cases hx⟩
      have HM2 : Hid (manyL c0 ≤ 2000) := by rw [hk1] at hk2; exact hk2
      have HFIT := Lib.hid (table_fits HCL.out HM2.out)
      have HCB9 := Lib.hid hcb9
      have hWs : W.heap.size ≤ w9.heap.size := hB19.size
      rw [← hcb9]
      clear hcb9 hw9 cx cp0 cp1
      refine range_y (kt := ktO) (Z := hb) (N := (blksV c0).length) (F := Fence.wide) (n := 40) rfl (by omega) (gf := 61) (lb := #[.pointer (some ⟨cb9, 0, none⟩)]) (by simp [Act.eval]) trivial (enters_of Tryz.func61 (by kernel_rfl) rfl) (encs := encH) (New := NewJ (GdO hb w9) w9 c0) (S := fun xs => xs.map (fun x => x.1) = blksV c0) (Sp := fun _ => True) (w0 := w9) (by omega)
       (iter_splitQ (GdO hb w9) ktO rfl hb 39 _ (.slice A4 n4 cr4) c0 w9 (by omega) hbx.cell (by omega) (fun b h => h.lt) GdO.keep (hO9.rdJ hgk hgp) hT9 hgt (small_many HCL.out HM2.out) (okP_clean HCL.out)) (Below.refl _ _) (fun _ => rfl) (fun pre A1 B x l1 o h hl => h.put hl o)
       (fun prx W1 => ∃ hv, HdI W w9 hb c0 hv prx W1) (fun _ _ => False) ?hI ?hIx ?h0 (fun x W9 => { tmps := #[.slice A N c, undef, u2, u3, .slice Aa pre.length ca, .slice Ar nr cr, .int .i64 (kd : Int), .slice Ab nb cb, .slice A2 n2 c2, .int .i64 0, u10, u11, .pointer (some ⟨pb + 1, 0, none⟩), .slice A7 n7 c7, .int .i64 0, .pointer (some ⟨W9.heap.size, 0, none⟩), .slice A N c, .tuple #[.int .i64 (kd : Int), .slice Ab nb cb, .slice A2 n2 c2, .int .i64 0], .slice Ar nr cr, .tuple #[.int .i64 (kd : Int), .slice Ab nb cb, .slice A2 n2 c2, .int .i64 0], .int .i64 (kd : Int), .slice Ab nb cb, .slice A2 n2 c2, .int .i64 0, .int .i64 0, .bool false, .int .i64 (kd : Int), .bool true, u28, u29, u30, u31, u32, u33, u34, u35, u36, u37, u38, u39, .agg #[.slice none 0 0], .pointer (some ⟨hb, 0, none⟩), .slice Aa pre.length ca, .slice A4 n4 cr4, .agg #[.pointer (some ⟨hb, 0, none⟩), .slice A4 n4 cr4], .pointer (some ⟨pb, 0, none⟩), .tuple #[.slice A7 n7 c7, .int .i64 0], .pointer (some ⟨pb, 0, none⟩), .pointer (some ⟨pb, 0, none⟩), .pointer (some ⟨pb, 1, none⟩), .slice A4 n4 cr4, .tuple #[.slice A7 n7 c7, .int .i64 0], .slice A7 n7 c7, .int .i64 0, .int .i64 0, .bool false, .bool false, .slice A7 n7 c7, .slice A N c, .bool true, .bool false, .bool false, .pointer (some ⟨pb, 0, none⟩), .pointer (some ⟨pb, 0, none⟩), .pointer (some ⟨pb, 1, none⟩), .slice A4 n4 cr4, .func (.func 61) #[] #[.pointer (some ⟨cb9, 0, none⟩)], .agg #[.int .i64 x.1.1, x.2.1], x.2.2, undef, undef, undef, undef, undef, undef, undef, undef, undef, undef, undef, undef, undef, undef, undef, undef, undef], defers := [] }) (fun x W9 => W9.alloc (.cells #[.int .i64 x.1.1, x.2.1] 71)) ?cb ?ca ?cw ?assign ?body ?done ?stop
      case hI => rintro s A1 l1 r o ⟨hv, h⟩ hl hr1; exact ⟨hv, h.putLoop hr1 (by omega) hWs o⟩
      case hIx => intro s A1 l1 r o h; exact h.elim
      case h0 => intro B hB; exact ⟨_, HI0.out.on hB⟩
      case cb => intro x W9; exact (Below.refl _ _).alloc (Nat.le_refl _) _
      case ca => intro x W9 l1 o; rw [World.putObj_size]
      case cw => intro x W9 l1 o hl; exact alloc_put hl _ _
      case assign =>
       rintro l1 x W9 K ⟨_, _, _, _, hRd, _⟩ hK
       obtain ⟨⟨pid, ps⟩, sv, bd⟩ := x
       obtain ⟨As, cs, hsv, _⟩ := hRd
       dsimp only at hsv
       subst hsv
       dsimp only [encH] at hK ⊢
       gi_wp2
       exact hK
      case body =>
       rintro l1 prx X W0 Wb hl1 hlW ⟨hv, hI⟩ hpl hbel ⟨hx, hRq, hNz, hO⟩
       obtain ⟨As, cs, hsv, _⟩ := id hRq
       obtain ⟨Wc, hWc⟩ : ∃ Wc, Wc = Wb.alloc (.cells #[.int .i64 X.1.1, .slice As X.1.2.length cs] 71) := ⟨_, rfl⟩
       obtain ⟨H15, hH15⟩ : ∃ H15, H15 = Wb.heap.size := ⟨_, rfl⟩
       have hIb := hI.on hbel
       have hbc : Below Wb.heap.size Wb Wc := by rw [hWc]; exact (Below.refl _ _).alloc (Nat.le_refl _) _
       have hIc := hIb.on hbc
       obtain ⟨Ah, nh, ch, rfl⟩ := hIc.own.sl
       have hhc : Wc.heap[H15]? = some (.cells #[.int .i64 X.1.1, .slice As X.1.2.length cs] 71 (0, 0)) := by rw [hWc, hH15]; exact heap_alloc_new Wb _
       have k0 : Wc.cell? ⟨pb + 1, 0, none⟩ = some (.pointer (some ⟨pb, 0, none⟩)) := (hIc.st.cell HG1.out).trans HX9.out.cell
       have k1 : Wc.cell? ⟨pb, 0, none⟩ = some (.pointer (some ⟨hb, 0, none⟩)) := (hIc.st.cell HG2.out).trans (by have h := HP9.out; simp [World.cell?, h])
       have k2 : Wc.cell? ⟨hb, 0, none⟩ = some (.slice Ah nh ch) := hIc.box.cell
       have k3 : Wc.cell? ⟨H15, 0, none⟩ = some (.int .i64 X.1.1) := by simp [World.cell?, hhc]
       have k4 : Wc.cell? ⟨H15, 1, none⟩ = some (.slice As X.1.2.length cs) := by simp [World.cell?, hhc]
       have HKC := Lib.hid (And.intro k0 (And.intro k1 (And.intro k2 (And.intro k3 k4))))
       obtain ⟨wt, hwt⟩ : ∃ wt, wt = (Wc.alloc (.cells #[.int .i64 X.1.1, .slice As X.1.2.length cs] 71)).drew := ⟨_, rfl⟩
       have hct : Below Wc.heap.size Wc wt := by rw [hwt]; exact ((Below.refl _ Wc).alloc (Nat.le_refl _) _).trans ((((Ext.refl (Wc.alloc (.cells #[.int .i64 X.1.1, .slice As X.1.2.length cs] 71))).drewN _).below).mono (by simp))
       have hIt := hIc.on hct
       have HIT := Lib.hid hIt
       have HOT := Lib.hid hIt.own
       have hRX : RdG EP wt wt.heap.size (.slice (some ⟨Wc.heap.size, 0, none⟩) 1 1) [encX X] := by
        rw [hwt]
        exact (RdG.one1 (E := EP) Wc 71 (by unfold encX; rw [hsv]; rfl)).on (((Ext.refl (Wc.alloc (.cells #[.int .i64 X.1.1, .slice As X.1.2.length cs] 71))).drewN _).below)
       have hlc : Wc.heap.size = H15 + 1 := by rw [hWc, hH15]; simp
       rw [hlc] at hRX
       have HRX := Lib.hid hRX
       have HZ9 : Hid (w9.heap.size ≤ wt.heap.size) := Nat.le_trans hIc.st.size hct.size
       have HLL : Hid (((prx.map encX).length + [encX X].length) * 32 ≤ 140737488355328) := by
        have h1 := HFIT.out.2.2
        show _ ≤ _
        rw [List.length_map, List.length_singleton]; omega
       have hp1 : pb + 1 < Wc.heap.size := lt_of_cell k0
       have hh15 : w9.heap.size ≤ H15 := by rw [hH15]; exact hIb.st.size
       have HLT : Hid (pb + 1 < wt.heap.size ∧ pb < wt.heap.size ∧ H15 < wt.heap.size) := by have := hct.size; show _ ∧ _; omega
       have hpb9 : pb + 1 < w9.heap.size := HG1.out.lt
       have HNE : Hid ((Value.slice Ah nh ch).ownBlock ≠ some (pb + 1) ∧ (Value.slice Ah nh ch).ownBlock ≠ some pb ∧ (Value.slice Ah nh ch).ownBlock ≠ some H15) := by
        refine ⟨fun e => ?_, fun e => ?_, fun e => ?_⟩
        ·have := (hIc.own.blk e).1; omega
        ·have := (hIc.own.blk e).1; omega
        ·have := (hIb.own.blk e).2; omega
       have HNB : Hid (pb + 1 ≠ hb ∧ pb ≠ hb ∧ H15 ≠ hb) := by show _ ∧ _; omega
       have HST : Hid (wt.heap[pb + 1]? = Wc.heap[pb + 1]? ∧ wt.heap[pb]? = Wc.heap[pb]? ∧ wt.heap[H15]? = Wc.heap[H15]?) := ⟨hct.block _ hp1, hct.block _ (by omega), hct.block _ (by omega)⟩
       have hS0 : (World.drew Wc).heap[pb + 1]? = Wc.heap[pb + 1]? ∧ (World.drew Wc).heap[pb]? = Wc.heap[pb]? ∧ (World.drew Wc).heap[H15]? = Wc.heap[H15]? := ⟨rfl, rfl, rfl⟩
       have HKT : Hid (KpT ktO hb Wb wt) := (KpT.below hbc (by omega)).trans (KpT.below hct (by omega))
       have HXX := Lib.hid hx
       have HSV := Lib.hid hsv
       have HRQ := Lib.hid hRq
       have HNZ := Lib.hid hNz
       have HWT := Lib.hid hwt
       have kt2 : wt.cell? ⟨hb, 0, none⟩ = some (.slice Ah nh ch) := (hct.cell (lt_of_cell k2)).trans k2
       dsimp only
       rw [hsv, ← hH15, ← hWc]
       clear hWc hH15 hbc hhc hIb hIc hI hIt hRX hwt hct hRq hNz hO hx hbel hp1 hh15 hpb9
       gi_wp2_with fail
       refine wpIn_calm ?_
       refine wpIn_region_any (by kernel_rfl) ?_
       change wpAnyIn _ _ _ _ _ _ _ _ _ (World.drew _)
       refine heldIn_sound (S := fun w' => w'.heap[pb + 1]? = Wc.heap[pb + 1]? ∧ w'.heap[pb]? = Wc.heap[pb]? ∧ w'.heap[H15]? = Wc.heap[H15]?) _ _ _ _ ?_
       refine heldIn_take (i := 0) (v := ?_) (by kernel_rfl) rfl (by kernel_rfl) (by kernel_rfl) (by kernel_rfl) (fun _ _ _ h => calm_panic h) ⟨Or.inl ⟨by rfl, ?_⟩, fun _ => rfl⟩ hS0 ?_
       rotate_left
       · intro w' hS
         have c0 := (cell_heap hS.1 0).trans HKC.out.1
         (go_simp <;> with_reducible rfl)
       refine heldIn_take (i := 1) (v := ?_) (by kernel_rfl) rfl (by kernel_rfl) (by kernel_rfl) (by kernel_rfl) (fun _ _ _ h => calm_panic h) ⟨Or.inl ⟨by rfl, ?_⟩, fun _ => rfl⟩ hS0 ?_
       rotate_left
       · intro w' _
         (go_simp <;> with_reducible rfl)
       refine heldIn_take (i := 2) (v := ?_) (by kernel_rfl) rfl (by kernel_rfl) (by kernel_rfl) (by kernel_rfl) (fun _ _ _ h => calm_panic h) ⟨Or.inl ⟨by rfl, ?_⟩, fun _ => rfl⟩ hS0 ?_
       rotate_left
       · intro w' _
         (go_simp <;> with_reducible rfl)
       refine heldIn_take (i := 3) (v := ?_) (by kernel_rfl) rfl (by kernel_rfl) (by kernel_rfl) (by kernel_rfl) (fun _ _ _ h => calm_panic h) ⟨Or.inl ⟨by rfl, ?_⟩, fun _ => rfl⟩ hS0 ?_
       rotate_left
       · intro w' hS
         have c0 := (cell_heap hS.2.1 0).trans HKC.out.2.1
         (go_simp <;> with_reducible rfl)
       refine heldIn_take (i := 4) (v := ?_) (by kernel_rfl) rfl (by kernel_rfl) (by kernel_rfl) (by kernel_rfl) (fun _ _ _ h => calm_panic h) ⟨Or.inl ⟨by rfl, ?_⟩, fun _ => rfl⟩ hS0 ?_
       rotate_left
       · intro w' hS
         have c0 := (cell_heap hS.1 0).trans HKC.out.1
         (go_simp <;> with_reducible rfl)
       refine heldIn_take (i := 5) (v := ?_) (by kernel_rfl) rfl (by kernel_rfl) (by kernel_rfl) (by kernel_rfl) (fun _ _ _ h => calm_panic h) ⟨Or.inl ⟨by rfl, ?_⟩, fun _ => rfl⟩ hS0 ?_
       rotate_left
       · intro w' _
         (go_simp <;> with_reducible rfl)
       refine heldIn_take (i := 6) (v := ?_) (by kernel_rfl) rfl (by kernel_rfl) (by kernel_rfl) (by kernel_rfl) (fun _ _ _ h => calm_panic h) ⟨Or.inl ⟨by rfl, ?_⟩, fun _ => rfl⟩ hS0 ?_
       rotate_left
       · intro w' _
         (go_simp <;> with_reducible rfl)
       refine heldIn_take (i := 7) (v := ?_) (by kernel_rfl) rfl (by kernel_rfl) (by kernel_rfl) (by kernel_rfl) (fun _ _ _ h => calm_panic h) ⟨Or.inl ⟨by rfl, ?_⟩, fun _ => rfl⟩ hS0 ?_
       rotate_left
       · intro w' hS
         have c0 := (cell_heap hS.2.1 0).trans HKC.out.2.1
         (go_simp <;> with_reducible rfl)
       refine heldIn_take (i := 8) (v := ?_) (by kernel_rfl) rfl (by kernel_rfl) (by kernel_rfl) (by kernel_rfl) (fun _ _ _ h => calm_panic h) ⟨Or.inl ⟨by rfl, ?_⟩, fun _ => rfl⟩ hS0 ?_
       rotate_left
       · intro w' _
         (go_simp <;> with_reducible rfl)
       refine heldIn_take (i := 9) (v := ?_) (by kernel_rfl) rfl (by kernel_rfl) (by kernel_rfl) (by kernel_rfl) (fun _ _ _ h => calm_panic h) ⟨Or.inl ⟨by rfl, ?_⟩, fun _ => rfl⟩ hS0 ?_
       rotate_left
       · intro w' _
         (go_simp <;> with_reducible rfl)
       refine heldIn_take (i := 11) (v := ?_) (by kernel_rfl) rfl (by kernel_rfl) (by kernel_rfl) (by kernel_rfl) (fun _ _ _ h => calm_panic h) ⟨Or.inl ⟨by rfl, ?_⟩, fun _ => rfl⟩ hS0 ?_
       rotate_left
       · intro w' hS
         have c0 := (cell_heap hS.2.2 0).trans HKC.out.2.2.2.1
         have c1 := (cell_heap hS.2.2 1).trans HKC.out.2.2.2.2
         (go_simp <;> with_reducible rfl)
       refine heldIn_two (i := 10) (j := 12) (by kernel_rfl) rfl rfl (fun K hK => ?_) (fun K hK => ?_)
       ·go_simp
        refine hK _ _ hS0 ?_
        clear hK K
        refine heldIn_one (i := 12) (by kernel_rfl) rfl (fun K hK => ?_)
        go_simp
        rw [← HWT.out]
        refine hK _ _ HST.out ?_
        clear hK K
        refine heldIn_one (i := 13) (by kernel_rfl) rfl (fun K hK => ?_)
        refine step_appNGR EP rfl _ _ 87 71 rfl Tryz.underlying87 info_h rfl (by decide) w9.heap.size _ (prx.map encX) _ [encX X] wt.heap.size rfl HOT.out rfl HRX.out (by simp) HLL.out HZ9.out ?_
        intro v2 w2x hown hg hloc
        obtain ⟨q0, hI2, hK2⟩ := HIT.out.push HWB.out HH9.out HNG.out HXX.out ⟨_, _, _, HSV.out⟩ HRQ.out HNZ.out hg hown
        obtain ⟨A8, n8, c8, e8⟩ := hown.sl
        subst e8
        have d0 := q0.cell
        have d1 := q0.frozen
        have hkk : ∀ k, k < wt.heap.size → (Value.slice Ah nh ch).ownBlock ≠ some k → w2x.heap[k]? = wt.heap[k]? := fun k hk hne => hg.block k hk (fun e => hne e.symm)
        have hS2 : w2x.heap[pb + 1]? = Wc.heap[pb + 1]? ∧ w2x.heap[pb]? = Wc.heap[pb]? ∧ w2x.heap[H15]? = Wc.heap[H15]? :=
         ⟨(hkk _ HLT.out.1 HNE.out.1).trans HST.out.1, (hkk _ HLT.out.2.1 HNE.out.2.1).trans HST.out.2.1, (hkk _ HLT.out.2.2 HNE.out.2.2).trans HST.out.2.2⟩
        have hS3 : (w2x.setCell ⟨hb, 0, none⟩ (.slice A8 n8 c8)).heap[pb + 1]? = Wc.heap[pb + 1]? ∧ (w2x.setCell ⟨hb, 0, none⟩ (.slice A8 n8 c8)).heap[pb]? = Wc.heap[pb]? ∧ (w2x.setCell ⟨hb, 0, none⟩ (.slice A8 n8 c8)).heap[H15]? = Wc.heap[H15]? :=
         ⟨(Below.heap_setCell _ _ _ _ HNB.out.1).trans hS2.1, (Below.heap_setCell _ _ _ _ HNB.out.2.1).trans hS2.2.1, (Below.heap_setCell _ _ _ _ HNB.out.2.2).trans hS2.2.2⟩
        have HS3 := Lib.hid hS3
        have HS2 := Lib.hid hS2
        have HI2 := Lib.hid hI2
        have HK3 : Hid (KpT ktO hb Wb (w2x.setCell ⟨hb, 0, none⟩ (.slice A8 n8 c8))) := HKT.out.trans hK2
        refine hK _ _ hS2 ?_
        clear hK K hown hg hloc hkk hS2 hS3 q0 hI2 hK2
        refine heldIn_take (i := 14) (v := ?_) (by kernel_rfl) rfl (by kernel_rfl) (by kernel_rfl) (by kernel_rfl) (fun _ _ _ h => calm_panic h) ⟨Or.inl ⟨by rfl, ?_⟩, fun _ => rfl⟩ HS2.out ?_
        rotate_left
        · intro w' _
          (go_simp <;> with_reducible rfl)
        refine heldIn_take (i := 15) (v := ?_) (by kernel_rfl) rfl (by kernel_rfl) (by kernel_rfl) (by kernel_rfl) (fun _ _ _ h => calm_panic h) ⟨Or.inl ⟨by rfl, ?_⟩, fun _ => rfl⟩ HS2.out ?_
        rotate_left
        · intro w' _
          (go_simp <;> with_reducible rfl)
        refine heldIn_one (i := 16) (by kernel_rfl) rfl (fun K hK => ?_)
        go_simp
        refine hK _ _ HS3.out ?_
        clear hK K
        refine heldIn_done (by kernel_rfl) ⟨rfl, ?_⟩ _
        gi_wp2_with fail
        exact ⟨HK3.out, _, HI2.out⟩
       ·go_simp
        rw [← HWT.out]
        refine hK _ _ HST.out ?_
        clear hK K
        refine heldIn_one (i := 10) (by kernel_rfl) rfl (fun K hK => ?_)
        go_simp
        refine hK _ _ HST.out ?_
        clear hK K
        refine heldIn_one (i := 13) (by kernel_rfl) rfl (fun K hK => ?_)
        refine step_appNGR EP rfl _ _ 87 71 rfl Tryz.underlying87 info_h rfl (by decide) w9.heap.size _ (prx.map encX) _ [encX X] wt.heap.size rfl HOT.out rfl HRX.out (by simp) HLL.out HZ9.out ?_
        intro v2 w2x hown hg hloc
        obtain ⟨q0, hI2, hK2⟩ := HIT.out.push HWB.out HH9.out HNG.out HXX.out ⟨_, _, _, HSV.out⟩ HRQ.out HNZ.out hg hown
        obtain ⟨A8, n8, c8, e8⟩ := hown.sl
        subst e8
        have d0 := q0.cell
        have d1 := q0.frozen
        have hkk : ∀ k, k < wt.heap.size → (Value.slice Ah nh ch).ownBlock ≠ some k → w2x.heap[k]? = wt.heap[k]? := fun k hk hne => hg.block k hk (fun e => hne e.symm)
        have hS2 : w2x.heap[pb + 1]? = Wc.heap[pb + 1]? ∧ w2x.heap[pb]? = Wc.heap[pb]? ∧ w2x.heap[H15]? = Wc.heap[H15]? :=
         ⟨(hkk _ HLT.out.1 HNE.out.1).trans HST.out.1, (hkk _ HLT.out.2.1 HNE.out.2.1).trans HST.out.2.1, (hkk _ HLT.out.2.2 HNE.out.2.2).trans HST.out.2.2⟩
        have hS3 : (w2x.setCell ⟨hb, 0, none⟩ (.slice A8 n8 c8)).heap[pb + 1]? = Wc.heap[pb + 1]? ∧ (w2x.setCell ⟨hb, 0, none⟩ (.slice A8 n8 c8)).heap[pb]? = Wc.heap[pb]? ∧ (w2x.setCell ⟨hb, 0, none⟩ (.slice A8 n8 c8)).heap[H15]? = Wc.heap[H15]? :=
         ⟨(Below.heap_setCell _ _ _ _ HNB.out.1).trans hS2.1, (Below.heap_setCell _ _ _ _ HNB.out.2.1).trans hS2.2.1, (Below.heap_setCell _ _ _ _ HNB.out.2.2).trans hS2.2.2⟩
        have HS3 := Lib.hid hS3
        have HS2 := Lib.hid hS2
        have HI2 := Lib.hid hI2
        have HK3 : Hid (KpT ktO hb Wb (w2x.setCell ⟨hb, 0, none⟩ (.slice A8 n8 c8))) := HKT.out.trans hK2
        refine hK _ _ hS2 ?_
        clear hK K hown hg hloc hkk hS2 hS3 q0 hI2 hK2
        refine heldIn_take (i := 14) (v := ?_) (by kernel_rfl) rfl (by kernel_rfl) (by kernel_rfl) (by kernel_rfl) (fun _ _ _ h => calm_panic h) ⟨Or.inl ⟨by rfl, ?_⟩, fun _ => rfl⟩ HS2.out ?_
        rotate_left
        · intro w' _
          (go_simp <;> with_reducible rfl)
        refine heldIn_take (i := 15) (v := ?_) (by kernel_rfl) rfl (by kernel_rfl) (by kernel_rfl) (by kernel_rfl) (fun _ _ _ h => calm_panic h) ⟨Or.inl ⟨by rfl, ?_⟩, fun _ => rfl⟩ HS2.out ?_
        rotate_left
        · intro w' _
          (go_simp <;> with_reducible rfl)
        refine heldIn_one (i := 16) (by kernel_rfl) rfl (fun K hK => ?_)
        go_simp
        refine hK _ _ HS3.out ?_
        clear hK K
        refine heldIn_done (by kernel_rfl) ⟨rfl, ?_⟩ _
        gi_wp2_with fail
        exact ⟨HK3.out, _, HI2.out⟩
      case done =>
       rintro xs W0 W2 hS ⟨hv, hI⟩ hbel hlt hdef
       have hI2 := hI.on hbel
       have hI3 := hI2.put hdef rfl (Nat.le_refl _) hWs (.deferred none)
       have hq := hI3.heads hS
       have hgk : ∀ g cc z, w9.heap[g]? = some (.cells cc 66 z) → GdO hb w9 g := fun g cc z h => ⟨_, h, .inr rfl⟩
       have hgp : ∀ g cc z, w9.heap[g]? = some (.cells cc 62 z) → GdO hb w9 g := fun g cc z h => ⟨_, h, .inr rfl⟩
       have hO3 := HO9.out.st hI3.st hgk hgp
       have hPt : PartAt (W2.putObj w9.heap.size (.deferred none)) pb hb (.slice A4 n4 cr4) := ⟨(hI3.st.cell HG2.out).trans (by have h := HP9.out; simp [World.cell?, h]), (hI3.st.cell HG2.out).trans (by have h := HP9.out; simp [World.cell?, h])⟩
       have kx : W2.cell? ⟨pb + 1, 0, none⟩ = some (.pointer (some ⟨pb, 0, none⟩)) := (hI2.st.cell HG1.out).trans HX9.out.cell
       have HDF := Lib.hid hdef
       have HFIN : Hid (OpnR W bw (.returned (.tuple #[.pointer (some ⟨pb, 0, none⟩), .int .i64 0])) (W2.putObj w9.heap.size (.deferred none))) := ⟨hI3.below, .inr ⟨c0, pb, hb, .slice A4 n4 cr4, hv, HV.out, rfl, hPt, by omega, hI3.box.cell, hO3, hq⟩⟩
       clear hI hI2 hI3 hq hgk hgp hO3 hPt hdef hbel
       gi_wp2_with fail
       refine ⟨by simp, .inl ⟨_, _, rfl, run_takeDeferred HDF.out, ?_⟩⟩
       exact ⟨.tuple #[.pointer (some ⟨pb, 0, none⟩), .int .i64 0], by unfold results; rw [hr]; go_simp, HFIN.out⟩
      case stop => rintro xs W0 W2 _ hX; exact hX.elim
     ·have HV : Hid (openV b = none) := by
       show _ = _
       rw [hov, if_neg (fun e => g4 (by injection e))]
      rw [decide_eq_false g4] at KE
      clear hov g4
      gi_wp2_with fail
      refine KE.out.mono ?_
      rintro e w8 ⟨rfl, hw8⟩
      have hw8 := hw8.symm
      subst hw8
      gi_wp2_with fail
      exact ⟨.tuple #[.pointer none, .int .i64 170], by unfold results; rw [hr]; go_simp, HB17.out, .inl ⟨HV.out, rfl⟩⟩
    ·have HV : Hid (openV b = none) := by
      show _ = _
      rw [hov, if_neg (fun e => g3 (by injection e))]
     have g5 : (bc == 0) = false := by simp [g3]
     have g6 : (bc != 0) = true := by simp [g3]
     have g7 : decide (bc = 0) = false := by simp [g3]
     clear hov
     gi_wp2_with fail
     exact ⟨.tuple #[.pointer none, .int .i64 170], by unfold results; rw [hr]; go_simp, HB17.out, .inl ⟨HV.out, rfl⟩⟩
  ·have HV : Hid (openV b = none) := openV_none (by rw [HE.out, open_err (by rw [← her]; exact e1)]; rfl)
   have g1 : (er == 0) = false := by simp [e1]
   clear her hkd e1
   gi_wp2_with fail
   refine KX.out.mono ?_
   rintro e w2 ⟨Ab, nb, cb, A2, n2, c2, rfl, hB2, _⟩
   have HB2 : Hid (Below W.heap.size W w2) := HB.out.trans (hB2.mono HB.out.size)
   clear hB2 KX
   gi_wp2_with fail
   exact ⟨.tuple #[.pointer none, .int .i64 170], by unfold results; rw [hr]; go_simp, HB2.out, .inl ⟨HV.out, rfl⟩⟩
end Go.Proofs.YtnkelahimiipjaaGreatDoor
