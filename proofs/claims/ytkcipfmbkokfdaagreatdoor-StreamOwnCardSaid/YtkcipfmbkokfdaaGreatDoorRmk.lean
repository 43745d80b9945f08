/-
  The reference's Merge.
-/
import Derived.Test.YtkcipfmbkokfdaaGreatDoorRkk
import Derived.Test.YtkcipfmbkokfdaaGreatDoorPpk
namespace Go.Proofs.YtkcipfmbkokfdaaGreatDoor
open Go.RowKit Go.Sort Go.Maps
/-- A row of rows of points, none with room in no memory. -/
def RdQ (w : World) (B : Nat) (v : Value) (ll : List (List Pts)) : Prop :=
  ∃ A c, v = .slice A ll.length c ∧ ll.length ≤ c ∧ (ll = [] ∨ ∃ b o, A = some ⟨b, o, none⟩ ∧ b < B ∧ ∀ i (h : i < ll.length), ∃ sv, w.cell? ⟨b, o + i, none⟩ = some sv ∧ RdP w B sv ll[i] ∧ Nz sv)
theorem RdQ.rdR {w : World} {B : Nat} {v : Value} {ll : List (List Pts)} (h : RdQ w B v ll) : RdR w B v ll := by
  obtain ⟨A, c, e, hc, hA⟩ := h
  exact ⟨A, c, e, hc, hA.imp id fun ⟨b, o, e, hb, hcl⟩ => ⟨b, o, e, hb, fun i hi => by
    obtain ⟨sv, h1, h2, _⟩ := hcl i hi
    exact ⟨sv, h1, h2⟩⟩⟩
theorem RdQ.on {w w' : World} {v : Value} {ll : List (List Pts)} (h : RdQ w w.heap.size v ll) (k : Below w.heap.size w w') : RdQ w' w'.heap.size v ll := by
  obtain ⟨A, c, e, hc, hA⟩ := h
  exact ⟨A, c, e, hc, hA.imp id fun ⟨b, o, e, hb, hcl⟩ => ⟨b, o, e, Nat.lt_of_lt_of_le hb k.size, fun i hi => by
    obtain ⟨sv, h1, h2, h3⟩ := hcl i hi
    exact ⟨sv, (k.cell hb).trans h1, (h2.below k).mono k.size, h3⟩⟩⟩
theorem flat_take_len (ll : List (List Pts)) (k : Nat) : (ll.take k).flatten.length ≤ ll.flatten.length := by
  have e : ll.flatten = (ll.take k).flatten ++ (ll.drop k).flatten := by rw [← List.flatten_append, List.take_append_drop]
  rw [e, List.length_append]; omega
set_option maxRecDepth 100000 in
set_option maxHeartbeats 4000000 in
theorem rmerge_walk (v : Value) (ll : List (List Pts)) (d : Int) (gv : Value) (g : List Int) (f : Int) (W : World) (hR : RdQ W W.heap.size v ll) (hG : RdZ W W.heap.size gv g) (hg : g.length ≤ 1000000) (hn1 : ll.length ≤ 100000) (hn2 : ll.flatten.length ≤ 100000) (hn3 : manyL ll.flatten ≤ 10000) :
    Calls Tryz.prog 13 #[.int .i64 d, gv, .int .i64 f, v] W fun e w' => ∃ r, e = .returned r ∧ RdP w' w'.heap.size r (mergeS d g f ll) ∧ Below W.heap.size W w' := by
  have HG := Lib.hid hG
  obtain ⟨A0, c0, rfl, hc0, _⟩ := hG
  obtain ⟨g0, hg0⟩ : ∃ g0, g0 = g.length := ⟨_, rfl⟩
  rw [← hg0] at hc0 HG ⊢
  obtain ⟨A, c, rfl, hc, hA⟩ := hR
  obtain ⟨n, hn⟩ : ∃ n, n = ll.length := ⟨_, rfl⟩
  rw [← hn] at hc hn1 ⊢
  have HN := Lib.hid hn
  have HA := Lib.hid hA
  have HF2 := Lib.hid hn2
  have HF3 := Lib.hid hn3
  have HGl := Lib.hid hg
  clear hn hA hc hn2 hn3 hg hg0
  go_enter Tryz.func13, Tryz.ntmps13
  go_wp2_with fail
  go_loopw [9, 10] (fun o i wl => ∃ (k : Nat) (cs : List Row), k ≤ n ∧ i = .int .i64 k ∧ Hid (OwP wl W.heap.size o cs) ∧ Hid (cut cs = (ll.take k).flatten) ∧ Hid (Below W.heap.size W wl))
    (fun _ i _ => n - (intOf i).toNat)
  case atStart => exact ⟨0, [], Nat.zero_le _, rfl, OwP.nil _ _, rfl, Below.refl _ _⟩
  case round =>
    obtain ⟨k, cs, hk, rfl, HO, HC, HB⟩ := hrel
    by_cases hlt : k < n
    · have hkl : k < ll.length := by rw [← HN.out]; exact hlt
      rcases HA.out with h0 | ⟨b, o, e, hb, hcl⟩
      · subst h0; simp at hkl
      subst e
      obtain ⟨sv, hsv, hrow, hz⟩ := hcl k hkl
      have c1 : wr.cell? ⟨b, o + k, none⟩ = some sv := (HB.out.cell hb).trans hsv
      have HRow := Lib.hid (hrow.below HB.out)
      have HZ := Lib.hid hz
      have HT : Hid ((ll.take (k + 1)).flatten = (ll.take k).flatten ++ ll[k]) := by
        show _ = _
        rw [List.take_succ_eq_append_getElem hkl, List.flatten_append, List.flatten_cons, List.flatten_nil, List.append_nil]
      have HLn : Hid ((cs.length + ll[k].length) * 32 ≤ 140737488355328) := by
        have h1 := congrArg List.length HC.out
        have h2 := flat_take_len ll (k + 1)
        rw [HT.out, List.length_append] at h2
        have h3 := HF2.out
        have h4 : (cut cs).length = cs.length := by simp [cut]
        show _ ≤ _
        omega
      have i1 : (k : Int) < (n : Int) := by omega
      obtain ⟨row, hrow'⟩ : ∃ row, row = ll[k] := ⟨_, rfl⟩
      rw [← hrow'] at HRow HT HLn
      clear hrow' hcl hsv hrow hz
      go_wp2_with (at_builtin; refine appNP rfl _ _ 29 rfl Tryz.underlying29 info_Pt W.heap.size _ cs _ row W.heap.size rfl HO.out rfl HRow.out HZ.out (Nat.le_refl _) HLn.out HB.out.size ?_; intro v1 w1 cs1 h1 h2 h3 h4; have HO1 := Lib.hid h1; have HC1 := Lib.hid h2; have HB1 : Hid (Below W.heap.size W w1) := HB.out.grown h3 HB.out.size (fun g hg => (World.ownsRow.lt HO.out.row g hg).1); clear h1 h2 h3 h4)
      go_roundw
      case rel => exact ⟨k + 1, cs1, by omega, by go_num, HO1.out, by show _ = _; rw [HC1.out, HT.out, HC.out], HB1.out⟩
      case measure => simp [intOf]; omega
    · obtain rfl : n = k := by omega
      obtain ⟨wr0, rfl⟩ : ∃ w0, w0 = wr := ⟨wr, rfl⟩
      have HC2 : Hid (cut cs = ll.flatten) := by show _ = _; rw [HC.out, HN.out, List.take_length]
      obtain ⟨all, hall⟩ : ∃ all, all = ll.flatten := ⟨_, rfl⟩
      rw [← hall] at HC2 HF2 HF3
      have HAll := Lib.hid hall
      have hr0 := HO.out.rdP
      rw [HC2.out] at hr0
      have HRall := Lib.hid hr0
      have KI := Lib.hid (rids_walk _ all wr0 HRall.out HF2.out)
      have KO := Lib.hid (fun id w' (hb : Below wr0.heap.size wr0 w') => rof_walk _ all id w' (HRall.out.on hb) HF2.out HF3.out)
      have HB0 := Lib.hid HB.out
      have HIL : Hid ((idsR all).length ≤ 100000) := by show _ ≤ _; have := idsR_length all; have := HF2.out; omega
      clear hall hr0 HB HO HC
      go_wp2_with (go_at_call 33; refine KI.out.mono ?_; rintro e w1 ⟨iv, rfl, hI, hIz, hB1⟩; obtain ⟨ks, hks⟩ : ∃ ks, ks = idsR all := ⟨_, rfl⟩; rw [← hks] at hI HIL; have HKS := Lib.hid hks; obtain ⟨A2, c2, rfl, hc2, hA2⟩ := hI; obtain ⟨m, hm⟩ : ∃ m, m = ks.length := ⟨_, rfl⟩; rw [← hm] at hc2 HIL; rw [← hm]; have HM := Lib.hid hm; have HA2 := Lib.hid hA2; have HB1 := Lib.hid hB1; have hml := HIL.out; clear hm hA2 hB1 hks hIz KI HIL)
      go_loopw [11, 13, 14, 15] (fun o i _ _ wl => ∃ (k : Nat) (cs : List Row), k ≤ m ∧ i = .int .i64 k ∧ Hid (OwP wl w1.heap.size o cs) ∧ Hid (cut cs = fosC (foM d g f) ((ks.take k).map (fun k => (k, sortS (ofL all k))))) ∧ Hid (cs.length ≤ k) ∧ Hid (Below w1.heap.size w1 wl))
        (fun _ i _ _ _ => m - (intOf i).toNat)
      case atStart => exact ⟨0, [], Nat.zero_le _, rfl, OwP.nil _ _, rfl, Nat.le_refl _, Below.refl _ _⟩
      case round =>
        obtain ⟨k, cs, hk, rfl, HO, HC, HL, HB⟩ := hrel
        by_cases hlt : k < m
        · have hkl : k < ks.length := by rw [← HM.out]; exact hlt
          rcases HA2.out with h0 | ⟨b, o, e, hb, hcl⟩
          · subst h0; simp at hkl
          subst e
          obtain ⟨z, hz⟩ : ∃ z, z = ks[k] := ⟨_, rfl⟩
          have c0 : wr.cell? ⟨b, o + k, none⟩ = some (.int .i64 z) := by rw [hz]; exact (HB.out.cell hb).trans (hcl k hkl)
          have HC0 := Lib.hid c0
          have HCu : Hid (fosC (foM d g f) ((ks.take (k + 1)).map (fun k => (k, sortS (ofL all k)))) = if (foM d g f z (sortS (ofL all z))).length = 0 then cut cs else cut cs ++ [(z, foM d g f z (sortS (ofL all z)))]) := by
            show _ = _
            rw [take_map_snoc _ ks k hkl z hz, fosC_snoc, ← HC.out]
          have HBW : Hid (Below wr0.heap.size wr0 wr) := HB1.out.trans (HB.out.mono HB1.out.size)
          have HBV : Hid (Below W.heap.size W wr) := HB0.out.trans (HBW.out.mono HB0.out.size)
          have HOl : Hid ((sortS (ofL all z)).length ≤ 10000) := by
            have h1 := ofL_len all z
            have h2 := sortS_length (ofL all z)
            have h3 := HF3.out
            unfold manyL at h3
            show _ ≤ _
            omega
          have KIn := Lib.hid (in_walk _ g z wr (HG.out.on HBV.out) (by have := HGl.out; omega))
          have i1 : (k : Int) < (m : Int) := by omega
          clear hz hcl
          go_wp2_with fail
          refine KIn.out.mono ?_
          rintro e w2 ⟨rfl, hE2⟩
          obtain ⟨p, hp⟩ : ∃ p, p = decide (z ∈ g) := ⟨_, rfl⟩
          have HP := Lib.hid hp
          rw [← hp]
          have HE2 := Lib.hid hE2.below
          have c1 : w2.cell? ⟨b, o + k, none⟩ = some (.int .i64 z) := hE2.cell_some HC0.out
          have KO1 := Lib.hid (KO.out z w2 (HBW.out.trans (HE2.out.mono HBW.out.size)))
          clear c0 hp hE2 KIn
          go_wp2_with fail
          refine KO1.out.mono ?_
          rintro e w3 ⟨r3, rfl, h1, h2⟩
          have HE3 := Lib.hid (HE2.out.trans (h2.mono HE2.out.size))
          have KD := Lib.hid (rdedup_walk r3 _ d w3 h1.rd HOl.out)
          clear h1 h2 KO1 c1
          go_wp2_with fail
          refine KD.out.mono ?_
          rintro e w4 ⟨r4, rfl, h1, h2⟩
          have HE4 := Lib.hid (HE3.out.trans (h2.mono HE3.out.size))
          have KC := Lib.hid (rclip_walk r4 _ f 1099511627776 w4 h1.rd (by have := dedupS_length d (sortS (ofL all z)); have := HOl.out; omega))
          clear h1 h2 KD
          go_wp2_with fail
          refine KC.out.mono ?_
          rintro e w5 ⟨r5, rfl, h1, h2⟩
          have HE5 : Hid (Below wr.heap.size wr w5) := HE4.out.trans (h2.mono HE4.out.size)
          obtain ⟨s, hs⟩ : ∃ s, s = delS f 1099511627776 (dedupS d (sortS (ofL all z))) := ⟨_, rfl⟩
          have HF9 : Hid (foM d g f z (sortS (ofL all z)) = if p then [] else s) := by
            show _ = _
            unfold foM
            rw [HP.out, hs]
            by_cases h : z ∈ g <;> simp [h]
          rw [← hs] at h1
          rw [HF9.out] at HCu
          have HOw := Lib.hid (h1.lower HE4.out.size)
          have HO2 := Lib.hid (HO.out.on HE5.out)
          have HAw := Lib.hid (AwR.own HO.out HOw.out)
          have HB2 : Hid (Below w1.heap.size w1 w5) := HB.out.trans (HE5.out.mono HB.out.size)
          have HRd := Lib.hid h1.rd
          have HNz := Lib.hid h1.nz
          have c2 : w5.cell? ⟨b, o + k, none⟩ = some (.int .i64 z) := (HE5.out.cell (lt_of_cell HC0.out)).trans HC0.out
          obtain ⟨A3, c3, rfl, hc3, _⟩ := h1.rd
          obtain ⟨n3, hn3⟩ : ∃ n3, n3 = s.length := ⟨_, rfl⟩
          rw [← hn3] at hc3 HOw HAw HRd HNz ⊢
          have HN3 := Lib.hid hn3
          clear h1 h2 hs HC KC HO hn3 HF9
          by_cases hne : n3 = 0
          · have HC2 : Hid (cut cs = fosC (foM d g f) ((ks.take (k + 1)).map (fun k => (k, sortS (ofL all k))))) := by
              show _ = _
              rw [HCu.out, if_pos]
              cases p
              · exact HN3.out.symm.trans hne
              · rfl
            subst hne
            go_wp2_with fail
            go_roundw
            case rel =>
              have hq := Below.refl w5.heap.size w5
              exact ⟨k + 1, cs, by omega, by go_num, HO2.out.on hq, HC2.out, by show _ ≤ _; have := HL.out; omega, HB2.out.trans (hq.mono HB2.out.size)⟩
            case measure => simp [intOf]; omega
          · have g1 : 0 < n3 := by omega
            have g2 : (0 : Int) < (n3 : Int) := by omega
            cases p with
            | true =>
              have HC2 : Hid (cut cs = fosC (foM d g f) ((ks.take (k + 1)).map (fun k => (k, sortS (ofL all k))))) := by
                show _ = _
                rw [HCu.out]; rfl
              go_wp2_with fail
              go_roundw
              case rel =>
                have hq := Below.refl w5.heap.size w5
                exact ⟨k + 1, cs, by omega, by go_num, HO2.out.on hq, HC2.out, by show _ ≤ _; have := HL.out; omega, HB2.out.trans (hq.mono HB2.out.size)⟩
              case measure => simp [intOf]; omega
            | false =>
              have HC2 : Hid (cut (cs ++ [(z, .slice A3 n3 c3, s)]) = fosC (foM d g f) ((ks.take (k + 1)).map (fun k => (k, sortS (ofL all k))))) := by
                show _ = _
                rw [HCu.out, cut_one]
                have h9 : s.length ≠ 0 := by have := HN3.out; omega
                rw [if_neg (by decide : ¬ (false = true)), if_neg h9]
              have HO6 := HO2
              have HRd6 := HRd
              have HAw6 := HAw
              have HB6 := HB2
              have HBa : Hid (∀ o, Below w5.heap.size w5 (w5.alloc o)) := fun o => (Below.refl _ _).alloc (Nat.le_refl _) _
              go_wp2_with (at_builtin; refine app1P rfl _ _ 29 rfl Tryz.underlying29 info_Pt w1.heap.size _ cs (z, .slice A3 n3 c3, s) rfl (HO6.out.on (HBa.out _)) w5.heap.size 0 1 rfl (new_cell _ _ _ 0) (new_cell _ _ _ 1) ((HRd6.out.below (HBa.out _)).mono (HBa.out _).size) HNz.out (HAw.out.on (HBa.out _).size) (by have := HL.out; omega) (Nat.le_trans HB6.out.size (HBa.out _).size) ?_; intro v7 w7 h1 h2 h3; have HO7 := Lib.hid h1; have HB7 : Hid (Below w1.heap.size w1 w7) := (HB6.out.alloc HB6.out.size _).grown h2 (Nat.le_trans HB6.out.size (HBa.out _).size) (fun g hg => (World.ownsRow.lt HO6.out.row g hg).1); clear h1 h2 h3)
              go_roundw
              case rel => exact ⟨k + 1, _, by omega, by go_num, HO7.out, HC2.out, by show _ ≤ _; have := HL.out; simp; omega, HB7.out⟩
              case measure => simp [intOf]; omega
        · obtain rfl : m = k := by omega
          have HC2 : Hid (cut cs = mergeS d g f ll) := by
            show _ = _
            rw [HC.out, HM.out, List.take_length, HKS.out, HAll.out]
            rfl
          go_wp2_with fail
          go_ret
          exact ⟨_, rfl, by rw [← HC2.out]; exact HO.out.rdP, HB0.out.trans ((HB1.out.trans (HB.out.mono HB1.out.size)).mono HB0.out.size)⟩
end Go.Proofs.YtkcipfmbkokfdaaGreatDoor
