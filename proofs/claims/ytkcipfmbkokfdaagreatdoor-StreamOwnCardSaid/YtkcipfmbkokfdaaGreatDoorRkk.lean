/-
  The reference's own words on points: Of, Ids.
-/
import Derived.Test.YtkcipfmbkokfdaaGreatDoorPzk
import Derived.Test.YtkcipfmbkokfdaaGreatDoorRwk
import Derived.Test.YtkcipfmbkokfdaaGreatDoorPpk
namespace Go.Proofs.YtkcipfmbkokfdaaGreatDoor
open Go.RowKit Go.Sort Go.Maps
set_option maxRecDepth 100000 in
set_option maxHeartbeats 2000000 in
theorem rof_walk (v : Value) (l : List Pts) (id : Int) (W : World) (hR : RdP W W.heap.size v l) (hn : l.length ≤ 100000) (hm : manyL l ≤ 10000) :
    Calls Tryz.prog 23 #[v, .int .i64 id] W fun e w' => ∃ r, e = .returned r ∧ Own w' W.heap.size 52 r (sortS (ofL l id)) ∧ Below W.heap.size W w' := by
  obtain ⟨A, c, rfl, hc, hA⟩ := hR
  obtain ⟨n, hn'⟩ : ∃ n, n = l.length := ⟨_, rfl⟩
  rw [← hn'] at hc hn ⊢
  have HN := Lib.hid hn'
  have HA := Lib.hid hA
  have HM := Lib.hid hm
  have HL : Hid (∀ k, (ofL (l.take k) id).length ≤ 10000) := fun k => by
    have h1 := ofL_len (l.take k) id
    have h2 := manyL_take l k
    unfold manyL at h2 hm
    omega
  clear hn' hA hc hm
  go_enter Tryz.func23, Tryz.ntmps23
  go_wp2_with fail
  go_loopw [5, 6] (fun o i wl => ∃ k : Nat, k ≤ n ∧ i = .int .i64 k ∧ Hid (Own wl W.heap.size 52 o (ofL (l.take k) id)) ∧ Hid (Below W.heap.size W wl))
    (fun _ i _ => n - (intOf i).toNat)
  case atStart => exact ⟨0, Nat.zero_le _, rfl, Own.nil _ _ _, Below.refl _ _⟩
  case round =>
    obtain ⟨k, hk, rfl, HO, HB⟩ := hrel
    by_cases hlt : k < n
    · have hkl : k < l.length := by rw [← HN.out]; exact hlt
      rcases HA.out with h0 | ⟨b, o, e, hb, hcl⟩
      · subst h0; simp at hkl
      subst e
      obtain ⟨p, hp⟩ : ∃ p, p = l[k] := ⟨_, rfl⟩
      obtain ⟨c0, ps, c1, hps, hnz⟩ : PtAt wr W.heap.size b (o + k * 2) p := by rw [hp]; exact (hcl k hkl).below HB.out hb
      have HPS := Lib.hid hps
      have HNZ := Lib.hid hnz
      have HT : Hid (ofL (l.take (k + 1)) id = if id = p.1 then ofL (l.take k) id ++ p.2 else ofL (l.take k) id) := by
        show _ = _
        rw [List.take_succ_eq_append_getElem hkl, ← hp, ofL_snoc]
        split
        · rename_i h; rw [h]
        · rfl
      have HL1 := Lib.hid (HL.out (k + 1))
      have i1 : (k : Int) < (n : Int) := by omega
      clear hp hcl hps hnz
      by_cases he : p.1 = id
      · have g1 : ((p.1 : Int) == id) = true := by simp [he]
        have HT2 : Hid (ofL (l.take (k + 1)) id = ofL (l.take k) id ++ p.2) := by show _ = _; rw [HT.out, if_pos he.symm]
        have hlen : ((ofL (l.take k) id).length + p.2.length) * 32 ≤ 140737488355328 := by
          have h1 := HL1.out
          rw [HT2.out, List.length_append] at h1
          omega
        have HLen := Lib.hid hlen
        clear he hlen
        go_wp2_with (at_builtin; refine appN rfl _ _ 40 52 rfl Tryz.underlying40 info_Smp W.heap.size _ _ _ p.2 W.heap.size rfl HO.out rfl HPS.out HNZ.out HLen.out HB.out.size ?_; intro v1 w1 h1 h2 _ _; have HO1 := Lib.hid h1; have HB1 : Hid (Below W.heap.size W w1) := HB.out.grown h2 HB.out.size (fun g hg => (HO.out.blk hg).1); clear h1 h2)
        go_roundw
        case rel => exact ⟨k + 1, by omega, by go_num, by show Own _ _ _ _ _; rw [HT2.out]; exact HO1.out, HB1.out⟩
        case measure => simp [intOf]; omega
      · have g1 : ((p.1 : Int) == id) = false := by simp [he]
        have HT2 : Hid (ofL (l.take (k + 1)) id = ofL (l.take k) id) := by show _ = _; rw [HT.out, if_neg (fun h => he h.symm)]
        clear he
        go_wp2_with fail
        go_roundw
        case rel => exact ⟨k + 1, by omega, by go_num, by show Own _ _ _ _ _; rw [HT2.out]; exact HO.out, HB.out⟩
        case measure => simp [intOf]; omega
    · obtain rfl : n = k := by omega
      have h0 := HO.out
      rw [HN.out, List.take_length] at h0
      have HO2 := Lib.hid h0
      clear h0
      have KS := Lib.hid (rsort_walkO _ (ofL l id) wr HO2.out.rd (by have h := HL.out n; rw [HN.out, List.take_length] at h; exact h))
      go_wp2_with (go_at_call 44; refine KS.out.mono ?_; rintro e w2 ⟨r, rfl, h1, h2⟩; rw [rsortS_eq] at h1; have H1 := Lib.hid h1; have H2 := Lib.hid h2; clear h1 h2)
      go_ret
      exact ⟨r, rfl, H1.out.lower HB.out.size, HB.out.trans (H2.out.mono HB.out.size)⟩
set_option maxRecDepth 100000 in
set_option maxHeartbeats 2000000 in
theorem rids_walk (v : Value) (l : List Pts) (W : World) (hR : RdP W W.heap.size v l) (hn : l.length ≤ 100000) :
    Calls Tryz.prog 33 #[v] W fun e w' => ∃ r, e = .returned r ∧ RdZ w' w'.heap.size r (idsR l) ∧ Nz r ∧ Below W.heap.size W w' := by
  obtain ⟨A, c, rfl, hc, hA⟩ := hR
  obtain ⟨n, hn'⟩ : ∃ n, n = l.length := ⟨_, rfl⟩
  rw [← hn'] at hc hn ⊢
  have HN := Lib.hid hn'
  have HA := Lib.hid hA
  have HL : Hid (∀ k, (idsR (l.take k)).length ≤ 1000000) := fun k => by
    have h1 := idsR_length (l.take k)
    rw [List.length_take] at h1
    omega
  clear hn' hA hc
  go_enter Tryz.func33, Tryz.ntmps33
  go_wp2_with fail
  go_loopw [3, 4] (fun o i wl => ∃ k : Nat, k ≤ n ∧ i = .int .i64 k ∧ Hid (RdZ wl wl.heap.size o (idsR (l.take k))) ∧ Hid (Nz o) ∧ Hid (Below W.heap.size W wl))
    (fun _ i _ => n - (intOf i).toNat)
  case atStart => exact ⟨0, Nat.zero_le _, rfl, (OwZ.nil _ 0).rd, nz_nil, Below.refl _ _⟩
  case round =>
    obtain ⟨k, hk, rfl, HO, HZ, HB⟩ := hrel
    by_cases hlt : k < n
    · have hkl : k < l.length := by rw [← HN.out]; exact hlt
      rcases HA.out with h0 | ⟨b, o, e, hb, hcl⟩
      · subst h0; simp at hkl
      subst e
      obtain ⟨p, hp⟩ : ∃ p, p = l[k] := ⟨_, rfl⟩
      obtain ⟨c0, _⟩ : PtAt wr W.heap.size b (o + k * 2) p := by rw [hp]; exact (hcl k hkl).below HB.out hb
      have HT : Hid (idsR (l.take (k + 1)) = if inR p.1 then putZ (idsR (l.take k)) p.1 else idsR (l.take k)) := by
        show _ = _
        rw [List.take_succ_eq_append_getElem hkl, ← hp]
        unfold idsR
        rw [List.foldl_append]
        rfl
      have i1 : (k : Int) < (n : Int) := by omega
      obtain ⟨z, hz⟩ : ∃ z, z = p.1 := ⟨_, rfl⟩
      rw [← hz] at c0 HT
      have HC0 := Lib.hid c0
      clear hp hcl hz
      by_cases hin : 1 ≤ z ∧ z ≤ 1073741824
      · obtain ⟨z1, z2⟩ := hin
        have HT2 : Hid (idsR (l.take (k + 1)) = putZ (idsR (l.take k)) z) := by show _ = _; rw [HT.out, if_pos (by simp [inR, z1, z2])]
        have KP := Lib.hid (putZ_walk _ (idsR (l.take k)) z wr HO.out HZ.out (HL.out k))
        go_wp2_with (go_at_call 40; refine KP.out.mono ?_; rintro e w2 ⟨r, rfl, h1, h2, h3⟩; rw [← HT2.out] at h1; have H1 := Lib.hid h1; have H2 := Lib.hid h2; have H3 := Lib.hid (HB.out.trans (h3.mono HB.out.size)); clear h1 h2 h3)
        go_roundw
        case rel => exact ⟨k + 1, by omega, by go_num, H1.out, H2.out, H3.out⟩
        case measure => simp [intOf]; omega
      · have HT2 : Hid (idsR (l.take (k + 1)) = idsR (l.take k)) := by
          show _ = _
          rw [HT.out, if_neg]
          intro h
          simp [inR] at h
          exact hin h
        by_cases z1 : 1 ≤ z
        · have z2 : ¬ z ≤ 1073741824 := fun h => hin ⟨z1, h⟩
          go_wp2_with fail
          go_roundw
          case rel => exact ⟨k + 1, by omega, by go_num, by show RdZ _ _ _ _; rw [HT2.out]; exact HO.out, HZ.out, HB.out⟩
          case measure => simp [intOf]; omega
        · go_wp2_with fail
          go_roundw
          case rel => exact ⟨k + 1, by omega, by go_num, by show RdZ _ _ _ _; rw [HT2.out]; exact HO.out, HZ.out, HB.out⟩
          case measure => simp [intOf]; omega
    · obtain rfl : n = k := by omega
      have h0 := HO.out
      rw [HN.out, List.take_length] at h0
      have HO2 := Lib.hid h0
      clear h0
      go_wp2_with fail
      go_ret
      exact ⟨_, rfl, HO2.out, HZ.out, HB.out⟩
end Go.Proofs.YtkcipfmbkokfdaaGreatDoor

/-
  The reference's Clean, Many.
-/
namespace Go.Proofs.YtkcipfmbkokfdaaGreatDoor
open Go.RowKit Go.Sort Go.Maps
theorem AwR.on {w w' : World} {row : Option Nat} {v : Value} {l : List Smp} (h : AwR w row v l) (k : w.heap.size ≤ w'.heap.size) : AwR w' row v l :=
  fun hl a n c e => ⟨(h hl a n c e).1, Nat.lt_of_lt_of_le (h hl a n c e).2 k⟩
theorem cut_one (cs : List Row) (id : Int) (v : Value) (s : List Smp) : cut (cs ++ [(id, v, s)]) = cut cs ++ [(id, s)] := by simp [cut]
theorem take_map_snoc {α β : Type} (f : α → β) (l : List α) (k : Nat) (h : k < l.length) (x : α) (hx : x = l[k]) : (l.take (k + 1)).map f = (l.take k).map f ++ [f x] := by
  rw [List.take_succ_eq_append_getElem h, List.map_append, ← hx]; rfl
set_option maxRecDepth 100000 in
set_option maxHeartbeats 4000000 in
theorem rclean_walk (v : Value) (l : List Pts) (W : World) (hR : RdP W W.heap.size v l) (hn : l.length ≤ 100000) (hm : manyL l ≤ 10000) :
    Calls Tryz.prog 20 #[v] W fun e w' => ∃ r, e = .returned r ∧ RdP w' w'.heap.size r (cleanS l) ∧ Below W.heap.size W w' := by
  have KI := Lib.hid (rids_walk v l W hR hn)
  have KO : Hid (∀ id w', Below W.heap.size W w' → Calls Tryz.prog 23 #[v, .int .i64 id] w' fun e w'' => ∃ r, e = .returned r ∧ Own w'' w'.heap.size 52 r (sortS (ofL l id)) ∧ Below w'.heap.size w' w'') := fun id w' hb => rof_walk v l id w' (hR.on hb) hn hm
  have HIL : Hid ((idsR l).length ≤ 100000) := by show _ ≤ _; have := idsR_length l; omega
  obtain ⟨A, c, rfl, hc, hA⟩ := hR
  obtain ⟨n0, hn0⟩ : ∃ n0, n0 = l.length := ⟨_, rfl⟩
  rw [← hn0] at hc hn KI KO ⊢
  clear hA hc hm hn0
  go_enter Tryz.func20, Tryz.ntmps20
  go_wp2_with fail
  refine KI.out.mono ?_
  rintro e w1 ⟨iv, rfl, hI, hIz, hB1⟩
  obtain ⟨ks, hks⟩ : ∃ ks, ks = idsR l := ⟨_, rfl⟩
  rw [← hks] at hI HIL
  have HKS := Lib.hid hks
  obtain ⟨A2, c2, rfl, hc2, hA2⟩ := hI
  obtain ⟨m, hm⟩ : ∃ m, m = ks.length := ⟨_, rfl⟩
  rw [← hm] at hc2 HIL ⊢
  have HM := Lib.hid hm
  have HA2 := Lib.hid hA2
  have HB1 := Lib.hid hB1
  have hml := HIL.out
  clear hm hA2 hB1 hks hIz KI HIL
  go_wp2_with fail
  go_loopw [3, 5, 6] (fun o i _ wl => ∃ (k : Nat) (cs : List Row), k ≤ m ∧ i = .int .i64 k ∧ Hid (OwP wl w1.heap.size o cs) ∧ Hid (cut cs = fosC (fun _ s => s) ((ks.take k).map (fun k => (k, sortS (ofL l k))))) ∧ Hid (cs.length ≤ k) ∧ Hid (Below w1.heap.size w1 wl))
    (fun _ i _ _ => m - (intOf i).toNat)
  case atStart => exact ⟨0, [], Nat.zero_le _, rfl, OwP.nil _ _, rfl, Nat.le_refl _, Below.refl _ _⟩
  case round =>
    obtain ⟨k, cs, hk, rfl, HO, HC, HL, HB⟩ := hrel
    by_cases hlt : k < m
    · have hkl : k < ks.length := by rw [← HM.out]; exact hlt
      rcases HA2.out with h0 | ⟨b, o, e, hb, hcl⟩
      · subst h0; simp at hkl
      subst e
      obtain ⟨z, hz⟩ : ∃ z, z = ks[k] := ⟨_, rfl⟩
      have c0 : wr.cell? ⟨b, o + k, none⟩ = some (.int .i64 z) := by rw [hz]; exact (HB.out.cell hb).trans (hcl k hkl)
      have HC0 := Lib.hid c0
      have HCu : Hid (fosC (fun _ s => s) ((ks.take (k + 1)).map (fun k => (k, sortS (ofL l k)))) = if (sortS (ofL l z)).length = 0 then cut cs else cut cs ++ [(z, sortS (ofL l z))]) := by
        show _ = _
        rw [take_map_snoc _ ks k hkl z hz, fosC_snoc, ← HC.out]
      have HBW : Hid (Below W.heap.size W wr) := HB1.out.trans (HB.out.mono HB1.out.size)
      have KO1 := Lib.hid (KO.out z wr HBW.out)
      have i1 : (k : Int) < (m : Int) := by omega
      clear hz hcl
      go_wp2_with fail
      refine KO1.out.mono ?_
      rintro e w2 ⟨r, rfl, h1, h2⟩
      obtain ⟨s, hs⟩ : ∃ s, s = sortS (ofL l z) := ⟨_, rfl⟩
      rw [← hs] at h1 HCu
      have HO2 := Lib.hid (HO.out.on h2)
      have HOw := Lib.hid h1
      have HAw := Lib.hid (AwR.own HO.out h1)
      have HB2 : Hid (Below w1.heap.size w1 w2) := HB.out.trans (h2.mono HB.out.size)
      have HRd := Lib.hid h1.rd
      have HNz := Lib.hid h1.nz
      have c1 : w2.cell? ⟨b, o + k, none⟩ = some (.int .i64 z) := (h2.cell (lt_of_cell c0)).trans c0
      obtain ⟨A3, c3, rfl, hc3, _⟩ := h1.rd
      obtain ⟨n3, hn3⟩ : ∃ n3, n3 = s.length := ⟨_, rfl⟩
      rw [← hn3] at hc3 HCu HOw HAw HRd HNz ⊢
      clear h1 h2 hs c0 HC KO1 HO hn3
      by_cases hne : n3 = 0
      · have HC2 : Hid (cut cs = fosC (fun _ s => s) ((ks.take (k + 1)).map (fun k => (k, sortS (ofL l k))))) := by show _ = _; rw [HCu.out, if_pos hne]
        subst hne
        go_wp2_with fail
        go_roundw
        case rel => exact ⟨k + 1, cs, by omega, by go_num, HO2.out, HC2.out, by show _ ≤ _; have := HL.out; omega, HB2.out⟩
        case measure => simp [intOf]; omega
      · have HC2 : Hid (cut (cs ++ [(z, .slice A3 n3 c3, s)]) = fosC (fun _ s => s) ((ks.take (k + 1)).map (fun k => (k, sortS (ofL l k))))) := by show _ = _; rw [HCu.out, if_neg hne, cut_one]
        have g1 : 0 < n3 := by omega
        have g2 : (0 : Int) < (n3 : Int) := by omega
        have HBa : Hid (∀ o, Below w2.heap.size w2 (w2.alloc o)) := fun o => (Below.refl _ _).alloc (Nat.le_refl _) _
        go_wp2_with (at_builtin; refine app1P rfl _ _ 29 rfl Tryz.underlying29 info_Pt w1.heap.size _ cs (z, .slice A3 n3 c3, s) rfl (HO2.out.on (HBa.out _)) w2.heap.size 0 1 rfl (new_cell _ _ _ 0) (new_cell _ _ _ 1) ((HRd.out.below (HBa.out _)).mono (HBa.out _).size) HNz.out (HAw.out.on (HBa.out _).size) (by have := HL.out; omega) (Nat.le_trans HB2.out.size (HBa.out _).size) ?_; intro v4 w4 h1 h2 h3; have HO4 := Lib.hid h1; have HB4 : Hid (Below w1.heap.size w1 w4) := (HB2.out.alloc HB2.out.size _).grown h2 (Nat.le_trans HB2.out.size (HBa.out _).size) (fun g hg => (World.ownsRow.lt HO2.out.row g hg).1); clear h1 h2 h3)
        go_roundw
        case rel => exact ⟨k + 1, _, by omega, by go_num, HO4.out, HC2.out, by show _ ≤ _; have := HL.out; simp; omega, HB4.out⟩
        case measure => simp [intOf]; omega
    · obtain rfl : m = k := by omega
      have HC2 : Hid (cut cs = cleanS l) := by
        show _ = _
        rw [HC.out, HM.out, List.take_length, HKS.out]
        rfl
      go_wp2_with fail
      go_ret
      exact ⟨_, rfl, by rw [← HC2.out]; exact HO.out.rdP, HB1.out.trans (HB.out.mono HB1.out.size)⟩
set_option maxRecDepth 100000 in
set_option maxHeartbeats 1000000 in
theorem rmany_walk (v : Value) (l : List Pts) (W : World) (hR : RdP W W.heap.size v l) (hn : l.length ≤ 100000) (hm : manyL l ≤ 10000) :
    Calls Tryz.prog 25 #[v] W fun e w' => e = .returned (.int .i64 (manyL (cleanS l))) ∧ Below W.heap.size W w' := by
  have HK := Lib.hid (rclean_walk v l W hR hn hm)
  have HBd : Hid ((cleanS l).length ≤ 100000 ∧ manyL (cleanS l) ≤ 100000) := ⟨Nat.le_trans (cleanS_length l) hn, Nat.le_trans (cleanS_many l) (by omega)⟩
  obtain ⟨A, c, rfl, hc, _⟩ := hR
  obtain ⟨n0, hn0⟩ : ∃ n0, n0 = l.length := ⟨_, rfl⟩
  rw [← hn0] at hc HK ⊢
  clear hn hm hn0
  go_enter Tryz.func25, Tryz.ntmps25
  go_wp2_with (go_at_call 20; refine HK.out.mono ?_; rintro e w1 ⟨r, rfl, h2, h3⟩; obtain ⟨q, hq⟩ : ∃ q, q = cleanS l := ⟨_, rfl⟩; have HBd2 := HBd.out; rw [← hq] at h2 HBd2; obtain ⟨b1, b2⟩ := HBd2; have HQ := Lib.hid hq; have HB := Lib.hid h3; obtain ⟨A2, c2, rfl, hc2, hA2⟩ := h2; obtain ⟨m, hm⟩ : ∃ m, m = q.length := ⟨_, rfl⟩; rw [← hm] at hc2 b1; rw [← hm]; have HM := Lib.hid hm; have HA := Lib.hid hA2; clear hq h3 hA2 hm)
  go_loopw [4, 5] (fun s i wl => ∃ k : Nat, k ≤ m ∧ s = .int .i64 (manyL (q.take k)) ∧ i = .int .i64 k ∧ Hid (Below w1.heap.size w1 wl)) (fun _ i _ => m - (intOf i).toNat)
  case atStart => exact ⟨0, Nat.zero_le _, rfl, rfl, Below.refl _ _⟩
  case round =>
    obtain ⟨k, hk, rfl, rfl, HB2⟩ := hrel
    by_cases hlt : k < m
    · have hkl : k < q.length := by rw [← HM.out]; exact hlt
      rcases HA.out with h0 | ⟨b3, o3, e, hb3, hcl⟩
      · subst h0; simp at hkl
      subst e
      obtain ⟨p, hp⟩ : ∃ p, p = q[k] := ⟨_, rfl⟩
      obtain ⟨c3, sv, c4, hsv, _⟩ : PtAt wr w1.heap.size b3 (o3 + k * 2) p := by rw [hp]; exact (hcl k hkl).below HB2.out hb3
      obtain ⟨A4, c5, rfl, hc5, _⟩ := hsv
      have htk : q.take (k + 1) = q.take k ++ [p] := by rw [hp]; exact List.take_succ_eq_append_getElem hkl
      have hsum : manyL (q.take (k + 1)) = manyL (q.take k) + p.2.length := by rw [htk, manyL_snoc]
      have hsb := manyL_take q (k + 1)
      obtain ⟨t0, ht0⟩ : ∃ t, t = manyL (q.take k) := ⟨_, rfl⟩
      obtain ⟨n5, hn5⟩ : ∃ n, n = p.2.length := ⟨_, rfl⟩
      rw [← ht0, ← hn5] at hsum
      rw [← hn5] at c4 hc5
      rw [← ht0]
      have HS := Lib.hid hsum
      have i1 : (k : Int) < (m : Int) := by omega
      have i2 : t0 + n5 ≤ 100000 := by omega
      clear hp hcl htk hsum hsb ht0 hn5
      go_wp2_with fail
      go_roundw
      case rel => exact ⟨k + 1, by omega, by rw [HS.out]; go_num, by go_num, HB2.out⟩
      case measure => simp [intOf]; omega
    · have hkm : k = m := by omega
      have hfin : Hid (q.take k = q) := by show _ = _; rw [hkm, HM.out, List.take_length]
      clear hkm
      go_wp2_with fail
      go_ret
      exact ⟨by rw [hfin.out, HQ.out]; rfl, HB.out.trans (HB2.out.mono HB.out.size)⟩
end Go.Proofs.YtkcipfmbkokfdaaGreatDoor
