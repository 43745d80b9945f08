/-
  The reference's Months.
-/
import Derived.Test.YtkcipfmbkokfdaaGreatDoorVrk
namespace Go.Proofs.YtkcipfmbkokfdaaGreatDoor
open Go.RowKit Go.Sort Go.Maps
/-- What Months hands back. -/
def MonR (w : World) (c : List Pts) (v : Value) : Prop := ∃ a b, v = .tuple #[a, b] ∧ RdZ w w.heap.size a (monthsK c) ∧ RdQ w w.heap.size b ((monthsK c).map (monthC c))
set_option maxRecDepth 100000 in
set_option maxHeartbeats 4000000 in
theorem rmonths_walk (v : Value) (l : List Pts) (W : World) (hR : RdP W W.heap.size v l) (hn : l.length ≤ 100000) (hm : manyL l ≤ 10000) :
    Calls Tryz.prog 17 #[v] W fun e w' => ∃ r, e = .returned r ∧ MonR w' (cleanS l) r ∧ Below W.heap.size W w' := by
  have HK := Lib.hid (rclean_walk v l W hR hn hm)
  have HCl := Lib.hid (cleanS_clean l)
  have HBd : Hid ((cleanS l).length ≤ 100000 ∧ manyL (cleanS l) ≤ 10000) := ⟨Nat.le_trans (cleanS_length l) hn, Nat.le_trans (cleanS_many l) hm⟩
  obtain ⟨A, c, rfl, hc, _⟩ := hR
  obtain ⟨n0, hn0⟩ : ∃ n0, n0 = l.length := ⟨_, rfl⟩
  rw [← hn0] at hc hn HK ⊢
  clear hn hm hn0
  obtain ⟨q, hq⟩ : ∃ q, q = cleanS l := ⟨_, rfl⟩
  rw [← hq] at HK HCl HBd ⊢
  clear hq
  go_enter Tryz.func17, Tryz.ntmps17
  go_wp2_with fail
  refine HK.out.mono ?_
  rintro e w1 ⟨r, rfl, h2, h3⟩
  have HBW := Lib.hid h3
  have HRq := Lib.hid h2
  obtain ⟨A2, c2, rfl, hc2, hA2⟩ := h2
  obtain ⟨m, hm⟩ : ∃ m, m = q.length := ⟨_, rfl⟩
  have hbd := HBd.out.1
  rw [← hm] at hc2 hbd HRq
  rw [← hm]
  have HM := Lib.hid hm
  have HA := Lib.hid hA2
  clear h3 hA2 hm HK
  go_wp2_with fail
  go_loopw [5, 6, 7] (fun o i _ wl => ∃ (k : Nat), k ≤ m ∧ i = .int .i64 k ∧ Hid (RdZ wl wl.heap.size o (((q.take k).flatMap (fun p => p.2)).foldl stepMo [])) ∧ Hid (Nz o) ∧ Hid (Below w1.heap.size w1 wl)) (fun _ i _ _ => m - (intOf i).toNat)
  case atStart => exact ⟨0, Nat.zero_le _, rfl, (OwZ.nil _ 0).rd, nz_nil, Below.refl _ _⟩
  case round =>
    obtain ⟨k, hk, rfl, HO, HZ, HB2⟩ := hrel
    by_cases hlt : k < m
    · have hkl : k < q.length := by rw [← HM.out]; exact hlt
      rcases HA.out with h0 | ⟨b3, o3, e, hb3, hcl⟩
      · subst h0; simp at hkl
      subst e
      obtain ⟨p, hp⟩ : ∃ p, p = q[k] := ⟨_, rfl⟩
      obtain ⟨c3, sv, c4, hsv, _⟩ : PtAt wr w1.heap.size b3 (o3 + k * 2) p := by rw [hp]; exact (hcl k hkl).below HB2.out hb3
      obtain ⟨A4, c5, rfl, hc5, hA4⟩ := hsv
      have htk : q.take (k + 1) = q.take k ++ [p] := by rw [hp]; exact List.take_succ_eq_append_getElem hkl
      have hpm : p ∈ q := by rw [hp]; exact List.getElem_mem hkl
      have HT : Hid (∀ j, (((q.take k).flatMap (fun p => p.2) ++ p.2.take j).foldl stepMo []).length ≤ 10000) := fun j => by
        have h1 := (foldMo ((q.take k).flatMap (fun p => p.2) ++ p.2.take j) [] List.Pairwise.nil).2.2
        have h2 := manyL_take q (k + 1)
        rw [htk, manyL_snoc] at h2
        have h3 := HBd.out.2
        have h4 : (p.2.take j).length ≤ p.2.length := by rw [List.length_take]; omega
        rw [List.length_append] at h1
        unfold manyL at h2 h3
        rw [List.length_nil, Nat.zero_add] at h1
        omega
      have HTk : Hid ((q.take (k + 1)).flatMap (fun p => p.2) = (q.take k).flatMap (fun p => p.2) ++ p.2) := by show _ = _; rw [htk, List.flatMap_append]; simp
      have hp5 : p.2.length ≤ 10000 := by have := many_mem hpm; have := HBd.out.2; omega
      have HPb : Hid (∀ x ∈ p.2, 0 ≤ x.1 ∧ x.1 ≤ 1099511627776) := fun x hx => rightS_bd (HCl.out.bd p hpm x hx)
      have HA4 := Lib.hid hA4
      obtain ⟨n5, hn5⟩ : ∃ n, n = p.2.length := ⟨_, rfl⟩
      rw [← hn5] at c4 hc5 hp5
      have HN5 := Lib.hid hn5
      have i1 : (k : Int) < (m : Int) := by omega
      have HB3 := Lib.hid c4
      clear hp hcl htk hA4 hn5 c3 hpm
      go_wp2_with fail
      go_loopw [5, 7] (fun o i wl => ∃ (j : Nat), j ≤ n5 ∧ i = .int .i64 j ∧ Hid (RdZ wl wl.heap.size o (((q.take k).flatMap (fun p => p.2) ++ p.2.take j).foldl stepMo [])) ∧ Hid (Nz o) ∧ Hid (Below w1.heap.size w1 wl) ∧ Hid (Below w1.heap.size wr wl)) (fun _ i _ => n5 - (intOf i).toNat)
      case atStart => exact ⟨0, Nat.zero_le _, rfl, by show RdZ _ _ _ _; rw [List.take_zero, List.append_nil]; exact HO.out, HZ.out, HB2.out, Below.refl _ _⟩
      case round =>
        obtain ⟨j, hj, rfl, HO2, HZ2, HB4, HB5⟩ := hrel
        by_cases hlt2 : j < n5
        · have hjl : j < p.2.length := by rw [← HN5.out]; exact hlt2
          rcases HA4.out with h0 | ⟨b4, o4, e, hb4, hcl4⟩
          · rw [h0] at hjl; simp at hjl
          subst e
          obtain ⟨x, hx⟩ : ∃ x, x = p.2[j] := ⟨_, rfl⟩
          have d0 : wr.cell? ⟨b4, o4 + j * 4, none⟩ = some (.int .i64 x.1) := by rw [hx]; exact ((hcl4 j hjl).below HB5.out hb4).1
          have c4' := (HB5.out.cell hb3).trans HB3.out
          have HT2 : Hid (((q.take k).flatMap (fun p => p.2) ++ p.2.take (j + 1)).foldl stepMo [] = putZ (((q.take k).flatMap (fun p => p.2) ++ p.2.take j).foldl stepMo []) (x.1 / 1000)) := by
            show _ = _
            rw [List.take_succ_eq_append_getElem hjl, ← List.append_assoc, List.foldl_append, ← hx]
            rfl
          obtain ⟨x1, x2⟩ := HPb.out x (by rw [hx]; exact List.getElem_mem hjl)
          obtain ⟨t, ht⟩ : ∃ t, t = x.1 := ⟨_, rfl⟩
          rw [← ht] at d0 HT2 x1 x2
          have i2 : (j : Int) < (n5 : Int) := by omega
          have KP := Lib.hid (putZ_walk _ _ (t / 1000) wr HO2.out HZ2.out (by have := HT.out j; omega))
          clear hx hcl4 ht
          go_wp2_with (go_at_call 40; refine KP.out.mono ?_; rintro e w3 ⟨r, rfl, h1, h2, h3⟩; rw [← HT2.out] at h1; have H1 := Lib.hid h1; have H2 := Lib.hid h2; have H3 := Lib.hid h3; clear h1 h2 h3)
          go_roundw
          case rel => exact ⟨j + 1, by omega, by go_num, H1.out, H2.out, HB4.out.trans (H3.out.mono HB4.out.size), HB5.out.trans (H3.out.mono HB4.out.size)⟩
          case measure => simp [intOf]; omega
        · have hjn : j = n5 := by omega
          have c4' := (HB5.out.cell hb3).trans HB3.out
          have HO3 := HO2.out
          rw [hjn, HN5.out, List.take_length, ← HTk.out] at HO3
          have HO4 := Lib.hid HO3
          clear hjn HO3
          go_wp2_with fail
          go_roundw
          case rel => exact ⟨k + 1, by omega, by go_num, HO4.out, HZ2.out, HB4.out⟩
          case measure => simp [intOf]; omega
    · obtain rfl : m = k := by omega
      obtain ⟨wr0, rfl⟩ : ∃ w0, w0 = wr := ⟨wr, rfl⟩
      have h0 := HO.out
      rw [HM.out, List.take_length] at h0
      obtain ⟨ks, hks⟩ : ∃ ks, ks = monthsK q := ⟨_, rfl⟩
      have e9 : (q.flatMap (fun p => p.2)).foldl stepMo [] = ks := hks.symm
      rw [e9] at h0
      have h0' := h0
      clear e9
      have HKS := Lib.hid hks
      have HKl : Hid (ks.length ≤ 10000) := by show _ ≤ _; rw [hks]; have := monthsK_length q; have := HBd.out.2; omega
      have HKb : Hid (∀ z ∈ ks, 0 ≤ z ∧ z ≤ 1099511627) := fun z hz => by
        rw [hks] at hz
        obtain ⟨p, hp, x, hx, e⟩ := (monthsK_mem q z).1 hz
        have := rightS_bd (HCl.out.bd p hp x hx)
        omega
      have HKR := Lib.hid h0'
      have HB0 := Lib.hid HB2.out
      have HRq0 := Lib.hid (HRq.out.on HB0.out)
      obtain ⟨A6, c6, ev, hc6, hA6⟩ := h0'
      subst ev
      obtain ⟨n6, hn6⟩ : ∃ n, n = ks.length := ⟨_, rfl⟩
      rw [← hn6] at hc6 HKl HKR
      rw [← hn6]
      have HN6 := Lib.hid hn6
      have HA6 := Lib.hid hA6
      have hl6 := HKl.out
      clear h0 hks HO HZ hn6 hA6 HB2
      go_wp2_with fail
      go_loopw [8, 9, 10, 11, 12, 13] (fun o i _ _ _ _ wl => ∃ (k : Nat) (vs : List (Value × List Pts)), k ≤ n6 ∧ i = .int .i64 k ∧ Hid (OwV wl wr0.heap.size o vs) ∧ Hid (vs.map (fun x => x.2) = (ks.take k).map (monthC q)) ∧ Hid (Below wr0.heap.size wr0 wl)) (fun _ i _ _ _ _ _ => n6 - (intOf i).toNat)
      case atStart => exact ⟨0, [], Nat.zero_le _, rfl, OwV.nil _ _, rfl, Below.refl _ _⟩
      case round =>
        obtain ⟨k, vs, hk, rfl, HO, HC, HB⟩ := hrel
        obtain ⟨wr1, rfl⟩ : ∃ w0, w0 = wr := ⟨wr, rfl⟩
        by_cases hlt : k < n6
        · have hkl : k < ks.length := by rw [← HN6.out]; exact hlt
          rcases HA6.out with h0 | ⟨b6, o6, e, hb6, hcl6⟩
          · subst h0; simp at hkl
          subst e
          obtain ⟨z, hz⟩ : ∃ z, z = ks[k] := ⟨_, rfl⟩
          have c0 : wr1.cell? ⟨b6, o6 + k, none⟩ = some (.int .i64 z) := by rw [hz]; exact (HB.out.cell hb6).trans (hcl6 k hkl)
          obtain ⟨z1, z2⟩ := HKb.out z (by rw [hz]; exact List.getElem_mem hkl)
          obtain ⟨f, hf⟩ : ∃ f, f = z * 1000 := ⟨_, rfl⟩
          have gw : IntKind.i64.wrap (z * 1000) = f := by rw [hf]; exact IntWalk.i64_in _ (by omega)
          obtain ⟨t, ht⟩ : ∃ t, t = f + 999 := ⟨_, rfl⟩
          have gw2 : IntKind.i64.wrap (f + 999) = t := by rw [ht]; exact IntWalk.i64_in _ (by omega)
          have HCu : Hid ((ks.take (k + 1)).map (monthC q) = (ks.take k).map (monthC q) ++ [monthC q z]) := take_map_snoc _ ks k hkl z hz
          have HMs : Hid (∀ l (p : Pts), monthC (l ++ [p]) z = if (delS f t p.2).length = 0 then monthC l z else monthC l z ++ [(p.1, delS f t p.2)]) := fun l p => by
            unfold monthC
            rw [fosC_snoc, hf] at *
            rw [ht, hf]
          have HB1 : Hid (Below w1.heap.size w1 wr1) := HB0.out.trans (HB.out.mono HB0.out.size)
          have i1 : (k : Int) < (n6 : Int) := by omega
          clear hz hcl6 hf ht
          go_wp2_with fail
          go_loopw [10, 12, 13] (fun o i _ wl => ∃ (j : Nat) (cs : List Row) (ov : Value), j ≤ m ∧ i = .int .i64 j ∧ ov = o ∧ Hid (OwP wl wr1.heap.size ov cs) ∧ Hid (cut cs = monthC (q.take j) z) ∧ Hid (cs.length ≤ j) ∧ Hid (∀ x ∈ cs, ∀ a n c, x.2.1 = .slice (some a) n c → wr1.heap.size ≤ a.block) ∧ Hid (Below wr1.heap.size wr1 wl)) (fun _ i _ _ => m - (intOf i).toNat)
          case atStart => exact ⟨0, [], _, Nat.zero_le _, rfl, rfl, OwP.nil _ _, rfl, Nat.le_refl _, fun x hx => absurd hx List.not_mem_nil, Below.refl _ _⟩
          case round =>
            obtain ⟨j, cs, ov, hj, rfl, rfl, HP, HD, HL, HLo, HB9⟩ := hrel
            have HBq : Hid (Below w1.heap.size w1 wr) := HB1.out.trans (HB9.out.mono HB1.out.size)
            by_cases hlt2 : j < m
            · have hjl : j < q.length := by rw [← HM.out]; exact hlt2
              rcases HA.out with h0 | ⟨b3, o3, e, hb3, hcl⟩
              · rw [h0] at hjl; simp at hjl
              subst e
              obtain ⟨p, hp⟩ : ∃ p, p = q[j] := ⟨_, rfl⟩
              obtain ⟨c3, sv, c4, hsv, _⟩ : PtAt wr w1.heap.size b3 (o3 + j * 2) p := by rw [hp]; exact (hcl j hjl).below HBq.out hb3
              have hpm : p ∈ q := by rw [hp]; exact List.getElem_mem hjl
              have HDu : Hid (monthC (q.take (j + 1)) z = if (delS f t p.2).length = 0 then cut cs else cut cs ++ [(p.1, delS f t p.2)]) := by
                show _ = _
                rw [List.take_succ_eq_append_getElem hjl, ← hp, HMs.out, ← HD.out]
              have hp5 : p.2.length ≤ 10000 := by have := many_mem hpm; have := HBd.out.2; omega
              have KC := Lib.hid (rclip_walk sv p.2 f t wr (hsv.mono HBq.out.size) hp5)
              have HC3 := Lib.hid c3
              obtain ⟨A4, c5, rfl, hc5, hA4⟩ := hsv
              obtain ⟨n5, hn5⟩ : ∃ n, n = p.2.length := ⟨_, rfl⟩
              rw [← hn5] at c4 hc5 hp5 KC
              obtain ⟨id, hid⟩ : ∃ id, id = p.1 := ⟨_, rfl⟩
              rw [← hid] at c3 HC3 HDu
              have i2 : (j : Int) < (m : Int) := by omega
              clear hp hcl hn5 hpm hA4 hid
              go_wp2_with fail
              refine KC.out.mono ?_
              rintro e w3 ⟨r, rfl, h1, h2⟩
              obtain ⟨s, hs⟩ : ∃ s, s = delS f t p.2 := ⟨_, rfl⟩
              rw [← hs] at h1 HDu
              have HO2 := Lib.hid (HP.out.on h2)
              have HOw := Lib.hid h1
              have HAw := Lib.hid (AwR.own HP.out h1)
              have HB2 : Hid (Below wr1.heap.size wr1 w3) := HB9.out.trans (h2.mono HB9.out.size)
              have HRd := Lib.hid h1.rd
              have HNz := Lib.hid h1.nz
              have c3' : w3.cell? ⟨b3, o3 + j * 2, none⟩ = some (.int .i64 id) := (h2.cell (lt_of_cell HC3.out)).trans HC3.out
              have HLo2 : Hid (∀ a n c, r = .slice (some a) n c → wr1.heap.size ≤ a.block) := fun a n c e => by
                rcases HOw.out.2 with ⟨e1, _⟩ | ⟨g, cap, cur, e1, hg, _⟩
                · rw [e1] at e; cases e
                · rw [e1] at e
                  injection e with e
                  injection e with e
                  subst e
                  exact Nat.le_trans HB9.out.size hg
              obtain ⟨A3, c7, rfl, hc7, _⟩ := h1.rd
              obtain ⟨n3, hn3⟩ : ∃ n3, n3 = s.length := ⟨_, rfl⟩
              rw [← hn3] at hc7 HDu HOw HAw HRd HNz HLo2 ⊢
              clear h1 h2 hs c3 c4 KC HP hn3
              by_cases hne : n3 = 0
              · have HC2 : Hid (cut cs = monthC (q.take (j + 1)) z) := by show _ = _; rw [HDu.out, if_pos hne]
                subst hne
                go_wp2_with fail
                go_roundw
                case rel => exact ⟨j + 1, cs, _, by omega, by go_num, rfl, HO2.out, HC2.out, by show _ ≤ _; have := HL.out; omega, HLo.out, HB2.out⟩
                case measure => simp [intOf]; omega
              · have HC2 : Hid (cut (cs ++ [(id, .slice A3 n3 c7, s)]) = monthC (q.take (j + 1)) z) := by show _ = _; rw [HDu.out, if_neg hne, cut_one]
                have g1 : 0 < n3 := by omega
                have g2 : (0 : Int) < (n3 : Int) := by omega
                have HBa : Hid (∀ o, Below w3.heap.size w3 (w3.alloc o)) := fun o => (Below.refl _ _).alloc (Nat.le_refl _) _
                go_wp2_with (at_builtin; refine app1P rfl _ _ 29 rfl Tryz.underlying29 info_Pt wr1.heap.size _ cs (id, .slice A3 n3 c7, s) rfl (HO2.out.on (HBa.out _)) w3.heap.size 0 1 rfl (new_cell _ _ _ 0) (new_cell _ _ _ 1) ((HRd.out.below (HBa.out _)).mono (HBa.out _).size) HNz.out (HAw.out.on (HBa.out _).size) (by have := HL.out; omega) (Nat.le_trans HB2.out.size (HBa.out _).size) ?_; intro v4 w4 h1 h2 h3; have HO4 := Lib.hid h1; have HB4 : Hid (Below wr1.heap.size wr1 w4) := (HB2.out.alloc HB2.out.size _).grown h2 (Nat.le_trans HB2.out.size (HBa.out _).size) (fun g hg => (World.ownsRow.lt HO2.out.row g hg).1); clear h1 h2 h3)
                go_roundw
                case rel =>
                  refine ⟨j + 1, _, _, by omega, by go_num, rfl, HO4.out, HC2.out, by show _ ≤ _; have := HL.out; simp; omega, fun x hx => ?_, HB4.out⟩
                  rcases List.mem_append.1 hx with hx | hx
                  · exact HLo.out x hx
                  · rw [List.mem_singleton] at hx
                    subst hx
                    exact HLo2.out
                case measure => simp [intOf]; omega
            · have hjm : j = m := by omega
              have HD2 : Hid (cut cs = monthC q z) := by show _ = _; rw [HD.out, hjm, HM.out, List.take_length]
              clear hjm
              have HBa : Hid (∀ o, Below wr.heap.size wr (wr.alloc o)) := fun o => (Below.refl _ _).alloc (Nat.le_refl _) _
              have HO2 := Lib.hid (HO.out.on HB9.out)
              have h9 := HP.out.px HLo.out (fun g hg => (World.ownsRow.lt HO.out.row g hg).2)
              rw [HD2.out] at h9
              have HPx := Lib.hid h9
              clear h9
              have HNz := Lib.hid HP.out.nz
              obtain ⟨Ao, co, eo, _, _⟩ := HPx.out
              subst eo
              obtain ⟨no, hno⟩ : ∃ n, n = (monthC q z).length := ⟨_, rfl⟩
              rw [← hno] at HPx HNz ⊢
              clear hno
              have HVl : Hid ((vs.length + 1) * 24 ≤ 140737488355328) := by
                have h1 := congrArg List.length HC.out
                rw [List.length_map, List.length_map, List.length_take] at h1
                show _ ≤ _
                omega
              go_wp2_with (at_builtin; refine app1VP rfl _ _ 25 rfl Tryz.underlying25 info_rowP wr0.heap.size _ vs (.slice Ao no co, monthC q z) rfl (HO2.out.on (HBa.out _)) wr.heap.size 0 1 rfl (new_cell _ _ _ 0) (HPx.out.on (HBa.out _)) HNz.out HVl.out (Nat.le_trans HB.out.size (Nat.le_trans HB9.out.size (HBa.out _).size)) ?_; intro v4 w4 h1 h2 h3; have HO4 := Lib.hid h1; have HB4 : Hid (Below wr0.heap.size wr0 w4) := ((HB.out.trans (HB9.out.mono HB.out.size)).alloc (Nat.le_trans HB.out.size HB9.out.size) _).grown h2 (Nat.le_trans HB.out.size (Nat.le_trans HB9.out.size (HBa.out _).size)) (fun g hg => (World.ownsRow.lt HO2.out.row g hg).1); clear h1 h2 h3)
              go_roundw
              case rel => exact ⟨k + 1, _, by omega, by go_num, HO4.out, by show _ = _; rw [List.map_append, HC.out, HCu.out]; rfl, HB4.out⟩
              case measure => simp [intOf]; omega
        · obtain rfl : n6 = k := by omega
          have HC2 : Hid (vs.map (fun x => x.2) = (monthsK q).map (monthC q)) := by
            show _ = _
            rw [HC.out, HN6.out, List.take_length, HKS.out]
          have h9 := HKR.out.on HB.out
          rw [HKS.out] at h9
          have HK2 := Lib.hid h9
          clear h9
          go_wp2_with fail
          go_ret2
          exact ⟨_, rfl, ⟨_, _, rfl, HK2.out, by rw [← HC2.out]; exact HO.out.rdQ⟩, HBW.out.trans ((HB0.out.trans (HB.out.mono HB0.out.size)).mono HBW.out.size)⟩
end Go.Proofs.YtkcipfmbkokfdaaGreatDoor
