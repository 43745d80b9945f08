/-
  The reference: texts, Compare, May.
-/
import Derived.Test.YtkgcbeokfilehaaGreatDoorWrd
import Derived.Test.YtkgcbeokfilehaaGreatDoorVgd
namespace Go.Proofs.YtkgcbeokfilehaaGreatDoor
open Go.RowKit Go.Sort Go.Maps
set_option maxHeartbeats 1000000 in
/-- eskerref07.texts. -/
theorem ref_texts (a b : Str) (W : World) : Calls Tryz.prog 143 #[vT a, vT b] W fun e w' => e = .returned (.int .i64 (cmpT a b)) ∧ w' = W := by
  obtain ⟨x, hx⟩ : ∃ x : ByteArray, x = ⟨a.toArray⟩ := ⟨_, rfl⟩
  obtain ⟨y, hy⟩ : ∃ y : ByteArray, y = ⟨b.toArray⟩ := ⟨_, rfl⟩
  have h1 := less_T a b
  have h2 := less_T b a
  have h3 := same_T a b
  unfold vT
  rw [← hx, ← hy] at h1 h2 h3 ⊢
  obtain ⟨r, hr⟩ : ∃ r, r = cmpT a b := ⟨_, rfl⟩
  rw [← hr]
  unfold cmpT at hr
  clear hx hy
  by_cases c1 : a < b
  · rw [if_pos c1] at hr
    rw [decide_eq_true c1] at h1
    subst hr
    clear h2 h3
    go_enter Tryz.func143, Tryz.ntmps143
    go_wp2_with fail
    go_ret
    exact ⟨rfl, rfl⟩
  · rw [if_neg c1] at hr
    rw [decide_eq_false c1] at h1
    by_cases c2 : b < a
    · rw [if_pos c2] at hr
      rw [decide_eq_true c2] at h2
      rw [decide_eq_false (fun e => str_irrefl _ (e ▸ c2))] at h3
      subst hr
      go_enter Tryz.func143, Tryz.ntmps143
      go_wp2_with fail
      go_ret
      exact ⟨rfl, rfl⟩
    · rw [if_neg c2] at hr
      rw [decide_eq_false c2] at h2
      rw [decide_eq_true (str_tri c1 c2)] at h3
      subst hr
      go_enter Tryz.func143, Tryz.ntmps143
      go_wp2_with fail
      go_ret
      exact ⟨rfl, rfl⟩
set_option maxRecDepth 100000 in
set_option maxHeartbeats 2000000 in
/-- eskerref07.Compare. -/
theorem ref_cmp (va vb : Value) (a b : Lbs) (W : World) (hRa : RdL W W.heap.size va a) (hRb : RdL W W.heap.size vb b) (hla : a.length ≤ 1000000) :
    Calls Tryz.prog 105 #[va, vb] W fun e w' => e = .returned (.int .i64 (cmpRow a b)) ∧ Ext W w' := by
  obtain ⟨A, ca, rfl, hca, hA⟩ := hRa
  obtain ⟨B, cb, rfl, hcb, hB⟩ := hRb
  have HA := Lib.hid hA
  have HB := Lib.hid hB
  obtain ⟨q, hq⟩ : ∃ q, q = cmpRow a b := ⟨_, rfl⟩
  have HQ : Hid (q = cmpRow a b) := hq
  rw [← hq]
  obtain ⟨n, hn⟩ : ∃ n, n = a.length := ⟨_, rfl⟩
  obtain ⟨m, hm⟩ : ∃ m, m = b.length := ⟨_, rfl⟩
  rw [← hn] at hla ⊢
  rw [← hm]
  have HN : Hid (n = a.length) := hn
  have HM : Hid (m = b.length) := hm
  have KC : Hid (∀ (s t : Str) W, Calls Tryz.prog 143 #[vT s, vT t] W fun e w' => e = .returned (.int .i64 (cmpT s t)) ∧ Ext W w') := fun s t W => (ref_texts s t W).mono fun _ _ ⟨h1, h2⟩ => ⟨h1, h2 ▸ Ext.refl W⟩
  clear hq hA hB hca hcb hn hm
  go_enter Tryz.func105, Tryz.ntmps105
  go_wp2_with fail
  go_loopw [5, 6] (fun i _ wl => ∃ k : Nat, k ≤ n ∧ k ≤ m ∧ i = .int .i64 k ∧ Hid (q = cmpRow (a.drop k) (b.drop k)) ∧ Hid (Ext W wl)) (fun i _ _ => n - (intOf i).toNat)
  case atStart => exact ⟨0, Nat.zero_le _, Nat.zero_le _, rfl, HQ.out, Ext.refl _⟩
  case round =>
    obtain ⟨k, hk, hkm, rfl, HT, HE⟩ := hrel
    by_cases hlt : k < n
    · have hla2 : k < a.length := by rw [← HN.out]; exact hlt
      rcases HA.out with h0 | ⟨b1, o1, e, hb1, hcl1⟩
      · subst h0; simp at hla2
      subst e
      obtain ⟨x, hx⟩ : ∃ x, x = a[k] := ⟨_, rfl⟩
      have i1 : (k : Int) < (n : Int) := by omega
      by_cases hlt2 : k < m
      · have hlb2 : k < b.length := by rw [← HM.out]; exact hlt2
        rcases HB.out with h0 | ⟨b2, o2, e', hb2, hcl2⟩
        · subst h0; simp at hlb2
        subst e'
        obtain ⟨y, hy⟩ : ∃ y, y = b[k] := ⟨_, rfl⟩
        have HD := Lib.hid (cmpRow_drop hla2 hlb2 hx hy)
        obtain ⟨c0, c1⟩ : Cell2 wr b1 (o1 + k * 2) x := by rw [hx]; exact (hcl1 k hla2).below HE.out.below hb1
        obtain ⟨d0, d1⟩ : Cell2 wr b2 (o2 + k * 2) y := by rw [hy]; exact (hcl2 k hlb2).below HE.out.below hb2
        have i2 : (k : Int) < (m : Int) := by omega
        have KX := Lib.hid (KC.out x.1 y.1)
        have KY := Lib.hid (KC.out x.2 y.2)
        have HCL : Hid (cmpLb x y = if cmpT x.1 y.1 ≠ 0 then cmpT x.1 y.1 else cmpT x.2 y.2) := rfl
        clear hx hy hcl1 hcl2
        unfold vT at c0 c1 d0 d1 KX KY
        obtain ⟨s, hs⟩ : ∃ s, s = cmpT x.1 y.1 := ⟨_, rfl⟩
        obtain ⟨u, hu⟩ : ∃ u, u = cmpT x.2 y.2 := ⟨_, rfl⟩
        rw [← hs] at KX HCL
        rw [← hu] at KY HCL
        clear hs hu
        generalize (⟨x.1.toArray⟩ : ByteArray) = x1 at c0 KX
        generalize (⟨x.2.toArray⟩ : ByteArray) = x2 at c1 KY
        generalize (⟨y.1.toArray⟩ : ByteArray) = y1 at d0 KX
        generalize (⟨y.2.toArray⟩ : ByteArray) = y2 at d1 KY
        have K4 : Hid (∀ w', Ext wr w' → w'.cell? ⟨b1, o1 + k * 2, none⟩ = some (.string x1) ∧ w'.cell? ⟨b2, o2 + k * 2, none⟩ = some (.string y1) ∧ w'.cell? ⟨b1, o1 + k * 2 + 1, none⟩ = some (.string x2) ∧ w'.cell? ⟨b2, o2 + k * 2 + 1, none⟩ = some (.string y2)) := fun w' h => ⟨h.cell_some c0, h.cell_some d0, h.cell_some c1, h.cell_some d1⟩
        have hE0 := Ext.refl wr
        go_wp2_with fail
        go_region_held3 (fun w' => w'.cell? ⟨b1, o1 + k * 2, none⟩ = some (.string x1) ∧ w'.cell? ⟨b2, o2 + k * 2, none⟩ = some (.string y1) ∧ w'.cell? ⟨b1, o1 + k * 2 + 1, none⟩ = some (.string x2) ∧ w'.cell? ⟨b2, o2 + k * 2 + 1, none⟩ = some (.string y2) ∧ Ext wr w')
          (first | assumption | (have hd := Ext.drew (by assumption : Ext wr _); exact ⟨(K4.out _ hd).1, (K4.out _ hd).2.1, (K4.out _ hd).2.2.1, (K4.out _ hd).2.2.2, hd⟩) | exact ⟨by assumption, by assumption, by assumption, by assumption, by assumption⟩)
          (first | (go_at_call 143; refine (KX.out _).mono ?_; rintro e w' ⟨rfl, hN⟩; have hN := Ext.trans (by first | assumption | exact Ext.drew (by assumption)) hN; obtain ⟨c0', d0', c1', d1'⟩ := K4.out _ hN))
        clear hE0 KX c0 d0 c1 d1
        by_cases hs0 : s = 0
        · rw [hs0] at HCL
          subst hs0
          have HCL2 : Hid (cmpLb x y = u) := HCL.out.trans (if_neg (by simp))
          clear HCL
          go_wp2_with fail
          go_region_held3 (fun w' => w'.cell? ⟨b1, o1 + k * 2, none⟩ = some (.string x1) ∧ w'.cell? ⟨b2, o2 + k * 2, none⟩ = some (.string y1) ∧ w'.cell? ⟨b1, o1 + k * 2 + 1, none⟩ = some (.string x2) ∧ w'.cell? ⟨b2, o2 + k * 2 + 1, none⟩ = some (.string y2) ∧ Ext wr w')
            (first | assumption | (have hd := Ext.drew (by assumption : Ext wr _); exact ⟨(K4.out _ hd).1, (K4.out _ hd).2.1, (K4.out _ hd).2.2.1, (K4.out _ hd).2.2.2, hd⟩) | exact ⟨by assumption, by assumption, by assumption, by assumption, by assumption⟩)
            (first | (go_at_call 143; refine (KY.out _).mono ?_; rintro e w2' ⟨rfl, hM⟩; have hM := Ext.trans (by first | assumption | exact Ext.drew (by assumption)) hM; obtain ⟨c0'', d0'', c1'', d1''⟩ := K4.out _ hM))
          clear KY K4 c0' d0' c1' d1'
          have HE3 : Hid (Ext W _) := HE.out.trans hM
          by_cases hu0 : u = 0
          · have HT2 : Hid (q = cmpRow (a.drop (k + 1)) (b.drop (k + 1))) := by
              show _ = _
              rw [HT.out, HD.out, if_neg (by rw [HCL2.out]; omega)]
            have g : ((u : Int) != 0) = false := by rw [hu0]; rfl
            clear hu0
            go_wp2_with fail
            go_roundw
            case rel => exact ⟨k + 1, by omega, by omega, by go_num, HT2.out, HE3.out⟩
            case measure => simp [intOf]; omega
          · have HT2 : Hid (q = u) := by
              show _ = _
              rw [HT.out, HD.out, if_pos (by rw [HCL2.out]; exact hu0), HCL2.out]
            have g : ((u : Int) != 0) = true := by simp [hu0]
            clear hu0
            go_wp2_with fail
            go_ret
            exact ⟨ret_int HT2.out.symm, HE3.out⟩
        · have HCL2 : Hid (cmpLb x y = s) := HCL.out.trans (if_pos hs0)
          have HT2 : Hid (q = s) := by
            show _ = _
            rw [HT.out, HD.out, if_pos (by rw [HCL2.out]; exact hs0), HCL2.out]
          have g : ((s : Int) != 0) = true := by simp [hs0]
          clear hs0 KY K4 c0' d0' c1' d1'
          go_wp2_with fail
          go_ret
          exact ⟨ret_int HT2.out.symm, HE.out.trans hN⟩
      · have hkm2 : k = m := by omega
        have HT2 : Hid (q = 1) := by
          show _ = _
          have e2 : b.drop k = [] := List.drop_of_length_le (by rw [hkm2, HM.out]; exact Nat.le_refl _)
          rw [HT.out, e2, List.drop_eq_getElem_cons hla2]; rfl
        have i2 : ¬ (k : Int) < (m : Int) := by omega
        have i3 : (m : Int) < (n : Int) := by omega
        have i4 : ¬ (n : Int) < (m : Int) := by omega
        clear hx hcl1 hkm2
        go_wp2_with fail
        go_ret
        exact ⟨ret_int HT2.out.symm, HE.out⟩
    · have hkn : k = n := by omega
      have i1 : ¬ (k : Int) < (n : Int) := by omega
      by_cases hnm : n < m
      · have HT2 : Hid (q = -1) := by
          show _ = _
          have hlb : k < b.length := by rw [← HM.out]; omega
          have e1 : a.drop k = [] := List.drop_of_length_le (by rw [hkn, HN.out]; exact Nat.le_refl _)
          rw [HT.out, e1, List.drop_eq_getElem_cons hlb]; rfl
        have i2 : (n : Int) < (m : Int) := by omega
        clear hkn
        go_wp2_with fail
        go_ret
        exact ⟨ret_int HT2.out.symm, HE.out⟩
      · have hnm2 : n = m := by omega
        have HT2 : Hid (q = 0) := by
          show _ = _
          have e1 : a.drop k = [] := List.drop_of_length_le (by rw [hkn, HN.out]; exact Nat.le_refl _)
          have e2 : b.drop k = [] := List.drop_of_length_le (by rw [hkn, hnm2, HM.out]; exact Nat.le_refl _)
          rw [HT.out, e1, e2]; rfl
        have i2 : ¬ (n : Int) < (m : Int) := by omega
        have i3 : ¬ (m : Int) < (n : Int) := by omega
        clear hkn hnm2
        go_wp2_with fail
        go_ret
        exact ⟨ret_int HT2.out.symm, HE.out⟩
end Go.Proofs.YtkgcbeokfilehaaGreatDoor

/-
  The reference: May.
-/
namespace Go.Proofs.YtkgcbeokfilehaaGreatDoor
open Go.RowKit Go.Sort Go.Maps
/-- As far as it has been looked at. -/
structure MayT (l : Lbs) : Prop where
  ok : ∀ x ∈ l, nameOk x.1 = true ∧ valueOk x.2 = true
  apart : l.Pairwise (fun x y => x.1 ≠ y.1)
theorem MayT.nil : MayT [] := ⟨fun _ h => absurd h List.not_mem_nil, List.Pairwise.nil⟩
theorem MayT.succ {l : Lbs} {k : Nat} {y : Lb} (h : MayT (l.take k)) (hk : k < l.length) (hy : y = l[k]) (h1 : nameOk y.1 = true) (h2 : valueOk y.2 = true) (h3 : ∀ x ∈ l.take k, x.1 ≠ y.1) : MayT (l.take (k + 1)) := by
  rw [List.take_succ_eq_append_getElem hk, ← hy]
  refine ⟨fun x hx => ?_, List.pairwise_append.2 ⟨h.apart, List.pairwise_singleton _ _, fun a ha b hb => ?_⟩⟩
  · rcases List.mem_append.1 hx with hx | hx
    · exact h.ok x hx
    · rw [List.mem_singleton] at hx; subst hx; exact ⟨h1, h2⟩
  · rw [List.mem_singleton] at hb; subst hb; exact h3 a ha
theorem may_iff {l : Lbs} (h1 : 1 ≤ l.length) (h6 : l.length ≤ 6) : mayL l = true ↔ MayT l := by
  constructor
  · intro h
    obtain ⟨_, h3, h4⟩ := mayL_parts h
    exact ⟨h3, namesApart_iff.1 h4⟩
  · intro h
    unfold mayL
    rw [Bool.and_eq_true, Bool.and_eq_true, Bool.and_eq_true, List.all_eq_true]
    exact ⟨⟨⟨decide_eq_true h1, decide_eq_true h6⟩, fun x hx => by rw [Bool.and_eq_true]; exact h.ok x hx⟩, namesApart_iff.2 h.apart⟩
theorem apart_take {l : Lbs} {j : Nat} {y x : Lb} (hj : j < l.length) (hx : x = l[j]) (h : ∀ z ∈ l.take j, z.1 ≠ y.1) (hn : x.1 ≠ y.1) : ∀ z ∈ l.take (j + 1), z.1 ≠ y.1 := by
  intro z hz
  rw [List.take_succ_eq_append_getElem hj, ← hx] at hz
  rcases List.mem_append.1 hz with hz | hz
  · exact h z hz
  · rw [List.mem_singleton] at hz; subst hz; exact hn
theorem not_apart {l : Lbs} {i j : Nat} (hi : i < l.length) (hj : j < i) (h : l[j].1 = l[i].1) : ¬ l.Pairwise (fun x y => x.1 ≠ y.1) := fun hp => List.pairwise_iff_getElem.1 hp j i (by omega) hi hj h
set_option maxRecDepth 100000 in
set_option maxHeartbeats 4000000 in
/-- eskerref07.May. -/
theorem ref_may (v : Value) (l : Lbs) (W : World) (hR : RdL W W.heap.size v l) (hv : ∀ x ∈ l, x.1.length ≤ 140737488355328 ∧ x.2.length ≤ 140737488355328) :
    Calls Tryz.prog 52 #[v] W fun e w' => e = .returned (.bool (mayL l)) ∧ Ext W w' := by
  have KN : Hid (∀ x ∈ l, ∀ w, Calls Tryz.prog 58 #[vT x.1] w fun e w' => e = .returned (.bool (nameOk x.1)) ∧ w' = w) := fun x hx w => ref_name x.1 w (hv x hx).1
  have HV := Lib.hid hv
  obtain ⟨A, c, rfl, hc, hA⟩ := hR
  have HA := Lib.hid hA
  obtain ⟨n, hn⟩ : ∃ n, n = l.length := ⟨_, rfl⟩
  rw [← hn]
  have HN := Lib.hid hn
  obtain ⟨q, hq⟩ : ∃ q, q = mayL l := ⟨_, rfl⟩
  have HQ := Lib.hid hq
  rw [← hq]
  clear hA hc hn hq hv
  by_cases h1 : 1 ≤ n
  case neg =>
    have hq2 : Hid (q = false) := by show _ = _; rw [HQ.out]; unfold mayL; rw [← HN.out]; simp [h1]
    have i1 : ¬ (1 : Int) ≤ (n : Int) := by omega
    go_enter Tryz.func52, Tryz.ntmps52
    go_wp2_with fail
    go_ret
    exact ⟨ret_bool hq2.out.symm, Ext.refl _⟩
  by_cases h6 : n ≤ 6
  case neg =>
    have hq2 : Hid (q = false) := by show _ = _; rw [HQ.out]; unfold mayL; rw [← HN.out]; simp [h6]
    have i1 : (1 : Int) ≤ (n : Int) := by omega
    have i2 : ¬ (n : Int) ≤ 6 := by omega
    go_enter Tryz.func52, Tryz.ntmps52
    go_wp2_with fail
    go_ret
    exact ⟨ret_bool hq2.out.symm, Ext.refl _⟩
  have i1 : (1 : Int) ≤ (n : Int) := by omega
  have i2 : (n : Int) ≤ 6 := by omega
  have HM : Hid (q = true ↔ MayT l) := by
    show _ ↔ _
    rw [HQ.out]
    exact may_iff (by rw [← HN.out]; exact h1) (by rw [← HN.out]; exact h6)
  go_enter Tryz.func52, Tryz.ntmps52
  go_wp2_with fail
  go_loopw [3, 4, 5] (fun i _ _ wl => ∃ k : Nat, k ≤ n ∧ i = .int .i64 k ∧ Hid (MayT (l.take k)) ∧ Hid (Ext W wl)) (fun i _ _ _ => n - (intOf i).toNat)
  case atStart => exact ⟨0, Nat.zero_le _, rfl, MayT.nil, Ext.refl _⟩
  case round =>
    obtain ⟨k, hk, rfl, HI, HE⟩ := hrel
    by_cases hlt : k < n
    · have hl2 : k < l.length := by rw [← HN.out]; exact hlt
      rcases HA.out with h0 | ⟨b, o, e, hb, hcl⟩
      · subst h0; simp at hl2
      subst e
      obtain ⟨w1, hw1⟩ : ∃ w1, w1 = wr := ⟨_, rfl⟩
      subst hw1
      obtain ⟨y, hy⟩ : ∃ y, y = l[k] := ⟨_, rfl⟩
      obtain ⟨c0, c1⟩ : Cell2 w1 b (o + k * 2) y := by rw [hy]; exact (hcl k hl2).below HE.out.below hb
      have hmem : y ∈ l := by rw [hy]; exact List.getElem_mem hl2
      have HY := Lib.hid hy
      have HL2 := Lib.hid hl2
      have HNO : Hid (¬ (nameOk y.1 = true ∧ valueOk y.2 = true) → q = false) := fun hn => by
        cases hq : q with
        | false => rfl
        | true => exact absurd ((HM.out.1 hq).ok y hmem) hn
      have KY := Lib.hid (KN.out y hmem w1)
      have hvl := (HV.out y hmem).2
      obtain ⟨r, hr⟩ : ∃ r, r = nameOk y.1 := ⟨_, rfl⟩
      have HRR := Lib.hid hr
      rw [← hr] at KY HNO
      obtain ⟨m, hm⟩ : ∃ m, m = y.2.length := ⟨_, rfl⟩
      have HVO : Hid (valueOk y.2 = (decide (1 ≤ m) && decide (m ≤ 16))) := by show _ = _; rw [hm]; rfl
      rw [← hm] at hvl
      obtain ⟨x1, hx1⟩ : ∃ z : ByteArray, z = ⟨y.1.toArray⟩ := ⟨_, rfl⟩
      obtain ⟨x2, hx2⟩ : ∃ z : ByteArray, z = ⟨y.2.toArray⟩ := ⟨_, rfl⟩
      have HX1 := Lib.hid hx1
      have hs2 : x2.size = m := by rw [hx2, hm]; simp [ByteArray.size]
      unfold vT at c0 c1 KY
      rw [← hx1] at c0 KY
      rw [← hx2] at c1
      have HCL := Lib.hid hcl
      have i3 : (k : Int) < (n : Int) := by omega
      clear hy hr hm hx1 hx2 hmem hcl
      go_wp2_with fail
      refine KY.out.mono ?_
      rintro e w2 ⟨rfl, hw2⟩
      subst hw2
      clear KY
      cases r with
      | false =>
        have hq2 : Hid (q = false) := HNO.out (by simp)
        go_wp2_with fail
        go_ret
        exact ⟨ret_bool hq2.out.symm, HE.out⟩
      | true =>
        by_cases hm1 : 1 ≤ m
        case neg =>
          have hq2 : Hid (q = false) := HNO.out (by rw [HVO.out]; simp [hm1])
          have i4 : ¬ (1 : Int) ≤ (m : Int) := by omega
          go_wp2_with fail
          go_ret
          exact ⟨ret_bool hq2.out.symm, HE.out⟩
        by_cases hm16 : m ≤ 16
        case neg =>
          have hq2 : Hid (q = false) := HNO.out (by rw [HVO.out]; simp [hm16])
          have i4 : (1 : Int) ≤ (m : Int) := by omega
          have i5 : ¬ (m : Int) ≤ 16 := by omega
          go_wp2_with fail
          go_ret
          exact ⟨ret_bool hq2.out.symm, HE.out⟩
        have hvo : Hid (valueOk y.2 = true) := by show _ = _; rw [HVO.out]; simp [hm1, hm16]
        have i4 : (1 : Int) ≤ (m : Int) := by omega
        have i5 : (m : Int) ≤ 16 := by omega
        go_wp2_with fail
        go_loopw [5] (fun jv wl => ∃ j : Nat, j ≤ k ∧ jv = .int .i64 j ∧ Hid (∀ x ∈ l.take j, x.1 ≠ y.1) ∧ Hid (Ext w2 wl)) (fun jv _ => k - (intOf jv).toNat)
        case atStart => exact ⟨0, Nat.zero_le _, rfl, (by simp : ∀ x ∈ l.take 0, x.1 ≠ y.1), Ext.refl _⟩
        case round =>
          obtain ⟨j, hj, rfl, HJ, HE2⟩ := hrel
          by_cases hlj : j < k
          · have hl3 : j < l.length := Nat.lt_trans hlj HL2.out
            obtain ⟨z, hz⟩ : ∃ z, z = l[j] := ⟨_, rfl⟩
            have d0 : wr.cell? ⟨b, o + j * 2, none⟩ = some (vT z.1) := by rw [hz]; exact HE2.out.cell_some (HE.out.cell_some (HCL.out j hl3).1)
            have e0 := HE2.out.cell_some c0
            have HSt := Lib.hid (fun hn => apart_take (y := y) hl3 hz HJ.out hn)
            have HBad : Hid (z.1 = y.1 → q = false) := fun he => by
              cases hq : q with
              | false => rfl
              | true => exact absurd (HM.out.1 hq).apart (not_apart HL2.out hlj (by rw [← hz, ← HY.out]; exact he))
            obtain ⟨zb, hzb⟩ : ∃ zb : ByteArray, zb = ⟨z.1.toArray⟩ := ⟨_, rfl⟩
            have hcmp : (zb.toList == x1.toList) = decide (z.1 = y.1) := by rw [eq_bytes, hzb, HX1.out]; simp only [str_bytes]
            unfold vT at d0
            rw [← hzb] at d0
            have j1 : (j : Int) < (k : Int) := by omega
            have j2 : (j : Int) < (n : Int) := by omega
            clear hz hzb hl3
            by_cases he : z.1 = y.1
            · rw [decide_eq_true he] at hcmp
              have hq2 : Hid (q = false) := HBad.out he
              clear HSt HBad he
              go_wp2_with fail
              go_quiet (fail)
              go_wp2_with fail
              go_ret
              exact ⟨ret_bool hq2.out.symm, HE.out.trans (HE2.out.drewN nq)⟩
            · rw [decide_eq_false he] at hcmp
              have HJ2 := Lib.hid (HSt.out he)
              clear HSt HBad he
              go_wp2_with fail
              go_quiet (fail)
              clear d0 e0
              go_wp2_with fail
              go_roundw
              case rel => exact ⟨j + 1, by omega, by go_num, HJ2.out, HE2.out.drewN nq⟩
              case measure => simp [intOf]; omega
          · have hjk : j = k := by omega
            have HI2 : Hid (MayT (l.take (k + 1))) := HI.out.succ HL2.out HY.out HRR.out.symm hvo.out (by have := HJ.out; rwa [hjk] at this)
            have j1 : ¬ (j : Int) < (k : Int) := by omega
            clear hjk
            go_wp2_with fail
            go_roundw
            case rel => exact ⟨k + 1, by omega, by go_num, HI2.out, HE.out.trans HE2.out⟩
            case measure => simp [intOf]; omega
    · have hkn : k = n := by omega
      have hq2 : Hid (q = true) := HM.out.2 (by have := HI.out; rwa [hkn, HN.out, List.take_length] at this)
      have i3 : ¬ (k : Int) < (n : Int) := by omega
      go_wp2_with fail
      go_ret
      exact ⟨ret_bool hq2.out.symm, HE.out⟩
end Go.Proofs.YtkgcbeokfilehaaGreatDoor
