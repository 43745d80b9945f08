/-
  The reference: Get, Name, One, All, Check.
-/
import Derived.Test.YtkgcbeokfilehaaGreatDoorWfd
import Derived.Test.YtkgcbeokfilehaaGreatDoorVjd
import Derived.BigQuiet
namespace Go.Proofs.YtkgcbeokfilehaaGreatDoor
open Go.RowKit Go.Sort Go.Maps
theorem getL_here {l : Lbs} {k : Nat} {y : Lb} {nm : Str} (hk : k < l.length) (hy : y = l[k]) (h : ∀ x ∈ l.take k, x.1 ≠ nm) : (y.1 = nm → getL l nm = y.2) ∧ (y.1 ≠ nm → ∀ x ∈ l.take (k + 1), x.1 ≠ nm) := by
  constructor
  · intro e
    unfold getL
    have : l.find? (fun x => decide (x.1 = nm)) = some y := by
      rw [List.find?_eq_some_iff_append]
      refine ⟨by simpa using e, l.take k, l.drop (k + 1), ?_, fun a ha => by simpa using h a ha⟩
      rw [hy, List.getElem_cons_drop, List.take_append_drop]
    rw [this]; rfl
  · intro e x hx
    rw [List.take_succ_eq_append_getElem hk, ← hy] at hx
    rcases List.mem_append.1 hx with hx | hx
    · exact h x hx
    · rw [List.mem_singleton] at hx; subst hx; exact e
theorem getL_no {l : Lbs} {nm : Str} (h : ∀ x ∈ l, x.1 ≠ nm) : getL l nm = [] := by
  unfold getL
  rw [List.find?_eq_none.2 (fun x hx => by simpa using h x hx)]; rfl
theorem nameB_nat (c : UInt8) : nameB c = true ↔ (c.toNat = 95 ∨ (97 ≤ c.toNat ∧ c.toNat ≤ 122) ∨ (48 ≤ c.toNat ∧ c.toNat ≤ 57)) := by
  unfold nameB
  simp only [Bool.or_eq_true, Bool.and_eq_true, beq_iff_eq, decide_eq_true_eq, UInt8.le_iff_toNat_le, ← UInt8.toNat_inj]
  simp only [UInt8.reduceToNat]
  omega
theorem ret_str {v w : Value} (h : w = v) : (Ending.returned v : Ending) = .returned w := by rw [h]
set_option maxHeartbeats 1000000 in
/-- eskerref07.Get. -/
theorem ref_get (v : Value) (l : Lbs) (nm : Str) (W : World) (hR : RdL W W.heap.size v l) (hl : l.length ≤ 1000000) :
    Calls Tryz.prog 57 #[v, vT nm] W fun e w' => e = .returned (vT (getL l nm)) ∧ w' = W := by
  obtain ⟨A, c, rfl, hc, hA⟩ := hR
  have HA := Lib.hid hA
  obtain ⟨n, hn⟩ : ∃ n, n = l.length := ⟨_, rfl⟩
  rw [← hn] at hl ⊢
  have HN := Lib.hid hn
  obtain ⟨nb, hnb⟩ : ∃ nb : ByteArray, nb = ⟨nm.toArray⟩ := ⟨_, rfl⟩
  obtain ⟨r, hr⟩ : ∃ r, r = getL l nm := ⟨_, rfl⟩
  have HR := Lib.hid hr
  rw [← hr]
  have HNB := Lib.hid hnb
  have e0 : vT nm = .string nb := by rw [hnb]; rfl
  rw [e0]
  clear hA hc hn hnb hr e0
  go_enter Tryz.func57, Tryz.ntmps57
  go_wp2_with fail
  go_loopw [5] (fun i wl => ∃ k : Nat, k ≤ n ∧ i = .int .i64 k ∧ Hid (∀ x ∈ l.take k, x.1 ≠ nm) ∧ Hid (wl = W)) (fun i _ => n - (intOf i).toNat)
  case atStart => exact ⟨0, Nat.zero_le _, rfl, (by simp : ∀ x ∈ l.take 0, x.1 ≠ nm), rfl⟩
  case round =>
    obtain ⟨k, hk, rfl, HI, HE⟩ := hrel
    have hE := HE.out
    subst hE
    by_cases hlt : k < n
    · have hl2 : k < l.length := by rw [← HN.out]; exact hlt
      rcases HA.out with h0 | ⟨b, o, e, hb, hcl⟩
      · subst h0; simp at hl2
      subst e
      obtain ⟨y, hy⟩ : ∃ y, y = l[k] := ⟨_, rfl⟩
      obtain ⟨c0, c1⟩ : Cell2 wr b (o + k * 2) y := by rw [hy]; exact hcl k hl2
      obtain ⟨h1, h2⟩ := getL_here hl2 hy HI.out
      have H1 := Lib.hid h1
      have H2 := Lib.hid h2
      obtain ⟨y1, hy1⟩ : ∃ z : ByteArray, z = ⟨y.1.toArray⟩ := ⟨_, rfl⟩
      obtain ⟨y2, hy2⟩ : ∃ z : ByteArray, z = ⟨y.2.toArray⟩ := ⟨_, rfl⟩
      have HY2 := Lib.hid hy2
      have hcmp : (y1.toList == nb.toList) = decide (y.1 = nm) := by rw [eq_bytes, hy1, HNB.out]; simp only [str_bytes]
      unfold vT at c0 c1
      rw [← hy1] at c0
      rw [← hy2] at c1
      have i1 : (k : Int) < (n : Int) := by omega
      clear hcl hy h1 h2 hy1 hy2
      by_cases he : y.1 = nm
      · rw [decide_eq_true he] at hcmp
        have HV : Hid (vT r = .string y2) := by show _ = _; rw [HR.out, H1.out he, HY2.out]; rfl
        go_wp2_with fail
        go_ret
        exact ⟨ret_str HV.out, rfl⟩
      · rw [decide_eq_false he] at hcmp
        have HI2 := Lib.hid (H2.out he)
        go_wp2_with fail
        go_roundw
        case rel => exact ⟨k + 1, by omega, by go_num, HI2.out, (by first | exact rfl | exact trivial)⟩
        case measure => simp [intOf]; omega
    · have hkn : k = n := by omega
      have HV : Hid (vT r = .string ⟨#[]⟩) := by
        show _ = _
        have h := HI.out
        rw [hkn, HN.out, List.take_length] at h
        rw [HR.out, getL_no h]; rfl
      have i1 : ¬ (k : Int) < (n : Int) := by omega
      go_wp2_with fail
      go_ret
      exact ⟨ret_str HV.out, rfl⟩
set_option maxHeartbeats 1000000 in
/-- eskerref07.Name. -/
theorem ref_name (s : Str) (W : World) (hs : s.length ≤ 140737488355328) :
    Calls Tryz.prog 58 #[vT s] W fun e w' => e = .returned (.bool (nameOk s)) ∧ w' = W := by
  obtain ⟨x, hx⟩ : ∃ z : ByteArray, z = ⟨s.toArray⟩ := ⟨_, rfl⟩
  have e0 : vT s = .string x := by rw [hx]; rfl
  have hsz : x.size = s.length := by rw [hx]; simp [ByteArray.size]
  rw [e0]
  obtain ⟨n, hn⟩ : ∃ n, n = s.length := ⟨_, rfl⟩
  rw [← hn] at hsz hs
  have HN := Lib.hid hn
  have HX := Lib.hid hx
  obtain ⟨r, hr⟩ : ∃ r, r = nameOk s := ⟨_, rfl⟩
  have HR := Lib.hid hr
  rw [← hr]
  clear hx e0 hn hr
  by_cases h1 : 1 ≤ n
  case neg =>
    have hr : Hid (r = false) := by show _ = _; rw [HR.out]; unfold nameOk; rw [← HN.out]; simp [h1]
    have i1 : ¬ (1 : Int) ≤ (n : Int) := by omega
    go_enter Tryz.func58, Tryz.ntmps58
    go_wp2_with fail
    go_ret
    exact ⟨ret_bool hr.out.symm, rfl⟩
  by_cases h2 : n ≤ 12
  case neg =>
    have hr : Hid (r = false) := by show _ = _; rw [HR.out]; unfold nameOk; rw [← HN.out]; simp [h2]
    have i1 : (1 : Int) ≤ (n : Int) := by omega
    have i2 : ¬ (n : Int) ≤ 12 := by omega
    go_enter Tryz.func58, Tryz.ntmps58
    go_wp2_with fail
    go_ret
    exact ⟨ret_bool hr.out.symm, rfl⟩
  have i1 : (1 : Int) ≤ (n : Int) := by omega
  have i2 : (n : Int) ≤ 12 := by omega
  go_enter Tryz.func58, Tryz.ntmps58
  go_wp2_with fail
  go_loopw [3, 4] (fun i _ wl => ∃ k : Nat, k ≤ n ∧ i = .int .i64 k ∧ Hid ((s.take k).all nameB = true) ∧ Hid (wl = W)) (fun i _ _ => n - (intOf i).toNat)
  case atStart => exact ⟨0, Nat.zero_le _, rfl, rfl, rfl⟩
  case round =>
    obtain ⟨k, hk, rfl, HI, HE⟩ := hrel
    have hE := HE.out
    subst hE
    by_cases hlt : k < n
    · have i3 : (k : Int) < (n : Int) := by omega
      have hkx : k < x.size := by omega
      have hks : k < s.length := by rw [← HN.out]; exact hlt
      have hxs : x[k]'hkx = s[k] := by
        have hx := HX.out
        subst hx
        rfl
      have hno : ¬ ((x[k]'hkx).toNat = 95 ∨ (97 ≤ (x[k]'hkx).toNat ∧ (x[k]'hkx).toNat ≤ 122) ∨ (48 ≤ (x[k]'hkx).toNat ∧ (x[k]'hkx).toNat ≤ 57)) → r = false := fun hc => by
        rw [hxs, ← nameB_nat] at hc
        rw [HR.out]
        unfold nameOk
        have : s.all nameB = false := List.all_eq_false.2 ⟨s[k], List.getElem_mem hks, hc⟩
        rw [this, Bool.and_false]
      have hyes : ((x[k]'hkx).toNat = 95 ∨ (97 ≤ (x[k]'hkx).toNat ∧ (x[k]'hkx).toNat ≤ 122) ∨ (48 ≤ (x[k]'hkx).toNat ∧ (x[k]'hkx).toNat ≤ 57)) → (s.take (k + 1)).all nameB = true := fun hc => by
        rw [hxs, ← nameB_nat] at hc
        rw [List.take_succ_eq_append_getElem hks, List.all_append, HI.out]
        simp [hc]
      have HNo := Lib.hid hno
      have HYes := Lib.hid hyes
      clear hno hyes hxs
      go_wp2_with fail
      all_goals first
        | (go_ret; exact ⟨ret_bool (HNo.out (by omega)).symm, (by first | exact rfl | exact trivial)⟩)
        | (go_roundw
           case rel => exact ⟨k + 1, by omega, by go_num, HYes.out (by first | omega | (simp only [bne_eq_false_iff_eq] at *; omega)), (by first | exact rfl | exact trivial)⟩
           case measure => simp [intOf]; omega)
    · have hkn : k = n := by omega
      have hr : Hid (r = true) := by
        show _ = _
        have h := HI.out
        rw [hkn, HN.out, List.take_length] at h
        rw [HR.out]; unfold nameOk; rw [← HN.out, h]; simp [h1, h2]
      have i3 : ¬ (k : Int) < (n : Int) := by omega
      go_wp2_with fail
      go_ret
      exact ⟨ret_bool hr.out.symm, (by first | exact rfl | exact trivial)⟩
theorem pre_eq (g vl : Str) : (((⟨g.toArray⟩ : ByteArray).extract 0 vl.length).toList == (⟨vl.toArray⟩ : ByteArray).toList) = vl.isPrefixOf g := by
  rw [Lib.toList_data, Lib.toList_data]
  have h : ((⟨g.toArray⟩ : ByteArray).extract 0 vl.length).data.toList = g.take vl.length := by
    rw [ByteArray.data_extract]; simp
  rw [h]
  rw [Bool.eq_iff_iff, beq_iff_eq, List.isPrefixOf_iff_prefix, List.prefix_iff_eq_take]
  exact eq_comm
set_option maxHeartbeats 1000000 in
/-- eskerref08.One. -/
theorem ref_one (f : Fil) (v : Value) (l : Lbs) (W : World) (hR : RdL W W.heap.size v l) (hl : l.length ≤ 1000000) (hf : f.value.length ≤ 140737488355328) :
    Calls Tryz.prog 29 #[vF f, v] W fun e w' => e = .returned (.bool (oneF f l)) ∧ Ext W w' := by
  have KG := Lib.hid (fun w (h : Ext W w) => ref_get v l f.name w ((hR.below h.below).mono h.size) hl)
  obtain ⟨A, c, rfl, _, _⟩ := hR
  rw [oneF_is]
  unfold isR
  obtain ⟨g, hgd⟩ : ∃ g, g = getL l f.name := ⟨_, rfl⟩
  rw [← hgd] at KG ⊢
  clear hgd
  obtain ⟨nm, vl, pre, ng⟩ := f
  unfold vF at *
  simp only at *
  obtain ⟨W1, hW1⟩ : ∃ W1, W1 = W.alloc (.cells #[vT nm, vT vl, .bool pre, .bool ng] 61) := ⟨_, rfl⟩
  have HE1 : Hid (Ext W W1) := by show Ext _ _; rw [hW1]; exact (Ext.refl W).alloc _
  have c0 : W1.cell? ⟨W.heap.size, 0, none⟩ = some (vT nm) := by rw [hW1]; exact new_cell _ _ _ 0
  have c1 : W1.cell? ⟨W.heap.size, 1, none⟩ = some (vT vl) := by rw [hW1]; exact new_cell _ _ _ 1
  have c2 : W1.cell? ⟨W.heap.size, 2, none⟩ = some (.bool pre) := by rw [hW1]; exact new_cell _ _ _ 2
  have c3 : W1.cell? ⟨W.heap.size, 3, none⟩ = some (.bool ng) := by rw [hW1]; exact new_cell _ _ _ 3
  have KG1 := Lib.hid (KG.out W1 HE1.out)
  obtain ⟨gb, hgb⟩ : ∃ z : ByteArray, z = ⟨g.toArray⟩ := ⟨_, rfl⟩
  obtain ⟨vb, hvb⟩ : ∃ z : ByteArray, z = ⟨vl.toArray⟩ := ⟨_, rfl⟩
  have hgs : gb.size = g.length := by rw [hgb]; simp [ByteArray.size]
  have hvs : vb.size = vl.length := by rw [hvb]; simp [ByteArray.size]
  have hcmp : (gb.toList == vb.toList) = decide (g = vl) := by rw [eq_bytes, hgb, hvb]; simp only [str_bytes]
  obtain ⟨p, hp⟩ : ∃ p, p = decide (g = vl) := ⟨_, rfl⟩
  rw [← hp] at hcmp ⊢
  have e1 : vT g = .string gb := by rw [hgb]; rfl
  have e2 : vT vl = .string vb := by rw [hvb]; rfl
  rw [e1] at KG1
  rw [e2] at c1 hW1 ⊢
  unfold vT at *
  generalize (⟨nm.toArray⟩ : ByteArray) = xn at *
  have HGB := Lib.hid hgb
  have HVB := Lib.hid hvb
  obtain ⟨n1, hn1⟩ : ∃ n1, n1 = g.length := ⟨_, rfl⟩
  obtain ⟨n2, hn2⟩ : ∃ n2, n2 = vl.length := ⟨_, rfl⟩
  rw [← hn1] at hgs
  rw [← hn2] at hvs hf
  have HN1 := Lib.hid hn1
  have HN2 := Lib.hid hn2
  clear hgb hvb hp e1 e2 KG hn1 hn2
  cases pre with
  | false =>
    go_enter Tryz.func29, Tryz.ntmps29
    go_wp2_with fail
    rw [← hW1]
    clear hW1
    refine KG1.out.mono ?_
    rintro e w2 ⟨rfl, hw2⟩
    subst hw2
    go_wp2_with fail
    go_ret
    exact ⟨ret_bool (by cases p <;> cases ng <;> rfl), HE1.out⟩
  | true =>
    by_cases hle : n2 ≤ n1
    · obtain ⟨q, hq⟩ : ∃ q, q = vl.isPrefixOf g := ⟨_, rfl⟩
      simp only [if_true]
      rw [← hq]
      have hpre : ((gb.extract 0 n2).toList == vb.toList) = q := by rw [hq, HGB.out, HVB.out, HN2.out]; exact pre_eq g vl
      have i1 : (n2 : Int) ≤ (n1 : Int) := by omega
      clear hq
      go_enter Tryz.func29, Tryz.ntmps29
      go_wp2_with fail
      rw [← hW1]
      clear hW1
      refine KG1.out.mono ?_
      rintro e w2 ⟨rfl, hw2⟩
      subst hw2
      go_wp2_with fail
      go_quiet (fail)
      go_wp2_with fail
      go_ret
      exact ⟨ret_bool (by cases q <;> cases ng <;> rfl), HE1.out.drewN nq⟩
    · have hq : vl.isPrefixOf g = false := by
        apply Bool.eq_false_iff.2
        intro h
        have := (List.isPrefixOf_iff_prefix.1 h).length_le
        have := HN1.out
        have := HN2.out
        omega
      simp only [if_true]
      rw [hq]
      have i1 : ¬ (n2 : Int) ≤ (n1 : Int) := by omega
      clear hq
      go_enter Tryz.func29, Tryz.ntmps29
      go_wp2_with fail
      rw [← hW1]
      clear hW1
      refine KG1.out.mono ?_
      rintro e w2 ⟨rfl, hw2⟩
      subst hw2
      go_wp2_with fail
      go_quiet (fail)
      go_wp2_with fail
      go_ret
      exact ⟨ret_bool (by cases ng <;> rfl), HE1.out.drewN nq⟩
/-- How many are. -/
def cntF (fs : List Fil) (l : Lbs) : Nat := fs.countP (fun f => oneF f l)
theorem cntF_take {fs : List Fil} {l : Lbs} {k : Nat} {y : Fil} (hk : k < fs.length) (hy : y = fs[k]) : cntF (fs.take (k + 1)) l = cntF (fs.take k) l + if oneF y l then 1 else 0 := by
  unfold cntF
  rw [List.take_succ_eq_append_getElem hk, ← hy, List.countP_append, List.countP_singleton]
theorem cntF_all (fs : List Fil) (l : Lbs) : ((cntF fs l : Int) == (fs.length : Int)) = allF fs l := by
  unfold cntF allF
  rw [Bool.eq_iff_iff, beq_iff_eq, List.all_eq_true]
  constructor
  · intro h
    exact List.countP_eq_length.1 (by omega)
  · intro h
    rw [List.countP_eq_length.2 h]
set_option maxRecDepth 100000 in
set_option maxHeartbeats 2000000 in
/-- eskerref08.All. -/
theorem ref_all (fv : Value) (fs : List Fil) (v : Value) (l : Lbs) (W : World) (hF : RdF W W.heap.size fv fs) (hR : RdL W W.heap.size v l) (hl : l.length ≤ 1000000) (hfs : fs.length ≤ 1000000) (hv : ∀ f ∈ fs, f.value.length ≤ 140737488355328) :
    Calls Tryz.prog 27 #[fv, v] W fun e w' => e = .returned (.bool (allF fs l)) ∧ Ext W w' := by
  have KO : Hid (∀ f ∈ fs, ∀ w, Ext W w → Calls Tryz.prog 29 #[vF f, v] w fun e w' => e = .returned (.bool (oneF f l)) ∧ Ext w w') := fun f hf w h => ref_one f v l w ((hR.below h.below).mono h.size) hl (hv f hf)
  obtain ⟨A, c, rfl, hc, hA⟩ := hF
  obtain ⟨B, d, rfl, _, _⟩ := hR
  have HA := Lib.hid hA
  obtain ⟨n, hn⟩ : ∃ n, n = fs.length := ⟨_, rfl⟩
  rw [← hn] at hfs ⊢
  have HN := Lib.hid hn
  obtain ⟨q, hq⟩ : ∃ q, q = allF fs l := ⟨_, rfl⟩
  have HQ := Lib.hid hq
  rw [← hq]
  clear hA hn hq hc hl hv
  go_enter Tryz.func27, Tryz.ntmps27
  go_wp2_with fail
  go_loopw [5, 6, 7] (fun nv i _ wl => ∃ k m : Nat, k ≤ n ∧ m ≤ k ∧ nv = .int .i64 m ∧ i = .int .i64 k ∧ Hid (m = cntF (fs.take k) l) ∧ Hid (Ext W wl)) (fun _ i _ _ => n - (intOf i).toNat)
  case atStart => exact ⟨0, 0, Nat.zero_le _, Nat.le_refl _, rfl, rfl, rfl, Ext.refl _⟩
  case round =>
    obtain ⟨k, m, hk, hm, rfl, rfl, HI, HE⟩ := hrel
    by_cases hlt : k < n
    · have hl2 : k < fs.length := by rw [← HN.out]; exact hlt
      rcases HA.out with h0 | ⟨b, o, e, hb, hcl⟩
      · subst h0; simp at hl2
      subst e
      obtain ⟨y, hy⟩ : ∃ y, y = fs[k] := ⟨_, rfl⟩
      obtain ⟨c0, c1, c2, c3⟩ : FilAt wr b (o + k * 4) y := by rw [hy]; exact (hcl k hl2).below HE.out.below hb
      have HX := Lib.hid (cntF_take (l := l) hl2 hy)
      have i1 : (k : Int) < (n : Int) := by omega
      have KY := Lib.hid (KO.out y (by rw [hy]; exact List.getElem_mem hl2))
      obtain ⟨r, hr⟩ : ∃ r, r = oneF y l := ⟨_, rfl⟩
      rw [← hr] at HX KY
      clear hy hcl hr
      unfold vF vT at *
      generalize (⟨y.name.toArray⟩ : ByteArray) = x1 at *
      generalize (⟨y.value.toArray⟩ : ByteArray) = x2 at *
      generalize y.pre = x3 at *
      generalize y.neg = x4 at *
      go_wp2_with fail
      refine (KY.out _ HE.out).mono ?_
      rintro e w2 ⟨rfl, hE2⟩
      have HE2 : Hid (Ext W w2) := HE.out.trans hE2
      clear c0 c1 c2 c3 hE2 KY
      have i2 : (m : Int) ≤ 1000000 := by omega
      cases r with
      | true =>
        have hI2 : Hid (m + 1 = cntF (fs.take (k + 1)) l) := by show _ = _; rw [HX.out, ← HI.out]; rfl
        clear HX
        go_wp2_with fail
        go_roundw
        case rel => exact ⟨k + 1, m + 1, by omega, by omega, by go_num, by go_num, hI2.out, HE2.out⟩
        case measure => simp [intOf]; omega
      | false =>
        have hI2 : Hid (m = cntF (fs.take (k + 1)) l) := by show _ = _; rw [HX.out, ← HI.out]; rfl
        clear HX
        go_wp2_with fail
        go_roundw
        case rel => exact ⟨k + 1, m, by omega, by omega, by go_num, by go_num, hI2.out, HE2.out⟩
        case measure => simp [intOf]; omega
    · have hkn : k = n := by omega
      have hq2 : Hid (((m : Int) == (n : Int)) = q) := by
        show _ = _
        have := HI.out
        rw [hkn, HN.out, List.take_length] at this
        rw [HQ.out, ← cntF_all, this, HN.out]
      have i1 : ¬ (k : Int) < (n : Int) := by omega
      have hq3 := hq2.out
      go_wp2_with fail
      go_ret
      exact ⟨ret_bool (by first | rfl | exact hq2.out | (rw [← hq2.out])), HE.out⟩
set_option maxRecDepth 100000 in
set_option maxHeartbeats 2000000 in
/-- eskerref08.Check. -/
theorem ref_check (fv : Value) (fs : List Fil) (W : World) (hF : RdF W W.heap.size fv fs) (hv : ∀ f ∈ fs, f.name.length ≤ 140737488355328 ∧ f.value.length ≤ 140737488355328) :
    Calls Tryz.prog 28 #[fv] W fun e w' => e = .returned (.int .i64 (checkF fs)) ∧ w' = W := by
  have KN : Hid (∀ f ∈ fs, ∀ w, Calls Tryz.prog 58 #[vT f.name] w fun e w' => e = .returned (.bool (nameOk f.name)) ∧ w' = w) := fun f hf w => ref_name f.name w (hv f hf).1
  obtain ⟨A, c, rfl, hc, hA⟩ := hF
  have HA := Lib.hid hA
  obtain ⟨n, hn⟩ : ∃ n, n = fs.length := ⟨_, rfl⟩
  rw [← hn]
  have HN := Lib.hid hn
  have HV := Lib.hid hv
  obtain ⟨q, hq⟩ : ∃ q, q = checkF fs := ⟨_, rfl⟩
  have HQ := Lib.hid hq
  rw [← hq]
  clear hA hn hq hc hv
  by_cases h4 : n ≤ 4
  case neg =>
    have hq2 : Hid (q = 2) := by show _ = _; rw [HQ.out]; unfold checkF; rw [if_pos (by rw [← HN.out]; omega)]
    have i1 : ¬ (n : Int) ≤ 4 := by omega
    rw [hq2.out]
    go_enter Tryz.func28, Tryz.ntmps28
    go_wp2_with fail
    go_ret
    exact ⟨rfl, rfl⟩
  have H4 : Hid (¬ 4 < fs.length) := by show ¬ _; rw [← HN.out]; omega
  have i0 : (n : Int) ≤ 4 := by omega
  go_enter Tryz.func28, Tryz.ntmps28
  go_wp2_with fail
  go_loopw [3, 4] (fun i _ wl => ∃ k : Nat, k ≤ n ∧ i = .int .i64 k ∧ Hid (∀ f ∈ fs.take k, nameOk f.name = true ∧ f.value.length ≤ 16) ∧ Hid (wl = W)) (fun i _ _ => n - (intOf i).toNat)
  case atStart => exact ⟨0, Nat.zero_le _, rfl, (by simp : ∀ f ∈ fs.take 0, nameOk f.name = true ∧ f.value.length ≤ 16), rfl⟩
  case round =>
    obtain ⟨k, hk, rfl, HI, HE⟩ := hrel
    have hE := HE.out
    subst hE
    by_cases hlt : k < n
    · have hl2 : k < fs.length := by rw [← HN.out]; exact hlt
      rcases HA.out with h0 | ⟨b, o, e, hb, hcl⟩
      · subst h0; simp at hl2
      subst e
      obtain ⟨y, hy⟩ : ∃ y, y = fs[k] := ⟨_, rfl⟩
      obtain ⟨c0, c1, c2, c3⟩ : FilAt wr b (o + k * 4) y := by rw [hy]; exact hcl k hl2
      have hmem : y ∈ fs := by rw [hy]; exact List.getElem_mem hl2
      have HB := Lib.hid (checkF_take hl2 hy H4.out)
      have HG : Hid (nameOk y.name = true → y.value.length ≤ 16 → ∀ f ∈ fs.take (k + 1), nameOk f.name = true ∧ f.value.length ≤ 16) := fun h1 h2 f hf => by
        rw [List.take_succ_eq_append_getElem hl2, ← hy] at hf
        rcases List.mem_append.1 hf with hf | hf
        · exact HI.out f hf
        · rw [List.mem_singleton] at hf; subst hf; exact ⟨h1, h2⟩
      have KY := Lib.hid (KN.out y hmem wr)
      have hvl := (HV.out y hmem).2
      obtain ⟨r, hr⟩ : ∃ r, r = nameOk y.name := ⟨_, rfl⟩
      rw [← hr] at HB HG KY
      obtain ⟨m, hm⟩ : ∃ m, m = y.value.length := ⟨_, rfl⟩
      rw [← hm] at HB HG hvl
      have i1 : (k : Int) < (n : Int) := by omega
      obtain ⟨x2, hx2⟩ : ∃ z : ByteArray, z = ⟨y.value.toArray⟩ := ⟨_, rfl⟩
      have hs2 : x2.size = m := by rw [hx2, hm]; simp [ByteArray.size]
      unfold vT at c0 c1 KY
      rw [← hx2] at c1
      generalize (⟨y.name.toArray⟩ : ByteArray) = x1 at c0 KY
      clear hy hcl hr hm hx2 hmem c2 c3
      go_wp2_with fail
      refine KY.out.mono ?_
      rintro e w2 ⟨rfl, hw2⟩
      subst hw2
      clear KY
      cases r with
      | false =>
        have hq2 : Hid (q = 80) := HQ.out.trans (HB.out (by simp))
        go_wp2_with fail
        go_ret
        exact ⟨ret_str (congrArg (Value.int .i64) hq2.out), (by first | exact rfl | exact trivial)⟩
      | true =>
        by_cases hm16 : m ≤ 16
        · have HI2 := Lib.hid (HG.out rfl hm16)
          have i2 : (m : Int) ≤ 16 := by omega
          go_wp2_with fail
          go_roundw
          case rel => exact ⟨k + 1, by omega, by go_num, HI2.out, (by first | exact rfl | exact trivial)⟩
          case measure => simp [intOf]; omega
        · have hq2 : Hid (q = 80) := HQ.out.trans (HB.out (by simp [hm16]))
          have i2 : ¬ (m : Int) ≤ 16 := by omega
          go_wp2_with fail
          go_ret
          exact ⟨ret_str (congrArg (Value.int .i64) hq2.out), (by first | exact rfl | exact trivial)⟩
    · have hkn : k = n := by omega
      have hq2 : Hid (q = 0) := by
        show _ = _
        have h := HI.out
        rw [hkn, HN.out, List.take_length] at h
        rw [HQ.out]; unfold checkF
        rw [if_neg H4.out, if_pos]
        rw [List.all_eq_true]
        intro f hf
        obtain ⟨h1, h2⟩ := h f hf
        simp [h1, h2]
      have i1 : ¬ (k : Int) < (n : Int) := by omega
      go_wp2_with fail
      go_ret
      exact ⟨ret_str (congrArg (Value.int .i64) hq2.out), (by first | exact rfl | exact trivial)⟩
end Go.Proofs.YtkgcbeokfilehaaGreatDoor
