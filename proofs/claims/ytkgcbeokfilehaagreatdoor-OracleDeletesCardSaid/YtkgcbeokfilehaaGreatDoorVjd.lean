/-
  filter.One, filter.All, filter.Check.
-/
import Derived.Test.YtkgcbeokfilehaaGreatDoorVhd
import Derived.Test.YtkgcbeokfilehaaGreatDoorVid
import Derived.Laws.EntriesVeiled
namespace Go.Proofs.YtkgcbeokfilehaaGreatDoor
open Go.RowKit Go.Sort Go.Shelf
/-- How a filter is asked. -/
def isFn (f : Fil) : Fn := if f.pre then .func 123 else .func 122
def isV (f : Fil) : Value := .func (isFn f) #[] #[]
theorem field_is (a b c d f : Value) (w : World) : (Instr.field 134 (.agg #[a, b, c, d, f]) 1).run Tryz.prog w = .ok f w := by kernel_rfl
set_option maxHeartbeats 1000000 in
theorem ask_walk (f : Fil) (W : World) : Calls Tryz.prog 89 #[vF f] W fun e w' => e = .returned (.agg #[vT f.name, vT f.value, .bool f.pre, .bool f.neg, isV f]) ∧ Ext W w' := by
  obtain ⟨n, v, p, g⟩ := f
  unfold vF isV isFn vT
  simp only
  generalize (⟨n.toArray⟩ : ByteArray) = x1
  generalize (⟨v.toArray⟩ : ByteArray) = x2
  have hr : Tryz.f89.results = #[.cell 2 134] := by kernel_rfl
  cases p with
  | false =>
    go_enter Tryz.func89, Tryz.ntmps89
    go_wp2_with fail
    refine bodyPost_ret (v := .agg #[.string x1, .string x2, .bool false, .bool g, .func (.func 122) #[] #[]]) ?_ rfl ⟨rfl, ?_⟩
    · unfold results
      rw [hr]
      go_simp
    · exact (((Ext.refl W).alloc _).alloc _).alloc _
  | true =>
    go_enter Tryz.func89, Tryz.ntmps89
    go_wp2_with fail
    refine bodyPost_ret (v := .agg #[.string x1, .string x2, .bool true, .bool g, .func (.func 123) #[] #[]]) ?_ rfl ⟨rfl, ?_⟩
    · unfold results
      rw [hr]
      go_simp
    · exact (((Ext.refl W).alloc _).alloc _).alloc _
theorem same_walkT (a b : Str) (W : World) : Calls Tryz.prog 122 #[vT a, vT b] W fun e w' => e = .returned (.bool (decide (a = b))) ∧ w' = W := by
  have h := same_T a b
  obtain ⟨q, hq⟩ : ∃ q, q = decide (a = b) := ⟨_, rfl⟩
  rw [← hq] at h ⊢
  unfold vT
  generalize (⟨a.toArray⟩ : ByteArray) = x at h ⊢
  generalize (⟨b.toArray⟩ : ByteArray) = y at h ⊢
  clear hq
  go_enter Tryz.func122, Tryz.ntmps122
  go_wp2_with fail
  go_ret
  exact ⟨rfl, rfl⟩
theorem pre_walk (a b : Str) (W : World) : Calls Tryz.prog 123 #[vT a, vT b] W fun e w' => e = .returned (.bool (b.isPrefixOf a)) ∧ w' = W :=
  (Any.strings_HasPrefix Tryz.prefixT _ _ W).mono fun e w' ⟨he, hw⟩ => ⟨by rw [he]; rfl, hw⟩
def isR (f : Fil) (v : Str) : Bool := if f.pre then f.value.isPrefixOf v else decide (v = f.value)
theorem oneF_is (f : Fil) (l : Lbs) : oneF f l = (isR f (getL l f.name) != f.neg) := rfl
set_option maxRecDepth 100000 in
set_option maxHeartbeats 2000000 in
/-- filter.One. -/
theorem one_walkF (f : Fil) (v : Value) (l : Lbs) (W : World) (hR : RdL W W.heap.size v l) (hl : l.length ≤ 1000000) :
    Calls Tryz.prog 67 #[vF f, v] W fun e w' => e = .returned (.bool (oneF f l)) ∧ Ext W w' := by
  obtain ⟨W1, hW1⟩ : ∃ W1, W1 = W.alloc (.cells #[vT f.name, vT f.value, .bool f.pre, .bool f.neg] 61) := ⟨_, rfl⟩
  have HE1 : Hid (Ext W W1) := by show Ext _ _; rw [hW1]; exact (Ext.refl W).alloc _
  have KA : Hid (∀ w, Calls Tryz.prog 89 #[vF f] w fun e w' => e = .returned (.agg #[vT f.name, vT f.value, .bool f.pre, .bool f.neg, isV f]) ∧ Ext w w') := fun w => ask_walk f w
  obtain ⟨t, ht⟩ : ∃ t, t = getL l f.name := ⟨_, rfl⟩
  have KG : Hid (∀ w, Ext W1 w → Calls Tryz.prog 90 #[v, vT f.name] w fun e w' => e = .returned (vT t) ∧ Ext w w') := fun w h => by
    rw [ht]
    have h2 := HE1.out.trans h
    exact get_walk v l f.name w ((hR.below h2.below).mono h2.size) hl
  have KS : Hid (∀ w, f.pre = false → Calls Tryz.prog 122 #[vT t, vT f.value] w fun e w' => e = .returned (.bool (isR f t)) ∧ w' = w) := fun w h => by
    have : isR f t = decide (t = f.value) := by unfold isR; rw [h]; rfl
    rw [this]; exact same_walkT t f.value w
  have KP : Hid (∀ w, f.pre = true → Calls Tryz.prog 123 #[vT t, vT f.value] w fun e w' => e = .returned (.bool (isR f t)) ∧ w' = w) := fun w h => by
    have : isR f t = f.value.isPrefixOf t := by unfold isR; rw [h]; rfl
    rw [this]; exact pre_walk t f.value w
  obtain ⟨q, hq⟩ : ∃ q, q = isR f t := ⟨_, rfl⟩
  have hone : oneF f l = (q != f.neg) := by rw [oneF_is, ← ht, hq]
  rw [hone]
  rw [← hq] at KS KP
  have e0 : W1.cell? ⟨W.heap.size, 0, none⟩ = some (vT f.name) := by rw [hW1]; simp
  have e1 : W1.cell? ⟨W.heap.size, 1, none⟩ = some (vT f.value) := by rw [hW1]; simp
  have e2 : W1.cell? ⟨W.heap.size, 2, none⟩ = some (.bool f.pre) := by rw [hW1]; simp
  have e3 : W1.cell? ⟨W.heap.size, 3, none⟩ = some (.bool f.neg) := by rw [hW1]; simp
  obtain ⟨n, val, p, g⟩ := f
  unfold vF isV isFn vT at *
  simp only at *
  generalize (⟨n.toArray⟩ : ByteArray) = x1 at *
  generalize (⟨val.toArray⟩ : ByteArray) = x2 at *
  generalize (⟨t.toArray⟩ : ByteArray) = x3 at *
  have KC : Hid (∀ w, Ext W1 w → w.cell? ⟨W.heap.size, 0, none⟩ = some (.string x1) ∧ w.cell? ⟨W.heap.size, 1, none⟩ = some (.string x2) ∧ w.cell? ⟨W.heap.size, 2, none⟩ = some (.bool p) ∧ w.cell? ⟨W.heap.size, 3, none⟩ = some (.bool g)) := fun w h => ⟨h.cell_some e0, h.cell_some e1, h.cell_some e2, h.cell_some e3⟩
  have hE0 := Ext.refl W1
  have hfi := field_is
  have HW1 := Lib.hid hW1
  obtain ⟨A, c, rfl, _, _⟩ := hR
  clear hW1 ht hq hone hl
  cases p with
  | false =>
    have KS2 := Lib.hid (fun w => KS.out w rfl)
    simp only [Bool.false_eq_true, if_false] at KA
    clear KP KS
    go_enter Tryz.func67, Tryz.ntmps67
    go_wp2_with fail
    rw [← HW1.out]
    go_region_held3 (fun w' => w'.cell? ⟨W.heap.size, 0, none⟩ = some (.string x1) ∧ w'.cell? ⟨W.heap.size, 1, none⟩ = some (.string x2) ∧ w'.cell? ⟨W.heap.size, 2, none⟩ = some (.bool false) ∧ w'.cell? ⟨W.heap.size, 3, none⟩ = some (.bool g) ∧ Ext W1 w')
      (first | assumption | (have hd := Ext.drew (by assumption : Ext W1 _); exact ⟨(KC.out _ hd).1, (KC.out _ hd).2.1, (KC.out _ hd).2.2.1, (KC.out _ hd).2.2.2, hd⟩) | exact ⟨(KC.out _ (by assumption)).1, (KC.out _ (by assumption)).2.1, (KC.out _ (by assumption)).2.2.1, (KC.out _ (by assumption)).2.2.2, (by assumption)⟩)
      (first
        | (go_at_call 89; refine (KA.out _).mono ?_; rintro e w2 ⟨rfl, hN⟩; have hN := Ext.trans (by first | assumption | exact Ext.drew (by assumption)) hN)
        | (go_at_call 90; refine (KG.out _ (by first | assumption | exact Ext.drew (by assumption))).mono ?_; rintro e w2 ⟨rfl, hN⟩; have hN := Ext.trans (by first | assumption | exact Ext.drew (by assumption)) hN)
        | (go_at_call 122; refine (KS2.out _).mono ?_; rintro e w2 ⟨rfl, rfl⟩))
    go_wp2_with fail
    go_ret
    exact ⟨ret_bool (by cases q <;> cases g <;> rfl), HE1.out.trans (by assumption)⟩
  | true =>
    have KS2 := Lib.hid (fun w => KP.out w rfl)
    simp only [if_true] at KA
    clear KP KS
    go_enter Tryz.func67, Tryz.ntmps67
    go_wp2_with fail
    rw [← HW1.out]
    go_region_held3 (fun w' => w'.cell? ⟨W.heap.size, 0, none⟩ = some (.string x1) ∧ w'.cell? ⟨W.heap.size, 1, none⟩ = some (.string x2) ∧ w'.cell? ⟨W.heap.size, 2, none⟩ = some (.bool true) ∧ w'.cell? ⟨W.heap.size, 3, none⟩ = some (.bool g) ∧ Ext W1 w')
      (first | assumption | (have hd := Ext.drew (by assumption : Ext W1 _); exact ⟨(KC.out _ hd).1, (KC.out _ hd).2.1, (KC.out _ hd).2.2.1, (KC.out _ hd).2.2.2, hd⟩) | exact ⟨(KC.out _ (by assumption)).1, (KC.out _ (by assumption)).2.1, (KC.out _ (by assumption)).2.2.1, (KC.out _ (by assumption)).2.2.2, (by assumption)⟩)
      (first
        | (go_at_call 89; refine (KA.out _).mono ?_; rintro e w2 ⟨rfl, hN⟩; have hN := Ext.trans (by first | assumption | exact Ext.drew (by assumption)) hN)
        | (go_at_call 90; refine (KG.out _ (by first | assumption | exact Ext.drew (by assumption))).mono ?_; rintro e w2 ⟨rfl, hN⟩; have hN := Ext.trans (by first | assumption | exact Ext.drew (by assumption)) hN)
        | (go_at_call 123; refine (KS2.out _).mono ?_; rintro e w2 ⟨rfl, rfl⟩))
    go_wp2_with fail
    go_ret
    exact ⟨ret_bool (by cases q <;> cases g <;> rfl), HE1.out.trans (by assumption)⟩
theorem allF_take {fs : List Fil} {l : Lbs} {k : Nat} {y : Fil} (hk : k < fs.length) (hy : y = fs[k]) (h : allF (fs.take k) l = true) : (oneF y l = true → allF (fs.take (k + 1)) l = true) ∧ (oneF y l = false → allF fs l = false) := by
  unfold allF at *
  constructor
  · intro ho
    rw [List.take_succ_eq_append_getElem hk, List.all_append, h, ← hy]
    simp [ho]
  · intro ho
    rw [List.all_eq_false]
    exact ⟨y, by rw [hy]; exact List.getElem_mem hk, by simp [ho]⟩
set_option maxRecDepth 100000 in
set_option maxHeartbeats 2000000 in
/-- filter.All. -/
theorem all_walkF (fv : Value) (fs : List Fil) (v : Value) (l : Lbs) (W : World) (hF : RdF W W.heap.size fv fs) (hR : RdL W W.heap.size v l) (hl : l.length ≤ 1000000) (hfs : fs.length ≤ 1000000) :
    Calls Tryz.prog 36 #[fv, v] W fun e w' => e = .returned (.bool (allF fs l)) ∧ Ext W w' := by
  have KO : Hid (∀ f w, Ext W w → Calls Tryz.prog 67 #[vF f, v] w fun e w' => e = .returned (.bool (oneF f l)) ∧ Ext w w') := fun f w h => one_walkF f v l w ((hR.below h.below).mono h.size) hl
  obtain ⟨A, c, rfl, hc, hA⟩ := hF
  obtain ⟨B, d, rfl, _, _⟩ := hR
  have HA := Lib.hid hA
  obtain ⟨n, hn⟩ : ∃ n, n = fs.length := ⟨_, rfl⟩
  rw [← hn] at hfs ⊢
  have HN := Lib.hid hn
  obtain ⟨q, hq⟩ : ∃ q, q = allF fs l := ⟨_, rfl⟩
  have HQ := Lib.hid hq
  rw [← hq]
  clear hA hn hq hc hl
  go_enter Tryz.func36, Tryz.ntmps36
  go_wp2_with fail
  go_step3
  go_wp2_with fail
  go_step3
  go_wp2_with fail
  go_loopw [5, 10] (fun b i wl => ∃ k : Nat, k ≤ n ∧ b = .bool true ∧ i = .int .i64 k ∧ Hid (allF (fs.take k) l = true) ∧ Hid (Ext W wl)) (fun _ i _ => n - (intOf i).toNat)
  case atStart => exact ⟨0, Nat.zero_le _, rfl, rfl, rfl, Ext.refl _⟩
  case round =>
    obtain ⟨k, hk, rfl, rfl, HI, HE⟩ := hrel
    by_cases hlt : k < n
    · have hl2 : k < fs.length := by rw [← HN.out]; exact hlt
      rcases HA.out with h0 | ⟨b, o, e, hb, hcl⟩
      · subst h0; simp at hl2
      subst e
      obtain ⟨y, hy⟩ : ∃ y, y = fs[k] := ⟨_, rfl⟩
      obtain ⟨c0, c1, c2, c3⟩ : FilAt wr b (o + k * 4) y := by rw [hy]; exact (hcl k hl2).below HE.out.below hb
      have HX := Lib.hid (allF_take (l := l) hl2 hy HI.out)
      have i1 : (k : Int) < (n : Int) := by omega
      have KY := Lib.hid (KO.out y)
      obtain ⟨r, hr⟩ : ∃ r, r = oneF y l := ⟨_, rfl⟩
      rw [← hr] at HX KY
      clear hy hcl hr
      unfold vF vT at *
      generalize (⟨y.name.toArray⟩ : ByteArray) = x1 at *
      generalize (⟨y.value.toArray⟩ : ByteArray) = x2 at *
      generalize y.pre = x3 at *
      generalize y.neg = x4 at *
      have hEp : Hid (Ext W (wr.alloc (.cells #[.string x1, .string x2, .bool x3, .bool x4] 61))) := HE.out.alloc _
      go_wp2_with fail
      refine (KY.out _ hEp.out).mono ?_
      rintro e w2 ⟨rfl, hE2⟩
      have HE2 : Hid (Ext W w2) := hEp.out.trans hE2
      clear c0 c1 c2 c3 hE2 KY hEp
      cases r with
      | true =>
        have hI2 := Lib.hid (HX.out.1 rfl)
        clear HX
        go_wp2_with fail
        go_roundw
        case rel => exact ⟨k + 1, by omega, rfl, by go_num, hI2.out, HE2.out⟩
        case measure => simp [intOf]; omega
      | false =>
        have hq2 : Hid (q = false) := HQ.out.trans (HX.out.2 rfl)
        clear HX
        go_wp2_with fail
        rw [Exit.noGoto_ret]
        go_ret
        exact ⟨ret_bool hq2.out.symm, HE2.out⟩
    · have hkn : k = n := by omega
      have hq2 : Hid (q = true) := by
        show _ = _
        have := HI.out
        rw [hkn, HN.out, List.take_length] at this
        rw [HQ.out, this]
      have i1 : ¬ (k : Int) < (n : Int) := by omega
      clear hkn
      go_wp2_with fail
      go_ret
      exact ⟨ret_bool hq2.out.symm, HE.out⟩
theorem checkF_take {fs : List Fil} {k : Nat} {y : Fil} (hk : k < fs.length) (hy : y = fs[k]) (h4 : ¬ 4 < fs.length) :
    (¬ (nameOk y.name = true ∧ y.value.length ≤ 16) → checkF fs = 80) := by
  intro ho
  unfold checkF
  rw [if_neg h4, if_neg]
  rw [List.all_eq_true]
  intro h
  have := h y (by rw [hy]; exact List.getElem_mem hk)
  rw [Bool.and_eq_true, decide_eq_true_iff] at this
  exact ho this
/-- Up to k all filters may be. -/
def FilOk (fs : List Fil) (k : Nat) : Prop := ∀ j (h : j < fs.length), j < k → nameOk fs[j].name = true ∧ fs[j].value.length ≤ 16
theorem checkF_ok {fs : List Fil} (h4 : ¬ 4 < fs.length) (h : FilOk fs fs.length) : checkF fs = 0 := by
  unfold checkF
  rw [if_neg h4, if_pos]
  rw [List.all_eq_true]
  intro y hy
  obtain ⟨j, hj, rfl⟩ := List.getElem_of_mem hy
  have := h j hj hj
  rw [Bool.and_eq_true, decide_eq_true_iff]
  exact this
theorem FilOk.succ {fs : List Fil} {k : Nat} {y : Fil} (h : FilOk fs k) (hk : k < fs.length) (hy : y = fs[k]) (ho : nameOk y.name = true ∧ y.value.length ≤ 16) : FilOk fs (k + 1) := fun j hj hjk => by
  by_cases e : j = k
  · subst e; rw [← hy]; exact ho
  · exact h j hj (by omega)
set_option maxRecDepth 100000 in
set_option maxHeartbeats 2000000 in
/-- filter.Check. -/
theorem check_walkF (fv : Value) (fs : List Fil) (W : World) (hF : RdF W W.heap.size fv fs) :
    Calls Tryz.prog 35 #[fv] W fun e w' => e = .returned (.int .i64 (checkF fs)) ∧ Ext W w' := by
  have KN : Hid (∀ s w, Calls Tryz.prog 65 #[vT s] w fun e w' => e = .returned (.bool (nameOk s)) ∧ Ext w w') := fun s w => name_walk s w
  obtain ⟨A, c, rfl, hc, hA⟩ := hF
  have HA := Lib.hid hA
  obtain ⟨n, hn⟩ : ∃ n, n = fs.length := ⟨_, rfl⟩
  rw [← hn]
  have HN := Lib.hid hn
  obtain ⟨q, hq⟩ : ∃ q, q = checkF fs := ⟨_, rfl⟩
  have HQ := Lib.hid hq
  rw [← hq]
  clear hA hn hq hc
  by_cases h4 : 4 < n
  · have hq2 : Hid (q = 2) := by show _ = _; rw [HQ.out]; unfold checkF; rw [if_pos (by rw [← HN.out]; exact h4)]
    have g4 : (4 : Int) < (n : Int) := by omega
    clear h4
    go_enter Tryz.func35, Tryz.ntmps35
    go_wp2_with fail
    go_ret
    exact ⟨ret_int hq2.out.symm, Ext.refl _⟩
  have g4 : ¬ (4 : Int) < (n : Int) := by omega
  have H4 : Hid (¬ 4 < fs.length) := by show ¬ _; rw [← HN.out]; exact h4
  go_enter Tryz.func35, Tryz.ntmps35
  go_wp2_with fail
  go_loopw [10] (fun i wl => ∃ k : Nat, k ≤ n ∧ i = .int .i64 k ∧ Hid (FilOk fs k) ∧ Hid (Ext W wl)) (fun i _ => n - (intOf i).toNat)
  case atStart => exact ⟨0, Nat.zero_le _, rfl, fun _ _ h => absurd h (Nat.not_lt_zero _), Ext.refl _⟩
  case round =>
    obtain ⟨k, hk, rfl, HI, HE⟩ := hrel
    by_cases hlt : k < n
    · have hl2 : k < fs.length := by rw [← HN.out]; exact hlt
      rcases HA.out with h0 | ⟨b, o, e, hb, hcl⟩
      · subst h0; simp at hl2
      subst e
      obtain ⟨y, hy⟩ : ∃ y, y = fs[k] := ⟨_, rfl⟩
      obtain ⟨c0, c1, c2, c3⟩ : FilAt wr b (o + k * 4) y := by rw [hy]; exact (hcl k hl2).below HE.out.below hb
      have HB := Lib.hid (fun h => HQ.out.trans (checkF_take hl2 hy H4.out h))
      have HG := Lib.hid (fun h => HI.out.succ hl2 hy h)
      have i1 : (k : Int) < (n : Int) := by omega
      have KY := Lib.hid (KN.out y.name)
      obtain ⟨r, hr⟩ : ∃ r, r = nameOk y.name := ⟨_, rfl⟩
      rw [← hr] at HB HG KY
      obtain ⟨m, hm⟩ : ∃ m, m = y.value.length := ⟨_, rfl⟩
      rw [← hm] at HB HG
      clear hy hcl hr
      unfold vT at *
      have hs2 : (⟨y.value.toArray⟩ : ByteArray).size = m := by rw [hm]; simp [ByteArray.size]
      generalize (⟨y.name.toArray⟩ : ByteArray) = x1 at *
      generalize (⟨y.value.toArray⟩ : ByteArray) = x2 at *
      generalize y.pre = x3 at *
      generalize y.neg = x4 at *
      clear hm
      obtain ⟨wp, hwp⟩ : ∃ wp, wp = wr.alloc (.cells #[.string x1, .string x2, .bool x3, .bool x4] 61) := ⟨_, rfl⟩
      have hEp : Hid (Ext W wp) := by show Ext _ _; rw [hwp]; exact HE.out.alloc _
      have d1 : wp.cell? ⟨wr.heap.size, 1, none⟩ = some (.string x2) := by rw [hwp]; simp
      have HD1 := Lib.hid d1
      clear d1
      cases r with
      | false =>
        have hq2 := Lib.hid (HB.out (by simp))
        clear HB HG hs2
        go_wp2_with fail
        rw [← hwp]
        clear hwp
        refine (KY.out _).mono ?_
        rintro e w2 ⟨rfl, hE2⟩
        have HE2 : Hid (Ext W w2) := hEp.out.trans hE2
        clear c0 c1 c2 c3 hE2 KY hEp
        go_wp2_with fail
        go_ret
        exact ⟨ret_int hq2.out.symm, HE2.out⟩
      | true =>
        by_cases h16 : 16 < m
        · have hq2 := Lib.hid (HB.out (by simp; omega))
          have g16 : (16 : Int) < (m : Int) := by omega
          clear HB HG h16
          go_wp2_with fail
          rw [← hwp]
          clear hwp
          refine (KY.out _).mono ?_
          rintro e w2 ⟨rfl, hE2⟩
          have HE2 : Hid (Ext W w2) := hEp.out.trans hE2
          have d1' : w2.cell? ⟨wr.heap.size, 1, none⟩ = some (.string x2) := hE2.cell_some HD1.out
          clear c0 c1 c2 c3 hE2 KY hEp
          go_wp2_with fail
          go_ret
          exact ⟨ret_int hq2.out.symm, HE2.out⟩
        · have hI2 := Lib.hid (HG.out ⟨rfl, by omega⟩)
          have g16 : ¬ (16 : Int) < (m : Int) := by omega
          clear HB HG h16
          go_wp2_with fail
          rw [← hwp]
          clear hwp
          refine (KY.out _).mono ?_
          rintro e w2 ⟨rfl, hE2⟩
          have HE2 : Hid (Ext W w2) := hEp.out.trans hE2
          have d1' : w2.cell? ⟨wr.heap.size, 1, none⟩ = some (.string x2) := hE2.cell_some HD1.out
          clear c0 c1 c2 c3 hE2 KY hEp
          go_wp2_with fail
          go_roundw
          case rel => exact ⟨k + 1, by omega, by go_num, hI2.out, HE2.out⟩
          case measure => simp [intOf]; omega
    · have hkn : k = n := by omega
      have hq2 : Hid (q = 0) := by
        show _ = _
        have := HI.out
        rw [hkn, HN.out] at this
        rw [HQ.out, checkF_ok H4.out this]
      have i1 : ¬ (k : Int) < (n : Int) := by omega
      clear hkn
      go_wp2_with fail
      go_ret
      exact ⟨ret_int hq2.out.symm, HE.out⟩
end Go.Proofs.YtkgcbeokfilehaaGreatDoor
