/-
  oracle.Clone.
-/
import Derived.Test.YtkgcbeokfilehaaGreatDoorWck
import Derived.Test.YtkgcbeokfilehaaGreatDoorVlk
import Derived.Test.YtkgcbeokfilehaaGreatDoorVhk
import Derived.Test.YtkgcbeokfilehaaGreatDoorVpk
import Derived.Deep.RegionHeld3
import Derived.BigQuiet
namespace Go.Proofs.YtkgcbeokfilehaaGreatDoor
open Go.RowKit Go.Sort Go.Shelf Go.Maps
end Go.Proofs.YtkgcbeokfilehaaGreatDoor

/-
  The same labels, the same texts, the same rows of series: eskerref07.Same, eskerref06.Strings, eskerref20.Same.
-/
namespace Go.Proofs.YtkgcbeokfilehaaGreatDoor
open Go.RowKit Go.Sort Go.Maps
theorem same_takeG {α : Type} {a b : List α} {k : Nat} {x y : α} (ha : k < a.length) (hb : k < b.length) (hx : x = a[k]) (hy : y = b[k]) (h : a.take k = b.take k) : (a.take (k + 1) = b.take (k + 1)) ↔ x = y := by
  rw [List.take_succ_eq_append_getElem ha, List.take_succ_eq_append_getElem hb, h, ← hx, ← hy]
  simp
theorem eq_bytes (x y : ByteArray) : (x.toList == y.toList) = decide (x = y) := by
  rw [Lib.toList_data, Lib.toList_data]
  by_cases h : x = y
  · subst h; simp
  · have : (x.data.toList == y.data.toList) = false := by
      rw [beq_eq_false_iff_ne]
      exact fun e => h (by cases x; cases y; simpa using e)
    rw [this]; simp [h]
theorem str_bytes {s t : Str} : ((⟨s.toArray⟩ : ByteArray) = ⟨t.toArray⟩) ↔ s = t := by
  constructor
  · intro h; exact congrArg (fun b : ByteArray => b.data.toList) h
  · rintro rfl; rfl
set_option maxRecDepth 100000 in
set_option maxHeartbeats 1000000 in
/-- eskerref07.Same. -/
theorem sameL_walk (va vb : Value) (a b : Lbs) (W : World) (hRa : RdL W W.heap.size va a) (hRb : RdL W W.heap.size vb b) (hla : a.length ≤ 1000000) :
    Calls Tryz.prog 43 #[va, vb] W fun e w' => e = .returned (.bool (decide (a = b))) ∧ Ext W w' := by
  obtain ⟨A, ca, rfl, hca, hA⟩ := hRa
  obtain ⟨B, cb, rfl, hcb, hB⟩ := hRb
  have HA := Lib.hid hA
  have HB := Lib.hid hB
  obtain ⟨q, hq⟩ : ∃ q, q = decide (a = b) := ⟨_, rfl⟩
  have HQ : Hid (q = decide (a = b)) := hq
  rw [← hq]
  clear hq hA hB hca hcb
  obtain ⟨n, hn⟩ : ∃ n, n = a.length := ⟨_, rfl⟩
  obtain ⟨m, hm⟩ : ∃ m, m = b.length := ⟨_, rfl⟩
  rw [← hn] at hla ⊢
  rw [← hm]
  have HN : Hid (n = a.length) := hn
  have HM : Hid (m = b.length) := hm
  clear hn hm
  by_cases hnm : n = m
  · have g0 : (((n : Int)) != (m : Int)) = false := by simp; omega
    go_enter Tryz.func43, Tryz.ntmps43
    go_wp2_with fail
    go_loopw [5] (fun i wl => ∃ k : Nat, k ≤ n ∧ i = .int .i64 k ∧ Hid (a.take k = b.take k) ∧ Hid (Ext W wl))
      (fun i _ => n - (intOf i).toNat)
    case atStart => exact ⟨0, Nat.zero_le _, rfl, rfl, Ext.refl _⟩
    case round =>
      obtain ⟨k, hk, rfl, HT, HE⟩ := hrel
      by_cases hlt : k < n
      · have hla2 : k < a.length := by rw [← HN.out]; exact hlt
        have hlb2 : k < b.length := by rw [← HM.out, ← hnm]; exact hlt
        rcases HA.out with h0 | ⟨b1, o1, e, hb1, hcl1⟩
        · subst h0; simp at hla2
        rcases HB.out with h0 | ⟨b2, o2, e', hb2, hcl2⟩
        · subst h0; simp at hlb2
        subst e e'
        obtain ⟨x, hx⟩ : ∃ x, x = a[k] := ⟨_, rfl⟩
        obtain ⟨y, hy⟩ : ∃ y, y = b[k] := ⟨_, rfl⟩
        have HF : Hid ((a.take (k + 1) = b.take (k + 1)) ↔ x = y) := same_takeG hla2 hlb2 hx hy HT.out
        obtain ⟨c0, c1⟩ : Cell2 wr b1 (o1 + k * 2) x := by rw [hx]; exact (hcl1 k hla2).below HE.out.below hb1
        obtain ⟨d0, d1⟩ : Cell2 wr b2 (o2 + k * 2) y := by rw [hy]; exact (hcl2 k hlb2).below HE.out.below hb2
        obtain ⟨x1, hx1⟩ : ∃ z : ByteArray, z = ⟨x.1.toArray⟩ := ⟨_, rfl⟩
        obtain ⟨x2, hx2⟩ : ∃ z : ByteArray, z = ⟨x.2.toArray⟩ := ⟨_, rfl⟩
        obtain ⟨y1, hy1⟩ : ∃ z : ByteArray, z = ⟨y.1.toArray⟩ := ⟨_, rfl⟩
        obtain ⟨y2, hy2⟩ : ∃ z : ByteArray, z = ⟨y.2.toArray⟩ := ⟨_, rfl⟩
        obtain ⟨p, hp⟩ : ∃ p, p = decide (x1 = y1 ∧ x2 = y2) := ⟨_, rfl⟩
        have HP : Hid ((p = true) ↔ x = y) := by
          show (p = true) ↔ x = y
          rw [hp, decide_eq_true_iff, hx1, hx2, hy1, hy2, str_bytes, str_bytes, Prod.ext_iff]
        have hne : ∀ w, (binOp .neq 59 (.agg #[.string x1, .string x2]) (.agg #[.string y1, .string y2])).run Tryz.prog w = .ok (.bool (!p)) w := fun w => hp ▸ neq_Lb x1 x2 y1 y2 w
        have hgd : ∀ op x' y' w, (eqGuard op 59 x' y' (.agg #[.string x1, .string x2]) (.agg #[.string y1, .string y2])).run Tryz.prog w = .ok () w := fun op x' y' w => guard_Lb op x' y' x1 x2 y1 y2 w
        unfold vT at c0 c1 d0 d1
        rw [← hx1] at c0
        rw [← hx2] at c1
        rw [← hy1] at d0
        rw [← hy2] at d1
        clear hp hx hy hcl1 hcl2 hx1 hx2 hy1 hy2
        have hkm : k < m := by omega
        have i1 : (k : Int) < (n : Int) := by omega
        have i2 : (k : Int) < (m : Int) := by omega
        cases p with
        | true =>
          have hT2 : Hid (a.take (k + 1) = b.take (k + 1)) := HF.out.2 (HP.out.1 rfl)
          clear HF HP
          go_wp2_with fail
          go_quiet (fail)
          clear c0 d0 hne
          go_wp2_with fail
          go_roundw
          case rel => exact ⟨k + 1, by omega, by go_num, hT2, HE.out.drewN nq⟩
          case measure => simp [intOf]; omega
        | false =>
          have hab : a ≠ b := fun e => by have := HP.out.2 (HF.out.1 (by rw [e])); cases this
          have hqf : Hid (q = false) := HQ.out.trans (decide_eq_false hab)
          clear HF HP hab
          go_wp2_with fail
          go_quiet (fail)
          clear c0 d0 hne
          go_wp2_with fail
          go_ret
          exact ⟨ret_bool hqf.out.symm, HE.out.drewN nq⟩
      · have hkn : k = n := by omega
        have hab : a = b := by
          have := HT.out
          rwa [hkn, HN.out, List.take_length, ← HN.out, hnm, HM.out, List.take_length] at this
        have hqt : Hid (q = true) := HQ.out.trans (decide_eq_true hab)
        clear hab hkn
        go_wp2_with fail
        go_ret
        exact ⟨ret_bool hqt.out.symm, HE.out⟩
  · have g0 : (((n : Int)) != (m : Int)) = true := by simp; omega
    have hab : a ≠ b := fun e => hnm (by rw [HN.out, HM.out, e])
    have hqf : Hid (q = false) := HQ.out.trans (decide_eq_false hab)
    go_enter Tryz.func43, Tryz.ntmps43
    go_wp2_with fail
    go_ret
    exact ⟨ret_bool hqf.out.symm, Ext.refl _⟩
/-- Few series, of few labels and samples. -/
def FewX (l : List Ser) : Prop := l.length ≤ 1000000 ∧ ∀ x ∈ l, x.1.length ≤ 1000000 ∧ x.2.length ≤ 1000000
set_option maxRecDepth 100000 in
set_option maxHeartbeats 2000000 in
/-- eskerref20.Same. -/
theorem sameX_walk (va vb : Value) (a b : List Ser) (W : World) (hRa : RdX W W.heap.size va a) (hRb : RdX W W.heap.size vb b) (hla : FewX a) :
    Calls Tryz.prog 15 #[va, vb] W fun e w' => e = .returned (.bool (decide (a = b))) ∧ Ext W w' := by
  obtain ⟨A, ca, rfl, hca, hA⟩ := hRa
  obtain ⟨B, cb, rfl, hcb, hB⟩ := hRb
  have HA := Lib.hid hA
  have HB := Lib.hid hB
  have HL := Lib.hid hla
  obtain ⟨q, hq⟩ : ∃ q, q = decide (a = b) := ⟨_, rfl⟩
  have HQ : Hid (q = decide (a = b)) := hq
  rw [← hq]
  have hla1 := hla.1
  clear hq hA hB hca hcb hla
  obtain ⟨n, hn⟩ : ∃ n, n = a.length := ⟨_, rfl⟩
  obtain ⟨m, hm⟩ : ∃ m, m = b.length := ⟨_, rfl⟩
  rw [← hn] at hla1 ⊢
  rw [← hm]
  have HN : Hid (n = a.length) := hn
  have HM : Hid (m = b.length) := hm
  clear hn hm
  by_cases hnm : n = m
  · subst hnm
    have g0 : (((n : Int)) != (n : Int)) = false := by simp
    go_enter Tryz.func15, Tryz.ntmps15
    go_wp2_with fail
    go_loopw [5, 6, 7] (fun i _ _ wl => ∃ k : Nat, k ≤ n ∧ i = .int .i64 k ∧ Hid (a.take k = b.take k) ∧ Hid (Ext W wl))
      (fun i _ _ _ => n - (intOf i).toNat)
    case atStart => exact ⟨0, Nat.zero_le _, rfl, rfl, Ext.refl _⟩
    case round =>
      obtain ⟨k, hk, rfl, HT, HE⟩ := hrel
      by_cases hlt : k < n
      · have hla2 : k < a.length := by rw [← HN.out]; exact hlt
        have hlb2 : k < b.length := by rw [← HM.out]; exact hlt
        rcases HA.out with h0 | ⟨b1, o1, e, hb1, hcl1⟩
        · subst h0; simp at hla2
        rcases HB.out with h0 | ⟨b2, o2, e', hb2, hcl2⟩
        · subst h0; simp at hlb2
        subst e e'
        obtain ⟨x, hx⟩ : ∃ x, x = a[k] := ⟨_, rfl⟩
        obtain ⟨y, hy⟩ : ∃ y, y = b[k] := ⟨_, rfl⟩
        obtain ⟨lx, sx, c0, c1, hlx, _, hsx, _⟩ : SerAt wr W.heap.size b1 (o1 + k * 2) x := by rw [hx]; exact (hcl1 k hla2).below HE.out.below hb1
        obtain ⟨ly, sy, d0, d1, hly, _, hsy, _⟩ : SerAt wr W.heap.size b2 (o2 + k * 2) y := by rw [hy]; exact (hcl2 k hlb2).below HE.out.below hb2
        have HF : Hid ((a.take (k + 1) = b.take (k + 1)) ↔ x = y) := same_takeG hla2 hlb2 hx hy HT.out
        have hxl := HL.out.2 x (by rw [hx]; exact List.getElem_mem hla2)
        obtain ⟨p, hp⟩ : ∃ p, p = decide (x.2 = y.2) := ⟨_, rfl⟩
        obtain ⟨r, hr⟩ : ∃ r, r = decide (x.1 = y.1) := ⟨_, rfl⟩
        have KS : Hid (∀ w', Ext wr w' → Calls Tryz.prog 44 #[sx, sy] w' fun e w'' => e = .returned (.bool p) ∧ Ext w' w'') := fun w' h => by
          rw [hp]
          have hsz := HE.out.size
          have hsz' := h.size
          exact same_walk sx sy x.2 y.2 w' ((hsx.mono hsz).below h.below |>.mono hsz') ((hsy.mono hsz).below h.below |>.mono hsz') (by have := hxl.2; omega)
        have KL : Hid (∀ w', Ext wr w' → Calls Tryz.prog 43 #[lx, ly] w' fun e w'' => e = .returned (.bool r) ∧ Ext w' w'') := fun w' h => by
          rw [hr]
          have hsz := HE.out.size
          have hsz' := h.size
          exact sameL_walk lx ly x.1 y.1 w' ((hlx.mono hsz).below h.below |>.mono hsz') ((hly.mono hsz).below h.below |>.mono hsz') hxl.1
        have HP : Hid ((p = true ∧ r = true) ↔ x = y) := by
          show (p = true ∧ r = true) ↔ x = y
          rw [hp, hr, decide_eq_true_iff, decide_eq_true_iff, Prod.ext_iff, and_comm]
        have KC : Hid (∀ w', Ext wr w' → w'.cell? ⟨b1, o1 + k * 2 + 1, none⟩ = some sx ∧ w'.cell? ⟨b2, o2 + k * 2 + 1, none⟩ = some sy ∧ w'.cell? ⟨b1, o1 + k * 2, none⟩ = some lx ∧ w'.cell? ⟨b2, o2 + k * 2, none⟩ = some ly) := fun w' h => ⟨h.cell_some c1, h.cell_some d1, h.cell_some c0, h.cell_some d0⟩
        have hE0 := Ext.refl wr
        clear hp hr hx hy hcl1 hcl2 hsx hsy hxl hlx hly
        have i1 : (k : Int) < (n : Int) := by omega
        go_wp2_with fail
        go_region_held3 (fun w' => w'.cell? ⟨b1, o1 + k * 2 + 1, none⟩ = some sx ∧ w'.cell? ⟨b2, o2 + k * 2 + 1, none⟩ = some sy ∧ w'.cell? ⟨b1, o1 + k * 2, none⟩ = some lx ∧ w'.cell? ⟨b2, o2 + k * 2, none⟩ = some ly ∧ Ext wr w')
          (first | assumption | (have hd := Ext.drew (by assumption : Ext wr _); exact ⟨(KC.out _ hd).1, (KC.out _ hd).2.1, (KC.out _ hd).2.2.1, (KC.out _ hd).2.2.2, hd⟩) | exact ⟨by assumption, by assumption, by assumption, by assumption, by assumption⟩)
          (first | (go_at_call 43; refine (KL.out _ (by first | assumption | exact Ext.drew (by assumption))).mono ?_; rintro e w' ⟨rfl, hN⟩; have hN := Ext.trans (by first | assumption | exact Ext.drew (by assumption)) hN; obtain ⟨c1', d1', c0', d0'⟩ := KC.out _ hN))
        clear hE0 c0 c1 d0 d1
        clear KL
        go_wp2_with fail
        go_region_held3 (fun w' => w'.cell? ⟨b1, o1 + k * 2 + 1, none⟩ = some sx ∧ w'.cell? ⟨b2, o2 + k * 2 + 1, none⟩ = some sy ∧ w'.cell? ⟨b1, o1 + k * 2, none⟩ = some lx ∧ w'.cell? ⟨b2, o2 + k * 2, none⟩ = some ly ∧ Ext wr w')
          (first | assumption | (have hd := Ext.drew (by assumption : Ext wr _); exact ⟨(KC.out _ hd).1, (KC.out _ hd).2.1, (KC.out _ hd).2.2.1, (KC.out _ hd).2.2.2, hd⟩) | exact ⟨by assumption, by assumption, by assumption, by assumption, by assumption⟩)
          (first | (go_at_call 44; refine (KS.out _ (by first | assumption | exact Ext.drew (by assumption))).mono ?_; rintro e w2' ⟨rfl, hM⟩; have hM := Ext.trans (by first | assumption | exact Ext.drew (by assumption)) hM; obtain ⟨c1'', d1'', c0'', d0''⟩ := KC.out _ hM))
        have HE3 : Hid (Ext W _) := HE.out.trans hM
        clear hN hM KC KS
        by_cases hpr : p = true ∧ r = true
        · obtain ⟨rfl, rfl⟩ := hpr
          have hT2 : Hid (a.take (k + 1) = b.take (k + 1)) := HF.out.2 (HP.out.1 ⟨rfl, rfl⟩)
          clear HF HP
          go_wp2_with fail
          go_roundw
          case rel => first | exact ⟨k + 1, by omega, by go_num, hT2, HE3.out⟩ | ((repeat apply Exists.intro); exact ⟨⟨k + 1, by omega, by go_num, hT2, HE3.out⟩, rfl⟩)
          case measure => simp [intOf]; omega
        · have hab : a ≠ b := fun e => hpr (HP.out.2 (HF.out.1 (by rw [e])))
          have hqf : Hid (q = false) := HQ.out.trans (decide_eq_false hab)
          clear HF HP hab
          cases r <;> cases p <;> first | exact absurd ⟨rfl, rfl⟩ hpr | (go_wp2_with fail; go_ret; exact ⟨ret_bool hqf.out.symm, HE3.out⟩)
      · have hkn : k = n := by omega
        have hab : a = b := by
          have := HT.out
          rwa [hkn, HN.out, List.take_length, ← HN.out, HM.out, List.take_length] at this
        have hqt : Hid (q = true) := HQ.out.trans (decide_eq_true hab)
        clear hab hkn
        go_wp2_with fail
        go_ret
        exact ⟨ret_bool hqt.out.symm, HE.out⟩
  · have g0 : (((n : Int)) != (m : Int)) = true := by simp; omega
    have hab : a ≠ b := fun e => hnm (by rw [HN.out, HM.out, e])
    have hqf : Hid (q = false) := HQ.out.trans (decide_eq_false hab)
    go_enter Tryz.func15, Tryz.ntmps15
    go_wp2_with fail
    go_ret
    exact ⟨ret_bool hqf.out.symm, Ext.refl _⟩
end Go.Proofs.YtkgcbeokfilehaaGreatDoor
