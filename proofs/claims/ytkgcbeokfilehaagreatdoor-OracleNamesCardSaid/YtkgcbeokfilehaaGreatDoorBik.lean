import Derived.Test.YtkgcbeokfilehaaGreatDoorPsk
import Derived.Test.YtkgcbeokfilehaaGreatDoorRightk
import Derived.Deep.RegionHeld3
namespace Go.Proofs.YtkgcbeokfilehaaGreatDoor
open Go.RowKit Go.Sort Go.Lib Ieee
attribute [local go_sem] run_ffb run_f64b

theorem pf_pre (s : ByteArray) (w : World) (v : Value)
    (h : Calls Tryz.prog 209 #[.string s] w fun e w' => e = .returned (.tuple #[v, .int .i64 s.size, .nilIface]) ∧ Ext w w') :
    Calls Tryz.prog 194 #[.string s, .int .i64 64] w fun e w' => e = .returned (.tuple #[v, .int .i64 s.size, .nilIface]) ∧ Ext w w' := by
  have K := Lib.hid h
  clear h
  go_enter Tryz.func194, Tryz.ntmps194
  go_wp2_with fail
  refine K.out.mono ?_; rintro e w1 ⟨rfl, hE⟩
  go_wp2_with fail
  go_ret3
  exact ⟨rfl, hE⟩
theorem pf_int (s : ByteArray) (w : World) (v : Value)
    (h : Calls Tryz.prog 209 #[.string s] w fun e w' => e = .returned (.tuple #[v, .int .i64 s.size, .nilIface]) ∧ Ext w w') :
    Calls Tryz.prog 188 #[.string s, .int .i64 64] w fun e w' => e = .returned (.tuple #[v, .nilIface]) ∧ Ext w w' := by
  have K := Lib.hid (pf_pre s w v h)
  clear h
  go_enter Tryz.func188, Tryz.ntmps188
  go_wp2_with fail
  refine K.out.mono ?_; rintro e w1 ⟨rfl, hE⟩
  go_wp2_with fail
  go_ret2
  exact ⟨rfl, hE⟩
theorem pf_out (s : ByteArray) (w : World) (v : Value)
    (h : Calls Tryz.prog 209 #[.string s] w fun e w' => e = .returned (.tuple #[v, .int .i64 s.size, .nilIface]) ∧ Ext w w') :
    Calls Tryz.prog 176 #[.string s, .int .i64 64] w fun e w' => e = .returned (.tuple #[v, .nilIface]) ∧ Ext w w' := by
  have K := Lib.hid (pf_int s w v h)
  clear h
  go_enter Tryz.func176, Tryz.ntmps176
  go_wp2_with fail
  refine K.out.mono ?_; rintro e w1 ⟨rfl, hE⟩
  go_wp2_with fail
  go_ret2
  exact ⟨rfl, hE⟩

theorem Tabs.drew {w : World} (h : Tabs w) : Tabs w.drew := h.ext (Ext.refl w).drew
theorem fmt_walk (m : Int) (w : World) (h1 : -1000000000000000 < m) (h2 : m < 1000000000000000) (T : Tabs w) :
    Calls Tryz.prog 177 #[.int .i64 m, .int .i64 10] w fun e w' => e = .returned (.string ⟨(itoa m).toArray⟩) ∧ Ext w w' :=
  (Tryz.strconv_FormatInt_10 m (by omega) (by omega) w T.u64).mono fun _ _ ⟨he, _, _, hw⟩ => ⟨he, ext_of hw⟩
theorem itoa_walk (x : Int) (w : World) (h1 : -1000 ≤ x) (h2 : x ≤ 1000) (T : Tabs w) :
    Calls Tryz.prog 178 #[.int .i64 x] w fun e w' => e = .returned (.string ⟨(itoa x).toArray⟩) ∧ Ext w w' :=
  (Tryz.strconv_Itoa x (by omega) (by omega) w T.u64).mono fun _ _ ⟨he, _, _, hw⟩ => ⟨he, ext_of hw⟩
theorem itoa_len (n : Int) (h1 : -1000000000000000 < n) (h2 : n < 1000000000000000) : (itoa n).length ≤ 16 := by
  have := nDigits_le n.natAbs 15 (by omega) (by decide)
  have e := decDigits_length n.natAbs
  unfold itoa; split
  · simp; omega
  · rw [show n.toNat = n.natAbs by omega]; omega

theorem cat_run (b a : List UInt8) (W : World) (ha : a.length ≤ 100) (hb : b.length ≤ 100) :
    (Op.stringOp .add ⟨a.toArray⟩ ⟨b.toArray⟩).run Tryz.prog W = .ok (.string ⟨(a ++ b).toArray⟩) W :=
  run_string_add_lists W a b (by omega) (by omega)
/-- The bits of a number that may be. -/
def bitsN (m x : Int) : Nat := if m = 0 then 0 else double.word (decide (m < 0)) (bitsD m.natAbs x)
def stringV (l : List UInt8) : Value := .string ⟨l.toArray⟩
theorem pf_num (m x : Int) (w : World) (hm : m ≠ 0) (h1 : -1000000000000000 < m) (h2 : m < 1000000000000000) (hx : -300 ≤ x) (hx' : x ≤ 290) (T : Tabs w) :
    Calls Tryz.prog 176 #[.string (numText m x), .int .i64 64] w fun e w' => e = .returned (.tuple #[.float .f64 (bitsN m x), .nilIface]) ∧ Ext w w' := by
  unfold bitsN; rw [if_neg hm]
  exact pf_out _ w _ (at_text m x w hm h1 h2 hx hx' T)

set_option maxRecDepth 100000 in
set_option maxHeartbeats 1000000 in
theorem bits_num (m x : Int) (w : World) (hm : m ≠ 0) (h1 : -1000000000000000 < m) (h2 : m < 1000000000000000) (hx : -300 ≤ x) (hx' : x ≤ 290) (hr : rightV m x 0 = true) (T : Tabs w) :
    Calls Tryz.prog 162 #[.agg #[.int .i64 m, .int .i64 x, .int .i64 0]] w fun e w' => e = .returned (.tuple #[.int .u64 (bitsN m x), .int .i64 0]) ∧ Ext w w' := by
  have HR := Lib.hid hr
  clear hr
  go_enter Tryz.func162, Tryz.ntmps162
  go_wp2_with fail
  refine (fright_walk m x 0 _).mono ?_; rintro e w1 ⟨rfl, hE1⟩
  rw [HR.out]
  have hc0 : w1.cell? ⟨w.heap.size, 0, none⟩ = some (.int .i64 m) := hE1.cell_some (by simp)
  have hc1 : w1.cell? ⟨w.heap.size, 1, none⟩ = some (.int .i64 x) := hE1.cell_some (by simp)
  have hc2 : w1.cell? ⟨w.heap.size, 2, none⟩ = some (.int .i64 0) := hE1.cell_some (by simp)
  have hE : Ext w w1 := ((Ext.refl w).alloc _).trans hE1
  have hT : Tabs w1 := T.ext hE
  have r1 : ∀ W : World, (Op.stringOp .add ⟨(itoa m).toArray⟩ ⟨#[101]⟩).run Tryz.prog W = .ok (.string ⟨(itoa m ++ [101]).toArray⟩) W := fun W => cat_run [101] (itoa m) W (by have := itoa_len m h1 h2; omega) (by simp)
  have r2 : ∀ W : World, (Op.stringOp .add ⟨(itoa m ++ [101]).toArray⟩ ⟨(itoa x).toArray⟩).run Tryz.prog W = .ok (.string (numText m x)) W := fun W => by
    have := cat_run (itoa x) (itoa m ++ [101]) W (by have := itoa_len m h1 h2; simp; omega) (by have := itoa_len x (by omega) (by omega); omega)
    rw [this]; unfold numText; simp
  go_wp2_with fail
  go_region_held3 (fun w' => w'.cell? ⟨w.heap.size, 0, none⟩ = some (.int .i64 m) ∧ w'.cell? ⟨w.heap.size, 1, none⟩ = some (.int .i64 x) ∧ Ext w w' ∧ Tabs w')
    (refine ⟨?_, ?_, ?_, ?_⟩ <;> first | assumption | exact Ext.drew (by assumption) | exact Tabs.drew (by assumption) | exact Ext.cell_some (by assumption) (by assumption) | exact Ext.trans (by assumption) (by assumption) | exact Tabs.ext (by assumption) (by assumption))
    (first | (go_at_call 177; refine (fmt_walk m _ h1 h2 ?_).mono ?_; (first | assumption | exact Tabs.drew (by assumption)); rintro e w' ⟨rfl, hE'⟩; have hT' := Tabs.ext (Tabs.drew hT) hE'; have hX' := Ext.trans (Ext.drew hE) hE'; have hd0 := Ext.cell_some hE' hc0; have hd1 := Ext.cell_some hE' hc1) | (go_at_call 178; refine (itoa_walk x _ (by omega) (by omega) ?_).mono ?_; (first | assumption | exact Tabs.drew (by assumption)); rintro e w'' ⟨rfl, hE''⟩; have hT'' := Tabs.ext hT' hE''; have hX'' := Ext.trans hX' hE''; have hf0 := Ext.cell_some hE'' hd0; have hf1 := Ext.cell_some hE'' hd1) | (go_at_call 176; refine (pf_num m x _ hm h1 h2 hx hx' ?_).mono ?_; assumption; rintro e w3 ⟨rfl, hE3⟩; have hT3 := Tabs.ext hT'' hE3; have hX3 := Ext.trans hX'' hE3; have hg0 := Ext.cell_some hE3 hf0; have hg1 := Ext.cell_some hE3 hf1))
  go_wp2_with fail
  go_ret2
  exact ⟨rfl, hX3⟩
end Go.Proofs.YtkgcbeokfilehaaGreatDoor

namespace Go.Proofs.YtkgcbeokfilehaaGreatDoor
open Go.RowKit Go.Sort Go.Lib Ieee
attribute [local go_sem] run_ffb run_f64b

set_option maxRecDepth 100000 in
set_option maxHeartbeats 2000000 in
theorem rf_zero (w : World) : Calls Tryz.prog 218 #[.string { data := #[48, 101, 48] }] w fun e w' => e = .returned (.tuple #[.int .u64 0, .int .i64 0, .bool false, .bool false, .bool false, .int .i64 3, .bool true]) ∧ w = w' := by
  have b0 : (({ data := #[48, 101, 48] } : ByteArray)[0]'(by decide)).toNat = 48 := rfl
  have b1 : (({ data := #[48, 101, 48] } : ByteArray)[1]'(by decide)).toNat = 101 := rfl
  have b2 : (({ data := #[48, 101, 48] } : ByteArray)[2]'(by decide)).toNat = 48 := rfl
  go_enter Tryz.func218, Tryz.ntmps218
  go_wp2_with fail
  go_step3
  go_wp2_with (go_at_call 235; refine (lower_walk _).mono ?_; rintro e w' ⟨rfl, rfl⟩)
  go_step3
  go_wp2_with (go_at_call 235; refine (lower_walk _).mono ?_; rintro e w' ⟨rfl, rfl⟩)
  refine wp_loop_rounds 2 ?_
  rw [rounds_succ]
  go_wp2_with (go_at_call 235; refine (lower_walk _).mono ?_; rintro e w' ⟨rfl, rfl⟩)
  all_goals rw [rounds_succ]
  all_goals go_wp2_with (go_at_call 235; refine (lower_walk _).mono ?_; rintro e w' ⟨rfl, rfl⟩)
  refine wp_loop_rounds 2 ?_
  rw [rounds_succ]
  go_wp2_with fail
  rw [rounds_succ]
  go_wp2_with fail
  rw [Exit.noGoto_ret]
  refine bodyPost_ret (v := .tuple #[.int .u64 0, .int .i64 0, .bool false, .bool false, .bool false, .int .i64 3, .bool true]) ?_ rfl ⟨rfl, rfl⟩
  simp [results, Tryz.results218, go_sem]

set_option maxRecDepth 100000 in
set_option maxHeartbeats 1000000 in
theorem at_zero (w : World) (hopt : w.cell? ⟨8, 0, none⟩ = some (.bool true)) :
    Calls Tryz.prog 209 #[.string { data := #[48, 101, 48] }] w fun e w' => e = .returned (.tuple #[.float .f64 0, .int .i64 3, .nilIface]) ∧ Ext w w' := by
  have K1 := fun w => special_digit { data := #[48, 101, 48] } w 48 (by decide) (by decide) rfl (by decide) (by decide)
  have K2 := Lib.hid K1
  clear K1
  go_enter Tryz.func209, Tryz.ntmps209
  go_wp2_with fail
  refine (K2.out _).mono ?_; rintro e w1 ⟨rfl, rfl⟩
  go_wp2_with fail
  refine (rf_zero _).mono ?_; rintro e w2 ⟨rfl, rfl⟩
  go_wp2_with fail
  refine (bool2u_walk _ _).mono ?_; rintro e w3 ⟨rfl, rfl⟩
  go_wp2_with fail
  go_ret3
  exact ⟨rfl, Ext.refl _⟩

theorem itoa0 : itoa 0 = [48] := by
  unfold itoa; rw [if_neg (by decide), show (0 : Int).toNat = 0 from rfl, decDigits_one (by decide)]; rfl
theorem numText_zero : numText 0 0 = { data := #[48, 101, 48] } := by unfold numText; rw [itoa0]; rfl
theorem pf_zero (w : World) (T : Tabs w) :
    Calls Tryz.prog 176 #[.string (numText 0 0), .int .i64 64] w fun e w' => e = .returned (.tuple #[.float .f64 0, .nilIface]) ∧ Ext w w' := by
  rw [numText_zero]; exact pf_out _ w _ (at_zero w T.opt)

set_option maxRecDepth 100000 in
set_option maxHeartbeats 1000000 in
theorem bits_zero (w : World) (T : Tabs w) :
    Calls Tryz.prog 162 #[.agg #[.int .i64 0, .int .i64 0, .int .i64 0]] w fun e w' => e = .returned (.tuple #[.int .u64 0, .int .i64 0]) ∧ Ext w w' := by
  go_enter Tryz.func162, Tryz.ntmps162
  go_wp2_with fail
  refine (fright_walk 0 0 0 _).mono ?_; rintro e w1 ⟨rfl, hE1⟩
  rw [show rightV 0 0 0 = true from rfl]
  have hc0 : w1.cell? ⟨w.heap.size, 0, none⟩ = some (.int .i64 0) := hE1.cell_some (by simp)
  have hc1 : w1.cell? ⟨w.heap.size, 1, none⟩ = some (.int .i64 0) := hE1.cell_some (by simp)
  have hc2 : w1.cell? ⟨w.heap.size, 2, none⟩ = some (.int .i64 0) := hE1.cell_some (by simp)
  have hE : Ext w w1 := ((Ext.refl w).alloc _).trans hE1
  have hT : Tabs w1 := T.ext hE
  have r1 : ∀ W : World, (Op.stringOp .add ⟨(itoa 0).toArray⟩ ⟨#[101]⟩).run Tryz.prog W = .ok (.string ⟨(itoa 0 ++ [101]).toArray⟩) W := fun W => cat_run [101] (itoa 0) W (by rw [itoa0]; decide) (by decide)
  have r2 : ∀ W : World, (Op.stringOp .add ⟨(itoa 0 ++ [101]).toArray⟩ ⟨(itoa 0).toArray⟩).run Tryz.prog W = .ok (.string (numText 0 0)) W := fun W => by
    have := cat_run (itoa 0) (itoa 0 ++ [101]) W (by rw [itoa0]; decide) (by rw [itoa0]; decide)
    rw [this]; unfold numText; simp
  go_wp2_with fail
  go_region_held3 (fun w' => w'.cell? ⟨w.heap.size, 0, none⟩ = some (.int .i64 0) ∧ w'.cell? ⟨w.heap.size, 1, none⟩ = some (.int .i64 0) ∧ Ext w w' ∧ Tabs w')
    (refine ⟨?_, ?_, ?_, ?_⟩ <;> first | assumption | exact Ext.drew (by assumption) | exact Tabs.drew (by assumption) | exact Ext.cell_some (by assumption) (by assumption) | exact Ext.trans (by assumption) (by assumption) | exact Tabs.ext (by assumption) (by assumption))
    (first | (go_at_call 177; refine (fmt_walk 0 _ (by decide) (by decide) ?_).mono ?_; (first | assumption | exact Tabs.drew (by assumption)); rintro e w' ⟨rfl, hE'⟩; have hT' := Tabs.ext (Tabs.drew hT) hE'; have hX' := Ext.trans (Ext.drew hE) hE'; have hd0 := Ext.cell_some hE' hc0; have hd1 := Ext.cell_some hE' hc1) | (go_at_call 178; refine (itoa_walk 0 _ (by decide) (by decide) ?_).mono ?_; (first | assumption | exact Tabs.drew (by assumption)); rintro e w'' ⟨rfl, hE''⟩; have hT'' := Tabs.ext hT' hE''; have hX'' := Ext.trans hX' hE''; have hf0 := Ext.cell_some hE'' hd0; have hf1 := Ext.cell_some hE'' hd1) | (go_at_call 176; refine (pf_zero _ ?_).mono ?_; assumption; rintro e w3 ⟨rfl, hE3⟩; have hT3 := Tabs.ext hT'' hE3; have hX3 := Ext.trans hX'' hE3; have hg0 := Ext.cell_some hE3 hf0; have hg1 := Ext.cell_some hE3 hf1))
  go_wp2_with fail
  go_ret2
  exact ⟨rfl, hX3⟩

/-- The bits of a value, 0 of one that may not be. -/
def bitsV (m x s : Int) : Nat :=
  if rightV m x s = false then 0 else if s = 1 then 9218868437227405314 else if s = 2 then 9218868437227405312 else if s = 3 then 18442240474082181120 else if s = 4 then 9223372036854775808 else bitsN m x
def errV (m x s : Int) : Int := if rightV m x s then 0 else 20

set_option maxRecDepth 100000 in
set_option maxHeartbeats 1000000 in
theorem bits_not (m x s : Int) (w : World) (hr : rightV m x s = false) :
    Calls Tryz.prog 162 #[.agg #[.int .i64 m, .int .i64 x, .int .i64 s]] w fun e w' => e = .returned (.tuple #[.int .u64 0, .int .i64 20]) ∧ Ext w w' := by
  have HR := Lib.hid hr
  clear hr
  go_enter Tryz.func162, Tryz.ntmps162
  go_wp2_with fail
  refine (fright_walk m x s _).mono ?_; rintro e w1 ⟨rfl, hE1⟩
  rw [HR.out]
  have hE : Ext w w1 := ((Ext.refl w).alloc _).trans hE1
  go_wp2_with fail
  go_ret2
  exact ⟨rfl, hE⟩

set_option maxRecDepth 100000 in
set_option maxHeartbeats 1000000 in
theorem bits_kind (s : Int) (b : Nat) (w : World) (hs : (s = 1 ∧ b = 9218868437227405314) ∨ (s = 2 ∧ b = 9218868437227405312) ∨ (s = 3 ∧ b = 18442240474082181120) ∨ (s = 4 ∧ b = 9223372036854775808)) :
    Calls Tryz.prog 162 #[.agg #[.int .i64 0, .int .i64 0, .int .i64 s]] w fun e w' => e = .returned (.tuple #[.int .u64 b, .int .i64 0]) ∧ Ext w w' := by
  rcases hs with ⟨rfl, rfl⟩ | ⟨rfl, rfl⟩ | ⟨rfl, rfl⟩ | ⟨rfl, rfl⟩
  all_goals
    go_enter Tryz.func162, Tryz.ntmps162
    go_wp2_with fail
    refine (fright_walk 0 0 _ _).mono ?_; rintro e w1 ⟨rfl, hE1⟩
    rw [show rightV 0 0 _ = true from rfl]
    have hc2 : w1.cell? ⟨w.heap.size, 2, none⟩ = some (.int .i64 _) := hE1.cell_some (by simp; rfl)
    have hE : Ext w w1 := ((Ext.refl w).alloc _).trans hE1
    go_wp2_with fail
    go_ret2
    exact ⟨rfl, hE⟩

/-- float.Bits. -/
theorem bits_walk (m x s : Int) (w : World) (T : Tabs w) :
    Calls Tryz.prog 162 #[.agg #[.int .i64 m, .int .i64 x, .int .i64 s]] w fun e w' => e = .returned (.tuple #[.int .u64 (bitsV m x s), .int .i64 (errV m x s)]) ∧ Ext w w' := by
  unfold bitsV errV
  cases hr : rightV m x s
  · exact bits_not m x s w hr
  · simp only [Bool.true_eq_false, if_false, if_true]
    have h := hr
    unfold rightV at h
    by_cases hs : s = 0
    · subst hs
      simp only [show (0 : Int) ≠ 1 from by decide, show (0 : Int) ≠ 2 from by decide, show (0 : Int) ≠ 3 from by decide, show (0 : Int) ≠ 4 from by decide, if_false]
      rw [if_neg (by decide)] at h
      split at h
      · cases h
      · split at h
        · rename_i hm
          simp only [decide_eq_true_eq] at h
          subst hm; subst h
          exact bits_zero w T
        · simp only [decide_eq_true_eq] at h
          exact bits_num m x w (by assumption) (by omega) (by omega) h.2.1 h.2.2 hr T
    · rw [if_pos hs] at h
      simp only [decide_eq_true_eq] at h
      obtain ⟨h1, h2, rfl, rfl⟩ := h
      have : s = 1 ∨ s = 2 ∨ s = 3 ∨ s = 4 := by omega
      rcases this with rfl | rfl | rfl | rfl
      · exact bits_kind 1 _ w (.inl ⟨rfl, rfl⟩)
      · exact bits_kind 2 _ w (.inr (.inl ⟨rfl, rfl⟩))
      · exact bits_kind 3 _ w (.inr (.inr (.inl ⟨rfl, rfl⟩)))
      · exact bits_kind 4 _ w (.inr (.inr (.inr ⟨rfl, rfl⟩)))
end Go.Proofs.YtkgcbeokfilehaaGreatDoor
