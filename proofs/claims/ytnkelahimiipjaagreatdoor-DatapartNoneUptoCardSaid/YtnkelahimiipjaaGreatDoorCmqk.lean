import Derived.Test.YtnkelahimiipjaaGreatDoorPsk
import Derived.Test.YtnkelahimiipjaaGreatDoorRqk
import Derived.Deep.RegionHeld3
namespace Go.Proofs.YtnkelahimiipjaaGreatDoor
open Go.RowKit Go.Sort Go.Lib Ieee
attribute [local go_sem] run_ffb run_f64b

theorem pf_pre (s : ByteArray) (w : World) (v : Value)
  (h : Calls Tryz.prog 210 #[.string s] w fun e w' => e = .returned (.tuple #[v, .int .i64 s.size, .nilIface]) ∧ Ext w w') :
  Calls Tryz.prog 200 #[.string s, .int .i64 64] w fun e w' => e = .returned (.tuple #[v, .int .i64 s.size, .nilIface]) ∧ Ext w w' := by
 have K := Lib.hid h
 clear h
 go_enter Tryz.func200, Tryz.ntmps200
 go_wp2_with fail
 refine K.out.mono ?_; rintro e w1 ⟨rfl, hE⟩
 go_wp2_with fail
 go_ret3
 exact ⟨rfl, hE⟩
theorem pf_int (s : ByteArray) (w : World) (v : Value)
  (h : Calls Tryz.prog 210 #[.string s] w fun e w' => e = .returned (.tuple #[v, .int .i64 s.size, .nilIface]) ∧ Ext w w') :
  Calls Tryz.prog 195 #[.string s, .int .i64 64] w fun e w' => e = .returned (.tuple #[v, .nilIface]) ∧ Ext w w' := by
 have K := Lib.hid (pf_pre s w v h)
 clear h
 go_enter Tryz.func195, Tryz.ntmps195
 go_wp2_with fail
 refine K.out.mono ?_; rintro e w1 ⟨rfl, hE⟩
 go_wp2_with fail
 go_ret2
 exact ⟨rfl, hE⟩
theorem pf_out (s : ByteArray) (w : World) (v : Value)
  (h : Calls Tryz.prog 210 #[.string s] w fun e w' => e = .returned (.tuple #[v, .int .i64 s.size, .nilIface]) ∧ Ext w w') :
  Calls Tryz.prog 184 #[.string s, .int .i64 64] w fun e w' => e = .returned (.tuple #[v, .nilIface]) ∧ Ext w w' := by
 have K := Lib.hid (pf_int s w v h)
 clear h
 go_enter Tryz.func184, Tryz.ntmps184
 go_wp2_with fail
 refine K.out.mono ?_; rintro e w1 ⟨rfl, hE⟩
 go_wp2_with fail
 go_ret2
 exact ⟨rfl, hE⟩

theorem Tabs.drew {w : World} (h : Tabs w) : Tabs w.drew := h.ext (Ext.refl w).drew
theorem fmt_walk (m : Int) (w : World) (h1 : -1000000000000000 < m) (h2 : m < 1000000000000000) (T : Tabs w) :
  Calls Tryz.prog 185 #[.int .i64 m, .int .i64 10] w fun e w' => e = .returned (.string ⟨(itoa m).toArray⟩) ∧ Ext w w' :=
 (Tryz.strconv_FormatInt_10 m (by omega) (by omega) w T.u64).mono fun _ _ ⟨he, _, _, hw⟩ => ⟨he, ext_of hw⟩
theorem itoa_walk (x : Int) (w : World) (h1 : -1000 ≤ x) (h2 : x ≤ 1000) (T : Tabs w) :
  Calls Tryz.prog 186 #[.int .i64 x] w fun e w' => e = .returned (.string ⟨(itoa x).toArray⟩) ∧ Ext w w' :=
 (Tryz.strconv_Itoa x (by omega) (by omega) w T.u64).mono fun _ _ ⟨he, _, _, hw⟩ => ⟨he, ext_of hw⟩
theorem itoa_len (n : Int) (h1 : -1000000000000000 < n) (h2 : n < 1000000000000000) : (itoa n).length ≤ 16 := by
 have := nDigits_le n.natAbs 15 (by omega) (by decide)
 have e := decDigits_length n.natAbs
 unfold itoa; split
 ·simp; omega
 ·rw [show n.toNat = n.natAbs by omega]; omega

theorem cat_run (b a : List UInt8) (W : World) (ha : a.length ≤ 100) (hb : b.length ≤ 100) :
  (Op.stringOp .add ⟨a.toArray⟩ ⟨b.toArray⟩).run Tryz.prog W = .ok (.string ⟨(a ++ b).toArray⟩) W :=
 run_string_add_lists W a b (by omega) (by omega)
/-- The bits of a number that may be. -/
def bitsN (m x : Int) : Nat := if m = 0 then 0 else double.word (decide (m < 0)) (bitsD m.natAbs x)
theorem pf_num (m x : Int) (w : World) (hm : m ≠ 0) (h1 : -1000000000000000 < m) (h2 : m < 1000000000000000) (hx : -300 ≤ x) (hx' : x ≤ 290) (T : Tabs w) :
  Calls Tryz.prog 184 #[.string (numText m x), .int .i64 64] w fun e w' => e = .returned (.tuple #[.float .f64 (bitsN m x), .nilIface]) ∧ Ext w w' := by
 unfold bitsN; rw [if_neg hm]
 exact pf_out _ w _ (at_text m x w hm h1 h2 hx hx' T)

set_option maxRecDepth 100000 in
set_option maxHeartbeats 1000000 in
theorem bits_num (m x : Int) (w : World) (hm : m ≠ 0) (h1 : -1000000000000000 < m) (h2 : m < 1000000000000000) (hx : -300 ≤ x) (hx' : x ≤ 290) (hr : rightV m x 0 = true) (T : Tabs w) :
  Calls Tryz.prog 172 #[.agg #[.int .i64 m, .int .i64 x, .int .i64 0]] w fun e w' => e = .returned (.tuple #[.int .u64 (bitsN m x), .int .i64 0]) ∧ Ext w w' := by
 have HR := Lib.hid hr
 clear hr
 go_enter Tryz.func172, Tryz.ntmps172
 go_wp2_with fail
 refine (fright_walk m x 0 _).mono ?_; rintro e w1 ⟨rfl, hE1⟩
 rw [HR.out]
 have hc0 : w1.cell? ⟨w.heap.size, 0, none⟩ = some (.int .i64 m) := hE1.cell_some (by simp)
 have hc1 : w1.cell? ⟨w.heap.size, 1, none⟩ = some (.int .i64 x) := hE1.cell_some (by simp)
 have hc2 : w1.cell? ⟨w.heap.size, 2, none⟩ = some (.int .i64 0) := hE1.cell_some (by simp)
 have hE : Ext w w1 := ((Ext.refl w).alloc _).trans hE1
 have hT : Tabs w1 := T.ext hE
 have r1 : ∀ W : World, (Op.stringOp .add ⟨(itoa m).toArray⟩ ⟨#[101]⟩).run Tryz.prog W = .ok (.string ⟨(itoa m ++ [101]).toArray⟩) W := fun W => cat_run [101] (itoa m) W (by have := itoa_len m h1 h2; omega) (by simp)
 have r2 : ∀ W : World, (Op.stringOp .add ⟨(itoa m ++ [101]).toArray⟩ ⟨(itoa x).toArray⟩).run Tryz.prog W = .ok (.string (numText m x)) W := fun W => by
  have := cat_run (itoa x) (itoa m ++ [101]) W (by have := itoa_len m h1 h2; simp; omega) (by have := itoa_len x (by omega) (by omega); omega)
  rw [this]; unfold numText; simp
 go_wp2_with fail
 go_region_held3 (fun w' => w'.cell? ⟨w.heap.size, 0, none⟩ = some (.int .i64 m) ∧ w'.cell? ⟨w.heap.size, 1, none⟩ = some (.int .i64 x) ∧ Ext w w' ∧ Tabs w')
  (refine ⟨?_, ?_, ?_, ?_⟩ <;> first | assumption | exact Ext.drew (by assumption) | exact Tabs.drew (by assumption) | exact Ext.cell_some (by assumption) (by assumption) | exact Ext.trans (by assumption) (by assumption) | exact Tabs.ext (by assumption) (by assumption))
  (first | (go_at_call 185; refine (fmt_walk m _ h1 h2 ?_).mono ?_; (first | assumption | exact Tabs.drew (by assumption)); rintro e w' ⟨rfl, hE'⟩; have hT' := Tabs.ext (Tabs.drew hT) hE'; have hX' := Ext.trans (Ext.drew hE) hE'; have hd0 := Ext.cell_some hE' hc0; have hd1 := Ext.cell_some hE' hc1) | (go_at_call 186; refine (itoa_walk x _ (by omega) (by omega) ?_).mono ?_; (first | assumption | exact Tabs.drew (by assumption)); rintro e w'' ⟨rfl, hE''⟩; have hT'' := Tabs.ext hT' hE''; have hX'' := Ext.trans hX' hE''; have hf0 := Ext.cell_some hE'' hd0; have hf1 := Ext.cell_some hE'' hd1) | (go_at_call 184; refine (pf_num m x _ hm h1 h2 hx hx' ?_).mono ?_; assumption; rintro e w3 ⟨rfl, hE3⟩; have hT3 := Tabs.ext hT'' hE3; have hX3 := Ext.trans hX'' hE3; have hg0 := Ext.cell_some hE3 hf0; have hg1 := Ext.cell_some hE3 hf1))
 go_wp2_with fail
 go_ret2
 exact ⟨rfl, hX3⟩
end Go.Proofs.YtnkelahimiipjaaGreatDoor

namespace Go.Proofs.YtnkelahimiipjaaGreatDoor
open Go.RowKit Go.Sort Go.Lib Ieee
attribute [local go_sem] run_ffb run_f64b

set_option maxRecDepth 100000 in
set_option maxHeartbeats 2000000 in
theorem rf_zero (w : World) : Calls Tryz.prog 218 #[.string { data := #[48, 101, 48] }] w fun e w' => e = .returned (.tuple #[.int .u64 0, .int .i64 0, .bool false, .bool false, .bool false, .int .i64 3, .bool true]) ∧ w = w' := by
 have b0 : (({ data := #[48, 101, 48] } : ByteArray)[0]'(by decide)).toNat = 48 := rfl
 have b1 : (({ data := #[48, 101, 48] } : ByteArray)[1]'(by decide)).toNat = 101 := rfl
 have b2 : (({ data := #[48, 101, 48] } : ByteArray)[2]'(by decide)).toNat = 48 := rfl
 go_enter Tryz.func218, Tryz.ntmps218
 go_wp2_with fail
 go_step3
 go_wp2_with (go_at_call 235; refine (lower_walk _).mono ?_; rintro e w' ⟨rfl, rfl⟩)
 go_step3
 go_wp2_with (go_at_call 235; refine (lower_walk _).mono ?_; rintro e w' ⟨rfl, rfl⟩)
 refine wp_loop_rounds 2 ?_
 rw [rounds_succ]
 go_wp2_with (go_at_call 235; refine (lower_walk _).mono ?_; rintro e w' ⟨rfl, rfl⟩)
 all_goals rw [rounds_succ]
 all_goals go_wp2_with (go_at_call 235; refine (lower_walk _).mono ?_; rintro e w' ⟨rfl, rfl⟩)
 refine wp_loop_rounds 2 ?_
 rw [rounds_succ]
 go_wp2_with fail
 rw [rounds_succ]
 go_wp2_with fail
 rw [Exit.noGoto_ret]
 refine bodyPost_ret (v := .tuple #[.int .u64 0, .int .i64 0, .bool false, .bool false, .bool false, .int .i64 3, .bool true]) ?_ rfl ⟨rfl, rfl⟩
 simp [results, Tryz.results218, go_sem]

set_option maxRecDepth 100000 in
set_option maxHeartbeats 1000000 in
theorem at_zero (w : World) (hopt : w.cell? ⟨7, 0, none⟩ = some (.bool true)) :
  Calls Tryz.prog 210 #[.string { data := #[48, 101, 48] }] w fun e w' => e = .returned (.tuple #[.float .f64 0, .int .i64 3, .nilIface]) ∧ Ext w w' := by
 have K1 := fun w => special_digit { data := #[48, 101, 48] } w 48 (by decide) (by decide) rfl (by decide) (by decide)
 have K2 := Lib.hid K1
 clear K1
 go_enter Tryz.func210, Tryz.ntmps210
 go_wp2_with fail
 refine (K2.out _).mono ?_; rintro e w1 ⟨rfl, rfl⟩
 go_wp2_with fail
 refine (rf_zero _).mono ?_; rintro e w2 ⟨rfl, rfl⟩
 go_wp2_with fail
 refine (bool2u_walk _ _).mono ?_; rintro e w3 ⟨rfl, rfl⟩
 go_wp2_with fail
 go_ret3
 exact ⟨rfl, Ext.refl _⟩

theorem itoa0 : itoa 0 = [48] := by
 unfold itoa; rw [if_neg (by decide), show (0 : Int).toNat = 0 from rfl, decDigits_one (by decide)]; rfl
theorem numText_zero : numText 0 0 = { data := #[48, 101, 48] } := by unfold numText; rw [itoa0]; rfl
theorem pf_zero (w : World) (T : Tabs w) :
  Calls Tryz.prog 184 #[.string (numText 0 0), .int .i64 64] w fun e w' => e = .returned (.tuple #[.float .f64 0, .nilIface]) ∧ Ext w w' := by
 rw [numText_zero]; exact pf_out _ w _ (at_zero w T.opt)

set_option maxRecDepth 100000 in
set_option maxHeartbeats 1000000 in
theorem bits_zero (w : World) (T : Tabs w) :
  Calls Tryz.prog 172 #[.agg #[.int .i64 0, .int .i64 0, .int .i64 0]] w fun e w' => e = .returned (.tuple #[.int .u64 0, .int .i64 0]) ∧ Ext w w' := by
 go_enter Tryz.func172, Tryz.ntmps172
 go_wp2_with fail
 refine (fright_walk 0 0 0 _).mono ?_; rintro e w1 ⟨rfl, hE1⟩
 rw [show rightV 0 0 0 = true from rfl]
 have hc0 : w1.cell? ⟨w.heap.size, 0, none⟩ = some (.int .i64 0) := hE1.cell_some (by simp)
 have hc1 : w1.cell? ⟨w.heap.size, 1, none⟩ = some (.int .i64 0) := hE1.cell_some (by simp)
 have hc2 : w1.cell? ⟨w.heap.size, 2, none⟩ = some (.int .i64 0) := hE1.cell_some (by simp)
 have hE : Ext w w1 := ((Ext.refl w).alloc _).trans hE1
 have hT : Tabs w1 := T.ext hE
 have r1 : ∀ W : World, (Op.stringOp .add ⟨(itoa 0).toArray⟩ ⟨#[101]⟩).run Tryz.prog W = .ok (.string ⟨(itoa 0 ++ [101]).toArray⟩) W := fun W => cat_run [101] (itoa 0) W (by rw [itoa0]; decide) (by decide)
 have r2 : ∀ W : World, (Op.stringOp .add ⟨(itoa 0 ++ [101]).toArray⟩ ⟨(itoa 0).toArray⟩).run Tryz.prog W = .ok (.string (numText 0 0)) W := fun W => by
  have := cat_run (itoa 0) (itoa 0 ++ [101]) W (by rw [itoa0]; decide) (by rw [itoa0]; decide)
  rw [this]; unfold numText; simp
 go_wp2_with fail
 go_region_held3 (fun w' => w'.cell? ⟨w.heap.size, 0, none⟩ = some (.int .i64 0) ∧ w'.cell? ⟨w.heap.size, 1, none⟩ = some (.int .i64 0) ∧ Ext w w' ∧ Tabs w')
  (refine ⟨?_, ?_, ?_, ?_⟩ <;> first | assumption | exact Ext.drew (by assumption) | exact Tabs.drew (by assumption) | exact Ext.cell_some (by assumption) (by assumption) | exact Ext.trans (by assumption) (by assumption) | exact Tabs.ext (by assumption) (by assumption))
  (first | (go_at_call 185; refine (fmt_walk 0 _ (by decide) (by decide) ?_).mono ?_; (first | assumption | exact Tabs.drew (by assumption)); rintro e w' ⟨rfl, hE'⟩; have hT' := Tabs.ext (Tabs.drew hT) hE'; have hX' := Ext.trans (Ext.drew hE) hE'; have hd0 := Ext.cell_some hE' hc0; have hd1 := Ext.cell_some hE' hc1) | (go_at_call 186; refine (itoa_walk 0 _ (by decide) (by decide) ?_).mono ?_; (first | assumption | exact Tabs.drew (by assumption)); rintro e w'' ⟨rfl, hE''⟩; have hT'' := Tabs.ext hT' hE''; have hX'' := Ext.trans hX' hE''; have hf0 := Ext.cell_some hE'' hd0; have hf1 := Ext.cell_some hE'' hd1) | (go_at_call 184; refine (pf_zero _ ?_).mono ?_; assumption; rintro e w3 ⟨rfl, hE3⟩; have hT3 := Tabs.ext hT'' hE3; have hX3 := Ext.trans hX'' hE3; have hg0 := Ext.cell_some hE3 hf0; have hg1 := Ext.cell_some hE3 hf1))
 go_wp2_with fail
 go_ret2
 exact ⟨rfl, hX3⟩

/-- The bits of a value, 0 of one that may not be. -/
def bitsV (m x s : Int) : Nat :=
 if rightV m x s = false then 0 else if s = 1 then 9218868437227405314 else if s = 2 then 9218868437227405312 else if s = 3 then 18442240474082181120 else if s = 4 then 9223372036854775808 else bitsN m x
def errV (m x s : Int) : Int := if rightV m x s then 0 else 20

set_option maxRecDepth 100000 in
set_option maxHeartbeats 1000000 in
theorem bits_not (m x s : Int) (w : World) (hr : rightV m x s = false) :
  Calls Tryz.prog 172 #[.agg #[.int .i64 m, .int .i64 x, .int .i64 s]] w fun e w' => e = .returned (.tuple #[.int .u64 0, .int .i64 20]) ∧ Ext w w' := by
 have HR := Lib.hid hr
 clear hr
 go_enter Tryz.func172, Tryz.ntmps172
 go_wp2_with fail
 refine (fright_walk m x s _).mono ?_; rintro e w1 ⟨rfl, hE1⟩
 rw [HR.out]
 have hE : Ext w w1 := ((Ext.refl w).alloc _).trans hE1
 go_wp2_with fail
 go_ret2
 exact ⟨rfl, hE⟩

set_option maxRecDepth 100000 in
set_option maxHeartbeats 1000000 in
theorem bits_kind (s : Int) (b : Nat) (w : World) (hs : (s = 1 ∧ b = 9218868437227405314) ∨ (s = 2 ∧ b = 9218868437227405312) ∨ (s = 3 ∧ b = 18442240474082181120) ∨ (s = 4 ∧ b = 9223372036854775808)) :
  Calls Tryz.prog 172 #[.agg #[.int .i64 0, .int .i64 0, .int .i64 s]] w fun e w' => e = .returned (.tuple #[.int .u64 b, .int .i64 0]) ∧ Ext w w' := by
 rcases hs with ⟨rfl, rfl⟩ | ⟨rfl, rfl⟩ | ⟨rfl, rfl⟩ | ⟨rfl, rfl⟩
 all_goals
  go_enter Tryz.func172, Tryz.ntmps172
  go_wp2_with fail
  refine (fright_walk 0 0 _ _).mono ?_; rintro e w1 ⟨rfl, hE1⟩
  rw [show rightV 0 0 _ = true from rfl]
  have hc2 : w1.cell? ⟨w.heap.size, 2, none⟩ = some (.int .i64 _) := hE1.cell_some (by simp; rfl)
  have hE : Ext w w1 := ((Ext.refl w).alloc _).trans hE1
  go_wp2_with fail
  go_ret2
  exact ⟨rfl, hE⟩

/-- float.Bits. -/
theorem bits_walk (m x s : Int) (w : World) (T : Tabs w) :
  Calls Tryz.prog 172 #[.agg #[.int .i64 m, .int .i64 x, .int .i64 s]] w fun e w' => e = .returned (.tuple #[.int .u64 (bitsV m x s), .int .i64 (errV m x s)]) ∧ Ext w w' := by
 unfold bitsV errV
 cases hr : rightV m x s
 ·exact bits_not m x s w hr
 ·simp only [Bool.true_eq_false, if_false, if_true]
  have h := hr
  unfold rightV at h
  by_cases hs : s = 0
  ·subst hs
   simp only [show (0 : Int) ≠ 1 from by decide, show (0 : Int) ≠ 2 from by decide, show (0 : Int) ≠ 3 from by decide, show (0 : Int) ≠ 4 from by decide, if_false]
   rw [if_neg (by decide)] at h
   split at h
   ·cases h
   ·split at h
    ·rename_i hm
     simp only [decide_eq_true_eq] at h
     subst hm; subst h
     exact bits_zero w T
    ·simp only [decide_eq_true_eq] at h
     exact bits_num m x w (by assumption) (by omega) (by omega) h.2.1 h.2.2 hr T
  ·rw [if_pos hs] at h
   simp only [decide_eq_true_eq] at h
   obtain ⟨h1, h2, rfl, rfl⟩ := h
   have : s = 1 ∨ s = 2 ∨ s = 3 ∨ s = 4 := by omega
   rcases this with rfl | rfl | rfl | rfl
   ·exact bits_kind 1 _ w (.inl ⟨rfl, rfl⟩)
   ·exact bits_kind 2 _ w (.inr (.inl ⟨rfl, rfl⟩))
   ·exact bits_kind 3 _ w (.inr (.inr (.inl ⟨rfl, rfl⟩)))
   ·exact bits_kind 4 _ w (.inr (.inr (.inr ⟨rfl, rfl⟩)))
end Go.Proofs.YtnkelahimiipjaaGreatDoor

namespace Go.Proofs.YtnkelahimiipjaaGreatDoor
open Go.RowKit Go.Sort

def cmpI (a b : Int) : Int := if a < b then -1 else if b < a then 1 else 0
/-- A sample: its tick, and its value's three numbers. -/
abbrev Smp := Int × Int × Int × Int
def Smp.bits (a : Smp) : Nat := bitsV a.2.1 a.2.2.1 a.2.2.2
def cmpV (a b : Smp) : Int := cmpI (Smp.bits a) (Smp.bits b)
def orI (a b : Int) : Int := if a ≠ 0 then a else b
def cmpS (a b : Smp) : Int := orI (cmpI a.1 b.1) (cmpV a b)
def encS (a : Smp) : List Value := [.int .i64 a.1, .int .i64 a.2.1, .int .i64 a.2.2.1, .int .i64 a.2.2.2]

set_option maxHeartbeats 400000 in
theorem cmp64_walk (a b : Int) (w : World) : Calls Tryz.prog 148 #[.int .i64 a, .int .i64 b] w fun e w' => e = .returned (.int .i64 (cmpI a b)) ∧ w = w' := by
 rcases Int.lt_trichotomy a b with h | rfl | h
 ·have h1 : decide (a < b) = true := by simp [h]
  have hv : Hid (cmpI a b = -1) := by show cmpI a b = -1; unfold cmpI; rw [if_pos h]
  go_enter Tryz.func148, Tryz.ntmps148
  go_wp2
  go_ret
  exact ⟨ret_int hv.out.symm, rfl⟩
 ·have hv : Hid (cmpI a a = 0) := by show cmpI a a = 0; unfold cmpI; simp
  go_enter Tryz.func148, Tryz.ntmps148
  go_wp2
  go_ret
  exact ⟨ret_int hv.out.symm, rfl⟩
 ·have h1 : ¬ a < b := by omega
  have hv : Hid (cmpI a b = 1) := by show cmpI a b = 1; unfold cmpI; rw [if_neg h1, if_pos h]
  go_enter Tryz.func148, Tryz.ntmps148
  go_wp2
  go_ret
  exact ⟨ret_int hv.out.symm, rfl⟩
set_option maxHeartbeats 400000 in
theorem cmpu64_walk (a b : Int) (w : World) : Calls Tryz.prog 173 #[.int .u64 a, .int .u64 b] w fun e w' => e = .returned (.int .i64 (cmpI a b)) ∧ w = w' := by
 rcases Int.lt_trichotomy a b with h | rfl | h
 ·have h1 : decide (a < b) = true := by simp [h]
  have hv : Hid (cmpI a b = -1) := by show cmpI a b = -1; unfold cmpI; rw [if_pos h]
  go_enter Tryz.func173, Tryz.ntmps173
  go_wp2
  go_ret
  exact ⟨ret_int hv.out.symm, rfl⟩
 ·have hv : Hid (cmpI a a = 0) := by show cmpI a a = 0; unfold cmpI; simp
  go_enter Tryz.func173, Tryz.ntmps173
  go_wp2
  go_ret
  exact ⟨ret_int hv.out.symm, rfl⟩
 ·have h1 : ¬ a < b := by omega
  have hv : Hid (cmpI a b = 1) := by show cmpI a b = 1; unfold cmpI; rw [if_neg h1, if_pos h]
  go_enter Tryz.func173, Tryz.ntmps173
  go_wp2
  go_ret
  exact ⟨ret_int hv.out.symm, rfl⟩
set_option maxHeartbeats 400000 in
/-- cmp.Or of two numbers. -/
theorem or_walk (a b : Int) (k c : Nat) (w : World) (h0 : w.cell? ⟨k, 0, none⟩ = some (.int .i64 a)) (h1 : w.cell? ⟨k, 1, none⟩ = some (.int .i64 b)) :
  Calls Tryz.prog 147 #[.slice (some ⟨k, 0, none⟩) 2 c] w fun e w' => e = .returned (.int .i64 (orI a b)) ∧ w = w' := by
 unfold orI
 by_cases ha : a = 0
 ·subst ha
  by_cases hb : b = 0
  ·subst hb
   go_enter Tryz.func147, Tryz.ntmps147
   go_wp2
   refine wp_loop_rounds 3 ?_
   rw [rounds_succ]
   go_wp2
   rw [rounds_succ]
   go_wp2
   rw [rounds_succ]
   go_wp2
   go_ret
   exact ⟨rfl, rfl⟩
  ·have hb' : (b != 0) = true := by simp [hb]
   go_enter Tryz.func147, Tryz.ntmps147
   go_wp2
   refine wp_loop_rounds 3 ?_
   rw [rounds_succ]
   go_wp2
   rw [rounds_succ]
   go_wp2
   go_ret
   exact ⟨rfl, rfl⟩
 ·have ha' : (a != 0) = true := by simp [ha]
  rw [if_pos ha]
  go_enter Tryz.func147, Tryz.ntmps147
  go_wp2
  refine wp_loop_rounds 3 ?_
  rw [rounds_succ]
  go_wp2
  go_ret
  exact ⟨rfl, rfl⟩

set_option maxHeartbeats 400000 in
theorem fcmp_walk (a b : Smp) (w : World) (T : Tabs w) :
  Calls Tryz.prog 149 #[.agg #[.int .i64 a.2.1, .int .i64 a.2.2.1, .int .i64 a.2.2.2], .agg #[.int .i64 b.2.1, .int .i64 b.2.2.1, .int .i64 b.2.2.2]] w fun e w' => e = .returned (.int .i64 (cmpV a b)) ∧ Ext w w' := by
 obtain ⟨at_, am, ax, as_⟩ := a
 obtain ⟨bt, bm, bx, bs⟩ := b
 unfold cmpV Smp.bits
 obtain ⟨u, hu⟩ : ∃ u, u = bitsV am ax as_ := ⟨_, rfl⟩
 obtain ⟨v, hv⟩ : ∃ v, v = bitsV bm bx bs := ⟨_, rfl⟩
 have B1 : ∀ w, Tabs w → Calls Tryz.prog 172 #[.agg #[.int .i64 am, .int .i64 ax, .int .i64 as_]] w fun e w' => e = .returned (.tuple #[.int .u64 u, .int .i64 (errV am ax as_)]) ∧ Ext w w' := fun w T => by rw [hu]; exact bits_walk am ax as_ w T
 have B2 : ∀ w, Tabs w → Calls Tryz.prog 172 #[.agg #[.int .i64 bm, .int .i64 bx, .int .i64 bs]] w fun e w' => e = .returned (.tuple #[.int .u64 v, .int .i64 (errV bm bx bs)]) ∧ Ext w w' := fun w T => by rw [hv]; exact bits_walk bm bx bs w T
 simp only
 rw [← hu, ← hv]
 have K1 := Lib.hid B1
 have K2 := Lib.hid B2
 clear hu hv B1 B2
 have hs0 : w.heap.size < w.heap.size + 1 + 1 := by omega
 have hs1 : w.heap.size + 1 < w.heap.size + 1 + 1 := by omega
 go_enter Tryz.func149, Tryz.ntmps149
 go_wp2_with fail
 refine (K1.out _ (T.ext (((Ext.refl w).alloc _).alloc _))).mono ?_; rintro e w1 ⟨rfl, hE1⟩
 have hc0 : w1.cell? ⟨w.heap.size + 1, 0, none⟩ = some (.int .i64 bm) := hE1.cell_some (by simp)
 have hc1 : w1.cell? ⟨w.heap.size + 1, 1, none⟩ = some (.int .i64 bx) := hE1.cell_some (by simp)
 have hc2 : w1.cell? ⟨w.heap.size + 1, 2, none⟩ = some (.int .i64 bs) := hE1.cell_some (by simp)
 have hE : Ext w w1 := (((Ext.refl w).alloc _).alloc _).trans hE1
 go_wp2_with fail
 refine (K2.out _ (T.ext hE)).mono ?_; rintro e w2 ⟨rfl, hE2⟩
 go_wp2_with fail
 refine (cmpu64_walk _ _ _).mono ?_; rintro e w3 ⟨rfl, rfl⟩
 go_wp2_with fail
 go_ret
 exact ⟨rfl, hE.trans hE2⟩
end Go.Proofs.YtnkelahimiipjaaGreatDoor

namespace Go.Proofs.YtnkelahimiipjaaGreatDoor
open Go.RowKit Go.Sort

def vS (a : Smp) : Value := .agg #[.int .i64 a.1, .int .i64 a.2.1, .int .i64 a.2.2.1, .int .i64 a.2.2.2]

theorem new_cell (w : World) (cs : Array Value) (t : TypeId) (i : Nat) : (w.alloc (.cells cs t)).cell? ⟨w.heap.size, i, none⟩ = cs[i]? := by
 unfold World.cell?; rw [heap_alloc_new]; rfl
set_option maxRecDepth 100000 in
set_option maxHeartbeats 1000000 in
theorem scmp_walk (a b : Smp) (w : World) (T : Tabs w) :
  Calls Tryz.prog 137 #[vS a, vS b] w fun e w' => e = .returned (.int .i64 (cmpS a b)) ∧ Ext w w' := by
 obtain ⟨at_, am, ax, as_⟩ := a
 obtain ⟨bt, bm, bx, bs⟩ := b
 have KF : ∀ W, Tabs W → Calls Tryz.prog 149 #[.agg #[.int .i64 am, .int .i64 ax, .int .i64 as_], .agg #[.int .i64 bm, .int .i64 bx, .int .i64 bs]] W fun e w' => e = .returned (.int .i64 (cmpV (at_, am, ax, as_) (bt, bm, bx, bs))) ∧ Ext W w' := fun W T => fcmp_walk (at_, am, ax, as_) (bt, bm, bx, bs) W T
 obtain ⟨v, hv⟩ : ∃ v, v = cmpV (at_, am, ax, as_) (bt, bm, bx, bs) := ⟨_, rfl⟩
 have hfin : Hid (cmpS (at_, am, ax, as_) (bt, bm, bx, bs) = orI (cmpI at_ bt) v) := by rw [hv]; rfl
 rw [hfin.out]
 rw [← hv] at KF
 have K := Lib.hid KF
 clear KF hv hfin
 obtain ⟨u, hu⟩ : ∃ u, u = cmpI at_ bt := ⟨_, rfl⟩
 have K2 : Hid (∀ W, Calls Tryz.prog 148 #[.int .i64 at_, .int .i64 bt] W fun e w' => e = .returned (.int .i64 u) ∧ W = w') := fun W => by rw [hu]; exact cmp64_walk at_ bt W
 rw [← hu]
 clear hu
 unfold vS
 have hs1 : w.heap.size + 1 < w.heap.size + 1 + 1 := by omega
 go_enter Tryz.func137, Tryz.ntmps137
 go_wp2_with fail
 obtain ⟨w1, hw1⟩ : ∃ w1, w1 = (w.alloc (.cells #[.int .i64 at_, .int .i64 am, .int .i64 ax, .int .i64 as_] 180)).alloc (.cells #[.int .i64 bt, .int .i64 bm, .int .i64 bx, .int .i64 bs] 180) := ⟨_, rfl⟩
 rw [← hw1]
 have a0 : w1.cell? ⟨w.heap.size, 0, none⟩ = some (.int .i64 at_) := by rw [hw1]; simp
 have a1 : w1.cell? ⟨w.heap.size, 1, none⟩ = some (.int .i64 am) := by rw [hw1]; simp
 have a2 : w1.cell? ⟨w.heap.size, 2, none⟩ = some (.int .i64 ax) := by rw [hw1]; simp
 have a3 : w1.cell? ⟨w.heap.size, 3, none⟩ = some (.int .i64 as_) := by rw [hw1]; simp
 have b0 : w1.cell? ⟨w.heap.size + 1, 0, none⟩ = some (.int .i64 bt) := by rw [hw1]; simp
 have b1 : w1.cell? ⟨w.heap.size + 1, 1, none⟩ = some (.int .i64 bm) := by rw [hw1]; simp
 have b2 : w1.cell? ⟨w.heap.size + 1, 2, none⟩ = some (.int .i64 bx) := by rw [hw1]; simp
 have b3 : w1.cell? ⟨w.heap.size + 1, 3, none⟩ = some (.int .i64 bs) := by rw [hw1]; simp
 have hE : Ext w w1 := by rw [hw1]; exact ((Ext.refl w).alloc _).alloc _
 have hT : Tabs w1 := T.ext hE
 clear hw1
 go_region_held3 (fun w' => w'.cell? ⟨w.heap.size, 0, none⟩ = some (.int .i64 at_) ∧ w'.cell? ⟨w.heap.size, 1, none⟩ = some (.int .i64 am) ∧ w'.cell? ⟨w.heap.size, 2, none⟩ = some (.int .i64 ax) ∧ w'.cell? ⟨w.heap.size, 3, none⟩ = some (.int .i64 as_) ∧ w'.cell? ⟨w.heap.size + 1, 0, none⟩ = some (.int .i64 bt) ∧ w'.cell? ⟨w.heap.size + 1, 1, none⟩ = some (.int .i64 bm) ∧ w'.cell? ⟨w.heap.size + 1, 2, none⟩ = some (.int .i64 bx) ∧ w'.cell? ⟨w.heap.size + 1, 3, none⟩ = some (.int .i64 bs) ∧ Ext w w' ∧ Tabs w')
  (refine ⟨?_, ?_, ?_, ?_, ?_, ?_, ?_, ?_, ?_, ?_⟩ <;> first | assumption | exact Ext.drew (by assumption) | exact Tabs.drew (by assumption) | exact Ext.cell_some (by assumption) (by assumption) | exact Ext.trans (Ext.drew (by assumption)) (by assumption) | exact Ext.trans (by assumption) (by assumption) | exact Tabs.ext (Tabs.drew (by assumption)) (by assumption) | exact Tabs.ext (by assumption) (by assumption) | exact Ext.cell_some (Ext.alloc (Ext.refl _) _) (by assumption) | exact Ext.alloc (by assumption) _ | exact Tabs.ext (by assumption) (Ext.alloc (Ext.refl _) _))
  (first | (go_at_call 148; refine (K2.out _).mono ?_; rintro e w' ⟨rfl, rfl⟩) | (go_at_call 149; refine (K.out _ ?_).mono ?_; (first | assumption | exact Tabs.drew (by assumption)); rintro e w' ⟨rfl, hE'⟩; have hX' := Ext.trans (Ext.drew hE) hE'; have hT' := Tabs.ext (Tabs.drew hT) hE'; have a0' := Ext.cell_some hE' a0; have a1' := Ext.cell_some hE' a1; have a2' := Ext.cell_some hE' a2; have a3' := Ext.cell_some hE' a3; have b0' := Ext.cell_some hE' b0; have b1' := Ext.cell_some hE' b1; have b2' := Ext.cell_some hE' b2; have b3' := Ext.cell_some hE' b3) | (go_at_call 147; refine (or_walk u v w'.heap.size 2 _ (new_cell _ _ _ 0) (new_cell _ _ _ 1)).mono ?_; rintro e w3 ⟨rfl, rfl⟩))
 go_wp2_with fail
 go_ret
 exact ⟨rfl, hX'.alloc _⟩
end Go.Proofs.YtnkelahimiipjaaGreatDoor

namespace Go.Proofs.YtnkelahimiipjaaGreatDoor
open Go.RowKit Go.Sort

/-- May a sample be? -/
def rightS (a : Smp) : Bool := decide (0 ≤ a.1 ∧ a.1 ≤ 1099511627776) && rightV a.2.1 a.2.2.1 a.2.2.2

theorem Tabs.below {w w' : World} (h : Tabs w) (k : Below w.heap.size w w') : Tabs w' := by
 obtain ⟨pb, po, pc, h1, h2⟩ := h.pow
 have kc : ∀ {b o v}, w.cell? ⟨b, o, none⟩ = some v → w'.cell? ⟨b, o, none⟩ = some v := fun hc => (k.cell (lt_of_cell hc)).trans hc
 exact ⟨kc h.info, kc h.opt, ⟨pb, po, pc, kc h1, fun i hi => kc (h2 i hi)⟩, fun P hP => kc (h.hi P hP), fun P hP => kc (h.lo P hP),
  var?_below k gU64 (Nat.lt_of_lt_of_le (by decide) (Nat.le_of_lt h.size)) h.u64⟩

set_option maxHeartbeats 400000 in
theorem dright_walk (a : Smp) (w : World) :
  Calls Tryz.prog 135 #[vS a] w fun e w' => e = .returned (.bool (rightS a)) ∧ Ext w w' := by
 obtain ⟨t, m, x, s⟩ := a
 unfold vS rightS
 simp only
 obtain ⟨v, hv⟩ : ∃ v, v = rightV m x s := ⟨_, rfl⟩
 have KR : ∀ W, Calls Tryz.prog 93 #[.agg #[.int .i64 m, .int .i64 x, .int .i64 s]] W fun e w' => e = .returned (.bool v) ∧ Ext W w' := fun W => by rw [hv]; exact fright_walk m x s W
 rw [← hv]
 have K := Lib.hid KR
 clear KR hv
 by_cases h : 0 ≤ t ∧ t ≤ 1099511627776
 ·have hd : Hid ((decide (0 ≤ t ∧ t ≤ 1099511627776) && v) = v) := by show _ = _; simp [h]
  obtain ⟨h1, h2⟩ := h
  rw [hd.out]
  have g1 : decide (0 ≤ t) = true := by simp [h1]
  have g2 : decide (t ≤ 1099511627776) = true := by simp [h2]
  go_enter Tryz.func135, Tryz.ntmps135
  go_wp2_with fail
  refine (K.out _).mono ?_; rintro e w1 ⟨rfl, hE1⟩
  go_wp2_with fail
  go_ret
  exact ⟨ret_bool (by simp), ((Ext.refl w).alloc _).trans hE1⟩
 ·have hd : Hid ((decide (0 ≤ t ∧ t ≤ 1099511627776) && v) = false) := by show _ = _; simp only [h, decide_false, Bool.false_and]
  rw [hd.out]
  by_cases h1 : 0 ≤ t
  ·have g1 : decide (0 ≤ t) = true := by simp [h1]
   have h2 : 1099511627776 < t := by omega
   go_enter Tryz.func135, Tryz.ntmps135
   go_wp2_with fail
   go_ret
   exact ⟨rfl, (Ext.refl w).alloc _⟩
  ·have g1 : decide (0 ≤ t) = false := by simp; omega
   have h2 : t < 0 := by omega
   go_enter Tryz.func135, Tryz.ntmps135
   go_wp2_with fail
   go_ret
   exact ⟨rfl, (Ext.refl w).alloc _⟩

/-- The length of an interval, put into its bounds; the interval in which a tick lies. -/
def ivN (d : Int) : Int := if d < 1 then 1 else if 1073741824 < d then 1073741824 else d
def ivT (t : Int) : Int := if t < 0 then 0 else if 4611686018427387904 < t then 4611686018427387904 else t
def ivl (t d : Int) : Int := (ivT t + ivN d - 1) / ivN d

end Go.Proofs.YtnkelahimiipjaaGreatDoor
