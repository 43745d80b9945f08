/-
 Some numbers ahead, one behind the other.
-/
import Derived.Test.YtnkelahimiipjaaGreatDoorBbk
import Derived.Test.YtnkelahimiipjaaGreatDoorRqk
import Derived.Laws.BitsAllLaws
import Derived.Test.YtnkelahimiipjaaGreatDoorProg
namespace Go.Proofs.YtnkelahimiipjaaGreatDoor
theorem takes_snoc : ∀ (k : Nat) (b : List Nat), takesV (k + 1) b = if (takesV k b).1 = 0 then (if (takeV (takesV k b).2.2).1 = 0 then (0, (takesV k b).2.1 ++ [zagV (takeV (takesV k b).2.2).2.1], (takesV k b).2.2.drop (takeV (takesV k b).2.2).2.2) else ((takeV (takesV k b).2.2).1, [], [])) else takesV k b
 | 0, b => by
   rw [takesV]
   simp only [takesV, if_true, List.nil_append]
 | k + 1, b => by
   have ih := takes_snoc k (b.drop (takeV b).2.2)
   rw [takesV]
   by_cases h1 : (takeV b).1 = 0
   ·rw [if_pos h1]
    have e : takesV (k + 1) b = if (takesV k (b.drop (takeV b).2.2)).1 = 0 then (0, zagV (takeV b).2.1 :: (takesV k (b.drop (takeV b).2.2)).2.1, (takesV k (b.drop (takeV b).2.2)).2.2) else takesV k (b.drop (takeV b).2.2) := by
     rw [takesV, if_pos h1]
    by_cases h2 : (takesV k (b.drop (takeV b).2.2)).1 = 0
    ·rw [if_pos h2] at ih e
     rw [e]
     simp only [if_true]
     by_cases h3 : (takeV (takesV k (b.drop (takeV b).2.2)).2.2).1 = 0
     ·rw [if_pos h3] at ih ⊢
      rw [ih]
      simp
     ·rw [if_neg h3] at ih ⊢
      rw [ih]
      simp only
      rw [if_neg h3]
    ·rw [if_neg h2] at ih e
     rw [ih, e, if_neg h2, if_neg h2]
   ·have e : takesV (k + 1) b = ((takeV b).1, [], []) := by rw [takesV, if_neg h1]
    rw [if_neg h1, e]
    simp only
    rw [if_neg h1]
theorem takes_stop {k : Nat} {b : List Nat} (h : (takesV k b).1 ≠ 0) : ∀ j, takesV (k + j) b = takesV k b
 | 0 => rfl
 | j + 1 => by
   have ih := takes_stop h j
   rw [show k + (j + 1) = (k + j) + 1 from rfl, takes_snoc, ih, if_neg h]
/-- How many bytes some numbers ahead have. -/
def atV (k : Nat) (b : List Nat) : Nat := b.length - (takesV k b).2.2.length
theorem takes_rest : ∀ (k : Nat) (b : List Nat), (takesV k b).1 = 0 → k ≤ atV k b ∧ atV k b ≤ b.length ∧ (takesV k b).2.2 = b.drop (atV k b) ∧ (takesV k b).2.1.length = k ∧ atV k b ≤ 10 * k
 | 0, b, _ => by
   have e : atV 0 b = 0 := by unfold atV takesV; simp
   rw [e]
   exact ⟨Nat.le_refl _, Nat.zero_le _, rfl, rfl, Nat.le_refl _⟩
 | k + 1, b, h => by
   have hs := takes_snoc k b
   by_cases h1 : (takesV k b).1 = 0
   ·obtain ⟨i1, i2, i3, i4, i5⟩ := takes_rest k b h1
    rw [if_pos h1] at hs
    by_cases h2 : (takeV (takesV k b).2.2).1 = 0
    ·rw [if_pos h2] at hs
     obtain ⟨j1, j2, j3⟩ := take_ok h2
     have e : (takesV (k + 1) b).2.2 = b.drop (atV k b + (takeV (takesV k b).2.2).2.2) := by
      rw [hs]; simp only; rw [i3, List.drop_drop]
     have el : (takesV k b).2.2.length = b.length - atV k b := by rw [i3, List.length_drop]
     have ea : atV (k + 1) b = atV k b + (takeV (takesV k b).2.2).2.2 := by
      unfold atV
      rw [e, List.length_drop]
      have : atV k b = b.length - (takesV k b).2.2.length := rfl
      omega
     refine ⟨by omega, by omega, by rw [e, ea], ?_, by omega⟩
     rw [hs]; simp [i4]
    ·rw [if_neg h2] at hs
     rw [hs] at h; exact absurd h h2
   ·rw [if_neg h1] at hs
    rw [hs] at h; exact absurd h h1
/-- What is told of the bytes, by a number: the number, and where it ends; below 0: an error. -/
def numX (b : List Nat) (k : Nat) : Int × Int :=
 if (takeV (b.drop (atV k b))).1 = 0 then (zagV (takeV (b.drop (atV k b))).2.1, ((atV k b + (takeV (b.drop (atV k b))).2.2 : Nat) : Int)) else (0, -(takeV (b.drop (atV k b))).1)
theorem take_codes (b : List Nat) : (takeV b).1 = 0 ∨ (takeV b).1 = 10 ∨ (takeV b).1 = 11 := by
 unfold takeV
 split
 ·simp
 ·split
  ·simp
  ·split <;> simp
theorem num_more {k : Nat} {b : List Nat} (h : (takesV k b).1 = 0) :
  ((takeV (b.drop (atV k b))).1 = 0 ∧ numX b k = (zagV (takeV (b.drop (atV k b))).2.1, ((atV (k + 1) b : Nat) : Int)) ∧ (takesV (k + 1) b).1 = 0 ∧ (takesV (k + 1) b).2.1 = (takesV k b).2.1 ++ [zagV (takeV (b.drop (atV k b))).2.1] ∧ 1 ≤ (takeV (b.drop (atV k b))).2.2 ∧ atV (k + 1) b = atV k b + (takeV (b.drop (atV k b))).2.2) ∨
  ((takeV (b.drop (atV k b))).1 ≠ 0 ∧ numX b k = (0, -(takeV (b.drop (atV k b))).1) ∧ (takesV (k + 1) b).1 = (takeV (b.drop (atV k b))).1 ∧ takesV (k + 1) b = ((takeV (b.drop (atV k b))).1, [], []) ∧ 10 ≤ (takeV (b.drop (atV k b))).1 ∧ (takeV (b.drop (atV k b))).1 ≤ 11) := by
 have hs := takes_snoc k b
 obtain ⟨i1, i2, i3, i4, i5⟩ := takes_rest k b h
 rw [if_pos h, i3] at hs
 by_cases h2 : (takeV (b.drop (atV k b))).1 = 0
 ·left
  rw [if_pos h2] at hs
  have h3 : (takesV (k + 1) b).1 = 0 := by rw [hs]
  obtain ⟨j1, j2, j3⟩ := take_ok h2
  have ea : atV (k + 1) b = atV k b + (takeV (b.drop (atV k b))).2.2 := by
   unfold atV
   rw [hs]
   simp only
   rw [List.length_drop, List.length_drop]
   have : (b.drop (atV k b)).length = b.length - atV k b := List.length_drop
   have e : atV k b = b.length - (takesV k b).2.2.length := rfl
   rw [← e]
   omega
  refine ⟨h2, ?_, h3, by rw [hs], by omega, ea⟩
  unfold numX
  rw [if_pos h2, ea]
 ·right
  rw [if_neg h2] at hs
  have hc := take_codes (b.drop (atV k b))
  refine ⟨h2, by unfold numX; rw [if_neg h2], by rw [hs], hs, by omega, by omega⟩
theorem zag_in {u : Nat} (h : u < 18446744073709551616) : In64 (zagV u) := by
 unfold zagV In64
 split <;> omega
theorem take_lt (b : List Nat) : (takeV b).2.1 < 18446744073709551616 := by
 unfold takeV
 split
 ·simp
 ·split
  ·simp
  ·split
   ·simp
   case isFalse h1 h2 h3 =>
    simp only
    by_cases h9 : leadV b = 9
    ·have hl : 9 < b.length := by omega
     have hd : ¬ 1 < b.getD 9 0 := fun h => h3 (.inl ⟨h9, h⟩)
     have e := val_take hl
     have hv := val_take_lt (b := b) (n := 9) (by omega)
     rw [List.getD_eq_getElem?_getD, List.getElem?_eq_getElem hl] at hd
     have hd2 : b[9] ≤ 1 := by simpa using hd
     have hm : b[9] % 128 * 2 ^ (7 * 9) ≤ 1 * 2 ^ (7 * 9) := Nat.mul_le_mul_right _ (by omega)
     rw [h9, e]
     omega
    ·have hv := val_take_lt (b := b) (n := leadV b + 1) (by omega)
     have hp : 2 ^ (7 * (leadV b + 1)) ≤ 2 ^ 63 := Nat.pow_le_pow_right (by decide) (by omega)
     omega
end Go.Proofs.YtnkelahimiipjaaGreatDoor

namespace Go.Proofs.YtnkelahimiipjaaGreatDoor
open Go.RowKit Go.Sort

/-- Noughts struck off a number's end, and how many. -/
def stripF : Nat → Int → Int × Nat
 | 0, m => (m, 0)
 | f + 1, m => if m % 10 = 0 then ((stripF f (m / 10)).1, (stripF f (m / 10)).2 + 1) else (m, 0)
theorem strip_of (k : Nat) : ∀ (f : Nat) (m' : Int), k ≤ f → m' % 10 ≠ 0 → stripF f (m' * 10 ^ k) = (m', k) := by
 induction k with
 | zero =>
   intro f m' _ h
   cases f with
   | zero => simp [stripF]
   | succ f => unfold stripF; rw [Int.pow_zero, Int.mul_one, if_neg h]
 | succ k ih =>
   intro f m' hf h
   cases f with
   | zero => omega
   | succ f =>
     have e : m' * 10 ^ (k + 1) = m' * 10 ^ k * 10 := by rw [Int.pow_succ, Int.mul_assoc]
     unfold stripF
     rw [e, if_pos (by omega), Int.mul_ediv_cancel _ (by decide), ih f m' (by omega) h]
/-- float.Clean: the mantissa and the exponent, if there is a value. -/
def cleanV (m x : Int) : Option (Int × Int) :=
 if x < -1000 ∨ 1000 < x then none
 else if m = 0 then some (0, 0)
 else if rightV (stripF 20 m).1 (x + (stripF 20 m).2) 0 then some ((stripF 20 m).1, x + (stripF 20 m).2) else none
/-- What Clean answers. -/
def cleanR (m x : Int) : Value := match cleanV m x with
 | some (a, b) => .tuple #[.agg #[.int .i64 a, .int .i64 b, .int .i64 0], .bool true]
 | none => .tuple #[.agg #[.int .i64 0, .int .i64 0, .int .i64 0], .bool false]
theorem pow10_bd {m mm : Int} {k : Nat} (h : m = mm * 10 ^ k) (hm : m ≠ 0) (h1 : -9223372036854775808 ≤ m) (h2 : m ≤ 9223372036854775807) : k ≤ 18 := by
 rcases Nat.lt_or_ge 18 k with hk | hk
 ·exfalso
  obtain ⟨t, rfl⟩ : ∃ t, k = 19 + t := ⟨k - 19, by omega⟩
  have h0 : mm ≠ 0 := by rintro rfl; simp at h; exact hm h
  have ha : m.natAbs = mm.natAbs * (10 ^ 19 * 10 ^ t) := by
   rw [h, Int.natAbs_mul, Int.natAbs_pow, ← Nat.pow_add]; rfl
  have hp : 1 ≤ mm.natAbs * 10 ^ t := Nat.mul_pos (by omega) (Nat.pow_pos (by decide))
  rw [Nat.mul_left_comm] at ha
  have hq : 10 ^ 19 * 1 ≤ 10 ^ 19 * (mm.natAbs * 10 ^ t) := Nat.mul_le_mul_left _ hp
  have h19 : (10 : Nat) ^ 19 = 10000000000000000000 := by decide
  omega
 ·exact hk

set_option maxRecDepth 100000 in
set_option maxHeartbeats 2000000 in
theorem clean_walk (m x : Int) (w : World) (h1 : -9223372036854775808 ≤ m) (h2 : m ≤ 9223372036854775807) :
  Calls Tryz.prog 105 #[.int .i64 m, .int .i64 x] w fun e w' => e = .returned (cleanR m x) ∧ Ext w w' := by
 have hr : Tryz.f105.results = #[.cell 4 64, .tmp 5] := by kernel_rfl
 obtain ⟨R, hR⟩ : ∃ R, R = cleanR m x := ⟨_, rfl⟩
 rw [← hR]
 by_cases hx : x < -1000 ∨ 1000 < x
 ·have hv : R = .tuple #[.agg #[.int .i64 0, .int .i64 0, .int .i64 0], .bool false] := by
   rw [hR]; unfold cleanR cleanV; rw [if_pos hx]
  subst hv
  clear hR
  go_enter Tryz.func105, Tryz.ntmps105
  rcases hx with hx | hx
  all_goals go_wp2
  all_goals refine bodyPost_ret (v := .tuple #[.agg #[.int .i64 0, .int .i64 0, .int .i64 0], .bool false]) ?_ rfl ⟨rfl, (by repeat (first | exact Ext.refl _ | (refine Ext.setCell ?_ (by simp) _) | apply Ext.drew | apply Ext.alloc))⟩
  all_goals (unfold results; rw [hr]; go_simp)
 ·by_cases hm : m = 0
  ·have hv : R = .tuple #[.agg #[.int .i64 0, .int .i64 0, .int .i64 0], .bool true] := by
    rw [hR]; unfold cleanR cleanV; rw [if_neg hx, if_pos hm]
   subst hv hm
   clear hR
   have hxa : -1000 ≤ x := by omega
   have hxb : x ≤ 1000 := by omega
   clear hx
   go_enter Tryz.func105, Tryz.ntmps105
   go_wp2
   all_goals refine bodyPost_ret (v := .tuple #[.agg #[.int .i64 0, .int .i64 0, .int .i64 0], .bool true]) ?_ rfl ⟨rfl, (by repeat (first | exact Ext.refl _ | (refine Ext.setCell ?_ (by simp) _) | apply Ext.drew | apply Ext.alloc))⟩
   all_goals (unfold results; rw [hr]; go_simp)
  ·have HC : Hid (∀ (mm : Int) (k : Nat), m = mm * 10 ^ k → mm % 10 ≠ 0 → R = if rightV mm (x + k) 0 then .tuple #[.agg #[.int .i64 mm, .int .i64 (x + k), .int .i64 0], .bool true] else .tuple #[.agg #[.int .i64 0, .int .i64 0, .int .i64 0], .bool false]) := by
    intro mm k e h9
    have hk := pow10_bd e hm h1 h2
    rw [hR]; unfold cleanR cleanV
    rw [if_neg hx, if_neg hm, e, strip_of k 20 mm (by omega) h9]
    by_cases h8 : rightV mm (x + k) 0 = true
    ·simp only [h8, if_true]
    ·simp only [h8]; simp
   have HM : Hid (m ≠ 0 ∧ -9223372036854775808 ≤ m ∧ m ≤ 9223372036854775807) := ⟨hm, h1, h2⟩
   have hxa : -1000 ≤ x := by omega
   have hxb : x ≤ 1000 := by omega
   have hm0 : ((m : Int) == 0) = false := by rw [beq_eq_false_iff_ne]; exact hm
   clear hx hR hm
   go_enter Tryz.func105, Tryz.ntmps105
   go_wp2_with fail
   go_loopw [0, 1] (fun a b wl => ∃ (mm : Int) (k : Nat), a = .int .i64 mm ∧ b = .int .i64 (x + k) ∧ k ≤ 18 ∧ Hid (m = mm * 10 ^ k) ∧ -9223372036854775808 ≤ mm ∧ mm ≤ 9223372036854775807 ∧ Hid (Ext (w.alloc (.cells #[.int .i64 0, .int .i64 0, .int .i64 0] 64)) wl)) (fun _ b _ => (2000 - intOf b).toNat)
   case atStart => exact ⟨m, 0, rfl, by simp, by omega, by show _ = _; simp, h1, h2, by first | exact Ext.refl _ | exact (Ext.refl _).drew⟩
   case round =>
    obtain ⟨mm, k, rfl, rfl, hk, HP, b1, b2, HE⟩ := hrel
    by_cases h0 : mm % 10 = 0
    ·obtain ⟨q, hq⟩ : ∃ q, mm = q * 10 := ⟨mm / 10, by omega⟩
     subst hq
     have t1 : Int.tmod (q * 10) 10 = 0 := Int.mul_tmod_left q 10
     have t2 : Int.tdiv (q * 10) 10 = q := Int.mul_tdiv_cancel q (by decide)
     have HP2 : Hid (m = q * 10 ^ (k + 1)) := by show _ = _; rw [HP.out, Int.pow_succ, Int.mul_assoc, Int.mul_comm 10]
     have hk2 : k + 1 ≤ 18 := pow10_bd HP2.out HM.out.1 HM.out.2.1 HM.out.2.2
     go_wp2_with fail
     go_roundw
     case rel => exact ⟨q, k + 1, rfl, by go_num, hk2, HP2, by omega, by omega, HE⟩
     case measure => simp [intOf]; omega
    ·have t1 : (Int.tmod mm 10 == 0) = false := by
      rw [beq_eq_false_iff_ne]
      intro e
      have := Int.dvd_of_tmod_eq_zero e
      omega
     have hR := HC.out mm k HP.out h0
     go_wp2_with fail
     have hnew : (wr.alloc (.cells #[.int .i64 mm, .int .i64 (x + k), .int .i64 0] 64)).heap.size = wr.heap.size + 1 := by simp
     refine (fright_walk mm (x + k) 0 _).mono ?_
     rintro e w2 ⟨rfl, hE2⟩
     have hE3 := ((HE.out.alloc (.cells #[.int .i64 mm, .int .i64 (x + k), .int .i64 0] 64)).trans hE2)
     have hc0 : w2.cell? ⟨wr.heap.size, 0, none⟩ = some (.int .i64 mm) := hE2.cell_some (by simp)
     have hc1 : w2.cell? ⟨wr.heap.size, 1, none⟩ = some (.int .i64 (x + k)) := hE2.cell_some (by simp)
     have hc2 : w2.cell? ⟨wr.heap.size, 2, none⟩ = some (.int .i64 0) := hE2.cell_some (by simp)
     have HE3 := Lib.hid hE3
     have hfz : ∀ o, w2.frozen? ⟨w.heap.size, o, none⟩ = false := fun o => by
      rw [hE3.frozen (b := w.heap.size) (o := o) (by simp)]
      exact World.frozen?_alloc_new _ _ _ _
     have hd0 : w2.cell? ⟨w.heap.size, 0, none⟩ = some (.int .i64 0) := hE3.cell_some (by simp)
     have hd1 : w2.cell? ⟨w.heap.size, 1, none⟩ = some (.int .i64 0) := hE3.cell_some (by simp)
     have hd2 : w2.cell? ⟨w.heap.size, 2, none⟩ = some (.int .i64 0) := hE3.cell_some (by simp)
     have hf0 := hfz 0
     have hf1 := hfz 1
     have hf2 := hfz 2
     have HEW : Hid (Ext w w2) := ((Ext.refl w).alloc _).trans hE3
     clear hfz
     clear hE2 hE3 hnew
     cases hb : rightV mm (x + k) 0
     ·rw [hb] at hR
      have hv : R = .tuple #[.agg #[.int .i64 0, .int .i64 0, .int .i64 0], .bool false] := hR
      subst hv
      clear hR
      go_wp2_with fail
      all_goals refine bodyPost_ret (v := .tuple #[.agg #[.int .i64 0, .int .i64 0, .int .i64 0], .bool false]) ?_ rfl ⟨rfl, ?_⟩
      all_goals first | (unfold results; rw [hr]; go_simp; done) | (have := HEW.out; repeat (first | assumption | (refine Ext.setCell ?_ (by simp) _) | apply Ext.drew | apply Ext.alloc))
     ·rw [hb] at hR
      have hv : R = .tuple #[.agg #[.int .i64 mm, .int .i64 (x + k), .int .i64 0], .bool true] := hR
      subst hv
      clear hR
      go_wp2_with fail
      all_goals refine bodyPost_ret (v := .tuple #[.agg #[.int .i64 mm, .int .i64 (x + k), .int .i64 0], .bool true]) ?_ rfl ⟨rfl, ?_⟩
      all_goals first | (unfold results; rw [hr]; go_simp; done) | (have := HEW.out; repeat (first | assumption | (refine Ext.setCell ?_ (by simp) _) | apply Ext.drew | apply Ext.alloc))
end Go.Proofs.YtnkelahimiipjaaGreatDoor

/-
 Values as whole numbers of one exponent, as many as go together; and back.
-/
namespace Go.Proofs.YtnkelahimiipjaaGreatDoor
abbrev Val := Int × Int × Int
def numB (v : Val) : Bool := decide (v.2.2 = 0) && decide (v.1 ≠ 0)
def rightB (v : Val) : Bool := rightV v.1 v.2.1 v.2.2
def fitB (e : Int) (v : Val) : Bool := decide (e ≤ v.2.1 ∧ v.2.1 - e ≤ 18) && decide (v.1.natAbs * 10 ^ (v.2.1 - e).toNat < 1000000000000000000)
def leastS (s : Int × Bool) (v : Val) : Int × Bool := if numB v then (if s.2 then min v.2.1 s.1 else v.2.1, true) else s
/-- The least exponent of the numbers, if there is any. -/
def leastL (l : List Val) : Int × Bool := l.foldl leastS (0, false)
def goodL (l : List Val) : Bool := l.all rightB && l.all (fun v => !numB v || fitB (leastL l).1 v)
/-- As many as go together, of k. -/
def packN (l : List Val) : Nat → Nat
 | 0 => 0
 | k + 1 => if goodL (l.take (k + 1)) = true then k + 1 else packN l k
def mantV (e : Int) (v : Val) : Int := if v.2.2 ≠ 0 then -9223372036854775808 + v.2.2 else if v.1 = 0 then 0 else v.1 * 10 ^ (v.2.1 - e).toNat
theorem least_snoc (l : List Val) (v : Val) : leastL (l ++ [v]) = leastS (leastL l) v := by unfold leastL; rw [List.foldl_append]; rfl
theorem least_spec (l : List Val) : ((leastL l).2 = true ↔ ∃ v ∈ l, numB v = true) ∧ (∀ v ∈ l, numB v = true → (leastL l).1 ≤ v.2.1) ∧ ((leastL l).2 = true → ∃ v ∈ l, numB v = true ∧ (leastL l).1 = v.2.1) ∧ ((leastL l).2 = false → (leastL l).1 = 0) := by
 have key : ∀ r : List Val, (let l := r.reverse; ((leastL l).2 = true ↔ ∃ v ∈ l, numB v = true) ∧ (∀ v ∈ l, numB v = true → (leastL l).1 ≤ v.2.1) ∧ ((leastL l).2 = true → ∃ v ∈ l, numB v = true ∧ (leastL l).1 = v.2.1) ∧ ((leastL l).2 = false → (leastL l).1 = 0)) := by
  intro r
  induction r with
  | nil => simp [leastL]
  | cons v r ih =>
    simp only [List.reverse_cons] at ih ⊢
    obtain ⟨h1, h2, h3, h4⟩ := ih
    rw [least_snoc]
    unfold leastS
    cases hn : numB v with
    | false =>
      rw [if_neg (by simp)]
      refine ⟨?_, ?_, ?_, h4⟩
      ·rw [h1]
       constructor
       ·rintro ⟨x, hx, hy⟩; exact ⟨x, List.mem_append_left _ hx, hy⟩
       ·rintro ⟨x, hx, hy⟩
        rcases List.mem_append.1 hx with hx | hx
        ·exact ⟨x, hx, hy⟩
        ·simp at hx; subst hx; rw [hn] at hy; cases hy
      ·intro x hx hy
       rcases List.mem_append.1 hx with hx | hx
       ·exact h2 x hx hy
       ·simp at hx; subst hx; rw [hn] at hy; cases hy
      ·intro h
       obtain ⟨x, hx, hy, hz⟩ := h3 h
       exact ⟨x, List.mem_append_left _ hx, hy, hz⟩
    | true =>
      rw [if_pos rfl]
      refine ⟨⟨fun _ => ⟨v, by simp, hn⟩, fun _ => rfl⟩, ?_, ?_, fun h => by cases h⟩
      ·intro x hx hy
       rcases List.mem_append.1 hx with hx | hx
       ·have := h2 x hx hy
        have hs := h1.2 ⟨x, hx, hy⟩
        simp only [hs, if_true]; omega
       ·simp at hx; subst hx
        split <;> simp only <;> omega
      ·intro _
       by_cases hs : (leastL r.reverse).2 = true
       ·obtain ⟨x, hx, hy, hz⟩ := h3 hs
        simp only [hs, if_true]
        rcases Int.le_total v.2.1 (leastL r.reverse).1 with h | h
        ·exact ⟨v, by simp, hn, by omega⟩
        ·exact ⟨x, List.mem_append_left _ hx, hy, by omega⟩
       ·exact ⟨v, by simp, hn, by simp [hs]⟩
 have := key l.reverse
 simpa using this
theorem fit_up {e e' : Int} {v : Val} (h : fitB e v = true) (h1 : e ≤ e') (h2 : e' ≤ v.2.1) : fitB e' v = true := by
 unfold fitB at h ⊢
 simp only [Bool.and_eq_true, decide_eq_true_eq] at h ⊢
 refine ⟨⟨h2, by omega⟩, Nat.lt_of_le_of_lt (Nat.mul_le_mul_left _ (Nat.pow_le_pow_right (by decide) ?_)) h.2⟩
 omega
theorem good_take {l : List Val} (h : goodL l = true) (k : Nat) : goodL (l.take k) = true := by
 unfold goodL at h ⊢
 simp only [Bool.and_eq_true, List.all_eq_true] at h ⊢
 refine ⟨fun v hv => h.1 v (List.mem_of_mem_take hv), fun v hv => ?_⟩
 have hv' := List.mem_of_mem_take hv
 have h2 := h.2 v hv'
 cases hn : numB v with
 | false => rfl
 | true =>
   rw [hn] at h2
   have h2 : fitB (leastL l).1 v = true := by simpa using h2
   have h3 := (least_spec (l.take k)).2.2.1 ((least_spec (l.take k)).1.2 ⟨v, hv, hn⟩)
   obtain ⟨x, hx, hy, hz⟩ := h3
   have h4 := (least_spec l).2.1 x (List.mem_of_mem_take hx) hy
   have h5 := (least_spec (l.take k)).2.1 v hv hn
   have := fit_up h2 (e' := (leastL (l.take k)).1) (by omega) h5
   simpa using this
theorem good_le {l : List Val} {j k : Nat} (h : goodL (l.take k) = true) (hjk : j ≤ k) : goodL (l.take j) = true := by
 have := good_take h j
 rwa [List.take_take, Nat.min_eq_left hjk] at this
theorem pack_is {l : List Val} {n : Nat} (hn : n ≤ l.length) (h1 : goodL (l.take n) = true) (h2 : n < l.length → goodL (l.take (n + 1)) = false) : packN l l.length = n := by
 have key : ∀ k, n ≤ k → k ≤ l.length → packN l k = n := by
  intro k
  induction k with
  | zero => intro h _; simp [packN]; omega
  | succ k ih =>
    intro h hk
    unfold packN
    by_cases e : n = k + 1
    ·subst e; rw [if_pos h1]
    ·have h3 := h2 (by omega)
     rw [if_neg, ih (by omega) (by omega)]
     intro h4
     rw [good_le h4 (by omega)] at h3; cases h3
 exact key _ hn (Nat.le_refl _)
theorem pack_good (l : List Val) : ∀ k, packN l k ≤ k ∧ goodL (l.take (packN l k)) = true
 | 0 => ⟨Nat.le_refl _, rfl⟩
 | k + 1 => by
   have ih := pack_good l k
   unfold packN
   split
   case isTrue h => exact ⟨Nat.le_refl _, h⟩
   case isFalse h => exact ⟨by omega, ih.2⟩
theorem good_one {v : Val} (h : rightB v = true) : goodL [v] = true := by
 unfold goodL
 simp only [List.all_cons, List.all_nil, Bool.and_true, Bool.and_eq_true]
 refine ⟨h, ?_⟩
 cases hn : numB v with
 | false => rfl
 | true =>
   have e : (leastL [v]).1 = v.2.1 := by unfold leastL leastS; simp [hn]
   rw [e]
   unfold fitB
   unfold rightB rightV at h
   unfold numB at hn
   simp only [Bool.and_eq_true, decide_eq_true_eq] at hn
   rw [if_neg (by simp [hn.1])] at h
   split at h
   ·cases h
   ·simp; omega
theorem pack_pos {l : List Val} (h : ∀ v ∈ l, rightB v = true) (hl : l ≠ []) : 1 ≤ packN l l.length := by
 have key : ∀ k, 1 ≤ k → 1 ≤ packN l k := by
  intro k
  induction k with
  | zero => intro h; omega
  | succ k ih =>
    intro _
    unfold packN
    split
    ·omega
    case isFalse hg =>
     by_cases hk : k = 0
     ·subst hk
      exfalso; apply hg
      cases l with
      | nil => exact absurd rfl hl
      | cons v l => simpa using good_one (h v List.mem_cons_self)
     ·exact ih (by omega)
 exact key _ (List.length_pos_iff.2 hl)
/-- A number of one exponent, as a value. -/
def unpack1 (e k : Int) : Option Val :=
 if k < 0 ∧ 1 ≤ k + 9223372036854775808 ∧ k + 9223372036854775808 ≤ 4 then some (0, 0, k + 9223372036854775808)
 else match cleanV k e with
  | some (a, b) => if -1000000000000000000 < k ∧ k < 1000000000000000000 then some (a, b, 0) else none
  | none => none
def unpackL (e : Int) : List Int → Option (List Val)
 | [] => some []
 | k :: l => match unpack1 e k, unpackL e l with
   | some v, some r => some (v :: r)
   | _, _ => none
def unpackV (m : List Int) (e : Int) : Option (List Val) := if e < -1000 ∨ 1000 < e then none else unpackL e m
theorem right_num {v : Val} (h : rightB v = true) (hn : numB v = true) : -1000000000000000 < v.1 ∧ v.1 < 1000000000000000 ∧ v.1 % 10 ≠ 0 ∧ v.1 ≠ 0 ∧ -300 ≤ v.2.1 ∧ v.2.1 ≤ 290 ∧ v.2.2 = 0 := by
 unfold rightB rightV at h
 unfold numB at hn
 simp only [Bool.and_eq_true, decide_eq_true_eq] at hn
 rw [if_neg (by simp [hn.1])] at h
 split at h
 ·cases h
 ·rw [if_neg hn.2] at h
  have := of_decide_eq_true h
  omega
theorem unpack_mant {v : Val} {e : Int} (h : rightB v = true) (he : numB v = true → fitB e v = true) (hb : -1000 ≤ e ∧ e ≤ 1000) : unpack1 e (mantV e v) = some v := by
 obtain ⟨m, x, s⟩ := v
 cases hn : numB (m, x, s) with
 | true =>
   obtain ⟨h1, h2, h3, h4, h5, h6, h7⟩ := right_num h hn
   simp only at h1 h2 h3 h4 h5 h6 h7
   subst h7
   have hf := he hn
   unfold fitB at hf
   simp only [Bool.and_eq_true, decide_eq_true_eq] at hf
   obtain ⟨⟨f1, f2⟩, f3⟩ := hf
   obtain ⟨d, hd⟩ : ∃ d, d = (x - e).toNat := ⟨_, rfl⟩
   rw [← hd] at f3
   have e1 : mantV e (m, x, 0) = m * 10 ^ d := by unfold mantV; simp [h4, hd]
   have e2 : (m * 10 ^ d).natAbs = m.natAbs * 10 ^ d := by rw [Int.natAbs_mul, Int.natAbs_pow]; rfl
   have e3 := strip_of d 20 m (by omega) h3
   have e4 : m * 10 ^ d ≠ 0 := by
    intro h0
    rw [h0] at e2
    have : 1 ≤ m.natAbs * 10 ^ d := Nat.mul_pos (by omega) (Nat.pow_pos (by decide))
    simp at e2; omega
   rw [e1]
   generalize m * 10 ^ d = k at *
   have hc : cleanV k e = some (m, x) := by
    unfold cleanV
    rw [if_neg (by omega), if_neg e4, e3]
    simp only
    have ex : e + (d : Int) = x := by omega
    rw [ex]
    exact if_pos h
   unfold unpack1
   rw [if_neg (by omega), hc]
   simp only
   rw [if_pos (by omega)]
 | false =>
   unfold numB at hn
   simp only [Bool.and_eq_false_iff, decide_eq_false_iff_not, Classical.not_not] at hn
   unfold rightB rightV at h
   by_cases hs : s = 0
   ·subst hs
    have hm : m = 0 := by rcases hn with hn | hn; exact absurd rfl hn; exact hn
    subst hm
    simp at h
    subst h
    unfold mantV unpack1 cleanV
    simp
    rw [if_neg (by omega)]
   ·rw [if_pos (by simpa using hs)] at h
    have h := of_decide_eq_true h
    simp only at h
    obtain ⟨h1, h2, rfl, rfl⟩ := h
    have e1 : mantV e (0, 0, s) = -9223372036854775808 + s := by unfold mantV; simp [hs]
    rw [e1]
    unfold unpack1
    rw [if_pos (by omega)]
    congr 2
    congr 1
    omega
theorem unpack_map {e : Int} (hb : -1000 ≤ e ∧ e ≤ 1000) : ∀ l : List Val, (∀ v ∈ l, rightB v = true ∧ (numB v = true → fitB e v = true)) → unpackL e (l.map (mantV e)) = some l
 | [], _ => rfl
 | v :: l, h => by
   have ih := unpack_map hb l (fun x hx => h x (List.mem_cons_of_mem _ hx))
   have h1 := h v List.mem_cons_self
   rw [List.map_cons, unpackL, unpack_mant h1.1 h1.2 hb, ih]
theorem good_has {l : List Val} (h : goodL l = true) : ∀ v ∈ l, rightB v = true ∧ (numB v = true → fitB (leastL l).1 v = true) := by
 unfold goodL at h
 simp only [Bool.and_eq_true, List.all_eq_true] at h
 intro v hv
 refine ⟨h.1 v hv, fun hn => ?_⟩
 have := h.2 v hv
 rw [hn] at this
 simpa using this
theorem least_in {l : List Val} (h : ∀ v ∈ l, rightB v = true) : -300 ≤ (leastL l).1 ∧ (leastL l).1 ≤ 290 := by
 by_cases hs : (leastL l).2 = true
 ·obtain ⟨x, hx, hy, hz⟩ := (least_spec l).2.2.1 hs
  have := right_num (h x hx) hy
  omega
 ·have := (least_spec l).2.2.2 (by simpa using hs)
  omega
theorem unpack_pack {l : List Val} (h : goodL l = true) : unpackV (l.map (mantV (leastL l).1)) (leastL l).1 = some l := by
 have h1 := good_has h
 have h2 := least_in (fun v hv => (h1 v hv).1)
 unfold unpackV
 rw [if_neg (by omega)]
 exact unpack_map (by omega) l h1
theorem mant_in {e : Int} {v : Val} (h : rightB v = true) (he : numB v = true → fitB e v = true) : In64 (mantV e v) := by
 obtain ⟨m, x, s⟩ := v
 cases hn : numB (m, x, s) with
 | true =>
   have h7 := (right_num h hn).2.2.2
   simp only at h7
   have hf := he hn
   unfold fitB at hf
   simp only [Bool.and_eq_true, decide_eq_true_eq] at hf
   obtain ⟨d, hd⟩ : ∃ d, d = (x - e).toNat := ⟨_, rfl⟩
   have e1 : mantV e (m, x, s) = m * 10 ^ d := by unfold mantV; simp [h7.1, h7.2.2.2, hd]
   have e2 : (m * 10 ^ d).natAbs = m.natAbs * 10 ^ d := by rw [Int.natAbs_mul, Int.natAbs_pow]; rfl
   rw [← hd] at hf
   rw [e1]
   generalize m * 10 ^ d = k at *
   unfold In64; omega
 | false =>
   unfold numB at hn
   simp only [Bool.and_eq_false_iff, decide_eq_false_iff_not, Classical.not_not] at hn
   unfold mantV
   simp only
   unfold rightB rightV at h
   by_cases hs : s = 0
   ·subst hs
    have hm : m = 0 := by rcases hn with hn | hn; exact absurd rfl hn; exact hn
    subst hm
    simp; exact ⟨by decide, by decide⟩
   ·rw [if_pos (by simpa using hs)] at h
    have h := of_decide_eq_true h
    simp only at h
    rw [if_pos hs]
    unfold In64; omega
end Go.Proofs.YtnkelahimiipjaaGreatDoor

/-
 As many values as go together: step by step. Values as cells.
-/
namespace Go.Proofs.YtnkelahimiipjaaGreatDoor
theorem good_iff {l : List Val} : goodL l = true ↔ (∀ v ∈ l, rightB v = true) ∧ ∀ v ∈ l, numB v = true → fitB (leastL l).1 v = true := by
 unfold goodL
 rw [Bool.and_eq_true, List.all_eq_true, List.all_eq_true]
 refine and_congr Iff.rfl (forall_congr' fun v => forall_congr' fun _ => ?_)
 cases numB v <;> simp
theorem least_plain {l : List Val} {v : Val} (hn : numB v = false) : leastL (l ++ [v]) = leastL l := by
 rw [least_snoc]; unfold leastS; rw [if_neg (by simp [hn])]
theorem least_num {l : List Val} {v : Val} (hn : numB v = true) : leastL (l ++ [v]) = (if (leastL l).2 then min v.2.1 (leastL l).1 else v.2.1, true) := by
 rw [least_snoc]; unfold leastS; rw [if_pos hn]
theorem good_plain {l : List Val} {v : Val} (hg : goodL l = true) (hr : rightB v = true) (hn : numB v = false) : goodL (l ++ [v]) = true := by
 rw [good_iff] at hg ⊢
 rw [least_plain hn]
 refine ⟨fun x hx => ?_, fun x hx hx2 => ?_⟩
 ·rcases List.mem_append.1 hx with hx | hx
  ·exact hg.1 x hx
  ·rw [List.mem_singleton] at hx; subst hx; exact hr
 ·rcases List.mem_append.1 hx with hx | hx
  ·exact hg.2 x hx hx2
  ·rw [List.mem_singleton] at hx; subst hx; rw [hn] at hx2; cases hx2
theorem good_num {l : List Val} {v : Val} (hg : goodL l = true) (hr : rightB v = true) (ha : ∀ x ∈ l ++ [v], numB x = true → fitB (leastL (l ++ [v])).1 x = true) : goodL (l ++ [v]) = true := by
 rw [good_iff] at hg ⊢
 refine ⟨fun x hx => ?_, ha⟩
 rcases List.mem_append.1 hx with hx | hx
 ·exact hg.1 x hx
 ·rw [List.mem_singleton] at hx; subst hx; exact hr
theorem bad_right {l : List Val} {v : Val} (hr : rightB v = false) : goodL (l ++ [v]) = false := by
 rw [← Bool.not_eq_true, good_iff]
 intro h
 rw [h.1 v (by simp)] at hr; cases hr
theorem bad_fit {l : List Val} {v x : Val} (hx : x ∈ l ++ [v]) (hn : numB x = true) (hf : fitB (leastL (l ++ [v])).1 x = false) : goodL (l ++ [v]) = false := by
 rw [← Bool.not_eq_true, good_iff]
 intro h
 rw [h.2 x hx hn] at hf; cases hf
def EV : Enc Val := ⟨3, fun v => [.int .i64 v.1, .int .i64 v.2.1, .int .i64 v.2.2], fun _ => rfl, fun x u hu => by
 simp at hu
 rcases hu with rfl | rfl | rfl <;> rfl, by decide⟩
theorem cellV {w : World} {b o : Nat} {v : Val} : CellG EV w b o v ↔ w.cell? ⟨b, o, none⟩ = some (.int .i64 v.1) ∧ w.cell? ⟨b, o + 1, none⟩ = some (.int .i64 v.2.1) ∧ w.cell? ⟨b, o + 2, none⟩ = some (.int .i64 v.2.2) := by
 constructor
 ·intro h
  exact ⟨by simpa [EV] using h 0 (by decide), by simpa [EV] using h 1 (by decide), by simpa [EV] using h 2 (by decide)⟩
 ·rintro ⟨h0, h1, h2⟩ j hj
  have hj : j < 3 := hj
  match j, hj with
  | 0, _ => simpa [EV] using h0
  | 1, _ => simpa [EV] using h1
  | 2, _ => simpa [EV] using h2
/-- What decimal.fits reckons. -/
theorem fits_tens {m : Nat} {d : Nat} (hd : d ≤ 18) : (m : Int) < (1000000000000000000 : Int) / ((10 ^ d : Nat) : Int) ↔ m * 10 ^ d < 1000000000000000000 := by
 have h : ∀ d, d ≤ 18 → (1000000000000000000 : Nat) / 10 ^ d * 10 ^ d = 1000000000000000000 := by decide
 have h1 := h d hd
 have hp : 0 < 10 ^ d := Nat.pow_pos (by decide)
 have e : (1000000000000000000 : Int) / ((10 ^ d : Nat) : Int) = ((1000000000000000000 / 10 ^ d : Nat) : Int) := by
  rw [Int.natCast_ediv]; rfl
 rw [e]
 constructor
 ·intro h2
  have h3 : m < 1000000000000000000 / 10 ^ d := by omega
  have := Nat.mul_lt_mul_of_pos_right h3 hp
  omega
 ·intro h2
  have h3 : m < 1000000000000000000 / 10 ^ d := by
   apply Classical.byContradiction
   intro h4
   have := Nat.mul_le_mul_right (10 ^ d) (Nat.le_of_not_lt h4)
   omega
  omega
end Go.Proofs.YtnkelahimiipjaaGreatDoor

/-
 Frames: a kind, a body, a sum.
-/
namespace Go.Proofs.YtnkelahimiipjaaGreatDoor
def halvesL : List Nat := [0x00000000, 0x1db71064, 0x3b6e20c8, 0x26d930ac, 0x76dc4190, 0x6b6b51f4, 0x4db26158, 0x5005713c, 0xedb88320, 0xf00f9344, 0xd6d6a3e8, 0xcb61b38c, 0x9b64c2b0, 0x86d3d2d4, 0xa00ae278, 0xbdbdf21c]
def halfS (r : Nat) : Nat := (r / 16) ^^^ (halvesL.getD (r % 16) 0)
def sumS (r c : Nat) : Nat := halfS (halfS (r ^^^ c))
def regV (b : List Nat) : Nat := b.foldl sumS 4294967295
def sumV (b : List Nat) : Nat := 4294967295 - regV b
theorem halves_lt (i : Nat) : halvesL.getD i 0 < 4294967296 := by
 by_cases h : i < 16
 ·have : ∀ i, i < 16 → halvesL.getD i 0 < 4294967296 := by decide
  exact this i h
 ·have : halvesL.getD i 0 = 0 := by
   rw [List.getD_eq_getElem?_getD, List.getElem?_eq_none (by simp [halvesL]; omega)]; rfl
  omega
theorem regV_snoc (b : List Nat) (c : Nat) : regV (b ++ [c]) = sumS (regV b) c := by unfold regV; rw [List.foldl_append]; rfl
def tail4 (s : Nat) : List Nat := [s / 16777216 % 256, s / 65536 % 256, s / 256 % 256, s % 256]
def sealV (b : List Nat) : List Nat := b ++ tail4 (sumV b)
def frameV (kind : Nat) (body : List Nat) : List Nat := sealV (kind :: (putV body.length ++ body))
theorem sealV_len (b : List Nat) : (sealV b).length = b.length + 4 := by unfold sealV tail4; simp
theorem frameV_len (k : Nat) (b : List Nat) : (frameV k b).length = 1 + (putV b.length).length + b.length + 4 := by
 unfold frameV; rw [sealV_len]; simp; omega
theorem tail4_byte (s : Nat) : ∀ c ∈ tail4 s, c < 256 := by
 intro c hc
 unfold tail4 at hc
 simp at hc
 omega
theorem frameV_byte {k : Nat} {b : List Nat} (hk : k < 256) (hb : ∀ c ∈ b, c < 256) : ∀ c ∈ frameV k b, c < 256 := by
 intro c hc
 unfold frameV sealV at hc
 rcases List.mem_append.1 hc with hc | hc
 ·rcases List.mem_cons.1 hc with rfl | hc
  ·exact hk
  ·rcases List.mem_append.1 hc with hc | hc
   ·exact putV_byte _ c hc
   ·exact hb c hc
 ·exact tail4_byte _ c hc
/-- The frame ahead: the error, the kind, the body, the rest. -/
def nextV (b : List Nat) : Int × Nat × List Nat × List Nat :=
 if b.length = 0 then (10, 0, [], [])
 else if (takeV (b.drop 1)).1 ≠ 0 then ((takeV (b.drop 1)).1, 0, [], [])
 else if 65535 < (takeV (b.drop 1)).2.1 then (11, 0, [], [])
 else if ((b.drop 1).drop (takeV (b.drop 1)).2.2).length < (takeV (b.drop 1)).2.1 + 4 then (10, 0, [], [])
 else if sealV (b.take (1 + (takeV (b.drop 1)).2.2 + (takeV (b.drop 1)).2.1)) = b.take (1 + (takeV (b.drop 1)).2.2 + (takeV (b.drop 1)).2.1 + 4) then
  (0, b.getD 0 0, ((b.drop 1).drop (takeV (b.drop 1)).2.2).take (takeV (b.drop 1)).2.1, ((b.drop 1).drop (takeV (b.drop 1)).2.2).drop ((takeV (b.drop 1)).2.1 + 4))
 else (50, 0, [], [])
theorem next_frame {k : Nat} {body : List Nat} (h : body.length ≤ 65535) (r : List Nat) : nextV (frameV k body ++ r) = (0, k, body, r) := by
 obtain ⟨t, ht⟩ : ∃ t, t = tail4 (sumV (k :: (putV body.length ++ body))) := ⟨_, rfl⟩
 have ht4 : t.length = 4 := by rw [ht]; rfl
 have e0 : frameV k body ++ r = k :: (putV body.length ++ (body ++ (t ++ r))) := by unfold frameV sealV; rw [← ht]; simp
 have e1 : (frameV k body ++ r).drop 1 = putV body.length ++ (body ++ (t ++ r)) := by rw [e0]; rfl
 have e2 := take_put (u := body.length) (by omega) (body ++ (t ++ r))
 have e3 : (frameV k body ++ r).take (1 + (putV body.length).length + body.length) = k :: (putV body.length ++ body) := by
  have : frameV k body ++ r = (k :: (putV body.length ++ body)) ++ (t ++ r) := by rw [e0]; simp
  rw [this, List.take_left' (by simp; omega)]
 have e4 : (frameV k body ++ r).take (1 + (putV body.length).length + body.length + 4) = sealV (k :: (putV body.length ++ body)) := by
  have : frameV k body ++ r = (sealV (k :: (putV body.length ++ body))) ++ r := rfl
  rw [this, List.take_left' (by rw [sealV_len]; simp; omega)]
 have e5 : (frameV k body ++ r).getD 0 0 = k := by rw [e0]; rfl
 have e6 : (frameV k body ++ r).length ≠ 0 := by rw [e0]; simp
 unfold nextV
 rw [if_neg e6, e1, e2]
 simp only [ne_eq, not_true, if_false]
 rw [if_neg (by omega), List.drop_left' rfl, if_neg (by simp only [List.length_append, ht4]; omega), e3, e4, if_pos rfl, e5, List.take_left' rfl]
 have : (body ++ (t ++ r)).drop (body.length + 4) = r := by
  rw [← List.append_assoc, List.drop_left' (by simp [ht4])]
 rw [this]
end Go.Proofs.YtnkelahimiipjaaGreatDoor

/-
 Blocks that lie one behind the other: of those up to a tick, and from the next one on, one at the most is both.
-/
namespace Go.Proofs.YtnkelahimiipjaaGreatDoor
end Go.Proofs.YtnkelahimiipjaaGreatDoor

/-
 Rows of bytes, of numbers; a row that grows.
-/
namespace Go.Proofs.YtnkelahimiipjaaGreatDoor
open Go.RowKit
def EB : Enc Nat := ⟨1, fun n => [.int .u8 (n : Int)], fun _ => rfl, fun x u hu => by simp at hu; subst hu; rfl, by decide⟩
def EI : Enc Int := ⟨1, fun n => [.int .i64 n], fun _ => rfl, fun x u hu => by simp at hu; subst hu; rfl, by decide⟩
theorem cellB {w : World} {b o : Nat} {n : Nat} : CellG EB w b o n ↔ w.cell? ⟨b, o, none⟩ = some (.int .u8 (n : Int)) := by
 constructor
 ·intro h; simpa [EB] using h 0 (by decide)
 ·intro h j hj
  obtain rfl : j = 0 := by have : j < 1 := hj; omega
  simpa [EB] using h
theorem cellI {w : World} {b o : Nat} {n : Int} : CellG EI w b o n ↔ w.cell? ⟨b, o, none⟩ = some (.int .i64 n) := by
 constructor
 ·intro h; simpa [EI] using h 0 (by decide)
 ·intro h j hj
  obtain rfl : j = 0 := by have : j < 1 := hj; omega
  simpa [EI] using h
theorem info_b : (Tryz.prog.info? 5).map (fun i => (i.zero, i.size, i.bytes)) = some (some (.int .u8 0), 1, 1) := by kernel_rfl
theorem info_i : (Tryz.prog.info? 2).map (fun i => (i.zero, i.size, i.bytes)) = some (some (.int .i64 0), 1, 8) := by kernel_rfl
section
variable {α : Type} {E : Enc α} {ty : TypeId} {base : Nat} {w0 w w' : World} {v0 v v' : Value} {l l' : List α}
/-- A row that the call grows: its own; all else of the world at the beginning stays. -/
structure Grw (E : Enc α) (ty : TypeId) (base : Nat) (w0 : World) (v0 : Value) (w : World) (v : Value) (l : List α) : Prop where
 own : OwnG E ty w base v l
 by_ : w0.grownBy w v0.ownBlock
 loc : v.ownBlock = v0.ownBlock ∨ ∃ k, v.ownBlock = some k ∧ w0.heap.size ≤ k
theorem Grw.start (h : OwnG E ty w base v l) : Grw E ty base w v w v l := ⟨h, ⟨rfl, rfl, rfl, Nat.le_refl _, fun _ _ _ => rfl⟩, .inl rfl⟩
theorem Grw.push (h : Grw E ty base w0 v0 w v l) (hown : OwnG E ty w' base v' l') (hg : w.grownBy w' v.ownBlock) (hl : v'.ownBlock = v.ownBlock ∨ v'.ownBlock = some w.heap.size) : Grw E ty base w0 v0 w' v' l' := by
 have hs := h.by_.size
 refine ⟨hown, ⟨hg.os.trans h.by_.os, hg.tape.trans h.by_.tape, hg.output.trans h.by_.output, Nat.le_trans hs hg.size, fun k hk hne => ?_⟩, ?_⟩
 ·refine (hg.block k (Nat.lt_of_lt_of_le hk hs) ?_).trans (h.by_.block k hk hne)
  rcases h.loc with e | ⟨j, e, hj⟩
  ·rw [e]; exact hne
  ·rw [e]; intro e2; injection e2 with e2; omega
 ·rcases hl with e | e
  ·rw [e]; exact h.loc
  ·exact .inr ⟨_, e, hs⟩
theorem Grw.on (h : Grw E ty base w0 v0 w v l) (k : Below w.heap.size w w') : Grw E ty base w0 v0 w' v l :=
 ⟨h.own.below k, ⟨k.os.trans h.by_.os, k.tape.trans h.by_.tape, k.output.trans h.by_.output, Nat.le_trans h.by_.size k.size, fun i hi hne => (k.block i (Nat.lt_of_lt_of_le hi h.by_.size)).trans (h.by_.block i hi hne)⟩, h.loc⟩
end
end Go.Proofs.YtnkelahimiipjaaGreatDoor

/-
 varint: put, Put.
-/
namespace Go.Proofs.YtnkelahimiipjaaGreatDoor
open Go.RowKit Go.Sort
set_option maxRecDepth 100000 in
set_option maxHeartbeats 4000000 in
theorem vput_walk (v : Value) (l : List Nat) (u base : Nat) (W : World) (h : OwnG EB 5 W base v l) (hb : base ≤ W.heap.size) (hu : u < 18446744073709551616) (hl : l.length ≤ 1000000) :
  Calls Tryz.prog 65 #[v, .int .u64 (u : Int)] W fun e w' => ∃ v', e = .returned v' ∧ Grw EB 5 base W v w' v' (l ++ putV u) := by
 have HG := Lib.hid (Grw.start h)
 have hp := put_len 9 u (by omega)
 have HL : Hid (l.length + (putV u).length ≤ 1000010) := by show _ ≤ _; omega
 have HB := Lib.hid hb
 clear h hb hp hl
 go_enter Tryz.func65, Tryz.ntmps65
 go_wp2_with fail
 go_loopw [0, 1] (fun bv uv wl => ∃ (k : Nat) (l' : List Nat), uv = .int .u64 (k : Int) ∧ k < 18446744073709551616 ∧ Hid (Grw EB 5 base W v wl bv l') ∧ Hid (l' ++ putV k = l ++ putV u))
  (fun _ uv _ => (intOf uv).toNat)
 case atStart => exact ⟨u, l, rfl, hu, HG.out, rfl⟩
 case round =>
  obtain ⟨k, l', rfl, hk, HG, HT⟩ := hrel
  have hlen : l'.length + (putV k).length ≤ 1000010 := by
   have := congrArg List.length HT.out
   rw [List.length_append, List.length_append] at this
   have := HL.out
   omega
  have hlp := putV_pos k
  by_cases hlt : 128 ≤ k
  ·have i1 : (k : Int) ≥ 128 := by omega
   have HC : Hid ((#[.int .u8 (bits .or .u8 ((k : Int) % 256) 128)] : Array Value).toList = EB.enc (k % 128 + 128)) := by
    show [Value.int .u8 (bits .or .u8 ((k : Int) % 256) 128)] = [Value.int .u8 ((k % 128 + 128 : Nat) : Int)]
    have e := u8_or_nat (k % 256) 128 (Nat.mod_lt _ (by decide)) (by decide)
    rw [or128] at e
    have e2 : ((k % 256 : Nat) : Int) = (k : Int) % 256 := by omega
    rw [e2] at e
    rw [← e]; rfl
   have HT2 : Hid ((l' ++ [k % 128 + 128]) ++ putV (k / 128) = l ++ putV u) := by
    show _ = _
    rw [← HT.out, putV_more hlt, List.append_assoc]; rfl
   have hl1 : (l'.length + 1) * 1 ≤ 140737488355328 := by omega
   have HW : Hid (base ≤ (wr.alloc (.cells #[.int .u8 (bits .or .u8 ((k : Int) % 256) 128)] 5)).heap.size) := by
    have := HG.out.by_.size
    have := HB.out
    show _ ≤ _
    simp; omega
   clear hlen hlp
   go_wp2_with (first | (at_builtin; refine app1G EB rfl _ _ 23 5 rfl Tryz.underlying23 info_b rfl (by decide) base _ l' (k % 128 + 128) rfl (HG.out.own.alloc _) wr.heap.size 0 1 rfl (CellG.mk HC.out _) hl1 HW.out ?_) | fail)
   intro v' w' hown hg hloc
   have HG2 := Lib.hid ((HG.out.on ((Below.refl _ _).alloc (Nat.le_refl _) _)).push hown hg (by rw [World.size_alloc]; exact hloc))
   clear hown hg hloc
   go_wp2_with fail
   go_roundw
   case rel => exact ⟨k / 128, l' ++ [k % 128 + 128], by first | rfl | simp, by omega, HG2.out, HT2.out⟩
   case measure => simp [intOf]; omega
  ·have i1 : ¬ (k : Int) ≥ 128 := by omega
   have HC : Hid ((#[.int .u8 (k : Int)] : Array Value).toList = EB.enc k) := rfl
   have HT2 : Hid (l' ++ [k] = l ++ putV u) := by
    show _ = _
    rw [← HT.out, putV_low (by omega)]
   have hl1 : (l'.length + 1) * 1 ≤ 140737488355328 := by omega
   have HW : Hid (base ≤ (wr.alloc (.cells #[.int .u8 (k : Int)] 5)).heap.size) := by
    have := HG.out.by_.size
    have := HB.out
    show _ ≤ _
    simp; omega
   clear hlen hlp
   go_wp2_with (first | (at_builtin; refine app1G EB rfl _ _ 23 5 rfl Tryz.underlying23 info_b rfl (by decide) base _ l' k rfl (HG.out.own.alloc _) wr.heap.size 0 1 rfl (CellG.mk HC.out _) hl1 HW.out ?_) | fail)
   intro v' w' hown hg hloc
   have HG2 := Lib.hid ((HG.out.on ((Below.refl _ _).alloc (Nat.le_refl _) _)).push hown hg (by rw [World.size_alloc]; exact hloc))
   clear hown hg hloc
   go_wp2_with fail
   go_ret
   exact ⟨_, rfl, by rw [← HT2.out]; exact HG2.out⟩
end Go.Proofs.YtnkelahimiipjaaGreatDoor

/-
 varint: Put; copies of rows of bytes, of numbers; numbers with a sign.
-/
namespace Go.Proofs.YtnkelahimiipjaaGreatDoor
open Go.RowKit Go.Sort
set_option maxRecDepth 100000 in
set_option maxHeartbeats 2000000 in
theorem bclone_walk (v : Value) (l : List Nat) (W : World) (hR : RdG EB W W.heap.size v l) (hl : l.length ≤ 140737488355328) :
  Calls Tryz.prog 66 #[v] W fun e w' => ∃ v', e = .returned v' ∧ OwnG EB 5 w' W.heap.size v' l ∧ Below W.heap.size W w' := by
 have q22 : ∀ (w : World) (a : Option Addr) (n c n' c' : Nat), (binOp .eql 23 (.slice a n c) (.slice none n' c')).run Tryz.prog w = .ok (.bool a.isNone) w := fun w a n c n' c' => Lib.run_eql_slice_nil w _ _ a n c n' c' Tryz.underlying23
 have HR := Lib.hid hR
 obtain ⟨A, c, rfl, hc, hn0, hA⟩ := hR
 cases A with
 | none =>
   have hc0 := hn0 rfl
   subst hc0
   have hl2 : l = [] := List.eq_nil_of_length_eq_zero (by omega)
   subst hl2
   go_enter Tryz.func66, Tryz.ntmps66
   go_wp2_with fail
   go_ret
   exact ⟨_, rfl, OwnG.nil _ _, Below.refl _ _⟩
 | some ad =>
   have HL := Lib.hid hl
   have hO : OwnG EB 5 (W.alloc (.cells #[] 5)) W.heap.size (.slice (some ⟨W.heap.size, 0, none⟩) 0 0) [] := World.ownsRow_made W #[] 0 (Nat.le_refl _) (Nat.zero_le _) rfl
   have HO := Lib.hid hO
   clear hA hn0 hO hl
   go_enter Tryz.func66, Tryz.ntmps66
   go_wp2_with (first | (at_builtin; refine appNG EB rfl _ _ 23 5 rfl Tryz.underlying23 info_b rfl (by decide) W.heap.size _ [] _ l W.heap.size rfl HO.out rfl (HR.out.below ((Ext.refl W).alloc _).below) ?c1 ?c2 ?_) | fail)
   case c1 => have := HL.out; simp; omega
   case c2 => simp
   ·intro v' w3 hown hg hloc
    go_wp2_with fail
    go_ret
    exact ⟨_, rfl, hown, ((Below.refl W.heap.size W).alloc (Nat.le_refl _) _).grown hg (by simp) (by intro k hk; simp [Value.ownBlock] at hk; omega)⟩
set_option maxRecDepth 100000 in
set_option maxHeartbeats 2000000 in
theorem vPut_walk (v : Value) (l : List Nat) (u : Nat) (W : World) (hR : RdG EB W W.heap.size v l) (hu : u < 18446744073709551616) (hl : l.length ≤ 1000000) :
  Calls Tryz.prog 35 #[v, .int .u64 (u : Int)] W fun e w' => ∃ v', e = .returned v' ∧ OwnG EB 5 w' W.heap.size v' (l ++ putV u) ∧ Below W.heap.size W w' := by
 have KC := Lib.hid (bclone_walk v l W hR (by omega))
 have HU := Lib.hid hu
 have HL := Lib.hid hl
 obtain ⟨A, c, rfl, _, _, _⟩ := hR
 clear hu hl
 go_enter Tryz.func35, Tryz.ntmps35
 go_wp2_with fail
 refine KC.out.mono ?_
 rintro e w1 ⟨v1, rfl, hO, hB⟩
 have KP := Lib.hid (vput_walk v1 l u W.heap.size w1 hO hB.size HU.out HL.out)
 have HB := Lib.hid hB
 have HO := Lib.hid hO
 clear hO hB KC
 go_wp2_with fail
 refine KP.out.mono ?_
 rintro e w2 ⟨v2, rfl, hG⟩
 have HG := Lib.hid hG
 clear hG KP
 go_wp2_with fail
 go_ret
 exact ⟨_, rfl, HG.out.own, HO.out.step HB.out HB.out.size HG.out.by_⟩
end Go.Proofs.YtnkelahimiipjaaGreatDoor
