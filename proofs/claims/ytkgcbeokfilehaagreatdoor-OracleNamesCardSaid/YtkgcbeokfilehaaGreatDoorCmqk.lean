import Derived.Test.YtkgcbeokfilehaaGreatDoorBik
import Derived.Deep.RegionHeld3
namespace Go.Proofs.YtkgcbeokfilehaaGreatDoor
open Go.RowKit Go.Sort

def cmpI (a b : Int) : Int := if a < b then -1 else if b < a then 1 else 0
/-- A sample: its tick, and its value's three numbers. -/
abbrev Smp := Int × Int × Int × Int
def Smp.bits (a : Smp) : Nat := bitsV a.2.1 a.2.2.1 a.2.2.2
def cmpV (a b : Smp) : Int := cmpI (Smp.bits a) (Smp.bits b)
def orI (a b : Int) : Int := if a ≠ 0 then a else b
def cmpS (a b : Smp) : Int := orI (cmpI a.1 b.1) (cmpV a b)
def encS (a : Smp) : List Value := [.int .i64 a.1, .int .i64 a.2.1, .int .i64 a.2.2.1, .int .i64 a.2.2.2]

set_option maxHeartbeats 400000 in
theorem cmp64_walk (a b : Int) (w : World) : Calls Tryz.prog 127 #[.int .i64 a, .int .i64 b] w fun e w' => e = .returned (.int .i64 (cmpI a b)) ∧ w = w' := by
  rcases Int.lt_trichotomy a b with h | rfl | h
  · have h1 : decide (a < b) = true := by simp [h]
    have hv : Hid (cmpI a b = -1) := by show cmpI a b = -1; unfold cmpI; rw [if_pos h]
    go_enter Tryz.func127, Tryz.ntmps127
    go_wp2
    go_ret
    exact ⟨ret_int hv.out.symm, rfl⟩
  · have hv : Hid (cmpI a a = 0) := by show cmpI a a = 0; unfold cmpI; simp
    go_enter Tryz.func127, Tryz.ntmps127
    go_wp2
    go_ret
    exact ⟨ret_int hv.out.symm, rfl⟩
  · have h1 : ¬ a < b := by omega
    have hv : Hid (cmpI a b = 1) := by show cmpI a b = 1; unfold cmpI; rw [if_neg h1, if_pos h]
    go_enter Tryz.func127, Tryz.ntmps127
    go_wp2
    go_ret
    exact ⟨ret_int hv.out.symm, rfl⟩
set_option maxHeartbeats 400000 in
theorem cmpu64_walk (a b : Int) (w : World) : Calls Tryz.prog 163 #[.int .u64 a, .int .u64 b] w fun e w' => e = .returned (.int .i64 (cmpI a b)) ∧ w = w' := by
  rcases Int.lt_trichotomy a b with h | rfl | h
  · have h1 : decide (a < b) = true := by simp [h]
    have hv : Hid (cmpI a b = -1) := by show cmpI a b = -1; unfold cmpI; rw [if_pos h]
    go_enter Tryz.func163, Tryz.ntmps163
    go_wp2
    go_ret
    exact ⟨ret_int hv.out.symm, rfl⟩
  · have hv : Hid (cmpI a a = 0) := by show cmpI a a = 0; unfold cmpI; simp
    go_enter Tryz.func163, Tryz.ntmps163
    go_wp2
    go_ret
    exact ⟨ret_int hv.out.symm, rfl⟩
  · have h1 : ¬ a < b := by omega
    have hv : Hid (cmpI a b = 1) := by show cmpI a b = 1; unfold cmpI; rw [if_neg h1, if_pos h]
    go_enter Tryz.func163, Tryz.ntmps163
    go_wp2
    go_ret
    exact ⟨ret_int hv.out.symm, rfl⟩
set_option maxHeartbeats 400000 in
/-- cmp.Or of two numbers. -/
theorem or_walk (a b : Int) (k c : Nat) (w : World) (h0 : w.cell? ⟨k, 0, none⟩ = some (.int .i64 a)) (h1 : w.cell? ⟨k, 1, none⟩ = some (.int .i64 b)) :
    Calls Tryz.prog 77 #[.slice (some ⟨k, 0, none⟩) 2 c] w fun e w' => e = .returned (.int .i64 (orI a b)) ∧ w = w' := by
  unfold orI
  by_cases ha : a = 0
  · subst ha
    by_cases hb : b = 0
    · subst hb
      go_enter Tryz.func77, Tryz.ntmps77
      go_wp2
      refine wp_loop_rounds 3 ?_
      rw [rounds_succ]
      go_wp2
      rw [rounds_succ]
      go_wp2
      rw [rounds_succ]
      go_wp2
      go_ret
      exact ⟨rfl, rfl⟩
    · have hb' : (b != 0) = true := by simp [hb]
      go_enter Tryz.func77, Tryz.ntmps77
      go_wp2
      refine wp_loop_rounds 3 ?_
      rw [rounds_succ]
      go_wp2
      rw [rounds_succ]
      go_wp2
      go_ret
      exact ⟨rfl, rfl⟩
  · have ha' : (a != 0) = true := by simp [ha]
    rw [if_pos ha]
    go_enter Tryz.func77, Tryz.ntmps77
    go_wp2
    refine wp_loop_rounds 3 ?_
    rw [rounds_succ]
    go_wp2
    go_ret
    exact ⟨rfl, rfl⟩

set_option maxHeartbeats 400000 in
theorem fcmp_walk (a b : Smp) (w : World) (T : Tabs w) :
    Calls Tryz.prog 128 #[.agg #[.int .i64 a.2.1, .int .i64 a.2.2.1, .int .i64 a.2.2.2], .agg #[.int .i64 b.2.1, .int .i64 b.2.2.1, .int .i64 b.2.2.2]] w fun e w' => e = .returned (.int .i64 (cmpV a b)) ∧ Ext w w' := by
  obtain ⟨at_, am, ax, as_⟩ := a
  obtain ⟨bt, bm, bx, bs⟩ := b
  unfold cmpV Smp.bits
  obtain ⟨u, hu⟩ : ∃ u, u = bitsV am ax as_ := ⟨_, rfl⟩
  obtain ⟨v, hv⟩ : ∃ v, v = bitsV bm bx bs := ⟨_, rfl⟩
  have B1 : ∀ w, Tabs w → Calls Tryz.prog 162 #[.agg #[.int .i64 am, .int .i64 ax, .int .i64 as_]] w fun e w' => e = .returned (.tuple #[.int .u64 u, .int .i64 (errV am ax as_)]) ∧ Ext w w' := fun w T => by rw [hu]; exact bits_walk am ax as_ w T
  have B2 : ∀ w, Tabs w → Calls Tryz.prog 162 #[.agg #[.int .i64 bm, .int .i64 bx, .int .i64 bs]] w fun e w' => e = .returned (.tuple #[.int .u64 v, .int .i64 (errV bm bx bs)]) ∧ Ext w w' := fun w T => by rw [hv]; exact bits_walk bm bx bs w T
  simp only
  rw [← hu, ← hv]
  have K1 := Lib.hid B1
  have K2 := Lib.hid B2
  clear hu hv B1 B2
  have hs0 : w.heap.size < w.heap.size + 1 + 1 := by omega
  have hs1 : w.heap.size + 1 < w.heap.size + 1 + 1 := by omega
  go_enter Tryz.func128, Tryz.ntmps128
  go_wp2_with fail
  refine (K1.out _ (T.ext (((Ext.refl w).alloc _).alloc _))).mono ?_; rintro e w1 ⟨rfl, hE1⟩
  have hc0 : w1.cell? ⟨w.heap.size + 1, 0, none⟩ = some (.int .i64 bm) := hE1.cell_some (by simp)
  have hc1 : w1.cell? ⟨w.heap.size + 1, 1, none⟩ = some (.int .i64 bx) := hE1.cell_some (by simp)
  have hc2 : w1.cell? ⟨w.heap.size + 1, 2, none⟩ = some (.int .i64 bs) := hE1.cell_some (by simp)
  have hE : Ext w w1 := (((Ext.refl w).alloc _).alloc _).trans hE1
  go_wp2_with fail
  refine (K2.out _ (T.ext hE)).mono ?_; rintro e w2 ⟨rfl, hE2⟩
  go_wp2_with fail
  refine (cmpu64_walk _ _ _).mono ?_; rintro e w3 ⟨rfl, rfl⟩
  go_wp2_with fail
  go_ret
  exact ⟨rfl, hE.trans hE2⟩
end Go.Proofs.YtkgcbeokfilehaaGreatDoor

namespace Go.Proofs.YtkgcbeokfilehaaGreatDoor
open Go.RowKit Go.Sort

def vS (a : Smp) : Value := .agg #[.int .i64 a.1, .int .i64 a.2.1, .int .i64 a.2.2.1, .int .i64 a.2.2.2]

theorem new_cell (w : World) (cs : Array Value) (t : TypeId) (i : Nat) : (w.alloc (.cells cs t)).cell? ⟨w.heap.size, i, none⟩ = cs[i]? := by
  unfold World.cell?; rw [heap_alloc_new]; rfl
set_option maxRecDepth 100000 in
set_option maxHeartbeats 1000000 in
theorem scmp_walk (a b : Smp) (w : World) (T : Tabs w) :
    Calls Tryz.prog 93 #[vS a, vS b] w fun e w' => e = .returned (.int .i64 (cmpS a b)) ∧ Ext w w' := by
  obtain ⟨at_, am, ax, as_⟩ := a
  obtain ⟨bt, bm, bx, bs⟩ := b
  have KF : ∀ W, Tabs W → Calls Tryz.prog 128 #[.agg #[.int .i64 am, .int .i64 ax, .int .i64 as_], .agg #[.int .i64 bm, .int .i64 bx, .int .i64 bs]] W fun e w' => e = .returned (.int .i64 (cmpV (at_, am, ax, as_) (bt, bm, bx, bs))) ∧ Ext W w' := fun W T => fcmp_walk (at_, am, ax, as_) (bt, bm, bx, bs) W T
  obtain ⟨v, hv⟩ : ∃ v, v = cmpV (at_, am, ax, as_) (bt, bm, bx, bs) := ⟨_, rfl⟩
  have hfin : Hid (cmpS (at_, am, ax, as_) (bt, bm, bx, bs) = orI (cmpI at_ bt) v) := by rw [hv]; rfl
  rw [hfin.out]
  rw [← hv] at KF
  have K := Lib.hid KF
  clear KF hv hfin
  obtain ⟨u, hu⟩ : ∃ u, u = cmpI at_ bt := ⟨_, rfl⟩
  have K2 : Hid (∀ W, Calls Tryz.prog 127 #[.int .i64 at_, .int .i64 bt] W fun e w' => e = .returned (.int .i64 u) ∧ W = w') := fun W => by rw [hu]; exact cmp64_walk at_ bt W
  rw [← hu]
  clear hu
  unfold vS
  have hs1 : w.heap.size + 1 < w.heap.size + 1 + 1 := by omega
  go_enter Tryz.func93, Tryz.ntmps93
  go_wp2_with fail
  obtain ⟨w1, hw1⟩ : ∃ w1, w1 = (w.alloc (.cells #[.int .i64 at_, .int .i64 am, .int .i64 ax, .int .i64 as_] 138)).alloc (.cells #[.int .i64 bt, .int .i64 bm, .int .i64 bx, .int .i64 bs] 138) := ⟨_, rfl⟩
  rw [← hw1]
  have a0 : w1.cell? ⟨w.heap.size, 0, none⟩ = some (.int .i64 at_) := by rw [hw1]; simp
  have a1 : w1.cell? ⟨w.heap.size, 1, none⟩ = some (.int .i64 am) := by rw [hw1]; simp
  have a2 : w1.cell? ⟨w.heap.size, 2, none⟩ = some (.int .i64 ax) := by rw [hw1]; simp
  have a3 : w1.cell? ⟨w.heap.size, 3, none⟩ = some (.int .i64 as_) := by rw [hw1]; simp
  have b0 : w1.cell? ⟨w.heap.size + 1, 0, none⟩ = some (.int .i64 bt) := by rw [hw1]; simp
  have b1 : w1.cell? ⟨w.heap.size + 1, 1, none⟩ = some (.int .i64 bm) := by rw [hw1]; simp
  have b2 : w1.cell? ⟨w.heap.size + 1, 2, none⟩ = some (.int .i64 bx) := by rw [hw1]; simp
  have b3 : w1.cell? ⟨w.heap.size + 1, 3, none⟩ = some (.int .i64 bs) := by rw [hw1]; simp
  have hE : Ext w w1 := by rw [hw1]; exact ((Ext.refl w).alloc _).alloc _
  have hT : Tabs w1 := T.ext hE
  clear hw1
  go_region_held3 (fun w' => w'.cell? ⟨w.heap.size, 0, none⟩ = some (.int .i64 at_) ∧ w'.cell? ⟨w.heap.size, 1, none⟩ = some (.int .i64 am) ∧ w'.cell? ⟨w.heap.size, 2, none⟩ = some (.int .i64 ax) ∧ w'.cell? ⟨w.heap.size, 3, none⟩ = some (.int .i64 as_) ∧ w'.cell? ⟨w.heap.size + 1, 0, none⟩ = some (.int .i64 bt) ∧ w'.cell? ⟨w.heap.size + 1, 1, none⟩ = some (.int .i64 bm) ∧ w'.cell? ⟨w.heap.size + 1, 2, none⟩ = some (.int .i64 bx) ∧ w'.cell? ⟨w.heap.size + 1, 3, none⟩ = some (.int .i64 bs) ∧ Ext w w' ∧ Tabs w')
    (refine ⟨?_, ?_, ?_, ?_, ?_, ?_, ?_, ?_, ?_, ?_⟩ <;> first | assumption | exact Ext.drew (by assumption) | exact Tabs.drew (by assumption) | exact Ext.cell_some (by assumption) (by assumption) | exact Ext.trans (Ext.drew (by assumption)) (by assumption) | exact Ext.trans (by assumption) (by assumption) | exact Tabs.ext (Tabs.drew (by assumption)) (by assumption) | exact Tabs.ext (by assumption) (by assumption) | exact Ext.cell_some (Ext.alloc (Ext.refl _) _) (by assumption) | exact Ext.alloc (by assumption) _ | exact Tabs.ext (by assumption) (Ext.alloc (Ext.refl _) _))
    (first | (go_at_call 127; refine (K2.out _).mono ?_; rintro e w' ⟨rfl, rfl⟩) | (go_at_call 128; refine (K.out _ ?_).mono ?_; (first | assumption | exact Tabs.drew (by assumption)); rintro e w' ⟨rfl, hE'⟩; have hX' := Ext.trans (Ext.drew hE) hE'; have hT' := Tabs.ext (Tabs.drew hT) hE'; have a0' := Ext.cell_some hE' a0; have a1' := Ext.cell_some hE' a1; have a2' := Ext.cell_some hE' a2; have a3' := Ext.cell_some hE' a3; have b0' := Ext.cell_some hE' b0; have b1' := Ext.cell_some hE' b1; have b2' := Ext.cell_some hE' b2; have b3' := Ext.cell_some hE' b3) | (go_at_call 77; refine (or_walk u v w'.heap.size 2 _ (new_cell _ _ _ 0) (new_cell _ _ _ 1)).mono ?_; rintro e w3 ⟨rfl, rfl⟩))
  go_wp2_with fail
  go_ret
  exact ⟨rfl, hX'.alloc _⟩
end Go.Proofs.YtkgcbeokfilehaaGreatDoor

namespace Go.Proofs.YtkgcbeokfilehaaGreatDoor
open Go.RowKit Go.Sort

/-- May a sample be? -/
def rightS (a : Smp) : Bool := decide (0 ≤ a.1 ∧ a.1 ≤ 1099511627776) && rightV a.2.1 a.2.2.1 a.2.2.2

theorem Tabs.below {w w' : World} (h : Tabs w) (k : Below w.heap.size w w') : Tabs w' := by
  obtain ⟨pb, po, pc, h1, h2⟩ := h.pow
  have kc : ∀ {b o v}, w.cell? ⟨b, o, none⟩ = some v → w'.cell? ⟨b, o, none⟩ = some v := fun hc => (k.cell (lt_of_cell hc)).trans hc
  exact ⟨kc h.info, kc h.opt, ⟨pb, po, pc, kc h1, fun i hi => kc (h2 i hi)⟩, fun P hP => kc (h.hi P hP), fun P hP => kc (h.lo P hP),
    var?_below k gU64 (Nat.lt_of_lt_of_le (by decide) (Nat.le_of_lt h.size)) h.u64⟩

set_option maxHeartbeats 400000 in
theorem dright_walk (a : Smp) (w : World) :
    Calls Tryz.prog 51 #[vS a] w fun e w' => e = .returned (.bool (rightS a)) ∧ Ext w w' := by
  obtain ⟨t, m, x, s⟩ := a
  unfold vS rightS
  simp only
  obtain ⟨v, hv⟩ : ∃ v, v = rightV m x s := ⟨_, rfl⟩
  have KR : ∀ W, Calls Tryz.prog 82 #[.agg #[.int .i64 m, .int .i64 x, .int .i64 s]] W fun e w' => e = .returned (.bool v) ∧ Ext W w' := fun W => by rw [hv]; exact fright_walk m x s W
  rw [← hv]
  have K := Lib.hid KR
  clear KR hv
  by_cases h : 0 ≤ t ∧ t ≤ 1099511627776
  · have hd : Hid ((decide (0 ≤ t ∧ t ≤ 1099511627776) && v) = v) := by show _ = _; simp [h]
    obtain ⟨h1, h2⟩ := h
    rw [hd.out]
    have g1 : decide (0 ≤ t) = true := by simp [h1]
    have g2 : decide (t ≤ 1099511627776) = true := by simp [h2]
    go_enter Tryz.func51, Tryz.ntmps51
    go_wp2_with fail
    refine (K.out _).mono ?_; rintro e w1 ⟨rfl, hE1⟩
    go_wp2_with fail
    go_ret
    exact ⟨ret_bool (by simp), ((Ext.refl w).alloc _).trans hE1⟩
  · have hd : Hid ((decide (0 ≤ t ∧ t ≤ 1099511627776) && v) = false) := by show _ = _; simp only [h, decide_false, Bool.false_and]
    rw [hd.out]
    by_cases h1 : 0 ≤ t
    · have g1 : decide (0 ≤ t) = true := by simp [h1]
      have h2 : 1099511627776 < t := by omega
      go_enter Tryz.func51, Tryz.ntmps51
      go_wp2_with fail
      go_ret
      exact ⟨rfl, (Ext.refl w).alloc _⟩
    · have g1 : decide (0 ≤ t) = false := by simp; omega
      have h2 : t < 0 := by omega
      go_enter Tryz.func51, Tryz.ntmps51
      go_wp2_with fail
      go_ret
      exact ⟨rfl, (Ext.refl w).alloc _⟩

/-- The length of an interval, put into its bounds; the interval in which a tick lies. -/
def ivN (d : Int) : Int := if d < 1 then 1 else if 1073741824 < d then 1073741824 else d
def ivT (t : Int) : Int := if t < 0 then 0 else if 4611686018427387904 < t then 4611686018427387904 else t
def ivl (t d : Int) : Int := (ivT t + ivN d - 1) / ivN d

theorem ivN_bd (d : Int) : 1 ≤ ivN d ∧ ivN d ≤ 1073741824 := by unfold ivN; split <;> (try split) <;> omega
theorem ivT_bd (t : Int) : 0 ≤ ivT t ∧ ivT t ≤ 4611686018427387904 := by unfold ivT; split <;> (try split) <;> omega

set_option maxRecDepth 100000 in
set_option maxHeartbeats 400000 in
theorem ivl_walk0 (t d N T : Int) (w : World) (hn : min (max d 1) 1073741824 = N) (ht : min (max t 0) 4611686018427387904 = T) (n1 : 1 ≤ N) (n2 : N ≤ 1073741824) (t1 : 0 ≤ T) (t2 : T ≤ 4611686018427387904) :
    Calls Tryz.prog 71 #[.int .i64 t, .int .i64 d] w fun e w' => e = .returned (.int .i64 ((T + N - 1) / N)) ∧ w = w' := by
  go_enter Tryz.func71, Tryz.ntmps71
  go_wp2
  go_ret
  exact ⟨rfl, rfl⟩
/-- dedup.Interval. -/
theorem ivl_walk (t d : Int) (w : World) : Calls Tryz.prog 71 #[.int .i64 t, .int .i64 d] w fun e w' => e = .returned (.int .i64 (ivl t d)) ∧ w = w' := by
  have h1 := ivN_bd d
  have h2 := ivT_bd t
  refine ivl_walk0 t d (ivN d) (ivT t) w ?_ ?_ h1.1 h1.2 h2.1 h2.2
  · unfold ivN; split <;> (try split) <;> omega
  · unfold ivT; split <;> (try split) <;> omega
end Go.Proofs.YtkgcbeokfilehaaGreatDoor
