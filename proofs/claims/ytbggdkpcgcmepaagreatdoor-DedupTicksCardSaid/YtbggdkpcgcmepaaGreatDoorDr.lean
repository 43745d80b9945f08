import Derived.Test.YtbggdkpcgcmepaaGreatDoorCmp2
namespace Go.Proofs.YtbggdkpcgcmepaaGreatDoor
open Go.RowKit Go.Sort

/-- May a sample be? -/
def rightS (a : Smp) : Bool := decide (0 ≤ a.1 ∧ a.1 ≤ 1099511627776) && rightV a.2.1 a.2.2.1 a.2.2.2

theorem Tabs.below {w w' : World} (h : Tabs w) (k : Below w.heap.size w w') : Tabs w' := by
  obtain ⟨pb, po, pc, h1, h2⟩ := h.pow
  have kc : ∀ {b o v}, w.cell? ⟨b, o, none⟩ = some v → w'.cell? ⟨b, o, none⟩ = some v := fun hc => (k.cell (lt_of_cell hc)).trans hc
  exact ⟨kc h.info, kc h.opt, ⟨pb, po, pc, kc h1, fun i hi => kc (h2 i hi)⟩, fun P hP => kc (h.hi P hP), fun P hP => kc (h.lo P hP),
    var?_below k gU64 (Nat.lt_of_lt_of_le (by decide) (Nat.le_of_lt h.size)) h.u64⟩

set_option maxHeartbeats 400000 in
theorem dright_walk (a : Smp) (w : World) :
    Calls Tryz.prog 11 #[vS a] w fun e w' => e = .returned (.bool (rightS a)) ∧ Ext w w' := by
  obtain ⟨t, m, x, s⟩ := a
  unfold vS rightS
  simp only
  obtain ⟨v, hv⟩ : ∃ v, v = rightV m x s := ⟨_, rfl⟩
  have KR : ∀ W, Calls Tryz.prog 26 #[.agg #[.int .i64 m, .int .i64 x, .int .i64 s]] W fun e w' => e = .returned (.bool v) ∧ Ext W w' := fun W => by rw [hv]; exact fright_walk m x s W
  rw [← hv]
  have K := Lib.hid KR
  clear KR hv
  by_cases h : 0 ≤ t ∧ t ≤ 1099511627776
  · have hd : Hid ((decide (0 ≤ t ∧ t ≤ 1099511627776) && v) = v) := by show _ = _; simp [h]
    obtain ⟨h1, h2⟩ := h
    rw [hd.out]
    have g1 : decide (0 ≤ t) = true := by simp [h1]
    have g2 : decide (t ≤ 1099511627776) = true := by simp [h2]
    go_enter Tryz.func11, Tryz.ntmps11
    go_wp2_with fail
    refine (K.out _).mono ?_; rintro e w1 ⟨rfl, hE1⟩
    go_wp2_with fail
    go_ret
    exact ⟨ret_bool (by simp), ((Ext.refl w).alloc _).trans hE1⟩
  · have hd : Hid ((decide (0 ≤ t ∧ t ≤ 1099511627776) && v) = false) := by show _ = _; simp only [h, decide_false, Bool.false_and]
    rw [hd.out]
    by_cases h1 : 0 ≤ t
    · have g1 : decide (0 ≤ t) = true := by simp [h1]
      have h2 : 1099511627776 < t := by omega
      go_enter Tryz.func11, Tryz.ntmps11
      go_wp2_with fail
      go_ret
      exact ⟨rfl, (Ext.refl w).alloc _⟩
    · have g1 : decide (0 ≤ t) = false := by simp; omega
      have h2 : t < 0 := by omega
      go_enter Tryz.func11, Tryz.ntmps11
      go_wp2_with fail
      go_ret
      exact ⟨rfl, (Ext.refl w).alloc _⟩

/-- The length of an interval, put into its bounds; the interval in which a tick lies. -/
def ivN (d : Int) : Int := if d < 1 then 1 else if 1073741824 < d then 1073741824 else d
def ivT (t : Int) : Int := if t < 0 then 0 else if 4611686018427387904 < t then 4611686018427387904 else t
def ivl (t d : Int) : Int := (ivT t + ivN d - 1) / ivN d

theorem ivN_bd (d : Int) : 1 ≤ ivN d ∧ ivN d ≤ 1073741824 := by unfold ivN; split <;> (try split) <;> omega
theorem ivT_bd (t : Int) : 0 ≤ ivT t ∧ ivT t ≤ 4611686018427387904 := by unfold ivT; split <;> (try split) <;> omega

set_option maxRecDepth 100000 in
set_option maxHeartbeats 400000 in
theorem ivl_walk0 (t d N T : Int) (w : World) (hn : min (max d 1) 1073741824 = N) (ht : min (max t 0) 4611686018427387904 = T) (n1 : 1 ≤ N) (n2 : N ≤ 1073741824) (t1 : 0 ≤ T) (t2 : T ≤ 4611686018427387904) :
    Calls Tryz.prog 18 #[.int .i64 t, .int .i64 d] w fun e w' => e = .returned (.int .i64 ((T + N - 1) / N)) ∧ w = w' := by
  go_enter Tryz.func18, Tryz.ntmps18
  go_wp2
  go_ret
  exact ⟨rfl, rfl⟩
/-- dedup.Interval. -/
theorem ivl_walk (t d : Int) (w : World) : Calls Tryz.prog 18 #[.int .i64 t, .int .i64 d] w fun e w' => e = .returned (.int .i64 (ivl t d)) ∧ w = w' := by
  have h1 := ivN_bd d
  have h2 := ivT_bd t
  refine ivl_walk0 t d (ivN d) (ivT t) w ?_ ?_ h1.1 h1.2 h2.1 h2.2
  · unfold ivN; split <;> (try split) <;> omega
  · unfold ivT; split <;> (try split) <;> omega
end Go.Proofs.YtbggdkpcgcmepaaGreatDoor
