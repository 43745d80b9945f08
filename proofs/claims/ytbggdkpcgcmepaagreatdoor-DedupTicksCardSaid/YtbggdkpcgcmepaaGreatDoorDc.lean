import Derived.Test.YtbggdkpcgcmepaaGreatDoorSo
namespace Go.Proofs.YtbggdkpcgcmepaaGreatDoor
open Go.RowKit Go.Sort

/-- Does the last one lie in the interval of this one? -/
def alike (d : Int) (r : List Smp) (s : Smp) : Bool := match r.getLast? with | none => false | some a => ivl a.1 d == ivl s.1 d

set_option maxHeartbeats 1000000 in
theorem alike_walk (s : Smp) (d : Int) (v : Value) (r : List Smp) (w : World) (po pd : Nat) (ho : w.cell? ⟨po, 0, none⟩ = some v) (hd : w.cell? ⟨pd, 0, none⟩ = some (.int .i64 d)) (hO : Rd w w.heap.size v r)
    (hl : r.length ≤ 4611686018427387904) :
    Calls Tryz.prog 31 #[vS s, .pointer (some ⟨po, 0, none⟩), .pointer (some ⟨pd, 0, none⟩)] w fun e w' => e = .returned (.bool (alike d r s)) ∧ Ext w w' := by
  obtain ⟨A, c, rfl, hc, hA⟩ := hO
  have KI := Lib.hid (fun (t : Int) W => ivl_walk t d W)
  unfold vS
  rcases Nat.eq_zero_or_pos r.length with h0 | h0
  · have hr : r = [] := List.eq_nil_of_length_eq_zero h0
    subst hr
    clear KI hA h0
    simp only [alike, List.getLast?_nil]
    have hpo := lt_of_cell ho
    have hE : Ext w (w.alloc (.cells #[.int .i64 s.1, .int .i64 s.2.1, .int .i64 s.2.2.1, .int .i64 s.2.2.2] 28)) := (Ext.refl w).alloc _
    have HE : Hid (Ext w (w.alloc (.cells #[.int .i64 s.1, .int .i64 s.2.1, .int .i64 s.2.2.1, .int .i64 s.2.2.2] 28))) := hE
    obtain ⟨w1, hw1⟩ : ∃ w1, w1 = w.alloc (.cells #[.int .i64 s.1, .int .i64 s.2.1, .int .i64 s.2.2.1, .int .i64 s.2.2.2] 28) := ⟨_, rfl⟩
    go_enter Tryz.func31, Tryz.ntmps31
    go_wp2_with fail
    rw [← hw1] at HE hE ⊢
    have ho1 := hE.cell_some ho
    clear hw1 hE
    go_quiet (fail)
    go_wp2_with fail
    go_ret
    exact ⟨rfl, HE.out.drewN nq⟩
  · obtain ⟨b, o, rfl, hb, hcl⟩ : ∃ b o, A = some ⟨b, o, none⟩ ∧ b < w.heap.size ∧ ∀ i (h : i < r.length), Cell4 w b (o + i * 4) r[i] := by
      rcases hA with rfl | h
      · simp at h0
      · exact h
    clear hA
    obtain ⟨n, hn⟩ : ∃ n, n = r.length := ⟨_, rfl⟩
    obtain ⟨i, hi⟩ : ∃ i, i = r.length - 1 := ⟨_, rfl⟩
    have hir : i < r.length := by omega
    obtain ⟨a, ha⟩ : ∃ a, a = r[i] := ⟨_, rfl⟩
    have hfin : alike d r s = (ivl a.1 d == ivl s.1 d) := by
      unfold alike
      have : r.getLast? = some a := by rw [List.getLast?_eq_getElem?, ← hi, List.getElem?_eq_getElem hir, ha]
      rw [this]
    rw [hfin]
    obtain ⟨d0, -⟩ := hcl i hir
    rw [← ha] at d0
    rw [← hn] at hc ho hl h0 hi
    have g1 : IntKind.i64.wrap ((n : Int) - 1) = (i : Int) := by rw [IntWalk.i64_in _ (by omega)]; omega
    have g2 : (i : Int) < (n : Int) := by omega
    have g3 : (0 : Int) < (n : Int) := by omega
    obtain ⟨w1, hw1⟩ : ∃ w1, w1 = w.alloc (.cells #[.int .i64 s.1, .int .i64 s.2.1, .int .i64 s.2.2.1, .int .i64 s.2.2.2] 28) := ⟨_, rfl⟩
    have hE : Ext w w1 := by rw [hw1]; exact (Ext.refl w).alloc _
    have HE : Hid (Ext w w1) := hE
    have f0 : w1.cell? ⟨w.heap.size, 0, none⟩ = some (.int .i64 s.1) := by rw [hw1]; simp
    have HN : Hid (n = r.length) := hn
    clear hcl ha hn hir hi hfin hc hb
    go_enter Tryz.func31, Tryz.ntmps31
    go_wp2_with fail
    rw [← hw1]
    have ho1 := hE.cell_some ho
    have hd1 := hE.cell_some hd
    have e0 := hE.cell_some d0
    clear hw1 hE ho hd d0
    go_quiet ((go_at_call 18; exact quiet_left (KI.out _ _)))
    go_wp2_with fail
    go_ret
    exact ⟨ret_bool (by simp), HE.out.drewN nq⟩
end Go.Proofs.YtbggdkpcgcmepaaGreatDoor
