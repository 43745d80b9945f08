import Derived.Test.YtbggdkpcgcmepaaGreatDoorSo
namespace Go.Proofs.YtbggdkpcgcmepaaGreatDoor
open Go.RowKit Go.Sort

/-- Does the last one lie in the interval of this one? -/
def alike (d : Int) (r : List Smp) (s : Smp) : Bool := match r.getLast? with | none => false | some a => ivl a.1 d == ivl s.1 d

set_option maxHeartbeats 1000000 in
theorem alike_walk (s : Smp) (d : Int) (v : Value) (r : List Smp) (w : World) (po pd : Nat) (ho : w.cell? ⟨po, 0, none⟩ = some v) (hd : w.cell? ⟨pd, 0, none⟩ = some (.int .i64 d)) (hO : Rd w w.heap.size v r)
    (hl : r.length ≤ 4611686018427387904) :
    Calls Tryz.prog 31 #[vS s, .pointer (some ⟨po, 0, none⟩), .pointer (some ⟨pd, 0, none⟩)] w fun e w' => e = .returned (.bool (alike d r s)) ∧ Ext w w' := by
  obtain ⟨A, c, rfl, hc, hA⟩ := hO
  have KI := Lib.hid (fun (t : Int) W => ivl_walk t d W)
  unfold vS
  rcases Nat.eq_zero_or_pos r.length with h0 | h0
  · have hr : r = [] := List.eq_nil_of_length_eq_zero h0
    subst hr
    clear KI hA h0
    simp only [alike, List.getLast?_nil]
    have hpo := lt_of_cell ho
    have hE : Ext w (w.alloc (.cells #[.int .i64 s.1, .int .i64 s.2.1, .int .i64 s.2.2.1, .int .i64 s.2.2.2] 28)) := (Ext.refl w).alloc _
    have HE : Hid (Ext w (w.alloc (.cells #[.int .i64 s.1, .int .i64 s.2.1, .int .i64 s.2.2.1, .int .i64 s.2.2.2] 28))) := hE
    obtain ⟨w1, hw1⟩ : ∃ w1, w1 = w.alloc (.cells #[.int .i64 s.1, .int .i64 s.2.1, .int .i64 s.2.2.1, .int .i64 s.2.2.2] 28) := ⟨_, rfl⟩
    go_enter Tryz.func31, Tryz.ntmps31
    go_wp2_with fail
    rw [← hw1] at HE hE ⊢
    have ho1 := hE.cell_some ho
    clear hw1 hE
    go_quiet (fail)
    go_wp2_with fail
    go_ret
    exact ⟨rfl, HE.out.drewN nq⟩
  · obtain ⟨b, o, rfl, hb, hcl⟩ : ∃ b o, A = some ⟨b, o, none⟩ ∧ b < w.heap.size ∧ ∀ i (h : i < r.length), Cell4 w b (o + i * 4) r[i] := by
      rcases hA with rfl | h
      · simp at h0
      · exact h
    clear hA
    obtain ⟨n, hn⟩ : ∃ n, n = r.length := ⟨_, rfl⟩
    obtain ⟨i, hi⟩ : ∃ i, i = r.length - 1 := ⟨_, rfl⟩
    have hir : i < r.length := by omega
    obtain ⟨a, ha⟩ : ∃ a, a = r[i] := ⟨_, rfl⟩
    have hfin : alike d r s = (ivl a.1 d == ivl s.1 d) := by
      unfold alike
      have : r.getLast? = some a := by rw [List.getLast?_eq_getElem?, ← hi, List.getElem?_eq_getElem hir, ha]
      rw [this]
    rw [hfin]
    obtain ⟨d0, -⟩ := hcl i hir
    rw [← ha] at d0
    rw [← hn] at hc ho hl h0 hi
    have g1 : IntKind.i64.wrap ((n : Int) - 1) = (i : Int) := by rw [IntWalk.i64_in _ (by omega)]; omega
    have g2 : (i : Int) < (n : Int) := by omega
    have g3 : (0 : Int) < (n : Int) := by omega
    obtain ⟨w1, hw1⟩ : ∃ w1, w1 = w.alloc (.cells #[.int .i64 s.1, .int .i64 s.2.1, .int .i64 s.2.2.1, .int .i64 s.2.2.2] 28) := ⟨_, rfl⟩
    have hE : Ext w w1 := by rw [hw1]; exact (Ext.refl w).alloc _
    have HE : Hid (Ext w w1) := hE
    have f0 : w1.cell? ⟨w.heap.size, 0, none⟩ = some (.int .i64 s.1) := by rw [hw1]; simp
    have HN : Hid (n = r.length) := hn
    clear hcl ha hn hir hi hfin hc hb
    go_enter Tryz.func31, Tryz.ntmps31
    go_wp2_with fail
    rw [← hw1]
    have ho1 := hE.cell_some ho
    have hd1 := hE.cell_some hd
    have e0 := hE.cell_some d0
    clear hw1 hE ho hd d0
    go_quiet ((go_at_call 18; exact quiet_left (KI.out _ _)))
    go_wp2_with fail
    go_ret
    exact ⟨ret_bool (by simp), HE.out.drewN nq⟩
end Go.Proofs.YtbggdkpcgcmepaaGreatDoor

namespace Go.Proofs.YtbggdkpcgcmepaaGreatDoor
open Go.RowKit Go.Sort

theorem Own.opened {w : World} {base e : Nat} {v : Value} {l : List Smp} (h : Own w base e v l) :
    ∃ A c, v = .slice A l.length c ∧ l.length ≤ c ∧ (l = [] ∨ ∃ b, A = some ⟨b, 0, none⟩ ∧ base ≤ b ∧ b < w.heap.size ∧ ∀ i (h : i < l.length), Cell4 w b (i * 4) l[i]) := by
  obtain ⟨A, c, rfl, hc, hA⟩ := h.rd
  refine ⟨A, c, rfl, hc, ?_⟩
  rcases h.2 with ⟨h1, h0⟩ | ⟨g, cap, cur, hv, hb, hh, hn, hm, hcs, ht⟩
  · exact .inl (List.eq_nil_of_length_eq_zero h0)
  · injection hv with hv1 _ _
    rcases hA with hA | ⟨b, o, h2, hbB, hcl⟩
    · exact .inl hA
    · rw [hv1] at h2
      injection h2 with h2
      injection h2 with h3 h4 h5
      subst h3 h4
      exact .inr ⟨g, hv1, hb, hbB, fun i hi => by have := hcl i hi; rwa [Nat.zero_add] at this⟩
theorem ownsRow_set {w : World} {base e size n : Nat} {g cap : Nat} {xs : List Value} (h : w.ownsRow base e size (.slice (some ⟨g, 0, none⟩) n cap) n xs) (t : Nat) (u : Value) :
    (w.setCell ⟨g, t, none⟩ u).ownsRow base e size (.slice (some ⟨g, 0, none⟩) n cap) n (xs.set t u) := by
  obtain ⟨h1, h2⟩ := h
  refine ⟨by simpa using h1, ?_⟩
  rcases h2 with ⟨h2, _⟩ | ⟨g', cap', cur, hv, hb, hh, hn, hm, hcs, ht⟩
  · exact absurd h2 (by simp)
  · injection hv with hv1 _ hv3
    injection hv1 with hv1
    injection hv1 with hg _ _
    subst hg hv3
    refine .inr ⟨g, cap, cur.setIfInBounds t u, rfl, hb, ?_, hn, hm, by simpa using hcs, ?_⟩
    · show (w.heap.modify g _)[g]? = _
      rw [Array.getElem?_modify, if_pos rfl, hh]; rfl
    · rw [Array.toList_setIfInBounds, List.take_set, ht]
theorem flatS_set (l : List Smp) (i : Nat) (y : Smp) (h : i < l.length) :
    flatS (l.set i y) = ((((flatS l).set (i * 4) (.int .i64 y.1)).set (i * 4 + 1) (.int .i64 y.2.1)).set (i * 4 + 2) (.int .i64 y.2.2.1)).set (i * 4 + 3) (.int .i64 y.2.2.2) := by
  induction l generalizing i with
  | nil => simp at h
  | cons a l ih =>
    cases i with
    | zero => simp [flatS, encS]
    | succ i =>
      have := ih i (by simpa using h)
      unfold flatS at *
      simp only [List.set_cons_succ, List.flatMap_cons, this]
      rw [show (i + 1) * 4 = i * 4 + 4 by omega]
      simp [encS]
theorem Own.set4 {w : World} {base e : Nat} {g cap n : Nat} {l : List Smp} (h : Own w base e (.slice (some ⟨g, 0, none⟩) n cap) l) (hn : n = l.length) (i : Nat) (y : Smp) (hi : i < l.length) :
    Own ((((w.setCell ⟨g, i * 4, none⟩ (.int .i64 y.1)).setCell ⟨g, i * 4 + 1, none⟩ (.int .i64 y.2.1)).setCell ⟨g, i * 4 + 2, none⟩ (.int .i64 y.2.2.1)).setCell ⟨g, i * 4 + 3, none⟩ (.int .i64 y.2.2.2)) base e (.slice (some ⟨g, 0, none⟩) n cap) (l.set i y) := by
  subst hn
  unfold Own at *
  rw [List.length_set, flatS_set l i y hi]
  exact ownsRow_set (ownsRow_set (ownsRow_set (ownsRow_set h _ _) _ _) _ _) _ _
theorem Own.free {w : World} {base e b n c : Nat} {l : List Smp} (h : Own w base e (.slice (some ⟨b, 0, none⟩) n c) l) (o : Nat) : w.frozen? ⟨b, o, none⟩ = false := by
  rcases h.2 with ⟨h1, _⟩ | ⟨g, cap, cur, hv, hb, hh, _⟩
  · exact absurd h1 (by simp)
  · injection hv with hv1 _ _
    injection hv1 with hv1
    injection hv1 with hg _ _
    subst hg
    simp [World.frozen?, hh]
end Go.Proofs.YtbggdkpcgcmepaaGreatDoor
