import Derived.Test.YtbggdkpcgcmepaaGreatDoorDc
namespace Go.Proofs.YtbggdkpcgcmepaaGreatDoor
open Go.RowKit Go.Sort

theorem Own.opened {w : World} {base e : Nat} {v : Value} {l : List Smp} (h : Own w base e v l) :
    ∃ A c, v = .slice A l.length c ∧ l.length ≤ c ∧ (l = [] ∨ ∃ b, A = some ⟨b, 0, none⟩ ∧ base ≤ b ∧ b < w.heap.size ∧ ∀ i (h : i < l.length), Cell4 w b (i * 4) l[i]) := by
  obtain ⟨A, c, rfl, hc, hA⟩ := h.rd
  refine ⟨A, c, rfl, hc, ?_⟩
  rcases h.2 with ⟨h1, h0⟩ | ⟨g, cap, cur, hv, hb, hh, hn, hm, hcs, ht⟩
  · exact .inl (List.eq_nil_of_length_eq_zero h0)
  · injection hv with hv1 _ _
    rcases hA with hA | ⟨b, o, h2, hbB, hcl⟩
    · exact .inl hA
    · rw [hv1] at h2
      injection h2 with h2
      injection h2 with h3 h4 h5
      subst h3 h4
      exact .inr ⟨g, hv1, hb, hbB, fun i hi => by have := hcl i hi; rwa [Nat.zero_add] at this⟩
theorem ownsRow_set {w : World} {base e size n : Nat} {g cap : Nat} {xs : List Value} (h : w.ownsRow base e size (.slice (some ⟨g, 0, none⟩) n cap) n xs) (t : Nat) (u : Value) :
    (w.setCell ⟨g, t, none⟩ u).ownsRow base e size (.slice (some ⟨g, 0, none⟩) n cap) n (xs.set t u) := by
  obtain ⟨h1, h2⟩ := h
  refine ⟨by simpa using h1, ?_⟩
  rcases h2 with ⟨h2, _⟩ | ⟨g', cap', cur, hv, hb, hh, hn, hm, hcs, ht⟩
  · exact absurd h2 (by simp)
  · injection hv with hv1 _ hv3
    injection hv1 with hv1
    injection hv1 with hg _ _
    subst hg hv3
    refine .inr ⟨g, cap, cur.setIfInBounds t u, rfl, hb, ?_, hn, hm, by simpa using hcs, ?_⟩
    · show (w.heap.modify g _)[g]? = _
      rw [Array.getElem?_modify, if_pos rfl, hh]; rfl
    · rw [Array.toList_setIfInBounds, List.take_set, ht]
theorem flatS_set (l : List Smp) (i : Nat) (y : Smp) (h : i < l.length) :
    flatS (l.set i y) = ((((flatS l).set (i * 4) (.int .i64 y.1)).set (i * 4 + 1) (.int .i64 y.2.1)).set (i * 4 + 2) (.int .i64 y.2.2.1)).set (i * 4 + 3) (.int .i64 y.2.2.2) := by
  induction l generalizing i with
  | nil => simp at h
  | cons a l ih =>
    cases i with
    | zero => simp [flatS, encS]
    | succ i =>
      have := ih i (by simpa using h)
      unfold flatS at *
      simp only [List.set_cons_succ, List.flatMap_cons, this]
      rw [show (i + 1) * 4 = i * 4 + 4 by omega]
      simp [encS]
theorem Own.set4 {w : World} {base e : Nat} {g cap n : Nat} {l : List Smp} (h : Own w base e (.slice (some ⟨g, 0, none⟩) n cap) l) (hn : n = l.length) (i : Nat) (y : Smp) (hi : i < l.length) :
    Own ((((w.setCell ⟨g, i * 4, none⟩ (.int .i64 y.1)).setCell ⟨g, i * 4 + 1, none⟩ (.int .i64 y.2.1)).setCell ⟨g, i * 4 + 2, none⟩ (.int .i64 y.2.2.1)).setCell ⟨g, i * 4 + 3, none⟩ (.int .i64 y.2.2.2)) base e (.slice (some ⟨g, 0, none⟩) n cap) (l.set i y) := by
  subst hn
  unfold Own at *
  rw [List.length_set, flatS_set l i y hi]
  exact ownsRow_set (ownsRow_set (ownsRow_set (ownsRow_set h _ _) _ _) _ _) _ _
theorem Own.free {w : World} {base e b n c : Nat} {l : List Smp} (h : Own w base e (.slice (some ⟨b, 0, none⟩) n c) l) (o : Nat) : w.frozen? ⟨b, o, none⟩ = false := by
  rcases h.2 with ⟨h1, _⟩ | ⟨g, cap, cur, hv, hb, hh, _⟩
  · exact absurd h1 (by simp)
  · injection hv with hv1 _ _
    injection hv1 with hv1
    injection hv1 with hg _ _
    subst hg
    simp [World.frozen?, hh]
end Go.Proofs.YtbggdkpcgcmepaaGreatDoor
