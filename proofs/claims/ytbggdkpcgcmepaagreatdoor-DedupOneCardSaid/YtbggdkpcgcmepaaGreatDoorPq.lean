import Derived.Test.YtbggdkpcgcmepaaGreatDoorRh
namespace Go.Proofs.YtbggdkpcgcmepaaGreatDoor
open Go.RowKit Go.Sort

theorem lasts_max (d : Int) : ∀ s : List Smp, s.Pairwise ltS → ∀ y ∈ s, ∃ z ∈ lasts d s, ivl z.1 d = ivl y.1 d ∧ ¬ ltS z y
  | [], _, y, h => by cases h
  | [a], _, y, h => by
    rw [List.mem_singleton] at h
    exact ⟨a, by simp [lasts], by rw [h], by rw [h]; exact ltS_irrefl a⟩
  | a :: b :: l, hp, y, h => by
    have p := List.pairwise_cons.1 hp
    have ih := lasts_max d (b :: l) p.2
    have hsub : ∀ z, z ∈ lasts d (b :: l) → z ∈ lasts d (a :: b :: l) := by
      intro z hz
      unfold lasts
      split
      · exact hz
      · exact List.mem_cons_of_mem _ hz
    rcases List.mem_cons.1 h with rfl | h
    · by_cases hi : ivl y.1 d = ivl b.1 d
      · obtain ⟨z, h1, h2, h3⟩ := ih b List.mem_cons_self
        exact ⟨z, hsub z h1, by rw [h2, hi], fun hlt => h3 (ltS_trans hlt (p.1 b List.mem_cons_self))⟩
      · refine ⟨y, ?_, rfl, ltS_irrefl y⟩
        unfold lasts
        rw [if_neg hi]; exact List.mem_cons_self
    · obtain ⟨z, h1, h2, h3⟩ := ih y h
      exact ⟨z, hsub z h1, h2, h3⟩
theorem pair_inj {f : Smp → Int} {s : List Smp} (h : s.Pairwise (fun a b => f a < f b)) : ∀ x ∈ s, ∀ y ∈ s, f x = f y → x = y := by
  induction s with
  | nil => intro x hx; cases hx
  | cons a s ih =>
    have p := List.pairwise_cons.1 h
    intro x hx y hy e
    rcases List.mem_cons.1 hx with hx1 | hx1
    · rcases List.mem_cons.1 hy with hy1 | hy1
      · rw [hx1, hy1]
      · have := p.1 y hy1; rw [hx1] at e; omega
    · rcases List.mem_cons.1 hy with hy1 | hy1
      · have := p.1 x hx1; rw [hy1] at e; omega
      · exact ih p.2 x hx1 y hy1 e
theorem le_of_strict {s : List Smp} (h : s.Pairwise ltS) : s.Pairwise (fun a b => ¬ ltS b a) := h.imp fun h => ltS_asymm h
theorem lasts_mem (d : Int) (s : List Smp) (h : s.Pairwise ltS) (x : Smp) : x ∈ lasts d s ↔ x ∈ s ∧ ∀ y ∈ s, ivl y.1 d = ivl x.1 d → ¬ ltS x y := by
  constructor
  · intro hx
    refine ⟨(lasts_sub d s).subset hx, fun y hy e => ?_⟩
    obtain ⟨z, h1, h2, h3⟩ := lasts_max d s h y hy
    have := pair_inj (f := fun s => ivl s.1 d) (lasts_strict d s (le_of_strict h)) x hx z h1 (by rw [h2, e])
    rw [this]; exact h3
  · rintro ⟨hx, hm⟩
    obtain ⟨z, h1, h2, h3⟩ := lasts_max d s h x hx
    have hz := (lasts_sub d s).subset h1
    have := strict_tot s h x hx z hz (hm z hz h2) h3
    rw [this]; exact h1
theorem dedup_mem (d : Int) (l : List Smp) (x : Smp) : x ∈ dedupS d l ↔ (x ∈ l ∧ rightS x = true) ∧ ∀ y, y ∈ l → rightS y = true → ivl y.1 d = ivl x.1 d → ¬ ltS x y := by
  rw [dedupS_lasts, lasts_mem d _ (sortS_strict' l), sortS_mem]
  constructor
  · rintro ⟨h1, h2⟩
    exact ⟨h1, fun y hy hr => h2 y ((sortS_mem l y).2 ⟨hy, hr⟩)⟩
  · rintro ⟨h1, h2⟩
    exact ⟨h1, fun y hy => h2 y ((sortS_mem l y).1 hy).1 ((sortS_mem l y).1 hy).2⟩
theorem dedup_max (d : Int) (l : List Smp) (y : Smp) (hy : y ∈ l) (hr : rightS y = true) : ∃ z ∈ dedupS d l, ivl z.1 d = ivl y.1 d ∧ ¬ ltS z y := by
  rw [dedupS_lasts]
  exact lasts_max d _ (sortS_strict' l) y ((sortS_mem l y).2 ⟨hy, hr⟩)
theorem dedup_rising (d : Int) (l : List Smp) : (dedupS d l).Pairwise (fun a b => ivl a.1 d < ivl b.1 d) := by
  rw [dedupS_lasts]; exact lasts_strict d _ (sortS_le l)
theorem dedup_strict (d : Int) (l : List Smp) : (dedupS d l).Pairwise ltS := by
  rw [dedupS_lasts]; exact (sortS_strict' l).sublist (lasts_sub d _)
theorem sortS_congr {l m : List Smp} (h : ∀ x, x ∈ l ↔ x ∈ m) : sortS l = sortS m :=
  sortS_is l _ (sortS_strict' m) fun x => by rw [sortS_mem, h]
theorem dedup_reverse (d : Int) (l : List Smp) : dedupS d l.reverse = dedupS d l := by
  rw [dedupS_lasts, dedupS_lasts, sortS_congr (m := l) fun x => List.mem_reverse]
/-- The samples of two rows: those of what each comes to. -/
theorem dedup_parts (d : Int) (a b : List Smp) : dedupS d (dedupS d a ++ dedupS d b ++ dedupS d a) = dedupS d (a ++ b) := by
  refine strict_unique _ _ (dedup_strict d _) (dedup_strict d _) fun x => ?_
  have hin : ∀ y, y ∈ dedupS d a ++ dedupS d b ++ dedupS d a ↔ y ∈ dedupS d a ∨ y ∈ dedupS d b := by
    intro y; simp only [List.mem_append]
    constructor
    · rintro ((h | h) | h) <;> simp [h]
    · rintro (h | h) <;> simp [h]
  have hall : ∀ y, y ∈ a ++ b ↔ y ∈ a ∨ y ∈ b := fun y => List.mem_append
  rw [dedup_mem, dedup_mem]
  constructor
  · rintro ⟨⟨h1, h2⟩, h3⟩
    refine ⟨⟨?_, h2⟩, fun y hy hr e hlt => ?_⟩
    · rw [hin] at h1
      rw [hall]
      exact h1.imp (fun h => ((dedup_mem d a x).1 h).1.1) (fun h => ((dedup_mem d b x).1 h).1.1)
    · rw [hall] at hy
      have hz : ∃ z, (z ∈ dedupS d a ∨ z ∈ dedupS d b) ∧ ivl z.1 d = ivl y.1 d ∧ ¬ ltS z y := by
        rcases hy with h | h
        · obtain ⟨z, k1, k2, k3⟩ := dedup_max d a y h hr; exact ⟨z, .inl k1, k2, k3⟩
        · obtain ⟨z, k1, k2, k3⟩ := dedup_max d b y h hr; exact ⟨z, .inr k1, k2, k3⟩
      obtain ⟨z, k1, k2, k3⟩ := hz
      have zr : rightS z = true := by
        rcases k1 with h | h
        · exact ((dedup_mem d a z).1 h).1.2
        · exact ((dedup_mem d b z).1 h).1.2
      exact h3 z ((hin z).2 k1) zr (by rw [k2, e]) (ltS_le_trans hlt k3)
  · rintro ⟨⟨h1, h2⟩, h3⟩
    refine ⟨⟨?_, h2⟩, fun y hy hr e => ?_⟩
    · rw [hall] at h1
      rw [hin]
      rcases h1 with h | h
      · exact .inl ((dedup_mem d a x).2 ⟨⟨h, h2⟩, fun y hy hr e => h3 y ((hall y).2 (.inl hy)) hr e⟩)
      · exact .inr ((dedup_mem d b x).2 ⟨⟨h, h2⟩, fun y hy hr e => h3 y ((hall y).2 (.inr hy)) hr e⟩)
    · rw [hin] at hy
      refine h3 y ((hall y).2 ?_) hr e
      exact hy.imp (fun h => ((dedup_mem d a y).1 h).1.1) (fun h => ((dedup_mem d b y).1 h).1.1)
end Go.Proofs.YtbggdkpcgcmepaaGreatDoor
