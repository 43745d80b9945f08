import Derived.Test.YtbggdkpcgcmepaaGreatDoorDd
namespace Go.Proofs.YtbggdkpcgcmepaaGreatDoor
open Go.RowKit Go.Sort

theorem ltS_irrefl (a : Smp) : ¬ ltS a a := by unfold ltS; omega
theorem ltS_trans {a b c : Smp} (h1 : ltS a b) (h2 : ltS b c) : ltS a c := by unfold ltS at *; omega
theorem ltS_asymm {a b : Smp} (h : ltS a b) : ¬ ltS b a := fun k => ltS_irrefl a (ltS_trans h k)
theorem ltS_le_trans {a b c : Smp} (h1 : ltS a b) (h2 : ¬ ltS c b) : ltS a c := by unfold ltS at *; omega
theorem le_ltS_trans {a b c : Smp} (h1 : ¬ ltS b a) (h2 : ltS b c) : ltS a c := by unfold ltS at *; omega
theorem leS_trans {a b c : Smp} (h1 : ¬ ltS b a) (h2 : ¬ ltS c b) : ¬ ltS c a := by unfold ltS at *; omega

/-- The samples as the sort lays them. -/
def sortL (d : List Smp) : List Smp := (sortA d.toArray).toList
theorem sortL_spec (d : List Smp) : (sortL d).Perm d ∧ (sortL d).Pairwise (fun a b => ¬ ltS b a) := by
  have h := pdq_sorts (ltOf cmpS) swoS d.toArray 0 d.toArray.size (Lib.bitLen d.toArray.size) true true (Nat.zero_le _) (Nat.le_refl _) (Or.inl rfl)
  obtain ⟨⟨h1, _, h3⟩, h4⟩ := h
  have hs : (sortA d.toArray).size = d.toArray.size := h1
  constructor
  · have e1 : ((sortA d.toArray).extract 0 d.toArray.size) = sortA d.toArray := by rw [← hs]; simp
    have e2 : (d.toArray.extract 0 d.toArray.size) = d.toArray := by simp
    have h3' : ((sortA d.toArray).extract 0 d.toArray.size).toList.Perm (d.toArray.extract 0 d.toArray.size).toList := h3
    rw [e1, e2] at h3'
    simpa [sortL] using h3'
  · rw [List.pairwise_iff_getElem]
    intro i j hi hj hij
    have := h4 i j (Nat.zero_le _) hij (by rw [← hs]; simpa [sortL] using hj)
    have hi' : i < (sortA d.toArray).size := by simpa [sortL] using hi
    have hj' : j < (sortA d.toArray).size := by simpa [sortL] using hj
    have e : ∀ k (hk : k < (sortA d.toArray).size), (sortA d.toArray)[k]! = (sortA d.toArray)[k] := fun k hk => by simp [hk]
    have this' : ltOf cmpS (sortA d.toArray)[j]! (sortA d.toArray)[i]! = false := this
    rw [e i hi', e j hj'] at this'
    intro hlt
    have : ltOf cmpS (sortA d.toArray)[j] (sortA d.toArray)[i] = true := (ltOf_iff _ _).2 (by simpa [sortL] using hlt)
    rw [this] at this'; cases this'
theorem sortS_eq (l : List Smp) : sortS l = ded none (sortL (l.filter rightS)) := rfl

theorem ded_sub (l : List Smp) : ∀ p, (ded p l).Sublist l := by
  induction l with
  | nil => intro p; exact List.Sublist.refl _
  | cons a l ih =>
    intro p
    unfold ded
    split
    · exact (ih _).cons _
    · exact (ih _).cons_cons _
theorem ded_mem (l : List Smp) : ∀ p a, a ∈ l → a ∈ ded p l ∨ p = some a := by
  induction l with
  | nil => intro p a h; cases h
  | cons b l ih =>
    intro p a h
    unfold ded
    rcases List.mem_cons.1 h with rfl | h
    · by_cases hp : p = some a
      · exact .inr hp
      · rw [if_neg hp]; exact .inl List.mem_cons_self
    · rcases ih (some b) a h with h1 | h1
      · split
        · exact .inl h1
        · exact .inl (List.mem_cons_of_mem _ h1)
      · injection h1 with h1
        subst h1
        by_cases hp : p = some b
        · exact .inr hp
        · rw [if_neg hp]; exact .inl List.mem_cons_self
theorem ded_none_mem (l : List Smp) (a : Smp) : a ∈ ded none l ↔ a ∈ l :=
  ⟨fun h => (ded_sub l none).subset h, fun h => (ded_mem l none a h).resolve_right (by simp)⟩
/-- Of any two, one is ahead, or they are one. -/
def Tot (l : List Smp) : Prop := ∀ x ∈ l, ∀ y ∈ l, ¬ ltS x y → ¬ ltS y x → x = y
theorem ded_not (l : List Smp) : ∀ a, (a :: l).Pairwise (fun a b => ¬ ltS b a) → Tot (a :: l) → a ∉ ded (some a) l := by
  induction l with
  | nil => intro a _ _ h; cases h
  | cons b l ih =>
    intro a hp ht
    have hp1 := List.pairwise_cons.1 hp
    have hp2 := List.pairwise_cons.1 hp1.2
    unfold ded
    by_cases hb : some a = some b
    · rw [if_pos hb]
      injection hb with hb
      subst hb
      exact ih a hp1.2 (fun x hx y hy => ht x (List.mem_cons_of_mem _ hx) y (List.mem_cons_of_mem _ hy))
    · rw [if_neg hb, List.mem_cons]
      rintro (h | h)
      · exact hb (by rw [h])
      · have hal := (ded_sub l _).subset h
        exact hb (by rw [ht a List.mem_cons_self b (List.mem_cons_of_mem _ List.mem_cons_self) (hp2.1 a hal) (hp1.1 b List.mem_cons_self)])
theorem ded_strict (l : List Smp) : ∀ p, l.Pairwise (fun a b => ¬ ltS b a) → Tot l → (ded p l).Pairwise ltS := by
  induction l with
  | nil => intro p _ _; exact List.Pairwise.nil
  | cons a l ih =>
    intro p hp ht
    have hp1 := List.pairwise_cons.1 hp
    have hr := ih (some a) hp1.2 (fun x hx y hy => ht x (List.mem_cons_of_mem _ hx) y (List.mem_cons_of_mem _ hy))
    unfold ded
    split
    · exact hr
    · refine List.pairwise_cons.2 ⟨fun c hc => ?_, hr⟩
      have hcl := (ded_sub l _).subset hc
      refine Classical.byContradiction fun hn => ?_
      have := ht a List.mem_cons_self c (List.mem_cons_of_mem _ hcl) hn (hp1.1 c hcl)
      subst this
      exact ded_not l a hp ht hc
theorem strict_unique (l1 : List Smp) : ∀ l2 : List Smp, l1.Pairwise ltS → l2.Pairwise ltS → (∀ x, x ∈ l1 ↔ x ∈ l2) → l1 = l2 := by
  induction l1 with
  | nil =>
    intro l2 _ _ h
    cases l2 with
    | nil => rfl
    | cons b u => exact absurd ((h b).2 List.mem_cons_self) (by simp)
  | cons a t ih =>
    intro l2 h1 h2 h
    cases l2 with
    | nil => exact absurd ((h a).1 List.mem_cons_self) (by simp)
    | cons b u =>
      have p1 := List.pairwise_cons.1 h1
      have p2 := List.pairwise_cons.1 h2
      have hab : a = b := by
        rcases List.mem_cons.1 ((h a).1 List.mem_cons_self) with e | ha
        · exact e
        · rcases List.mem_cons.1 ((h b).2 List.mem_cons_self) with e | hb
          · exact e.symm
          · exact absurd (p2.1 a ha) (ltS_asymm (p1.1 b hb))
      subst hab
      rw [ih u p1.2 p2.2 fun x => ?_]
      have hx := h x
      rw [List.mem_cons, List.mem_cons] at hx
      constructor
      · intro hxt
        rcases hx.1 (.inr hxt) with e | h'
        · subst e; exact absurd (p1.1 x hxt) (ltS_irrefl _)
        · exact h'
      · intro hxu
        rcases hx.2 (.inr hxu) with e | h'
        · subst e; exact absurd (p2.1 x hxu) (ltS_irrefl _)
        · exact h'
theorem strict_tot (l : List Smp) (h : l.Pairwise ltS) : Tot l := by
  induction l with
  | nil => intro x hx; cases hx
  | cons a l ih =>
    have p := List.pairwise_cons.1 h
    intro x hx y hy h1 h2
    rcases List.mem_cons.1 hx with e | hx2 <;> rcases List.mem_cons.1 hy with e' | hy2
    · rw [e, e']
    · subst e; exact absurd (p.1 y hy2) h1
    · subst e'; exact absurd (p.1 x hx2) h2
    · exact ih p.2 x hx2 y hy2 h1 h2
theorem sortS_mem (l : List Smp) (x : Smp) : x ∈ sortS l ↔ x ∈ l ∧ rightS x = true := by
  rw [sortS_eq, ded_none_mem, (sortL_spec _).1.mem_iff, List.mem_filter]
theorem sortS_le (l : List Smp) : (sortS l).Pairwise (fun a b => ¬ ltS b a) := by
  rw [sortS_eq]; exact (sortL_spec _).2.sublist (ded_sub _ _)
theorem sortS_strict (l : List Smp) (h : Tot (l.filter rightS)) : (sortS l).Pairwise ltS := by
  rw [sortS_eq]
  refine ded_strict _ _ (sortL_spec _).2 fun x hx y hy => h x ((sortL_spec _).1.mem_iff.1 hx) y ((sortL_spec _).1.mem_iff.1 hy)
/-- dedup.Sort is the row in order of those that may be. -/
theorem sortS_is (l s : List Smp) (hs : s.Pairwise ltS) (hm : ∀ x, x ∈ s ↔ x ∈ l ∧ rightS x = true) : sortS l = s := by
  refine strict_unique _ _ (sortS_strict l fun x hx y hy => ?_) hs fun x => ?_
  · rw [List.mem_filter] at hx hy
    exact strict_tot s hs x ((hm x).2 hx) y ((hm y).2 hy)
  · rw [sortS_mem, hm]
end Go.Proofs.YtbggdkpcgcmepaaGreatDoor
