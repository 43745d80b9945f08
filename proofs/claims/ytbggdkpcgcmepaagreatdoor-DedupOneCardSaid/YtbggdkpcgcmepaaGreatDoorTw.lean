import Derived.Test.YtbggdkpcgcmepaaGreatDoorPl
import Derived.Test.YtbggdkpcgcmepaaGreatDoorTk
namespace Go.Proofs.YtbggdkpcgcmepaaGreatDoor
open Go.RowKit Go.Sort

/-- The last one of each run of one interval. -/
def lasts (d : Int) : List Smp → List Smp
  | [] => []
  | [a] => [a]
  | a :: b :: l => if ivl a.1 d = ivl b.1 d then lasts d (b :: l) else a :: lasts d (b :: l)
theorem fold_lasts (d : Int) (l : List Smp) : ∀ (r : List Smp) (a : Smp), l.foldl (stepD d) (r ++ [a]) = r ++ lasts d (a :: l) := by
  induction l with
  | nil => intro r a; rfl
  | cons b l ih =>
    intro r a
    rw [List.foldl_cons]
    have ha : alike d (r ++ [a]) b = (ivl a.1 d == ivl b.1 d) := by unfold alike; simp
    by_cases h : ivl a.1 d = ivl b.1 d
    · have hs : stepD d (r ++ [a]) b = r ++ [b] := by
        unfold stepD; rw [ha, if_pos (by simp [h]), List.dropLast_concat]
      have hl : lasts d (a :: b :: l) = lasts d (b :: l) := by rw [lasts, if_pos h]
      rw [hs, hl]; exact ih r b
    · have hs : stepD d (r ++ [a]) b = r ++ [a] ++ [b] := by
        unfold stepD; rw [ha, if_neg (by simp [h])]
      have hl : lasts d (a :: b :: l) = a :: lasts d (b :: l) := by rw [lasts, if_neg h]
      rw [hs, hl, ih (r ++ [a]) b]
      simp
theorem dedupS_lasts (d : Int) (l : List Smp) : dedupS d l = lasts d (sortS l) := by
  unfold dedupS
  cases sortS l with
  | nil => rfl
  | cons a s => exact fold_lasts d s [] a
theorem lasts_sub (d : Int) : ∀ s : List Smp, (lasts d s).Sublist s
  | [] => List.Sublist.refl _
  | [a] => List.Sublist.refl _
  | a :: b :: l => by
    unfold lasts
    split
    · exact (lasts_sub d (b :: l)).cons _
    · exact (lasts_sub d (b :: l)).cons_cons _
theorem ivl_mono (d : Int) {t u : Int} (h : t ≤ u) : ivl t d ≤ ivl u d := by
  obtain ⟨n1, _⟩ := ivN_bd d
  have : ivT t ≤ ivT u := by unfold ivT; split <;> split <;> (try split) <;> (try split) <;> omega
  unfold ivl
  exact Int.ediv_le_ediv (by omega) (by omega)
theorem leS_t {a b : Smp} (h : ¬ ltS b a) : a.1 ≤ b.1 := by unfold ltS at h; omega
theorem lasts_strict (d : Int) : ∀ s : List Smp, s.Pairwise (fun a b => ¬ ltS b a) → (lasts d s).Pairwise (fun a b => ivl a.1 d < ivl b.1 d)
  | [], _ => List.Pairwise.nil
  | [a], _ => List.pairwise_singleton _ _
  | a :: b :: l, h => by
    have p := List.pairwise_cons.1 h
    have ih := lasts_strict d (b :: l) p.2
    unfold lasts
    split
    · exact ih
    · rename_i hne
      refine List.pairwise_cons.2 ⟨fun c hc => ?_, ih⟩
      have hcb := (lasts_sub d (b :: l)).subset hc
      have h1 := ivl_mono d (leS_t (p.1 b List.mem_cons_self))
      have h2 : ivl b.1 d ≤ ivl c.1 d := by
        rcases List.mem_cons.1 hcb with e | hcl
        · rw [e]; exact Int.le_refl _
        · exact ivl_mono d (leS_t ((List.pairwise_cons.1 p.2).1 c hcl))
      omega
theorem lasts_id (d : Int) : ∀ s : List Smp, s.Pairwise (fun a b => ivl a.1 d < ivl b.1 d) → lasts d s = s
  | [], _ => rfl
  | [a], _ => rfl
  | a :: b :: l, h => by
    have p := List.pairwise_cons.1 h
    have := p.1 b List.mem_cons_self
    unfold lasts
    rw [if_neg (by omega), lasts_id d (b :: l) p.2]
theorem lasts_head (d : Int) : ∀ (l : List Smp) (b : Smp), ∃ h t, lasts d (b :: l) = h :: t ∧ ivl h.1 d = ivl b.1 d ∧ h ∈ b :: l
  | [], b => ⟨b, [], rfl, rfl, List.mem_cons_self⟩
  | c :: l, b => by
    obtain ⟨h, t, e1, e2, e3⟩ := lasts_head d l c
    unfold lasts
    by_cases hc : ivl b.1 d = ivl c.1 d
    · rw [if_pos hc]
      exact ⟨h, t, e1, by rw [e2, hc], List.mem_cons_of_mem _ e3⟩
    · rw [if_neg hc]
      exact ⟨b, _, rfl, rfl, List.mem_cons_self⟩
theorem lasts_lasts (d e : Int) : ∀ s : List Smp, (∀ a ∈ s, ∀ b ∈ s, ivl a.1 d = ivl b.1 d → ivl a.1 e = ivl b.1 e) → lasts e (lasts d s) = lasts e s
  | [], _ => rfl
  | [a], _ => rfl
  | a :: b :: l, h => by
    have ih := lasts_lasts d e (b :: l) fun x hx y hy => h x (List.mem_cons_of_mem _ hx) y (List.mem_cons_of_mem _ hy)
    have hb : b ∈ a :: b :: l := List.mem_cons_of_mem _ List.mem_cons_self
    by_cases hd : ivl a.1 d = ivl b.1 d
    · have he := h a List.mem_cons_self b hb hd
      have e1 : lasts d (a :: b :: l) = lasts d (b :: l) := by rw [lasts, if_pos hd]
      have e2 : lasts e (a :: b :: l) = lasts e (b :: l) := by rw [lasts, if_pos he]
      rw [e1, e2, ih]
    · have e1 : lasts d (a :: b :: l) = a :: lasts d (b :: l) := by rw [lasts, if_neg hd]
      obtain ⟨x, t, k1, k2, k3⟩ := lasts_head d l b
      have hx := h x (List.mem_cons_of_mem _ k3) b hb k2
      rw [e1]
      rw [k1] at ih ⊢
      by_cases he : ivl a.1 e = ivl b.1 e
      · have e2 : lasts e (a :: b :: l) = lasts e (b :: l) := by rw [lasts, if_pos he]
        rw [lasts, if_pos (by rw [hx]; exact he), e2, ih]
      · have e2 : lasts e (a :: b :: l) = a :: lasts e (b :: l) := by rw [lasts, if_neg he]
        rw [lasts, if_neg (by rw [hx]; exact he), e2, ih]
theorem sort_lasts (d : Int) (l : List Smp) : sortS (dedupS d l) = dedupS d l := by
  have hst : (dedupS d l).Pairwise ltS := by
    rw [dedupS_lasts]
    refine (lasts_strict d _ (sortS_le l)).imp fun {a b} h => ?_
    refine ltS_t ?_
    rcases (by omega : a.1 < b.1 ∨ b.1 ≤ a.1) with h1 | h1
    · exact h1
    · have := ivl_mono d h1; omega
  refine sortS_is _ _ hst fun x => ⟨fun h => ⟨h, ?_⟩, fun h => h.1⟩
  rw [dedupS_lasts] at h
  exact ((sortS_mem l x).1 ((lasts_sub d _).subset h)).2
theorem dedup_again (d : Int) (l : List Smp) : dedupS d (dedupS d l) = dedupS d l := by
  rw [dedupS_lasts d (dedupS d l), sort_lasts]
  rw [dedupS_lasts]
  exact lasts_id d _ (lasts_strict d _ (sortS_le l))
theorem ivl_nest (d k t : Int) (hd : 1 ≤ d) (hk : 1 ≤ k) (hkd : k * d ≤ 1073741824) : ivl t (k * d) = (ivl t d + k - 1) / k := by
  have hd2 : d ≤ k * d := by
    have := Int.mul_le_mul_of_nonneg_right hk (by omega : (0 : Int) ≤ d)
    omega
  have n1 : ivN d = d := by unfold ivN; rw [if_neg (by omega), if_neg (by omega)]
  have n2 : ivN (k * d) = k * d := by unfold ivN; rw [if_neg (by omega), if_neg (by omega)]
  unfold ivl
  rw [n1, n2]
  generalize ivT t = u
  have e1 : (u + d - 1) / d + k - 1 = (u + k * d - 1) / d := by
    have : u + k * d - 1 = (u + d - 1) + (k - 1) * d := by rw [Int.sub_mul, Int.one_mul]; omega
    rw [this, Int.add_mul_ediv_right _ _ (by omega : d ≠ 0)]
    omega
  rw [e1, Int.ediv_ediv_of_nonneg (by omega), Int.mul_comm]
theorem dedup_more (d k : Int) (l : List Smp) (hd : 1 ≤ d) (hk : 1 ≤ k) (hkd : k * d ≤ 1073741824) : dedupS (k * d) (dedupS d l) = dedupS (k * d) l := by
  rw [dedupS_lasts (k * d) (dedupS d l), sort_lasts, dedupS_lasts d, dedupS_lasts (k * d)]
  refine lasts_lasts d (k * d) _ fun a _ b _ h => ?_
  rw [ivl_nest d k _ hd hk hkd, ivl_nest d k _ hd hk hkd, h]
end Go.Proofs.YtbggdkpcgcmepaaGreatDoor
