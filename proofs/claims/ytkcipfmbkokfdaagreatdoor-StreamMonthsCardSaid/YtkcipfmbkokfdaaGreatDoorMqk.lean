/-
  The months' points: each lies in its month; together they are all points.
-/
import Derived.Test.YtkcipfmbkokfdaaGreatDoorLmpk
namespace Go.Proofs.YtkcipfmbkokfdaaGreatDoor
theorem fosC_cons (FO : Int → List Smp → List Smp) (l : List Pts) (p : Pts) : fosC FO (p :: l) = if (FO p.1 p.2).length = 0 then fosC FO l else (p.1, FO p.1 p.2) :: fosC FO l := by
  unfold fosC
  rw [List.map_cons, List.filter_cons]
  by_cases h : (FO p.1 p.2).length = 0
  · rw [if_pos h, if_neg (by simpa using h)]
  · rw [if_neg h, if_pos (by simpa using h)]
theorem monthC_mem {c : List Pts} {m : Int} {p : Pts} : p ∈ monthC c m ↔ p.2 ≠ [] ∧ ∃ q ∈ c, p = (q.1, q.2.filter (fun x => decide (x.1 / 1000 = m))) := by
  unfold monthC
  rw [mem_fosC]
  simp only [del_month]
theorem monthC_clean {c : List Pts} (h : Clean c) (m : Int) : Clean (monthC c m) := by
  refine ⟨fosC_ids h.ids, fun p hp => ?_, fun p hp => (monthC_mem.1 hp).1, fun p hp => ?_, fun p hp x hx => ?_⟩
  · obtain ⟨_, q, hq, rfl⟩ := monthC_mem.1 hp
    exact h.inr q hq
  · obtain ⟨_, q, hq, rfl⟩ := monthC_mem.1 hp
    exact (h.up q hq).filter _
  · obtain ⟨_, q, hq, rfl⟩ := monthC_mem.1 hp
    exact h.bd q hq x (List.mem_filter.1 hx).1
theorem monthC_tick {c : List Pts} {m : Int} {p : Pts} (hp : p ∈ monthC c m) : ∀ x ∈ p.2, x.1 / 1000 = m := by
  obtain ⟨_, q, hq, rfl⟩ := monthC_mem.1 hp
  intro x hx
  exact of_decide_eq_true (List.mem_filter.1 hx).2
theorem monthC_ne {c : List Pts} {m : Int} (h : m ∈ monthsK c) : monthC c m ≠ [] := by
  obtain ⟨p, hp, x, hx, e⟩ := (monthsK_mem c m).1 h
  have hm : x ∈ p.2.filter (fun x => decide (x.1 / 1000 = m)) := List.mem_filter.2 ⟨hx, decide_eq_true e⟩
  have : (p.1, p.2.filter (fun x => decide (x.1 / 1000 = m))) ∈ monthC c m := monthC_mem.2 ⟨List.ne_nil_of_mem hm, p, hp, rfl⟩
  exact List.ne_nil_of_mem this
theorem mnT_bd (s : List Smp) : ∀ a, mnT a s ≤ a ∧ (∀ x ∈ s, mnT a s ≤ x.1) ∧ ∀ lo : Int, lo ≤ a → (∀ x ∈ s, lo ≤ x.1) → lo ≤ mnT a s := by
  induction s with
  | nil => intro a; exact ⟨Int.le_refl _, by simp, fun lo h _ => h⟩
  | cons y s ih =>
    intro a
    obtain ⟨h1, h2, h3⟩ := ih (min a y.1)
    have e : mnT a (y :: s) = mnT (min a y.1) s := rfl
    rw [e]
    refine ⟨by omega, fun x hx => ?_, fun lo h4 h5 => ?_⟩
    · rcases List.mem_cons.1 hx with rfl | hx
      · omega
      · exact h2 x hx
    · have := h5 y List.mem_cons_self
      exact h3 lo (by omega) fun x hx => h5 x (List.mem_cons_of_mem _ hx)
theorem mxT_bd (s : List Smp) : ∀ a, a ≤ mxT a s ∧ (∀ x ∈ s, x.1 ≤ mxT a s) ∧ ∀ hi : Int, a ≤ hi → (∀ x ∈ s, x.1 ≤ hi) → mxT a s ≤ hi := by
  induction s with
  | nil => intro a; exact ⟨Int.le_refl _, by simp, fun lo h _ => h⟩
  | cons y s ih =>
    intro a
    obtain ⟨h1, h2, h3⟩ := ih (max a y.1)
    have e : mxT a (y :: s) = mxT (max a y.1) s := rfl
    rw [e]
    refine ⟨by omega, fun x hx => ?_, fun hi h4 h5 => ?_⟩
    · rcases List.mem_cons.1 hx with rfl | hx
      · omega
      · exact h2 x hx
    · have := h5 y List.mem_cons_self
      exact h3 hi (by omega) fun x hx => h5 x (List.mem_cons_of_mem _ hx)
/-- From when to when a month's points are. -/
theorem month_span {c : List Pts} (h : Clean c) {m : Int} (hm : m ∈ monthsK c) : ∃ a b : Int, spanS (monthC c m) = (a, b, true) ∧ 0 ≤ a ∧ a ≤ 1099511627776 ∧ 0 ≤ b ∧ b ≤ 1099511627776 ∧ a / 1000 = m ∧ b / 1000 = m := by
  have hne := monthC_ne hm
  have hcl := monthC_clean h m
  obtain ⟨s, hs⟩ : ∃ s, s = (monthC c m).flatMap (fun p => p.2) := ⟨_, rfl⟩
  have ht : ∀ x ∈ s, x.1 / 1000 = m ∧ 0 ≤ x.1 ∧ x.1 ≤ 1099511627776 := fun x hx => by
    rw [hs] at hx
    obtain ⟨p, hp, hx⟩ := List.mem_flatMap.1 hx
    exact ⟨monthC_tick hp x hx, rightS_bd (hcl.bd p hp x hx)⟩
  have hsn : s ≠ [] := by
    obtain ⟨p, hp⟩ := List.exists_mem_of_ne_nil _ hne
    obtain ⟨x, hx⟩ := List.exists_mem_of_ne_nil _ (hcl.ne p hp)
    have : x ∈ s := by rw [hs]; exact List.mem_flatMap.2 ⟨p, hp, hx⟩
    exact List.ne_nil_of_mem this
  obtain ⟨x, hx⟩ := List.exists_mem_of_ne_nil _ hsn
  obtain ⟨t1, t2, t3⟩ := ht x hx
  obtain ⟨a1, a2, a3⟩ := mnT_bd s 1099511627776
  obtain ⟨b1, b2, b3⟩ := mxT_bd s 0
  have a4 := a2 x hx
  have b4 := b2 x hx
  have a5 := a3 (m * 1000) (by omega) fun y hy => by have := ht y hy; omega
  have a6 := a3 0 (by omega) fun y hy => (ht y hy).2.1
  have b5 := b3 (m * 1000 + 999) (by omega) fun y hy => by have := ht y hy; omega
  have b6 := b3 1099511627776 (by omega) fun y hy => (ht y hy).2.2
  refine ⟨mnT 1099511627776 s, mxT 0 s, ?_, a6, by omega, by omega, b6, by omega, by omega⟩
  unfold spanS
  rw [if_neg hne, ← hs]
theorem month_flat (c : List Pts) (m : Int) : (monthC c m).flatMap (fun p => p.2) = (c.flatMap (fun p => p.2)).filter (fun x => decide (x.1 / 1000 = m)) := by
  induction c with
  | nil => rfl
  | cons p c ih =>
    unfold monthC at ih ⊢
    rw [fosC_cons, List.flatMap_cons, List.filter_append, ← ih, del_month]
    by_cases h : (p.2.filter (fun x => decide (x.1 / 1000 = m))).length = 0
    · rw [if_pos h, List.eq_nil_of_length_eq_zero h]; rfl
    · rw [if_neg h, List.flatMap_cons]
theorem count_one (x : Int) : ∀ K : List Int, K.Nodup → (K.map (fun m => if x = m then 1 else 0)).sum = if x ∈ K then 1 else 0
  | [], _ => rfl
  | a :: K, h => by
    have h2 := List.nodup_cons.1 h
    rw [List.map_cons, List.sum_cons, count_one x K h2.2]
    by_cases e : x = a
    · subst e
      rw [if_pos rfl, if_neg h2.1, if_pos List.mem_cons_self]
    · rw [if_neg e]
      by_cases hx : x ∈ K
      · rw [if_pos hx, if_pos (List.mem_cons_of_mem _ hx)]
      · rw [if_neg hx, if_neg (by simp [e, hx])]
theorem sum_map_add (K : List Int) (f g : Int → Nat) : (K.map (fun m => f m + g m)).sum = (K.map f).sum + (K.map g).sum := by
  induction K with
  | nil => rfl
  | cons a K ih => simp only [List.map_cons, List.sum_cons, ih]; omega
theorem count_all (K : List Int) (hK : K.Nodup) (s : List Smp) (h : ∀ x ∈ s, x.1 / 1000 ∈ K) : (K.map (fun m => (s.filter (fun x => decide (x.1 / 1000 = m))).length)).sum = s.length := by
  induction s with
  | nil =>
    show (K.map (fun _ => 0)).sum = 0
    induction K with
    | nil => rfl
    | cons a K ih => rw [List.map_cons, List.sum_cons, ih (List.nodup_cons.1 hK).2 (by simp)]
  | cons x s ih =>
    have e : (K.map (fun m => ((x :: s).filter (fun x => decide (x.1 / 1000 = m))).length)) = K.map (fun m => (if x.1 / 1000 = m then 1 else 0) + (s.filter (fun x => decide (x.1 / 1000 = m))).length) := by
      refine List.map_congr_left fun m _ => ?_
      rw [List.filter_cons]
      by_cases hx : x.1 / 1000 = m
      · rw [if_pos (decide_eq_true hx), if_pos hx, List.length_cons, Nat.add_comm]
      · rw [if_neg (by rw [decide_eq_false hx]; decide), if_neg hx, Nat.zero_add]
    rw [e, sum_map_add, count_one _ K hK, if_pos (h x List.mem_cons_self), ih fun y hy => h y (List.mem_cons_of_mem _ hy), List.length_cons, Nat.add_comm]
/-- The points of some months, one behind the other. -/
def allM (c : List Pts) (K : List Int) : List Pts := K.flatMap (monthC c)
theorem allM_snoc (c : List Pts) (K : List Int) (m : Int) : allM c (K ++ [m]) = allM c K ++ monthC c m := by unfold allM; rw [List.flatMap_append]; simp
theorem manyL_append (a b : List Pts) : manyL (a ++ b) = manyL a + manyL b := by unfold manyL; rw [List.flatMap_append, List.length_append]
theorem allM_many (c : List Pts) (K : List Int) : manyL (allM c K) = (K.map (fun m => manyL (monthC c m))).sum := by
  induction K with
  | nil => rfl
  | cons a K ih =>
    have : allM c (a :: K) = monthC c a ++ allM c K := rfl
    rw [this, manyL_append, ih, List.map_cons, List.sum_cons]
theorem months_many {c : List Pts} : manyL (allM c (monthsK c)) = manyL c := by
  rw [allM_many]
  have : ∀ m, manyL (monthC c m) = ((c.flatMap (fun p => p.2)).filter (fun x => decide (x.1 / 1000 = m))).length := fun m => by unfold manyL; rw [month_flat]
  simp only [this]
  refine count_all _ ((monthsK_lt c).imp fun h => by omega) _ fun x hx => ?_
  obtain ⟨p, hp, hx⟩ := List.mem_flatMap.1 hx
  exact (monthsK_mem c _).2 ⟨p, hp, x, hx, rfl⟩
theorem ne_len (a : List Pts) (h : ∀ p ∈ a, p.2 ≠ []) : a.length ≤ manyL a := by
  induction a with
  | nil => exact Nat.zero_le _
  | cons p a ih =>
    have e : manyL (p :: a) = p.2.length + manyL a := by simp [manyL]
    have h1 := ih fun q hq => h q (List.mem_cons_of_mem _ hq)
    have h2 := List.length_pos_iff.2 (h p List.mem_cons_self)
    rw [e, List.length_cons]; omega
theorem allM_len (c : List Pts) (K : List Int) : (allM c K).length ≤ manyL (allM c K) := ne_len _ fun p hp => by
  unfold allM at hp
  obtain ⟨m, _, hp⟩ := List.mem_flatMap.1 hp
  exact (monthC_mem.1 hp).1
theorem allM_take (c : List Pts) (K : List Int) (k : Nat) : manyL (allM c (K.take k)) ≤ manyL (allM c K) := by
  have e : allM c K = allM c (K.take k) ++ allM c (K.drop k) := by unfold allM; rw [← List.flatMap_append, List.take_append_drop]
  rw [e, manyL_append]
  omega
theorem ofL_mem {c : List Pts} {k : Int} {x : Smp} : x ∈ ofL c k ↔ ∃ p ∈ c, p.1 = k ∧ x ∈ p.2 := by
  unfold ofL
  simp only [List.mem_flatMap, List.mem_filter, beq_iff_eq, and_assoc]
/-- The months' points together are all points. -/
theorem months_all {c : List Pts} (h : Clean c) : cleanS (allM c (monthsK c)) = c := by
  refine clean_ext (cleanS_clean _) h fun k => ?_
  rw [clean_at]
  by_cases hk : inR k = true
  · rw [if_pos hk, ← clean_ofs h k]
    refine sortS_congr fun x => ?_
    rw [ofL_mem, ofL_mem]
    constructor
    · rintro ⟨p, hp, e, hx⟩
      unfold allM at hp
      obtain ⟨m, _, hp⟩ := List.mem_flatMap.1 hp
      obtain ⟨_, q, hq, rfl⟩ := monthC_mem.1 hp
      exact ⟨q, hq, e, (List.mem_filter.1 hx).1⟩
    · rintro ⟨q, hq, e, hx⟩
      have hm : x.1 / 1000 ∈ monthsK c := (monthsK_mem c _).2 ⟨q, hq, x, hx, rfl⟩
      have hx2 : x ∈ q.2.filter (fun y => decide (y.1 / 1000 = x.1 / 1000)) := List.mem_filter.2 ⟨hx, decide_eq_true rfl⟩
      refine ⟨(q.1, q.2.filter (fun y => decide (y.1 / 1000 = x.1 / 1000))), ?_, e, hx2⟩
      unfold allM
      exact List.mem_flatMap.2 ⟨_, hm, monthC_mem.2 ⟨List.ne_nil_of_mem hx2, q, hq, rfl⟩⟩
  · rw [if_neg hk, ofL_none fun p hp e => hk (by rw [← e]; exact h.inr p hp)]
theorem allM_wf {c : List Pts} (h : Clean c) (K : List Int) : ∀ p ∈ allM c K, (Lit.int .i64 p.1).wf = true := fun p hp => by
  unfold allM at hp
  obtain ⟨m, _, hp⟩ := List.mem_flatMap.1 hp
  have := (monthC_clean h m).inr p hp
  exact WalkArith.wf_i64 (by
    unfold inR at this
    rw [Bool.and_eq_true, decide_eq_true_eq, decide_eq_true_eq] at this
    omega)
end Go.Proofs.YtkcipfmbkokfdaaGreatDoor
