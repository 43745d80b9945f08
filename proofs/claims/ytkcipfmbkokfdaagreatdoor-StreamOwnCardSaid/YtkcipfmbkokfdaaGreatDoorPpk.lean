/-
  stream.Merge; stream.Clean's answer by the numbers.
-/
import Derived.Test.YtkcipfmbkokfdaaGreatDoorMmk
import Derived.Test.YtkcipfmbkokfdaaGreatDoorRwk
import Derived.Test.YtkcipfmbkokfdaaGreatDoorMm1k
namespace Go.Proofs.YtkcipfmbkokfdaaGreatDoor
open Go.RowKit Go.Sort Go.Maps
attribute [local go_sem ↓] Go.wp_at_zero Go.wp_at_succ
set_option maxRecDepth 100000 in
set_option maxHeartbeats 1000000 in
theorem smerge_walkO (v : Value) (ll : List (List Pts)) (d : Int) (gv : Value) (g : List Int) (f : Int) (W : World) (T : Tabs W) (hR : RdR W W.heap.size v ll) (hG : RdZ W W.heap.size gv g) (hg : g.length ≤ 1000000) (hwf : ∀ r ∈ ll, ∀ p ∈ r, (Lit.int .i64 p.1).wf = true) (hn1 : ll.length ≤ 100000) (hn2 : ll.flatten.length ≤ 100000) (hn3 : manyL ll.flatten ≤ 100000) :
    Calls Tryz.prog 12 #[.agg #[.int .i64 d, gv, .int .i64 f], v] W fun e w' => ∃ r, e = .returned r ∧ RdO w' W.heap.size r (mergeS d g f ll) ∧ Below W.heap.size W w' := by
  have hB : Below W.heap.size W (W.alloc (.cells #[.int .i64 d, gv, .int .i64 f] 24)) := (Below.refl _ W).alloc (Nat.le_refl _) _
  have K := madeM_walk v ll W.heap.size gv g d f (W.alloc (.cells #[.int .i64 d, gv, .int .i64 f] 24)) (T.below hB) (new_cell _ _ _ 0) (new_cell _ _ _ 1) (new_cell _ _ _ 2) (hG.on hB) hg (hR.on hB) hwf hn1 hn2 hn3
  have HK := Lib.hid K
  have HB := Lib.hid hB
  obtain ⟨A, c, rfl, hc, _⟩ := hR
  obtain ⟨A2, c2, rfl, hc2, _⟩ := hG
  clear K hB hwf hn3 T
  go_enter Tryz.func12, Tryz.ntmps12
  go_wp2_with (go_at_call 28; refine HK.out.mono ?_; rintro e w1 ⟨r, ks, rfl, h1, h2, h3⟩; rw [h1.rows] at h2; have h2 := Lib.hid h2; have h3 := Lib.hid h3)
  go_ret
  exact ⟨r, rfl, h2.out.lower HB.out.size, HB.out.trans (h3.out.mono HB.out.size)⟩
theorem smerge_walk (v : Value) (ll : List (List Pts)) (d : Int) (gv : Value) (g : List Int) (f : Int) (W : World) (T : Tabs W) (hR : RdR W W.heap.size v ll) (hG : RdZ W W.heap.size gv g) (hg : g.length ≤ 1000000) (hwf : ∀ r ∈ ll, ∀ p ∈ r, (Lit.int .i64 p.1).wf = true) (hn1 : ll.length ≤ 100000) (hn2 : ll.flatten.length ≤ 100000) (hn3 : manyL ll.flatten ≤ 100000) :
    Calls Tryz.prog 12 #[.agg #[.int .i64 d, gv, .int .i64 f], v] W fun e w' => ∃ r, e = .returned r ∧ RdP w' w'.heap.size r (mergeS d g f ll) ∧ Below W.heap.size W w' :=
  (smerge_walkO v ll d gv g f W T hR hG hg hwf hn1 hn2 hn3).mono fun _ _ ⟨r, h1, h2, h3⟩ => ⟨r, h1, h2.rdP, h3⟩
theorem scleanO (v : Value) (l : List Pts) (W : World) (T : Tabs W) (hR : RdP W W.heap.size v l) (hwf : ∀ p ∈ l, (Lit.int .i64 p.1).wf = true) (hn2 : l.length ≤ 100000) (hn3 : manyL l ≤ 100000) :
    Calls Tryz.prog 19 #[v] W fun e w' => ∃ r, e = .returned r ∧ RdO w' W.heap.size r (cleanS l) ∧ Below W.heap.size W w' :=
  (sclean_walkO v l W T hR hwf hn2 hn3).mono fun e w' ⟨r, ks, h1, h2, h3, h4⟩ => ⟨r, h1, by rw [h2.rows] at h3; exact h3, h4⟩
theorem sclean (v : Value) (l : List Pts) (W : World) (T : Tabs W) (hR : RdP W W.heap.size v l) (hwf : ∀ p ∈ l, (Lit.int .i64 p.1).wf = true) (hn2 : l.length ≤ 100000) (hn3 : manyL l ≤ 100000) :
    Calls Tryz.prog 19 #[v] W fun e w' => ∃ r, e = .returned r ∧ RdP w' w'.heap.size r (cleanS l) ∧ Below W.heap.size W w' :=
  (sclean_walk v l W T hR hwf hn2 hn3).mono fun e w' ⟨r, ks, h1, h2, h3, h4⟩ => ⟨r, h1, by rw [h2.rows] at h3; exact h3, h4⟩
theorem smany (v : Value) (l : List Pts) (W : World) (T : Tabs W) (hR : RdP W W.heap.size v l) (hwf : ∀ p ∈ l, (Lit.int .i64 p.1).wf = true) (hn2 : l.length ≤ 100000) (hn3 : manyL l ≤ 100000) :
    Calls Tryz.prog 24 #[v] W fun e w' => e = .returned (.int .i64 (manyL (cleanS l))) ∧ Below W.heap.size W w' :=
  (smany_walk v l W T hR hwf hn2 hn3 fun ks h => by rw [h.rows]; exact ⟨Nat.le_trans (cleanS_length l) hn2, Nat.le_trans (cleanS_many l) hn3⟩).mono fun e w' ⟨ks, h1, h2, h3⟩ => ⟨by rw [h2.rows] at h1; exact h1, h3⟩
end Go.Proofs.YtkcipfmbkokfdaaGreatDoor

namespace Go.Proofs.YtkcipfmbkokfdaaGreatDoor
open Go.RowKit Go.Sort

theorem lasts_max (d : Int) : ∀ s : List Smp, s.Pairwise ltS → ∀ y ∈ s, ∃ z ∈ lasts d s, ivl z.1 d = ivl y.1 d ∧ ¬ ltS z y
  | [], _, y, h => by cases h
  | [a], _, y, h => by
    rw [List.mem_singleton] at h
    exact ⟨a, by simp [lasts], by rw [h], by rw [h]; exact ltS_irrefl a⟩
  | a :: b :: l, hp, y, h => by
    have p := List.pairwise_cons.1 hp
    have ih := lasts_max d (b :: l) p.2
    have hsub : ∀ z, z ∈ lasts d (b :: l) → z ∈ lasts d (a :: b :: l) := by
      intro z hz
      unfold lasts
      split
      · exact hz
      · exact List.mem_cons_of_mem _ hz
    rcases List.mem_cons.1 h with rfl | h
    · by_cases hi : ivl y.1 d = ivl b.1 d
      · obtain ⟨z, h1, h2, h3⟩ := ih b List.mem_cons_self
        exact ⟨z, hsub z h1, by rw [h2, hi], fun hlt => h3 (ltS_trans hlt (p.1 b List.mem_cons_self))⟩
      · refine ⟨y, ?_, rfl, ltS_irrefl y⟩
        unfold lasts
        rw [if_neg hi]; exact List.mem_cons_self
    · obtain ⟨z, h1, h2, h3⟩ := ih y h
      exact ⟨z, hsub z h1, h2, h3⟩
theorem pair_inj {f : Smp → Int} {s : List Smp} (h : s.Pairwise (fun a b => f a < f b)) : ∀ x ∈ s, ∀ y ∈ s, f x = f y → x = y := by
  induction s with
  | nil => intro x hx; cases hx
  | cons a s ih =>
    have p := List.pairwise_cons.1 h
    intro x hx y hy e
    rcases List.mem_cons.1 hx with hx1 | hx1
    · rcases List.mem_cons.1 hy with hy1 | hy1
      · rw [hx1, hy1]
      · have := p.1 y hy1; rw [hx1] at e; omega
    · rcases List.mem_cons.1 hy with hy1 | hy1
      · have := p.1 x hx1; rw [hy1] at e; omega
      · exact ih p.2 x hx1 y hy1 e
theorem le_of_strict {s : List Smp} (h : s.Pairwise ltS) : s.Pairwise (fun a b => ¬ ltS b a) := h.imp fun h => ltS_asymm h
theorem lasts_mem (d : Int) (s : List Smp) (h : s.Pairwise ltS) (x : Smp) : x ∈ lasts d s ↔ x ∈ s ∧ ∀ y ∈ s, ivl y.1 d = ivl x.1 d → ¬ ltS x y := by
  constructor
  · intro hx
    refine ⟨(lasts_sub d s).subset hx, fun y hy e => ?_⟩
    obtain ⟨z, h1, h2, h3⟩ := lasts_max d s h y hy
    have := pair_inj (f := fun s => ivl s.1 d) (lasts_strict d s (le_of_strict h)) x hx z h1 (by rw [h2, e])
    rw [this]; exact h3
  · rintro ⟨hx, hm⟩
    obtain ⟨z, h1, h2, h3⟩ := lasts_max d s h x hx
    have hz := (lasts_sub d s).subset h1
    have := strict_tot s h x hx z hz (hm z hz h2) h3
    rw [this]; exact h1
theorem dedup_mem (d : Int) (l : List Smp) (x : Smp) : x ∈ dedupS d l ↔ (x ∈ l ∧ rightS x = true) ∧ ∀ y, y ∈ l → rightS y = true → ivl y.1 d = ivl x.1 d → ¬ ltS x y := by
  rw [dedupS_lasts, lasts_mem d _ (sortS_strict' l), sortS_mem]
  constructor
  · rintro ⟨h1, h2⟩
    exact ⟨h1, fun y hy hr => h2 y ((sortS_mem l y).2 ⟨hy, hr⟩)⟩
  · rintro ⟨h1, h2⟩
    exact ⟨h1, fun y hy => h2 y ((sortS_mem l y).1 hy).1 ((sortS_mem l y).1 hy).2⟩
theorem dedup_max (d : Int) (l : List Smp) (y : Smp) (hy : y ∈ l) (hr : rightS y = true) : ∃ z ∈ dedupS d l, ivl z.1 d = ivl y.1 d ∧ ¬ ltS z y := by
  rw [dedupS_lasts]
  exact lasts_max d _ (sortS_strict' l) y ((sortS_mem l y).2 ⟨hy, hr⟩)
theorem dedup_rising (d : Int) (l : List Smp) : (dedupS d l).Pairwise (fun a b => ivl a.1 d < ivl b.1 d) := by
  rw [dedupS_lasts]; exact lasts_strict d _ (sortS_le l)
theorem dedup_strict (d : Int) (l : List Smp) : (dedupS d l).Pairwise ltS := by
  rw [dedupS_lasts]; exact (sortS_strict' l).sublist (lasts_sub d _)
theorem sortS_congr {l m : List Smp} (h : ∀ x, x ∈ l ↔ x ∈ m) : sortS l = sortS m :=
  sortS_is l _ (sortS_strict' m) fun x => by rw [sortS_mem, h]
theorem dedup_reverse (d : Int) (l : List Smp) : dedupS d l.reverse = dedupS d l := by
  rw [dedupS_lasts, dedupS_lasts, sortS_congr (m := l) fun x => List.mem_reverse]
/-- The samples of two rows: those of what each comes to. -/
theorem dedup_parts (d : Int) (a b : List Smp) : dedupS d (dedupS d a ++ dedupS d b ++ dedupS d a) = dedupS d (a ++ b) := by
  refine strict_unique _ _ (dedup_strict d _) (dedup_strict d _) fun x => ?_
  have hin : ∀ y, y ∈ dedupS d a ++ dedupS d b ++ dedupS d a ↔ y ∈ dedupS d a ∨ y ∈ dedupS d b := by
    intro y; simp only [List.mem_append]
    constructor
    · rintro ((h | h) | h) <;> simp [h]
    · rintro (h | h) <;> simp [h]
  have hall : ∀ y, y ∈ a ++ b ↔ y ∈ a ∨ y ∈ b := fun y => List.mem_append
  rw [dedup_mem, dedup_mem]
  constructor
  · rintro ⟨⟨h1, h2⟩, h3⟩
    refine ⟨⟨?_, h2⟩, fun y hy hr e hlt => ?_⟩
    · rw [hin] at h1
      rw [hall]
      exact h1.imp (fun h => ((dedup_mem d a x).1 h).1.1) (fun h => ((dedup_mem d b x).1 h).1.1)
    · rw [hall] at hy
      have hz : ∃ z, (z ∈ dedupS d a ∨ z ∈ dedupS d b) ∧ ivl z.1 d = ivl y.1 d ∧ ¬ ltS z y := by
        rcases hy with h | h
        · obtain ⟨z, k1, k2, k3⟩ := dedup_max d a y h hr; exact ⟨z, .inl k1, k2, k3⟩
        · obtain ⟨z, k1, k2, k3⟩ := dedup_max d b y h hr; exact ⟨z, .inr k1, k2, k3⟩
      obtain ⟨z, k1, k2, k3⟩ := hz
      have zr : rightS z = true := by
        rcases k1 with h | h
        · exact ((dedup_mem d a z).1 h).1.2
        · exact ((dedup_mem d b z).1 h).1.2
      exact h3 z ((hin z).2 k1) zr (by rw [k2, e]) (ltS_le_trans hlt k3)
  · rintro ⟨⟨h1, h2⟩, h3⟩
    refine ⟨⟨?_, h2⟩, fun y hy hr e => ?_⟩
    · rw [hall] at h1
      rw [hin]
      rcases h1 with h | h
      · exact .inl ((dedup_mem d a x).2 ⟨⟨h, h2⟩, fun y hy hr e => h3 y ((hall y).2 (.inl hy)) hr e⟩)
      · exact .inr ((dedup_mem d b x).2 ⟨⟨h, h2⟩, fun y hy hr e => h3 y ((hall y).2 (.inr hy)) hr e⟩)
    · rw [hin] at hy
      refine h3 y ((hall y).2 ?_) hr e
      exact hy.imp (fun h => ((dedup_mem d a y).1 h).1.1) (fun h => ((dedup_mem d b y).1 h).1.1)
end Go.Proofs.YtkcipfmbkokfdaaGreatDoor

/-
  From when to when, and the months: what the program counts is what the document counts.
-/
namespace Go.Proofs.YtkcipfmbkokfdaaGreatDoor
/-- The reference's way: over all samples. -/
def stepSp (r : Int × Int × Bool) (t : Int) : Int × Int × Bool := (if !r.2.2 || decide (t < r.1) then t else r.1, if !r.2.2 || decide (r.2.1 < t) then t else r.2.1, true)
def mnT (a : Int) (s : List Smp) : Int := s.foldl (fun a x => min a x.1) a
def mxT (b : Int) (s : List Smp) : Int := s.foldl (fun b x => max b x.1) b
def spanS (c : List Pts) : Int × Int × Bool := if c = [] then (0, 0, false) else (mnT 1099511627776 (c.flatMap (fun p => p.2)), mxT 0 (c.flatMap (fun p => p.2)), true)
theorem foldSp (s : List Smp) : ∀ a b, s.foldl (fun r x => stepSp r x.1) (a, b, true) = (mnT a s, mxT b s, true) := by
  induction s with
  | nil => intro a b; rfl
  | cons x s ih =>
    intro a b
    have e : stepSp (a, b, true) x.1 = (min a x.1, max b x.1, true) := by
      unfold stepSp
      simp only [Bool.not_true, Bool.false_or, decide_eq_true_eq]
      have h1 : (if x.1 < a then x.1 else a) = min a x.1 := by split <;> omega
      have h2 : (if b < x.1 then x.1 else b) = max b x.1 := by split <;> omega
      rw [h1, h2]
    rw [List.foldl_cons, e, ih]
    rfl
theorem span_ref (s : List Smp) (h : ∀ x ∈ s, 0 ≤ x.1 ∧ x.1 ≤ 1099511627776) (hne : s ≠ []) : s.foldl (fun r x => stepSp r x.1) (0, 0, false) = (mnT 1099511627776 s, mxT 0 s, true) := by
  cases s with
  | nil => exact absurd rfl hne
  | cons x s =>
    have hx := h x List.mem_cons_self
    have e : stepSp (0, 0, false) x.1 = (min 1099511627776 x.1, max 0 x.1, true) := by
      unfold stepSp
      simp only [Bool.not_false, Bool.true_or, if_true]
      have h1 : min 1099511627776 x.1 = x.1 := by omega
      have h2 : max 0 x.1 = x.1 := by omega
      rw [h1, h2]
    rw [List.foldl_cons, e, foldSp]
    rfl
theorem mnT_append (a : Int) (s t : List Smp) : mnT a (s ++ t) = mnT (mnT a s) t := by unfold mnT; rw [List.foldl_append]
theorem mxT_append (a : Int) (s t : List Smp) : mxT a (s ++ t) = mxT (mxT a s) t := by unfold mxT; rw [List.foldl_append]
theorem mnT_min (s : List Smp) : ∀ a, mnT a s = if h : s = [] then a else min a (mnT ((s.head h).1) s) := by
  induction s with
  | nil => intro a; rfl
  | cons x s ih =>
    intro a
    rw [dif_neg (List.cons_ne_nil _ _)]
    show mnT (min a x.1) s = min a (mnT (min x.1 x.1) s)
    rw [ih (min a x.1), ih (min x.1 x.1)]
    split <;> omega
theorem mnT_sorted (s : List Smp) : ∀ a, s.Pairwise (fun a b => a.1 ≤ b.1) → ∀ h : 0 < s.length, mnT a s = min a s[0].1 := by
  induction s with
  | nil => intro a _ h; exact absurd h (Nat.lt_irrefl 0)
  | cons x s ih =>
    intro a hp _
    have p := List.pairwise_cons.1 hp
    show mnT (min a x.1) s = min a x.1
    by_cases hs : 0 < s.length
    · rw [ih (min a x.1) p.2 hs]
      have := p.1 s[0] (List.getElem_mem hs)
      omega
    · have : s = [] := List.eq_nil_of_length_eq_zero (by omega)
      subst this
      rfl
theorem mxT_sorted (s : List Smp) : ∀ b, s.Pairwise (fun a b => a.1 ≤ b.1) → ∀ h : s.length - 1 < s.length, mxT b s = max b s[s.length - 1].1 := by
  induction s with
  | nil => intro a _ h; exact absurd h (Nat.lt_irrefl 0)
  | cons x s ih =>
    intro b hp _
    have p := List.pairwise_cons.1 hp
    show mxT (max b x.1) s = _
    by_cases hs : 0 < s.length
    · have hl : s.length - 1 < s.length := by omega
      rw [ih (max b x.1) p.2 hl]
      have e : (x :: s)[(x :: s).length - 1]'(by simp) = s[s.length - 1] := by
        simp only [List.length_cons, Nat.add_sub_cancel]
        rw [List.getElem_cons]
        rw [dif_neg (by omega)]
      rw [e]
      have := p.1 s[s.length - 1] (List.getElem_mem hl)
      omega
    · have : s = [] := List.eq_nil_of_length_eq_zero (by omega)
      subst this
      rfl
theorem many_mem {p : Pts} : ∀ {c : List Pts}, p ∈ c → p.2.length ≤ manyL c
  | [], h => absurd h List.not_mem_nil
  | a :: c, h => by
    have e : manyL (a :: c) = a.2.length + manyL c := by simp [manyL]
    rcases List.mem_cons.1 h with rfl | h
    · omega
    · have := many_mem h; omega
/-- What is told of points in order. -/
structure Clean (c : List Pts) : Prop where
  ids : c.Pairwise (fun a b => a.1 < b.1)
  inr : ∀ p ∈ c, inR p.1 = true
  ne : ∀ p ∈ c, p.2 ≠ []
  up : ∀ p ∈ c, p.2.Pairwise ltS
  bd : ∀ p ∈ c, ∀ x ∈ p.2, rightS x = true
theorem rightS_bd {x : Smp} (h : rightS x = true) : 0 ≤ x.1 ∧ x.1 ≤ 1099511627776 := by
  unfold rightS at h
  rw [Bool.and_eq_true, decide_eq_true_eq] at h
  exact h.1
theorem tick_le {s : List Smp} (h : s.Pairwise ltS) : s.Pairwise (fun a b => a.1 ≤ b.1) := h.imp fun h => by unfold ltS at h; omega
theorem mem_fosC {FO : Int → List Smp → List Smp} {l : List Pts} {p : Pts} : p ∈ fosC FO l ↔ p.2 ≠ [] ∧ ∃ q ∈ l, p = (q.1, FO q.1 q.2) := by
  unfold fosC
  rw [List.mem_filter, List.mem_map]
  constructor
  · rintro ⟨⟨q, hq, rfl⟩, h⟩
    refine ⟨fun e => ?_, q, hq, rfl⟩
    rw [decide_eq_true_eq] at h
    exact h (congrArg List.length e)
  · rintro ⟨h, q, hq, rfl⟩
    exact ⟨⟨q, hq, rfl⟩, by simpa using h⟩
theorem mem_rowsS {l : List Pts} {p : Pts} : p ∈ rowsS l ↔ hasL l p.1 = true ∧ inR p.1 = true ∧ p.2 = sortS (ofL l p.1) := by
  unfold rowsS
  rw [List.mem_map]
  constructor
  · rintro ⟨k, hk, rfl⟩
    have := (idsR_mem l k).1 hk
    exact ⟨this.1, this.2, rfl⟩
  · rintro ⟨h1, h2, h3⟩
    exact ⟨p.1, (idsR_mem l p.1).2 ⟨h1, h2⟩, by rw [← h3]⟩
theorem rowsS_ids (l : List Pts) : (rowsS l).Pairwise (fun a b => a.1 < b.1) := by
  unfold rowsS
  rw [List.pairwise_map]
  exact idsR_lt l
theorem fosC_ids {FO : Int → List Smp → List Smp} {l : List Pts} (h : l.Pairwise (fun a b => a.1 < b.1)) : (fosC FO l).Pairwise (fun a b => a.1 < b.1) := by
  unfold fosC
  refine List.Pairwise.filter _ ?_
  rw [List.pairwise_map]
  exact h
theorem fos_clean {FO : Int → List Smp → List Smp} (hs : ∀ k s, s.Pairwise ltS → (FO k s).Pairwise ltS) (hm : ∀ k s x, x ∈ FO k s → x ∈ s ∧ True) (l : List Pts) : Clean (fosC FO (rowsS l)) := by
  refine ⟨fosC_ids (rowsS_ids l), fun p hp => ?_, fun p hp => (mem_fosC.1 hp).1, fun p hp => ?_, fun p hp x hx => ?_⟩
  · obtain ⟨_, q, hq, rfl⟩ := mem_fosC.1 hp
    exact (mem_rowsS.1 hq).2.1
  · obtain ⟨_, q, hq, rfl⟩ := mem_fosC.1 hp
    refine hs _ _ ?_
    rw [(mem_rowsS.1 hq).2.2]
    exact sortS_strict' _
  · obtain ⟨_, q, hq, rfl⟩ := mem_fosC.1 hp
    have h1 := (hm _ _ _ hx).1
    rw [(mem_rowsS.1 hq).2.2] at h1
    exact ((sortS_mem _ _).1 h1).2
theorem cleanS_clean (l : List Pts) : Clean (cleanS l) := fos_clean (fun _ _ h => h) (fun _ _ _ h => ⟨h, trivial⟩) l
theorem dedup_sub (d : Int) (s : List Smp) (x : Smp) (h : x ∈ dedupS d s) : x ∈ s := ((dedup_mem d s x).1 h).1.1
theorem mergeS_clean (d : Int) (g : List Int) (f : Int) (ll : List (List Pts)) : Clean (mergeS d g f ll) := by
  refine fos_clean (fun k s _ => ?_) (fun k s x hx => ⟨?_, trivial⟩) _
  · unfold foM
    split
    · exact List.Pairwise.nil
    · exact (dedup_strict d s).filter _
  · unfold foM at hx
    split at hx
    · exact absurd hx List.not_mem_nil
    · exact dedup_sub d s x ((List.mem_filter.1 hx).1)
/-- The program's way: each row's first and last. -/
theorem span_fold (c : List Pts) (a b : Int) (p : Pts) (hp : p.2.Pairwise ltS) (h0 : 0 < p.2.length) (h1 : p.2.length - 1 < p.2.length) :
    mnT a ((c ++ [p]).flatMap (fun p => p.2)) = min (mnT a (c.flatMap (fun p => p.2))) p.2[0].1 ∧ mxT b ((c ++ [p]).flatMap (fun p => p.2)) = max (mxT b (c.flatMap (fun p => p.2))) p.2[p.2.length - 1].1 := by
  rw [List.flatMap_append, mnT_append, mxT_append]
  have e : [p].flatMap (fun p : Pts => p.2) = p.2 := by simp
  rw [e, mnT_sorted _ _ (tick_le hp) h0, mxT_sorted _ _ (tick_le hp) h1]
  exact ⟨rfl, rfl⟩
theorem span_eq (c : List Pts) (h : Clean c) : (c.flatMap (fun p => p.2)).foldl (fun r x => stepSp r x.1) (0, 0, false) = spanS c := by
  unfold spanS
  by_cases hc : c = []
  · subst hc; rfl
  · rw [if_neg hc]
    refine span_ref _ (fun x hx => ?_) ?_
    · obtain ⟨p, hp, hx⟩ := List.mem_flatMap.1 hx
      exact rightS_bd (h.bd p hp x hx)
    · intro e
      obtain ⟨p, hp⟩ := List.exists_mem_of_ne_nil c hc
      have := List.flatMap_eq_nil_iff.1 e p hp
      exact h.ne p hp this
/-- The months of all samples, rising. -/
def stepMo (r : List Int) (x : Smp) : List Int := putZ r (x.1 / 1000)
def monthsK (c : List Pts) : List Int := (c.flatMap (fun p => p.2)).foldl stepMo []
def hasM (c : List Pts) (m : Int) : Prop := ∃ p ∈ c, ∃ x ∈ p.2, x.1 / 1000 = m
theorem foldMo (s : List Smp) : ∀ r : List Int, r.Pairwise (· < ·) → (s.foldl stepMo r).Pairwise (· < ·) ∧ (∀ m, m ∈ s.foldl stepMo r ↔ m ∈ r ∨ ∃ x ∈ s, x.1 / 1000 = m) ∧ (s.foldl stepMo r).length ≤ r.length + s.length := by
  induction s with
  | nil => intro r hr; exact ⟨hr, fun m => by simp, by simp⟩
  | cons x s ih =>
    intro r hr
    obtain ⟨i1, i2, i3⟩ := ih (stepMo r x) (putZ_lt _ _ hr)
    refine ⟨i1, fun m => ?_, ?_⟩
    · rw [List.foldl_cons, i2]
      unfold stepMo
      rw [putZ_mem]
      constructor
      · rintro ((h | h) | ⟨y, hy, h⟩)
        · exact .inl h
        · exact .inr ⟨x, List.mem_cons_self, h.symm⟩
        · exact .inr ⟨y, List.mem_cons_of_mem _ hy, h⟩
      · rintro (h | ⟨y, hy, h⟩)
        · exact .inl (.inl h)
        · rcases List.mem_cons.1 hy with rfl | hy
          · exact .inl (.inr h.symm)
          · exact .inr ⟨y, hy, h⟩
    · have := putZ_length r (x.1 / 1000)
      rw [List.foldl_cons, List.length_cons]
      unfold stepMo at i3
      unfold stepMo
      omega
theorem monthsK_lt (c : List Pts) : (monthsK c).Pairwise (· < ·) := (foldMo _ [] List.Pairwise.nil).1
theorem monthsK_mem (c : List Pts) (m : Int) : m ∈ monthsK c ↔ hasM c m := by
  unfold monthsK hasM
  rw [(foldMo _ [] List.Pairwise.nil).2.1]
  constructor
  · rintro (h | ⟨x, hx, h⟩)
    · exact absurd h List.not_mem_nil
    · obtain ⟨p, hp, hx⟩ := List.mem_flatMap.1 hx
      exact ⟨p, hp, x, hx, h⟩
  · rintro ⟨p, hp, x, hx, h⟩
    exact .inr ⟨x, List.mem_flatMap.2 ⟨p, hp, hx⟩, h⟩
theorem monthsK_length (c : List Pts) : (monthsK c).length ≤ manyL c := by
  have := (foldMo (c.flatMap (fun p => p.2)) [] List.Pairwise.nil).2.2
  simpa [monthsK, manyL] using this
def monthC (c : List Pts) (m : Int) : List Pts := fosC (fun _ s => delS (m * 1000) (m * 1000 + 999) s) c
theorem in_month (m : Int) (x : Smp) : (!outS (m * 1000) (m * 1000 + 999) x) = decide (x.1 / 1000 = m) := by
  unfold outS
  by_cases h : x.1 / 1000 = m
  · rw [decide_eq_true h]
    have h1 : ¬ x.1 < m * 1000 := by omega
    have h2 : ¬ m * 1000 + 999 < x.1 := by omega
    simp [h1, h2]
  · rw [decide_eq_false h]
    rcases Int.lt_or_gt_of_ne h with h1 | h1
    · have : x.1 < m * 1000 := by omega
      simp [this]
    · have : m * 1000 + 999 < x.1 := by omega
      simp [this]
theorem del_month (m : Int) (s : List Smp) : delS (m * 1000) (m * 1000 + 999) s = s.filter (fun x => decide (x.1 / 1000 = m)) := by
  unfold delS
  exact List.filter_congr fun x _ => in_month m x
/-- One more run of one month. -/
theorem month_step (c : List Pts) (id : Int) (u run : List Smp) (m : Int) (hne : run ≠ []) (hr : ∀ x ∈ run, x.1 / 1000 = m) (hu : ∀ x ∈ u, x.1 / 1000 ≠ m) (k : Int) :
    monthC (c ++ [(id, u ++ run)]) k = if k = m then monthC (c ++ [(id, u)]) m ++ [(id, run)] else monthC (c ++ [(id, u)]) k := by
  unfold monthC
  rw [fosC_snoc, fosC_snoc, fosC_snoc]
  simp only [del_month, List.filter_append]
  by_cases hk : k = m
  · subst hk
    rw [if_pos rfl]
    have e1 : u.filter (fun x => decide (x.1 / 1000 = k)) = [] := List.filter_eq_nil_iff.2 fun x hx => by simp [hu x hx]
    have e2 : run.filter (fun x => decide (x.1 / 1000 = k)) = run := List.filter_eq_self.2 fun x hx => by simp [hr x hx]
    rw [e1, e2, List.nil_append, if_neg (fun e => hne (List.eq_nil_of_length_eq_zero e))]
    simp
  · rw [if_neg hk]
    have e2 : run.filter (fun x => decide (x.1 / 1000 = k)) = [] := List.filter_eq_nil_iff.2 fun x hx => by simp [hr x hx]; exact fun e => hk e.symm
    rw [e2, List.append_nil]
theorem month_start (c : List Pts) (id k : Int) : monthC (c ++ [(id, [])]) k = monthC c k := by
  unfold monthC
  rw [fosC_snoc, if_pos (by simp [delS])]
end Go.Proofs.YtkcipfmbkokfdaaGreatDoor
