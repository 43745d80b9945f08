/-
 stream.Merge; stream.Clean's answer by the numbers.
-/
import Derived.Test.YtnkelahimiipjaaGreatDoorMmk
import Derived.Test.YtnkelahimiipjaaGreatDoorQpk
import Derived.Test.YtnkelahimiipjaaGreatDoorPmk
import Derived.Test.YtnkelahimiipjaaGreatDoorOwk
namespace Go.Proofs.YtnkelahimiipjaaGreatDoor
open Go.RowKit Go.Sort Go.Maps
attribute [local go_sem ↓] Go.wp_at_zero Go.wp_at_succ
theorem scleanO (v : Value) (l : List Pts) (W : World) (T : Tabs W) (hR : RdP W W.heap.size v l) (hwf : ∀ p ∈ l, (Lit.int .i64 p.1).wf = true) (hn2 : l.length ≤ 990000000) (hn3 : manyL l ≤ 990000000) :
  Calls Tryz.prog 43 #[v] W fun e w' => ∃ r, e = .returned r ∧ RdO w' W.heap.size r (cleanS l) ∧ Below W.heap.size W w' :=
 (sclean_walkO v l W T hR hwf hn2 hn3).mono fun e w' ⟨r, ks, h1, h2, h3, h4⟩ => ⟨r, h1, by rw [h2.rows] at h3; exact h3, h4⟩
theorem sclean (v : Value) (l : List Pts) (W : World) (T : Tabs W) (hR : RdP W W.heap.size v l) (hwf : ∀ p ∈ l, (Lit.int .i64 p.1).wf = true) (hn2 : l.length ≤ 990000000) (hn3 : manyL l ≤ 990000000) :
  Calls Tryz.prog 43 #[v] W fun e w' => ∃ r, e = .returned r ∧ RdP w' w'.heap.size r (cleanS l) ∧ Below W.heap.size W w' :=
 (sclean_walk v l W T hR hwf hn2 hn3).mono fun e w' ⟨r, ks, h1, h2, h3, h4⟩ => ⟨r, h1, by rw [h2.rows] at h3; exact h3, h4⟩
theorem smany (v : Value) (l : List Pts) (W : World) (T : Tabs W) (hR : RdP W W.heap.size v l) (hwf : ∀ p ∈ l, (Lit.int .i64 p.1).wf = true) (hn2 : l.length ≤ 990000000) (hn3 : manyL l ≤ 990000000) :
  Calls Tryz.prog 30 #[v] W fun e w' => e = .returned (.int .i64 (manyL (cleanS l))) ∧ Below W.heap.size W w' :=
 (smany_walk v l W T hR hwf hn2 hn3 fun ks h => by rw [h.rows]; exact ⟨Nat.le_trans (cleanS_length l) hn2, Nat.le_trans (cleanS_many l) hn3⟩).mono fun e w' ⟨ks, h1, h2, h3⟩ => ⟨by rw [h2.rows] at h1; exact h1, h3⟩
end Go.Proofs.YtnkelahimiipjaaGreatDoor

namespace Go.Proofs.YtnkelahimiipjaaGreatDoor
open Go.RowKit Go.Sort
theorem sortS_congr {l m : List Smp} (h : ∀ x, x ∈ l ↔ x ∈ m) : sortS l = sortS m :=
 sortS_is l _ (sortS_strict' m) fun x => by rw [sortS_mem, h]
end Go.Proofs.YtnkelahimiipjaaGreatDoor

/-
 From when to when, and the months: what the program counts is what the document counts.
-/
namespace Go.Proofs.YtnkelahimiipjaaGreatDoor
def mnT (a : Int) (s : List Smp) : Int := s.foldl (fun a x => min a x.1) a
def mxT (b : Int) (s : List Smp) : Int := s.foldl (fun b x => max b x.1) b
def spanS (c : List Pts) : Int × Int × Bool := if c = [] then (0, 0, false) else (mnT 1099511627776 (c.flatMap (fun p => p.2)), mxT 0 (c.flatMap (fun p => p.2)), true)
theorem mnT_append (a : Int) (s t : List Smp) : mnT a (s ++ t) = mnT (mnT a s) t := by unfold mnT; rw [List.foldl_append]
theorem mxT_append (a : Int) (s t : List Smp) : mxT a (s ++ t) = mxT (mxT a s) t := by unfold mxT; rw [List.foldl_append]
theorem mnT_sorted (s : List Smp) : ∀ a, s.Pairwise (fun a b => a.1 ≤ b.1) → ∀ h : 0 < s.length, mnT a s = min a s[0].1 := by
 induction s with
 | nil => intro a _ h; exact absurd h (Nat.lt_irrefl 0)
 | cons x s ih =>
   intro a hp _
   have p := List.pairwise_cons.1 hp
   show mnT (min a x.1) s = min a x.1
   by_cases hs : 0 < s.length
   ·rw [ih (min a x.1) p.2 hs]
    have := p.1 s[0] (List.getElem_mem hs)
    omega
   ·have : s = [] := List.eq_nil_of_length_eq_zero (by omega)
    subst this
    rfl
theorem mxT_sorted (s : List Smp) : ∀ b, s.Pairwise (fun a b => a.1 ≤ b.1) → ∀ h : s.length - 1 < s.length, mxT b s = max b s[s.length - 1].1 := by
 induction s with
 | nil => intro a _ h; exact absurd h (Nat.lt_irrefl 0)
 | cons x s ih =>
   intro b hp _
   have p := List.pairwise_cons.1 hp
   show mxT (max b x.1) s = _
   by_cases hs : 0 < s.length
   ·have hl : s.length - 1 < s.length := by omega
    rw [ih (max b x.1) p.2 hl]
    have e : (x :: s)[(x :: s).length - 1]'(by simp) = s[s.length - 1] := by
     simp only [List.length_cons, Nat.add_sub_cancel]
     rw [List.getElem_cons]
     rw [dif_neg (by omega)]
    rw [e]
    have := p.1 s[s.length - 1] (List.getElem_mem hl)
    omega
   ·have : s = [] := List.eq_nil_of_length_eq_zero (by omega)
    subst this
    rfl
theorem many_mem {p : Pts} : ∀ {c : List Pts}, p ∈ c → p.2.length ≤ manyL c
 | [], h => absurd h List.not_mem_nil
 | a :: c, h => by
   have e : manyL (a :: c) = a.2.length + manyL c := by simp [manyL]
   rcases List.mem_cons.1 h with rfl | h
   ·omega
   ·have := many_mem h; omega
/-- What is told of points in order. -/
structure Clean (c : List Pts) : Prop where
 ids : c.Pairwise (fun a b => a.1 < b.1)
 inr : ∀ p ∈ c, inR p.1 = true
 ne : ∀ p ∈ c, p.2 ≠ []
 up : ∀ p ∈ c, p.2.Pairwise ltS
 bd : ∀ p ∈ c, ∀ x ∈ p.2, rightS x = true
theorem rightS_bd {x : Smp} (h : rightS x = true) : 0 ≤ x.1 ∧ x.1 ≤ 1099511627776 := by
 unfold rightS at h
 rw [Bool.and_eq_true, decide_eq_true_eq] at h
 exact h.1
theorem tick_le {s : List Smp} (h : s.Pairwise ltS) : s.Pairwise (fun a b => a.1 ≤ b.1) := h.imp fun h => by unfold ltS at h; omega
theorem mem_fosC {FO : Int → List Smp → List Smp} {l : List Pts} {p : Pts} : p ∈ fosC FO l ↔ p.2 ≠ [] ∧ ∃ q ∈ l, p = (q.1, FO q.1 q.2) := by
 unfold fosC
 rw [List.mem_filter, List.mem_map]
 constructor
 ·rintro ⟨⟨q, hq, rfl⟩, h⟩
  refine ⟨fun e => ?_, q, hq, rfl⟩
  rw [decide_eq_true_eq] at h
  exact h (congrArg List.length e)
 ·rintro ⟨h, q, hq, rfl⟩
  exact ⟨⟨q, hq, rfl⟩, by simpa using h⟩
theorem mem_rowsS {l : List Pts} {p : Pts} : p ∈ rowsS l ↔ hasL l p.1 = true ∧ inR p.1 = true ∧ p.2 = sortS (ofL l p.1) := by
 unfold rowsS
 rw [List.mem_map]
 constructor
 ·rintro ⟨k, hk, rfl⟩
  have := (idsR_mem l k).1 hk
  exact ⟨this.1, this.2, rfl⟩
 ·rintro ⟨h1, h2, h3⟩
  exact ⟨p.1, (idsR_mem l p.1).2 ⟨h1, h2⟩, by rw [← h3]⟩
theorem rowsS_ids (l : List Pts) : (rowsS l).Pairwise (fun a b => a.1 < b.1) := by
 unfold rowsS
 rw [List.pairwise_map]
 exact idsR_lt l
theorem fosC_ids {FO : Int → List Smp → List Smp} {l : List Pts} (h : l.Pairwise (fun a b => a.1 < b.1)) : (fosC FO l).Pairwise (fun a b => a.1 < b.1) := by
 unfold fosC
 refine List.Pairwise.filter _ ?_
 rw [List.pairwise_map]
 exact h
theorem fos_clean {FO : Int → List Smp → List Smp} (hs : ∀ k s, s.Pairwise ltS → (FO k s).Pairwise ltS) (hm : ∀ k s x, x ∈ FO k s → x ∈ s ∧ True) (l : List Pts) : Clean (fosC FO (rowsS l)) := by
 refine ⟨fosC_ids (rowsS_ids l), fun p hp => ?_, fun p hp => (mem_fosC.1 hp).1, fun p hp => ?_, fun p hp x hx => ?_⟩
 ·obtain ⟨_, q, hq, rfl⟩ := mem_fosC.1 hp
  exact (mem_rowsS.1 hq).2.1
 ·obtain ⟨_, q, hq, rfl⟩ := mem_fosC.1 hp
  refine hs _ _ ?_
  rw [(mem_rowsS.1 hq).2.2]
  exact sortS_strict' _
 ·obtain ⟨_, q, hq, rfl⟩ := mem_fosC.1 hp
  have h1 := (hm _ _ _ hx).1
  rw [(mem_rowsS.1 hq).2.2] at h1
  exact ((sortS_mem _ _).1 h1).2
theorem cleanS_clean (l : List Pts) : Clean (cleanS l) := fos_clean (fun _ _ h => h) (fun _ _ _ h => ⟨h, trivial⟩) l
/-- The program's way: each row's first and last. -/
theorem span_fold (c : List Pts) (a b : Int) (p : Pts) (hp : p.2.Pairwise ltS) (h0 : 0 < p.2.length) (h1 : p.2.length - 1 < p.2.length) :
  mnT a ((c ++ [p]).flatMap (fun p => p.2)) = min (mnT a (c.flatMap (fun p => p.2))) p.2[0].1 ∧ mxT b ((c ++ [p]).flatMap (fun p => p.2)) = max (mxT b (c.flatMap (fun p => p.2))) p.2[p.2.length - 1].1 := by
 rw [List.flatMap_append, mnT_append, mxT_append]
 have e : [p].flatMap (fun p : Pts => p.2) = p.2 := by simp
 rw [e, mnT_sorted _ _ (tick_le hp) h0, mxT_sorted _ _ (tick_le hp) h1]
 exact ⟨rfl, rfl⟩
end Go.Proofs.YtnkelahimiipjaaGreatDoor

/-
 Rows of points, and rows of ints, that the call makes itself: appends.
-/
namespace Go.Proofs.YtnkelahimiipjaaGreatDoor
open Go.RowKit Go.Sort Go.Maps
end Go.Proofs.YtnkelahimiipjaaGreatDoor
