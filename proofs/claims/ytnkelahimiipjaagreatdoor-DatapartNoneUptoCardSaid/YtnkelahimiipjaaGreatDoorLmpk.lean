/-
 eskerlaw16.at: points of some ticks.
-/
import Derived.Test.YtnkelahimiipjaaGreatDoorVrk
import Derived.Deep.RegionHeld3
import Derived.Deep.RegionLaw
import Derived.Laws.Rows
import Derived.Test.YtnkelahimiipjaaGreatDoorOqk
import Derived.Test.YtnkelahimiipjaaGreatDoorQpk
import Derived.Test.YtnkelahimiipjaaGreatDoorMo3k
import Derived.Test.YtnkelahimiipjaaGreatDoorPmk
namespace Go.Proofs.YtnkelahimiipjaaGreatDoor
open Go.RowKit Go.Sort Go.Maps
attribute [local go_sem ↓] Go.wp_at_zero Go.wp_at_succ
end Go.Proofs.YtnkelahimiipjaaGreatDoor

/-
 eskerlaw16.few: are rows few, and short?
-/
namespace Go.Proofs.YtnkelahimiipjaaGreatDoor
open Go.RowKit Go.Sort Go.Maps
end Go.Proofs.YtnkelahimiipjaaGreatDoor

/-
 The document's example: what it comes to; rows that are built.
-/
namespace Go.Proofs.YtnkelahimiipjaaGreatDoor
open Go.RowKit Go.Sort Go.Maps
end Go.Proofs.YtnkelahimiipjaaGreatDoor

/-
 eskerlaw16.awake: the document's example.
-/
namespace Go.Proofs.YtnkelahimiipjaaGreatDoor
open Go.RowKit Go.Sort Go.Maps
attribute [local go_sem ↓] Go.wp_at_zero Go.wp_at_succ
end Go.Proofs.YtnkelahimiipjaaGreatDoor

/-
 StreamMerges: any rows put together, in any way.
-/
namespace Go.Proofs.YtnkelahimiipjaaGreatDoor
open Go.RowKit Go.Sort Go.Maps
attribute [local go_sem ↓] Go.wp_at_zero Go.wp_at_succ
end Go.Proofs.YtnkelahimiipjaaGreatDoor

/-
 Points in order are told by what each number has; rows of which some are put together ahead come to the same.
-/
namespace Go.Proofs.YtnkelahimiipjaaGreatDoor
theorem ofL_cons (p : Pts) (c : List Pts) (k : Int) : ofL (p :: c) k = if p.1 = k then p.2 ++ ofL c k else ofL c k := by
 unfold ofL
 rw [List.filter_cons]
 by_cases h : p.1 = k
 ·rw [if_pos h, if_pos (by rw [h]; exact beq_self_eq_true k), List.flatMap_cons]
 ·rw [if_neg h, if_neg (by rw [beq_iff_eq]; exact h)]
theorem ofL_none {c : List Pts} {k : Int} (h : ∀ p ∈ c, p.1 ≠ k) : ofL c k = [] := by
 unfold ofL
 rw [List.filter_eq_nil_iff.2 fun p hp => by rw [beq_iff_eq]; exact h p hp]
 rfl
theorem ofL_at {c : List Pts} (hc : c.Pairwise (fun a b => a.1 < b.1)) : ∀ {p : Pts}, p ∈ c → ofL c p.1 = p.2 := by
 induction c with
 | nil => intro p hp; exact absurd hp List.not_mem_nil
 | cons a c ih =>
   intro p hp
   have h := List.pairwise_cons.1 hc
   rw [ofL_cons]
   rcases List.mem_cons.1 hp with rfl | hp
   ·rw [if_pos rfl, ofL_none fun q hq e => by have := h.1 q hq; omega, List.append_nil]
   ·rw [if_neg (by have := h.1 p hp; omega), ih h.2 hp]
theorem clean_mem {c : List Pts} (hc : Clean c) (p : Pts) : p ∈ c ↔ p.2 ≠ [] ∧ ofL c p.1 = p.2 := by
 constructor
 ·intro hp; exact ⟨hc.ne p hp, ofL_at hc.ids hp⟩
 ·rintro ⟨h1, h2⟩
  have : ∃ q ∈ c, q.1 = p.1 := by
   apply Classical.byContradiction
   intro hn
   have := ofL_none (c := c) (k := p.1) fun q hq e => hn ⟨q, hq, e⟩
   rw [this] at h2
   exact h1 h2.symm
  obtain ⟨q, hq, e⟩ := this
  have h3 := ofL_at hc.ids hq
  rw [e, h2] at h3
  have : p = q := Prod.ext e.symm h3
  rw [this]; exact hq
theorem clean_ext {a b : List Pts} (ha : Clean a) (hb : Clean b) (h : ∀ k, ofL a k = ofL b k) : a = b := by
 have hm : ∀ p, p ∈ a ↔ p ∈ b := fun p => by rw [clean_mem ha, clean_mem hb, h]
 have na : a.Nodup := ha.ids.imp fun h e => by rw [e] at h; omega
 have nb : b.Nodup := hb.ids.imp fun h e => by rw [e] at h; omega
 refine List.Perm.eq_of_pairwise (le := fun x y : Pts => x.1 ≤ y.1) (fun x y hx hy h1 h2 => ?_) (ha.ids.imp fun h => by omega) (hb.ids.imp fun h => by omega) ((List.perm_ext_iff_of_nodup na nb).2 hm)
 have e : x.1 = y.1 := by omega
 have h3 := ofL_at hb.ids ((hm x).1 hx)
 have h4 := ofL_at hb.ids hy
 rw [e] at h3
 exact Prod.ext e (h3.symm.trans h4)
theorem sortS_nil : sortS [] = [] := sortS_is [] [] List.Pairwise.nil fun x => by simp
theorem sortS_id {s : List Smp} (h : s.Pairwise ltS) (hr : ∀ x ∈ s, rightS x = true) : sortS s = s := sortS_is s s h fun x => ⟨fun hx => ⟨hx, hr x hx⟩, fun hx => hx.1⟩
theorem hasL_ofL {l : List Pts} {k : Int} (h : ofL l k ≠ []) : hasL l k = true := by
 apply Classical.byContradiction
 intro hn
 refine h (ofL_none fun p hp e => hn ?_)
 unfold hasL
 exact List.any_eq_true.2 ⟨p, hp, by rw [e]; exact beq_self_eq_true k⟩
theorem fos_at {FO : Int → List Smp → List Smp} (hn : ∀ k, FO k [] = []) (l : List Pts) (k : Int) : ofL (fosC FO (rowsS l)) k = if inR k = true then FO k (sortS (ofL l k)) else [] := by
 have hids : (fosC FO (rowsS l)).Pairwise (fun a b => a.1 < b.1) := fosC_ids (rowsS_ids l)
 have hnone : (∀ p ∈ fosC FO (rowsS l), p.1 ≠ k) → ofL (fosC FO (rowsS l)) k = [] := ofL_none
 by_cases hk : inR k = true
 ·rw [if_pos hk]
  by_cases he : FO k (sortS (ofL l k)) = []
  ·rw [he]
   refine hnone fun p hp e => ?_
   obtain ⟨h1, q, hq, rfl⟩ := mem_fosC.1 hp
   have h3 := (mem_rowsS.1 hq).2.2
   dsimp only at e h1
   rw [h3, e] at h1
   exact h1 he
  ·have hl : hasL l k = true := by
    refine hasL_ofL fun e => he ?_
    rw [e, sortS_nil, hn]
   have hm : (k, FO k (sortS (ofL l k))) ∈ fosC FO (rowsS l) := mem_fosC.2 ⟨he, (k, sortS (ofL l k)), mem_rowsS.2 ⟨hl, hk, rfl⟩, rfl⟩
   exact ofL_at hids hm
 ·rw [if_neg hk]
  refine hnone fun p hp e => ?_
  obtain ⟨_, q, hq, rfl⟩ := mem_fosC.1 hp
  have h3 := (mem_rowsS.1 hq).2.1
  dsimp only at e
  rw [e] at h3
  exact hk h3
theorem clean_at (l : List Pts) (k : Int) : ofL (cleanS l) k = if inR k = true then sortS (ofL l k) else [] := fos_at (fun _ => rfl) l k
theorem clean_ofs {c : List Pts} (hc : Clean c) (k : Int) : sortS (ofL c k) = ofL c k := by
 by_cases h : ∃ q ∈ c, q.1 = k
 ·obtain ⟨q, hq, rfl⟩ := h
  rw [ofL_at hc.ids hq]
  exact sortS_id (hc.up q hq) (hc.bd q hq)
 ·rw [ofL_none fun q hq e => h ⟨q, hq, e⟩, sortS_nil]
end Go.Proofs.YtnkelahimiipjaaGreatDoor
