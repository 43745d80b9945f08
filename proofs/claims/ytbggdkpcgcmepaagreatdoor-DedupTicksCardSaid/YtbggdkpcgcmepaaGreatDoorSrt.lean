import Derived.Test.YtbggdkpcgcmepaaGreatDoorDr
import Derived.Test.YtbggdkpcgcmepaaGreatDoorSortShelf
namespace Go.Proofs.YtbggdkpcgcmepaaGreatDoor
open Go.RowKit Go.Sort Go.Shelf

theorem cmpI_neg (a b : Int) : cmpI a b < 0 ↔ a < b := by unfold cmpI; split <;> (try split) <;> omega
theorem cmpI_zero (a b : Int) : cmpI a b = 0 ↔ a = b := by unfold cmpI; split <;> (try split) <;> omega
/-- Is a ahead of b? -/
def ltS (a b : Smp) : Prop := a.1 < b.1 ∨ (a.1 = b.1 ∧ a.bits < b.bits)
theorem cmpS_neg (a b : Smp) : cmpS a b < 0 ↔ ltS a b := by
  unfold cmpS orI cmpV ltS
  have h1 := cmpI_neg a.1 b.1
  have h2 := cmpI_zero a.1 b.1
  have h3 := cmpI_neg (Smp.bits a) (Smp.bits b)
  by_cases h : cmpI a.1 b.1 ≠ 0
  · rw [if_pos h]; omega
  · rw [if_neg h]; omega
theorem ltOf_iff (a b : Smp) : ltOf cmpS a b = true ↔ ltS a b := by
  unfold ltOf; rw [decide_eq_true_eq, cmpS_neg]
theorem swoS : SWO (ltOf cmpS) where
  irrefl x := by
    rw [Bool.eq_false_iff]; intro h; rw [ltOf_iff] at h; unfold ltS at h; omega
  trans x y z h1 h2 := by rw [ltOf_iff] at *; unfold ltS at *; omega
  ntrans x y z h1 h2 := by
    rw [Bool.eq_false_iff] at *
    intro h; rw [ne_eq, ltOf_iff] at h1 h2; rw [ltOf_iff] at h; unfold ltS at *; omega

/-- The samples as Go's sort lays them. -/
def sortA (d : Array Smp) : Array Smp := pdq (ltOf cmpS) d 0 d.size (Lib.bitLen d.size) true true

theorem grownBy_sortWorld (w : World) (blk n : Nat) (d : Array Smp) (os : Array Obj) (_hb : blk < w.heap.size) : w.grownBy (sortWorldK encS 4 w blk 0 n d os) (some blk) := by
  unfold sortWorldK putRowK putRow mapBlock grow Sort.ahead
  refine ⟨rfl, rfl, rfl, by simp, fun k hk hne => ?_⟩
  have hkb : blk ≠ k := fun e => hne (by rw [e])
  rw [Array.getElem?_append_left (by simpa using hk), Array.getElem?_modify, if_neg hkb]
theorem sortA_size (d : Array Smp) : (sortA d).size = d.size :=
  (pdq_sorts (ltOf cmpS) swoS d 0 d.size (Lib.bitLen d.size) true true (Nat.zero_le _) (Nat.le_refl _) (Or.inl rfl)).1.1
theorem sort_walk (blk cap : Nat) (d : Array Smp) (w0 w : World) (T : Tabs w0) (hB : Below w0.heap.size w0 w) (hblk : w0.heap.size ≤ blk) (hblk2 : blk < w.heap.size) (hH : HoldsK encS 4 w blk 0 d) (hsz : d.size < 4611686018427387904) :
    Calls Tryz.prog 29 #[.slice (some ⟨blk, 0, none⟩) d.size cap, .func (.func 27) #[] #[]] w fun e w' =>
      e = .returned (.tuple #[]) ∧ HoldsK encS 4 w' blk 0 (sortA d) ∧ w.grownBy w' (some blk) := by
  have eg : ∀ args w, (callFunc 27 args).run Tryz.prog w = .ok (.enter 27 args) w := enters_of Tryz.func27 (by kernel_rfl) rfl
  have hcmp : CmpLays Tryz.prog 27 #[] encS 4 cmpS blk 0 d.size w := fun m os dk hdk x y => by
    have hg := grownBy_sortWorld w blk m dk os hblk2
    have hT : Tabs (sortWorldK encS 4 w blk 0 m dk os) := T.below (hB.grown hg (by have := hB.size; omega) (fun k e => by cases e; exact hblk))
    exact (scmp_walk x y _ hT).mono fun e w' ⟨he, hE⟩ => by
      obtain ⟨k, o, hk⟩ := hE.out
      exact ⟨he, k, o, hk⟩
  refine (AnyQ.slices_SortFunc_eq Tryz.sortS 4 Tryz.isAgg43 Tryz.sizeOf43 encS (fun _ => rfl) (fun x v hv => by simp [encS] at hv; rcases hv with rfl | rfl | rfl | rfl <;> rfl) cmpS swoS 27 #[] blk 0 cap d w eg hcmp hH hblk2 hsz).mono fun e w' ⟨he, n, os, hw⟩ => ⟨he, ?_, ?_⟩
  · rw [hw]; exact holdsK_sortWorldK_c encS 4 w blk 0 d _ n os hH hblk2 (sortA_size d)
  · rw [hw]; exact grownBy_sortWorld w blk n _ os hblk2
end Go.Proofs.YtbggdkpcgcmepaaGreatDoor
