import Derived.Test.YtbggdkpcgcmepaaGreatDoorPl
import Derived.Test.YtbggdkpcgcmepaaGreatDoorClp
namespace Go.Proofs.YtbggdkpcgcmepaaGreatDoor
open Go.RowKit Go.Sort

/-- The document's example. -/
def awL : List Smp := [(20, 1, 0, 0), (5, 1, 0, 0), (10, 1, 0, 0), (11, 1, 0, 0), (19, 1, 0, 0), (10, 2, 0, 0)]
def awS : List Smp := [(5, 1, 0, 0), (10, 1, 0, 0), (10, 2, 0, 0), (11, 1, 0, 0), (19, 1, 0, 0), (20, 1, 0, 0)]
def awD : List Smp := [(10, 2, 0, 0), (20, 1, 0, 0)]
theorem aw_bits : bitsV 1 0 0 < bitsV 2 0 0 := by decide +kernel
theorem aw_lt : ltS (10, 1, 0, 0) (10, 2, 0, 0) := by
  unfold ltS Smp.bits
  have := aw_bits
  right
  refine ⟨rfl, ?_⟩
  simp only
  omega
theorem ltS_t {a b : Smp} (h : a.1 < b.1) : ltS a b := .inl h
theorem awS_sorted : awS.Pairwise ltS := by
  unfold awS
  simp only [List.pairwise_cons, List.mem_cons, List.not_mem_nil, or_false, forall_eq_or_imp, forall_eq, List.Pairwise.nil, and_true, false_implies, implies_true]
  refine ⟨⟨?_, ?_, ?_, ?_, ?_⟩, ⟨?_, ?_, ?_, ?_⟩, ⟨?_, ?_, ?_⟩, ⟨?_, ?_⟩, ?_⟩ <;> first | exact ltS_t (by decide) | exact aw_lt
theorem aw_sort : sortS awL = awS := by
  refine sortS_is _ _ awS_sorted fun x => ?_
  have hr : ∀ y ∈ awL, rightS y = true := by decide +kernel
  have hm : ∀ x, x ∈ awS ↔ x ∈ awL := by
    intro x; unfold awS awL; simp only [List.mem_cons, List.not_mem_nil, or_false]
    constructor <;> (intro h; rcases h with h | h | h | h | h | h <;> simp [h])
  rw [hm x]
  exact ⟨fun h => ⟨h, hr x h⟩, fun h => h.1⟩
theorem aw_dedup : dedupS 10 awL = awD := by
  unfold dedupS; rw [aw_sort]; decide +kernel
theorem aw_cmp : cmpS (10, 2, 0, 0) (20, 1, 0, 0) = -1 := by
  have h : cmpS (10, 2, 0, 0) (20, 1, 0, 0) = orI (cmpI 10 20) (cmpV (10, 2, 0, 0) (20, 1, 0, 0)) := rfl
  rw [h]; simp [cmpI, orI]
theorem aw_clip : (delS 0 10 awD).length = 1 := by decide +kernel
theorem aw_sort2 : sortS awD = awD := by
  refine sortS_is _ _ ?_ fun x => ?_
  · unfold awD
    simp only [List.pairwise_cons, List.mem_cons, List.not_mem_nil, or_false, forall_eq, List.Pairwise.nil, and_true, false_implies, implies_true]
    exact ltS_t (by decide)
  · have hr : ∀ y ∈ awD, rightS y = true := by decide +kernel
    exact ⟨fun h => ⟨h, hr x h⟩, fun h => h.1⟩
theorem aw_right : rightS (10, 2, 0, 0) = true := by decide +kernel
theorem aw_ivl : ivl 11 10 = 2 := by decide +kernel
end Go.Proofs.YtbggdkpcgcmepaaGreatDoor
