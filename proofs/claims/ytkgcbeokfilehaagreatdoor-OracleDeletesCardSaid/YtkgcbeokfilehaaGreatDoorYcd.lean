/-
  eskerlaw20.OraclePlays.
-/
import Derived.Test.YtkgcbeokfilehaaGreatDoorYbd
namespace Go.Proofs.YtkgcbeokfilehaaGreatDoor
open Go.RowKit Go.Sort Go.Maps
/-- Four cells of a block. -/
theorem cells4 {w : World} {b : Nat} {u0 u1 u2 u3 : Value} {t : TypeId} (h : w.heap[b]? = some (.cells #[u0, u1, u2, u3] t (0, 0))) : (w.cell? ⟨b, 0, none⟩ = some u0 ∧ w.cell? ⟨b, 1, none⟩ = some u1 ∧ w.cell? ⟨b, 2, none⟩ = some u2 ∧ w.cell? ⟨b, 3, none⟩ = some u3) ∧ ∀ i, w.frozen? ⟨b, i, none⟩ = false := by
  have q : ∀ i, w.cell? ⟨b, i, none⟩ = (#[u0, u1, u2, u3] : Array Value)[i]? := fun i => by simp [World.cell?, h]
  exact ⟨⟨q 0, q 1, q 2, q 3⟩, fun i => by simp [World.frozen?, h]⟩
theorem set4 {w : World} {b : Nat} {u0 u1 u2 u3 v0 v1 v2 v3 : Value} {t : TypeId} (h : w.heap[b]? = some (.cells #[u0, u1, u2, u3] t (0, 0))) : ((((w.setCell ⟨b, 0, none⟩ v0).setCell ⟨b, 1, none⟩ v1).setCell ⟨b, 2, none⟩ v2).setCell ⟨b, 3, none⟩ v3).heap[b]? = some (.cells #[v0, v1, v2, v3] t (0, 0)) := by
  have h0 := heap_setCell_same w b 0 _ _ v0 h
  have h1 := heap_setCell_same _ b 1 _ _ v1 h0
  have h2 := heap_setCell_same _ b 2 _ _ v2 h1
  have h3 := heap_setCell_same _ b 3 _ _ v3 h2
  simpa using h3
end Go.Proofs.YtkgcbeokfilehaaGreatDoor
