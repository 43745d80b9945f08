/-
  The plain functions: values and samples as numbers. No program in sight.
-/
namespace Go.Proofs.YtbggdkpcgcmepaaGreatDoor

/-- May a value be? -/
def rightV (m e s : Int) : Bool :=
  if s ≠ 0 then decide (1 ≤ s ∧ s ≤ 4 ∧ m = 0 ∧ e = 0)
  else if m ≤ -1000000000000000 ∨ 1000000000000000 ≤ m then false
  else if m = 0 then decide (e = 0)
  else decide (m % 10 ≠ 0 ∧ -300 ≤ e ∧ e ≤ 290)
theorem tmod10 (m : Int) : (m.tmod 10 = 0) = (m % 10 = 0) := by
  rw [← Int.dvd_iff_tmod_eq_zero, Int.dvd_iff_emod_eq_zero]
theorem tmod10_ne {m : Int} (h : m % 10 ≠ 0) : ¬ m.tmod 10 = 0 := by rw [tmod10]; exact h
end Go.Proofs.YtbggdkpcgcmepaaGreatDoor
