/-
  eskerlaw20.OracleOrder.
-/
import Derived.Test.YtkgcbeokfilehaaGreatDoorWjd
namespace Go.Proofs.YtkgcbeokfilehaaGreatDoor
open Go.RowKit Go.Sort Go.Maps
theorem sameX_nil (c : Nat) (W : World) (B : Nat) : RdX W B (.slice none 0 c) [] := ⟨none, c, rfl, Nat.zero_le _, .inl rfl⟩
/-- What is answered. -/
def askS (every keep now f t : Int) (fs : List Fil) (R : Told) : List Ser := if checkF fs = 0 then tellS every (fromS f now keep) t fs R else []
theorem liv_ask {W w : World} {o : Nat} {every keep now : Int} {R : Told} (h : Liv W w o every keep now R) (T : Tabs w) {fv : Value} {fs : List Fil} (hF : RdF w w.heap.size fv fs) (f t : Int) (hRl : R.length ≤ 60000) (hfl : FewL R) :
    Calls Tryz.prog 14 #[.pointer (some ⟨o, 0, none⟩), fv, .int .i64 f, .int .i64 t] w fun e w' =>
      ∃ v, e = .returned (.tuple #[v, .int .i64 (checkF fs)]) ∧ RdX w' w'.heap.size v (askS every keep now f t fs R) ∧ Nz v ∧ Below w.heap.size w w' := by
  unfold askS
  by_cases hq : checkF fs = 0
  · rw [if_pos hq, hq]
    exact liv_search h T hF f t hRl hfl hq
  · rw [if_neg hq]
    exact (search_fail o fv fs hF f t hq).mono fun _ _ ⟨h1, h2⟩ => ⟨_, h1, sameX_nil _ _ _, fun n c e => by cases e; rfl, h2⟩
end Go.Proofs.YtkgcbeokfilehaaGreatDoor

/-
  OracleNames in plain words: each series is told; the values of a name part the series.
-/
namespace Go.Proofs.YtkgcbeokfilehaaGreatDoor
/-- All that is there may be there. -/
def GoodR (R : Told) : Prop := ∀ r ∈ R, mayL r.1 = true ∧ rightS r.2 = true
theorem mayL_perm {a b : Lbs} (h : a.Perm b) (hb : mayL b = true) : mayL a = true := by
  obtain ⟨⟨h1, h2⟩, h3, h4⟩ := mayL_parts hb
  have e := h.length_eq
  unfold mayL
  rw [Bool.and_eq_true, Bool.and_eq_true, Bool.and_eq_true, List.all_eq_true]
  refine ⟨⟨⟨decide_eq_true (by omega), decide_eq_true (by omega)⟩, fun x hx => ?_⟩, ?_⟩
  · rw [Bool.and_eq_true]
    exact h3 x (h.mem_iff.1 hx)
  · rw [namesApart_iff] at h4 ⊢
    exact (h.pairwise_iff (fun hxy => Ne.symm hxy)).2 h4
theorem GoodR.nil : GoodR [] := fun _ h => absurd h List.not_mem_nil
theorem GoodR.add {keep now : Int} {R : Told} {l : List RowS} (h : GoodR R) : GoodR (addR keep now R l) := by
  intro x hx
  rcases mem_addR.1 hx with hx | ⟨r, hr, ht, rfl⟩
  · exact h x hx
  · unfold takesR at ht
    rw [Bool.and_eq_true, Bool.and_eq_true, Bool.and_eq_true] at ht
    exact ⟨mayL_perm (canonL_perm r.1) ht.1.1.1, ht.1.1.2⟩
section
variable {R : Told} (h : GoodR R) (nm : Str)
include h
end
end Go.Proofs.YtkgcbeokfilehaaGreatDoor
