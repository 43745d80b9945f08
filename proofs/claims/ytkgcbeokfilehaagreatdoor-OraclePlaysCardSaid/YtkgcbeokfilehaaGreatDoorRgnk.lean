import Derived.Test.YtkgcbeokfilehaaGreatDoorAnck
import Derived.Test.YtkgcbeokfilehaaGreatDoorRwk
import Derived.Carry
import Derived.Deep.RegionHeld3
namespace Go.Proofs.YtkgcbeokfilehaaGreatDoor
open Go.RowKit Go.ChangeShapes Go.WideShapes Go.ChangeAt Go.Deep

theorem len3 {l : List Value} (h : l.length = 3) : ∃ a b c, l = [a, b, c] := by
  cases l with
  | nil => simp at h
  | cons a l =>
    cases l with
    | nil => simp at h
    | cons b l =>
      cases l with
      | nil => simp at h
      | cons c l =>
        cases l with
        | nil => exact ⟨a, b, c, rfl⟩
        | cons d l => simp at h
section
variable {H : Type} {enc : TypeId × Value → H} {w : World} {base : Nat} {sp : Nat → Bool} {held : Bool}
theorem open_val {n : Nat} {cs : List Value} {x : DataW H × List MemPlace} (h : DataW.trod enc Tryz.prog w base sp held n 26 cs = some x) : ∃ m y s, cs = [.int .i64 m, .int .i64 y, .int .i64 s] := by
  obtain ⟨xs, k, _, _, hc, hxl, hf⟩ := DataW.trod_struct Tryz.underlying26 h
  have c3 : Tryz.prog.cellsOf 26 = 3 := by kernel_rfl
  have ci : Tryz.prog.cellsOf 2 = 1 := by kernel_rfl
  have cj : Tryz.prog.cellsOf 3 = 1 := by kernel_rfl
  rw [c3] at hc
  have g0 := hf 0 ⟨"M", 2, 0, false, "", "", 0⟩ rfl
  have g1 := hf 1 ⟨"E", 3, 1, false, "", "", 8⟩ rfl
  have g2 := hf 2 ⟨"S", 3, 2, false, "", "", 16⟩ rfl
  have hxl : xs.length = 3 := hxl
  rw [List.getElem?_eq_getElem (by omega)] at g0 g1 g2
  obtain ⟨m, e0, _⟩ := DataW.trod_int Tryz.underlying2 g0
  obtain ⟨y, e1, _⟩ := DataW.trod_int Tryz.underlying3 g1
  obtain ⟨s, e2, _⟩ := DataW.trod_int Tryz.underlying3 g2
  obtain ⟨a, b, c, rfl⟩ := len3 hc
  have e0 : ([a, b, c].drop 0).take (Tryz.prog.cellsOf 2) = [.int .i64 m] := e0
  have e1 : ([a, b, c].drop 1).take (Tryz.prog.cellsOf 3) = [.int .i64 y] := e1
  have e2 : ([a, b, c].drop 2).take (Tryz.prog.cellsOf 3) = [.int .i64 s] := e2
  rw [ci] at e0
  rw [cj] at e1 e2
  simp at e0 e1 e2
  exact ⟨m, y, s, by rw [e0, e1, e2]⟩
end
end Go.Proofs.YtkgcbeokfilehaaGreatDoor

namespace Go.Proofs.YtkgcbeokfilehaaGreatDoor
open Go.RowKit Go.Sort
theorem sortS_congr {l m : List Smp} (h : ∀ x, x ∈ l ↔ x ∈ m) : sortS l = sortS m :=
  sortS_is l _ (sortS_strict' m) fun x => by rw [sortS_mem, h]
end Go.Proofs.YtkgcbeokfilehaaGreatDoor

/-
  A region that draws its order, walked in the text's order, operation by operation, where some are not wanted.
-/
namespace Go.Proofs.YtkgcbeokfilehaaGreatDoor
open Go
theorem sA {α : Type} (l : List α) (i : Nat) (a : α) : l.toArray.setIfInBounds i a = (l.set i a).toArray := List.setIfInBounds_toArray l i a
theorem sZ {α : Type} (x a : α) (l : List α) : (x :: l).set 0 a = a :: l := rfl
theorem sS {α : Type} (x a : α) (l : List α) (n : Nat) : (x :: l).set (n + 1) a = x :: l.set n a := rfl
section
variable {P : Program} {Q : Exit → Act → World → Prop} {md : Region.Mode} {S : World → Prop} {l : List Oper}
theorem get_drop {i : Nat} {oi : Oper} {rest : List Oper} (h : l.drop i = oi :: rest) : l.toArray[i]? = some oi := by
  have := congrArg (fun m : List Oper => m[0]?) h
  simpa using this
/-- One that is wanted, and only reads. -/
theorem takeW {i : Nat} {oi : Oper} {rest : List Oper} {v : Value} {fuel : Nat} {listed : Array Bool} {a : Act} {w : World} (hi : l.drop i = oi :: rest)
    (hs : Region.noSelect l.toArray = true) (hf : Region.free md l.toArray listed i = true) (hr : (Region.ready md l.toArray listed).contains i = true)
    (hQ : ∀ c a w, Q (.panic c) (a.put oi.dst v) w → Q (.panic c) a w) (hw : Region.wanted oi (yielded l.toArray a.tmps) = true) (hy : ∀ w, S w → (execOp a.eval oi).run P w = .ok (.value v) w) (hS : S w)
    (h : wpAnyH P md l.toArray Q S fuel (listed.setIfInBounds i true) (a.put oi.dst v) w) : wpAnyH P md l.toArray Q S (fuel + 1) listed a w :=
  wpAnyH_take (get_drop hi) hs hf hr hQ (.inl ⟨hw, hy⟩) hS h
/-- One that is not wanted. -/
theorem takeU {i : Nat} {oi : Oper} {rest : List Oper} {fuel : Nat} {listed : Array Bool} {a : Act} {w : World} (hi : l.drop i = oi :: rest)
    (hs : Region.noSelect l.toArray = true) (hf : Region.free md l.toArray listed i = true) (hr : (Region.ready md l.toArray listed).contains i = true)
    (hQ : ∀ c a w, Q (.panic c) (a.put oi.dst undef) w → Q (.panic c) a w) (hw : Region.wanted oi (yielded l.toArray a.tmps) = false) (hS : S w)
    (h : wpAnyH P md l.toArray Q S fuel (listed.setIfInBounds i true) (a.put oi.dst undef) w) : wpAnyH P md l.toArray Q S (fuel + 1) listed a w :=
  wpAnyH_take (get_drop hi) hs hf hr hQ (.inr ⟨hw, rfl⟩) hS h
/-- One that alone may come up. -/
theorem takeC {i : Nat} {oi : Oper} {rest : List Oper} {fuel : Nat} {listed : Array Bool} {a : Act} {w : World} (hi : l.drop i = oi :: rest) (hr : Region.ready md l.toArray listed = [i])
    (hw : Region.wanted oi (yielded l.toArray a.tmps) = true)
    (h : ∀ K : Act → World → Prop, Shut (∀ a' w', S w' → (S w' → wpAnyH P md l.toArray Q S fuel (listed.setIfInBounds i true) a' w') → K a' w') → oi.wp P a w K Q) : wpAnyH P md l.toArray Q S (fuel + 1) listed a w :=
  wpAnyH_ready hr (by simp) (AllReadyH.cons (get_drop hi) (fun K hK => by
    rw [if_pos hw]
    exact h K hK) AllReadyH.nil)
end
end Go.Proofs.YtkgcbeokfilehaaGreatDoor
