/-
  What comes in: texts, labels, rows, filters, acts, what is asked.
-/
import Derived.Test.YtkgcbeokfilehaaGreatDoorRgnd
import Derived.Lib.SmallJoins
import Derived.ChangeMaps5
import Derived.Test.YtkgcbeokfilehaaGreatDoorVid
namespace Go.Proofs.YtkgcbeokfilehaaGreatDoor
open Go.RowKit Go.ChangeShapes Go.WideShapes Go.ChangeAt Go.Deep
theorem choose_list {α : Type} {Q : Nat → α → Prop} : ∀ {n : Nat}, (∀ i, i < n → ∃ y, Q i y) → ∃ l : List α, l.length = n ∧ ∀ i (hi : i < l.length), Q i l[i]
  | 0, _ => ⟨[], rfl, fun i hi => by simp at hi⟩
  | n + 1, h => by
    obtain ⟨l, h1, h2⟩ := choose_list (n := n) fun i hi => h i (by omega)
    obtain ⟨y, hy⟩ := h n (by omega)
    refine ⟨l ++ [y], by simp [h1], fun i hi => ?_⟩
    rw [List.length_append, List.length_singleton] at hi
    by_cases hn : i < l.length
    · rw [List.getElem_append_left hn]; exact h2 i hn
    · have hin : i = n := by omega
      subst hin
      rw [List.getElem_append_right (by omega)]
      simpa using hy
/-- Each piece of what comes in has a size that memory can have. -/
def Fits {H : Type} (P : Program) (t : TypeId) (d : DataW H) : Prop := ∀ z ∈ d.weights P t, z ≤ reachBytes
theorem fits_cons {H : Type} {P : Program} {t : TypeId} {ts : List TypeId} {d : DataW H} {r : List (DataW H)} (h : (DataW.weightsEach P (t :: ts) (d :: r)).all (· ≤ reachBytes) = true) : Fits P t d ∧ (DataW.weightsEach P ts r).all (· ≤ reachBytes) = true := by
  rw [DataW.weightsEach, List.all_append, Bool.and_eq_true] at h
  exact ⟨fun z hz => by simpa using List.all_eq_true.1 h.1 z hz, h.2⟩
theorem mem_weightsAll {H : Type} {P : Program} {e : TypeId} {d : DataW H} {z : Nat} : ∀ {l : List (DataW H)}, d ∈ l → z ∈ d.weights P e → z ∈ DataW.weightsAll P e l
  | [], h, _ => absurd h List.not_mem_nil
  | a :: l, h, hz => by
    rw [DataW.weightsAll]
    rcases List.mem_cons.1 h with rfl | h
    · exact List.mem_append_left _ hz
    · exact List.mem_append_right _ (mem_weightsAll h hz)
theorem mem_weightsEach {H : Type} {P : Program} {z : Nat} {t : TypeId} {d : DataW H} : ∀ {ts : List TypeId} {ds : List (DataW H)} {i : Nat}, ts[i]? = some t → ds[i]? = some d → z ∈ d.weights P t → z ∈ DataW.weightsEach P ts ds
  | [], _, i, h, _, _ => by simp at h
  | _ :: _, [], i, _, h, _ => by simp at h
  | t' :: ts, d' :: ds, 0, h1, h2, hz => by
    rw [DataW.weightsEach]
    simp at h1 h2
    subst h1 h2
    exact List.mem_append_left _ hz
  | t' :: ts, d' :: ds, i + 1, h1, h2, hz => by
    rw [DataW.weightsEach]
    exact List.mem_append_right _ (mem_weightsEach (by simpa using h1) (by simpa using h2) hz)
section
variable {H : Type} {enc : TypeId × Value → H} {W : World}
theorem open_G {t e : TypeId} {k fuel : Nat} {cs : List Value} {x : DataW H × List MemPlace} (ht : Tryz.prog.underlying t = some (.slice e)) (hk : Tryz.prog.cellsOf e = k) (hk0 : 0 < k) (hw : Fits Tryz.prog t x.1) (h : DataW.trod enc Tryz.prog W 0 (fun _ => true) true fuel t cs = some x) :
    ∃ A n c, cs = [.slice A n c] ∧ n * Tryz.prog.bytesOf e ≤ reachBytes ∧ n ≤ c ∧ (A = none → n = 0 ∧ c = 0) ∧ (n = 0 ∨ ∃ b o, A = some ⟨b, o, none⟩ ∧ b < W.heap.size ∧ ∀ i, i < n → ∃ cs' fl y, cs'.length = k ∧ (∀ j, j < k → W.cell? ⟨b, o + i * k + j, none⟩ = cs'[j]?) ∧ DataW.trod enc Tryz.prog W 0 (fun _ => true) true fl e cs' = some y ∧ Fits Tryz.prog e y.1) := by
  rcases open_slice ht h with ⟨h0, _⟩ | ⟨a, len, cap, m, n, D, Pl, h0, _, hlc, _, hm, hxe, hx⟩
  · exact ⟨none, 0, 0, h0, by omega, Nat.le_refl _, fun _ => ⟨rfl, rfl⟩, .inl rfl⟩
  · have hm2 : m = cap := by rw [hm]; rfl
    have hx1 : x.1 = .slice ((List.range len).map D) ((List.range (m - len)).map fun j => D (len + j)) := congrArg (·.1) hxe
    unfold Fits at hw
    rw [hx1, DataW.weights, ht] at hw
    have hsz : len * Tryz.prog.bytesOf e ≤ reachBytes := by
      have h9 := hw _ List.mem_cons_self
      rw [List.length_map, List.length_range] at h9
      exact Nat.le_trans (Nat.mul_le_mul_right _ (Nat.le_add_right _ _)) h9
    have hfi : ∀ i, i < len → Fits Tryz.prog e (D i) := fun i hi z hz => hw z (List.mem_cons_of_mem _ (List.mem_append_left _ (mem_weightsAll (List.mem_map.2 ⟨i, List.mem_range.2 hi, rfl⟩) hz)))
    refine ⟨some a, len, cap, h0, hsz, hlc, fun e => (by cases e), ?_⟩
    rcases Nat.eq_zero_or_pos len with h1 | h1
    · exact .inl h1
    · have each : ∀ i, i < len → ∃ cs', cs'.length = k ∧ (∀ j, j < k → W.cell? (a.add (i * k + j)) = cs'[j]?) ∧ ∃ y, DataW.trod enc Tryz.prog W 0 (fun _ => true) true n e cs' = some y ∧ Fits Tryz.prog e y.1 := by
        intro i hi
        obtain ⟨cs', k1, k2⟩ := hx i (by omega)
        rw [hk] at k1
        obtain ⟨_, hl, hc⟩ := World.cells?_some k1
        refine ⟨cs', hl, fun j hj => ?_, _, k2, hfi i hi⟩
        have := hc j hj
        rwa [add_add] at this
      obtain ⟨b, o, spot⟩ := a
      obtain ⟨cs0, hl0, hy0, _, _⟩ := each 0 h1
      have hc0 : W.cell? ((⟨b, o, spot⟩ : Addr).add (0 * k + 0)) = some (cs0[0]'(by rw [hl0]; exact hk0)) := (hy0 0 hk0).trans (List.getElem?_eq_getElem (by rw [hl0]; exact hk0))
      have hs : spot = none := by simpa [Addr.add] using World.cell?_spot hc0
      subst hs
      rw [add_at] at hc0
      refine .inr ⟨b, o, rfl, lt_of_cell hc0, fun i hi => ?_⟩
      obtain ⟨cs', k1, k2, y, k3, k4⟩ := each i hi
      refine ⟨cs', n, y, k1, fun j hj => ?_, k3, k4⟩
      have := k2 j hj
      rw [add_at, ← Nat.add_assoc] at this
      exact this
theorem open_struct {t : TypeId} {fs : Array Field} {fuel : Nat} {cs : List Value} {x : DataW H × List MemPlace} (ht : Tryz.prog.underlying t = some (.struct fs)) (hw : Fits Tryz.prog t x.1) (h : DataW.trod enc Tryz.prog W 0 (fun _ => true) true fuel t cs = some x) :
    cs.length = Tryz.prog.cellsOf t ∧ ∃ n, ∀ (i : Nat) (f : Field), fs[i]? = some f → ∃ y, DataW.trod enc Tryz.prog W 0 (fun _ => true) true n f.type ((cs.drop f.offset).take (Tryz.prog.cellsOf f.type)) = some y ∧ Fits Tryz.prog f.type y.1 := by
  obtain ⟨xs, k, _, hxe, hc, hxl, hf⟩ := DataW.trod_struct ht h
  refine ⟨hc, k, fun i f hi => ?_⟩
  have hil : i < xs.length := by
    rw [hxl]; exact (Array.getElem?_eq_some_iff.1 hi).1
  have g := hf i f hi
  rw [List.getElem?_eq_getElem hil] at g
  refine ⟨xs[i], g, fun z hz => hw z ?_⟩
  have e : x.1 = .agg (xs.map (·.1)) := congrArg (·.1) hxe
  rw [e, DataW.weights, ht]
  refine mem_weightsEach (i := i) (t := f.type) (d := xs[i].1) ?_ ?_ hz
  · rw [List.getElem?_map, Array.getElem?_toList, hi]; rfl
  · rw [List.getElem?_map, List.getElem?_eq_getElem hil]; rfl
theorem open_B {fuel : Nat} {cs : List Value} {x : DataW H × List MemPlace} (h : DataW.trod enc Tryz.prog W 0 (fun _ => true) true fuel 4 cs = some x) : ∃ b : Bool, cs = [.bool b] := by
  obtain ⟨b, rfl, _⟩ := DataW.trod_bool Tryz.underlying4 h
  exact ⟨b, rfl⟩
theorem open_I {t : TypeId} (ht : Tryz.prog.underlying t = some (.int .i64)) {fuel : Nat} {cs : List Value} {x : DataW H × List MemPlace} (h : DataW.trod enc Tryz.prog W 0 (fun _ => true) true fuel t cs = some x) : ∃ z : Int, cs = [.int .i64 z] := by
  obtain ⟨z, rfl, _⟩ := DataW.trod_int ht h
  exact ⟨z, rfl⟩
theorem len2x {α : Type} {l : List α} (h : l.length = 2) : ∃ z1 z2, l = [z1, z2] := by
  match l, h with
  | [z1, z2], _ => exact ⟨z1, z2, rfl⟩
theorem len4x {α : Type} {l : List α} (h : l.length = 4) : ∃ z1 z2 z3 z4, l = [z1, z2, z3, z4] := by
  match l, h with
  | [z1, z2, z3, z4], _ => exact ⟨z1, z2, z3, z4, rfl⟩
theorem len5x {α : Type} {l : List α} (h : l.length = 5) : ∃ z1 z2 z3 z4 z5, l = [z1, z2, z3, z4, z5] := by
  match l, h with
  | [z1, z2, z3, z4, z5], _ => exact ⟨z1, z2, z3, z4, z5, rfl⟩
end
end Go.Proofs.YtkgcbeokfilehaaGreatDoor
