import Derived.Test.YtbggdkpcgcmepaaGreatDoorAnc
import Derived.Test.YtbggdkpcgcmepaaGreatDoorRw
import Derived.Carry
namespace Go.Proofs.YtbggdkpcgcmepaaGreatDoor
open Go.RowKit Go.ChangeShapes Go.WideShapes Go.ChangeAt Go.Deep

theorem len3 {l : List Value} (h : l.length = 3) : ∃ a b c, l = [a, b, c] := by
  cases l with
  | nil => simp at h
  | cons a l =>
    cases l with
    | nil => simp at h
    | cons b l =>
      cases l with
      | nil => simp at h
      | cons c l =>
        cases l with
        | nil => exact ⟨a, b, c, rfl⟩
        | cons d l => simp at h
section
variable {H : Type} {enc : TypeId × Value → H} {w : World} {base : Nat} {sp : Nat → Bool} {held : Bool}
theorem open_val {n : Nat} {cs : List Value} {x : DataW H × List MemPlace} (h : DataW.trod enc Tryz.prog w base sp held n 26 cs = some x) : ∃ m y s, cs = [.int .i64 m, .int .i64 y, .int .i64 s] := by
  obtain ⟨xs, k, _, _, hc, hxl, hf⟩ := DataW.trod_struct Tryz.underlying26 h
  have c3 : Tryz.prog.cellsOf 26 = 3 := by kernel_rfl
  have ci : Tryz.prog.cellsOf 2 = 1 := by kernel_rfl
  have cj : Tryz.prog.cellsOf 3 = 1 := by kernel_rfl
  rw [c3] at hc
  have g0 := hf 0 ⟨"M", 2, 0, false, "", "", 0⟩ rfl
  have g1 := hf 1 ⟨"E", 3, 1, false, "", "", 8⟩ rfl
  have g2 := hf 2 ⟨"S", 3, 2, false, "", "", 16⟩ rfl
  have hxl : xs.length = 3 := hxl
  rw [List.getElem?_eq_getElem (by omega)] at g0 g1 g2
  obtain ⟨m, e0, _⟩ := DataW.trod_int Tryz.underlying2 g0
  obtain ⟨y, e1, _⟩ := DataW.trod_int Tryz.underlying3 g1
  obtain ⟨s, e2, _⟩ := DataW.trod_int Tryz.underlying3 g2
  obtain ⟨a, b, c, rfl⟩ := len3 hc
  have e0 : ([a, b, c].drop 0).take (Tryz.prog.cellsOf 2) = [.int .i64 m] := e0
  have e1 : ([a, b, c].drop 1).take (Tryz.prog.cellsOf 3) = [.int .i64 y] := e1
  have e2 : ([a, b, c].drop 2).take (Tryz.prog.cellsOf 3) = [.int .i64 s] := e2
  rw [ci] at e0
  rw [cj] at e1 e2
  simp at e0 e1 e2
  exact ⟨m, y, s, by rw [e0, e1, e2]⟩
theorem open_smp {n : Nat} {cs : List Value} {x : DataW H × List MemPlace} (h : DataW.trod enc Tryz.prog w base sp held n 28 cs = some x) : ∃ y : Smp, cs = encS y := by
  obtain ⟨xs, k, _, _, hc, hxl, hf⟩ := DataW.trod_struct Tryz.underlying28 h
  have c4 : Tryz.prog.cellsOf 28 = 4 := by kernel_rfl
  have c3 : Tryz.prog.cellsOf 26 = 3 := by kernel_rfl
  have ci : Tryz.prog.cellsOf 2 = 1 := by kernel_rfl
  rw [c4] at hc
  have g0 := hf 0 ⟨"T", 2, 0, false, "", "", 0⟩ rfl
  have g1 := hf 1 ⟨"V", 26, 1, false, "", "", 8⟩ rfl
  have hxl : xs.length = 2 := hxl
  rw [List.getElem?_eq_getElem (by omega)] at g0 g1
  obtain ⟨t, e0, _⟩ := DataW.trod_int Tryz.underlying2 g0
  obtain ⟨m, y, s, e1⟩ := open_val g1
  obtain ⟨a, r, rfl⟩ : ∃ a r, cs = a :: r := by
    cases cs with
    | nil => simp at hc
    | cons a r => exact ⟨a, r, rfl⟩
  obtain ⟨b, c, d, rfl⟩ := len3 (by simpa using hc : r.length = 3)
  have e0 : ([a, b, c, d].drop 0).take (Tryz.prog.cellsOf 2) = [.int .i64 t] := e0
  have e1 : ([a, b, c, d].drop 1).take (Tryz.prog.cellsOf 26) = [.int .i64 m, .int .i64 y, .int .i64 s] := e1
  rw [ci] at e0
  rw [c3] at e1
  simp at e0 e1
  exact ⟨(t, m, y, s), by rw [e0, e1.1, e1.2.1, e1.2.2]; rfl⟩
set_option maxRecDepth 100000 in
/-- A row of samples that came in. -/
theorem open_S {W : World} {v : Value} {d : DataW H} {p : List MemPlace} (hval : Value.okWide Tryz.prog W .any base 22 v) (h : DataW.Trod enc Tryz.prog W 0 (fun _ => true) true 22 v d p) :
    ∃ l, Rd W W.heap.size v l ∧ Nz v := by
  obtain ⟨fuel, hf⟩ := h
  obtain ⟨a', len', cap', rfl⟩ := okWide_slice Tryz.underlying22 hval
  have c4 : Tryz.prog.cellsOf 28 = 4 := by kernel_rfl
  rcases open_slice Tryz.underlying22 hf with ⟨h0, _⟩ | ⟨a, len, cap, m, n, D, Pl, h0, _, hlc, _, hm, _, hx⟩
  · simp [Value.cells] at h0
    obtain ⟨rfl, rfl, rfl⟩ := h0
    exact ⟨[], ⟨none, 0, rfl, Nat.le_refl _, .inl rfl⟩, fun n c e => by simp at e; exact e.2.symm⟩
  · simp [Value.cells] at h0
    obtain ⟨ea, el, ec⟩ := h0
    subst ea
    have el := el.symm
    have ec := ec.symm
    subst el ec
    have hm2 : m = cap := by rw [hm]; rfl
    have each : ∀ i, i < len → ∃ y : Smp, ∀ j, j < 4 → W.cell? (a.add (i * 4 + j)) = (encS y)[j]? := by
      intro i hi
      obtain ⟨cs', k1, k2⟩ := hx i (by omega)
      obtain ⟨y, rfl⟩ := open_smp k2
      rw [c4] at k1
      obtain ⟨_, _, hc⟩ := World.cells?_some k1
      refine ⟨y, fun j hj => ?_⟩
      have := hc j hj
      rwa [add_add] at this
    have hz : Nz (.slice (some a) len cap) := fun n c e => by simp at e
    rcases Nat.eq_zero_or_pos len with h1 | h1
    · subst h1
      exact ⟨[], ⟨some a, cap, rfl, hlc, .inl rfl⟩, hz⟩
    · obtain ⟨b, o, spot⟩ := a
      obtain ⟨y0, hy0⟩ := each 0 h1
      have hs : spot = none := by simpa [Addr.add] using World.cell?_spot (hy0 0 (by decide))
      subst hs
      have hadd : ∀ j, (⟨b, o, none⟩ : Addr).add j = ⟨b, o + j, none⟩ := fun j => add_at b o j
      refine ⟨(List.range len).map fun i => if h : i < len then Classical.choose (each i h) else (0, 0, 0, 0), ⟨some ⟨b, o, none⟩, cap, by simp, by simpa using hlc, .inr ⟨b, o, rfl, ?_, fun i hi => ?_⟩⟩, hz⟩
      · have := hy0 0 (by decide)
        rw [hadd] at this
        exact lt_of_cell this
      · have hi' : i < len := by simpa using hi
        have hk := Classical.choose_spec (each i hi')
        simp only [List.getElem_map, List.getElem_range, hi', dif_pos]
        have k := fun j hj => (hk j hj)
        have r : ∀ j, j < 4 → W.cell? ⟨b, o + i * 4 + j, none⟩ = (encS (Classical.choose (each i hi')))[j]? := fun j hj => by
          have := hk j hj
          rw [hadd, ← Nat.add_assoc] at this
          exact this
        exact ⟨r 0 (by decide), r 1 (by decide), r 2 (by decide), r 3 (by decide)⟩
end
end Go.Proofs.YtbggdkpcgcmepaaGreatDoor
