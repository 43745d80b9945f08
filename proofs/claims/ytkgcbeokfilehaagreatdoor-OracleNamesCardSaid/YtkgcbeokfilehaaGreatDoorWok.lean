/-
  What comes in: texts, labels, rows, filters, acts, what is asked.
-/
import Derived.Test.YtkgcbeokfilehaaGreatDoorRgnk
import Derived.Lib.SmallJoins
import Derived.ChangeMaps5
import Derived.Test.YtkgcbeokfilehaaGreatDoorVsk
import Derived.Test.YtkgcbeokfilehaaGreatDoorRwk
namespace Go.Proofs.YtkgcbeokfilehaaGreatDoor
open Go.RowKit Go.ChangeShapes Go.WideShapes Go.ChangeAt Go.Deep
theorem choose_list {α : Type} {Q : Nat → α → Prop} : ∀ {n : Nat}, (∀ i, i < n → ∃ y, Q i y) → ∃ l : List α, l.length = n ∧ ∀ i (hi : i < l.length), Q i l[i]
  | 0, _ => ⟨[], rfl, fun i hi => by simp at hi⟩
  | n + 1, h => by
    obtain ⟨l, h1, h2⟩ := choose_list (n := n) fun i hi => h i (by omega)
    obtain ⟨y, hy⟩ := h n (by omega)
    refine ⟨l ++ [y], by simp [h1], fun i hi => ?_⟩
    rw [List.length_append, List.length_singleton] at hi
    by_cases hn : i < l.length
    · rw [List.getElem_append_left hn]; exact h2 i hn
    · have hin : i = n := by omega
      subst hin
      rw [List.getElem_append_right (by omega)]
      simpa using hy
/-- Each piece of what comes in has a size that memory can have. -/
def Fits {H : Type} (P : Program) (t : TypeId) (d : DataW H) : Prop := ∀ z ∈ d.weights P t, z ≤ reachBytes
theorem fits_cons {H : Type} {P : Program} {t : TypeId} {ts : List TypeId} {d : DataW H} {r : List (DataW H)} (h : (DataW.weightsEach P (t :: ts) (d :: r)).all (· ≤ reachBytes) = true) : Fits P t d ∧ (DataW.weightsEach P ts r).all (· ≤ reachBytes) = true := by
  rw [DataW.weightsEach, List.all_append, Bool.and_eq_true] at h
  exact ⟨fun z hz => by simpa using List.all_eq_true.1 h.1 z hz, h.2⟩
theorem mem_weightsAll {H : Type} {P : Program} {e : TypeId} {d : DataW H} {z : Nat} : ∀ {l : List (DataW H)}, d ∈ l → z ∈ d.weights P e → z ∈ DataW.weightsAll P e l
  | [], h, _ => absurd h List.not_mem_nil
  | a :: l, h, hz => by
    rw [DataW.weightsAll]
    rcases List.mem_cons.1 h with rfl | h
    · exact List.mem_append_left _ hz
    · exact List.mem_append_right _ (mem_weightsAll h hz)
theorem mem_weightsEach {H : Type} {P : Program} {z : Nat} {t : TypeId} {d : DataW H} : ∀ {ts : List TypeId} {ds : List (DataW H)} {i : Nat}, ts[i]? = some t → ds[i]? = some d → z ∈ d.weights P t → z ∈ DataW.weightsEach P ts ds
  | [], _, i, h, _, _ => by simp at h
  | _ :: _, [], i, _, h, _ => by simp at h
  | t' :: ts, d' :: ds, 0, h1, h2, hz => by
    rw [DataW.weightsEach]
    simp at h1 h2
    subst h1 h2
    exact List.mem_append_left _ hz
  | t' :: ts, d' :: ds, i + 1, h1, h2, hz => by
    rw [DataW.weightsEach]
    exact List.mem_append_right _ (mem_weightsEach (by simpa using h1) (by simpa using h2) hz)
section
variable {H : Type} {enc : TypeId × Value → H} {W : World}
theorem open_G {t e : TypeId} {k fuel : Nat} {cs : List Value} {x : DataW H × List MemPlace} (ht : Tryz.prog.underlying t = some (.slice e)) (hk : Tryz.prog.cellsOf e = k) (hk0 : 0 < k) (hw : Fits Tryz.prog t x.1) (h : DataW.trod enc Tryz.prog W 0 (fun _ => true) true fuel t cs = some x) :
    ∃ A n c, cs = [.slice A n c] ∧ n * Tryz.prog.bytesOf e ≤ reachBytes ∧ n ≤ c ∧ (A = none → n = 0 ∧ c = 0) ∧ (n = 0 ∨ ∃ b o, A = some ⟨b, o, none⟩ ∧ b < W.heap.size ∧ ∀ i, i < n → ∃ cs' fl y, cs'.length = k ∧ (∀ j, j < k → W.cell? ⟨b, o + i * k + j, none⟩ = cs'[j]?) ∧ DataW.trod enc Tryz.prog W 0 (fun _ => true) true fl e cs' = some y ∧ Fits Tryz.prog e y.1) := by
  rcases open_slice ht h with ⟨h0, _⟩ | ⟨a, len, cap, m, n, D, Pl, h0, _, hlc, _, hm, hxe, hx⟩
  · exact ⟨none, 0, 0, h0, by omega, Nat.le_refl _, fun _ => ⟨rfl, rfl⟩, .inl rfl⟩
  · have hm2 : m = cap := by rw [hm]; rfl
    have hx1 : x.1 = .slice ((List.range len).map D) ((List.range (m - len)).map fun j => D (len + j)) := congrArg (·.1) hxe
    unfold Fits at hw
    rw [hx1, DataW.weights, ht] at hw
    have hsz : len * Tryz.prog.bytesOf e ≤ reachBytes := by
      have h9 := hw _ List.mem_cons_self
      rw [List.length_map, List.length_range] at h9
      exact Nat.le_trans (Nat.mul_le_mul_right _ (Nat.le_add_right _ _)) h9
    have hfi : ∀ i, i < len → Fits Tryz.prog e (D i) := fun i hi z hz => hw z (List.mem_cons_of_mem _ (List.mem_append_left _ (mem_weightsAll (List.mem_map.2 ⟨i, List.mem_range.2 hi, rfl⟩) hz)))
    refine ⟨some a, len, cap, h0, hsz, hlc, fun e => (by cases e), ?_⟩
    rcases Nat.eq_zero_or_pos len with h1 | h1
    · exact .inl h1
    · have each : ∀ i, i < len → ∃ cs', cs'.length = k ∧ (∀ j, j < k → W.cell? (a.add (i * k + j)) = cs'[j]?) ∧ ∃ y, DataW.trod enc Tryz.prog W 0 (fun _ => true) true n e cs' = some y ∧ Fits Tryz.prog e y.1 := by
        intro i hi
        obtain ⟨cs', k1, k2⟩ := hx i (by omega)
        rw [hk] at k1
        obtain ⟨_, hl, hc⟩ := World.cells?_some k1
        refine ⟨cs', hl, fun j hj => ?_, _, k2, hfi i hi⟩
        have := hc j hj
        rwa [add_add] at this
      obtain ⟨b, o, spot⟩ := a
      obtain ⟨cs0, hl0, hy0, _, _⟩ := each 0 h1
      have hc0 : W.cell? ((⟨b, o, spot⟩ : Addr).add (0 * k + 0)) = some (cs0[0]'(by rw [hl0]; exact hk0)) := (hy0 0 hk0).trans (List.getElem?_eq_getElem (by rw [hl0]; exact hk0))
      have hs : spot = none := by simpa [Addr.add] using World.cell?_spot hc0
      subst hs
      rw [add_at] at hc0
      refine .inr ⟨b, o, rfl, lt_of_cell hc0, fun i hi => ?_⟩
      obtain ⟨cs', k1, k2, y, k3, k4⟩ := each i hi
      refine ⟨cs', n, y, k1, fun j hj => ?_, k3, k4⟩
      have := k2 j hj
      rw [add_at, ← Nat.add_assoc] at this
      exact this
theorem open_struct {t : TypeId} {fs : Array Field} {fuel : Nat} {cs : List Value} {x : DataW H × List MemPlace} (ht : Tryz.prog.underlying t = some (.struct fs)) (hw : Fits Tryz.prog t x.1) (h : DataW.trod enc Tryz.prog W 0 (fun _ => true) true fuel t cs = some x) :
    cs.length = Tryz.prog.cellsOf t ∧ ∃ n, ∀ (i : Nat) (f : Field), fs[i]? = some f → ∃ y, DataW.trod enc Tryz.prog W 0 (fun _ => true) true n f.type ((cs.drop f.offset).take (Tryz.prog.cellsOf f.type)) = some y ∧ Fits Tryz.prog f.type y.1 := by
  obtain ⟨xs, k, _, hxe, hc, hxl, hf⟩ := DataW.trod_struct ht h
  refine ⟨hc, k, fun i f hi => ?_⟩
  have hil : i < xs.length := by
    rw [hxl]; exact (Array.getElem?_eq_some_iff.1 hi).1
  have g := hf i f hi
  rw [List.getElem?_eq_getElem hil] at g
  refine ⟨xs[i], g, fun z hz => hw z ?_⟩
  have e : x.1 = .agg (xs.map (·.1)) := congrArg (·.1) hxe
  rw [e, DataW.weights, ht]
  refine mem_weightsEach (i := i) (t := f.type) (d := xs[i].1) ?_ ?_ hz
  · rw [List.getElem?_map, Array.getElem?_toList, hi]; rfl
  · rw [List.getElem?_map, List.getElem?_eq_getElem hil]; rfl
theorem open_T {fuel : Nat} {cs : List Value} {x : DataW H × List MemPlace} (h : DataW.trod enc Tryz.prog W 0 (fun _ => true) true fuel 9 cs = some x) : ∃ s : Str, cs = [vT s] := by
  obtain ⟨s, rfl, _, _⟩ := DataW.trod_string Tryz.underlying9 h
  exact ⟨s.data.toList, rfl⟩
theorem open_B {fuel : Nat} {cs : List Value} {x : DataW H × List MemPlace} (h : DataW.trod enc Tryz.prog W 0 (fun _ => true) true fuel 4 cs = some x) : ∃ b : Bool, cs = [.bool b] := by
  obtain ⟨b, rfl, _⟩ := DataW.trod_bool Tryz.underlying4 h
  exact ⟨b, rfl⟩
theorem open_I {t : TypeId} (ht : Tryz.prog.underlying t = some (.int .i64)) {fuel : Nat} {cs : List Value} {x : DataW H × List MemPlace} (h : DataW.trod enc Tryz.prog W 0 (fun _ => true) true fuel t cs = some x) : ∃ z : Int, cs = [.int .i64 z] := by
  obtain ⟨z, rfl, _⟩ := DataW.trod_int ht h
  exact ⟨z, rfl⟩
theorem len2x {α : Type} {l : List α} (h : l.length = 2) : ∃ z1 z2, l = [z1, z2] := by
  match l, h with
  | [z1, z2], _ => exact ⟨z1, z2, rfl⟩
theorem len4x {α : Type} {l : List α} (h : l.length = 4) : ∃ z1 z2 z3 z4, l = [z1, z2, z3, z4] := by
  match l, h with
  | [z1, z2, z3, z4], _ => exact ⟨z1, z2, z3, z4, rfl⟩
theorem len5x {α : Type} {l : List α} (h : l.length = 5) : ∃ z1 z2 z3 z4 z5, l = [z1, z2, z3, z4, z5] := by
  match l, h with
  | [z1, z2, z3, z4, z5], _ => exact ⟨z1, z2, z3, z4, z5, rfl⟩
theorem len9x {α : Type} {l : List α} (h : l.length = 9) : ∃ z1 z2 z3 z4 z5 z6 z7 z8 z9, l = [z1, z2, z3, z4, z5, z6, z7, z8, z9] := by
  match l, h with
  | [z1, z2, z3, z4, z5, z6, z7, z8, z9], _ => exact ⟨z1, z2, z3, z4, z5, z6, z7, z8, z9, rfl⟩
set_option maxRecDepth 100000 in
theorem open_lb {fuel : Nat} {cs : List Value} {x : DataW H × List MemPlace} (hw : Fits Tryz.prog 59 x.1) (h : DataW.trod enc Tryz.prog W 0 (fun _ => true) true fuel 59 cs = some x) : ∃ y : Lb, cs = encL y := by
  obtain ⟨hc, n, hf⟩ := open_struct Tryz.underlying59 hw h
  have ck : Tryz.prog.cellsOf 59 = 2 := by kernel_rfl
  rw [ck] at hc
  obtain ⟨z1, z2, rfl⟩ := len2x hc
  have c0 : Tryz.prog.cellsOf 9 = 1 := by kernel_rfl
  obtain ⟨y0, g0, w0⟩ := hf 0 ⟨"Name", 9, 0, false, "", "", 0⟩ rfl
  have g0 : DataW.trod enc Tryz.prog W 0 (fun _ => true) true n 9 (([z1, z2].drop 0).take (Tryz.prog.cellsOf 9)) = some y0 := g0
  rw [c0] at g0
  obtain ⟨s0, e0⟩ := open_T g0
  simp at e0
  have c1 : Tryz.prog.cellsOf 9 = 1 := by kernel_rfl
  obtain ⟨y1, g1, w1⟩ := hf 1 ⟨"Value", 9, 1, false, "", "", 16⟩ rfl
  have g1 : DataW.trod enc Tryz.prog W 0 (fun _ => true) true n 9 (([z1, z2].drop 1).take (Tryz.prog.cellsOf 9)) = some y1 := g1
  rw [c1] at g1
  obtain ⟨s1, e1⟩ := open_T g1
  simp at e1
  exact ⟨(s0, s1), by rw [e0, e1]; rfl⟩
set_option maxRecDepth 100000 in
theorem open_fil {fuel : Nat} {cs : List Value} {x : DataW H × List MemPlace} (hw : Fits Tryz.prog 61 x.1) (h : DataW.trod enc Tryz.prog W 0 (fun _ => true) true fuel 61 cs = some x) : ∃ y : Fil, cs = encF y := by
  obtain ⟨hc, n, hf⟩ := open_struct Tryz.underlying61 hw h
  have ck : Tryz.prog.cellsOf 61 = 4 := by kernel_rfl
  rw [ck] at hc
  obtain ⟨z1, z2, z3, z4, rfl⟩ := len4x hc
  have c0 : Tryz.prog.cellsOf 9 = 1 := by kernel_rfl
  obtain ⟨y0, g0, w0⟩ := hf 0 ⟨"Name", 9, 0, false, "", "", 0⟩ rfl
  have g0 : DataW.trod enc Tryz.prog W 0 (fun _ => true) true n 9 (([z1, z2, z3, z4].drop 0).take (Tryz.prog.cellsOf 9)) = some y0 := g0
  rw [c0] at g0
  obtain ⟨s0, e0⟩ := open_T g0
  simp at e0
  have c1 : Tryz.prog.cellsOf 9 = 1 := by kernel_rfl
  obtain ⟨y1, g1, w1⟩ := hf 1 ⟨"Value", 9, 1, false, "", "", 16⟩ rfl
  have g1 : DataW.trod enc Tryz.prog W 0 (fun _ => true) true n 9 (([z1, z2, z3, z4].drop 1).take (Tryz.prog.cellsOf 9)) = some y1 := g1
  rw [c1] at g1
  obtain ⟨s1, e1⟩ := open_T g1
  simp at e1
  have c2 : Tryz.prog.cellsOf 4 = 1 := by kernel_rfl
  obtain ⟨y2, g2, w2⟩ := hf 2 ⟨"Prefix", 4, 2, false, "", "", 32⟩ rfl
  have g2 : DataW.trod enc Tryz.prog W 0 (fun _ => true) true n 4 (([z1, z2, z3, z4].drop 2).take (Tryz.prog.cellsOf 4)) = some y2 := g2
  rw [c2] at g2
  obtain ⟨s2, e2⟩ := open_B g2
  simp at e2
  have c3 : Tryz.prog.cellsOf 4 = 1 := by kernel_rfl
  obtain ⟨y3, g3, w3⟩ := hf 3 ⟨"Not", 4, 3, false, "", "", 33⟩ rfl
  have g3 : DataW.trod enc Tryz.prog W 0 (fun _ => true) true n 4 (([z1, z2, z3, z4].drop 3).take (Tryz.prog.cellsOf 4)) = some y3 := g3
  rw [c3] at g3
  obtain ⟨s3, e3⟩ := open_B g3
  simp at e3
  exact ⟨⟨s0, s1, s2, s3⟩, by rw [e0, e1, e2, e3]; rfl⟩
set_option maxRecDepth 100000 in
theorem open_Lbs {fuel : Nat} {cs : List Value} {x : DataW H × List MemPlace} (hw : Fits Tryz.prog 24 x.1) (h : DataW.trod enc Tryz.prog W 0 (fun _ => true) true fuel 24 cs = some x) : ∃ v l, cs = [v] ∧ RdL W W.heap.size v l ∧ Nz v := by
  have ck : Tryz.prog.cellsOf 59 = 2 := by kernel_rfl
  obtain ⟨A, n, c, rfl, hsz, hc, hz, hA⟩ := open_G Tryz.underlying24 ck (by decide) hw h
  have hnz : Nz (.slice A n c) := fun n' c' e => by injection e with e1 e2 e3; subst e1 e3; exact (hz rfl).2
  rcases hA with rfl | ⟨b, o, rfl, hb, hx⟩
  · exact ⟨_, [], rfl, ⟨A, c, rfl, hc, .inl rfl⟩, hnz⟩
  · obtain ⟨l, hl, hq⟩ := choose_list (Q := fun i (y : Lb) => Cell2 W b (o + i * 2) y) (n := n) fun i hi => by
      obtain ⟨cs', fl, y, k1, k2, k3, k4⟩ := hx i hi
      obtain ⟨s, rfl⟩ := open_lb k4 k3
      exact ⟨s, k2 0 (by decide), k2 1 (by decide)⟩
    exact ⟨_, l, rfl, ⟨_, c, by rw [hl], by rw [hl]; exact hc, .inr ⟨b, o, rfl, hb, hq⟩⟩, hnz⟩
set_option maxRecDepth 100000 in
theorem open_Fils {fuel : Nat} {cs : List Value} {x : DataW H × List MemPlace} (hw : Fits Tryz.prog 23 x.1) (h : DataW.trod enc Tryz.prog W 0 (fun _ => true) true fuel 23 cs = some x) : ∃ v l, cs = [v] ∧ RdF W W.heap.size v l ∧ Nz v := by
  have ck : Tryz.prog.cellsOf 61 = 4 := by kernel_rfl
  obtain ⟨A, n, c, rfl, hsz, hc, hz, hA⟩ := open_G Tryz.underlying23 ck (by decide) hw h
  have hnz : Nz (.slice A n c) := fun n' c' e => by injection e with e1 e2 e3; subst e1 e3; exact (hz rfl).2
  rcases hA with rfl | ⟨b, o, rfl, hb, hx⟩
  · exact ⟨_, [], rfl, ⟨A, c, rfl, hc, .inl rfl⟩, hnz⟩
  · obtain ⟨l, hl, hq⟩ := choose_list (Q := fun i (y : Fil) => FilAt W b (o + i * 4) y) (n := n) fun i hi => by
      obtain ⟨cs', fl, y, k1, k2, k3, k4⟩ := hx i hi
      obtain ⟨s, rfl⟩ := open_fil k4 k3
      exact ⟨s, k2 0 (by decide), k2 1 (by decide), k2 2 (by decide), k2 3 (by decide)⟩
    exact ⟨_, l, rfl, ⟨_, c, by rw [hl], by rw [hl]; exact hc, .inr ⟨b, o, rfl, hb, hq⟩⟩, hnz⟩
set_option maxRecDepth 100000 in
theorem open_row {fuel : Nat} {cs : List Value} {x : DataW H × List MemPlace} (hw : Fits Tryz.prog 28 x.1) (h : DataW.trod enc Tryz.prog W 0 (fun _ => true) true fuel 28 cs = some x) : ∃ (lv : Value) (r : RowS), cs = [lv, .int .i64 r.2.1, .int .i64 r.2.2.1, .int .i64 r.2.2.2.1, .int .i64 r.2.2.2.2] ∧ RdL W W.heap.size lv r.1 ∧ Nz lv := by
  obtain ⟨hc, n, hf⟩ := open_struct Tryz.underlying28 hw h
  have ck : Tryz.prog.cellsOf 28 = 5 := by kernel_rfl
  rw [ck] at hc
  obtain ⟨z1, z2, z3, z4, z5, rfl⟩ := len5x hc
  have c0 : Tryz.prog.cellsOf 24 = 1 := by kernel_rfl
  obtain ⟨y0, g0, w0⟩ := hf 0 ⟨"Labels", 24, 0, false, "", "", 0⟩ rfl
  have g0 : DataW.trod enc Tryz.prog W 0 (fun _ => true) true n 24 (([z1, z2, z3, z4, z5].drop 0).take (Tryz.prog.cellsOf 24)) = some y0 := g0
  rw [c0] at g0
  obtain ⟨lv0, l0, e0, hR0, hz0⟩ := open_Lbs w0 g0
  simp at e0
  have c1 : Tryz.prog.cellsOf 2 = 1 := by kernel_rfl
  obtain ⟨y1, g1, w1⟩ := hf 1 ⟨"T", 2, 1, false, "", "", 24⟩ rfl
  have g1 : DataW.trod enc Tryz.prog W 0 (fun _ => true) true n 2 (([z1, z2, z3, z4, z5].drop 1).take (Tryz.prog.cellsOf 2)) = some y1 := g1
  rw [c1] at g1
  obtain ⟨s1, e1⟩ := open_I Tryz.underlying2 g1
  simp at e1
  have c2 : Tryz.prog.cellsOf 26 = 3 := by kernel_rfl
  obtain ⟨y2, g2, w2⟩ := hf 2 ⟨"V", 26, 2, false, "", "", 32⟩ rfl
  have g2 : DataW.trod enc Tryz.prog W 0 (fun _ => true) true n 26 (([z1, z2, z3, z4, z5].drop 2).take (Tryz.prog.cellsOf 26)) = some y2 := g2
  rw [c2] at g2
  obtain ⟨m2, p2, q2, e2⟩ := open_val g2
  simp at e2
  exact ⟨lv0, (l0, (s1, m2, p2, q2)), by rw [e0, e1, e2.1, e2.2.1, e2.2.2], hR0, hz0⟩
set_option maxRecDepth 100000 in
theorem open_Rows {fuel : Nat} {cs : List Value} {x : DataW H × List MemPlace} (hw : Fits Tryz.prog 22 x.1) (h : DataW.trod enc Tryz.prog W 0 (fun _ => true) true fuel 22 cs = some x) : ∃ v l, cs = [v] ∧ RdW W W.heap.size v l ∧ Nz v ∧ l.length ≤ 140737488355328 := by
  have ck : Tryz.prog.cellsOf 28 = 5 := by kernel_rfl
  have cb : 1 ≤ Tryz.prog.bytesOf 28 := by decide +kernel
  obtain ⟨A, n, c, rfl, hsz, hc, hz, hA⟩ := open_G Tryz.underlying22 ck (by decide) hw h
  have hsz2 : n ≤ 140737488355328 := by
    have h2 := Nat.mul_le_mul_left n cb
    unfold reachBytes at hsz
    omega
  have hnz : Nz (.slice A n c) := fun n' c' e => by injection e with e1 e2 e3; subst e1 e3; exact (hz rfl).2
  rcases hA with rfl | ⟨b, o, rfl, hb, hx⟩
  · exact ⟨_, [], rfl, ⟨A, c, rfl, hc, .inl rfl⟩, hnz, Nat.zero_le _⟩
  · obtain ⟨l, hl, hq⟩ := choose_list (Q := fun i (y : RowS) => RowAt W W.heap.size b (o + i * 5) y) (n := n) fun i hi => by
      obtain ⟨cs', fl, y, k1, k2, k3, k4⟩ := hx i hi
      obtain ⟨lv, s, rfl, h1, h2⟩ := open_row k4 k3
      exact ⟨s, lv, k2 0 (by decide), h1, h2, k2 1 (by decide), k2 2 (by decide), k2 3 (by decide), k2 4 (by decide)⟩
    exact ⟨_, l, rfl, ⟨_, c, by rw [hl], by rw [hl]; exact hc, .inr ⟨b, o, rfl, hb, hq⟩⟩, hnz, by omega⟩
set_option maxRecDepth 100000 in
theorem open_act {fuel : Nat} {cs : List Value} {x : DataW H × List MemPlace} (hw : Fits Tryz.prog 34 x.1) (h : DataW.trod enc Tryz.prog W 0 (fun _ => true) true fuel 34 cs = some x) : ∃ (rv fv : Value) (a : ActS), cs = [.int .i64 a.kind, rv, fv, .int .i64 a.now] ∧ RdW W W.heap.size rv a.rows ∧ Nz rv ∧ RdF W W.heap.size fv a.fs ∧ Nz fv ∧ a.rows.length ≤ 140737488355328 := by
  obtain ⟨hc, n, hf⟩ := open_struct Tryz.underlying34 hw h
  have ck : Tryz.prog.cellsOf 34 = 4 := by kernel_rfl
  rw [ck] at hc
  obtain ⟨z1, z2, z3, z4, rfl⟩ := len4x hc
  have c0 : Tryz.prog.cellsOf 3 = 1 := by kernel_rfl
  obtain ⟨y0, g0, w0⟩ := hf 0 ⟨"Kind", 3, 0, false, "", "", 0⟩ rfl
  have g0 : DataW.trod enc Tryz.prog W 0 (fun _ => true) true n 3 (([z1, z2, z3, z4].drop 0).take (Tryz.prog.cellsOf 3)) = some y0 := g0
  rw [c0] at g0
  obtain ⟨s0, e0⟩ := open_I Tryz.underlying3 g0
  simp at e0
  have c1 : Tryz.prog.cellsOf 22 = 1 := by kernel_rfl
  obtain ⟨y1, g1, w1⟩ := hf 1 ⟨"Rows", 22, 1, false, "", "", 8⟩ rfl
  have g1 : DataW.trod enc Tryz.prog W 0 (fun _ => true) true n 22 (([z1, z2, z3, z4].drop 1).take (Tryz.prog.cellsOf 22)) = some y1 := g1
  rw [c1] at g1
  obtain ⟨rv1, r1, e1, hR1, hz1, hs1⟩ := open_Rows w1 g1
  simp at e1
  have c2 : Tryz.prog.cellsOf 23 = 1 := by kernel_rfl
  obtain ⟨y2, g2, w2⟩ := hf 2 ⟨"F", 23, 2, false, "", "", 32⟩ rfl
  have g2 : DataW.trod enc Tryz.prog W 0 (fun _ => true) true n 23 (([z1, z2, z3, z4].drop 2).take (Tryz.prog.cellsOf 23)) = some y2 := g2
  rw [c2] at g2
  obtain ⟨fv2, f2, e2, hR2, hz2⟩ := open_Fils w2 g2
  simp at e2
  have c3 : Tryz.prog.cellsOf 2 = 1 := by kernel_rfl
  obtain ⟨y3, g3, w3⟩ := hf 3 ⟨"Now", 2, 3, false, "", "", 56⟩ rfl
  have g3 : DataW.trod enc Tryz.prog W 0 (fun _ => true) true n 2 (([z1, z2, z3, z4].drop 3).take (Tryz.prog.cellsOf 2)) = some y3 := g3
  rw [c3] at g3
  obtain ⟨s3, e3⟩ := open_I Tryz.underlying2 g3
  simp at e3
  exact ⟨rv1, fv2, ⟨s0, r1, f2, s3⟩, by rw [e0, e1, e2, e3], hR1, hz1, hR2, hz2, hs1⟩
set_option maxRecDepth 100000 in
theorem open_Acts {fuel : Nat} {cs : List Value} {x : DataW H × List MemPlace} (hw : Fits Tryz.prog 35 x.1) (h : DataW.trod enc Tryz.prog W 0 (fun _ => true) true fuel 35 cs = some x) : ∃ v l, cs = [v] ∧ RdA W W.heap.size v l ∧ Nz v ∧ ∀ a ∈ l, a.rows.length ≤ 140737488355328 := by
  have ck : Tryz.prog.cellsOf 34 = 4 := by kernel_rfl
  obtain ⟨A, n, c, rfl, hsz, hc, hz, hA⟩ := open_G Tryz.underlying35 ck (by decide) hw h
  have hnz : Nz (.slice A n c) := fun n' c' e => by injection e with e1 e2 e3; subst e1 e3; exact (hz rfl).2
  rcases hA with rfl | ⟨b, o, rfl, hb, hx⟩
  · exact ⟨_, [], rfl, ⟨A, c, rfl, hc, .inl rfl⟩, hnz, fun _ h => absurd h List.not_mem_nil⟩
  · obtain ⟨l, hl, hq⟩ := choose_list (Q := fun i (y : ActS) => ActAt W W.heap.size b (o + i * 4) y ∧ y.rows.length ≤ 140737488355328) (n := n) fun i hi => by
      obtain ⟨cs', fl, y, k1, k2, k3, k4⟩ := hx i hi
      obtain ⟨rv, fv, a, rfl, h1, h2, h3, h4, h5⟩ := open_act k4 k3
      exact ⟨a, ⟨rv, fv, k2 0 (by decide), k2 1 (by decide), k2 2 (by decide), k2 3 (by decide), h1, h2, h3, h4⟩, h5⟩
    refine ⟨_, l, rfl, ⟨_, c, by rw [hl], by rw [hl]; exact hc, .inr ⟨b, o, rfl, hb, fun i hi => (hq i hi).1⟩⟩, hnz, fun a ha => ?_⟩
    obtain ⟨i, hi, rfl⟩ := List.getElem_of_mem ha
    exact (hq i hi).2
set_option maxRecDepth 100000 in
theorem open_askC {fuel : Nat} {cs : List Value} {x : DataW H × List MemPlace} (hw : Fits Tryz.prog 30 x.1) (h : DataW.trod enc Tryz.prog W 0 (fun _ => true) true fuel 30 cs = some x) : ∃ (fv : Value) (fs : List Fil) (f t : Int) (nm : Str) (lv : Value) (r : RowS), cs = [fv, .int .i64 f, .int .i64 t, vT nm, lv, .int .i64 r.2.1, .int .i64 r.2.2.1, .int .i64 r.2.2.2.1, .int .i64 r.2.2.2.2] ∧ RdF W W.heap.size fv fs ∧ Nz fv ∧ RdL W W.heap.size lv r.1 ∧ Nz lv := by
  obtain ⟨hc, n, hf⟩ := open_struct Tryz.underlying30 hw h
  have ck : Tryz.prog.cellsOf 30 = 9 := by kernel_rfl
  rw [ck] at hc
  obtain ⟨z1, z2, z3, z4, z5, z6, z7, z8, z9, rfl⟩ := len9x hc
  have c0 : Tryz.prog.cellsOf 23 = 1 := by kernel_rfl
  obtain ⟨y0, g0, w0⟩ := hf 0 ⟨"F", 23, 0, false, "", "", 0⟩ rfl
  have g0 : DataW.trod enc Tryz.prog W 0 (fun _ => true) true n 23 (([z1, z2, z3, z4, z5, z6, z7, z8, z9].drop 0).take (Tryz.prog.cellsOf 23)) = some y0 := g0
  rw [c0] at g0
  obtain ⟨fv0, f0, e0, hR0, hz0⟩ := open_Fils w0 g0
  simp at e0
  have c1 : Tryz.prog.cellsOf 2 = 1 := by kernel_rfl
  obtain ⟨y1, g1, w1⟩ := hf 1 ⟨"From", 2, 1, false, "", "", 24⟩ rfl
  have g1 : DataW.trod enc Tryz.prog W 0 (fun _ => true) true n 2 (([z1, z2, z3, z4, z5, z6, z7, z8, z9].drop 1).take (Tryz.prog.cellsOf 2)) = some y1 := g1
  rw [c1] at g1
  obtain ⟨s1, e1⟩ := open_I Tryz.underlying2 g1
  simp at e1
  have c2 : Tryz.prog.cellsOf 2 = 1 := by kernel_rfl
  obtain ⟨y2, g2, w2⟩ := hf 2 ⟨"To", 2, 2, false, "", "", 32⟩ rfl
  have g2 : DataW.trod enc Tryz.prog W 0 (fun _ => true) true n 2 (([z1, z2, z3, z4, z5, z6, z7, z8, z9].drop 2).take (Tryz.prog.cellsOf 2)) = some y2 := g2
  rw [c2] at g2
  obtain ⟨s2, e2⟩ := open_I Tryz.underlying2 g2
  simp at e2
  have c3 : Tryz.prog.cellsOf 9 = 1 := by kernel_rfl
  obtain ⟨y3, g3, w3⟩ := hf 3 ⟨"Name", 9, 3, false, "", "", 40⟩ rfl
  have g3 : DataW.trod enc Tryz.prog W 0 (fun _ => true) true n 9 (([z1, z2, z3, z4, z5, z6, z7, z8, z9].drop 3).take (Tryz.prog.cellsOf 9)) = some y3 := g3
  rw [c3] at g3
  obtain ⟨s3, e3⟩ := open_T g3
  simp at e3
  have c4 : Tryz.prog.cellsOf 28 = 5 := by kernel_rfl
  obtain ⟨y4, g4, w4⟩ := hf 4 ⟨"Row", 28, 4, false, "", "", 56⟩ rfl
  have g4 : DataW.trod enc Tryz.prog W 0 (fun _ => true) true n 28 (([z1, z2, z3, z4, z5, z6, z7, z8, z9].drop 4).take (Tryz.prog.cellsOf 28)) = some y4 := g4
  rw [c4] at g4
  obtain ⟨lv4, r4, e4, hR4, hz4⟩ := open_row w4 g4
  simp at e4
  obtain ⟨e4a, e4b, e4c, e4d, e4e⟩ := e4
  exact ⟨fv0, f0, s1, s2, s3, lv4, r4, by rw [e0, e1, e2, e3, e4a, e4b, e4c, e4d, e4e], hR0, hz0, hR4, hz4⟩
set_option maxRecDepth 100000 in
theorem open_RowsV {base : Nat} {v : Value} {d : DataW H} {p : List MemPlace} (hw : Fits Tryz.prog 22 d) (hval : Value.okWide Tryz.prog W .any base 22 v) (h : DataW.Trod enc Tryz.prog W 0 (fun _ => true) true 22 v d p) : ∃ l, RdW W W.heap.size v l ∧ Nz v ∧ l.length ≤ 140737488355328 := by
  obtain ⟨fuel, hf⟩ := h
  obtain ⟨a', len', cap', rfl⟩ := okWide_slice Tryz.underlying22 hval
  obtain ⟨v, l, e, r⟩ := open_Rows hw hf
  have e : [Value.slice a' len' cap'] = [v] := e
  injection e with e _
  subst e
  exact ⟨l, r⟩
set_option maxRecDepth 100000 in
theorem open_FilsV {base : Nat} {v : Value} {d : DataW H} {p : List MemPlace} (hw : Fits Tryz.prog 23 d) (hval : Value.okWide Tryz.prog W .any base 23 v) (h : DataW.Trod enc Tryz.prog W 0 (fun _ => true) true 23 v d p) : ∃ l, RdF W W.heap.size v l ∧ Nz v := by
  obtain ⟨fuel, hf⟩ := h
  obtain ⟨a', len', cap', rfl⟩ := okWide_slice Tryz.underlying23 hval
  obtain ⟨v, l, e, r⟩ := open_Fils hw hf
  have e : [Value.slice a' len' cap'] = [v] := e
  injection e with e _
  subst e
  exact ⟨l, r⟩
set_option maxRecDepth 100000 in
theorem open_ActsV {base : Nat} {v : Value} {d : DataW H} {p : List MemPlace} (hw : Fits Tryz.prog 35 d) (hval : Value.okWide Tryz.prog W .any base 35 v) (h : DataW.Trod enc Tryz.prog W 0 (fun _ => true) true 35 v d p) : ∃ l, RdA W W.heap.size v l ∧ Nz v ∧ ∀ a ∈ l, a.rows.length ≤ 140737488355328 := by
  obtain ⟨fuel, hf⟩ := h
  obtain ⟨a', len', cap', rfl⟩ := okWide_slice Tryz.underlying35 hval
  obtain ⟨v, l, e, r⟩ := open_Acts hw hf
  have e : [Value.slice a' len' cap'] = [v] := e
  injection e with e _
  subst e
  exact ⟨l, r⟩
set_option maxRecDepth 100000 in
theorem open_Asked {base : Nat} {v : Value} {d : DataW H} {p : List MemPlace} (hw : Fits Tryz.prog 30 d) (hval : Value.okWide Tryz.prog W .any base 30 v) (h : DataW.Trod enc Tryz.prog W 0 (fun _ => true) true 30 v d p) : ∃ (fv : Value) (fs : List Fil) (f t : Int) (nm : Str) (lv : Value) (r : RowS), v = .agg #[fv, .int .i64 f, .int .i64 t, vT nm, lv, .int .i64 r.2.1, .int .i64 r.2.2.1, .int .i64 r.2.2.2.1, .int .i64 r.2.2.2.2] ∧ RdF W W.heap.size fv fs ∧ Nz fv ∧ RdL W W.heap.size lv r.1 ∧ Nz lv := by
  obtain ⟨cs, rfl, _⟩ := okWide_struct Tryz.underlying30 hval
  obtain ⟨fuel, hf⟩ := h
  obtain ⟨fv, fs, f, t, nm, lv, r, e, h1⟩ := open_askC hw hf
  obtain ⟨cl⟩ := cs
  have e : cl = _ := e
  subst e
  exact ⟨fv, fs, f, t, nm, lv, r, rfl, h1⟩
set_option maxRecDepth 100000 in
theorem open_FilV {base : Nat} {v : Value} {d : DataW H} {p : List MemPlace} (hw : Fits Tryz.prog 61 d) (hval : Value.okWide Tryz.prog W .any base 61 v) (h : DataW.Trod enc Tryz.prog W 0 (fun _ => true) true 61 v d p) : ∃ f : Fil, v = vF f := by
  obtain ⟨cs, rfl, _⟩ := okWide_struct Tryz.underlying61 hval
  obtain ⟨fuel, hf⟩ := h
  obtain ⟨f, e⟩ := open_fil hw hf
  obtain ⟨cl⟩ := cs
  have e : cl = _ := e
  subst e
  exact ⟨f, rfl⟩
set_option maxRecDepth 100000 in
theorem open_RowV {base : Nat} {v : Value} {d : DataW H} {p : List MemPlace} (hw : Fits Tryz.prog 28 d) (hval : Value.okWide Tryz.prog W .any base 28 v) (h : DataW.Trod enc Tryz.prog W 0 (fun _ => true) true 28 v d p) : ∃ (lv : Value) (r : RowS), v = vR lv r.2 ∧ RdL W W.heap.size lv r.1 ∧ Nz lv := by
  obtain ⟨cs, rfl, _⟩ := okWide_struct Tryz.underlying28 hval
  obtain ⟨fuel, hf⟩ := h
  obtain ⟨lv, r, e, h1⟩ := open_row hw hf
  obtain ⟨cl⟩ := cs
  have e : cl = _ := e
  subst e
  exact ⟨lv, r, rfl, h1⟩
set_option maxRecDepth 100000 in
theorem open_TV {base : Nat} {v : Value} {d : DataW H} {p : List MemPlace} (hval : Value.okWide Tryz.prog W .any base 9 v) (h : DataW.Trod enc Tryz.prog W 0 (fun _ => true) true 9 v d p) : ∃ s : Str, v = vT s := by
  obtain ⟨s, rfl, _⟩ := Go.ChangeMaps.open_string Tryz.underlying9 hval h
  exact ⟨s.data.toList, rfl⟩
end
end Go.Proofs.YtkgcbeokfilehaaGreatDoor
