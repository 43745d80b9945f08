/-
  What comes in: texts, labels, rows, filters, acts, what is asked, with the sizes of the texts.
-/
import Derived.Test.YtkgcbeokfilehaaGreatDoorWod
import Derived.Test.YtkgcbeokfilehaaGreatDoorGnd
import Derived.Test.YtkgcbeokfilehaaGreatDoorWfd
import Derived.Test.YtkgcbeokfilehaaGreatDoorWad
import Derived.Test.YtkgcbeokfilehaaGreatDoorRgd
import Derived.Test.YtkgcbeokfilehaaGreatDoorVpd
import Derived.Test.YtkgcbeokfilehaaGreatDoorWcd
import Derived.Test.YtkgcbeokfilehaaGreatDoorVtd
namespace Go.Proofs.YtkgcbeokfilehaaGreatDoor
open Go.RowKit Go.ChangeShapes Go.WideShapes Go.ChangeAt Go.Deep
/-- Texts of a size that memory can have. -/
def TxB (x : Lb) : Prop := x.1.length ≤ 140737488355328 ∧ x.2.length ≤ 140737488355328
def TxF (f : Fil) : Prop := f.name.length ≤ 140737488355328 ∧ f.value.length ≤ 140737488355328
def TxL (l : Lbs) : Prop := ∀ x ∈ l, TxB x
def TxA (a : ActS) : Prop := (∀ r ∈ a.rows, TxL r.1) ∧ ∀ f ∈ a.fs, TxF f
section
variable {H : Type} {enc : TypeId × Value → H} {W : World}
theorem openz_T {fuel : Nat} {cs : List Value} {x : DataW H × List MemPlace} (hw : Fits Tryz.prog 9 x.1) (h : DataW.trod enc Tryz.prog W 0 (fun _ => true) true fuel 9 cs = some x) : ∃ s : Str, cs = [vT s] ∧ s.length ≤ 140737488355328 := by
  obtain ⟨s, rfl, rfl, _⟩ := DataW.trod_string Tryz.underlying9 h
  refine ⟨s.data.toList, rfl, ?_⟩
  have := hw s.data.toList.length (by simp [DataW.weights])
  unfold reachBytes at this
  omega
set_option maxRecDepth 100000 in
theorem openz_lb {fuel : Nat} {cs : List Value} {x : DataW H × List MemPlace} (hw : Fits Tryz.prog 59 x.1) (h : DataW.trod enc Tryz.prog W 0 (fun _ => true) true fuel 59 cs = some x) : ∃ y : Lb, cs = encL y ∧ TxB y := by
  obtain ⟨hc, n, hf⟩ := open_struct Tryz.underlying59 hw h
  have ck : Tryz.prog.cellsOf 59 = 2 := by kernel_rfl
  rw [ck] at hc
  obtain ⟨z1, z2, rfl⟩ := len2x hc
  have c0 : Tryz.prog.cellsOf 9 = 1 := by kernel_rfl
  obtain ⟨y0, g0, w0⟩ := hf 0 ⟨"Name", 9, 0, false, "", "", 0⟩ rfl
  have g0 : DataW.trod enc Tryz.prog W 0 (fun _ => true) true n 9 (([z1, z2].drop 0).take (Tryz.prog.cellsOf 9)) = some y0 := g0
  rw [c0] at g0
  obtain ⟨s0, e0, t0⟩ := openz_T w0 g0
  simp at e0
  have c1 : Tryz.prog.cellsOf 9 = 1 := by kernel_rfl
  obtain ⟨y1, g1, w1⟩ := hf 1 ⟨"Value", 9, 1, false, "", "", 16⟩ rfl
  have g1 : DataW.trod enc Tryz.prog W 0 (fun _ => true) true n 9 (([z1, z2].drop 1).take (Tryz.prog.cellsOf 9)) = some y1 := g1
  rw [c1] at g1
  obtain ⟨s1, e1, t1⟩ := openz_T w1 g1
  simp at e1
  exact ⟨(s0, s1), by rw [e0, e1]; rfl, t0, t1⟩
set_option maxRecDepth 100000 in
theorem openz_fil {fuel : Nat} {cs : List Value} {x : DataW H × List MemPlace} (hw : Fits Tryz.prog 61 x.1) (h : DataW.trod enc Tryz.prog W 0 (fun _ => true) true fuel 61 cs = some x) : ∃ y : Fil, cs = encF y ∧ TxF y := by
  obtain ⟨hc, n, hf⟩ := open_struct Tryz.underlying61 hw h
  have ck : Tryz.prog.cellsOf 61 = 4 := by kernel_rfl
  rw [ck] at hc
  obtain ⟨z1, z2, z3, z4, rfl⟩ := len4x hc
  have c0 : Tryz.prog.cellsOf 9 = 1 := by kernel_rfl
  obtain ⟨y0, g0, w0⟩ := hf 0 ⟨"Name", 9, 0, false, "", "", 0⟩ rfl
  have g0 : DataW.trod enc Tryz.prog W 0 (fun _ => true) true n 9 (([z1, z2, z3, z4].drop 0).take (Tryz.prog.cellsOf 9)) = some y0 := g0
  rw [c0] at g0
  obtain ⟨s0, e0, t0⟩ := openz_T w0 g0
  simp at e0
  have c1 : Tryz.prog.cellsOf 9 = 1 := by kernel_rfl
  obtain ⟨y1, g1, w1⟩ := hf 1 ⟨"Value", 9, 1, false, "", "", 16⟩ rfl
  have g1 : DataW.trod enc Tryz.prog W 0 (fun _ => true) true n 9 (([z1, z2, z3, z4].drop 1).take (Tryz.prog.cellsOf 9)) = some y1 := g1
  rw [c1] at g1
  obtain ⟨s1, e1, t1⟩ := openz_T w1 g1
  simp at e1
  have c2 : Tryz.prog.cellsOf 4 = 1 := by kernel_rfl
  obtain ⟨y2, g2, w2⟩ := hf 2 ⟨"Prefix", 4, 2, false, "", "", 32⟩ rfl
  have g2 : DataW.trod enc Tryz.prog W 0 (fun _ => true) true n 4 (([z1, z2, z3, z4].drop 2).take (Tryz.prog.cellsOf 4)) = some y2 := g2
  rw [c2] at g2
  obtain ⟨s2, e2⟩ := open_B g2
  simp at e2
  have c3 : Tryz.prog.cellsOf 4 = 1 := by kernel_rfl
  obtain ⟨y3, g3, w3⟩ := hf 3 ⟨"Not", 4, 3, false, "", "", 33⟩ rfl
  have g3 : DataW.trod enc Tryz.prog W 0 (fun _ => true) true n 4 (([z1, z2, z3, z4].drop 3).take (Tryz.prog.cellsOf 4)) = some y3 := g3
  rw [c3] at g3
  obtain ⟨s3, e3⟩ := open_B g3
  simp at e3
  exact ⟨⟨s0, s1, s2, s3⟩, by rw [e0, e1, e2, e3]; rfl, t0, t1⟩
set_option maxRecDepth 100000 in
theorem openz_Lbs {fuel : Nat} {cs : List Value} {x : DataW H × List MemPlace} (hw : Fits Tryz.prog 24 x.1) (h : DataW.trod enc Tryz.prog W 0 (fun _ => true) true fuel 24 cs = some x) : ∃ v l, cs = [v] ∧ RdL W W.heap.size v l ∧ Nz v ∧ TxL l := by
  have ck : Tryz.prog.cellsOf 59 = 2 := by kernel_rfl
  obtain ⟨A, n, c, rfl, hsz, hc, hz, hA⟩ := open_G Tryz.underlying24 ck (by decide) hw h
  have hnz : Nz (.slice A n c) := fun n' c' e => by injection e with e1 e2 e3; subst e1 e3; exact (hz rfl).2
  rcases hA with rfl | ⟨b, o, rfl, hb, hx⟩
  · exact ⟨_, [], rfl, ⟨A, c, rfl, hc, .inl rfl⟩, hnz, fun _ h => absurd h List.not_mem_nil⟩
  · obtain ⟨l, hl, hq⟩ := choose_list (Q := fun i (y : Lb) => Cell2 W b (o + i * 2) y ∧ TxB y) (n := n) fun i hi => by
      obtain ⟨cs', fl, y, k1, k2, k3, k4⟩ := hx i hi
      obtain ⟨s, rfl, ht⟩ := openz_lb k4 k3
      exact ⟨s, ⟨k2 0 (by decide), k2 1 (by decide)⟩, ht⟩
    exact ⟨_, l, rfl, ⟨_, c, by rw [hl], by rw [hl]; exact hc, .inr ⟨b, o, rfl, hb, fun i hi => (hq i hi).1⟩⟩, hnz, fun x hx => by
      obtain ⟨i, hi, rfl⟩ := List.getElem_of_mem hx
      exact (hq i hi).2⟩
set_option maxRecDepth 100000 in
theorem openz_Fils {fuel : Nat} {cs : List Value} {x : DataW H × List MemPlace} (hw : Fits Tryz.prog 23 x.1) (h : DataW.trod enc Tryz.prog W 0 (fun _ => true) true fuel 23 cs = some x) : ∃ v l, cs = [v] ∧ RdF W W.heap.size v l ∧ Nz v ∧ ∀ f ∈ l, TxF f := by
  have ck : Tryz.prog.cellsOf 61 = 4 := by kernel_rfl
  obtain ⟨A, n, c, rfl, hsz, hc, hz, hA⟩ := open_G Tryz.underlying23 ck (by decide) hw h
  have hnz : Nz (.slice A n c) := fun n' c' e => by injection e with e1 e2 e3; subst e1 e3; exact (hz rfl).2
  rcases hA with rfl | ⟨b, o, rfl, hb, hx⟩
  · exact ⟨_, [], rfl, ⟨A, c, rfl, hc, .inl rfl⟩, hnz, fun _ h => absurd h List.not_mem_nil⟩
  · obtain ⟨l, hl, hq⟩ := choose_list (Q := fun i (y : Fil) => FilAt W b (o + i * 4) y ∧ TxF y) (n := n) fun i hi => by
      obtain ⟨cs', fl, y, k1, k2, k3, k4⟩ := hx i hi
      obtain ⟨s, rfl, ht⟩ := openz_fil k4 k3
      exact ⟨s, ⟨k2 0 (by decide), k2 1 (by decide), k2 2 (by decide), k2 3 (by decide)⟩, ht⟩
    exact ⟨_, l, rfl, ⟨_, c, by rw [hl], by rw [hl]; exact hc, .inr ⟨b, o, rfl, hb, fun i hi => (hq i hi).1⟩⟩, hnz, fun x hx => by
      obtain ⟨i, hi, rfl⟩ := List.getElem_of_mem hx
      exact (hq i hi).2⟩
set_option maxRecDepth 100000 in
theorem openz_row {fuel : Nat} {cs : List Value} {x : DataW H × List MemPlace} (hw : Fits Tryz.prog 28 x.1) (h : DataW.trod enc Tryz.prog W 0 (fun _ => true) true fuel 28 cs = some x) : ∃ (lv : Value) (r : RowS), cs = [lv, .int .i64 r.2.1, .int .i64 r.2.2.1, .int .i64 r.2.2.2.1, .int .i64 r.2.2.2.2] ∧ RdL W W.heap.size lv r.1 ∧ Nz lv ∧ TxL r.1 := by
  obtain ⟨hc, n, hf⟩ := open_struct Tryz.underlying28 hw h
  have ck : Tryz.prog.cellsOf 28 = 5 := by kernel_rfl
  rw [ck] at hc
  obtain ⟨z1, z2, z3, z4, z5, rfl⟩ := len5x hc
  have c0 : Tryz.prog.cellsOf 24 = 1 := by kernel_rfl
  obtain ⟨y0, g0, w0⟩ := hf 0 ⟨"Labels", 24, 0, false, "", "", 0⟩ rfl
  have g0 : DataW.trod enc Tryz.prog W 0 (fun _ => true) true n 24 (([z1, z2, z3, z4, z5].drop 0).take (Tryz.prog.cellsOf 24)) = some y0 := g0
  rw [c0] at g0
  obtain ⟨lv0, l0, e0, hR0, hz0, ht0⟩ := openz_Lbs w0 g0
  simp at e0
  have c1 : Tryz.prog.cellsOf 2 = 1 := by kernel_rfl
  obtain ⟨y1, g1, w1⟩ := hf 1 ⟨"T", 2, 1, false, "", "", 24⟩ rfl
  have g1 : DataW.trod enc Tryz.prog W 0 (fun _ => true) true n 2 (([z1, z2, z3, z4, z5].drop 1).take (Tryz.prog.cellsOf 2)) = some y1 := g1
  rw [c1] at g1
  obtain ⟨s1, e1⟩ := open_I Tryz.underlying2 g1
  simp at e1
  have c2 : Tryz.prog.cellsOf 26 = 3 := by kernel_rfl
  obtain ⟨y2, g2, w2⟩ := hf 2 ⟨"V", 26, 2, false, "", "", 32⟩ rfl
  have g2 : DataW.trod enc Tryz.prog W 0 (fun _ => true) true n 26 (([z1, z2, z3, z4, z5].drop 2).take (Tryz.prog.cellsOf 26)) = some y2 := g2
  rw [c2] at g2
  obtain ⟨m2, p2, q2, e2⟩ := open_val g2
  simp at e2
  exact ⟨lv0, (l0, (s1, m2, p2, q2)), by rw [e0, e1, e2.1, e2.2.1, e2.2.2], hR0, hz0, ht0⟩
set_option maxRecDepth 100000 in
theorem openz_Rows {fuel : Nat} {cs : List Value} {x : DataW H × List MemPlace} (hw : Fits Tryz.prog 22 x.1) (h : DataW.trod enc Tryz.prog W 0 (fun _ => true) true fuel 22 cs = some x) : ∃ v l, cs = [v] ∧ RdW W W.heap.size v l ∧ Nz v ∧ l.length ≤ 140737488355328 ∧ ∀ r ∈ l, TxL r.1 := by
  have ck : Tryz.prog.cellsOf 28 = 5 := by kernel_rfl
  have cb : 1 ≤ Tryz.prog.bytesOf 28 := by decide +kernel
  obtain ⟨A, n, c, rfl, hsz, hc, hz, hA⟩ := open_G Tryz.underlying22 ck (by decide) hw h
  have hsz2 : n ≤ 140737488355328 := by
    have h2 := Nat.mul_le_mul_left n cb
    unfold reachBytes at hsz
    omega
  have hnz : Nz (.slice A n c) := fun n' c' e => by injection e with e1 e2 e3; subst e1 e3; exact (hz rfl).2
  rcases hA with rfl | ⟨b, o, rfl, hb, hx⟩
  · exact ⟨_, [], rfl, ⟨A, c, rfl, hc, .inl rfl⟩, hnz, Nat.zero_le _, fun _ h => absurd h List.not_mem_nil⟩
  · obtain ⟨l, hl, hq⟩ := choose_list (Q := fun i (y : RowS) => RowAt W W.heap.size b (o + i * 5) y ∧ TxL y.1) (n := n) fun i hi => by
      obtain ⟨cs', fl, y, k1, k2, k3, k4⟩ := hx i hi
      obtain ⟨lv, s, rfl, h1, h2, ht⟩ := openz_row k4 k3
      exact ⟨s, ⟨lv, k2 0 (by decide), h1, h2, k2 1 (by decide), k2 2 (by decide), k2 3 (by decide), k2 4 (by decide)⟩, ht⟩
    exact ⟨_, l, rfl, ⟨_, c, by rw [hl], by rw [hl]; exact hc, .inr ⟨b, o, rfl, hb, fun i hi => (hq i hi).1⟩⟩, hnz, by omega, fun x hx => by
      obtain ⟨i, hi, rfl⟩ := List.getElem_of_mem hx
      exact (hq i hi).2⟩
set_option maxRecDepth 100000 in
theorem openz_act {fuel : Nat} {cs : List Value} {x : DataW H × List MemPlace} (hw : Fits Tryz.prog 34 x.1) (h : DataW.trod enc Tryz.prog W 0 (fun _ => true) true fuel 34 cs = some x) : ∃ (rv fv : Value) (a : ActS), cs = [.int .i64 a.kind, rv, fv, .int .i64 a.now] ∧ RdW W W.heap.size rv a.rows ∧ Nz rv ∧ RdF W W.heap.size fv a.fs ∧ Nz fv ∧ a.rows.length ≤ 140737488355328 ∧ TxA a := by
  obtain ⟨hc, n, hf⟩ := open_struct Tryz.underlying34 hw h
  have ck : Tryz.prog.cellsOf 34 = 4 := by kernel_rfl
  rw [ck] at hc
  obtain ⟨z1, z2, z3, z4, rfl⟩ := len4x hc
  have c0 : Tryz.prog.cellsOf 3 = 1 := by kernel_rfl
  obtain ⟨y0, g0, w0⟩ := hf 0 ⟨"Kind", 3, 0, false, "", "", 0⟩ rfl
  have g0 : DataW.trod enc Tryz.prog W 0 (fun _ => true) true n 3 (([z1, z2, z3, z4].drop 0).take (Tryz.prog.cellsOf 3)) = some y0 := g0
  rw [c0] at g0
  obtain ⟨s0, e0⟩ := open_I Tryz.underlying3 g0
  simp at e0
  have c1 : Tryz.prog.cellsOf 22 = 1 := by kernel_rfl
  obtain ⟨y1, g1, w1⟩ := hf 1 ⟨"Rows", 22, 1, false, "", "", 8⟩ rfl
  have g1 : DataW.trod enc Tryz.prog W 0 (fun _ => true) true n 22 (([z1, z2, z3, z4].drop 1).take (Tryz.prog.cellsOf 22)) = some y1 := g1
  rw [c1] at g1
  obtain ⟨rv1, r1, e1, hR1, hz1, hs1, ht1⟩ := openz_Rows w1 g1
  simp at e1
  have c2 : Tryz.prog.cellsOf 23 = 1 := by kernel_rfl
  obtain ⟨y2, g2, w2⟩ := hf 2 ⟨"F", 23, 2, false, "", "", 32⟩ rfl
  have g2 : DataW.trod enc Tryz.prog W 0 (fun _ => true) true n 23 (([z1, z2, z3, z4].drop 2).take (Tryz.prog.cellsOf 23)) = some y2 := g2
  rw [c2] at g2
  obtain ⟨fv2, f2, e2, hR2, hz2, ht2⟩ := openz_Fils w2 g2
  simp at e2
  have c3 : Tryz.prog.cellsOf 2 = 1 := by kernel_rfl
  obtain ⟨y3, g3, w3⟩ := hf 3 ⟨"Now", 2, 3, false, "", "", 56⟩ rfl
  have g3 : DataW.trod enc Tryz.prog W 0 (fun _ => true) true n 2 (([z1, z2, z3, z4].drop 3).take (Tryz.prog.cellsOf 2)) = some y3 := g3
  rw [c3] at g3
  obtain ⟨s3, e3⟩ := open_I Tryz.underlying2 g3
  simp at e3
  exact ⟨rv1, fv2, ⟨s0, r1, f2, s3⟩, by rw [e0, e1, e2, e3], hR1, hz1, hR2, hz2, hs1, ht1, ht2⟩
set_option maxRecDepth 100000 in
theorem openz_Acts {fuel : Nat} {cs : List Value} {x : DataW H × List MemPlace} (hw : Fits Tryz.prog 35 x.1) (h : DataW.trod enc Tryz.prog W 0 (fun _ => true) true fuel 35 cs = some x) : ∃ v l, cs = [v] ∧ RdA W W.heap.size v l ∧ Nz v ∧ ∀ a ∈ l, a.rows.length ≤ 140737488355328 ∧ TxA a := by
  have ck : Tryz.prog.cellsOf 34 = 4 := by kernel_rfl
  obtain ⟨A, n, c, rfl, hsz, hc, hz, hA⟩ := open_G Tryz.underlying35 ck (by decide) hw h
  have hnz : Nz (.slice A n c) := fun n' c' e => by injection e with e1 e2 e3; subst e1 e3; exact (hz rfl).2
  rcases hA with rfl | ⟨b, o, rfl, hb, hx⟩
  · exact ⟨_, [], rfl, ⟨A, c, rfl, hc, .inl rfl⟩, hnz, fun _ h => absurd h List.not_mem_nil⟩
  · obtain ⟨l, hl, hq⟩ := choose_list (Q := fun i (y : ActS) => ActAt W W.heap.size b (o + i * 4) y ∧ y.rows.length ≤ 140737488355328 ∧ TxA y) (n := n) fun i hi => by
      obtain ⟨cs', fl, y, k1, k2, k3, k4⟩ := hx i hi
      obtain ⟨rv, fv, a, rfl, h1, h2, h3, h4, h5, h6⟩ := openz_act k4 k3
      exact ⟨a, ⟨rv, fv, k2 0 (by decide), k2 1 (by decide), k2 2 (by decide), k2 3 (by decide), h1, h2, h3, h4⟩, h5, h6⟩
    refine ⟨_, l, rfl, ⟨_, c, by rw [hl], by rw [hl]; exact hc, .inr ⟨b, o, rfl, hb, fun i hi => (hq i hi).1⟩⟩, hnz, fun a ha => ?_⟩
    obtain ⟨i, hi, rfl⟩ := List.getElem_of_mem ha
    exact (hq i hi).2
set_option maxRecDepth 100000 in
theorem openz_FilsV {base : Nat} {v : Value} {d : DataW H} {p : List MemPlace} (hw : Fits Tryz.prog 23 d) (hval : Value.okWide Tryz.prog W .any base 23 v) (h : DataW.Trod enc Tryz.prog W 0 (fun _ => true) true 23 v d p) : ∃ l, RdF W W.heap.size v l ∧ Nz v ∧ ∀ f ∈ l, TxF f := by
  obtain ⟨fuel, hf⟩ := h
  obtain ⟨a', len', cap', rfl⟩ := okWide_slice Tryz.underlying23 hval
  obtain ⟨v, l, e, r⟩ := openz_Fils hw hf
  have e : [Value.slice a' len' cap'] = [v] := e
  injection e with e _
  subst e
  exact ⟨l, r⟩
set_option maxRecDepth 100000 in
theorem openz_ActsV {base : Nat} {v : Value} {d : DataW H} {p : List MemPlace} (hw : Fits Tryz.prog 35 d) (hval : Value.okWide Tryz.prog W .any base 35 v) (h : DataW.Trod enc Tryz.prog W 0 (fun _ => true) true 35 v d p) : ∃ l, RdA W W.heap.size v l ∧ Nz v ∧ ∀ a ∈ l, a.rows.length ≤ 140737488355328 ∧ TxA a := by
  obtain ⟨fuel, hf⟩ := h
  obtain ⟨a', len', cap', rfl⟩ := okWide_slice Tryz.underlying35 hval
  obtain ⟨v, l, e, r⟩ := openz_Acts hw hf
  have e : [Value.slice a' len' cap'] = [v] := e
  injection e with e _
  subst e
  exact ⟨l, r⟩
set_option maxRecDepth 100000 in
theorem openz_RowV {base : Nat} {v : Value} {d : DataW H} {p : List MemPlace} (hw : Fits Tryz.prog 28 d) (hval : Value.okWide Tryz.prog W .any base 28 v) (h : DataW.Trod enc Tryz.prog W 0 (fun _ => true) true 28 v d p) : ∃ (lv : Value) (r : RowS), v = vR lv r.2 ∧ RdL W W.heap.size lv r.1 ∧ Nz lv ∧ TxL r.1 := by
  obtain ⟨cs, rfl, _⟩ := okWide_struct Tryz.underlying28 hval
  obtain ⟨fuel, hf⟩ := h
  obtain ⟨lv, r, e, h1⟩ := openz_row hw hf
  obtain ⟨cl⟩ := cs
  have e : cl = _ := e
  subst e
  exact ⟨lv, r, rfl, h1⟩
end
end Go.Proofs.YtkgcbeokfilehaaGreatDoor

/-
  What stays readable while just some blocks turn; the reference's rows of series that grow.
-/
namespace Go.Proofs.YtkgcbeokfilehaaGreatDoor
open Go.RowKit Go.Sort Go.Maps
theorem info_Se20 : (Tryz.prog.info? 107).map (fun i => (i.zero, i.size, i.bytes)) = some (some (.agg #[.slice none 0 0, .slice none 0 0]), 2, 48) := by kernel_rfl
/-- Readable as long as just S turns. -/
def SL (S : Nat → Prop) (W : World) (v : Value) (l : Lbs) : Prop := ∀ w', Chg S W w' → RdL w' w'.heap.size v l
def SR (S : Nat → Prop) (W : World) (v : Value) (l : List Smp) : Prop := ∀ w', Chg S W w' → Rd w' w'.heap.size v l
section
variable {S S' T : Nat → Prop} {W W' : World}
theorem SL.chg {v : Value} {l : Lbs} (h : SL S W v l) (k : Chg T W W') (h1 : ∀ x, T x → S x) (h2 : ∀ x, x < W.heap.size → S' x → S x) : SL S' W' v l := fun w k2 => h w (k.trans k2 h1 h2)
theorem SR.chg {v : Value} {l : List Smp} (h : SR S W v l) (k : Chg T W W') (h1 : ∀ x, T x → S x) (h2 : ∀ x, x < W.heap.size → S' x → S x) : SR S' W' v l := fun w k2 => h w (k.trans k2 h1 h2)
theorem SL.on {v : Value} {l : Lbs} (h : SL S W v l) (k : Below W.heap.size W W') : SL S W' v l := h.chg (.of_below k) (fun _ e => e.elim) (fun _ _ e => e)
theorem SR.on {v : Value} {l : List Smp} (h : SR S W v l) (k : Below W.heap.size W W') : SR S W' v l := h.chg (.of_below k) (fun _ e => e.elim) (fun _ _ e => e)
theorem SL.rd {v : Value} {l : Lbs} (h : SL S W v l) : RdL W W.heap.size v l := h W (Chg.refl S W)
theorem SR.rd {v : Value} {l : List Smp} (h : SR S W v l) : Rd W W.heap.size v l := h W (Chg.refl S W)
theorem SL.own {B : Nat} {v : Value} {l : Lbs} (h : OwnL W B v l) (hS : ∀ k, S k → k < B) : SL S W v l := fun w k => by
  have : OwnL w B v l := owns_same h fun g hg => k.block g (World.ownsRow.lt h g hg).2 (fun e => by have := hS g e; have := (World.ownsRow.lt h g hg).1; omega)
  exact this.rd
theorem own_chg {w : World} {B e : Nat} {v : Value} {l : List Smp} (h : Own W B e v l) (k : Chg S W w) (hS : ∀ k, S k → k < B) : Own w B e v l :=
  owns_same h fun g hg => k.block g (World.ownsRow.lt h g hg).2 (fun e => by have := hS g e; have := (World.ownsRow.lt h g hg).1; omega)
theorem SR.own {B : Nat} {v : Value} {l : List Smp} (h : Own W B 54 v l) (hS : ∀ k, S k → k < B) : SR S W v l := fun _ k => (own_chg h k hS).rd
end
/-- A row of series that stays readable as long as just S turns. -/
def SerS (S : Nat → Prop) (W : World) (b o : Nat) (x : Ser) : Prop :=
  ∃ lv sv, W.cell? ⟨b, o, none⟩ = some lv ∧ W.cell? ⟨b, o + 1, none⟩ = some sv ∧ (SL S W lv x.1 ∧ Nz lv) ∧ SR S W sv x.2 ∧ Nz sv
def RdXS (S : Nat → Prop) (W : World) (v : Value) (l : List Ser) : Prop :=
  ∃ A c, v = .slice A l.length c ∧ l.length ≤ c ∧ (l = [] ∨ ∃ b o, A = some ⟨b, o, none⟩ ∧ b < W.heap.size ∧ ¬ S b ∧ ∀ i (h : i < l.length), SerS S W b (o + i * 2) l[i])
theorem cell_of_block {w w' : World} {b o : Nat} (h : w'.heap[b]? = w.heap[b]?) : w'.cell? ⟨b, o, none⟩ = w.cell? ⟨b, o, none⟩ := by simp [World.cell?, h]
theorem RdXS.chg {S S' T : Nat → Prop} {W W' : World} {v : Value} {l : List Ser} (h : RdXS S W v l) (k : Chg T W W') (h1 : ∀ x, T x → S x) (h2 : ∀ x, x < W.heap.size → S' x → S x) : RdXS S' W' v l := by
  obtain ⟨A, c, e, hc, hA⟩ := h
  refine ⟨A, c, e, hc, hA.imp id ?_⟩
  rintro ⟨b, o, eA, hb, hS, hcl⟩
  have hbk := k.block b hb (fun e => hS (h1 b e))
  refine ⟨b, o, eA, Nat.lt_of_lt_of_le hb k.size, fun e => hS (h2 b hb e), fun i hi => ?_⟩
  obtain ⟨lv, sv, c0, c1, hl, hs, hz⟩ := hcl i hi
  exact ⟨lv, sv, (cell_of_block hbk).trans c0, (cell_of_block hbk).trans c1, ⟨hl.1.chg k h1 h2, hl.2⟩, hs.chg k h1 h2, hz⟩
theorem RdXS.on {S : Nat → Prop} {W W' : World} {v : Value} {l : List Ser} (h : RdXS S W v l) (k : Below W.heap.size W W') : RdXS S W' v l := h.chg (.of_below k) (fun _ e => e.elim) (fun _ _ e => e)
theorem RdXS.rd {S : Nat → Prop} {W : World} {v : Value} {l : List Ser} (h : RdXS S W v l) : RdX W W.heap.size v l := by
  obtain ⟨A, c, e, hc, hA⟩ := h
  refine ⟨A, c, e, hc, hA.imp id ?_⟩
  rintro ⟨b, o, eA, hb, hS, hcl⟩
  refine ⟨b, o, eA, hb, fun i hi => ?_⟩
  obtain ⟨lv, sv, c0, c1, hl, hs, hz⟩ := hcl i hi
  exact ⟨lv, sv, c0, c1, hl.1.rd, hl.2, hs.rd, hz⟩
theorem RdXS.nil (S : Nat → Prop) (W : World) : RdXS S W (.slice none 0 0) [] := ⟨none, 0, rfl, Nat.le_refl _, .inl rfl⟩
/-- What a row of series that grows holds: what was there ahead (at W1), or the call's own. -/
def EntS (S : Nat → Prop) (W1 w : World) (x : SerV) : Prop := (SL S W1 x.1 x.2.2.1 ∧ Nz x.1) ∧ Nz x.2.1 ∧ (SR S W1 x.2.1 x.2.2.2 ∨ Own w W1.heap.size 54 x.2.1 x.2.2.2)
structure OutQ (ty : TypeId) (S : Nat → Prop) (W1 w : World) (v : Value) (xs : List SerV) : Prop where
  below : Below W1.heap.size W1 w
  row : w.ownsRow W1.heap.size ty 2 v xs.length (flatV xs)
  rd : ∀ x ∈ xs, EntS S W1 w x
section
variable {ty : TypeId} {S : Nat → Prop} {W1 w w' : World} {v v' : Value} {xs : List SerV}
theorem OutQ.nil (ty : TypeId) (S : Nat → Prop) (W1 : World) : OutQ ty S W1 W1 (.slice none 0 0) [] := ⟨Below.refl _ _, ⟨rfl, .inl ⟨rfl, rfl⟩⟩, fun _ h => absurd h List.not_mem_nil⟩
theorem EntS.on {x : SerV} (h : EntS S W1 w x) (k : Below w.heap.size w w') : EntS S W1 w' x := ⟨h.1, h.2.1, h.2.2.imp id fun o => o.below k⟩
theorem OutQ.on (h : OutQ ty S W1 w v xs) (k : Below w.heap.size w w') : OutQ ty S W1 w' v xs :=
  ⟨h.below.trans (k.mono h.below.size), below_owns k h.row, fun x hx => (h.rd x hx).on k⟩
theorem OutQ.push {x : SerV} (h : OutQ ty S W1 w v xs) (hty : ty ≠ 54) (hx : EntS S W1 w x) (hg : w.grownBy w' v.ownBlock) (hown : w'.ownsRow W1.heap.size ty 2 v' (xs.length + 1) (flatV xs ++ serC x)) : OutQ ty S W1 w' v' (xs ++ [x]) := by
  have hlt := World.ownsRow.lt h.row
  have hk : Below W1.heap.size W1 w' := h.below.grown hg h.below.size (fun k e => (hlt k e).1)
  have ho : ∀ {y : SerV}, EntS S W1 w y → EntS S W1 w' y := fun hy =>
    ⟨hy.1, hy.2.1, hy.2.2.imp id fun o => owns_same o fun g hu => hg.block g (World.ownsRow.lt o g hu).2 fun e => tag_ne o h.row (Ne.symm hty) g hu e.symm⟩
  refine ⟨hk, ?_, fun y hy => ?_⟩
  · rw [flatV_append, flatV_one, List.length_append]
    exact hown
  · rcases List.mem_append.1 hy with hy | hy
    · exact ho (h.rd y hy)
    · rw [List.mem_singleton] at hy
      subst hy
      exact ho hx
theorem OutQ.rdXS (h : OutQ ty S W1 w v xs) (hS : ∀ k, S k → k < W1.heap.size) : RdXS S w v (cutV xs) := by
  have hlen : (cutV xs).length = xs.length := by simp [cutV]
  have hch : Chg NoB W1 w := ⟨h.below.os, h.below.tape, h.below.output, h.below.size, fun i hi _ => h.below.block i hi⟩
  rcases h.row.2 with ⟨rfl, hn⟩ | ⟨g, cap, cur, rfl, hb, hc, h1, h2, h3, h4⟩
  · have : xs = [] := List.eq_nil_of_length_eq_zero hn
    subst this
    exact ⟨none, 0, rfl, Nat.zero_le _, .inl rfl⟩
  · refine ⟨some ⟨g, 0, none⟩, cap, by rw [hlen], by rw [hlen]; exact h1, .inr ⟨g, 0, rfl, (Array.getElem?_eq_some_iff.1 hc).1, fun e => by have := hS g e; omega, fun i hi => ?_⟩⟩
    have hi' : i < xs.length := by rw [← hlen]; exact hi
    obtain ⟨q1, q2, q3⟩ := h.rd xs[i] (List.getElem_mem hi')
    have hcell : ∀ t (ht : t < 2), w.cell? ⟨g, 0 + i * 2 + t, none⟩ = (serC xs[i])[t]? := by
      intro t ht
      have e1 : w.cell? ⟨g, 0 + i * 2 + t, none⟩ = cur[0 + i * 2 + t]? := by simp [World.cell?, hc]
      have e2 : (cur.toList.take (xs.length * 2))[i * 2 + t]? = cur.toList[i * 2 + t]? := List.getElem?_take_of_lt (by omega)
      rw [e1, Nat.zero_add, ← flatV_at xs i t hi' ht, ← h4, e2, Array.getElem?_toList]
    have hci : (cutV xs)[i] = xs[i].2.2 := by simp [cutV]
    rw [hci]
    refine ⟨_, _, hcell 0 (by omega), hcell 1 (by omega), ⟨q1.1.chg hch (fun _ e => e.elim) (fun _ _ e => e), q1.2⟩, ?_, q2⟩
    exact q3.elim (fun r => r.chg hch (fun _ e => e.elim) (fun _ _ e => e)) (fun o => SR.own o hS)
theorem RdXS.nz (h : w.ownsRow W1.heap.size ty 2 v xs.length (flatV xs)) : Nz v := by
  intro n c hv
  rcases h.2 with ⟨h1, _⟩ | ⟨g, cap, cur, h1, _⟩
  · rw [h1] at hv; injection hv with _ _ h; exact h.symm
  · rw [h1] at hv; injection hv with h; cases h
end
theorem OutQ.form {ty : TypeId} {S : Nat → Prop} {W1 w : World} {v : Value} {xs : List SerV} (h : OutQ ty S W1 w v xs) : ∃ A c, v = .slice A xs.length c := by
  rcases h.row.2 with ⟨rfl, hn⟩ | ⟨g, cap, cur, rfl, _⟩
  · exact ⟨none, 0, by rw [hn]⟩
  · exact ⟨_, cap, rfl⟩
theorem Chg.set {T : Nat → Prop} {a w : World} (h : Chg T a w) (p : Addr) (hp : T p.block) (v : Value) : Chg T a (w.setCell p v) :=
  h.trans (Chg.setCell w p v) (fun _ e => e) (fun x _ e => by have e : x = p.block := e; rw [e]; exact hp)
theorem Chg.refl_ {T : Nat → Prop} (w : World) : Chg T w w := Chg.refl T w
/-- append of one of the reference's series. -/
theorem app1Q {S : Nat → Prop} {w W1 : World} {ops : Array Oper} {rest : List Oper} {o : Oper} {a : Act} {Q : Exit → Act → World → Prop} (hgd : o.guard = none) (s x : Operand) (t ty : TypeId)
    (ho : o.op = .call { callee := .builtin .append, args := #[s, x], argTypes := #[t, t] }) (ht : Tryz.prog.underlying t = some (.slice ty))
    (hinf : (Tryz.prog.info? ty).map (fun i => (i.zero, i.size, i.bytes)) = some (some (.agg #[.slice none 0 0, .slice none 0 0]), 2, 48)) (hty : ty ≠ 54)
    (v : Value) (xs : List SerV) (y : SerV) (hs : a.eval s = v) (hown : OutQ ty S W1 w v xs) (b c : Nat) (hx : a.eval x = .slice (some ⟨b, 0, none⟩) 1 c) (hc0 : w.cell? ⟨b, 0, none⟩ = some y.1) (hc1 : w.cell? ⟨b, 1, none⟩ = some y.2.1)
    (hy : EntS S W1 w y) (hl : (xs.length + 1) * 48 ≤ 140737488355328)
    (h : ∀ v' w', OutQ ty S W1 w' v' (xs ++ [y]) → wpList Tryz.prog ops Q rest (a.put o.dst v') w') :
    wpList Tryz.prog ops Q (o :: rest) a w := by
  obtain ⟨i, hi, hz, hsz, hby⟩ := of_info hinf
  have o1 : y.1.oneCell' = true := by obtain ⟨A, c, e, _⟩ := hy.1.1.rd; rw [e]; rfl
  have o2 : y.2.1.oneCell' = true := by
    rcases hy.2.2 with r | r
    · obtain ⟨A, c, e, _⟩ := r.rd; rw [e]; rfl
    · obtain ⟨A, c, e, _⟩ := r.rd; rw [e]; rfl
  refine wpList_append_own_at w hgd s x t ho W1.heap.size ty i _ 2 48 ht hi hz hsz hby rfl (by decide) v xs.length (flatV xs) hs hown.row ⟨b, 0, none⟩ 1 c (serC y) hx rfl ?_ (serC_one y o1 o2) (by unfold maxLen; omega) hl hown.below.size (fun v' w' h1 h2 _ h4 => ?_)
  · intro j u hj
    rcases j with _ | _ | j
    · simp [serC] at hj; subst hj; simpa [Addr.add] using hc0
    · simp [serC] at hj; subst hj; simpa [Addr.add] using hc1
    · simp [serC] at hj
  · exact h v' w' (hown.push hty hy h2 h1)
end Go.Proofs.YtkgcbeokfilehaaGreatDoor

/-
  OracleTells, OracleDeletes in plain words: a narrower question; what is deleted.
-/
namespace Go.Proofs.YtkgcbeokfilehaaGreatDoor
theorem filter_map_tell (p q r : Lbs → Bool) (C D : Lbs → List Smp) : ∀ ls : List Lbs, (∀ c ∈ ls, p c = (q c && r c)) → (∀ c ∈ ls, p c = true → D c = C c) →
    (ls.filter p).map (fun c => (c, D c)) = ((ls.filter q).map (fun c => (c, C c))).filter (fun x => r x.1)
  | [], _, _ => rfl
  | c :: ls, h1, h2 => by
    have ih := filter_map_tell p q r C D ls (fun x hx => h1 x (List.mem_cons_of_mem _ hx)) (fun x hx => h2 x (List.mem_cons_of_mem _ hx))
    have e := h1 c List.mem_cons_self
    have d := h2 c List.mem_cons_self
    rw [List.filter_cons, List.filter_cons]
    cases hq : q c with
    | false =>
      rw [hq, Bool.false_and] at e
      rw [e]
      simpa using ih
    | true =>
      rw [hq, Bool.true_and] at e
      cases hr : r c with
      | false =>
        rw [hr] at e
        rw [e]
        simp [hr, ih]
      | true =>
        rw [hr] at e
        rw [e]
        simp [hr, ih, d e]
/-- What is deleted is told no more, all else is. -/
theorem tell_del (d f t : Int) (gs fs : List Fil) (R : Told) : tellS d f t gs (delR fs R) = (tellS d f t gs R).filter (fun x => !allF fs x.1) := by
  unfold tellS
  rw [labs_del, List.filter_filter]
  refine filter_map_tell _ _ (fun c => !allF fs c) (tellC d f t R) (tellC d f t (delR fs R)) _ (fun c _ => ?_) (fun c _ h => ?_)
  · cases hf : allF fs c with
    | true => simp
    | false =>
      have e : tellC d f t (delR fs R) c = tellC d f t R c := by unfold tellC; rw [smpOf_del fs R c hf]
      rw [e]
  · have hf : allF fs c = false := by
      cases hf : allF fs c with
      | false => rfl
      | true => rw [hf] at h; simp at h
    unfold tellC; rw [smpOf_del fs R c hf]
end Go.Proofs.YtkgcbeokfilehaaGreatDoor

/-
  oracle.Add of more than sixteen rows.
-/
namespace Go.Proofs.YtkgcbeokfilehaaGreatDoor
open Go.RowKit Go.Sort Go.Maps
set_option maxRecDepth 100000 in
set_option maxHeartbeats 1000000 in
theorem add_big {W : World} (o : Nat) (v : Value) (l : List RowS) (hR : RdW W W.heap.size v l) (hl : 16 < l.length) :
    Calls Tryz.prog 13 #[.pointer (some ⟨o, 0, none⟩), v] W fun e w' => e = .returned (.tuple #[.int .i64 0, .int .i64 2]) ∧ Ext W w' := by
  obtain ⟨A, c, rfl, _, _⟩ := hR
  obtain ⟨n, hn⟩ : ∃ n, n = l.length := ⟨_, rfl⟩
  rw [← hn] at hl ⊢
  clear hn
  have g : (16 : Int) < (n : Int) := by omega
  go_enter Tryz.func13, Tryz.ntmps13
  go_wp2_with fail
  go_ret2
  exact ⟨rfl, Ext.refl _⟩
end Go.Proofs.YtkgcbeokfilehaaGreatDoor
