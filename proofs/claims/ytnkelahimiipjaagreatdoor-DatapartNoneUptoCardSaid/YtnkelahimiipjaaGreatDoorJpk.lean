/-
 What stays of points where others' blocks are written; points that are written over.
-/
import Derived.Test.YtnkelahimiipjaaGreatDoorJnk
import Derived.Test.YtnkelahimiipjaaGreatDoorQpk
import Derived.Lib.SmallJoins
import Derived.Deep.DeepHandedRow
namespace Go.Proofs.YtnkelahimiipjaaGreatDoor
open Go.RowKit Go.Sort
/-- The blocks from B to S are as they were. -/
def Mid (B S : Nat) (w w' : World) : Prop := w.heap.size ≤ w'.heap.size ∧ ∀ k, B ≤ k → k < S → w'.heap[k]? = w.heap[k]?
theorem Mid.cell {B S : Nat} {w w' : World} (h : Mid B S w w') {k i : Nat} (h1 : B ≤ k) (h2 : k < S) : w'.cell? ⟨k, i, none⟩ = w.cell? ⟨k, i, none⟩ := by
 simp [World.cell?, h.2 k h1 h2]
theorem Mid.trans {B S : Nat} {w w' w'' : World} (h : Mid B S w w') (k : Mid B S w' w'') : Mid B S w w'' :=
 ⟨Nat.le_trans h.1 k.1, fun i h1 h2 => (k.2 i h1 h2).trans (h.2 i h1 h2)⟩
theorem Mid.of_below {B S n : Nat} {w w' : World} (h : Below n w w') (hS : S ≤ n) : Mid B S w w' := ⟨h.size, fun k _ h2 => h.block k (by omega)⟩
theorem RdO.mid {w w' : World} {B : Nat} {v : Value} {l : List Pts} (h : RdO w B v l) (k : Mid B w.heap.size w w') : RdO w' B v l := by
 obtain ⟨A, c, e, hc, hA⟩ := h
 refine ⟨A, c, e, hc, hA.imp id fun ⟨b, o, e, hb0, hb, ⟨cc, ht⟩, hcl⟩ => ⟨b, o, e, hb0, Nat.lt_of_lt_of_le hb k.1, ⟨cc, (k.2 _ hb0 hb).trans ht⟩, fun i hi => ?_⟩⟩
 obtain ⟨h1, sv, h2, ⟨h3, h4⟩, h5⟩ := hcl i hi
 refine ⟨(k.cell hb0 hb).trans h1, sv, (k.cell hb0 hb).trans h2, ⟨h3, h4.imp id fun ⟨g, cap, cur, hv, hg, hh, r⟩ => ⟨g, cap, cur, hv, hg, ?_, r⟩⟩, h5⟩
 rw [k.2 g hg (Array.getElem?_eq_some_iff.1 hh).1]
 exact hh
theorem PartAt.mid {w w' : World} {B pb hb : Nat} {pv : Value} (h : PartAt w pb hb pv) (hB : B ≤ pb) (k : Mid B w.heap.size w w') : PartAt w' pb hb pv :=
 ⟨(k.cell hB (lt_of_cell h.1)).trans h.1, (k.cell hB (lt_of_cell h.2)).trans h.2⟩
/-- A row's samples, whose ticks may be written: in own memory from base on, not in block b. -/
def ShQ (w : World) (base b p n : Nat) : Prop :=
 ∃ sv, w.cell? ⟨b, p, none⟩ = some sv ∧ ((sv = .slice none 0 0 ∧ n = 0) ∨ ∃ g cp, sv = .slice (some ⟨g, 0, none⟩) n cp ∧ n ≤ cp ∧ base ≤ g ∧ g ≠ b ∧ ∀ j, j < n → (∃ x, w.cell? ⟨g, j * 4, none⟩ = some (.int .i64 x)) ∧ w.frozen? ⟨g, j * 4, none⟩ = false)
/-- Points whose numbers and ticks may be written. -/
def ShP (w : World) (base : Nat) (A : Option Addr) (l : List Pts) : Prop :=
 l = [] ∨ ∃ b o, A = some ⟨b, o, none⟩ ∧ base ≤ b ∧ ∀ i (h : i < l.length), (∃ x, w.cell? ⟨b, o + i * 2, none⟩ = some (.int .i64 x)) ∧ w.frozen? ⟨b, o + i * 2, none⟩ = false ∧ ShQ w base b (o + i * 2 + 1) l[i].2.length
theorem RdO.shP {w : World} {base n c : Nat} {A : Option Addr} {l : List Pts} (h : RdO w base (.slice A n c) l) : ShP w base A l := by
 obtain ⟨A', c', e, _, hA⟩ := h
 injection e with e1 e2 e3
 subst e1
 refine hA.imp (fun h => h.1) fun ⟨b, o, e, hb0, hb, ⟨cc, hcc⟩, hcl⟩ => ⟨b, o, e, hb0, fun i hi => ?_⟩
 obtain ⟨h1, sv, h2, h3, h4⟩ := hcl i hi
 refine ⟨⟨_, h1⟩, by simp [World.frozen?, hcc], sv, h2, ?_⟩
 have hrd := h3.rd
 rcases h3.2 with ⟨e, h0⟩ | ⟨g, cap, cur, e, hg, hh, hn, hm, hcs, ht⟩
 ·exact .inl ⟨e, h0⟩
 ·refine .inr ⟨g, cap, e, hn, hg, fun eg => h4 (by rw [e, eg]; rfl), fun j hj => ⟨?_, by simp [World.frozen?, hh]⟩⟩
  obtain ⟨A2, c2, e2, _, hA2⟩ := hrd
  rw [e] at e2
  injection e2 with e3 e4 e5
  rcases hA2 with h0 | ⟨b2, o2, e4, _, hc4⟩
  ·rw [h0] at hj; simp at hj
  ·rw [e4] at e3
   injection e3 with e3
   injection e3 with e5 e6 e7
   subst e5 e6
   have := (hc4 j hj).1
   rw [Nat.zero_add] at this
   exact ⟨_, this⟩
theorem cell_set {w : World} {a b : Addr} {y : Int} (x : Int) (h : w.cell? a = some (.int .i64 y)) : ∃ z, (w.setCell b (.int .i64 x)).cell? a = some (.int .i64 z) := by
 by_cases e : a = b
 ·subst e; exact ⟨x, World.cell?_setCell_same _ _ _ h⟩
 ·refine ⟨y, ?_⟩
  rw [World.cell?_setCell_other]
  ·exact h
  ·first | exact e | exact fun h => e h.symm
theorem ShQ.set {w : World} {base b p n : Nat} (h : ShQ w base b p n) (g k : Nat) (x : Int) (hne : (⟨b, p, none⟩ : Addr) ≠ ⟨g, k, none⟩) : ShQ (w.setCell ⟨g, k, none⟩ (.int .i64 x)) base b p n := by
 obtain ⟨sv, h1, h2⟩ := h
 refine ⟨sv, ?_, h2.imp id fun ⟨g', cp, a1, a2, a3, a5, a6⟩ => ⟨g', cp, a1, a2, a3, a5, fun j hj => ?_⟩⟩
 ·rw [World.cell?_setCell_other]
  ·exact h1
  ·first | exact hne | exact fun h => hne h.symm
 ·obtain ⟨⟨y, hy⟩, hf⟩ := a6 j hj
  exact ⟨cell_set x hy, by rw [World.frozen?_setCell]; exact hf⟩
theorem ShP.set {w : World} {base : Nat} {A : Option Addr} {l : List Pts} (h : ShP w base A l) (g k : Nat) (x : Int) (hne : ∀ b o, A = some ⟨b, o, none⟩ → base ≤ b → ∀ i, (⟨b, o + i * 2 + 1, none⟩ : Addr) ≠ ⟨g, k, none⟩) : ShP (w.setCell ⟨g, k, none⟩ (.int .i64 x)) base A l :=
 h.imp id fun ⟨b, o, e, h1, h3⟩ => ⟨b, o, e, h1, fun i hi => by
  obtain ⟨⟨y, hy⟩, hf, hq⟩ := h3 i hi
  exact ⟨cell_set x hy, by rw [World.frozen?_setCell]; exact hf, hq.set g k x (hne b o e h1 i)⟩⟩
/-- What a part tells, where its own blocks are as they were. -/
theorem all_mid {w w' : World} {S0 pb hb : Nat} {pv : Value} {c : List Pts} (hP : PartAt w pb hb pv) (hpb : S0 ≤ pb) (hO : RdO w S0 pv c) (hc : Fil c) (k : Mid S0 w.heap.size w w') (T : Tabs w') :
  Calls Tryz.prog 16 #[.pointer (some ⟨pb, 0, none⟩)] w' fun e w'' => ∃ A n k, n = c.length ∧ e = .returned (.slice A n k) ∧ RdO w'' w'.heap.size (.slice A n k) c ∧ Below w'.heap.size w' w'' := by
 have hm := hc.many
 have hl := hc.len
 have k1 := scleanO pv c w' T (hO.mid k).rdP hc.wf (by omega) (by omega)
 rw [hc.fix] at k1
 refine (pall_walk pb hb pv (fun r w'' => RdO w'' w'.heap.size r c ∧ Below w'.heap.size w' w'') w' (hP.mid hpb k) k1).mono ?_
 rintro e w'' ⟨r, rfl, h1, h2⟩
 obtain ⟨A, cc, rfl, _⟩ := id h1
 exact ⟨A, _, cc, rfl, rfl, h1, h2⟩
set_option maxRecDepth 100000 in
theorem pof_none (iv : Value) (f t : Int) (W : World) : Calls Tryz.prog 18 #[.pointer none, iv, .int .i64 f, .int .i64 t] W fun e w' => e = .returned (.tuple #[.slice none 0 0, .int .i64 0]) ∧ Below W.heap.size W w' := by
 have hr : Tryz.f18.results = #[.tmp 8, .tmp 9] := by kernel_rfl
 go_enter Tryz.func18, Tryz.ntmps18
 go_wp2_with fail
 refine bodyPost_ret (v := .tuple #[.slice none 0 0, .int .i64 0]) ?_ rfl ⟨rfl, ?_⟩
 ·unfold results
  rw [hr]
  go_simp
 ·repeat (first | exact Below.refl _ _ | refine Below.alloc ?_ ?_ _)
  all_goals (first | exact Nat.le_refl _ | (simp; done) | (simp; omega))
theorem pids_none (W : World) : Calls Tryz.prog 27 #[.pointer none] W fun e w' => (∃ A c, e = .returned (.slice A 0 c)) ∧ Below W.heap.size W w' :=
 (pids_walk (.pointer none) [] W (by decide) ((pall_none W).mono fun e w' ⟨h1, h2⟩ => by
   subst h2
   exact ⟨_, h1, ⟨none, 0, rfl, Nat.le_refl _, .inl rfl⟩, Below.refl _ _⟩)).mono fun e w' ⟨r, h1, h2, h3⟩ => by
   obtain ⟨A, n, c, rfl⟩ := h2.sl
   have e2 : n = 0 := h2.len
   subst e2
   exact ⟨⟨A, c, h1⟩, h3⟩
end Go.Proofs.YtnkelahimiipjaaGreatDoor

/-
 What comes in, with its bulk: rows of points, of numbers, of bytes; an Asked.
-/
namespace Go.Proofs.YtnkelahimiipjaaGreatDoor
open Go.RowKit Go.ChangeShapes Go.WideShapes Go.ChangeAt Go.Deep
theorem bulk_one {H : Type} (d : DataW H) : 1 ≤ Rows.uptoBulk d := by
 cases d with
 | lit l => cases l <;> simp [Rows.uptoBulk]
 | nil => simp [Rows.uptoBulk]
 | ptr d => simp [Rows.uptoBulk]
 | slice elems spare => simp [Rows.uptoBulk]
 | agg parts => simp [Rows.uptoBulk]
 | iface t d => simp [Rows.uptoBulk]
 | map entries => simp [Rows.uptoBulk]
 | held h => simp [Rows.uptoBulk]
theorem bulk_len {H : Type} (l : List (DataW H)) : l.length ≤ Rows.uptoBulkAll l := by
 induction l with
 | nil => simp [Rows.uptoBulkAll]
 | cons x r ih => have := bulk_one x; simp only [Rows.uptoBulkAll, List.length_cons]; omega
theorem bulk_slice {H : Type} (l s : List (DataW H)) : Rows.uptoBulkAll l + 1 ≤ Rows.uptoBulk (.slice l s) := by
 simp only [Rows.uptoBulk]; omega
theorem bulk_sum {H : Type} : ∀ (l : List Pts) (m : List (DataW H)), l.length = m.length → (∀ i (h1 : i < l.length) (h2 : i < m.length), l[i].2.length + 1 ≤ Rows.uptoBulk m[i]) → l.length + manyL l ≤ Rows.uptoBulkAll m
 | [], _, _, _ => by simp [manyL]
 | p :: l, [], hl, _ => by simp at hl
 | p :: l, d :: m, hl, h => by
   have h0 : p.2.length + 1 ≤ Rows.uptoBulk d := h 0 (by simp) (by simp)
   have ih := bulk_sum l m (by simpa using hl) (fun i h1 h2 => h (i + 1) (by simpa using h1) (by simpa using h2))
   have e : manyL (p :: l) = p.2.length + manyL l := by simp [manyL]
   rw [e]
   simp only [Rows.uptoBulkAll, List.length_cons]
   omega
section
variable {H : Type} {enc : TypeId × Value → H} {W : World}
theorem open_Gb {t e : TypeId} {k fuel : Nat} {cs : List Value} {x : DataW H × List MemPlace} (ht : Tryz.prog.underlying t = some (.slice e)) (hk : Tryz.prog.cellsOf e = k) (hk0 : 0 < k) (h : DataW.trod enc Tryz.prog W 0 (fun _ => true) true fuel t cs = some x) :
  ∃ A n c, cs = [.slice A n c] ∧ n ≤ c ∧ (A = none → n = 0 ∧ c = 0) ∧ (n = 0 ∨ ∃ b o D S, x.1 = .slice ((List.range n).map D) S ∧ A = some ⟨b, o, none⟩ ∧ b < W.heap.size ∧ ∀ i, i < n → ∃ cs' fl y, cs'.length = k ∧ (∀ j, j < k → W.cell? ⟨b, o + i * k + j, none⟩ = cs'[j]?) ∧ DataW.trod enc Tryz.prog W 0 (fun _ => true) true fl e cs' = some y ∧ y.1 = D i) := by
 rcases open_slice ht h with ⟨h0, _⟩ | ⟨a, len, cap, m, n, D, Pl, h0, _, hlc, _, hm, hxe, hx⟩
 ·exact ⟨none, 0, 0, h0, Nat.le_refl _, fun _ => ⟨rfl, rfl⟩, .inl rfl⟩
 ·have hm2 : m = cap := by rw [hm]; rfl
  have hx1 : x.1 = .slice ((List.range len).map D) ((List.range (m - len)).map fun j => D (len + j)) := congrArg (·.1) hxe
  refine ⟨some a, len, cap, h0, hlc, fun e => (by cases e), ?_⟩
  rcases Nat.eq_zero_or_pos len with h1 | h1
  ·exact .inl h1
  ·have each : ∀ i, i < len → ∃ cs', cs'.length = k ∧ (∀ j, j < k → W.cell? (a.add (i * k + j)) = cs'[j]?) ∧ ∃ y, DataW.trod enc Tryz.prog W 0 (fun _ => true) true n e cs' = some y ∧ y.1 = D i := by
    intro i hi
    obtain ⟨cs', k1, k2⟩ := hx i (by omega)
    rw [hk] at k1
    obtain ⟨_, hl, hc⟩ := World.cells?_some k1
    refine ⟨cs', hl, fun j hj => ?_, _, k2, rfl⟩
    have := hc j hj
    rwa [add_add] at this
   obtain ⟨b, o, spot⟩ := a
   obtain ⟨cs0, hl0, hy0, _, _⟩ := each 0 h1
   have hc0 : W.cell? ((⟨b, o, spot⟩ : Addr).add (0 * k + 0)) = some (cs0[0]'(by rw [hl0]; exact hk0)) := (hy0 0 hk0).trans (List.getElem?_eq_getElem (by rw [hl0]; exact hk0))
   have hs : spot = none := by simpa [Addr.add] using World.cell?_spot hc0
   subst hs
   rw [add_at] at hc0
   refine .inr ⟨b, o, D, _, hx1, rfl, lt_of_cell hc0, fun i hi => ?_⟩
   obtain ⟨cs', k1, k2, y, k3, k4⟩ := each i hi
   refine ⟨cs', n, y, k1, fun j hj => ?_, k3, k4⟩
   have := k2 j hj
   rw [add_at, ← Nat.add_assoc] at this
   exact this
theorem bulk_row {x : DataW H} {n : Nat} {D : Nat → DataW H} {S : List (DataW H)} (h : x = .slice ((List.range n).map D) S) : n ≤ Rows.uptoBulk x := by
 have h1 := bulk_len ((List.range n).map D)
 have h2 := bulk_slice ((List.range n).map D) S
 rw [← h] at h2
 rw [List.length_map, List.length_range] at h1
 omega
set_option maxRecDepth 100000 in
theorem open_Sb {fuel : Nat} {cs : List Value} {x : DataW H × List MemPlace} (h : DataW.trod enc Tryz.prog W 0 (fun _ => true) true fuel 60 cs = some x) : ∃ v l, cs = [v] ∧ Rd W W.heap.size v l ∧ Nz v ∧ l.length ≤ Rows.uptoBulk x.1 := by
 have c4 : Tryz.prog.cellsOf 66 = 4 := by kernel_rfl
 obtain ⟨A, n, c, rfl, hc, hz, hA⟩ := open_Gb Tryz.underlying60 c4 (by decide) h
 have hnz : Nz (.slice A n c) := fun n' c' e => by injection e with e1 e2 e3; subst e1 e3; exact (hz rfl).2
 rcases hA with rfl | ⟨b, o, D, S, hxe, rfl, hb, hx⟩
 ·exact ⟨_, [], rfl, ⟨A, c, rfl, hc, .inl rfl⟩, hnz, Nat.zero_le _⟩
 ·obtain ⟨l, hl, hq⟩ := pick_list (Q := fun i (y : Smp) => Cell4 W b (o + i * 4) y) (n := n) fun i hi => by
   obtain ⟨cs', fl, y, k1, k2, k3, _⟩ := hx i hi
   obtain ⟨s, rfl⟩ := open_smp k3
   exact ⟨s, k2 0 (by decide), k2 1 (by decide), k2 2 (by decide), k2 3 (by decide)⟩
  exact ⟨_, l, rfl, ⟨_, c, by rw [hl], by rw [hl]; exact hc, .inr ⟨b, o, rfl, hb, hq⟩⟩, hnz, by rw [hl]; exact bulk_row hxe⟩
set_option maxRecDepth 100000 in
theorem open_Zb {fuel : Nat} {cs : List Value} {x : DataW H × List MemPlace} (h : DataW.trod enc Tryz.prog W 0 (fun _ => true) true fuel 37 cs = some x) : ∃ v l, cs = [v] ∧ RdZ W W.heap.size v l ∧ Nz v ∧ l.length ≤ Rows.uptoBulk x.1 ∧ ∀ z ∈ l, (Lit.int .i64 z).wf = true := by
 have c1 : Tryz.prog.cellsOf 3 = 1 := by kernel_rfl
 obtain ⟨A, n, c, rfl, hc, hz, hA⟩ := open_Gb Tryz.underlying37 c1 (by decide) h
 have hnz : Nz (.slice A n c) := fun n' c' e => by injection e with e1 e2 e3; subst e1 e3; exact (hz rfl).2
 rcases hA with rfl | ⟨b, o, D, S, hxe, rfl, hb, hx⟩
 ·exact ⟨_, [], rfl, ⟨A, c, rfl, hc, .inl rfl⟩, hnz, Nat.zero_le _, fun z hz => absurd hz List.not_mem_nil⟩
 ·obtain ⟨l, hl, hq⟩ := pick_list (Q := fun i (y : Int) => W.cell? ⟨b, o + i, none⟩ = some (.int .i64 y) ∧ (Lit.int .i64 y).wf = true) (n := n) fun i hi => by
   obtain ⟨cs', fl, y, k1, k2, k3, _⟩ := hx i hi
   obtain ⟨z, rfl, _, hwf⟩ := DataW.trod_int Tryz.underlying3 k3
   have := k2 0 (by decide)
   rw [Nat.mul_one, Nat.add_zero] at this
   exact ⟨z, this, hwf⟩
  refine ⟨_, l, rfl, ⟨_, c, by rw [hl], by rw [hl]; exact hc, .inr ⟨b, o, rfl, hb, fun i hi => (hq i hi).1⟩⟩, hnz, by rw [hl]; exact bulk_row hxe, fun z hz => ?_⟩
  obtain ⟨i, hi, rfl⟩ := List.getElem_of_mem hz
  exact (hq i hi).2
set_option maxRecDepth 100000 in
theorem open_P1b {fuel : Nat} {cs : List Value} {x : DataW H × List MemPlace} (h : DataW.trod enc Tryz.prog W 0 (fun _ => true) true fuel 62 cs = some x) : ∃ id v l, cs = [.int .i64 id, v] ∧ (Lit.int .i64 id).wf = true ∧ Rd W W.heap.size v l ∧ Nz v ∧ l.length + 1 ≤ Rows.uptoBulk x.1 := by
 obtain ⟨xs, k, _, hxe, hc, hxl, hf⟩ := DataW.trod_struct Tryz.underlying62 h
 have c2 : Tryz.prog.cellsOf 62 = 2 := by kernel_rfl
 have ci : Tryz.prog.cellsOf 3 = 1 := by kernel_rfl
 have cs1 : Tryz.prog.cellsOf 60 = 1 := by kernel_rfl
 rw [c2] at hc
 have g0 := hf 0 ⟨"Id", 3, 0, false, "", "", 0⟩ rfl
 have g1 := hf 1 ⟨"Samples", 60, 1, false, "", "", 8⟩ rfl
 have hxl : xs.length = 2 := hxl
 rw [List.getElem?_eq_getElem (by omega)] at g0 g1
 obtain ⟨t, e0, _, hwf⟩ := DataW.trod_int Tryz.underlying3 g0
 obtain ⟨v, l, e1, hR, hz, hsl⟩ := open_Sb g1
 have hbulk : l.length + 1 ≤ Rows.uptoBulk x.1 := by
  have e : x.1 = .agg (xs.map (·.1)) := congrArg (·.1) hxe
  obtain ⟨x0, x1, rfl⟩ : ∃ x0 x1, xs = [x0, x1] := by
   cases xs with
   | nil => simp at hxl
   | cons a r =>
     cases r with
     | nil => simp at hxl
     | cons b r =>
       cases r with
       | nil => exact ⟨a, b, rfl⟩
       | cons _ _ => simp at hxl
  have hsl : l.length ≤ Rows.uptoBulk x1.1 := hsl
  rw [e]
  simp only [List.map_cons, List.map_nil, Rows.uptoBulk, Rows.uptoBulkAll]
  omega
 obtain ⟨a, b, rfl⟩ : ∃ a b, cs = [a, b] := by
  cases cs with
  | nil => simp at hc
  | cons a r =>
    cases r with
    | nil => simp at hc
    | cons b r =>
      cases r with
      | nil => exact ⟨a, b, rfl⟩
      | cons _ _ => simp at hc
 have e0 : ([a, b].drop 0).take (Tryz.prog.cellsOf 3) = [.int .i64 t] := e0
 have e1 : ([a, b].drop 1).take (Tryz.prog.cellsOf 60) = [v] := e1
 rw [ci] at e0
 rw [cs1] at e1
 simp at e0 e1
 exact ⟨t, v, l, by rw [e0, e1], hwf, hR, hz, hbulk⟩
set_option maxRecDepth 100000 in
/-- A row of points that came in: its length and its samples' number, by its bulk. -/
theorem open_PPb {base : Nat} {v : Value} {d : DataW H} {p : List MemPlace} (hval : Value.okWide Tryz.prog W .any base 22 v) (h : DataW.Trod enc Tryz.prog W 0 (fun _ => true) true 22 v d p) : ∃ l, RdP W W.heap.size v l ∧ (∀ p ∈ l, (Lit.int .i64 p.1).wf = true) ∧ l.length + manyL l ≤ Rows.uptoBulk d := by
 obtain ⟨fuel, hf⟩ := h
 obtain ⟨a', len', cap', rfl⟩ := okWide_slice Tryz.underlying22 hval
 have c2 : Tryz.prog.cellsOf 62 = 2 := by kernel_rfl
 obtain ⟨A, n, c, e, hc, hz, hA⟩ := open_Gb Tryz.underlying22 c2 (by decide) hf
 have e : [Value.slice a' len' cap'] = [.slice A n c] := e
 injection e with e _
 injection e with e1 e2 e3
 subst e1 e2 e3
 rcases hA with rfl | ⟨b, o, D, S, hxe, rfl, hb, hx⟩
 ·exact ⟨[], ⟨_, _, rfl, hc, .inl rfl⟩, fun p hp => absurd hp List.not_mem_nil, by simp [manyL]⟩
 ·obtain ⟨l, hl, hq⟩ := pick_list (Q := fun i (y : Pts) => PtAt W W.heap.size b (o + i * 2) y ∧ (Lit.int .i64 y.1).wf = true ∧ y.2.length + 1 ≤ Rows.uptoBulk (D i)) (n := len') fun i hi => by
   obtain ⟨cs', fl, y, k1, k2, k3, k4⟩ := hx i hi
   obtain ⟨id, v, s, rfl, hwf, hR, hzz, hsl⟩ := open_P1b k3
   rw [k4] at hsl
   exact ⟨(id, s), ⟨k2 0 (by decide), v, k2 1 (by decide), hR, hzz⟩, hwf, hsl⟩
  refine ⟨l, ⟨_, _, by rw [hl], by rw [hl]; exact hc, .inr ⟨b, o, rfl, hb, fun i hi => (hq i hi).1⟩⟩, fun p hp => ?_, ?_⟩
  ·obtain ⟨i, hi, rfl⟩ := List.getElem_of_mem hp
   exact (hq i hi).2.1
  ·have h1 := bulk_sum l ((List.range len').map D) (by rw [hl]; simp) (fun i h1 h2 => by rw [List.getElem_map, List.getElem_range]; exact (hq i h1).2.2)
   have h2 := bulk_slice ((List.range len').map D) S
   have hxe : d = .slice ((List.range len').map D) S := hxe
   rw [← hxe] at h2
   omega
set_option maxRecDepth 100000 in
theorem open_A {b0 : Nat} {v : Value} {d : DataW H} {p : List MemPlace} (hv : Value.okWide Tryz.prog W .any b0 39 v) (h : DataW.Trod enc Tryz.prog W 0 (fun _ => true) true 39 v d p) :
  ∃ (iv : Value) (ids : List Int) (f t : Int), v = .agg #[iv, .int .i64 f, .int .i64 t] ∧ RdZ W W.heap.size iv ids ∧ (∀ z ∈ ids, (Lit.int .i64 z).wf = true) ∧ (Lit.int .i64 f).wf = true ∧ (Lit.int .i64 t).wf = true ∧ ids.length ≤ Rows.uptoBulk d := by
 obtain ⟨v0, v1, v2, y0, y1, y2, n, rfl, hde, _, h0, h1, h2⟩ := Go.Joins.open_agg3 Tryz.underlying39 (by kernel_rfl) (by kernel_rfl) hv h
 obtain ⟨gv, g, e0, hR, hz, hl, hwf⟩ := open_Zb h0
 obtain ⟨f, e1, _, wf1⟩ := DataW.trod_int Tryz.underlying2 h1
 obtain ⟨t, e2, _, wf2⟩ := DataW.trod_int Tryz.underlying2 h2
 injection e0 with e0 _
 injection e1 with e1 _
 injection e2 with e2 _
 refine ⟨gv, g, f, t, by rw [e0, e1, e2], hR, hwf, wf1, wf2, ?_⟩
 rw [hde]
 simp only [Rows.uptoBulk, Rows.uptoBulkAll]
 omega
end
/-- An input that fits a row with a condition and a list of variables, at a world whose shape is known. -/
theorem witness_row_shaped {H : Type} {enc : TypeId × Value → H} {C : Checked} {os : Os} {f : FuncId} {fn : Func} {s : OpenSpec} {conds : List PathCond} {apart : Bool} {laid : List (String × DataW Unit)} (modest : Bool) (w0 : World) (args : Array Value) (hos : w0.os = os)
  (hsh : (w0.forCall (fun _ _ => 0) ⟨#[], args, []⟩).Shaped C.prog)
  (hok : Input.okWideB C.prog (w0.forCall (fun _ _ => 0) ⟨#[], args, []⟩) f ⟨#[], args, []⟩ = true)
  (hrow : s.preRow enc C.prog fn conds apart laid (w0.forCall (fun _ _ => 0) ⟨#[], args, []⟩).memory args) :
  ∃ (w : World) (tape : Tape) (i : Input), w.os = os ∧ (w.forCall tape i).Shaped C.prog ∧ i.vars = [] ∧ Input.okWide C.prog (w.forCall tape i) .any w.heap.size f i ∧
   s.preRow enc C.prog fn conds apart laid (w.forCall tape i).memory i.args ∧ ({ modest := modest } : Assume).holds C.prog (lone (Frame.enter C.prog f i.args .normal) [] (w.forCall tape i)) :=
 ⟨w0, fun _ _ => 0, ⟨#[], args, []⟩, hos, hsh, (Input.okWide_of_okWideB (base := 0) hok).1, (Input.okWide_of_okWideB hok).2, hrow, by
  simp only [Assume.holds]
  exact ⟨by simp, by simp, fun _ => Modest.zero, by simp, by simp⟩⟩
/-- The tables of decimal and of frame, from the row's list. -/
theorem tabTH_laid {W : World} (h : laidMetH Tryz.prog lst W) : TabT W ∧ TabH W := by
 rw [MakeChecks.laidMetH_plain _ _ _ (by kernel_rfl)] at h
 obtain ⟨ps, hL, _⟩ := h
 have hm : ∀ x, x ∈ [("esker/decimal.tens", Rows.laid_esker_decimal_tens), ("esker/frame.halves", Rows.laid_esker_frame_halves)] → x ∈ lst := by
  intro x hx
  unfold lst Rows.datapartBuildsRow
  simp only [List.mem_cons, List.not_mem_nil, or_false] at hx ⊢
  rcases hx with h | h <;> simp only [h, true_or, or_true]
 exact ⟨tabT_laid hL (hm _ (.head _)), tabH_laid hL (hm _ (.tail _ (.head _)))⟩
end Go.Proofs.YtnkelahimiipjaaGreatDoor

/-
 DatapartNone: a part that is none has nothing; what is told is new memory.
-/
namespace Go.Proofs.YtnkelahimiipjaaGreatDoor
open Go.RowKit Go.Sort
set_option maxRecDepth 100000 in
set_option maxHeartbeats 4000000 in
theorem none_walk (v : Value) (l : List Pts) (iv : Value) (ids : List Int) (f t : Int) (W : World) (T : Tabs W) (hT : TabT W) (hH : TabH W) (hR : RdP W W.heap.size v l) (hwf : ∀ p ∈ l, (Lit.int .i64 p.1).wf = true) (h1 : l.length ≤ 1048576) (h2 : manyL l ≤ 1048576) (hI : RdZ W W.heap.size iv ids) (_hwi : ∀ z ∈ ids, (Lit.int .i64 z).wf = true) (_wf : (Lit.int .i64 f).wf = true) (_wt : (Lit.int .i64 t).wf = true) (hil : ids.length ≤ 1048576) :
  Calls Tryz.prog 8 #[v, .agg #[iv, .int .i64 f, .int .i64 t]] W fun e w' => e = .returned (.bool true) ∧ Below W.heap.size W w' := by
 have HTT : Hid (∀ w, Below W.heap.size W w → Tabs w) := fun w h => T.below h
 have HT : Hid (∀ w, Below W.heap.size W w → TabT w) := fun w h i hi => (h.cell (lt_of_cell (hT i hi))).trans (hT i hi)
 have HH : Hid (∀ w, Below W.heap.size W w → TabH w) := fun w h => TabH.below hH h
 have HR : Hid (∀ w, Below W.heap.size W w → RdP w w.heap.size v l) := fun w h => hR.on h
 have HW := Lib.hid hwf
 have HS : Hid (l.length ≤ 1048576 ∧ manyL l ≤ 1048576) := ⟨h1, h2⟩
 obtain ⟨A, c, rfl, _⟩ := hR
 obtain ⟨Ai, ci, rfl, _⟩ := hI
 obtain ⟨n, hn⟩ : ∃ n, n = l.length := ⟨_, rfl⟩
 rw [← hn] at HR ⊢
 obtain ⟨ni, hni⟩ : ∃ ni, ni = ids.length := ⟨_, rfl⟩
 rw [← hni] at hil ⊢
 clear T hT hH hwf h1 h2 hn hni _hwi _wf _wt
 go_enter Tryz.func8, Tryz.ntmps8
 go_wp2_with fail
 obtain ⟨W0, hW0⟩ : ∃ W0, W0 = W.alloc (.cells #[.slice Ai ni ci, .int .i64 f, .int .i64 t] 39) := ⟨_, rfl⟩
 rw [← hW0]
 have HB0 : Hid (Below W.heap.size W W0) := by show Below _ _ _; rw [hW0]; exact (Below.refl _ _).alloc (Nat.le_refl _) _
 have hbk : W0.heap[W.heap.size]? = some (.cells #[.slice Ai ni ci, .int .i64 f, .int .i64 t] 39 (0, 0)) := by rw [hW0]; exact heap_alloc_new W _
 have HC : Hid (∀ w, Below W0.heap.size W0 w → w.cell? ⟨W.heap.size, 0, none⟩ = some (.slice Ai ni ci) ∧ w.cell? ⟨W.heap.size, 1, none⟩ = some (.int .i64 f) ∧ w.cell? ⟨W.heap.size, 2, none⟩ = some (.int .i64 t)) := fun w h => by
  have hb := (h.block _ (Array.getElem?_eq_some_iff.1 hbk).1).trans hbk
  exact ⟨by simp [World.cell?, hb], by simp [World.cell?, hb], by simp [World.cell?, hb]⟩
 have KA := Lib.hid (awake17_walk W0 (HTT.out _ HB0.out) (HT.out _ HB0.out) (HH.out _ HB0.out))
 clear hW0 hbk
 refine KA.out.mono ?_
 rintro e w1 ⟨rfl, hB1⟩
 have HC1 := Lib.hid hB1
 have HB1 : Hid (Below W.heap.size W w1) := HB0.out.trans (hB1.mono HB0.out.size)
 have KF := Lib.hid (few17_walk _ l w1 (HR.out w1 HB1.out) HS.out.1 HS.out.2)
 clear hB1 KA
 go_wp2_with fail
 refine KF.out.mono ?_
 rintro e wx ⟨rfl, hwx⟩
 have hwx := hwx.symm
 subst hwx
 clear KF
 by_cases hf : l.length + manyL l ≤ 200
 ·rw [decide_eq_true hf]
  obtain ⟨c0, c1, c2⟩ := HC.out w1 HC1.out
  by_cases hi : 50 < ni
  ·have i1 : (50 : Int) < (ni : Int) := by omega
   go_wp2_with fail
   go_ret
   exact ⟨rfl, HB1.out⟩
  have i1 : ¬ (50 : Int) < (ni : Int) := by omega
  have KO := Lib.hid (pof_none (.slice Ai ni ci) f t w1)
  go_wp2_with fail
  refine KO.out.mono ?_
  rintro e w2 ⟨rfl, hB2⟩
  have HB2 : Hid (Below W.heap.size W w2) := HB1.out.trans (hB2.mono HB1.out.size)
  have KS := Lib.hid (pspan_none w2)
  clear hB2 KO c0 c1 c2 HC1 HC
  go_wp2_with fail
  refine KS.out.mono ?_
  rintro e wx ⟨rfl, hwx⟩
  have hwx := hwx.symm
  subst hwx
  have KL := Lib.hid (plen_none w2)
  clear KS
  go_wp2_with fail
  refine KL.out.mono ?_
  rintro e wx ⟨rfl, hwx⟩
  have hwx := hwx.symm
  subst hwx
  have KBl := Lib.hid (pblocks_none w2)
  clear KL
  go_wp2_with fail
  refine KBl.out.mono ?_
  rintro e wx ⟨rfl, hwx⟩
  have hwx := hwx.symm
  subst hwx
  have KI := Lib.hid (pids_none w2)
  clear KBl
  go_wp2_with fail
  refine KI.out.mono ?_
  rintro e w3 ⟨⟨A3, c3, rfl⟩, hB3⟩
  have HB3 : Hid (Below W.heap.size W w3) := HB2.out.trans (hB3.mono HB2.out.size)
  have KAl := Lib.hid (pall_none w3)
  clear hB3 KI
  go_wp2_with fail
  refine KAl.out.mono ?_
  rintro e wx ⟨rfl, hwx⟩
  have hwx := hwx.symm
  subst hwx
  clear KAl
  have KB := Lib.hid (build_walk _ l w3 (HTT.out _ HB3.out) (HT.out _ HB3.out) (HH.out _ HB3.out) (HR.out _ HB3.out) HW.out (by have := HS.out; omega) (by have := HS.out; omega))
  go_wp2_with fail
  refine KB.out.mono ?_
  rintro e w4 ⟨v4, rfl, hO4, hB4⟩
  obtain ⟨A4, n4, c4, rfl⟩ := hO4.sl
  have HB4 : Hid (Below W.heap.size W w4) := HB3.out.trans (hB4.mono HB3.out.size)
  have hlen := hO4.len
  obtain ⟨bc, hbc⟩ : ∃ bc, bc = (buildV l).1 := ⟨_, rfl⟩
  rw [← hbc]
  by_cases hb0 : bc = 0
  ·subst hb0
   obtain ⟨bf, hbf⟩ : ∃ bf, bf = (buildV l).2 := ⟨_, rfl⟩
   have hbe : buildV l = (0, bf) := by rw [hbc, hbf]
   rw [← hbf] at hO4 hlen
   have hfil := Fil.of hbe
   have hby : ∀ x ∈ bf, x < 256 := by rw [hbf]; exact build_byte
   have hsh : bf.length ≤ 220000 := by
    have h3 := build_ok (build_has hbe).1 (build_has hbe).2.1 (build_has hbe).2.2
    rw [h3] at hbe
    injection hbe with _ h4
    rw [← h4]
    exact file_short hfil (by omega)
   have hpos : 0 < n4 := by
    rw [hlen]
    have h3 := build_ok (build_has hbe).1 (build_has hbe).2.1 (build_has hbe).2.2
    rw [hbe] at h3
    injection h3 with _ h4
    rw [h4]
    unfold fileB tail4
    simp
    omega
   obtain ⟨g, cap, e9, hg1, hg2, hcap⟩ : ∃ g cap, Value.slice A4 n4 c4 = .slice (some ⟨g, 0, none⟩) bf.length cap ∧ w3.heap.size ≤ g ∧ g < w4.heap.size ∧ bf.length ≤ cap := by
    obtain ⟨g, cap, e9, hg1, hg2, hcap, _⟩ := own_put hO4 (k := 0) (by omega) 0
    exact ⟨g, cap, e9, hg1, hg2, hcap⟩
   injection e9 with e1 e2 e3
   subst e1 e3
   clear e2
   have KO2 := Lib.hid (open_walk _ bf w4 (HTT.out _ HB4.out) (HT.out _ HB4.out) (HH.out _ HB4.out) hO4.rd hby (by omega))
   have HOP := Lib.hid (open_file hbe)
   have HO4 := Lib.hid hO4
   have HFI := Lib.hid hfil
   have HGW : Hid (W.heap.size ≤ g ∧ g < w4.heap.size) := ⟨by have := HB3.out.size; omega, hg2⟩
   have HL4 := Lib.hid hlen
   have hn4 : n4 ≤ 220000 := by omega
   have hcap2 : n4 ≤ c4 := by omega
   clear hO4 hB4 hbc hbf hbe hfil hby hsh KB hg1 hg2 hcap hlen hpos
   go_wp2_with fail
   refine KO2.out.mono ?_
   rintro e w5 ⟨hB5, ⟨hn, _⟩ | ⟨c9, pb, hb, pv, hv, ho, rfl, hP, hpb, _, hRO, _⟩⟩
   ·rw [HOP.out] at hn; cases hn
   rw [HOP.out] at ho
   injection ho with ho
   subst ho
   have HB5 : Hid (Below W.heap.size W w5) := HB4.out.trans (hB5.mono HB4.out.size)
   have HO5 := Lib.hid (HO4.out.below hB5)
   have HP5 := Lib.hid (And.intro hP (And.intro hpb hRO))
   obtain ⟨B4, hB4e⟩ : ∃ B4, B4 = w3.heap.size := ⟨_, rfl⟩
   rw [← hB4e] at HO5
   obtain ⟨S0, hS0⟩ : ∃ S0, S0 = w4.heap.size := ⟨_, rfl⟩
   rw [← hS0] at HP5 HGW
   clear hB5 hP hpb hRO KO2 HO4 hB4e hS0 HB4
   go_wp2_with fail
   go_loopw [16] (fun i wl => ∃ (k : Nat) (bl : List Nat), k ≤ n4 ∧ i = .int .i64 k ∧ Hid (bl.length = n4) ∧ Hid (OwnG EB 5 wl B4 (.slice (some ⟨g, 0, none⟩) n4 c4) bl) ∧ Hid (Mid S0 w5.heap.size w5 wl) ∧ Hid (Below W.heap.size W wl)) (fun i _ => n4 - (intOf i).toNat)
   case atStart => exact ⟨0, bf, Nat.zero_le _, rfl, HL4.out.symm, HO5.out, ⟨Nat.le_refl _, fun _ _ _ => rfl⟩, HB5.out⟩
   case round =>
    obtain ⟨k, bl, hk, rfl, HBL, HOl, HM, HBw⟩ := hrel
    by_cases hlt : k < n4
    ·obtain ⟨g', cap', e9, _, _, _, hcell, hfz, hown⟩ := own_put HOl.out (k := k) (by rw [HBL.out]; exact hlt) 0
     injection e9 with e1 e2 e3
     injection e1 with e1
     injection e1 with e1
     subst e1
     have hm2 : Mid S0 w5.heap.size w5 (wr.setCell ⟨g, k, none⟩ (.int .u8 0)) := ⟨Nat.le_trans HM.out.1 (grownBy_set wr g k _).size, fun b h3 h4 => (Below.heap_setCell wr ⟨g, k, none⟩ _ b (fun e => by have e : b = g := e; have := HGW.out.2; omega)).trans (HM.out.2 b h3 h4)⟩
     have hb2 : Below W.heap.size W (wr.setCell ⟨g, k, none⟩ (.int .u8 0)) := HBw.out.setCell (p := ⟨g, k, none⟩) HGW.out.1 _
     have HM2 := Lib.hid hm2
     have HB2' := Lib.hid hb2
     have HO2 := Lib.hid hown
     have HL2 : Hid ((bl.set k 0).length = n4) := by show _ = _; rw [List.length_set]; exact HBL.out
     have i2 : (k : Int) < (n4 : Int) := by omega
     have i3 : k ≤ c4 := by omega
     clear hm2 hb2 hown e2 e3
     go_wp2_with fail
     go_roundw
     case rel => exact ⟨k + 1, bl.set k 0, by omega, by go_num, HL2.out, HO2.out, HM2.out, HB2'.out⟩
     case measure => simp [intOf]; omega
    ·have i2 : ¬ (k : Int) < (n4 : Int) := by omega
     obtain ⟨w6, rfl⟩ : ∃ w0, w0 = wr := ⟨wr, rfl⟩
     have KAl2 := Lib.hid (all_mid HP5.out.1 HP5.out.2.1 HP5.out.2.2 HFI.out HM.out (HTT.out _ HBw.out))
     go_wp2_with fail
     refine KAl2.out.mono ?_
     rintro e w7 ⟨A7, n7, k7, hn7, rfl, hO7, hB7⟩
     have HB7 : Hid (Below W.heap.size W w7) := HBw.out.trans (hB7.mono HBw.out.size)
     have HN7 := Lib.hid hn7
     have HSh := Lib.hid hO7.shP
     obtain ⟨Bx, hBx⟩ : ∃ Bx, Bx = w6.heap.size := ⟨_, rfl⟩
     have HM7 : Hid (Below Bx w6 w7) := by rw [hBx]; exact hB7
     rw [← hBx] at HSh
     have HBx := Lib.hid hBx
     have hn7b : n7 ≤ 1048576 := by rw [hn7]; exact HS.out.1
     have HWB : Hid (W.heap.size ≤ Bx) := by rw [hBx]; exact HBw.out.size
     obtain ⟨_, _, e7, hck7, _⟩ := hO7
     have hk7 : n7 ≤ k7 := by injection e7 with _ _ e7; rw [e7, hn7]; exact hck7
     clear hn7 hB7 KAl2 hBx e7 hck7
     go_wp2_with fail
     go_loopw [18, 19] (fun i _ wl => ∃ k : Nat, k ≤ n7 ∧ i = .int .i64 k ∧ Hid (ShP wl Bx A7 l) ∧ Hid (Below Bx w6 wl)) (fun i _ _ => n7 - (intOf i).toNat)
     case atStart => exact ⟨0, Nat.zero_le _, rfl, HSh.out, HM7.out⟩
     case round =>
      obtain ⟨k, hk2, rfl, HC1, HBk⟩ := hrel
      by_cases hlt2 : k < n7
      ·have hkl : k < l.length := by rw [← HN7.out]; exact hlt2
       obtain ⟨b, o, eA, hb1, hcl⟩ := HC1.out.resolve_left (fun h0 => by rw [h0] at hkl; simp at hkl)
       subst eA
       obtain ⟨n5, hn5⟩ : ∃ m, m = l[k].2.length := ⟨_, rfl⟩
       have hn5l : n5 ≤ 1048576 := by
        have h3 := many_mem (List.getElem_mem hkl)
        have := HS.out.2
        omega
       have HAt : Hid (∀ w', ShP w' Bx (some ⟨b, o, none⟩) l → ShQ w' Bx b (o + k * 2 + 1) n5) := fun w' h => by
        obtain ⟨b', o', e, _, h2⟩ := h.resolve_left (fun h0 => by rw [h0] at hkl; simp at hkl)
        injection e with e
        injection e with e1 e2 e3
        subst e1 e2
        rw [hn5]; exact (h2 k hkl).2.2
       obtain ⟨⟨x0, cx0⟩, fx0, hq5⟩ := hcl k hkl
       have i3 : (k : Int) < (n7 : Int) := by omega
       have HX : Hid (∀ b' o', (some ⟨b, o, none⟩ : Option Addr) = some ⟨b', o', none⟩ → b' = b ∧ o' = o) := fun b' o' e => by
        injection e with e
        injection e with e1 e2 e3
        exact ⟨e1.symm, e2.symm⟩
       have HS1 : Hid (ShP (wr.setCell ⟨b, o + k * 2, none⟩ (.int .i64 0)) Bx (some ⟨b, o, none⟩) l) := HC1.out.set b (o + k * 2) 0 (fun b' o' e _ i h3 => by
        obtain ⟨e1, e2⟩ := HX.out b' o' e
        injection h3 with _ h4
        omega)
       have HS2 : Hid (Below Bx w6 (wr.setCell ⟨b, o + k * 2, none⟩ (.int .i64 0))) := HBk.out.setCell (p := ⟨b, o + k * 2, none⟩) hb1 _
       clear hq5 hn5 hcl hkl
       go_wp2_with fail
       go_loopw [19] (fun i wl => ∃ j : Nat, j ≤ n5 ∧ i = .int .i64 j ∧ Hid (ShP wl Bx (some ⟨b, o, none⟩) l) ∧ Hid (Below Bx w6 wl)) (fun i _ => n5 - (intOf i).toNat)
       case atStart => exact ⟨0, Nat.zero_le _, rfl, HS1.out, HS2.out⟩
       case round =>
        obtain ⟨j, hj, rfl, HC2, HBj⟩ := hrel
        obtain ⟨sv, c1, h2⟩ := HAt.out _ HC2.out
        rcases h2 with ⟨e0, h0⟩ | ⟨g2, cp, e0, a2, a3, a5, a6⟩
        ·subst e0
         obtain rfl : j = 0 := by omega
         go_wp2_with fail
         go_roundw
         case rel => exact ⟨k + 1, by omega, by go_num, HC2.out, HBj.out⟩
         case measure => simp [intOf]; omega
        ·subst e0
         by_cases hlt3 : j < n5
         ·obtain ⟨⟨x, c2⟩, f2⟩ := a6 j hlt3
          have i4 : (j : Int) < (n5 : Int) := by omega
          have HS3 : Hid (ShP (wr.setCell ⟨g2, j * 4, none⟩ (.int .i64 (-1))) Bx (some ⟨b, o, none⟩) l) := HC2.out.set g2 (j * 4) (-1) (fun b' o' e _ i h3 => by
           obtain ⟨e1, e2⟩ := HX.out b' o' e
           injection h3 with h4 _
           exact a5 (by rw [← h4, e1]))
          have HS4 : Hid (Below Bx w6 (wr.setCell ⟨g2, j * 4, none⟩ (.int .i64 (-1)))) := HBj.out.setCell (p := ⟨g2, j * 4, none⟩) a3 _
          clear a6
          go_wp2_with fail
          go_roundw
          case rel => exact ⟨j + 1, by omega, by go_num, HS3.out, HS4.out⟩
          case measure => simp [intOf]; omega
         ·obtain rfl : n5 = j := by omega
          clear a6
          go_wp2_with fail
          go_roundw
          case rel => exact ⟨k + 1, by omega, by go_num, HC2.out, HBj.out⟩
          case measure => simp [intOf]; omega
      ·have i3 : ¬ (k : Int) < (n7 : Int) := by omega
       obtain ⟨w8, rfl⟩ : ∃ w0, w0 = wr := ⟨wr, rfl⟩
       have HB8 : Hid (Below W.heap.size W w8) := HBw.out.trans (HBk.out.mono HWB.out)
       have hmid : Mid S0 w5.heap.size w5 w8 := HM.out.trans (Mid.of_below HBk.out (by rw [HBx.out]; exact HM.out.1))
       have KAl3 := Lib.hid (all_mid HP5.out.1 HP5.out.2.1 HP5.out.2.2 HFI.out hmid (HTT.out _ HB8.out))
       clear hmid
       go_wp2_with fail
       refine KAl3.out.mono ?_
       rintro e w9 ⟨A9, n9, k9, hn9, rfl, hO9, hB9⟩
       have HB9 : Hid (Below W.heap.size W w9) := HB8.out.trans (hB9.mono HB8.out.size)
       have KSm := Lib.hid (sameP_walk _ _ l l w9 hO9.rdP (HR.out _ HB9.out) (small_many HFI.out.cl HFI.out.many))
       rw [decide_eq_true rfl] at KSm
       clear hn9 hO9 hB9 KAl3
       go_wp2_with fail
       refine KSm.out.mono ?_
       rintro e w10 ⟨rfl, hE⟩
       have HB10 : Hid (Below W.heap.size W w10) := HB9.out.trans (hE.below.mono HB9.out.size)
       clear hE KSm
       go_wp2_with fail
       go_ret
       exact ⟨rfl, HB10.out⟩
  ·have g : (bc == 0) = false := by simp [hb0]
   clear hlen hO4 hbc hB4 hb0
   go_wp2_with fail
   go_ret
   exact ⟨rfl, HB4.out⟩
 ·rw [decide_eq_false hf]
  go_wp2_with fail
  go_ret
  exact ⟨rfl, HB1.out⟩
end Go.Proofs.YtnkelahimiipjaaGreatDoor
