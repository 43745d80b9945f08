/-
  What comes in: rows of numbers, of points, of rows of points; How.
-/
import Derived.Test.YtkcipfmbkokfdaaGreatDoorQpk
import Derived.Lib.SmallJoins
import Derived.Test.YtkcipfmbkokfdaaGreatDoorRmk
import Derived.Test.YtkcipfmbkokfdaaGreatDoorAqk
namespace Go.Proofs.YtkcipfmbkokfdaaGreatDoor
open Go.RowKit Go.ChangeShapes Go.WideShapes Go.ChangeAt Go.Deep
theorem choose_list {α : Type} {Q : Nat → α → Prop} : ∀ {n : Nat}, (∀ i, i < n → ∃ y, Q i y) → ∃ l : List α, l.length = n ∧ ∀ i (hi : i < l.length), Q i l[i]
  | 0, _ => ⟨[], rfl, fun i hi => by simp at hi⟩
  | n + 1, h => by
    obtain ⟨l, h1, h2⟩ := choose_list (n := n) fun i hi => h i (by omega)
    obtain ⟨y, hy⟩ := h n (by omega)
    refine ⟨l ++ [y], by simp [h1], fun i hi => ?_⟩
    rw [List.length_append, List.length_singleton] at hi
    by_cases hn : i < l.length
    · rw [List.getElem_append_left hn]; exact h2 i hn
    · have hin : i = n := by omega
      subst hin
      rw [List.getElem_append_right (by omega)]
      simpa using hy
/-- Each piece of what comes in has a size that memory can have. -/
def Fits {H : Type} (P : Program) (t : TypeId) (d : DataW H) : Prop := ∀ z ∈ d.weights P t, z ≤ reachBytes
theorem fits_cons {H : Type} {P : Program} {t : TypeId} {ts : List TypeId} {d : DataW H} {r : List (DataW H)} (h : (DataW.weightsEach P (t :: ts) (d :: r)).all (· ≤ reachBytes) = true) : Fits P t d ∧ (DataW.weightsEach P ts r).all (· ≤ reachBytes) = true := by
  rw [DataW.weightsEach, List.all_append, Bool.and_eq_true] at h
  exact ⟨fun z hz => by simpa using List.all_eq_true.1 h.1 z hz, h.2⟩
theorem mem_weightsAll {H : Type} {P : Program} {e : TypeId} {d : DataW H} {z : Nat} : ∀ {l : List (DataW H)}, d ∈ l → z ∈ d.weights P e → z ∈ DataW.weightsAll P e l
  | [], h, _ => absurd h List.not_mem_nil
  | a :: l, h, hz => by
    rw [DataW.weightsAll]
    rcases List.mem_cons.1 h with rfl | h
    · exact List.mem_append_left _ hz
    · exact List.mem_append_right _ (mem_weightsAll h hz)
section
variable {H : Type} {enc : TypeId × Value → H} {W : World}
theorem open_G {t e : TypeId} {k fuel : Nat} {cs : List Value} {x : DataW H × List MemPlace} (ht : Tryz.prog.underlying t = some (.slice e)) (hk : Tryz.prog.cellsOf e = k) (hk0 : 0 < k) (hw : Fits Tryz.prog t x.1) (h : DataW.trod enc Tryz.prog W 0 (fun _ => true) true fuel t cs = some x) :
    ∃ A n c, cs = [.slice A n c] ∧ n * Tryz.prog.bytesOf e ≤ reachBytes ∧ n ≤ c ∧ (A = none → n = 0 ∧ c = 0) ∧ (n = 0 ∨ ∃ b o, A = some ⟨b, o, none⟩ ∧ b < W.heap.size ∧ ∀ i, i < n → ∃ cs' fl y, cs'.length = k ∧ (∀ j, j < k → W.cell? ⟨b, o + i * k + j, none⟩ = cs'[j]?) ∧ DataW.trod enc Tryz.prog W 0 (fun _ => true) true fl e cs' = some y ∧ Fits Tryz.prog e y.1) := by
  rcases open_slice ht h with ⟨h0, _⟩ | ⟨a, len, cap, m, n, D, Pl, h0, _, hlc, _, hm, hxe, hx⟩
  · exact ⟨none, 0, 0, h0, by omega, Nat.le_refl _, fun _ => ⟨rfl, rfl⟩, .inl rfl⟩
  · have hm2 : m = cap := by rw [hm]; rfl
    have hx1 : x.1 = .slice ((List.range len).map D) ((List.range (m - len)).map fun j => D (len + j)) := congrArg (·.1) hxe
    unfold Fits at hw
    rw [hx1, DataW.weights, ht] at hw
    have hsz : len * Tryz.prog.bytesOf e ≤ reachBytes := by
      have h9 := hw _ List.mem_cons_self
      rw [List.length_map, List.length_range] at h9
      exact Nat.le_trans (Nat.mul_le_mul_right _ (Nat.le_add_right _ _)) h9
    have hfi : ∀ i, i < len → Fits Tryz.prog e (D i) := fun i hi z hz => hw z (List.mem_cons_of_mem _ (List.mem_append_left _ (mem_weightsAll (List.mem_map.2 ⟨i, List.mem_range.2 hi, rfl⟩) hz)))
    refine ⟨some a, len, cap, h0, hsz, hlc, fun e => (by cases e), ?_⟩
    rcases Nat.eq_zero_or_pos len with h1 | h1
    · exact .inl h1
    · have each : ∀ i, i < len → ∃ cs', cs'.length = k ∧ (∀ j, j < k → W.cell? (a.add (i * k + j)) = cs'[j]?) ∧ ∃ y, DataW.trod enc Tryz.prog W 0 (fun _ => true) true n e cs' = some y ∧ Fits Tryz.prog e y.1 := by
        intro i hi
        obtain ⟨cs', k1, k2⟩ := hx i (by omega)
        rw [hk] at k1
        obtain ⟨_, hl, hc⟩ := World.cells?_some k1
        refine ⟨cs', hl, fun j hj => ?_, _, k2, hfi i hi⟩
        have := hc j hj
        rwa [add_add] at this
      obtain ⟨b, o, spot⟩ := a
      obtain ⟨cs0, hl0, hy0, _, _⟩ := each 0 h1
      have hc0 : W.cell? ((⟨b, o, spot⟩ : Addr).add (0 * k + 0)) = some (cs0[0]'(by rw [hl0]; exact hk0)) := (hy0 0 hk0).trans (List.getElem?_eq_getElem (by rw [hl0]; exact hk0))
      have hs : spot = none := by simpa [Addr.add] using World.cell?_spot hc0
      subst hs
      rw [add_at] at hc0
      refine .inr ⟨b, o, rfl, lt_of_cell hc0, fun i hi => ?_⟩
      obtain ⟨cs', k1, k2, y, k3, k4⟩ := each i hi
      refine ⟨cs', n, y, k1, fun j hj => ?_, k3, k4⟩
      have := k2 j hj
      rw [add_at, ← Nat.add_assoc] at this
      exact this
set_option maxRecDepth 100000 in
theorem open_Sc {fuel : Nat} {cs : List Value} {x : DataW H × List MemPlace} (hw : Fits Tryz.prog 40 x.1) (h : DataW.trod enc Tryz.prog W 0 (fun _ => true) true fuel 40 cs = some x) : ∃ v l, cs = [v] ∧ Rd W W.heap.size v l ∧ Nz v ∧ l.length ≤ 140737488355327 := by
  have c4 : Tryz.prog.cellsOf 52 = 4 := by kernel_rfl
  have cb : Tryz.prog.bytesOf 52 = 32 := by kernel_rfl
  obtain ⟨A, n, c, rfl, hsz, hc, hz, hA⟩ := open_G Tryz.underlying40 c4 (by decide) hw h
  rw [cb] at hsz
  unfold reachBytes at hsz
  have hnz : Nz (.slice A n c) := fun n' c' e => by injection e with e1 e2 e3; subst e1 e3; exact (hz rfl).2
  rcases hA with rfl | ⟨b, o, rfl, hb, hx⟩
  · exact ⟨_, [], rfl, ⟨A, c, rfl, hc, .inl rfl⟩, hnz, Nat.zero_le _⟩
  · obtain ⟨l, hl, hq⟩ := choose_list (Q := fun i (y : Smp) => Cell4 W b (o + i * 4) y) (n := n) fun i hi => by
      obtain ⟨cs', fl, y, k1, k2, k3, _⟩ := hx i hi
      obtain ⟨s, rfl⟩ := open_smp k3
      exact ⟨s, k2 0 (by decide), k2 1 (by decide), k2 2 (by decide), k2 3 (by decide)⟩
    exact ⟨_, l, rfl, ⟨_, c, by rw [hl], by rw [hl]; exact hc, .inr ⟨b, o, rfl, hb, hq⟩⟩, hnz, by omega⟩
set_option maxRecDepth 100000 in
theorem open_Zc {fuel : Nat} {cs : List Value} {x : DataW H × List MemPlace} (hw : Fits Tryz.prog 22 x.1) (h : DataW.trod enc Tryz.prog W 0 (fun _ => true) true fuel 22 cs = some x) : ∃ v l, cs = [v] ∧ RdZ W W.heap.size v l ∧ Nz v := by
  have c1 : Tryz.prog.cellsOf 3 = 1 := by kernel_rfl
  obtain ⟨A, n, c, rfl, hsz, hc, hz, hA⟩ := open_G Tryz.underlying22 c1 (by decide) hw h
  have hnz : Nz (.slice A n c) := fun n' c' e => by injection e with e1 e2 e3; subst e1 e3; exact (hz rfl).2
  rcases hA with rfl | ⟨b, o, rfl, hb, hx⟩
  · exact ⟨_, [], rfl, ⟨A, c, rfl, hc, .inl rfl⟩, hnz⟩
  · obtain ⟨l, hl, hq⟩ := choose_list (Q := fun i (y : Int) => W.cell? ⟨b, o + i, none⟩ = some (.int .i64 y)) (n := n) fun i hi => by
      obtain ⟨cs', fl, y, k1, k2, k3, _⟩ := hx i hi
      obtain ⟨z, rfl, _⟩ := DataW.trod_int Tryz.underlying3 k3
      have := k2 0 (by decide)
      rw [Nat.mul_one, Nat.add_zero] at this
      exact ⟨z, this⟩
    exact ⟨_, l, rfl, ⟨_, c, by rw [hl], by rw [hl]; exact hc, .inr ⟨b, o, rfl, hb, hq⟩⟩, hnz⟩
set_option maxRecDepth 100000 in
theorem open_P1 {fuel : Nat} {cs : List Value} {x : DataW H × List MemPlace} (hw : Fits Tryz.prog 48 x.1) (h : DataW.trod enc Tryz.prog W 0 (fun _ => true) true fuel 48 cs = some x) : ∃ id v l, cs = [.int .i64 id, v] ∧ (Lit.int .i64 id).wf = true ∧ Rd W W.heap.size v l ∧ Nz v ∧ l.length ≤ 140737488355327 := by
  obtain ⟨xs, k, _, hxe, hc, hxl, hf⟩ := DataW.trod_struct Tryz.underlying48 h
  have c2 : Tryz.prog.cellsOf 48 = 2 := by kernel_rfl
  have ci : Tryz.prog.cellsOf 3 = 1 := by kernel_rfl
  have cs1 : Tryz.prog.cellsOf 40 = 1 := by kernel_rfl
  rw [c2] at hc
  have g0 := hf 0 ⟨"Id", 3, 0, false, "", "", 0⟩ rfl
  have g1 := hf 1 ⟨"Samples", 40, 1, false, "", "", 8⟩ rfl
  have hxl : xs.length = 2 := hxl
  rw [List.getElem?_eq_getElem (by omega)] at g0 g1
  obtain ⟨t, e0, _, hwf⟩ := DataW.trod_int Tryz.underlying3 g0
  have hw1 : Fits Tryz.prog 40 xs[1].1 := fun z hz => by
    refine hw z ?_
    have e : x.1 = .agg (xs.map (·.1)) := congrArg (·.1) hxe
    obtain ⟨x0, x1, rfl⟩ : ∃ x0 x1, xs = [x0, x1] := by
      cases xs with
      | nil => simp at hxl
      | cons a r =>
        cases r with
        | nil => simp at hxl
        | cons b r =>
          cases r with
          | nil => exact ⟨a, b, rfl⟩
          | cons _ _ => simp at hxl
    rw [e, DataW.weights, Tryz.underlying48]
    show z ∈ x0.1.weights Tryz.prog 3 ++ (x1.1.weights Tryz.prog 40 ++ [])
    exact List.mem_append_right _ (List.mem_append_left _ hz)
  obtain ⟨v, l, e1, hR, hz, hsl⟩ := open_Sc hw1 g1
  obtain ⟨a, b, rfl⟩ : ∃ a b, cs = [a, b] := by
    cases cs with
    | nil => simp at hc
    | cons a r =>
      cases r with
      | nil => simp at hc
      | cons b r =>
        cases r with
        | nil => exact ⟨a, b, rfl⟩
        | cons _ _ => simp at hc
  have e0 : ([a, b].drop 0).take (Tryz.prog.cellsOf 3) = [.int .i64 t] := e0
  have e1 : ([a, b].drop 1).take (Tryz.prog.cellsOf 40) = [v] := e1
  rw [ci] at e0
  rw [cs1] at e1
  simp at e0 e1
  exact ⟨t, v, l, by rw [e0, e1], hwf, hR, hz, hsl⟩
set_option maxRecDepth 100000 in
theorem open_PPc {fuel : Nat} {cs : List Value} {x : DataW H × List MemPlace} (hw : Fits Tryz.prog 29 x.1) (h : DataW.trod enc Tryz.prog W 0 (fun _ => true) true fuel 29 cs = some x) : ∃ v l, cs = [v] ∧ RdP W W.heap.size v l ∧ Nz v ∧ (∀ p ∈ l, (Lit.int .i64 p.1).wf = true) ∧ SizR l := by
  have c2 : Tryz.prog.cellsOf 48 = 2 := by kernel_rfl
  have cb : Tryz.prog.bytesOf 48 = 32 := by kernel_rfl
  obtain ⟨A, n, c, rfl, hsz, hc, hz, hA⟩ := open_G Tryz.underlying29 c2 (by decide) hw h
  rw [cb] at hsz
  unfold reachBytes at hsz
  have hnz : Nz (.slice A n c) := fun n' c' e => by injection e with e1 e2 e3; subst e1 e3; exact (hz rfl).2
  rcases hA with rfl | ⟨b, o, rfl, hb, hx⟩
  · exact ⟨_, [], rfl, ⟨A, c, rfl, hc, .inl rfl⟩, hnz, fun p hp => absurd hp List.not_mem_nil, Nat.zero_le _, fun p hp => absurd hp List.not_mem_nil⟩
  · obtain ⟨l, hl, hq⟩ := choose_list (Q := fun i (y : Pts) => PtAt W W.heap.size b (o + i * 2) y ∧ (Lit.int .i64 y.1).wf = true ∧ y.2.length ≤ 140737488355327) (n := n) fun i hi => by
      obtain ⟨cs', fl, y, k1, k2, k3, k4⟩ := hx i hi
      obtain ⟨id, v, s, rfl, hwf, hR, hzz, hsl⟩ := open_P1 k4 k3
      exact ⟨(id, s), ⟨k2 0 (by decide), v, k2 1 (by decide), hR, hzz⟩, hwf, hsl⟩
    refine ⟨_, l, rfl, ⟨_, c, by rw [hl], by rw [hl]; exact hc, .inr ⟨b, o, rfl, hb, fun i hi => (hq i hi).1⟩⟩, hnz, fun p hp => ?_, by omega, fun p hp => ?_⟩
    · obtain ⟨i, hi, rfl⟩ := List.getElem_of_mem hp
      exact (hq i hi).2.1
    · obtain ⟨i, hi, rfl⟩ := List.getElem_of_mem hp
      exact (hq i hi).2.2
set_option maxRecDepth 100000 in
theorem open_RRc {fuel : Nat} {cs : List Value} {x : DataW H × List MemPlace} (hw : Fits Tryz.prog 25 x.1) (h : DataW.trod enc Tryz.prog W 0 (fun _ => true) true fuel 25 cs = some x) : ∃ v ll, cs = [v] ∧ RdQ W W.heap.size v ll ∧ Nz v ∧ (∀ l ∈ ll, ∀ p ∈ l, (Lit.int .i64 p.1).wf = true) ∧ ll.length ≤ 140737488355327 ∧ ∀ l ∈ ll, SizR l := by
  have c1 : Tryz.prog.cellsOf 29 = 1 := by kernel_rfl
  have cb : Tryz.prog.bytesOf 29 = 24 := by kernel_rfl
  obtain ⟨A, n, c, rfl, hsz, hc, hz, hA⟩ := open_G Tryz.underlying25 c1 (by decide) hw h
  rw [cb] at hsz
  unfold reachBytes at hsz
  have hnz : Nz (.slice A n c) := fun n' c' e => by injection e with e1 e2 e3; subst e1 e3; exact (hz rfl).2
  rcases hA with rfl | ⟨b, o, rfl, hb, hx⟩
  · exact ⟨_, [], rfl, ⟨A, c, rfl, hc, .inl rfl⟩, hnz, fun p hp => absurd hp List.not_mem_nil, Nat.zero_le _, fun p hp => absurd hp List.not_mem_nil⟩
  · obtain ⟨l, hl, hq⟩ := choose_list (Q := fun i (y : List Pts) => (∃ sv, W.cell? ⟨b, o + i, none⟩ = some sv ∧ RdP W W.heap.size sv y ∧ Nz sv) ∧ (∀ p ∈ y, (Lit.int .i64 p.1).wf = true) ∧ SizR y) (n := n) fun i hi => by
      obtain ⟨cs', fl, y, k1, k2, k3, k4⟩ := hx i hi
      obtain ⟨v, s, rfl, hR, hzz, hwf⟩ := open_PPc k4 k3
      have := k2 0 (by decide)
      rw [Nat.mul_one, Nat.add_zero] at this
      exact ⟨s, ⟨v, this, hR, hzz⟩, hwf⟩
    refine ⟨_, l, rfl, ⟨_, c, by rw [hl], by rw [hl]; exact hc, .inr ⟨b, o, rfl, hb, fun i hi => (hq i hi).1⟩⟩, hnz, fun p hp => ?_, by omega, fun p hp => ?_⟩
    · obtain ⟨i, hi, rfl⟩ := List.getElem_of_mem hp
      exact (hq i hi).2.1
    · obtain ⟨i, hi, rfl⟩ := List.getElem_of_mem hp
      exact (hq i hi).2.2
set_option maxRecDepth 100000 in
theorem open_PP {base : Nat} {v : Value} {d : DataW H} {p : List MemPlace} (hw : Fits Tryz.prog 29 d) (hval : Value.okWide Tryz.prog W .any base 29 v) (h : DataW.Trod enc Tryz.prog W 0 (fun _ => true) true 29 v d p) : ∃ l, RdP W W.heap.size v l ∧ Nz v ∧ (∀ p ∈ l, (Lit.int .i64 p.1).wf = true) ∧ SizR l := by
  obtain ⟨fuel, hf⟩ := h
  obtain ⟨a', len', cap', rfl⟩ := okWide_slice Tryz.underlying29 hval
  obtain ⟨v, l, e, r⟩ := open_PPc hw hf
  have e : [Value.slice a' len' cap'] = [v] := e
  injection e with e _
  subst e
  exact ⟨l, r⟩
set_option maxRecDepth 100000 in
theorem open_RR {base : Nat} {v : Value} {d : DataW H} {p : List MemPlace} (hw : Fits Tryz.prog 25 d) (hval : Value.okWide Tryz.prog W .any base 25 v) (h : DataW.Trod enc Tryz.prog W 0 (fun _ => true) true 25 v d p) : ∃ ll, RdQ W W.heap.size v ll ∧ Nz v ∧ (∀ l ∈ ll, ∀ p ∈ l, (Lit.int .i64 p.1).wf = true) ∧ ll.length ≤ 140737488355327 ∧ ∀ l ∈ ll, SizR l := by
  obtain ⟨fuel, hf⟩ := h
  obtain ⟨a', len', cap', rfl⟩ := okWide_slice Tryz.underlying25 hval
  obtain ⟨v, l, e, r⟩ := open_RRc hw hf
  have e : [Value.slice a' len' cap'] = [v] := e
  injection e with e _
  subst e
  exact ⟨l, r⟩
set_option maxRecDepth 100000 in
theorem open_H {b0 : Nat} {v : Value} {d : DataW H} {p : List MemPlace} (hw : Fits Tryz.prog 24 d) (hv : Value.okWide Tryz.prog W .any b0 24 v) (h : DataW.Trod enc Tryz.prog W 0 (fun _ => true) true 24 v d p) :
    ∃ (m f : Int) (gv : Value) (g : List Int), v = .agg #[.int .i64 m, gv, .int .i64 f] ∧ RdZ W W.heap.size gv g ∧ Nz gv := by
  obtain ⟨v0, v1, v2, y0, y1, y2, n, rfl, hde, _, h0, h1, h2⟩ := Go.Joins.open_agg3 Tryz.underlying24 (by kernel_rfl) (by kernel_rfl) hv h
  obtain ⟨m, e0, _⟩ := DataW.trod_int Tryz.underlying3 h0
  have hw1 : Fits Tryz.prog 22 y1.1 := fun z hz => by
    refine hw z ?_
    rw [hde, DataW.weights, Tryz.underlying24]
    show z ∈ y0.1.weights Tryz.prog 3 ++ (y1.1.weights Tryz.prog 22 ++ _)
    exact List.mem_append_right _ (List.mem_append_left _ hz)
  obtain ⟨gv, g, e1, hR, hz⟩ := open_Zc hw1 h1
  obtain ⟨f, e2, _⟩ := DataW.trod_int Tryz.underlying2 h2
  injection e0 with e0 _
  injection e1 with e1 _
  injection e2 with e2 _
  exact ⟨m, f, gv, g, by rw [e0, e1, e2], hR, hz⟩
end
end Go.Proofs.YtkcipfmbkokfdaaGreatDoor
