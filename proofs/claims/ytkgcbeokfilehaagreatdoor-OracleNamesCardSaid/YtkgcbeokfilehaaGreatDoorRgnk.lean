import Derived.Test.YtkgcbeokfilehaaGreatDoorAnck
import Derived.Test.YtkgcbeokfilehaaGreatDoorRwk
import Derived.Carry
import Derived.Deep.RegionHeld3
namespace Go.Proofs.YtkgcbeokfilehaaGreatDoor
open Go.RowKit Go.ChangeShapes Go.WideShapes Go.ChangeAt Go.Deep

theorem len3 {l : List Value} (h : l.length = 3) : ∃ a b c, l = [a, b, c] := by
  cases l with
  | nil => simp at h
  | cons a l =>
    cases l with
    | nil => simp at h
    | cons b l =>
      cases l with
      | nil => simp at h
      | cons c l =>
        cases l with
        | nil => exact ⟨a, b, c, rfl⟩
        | cons d l => simp at h
section
variable {H : Type} {enc : TypeId × Value → H} {w : World} {base : Nat} {sp : Nat → Bool} {held : Bool}
theorem open_val {n : Nat} {cs : List Value} {x : DataW H × List MemPlace} (h : DataW.trod enc Tryz.prog w base sp held n 26 cs = some x) : ∃ m y s, cs = [.int .i64 m, .int .i64 y, .int .i64 s] := by
  obtain ⟨xs, k, _, _, hc, hxl, hf⟩ := DataW.trod_struct Tryz.underlying26 h
  have c3 : Tryz.prog.cellsOf 26 = 3 := by kernel_rfl
  have ci : Tryz.prog.cellsOf 2 = 1 := by kernel_rfl
  have cj : Tryz.prog.cellsOf 3 = 1 := by kernel_rfl
  rw [c3] at hc
  have g0 := hf 0 ⟨"M", 2, 0, false, "", "", 0⟩ rfl
  have g1 := hf 1 ⟨"E", 3, 1, false, "", "", 8⟩ rfl
  have g2 := hf 2 ⟨"S", 3, 2, false, "", "", 16⟩ rfl
  have hxl : xs.length = 3 := hxl
  rw [List.getElem?_eq_getElem (by omega)] at g0 g1 g2
  obtain ⟨m, e0, _⟩ := DataW.trod_int Tryz.underlying2 g0
  obtain ⟨y, e1, _⟩ := DataW.trod_int Tryz.underlying3 g1
  obtain ⟨s, e2, _⟩ := DataW.trod_int Tryz.underlying3 g2
  obtain ⟨a, b, c, rfl⟩ := len3 hc
  have e0 : ([a, b, c].drop 0).take (Tryz.prog.cellsOf 2) = [.int .i64 m] := e0
  have e1 : ([a, b, c].drop 1).take (Tryz.prog.cellsOf 3) = [.int .i64 y] := e1
  have e2 : ([a, b, c].drop 2).take (Tryz.prog.cellsOf 3) = [.int .i64 s] := e2
  rw [ci] at e0
  rw [cj] at e1 e2
  simp at e0 e1 e2
  exact ⟨m, y, s, by rw [e0, e1, e2]⟩
theorem open_smp {n : Nat} {cs : List Value} {x : DataW H × List MemPlace} (h : DataW.trod enc Tryz.prog w base sp held n 54 cs = some x) : ∃ y : Smp, cs = encS y := by
  obtain ⟨xs, k, _, _, hc, hxl, hf⟩ := DataW.trod_struct Tryz.underlying54 h
  have c4 : Tryz.prog.cellsOf 54 = 4 := by kernel_rfl
  have c3 : Tryz.prog.cellsOf 26 = 3 := by kernel_rfl
  have ci : Tryz.prog.cellsOf 2 = 1 := by kernel_rfl
  rw [c4] at hc
  have g0 := hf 0 ⟨"T", 2, 0, false, "", "", 0⟩ rfl
  have g1 := hf 1 ⟨"V", 26, 1, false, "", "", 8⟩ rfl
  have hxl : xs.length = 2 := hxl
  rw [List.getElem?_eq_getElem (by omega)] at g0 g1
  obtain ⟨t, e0, _⟩ := DataW.trod_int Tryz.underlying2 g0
  obtain ⟨m, y, s, e1⟩ := open_val g1
  obtain ⟨a, r, rfl⟩ : ∃ a r, cs = a :: r := by
    cases cs with
    | nil => simp at hc
    | cons a r => exact ⟨a, r, rfl⟩
  obtain ⟨b, c, d, rfl⟩ := len3 (by simpa using hc : r.length = 3)
  have e0 : ([a, b, c, d].drop 0).take (Tryz.prog.cellsOf 2) = [.int .i64 t] := e0
  have e1 : ([a, b, c, d].drop 1).take (Tryz.prog.cellsOf 26) = [.int .i64 m, .int .i64 y, .int .i64 s] := e1
  rw [ci] at e0
  rw [c3] at e1
  simp at e0 e1
  exact ⟨(t, m, y, s), by rw [e0, e1.1, e1.2.1, e1.2.2]; rfl⟩
set_option maxRecDepth 100000 in
/-- A row of samples that came in. -/
theorem open_S {W : World} {v : Value} {d : DataW H} {p : List MemPlace} (hval : Value.okWide Tryz.prog W .any base 50 v) (h : DataW.Trod enc Tryz.prog W 0 (fun _ => true) true 50 v d p) :
    ∃ l, Rd W W.heap.size v l ∧ Nz v := by
  obtain ⟨fuel, hf⟩ := h
  obtain ⟨a', len', cap', rfl⟩ := okWide_slice Tryz.underlying50 hval
  have c4 : Tryz.prog.cellsOf 54 = 4 := by kernel_rfl
  rcases open_slice Tryz.underlying50 hf with ⟨h0, _⟩ | ⟨a, len, cap, m, n, D, Pl, h0, _, hlc, _, hm, _, hx⟩
  · simp [Value.cells] at h0
    obtain ⟨rfl, rfl, rfl⟩ := h0
    exact ⟨[], ⟨none, 0, rfl, Nat.le_refl _, .inl rfl⟩, fun n c e => by simp at e; exact e.2.symm⟩
  · simp [Value.cells] at h0
    obtain ⟨ea, el, ec⟩ := h0
    subst ea
    have el := el.symm
    have ec := ec.symm
    subst el ec
    have hm2 : m = cap := by rw [hm]; rfl
    have each : ∀ i, i < len → ∃ y : Smp, ∀ j, j < 4 → W.cell? (a.add (i * 4 + j)) = (encS y)[j]? := by
      intro i hi
      obtain ⟨cs', k1, k2⟩ := hx i (by omega)
      obtain ⟨y, rfl⟩ := open_smp k2
      rw [c4] at k1
      obtain ⟨_, _, hc⟩ := World.cells?_some k1
      refine ⟨y, fun j hj => ?_⟩
      have := hc j hj
      rwa [add_add] at this
    have hz : Nz (.slice (some a) len cap) := fun n c e => by simp at e
    rcases Nat.eq_zero_or_pos len with h1 | h1
    · subst h1
      exact ⟨[], ⟨some a, cap, rfl, hlc, .inl rfl⟩, hz⟩
    · obtain ⟨b, o, spot⟩ := a
      obtain ⟨y0, hy0⟩ := each 0 h1
      have hs : spot = none := by simpa [Addr.add] using World.cell?_spot (hy0 0 (by decide))
      subst hs
      have hadd : ∀ j, (⟨b, o, none⟩ : Addr).add j = ⟨b, o + j, none⟩ := fun j => add_at b o j
      refine ⟨(List.range len).map fun i => if h : i < len then Classical.choose (each i h) else (0, 0, 0, 0), ⟨some ⟨b, o, none⟩, cap, by simp, by simpa using hlc, .inr ⟨b, o, rfl, ?_, fun i hi => ?_⟩⟩, hz⟩
      · have := hy0 0 (by decide)
        rw [hadd] at this
        exact lt_of_cell this
      · have hi' : i < len := by simpa using hi
        have hk := Classical.choose_spec (each i hi')
        simp only [List.getElem_map, List.getElem_range, hi', dif_pos]
        have k := fun j hj => (hk j hj)
        have r : ∀ j, j < 4 → W.cell? ⟨b, o + i * 4 + j, none⟩ = (encS (Classical.choose (each i hi')))[j]? := fun j hj => by
          have := hk j hj
          rw [hadd, ← Nat.add_assoc] at this
          exact this
        exact ⟨r 0 (by decide), r 1 (by decide), r 2 (by decide), r 3 (by decide)⟩
end
end Go.Proofs.YtkgcbeokfilehaaGreatDoor

namespace Go.Proofs.YtkgcbeokfilehaaGreatDoor
open Go.RowKit Go.Sort

theorem lasts_max (d : Int) : ∀ s : List Smp, s.Pairwise ltS → ∀ y ∈ s, ∃ z ∈ lasts d s, ivl z.1 d = ivl y.1 d ∧ ¬ ltS z y
  | [], _, y, h => by cases h
  | [a], _, y, h => by
    rw [List.mem_singleton] at h
    exact ⟨a, by simp [lasts], by rw [h], by rw [h]; exact ltS_irrefl a⟩
  | a :: b :: l, hp, y, h => by
    have p := List.pairwise_cons.1 hp
    have ih := lasts_max d (b :: l) p.2
    have hsub : ∀ z, z ∈ lasts d (b :: l) → z ∈ lasts d (a :: b :: l) := by
      intro z hz
      unfold lasts
      split
      · exact hz
      · exact List.mem_cons_of_mem _ hz
    rcases List.mem_cons.1 h with rfl | h
    · by_cases hi : ivl y.1 d = ivl b.1 d
      · obtain ⟨z, h1, h2, h3⟩ := ih b List.mem_cons_self
        exact ⟨z, hsub z h1, by rw [h2, hi], fun hlt => h3 (ltS_trans hlt (p.1 b List.mem_cons_self))⟩
      · refine ⟨y, ?_, rfl, ltS_irrefl y⟩
        unfold lasts
        rw [if_neg hi]; exact List.mem_cons_self
    · obtain ⟨z, h1, h2, h3⟩ := ih y h
      exact ⟨z, hsub z h1, h2, h3⟩
theorem pair_inj {f : Smp → Int} {s : List Smp} (h : s.Pairwise (fun a b => f a < f b)) : ∀ x ∈ s, ∀ y ∈ s, f x = f y → x = y := by
  induction s with
  | nil => intro x hx; cases hx
  | cons a s ih =>
    have p := List.pairwise_cons.1 h
    intro x hx y hy e
    rcases List.mem_cons.1 hx with hx1 | hx1
    · rcases List.mem_cons.1 hy with hy1 | hy1
      · rw [hx1, hy1]
      · have := p.1 y hy1; rw [hx1] at e; omega
    · rcases List.mem_cons.1 hy with hy1 | hy1
      · have := p.1 x hx1; rw [hy1] at e; omega
      · exact ih p.2 x hx1 y hy1 e
theorem le_of_strict {s : List Smp} (h : s.Pairwise ltS) : s.Pairwise (fun a b => ¬ ltS b a) := h.imp fun h => ltS_asymm h
theorem lasts_mem (d : Int) (s : List Smp) (h : s.Pairwise ltS) (x : Smp) : x ∈ lasts d s ↔ x ∈ s ∧ ∀ y ∈ s, ivl y.1 d = ivl x.1 d → ¬ ltS x y := by
  constructor
  · intro hx
    refine ⟨(lasts_sub d s).subset hx, fun y hy e => ?_⟩
    obtain ⟨z, h1, h2, h3⟩ := lasts_max d s h y hy
    have := pair_inj (f := fun s => ivl s.1 d) (lasts_strict d s (le_of_strict h)) x hx z h1 (by rw [h2, e])
    rw [this]; exact h3
  · rintro ⟨hx, hm⟩
    obtain ⟨z, h1, h2, h3⟩ := lasts_max d s h x hx
    have hz := (lasts_sub d s).subset h1
    have := strict_tot s h x hx z hz (hm z hz h2) h3
    rw [this]; exact h1
theorem dedup_mem (d : Int) (l : List Smp) (x : Smp) : x ∈ dedupS d l ↔ (x ∈ l ∧ rightS x = true) ∧ ∀ y, y ∈ l → rightS y = true → ivl y.1 d = ivl x.1 d → ¬ ltS x y := by
  rw [dedupS_lasts, lasts_mem d _ (sortS_strict' l), sortS_mem]
  constructor
  · rintro ⟨h1, h2⟩
    exact ⟨h1, fun y hy hr => h2 y ((sortS_mem l y).2 ⟨hy, hr⟩)⟩
  · rintro ⟨h1, h2⟩
    exact ⟨h1, fun y hy => h2 y ((sortS_mem l y).1 hy).1 ((sortS_mem l y).1 hy).2⟩
theorem dedup_max (d : Int) (l : List Smp) (y : Smp) (hy : y ∈ l) (hr : rightS y = true) : ∃ z ∈ dedupS d l, ivl z.1 d = ivl y.1 d ∧ ¬ ltS z y := by
  rw [dedupS_lasts]
  exact lasts_max d _ (sortS_strict' l) y ((sortS_mem l y).2 ⟨hy, hr⟩)
theorem dedup_rising (d : Int) (l : List Smp) : (dedupS d l).Pairwise (fun a b => ivl a.1 d < ivl b.1 d) := by
  rw [dedupS_lasts]; exact lasts_strict d _ (sortS_le l)
theorem dedup_strict (d : Int) (l : List Smp) : (dedupS d l).Pairwise ltS := by
  rw [dedupS_lasts]; exact (sortS_strict' l).sublist (lasts_sub d _)
theorem sortS_congr {l m : List Smp} (h : ∀ x, x ∈ l ↔ x ∈ m) : sortS l = sortS m :=
  sortS_is l _ (sortS_strict' m) fun x => by rw [sortS_mem, h]
theorem dedup_reverse (d : Int) (l : List Smp) : dedupS d l.reverse = dedupS d l := by
  rw [dedupS_lasts, dedupS_lasts, sortS_congr (m := l) fun x => List.mem_reverse]
/-- The samples of two rows: those of what each comes to. -/
theorem dedup_parts (d : Int) (a b : List Smp) : dedupS d (dedupS d a ++ dedupS d b ++ dedupS d a) = dedupS d (a ++ b) := by
  refine strict_unique _ _ (dedup_strict d _) (dedup_strict d _) fun x => ?_
  have hin : ∀ y, y ∈ dedupS d a ++ dedupS d b ++ dedupS d a ↔ y ∈ dedupS d a ∨ y ∈ dedupS d b := by
    intro y; simp only [List.mem_append]
    constructor
    · rintro ((h | h) | h) <;> simp [h]
    · rintro (h | h) <;> simp [h]
  have hall : ∀ y, y ∈ a ++ b ↔ y ∈ a ∨ y ∈ b := fun y => List.mem_append
  rw [dedup_mem, dedup_mem]
  constructor
  · rintro ⟨⟨h1, h2⟩, h3⟩
    refine ⟨⟨?_, h2⟩, fun y hy hr e hlt => ?_⟩
    · rw [hin] at h1
      rw [hall]
      exact h1.imp (fun h => ((dedup_mem d a x).1 h).1.1) (fun h => ((dedup_mem d b x).1 h).1.1)
    · rw [hall] at hy
      have hz : ∃ z, (z ∈ dedupS d a ∨ z ∈ dedupS d b) ∧ ivl z.1 d = ivl y.1 d ∧ ¬ ltS z y := by
        rcases hy with h | h
        · obtain ⟨z, k1, k2, k3⟩ := dedup_max d a y h hr; exact ⟨z, .inl k1, k2, k3⟩
        · obtain ⟨z, k1, k2, k3⟩ := dedup_max d b y h hr; exact ⟨z, .inr k1, k2, k3⟩
      obtain ⟨z, k1, k2, k3⟩ := hz
      have zr : rightS z = true := by
        rcases k1 with h | h
        · exact ((dedup_mem d a z).1 h).1.2
        · exact ((dedup_mem d b z).1 h).1.2
      exact h3 z ((hin z).2 k1) zr (by rw [k2, e]) (ltS_le_trans hlt k3)
  · rintro ⟨⟨h1, h2⟩, h3⟩
    refine ⟨⟨?_, h2⟩, fun y hy hr e => ?_⟩
    · rw [hall] at h1
      rw [hin]
      rcases h1 with h | h
      · exact .inl ((dedup_mem d a x).2 ⟨⟨h, h2⟩, fun y hy hr e => h3 y ((hall y).2 (.inl hy)) hr e⟩)
      · exact .inr ((dedup_mem d b x).2 ⟨⟨h, h2⟩, fun y hy hr e => h3 y ((hall y).2 (.inr hy)) hr e⟩)
    · rw [hin] at hy
      refine h3 y ((hall y).2 ?_) hr e
      exact hy.imp (fun h => ((dedup_mem d a y).1 h).1.1) (fun h => ((dedup_mem d b y).1 h).1.1)
end Go.Proofs.YtkgcbeokfilehaaGreatDoor

/-
  A region that draws its order, walked in the text's order, operation by operation, where some are not wanted.
-/
namespace Go.Proofs.YtkgcbeokfilehaaGreatDoor
open Go
section
variable {P : Program} {Q : Exit → Act → World → Prop} {md : Region.Mode} {S : World → Prop} {l : List Oper}
theorem get_drop {i : Nat} {oi : Oper} {rest : List Oper} (h : l.drop i = oi :: rest) : l.toArray[i]? = some oi := by
  have := congrArg (fun m : List Oper => m[0]?) h
  simpa using this
/-- One that is wanted, and only reads. -/
theorem takeW {i : Nat} {oi : Oper} {rest : List Oper} {v : Value} {fuel : Nat} {listed : Array Bool} {a : Act} {w : World} (hi : l.drop i = oi :: rest)
    (hs : Region.noSelect l.toArray = true) (hf : Region.free md l.toArray listed i = true) (hr : (Region.ready md l.toArray listed).contains i = true)
    (hQ : ∀ c a w, Q (.panic c) (a.put oi.dst v) w → Q (.panic c) a w) (hw : Region.wanted oi (yielded l.toArray a.tmps) = true) (hy : ∀ w, S w → (execOp a.eval oi).run P w = .ok (.value v) w) (hS : S w)
    (h : wpAnyH P md l.toArray Q S fuel (listed.setIfInBounds i true) (a.put oi.dst v) w) : wpAnyH P md l.toArray Q S (fuel + 1) listed a w :=
  wpAnyH_take (get_drop hi) hs hf hr hQ (.inl ⟨hw, hy⟩) hS h
/-- One that is not wanted. -/
theorem takeU {i : Nat} {oi : Oper} {rest : List Oper} {fuel : Nat} {listed : Array Bool} {a : Act} {w : World} (hi : l.drop i = oi :: rest)
    (hs : Region.noSelect l.toArray = true) (hf : Region.free md l.toArray listed i = true) (hr : (Region.ready md l.toArray listed).contains i = true)
    (hQ : ∀ c a w, Q (.panic c) (a.put oi.dst undef) w → Q (.panic c) a w) (hw : Region.wanted oi (yielded l.toArray a.tmps) = false) (hS : S w)
    (h : wpAnyH P md l.toArray Q S fuel (listed.setIfInBounds i true) (a.put oi.dst undef) w) : wpAnyH P md l.toArray Q S (fuel + 1) listed a w :=
  wpAnyH_take (get_drop hi) hs hf hr hQ (.inr ⟨hw, rfl⟩) hS h
/-- One that alone may come up. -/
theorem takeC {i : Nat} {oi : Oper} {rest : List Oper} {fuel : Nat} {listed : Array Bool} {a : Act} {w : World} (hi : l.drop i = oi :: rest) (hr : Region.ready md l.toArray listed = [i])
    (hw : Region.wanted oi (yielded l.toArray a.tmps) = true)
    (h : ∀ K : Act → World → Prop, Shut (∀ a' w', S w' → (S w' → wpAnyH P md l.toArray Q S fuel (listed.setIfInBounds i true) a' w') → K a' w') → oi.wp P a w K Q) : wpAnyH P md l.toArray Q S (fuel + 1) listed a w :=
  wpAnyH_ready hr (by simp) (AllReadyH.cons (get_drop hi) (fun K hK => by
    rw [if_pos hw]
    exact h K hK) AllReadyH.nil)
end
end Go.Proofs.YtkgcbeokfilehaaGreatDoor
