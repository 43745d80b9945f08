/-
  A map whose elements are rows of points that the call made itself: no two keys' rows in one block.
-/
import Derived.Test.YtkcipfmbkokfdaaGreatDoorOqk
import Derived.Test.YtkcipfmbkokfdaaGreatDoorGbk
import Derived.Test.YtkcipfmbkokfdaaGreatDoorMm1k
import Derived.Test.YtkcipfmbkokfdaaGreatDoorRek
namespace Go.Proofs.YtkcipfmbkokfdaaGreatDoor
open Go.RowKit Go.Sort Go.Maps
/-- A row of points of the call's own, its cells. -/
def OwC (w : World) (base : Nat) (e : TypeId) (v : Value) (cs : List Row) : Prop := w.ownsRow base e 2 v cs.length (cs.flatMap ptC)
theorem OwC.nil (w : World) (base e : Nat) : OwC w base e (.slice none 0 0) [] := ⟨rfl, .inl ⟨rfl, rfl⟩⟩
theorem OwC.kept {w w' : World} {base e : Nat} {v : Value} {l : List Row} {row : Option Nat} (h : OwC w base e v l) (hg : w.grownBy w' row) (hne : v.ownBlock = none ∨ v.ownBlock ≠ row) : OwC w' base e v l := World.ownsRow.kept h hg hne
theorem OwC.blk {w : World} {base e : Nat} {v : Value} {l : List Row} (h : OwC w base e v l) {k : Nat} (hk : v.ownBlock = some k) : base ≤ k ∧ k < w.heap.size := World.ownsRow.lt h k hk
theorem OwC.slE {w : World} {B e : Nat} {v : Value} {l : List Row} (h : OwC w B e v l) : ∃ d, slE v = some (d, []) := by
  rcases h.2 with ⟨rfl, _⟩ | ⟨g, cap, cur, rfl, _⟩
  · exact ⟨_, rfl⟩
  · exact ⟨_, rfl⟩
/-- Block b is such a map: L: what each key's row holds; S: which keys are there. -/
structure GMP (w : World) (b B n : Nat) (D : DataW Unit) (L : Int → List Row) (S : Int → Bool) : Prop where
  map : w.ownsMap Tryz.prog 3 slE b n D
  lt : b < B
  isMap : IsMap D
  val : ∀ k, ∃ v, slE v = some (D.atKey (.int .i64 k) .nil, []) ∧ OwC w B 48 v (L k)
  apart : ∀ k k' v v', k ≠ k' → slE v = some (D.atKey (.int .i64 k) .nil, []) → slE v' = some (D.atKey (.int .i64 k') .nil, []) → v.ownBlock = none ∨ v.ownBlock ≠ v'.ownBlock
  has : ∀ k, Maps.has D (.int .i64 k) = S k
theorem GMP.made (w : World) : GMP (w.alloc (.map #[] 0)) w.heap.size (w.heap.size + 1) 0 (.map []) (fun _ => []) (fun _ => false) :=
  ⟨World.ownsMap_made w _ _ _, Nat.lt_succ_self _, isMap_empty, fun _ => ⟨.slice none 0 0, rfl, OwC.nil _ _ _⟩,
    fun k k' v v' _ h _ => .inl (by
      rcases slE_form h with ⟨rfl, _⟩ | ⟨g, n, c, _, e⟩
      · rfl
      · have := (Prod.mk.inj e).1; cases this), fun _ => rfl⟩
theorem ownC_ne {w : World} {B e b : Nat} {v : Value} {l : List Row} (h : OwC w B e v l) (hb : b < B) : v.ownBlock = none ∨ v.ownBlock ≠ some b := by
  cases hv : v.ownBlock with
  | none => exact .inl rfl
  | some g =>
    refine .inr fun e => ?_
    have := (h.blk hv).1
    injection e with e
    omega
/-- Other blocks are written, new ones made. -/
theorem GMP.kept {w w' : World} {b B n : Nat} {D : DataW Unit} {L : Int → List Row} {S : Int → Bool} (h : GMP w b B n D L S) (hg : w.grownBy w' none) : GMP w' b B n D L S := by
  refine ⟨h.map.kept hg (by simp), h.lt, h.isMap, fun x => ?_, h.apart, h.has⟩
  obtain ⟨v, h1, h2⟩ := h.val x
  refine ⟨v, h1, h2.kept hg ?_⟩
  cases v.ownBlock with
  | none => exact .inl rfl
  | some g => exact .inr (by simp)
/-- One key's row is longer, and stored. -/
theorem GMP.step {w w1 w2 : World} {b B n : Nat} {D : DataW Unit} {L : Int → List Row} {S : Int → Bool} (h : GMP w b B n D L S) {k : Int} {v v' : Value} {s : List Row} {d : DataW Unit} (hv : slE v = some (D.atKey (.int .i64 k) .nil, []))
    (hg : w.grownBy w1 v.ownBlock) (ho : OwC w1 B 48 v' (L k ++ s)) (hloc : v'.ownBlock = v.ownBlock ∨ v'.ownBlock = some w.heap.size) (hd : slE v' = some (d, [])) (hm : w2.ownsMap Tryz.prog 3 slE b (n + 1) (D.put (.int .i64 k) d)) (hg2 : w1.grownBy w2 (some b)) :
    GMP w2 b B (n + 1) (D.put (.int .i64 k) d) (fun x => if x = k then L k ++ s else L x) (fun x => decide (x = k) || S x) := by
  have hsame : (D.put (.int .i64 k) d).atKey (.int .i64 k) .nil = d := atKey_put_same h.isMap (keyLit k) _ _
  have hoth : ∀ x, x ≠ k → (D.put (.int .i64 k) d).atKey (.int .i64 x) .nil = D.atKey (.int .i64 x) .nil := fun x hx => atKey_put_other (lit_ne hx) _ _
  have hnew : ∀ x u, x ≠ k → slE u = some (D.atKey (.int .i64 x) .nil, []) → u.ownBlock = none ∨ u.ownBlock ≠ v'.ownBlock := by
    intro x u hx hu
    rcases hloc with e | e
    · rw [e]; exact h.apart x k u v hx hu hv
    · obtain ⟨u', h1, h2⟩ := h.val x
      obtain rfl := slE_inj h1 hu
      cases hub : u'.ownBlock with
      | none => exact .inl rfl
      | some g =>
        refine .inr fun e' => ?_
        rw [e] at e'
        injection e' with e'
        have := (h2.blk hub).2
        omega
  refine ⟨hm, h.lt, h.isMap.put _ _, fun x => ?_, fun x x' u u' hne hu hu' => ?_, fun x => ?_⟩
  · by_cases hx : x = k
    · subst hx
      rw [hsame, if_pos rfl]
      exact ⟨v', hd, ho.kept hg2 (ownC_ne ho h.lt)⟩
    · rw [hoth x hx, if_neg hx]
      obtain ⟨u, h1, h2⟩ := h.val x
      have h3 := h2.kept hg (h.apart x k u v hx h1 hv)
      exact ⟨u, h1, h3.kept hg2 (ownC_ne h3 h.lt)⟩
  · by_cases hx : x = k
    · subst hx
      rw [hsame] at hu
      rw [hoth x' (Ne.symm hne)] at hu'
      obtain rfl := slE_inj hu hd
      rcases hnew x' u' (Ne.symm hne) hu' with e | e
      · cases hb : u.ownBlock with
        | none => exact .inl rfl
        | some g => exact .inr (by rw [e]; simp)
      · exact .inr (Ne.symm e)
    · rw [hoth x hx] at hu
      by_cases hx' : x' = k
      · subst hx'
        rw [hsame] at hu'
        obtain rfl := slE_inj hu' hd
        exact hnew x u hx hu
      · rw [hoth x' hx'] at hu'
        exact h.apart x x' u u' hne hu hu'
  · by_cases hx : x = k
    · subst hx
      rw [has_put_same h.isMap (keyLit x)]; simp
    · rw [has_put_other (lit_ne hx), h.has x]; simp [hx]

theorem zero_rowP (w : World) : (zeroValue 29).run Tryz.prog w = .ok (.slice none 0 0) w := by kernel_rfl
theorem lookupP_run {w : World} {b n : Nat} {D : DataW Unit} {k : Int} {v : Value} (h : w.ownsMap Tryz.prog 3 slE b n D) (hk : (Lit.int .i64 k).wf = true) (hv : slE v = some (D.atKey (.int .i64 k) .nil, [])) :
    (Instr.lookup 60 (.map (some b)) (.int .i64 k) false).run Tryz.prog w = .ok v w := by
  obtain ⟨u, ps, hr, hu⟩ := h.lookup (int_keyed Tryz.underlying3) Tryz.underlying60 (zero_rowP w) (zd := .nil) (zp := []) rfl (keyOf_int_mk Tryz.underlying3 hk)
  obtain rfl := slE_inj hu hv
  exact hr
theorem updateP_run {w : World} {b n : Nat} {D : DataW Unit} {k : Int} {v : Value} {d : DataW Unit} (h : w.ownsMap Tryz.prog 3 slE b n D) (hn : n < maxLen) (hk : (Lit.int .i64 k).wf = true) (hv : slE v = some (d, [])) :
    ∃ w', (Instr.mapUpdate 60 (.map (some b)) (.int .i64 k) v).run Tryz.prog w = .ok () w' ∧ w'.ownsMap Tryz.prog 3 slE b (n + 1) (D.put (.int .i64 k) d) ∧ w.grownBy w' (some b) :=
  h.update (int_keyed Tryz.underlying3) Tryz.underlying60 hn (keyOf_int_mk Tryz.underlying3 hk) hv
/-- Where the samples of the map's points lie: below block B0, not in the map; no row lies in block bx. -/
structure Mon (w : World) (b B0 B n bx : Nat) (L : Int → List Row) (S : Int → Bool) : Prop where
  map : ∃ D, GMP w b B n D L S ∧ ∀ k v, slE v = some (D.atKey (.int .i64 k) .nil, []) → v.ownBlock ≠ some bx
  low : B0 ≤ B
  rd : ∀ k, ∀ x ∈ L k, Rd w B0 x.2.1 x.2.2 ∧ Nz x.2.1
theorem ownsMap_cell {w : World} {b n : Nat} {D : DataW Unit} (h : w.ownsMap Tryz.prog 3 slE b n D) (t : Nat) : w.cell? ⟨b, t, none⟩ = none := by
  obtain ⟨es, clock, hb, _⟩ := h
  unfold World.cell?
  rw [hb]
theorem Rd.keptM {w w' : World} {B0 B b : Nat} {v : Value} {l : List Smp} (h : Rd w B0 v l) (hc : ∀ t, w.cell? ⟨b, t, none⟩ = none) (hk : ∀ k, k < B → k ≠ b → w'.heap[k]? = w.heap[k]?) (hB : B0 ≤ B) : Rd w' B0 v l := by
  obtain ⟨A, c, rfl, hc0, hA⟩ := h
  refine ⟨A, c, rfl, hc0, hA.imp id fun ⟨g, o, e, hg, hcl⟩ => ⟨g, o, e, hg, fun i hi => ?_⟩⟩
  have hne : g ≠ b := by
    intro e9
    subst e9
    have := (hcl i hi).1
    rw [hc] at this
    cases this
  obtain ⟨q0, q1, q2, q3⟩ := hcl i hi
  have hk2 := fun t => World.cell?_of_block (w := w) (w' := w') (a := ⟨g, t, none⟩) (hk g (Nat.lt_of_lt_of_le hg hB) hne)
  exact ⟨(hk2 _).trans q0, (hk2 _).trans q1, (hk2 _).trans q2, (hk2 _).trans q3⟩
theorem Mon.kept {w w' : World} {b B0 B n bx : Nat} {L : Int → List Row} {S : Int → Bool} (h : Mon w b B0 B n bx L S) (hB : B ≤ w.heap.size) (hg : w.grownBy w' none) : Mon w' b B0 B n bx L S := by
  obtain ⟨⟨D, G, hx⟩, hl, hr⟩ := h
  refine ⟨⟨D, G.kept hg, hx⟩, hl, fun k x hx => ⟨(hr k x hx).1.keptM (B := B) (ownsMap_cell G.map) (fun i hi _ => hg.block i (by omega) (by simp)) hl, (hr k x hx).2⟩⟩
/-- A box that is new. -/
theorem Mon.rebox {w : World} {b B0 B n bx : Nat} {L : Int → List Row} {S : Int → Bool} (h : Mon w b B0 B n bx L S) : Mon w b B0 B n w.heap.size L S := by
  obtain ⟨⟨D, G, hx⟩, hl, hr⟩ := h
  refine ⟨⟨D, G, fun k v hv e => ?_⟩, hl, hr⟩
  obtain ⟨u, h1, h2⟩ := G.val k
  obtain rfl := slE_inj h1 hv
  have := (h2.blk e).2
  omega
/-- The box is written. -/
theorem Mon.set {w w' : World} {b B0 B n bx : Nat} {L : Int → List Row} {S : Int → Bool} (h : Mon w b B0 B n bx L S) (hB : B ≤ bx) (hB2 : B ≤ w.heap.size) (hg : w.grownBy w' (some bx)) : Mon w' b B0 B n bx L S := by
  obtain ⟨⟨D, G, hx⟩, hl, hr⟩ := h
  have hlt := G.lt
  refine ⟨⟨D, ⟨G.map.kept hg (fun e => by injection e with e; omega), G.lt, G.isMap, fun k => ?_, G.apart, G.has⟩, hx⟩, hl, fun k x hx => ⟨(hr k x hx).1.keptM (B := B) (ownsMap_cell G.map) (fun i hi _ => hg.block i (by omega) (fun e => by injection e; omega)) hl, (hr k x hx).2⟩⟩
  obtain ⟨v, h1, h2⟩ := G.val k
  exact ⟨v, h1, h2.kept hg (.inr (hx k v h1))⟩
theorem Mon.made {w w' : World} {b B0 B : Nat} (hb : b = w.heap.size) (hk : (w.alloc (.map #[] 0)).grownBy w' none) (hB : b < B) (h0 : B0 ≤ B) : Mon w' b B0 B 0 b (fun _ => []) (fun _ => false) := by
  subst hb
  have h := (GMP.made w).kept hk
  refine ⟨⟨.map [], ⟨h.map, hB, h.isMap, fun _ => ⟨.slice none 0 0, rfl, OwC.nil _ _ _⟩, h.apart, h.has⟩, fun k v hv e => ?_⟩, h0, fun _ _ hx => absurd hx List.not_mem_nil⟩
  rcases slE_form hv with ⟨rfl, _⟩ | ⟨g, n, c, _, e2⟩
  · cases e
  · have := (Prod.mk.inj e2).1; cases this
/-- One more of points in one month: what a round does. -/
theorem Mon.round {w : World} {b B0 B n bx : Nat} {L : Int → List Row} {S : Int → Bool} (h : Mon w b B0 B n bx L S) (hB : B ≤ w.heap.size) (hbx : bx < w.heap.size) {k : Int} (hw : (Lit.int .i64 k).wf = true) (hn : n < 1000000000) :
    ∃ v, OwC w B 48 v (L k) ∧ v.ownBlock ≠ some bx ∧
      (∀ w', w.grownBy w' none → (Instr.lookup 60 (.map (some b)) (.int .i64 k) false).run Tryz.prog w' = .ok v w') ∧
      ∀ w' w1 v' y, w.grownBy w' none → w'.grownBy w1 v.ownBlock → OwC w1 B 48 v' (L k ++ [y]) → (v'.ownBlock = v.ownBlock ∨ v'.ownBlock = some w'.heap.size) → Rd w B0 y.2.1 y.2.2 → Nz y.2.1 →
        ∃ w2, (Instr.mapUpdate 60 (.map (some b)) (.int .i64 k) v').run Tryz.prog w1 = .ok () w2 ∧ Mon w2 b B0 B (n + 1) bx (fun x => if x = k then L k ++ [y] else L x) (fun x => decide (x = k) || S x) ∧ w1.grownBy w2 (some b) := by
  obtain ⟨⟨D, G, hxx⟩, hl, hr⟩ := h
  obtain ⟨v, hv, ho⟩ := G.val k
  have hob : v.ownBlock = none ∨ v.ownBlock ≠ some b := ownC_ne ho G.lt
  have hnb : some b ≠ v.ownBlock := by
    intro e
    rcases hob with h | h
    · rw [h] at e; cases e
    · exact h e.symm
  refine ⟨v, ho, hxx k v hv, fun w' hg => lookupP_run (G.map.kept hg (by simp)) hw hv, fun w' w1 v' y hg hg1 ho1 hloc hy hz => ?_⟩
  have G' := G.kept hg
  obtain ⟨d, hd⟩ := ho1.slE
  have hm1 : w1.ownsMap Tryz.prog 3 slE b n D := G'.map.kept hg1 hnb
  obtain ⟨w2, hr2, hm2, hg2⟩ := updateP_run hm1 (by unfold maxLen; omega) hw hd
  have hkk : ∀ i, i < B → i ≠ b → w2.heap[i]? = w.heap[i]? := fun i hi hib => by
    have h1 : w'.heap[i]? = w.heap[i]? := hg.block i (by omega) (by simp)
    have h2 : w1.heap[i]? = w'.heap[i]? := hg1.block i (by have := hg.size; omega) (fun e => by have := (ho.blk e.symm).1; omega)
    have h3 : w2.heap[i]? = w1.heap[i]? := hg2.block i (by have := hg.size; have := hg1.size; omega) (fun e => hib (by injection e))
    exact h3.trans (h2.trans h1)
  have hvx : v'.ownBlock ≠ some bx := by
    rcases hloc with e | e
    · rw [e]; exact hxx k v hv
    · rw [e]
      intro e9
      injection e9 with e9
      have := hg.size
      omega
  refine ⟨w2, hr2, ⟨⟨_, G'.step hv hg1 ho1 hloc hd hm2 hg2, fun x u hu => ?_⟩, hl, fun x u hu => ?_⟩, hg2⟩
  · by_cases hx : x = k
    · subst hx
      rw [atKey_put_same G'.isMap (keyLit x)] at hu
      obtain rfl := slE_inj hu hd
      exact hvx
    · rw [atKey_put_other (lit_ne hx)] at hu
      exact hxx x u hu
  · have key : Rd w B0 u.2.1 u.2.2 ∧ Nz u.2.1 := by
      by_cases hx : x = k
      · rw [if_pos hx] at hu
        rcases List.mem_append.1 hu with hu | hu
        · exact hr k u hu
        · rw [List.mem_singleton] at hu; subst hu; exact ⟨hy, hz⟩
      · rw [if_neg hx] at hu
        exact hr x u hu
    exact ⟨key.1.keptM (ownsMap_cell G.map) hkk hl, key.2⟩
/-- What one key reads as. -/
theorem Mon.at {w : World} {b B0 B n bx : Nat} {L : Int → List Row} {S : Int → Bool} (h : Mon w b B0 B n bx L S) (hB : B0 ≤ w.heap.size) {k : Int} (hw : (Lit.int .i64 k).wf = true) :
    ∃ v, (∀ w', w.grownBy w' none → (Instr.lookup 60 (.map (some b)) (.int .i64 k) false).run Tryz.prog w' = .ok v w') ∧ RdP w w.heap.size v (cut (L k)) ∧ Nz v := by
  obtain ⟨⟨D, G, hxx⟩, hl, hr⟩ := h
  obtain ⟨v, hv, ho⟩ := G.val k
  refine ⟨v, fun w' hg => lookupP_run (G.map.kept hg (by simp)) hw hv, ?_, ?_⟩
  · have hlen : (cut (L k)).length = (L k).length := by simp [cut]
    rcases ho.2 with ⟨rfl, hn⟩ | ⟨g, cap, cur, rfl, hb, hc, h1, h2, h3, h4⟩
    · have : L k = [] := List.eq_nil_of_length_eq_zero hn
      rw [this]
      exact ⟨none, 0, rfl, Nat.zero_le _, .inl rfl⟩
    · refine ⟨some ⟨g, 0, none⟩, cap, by rw [hlen], by rw [hlen]; exact h1, .inr ⟨g, 0, rfl, (Array.getElem?_eq_some_iff.1 hc).1, fun i hi => ?_⟩⟩
      have hi' : i < (L k).length := by rw [← hlen]; exact hi
      obtain ⟨q1, q2⟩ := hr k (L k)[i] (List.getElem_mem hi')
      have hcell : ∀ t (ht : t < 2), w.cell? ⟨g, i * 2 + t, none⟩ = (ptC (L k)[i])[t]? := by
        intro t ht
        have e1 : w.cell? ⟨g, i * 2 + t, none⟩ = cur[i * 2 + t]? := by simp [World.cell?, hc]
        have e2 : (cur.toList.take ((L k).length * 2))[i * 2 + t]? = cur[i * 2 + t]? := by rw [List.getElem?_take_of_lt (by omega)]; simp
        rw [e1, ← e2, h4]
        exact flat2 (L k) i t hi' ht
      have e0 := hcell 0 (by omega)
      have e1 := hcell 1 (by omega)
      have hci : (cut (L k))[i] = ((L k)[i].1, (L k)[i].2.2) := by simp [cut]
      rw [hci]
      exact ⟨by rw [Nat.zero_add]; exact e0, (L k)[i].2.1, by rw [Nat.zero_add]; exact e1, q1.mono hB, q2⟩
  · intro n c e
    rcases ho.2 with ⟨h1, _⟩ | ⟨g, cap, cur, h1, _⟩
    · rw [h1] at e; injection e with _ _ h; exact h.symm
    · rw [h1] at e; injection e with h; cases h
end Go.Proofs.YtkcipfmbkokfdaaGreatDoor

/-
  eskerref11.Put: a number put into a rising row, once.
-/
namespace Go.Proofs.YtkcipfmbkokfdaaGreatDoor
open Go.RowKit Go.Sort
theorem RdZ.cutTo {w : World} {B : Nat} {A : Option Addr} {n c k : Nat} {l : List Int} (hn : n = l.length) (h : RdZ w B (.slice A n c) l) (hk : k ≤ n) : RdZ w B (.slice A k c) (l.take k) := by
  obtain ⟨A', c', e, hc, hA⟩ := h
  injection e with e1 e2 e3
  subst e1 e3
  have hl : (l.take k).length = k := by rw [List.length_take]; omega
  refine ⟨A, c, by rw [hl], by rw [hl]; omega, ?_⟩
  rcases hA with h0 | ⟨b, o, e, hb, hcl⟩
  · exact .inl (by rw [h0]; simp)
  · refine .inr ⟨b, o, e, hb, fun i hi => ?_⟩
    rw [hl] at hi
    rw [hcl i (by omega), List.getElem_take]
theorem RdZ.cutFrom {w : World} {B b o : Nat} {n c k : Nat} {l : List Int} (hn : n = l.length) (h : RdZ w B (.slice (some ⟨b, o, none⟩) n c) l) (hk : k < n) : RdZ w B (.slice (some ⟨b, o + k, none⟩) (n - k) (c - k)) (l.drop k) := by
  obtain ⟨A', c', e, hc, hA⟩ := h
  injection e with e1 e2 e3
  subst e1 e3
  have hl : (l.drop k).length = n - k := by rw [List.length_drop]; omega
  refine ⟨_, c - k, by rw [hl], by rw [hl]; omega, ?_⟩
  rcases hA with h0 | ⟨b', o', e, hb, hcl⟩
  · exact .inl (by rw [h0]; simp)
  · injection e with e
    injection e with e4 e5
    subst e4 e5
    refine .inr ⟨b, o + k, rfl, hb, fun i hi => ?_⟩
    rw [hl] at hi
    rw [Nat.add_assoc, hcl (k + i) (by omega), List.getElem_drop]
set_option maxRecDepth 100000 in
set_option maxHeartbeats 4000000 in
theorem putZ_walk (v : Value) (l : List Int) (z : Int) (W : World) (hR : RdZ W W.heap.size v l) (hz : Nz v) (hl : l.length ≤ 1000000) :
    Calls Tryz.prog 40 #[v, .int .i64 z] W fun e w' => ∃ r, e = .returned r ∧ RdZ w' w'.heap.size r (putZ l z) ∧ Nz r ∧ Below W.heap.size W w' := by
  have HR := Lib.hid hR
  have HZ := Lib.hid hz
  obtain ⟨A, c, rfl, hc, hA⟩ := hR
  obtain ⟨n, hn⟩ : ∃ n, n = l.length := ⟨_, rfl⟩
  rw [← hn] at hc HR HZ hl ⊢
  have HN := Lib.hid hn
  have HA := Lib.hid hA
  have HC := Lib.hid hc
  clear hz hn hA hc
  go_enter Tryz.func40, Tryz.ntmps40
  go_wp2_with fail
  go_loopw [5] (fun i wl => ∃ k : Nat, k ≤ n ∧ i = .int .i64 k ∧ Hid (∀ i (h : i < l.length), i < k → l[i] < z) ∧ Hid (Ext W wl))
    (fun i _ => n - (intOf i).toNat)
  case atStart => exact ⟨0, Nat.zero_le _, rfl, fun _ _ h => by omega, Ext.refl _⟩
  case round =>
    obtain ⟨k, hk, rfl, HF, HE⟩ := hrel
    by_cases hlt : k < n
    · have hkl : k < l.length := by rw [← HN.out]; exact hlt
      rcases HA.out with e | ⟨b, o, e, hb, hcl⟩
      · subst e; simp at hkl
      subst e
      obtain ⟨x, hx⟩ : ∃ x, x = l[k] := ⟨_, rfl⟩
      have HX := Lib.hid hx
      have c0 : wr.cell? ⟨b, o + k, none⟩ = some (.int .i64 x) := by rw [hx]; exact (HE.out.below.cell hb).trans (hcl k hkl)
      have HC0 := Lib.hid c0
      have i1 : (k : Int) < (n : Int) := by omega
      clear hx hcl
      by_cases hxz : x < z
      · have g1 : decide ((x : Int) < z) = true := decide_eq_true hxz
        have HF2 : Hid (∀ i (h : i < l.length), i < k + 1 → l[i] < z) := by
          intro i hi hik
          rcases (by omega : i < k ∨ i = k) with h | h
          · exact HF.out i hi h
          · subst h; rw [← HX.out]; exact hxz
        go_wp2_with fail
        go_roundw
        case rel => exact ⟨k + 1, by omega, by go_num, HF2.out, HE.out⟩
        case measure => simp [intOf]; omega
      · have g1 : decide ((x : Int) < z) = false := decide_eq_false hxz
        have HP : Hid (putZ l z = if x = z then l else l.take k ++ [z] ++ l.drop k) := by
          show _ = _
          rw [putZ_at hkl HF.out (by rw [← HX.out]; exact hxz), ← HX.out]
          simp
        by_cases hxe : x = z
        · have g2 : ((x : Int) == z) = true := by simp [hxe]
          have HF2 : Hid (putZ l z = l) := by show _ = _; rw [HP.out, if_pos hxe]
          clear hxe hxz
          go_wp2_with fail
          go_ret
          have hE2 := HE.out
          refine ⟨_, rfl, ?_, HZ.out, hE2.below⟩
          rw [HF2.out]
          exact HR.out.on hE2.below
        · have g2 : ((x : Int) == z) = false := by simp [hxe]
          have HF2 : Hid (putZ l z = l.take k ++ [z] ++ l.drop k) := by show _ = _; rw [HP.out, if_neg hxe]
          clear hxe hxz
          have HB3 : Hid (Below W.heap.size W wr) := HE.out.below
          clear HC0 HE
          have HR3 : Hid (RdZ wr wr.heap.size (.slice (some ⟨b, o, none⟩) n c) l) := HR.out.on HB3.out
          have hkc : k < c := by have := HC.out; omega
          have hkn : k ≤ n := by omega
          have HLt : Hid ((l.take k).length ≤ 1000000) := by show _ ≤ _; rw [List.length_take]; omega
          have HLd : Hid ((l.drop k).length ≤ 1000000) := by show _ ≤ _; rw [List.length_drop, ← HN.out]; omega
          have HT := Lib.hid (HR3.out.cutTo HN.out hkn)
          have HD := Lib.hid (HR3.out.cutFrom HN.out hlt)
          go_wp2_with (first | (at_builtin; refine appNZ rfl _ _ 22 rfl Tryz.underlying22 info_intZ wr.heap.size (.slice none 0 0) [] _ (l.take k) wr.heap.size rfl (OwZ.nil _ _) rfl HT.out ?z1 ?z2 ?z3 ?_) | fail)
          case z1 => exact nz_some _ _ _
          case z2 => have := HLt.out; first | omega | (simp; omega)
          case z3 => exact Nat.le_refl _
          · intro v1 w4 hown hg hloc
            have HB4 : Hid (Below wr.heap.size wr w4) := (Below.refl _ _).grown hg (Nat.le_refl _) (fun g hg' => by simp [Value.ownBlock] at hg')
            clear hg hloc
            have HB5 : Hid (∀ o, Below wr.heap.size wr (w4.alloc o)) := fun o => HB4.out.alloc HB4.out.size _
            have HBs : Hid (wr.heap.size ≤ w4.heap.size) := HB4.out.size
            go_wp2_with (first | (at_builtin; refine app1Z rfl _ _ 22 rfl Tryz.underlying22 info_intZ wr.heap.size _ (l.take k) z rfl (hown.on ((Below.refl _ w4).alloc (Nat.le_refl _) _)) w4.heap.size 0 1 rfl (new_cell _ _ _ 0) ?y1 ?y2 ?_) | fail)
            case y1 => have := HLt.out; omega
            case y2 => have := HBs.out; simp; omega
            · intro v2 w5 hown2 hg hloc
              have HB6 : Hid (Below wr.heap.size wr w5) := (HB5.out _).grown hg (by have := HBs.out; simp; omega) (fun g hg' => (World.ownsRow.lt hown g hg').1)
              clear hg hloc hown
              have HD5 : Hid (RdZ w5 w5.heap.size (.slice (some ⟨b, o + k, none⟩) (n - k) (c - k)) (l.drop k)) := HD.out.on HB6.out
              go_wp2_with (first | (at_builtin; refine appNZ rfl _ _ 22 rfl Tryz.underlying22 info_intZ wr.heap.size _ (l.take k ++ [z]) _ (l.drop k) w5.heap.size rfl hown2 rfl HD5.out ?x1 ?x2 ?x3 ?_) | fail)
              case x1 => exact nz_some _ _ _
              case x2 => have := HLt.out; have := HLd.out; simp only [List.length_append, List.length_singleton]; omega
              case x3 => exact HB6.out.size
              · intro v3 w6 hown3 hg hloc
                have HB7 : Hid (Below wr.heap.size wr w6) := HB6.out.grown hg HB6.out.size (fun g hg' => (World.ownsRow.lt hown2 g hg').1)
                have HO := Lib.hid hown3
                clear hg hloc hown2 hown3
                go_wp2_with fail
                go_ret
                exact ⟨_, rfl, by rw [HF2.out]; first | exact HO.out.rd | (have h := HO.out.rd; simpa using h), HO.out.nz, HB3.out.trans (HB7.out.mono HB3.out.size)⟩
    · obtain rfl : n = k := by omega
      have HF2 : Hid (putZ l z = l ++ [z]) := putZ_end fun i hi => HF.out i hi (by rw [HN.out]; exact hi)
      have g1 : decide ((n : Int) < (n : Int)) = false := by simp
      have hcn : n ≤ c := HC.out
      have HB3 : Hid (Below W.heap.size W wr) := HE.out.below
      clear HE HF
      have HR3 : Hid (RdZ wr wr.heap.size (.slice A n c) l) := HR.out.on HB3.out
      have HLt : Hid (l.length ≤ 1000000) := by show _ ≤ _; rw [← HN.out]; exact hl
      go_wp2_with (first | (at_builtin; refine appNZ rfl _ _ 22 rfl Tryz.underlying22 info_intZ wr.heap.size (.slice none 0 0) [] _ l wr.heap.size rfl (OwZ.nil _ _) rfl HR3.out ?z1 ?z2 ?z3 ?_) | fail)
      case z1 => exact HZ.out
      case z2 => have := HLt.out; first | omega | (simp; omega)
      case z3 => exact Nat.le_refl _
      · intro v1 w4 hown hg hloc
        have HB4 : Hid (Below wr.heap.size wr w4) := (Below.refl _ _).grown hg (Nat.le_refl _) (fun g hg' => by simp [Value.ownBlock] at hg')
        clear hg hloc
        have HB5 : Hid (∀ o, Below wr.heap.size wr (w4.alloc o)) := fun o => HB4.out.alloc HB4.out.size _
        have HBs : Hid (wr.heap.size ≤ w4.heap.size) := HB4.out.size
        go_wp2_with (first | (at_builtin; refine app1Z rfl _ _ 22 rfl Tryz.underlying22 info_intZ wr.heap.size _ l z rfl (hown.on ((Below.refl _ w4).alloc (Nat.le_refl _) _)) w4.heap.size 0 1 rfl (new_cell _ _ _ 0) ?y1 ?y2 ?_) | fail)
        case y1 => have := HLt.out; omega
        case y2 => have := HBs.out; simp; omega
        · intro v2 w5 hown2 hg hloc
          have HB6 : Hid (Below wr.heap.size wr w5) := (HB5.out _).grown hg (by have := HBs.out; simp; omega) (fun g hg' => (World.ownsRow.lt hown g hg').1)
          clear hg hloc hown
          have HO2 := Lib.hid hown2
          clear hown2
          have HFIN : Hid (∀ v3 w6, OwZ w6 wr.heap.size v3 (l ++ [z] ++ []) → w5.grownBy w6 v2.ownBlock → RdZ w6 w6.heap.size v3 (putZ l z) ∧ Nz v3 ∧ Below W.heap.size W w6) := fun v3 w6 ho hg => by
            have HB7 : Below wr.heap.size wr w6 := HB6.out.grown hg HB6.out.size (fun g hg' => (World.ownsRow.lt HO2.out g hg').1)
            rw [List.append_nil] at ho
            rw [HF2.out]
            exact ⟨ho.rd, ho.nz, HB3.out.trans (HB7.mono HB3.out.size)⟩
          have HLa : Hid (((l ++ [z]).length + ([] : List Int).length) * 8 ≤ 140737488355328) := by
            have := HLt.out
            show _ ≤ _
            simp; omega
          cases A with
          | none =>
            have hc0 : c = 0 := HZ.out _ _ rfl
            have hn0 : n = 0 := by omega
            subst hc0
            clear hcn g1
            subst hn0
            go_wp2_with (first | (at_builtin; refine appNZ rfl _ _ 22 rfl Tryz.underlying22 info_intZ wr.heap.size _ (l ++ [z]) _ [] w5.heap.size rfl HO2.out rfl ⟨_, _, rfl, Nat.zero_le _, .inl rfl⟩ nz_nil HLa.out HB6.out.size ?_; intro v3 w6 hown3 hg hloc; have HO := Lib.hid (HFIN.out _ _ hown3 hg); clear hg hloc hown3) | fail)
            go_ret
            exact ⟨_, rfl, HO.out.1, HO.out.2.1, HO.out.2.2⟩
          | some ad =>
            rcases Nat.lt_or_ge n c with hlt2 | hge2
            · go_wp2_with (first | (at_builtin; refine appNZ rfl _ _ 22 rfl Tryz.underlying22 info_intZ wr.heap.size _ (l ++ [z]) _ [] w5.heap.size rfl HO2.out rfl ⟨_, _, rfl, Nat.zero_le _, .inl rfl⟩ (nz_some _ _ _) HLa.out HB6.out.size ?_; intro v3 w6 hown3 hg hloc; have HO := Lib.hid (HFIN.out _ _ hown3 hg); clear hg hloc hown3) | fail)
              go_ret
              exact ⟨_, rfl, HO.out.1, HO.out.2.1, HO.out.2.2⟩
            · obtain rfl : n = c := by omega
              clear hge2 hlt hk hcn
              go_wp2_with (first | (at_builtin; refine appNZ rfl _ _ 22 rfl Tryz.underlying22 info_intZ wr.heap.size _ (l ++ [z]) _ [] w5.heap.size rfl HO2.out rfl ⟨_, _, rfl, Nat.zero_le _, .inl rfl⟩ (nz_some _ _ _) HLa.out HB6.out.size ?_; intro v3 w6 hown3 hg hloc; have HO := Lib.hid (HFIN.out _ _ hown3 hg); clear hg hloc hown3) | fail)
              go_ret
              exact ⟨_, rfl, HO.out.1, HO.out.2.1, HO.out.2.2⟩
end Go.Proofs.YtkcipfmbkokfdaaGreatDoor
