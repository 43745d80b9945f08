/-
  A map whose elements are rows of points that the call made itself: no two keys' rows in one block.
-/
import Derived.Test.YtkcipfmbkokfdaaGreatDoorOqk
import Derived.Test.YtkcipfmbkokfdaaGreatDoorGbk
namespace Go.Proofs.YtkcipfmbkokfdaaGreatDoor
open Go.RowKit Go.Sort Go.Maps
/-- A row of points of the call's own, its cells. -/
def OwC (w : World) (base : Nat) (e : TypeId) (v : Value) (cs : List Row) : Prop := w.ownsRow base e 2 v cs.length (cs.flatMap ptC)
theorem OwC.nil (w : World) (base e : Nat) : OwC w base e (.slice none 0 0) [] := ⟨rfl, .inl ⟨rfl, rfl⟩⟩
theorem OwC.kept {w w' : World} {base e : Nat} {v : Value} {l : List Row} {row : Option Nat} (h : OwC w base e v l) (hg : w.grownBy w' row) (hne : v.ownBlock = none ∨ v.ownBlock ≠ row) : OwC w' base e v l := World.ownsRow.kept h hg hne
theorem OwC.blk {w : World} {base e : Nat} {v : Value} {l : List Row} (h : OwC w base e v l) {k : Nat} (hk : v.ownBlock = some k) : base ≤ k ∧ k < w.heap.size := World.ownsRow.lt h k hk
theorem OwC.slE {w : World} {B e : Nat} {v : Value} {l : List Row} (h : OwC w B e v l) : ∃ d, slE v = some (d, []) := by
  rcases h.2 with ⟨rfl, _⟩ | ⟨g, cap, cur, rfl, _⟩
  · exact ⟨_, rfl⟩
  · exact ⟨_, rfl⟩
/-- Block b is such a map: L: what each key's row holds; S: which keys are there. -/
structure GMP (w : World) (b B n : Nat) (D : DataW Unit) (L : Int → List Row) (S : Int → Bool) : Prop where
  map : w.ownsMap Tryz.prog 3 slE b n D
  lt : b < B
  isMap : IsMap D
  val : ∀ k, ∃ v, slE v = some (D.atKey (.int .i64 k) .nil, []) ∧ OwC w B 48 v (L k)
  apart : ∀ k k' v v', k ≠ k' → slE v = some (D.atKey (.int .i64 k) .nil, []) → slE v' = some (D.atKey (.int .i64 k') .nil, []) → v.ownBlock = none ∨ v.ownBlock ≠ v'.ownBlock
  has : ∀ k, Maps.has D (.int .i64 k) = S k
theorem GMP.made (w : World) : GMP (w.alloc (.map #[] 0)) w.heap.size (w.heap.size + 1) 0 (.map []) (fun _ => []) (fun _ => false) :=
  ⟨World.ownsMap_made w _ _ _, Nat.lt_succ_self _, isMap_empty, fun _ => ⟨.slice none 0 0, rfl, OwC.nil _ _ _⟩,
    fun k k' v v' _ h _ => .inl (by
      rcases slE_form h with ⟨rfl, _⟩ | ⟨g, n, c, _, e⟩
      · rfl
      · have := (Prod.mk.inj e).1; cases this), fun _ => rfl⟩
theorem ownC_ne {w : World} {B e b : Nat} {v : Value} {l : List Row} (h : OwC w B e v l) (hb : b < B) : v.ownBlock = none ∨ v.ownBlock ≠ some b := by
  cases hv : v.ownBlock with
  | none => exact .inl rfl
  | some g =>
    refine .inr fun e => ?_
    have := (h.blk hv).1
    injection e with e
    omega
/-- Other blocks are written, new ones made. -/
theorem GMP.kept {w w' : World} {b B n : Nat} {D : DataW Unit} {L : Int → List Row} {S : Int → Bool} (h : GMP w b B n D L S) (hg : w.grownBy w' none) : GMP w' b B n D L S := by
  refine ⟨h.map.kept hg (by simp), h.lt, h.isMap, fun x => ?_, h.apart, h.has⟩
  obtain ⟨v, h1, h2⟩ := h.val x
  refine ⟨v, h1, h2.kept hg ?_⟩
  cases v.ownBlock with
  | none => exact .inl rfl
  | some g => exact .inr (by simp)
/-- One key's row is longer, and stored. -/
theorem GMP.step {w w1 w2 : World} {b B n : Nat} {D : DataW Unit} {L : Int → List Row} {S : Int → Bool} (h : GMP w b B n D L S) {k : Int} {v v' : Value} {s : List Row} {d : DataW Unit} (hv : slE v = some (D.atKey (.int .i64 k) .nil, []))
    (hg : w.grownBy w1 v.ownBlock) (ho : OwC w1 B 48 v' (L k ++ s)) (hloc : v'.ownBlock = v.ownBlock ∨ v'.ownBlock = some w.heap.size) (hd : slE v' = some (d, [])) (hm : w2.ownsMap Tryz.prog 3 slE b (n + 1) (D.put (.int .i64 k) d)) (hg2 : w1.grownBy w2 (some b)) :
    GMP w2 b B (n + 1) (D.put (.int .i64 k) d) (fun x => if x = k then L k ++ s else L x) (fun x => decide (x = k) || S x) := by
  have hsame : (D.put (.int .i64 k) d).atKey (.int .i64 k) .nil = d := atKey_put_same h.isMap (keyLit k) _ _
  have hoth : ∀ x, x ≠ k → (D.put (.int .i64 k) d).atKey (.int .i64 x) .nil = D.atKey (.int .i64 x) .nil := fun x hx => atKey_put_other (lit_ne hx) _ _
  have hnew : ∀ x u, x ≠ k → slE u = some (D.atKey (.int .i64 x) .nil, []) → u.ownBlock = none ∨ u.ownBlock ≠ v'.ownBlock := by
    intro x u hx hu
    rcases hloc with e | e
    · rw [e]; exact h.apart x k u v hx hu hv
    · obtain ⟨u', h1, h2⟩ := h.val x
      obtain rfl := slE_inj h1 hu
      cases hub : u'.ownBlock with
      | none => exact .inl rfl
      | some g =>
        refine .inr fun e' => ?_
        rw [e] at e'
        injection e' with e'
        have := (h2.blk hub).2
        omega
  refine ⟨hm, h.lt, h.isMap.put _ _, fun x => ?_, fun x x' u u' hne hu hu' => ?_, fun x => ?_⟩
  · by_cases hx : x = k
    · subst hx
      rw [hsame, if_pos rfl]
      exact ⟨v', hd, ho.kept hg2 (ownC_ne ho h.lt)⟩
    · rw [hoth x hx, if_neg hx]
      obtain ⟨u, h1, h2⟩ := h.val x
      have h3 := h2.kept hg (h.apart x k u v hx h1 hv)
      exact ⟨u, h1, h3.kept hg2 (ownC_ne h3 h.lt)⟩
  · by_cases hx : x = k
    · subst hx
      rw [hsame] at hu
      rw [hoth x' (Ne.symm hne)] at hu'
      obtain rfl := slE_inj hu hd
      rcases hnew x' u' (Ne.symm hne) hu' with e | e
      · cases hb : u.ownBlock with
        | none => exact .inl rfl
        | some g => exact .inr (by rw [e]; simp)
      · exact .inr (Ne.symm e)
    · rw [hoth x hx] at hu
      by_cases hx' : x' = k
      · subst hx'
        rw [hsame] at hu'
        obtain rfl := slE_inj hu' hd
        exact hnew x u hx hu
      · rw [hoth x' hx'] at hu'
        exact h.apart x x' u u' hne hu hu'
  · by_cases hx : x = k
    · subst hx
      rw [has_put_same h.isMap (keyLit x)]; simp
    · rw [has_put_other (lit_ne hx), h.has x]; simp [hx]

theorem zero_rowP (w : World) : (zeroValue 29).run Tryz.prog w = .ok (.slice none 0 0) w := by kernel_rfl
theorem lookupP_run {w : World} {b n : Nat} {D : DataW Unit} {k : Int} {v : Value} (h : w.ownsMap Tryz.prog 3 slE b n D) (hk : (Lit.int .i64 k).wf = true) (hv : slE v = some (D.atKey (.int .i64 k) .nil, [])) :
    (Instr.lookup 60 (.map (some b)) (.int .i64 k) false).run Tryz.prog w = .ok v w := by
  obtain ⟨u, ps, hr, hu⟩ := h.lookup (int_keyed Tryz.underlying3) Tryz.underlying60 (zero_rowP w) (zd := .nil) (zp := []) rfl (keyOf_int_mk Tryz.underlying3 hk)
  obtain rfl := slE_inj hu hv
  exact hr
theorem updateP_run {w : World} {b n : Nat} {D : DataW Unit} {k : Int} {v : Value} {d : DataW Unit} (h : w.ownsMap Tryz.prog 3 slE b n D) (hn : n < maxLen) (hk : (Lit.int .i64 k).wf = true) (hv : slE v = some (d, [])) :
    ∃ w', (Instr.mapUpdate 60 (.map (some b)) (.int .i64 k) v).run Tryz.prog w = .ok () w' ∧ w'.ownsMap Tryz.prog 3 slE b (n + 1) (D.put (.int .i64 k) d) ∧ w.grownBy w' (some b) :=
  h.update (int_keyed Tryz.underlying3) Tryz.underlying60 hn (keyOf_int_mk Tryz.underlying3 hk) hv
/-- Where the samples of the map's points lie: below block B0, not in the map; no row lies in block bx. -/
structure Mon (w : World) (b B0 B n bx : Nat) (L : Int → List Row) (S : Int → Bool) : Prop where
  map : ∃ D, GMP w b B n D L S ∧ ∀ k v, slE v = some (D.atKey (.int .i64 k) .nil, []) → v.ownBlock ≠ some bx
  low : B0 ≤ B
  rd : ∀ k, ∀ x ∈ L k, Rd w B0 x.2.1 x.2.2 ∧ Nz x.2.1
theorem ownsMap_cell {w : World} {b n : Nat} {D : DataW Unit} (h : w.ownsMap Tryz.prog 3 slE b n D) (t : Nat) : w.cell? ⟨b, t, none⟩ = none := by
  obtain ⟨es, clock, hb, _⟩ := h
  unfold World.cell?
  rw [hb]
theorem Rd.keptM {w w' : World} {B0 B b : Nat} {v : Value} {l : List Smp} (h : Rd w B0 v l) (hc : ∀ t, w.cell? ⟨b, t, none⟩ = none) (hk : ∀ k, k < B → k ≠ b → w'.heap[k]? = w.heap[k]?) (hB : B0 ≤ B) : Rd w' B0 v l := by
  obtain ⟨A, c, rfl, hc0, hA⟩ := h
  refine ⟨A, c, rfl, hc0, hA.imp id fun ⟨g, o, e, hg, hcl⟩ => ⟨g, o, e, hg, fun i hi => ?_⟩⟩
  have hne : g ≠ b := by
    intro e9
    subst e9
    have := (hcl i hi).1
    rw [hc] at this
    cases this
  obtain ⟨q0, q1, q2, q3⟩ := hcl i hi
  have hk2 := fun t => World.cell?_of_block (w := w) (w' := w') (a := ⟨g, t, none⟩) (hk g (Nat.lt_of_lt_of_le hg hB) hne)
  exact ⟨(hk2 _).trans q0, (hk2 _).trans q1, (hk2 _).trans q2, (hk2 _).trans q3⟩
theorem Mon.kept {w w' : World} {b B0 B n bx : Nat} {L : Int → List Row} {S : Int → Bool} (h : Mon w b B0 B n bx L S) (hB : B ≤ w.heap.size) (hg : w.grownBy w' none) : Mon w' b B0 B n bx L S := by
  obtain ⟨⟨D, G, hx⟩, hl, hr⟩ := h
  refine ⟨⟨D, G.kept hg, hx⟩, hl, fun k x hx => ⟨(hr k x hx).1.keptM (B := B) (ownsMap_cell G.map) (fun i hi _ => hg.block i (by omega) (by simp)) hl, (hr k x hx).2⟩⟩
/-- A box that is new. -/
theorem Mon.rebox {w : World} {b B0 B n bx : Nat} {L : Int → List Row} {S : Int → Bool} (h : Mon w b B0 B n bx L S) : Mon w b B0 B n w.heap.size L S := by
  obtain ⟨⟨D, G, hx⟩, hl, hr⟩ := h
  refine ⟨⟨D, G, fun k v hv e => ?_⟩, hl, hr⟩
  obtain ⟨u, h1, h2⟩ := G.val k
  obtain rfl := slE_inj h1 hv
  have := (h2.blk e).2
  omega
/-- The box is written. -/
theorem Mon.set {w w' : World} {b B0 B n bx : Nat} {L : Int → List Row} {S : Int → Bool} (h : Mon w b B0 B n bx L S) (hB : B ≤ bx) (hB2 : B ≤ w.heap.size) (hg : w.grownBy w' (some bx)) : Mon w' b B0 B n bx L S := by
  obtain ⟨⟨D, G, hx⟩, hl, hr⟩ := h
  have hlt := G.lt
  refine ⟨⟨D, ⟨G.map.kept hg (fun e => by injection e with e; omega), G.lt, G.isMap, fun k => ?_, G.apart, G.has⟩, hx⟩, hl, fun k x hx => ⟨(hr k x hx).1.keptM (B := B) (ownsMap_cell G.map) (fun i hi _ => hg.block i (by omega) (fun e => by injection e; omega)) hl, (hr k x hx).2⟩⟩
  obtain ⟨v, h1, h2⟩ := G.val k
  exact ⟨v, h1, h2.kept hg (.inr (hx k v h1))⟩
theorem Mon.made {w w' : World} {b B0 B : Nat} (hb : b = w.heap.size) (hk : (w.alloc (.map #[] 0)).grownBy w' none) (hB : b < B) (h0 : B0 ≤ B) : Mon w' b B0 B 0 b (fun _ => []) (fun _ => false) := by
  subst hb
  have h := (GMP.made w).kept hk
  refine ⟨⟨.map [], ⟨h.map, hB, h.isMap, fun _ => ⟨.slice none 0 0, rfl, OwC.nil _ _ _⟩, h.apart, h.has⟩, fun k v hv e => ?_⟩, h0, fun _ _ hx => absurd hx List.not_mem_nil⟩
  rcases slE_form hv with ⟨rfl, _⟩ | ⟨g, n, c, _, e2⟩
  · cases e
  · have := (Prod.mk.inj e2).1; cases this
/-- One more of points in one month: what a round does. -/
theorem Mon.round {w : World} {b B0 B n bx : Nat} {L : Int → List Row} {S : Int → Bool} (h : Mon w b B0 B n bx L S) (hB : B ≤ w.heap.size) (hbx : bx < w.heap.size) {k : Int} (hw : (Lit.int .i64 k).wf = true) (hn : n < 1000000000) :
    ∃ v, OwC w B 48 v (L k) ∧ v.ownBlock ≠ some bx ∧
      (∀ w', w.grownBy w' none → (Instr.lookup 60 (.map (some b)) (.int .i64 k) false).run Tryz.prog w' = .ok v w') ∧
      ∀ w' w1 v' y, w.grownBy w' none → w'.grownBy w1 v.ownBlock → OwC w1 B 48 v' (L k ++ [y]) → (v'.ownBlock = v.ownBlock ∨ v'.ownBlock = some w'.heap.size) → Rd w B0 y.2.1 y.2.2 → Nz y.2.1 →
        ∃ w2, (Instr.mapUpdate 60 (.map (some b)) (.int .i64 k) v').run Tryz.prog w1 = .ok () w2 ∧ Mon w2 b B0 B (n + 1) bx (fun x => if x = k then L k ++ [y] else L x) (fun x => decide (x = k) || S x) ∧ w1.grownBy w2 (some b) := by
  obtain ⟨⟨D, G, hxx⟩, hl, hr⟩ := h
  obtain ⟨v, hv, ho⟩ := G.val k
  have hob : v.ownBlock = none ∨ v.ownBlock ≠ some b := ownC_ne ho G.lt
  have hnb : some b ≠ v.ownBlock := by
    intro e
    rcases hob with h | h
    · rw [h] at e; cases e
    · exact h e.symm
  refine ⟨v, ho, hxx k v hv, fun w' hg => lookupP_run (G.map.kept hg (by simp)) hw hv, fun w' w1 v' y hg hg1 ho1 hloc hy hz => ?_⟩
  have G' := G.kept hg
  obtain ⟨d, hd⟩ := ho1.slE
  have hm1 : w1.ownsMap Tryz.prog 3 slE b n D := G'.map.kept hg1 hnb
  obtain ⟨w2, hr2, hm2, hg2⟩ := updateP_run hm1 (by unfold maxLen; omega) hw hd
  have hkk : ∀ i, i < B → i ≠ b → w2.heap[i]? = w.heap[i]? := fun i hi hib => by
    have h1 : w'.heap[i]? = w.heap[i]? := hg.block i (by omega) (by simp)
    have h2 : w1.heap[i]? = w'.heap[i]? := hg1.block i (by have := hg.size; omega) (fun e => by have := (ho.blk e.symm).1; omega)
    have h3 : w2.heap[i]? = w1.heap[i]? := hg2.block i (by have := hg.size; have := hg1.size; omega) (fun e => hib (by injection e))
    exact h3.trans (h2.trans h1)
  have hvx : v'.ownBlock ≠ some bx := by
    rcases hloc with e | e
    · rw [e]; exact hxx k v hv
    · rw [e]
      intro e9
      injection e9 with e9
      have := hg.size
      omega
  refine ⟨w2, hr2, ⟨⟨_, G'.step hv hg1 ho1 hloc hd hm2 hg2, fun x u hu => ?_⟩, hl, fun x u hu => ?_⟩, hg2⟩
  · by_cases hx : x = k
    · subst hx
      rw [atKey_put_same G'.isMap (keyLit x)] at hu
      obtain rfl := slE_inj hu hd
      exact hvx
    · rw [atKey_put_other (lit_ne hx)] at hu
      exact hxx x u hu
  · have key : Rd w B0 u.2.1 u.2.2 ∧ Nz u.2.1 := by
      by_cases hx : x = k
      · rw [if_pos hx] at hu
        rcases List.mem_append.1 hu with hu | hu
        · exact hr k u hu
        · rw [List.mem_singleton] at hu; subst hu; exact ⟨hy, hz⟩
      · rw [if_neg hx] at hu
        exact hr x u hu
    exact ⟨key.1.keptM (ownsMap_cell G.map) hkk hl, key.2⟩
/-- What one key reads as. -/
theorem Mon.at {w : World} {b B0 B n bx : Nat} {L : Int → List Row} {S : Int → Bool} (h : Mon w b B0 B n bx L S) (hB : B0 ≤ w.heap.size) {k : Int} (hw : (Lit.int .i64 k).wf = true) :
    ∃ v, (∀ w', w.grownBy w' none → (Instr.lookup 60 (.map (some b)) (.int .i64 k) false).run Tryz.prog w' = .ok v w') ∧ RdP w w.heap.size v (cut (L k)) ∧ Nz v := by
  obtain ⟨⟨D, G, hxx⟩, hl, hr⟩ := h
  obtain ⟨v, hv, ho⟩ := G.val k
  refine ⟨v, fun w' hg => lookupP_run (G.map.kept hg (by simp)) hw hv, ?_, ?_⟩
  · have hlen : (cut (L k)).length = (L k).length := by simp [cut]
    rcases ho.2 with ⟨rfl, hn⟩ | ⟨g, cap, cur, rfl, hb, hc, h1, h2, h3, h4⟩
    · have : L k = [] := List.eq_nil_of_length_eq_zero hn
      rw [this]
      exact ⟨none, 0, rfl, Nat.zero_le _, .inl rfl⟩
    · refine ⟨some ⟨g, 0, none⟩, cap, by rw [hlen], by rw [hlen]; exact h1, .inr ⟨g, 0, rfl, (Array.getElem?_eq_some_iff.1 hc).1, fun i hi => ?_⟩⟩
      have hi' : i < (L k).length := by rw [← hlen]; exact hi
      obtain ⟨q1, q2⟩ := hr k (L k)[i] (List.getElem_mem hi')
      have hcell : ∀ t (ht : t < 2), w.cell? ⟨g, i * 2 + t, none⟩ = (ptC (L k)[i])[t]? := by
        intro t ht
        have e1 : w.cell? ⟨g, i * 2 + t, none⟩ = cur[i * 2 + t]? := by simp [World.cell?, hc]
        have e2 : (cur.toList.take ((L k).length * 2))[i * 2 + t]? = cur[i * 2 + t]? := by rw [List.getElem?_take_of_lt (by omega)]; simp
        rw [e1, ← e2, h4]
        exact flat2 (L k) i t hi' ht
      have e0 := hcell 0 (by omega)
      have e1 := hcell 1 (by omega)
      have hci : (cut (L k))[i] = ((L k)[i].1, (L k)[i].2.2) := by simp [cut]
      rw [hci]
      exact ⟨by rw [Nat.zero_add]; exact e0, (L k)[i].2.1, by rw [Nat.zero_add]; exact e1, q1.mono hB, q2⟩
  · intro n c e
    rcases ho.2 with ⟨h1, _⟩ | ⟨g, cap, cur, h1, _⟩
    · rw [h1] at e; injection e with _ _ h; exact h.symm
    · rw [h1] at e; injection e with h; cases h
end Go.Proofs.YtkcipfmbkokfdaaGreatDoor
