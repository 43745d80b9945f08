/-
  A map whose elements are rows of samples that the call made itself: no two keys' rows in one block.
-/
import Derived.Test.YtkcipfmbkokfdaaGreatDoorRovk
import Derived.Maps.OwnOps
import Derived.Maps.OwnSet
import Derived.Maps.Views
import Derived.Test.YtkcipfmbkokfdaaGreatDoorQpk
import Derived.Deep.AppendLies
namespace Go.Proofs.YtkcipfmbkokfdaaGreatDoor
open Go.RowKit Go.Sort Go.Maps

/-- A slice as a datum: where it points. -/
def slE : Value → Option (DataW Unit × List MemPlace)
  | .slice none 0 0 => some (.nil, [])
  | .slice (some ⟨g, 0, none⟩) n c => some (.agg [.lit (.int .i64 g), .lit (.int .i64 n), .lit (.int .i64 c)], [])
  | _ => none
theorem slE_form {v : Value} {y : DataW Unit × List MemPlace} (h : slE v = some y) : (v = .slice none 0 0 ∧ y = (.nil, [])) ∨ ∃ g n c : Nat, v = .slice (some ⟨g, 0, none⟩) n c ∧ y = (.agg [.lit (.int .i64 g), .lit (.int .i64 n), .lit (.int .i64 c)], []) := by
  unfold slE at h
  split at h
  · exact .inl ⟨rfl, (Option.some.inj h).symm⟩
  · exact .inr ⟨_, _, _, rfl, (Option.some.inj h).symm⟩
  · cases h
theorem slE_inj {v v' : Value} {d : DataW Unit} {p p' : List MemPlace} (h : slE v = some (d, p)) (h' : slE v' = some (d, p')) : v = v' := by
  rcases slE_form h with ⟨rfl, e⟩ | ⟨g, n, c, rfl, e⟩ <;> rcases slE_form h' with ⟨rfl, e'⟩ | ⟨g', n', c', rfl, e'⟩
  · rfl
  · have e1 := (Prod.mk.inj e).1
    have e2 := (Prod.mk.inj e').1
    rw [e1] at e2; cases e2
  · have e1 := (Prod.mk.inj e).1
    have e2 := (Prod.mk.inj e').1
    rw [e1] at e2; cases e2
  · have e1 := (Prod.mk.inj e).1
    have e2 := (Prod.mk.inj e').1
    rw [e1] at e2
    simp at e2
    obtain ⟨r1, r2, r3⟩ := e2
    obtain rfl : g = g' := by omega
    obtain rfl : n = n' := by omega
    obtain rfl : c = c' := by omega
    rfl
theorem Own.slE {w : World} {B e : Nat} {v : Value} {l : List Smp} (h : Own w B e v l) : ∃ d, slE v = some (d, []) := by
  rcases h.2 with ⟨rfl, _⟩ | ⟨g, cap, cur, rfl, _⟩
  · exact ⟨_, rfl⟩
  · exact ⟨_, rfl⟩

/-- Block b is such a map: L: what each key's row holds; S: which keys are there. -/
structure GM (w : World) (b B n : Nat) (D : DataW Unit) (L : Int → List Smp) (S : Int → Bool) : Prop where
  map : w.ownsMap Tryz.prog 3 slE b n D
  lt : b < B
  isMap : IsMap D
  val : ∀ k, ∃ v, slE v = some (D.atKey (.int .i64 k) .nil, []) ∧ Own w B 52 v (L k)
  apart : ∀ k k' v v', k ≠ k' → slE v = some (D.atKey (.int .i64 k) .nil, []) → slE v' = some (D.atKey (.int .i64 k') .nil, []) → v.ownBlock = none ∨ v.ownBlock ≠ v'.ownBlock
  has : ∀ k, Maps.has D (.int .i64 k) = S k
theorem lit_ne {k k' : Int} (h : k ≠ k') : (Lit.int .i64 k) ≠ Lit.int .i64 k' := fun e => h (by injection e)
theorem keyLit (k : Int) : WideAt.IsKeyLit (.int .i64 k) := trivial
theorem GM.made (w : World) : GM (w.alloc (.map #[] 0)) w.heap.size (w.heap.size + 1) 0 (.map []) (fun _ => []) (fun _ => false) :=
  ⟨World.ownsMap_made w _ _ _, Nat.lt_succ_self _, isMap_empty, fun _ => ⟨.slice none 0 0, rfl, Own.nil _ _ _⟩,
    fun k k' v v' _ h _ => .inl (by
      rcases slE_form h with ⟨rfl, _⟩ | ⟨g, n, c, _, e⟩
      · rfl
      · have := (Prod.mk.inj e).1; cases this), fun _ => rfl⟩
theorem own_ne {w : World} {B e b : Nat} {v : Value} {l : List Smp} (h : Own w B e v l) (hb : b < B) : v.ownBlock = none ∨ v.ownBlock ≠ some b := by
  cases hv : v.ownBlock with
  | none => exact .inl rfl
  | some g =>
    refine .inr fun e => ?_
    have := (h.blk hv).1
    injection e with e
    omega
/-- Other blocks are written, new ones made. -/
theorem GM.kept {w w' : World} {b B n : Nat} {D : DataW Unit} {L : Int → List Smp} {S : Int → Bool} (h : GM w b B n D L S) (hg : w.grownBy w' none) : GM w' b B n D L S := by
  refine ⟨h.map.kept hg (by simp), h.lt, h.isMap, fun x => ?_, h.apart, h.has⟩
  obtain ⟨v, h1, h2⟩ := h.val x
  refine ⟨v, h1, h2.kept hg ?_⟩
  cases v.ownBlock with
  | none => exact .inl rfl
  | some g => exact .inr (by simp)
/-- One key's row is longer, and stored. -/
theorem GM.step {w w1 w2 : World} {b B n : Nat} {D : DataW Unit} {L : Int → List Smp} {S : Int → Bool} (h : GM w b B n D L S) {k : Int} {v v' : Value} {s : List Smp} {d : DataW Unit} (hv : slE v = some (D.atKey (.int .i64 k) .nil, []))
    (hg : w.grownBy w1 v.ownBlock) (ho : Own w1 B 52 v' (L k ++ s)) (hloc : v'.ownBlock = v.ownBlock ∨ v'.ownBlock = some w.heap.size) (hd : slE v' = some (d, [])) (hm : w2.ownsMap Tryz.prog 3 slE b (n + 1) (D.put (.int .i64 k) d)) (hg2 : w1.grownBy w2 (some b)) :
    GM w2 b B (n + 1) (D.put (.int .i64 k) d) (fun x => if x = k then L k ++ s else L x) (fun x => decide (x = k) || S x) := by
  have hsame : (D.put (.int .i64 k) d).atKey (.int .i64 k) .nil = d := atKey_put_same h.isMap (keyLit k) _ _
  have hoth : ∀ x, x ≠ k → (D.put (.int .i64 k) d).atKey (.int .i64 x) .nil = D.atKey (.int .i64 x) .nil := fun x hx => atKey_put_other (lit_ne hx) _ _
  have hnew : ∀ x u, x ≠ k → slE u = some (D.atKey (.int .i64 x) .nil, []) → u.ownBlock = none ∨ u.ownBlock ≠ v'.ownBlock := by
    intro x u hx hu
    rcases hloc with e | e
    · rw [e]; exact h.apart x k u v hx hu hv
    · obtain ⟨u', h1, h2⟩ := h.val x
      obtain rfl := slE_inj h1 hu
      cases hub : u'.ownBlock with
      | none => exact .inl rfl
      | some g =>
        refine .inr fun e' => ?_
        rw [e] at e'
        injection e' with e'
        have := (h2.blk hub).2
        omega
  refine ⟨hm, h.lt, h.isMap.put _ _, fun x => ?_, fun x x' u u' hne hu hu' => ?_, fun x => ?_⟩
  · by_cases hx : x = k
    · subst hx
      rw [hsame, if_pos rfl]
      exact ⟨v', hd, ho.kept hg2 (own_ne ho h.lt)⟩
    · rw [hoth x hx, if_neg hx]
      obtain ⟨u, h1, h2⟩ := h.val x
      have h3 := h2.kept hg (h.apart x k u v hx h1 hv)
      exact ⟨u, h1, h3.kept hg2 (own_ne h3 h.lt)⟩
  · by_cases hx : x = k
    · subst hx
      rw [hsame] at hu
      rw [hoth x' (Ne.symm hne)] at hu'
      obtain rfl := slE_inj hu hd
      rcases hnew x' u' (Ne.symm hne) hu' with e | e
      · cases hb : u.ownBlock with
        | none => exact .inl rfl
        | some g => exact .inr (by rw [e]; simp)
      · exact .inr (Ne.symm e)
    · rw [hoth x hx] at hu
      by_cases hx' : x' = k
      · subst hx'
        rw [hsame] at hu'
        obtain rfl := slE_inj hu' hd
        exact hnew x u hx hu
      · rw [hoth x' hx'] at hu'
        exact h.apart x x' u u' hne hu hu'
  · by_cases hx : x = k
    · subst hx
      rw [has_put_same h.isMap (keyLit x)]; simp
    · rw [has_put_other (lit_ne hx), h.has x]; simp [hx]
end Go.Proofs.YtkcipfmbkokfdaaGreatDoor

/-
  The laws of one round of gather: the look-up, the append of a row, the store, at the steps of a region that draws its order.
-/
namespace Go.Proofs.YtkcipfmbkokfdaaGreatDoor
open Go.RowKit Go.Sort Go.Maps

theorem zero_rowS (w : World) : (zeroValue 40).run Tryz.prog w = .ok (.slice none 0 0) w := by kernel_rfl
theorem lookup_run {w : World} {b n : Nat} {D : DataW Unit} {k : Int} {v : Value} (h : w.ownsMap Tryz.prog 3 slE b n D) (hk : (Lit.int .i64 k).wf = true) (hv : slE v = some (D.atKey (.int .i64 k) .nil, [])) :
    (Instr.lookup 69 (.map (some b)) (.int .i64 k) false).run Tryz.prog w = .ok v w := by
  obtain ⟨u, ps, hr, hu⟩ := h.lookup (int_keyed Tryz.underlying3) Tryz.underlying69 (zero_rowS w) (zd := .nil) (zp := []) rfl (keyOf_int_mk Tryz.underlying3 hk)
  obtain rfl := slE_inj hu hv
  exact hr
theorem update_run {w : World} {b n : Nat} {D : DataW Unit} {k : Int} {v : Value} {d : DataW Unit} (h : w.ownsMap Tryz.prog 3 slE b n D) (hn : n < maxLen) (hk : (Lit.int .i64 k).wf = true) (hv : slE v = some (d, [])) :
    ∃ w', (Instr.mapUpdate 69 (.map (some b)) (.int .i64 k) v).run Tryz.prog w = .ok () w' ∧ w'.ownsMap Tryz.prog 3 slE b (n + 1) (D.put (.int .i64 k) d) ∧ w.grownBy w' (some b) :=
  h.update (int_keyed Tryz.underlying3) Tryz.underlying69 hn (keyOf_int_mk Tryz.underlying3 hk) hv
theorem wpo_appN {P : Program} {w : World} {o : Oper} {a : Act} {K : Act → World → Prop} {Q : Exit → Act → World → Prop} (s x : Operand) (t e : TypeId)
    (ho : o.op = .call { callee := .builtin .append, args := #[s, x], argTypes := #[t, t] }) (ht : P.underlying t = some (.slice e))
    (hinf : (P.info? e).map (fun i => (i.zero, i.size, i.bytes)) = some (some (.agg #[.int .i64 0, .int .i64 0, .int .i64 0, .int .i64 0]), 4, 32))
    (base : Nat) (v : Value) (l : List Smp) (xv : Value) (l2 : List Smp) (B : Nat) (hs : a.eval s = v) (hown : Own w base e v l) (hx : a.eval x = xv) (hR : Rd w B xv l2) (hz : Nz xv)
    (hl : (l.length + l2.length) * 32 ≤ 140737488355328) (hbase : base ≤ w.heap.size)
    (h : ∀ v' w', Own w' base e v' (l ++ l2) → w.grownBy w' v.ownBlock → (v'.ownBlock = v.ownBlock ∨ v'.ownBlock = some w.heap.size) → K (a.put o.dst v') w') :
    o.wp P a w K Q := by
  obtain ⟨i, hi, hz1, hsz, hby⟩ := of_info hinf
  obtain ⟨A, c, rfl, hc, hA⟩ := hR
  cases A with
  | none =>
    have hc0 := hz _ _ rfl
    subst hc0
    have hl2 : l2 = [] := List.eq_nil_of_length_eq_zero (by omega)
    subst hl2
    have hrun := run_append_owned_none (P := P) (w := w) base t o.type e i 4 ht hi v l.length (flatS l) hown
    unfold Oper.wp
    simp [execOp, ho, resolve, invoke, builtin, hs, hx, hrun, Result.andThen]
    exact h v w (by rw [List.append_nil]; exact hown) ⟨rfl, rfl, rfl, Nat.le_refl _, fun _ _ _ => rfl⟩ (.inl rfl)
  | some ad =>
    have hcells : ∀ j u, (flatS l2)[j]? = some u → w.cell? (ad.add j) = some u := by
      rcases hA with rfl | ⟨b, o, h1, _, hcl⟩
      · intro j u hu; simp [flatS] at hu
      · injection h1 with h1; subst h1; exact flatS_cells hcl
    obtain ⟨v', w', hr, h2, h3, _, h5⟩ := run_append_own_at (P := P) w base t o.type e i _ 4 32 ht hi hz1 hsz hby rfl (by decide) v l.length (flatS l) hown ad l2.length c (flatS l2) (flatS_length l2) hcells (flatS_one' l2) (by unfold maxLen; omega) hl hbase
    unfold Oper.wp execOp
    simp only [ho, resolve, invoke, builtin, Sem.run_bind, Sem.run_pure, Result.andThen_ok, List.map_toArray, List.map_cons, List.map_nil, hs, hx, hr]
    refine h v' w' ?_ h3 h5
    unfold Own
    rw [flatS_append, List.length_append]
    exact h2
theorem step_appN {P : Program} {w : World} {ops : Array Oper} {o : Oper} {a : Act} {K : Act → World → Prop} {Q : Exit → Act → World → Prop} {E : Prop} (hgd : o.guard = none) (s x : Operand) (t e : TypeId)
    (ho : o.op = .call { callee := .builtin .append, args := #[s, x], argTypes := #[t, t] }) (ht : P.underlying t = some (.slice e))
    (hinf : (P.info? e).map (fun i => (i.zero, i.size, i.bytes)) = some (some (.agg #[.int .i64 0, .int .i64 0, .int .i64 0, .int .i64 0]), 4, 32))
    (base : Nat) (v : Value) (l : List Smp) (xv : Value) (l2 : List Smp) (B : Nat) (hs : a.eval s = v) (hown : Own w base e v l) (hx : a.eval x = xv) (hR : Rd w B xv l2) (hz : Nz xv)
    (hl : (l.length + l2.length) * 32 ≤ 140737488355328) (hbase : base ≤ w.heap.size)
    (h : ∀ v' w', Own w' base e v' (l ++ l2) → w.grownBy w' v.ownBlock → (v'.ownBlock = v.ownBlock ∨ v'.ownBlock = some w.heap.size) → K (a.put o.dst v') w') :
    if Region.wanted o (yielded ops a.tmps) = true then o.wp P a w K Q else E := by
  have hw : Region.wanted o (yielded ops a.tmps) = true := by simp [Region.wanted, hgd]
  rw [if_pos hw]
  exact wpo_appN s x t e ho ht hinf base v l xv l2 B hs hown hx hR hz hl hbase h
/-- The samples of a number. -/
def ofL (l : List Pts) (k : Int) : List Smp := (l.filter (fun p => p.1 == k)).flatMap (fun p => p.2)
def hasL (l : List Pts) (k : Int) : Bool := l.any (fun p => p.1 == k)
theorem ofL_snoc (l : List Pts) (p : Pts) (k : Int) : ofL (l ++ [p]) k = if k = p.1 then ofL l p.1 ++ p.2 else ofL l k := by
  unfold ofL
  rw [List.filter_append, List.flatMap_append]
  by_cases h : k = p.1
  · subst h
    rw [if_pos rfl]; simp
  · rw [if_neg h]
    have : (p.1 == k) = false := by rw [beq_eq_false_iff_ne]; exact fun e => h e.symm
    simp [this]
theorem hasL_snoc (l : List Pts) (p : Pts) (k : Int) : hasL (l ++ [p]) k = (decide (k = p.1) || hasL l k) := by
  unfold hasL
  rw [List.any_append]
  have : (p.1 == k) = decide (k = p.1) := by
    by_cases h : k = p.1
    · rw [decide_eq_true h, beq_iff_eq]; exact h.symm
    · rw [decide_eq_false h, beq_eq_false_iff_ne]; exact fun e => h e.symm
  simp [this, Bool.or_comm]
/-- A row of rows of points. -/
def RdR (w : World) (B : Nat) (v : Value) (ll : List (List Pts)) : Prop :=
  ∃ A c, v = .slice A ll.length c ∧ ll.length ≤ c ∧ (ll = [] ∨ ∃ b o, A = some ⟨b, o, none⟩ ∧ b < B ∧ ∀ i (h : i < ll.length), ∃ sv, w.cell? ⟨b, o + i, none⟩ = some sv ∧ RdP w B sv ll[i])
/-- Gathered: the map of the samples of each number. -/
def Gath (w : World) (b : Nat) (l : List Pts) : Prop := ∃ n D, n ≤ l.length ∧ GM w b (b + 1) n D (ofL l) (hasL l)
theorem Gath.made (w : World) : Gath (w.alloc (.map #[] 0)) w.heap.size [] := ⟨0, .map [], Nat.le_refl _, GM.made w⟩
theorem Gath.kept {w w' : World} {b : Nat} {l : List Pts} (h : Gath w b l) (hg : w.grownBy w' none) : Gath w' b l := by
  obtain ⟨n, D, hn, h⟩ := h
  exact ⟨n, D, hn, h.kept hg⟩
/-- One more: what a round does. -/
theorem Gath.round {w : World} {b : Nat} {l : List Pts} {p : Pts} (h : Gath w b l) (hw : (Lit.int .i64 p.1).wf = true) (hl : l.length < 1000000000) :
    ∃ v, Own w (b + 1) 52 v (ofL l p.1) ∧
      (∀ w', w.grownBy w' none → (Instr.lookup 69 (.map (some b)) (.int .i64 p.1) false).run Tryz.prog w' = .ok v w') ∧
      (∀ w' w1, w.grownBy w' none → w'.grownBy w1 v.ownBlock → (Instr.lookup 69 (.map (some b)) (.int .i64 p.1) false).run Tryz.prog w1 = .ok v w1) ∧
      ∀ w' w1 v', w.grownBy w' none → w'.grownBy w1 v.ownBlock → Own w1 (b + 1) 52 v' (ofL l p.1 ++ p.2) → (v'.ownBlock = v.ownBlock ∨ v'.ownBlock = some w'.heap.size) →
        ∃ w2, (Instr.mapUpdate 69 (.map (some b)) (.int .i64 p.1) v').run Tryz.prog w1 = .ok () w2 ∧ Gath w2 b (l ++ [p]) ∧ w1.grownBy w2 (some b) := by
  obtain ⟨n, D, hn, G⟩ := h
  obtain ⟨v, hv, ho⟩ := G.val p.1
  have hob : v.ownBlock = none ∨ v.ownBlock ≠ some b := own_ne ho (Nat.lt_succ_self b)
  have hnb : some b ≠ v.ownBlock := by
    intro e
    rcases hob with h | h
    · rw [h] at e; cases e
    · exact h e.symm
  refine ⟨v, ho, fun w' hg => lookup_run (G.map.kept hg (by simp)) hw hv, fun w' w1 hg hg1 => lookup_run ((G.kept hg).map.kept hg1 hnb) hw hv, fun w' w1 v' hg hg1 ho1 hloc => ?_⟩
  have G' := G.kept hg
  obtain ⟨d, hd⟩ := ho1.slE
  have hm1 : w1.ownsMap Tryz.prog 3 slE b n D := G'.map.kept hg1 hnb
  obtain ⟨w2, hr, hm2, hg2⟩ := update_run hm1 (by unfold maxLen; omega) hw hd
  refine ⟨w2, hr, ⟨n + 1, D.put (.int .i64 p.1) d, (by rw [List.length_append]; simp; exact hn), ?_⟩, hg2⟩
  have := G'.step hv hg1 ho1 hloc hd hm2 hg2
  have e1 : (fun x => if x = p.1 then ofL l p.1 ++ p.2 else ofL l x) = ofL (l ++ [p]) := by funext x; rw [ofL_snoc]
  have e2 : (fun x => decide (x = p.1) || hasL l x) = hasL (l ++ [p]) := by funext x; rw [hasL_snoc]
  rw [e1, e2] at this
  exact this
end Go.Proofs.YtkcipfmbkokfdaaGreatDoor
