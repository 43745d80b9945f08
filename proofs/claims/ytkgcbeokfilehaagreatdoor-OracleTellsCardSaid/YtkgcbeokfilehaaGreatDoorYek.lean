/-
  OracleTells in plain words: what is told, sample by sample; a part of a row; filters with one more.
-/
import Derived.Test.YtkgcbeokfilehaaGreatDoorXsk
import Derived.Test.YtkgcbeokfilehaaGreatDoorVpk
import Derived.Test.YtkgcbeokfilehaaGreatDoorRgk
import Derived.Test.YtkgcbeokfilehaaGreatDoorGnk
import Derived.Test.YtkgcbeokfilehaaGreatDoorVik
namespace Go.Proofs.YtkgcbeokfilehaaGreatDoor
open Go.RowKit Go.Sort Go.Maps
theorem told_at {d keep now f t : Int} {fs : List Fil} {R : Told} {x : Lbs × List Smp} (h : x ∈ tellS d (fromS f now keep) t fs R) :
    allF fs x.1 = true ∧ x.2 ≠ [] ∧ ∀ k (hk : k < x.2.length), (f ≤ x.2[k].1 ∧ x.2[k].1 ≤ t ∧ now - keep < x.2[k].1) ∧ ∀ j (hj : j < x.2.length), j < k → x.2[j].1 < x.2[k].1 := by
  obtain ⟨h1, h2, h3, h4⟩ := tell_asked h
  refine ⟨h1, h2, fun k hk => ⟨?_, fun j hj hjk => ?_⟩⟩
  · have h5 := h3 x.2[k] (List.getElem_mem hk)
    unfold fromS at h5
    omega
  · have h5 := List.pairwise_iff_getElem.1 h4 j k hj hk hjk
    apply Classical.byContradiction
    intro hn
    have := ivl_mono d (show x.2[k].1 ≤ x.2[j].1 by omega)
    omega
/-- Of those that are as p asks, the one at i. -/
theorem part_at {α : Type} (p : α → Bool) : ∀ (l : List α) (i : Nat) (hi : i < l.length), p l[i] = true → ∃ h : (l.take i).countP p < (l.filter p).length, (l.filter p)[(l.take i).countP p] = l[i]
  | a :: l, 0, _, hp => by
    have hp : p a = true := hp
    simp [hp]
  | a :: l, i + 1, hi, hp => by
    have hi' : i < l.length := by simpa using hi
    obtain ⟨h1, h2⟩ := part_at p l i hi' hp
    cases ha : p a with
    | true => simp [ha, h1, h2]
    | false => simp [ha, h1, h2]
theorem count_take {α : Type} (p : α → Bool) {l : List α} {i : Nat} (hi : i < l.length) : (l.take (i + 1)).countP p = (l.take i).countP p + if p l[i] = true then 1 else 0 := by
  rw [List.take_succ_eq_append_getElem hi, List.countP_append, List.countP_singleton]
theorem check_more {fs : List Fil} {m : Fil} (h : checkF fs = 0) (h3 : fs.length ≤ 3) : checkF (fs ++ [m]) = checkF [m] := by
  have h4 : ¬ 4 < (fs ++ [m]).length := by rw [List.length_append, List.length_singleton]; omega
  have h5 : ¬ 4 < fs.length := by omega
  unfold checkF at h ⊢
  rw [if_neg h4]
  rw [if_neg h5] at h
  rw [if_neg (show ¬ 4 < [m].length by simp)]
  by_cases hf : (fs.all fun f => nameOk f.name && decide (f.value.length ≤ 16)) = true
  · rw [List.all_append, hf, Bool.true_and]
  · rw [if_neg hf] at h; omega
/-- One of a row of series, alone. -/
theorem RdX.one {w : World} {B b o n c c' i : Nat} {l : List Ser} (h : RdX w B (.slice (some ⟨b, o, none⟩) n c) l) (hi : i < l.length) (hc : 1 ≤ c') : RdX w B (.slice (some ⟨b, o + i * 2, none⟩) 1 c') [l[i]] := by
  obtain ⟨A, c2, e, _, hA⟩ := h
  injection e with e1 e2 e3
  rcases hA with rfl | ⟨b', o', e', hb, hcl⟩
  · simp at hi
  · subst e1
    injection e' with e'
    injection e' with e4 e5
    subst e4 e5
    refine ⟨_, c', rfl, hc, .inr ⟨_, _, rfl, hb, fun j hj => ?_⟩⟩
    have : j = 0 := by simp at hj; exact hj
    subst this
    simpa using hcl i hi
/-- A filter's cells. -/
def EF : Enc Fil := ⟨4, encF, fun _ => rfl, fun x u hu => by simp [encF] at hu; rcases hu with rfl | rfl | rfl | rfl <;> rfl, by decide⟩
theorem cellF {w : World} {b o : Nat} {x : Fil} : CellG EF w b o x ↔ FilAt w b o x := by
  constructor
  · intro h
    have q0 := h 0 (by decide)
    have q1 := h 1 (by decide)
    have q2 := h 2 (by decide)
    have q3 := h 3 (by decide)
    exact ⟨by simpa [EF, encF] using q0, by simpa [EF, encF] using q1, by simpa [EF, encF] using q2, by simpa [EF, encF] using q3⟩
  · rintro ⟨h0, h1, h2, h3⟩ j hj
    match j, hj with
    | 0, _ => simpa [EF, encF] using h0
    | 1, _ => simpa [EF, encF] using h1
    | 2, _ => simpa [EF, encF] using h2
    | 3, _ => simpa [EF, encF] using h3
theorem RdG.toF {w : World} {B : Nat} {v : Value} {l : List Fil} (h : RdG EF w B v l) : RdF w B v l := by
  obtain ⟨A, c, h1, h2, _, h3⟩ := h
  exact ⟨A, c, h1, h2, h3.imp id fun ⟨b, o, e, hb, hc⟩ => ⟨b, o, e, hb, fun i hi => cellF.1 (hc i hi)⟩⟩
theorem RdF.toG {w : World} {B : Nat} {v : Value} {l : List Fil} (h : RdF w B v l) (hz : Nz v) : RdG EF w B v l := by
  obtain ⟨A, c, h1, h2, h3⟩ := h
  exact ⟨A, c, h1, h2, fun e => hz _ _ (by rw [h1, e]), h3.imp id fun ⟨b, o, e, hb, hc⟩ => ⟨b, o, e, hb, fun i hi => cellF.2 (hc i hi)⟩⟩
theorem info_Fil : (Tryz.prog.info? 61).map (fun i => (i.zero, i.size, i.bytes)) = some (some (.agg #[.string ⟨#[]⟩, .string ⟨#[]⟩, .bool false, .bool false]), 4, 40) := by kernel_rfl
section
variable {α : Type} {P : Program} {w : World} {o : Oper} {a : Act} {K : Act → World → Prop} {Q : Exit → Act → World → Prop}
/-- append of a row, as an operation alone. -/
theorem addNG (E : Enc α) (s x : Operand) (t e : TypeId) {z : Value} {bytes : Nat}
    (ho : o.op = .call { callee := .builtin .append, args := #[s, x], argTypes := #[t, t] }) (ht : P.underlying t = some (.slice e))
    (hinf : (P.info? e).map (fun i => (i.zero, i.size, i.bytes)) = some (some z, E.k, bytes)) (hz : z.cells.size = E.k) (hb : 0 < bytes)
    (base : Nat) (v : Value) (l : List α) (xv : Value) (l2 : List α) (B : Nat) (hs : a.eval s = v) (hown : OwnG E e w base v l) (hx : a.eval x = xv) (hR : RdG E w B xv l2)
    (hl : (l.length + l2.length) * bytes ≤ 140737488355328) (hbase : base ≤ w.heap.size)
    (h : ∀ v' w', OwnG E e w' base v' (l ++ l2) → w.grownBy w' v.ownBlock → K (a.put o.dst v') w') : o.wp P a w K Q := by
  obtain ⟨i, hi, hz1, hsz, hby⟩ := of_infoG hinf
  obtain ⟨A, c, rfl, hc, hn0, hA⟩ := hR
  cases A with
  | none =>
    have hc0 := hn0 rfl
    subst hc0
    have hl2 : l2 = [] := List.eq_nil_of_length_eq_zero (by omega)
    subst hl2
    have hrun := run_append_owned_none (P := P) (w := w) base t o.type e i E.k ht hi v l.length (E.flat l) hown
    unfold Oper.wp execOp
    simp only [ho, resolve, invoke, builtin, Sem.run_bind, Sem.run_pure, Result.andThen_ok, List.map_toArray, List.map_cons, List.map_nil, hs, hx, List.length_nil, hrun]
    exact h v w (by rw [List.append_nil]; exact hown) ⟨rfl, rfl, rfl, Nat.le_refl _, fun _ _ _ => rfl⟩
  | some ad =>
    have hcells : ∀ j u, (E.flat l2)[j]? = some u → w.cell? (ad.add j) = some u := by
      rcases hA with rfl | ⟨b, o, h1, _, hcl⟩
      · intro j u hu; simp [Enc.flat] at hu
      · injection h1 with h1; subst h1; exact cells_news hcl
    have hm : l.length + l2.length ≤ maxLen := by
      have := Nat.le_mul_of_pos_right (l.length + l2.length) hb
      have e : maxLen = 9223372036854775807 := rfl
      omega
    obtain ⟨v', w', hr, h2, h3, _, _⟩ := run_append_own_at (P := P) w base t o.type e i _ E.k bytes ht hi hz1 hsz hby hz E.pos v l.length (E.flat l) hown ad l2.length c (E.flat l2) (E.flat_len l2) hcells (E.flat_cell l2) hm hl hbase
    unfold Oper.wp execOp
    simp only [ho, resolve, invoke, builtin, Sem.run_bind, Sem.run_pure, Result.andThen_ok, List.map_toArray, List.map_cons, List.map_nil, hs, hx, hr]
    refine h v' w' ?_ h3
    unfold OwnG
    rw [E.flat_app, List.length_append]
    exact h2
end
/-- What several ways come to, shown once. -/
theorem share5 {P : Prop} {G : Value → Value → Value → Value → World → Prop} (Pre : Value → Value → Value → Value → World → Prop) (main : (∀ a b c d w, Pre a b c d w → G a b c d w) → P) (pf : ∀ a b c d w, Pre a b c d w → G a b c d w) : P := main pf
theorem cellG_block {α : Type} {E : Enc α} {w : World} {b : Nat} {x : α} {cs : Array Value} {t : TypeId} (h : w.heap[b]? = some (.cells cs t (0, 0))) (e : cs.toList = E.enc x) : CellG E w b 0 x := fun j _ => by
  simp [World.cell?, h, ← e]
theorem RdG.one {α : Type} {E : Enc α} {w : World} {b B : Nat} {x : α} (h : CellG E w b 0 x) (hb : b < B) : RdG E w B (.slice (some ⟨b, 0, none⟩) 1 1) [x] :=
  ⟨_, 1, rfl, Nat.le_refl _, fun e => (by cases e), .inr ⟨b, 0, rfl, hb, fun i hi => by
    obtain rfl : i = 0 := by simp at hi; exact hi
    simpa using h⟩⟩
end Go.Proofs.YtkgcbeokfilehaaGreatDoor
