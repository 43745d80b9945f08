import Derived.Test.YtbggdkpcgcmepaaGreatDoorDd
import Derived.Laws.AppendOwnNone
namespace Go.Proofs.YtbggdkpcgcmepaaGreatDoor
open Go.RowKit Go.Sort

theorem add_at (b o j : Nat) : (⟨b, o, none⟩ : Addr).add j = ⟨b, o + j, none⟩ := by
  unfold Addr.add; split <;> simp_all
theorem flatS_cells {w : World} {b o : Nat} {l : List Smp} (h : ∀ i (h : i < l.length), Cell4 w b (o + i * 4) l[i]) : ∀ j u, (flatS l)[j]? = some u → w.cell? ((⟨b, o, none⟩ : Addr).add j) = some u := by
  intro t u hu
  have ht : t < l.length * 4 := by
    have := (List.getElem?_eq_some_iff.1 hu).1
    rwa [flatS_length] at this
  obtain ⟨i, j, hi, hj, rfl⟩ : ∃ i j, i < l.length ∧ j < 4 ∧ t = i * 4 + j := ⟨t / 4, t % 4, by omega, by omega, by omega⟩
  rw [flatS_at l i j hi hj] at hu
  have := (h i hi).news j u hu
  rw [add_at] at this ⊢
  rw [← Nat.add_assoc]; exact this
theorem flatS_one' (l : List Smp) : ∀ u ∈ flatS l, u.oneCell' = true := by
  intro u hu
  unfold flatS at hu
  rw [List.mem_flatMap] at hu
  obtain ⟨a, _, ha⟩ := hu
  exact encS_one a u ha
/-- A nil slice has no capacity. -/
def Nz (v : Value) : Prop := ∀ n c, v = .slice none n c → c = 0
theorem Own.nz {w : World} {base e : Nat} {v : Value} {l : List Smp} (h : Own w base e v l) : Nz v := by
  intro n c hv
  rcases h.2 with ⟨h1, _⟩ | ⟨g, cap, cur, h1, _⟩
  · rw [h1] at hv; injection hv with _ _ h; exact h.symm
  · rw [h1] at hv; injection hv with h; cases h
/-- append of a whole row to a row of the call's own. -/
theorem appN {P : Program} {w : World} {ops : Array Oper} {rest : List Oper} {o : Oper} {a : Act} {Q : Exit → Act → World → Prop} (hgd : o.guard = none) (s x : Operand) (t e : TypeId)
    (ho : o.op = .call { callee := .builtin .append, args := #[s, x], argTypes := #[t, t] }) (ht : P.underlying t = some (.slice e))
    (hinf : (P.info? e).map (fun i => (i.zero, i.size, i.bytes)) = some (some (.agg #[.int .i64 0, .int .i64 0, .int .i64 0, .int .i64 0]), 4, 32))
    (base : Nat) (v : Value) (l : List Smp) (xv : Value) (l2 : List Smp) (B : Nat) (hs : a.eval s = v) (hown : Own w base e v l) (hx : a.eval x = xv) (hR : Rd w B xv l2) (hz : Nz xv)
    (hl : (l.length + l2.length) * 32 ≤ 140737488355328) (hbase : base ≤ w.heap.size)
    (h : ∀ v' w', Own w' base e v' (l ++ l2) → w.grownBy w' v.ownBlock → (v'.ownBlock = v.ownBlock ∨ v'.ownBlock = some w.heap.size) → (v = .slice none 0 0 → l2 = [] → v' = .slice none 0 0) → wpList P ops Q rest (a.put o.dst v') w') :
    wpList P ops Q (o :: rest) a w := by
  obtain ⟨i, hi, hz1, hsz, hby⟩ := of_info hinf
  obtain ⟨A, c, rfl, hc, hA⟩ := hR
  cases A with
  | none =>
    have hc0 := hz _ _ rfl
    subst hc0
    have hl2 : l2 = [] := List.eq_nil_of_length_eq_zero (by omega)
    subst hl2
    refine wpList_append_own_none hgd s x t ho base e i 4 ht hi v l.length (flatS l) hs hown hx ?_
    refine h v w (by rw [List.append_nil]; exact hown) ⟨rfl, rfl, rfl, Nat.le_refl _, fun _ _ _ => rfl⟩ (.inl rfl) (fun h _ => h)
  | some ad =>
    have hcells : ∀ j u, (flatS l2)[j]? = some u → w.cell? (ad.add j) = some u := by
      rcases hA with rfl | ⟨b, o, h1, _, hcl⟩
      · intro j u hu; simp [flatS] at hu
      · injection h1 with h1; subst h1; exact flatS_cells hcl
    refine wpList_append_own_at w hgd s x t ho base e i _ 4 32 ht hi hz1 hsz hby rfl (by decide) v l.length (flatS l) hs hown ad l2.length c (flatS l2) hx (flatS_length l2) hcells (flatS_one' l2) (by unfold maxLen; omega) hl hbase (fun v' w' h1 h2 h3 h4 => ?_)
    refine h v' w' ?_ h2 h4 (fun hv hl2 => h3.2 ⟨hv, by rw [hl2]; rfl⟩)
    unfold Own
    rw [flatS_append, List.length_append]
    exact h1
end Go.Proofs.YtbggdkpcgcmepaaGreatDoor
