import Derived.Test.YtbggdkpcgcmepaaGreatDoorRow
import Derived.Maps.AppendAt
namespace Go.Proofs.YtbggdkpcgcmepaaGreatDoor
open Go.RowKit Go.Sort

theorem info_Smp : (Tryz.prog.info? 28).map (fun i => (i.zero, i.size, i.bytes)) = some (some (.agg #[.int .i64 0, .int .i64 0, .int .i64 0, .int .i64 0]), 4, 32) := by kernel_rfl
theorem info_smp : (Tryz.prog.info? 43).map (fun i => (i.zero, i.size, i.bytes)) = some (some (.agg #[.int .i64 0, .int .i64 0, .int .i64 0, .int .i64 0]), 4, 32) := by kernel_rfl
theorem of_info {P : Program} {e : TypeId} {z : Value} {s b : Nat} (h : (P.info? e).map (fun i => (i.zero, i.size, i.bytes)) = some (some z, s, b)) : ∃ i, P.info? e = some i ∧ i.zero = some z ∧ i.size = s ∧ i.bytes = b := by
  cases hi : P.info? e with
  | none => rw [hi] at h; simp at h
  | some i => rw [hi] at h; simp at h; exact ⟨i, rfl, h.1, h.2.1, h.2.2⟩
theorem encS_one (s : Smp) : ∀ u ∈ encS s, u.oneCell' = true := by
  intro u hu; simp [encS] at hu; rcases hu with rfl | rfl | rfl | rfl <;> rfl
theorem Cell4.news {w : World} {b o : Nat} {s : Smp} (h : Cell4 w b o s) : ∀ j u, (encS s)[j]? = some u → w.cell? ((⟨b, o, none⟩ : Addr).add j) = some u := by
  intro j u hj
  match j, hj with
  | 0, hj => simp [encS] at hj; subst hj; simpa [Addr.add] using h.1
  | 1, hj => simp [encS] at hj; subst hj; simpa [Addr.add] using h.2.1
  | 2, hj => simp [encS] at hj; subst hj; simpa [Addr.add] using h.2.2.1
  | 3, hj => simp [encS] at hj; subst hj; simpa [Addr.add] using h.2.2.2
  | j + 4, hj => simp [encS] at hj
theorem Cell4.new (w : World) (s : Smp) (t : TypeId) (cs : Array Value) (h : cs = #[.int .i64 s.1, .int .i64 s.2.1, .int .i64 s.2.2.1, .int .i64 s.2.2.2]) : Cell4 (w.alloc (.cells cs t)) w.heap.size 0 s := by
  subst h
  exact ⟨new_cell _ _ _ _, new_cell _ _ _ _, new_cell _ _ _ _, new_cell _ _ _ _⟩
/-- append of one sample to a row of the call's own. -/
theorem app1 {P : Program} {w : World} {ops : Array Oper} {rest : List Oper} {o : Oper} {a : Act} {Q : Exit → Act → World → Prop} (hgd : o.guard = none) (s x : Operand) (t e : TypeId)
    (ho : o.op = .call { callee := .builtin .append, args := #[s, x], argTypes := #[t, t] }) (ht : P.underlying t = some (.slice e))
    (hinf : (P.info? e).map (fun i => (i.zero, i.size, i.bytes)) = some (some (.agg #[.int .i64 0, .int .i64 0, .int .i64 0, .int .i64 0]), 4, 32))
    (base : Nat) (v : Value) (l : List Smp) (y : Smp) (hs : a.eval s = v) (hown : Own w base e v l) (b off c : Nat) (hx : a.eval x = .slice (some ⟨b, off, none⟩) 1 c) (hc : Cell4 w b off y)
    (hl : (l.length + 1) * 32 ≤ 140737488355328) (hbase : base ≤ w.heap.size)
    (h : ∀ v' w', Own w' base e v' (l ++ [y]) → w.grownBy w' v.ownBlock → (v'.ownBlock = v.ownBlock ∨ v'.ownBlock = some w.heap.size) → wpList P ops Q rest (a.put o.dst v') w') :
    wpList P ops Q (o :: rest) a w := by
  obtain ⟨i, hi, hz, hsz, hby⟩ := of_info hinf
  refine wpList_append_own_at w hgd s x t ho base e i _ 4 32 ht hi hz hsz hby rfl (by decide) v l.length (flatS l) hs hown ⟨b, off, none⟩ 1 c (encS y) hx rfl hc.news (encS_one y) (by unfold maxLen; omega) hl hbase (fun v' w' h1 h2 _ h4 => ?_)
  refine h v' w' ?_ h2 h4
  unfold Own
  rw [flatS_append, flatS_one, List.length_append]
  exact h1
theorem Own.kept {w w' : World} {base e : Nat} {v : Value} {l : List Smp} {row : Option Nat} (h : Own w base e v l) (hg : w.grownBy w' row) (hne : v.ownBlock = none ∨ v.ownBlock ≠ row) : Own w' base e v l := World.ownsRow.kept h hg hne
theorem Own.alloc {w : World} {base e : Nat} {v : Value} {l : List Smp} (h : Own w base e v l) (o : Obj) : Own (w.alloc o) base e v l := World.ownsRow.alloc h o
theorem Own.below {w w' : World} {base e : Nat} {v : Value} {l : List Smp} (h : Own w base e v l) (k : Below w.heap.size w w') : Own w' base e v l := by
  obtain ⟨h1, h2⟩ := h
  refine ⟨h1, ?_⟩
  rcases h2 with h2 | ⟨g, cap, cur, hv, hg, hh, r⟩
  · exact .inl h2
  · exact .inr ⟨g, cap, cur, hv, hg, by rw [k.block g (Array.getElem?_eq_some_iff.1 hh).1]; exact hh, r⟩
theorem Own.blk {w : World} {base e : Nat} {v : Value} {l : List Smp} (h : Own w base e v l) {k : Nat} (hk : v.ownBlock = some k) : base ≤ k ∧ k < w.heap.size := World.ownsRow.lt h k hk
theorem Own.lower {w : World} {base base' e : Nat} {v : Value} {l : List Smp} (h : Own w base e v l) (k : base' ≤ base) : Own w base' e v l := by
  obtain ⟨h1, h2⟩ := h
  refine ⟨h1, ?_⟩
  rcases h2 with h2 | ⟨g, cap, cur, hv, hg, r⟩
  · exact .inl h2
  · exact .inr ⟨g, cap, cur, hv, Nat.le_trans k hg, r⟩
end Go.Proofs.YtbggdkpcgcmepaaGreatDoor
