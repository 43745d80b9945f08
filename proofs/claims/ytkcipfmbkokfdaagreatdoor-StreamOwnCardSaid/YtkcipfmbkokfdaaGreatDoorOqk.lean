/-
  Rows of points, and rows of ints, that the call makes itself: appends.
-/
import Derived.Test.YtkcipfmbkokfdaaGreatDoorQok
import Derived.Test.YtkcipfmbkokfdaaGreatDoorOwk
namespace Go.Proofs.YtkcipfmbkokfdaaGreatDoor
open Go.RowKit Go.Sort Go.Maps
theorem info_Pt : (Tryz.prog.info? 48).map (fun i => (i.zero, i.size, i.bytes)) = some (some (.agg #[.int .i64 0, .slice none 0 0]), 2, 32) := by kernel_rfl
theorem info_intZ : (Tryz.prog.info? 3).map (fun i => (i.zero, i.size, i.bytes)) = some (some (.int .i64 0), 1, 8) := by kernel_rfl
theorem Rd.grownE {w w' : World} {v : Value} {l : List Smp} {row : Option Nat} (h : Rd w w.heap.size v l) (hg : w.grownBy w' row) (hne : l ≠ [] → ∀ a n c, v = .slice (some a) n c → some a.block ≠ row) : Rd w' w'.heap.size v l := by
  obtain ⟨A, c, rfl, hc, hA⟩ := h
  by_cases hl : l = []
  · exact ⟨A, c, rfl, hc, .inl hl⟩
  · exact Rd.grown ⟨A, c, rfl, hc, hA⟩ hg (hne hl)
/-- Where a slice that has something points: not into the row that grows. -/
def AwR (w : World) (row : Option Nat) (v : Value) (l : List Smp) : Prop := l ≠ [] → ∀ a n c, v = .slice (some a) n c → some a.block ≠ row ∧ a.block < w.heap.size
structure OwP (w : World) (base : Nat) (v : Value) (cs : List Row) : Prop where
  row : w.ownsRow base 48 2 v cs.length (cs.flatMap ptC)
  rd : ∀ x ∈ cs, Rd w w.heap.size x.2.1 x.2.2 ∧ Nz x.2.1 ∧ AwR w v.ownBlock x.2.1 x.2.2
theorem OwP.nil (w : World) (base : Nat) : OwP w base (.slice none 0 0) [] := ⟨⟨rfl, .inl ⟨rfl, rfl⟩⟩, fun _ hx => absurd hx (List.not_mem_nil)⟩
theorem OwP.on {w w' : World} {base : Nat} {v : Value} {cs : List Row} (h : OwP w base v cs) (k : Below w.heap.size w w') : OwP w' base v cs :=
  ⟨Below.owns k h.row, fun x hx => by
    obtain ⟨h1, h2, h3⟩ := h.rd x hx
    exact ⟨(h1.below k).mono k.size, h2, fun hl a n c e => ⟨(h3 hl a n c e).1, Nat.lt_of_lt_of_le (h3 hl a n c e).2 k.size⟩⟩⟩
theorem OwP.lower {w : World} {base base' : Nat} {v : Value} {cs : List Row} (h : OwP w base v cs) (k : base' ≤ base) : OwP w base' v cs := by
  refine ⟨⟨h.row.1, h.row.2.imp id fun ⟨g, cap, cur, hv, hg, r⟩ => ⟨g, cap, cur, hv, Nat.le_trans k hg, r⟩⟩, h.rd⟩
theorem OwP.push {w w1 : World} {base : Nat} {v v' : Value} {cs xs : List Row} (h : OwP w base v cs) (hx : ∀ x ∈ xs, Rd w w.heap.size x.2.1 x.2.2 ∧ Nz x.2.1 ∧ AwR w v.ownBlock x.2.1 x.2.2)
    (hg : w.grownBy w1 v.ownBlock) (hown : w1.ownsRow base 48 2 v' (cs.length + xs.length) (cs.flatMap ptC ++ xs.flatMap ptC)) (hloc : v'.ownBlock = v.ownBlock ∨ v'.ownBlock = some w.heap.size) :
    OwP w1 base v' (cs ++ xs) := by
  refine ⟨by rw [List.length_append, List.flatMap_append]; exact hown, fun y hy => ?_⟩
  have hy2 : Rd w w.heap.size y.2.1 y.2.2 ∧ Nz y.2.1 ∧ AwR w v.ownBlock y.2.1 y.2.2 := by
    rcases List.mem_append.1 hy with hy | hy
    · exact h.rd y hy
    · exact hx y hy
  obtain ⟨h1, h2, h3⟩ := hy2
  refine ⟨h1.grownE hg (fun hl a n c e => (h3 hl a n c e).1), h2, fun hl a n c e => ⟨?_, Nat.lt_of_lt_of_le (h3 hl a n c e).2 hg.size⟩⟩
  rcases hloc with e9 | e9
  · rw [e9]; exact (h3 hl a n c e).1
  · rw [e9]
    intro e8
    injection e8 with e8
    have := (h3 hl a n c e).2
    omega
theorem AwR.own {W0 w : World} {base : Nat} {v sv : Value} {cs : List Row} {sl : List Smp} {e : TypeId} (h : OwP W0 base v cs) (ho : Own w W0.heap.size e sv sl) : AwR w v.ownBlock sv sl := by
  intro _ a n c e1
  subst e1
  have hb : (Value.slice (some a) n c).ownBlock = some a.block := by
    rcases ho.2 with ⟨h0, _⟩ | ⟨g, cap, cur, h0, _⟩
    · cases h0
    · injection h0 with h0; injection h0 with h0; subst h0; rfl
  have h1 := ho.blk hb
  refine ⟨fun e9 => ?_, h1.2⟩
  have := (World.ownsRow.lt h.row _ e9.symm).2
  omega
theorem AwR.low {w w' : World} {B base : Nat} {v sv : Value} {cs : List Row} {sl : List Smp} (h : OwP w base v cs) (hR : Rd w' B sv sl) (hB : B ≤ base) (hw : B ≤ w.heap.size) : AwR w v.ownBlock sv sl := by
  intro hl a n c e1
  obtain ⟨A, c', e2, _, hA⟩ := hR
  rcases hA with h0 | ⟨b, o, e3, hb, _⟩
  · exact absurd h0 hl
  · subst e3
    rw [e1] at e2
    injection e2 with e2
    injection e2 with e2
    subst e2
    refine ⟨fun e9 => ?_, Nat.lt_of_lt_of_le hb hw⟩
    have h2 : base ≤ b := (World.ownsRow.lt h.row _ e9.symm).1
    omega
theorem OwP.rdP {w : World} {base : Nat} {v : Value} {cs : List Row} (h : OwP w base v cs) : RdP w w.heap.size v (cut cs) := by
  have hlen : (cut cs).length = cs.length := by simp [cut]
  rcases h.row.2 with ⟨rfl, hn⟩ | ⟨g, cap, cur, rfl, hb, hc, h1, h2, h3, h4⟩
  · have : cs = [] := List.eq_nil_of_length_eq_zero hn
    subst this
    exact ⟨none, 0, rfl, Nat.zero_le _, .inl rfl⟩
  · refine ⟨some ⟨g, 0, none⟩, cap, by rw [hlen], by rw [hlen]; exact h1, .inr ⟨g, 0, rfl, (Array.getElem?_eq_some_iff.1 hc).1, fun i hi => ?_⟩⟩
    have hi' : i < cs.length := by rw [← hlen]; exact hi
    obtain ⟨q1, q2, _⟩ := h.rd cs[i] (List.getElem_mem hi')
    have hcell : ∀ t (ht : t < 2), w.cell? ⟨g, i * 2 + t, none⟩ = (ptC cs[i])[t]? := by
      intro t ht
      have e1 : w.cell? ⟨g, i * 2 + t, none⟩ = cur[i * 2 + t]? := by simp [World.cell?, hc]
      have e2 : (cur.toList.take (cs.length * 2))[i * 2 + t]? = cur[i * 2 + t]? := by rw [List.getElem?_take_of_lt (by omega)]; simp
      rw [e1, ← e2, h4]
      exact flat2 cs i t hi' ht
    have e0 := hcell 0 (by omega)
    have e1 := hcell 1 (by omega)
    have hci : (cut cs)[i] = (cs[i].1, cs[i].2.2) := by simp [cut]
    rw [hci]
    exact ⟨by rw [Nat.zero_add]; exact e0, cs[i].2.1, by rw [Nat.zero_add]; exact e1, q1, q2⟩
theorem OwP.nz {w : World} {base : Nat} {v : Value} {cs : List Row} (h : OwP w base v cs) : Nz v := by
  intro n c hv
  rcases h.row.2 with ⟨h1, _⟩ | ⟨g, cap, cur, h1, _⟩
  · rw [h1] at hv; injection hv with _ _ h; exact h.symm
  · rw [h1] at hv; injection hv with h; cases h
theorem Rd.one {w : World} {B : Nat} {v : Value} {l : List Smp} (h : Rd w B v l) : v.oneCell' = true := by
  obtain ⟨A, c, rfl, _⟩ := h
  rfl
theorem ptC_len (cs : List Row) : (cs.flatMap ptC).length = cs.length * 2 := by
  induction cs with
  | nil => rfl
  | cons c cs ih => rw [List.flatMap_cons, List.length_append, ih, List.length_cons]; simp [ptC]; omega
/-- append of one of points to a row of the call's own. -/
theorem app1P {P : Program} {w : World} {ops : Array Oper} {rest : List Oper} {o : Oper} {a : Act} {Q : Exit → Act → World → Prop} (hgd : o.guard = none) (s x : Operand) (t : TypeId)
    (ho : o.op = .call { callee := .builtin .append, args := #[s, x], argTypes := #[t, t] }) (ht : P.underlying t = some (.slice 48))
    (hinf : (P.info? 48).map (fun i => (i.zero, i.size, i.bytes)) = some (some (.agg #[.int .i64 0, .slice none 0 0]), 2, 32))
    (base : Nat) (v : Value) (cs : List Row) (y : Row) (hs : a.eval s = v) (hown : OwP w base v cs) (b off c : Nat) (hx : a.eval x = .slice (some ⟨b, off, none⟩) 1 c) (hc0 : w.cell? ⟨b, off, none⟩ = some (.int .i64 y.1)) (hc1 : w.cell? ⟨b, off + 1, none⟩ = some y.2.1)
    (hR : Rd w w.heap.size y.2.1 y.2.2) (hz : Nz y.2.1) (ha : AwR w v.ownBlock y.2.1 y.2.2) (hl : (cs.length + 1) * 32 ≤ 140737488355328) (hbase : base ≤ w.heap.size)
    (h : ∀ v' w', OwP w' base v' (cs ++ [y]) → w.grownBy w' v.ownBlock → (v'.ownBlock = v.ownBlock ∨ v'.ownBlock = some w.heap.size) → wpList P ops Q rest (a.put o.dst v') w') :
    wpList P ops Q (o :: rest) a w := by
  obtain ⟨i, hi, hz1, hsz, hby⟩ := of_info hinf
  have h1c := hR.one
  refine wpList_append_own_at w hgd s x t ho base _ i _ 2 32 ht hi hz1 hsz hby rfl (by decide) v cs.length (cs.flatMap ptC) hs hown.row ⟨b, off, none⟩ 1 c (ptC y) hx rfl ?_ ?_ (by unfold maxLen; omega) hl hbase (fun v' w' h1 h2 _ h4 => ?_)
  · intro j u hj
    rcases j with _ | _ | j
    · simp [ptC] at hj; subst hj; simpa [Addr.add] using hc0
    · simp [ptC] at hj; subst hj; simpa [Addr.add] using hc1
    · simp [ptC] at hj
  · intro u hu
    simp [ptC] at hu
    rcases hu with rfl | rfl
    · rfl
    · exact h1c
  · refine h v' w' (hown.push (xs := [y]) (fun x hx => by rw [List.mem_singleton] at hx; subst hx; exact ⟨hR, hz, ha⟩) h2 (by simpa using h1) h4) h2 h4
theorem pts_rows {w : World} {B b : Nat} : ∀ (l : List Pts) (o : Nat), (∀ i (h : i < l.length), PtAt w B b (o + i * 2) l[i]) →
    ∃ rs : List Row, cut rs = l ∧ (∀ j u, (rs.flatMap ptC)[j]? = some u → w.cell? ((⟨b, o, none⟩ : Addr).add j) = some u) ∧ ∀ x ∈ rs, Rd w B x.2.1 x.2.2 ∧ Nz x.2.1
  | [], o, _ => ⟨[], rfl, fun j u hj => by simp at hj, fun x hx => absurd hx List.not_mem_nil⟩
  | p :: l, o, hcl => by
    obtain ⟨q0, sv, q1, q2, q3⟩ := hcl 0 (by simp)
    rw [Nat.zero_mul, Nat.add_zero] at q0 q1
    obtain ⟨rs, r1, r2, r3⟩ := pts_rows l (o + 2) (fun i hi => by
      have := hcl (i + 1) (by simp; omega)
      rw [show o + 2 + i * 2 = o + (i + 1) * 2 by omega]
      simpa using this)
    refine ⟨(p.1, sv, p.2) :: rs, by simp only [cut, List.map_cons]; rw [show List.map (fun x : Row => (x.1, x.2.2)) rs = cut rs from rfl, r1], fun j u hj => ?_, fun x hx => ?_⟩
    · rw [List.flatMap_cons] at hj
      rcases j with _ | _ | j
      · simp [ptC] at hj; subst hj; simpa [Addr.add] using q0
      · simp [ptC] at hj; subst hj; simpa [Addr.add] using q1
      · have e : (ptC (p.1, sv, p.2) ++ rs.flatMap ptC)[j + 1 + 1]? = (rs.flatMap ptC)[j]? := by simp [ptC]
        rw [e] at hj
        have := r2 j u hj
        rw [add_at] at this ⊢
        rw [show o + (j + 1 + 1) = o + 2 + j by omega]
        exact this
    · rcases List.mem_cons.1 hx with rfl | hx
      · exact ⟨q2, q3⟩
      · exact r3 x hx
/-- Readable points, with where their samples lie. -/
theorem RdP.rows {w : World} {B b o n c : Nat} {l : List Pts} (h : RdP w B (.slice (some ⟨b, o, none⟩) n c) l) : ∃ rs : List Row, cut rs = l ∧ (∀ j u, (rs.flatMap ptC)[j]? = some u → w.cell? ((⟨b, o, none⟩ : Addr).add j) = some u) ∧ ∀ x ∈ rs, Rd w B x.2.1 x.2.2 ∧ Nz x.2.1 := by
  obtain ⟨A, c', e, _, hA⟩ := h
  injection e with e1
  rcases hA with h0 | ⟨b', o', e2, hb, hcl⟩
  · exact ⟨[], by rw [h0]; rfl, fun j u hj => by simp at hj, fun x hx => absurd hx List.not_mem_nil⟩
  · rw [← e1] at e2
    injection e2 with e2
    injection e2 with e3 e4
    subst e3 e4
    exact pts_rows l o hcl
/-- append of a whole row of points. -/
theorem appNP {P : Program} {w : World} {ops : Array Oper} {rest : List Oper} {o : Oper} {a : Act} {Q : Exit → Act → World → Prop} (hgd : o.guard = none) (s x : Operand) (t : TypeId)
    (ho : o.op = .call { callee := .builtin .append, args := #[s, x], argTypes := #[t, t] }) (ht : P.underlying t = some (.slice 48))
    (hinf : (P.info? 48).map (fun i => (i.zero, i.size, i.bytes)) = some (some (.agg #[.int .i64 0, .slice none 0 0]), 2, 32))
    (base : Nat) (v : Value) (cs : List Row) (xv : Value) (l2 : List Pts) (B : Nat) (hs : a.eval s = v) (hown : OwP w base v cs) (hx : a.eval x = xv) (hR : RdP w B xv l2) (hz : Nz xv) (hB : B ≤ base)
    (hl : (cs.length + l2.length) * 32 ≤ 140737488355328) (hbase : base ≤ w.heap.size)
    (h : ∀ v' w' cs', OwP w' base v' cs' → cut cs' = cut cs ++ l2 → w.grownBy w' v.ownBlock → (v'.ownBlock = v.ownBlock ∨ v'.ownBlock = some w.heap.size) → wpList P ops Q rest (a.put o.dst v') w') :
    wpList P ops Q (o :: rest) a w := by
  obtain ⟨i, hi, hz1, hsz, hby⟩ := of_info hinf
  obtain ⟨A, c, e, hc, hA⟩ := id hR
  cases A with
  | none =>
    have hc0 := hz _ _ e
    subst hc0
    have hl2 : l2 = [] := List.eq_nil_of_length_eq_zero (by omega)
    subst hl2
    refine wpList_append_own_none hgd s x t ho base _ i 2 ht hi v cs.length (cs.flatMap ptC) hs hown.row (hx.trans e) ?_
    exact h v w cs hown (by simp) ⟨rfl, rfl, rfl, Nat.le_refl _, fun _ _ _ => rfl⟩ (.inl rfl)
  | some ad =>
    obtain ⟨bb, oo, ff⟩ := ad
    by_cases hl2 : l2 = []
    · subst hl2
      refine wpList_append_own_at w hgd s x t ho base _ i _ 2 32 ht hi hz1 hsz hby rfl (by decide) v cs.length (cs.flatMap ptC) hs hown.row ⟨bb, oo, ff⟩ 0 c [] (hx.trans e) rfl (fun j u hj => by simp at hj) (fun u hu => absurd hu List.not_mem_nil) (by unfold maxLen; simp at hl; omega) hl hbase (fun v' w' h1 h2 _ h4 => ?_)
      have := hown.push (xs := []) (fun x hx => absurd hx List.not_mem_nil) h2 (by simpa using h1) h4
      rw [List.append_nil] at this
      exact h v' w' cs this (by simp) h2 h4
    · rcases hA with h0 | ⟨b, o', e2, hb, hcl⟩
      · exact absurd h0 hl2
      · injection e2 with e2
        injection e2 with e3 e4 e5
        subst e3 e4 e5
        obtain ⟨rs, r1, r2, r3⟩ := (e ▸ hR).rows
        have hlen : rs.length = l2.length := by rw [← r1]; simp [cut]
        refine wpList_append_own_at w hgd s x t ho base _ i _ 2 32 ht hi hz1 hsz hby rfl (by decide) v cs.length (cs.flatMap ptC) hs hown.row ⟨bb, oo, none⟩ l2.length c (rs.flatMap ptC) (hx.trans e) (by rw [ptC_len, hlen]) r2 ?_ (by unfold maxLen; omega) hl hbase (fun v' w' h1 h2 _ h4 => ?_)
        · intro u hu
          obtain ⟨x, hx, hu⟩ := List.mem_flatMap.1 hu
          simp [ptC] at hu
          rcases hu with rfl | rfl
          · rfl
          · exact (r3 x hx).1.one
        · refine h v' w' (cs ++ rs) (hown.push (xs := rs) (fun x hx => ⟨(r3 x hx).1.mono (Nat.le_trans hB hbase), (r3 x hx).2, AwR.low hown (r3 x hx).1 hB (Nat.le_trans hB hbase)⟩) h2 (by rw [hlen]; exact h1) h4) (by rw [← r1]; simp [cut]) h2 h4
/-- append to a row of ints. -/
def OwZ (w : World) (base : Nat) (v : Value) (l : List Int) : Prop := w.ownsRow base 3 1 v l.length (l.map encZ)
theorem OwZ.nil (w : World) (base : Nat) : OwZ w base (.slice none 0 0) [] := ⟨rfl, .inl ⟨rfl, rfl⟩⟩
theorem OwZ.on {w w' : World} {base : Nat} {v : Value} {l : List Int} (h : OwZ w base v l) (k : Below w.heap.size w w') : OwZ w' base v l := Below.owns k h
theorem OwZ.rd {w : World} {base : Nat} {v : Value} {l : List Int} (h : OwZ w base v l) : RdZ w w.heap.size v l := RdZ.of_owns h
theorem OwZ.nz {w : World} {base : Nat} {v : Value} {l : List Int} (h : OwZ w base v l) : Nz v := by
  intro n c hv
  rcases h.2 with ⟨h1, _⟩ | ⟨g, cap, cur, h1, _⟩
  · rw [h1] at hv; injection hv with _ _ h; exact h.symm
  · rw [h1] at hv; injection hv with h; cases h
theorem OwZ.lower {w : World} {base base' : Nat} {v : Value} {l : List Int} (h : OwZ w base v l) (k : base' ≤ base) : OwZ w base' v l :=
  ⟨h.1, h.2.imp id fun ⟨g, cap, cur, hv, hg, r⟩ => ⟨g, cap, cur, hv, Nat.le_trans k hg, r⟩⟩
theorem app1Z {P : Program} {w : World} {ops : Array Oper} {rest : List Oper} {o : Oper} {a : Act} {Q : Exit → Act → World → Prop} (hgd : o.guard = none) (s x : Operand) (t : TypeId)
    (ho : o.op = .call { callee := .builtin .append, args := #[s, x], argTypes := #[t, t] }) (ht : P.underlying t = some (.slice 3))
    (hinf : (P.info? 3).map (fun i => (i.zero, i.size, i.bytes)) = some (some (.int .i64 0), 1, 8))
    (base : Nat) (v : Value) (l : List Int) (y : Int) (hs : a.eval s = v) (hown : OwZ w base v l) (b off c : Nat) (hx : a.eval x = .slice (some ⟨b, off, none⟩) 1 c) (hc : w.cell? ⟨b, off, none⟩ = some (.int .i64 y))
    (hl : (l.length + 1) * 8 ≤ 140737488355328) (hbase : base ≤ w.heap.size)
    (h : ∀ v' w', OwZ w' base v' (l ++ [y]) → w.grownBy w' v.ownBlock → (v'.ownBlock = v.ownBlock ∨ v'.ownBlock = some w.heap.size) → wpList P ops Q rest (a.put o.dst v') w') :
    wpList P ops Q (o :: rest) a w := by
  obtain ⟨i, hi, hz, hsz, hby⟩ := of_info hinf
  refine wpList_append_own_at w hgd s x t ho base _ i _ 1 8 ht hi hz hsz hby rfl (by decide) v l.length (l.map encZ) hs hown ⟨b, off, none⟩ 1 c [encZ y] hx rfl ?_ (fun u hu => by rw [List.mem_singleton] at hu; subst hu; rfl) (by unfold maxLen; omega) hl hbase (fun v' w' h1 h2 _ h4 => ?_)
  · intro j u hj
    rcases j with _ | j
    · simp at hj; subst hj; simpa [Addr.add] using hc
    · simp at hj
  · refine h v' w' ?_ h2 h4
    unfold OwZ
    rw [List.map_append, List.length_append]
    exact h1
theorem appNZ {P : Program} {w : World} {ops : Array Oper} {rest : List Oper} {o : Oper} {a : Act} {Q : Exit → Act → World → Prop} (hgd : o.guard = none) (s x : Operand) (t : TypeId)
    (ho : o.op = .call { callee := .builtin .append, args := #[s, x], argTypes := #[t, t] }) (ht : P.underlying t = some (.slice 3))
    (hinf : (P.info? 3).map (fun i => (i.zero, i.size, i.bytes)) = some (some (.int .i64 0), 1, 8))
    (base : Nat) (v : Value) (l : List Int) (xv : Value) (l2 : List Int) (B : Nat) (hs : a.eval s = v) (hown : OwZ w base v l) (hx : a.eval x = xv) (hR : RdZ w B xv l2) (hz : Nz xv)
    (hl : (l.length + l2.length) * 8 ≤ 140737488355328) (hbase : base ≤ w.heap.size)
    (h : ∀ v' w', OwZ w' base v' (l ++ l2) → w.grownBy w' v.ownBlock → (v'.ownBlock = v.ownBlock ∨ v'.ownBlock = some w.heap.size) → wpList P ops Q rest (a.put o.dst v') w') :
    wpList P ops Q (o :: rest) a w := by
  obtain ⟨i, hi, hz1, hsz, hby⟩ := of_info hinf
  obtain ⟨A, c, rfl, hc, hA⟩ := hR
  cases A with
  | none =>
    have hc0 := hz _ _ rfl
    subst hc0
    have hl2 : l2 = [] := List.eq_nil_of_length_eq_zero (by omega)
    subst hl2
    refine wpList_append_own_none hgd s x t ho base _ i 1 ht hi v l.length (l.map encZ) hs hown hx ?_
    exact h v w (by rw [List.append_nil]; exact hown) ⟨rfl, rfl, rfl, Nat.le_refl _, fun _ _ _ => rfl⟩ (.inl rfl)
  | some ad =>
    have hcells : ∀ j u, (l2.map encZ)[j]? = some u → w.cell? (ad.add j) = some u := by
      rcases hA with rfl | ⟨b, o, h1, _, hcl⟩
      · intro j u hu; simp at hu
      · injection h1 with h1; subst h1
        intro j u hu
        rw [List.getElem?_map] at hu
        cases hj : l2[j]? with
        | none => rw [hj] at hu; cases hu
        | some z =>
          rw [hj] at hu
          obtain ⟨hj1, hj2⟩ := List.getElem?_eq_some_iff.1 hj
          have := hcl j hj1
          rw [add_at, this, hj2]
          exact hu
    refine wpList_append_own_at w hgd s x t ho base _ i _ 1 8 ht hi hz1 hsz hby rfl (by decide) v l.length (l.map encZ) hs hown ad l2.length c (l2.map encZ) hx (by simp) hcells (fun u hu => by obtain ⟨z, _, rfl⟩ := List.mem_map.1 hu; rfl) (by unfold maxLen; omega) hl hbase (fun v' w' h1 h2 _ h4 => ?_)
    refine h v' w' ?_ h2 h4
    unfold OwZ
    rw [List.map_append, List.length_append]
    exact h1
end Go.Proofs.YtkcipfmbkokfdaaGreatDoor
