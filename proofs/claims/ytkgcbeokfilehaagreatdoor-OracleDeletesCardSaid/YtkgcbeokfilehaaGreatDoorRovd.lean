import Derived.Test.YtkgcbeokfilehaaGreatDoorCmqd
import Derived.Test.YtkgcbeokfilehaaGreatDoorSortShelf
import Derived.Maps.AppendAt
import Derived.Laws.StructEq
import Derived.Shelf.SlSortCmp.NoneTotal
namespace Go.Proofs.YtkgcbeokfilehaaGreatDoor
open Go.RowKit Go.Sort Go.Shelf

theorem cmpI_neg (a b : Int) : cmpI a b < 0 ↔ a < b := by unfold cmpI; split <;> (try split) <;> omega
theorem cmpI_zero (a b : Int) : cmpI a b = 0 ↔ a = b := by unfold cmpI; split <;> (try split) <;> omega
/-- Is a ahead of b? -/
def ltS (a b : Smp) : Prop := a.1 < b.1 ∨ (a.1 = b.1 ∧ a.bits < b.bits)
theorem cmpS_neg (a b : Smp) : cmpS a b < 0 ↔ ltS a b := by
  unfold cmpS orI cmpV ltS
  have h1 := cmpI_neg a.1 b.1
  have h2 := cmpI_zero a.1 b.1
  have h3 := cmpI_neg (Smp.bits a) (Smp.bits b)
  by_cases h : cmpI a.1 b.1 ≠ 0
  · rw [if_pos h]; omega
  · rw [if_neg h]; omega
theorem ltOf_iff (a b : Smp) : ltOf cmpS a b = true ↔ ltS a b := by
  unfold ltOf; rw [decide_eq_true_eq, cmpS_neg]
theorem swoS : SWO (ltOf cmpS) where
  irrefl x := by
    rw [Bool.eq_false_iff]; intro h; rw [ltOf_iff] at h; unfold ltS at h; omega
  trans x y z h1 h2 := by rw [ltOf_iff] at *; unfold ltS at *; omega
  ntrans x y z h1 h2 := by
    rw [Bool.eq_false_iff] at *
    intro h; rw [ne_eq, ltOf_iff] at h1 h2; rw [ltOf_iff] at h; unfold ltS at *; omega

/-- The samples as Go's sort lays them. -/
def sortA (d : Array Smp) : Array Smp := pdq (ltOf cmpS) d 0 d.size (Lib.bitLen d.size) true true

theorem grownBy_sortWorld (w : World) (blk n : Nat) (d : Array Smp) (os : Array Obj) (_hb : blk < w.heap.size) : w.grownBy (sortWorldK encS 4 w blk 0 n d os) (some blk) := by
  unfold sortWorldK putRowK putRow mapBlock grow Sort.ahead
  refine ⟨rfl, rfl, rfl, by simp, fun k hk hne => ?_⟩
  have hkb : blk ≠ k := fun e => hne (by rw [e])
  rw [Array.getElem?_append_left (by simpa using hk), Array.getElem?_modify, if_neg hkb]
theorem sortA_size (d : Array Smp) : (sortA d).size = d.size :=
  (pdq_sorts (ltOf cmpS) swoS d 0 d.size (Lib.bitLen d.size) true true (Nat.zero_le _) (Nat.le_refl _) (Or.inl rfl)).1.1
theorem sort_walk (blk cap : Nat) (d : Array Smp) (w0 w : World) (T : Tabs w0) (hB : Below w0.heap.size w0 w) (hblk : w0.heap.size ≤ blk) (hblk2 : blk < w.heap.size) (hH : HoldsK encS 4 w blk 0 d) (hsz : d.size < 4611686018427387904) :
    Calls Tryz.prog 92 #[.slice (some ⟨blk, 0, none⟩) d.size cap, .func (.func 93) #[] #[]] w fun e w' =>
      e = .returned (.tuple #[]) ∧ HoldsK encS 4 w' blk 0 (sortA d) ∧ w.grownBy w' (some blk) := by
  have eg : ∀ args w, (callFunc 93 args).run Tryz.prog w = .ok (.enter 93 args) w := enters_of Tryz.func93 (by kernel_rfl) rfl
  have hcmp : CmpLays Tryz.prog 93 #[] encS 4 cmpS blk 0 d.size w := fun m os dk hdk x y => by
    have hg := grownBy_sortWorld w blk m dk os hblk2
    have hT : Tabs (sortWorldK encS 4 w blk 0 m dk os) := T.below (hB.grown hg (by have := hB.size; omega) (fun k e => by cases e; exact hblk))
    exact (scmp_walk x y _ hT).mono fun e w' ⟨he, hE⟩ => by
      obtain ⟨k, o, hk⟩ := hE.out
      exact ⟨he, k, o, hk⟩
  refine (AnyQ.slices_SortFunc_eq Tryz.sortS 4 Tryz.isAgg138 Tryz.sizeOf138 encS (fun _ => rfl) (fun x v hv => by simp [encS] at hv; rcases hv with rfl | rfl | rfl | rfl <;> rfl) cmpS swoS 93 #[] blk 0 cap d w eg hcmp hH hblk2 hsz).mono fun e w' ⟨he, n, os, hw⟩ => ⟨he, ?_, ?_⟩
  · rw [hw]; exact holdsK_sortWorldK_c encS 4 w blk 0 d _ n os hH hblk2 (sortA_size d)
  · rw [hw]; exact grownBy_sortWorld w blk n _ os hblk2
end Go.Proofs.YtkgcbeokfilehaaGreatDoor

namespace Go.Proofs.YtkgcbeokfilehaaGreatDoor
open Go.RowKit Go.Sort Go.Shelf

/-- A sample's four cells. -/
def Cell4 (w : World) (b o : Nat) (s : Smp) : Prop :=
  w.cell? ⟨b, o, none⟩ = some (.int .i64 s.1) ∧ w.cell? ⟨b, o + 1, none⟩ = some (.int .i64 s.2.1) ∧ w.cell? ⟨b, o + 2, none⟩ = some (.int .i64 s.2.2.1) ∧ w.cell? ⟨b, o + 3, none⟩ = some (.int .i64 s.2.2.2)
theorem Cell4.below {w w' : World} {B b o : Nat} {s : Smp} (h : Cell4 w b o s) (k : RowKit.Below B w w') (hb : b < B) : Cell4 w' b o s :=
  ⟨(k.cell hb).trans h.1, (k.cell hb).trans h.2.1, (k.cell hb).trans h.2.2.1, (k.cell hb).trans h.2.2.2⟩
/-- A row of samples as cells. -/
def flatS (l : List Smp) : List Value := l.flatMap encS
theorem flatS_length (l : List Smp) : (flatS l).length = l.length * 4 := by
  induction l with
  | nil => rfl
  | cons a l ih => unfold flatS at *; simp only [List.flatMap_cons, List.length_append, List.length_cons, ih]; simp [encS]; omega
theorem flatS_append (a b : List Smp) : flatS (a ++ b) = flatS a ++ flatS b := by unfold flatS; simp
theorem flatS_one (a : Smp) : flatS [a] = encS a := by unfold flatS; simp
theorem flatS_at : ∀ (l : List Smp) (i j : Nat) (h : i < l.length), j < 4 → (flatS l)[i * 4 + j]? = (encS l[i])[j]?
  | a :: l, 0, j, _, hj => by
    unfold flatS; rw [List.flatMap_cons, Nat.zero_mul, Nat.zero_add, List.getElem?_append_left (by simpa [encS] using hj)]; rfl
  | a :: l, i + 1, j, h, hj => by
    have := flatS_at l i j (by simpa using h) hj
    unfold flatS at *
    rw [List.flatMap_cons, show (i + 1) * 4 + j = (encS a).length + (i * 4 + j) by simp [encS]; omega, List.getElem?_append_right (by omega), Nat.add_sub_cancel_left, this]; rfl

/-- A slice of samples that can be read: below block B. -/
def Rd (w : World) (B : Nat) (v : Value) (l : List Smp) : Prop :=
  ∃ A c, v = .slice A l.length c ∧ l.length ≤ c ∧ (l = [] ∨ ∃ b o, A = some ⟨b, o, none⟩ ∧ b < B ∧ ∀ i (h : i < l.length), Cell4 w b (o + i * 4) l[i])
theorem Rd.below {w w' : World} {B : Nat} {v : Value} {l : List Smp} (h : Rd w B v l) (k : RowKit.Below B w w') : Rd w' B v l := by
  obtain ⟨A, c, h1, h2, h3⟩ := h
  refine ⟨A, c, h1, h2, h3.imp id fun ⟨b, o, e, hb, hc⟩ => ⟨b, o, e, hb, fun i hi => (hc i hi).below k hb⟩⟩
theorem Rd.mono {w : World} {B B' : Nat} {v : Value} {l : List Smp} (h : Rd w B v l) (k : B ≤ B') : Rd w B' v l := by
  obtain ⟨A, c, h1, h2, h3⟩ := h
  exact ⟨A, c, h1, h2, h3.imp id fun ⟨b, o, e, hb, hc⟩ => ⟨b, o, e, Nat.lt_of_lt_of_le hb k, hc⟩⟩
/-- A slice of samples that the call made itself, of blocks from base on. -/
def Own (w : World) (base : Nat) (e : TypeId) (v : Value) (l : List Smp) : Prop := w.ownsRow base e 4 v l.length (flatS l)
theorem Own.rd {w : World} {base e : Nat} {v : Value} {l : List Smp} (h : Own w base e v l) : Rd w w.heap.size v l := by
  rcases h.2 with ⟨rfl, h0⟩ | ⟨g, cap, cur, rfl, hb, hh, hn, hm, hcs, ht⟩
  · have : l = [] := List.eq_nil_of_length_eq_zero h0
    subst this
    exact ⟨none, 0, rfl, by simp, .inl rfl⟩
  · refine ⟨_, cap, rfl, hn, .inr ⟨g, 0, rfl, (Array.getElem?_eq_some_iff.1 hh).1, fun i hi => ?_⟩⟩
    have key : ∀ j, j < 4 → w.cell? ⟨g, 0 + i * 4 + j, none⟩ = (encS l[i])[j]? := fun j hj => by
      have e1 : w.cell? ⟨g, 0 + i * 4 + j, none⟩ = cur[0 + i * 4 + j]? := by simp [World.cell?, hh]
      have e2 := flatS_at l i j hi hj
      have e3 : (cur.toList.take (l.length * 4))[i * 4 + j]? = cur.toList[i * 4 + j]? := List.getElem?_take_of_lt (by omega)
      rw [e1, Nat.zero_add, ← e2, ← ht, e3, Array.getElem?_toList]
    exact ⟨key 0 (by decide), key 1 (by decide), key 2 (by decide), key 3 (by decide)⟩
theorem Own.nil (w : World) (base e : Nat) : Own w base e (.slice none 0 0) [] := ⟨rfl, .inl ⟨rfl, rfl⟩⟩
end Go.Proofs.YtkgcbeokfilehaaGreatDoor

namespace Go.Proofs.YtkgcbeokfilehaaGreatDoor
open Go.RowKit Go.Sort

theorem info_Smp : (Tryz.prog.info? 54).map (fun i => (i.zero, i.size, i.bytes)) = some (some (.agg #[.int .i64 0, .int .i64 0, .int .i64 0, .int .i64 0]), 4, 32) := by kernel_rfl
theorem info_smp : (Tryz.prog.info? 138).map (fun i => (i.zero, i.size, i.bytes)) = some (some (.agg #[.int .i64 0, .int .i64 0, .int .i64 0, .int .i64 0]), 4, 32) := by kernel_rfl
theorem of_info {P : Program} {e : TypeId} {z : Value} {s b : Nat} (h : (P.info? e).map (fun i => (i.zero, i.size, i.bytes)) = some (some z, s, b)) : ∃ i, P.info? e = some i ∧ i.zero = some z ∧ i.size = s ∧ i.bytes = b := by
  cases hi : P.info? e with
  | none => rw [hi] at h; simp at h
  | some i => rw [hi] at h; simp at h; exact ⟨i, rfl, h.1, h.2.1, h.2.2⟩
theorem encS_one (s : Smp) : ∀ u ∈ encS s, u.oneCell' = true := by
  intro u hu; simp [encS] at hu; rcases hu with rfl | rfl | rfl | rfl <;> rfl
theorem Cell4.news {w : World} {b o : Nat} {s : Smp} (h : Cell4 w b o s) : ∀ j u, (encS s)[j]? = some u → w.cell? ((⟨b, o, none⟩ : Addr).add j) = some u := by
  intro j u hj
  match j, hj with
  | 0, hj => simp [encS] at hj; subst hj; simpa [Addr.add] using h.1
  | 1, hj => simp [encS] at hj; subst hj; simpa [Addr.add] using h.2.1
  | 2, hj => simp [encS] at hj; subst hj; simpa [Addr.add] using h.2.2.1
  | 3, hj => simp [encS] at hj; subst hj; simpa [Addr.add] using h.2.2.2
  | j + 4, hj => simp [encS] at hj
theorem Cell4.new (w : World) (s : Smp) (t : TypeId) (cs : Array Value) (h : cs = #[.int .i64 s.1, .int .i64 s.2.1, .int .i64 s.2.2.1, .int .i64 s.2.2.2]) : Cell4 (w.alloc (.cells cs t)) w.heap.size 0 s := by
  subst h
  exact ⟨new_cell _ _ _ _, new_cell _ _ _ _, new_cell _ _ _ _, new_cell _ _ _ _⟩
/-- append of one sample to a row of the call's own. -/
theorem app1 {P : Program} {w : World} {ops : Array Oper} {rest : List Oper} {o : Oper} {a : Act} {Q : Exit → Act → World → Prop} (hgd : o.guard = none) (s x : Operand) (t e : TypeId)
    (ho : o.op = .call { callee := .builtin .append, args := #[s, x], argTypes := #[t, t] }) (ht : P.underlying t = some (.slice e))
    (hinf : (P.info? e).map (fun i => (i.zero, i.size, i.bytes)) = some (some (.agg #[.int .i64 0, .int .i64 0, .int .i64 0, .int .i64 0]), 4, 32))
    (base : Nat) (v : Value) (l : List Smp) (y : Smp) (hs : a.eval s = v) (hown : Own w base e v l) (b off c : Nat) (hx : a.eval x = .slice (some ⟨b, off, none⟩) 1 c) (hc : Cell4 w b off y)
    (hl : (l.length + 1) * 32 ≤ 140737488355328) (hbase : base ≤ w.heap.size)
    (h : ∀ v' w', Own w' base e v' (l ++ [y]) → w.grownBy w' v.ownBlock → (v'.ownBlock = v.ownBlock ∨ v'.ownBlock = some w.heap.size) → wpList P ops Q rest (a.put o.dst v') w') :
    wpList P ops Q (o :: rest) a w := by
  obtain ⟨i, hi, hz, hsz, hby⟩ := of_info hinf
  refine wpList_append_own_at w hgd s x t ho base e i _ 4 32 ht hi hz hsz hby rfl (by decide) v l.length (flatS l) hs hown ⟨b, off, none⟩ 1 c (encS y) hx rfl hc.news (encS_one y) (by unfold maxLen; omega) hl hbase (fun v' w' h1 h2 _ h4 => ?_)
  refine h v' w' ?_ h2 h4
  unfold Own
  rw [flatS_append, flatS_one, List.length_append]
  exact h1
theorem Own.kept {w w' : World} {base e : Nat} {v : Value} {l : List Smp} {row : Option Nat} (h : Own w base e v l) (hg : w.grownBy w' row) (hne : v.ownBlock = none ∨ v.ownBlock ≠ row) : Own w' base e v l := World.ownsRow.kept h hg hne
theorem Own.alloc {w : World} {base e : Nat} {v : Value} {l : List Smp} (h : Own w base e v l) (o : Obj) : Own (w.alloc o) base e v l := World.ownsRow.alloc h o
theorem Own.below {w w' : World} {base e : Nat} {v : Value} {l : List Smp} (h : Own w base e v l) (k : Below w.heap.size w w') : Own w' base e v l := by
  obtain ⟨h1, h2⟩ := h
  refine ⟨h1, ?_⟩
  rcases h2 with h2 | ⟨g, cap, cur, hv, hg, hh, r⟩
  · exact .inl h2
  · exact .inr ⟨g, cap, cur, hv, hg, by rw [k.block g (Array.getElem?_eq_some_iff.1 hh).1]; exact hh, r⟩
theorem Own.blk {w : World} {base e : Nat} {v : Value} {l : List Smp} (h : Own w base e v l) {k : Nat} (hk : v.ownBlock = some k) : base ≤ k ∧ k < w.heap.size := World.ownsRow.lt h k hk
theorem Own.lower {w : World} {base base' e : Nat} {v : Value} {l : List Smp} (h : Own w base e v l) (k : base' ≤ base) : Own w base' e v l := by
  obtain ⟨h1, h2⟩ := h
  refine ⟨h1, ?_⟩
  rcases h2 with h2 | ⟨g, cap, cur, hv, hg, r⟩
  · exact .inl h2
  · exact .inr ⟨g, cap, cur, hv, Nat.le_trans k hg, r⟩
end Go.Proofs.YtkgcbeokfilehaaGreatDoor

namespace Go.Proofs.YtkgcbeokfilehaaGreatDoor
open Go.RowKit Go.Sort

section
variable {P : Program} {d : Nat} {xs ys : Array Value} {f : Field} {fs : List Field} {w : World}
theorem flds_eq {t : TypeId} {fs : Array Field} (h : P.underlying t = some (.struct fs)) : P.fieldsOf t = fs := by unfold Program.fieldsOf; rw [h]
theorem eqF_int {k k' : IntKind} {a b : Int} {t : TypeId} (hn : f.name ≠ "_") (hg : ∀ w, (isAgg t).run P w = .ok false w) (ht : P.underlying t = some (.int k')) (e : f.type = t) (hx : xs[f.offset]? = some (.int k a)) (hy : ys[f.offset]? = some (.int k b)) :
    (Op.eqFields (d + 1) xs ys (f :: fs)).run P w = if a = b then (Op.eqFields (d + 1) xs ys fs).run P w else .ok false w := by
  subst e
  simp only [Op.eqFields, hn, ne_eq, not_false_eq_true, if_true, Sem.run_bind, part, hg, Result.andThen_ok, hx, hy, Sem.run_pure, run_equalIn_int w d f.type k k' a b ht, Bool.false_eq_true, if_false]
  by_cases h : a = b
  · simp [h]
  · have : (a == b) = false := by simp [h]
    simp [h, this]
theorem eqF_agg {n : Nat} {b : Bool} {t : TypeId} {us vs : Array Value} (hn : f.name ≠ "_") (hg : ∀ w, (isAgg t).run P w = .ok true w) (hs : ∀ w, (sizeOf t).run P w = .ok n w) (e : f.type = t)
    (hx : xs.extract f.offset (f.offset + n) = us) (hy : ys.extract f.offset (f.offset + n) = vs) (he : (Op.equalIn d t (.agg us) (.agg vs)).run P w = .ok b w) :
    (Op.eqFields d xs ys (f :: fs)).run P w = if b = true then (Op.eqFields d xs ys fs).run P w else .ok false w := by
  subst e hx hy
  simp only [Op.eqFields, hn, ne_eq, not_false_eq_true, if_true, Sem.run_bind, part, hg, Result.andThen_ok, hs, Sem.run_pure, he]
  cases b <;> simp
theorem eqF_nil : (Op.eqFields d xs ys []).run P w = .ok true w := rfl
end
def fdM : Field := ⟨"M", 2, 0, false, "", "", 0⟩
def fdE : Field := ⟨"E", 3, 1, false, "", "", 8⟩
def fdS : Field := ⟨"S", 3, 2, false, "", "", 16⟩
def fdT : Field := ⟨"T", 2, 0, false, "", "", 0⟩
def fdV : Field := ⟨"V", 26, 1, false, "", "", 8⟩
theorem eq_V0 (d : Nat) (xs ys : Array Value) (m x s m' x' s' : Int) (w : World) (hx : xs = #[.int .i64 m, .int .i64 x, .int .i64 s]) (hy : ys = #[.int .i64 m', .int .i64 x', .int .i64 s']) :
    (Op.eqFields (d + 1) xs ys [fdM, fdE, fdS]).run Tryz.prog w = .ok (decide ((m, x, s) = (m', x', s'))) w := by
  have e1 := eqF_int (P := Tryz.prog) (d := d) (xs := xs) (ys := ys) (f := fdM) (fs := [fdE, fdS]) (w := w) (k := .i64) (a := m) (b := m') (by decide) Tryz.isAgg2 Tryz.underlying2 rfl (by subst hx; rfl) (by subst hy; rfl)
  have e2 := eqF_int (P := Tryz.prog) (d := d) (xs := xs) (ys := ys) (f := fdE) (fs := [fdS]) (w := w) (k := .i64) (a := x) (b := x') (by decide) Tryz.isAgg3 Tryz.underlying3 rfl (by subst hx; rfl) (by subst hy; rfl)
  have e3 := eqF_int (P := Tryz.prog) (d := d) (xs := xs) (ys := ys) (f := fdS) (fs := []) (w := w) (k := .i64) (a := s) (b := s') (by decide) Tryz.isAgg3 Tryz.underlying3 rfl (by subst hx; rfl) (by subst hy; rfl)
  rw [e1, e2, e3, eqF_nil]
  by_cases h1 : m = m' <;> by_cases h2 : x = x' <;> by_cases h3 : s = s' <;> simp [h1, h2, h3]
theorem eq_V (d : Nat) (m x s m' x' s' : Int) (w : World) :
    (Op.equalIn (d + 2) 26 (.agg #[.int .i64 m, .int .i64 x, .int .i64 s]) (.agg #[.int .i64 m', .int .i64 x', .int .i64 s'])).run Tryz.prog w = .ok (decide ((m, x, s) = (m', x', s'))) w := by
  rw [run_equalIn_struct w (d + 1) 26 _ _ (by rw [flds_eq Tryz.underlying26]; exact Tryz.underlying26) (by kernel_rfl), flds_eq Tryz.underlying26]
  exact eq_V0 d _ _ m x s m' x' s' w rfl rfl
theorem eq_S0 (d : Nat) (xs ys : Array Value) (a b : Smp) (w : World) (hx : vS a = .agg xs) (hy : vS b = .agg ys) :
    (Op.eqFields (d + 2) xs ys [fdT, fdV]).run Tryz.prog w = .ok (decide (a = b)) w := by
  obtain ⟨at_, am, ax, as_⟩ := a
  obtain ⟨bt, bm, bx, bs⟩ := b
  unfold vS at hx hy
  have hx1 : xs = #[.int .i64 at_, .int .i64 am, .int .i64 ax, .int .i64 as_] := by cases hx; rfl
  have hy1 : ys = #[.int .i64 bt, .int .i64 bm, .int .i64 bx, .int .i64 bs] := by cases hy; rfl
  have e1 := eqF_int (P := Tryz.prog) (d := d + 1) (xs := xs) (ys := ys) (f := fdT) (fs := [fdV]) (w := w) (k := .i64) (a := at_) (b := bt) (by decide) Tryz.isAgg2 Tryz.underlying2 rfl (by subst hx1; rfl) (by subst hy1; rfl)
  have e2 := eqF_agg (P := Tryz.prog) (d := d + 2) (xs := xs) (ys := ys) (f := fdV) (fs := []) (w := w) (us := #[.int .i64 am, .int .i64 ax, .int .i64 as_]) (vs := #[.int .i64 bm, .int .i64 bx, .int .i64 bs]) (by decide) Tryz.isAgg26 Tryz.sizeOf26 rfl (by subst hx1; rfl) (by subst hy1; rfl) (eq_V d am ax as_ bm bx bs w)
  rw [e1, e2, eqF_nil]
  have h3 : decide ((at_, am, ax, as_) = (bt, bm, bx, bs)) = (decide (at_ = bt) && decide ((am, ax, as_) = (bm, bx, bs))) := by
    rw [Bool.eq_iff_iff]; simp
  rw [h3]
  by_cases h1 : at_ = bt <;> by_cases h2 : (am, ax, as_) = (bm, bx, bs)
  · rw [if_pos h1, if_pos (decide_eq_true h2), decide_eq_true h1, decide_eq_true h2]; rfl
  · rw [if_pos h1, if_neg (by rw [decide_eq_true_eq]; exact h2), decide_eq_true h1, decide_eq_false h2]; rfl
  · rw [if_neg h1, decide_eq_false h1]; rfl
  · rw [if_neg h1, decide_eq_false h1]; rfl
theorem eq_Sx (t : TypeId) (ht : Tryz.prog.underlying t = Tryz.prog.underlying 54) (hh : Tryz.prog.stoodInHeld t = false) (d : Nat) (a b : Smp) (w : World) :
    (Op.equalIn (d + 3) t (vS a) (vS b)).run Tryz.prog w = .ok (decide (a = b)) w := by
  have hu := ht.trans Tryz.underlying54
  refine (run_equalIn_struct w (d + 2) t _ _ (by rw [flds_eq hu]; exact hu) hh).trans ?_
  rw [flds_eq hu]
  exact eq_S0 d _ _ a b w rfl rfl
theorem neq_smp (a b : Smp) (w : World) : (binOp .neq 138 (vS a) (vS b)).run Tryz.prog w = .ok (.bool (!decide (a = b))) w := by
  have h := eq_Sx 138 (Tryz.underlying138.trans Tryz.underlying54.symm) (by kernel_rfl) 9997 a b w
  unfold vS at *
  rw [run_neq_struct, h]; rfl
theorem neq_Smp (a b : Smp) (w : World) : (binOp .neq 54 (vS a) (vS b)).run Tryz.prog w = .ok (.bool (!decide (a = b))) w := by
  have h := eq_Sx 54 rfl (by kernel_rfl) 9997 a b w
  unfold vS at *
  rw [run_neq_struct, h]; rfl
theorem eql_Smp (a b : Smp) (w : World) : (binOp .eql 54 (vS a) (vS b)).run Tryz.prog w = .ok (.bool (decide (a = b))) w := by
  have h := eq_Sx 54 rfl (by kernel_rfl) 9997 a b w
  unfold vS at *
  rw [run_eql_struct, h]; rfl
end Go.Proofs.YtkgcbeokfilehaaGreatDoor

namespace Go.Proofs.YtkgcbeokfilehaaGreatDoor
open Go.RowKit Go.Sort Go.Shelf

theorem flatK_get (d : List Smp) (i j : Nat) (hi : i < d.length) (hj : j < 4) : some (flatK encS 4 d.toArray)[i * 4 + j]! = (encS d[i])[j]? := by
  rw [get_flatK _ _ _ _ (by simp; omega), show (i * 4 + j) / 4 = i by omega, show (i * 4 + j) % 4 = j by omega]
  have : (d.toArray)[i]! = d[i] := by simp [hi]
  rw [this]
  generalize d[i] = y
  match j, hj with
  | 0, _ => rfl
  | 1, _ => rfl
  | 2, _ => rfl
  | 3, _ => rfl
theorem holds_own {w : World} {g : Nat} {cur : Array Value} {e : TypeId} {d : List Smp} (hh : w.heap[g]? = some (.cells cur e (0, 0))) (ht : cur.toList.take (d.length * 4) = flatS d) : HoldsK encS 4 w g 0 d.toArray := by
  intro t h
  rw [size_flatK] at h
  simp only [List.size_toArray] at h
  obtain ⟨i, j, hi, hj, rfl⟩ : ∃ i j, i < d.length ∧ j < 4 ∧ t = i * 4 + j := ⟨t / 4, t % 4, by omega, by omega, by omega⟩
  refine ⟨?_, ?_⟩
  · have e1 : w.cell? ⟨g, 0 + (i * 4 + j), none⟩ = cur[0 + (i * 4 + j)]? := by simp [World.cell?, hh]
    have e3 : (cur.toList.take (d.length * 4))[i * 4 + j]? = cur.toList[i * 4 + j]? := List.getElem?_take_of_lt h
    rw [e1, Nat.zero_add, ← Array.getElem?_toList, ← e3, ht, flatS_at d i j hi hj, ← flatK_get d i j hi hj]; rfl
  · simp [World.frozen?, hh]
theorem rd_holdsK {w : World} {g cap B : Nat} {d : List Smp} (h : HoldsK encS 4 w g 0 d.toArray) (hB : g < B) (hc : d.length ≤ cap) : Rd w B (.slice (some ⟨g, 0, none⟩) d.length cap) d := by
  refine ⟨_, cap, rfl, hc, .inr ⟨g, 0, rfl, hB, fun i hi => ?_⟩⟩
  have key : ∀ j, j < 4 → w.cell? ⟨g, 0 + i * 4 + j, none⟩ = (encS d[i])[j]? := fun j hj => by
    rw [← flatK_get d i j hi hj, Nat.add_assoc]
    exact (h (i * 4 + j) (by rw [size_flatK]; simp; omega)).1
  exact ⟨key 0 (by decide), key 1 (by decide), key 2 (by decide), key 3 (by decide)⟩

/-- Those next to one that is the same, once. -/
def ded : Option Smp → List Smp → List Smp
  | _, [] => []
  | p, a :: l => if p = some a then ded (some a) l else a :: ded (some a) l
def lastOr : Option Smp → List Smp → Option Smp
  | p, [] => p
  | _, a :: l => lastOr (some a) l
theorem ded_snoc : ∀ (l : List Smp) (p : Option Smp) (a : Smp), ded p (l ++ [a]) = ded p l ++ if lastOr p l = some a then [] else [a]
  | [], p, a => by unfold ded lastOr; simp only [List.nil_append]; split <;> simp [ded]
  | b :: l, p, a => by
    simp only [List.cons_append, ded, lastOr]
    rw [ded_snoc l (some b) a]
    by_cases h1 : p = some b <;> by_cases h2 : lastOr (some b) l = some a <;> simp [h1, h2]
theorem lastOr_snoc : ∀ (l : List Smp) (p : Option Smp) (a : Smp), lastOr p (l ++ [a]) = some a
  | [], _, _ => rfl
  | b :: l, _, a => lastOr_snoc l (some b) a
theorem ded_take_zero (l : List Smp) (a : Smp) (h : 0 < l.length) (ha : a = l[0]) : ded none (l.take 1) = ded none (l.take 0) ++ [a] := by
  cases l with
  | nil => simp at h
  | cons b l => subst ha; simp [ded]
theorem ded_take_succ (l : List Smp) (k : Nat) (p a : Smp) (h : k + 1 < l.length) (hp : p = l[k]) (ha : a = l[k + 1]) : ded none (l.take (k + 1 + 1)) = ded none (l.take (k + 1)) ++ if p = a then [] else [a] := by
  rw [List.take_succ_eq_append_getElem h, ded_snoc, List.take_succ_eq_append_getElem (by omega : k < l.length), lastOr_snoc, hp, ha]
  simp
theorem ded_length (p : Option Smp) (l : List Smp) : (ded p l).length ≤ l.length := by
  induction l generalizing p with
  | nil => simp [ded]
  | cons a l ih => unfold ded; split <;> simp <;> have := ih (some a) <;> omega
/-- dedup.Sort. -/
def sortS (l : List Smp) : List Smp := ded none (sortA (l.filter rightS).toArray).toList
theorem sortS_length (l : List Smp) : (sortS l).length ≤ l.length := by
  unfold sortS
  refine Nat.le_trans (ded_length _ _) ?_
  rw [Array.length_toList, sortA_size]; simp [List.length_filter_le]
theorem sort_any (v : Value) (d : List Smp) (W w : World) (T : Tabs W) (hB : Below W.heap.size W w) (hO : Own w W.heap.size 138 v d) (hl : d.length < 4611686018427387904) :
    Calls Tryz.prog 92 #[v, .func (.func 93) #[] #[]] w fun e w' =>
      e = .returned (.tuple #[]) ∧ Rd w' w'.heap.size v (sortA d.toArray).toList ∧ Below W.heap.size w w' := by
  rcases hO with ⟨_, ⟨rfl, h0⟩ | ⟨g, cap, cur, rfl, hgb, hgh, hn2, hm2, hcs, hct⟩⟩
  · have : d = [] := List.eq_nil_of_length_eq_zero h0
    subst this
    refine (AnyF.slices_SortFunc_none { Tryz.sortS with } none 0 _ w).mono fun e w' ⟨he, hw⟩ => ⟨he, ?_, ?_⟩
    · have h2 : (sortA ([] : List Smp).toArray).toList = [] := List.eq_nil_of_length_eq_zero (by rw [Array.length_toList, sortA_size]; rfl)
      rw [h2]; exact ⟨none, 0, rfl, Nat.le_refl _, .inl rfl⟩
    · rw [hw]; exact Below.refl _ _
  · have hgs : g < w.heap.size := (Array.getElem?_eq_some_iff.1 hgh).1
    refine (sort_walk g cap d.toArray W w T hB hgb hgs (holds_own hgh hct) (by simpa using hl)).mono fun e w' ⟨he, hH, hg⟩ => ⟨he, ?_, ?_⟩
    · have hs : (sortA d.toArray).toList.length = d.length := by rw [Array.length_toList, sortA_size]; simp
      rw [← hs]
      exact rd_holdsK (by simpa using hH) (Nat.lt_of_lt_of_le hgs hg.size) (by omega)
    · exact (Below.refl _ w).grown hg hB.size (fun k e => by cases e; exact hgb)
end Go.Proofs.YtkgcbeokfilehaaGreatDoor
