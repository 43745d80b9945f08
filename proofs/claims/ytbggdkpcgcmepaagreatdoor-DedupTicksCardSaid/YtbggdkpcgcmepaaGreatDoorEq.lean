import Derived.Test.YtbggdkpcgcmepaaGreatDoorAp
import Derived.Laws.StructEq
namespace Go.Proofs.YtbggdkpcgcmepaaGreatDoor
open Go.RowKit Go.Sort

section
variable {P : Program} {d : Nat} {xs ys : Array Value} {f : Field} {fs : List Field} {w : World}
theorem flds_eq {t : TypeId} {fs : Array Field} (h : P.underlying t = some (.struct fs)) : P.fieldsOf t = fs := by unfold Program.fieldsOf; rw [h]
theorem eqF_int {k k' : IntKind} {a b : Int} {t : TypeId} (hn : f.name ≠ "_") (hg : ∀ w, (isAgg t).run P w = .ok false w) (ht : P.underlying t = some (.int k')) (e : f.type = t) (hx : xs[f.offset]? = some (.int k a)) (hy : ys[f.offset]? = some (.int k b)) :
    (Op.eqFields (d + 1) xs ys (f :: fs)).run P w = if a = b then (Op.eqFields (d + 1) xs ys fs).run P w else .ok false w := by
  subst e
  simp only [Op.eqFields, hn, ne_eq, not_false_eq_true, if_true, Sem.run_bind, part, hg, Result.andThen_ok, hx, hy, Sem.run_pure, run_equalIn_int w d f.type k k' a b ht, Bool.false_eq_true, if_false]
  by_cases h : a = b
  · simp [h]
  · have : (a == b) = false := by simp [h]
    simp [h, this]
theorem eqF_agg {n : Nat} {b : Bool} {t : TypeId} {us vs : Array Value} (hn : f.name ≠ "_") (hg : ∀ w, (isAgg t).run P w = .ok true w) (hs : ∀ w, (sizeOf t).run P w = .ok n w) (e : f.type = t)
    (hx : xs.extract f.offset (f.offset + n) = us) (hy : ys.extract f.offset (f.offset + n) = vs) (he : (Op.equalIn d t (.agg us) (.agg vs)).run P w = .ok b w) :
    (Op.eqFields d xs ys (f :: fs)).run P w = if b = true then (Op.eqFields d xs ys fs).run P w else .ok false w := by
  subst e hx hy
  simp only [Op.eqFields, hn, ne_eq, not_false_eq_true, if_true, Sem.run_bind, part, hg, Result.andThen_ok, hs, Sem.run_pure, he]
  cases b <;> simp
theorem eqF_nil : (Op.eqFields d xs ys []).run P w = .ok true w := rfl
end
def fdM : Field := ⟨"M", 2, 0, false, "", "", 0⟩
def fdE : Field := ⟨"E", 3, 1, false, "", "", 8⟩
def fdS : Field := ⟨"S", 3, 2, false, "", "", 16⟩
def fdT : Field := ⟨"T", 2, 0, false, "", "", 0⟩
def fdV : Field := ⟨"V", 26, 1, false, "", "", 8⟩
theorem eq_V0 (d : Nat) (xs ys : Array Value) (m x s m' x' s' : Int) (w : World) (hx : xs = #[.int .i64 m, .int .i64 x, .int .i64 s]) (hy : ys = #[.int .i64 m', .int .i64 x', .int .i64 s']) :
    (Op.eqFields (d + 1) xs ys [fdM, fdE, fdS]).run Tryz.prog w = .ok (decide ((m, x, s) = (m', x', s'))) w := by
  have e1 := eqF_int (P := Tryz.prog) (d := d) (xs := xs) (ys := ys) (f := fdM) (fs := [fdE, fdS]) (w := w) (k := .i64) (a := m) (b := m') (by decide) Tryz.isAgg2 Tryz.underlying2 rfl (by subst hx; rfl) (by subst hy; rfl)
  have e2 := eqF_int (P := Tryz.prog) (d := d) (xs := xs) (ys := ys) (f := fdE) (fs := [fdS]) (w := w) (k := .i64) (a := x) (b := x') (by decide) Tryz.isAgg3 Tryz.underlying3 rfl (by subst hx; rfl) (by subst hy; rfl)
  have e3 := eqF_int (P := Tryz.prog) (d := d) (xs := xs) (ys := ys) (f := fdS) (fs := []) (w := w) (k := .i64) (a := s) (b := s') (by decide) Tryz.isAgg3 Tryz.underlying3 rfl (by subst hx; rfl) (by subst hy; rfl)
  rw [e1, e2, e3, eqF_nil]
  by_cases h1 : m = m' <;> by_cases h2 : x = x' <;> by_cases h3 : s = s' <;> simp [h1, h2, h3]
theorem eq_V (d : Nat) (m x s m' x' s' : Int) (w : World) :
    (Op.equalIn (d + 2) 26 (.agg #[.int .i64 m, .int .i64 x, .int .i64 s]) (.agg #[.int .i64 m', .int .i64 x', .int .i64 s'])).run Tryz.prog w = .ok (decide ((m, x, s) = (m', x', s'))) w := by
  rw [run_equalIn_struct w (d + 1) 26 _ _ (by rw [flds_eq Tryz.underlying26]; exact Tryz.underlying26) (by kernel_rfl), flds_eq Tryz.underlying26]
  exact eq_V0 d _ _ m x s m' x' s' w rfl rfl
theorem eq_S0 (d : Nat) (xs ys : Array Value) (a b : Smp) (w : World) (hx : vS a = .agg xs) (hy : vS b = .agg ys) :
    (Op.eqFields (d + 2) xs ys [fdT, fdV]).run Tryz.prog w = .ok (decide (a = b)) w := by
  obtain ⟨at_, am, ax, as_⟩ := a
  obtain ⟨bt, bm, bx, bs⟩ := b
  unfold vS at hx hy
  have hx1 : xs = #[.int .i64 at_, .int .i64 am, .int .i64 ax, .int .i64 as_] := by cases hx; rfl
  have hy1 : ys = #[.int .i64 bt, .int .i64 bm, .int .i64 bx, .int .i64 bs] := by cases hy; rfl
  have e1 := eqF_int (P := Tryz.prog) (d := d + 1) (xs := xs) (ys := ys) (f := fdT) (fs := [fdV]) (w := w) (k := .i64) (a := at_) (b := bt) (by decide) Tryz.isAgg2 Tryz.underlying2 rfl (by subst hx1; rfl) (by subst hy1; rfl)
  have e2 := eqF_agg (P := Tryz.prog) (d := d + 2) (xs := xs) (ys := ys) (f := fdV) (fs := []) (w := w) (us := #[.int .i64 am, .int .i64 ax, .int .i64 as_]) (vs := #[.int .i64 bm, .int .i64 bx, .int .i64 bs]) (by decide) Tryz.isAgg26 Tryz.sizeOf26 rfl (by subst hx1; rfl) (by subst hy1; rfl) (eq_V d am ax as_ bm bx bs w)
  rw [e1, e2, eqF_nil]
  have h3 : decide ((at_, am, ax, as_) = (bt, bm, bx, bs)) = (decide (at_ = bt) && decide ((am, ax, as_) = (bm, bx, bs))) := by
    rw [Bool.eq_iff_iff]; simp
  rw [h3]
  by_cases h1 : at_ = bt <;> by_cases h2 : (am, ax, as_) = (bm, bx, bs)
  · rw [if_pos h1, if_pos (decide_eq_true h2), decide_eq_true h1, decide_eq_true h2]; rfl
  · rw [if_pos h1, if_neg (by rw [decide_eq_true_eq]; exact h2), decide_eq_true h1, decide_eq_false h2]; rfl
  · rw [if_neg h1, decide_eq_false h1]; rfl
  · rw [if_neg h1, decide_eq_false h1]; rfl
theorem eq_Sx (t : TypeId) (ht : Tryz.prog.underlying t = Tryz.prog.underlying 28) (hh : Tryz.prog.stoodInHeld t = false) (d : Nat) (a b : Smp) (w : World) :
    (Op.equalIn (d + 3) t (vS a) (vS b)).run Tryz.prog w = .ok (decide (a = b)) w := by
  have hu := ht.trans Tryz.underlying28
  refine (run_equalIn_struct w (d + 2) t _ _ (by rw [flds_eq hu]; exact hu) hh).trans ?_
  rw [flds_eq hu]
  exact eq_S0 d _ _ a b w rfl rfl
theorem neq_smp (a b : Smp) (w : World) : (binOp .neq 43 (vS a) (vS b)).run Tryz.prog w = .ok (.bool (!decide (a = b))) w := by
  have h := eq_Sx 43 (Tryz.underlying43.trans Tryz.underlying28.symm) (by kernel_rfl) 9997 a b w
  unfold vS at *
  rw [run_neq_struct, h]; rfl
theorem neq_Smp (a b : Smp) (w : World) : (binOp .neq 28 (vS a) (vS b)).run Tryz.prog w = .ok (.bool (!decide (a = b))) w := by
  have h := eq_Sx 28 rfl (by kernel_rfl) 9997 a b w
  unfold vS at *
  rw [run_neq_struct, h]; rfl
theorem eql_Smp (a b : Smp) (w : World) : (binOp .eql 28 (vS a) (vS b)).run Tryz.prog w = .ok (.bool (decide (a = b))) w := by
  have h := eq_Sx 28 rfl (by kernel_rfl) 9997 a b w
  unfold vS at *
  rw [run_eql_struct, h]; rfl
theorem guard_Smp (op : BinOp) (t : TypeId) (x y : Operand) (a b : Smp) (hm : Tryz.prog.eqGuardType Tryz.prog.depth t = false) (w : World) : (eqGuard op t x y (vS a) (vS b)).run Tryz.prog w = .ok () w := run_eqGuard_agg w op t x y _ _ hm
end Go.Proofs.YtbggdkpcgcmepaaGreatDoor
