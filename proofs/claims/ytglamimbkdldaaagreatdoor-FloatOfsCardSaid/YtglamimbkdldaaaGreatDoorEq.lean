import Derived.Test.YtglamimbkdldaaaGreatDoorProg
import Derived.Test.YtglamimbkdldaaaGreatDoorBase
import Derived.Laws.StructEq
namespace Go.Proofs.YtglamimbkdldaaaGreatDoor
open Go.RowKit Go.Sort
section
variable {P : Program} {d : Nat} {xs ys : Array Value} {f : Field} {fs : List Field} {w : World}
theorem flds_eq {t : TypeId} {fs : Array Field} (h : P.underlying t = some (.struct fs)) : P.fieldsOf t = fs := by unfold Program.fieldsOf; rw [h]
theorem eqF_int {k k' : IntKind} {a b : Int} {t : TypeId} (hn : f.name ≠ "_") (hg : ∀ w, (isAgg t).run P w = .ok false w) (ht : P.underlying t = some (.int k')) (e : f.type = t) (hx : xs[f.offset]? = some (.int k a)) (hy : ys[f.offset]? = some (.int k b)) :
    (Op.eqFields (d + 1) xs ys (f :: fs)).run P w = if a = b then (Op.eqFields (d + 1) xs ys fs).run P w else .ok false w := by
  subst e
  simp only [Op.eqFields, hn, ne_eq, not_false_eq_true, if_true, Sem.run_bind, part, hg, Result.andThen_ok, hx, hy, Sem.run_pure, run_equalIn_int w d f.type k k' a b ht, Bool.false_eq_true, if_false]
  by_cases h : a = b
  · simp [h]
  · have : (a == b) = false := by simp [h]
    simp [h, this]
theorem eqF_agg {n : Nat} {b : Bool} {t : TypeId} {us vs : Array Value} (hn : f.name ≠ "_") (hg : ∀ w, (isAgg t).run P w = .ok true w) (hs : ∀ w, (sizeOf t).run P w = .ok n w) (e : f.type = t)
    (hx : xs.extract f.offset (f.offset + n) = us) (hy : ys.extract f.offset (f.offset + n) = vs) (he : (Op.equalIn d t (.agg us) (.agg vs)).run P w = .ok b w) :
    (Op.eqFields d xs ys (f :: fs)).run P w = if b = true then (Op.eqFields d xs ys fs).run P w else .ok false w := by
  subst e hx hy
  simp only [Op.eqFields, hn, ne_eq, not_false_eq_true, if_true, Sem.run_bind, part, hg, Result.andThen_ok, hs, Sem.run_pure, he]
  cases b <;> simp
theorem eqF_nil : (Op.eqFields d xs ys []).run P w = .ok true w := rfl
end
def fdM : Field := ⟨"M", 2, 0, false, "", "", 0⟩
def fdE : Field := ⟨"E", 3, 1, false, "", "", 8⟩
def fdS : Field := ⟨"S", 3, 2, false, "", "", 16⟩
theorem eq_V0 (d : Nat) (xs ys : Array Value) (m x s m' x' s' : Int) (w : World) (hx : xs = #[.int .i64 m, .int .i64 x, .int .i64 s]) (hy : ys = #[.int .i64 m', .int .i64 x', .int .i64 s']) :
    (Op.eqFields (d + 1) xs ys [fdM, fdE, fdS]).run Tryz.prog w = .ok (decide ((m, x, s) = (m', x', s'))) w := by
  have e1 := eqF_int (P := Tryz.prog) (d := d) (xs := xs) (ys := ys) (f := fdM) (fs := [fdE, fdS]) (w := w) (k := .i64) (a := m) (b := m') (by decide) Tryz.isAgg2 Tryz.underlying2 rfl (by subst hx; rfl) (by subst hy; rfl)
  have e2 := eqF_int (P := Tryz.prog) (d := d) (xs := xs) (ys := ys) (f := fdE) (fs := [fdS]) (w := w) (k := .i64) (a := x) (b := x') (by decide) Tryz.isAgg3 Tryz.underlying3 rfl (by subst hx; rfl) (by subst hy; rfl)
  have e3 := eqF_int (P := Tryz.prog) (d := d) (xs := xs) (ys := ys) (f := fdS) (fs := []) (w := w) (k := .i64) (a := s) (b := s') (by decide) Tryz.isAgg3 Tryz.underlying3 rfl (by subst hx; rfl) (by subst hy; rfl)
  rw [e1, e2, e3, eqF_nil]
  by_cases h1 : m = m' <;> by_cases h2 : x = x' <;> by_cases h3 : s = s' <;> simp [h1, h2, h3]
theorem eq_V (d : Nat) (m x s m' x' s' : Int) (w : World) :
    (Op.equalIn (d + 2) 23 (.agg #[.int .i64 m, .int .i64 x, .int .i64 s]) (.agg #[.int .i64 m', .int .i64 x', .int .i64 s'])).run Tryz.prog w = .ok (decide ((m, x, s) = (m', x', s'))) w := by
  rw [run_equalIn_struct w (d + 1) 23 _ _ (by rw [flds_eq Tryz.underlying23]; exact Tryz.underlying23) (by kernel_rfl), flds_eq Tryz.underlying23]
  exact eq_V0 d _ _ m x s m' x' s' w rfl rfl
def vV (m x s : Int) : Value := .agg #[.int .i64 m, .int .i64 x, .int .i64 s]
theorem eql_V (m x s m' x' s' : Int) (w : World) : (binOp .eql 23 (vV m x s) (vV m' x' s')).run Tryz.prog w = .ok (.bool (decide ((m, x, s) = (m', x', s')))) w := by
  have h := eq_V 9998 m x s m' x' s' w
  unfold vV
  rw [run_eql_struct, h]; rfl
theorem neq_V (m x s m' x' s' : Int) (w : World) : (binOp .neq 23 (vV m x s) (vV m' x' s')).run Tryz.prog w = .ok (.bool (!decide ((m, x, s) = (m', x', s')))) w := by
  have h := eq_V 9998 m x s m' x' s' w
  unfold vV
  rw [run_neq_struct, h]; rfl
theorem guard_V (op : BinOp) (t : TypeId) (x y : Operand) (a b c a' b' c' : Int) (hm : Tryz.prog.eqGuardType Tryz.prog.depth t = false) (w : World) : (eqGuard op t x y (vV a b c) (vV a' b' c')).run Tryz.prog w = .ok () w := run_eqGuard_agg w op t x y _ _ hm
end Go.Proofs.YtglamimbkdldaaaGreatDoor
