import Derived.Test.YtglamimbkdldaaaGreatDoorSc
import Derived.Laws.FloatArith
namespace Go.Proofs.YtglamimbkdldaaaGreatDoor
open Go.RowKit Go.Sort
/-- A float with its sign turned, where g says so. -/
def negIf (g : Bool) (b : Nat) : Nat := if g then Op.negFloat .f64 b else b
theorem run_neg (b : Nat) (w : World) : (Op.unary UnOp.neg (.float .f64 b)).run Tryz.prog w = .ok (.float .f64 (Op.negFloat .f64 b)) w := rfl
attribute [local go_sem] run_neg
theorem neg_cases {g : Bool} {a b : Nat} (h : negIf g a = b) : (g = false ∧ a = b) ∨ (g = true ∧ Op.negFloat .f64 a = b) := by
  cases g
  · exact .inl ⟨rfl, h⟩
  · exact .inr ⟨rfl, h⟩
section
variable (d : Nat) (g : Bool) (w : World) (hd' : d ≤ 999999999999999) (hi : w.cell? ⟨7, 0, none⟩ = some (.int .u64 52)) (fb : Nat) (hf : negIf g (floatOfInt .f64 d) = fb)
include hd' hi hf
set_option maxRecDepth 100000 in
set_option maxHeartbeats 400000 in
theorem ex_zero : Calls Tryz.prog 101 #[.int .u64 d, .int .i64 0, .bool g] w fun e w' => e = .returned (.tuple #[.float .f64 fb, .bool true]) ∧ w' = w := by
  have h52 : ((d : Int) / 4503599627370496 != 0) = false := by rw [bne_eq_false_iff_eq]; omega
  rcases neg_cases hf with ⟨rfl, hf⟩ | ⟨rfl, hf⟩
  all_goals go_enter Tryz.func101, Tryz.ntmps101
  all_goals go_wp2
  all_goals go_ret2
  all_goals exact ⟨rfl, rfl⟩
set_option maxRecDepth 100000 in
set_option maxHeartbeats 400000 in
theorem ex_none (x : Int) (hx : 37 < x ∨ x < -22) : Calls Tryz.prog 101 #[.int .u64 d, .int .i64 x, .bool g] w fun e w' => e = .returned (.tuple #[.float .f64 fb, .bool false]) ∧ w' = w := by
  have h52 : ((d : Int) / 4503599627370496 != 0) = false := by rw [bne_eq_false_iff_eq]; omega
  have hx0 : (x == 0) = false := by rw [beq_eq_false_iff_ne]; omega
  rcases neg_cases hf with ⟨rfl, hf⟩ | ⟨rfl, hf⟩ <;> rcases hx with hx | hx
  all_goals go_enter Tryz.func101, Tryz.ntmps101
  all_goals go_wp2
  all_goals go_ret2
  all_goals exact ⟨rfl, rfl⟩
set_option maxRecDepth 100000 in
set_option maxHeartbeats 400000 in
theorem ex_pos (x pb po pc p r : Nat) (h1 : 1 ≤ x) (h2 : x ≤ 22) (hsl : w.cell? ⟨10, 0, none⟩ = some (.slice (some ⟨pb, po, none⟩) 23 pc)) (hp : w.cell? ⟨pb, po + x, none⟩ = some (.float .f64 p))
    (o1 : FloatKind.f64.format.order fb 4831355200913801216 = some .lt) (o2 : FloatKind.f64.format.order fb 14054727237768577024 = some .gt) (hm : floatBits .mul .f64 fb p = some r) :
    Calls Tryz.prog 101 #[.int .u64 d, .int .i64 x, .bool g] w fun e w' => e = .returned (.tuple #[.float .f64 r, .bool true]) ∧ w' = w := by
  have h52 : ((d : Int) / 4503599627370496 != 0) = false := by rw [bne_eq_false_iff_eq]; omega
  have hx0 : ((x : Int) == 0) = false := by rw [beq_eq_false_iff_ne]; omega
  have hmr := fun w => run_float_arith (P := Tryz.prog) w .mul 38 .f64 fb p r hm
  rcases neg_cases hf with ⟨rfl, hf⟩ | ⟨rfl, hf⟩
  all_goals go_enter Tryz.func101, Tryz.ntmps101
  all_goals go_wp2
  all_goals go_ret2
  all_goals exact ⟨rfl, rfl⟩
set_option maxRecDepth 100000 in
set_option maxHeartbeats 400000 in
theorem ex_neg (x pb po pc p r : Nat) (h1 : 1 ≤ x) (h2 : x ≤ 22) (hsl : w.cell? ⟨10, 0, none⟩ = some (.slice (some ⟨pb, po, none⟩) 23 pc)) (hp : w.cell? ⟨pb, po + x, none⟩ = some (.float .f64 p))
    (hm : floatBits .quo .f64 fb p = some r) :
    Calls Tryz.prog 101 #[.int .u64 d, .int .i64 (-(x : Int)), .bool g] w fun e w' => e = .returned (.tuple #[.float .f64 r, .bool true]) ∧ w' = w := by
  have h52 : ((d : Int) / 4503599627370496 != 0) = false := by rw [bne_eq_false_iff_eq]; omega
  have hx0 : (-(x : Int) == 0) = false := by rw [beq_eq_false_iff_ne]; omega
  have hmr := fun w => run_float_arith (P := Tryz.prog) w .quo 38 .f64 fb p r hm
  rcases neg_cases hf with ⟨rfl, hf⟩ | ⟨rfl, hf⟩
  all_goals go_enter Tryz.func101, Tryz.ntmps101
  all_goals go_wp2
  all_goals go_ret2
  all_goals exact ⟨rfl, rfl⟩
/-- More than twenty-two places: is what the first step gives too great? -/
def tooBig (f : Nat) : Bool := FloatKind.f64.format.order f 4831355200913801216 == some .gt || FloatKind.f64.format.order f 14054727237768577024 == some .lt
set_option maxRecDepth 100000 in
set_option maxHeartbeats 400000 in
theorem ex_far (x pb po pc p q f r : Nat) (a b : Bool) (h1 : 23 ≤ x) (h2 : x ≤ 37) (hsl : w.cell? ⟨10, 0, none⟩ = some (.slice (some ⟨pb, po, none⟩) 23 pc)) (hp : w.cell? ⟨pb, po + (x - 22), none⟩ = some (.float .f64 p))
    (hq : w.cell? ⟨pb, po + 22, none⟩ = some (.float .f64 q)) (hm : floatBits .mul .f64 fb p = some f) (hm2 : floatBits .mul .f64 f q = some r)
    (ha : (FloatKind.f64.format.order f 4831355200913801216 == some .gt) = a) (hb : (FloatKind.f64.format.order f 14054727237768577024 == some .lt) = b) :
    Calls Tryz.prog 101 #[.int .u64 d, .int .i64 x, .bool g] w fun e w' => e = .returned (.tuple #[.float .f64 (if tooBig f then f else r), .bool (!tooBig f)]) ∧ w' = w := by
  have htb : Hid (tooBig f = (a || b)) := by show tooBig f = _; unfold tooBig; rw [ha, hb]
  have h52 : ((d : Int) / 4503599627370496 != 0) = false := by rw [bne_eq_false_iff_eq]; omega
  have hx0 : ((x : Int) == 0) = false := by rw [beq_eq_false_iff_ne]; omega
  have hmr := fun w => run_float_arith (P := Tryz.prog) w .mul 38 .f64 fb p f hm
  have hmr2 := fun w => run_float_arith (P := Tryz.prog) w .mul 38 .f64 f q r hm2
  rw [htb.out]
  have ha2 := ha
  have hb2 := hb
  cases a <;> cases b <;> simp only [beq_iff_eq, beq_eq_false_iff_ne, ne_eq] at ha2 hb2
  all_goals rcases neg_cases hf with ⟨rfl, hf⟩ | ⟨rfl, hf⟩
  all_goals go_enter Tryz.func101, Tryz.ntmps101
  all_goals go_wp2
  all_goals go_ret2
  all_goals exact ⟨rfl, rfl⟩
end
end Go.Proofs.YtglamimbkdldaaaGreatDoor
