import Derived.Test.YtkgcbeokfilehaaGreatDoorSck
import Derived.Laws.FloatArith
import Derived.Test.YtkgcbeokfilehaaGreatDoorProg
import Derived.Test.YtkgcbeokfilehaaGreatDoorBasek
import Derived.Handy
namespace Go.Proofs.YtkgcbeokfilehaaGreatDoor
open Go.RowKit Go.Sort
/-- A float with its sign turned, where g says so. -/
def negIf (g : Bool) (b : Nat) : Nat := if g then Op.negFloat .f64 b else b
theorem run_neg (b : Nat) (w : World) : (Op.unary UnOp.neg (.float .f64 b)).run Tryz.prog w = .ok (.float .f64 (Op.negFloat .f64 b)) w := rfl
attribute [local go_sem] run_neg
theorem neg_cases {g : Bool} {a b : Nat} (h : negIf g a = b) : (g = false ∧ a = b) ∨ (g = true ∧ Op.negFloat .f64 a = b) := by
  cases g
  · exact .inl ⟨rfl, h⟩
  · exact .inr ⟨rfl, h⟩
section
variable (d : Nat) (g : Bool) (w : World) (hd' : d ≤ 999999999999999) (hi : w.cell? ⟨9, 0, none⟩ = some (.int .u64 52)) (fb : Nat) (hf : negIf g (floatOfInt .f64 d) = fb)
include hd' hi hf
set_option maxRecDepth 100000 in
set_option maxHeartbeats 400000 in
theorem ex_zero : Calls Tryz.prog 228 #[.int .u64 d, .int .i64 0, .bool g] w fun e w' => e = .returned (.tuple #[.float .f64 fb, .bool true]) ∧ w' = w := by
  have h52 : ((d : Int) / 4503599627370496 != 0) = false := by rw [bne_eq_false_iff_eq]; omega
  rcases neg_cases hf with ⟨rfl, hf⟩ | ⟨rfl, hf⟩
  all_goals go_enter Tryz.func228, Tryz.ntmps228
  all_goals go_wp2
  all_goals go_ret2
  all_goals exact ⟨rfl, rfl⟩
set_option maxRecDepth 100000 in
set_option maxHeartbeats 400000 in
theorem ex_none (x : Int) (hx : 37 < x ∨ x < -22) : Calls Tryz.prog 228 #[.int .u64 d, .int .i64 x, .bool g] w fun e w' => e = .returned (.tuple #[.float .f64 fb, .bool false]) ∧ w' = w := by
  have h52 : ((d : Int) / 4503599627370496 != 0) = false := by rw [bne_eq_false_iff_eq]; omega
  have hx0 : (x == 0) = false := by rw [beq_eq_false_iff_ne]; omega
  rcases neg_cases hf with ⟨rfl, hf⟩ | ⟨rfl, hf⟩ <;> rcases hx with hx | hx
  all_goals go_enter Tryz.func228, Tryz.ntmps228
  all_goals go_wp2
  all_goals go_ret2
  all_goals exact ⟨rfl, rfl⟩
set_option maxRecDepth 100000 in
set_option maxHeartbeats 400000 in
theorem ex_pos (x pb po pc p r : Nat) (h1 : 1 ≤ x) (h2 : x ≤ 22) (hsl : w.cell? ⟨12, 0, none⟩ = some (.slice (some ⟨pb, po, none⟩) 23 pc)) (hp : w.cell? ⟨pb, po + x, none⟩ = some (.float .f64 p))
    (o1 : FloatKind.f64.format.order fb 4831355200913801216 = some .lt) (o2 : FloatKind.f64.format.order fb 14054727237768577024 = some .gt) (hm : floatBits .mul .f64 fb p = some r) :
    Calls Tryz.prog 228 #[.int .u64 d, .int .i64 x, .bool g] w fun e w' => e = .returned (.tuple #[.float .f64 r, .bool true]) ∧ w' = w := by
  have h52 : ((d : Int) / 4503599627370496 != 0) = false := by rw [bne_eq_false_iff_eq]; omega
  have hx0 : ((x : Int) == 0) = false := by rw [beq_eq_false_iff_ne]; omega
  have hmr := fun w => run_float_arith (P := Tryz.prog) w .mul 210 .f64 fb p r hm
  rcases neg_cases hf with ⟨rfl, hf⟩ | ⟨rfl, hf⟩
  all_goals go_enter Tryz.func228, Tryz.ntmps228
  all_goals go_wp2
  all_goals go_ret2
  all_goals exact ⟨rfl, rfl⟩
set_option maxRecDepth 100000 in
set_option maxHeartbeats 400000 in
theorem ex_neg (x pb po pc p r : Nat) (h1 : 1 ≤ x) (h2 : x ≤ 22) (hsl : w.cell? ⟨12, 0, none⟩ = some (.slice (some ⟨pb, po, none⟩) 23 pc)) (hp : w.cell? ⟨pb, po + x, none⟩ = some (.float .f64 p))
    (hm : floatBits .quo .f64 fb p = some r) :
    Calls Tryz.prog 228 #[.int .u64 d, .int .i64 (-(x : Int)), .bool g] w fun e w' => e = .returned (.tuple #[.float .f64 r, .bool true]) ∧ w' = w := by
  have h52 : ((d : Int) / 4503599627370496 != 0) = false := by rw [bne_eq_false_iff_eq]; omega
  have hx0 : (-(x : Int) == 0) = false := by rw [beq_eq_false_iff_ne]; omega
  have hmr := fun w => run_float_arith (P := Tryz.prog) w .quo 210 .f64 fb p r hm
  rcases neg_cases hf with ⟨rfl, hf⟩ | ⟨rfl, hf⟩
  all_goals go_enter Tryz.func228, Tryz.ntmps228
  all_goals go_wp2
  all_goals go_ret2
  all_goals exact ⟨rfl, rfl⟩
/-- More than twenty-two places: is what the first step gives too great? -/
def tooBig (f : Nat) : Bool := FloatKind.f64.format.order f 4831355200913801216 == some .gt || FloatKind.f64.format.order f 14054727237768577024 == some .lt
set_option maxRecDepth 100000 in
set_option maxHeartbeats 400000 in
theorem ex_far (x pb po pc p q f r : Nat) (a b : Bool) (h1 : 23 ≤ x) (h2 : x ≤ 37) (hsl : w.cell? ⟨12, 0, none⟩ = some (.slice (some ⟨pb, po, none⟩) 23 pc)) (hp : w.cell? ⟨pb, po + (x - 22), none⟩ = some (.float .f64 p))
    (hq : w.cell? ⟨pb, po + 22, none⟩ = some (.float .f64 q)) (hm : floatBits .mul .f64 fb p = some f) (hm2 : floatBits .mul .f64 f q = some r)
    (ha : (FloatKind.f64.format.order f 4831355200913801216 == some .gt) = a) (hb : (FloatKind.f64.format.order f 14054727237768577024 == some .lt) = b) :
    Calls Tryz.prog 228 #[.int .u64 d, .int .i64 x, .bool g] w fun e w' => e = .returned (.tuple #[.float .f64 (if tooBig f then f else r), .bool (!tooBig f)]) ∧ w' = w := by
  have htb : Hid (tooBig f = (a || b)) := by show tooBig f = _; unfold tooBig; rw [ha, hb]
  have h52 : ((d : Int) / 4503599627370496 != 0) = false := by rw [bne_eq_false_iff_eq]; omega
  have hx0 : ((x : Int) == 0) = false := by rw [beq_eq_false_iff_ne]; omega
  have hmr := fun w => run_float_arith (P := Tryz.prog) w .mul 210 .f64 fb p f hm
  have hmr2 := fun w => run_float_arith (P := Tryz.prog) w .mul 210 .f64 f q r hm2
  rw [htb.out]
  have ha2 := ha
  have hb2 := hb
  cases a <;> cases b <;> simp only [beq_iff_eq, beq_eq_false_iff_ne, ne_eq] at ha2 hb2
  all_goals rcases neg_cases hf with ⟨rfl, hf⟩ | ⟨rfl, hf⟩
  all_goals go_enter Tryz.func228, Tryz.ntmps228
  all_goals go_wp2
  all_goals go_ret2
  all_goals exact ⟨rfl, rfl⟩
end
end Go.Proofs.YtkgcbeokfilehaaGreatDoor

namespace Go.Proofs.YtkgcbeokfilehaaGreatDoor
open Go.RowKit Go.Sort
set_option maxRecDepth 100000 in
set_option maxHeartbeats 400000 in
theorem common_walk (s : ByteArray) (w : World) (c : Nat) (h1 : 1 ≤ s.size) (h2 : s.size ≤ 1000) (hc : (s[0]'h1).toNat = c) (c1 : 48 ≤ c) (c2 : c ≤ 57) :
    Calls Tryz.prog 232 #[.string s, .string { data := #[105, 110, 102, 105, 110, 105, 116, 121] }] w fun e w' => e = .returned (.int .i64 0) ∧ w = w' := by
  have t1 : ((c : Int) != ((({ data := #[105, 110, 102, 105, 110, 105, 116, 121] } : ByteArray)[0]'(by decide)).toNat : Int)) = true := by
    rw [bne_iff_ne, show (({ data := #[105, 110, 102, 105, 110, 105, 116, 121] } : ByteArray)[0]'(by decide)).toNat = 105 from rfl]; omega
  have t2 : (c : Int) < 65 := by omega
  go_enter Tryz.func232, Tryz.ntmps232
  go_wp2
  all_goals refine wp_loop_rounds 1 ?_
  all_goals rw [rounds_succ]
  all_goals go_wp2
  all_goals go_ret
  all_goals exact ⟨rfl, rfl⟩
set_option maxRecDepth 100000 in
set_option maxHeartbeats 400000 in
theorem special_digit (s : ByteArray) (w : World) (c : Nat) (h1 : 1 ≤ s.size) (h2 : s.size ≤ 1000) (hc : (s[0]'h1).toNat = c) (c1 : 48 ≤ c) (c2 : c ≤ 57) :
    Calls Tryz.prog 217 #[.string s] w fun e w' => e = .returned (.tuple #[.float .f64 0, .int .i64 0, .bool false]) ∧ w = w' := by
  have t0 : ((s.size : Int) == 0) = false := by rw [beq_eq_false_iff_ne]; omega
  have t1 : ((c : Int) == 43) = false := by rw [beq_eq_false_iff_ne]; omega
  have t2 : ((c : Int) == 45) = false := by rw [beq_eq_false_iff_ne]; omega
  have t3 : ((c : Int) == 105) = false := by rw [beq_eq_false_iff_ne]; omega
  have t4 : ((c : Int) == 73) = false := by rw [beq_eq_false_iff_ne]; omega
  have t5 : ((c : Int) == 110) = false := by rw [beq_eq_false_iff_ne]; omega
  have t6 : ((c : Int) == 78) = false := by rw [beq_eq_false_iff_ne]; omega
  go_enter Tryz.func217, Tryz.ntmps217
  go_wp2
  go_returns
  exact ⟨rfl, rfl⟩
set_option maxRecDepth 100000 in
set_option maxHeartbeats 400000 in
theorem special_minus (s : ByteArray) (w : World) (c : Nat) (h1 : 2 ≤ s.size) (h2 : s.size ≤ 1000) (h0 : (s[0]'(by omega)).toNat = 45) (hc : (s[1]'(by omega)).toNat = c) (c1 : 48 ≤ c) (c2 : c ≤ 57) :
    Calls Tryz.prog 217 #[.string s] w fun e w' => e = .returned (.tuple #[.float .f64 0, .int .i64 0, .bool false]) ∧ w = w' := by
  have t0 : ((s.size : Int) == 0) = false := by rw [beq_eq_false_iff_ne]; omega
  go_enter Tryz.func217, Tryz.ntmps217
  go_wp2_with fail
  refine (common_walk _ _ c (by simp; omega) (by simp; omega) (by rw [ByteArray.getElem_extract]; exact hc) c1 c2).mono ?_; rintro e w1 ⟨rfl, rfl⟩
  go_wp2
  go_returns
  exact ⟨rfl, rfl⟩
end Go.Proofs.YtkgcbeokfilehaaGreatDoor

namespace Go.Proofs.YtkgcbeokfilehaaGreatDoor
open Go.RowKit Go.Sort

theorem lower_walk (w : World) : Calls Tryz.prog 235 #[.int .u8 101] w fun e w' => e = .returned (.int .u8 101) ∧ w = w' := by
  go_enter Tryz.func235, Tryz.ntmps235
  go_wp2
  go_ret
  exact ⟨rfl, rfl⟩

/-- What the text holds: a sign, digits, an e, a sign, digits. B: its bytes; V, W: the values of the digits' beginnings. -/
structure Numeral (s : ByteArray) (a n z m : Nat) (B V W : Nat → Nat) : Prop where
  byte : ∀ i (h : i < s.size), (s[i]'h).toNat = B i
  size : s.size = a + n + 1 + z + m
  n1 : 1 ≤ n
  n2 : n ≤ 15
  m1 : 1 ≤ m
  m2 : m ≤ 4
  dig : ∀ k, k < n → 48 ≤ B (a + k) ∧ B (a + k) ≤ 57
  fst : B a ≠ 48
  e : B (a + n) = 101
  v0 : V 0 = 0
  v1 : ∀ k, k < n → V (k + 1) = V k * 10 + (B (a + k) - 48)
  v2 : ∀ k, k ≤ n → V k ≤ 999999999999999
  edig : ∀ k, k < m → 48 ≤ B (a + n + 1 + z + k) ∧ B (a + n + 1 + z + k) ≤ 57
  w0 : W 0 = 0
  w1 : ∀ k, k < m → W (k + 1) = W k * 10 + (B (a + n + 1 + z + k) - 48)
  w2 : ∀ k, k ≤ m → W k ≤ 9999

end Go.Proofs.YtkgcbeokfilehaaGreatDoor
