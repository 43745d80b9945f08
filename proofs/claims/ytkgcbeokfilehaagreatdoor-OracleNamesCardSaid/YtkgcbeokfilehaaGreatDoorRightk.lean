/-
  The reference's way to the nearest double: no program in sight.
-/
import Derived.Test.YtkgcbeokfilehaaGreatDoorPak
import Derived.Test.YtkgcbeokfilehaaGreatDoorProg
import Derived.Deep.Light
import Derived.Test.YtkgcbeokfilehaaGreatDoorBasek
namespace Go.Proofs.YtkgcbeokfilehaaGreatDoor

/-- A division that ends at q with r left: the word. -/
theorem near_of_div {N0 D0 s u q r j : Nat} (_hD : 0 < D0) (hs : s ≤ 1074) (hj : j + s = 1074 + u) (h1 : 4503599627370496 ≤ q) (h2 : q < 9007199254740992) (hr : r < D0 * 2 ^ u) (h : N0 * 2 ^ s = q * (D0 * 2 ^ u) + r) :
    Near (N0 * 2 ^ E0) D0 (j * 4503599627370496 + q + up r (D0 * 2 ^ u) q) := by
  have hE := E0_eq
  obtain ⟨c, hc⟩ : ∃ c, c + s = 1074 := ⟨1074 - s, by omega⟩
  have e1 : N0 * 2 ^ E0 = 2 ^ c * (N0 * 2 ^ s) := by
    rw [show E0 = c + s by omega, Nat.pow_add, Nat.mul_left_comm]
  have e2 : 2 ^ j * D0 = 2 ^ c * (D0 * 2 ^ u) := by
    rw [show j = c + u by omega, Nat.pow_add, Nat.mul_assoc, Nat.mul_comm (2 ^ u)]
  obtain ⟨B, hB⟩ : ∃ B, B = D0 * 2 ^ u := ⟨_, rfl⟩
  rw [← hB] at hr h e2 ⊢
  have hc0 := Nat.two_pow_pos c
  have e3 : ∀ x, x * (2 ^ c * B) = 2 ^ c * (x * B) := fun x => Nat.mul_left_comm ..
  refine ⟨j, q, h1, h2, ?_, ?_, ?_⟩
  · rw [e1, e2, h, e3]; exact Nat.mul_le_mul_left _ (by omega)
  · rw [e1, e2, h, e3, Nat.add_mul, Nat.one_mul]; exact Nat.mul_lt_mul_of_pos_left (by omega) hc0
  · rw [e1, e2, h, e3, ← Nat.mul_sub, show q * B + r - q * B = r by omega, up_scale _ _ _ _ hc0]

/-- The two numbers that the reference divides. -/
def rN (m : Nat) (x : Int) : Nat := m * 10 ^ x.toNat
def rD (x : Int) : Nat := 10 ^ (-x).toNat
theorem rN_vN (m : Nat) (x : Int) : vN m x = rN m x * 2 ^ E0 := by
  unfold vN rN; split
  · rfl
  · rw [show x.toNat = 0 by omega, Nat.pow_zero, Nat.mul_one]
theorem rD_vD (x : Int) : vD x = rD x := by
  unfold vD rD; split
  · rw [show (-x).toNat = 0 by omega, Nat.pow_zero]
  · rfl
theorem ref_near {m : Nat} {x : Int} {s u q r j : Nat} (hm : 1 ≤ m) (hx : -300 ≤ x) (hs : s ≤ 1074) (hj : j + s = 1074 + u) (h1 : 4503599627370496 ≤ q) (h2 : q < 9007199254740992) (hr : r < rD x * 2 ^ u) (h : rN m x * 2 ^ s = q * (rD x * 2 ^ u) + r) :
    nearV m x = j * 4503599627370496 + q + up r (rD x * 2 ^ u) q := by
  have hn := nearV_near m x hm hx
  rw [rN_vN, rD_vD] at hn
  refine hn.unique (near_of_div ?_ hs hj h1 h2 hr h)
  rw [← rD_vD]; exact vD_pos x

/-- One bit of the quotient. -/
theorem bit_yes {N q P r : Nat} (h : N = q * (2 * P) + r) (hP : P ≤ r) (hr : r < 2 * P) : N = (2 * q + 1) * P + (r - P) ∧ r - P < P := by
  have e : (2 * q + 1) * P = 2 * (q * P) + P := by rw [Nat.add_mul, Nat.one_mul, Nat.mul_assoc]
  have e2 : q * (2 * P) = 2 * (q * P) := Nat.mul_left_comm ..
  rw [e2] at h
  rw [e]
  omega
theorem bit_no {N q P r : Nat} (h : N = q * (2 * P) + r) (hP : r < P) : N = 2 * q * P + r ∧ r < P := by
  rw [Nat.mul_assoc, Nat.mul_left_comm]; exact ⟨h, hP⟩
end Go.Proofs.YtkgcbeokfilehaaGreatDoor

namespace Go.Proofs.YtkgcbeokfilehaaGreatDoor
open Go.RowKit Go.Sort

set_option maxHeartbeats 400000 in
/-- float.Right. -/
theorem fright_walk (m x s : Int) (w : World) :
    Calls Tryz.prog 82 #[.agg #[.int .i64 m, .int .i64 x, .int .i64 s]] w fun e w' => e = .returned (.bool (rightV m x s)) ∧ Ext w w' := by
  go_enter Tryz.func82, Tryz.ntmps82
  go_wp2
  all_goals go_ret
  all_goals refine ⟨ret_bool ?_, by repeat (first | exact Ext.refl _ | apply Ext.drew | apply Ext.alloc)⟩
  all_goals (try simp only [tmod10] at *)
  all_goals (go_light; rw [Bool.eq_iff_iff]; unfold rightV; simp_all <;> first | omega | (rw [tmod10]; omega))
set_option maxHeartbeats 400000 in
/-- eskerref02.Right. -/
theorem rright_walk (m x s : Int) (w : World) :
    Calls Tryz.prog 83 #[.agg #[.int .i64 m, .int .i64 x, .int .i64 s]] w fun e w' => e = .returned (.bool (rightV m x s)) ∧ Ext w w' := by
  go_enter Tryz.func83, Tryz.ntmps83
  go_wp2
  all_goals go_ret
  all_goals refine ⟨ret_bool ?_, by repeat (first | exact Ext.refl _ | apply Ext.drew | apply Ext.alloc)⟩
  all_goals (try simp only [tmod10] at *)
  all_goals (go_light; rw [Bool.eq_iff_iff]; unfold rightV; simp_all <;> first | omega | (rw [tmod10]; omega))
end Go.Proofs.YtkgcbeokfilehaaGreatDoor
