import Derived.Test.YtglamimbkdldaaaGreatDoorProg
import Derived.Test.YtglamimbkdldaaaGreatDoorBase
import Derived.Handy
namespace Go.Proofs.YtglamimbkdldaaaGreatDoor
open Go.RowKit Go.Sort
set_option maxRecDepth 100000 in
set_option maxHeartbeats 400000 in
theorem common_walk (s : ByteArray) (w : World) (c : Nat) (h1 : 1 ≤ s.size) (h2 : s.size ≤ 1000) (hc : (s[0]'h1).toNat = c) (c1 : 48 ≤ c) (c2 : c ≤ 57) :
    Calls Tryz.prog 125 #[.string s, .string { data := #[105, 110, 102, 105, 110, 105, 116, 121] }] w fun e w' => e = .returned (.int .i64 0) ∧ w = w' := by
  have t1 : ((c : Int) != ((({ data := #[105, 110, 102, 105, 110, 105, 116, 121] } : ByteArray)[0]'(by decide)).toNat : Int)) = true := by
    rw [bne_iff_ne, show (({ data := #[105, 110, 102, 105, 110, 105, 116, 121] } : ByteArray)[0]'(by decide)).toNat = 105 from rfl]; omega
  have t2 : (c : Int) < 65 := by omega
  go_enter Tryz.func125, Tryz.ntmps125
  go_wp2
  all_goals refine wp_loop_rounds 1 ?_
  all_goals rw [rounds_succ]
  all_goals go_wp2
  all_goals go_ret
  all_goals exact ⟨rfl, rfl⟩
set_option maxRecDepth 100000 in
set_option maxHeartbeats 400000 in
theorem special_digit (s : ByteArray) (w : World) (c : Nat) (h1 : 1 ≤ s.size) (h2 : s.size ≤ 1000) (hc : (s[0]'h1).toNat = c) (c1 : 48 ≤ c) (c2 : c ≤ 57) :
    Calls Tryz.prog 90 #[.string s] w fun e w' => e = .returned (.tuple #[.float .f64 0, .int .i64 0, .bool false]) ∧ w = w' := by
  have t0 : ((s.size : Int) == 0) = false := by rw [beq_eq_false_iff_ne]; omega
  have t1 : ((c : Int) == 43) = false := by rw [beq_eq_false_iff_ne]; omega
  have t2 : ((c : Int) == 45) = false := by rw [beq_eq_false_iff_ne]; omega
  have t3 : ((c : Int) == 105) = false := by rw [beq_eq_false_iff_ne]; omega
  have t4 : ((c : Int) == 73) = false := by rw [beq_eq_false_iff_ne]; omega
  have t5 : ((c : Int) == 110) = false := by rw [beq_eq_false_iff_ne]; omega
  have t6 : ((c : Int) == 78) = false := by rw [beq_eq_false_iff_ne]; omega
  go_enter Tryz.func90, Tryz.ntmps90
  go_wp2
  go_returns
  exact ⟨rfl, rfl⟩
set_option maxRecDepth 100000 in
set_option maxHeartbeats 400000 in
theorem special_minus (s : ByteArray) (w : World) (c : Nat) (h1 : 2 ≤ s.size) (h2 : s.size ≤ 1000) (h0 : (s[0]'(by omega)).toNat = 45) (hc : (s[1]'(by omega)).toNat = c) (c1 : 48 ≤ c) (c2 : c ≤ 57) :
    Calls Tryz.prog 90 #[.string s] w fun e w' => e = .returned (.tuple #[.float .f64 0, .int .i64 0, .bool false]) ∧ w = w' := by
  have t0 : ((s.size : Int) == 0) = false := by rw [beq_eq_false_iff_ne]; omega
  go_enter Tryz.func90, Tryz.ntmps90
  go_wp2_with fail
  refine (common_walk _ _ c (by simp; omega) (by simp; omega) (by rw [ByteArray.getElem_extract]; exact hc) c1 c2).mono ?_; rintro e w1 ⟨rfl, rfl⟩
  go_wp2
  go_returns
  exact ⟨rfl, rfl⟩
end Go.Proofs.YtglamimbkdldaaaGreatDoor
