import Derived.Test.YtbggdkpcgcmepaaGreatDoorProg
import Derived.Test.YtbggdkpcgcmepaaGreatDoorBase
import Derived.Test.YtbggdkpcgcmepaaGreatDoorShelf
import Derived.Handy
import Derived.Deep.Light
namespace Go.Proofs.YtbggdkpcgcmepaaGreatDoor
open Go.RowKit Go.Sort

set_option maxHeartbeats 400000 in
theorem bool2u_walk (b : Bool) (w : World) : Calls Tryz.prog 102 #[.bool b] w fun e w' => e = .returned (.int .u64 b.toNat) ∧ w = w' := by
  cases b
  all_goals go_enter Tryz.func102, Tryz.ntmps102
  all_goals go_wp2
  all_goals go_ret
  all_goals exact ⟨rfl, rfl⟩
set_option maxHeartbeats 400000 in
theorem bool2i_walk (b : Bool) (w : World) : Calls Tryz.prog 90 #[.bool b] w fun e w' => e = .returned (.int .i64 b.toNat) ∧ w = w' := by
  cases b
  all_goals go_enter Tryz.func90, Tryz.ntmps90
  all_goals go_wp2
  all_goals go_ret
  all_goals exact ⟨rfl, rfl⟩
set_option maxHeartbeats 400000 in
theorem unmin53_walk (w : World) : Calls Tryz.prog 116 #[.int .u64 9007199254740992] w fun e w' => e = .returned (.int .u64 36028797018963966) ∧ w = w' := by
  go_enter Tryz.func116, Tryz.ntmps116
  go_wp2
  go_ret
  exact ⟨rfl, rfl⟩
set_option maxHeartbeats 400000 in
theorem log2p10_walk (p : Int) (w : World) (h1 : -1000 ≤ p) (h2 : p ≤ 1000) : Calls Tryz.prog 113 #[.int .i64 p] w fun e w' => e = .returned (.int .i64 (p * 108853 / 32768)) ∧ w = w' := by
  go_enter Tryz.func113, Tryz.ntmps113
  go_wp2
  go_ret
  exact ⟨rfl, rfl⟩
set_option maxHeartbeats 400000 in
theorem round_walk (u : Nat) (w : World) (h : u < 1152921504606846976) : Calls Tryz.prog 118 #[.int .u64 u] w fun e w' => e = .returned (.int .u64 ((u + 1 + u / 4 % 2) / 4 : Nat)) ∧ w = w' := by
  have hb : bits BinOp.and IntKind.u64 ((u : Int) / 4) 1 = (u : Int) / 4 % 2 := and_one_u64 _ (by omega) (by omega)
  have hw : IntKind.u64.wrap ((u : Int) + 1 + (u : Int) / 4 % 2) = (u : Int) + 1 + (u : Int) / 4 % 2 := by rw [IntKind.wrap_u64]; omega
  go_enter Tryz.func118, Tryz.ntmps118
  go_wp2
  go_ret
  exact ⟨ret_int (by simp), rfl⟩

/-- The difference of two words. -/
def subW (a b : Nat) : Nat := if a < b then a + 18446744073709551616 - b else a - b
/-- uscale's answer at a shift of 8, of the two products' words. -/
def uscOf (H M m2 : Nat) : Nat :=
  if H / 256 * 256 ≠ H then H / 256 ||| 1
  else (H - (decide (M < m2)).toNat) / 256 ||| (decide (1 < subW M m2)).toNat
def usc (x hi lo : Nat) : Nat := uscOf (x * hi / 18446744073709551616) (x * hi % 18446744073709551616) (x * lo / 18446744073709551616)
theorem wrap_subW (a b : Nat) (ha : a ≤ 18446744073709551615) (hb : b ≤ 18446744073709551615) : IntKind.u64.wrap ((a : Int) - (b : Int)) = (subW a b : Nat) := by
  rw [IntKind.wrap_u64]; unfold subW; split <;> omega
theorem subW_le (a b : Nat) (ha : a ≤ 18446744073709551615) (hb : b ≤ 18446744073709551615) : subW a b ≤ 18446744073709551615 := by
  unfold subW; split <;> omega
theorem toNat_le_one (b : Bool) : b.toNat ≤ 1 := by cases b <;> decide

set_option maxHeartbeats 400000 in
theorem uscale_walk0 (x hi lo b H M m2 l2 : Nat) (w : World) (hH0 : 0 < H) (hH : H ≤ 18446744073709551615) (hM : M ≤ 18446744073709551615) (hm2 : m2 ≤ 18446744073709551615)
    (hm : ∀ w, Calls Tryz.prog 122 #[.int .u64 x, .int .u64 hi] w fun e w' => e = .returned (.tuple #[.int .u64 H, .int .u64 M]) ∧ w' = w)
    (hmm : ∀ w, Calls Tryz.prog 122 #[.int .u64 x, .int .u64 lo] w fun e w' => e = .returned (.tuple #[.int .u64 m2, .int .u64 l2]) ∧ w' = w)
    (c0 : w.cell? ⟨b, 0, none⟩ = some (.int .u64 hi)) (c1 : w.cell? ⟨b, 1, none⟩ = some (.int .u64 lo)) (c2 : w.cell? ⟨b, 2, none⟩ = some (.int .i64 8)) :
    Calls Tryz.prog 115 #[.int .u64 x, .pointer (some ⟨b, 0, none⟩)] w fun e w' => e = .returned (.int .u64 (uscOf H M m2)) ∧ ∃ n, w' = w.drewN n := by
  have h8 : bits BinOp.and IntKind.i64 8 63 = 8 := by decide
  have K1 := Lib.hid hm
  have K2 := Lib.hid hmm
  clear hm hmm
  go_enter Tryz.func115, Tryz.ntmps115
  go_wp2_with fail
  refine (K1.out _).mono ?_; rintro e w' ⟨rfl, rfl⟩
  go_wp2_with fail
  · rename_i hne
    have ho : bits BinOp.or IntKind.u64 ((H : Int) / 256) 1 = ((H / 256 ||| 1 : Nat) : Int) := by
      have := u64_or_nat (H / 256) 1 (by omega) (by omega)
      simpa using this
    have hf : uscOf H M m2 = H / 256 ||| 1 := by
      unfold uscOf; rw [if_pos]; simp at hne; omega
    go_ret
    exact ⟨ret_int (by rw [hf]; simpa using ho), 0, rfl⟩
  · have hne : ((H : Int) / 256 * 256 != (H : Int)) = false := by assumption
    refine (K2.out _).mono ?_; rintro e w1 ⟨rfl, rfl⟩
    obtain ⟨H1, hH1⟩ : ∃ H1, H1 = H - (decide (M < m2)).toNat := ⟨_, rfl⟩
    obtain ⟨D, hDv⟩ : ∃ D, D = subW M m2 := ⟨_, rfl⟩
    have hD : D ≤ 18446744073709551615 := by rw [hDv]; exact subW_le _ _ hM hm2
    have hH1l : H1 ≤ 18446744073709551615 := by omega
    have e1 : IntKind.u64.wrap ((H : Int) - (((decide (M < m2)).toNat : Nat) : Int)) = (H1 : Int) := by
      have := toNat_le_one (decide (M < m2))
      rw [IntKind.wrap_u64]; omega
    have e2 : IntKind.u64.wrap ((M : Int) - (m2 : Int)) = (D : Int) := by rw [hDv]; exact wrap_subW M m2 hM hm2
    have e3 : bits BinOp.or IntKind.u64 ((H1 : Int) / 256) (((decide ((1 : Int) < (D : Int))).toNat : Nat) : Int) = ((H1 / 256 ||| (decide (1 < D)).toNat : Nat) : Int) := by
      rw [show decide ((1 : Int) < (D : Int)) = decide (1 < D) from decide_eq_decide.2 (by omega)]
      have hq := toNat_le_one (decide (1 < D))
      have := u64_or_nat (H1 / 256) (decide (1 < D)).toNat (by omega) (by omega)
      simpa using this
    have hf : Hid (uscOf H M m2 = H1 / 256 ||| (decide (1 < D)).toNat) := by
      rw [hH1, hDv]; show uscOf H M m2 = _
      unfold uscOf; rw [if_neg (by simp at hne; omega)]
    clear hH1 hDv
    go_wp2_with (go_at_call 102; refine (bool2u_walk _ _).mono ?_; rintro e w' ⟨rfl, rfl⟩)
    go_quiet ((go_at_call 102; exact quiet_left (bool2u_walk _ _)))
    go_wp2
    go_ret
    exact ⟨ret_int (by rw [hf.out]), _, rfl⟩
/-- uscale at a scaler whose shift is 8. -/
theorem uscale_walk (x hi lo b : Nat) (w : World) (hx : x < 18446744073709551616) (hh : hi < 18446744073709551616) (hl : lo < 18446744073709551616) (hxh : 18446744073709551616 ≤ x * hi)
    (c0 : w.cell? ⟨b, 0, none⟩ = some (.int .u64 hi)) (c1 : w.cell? ⟨b, 1, none⟩ = some (.int .u64 lo)) (c2 : w.cell? ⟨b, 2, none⟩ = some (.int .i64 8)) :
    Calls Tryz.prog 115 #[.int .u64 x, .pointer (some ⟨b, 0, none⟩)] w fun e w' => e = .returned (.int .u64 (usc x hi lo)) ∧ ∃ n, w' = w.drewN n := by
  have hd : ∀ y, y < 18446744073709551616 → x * y / 18446744073709551616 ≤ 18446744073709551615 := fun y hy => by
    have h1 : x * y < 18446744073709551616 * 18446744073709551616 := Nat.mul_lt_mul'' hx hy
    have := Nat.div_lt_of_lt_mul h1
    omega
  exact uscale_walk0 x hi lo b _ _ _ _ w (Nat.div_pos hxh (by decide)) (hd hi hh) (by omega) (hd lo hl) (Tryz.bits_Mul64 x hi hx hh) (Tryz.bits_Mul64 x lo hx hl) c0 c1 c2
end Go.Proofs.YtbggdkpcgcmepaaGreatDoor
