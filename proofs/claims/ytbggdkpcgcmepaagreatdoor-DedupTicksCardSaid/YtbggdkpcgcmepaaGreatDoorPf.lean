import Derived.Test.YtbggdkpcgcmepaaGreatDoorScale
namespace Go.Proofs.YtbggdkpcgcmepaaGreatDoor
open Go.RowKit Go.Sort
/-- The bodyless functions between a float and its bits. -/
theorem run_ffb (n : Int) (w : World) : (callFunc 103 #[.int .u64 n]).run Tryz.prog w = .ok (.value (.float .f64 n.toNat)) w := by
  rw [run_callFunc_extern Tryz.func103 (by kernel_rfl) (by kernel_rfl) (by kernel_rfl) (e := Extern.MathFloatBits.float64frombits) (by kernel_rfl)]; rfl
theorem run_f64b (n : Nat) (w : World) : (callFunc 59 #[.float .f64 n]).run Tryz.prog w = .ok (.value (.int .u64 n)) w := by
  rw [run_callFunc_extern Tryz.func59 (by kernel_rfl) (by kernel_rfl) (by kernel_rfl) (e := Extern.MathFloatBits.float64bits) (by kernel_rfl)]; rfl
attribute [local go_sem] run_ffb run_f64b

set_option maxHeartbeats 400000 in
theorem prescale_walk (x lp : Int) (p : Nat) (hi lo : Int) (w : World) (hp : p < 696) (hx : -10000 ≤ x) (hx' : x ≤ 10000) (hl : -10000 ≤ lp) (hl' : lp ≤ 10000) (hsz : 12 < w.heap.size)
    (c0 : w.cell? ⟨12, p * 2, none⟩ = some (.int .u64 hi)) (c1 : w.cell? ⟨12, p * 2 + 1, none⟩ = some (.int .u64 lo)) :
    Calls Tryz.prog 114 #[.pointer (some ⟨w.heap.size, 0, none⟩), .int .i64 x, .int .i64 ((p : Int) - 348), .int .i64 lp] (w.alloc (.cells #[.int .u64 0, .int .u64 0, .int .i64 0] 160)) fun e w' => e = .returned (.tuple #[]) ∧
      w' = w.alloc (.cells #[.int .u64 hi, .int .u64 lo, .int .i64 (-(x + lp + 3))] 160) := by
  go_enter Tryz.func114, Tryz.ntmps114
  go_wp2
  go_end0
  exact ⟨rfl, rfl⟩
set_option maxRecDepth 100000 in
set_option maxHeartbeats 400000 in
theorem pack_walk0 (m m0 r : Nat) (x : Int) (w : World) (hx : -1074 ≤ x) (hx' : x < 972) (_hm0 : m0 ≤ 18446744073709551615)
    (ha : (bits BinOp.and IntKind.u64 (m : Int) 4503599627370496 == 0) = false)
    (hn : bits BinOp.andNot IntKind.u64 (m : Int) 4503599627370496 = (m0 : Int))
    (ho : Hid ((bits BinOp.or IntKind.u64 (m0 : Int) ((1075 + x) * 4503599627370496)).toNat = r)) :
    Calls Tryz.prog 121 #[.int .u64 m, .int .i64 x] w fun e w' => e = .returned (.tuple #[.float .f64 r, .nilIface]) ∧ w' = w := by
  go_enter Tryz.func121, Tryz.ntmps121
  go_wp2
  go_ret2
  refine ⟨?_, rfl⟩
  show Ending.returned (.tuple #[.float .f64 (bits BinOp.or IntKind.u64 (m0 : Int) ((1075 + x) * 4503599627370496)).toNat, .nilIface]) = _
  rw [ho.out]

theorem and52 (s r : Nat) (hs : s = 0 ∨ s = 9223372036854775808) (hr : 4503599627370496 ≤ r) (hr' : r < 9007199254740992) : (s + r) &&& 4503599627370496 = 4503599627370496 := by
  rw [show (4503599627370496 : Nat) = 2 ^ 52 from by decide, nat_bit]
  have : (s + r) / 2 ^ 52 % 2 = 1 := by rcases hs with rfl | rfl <;> omega
  omega
theorem join52 (s q k : Nat) (hs : s = 0 ∨ s = 9223372036854775808) (hq : q < 4503599627370496) (hk : k < 2048) : s ||| (k * 4503599627370496 ||| q) = s + q + k * 4503599627370496 := by
  rw [nat_join 52 (k * 4503599627370496) q (by omega) (by omega), nat_join 63 s _ (by rcases hs with rfl | rfl <;> decide) (by omega)]; omega
theorem or52 (s q k : Nat) (hs : s = 0 ∨ s = 9223372036854775808) (hq : q < 4503599627370496) (hk : k < 2048) : (s + q) ||| (k * 4503599627370496) = s + q + k * 4503599627370496 := by
  rw [← join52 s q k hs hq hk, ← nat_join 63 s q (by rcases hs with rfl | rfl <;> decide) (by omega), Nat.or_assoc, Nat.or_comm q]
theorem andNot52 (s r : Nat) (hs : s = 0 ∨ s = 9223372036854775808) (hr : 4503599627370496 ≤ r) (hr' : r < 9007199254740992) : (s + r) &&& (18446744073709551615 - 4503599627370496) = s + (r - 4503599627370496) := by
  have e1 : s + r = (s + (r - 4503599627370496)) ||| (1 * 4503599627370496) := by rw [or52 s _ 1 hs (by omega) (by decide)]; omega
  have hlt : s + (r - 4503599627370496) < 2 ^ 64 := by rcases hs with rfl | rfl <;> omega
  have e2 : (18446744073709551615 - 4503599627370496 : Nat) = (2 ^ 64 - 1) ^^^ 4503599627370496 := by decide
  have e3 : (s + (r - 4503599627370496)) &&& 4503599627370496 = 0 := by
    rw [show (4503599627370496 : Nat) = 2 ^ 52 from by decide, nat_bit]
    have : (s + (r - 2 ^ 52)) / 2 ^ 52 % 2 = 0 := by rcases hs with rfl | rfl <;> omega
    rw [this]
  have e4 : (1 * 4503599627370496 : Nat) &&& (18446744073709551615 - 4503599627370496) = 0 := by decide
  rw [e1, Nat.and_or_distrib_right, e4, Nat.or_zero, e2, Nat.and_xor_distrib_left, e3, Nat.xor_zero]
  exact Nat.and_two_pow_sub_one_of_lt_two_pow hlt
/-- pack64 at a whole mantissa. -/
theorem pack_walk (s r : Nat) (x : Int) (w : World) (hs : s = 0 ∨ s = 9223372036854775808) (hr : 4503599627370496 ≤ r) (hr' : r < 9007199254740992) (hx : -1074 ≤ x) (hx' : x < 972) :
    Calls Tryz.prog 121 #[.int .u64 (s + r : Nat), .int .i64 x] w fun e w' => e = .returned (.tuple #[.float .f64 (s + (r - 4503599627370496) + (1075 + x).toNat * 4503599627370496), .nilIface]) ∧ w' = w := by
  have hl : s + r < 18446744073709551616 := by rcases hs with rfl | rfl <;> omega
  refine pack_walk0 (s + r) (s + (r - 4503599627370496)) _ x w hx hx' (by omega) ?_ ?_ ?_
  · have := u64_and_nat (s + r) 4503599627370496 hl (by decide)
    rw [and52 s r hs hr hr'] at this
    rw [show (4503599627370496 : Int) = ((4503599627370496 : Nat) : Int) from rfl, this]; decide
  · have := u64_andNot_nat (s + r) 4503599627370496 hl (by decide)
    rw [andNot52 s r hs hr hr'] at this
    exact this
  · obtain ⟨k, hk⟩ : ∃ k : Nat, 1075 + x = (k : Int) := ⟨(1075 + x).toNat, by omega⟩
    show (bits _ _ _ _).toNat = _
    rw [hk, Int.toNat_natCast]
    have := u64_or_nat (s + (r - 4503599627370496)) (k * 4503599627370496) (by omega) (by omega)
    rw [or52 _ _ _ hs (by omega) (by omega)] at this
    rw [show ((k : Int) * 4503599627370496) = ((k * 4503599627370496 : Nat) : Int) from by omega, this, Int.toNat_natCast]
end Go.Proofs.YtbggdkpcgcmepaaGreatDoor
