import Derived.Test.YtglamimbkdldaaaGreatDoorFf
namespace Go.Proofs.YtglamimbkdldaaaGreatDoor
open Go.RowKit Go.Sort

set_option maxRecDepth 100000 in
/-- FormatFloat at 1.5e+00. -/
theorem sf_a (w : World) (T : Tabs w) : Calls Tryz.prog 83 #[.int .u64 ((((2251799813685248 : Nat) : Int) + 4503599627370496) * 2048), .int .i64 (((1023 : Nat) : Int) + -1023 - 11 - 52)] w fun e w' => e = .returned (.tuple #[.int .u64 (1500000000000000 : Nat), .int .i64 (-15)]) ∧ Ext w w' := by
  obtain ⟨t1, t2, t3⟩ := tab_ok 364 (by decide)
  have e0 : uscS 13835058055282162688 (tabHi 364) (tabLo 364) 7 = 59999999999999995 := by decide +kernel
  have e1 : uscS 13835058055282164736 (tabHi 364) (tabLo 364) 7 = 60000000000000005 := by decide +kernel
  have e2 : uscS 13835058055282163712 (tabHi 364) (tabLo 364) 7 = 60000000000000000 := by decide +kernel
  have hh : ∀ y, 9223372036854775808 ≤ y → 18446744073709551616 ≤ y * tabHi 364 := fun y hy =>
    Nat.le_trans (by decide) (Nat.mul_le_mul hy t1)
  have h := sf_walk0 13835058055282163712 59999999999999995 60000000000000005 60000000000000000 59999999999999995 60000000000000005 7 (tabHi 364) (tabLo 364) 364 (-63) 53 0 w (by decide) (by decide) (by decide) (by decide) (by decide) (by decide) (by decide) (by decide) (by decide) (by decide) (by decide) (by decide) (by decide) (by decide) (by decide) (by decide) (by decide) (by decide) (by decide) T.size
    (fun w => by have := log2p10_walk (16) w (by decide) (by decide); exact this)
    (fun w k c0 c1 c2 => by have := uscaleG 13835058055282162688 _ _ k 7 w (by decide) (by decide) (by omega) t3 (hh _ (by decide)) c0 c1 c2; rw [e0] at this; exact this)
    (fun w k c0 c1 c2 => by have := uscaleG 13835058055282164736 _ _ k 7 w (by decide) (by decide) (by omega) t3 (hh _ (by decide)) c0 c1 c2; rw [e1] at this; exact this)
    (fun w k c0 c1 c2 => by have := uscaleG 13835058055282163712 _ _ k 7 w (by decide) (by decide) (by omega) t3 (hh _ (by decide)) c0 c1 c2; rw [e2] at this; exact this)
    (T.hi 364 (by decide)) (T.lo 364 (by decide))
  exact h

set_option maxRecDepth 100000 in
theorem iff_a (w : World) (T : Tabs w) : Calls Tryz.prog 42 #[.float .f64 4609434218613702656, .int .u8 101, .int .i64 (-1), .int .i64 64] w fun e w' => e = .returned (.string ⟨#[49, 46, 53, 101, 43, 48, 48]⟩) ∧ Below w.heap.size w w' := by
  have ht : (if false then [45] else []) ++ digT (fun t => Lib.dg 1500000000000000 (16 - 1 - t)) 2 ++ expT (0) = [49, 46, 53, 101, 43, 48, 48] := by decide +kernel
  have hn : 16 = Lib.nDigits 1500000000000000 := (Lib.nDigits_unique 15 1500000000000000 (by decide) (by decide)).symm
  refine iff_walk 4609434218613702656 [49, 46, 53, 101, 43, 48, 48] w T (by decide) fun v w1 T1 hO hB => ?_
  have h := ft_walk0 4609434218613702656 1023 2251799813685248 1500000000000000 16 2 (-15) (0) false v w w1 T1 hO hB (by decide) (by decide) (by decide) (by decide) (by decide) (by decide) (by decide) (by decide) (by decide) (by decide) hn (by decide) (by decide +kernel) (by decide) (by decide) (by decide) (by decide) (by decide)
    (fun w => by have := Tryz.bits_Len64 (((2251799813685248 : Nat) : Int) + 4503599627370496) w (by decide) (by decide); exact this) (fun w T => sf_a w T)
  rw [ht] at h
  exact h

set_option maxRecDepth 100000 in
/-- FormatFloat at 3.333333333333333e-01. -/
theorem sf_b (w : World) (T : Tabs w) : Calls Tryz.prog 83 #[.int .u64 ((((1501199875790165 : Nat) : Int) + 4503599627370496) * 2048), .int .i64 (((1021 : Nat) : Int) + -1023 - 11 - 52)] w fun e w' => e = .returned (.tuple #[.int .u64 (3333333333333333 : Nat), .int .i64 (-16)]) ∧ Ext w w' := by
  obtain ⟨t1, t2, t3⟩ := tab_ok 365 (by decide)
  have e0 : uscS 12297829382473032704 (tabHi 365) (tabLo 365) 6 = 133333333333333315 := by decide +kernel
  have e1 : uscS 12297829382473034752 (tabHi 365) (tabLo 365) 6 = 133333333333333337 := by decide +kernel
  have e2 : uscS 12297829382473033728 (tabHi 365) (tabLo 365) 6 = 133333333333333325 := by decide +kernel
  have hh : ∀ y, 9223372036854775808 ≤ y → 18446744073709551616 ≤ y * tabHi 365 := fun y hy =>
    Nat.le_trans (by decide) (Nat.mul_le_mul hy t1)
  have h := sf_walk0 12297829382473033728 133333333333333315 133333333333333337 133333333333333325 133333333333333316 133333333333333336 6 (tabHi 365) (tabLo 365) 365 (-65) 56 1 w (by decide) (by decide) (by decide) (by decide) (by decide) (by decide) (by decide) (by decide) (by decide) (by decide) (by decide) (by decide) (by decide) (by decide) (by decide) (by decide) (by decide) (by decide) (by decide) T.size
    (fun w => by have := log2p10_walk (17) w (by decide) (by decide); exact this)
    (fun w k c0 c1 c2 => by have := uscaleG 12297829382473032704 _ _ k 6 w (by decide) (by decide) (by omega) t3 (hh _ (by decide)) c0 c1 c2; rw [e0] at this; exact this)
    (fun w k c0 c1 c2 => by have := uscaleG 12297829382473034752 _ _ k 6 w (by decide) (by decide) (by omega) t3 (hh _ (by decide)) c0 c1 c2; rw [e1] at this; exact this)
    (fun w k c0 c1 c2 => by have := uscaleG 12297829382473033728 _ _ k 6 w (by decide) (by decide) (by omega) t3 (hh _ (by decide)) c0 c1 c2; rw [e2] at this; exact this)
    (T.hi 365 (by decide)) (T.lo 365 (by decide))
  exact h

set_option maxRecDepth 100000 in
theorem iff_b (w : World) (T : Tabs w) : Calls Tryz.prog 42 #[.float .f64 4599676419421066581, .int .u8 101, .int .i64 (-1), .int .i64 64] w fun e w' => e = .returned (.string ⟨#[51, 46, 51, 51, 51, 51, 51, 51, 51, 51, 51, 51, 51, 51, 51, 51, 51, 101, 45, 48, 49]⟩) ∧ Below w.heap.size w w' := by
  have ht : (if false then [45] else []) ++ digT (fun t => Lib.dg 3333333333333333 (16 - 1 - t)) 16 ++ expT (-1) = [51, 46, 51, 51, 51, 51, 51, 51, 51, 51, 51, 51, 51, 51, 51, 51, 51, 101, 45, 48, 49] := by decide +kernel
  have hn : 16 = Lib.nDigits 3333333333333333 := (Lib.nDigits_unique 15 3333333333333333 (by decide) (by decide)).symm
  refine iff_walk 4599676419421066581 [51, 46, 51, 51, 51, 51, 51, 51, 51, 51, 51, 51, 51, 51, 51, 51, 51, 101, 45, 48, 49] w T (by decide) fun v w1 T1 hO hB => ?_
  have h := ft_walk0 4599676419421066581 1021 1501199875790165 3333333333333333 16 16 (-16) (-1) false v w w1 T1 hO hB (by decide) (by decide) (by decide) (by decide) (by decide) (by decide) (by decide) (by decide) (by decide) (by decide) hn (by decide) (by decide +kernel) (by decide) (by decide) (by decide) (by decide) (by decide)
    (fun w => by have := Tryz.bits_Len64 (((1501199875790165 : Nat) : Int) + 4503599627370496) w (by decide) (by decide); exact this) (fun w T => sf_b w T)
  rw [ht] at h
  exact h
end Go.Proofs.YtglamimbkdldaaaGreatDoor
