import Derived.Test.YtglamimbkdldaaaGreatDoorProg
import Derived.Test.YtglamimbkdldaaaGreatDoorBase
import Derived.Handy
namespace Go.Proofs.YtglamimbkdldaaaGreatDoor
open Go.RowKit Go.Sort

theorem lower_walk (w : World) : Calls Tryz.prog 88 #[.int .u8 101] w fun e w' => e = .returned (.int .u8 101) ∧ w = w' := by
  go_enter Tryz.func88, Tryz.ntmps88
  go_wp2
  go_ret
  exact ⟨rfl, rfl⟩

/-- What the text holds: a sign, digits, an e, a sign, digits. B: its bytes; V, W: the values of the digits' beginnings. -/
structure Numeral (s : ByteArray) (a n z m : Nat) (B V W : Nat → Nat) : Prop where
  byte : ∀ i (h : i < s.size), (s[i]'h).toNat = B i
  size : s.size = a + n + 1 + z + m
  n1 : 1 ≤ n
  n2 : n ≤ 15
  m1 : 1 ≤ m
  m2 : m ≤ 4
  dig : ∀ k, k < n → 48 ≤ B (a + k) ∧ B (a + k) ≤ 57
  fst : B a ≠ 48
  e : B (a + n) = 101
  v0 : V 0 = 0
  v1 : ∀ k, k < n → V (k + 1) = V k * 10 + (B (a + k) - 48)
  v2 : ∀ k, k ≤ n → V k ≤ 999999999999999
  edig : ∀ k, k < m → 48 ≤ B (a + n + 1 + z + k) ∧ B (a + n + 1 + z + k) ≤ 57
  w0 : W 0 = 0
  w1 : ∀ k, k < m → W (k + 1) = W k * 10 + (B (a + n + 1 + z + k) - 48)
  w2 : ∀ k, k ≤ m → W k ≤ 9999

end Go.Proofs.YtglamimbkdldaaaGreatDoor
