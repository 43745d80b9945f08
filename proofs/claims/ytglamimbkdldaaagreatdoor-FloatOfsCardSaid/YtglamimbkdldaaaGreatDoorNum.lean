import Derived.Test.YtglamimbkdldaaaGreatDoorRfBase
import Derived.Lib.ItoaNum
namespace Go.Proofs.YtglamimbkdldaaaGreatDoor
open Go.Lib

theorem nDigits_low (u : Nat) (h : 1 ≤ u) : 10 ^ (nDigits u - 1) ≤ u := by
  induction u using Nat.strongRecOn with
  | _ u ih =>
    by_cases h10 : u < 10
    · rw [nDigits_small h10]; simpa using h
    · rw [nDigits_big h10]
      have := ih (u / 10) (by omega) (by omega)
      have hp := nDigits_pos (u / 10)
      rw [Nat.add_sub_cancel, show nDigits (u / 10) = (nDigits (u / 10) - 1) + 1 by omega, Nat.pow_succ]
      omega
theorem nDigits_le (u n : Nat) (h : u < 10 ^ n) (hn : 1 ≤ n) : nDigits u ≤ n := by
  rcases Nat.eq_zero_or_pos u with h0 | h0
  · rw [h0, nDigits_small (by decide)]; exact hn
  · rcases Nat.lt_or_ge n (nDigits u) with h1 | h1
    · exfalso
      have a := nDigits_low u h0
      have b : 10 ^ n ≤ 10 ^ (nDigits u - 1) := Nat.pow_le_pow_right (by decide) (by omega)
      omega
    · exact h1
theorem decDigits_at (u t : Nat) (ht : t < nDigits u) : ((decDigits u).getD t 0).toNat = 48 + u / 10 ^ (nDigits u - 1 - t) % 10 := by
  rw [decDigits_eq, List.getD_eq_getElem?_getD, List.getElem?_map, List.getElem?_range ht]
  simp only [Option.map_some, Option.getD_some, dg]
  have : u / 10 ^ (nDigits u - 1 - t) % 10 < 10 := Nat.mod_lt _ (by decide)
  simp [UInt8.toNat_ofNat']
  omega
/-- The value of the first k digits. -/
def preV (u k : Nat) : Nat := u / 10 ^ (nDigits u - k)
theorem preV_zero (u : Nat) : preV u 0 = 0 := by
  unfold preV; rw [Nat.sub_zero]; exact Nat.div_eq_of_lt (lt_pow_nDigits u)
theorem preV_all (u : Nat) : preV u (nDigits u) = u := by
  unfold preV; rw [Nat.sub_self]; simp
theorem preV_succ (u k : Nat) (h : k < nDigits u) : preV u (k + 1) = preV u k * 10 + u / 10 ^ (nDigits u - 1 - k) % 10 := by
  unfold preV
  obtain ⟨t, ht⟩ : ∃ t, nDigits u - 1 - k = t := ⟨_, rfl⟩
  rw [show nDigits u - (k + 1) = t by omega, show nDigits u - k = t + 1 by omega, ht, Nat.pow_succ, ← Nat.div_div_eq_div_mul]
  omega
theorem preV_le (u k : Nat) : preV u k ≤ u := Nat.div_le_self _ _

theorem getD_app_left {a b : List UInt8} {i : Nat} (h : i < a.length) : (a ++ b).getD i 0 = a.getD i 0 := by
  simp [List.getD_eq_getElem?_getD, List.getElem?_append, h]
theorem getD_app_right {a b : List UInt8} {n i : Nat} (h : a.length = n) : (a ++ b).getD (n + i) 0 = b.getD i 0 := by
  subst h; rw [List.getD_eq_getElem?_getD, List.getD_eq_getElem?_getD, List.getElem?_append_right (by omega), Nat.add_sub_cancel_left]

/-- The text of a mantissa and an exponent, as readFloat reads it. -/
theorem numeral_of (s : ByteArray) (sg eg : List UInt8) (u v : Nat) (hs : s.data.toList = sg ++ (decDigits u ++ (101 :: (eg ++ decDigits v)))) (hu : 1 ≤ u) (hu' : u ≤ 999999999999999) (hv : v ≤ 9999) :
    Numeral s sg.length (nDigits u) eg.length (nDigits v) (fun i => (s.data.toList.getD i 0).toNat) (preV u) (preV v) := by
  have hn15 : nDigits u ≤ 15 := nDigits_le u 15 (by omega) (by decide)
  have hm4 : nDigits v ≤ 4 := nDigits_le v 4 (by omega) (by decide)
  have hlu := decDigits_length u
  have hlv := decDigits_length v
  have hat : ∀ k, k < nDigits u → (s.data.toList.getD (sg.length + k) 0).toNat = 48 + u / 10 ^ (nDigits u - 1 - k) % 10 := fun k hk => by
    rw [hs, getD_app_right rfl, getD_app_left (by omega)]; exact decDigits_at u k hk
  have hat2 : ∀ k, k < nDigits v → (s.data.toList.getD (sg.length + nDigits u + 1 + eg.length + k) 0).toNat = 48 + v / 10 ^ (nDigits v - 1 - k) % 10 := fun k hk => by
    rw [hs, show sg.length + nDigits u + 1 + eg.length + k = sg.length + (nDigits u + (eg.length + k + 1)) by omega, getD_app_right rfl, getD_app_right hlu, List.getD_cons_succ, getD_app_right rfl]
    exact decDigits_at v k hk
  refine { byte := ?_, size := ?_, n1 := nDigits_pos u, n2 := hn15, m1 := nDigits_pos v, m2 := hm4, dig := ?_, fst := ?_, e := ?_, v0 := preV_zero u, v1 := ?_, v2 := fun k _ => Nat.le_trans (preV_le u k) hu', edig := ?_, w0 := preV_zero v, w1 := ?_, w2 := fun k _ => Nat.le_trans (preV_le v k) hv }
  · intro i h
    have h' : i < s.data.toList.length := h
    show (s[i]'h).toNat = (s.data.toList.getD i 0).toNat
    rw [List.getD_eq_getElem?_getD, List.getElem?_eq_getElem h']
    rfl
  · have : s.size = s.data.toList.length := rfl
    rw [this, hs]; simp only [List.length_append, List.length_cons]; omega
  · intro k hk
    show 48 ≤ (s.data.toList.getD (sg.length + k) 0).toNat ∧ (s.data.toList.getD (sg.length + k) 0).toNat ≤ 57
    rw [hat k hk]; omega
  · show (s.data.toList.getD sg.length 0).toNat ≠ 48
    have h0 := hat 0 (nDigits_pos u)
    rw [Nat.add_zero] at h0
    rw [h0, Nat.sub_zero]
    have a := nDigits_low u hu
    have b := lt_pow_nDigits u
    have hp := nDigits_pos u
    have c : u / 10 ^ (nDigits u - 1) < 10 := by
      rw [Nat.div_lt_iff_lt_mul (Nat.pow_pos (by decide))]
      calc u < 10 ^ nDigits u := b
        _ = 10 * 10 ^ (nDigits u - 1) := by rw [← Nat.pow_succ', show (nDigits u - 1).succ = nDigits u by omega]
    have d : 1 ≤ u / 10 ^ (nDigits u - 1) := (Nat.le_div_iff_mul_le (Nat.pow_pos (by decide))).2 (by omega)
    omega
  · show (s.data.toList.getD (sg.length + nDigits u) 0).toNat = 101
    rw [hs, getD_app_right rfl, show nDigits u = nDigits u + 0 from rfl, getD_app_right hlu]; rfl
  · intro k hk
    show preV u (k + 1) = preV u k * 10 + ((s.data.toList.getD (sg.length + k) 0).toNat - 48)
    rw [hat k hk, preV_succ u k hk]; omega
  · intro k hk
    show 48 ≤ (s.data.toList.getD (sg.length + nDigits u + 1 + eg.length + k) 0).toNat ∧ (s.data.toList.getD (sg.length + nDigits u + 1 + eg.length + k) 0).toNat ≤ 57
    rw [hat2 k hk]; omega
  · intro k hk
    show preV v (k + 1) = preV v k * 10 + ((s.data.toList.getD (sg.length + nDigits u + 1 + eg.length + k) 0).toNat - 48)
    rw [hat2 k hk, preV_succ v k hk]; omega
end Go.Proofs.YtglamimbkdldaaaGreatDoor
