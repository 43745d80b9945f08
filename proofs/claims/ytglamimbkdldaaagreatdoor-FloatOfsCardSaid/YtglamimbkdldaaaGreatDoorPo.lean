/-
  What Clean's values and their bits are: plain laws for the order, the opposite, the double. No program in sight.
-/
import Derived.Test.YtglamimbkdldaaaGreatDoorBc
import Derived.Test.YtglamimbkdldaaaGreatDoorCl
namespace Go.Proofs.YtglamimbkdldaaaGreatDoor
open Go.RowKit Go.Sort

theorem strip_ex : ∀ (f : Nat) (m : Int), m ≠ 0 → m.natAbs < 10 ^ f → ∃ (mm : Int) (k : Nat), m = mm * 10 ^ k ∧ mm % 10 ≠ 0
  | 0, m, h0, h => by simp at h; omega
  | f + 1, m, h0, h => by
    by_cases h9 : m % 10 = 0
    · obtain ⟨q, rfl⟩ : ∃ q, m = q * 10 := ⟨m / 10, by omega⟩
      have hq : q.natAbs < 10 ^ f := by
        rw [Nat.pow_succ, Int.natAbs_mul] at h
        exact Nat.lt_of_mul_lt_mul_right h
      obtain ⟨mm, k, e, h1⟩ := strip_ex f q (by omega) hq
      exact ⟨mm, k + 1, by rw [e, Int.pow_succ, Int.mul_assoc], h1⟩
    · exact ⟨m, 0, by simp, h9⟩
theorem clean_of {m x mm : Int} {k : Nat} (hm : m ≠ 0) (h1 : -9223372036854775808 ≤ m) (h2 : m ≤ 9223372036854775807) (e : m = mm * 10 ^ k) (h9 : mm % 10 ≠ 0) :
    cleanV m x = if x < -1000 ∨ 1000 < x then none else if rightV mm (x + k) 0 = true then some (mm, x + k) else none := by
  have hk := pow10_bd e hm h1 h2
  unfold cleanV
  rw [if_neg hm, e, strip_of k 20 mm (by omega) h9]
theorem clean_some {m x a b : Int} (hm : m ≠ 0) (h1 : -9223372036854775808 ≤ m) (h2 : m ≤ 9223372036854775807) (h : cleanV m x = some (a, b)) :
    ∃ k : Nat, m = a * 10 ^ k ∧ b = x + k ∧ a % 10 ≠ 0 ∧ rightV a b 0 = true ∧ -1000 ≤ x ∧ x ≤ 1000 := by
  obtain ⟨mm, k, e, h9⟩ := strip_ex 19 m hm (by omega)
  rw [clean_of hm h1 h2 e h9] at h
  split at h
  · cases h
  · split at h
    · injection h with h
      injection h with ha hb
      subst ha hb
      exact ⟨k, e, rfl, h9, by assumption, by omega, by omega⟩
    · cases h
theorem dec_shift (d k : Nat) (x : Int) (hx : -300 ≤ x + k) : dec d (x + k) * 10 ^ (-(x + 300)).toNat = d * 10 ^ k * 10 ^ (x + 300).toNat := by
  unfold dec
  rw [Nat.mul_assoc, Nat.mul_assoc, ← Nat.pow_add, ← Nat.pow_add]
  congr 2
  omega
theorem dec_lt {d1 d2 k1 k2 : Nat} {x : Int} (h : d1 * 10 ^ k1 < d2 * 10 ^ k2) (hx1 : -300 ≤ x + k1) (hx2 : -300 ≤ x + k2) : dec d1 (x + k1) < dec d2 (x + k2) := by
  have e : dec d1 (x + k1) * 10 ^ (-(x + 300)).toNat < dec d2 (x + k2) * 10 ^ (-(x + 300)).toNat := by
    rw [dec_shift _ _ _ hx1, dec_shift _ _ _ hx2]
    exact Nat.mul_lt_mul_of_pos_right h (Nat.pow_pos (by decide))
  exact Nat.lt_of_mul_lt_mul_right e
/-- A number that may be: its bits. -/
theorem num_bits {a b : Int} (h : rightV a b 0 = true) (h0 : a ≠ 0) : -1000000000000000 < a ∧ a < 1000000000000000 ∧ -300 ≤ b ∧ b ≤ 290 ∧ a % 10 ≠ 0 ∧ bitsV a b 0 = (if a < 0 then 9223372036854775808 else 0) + nearV a.natAbs b ∧ 4503599627370496 ≤ nearV a.natAbs b ∧ nearV a.natAbs b < 9218868437227405312 := by
  rcases bitsV_cases h with h | h | h
  · omega
  · exact ⟨h.2.2.1, h.2.2.2.1, h.2.2.2.2.1, h.2.2.2.2.2.1, h.2.2.2.2.2.2.1, h.2.2.2.2.2.2.2⟩
  · omega
theorem err_right {m x s : Int} (h : rightV m x s = true) : errV m x s = 0 := by unfold errV; simp [h]
theorem err_not {m x s : Int} (h : rightV m x s = false) : errV m x s = 20 := by unfold errV; simp [h]
theorem right_mk {a b : Int} (h0 : -1000000000000000 < a) (h1 : a < 1000000000000000) (h2 : a % 10 ≠ 0) (h3 : -300 ≤ b) (h4 : b ≤ 290) : rightV a b 0 = true := by
  unfold rightV
  rw [if_neg (by decide), if_neg (by omega), if_neg (by omega)]
  simp [h2, h3, h4]
theorem right_neg {a b : Int} (h : rightV a b 0 = true) (h0 : a ≠ 0) : rightV (-a) b 0 = true := by
  obtain ⟨h1, h2, h3, h4, h5, _⟩ := num_bits h h0
  exact right_mk (by omega) (by omega) (by omega) h3 h4
theorem pos_of {m a : Int} {k : Nat} (e : m = a * 10 ^ k) (hm : 0 < m) : 0 < a := by
  rcases (by omega : 0 < a ∨ a ≤ 0) with h | h
  · exact h
  · have hp : (0 : Int) ≤ 10 ^ k := Int.le_of_lt (Int.pow_pos (by decide))
    have := Int.mul_nonpos_of_nonpos_of_nonneg h hp
    omega
theorem nat_of {m a : Int} {k : Nat} (e : m = a * 10 ^ k) : m.natAbs = a.natAbs * 10 ^ k := by
  rw [e, Int.natAbs_mul, Int.natAbs_pow]; rfl

/-- What FloatOrders asks of the two greater numbers. -/
theorem orders_lt {m n e a ea b eb : Int} (hm : 0 < m) (hmn : m < n) (h2 : n ≤ 9223372036854775807) (ha : cleanV m e = some (a, ea)) (hb : cleanV n e = some (b, eb)) :
    0 < a ∧ -999999999999999 ≤ -a ∧ errV a ea 0 = 0 ∧ errV b eb 0 = 0 ∧ errV (-a) ea 0 = 0 ∧ bitsV a ea 0 < bitsV b eb 0 ∧ bitsV (-a) ea 0 = bitsV a ea 0 + 9223372036854775808 ∧ bitsV a ea 0 < 9223372036854775808 ∧ -1000 ≤ e ∧ e ≤ 1000 := by
  obtain ⟨k1, e1, rfl, q1, r1, x1, x2⟩ := clean_some (by omega) (by omega) (by omega) ha
  obtain ⟨k2, e2, rfl, q2, r2, _⟩ := clean_some (by omega) (by omega) (by omega) hb
  have p1 := pos_of e1 hm
  have p2 := pos_of e2 (by omega)
  have hn := right_neg r1 (by omega)
  obtain ⟨a1, a2, a3, a4, a5, a6, a7, a8⟩ := num_bits r1 (by omega)
  obtain ⟨b1, b2, b3, b4, b5, b6, b7, b8⟩ := num_bits r2 (by omega)
  obtain ⟨_, _, _, _, _, c6, _, _⟩ := num_bits hn (by omega)
  rw [if_neg (by omega)] at a6 b6
  rw [if_pos (by omega), Int.natAbs_neg] at c6
  have hlt := nearV_lt a.natAbs b.natAbs (e + k1) (e + k2) (by omega) (by omega) (by omega) a3 b3 (dec_lt (by rw [← nat_of e1, ← nat_of e2]; omega) a3 b3)
  exact ⟨p1, by omega, err_right r1, err_right r2, err_right hn, by omega, by omega, by omega, x1, x2⟩
/-- And of ten times the number. -/
theorem orders_ten {m e a ea c ec : Int} (hm : 0 < m) (h2 : m ≤ 9223372036854775807) (ha : cleanV m e = some (a, ea)) (hc : cleanV m (e + 1) = some (c, ec)) :
    errV c ec 0 = 0 ∧ bitsV a ea 0 < bitsV c ec 0 := by
  obtain ⟨k1, e1, rfl, q1, r1, _⟩ := clean_some (by omega) (by omega) (by omega) ha
  obtain ⟨k2, e2, rfl, q2, r2, _⟩ := clean_some (by omega) (by omega) (by omega) hc
  have p1 := pos_of e1 hm
  have p2 := pos_of e2 (by omega)
  obtain ⟨a1, a2, a3, a4, a5, a6, a7, a8⟩ := num_bits r1 (by omega)
  obtain ⟨b1, b2, b3, b4, b5, b6, b7, b8⟩ := num_bits r2 (by omega)
  rw [if_neg (by omega)] at a6 b6
  have hd : dec a.natAbs (e + k1) < dec c.natAbs (e + ((k2 + 1 : Nat) : Int)) := by
    refine dec_lt ?_ a3 (by omega)
    have hpos : 0 < a.natAbs * 10 ^ k1 := Nat.mul_pos (by omega) (Nat.pow_pos (by decide))
    rw [Nat.pow_succ, ← Nat.mul_assoc, ← nat_of e2, ← nat_of e1]
    rw [← nat_of e1] at hpos
    omega
  rw [show e + ((k2 + 1 : Nat) : Int) = e + 1 + (k2 : Int) by omega] at hd
  have hlt := nearV_lt a.natAbs c.natAbs (e + k1) (e + 1 + k2) (by omega) (by omega) (by omega) a3 b3 hd
  exact ⟨err_right r2, by omega⟩
theorem Near.double {N D r : Nat} (h : Near N D r) : Near (2 * N) D (r + 4503599627370496) := by
  obtain ⟨j, q, h1, h2, h3, h4, h5⟩ := h
  have e : ∀ x, x * (2 ^ (j + 1) * D) = 2 * (x * (2 ^ j * D)) := fun x => by
    rw [Nat.pow_succ, Nat.mul_comm (2 ^ j) 2, Nat.mul_assoc 2, Nat.mul_left_comm]
  refine ⟨j + 1, q, h1, h2, by rw [e]; omega, by rw [e]; omega, ?_⟩
  have hu := up_scale 2 (N - q * (2 ^ j * D)) (2 ^ j * D) q (by decide)
  rw [e, show 2 * N - 2 * (q * (2 ^ j * D)) = 2 * (N - q * (2 ^ j * D)) by omega, show 2 ^ (j + 1) * D = 2 * (2 ^ j * D) by have := e 1; omega, hu, h5]
  omega
theorem nearV_double (d : Nat) (x : Int) (hd : 1 ≤ d) (hx : -300 ≤ x) : nearV (2 * d) x = nearV d x + 4503599627370496 := by
  have h := (nearV_near d x hd hx).double
  have h2 := nearV_near (2 * d) x (by omega) hx
  have e : vN (2 * d) x = 2 * vN d x := by unfold vN; split <;> simp only [Nat.mul_assoc]
  rw [e] at h2
  exact h2.unique h
/-- Twice a whole number. -/
theorem twice_bits {m : Int} (h0 : 0 < m) (h1 : m < 400000000000000) (h5 : m % 5 ≠ 0) : errV (2 * m) 0 0 = 0 ∧ bitsV (2 * m) 0 0 = bitsV m 0 0 + 4503599627370496 ∧ bitsV m 0 0 < 9218868437227405312 := by
  have r1 : rightV m 0 0 = true := right_mk (by omega) (by omega) (by omega) (by omega) (by omega)
  have r2 : rightV (2 * m) 0 0 = true := right_mk (by omega) (by omega) (by omega) (by omega) (by omega)
  obtain ⟨_, _, _, _, _, a6, a7, a8⟩ := num_bits r1 (by omega)
  obtain ⟨_, _, _, _, _, b6, _, _⟩ := num_bits r2 (by omega)
  rw [if_neg (by omega)] at a6 b6
  have hd := nearV_double m.natAbs 0 (by omega) (by omega)
  rw [show 2 * m.natAbs = (2 * m).natAbs by omega] at hd
  exact ⟨err_right r2, by omega, by omega⟩
end Go.Proofs.YtglamimbkdldaaaGreatDoor
