/-
  Rounding to 53 bits, as a relation on whole numbers: no program in sight. N and D: the number is N / D units of 2^-1074.
-/
import Ieee.Arith
namespace Go.Proofs.YtbggdkpcgcmepaaGreatDoor

/-- The place of the least unit; a name, so that no tactic raises 2 to it. -/
def E0 : Nat := 1074
theorem E0_eq : E0 = 1074 := rfl
attribute [irreducible] E0
/-- Is there one more? rem: what is left of the unit B behind q. -/
def up (rem B q : Nat) : Nat := if B < 2 * rem ∨ (2 * rem = B ∧ q % 2 = 1) then 1 else 0
/-- r is the bits, without the sign, of the double that is nearest to N / D units of 2^-1074 (a normal one). -/
def Near (N D r : Nat) : Prop := ∃ j q, 4503599627370496 ≤ q ∧ q < 9007199254740992 ∧ q * (2 ^ j * D) ≤ N ∧ N < (q + 1) * (2 ^ j * D) ∧ r = j * 4503599627370496 + q + up (N - q * (2 ^ j * D)) (2 ^ j * D) q

theorem up_le (rem B q : Nat) : up rem B q ≤ 1 := by unfold up; split <;> omega
theorem up_scale (c rem B q : Nat) (hc : 0 < c) : up (c * rem) (c * B) q = up rem B q := by
  have h1 : c * B < 2 * (c * rem) ↔ B < 2 * rem := by
    rw [Nat.mul_left_comm]; exact Nat.mul_lt_mul_left hc
  have h2 : 2 * (c * rem) = c * B ↔ 2 * rem = B := by
    rw [Nat.mul_left_comm]; exact Nat.mul_right_inj (by omega)
  unfold up
  simp only [h1, h2]

theorem Near.scale {N D r : Nat} (c : Nat) (hc : 0 < c) (h : Near N D r) : Near (c * N) (c * D) r := by
  obtain ⟨j, q, h1, h2, h3, h4, h5⟩ := h
  have e : ∀ x, x * (2 ^ j * (c * D)) = c * (x * (2 ^ j * D)) := fun x => by
    rw [Nat.mul_left_comm (2 ^ j), Nat.mul_left_comm x]
  refine ⟨j, q, h1, h2, by rw [e]; exact Nat.mul_le_mul_left c h3, by rw [e]; exact Nat.mul_lt_mul_of_pos_left h4 hc, ?_⟩
  rw [h5, e, ← Nat.mul_sub, show 2 ^ j * (c * D) = c * (2 ^ j * D) from Nat.mul_left_comm .., up_scale c _ _ _ hc]

theorem Near.exp_le {N D j q j' q' : Nat} (h1 : 4503599627370496 ≤ q) (h4 : N < (q' + 1) * (2 ^ j' * D)) (h2' : q' < 9007199254740992) (h3 : q * (2 ^ j * D) ≤ N) : j ≤ j' := by
  rcases Nat.lt_or_ge j' j with h | h
  · exfalso
    obtain ⟨t, rfl⟩ : ∃ t, j = j' + 1 + t := ⟨j - j' - 1, by omega⟩
    have a : q * (2 ^ (j' + 1 + t) * D) < (q' + 1) * (2 ^ j' * D) := Nat.lt_of_le_of_lt h3 h4
    have b : (q' + 1) * (2 ^ j' * D) ≤ q * (2 ^ (j' + 1 + t) * D) := by
      calc (q' + 1) * (2 ^ j' * D) ≤ (q * 2) * (2 ^ j' * D) := Nat.mul_le_mul_right _ (by omega)
        _ = q * (2 ^ (j' + 1) * D) := by rw [Nat.pow_succ, Nat.mul_assoc q, Nat.mul_left_comm 2, Nat.mul_comm 2 D, ← Nat.mul_assoc (2 ^ j'), Nat.mul_assoc (2 ^ j') 2 D, Nat.mul_comm 2 D, Nat.mul_assoc]
        _ ≤ q * (2 ^ (j' + 1 + t) * D) := Nat.mul_le_mul_left q (Nat.mul_le_mul_right D (Nat.pow_le_pow_right (by decide) (by omega)))
    omega
  · exact h

theorem Near.unique {N D r r' : Nat} (h : Near N D r) (h' : Near N D r') : r = r' := by
  obtain ⟨j, q, h1, h2, h3, h4, h5⟩ := h
  obtain ⟨j', q', h1', h2', h3', h4', h5'⟩ := h'
  have hj : j = j' := Nat.le_antisymm (Near.exp_le h1 h4' h2' h3) (Near.exp_le h1' h4 h2 h3')
  subst hj
  have hB : 0 < 2 ^ j * D := by
    rcases Nat.eq_zero_or_pos (2 ^ j * D) with h | h
    · rw [h] at h4; omega
    · exact h
  have hq : q = q' := by
    have a : q < q' + 1 := Nat.lt_of_mul_lt_mul_right (Nat.lt_of_le_of_lt h3 h4')
    have b : q' < q + 1 := Nat.lt_of_mul_lt_mul_right (Nat.lt_of_le_of_lt h3' h4)
    omega
  subst hq
  rw [h5, h5']

/-- The bits, reckoned. -/
def nearOf (N D : Nat) : Nat :=
  let j := (N / D).log2 - 52
  let q := N / (2 ^ j * D)
  j * 4503599627370496 + q + up (N - q * (2 ^ j * D)) (2 ^ j * D) q

theorem nearOf_near (N D : Nat) (hD : 0 < D) (h : 4503599627370496 ≤ N / D) : Near N D (nearOf N D) := by
  unfold nearOf
  obtain ⟨x, hx⟩ : ∃ x, x = N / D := ⟨_, rfl⟩
  rw [← hx] at h ⊢
  have hl : 52 ≤ x.log2 := (Nat.le_log2 (by omega)).2 h
  have hlo : 2 ^ x.log2 ≤ x := Nat.log2_self_le (by omega)
  have hhi : x < 2 ^ (x.log2 + 1) := Nat.lt_log2_self
  obtain ⟨j, hj⟩ : ∃ j, x.log2 = 52 + j := ⟨x.log2 - 52, by omega⟩
  rw [hj] at hlo hhi ⊢
  simp only [Nat.add_sub_cancel_left]
  have hB : 0 < 2 ^ j * D := Nat.mul_pos (Nat.two_pow_pos _) hD
  have hq : N / (2 ^ j * D) = x / 2 ^ j := by rw [Nat.mul_comm, ← Nat.div_div_eq_div_mul, hx]
  refine ⟨j, N / (2 ^ j * D), ?_, ?_, Nat.div_mul_le_self _ _, ?_, rfl⟩
  · rw [hq, Nat.le_div_iff_mul_le (Nat.two_pow_pos _)]
    calc 4503599627370496 * 2 ^ j = 2 ^ (52 + j) := by rw [Nat.pow_add]
      _ ≤ x := hlo
  · rw [hq, Nat.div_lt_iff_lt_mul (Nat.two_pow_pos _)]
    calc x < 2 ^ (52 + j + 1) := hhi
      _ = 9007199254740992 * 2 ^ j := by rw [show 52 + j + 1 = 53 + j by omega, Nat.pow_add]
  · have := Nat.lt_mul_div_succ N hB
    rw [Nat.mul_comm] at this
    exact this

theorem Near.eq_nearOf {N D r : Nat} (h : Near N D r) : r = nearOf N D := by
  refine h.unique (nearOf_near N D ?_ ?_)
  · obtain ⟨j, q, h1, h2, h3, h4, h5⟩ := h
    rcases Nat.eq_zero_or_pos D with hD | hD
    · rw [hD] at h4; simp at h4
    · exact hD
  · obtain ⟨j, q, h1, h2, h3, h4, h5⟩ := h
    have hD : 0 < D := by
      rcases Nat.eq_zero_or_pos D with hD | hD
      · rw [hD] at h4; simp at h4
      · exact hD
    rw [Nat.le_div_iff_mul_le hD]
    calc 4503599627370496 * D ≤ q * (2 ^ j * D) := by
          rw [← Nat.mul_assoc]
          exact Nat.mul_le_mul_right D (Nat.le_trans h1 (Nat.le_mul_of_pos_right _ (Nat.two_pow_pos _)))
      _ ≤ N := h3

/-- Rounding of a number of which a last bit tells that something is left: t = 2 floor(X / n), and one more if X / n isn't whole. -/
theorem near_sticky {X n t P r : Nat} (hn : 0 < n) (ht : t = 2 * (X / n) + (if X % n = 0 then 0 else 1)) (hbig : 18014398509481984 ≤ t) (h : Near (t * 2 ^ P) 1 r) : Near (2 * X * 2 ^ P) n r := by
  obtain ⟨j, q, h1, h2, h3, h4, h5⟩ := h
  rw [Nat.mul_one] at h3 h4 h5
  -- j is P and at least two more
  have hjP : P + 2 ≤ j := by
    rcases Nat.lt_or_ge j (P + 2) with h | h
    · exfalso
      have a : (q + 1) * 2 ^ j ≤ 9007199254740992 * 2 ^ (P + 1) := Nat.mul_le_mul (by omega) (Nat.pow_le_pow_right (by decide) (by omega))
      have b : 9007199254740992 * 2 ^ (P + 1) ≤ t * 2 ^ P := by
        rw [Nat.pow_succ, Nat.mul_comm (2 ^ P) 2, ← Nat.mul_assoc]
        exact Nat.mul_le_mul_right _ (by omega)
      omega
    · exact h
  obtain ⟨g, rfl⟩ : ∃ g, j = P + 2 + g := ⟨j - P - 2, by omega⟩
  have hG : 2 ^ (P + 2 + g) = 4 * 2 ^ g * 2 ^ P := by rw [show P + 2 + g = 2 + g + P by omega, Nat.pow_add, Nat.pow_add]
  obtain ⟨G, hGd⟩ : ∃ G, G = 2 ^ g := ⟨_, rfl⟩
  have hG0 : 0 < G := by rw [hGd]; exact Nat.two_pow_pos _
  obtain ⟨p, hp⟩ : ∃ p, p = 2 ^ P := ⟨_, rfl⟩
  have hp0 : 0 < p := by rw [hp]; exact Nat.two_pow_pos _
  rw [hG, ← hGd, ← hp] at h3 h4 h5
  rw [← Nat.mul_assoc] at h3 h4
  have a3 : q * (4 * G) ≤ t := Nat.le_of_mul_le_mul_right h3 hp0
  have a4 : t < (q + 1) * (4 * G) := Nat.lt_of_mul_lt_mul_right h4
  obtain ⟨F, hF⟩ : ∃ F, F = X / n := ⟨_, rfl⟩
  obtain ⟨R, hR⟩ : ∃ R, R = X % n := ⟨_, rfl⟩
  have hX : X = n * F + R := by rw [hF, hR]; exact (Nat.div_add_mod X n).symm
  have hRn : R < n := by rw [hR]; exact Nat.mod_lt _ hn
  rw [← hF, ← hR] at ht
  have e3 : q * (4 * G) = 2 * (2 * (q * G)) := by rw [Nat.mul_left_comm]; omega
  have e4 : (q + 1) * (4 * G) = 2 * (2 * (q * G) + 2 * G) := by rw [Nat.add_mul, e3]; omega
  have b3 : 2 * (q * G) ≤ F := by split at ht <;> omega
  have b4 : F + 1 ≤ 2 * (q * G) + 2 * G := by split at ht <;> omega
  obtain ⟨c, hc⟩ : ∃ c, F = 2 * (q * G) + c := ⟨F - 2 * (q * G), by omega⟩
  have c3 : q * (4 * G) * n ≤ 2 * X := by
    rw [e3, hX]; 
    calc 2 * (2 * (q * G)) * n = 2 * (n * (2 * (q * G))) := by rw [Nat.mul_assoc, Nat.mul_comm n]
      _ ≤ 2 * (n * F + R) := Nat.mul_le_mul_left 2 (Nat.le_trans (Nat.mul_le_mul_left n b3) (Nat.le_add_right _ _))
  have c4 : 2 * X < (q + 1) * (4 * G) * n := by
    rw [e4, hX]
    calc 2 * (n * F + R) < 2 * (n * (F + 1)) := by rw [Nat.mul_add n F 1]; omega
      _ ≤ 2 * (n * (2 * (q * G) + 2 * G)) := Nat.mul_le_mul_left 2 (Nat.mul_le_mul_left n b4)
      _ = _ := by rw [Nat.mul_assoc, Nat.mul_comm n]
  have f3 : ∀ x, x * (4 * G * p * n) = x * (4 * G) * n * p := fun x => by
    rw [Nat.mul_assoc (x * (4 * G)), Nat.mul_comm n p, ← Nat.mul_assoc (x * (4 * G)), Nat.mul_assoc x, ← Nat.mul_assoc x, ← Nat.mul_assoc x]
  refine ⟨P + 2 + g, q, h1, h2, ?_, ?_, ?_⟩
  · rw [hG, ← hGd, ← hp, f3]; exact Nat.mul_le_mul_right p c3
  · rw [hG, ← hGd, ← hp, f3]; exact Nat.mul_lt_mul_of_pos_right c4 hp0
  · have k1 : up (t * p - q * (4 * G * p)) (4 * G * p) q = up (2 * c + (if R = 0 then 0 else 1)) (4 * G) q := by
      rw [← Nat.mul_assoc q, ← Nat.sub_mul, Nat.mul_comm _ p, Nat.mul_comm (4 * G) p, up_scale p _ _ _ hp0]
      congr 1
      rw [ht, e3, hc]; omega
    have k2 : up (2 * X * p - q * (4 * G * p * n)) (4 * G * p * n) q = up (2 * (n * c + R)) (4 * (G * n)) q := by
      rw [f3, ← Nat.sub_mul, Nat.mul_comm _ p, show 4 * G * p * n = p * (4 * (G * n)) from by rw [Nat.mul_comm (4 * G) p, Nat.mul_assoc p, Nat.mul_assoc 4], up_scale p _ _ _ hp0]
      congr 1
      have : q * (4 * G) * n = 2 * (n * (2 * (q * G))) := by rw [e3, Nat.mul_assoc, Nat.mul_comm n]
      rw [this, hX, hc, Nat.mul_add n]; omega
    rw [h5, hG, ← hGd, ← hp, k1, k2]
    congr 1
    have g1 : c < G → n * c + R < G * n := fun h => by
      calc n * c + R < n * c + n := by omega
        _ = n * (c + 1) := by rw [Nat.mul_add, Nat.mul_one]
        _ ≤ n * G := Nat.mul_le_mul_left n h
        _ = G * n := Nat.mul_comm _ _
    have g2 : G < c → G * n < n * c + R := fun h => by
      calc G * n < G * n + n := by omega
        _ = n * (G + 1) := by rw [Nat.mul_add, Nat.mul_one, Nat.mul_comm]
        _ ≤ n * c := Nat.mul_le_mul_left n h
        _ ≤ _ := Nat.le_add_right _ _
    have g3 : c = G → n * c + R = G * n + R := fun h => by rw [h, Nat.mul_comm]
    obtain ⟨s, hs, hs'⟩ : ∃ s, s = (if R = 0 then 0 else 1) ∧ ((R = 0 ∧ s = 0) ∨ (0 < R ∧ s = 1)) := by
      rcases Nat.eq_zero_or_pos R with h | h
      · exact ⟨0, by rw [if_pos h], .inl ⟨h, rfl⟩⟩
      · exact ⟨1, by rw [if_neg (by omega)], .inr ⟨h, rfl⟩⟩
    rw [← hs]
    have i1 : 4 * G < 2 * (2 * c + s) ↔ 4 * (G * n) < 2 * (2 * (n * c + R)) := by
      rcases Nat.lt_trichotomy c G with hl | hl | hl
      · have := g1 hl; omega
      · have := g3 hl; omega
      · have := g2 hl; omega
    have i2 : 2 * (2 * c + s) = 4 * G ↔ 2 * (2 * (n * c + R)) = 4 * (G * n) := by
      rcases Nat.lt_trichotomy c G with hl | hl | hl
      · have := g1 hl; omega
      · have := g3 hl; omega
      · have := g2 hl; omega
    unfold up
    simp only [i1, i2]
end Go.Proofs.YtbggdkpcgcmepaaGreatDoor
