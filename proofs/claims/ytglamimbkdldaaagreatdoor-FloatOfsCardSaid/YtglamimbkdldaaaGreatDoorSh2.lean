/-
  Which numbers round to a double, and what the shortest text's search finds among them: plain laws. No program in sight.
-/
import Derived.Test.YtglamimbkdldaaaGreatDoorTg
import Derived.Test.YtglamimbkdldaaaGreatDoorPo
import Derived.Test.YtglamimbkdldaaaGreatDoorSf
namespace Go.Proofs.YtglamimbkdldaaaGreatDoor
open Go.RowKit Go.Sort

/-- Between the half steps: it rounds to that. -/
theorem near_mid {N D j u : Nat} (h1 : 4503599627370496 < u) (h2 : u < 9007199254740992) (hD : 0 < D) (lo : (2 * u - 1) * (2 ^ j * D) ≤ 2 * N) (hi : 2 * N ≤ (2 * u + 1) * (2 ^ j * D))
    (od : u % 2 = 1 → (2 * u - 1) * (2 ^ j * D) < 2 * N ∧ 2 * N < (2 * u + 1) * (2 ^ j * D)) : Near N D (j * 4503599627370496 + u) := by
  have hB : 0 < 2 ^ j * D := Nat.mul_pos (Nat.two_pow_pos _) hD
  obtain ⟨B, hBv⟩ : ∃ B, B = 2 ^ j * D := ⟨_, rfl⟩
  obtain ⟨P, hP⟩ : ∃ P, P = u * B := ⟨_, rfl⟩
  have e1 : (2 * u - 1) * B = 2 * P - B := by rw [Nat.sub_mul, Nat.mul_assoc, ← hP, Nat.one_mul]
  have e2 : (2 * u + 1) * B = 2 * P + B := by rw [Nat.add_mul, Nat.mul_assoc, ← hP, Nat.one_mul]
  have e3 : (u - 1) * B = P - B := by rw [Nat.sub_mul, ← hP, Nat.one_mul]
  have e4 : (u + 1) * B = P + B := by rw [Nat.add_mul, ← hP, Nat.one_mul]
  have e5 : B ≤ P := by rw [hP]; exact Nat.le_mul_of_pos_left _ (by omega)
  rw [← hBv] at lo hi od hB
  rw [e1] at lo od
  rw [e2] at hi od
  rcases Nat.lt_or_ge N P with hn | hn
  · refine ⟨j, u - 1, by omega, by omega, ?_, ?_, ?_⟩
    · rw [← hBv, e3]; omega
    · rw [← hBv, show u - 1 + 1 = u by omega, ← hP]; exact hn
    · have : up (N - (u - 1) * (2 ^ j * D)) (2 ^ j * D) (u - 1) = 1 := by
        unfold up
        rw [← hBv, e3, if_pos]
        rcases Nat.lt_or_ge B (2 * (N - (P - B))) with h | h
        · exact .inl h
        · refine .inr ⟨by omega, ?_⟩
          rcases Nat.mod_two_eq_zero_or_one u with h0 | h0
          · omega
          · have := od h0; omega
      rw [this]; omega
  · refine ⟨j, u, by omega, by omega, ?_, ?_, ?_⟩
    · rw [← hBv, ← hP]; exact hn
    · rw [← hBv, e4]; omega
    · have : up (N - u * (2 ^ j * D)) (2 ^ j * D) u = 0 := by
        unfold up
        rw [← hBv, ← hP, if_neg]
        intro h
        rcases h with h | ⟨h, h0⟩
        · omega
        · have := od h0; omega
      rw [this, Nat.add_zero]
/-- The same where the step below is half as wide. -/
theorem near_skew {N D j : Nat} (hD : 0 < D) (lo : 18014398509481983 * (2 ^ (j + 1) * D) ≤ 4 * N) (hi : 2 * N ≤ 9007199254740993 * (2 ^ (j + 1) * D)) : Near N D ((j + 1) * 4503599627370496 + 4503599627370496) := by
  have hB : 0 < 2 ^ j * D := Nat.mul_pos (Nat.two_pow_pos _) hD
  obtain ⟨B, hBv⟩ : ∃ B, B = 2 ^ j * D := ⟨_, rfl⟩
  have e0 : 2 ^ (j + 1) * D = 2 * B := by rw [Nat.pow_succ, hBv, Nat.mul_right_comm, Nat.mul_comm]
  rw [e0] at lo hi
  rw [← hBv] at hB
  rcases Nat.lt_or_ge N (9007199254740992 * B) with hn | hn
  · refine ⟨j, 9007199254740991, by decide, by decide, ?_, ?_, ?_⟩
    · rw [← hBv]; omega
    · rw [← hBv]; omega
    · have : up (N - 9007199254740991 * (2 ^ j * D)) (2 ^ j * D) 9007199254740991 = 1 := by
        unfold up
        rw [← hBv, if_pos]
        rcases Nat.lt_or_ge B (2 * (N - 9007199254740991 * B)) with h | h
        · exact .inl h
        · exact .inr ⟨by omega, by decide⟩
      rw [this]; omega
  · refine ⟨j + 1, 4503599627370496, by decide, by decide, ?_, ?_, ?_⟩
    · rw [e0]; omega
    · rw [e0]; omega
    · have : up (N - 4503599627370496 * (2 ^ (j + 1) * D)) (2 ^ (j + 1) * D) 4503599627370496 = 0 := by
        unfold up
        rw [e0, if_neg]
        intro h
        rcases h with h | ⟨_, h0⟩
        · omega
        · omega
      rw [this]
/-- What rounds to a double lies between its half steps. -/
theorem near_conv {N D j u : Nat} (h1 : 4503599627370496 < u) (h2 : u < 9007199254740992) (h : Near N D (j * 4503599627370496 + u)) :
    (2 * u - 1) * (2 ^ j * D) ≤ 2 * N ∧ 2 * N ≤ (2 * u + 1) * (2 ^ j * D) ∧ (u % 2 = 1 → (2 * u - 1) * (2 ^ j * D) < 2 * N ∧ 2 * N < (2 * u + 1) * (2 ^ j * D)) := by
  obtain ⟨j', q, q1, q2, n1, n2, e⟩ := h
  have hup := up_le (N - q * (2 ^ j' * D)) (2 ^ j' * D) q
  rcases (by omega : up (N - q * (2 ^ j' * D)) (2 ^ j' * D) q = 0 ∨ up (N - q * (2 ^ j' * D)) (2 ^ j' * D) q = 1) with hu | hu
  · rw [hu] at e
    obtain ⟨rfl, rfl⟩ : j' = j ∧ q = u := by omega
    obtain ⟨B, hBv⟩ : ∃ B, B = 2 ^ j' * D := ⟨_, rfl⟩
    obtain ⟨P, hP⟩ : ∃ P, P = q * B := ⟨_, rfl⟩
    have e5 : B ≤ P := by rw [hP]; exact Nat.le_mul_of_pos_left _ (by omega)
    have e1 : (2 * q - 1) * B = 2 * P - B := by rw [Nat.sub_mul, Nat.mul_assoc, ← hP, Nat.one_mul]
    have e2 : (2 * q + 1) * B = 2 * P + B := by rw [Nat.add_mul, Nat.mul_assoc, ← hP, Nat.one_mul]
    have e4 : (q + 1) * B = P + B := by rw [Nat.add_mul, ← hP, Nat.one_mul]
    rw [← hBv] at n1 n2 hu ⊢
    rw [← hP] at n1 hu
    rw [e4] at n2
    rw [e1, e2]
    unfold up at hu
    split at hu
    · cases hu
    · exact ⟨by omega, by omega, fun ho => ⟨by omega, by omega⟩⟩
  · rw [hu] at e
    obtain ⟨rfl, rfl⟩ : j' = j ∧ u = q + 1 := by omega
    obtain ⟨B, hBv⟩ : ∃ B, B = 2 ^ j' * D := ⟨_, rfl⟩
    obtain ⟨P, hP⟩ : ∃ P, P = q * B := ⟨_, rfl⟩
    have e1 : (2 * (q + 1) - 1) * B = 2 * P + B := by rw [show 2 * (q + 1) - 1 = 2 * q + 1 by omega, Nat.add_mul, Nat.mul_assoc, ← hP, Nat.one_mul]
    have e2 : (2 * (q + 1) + 1) * B = 2 * P + 3 * B := by rw [show 2 * (q + 1) + 1 = 2 * q + 3 by omega, Nat.add_mul, Nat.mul_assoc, ← hP]
    have e4 : (q + 1) * B = P + B := by rw [Nat.add_mul, ← hP, Nat.one_mul]
    rw [← hBv] at n1 n2 hu ⊢
    rw [← hP] at n1 hu
    rw [e4] at n2
    rw [e1, e2]
    unfold up at hu
    split at hu
    · rename_i hc
      exact ⟨by omega, by omega, fun ho => ⟨by omega, by omega⟩⟩
    · cases hu
theorem near_conv_skew {N D j : Nat} (h : Near N D ((j + 1) * 4503599627370496 + 4503599627370496)) :
    18014398509481983 * (2 ^ (j + 1) * D) ≤ 4 * N ∧ 2 * N ≤ 9007199254740993 * (2 ^ (j + 1) * D) := by
  obtain ⟨j', q, q1, q2, n1, n2, e⟩ := h
  have hup := up_le (N - q * (2 ^ j' * D)) (2 ^ j' * D) q
  rcases (by omega : up (N - q * (2 ^ j' * D)) (2 ^ j' * D) q = 0 ∨ up (N - q * (2 ^ j' * D)) (2 ^ j' * D) q = 1) with hu | hu
  · rw [hu] at e
    obtain ⟨rfl, rfl⟩ : j' = j + 1 ∧ q = 4503599627370496 := by omega
    generalize 2 ^ (j + 1) * D = B at *
    unfold up at hu
    split at hu
    · cases hu
    · omega
  · rw [hu] at e
    obtain ⟨rfl, rfl⟩ : j' = j ∧ q = 9007199254740991 := by omega
    have e0 : 2 ^ (j' + 1) * D = 2 * (2 ^ j' * D) := by rw [Nat.pow_succ, Nat.mul_right_comm, Nat.mul_comm]
    rw [e0]
    generalize 2 ^ j' * D = B at *
    unfold up at hu
    split at hu
    · omega
    · cases hu

/-- n, scaled, lies in the double's interval. -/
def InI (u w M n : Nat) : Prop := (2 * u - 1) * w ≤ 2 * n * M ∧ 2 * n * M ≤ (2 * u + 1) * w ∧ (u % 2 = 1 → (2 * u - 1) * w < 2 * n * M ∧ 2 * n * M < (2 * u + 1) * w)

theorem tells_le {U A M n : Nat} (hM : 0 < M) (h : Tells U (2 * A) M) : 4 * n ≤ U ↔ 2 * n * M ≤ A := by
  have e : 4 * n * M = 2 * (2 * n * M) := by rw [show 4 * n = 2 * (2 * n) by omega, Nat.mul_assoc]
  rcases h with ⟨h0, h⟩ | ⟨h0, h, h'⟩
  · constructor
    · intro k
      have := Nat.mul_le_mul_right M k
      omega
    · intro k
      have : 4 * n * M ≤ U * M := by omega
      exact Nat.le_of_mul_le_mul_right this hM
  · constructor
    · intro k
      have := Nat.mul_le_mul_right M (show 4 * n ≤ U - 1 by omega)
      omega
    · intro k
      have : 4 * n * M < (U + 1) * M := by omega
      have := Nat.lt_of_mul_lt_mul_right this
      omega
theorem tells_lt {U A M n : Nat} (hM : 0 < M) (h : Tells U (2 * A) M) : 4 * n + 1 ≤ U ↔ 2 * n * M < A := by
  have e : 4 * n * M = 2 * (2 * n * M) := by rw [show 4 * n = 2 * (2 * n) by omega, Nat.mul_assoc]
  rcases h with ⟨h0, h⟩ | ⟨h0, h, h'⟩
  · constructor
    · intro k
      have := Nat.mul_lt_mul_of_pos_right (show 4 * n < U by omega) hM
      omega
    · intro k
      have : 4 * n * M < U * M := by omega
      have := Nat.lt_of_mul_lt_mul_right this
      omega
  · constructor
    · intro k
      have := Nat.mul_le_mul_right M (show 4 * n ≤ U - 1 by omega)
      omega
    · intro k
      have : 4 * n * M < (U + 1) * M := by omega
      have := Nat.lt_of_mul_lt_mul_right this
      omega
/-- The search's two ends are those of the interval. -/
theorem ends_law {u w M U0 U1 R0 R1 n : Nat} (hM : 0 < M) (t0 : Tells U0 (2 * ((2 * u - 1) * w)) M) (t1 : Tells U1 (2 * ((2 * u + 1) * w)) M) (h0 : R0 = U0 + u % 2) (h1 : R1 + u % 2 = U1) :
    ((R0 + 3) / 4 ≤ n ∧ n ≤ R1 / 4) ↔ InI u w M n := by
  have a := tells_le (n := n) hM t1
  have b := tells_lt (n := n) hM t1
  have c := tells_lt (n := n) hM t0
  have d := tells_le (n := n) hM t0
  have hne : ∀ {A : Nat}, Tells U0 (2 * A) M → (U0 ≤ 4 * n ↔ A ≤ 2 * n * M) := by
    intro A hA
    have := tells_lt (n := n) hM hA
    omega
  have hlt : U0 < 4 * n ↔ (2 * u - 1) * w < 2 * n * M := by
    have := d
    omega
  have hle := hne t0
  unfold InI
  have hcase := Nat.mod_two_eq_zero_or_one u
  rcases hcase with h | h
  · rw [h] at h0 h1
    constructor
    · rintro ⟨k1, k2⟩
      exact ⟨hle.1 (by omega), a.1 (by omega), fun h' => absurd h' (by omega)⟩
    · rintro ⟨k1, k2, _⟩
      have := hle.2 k1
      have := a.2 k2
      omega
  · rw [h] at h0 h1
    constructor
    · rintro ⟨k1, k2⟩
      have l1 := hlt.1 (by omega)
      have l2 := b.1 (by omega)
      exact ⟨by omega, by omega, fun _ => ⟨l1, l2⟩⟩
    · rintro ⟨_, _, k⟩
      have := k h
      have := hlt.2 this.1
      have := b.2 (by omega)
      omega
/-- What shortFloat finds: the interval's one multiple of ten, or a number of sixteen digits that is none. -/
theorem short_law {u w M U0 U1 U2 R0 R1 : Nat} {p : Int} (hM : 0 < M) (hw1 : M ≤ w) (hw2 : w < 10 * M) (hu : 4503599627370496 ≤ u) (t0 : Tells U0 (2 * ((2 * u - 1) * w)) M) (t1 : Tells U1 (2 * ((2 * u + 1) * w)) M) (t2 : Tells U2 (2 * (2 * u * w)) M)
    (h0 : R0 = U0 + u % 2) (h1 : R1 + u % 2 = U1) :
    (∃ d, sfV R0 R1 U2 p = (d, -(p - 1)) ∧ InI u w M (10 * d) ∧ ∀ n, InI u w M (10 * n) → n = d) ∨
    (∃ d, sfV R0 R1 U2 p = (d, -p) ∧ d % 10 ≠ 0 ∧ 1000000000000000 ≤ d ∧ ∀ n, ¬ InI u w M (10 * n)) := by
  have hE := fun n => ends_law (n := n) hM t0 t1 h0 h1
  obtain ⟨a, ha⟩ : ∃ a, a = (R0 + 3) / 4 := ⟨_, rfl⟩
  obtain ⟨b, hb⟩ : ∃ b, b = R1 / 4 := ⟨_, rfl⟩
  obtain ⟨P, hP⟩ : ∃ P, P = u * w := ⟨_, rfl⟩
  have e1 : (2 * u - 1) * w = 2 * P - w := by rw [Nat.sub_mul, Nat.mul_assoc, ← hP, Nat.one_mul]
  have e2 : (2 * u + 1) * w = 2 * P + w := by rw [Nat.add_mul, Nat.mul_assoc, ← hP, Nat.one_mul]
  have e3 : 2 * u * w = 2 * P := by rw [Nat.mul_assoc, ← hP]
  have hPw : w ≤ P := by rw [hP]; exact Nat.le_mul_of_pos_left _ (by omega)
  have hbig : 4503599627370496 * M ≤ P := by
    rw [hP]; exact Nat.mul_le_mul hu hw1
  have nm : ∀ n : Nat, 2 * n * M = 2 * (n * M) := fun n => Nat.mul_assoc ..
  have sc : ∀ n : Nat, (n + 1) * M = n * M + M := fun n => by rw [Nat.add_mul, Nat.one_mul]
  -- the ends, in numbers
  have iff1 : ∀ n, InI u w M n ↔ (2 * P - w ≤ 2 * (n * M) ∧ 2 * (n * M) ≤ 2 * P + w ∧ (u % 2 = 1 → 2 * P - w < 2 * (n * M) ∧ 2 * (n * M) < 2 * P + w)) := fun n => by
    unfold InI; rw [e1, e2, nm]
  have hab : ∀ n, (a ≤ n ∧ n ≤ b) ↔ (2 * P - w ≤ 2 * (n * M) ∧ 2 * (n * M) ≤ 2 * P + w ∧ (u % 2 = 1 → 2 * P - w < 2 * (n * M) ∧ 2 * (n * M) < 2 * P + w)) := fun n => by
    rw [ha, hb, hE n, iff1 n]
  -- no more than ten apart
  have uniq : ∀ n n', InI u w M (10 * n) → InI u w M (10 * n') → n ≤ n' := by
    intro n n' k k'
    rw [iff1] at k k'
    rcases Nat.lt_or_ge n' n with h | h
    · exfalso
      have : (10 * (n' + 1)) * M ≤ (10 * n) * M := Nat.mul_le_mul_right M (by omega)
      have e : (10 * (n' + 1)) * M = 10 * n' * M + 10 * M := by rw [Nat.mul_add, Nat.add_mul]
      omega
    · exact h
  have hdiv : b / 10 * 10 ≤ b := Nat.div_mul_le_self b 10
  by_cases hq : a ≤ b / 10 * 10
  · left
    have hin : InI u w M (10 * (b / 10)) := by
      rw [iff1, ← hab]; omega
    refine ⟨b / 10, ?_, hin, fun n hn => ?_⟩
    · unfold sfV; rw [← ha, ← hb, if_pos hq]
    · have := uniq _ _ hn hin
      have := uniq _ _ hin hn
      omega
  · right
    have none : ∀ n, ¬ InI u w M (10 * n) := by
      intro n hn
      rw [iff1, ← hab] at hn
      omega
    obtain ⟨r, hr⟩ : ∃ r, r = (U2 + 1 + U2 / 4 % 2) / 4 := ⟨_, rfl⟩
    have hin : a ≤ r ∧ r ≤ b := by
      rw [hab]
      by_cases hwM : w = M
      · have hPu : P = u * M := by rw [hP, hwM]
        have hru : r = u := by
          have e4 : 2 * (2 * u * w) = 4 * u * M := by rw [hwM, ← Nat.mul_assoc, ← Nat.mul_assoc]
          rw [e4] at t2
          rcases t2 with ⟨h0, h⟩ | ⟨h0, h, h'⟩
          · have := Nat.eq_of_mul_eq_mul_right hM h
            omega
          · have := Nat.lt_of_mul_lt_mul_right h
            have := Nat.lt_of_mul_lt_mul_right h'
            omega
        rw [hru, ← hPu]
        omega
      · have hlt : M < w := by omega
        have key : 2 * P ≤ 2 * (r * M) + M ∧ 2 * (r * M) ≤ 2 * P + M := by
          rw [e3] at t2
          obtain ⟨k, hk⟩ : ∃ k, k = U2 / 4 := ⟨_, rfl⟩
          have eM : ∀ c, (4 * k + c) * M = 4 * (k * M) + c * M := fun c => by rw [Nat.add_mul, Nat.mul_assoc]
          have c2 := eM 2
          have c4 := eM 4
          have c0 := eM 0
          have s1 := sc k
          rcases t2 with ⟨h0, h⟩ | ⟨h0, h, h'⟩
          · rcases (by omega : U2 = 4 * k + 0 ∨ U2 = 4 * k + 2) with hU | hU
            · rw [hU, c0] at h
              rw [show r = k by omega]
              omega
            · rw [hU, c2] at h
              rcases (by omega : r = k ∨ r = k + 1) with h9 | h9
              · rw [h9]; omega
              · rw [h9, s1]; omega
          · rcases (by omega : U2 = 4 * k + 1 ∨ U2 = 4 * k + 3) with hU | hU
            · rw [show U2 - 1 = 4 * k + 0 by omega, c0] at h
              rw [show U2 + 1 = 4 * k + 2 by omega, c2] at h'
              rw [show r = k by omega]
              omega
            · rw [show U2 - 1 = 4 * k + 2 by omega, c2] at h
              rw [show U2 + 1 = 4 * k + 4 by omega, c4] at h'
              rw [show r = k + 1 by omega, s1]
              omega
        generalize r * M = z at *
        omega
    have hbnd : ∀ d, a ≤ d → d ≤ b → d % 10 ≠ 0 ∧ 1000000000000000 ≤ d := by
      intro d hd1 hd2
      refine ⟨fun h10 => none (d / 10) ?_, ?_⟩
      · rw [iff1, ← hab]; omega
      · have hd := (hab d).1 ⟨hd1, hd2⟩
        have h9 : 4503599627370490 * M ≤ d * M := by
          clear hab hE uniq iff1 none
          generalize d * M = z at *
          omega
        have := Nat.le_of_mul_le_mul_right h9 hM
        omega
    by_cases hq2 : a < b
    · refine ⟨r, ?_, (hbnd r hin.1 hin.2).1, (hbnd r hin.1 hin.2).2, none⟩
      unfold sfV; rw [← ha, ← hb, if_neg hq, if_pos hq2, hr]
    · refine ⟨a, ?_, (hbnd a (Nat.le_refl _) (by omega)).1, (hbnd a (Nat.le_refl _) (by omega)).2, none⟩
      unfold sfV; rw [← ha, ← hb, if_neg hq, if_neg hq2]
end Go.Proofs.YtglamimbkdldaaaGreatDoor

/-
  What shortFloat finds is the double's own number where that has up to fifteen digits: plain laws. No program in sight.
-/
namespace Go.Proofs.YtglamimbkdldaaaGreatDoor
open Go.RowKit Go.Sort

theorem cross_le {x z x' z' : Nat} (hz : 0 < z) (hz' : 0 < z') (h : x * z' = x' * z) (y : Nat) : x ≤ y * z ↔ x' ≤ y * z' := by
  have e1 : y * z * z' = y * z' * z := Nat.mul_right_comm ..
  rw [← Nat.mul_le_mul_right_iff hz', h, e1, Nat.mul_le_mul_right_iff hz]
theorem cross_ge {x z x' z' : Nat} (hz : 0 < z) (hz' : 0 < z') (h : x * z' = x' * z) (y : Nat) : y * z ≤ x ↔ y * z' ≤ x' := by
  have e1 : y * z * z' = y * z' * z := Nat.mul_right_comm ..
  rw [← Nat.mul_le_mul_right_iff hz', h, e1, Nat.mul_le_mul_right_iff hz]

/-- The power of ten that shortFloat scales by, and uscale's shift there: j is the exponent over the least one. -/
def ScaleAt (j P s : Nat) : Prop := (s : Int) + ((P : Int) - 348) * 108853 / 32768 + j = 1082
/-- Scaling, as whole numbers. -/
theorem scale_law (a : Nat) (b : Int) (t j P s : Nat) (hs : s ≤ 8) (hb : b + ((P : Int) - 348) = t) (hE : ScaleAt j P s) :
    2 * (a * 10 ^ t) * MP P * (2 ^ j * vD b) = 2 * vN a b * (2 ^ (8 - s) * NP P) := by
  have h10 : ∀ n : Nat, (10 : Nat) ^ n = 2 ^ n * 5 ^ n := fun n => by rw [show (10 : Nat) = 2 * 5 from rfl, Nat.mul_pow]
  have hE0 := E0_eq
  unfold ScaleAt at hE
  rcases Nat.lt_or_ge P 348 with hlt | hge
  · obtain ⟨y, hy⟩ : ∃ y, y = 348 - P := ⟨_, rfl⟩
    obtain ⟨k, hk⟩ : ∃ k, k = (y * 108853 + 32767) / 32768 := ⟨_, rfl⟩
    obtain ⟨c, hc⟩ : ∃ c : Nat, b = c := ⟨b.toNat, by omega⟩
    have em : MP P = 5 ^ y := by unfold MP; rw [if_neg (by omega), hy]
    have en : NP P = 2 ^ (k - y) := by unfold NP; rw [if_neg (by omega), ← hy, ← hk]
    have ev : vN a b = a * 10 ^ c * 2 ^ E0 := by unfold vN; rw [if_pos (by omega), show b.toNat = c by omega]
    have ed : vD b = 1 := by unfold vD; rw [if_pos (by omega)]
    have hct : c = t + y := by omega
    rw [em, en, ev, ed, h10, h10, hct, Nat.pow_add 5]
    have e1 : 2 * (a * (2 ^ t * 5 ^ t)) * 5 ^ y * (2 ^ j * 1) = a * (5 ^ t * 5 ^ y) * (2 ^ 1 * 2 ^ t * 2 ^ j) := by
      rw [Nat.mul_one, Nat.pow_one]; simp only [Nat.mul_assoc, Nat.mul_comm, Nat.mul_left_comm]
    have e2 : 2 * (a * (2 ^ (t + y) * (5 ^ t * 5 ^ y)) * 2 ^ E0) * (2 ^ (8 - s) * 2 ^ (k - y)) = a * (5 ^ t * 5 ^ y) * (2 ^ 1 * 2 ^ (t + y) * 2 ^ E0 * 2 ^ (8 - s) * 2 ^ (k - y)) := by
      rw [Nat.pow_one]; simp only [Nat.mul_assoc, Nat.mul_comm, Nat.mul_left_comm]
    rw [e1, e2]
    simp only [← Nat.pow_add]
    congr 2
    omega
  · obtain ⟨p, hp⟩ : ∃ p, p = P - 348 := ⟨_, rfl⟩
    obtain ⟨lp, hlp⟩ : ∃ lp, lp = p * 108853 / 32768 := ⟨_, rfl⟩
    have em : MP P = 2 ^ (lp - p) := by unfold MP; rw [if_pos hge, ← hp, ← hlp]
    have en : NP P = 5 ^ p := by unfold NP; rw [if_pos hge, hp]
    rcases (by omega : 0 ≤ b ∨ b < 0) with hb0 | hb0
    · obtain ⟨c, hc⟩ : ∃ c : Nat, b = c := ⟨b.toNat, by omega⟩
      have ev : vN a b = a * 10 ^ c * 2 ^ E0 := by unfold vN; rw [if_pos (by omega), show b.toNat = c by omega]
      have ed : vD b = 1 := by unfold vD; rw [if_pos (by omega)]
      have hct : t = c + p := by omega
      rw [em, en, ev, ed, h10, h10, hct, Nat.pow_add 5]
      have e1 : 2 * (a * (2 ^ (c + p) * (5 ^ c * 5 ^ p))) * 2 ^ (lp - p) * (2 ^ j * 1) = a * (5 ^ c * 5 ^ p) * (2 ^ 1 * 2 ^ (c + p) * 2 ^ (lp - p) * 2 ^ j) := by
        rw [Nat.mul_one, Nat.pow_one]; simp only [Nat.mul_assoc, Nat.mul_comm, Nat.mul_left_comm]
      have e2 : 2 * (a * (2 ^ c * 5 ^ c) * 2 ^ E0) * (2 ^ (8 - s) * 5 ^ p) = a * (5 ^ c * 5 ^ p) * (2 ^ 1 * 2 ^ c * 2 ^ E0 * 2 ^ (8 - s)) := by
        rw [Nat.pow_one]; simp only [Nat.mul_assoc, Nat.mul_comm, Nat.mul_left_comm]
      rw [e1, e2]
      simp only [← Nat.pow_add]
      congr 2
      omega
    · obtain ⟨c, hc⟩ : ∃ c : Nat, b = -(c : Int) := ⟨b.natAbs, by omega⟩
      have ev : vN a b = a * 2 ^ E0 := by unfold vN; rw [if_neg (by omega)]
      have ed : vD b = 10 ^ c := by unfold vD; rw [if_neg (by omega), show (-b).toNat = c by omega]
      have hct : p = t + c := by omega
      rw [em, en, ev, ed, h10, h10, hct, Nat.pow_add 5]
      have e1 : 2 * (a * (2 ^ t * 5 ^ t)) * 2 ^ (lp - (t + c)) * (2 ^ j * (2 ^ c * 5 ^ c)) = a * (5 ^ t * 5 ^ c) * (2 ^ 1 * 2 ^ t * 2 ^ (lp - (t + c)) * 2 ^ j * 2 ^ c) := by
        rw [Nat.pow_one]; simp only [Nat.mul_assoc, Nat.mul_comm, Nat.mul_left_comm]
      have e2 : 2 * (a * 2 ^ E0) * (2 ^ (8 - s) * (5 ^ t * 5 ^ c)) = a * (5 ^ t * 5 ^ c) * (2 ^ 1 * 2 ^ E0 * 2 ^ (8 - s)) := by
        rw [Nat.pow_one]; simp only [Nat.mul_assoc, Nat.mul_comm, Nat.mul_left_comm]
      rw [e1, e2]
      simp only [← Nat.pow_add]
      congr 2
      omega

theorem NP_pos (P : Nat) : 0 < NP P := by
  unfold NP; split
  · exact Nat.pow_pos (by decide)
  · exact Nat.two_pow_pos _
/-- n, scaled back, rounds to the double just where it lies in the interval. -/
theorem inI_near {u j P s a t : Nat} {b : Int} (h1 : 4503599627370496 < u) (h2 : u < 9007199254740992) (hs : s ≤ 8) (hb : b + ((P : Int) - 348) = t) (hE : ScaleAt j P s) :
    InI u (2 ^ (8 - s) * NP P) (MP P) (a * 10 ^ t) ↔ Near (vN a b) (vD b) (j * 4503599627370496 + u) := by
  have hz : 0 < 2 ^ (8 - s) * NP P := Nat.mul_pos (Nat.two_pow_pos _) (NP_pos P)
  have hz' : 0 < 2 ^ j * vD b := Nat.mul_pos (Nat.two_pow_pos _) (vD_pos b)
  have hx := scale_law a b t j P s hs hb hE
  have g1 := cross_ge hz hz' hx (2 * u - 1)
  have g2 := cross_le hz hz' hx (2 * u + 1)
  have g3 := cross_le hz hz' hx (2 * u - 1)
  have g4 := cross_ge hz hz' hx (2 * u + 1)
  constructor
  · rintro ⟨k1, k2, k3⟩
    refine near_mid h1 h2 (vD_pos b) (g1.1 k1) (g2.1 k2) (fun h => ?_)
    have := k3 h
    have q1 := mt g3.2
    have q2 := mt g4.2
    omega
  · intro h
    obtain ⟨k1, k2, k3⟩ := near_conv h1 h2 h
    refine ⟨g1.2 k1, g2.2 k2, fun h => ?_⟩
    have := k3 h
    have q1 := mt g3.1
    have q2 := mt g4.1
    omega
theorem vN_mul (a : Nat) (b : Int) : vN a b = a * vN 1 b := by
  unfold vN; split
  · rw [Nat.one_mul, Nat.mul_assoc]
  · rw [Nat.one_mul]
/-- A lower power of ten. -/
theorem vN_mono {a : Nat} {b b' : Int} (h : b ≤ b') : vN a b * vD b' ≤ vN a b' * vD b := by
  have hp : ∀ {m n : Nat}, m ≤ n → (10 : Nat) ^ m ≤ 10 ^ n := fun h => Nat.pow_le_pow_right (by decide) h
  unfold vN vD
  by_cases h0 : 0 ≤ b
  · rw [if_pos h0, if_pos (by omega), if_pos (by omega), if_pos h0]
    exact Nat.mul_le_mul_right _ (Nat.mul_le_mul_right _ (Nat.mul_le_mul_left _ (hp (by omega))))
  · rw [if_neg h0, if_neg h0]
    by_cases h1 : 0 ≤ b'
    · rw [if_pos h1, if_pos h1, Nat.mul_one]
      have : a * 2 ^ E0 ≤ a * 10 ^ b'.toNat * 2 ^ E0 := Nat.mul_le_mul_right _ (Nat.le_mul_of_pos_right _ (Nat.pow_pos (by decide)))
      exact Nat.le_trans this (Nat.le_mul_of_pos_right _ (Nat.pow_pos (by decide)))
    · rw [if_neg h1, if_neg h1]
      exact Nat.mul_le_mul_left _ (hp (by omega))
/-- What rounds to the double has many digits, or is scaled to a multiple of ten. -/
theorem scaled_ten {u j P s a : Nat} {b : Int} (hu : 4503599627370496 ≤ u) (hs : s ≤ 8) (hE : ScaleAt j P s) (hw : MP P ≤ 2 ^ (8 - s) * NP P) (ha : a < 1000000000000000) (h : (2 * u - 1) * (2 ^ j * vD b) ≤ 2 * vN a b) : 1 ≤ b + ((P : Int) - 348) := by
  rcases (by omega : 1 ≤ b + ((P : Int) - 348) ∨ b + ((P : Int) - 348) ≤ 0) with h0 | h0
  · exact h0
  · exfalso
    have hx := scale_law 1 (-((P : Int) - 348)) 0 j P s hs (by omega) hE
    have hm := vN_mono (a := a) (show b ≤ -((P : Int) - 348) by omega)
    rw [vN_mul a (-((P : Int) - 348))] at hm
    obtain ⟨V, hV⟩ : ∃ V, V = vN 1 (-((P : Int) - 348)) := ⟨_, rfl⟩
    obtain ⟨D', hD'⟩ : ∃ D', D' = vD (-((P : Int) - 348)) := ⟨_, rfl⟩
    rw [← hV, ← hD'] at hm hx
    have hDp : 0 < D' := by rw [hD']; exact vD_pos _
    have hbp := vD_pos b
    obtain ⟨w, hwv⟩ : ∃ w, w = 2 ^ (8 - s) * NP P := ⟨_, rfl⟩
    rw [← hwv] at hw hx
    have hMp := MP_pos P
    rw [Nat.pow_zero, Nat.mul_one] at hx
    obtain ⟨J, hJ⟩ : ∃ J, J = 2 ^ j := ⟨_, rfl⟩
    have hJp : 0 < J := by rw [hJ]; exact Nat.two_pow_pos _
    rw [← hJ] at h hx
    -- (2u-1) J D' <= 2 a V
    have k1 : (2 * u - 1) * (J * D') ≤ 2 * (a * V) := by
      have e1 : (2 * u - 1) * (J * vD b) * D' ≤ 2 * vN a b * D' := Nat.mul_le_mul_right _ h
      have e2 : 2 * vN a b * D' ≤ 2 * (a * V) * vD b := by
        rw [Nat.mul_assoc, Nat.mul_assoc]; exact Nat.mul_le_mul_left 2 hm
      have e3 : (2 * u - 1) * (J * D') * vD b ≤ 2 * (a * V) * vD b := by
        rw [show (2 * u - 1) * (J * D') * vD b = (2 * u - 1) * (J * vD b) * D' by simp only [Nat.mul_assoc, Nat.mul_comm, Nat.mul_left_comm]]
        exact Nat.le_trans e1 e2
      exact Nat.le_of_mul_le_mul_right e3 hbp
    -- times w, over J D'
    have k2 : (2 * u - 1) * w ≤ 2 * a * MP P := by
      have e1 : (2 * u - 1) * (J * D') * w ≤ 2 * (a * V) * w := Nat.mul_le_mul_right _ k1
      have e2 : 2 * (a * V) * w = 2 * a * MP P * (J * D') := by
        have : 2 * (a * V) * w = a * (2 * V * w) := by simp only [Nat.mul_assoc, Nat.mul_comm, Nat.mul_left_comm]
        rw [this, ← hx]; simp only [Nat.mul_assoc, Nat.mul_comm, Nat.mul_left_comm]
      rw [e2, show (2 * u - 1) * (J * D') * w = (2 * u - 1) * w * (J * D') by rw [Nat.mul_right_comm]] at e1
      exact Nat.le_of_mul_le_mul_right e1 (Nat.mul_pos hJp hDp)
    have k3 : (2 * u - 1) * MP P ≤ 2 * a * MP P := Nat.le_trans (Nat.mul_le_mul_left _ hw) k2
    have := Nat.le_of_mul_le_mul_right k3 hMp
    omega

/-- What is to be known of the digits d, with exponent x, of the double with the bits r. -/
structure Spec (r d : Nat) (x : Int) : Prop where
  pos : 1 ≤ d
  all : ∀ (a : Nat) (b : Int), 1 ≤ a → a < 1000000000000000 → a % 10 ≠ 0 → -300 ≤ b → b ≤ 290 → nearV a b = r → ∃ k : Nat, d = a * 10 ^ k ∧ x + k = b
  own : ∀ (a k : Nat), d = a * 10 ^ k → 1 ≤ a → a < 1000000000000000 → -300 ≤ x + k → x + k ≤ 290 → nearV a (x + k) = r

theorem spec_of {u j P s U0 U1 U2 R0 R1 : Nat} (h1 : 4503599627370496 < u) (h2 : u < 9007199254740992) (hs : s ≤ 8) (hE : ScaleAt j P s) (hw1 : MP P ≤ 2 ^ (8 - s) * NP P) (hw2 : 2 ^ (8 - s) * NP P < 10 * MP P)
    (t0 : Tells U0 (2 * ((2 * u - 1) * (2 ^ (8 - s) * NP P))) (MP P)) (t1 : Tells U1 (2 * ((2 * u + 1) * (2 ^ (8 - s) * NP P))) (MP P)) (t2 : Tells U2 (2 * (2 * u * (2 ^ (8 - s) * NP P))) (MP P)) (h0 : R0 = U0 + u % 2) (h0' : R1 + u % 2 = U1) :
    Spec (j * 4503599627370496 + u) (sfV R0 R1 U2 ((P : Int) - 348)).1 (sfV R0 R1 U2 ((P : Int) - 348)).2 := by
  have hM := MP_pos P
  have law := short_law (p := (P : Int) - 348) hM hw1 hw2 (by omega) t0 t1 t2 h0 h0'
  have ten : ∀ (a : Nat) (b : Int), a < 1000000000000000 → Near (vN a b) (vD b) (j * 4503599627370496 + u) → 1 ≤ b + ((P : Int) - 348) := fun a b ha hn => scaled_ten (by omega) hs hE hw1 ha (near_conv h1 h2 hn).1
  have all : ∀ (a : Nat) (b : Int), 1 ≤ a → a < 1000000000000000 → -300 ≤ b → nearV a b = j * 4503599627370496 + u → ∃ k : Nat, b + ((P : Int) - 348) = k + 1 ∧ InI u (2 ^ (8 - s) * NP P) (MP P) (10 * (a * 10 ^ k)) := by
    intro a b ha ha' hb hn
    have hN := nearV_near a b ha hb
    rw [hn] at hN
    obtain ⟨k, hk⟩ : ∃ k : Nat, b + ((P : Int) - 348) = k + 1 := ⟨(b + ((P : Int) - 348) - 1).toNat, by have := ten a b ha' hN; omega⟩
    have := (inI_near (a := a) (t := k + 1) h1 h2 hs hk hE).2 hN
    rw [Nat.pow_succ, ← Nat.mul_assoc, Nat.mul_comm (a * 10 ^ k) 10] at this
    exact ⟨k, hk, this⟩
  rcases law with ⟨d, e, hin, huni⟩ | ⟨d, e, hd10, hd15, hno⟩
  · rw [e]
    have hd0 : 1 ≤ d := by
      rcases Nat.eq_zero_or_pos d with h | h
      · exfalso
        have hw0 : 0 < 2 ^ (8 - s) * NP P := Nat.mul_pos (Nat.two_pow_pos _) (NP_pos P)
        have h9 := hin.1
        have h8 : 0 < (2 * u - 1) * (2 ^ (8 - s) * NP P) := Nat.mul_pos (by omega) hw0
        rw [h, Nat.mul_zero, Nat.zero_mul] at h9
        omega
      · exact h
    refine ⟨hd0, fun a b ha ha' ha9 hb hb' hn => ?_, fun a k hk ha ha' hb hb' => ?_⟩
    · obtain ⟨k, hk, hI⟩ := all a b ha ha' hb hn
      exact ⟨k, (huni _ hI).symm, by simp only; omega⟩
    · simp only at hk hb hb' ⊢
      have hN := (inI_near (a := a) (t := k + 1) (b := -((P : Int) - 348 - 1) + k) h1 h2 hs (by omega) hE).1 (by
        rw [Nat.pow_succ, ← Nat.mul_assoc, Nat.mul_comm (a * 10 ^ k) 10, ← hk]; exact hin)
      exact (nearV_near a _ ha hb).unique hN
  · rw [e]
    refine ⟨by simp only; omega, fun a b ha ha' ha9 hb hb' hn => ?_, fun a k hk ha ha' hb hb' => ?_⟩
    · obtain ⟨k, hk, hI⟩ := all a b ha ha' hb hn
      exact absurd hI (hno _)
    · exfalso
      simp only at hk
      cases k with
      | zero => rw [Nat.pow_zero, Nat.mul_one] at hk; omega
      | succ k =>
        rw [Nat.pow_succ, ← Nat.mul_assoc] at hk
        omega
/-- The same for the numbers under all that may be. -/
theorem spec_tiny {r d : Nat} {x : Int} (hr : r ≤ 9007199254740992) (h1 : 1 ≤ d) (h2 : d < 1000000000000000000) (hx : x ≤ -322) : Spec r d x := by
  refine ⟨h1, fun a b ha ha' ha9 hb hb' hn => ?_, fun a k hk ha ha' hb hb' => ?_⟩
  · exfalso
    have h0 : 9007199254740992 < nearV 1 (-300) := by decide +kernel
    rcases (by omega : (a = 1 ∧ b = -300) ∨ ¬ (a = 1 ∧ b = -300)) with ⟨rfl, rfl⟩ | hne
    · omega
    · have hd : dec 1 (-300) < dec a b := by
        have e1 : dec 1 (-300) = 1 := rfl
        rw [e1]
        unfold dec
        rcases (by omega : b = -300 ∨ -300 < b) with rfl | hb9
        · have : 2 ≤ a := by omega
          rw [show ((-300 : Int) + 300).toNat = 0 from rfl, Nat.pow_zero, Nat.mul_one]; omega
        · obtain ⟨k, hk⟩ : ∃ k, (b + 300).toNat = k + 1 := ⟨(b + 300).toNat - 1, by omega⟩
          rw [hk, Nat.pow_succ]
          have hp : 0 < a * 10 ^ k := Nat.mul_pos (by omega) (Nat.pow_pos (by decide))
          rw [← Nat.mul_assoc]
          omega
      have := nearV_lt 1 a (-300) b (by decide) (by decide) ha' (by decide) hb hd
      omega
  · exfalso
    obtain ⟨t, rfl⟩ : ∃ t, k = 18 + t := ⟨k - 18, by omega⟩
    have : 10 ^ 18 * 1 ≤ a * 10 ^ (18 + t) := by
      rw [Nat.pow_add, Nat.mul_left_comm]
      exact Nat.mul_le_mul_left _ (Nat.mul_pos ha (Nat.pow_pos (by decide)))
    have e18 : (10 : Nat) ^ 18 = 1000000000000000000 := by decide
    omega
end Go.Proofs.YtglamimbkdldaaaGreatDoor
