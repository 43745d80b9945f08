import Derived.Test.YtnkelahimiipjaaGreatDoorNyk
import Derived.Test.YtnkelahimiipjaaGreatDoorPsk
import Derived.Test.YtnkelahimiipjaaGreatDoorCmqk
import Derived.Test.YtnkelahimiipjaaGreatDoorPlk
namespace Go.Proofs.YtnkelahimiipjaaGreatDoor
open Go.RowKit Go.Sort Ieee

theorem word_t (r : Nat) : double.word true r = 9223372036854775808 + r := by
 unfold Format.word; rw [dbl_sign]; simp
theorem word_f (r : Nat) : double.word false r = r := by
 unfold Format.word; simp

/-- The program's bits, by the nearest double. -/
theorem bitsN_near (m x : Int) (hm : m ≠ 0) (h1 : -1000000000000000 < m) (h2 : m < 1000000000000000) (hx : -300 ≤ x) (hx' : x ≤ 290) : bitsN m x = (if m < 0 then 9223372036854775808 else 0) + nearV m.natAbs x := by
 unfold bitsN
 rw [if_neg hm, bitsD_near m.natAbs x (by omega) (by omega) hx hx']
 by_cases h : m < 0
 ·rw [decide_eq_true h, word_t, if_pos h]
 ·rw [decide_eq_false h, word_f, if_neg h, Nat.zero_add]

end Go.Proofs.YtnkelahimiipjaaGreatDoor

namespace Go.Proofs.YtnkelahimiipjaaGreatDoor
open Go.RowKit Go.Sort

/-- What a value's bits are. -/
theorem bitsV_cases {m x s : Int} (h : rightV m x s = true) :
  (s = 0 ∧ m = 0 ∧ x = 0 ∧ bitsV m x s = 0) ∨
  (s = 0 ∧ m ≠ 0 ∧ -1000000000000000 < m ∧ m < 1000000000000000 ∧ -300 ≤ x ∧ x ≤ 290 ∧ m % 10 ≠ 0 ∧ bitsV m x s = (if m < 0 then 9223372036854775808 else 0) + nearV m.natAbs x ∧ 4503599627370496 ≤ nearV m.natAbs x ∧ nearV m.natAbs x < 9218868437227405312) ∨
  (m = 0 ∧ x = 0 ∧ ((s = 1 ∧ bitsV m x s = 9218868437227405314) ∨ (s = 2 ∧ bitsV m x s = 9218868437227405312) ∨ (s = 3 ∧ bitsV m x s = 18442240474082181120) ∨ (s = 4 ∧ bitsV m x s = 9223372036854775808))) := by
 have hb : bitsV m x s = if s = 1 then 9218868437227405314 else if s = 2 then 9218868437227405312 else if s = 3 then 18442240474082181120 else if s = 4 then 9223372036854775808 else bitsN m x := by
  unfold bitsV; rw [h, if_neg (show ¬ (true = false) by decide)]
 unfold rightV at h
 by_cases hs : s = 0
 ·have hb2 : bitsV m x s = bitsN m x := by
   rw [hb, if_neg (by omega), if_neg (by omega), if_neg (by omega), if_neg (by omega)]
  rw [if_neg (by rw [hs]; decide)] at h
  split at h
  ·cases h
  ·split at h
   ·rename_i hm
    simp only [decide_eq_true_eq] at h
    left
    refine ⟨hs, hm, h, ?_⟩
    rw [hb2, hm]; unfold bitsN; rw [if_pos rfl]
   ·simp only [decide_eq_true_eq] at h
    have hm0 : m ≠ 0 := by assumption
    right; left
    have hn := nearV_bd m.natAbs x (by omega) (by omega) h.2.1 h.2.2
    exact ⟨hs, hm0, by omega, by omega, h.2.1, h.2.2, h.1, hb2.trans (bitsN_near m x hm0 (by omega) (by omega) h.2.1 h.2.2), hn.1, hn.2⟩
 ·rw [if_pos hs] at h
  simp only [decide_eq_true_eq] at h
  obtain ⟨h1, h2, h3, h4⟩ := h
  right; right
  refine ⟨h3, h4, ?_⟩
  rcases (by omega : s = 1 ∨ s = 2 ∨ s = 3 ∨ s = 4) with e | e | e | e
  ·exact .inl ⟨e, by rw [hb, if_pos e]⟩
  ·exact .inr (.inl ⟨e, by rw [hb, if_neg (by omega), if_pos e]⟩)
  ·exact .inr (.inr (.inl ⟨e, by rw [hb, if_neg (by omega), if_neg (by omega), if_pos e]⟩))
  ·exact .inr (.inr (.inr ⟨e, by rw [hb, if_neg (by omega), if_neg (by omega), if_neg (by omega), if_pos e]⟩))
/-- Values that aren't the same have other bits. -/
theorem bitsV_inj {m x s m' x' s' : Int} (h : rightV m x s = true) (h' : rightV m' x' s' = true) (e : bitsV m x s = bitsV m' x' s') : m = m' ∧ x = x' ∧ s = s' := by
 rcases bitsV_cases h with ⟨a1, a2, a3, a4⟩ | ⟨a1, a2, a3, a4, a5, a6, a7, a8, a9, a10⟩ | ⟨a1, a2, a3⟩ <;>
 rcases bitsV_cases h' with ⟨b1, b2, b3, b4⟩ | ⟨b1, b2, b3, b4, b5, b6, b7, b8, b9, b10⟩ | ⟨b1, b2, b3⟩
 ·omega
 ·rw [a4, b8] at e; split at e <;> omega
 ·omega
 ·rw [a8, b4] at e; split at e <;> omega
 ·rw [a8, b8] at e
  have hn : nearV m.natAbs x = nearV m'.natAbs x' ∧ (m < 0 ↔ m' < 0) := by split at e <;> split at e <;> omega
  obtain ⟨h1, h2⟩ := nearV_inj m.natAbs m'.natAbs x x' (by omega) (by omega) (by omega) (by omega) a5 b5 hn.1
  omega
 ·rw [a8] at e; split at e <;> omega
 ·omega
 ·rw [b8] at e; split at e <;> omega
 ·omega
end Go.Proofs.YtnkelahimiipjaaGreatDoor

namespace Go.Proofs.YtnkelahimiipjaaGreatDoor
open Go.RowKit Go.Sort
end Go.Proofs.YtnkelahimiipjaaGreatDoor

namespace Go.Proofs.YtnkelahimiipjaaGreatDoor
open Go.RowKit Go.Sort
end Go.Proofs.YtnkelahimiipjaaGreatDoor

namespace Go.Proofs.YtnkelahimiipjaaGreatDoor
open Go.RowKit Go.Sort
end Go.Proofs.YtnkelahimiipjaaGreatDoor

namespace Go.Proofs.YtnkelahimiipjaaGreatDoor
open Go.RowKit Go.Sort
end Go.Proofs.YtnkelahimiipjaaGreatDoor

namespace Go.Proofs.YtnkelahimiipjaaGreatDoor
open Go.RowKit Go.Sort
end Go.Proofs.YtnkelahimiipjaaGreatDoor
