/-
  A text of digits with an exponent, taken apart: plain laws on rows of bytes. No program in sight.
-/
import Derived.Test.YtglamimbkdldaaaGreatDoorFt
import Derived.Lib.IndexMore
import Derived.Lib.ParseIntB
import Derived.Lib.Atoi
namespace Go.Proofs.YtglamimbkdldaaaGreatDoor
open Go.RowKit Go.Sort

theorem index_at : ∀ (pre : List UInt8) (c : UInt8) (post : List UInt8), c ∉ pre → Lib.index (pre ++ c :: post) [c] = pre.length
  | [], c, post, _ => by simp [Lib.index]
  | b :: l, c, post, h => by
    have hb : ¬ c = b := by intro e; exact h (by simp [e])
    have ih := index_at l c post (fun hm => h (List.mem_cons_of_mem _ hm))
    have hn : (((l.length : Nat) : Int) == -1) = false := by rw [beq_eq_false_iff_ne]; omega
    rw [List.cons_append, Lib.index, ih]
    simp [hb, hn]
theorem index_no : ∀ (l : List UInt8) (c : UInt8), c ∉ l → Lib.index l [c] = -1
  | [], c, _ => by simp [Lib.index]
  | b :: l, c, h => by
    have hb : ¬ c = b := by intro e; exact h (by simp [e])
    have ih := index_no l c (fun hm => h (List.mem_cons_of_mem _ hm))
    rw [Lib.index, ih]
    simp [hb]
theorem cut_at (pre : List UInt8) (c : UInt8) (post : List UInt8) (h : c ∉ pre) : Lib.cut (pre ++ c :: post) [c] = (pre, post, true) := by
  unfold Lib.cut
  rw [index_at pre c post h, if_pos (by omega), Int.toNat_natCast]
  simp
theorem cut_no (l : List UInt8) (c : UInt8) (h : c ∉ l) : Lib.cut l [c] = (l, [], false) := by
  unfold Lib.cut
  rw [index_no l c h, if_neg (by decide)]

/-- A digit's byte. -/
def IsD (b : UInt8) : Prop := 48 ≤ b.toNat ∧ b.toNat ≤ 57
/-- What digits spell behind acc. -/
def valB (acc : Nat) (l : List UInt8) : Nat := l.foldl (fun a b => a * 10 + (b.toNat - 48)) acc
theorem valB_ge : ∀ (l : List UInt8) (acc : Nat), acc ≤ valB acc l
  | [], _ => Nat.le_refl _
  | b :: l, acc => Nat.le_trans (by omega) (valB_ge l (acc * 10 + (b.toNat - 48)))
theorem parse_digits : ∀ (l : List UInt8) (acc : Nat), (∀ b ∈ l, IsD b) → valB acc l < 1000000000000000000 → Lib.parseUintM 18446744073709551615 acc l = .ok (valB acc l)
  | [], _, _, _ => rfl
  | b :: l, acc, hd, hv => by
    have h9 := hd b (by simp)
    have hg := valB_ge l (acc * 10 + (b.toNat - 48))
    have hv' : valB (acc * 10 + (b.toNat - 48)) l < 1000000000000000000 := hv
    unfold Lib.parseUintM
    rw [if_pos (show 48 ≤ b.toNat ∧ b.toNat ≤ 57 from h9), if_neg (by unfold IsD at h9; omega), if_neg (by unfold IsD at h9; omega), parse_digits l _ (fun x hx => hd x (by simp [hx])) hv']
    rfl
theorem parse_signed (neg : Bool) (l : List UInt8) (hl : l ≠ []) (hd : ∀ b ∈ l, IsD b) (hv : valB 0 l < 1000000000000000000) :
    Lib.parseIntB 64 ((if neg then [45] else []) ++ l) = .ok (if neg then -((valB 0 l : Nat) : Int) else (valB 0 l : Nat)) := by
  have hp := parse_digits l 0 hd hv
  obtain ⟨c, r, rfl⟩ : ∃ c r, l = c :: r := by
    cases l with
    | nil => exact absurd rfl hl
    | cons c r => exact ⟨c, r, rfl⟩
  have hc := hd c (by simp)
  have hu : Lib.parseUintB 64 (c :: r) = .ok (valB 0 (c :: r)) := by
    unfold Lib.parseUintB; rw [if_neg (by simp)]; exact hp
  cases neg
  · simp only [Bool.false_eq_true, if_false, List.nil_append]
    unfold Lib.parseIntB
    have e1 : ¬ c.toNat = 43 := by unfold IsD at hc; omega
    have e2 : ¬ c.toNat = 45 := by unfold IsD at hc; omega
    simp only [e1, e2, or_false, if_false]
    have h63 : ¬ 9223372036854775808 ≤ valB 0 (c :: r) := by omega
    rw [hu]
    simp [h63]
  · simp only [if_true, List.singleton_append]
    unfold Lib.parseIntB
    have h63 : ¬ 9223372036854775808 < valB 0 (c :: r) := by omega
    simp only [show (45 : UInt8).toNat = 45 from rfl, or_true, if_true]
    rw [hu]
    simp [h63]
theorem exp_all : ((List.range 1000).all fun k => Lib.atoi (43 :: expD k) == some (k : Int) && Lib.atoi (45 :: expD k) == some (-(k : Int))) = true := by decide +kernel
/-- The exponent, read back. -/
theorem exp_back (x : Int) (h : x.natAbs < 1000) : Lib.atoi ((if x < 0 then 45 else 43) :: expD x.natAbs) = some x := by
  have := List.all_eq_true.1 exp_all x.natAbs (List.mem_range.2 h)
  rw [Bool.and_eq_true, beq_iff_eq, beq_iff_eq] at this
  by_cases hx : x < 0
  · rw [if_pos hx, this.2]; congr 1; omega
  · rw [if_neg hx, this.1]; congr 1; omega
theorem expD_len (k : Nat) : (expD k).length ≤ 3 := by unfold expD; split <;> (try split) <;> simp
end Go.Proofs.YtglamimbkdldaaaGreatDoor

namespace Go.Proofs.YtglamimbkdldaaaGreatDoor
open Go.RowKit Go.Sort
theorem dg_nat (u j : Nat) : (Lib.dg u j).toNat = 48 + u / 10 ^ j % 10 := by
  unfold Lib.dg
  have := Nat.mod_lt (u / 10 ^ j) (show 0 < 10 by decide)
  rw [UInt8.toNat_ofNat']
  omega
theorem dg_isD (u j : Nat) : IsD (Lib.dg u j) := by
  have := Nat.mod_lt (u / 10 ^ j) (show 0 < 10 by decide)
  unfold IsD; rw [dg_nat]; omega
theorem dg_zero (u j : Nat) : Lib.dg u j = 48 ↔ u / 10 ^ j % 10 = 0 := by
  constructor
  · intro h
    have := dg_nat u j
    rw [h, show (48 : UInt8).toNat = 48 from rfl] at this
    omega
  · intro h
    apply UInt8.toNat_inj.1
    rw [dg_nat, h]; rfl
theorem trim_spec (d n : Nat) (hd : 1 ≤ d) (hn : d < 10 ^ n) : ∀ k, k ≤ n → d % 10 ^ (n - k) = 0 →
    ∃ nz, nz = trimZ (fun t => Lib.dg d (n - 1 - t)) k ∧ 1 ≤ nz ∧ nz ≤ k ∧ d = d / 10 ^ (n - nz) * 10 ^ (n - nz) ∧ d / 10 ^ (n - nz) % 10 ≠ 0
  | 0, _, h => by
    rw [Nat.sub_zero, Nat.mod_eq_of_lt hn] at h
    omega
  | k + 1, hk, h => by
    by_cases h0 : Lib.dg d (n - 1 - k) = 48
    · have h1 := (dg_zero d (n - 1 - k)).1 h0
      have h2 : d % 10 ^ (n - k) = 0 := by
        rw [show n - k = n - (k + 1) + 1 by omega, Nat.pow_succ]
        rw [show n - 1 - k = n - (k + 1) by omega] at h1
        rw [Nat.mod_mul, h, h1]; simp
      obtain ⟨nz, e, g1, g2, g3, g4⟩ := trim_spec d n hd hn k (by omega) h2
      exact ⟨nz, by rw [e, trimZ]; simp only [h0, if_true], g1, by omega, g3, g4⟩
    · refine ⟨k + 1, by rw [trimZ]; simp only [h0, if_false], by omega, Nat.le_refl _, ?_, ?_⟩
      · have := Nat.div_add_mod d (10 ^ (n - (k + 1)))
        rw [h, Nat.add_zero, Nat.mul_comm] at this
        exact this.symm
      · intro h1
        rw [← show n - 1 - k = n - (k + 1) by omega] at h1
        exact h0 ((dg_zero d (n - 1 - k)).2 h1)
theorem valB_snoc (l : List UInt8) (b : UInt8) : valB 0 (l ++ [b]) = valB 0 l * 10 + (b.toNat - 48) := by
  unfold valB; rw [List.foldl_append]; rfl
theorem val_digits (d n : Nat) (hn : d < 10 ^ n) : ∀ k, k ≤ n → valB 0 ((List.range k).map fun t => Lib.dg d (n - 1 - t)) = d / 10 ^ (n - k)
  | 0, _ => by
    rw [Nat.sub_zero, Nat.div_eq_of_lt hn]; rfl
  | k + 1, hk => by
    rw [List.range_succ, List.map_append, List.map_cons, List.map_nil, valB_snoc, val_digits d n hn k (by omega), dg_nat]
    rw [show n - k = n - (k + 1) + 1 by omega, show n - 1 - k = n - (k + 1) by omega, Nat.pow_succ, ← Nat.div_div_eq_div_mul]
    omega
theorem range_cons (D : Nat → UInt8) (n : Nat) (h : 1 ≤ n) : (List.range n).map D = D 0 :: (List.range (n - 1)).map fun i => D (i + 1) := by
  obtain ⟨k, rfl⟩ : ∃ k, n = k + 1 := ⟨n - 1, by omega⟩
  rw [List.range_succ_eq_map, List.map_cons, List.map_map]; rfl
/-- The text, taken apart. -/
theorem text_parts (neg : Bool) (D : Nat → UInt8) (nz : Nat) (x : Int) (h1 : 1 ≤ nz) (hD : ∀ i, IsD (D i)) :
    ∃ b, Lib.cut ((if neg then [45] else []) ++ digT D nz ++ expT x) [101] = ((if neg then [45] else []) ++ digT D nz, (if x < 0 then 45 else 43) :: expD x.natAbs, true) ∧
      Lib.cut ((if neg then [45] else []) ++ digT D nz) [46] = ((if neg then [45] else []) ++ [D 0], (List.range (nz - 1)).map (fun i => D (i + 1)), b) ∧
      Lib.trimPrefix ((if neg then [45] else []) ++ [D 0]) [45] = [D 0] ∧ ((if neg then [45] else []) ++ [D 0]) ++ (List.range (nz - 1)).map (fun i => D (i + 1)) = (if neg then [45] else []) ++ (List.range nz).map D := by
  have nd : ∀ (c : UInt8), ¬ IsD c → ∀ i, D i ≠ c := fun c hc i e => hc (e ▸ hD i)
  have n101 : ¬ IsD 101 := by unfold IsD; decide
  have n46 : ¬ IsD 46 := by unfold IsD; decide
  have n45 : ¬ IsD 45 := by unfold IsD; decide
  have hsg : ∀ c : UInt8, c ≠ 45 → c ∉ (if neg then [45] else [] : List UInt8) := by
    intro c hc; cases neg <;> simp [hc]
  have hm : ∀ (c : UInt8), ¬ IsD c → c ∉ (List.range (nz - 1)).map (fun i => D (i + 1)) := by
    intro c hc h
    obtain ⟨i, _, e⟩ := List.mem_map.1 h
    exact nd c hc _ e
  have hdig : ∀ c : UInt8, ¬ IsD c → c ≠ 46 → c ∉ digT D nz := by
    intro c hc h46 h
    unfold digT at h
    split at h
    · simp at h; exact nd c hc 0 h.symm
    · simp only [List.mem_append, List.mem_singleton] at h
      rcases h with (h | h) | h
      · exact nd c hc 0 h.symm
      · exact h46 h
      · exact hm c hc h
  have hre := range_cons D nz h1
  have hcut1 := cut_at ((if neg then [45] else []) ++ digT D nz) 101 ((if x < 0 then 45 else 43) :: expD x.natAbs) (by
    rw [List.mem_append, not_or]; exact ⟨hsg 101 (by decide), hdig 101 n101 (by decide)⟩)
  have htrim : Lib.trimPrefix ((if neg then [45] else []) ++ [D 0]) [45] = [D 0] := by
    have h0 := nd 45 n45 0
    cases neg
    · simp only [Bool.false_eq_true, if_false, List.nil_append]
      unfold Lib.trimPrefix Lib.hasPrefix
      rw [if_neg]
      simp [Ne.symm h0]
    · simp [Lib.trimPrefix, Lib.hasPrefix]
  by_cases hz : nz = 1
  · subst hz
    refine ⟨false, ?_, ?_, htrim, ?_⟩
    · rw [show expT x = 101 :: ((if x < 0 then 45 else 43) :: expD x.natAbs) from by unfold expT; simp]
      exact hcut1
    · have : digT D 1 = [D 0] := by unfold digT; rw [if_pos rfl]
      rw [this]
      have h46 : (46 : UInt8) ∉ (if neg then [45] else []) ++ [D 0] := by
        rw [List.mem_append, not_or]
        exact ⟨hsg 46 (by decide), by simp [Ne.symm (nd 46 n46 0)]⟩
      rw [cut_no _ _ h46]; rfl
    · rw [hre]; simp
  · refine ⟨true, ?_, ?_, htrim, ?_⟩
    · rw [show expT x = 101 :: ((if x < 0 then 45 else 43) :: expD x.natAbs) from by unfold expT; simp]
      exact hcut1
    · have : digT D nz = [D 0] ++ 46 :: (List.range (nz - 1)).map (fun i => D (i + 1)) := by unfold digT; rw [if_neg hz]; simp
      rw [this, ← List.append_assoc]
      exact cut_at _ 46 _ (by
        rw [List.mem_append, not_or]
        exact ⟨hsg 46 (by decide), by simp [Ne.symm (nd 46 n46 0)]⟩)
    · rw [hre]; simp
end Go.Proofs.YtglamimbkdldaaaGreatDoor
