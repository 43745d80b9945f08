import Derived.Test.YtglamimbkdldaaaGreatDoorOk
import Derived.Test.YtglamimbkdldaaaGreatDoorPo
namespace Go.Proofs.YtglamimbkdldaaaGreatDoor
open Go.RowKit Go.Sort

/-- What float.Of says of bits: a value that has them; none only where no value has them. -/
structure OfS (f : Nat) (a b s : Int) (q : Bool) : Prop where
  yes : q = true → rightV a b s = true ∧ bitsV a b s = f
  no : q = false → a = 0 ∧ b = 0 ∧ s = 0
  all : ∀ m x t : Int, rightV m x t = true → bitsV m x t = f → q = true ∧ m = a ∧ x = b ∧ t = s

theorem pow_uniq {a k : Nat} : ∀ {a' k' : Nat}, a % 10 ≠ 0 → a' % 10 ≠ 0 → a * 10 ^ k = a' * 10 ^ k' → a = a' ∧ k = k' := by
  induction k with
  | zero =>
    intro a' k' h h' e
    cases k' with
    | zero => simpa using e
    | succ k' => rw [Nat.pow_zero, Nat.mul_one, Nat.pow_succ, ← Nat.mul_assoc] at e; omega
  | succ k ih =>
    intro a' k' h h' e
    cases k' with
    | zero => rw [Nat.pow_zero, Nat.mul_one, Nat.pow_succ, ← Nat.mul_assoc] at e; omega
    | succ k' =>
      rw [Nat.pow_succ, Nat.pow_succ, ← Nat.mul_assoc, ← Nat.mul_assoc] at e
      obtain ⟨e1, e2⟩ := ih h h' (Nat.eq_of_mul_eq_mul_right (by decide) e)
      exact ⟨e1, by omega⟩
/-- Whose bits are a finite number's but 0. -/
theorem bits_fin {f : Nat} {m x t : Int} (h : rightV m x t = true) (e : bitsV m x t = f) (hf : f % 9223372036854775808 < 9218868437227405312) (h0 : f % 9223372036854775808 ≠ 0) :
    t = 0 ∧ m ≠ 0 ∧ m.natAbs < 1000000000000000 ∧ 1 ≤ m.natAbs ∧ -300 ≤ x ∧ x ≤ 290 ∧ m.natAbs % 10 ≠ 0 ∧ nearV m.natAbs x = f % 9223372036854775808 ∧ (m < 0 ↔ 9223372036854775808 ≤ f) := by
  rcases bitsV_cases h with ⟨a1, a2, a3, a4⟩ | ⟨a1, a2, a3, a4, a5, a6, a7, a8, a9, a10⟩ | ⟨a1, a2, a3⟩
  · rw [a4] at e; omega
  · rw [a8] at e
    by_cases hm : m < 0
    · rw [if_pos hm] at e; omega
    · rw [if_neg hm] at e; omega
  · omega
theorem eb_len (k : Nat) : (expD k).length ≤ 3 := expD_len k
theorem digT_len (D : Nat → UInt8) (n : Nat) (h : 1 ≤ n) : (digT D n).length ≤ n + 1 := by
  unfold digT
  split
  · simp
  · simp; omega
theorem toL (l : List UInt8) : (⟨l.toArray⟩ : ByteArray).data.toList = l := by simp
theorem szL (l : List UInt8) : (⟨l.toArray⟩ : ByteArray).size = l.length := by simp [ByteArray.size]

/-- float.Of at a finite number but 0. -/
theorem of_fin_spec (f : Nat) (hf : f < 18446744073709551616) (hfin : f % 9223372036854775808 < 9218868437227405312) (h0 : f % 9223372036854775808 ≠ 0) :
    ∃ (a b s : Int) (q : Bool), OfS f a b s q ∧ ∀ (w : World) (m0 : Int), Tabs w → w.cell? ⟨5, 0, none⟩ = some (.int .i64 m0) → Calls Tryz.prog 14 #[.int .u64 f] w fun e w' => e = .returned (.tuple #[.agg #[.int .i64 a, .int .i64 b, .int .i64 s], .bool q]) ∧ Below w.heap.size w w' := by
  obtain ⟨d, n, nz, p, hS, hd, hp, hp', hn, hn18, hnz, k1, k2, hdk, hd10, KF⟩ := ff_all f hf hfin h0
  obtain ⟨neg, hneg⟩ : ∃ neg, neg = decide (9223372036854775808 ≤ f) := ⟨_, rfl⟩
  rw [← hneg] at KF
  obtain ⟨D, hD⟩ : ∃ D : Nat → UInt8, D = fun t => Lib.dg d (n - 1 - t) := ⟨_, rfl⟩
  have hisD : ∀ i, IsD (D i) := fun i => by rw [hD]; exact dg_isD _ _
  have hval := val_digits d n (by rw [hn]; exact Lib.lt_pow_nDigits d) nz k2
  rw [← hD] at hval KF
  obtain ⟨x, hx⟩ : ∃ x, x = (n : Int) + p - 1 := ⟨_, rfl⟩
  rw [← hx] at KF
  obtain ⟨b1, tc1, tc2, tc3, tc4⟩ := text_parts neg D nz x k1 hisD
  obtain ⟨a0, ha0⟩ : ∃ a0, a0 = d / 10 ^ (n - nz) := ⟨_, rfl⟩
  rw [← ha0] at hval hdk hd10
  have ha1 : 1 ≤ a0 := by omega
  have ha18 : a0 < 1000000000000000000 := by
    have : a0 * 1 ≤ a0 * 10 ^ (n - nz) := Nat.mul_le_mul_left _ (Nat.pow_pos (by decide))
    omega
  have hsg : (if neg then [45] else [] : List UInt8).length ≤ 1 := by cases neg <;> simp
  have hdl := digT_len D nz k1
  have hel := eb_len x.natAbs
  have hetl : (expT x).length ≤ 5 := by unfold expT; simp; omega
  have KN : Hid (∀ w, Calls Tryz.prog 25 #[.float .f64 f] w fun e w' => e = .returned (.bool false) ∧ w = w') := fun w => isnan_walk f w (order_self f hfin)
  have KI : Hid (∀ w, Calls Tryz.prog 26 #[.float .f64 f, .int .i64 0] w fun e w' => e = .returned (.bool false) ∧ w = w') := fun w => isinf_gen f _ w (andNot_sign f hf) (order_max _ hfin)
  have KP : Hid (∀ w, Tabs w → Calls Tryz.prog 27 #[.float .f64 f, .int .u8 101, .int .i64 (-1), .int .i64 64] w fun e w' => e = .returned (.string ⟨((if neg then [45] else []) ++ digT D nz ++ expT x).toArray⟩) ∧ Below w.heap.size w w') := fun w T => ff_walk f w _ (KF w T)
  have s1 : ((f : Int) == 9218868437227405314) = false := by rw [beq_eq_false_iff_ne]; omega
  have s2 : ((f : Int) == 9218868437227405312) = false := by rw [beq_eq_false_iff_ne]; omega
  have s3 : ((f : Int) == 18442240474082181120) = false := by rw [beq_eq_false_iff_ne]; omega
  have s4 : ((f : Int) == 9223372036854775808) = false := by rw [beq_eq_false_iff_ne]; omega
  have c1 : Hid (Lib.cut (⟨((if neg then [45] else []) ++ digT D nz ++ expT x).toArray⟩ : ByteArray).data.toList (⟨#[101]⟩ : ByteArray).data.toList = ((⟨((if neg then [45] else []) ++ digT D nz).toArray⟩ : ByteArray).data.toList, (⟨((if x < 0 then 45 else 43) :: expD x.natAbs).toArray⟩ : ByteArray).data.toList, true)) := by
    show _ = _; rw [toL, toL, toL]; exact tc1
  have c2 : Hid (Lib.cut (⟨((if neg then [45] else []) ++ digT D nz).toArray⟩ : ByteArray).data.toList (⟨#[46]⟩ : ByteArray).data.toList = ((⟨((if neg then [45] else []) ++ [D 0]).toArray⟩ : ByteArray).data.toList, (⟨((List.range (nz - 1)).map (fun i => D (i + 1))).toArray⟩ : ByteArray).data.toList, b1)) := by
    show _ = _; rw [toL, toL, toL]; exact tc2
  have c3 : Hid (Lib.trimPrefix (⟨((if neg then [45] else []) ++ [D 0]).toArray⟩ : ByteArray).data.toList (⟨#[45]⟩ : ByteArray).data.toList = (⟨[D 0].toArray⟩ : ByteArray).data.toList) := by
    show _ = _; rw [toL, toL]; exact tc3
  have hsz : (⟨[D 0].toArray⟩ : ByteArray).size + (⟨((List.range (nz - 1)).map (fun i => D (i + 1))).toArray⟩ : ByteArray).size = nz := by
    rw [szL, szL]; simp; omega
  have hT : (⟨((if neg then [45] else []) ++ digT D nz ++ expT x).toArray⟩ : ByteArray).size < 100 := by rw [szL]; simp only [List.length_append]; omega
  have hF : (⟨((if neg then [45] else []) ++ digT D nz).toArray⟩ : ByteArray).size < 100 := by rw [szL]; simp only [List.length_append]; omega
  have hu : ∀ (m x' t : Int), rightV m x' t = true → bitsV m x' t = f → t = 0 ∧ m.natAbs = a0 ∧ x' = p + ((n - nz : Nat) : Int) ∧ (m < 0 ↔ 9223372036854775808 ≤ f) ∧ a0 < 1000000000000000 := by
    intro m x' t hr he
    obtain ⟨g1, g2, g3, g4, g5, g6, g7, g8, g9⟩ := bits_fin hr he hfin h0
    obtain ⟨k', e1, e2⟩ := hS.all m.natAbs x' g4 g3 g7 g5 g6 g8
    obtain ⟨e3, e4⟩ := pow_uniq g7 hd10 (e1.symm.trans hdk)
    exact ⟨g1, e3, by omega, g9, by omega⟩
  by_cases h15 : nz ≤ 15
  · have ha15 : a0 < 1000000000000000 := by
      have h9 : a0 < 10 ^ nz := by
        rw [ha0, Nat.div_lt_iff_lt_mul (Nat.pow_pos (by decide)), ← Nat.pow_add, show nz + (n - nz) = n by omega, hn]
        exact Lib.lt_pow_nDigits d
      have : (10 : Nat) ^ nz ≤ 10 ^ 15 := Nat.pow_le_pow_right (by decide) h15
      have : (10 : Nat) ^ 15 = 1000000000000000 := by decide
      omega
    obtain ⟨M, hM⟩ : ∃ M : Int, M = if neg then -(a0 : Int) else (a0 : Int) := ⟨_, rfl⟩
    have hMa : M.natAbs = a0 := by rw [hM]; cases neg <;> simp
    have hMn : M < 0 ↔ 9223372036854775808 ≤ f := by
      rw [hM, hneg]
      by_cases h9 : 9223372036854775808 ≤ f
      · rw [decide_eq_true h9, if_pos rfl]; omega
      · rw [decide_eq_false h9, if_neg (by decide)]; omega
    obtain ⟨X, hX⟩ : ∃ X, X = p + ((n - nz : Nat) : Int) := ⟨_, rfl⟩
    have hpi : Hid (Lib.parseIntB 64 ((⟨((if neg then [45] else []) ++ [D 0]).toArray⟩ : ByteArray) ++ (⟨((List.range (nz - 1)).map (fun i => D (i + 1))).toArray⟩ : ByteArray)).data.toList = .ok M) := by
      show _ = _
      rw [ByteArray.data_append, Array.toList_append, toL, toL, tc4]
      have := parse_signed neg ((List.range nz).map D) (by
        intro h9; have := congrArg List.length h9; simp at this; omega) (by
        intro b hb; obtain ⟨i, _, rfl⟩ := List.mem_map.1 hb; exact hisD i) (by rw [hval]; exact ha18)
      rw [this, hval, hM]
    have hat : Hid (Lib.atoi (⟨((if x < 0 then 45 else 43) :: expD x.natAbs).toArray⟩ : ByteArray).data.toList = some x) := by
      show _ = _; rw [toL]; exact exp_back x (by omega)
    have hwr : IntKind.i64.wrap (x - ((⟨((List.range (nz - 1)).map (fun i => D (i + 1))).toArray⟩ : ByteArray).size : Int)) = X := by
      rw [szL, IntWalk.i64_in _ (by simp; omega)]
      simp
      omega
    have hcl : cleanV M X = if rightV M X 0 = true then some (M, X) else none := by
      have := clean_of (m := M) (x := X) (mm := M) (k := 0) (by omega) (by omega) (by omega) (by simp) (by omega)
      rw [this, if_neg (by omega)]
      simp
    cases hr : rightV M X 0
    · rw [hr, if_neg (by decide)] at hcl
      have hR : cleanR M X = .tuple #[.agg #[.int .i64 0, .int .i64 0, .int .i64 0], .bool false] := by unfold cleanR; rw [hcl]
      have KC : Hid (∀ w, Calls Tryz.prog 15 #[.int .i64 M, .int .i64 X] w fun e w' => e = .returned (.tuple #[.agg #[.int .i64 0, .int .i64 0, .int .i64 0], .bool false]) ∧ Ext w w') := fun w => by rw [← hR]; exact clean_walk M X w (by omega) (by omega)
      refine ⟨0, 0, 0, false, ⟨fun h => (by cases h), fun _ => ⟨rfl, rfl, rfl⟩, fun m x' t h1 h2 => ?_⟩, fun w m0 T hm => of_short f nz _ _ _ _ _ _ M x X 0 0 false b1 w T m0 hm s1 s2 s3 s4 KN KI KP hT hF (by rw [szL, szL]; simp; omega) (by rw [szL]; simp; omega) c1 c2 c3 hpi hat hsz h15 hwr KC⟩
      exfalso
      obtain ⟨e1, e2, e3, e4, e5⟩ := hu m x' t h1 h2
      have em : m = M := by omega
      rw [em, e1, e3, ← hX, hr] at h1
      cases h1
    · rw [hr, if_pos rfl] at hcl
      have hR : cleanR M X = .tuple #[.agg #[.int .i64 M, .int .i64 X, .int .i64 0], .bool true] := by unfold cleanR; rw [hcl]
      have KC : Hid (∀ w, Calls Tryz.prog 15 #[.int .i64 M, .int .i64 X] w fun e w' => e = .returned (.tuple #[.agg #[.int .i64 M, .int .i64 X, .int .i64 0], .bool true]) ∧ Ext w w') := fun w => by rw [← hR]; exact clean_walk M X w (by omega) (by omega)
      obtain ⟨n1, n2, n3, n4, n5, n6, n7, n8⟩ := num_bits hr (by omega)
      refine ⟨M, X, 0, true, ⟨fun _ => ⟨hr, ?_⟩, fun h => (by cases h), fun m x' t h1 h2 => ?_⟩, fun w m0 T hm => of_short f nz _ _ _ _ _ _ M x X M X true b1 w T m0 hm s1 s2 s3 s4 KN KI KP hT hF (by rw [szL, szL]; simp; omega) (by rw [szL]; simp; omega) c1 c2 c3 hpi hat hsz h15 hwr KC⟩
      · have := hS.own a0 (n - nz) hdk ha1 ha15 (by omega) (by omega)
        rw [← hX] at this
        rw [n6, hMa, this]
        by_cases h9 : M < 0
        · rw [if_pos h9]; omega
        · rw [if_neg h9]; omega
      · obtain ⟨e1, e2, e3, e4, e5⟩ := hu m x' t h1 h2
        exact ⟨rfl, by omega, by omega, e1⟩
  · refine ⟨0, 0, 0, false, ⟨fun h => (by cases h), fun _ => ⟨rfl, rfl, rfl⟩, fun m x' t h1 h2 => ?_⟩, fun w m0 T hm => of_long f nz _ _ _ _ _ _ b1 w T m0 hm s1 s2 s3 s4 KN KI KP hT hF c1 c2 c3 hsz (by omega) (by omega)⟩
    exfalso
    obtain ⟨e1, e2, e3, e4, e5⟩ := hu m x' t h1 h2
    have hlow := nDigits_low d hS.pos
    rw [← hn] at hlow
    have h9 : 10 ^ (nz - 1) ≤ a0 := by
      rw [ha0, Nat.le_div_iff_mul_le (Nat.pow_pos (by decide)), ← Nat.pow_add, show nz - 1 + (n - nz) = n - 1 by omega]
      exact hlow
    have : (10 : Nat) ^ 15 ≤ 10 ^ (nz - 1) := Nat.pow_le_pow_right (by decide) (by omega)
    have : (10 : Nat) ^ 15 = 1000000000000000 := by decide
    omega
end Go.Proofs.YtglamimbkdldaaaGreatDoor

namespace Go.Proofs.YtglamimbkdldaaaGreatDoor
open Go.RowKit Go.Sort

/-- float.Of at 0. -/
theorem of_zero (w : World) (T : Tabs w) (m0 : Int) (hm : w.cell? ⟨5, 0, none⟩ = some (.int .i64 m0)) :
    Calls Tryz.prog 14 #[.int .u64 ((0 : Nat) : Int)] w fun e w' => e = .returned (.tuple #[.agg #[.int .i64 0, .int .i64 0, .int .i64 0], .bool true]) ∧ Below w.heap.size w w' := by
  have KN : Hid (∀ w, Calls Tryz.prog 25 #[.float .f64 0] w fun e w' => e = .returned (.bool false) ∧ w = w') := fun w => isnan_walk 0 w (order_self 0 (by decide))
  have KI : Hid (∀ w, Calls Tryz.prog 26 #[.float .f64 0, .int .i64 0] w fun e w' => e = .returned (.bool false) ∧ w = w') := fun w => isinf_gen 0 _ w (andNot_sign 0 (by decide)) (order_max _ (by decide))
  have KP : Hid (∀ w, Tabs w → Calls Tryz.prog 27 #[.float .f64 0, .int .u8 101, .int .i64 (-1), .int .i64 64] w fun e w' => e = .returned (.string ⟨#[48, 101, 43, 48, 48]⟩) ∧ Below w.heap.size w w') := fun w T =>
    ff_walk 0 w _ (iff_walk 0 [48, 101, 43, 48, 48] w T (by decide) fun v w1 _ hO hB => ft_zero v w w1 hO hB (Nat.lt_of_le_of_lt (Nat.zero_le _) T.size))
  have KC : Hid (∀ w, Calls Tryz.prog 15 #[.int .i64 0, .int .i64 0] w fun e w' => e = .returned (.tuple #[.agg #[.int .i64 0, .int .i64 0, .int .i64 0], .bool true]) ∧ Ext w w') := fun w => by
    have h : cleanV 0 0 = some (0, 0) := by decide +kernel
    have hR : cleanR 0 0 = .tuple #[.agg #[.int .i64 0, .int .i64 0, .int .i64 0], .bool true] := by unfold cleanR; rw [h]
    rw [← hR]; exact clean_walk 0 0 w (by decide) (by decide)
  exact of_short 0 1 ⟨#[48, 101, 43, 48, 48]⟩ ⟨#[48]⟩ ⟨#[43, 48, 48]⟩ ⟨#[48]⟩ ⟨#[]⟩ ⟨#[48]⟩ 0 0 0 0 0 true false w T m0 hm (by decide) (by decide) (by decide) (by decide) KN KI KP (by decide) (by decide) (by decide) (by decide)
    (show _ = _ by decide +kernel) (show _ = _ by decide +kernel) (show _ = _ by decide +kernel) (show _ = _ by decide +kernel) (show _ = _ by decide +kernel) (by decide) (by decide) (by decide) KC
theorem kind_spec (f : Nat) (s : Int) (h : (f = 9218868437227405314 ∧ s = 1) ∨ (f = 9218868437227405312 ∧ s = 2) ∨ (f = 18442240474082181120 ∧ s = 3) ∨ (f = 9223372036854775808 ∧ s = 4)) : OfS f 0 0 s true := by
  have hr : rightV 0 0 s = true ∧ bitsV 0 0 s = f := by
    rcases h with ⟨rfl, rfl⟩ | ⟨rfl, rfl⟩ | ⟨rfl, rfl⟩ | ⟨rfl, rfl⟩ <;> exact ⟨by decide +kernel, by decide +kernel⟩
  refine ⟨fun _ => hr, fun h => (by cases h), fun m x t h1 h2 => ?_⟩
  obtain ⟨e1, e2, e3⟩ := bitsV_inj h1 hr.1 (h2.trans hr.2.symm)
  exact ⟨rfl, e1, e2, e3⟩
/-- float.Of, at any bits. -/
theorem of_walk (f : Nat) (hf : f < 18446744073709551616) : ∃ (a b s : Int) (q : Bool), OfS f a b s q ∧ ∀ (w : World) (m0 : Int), Tabs w → w.cell? ⟨5, 0, none⟩ = some (.int .i64 m0) →
    Calls Tryz.prog 14 #[.int .u64 f] w fun e w' => e = .returned (.tuple #[.agg #[.int .i64 a, .int .i64 b, .int .i64 s], .bool q]) ∧ Below w.heap.size w w' := by
  by_cases k1 : f = 9218868437227405314
  · exact ⟨0, 0, 1, true, kind_spec f 1 (.inl ⟨k1, rfl⟩), fun w m0 _ _ => of_kind f 1 w (.inl ⟨k1, rfl⟩)⟩
  by_cases k2 : f = 9218868437227405312
  · exact ⟨0, 0, 2, true, kind_spec f 2 (.inr (.inl ⟨k2, rfl⟩)), fun w m0 _ _ => of_kind f 2 w (.inr (.inl ⟨k2, rfl⟩))⟩
  by_cases k3 : f = 18442240474082181120
  · exact ⟨0, 0, 3, true, kind_spec f 3 (.inr (.inr (.inl ⟨k3, rfl⟩))), fun w m0 _ _ => of_kind f 3 w (.inr (.inr (.inl ⟨k3, rfl⟩)))⟩
  by_cases k4 : f = 9223372036854775808
  · exact ⟨0, 0, 4, true, kind_spec f 4 (.inr (.inr (.inr ⟨k4, rfl⟩))), fun w m0 _ _ => of_kind f 4 w (.inr (.inr (.inr ⟨k4, rfl⟩)))⟩
  by_cases k5 : f = 0
  · subst k5
    have hr : rightV 0 0 0 = true ∧ bitsV 0 0 0 = 0 := ⟨by decide +kernel, by decide +kernel⟩
    refine ⟨0, 0, 0, true, ⟨fun _ => hr, fun h => (by cases h), fun m x t h1 h2 => ?_⟩, fun w m0 T hm => of_zero w T m0 hm⟩
    obtain ⟨e1, e2, e3⟩ := bitsV_inj h1 hr.1 (h2.trans hr.2.symm)
    exact ⟨rfl, e1, e2, e3⟩
  by_cases k6 : f % 9223372036854775808 < 9218868437227405312
  · obtain ⟨a, b, s, q, hS, _⟩ := of_fin_spec f hf k6 (by omega)
    exact ⟨a, b, s, q, hS, by assumption⟩
  · have hnan : 9218868437227405312 < f % 9223372036854775808 := by omega
    refine ⟨0, 0, 0, false, ⟨fun h => (by cases h), fun _ => ⟨rfl, rfl, rfl⟩, fun m x t h1 h2 => ?_⟩, fun w m0 _ _ => of_nan f w (by rw [beq_eq_false_iff_ne]; omega) (by rw [beq_eq_false_iff_ne]; omega) (by rw [beq_eq_false_iff_ne]; omega) (by rw [beq_eq_false_iff_ne]; omega) (fun w => isnan_true f w (order_nan f hnan))⟩
    exfalso
    rcases bitsV_cases h1 with ⟨a1, a2, a3, a4⟩ | ⟨a1, a2, a3, a4, a5, a6, a7, a8, a9, a10⟩ | ⟨a1, a2, a3⟩
    · omega
    · rw [a8] at h2
      by_cases hm : m < 0
      · rw [if_pos hm] at h2; omega
      · rw [if_neg hm] at h2; omega
    · omega
end Go.Proofs.YtglamimbkdldaaaGreatDoor
