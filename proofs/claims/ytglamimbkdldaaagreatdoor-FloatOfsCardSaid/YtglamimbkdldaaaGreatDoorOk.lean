import Derived.Test.YtglamimbkdldaaaGreatDoorOu
namespace Go.Proofs.YtglamimbkdldaaaGreatDoor
open Go.RowKit Go.Sort Ieee
attribute [local go_sem] run_mffb run_f64b

theorem cmp_self (a : Int) : compare a a = .eq := by
  show compareOfLessAndEq a a = _
  unfold compareOfLessAndEq; rw [if_neg (by omega), if_pos rfl]
theorem datum_self (d : Datum) (h : d.isNaN = false) : d.order d = some .eq := by
  cases d with
  | number s m e => simp only [Datum.order]; rw [cmp_self]
  | infinity s => cases s <;> rfl
  | nan s t => simp [Datum.isNaN] at h
theorem read_nan (f : Nat) (h : 9218868437227405312 < f % 9223372036854775808) : ∃ s t, double.read f = .nan s t := by
  unfold Format.read
  dsimp only
  rw [if_neg (by rw [dbl_sign, dbl_binade]; omega), if_neg (by rw [dbl_sign, dbl_inf]; omega), if_neg (by rw [dbl_sign, dbl_inf]; omega)]
  exact ⟨_, _, rfl⟩
theorem order_self (f : Nat) (h : f % 9223372036854775808 < 9218868437227405312) : FloatKind.f64.format.order f f = some .eq := by
  show (double.read f).order (double.read f) = _
  apply datum_self
  unfold Format.read
  dsimp only
  by_cases h1 : f % double.signWeight < double.binade
  · rw [if_pos h1]; rfl
  · rw [if_neg h1, if_pos (by rw [dbl_sign, dbl_inf]; exact h)]; rfl
theorem order_nan (f : Nat) (h : 9218868437227405312 < f % 9223372036854775808) : FloatKind.f64.format.order f f = none := by
  show (double.read f).order (double.read f) = _
  obtain ⟨s, t, e⟩ := read_nan f h
  rw [e]; rfl
theorem order_max (r : Nat) (h : r < 9218868437227405312) : FloatKind.f64.format.order r 9218868437227405311 = some .lt ∨ FloatKind.f64.format.order r 9218868437227405311 = some .eq := by
  have hr : ∃ (m : Nat) (i : Int), double.read r = .number false m i ∧ m ≤ 9007199254740991 ∧ i ≤ 971 := by
    unfold Format.read
    have e1 : r / 9223372036854775808 % 2 = 0 := by omega
    have e2 : r % 9223372036854775808 = r := by omega
    simp only [dbl_sign, dbl_binade, dbl_inf, dbl_least, e1, e2]
    split
    · exact ⟨_, _, rfl, by omega, by omega⟩
    · exact ⟨_, _, rfl, by omega, by omega⟩
  have hM : double.read 9218868437227405311 = .number false 9007199254740991 971 := by decide +kernel
  obtain ⟨m, i, e, hm, hi⟩ := hr
  show (double.read r).order (double.read 9218868437227405311) = _ ∨ (double.read r).order (double.read 9218868437227405311) = _
  rw [e, hM]
  have hmin : min i 971 = i := by omega
  simp only [Datum.order, hmin]
  have hA : (i - i).toNat = 0 := by omega
  rw [hA, signed_false]
  have hB : signed false 9007199254740991 (971 - i).toNat = ((9007199254740991 * 2 ^ (971 - i).toNat : Nat) : Int) := by simp [signed, Nat.shiftLeft_eq]
  rw [hB]
  have hle : m ≤ 9007199254740991 * 2 ^ (971 - i).toNat := Nat.le_trans hm (Nat.le_mul_of_pos_right _ (Nat.two_pow_pos _))
  generalize 9007199254740991 * 2 ^ (971 - i).toNat = z at *
  rcases Nat.lt_or_eq_of_le hle with h9 | h9
  · left; rw [cmp_lt (by omega)]
  · right; rw [h9, cmp_self]
theorem andNot_sign (f : Nat) (h : f < 18446744073709551616) : bits BinOp.andNot IntKind.u64 (f : Int) 9223372036854775808 = ((f % 9223372036854775808 : Nat) : Int) := by
  have hb : bits BinOp.andNot IntKind.u64 (f : Int) 9223372036854775808 = IntKind.u64.wrap ((BitVec.ofInt 64 (f : Int) &&& ~~~ 9223372036854775808#64).toNat : Int) := rfl
  rw [hb, show (~~~ 9223372036854775808#64) = 9223372036854775807#64 by decide, BitVec.toNat_and]
  have e1 : (BitVec.ofInt 64 (f : Int)).toNat = f := by
    rw [BitVec.toNat_ofInt]; omega
  rw [e1, show (9223372036854775807#64).toNat = 2 ^ 63 - 1 from rfl, Nat.and_two_pow_sub_one_eq_mod, IntKind.wrap_u64]
  omega
set_option maxHeartbeats 400000 in
theorem isnan_true (f : Nat) (w : World) (hf : FloatKind.f64.format.order f f = none) : Calls Tryz.prog 25 #[.float .f64 f] w fun e w' => e = .returned (.bool true) ∧ w = w' := by
  go_enter Tryz.func25, Tryz.ntmps25
  go_wp2
  go_ret
  exact ⟨rfl, rfl⟩
set_option maxRecDepth 100000 in
set_option maxHeartbeats 400000 in
theorem abs_gen (f r : Nat) (w : World) (h : bits BinOp.andNot IntKind.u64 (f : Int) 9223372036854775808 = (r : Int)) : Calls Tryz.prog 41 #[.float .f64 f] w fun e w' => e = .returned (.float .f64 r) ∧ w = w' := by
  go_enter Tryz.func41, Tryz.ntmps41
  go_wp2_with fail
  go_ret
  exact ⟨by simp, rfl⟩
set_option maxRecDepth 100000 in
set_option maxHeartbeats 400000 in
theorem isinf_gen (f r : Nat) (w : World) (hb : bits BinOp.andNot IntKind.u64 (f : Int) 9223372036854775808 = (r : Int)) (h1 : FloatKind.f64.format.order r 9218868437227405311 = some .lt ∨ FloatKind.f64.format.order r 9218868437227405311 = some .eq) : Calls Tryz.prog 26 #[.float .f64 f, .int .i64 0] w fun e w' => e = .returned (.bool false) ∧ w = w' := by
  rcases h1 with h1 | h1
  all_goals
    go_enter Tryz.func26, Tryz.ntmps26
    go_wp2_with fail
    refine (abs_gen f r _ hb).mono ?_
    rintro e w' ⟨rfl, rfl⟩
    go_wp2_with fail
    go_ret
    exact ⟨rfl, rfl⟩
set_option maxRecDepth 100000 in
set_option maxHeartbeats 1000000 in
/-- float.Of at what is no number. -/
theorem of_nan (f : Nat) (w : World)
    (s1 : ((f : Int) == 9218868437227405314) = false) (s2 : ((f : Int) == 9218868437227405312) = false) (s3 : ((f : Int) == 18442240474082181120) = false) (s4 : ((f : Int) == 9223372036854775808) = false)
    (KN : Hid (∀ w, Calls Tryz.prog 25 #[.float .f64 f] w fun e w' => e = .returned (.bool true) ∧ w = w')) :
    Calls Tryz.prog 14 #[.int .u64 f] w fun e w' => e = .returned (.tuple #[.agg #[.int .i64 0, .int .i64 0, .int .i64 0], .bool false]) ∧ Below w.heap.size w w' := by
  go_enter Tryz.func14, Tryz.ntmps14
  go_wp2_with fail
  refine wp_scope_jumps 0 (fun a' w' => (Below w.heap.size w w' ∧ ∀ o, o < 3 → (∃ v, w'.cell? ⟨w.heap.size, o, none⟩ = some v) ∧ w'.frozen? ⟨w.heap.size, o, none⟩ = false) ∧ ∃ u0 u1 u3 u4 u5 u6 u7 u8 u9 u10 u11 u12 u13 u14 u15 u16 u17 u18 u19 u20 u21 u22 u23 u24 u25 u26 u27 u28 u29 u30 u31 u32 u33 u34 u35 u36 u37 u38 u39 u40 u41 u42 u43 u44 u45 u46 u47 u48 u49 u50 u51 u52 u53 u54 u55 u56 u57 u58 u59 u60 u61 u62 u63 u64 u65 u66 u67 u68 u69 u70 u71 u72 u73 u74 u75 u76 u77 u78 u79 u80 u81 : Value, a' = { tmps := #[u0, u1, .pointer (some ⟨w.heap.size, 0, none⟩), u3, u4, u5, u6, u7, u8, u9, u10, u11, u12, u13, u14, u15, u16, u17, u18, u19, u20, u21, u22, u23, u24, u25, u26, u27, u28, u29, u30, u31, u32, u33, u34, u35, u36, u37, u38, u39, u40, u41, u42, u43, u44, u45, u46, u47, u48, u49, u50, u51, u52, u53, u54, u55, u56, u57, u58, u59, u60, u61, u62, u63, u64, u65, u66, u67, u68, u69, u70, u71, u72, u73, u74, u75, u76, u77, u78, u79, u80, u81], defers := [] }) (fun _ _ => 0) rfl ?_ ?_
  rotate_left
  · rintro a' w' ⟨⟨hB, hc⟩, hex⟩
    obtain ⟨⟨c0, hc0⟩, hf0⟩ := hc 0 (by decide)
    obtain ⟨⟨c1, hc1⟩, hf1⟩ := hc 1 (by decide)
    obtain ⟨⟨c2, hc2⟩, hf2⟩ := hc 2 (by decide)
    have HB := Lib.hid hB
    clear hc hB
    obtain ⟨u0, u1, u3, u4, u5, u6, u7, u8, u9, u10, u11, u12, u13, u14, u15, u16, u17, u18, u19, u20, u21, u22, u23, u24, u25, u26, u27, u28, u29, u30, u31, u32, u33, u34, u35, u36, u37, u38, u39, u40, u41, u42, u43, u44, u45, u46, u47, u48, u49, u50, u51, u52, u53, u54, u55, u56, u57, u58, u59, u60, u61, u62, u63, u64, u65, u66, u67, u68, u69, u70, u71, u72, u73, u74, u75, u76, u77, u78, u79, u80, u81, rfl⟩ := hex
    go_wp2_with fail
    simp only [Exit.jump]
    have hr : Tryz.f14.results = #[.cell 2 23, .tmp 3] := by kernel_rfl
    refine bodyPost_ret (v := .tuple #[.agg #[.int .i64 0, .int .i64 0, .int .i64 0], .bool false]) ?_ rfl ⟨rfl, ?_⟩
    · unfold results; rw [hr]; go_simp
    · have := HB.out
      repeat (first | assumption | (refine Below.setCell ?_ (by simp) _) | apply Below.drew)
  go_wp2_with fail
  refine (KN.out _).mono ?_
  rintro e w1 ⟨rfl, rfl⟩
  have hB7 : Below (w.alloc (.cells #[.int .i64 0, .int .i64 0, .int .i64 0] 23)).heap.size (w.alloc (.cells #[.int .i64 0, .int .i64 0, .int .i64 0] 23)) (w.alloc (.cells #[.int .i64 0, .int .i64 0, .int .i64 0] 23)) := Below.refl _ _
  have hsz : w.heap.size < (w.alloc (.cells #[.int .i64 0, .int .i64 0, .int .i64 0] 23)).heap.size := by simp
  have hd0 : (w.alloc (.cells #[.int .i64 0, .int .i64 0, .int .i64 0] 23)).cell? ⟨w.heap.size, 0, none⟩ = some (.int .i64 0) := by simp
  have hd1 : (w.alloc (.cells #[.int .i64 0, .int .i64 0, .int .i64 0] 23)).cell? ⟨w.heap.size, 1, none⟩ = some (.int .i64 0) := by simp
  have hd2 : (w.alloc (.cells #[.int .i64 0, .int .i64 0, .int .i64 0] 23)).cell? ⟨w.heap.size, 2, none⟩ = some (.int .i64 0) := by simp
  have hf0 : ∀ o, (w.alloc (.cells #[.int .i64 0, .int .i64 0, .int .i64 0] 23)).frozen? ⟨w.heap.size, o, none⟩ = false := fun o => World.frozen?_alloc_new _ _ _ _
  have HB7 : Hid (Below w.heap.size w (w.alloc (.cells #[.int .i64 0, .int .i64 0, .int .i64 0] 23))) := ((Ext.refl w).alloc _).below
  have HF0 := Lib.hid hf0
  clear hB7 hsz hf0
  go_wp2_with fail
  go_step3
  refine ⟨rfl, ⟨HB7.out, fun o ho => ?_⟩, ?_⟩
  · match o, ho with
    | 0, _ => exact ⟨⟨_, hd0⟩, HF0.out _⟩
    | 1, _ => exact ⟨⟨_, hd1⟩, HF0.out _⟩
    | 2, _ => exact ⟨⟨_, hd2⟩, HF0.out _⟩
  · repeat apply Exists.intro
    rfl
set_option maxRecDepth 100000 in
set_option maxHeartbeats 1000000 in
/-- float.Of at the four that are no numbers. -/
theorem of_kind (f : Nat) (s : Int) (w : World) (h : (f = 9218868437227405314 ∧ s = 1) ∨ (f = 9218868437227405312 ∧ s = 2) ∨ (f = 18442240474082181120 ∧ s = 3) ∨ (f = 9223372036854775808 ∧ s = 4)) :
    Calls Tryz.prog 14 #[.int .u64 f] w fun e w' => e = .returned (.tuple #[.agg #[.int .i64 0, .int .i64 0, .int .i64 s], .bool true]) ∧ Below w.heap.size w w' := by
  have hr : Tryz.f14.results = #[.cell 2 23, .tmp 3] := by kernel_rfl
  rcases h with ⟨rfl, rfl⟩ | ⟨rfl, rfl⟩ | ⟨rfl, rfl⟩ | ⟨rfl, rfl⟩
  all_goals
    go_enter Tryz.func14, Tryz.ntmps14
    go_wp2_with fail
    go_step3
    go_wp2_with fail
    rw [Exit.noGoto_ret]
    refine bodyPost_ret (v := .tuple #[.agg #[.int .i64 0, .int .i64 0, .int .i64 _], .bool true]) ?_ rfl ⟨rfl, ?_⟩
    · unfold results; rw [hr]; go_simp
    · repeat (first | exact Below.refl _ _ | assumption | (refine Below.setCell ?_ (by simp) _) | apply Below.drew | (refine Below.alloc ?_ (by simp) _))
end Go.Proofs.YtglamimbkdldaaaGreatDoor
