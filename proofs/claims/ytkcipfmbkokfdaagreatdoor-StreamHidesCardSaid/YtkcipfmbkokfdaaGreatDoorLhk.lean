/-
  StreamHides: rows of which some are put together ahead come to the same.
-/
import Derived.Test.YtkcipfmbkokfdaaGreatDoorLmpk
import Derived.Test.YtkcipfmbkokfdaaGreatDoorVrk
namespace Go.Proofs.YtkcipfmbkokfdaaGreatDoor
open Go.RowKit Go.Sort Go.Maps
attribute [local go_sem ↓] Go.wp_at_zero Go.wp_at_succ
theorem bits_1023 (y : Int) : ∃ t : Nat, bits .and .i64 y 1023 = (t : Int) ∧ t ≤ 1023 := by
  have h : (BitVec.ofInt 64 y &&& BitVec.ofInt 64 1023).toNat ≤ 1023 := by
    rw [BitVec.toNat_and]
    exact Nat.and_le_right
  refine ⟨_, ?_, h⟩
  show IntKind.i64.wrap ((BitVec.ofInt 64 y &&& BitVec.ofInt 64 1023).toNat : Int) = _
  exact IntWalk.i64_in _ (by omega)
theorem pick_k (y : Int) (m : Nat) : ∃ k : Nat, k ≤ m ∧ (bits .and .i64 y 1023).tmod ((m : Int) + 1) = (k : Int) := by
  obtain ⟨t, h1, _⟩ := bits_1023 y
  refine ⟨t % (m + 1), Nat.le_of_lt_succ (Nat.mod_lt t (Nat.succ_pos m)), ?_⟩
  rw [h1, Int.tmod_eq_emod_of_nonneg (by omega)]
  exact (Int.natCast_emod t (m + 1)).symm
theorem RdQ.cutTo {w : World} {B : Nat} {A : Option Addr} {n c k : Nat} {ll : List (List Pts)} (h : RdQ w B (.slice A n c) ll) (hk : k ≤ n) : RdQ w B (.slice A k c) (ll.take k) := by
  obtain ⟨A', c', e, hc, hA⟩ := h
  injection e with e1 e2 e3
  subst e1 e3
  have hl : (ll.take k).length = k := by rw [List.length_take]; omega
  refine ⟨A, c, by rw [hl], by rw [hl]; omega, ?_⟩
  rcases hA with h0 | ⟨b, o, e, hb, hcl⟩
  · exact .inl (by rw [h0]; simp)
  · refine .inr ⟨b, o, e, hb, fun i hi => ?_⟩
    rw [hl] at hi
    rw [List.getElem_take]
    exact hcl i (by omega)
theorem RdQ.cutFrom {w : World} {B b o : Nat} {n c k : Nat} {ll : List (List Pts)} (h : RdQ w B (.slice (some ⟨b, o, none⟩) n c) ll) (hk : k ≤ n) : RdQ w B (.slice (some ⟨b, o + k, none⟩) (n - k) (c - k)) (ll.drop k) := by
  obtain ⟨A', c', e, hc, hA⟩ := h
  injection e with e1 e2 e3
  subst e1 e3
  have hl : (ll.drop k).length = n - k := by rw [List.length_drop]; omega
  refine ⟨_, c - k, by rw [hl], by rw [hl]; omega, ?_⟩
  rcases hA with h0 | ⟨b', o', e, hb, hcl⟩
  · exact .inl (by rw [h0]; simp)
  · injection e with e
    injection e with e4 e5
    subst e4 e5
    refine .inr ⟨b, o + k, rfl, hb, fun i hi => ?_⟩
    rw [hl] at hi
    rw [Nat.add_assoc, List.getElem_drop]
    exact hcl (k + i) (by omega)
theorem cut_bd (ll : List (List Pts)) (n : Nat) : (ll.take n).flatten.length ≤ ll.flatten.length ∧ manyL (ll.take n).flatten ≤ manyL ll.flatten ∧ (ll.drop n).flatten.length ≤ ll.flatten.length ∧ manyL (ll.drop n).flatten ≤ manyL ll.flatten := by
  have e : ll.flatten = (ll.take n).flatten ++ (ll.drop n).flatten := by rw [← List.flatten_append, List.take_append_drop]
  have e2 : manyL ll.flatten = manyL (ll.take n).flatten + manyL (ll.drop n).flatten := by unfold manyL; rw [e, List.flatMap_append, List.length_append]
  have e3 := congrArg List.length e
  rw [List.length_append] at e3
  omega
theorem clean_wf {c : List Pts} (h : Clean c) : ∀ p ∈ c, (Lit.int .i64 p.1).wf = true := fun p hp => WalkArith.wf_i64 (by
  have := h.inr p hp
  unfold inR at this
  rw [Bool.and_eq_true, decide_eq_true_eq, decide_eq_true_eq] at this
  omega)
theorem RdR.built2 (w : World) (a b : Value) (x y : List Pts) (t : TypeId) (h1 : RdP w w.heap.size a x) (h2 : RdP w w.heap.size b y) : RdR (w.alloc (.cells #[a, b] t)) (w.alloc (.cells #[a, b] t)).heap.size (.slice (some ⟨w.heap.size, 0, none⟩) 2 2) [x, y] := RdR.built w [(a, x), (b, y)] t (fun z hz => by
  simp only [List.mem_cons, List.not_mem_nil, or_false] at hz
  rcases hz with rfl | rfl
  · exact h1
  · exact h2)
theorem two_wf {x y : List Pts} (hx : Clean x) (hy : Clean y) : ∀ r ∈ [x, y], ∀ p ∈ r, (Lit.int .i64 p.1).wf = true := fun r hr => by
  simp only [List.mem_cons, List.not_mem_nil, or_false] at hr
  rcases hr with rfl | rfl
  · exact clean_wf hx
  · exact clean_wf hy
theorem rev_bd (ll : List (List Pts)) : ll.reverse.flatten.length = ll.flatten.length ∧ manyL ll.reverse.flatten = manyL ll.flatten := by
  induction ll with
  | nil => exact ⟨rfl, rfl⟩
  | cons a l ih =>
    unfold manyL at *
    have e1 : (a :: l).reverse.flatten = l.reverse.flatten ++ a := by simp
    have e2 : (a :: l).flatten = a ++ l.flatten := by simp
    rw [e1, e2, List.length_append, List.length_append, List.flatMap_append, List.length_append, List.flatMap_append, List.length_append]
    omega
theorem two_bd (x y : List Pts) : ([x, y] : List (List Pts)).flatten.length = x.length + y.length ∧ manyL ([x, y] : List (List Pts)).flatten = manyL x + manyL y := by
  unfold manyL
  constructor
  · simp
  · simp [List.flatMap_append]
set_option maxRecDepth 100000 in
set_option maxHeartbeats 8000000 in
theorem hides_walk (d f : Int) (gv : Value) (g : List Int) (v : Value) (ll : List (List Pts)) (y : Int) (W : World) (T : Tabs W) (hG : RdZ W W.heap.size gv g) (_hgz : Nz gv) (hR : RdQ W W.heap.size v ll) (_hz : Nz v) (hwf : ∀ r ∈ ll, ∀ p ∈ r, (Lit.int .i64 p.1).wf = true) (hl : ll.length ≤ 140737488355327) (hs : ∀ l ∈ ll, SizR l) (_hy : (Lit.int .i64 y).wf = true) :
    Calls Tryz.prog 5 #[.agg #[.int .i64 d, gv, .int .i64 f], v, .int .i64 y] W fun e w' => e = .returned (.bool true) ∧ Below W.heap.size W w' := by
  obtain ⟨w0, hw0⟩ : ∃ w0, w0 = W.alloc (.cells #[.int .i64 d, gv, .int .i64 f] 24) := ⟨_, rfl⟩
  have hB0 : Below W.heap.size W w0 := by rw [hw0]; exact (Below.refl _ W).alloc (Nat.le_refl _) _
  have hT0 := T.below hB0
  have HAw := Lib.hid (awake16_walk w0 hT0)
  have hG0 := hG.on hB0
  have hR0 := hR.on hB0
  obtain ⟨bh, hbh⟩ : ∃ bh, bh = W.heap.size := ⟨_, rfl⟩
  have c0 : w0.cell? ⟨bh, 0, none⟩ = some (.int .i64 d) := by rw [hw0, hbh]; exact new_cell _ _ _ 0
  have c1 : w0.cell? ⟨bh, 1, none⟩ = some gv := by rw [hw0, hbh]; exact new_cell _ _ _ 1
  have c2 : w0.cell? ⟨bh, 2, none⟩ = some (.int .i64 f) := by rw [hw0, hbh]; exact new_cell _ _ _ 2
  have HC : Hid (∀ w', Below w0.heap.size w0 w' → w'.cell? ⟨bh, 0, none⟩ = some (.int .i64 d) ∧ w'.cell? ⟨bh, 1, none⟩ = some gv ∧ w'.cell? ⟨bh, 2, none⟩ = some (.int .i64 f)) := fun w' h => ⟨(h.cell (lt_of_cell c0)).trans c0, (h.cell (lt_of_cell c1)).trans c1, (h.cell (lt_of_cell c2)).trans c2⟩
  have HF : Hid (∀ w', Below w0.heap.size w0 w' → Calls Tryz.prog 10 #[v] w' fun e w'' => ∃ q, e = .returned (.bool q) ∧ Hid (q = true → ll.length ≤ 10 ∧ cntL ll ≤ 150) ∧ Below w'.heap.size w' w'') := fun w' h => few_walk v ll w' (hR0.on h).rdR hs hl
  have HT0 := Lib.hid hT0
  have HG0 := Lib.hid hG0
  have HR0 := Lib.hid hR0
  have HWF := Lib.hid hwf
  have HB0 := Lib.hid hB0
  obtain ⟨A1, k1, rfl, hk1, _⟩ := hG
  obtain ⟨A2, k2, rfl, hk2, hA2⟩ := hR
  obtain ⟨n, hn⟩ : ∃ n, n = g.length := ⟨_, rfl⟩
  obtain ⟨m, hm⟩ : ∃ m, m = ll.length := ⟨_, rfl⟩
  rw [← hn] at hk1 c1 HC hw0 HG0 ⊢
  rw [← hm] at hk2 HF HR0 hl ⊢
  have HM := Lib.hid hm
  have HN := Lib.hid hn
  clear hwf hs hG0 hR0 hT0 T hB0 hn hm c0 c1 c2 hA2
  go_enter Tryz.func5, Tryz.ntmps5
  go_wp2_with fail
  rw [← hw0, ← hbh]
  clear hw0 hbh
  refine HAw.out.mono ?_; rintro e w1 ⟨rfl, hB1⟩
  have HB1 := Lib.hid hB1
  have KF := Lib.hid (HF.out w1 hB1)
  clear hB1 HAw HF
  go_wp2_with fail
  refine KF.out.mono ?_; rintro e w2 ⟨q, rfl, hq, hB2⟩
  have HB2 : Hid (Below w0.heap.size w0 w2) := HB1.out.trans (hB2.mono HB1.out.size)
  obtain ⟨c0, c1, c2⟩ := HC.out w2 HB2.out
  clear hB2 HB1 KF
  cases q with
  | false =>
    clear hq
    go_wp2_with fail
    go_ret
    exact ⟨rfl, HB0.out.trans (HB2.out.mono HB0.out.size)⟩
  | true =>
    have hq9 := hq.out rfl
    rw [HM.out] at hq9
    have HQ := Lib.hid (few_bd hq9)
    clear hq9
    clear hq
    by_cases hn50 : n ≤ 50
    · have g1 : ¬ (50 : Int) < (n : Int) := by omega
      have hm10 : m ≤ 10 := by rw [HM.out]; exact HQ.out.1
      obtain ⟨kk, hkm, hkk⟩ := pick_k y m
      have HKK := Lib.hid hkk
      have hkk1 : (kk : Int) ≤ (m : Int) := by omega
      have hkc : (kk : Int) ≤ (k2 : Int) := by omega
      have HMg : Hid (∀ w' v' (g' : List Int) gv' f' ll', Below w0.heap.size w0 w' → RdR w' w'.heap.size v' ll' → RdZ w' w'.heap.size gv' g' → g'.length ≤ 50 → (∀ r ∈ ll', ∀ p ∈ r, (Lit.int .i64 p.1).wf = true) → ll'.length ≤ 20 → ll'.flatten.length ≤ 1000 → manyL ll'.flatten ≤ 1000 → Calls Tryz.prog 12 #[.agg #[.int .i64 d, gv', .int .i64 f'], v'] w' fun e w'' => ∃ r, e = .returned r ∧ RdP w'' w''.heap.size r (mergeS d g' f' ll') ∧ Below w'.heap.size w' w'') :=
        fun w' v' g' gv' f' ll' h1 h2 h3 h4 h5 h6 h7 h8 => smerge_walk v' ll' d gv' g' f' w' (HT0.out.below h1) h2 h3 (by omega) h5 (by omega) (by omega) (by omega)
      have hbb := HQ.out
      go_wp2_with fail
      refine (HMg.out w2 _ g _ f ll HB2.out (HR0.out.on HB2.out).rdR (HG0.out.on HB2.out) (by rw [← HN.out]; exact hn50) HWF.out (by omega) (by omega) (by omega)).mono ?_; rintro e w3 ⟨wv, rfl, hw3, hB⟩
      have HB3 : Hid (Below w0.heap.size w0 w3) := HB2.out.trans (hB.mono HB2.out.size)
      have HW3 := Lib.hid hw3
      obtain ⟨c0', c1', c2'⟩ := HC.out w3 HB3.out
      have hBB := HB3.out
      clear hB hw3 HB2 c0 c1 c2
      clear hkk
      go_wp2_with fail
      have hcb := cut_bd ll kk
      have HCB := Lib.hid hcb
      have KOwn : Hid (∀ w', Below w0.heap.size w0 w' → Calls Tryz.prog 12 #[.agg #[.int .i64 d, .slice none 0 0, .int .i64 0], .slice A2 kk k2] w' fun e w'' => ∃ r, e = .returned r ∧ RdP w'' w''.heap.size r (mergeS d [] 0 (ll.take kk)) ∧ Below w'.heap.size w' w'') := fun w' h =>
        HMg.out w' _ [] _ 0 (ll.take kk) h ((HR0.out.on h).cutTo hkm).rdR ⟨none, 0, rfl, Nat.le_refl _, .inl rfl⟩ (by simp) (fun r hr => HWF.out r (List.mem_of_mem_take hr)) (by rw [List.length_take]; omega) (by omega) (by omega)
      clear hcb
      go_region_held3 (fun w' => w'.cell? ⟨bh, 0, none⟩ = some (.int .i64 d) ∧ Below w0.heap.size w0 w')
        (first | assumption | (have hd := Below.drew (by assumption : Below w0.heap.size w0 _); exact ⟨(HC.out _ hd).1, hd⟩) | exact ⟨by assumption, by assumption⟩)
        ((go_at_call 12; refine (KOwn.out _ (by first | assumption | exact Below.drew (by assumption))).mono ?_; rintro e w4 ⟨ov, rfl, ho4, hb4⟩; have hN4 : Below w0.heap.size w0 w4 := Below.trans (by first | assumption | exact Below.drew (by assumption)) (hb4.mono HB3.out.size); obtain ⟨e0', e1', e2'⟩ := HC.out _ hN4; have HW4 : Hid (RdP w4 w4.heap.size wv (mergeS d g f ll)) := HW3.out.on (show Below w3.heap.size w3 w4 from ⟨hb4.os, hb4.tape, hb4.output, hb4.size, hb4.block⟩); have HO4 := Lib.hid ho4; clear ho4 hb4))
      have HN4 := Lib.hid hN4
      clear c0' c1' c2' hBB KOwn
      have KLess : Hid (∀ w' v', Below w0.heap.size w0 w' → RdR w' w'.heap.size v' (ll.drop kk) → Calls Tryz.prog 12 #[.agg #[.int .i64 d, .slice A1 n k1, .int .i64 0], v'] w' fun e w'' => ∃ r, e = .returned r ∧ RdP w'' w''.heap.size r (mergeS d g 0 (ll.drop kk)) ∧ Below w'.heap.size w' w'') := fun w' v' h h2 =>
        HMg.out w' _ g _ 0 (ll.drop kk) h h2 (HG0.out.on h) (by rw [← HN.out]; exact hn50) (fun r hr => HWF.out r (List.mem_of_mem_drop hr)) (by rw [List.length_drop]; omega) (by have := HCB.out; omega) (by have := HCB.out; omega)
      have KL0 : Hid (∀ w' A' c', kk = m → Below w0.heap.size w0 w' → Calls Tryz.prog 12 #[.agg #[.int .i64 d, .slice A1 n k1, .int .i64 0], .slice A' 0 c'] w' fun e w'' => ∃ r, e = .returned r ∧ RdP w'' w''.heap.size r (mergeS d g 0 (ll.drop kk)) ∧ Below w'.heap.size w' w'') := fun w' A' c' hkm' h => by
        have hd0 : ll.drop kk = [] := List.drop_of_length_le (by rw [hkm', HM.out]; exact Nat.le_refl _)
        refine KLess.out w' _ h ?_
        rw [hd0]
        exact ⟨A', c', rfl, Nat.zero_le _, .inl rfl⟩
      obtain ⟨A3, c3, e3, _, hA3⟩ := id HR0.out
      have hlen3 : m = ll.length := HM.out
      have KLx : Hid (∀ w' A' m' c', m' = m - kk → (kk < m → ∃ b o, A2 = some ⟨b, o, none⟩ ∧ A' = some ⟨b, o + kk, none⟩ ∧ c' = k2 - kk) → Below w0.heap.size w0 w' → Calls Tryz.prog 12 #[.agg #[.int .i64 d, .slice A1 n k1, .int .i64 0], .slice A' m' c'] w' fun e w'' => ∃ r, e = .returned r ∧ RdP w'' w''.heap.size r (mergeS d g 0 (ll.drop kk)) ∧ Below w'.heap.size w' w'') := fun w' A' m' c' hm' hs h => by
        by_cases h9 : kk < m
        · obtain ⟨b, o, rfl, rfl, rfl⟩ := hs h9
          rw [hm']
          exact KLess.out w' _ h ((HR0.out.on h).cutFrom hkm).rdR
        · have h8 : m' = 0 := by omega
          subst h8
          exact KL0.out w' A' c' (by omega) h
      have hA29 : kk < m → ∃ b o, A2 = some ⟨b, o, none⟩ := fun h => by
        rcases hA3 with h0 | ⟨b, o, e9, _⟩
        · rw [h0] at hlen3; simp at hlen3; omega
        · injection e3 with e3
          exact ⟨b, o, e3.trans e9⟩
      have HA29 := Lib.hid hA29
      clear hA29 hA3 e3 hlen3
      have hBB := HN4.out
      clear hN4
      have HAn : Hid (A2 = none → k2 = 0 ∧ m = 0 ∧ kk = 0) := fun h => by
        have := _hz _ k2 (by rw [h])
        omega
      have case3 : (A2 = none ∧ k2 = 0 ∧ m = 0 ∧ kk = 0) ∨ (∃ ad, A2 = some ad ∧ ¬ k2 = kk) ∨ (∃ ad, A2 = some ad ∧ k2 = kk) := by
        cases A2 with
        | none => exact .inl ⟨rfl, HAn.out rfl⟩
        | some ad =>
          by_cases h : k2 = kk
          · exact .inr (.inr ⟨ad, rfl, h⟩)
          · exact .inr (.inl ⟨ad, rfl, h⟩)
      rcases case3 with ⟨rfl, q1, q2, q3⟩ | ⟨ad, rfl, h9⟩ | ⟨ad, rfl, h9⟩
      all_goals (
        go_wp2_with fail
        go_region_held3 (fun w' => w'.cell? ⟨bh, 0, none⟩ = some (.int .i64 d) ∧ w'.cell? ⟨bh, 1, none⟩ = some (.slice A1 n k1) ∧ Below w0.heap.size w0 w')
          (first | assumption | (have hd := Below.drew (by assumption : Below w0.heap.size w0 _); exact ⟨(HC.out _ hd).1, (HC.out _ hd).2.1, hd⟩) | exact ⟨by assumption, by assumption, by assumption⟩)
          ((go_at_call 12; refine (KLx.out _ _ _ _ (by first | rfl | omega) (fun h => by first | (exfalso; omega) | (obtain ⟨b, o, e⟩ := HA29.out h; injection e with e; exact ⟨b, o, by rw [e], by rw [e, add_at], rfl⟩)) (by first | assumption | exact Below.drew (by assumption))).mono ?_; rintro e w5 ⟨lv, rfl, hl5, hb5⟩; have hN5 : Below w0.heap.size w0 w5 := Below.trans (by first | assumption | exact Below.drew (by assumption)) (hb5.mono HN4.out.size); obtain ⟨e0', e1', e2'⟩ := HC.out _ hN5; have hb45 : Below w4.heap.size w4 w5 := ⟨hb5.os, hb5.tape, hb5.output, hb5.size, hb5.block⟩; have HW5 := Lib.hid (HW4.out.on hb45); have HO5 := Lib.hid (HO4.out.on hb45); have HL5 := Lib.hid hl5; clear hl5 hb5 hb45))
        have HN5 := Lib.hid hN5
        clear hBB hN5 e0' e1' e2' KLx KLess KL0 HO4 HW4 HN4
        try clear h9
        have hwl := mergeS_length d g f ll
        have hwm := mergeS_many d g f ll
        have hol := mergeS_length d [] 0 (ll.take kk)
        have hom := mergeS_many d [] 0 (ll.take kk)
        have hll := mergeS_length d g 0 (ll.drop kk)
        have hlm := mergeS_many d g 0 (ll.drop kk)
        have hcb := HCB.out
        have HBd : Hid ((mergeS d g f ll).length ≤ 150 ∧ manyL (mergeS d g f ll) ≤ 150 ∧ (mergeS d [] 0 (ll.take kk)).length ≤ 150 ∧ manyL (mergeS d [] 0 (ll.take kk)) ≤ 150 ∧ (mergeS d g 0 (ll.drop kk)).length ≤ 150 ∧ manyL (mergeS d g 0 (ll.drop kk)) ≤ 150) := by
          show _ ∧ _
          omega
        have HMe := Lib.hid (merge_ahead d g f ll kk)
        have HMt := Lib.hid (merge_turn d g f ll)
        have HM2 := Lib.hid (merge_twice d g f ll)
        have HCw := Lib.hid (mergeS_clean d g f ll)
        have HCo := Lib.hid (mergeS_clean d [] 0 (ll.take kk))
        have HCl := Lib.hid (mergeS_clean d g 0 (ll.drop kk))
        clear hwl hwm hol hom hll hlm hcb
        obtain ⟨XW, hXW⟩ : ∃ X, X = mergeS d g f ll := ⟨_, rfl⟩
        obtain ⟨XO, hXO⟩ : ∃ X, X = mergeS d [] 0 (ll.take kk) := ⟨_, rfl⟩
        obtain ⟨XL, hXL⟩ : ∃ X, X = mergeS d g 0 (ll.drop kk) := ⟨_, rfl⟩
        rw [← hXW] at HW5 HBd HMe HMt HM2 HCw
        rw [← hXO] at HO5 HBd HMe HCo
        rw [← hXL] at HL5 HBd HMe HCl
        clear hXW hXO hXL
        obtain ⟨Aw, cw, ew, _, _⟩ := id HW5.out
        obtain ⟨Ao, co, eo, _, _⟩ := id HO5.out
        obtain ⟨Al, cl, el, _, _⟩ := id HL5.out
        subst ew eo el
        obtain ⟨nw, hnw⟩ : ∃ n, n = XW.length := ⟨_, rfl⟩
        obtain ⟨no, hno⟩ : ∃ n, n = XO.length := ⟨_, rfl⟩
        obtain ⟨nl, hnl⟩ : ∃ n, n = XL.length := ⟨_, rfl⟩
        rw [← hnw] at HW5 ⊢
        rw [← hno] at HO5 ⊢
        rw [← hnl] at HL5 ⊢
        clear hnw hno hnl
        go_wp2_with fail
        go_loopw [13, 14] (fun o i wl => ∃ (j : Nat) (vs : List (Value × List Pts)), j ≤ ll.length ∧ i = .int .i64 ((j : Int) - 1) ∧ Hid (OwV wl w5.heap.size o vs) ∧ Hid (vs.map (fun x => x.2) = (ll.drop j).reverse) ∧ Hid (Below w5.heap.size w5 wl)) (fun _ i _ => (intOf i + 1).toNat)
        case atStart => exact ⟨ll.length, [], Nat.le_refl _, (by have h9 := HM.out; first | rfl | (simp only [Value.int.injEq, true_and]; omega) | omega), OwV.nil _ _, (by show _ = _; simp), Below.refl _ _⟩
        case round =>
          obtain ⟨j, vs, hj, rfl, HO, HV, HBz⟩ := hrel
          by_cases hj0 : j = 0
          · subst hj0
            obtain ⟨wz, rfl⟩ : ∃ w0, w0 = wr := ⟨wr, rfl⟩
            have HBz0 : Hid (Below w0.heap.size w0 wz) := HN5.out.trans (HBz.out.mono HN5.out.size)
            have HV2 : Hid (vs.map (fun x => x.2) = ll.reverse) := by show _ = _; rw [HV.out, List.drop_zero]
            have htv := HO.out.rdQ
            rw [HV2.out] at htv
            have HTv := Lib.hid htv
            have HWz := Lib.hid (HW5.out.on HBz.out)
            have HOz := Lib.hid (HO5.out.on HBz.out)
            have HLz := Lib.hid (HL5.out.on HBz.out)
            obtain ⟨d0, d1, d2⟩ := HC.out wz HBz0.out
            have HAL : Hid (∀ (w : World) o, Below w.heap.size w (w.alloc o)) := fun w o => (Below.refl _ w).alloc (Nat.le_refl _) _
            have HSm : Hid (SmallP XW) := small_of (by have := HBd.out; omega) (by have := HBd.out; omega)
            have HRv := Lib.hid (rev_bd ll)
            have HRl : Hid (ll.reverse.length ≤ 20) := by show _ ≤ _; rw [List.length_reverse]; have := HQ.out.1; omega
            have h50 : Hid (g.length ≤ 50) := by show _ ≤ _; rw [← HN.out]; exact hn50
            clear htv HO HV HV2 hj HW5 HO5 HL5
            have g0 : ¬ (0 : Int) ≤ ((0 : Nat) : Int) - 1 := by omega
            go_wp2_with fail
            have hb1 := two_bd XO XL
            refine (HMg.out _ _ g _ f [XO, XL] (HBz0.out.trans ((HAL.out wz _).mono HBz0.out.size)) (RdR.built2 wz _ _ XO XL _ HOz.out HLz.out) (HG0.out.on (HBz0.out.trans ((HAL.out wz _).mono HBz0.out.size))) h50.out (two_wf HCo.out HCl.out) (by simp) (by have := HBd.out; omega) (by have := HBd.out; omega)).mono ?_; rintro e w6 ⟨r6, rfl, hr6, hB6⟩
            rw [HMe.out] at hr6
            have hBz6 : Below wz.heap.size wz w6 := (HAL.out wz _).trans (hB6.mono (HAL.out wz _).size)
            have HB6 : Hid (Below w0.heap.size w0 w6) := HBz0.out.trans (hBz6.mono HBz0.out.size)
            have HW6 := Lib.hid (HWz.out.on hBz6)
            have HT6 := Lib.hid (HTv.out.on hBz6)
            have KS6 := Lib.hid (sameP_walk r6 _ XW XW w6 hr6 HW6.out HSm.out)
            clear hr6 hB6 hBz6 HBz0 HBz HWz HOz HLz HTv d0 d1 d2 hb1 g0
            go_wp2_with fail
            refine KS6.out.mono ?_; rintro e w7 ⟨rfl, hE7⟩
            have hB7 := hE7.below
            have HB7 : Hid (Below w0.heap.size w0 w7) := HB6.out.trans (hB7.mono HB6.out.size)
            have HW7 := Lib.hid (HW6.out.on hB7)
            have HT7 := Lib.hid (HT6.out.on hB7)
            obtain ⟨d0, d1, d2⟩ := HC.out w7 HB7.out
            clear hE7 hB7 HB6 HW6 HT6 KS6
            go_wp2_with fail
            refine (HMg.out _ _ g _ f ll.reverse HB7.out HT7.out.rdR (HG0.out.on HB7.out) h50.out (fun r hr => HWF.out r (List.mem_reverse.1 hr)) HRl.out (by rw [HRv.out.1]; have := HQ.out; omega) (by rw [HRv.out.2]; have := HQ.out; omega)).mono ?_; rintro e w8 ⟨r8, rfl, hr8, hB8⟩
            rw [HMt.out] at hr8
            have HB8 : Hid (Below w0.heap.size w0 w8) := HB7.out.trans (hB8.mono HB7.out.size)
            have HW8 := Lib.hid (HW7.out.on hB8)
            have KS8 := Lib.hid (sameP_walk r8 _ XW XW w8 hr8 HW8.out HSm.out)
            clear hr8 hB8 HB7 HW7 HT7 d0 d1 d2
            go_wp2_with fail
            refine KS8.out.mono ?_; rintro e w9 ⟨rfl, hE9⟩
            have hB9 := hE9.below
            have HB9 : Hid (Below w0.heap.size w0 w9) := HB8.out.trans (hB9.mono HB8.out.size)
            have HW9 := Lib.hid (HW8.out.on hB9)
            obtain ⟨d0, d1, d2⟩ := HC.out w9 HB9.out
            clear hE9 hB9 HB8 HW8 KS8
            go_wp2_with fail
            have hb1 := two_bd XW XW
            refine (HMg.out _ _ g _ f [XW, XW] (HB9.out.trans ((HAL.out w9 _).mono HB9.out.size)) (RdR.built2 w9 _ _ XW XW _ HW9.out HW9.out) (HG0.out.on (HB9.out.trans ((HAL.out w9 _).mono HB9.out.size))) h50.out (two_wf HCw.out HCw.out) (by simp) (by have := HBd.out; omega) (by have := HBd.out; omega)).mono ?_; rintro e w10 ⟨r10, rfl, hr10, hB10⟩
            rw [HM2.out] at hr10
            have hB910 : Below w9.heap.size w9 w10 := (HAL.out w9 _).trans (hB10.mono (HAL.out w9 _).size)
            have HB10 : Hid (Below w0.heap.size w0 w10) := HB9.out.trans (hB910.mono HB9.out.size)
            have KS10 := Lib.hid (sameP_walk r10 _ XW XW w10 hr10 (HW9.out.on hB910) HSm.out)
            clear hr10 hB10 hB910 HB9 HW9 d0 d1 d2 hb1
            go_wp2_with fail
            refine KS10.out.mono ?_; rintro e w11 ⟨rfl, hE11⟩
            have HB11 : Hid (Below w0.heap.size w0 w11) := HB10.out.trans (hE11.below.mono HB10.out.size)
            clear hE11 HB10 KS10
            go_wp2_with fail
            go_ret
            exact ⟨ret_bool (by simp), HB0.out.trans (HB11.out.mono HB0.out.size)⟩
          · obtain ⟨j', rfl⟩ : ∃ j', j = j' + 1 := ⟨j - 1, by omega⟩
            have e1 : (((j' + 1 : Nat) : Int) - 1) = (j' : Int) := by omega
            rw [e1]
            clear e1
            first
            | (exfalso; have := HM.out; omega)
            | (
              obtain ⟨A3, c3, e3, _, hA3⟩ := id HR0.out
              rcases hA3 with h0 | ⟨b, o, e9, hb, hcl⟩
              · rw [h0] at hj; simp at hj
              · injection e3 with e3 e4 e5
                clear e4 e5
                rw [e9] at e3
                injection e3 with e3
                subst e3
                obtain ⟨sv, p1, p2, p3⟩ := hcl j' (by omega)
                obtain ⟨As, cs, rfl, hcs, hAs⟩ := p2
                have hBw : Below w0.heap.size w0 wr := HN5.out.trans (HBz.out.mono HN5.out.size)
                have hp2 : RdP w0 w0.heap.size (.slice As (ll[j']).length cs) ll[j'] := ⟨As, cs, rfl, hcs, hAs⟩
                have h7 := RdPx.low (hp2.below hBw) hBw.size (fun gb hg => Nat.le_trans HN5.out.size (World.ownsRow.lt HO.out.row gb hg).1)
                have HPx := Lib.hid h7
                have HNz := Lib.hid p3
                obtain ⟨ns, hns⟩ : ∃ n, n = (ll[j']).length := ⟨_, rfl⟩
                obtain ⟨row, hrow⟩ : ∃ r, r = ll[j'] := ⟨_, rfl⟩
                rw [← hrow] at hns HPx HNz p1
                rw [← hns] at HPx HNz p1
                have c0 : wr.cell? ⟨b, o + j', none⟩ = some (.slice As ns cs) := (hBw.cell hb).trans p1
                have HT : Hid ((ll.drop j').reverse = (ll.drop (j' + 1)).reverse ++ [row]) := by
                  show _ = _
                  rw [hrow, List.drop_eq_getElem_cons (by omega), List.reverse_cons]
                have i1 : (j' : Int) < (m : Int) := by have := HM.out; omega
                have i2 : (0 : Int) ≤ (j' : Int) := by omega
                have gw : IntKind.i64.wrap ((j' : Int) - 1) = (j' : Int) - 1 := IntWalk.i64_in _ (by omega)
                have HBa : Hid (∀ o, Below wr.heap.size wr (wr.alloc o)) := fun o => (Below.refl _ _).alloc (Nat.le_refl _) _
                have HVl : Hid ((vs.length + 1) * 24 ≤ 140737488355328) := by
                  have h1 := congrArg List.length HV.out
                  rw [List.length_map, List.length_reverse, List.length_drop] at h1
                  have := HQ.out.1
                  show _ ≤ _
                  omega
                clear hcl p1 p3 hcs hAs hp2 h7 hrow hns hBw e9
                go_wp2_with (at_builtin; refine app1VP rfl _ _ 25 rfl Tryz.underlying25 info_rowP w5.heap.size _ vs (.slice As ns cs, row) rfl (HO.out.on (HBa.out _)) wr.heap.size 0 1 rfl (new_cell _ _ _ 0) (HPx.out.on (HBa.out _)) HNz.out HVl.out (Nat.le_trans HBz.out.size (HBa.out _).size) ?_; intro v4 w6 h1 h2 h3; have HO6 := Lib.hid h1; have HB6 : Hid (Below w5.heap.size w5 w6) := (HBz.out.alloc HBz.out.size _).grown h2 (Nat.le_trans HBz.out.size (HBa.out _).size) (fun gb hg => (World.ownsRow.lt HO.out.row gb hg).1); clear h1 h2 h3)
                go_roundw
                case rel =>
                  have hv6 : (vs ++ [(Value.slice As ns cs, row)]).map (fun x => x.2) = (ll.drop j').reverse := by rw [List.map_append, HV.out, HT.out]; rfl
                  first
                  | exact ⟨j', _, by omega, rfl, HO6.out, hv6, HB6.out⟩
                  | ((repeat apply Exists.intro); exact ⟨⟨j', _, by omega, rfl, HO6.out, hv6, HB6.out⟩, by first | rfl | (simp only [add_at]; rfl)⟩)
                case measure => simp [intOf]))
    · have g1 : (50 : Int) < (n : Int) := by omega
      go_wp2_with fail
      go_ret
      exact ⟨rfl, HB0.out.trans (HB2.out.mono HB0.out.size)⟩
end Go.Proofs.YtkcipfmbkokfdaaGreatDoor
