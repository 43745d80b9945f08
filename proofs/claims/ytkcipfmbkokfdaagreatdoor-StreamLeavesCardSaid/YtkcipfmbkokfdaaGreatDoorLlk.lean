/-
  StreamLeaves: nothing is told of what is gone, nor of ticks that are ahead; all else is as without that.
-/
import Derived.Test.YtkcipfmbkokfdaaGreatDoorLmpk
import Derived.Test.YtkcipfmbkokfdaaGreatDoorPmk
import Derived.Test.YtkcipfmbkokfdaaGreatDoorVrk
namespace Go.Proofs.YtkcipfmbkokfdaaGreatDoor
open Go.RowKit Go.Sort Go.Maps
attribute [local go_sem ↓] Go.wp_at_zero Go.wp_at_succ
theorem merge_in {d : Int} {g : List Int} {f : Int} {ll : List (List Pts)} {p : Pts} (hp : p ∈ mergeS d g f ll) : p.1 ∉ g ∧ ∀ x ∈ p.2, f ≤ x.1 := by
  obtain ⟨h1, q, _, rfl⟩ := mem_fosC.1 hp
  dsimp only at h1
  dsimp only
  unfold foM at h1 ⊢
  by_cases hg : q.1 ∈ g
  · rw [if_pos hg] at h1; exact absurd rfl h1
  · refine ⟨hg, fun x hx => ?_⟩
    rw [if_neg hg] at hx
    have h := (List.mem_filter.1 hx).2
    apply Classical.byContradiction
    intro hn
    have : x.1 < f := by omega
    simp [outS, this] at h
theorem one_bd' {l : List Pts} (h : ([l] : List (List Pts)).length ≤ 10 ∧ cntL [l] ≤ 150) : l.length ≤ 150 ∧ manyL l ≤ 150 := by
  have := h.2
  unfold cntL at this
  simp at this
  omega
theorem one_flat (l : List Pts) : ([l] : List (List Pts)).flatten = l := by simp
theorem many_of (l : List Pts) (id : Int) : (sortS (ofL l id)).length ≤ manyL l := Nat.le_trans (sortS_length _) (ofL_len l id)
set_option maxHeartbeats 1000000 in
/-- eskerref11.In only computes. -/
theorem in_walkQ (v : Value) (l : List Int) (z : Int) (W : World) (hR : RdZ W W.heap.size v l) (hl : l.length ≤ 1000000000000) :
    Calls Tryz.prog 26 #[v, .int .i64 z] W fun e w' => e = .returned (.bool (decide (z ∈ l))) ∧ ∃ m, w' = W.drewN m := by
  obtain ⟨A, c, rfl, hc, hA⟩ := hR
  have HA := Lib.hid hA
  obtain ⟨q, hq⟩ : ∃ q, q = decide (z ∈ l) := ⟨_, rfl⟩
  have HQ : Hid (q = decide (z ∈ l)) := hq
  rw [← hq]
  clear hq hA hc
  obtain ⟨n, hn⟩ : ∃ n, n = l.length := ⟨_, rfl⟩
  rw [← hn] at hl ⊢
  have HN : Hid (n = l.length) := hn
  clear hn
  have HD : Hid (∀ w : World, (∃ m, w = W.drewN m) → ∃ m, w.drew = W.drewN m) := fun w ⟨m, e⟩ => ⟨m + 1, by rw [e]; simp [World.drewN, World.drew, Nat.add_assoc]⟩
  go_enter Tryz.func26, Tryz.ntmps26
  go_wp2_with fail
  go_loopw [5] (fun i wl => ∃ k : Nat, k ≤ n ∧ i = .int .i64 k ∧ Hid (z ∉ l.take k) ∧ Hid (∃ m, wl = W.drewN m)) (fun i _ => n - (intOf i).toNat)
  case atStart => exact ⟨0, Nat.zero_le _, rfl, (by simp : z ∉ l.take 0), 0, by simp [World.drewN]⟩
  case round =>
    obtain ⟨k, hk, rfl, HT, HE⟩ := hrel
    by_cases hlt : k < n
    · have hla2 : k < l.length := by rw [← HN.out]; exact hlt
      rcases HA.out with h0 | ⟨b1, o1, e, hb1, hcl1⟩
      · subst h0; simp at hla2
      subst e
      obtain ⟨x, hx⟩ : ∃ x, x = l[k] := ⟨_, rfl⟩
      have c0 : wr.cell? ⟨b1, o1 + k, none⟩ = some (.int .i64 x) := by
        obtain ⟨m, e⟩ := HE.out
        rw [hx, e]; exact hcl1 k hla2
      have i1 : (k : Int) < (n : Int) := by omega
      by_cases hxz : x = z
      · have hqt : Hid (q = true) := HQ.out.trans (decide_eq_true (by rw [← hxz, hx]; exact List.getElem_mem hla2))
        subst hxz
        clear hx hcl1
        go_wp2_with fail
        go_ret
        exact ⟨ret_bool hqt.out.symm, by first | exact HE.out | exact HD.out _ HE.out⟩
      · have hT2 : Hid (z ∉ l.take (k + 1)) := by
          show _
          rw [List.take_succ_eq_append_getElem hla2, List.mem_append, not_or]
          exact ⟨HT.out, by rw [← hx]; simp [Ne.symm hxz]⟩
        have g1 : ((x : Int) == z) = false := beq_eq_false_iff_ne.2 hxz
        clear hx hcl1
        go_wp2_with fail
        go_roundw
        case rel => exact ⟨k + 1, by omega, by go_num, hT2, by first | exact HE.out | exact HD.out _ HE.out⟩
        case measure => simp [intOf]; omega
    · have hkn : k = n := by omega
      have hqf : Hid (q = false) := HQ.out.trans (decide_eq_false (by have := HT.out; rwa [hkn, HN.out, List.take_length] at this))
      clear hkn
      go_wp2_with fail
      go_ret
      exact ⟨ret_bool hqf.out.symm, HE.out⟩
set_option maxRecDepth 100000 in
set_option maxHeartbeats 8000000 in
theorem leaves_walk (d f : Int) (gv : Value) (g : List Int) (v : Value) (l : List Pts) (id : Int) (W : World) (T : Tabs W) (hG : RdZ W W.heap.size gv g) (_hgz : Nz gv) (hR : RdP W W.heap.size v l) (_hz : Nz v) (hwf : ∀ p ∈ l, (Lit.int .i64 p.1).wf = true) (hs : SizR l) (hid : (Lit.int .i64 id).wf = true) :
    Calls Tryz.prog 7 #[.agg #[.int .i64 d, gv, .int .i64 f], v, .int .i64 id] W fun e w' => e = .returned (.bool true) ∧ Below W.heap.size W w' := by
  obtain ⟨w0, hw0⟩ : ∃ w0, w0 = W.alloc (.cells #[.int .i64 d, gv, .int .i64 f] 24) := ⟨_, rfl⟩
  have hB0 : Below W.heap.size W w0 := by rw [hw0]; exact (Below.refl _ W).alloc (Nat.le_refl _) _
  have hT0 := T.below hB0
  have HAw := Lib.hid (awake16_walk w0 hT0)
  have HAL : Hid (∀ (w : World) o, Below w.heap.size w (w.alloc o)) := fun w o => (Below.refl _ w).alloc (Nat.le_refl _) _
  have hG0 := hG.on hB0
  have hR0 : RdP w0 w0.heap.size v l := hR.on hB0
  obtain ⟨bh, hbh⟩ : ∃ bh, bh = W.heap.size := ⟨_, rfl⟩
  have c0 : w0.cell? ⟨bh, 0, none⟩ = some (.int .i64 d) := by rw [hw0, hbh]; exact new_cell _ _ _ 0
  have c1 : w0.cell? ⟨bh, 1, none⟩ = some gv := by rw [hw0, hbh]; exact new_cell _ _ _ 1
  have c2 : w0.cell? ⟨bh, 2, none⟩ = some (.int .i64 f) := by rw [hw0, hbh]; exact new_cell _ _ _ 2
  have HC : Hid (∀ w', Below w0.heap.size w0 w' → w'.cell? ⟨bh, 0, none⟩ = some (.int .i64 d) ∧ w'.cell? ⟨bh, 1, none⟩ = some gv ∧ w'.cell? ⟨bh, 2, none⟩ = some (.int .i64 f)) := fun w' h => ⟨(h.cell (lt_of_cell c0)).trans c0, (h.cell (lt_of_cell c1)).trans c1, (h.cell (lt_of_cell c2)).trans c2⟩
  have HF : Hid (∀ w', Below w0.heap.size w0 w' → Calls Tryz.prog 10 #[.slice (some ⟨w'.heap.size, 0, none⟩) 1 1] (w'.alloc (.cells #[v] 29)) fun e w'' => ∃ q, e = .returned (.bool q) ∧ Hid (q = true → ([l] : List (List Pts)).length ≤ 10 ∧ cntL [l] ≤ 150) ∧ Below (w'.alloc (.cells #[v] 29)).heap.size (w'.alloc (.cells #[v] 29)) w'') := fun w' h => few_walk _ [l] _ (RdR.one (hR0.on h) _) (fun r hr => by rw [List.mem_singleton] at hr; subst hr; exact hs) (by simp)
  have HMg : Hid (∀ w' (g' : List Int) gv' f', Below w0.heap.size w0 w' → RdZ w0 w0.heap.size gv' g' → g'.length ≤ 50 → l.length ≤ 150 → manyL l ≤ 150 → Calls Tryz.prog 12 #[.agg #[.int .i64 d, gv', .int .i64 f'], .slice (some ⟨w'.heap.size, 0, none⟩) 1 1] (w'.alloc (.cells #[v] 29)) fun e w'' => ∃ r, e = .returned r ∧ RdP w'' w''.heap.size r (mergeS d g' f' [l]) ∧ Below w'.heap.size w' w'') := fun w' g' gv' f' h1 h3 h4 h5 h6 => by
    have ha := HAL.out w' (.cells #[v] 29)
    have h2 := h1.trans (ha.mono h1.size)
    refine (smerge_walk _ [l] d gv' g' f' (w'.alloc (.cells #[v] 29)) (hT0.below h2) (RdR.one (hR0.on h1) _) (h3.on h2) (by omega) (fun r hr => by rw [List.mem_singleton] at hr; subst hr; exact hwf) (by simp) (by rw [one_flat]; omega) (by rw [one_flat]; omega)).mono ?_
    rintro e w'' ⟨r, rfl, h7, h8⟩
    exact ⟨r, rfl, h7, ha.trans (h8.mono ha.size)⟩
  have HTT : Hid (∀ w', Below w0.heap.size w0 w' → Tabs w') := fun w' h => hT0.below h
  have HOf : Hid (∀ w' r M, Below w0.heap.size w0 w' → RdP w' w'.heap.size r M → Clean M → M.length ≤ 150 → manyL M ≤ 150 → Calls Tryz.prog 22 #[r, .int .i64 id] w' fun e w'' => ∃ r, e = .returned r ∧ Own w'' w'.heap.size 52 r (sortS (ofL M id)) ∧ Below w'.heap.size w' w'') := fun w' r M h1 h2 h3 h4 h5 =>
    sof_walk _ M id w' (HTT.out _ h1) h2 (fun p hp => WalkArith.wf_i64 (by
      have := h3.inr p hp
      unfold inR at this
      rw [Bool.and_eq_true, decide_eq_true_eq, decide_eq_true_eq] at this
      omega)) hid (by omega) (by unfold manyL at h5; omega)
  have HG0 := Lib.hid hG0
  have HB0 := Lib.hid hB0
  obtain ⟨A1, k1, rfl, hk1, _⟩ := hG
  obtain ⟨A2, k2, rfl, hk2, _⟩ := hR
  obtain ⟨n, hn⟩ : ∃ n, n = g.length := ⟨_, rfl⟩
  obtain ⟨m, hm⟩ : ∃ m, m = l.length := ⟨_, rfl⟩
  rw [← hn] at hk1 c1 HC hw0 HG0 ⊢
  rw [← hm] at hk2 HF HMg ⊢
  have HM := Lib.hid hm
  have HN := Lib.hid hn
  clear hwf hs hG0 hR0 hT0 T hB0 hn hm c0 c1 c2 hid
  go_enter Tryz.func7, Tryz.ntmps7
  go_wp2_with fail
  rw [← hw0, ← hbh]
  clear hw0 hbh
  refine HAw.out.mono ?_; rintro e w1 ⟨rfl, hB1⟩
  have HB1 := Lib.hid hB1
  have KF := Lib.hid (HF.out w1 hB1)
  clear hB1 HAw HF
  go_wp2_with fail
  refine KF.out.mono ?_; rintro e w2 ⟨q, rfl, hq, hB2⟩
  have HB2 : Hid (Below w0.heap.size w0 w2) := HB1.out.trans (((HAL.out w1 _).trans (hB2.mono (HAL.out w1 _).size)).mono HB1.out.size)
  obtain ⟨c0, c1, c2⟩ := HC.out w2 HB2.out
  clear hB2 HB1 KF
  cases q with
  | false =>
    clear hq
    go_wp2_with fail
    go_ret
    exact ⟨rfl, HB0.out.trans (HB2.out.mono HB0.out.size)⟩
  | true =>
    obtain ⟨hb1, hb2⟩ := one_bd' (hq.out rfl)
    clear hq
    by_cases hn50 : n ≤ 50
    · have g1 : ¬ (50 : Int) < (n : Int) := by omega
      have hg50 : g.length ≤ 50 := by rw [← HN.out]; exact hn50
      have K1 : Hid (∀ w', Below w0.heap.size w0 w' → Calls Tryz.prog 12 #[.agg #[.int .i64 d, .slice A1 n k1, .int .i64 f], .slice (some ⟨w'.heap.size, 0, none⟩) 1 1] (w'.alloc (.cells #[.slice A2 m k2] 29)) fun e w'' => ∃ r, e = .returned r ∧ RdP w'' w''.heap.size r (mergeS d g f [l]) ∧ Below w'.heap.size w' w'') := fun w' h => HMg.out w' g _ f h HG0.out hg50 (by rw [← HM.out] at hb1; exact hb1) hb2
      have K2 : Hid (∀ w', Below w0.heap.size w0 w' → Calls Tryz.prog 12 #[.agg #[.int .i64 d, .slice none 0 0, .int .i64 0], .slice (some ⟨w'.heap.size, 0, none⟩) 1 1] (w'.alloc (.cells #[.slice A2 m k2] 29)) fun e w'' => ∃ r, e = .returned r ∧ RdP w'' w''.heap.size r (mergeS d [] 0 [l]) ∧ Below w'.heap.size w' w'') := fun w' h => HMg.out w' [] _ 0 h ⟨none, 0, rfl, Nat.le_refl _, .inl rfl⟩ (by simp) (by rw [← HM.out] at hb1; exact hb1) hb2
      have HLate := Lib.hid (merge_late d g f l id)
      have HIn : Hid (∀ p ∈ mergeS d g f [l], p.1 ∉ g ∧ ∀ x ∈ p.2, f ≤ x.1) := fun p hp => merge_in hp
      have HCl := Lib.hid (mergeS_clean d g f [l])
      have HCw := Lib.hid (mergeS_clean d [] 0 [l])
      have hl1 := mergeS_length d g f [l]
      have hl2 := mergeS_many d g f [l]
      have hl3 := mergeS_length d [] 0 [l]
      have hl4 := mergeS_many d [] 0 [l]
      rw [one_flat] at hl1 hl2 hl3 hl4
      have HBd : Hid ((mergeS d g f [l]).length ≤ 150 ∧ manyL (mergeS d g f [l]) ≤ 150 ∧ (mergeS d [] 0 [l]).length ≤ 150 ∧ manyL (mergeS d [] 0 [l]) ≤ 150) := by
        show _ ∧ _
        omega
      clear HMg hb1 hb2 hl1 hl2 hl3 hl4
      obtain ⟨M, hM⟩ : ∃ M, M = mergeS d g f [l] := ⟨_, rfl⟩
      obtain ⟨X, hX⟩ : ∃ X, X = mergeS d [] 0 [l] := ⟨_, rfl⟩
      rw [← hM] at K1 HLate HIn HCl HBd
      rw [← hX] at K2 HLate HCw HBd
      clear hM hX
      have KInG : Hid (∀ w' z, Below w0.heap.size w0 w' → Calls Tryz.prog 26 #[.slice A1 n k1, .int .i64 z] w' fun e w'' => e = .returned (.bool (decide (z ∈ g))) ∧ Ext w' w'') := fun w' z h => in_walk _ g z w' (HG0.out.on h) (by omega)
      have KInQ : Hid (∀ w' z, Below w0.heap.size w0 w' → Calls Tryz.prog 26 #[.slice A1 n k1, .int .i64 z] w' fun e w'' => e = .returned (.bool (decide (z ∈ g))) ∧ ∃ m, w'' = w'.drewN m) := fun w' z h => in_walkQ _ g z w' (HG0.out.on h) (by omega)
      clear hg50
      go_wp2_with fail
      refine (K1.out w2 HB2.out).mono ?_; rintro e w3 ⟨r3, rfl, hr3, hB⟩
      have HB3 : Hid (Below w0.heap.size w0 w3) := HB2.out.trans (hB.mono HB2.out.size)
      have HR3 := Lib.hid hr3
      clear hB hr3 K1 HB2
      obtain ⟨d0, d1, d2⟩ := HC.out w3 HB3.out
      clear c0 c1 c2
      go_wp2_with fail
      refine (K2.out w3 HB3.out).mono ?_; rintro e w4 ⟨r4, rfl, hr4, hB⟩
      have HB4 : Hid (Below w0.heap.size w0 w4) := HB3.out.trans (hB.mono HB3.out.size)
      have HR4 : Hid (RdP w4 w4.heap.size r3 M) := HR3.out.on hB
      have HX4 := Lib.hid hr4
      clear hB hr4 K2 HB3 HR3 d0 d1 d2
      obtain ⟨A3, k3, rfl, hk3, hA3⟩ := HR4.out
      obtain ⟨n3, hn3⟩ : ∃ n, n = M.length := ⟨_, rfl⟩
      rw [← hn3] at hk3 HR4 ⊢
      have hn3b : n3 ≤ 150 := by rw [hn3]; exact HBd.out.1
      have HN3 := Lib.hid hn3
      have HA3 := Lib.hid hA3
      clear hA3 hn3
      go_wp2_with fail
      go_loopw [11] (fun i wl => ∃ k : Nat, k ≤ n3 ∧ i = .int .i64 k ∧ Hid (Below w4.heap.size w4 wl)) (fun i _ => n3 - (intOf i).toNat)
      case atStart => exact ⟨0, Nat.zero_le _, rfl, Below.refl _ _⟩
      case round =>
        obtain ⟨k, hk, rfl, HBk⟩ := hrel
        have HBw : Hid (Below w0.heap.size w0 wr) := HB4.out.trans (HBk.out.mono HB4.out.size)
        by_cases hlt : k < n3
        · have hkl : k < M.length := by rw [← HN3.out]; exact hlt
          rcases HA3.out with h0 | ⟨b3, o3, e3, hb3, hcl3⟩
          · rw [h0] at hkl; simp at hkl
          subst e3
          obtain ⟨p, hp⟩ : ∃ p, p = M[k] := ⟨_, rfl⟩
          have hpm : p ∈ M := by rw [hp]; exact List.getElem_mem hkl
          have hpn : p.2 ≠ [] := HCl.out.ne p hpm
          have hpl : 0 < p.2.length := List.length_pos_iff.2 hpn
          obtain ⟨hpg, hpf⟩ := HIn.out p hpm
          obtain ⟨a1, sv, a2, hsv, _⟩ : PtAt wr w4.heap.size b3 (o3 + k * 2) p := by rw [hp]; exact (hcl3 k hkl).below HBk.out hb3
          obtain ⟨A5, k5, rfl, hk5, hA5⟩ := hsv
          rcases hA5 with h0 | ⟨b5, o5, e5, hb5, hcl5⟩
          · exact absurd h0 hpn
          subst e5
          have a3 := (hcl5 0 hpl).1
          obtain ⟨x0, hx0⟩ : ∃ x, x = p.2[0].1 := ⟨_, rfl⟩
          have hx0f : f ≤ x0 := by rw [hx0]; exact hpf _ (List.getElem_mem hpl)
          rw [← hx0] at a3
          rw [Nat.zero_mul, Nat.add_zero] at a3
          have a3' : wr.cell? ⟨b5, o5, none⟩ = some (.int .i64 x0) := a3
          obtain ⟨n5, hn5⟩ : ∃ n, n = p.2.length := ⟨_, rfl⟩
          rw [← hn5] at a2 hk5 hpl
          obtain ⟨z, hz⟩ : ∃ z, z = p.1 := ⟨_, rfl⟩
          rw [← hz] at a1 hpg
          have i1 : (k : Int) < (n3 : Int) := by omega
          have i2 : ((n5 : Int) == 0) = false := by rw [beq_eq_false_iff_ne]; omega
          have i3 : ¬ x0 < f := by omega
          have i4 : (0 : Int) < (n5 : Int) := by omega
          have KI : Hid (∀ w', Below w0.heap.size w0 w' → Calls Tryz.prog 26 #[.slice A1 n k1, .int .i64 z] w' fun e w'' => e = .returned (.bool false) ∧ Ext w' w'') := fun w' h => by
            have := KInG.out w' z h
            rw [decide_eq_false hpg] at this
            exact this
          have KY : Hid (∀ w', Below wr.heap.size wr w' → Below w0.heap.size w0 w' ∧ w'.cell? ⟨bh, 1, none⟩ = some (.slice A1 n k1) ∧ w'.cell? ⟨bh, 2, none⟩ = some (.int .i64 f) ∧ w'.cell? ⟨b3, o3 + k * 2, none⟩ = some (.int .i64 z) ∧ w'.cell? ⟨b3, o3 + k * 2 + 1, none⟩ = some (.slice (some ⟨b5, o5, none⟩) n5 k5) ∧ w'.cell? ⟨b5, o5, none⟩ = some (.int .i64 x0)) := fun w' h => by
            have h2 := HBw.out.trans (h.mono HBw.out.size)
            exact ⟨h2, (HC.out w' h2).2.1, (HC.out w' h2).2.2, (h.cell (lt_of_cell a1)).trans a1, (h.cell (lt_of_cell a2)).trans a2, (h.cell (lt_of_cell a3')).trans a3'⟩
          obtain ⟨_, d1, d2, _, _, _⟩ := KY.out wr (Below.refl _ _)
          have hBB : Below wr.heap.size wr wr := Below.refl _ _
          by_cases hk0 : k = 0
          · subst hk0
            simp only [Nat.zero_mul, Nat.add_zero] at a1 a2 KY
            have i1' : (0 : Int) < (n3 : Int) := by omega
            have KQ : Hid (∀ n', Calls Tryz.prog 26 #[.slice A1 n k1, .int .i64 z] (wr.drewN n') fun e w'' => e = .returned (.bool false) ∧ ∃ m, w'' = wr.drewN m) := fun n' => by
              have h := KInQ.out (wr.drewN n') z (HBw.out.trans (((Ext.refl wr).drewN n').below.mono HBw.out.size))
              rw [decide_eq_false hpg] at h
              exact h.mono fun e w'' ⟨h1, m, h2⟩ => ⟨h1, n' + m, by rw [h2]; simp [World.drewN, Nat.add_assoc]⟩
            clear hcl3 hcl5 hp hpm hpn hpf hx0 hx0f hn5 hz hpg a3 hkl i1 KI hBB
            go_wp2_with fail
            have e3 : (x0 < f) = False := by simp only [eq_iff_iff, iff_false]; omega
            go_quiet ((go_at_call 26; exact KQ.out _))
            go_wp2_with fail
            go_roundw
            case rel => exact ⟨1, by omega, by go_num, HBk.out.trans (((Ext.refl wr).drewN nq).below.mono HBk.out.size)⟩
            case measure => simp [intOf]; omega
          · obtain ⟨j, hj⟩ : ∃ j, k = j + 1 := ⟨k - 1, by omega⟩
            have hjl : j < M.length := by omega
            obtain ⟨q, hq⟩ : ∃ q, q = M[j] := ⟨_, rfl⟩
            obtain ⟨b1, _⟩ : PtAt wr w4.heap.size b3 (o3 + j * 2) q := by rw [hq]; exact (hcl3 j hjl).below HBk.out hb3
            have hlt2 : q.1 < z := by
              rw [hz, hp, hq]
              exact List.pairwise_iff_getElem.1 HCl.out.ids j k hjl hkl (by omega)
            obtain ⟨y, hy⟩ : ∃ y, y = q.1 := ⟨_, rfl⟩
            rw [← hy] at b1 hlt2
            have i5 : (0 : Int) < (k : Int) := by omega
            have i6 : IntKind.i64.wrap ((k : Int) - 1) = (j : Int) := by rw [IntWalk.i64_in _ (by omega)]; omega
            have i7 : (j : Int) < (n3 : Int) := by omega
            have i8 : ¬ z ≤ y := by omega
            have KJ : Hid (∀ w', Below wr.heap.size wr w' → w'.cell? ⟨b3, o3 + j * 2, none⟩ = some (.int .i64 y)) := fun w' h => (h.cell (lt_of_cell b1)).trans b1
            clear hcl3 hcl5 hp hpm hpn hpf hx0 hx0f hn5 hz hpg a3 hkl hj hjl hq hy hlt2 hk0
            go_wp2_with fail
            have e3 : (x0 < f) = False := by simp only [eq_iff_iff, iff_false]; omega
            have e8 : (z ≤ y) = False := by simp only [eq_iff_iff, iff_false]; omega
            have e5 : (0 < (k : Int)) = True := by simp only [eq_iff_iff, iff_true]; omega
            have e6 : (0 < k) = True := by simp only [eq_iff_iff, iff_true]; omega
            go_region_held3 (fun w' => w'.cell? ⟨bh, 1, none⟩ = some (.slice A1 n k1) ∧ w'.cell? ⟨bh, 2, none⟩ = some (.int .i64 f) ∧ w'.cell? ⟨b3, o3 + k * 2, none⟩ = some (.int .i64 z) ∧ w'.cell? ⟨b3, o3 + k * 2 + 1, none⟩ = some (.slice (some ⟨b5, o5, none⟩) n5 k5) ∧ w'.cell? ⟨b5, o5, none⟩ = some (.int .i64 x0) ∧ w'.cell? ⟨b3, o3 + j * 2, none⟩ = some (.int .i64 y) ∧ Below wr.heap.size wr w')
              (first | assumption | (have hd := Below.drew (by assumption : Below wr.heap.size wr _); have hy := KY.out _ hd; exact ⟨hy.2.1, hy.2.2.1, hy.2.2.2.1, hy.2.2.2.2.1, hy.2.2.2.2.2, KJ.out _ hd, hd⟩) | exact ⟨by assumption, by assumption, by assumption, by assumption, by assumption, by assumption, by assumption⟩)
              ((go_at_call 26; refine (KI.out _ (KY.out _ (by first | assumption | exact Below.drew (by assumption))).1).mono ?_; rintro e w8 ⟨rfl, hE8⟩; have hN8 : Below wr.heap.size wr w8 := Below.trans (by first | assumption | exact Below.drew (by assumption)) (hE8.below.mono (by first | exact Nat.le_refl _)); obtain ⟨_, f1, f2, f3, f4, f5⟩ := KY.out _ hN8; have f6 := KJ.out _ hN8; clear hE8))
            all_goals (
              go_wp2_with fail
              go_roundw
              case rel => exact ⟨k + 1, by omega, by go_num, HBk.out.trans ((by first | assumption | exact Below.drew (by assumption) : Below wr.heap.size wr _).mono HBk.out.size)⟩
              case measure => simp [intOf]; omega)
        · obtain rfl : n3 = k := by omega
          obtain ⟨w5, rfl⟩ : ∃ w0, w0 = wr := ⟨wr, rfl⟩
          have HB5 : Hid (Below w0.heap.size w0 w5) := HB4.out.trans (HBk.out.mono HB4.out.size)
          have HX5 := Lib.hid (HX4.out.on HBk.out)
          have HR5 : Hid (RdP w5 w5.heap.size (.slice A3 n3 k3) M) := HR4.out.on HBk.out
          have KO := Lib.hid (HOf.out w5 r4 X HB5.out HX5.out HCw.out HBd.out.2.2.1 HBd.out.2.2.2)
          obtain ⟨S, hS⟩ : ∃ S, S = sortS (ofL X id) := ⟨_, rfl⟩
          have hSl : S.length ≤ 150 := by rw [hS]; exact Nat.le_trans (many_of X id) HBd.out.2.2.2
          rw [← hS] at KO HLate
          clear hS HBk HBw HB4 HR4 HX4 HA3 HIn HX5 HCw
          go_wp2_with fail
          refine KO.out.mono ?_; rintro e w6 ⟨r6, rfl, hr6, hB⟩
          have HB6 : Hid (Below w0.heap.size w0 w6) := HB5.out.trans (hB.mono HB5.out.size)
          have HR6 : Hid (RdP w6 w6.heap.size (.slice A3 n3 k3) M) := HR5.out.on hB
          obtain ⟨A7, k7, rfl, hk7, hA7⟩ := hr6.rd
          obtain ⟨n7, hn7⟩ : ∃ n, n = S.length := ⟨_, rfl⟩
          rw [← hn7] at hk7 hSl ⊢
          have HN7 := Lib.hid hn7
          have HA7 := Lib.hid hA7
          clear hA7 hn7 hB hr6 HB5 HR5 KO
          go_wp2_with fail
          go_loopw [13, 14] (fun o i wl => ∃ k : Nat, k ≤ n7 ∧ i = .int .i64 k ∧ Own wl w6.heap.size 52 o ((S.take k).filter (fun x => decide (f ≤ x.1))) ∧ Hid (Below w6.heap.size w6 wl)) (fun _ i _ => n7 - (intOf i).toNat)
          case atStart => exact ⟨0, Nat.zero_le _, rfl, Own.nil _ _ _, Below.refl _ _⟩
          case round =>
            obtain ⟨k, hk, rfl, hown, HBk⟩ := hrel
            have HBw : Hid (Below w0.heap.size w0 wr) := HB6.out.trans (HBk.out.mono HB6.out.size)
            by_cases hlt : k < n7
            · have hkl : k < S.length := by rw [← HN7.out]; exact hlt
              rcases HA7.out with h0 | ⟨b, o, e, hb, hcl⟩
              · rw [h0] at hkl; simp at hkl
              subst e
              obtain ⟨y, hy⟩ : ∃ y, y = S[k] := ⟨_, rfl⟩
              have hcy : Cell4 wr b (o + k * 4) y := by rw [hy]; exact (hcl k hkl).below HBk.out hb
              have HCY := Lib.hid hcy
              have HS : Hid ((S.take (k + 1)).filter (fun x => decide (f ≤ x.1)) = (S.take k).filter (fun x => decide (f ≤ x.1)) ++ if f ≤ y.1 then [y] else []) := by
                show _ = _
                rw [List.take_succ_eq_append_getElem hkl, ← hy, List.filter_append]
                by_cases h : f ≤ y.1 <;> simp [h]
              have HL : Hid (((S.take k).filter (fun x => decide (f ≤ x.1))).length ≤ 150) := by
                show _ ≤ _
                refine Nat.le_trans (List.length_filter_le _ _) ?_
                rw [List.length_take]; omega
              obtain ⟨r, hr⟩ : ∃ r, r = (S.take k).filter (fun x => decide (f ≤ x.1)) := ⟨_, rfl⟩
              rw [← hr] at hown HL HS
              clear hcl hy hr
              obtain ⟨a0, a1, a2, a3⟩ := hcy
              obtain ⟨_, _, d2⟩ := HC.out wr HBw.out
              have i1 : (k : Int) < (n7 : Int) := by omega
              go_wp2_with fail
              go_quiet (fail)
              obtain ⟨w7, hw7⟩ : ∃ w7, w7 = wr.drewN nq := ⟨_, rfl⟩
              rw [← hw7]
              have HE7 : Hid (Below wr.heap.size wr w7) := by show Below _ _ _; rw [hw7]; exact ((Ext.refl wr).drewN nq).below
              have HB7 : Hid (Below w6.heap.size w6 w7) := HBk.out.trans (HE7.out.mono HBk.out.size)
              have hown7 := hown.below HE7.out
              clear a0 a1 a2 a3 d2 hw7 hown
              obtain ⟨a0, a1, a2, a3⟩ := HCY.out.below HE7.out (lt_of_cell HCY.out.1)
              by_cases h1 : f ≤ y.1
              · have HS2 : Hid ((S.take (k + 1)).filter (fun x => decide (f ≤ x.1)) = r ++ [y]) := by
                  show _ = _
                  rw [HS.out, if_pos h1]
                have HBs : Hid (w6.heap.size ≤ w7.heap.size) := HB7.out.size
                clear HS HE7 HCY
                go_wp2_with (first | (at_builtin; refine app1 rfl _ _ 40 52 rfl Tryz.underlying40 info_Smp w6.heap.size _ r y rfl (hown7.alloc _) w7.heap.size 0 1 rfl (Cell4.new _ y _ _ rfl) ?y1 ?y2 ?_) | fail)
                case y1 => have := HL.out; omega
                case y2 => have := HBs.out; simp; omega
                · intro v' w8 hown2 hg hloc
                  go_wp2_with fail
                  go_roundw
                  case rel => exact ⟨k + 1, by omega, by go_num, HS2.out ▸ hown2, (HB7.out.alloc HB7.out.size _).grown hg (by have := HBs.out; simp; omega) (fun g hg' => (hown7.blk hg').1)⟩
                  case measure => simp [intOf]; omega
              · have HS2 : Hid ((S.take (k + 1)).filter (fun x => decide (f ≤ x.1)) = r) := by
                  show _ = _
                  rw [HS.out, if_neg h1, List.append_nil]
                have h2 : y.1 < f := by omega
                clear HS HE7 HCY
                go_wp2_with fail
                go_roundw
                case rel => exact ⟨k + 1, by omega, by go_num, HS2.out ▸ hown7, HB7.out⟩
                case measure => simp [intOf]; omega
            · obtain rfl : n7 = k := by omega
              obtain ⟨w9, rfl⟩ : ∃ w0, w0 = wr := ⟨wr, rfl⟩
              have HB9 : Hid (Below w0.heap.size w0 w9) := HBw
              have HR9 : Hid (RdP w9 w9.heap.size (.slice A3 n3 k3) M) := HR6.out.on HBk.out
              have HO9 : Hid (Own w9 w6.heap.size 52 u13 (S.filter (fun x => decide (f ≤ x.1)))) := by
                have := hown
                rw [HN7.out, List.take_length] at this
                exact this
              have KI9 := Lib.hid (KInG.out w9 id HB9.out)
              obtain ⟨p, hp⟩ : ∃ p, p = decide (id ∈ g) := ⟨_, rfl⟩
              have HLt : Hid (sortS (ofL M id) = if p then [] else S.filter (fun x => decide (f ≤ x.1))) := by
                show _ = _
                rw [HLate.out, hp]
                by_cases h : id ∈ g <;> simp [h]
              rw [← hp] at KI9
              obtain ⟨L, hL⟩ : ∃ L, L = S.filter (fun x => decide (f ≤ x.1)) := ⟨_, rfl⟩
              have hLl : L.length ≤ 150 := by
                rw [hL]
                refine Nat.le_trans (List.length_filter_le _ _) ?_
                have := HN7.out; omega
              rw [← hL] at HO9 HLt
              clear hp hL hown HBk HBw HR6 HB6 HLate HA7 HN7 hk
              obtain ⟨_, d1, _⟩ := HC.out w9 HB9.out
              go_wp2_with fail
              refine KI9.out.mono ?_; rintro e w10 ⟨rfl, hE⟩
              have HB10 : Hid (Below w0.heap.size w0 w10) := HB9.out.trans (hE.below.mono HB9.out.size)
              have HR10 : Hid (RdP w10 w10.heap.size (.slice A3 n3 k3) M) := HR9.out.on hE.below
              have HO10 : Hid (Own w10 w6.heap.size 52 u13 L) := HO9.out.below hE.below
              have KO := Lib.hid (HOf.out w10 _ M HB10.out HR10.out HCl.out HBd.out.1 HBd.out.2.1)
              have HOl : Hid ((sortS (ofL M id)).length * 32 ≤ 140737488355328) := by
                have h1 := many_of M id
                have h2 := HBd.out.2.1
                show _ ≤ _
                omega
              clear hE HB9 HR9 HO9 KI9 HOf HR10
              cases p with
              | true =>
                have HLt2 : Hid (sortS (ofL M id) = []) := by show _ = _; rw [HLt.out]; rfl
                go_wp2_with fail
                refine KO.out.mono ?_; rintro e w11 ⟨r11, rfl, hr11, hB⟩
                have HB11 : Hid (Below w0.heap.size w0 w11) := HB10.out.trans (hB.mono HB10.out.size)
                have KS := Lib.hid (same_walk r11 (.slice none 0 0) _ [] w11 hr11.rd (Own.nil w11 0 0).rd HOl.out)
                rw [HLt2.out] at KS
                clear hB hr11 KO
                go_wp2_with fail
                refine KS.out.mono ?_; rintro e w12 ⟨rfl, hE⟩
                have HB12 : Hid (Below w0.heap.size w0 w12) := HB11.out.trans (hE.below.mono HB11.out.size)
                clear hE KS
                go_wp2_with fail
                go_ret
                exact ⟨ret_bool (by simp), HB0.out.trans (HB12.out.mono HB0.out.size)⟩
              | false =>
                have HLt2 : Hid (sortS (ofL M id) = L) := by show _ = _; rw [HLt.out]; rfl
                go_wp2_with fail
                refine KO.out.mono ?_; rintro e w11 ⟨r11, rfl, hr11, hB⟩
                have HB11 : Hid (Below w0.heap.size w0 w11) := HB10.out.trans (hB.mono HB10.out.size)
                have KS := Lib.hid (same_walk r11 u13 _ L w11 hr11.rd (HO10.out.below hB).rd HOl.out)
                rw [HLt2.out] at KS
                clear hB hr11 KO
                go_wp2_with fail
                refine KS.out.mono ?_; rintro e w12 ⟨rfl, hE⟩
                have HB12 : Hid (Below w0.heap.size w0 w12) := HB11.out.trans (hE.below.mono HB11.out.size)
                clear hE KS
                go_wp2_with fail
                go_ret
                exact ⟨ret_bool (by simp), HB0.out.trans (HB12.out.mono HB0.out.size)⟩
    · have g1 : (50 : Int) < (n : Int) := by omega
      go_wp2_with fail
      go_ret
      exact ⟨rfl, HB0.out.trans (HB2.out.mono HB0.out.size)⟩
end Go.Proofs.YtkcipfmbkokfdaaGreatDoor
