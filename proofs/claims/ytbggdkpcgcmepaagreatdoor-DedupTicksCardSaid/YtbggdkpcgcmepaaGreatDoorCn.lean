import Derived.Test.YtbggdkpcgcmepaaGreatDoorCm
namespace Go.Proofs.YtbggdkpcgcmepaaGreatDoor
open Go.RowKit Go.Sort

theorem same_take {a b : List Smp} {k : Nat} {x y : Smp} (ha : k < a.length) (hb : k < b.length) (hx : x = a[k]) (hy : y = b[k]) (h : a.take k = b.take k) : (a.take (k + 1) = b.take (k + 1)) ↔ x = y := by
  rw [List.take_succ_eq_append_getElem ha, List.take_succ_eq_append_getElem hb, h, ← hx, ← hy]
  simp
set_option maxHeartbeats 1000000 in
theorem same_walk (va vb : Value) (a b : List Smp) (W : World) (hRa : Rd W W.heap.size va a) (hRb : Rd W W.heap.size vb b) (hla : a.length * 32 ≤ 140737488355328) :
    Calls Tryz.prog 15 #[va, vb] W fun e w' => e = .returned (.bool (decide (a = b))) ∧ Ext W w' := by
  obtain ⟨A, ca, rfl, hca, hA⟩ := hRa
  obtain ⟨B, cb, rfl, hcb, hB⟩ := hRb
  have HA := Lib.hid hA
  have HB := Lib.hid hB
  obtain ⟨q, hq⟩ : ∃ q, q = decide (a = b) := ⟨_, rfl⟩
  have HQ : Hid (q = decide (a = b)) := hq
  rw [← hq]
  clear hq hA hB hca hcb
  obtain ⟨n, hn⟩ : ∃ n, n = a.length := ⟨_, rfl⟩
  obtain ⟨m, hm⟩ : ∃ m, m = b.length := ⟨_, rfl⟩
  rw [← hn] at hla ⊢
  rw [← hm]
  have HN : Hid (n = a.length) := hn
  have HM : Hid (m = b.length) := hm
  clear hn hm
  by_cases hnm : n = m
  · have g0 : (((n : Int)) != (m : Int)) = false := by simp; omega
    go_enter Tryz.func15, Tryz.ntmps15
    go_wp2_with fail
    go_loopw [5] (fun i wl => ∃ k : Nat, k ≤ n ∧ i = .int .i64 k ∧ Hid (a.take k = b.take k) ∧ Hid (Ext W wl))
      (fun i _ => n - (intOf i).toNat)
    case atStart => exact ⟨0, Nat.zero_le _, rfl, rfl, Ext.refl _⟩
    case round =>
      obtain ⟨k, hk, rfl, HT, HE⟩ := hrel
      by_cases hlt : k < n
      · have hla2 : k < a.length := by rw [← HN.out]; exact hlt
        have hlb2 : k < b.length := by rw [← HM.out, ← hnm]; exact hlt
        rcases HA.out with h0 | ⟨b1, o1, e, hb1, hcl1⟩
        · subst h0; simp at hla2
        rcases HB.out with h0 | ⟨b2, o2, e', hb2, hcl2⟩
        · subst h0; simp at hlb2
        subst e e'
        obtain ⟨x, hx⟩ : ∃ x, x = a[k] := ⟨_, rfl⟩
        obtain ⟨y, hy⟩ : ∃ y, y = b[k] := ⟨_, rfl⟩
        obtain ⟨c0, c1, c2, c3⟩ : Cell4 wr b1 (o1 + k * 4) x := by rw [hx]; exact (hcl1 k hla2).below HE.out.below hb1
        obtain ⟨d0, d1, d2, d3⟩ : Cell4 wr b2 (o2 + k * 4) y := by rw [hy]; exact (hcl2 k hlb2).below HE.out.below hb2
        have HF : Hid ((a.take (k + 1) = b.take (k + 1)) ↔ x = y) := same_take hla2 hlb2 hx hy HT.out
        obtain ⟨p, hp⟩ : ∃ p, p = decide (x = y) := ⟨_, rfl⟩
        have hne : ∀ w, (binOp .neq 28 (.agg #[.int .i64 x.1, .int .i64 x.2.1, .int .i64 x.2.2.1, .int .i64 x.2.2.2]) (.agg #[.int .i64 y.1, .int .i64 y.2.1, .int .i64 y.2.2.1, .int .i64 y.2.2.2])).run Tryz.prog w = .ok (.bool (!p)) w := fun w => hp ▸ neq_Smp x y w
        have HP : Hid (p = decide (x = y)) := hp
        clear hp hx hy hcl1 hcl2
        have hkm : k < m := by omega
        have i1 : (k : Int) < (n : Int) := by omega
        have i2 : (k : Int) < (m : Int) := by omega
        go_wp2_with fail
        go_quiet (fail)
        clear c0 c1 c2 c3 d0 d1 d2 d3 hne
        cases p with
        | true =>
          have hT2 : Hid (a.take (k + 1) = b.take (k + 1)) := HF.out.2 (of_decide_eq_true HP.out.symm)
          clear HF HP
          go_wp2_with fail
          go_roundw
          case rel => exact ⟨k + 1, by omega, by go_num, hT2, HE.out.drewN nq⟩
          case measure => simp [intOf]; omega
        | false =>
          have hab : a ≠ b := fun e => of_decide_eq_false HP.out.symm (HF.out.1 (by rw [e]))
          have hqf : Hid (q = false) := HQ.out.trans (decide_eq_false hab)
          clear HF HP hab
          go_wp2_with fail
          go_ret
          exact ⟨ret_bool hqf.out.symm, HE.out.drewN nq⟩
      · have hkn : k = n := by omega
        have hab : a = b := by
          have := HT.out
          rwa [hkn, HN.out, List.take_length, ← HN.out, hnm, HM.out, List.take_length] at this
        have hqt : Hid (q = true) := HQ.out.trans (decide_eq_true hab)
        clear hab hkn
        go_wp2_with fail
        go_ret
        exact ⟨ret_bool hqt.out.symm, HE.out⟩
  · have g0 : (((n : Int)) != (m : Int)) = true := by simp; omega
    have hab : a ≠ b := fun e => hnm (by rw [HN.out, HM.out, e])
    have hqf : Hid (q = false) := HQ.out.trans (decide_eq_false hab)
    go_enter Tryz.func15, Tryz.ntmps15
    go_wp2_with fail
    go_ret
    exact ⟨ret_bool hqf.out.symm, Ext.refl _⟩
end Go.Proofs.YtbggdkpcgcmepaaGreatDoor
