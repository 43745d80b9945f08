import Derived.Test.YtbggdkpcgcmepaaGreatDoorTw
import Derived.Test.YtbggdkpcgcmepaaGreatDoorAnc
namespace Go.Proofs.YtbggdkpcgcmepaaGreatDoor
open Go.RowKit Go.Sort

theorem and15 (x : Int) : 0 ≤ bits .and .i64 x 15 ∧ bits .and .i64 x 15 ≤ 15 := by
  have h : (BitVec.ofInt 64 x &&& 15#64).toNat ≤ 15 := by
    rw [BitVec.toNat_and]; exact Nat.and_le_right
  have hb : bits .and .i64 x 15 = IntKind.i64.wrap ((BitVec.ofInt 64 x &&& 15#64).toNat : Int) := rfl
  rw [hb, IntWalk.i64_in _ (by omega)]
  omega
end Go.Proofs.YtbggdkpcgcmepaaGreatDoor

namespace Go.Proofs.YtbggdkpcgcmepaaGreatDoor
open Go.RowKit Go.Sort

set_option maxRecDepth 100000 in
set_option maxHeartbeats 4000000 in
theorem twice_walk (v : Value) (l : List Smp) (d x : Int) (W : World) (T : Tabs W) (hR : Rd W W.heap.size v l) :
    Calls Tryz.prog 5 #[v, .int .i64 d, .int .i64 x] W fun e w' => e = .returned (.bool true) ∧ Below W.heap.size W w' := by
  have KW := Lib.hid (awake_walk W T)
  have KT : Hid (∀ w, Below W.heap.size W w → Tabs w) := fun w h => T.below h
  have KR : Hid (∀ w, Below W.heap.size W w → Rd w w.heap.size v l) := fun w h => (hR.below h).mono h.size
  have KY : Hid (∀ w' w'', Below W.heap.size W w' → Below w'.heap.size w' w'' → Below W.heap.size W w'') := fun w' w'' h e => h.trans (e.mono h.size)
  obtain ⟨A, c, rfl, hc, -⟩ := hR
  obtain ⟨n, hn⟩ : ∃ n, n = l.length := ⟨_, rfl⟩
  rw [← hn] at KR hc ⊢
  have HN := Lib.hid hn
  clear T hn hc
  by_cases hg : n ≤ 60 ∧ 1 ≤ d ∧ d ≤ 10000
  · obtain ⟨g1, g2, g3⟩ := hg
    have g0 : (n : Int) ≤ 60 := by omega
    have h15 := and15 x
    obtain ⟨k0, hk0⟩ : ∃ k0, bits .and .i64 x 15 = k0 := ⟨_, rfl⟩
    rw [hk0] at h15
    obtain ⟨h15a, h15b⟩ := h15
    obtain ⟨p, hp⟩ : ∃ p, p = (1 + k0) * d := ⟨_, rfl⟩
    have hp1 : 0 ≤ p := by rw [hp]; exact Int.mul_nonneg (by omega) (by omega)
    have hp2 : p ≤ 160000 := by
      have h1 : (1 + k0) * d ≤ 16 * d := Int.mul_le_mul_of_nonneg_right (by omega) (by omega)
      omega
    have gp : IntKind.i64.wrap ((1 + k0) * d) = p := by rw [← hp]; exact IntWalk.i64_in _ (by omega)
    have hl32 : l.length * 32 ≤ 140737488355328 := by have := HN.out; omega
    have KD : Hid (∀ w, Below W.heap.size W w → ∀ e : Int, Calls Tryz.prog 20 #[.slice A n c, .int .i64 e] w fun r w' => ∃ rv, r = .returned rv ∧ Own w' w.heap.size 28 rv (dedupS e l) ∧ Below w.heap.size w w') := fun w h e => ddup_walk _ l e w (KT.out w h) (KR.out w h) hl32
    have hone : (dedupS d l).length * 32 ≤ 140737488355328 := by have := dedupS_length d l; omega
    have KD1 : Hid (∀ w, Below W.heap.size W w → ∀ rv, Rd w w.heap.size rv (dedupS d l) → ∀ e : Int, Calls Tryz.prog 20 #[rv, .int .i64 e] w fun r w' => ∃ rv', r = .returned rv' ∧ Own w' w.heap.size 28 rv' (dedupS e (dedupS d l)) ∧ Below w.heap.size w w') := fun w h rv hr e => ddup_walk _ _ e w (KT.out w h) hr hone
    have hB2 : dedupS p (dedupS d l) = dedupS p l := by rw [hp]; exact dedup_more d (1 + k0) l (by omega) (by omega) (by omega)
    have HB2' := Lib.hid hB2
    clear hB2 hp hl32 hone
    go_enter Tryz.func5, Tryz.ntmps5
    go_wp2_with fail
    refine KW.out.mono ?_
    rintro e w1 ⟨rfl, hB⟩
    have HB := Lib.hid hB
    clear hB KW
    go_wp2_with fail
    refine (KD.out w1 HB.out d).mono ?_
    rintro e w2 ⟨r1, rfl, hO1, hC1⟩
    have HB2 := Lib.hid (KY.out _ _ HB.out hC1)
    have HO1 := Lib.hid hO1
    clear hO1 hC1
    go_wp2_with fail
    refine (KD.out w2 HB2.out p).mono ?_
    rintro e w3 ⟨r2, rfl, hO2, hC2⟩
    have HB3 := Lib.hid (KY.out _ _ HB2.out hC2)
    have HO2 := Lib.hid hO2
    have HO13 : Hid (Own w3 w1.heap.size 28 r1 (dedupS d l)) := HO1.out.below hC2
    clear hO2 hC2
    have KS : Hid (∀ w a b va vb, Below W.heap.size W w → Rd w w.heap.size va a → Rd w w.heap.size vb b → a = b → a.length ≤ 60 → Calls Tryz.prog 15 #[va, vb] w fun r w' => r = .returned (.bool true) ∧ Below w.heap.size w w') := fun w a b va vb _ ha hb e hl => by
      have := same_walk va vb a b w ha hb (by omega)
      rw [decide_eq_true e] at this
      exact this.mono fun _ _ ⟨h1, h2⟩ => ⟨h1, h2.below⟩
    have H60 : Hid ((dedupS d l).length ≤ 60) := by show _ ≤ _; have := dedupS_length d l; have := HN.out; omega
    have H60p : Hid ((dedupS p l).length ≤ 60) := by show _ ≤ _; have := dedupS_length p l; have := HN.out; omega
    go_wp2_with fail
    refine (KD1.out w3 HB3.out r1 HO13.out.rd d).mono ?_
    rintro e w4 ⟨r3, rfl, hO3, hC3⟩
    have HB4 := Lib.hid (KY.out _ _ HB3.out hC3)
    have HO3 := Lib.hid hO3
    have HO14 : Hid (Own w4 w1.heap.size 28 r1 (dedupS d l)) := HO13.out.below hC3
    have HO24 : Hid (Own w4 w2.heap.size 28 r2 (dedupS p l)) := HO2.out.below hC3
    clear hO3 hC3
    go_wp2_with fail
    refine (KS.out w4 _ _ _ _ HB4.out HO3.out.rd HO14.out.rd (dedup_again d l) (by rw [dedup_again]; exact H60.out)).mono ?_
    rintro e w5 ⟨rfl, hC4⟩
    have HB5 := Lib.hid (KY.out _ _ HB4.out hC4)
    have HO15 : Hid (Own w5 w1.heap.size 28 r1 (dedupS d l)) := HO14.out.below hC4
    have HO25 : Hid (Own w5 w2.heap.size 28 r2 (dedupS p l)) := HO24.out.below hC4
    clear hC4
    go_wp2_with fail
    refine (KD1.out w5 HB5.out r1 HO15.out.rd p).mono ?_
    rintro e w6 ⟨r4, rfl, hO4, hC5⟩
    have HB6 := Lib.hid (KY.out _ _ HB5.out hC5)
    have HO4 := Lib.hid hO4
    have HO16 : Hid (Own w6 w1.heap.size 28 r1 (dedupS d l)) := HO15.out.below hC5
    have HO26 : Hid (Own w6 w2.heap.size 28 r2 (dedupS p l)) := HO25.out.below hC5
    clear hO4 hC5
    go_wp2_with fail
    refine (KS.out w6 _ _ _ _ HB6.out HO4.out.rd HO26.out.rd HB2'.out (by rw [HB2'.out]; exact H60p.out)).mono ?_
    rintro e w7 ⟨rfl, hC6⟩
    have HB7 := Lib.hid (KY.out _ _ HB6.out hC6)
    have HO17 : Hid (Own w7 w1.heap.size 28 r1 (dedupS d l)) := HO16.out.below hC6
    clear hC6
    go_wp2_with fail
    refine (dsort_walk r1 _ w7 (KT.out w7 HB7.out) HO17.out.rd (by have := H60.out; omega)).mono ?_
    rintro e w8 ⟨r5, rfl, hO5, hC7⟩
    have HB8 := Lib.hid (KY.out _ _ HB7.out hC7)
    have HO5 := Lib.hid hO5
    have HO18 : Hid (Own w8 w1.heap.size 28 r1 (dedupS d l)) := HO17.out.below hC7
    clear hO5 hC7
    go_wp2_with fail
    refine (KS.out w8 _ _ _ _ HB8.out HO5.out.rd HO18.out.rd (sort_lasts d l) (by rw [sort_lasts]; exact H60.out)).mono ?_
    rintro e w9 ⟨rfl, hC8⟩
    have HB9 := Lib.hid (KY.out _ _ HB8.out hC8)
    clear hC8
    go_wp2_with fail
    go_ret
    exact ⟨rfl, HB9.out⟩
  · clear KR KT HN
    rcases (by omega : 60 < n ∨ (n ≤ 60 ∧ d < 1) ∨ (n ≤ 60 ∧ 1 ≤ d ∧ 10000 < d)) with h | ⟨h, h2⟩ | ⟨h, h2, h3⟩
    all_goals
      go_enter Tryz.func5, Tryz.ntmps5
      go_wp2_with fail
      refine KW.out.mono ?_
      rintro e w1 ⟨rfl, hB⟩
      have HB := Lib.hid hB
      clear hB KW
      go_wp2_with fail
      go_ret
      exact ⟨rfl, HB.out⟩
end Go.Proofs.YtbggdkpcgcmepaaGreatDoor
