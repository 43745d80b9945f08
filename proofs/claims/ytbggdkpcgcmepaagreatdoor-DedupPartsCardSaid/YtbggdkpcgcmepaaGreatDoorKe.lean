import Derived.Test.YtbggdkpcgcmepaaGreatDoorRh
import Derived.Test.YtbggdkpcgcmepaaGreatDoorTk
namespace Go.Proofs.YtbggdkpcgcmepaaGreatDoor
open Go.RowKit Go.Sort

theorem same_yes (va vb : Value) (a b : List Smp) (W : World) (hRa : Rd W W.heap.size va a) (hRb : Rd W W.heap.size vb b) (hl : a.length ≤ 10000) (e : a = b) :
    Calls Tryz.prog 15 #[va, vb] W fun r w' => r = .returned (.bool true) ∧ Below W.heap.size W w' := by
  have := same_walk va vb a b W hRa hRb (by omega)
  rw [decide_eq_true e] at this
  exact this.mono fun _ _ ⟨h1, h2⟩ => ⟨h1, h2.below⟩
theorem Rd.on {w w' : World} {v : Value} {l : List Smp} (h : Rd w w.heap.size v l) (k : RowKit.Below w.heap.size w w') : Rd w' w'.heap.size v l := (h.below k).mono k.size
theorem delS_length (f t : Int) (l : List Smp) : (delS f t l).length ≤ l.length := List.length_filter_le _ _

set_option maxRecDepth 100000 in
set_option maxHeartbeats 4000000 in
theorem keeps_walk (v : Value) (l : List Smp) (d f : Int) (W : World) (T : Tabs W) (hR : Rd W W.heap.size v l) (hz : Nz v) :
    Calls Tryz.prog 4 #[v, .int .i64 d, .int .i64 f] W fun e w' => e = .returned (.bool true) ∧ Below W.heap.size W w' := by
  have KW := Lib.hid (awake_walk W T)
  have KT : Hid (∀ w, Below W.heap.size W w → Tabs w) := fun w h => T.below h
  have KR : Hid (∀ w, Below W.heap.size W w → Rd w w.heap.size v l) := fun w h => hR.on h
  have KY : Hid (∀ w' w'', Below W.heap.size W w' → Below w'.heap.size w' w'' → Below W.heap.size W w'') := fun w' w'' h e => h.trans (e.mono h.size)
  have HZ := Lib.hid hz
  obtain ⟨A, c, rfl, hc, -⟩ := hR
  obtain ⟨n, hn⟩ : ∃ n, n = l.length := ⟨_, rfl⟩
  rw [← hn] at KR hc HZ ⊢
  have HN := Lib.hid hn
  clear T hn hc hz
  obtain ⟨q, hq⟩ : ∃ q, bits .and .i64 d 63 = q := ⟨_, rfl⟩
  obtain ⟨t, ht⟩ : ∃ t, IntKind.i64.wrap (f + q) = t := ⟨_, rfl⟩
  by_cases hg : n ≤ 60
  · have g0 : (n : Int) ≤ 60 := by omega
    have hl32 : l.length * 32 ≤ 140737488355328 := by have := HN.out; omega
    have hl4 : l.length ≤ 10000 := by have := HN.out; omega
    have KD : Hid (∀ w, Below W.heap.size W w → Calls Tryz.prog 20 #[.slice A n c, .int .i64 d] w fun r w' => ∃ rv, r = .returned rv ∧ Own w' w.heap.size 28 rv (dedupS d l) ∧ Below w.heap.size w w') := fun w h => ddup_walk _ l d w (KT.out w h) (KR.out w h) hl32
    have KE : Hid (∀ w, Below W.heap.size W w → Calls Tryz.prog 21 #[.slice A n c, .int .i64 d] w fun r w' => ∃ rv, r = .returned rv ∧ Own w' w.heap.size 28 rv (dedupS d l) ∧ Below w.heap.size w w') := fun w h => rdedup_walk _ l d w (KR.out w h) hl4
    have KC : Hid (∀ w t, Below W.heap.size W w → Calls Tryz.prog 22 #[.slice A n c, .int .i64 f, .int .i64 t] w fun r w' => ∃ rv, r = .returned rv ∧ Own w' w.heap.size 28 rv (delS f t l) ∧ Below w.heap.size w w') := fun w t h => clip_walk _ l f t w (KR.out w h) HZ.out hl32
    have KF : Hid (∀ w t, Below W.heap.size W w → Calls Tryz.prog 23 #[.slice A n c, .int .i64 f, .int .i64 t] w fun r w' => ∃ rv, r = .returned rv ∧ Own w' w.heap.size 28 rv (delS f t l) ∧ Below w.heap.size w w') := fun w t h => rclip_walk _ l f t w (KR.out w h) hl4
    have HLd : Hid ((dedupS d l).length ≤ 10000) := by show _ ≤ _; have := dedupS_length d l; omega
    have HLc : Hid (∀ t, (delS f t l).length ≤ 10000) := fun t => by have := delS_length f t l; omega
    clear hl32 hl4
    by_cases htf : t < f
    all_goals
      go_enter Tryz.func4, Tryz.ntmps4
      go_wp2_with fail
      refine KW.out.mono ?_
      rintro e w1 ⟨rfl, hB⟩
      have HB := Lib.hid hB
      clear hB KW
      go_wp2_with fail
      refine (KD.out w1 HB.out).mono ?_
      rintro e w2 ⟨r1, rfl, hO1, hC1⟩
      have HB2 := Lib.hid (KY.out _ _ HB.out hC1)
      have HO1 := Lib.hid hO1
      clear hO1 hC1
      go_wp2_with fail
      refine (KE.out w2 HB2.out).mono ?_
      rintro e w3 ⟨r2, rfl, hO2, hC2⟩
      have HB3 := Lib.hid (KY.out _ _ HB2.out hC2)
      have HR2 := Lib.hid hO2.rd
      have HR1 := Lib.hid (HO1.out.rd.on hC2)
      clear hO2 hC2 HO1
      go_wp2_with fail
      refine (same_yes _ _ _ _ w3 HR1.out HR2.out HLd.out rfl).mono ?_
      rintro e w4 ⟨rfl, hC3⟩
      have HB4 := Lib.hid (KY.out _ _ HB3.out hC3)
      clear hC3 HR1 HR2
      go_wp2_with fail
      refine (KC.out w4 _ HB4.out).mono ?_
      rintro e w5 ⟨r3, rfl, hO3, hC4⟩
      have HB5 := Lib.hid (KY.out _ _ HB4.out hC4)
      have HO3 := Lib.hid hO3
      clear hO3 hC4
      go_wp2_with fail
      refine (KF.out w5 _ HB5.out).mono ?_
      rintro e w6 ⟨r4, rfl, hO4, hC5⟩
      have HB6 := Lib.hid (KY.out _ _ HB5.out hC5)
      have HR4 := Lib.hid hO4.rd
      have HR3 := Lib.hid (HO3.out.rd.on hC5)
      clear hO4 hC5 HO3
      go_wp2_with fail
      refine (same_yes _ _ _ _ w6 HR3.out HR4.out (HLc.out _) rfl).mono ?_
      rintro e w7 ⟨rfl, hC6⟩
      have HB7 := Lib.hid (KY.out _ _ HB6.out hC6)
      clear hC6
      go_wp2_with fail
      go_ret
      exact ⟨rfl, HB7.out⟩
  · have h : 60 < n := by omega
    clear KR KT HN hq ht
    go_enter Tryz.func4, Tryz.ntmps4
    go_wp2_with fail
    refine KW.out.mono ?_
    rintro e w1 ⟨rfl, hB⟩
    have HB := Lib.hid hB
    clear hB KW
    go_wp2_with fail
    go_ret
    exact ⟨rfl, HB.out⟩
end Go.Proofs.YtbggdkpcgcmepaaGreatDoor
