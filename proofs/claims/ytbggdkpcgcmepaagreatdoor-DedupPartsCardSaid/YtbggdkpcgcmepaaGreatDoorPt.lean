import Derived.Test.YtbggdkpcgcmepaaGreatDoorPq
import Derived.Test.YtbggdkpcgcmepaaGreatDoorKe
namespace Go.Proofs.YtbggdkpcgcmepaaGreatDoor
open Go.RowKit Go.Sort

set_option maxRecDepth 100000 in
set_option maxHeartbeats 4000000 in
theorem parts_walk (va : Value) (a : List Smp) (vb : Value) (b : List Smp) (d : Int) (W : World) (T : Tabs W) (hRa : Rd W W.heap.size va a) (hza : Nz va) (hRb : Rd W W.heap.size vb b) (hzb : Nz vb) :
    Calls Tryz.prog 6 #[va, vb, .int .i64 d] W fun e w' => e = .returned (.bool true) ∧ Below W.heap.size W w' := by
  have KW := Lib.hid (awake_walk W T)
  have KT : Hid (∀ w, Below W.heap.size W w → Tabs w) := fun w h => T.below h
  have KRa : Hid (∀ w, Below W.heap.size W w → Rd w w.heap.size va a) := fun w h => hRa.on h
  have KRb : Hid (∀ w, Below W.heap.size W w → Rd w w.heap.size vb b) := fun w h => hRb.on h
  have KY : Hid (∀ w' w'', Below W.heap.size W w' → Below w'.heap.size w' w'' → Below W.heap.size W w'') := fun w' w'' h e => h.trans (e.mono h.size)
  have HZa := Lib.hid hza
  have HZb := Lib.hid hzb
  obtain ⟨A, ca, rfl, hca, -⟩ := hRa
  obtain ⟨B, cb, rfl, hcb, -⟩ := hRb
  obtain ⟨n, hn⟩ : ∃ n, n = a.length := ⟨_, rfl⟩
  obtain ⟨m, hm⟩ : ∃ m, m = b.length := ⟨_, rfl⟩
  rw [← hn] at KRa hca HZa ⊢
  rw [← hm] at KRb hcb HZb ⊢
  have HN := Lib.hid hn
  have HM := Lib.hid hm
  clear T hn hm hca hcb hza hzb
  by_cases hg : n ≤ 40 ∧ m ≤ 40
  · obtain ⟨g1, g2⟩ := hg
    have g3 : (n : Int) ≤ 40 := by omega
    have g4 : (m : Int) ≤ 40 := by omega
    have HLa : Hid (a.length ≤ 40) := by show _ ≤ _; rw [← HN.out]; exact g1
    have HLb : Hid (b.length ≤ 40) := by show _ ≤ _; rw [← HM.out]; exact g2
    have KD : Hid (∀ v l w, Below W.heap.size W w → Rd w w.heap.size v l → l.length ≤ 10000 → Calls Tryz.prog 20 #[v, .int .i64 d] w fun r w' => ∃ rv, r = .returned rv ∧ Own w' w.heap.size 28 rv (dedupS d l) ∧ Below w.heap.size w w') := fun v l w h hr hl => ddup_walk _ l d w (KT.out w h) hr (by omega)
    go_enter Tryz.func6, Tryz.ntmps6
    go_wp2_with fail
    refine KW.out.mono ?_
    rintro e w1 ⟨rfl, hB⟩
    have HB := Lib.hid hB
    clear hB KW
    go_wp2_with (first | (at_builtin; refine appN rfl _ _ 22 28 rfl Tryz.underlying22 info_Smp w1.heap.size (.slice none 0 0) [] _ a w1.heap.size rfl (Own.nil _ _ _) rfl (KRa.out _ HB.out) ?z1 ?z2 ?z3 ?_) | fail)
    case z1 => exact HZa.out
    case z2 => have := HLa.out; first | omega | (simp; omega)
    case z3 => exact Nat.le_refl _
    intro v1 w2 hown hg hloc _
    have HB2 : Hid (Below w1.heap.size w1 w2) := (Below.refl _ _).grown hg (Nat.le_refl _) (fun g hg' => by simp [Value.ownBlock] at hg')
    have HBW2 := Lib.hid (KY.out _ _ HB.out HB2.out)
    clear hg hloc
    go_wp2_with (first | (at_builtin; refine appN rfl _ _ 22 28 rfl Tryz.underlying22 info_Smp w1.heap.size _ a _ b w2.heap.size rfl hown rfl (KRb.out _ HBW2.out) ?z1 ?z2 ?z3 ?_) | fail)
    case z1 => exact HZb.out
    case z2 => have := HLa.out; have := HLb.out; omega
    case z3 => exact HB2.out.size
    intro v2 w3 hown2 hg hloc _
    have HB3 : Hid (Below w1.heap.size w1 w3) := HB2.out.grown hg HB2.out.size (fun g hg' => (hown.blk hg').1)
    have HBW3 := Lib.hid (KY.out _ _ HB.out HB3.out)
    clear hg hloc hown HB2 HBW2 HB3 HB
    obtain ⟨al, hal⟩ : ∃ al, al = a ++ b := ⟨_, rfl⟩
    rw [← hal] at hown2
    have HAL := Lib.hid hal
    have HLal : Hid (al.length ≤ 80) := by show _ ≤ _; rw [hal, List.length_append]; have := HLa.out; have := HLb.out; omega
    clear hal
    have HRal := Lib.hid hown2.rd
    have hnzal := hown2.nz
    obtain ⟨A2, c2, rfl, hc2, hA2⟩ := hown2.opened
    obtain ⟨k, hk⟩ : ∃ k, k = al.length := ⟨_, rfl⟩
    rw [← hk] at hc2 HRal hnzal ⊢
    have hk80 : k ≤ 80 := by rw [hk]; exact HLal.out
    have HK := Lib.hid hk
    have HA2 := Lib.hid hA2
    have HNz := Lib.hid hnzal
    clear hk hA2 hown2 hnzal hc2
    go_wp2_with fail
    go_loopw [9, 10] (fun o iv wl => ∃ i : Int, iv = .int .i64 i ∧ -1 ≤ i ∧ i < k ∧ Own wl w3.heap.size 28 o (al.drop (i + 1).toNat).reverse ∧ Hid (Below w3.heap.size w3 wl))
      (fun _ i _ => (intOf i + 1).toNat)
    case atStart => exact ⟨(k : Int) - 1, rfl, by omega, by omega, by rw [show ((k : Int) - 1 + 1).toNat = k by omega, List.drop_of_length_le (by rw [HK.out]; exact Nat.le_refl _)]; exact Own.nil _ _ _, Below.refl _ _⟩
    case round =>
      obtain ⟨i, rfl, hi1, hi2, hown, HB⟩ := hrel
      by_cases hi0 : 0 ≤ i
      · obtain ⟨t, rfl⟩ := Int.eq_ofNat_of_zero_le hi0
        have hta : t < al.length := by rw [← HK.out]; omega
        rcases HA2.out with e | ⟨g, e, hg1, hg2, hcl⟩
        · rw [e] at hta; simp at hta
        subst e
        obtain ⟨y, hy⟩ : ∃ y, y = al[t] := ⟨_, rfl⟩
        obtain ⟨c0, c1, c2, c3⟩ : Cell4 wr g (t * 4) y := by rw [hy]; exact (hcl t hta).below HB.out hg2
        have HS : Hid ((al.drop ((t : Int) - 1 + 1).toNat).reverse = (al.drop ((t : Int) + 1).toNat).reverse ++ [y]) := by
          show _ = _
          rw [show ((t : Int) - 1 + 1).toNat = t by omega, show ((t : Int) + 1).toNat = t + 1 by omega, List.drop_eq_getElem_cons hta, List.reverse_cons, ← hy]
        have HL : Hid ((al.drop ((t : Int) + 1).toNat).reverse.length ≤ 80) := by
          show _ ≤ _
          rw [List.length_reverse, List.length_drop]; have := HLal.out; omega
        obtain ⟨r, hr⟩ : ∃ r, r = (al.drop ((t : Int) + 1).toNat).reverse := ⟨_, rfl⟩
        rw [← hr] at hown HS HL
        clear hy hr hcl
        have g5 : t < k := by omega
        have HB1 : Hid (∀ o, Below w3.heap.size w3 (wr.alloc o)) := fun o => HB.out.alloc HB.out.size _
        have HBs : Hid (w3.heap.size ≤ wr.heap.size) := HB.out.size
        go_wp2_with (first | (at_builtin; refine app1 rfl _ _ 22 28 rfl Tryz.underlying22 info_Smp w3.heap.size _ r y rfl (hown.alloc _) wr.heap.size 0 1 rfl (Cell4.new _ y _ _ rfl) ?y1 ?y2 ?_) | fail)
        case y1 => have := HL.out; omega
        case y2 => have := HBs.out; simp; omega
        · intro v' w4 hown2 hg hloc
          go_wp2_with fail
          go_roundw
          case rel => exact ⟨(t : Int) - 1, rfl, by omega, by omega, HS.out ▸ hown2, (HB1.out _).grown hg (by have := HBs.out; simp; omega) (fun g hg' => (hown.blk hg').1)⟩
          case measure => simp [intOf]
      · obtain rfl : i = -1 := by omega
        have HT : Hid (Own wr w3.heap.size 28 u9 al.reverse) := by
          have := hown
          rwa [show ((-1 : Int) + 1).toNat = 0 from rfl, List.drop_zero] at this
        have HBW := Lib.hid (KY.out _ _ HBW3.out HB.out)
        have HRal2 : Hid (Rd wr wr.heap.size (.slice A2 k c2) al) := HRal.out.on HB.out
        clear hown HB HRal HA2 HBW3
        -- own
        go_wp2_with fail
        refine (KD.out _ a wr HBW.out (KRa.out _ HBW.out) (by have := HLa.out; omega)).mono ?_
        rintro e w4 ⟨r1, rfl, hO1, hC1⟩
        have HBW4 := Lib.hid (KY.out _ _ HBW.out hC1)
        have HT4 : Hid (Rd w4 w4.heap.size u9 al.reverse) := HT.out.rd.on hC1
        have HRal4 := Lib.hid (HRal2.out.on hC1)
        have HR1 := Lib.hid hO1.rd
        have HN1 := Lib.hid hO1.nz
        have HL1 : Hid ((dedupS d a).length ≤ 40) := Nat.le_trans (dedupS_length d a) HLa.out
        have HL2 : Hid ((dedupS d b).length ≤ 40) := Nat.le_trans (dedupS_length d b) HLb.out
        clear hO1 hC1 HT HRal2 HBW
        go_wp2_with (first | (at_builtin; refine appN rfl _ _ 22 28 rfl Tryz.underlying22 info_Smp w4.heap.size (.slice none 0 0) [] _ (dedupS d a) w4.heap.size rfl (Own.nil _ _ _) rfl HR1.out ?z1 ?z2 ?z3 ?_) | fail)
        case z1 => exact HN1.out
        case z2 => have := HL1.out; first | omega | (simp; omega)
        case z3 => exact Nat.le_refl _
        intro v5 w5 hown5 hg hloc _
        have HB5 : Hid (Below w4.heap.size w4 w5) := (Below.refl _ _).grown hg (Nat.le_refl _) (fun g hg' => by simp [Value.ownBlock] at hg')
        have HBW5 := Lib.hid (KY.out _ _ HBW4.out HB5.out)
        have HO5 := Lib.hid hown5
        clear hg hloc HR1 HN1 hown5
        go_wp2_with fail
        refine (KD.out _ b w5 HBW5.out (KRb.out _ HBW5.out) (by have := HLb.out; omega)).mono ?_
        rintro e w6 ⟨r2, rfl, hO2, hC2⟩
        have HB6 : Hid (Below w4.heap.size w4 w6) := HB5.out.trans (hC2.mono HB5.out.size)
        have HBW6 := Lib.hid (KY.out _ _ HBW5.out hC2)
        have HO6 := Lib.hid (HO5.out.below hC2)
        have HR2 := Lib.hid hO2.rd
        have HN2 := Lib.hid hO2.nz
        clear hO2 hC2 HO5
        go_wp2_with (first | (at_builtin; refine appN rfl _ _ 22 28 rfl Tryz.underlying22 info_Smp w4.heap.size _ (dedupS d a) _ (dedupS d b) w6.heap.size rfl HO6.out rfl HR2.out ?z1 ?z2 ?z3 ?_) | fail)
        case z1 => exact HN2.out
        case z2 => have := HL1.out; have := HL2.out; omega
        case z3 => exact HB6.out.size
        intro v7 w7 hown7 hg hloc _
        have HB7 : Hid (Below w4.heap.size w4 w7) := HB6.out.grown hg HB6.out.size (fun g hg' => (HO6.out.blk hg').1)
        have HBW7 := Lib.hid (KY.out _ _ HBW4.out HB7.out)
        have HO7 := Lib.hid hown7
        clear hg hloc HR2 HN2 hown7 HO6
        go_wp2_with fail
        refine (KD.out _ a w7 HBW7.out (KRa.out _ HBW7.out) (by have := HLa.out; omega)).mono ?_
        rintro e w8 ⟨r3, rfl, hO3, hC3⟩
        have HB8 : Hid (Below w4.heap.size w4 w8) := HB7.out.trans (hC3.mono HB7.out.size)
        have HBW8 := Lib.hid (KY.out _ _ HBW7.out hC3)
        have HO8 := Lib.hid (HO7.out.below hC3)
        have HR3 := Lib.hid hO3.rd
        have HN3 := Lib.hid hO3.nz
        clear hO3 hC3 HO7
        have HL3 : Hid ((dedupS d a ++ dedupS d b).length ≤ 80) := by show _ ≤ _; rw [List.length_append]; have := HL1.out; have := HL2.out; omega
        go_wp2_with (first | (at_builtin; refine appN rfl _ _ 22 28 rfl Tryz.underlying22 info_Smp w4.heap.size _ (dedupS d a ++ dedupS d b) _ (dedupS d a) w8.heap.size rfl HO8.out rfl HR3.out ?z1 ?z2 ?z3 ?_) | fail)
        case z1 => exact HN3.out
        case z2 => have := HL1.out; have := HL3.out; omega
        case z3 => exact HB8.out.size
        intro v9 w9 hown9 hg hloc _
        have HB9 : Hid (Below w4.heap.size w4 w9) := HB8.out.grown hg HB8.out.size (fun g hg' => (HO8.out.blk hg').1)
        have HBW9 := Lib.hid (KY.out _ _ HBW4.out HB9.out)
        have HR9 := Lib.hid hown9.rd
        have HRal9 := Lib.hid (HRal4.out.on HB9.out)
        have HT9 := Lib.hid (HT4.out.on HB9.out)
        clear hg hloc HR3 HN3 hown9 HO8 HRal4 HT4 HB9 HB8 HB7 HB6 HB5 HBW8 HBW7 HBW6 HBW5 HBW4
        obtain ⟨ow, how⟩ : ∃ ow, ow = dedupS d a ++ (dedupS d b ++ dedupS d a) := ⟨_, rfl⟩
        have HLow : Hid (ow.length ≤ 120) := by show _ ≤ _; rw [how]; simp only [List.length_append]; have := HL1.out; have := HL2.out; omega
        have HOW : Hid (dedupS d ow = dedupS d al) := by show _ = _; rw [how, HAL.out, ← List.append_assoc]; exact dedup_parts d a b
        have HTW : Hid (dedupS d al.reverse = dedupS d al) := dedup_reverse d al
        rw [← how] at HR9
        have HLD : Hid ((dedupS d al).length ≤ 80) := Nat.le_trans (dedupS_length d al) HLal.out
        clear how
        go_wp2_with fail
        refine (KD.out _ al w9 HBW9.out HRal9.out (by have := HLal.out; omega)).mono ?_
        rintro e wa ⟨r4, rfl, hO4, hC4⟩
        have HBWa := Lib.hid (KY.out _ _ HBW9.out hC4)
        have HRw := Lib.hid hO4.rd
        have HRo := Lib.hid (HR9.out.on hC4)
        have HRt := Lib.hid (HT9.out.on hC4)
        clear hO4 hC4 HR9 HT9 HRal9
        go_wp2_with fail
        refine (KD.out _ ow wa HBWa.out HRo.out (by have := HLow.out; omega)).mono ?_
        rintro e wb ⟨r5, rfl, hO5, hC5⟩
        have HBWb := Lib.hid (KY.out _ _ HBWa.out hC5)
        have HRwb := Lib.hid (HRw.out.on hC5)
        have HRtb := Lib.hid (HRt.out.on hC5)
        have HR5 := Lib.hid hO5.rd
        clear hO5 hC5 HRw HRt HRo
        go_wp2_with fail
        refine (same_yes _ _ _ _ wb HR5.out HRwb.out (by rw [HOW.out]; have := HLD.out; omega) HOW.out).mono ?_
        rintro e wc ⟨rfl, hC6⟩
        have HBWc := Lib.hid (KY.out _ _ HBWb.out hC6)
        have HRwc := Lib.hid (HRwb.out.on hC6)
        have HRtc := Lib.hid (HRtb.out.on hC6)
        clear hC6 HRwb HRtb HR5
        go_wp2_with fail
        refine (KD.out _ al.reverse wc HBWc.out HRtc.out (by rw [List.length_reverse]; have := HLal.out; omega)).mono ?_
        rintro e wd ⟨r6, rfl, hO6, hC7⟩
        have HBWd := Lib.hid (KY.out _ _ HBWc.out hC7)
        have HRwd := Lib.hid (HRwc.out.on hC7)
        have HR6 := Lib.hid hO6.rd
        clear hO6 hC7 HRwc HRtc
        go_wp2_with fail
        refine (same_yes _ _ _ _ wd HR6.out HRwd.out (by rw [HTW.out]; have := HLD.out; omega) HTW.out).mono ?_
        rintro e we ⟨rfl, hC8⟩
        have HBWe := Lib.hid (KY.out _ _ HBWd.out hC8)
        clear hC8
        go_wp2_with fail
        go_ret
        exact ⟨rfl, HBWe.out⟩
  · clear KRa KRb KT HN HM
    rcases (by omega : 40 < n ∨ (n ≤ 40 ∧ 40 < m)) with h | ⟨h, h2⟩
    all_goals
      go_enter Tryz.func6, Tryz.ntmps6
      go_wp2_with fail
      refine KW.out.mono ?_
      rintro e w1 ⟨rfl, hB⟩
      have HB := Lib.hid hB
      clear hB KW
      go_wp2_with fail
      go_ret
      exact ⟨rfl, HB.out⟩
end Go.Proofs.YtbggdkpcgcmepaaGreatDoor
