import Derived.Test.YtbggdkpcgcmepaaGreatDoorKe
namespace Go.Proofs.YtbggdkpcgcmepaaGreatDoor
open Go.RowKit Go.Sort

theorem flatS_set1 (l : List Smp) (i : Nat) (t : Int) (h : i < l.length) : (flatS l).set (i * 4) (.int .i64 t) = flatS (l.set i (t, l[i].2)) := by
  induction l generalizing i with
  | nil => simp at h
  | cons a l ih =>
    cases i with
    | zero => simp [flatS, encS]
    | succ i =>
      have := ih i (by simpa using h)
      unfold flatS at *
      simp only [List.set_cons_succ, List.flatMap_cons, List.getElem_cons_succ, ← this]
      rw [show (i + 1) * 4 = i * 4 + 4 by omega]
      simp [encS]
/-- A row of the call's own, whatever it holds. -/
def OwnN (w : World) (base : Nat) (v : Value) (n : Nat) : Prop := ∃ l, l.length = n ∧ Own w base 28 v l
theorem OwnN.below {w w' : World} {base n : Nat} {v : Value} (h : OwnN w base v n) (k : Below w.heap.size w w') : OwnN w' base v n := by
  obtain ⟨l, h1, h2⟩ := h; exact ⟨l, h1, h2.below k⟩
theorem OwnN.other {w : World} {base n : Nat} {v : Value} (h : OwnN w base v n) {g : Nat} (hne : v.ownBlock ≠ some g) (p : Nat) (u : Value) : OwnN (w.setCell ⟨g, p, none⟩ u) base v n := by
  obtain ⟨l, h1, h2⟩ := h
  exact ⟨l, h1, h2.kept ((But.refl g w).set p u) (.inr hne)⟩
theorem OwnN.store {w : World} {base n g c : Nat} (h : OwnN w base (.slice (some ⟨g, 0, none⟩) n c) n) (i : Nat) (hi : i < n) (t : Int) : OwnN (w.setCell ⟨g, i * 4, none⟩ (.int .i64 t)) base (.slice (some ⟨g, 0, none⟩) n c) n := by
  obtain ⟨l, h1, h2⟩ := h
  refine ⟨l.set i (t, (l[i]'(by omega)).2), by rw [List.length_set]; exact h1, ?_⟩
  subst h1
  unfold Own at *
  rw [List.length_set, ← flatS_set1 l i t hi]
  exact ownsRow_set h2 _ _
theorem OwnN.cell {w : World} {base n c : Nat} {A : Option Addr} (h : OwnN w base (.slice A n c) n) (i : Nat) (hi : i < n) : ∃ g t, A = some ⟨g, 0, none⟩ ∧ g < w.heap.size ∧ w.cell? ⟨g, i * 4, none⟩ = some (.int .i64 t) ∧ w.frozen? ⟨g, i * 4, none⟩ = false := by
  obtain ⟨l, h1, h2⟩ := h
  obtain ⟨A', c', e, hc, hA⟩ := h2.opened
  injection e with e1 _ _
  subst e1
  rcases hA with h0 | ⟨g, rfl, _, hg, hcl⟩
  · rw [h0] at h1; simp at h1; omega
  · exact ⟨g, _, rfl, hg, (hcl i (by omega)).1, h2.free _⟩
theorem Own.own {w : World} {base e : Nat} {v : Value} {l : List Smp} (h : Own w base e v l) : ∃ A c, v = .slice A l.length c := by
  obtain ⟨A, c, h, _⟩ := h.opened; exact ⟨A, c, h⟩

set_option maxRecDepth 100000 in
set_option maxHeartbeats 4000000 in
theorem own_walk (v : Value) (l : List Smp) (d : Int) (W : World) (T : Tabs W) (hR : Rd W W.heap.size v l) (hz : Nz v) :
    Calls Tryz.prog 9 #[v, .int .i64 d] W fun e w' => e = .returned (.bool true) ∧ Below W.heap.size W w' := by
  have KW := Lib.hid (awake_walk W T)
  have KT : Hid (∀ w, Below W.heap.size W w → Tabs w) := fun w h => T.below h
  have KR : Hid (∀ w, Below W.heap.size W w → Rd w w.heap.size v l) := fun w h => hR.on h
  have KY : Hid (∀ w' w'', Below W.heap.size W w' → Below w'.heap.size w' w'' → Below W.heap.size W w'') := fun w' w'' h e => h.trans (e.mono h.size)
  have HZ := Lib.hid hz
  obtain ⟨A, c, rfl, hc, -⟩ := hR
  obtain ⟨n, hn⟩ : ∃ n, n = l.length := ⟨_, rfl⟩
  rw [← hn] at KR hc HZ ⊢
  have HN := Lib.hid hn
  clear T hn hc hz
  by_cases hg : n ≤ 60
  · have g0 : (n : Int) ≤ 60 := by omega
    have HL : Hid (l.length ≤ 60) := by show _ ≤ _; rw [← HN.out]; exact hg
    have hl32 : l.length * 32 ≤ 140737488355328 := by have := HL.out; omega
    have KD : Hid (∀ w, Below W.heap.size W w → Calls Tryz.prog 20 #[.slice A n c, .int .i64 d] w fun r w' => ∃ rv, r = .returned rv ∧ Own w' w.heap.size 28 rv (dedupS d l) ∧ Below w.heap.size w w') := fun w h => ddup_walk _ l d w (KT.out w h) (KR.out w h) hl32
    have KC : Hid (∀ w, Below W.heap.size W w → Calls Tryz.prog 22 #[.slice A n c, .int .i64 0, .int .i64 1099511627776] w fun r w' => ∃ rv, r = .returned rv ∧ Own w' w.heap.size 28 rv (delS 0 1099511627776 l) ∧ Below w.heap.size w w') := fun w h => clip_walk _ l 0 1099511627776 w (KR.out w h) HZ.out hl32
    have KS : Hid (∀ w, Below W.heap.size W w → Calls Tryz.prog 16 #[.slice A n c] w fun r w' => ∃ rv, r = .returned rv ∧ Own w' w.heap.size 28 rv (sortS l) ∧ Below w.heap.size w w') := fun w h => dsort_walk _ l w (KT.out w h) (KR.out w h) hl32
    have HLd : Hid ((dedupS d l).length ≤ 60) := Nat.le_trans (dedupS_length d l) HL.out
    have HLc : Hid ((delS 0 1099511627776 l).length ≤ 60) := Nat.le_trans (delS_length _ _ l) HL.out
    have HLs : Hid ((sortS l).length ≤ 60) := Nat.le_trans (sortS_length l) HL.out
    clear hl32
    go_enter Tryz.func9, Tryz.ntmps9
    go_wp2_with fail
    refine KW.out.mono ?_
    rintro e w1 ⟨rfl, hB⟩
    have HB := Lib.hid hB
    clear hB KW
    go_wp2_with (first | (at_builtin; refine appN rfl _ _ 22 28 rfl Tryz.underlying22 info_Smp w1.heap.size (.slice none 0 0) [] _ l w1.heap.size rfl (Own.nil _ _ _) rfl (KR.out _ HB.out) ?z1 ?z2 ?z3 ?_) | fail)
    case z1 => exact HZ.out
    case z2 => have := HL.out; first | omega | (simp; omega)
    case z3 => exact Nat.le_refl _
    intro v1 w2 hown hg hloc _
    have HB2 : Hid (Below W.heap.size W w2) := KY.out _ _ HB.out ((Below.refl _ _).grown hg (Nat.le_refl _) (fun g hg' => by simp [Value.ownBlock] at hg'))
    have HRw := Lib.hid hown.rd
    clear hg hloc hown HB
    go_wp2_with fail
    refine (KD.out w2 HB2.out).mono ?_
    rintro e w3 ⟨ra, rfl, hOa, hCa⟩
    have HB3 := Lib.hid (KY.out _ _ HB2.out hCa)
    have HOa := Lib.hid hOa
    have HCa := Lib.hid hCa
    clear hOa hCa
    go_wp2_with fail
    refine (KC.out w3 HB3.out).mono ?_
    rintro e w4 ⟨rb, rfl, hOb, hCb⟩
    have HB4 := Lib.hid (KY.out _ _ HB3.out hCb)
    have HOb := Lib.hid hOb
    have HCb := Lib.hid hCb
    clear hOb hCb
    go_wp2_with fail
    refine (KS.out w4 HB4.out).mono ?_
    rintro e w5 ⟨rc, rfl, hOc, hCc⟩
    have HCc := Lib.hid hCc
    have HOc := Lib.hid hOc
    obtain ⟨Aa, ca, ea⟩ := HOa.out.own
    obtain ⟨Ab, cb, eb⟩ := HOb.out.own
    obtain ⟨Ac, cc, ec⟩ := HOc.out.own
    subst ea eb ec
    obtain ⟨na, hna⟩ : ∃ na, na = (dedupS d l).length := ⟨_, rfl⟩
    obtain ⟨nb, hnb⟩ : ∃ nb, nb = (delS 0 1099511627776 l).length := ⟨_, rfl⟩
    obtain ⟨nc, hnc⟩ : ∃ nc, nc = (sortS l).length := ⟨_, rfl⟩
    rw [← hna] at HOa HLd ⊢
    rw [← hnb] at HOb HLc ⊢
    rw [← hnc] at HOc HLs ⊢
    have hna60 : na ≤ 60 := HLd.out
    have hnb60 : nb ≤ 60 := HLc.out
    have hnc60 : nc ≤ 60 := HLs.out
    have Ra : Hid (∀ g, (Value.slice Aa na ca).ownBlock = some g → w2.heap.size ≤ g ∧ g < w3.heap.size) := fun g h => HOa.out.blk h
    have Rb : Hid (∀ g, (Value.slice Ab nb cb).ownBlock = some g → w3.heap.size ≤ g ∧ g < w4.heap.size) := fun g h => HOb.out.blk h
    have Rc : Hid (∀ g, (Value.slice Ac nc cc).ownBlock = some g → w4.heap.size ≤ g ∧ g < w5.heap.size) := fun g h => HOc.out.blk h
    have S3 : Hid (w2.heap.size ≤ w3.heap.size) := HCa.out.size
    have S4 : Hid (w3.heap.size ≤ w4.heap.size) := HCb.out.size
    have OA : Hid (OwnN w5 w2.heap.size (.slice Aa na ca) na) := ⟨_, hna.symm, (HOa.out.below HCb.out).below HCc.out⟩
    have OB : Hid (OwnN w5 w3.heap.size (.slice Ab nb cb) nb) := ⟨_, hnb.symm, HOb.out.below HCc.out⟩
    have OC : Hid (OwnN w5 w4.heap.size (.slice Ac nc cc) nc) := ⟨_, hnc.symm, HOc.out⟩
    have HB5 : Hid (Below w2.heap.size w2 w5) := (HCa.out.trans (HCb.out.mono S3.out)).trans (HCc.out.mono (Nat.le_trans S3.out S4.out))
    clear hna hnb hnc hOc hCc HOa HOb HOc HCa HCb HCc HB3 HB4
    go_wp2_with fail
    go_loopw [10] (fun i wl => ∃ k : Nat, k ≤ na ∧ i = .int .i64 k ∧ Hid (OwnN wl w2.heap.size (.slice Aa na ca) na) ∧ Hid (OwnN wl w3.heap.size (.slice Ab nb cb) nb) ∧ Hid (OwnN wl w4.heap.size (.slice Ac nc cc) nc) ∧ Hid (Below w2.heap.size w2 wl))
      (fun i _ => na - (intOf i).toNat)
    case atStart => exact ⟨0, Nat.zero_le _, rfl, OA.out, OB.out, OC.out, HB5.out⟩
    case round =>
      obtain ⟨k, hk, rfl, OA, OB, OC, HBl⟩ := hrel
      by_cases hlt : k < na
      · obtain ⟨g, t, e, hg, hcell, hfz⟩ := OA.out.cell k hlt
        subst e
        have Hg := Ra.out g rfl
        have OA2 := Lib.hid (OA.out.store k hlt (-1))
        have OB2 := Lib.hid (OB.out.other (g := g) (fun e => by have h1 := Rb.out g e; have h2 := Ra.out g rfl; omega) (k * 4) (.int .i64 (-1)))
        have OC2 := Lib.hid (OC.out.other (g := g) (fun e => by have h1 := Rc.out g e; have h2 := Ra.out g rfl; have := S4.out; omega) (k * 4) (.int .i64 (-1)))
        have HBl2 : Hid (Below w2.heap.size w2 (wr.setCell ⟨g, k * 4, none⟩ (.int .i64 (-1)))) := HBl.out.setCell (p := ⟨g, k * 4, none⟩) (Ra.out g rfl).1 _
        have g5 : (k : Int) < (na : Int) := by omega
        clear OA OB OC HBl Hg
        go_wp2_with fail
        go_roundw
        case rel => exact ⟨k + 1, by omega, by go_num, OA2.out, OB2.out, OC2.out, HBl2.out⟩
        case measure => simp [intOf]; omega
      · obtain rfl : na = k := by omega
        go_wp2_with fail
        go_loopw [11] (fun i wl => ∃ k : Nat, k ≤ nb ∧ i = .int .i64 k ∧ Hid (OwnN wl w3.heap.size (.slice Ab nb cb) nb) ∧ Hid (OwnN wl w4.heap.size (.slice Ac nc cc) nc) ∧ Hid (Below w2.heap.size w2 wl))
          (fun i _ => nb - (intOf i).toNat)
        case atStart => exact ⟨0, Nat.zero_le _, rfl, OB.out, OC.out, HBl.out⟩
        case round =>
          obtain ⟨k, hk, rfl, OB, OC, HBl⟩ := hrel
          by_cases hlt : k < nb
          · obtain ⟨g, t, e, hg, hcell, hfz⟩ := OB.out.cell k hlt
            subst e
            have OB2 := Lib.hid (OB.out.store k hlt (-1))
            have OC2 := Lib.hid (OC.out.other (g := g) (fun e => by have h1 := Rc.out g e; have h2 := Rb.out g rfl; omega) (k * 4) (.int .i64 (-1)))
            have HBl2 : Hid (Below w2.heap.size w2 (wr.setCell ⟨g, k * 4, none⟩ (.int .i64 (-1)))) := HBl.out.setCell (p := ⟨g, k * 4, none⟩) (Nat.le_trans S3.out (Rb.out g rfl).1) _
            have g5 : (k : Int) < (nb : Int) := by omega
            clear OB OC HBl
            go_wp2_with fail
            go_roundw
            case rel => exact ⟨k + 1, by omega, by go_num, OB2.out, OC2.out, HBl2.out⟩
            case measure => simp [intOf]; omega
          · obtain rfl : nb = k := by omega
            go_wp2_with fail
            go_loopw [12] (fun i wl => ∃ k : Nat, k ≤ nc ∧ i = .int .i64 k ∧ Hid (OwnN wl w4.heap.size (.slice Ac nc cc) nc) ∧ Hid (Below w2.heap.size w2 wl))
              (fun i _ => nc - (intOf i).toNat)
            case atStart => exact ⟨0, Nat.zero_le _, rfl, OC.out, HBl.out⟩
            case round =>
              obtain ⟨k, hk, rfl, OC, HBl⟩ := hrel
              by_cases hlt : k < nc
              · obtain ⟨g, t, e, hg, hcell, hfz⟩ := OC.out.cell k hlt
                subst e
                have OC2 := Lib.hid (OC.out.store k hlt (-1))
                have HBl2 : Hid (Below w2.heap.size w2 (wr.setCell ⟨g, k * 4, none⟩ (.int .i64 (-1)))) := HBl.out.setCell (p := ⟨g, k * 4, none⟩) (Nat.le_trans (Nat.le_trans S3.out S4.out) (Rc.out g rfl).1) _
                have g5 : (k : Int) < (nc : Int) := by omega
                clear OC HBl
                go_wp2_with fail
                go_roundw
                case rel => exact ⟨k + 1, by omega, by go_num, OC2.out, HBl2.out⟩
                case measure => simp [intOf]; omega
              · obtain rfl : nc = k := by omega
                have HBW := Lib.hid (KY.out _ _ HB2.out HBl.out)
                have HRl := Lib.hid (KR.out wr HBW.out)
                have HRw2 := Lib.hid (HRw.out.on HBl.out)
                go_wp2_with fail
                refine (same_yes _ _ _ _ wr HRl.out HRw2.out (by have := HL.out; omega) rfl).mono ?_
                rintro e w9 ⟨rfl, hC⟩
                have HB9 := Lib.hid (KY.out _ _ HBW.out hC)
                clear hC
                go_wp2_with fail
                go_ret
                exact ⟨rfl, HB9.out⟩
  · have h : 60 < n := by omega
    clear KR KT HN
    go_enter Tryz.func9, Tryz.ntmps9
    go_wp2_with fail
    refine KW.out.mono ?_
    rintro e w1 ⟨rfl, hB⟩
    have HB := Lib.hid hB
    clear hB KW
    go_wp2_with fail
    go_ret
    exact ⟨rfl, HB.out⟩
end Go.Proofs.YtbggdkpcgcmepaaGreatDoor
