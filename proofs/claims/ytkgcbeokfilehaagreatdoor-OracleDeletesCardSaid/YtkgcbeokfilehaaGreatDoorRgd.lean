import Derived.Test.YtkgcbeokfilehaaGreatDoorRdd
import Derived.Test.YtkgcbeokfilehaaGreatDoorPld
namespace Go.Proofs.YtkgcbeokfilehaaGreatDoor
open Go.RowKit Go.Sort

theorem nz_some (a : Addr) (n c : Nat) : Nz (.slice (some a) n c) := fun _ _ e => by injection e with e; cases e
theorem nz_nil : Nz (.slice none 0 0) := fun _ _ e => by injection e with _ _ e; exact e.symm
set_option maxRecDepth 100000 in
set_option maxHeartbeats 4000000 in
/-- eskerref15.Put. -/
theorem put_walkO (v : Value) (l : List Smp) (s : Smp) (W : World) (hR : Rd W W.heap.size v l) (hz : Nz v) (hl : l.length ≤ 100000) :
    Calls Tryz.prog 106 #[v, vS s] W fun e w' => ∃ r, e = .returned r ∧ Rd w' w'.heap.size r (putS l s) ∧ Nz r ∧ Below W.heap.size W w' ∧ (Own w' W.heap.size 54 r (putS l s) ∨ (r = v ∧ putS l s = l)) := by
  have KC : Hid (∀ a W, Calls Tryz.prog 144 #[vS a, vS s] W fun e w' => e = .returned (.int .i64 (cmpS a s)) ∧ Below W.heap.size W w') := fun a W => rcmpS_walk a s W
  obtain ⟨W0, hW0⟩ : ∃ W0, W0 = W.alloc (.cells #[.int .i64 s.1, .int .i64 s.2.1, .int .i64 s.2.2.1, .int .i64 s.2.2.2] 54) := ⟨_, rfl⟩
  have HW0 : Hid (Below W.heap.size W W0) := by show Below _ _ _; rw [hW0]; exact (Below.refl _ _).alloc (Nat.le_refl _) _
  have HS0 : Hid (Cell4 W0 W.heap.size 0 s) := by show Cell4 _ _ _ _; rw [hW0]; exact Cell4.new W s _ _ rfl
  have HR0 : Hid (Rd W0 W0.heap.size v l) := (hR.below HW0.out).mono HW0.out.size
  have HR := Lib.hid hR
  have HZ := Lib.hid hz
  obtain ⟨A, c, rfl, hc, hA⟩ := hR
  obtain ⟨n, hn⟩ : ∃ n, n = l.length := ⟨_, rfl⟩
  rw [← hn] at hc HR HR0 HZ hl ⊢
  have HN := Lib.hid hn
  have HA := Lib.hid hA
  have HC := Lib.hid hc
  have e4 : ∀ a : Smp, vS a = .agg #[.int .i64 a.1, .int .i64 a.2.1, .int .i64 a.2.2.1, .int .i64 a.2.2.2] := fun _ => rfl
  rw [e4]
  clear hz hn hA hc
  go_enter Tryz.func106, Tryz.ntmps106
  go_wp2_with fail
  rw [← hW0]
  clear hW0
  go_loopw [5] (fun i wl => ∃ k : Nat, k ≤ n ∧ i = .int .i64 k ∧ Hid (∀ i (h : i < l.length), i < k → cmpS l[i] s < 0) ∧ Hid (Cell4 wl W.heap.size 0 s) ∧ Hid (Below W.heap.size W wl))
    (fun i _ => n - (intOf i).toNat)
  case atStart => exact ⟨0, Nat.zero_le _, rfl, fun _ _ h => by omega, HS0.out, HW0.out⟩
  case round =>
    obtain ⟨k, hk, rfl, HF, HS, HB⟩ := hrel
    by_cases hlt : k < n
    · have hkl : k < l.length := by rw [← HN.out]; exact hlt
      rcases HA.out with e | ⟨b, o, e, hb, hcl⟩
      · subst e; simp at hkl
      subst e
      obtain ⟨y, hy⟩ : ∃ y, y = l[k] := ⟨_, rfl⟩
      have HY := Lib.hid hy
      have hcy : Cell4 wr b (o + k * 4) y := by rw [hy]; exact (hcl k hkl).below HB.out hb
      have HCY := Lib.hid hcy
      clear hcl hy
      obtain ⟨c0, c1, c2, c3⟩ := hcy
      obtain ⟨d0, d1, d2, d3⟩ := HS.out
      obtain ⟨cv, hcv⟩ : ∃ cv, cv = cmpS y s := ⟨_, rfl⟩
      have KC1 : Hid (∀ W, Calls Tryz.prog 144 #[.agg #[.int .i64 y.1, .int .i64 y.2.1, .int .i64 y.2.2.1, .int .i64 y.2.2.2], .agg #[.int .i64 s.1, .int .i64 s.2.1, .int .i64 s.2.2.1, .int .i64 s.2.2.2]] W fun e w' => e = .returned (.int .i64 cv) ∧ Below W.heap.size W w') := fun W => by rw [hcv]; exact KC.out y W
      have HCV := Lib.hid hcv
      clear hcv
      have g1 : (k : Int) < (n : Int) := by omega
      have KX : Hid (∀ w' w'', Below wr.heap.size wr w' → Below w'.heap.size w' w'' → Below wr.heap.size wr w'') := fun w' w'' h e => h.trans (e.mono h.size)
      have KY : Hid (∀ w', Below wr.heap.size wr w' → Cell4 w' b (o + k * 4) y ∧ Cell4 w' W.heap.size 0 s) := fun w' h => ⟨HCY.out.below h (lt_of_cell HCY.out.1), HS.out.below h (lt_of_cell HS.out.1)⟩
      have hBB : Below wr.heap.size wr wr := Below.refl _ _
      go_wp2_with fail
      go_region_held3 (fun w' => w'.cell? ⟨b, o + k * 4, none⟩ = some (.int .i64 y.1) ∧ w'.cell? ⟨b, o + k * 4 + 1, none⟩ = some (.int .i64 y.2.1) ∧ w'.cell? ⟨b, o + k * 4 + 2, none⟩ = some (.int .i64 y.2.2.1) ∧ w'.cell? ⟨b, o + k * 4 + 3, none⟩ = some (.int .i64 y.2.2.2) ∧ w'.cell? ⟨W.heap.size, 0, none⟩ = some (.int .i64 s.1) ∧ w'.cell? ⟨W.heap.size, 1, none⟩ = some (.int .i64 s.2.1) ∧ w'.cell? ⟨W.heap.size, 2, none⟩ = some (.int .i64 s.2.2.1) ∧ w'.cell? ⟨W.heap.size, 3, none⟩ = some (.int .i64 s.2.2.2) ∧ Below wr.heap.size wr w')
        (first | assumption | (have hd := Below.drew (by assumption : Below wr.heap.size wr _); exact ⟨(KY.out _ hd).1.1, (KY.out _ hd).1.2.1, (KY.out _ hd).1.2.2.1, (KY.out _ hd).1.2.2.2, (KY.out _ hd).2.1, (KY.out _ hd).2.2.1, (KY.out _ hd).2.2.2.1, (KY.out _ hd).2.2.2.2, hd⟩) | exact ⟨by assumption, by assumption, by assumption, by assumption, by assumption, by assumption, by assumption, by assumption, by assumption⟩)
        (first | (go_at_call 144; refine (KC1.out _).mono ?_; rintro e w' ⟨rfl, hN⟩; have hN2 := KX.out _ _ (by first | assumption | exact Below.drew (by assumption)) hN; obtain ⟨⟨c0', c1', c2', c3'⟩, ⟨d0', d1', d2', d3'⟩⟩ := KY.out _ hN2))
      have HB2 : Hid (Below wr.heap.size wr _) := hN2
      have HS2 : Hid (Cell4 _ W.heap.size 0 s) := ⟨d0', d1', d2', d3'⟩
      have HY2 : Hid (Cell4 _ b (o + k * 4) y) := ⟨c0', c1', c2', c3'⟩
      clear c0 c1 c2 c3 d0 d1 d2 d3 c0' c1' c2' c3' d0' d1' d2' d3' hN2 hN hBB KX KY HCY
      by_cases hc0 : cv < 0
      · have HF2 : Hid (∀ i (h : i < l.length), i < k + 1 → cmpS l[i] s < 0) := by
          intro i hi hik
          rcases (by omega : i < k ∨ i = k) with h | h
          · exact HF.out i hi h
          · subst h; rw [← HY.out, ← HCV.out]; exact hc0
        go_wp2_with fail
        go_roundw
        case rel => exact ⟨k + 1, by omega, by go_num, HF2.out, HS2.out, HB.out.trans (HB2.out.mono HB.out.size)⟩
        case measure => simp [intOf]; omega
      · have HP : Hid (putS l s = if y = s then l else l.take k ++ [s] ++ l.drop k) := by
          show _ = _
          rw [putS_at hkl HF.out (by rw [← HY.out, ← HCV.out]; exact hc0), ← HY.out]
        obtain ⟨p, hp⟩ : ∃ p, p = decide (y = s) := ⟨_, rfl⟩
        have heq : ∀ w, (binOp .eql 54 (.agg #[.int .i64 y.1, .int .i64 y.2.1, .int .i64 y.2.2.1, .int .i64 y.2.2.2]) (.agg #[.int .i64 s.1, .int .i64 s.2.1, .int .i64 s.2.2.1, .int .i64 s.2.2.2])).run Tryz.prog w = .ok (.bool p) w := fun w => hp ▸ eql_Smp y s w
        have HPd := Lib.hid hp
        obtain ⟨c0, c1, c2, c3⟩ := HY2.out
        obtain ⟨d0, d1, d2, d3⟩ := HS2.out
        clear hp
        go_wp2_with fail
        go_quiet (fail)
        obtain ⟨w3, hw3⟩ : ∃ w3, w3 = w'.drewN nq := ⟨_, rfl⟩
        rw [← hw3]
        have HB3 : Hid (Below W.heap.size W w3) := by
          show Below _ _ _
          rw [hw3]
          exact HB.out.trans ((HB2.out.trans (((Ext.refl w').drewN nq).below.mono HB2.out.size)).mono HB.out.size)
        have HS3 : Hid (Cell4 w3 W.heap.size 0 s) := by show Cell4 _ _ _ _; rw [hw3]; exact HS2.out.ext ((Ext.refl w').drewN nq).below
        clear hw3 c0 c1 c2 c3 d0 d1 d2 d3 HB2 HS2 HY2 HB HS heq
        cases p with
        | true =>
          have hys : y = s := of_decide_eq_true HPd.out.symm
          have HF2 : Hid (putS l s = l) := by show _ = _; rw [HP.out, if_pos hys]
          clear hys HPd
          go_wp2_with fail
          go_ret
          refine ⟨_, rfl, ?_, HZ.out, HB3.out, .inr ⟨rfl, HF2.out⟩⟩
          rw [HF2.out]
          exact (HR.out.below HB3.out).mono HB3.out.size
        | false =>
          have hys : ¬ y = s := of_decide_eq_false HPd.out.symm
          have HF2 : Hid (putS l s = l.take k ++ s :: l.drop k) := by show _ = _; rw [HP.out, if_neg hys]; simp
          have HR3 : Hid (Rd w3 w3.heap.size (.slice (some ⟨b, o, none⟩) n c) l) := (HR.out.below HB3.out).mono HB3.out.size
          have hkc : k < c := by have := HC.out; omega
          have hkn : k ≤ n := by omega
          have HLt : Hid ((l.take k).length ≤ 100000) := by show _ ≤ _; rw [List.length_take]; omega
          have HLd : Hid ((l.drop k).length ≤ 100000) := by show _ ≤ _; rw [List.length_drop, ← HN.out]; omega
          have HT := Lib.hid (HR3.out.cutTo HN.out hkn)
          have HD := Lib.hid (HR3.out.cutFrom HN.out hlt)
          clear hys HPd
          go_wp2_with (first | (at_builtin; refine appN rfl _ _ 50 54 rfl Tryz.underlying50 info_Smp w3.heap.size (.slice none 0 0) [] _ (l.take k) w3.heap.size rfl (Own.nil _ _ _) rfl HT.out ?z1 ?z2 ?z3 ?_) | fail)
          case z1 => exact nz_some _ _ _
          case z2 => have := HLt.out; first | omega | (simp; omega)
          case z3 => exact Nat.le_refl _
          · intro v1 w4 hown hg hloc _
            have HB4 : Hid (Below w3.heap.size w3 w4) := (Below.refl _ _).grown hg (Nat.le_refl _) (fun g hg' => by simp [Value.ownBlock] at hg')
            obtain ⟨d0, d1, d2, d3⟩ : Cell4 w4 W.heap.size 0 s := HS3.out.ext HB4.out
            clear hg hloc
            have HB5 : Hid (∀ o, Below w3.heap.size w3 (w4.alloc o)) := fun o => HB4.out.alloc HB4.out.size _
            have HBs : Hid (w3.heap.size ≤ w4.heap.size) := HB4.out.size
            go_wp2_with (first | (at_builtin; refine app1 rfl _ _ 50 54 rfl Tryz.underlying50 info_Smp w3.heap.size _ (l.take k) s rfl (hown.alloc _) w4.heap.size 0 1 rfl (Cell4.new _ s _ _ rfl) ?y1 ?y2 ?_) | fail)
            case y1 => have := HLt.out; omega
            case y2 => have := HBs.out; simp; omega
            · intro v2 w5 hown2 hg hloc
              have HB6 : Hid (Below w3.heap.size w3 w5) := (HB5.out _).grown hg (by have := HBs.out; simp; omega) (fun g hg' => (hown.blk hg').1)
              clear hg hloc hown d0 d1 d2 d3
              have HD5 : Hid (Rd w5 w5.heap.size (.slice (some ⟨b, o + k * 4, none⟩) (n - k) (c - k)) (l.drop k)) := (HD.out.below HB6.out).mono HB6.out.size
              go_wp2_with (first | (at_builtin; refine appN rfl _ _ 50 54 rfl Tryz.underlying50 info_Smp w3.heap.size _ (l.take k ++ [s]) _ (l.drop k) w5.heap.size rfl hown2 rfl HD5.out ?x1 ?x2 ?x3 ?_) | fail)
              case x1 => exact nz_some _ _ _
              case x2 => have := HLt.out; have := HLd.out; simp only [List.length_append, List.length_singleton]; omega
              case x3 => exact HB6.out.size
              · intro v3 w6 hown3 hg hloc _
                have HB7 : Hid (Below w3.heap.size w3 w6) := HB6.out.grown hg HB6.out.size (fun g hg' => (hown2.blk hg').1)
                have HO := Lib.hid hown3
                clear hg hloc hown2 hown3
                go_wp2_with fail
                go_ret
                exact ⟨_, rfl, HF2.out ▸ HO.out.rd, HO.out.nz, HB3.out.trans (HB7.out.mono HB3.out.size), .inl (HF2.out ▸ HO.out.lower HB3.out.size)⟩
    · obtain rfl : n = k := by omega
      have HF2 : Hid (putS l s = l ++ [s]) := putS_end fun i hi => HF.out i hi (by rw [HN.out]; exact hi)
      have g1 : decide ((n : Int) < (n : Int)) = false := by simp
      have hcn : n ≤ c := HC.out
      go_wp2_with fail
      go_quiet (fail)
      obtain ⟨w1, hw1⟩ : ∃ w1, w1 = wr.drewN nq := ⟨_, rfl⟩
      rw [← hw1]
      have HE1 : Hid (Ext wr w1) := by show Ext _ _; rw [hw1]; exact (Ext.refl wr).drewN nq
      clear hw1
      go_wp2_with fail
      go_quiet (fail)
      obtain ⟨w3, hw3⟩ : ∃ w3, w3 = w1.drewN nq := ⟨_, rfl⟩
      rw [← hw3]
      have HB3 : Hid (Below W.heap.size W w3) := by
        show Below _ _ _
        rw [hw3]
        exact HB.out.trans ((HE1.out.trans ((Ext.refl w1).drewN nq)).below.mono HB.out.size)
      have HS3 : Hid (Cell4 w3 W.heap.size 0 s) := by show Cell4 _ _ _ _; rw [hw3]; exact HS.out.ext (HE1.out.trans ((Ext.refl w1).drewN nq)).below
      clear hw3 HE1 HB HS HF
      have HR3 : Hid (Rd w3 w3.heap.size (.slice A n c) l) := (HR.out.below HB3.out).mono HB3.out.size
      have HLt : Hid (l.length ≤ 100000) := by show _ ≤ _; rw [← HN.out]; exact hl
      go_wp2_with (first | (at_builtin; refine appN rfl _ _ 50 54 rfl Tryz.underlying50 info_Smp w3.heap.size (.slice none 0 0) [] _ l w3.heap.size rfl (Own.nil _ _ _) rfl HR3.out ?z1 ?z2 ?z3 ?_) | fail)
      case z1 => exact HZ.out
      case z2 => have := HLt.out; first | omega | (simp; omega)
      case z3 => exact Nat.le_refl _
      · intro v1 w4 hown hg hloc _
        have HB4 : Hid (Below w3.heap.size w3 w4) := (Below.refl _ _).grown hg (Nat.le_refl _) (fun g hg' => by simp [Value.ownBlock] at hg')
        obtain ⟨d0, d1, d2, d3⟩ : Cell4 w4 W.heap.size 0 s := HS3.out.ext HB4.out
        clear hg hloc
        have HB5 : Hid (∀ o, Below w3.heap.size w3 (w4.alloc o)) := fun o => HB4.out.alloc HB4.out.size _
        have HBs : Hid (w3.heap.size ≤ w4.heap.size) := HB4.out.size
        go_wp2_with (first | (at_builtin; refine app1 rfl _ _ 50 54 rfl Tryz.underlying50 info_Smp w3.heap.size _ l s rfl (hown.alloc _) w4.heap.size 0 1 rfl (Cell4.new _ s _ _ rfl) ?y1 ?y2 ?_) | fail)
        case y1 => have := HLt.out; omega
        case y2 => have := HBs.out; simp; omega
        · intro v2 w5 hown2 hg hloc
          have HB6 : Hid (Below w3.heap.size w3 w5) := (HB5.out _).grown hg (by have := HBs.out; simp; omega) (fun g hg' => (hown.blk hg').1)
          clear hg hloc hown d0 d1 d2 d3
          have HO2 := Lib.hid hown2
          clear hown2
          cases A with
          | none =>
            have hc0 : c = 0 := HZ.out _ _ rfl
            have hn0 : n = 0 := by omega
            subst hc0
            clear hcn g1
            subst hn0
            go_wp2_with (first | (at_builtin; refine appN rfl _ _ 50 54 rfl Tryz.underlying50 info_Smp w3.heap.size _ (l ++ [s]) _ [] w5.heap.size rfl HO2.out rfl ?x0 ?x1 ?x2 ?x3 ?_) | fail)
            case x0 => exact ⟨_, _, rfl, Nat.zero_le _, .inl rfl⟩
            case x1 => exact nz_nil
            case x2 => have := HLt.out; simp; omega
            case x3 => exact HB6.out.size
            · intro v3 w6 hown3 hg hloc _
              have HB7 : Hid (Below w3.heap.size w3 w6) := HB6.out.grown hg HB6.out.size (fun g hg' => (HO2.out.blk hg').1)
              have HO := Lib.hid hown3
              clear hg hloc hown3
              go_wp2_with fail
              go_ret
              exact ⟨_, rfl, HF2.out ▸ HO.out.rd, HO.out.nz, HB3.out.trans (HB7.out.mono HB3.out.size), .inl (HF2.out ▸ HO.out.lower HB3.out.size)⟩
          | some ad =>
            rcases Nat.lt_or_ge n c with hlt2 | hge2
            · go_wp2_with (first | (at_builtin; refine appN rfl _ _ 50 54 rfl Tryz.underlying50 info_Smp w3.heap.size _ (l ++ [s]) _ [] w5.heap.size rfl HO2.out rfl ?x0 ?x1 ?x2 ?x3 ?_) | fail)
              case x0 => exact ⟨_, _, rfl, Nat.zero_le _, .inl rfl⟩
              case x1 => exact nz_some _ _ _
              case x2 => have := HLt.out; simp; omega
              case x3 => exact HB6.out.size
              · intro v3 w6 hown3 hg hloc _
                have HB7 : Hid (Below w3.heap.size w3 w6) := HB6.out.grown hg HB6.out.size (fun g hg' => (HO2.out.blk hg').1)
                have HO := Lib.hid hown3
                clear hg hloc hown3
                go_wp2_with fail
                go_ret
                exact ⟨_, rfl, HF2.out ▸ HO.out.rd, HO.out.nz, HB3.out.trans (HB7.out.mono HB3.out.size), .inl (HF2.out ▸ HO.out.lower HB3.out.size)⟩
            · obtain rfl : n = c := by omega
              clear hge2 hlt hk hcn
              go_wp2_with (first | (at_builtin; refine appN rfl _ _ 50 54 rfl Tryz.underlying50 info_Smp w3.heap.size _ (l ++ [s]) _ [] w5.heap.size rfl HO2.out rfl ?x0 ?x1 ?x2 ?x3 ?_) | fail)
              case x0 => exact ⟨_, _, rfl, Nat.zero_le _, .inl rfl⟩
              case x1 => exact nz_some _ _ _
              case x2 => have := HLt.out; simp; omega
              case x3 => exact HB6.out.size
              · intro v3 w6 hown3 hg hloc _
                have HB7 : Hid (Below w3.heap.size w3 w6) := HB6.out.grown hg HB6.out.size (fun g hg' => (HO2.out.blk hg').1)
                have HO := Lib.hid hown3
                clear hg hloc hown3
                go_wp2_with fail
                go_ret
                exact ⟨_, rfl, HF2.out ▸ HO.out.rd, HO.out.nz, HB3.out.trans (HB7.out.mono HB3.out.size), .inl (HF2.out ▸ HO.out.lower HB3.out.size)⟩
end Go.Proofs.YtkgcbeokfilehaaGreatDoor

namespace Go.Proofs.YtkgcbeokfilehaaGreatDoor
open Go.RowKit Go.Sort
/-- The last one of each run of one interval. -/
def lasts (d : Int) : List Smp → List Smp
  | [] => []
  | [a] => [a]
  | a :: b :: l => if ivl a.1 d = ivl b.1 d then lasts d (b :: l) else a :: lasts d (b :: l)
theorem fold_lasts (d : Int) (l : List Smp) : ∀ (r : List Smp) (a : Smp), l.foldl (stepD d) (r ++ [a]) = r ++ lasts d (a :: l) := by
  induction l with
  | nil => intro r a; rfl
  | cons b l ih =>
    intro r a
    rw [List.foldl_cons]
    have ha : alike d (r ++ [a]) b = (ivl a.1 d == ivl b.1 d) := by unfold alike; simp
    by_cases h : ivl a.1 d = ivl b.1 d
    · have hs : stepD d (r ++ [a]) b = r ++ [b] := by
        unfold stepD; rw [ha, if_pos (by simp [h]), List.dropLast_concat]
      have hl : lasts d (a :: b :: l) = lasts d (b :: l) := by rw [lasts, if_pos h]
      rw [hs, hl]; exact ih r b
    · have hs : stepD d (r ++ [a]) b = r ++ [a] ++ [b] := by
        unfold stepD; rw [ha, if_neg (by simp [h])]
      have hl : lasts d (a :: b :: l) = a :: lasts d (b :: l) := by rw [lasts, if_neg h]
      rw [hs, hl, ih (r ++ [a]) b]
      simp
theorem dedupS_lasts (d : Int) (l : List Smp) : dedupS d l = lasts d (sortS l) := by
  unfold dedupS
  cases sortS l with
  | nil => rfl
  | cons a s => exact fold_lasts d s [] a
theorem lasts_sub (d : Int) : ∀ s : List Smp, (lasts d s).Sublist s
  | [] => List.Sublist.refl _
  | [a] => List.Sublist.refl _
  | a :: b :: l => by
    unfold lasts
    split
    · exact (lasts_sub d (b :: l)).cons _
    · exact (lasts_sub d (b :: l)).cons_cons _
theorem ivl_mono (d : Int) {t u : Int} (h : t ≤ u) : ivl t d ≤ ivl u d := by
  obtain ⟨n1, _⟩ := ivN_bd d
  have : ivT t ≤ ivT u := by unfold ivT; split <;> split <;> (try split) <;> (try split) <;> omega
  unfold ivl
  exact Int.ediv_le_ediv (by omega) (by omega)
theorem leS_t {a b : Smp} (h : ¬ ltS b a) : a.1 ≤ b.1 := by unfold ltS at h; omega
theorem lasts_strict (d : Int) : ∀ s : List Smp, s.Pairwise (fun a b => ¬ ltS b a) → (lasts d s).Pairwise (fun a b => ivl a.1 d < ivl b.1 d)
  | [], _ => List.Pairwise.nil
  | [a], _ => List.pairwise_singleton _ _
  | a :: b :: l, h => by
    have p := List.pairwise_cons.1 h
    have ih := lasts_strict d (b :: l) p.2
    unfold lasts
    split
    · exact ih
    · rename_i hne
      refine List.pairwise_cons.2 ⟨fun c hc => ?_, ih⟩
      have hcb := (lasts_sub d (b :: l)).subset hc
      have h1 := ivl_mono d (leS_t (p.1 b List.mem_cons_self))
      have h2 : ivl b.1 d ≤ ivl c.1 d := by
        rcases List.mem_cons.1 hcb with e | hcl
        · rw [e]; exact Int.le_refl _
        · exact ivl_mono d (leS_t ((List.pairwise_cons.1 p.2).1 c hcl))
      omega
end Go.Proofs.YtkgcbeokfilehaaGreatDoor

namespace Go.Proofs.YtkgcbeokfilehaaGreatDoor
open Go.RowKit Go.Sort
end Go.Proofs.YtkgcbeokfilehaaGreatDoor
