import Derived.Test.YtkgcbeokfilehaaGreatDoorRovd
namespace Go.Proofs.YtkgcbeokfilehaaGreatDoor
open Go.RowKit Go.Sort Go.Shelf

set_option maxHeartbeats 1000000 in
theorem dsort_walk (v : Value) (l : List Smp) (W : World) (T : Tabs W) (hR : Rd W W.heap.size v l) (hn : l.length * 32 ≤ 140737488355328) :
    Calls Tryz.prog 72 #[v] W fun e w' => ∃ r, e = .returned r ∧ Own w' W.heap.size 54 r (sortS l) ∧ Below W.heap.size W w' := by
  obtain ⟨A, c, rfl, hc, hA⟩ := hR
  obtain ⟨n, HL⟩ : ∃ n, Hid (n = l.length) := ⟨_, rfl⟩
  rw [← HL.out] at hn hc ⊢
  have HA : Hid (l = [] ∨ ∃ b o, A = some ⟨b, o, none⟩ ∧ b < W.heap.size ∧ ∀ i (h : i < l.length), Cell4 W b (o + i * 4) l[i]) := hA
  have HT : Hid (Tabs W) := T
  clear hA T hc
  have KR := Lib.hid (fun (y : Smp) W => dright_walk y W)
  go_enter Tryz.func72, Tryz.ntmps72
  go_wp2
  go_loopw [3, 11] (fun v i wl => ∃ k : Nat, k ≤ n ∧ i = .int .i64 k ∧ Own wl W.heap.size 138 v ((l.take k).filter rightS) ∧ Hid (Below W.heap.size W wl))
    (fun _ i _ => n - (intOf i).toNat)
  case atStart => exact ⟨0, Nat.zero_le _, rfl, Own.nil _ _ _, Below.refl _ _⟩
  case round =>
    obtain ⟨k, hk, rfl, hown, HB⟩ := hrel
    by_cases hlt : k < n
    · have hl : k < l.length := by rw [← HL.out]; exact hlt
      rcases HA.out with h0 | ⟨b, o, e, hb, hcl⟩
      · subst h0; simp at hl
      subst e
      obtain ⟨y, hy⟩ : ∃ y, y = l[k] := ⟨_, rfl⟩
      have HY : Hid (y = l[k]) := hy
      clear hy
      have hcy : Cell4 wr b (o + k * 4) y := by rw [HY.out]; exact (hcl k hl).below HB.out hb
      have HF : Hid ((l.take (k + 1)).filter rightS = (l.take k).filter rightS ++ [y].filter rightS) := by
        show _ = _
        rw [List.take_succ_eq_append_getElem hl, List.filter_append, ← HY.out]
      have HN : Hid (((l.take k).filter rightS).length ≤ k) := Nat.le_trans (List.length_filter_le _ _) (by rw [List.length_take]; omega)
      obtain ⟨c0, c1, c2, c3⟩ := hcy
      obtain ⟨l1, hl1⟩ : ∃ l1, l1 = (l.take k).filter rightS := ⟨_, rfl⟩
      rw [← hl1] at hown HF HN
      clear hl1 hcl
      have hB1 : Hid (Below W.heap.size W (wr.alloc (.cells #[.int .i64 y.1, .int .i64 y.2.1, .int .i64 y.2.2.1, .int .i64 y.2.2.2] 54))) := HB.out.alloc HB.out.size _
      have HBx : Hid (∀ w', Ext (wr.alloc (.cells #[.int .i64 y.1, .int .i64 y.2.1, .int .i64 y.2.2.1, .int .i64 y.2.2.2] 54)) w' → Below W.heap.size W w') := fun w' hE => hB1.out.trans (hE.below.mono (by have := HB.out.size; simp; omega))
      have n0 : (wr.alloc (.cells #[.int .i64 y.1, .int .i64 y.2.1, .int .i64 y.2.2.1, .int .i64 y.2.2.2] 54)).cell? ⟨wr.heap.size, 0, none⟩ = some (.int .i64 y.1) := by simp
      have n1 : (wr.alloc (.cells #[.int .i64 y.1, .int .i64 y.2.1, .int .i64 y.2.2.1, .int .i64 y.2.2.2] 54)).cell? ⟨wr.heap.size, 1, none⟩ = some (.int .i64 y.2.1) := by simp
      have n2 : (wr.alloc (.cells #[.int .i64 y.1, .int .i64 y.2.1, .int .i64 y.2.2.1, .int .i64 y.2.2.2] 54)).cell? ⟨wr.heap.size, 2, none⟩ = some (.int .i64 y.2.2.1) := by simp
      have n3 : (wr.alloc (.cells #[.int .i64 y.1, .int .i64 y.2.1, .int .i64 y.2.2.1, .int .i64 y.2.2.2] 54)).cell? ⟨wr.heap.size, 3, none⟩ = some (.int .i64 y.2.2.2) := by simp
      have HO : Hid (Own wr W.heap.size 138 u3 l1) := hown
      clear hown
      go_wp2_with fail
      refine (KR.out y _).mono ?_
      rintro e w1 ⟨rfl, hE⟩
      have hown1 := (HO.out.alloc (.cells #[.int .i64 y.1, .int .i64 y.2.1, .int .i64 y.2.2.1, .int .i64 y.2.2.2] 54)).below hE.below
      have hB2 := HBx.out w1 hE
      have m0 := hE.cell_some n0
      have m1 := hE.cell_some n1
      have m2 := hE.cell_some n2
      have m3 := hE.cell_some n3
      clear n0 n1 n2 n3 hB1 HBx c0 c1 c2 c3 HO
      cases hr : rightS y with
      | false =>
        have HF2 : Hid ((l.take (k + 1)).filter rightS = l1) := by
          show _ = _
          rw [HF.out]; simp [hr]
        clear hE
        go_wp2_with fail
        go_roundw
        case rel => exact ⟨k + 1, by omega, by go_num, HF2.out ▸ hown1, hB2⟩
        case measure => simp [intOf]; omega
      | true =>
        have HF2 : Hid ((l.take (k + 1)).filter rightS = l1 ++ [y]) := by
          show _ = _
          rw [HF.out]; simp [hr]
        go_wp2_with (first | (at_builtin; refine app1 rfl _ _ 137 138 rfl Tryz.underlying137 info_smp W.heap.size _ l1 y rfl (hown1.alloc _) w1.heap.size 0 1 rfl (Cell4.new _ y _ _ rfl) ?c1 ?c2 ?_) | fail)
        case c1 => have := HN.out; omega
        case c2 => have := hB2.size; simp; omega
        · intro v' w2 hown2 hg hloc
          go_wp2_with fail
          go_roundw
          case rel => exact ⟨k + 1, by omega, by go_num, HF2.out ▸ hown2, (hB2.alloc hB2.size _).grown hg (by have := hB2.size; simp; omega) (fun g hg' => (hown1.blk hg').1)⟩
          case measure => simp [intOf]; omega
    · have he : k = n := by omega
      subst he
      rw [HL.out, List.take_length] at hown
      obtain ⟨d, hd⟩ : ∃ d, d = l.filter rightS := ⟨_, rfl⟩
      have HD : Hid (d = l.filter rightS) := hd
      have Hdl : Hid (d.length ≤ k) := by show _ ≤ _; rw [hd, HL.out]; exact List.length_filter_le _ _
      rw [← hd] at hown
      clear hd
      have KS := Lib.hid (sort_any u3 d W wr HT.out HB.out hown (by have := Hdl.out; omega))
      clear hown
      go_wp2_with fail
      refine KS.out.mono ?_
      rintro e w2 ⟨rfl, ⟨AO, co, rfl, hco, hO⟩, hB2⟩
      have HB2 : Hid (Below W.heap.size W w2) := HB.out.trans hB2
      obtain ⟨s, hs⟩ : ∃ s, s = (sortA d.toArray).toList := ⟨_, rfl⟩
      have HS : Hid (s = (sortA d.toArray).toList) := hs
      have Hsl : Hid (s.length ≤ k) := by show _ ≤ _; rw [hs, Array.length_toList, sortA_size]; simpa using Hdl.out
      rw [← hs] at hO hco
      rw [← hs]
      obtain ⟨m, HM⟩ : ∃ m, Hid (m = s.length) := ⟨_, rfl⟩
      rw [← HM.out] at hco ⊢
      have HO : Hid (s = [] ∨ ∃ b o, AO = some ⟨b, o, none⟩ ∧ b < w2.heap.size ∧ ∀ i (h : i < s.length), Cell4 w2 b (o + i * 4) s[i]) := hO
      clear hs hO hco hB2 KS KR HA HB
      go_wp2_with fail
      go_loopw [6, 26] (fun v i wl => ∃ k : Nat, k ≤ m ∧ i = .int .i64 k ∧ Own wl w2.heap.size 54 v (ded none (s.take k)) ∧ Hid (Below w2.heap.size w2 wl))
        (fun _ i _ => m - (intOf i).toNat)
      case atStart => exact ⟨0, Nat.zero_le _, rfl, Own.nil _ _ _, Below.refl _ _⟩
      case round =>
        obtain ⟨j, hj, rfl, hown, HBj⟩ := hrel
        by_cases hlj : j < m
        · have hl : j < s.length := by rw [← HM.out]; exact hlj
          rcases HO.out with h0 | ⟨b, o, e, hb, hcl⟩
          · subst h0; simp at hl
          subst e
          obtain ⟨y, hy⟩ : ∃ y, y = s[j] := ⟨_, rfl⟩
          have HY : Hid (y = s[j]) := hy
          clear hy
          have hcy : Cell4 wr b (o + j * 4) y := by rw [HY.out]; exact (hcl j hl).below HBj.out hb
          obtain ⟨c0, c1, c2, c3⟩ := hcy
          obtain ⟨r1, hr1⟩ : ∃ r1, r1 = ded none (s.take j) := ⟨_, rfl⟩
          have HR1 : Hid (r1 = ded none (s.take j)) := hr1
          rw [← hr1] at hown
          clear hr1
          have HO2 : Hid (Own wr w2.heap.size 54 u6 r1) := hown
          clear hown
          go_wp2_with fail
          have HE : Hid (∀ n, Ext wr ((wr.alloc (.cells #[.int .i64 y.1, .int .i64 y.2.1, .int .i64 y.2.2.1, .int .i64 y.2.2.2] 138)).drewN n)) := fun n => ((Ext.refl wr).alloc _).drewN n
          have HBn : Hid (∀ n, Below w2.heap.size w2 ((wr.alloc (.cells #[.int .i64 y.1, .int .i64 y.2.1, .int .i64 y.2.2.1, .int .i64 y.2.2.2] 138)).drewN n)) := fun n => HBj.out.trans ((HE.out n).below.mono HBj.out.size)
          have HL2 : Hid (r1.length ≤ j) := by
            show _ ≤ _
            rw [HR1.out]
            exact Nat.le_trans (ded_length _ _) (by rw [List.length_take]; omega)
          have HC : Hid (∀ n, Cell4 ((wr.alloc (.cells #[.int .i64 y.1, .int .i64 y.2.1, .int .i64 y.2.2.1, .int .i64 y.2.2.2] 138)).drewN n) wr.heap.size 0 y) := fun n => Cell4.new wr y _ _ rfl
          rcases Nat.eq_zero_or_pos j with h0 | h0
          · have HF : Hid (ded none (s.take (j + 1)) = r1 ++ [y]) := by
              rw [HR1.out]
              have hy := HY.out
              show _ = _
              clear HO2 HR1 HL2
              subst h0; exact ded_take_zero s y hl hy
            have g0 : ((j : Int) == 0) = true := by simp; omega
            go_quiet (fail)
            obtain ⟨wq, hwq⟩ : ∃ wq, wq = (wr.alloc (.cells #[.int .i64 y.1, .int .i64 y.2.1, .int .i64 y.2.2.1, .int .i64 y.2.2.2] 138)).drewN nq := ⟨_, rfl⟩
            rw [← hwq]
            have HCq : Cell4 wq wr.heap.size 0 y := hwq ▸ HC.out nq
            have HOq : Own wq w2.heap.size 54 u6 r1 := HO2.out.below (hwq ▸ (HE.out nq).below)
            have HBq : Hid (Below w2.heap.size w2 wq) := hwq ▸ HBn.out nq
            clear hwq HE HBn HC c0 c1 c2 c3 hcl HO2 g0
            obtain ⟨c0, c1, c2, c3⟩ := HCq
            go_wp2_with (first | (at_builtin; refine app1 rfl _ _ 50 54 rfl Tryz.underlying50 info_Smp w2.heap.size _ r1 y rfl (HOq.alloc _) wq.heap.size 0 1 rfl (Cell4.new _ y _ _ rfl) ?c1 ?c2 ?_) | fail)
            case c1 => have := HL2.out; have := Hsl.out; have := HM.out; omega
            case c2 => have := HBq.out.size; simp; omega
            · intro v' w3 hown3 hg hloc
              go_wp2_with fail
              go_roundw
              case rel => exact ⟨j + 1, by omega, by go_num, HF.out ▸ hown3, (HBq.out.alloc HBq.out.size _).grown hg (by have := HBq.out.size; simp; omega) (fun g hg' => (HOq.blk hg').1)⟩
              case measure => simp [intOf]; omega
          · obtain ⟨i, hi⟩ : ∃ i, i = j - 1 := ⟨_, rfl⟩
            have hi1 : i < s.length := by omega
            obtain ⟨p, hp⟩ : ∃ p, p = s[i] := ⟨_, rfl⟩
            have hcp : Cell4 wr b (o + i * 4) p := by rw [hp]; exact (hcl i hi1).below HBj.out hb
            have HF : Hid (ded none (s.take (j + 1)) = r1 ++ if p = y then [] else [y]) := by
              rw [HR1.out]
              have hj : j = i + 1 := by omega
              subst hj
              exact ded_take_succ s i p y hl hp HY.out
            clear hp
            obtain ⟨d0, d1, d2, d3⟩ := hcp
            obtain ⟨q, hq⟩ : ∃ q, q = decide (p = y) := ⟨_, rfl⟩
            have hne : ∀ w, (binOp .neq 138 (.agg #[.int .i64 p.1, .int .i64 p.2.1, .int .i64 p.2.2.1, .int .i64 p.2.2.2]) (.agg #[.int .i64 y.1, .int .i64 y.2.1, .int .i64 y.2.2.1, .int .i64 y.2.2.2])).run Tryz.prog w = .ok (.bool (!q)) w := fun w => hq ▸ neq_smp p y w
            have HQ : Hid (q = decide (p = y)) := hq
            clear hq
            have g0 : ((j : Int) == 0) = false := by simp; omega
            have g1 : IntKind.i64.wrap ((j : Int) - 1) = (i : Int) := by
              have := HM.out
              have := Hsl.out
              rw [IntWalk.i64_in _ (by omega)]; omega
            have g2 : (i : Int) < (m : Int) := by omega
            clear hi
            obtain ⟨wa, hwa⟩ : ∃ wa, wa = (wr.alloc (.cells #[.int .i64 y.1, .int .i64 y.2.1, .int .i64 y.2.2.1, .int .i64 y.2.2.2] 138)) := ⟨_, rfl⟩
            rw [← hwa]
            have hEa : Ext wr wa := by rw [hwa]; exact (Ext.refl wr).alloc _
            have e0 := hEa.cell_some d0
            have e1 := hEa.cell_some d1
            have e2 := hEa.cell_some d2
            have e3 := hEa.cell_some d3
            have f0 : wa.cell? ⟨wr.heap.size, 0, none⟩ = some (.int .i64 y.1) := by rw [hwa]; simp
            have f1 : wa.cell? ⟨wr.heap.size, 1, none⟩ = some (.int .i64 y.2.1) := by rw [hwa]; simp
            have f2 : wa.cell? ⟨wr.heap.size, 2, none⟩ = some (.int .i64 y.2.2.1) := by rw [hwa]; simp
            have f3 : wa.cell? ⟨wr.heap.size, 3, none⟩ = some (.int .i64 y.2.2.2) := by rw [hwa]; simp
            rw [← hwa] at HE HBn HC
            clear hwa
            go_quiet (fail)
            obtain ⟨wq, hwq⟩ : ∃ wq, wq = wa.drewN nq := ⟨_, rfl⟩
            rw [← hwq]
            have HCq : Cell4 wq wr.heap.size 0 y := hwq ▸ HC.out nq
            have HOq : Own wq w2.heap.size 54 u6 r1 := HO2.out.below (hwq ▸ (HE.out nq).below)
            have HBq : Hid (Below w2.heap.size w2 wq) := hwq ▸ HBn.out nq
            clear hwq HE HBn HC c0 c1 c2 c3 hcl HO2 g0 d0 d1 d2 d3 e0 e1 e2 e3 f0 f1 f2 f3 hne g1 g2 hEa
            have hmk : m ≤ k := by have := HM.out; have := Hsl.out; omega
            cases q with
            | true =>
              have hpy : p = y := of_decide_eq_true HQ.out.symm
              have HF2 : Hid (ded none (s.take (j + 1)) = r1) := by
                show _ = _
                rw [HF.out, if_pos hpy, List.append_nil]
              clear HF hpy HQ
              go_wp2_with fail
              go_roundw
              case rel => exact ⟨j + 1, by omega, by go_num, HF2.out ▸ HOq, HBq⟩
              case measure => simp [intOf]; omega
            | false =>
              have HF2 : Hid (ded none (s.take (j + 1)) = r1 ++ [y]) := by
                show _ = _
                rw [HF.out, if_neg (of_decide_eq_false HQ.out.symm)]
              clear HF HQ
              obtain ⟨c0, c1, c2, c3⟩ := HCq
              go_wp2_with (first | (at_builtin; refine app1 rfl _ _ 50 54 rfl Tryz.underlying50 info_Smp w2.heap.size _ r1 y rfl (HOq.alloc _) wq.heap.size 0 1 rfl (Cell4.new _ y _ _ rfl) ?c1 ?c2 ?_) | fail)
              case c1 => have := HL2.out; have := Hsl.out; have := HM.out; omega
              case c2 => have := HBq.out.size; simp; omega
              · intro v' w3 hown3 hg hloc
                go_wp2_with fail
                go_roundw
                case rel => exact ⟨j + 1, by omega, by go_num, HF2.out ▸ hown3, (HBq.out.alloc HBq.out.size _).grown hg (by have := HBq.out.size; simp; omega) (fun g hg' => (HOq.blk hg').1)⟩
                case measure => simp [intOf]; omega
        · have hjm : j = m := by omega
          have HX : Hid (ded none (s.take j) = sortS l) := by
            show _ = _
            rw [hjm, HM.out, List.take_length, HS.out, HD.out]; rfl
          have HO3 : Hid (Own wr w2.heap.size 54 u6 (sortS l)) := HX.out ▸ hown
          clear hown
          go_wp2_with fail
          go_ret
          exact ⟨_, rfl, HO3.out.lower HB2.out.size, HB2.out.trans (HBj.out.mono HB2.out.size)⟩
end Go.Proofs.YtkgcbeokfilehaaGreatDoor

namespace Go.Proofs.YtkgcbeokfilehaaGreatDoor
open Go.RowKit Go.Sort

/-- Does the last one lie in the interval of this one? -/
def alike (d : Int) (r : List Smp) (s : Smp) : Bool := match r.getLast? with | none => false | some a => ivl a.1 d == ivl s.1 d

set_option maxHeartbeats 1000000 in
theorem alike_walk (s : Smp) (d : Int) (v : Value) (r : List Smp) (w : World) (po pd : Nat) (ho : w.cell? ⟨po, 0, none⟩ = some v) (hd : w.cell? ⟨pd, 0, none⟩ = some (.int .i64 d)) (hO : Rd w w.heap.size v r)
    (hl : r.length ≤ 4611686018427387904) :
    Calls Tryz.prog 70 #[vS s, .pointer (some ⟨po, 0, none⟩), .pointer (some ⟨pd, 0, none⟩)] w fun e w' => e = .returned (.bool (alike d r s)) ∧ Ext w w' := by
  obtain ⟨A, c, rfl, hc, hA⟩ := hO
  have KI := Lib.hid (fun (t : Int) W => ivl_walk t d W)
  unfold vS
  rcases Nat.eq_zero_or_pos r.length with h0 | h0
  · have hr : r = [] := List.eq_nil_of_length_eq_zero h0
    subst hr
    clear KI hA h0
    simp only [alike, List.getLast?_nil]
    have hpo := lt_of_cell ho
    have hE : Ext w (w.alloc (.cells #[.int .i64 s.1, .int .i64 s.2.1, .int .i64 s.2.2.1, .int .i64 s.2.2.2] 54)) := (Ext.refl w).alloc _
    have HE : Hid (Ext w (w.alloc (.cells #[.int .i64 s.1, .int .i64 s.2.1, .int .i64 s.2.2.1, .int .i64 s.2.2.2] 54))) := hE
    obtain ⟨w1, hw1⟩ : ∃ w1, w1 = w.alloc (.cells #[.int .i64 s.1, .int .i64 s.2.1, .int .i64 s.2.2.1, .int .i64 s.2.2.2] 54) := ⟨_, rfl⟩
    go_enter Tryz.func70, Tryz.ntmps70
    go_wp2_with fail
    rw [← hw1] at HE hE ⊢
    have ho1 := hE.cell_some ho
    clear hw1 hE
    go_quiet (fail)
    go_wp2_with fail
    go_ret
    exact ⟨rfl, HE.out.drewN nq⟩
  · obtain ⟨b, o, rfl, hb, hcl⟩ : ∃ b o, A = some ⟨b, o, none⟩ ∧ b < w.heap.size ∧ ∀ i (h : i < r.length), Cell4 w b (o + i * 4) r[i] := by
      rcases hA with rfl | h
      · simp at h0
      · exact h
    clear hA
    obtain ⟨n, hn⟩ : ∃ n, n = r.length := ⟨_, rfl⟩
    obtain ⟨i, hi⟩ : ∃ i, i = r.length - 1 := ⟨_, rfl⟩
    have hir : i < r.length := by omega
    obtain ⟨a, ha⟩ : ∃ a, a = r[i] := ⟨_, rfl⟩
    have hfin : alike d r s = (ivl a.1 d == ivl s.1 d) := by
      unfold alike
      have : r.getLast? = some a := by rw [List.getLast?_eq_getElem?, ← hi, List.getElem?_eq_getElem hir, ha]
      rw [this]
    rw [hfin]
    obtain ⟨d0, -⟩ := hcl i hir
    rw [← ha] at d0
    rw [← hn] at hc ho hl h0 hi
    have g1 : IntKind.i64.wrap ((n : Int) - 1) = (i : Int) := by rw [IntWalk.i64_in _ (by omega)]; omega
    have g2 : (i : Int) < (n : Int) := by omega
    have g3 : (0 : Int) < (n : Int) := by omega
    obtain ⟨w1, hw1⟩ : ∃ w1, w1 = w.alloc (.cells #[.int .i64 s.1, .int .i64 s.2.1, .int .i64 s.2.2.1, .int .i64 s.2.2.2] 54) := ⟨_, rfl⟩
    have hE : Ext w w1 := by rw [hw1]; exact (Ext.refl w).alloc _
    have HE : Hid (Ext w w1) := hE
    have f0 : w1.cell? ⟨w.heap.size, 0, none⟩ = some (.int .i64 s.1) := by rw [hw1]; simp
    have HN : Hid (n = r.length) := hn
    clear hcl ha hn hir hi hfin hc hb
    go_enter Tryz.func70, Tryz.ntmps70
    go_wp2_with fail
    rw [← hw1]
    have ho1 := hE.cell_some ho
    have hd1 := hE.cell_some hd
    have e0 := hE.cell_some d0
    clear hw1 hE ho hd d0
    go_quiet ((go_at_call 71; exact quiet_left (KI.out _ _)))
    go_wp2_with fail
    go_ret
    exact ⟨ret_bool (by simp), HE.out.drewN nq⟩
end Go.Proofs.YtkgcbeokfilehaaGreatDoor

namespace Go.Proofs.YtkgcbeokfilehaaGreatDoor
open Go.RowKit Go.Sort

theorem Own.opened {w : World} {base e : Nat} {v : Value} {l : List Smp} (h : Own w base e v l) :
    ∃ A c, v = .slice A l.length c ∧ l.length ≤ c ∧ (l = [] ∨ ∃ b, A = some ⟨b, 0, none⟩ ∧ base ≤ b ∧ b < w.heap.size ∧ ∀ i (h : i < l.length), Cell4 w b (i * 4) l[i]) := by
  obtain ⟨A, c, rfl, hc, hA⟩ := h.rd
  refine ⟨A, c, rfl, hc, ?_⟩
  rcases h.2 with ⟨h1, h0⟩ | ⟨g, cap, cur, hv, hb, hh, hn, hm, hcs, ht⟩
  · exact .inl (List.eq_nil_of_length_eq_zero h0)
  · injection hv with hv1 _ _
    rcases hA with hA | ⟨b, o, h2, hbB, hcl⟩
    · exact .inl hA
    · rw [hv1] at h2
      injection h2 with h2
      injection h2 with h3 h4 h5
      subst h3 h4
      exact .inr ⟨g, hv1, hb, hbB, fun i hi => by have := hcl i hi; rwa [Nat.zero_add] at this⟩
theorem ownsRow_set {w : World} {base e size n : Nat} {g cap : Nat} {xs : List Value} (h : w.ownsRow base e size (.slice (some ⟨g, 0, none⟩) n cap) n xs) (t : Nat) (u : Value) :
    (w.setCell ⟨g, t, none⟩ u).ownsRow base e size (.slice (some ⟨g, 0, none⟩) n cap) n (xs.set t u) := by
  obtain ⟨h1, h2⟩ := h
  refine ⟨by simpa using h1, ?_⟩
  rcases h2 with ⟨h2, _⟩ | ⟨g', cap', cur, hv, hb, hh, hn, hm, hcs, ht⟩
  · exact absurd h2 (by simp)
  · injection hv with hv1 _ hv3
    injection hv1 with hv1
    injection hv1 with hg _ _
    subst hg hv3
    refine .inr ⟨g, cap, cur.setIfInBounds t u, rfl, hb, ?_, hn, hm, by simpa using hcs, ?_⟩
    · show (w.heap.modify g _)[g]? = _
      rw [Array.getElem?_modify, if_pos rfl, hh]; rfl
    · rw [Array.toList_setIfInBounds, List.take_set, ht]
theorem flatS_set (l : List Smp) (i : Nat) (y : Smp) (h : i < l.length) :
    flatS (l.set i y) = ((((flatS l).set (i * 4) (.int .i64 y.1)).set (i * 4 + 1) (.int .i64 y.2.1)).set (i * 4 + 2) (.int .i64 y.2.2.1)).set (i * 4 + 3) (.int .i64 y.2.2.2) := by
  induction l generalizing i with
  | nil => simp at h
  | cons a l ih =>
    cases i with
    | zero => simp [flatS, encS]
    | succ i =>
      have := ih i (by simpa using h)
      unfold flatS at *
      simp only [List.set_cons_succ, List.flatMap_cons, this]
      rw [show (i + 1) * 4 = i * 4 + 4 by omega]
      simp [encS]
theorem Own.set4 {w : World} {base e : Nat} {g cap n : Nat} {l : List Smp} (h : Own w base e (.slice (some ⟨g, 0, none⟩) n cap) l) (hn : n = l.length) (i : Nat) (y : Smp) (hi : i < l.length) :
    Own ((((w.setCell ⟨g, i * 4, none⟩ (.int .i64 y.1)).setCell ⟨g, i * 4 + 1, none⟩ (.int .i64 y.2.1)).setCell ⟨g, i * 4 + 2, none⟩ (.int .i64 y.2.2.1)).setCell ⟨g, i * 4 + 3, none⟩ (.int .i64 y.2.2.2)) base e (.slice (some ⟨g, 0, none⟩) n cap) (l.set i y) := by
  subst hn
  unfold Own at *
  rw [List.length_set, flatS_set l i y hi]
  exact ownsRow_set (ownsRow_set (ownsRow_set (ownsRow_set h _ _) _ _) _ _) _ _
theorem Own.free {w : World} {base e b n c : Nat} {l : List Smp} (h : Own w base e (.slice (some ⟨b, 0, none⟩) n c) l) (o : Nat) : w.frozen? ⟨b, o, none⟩ = false := by
  rcases h.2 with ⟨h1, _⟩ | ⟨g, cap, cur, hv, hb, hh, _⟩
  · exact absurd h1 (by simp)
  · injection hv with hv1 _ _
    injection hv1 with hv1
    injection hv1 with hg _ _
    subst hg
    simp [World.frozen?, hh]
end Go.Proofs.YtkgcbeokfilehaaGreatDoor
