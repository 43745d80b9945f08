/-
  eskerref11.Put: a number put into a rising row, once.
-/
import Derived.Test.YtkcipfmbkokfdaaGreatDoorOqk
import Derived.Test.YtkcipfmbkokfdaaGreatDoorMm1k
import Derived.Test.YtkcipfmbkokfdaaGreatDoorRek
namespace Go.Proofs.YtkcipfmbkokfdaaGreatDoor
open Go.RowKit Go.Sort
theorem RdZ.cutTo {w : World} {B : Nat} {A : Option Addr} {n c k : Nat} {l : List Int} (hn : n = l.length) (h : RdZ w B (.slice A n c) l) (hk : k ≤ n) : RdZ w B (.slice A k c) (l.take k) := by
  obtain ⟨A', c', e, hc, hA⟩ := h
  injection e with e1 e2 e3
  subst e1 e3
  have hl : (l.take k).length = k := by rw [List.length_take]; omega
  refine ⟨A, c, by rw [hl], by rw [hl]; omega, ?_⟩
  rcases hA with h0 | ⟨b, o, e, hb, hcl⟩
  · exact .inl (by rw [h0]; simp)
  · refine .inr ⟨b, o, e, hb, fun i hi => ?_⟩
    rw [hl] at hi
    rw [hcl i (by omega), List.getElem_take]
theorem RdZ.cutFrom {w : World} {B b o : Nat} {n c k : Nat} {l : List Int} (hn : n = l.length) (h : RdZ w B (.slice (some ⟨b, o, none⟩) n c) l) (hk : k < n) : RdZ w B (.slice (some ⟨b, o + k, none⟩) (n - k) (c - k)) (l.drop k) := by
  obtain ⟨A', c', e, hc, hA⟩ := h
  injection e with e1 e2 e3
  subst e1 e3
  have hl : (l.drop k).length = n - k := by rw [List.length_drop]; omega
  refine ⟨_, c - k, by rw [hl], by rw [hl]; omega, ?_⟩
  rcases hA with h0 | ⟨b', o', e, hb, hcl⟩
  · exact .inl (by rw [h0]; simp)
  · injection e with e
    injection e with e4 e5
    subst e4 e5
    refine .inr ⟨b, o + k, rfl, hb, fun i hi => ?_⟩
    rw [hl] at hi
    rw [Nat.add_assoc, hcl (k + i) (by omega), List.getElem_drop]
set_option maxRecDepth 100000 in
set_option maxHeartbeats 4000000 in
theorem putZ_walk (v : Value) (l : List Int) (z : Int) (W : World) (hR : RdZ W W.heap.size v l) (hz : Nz v) (hl : l.length ≤ 1000000) :
    Calls Tryz.prog 40 #[v, .int .i64 z] W fun e w' => ∃ r, e = .returned r ∧ RdZ w' w'.heap.size r (putZ l z) ∧ Nz r ∧ Below W.heap.size W w' := by
  have HR := Lib.hid hR
  have HZ := Lib.hid hz
  obtain ⟨A, c, rfl, hc, hA⟩ := hR
  obtain ⟨n, hn⟩ : ∃ n, n = l.length := ⟨_, rfl⟩
  rw [← hn] at hc HR HZ hl ⊢
  have HN := Lib.hid hn
  have HA := Lib.hid hA
  have HC := Lib.hid hc
  clear hz hn hA hc
  go_enter Tryz.func40, Tryz.ntmps40
  go_wp2_with fail
  go_loopw [5] (fun i wl => ∃ k : Nat, k ≤ n ∧ i = .int .i64 k ∧ Hid (∀ i (h : i < l.length), i < k → l[i] < z) ∧ Hid (Ext W wl))
    (fun i _ => n - (intOf i).toNat)
  case atStart => exact ⟨0, Nat.zero_le _, rfl, fun _ _ h => by omega, Ext.refl _⟩
  case round =>
    obtain ⟨k, hk, rfl, HF, HE⟩ := hrel
    by_cases hlt : k < n
    · have hkl : k < l.length := by rw [← HN.out]; exact hlt
      rcases HA.out with e | ⟨b, o, e, hb, hcl⟩
      · subst e; simp at hkl
      subst e
      obtain ⟨x, hx⟩ : ∃ x, x = l[k] := ⟨_, rfl⟩
      have HX := Lib.hid hx
      have c0 : wr.cell? ⟨b, o + k, none⟩ = some (.int .i64 x) := by rw [hx]; exact (HE.out.below.cell hb).trans (hcl k hkl)
      have HC0 := Lib.hid c0
      have i1 : (k : Int) < (n : Int) := by omega
      clear hx hcl
      by_cases hxz : x < z
      · have g1 : decide ((x : Int) < z) = true := decide_eq_true hxz
        have HF2 : Hid (∀ i (h : i < l.length), i < k + 1 → l[i] < z) := by
          intro i hi hik
          rcases (by omega : i < k ∨ i = k) with h | h
          · exact HF.out i hi h
          · subst h; rw [← HX.out]; exact hxz
        go_wp2_with fail
        go_roundw
        case rel => exact ⟨k + 1, by omega, by go_num, HF2.out, HE.out⟩
        case measure => simp [intOf]; omega
      · have g1 : decide ((x : Int) < z) = false := decide_eq_false hxz
        have HP : Hid (putZ l z = if x = z then l else l.take k ++ [z] ++ l.drop k) := by
          show _ = _
          rw [putZ_at hkl HF.out (by rw [← HX.out]; exact hxz), ← HX.out]
          simp
        by_cases hxe : x = z
        · have g2 : ((x : Int) == z) = true := by simp [hxe]
          have HF2 : Hid (putZ l z = l) := by show _ = _; rw [HP.out, if_pos hxe]
          clear hxe hxz
          go_wp2_with fail
          go_ret
          have hE2 := HE.out
          refine ⟨_, rfl, ?_, HZ.out, hE2.below⟩
          rw [HF2.out]
          exact HR.out.on hE2.below
        · have g2 : ((x : Int) == z) = false := by simp [hxe]
          have HF2 : Hid (putZ l z = l.take k ++ [z] ++ l.drop k) := by show _ = _; rw [HP.out, if_neg hxe]
          clear hxe hxz
          have HB3 : Hid (Below W.heap.size W wr) := HE.out.below
          clear HC0 HE
          have HR3 : Hid (RdZ wr wr.heap.size (.slice (some ⟨b, o, none⟩) n c) l) := HR.out.on HB3.out
          have hkc : k < c := by have := HC.out; omega
          have hkn : k ≤ n := by omega
          have HLt : Hid ((l.take k).length ≤ 1000000) := by show _ ≤ _; rw [List.length_take]; omega
          have HLd : Hid ((l.drop k).length ≤ 1000000) := by show _ ≤ _; rw [List.length_drop, ← HN.out]; omega
          have HT := Lib.hid (HR3.out.cutTo HN.out hkn)
          have HD := Lib.hid (HR3.out.cutFrom HN.out hlt)
          go_wp2_with (first | (at_builtin; refine appNZ rfl _ _ 22 rfl Tryz.underlying22 info_intZ wr.heap.size (.slice none 0 0) [] _ (l.take k) wr.heap.size rfl (OwZ.nil _ _) rfl HT.out ?z1 ?z2 ?z3 ?_) | fail)
          case z1 => exact nz_some _ _ _
          case z2 => have := HLt.out; first | omega | (simp; omega)
          case z3 => exact Nat.le_refl _
          · intro v1 w4 hown hg hloc
            have HB4 : Hid (Below wr.heap.size wr w4) := (Below.refl _ _).grown hg (Nat.le_refl _) (fun g hg' => by simp [Value.ownBlock] at hg')
            clear hg hloc
            have HB5 : Hid (∀ o, Below wr.heap.size wr (w4.alloc o)) := fun o => HB4.out.alloc HB4.out.size _
            have HBs : Hid (wr.heap.size ≤ w4.heap.size) := HB4.out.size
            go_wp2_with (first | (at_builtin; refine app1Z rfl _ _ 22 rfl Tryz.underlying22 info_intZ wr.heap.size _ (l.take k) z rfl (hown.on ((Below.refl _ w4).alloc (Nat.le_refl _) _)) w4.heap.size 0 1 rfl (new_cell _ _ _ 0) ?y1 ?y2 ?_) | fail)
            case y1 => have := HLt.out; omega
            case y2 => have := HBs.out; simp; omega
            · intro v2 w5 hown2 hg hloc
              have HB6 : Hid (Below wr.heap.size wr w5) := (HB5.out _).grown hg (by have := HBs.out; simp; omega) (fun g hg' => (World.ownsRow.lt hown g hg').1)
              clear hg hloc hown
              have HD5 : Hid (RdZ w5 w5.heap.size (.slice (some ⟨b, o + k, none⟩) (n - k) (c - k)) (l.drop k)) := HD.out.on HB6.out
              go_wp2_with (first | (at_builtin; refine appNZ rfl _ _ 22 rfl Tryz.underlying22 info_intZ wr.heap.size _ (l.take k ++ [z]) _ (l.drop k) w5.heap.size rfl hown2 rfl HD5.out ?x1 ?x2 ?x3 ?_) | fail)
              case x1 => exact nz_some _ _ _
              case x2 => have := HLt.out; have := HLd.out; simp only [List.length_append, List.length_singleton]; omega
              case x3 => exact HB6.out.size
              · intro v3 w6 hown3 hg hloc
                have HB7 : Hid (Below wr.heap.size wr w6) := HB6.out.grown hg HB6.out.size (fun g hg' => (World.ownsRow.lt hown2 g hg').1)
                have HO := Lib.hid hown3
                clear hg hloc hown2 hown3
                go_wp2_with fail
                go_ret
                exact ⟨_, rfl, by rw [HF2.out]; first | exact HO.out.rd | (have h := HO.out.rd; simpa using h), HO.out.nz, HB3.out.trans (HB7.out.mono HB3.out.size)⟩
    · obtain rfl : n = k := by omega
      have HF2 : Hid (putZ l z = l ++ [z]) := putZ_end fun i hi => HF.out i hi (by rw [HN.out]; exact hi)
      have g1 : decide ((n : Int) < (n : Int)) = false := by simp
      have hcn : n ≤ c := HC.out
      have HB3 : Hid (Below W.heap.size W wr) := HE.out.below
      clear HE HF
      have HR3 : Hid (RdZ wr wr.heap.size (.slice A n c) l) := HR.out.on HB3.out
      have HLt : Hid (l.length ≤ 1000000) := by show _ ≤ _; rw [← HN.out]; exact hl
      go_wp2_with (first | (at_builtin; refine appNZ rfl _ _ 22 rfl Tryz.underlying22 info_intZ wr.heap.size (.slice none 0 0) [] _ l wr.heap.size rfl (OwZ.nil _ _) rfl HR3.out ?z1 ?z2 ?z3 ?_) | fail)
      case z1 => exact HZ.out
      case z2 => have := HLt.out; first | omega | (simp; omega)
      case z3 => exact Nat.le_refl _
      · intro v1 w4 hown hg hloc
        have HB4 : Hid (Below wr.heap.size wr w4) := (Below.refl _ _).grown hg (Nat.le_refl _) (fun g hg' => by simp [Value.ownBlock] at hg')
        clear hg hloc
        have HB5 : Hid (∀ o, Below wr.heap.size wr (w4.alloc o)) := fun o => HB4.out.alloc HB4.out.size _
        have HBs : Hid (wr.heap.size ≤ w4.heap.size) := HB4.out.size
        go_wp2_with (first | (at_builtin; refine app1Z rfl _ _ 22 rfl Tryz.underlying22 info_intZ wr.heap.size _ l z rfl (hown.on ((Below.refl _ w4).alloc (Nat.le_refl _) _)) w4.heap.size 0 1 rfl (new_cell _ _ _ 0) ?y1 ?y2 ?_) | fail)
        case y1 => have := HLt.out; omega
        case y2 => have := HBs.out; simp; omega
        · intro v2 w5 hown2 hg hloc
          have HB6 : Hid (Below wr.heap.size wr w5) := (HB5.out _).grown hg (by have := HBs.out; simp; omega) (fun g hg' => (World.ownsRow.lt hown g hg').1)
          clear hg hloc hown
          have HO2 := Lib.hid hown2
          clear hown2
          have HFIN : Hid (∀ v3 w6, OwZ w6 wr.heap.size v3 (l ++ [z] ++ []) → w5.grownBy w6 v2.ownBlock → RdZ w6 w6.heap.size v3 (putZ l z) ∧ Nz v3 ∧ Below W.heap.size W w6) := fun v3 w6 ho hg => by
            have HB7 : Below wr.heap.size wr w6 := HB6.out.grown hg HB6.out.size (fun g hg' => (World.ownsRow.lt HO2.out g hg').1)
            rw [List.append_nil] at ho
            rw [HF2.out]
            exact ⟨ho.rd, ho.nz, HB3.out.trans (HB7.mono HB3.out.size)⟩
          have HLa : Hid (((l ++ [z]).length + ([] : List Int).length) * 8 ≤ 140737488355328) := by
            have := HLt.out
            show _ ≤ _
            simp; omega
          cases A with
          | none =>
            have hc0 : c = 0 := HZ.out _ _ rfl
            have hn0 : n = 0 := by omega
            subst hc0
            clear hcn g1
            subst hn0
            go_wp2_with (first | (at_builtin; refine appNZ rfl _ _ 22 rfl Tryz.underlying22 info_intZ wr.heap.size _ (l ++ [z]) _ [] w5.heap.size rfl HO2.out rfl ⟨_, _, rfl, Nat.zero_le _, .inl rfl⟩ nz_nil HLa.out HB6.out.size ?_; intro v3 w6 hown3 hg hloc; have HO := Lib.hid (HFIN.out _ _ hown3 hg); clear hg hloc hown3) | fail)
            go_ret
            exact ⟨_, rfl, HO.out.1, HO.out.2.1, HO.out.2.2⟩
          | some ad =>
            rcases Nat.lt_or_ge n c with hlt2 | hge2
            · go_wp2_with (first | (at_builtin; refine appNZ rfl _ _ 22 rfl Tryz.underlying22 info_intZ wr.heap.size _ (l ++ [z]) _ [] w5.heap.size rfl HO2.out rfl ⟨_, _, rfl, Nat.zero_le _, .inl rfl⟩ (nz_some _ _ _) HLa.out HB6.out.size ?_; intro v3 w6 hown3 hg hloc; have HO := Lib.hid (HFIN.out _ _ hown3 hg); clear hg hloc hown3) | fail)
              go_ret
              exact ⟨_, rfl, HO.out.1, HO.out.2.1, HO.out.2.2⟩
            · obtain rfl : n = c := by omega
              clear hge2 hlt hk hcn
              go_wp2_with (first | (at_builtin; refine appNZ rfl _ _ 22 rfl Tryz.underlying22 info_intZ wr.heap.size _ (l ++ [z]) _ [] w5.heap.size rfl HO2.out rfl ⟨_, _, rfl, Nat.zero_le _, .inl rfl⟩ (nz_some _ _ _) HLa.out HB6.out.size ?_; intro v3 w6 hown3 hg hloc; have HO := Lib.hid (HFIN.out _ _ hown3 hg); clear hg hloc hown3) | fail)
              go_ret
              exact ⟨_, rfl, HO.out.1, HO.out.2.1, HO.out.2.2⟩
end Go.Proofs.YtkcipfmbkokfdaaGreatDoor
