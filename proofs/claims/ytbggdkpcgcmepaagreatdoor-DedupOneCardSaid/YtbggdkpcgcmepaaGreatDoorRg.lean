import Derived.Test.YtbggdkpcgcmepaaGreatDoorRe
import Derived.Test.YtbggdkpcgcmepaaGreatDoorTw
import Derived.Test.YtbggdkpcgcmepaaGreatDoorDe
namespace Go.Proofs.YtbggdkpcgcmepaaGreatDoor
open Go.RowKit Go.Sort

/-- eskerref15.Sort. -/
def rsortS (l : List Smp) : List Smp := (l.filter rightS).foldl putS []
theorem fold_put_length (l r : List Smp) : (l.foldl putS r).length ≤ r.length + l.length := by
  induction l generalizing r with
  | nil => simp
  | cons a l ih => have := ih (putS r a); have := putS_length r a; simp; omega
theorem rsortS_length (l : List Smp) : (rsortS l).length ≤ l.length := by
  have := fold_put_length (l.filter rightS) []
  have := List.length_filter_le rightS l
  unfold rsortS; simp at *; omega

set_option maxRecDepth 100000 in
set_option maxHeartbeats 2000000 in
theorem rsort_walk (v : Value) (l : List Smp) (W : World) (hR : Rd W W.heap.size v l) (hl : l.length ≤ 10000) :
    Calls Tryz.prog 17 #[v] W fun e w' => ∃ r, e = .returned r ∧ Rd w' w'.heap.size r (rsortS l) ∧ Nz r ∧ Below W.heap.size W w' := by
  obtain ⟨A, c, rfl, hc, hA⟩ := hR
  obtain ⟨n, hn⟩ : ∃ n, n = l.length := ⟨_, rfl⟩
  rw [← hn] at hc hl ⊢
  have HN := Lib.hid hn
  have HA := Lib.hid hA
  have KR : Hid (∀ (y : Smp) W, Calls Tryz.prog 12 #[.agg #[.int .i64 y.1, .int .i64 y.2.1, .int .i64 y.2.2.1, .int .i64 y.2.2.2]] W fun e w' => e = .returned (.bool (rightS y)) ∧ Ext W w') := fun y W => rrightS_walk y W
  have KP : Hid (∀ v l (y : Smp) W, Rd W W.heap.size v l → Nz v → l.length ≤ 100000 → Calls Tryz.prog 30 #[v, .agg #[.int .i64 y.1, .int .i64 y.2.1, .int .i64 y.2.2.1, .int .i64 y.2.2.2]] W fun e w' => ∃ r, e = .returned r ∧ Rd w' w'.heap.size r (putS l y) ∧ Nz r ∧ Below W.heap.size W w') := fun v l y W h1 h2 h3 => put_walk v l y W h1 h2 h3
  clear hn hA hc
  go_enter Tryz.func17, Tryz.ntmps17
  go_wp2_with fail
  go_loopw [3, 4] (fun o i wl => ∃ (k : Nat) (r : List Smp), k ≤ n ∧ i = .int .i64 k ∧ Hid (r = ((l.take k).filter rightS).foldl putS []) ∧ Hid (Rd wl wl.heap.size o r) ∧ Hid (Nz o) ∧ Hid (Below W.heap.size W wl))
    (fun _ i _ => n - (intOf i).toNat)
  case atStart => exact ⟨0, [], Nat.zero_le _, rfl, rfl, (Own.nil _ 0 0).rd, nz_nil, Below.refl _ _⟩
  case round =>
    obtain ⟨k, r, hk, rfl, HF, HR, HZ, HB⟩ := hrel
    by_cases hlt : k < n
    · have hkl : k < l.length := by rw [← HN.out]; exact hlt
      rcases HA.out with e | ⟨b, o, e, hb, hcl⟩
      · subst e; simp at hkl
      subst e
      obtain ⟨y, hy⟩ : ∃ y, y = l[k] := ⟨_, rfl⟩
      have hcy : Cell4 wr b (o + k * 4) y := by rw [hy]; exact (hcl k hkl).below HB.out hb
      have HCY := Lib.hid hcy
      have HS : Hid (((l.take (k + 1)).filter rightS).foldl putS [] = if rightS y then putS r y else r) := by
        show _ = _
        rw [List.take_succ_eq_append_getElem hkl, List.filter_append, List.foldl_append, ← HF.out, ← hy]
        cases h : rightS y <;> simp [h]
      have HL : Hid (r.length ≤ 100000) := by
        show _ ≤ _
        rw [HF.out]
        have h1 := fold_put_length ((l.take k).filter rightS) []
        have h2 := List.length_filter_le rightS (l.take k)
        rw [List.length_take] at h2
        simp at h1; omega
      clear hcl hy
      obtain ⟨c0, c1, c2, c3⟩ := hcy
      go_wp2_with fail
      refine (KR.out y wr).mono ?_
      rintro e w1 ⟨rfl, hE⟩
      obtain ⟨d0, d1, d2, d3⟩ := HCY.out.ext hE.below
      have HE := Lib.hid hE.below
      clear hE c0 c1 c2 c3
      cases hr : rightS y with
      | false =>
        have HS2 : Hid (r = ((l.take (k + 1)).filter rightS).foldl putS []) := by show _ = _; rw [HS.out, hr]; rfl
        clear hr
        go_wp2_with fail
        go_roundw
        case rel => exact ⟨k + 1, r, by omega, by go_num, HS2.out, (HR.out.below HE.out).mono HE.out.size, HZ.out, HB.out.trans (HE.out.mono HB.out.size)⟩
        case measure => simp [intOf]; omega
      | true =>
        have HS2 : Hid (putS r y = ((l.take (k + 1)).filter rightS).foldl putS []) := by show _ = _; rw [HS.out, hr]; rfl
        clear hr
        go_wp2_with fail
        refine (KP.out _ r y w1 ((HR.out.below HE.out).mono HE.out.size) HZ.out HL.out).mono ?_
        rintro e w2 ⟨ov, rfl, h1, h2, h3⟩
        have H1 := Lib.hid h1
        have H2 := Lib.hid h2
        have H3 : Hid (Below wr.heap.size wr w2) := HE.out.trans (h3.mono HE.out.size)
        clear h1 h2 h3 d0 d1 d2 d3
        go_wp2_with fail
        go_roundw
        case rel => exact ⟨k + 1, putS r y, by omega, by go_num, HS2.out, H1.out, H2.out, HB.out.trans (H3.out.mono HB.out.size)⟩
        case measure => simp [intOf]; omega
    · obtain rfl : n = k := by omega
      have HF2 : Hid (r = rsortS l) := by show _ = _; rw [HF.out, HN.out, List.take_length]; rfl
      go_wp2_with fail
      go_ret
      exact ⟨_, rfl, HF2.out ▸ HR.out, HZ.out, HB.out⟩

set_option maxRecDepth 100000 in
set_option maxHeartbeats 2000000 in
/-- eskerref15.Clip. -/
theorem rclip_walk (v : Value) (l : List Smp) (f t : Int) (W : World) (hR : Rd W W.heap.size v l) (hl : l.length ≤ 10000) :
    Calls Tryz.prog 23 #[v, .int .i64 f, .int .i64 t] W fun e w' => ∃ r, e = .returned r ∧ Own w' W.heap.size 28 r (delS f t l) ∧ Below W.heap.size W w' := by
  obtain ⟨A, c, rfl, hc, hA⟩ := hR
  obtain ⟨n, hn⟩ : ∃ n, n = l.length := ⟨_, rfl⟩
  rw [← hn] at hc hl ⊢
  have HN := Lib.hid hn
  have HA := Lib.hid hA
  clear hn hA hc
  go_enter Tryz.func23, Tryz.ntmps23
  go_wp2_with fail
  go_loopw [7, 8] (fun o i wl => ∃ (k : Nat), k ≤ n ∧ i = .int .i64 k ∧ Own wl W.heap.size 28 o (delS f t (l.take k)) ∧ Hid (Below W.heap.size W wl))
    (fun _ i _ => n - (intOf i).toNat)
  case atStart => exact ⟨0, Nat.zero_le _, rfl, Own.nil _ _ _, Below.refl _ _⟩
  case round =>
    obtain ⟨k, hk, rfl, hown, HB⟩ := hrel
    by_cases hlt : k < n
    · have hkl : k < l.length := by rw [← HN.out]; exact hlt
      rcases HA.out with e | ⟨b, o, e, hb, hcl⟩
      · subst e; simp at hkl
      subst e
      obtain ⟨y, hy⟩ : ∃ y, y = l[k] := ⟨_, rfl⟩
      have hcy : Cell4 wr b (o + k * 4) y := by rw [hy]; exact (hcl k hkl).below HB.out hb
      have HS : Hid (delS f t (l.take (k + 1)) = delS f t (l.take k) ++ if outS f t y then [] else [y]) := by
        show _ = _
        rw [List.take_succ_eq_append_getElem hkl, ← hy]
        unfold delS
        rw [List.filter_append]
        cases h : outS f t y <;> simp [h]
      have HL : Hid ((delS f t (l.take k)).length ≤ 10000) := by
        show _ ≤ _
        unfold delS
        refine Nat.le_trans (List.length_filter_le _ _) ?_
        rw [List.length_take]; omega
      obtain ⟨r, hr⟩ : ∃ r, r = delS f t (l.take k) := ⟨_, rfl⟩
      rw [← hr] at hown HL HS
      clear hcl hy hr
      obtain ⟨c0, c1, c2, c3⟩ := hcy
      have HB1 : Hid (∀ o, Below W.heap.size W (wr.alloc o)) := fun o => HB.out.alloc HB.out.size _
      have HBs : Hid (W.heap.size ≤ wr.heap.size) := HB.out.size
      by_cases h1 : y.1 < f
      · have HS2 : Hid (delS f t (l.take (k + 1)) = r) := by
          show _ = _
          rw [HS.out, if_pos (by unfold outS; simp [h1]), List.append_nil]
        have g1 : ¬ f ≤ y.1 := by omega
        go_wp2_with fail
        go_roundw
        case rel => exact ⟨k + 1, by omega, by go_num, HS2.out ▸ hown, HB.out⟩
        case measure => simp [intOf]; omega
      · by_cases h2 : t < y.1
        · have HS2 : Hid (delS f t (l.take (k + 1)) = r) := by
            show _ = _
            rw [HS.out, if_pos (by unfold outS; simp [h2]), List.append_nil]
          have g1 : f ≤ y.1 := by omega
          have g2 : ¬ y.1 ≤ t := by omega
          go_wp2_with fail
          go_roundw
          case rel => exact ⟨k + 1, by omega, by go_num, HS2.out ▸ hown, HB.out⟩
          case measure => simp [intOf]; omega
        · have HS2 : Hid (delS f t (l.take (k + 1)) = r ++ [y]) := by
            show _ = _
            rw [HS.out, if_neg (by unfold outS; simp; omega)]
          have g1 : f ≤ y.1 := by omega
          have g2 : y.1 ≤ t := by omega
          clear h1 h2 HS
          go_wp2_with (first | (at_builtin; refine app1 rfl _ _ 22 28 rfl Tryz.underlying22 info_Smp W.heap.size _ r y rfl (hown.alloc _) wr.heap.size 0 1 rfl (Cell4.new _ y _ _ rfl) ?y1 ?y2 ?_) | fail)
          case y1 => have := HL.out; omega
          case y2 => have := HBs.out; simp; omega
          · intro v' w2 hown2 hg hloc
            go_wp2_with fail
            go_roundw
            case rel => exact ⟨k + 1, by omega, by go_num, HS2.out ▸ hown2, (HB1.out _).grown hg (by have := HBs.out; simp; omega) (fun g hg' => (hown.blk hg').1)⟩
            case measure => simp [intOf]; omega
    · obtain rfl : n = k := by omega
      have HF2 : Hid (delS f t (l.take n) = delS f t l) := by show _ = _; rw [HN.out, List.take_length]
      have HO : Hid (Own wr W.heap.size 28 u7 (delS f t l)) := HF2.out ▸ hown
      clear hown
      go_wp2_with fail
      go_ret
      exact ⟨_, rfl, HO.out, HB.out⟩
end Go.Proofs.YtbggdkpcgcmepaaGreatDoor
