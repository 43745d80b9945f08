import Derived.Test.YtkgcbeokfilehaaGreatDoorPlk
import Derived.Test.YtkgcbeokfilehaaGreatDoorRek
namespace Go.Proofs.YtkgcbeokfilehaaGreatDoor
open Go.RowKit Go.Sort

theorem ltS_t {a b : Smp} (h : a.1 < b.1) : ltS a b := .inl h
/-- The last one of each run of one interval. -/
def lasts (d : Int) : List Smp → List Smp
  | [] => []
  | [a] => [a]
  | a :: b :: l => if ivl a.1 d = ivl b.1 d then lasts d (b :: l) else a :: lasts d (b :: l)
theorem fold_lasts (d : Int) (l : List Smp) : ∀ (r : List Smp) (a : Smp), l.foldl (stepD d) (r ++ [a]) = r ++ lasts d (a :: l) := by
  induction l with
  | nil => intro r a; rfl
  | cons b l ih =>
    intro r a
    rw [List.foldl_cons]
    have ha : alike d (r ++ [a]) b = (ivl a.1 d == ivl b.1 d) := by unfold alike; simp
    by_cases h : ivl a.1 d = ivl b.1 d
    · have hs : stepD d (r ++ [a]) b = r ++ [b] := by
        unfold stepD; rw [ha, if_pos (by simp [h]), List.dropLast_concat]
      have hl : lasts d (a :: b :: l) = lasts d (b :: l) := by rw [lasts, if_pos h]
      rw [hs, hl]; exact ih r b
    · have hs : stepD d (r ++ [a]) b = r ++ [a] ++ [b] := by
        unfold stepD; rw [ha, if_neg (by simp [h])]
      have hl : lasts d (a :: b :: l) = a :: lasts d (b :: l) := by rw [lasts, if_neg h]
      rw [hs, hl, ih (r ++ [a]) b]
      simp
theorem dedupS_lasts (d : Int) (l : List Smp) : dedupS d l = lasts d (sortS l) := by
  unfold dedupS
  cases sortS l with
  | nil => rfl
  | cons a s => exact fold_lasts d s [] a
theorem lasts_sub (d : Int) : ∀ s : List Smp, (lasts d s).Sublist s
  | [] => List.Sublist.refl _
  | [a] => List.Sublist.refl _
  | a :: b :: l => by
    unfold lasts
    split
    · exact (lasts_sub d (b :: l)).cons _
    · exact (lasts_sub d (b :: l)).cons_cons _
theorem ivl_mono (d : Int) {t u : Int} (h : t ≤ u) : ivl t d ≤ ivl u d := by
  obtain ⟨n1, _⟩ := ivN_bd d
  have : ivT t ≤ ivT u := by unfold ivT; split <;> split <;> (try split) <;> (try split) <;> omega
  unfold ivl
  exact Int.ediv_le_ediv (by omega) (by omega)
theorem leS_t {a b : Smp} (h : ¬ ltS b a) : a.1 ≤ b.1 := by unfold ltS at h; omega
theorem lasts_strict (d : Int) : ∀ s : List Smp, s.Pairwise (fun a b => ¬ ltS b a) → (lasts d s).Pairwise (fun a b => ivl a.1 d < ivl b.1 d)
  | [], _ => List.Pairwise.nil
  | [a], _ => List.pairwise_singleton _ _
  | a :: b :: l, h => by
    have p := List.pairwise_cons.1 h
    have ih := lasts_strict d (b :: l) p.2
    unfold lasts
    split
    · exact ih
    · rename_i hne
      refine List.pairwise_cons.2 ⟨fun c hc => ?_, ih⟩
      have hcb := (lasts_sub d (b :: l)).subset hc
      have h1 := ivl_mono d (leS_t (p.1 b List.mem_cons_self))
      have h2 : ivl b.1 d ≤ ivl c.1 d := by
        rcases List.mem_cons.1 hcb with e | hcl
        · rw [e]; exact Int.le_refl _
        · exact ivl_mono d (leS_t ((List.pairwise_cons.1 p.2).1 c hcl))
      omega
theorem lasts_id (d : Int) : ∀ s : List Smp, s.Pairwise (fun a b => ivl a.1 d < ivl b.1 d) → lasts d s = s
  | [], _ => rfl
  | [a], _ => rfl
  | a :: b :: l, h => by
    have p := List.pairwise_cons.1 h
    have := p.1 b List.mem_cons_self
    unfold lasts
    rw [if_neg (by omega), lasts_id d (b :: l) p.2]
theorem lasts_head (d : Int) : ∀ (l : List Smp) (b : Smp), ∃ h t, lasts d (b :: l) = h :: t ∧ ivl h.1 d = ivl b.1 d ∧ h ∈ b :: l
  | [], b => ⟨b, [], rfl, rfl, List.mem_cons_self⟩
  | c :: l, b => by
    obtain ⟨h, t, e1, e2, e3⟩ := lasts_head d l c
    unfold lasts
    by_cases hc : ivl b.1 d = ivl c.1 d
    · rw [if_pos hc]
      exact ⟨h, t, e1, by rw [e2, hc], List.mem_cons_of_mem _ e3⟩
    · rw [if_neg hc]
      exact ⟨b, _, rfl, rfl, List.mem_cons_self⟩
theorem lasts_lasts (d e : Int) : ∀ s : List Smp, (∀ a ∈ s, ∀ b ∈ s, ivl a.1 d = ivl b.1 d → ivl a.1 e = ivl b.1 e) → lasts e (lasts d s) = lasts e s
  | [], _ => rfl
  | [a], _ => rfl
  | a :: b :: l, h => by
    have ih := lasts_lasts d e (b :: l) fun x hx y hy => h x (List.mem_cons_of_mem _ hx) y (List.mem_cons_of_mem _ hy)
    have hb : b ∈ a :: b :: l := List.mem_cons_of_mem _ List.mem_cons_self
    by_cases hd : ivl a.1 d = ivl b.1 d
    · have he := h a List.mem_cons_self b hb hd
      have e1 : lasts d (a :: b :: l) = lasts d (b :: l) := by rw [lasts, if_pos hd]
      have e2 : lasts e (a :: b :: l) = lasts e (b :: l) := by rw [lasts, if_pos he]
      rw [e1, e2, ih]
    · have e1 : lasts d (a :: b :: l) = a :: lasts d (b :: l) := by rw [lasts, if_neg hd]
      obtain ⟨x, t, k1, k2, k3⟩ := lasts_head d l b
      have hx := h x (List.mem_cons_of_mem _ k3) b hb k2
      rw [e1]
      rw [k1] at ih ⊢
      by_cases he : ivl a.1 e = ivl b.1 e
      · have e2 : lasts e (a :: b :: l) = lasts e (b :: l) := by rw [lasts, if_pos he]
        rw [lasts, if_pos (by rw [hx]; exact he), e2, ih]
      · have e2 : lasts e (a :: b :: l) = a :: lasts e (b :: l) := by rw [lasts, if_neg he]
        rw [lasts, if_neg (by rw [hx]; exact he), e2, ih]
theorem sort_lasts (d : Int) (l : List Smp) : sortS (dedupS d l) = dedupS d l := by
  have hst : (dedupS d l).Pairwise ltS := by
    rw [dedupS_lasts]
    refine (lasts_strict d _ (sortS_le l)).imp fun {a b} h => ?_
    refine ltS_t ?_
    rcases (by omega : a.1 < b.1 ∨ b.1 ≤ a.1) with h1 | h1
    · exact h1
    · have := ivl_mono d h1; omega
  refine sortS_is _ _ hst fun x => ⟨fun h => ⟨h, ?_⟩, fun h => h.1⟩
  rw [dedupS_lasts] at h
  exact ((sortS_mem l x).1 ((lasts_sub d _).subset h)).2
theorem dedup_again (d : Int) (l : List Smp) : dedupS d (dedupS d l) = dedupS d l := by
  rw [dedupS_lasts d (dedupS d l), sort_lasts]
  rw [dedupS_lasts]
  exact lasts_id d _ (lasts_strict d _ (sortS_le l))
theorem ivl_nest (d k t : Int) (hd : 1 ≤ d) (hk : 1 ≤ k) (hkd : k * d ≤ 1073741824) : ivl t (k * d) = (ivl t d + k - 1) / k := by
  have hd2 : d ≤ k * d := by
    have := Int.mul_le_mul_of_nonneg_right hk (by omega : (0 : Int) ≤ d)
    omega
  have n1 : ivN d = d := by unfold ivN; rw [if_neg (by omega), if_neg (by omega)]
  have n2 : ivN (k * d) = k * d := by unfold ivN; rw [if_neg (by omega), if_neg (by omega)]
  unfold ivl
  rw [n1, n2]
  generalize ivT t = u
  have e1 : (u + d - 1) / d + k - 1 = (u + k * d - 1) / d := by
    have : u + k * d - 1 = (u + d - 1) + (k - 1) * d := by rw [Int.sub_mul, Int.one_mul]; omega
    rw [this, Int.add_mul_ediv_right _ _ (by omega : d ≠ 0)]
    omega
  rw [e1, Int.ediv_ediv_of_nonneg (by omega), Int.mul_comm]
theorem dedup_more (d k : Int) (l : List Smp) (hd : 1 ≤ d) (hk : 1 ≤ k) (hkd : k * d ≤ 1073741824) : dedupS (k * d) (dedupS d l) = dedupS (k * d) l := by
  rw [dedupS_lasts (k * d) (dedupS d l), sort_lasts, dedupS_lasts d, dedupS_lasts (k * d)]
  refine lasts_lasts d (k * d) _ fun a _ b _ h => ?_
  rw [ivl_nest d k _ hd hk hkd, ivl_nest d k _ hd hk hkd, h]
end Go.Proofs.YtkgcbeokfilehaaGreatDoor

namespace Go.Proofs.YtkgcbeokfilehaaGreatDoor
open Go.RowKit Go.Sort

/-- eskerref15.Sort. -/
def rsortS (l : List Smp) : List Smp := (l.filter rightS).foldl putS []
theorem fold_put_length (l r : List Smp) : (l.foldl putS r).length ≤ r.length + l.length := by
  induction l generalizing r with
  | nil => simp
  | cons a l ih => have := ih (putS r a); have := putS_length r a; simp; omega
theorem rsortS_length (l : List Smp) : (rsortS l).length ≤ l.length := by
  have := fold_put_length (l.filter rightS) []
  have := List.length_filter_le rightS l
  unfold rsortS; simp at *; omega

set_option maxRecDepth 100000 in
set_option maxHeartbeats 2000000 in
theorem rsort_walkO (v : Value) (l : List Smp) (W : World) (hR : Rd W W.heap.size v l) (hl : l.length ≤ 10000) :
    Calls Tryz.prog 84 #[v] W fun e w' => ∃ r, e = .returned r ∧ Own w' W.heap.size 54 r (rsortS l) ∧ Below W.heap.size W w' := by
  obtain ⟨A, c, rfl, hc, hA⟩ := hR
  obtain ⟨n, hn⟩ : ∃ n, n = l.length := ⟨_, rfl⟩
  rw [← hn] at hc hl ⊢
  have HN := Lib.hid hn
  have HA := Lib.hid hA
  have KR : Hid (∀ (y : Smp) W, Calls Tryz.prog 53 #[.agg #[.int .i64 y.1, .int .i64 y.2.1, .int .i64 y.2.2.1, .int .i64 y.2.2.2]] W fun e w' => e = .returned (.bool (rightS y)) ∧ Ext W w') := fun y W => rrightS_walk y W
  have KP : Hid (∀ v l (y : Smp) W, Rd W W.heap.size v l → Nz v → l.length ≤ 100000 → Calls Tryz.prog 106 #[v, .agg #[.int .i64 y.1, .int .i64 y.2.1, .int .i64 y.2.2.1, .int .i64 y.2.2.2]] W fun e w' => ∃ r, e = .returned r ∧ Rd w' w'.heap.size r (putS l y) ∧ Nz r ∧ Below W.heap.size W w' ∧ (Own w' W.heap.size 54 r (putS l y) ∨ (r = v ∧ putS l y = l))) := fun v l y W h1 h2 h3 => put_walkO v l y W h1 h2 h3
  clear hn hA hc
  go_enter Tryz.func84, Tryz.ntmps84
  go_wp2_with fail
  go_loopw [3, 4] (fun o i wl => ∃ (k : Nat) (r : List Smp), k ≤ n ∧ i = .int .i64 k ∧ Hid (r = ((l.take k).filter rightS).foldl putS []) ∧ Hid (Rd wl wl.heap.size o r) ∧ Hid (Nz o) ∧ Hid (Below W.heap.size W wl) ∧ Hid (Own wl W.heap.size 54 o r))
    (fun _ i _ => n - (intOf i).toNat)
  case atStart => exact ⟨0, [], Nat.zero_le _, rfl, rfl, (Own.nil _ 0 0).rd, nz_nil, Below.refl _ _, Own.nil _ _ _⟩
  case round =>
    obtain ⟨k, r, hk, rfl, HF, HR, HZ, HB, HOW⟩ := hrel
    by_cases hlt : k < n
    · have hkl : k < l.length := by rw [← HN.out]; exact hlt
      rcases HA.out with e | ⟨b, o, e, hb, hcl⟩
      · subst e; simp at hkl
      subst e
      obtain ⟨y, hy⟩ : ∃ y, y = l[k] := ⟨_, rfl⟩
      have hcy : Cell4 wr b (o + k * 4) y := by rw [hy]; exact (hcl k hkl).below HB.out hb
      have HCY := Lib.hid hcy
      have HS : Hid (((l.take (k + 1)).filter rightS).foldl putS [] = if rightS y then putS r y else r) := by
        show _ = _
        rw [List.take_succ_eq_append_getElem hkl, List.filter_append, List.foldl_append, ← HF.out, ← hy]
        cases h : rightS y <;> simp [h]
      have HL : Hid (r.length ≤ 100000) := by
        show _ ≤ _
        rw [HF.out]
        have h1 := fold_put_length ((l.take k).filter rightS) []
        have h2 := List.length_filter_le rightS (l.take k)
        rw [List.length_take] at h2
        simp at h1; omega
      clear hcl hy
      obtain ⟨c0, c1, c2, c3⟩ := hcy
      go_wp2_with fail
      refine (KR.out y wr).mono ?_
      rintro e w1 ⟨rfl, hE⟩
      obtain ⟨d0, d1, d2, d3⟩ := HCY.out.ext hE.below
      have HE := Lib.hid hE.below
      clear hE c0 c1 c2 c3
      cases hr : rightS y with
      | false =>
        have HS2 : Hid (r = ((l.take (k + 1)).filter rightS).foldl putS []) := by show _ = _; rw [HS.out, hr]; rfl
        clear hr
        go_wp2_with fail
        go_roundw
        case rel => exact ⟨k + 1, r, by omega, by go_num, HS2.out, (HR.out.below HE.out).mono HE.out.size, HZ.out, HB.out.trans (HE.out.mono HB.out.size), HOW.out.below HE.out⟩
        case measure => simp [intOf]; omega
      | true =>
        have HS2 : Hid (putS r y = ((l.take (k + 1)).filter rightS).foldl putS []) := by show _ = _; rw [HS.out, hr]; rfl
        clear hr
        go_wp2_with fail
        refine (KP.out _ r y w1 ((HR.out.below HE.out).mono HE.out.size) HZ.out HL.out).mono ?_
        rintro e w2 ⟨ov, rfl, h1, h2, h3, h4⟩
        have H4 : Hid (Own w2 W.heap.size 54 ov (putS r y)) := by
          rcases h4 with h4 | ⟨h4, h5⟩
          · exact h4.lower (Nat.le_trans HB.out.size HE.out.size)
          · show Own _ _ _ _ _
            rw [h4, h5]; exact (HOW.out.below HE.out).below h3
        clear h4
        have H1 := Lib.hid h1
        have H2 := Lib.hid h2
        have H3 : Hid (Below wr.heap.size wr w2) := HE.out.trans (h3.mono HE.out.size)
        clear h1 h2 h3 d0 d1 d2 d3
        go_wp2_with fail
        go_roundw
        case rel => exact ⟨k + 1, putS r y, by omega, by go_num, HS2.out, H1.out, H2.out, HB.out.trans (H3.out.mono HB.out.size), H4.out⟩
        case measure => simp [intOf]; omega
    · obtain rfl : n = k := by omega
      have HF2 : Hid (r = rsortS l) := by show _ = _; rw [HF.out, HN.out, List.take_length]; rfl
      go_wp2_with fail
      go_ret
      exact ⟨_, rfl, HF2.out ▸ HOW.out, HB.out⟩
theorem rsort_walk (v : Value) (l : List Smp) (W : World) (hR : Rd W W.heap.size v l) (hl : l.length ≤ 10000) :
    Calls Tryz.prog 84 #[v] W fun e w' => ∃ r, e = .returned r ∧ Rd w' w'.heap.size r (rsortS l) ∧ Nz r ∧ Below W.heap.size W w' :=
  (rsort_walkO v l W hR hl).mono fun _ _ ⟨r, h1, h2, h3⟩ => ⟨r, h1, h2.rd, h2.nz, h3⟩

set_option maxRecDepth 100000 in
set_option maxHeartbeats 2000000 in
/-- eskerref15.Clip. -/
theorem rclip_walk (v : Value) (l : List Smp) (f t : Int) (W : World) (hR : Rd W W.heap.size v l) (hl : l.length ≤ 10000) :
    Calls Tryz.prog 54 #[v, .int .i64 f, .int .i64 t] W fun e w' => ∃ r, e = .returned r ∧ Own w' W.heap.size 54 r (delS f t l) ∧ Below W.heap.size W w' := by
  obtain ⟨A, c, rfl, hc, hA⟩ := hR
  obtain ⟨n, hn⟩ : ∃ n, n = l.length := ⟨_, rfl⟩
  rw [← hn] at hc hl ⊢
  have HN := Lib.hid hn
  have HA := Lib.hid hA
  clear hn hA hc
  go_enter Tryz.func54, Tryz.ntmps54
  go_wp2_with fail
  go_loopw [7, 8] (fun o i wl => ∃ (k : Nat), k ≤ n ∧ i = .int .i64 k ∧ Own wl W.heap.size 54 o (delS f t (l.take k)) ∧ Hid (Below W.heap.size W wl))
    (fun _ i _ => n - (intOf i).toNat)
  case atStart => exact ⟨0, Nat.zero_le _, rfl, Own.nil _ _ _, Below.refl _ _⟩
  case round =>
    obtain ⟨k, hk, rfl, hown, HB⟩ := hrel
    by_cases hlt : k < n
    · have hkl : k < l.length := by rw [← HN.out]; exact hlt
      rcases HA.out with e | ⟨b, o, e, hb, hcl⟩
      · subst e; simp at hkl
      subst e
      obtain ⟨y, hy⟩ : ∃ y, y = l[k] := ⟨_, rfl⟩
      have hcy : Cell4 wr b (o + k * 4) y := by rw [hy]; exact (hcl k hkl).below HB.out hb
      have HS : Hid (delS f t (l.take (k + 1)) = delS f t (l.take k) ++ if outS f t y then [] else [y]) := by
        show _ = _
        rw [List.take_succ_eq_append_getElem hkl, ← hy]
        unfold delS
        rw [List.filter_append]
        cases h : outS f t y <;> simp [h]
      have HL : Hid ((delS f t (l.take k)).length ≤ 10000) := by
        show _ ≤ _
        unfold delS
        refine Nat.le_trans (List.length_filter_le _ _) ?_
        rw [List.length_take]; omega
      obtain ⟨r, hr⟩ : ∃ r, r = delS f t (l.take k) := ⟨_, rfl⟩
      rw [← hr] at hown HL HS
      clear hcl hy hr
      obtain ⟨c0, c1, c2, c3⟩ := hcy
      have HB1 : Hid (∀ o, Below W.heap.size W (wr.alloc o)) := fun o => HB.out.alloc HB.out.size _
      have HBs : Hid (W.heap.size ≤ wr.heap.size) := HB.out.size
      by_cases h1 : y.1 < f
      · have HS2 : Hid (delS f t (l.take (k + 1)) = r) := by
          show _ = _
          rw [HS.out, if_pos (by unfold outS; simp [h1]), List.append_nil]
        have g1 : ¬ f ≤ y.1 := by omega
        go_wp2_with fail
        go_roundw
        case rel => exact ⟨k + 1, by omega, by go_num, HS2.out ▸ hown, HB.out⟩
        case measure => simp [intOf]; omega
      · by_cases h2 : t < y.1
        · have HS2 : Hid (delS f t (l.take (k + 1)) = r) := by
            show _ = _
            rw [HS.out, if_pos (by unfold outS; simp [h2]), List.append_nil]
          have g1 : f ≤ y.1 := by omega
          have g2 : ¬ y.1 ≤ t := by omega
          go_wp2_with fail
          go_roundw
          case rel => exact ⟨k + 1, by omega, by go_num, HS2.out ▸ hown, HB.out⟩
          case measure => simp [intOf]; omega
        · have HS2 : Hid (delS f t (l.take (k + 1)) = r ++ [y]) := by
            show _ = _
            rw [HS.out, if_neg (by unfold outS; simp; omega)]
          have g1 : f ≤ y.1 := by omega
          have g2 : y.1 ≤ t := by omega
          clear h1 h2 HS
          go_wp2_with (first | (at_builtin; refine app1 rfl _ _ 50 54 rfl Tryz.underlying50 info_Smp W.heap.size _ r y rfl (hown.alloc _) wr.heap.size 0 1 rfl (Cell4.new _ y _ _ rfl) ?y1 ?y2 ?_) | fail)
          case y1 => have := HL.out; omega
          case y2 => have := HBs.out; simp; omega
          · intro v' w2 hown2 hg hloc
            go_wp2_with fail
            go_roundw
            case rel => exact ⟨k + 1, by omega, by go_num, HS2.out ▸ hown2, (HB1.out _).grown hg (by have := HBs.out; simp; omega) (fun g hg' => (hown.blk hg').1)⟩
            case measure => simp [intOf]; omega
    · obtain rfl : n = k := by omega
      have HF2 : Hid (delS f t (l.take n) = delS f t l) := by show _ = _; rw [HN.out, List.take_length]
      have HO : Hid (Own wr W.heap.size 54 u7 (delS f t l)) := HF2.out ▸ hown
      clear hown
      go_wp2_with fail
      go_ret
      exact ⟨_, rfl, HO.out, HB.out⟩
end Go.Proofs.YtkgcbeokfilehaaGreatDoor
