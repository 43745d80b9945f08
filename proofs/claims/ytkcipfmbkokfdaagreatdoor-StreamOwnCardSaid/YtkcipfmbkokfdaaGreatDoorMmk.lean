/-
  stream.made at stream.Merge's closure.
-/
import Derived.Test.YtkcipfmbkokfdaaGreatDoorMm1k
namespace Go.Proofs.YtkcipfmbkokfdaaGreatDoor
open Go.RowKit Go.Sort Go.Maps
attribute [local go_sem] Oper.semAt_some
set_option maxRecDepth 100000 in
set_option maxHeartbeats 2000000 in
theorem madeM_walk (vl : Value) (ll : List (List Pts)) (Bh : Nat) (gv : Value) (g : List Int) (d f : Int) (W : World) (T : Tabs W)
    (q0 : W.cell? ⟨Bh, 0, none⟩ = some (.int .i64 d)) (q1 : W.cell? ⟨Bh, 1, none⟩ = some gv) (q2 : W.cell? ⟨Bh, 2, none⟩ = some (.int .i64 f)) (hG : RdZ W W.heap.size gv g) (hg : g.length ≤ 1000000)
    (hR : RdR W W.heap.size vl ll) (hwf : ∀ r ∈ ll, ∀ p ∈ r, (Lit.int .i64 p.1).wf = true) (hn1 : ll.length ≤ 100000) (hn2 : ll.flatten.length ≤ 100000) (hn3 : (ll.flatten.flatMap (fun p => p.2)).length ≤ 100000) :
    Calls Tryz.prog 28 #[vl, .func (.func 29) #[] #[.pointer (some ⟨Bh, 0, none⟩)]] W fun e w' => ∃ v ks, e = .returned v ∧ IsKeys ll.flatten ks ∧ RdO w' W.heap.size v (fosC (foM d g f) (outs ll.flatten ks)) ∧ Below W.heap.size W w' := by
  have HQ0 := Lib.hid q0
  have HQ1 := Lib.hid q1
  have HQ2 := Lib.hid q2
  have HGG := Lib.hid hG
  clear q0 q1 q2 hG
  refine (callsIn_wide (n := 20)).1 ?_
  have hfG : Fence.wide.fn 43 := trivial
  have hfS : Fence.wide.fn 45 := trivial
  have hfC : Fence.wide.fn 29 := trivial
  have KG : Hid (∀ w', Below W.heap.size W w' → CallsIn Fence.wide 19 Tryz.prog 43 #[vl] w' fun e w'' => e = .returned (.map (some w'.heap.size)) ∧ Gath w'' w'.heap.size ll.flatten ∧ Below w'.heap.size w' w'') := fun w' hb =>
    callsIn_wide.2 (gather_walk vl ll w' (hR.on hb) hwf hn1 hn2 hn3)
  have KS : ∀ mb w', CallsIn Fence.wide 19 Tryz.prog 45 #[.map mb] w' fun e w'' => e = .returned (.func (.func 61) #[] #[.pointer (some ⟨w'.heap.size, 0, none⟩)]) ∧ w'' = w'.alloc (.cells #[.map mb] 69) := fun mb w' => callsIn_wide.2 (sorted_call mb w')
  have hB1 : Below W.heap.size W ((W.alloc (.cells #[.func (.func 29) #[] #[.pointer (some ⟨Bh, 0, none⟩)]] 58)).alloc (.cells #[.slice none 0 0] 29)) := ((Below.refl _ W).alloc (Nat.le_refl _) _).alloc (by simp) _
  have KG1 := KG.out _ hB1
  refine callsIn_of_wp_marks Tryz.func28 rfl trivial ?_ rfl
  simp only [Tryz.ntmps28, List.size_toArray, List.length_cons, List.length_nil, Nat.reduceAdd, Nat.reduceSub, Array.replicate_succ, Array.replicate_zero, List.push_toArray, List.append_toArray, List.nil_append, List.cons_append]
  gi_wp2_with (first
    | (gi_at_call 43; refine KG1.mono ?_; rintro e w1 ⟨rfl, hG, hGb⟩)
    | (gi_at_call 45; refine (KS _ _).mono ?_; rintro e w2 ⟨rfl, rfl⟩))
  have hsz1 : W.heap.size + 2 ≤ w1.heap.size := by have := hGb.size; simp at this; omega
  have hlen : ∀ k, (ofL ll.flatten k).length * 32 ≤ 140737488355328 := fun k => by have := ofL_len ll.flatten k; omega
  have hGb2 := hGb
  obtain ⟨b, hb⟩ : ∃ b, b = W.heap.size + 1 + 1 := ⟨_, rfl⟩
  simp only [World.size_alloc] at hG hGb
  rw [← hb] at hG hGb ⊢
  have HB := Lib.hid hb
  clear hb
  obtain ⟨w3, hw3⟩ : ∃ w3, w3 = w1.alloc (.cells #[.map (some b)] 69) := ⟨_, rfl⟩
  have hB3 : Below w1.heap.size w1 w3 := by rw [hw3]; exact (Below.refl _ _).alloc (Nat.le_refl _) _
  have hsz3 : w3.heap.size = w1.heap.size + 1 := by rw [hw3]; simp
  have hBW3 : Below W.heap.size W w3 := (hB1.trans (hGb2.mono (by simp; omega))).trans (hB3.mono (by omega))
  have hG3 : Gath w3 b ll.flatten := hG.on hB3
  have hBm : w3.heap[w1.heap.size]? = some (.cells #[.map (some b)] 69 (0, 0)) := by rw [hw3]; exact World.alloc_heap_new _ _
  have hBx : w1.heap[W.heap.size]? = some (.cells #[.func (.func 29) #[] #[.pointer (some ⟨Bh, 0, none⟩)]] 58 (0, 0)) :=
    (hGb2.block _ (by simp; omega)).trans ((Below.heap_alloc _ _ _ (by simp)).trans (World.alloc_heap_new _ _))
  have hOx : OutP w3 W.heap.size (W.heap.size + 1) (.slice none 0 0) [] := by
    have h := OutP.new (W.alloc (.cells #[.func (.func 29) #[] #[.pointer (some ⟨Bh, 0, none⟩)]] 58)) W.heap.size
    simp only [World.size_alloc] at h
    exact (h.on (by simpa using hGb2)).on hB3
  rw [← hw3]
  clear hw3
  refine range_ok (Z := W.heap.size) (N := ll.flatten.length) (F := Fence.wide) (n := 20) rfl (by omega) (gf := 61) (lb := #[.pointer (some ⟨w1.heap.size, 0, none⟩)]) rfl trivial (enters_of Tryz.func61 (by kernel_rfl) rfl) (encs := encR) (New := NewR) (S := SR ll.flatten) (w0 := w3) hBW3.size
    (iter_sorted W.heap.size 19 w1.heap.size b ll.flatten w3 (by omega) hBm hBW3.size (fun W' hb' => T.below (hBW3.trans hb')) hG3 hn2 hlen) (Below.refl _ _) (fun _ => rfl) (fun A B x l o h hl => NewR.put l o h hl)
    (fun pre W1 => ∃ cs v, OutP W1 W.heap.size (W.heap.size + 1) v cs ∧ cut cs = fosC (foM d g f) (cut pre) ∧ cs.length ≤ pre.length ∧ Below W.heap.size W W1 ∧ W1.heap[W.heap.size]? = some (.cells #[.func (.func 29) #[] #[.pointer (some ⟨Bh, 0, none⟩)]] 58 (0, 0)))
    ?hI ?h0 (fun x => { tmps := #[vl, .func (.func 29) #[] #[.pointer (some ⟨Bh, 0, none⟩)], undef, .pointer (some ⟨W.heap.size, 0, none⟩), .slice none 0 0, .pointer (some ⟨W.heap.size + 1, 0, none⟩), .int .i64 x.1, x.2.1, vl, .map (some b), .func (.func 61) #[] #[.pointer (some ⟨w1.heap.size, 0, none⟩)], .int .i64 x.1, x.2.1, undef, undef, undef, undef, undef, undef, undef, undef, undef, undef, undef, undef, undef, undef], defers := [] }) ?assign ?body ?done
  case hI =>
    rintro s A l r o ⟨cs, v, h1, h2, h3, h4, h5⟩ hl hr
    have hl' : W.heap.size < l := by omega
    exact ⟨cs, v, h1.put o hr rfl, h2, h3, ⟨h4.os, h4.tape, h4.output, by rw [World.putObj_size]; exact h4.size, fun k hk => (World.putObj_heap_other (by omega)).trans (h4.block k hk)⟩, (World.putObj_heap_other (by omega)).trans h5⟩
  case h0 =>
    intro B hB
    exact ⟨[], _, hOx.on hB, rfl, Nat.le_refl _, hBW3.trans (hB.mono hBW3.size), (hB.block _ (by omega)).trans ((hB3.block _ (by omega)).trans hBx)⟩
  case assign =>
    intro l x W K hK
    dsimp only [encR]
    gi_wp2
    exact hK
  case body =>
    rintro l pre x W0 Wb hl hlW ⟨cs, v, h1, h2, h3, h4, h5⟩ hpl hbel hnew
    obtain ⟨id, sv, sl⟩ := x
    have hO0 := Lib.hid (h1.on hbel)
    have HN := Lib.hid hnew.1
    have HB6 : Hid (Below W.heap.size W Wb) := h4.trans (hbel.mono h4.size)
    have HX3 : Hid (Wb.heap[W.heap.size]? = some (.cells #[.func (.func 29) #[] #[.pointer (some ⟨Bh, 0, none⟩)]] 58 (0, 0))) := (hbel.block _ (Array.getElem?_eq_some_iff.1 h5).1).trans h5
    have hbh := lt_of_cell HQ2.out
    have hp0 : Wb.cell? ⟨W.heap.size, 0, none⟩ = some (.func (.func 29) #[] #[.pointer (some ⟨Bh, 0, none⟩)]) := by simp [World.cell?, HX3.out]
    have hsl : sl.length * 32 ≤ 140737488355328 := hnew.2.2
    have KC : Hid (CallsIn (Fence.wide.inRound l) 17 Tryz.prog 29 #[.int .i64 id, sv, .pointer (some ⟨Bh, 0, none⟩)] Wb fun e w' => ∃ r, e = .returned r ∧ Own w' Wb.heap.size 52 r (foM d g f id sl) ∧ Below Wb.heap.size Wb w') :=
      CallsIn.inRound l (callsIn_wide.2 (merge1_walk Bh gv g d f id sv sl Wb (T.below HB6.out) ((HB6.out.cell hbh).trans HQ0.out) ((HB6.out.cell hbh).trans HQ1.out) ((HB6.out.cell hbh).trans HQ2.out) (HGG.out.on HB6.out) hg hnew.1.rd hsl))
    have hfC2 : (Fence.wide.inRound l).fn 29 := trivial
    have hcb : cs.length < 100000 := by omega
    obtain ⟨i0, hi, hz0, hz1, hz2⟩ := info_parts info_Pts
    have HCC : Hid (∀ u, (foM d g f id sl).length ≠ 0 → cut (cs ++ [(id, u, foM d g f id sl)]) = fosC (foM d g f) (cut (pre ++ [(id, sv, sl)]))) := fun u hne => by
      rw [cut_snoc, cut_snoc, fosC_snoc, if_neg hne, h2]
    have HC0 : Hid ((foM d g f id sl).length = 0 → cut cs = fosC (foM d g f) (cut (pre ++ [(id, sv, sl)]))) := fun he => by
      rw [cut_snoc, fosC_snoc, if_pos he, h2]
    have HH1 := Lib.hid h1
    clear hnew h1 h2 h4 h5 hbel hsl
    dsimp only
    gi_wp2_with fail
    refine KC.out.mono ?_
    rintro e w4 ⟨r4, rfl, hO4, hB4⟩
    have hO := hO0.out.on hB4
    have hAw : Away w4 (W.heap.size + 1) v.ownBlock r4 := Away.own hO0.out hO4
    have hOw : Own w4 W.heap.size 52 r4 (foM d g f id sl) := hO4.lower HB6.out.size
    have hR := hO4.rd
    have HB7 : Hid (Below W.heap.size W w4) := HB6.out.trans (hB4.mono HB6.out.size)
    have HX4 : Hid (w4.heap[W.heap.size]? = some (.cells #[.func (.func 29) #[] #[.pointer (some ⟨Bh, 0, none⟩)]] 58 (0, 0))) := (hB4.block _ (Array.getElem?_eq_some_iff.1 HX3.out).1).trans HX3.out
    have HK4 : Hid (KpB W.heap.size Wb w4) := ⟨hB4.mono HB6.out.size, fun k o hk _ => (hB4.block k (Array.getElem?_eq_some_iff.1 hk).1).trans hk⟩
    obtain ⟨A, c, e, hc, hA⟩ := hR
    subst e
    have q1 := hO.box.cell
    have HO := Lib.hid hO
    obtain ⟨sl4, hs4⟩ : ∃ s, s = foM d g f id sl := ⟨_, rfl⟩
    rw [← hs4] at hO4 hOw hc hA hAw HCC HC0 ⊢
    obtain ⟨n3, hn3'⟩ : ∃ n3, n3 = sl4.length := ⟨_, rfl⟩
    rw [← hn3'] at hc hAw hOw ⊢
    have HN3 := Lib.hid hn3'
    have HOw := Lib.hid hOw
    have hwb : W.heap.size ≤ (w4.alloc (.cells #[.int .i64 id, .slice A n3 c] 48)).heap.size := by
      have := HB7.out.size
      simp; omega
    have HX : Hid (∀ v' w5, w5.ownsRow W.heap.size 48 2 v' (cs.length + 1) (cs.flatMap ptC ++ [.int .i64 id, .slice A n3 c]) → (w4.alloc (.cells #[.int .i64 id, .slice A n3 c] 48)).grownBy w5 v.ownBlock →
        (v'.ownBlock = v.ownBlock ∨ v'.ownBlock = some (w4.alloc (.cells #[.int .i64 id, .slice A n3 c] 48)).heap.size) → OutP (w5.setCell ⟨W.heap.size + 1, 0, none⟩ v') W.heap.size (W.heap.size + 1) v' (cs ++ [(id, .slice A n3 c, sl4)]) ∧ Boxed w5 (W.heap.size + 1) 29 v) :=
      fun v' w5 ho hg hl => ⟨HO.out.push (x := (id, .slice A n3 c, sl4)) HOw.out hAw hg ho hl, (HO.out.box.alloc _).kept hg (HO.out.box.not_row (by decide) HO.out.row)⟩
    clear hA hOw hAw hn3' hO4 hB4 hs4 hp0 hO
    gi_wp2_with (first
      | (gi_at_builtin; refine wpListIn_append_own_at _ rfl _ _ 29 rfl W.heap.size 48 i0 _ 2 32 Tryz.underlying29 hi hz0 hz1 hz2 rfl (by decide) v cs.length (cs.flatMap ptC) rfl (HO.out.row.alloc _) ⟨_, 0, none⟩ 1 1 [.int .i64 id, .slice A n3 c] rfl rfl (cells2 _ _ _ _) (by simp [Value.oneCell']) (by unfold maxLen; omega) (by omega) hwb ?_; intro v' w5 hown5 hg5 _ hloc5; obtain ⟨g', cap', rfl⟩ := ownsRow_succ hown5; obtain ⟨hP5, hb5⟩ := HX.out _ _ hown5 hg5 hloc5; have hc5 := hb5.cell; have hf5 := hb5.frozen; have hown5 := Lib.hid hown5; have hg5 := Lib.hid hg5; have hP5 := Lib.hid hP5; have hloc5 := Lib.hid hloc5))
    · have hne : n3 ≠ 0 := by omega
      have hkp := HO.out.kpB (v' := .slice (some ⟨g', 0, none⟩) (cs.length + 1) cap') hg5.out HB7.out.size (by omega)
      exact ⟨HK4.out.trans hkp, _, ⟨_, hP5.out⟩, HCC.out _ (by rw [← HN3.out]; exact hne), by simp; omega, HB7.out.trans hkp.1, hkp.2 _ _ HX4.out rfl⟩
    · have he : n3 = 0 := by omega
      exact ⟨HK4.out, cs, ⟨_, HO.out⟩, HC0.out (by rw [← HN3.out]; exact he), by first | omega | (simp; omega), HB7.out, HX4.out⟩
  case done =>
    rintro xs W0 W2 ⟨ks, hK, hS⟩ ⟨cs, v, h1, h2, h3, h4, h5⟩ hbel hD hdef
    have hO := h1.on hbel
    have hc := hO.box.cell
    have hfin := Lib.hid (hO.put (.deferred none) hdef rfl).rdO
    have h2' : Hid (cut cs = fosC (foM d g f) (outs ll.flatten ks)) := by show _ = _; rw [h2, hS]
    have hBf : Hid (Below W.heap.size W (W2.putObj w3.heap.size (.deferred none))) := by
      have h6 := h4.trans (hbel.mono h4.size)
      exact ⟨h6.os, h6.tape, h6.output, by rw [World.putObj_size]; exact h6.size, fun k hk => (World.putObj_heap_other (by omega)).trans (h6.block k hk)⟩
    have HKs := Lib.hid hK
    clear h2 h3 h4 h5 h1 hO hS hbel hK
    gi_wp2
    refine ⟨by simp, .inl ⟨_, _, rfl, run_takeDeferred hdef, ?_⟩⟩
    exact ⟨_, results_tmp rfl _ _ _, v, ks, rfl, HKs.out, by have h := hfin.out; rwa [h2'.out] at h, hBf.out⟩
end Go.Proofs.YtkcipfmbkokfdaaGreatDoor
