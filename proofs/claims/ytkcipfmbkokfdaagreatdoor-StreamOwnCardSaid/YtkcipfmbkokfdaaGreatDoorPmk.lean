/-
  stream.made at stream.Clean's closure.
-/
import Derived.Test.YtkcipfmbkokfdaaGreatDoorQok
import Derived.Test.YtkcipfmbkokfdaaGreatDoorKsk
namespace Go.Proofs.YtkcipfmbkokfdaaGreatDoor
open Go.RowKit Go.Sort Go.Maps
attribute [local go_sem] Oper.semAt_some
set_option maxRecDepth 100000 in
theorem clean1_walk (id : Int) (r : Value) (W : World) : Calls Tryz.prog 41 #[.int .i64 id, r] W fun e w' => e = .returned r ∧ w' = W := by
  go_enter Tryz.func41, Tryz.ntmps41
  go_wp2_with fail
  go_ret
  exact ⟨rfl, rfl⟩
set_option maxRecDepth 100000 in
theorem sorted_call (mb : Option Nat) (W : World) : Calls Tryz.prog 45 #[.map mb] W fun e w' => e = .returned (.func (.func 61) #[] #[.pointer (some ⟨W.heap.size, 0, none⟩)]) ∧ w' = W.alloc (.cells #[.map mb] 69) := by
  go_enter Tryz.func45, Tryz.ntmps45
  go_wp2_with fail
  go_ret
  exact ⟨rfl, rfl⟩
theorem RdR.on {w w' : World} {v : Value} {ll : List (List Pts)} (h : RdR w w.heap.size v ll) (k : Below w.heap.size w w') : RdR w' w'.heap.size v ll := by
  obtain ⟨A, c, e, hc, hA⟩ := h
  exact ⟨A, c, e, hc, hA.imp id fun ⟨b, o, e, hb, hcl⟩ => ⟨b, o, e, Nat.lt_of_lt_of_le hb k.size, fun i hi => by
    obtain ⟨sv, h1, h2⟩ := hcl i hi
    exact ⟨sv, (k.cell hb).trans h1, (h2.below k).mono k.size⟩⟩⟩
theorem NewR.put {A B : World} {x : Row} (l : Nat) (o : Obj) (h : NewR A B x) (hl : l < A.heap.size) : NewR (A.putObj l o) (B.putObj l o) x := by
  refine ⟨?_, h.2⟩
  rw [World.putObj_size]
  refine h.1.kept (grownBy_putObj' B l o) ?_
  cases hv : x.2.1.ownBlock with
  | none => exact .inl rfl
  | some g => exact .inr (by have := (h.1.blk hv).1; intro e; injection e with e; omega)
theorem cells2 (w : World) (a b : Value) (t : TypeId) : ∀ (j : Nat) (u : Value), ([a, b] : List Value)[j]? = some u → (w.alloc (.cells #[a, b] t)).cell? (Addr.add ⟨w.heap.size, 0, none⟩ j) = some u := by
  intro j u hj
  rcases j with _ | _ | j
  · simp at hj; subst hj; simp [Addr.add]
  · simp at hj; subst hj; simp [Addr.add]
  · simp at hj
theorem info_Pts : (Tryz.prog.info? 48).map (fun i => (i.zero, i.size, i.bytes)) = some (some (.agg #[.int .i64 0, .slice none 0 0]), 2, 32) := by kernel_rfl
/-- What is kept of the points. -/
def fosC (FO : Int → List Smp → List Smp) (l : List Pts) : List Pts := (l.map (fun p => (p.1, FO p.1 p.2))).filter (fun p => p.2.length ≠ 0)
theorem cut_snoc (l : List Row) (x : Row) : cut (l ++ [x]) = cut l ++ [(x.1, x.2.2)] := by simp [cut]
theorem fosC_snoc (FO : Int → List Smp → List Smp) (l : List Pts) (p : Pts) : fosC FO (l ++ [p]) = if (FO p.1 p.2).length = 0 then fosC FO l else fosC FO l ++ [(p.1, FO p.1 p.2)] := by
  unfold fosC
  rw [List.map_append, List.filter_append]
  by_cases h : (FO p.1 p.2).length = 0
  · rw [if_pos h]; simp; exact List.eq_nil_of_length_eq_zero h
  · rw [if_neg h]; simp; exact fun e => h (by rw [e]; rfl)
set_option maxRecDepth 100000 in
set_option maxHeartbeats 2000000 in
theorem madeC_walk (vl : Value) (ll : List (List Pts)) (W : World) (T : Tabs W) (hR : RdR W W.heap.size vl ll) (hwf : ∀ r ∈ ll, ∀ p ∈ r, (Lit.int .i64 p.1).wf = true) (hn1 : ll.length ≤ 100000) (hn2 : ll.flatten.length ≤ 100000) (hn3 : (ll.flatten.flatMap (fun p => p.2)).length ≤ 100000) :
    Calls Tryz.prog 28 #[vl, .func (.func 41) #[] #[]] W fun e w' => ∃ v ks, e = .returned v ∧ IsKeys ll.flatten ks ∧ RdO w' W.heap.size v (fosC (fun _ s => s) (outs ll.flatten ks)) ∧ Below W.heap.size W w' := by
  refine (callsIn_wide (n := 20)).1 ?_
  have hfG : Fence.wide.fn 43 := trivial
  have hfS : Fence.wide.fn 45 := trivial
  have hfC : Fence.wide.fn 41 := trivial
  have KG : Hid (∀ w', Below W.heap.size W w' → CallsIn Fence.wide 19 Tryz.prog 43 #[vl] w' fun e w'' => e = .returned (.map (some w'.heap.size)) ∧ Gath w'' w'.heap.size ll.flatten ∧ Below w'.heap.size w' w'') := fun w' hb =>
    callsIn_wide.2 (gather_walk vl ll w' (hR.on hb) hwf hn1 hn2 hn3)
  have KS : ∀ mb w', CallsIn Fence.wide 19 Tryz.prog 45 #[.map mb] w' fun e w'' => e = .returned (.func (.func 61) #[] #[.pointer (some ⟨w'.heap.size, 0, none⟩)]) ∧ w'' = w'.alloc (.cells #[.map mb] 69) := fun mb w' => callsIn_wide.2 (sorted_call mb w')
  have hB1 : Below W.heap.size W ((W.alloc (.cells #[.func (.func 41) #[] #[]] 58)).alloc (.cells #[.slice none 0 0] 29)) := ((Below.refl _ W).alloc (Nat.le_refl _) _).alloc (by simp) _
  have KG1 := KG.out _ hB1
  refine callsIn_of_wp_marks Tryz.func28 rfl trivial ?_ rfl
  simp only [Tryz.ntmps28, List.size_toArray, List.length_cons, List.length_nil, Nat.reduceAdd, Nat.reduceSub, Array.replicate_succ, Array.replicate_zero, List.push_toArray, List.append_toArray, List.nil_append, List.cons_append]
  gi_wp2_with (first
    | (gi_at_call 43; refine KG1.mono ?_; rintro e w1 ⟨rfl, hG, hGb⟩)
    | (gi_at_call 45; refine (KS _ _).mono ?_; rintro e w2 ⟨rfl, rfl⟩))
  have hsz1 : W.heap.size + 2 ≤ w1.heap.size := by have := hGb.size; simp at this; omega
  have hlen : ∀ k, (ofL ll.flatten k).length * 32 ≤ 140737488355328 := fun k => by have := ofL_len ll.flatten k; omega
  have hGb2 := hGb
  obtain ⟨b, hb⟩ : ∃ b, b = W.heap.size + 1 + 1 := ⟨_, rfl⟩
  simp only [World.size_alloc] at hG hGb
  rw [← hb] at hG hGb ⊢
  have HB := Lib.hid hb
  clear hb
  obtain ⟨w3, hw3⟩ : ∃ w3, w3 = w1.alloc (.cells #[.map (some b)] 69) := ⟨_, rfl⟩
  have hB3 : Below w1.heap.size w1 w3 := by rw [hw3]; exact (Below.refl _ _).alloc (Nat.le_refl _) _
  have hsz3 : w3.heap.size = w1.heap.size + 1 := by rw [hw3]; simp
  have hBW3 : Below W.heap.size W w3 := (hB1.trans (hGb2.mono (by simp; omega))).trans (hB3.mono (by omega))
  have hG3 : Gath w3 b ll.flatten := hG.on hB3
  have hBm : w3.heap[w1.heap.size]? = some (.cells #[.map (some b)] 69 (0, 0)) := by rw [hw3]; exact World.alloc_heap_new _ _
  have hBx : w1.heap[W.heap.size]? = some (.cells #[.func (.func 41) #[] #[]] 58 (0, 0)) :=
    (hGb2.block _ (by simp; omega)).trans ((Below.heap_alloc _ _ _ (by simp)).trans (World.alloc_heap_new _ _))
  have hOx : OutP w3 W.heap.size (W.heap.size + 1) (.slice none 0 0) [] := by
    have h := OutP.new (W.alloc (.cells #[.func (.func 41) #[] #[]] 58)) W.heap.size
    simp only [World.size_alloc] at h
    exact (h.on (by simpa using hGb2)).on hB3
  rw [← hw3]
  clear hw3
  refine range_ok (Z := W.heap.size) (N := ll.flatten.length) (F := Fence.wide) (n := 20) rfl (by omega) (gf := 61) (lb := #[.pointer (some ⟨w1.heap.size, 0, none⟩)]) rfl trivial (enters_of Tryz.func61 (by kernel_rfl) rfl) (encs := encR) (New := NewR) (S := SR ll.flatten) (w0 := w3) hBW3.size
    (iter_sorted W.heap.size 19 w1.heap.size b ll.flatten w3 (by omega) hBm hBW3.size (fun W' hb' => T.below (hBW3.trans hb')) hG3 hn2 hlen) (Below.refl _ _) (fun _ => rfl) (fun A B x l o h hl => NewR.put l o h hl)
    (fun pre W1 => ∃ cs v, OutP W1 W.heap.size (W.heap.size + 1) v cs ∧ cut cs = fosC (fun _ s => s) (cut pre) ∧ cs.length ≤ pre.length ∧ Below W.heap.size W W1 ∧ W1.heap[W.heap.size]? = some (.cells #[.func (.func 41) #[] #[]] 58 (0, 0)))
    ?hI ?h0 (fun x => { tmps := #[vl, .func (.func 41) #[] #[], undef, .pointer (some ⟨W.heap.size, 0, none⟩), .slice none 0 0, .pointer (some ⟨W.heap.size + 1, 0, none⟩), .int .i64 x.1, x.2.1, vl, .map (some b), .func (.func 61) #[] #[.pointer (some ⟨w1.heap.size, 0, none⟩)], .int .i64 x.1, x.2.1, undef, undef, undef, undef, undef, undef, undef, undef, undef, undef, undef, undef, undef, undef], defers := [] }) ?assign ?body ?done
  case hI =>
    rintro s A l r o ⟨cs, v, h1, h2, h3, h4, h5⟩ hl hr
    have hl' : W.heap.size < l := by omega
    exact ⟨cs, v, h1.put o hr rfl, h2, h3, ⟨h4.os, h4.tape, h4.output, by rw [World.putObj_size]; exact h4.size, fun k hk => (World.putObj_heap_other (by omega)).trans (h4.block k hk)⟩, (World.putObj_heap_other (by omega)).trans h5⟩
  case h0 =>
    intro B hB
    exact ⟨[], _, hOx.on hB, rfl, Nat.le_refl _, hBW3.trans (hB.mono hBW3.size), (hB.block _ (by omega)).trans ((hB3.block _ (by omega)).trans hBx)⟩
  case assign =>
    intro l x W K hK
    dsimp only [encR]
    gi_wp2
    exact hK
  case body =>
    rintro l pre x W0 Wb hl hlW ⟨cs, v, h1, h2, h3, h4, h5⟩ hpl hbel hnew
    obtain ⟨id, sv, sl⟩ := x
    have hO := h1.on hbel
    have hR := hnew.1.rd
    have hOw : Own Wb W.heap.size 52 sv sl := hnew.1.lower h4.size
    have hAw : Away Wb (W.heap.size + 1) v.ownBlock sv := Away.own h1 hnew.1
    have HC1 : Hid (∀ u, sl.length ≠ 0 → cut (cs ++ [(id, u, sl)]) = fosC (fun _ s => s) (cut (pre ++ [(id, u, sl)]))) := fun u hne => by
      rw [cut_snoc, cut_snoc, fosC_snoc, if_neg hne, h2]
    have HC0 : Hid (∀ u, sl.length = 0 → cut cs = fosC (fun _ s => s) (cut (pre ++ [(id, u, sl)]))) := fun u he => by
      rw [cut_snoc, fosC_snoc, if_pos he, h2]
    have HB6 : Hid (Below W.heap.size W Wb) := h4.trans (hbel.mono h4.size)
    have HX3 : Hid (Wb.heap[W.heap.size]? = some (.cells #[.func (.func 41) #[] #[]] 58 (0, 0))) := (hbel.block _ (Array.getElem?_eq_some_iff.1 h5).1).trans h5
    obtain ⟨A, c, e, hc, hA⟩ := hR
    dsimp only at e hc hA
    subst e
    have q0 : Wb.cell? ⟨W.heap.size, 0, none⟩ = some (.func (.func 41) #[] #[]) := by simp [World.cell?, (hbel.block _ (Array.getElem?_eq_some_iff.1 h5).1).trans h5]
    have q1 := hO.box.cell
    have HO := Lib.hid hO
    have KC : ∀ id r w', CallsIn (Fence.wide.inRound l) 17 Tryz.prog 41 #[.int .i64 id, r] w' fun e w'' => e = .returned r ∧ w'' = w' := fun id r w' => CallsIn.inRound l (callsIn_wide.2 (clean1_walk id r w'))
    have hfC2 : (Fence.wide.inRound l).fn 41 := trivial
    dsimp only
    obtain ⟨n3, hn3'⟩ : ∃ n3, n3 = sl.length := ⟨_, rfl⟩
    rw [← hn3'] at hc hOw ⊢
    have HOw := Lib.hid hOw
    have HN3 := Lib.hid hn3'
    have hcb : cs.length < 100000 := by omega
    obtain ⟨i0, hi, hz0, hz1, hz2⟩ := info_parts info_Pts
    have hwb : W.heap.size ≤ (Wb.alloc (.cells #[.int .i64 id, .slice A n3 c] 48)).heap.size := by
      have := h4.size
      have := hbel.size
      simp; omega
    have HX : Hid (∀ v' w5, w5.ownsRow W.heap.size 48 2 v' (cs.length + 1) (cs.flatMap ptC ++ [.int .i64 id, .slice A n3 c]) → (Wb.alloc (.cells #[.int .i64 id, .slice A n3 c] 48)).grownBy w5 v.ownBlock →
        (v'.ownBlock = v.ownBlock ∨ v'.ownBlock = some (Wb.alloc (.cells #[.int .i64 id, .slice A n3 c] 48)).heap.size) → OutP (w5.setCell ⟨W.heap.size + 1, 0, none⟩ v') W.heap.size (W.heap.size + 1) v' (cs ++ [(id, .slice A n3 c, sl)]) ∧ Boxed w5 (W.heap.size + 1) 29 v) :=
      fun v' w5 ho hg hl => ⟨HO.out.push (x := (id, .slice A n3 c, sl)) HOw.out (by rw [hn3']; exact hAw) hg ho hl, (HO.out.box.alloc _).kept hg (HO.out.box.not_row (by decide) HO.out.row)⟩
    clear hnew hA hOw hAw hn3' h1
    gi_wp2_with (first
      | (gi_at_call 41; refine (KC _ _ _).mono ?_; rintro e w4 ⟨rfl, rfl⟩)
      | (gi_at_builtin; refine wpListIn_append_own_at _ rfl _ _ 29 rfl W.heap.size 48 i0 _ 2 32 Tryz.underlying29 hi hz0 hz1 hz2 rfl (by decide) v cs.length (cs.flatMap ptC) rfl (HO.out.row.alloc _) ⟨_, 0, none⟩ 1 1 [.int .i64 id, .slice A n3 c] rfl rfl (cells2 _ _ _ _) (by simp [Value.oneCell']) (by unfold maxLen; omega) (by omega) hwb ?_; intro v' w5 hown5 hg5 _ hloc5; obtain ⟨g', cap', rfl⟩ := ownsRow_succ hown5; obtain ⟨hP5, hb5⟩ := HX.out _ _ hown5 hg5 hloc5; have hc5 := hb5.cell; have hf5 := hb5.frozen; have hown5 := Lib.hid hown5; have hg5 := Lib.hid hg5; have hP5 := Lib.hid hP5; have hloc5 := Lib.hid hloc5))
    · have hne : n3 ≠ 0 := by omega
      have hkp := HO.out.kpB (v' := .slice (some ⟨g', 0, none⟩) (cs.length + 1) cap') hg5.out HB6.out.size (by omega)
      exact ⟨hkp, _, ⟨_, hP5.out⟩, HC1.out _ (by rw [← HN3.out]; exact hne), by simp; omega, HB6.out.trans hkp.1, hkp.2 _ _ HX3.out rfl⟩
    · have he : n3 = 0 := by omega
      exact ⟨KpB.refl _ _, cs, ⟨_, HO.out⟩, HC0.out _ (by rw [← HN3.out]; exact he), by omega, HB6.out, HX3.out⟩
  case done =>
    rintro xs W0 W2 ⟨ks, hK, hS⟩ ⟨cs, v, h1, h2, h3, h4, h5⟩ hbel hD hdef
    have hO := h1.on hbel
    have hc := hO.box.cell
    have hfin := Lib.hid (hO.put (.deferred none) hdef rfl).rdO
    have h2' : Hid (cut cs = fosC (fun _ s => s) (outs ll.flatten ks)) := by show _ = _; rw [h2, hS]
    have hBf : Hid (Below W.heap.size W (W2.putObj w3.heap.size (.deferred none))) := by
      have h6 := h4.trans (hbel.mono h4.size)
      exact ⟨h6.os, h6.tape, h6.output, by rw [World.putObj_size]; exact h6.size, fun k hk => (World.putObj_heap_other (by omega)).trans (h6.block k hk)⟩
    have HKs := Lib.hid hK
    clear h2 h3 h4 h5 h1 hO hS hbel hK
    gi_wp2
    refine ⟨by simp, .inl ⟨_, _, rfl, run_takeDeferred hdef, ?_⟩⟩
    exact ⟨_, results_tmp rfl _ _ _, v, ks, rfl, HKs.out, by have h := hfin.out; rwa [h2'.out] at h, hBf.out⟩
end Go.Proofs.YtkcipfmbkokfdaaGreatDoor

/-
  stream.Clean.
-/
namespace Go.Proofs.YtkcipfmbkokfdaaGreatDoor
open Go.RowKit Go.Sort Go.Maps
attribute [local go_sem ↓] Go.wp_at_zero Go.wp_at_succ
theorem RdR.one {w : World} {v : Value} {l : List Pts} (h : RdP w w.heap.size v l) (t : TypeId) : RdR (w.alloc (.cells #[v] t)) (w.alloc (.cells #[v] t)).heap.size (.slice (some ⟨w.heap.size, 0, none⟩) 1 1) [l] :=
  ⟨_, 1, rfl, Nat.le_refl _, .inr ⟨w.heap.size, 0, rfl, by simp, fun i hi => by
    have hi0 : i = 0 := by simpa using hi
    subst hi0
    exact ⟨v, by simp, (h.below ((Below.refl _ w).alloc (Nat.le_refl _) _)).mono (by simp)⟩⟩⟩
set_option maxRecDepth 100000 in
set_option maxHeartbeats 1000000 in
theorem sclean_walkO (v : Value) (l : List Pts) (W : World) (T : Tabs W) (hR : RdP W W.heap.size v l) (hwf : ∀ p ∈ l, (Lit.int .i64 p.1).wf = true) (hn2 : l.length ≤ 100000) (hn3 : (l.flatMap (fun p => p.2)).length ≤ 100000) :
    Calls Tryz.prog 19 #[v] W fun e w' => ∃ r ks, e = .returned r ∧ IsKeys l ks ∧ RdO w' W.heap.size r (fosC (fun _ s => s) (outs l ks)) ∧ Below W.heap.size W w' := by
  have hB : Below W.heap.size W (W.alloc (.cells #[v] 29)) := (Below.refl _ W).alloc (Nat.le_refl _) _
  have K := madeC_walk (.slice (some ⟨W.heap.size, 0, none⟩) 1 1) [l] (W.alloc (.cells #[v] 29)) (T.below hB) (RdR.one hR _) (fun r hr p hp => by rw [List.mem_singleton] at hr; subst hr; exact hwf p hp) (by simp) (by simpa using hn2) (by simpa using hn3)
  have hfl : ([l] : List (List Pts)).flatten = l := by simp
  rw [hfl] at K
  have HK := Lib.hid K
  have HB := Lib.hid hB
  obtain ⟨A, c, rfl, hc, _⟩ := hR
  clear K hB hwf hn3 T hfl
  go_enter Tryz.func19, Tryz.ntmps19
  go_wp2_with (go_at_call 28; refine HK.out.mono ?_; rintro e w1 ⟨r, ks, rfl, h1, h2, h3⟩; have h1 := Lib.hid h1; have h2 := Lib.hid h2; have h3 := Lib.hid h3)
  go_ret
  exact ⟨r, ks, rfl, h1.out, h2.out.lower HB.out.size, HB.out.trans (h3.out.mono HB.out.size)⟩
theorem sclean_walk (v : Value) (l : List Pts) (W : World) (T : Tabs W) (hR : RdP W W.heap.size v l) (hwf : ∀ p ∈ l, (Lit.int .i64 p.1).wf = true) (hn2 : l.length ≤ 100000) (hn3 : (l.flatMap (fun p => p.2)).length ≤ 100000) :
    Calls Tryz.prog 19 #[v] W fun e w' => ∃ r ks, e = .returned r ∧ IsKeys l ks ∧ RdP w' w'.heap.size r (fosC (fun _ s => s) (outs l ks)) ∧ Below W.heap.size W w' :=
  (sclean_walkO v l W T hR hwf hn2 hn3).mono fun _ _ ⟨r, ks, h1, h2, h3, h4⟩ => ⟨r, ks, h1, h2, h3.rdP, h4⟩
end Go.Proofs.YtkcipfmbkokfdaaGreatDoor

/-
  stream.Of.
-/
namespace Go.Proofs.YtkcipfmbkokfdaaGreatDoor
open Go.RowKit Go.Sort Go.Maps
attribute [local go_sem ↓] Go.wp_at_zero Go.wp_at_succ
set_option maxRecDepth 100000 in
set_option maxHeartbeats 1000000 in
theorem sof_walk (v : Value) (l : List Pts) (id : Int) (W : World) (T : Tabs W) (hR : RdP W W.heap.size v l) (hwf : ∀ p ∈ l, (Lit.int .i64 p.1).wf = true) (hid : (Lit.int .i64 id).wf = true) (hn2 : l.length ≤ 100000) (hn3 : (l.flatMap (fun p => p.2)).length ≤ 100000) :
    Calls Tryz.prog 22 #[v, .int .i64 id] W fun e w' => ∃ r, e = .returned r ∧ Own w' W.heap.size 52 r (sortS (ofL l id)) ∧ Below W.heap.size W w' := by
  have hB : Below W.heap.size W (W.alloc (.cells #[v] 29)) := (Below.refl _ W).alloc (Nat.le_refl _) _
  have K := gather_walk (.slice (some ⟨W.heap.size, 0, none⟩) 1 1) [l] (W.alloc (.cells #[v] 29)) (RdR.one hR _) (fun r hr p hp => by rw [List.mem_singleton] at hr; subst hr; exact hwf p hp) (by simp) (by simpa using hn2) (by simpa using hn3)
  have hfl : ([l] : List (List Pts)).flatten = l := by simp
  rw [hfl] at K
  have HK := Lib.hid K
  have HB := Lib.hid hB
  have HT := Lib.hid T
  have HL : Hid ((ofL l id).length * 32 ≤ 140737488355328) := by
    have := ofL_len l id
    show _ ≤ _
    omega
  obtain ⟨A, c, rfl, hc, _⟩ := hR
  clear K hB hwf hn3 T hfl
  go_enter Tryz.func22, Tryz.ntmps22
  go_wp2_with (first
    | (go_at_call 43; refine HK.out.mono ?_; rintro e w1 ⟨rfl, hG, hGb⟩; obtain ⟨u, huo, hl0, _, _⟩ := hG.round (p := (id, [])) hid (by omega); have hq := hl0 w1 ⟨rfl, rfl, rfl, Nat.le_refl _, fun _ _ _ => rfl⟩; dsimp only at hq huo; simp only [World.size_alloc] at hq; have HBW := Lib.hid (HB.out.trans (hGb.mono HB.out.size)); have KS := Lib.hid (dsort_walk u _ w1 (HT.out.below HBW.out) huo.rd HL.out); clear huo hl0 hG hGb)
    | (go_at_call 42; refine KS.out.mono ?_; rintro e w2 ⟨r, rfl, hro, hrb⟩; have hro := Lib.hid hro; have hrb := Lib.hid hrb))
  go_ret
  exact ⟨r, rfl, hro.out.lower HBW.out.size, HBW.out.trans (hrb.out.mono HBW.out.size)⟩
end Go.Proofs.YtkcipfmbkokfdaaGreatDoor

/-
  stream.Many.
-/
namespace Go.Proofs.YtkcipfmbkokfdaaGreatDoor
open Go.RowKit Go.Sort Go.Maps
attribute [local go_sem ↓] Go.wp_at_zero Go.wp_at_succ
def manyL (l : List Pts) : Nat := (l.flatMap (fun p => p.2)).length
theorem manyL_snoc (l : List Pts) (p : Pts) : manyL (l ++ [p]) = manyL l + p.2.length := by simp [manyL]
theorem manyL_take (l : List Pts) (k : Nat) : manyL (l.take k) ≤ manyL l := by
  have e : manyL (l.take k ++ l.drop k) = manyL (l.take k) + manyL (l.drop k) := by unfold manyL; rw [List.flatMap_append, List.length_append]
  rw [List.take_append_drop] at e
  omega
set_option maxRecDepth 100000 in
set_option maxHeartbeats 1000000 in
theorem smany_walk (v : Value) (l : List Pts) (W : World) (T : Tabs W) (hR : RdP W W.heap.size v l) (hwf : ∀ p ∈ l, (Lit.int .i64 p.1).wf = true) (hn2 : l.length ≤ 100000) (hn3 : (l.flatMap (fun p => p.2)).length ≤ 100000)
    (hb : ∀ ks, IsKeys l ks → (fosC (fun _ s => s) (outs l ks)).length ≤ 100000 ∧ manyL (fosC (fun _ s => s) (outs l ks)) ≤ 100000) :
    Calls Tryz.prog 24 #[v] W fun e w' => ∃ ks, e = .returned (.int .i64 (manyL (fosC (fun _ s => s) (outs l ks)))) ∧ IsKeys l ks ∧ Below W.heap.size W w' := by
  have HK := Lib.hid (sclean_walk v l W T hR hwf hn2 hn3)
  have HBd := Lib.hid hb
  obtain ⟨A, c, rfl, hc, _⟩ := hR
  clear hwf hn3 T hb
  go_enter Tryz.func24, Tryz.ntmps24
  go_wp2_with (go_at_call 19; refine HK.out.mono ?_; rintro e w1 ⟨r, ks, rfl, h1, h2, h3⟩; obtain ⟨q, hq⟩ : ∃ q, q = fosC (fun _ s => s) (outs l ks) := ⟨_, rfl⟩; obtain ⟨b1, b2⟩ := HBd.out ks h1; rw [← hq] at h2 b1 b2; have HQ := Lib.hid hq; have HIK := Lib.hid h1; have HB := Lib.hid h3; obtain ⟨A2, c2, rfl, hc2, hA2⟩ := h2; obtain ⟨m, hm⟩ : ∃ m, m = q.length := ⟨_, rfl⟩; rw [← hm] at hc2 b1; rw [← hm]; have HM := Lib.hid hm; have HA := Lib.hid hA2; clear hq h1 h3 hA2 hm)
  go_loopw [3, 9] (fun s i wl => ∃ k : Nat, k ≤ m ∧ s = .int .i64 (manyL (q.take k)) ∧ i = .int .i64 k ∧ Hid (Below w1.heap.size w1 wl)) (fun _ i _ => m - (intOf i).toNat)
  case atStart => exact ⟨0, Nat.zero_le _, rfl, rfl, Below.refl _ _⟩
  case round =>
    obtain ⟨k, hk, rfl, rfl, HB2⟩ := hrel
    by_cases hlt : k < m
    · have hkl : k < q.length := by rw [← HM.out]; exact hlt
      rcases HA.out with h0 | ⟨b3, o3, e, hb3, hcl⟩
      · subst h0; simp at hkl
      subst e
      obtain ⟨p, hp⟩ : ∃ p, p = q[k] := ⟨_, rfl⟩
      obtain ⟨c3, sv, c4, hsv, _⟩ : PtAt wr w1.heap.size b3 (o3 + k * 2) p := by rw [hp]; exact (hcl k hkl).below HB2.out hb3
      obtain ⟨A4, c5, rfl, hc5, _⟩ := hsv
      have htk : q.take (k + 1) = q.take k ++ [p] := by rw [hp]; exact List.take_succ_eq_append_getElem hkl
      have hsum : manyL (q.take (k + 1)) = manyL (q.take k) + p.2.length := by rw [htk, manyL_snoc]
      have hsb := manyL_take q (k + 1)
      obtain ⟨t0, ht0⟩ : ∃ t, t = manyL (q.take k) := ⟨_, rfl⟩
      obtain ⟨n5, hn5⟩ : ∃ n, n = p.2.length := ⟨_, rfl⟩
      rw [← ht0, ← hn5] at hsum
      rw [← hn5] at c4 hc5
      rw [← ht0]
      have HS := Lib.hid hsum
      have i1 : (k : Int) < (m : Int) := by omega
      have i2 : t0 + n5 ≤ 100000 := by omega
      clear hp hcl htk hsum hsb ht0 hn5
      go_wp2_with fail
      go_roundw
      case rel => exact ⟨k + 1, by omega, by rw [HS.out]; go_num, by go_num, HB2.out.trans ((Below.refl _ wr).alloc HB2.out.size _)⟩
      case measure => simp [intOf]; omega
    · have hkm : k = m := by omega
      have hfin : Hid (q.take k = q) := by show _ = _; rw [hkm, HM.out, List.take_length]
      clear hkm
      go_wp2_with fail
      go_ret
      exact ⟨ks, by rw [hfin.out, HQ.out]; rfl, HIK.out, HB.out.trans (HB2.out.mono HB.out.size)⟩
end Go.Proofs.YtkcipfmbkokfdaaGreatDoor

/-
  The numbers that are there, rising, are one list.
-/
namespace Go.Proofs.YtkcipfmbkokfdaaGreatDoor
theorem IsKeys.uniq {l : List Pts} {a b : List Int} (ha : IsKeys l a) (hb : IsKeys l b) : a = b := by
  have na : a.Nodup := ha.1.imp fun h => by omega
  have nb : b.Nodup := hb.1.imp fun h => by omega
  have hp : a.Perm b := (List.perm_ext_iff_of_nodup na nb).2 fun x => (ha.2 x).trans (hb.2 x).symm
  refine List.Perm.eq_of_pairwise (le := fun x y : Int => x ≤ y) (fun x y _ _ h1 h2 => by omega) (ha.1.imp fun h => by omega) (hb.1.imp fun h => by omega) hp
theorem mem_outs {l : List Pts} {ks : List Int} (h : IsKeys l ks) (p : Pts) : p ∈ outs l ks ↔ hasL l p.1 = true ∧ inR p.1 = true ∧ p.2 = sortS (ofL l p.1) := by
  unfold outs
  rw [List.mem_map]
  constructor
  · rintro ⟨k, hk, rfl⟩
    rw [List.mem_filter] at hk
    exact ⟨(h.2 k).1 hk.1, hk.2, rfl⟩
  · rintro ⟨h1, h2, h3⟩
    exact ⟨p.1, List.mem_filter.2 ⟨(h.2 _).2 h1, h2⟩, by rw [← h3]⟩
end Go.Proofs.YtkcipfmbkokfdaaGreatDoor
