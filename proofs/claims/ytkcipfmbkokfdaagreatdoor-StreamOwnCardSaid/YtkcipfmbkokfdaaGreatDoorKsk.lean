import Derived.Test.YtkcipfmbkokfdaaGreatDoorGbk
import Derived.Deep.RegionHeld3
import Derived.Deep.DrawnRows
import Derived.StillTailTactics
import Derived.RangeFuncNested
import Derived.RangeFuncBound
import Derived.RangeFuncCalls
import Derived.RangeFuncLeaves
import Derived.Test.YtkcipfmbkokfdaaGreatDoorBasek
import Derived.Shelf.SlIterI.Stops
import Derived.Shelf.SlIterI.Sorted
import Derived.Shelf.Sort.Plain
import Derived.Shelf.Slices.In.SortNone
import Derived.Test.YtkcipfmbkokfdaaGreatDoorMapShelf
namespace Go.Proofs.YtkcipfmbkokfdaaGreatDoor
open Go.RowKit Go.Sort Go.Maps
attribute [local go_sem ↓] Go.wp_at_zero Go.wp_at_succ
theorem ofL_len (l : List Pts) (k : Int) : (ofL l k).length ≤ (l.flatMap (fun p => p.2)).length := by
  induction l with
  | nil => exact Nat.le_refl _
  | cons a l ih =>
    unfold ofL at *
    rw [List.filter_cons]
    split
    · rw [List.flatMap_cons, List.flatMap_cons, List.length_append, List.length_append]; omega
    · rw [List.flatMap_cons, List.length_append]; omega
theorem flat_pre {ll : List (List Pts)} {k : Nat} (h : k < ll.length) (j : Nat) : ∃ r, ll.flatten = (ll.take k).flatten ++ (ll[k]).take j ++ r := by
  refine ⟨(ll[k]).drop j ++ (ll.drop (k + 1)).flatten, ?_⟩
  have e : ll = ll.take k ++ ll[k] :: ll.drop (k + 1) := by rw [← List.drop_eq_getElem_cons h, List.take_append_drop]
  have e2 : ll.flatten = (ll.take k ++ ll[k] :: ll.drop (k + 1)).flatten := congrArg List.flatten e
  rw [e2, List.flatten_append, List.flatten_cons, List.append_assoc, ← List.append_assoc (List.take j ll[k]), List.take_append_drop]
theorem flat_len {ll : List (List Pts)} {k : Nat} (h : k < ll.length) (j : Nat) : ((ll.take k).flatten ++ (ll[k]).take j).length ≤ ll.flatten.length := by
  obtain ⟨r, e⟩ := flat_pre h j
  have h2 := congrArg List.length e
  rw [List.length_append (bs := r)] at h2
  omega
theorem flat_lenS {ll : List (List Pts)} {k : Nat} (h : k < ll.length) (j : Nat) : (((ll.take k).flatten ++ (ll[k]).take j).flatMap (fun p => p.2)).length ≤ (ll.flatten.flatMap (fun p => p.2)).length := by
  obtain ⟨r, e⟩ := flat_pre h j
  have h2 := congrArg (fun l => (List.flatMap (fun p : Pts => p.2) l).length) e
  rw [List.flatMap_append (ys := r), List.length_append] at h2
  omega
theorem Gath.eq {w : World} {b : Nat} {l l' : List Pts} (h : Gath w b l) (e : l = l') : Gath w b l' := e ▸ h
theorem Gath.lt {w : World} {b : Nat} {l : List Pts} (h : Gath w b l) : b < w.heap.size := by
  obtain ⟨n, D, _, G⟩ := h
  exact G.map.lt
set_option maxRecDepth 100000 in
set_option maxHeartbeats 2000000 in
theorem gather_walk (v : Value) (ll : List (List Pts)) (W : World) (hR : RdR W W.heap.size v ll) (hwf : ∀ r ∈ ll, ∀ p ∈ r, (Lit.int .i64 p.1).wf = true) (hn1 : ll.length ≤ 100000) (hn2 : ll.flatten.length ≤ 100000) (hn3 : (ll.flatten.flatMap (fun p => p.2)).length ≤ 100000) :
    Calls Tryz.prog 43 #[v] W fun e w' => e = .returned (.map (some W.heap.size)) ∧ Gath w' W.heap.size ll.flatten ∧ Below W.heap.size W w' := by
  have hmm := @run_makeMap Tryz.prog
  obtain ⟨A, c, rfl, hc, hA⟩ := hR
  have HA := Lib.hid hA
  have HWF := Lib.hid hwf
  have HN2 := Lib.hid hn2
  have HN3 := Lib.hid hn3
  obtain ⟨n, hn⟩ : ∃ n, n = ll.length := ⟨_, rfl⟩
  rw [← hn] at hc hn1 ⊢
  have HN : Hid (n = ll.length) := hn
  clear hA hn hwf hn2 hn3
  go_enter Tryz.func43, Tryz.ntmps43
  go_wp2_with fail
  go_loopw [11] (fun i wl => ∃ k : Nat, k ≤ n ∧ i = .int .i64 k ∧ Hid (Gath wl W.heap.size (ll.take k).flatten) ∧ Hid (Below W.heap.size W wl)) (fun i _ => n - (intOf i).toNat)
  case atStart => exact ⟨0, Nat.zero_le _, rfl, Gath.made W, (Below.refl _ _).alloc (Nat.le_refl _) _⟩
  case round =>
    obtain ⟨k, hk, rfl, HG, HB⟩ := hrel
    by_cases hlt : k < n
    · have hkl : k < ll.length := by rw [← HN.out]; exact hlt
      rcases HA.out with h0 | ⟨b1, o1, e, hb1, hcl1⟩
      · subst h0; simp at hkl
      subst e
      obtain ⟨sv, hsv, hrow⟩ := hcl1 k hkl
      obtain ⟨row, hrw⟩ : ∃ row, row = ll[k] := ⟨_, rfl⟩
      rw [← hrw] at hrow
      have HRW := Lib.hid hrw
      have c0 : wr.cell? ⟨b1, o1 + k, none⟩ = some sv := (HB.out.cell hb1).trans hsv
      obtain ⟨A2, cc, rfl, hcc, hA2⟩ := hrow.below HB.out
      obtain ⟨m, hm⟩ : ∃ m, m = row.length := ⟨_, rfl⟩
      rw [← hm] at hcc c0
      have HM : Hid (m = row.length) := hm
      have HA2 := Lib.hid hA2
      have hml : m ≤ 100000 := by
        have h1 := HN2.out
        have : row.length ≤ ll.flatten.length := by rw [hrw]; exact (List.sublist_flatten_of_mem (List.getElem_mem hkl)).length_le
        omega
      have i1 : (k : Int) < (n : Int) := by omega
      clear hcl1 hsv hrow hrw hm hA2
      go_wp2_with fail
      go_loopw [17] (fun i wl => ∃ j : Nat, j ≤ m ∧ i = .int .i64 j ∧ Hid (Gath wl W.heap.size ((ll.take k).flatten ++ row.take j)) ∧ Hid (Below W.heap.size W wl) ∧ Hid (Below W.heap.size wr wl)) (fun i _ => m - (intOf i).toNat)
      case atStart => exact ⟨0, Nat.zero_le _, rfl, by show Gath _ _ _; rw [List.take_zero, List.append_nil]; exact HG.out, HB.out, Below.refl _ _⟩
      case round =>
        rename_i wo
        obtain ⟨j, hj, rfl, HG2, HB2, HBo⟩ := hrel
        by_cases hlt2 : j < m
        · have hjl : j < row.length := by rw [← HM.out]; exact hlt2
          rcases HA2.out with h0 | ⟨b2, o2, e2, hb2, hcl2⟩
          · subst h0; simp at hjl
          subst e2
          obtain ⟨p, hp⟩ : ∃ p, p = row[j] := ⟨_, rfl⟩
          obtain ⟨c1, ps, c2, hps, hnz⟩ : PtAt wr W.heap.size b2 (o2 + j * 2) p := by rw [hp]; exact (hcl2 j hjl).below HBo.out hb2
          have HP := Lib.hid hp
          have hpw : (Lit.int .i64 p.1).wf = true := HWF.out row (by rw [HRW.out]; exact List.getElem_mem hkl) p (by rw [HP.out]; exact List.getElem_mem hjl)
          have HPS := Lib.hid hps
          have HNZ := Lib.hid hnz
          obtain ⟨A3, c3, rfl, _, _⟩ := hps
          obtain ⟨n3, hn3⟩ : ∃ n3, n3 = p.2.length := ⟨_, rfl⟩
          rw [← hn3] at HPS HNZ c2
          clear hp hcl2 hnz hn3
          go_wp2_with fail
          obtain ⟨wp, hwp⟩ : ∃ wp, wp = wr.alloc (.cells #[.int .i64 p.1, .slice A3 n3 c3] 48) := ⟨_, rfl⟩
          have HBp : Hid (Below wr.heap.size wr wp) := by show Below _ _ _; rw [hwp]; exact (Below.refl _ _).alloc (Nat.le_refl _) _
          have d0 : wp.cell? ⟨wr.heap.size, 0, none⟩ = some (.int .i64 p.1) := by rw [hwp]; simp
          have d1 : wp.cell? ⟨wr.heap.size, 1, none⟩ = some (.slice A3 n3 c3) := by rw [hwp]; simp
          have hsz : wp.heap.size = wr.heap.size + 1 := by rw [hwp]; simp
          obtain ⟨v, hvr, hl0, hl1, hup⟩ := HG2.out.round hpw (by
            have h1 := HN2.out
            have h9 := flat_len hkl j
            rw [← HRW.out] at h9
            omega)
          have hlen : ((ofL ((ll.take k).flatten ++ row.take j) p.1).length + p.2.length) * 32 ≤ 140737488355328 := by
            have h1 := HN3.out
            have h9 := flat_lenS hkl (j + 1)
            rw [← HRW.out, List.take_succ_eq_append_getElem hjl, ← HP.out, ← List.append_assoc, List.flatMap_append, List.length_append] at h9
            have h8 := ofL_len ((ll.take k).flatten ++ row.take j) p.1
            have hp1 : ([p].flatMap (fun p : Pts => p.2)).length = p.2.length := by simp
            rw [hp1] at h9
            omega
          have hRp : Rd wp wp.heap.size (.slice A3 n3 c3) p.2 := (HPS.out.mono HB2.out.size).below HBp.out |>.mono HBp.out.size
          have hbs : W.heap.size + 1 ≤ wp.heap.size := by
            have := HB2.out.size
            omega
          have hgd : ∀ q, wr.grownBy (wp.drewN q) none := fun q => ⟨HBp.out.os, HBp.out.tape, HBp.out.output, HBp.out.size, fun i hi _ => HBp.out.block i hi⟩
          have hvo : Own wp (W.heap.size + 1) 52 v (ofL ((ll.take k).flatten ++ row.take j) p.1) := hvr.kept (hgd 0) (by cases v.ownBlock with | none => exact .inl rfl | some g => exact .inr (by simp))
          obtain ⟨lp, hlp⟩ : ∃ lp, lp = (ll.take k).flatten ++ row.take j := ⟨_, rfl⟩
          rw [← hlp] at hvr hvo hup hlen
          have hq0 : (Instr.lookup 69 (.map (some W.heap.size)) (.int .i64 p.1) false).run Tryz.prog wp.drew = .ok v wp.drew := hl0 _ (hgd 1)
          have e0 : wp.drew.cell? ⟨wr.heap.size, 0, none⟩ = some (.int .i64 p.1) := d0
          have e1 : wp.drew.cell? ⟨wr.heap.size, 1, none⟩ = some (.slice A3 n3 c3) := d1
          have HUP := Lib.hid hup
          have HL1 := Lib.hid hl1
          have HVO := Lib.hid hvo
          have HRP := Lib.hid hRp
          have hlt0 : W.heap.size < wr.heap.size := HG2.out.lt
          have HQ9 : Hid (∀ w1 w2, wp.drew.grownBy w1 v.ownBlock → w1.grownBy w2 (some W.heap.size) → Below W.heap.size wr w2) := fun w1 w2 g1 g2 => by
            have h5 : Below W.heap.size wr wp.drew := (fun h : Below W.heap.size wr wp => ⟨h.os, h.tape, h.output, h.size, h.block⟩) (HBp.out.mono (Nat.le_of_lt hlt0))
            have h6 : W.heap.size ≤ wp.drew.heap.size := by show W.heap.size ≤ wp.heap.size; omega
            refine (h5.grown g1 h6 fun q hq => ?_).grown g2 (Nat.le_trans h6 g1.size) fun q hq => by injection hq with hq; omega
            have := (hvr.blk hq).1
            omega
          have HNE : Hid (some wr.heap.size ≠ v.ownBlock) := by
            intro e9
            have := (hvr.blk e9.symm).2
            omega
          rw [← hwp]
          clear hup hl1 hvo hvr hRp hl0 hwp
          go_region_held3 (fun w' => w'.cell? ⟨wr.heap.size, 0, none⟩ = some (.int .i64 p.1) ∧ w'.cell? ⟨wr.heap.size, 1, none⟩ = some (.slice A3 n3 c3))
            (first | assumption | exact ⟨by assumption, by assumption⟩)
            ((refine step_appN (by rfl) _ _ 40 52 (by rfl) Tryz.underlying40 info_Smp (W.heap.size + 1) v _ _ p.2 wp.heap.size (by rfl) HVO.out (by rfl) HRP.out HNZ.out hlen hbs ?_; intro v1 w1 hown1 hg1 hloc1;
              have k0 : w1.cell? ⟨wr.heap.size, 0, none⟩ = some (.int .i64 p.1) := (hg1.cell_far _ (by show wr.heap.size < wp.heap.size; omega) HNE.out).trans e0;
              have k1 : w1.cell? ⟨wr.heap.size, 1, none⟩ = some (.slice A3 n3 c3) := (hg1.cell_far _ (by show wr.heap.size < wp.heap.size; omega) HNE.out).trans e1;
              obtain ⟨w2, hupd, hG3, hg3⟩ := HUP.out _ w1 v1 (hgd 1) hg1 hown1 hloc1;
              have hz1 : wp.heap.size ≤ w1.heap.size := hg1.size;
              have m0 : w2.cell? ⟨wr.heap.size, 0, none⟩ = some (.int .i64 p.1) := (hg3.cell_far _ (by show wr.heap.size < w1.heap.size; omega) (by intro e9; injection e9 with e9; have e9 : wr.heap.size = W.heap.size := e9; omega)).trans k0;
              have m1 : w2.cell? ⟨wr.heap.size, 1, none⟩ = some (.slice A3 n3 c3) := (hg3.cell_far _ (by show wr.heap.size < w1.heap.size; omega) (by intro e9; injection e9 with e9; have e9 : wr.heap.size = W.heap.size := e9; omega)).trans k1;
              have HG9 := Lib.hid hG3;
              have HB9 : Hid (Below W.heap.size wr w2) := HQ9.out _ _ hg1 hg3))
          have hg9 := Lib.hid (HG9.out.eq (show lp ++ [p] = (ll.take k).flatten ++ row.take (j + 1) by rw [hlp, HP.out, List.append_assoc, ← List.take_succ_eq_append_getElem hjl]))
          clear HG9 hlp
          go_wp2_with fail
          go_roundw
          case rel => exact ⟨j + 1, by omega, by go_num, hg9.out, HB2.out.trans HB9.out, HBo.out.trans HB9.out⟩
          case measure => simp [intOf]; omega
        · have hjm : j = m := by omega
          have hg9 : Hid (Gath wr W.heap.size (ll.take (k + 1)).flatten) := by
            have h := HG2.out
            rw [hjm, HM.out, List.take_length, HRW.out] at h
            have e : (ll.take (k + 1)).flatten = (ll.take k).flatten ++ ll[k] := by
              rw [List.take_succ_eq_append_getElem hkl, List.flatten_append, List.flatten_cons, List.flatten_nil, List.append_nil]
            rw [← e] at h
            exact h
          clear hjm HG2
          go_wp2_with fail
          go_roundw
          case rel => exact ⟨k + 1, by omega, by go_num, hg9.out, HB2.out⟩
          case measure => simp [intOf]; omega
    · have hkn : k = n := by omega
      have HG2 : Hid (Gath wr W.heap.size ll.flatten) := by have := HG.out; rwa [hkn, HN.out, List.take_length] at this
      clear hkn HG
      go_wp2_with fail
      go_ret
      exact ⟨rfl, HG2.out, HB.out⟩
end Go.Proofs.YtkcipfmbkokfdaaGreatDoor

/-
  A range over a function whose rounds are told what lies in memory: the iterator hands over rows that it has made since the last round.
-/
namespace Go.Proofs.YtkcipfmbkokfdaaGreatDoor
open Go.RowKit
/-- What a round leaves as it lay: all but the cells of points. -/
def keptB : Obj → Bool
  | .cells _ e _ => e != 48 && e != 29
  | _ => true
def keptO : Obj → Bool
  | .loop _ => false
  | o => keptB o
theorem keptB_of_O {o : Obj} (h : keptO o = true) : keptB o = true := by
  cases o <;> first | exact h | rfl
def KpB (B : Nat) (W W' : World) : Prop := Below B W W' ∧ ∀ (k : Nat) (o : Obj), W.heap[k]? = some o → keptB o = true → W'.heap[k]? = some o
def KpO (B : Nat) (W W' : World) : Prop := Below B W W' ∧ ∀ (k : Nat) (o : Obj), W.heap[k]? = some o → keptO o = true → W'.heap[k]? = some o
theorem KpB.refl (B : Nat) (W : World) : KpB B W W := ⟨Below.refl _ _, fun _ _ h _ => h⟩
theorem KpB.trans {Z : Nat} {A B C : World} (h : KpB Z A B) (k : KpB Z B C) : KpB Z A C := ⟨h.1.trans k.1, fun i o hi ho => k.2 i o (h.2 i o hi ho) ho⟩
theorem KpO.trans {Z : Nat} {A B C : World} (h : KpO Z A B) (k : KpO Z B C) : KpO Z A C := ⟨h.1.trans k.1, fun i o hi ho => k.2 i o (h.2 i o hi ho) ho⟩
theorem KpB.o {Z : Nat} {A B : World} (h : KpB Z A B) : KpO Z A B := ⟨h.1, fun i o hi ho => h.2 i o hi (keptB_of_O ho)⟩
theorem KpO.putLoop {Z : Nat} {W : World} {l : Nat} {r : Loop} (h : W.heap[l]? = some (.loop r)) (hl : Z ≤ l) (o' : Obj) : KpO Z W (W.putObj l o') :=
  ⟨⟨rfl, rfl, rfl, by simp, fun k hk => World.putObj_heap_other (by omega)⟩, fun k o hk ho => by
    by_cases e : k = l
    · subst e
      rw [h] at hk
      cases hk
      cases ho
    · exact (World.putObj_heap_other e).trans hk⟩
theorem Below_put {A B : World} (h : Below A.heap.size A B) (l : Nat) (o : Obj) : Below (A.putObj l o).heap.size (A.putObj l o) (B.putObj l o) :=
  ⟨h.os, h.tape, h.output, by rw [World.putObj_size, World.putObj_size]; exact h.size, fun k hk => by
    rw [World.putObj_size] at hk
    by_cases e : k = l
    · subst e
      rw [World.putObj_heap_same hk, World.putObj_heap_same (Nat.lt_of_lt_of_le hk h.size)]
    · rw [World.putObj_heap_other e, World.putObj_heap_other e]; exact h.block k hk⟩
/-- The contract of an iterator whose rounds are told of what they are handed. -/
def IterOk {α : Type} (Z : Nat) (F : Fence) (n : Nat) (P : Program) (g : Nat) (lb : Array Value) (encs : α → Array Value) (New : World → World → α → Prop) (S : List α → Prop) (N : Nat) (w : World) : Prop :=
  ∀ (l : Nat) (J : List α → World → Prop) (W : World), Below w.heap.size w W →
    (∀ pre x W0 W1, J pre W0 → pre.length < N → Below W0.heap.size W0 W1 → New W0 W1 x → YieldAt F (n - 1) P l (encs x) W1 fun e W' => e = .returned (.bool true) ∧ J (pre ++ [x]) W' ∧ KpO Z W1 W') →
    J [] W →
    CallsIn F n P g (#[.func (.yield l) #[] #[]] ++ lb) W fun e W' => (∃ v, e = .returned v) ∧ ∃ xs W0, S xs ∧ J xs W0 ∧ Below W0.heap.size W0 W'
theorem range_ok {α : Type} {Z : Nat} {F : Fence} {n : Nat} {P : Program} {g : Operand} {ps : Array Tmp} {assign body : Code} {Q : Exit → Act → World → Prop} {a : Act} {w : World}
    (hro : F.round = none) (h1 : 1 ≤ n) {gf : Nat} {lb : Array Value} (hg : a.eval g = .func (.func gf) #[] lb) (hFg : F.fn gf) (eg : ∀ args w, (callFunc gf args).run P w = .ok (.enter gf args) w)
    {encs : α → Array Value} {New : World → World → α → Prop} {S : List α → Prop} {N : Nat} {w0 : World} (hZ : Z ≤ w.heap.size) (hseq : IterOk Z F (n - 1) P gf lb encs New S N w0) (hb0 : Below w0.heap.size w0 w) (hps : ∀ x, (encs x).size = ps.size)
    (hNew : ∀ A B x l o, New A B x → l < A.heap.size → New (A.putObj l o) (B.putObj l o) x)
    (I : List α → World → Prop) (hI : ∀ s A l r o, I s A → w.heap.size < l → A.heap[l]? = some (.loop r) → I s (A.putObj l o)) (h0 : ∀ B, Below w.heap.size w B → I [] B) (a₁ : α → Act)
    (hassign : ∀ (l : Nat) (x : α) (W : World) (K : Act → World → Prop), K (a₁ x) W →
      assign.wpIn (F.inRound l) (n - 1 - 1) P (Exit.then K (fun _ _ _ => False)) { tmps := (ps.zip (encs x)).foldl (fun t (p, v) => t.setIfInBounds p v) a.tmps, defers := [] } W)
    (hbody : ∀ (l : Nat) (pre : List α) (x : α) (W0 W1 : World), w.heap.size < l → l < W0.heap.size → I pre W0 → pre.length < N → Below W0.heap.size W0 W1 → New W0 W1 x →
      body.wpIn (F.inRound l) (n - 1 - 1) P (fun e _ W' => e = .normal ∧ KpB Z W1 W' ∧ I (pre ++ [x]) W') (a₁ x) W1)
    (hdone : ∀ (xs : List α) (W0 W : World), S xs → I xs W0 → Below W0.heap.size W0 W → w.heap.size < W0.heap.size → W.heap[w.heap.size]? = some (.deferred (some [])) → Q .normal { a with defers := { target := .collected w.heap.size, args := #[] } :: a.defers } W) :
    (Code.rangeFunc g ps assign body).wpIn F n P Q a w := by
  refine wpIn_rangeFunc fun fn hfn => ?_
  rw [hro]
  let rec0 : LoopState → Loop := fun st => { state := st, pending := none, fn, tmps := a.tmps, params := ps, assign, body, defers := w.heap.size }
  obtain ⟨d0, hd0⟩ : ∃ d, d = w.heap.size := ⟨_, rfl⟩
  obtain ⟨l, hl⟩ : ∃ l, l = w.heap.size + 1 := ⟨_, rfl⟩
  obtain ⟨W1, hW1⟩ : ∃ W1, W1 = (w.alloc (.deferred (some []))).alloc (.loop (rec0 .ready)) := ⟨_, rfl⟩
  have hL1 : W1.heap[l]? = some (.loop (rec0 .ready)) := by
    have := World.alloc_heap_new (w.alloc (.deferred (some []))) (.loop (rec0 .ready))
    rw [World.size_alloc] at this
    rw [hW1, hl]; exact this
  have hD1 : W1.heap[d0]? = some (.deferred (some [])) := by
    rw [hW1, hd0]; exact (Below.heap_alloc _ _ _ (by simp)).trans (World.alloc_heap_new w _)
  have hB1 : Below w.heap.size w W1 := by
    rw [hW1]; exact ((Below.refl _ w).alloc (Nat.le_refl _) _).alloc (by simp) _
  refine ⟨w.heap.size + 1, [{ target := .collected w.heap.size, args := #[] }], W1, { target := .fn (.func gf) lb, args := #[.func (.yield (w.heap.size + 1)) #[] #[]] }, W1, gf,
    #[.func (.yield (w.heap.size + 1)) #[] #[]] ++ lb, W1, by rw [hW1]; exact run_enterLoop_outer _ _ _ _ _, by simp only [resolve, hg]; simp [go_sem], fun f' hf' => by simp [Target.leads] at hf'; subst hf'; exact hFg, by simp [invoke, go_sem, eg], fun _ => h1, ?_⟩
  rw [← hl]
  refine (hseq l (fun pre W => I pre W ∧ W.heap[l]? = some (.loop (rec0 .ready)) ∧ W.heap[d0]? = some (.deferred (some []))) W1 (hb0.trans (hB1.mono hb0.size)) ?_ ⟨h0 _ hB1, hL1, hD1⟩).mono ?_
  · rintro pre x W0 Wb ⟨hi, hll, hdd⟩ hpl hbel hnew
    have hlt : l < W0.heap.size := (Array.getElem?_eq_some_iff.1 hll).1
    have hdlt : d0 < W0.heap.size := (Array.getElem?_eq_some_iff.1 hdd).1
    have hlb : Wb.heap[l]? = some (.loop (rec0 .ready)) := (hbel.block l hlt).trans hll
    have hdb : Wb.heap[d0]? = some (.deferred (some [])) := (hbel.block d0 hdlt).trans hdd
    have hy := run_yield (P := P) (args := encs x) hlb (hps x)
    refine ⟨fn, _, assign, body, hy, roundIn_of_wpIn hfn (hassign l x Wb _ ⟨_, run_beginRound hlb rfl, ?_⟩)⟩
    have hne : d0 ≠ l := by omega
    have hl2 : (Wb.putObj l (.loop (rec0 .busy))).heap[l]? = some (.loop (rec0 .busy)) := World.putObj_heap_same (Array.getElem?_eq_some_iff.1 hlb).1
    have hd2 : (Wb.putObj l (.loop (rec0 .busy))).heap[d0]? = some (.deferred (some [])) := (World.putObj_heap_other hne).trans hdb
    refine wpIn_mono (hbody l pre x (W0.putObj l (.loop (rec0 .busy))) _ (by omega) (by rw [World.putObj_size]; exact hlt) (hI _ _ _ _ _ hi (by omega) hll) hpl (Below_put hbel _ _) (hNew _ _ _ _ _ hnew hlt)) ?_
    rintro e a3 W3 ⟨rfl, hk, hi3⟩
    have hl3 := hk.2 _ _ hl2 rfl
    have hd3 := hk.2 _ _ hd2 rfl
    refine ⟨_, _, run_endRound none hl3, rfl, ⟨hI _ _ _ _ _ hi3 (by omega) hl3, World.putObj_heap_same (Array.getElem?_eq_some_iff.1 hl3).1, (World.putObj_heap_other hne).trans hd3⟩, ((KpO.putLoop hlb (by omega) _).trans hk.o).trans (KpO.putLoop hl3 (by omega) _)⟩
  · rintro e W2 ⟨⟨v, rfl⟩, xs, W0, hS, ⟨hi, hll, hdd⟩, hbel⟩
    have hlt : l < W0.heap.size := (Array.getElem?_eq_some_iff.1 hll).1
    have hdlt : d0 < W0.heap.size := (Array.getElem?_eq_some_iff.1 hdd).1
    have hlb := (hbel.block l hlt).trans hll
    have hdb := (hbel.block d0 hdlt).trans hdd
    exact ⟨none, _, run_endLoop hlb (by intro h; cases h), hdone xs _ _ hS (hI _ _ _ _ _ hi (by omega) hll) (Below_put hbel _ _) (by rw [World.putObj_size]; omega) (by rw [← hd0]; exact (World.putObj_heap_other (by omega)).trans hdb)⟩
end Go.Proofs.YtkcipfmbkokfdaaGreatDoor

/-
  The sorted keys of a map at this dump.
-/
namespace Go.Proofs.YtkcipfmbkokfdaaGreatDoor
open Go.RowKit Go.Sort Go.Maps
theorem sortsIn (m : Nat) : AnyZI.SortsIn Tryz.prog Tryz.sortedI_ren Fence.wide m :=
  ⟨fun blk off cap ss W hH hblk hsz => callsIn_wide.2 (Any.slices_Sort_int Tryz.sortIntL blk off cap ss W hH hblk hsz), fun p cap W => callsIn_wide.2 (Any.slices_Sort_int_none Tryz.sortIntL p cap W)⟩
theorem keys_nodup {H : Type} {P : Program} {k : TypeId} {R : Value → Option (DataW H × List MemPlace)} {w : World} {b n : Nat} {D : DataW H} (hown : w.ownsMap P k R b n D) (hk : P.underlying k = some (.int .i64)) : (intKeys D).Nodup := by
  obtain ⟨es, hD, hpw, _⟩ := hown.entries (int_keyed hk)
  obtain ⟨es', hD', hko⟩ := hown.keysOf
  obtain rfl : es = es' := by rw [hD] at hD'; simpa using hD'
  subst hD
  refine List.pairwise_map.2 (hpw.imp_of_mem fun {p q} hp' hq' hne e => hne ?_)
  obtain ⟨v, hv⟩ := hko p hp'
  obtain ⟨a, _, ha, _⟩ := Maps.keyOf_i64 hk hv
  obtain ⟨v', hv'⟩ := hko q hq'
  obtain ⟨c, _, hc, _⟩ := Maps.keyOf_i64 hk hv'
  rw [ha, hc] at e ⊢
  exact congrArg _ e
theorem sort_lt {ss : List Int} (h : ss.Nodup) : (ss.mergeSort (fun x y => decide (x ≤ y))).Pairwise (· < ·) := by
  have h1 := List.pairwise_mergeSort (le := fun x y : Int => decide (x ≤ y)) (fun a b c h1 h2 => by simp only [decide_eq_true_eq] at *; omega) (fun a b => by simp only [Bool.or_eq_true, decide_eq_true_eq]; omega) ss
  have h2 : (ss.mergeSort (fun x y => decide (x ≤ y))).Nodup := (List.mergeSort_perm ss _).symm.nodup h
  refine (h1.and h2).imp fun {a b} h => ?_
  have h3 := h.1
  have h4 := h.2
  simp only [decide_eq_true_eq] at h3
  omega
/-- A new row of ints, read. -/
theorem RdZ.of_owns {w : World} {base : Nat} {v : Value} {l : List Int} (h : w.ownsRow base 3 1 v l.length (l.map encZ)) : RdZ w w.heap.size v l := by
  rcases h.2 with ⟨rfl, hn⟩ | ⟨g, cap, cur, rfl, hb, hc, h1, h2, h3, h4⟩
  · have : l = [] := by simpa using hn
    subst this
    exact ⟨none, 0, rfl, Nat.zero_le _, .inl rfl⟩
  · refine ⟨some ⟨g, 0, none⟩, cap, rfl, h1, .inr ⟨g, 0, rfl, (Array.getElem?_eq_some_iff.1 hc).1, fun i hi => ?_⟩⟩
    have hH := holds_of_block_i (ss := l) hc (by rw [← h4]; simp)
    exact (hH i (by simpa using hi)).1.trans (by simp [hi])
end Go.Proofs.YtkcipfmbkokfdaaGreatDoor
