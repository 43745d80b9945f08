/-
  stream.sorted's closure: the contract of the iterator.
-/
import Derived.RangeFuncNested
import Derived.RangeFuncBound
import Derived.RangeFuncCalls
import Derived.RangeFuncLeaves
import Derived.Shelf.Abstract
import Derived.Shelf.RegionOpen
import Derived.WalkKit
import Derived.OwnWalkIn
import Derived.TacticsInMore
import Derived.LoopNIn
import Derived.LoopIn
import Derived.Maps.OwnIn
import Derived.Test.YtkcipfmbkokfdaaGreatDoorKsk
import Derived.Test.YtkcipfmbkokfdaaGreatDoorOwk
import Derived.RangeFuncBox
namespace Go.Proofs.YtkcipfmbkokfdaaGreatDoor
open Go.RowKit Go.Sort Go.Maps
attribute [local go_sem] Oper.semAt_some
theorem KpO.owns {Z : Nat} {W W' : World} (h : KpO Z W W') {base e s n : Nat} {v : Value} {cs : List Value} (hr : W.ownsRow base e s v n cs) (he : keptB (.cells #[] e (0, 0)) = true) : W'.ownsRow base e s v n cs :=
  ⟨hr.1, hr.2.imp id fun ⟨g, cap, cur, e1, hb, hc, r⟩ => ⟨g, cap, cur, e1, hb, h.2 _ _ hc he, r⟩⟩
theorem Below.owns {W W' : World} (h : Below W.heap.size W W') {base e s n : Nat} {v : Value} {cs : List Value} (hr : W.ownsRow base e s v n cs) : W'.ownsRow base e s v n cs :=
  ⟨hr.1, hr.2.imp id fun ⟨g, cap, cur, e1, hb, hc, r⟩ => ⟨g, cap, cur, e1, hb, (h.block _ (Array.getElem?_eq_some_iff.1 hc).1).trans hc, r⟩⟩
theorem Gath.kpo {Z : Nat} {W W' : World} {b : Nat} {l : List Pts} (h : Gath W b l) (k : KpO Z W W') : Gath W' b l := by
  obtain ⟨n, D, hn, G⟩ := h
  refine ⟨n, D, hn, ?_, G.lt, G.isMap, fun x => ?_, G.apart, G.has⟩
  · obtain ⟨es, clock, hb, F, r⟩ := G.map
    exact ⟨es, clock, k.2 _ _ hb rfl, F, r⟩
  · obtain ⟨v, hv, ho⟩ := G.val x
    exact ⟨v, hv, KpO.owns k ho (by rfl)⟩
theorem Gath.on {W W' : World} {b : Nat} {l : List Pts} (h : Gath W b l) (k : Below W.heap.size W W') : Gath W' b l := h.kept ⟨k.os, k.tape, k.output, k.size, fun i hi _ => k.block i hi⟩
theorem cells_of_owns {w : World} {base n c : Nat} {A : Option Addr} {l : List Int} (h : w.ownsRow base 3 1 (.slice A n c) n (l.map encZ)) (hn : n = l.length) (i : Nat) (hi : i < l.length) :
    ∃ b o, A = some ⟨b, o, none⟩ ∧ w.cell? ⟨b, o + i, none⟩ = some (.int .i64 l[i]) := by
  subst hn
  obtain ⟨A', c', e, _, hA⟩ := RdZ.of_owns h
  rcases hA with h0 | ⟨b, o, e', _, hcl⟩
  · subst h0; simp at hi
  · injection e with e1
    exact ⟨b, o, e1.trans e', hcl i hi⟩
abbrev Row := Int × Value × List Smp
def inR (k : Int) : Bool := decide (1 ≤ k) && decide (k ≤ 1073741824)
def encR (x : Row) : Array Value := #[.int .i64 x.1, x.2.1]
def NewR (W0 W1 : World) (x : Row) : Prop := Own W1 W0.heap.size 52 x.2.1 x.2.2 ∧ (Lit.int .i64 x.1).wf = true ∧ x.2.2.length * 32 ≤ 140737488355328
/-- The numbers that are there, rising. -/
def IsKeys (l : List Pts) (ks : List Int) : Prop := ks.Pairwise (· < ·) ∧ ∀ k, k ∈ ks ↔ hasL l k = true
def cut (xs : List Row) : List Pts := xs.map (fun x => (x.1, x.2.2))
def outs (l : List Pts) (ks : List Int) : List Pts := (ks.filter inR).map (fun k => (k, sortS (ofL l k)))
def SR (l : List Pts) (xs : List Row) : Prop := ∃ ks, IsKeys l ks ∧ cut xs = outs l ks
theorem outs_snoc (l : List Pts) (ks : List Int) (k : Int) : outs l (ks ++ [k]) = if inR k then outs l ks ++ [(k, sortS (ofL l k))] else outs l ks := by
  unfold outs
  rw [List.filter_append]
  by_cases h : inR k = true
  · rw [if_pos h]; simp [h]
  · rw [if_neg h]; simp [h]
set_option maxRecDepth 100000 in
set_option maxHeartbeats 2000000 in
theorem iter_sorted (Z n Bm b : Nat) (l : List Pts) (w : World) (hn : 8 ≤ n) (hBm : w.heap[Bm]? = some (.cells #[.map (some b)] 69 (0, 0))) (hZ : Z ≤ w.heap.size) (hT : ∀ W', Below Z w W' → Tabs W') (G : Gath w b l) (hl : l.length ≤ 100000)
    (hs : ∀ k, (ofL l k).length * 32 ≤ 140737488355328) : IterOk Z Fence.wide n Tryz.prog 61 #[.pointer (some ⟨Bm, 0, none⟩)] encR NewR (SR l) l.length w := by
  intro lp J W hW hY h0
  have hbm : Bm < w.heap.size := (Array.getElem?_eq_some_iff.1 hBm).1
  have hBW : W.heap[Bm]? = some (.cells #[.map (some b)] 69 (0, 0)) := (hW.block _ hbm).trans hBm
  have c0 : W.cell? ⟨Bm, 0, none⟩ = some (.map (some b)) := by simp [World.cell?, hBW]
  obtain ⟨m, D, hm, GM⟩ := G.on hW
  have hown := GM.map
  have hsz : Maps.size D ≤ maxLen := by have := hown.size_le; unfold maxLen; omega
  have hsb : Maps.size D * 8 ≤ 140737488355328 := by have := hown.size_le; omega
  have hbl := hown.lt
  have hseq : SeqGives Fence.wide (n - 1 - 1 - 1 - 1) Tryz.prog 73 #[.pointer (some ⟨W.heap.size, 0, none⟩)] encZ (fun ss => ss.Perm (intKeys D) ∧ ∀ x, x ∈ ss ↔ has D (.int .i64 x) = true) (Maps.size D) (W.alloc (.cells #[.map (some b)] 69)) :=
    (AnyZI.keys_stops (ρ := Tryz.keysS_ren) { Tryz.keysS with } Fence.wide _ trivial rfl (by omega) W.heap.size b m D _ (by simp) (by simp) (by
      obtain ⟨es, clock, hb, Ft, hs, hD⟩ := hown
      exact ⟨es, clock, (Below.heap_alloc _ _ b hbl).trans hb, Ft, hs, hD⟩)).gives
  have cK : ∀ mb W, CallsIn Fence.wide (n - 1) Tryz.prog 62 #[.map mb] W fun e w' => e = .returned (.func (.func 73) #[] #[.pointer (some ⟨W.heap.size, 0, none⟩)]) ∧ w' = W.alloc (.cells #[.map mb] 69) := fun mb W => AnyZI.keys_in Tryz.keysS Fence.wide (n - 1) trivial rfl mb W
  have cS := AnyZI.sorted_in Tryz.sortedI Fence.wide (n - 1) trivial trivial trivial trivial rfl (by omega) (sortsIn _) (enters_of Tryz.func54 (by kernel_rfl) rfl) 73 #[.pointer (some ⟨W.heap.size, 0, none⟩)] trivial (enters_of Tryz.func73 (by kernel_rfl) rfl) _ _ hsz hsb _ hseq
  change CallsIn _ _ Tryz.prog 38 _ _ _ at cS
  have hnd := keys_nodup hown Tryz.underlying3
  have hkw := intKeys_wf hown Tryz.underlying3
  have hhas := GM.has
  have HSZ : Hid ((intKeys D).length ≤ l.length) := by
    have h1 : (intKeys D).length ≤ Maps.size D := by cases D <;> simp [intKeys, Maps.size]
    have h2 := hown.size_le
    show _ ≤ _
    omega
  clear hseq GM
  have HY := Lib.hid hY
  have HGW := Lib.hid (G.on hW)
  have HZ := Lib.hid hZ
  have HT := Lib.hid hT
  have HW := Lib.hid hW
  have HS := Lib.hid hs
  have HH := Lib.hid hhas
  have HK := Lib.hid hkw
  have HN := Lib.hid hnd
  clear hY hT hW hs hhas hkw hnd hown G hZ hsz hsb
  have hfK : Fence.wide.fn 62 := trivial
  have hfS : Fence.wide.fn 38 := trivial
  have hfD : Fence.wide.fn 42 := trivial
  have h1 : 1 ≤ n := by omega
  refine callsIn_of_wp Tryz.func61 rfl trivial ?_ rfl
  simp only [Tryz.ntmps61, List.size_toArray, List.length_cons, List.length_nil, Nat.reduceAdd, Nat.reduceSub, Array.replicate_succ, Array.replicate_zero, List.push_toArray, List.append_toArray, List.nil_append, List.cons_append]
  gi_wp2_with (gi_at_call 62; refine (cK _ _).mono ?_; rintro e w' ⟨rfl, rfl⟩)
  refine cS.mono ?_; rintro e w' ⟨v, ss, rfl, ⟨hS, hS2⟩, hrow, hnil, hb⟩; obtain ⟨ks, hks⟩ : ∃ ks, ks = ss.mergeSort (fun x y => decide (x ≤ y)) := ⟨_, rfl⟩; have hlen : ss.length = ks.length := by rw [hks, List.length_mergeSort]
  rw [← hks, hlen] at hrow; obtain ⟨n1, hn1⟩ : ∃ n1, n1 = ks.length := ⟨_, rfl⟩; obtain ⟨A0, c1, rfl, hc1, hA⟩ := RdZ.of_owns hrow
  rw [← hn1] at hrow hc1 ⊢
  have hIK : Hid (IsKeys l ks) := ⟨by rw [hks]; exact sort_lt (hS.symm.nodup HN.out), fun k => by rw [hks, List.mem_mergeSort, hS2 k, HH.out k]⟩
  have hKW : Hid (∀ k ∈ ks, (Lit.int .i64 k).wf = true) := fun k hk => HK.out k (hS.mem_iff.1 (by rw [hks, List.mem_mergeSort] at hk; exact hk))
  have hn3 : n1 ≤ l.length := by
    have h1 := hS.length_eq
    have h2 := HSZ.out
    omega
  have hn2 : n1 ≤ 100000 := by
    have h1 := hS.length_eq
    have h2 := HSZ.out
    omega
  have hb2 : Below W.heap.size W w' := ((Below.refl _ W).alloc (Nat.le_refl _) _).trans (hb.mono (by simp))
  have HR := Lib.hid hrow
  have HA := Lib.hid hA
  have HN1 := Lib.hid hn1
  have HB2 := Lib.hid hb2
  clear hrow hA hn1 hks hlen hS hS2 hnil hb hb2 HH HK HN cS cK
  have hbl2 : Hid (w'.heap[Bm]? = some (.cells #[.map (some b)] 69 (0, 0))) := (HB2.out.block _ (Array.getElem?_eq_some_iff.1 hBW).1).trans hBW
  gi_wp2
  gi_loopw [9] (fun i wl => ∃ (k : Nat) (pre : List Row) (W0 : World), k ≤ n1 ∧ i = .int .i64 k ∧ Hid (J pre W0) ∧ Hid (Below W0.heap.size W0 wl) ∧ Hid (cut pre = outs l (ks.take k)) ∧ Hid (Gath wl b l) ∧ Hid (wl.ownsRow _ 3 1 (.slice A0 n1 c1) n1 (ks.map encZ)) ∧ Hid (wl.heap[Bm]? = some (.cells #[.map (some b)] 69 (0, 0))) ∧ Hid (Below Z W wl))
    (fun i _ => n1 - (intOf i).toNat)
  case atStart => exact ⟨0, [], W, Nat.zero_le _, rfl, h0, HB2.out, rfl, HGW.out.on HB2.out, HR.out, hbl2.out, HB2.out.mono (Nat.le_trans HZ.out HW.out.size)⟩
  case round =>
    obtain ⟨k, pre, W0, hk, rfl, HJ, HBW0, HC, HG, HRW, HBM, HBZ⟩ := hrel
    by_cases hlt : k < n1
    · have hkl : k < ks.length := by rw [← HN1.out]; exact hlt
      obtain ⟨z, hz⟩ : ∃ z, z = ks[k] := ⟨_, rfl⟩
      have hzw : (Lit.int .i64 z).wf = true := hKW.out z (by rw [hz]; exact List.getElem_mem hkl)
      obtain ⟨b1, o1, eA, q0'⟩ := cells_of_owns HRW.out HN1.out k hkl
      subst eA
      have q0 : wr.cell? ⟨b1, o1 + k, none⟩ = some (.int .i64 z) := by rw [hz]; exact q0'
      have q1 : wr.cell? ⟨Bm, 0, none⟩ = some (.map (some b)) := by simp [World.cell?, HBM.out]
      have HTK : Hid (ks.take (k + 1) = ks.take k ++ [z]) := by rw [hz]; exact List.take_succ_eq_append_getElem hkl
      have i1 : (k : Int) < (n1 : Int) := by omega
      clear q0' hz c0
      by_cases hin : 1 ≤ z ∧ z ≤ 1073741824
      · obtain ⟨z1, z2⟩ := hin
        have hir : inR z = true := by simp [inR, z1, z2]
        have HC2 : Hid (∀ r, cut (pre ++ [(z, r, sortS (ofL l z))]) = outs l (ks.take (k + 1))) := fun r => by
          rw [HTK.out, outs_snoc, if_pos hir, ← HC.out]
          simp [cut]
        obtain ⟨v, hvo, hl0, _, _⟩ := HG.out.round (p := (z, [])) hzw (by omega)
        have hq : (Instr.lookup 69 (.map (some b)) (.int .i64 z) false).run Tryz.prog wr = .ok v wr := hl0 _ ⟨rfl, rfl, rfl, Nat.le_refl _, fun _ _ _ => rfl⟩
        have HSo : Hid (CallsIn Fence.wide (n - 1) Tryz.prog 42 #[v] wr fun e w' => ∃ r, e = .returned r ∧ Own w' wr.heap.size 52 r (sortS (ofL l z)) ∧ Below wr.heap.size wr w') :=
          callsIn_wide.2 (dsort_walk v _ wr (HT.out _ ((HW.out.mono HZ.out).trans HBZ.out)) hvo.rd (HS.out z))
        have HPL : Hid (pre.length < l.length) := by
          have h1 := congrArg List.length HC.out
          have h2 := List.length_filter_le inR (ks.take k)
          have h3 := List.length_take_le k ks
          simp only [cut, outs, List.length_map] at h1
          show _ < _
          omega
        have HYr : Hid (∀ r w1, Own w1 wr.heap.size 52 r (sortS (ofL l z)) → Below wr.heap.size wr w1 → YieldAt Fence.wide (n - 1) Tryz.prog lp #[.int .i64 z, r] w1 fun e W' => e = .returned (.bool true) ∧ J (pre ++ [(z, r, sortS (ofL l z))]) W' ∧ KpO Z w1 W') :=
          fun r w1 ho hb => HY.out pre (z, r, sortS (ofL l z)) W0 w1 HJ.out HPL.out (HBW0.out.trans (hb.mono HBW0.out.size)) ⟨ho.lower HBW0.out.size, hzw, by show (sortS (ofL l z)).length * 32 ≤ _; have h1 := sortS_length (ofL l z); have h2 := HS.out z; omega⟩
        clear hvo hl0 HC
        gi_wp2_with (gi_at_call 42; refine HSo.out.mono ?_; rintro e w1 ⟨r, rfl, hro, hrb⟩; obtain ⟨fn, tmps, assign, body, hy, hR⟩ := HYr.out r w1 hro hrb)
        refine hR.mono ?_
        rintro e W3 ⟨rfl, hJ3, hk3⟩
        gi_wp2
        go_roundw
        case rel => exact ⟨k + 1, pre ++ [(z, r, sortS (ofL l z))], W3, by omega, by go_num, hJ3, Below.refl _ _, HC2.out r, (HG.out.on hrb).kpo hk3, KpO.owns hk3 (Below.owns hrb HRW.out) (by rfl), hk3.2 _ _ ((hrb.block _ (Array.getElem?_eq_some_iff.1 HBM.out).1).trans HBM.out) (by rfl), (HBZ.out.trans (hrb.mono (Nat.le_trans (Nat.le_trans HZ.out HW.out.size) HBZ.out.size))).trans hk3.1⟩
        case measure => simp [intOf]; omega
      · have hir : inR z = false := by
          cases h : inR z with
          | false => rfl
          | true => simp [inR] at h; omega
        have HC2 : Hid (cut pre = outs l (ks.take (k + 1))) := by rw [HTK.out, outs_snoc, if_neg (by rw [hir]; decide)]; exact HC.out
        by_cases z1 : 1 ≤ z
        · have z2 : ¬ z ≤ 1073741824 := fun h => hin ⟨z1, h⟩
          gi_wp2
          refine ⟨fun _ h => (by cases h), ?_⟩
          gi_wp2
          go_roundw
          case rel => exact ⟨k + 1, pre, W0, by omega, by go_num, HJ.out, HBW0.out, HC2.out, HG.out, HRW.out, HBM.out, HBZ.out⟩
          case measure => simp [intOf]; omega
        · gi_wp2
          refine ⟨fun _ h => (by cases h), ?_⟩
          gi_wp2
          go_roundw
          case rel => exact ⟨k + 1, pre, W0, by omega, by go_num, HJ.out, HBW0.out, HC2.out, HG.out, HRW.out, HBM.out, HBZ.out⟩
          case measure => simp [intOf]; omega
    · have hkn : k = n1 := by omega
      have hfin : Hid (SR l pre) := ⟨ks, hIK.out, by have h := HC.out; rwa [hkn, HN1.out, List.take_length] at h⟩
      clear hkn HC
      gi_wp2
      go_end0
      exact ⟨⟨_, rfl⟩, pre, W0, hfin.out, HJ.out, HBW0.out⟩
end Go.Proofs.YtkcipfmbkokfdaaGreatDoor

/-
  A row of points that the call makes itself, in a box: it grows by an append.
-/
namespace Go.Proofs.YtkcipfmbkokfdaaGreatDoor
open Go.RowKit Go.Sort Go.Maps
theorem Rd.grown {w w' : World} {v : Value} {l : List Smp} {row : Option Nat} (h : Rd w w.heap.size v l) (hg : w.grownBy w' row) (hne : ∀ a n c, v = .slice (some a) n c → some a.block ≠ row) : Rd w' w'.heap.size v l := by
  obtain ⟨A, c, rfl, hc, hA⟩ := h
  refine ⟨A, c, rfl, hc, hA.imp id fun ⟨b, o, e, hb, hcl⟩ => ⟨b, o, e, Nat.lt_of_lt_of_le hb hg.size, fun i hi => ?_⟩⟩
  subst e
  have hn := hne _ _ _ rfl
  obtain ⟨q0, q1, q2, q3⟩ := hcl i hi
  have hk : ∀ t, w'.cell? ⟨b, t, none⟩ = w.cell? ⟨b, t, none⟩ := fun t => hg.cell_far ⟨b, t, none⟩ hb hn
  exact ⟨(hk _).trans q0, (hk _).trans q1, (hk _).trans q2, (hk _).trans q3⟩
def ptC (x : Row) : List Value := [.int .i64 x.1, x.2.1]
/-- Where a slice points: not into the box, not into the row that grows. -/
def Away (w : World) (Bo : Nat) (row : Option Nat) (v : Value) : Prop := ∀ a n c, v = .slice (some a) n c → a.block ≠ Bo ∧ some a.block ≠ row ∧ a.block < w.heap.size
structure OutP (w : World) (base Bo : Nat) (v : Value) (cs : List Row) : Prop where
  row : w.ownsRow base 48 2 v cs.length (cs.flatMap ptC)
  box : Boxed w Bo 29 v
  rd : ∀ x ∈ cs, Own w base 52 x.2.1 x.2.2 ∧ Away w Bo v.ownBlock x.2.1
theorem Away.ne {w w' : World} {Bo base e : Nat} {row : Option Nat} {v : Value} {l : List Smp} (h : Away w Bo row v) (ho : Own w' base e v l) : (v.ownBlock = none ∨ v.ownBlock ≠ row) ∧ (v.ownBlock = none ∨ v.ownBlock ≠ some Bo) := by
  rcases ho.2 with ⟨rfl, _⟩ | ⟨g, cap, cur, rfl, _⟩
  · exact ⟨.inl rfl, .inl rfl⟩
  · have := h _ _ _ rfl
    exact ⟨.inr this.2.1, .inr fun e => this.1 (by injection e)⟩
theorem OutP.on {w w' : World} {base Bo : Nat} {v : Value} {cs : List Row} (h : OutP w base Bo v cs) (k : Below w.heap.size w w') : OutP w' base Bo v cs :=
  ⟨Below.owns k h.row, (k.block _ h.box.lt).trans h.box, fun x hx => by
    obtain ⟨h1, h3⟩ := h.rd x hx
    exact ⟨h1.below k, fun a n c e => ⟨(h3 a n c e).1, (h3 a n c e).2.1, Nat.lt_of_lt_of_le (h3 a n c e).2.2 k.size⟩⟩⟩
theorem OutP.put {w : World} {base Bo : Nat} {v : Value} {cs : List Row} (h : OutP w base Bo v cs) {l : Nat} {o0 : Obj} (o : Obj) (hl : w.heap[l]? = some o0) (ho : o0.isCells = false) : OutP (w.putObj l o) base Bo v cs :=
  ⟨ownsRow_putObj h.row o hl ho, h.box.kept (grownBy_putObj' w l o) (fun e => by injection e with e; subst e; rw [show w.heap[Bo]? = _ from h.box] at hl; cases hl; cases ho), fun x hx => by
    obtain ⟨h1, h3⟩ := h.rd x hx
    exact ⟨ownsRow_putObj h1 o hl ho, fun a n c e => ⟨(h3 a n c e).1, (h3 a n c e).2.1, by rw [World.putObj_size]; exact (h3 a n c e).2.2⟩⟩⟩
theorem OutP.new (w : World) (base : Nat) : OutP (w.alloc (.cells #[.slice none 0 0] 29)) base w.heap.size (.slice none 0 0) [] :=
  ⟨⟨rfl, .inl ⟨rfl, rfl⟩⟩, Boxed.new _ _ _, fun _ hx => absurd hx (List.not_mem_nil)⟩
theorem OutP.push {w w1 : World} {base Bo : Nat} {v v' : Value} {cs : List Row} {tmp : Obj} {x : Row} (h : OutP w base Bo v cs) (hR : Own w base 52 x.2.1 x.2.2) (ha : Away w Bo v.ownBlock x.2.1)
    (hg : (w.alloc tmp).grownBy w1 v.ownBlock) (hown : w1.ownsRow base 48 2 v' (cs.length + 1) (cs.flatMap ptC ++ ptC x)) (hloc : v'.ownBlock = v.ownBlock ∨ v'.ownBlock = some (w.alloc tmp).heap.size) :
    OutP (w1.setCell ⟨Bo, 0, none⟩ v') base Bo v' (cs ++ [x]) := by
  have hb1 : Boxed w1 Bo 29 v := (h.box.alloc tmp).kept hg (h.box.not_row (by decide) h.row)
  have hb1' : Boxed w1 Bo 29 v := hb1
  refine ⟨?_, hb1.set v', fun y hy => ?_⟩
  · have := hown.kept (grownBy_setCell' w1 Bo v') (.inr (hb1.not_row (by decide) hown).symm)
    rw [List.length_append, List.flatMap_append]
    simpa using this
  · have hy2 : Own w base 52 y.2.1 y.2.2 ∧ Away w Bo v.ownBlock y.2.1 := by
      rcases List.mem_append.1 hy with hy | hy
      · exact h.rd y hy
      · rw [List.mem_singleton] at hy; subst hy; exact ⟨hR, ha⟩
    obtain ⟨h1, h3⟩ := hy2
    have hA : (w.alloc tmp).heap.size = w.heap.size + 1 := by simp
    have hne := h3.ne h1
    have h5 := (h1.alloc tmp).kept hg hne.1
    refine ⟨h5.kept (grownBy_setCell' w1 Bo v') hne.2, fun a n c e => ⟨(h3 a n c e).1, ?_, ?_⟩⟩
    · rcases hloc with e9 | e9
      · rw [e9]; exact (h3 a n c e).2.1
      · rw [e9]
        intro e8
        injection e8 with e8
        have := (h3 a n c e).2.2
        omega
    · have q1 := (h3 a n c e).2.2
      have q2 := hg.size
      have q3 := (grownBy_setCell' w1 Bo v').size
      omega
theorem OutP.kpB {w w1 : World} {base Bo : Nat} {v v' : Value} {cs : List Row} {tmp : Obj} (h : OutP w base Bo v cs) (hg : (w.alloc tmp).grownBy w1 v.ownBlock) (hbase : base ≤ w.heap.size) (hBo : base ≤ Bo) : KpB base w (w1.setCell ⟨Bo, 0, none⟩ v') := by
  refine ⟨(((Below.refl base w).alloc hbase tmp).grown hg (by simp; omega) (fun k e => (World.ownsRow.lt h.row k e).1)).setCell (p := ⟨Bo, 0, none⟩) hBo v', fun k o hk ho => ?_⟩
  have hlt := (Array.getElem?_eq_some_iff.1 hk).1
  have hkB : k ≠ Bo := by
    intro e
    subst e
    rw [show w.heap[k]? = _ from h.box] at hk
    injection hk with hk
    subst hk
    have : keptB (.cells #[v] 29 (0, 0)) = false := rfl
    rw [this] at ho
    cases ho
  have hko : some k ≠ v.ownBlock := by
    intro e
    rcases h.row.2 with ⟨rfl, _⟩ | ⟨g, cap, cur, rfl, hb, hc, _⟩
    · cases e
    · injection e with e
      have e : k = g := e
      subst e
      rw [hc] at hk
      injection hk with hk
      subst hk
      have : keptB (.cells cur 48 (0, 0)) = false := rfl
      rw [this] at ho
      cases ho
  exact (Below.heap_setCell w1 _ v' k hkB).trans ((hg.block k (by simp; omega) hko).trans ((Below.heap_alloc w tmp k hlt).trans hk))
theorem Away.own {W0 w : World} {base Bo : Nat} {v sv : Value} {cs : List Row} {sl : List Smp} {e : TypeId} (h : OutP W0 base Bo v cs) (ho : Own w W0.heap.size e sv sl) : Away w Bo v.ownBlock sv := by
  intro a n c e1
  subst e1
  have hb : (Value.slice (some a) n c).ownBlock = some a.block := by
    rcases ho.2 with ⟨h0, _⟩ | ⟨g, cap, cur, h0, _⟩
    · cases h0
    · injection h0 with h0; injection h0 with h0; subst h0; rfl
  have h1 := ho.blk hb
  have h2 := h.box.lt
  refine ⟨by omega, fun e9 => ?_, h1.2⟩
  have := (World.ownsRow.lt h.row _ e9.symm).2
  omega
theorem flat2 (cs : List Row) (i t : Nat) (hi : i < cs.length) (ht : t < 2) : (cs.flatMap ptC)[i * 2 + t]? = (ptC cs[i])[t]? := by
  induction cs generalizing i with
  | nil => cases hi
  | cons c cs ih =>
    rw [List.flatMap_cons]
    cases i with
    | zero => rw [List.getElem?_append_left (by simp [ptC]; omega)]; simp
    | succ i =>
      rw [List.getElem?_append_right (by simp [ptC]; omega)]
      have e : (i + 1) * 2 + t - (ptC c).length = i * 2 + t := by simp [ptC]; omega
      rw [e]
      exact ih i (by simpa using hi)
/-- A row of points whose memory the call made itself. -/
def RdO (w : World) (base : Nat) (v : Value) (l : List Pts) : Prop :=
  ∃ A c, v = .slice A l.length c ∧ l.length ≤ c ∧ (l = [] ∨ ∃ b o, A = some ⟨b, o, none⟩ ∧ base ≤ b ∧ b < w.heap.size ∧ ∀ i (h : i < l.length), w.cell? ⟨b, o + i * 2, none⟩ = some (.int .i64 l[i].1) ∧ ∃ sv, w.cell? ⟨b, o + i * 2 + 1, none⟩ = some sv ∧ Own w base 52 sv l[i].2 ∧ sv.ownBlock ≠ some b)
theorem RdO.rdP {w : World} {base : Nat} {v : Value} {l : List Pts} (h : RdO w base v l) : RdP w w.heap.size v l := by
  obtain ⟨A, c, e, hc, hA⟩ := h
  exact ⟨A, c, e, hc, hA.imp id fun ⟨b, o, e, _, hb, hcl⟩ => ⟨b, o, e, hb, fun i hi => by
    obtain ⟨h1, sv, h2, h3, _⟩ := hcl i hi
    exact ⟨h1, sv, h2, h3.rd, h3.nz⟩⟩⟩
theorem RdO.lower {w : World} {base base' : Nat} {v : Value} {l : List Pts} (h : RdO w base v l) (k : base' ≤ base) : RdO w base' v l := by
  obtain ⟨A, c, e, hc, hA⟩ := h
  exact ⟨A, c, e, hc, hA.imp id fun ⟨b, o, e, hb0, hb, hcl⟩ => ⟨b, o, e, Nat.le_trans k hb0, hb, fun i hi => by
    obtain ⟨h1, sv, h2, h3, h4⟩ := hcl i hi
    exact ⟨h1, sv, h2, h3.lower k, h4⟩⟩⟩
theorem RdO.on {w w' : World} {base : Nat} {v : Value} {l : List Pts} (h : RdO w base v l) (k : Below w.heap.size w w') : RdO w' base v l := by
  obtain ⟨A, c, e, hc, hA⟩ := h
  exact ⟨A, c, e, hc, hA.imp id fun ⟨b, o, e, hb0, hb, hcl⟩ => ⟨b, o, e, hb0, Nat.lt_of_lt_of_le hb k.size, fun i hi => by
    obtain ⟨h1, sv, h2, h3, h4⟩ := hcl i hi
    exact ⟨(k.cell hb).trans h1, sv, (k.cell hb).trans h2, h3.below k, h4⟩⟩⟩
theorem OutP.rdO {w : World} {base Bo : Nat} {v : Value} {cs : List Row} (h : OutP w base Bo v cs) : RdO w base v (cut cs) := by
  have hlen : (cut cs).length = cs.length := by simp [cut]
  rcases h.row.2 with ⟨rfl, hn⟩ | ⟨g, cap, cur, rfl, hb, hc, h1, h2, h3, h4⟩
  · have : cs = [] := List.eq_nil_of_length_eq_zero hn
    subst this
    exact ⟨none, 0, rfl, Nat.zero_le _, .inl rfl⟩
  · refine ⟨some ⟨g, 0, none⟩, cap, by rw [hlen], by rw [hlen]; exact h1, .inr ⟨g, 0, rfl, hb, (Array.getElem?_eq_some_iff.1 hc).1, fun i hi => ?_⟩⟩
    have hi' : i < cs.length := by rw [← hlen]; exact hi
    obtain ⟨q1, q2⟩ := h.rd cs[i] (List.getElem_mem hi')
    have hcell : ∀ t (ht : t < 2), w.cell? ⟨g, i * 2 + t, none⟩ = (ptC cs[i])[t]? := by
      intro t ht
      have e1 : w.cell? ⟨g, i * 2 + t, none⟩ = cur[i * 2 + t]? := by simp [World.cell?, hc]
      have e2 : (cur.toList.take (cs.length * 2))[i * 2 + t]? = cur[i * 2 + t]? := by rw [List.getElem?_take_of_lt (by omega)]; simp
      rw [e1, ← e2, h4]
      exact flat2 cs i t hi' ht
    have e0 := hcell 0 (by omega)
    have e1 := hcell 1 (by omega)
    have hci : (cut cs)[i] = (cs[i].1, cs[i].2.2) := by simp [cut]
    rw [hci]
    refine ⟨by rw [Nat.zero_add]; exact e0, cs[i].2.1, by rw [Nat.zero_add]; exact e1, q1, ?_⟩
    rcases (q2.ne q1).1 with e9 | e9
    · rw [e9]; simp
    · exact e9
theorem OutP.rdP {w : World} {base Bo : Nat} {v : Value} {cs : List Row} (h : OutP w base Bo v cs) : RdP w w.heap.size v (cut cs) := h.rdO.rdP
end Go.Proofs.YtkcipfmbkokfdaaGreatDoor
