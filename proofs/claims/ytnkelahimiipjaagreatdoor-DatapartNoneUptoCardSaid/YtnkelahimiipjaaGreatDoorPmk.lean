/-
 stream.sorted's closure: the contract of the iterator.
-/
import Derived.RangeFuncNested
import Derived.RangeFuncBound
import Derived.RangeFuncCalls
import Derived.RangeFuncLeaves
import Derived.Shelf.Abstract
import Derived.Shelf.RegionOpen
import Derived.WalkKit
import Derived.OwnWalkIn
import Derived.TacticsInMore
import Derived.LoopNIn
import Derived.LoopIn
import Derived.Maps.OwnIn
import Derived.Test.YtnkelahimiipjaaGreatDoorKsk
import Derived.Test.YtnkelahimiipjaaGreatDoorRqk
import Derived.Test.YtnkelahimiipjaaGreatDoorOwk
import Derived.RangeFuncBox
namespace Go.Proofs.YtnkelahimiipjaaGreatDoor
open Go.RowKit Go.Sort Go.Maps
attribute [local go_sem] Oper.semAt_some
theorem KpO.owns {Z : Nat} {W W' : World} (h : KpO Z W W') {base e s n : Nat} {v : Value} {cs : List Value} (hr : W.ownsRow base e s v n cs) (he : keptB (.cells #[] e (0, 0)) = true) : W'.ownsRow base e s v n cs :=
 ⟨hr.1, hr.2.imp id fun ⟨g, cap, cur, e1, hb, hc, r⟩ => ⟨g, cap, cur, e1, hb, h.2 _ _ hc he, r⟩⟩
theorem Below.owns {W W' : World} (h : Below W.heap.size W W') {base e s n : Nat} {v : Value} {cs : List Value} (hr : W.ownsRow base e s v n cs) : W'.ownsRow base e s v n cs :=
 ⟨hr.1, hr.2.imp id fun ⟨g, cap, cur, e1, hb, hc, r⟩ => ⟨g, cap, cur, e1, hb, (h.block _ (Array.getElem?_eq_some_iff.1 hc).1).trans hc, r⟩⟩
theorem Gath.kpo {Z : Nat} {W W' : World} {b : Nat} {l : List Pts} (h : Gath W b l) (k : KpO Z W W') : Gath W' b l := by
 obtain ⟨n, D, hn, G⟩ := h
 refine ⟨n, D, hn, ?_, G.lt, G.isMap, fun x => ?_, G.apart, G.has⟩
 ·obtain ⟨es, clock, hb, F, r⟩ := G.map
  exact ⟨es, clock, k.2 _ _ hb rfl, F, r⟩
 ·obtain ⟨v, hv, ho⟩ := G.val x
  exact ⟨v, hv, KpO.owns k ho (by rfl)⟩
theorem Gath.on {W W' : World} {b : Nat} {l : List Pts} (h : Gath W b l) (k : Below W.heap.size W W') : Gath W' b l := h.kept ⟨k.os, k.tape, k.output, k.size, fun i hi _ => k.block i hi⟩
theorem cells_of_owns {w : World} {base n c : Nat} {A : Option Addr} {l : List Int} (h : w.ownsRow base 3 1 (.slice A n c) n (l.map encZ)) (hn : n = l.length) (i : Nat) (hi : i < l.length) :
  ∃ b o, A = some ⟨b, o, none⟩ ∧ w.cell? ⟨b, o + i, none⟩ = some (.int .i64 l[i]) := by
 subst hn
 obtain ⟨A', c', e, _, hA⟩ := RdZ.of_owns h
 rcases hA with h0 | ⟨b, o, e', _, hcl⟩
 ·subst h0; simp at hi
 ·injection e with e1
  exact ⟨b, o, e1.trans e', hcl i hi⟩
abbrev Row := Int × Value × List Smp
def inR (k : Int) : Bool := decide (1 ≤ k) && decide (k ≤ 1073741824)
def encR (x : Row) : Array Value := #[.int .i64 x.1, x.2.1]
def NewR (W0 W1 : World) (x : Row) : Prop := Own W1 W0.heap.size 66 x.2.1 x.2.2 ∧ (Lit.int .i64 x.1).wf = true ∧ x.2.2.length * 32 ≤ 140737488355328
/-- The numbers that are there, rising. -/
def IsKeys (l : List Pts) (ks : List Int) : Prop := ks.Pairwise (· < ·) ∧ ∀ k, k ∈ ks ↔ hasL l k = true
def cut (xs : List Row) : List Pts := xs.map (fun x => (x.1, x.2.2))
def outs (l : List Pts) (ks : List Int) : List Pts := (ks.filter inR).map (fun k => (k, sortS (ofL l k)))
def SR (l : List Pts) (xs : List Row) : Prop := ∃ ks, IsKeys l ks ∧ cut xs = outs l ks
theorem outs_snoc (l : List Pts) (ks : List Int) (k : Int) : outs l (ks ++ [k]) = if inR k then outs l ks ++ [(k, sortS (ofL l k))] else outs l ks := by
 unfold outs
 rw [List.filter_append]
 by_cases h : inR k = true
 ·rw [if_pos h]; simp [h]
 ·rw [if_neg h]; simp [h]
set_option maxRecDepth 100000 in
set_option maxHeartbeats 2000000 in
theorem iter_sorted (Z n Bm b : Nat) (l : List Pts) (w : World) (hn : 8 ≤ n) (hBm : w.heap[Bm]? = some (.cells #[.map (some b)] 155 (0, 0))) (hZ : Z ≤ w.heap.size) (hT : ∀ W', Below Z w W' → Tabs W') (G : Gath w b l) (hl : l.length ≤ 990000000)
  (hs : ∀ k, (ofL l k).length * 32 ≤ 140737488355328) : IterOk Z Fence.wide n Tryz.prog 121 #[.pointer (some ⟨Bm, 0, none⟩)] encR NewR (SR l) l.length w := by
 intro lp J W hW hY h0
 have hbm : Bm < w.heap.size := (Array.getElem?_eq_some_iff.1 hBm).1
 have hBW : W.heap[Bm]? = some (.cells #[.map (some b)] 155 (0, 0)) := (hW.block _ hbm).trans hBm
 have c0 : W.cell? ⟨Bm, 0, none⟩ = some (.map (some b)) := by simp [World.cell?, hBW]
 obtain ⟨m, D, hm, GM⟩ := G.on hW
 have hown := GM.map
 have hsz : Maps.size D ≤ maxLen := by have := hown.size_le; unfold maxLen; omega
 have hsb : Maps.size D * 8 ≤ 140737488355328 := by have := hown.size_le; omega
 have hbl := hown.lt
 have hseq : SeqGives Fence.wide (n - 1 - 1 - 1 - 1) Tryz.prog 134 #[.pointer (some ⟨W.heap.size, 0, none⟩)] encZ (fun ss => ss.Perm (intKeys D) ∧ ∀ x, x ∈ ss ↔ has D (.int .i64 x) = true) (Maps.size D) (W.alloc (.cells #[.map (some b)] 155)) :=
  (AnyZI.keys_stops (ρ := Tryz.keysS_ren) { Tryz.keysS with } Fence.wide _ trivial rfl (by omega) W.heap.size b m D _ (by simp) (by simp) (by
    obtain ⟨es, clock, hb, Ft, hs, hD⟩ := hown
    exact ⟨es, clock, (Below.heap_alloc _ _ b hbl).trans hb, Ft, hs, hD⟩)).gives
 have cK : ∀ mb W, CallsIn Fence.wide (n - 1) Tryz.prog 123 #[.map mb] W fun e w' => e = .returned (.func (.func 134) #[] #[.pointer (some ⟨W.heap.size, 0, none⟩)]) ∧ w' = W.alloc (.cells #[.map mb] 155) := fun mb W => AnyZI.keys_in Tryz.keysS Fence.wide (n - 1) trivial rfl mb W
 have cS := AnyZI.sorted_in Tryz.sortedI Fence.wide (n - 1) trivial trivial trivial trivial rfl (by omega) (sortsIn _) (enters_of Tryz.func133 (by kernel_rfl) rfl) 134 #[.pointer (some ⟨W.heap.size, 0, none⟩)] trivial (enters_of Tryz.func134 (by kernel_rfl) rfl) _ _ hsz hsb _ hseq
 change CallsIn _ _ Tryz.prog 122 _ _ _ at cS
 have hnd := keys_nodup hown Tryz.underlying3
 have hkw := intKeys_wf hown Tryz.underlying3
 have hhas := GM.has
 have HSZ : Hid ((intKeys D).length ≤ l.length) := by
  have h1 : (intKeys D).length ≤ Maps.size D := by cases D <;> simp [intKeys, Maps.size]
  have h2 := hown.size_le
  show _ ≤ _
  omega
 clear hseq GM
 have HY := Lib.hid hY
 have HGW := Lib.hid (G.on hW)
 have HZ := Lib.hid hZ
 have HT := Lib.hid hT
 have HW := Lib.hid hW
 have HS := Lib.hid hs
 have HH := Lib.hid hhas
 have HK := Lib.hid hkw
 have HN := Lib.hid hnd
 clear hY hT hW hs hhas hkw hnd hown G hZ hsz hsb
 have hfK : Fence.wide.fn 123 := trivial
 have hfS : Fence.wide.fn 122 := trivial
 have hfD : Fence.wide.fn 124 := trivial
 have h1 : 1 ≤ n := by omega
 refine callsIn_of_wp Tryz.func121 rfl trivial ?_ rfl
 simp only [Tryz.ntmps121, List.size_toArray, List.length_cons, List.length_nil, Nat.reduceAdd, Nat.reduceSub, Array.replicate_succ, Array.replicate_zero, List.push_toArray, List.append_toArray, List.nil_append, List.cons_append]
 gi_wp2_with (gi_at_call 123; refine (cK _ _).mono ?_; rintro e w' ⟨rfl, rfl⟩)
 refine cS.mono ?_; rintro e w' ⟨v, ss, rfl, ⟨hS, hS2⟩, hrow, hnil, hb⟩; obtain ⟨ks, hks⟩ : ∃ ks, ks = ss.mergeSort (fun x y => decide (x ≤ y)) := ⟨_, rfl⟩; have hlen : ss.length = ks.length := by rw [hks, List.length_mergeSort]
 rw [← hks, hlen] at hrow; obtain ⟨n1, hn1⟩ : ∃ n1, n1 = ks.length := ⟨_, rfl⟩; obtain ⟨A0, c1, rfl, hc1, hA⟩ := RdZ.of_owns hrow
 rw [← hn1] at hrow hc1 ⊢
 have hIK : Hid (IsKeys l ks) := ⟨by rw [hks]; exact sort_lt (hS.symm.nodup HN.out), fun k => by rw [hks, List.mem_mergeSort, hS2 k, HH.out k]⟩
 have hKW : Hid (∀ k ∈ ks, (Lit.int .i64 k).wf = true) := fun k hk => HK.out k (hS.mem_iff.1 (by rw [hks, List.mem_mergeSort] at hk; exact hk))
 have hn3 : n1 ≤ l.length := by
  have h1 := hS.length_eq
  have h2 := HSZ.out
  omega
 have hn2 : n1 ≤ 990000000 := by
  have h1 := hS.length_eq
  have h2 := HSZ.out
  omega
 have hb2 : Below W.heap.size W w' := ((Below.refl _ W).alloc (Nat.le_refl _) _).trans (hb.mono (by simp))
 have HR := Lib.hid hrow
 have HA := Lib.hid hA
 have HN1 := Lib.hid hn1
 have HB2 := Lib.hid hb2
 clear hrow hA hn1 hks hlen hS hS2 hnil hb hb2 HH HK HN cS cK
 have hbl2 : Hid (w'.heap[Bm]? = some (.cells #[.map (some b)] 155 (0, 0))) := (HB2.out.block _ (Array.getElem?_eq_some_iff.1 hBW).1).trans hBW
 gi_wp2
 gi_loopw [9] (fun i wl => ∃ (k : Nat) (pre : List Row) (W0 : World), k ≤ n1 ∧ i = .int .i64 k ∧ Hid (J pre W0) ∧ Hid (Below W0.heap.size W0 wl) ∧ Hid (cut pre = outs l (ks.take k)) ∧ Hid (Gath wl b l) ∧ Hid (wl.ownsRow _ 3 1 (.slice A0 n1 c1) n1 (ks.map encZ)) ∧ Hid (wl.heap[Bm]? = some (.cells #[.map (some b)] 155 (0, 0))) ∧ Hid (Below Z W wl))
  (fun i _ => n1 - (intOf i).toNat)
 case atStart => exact ⟨0, [], W, Nat.zero_le _, rfl, h0, HB2.out, rfl, HGW.out.on HB2.out, HR.out, hbl2.out, HB2.out.mono (Nat.le_trans HZ.out HW.out.size)⟩
 case round =>
  obtain ⟨k, pre, W0, hk, rfl, HJ, HBW0, HC, HG, HRW, HBM, HBZ⟩ := hrel
  by_cases hlt : k < n1
  ·have hkl : k < ks.length := by rw [← HN1.out]; exact hlt
   obtain ⟨z, hz⟩ : ∃ z, z = ks[k] := ⟨_, rfl⟩
   have hzw : (Lit.int .i64 z).wf = true := hKW.out z (by rw [hz]; exact List.getElem_mem hkl)
   obtain ⟨b1, o1, eA, q0'⟩ := cells_of_owns HRW.out HN1.out k hkl
   subst eA
   have q0 : wr.cell? ⟨b1, o1 + k, none⟩ = some (.int .i64 z) := by rw [hz]; exact q0'
   have q1 : wr.cell? ⟨Bm, 0, none⟩ = some (.map (some b)) := by simp [World.cell?, HBM.out]
   have HTK : Hid (ks.take (k + 1) = ks.take k ++ [z]) := by rw [hz]; exact List.take_succ_eq_append_getElem hkl
   have i1 : (k : Int) < (n1 : Int) := by omega
   clear q0' hz c0
   by_cases hin : 1 ≤ z ∧ z ≤ 1073741824
   ·obtain ⟨z1, z2⟩ := hin
    have hir : inR z = true := by simp [inR, z1, z2]
    have HC2 : Hid (∀ r, cut (pre ++ [(z, r, sortS (ofL l z))]) = outs l (ks.take (k + 1))) := fun r => by
     rw [HTK.out, outs_snoc, if_pos hir, ← HC.out]
     simp [cut]
    obtain ⟨v, hvo, hl0, _, _⟩ := HG.out.round (p := (z, [])) hzw (by omega)
    have hq : (Instr.lookup 155 (.map (some b)) (.int .i64 z) false).run Tryz.prog wr = .ok v wr := hl0 _ ⟨rfl, rfl, rfl, Nat.le_refl _, fun _ _ _ => rfl⟩
    have HSo : Hid (CallsIn Fence.wide (n - 1) Tryz.prog 124 #[v] wr fun e w' => ∃ r, e = .returned r ∧ Own w' wr.heap.size 66 r (sortS (ofL l z)) ∧ Below wr.heap.size wr w') :=
     callsIn_wide.2 (dsort_walk v _ wr (HT.out _ ((HW.out.mono HZ.out).trans HBZ.out)) hvo.rd (HS.out z))
    have HPL : Hid (pre.length < l.length) := by
     have h1 := congrArg List.length HC.out
     have h2 := List.length_filter_le inR (ks.take k)
     have h3 := List.length_take_le k ks
     simp only [cut, outs, List.length_map] at h1
     show _ < _
     omega
    have HYr : Hid (∀ r w1, Own w1 wr.heap.size 66 r (sortS (ofL l z)) → Below wr.heap.size wr w1 → YieldAt Fence.wide (n - 1) Tryz.prog lp #[.int .i64 z, r] w1 fun e W' => e = .returned (.bool true) ∧ J (pre ++ [(z, r, sortS (ofL l z))]) W' ∧ KpO Z w1 W') :=
     fun r w1 ho hb => HY.out pre (z, r, sortS (ofL l z)) W0 w1 HJ.out HPL.out (HBW0.out.trans (hb.mono HBW0.out.size)) ⟨ho.lower HBW0.out.size, hzw, by show (sortS (ofL l z)).length * 32 ≤ _; have h1 := sortS_length (ofL l z); have h2 := HS.out z; omega⟩
    clear hvo hl0 HC
    gi_wp2_with (gi_at_call 124; refine HSo.out.mono ?_; rintro e w1 ⟨r, rfl, hro, hrb⟩; obtain ⟨fn, tmps, assign, body, hy, hR⟩ := HYr.out r w1 hro hrb)
    refine hR.mono ?_
    rintro e W3 ⟨rfl, hJ3, hk3⟩
    gi_wp2
    go_roundw
    case rel => exact ⟨k + 1, pre ++ [(z, r, sortS (ofL l z))], W3, by omega, by go_num, hJ3, Below.refl _ _, HC2.out r, (HG.out.on hrb).kpo hk3, KpO.owns hk3 (Below.owns hrb HRW.out) (by rfl), hk3.2 _ _ ((hrb.block _ (Array.getElem?_eq_some_iff.1 HBM.out).1).trans HBM.out) (by rfl), (HBZ.out.trans (hrb.mono (Nat.le_trans (Nat.le_trans HZ.out HW.out.size) HBZ.out.size))).trans hk3.1⟩
    case measure => simp [intOf]; omega
   ·have hir : inR z = false := by
     cases h : inR z with
     | false => rfl
     | true => simp [inR] at h; omega
    have HC2 : Hid (cut pre = outs l (ks.take (k + 1))) := by rw [HTK.out, outs_snoc, if_neg (by rw [hir]; decide)]; exact HC.out
    by_cases z1 : 1 ≤ z
    ·have z2 : ¬ z ≤ 1073741824 := fun h => hin ⟨z1, h⟩
     gi_wp2
     refine ⟨fun _ h => (by cases h), ?_⟩
     gi_wp2
     go_roundw
     case rel => exact ⟨k + 1, pre, W0, by omega, by go_num, HJ.out, HBW0.out, HC2.out, HG.out, HRW.out, HBM.out, HBZ.out⟩
     case measure => simp [intOf]; omega
    ·gi_wp2
     refine ⟨fun _ h => (by cases h), ?_⟩
     gi_wp2
     go_roundw
     case rel => exact ⟨k + 1, pre, W0, by omega, by go_num, HJ.out, HBW0.out, HC2.out, HG.out, HRW.out, HBM.out, HBZ.out⟩
     case measure => simp [intOf]; omega
  ·have hkn : k = n1 := by omega
   have hfin : Hid (SR l pre) := ⟨ks, hIK.out, by have h := HC.out; rwa [hkn, HN1.out, List.take_length] at h⟩
   clear hkn HC
   gi_wp2
   go_end0
   exact ⟨⟨_, rfl⟩, pre, W0, hfin.out, HJ.out, HBW0.out⟩
end Go.Proofs.YtnkelahimiipjaaGreatDoor

/-
 A row of points that the call makes itself, in a box: it grows by an append.
-/
namespace Go.Proofs.YtnkelahimiipjaaGreatDoor
open Go.RowKit Go.Sort Go.Maps
def ptC (x : Row) : List Value := [.int .i64 x.1, x.2.1]
/-- Where a slice points: not into the box, not into the row that grows. -/
def Away (w : World) (Bo : Nat) (row : Option Nat) (v : Value) : Prop := ∀ a n c, v = .slice (some a) n c → a.block ≠ Bo ∧ some a.block ≠ row ∧ a.block < w.heap.size
structure OutP (w : World) (base Bo : Nat) (v : Value) (cs : List Row) : Prop where
 row : w.ownsRow base 62 2 v cs.length (cs.flatMap ptC)
 box : Boxed w Bo 22 v
 rd : ∀ x ∈ cs, Own w base 66 x.2.1 x.2.2 ∧ Away w Bo v.ownBlock x.2.1
theorem Away.ne {w w' : World} {Bo base e : Nat} {row : Option Nat} {v : Value} {l : List Smp} (h : Away w Bo row v) (ho : Own w' base e v l) : (v.ownBlock = none ∨ v.ownBlock ≠ row) ∧ (v.ownBlock = none ∨ v.ownBlock ≠ some Bo) := by
 rcases ho.2 with ⟨rfl, _⟩ | ⟨g, cap, cur, rfl, _⟩
 ·exact ⟨.inl rfl, .inl rfl⟩
 ·have := h _ _ _ rfl
  exact ⟨.inr this.2.1, .inr fun e => this.1 (by injection e)⟩
theorem OutP.on {w w' : World} {base Bo : Nat} {v : Value} {cs : List Row} (h : OutP w base Bo v cs) (k : Below w.heap.size w w') : OutP w' base Bo v cs :=
 ⟨Below.owns k h.row, (k.block _ h.box.lt).trans h.box, fun x hx => by
  obtain ⟨h1, h3⟩ := h.rd x hx
  exact ⟨h1.below k, fun a n c e => ⟨(h3 a n c e).1, (h3 a n c e).2.1, Nat.lt_of_lt_of_le (h3 a n c e).2.2 k.size⟩⟩⟩
theorem OutP.put {w : World} {base Bo : Nat} {v : Value} {cs : List Row} (h : OutP w base Bo v cs) {l : Nat} {o0 : Obj} (o : Obj) (hl : w.heap[l]? = some o0) (ho : o0.isCells = false) : OutP (w.putObj l o) base Bo v cs :=
 ⟨ownsRow_putObj h.row o hl ho, h.box.kept (grownBy_putObj' w l o) (fun e => by injection e with e; subst e; rw [show w.heap[Bo]? = _ from h.box] at hl; cases hl; cases ho), fun x hx => by
  obtain ⟨h1, h3⟩ := h.rd x hx
  exact ⟨ownsRow_putObj h1 o hl ho, fun a n c e => ⟨(h3 a n c e).1, (h3 a n c e).2.1, by rw [World.putObj_size]; exact (h3 a n c e).2.2⟩⟩⟩
theorem OutP.new (w : World) (base : Nat) : OutP (w.alloc (.cells #[.slice none 0 0] 22)) base w.heap.size (.slice none 0 0) [] :=
 ⟨⟨rfl, .inl ⟨rfl, rfl⟩⟩, Boxed.new _ _ _, fun _ hx => absurd hx (List.not_mem_nil)⟩
theorem OutP.push {w w1 : World} {base Bo : Nat} {v v' : Value} {cs : List Row} {tmp : Obj} {x : Row} (h : OutP w base Bo v cs) (hR : Own w base 66 x.2.1 x.2.2) (ha : Away w Bo v.ownBlock x.2.1)
  (hg : (w.alloc tmp).grownBy w1 v.ownBlock) (hown : w1.ownsRow base 62 2 v' (cs.length + 1) (cs.flatMap ptC ++ ptC x)) (hloc : v'.ownBlock = v.ownBlock ∨ v'.ownBlock = some (w.alloc tmp).heap.size) :
  OutP (w1.setCell ⟨Bo, 0, none⟩ v') base Bo v' (cs ++ [x]) := by
 have hb1 : Boxed w1 Bo 22 v := (h.box.alloc tmp).kept hg (h.box.not_row (by decide) h.row)
 have hb1' : Boxed w1 Bo 22 v := hb1
 refine ⟨?_, hb1.set v', fun y hy => ?_⟩
 ·have := hown.kept (grownBy_setCell' w1 Bo v') (.inr (hb1.not_row (by decide) hown).symm)
  rw [List.length_append, List.flatMap_append]
  simpa using this
 ·have hy2 : Own w base 66 y.2.1 y.2.2 ∧ Away w Bo v.ownBlock y.2.1 := by
   rcases List.mem_append.1 hy with hy | hy
   ·exact h.rd y hy
   ·rw [List.mem_singleton] at hy; subst hy; exact ⟨hR, ha⟩
  obtain ⟨h1, h3⟩ := hy2
  have hA : (w.alloc tmp).heap.size = w.heap.size + 1 := by simp
  have hne := h3.ne h1
  have h5 := (h1.alloc tmp).kept hg hne.1
  refine ⟨h5.kept (grownBy_setCell' w1 Bo v') hne.2, fun a n c e => ⟨(h3 a n c e).1, ?_, ?_⟩⟩
  ·rcases hloc with e9 | e9
   ·rw [e9]; exact (h3 a n c e).2.1
   ·rw [e9]
    intro e8
    injection e8 with e8
    have := (h3 a n c e).2.2
    omega
  ·have q1 := (h3 a n c e).2.2
   have q2 := hg.size
   have q3 := (grownBy_setCell' w1 Bo v').size
   omega
theorem OutP.kpB {w w1 : World} {base Bo : Nat} {v v' : Value} {cs : List Row} {tmp : Obj} (h : OutP w base Bo v cs) (hg : (w.alloc tmp).grownBy w1 v.ownBlock) (hbase : base ≤ w.heap.size) (hBo : base ≤ Bo) : KpB base w (w1.setCell ⟨Bo, 0, none⟩ v') := by
 refine ⟨(((Below.refl base w).alloc hbase tmp).grown hg (by simp; omega) (fun k e => (World.ownsRow.lt h.row k e).1)).setCell (p := ⟨Bo, 0, none⟩) hBo v', fun k o hk ho => ?_⟩
 have hlt := (Array.getElem?_eq_some_iff.1 hk).1
 have hkB : k ≠ Bo := by
  intro e
  subst e
  rw [show w.heap[k]? = _ from h.box] at hk
  injection hk with hk
  subst hk
  have : keptB (.cells #[v] 22 (0, 0)) = false := rfl
  rw [this] at ho
  cases ho
 have hko : some k ≠ v.ownBlock := by
  intro e
  rcases h.row.2 with ⟨rfl, _⟩ | ⟨g, cap, cur, rfl, hb, hc, _⟩
  ·cases e
  ·injection e with e
   have e : k = g := e
   subst e
   rw [hc] at hk
   injection hk with hk
   subst hk
   have : keptB (.cells cur 62 (0, 0)) = false := rfl
   rw [this] at ho
   cases ho
 exact (Below.heap_setCell w1 _ v' k hkB).trans ((hg.block k (by simp; omega) hko).trans ((Below.heap_alloc w tmp k hlt).trans hk))
theorem Away.own {W0 w : World} {base Bo : Nat} {v sv : Value} {cs : List Row} {sl : List Smp} {e : TypeId} (h : OutP W0 base Bo v cs) (ho : Own w W0.heap.size e sv sl) : Away w Bo v.ownBlock sv := by
 intro a n c e1
 subst e1
 have hb : (Value.slice (some a) n c).ownBlock = some a.block := by
  rcases ho.2 with ⟨h0, _⟩ | ⟨g, cap, cur, h0, _⟩
  ·cases h0
  ·injection h0 with h0; injection h0 with h0; subst h0; rfl
 have h1 := ho.blk hb
 have h2 := h.box.lt
 refine ⟨by omega, fun e9 => ?_, h1.2⟩
 have := (World.ownsRow.lt h.row _ e9.symm).2
 omega
theorem flat2 (cs : List Row) (i t : Nat) (hi : i < cs.length) (ht : t < 2) : (cs.flatMap ptC)[i * 2 + t]? = (ptC cs[i])[t]? := by
 induction cs generalizing i with
 | nil => cases hi
 | cons c cs ih =>
   rw [List.flatMap_cons]
   cases i with
   | zero => rw [List.getElem?_append_left (by simp [ptC]; omega)]; simp
   | succ i =>
     rw [List.getElem?_append_right (by simp [ptC]; omega)]
     have e : (i + 1) * 2 + t - (ptC c).length = i * 2 + t := by simp [ptC]; omega
     rw [e]
     exact ih i (by simpa using hi)
/-- A row of points whose memory the call made itself. -/
def RdO (w : World) (base : Nat) (v : Value) (l : List Pts) : Prop :=
 ∃ A c, v = .slice A l.length c ∧ l.length ≤ c ∧ ((l = [] ∧ (A = none → c = 0)) ∨ ∃ b o, A = some ⟨b, o, none⟩ ∧ base ≤ b ∧ b < w.heap.size ∧ (∃ cc, w.heap[b]? = some (.cells cc 62 (0, 0))) ∧ ∀ i (h : i < l.length), w.cell? ⟨b, o + i * 2, none⟩ = some (.int .i64 l[i].1) ∧ ∃ sv, w.cell? ⟨b, o + i * 2 + 1, none⟩ = some sv ∧ Own w base 66 sv l[i].2 ∧ sv.ownBlock ≠ some b)
theorem RdO.rdP {w : World} {base : Nat} {v : Value} {l : List Pts} (h : RdO w base v l) : RdP w w.heap.size v l := by
 obtain ⟨A, c, e, hc, hA⟩ := h
 exact ⟨A, c, e, hc, hA.imp (fun h => h.1) fun ⟨b, o, e, _, hb, _, hcl⟩ => ⟨b, o, e, hb, fun i hi => by
  obtain ⟨h1, sv, h2, h3, _⟩ := hcl i hi
  exact ⟨h1, sv, h2, h3.rd, h3.nz⟩⟩⟩
theorem RdO.lower {w : World} {base base' : Nat} {v : Value} {l : List Pts} (h : RdO w base v l) (k : base' ≤ base) : RdO w base' v l := by
 obtain ⟨A, c, e, hc, hA⟩ := h
 exact ⟨A, c, e, hc, hA.imp id fun ⟨b, o, e, hb0, hb, ht, hcl⟩ => ⟨b, o, e, Nat.le_trans k hb0, hb, ht, fun i hi => by
  obtain ⟨h1, sv, h2, h3, h4⟩ := hcl i hi
  exact ⟨h1, sv, h2, h3.lower k, h4⟩⟩⟩
theorem RdO.on {w w' : World} {base : Nat} {v : Value} {l : List Pts} (h : RdO w base v l) (k : Below w.heap.size w w') : RdO w' base v l := by
 obtain ⟨A, c, e, hc, hA⟩ := h
 exact ⟨A, c, e, hc, hA.imp id fun ⟨b, o, e, hb0, hb, ⟨cc, ht⟩, hcl⟩ => ⟨b, o, e, hb0, Nat.lt_of_lt_of_le hb k.size, ⟨cc, (k.block _ hb).trans ht⟩, fun i hi => by
  obtain ⟨h1, sv, h2, h3, h4⟩ := hcl i hi
  exact ⟨(k.cell hb).trans h1, sv, (k.cell hb).trans h2, h3.below k, h4⟩⟩⟩
theorem OutP.rdO {w : World} {base Bo : Nat} {v : Value} {cs : List Row} (h : OutP w base Bo v cs) : RdO w base v (cut cs) := by
 have hlen : (cut cs).length = cs.length := by simp [cut]
 rcases h.row.2 with ⟨rfl, hn⟩ | ⟨g, cap, cur, rfl, hb, hc, h1, h2, h3, h4⟩
 ·have : cs = [] := List.eq_nil_of_length_eq_zero hn
  subst this
  exact ⟨none, 0, rfl, Nat.zero_le _, .inl ⟨rfl, fun _ => rfl⟩⟩
 ·refine ⟨some ⟨g, 0, none⟩, cap, by rw [hlen], by rw [hlen]; exact h1, .inr ⟨g, 0, rfl, hb, (Array.getElem?_eq_some_iff.1 hc).1, ⟨_, hc⟩, fun i hi => ?_⟩⟩
  have hi' : i < cs.length := by rw [← hlen]; exact hi
  obtain ⟨q1, q2⟩ := h.rd cs[i] (List.getElem_mem hi')
  have hcell : ∀ t (ht : t < 2), w.cell? ⟨g, i * 2 + t, none⟩ = (ptC cs[i])[t]? := by
   intro t ht
   have e1 : w.cell? ⟨g, i * 2 + t, none⟩ = cur[i * 2 + t]? := by simp [World.cell?, hc]
   have e2 : (cur.toList.take (cs.length * 2))[i * 2 + t]? = cur[i * 2 + t]? := by rw [List.getElem?_take_of_lt (by omega)]; simp
   rw [e1, ← e2, h4]
   exact flat2 cs i t hi' ht
  have e0 := hcell 0 (by omega)
  have e1 := hcell 1 (by omega)
  have hci : (cut cs)[i] = (cs[i].1, cs[i].2.2) := by simp [cut]
  rw [hci]
  refine ⟨by rw [Nat.zero_add]; exact e0, cs[i].2.1, by rw [Nat.zero_add]; exact e1, q1, ?_⟩
  rcases (q2.ne q1).1 with e9 | e9
  ·rw [e9]; simp
  ·exact e9
end Go.Proofs.YtnkelahimiipjaaGreatDoor

/-
 stream.made at stream.Clean's closure.
-/
namespace Go.Proofs.YtnkelahimiipjaaGreatDoor
open Go.RowKit Go.Sort Go.Maps
attribute [local go_sem] Oper.semAt_some
set_option maxRecDepth 100000 in
theorem clean1_walk (id : Int) (r : Value) (W : World) : Calls Tryz.prog 80 #[.int .i64 id, r] W fun e w' => e = .returned r ∧ w' = W := by
 go_enter Tryz.func80, Tryz.ntmps80
 go_wp2_with fail
 go_ret
 exact ⟨rfl, rfl⟩
set_option maxRecDepth 100000 in
theorem sorted_call (mb : Option Nat) (W : World) : Calls Tryz.prog 106 #[.map mb] W fun e w' => e = .returned (.func (.func 121) #[] #[.pointer (some ⟨W.heap.size, 0, none⟩)]) ∧ w' = W.alloc (.cells #[.map mb] 155) := by
 go_enter Tryz.func106, Tryz.ntmps106
 go_wp2_with fail
 go_ret
 exact ⟨rfl, rfl⟩
theorem RdR.on {w w' : World} {v : Value} {ll : List (List Pts)} (h : RdR w w.heap.size v ll) (k : Below w.heap.size w w') : RdR w' w'.heap.size v ll := by
 obtain ⟨A, c, e, hc, hA⟩ := h
 exact ⟨A, c, e, hc, hA.imp id fun ⟨b, o, e, hb, hcl⟩ => ⟨b, o, e, Nat.lt_of_lt_of_le hb k.size, fun i hi => by
  obtain ⟨sv, h1, h2⟩ := hcl i hi
  exact ⟨sv, (k.cell hb).trans h1, (h2.below k).mono k.size⟩⟩⟩
theorem NewR.put {A B : World} {x : Row} (l : Nat) (o : Obj) (h : NewR A B x) (hl : l < A.heap.size) : NewR (A.putObj l o) (B.putObj l o) x := by
 refine ⟨?_, h.2⟩
 rw [World.putObj_size]
 refine h.1.kept (grownBy_putObj' B l o) ?_
 cases hv : x.2.1.ownBlock with
 | none => exact .inl rfl
 | some g => exact .inr (by have := (h.1.blk hv).1; intro e; injection e with e; omega)
theorem cells2 (w : World) (a b : Value) (t : TypeId) : ∀ (j : Nat) (u : Value), ([a, b] : List Value)[j]? = some u → (w.alloc (.cells #[a, b] t)).cell? (Addr.add ⟨w.heap.size, 0, none⟩ j) = some u := by
 intro j u hj
 rcases j with _ | _ | j
 ·simp at hj; subst hj; simp [Addr.add]
 ·simp at hj; subst hj; simp [Addr.add]
 ·simp at hj
theorem info_Pts : (Tryz.prog.info? 62).map (fun i => (i.zero, i.size, i.bytes)) = some (some (.agg #[.int .i64 0, .slice none 0 0]), 2, 32) := by kernel_rfl
/-- What is kept of the points. -/
def fosC (FO : Int → List Smp → List Smp) (l : List Pts) : List Pts := (l.map (fun p => (p.1, FO p.1 p.2))).filter (fun p => p.2.length ≠ 0)
theorem cut_snoc (l : List Row) (x : Row) : cut (l ++ [x]) = cut l ++ [(x.1, x.2.2)] := by simp [cut]
theorem fosC_snoc (FO : Int → List Smp → List Smp) (l : List Pts) (p : Pts) : fosC FO (l ++ [p]) = if (FO p.1 p.2).length = 0 then fosC FO l else fosC FO l ++ [(p.1, FO p.1 p.2)] := by
 unfold fosC
 rw [List.map_append, List.filter_append]
 by_cases h : (FO p.1 p.2).length = 0
 ·rw [if_pos h]; simp; exact List.eq_nil_of_length_eq_zero h
 ·rw [if_neg h]; simp; exact fun e => h (by rw [e]; rfl)
set_option maxRecDepth 100000 in
set_option maxHeartbeats 2000000 in
theorem madeC_walk (vl : Value) (ll : List (List Pts)) (W : World) (T : Tabs W) (hR : RdR W W.heap.size vl ll) (hwf : ∀ r ∈ ll, ∀ p ∈ r, (Lit.int .i64 p.1).wf = true) (hn1 : ll.length ≤ 990000000) (hn2 : ll.flatten.length ≤ 990000000) (hn3 : (ll.flatten.flatMap (fun p => p.2)).length ≤ 990000000) :
  Calls Tryz.prog 79 #[vl, .func (.func 80) #[] #[]] W fun e w' => ∃ v ks, e = .returned v ∧ IsKeys ll.flatten ks ∧ RdO w' W.heap.size v (fosC (fun _ s => s) (outs ll.flatten ks)) ∧ Below W.heap.size W w' := by
 refine (callsIn_wide (n := 20)).1 ?_
 have hfG : Fence.wide.fn 107 := trivial
 have hfS : Fence.wide.fn 106 := trivial
 have hfC : Fence.wide.fn 80 := trivial
 have KG : Hid (∀ w', Below W.heap.size W w' → CallsIn Fence.wide 19 Tryz.prog 107 #[vl] w' fun e w'' => e = .returned (.map (some w'.heap.size)) ∧ Gath w'' w'.heap.size ll.flatten ∧ Below w'.heap.size w' w'') := fun w' hb =>
  callsIn_wide.2 (gather_walk vl ll w' (hR.on hb) hwf hn1 hn2 hn3)
 have KS : ∀ mb w', CallsIn Fence.wide 19 Tryz.prog 106 #[.map mb] w' fun e w'' => e = .returned (.func (.func 121) #[] #[.pointer (some ⟨w'.heap.size, 0, none⟩)]) ∧ w'' = w'.alloc (.cells #[.map mb] 155) := fun mb w' => callsIn_wide.2 (sorted_call mb w')
 have hB1 : Below W.heap.size W ((W.alloc (.cells #[.func (.func 80) #[] #[]] 125)).alloc (.cells #[.slice none 0 0] 22)) := ((Below.refl _ W).alloc (Nat.le_refl _) _).alloc (by simp) _
 have KG1 := KG.out _ hB1
 refine callsIn_of_wp_marks Tryz.func79 rfl trivial ?_ rfl
 simp only [Tryz.ntmps79, List.size_toArray, List.length_cons, List.length_nil, Nat.reduceAdd, Nat.reduceSub, Array.replicate_succ, Array.replicate_zero, List.push_toArray, List.append_toArray, List.nil_append, List.cons_append]
 gi_wp2_with (first
  | (gi_at_call 107; refine KG1.mono ?_; rintro e w1 ⟨rfl, hG, hGb⟩)
  | (gi_at_call 106; refine (KS _ _).mono ?_; rintro e w2 ⟨rfl, rfl⟩))
 have hsz1 : W.heap.size + 2 ≤ w1.heap.size := by have := hGb.size; simp at this; omega
 have hlen : ∀ k, (ofL ll.flatten k).length * 32 ≤ 140737488355328 := fun k => by have := ofL_len ll.flatten k; omega
 have hGb2 := hGb
 obtain ⟨b, hb⟩ : ∃ b, b = W.heap.size + 1 + 1 := ⟨_, rfl⟩
 simp only [World.size_alloc] at hG hGb
 rw [← hb] at hG hGb ⊢
 have HB := Lib.hid hb
 clear hb
 obtain ⟨w3, hw3⟩ : ∃ w3, w3 = w1.alloc (.cells #[.map (some b)] 155) := ⟨_, rfl⟩
 have hB3 : Below w1.heap.size w1 w3 := by rw [hw3]; exact (Below.refl _ _).alloc (Nat.le_refl _) _
 have hsz3 : w3.heap.size = w1.heap.size + 1 := by rw [hw3]; simp
 have hBW3 : Below W.heap.size W w3 := (hB1.trans (hGb2.mono (by simp; omega))).trans (hB3.mono (by omega))
 have hG3 : Gath w3 b ll.flatten := hG.on hB3
 have hBm : w3.heap[w1.heap.size]? = some (.cells #[.map (some b)] 155 (0, 0)) := by rw [hw3]; exact World.alloc_heap_new _ _
 have hBx : w1.heap[W.heap.size]? = some (.cells #[.func (.func 80) #[] #[]] 125 (0, 0)) :=
  (hGb2.block _ (by simp; omega)).trans ((Below.heap_alloc _ _ _ (by simp)).trans (World.alloc_heap_new _ _))
 have hOx : OutP w3 W.heap.size (W.heap.size + 1) (.slice none 0 0) [] := by
  have h := OutP.new (W.alloc (.cells #[.func (.func 80) #[] #[]] 125)) W.heap.size
  simp only [World.size_alloc] at h
  exact (h.on (by simpa using hGb2)).on hB3
 rw [← hw3]
 clear hw3
 refine range_ok (Z := W.heap.size) (N := ll.flatten.length) (F := Fence.wide) (n := 20) rfl (by omega) (gf := 121) (lb := #[.pointer (some ⟨w1.heap.size, 0, none⟩)]) rfl trivial (enters_of Tryz.func121 (by kernel_rfl) rfl) (encs := encR) (New := NewR) (S := SR ll.flatten) (w0 := w3) hBW3.size
  (iter_sorted W.heap.size 19 w1.heap.size b ll.flatten w3 (by omega) hBm hBW3.size (fun W' hb' => T.below (hBW3.trans hb')) hG3 hn2 hlen) (Below.refl _ _) (fun _ => rfl) (fun A B x l o h hl => NewR.put l o h hl)
  (fun pre W1 => ∃ cs v, OutP W1 W.heap.size (W.heap.size + 1) v cs ∧ cut cs = fosC (fun _ s => s) (cut pre) ∧ cs.length ≤ pre.length ∧ Below W.heap.size W W1 ∧ W1.heap[W.heap.size]? = some (.cells #[.func (.func 80) #[] #[]] 125 (0, 0)))
  ?hI ?h0 (fun x => { tmps := #[vl, .func (.func 80) #[] #[], undef, .pointer (some ⟨W.heap.size, 0, none⟩), .slice none 0 0, .pointer (some ⟨W.heap.size + 1, 0, none⟩), .int .i64 x.1, x.2.1, vl, .map (some b), .func (.func 121) #[] #[.pointer (some ⟨w1.heap.size, 0, none⟩)], .int .i64 x.1, x.2.1, undef, undef, undef, undef, undef, undef, undef, undef, undef, undef, undef, undef, undef, undef], defers := [] }) ?assign ?body ?done
 case hI =>
  rintro s A l r o ⟨cs, v, h1, h2, h3, h4, h5⟩ hl hr
  have hl' : W.heap.size < l := by omega
  exact ⟨cs, v, h1.put o hr rfl, h2, h3, ⟨h4.os, h4.tape, h4.output, by rw [World.putObj_size]; exact h4.size, fun k hk => (World.putObj_heap_other (by omega)).trans (h4.block k hk)⟩, (World.putObj_heap_other (by omega)).trans h5⟩
 case h0 =>
  intro B hB
  exact ⟨[], _, hOx.on hB, rfl, Nat.le_refl _, hBW3.trans (hB.mono hBW3.size), (hB.block _ (by omega)).trans ((hB3.block _ (by omega)).trans hBx)⟩
 case assign =>
  intro l x W K hK
  dsimp only [encR]
  gi_wp2
  exact hK
 case body =>
  rintro l pre x W0 Wb hl hlW ⟨cs, v, h1, h2, h3, h4, h5⟩ hpl hbel hnew
  obtain ⟨id, sv, sl⟩ := x
  have hO := h1.on hbel
  have hR := hnew.1.rd
  have hOw : Own Wb W.heap.size 66 sv sl := hnew.1.lower h4.size
  have hAw : Away Wb (W.heap.size + 1) v.ownBlock sv := Away.own h1 hnew.1
  have HC1 : Hid (∀ u, sl.length ≠ 0 → cut (cs ++ [(id, u, sl)]) = fosC (fun _ s => s) (cut (pre ++ [(id, u, sl)]))) := fun u hne => by
   rw [cut_snoc, cut_snoc, fosC_snoc, if_neg hne, h2]
  have HC0 : Hid (∀ u, sl.length = 0 → cut cs = fosC (fun _ s => s) (cut (pre ++ [(id, u, sl)]))) := fun u he => by
   rw [cut_snoc, fosC_snoc, if_pos he, h2]
  have HB6 : Hid (Below W.heap.size W Wb) := h4.trans (hbel.mono h4.size)
  have HX3 : Hid (Wb.heap[W.heap.size]? = some (.cells #[.func (.func 80) #[] #[]] 125 (0, 0))) := (hbel.block _ (Array.getElem?_eq_some_iff.1 h5).1).trans h5
  obtain ⟨A, c, e, hc, hA⟩ := hR
  dsimp only at e hc hA
  subst e
  have q0 : Wb.cell? ⟨W.heap.size, 0, none⟩ = some (.func (.func 80) #[] #[]) := by simp [World.cell?, (hbel.block _ (Array.getElem?_eq_some_iff.1 h5).1).trans h5]
  have q1 := hO.box.cell
  have HO := Lib.hid hO
  have KC : ∀ id r w', CallsIn (Fence.wide.inRound l) 17 Tryz.prog 80 #[.int .i64 id, r] w' fun e w'' => e = .returned r ∧ w'' = w' := fun id r w' => CallsIn.inRound l (callsIn_wide.2 (clean1_walk id r w'))
  have hfC2 : (Fence.wide.inRound l).fn 80 := trivial
  dsimp only
  obtain ⟨n3, hn3'⟩ : ∃ n3, n3 = sl.length := ⟨_, rfl⟩
  rw [← hn3'] at hc hOw ⊢
  have HOw := Lib.hid hOw
  have HN3 := Lib.hid hn3'
  have hcb : cs.length < 990000000 := by omega
  obtain ⟨i0, hi, hz0, hz1, hz2⟩ := info_parts info_Pts
  have hwb : W.heap.size ≤ (Wb.alloc (.cells #[.int .i64 id, .slice A n3 c] 62)).heap.size := by
   have := h4.size
   have := hbel.size
   simp; omega
  have HX : Hid (∀ v' w5, w5.ownsRow W.heap.size 62 2 v' (cs.length + 1) (cs.flatMap ptC ++ [.int .i64 id, .slice A n3 c]) → (Wb.alloc (.cells #[.int .i64 id, .slice A n3 c] 62)).grownBy w5 v.ownBlock →
    (v'.ownBlock = v.ownBlock ∨ v'.ownBlock = some (Wb.alloc (.cells #[.int .i64 id, .slice A n3 c] 62)).heap.size) → OutP (w5.setCell ⟨W.heap.size + 1, 0, none⟩ v') W.heap.size (W.heap.size + 1) v' (cs ++ [(id, .slice A n3 c, sl)]) ∧ Boxed w5 (W.heap.size + 1) 22 v) :=
   fun v' w5 ho hg hl => ⟨HO.out.push (x := (id, .slice A n3 c, sl)) HOw.out (by rw [hn3']; exact hAw) hg ho hl, (HO.out.box.alloc _).kept hg (HO.out.box.not_row (by decide) HO.out.row)⟩
  clear hnew hA hOw hAw hn3' h1
  gi_wp2_with (first
   | (gi_at_call 80; refine (KC _ _ _).mono ?_; rintro e w4 ⟨rfl, rfl⟩)
   | (gi_at_builtin; refine wpListIn_append_own_at _ rfl _ _ 22 rfl W.heap.size 62 i0 _ 2 32 Tryz.underlying22 hi hz0 hz1 hz2 rfl (by decide) v cs.length (cs.flatMap ptC) rfl (HO.out.row.alloc _) ⟨_, 0, none⟩ 1 1 [.int .i64 id, .slice A n3 c] rfl rfl (cells2 _ _ _ _) (by simp [Value.oneCell']) (by unfold maxLen; omega) (by omega) hwb ?_; intro v' w5 hown5 hg5 _ hloc5; obtain ⟨g', cap', rfl⟩ := ownsRow_succ hown5; obtain ⟨hP5, hb5⟩ := HX.out _ _ hown5 hg5 hloc5; have hc5 := hb5.cell; have hf5 := hb5.frozen; have hown5 := Lib.hid hown5; have hg5 := Lib.hid hg5; have hP5 := Lib.hid hP5; have hloc5 := Lib.hid hloc5))
  ·have hne : n3 ≠ 0 := by omega
   have hkp := HO.out.kpB (v' := .slice (some ⟨g', 0, none⟩) (cs.length + 1) cap') hg5.out HB6.out.size (by omega)
   exact ⟨hkp, _, ⟨_, hP5.out⟩, HC1.out _ (by rw [← HN3.out]; exact hne), by simp; omega, HB6.out.trans hkp.1, hkp.2 _ _ HX3.out rfl⟩
  ·have he : n3 = 0 := by omega
   exact ⟨KpB.refl _ _, cs, ⟨_, HO.out⟩, HC0.out _ (by rw [← HN3.out]; exact he), by omega, HB6.out, HX3.out⟩
 case done =>
  rintro xs W0 W2 ⟨ks, hK, hS⟩ ⟨cs, v, h1, h2, h3, h4, h5⟩ hbel hD hdef
  have hO := h1.on hbel
  have hc := hO.box.cell
  have hfin := Lib.hid (hO.put (.deferred none) hdef rfl).rdO
  have h2' : Hid (cut cs = fosC (fun _ s => s) (outs ll.flatten ks)) := by show _ = _; rw [h2, hS]
  have hBf : Hid (Below W.heap.size W (W2.putObj w3.heap.size (.deferred none))) := by
   have h6 := h4.trans (hbel.mono h4.size)
   exact ⟨h6.os, h6.tape, h6.output, by rw [World.putObj_size]; exact h6.size, fun k hk => (World.putObj_heap_other (by omega)).trans (h6.block k hk)⟩
  have HKs := Lib.hid hK
  clear h2 h3 h4 h5 h1 hO hS hbel hK
  gi_wp2
  refine ⟨by simp, .inl ⟨_, _, rfl, run_takeDeferred hdef, ?_⟩⟩
  exact ⟨_, results_tmp rfl _ _ _, v, ks, rfl, HKs.out, by have h := hfin.out; rwa [h2'.out] at h, hBf.out⟩
end Go.Proofs.YtnkelahimiipjaaGreatDoor

/-
 stream.Clean.
-/
namespace Go.Proofs.YtnkelahimiipjaaGreatDoor
open Go.RowKit Go.Sort Go.Maps
attribute [local go_sem ↓] Go.wp_at_zero Go.wp_at_succ
theorem RdR.one {w : World} {v : Value} {l : List Pts} (h : RdP w w.heap.size v l) (t : TypeId) : RdR (w.alloc (.cells #[v] t)) (w.alloc (.cells #[v] t)).heap.size (.slice (some ⟨w.heap.size, 0, none⟩) 1 1) [l] :=
 ⟨_, 1, rfl, Nat.le_refl _, .inr ⟨w.heap.size, 0, rfl, by simp, fun i hi => by
  have hi0 : i = 0 := by simpa using hi
  subst hi0
  exact ⟨v, by simp, (h.below ((Below.refl _ w).alloc (Nat.le_refl _) _)).mono (by simp)⟩⟩⟩
set_option maxRecDepth 100000 in
set_option maxHeartbeats 1000000 in
theorem sclean_walkO (v : Value) (l : List Pts) (W : World) (T : Tabs W) (hR : RdP W W.heap.size v l) (hwf : ∀ p ∈ l, (Lit.int .i64 p.1).wf = true) (hn2 : l.length ≤ 990000000) (hn3 : (l.flatMap (fun p => p.2)).length ≤ 990000000) :
  Calls Tryz.prog 43 #[v] W fun e w' => ∃ r ks, e = .returned r ∧ IsKeys l ks ∧ RdO w' W.heap.size r (fosC (fun _ s => s) (outs l ks)) ∧ Below W.heap.size W w' := by
 have hB : Below W.heap.size W (W.alloc (.cells #[v] 22)) := (Below.refl _ W).alloc (Nat.le_refl _) _
 have K := madeC_walk (.slice (some ⟨W.heap.size, 0, none⟩) 1 1) [l] (W.alloc (.cells #[v] 22)) (T.below hB) (RdR.one hR _) (fun r hr p hp => by rw [List.mem_singleton] at hr; subst hr; exact hwf p hp) (by simp) (by simpa using hn2) (by simpa using hn3)
 have hfl : ([l] : List (List Pts)).flatten = l := by simp
 rw [hfl] at K
 have HK := Lib.hid K
 have HB := Lib.hid hB
 obtain ⟨A, c, rfl, hc, _⟩ := hR
 clear K hB hwf hn3 T hfl
 go_enter Tryz.func43, Tryz.ntmps43
 go_wp2_with (go_at_call 79; refine HK.out.mono ?_; rintro e w1 ⟨r, ks, rfl, h1, h2, h3⟩; have h1 := Lib.hid h1; have h2 := Lib.hid h2; have h3 := Lib.hid h3)
 go_ret
 exact ⟨r, ks, rfl, h1.out, h2.out.lower HB.out.size, HB.out.trans (h3.out.mono HB.out.size)⟩
theorem sclean_walk (v : Value) (l : List Pts) (W : World) (T : Tabs W) (hR : RdP W W.heap.size v l) (hwf : ∀ p ∈ l, (Lit.int .i64 p.1).wf = true) (hn2 : l.length ≤ 990000000) (hn3 : (l.flatMap (fun p => p.2)).length ≤ 990000000) :
  Calls Tryz.prog 43 #[v] W fun e w' => ∃ r ks, e = .returned r ∧ IsKeys l ks ∧ RdP w' w'.heap.size r (fosC (fun _ s => s) (outs l ks)) ∧ Below W.heap.size W w' :=
 (sclean_walkO v l W T hR hwf hn2 hn3).mono fun _ _ ⟨r, ks, h1, h2, h3, h4⟩ => ⟨r, ks, h1, h2, h3.rdP, h4⟩
end Go.Proofs.YtnkelahimiipjaaGreatDoor

/-
 stream.Of.
-/
namespace Go.Proofs.YtnkelahimiipjaaGreatDoor
open Go.RowKit Go.Sort Go.Maps
attribute [local go_sem ↓] Go.wp_at_zero Go.wp_at_succ
end Go.Proofs.YtnkelahimiipjaaGreatDoor

/-
 stream.Many.
-/
namespace Go.Proofs.YtnkelahimiipjaaGreatDoor
open Go.RowKit Go.Sort Go.Maps
attribute [local go_sem ↓] Go.wp_at_zero Go.wp_at_succ
def manyL (l : List Pts) : Nat := (l.flatMap (fun p => p.2)).length
theorem manyL_snoc (l : List Pts) (p : Pts) : manyL (l ++ [p]) = manyL l + p.2.length := by simp [manyL]
theorem manyL_take (l : List Pts) (k : Nat) : manyL (l.take k) ≤ manyL l := by
 have e : manyL (l.take k ++ l.drop k) = manyL (l.take k) + manyL (l.drop k) := by unfold manyL; rw [List.flatMap_append, List.length_append]
 rw [List.take_append_drop] at e
 omega
set_option maxRecDepth 100000 in
set_option maxHeartbeats 1000000 in
theorem smany_walk (v : Value) (l : List Pts) (W : World) (T : Tabs W) (hR : RdP W W.heap.size v l) (hwf : ∀ p ∈ l, (Lit.int .i64 p.1).wf = true) (hn2 : l.length ≤ 990000000) (hn3 : (l.flatMap (fun p => p.2)).length ≤ 990000000)
  (hb : ∀ ks, IsKeys l ks → (fosC (fun _ s => s) (outs l ks)).length ≤ 990000000 ∧ manyL (fosC (fun _ s => s) (outs l ks)) ≤ 990000000) :
  Calls Tryz.prog 30 #[v] W fun e w' => ∃ ks, e = .returned (.int .i64 (manyL (fosC (fun _ s => s) (outs l ks)))) ∧ IsKeys l ks ∧ Below W.heap.size W w' := by
 have HK := Lib.hid (sclean_walk v l W T hR hwf hn2 hn3)
 have HBd := Lib.hid hb
 obtain ⟨A, c, rfl, hc, _⟩ := hR
 clear hwf hn3 T hb
 go_enter Tryz.func30, Tryz.ntmps30
 go_wp2_with (go_at_call 43; refine HK.out.mono ?_; rintro e w1 ⟨r, ks, rfl, h1, h2, h3⟩; obtain ⟨q, hq⟩ : ∃ q, q = fosC (fun _ s => s) (outs l ks) := ⟨_, rfl⟩; obtain ⟨b1, b2⟩ := HBd.out ks h1; rw [← hq] at h2 b1 b2; have HQ := Lib.hid hq; have HIK := Lib.hid h1; have HB := Lib.hid h3; obtain ⟨A2, c2, rfl, hc2, hA2⟩ := h2; obtain ⟨m, hm⟩ : ∃ m, m = q.length := ⟨_, rfl⟩; rw [← hm] at hc2 b1; rw [← hm]; have HM := Lib.hid hm; have HA := Lib.hid hA2; clear hq h1 h3 hA2 hm)
 go_loopw [3, 9] (fun s i wl => ∃ k : Nat, k ≤ m ∧ s = .int .i64 (manyL (q.take k)) ∧ i = .int .i64 k ∧ Hid (Below w1.heap.size w1 wl)) (fun _ i _ => m - (intOf i).toNat)
 case atStart => exact ⟨0, Nat.zero_le _, rfl, rfl, Below.refl _ _⟩
 case round =>
  obtain ⟨k, hk, rfl, rfl, HB2⟩ := hrel
  by_cases hlt : k < m
  ·have hkl : k < q.length := by rw [← HM.out]; exact hlt
   rcases HA.out with h0 | ⟨b3, o3, e, hb3, hcl⟩
   ·subst h0; simp at hkl
   subst e
   obtain ⟨p, hp⟩ : ∃ p, p = q[k] := ⟨_, rfl⟩
   obtain ⟨c3, sv, c4, hsv, _⟩ : PtAt wr w1.heap.size b3 (o3 + k * 2) p := by rw [hp]; exact (hcl k hkl).below HB2.out hb3
   obtain ⟨A4, c5, rfl, hc5, _⟩ := hsv
   have htk : q.take (k + 1) = q.take k ++ [p] := by rw [hp]; exact List.take_succ_eq_append_getElem hkl
   have hsum : manyL (q.take (k + 1)) = manyL (q.take k) + p.2.length := by rw [htk, manyL_snoc]
   have hsb := manyL_take q (k + 1)
   obtain ⟨t0, ht0⟩ : ∃ t, t = manyL (q.take k) := ⟨_, rfl⟩
   obtain ⟨n5, hn5⟩ : ∃ n, n = p.2.length := ⟨_, rfl⟩
   rw [← ht0, ← hn5] at hsum
   rw [← hn5] at c4 hc5
   rw [← ht0]
   have HS := Lib.hid hsum
   have i1 : (k : Int) < (m : Int) := by omega
   have i2 : t0 + n5 ≤ 990000000 := by omega
   clear hp hcl htk hsum hsb ht0 hn5
   go_wp2_with fail
   go_roundw
   case rel => exact ⟨k + 1, by omega, by rw [HS.out]; go_num, by go_num, HB2.out.trans ((Below.refl _ wr).alloc HB2.out.size _)⟩
   case measure => simp [intOf]; omega
  ·have hkm : k = m := by omega
   have hfin : Hid (q.take k = q) := by show _ = _; rw [hkm, HM.out, List.take_length]
   clear hkm
   go_wp2_with fail
   go_ret
   exact ⟨ks, by rw [hfin.out, HQ.out]; rfl, HIK.out, HB.out.trans (HB2.out.mono HB.out.size)⟩
end Go.Proofs.YtnkelahimiipjaaGreatDoor

/-
 The numbers that are there, rising, are one list.
-/
namespace Go.Proofs.YtnkelahimiipjaaGreatDoor
end Go.Proofs.YtnkelahimiipjaaGreatDoor
