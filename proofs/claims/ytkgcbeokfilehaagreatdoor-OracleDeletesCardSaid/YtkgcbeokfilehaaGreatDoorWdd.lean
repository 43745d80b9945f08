/-
  oracle.Names, oracle.Values.
-/
import Derived.Test.YtkgcbeokfilehaaGreatDoorWcd
import Derived.Shelf.Sort.Plain
import Derived.Shelf.Slices.In.SortNone
import Derived.Shelf.Slices.CompactS
import Derived.Lib.RowBridge
namespace Go.Proofs.YtkgcbeokfilehaaGreatDoor
open Go.RowKit Go.Sort Go.Shelf Go.Maps
theorem keep_mem (d : Array Str) : ∀ (m : Nat), m ≤ d.size → ∀ x, x ∈ Lib.compactUpTo d m ↔ ∃ j, j < m ∧ d[j]! = x
  | 0, _, x => by simp [Lib.compactUpTo]
  | m + 1, h, x => by
    rw [Lib.compactUpTo_succ, List.mem_append, keep_mem d m (by omega)]
    constructor
    · rintro (⟨j, hj, rfl⟩ | h1)
      · exact ⟨j, by omega, rfl⟩
      · by_cases hk : Lib.keeps d m = true
        · rw [if_pos hk, List.mem_singleton] at h1
          exact ⟨m, by omega, h1.symm⟩
        · rw [if_neg hk] at h1; cases h1
    · rintro ⟨j, hj, rfl⟩
      by_cases hjm : j = m
      · subst hjm
        by_cases hk : Lib.keeps d j = true
        · right; rw [if_pos hk]; exact List.mem_singleton.2 rfl
        · left
          unfold Lib.keeps at hk
          rw [decide_eq_true_iff] at hk
          have h1 : j ≠ 0 := fun e => hk (.inl e)
          have h2 : d[j]! = d[j - 1]! := Classical.byContradiction fun e => hk (.inr e)
          exact ⟨j - 1, by omega, h2.symm⟩
      · exact .inl ⟨j, by omega, rfl⟩
theorem keep_up (d : Array Str) (hs : ∀ i j, i < j → j < d.size → ¬ d[j]! < d[i]!) : ∀ (m : Nat), m ≤ d.size → (Lib.compactUpTo d m).Pairwise (· < ·)
  | 0, _ => by simp [Lib.compactUpTo]
  | m + 1, h => by
    rw [Lib.compactUpTo_succ]
    refine List.pairwise_append.2 ⟨keep_up d hs m (by omega), ?_, fun a ha b hb => ?_⟩
    · split <;> simp
    · by_cases hk : Lib.keeps d m = true
      · rw [if_pos hk, List.mem_singleton] at hb
        subst hb
        obtain ⟨j, hj, rfl⟩ := (keep_mem d m (by omega) a).1 ha
        unfold Lib.keeps at hk
        rw [decide_eq_true_iff] at hk
        have hne : d[m]! ≠ d[m - 1]! := by
          rcases hk with e | e
          · omega
          · exact e
        have h1 := hs (m - 1) m (by omega) (by omega)
        have h2 : d[m - 1]! < d[m]! := Classical.byContradiction fun e => hne (str_tri h1 e)
        by_cases hjm : j = m - 1
        · subst hjm; exact h2
        · have h3 := hs j (m - 1) (by omega) (by omega)
          by_cases h4 : d[j]! < d[m - 1]!
          · exact str_trans h4 h2
          · rw [← str_tri h3 h4]; exact h2
      · rw [if_neg hk] at hb; cases hb
theorem compact_texts (l : List Str) : Lib.compact (l.mergeSort fun x y => decide (x ≤ y)) = textsS l := by
  obtain ⟨s, hs⟩ : ∃ s, s = l.mergeSort fun x y => decide (x ≤ y) := ⟨_, rfl⟩
  have hsort : s.Pairwise (fun x y => decide (x ≤ y) = true) := by
    rw [hs]
    exact List.pairwise_mergeSort (fun a b c h1 h2 => by rw [decide_eq_true_iff] at *; exact List.le_trans h1 h2) (fun a b => by
      rw [Bool.or_eq_true, decide_eq_true_iff, decide_eq_true_iff]; exact List.le_total a b) l
  have hmem : ∀ x, x ∈ s ↔ x ∈ l := fun x => by rw [hs]; exact (List.mergeSort_perm l _).mem_iff
  have hget : ∀ i (h : i < s.length), s.toArray[i]! = s[i] := fun i h => by simp [h]
  rw [← hs]
  refine texts_of (keep_up s.toArray (fun i j hij hj => ?_) s.length (by simp)) (fun x => ?_)
  · have hj' : j < s.length := by simpa using hj
    rw [hget j hj', hget i (by omega)]
    have := List.pairwise_iff_getElem.1 hsort i j (by omega) hj' hij
    rw [decide_eq_true_iff] at this
    exact List.not_lt.2 this
  · unfold Lib.compact
    rw [keep_mem s.toArray s.length (by simp), ← hmem]
    constructor
    · rintro ⟨j, hj, rfl⟩
      rw [hget j hj]; exact List.getElem_mem hj
    · intro h
      obtain ⟨j, hj, rfl⟩ := List.getElem_of_mem h
      exact ⟨j, hj, hget j hj⟩
theorem grown_putRow {w : World} {blk n off : Nat} (d : Array Str) (os : Array Obj) : w.grownBy (grow (putRow encStr (Sort.ahead w n) blk off d) os) (some blk) := by
  unfold putRow mapBlock grow Sort.ahead
  refine ⟨rfl, rfl, rfl, by simp, fun j hj hne => ?_⟩
  have hkb : blk ≠ j := fun e => hne (by rw [e])
  rw [Array.getElem?_append_left (by simpa using hj), Array.getElem?_modify, if_neg hkb]
theorem info_T : (Tryz.prog.info? 9).map (fun i => (i.zero, i.size, i.bytes)) = some (some (.string ⟨#[]⟩), 1, 16) := by kernel_rfl
/-- append of one text. -/
theorem app1T {w : World} {ops : Array Oper} {rest : List Oper} {o : Oper} {a : Act} {Q : Exit → Act → World → Prop} (hgd : o.guard = none) (s x : Operand)
    (ho : o.op = .call { callee := .builtin .append, args := #[s, x], argTypes := #[47, 47] })
    (base : Nat) (v : Value) (l : List Str) (y : Str) (hs : a.eval s = v) (hown : OwnT w base v l) (b c : Nat) (hx : a.eval x = .slice (some ⟨b, 0, none⟩) 1 c) (hc0 : w.cell? ⟨b, 0, none⟩ = some (vT y)) (hl : (l.length + 1) * 16 ≤ 140737488355328) (hbase : base ≤ w.heap.size)
    (h : ∀ v' w', OwnT w' base v' (l ++ [y]) → w.grownBy w' v.ownBlock → (v'.ownBlock = v.ownBlock ∨ v'.ownBlock = some w.heap.size) → wpList Tryz.prog ops Q rest (a.put o.dst v') w') :
    wpList Tryz.prog ops Q (o :: rest) a w := by
  obtain ⟨i, hi, hz, hsz, hby⟩ := of_info info_T
  refine wpList_append_own_at w hgd s x 47 ho base 9 i _ 1 16 Tryz.underlying47 hi hz hsz hby rfl (by decide) v l.length (flatT l) hs hown ⟨b, 0, none⟩ 1 c [vT y] hx rfl ?_ (fun u hu => by rw [List.mem_singleton] at hu; subst hu; rfl) (by unfold maxLen; omega) hl hbase (fun v' w' h1 h2 _ h4 => ?_)
  · intro j u hj
    rcases j with _ | j
    · simp at hj; subst hj; simpa [Addr.add] using hc0
    · simp at hj
  · refine h v' w' ?_ h2 h4
    unfold OwnT
    rw [flatT_append, List.length_append]
    exact h1
/-- What is taken of labels. -/
def pickL (tx : Lb → Str) (ok : Lb → Bool) (c : Lbs) : List Str := (c.filter ok).map tx
theorem pick_len (tx : Lb → Str) (ok : Lb → Bool) (c : Lbs) : (pickL tx ok c).length ≤ c.length := by unfold pickL; rw [List.length_map]; exact List.length_filter_le _ _
theorem pick_take (tx : Lb → Str) (ok : Lb → Bool) {c : Lbs} {k : Nat} {y : Lb} (hk : k < c.length) (hy : y = c[k]) : pickL tx ok (c.take (k + 1)) = pickL tx ok (c.take k) ++ if ok y = true then [tx y] else [] := by
  unfold pickL
  rw [List.take_succ_eq_append_getElem hk, ← hy, List.filter_append, List.map_append]
  congr 1
  by_cases h : ok y = true <;> simp [h]
theorem pick_all (tx : Lb → Str) (ok : Lb → Bool) {R : Told} (hf : FewL R) : ∀ {ls : List Lbs}, (∀ c ∈ ls, hasR R c = true) → (ls.flatMap (pickL tx ok)).length ≤ 1000 * ls.length
  | [], _ => Nat.zero_le _
  | c :: ls, h => by
    have h1 := pick_all tx ok hf (ls := ls) fun x hx => h x (List.mem_cons_of_mem _ hx)
    have h2 := pick_len tx ok c
    have h3 := hf.at_ (h c List.mem_cons_self)
    have e : ((c :: ls).flatMap (pickL tx ok)).length = (pickL tx ok c).length + (ls.flatMap (pickL tx ok)).length := by rw [List.flatMap_cons, List.length_append]
    rw [e, List.length_cons]; omega
theorem OwnT.iter {w w' : World} {B r : Nat} {v : Value} {l : List Str} (h : OwnT w B v l) (hg : w.grownBy w' (some r)) (hr : ∃ o, w.heap[r]? = some o ∧ ∀ cur e, o ≠ .cells cur e (0, 0)) : OwnT w' B v l := by
  obtain ⟨o, h1, h2⟩ := hr
  exact owns_same h fun g hu => hg.block g (World.ownsRow.lt h g hu).2 (fun e => not_iter h h1 h2 (by rw [hu, e]))
set_option maxRecDepth 100000 in
set_option maxHeartbeats 8000000 in
/-- oracle.texts. -/
theorem texts_walk {W : World} {S : Nat → Prop} {B o b : Nat} {every keep now : Int} {X : Sers} {R : Told} (h : Orc W S B o b every keep now X R) (g : FuncId) (caps : Array Value) (tx : Lb → Str) (ok : Lb → Bool)
    (eg : ∀ args w, (callFunc g args).run Tryz.prog w = .ok (.enter g args) w)
    (hK : ∀ (x : Lb) (w' : World), Below W.heap.size W w' → Calls Tryz.prog g (#[.agg #[vT x.1, vT x.2]] ++ caps) w' fun e w'' => e = .returned (.tuple #[vT (tx x), .bool (ok x)]) ∧ Ext w' w'') (hRl : R.length ≤ 60000) (hfl : FewL R) :
    Calls Tryz.prog 45 #[.pointer (some ⟨o, 0, none⟩), .func (.func g) #[] caps] W fun e w' =>
      ∃ v, e = .returned v ∧ RdT w' w'.heap.size v (textsS ((labsOf R).flatMap (pickL tx ok))) ∧ Below W.heap.size W w' := by
  obtain ⟨n0, D0, hn0, hom⟩ := h.om
  have HOM := Lib.hid hom
  have c3 := h.cells.2.2.2
  have HK := Lib.hid hK
  have HRL := Lib.hid hRl
  have HFL := Lib.hid hfl
  have HM2 := Lib.hid hom.map
  clear h hn0 hom hK hRl hfl
  go_enter Tryz.func45, Tryz.ntmps45
  go_wp2_with (first | (at_range; refine wpList_range_own _ rfl _ 79 rfl 9 87 key_law Tryz.underlying79 ptE b n0 D0 rfl HM2.out ?_; intro w3 hrg0 hg0 hs0) | fail)
  try go_frame
  obtain ⟨r, hr⟩ : ∃ r, r = W.heap.size := ⟨_, rfl⟩
  have HR : Hid (W.heap.size ≤ r) := by show _ ≤ _; omega
  have HRG0 : Hid (w3.ranges Tryz.prog 9 ptE b r n0 D0 (Maps.has D0) (Maps.size D0)) := by show World.ranges _ _ _ _ _ _ _ _ _ _; rw [hr]; exact hrg0
  have HB3 : Hid (Below W.heap.size W w3) := ⟨hg0.os, hg0.tape, hg0.output, hg0.size, fun i hi => hg0.block i hi (by simp)⟩
  have hre : (Value.pointer (some ⟨W.heap.size, 0, none⟩)) = .pointer (some ⟨r, 0, none⟩) := by rw [hr]
  rw [hre]
  clear hrg0 hg0 hs0 c3 hre hr
  go_loopw [5, 20] (fun ov _ wl => ∃ (left : Lit → Bool) (cnt : Nat) (ls : List Lbs), Hid (wl.ranges Tryz.prog 9 ptE b r n0 D0 left cnt) ∧ Hid (Done D0 (hasR R) left ls) ∧ Hid (OwnT wl W.heap.size ov (ls.flatMap (pickL tx ok))) ∧ Hid (Below W.heap.size W wl))
    (fun _ _ wl => wl.rangeLeft b r)
  case atStart => exact ⟨_, _, [], HRG0.out, Done.start HOM.out, OwnT.nil _ _, HB3.out⟩
  case round =>
    obtain ⟨left, cnt, ls, HRG, HDO, HOV, HBL⟩ := hrel
    have hrg := HRG.out
    have HLS : Hid ((ls.flatMap (pickL tx ok)).length ≤ 60000000) := by
      have h1 := pick_all tx ok HFL.out (ls := ls) (fun c hc => ((HDO.out.iff c).1 hc).1)
      have h2 := Nat.le_trans (len_sub HDO.out.nodup (fun c hc => mem_labs.2 ((HDO.out.iff c).1 hc).1)) (labs_length R)
      have := HRL.out
      show _ ≤ _
      omega
    go_wp2_with (first
      | (at_next; refine wpList_next_ranges _ rfl _ rfl 9 key_law ptE id id (fun key _ _ => ⟨key, rfl⟩) (fun v _ _ => ⟨v, rfl⟩) b r n0 D0 left cnt rfl hrg ?_ ?_)
      | fail)
    · intro _ hl0
      have hall := HDO.out.all hl0
      have hnd := HDO.out.nodup
      have HFIN : Hid (textsS (ls.flatMap (pickL tx ok)) = textsS ((labsOf R).flatMap (pickL tx ok))) := texts_of (texts_up _) (fun x => by
        rw [mem_texts, List.mem_flatMap, List.mem_flatMap]
        constructor
        · rintro ⟨c, hc, hx⟩; exact ⟨c, mem_labs.2 ((hall c).1 hc), hx⟩
        · rintro ⟨c, hc, hx⟩; exact ⟨c, (hall c).2 (mem_labs.1 hc), hx⟩)
      obtain ⟨T, hT⟩ : ∃ T, T = ls.flatMap (pickL tx ok) := ⟨_, rfl⟩
      rw [← hT] at HFIN HLS HOV
      rcases HOV.out.2 with ⟨hv, hn9⟩ | ⟨gg, cap, cur, hv, hgb, hh, hn, hm, hcs, ht⟩
      · subst hv
        have hx0 : T = [] := List.eq_nil_of_length_eq_zero hn9
        have KS := Lib.hid (Any.slices_Sort_string_none Tryz.sortT none 0 wr)
        have KC := Lib.hid (Any.slices_Compact_string_empty Tryz.compactT none 0 wr)
        have HFIN2 : Hid (textsS ((labsOf R).flatMap (pickL tx ok)) = []) := by
          show _ = _
          rw [← HFIN.out, hx0]; rfl
        clear hall hnd hl0 hrg hn9 hT hx0
        go_wp2_with fail
        refine KS.out.mono ?_
        rintro e w5 ⟨rfl, rfl⟩
        go_wp2_with fail
        refine KC.out.mono ?_
        rintro e w6 ⟨rfl, rfl⟩
        go_wp2_with fail
        go_ret
        refine ⟨_, rfl, ?_, HBL.out⟩
        rw [HFIN2.out]
        exact ⟨none, 0, rfl, Nat.le_refl _, .inl rfl⟩
      · subst hv
        have hgl : gg < wr.heap.size := (Array.getElem?_eq_some_iff.1 hh).1
        have hH : Holds encStr wr gg 0 T.toArray := fun j hj => by
          have hj' : j < T.length := by simpa using hj
          have e1 : wr.cell? ⟨gg, 0 + j, none⟩ = cur[j]? := by simp [World.cell?, hh]
          have e3 : (cur.toList.take (T.length * 1))[j]? = cur.toList[j]? := List.getElem?_take_of_lt (by omega)
          refine ⟨?_, by simp [World.frozen?, hh]⟩
          rw [e1, ← Array.getElem?_toList, ← e3, ht]
          unfold flatT
          rw [List.getElem?_map, List.getElem?_eq_getElem hj']
          simp [hj', vT]
        have KS := Lib.hid (Any.slices_Sort_string Tryz.sortT gg 0 cap T wr hH hgl (by have := HLS.out; omega))
        obtain ⟨sT, hsT⟩ : ∃ sT, sT = T.mergeSort fun x y => decide (x ≤ y) := ⟨_, rfl⟩
        have hsl : sT.length = T.length := by rw [hsT]; exact List.length_mergeSort T
        rw [← hsT] at KS
        have HCT : Hid (Lib.compact sT = textsS ((labsOf R).flatMap (pickL tx ok))) := by show _ = _; rw [hsT, compact_texts, HFIN.out]
        have hcl := Lib.compact_length_le sT
        obtain ⟨n9, hn9⟩ : ∃ n9, n9 = T.length := ⟨_, rfl⟩
        have HH := Lib.hid hH
        have HSL := Lib.hid hsl
        have HN9 := Lib.hid hn9
        have HCL := Lib.hid hcl
        have HNC := Lib.hid hn
        have HGB := Lib.hid hgb
        have HGL := Lib.hid hgl
        rw [← hn9] at KS ⊢
        clear hall hnd hl0 hrg hT hsT hH hsl hn9 hcl hh hn hm hcs ht HOV hgb hgl
        go_wp2_with fail
        refine KS.out.mono ?_
        rintro e w5 ⟨rfl, q5, os5, hw5⟩
        have hg5 : wr.grownBy w5 (some gg) := by rw [hw5]; exact grown_putRow _ _
        have hH5 : Holds encStr w5 gg 0 sT.toArray := by
          rw [hw5]
          have h1 : Holds encStr (Sort.ahead wr q5) gg 0 T.toArray := HH.out
          have h2 := holds_putRow encStr (Sort.ahead wr q5) gg 0 T.toArray sT.toArray h1 (by simpa using HSL.out)
          intro j hj
          obtain ⟨k1, k2⟩ := h2 j hj
          have hlt : gg < (putRow encStr (Sort.ahead wr q5) gg 0 sT.toArray).heap.size := by unfold putRow mapBlock Sort.ahead; simpa using HGL.out
          refine ⟨?_, ?_⟩
          · rw [← k1]; unfold World.cell? grow; simp only; rw [Array.getElem?_append_left hlt]
          · rw [← k2]; unfold World.frozen? grow; simp only; rw [Array.getElem?_append_left hlt]
        have KC := Lib.hid (Any.slices_Compact_string Tryz.compactT gg 0 cap sT w5 hH5 (by have := HLS.out; have := HSL.out; omega) (by have := HSL.out; have := HNC.out; omega))
        have HSL2 : Hid (sT.length = n9) := HSL.out.trans HN9.out.symm
        rw [HSL2.out] at KC
        have HB5 : Hid (Below W.heap.size W w5) := HBL.out.grown hg5 HBL.out.size (fun j e => by injection e with e; rw [← e]; exact HGB.out)
        have HG5 : Hid (gg < w5.heap.size) := Nat.lt_of_lt_of_le HGL.out hg5.size
        have HH5 := Lib.hid hH5
        rw [HCT.out] at KC
        obtain ⟨nt, hnt⟩ : ∃ nt, nt = (textsS ((labsOf R).flatMap (pickL tx ok))).length := ⟨_, rfl⟩
        rw [← hnt] at KC
        have HNT := Lib.hid hnt
        clear hw5 hg5 hH5 KS hnt
        go_wp2_with fail
        refine KC.out.mono ?_
        rintro e w6 ⟨rfl, q6, hw6⟩
        have hg6 : w5.grownBy w6 (some gg) := by
          have := grown_putRow (w := w5) (n := q6) (blk := gg) (off := 0) (textsS ((labsOf R).flatMap (pickL tx ok)) ++ List.replicate (n9 - nt) []).toArray #[]
          rw [grow_empty] at this
          rw [hw6]; exact this
        have HB6 : Hid (Below W.heap.size W w6) := HB5.out.grown hg6 HB5.out.size (fun j e => by injection e with e; rw [← e]; exact HGB.out)
        have HCL2 : Hid (nt ≤ n9) := by
          have h1 := HCL.out
          rw [HCT.out, ← HNT.out, HSL2.out] at h1
          exact h1
        have HRT : Hid (RdT w6 w6.heap.size (.slice (some ⟨gg, 0, none⟩) nt cap) (textsS ((labsOf R).flatMap (pickL tx ok)))) := by
          show RdT _ _ _ _
          rw [HNT.out]
          refine ⟨_, cap, rfl, by have := HCL2.out; have := HNC.out; have := HN9.out; have := HNT.out; omega, .inr ⟨gg, 0, rfl, Nat.lt_of_lt_of_le HG5.out hg6.size, fun i hi => ?_⟩⟩
          have h1 : Holds encStr (Sort.ahead w5 q6) gg 0 sT.toArray := HH5.out
          have h2 := holds_putRow encStr (Sort.ahead w5 q6) gg 0 sT.toArray (textsS ((labsOf R).flatMap (pickL tx ok)) ++ List.replicate (n9 - nt) []).toArray h1 (by
            have := HCL2.out; have := HNT.out; have := HSL2.out
            simp; omega)
          have hi2 : i < (textsS ((labsOf R).flatMap (pickL tx ok)) ++ List.replicate (n9 - nt) []).length := by rw [List.length_append]; omega
          have h3 := (h2 i (by simpa using hi2)).1
          rw [hw6, h3]
          have e4 : (textsS ((labsOf R).flatMap (pickL tx ok)) ++ List.replicate (n9 - nt) []).toArray[i]! = (textsS ((labsOf R).flatMap (pickL tx ok)))[i] := by
            rw [getElem!_pos _ i (by simpa using hi2)]
            simp [List.getElem_append_left hi]
          rw [e4]; rfl
        clear hw6 hg6 KC
        go_wp2_with fail
        go_ret
        exact ⟨_, rfl, HRT.out, HB6.out⟩
    · intro x cv kl yd yp w4 cnt4 hkey hlx hv hat hrg4 hlt hg4 hs4 hen
      obtain ⟨cc, hcc, hkl, hcv⟩ := HOM.out.met hv hat
      have hcv : cv = .pointer (some ⟨X.G cc, 0, none⟩) := hcv
      subst hkl
      subst hcv
      have HST := Lib.hid (HDO.out.step hcc hlx)
      have hB4 : Below W.heap.size W w4 := HBL.out.grown hg4 HBL.out.size (fun j e => by injection e with e; rw [← e]; exact HR.out)
      have HB4 := Lib.hid hB4
      have HV4 : Hid (OwnT w4 W.heap.size u5 (ls.flatMap (pickL tx ok))) := HOV.out.iter hg4 (iter_at HRG.out)
      have HRG4 := Lib.hid hrg4
      have HLT := Lib.hid hlt
      have hcl : cc.length ≤ 1000 := HFL.out.at_ hcc
      obtain ⟨s0, _, s2, _, _, _, s6⟩ := Orc.ser HOM.out hcc
      obtain ⟨G, hG⟩ : ∃ G, G = X.G cc := ⟨_, rfl⟩
      obtain ⟨A4, c4, hlv, _, hA4⟩ := s2
      obtain ⟨n4, hn4⟩ : ∃ n4, n4 = cc.length := ⟨_, rfl⟩
      rw [hlv, ← hn4, ← hG] at s0
      rw [← hG] at s6 hen ⊢
      rw [← hn4] at hcl
      have d0 : w4.cell? ⟨G, 0, none⟩ = some (.slice A4 n4 c4) := (hB4.cell s6).trans s0
      have HA4 := Lib.hid hA4
      have HN4 := Lib.hid hn4
      have hmr := hrg.left_eq
      have HMR := Lib.hid hmr
      have HCL := Lib.hid hcl
      clear hmr hcc hlx hkey hv hat hrg4 hlt hg4 hs4 s0 s6 hG hlv hB4 hrg hA4 hn4
      go_wp2_with fail
      go_loopw [5, 29] (fun ov i wl => ∃ k : Nat, k ≤ n4 ∧ i = .int .i64 k ∧ Hid (wl.ranges Tryz.prog 9 ptE b r n0 D0 (fun z => left z && !z.sameKey (kyL cc)) cnt4) ∧ Hid (OwnT wl W.heap.size ov (ls.flatMap (pickL tx ok) ++ pickL tx ok (cc.take k))) ∧ Hid (Below W.heap.size W wl)) (fun _ i _ => n4 - (intOf i).toNat)
      case atStart => exact ⟨0, Nat.zero_le _, rfl, HRG4.out, by show OwnT _ _ _ _; rw [List.take_zero]; simpa [pickL] using HV4.out, HB4.out⟩
      case round =>
        rename_i wo
        obtain ⟨k, hk, rfl, HRK, HVK, HBK⟩ := hrel
        have hcl9 := HCL.out
        by_cases hlt : k < n4
        · have hkl : k < cc.length := by rw [← HN4.out]; exact hlt
          rcases HA4.out with h0 | ⟨b1, o1, e, hb1, hcl1⟩
          · subst h0; simp at hkl
          subst e
          obtain ⟨y, hy⟩ : ∃ y, y = cc[k] := ⟨_, rfl⟩
          obtain ⟨q0, q1⟩ : Cell2 wr b1 (o1 + k * 2) y := by rw [hy]; exact (hcl1 k hkl).below HBK.out hb1
          have HPK := Lib.hid (pick_take tx ok hkl hy)
          have i1 : (k : Int) < (n4 : Int) := by omega
          have HLK : Hid ((ls.flatMap (pickL tx ok) ++ pickL tx ok (cc.take k)).length ≤ 60001000) := by
            have h1 := pick_len tx ok (cc.take k)
            rw [List.length_take] at h1
            have := HLS.out
            have := HN4.out
            show _ ≤ _
            rw [List.length_append]; omega
          obtain ⟨y1, y2⟩ := y
          have hBp : Below W.heap.size W (wr.alloc (.cells #[vT y1, vT y2] 59)) := HBK.out.alloc HBK.out.size _
          have KY := Lib.hid (HK.out (y1, y2) _ hBp)
          have HBp := Lib.hid hBp
          obtain ⟨tv, htv⟩ : ∃ tv, tv = tx (y1, y2) := ⟨_, rfl⟩
          obtain ⟨bv, hbv⟩ : ∃ bv, bv = ok (y1, y2) := ⟨_, rfl⟩
          rw [← htv, ← hbv] at KY HPK
          have HRp : Hid ((wr.alloc (.cells #[vT y1, vT y2] 59)).ranges Tryz.prog 9 ptE b r n0 D0 (fun z => left z && !z.sameKey (kyL cc)) cnt4) := HRK.out.alloc _
          have HVp : Hid (OwnT (wr.alloc (.cells #[vT y1, vT y2] 59)) W.heap.size u5 (ls.flatMap (pickL tx ok) ++ pickL tx ok (cc.take k))) := HVK.out.below ((Below.refl _ _).alloc (Nat.le_refl _) _)
          clear hy hcl1 hBp htv hbv
          unfold vT at q0 q1 KY HBp HRp HVp
          simp only at KY
          generalize (⟨y1.toArray⟩ : ByteArray) = z1 at q0 KY HBp HRp HVp
          generalize (⟨y2.toArray⟩ : ByteArray) = z2 at q1 KY HBp HRp HVp
          cases bv with
          | false =>
            go_wp2_with (first | (go_at_fn g; refine KY.out.mono ?_; rintro e w6 ⟨rfl, hE6⟩) | fail)
            have HB6 : Hid (Below W.heap.size W w6) := HBp.out.trans (hE6.below.mono HBp.out.size)
            have HR6 : Hid (w6.ranges Tryz.prog 9 ptE b r n0 D0 (fun z => left z && !z.sameKey (kyL cc)) cnt4) := HRp.out.kept (grown_of_below hE6.below none) (by simp) (by simp)
            have HV6 : Hid (OwnT w6 W.heap.size u5 (ls.flatMap (pickL tx ok) ++ pickL tx ok (cc.take (k + 1)))) := by
              show OwnT _ _ _ _
              rw [HPK.out]
              simpa using HVp.out.below hE6.below
            clear q0 q1 hE6 KY HBp HRp HVp
            go_roundw
            case rel => exact ⟨k + 1, by omega, by go_num, HR6.out, HV6.out, HB6.out⟩
            case measure => simp [intOf]; omega
          | true =>
            go_wp2_with (first
              | (go_at_fn g; refine KY.out.mono ?_; rintro e w6 ⟨rfl, hE6⟩; have HE6 := Lib.hid hE6; clear hE6)
              | (at_builtin; refine app1T rfl _ _ rfl W.heap.size _ (ls.flatMap (pickL tx ok) ++ pickL tx ok (cc.take k)) tv rfl (HVp.out.below (HE6.out.below.alloc HE6.out.size _)) w6.heap.size 1 rfl (new_cell _ _ _ 0) ?_ ?_ ?_)
              | fail)
            · have := HLK.out; omega
            · have := HBp.out.size; have := HE6.out.size; simp at *; omega
            · intro v9 w9 hov9 hg9 hloc9
              have hB6 : Below W.heap.size W w6 := HBp.out.trans (HE6.out.below.mono HBp.out.size)
              have hR6 : w6.ranges Tryz.prog 9 ptE b r n0 D0 (fun z => left z && !z.sameKey (kyL cc)) cnt4 := HRp.out.kept (grown_of_below HE6.out.below none) (by simp) (by simp)
              have hV6 : OwnT w6 W.heap.size u5 (ls.flatMap (pickL tx ok) ++ pickL tx ok (cc.take k)) := HVp.out.below HE6.out.below
              have hbl : ∀ j, u5.ownBlock = some j → W.heap.size ≤ j := fun j e => (World.ownsRow.lt hV6 j e).1
              have HB9 : Hid (Below W.heap.size W w9) := (hB6.alloc hB6.size _).grown hg9 (by have := hB6.size; simp; omega) hbl
              have HRG9 : Hid (w9.ranges Tryz.prog 9 ptE b r n0 D0 (fun z => left z && !z.sameKey (kyL cc)) cnt4) := by
                obtain ⟨o9, h91, h92⟩ := iter_at hR6
                refine (hR6.alloc _).kept hg9 (fun e => ?_) (fun e => not_iter hV6 h91 h92 e.symm)
                have h1 := hbl _ e.symm
                have h2 := (HOM.out.lt b HOM.out.sb).2
                omega
              have HV9 : Hid (OwnT w9 W.heap.size v9 (ls.flatMap (pickL tx ok) ++ pickL tx ok (cc.take (k + 1)))) := by
                show OwnT _ _ _ _
                rw [HPK.out]
                simp only [if_true]
                first | exact hov9 | (rw [← List.append_assoc]; exact hov9)
              clear hov9 hg9 hloc9 hB6 hR6 hV6 hbl q0 q1
              go_wp2_with fail
              go_roundw
              case rel => exact ⟨k + 1, by omega, by go_num, HRG9.out, HV9.out, HB9.out⟩
              case measure => simp [intOf]; omega
        · have hkn : k = n4 := by omega
          have HVF : Hid (OwnT wr W.heap.size u5 ((ls ++ [cc]).flatMap (pickL tx ok))) := by
            have h1 := HVK.out
            rw [hkn, HN4.out, List.take_length] at h1
            show OwnT _ _ _ _
            rw [List.flatMap_append]; simpa using h1
          have i1 : ¬ (k : Int) < (n4 : Int) := by omega
          clear hkn
          go_wp2_with fail
          go_roundw
          case rel => exact ⟨_, _, _, HRK.out, HST.out, HVF.out, HBK.out⟩
          case measure => rw [HRK.out.left_eq, HMR.out]; exact HLT.out
theorem nameC_walk (x : Lb) (w : World) : Calls Tryz.prog 46 #[.agg #[vT x.1, vT x.2]] w fun e w' => e = .returned (.tuple #[vT x.1, .bool true]) ∧ Ext w w' := by
  unfold vT
  generalize (⟨x.1.toArray⟩ : ByteArray) = x1
  generalize (⟨x.2.toArray⟩ : ByteArray) = x2
  go_enter Tryz.func46, Tryz.ntmps46
  go_wp2_with fail
  go_ret2
  exact ⟨rfl, (Ext.refl w).alloc _⟩
theorem valueC_walk (x : Lb) (nm : Str) (w : World) (p : Nat) (hp : w.cell? ⟨p, 0, none⟩ = some (vT nm)) : Calls Tryz.prog 47 #[.agg #[vT x.1, vT x.2], .pointer (some ⟨p, 0, none⟩)] w fun e w' => e = .returned (.tuple #[vT x.2, .bool (decide (x.1 = nm))]) ∧ Ext w w' := by
  have h := same_T x.1 nm
  obtain ⟨q, hq⟩ : ∃ q, q = decide (x.1 = nm) := ⟨_, rfl⟩
  rw [← hq] at h ⊢
  clear hq
  unfold vT at hp ⊢
  generalize (⟨x.1.toArray⟩ : ByteArray) = x1 at h ⊢
  generalize (⟨x.2.toArray⟩ : ByteArray) = x2
  generalize (⟨nm.toArray⟩ : ByteArray) = y1 at h hp
  have hp1 : (w.alloc (.cells #[.string x1, .string x2] 59)).cell? ⟨p, 0, none⟩ = some (.string y1) := ((Ext.refl w).alloc _).cell_some hp
  clear hp
  go_enter Tryz.func47, Tryz.ntmps47
  go_wp2_with fail
  go_quiet (fail)
  go_wp2_with fail
  go_ret2
  exact ⟨rfl, ((Ext.refl w).alloc _).drewN nq⟩
theorem names_eq (R : Told) : textsS ((labsOf R).flatMap (pickL (·.1) (fun _ => true))) = namesS R := by
  have e : pickL (fun x : Lb => x.1) (fun _ => true) = fun c => c.map (fun x => x.1) := by
    funext c
    unfold pickL
    rw [List.filter_eq_self.2 (fun _ _ => rfl)]
  unfold namesS
  rw [e]
theorem values_eq (R : Told) (nm : Str) : textsS ((labsOf R).flatMap (pickL (·.2) (fun x => decide (x.1 = nm)))) = valuesS R nm := rfl
/-- oracle.Names. -/
theorem names_walk {W : World} {S : Nat → Prop} {B o b : Nat} {every keep now : Int} {X : Sers} {R : Told} (h : Orc W S B o b every keep now X R) (hRl : R.length ≤ 60000) (hfl : FewL R) :
    Calls Tryz.prog 17 #[.pointer (some ⟨o, 0, none⟩)] W fun e w' => ∃ v, e = .returned v ∧ RdT w' w'.heap.size v (namesS R) ∧ Below W.heap.size W w' := by
  have eg : ∀ args w, (callFunc 46 args).run Tryz.prog w = .ok (.enter 46 args) w := enters_of Tryz.func46 (by kernel_rfl) rfl
  have K := Lib.hid (texts_walk h 46 #[] (·.1) (fun _ => true) eg (fun x w' _ => by
    have := nameC_walk x w'
    simpa using this) hRl hfl)
  rw [names_eq] at K
  clear h hRl hfl eg
  go_enter Tryz.func17, Tryz.ntmps17
  go_wp2_with fail
  refine K.out.mono ?_
  rintro e w' ⟨v, rfl, h1, h2⟩
  go_wp2_with fail
  go_ret
  exact ⟨_, rfl, h1, h2⟩
/-- oracle.Values. -/
theorem values_walk {W : World} {S : Nat → Prop} {B o b : Nat} {every keep now : Int} {X : Sers} {R : Told} (h : Orc W S B o b every keep now X R) (nm : Str) (hRl : R.length ≤ 60000) (hfl : FewL R) :
    Calls Tryz.prog 19 #[.pointer (some ⟨o, 0, none⟩), vT nm] W fun e w' => ∃ v, e = .returned v ∧ RdT w' w'.heap.size v (valuesS R nm) ∧ Below W.heap.size W w' := by
  have hmf : ∀ (fn : Fn) (first cap : Array Value) (w : World), (Instr.makeFunc fn first cap).run Tryz.prog w = .ok (.func fn first cap) w := fun _ _ _ _ => rfl
  have eg : ∀ args w, (callFunc 47 args).run Tryz.prog w = .ok (.enter 47 args) w := enters_of Tryz.func47 (by kernel_rfl) rfl
  obtain ⟨W1, hW1⟩ : ∃ W1, W1 = W.alloc (.cells #[vT nm] 9) := ⟨_, rfl⟩
  have hb : Below W.heap.size W W1 := by rw [hW1]; exact (Below.refl _ _).alloc (Nat.le_refl _) _
  have hp : W1.cell? ⟨W.heap.size, 0, none⟩ = some (vT nm) := by rw [hW1]; simp
  have K := Lib.hid (texts_walk (h.on hb) 47 #[.pointer (some ⟨W.heap.size, 0, none⟩)] (·.2) (fun x => decide (x.1 = nm)) eg (fun x w' hb' => by
    have := valueC_walk x nm w' W.heap.size ((hb'.cell (lt_of_cell hp)).trans hp)
    simpa using this) hRl hfl)
  rw [values_eq] at K
  have HB := Lib.hid hb
  clear h hRl hfl eg hb hp
  unfold vT at hW1 ⊢
  generalize (⟨nm.toArray⟩ : ByteArray) = y1 at hW1 ⊢
  go_enter Tryz.func19, Tryz.ntmps19
  go_wp2_with fail
  rw [← hW1]
  refine K.out.mono ?_
  rintro e w' ⟨v, rfl, h1, h2⟩
  go_wp2_with fail
  go_ret
  exact ⟨_, rfl, h1, HB.out.trans (h2.mono HB.out.size)⟩
end Go.Proofs.YtkgcbeokfilehaaGreatDoor
