/-
  The first sample of another month: stream.Months' closure, slices.IndexFunc over it.
-/
import Derived.Test.YtkcipfmbkokfdaaGreatDoorPzk
import Derived.Test.YtkcipfmbkokfdaaGreatDoorPpk
import Derived.Test.YtkcipfmbkokfdaaGreatDoorKsk
import Derived.Test.YtkcipfmbkokfdaaGreatDoorRtk
import Derived.Test.YtkcipfmbkokfdaaGreatDoorRkk
import Derived.Shelf.Abstract
namespace Go.Proofs.YtkcipfmbkokfdaaGreatDoor
open Go.RowKit Go.Sort Go.Maps
set_option maxHeartbeats 1000000 in
theorem mon1_walk (bm : Nat) (m : Int) (x : Smp) (W : World) (hm : W.cell? ⟨bm, 0, none⟩ = some (.int .i64 m)) (hx : 0 ≤ x.1 ∧ x.1 ≤ 1099511627776) :
    Calls Tryz.prog 37 #[vS x, .pointer (some ⟨bm, 0, none⟩)] W fun e w' => e = .returned (.bool (decide (x.1 / 1000 ≠ m))) ∧ Below W.heap.size W w' := by
  have hb := lt_of_cell hm
  obtain ⟨t, a1, a2, a3⟩ := x
  obtain ⟨x1, x2⟩ := hx
  dsimp only at x1 x2
  have e4 : vS (t, a1, a2, a3) = .agg #[.int .i64 t, .int .i64 a1, .int .i64 a2, .int .i64 a3] := rfl
  rw [e4]
  obtain ⟨q, hq⟩ : ∃ q, q = decide (t / 1000 ≠ m) := ⟨_, rfl⟩
  have hq2 : ((t / 1000 : Int) != m) = q := by rw [hq]; by_cases h : t / 1000 = m <;> simp [h]
  rw [← hq]
  clear hq e4
  have hne : bm ≠ W.heap.size := by omega
  go_enter Tryz.func37, Tryz.ntmps37
  go_wp2_with fail
  go_ret
  exact ⟨rfl, (Below.refl _ W).alloc (Nat.le_refl _) _⟩
/-- Where the first sample of another month is. -/
def IdxM (m : Int) (l : List Smp) (r : Int) : Prop := (r = -1 ∧ ∀ x ∈ l, x.1 / 1000 = m) ∨ ∃ j : Nat, r = j ∧ ∃ h : j < l.length, (∀ x ∈ l.take j, x.1 / 1000 = m) ∧ l[j].1 / 1000 ≠ m
set_option maxRecDepth 100000 in
set_option maxHeartbeats 1000000 in
theorem idxf_walk (v : Value) (l : List Smp) (bm : Nat) (m : Int) (W : World) (hR : Rd W W.heap.size v l) (hm : W.cell? ⟨bm, 0, none⟩ = some (.int .i64 m)) (hx : ∀ x ∈ l, 0 ≤ x.1 ∧ x.1 ≤ 1099511627776) (hl : l.length ≤ 1000000) :
    Calls Tryz.prog 36 #[v, .func (.func 37) #[] #[.pointer (some ⟨bm, 0, none⟩)]] W fun e w' => ∃ r, e = .returned (.int .i64 r) ∧ IdxM m l r ∧ Below W.heap.size W w' := by
  have KC : Hid (∀ (x : Smp) w', Below W.heap.size W w' → (0 ≤ x.1 ∧ x.1 ≤ 1099511627776) → Calls Tryz.prog 37 #[.agg #[.int .i64 x.1, .int .i64 x.2.1, .int .i64 x.2.2.1, .int .i64 x.2.2.2], .pointer (some ⟨bm, 0, none⟩)] w' fun e w'' => e = .returned (.bool (decide (x.1 / 1000 ≠ m))) ∧ Below w'.heap.size w' w'') :=
    fun x w' hb h => mon1_walk bm m x w' ((hb.cell (lt_of_cell hm)).trans hm) h
  obtain ⟨A, c, rfl, hc, hA⟩ := hR
  obtain ⟨n, hn⟩ : ∃ n, n = l.length := ⟨_, rfl⟩
  rw [← hn] at hc hl ⊢
  have HN := Lib.hid hn
  have HA := Lib.hid hA
  have HX := Lib.hid hx
  clear hn hA hx hm
  go_enter Tryz.func36, Tryz.ntmps36
  go_wp2_with fail
  go_loopw [5, 8] (fun _ i wl => ∃ k : Nat, k ≤ n ∧ i = .int .i64 k ∧ Hid (∀ x ∈ l.take k, x.1 / 1000 = m) ∧ Hid (Below W.heap.size W wl)) (fun _ i _ => n - (intOf i).toNat)
  case atStart => exact ⟨0, Nat.zero_le _, rfl, fun x hx => absurd hx List.not_mem_nil, Below.refl _ _⟩
  case round =>
    obtain ⟨k, hk, rfl, HF, HB⟩ := hrel
    by_cases hlt : k < n
    · have hkl : k < l.length := by rw [← HN.out]; exact hlt
      rcases HA.out with h0 | ⟨b1, o1, e, hb1, hcl1⟩
      · subst h0; simp at hkl
      subst e
      obtain ⟨x, hx⟩ : ∃ x, x = l[k] := ⟨_, rfl⟩
      obtain ⟨c0, c1, c2, c3⟩ : Cell4 wr b1 (o1 + k * 4) x := by rw [hx]; exact (hcl1 k hkl).below HB.out hb1
      have HXX := Lib.hid hx
      have KC1 := Lib.hid (KC.out x wr HB.out (HX.out x (by rw [hx]; exact List.getElem_mem hkl)))
      have i1 : (k : Int) < (n : Int) := by omega
      obtain ⟨q, hq⟩ : ∃ q, q = decide (x.1 / 1000 ≠ m) := ⟨_, rfl⟩
      rw [← hq] at KC1
      have HQ := Lib.hid hq
      clear hx hcl1 hq
      cases q with
      | true =>
        have hfin : Hid (IdxM m l (k : Int)) := .inr ⟨k, rfl, hkl, HF.out, by rw [← HXX.out]; exact of_decide_eq_true HQ.out.symm⟩
        go_wp2_with (first | (go_at_call 37; refine KC1.out.mono ?_; rintro e w2 ⟨rfl, h2⟩; have HB2 := Lib.hid (HB.out.trans (h2.mono HB.out.size)); clear h2))
        go_ret
        exact ⟨_, rfl, hfin.out, HB2.out⟩
      | false =>
        have HF2 : Hid (∀ y ∈ l.take (k + 1), y.1 / 1000 = m) := fun y hy => by
          rw [List.take_succ_eq_append_getElem hkl, List.mem_append, List.mem_singleton] at hy
          rcases hy with hy | hy
          · exact HF.out y hy
          · rw [hy, ← HXX.out]
            have := of_decide_eq_false HQ.out.symm
            exact Classical.byContradiction this
        go_wp2_with (first | (go_at_call 37; refine KC1.out.mono ?_; rintro e w2 ⟨rfl, h2⟩; have HB2 := Lib.hid (HB.out.trans (h2.mono HB.out.size)); clear h2))
        go_roundw
        case rel => exact ⟨k + 1, by omega, by go_num, HF2.out, HB2.out⟩
        case measure => simp [intOf]; omega
    · have hkn : k = n := by omega
      have hfin : Hid (IdxM m l (-1)) := .inl ⟨rfl, by have h := HF.out; rwa [hkn, HN.out, List.take_length] at h⟩
      clear hkn
      go_wp2_with fail
      go_ret
      exact ⟨_, rfl, hfin.out, HB.out⟩
end Go.Proofs.YtkcipfmbkokfdaaGreatDoor

/-
  stream.Months: the sorted keys of its map; one more of points in one month.
-/
namespace Go.Proofs.YtkcipfmbkokfdaaGreatDoor
open Go.RowKit Go.Sort Go.Maps
set_option maxRecDepth 100000 in
set_option maxHeartbeats 1000000 in
theorem keysP_walk (b m : Nat) (D : DataW Unit) (W : World) (hown : W.ownsMap Tryz.prog 3 slE b m D) (hm : m ≤ 1000000) :
    Calls Tryz.prog 39 #[.map (some b)] W (fun e w' => e = .returned (.func (.func 55) #[] #[.pointer (some ⟨W.heap.size, 0, none⟩)]) ∧ w' = W.alloc (.cells #[.map (some b)] 60)) ∧
    Calls Tryz.prog 38 #[.func (.func 55) #[] #[.pointer (some ⟨W.heap.size, 0, none⟩)]] (W.alloc (.cells #[.map (some b)] 60)) (fun e w' => ∃ v ks, e = .returned v ∧ RdZ w' w'.heap.size v ks ∧ ks.Pairwise (· < ·) ∧ (∀ x, x ∈ ks ↔ has D (.int .i64 x) = true) ∧ (∀ k ∈ ks, (Lit.int .i64 k).wf = true) ∧ ks.length ≤ m ∧ Below W.heap.size W w') := by
  have hsz : Maps.size D ≤ maxLen := by have := hown.size_le; unfold maxLen; omega
  have hsb : Maps.size D * 8 ≤ 140737488355328 := by have := hown.size_le; omega
  have hbl := hown.lt
  obtain ⟨n, hn⟩ : ∃ n : Nat, n = 20 := ⟨_, rfl⟩
  have hn8 : 8 ≤ n := by omega
  have hseq : SeqGives Fence.wide (n - 1 - 1 - 1 - 1) Tryz.prog 55 #[.pointer (some ⟨W.heap.size, 0, none⟩)] encZ (fun ss => ss.Perm (intKeys D) ∧ ∀ x, x ∈ ss ↔ has D (.int .i64 x) = true) (Maps.size D) (W.alloc (.cells #[.map (some b)] 60)) :=
    (AnyZI.keys_stops (ρ := Tryz.keysP_ren) { Tryz.keysP with } Fence.wide _ trivial rfl (by omega) W.heap.size b m D _ (by simp) (by simp) (by
      obtain ⟨es, clock, hb, Ft, hs, hD⟩ := hown
      exact ⟨es, clock, (Below.heap_alloc _ _ b hbl).trans hb, Ft, hs, hD⟩)).gives
  have cK : ∀ mb W, CallsIn Fence.wide (n - 1) Tryz.prog 39 #[.map mb] W fun e w' => e = .returned (.func (.func 55) #[] #[.pointer (some ⟨W.heap.size, 0, none⟩)]) ∧ w' = W.alloc (.cells #[.map mb] 60) := fun mb W => AnyZI.keys_in Tryz.keysP Fence.wide (n - 1) trivial rfl mb W
  have cS := AnyZI.sorted_in Tryz.sortedI Fence.wide (n - 1) trivial trivial trivial trivial rfl (by omega) (sortsIn _) (enters_of Tryz.func54 (by kernel_rfl) rfl) 55 #[.pointer (some ⟨W.heap.size, 0, none⟩)] trivial (enters_of Tryz.func55 (by kernel_rfl) rfl) _ _ hsz hsb _ hseq
  change CallsIn _ _ Tryz.prog 38 _ _ _ at cS
  have hnd := keys_nodup hown Tryz.underlying3
  have hkw := intKeys_wf hown Tryz.underlying3
  refine ⟨(callsIn_wide (n := n - 1)).1 (cK _ _), (callsIn_wide (n := n - 1)).1 (cS.mono ?_)⟩
  rintro e w' ⟨v, ss, rfl, ⟨hS, hS2⟩, hrow, hnil, hb⟩
  have hlen : ss.length = (ss.mergeSort (fun x y => decide (x ≤ y))).length := by rw [List.length_mergeSort]
  rw [hlen] at hrow
  refine ⟨v, _, rfl, RdZ.of_owns hrow, sort_lt (hS.symm.nodup hnd), fun x => by rw [List.mem_mergeSort, hS2 x], fun k hk => hkw k (hS.mem_iff.1 (by rw [List.mem_mergeSort] at hk; exact hk)), ?_, ((Below.refl _ W).alloc (Nat.le_refl _) _).trans (hb.mono (by simp))⟩
  rw [List.length_mergeSort]
  have h1 : (intKeys D).length ≤ Maps.size D := by cases D <;> simp [intKeys, Maps.size]
  have h2 := hown.size_le
  have h3 := hS.length_eq
  omega
theorem wpo_app1C {P : Program} {w : World} {o : Oper} {a : Act} {K : Act → World → Prop} {Q : Exit → Act → World → Prop} (s x : Operand) (t : TypeId)
    (ho : o.op = .call { callee := .builtin .append, args := #[s, x], argTypes := #[t, t] }) (ht : P.underlying t = some (.slice 48))
    (hinf : (P.info? 48).map (fun i => (i.zero, i.size, i.bytes)) = some (some (.agg #[.int .i64 0, .slice none 0 0]), 2, 32))
    (base : Nat) (v : Value) (cs : List Row) (y : Row) (hs : a.eval s = v) (hown : OwC w base 48 v cs) (b off c : Nat) (hx : a.eval x = .slice (some ⟨b, off, none⟩) 1 c) (hc0 : w.cell? ⟨b, off, none⟩ = some (.int .i64 y.1)) (hc1 : w.cell? ⟨b, off + 1, none⟩ = some y.2.1)
    (h1c : y.2.1.oneCell' = true) (hl : (cs.length + 1) * 32 ≤ 140737488355328) (hbase : base ≤ w.heap.size)
    (h : ∀ v' w', OwC w' base 48 v' (cs ++ [y]) → w.grownBy w' v.ownBlock → (v'.ownBlock = v.ownBlock ∨ v'.ownBlock = some w.heap.size) → K (a.put o.dst v') w') :
    o.wp P a w K Q := by
  obtain ⟨i, hi, hz1, hsz, hby⟩ := of_info hinf
  have hcells : ∀ j u, (ptC y)[j]? = some u → w.cell? ((⟨b, off, none⟩ : Addr).add j) = some u := by
    intro j u hj
    rcases j with _ | _ | j
    · simp [ptC] at hj; subst hj; simpa [Addr.add] using hc0
    · simp [ptC] at hj; subst hj; simpa [Addr.add] using hc1
    · simp [ptC] at hj
  have hone : ∀ u ∈ ptC y, u.oneCell' = true := by
    intro u hu
    simp [ptC] at hu
    rcases hu with rfl | rfl
    · rfl
    · exact h1c
  obtain ⟨v', w', hr, h2, h3, _, h5⟩ := run_append_own_at (P := P) w base t o.type 48 i _ 2 32 ht hi hz1 hsz hby rfl (by decide) v cs.length (cs.flatMap ptC) hown ⟨b, off, none⟩ 1 c (ptC y) rfl hcells hone (by unfold maxLen; omega) hl hbase
  unfold Oper.wp execOp
  simp only [ho, resolve, invoke, builtin, Sem.run_bind, Sem.run_pure, Result.andThen_ok, List.map_toArray, List.map_cons, List.map_nil, hs, hx, hr]
  refine h v' w' ?_ h3 h5
  unfold OwC
  rw [List.flatMap_append, List.length_append]
  simpa using h2
theorem step_app1C {P : Program} {w : World} {ops : Array Oper} {o : Oper} {a : Act} {K : Act → World → Prop} {Q : Exit → Act → World → Prop} {E : Prop} (hgd : o.guard = none) (s x : Operand) (t : TypeId)
    (ho : o.op = .call { callee := .builtin .append, args := #[s, x], argTypes := #[t, t] }) (ht : P.underlying t = some (.slice 48))
    (hinf : (P.info? 48).map (fun i => (i.zero, i.size, i.bytes)) = some (some (.agg #[.int .i64 0, .slice none 0 0]), 2, 32))
    (base : Nat) (v : Value) (cs : List Row) (y : Row) (hs : a.eval s = v) (hown : OwC w base 48 v cs) (b off c : Nat) (hx : a.eval x = .slice (some ⟨b, off, none⟩) 1 c) (hc0 : w.cell? ⟨b, off, none⟩ = some (.int .i64 y.1)) (hc1 : w.cell? ⟨b, off + 1, none⟩ = some y.2.1)
    (h1c : y.2.1.oneCell' = true) (hl : (cs.length + 1) * 32 ≤ 140737488355328) (hbase : base ≤ w.heap.size)
    (h : ∀ v' w', OwC w' base 48 v' (cs ++ [y]) → w.grownBy w' v.ownBlock → (v'.ownBlock = v.ownBlock ∨ v'.ownBlock = some w.heap.size) → K (a.put o.dst v') w') :
    if Region.wanted o (yielded ops a.tmps) = true then o.wp P a w K Q else E := by
  have hw : Region.wanted o (yielded ops a.tmps) = true := by simp [Region.wanted, hgd]
  rw [if_pos hw]
  exact wpo_app1C s x t ho ht hinf base v cs y hs hown b off c hx hc0 hc1 h1c hl hbase h
/-- A part of a row. -/
theorem Rd.sub {w : World} {B b o n c : Nat} {l : List Smp} (h : Rd w B (.slice (some ⟨b, o, none⟩) n c) l) (k : Nat) (hkn : k ≤ n) : Rd w B (.slice (some ⟨b, o, none⟩) k k) (l.take k) := by
  obtain ⟨A, c', e, hc, hA⟩ := h
  injection e with e1 e2 e3
  subst e1 e3
  have hl : (l.take k).length = k := by rw [List.length_take]; omega
  refine ⟨_, k, by rw [hl], by rw [hl]; exact Nat.le_refl _, ?_⟩
  rcases hA with h0 | ⟨b', o', e, hb, hcl⟩
  · exact .inl (by rw [h0]; simp)
  · injection e with e
    injection e with e4 e5
    subst e4 e5
    refine .inr ⟨b, o, rfl, hb, fun i hi => ?_⟩
    rw [hl] at hi
    rw [List.getElem_take]
    exact hcl i (by omega)
def boxLen (w : World) (b : Nat) : Nat := match w.cell? ⟨b, 1, none⟩ with | some (.slice _ n _) => n | _ => 0
theorem boxLen_of {w : World} {b n c : Nat} {A : Option Addr} (h : w.cell? ⟨b, 1, none⟩ = some (.slice A n c)) : boxLen w b = n := by unfold boxLen; rw [h]
/-- How much of the row is of the first one's month. -/
def RunOk (sl : List Smp) (t nn : Nat) (m : Int) : Prop := 0 < nn ∧ t + nn ≤ sl.length ∧ (∀ x ∈ (sl.drop t).take nn, x.1 / 1000 = m) ∧ ∀ x ∈ sl.drop (t + nn), m < x.1 / 1000
theorem run_ok {sl : List Smp} {t : Nat} {m r : Int} (hup : sl.Pairwise ltS) (ht : t < sl.length) (hm : sl[t].1 / 1000 = m) (h : IdxM m (sl.drop t) r) : ∃ nn : Nat, RunOk sl t nn m ∧ ((r < 0 ∧ nn = sl.length - t) ∨ r = nn) := by
  have hd : sl.drop t = sl[t] :: sl.drop (t + 1) := List.drop_eq_getElem_cons ht
  rcases h with ⟨rfl, h⟩ | ⟨j, rfl, hj, h1, h2⟩
  · refine ⟨sl.length - t, ⟨by omega, by omega, fun x hx => h x (List.mem_of_mem_take hx), fun x hx => ?_⟩, .inl ⟨by omega, rfl⟩⟩
    rw [List.drop_of_length_le (by omega)] at hx
    exact absurd hx List.not_mem_nil
  · have hj0 : j ≠ 0 := by
      intro e
      subst e
      have e2 : (sl.drop t)[0] = sl[t] := by simp
      rw [e2] at h2
      exact h2 hm
    have hjl : t + j < sl.length := by rw [List.length_drop] at hj; omega
    refine ⟨j, ⟨by omega, by omega, h1, fun x hx => ?_⟩, .inr rfl⟩
    have e3 : (sl.drop t)[j] = sl[t + j] := by simp
    rw [e3] at h2
    have hmono : ∀ x ∈ sl.drop (t + j), sl[t + j].1 ≤ x.1 := by
      have hp := (tick_le hup).sublist (List.drop_sublist (t + j) sl)
      rw [List.drop_eq_getElem_cons hjl] at hp ⊢
      intro x hx
      rcases List.mem_cons.1 hx with rfl | hx
      · exact Int.le_refl _
      · exact (List.pairwise_cons.1 hp).1 x hx
    have h0 : sl[t].1 ≤ sl[t + j].1 := by
      have hp := tick_le hup
      exact List.pairwise_iff_getElem.1 hp t (t + j) ht hjl (by omega)
    have := hmono x hx
    omega
theorem hasM_snoc (c : List Pts) (id : Int) (s : List Smp) (z : Int) : hasM (c ++ [(id, s)]) z ↔ hasM c z ∨ ∃ x ∈ s, x.1 / 1000 = z := by
  constructor
  · rintro ⟨p, hp, x, hx, e⟩
    rcases List.mem_append.1 hp with hp | hp
    · exact .inl ⟨p, hp, x, hx, e⟩
    · rw [List.mem_singleton] at hp
      subst hp
      exact .inr ⟨x, hx, e⟩
  · rintro (⟨p, hp, x, hx, e⟩ | ⟨x, hx, e⟩)
    · exact ⟨p, List.mem_append_left _ hp, x, hx, e⟩
    · exact ⟨_, List.mem_append_right _ (List.mem_singleton.2 rfl), x, hx, e⟩
theorem month_next {c : List Pts} {id : Int} {sl : List Smp} {t nn : Nat} {mo : Int} {L : Int → List Row} {S : Int → Bool} (HL : ∀ z, cut (L z) = monthC (c ++ [(id, sl.take t)]) z) (HS : ∀ z, S z = true ↔ hasM (c ++ [(id, sl.take t)]) z)
    (HSep : ∀ x ∈ sl.take t, ∀ y ∈ sl.drop t, x.1 / 1000 < y.1 / 1000) (hR : RunOk sl t nn mo) (ht : t < sl.length) (hy : sl[t].1 / 1000 = mo) (rv : Value) :
    (∀ z, cut (if z = mo then L mo ++ [(id, rv, (sl.drop t).take nn)] else L z) = monthC (c ++ [(id, sl.take (t + nn))]) z) ∧ (∀ z, (decide (z = mo) || S z) = true ↔ hasM (c ++ [(id, sl.take (t + nn))]) z) ∧ (∀ x ∈ sl.take (t + nn), ∀ y ∈ sl.drop (t + nn), x.1 / 1000 < y.1 / 1000) := by
  obtain ⟨r1, r2, r3, r4⟩ := hR
  have e1 : sl.take (t + nn) = sl.take t ++ (sl.drop t).take nn := List.take_add
  have hne : (sl.drop t).take nn ≠ [] := by
    intro e
    have := congrArg List.length e
    rw [List.length_take, List.length_drop, List.length_nil] at this
    omega
  have hlt : ∀ x ∈ sl.take t, x.1 / 1000 < mo := fun x hx => by
    have := HSep x hx sl[t] (by rw [List.drop_eq_getElem_cons ht]; exact List.mem_cons_self)
    rw [hy] at this
    exact this
  refine ⟨fun z => ?_, fun z => ?_, fun x hx y hy2 => ?_⟩
  · rw [e1, month_step c id _ _ mo hne r3 (fun x hx => by have := hlt x hx; omega) z]
    by_cases hz : z = mo
    · rw [if_pos hz, if_pos hz, cut_one, HL mo]
    · rw [if_neg hz, if_neg hz, HL z]
  · rw [e1, hasM_snoc, Bool.or_eq_true, decide_eq_true_eq, HS z, hasM_snoc]
    constructor
    · rintro (h | h | ⟨x, hx, e⟩)
      · obtain ⟨x, hx⟩ := List.exists_mem_of_ne_nil _ hne
        exact .inr ⟨x, List.mem_append_right _ hx, by rw [r3 x hx, h]⟩
      · exact .inl h
      · exact .inr ⟨x, List.mem_append_left _ hx, e⟩
    · rintro (h | ⟨x, hx, e⟩)
      · exact .inr (.inl h)
      · rcases List.mem_append.1 hx with hx | hx
        · exact .inr (.inr ⟨x, hx, e⟩)
        · exact .inl (by rw [← e, r3 x hx])
  · rw [e1] at hx
    have h2 := r4 y hy2
    rcases List.mem_append.1 hx with hx | hx
    · have := hlt x hx; omega
    · rw [r3 x hx]; exact h2
end Go.Proofs.YtkcipfmbkokfdaaGreatDoor
