/-
  StreamOwn: what is handed in stays as it was; clean points stay so.
-/
import Derived.Test.YtkcipfmbkokfdaaGreatDoorLmpk
import Derived.Test.YtkcipfmbkokfdaaGreatDoorVrk
import Derived.Test.YtkcipfmbkokfdaaGreatDoorMo2k
namespace Go.Proofs.YtkcipfmbkokfdaaGreatDoor
open Go.RowKit Go.Sort Go.Maps
attribute [local go_sem ↓] Go.wp_at_zero Go.wp_at_succ
/-- A row's samples, whose ticks may be written: in own memory from base on, below hi, not in block b. -/
def ShC (w : World) (base hi b p n : Nat) : Prop :=
  ∃ sv, w.cell? ⟨b, p, none⟩ = some sv ∧ ((sv = .slice none 0 0 ∧ n = 0) ∨ ∃ g cp, sv = .slice (some ⟨g, 0, none⟩) n cp ∧ n ≤ cp ∧ base ≤ g ∧ g < hi ∧ g ≠ b ∧ ∀ j, j < n → (∃ x, w.cell? ⟨g, j * 4, none⟩ = some (.int .i64 x)) ∧ w.frozen? ⟨g, j * 4, none⟩ = false)
def ShA (w : World) (base hi : Nat) (A : Option Addr) (l : List Pts) : Prop :=
  l = [] ∨ ∃ b o, A = some ⟨b, o, none⟩ ∧ base ≤ b ∧ b < hi ∧ ∀ i (h : i < l.length), ShC w base hi b (o + i * 2 + 1) l[i].2.length
theorem RdO.shA {w : World} {base n c : Nat} {A : Option Addr} {l : List Pts} (h : RdO w base (.slice A n c) l) : ShA w base w.heap.size A l := by
  obtain ⟨A', c', e, _, hA⟩ := h
  injection e with e1 e2 e3
  subst e1
  refine hA.imp id fun ⟨b, o, e, hb0, hb, hcl⟩ => ⟨b, o, e, hb0, hb, fun i hi => ?_⟩
  obtain ⟨_, sv, h2, h3, h4⟩ := hcl i hi
  refine ⟨sv, h2, ?_⟩
  have hrd := h3.rd
  rcases h3.2 with ⟨e, h0⟩ | ⟨g, cap, cur, e, hg, hh, hn, hm, hcs, ht⟩
  · exact .inl ⟨e, h0⟩
  · refine .inr ⟨g, cap, e, hn, hg, (Array.getElem?_eq_some_iff.1 hh).1, fun eg => h4 (by rw [e, eg]; rfl), fun j hj => ⟨?_, by simp [World.frozen?, hh]⟩⟩
    obtain ⟨A2, c2, e2, _, hA2⟩ := hrd
    rw [e] at e2
    injection e2 with e3 e4 e5
    rcases hA2 with h0 | ⟨b2, o2, e4, _, hc4⟩
    · rw [h0] at hj; simp at hj
    · rw [e4] at e3
      injection e3 with e3
      injection e3 with e5 e6 e7
      subst e5 e6
      have := (hc4 j hj).1
      rw [Nat.zero_add] at this
      exact ⟨_, this⟩
theorem ShC.set {w : World} {base hi b p n : Nat} (h : ShC w base hi b p n) (g k : Nat) (x : Int) (hne : g ≠ b) : ShC (w.setCell ⟨g, k, none⟩ (.int .i64 x)) base hi b p n := by
  obtain ⟨sv, h1, h2⟩ := h
  refine ⟨sv, (World.cell?_of_block (w := w) (Below.heap_setCell w ⟨g, k, none⟩ _ b (fun e => hne e.symm))).trans h1, h2.imp id fun ⟨g', cp, a1, a2, a3, a4, a5, a6⟩ => ⟨g', cp, a1, a2, a3, a4, a5, fun j hj => ?_⟩⟩
  obtain ⟨⟨y, hy⟩, hf⟩ := a6 j hj
  refine ⟨?_, by rw [World.frozen?_setCell]; exact hf⟩
  by_cases e : (⟨g', j * 4, none⟩ : Addr) = ⟨g, k, none⟩
  · rw [e] at hy ⊢
    exact ⟨x, World.cell?_setCell_same _ _ _ hy⟩
  · refine ⟨y, ?_⟩
    rw [World.cell?_setCell_other]
    · exact hy
    · first | exact e | exact fun h => e h.symm
theorem ShA.set {w : World} {base hi : Nat} {A : Option Addr} {l : List Pts} (h : ShA w base hi A l) (g k : Nat) (x : Int) (hne : ∀ b o, A = some ⟨b, o, none⟩ → base ≤ b → g ≠ b) : ShA (w.setCell ⟨g, k, none⟩ (.int .i64 x)) base hi A l :=
  h.imp id fun ⟨b, o, e, h1, h2, h3⟩ => ⟨b, o, e, h1, h2, fun i hi => (h3 i hi).set g k x (hne b o e h1)⟩
theorem ShC.on {w w' : World} {base hi b p n B : Nat} (h : ShC w base hi b p n) (k : Below B w w') (hb : b < B) (hB : hi ≤ B) : ShC w' base hi b p n := by
  obtain ⟨sv, h1, h2⟩ := h
  refine ⟨sv, (k.cell hb).trans h1, h2.imp id fun ⟨g', cp, a1, a2, a3, a4, a5, a6⟩ => ⟨g', cp, a1, a2, a3, a4, a5, fun j hj => ?_⟩⟩
  obtain ⟨⟨y, hy⟩, hf⟩ := a6 j hj
  have hg : g' < B := by omega
  exact ⟨⟨y, (k.cell hg).trans hy⟩, (k.frozen hg).trans hf⟩
theorem ShA.on {w w' : World} {base hi B : Nat} {A : Option Addr} {l : List Pts} (h : ShA w base hi A l) (k : Below B w w') (hB : hi ≤ B) : ShA w' base hi A l :=
  h.imp id fun ⟨b, o, e, h1, h2, h3⟩ => ⟨b, o, e, h1, h2, fun i hi => (h3 i hi).on k (by omega) hB⟩
theorem Own.empty {w : World} {g base e : Nat} (h : w.heap[g]? = some (.cells #[] e (0, 0))) (hb : base ≤ g) : Own w base e (.slice (some ⟨g, 0, none⟩) 0 0) [] :=
  ⟨rfl, .inr ⟨g, 0, #[], rfl, hb, h, Nat.le_refl _, by simp, by simp, by simp [flatS]⟩⟩
theorem one_bd4 {l : List Pts} (h : ([l] : List (List Pts)).length ≤ 10 ∧ cntL [l] ≤ 150) : l.length ≤ 150 ∧ manyL l ≤ 150 := by
  have := h.2
  unfold cntL at this
  simp at this
  omega
set_option maxRecDepth 100000 in
set_option maxHeartbeats 8000000 in
theorem ownL_walk (v : Value) (l : List Pts) (W : World) (T : Tabs W) (hR : RdP W W.heap.size v l) (_hz : Nz v) (hwf : ∀ p ∈ l, (Lit.int .i64 p.1).wf = true) (hs : SizR l) :
    Calls Tryz.prog 8 #[v] W fun e w' => e = .returned (.bool true) ∧ Below W.heap.size W w' := by
  have HAw := Lib.hid (awake16_walk W T)
  have HAL : Hid (∀ (w : World) o, Below w.heap.size w (w.alloc o)) := fun w o => (Below.refl _ w).alloc (Nat.le_refl _) _
  have HF : Hid (∀ w', Below W.heap.size W w' → Calls Tryz.prog 10 #[.slice (some ⟨w'.heap.size, 0, none⟩) 1 1] (w'.alloc (.cells #[v] 29)) fun e w'' => ∃ q, e = .returned (.bool q) ∧ Hid (q = true → ([l] : List (List Pts)).length ≤ 10 ∧ cntL [l] ≤ 150) ∧ Below (w'.alloc (.cells #[v] 29)).heap.size (w'.alloc (.cells #[v] 29)) w'') := fun w' h => few_walk _ [l] _ (RdR.one (hR.on h) _) (fun r hr => by rw [List.mem_singleton] at hr; subst hr; exact hs) (by simp)
  have HP : Hid (∀ w', Below W.heap.size W w' → RdP w' w'.heap.size v l) := fun w' h => hR.on h
  have HTT : Hid (∀ w', Below W.heap.size W w' → Tabs w') := fun w' h => T.below h
  have HW := Lib.hid hwf
  obtain ⟨A, c, rfl, hc, hA⟩ := hR
  obtain ⟨n, hn⟩ : ∃ n, n = l.length := ⟨_, rfl⟩
  rw [← hn] at hc HF HP ⊢
  have HN := Lib.hid hn
  have HA := Lib.hid hA
  clear hn hs hwf T hA
  go_enter Tryz.func8, Tryz.ntmps8
  go_wp2_with fail
  refine HAw.out.mono ?_; rintro e w1 ⟨rfl, hB1⟩
  have HB1 := Lib.hid hB1
  have KF := Lib.hid (HF.out w1 hB1)
  clear hB1 HAw HF
  go_wp2_with fail
  refine KF.out.mono ?_; rintro e w2 ⟨q, rfl, hq, hB2⟩
  have HB2 : Hid (Below W.heap.size W w2) := HB1.out.trans (((HAL.out w1 _).trans (hB2.mono (HAL.out w1 _).size)).mono HB1.out.size)
  clear hB2 HB1 KF
  cases q with
  | false =>
    clear hq
    go_wp2_with fail
    go_ret
    exact ⟨rfl, HB2.out⟩
  | true =>
    obtain ⟨hb1, hb2⟩ := one_bd4 (hq.out rfl)
    clear hq
    have hfl : ([l] : List (List Pts)).flatten = l := by simp
    have hq1 := cleanS_length l
    have hq2 := cleanS_many l
    have hm1 := mergeS_length 1 [] 0 [l]
    have hm2 := mergeS_many 1 [] 0 [l]
    rw [hfl] at hm1 hm2
    have K5 : Hid (∀ w', Below W.heap.size W w' → Calls Tryz.prog 19 #[.slice A n c] w' fun e w'' => ∃ r, e = .returned r ∧ RdO w'' w'.heap.size r (cleanS l) ∧ Below w'.heap.size w' w'') := fun w' h => scleanO _ l w' (HTT.out _ h) (HP.out _ h) HW.out (by omega) (by omega)
    have hCl : Clean (cleanS l) := cleanS_clean l
    have KMg : Hid (∀ w', Below W.heap.size W w' → Calls Tryz.prog 12 #[.agg #[.int .i64 1, .slice none 0 0, .int .i64 0], .slice (some ⟨w'.heap.size, 0, none⟩) 1 1] (w'.alloc (.cells #[.slice A n c] 29)) fun e w'' => ∃ r, e = .returned r ∧ RdO w'' w'.heap.size r (mergeS 1 [] 0 [l]) ∧ Below w'.heap.size w' w'') := fun w' h => by
      have ha := HAL.out w' (.cells #[.slice A n c] 29)
      have h2 := h.trans (ha.mono h.size)
      refine (smerge_walkO _ [l] 1 (.slice none 0 0) [] 0 (w'.alloc (.cells #[.slice A n c] 29)) (HTT.out _ h2) (RdR.one (HP.out _ h) _) ⟨none, 0, rfl, Nat.le_refl _, .inl rfl⟩ (by simp) (fun r hr => by rw [List.mem_singleton] at hr; subst hr; exact HW.out) (by simp) (by rw [hfl]; omega) (by rw [hfl]; omega)).mono ?_
      rintro e w'' ⟨r, rfl, h7, h8⟩
      exact ⟨r, rfl, h7.lower ha.size, ha.trans (h8.mono ha.size)⟩
    obtain ⟨Q, hQe⟩ : ∃ Q, Q = cleanS l := ⟨_, rfl⟩
    rw [← hQe] at K5 hq1 hq2 hCl
    obtain ⟨M, hMe⟩ : ∃ M, M = mergeS 1 [] 0 [l] := ⟨_, rfl⟩
    rw [← hMe] at KMg hm1 hm2
    have hCw : ∀ p ∈ Q, (Lit.int .i64 p.1).wf = true := fun p hp => by
      have := hCl.inr p hp
      exact WalkArith.wf_i64 (by
        unfold inR at this
        rw [Bool.and_eq_true, decide_eq_true_eq, decide_eq_true_eq] at this
        omega)
    have KCc : Hid (∀ w' r, Below W.heap.size W w' → RdP w' w'.heap.size r Q → Calls Tryz.prog 19 #[r] w' fun e w'' => ∃ r2, e = .returned r2 ∧ RdP w'' w''.heap.size r2 Q ∧ Below w'.heap.size w' w'') := fun w' r h h2 => by
      have h9 := sclean r Q w' (HTT.out _ h) h2 hCw (by omega) (by omega)
      rw [clean_again hCl] at h9
      exact h9
    have HSQ : Hid (SmallP Q) := small_of (by omega) (by omega)
    have HSl : Hid (SmallP l) := small_of (by omega) (by omega)
    have HQl : Hid (Q.length ≤ 150 ∧ ∀ p ∈ Q, p.2.length ≤ 150) := ⟨by omega, fun p hp => by have := many_mem hp; omega⟩
    have HMl : Hid (M.length ≤ 150 ∧ ∀ p ∈ M, p.2.length ≤ 150) := ⟨by omega, fun p hp => by have := many_mem hp; omega⟩
    have HLm : Hid (∀ p ∈ l, p.2.length ≤ 150) := fun p hp => by have := many_mem hp; omega
    have hnl : n ≤ 150 := by rw [HN.out]; exact hb1
    clear hb1 hb2 hfl hQe hMe hq1 hq2 hm1 hm2 hCl hCw HTT
    go_wp2_with fail
    go_loopw [5, 6] (fun o i wl => ∃ (k : Nat) (cs : List Row), k ≤ n ∧ i = .int .i64 k ∧ Hid (OwP wl w2.heap.size o cs) ∧ Hid (cut cs = l.take k) ∧ Hid (Below w2.heap.size w2 wl)) (fun _ i _ => n - (intOf i).toNat)
    case atStart => exact ⟨0, [], Nat.zero_le _, rfl, OwP.nil _ _, rfl, Below.refl _ _⟩
    case round =>
      obtain ⟨k, cs, hk, rfl, HO, HC, HBk⟩ := hrel
      have HBw : Hid (Below W.heap.size W wr) := HB2.out.trans (HBk.out.mono HB2.out.size)
      by_cases hlt : k < n
      · have hkl : k < l.length := by rw [← HN.out]; exact hlt
        rcases HA.out with h0 | ⟨b, o, e, hb, hcl⟩
        · rw [h0] at hkl; simp at hkl
        subst e
        obtain ⟨p, hp⟩ : ∃ p, p = l[k] := ⟨_, rfl⟩
        obtain ⟨a1, sv, a2, hsv, hnz⟩ : PtAt wr W.heap.size b (o + k * 2) p := by rw [hp]; exact (hcl k hkl).below HBw.out hb
        have HT : Hid (l.take (k + 1) = l.take k ++ [p]) := by show _ = _; rw [List.take_succ_eq_append_getElem hkl, ← hp]
        have hpl : p.2.length ≤ 150 := HLm.out p (by rw [hp]; exact List.getElem_mem hkl)
        have hcsl : cs.length = k := by
          have h1 := congrArg List.length HC.out
          have h4 : (cut cs).length = cs.length := by simp [cut]
          rw [h4, List.length_take] at h1
          omega
        have HLl : Hid ((cs.length + 1) * 32 ≤ 140737488355328) := by show _ ≤ _; omega
        have HLs : Hid ((([] : List Smp).length + p.2.length) * 32 ≤ 140737488355328) := by show _ ≤ _; simp; omega
        have HBs : Hid (W.heap.size ≤ wr.heap.size) := HBw.out.size
        have HBs2 : Hid (w2.heap.size ≤ wr.heap.size) := HBk.out.size
        obtain ⟨z, hz⟩ : ∃ z, z = p.1 := ⟨_, rfl⟩
        rw [← hz] at a1
        have HZ := Lib.hid hz
        have HRw : Hid (∀ w', Below wr.heap.size wr w' → Rd w' W.heap.size sv p.2) := fun w' h => hsv.below (h.mono HBs.out)
        have HNz := Lib.hid hnz
        have KY : Hid (∀ w', Below w2.heap.size w2 w' → w'.cell? ⟨b, o + k * 2, none⟩ = some (.int .i64 z) ∧ w'.cell? ⟨b, o + k * 2 + 1, none⟩ = some sv) := fun w' h => by
          have h2 : PtAt w' W.heap.size b (o + k * 2) p := by rw [hp]; exact (hcl k hkl).below (HB2.out.trans (h.mono HB2.out.size)) hb
          obtain ⟨h3, sv', h4, _⟩ := h2
          have h5 : w2.cell? ⟨b, o + k * 2 + 1, none⟩ = wr.cell? ⟨b, o + k * 2 + 1, none⟩ := (HBk.out.cell (Nat.lt_of_lt_of_le hb HB2.out.size)).symm
          exact ⟨by rw [hz]; exact h3, (h.cell (Nat.lt_of_lt_of_le hb HB2.out.size)).trans (h5.trans a2)⟩
        have KW : Hid (∀ w', Below wr.heap.size wr w' → w'.cell? ⟨b, o + k * 2, none⟩ = some (.int .i64 z) ∧ w'.cell? ⟨b, o + k * 2 + 1, none⟩ = some sv) := fun w' h => ⟨(h.cell (lt_of_cell a1)).trans a1, (h.cell (lt_of_cell a2)).trans a2⟩
        have HBA : Hid (∀ w' o, Below wr.heap.size wr w' → Below wr.heap.size wr (w'.alloc o)) := fun w' o h => h.alloc h.size _
        have hBB : Below wr.heap.size wr wr := Below.refl _ _
        have i1 : (k : Int) < (n : Int) := by omega
        have HBg : Hid (∀ w' w'', Below wr.heap.size wr w' → w'.grownBy w'' u5.ownBlock → Below w2.heap.size w2 w'') := fun w' w'' h hg => (HBk.out.trans (h.mono HBk.out.size)).grown hg (Nat.le_trans HBk.out.size h.size) (fun g hg => (World.ownsRow.lt HO.out.row g hg).1)
        have HOr : Hid (∀ w', Below wr.heap.size wr w' → OwC w' w2.heap.size 48 u5 cs) := fun w' h => (HO.out.on h).row
        have HBs3 : Hid (∀ w', Below wr.heap.size wr w' → w2.heap.size ≤ w'.heap.size) := fun w' h => Nat.le_trans HBk.out.size h.size
        have HPu : Hid (∀ w' w'' v1 v'', Below wr.heap.size wr w' → Own w' wr.heap.size 52 v1 p.2 → w'.grownBy w'' u5.ownBlock → OwC w'' w2.heap.size 48 v'' (cs ++ [(z, v1, p.2)]) → (v''.ownBlock = u5.ownBlock ∨ v''.ownBlock = some w'.heap.size) → OwP w'' w2.heap.size v'' (cs ++ [(z, v1, p.2)])) := fun w' w'' v1 v'' h1 h2 h3 h4 h5 =>
          (HO.out.on h1).push (xs := [(z, v1, p.2)]) (fun x hx => by rw [List.mem_singleton] at hx; subst hx; exact ⟨h2.rd, h2.nz, AwR.own HO.out h2⟩) h3 (by simpa [OwC] using h4) h5
        have HG0 : Hid (∀ w' w'' (g : Nat), Below wr.heap.size wr w' → wr.heap.size ≤ g → w'.grownBy w'' (Value.slice (some ⟨g, 0, none⟩) 0 0).ownBlock → Below wr.heap.size wr w'') := fun w' w'' g h1 hg h2 => h1.grown h2 h1.size (fun g' hg' => by simp [Value.ownBlock] at hg'; omega)
        have HEm : Hid (∀ w' : World, Below wr.heap.size wr w' → Own (w'.alloc (.cells #[] 52)) wr.heap.size 52 (.slice (some ⟨w'.heap.size, 0, none⟩) 0 0) []) := fun w' h => Own.empty (World.alloc_heap_new _ _) h.size
        have HSz : Hid (∀ w', Below wr.heap.size wr w' → wr.heap.size ≤ w'.heap.size) := fun w' h => h.size
        clear hcl hp hz hsv hnz hkl hpl hcsl
        go_wp2_with fail
        go_region_held3 (fun w' => w'.cell? ⟨b, o + k * 2, none⟩ = some (.int .i64 z) ∧ w'.cell? ⟨b, o + k * 2 + 1, none⟩ = some sv)
          (first | assumption | exact ⟨by assumption, by assumption⟩ | exact KW.out _ (by repeat (first | exact hBB | assumption | refine HBA.out _ _ ?_ | refine Below.drew ?_)))
          (first
            | (refine step_appN (by rfl) _ _ 40 52 (by rfl) Tryz.underlying40 info_Smp wr.heap.size _ [] sv p.2 W.heap.size (by rfl) (HEm.out _ (by repeat (first | exact hBB | assumption | refine HBA.out _ _ ?_ | refine Below.drew ?_))) (by rfl) (HRw.out _ (by repeat (first | exact hBB | assumption | refine HBA.out _ _ ?_ | refine Below.drew ?_))) HNz.out HLs.out (HSz.out _ (by repeat (first | exact hBB | assumption | refine HBA.out _ _ ?_ | refine Below.drew ?_))) ?_; intro v1 w4 hown4 hg4 hloc4; have hN4 : Below wr.heap.size wr w4 := HG0.out _ _ _ (by repeat (first | exact hBB | assumption | refine HBA.out _ _ ?_ | refine Below.drew ?_)) (by first | exact Nat.le_refl _ | exact HSz.out _ (by repeat (first | exact hBB | assumption | refine HBA.out _ _ ?_ | refine Below.drew ?_))) hg4; have HO4 : Hid (Own w4 wr.heap.size 52 v1 p.2) := hown4; obtain ⟨A6, c6, rfl, hc6, _⟩ := hown4.rd; clear hown4 hg4 hloc4)
            | (refine step_app1C (by rfl) _ _ 29 (by rfl) Tryz.underlying29 info_Pt w2.heap.size _ cs (z, _, p.2) (by rfl) (HOr.out _ (by repeat (first | exact hBB | assumption | refine HBA.out _ _ ?_ | refine Below.drew ?_))) _ 0 1 (by rfl) (new_cell _ _ _ 0) (new_cell _ _ _ 1) rfl HLl.out (HBs3.out _ (by repeat (first | exact hBB | assumption | refine HBA.out _ _ ?_ | refine Below.drew ?_))) ?_; intro v7 w7 hown7 hg7 hloc7; have HB7 : Hid (Below w2.heap.size w2 w7) := HBg.out _ _ (by repeat (first | exact hBB | assumption | refine HBA.out _ _ ?_ | refine Below.drew ?_)) hg7; have HO7 : Hid (OwP w7 w2.heap.size v7 (cs ++ [(z, _, p.2)])) := HPu.out _ w7 _ v7 (by repeat (first | exact hBB | assumption | refine HBA.out _ _ ?_ | refine Below.drew ?_)) (HO4.out.below (by first | exact HAL.out _ _ | exact Below.drew (HAL.out _ _) | exact (Below.drew (Below.refl _ _)).alloc (Nat.le_refl _) _ | exact Below.drew ((Below.drew (Below.refl _ _)).alloc (Nat.le_refl _) _))) hg7 hown7 hloc7; obtain ⟨r1, r2⟩ := KY.out _ HB7.out; clear hown7 hg7 hloc7))
        all_goals (
          have HC7 : Hid (cut (cs ++ [(z, .slice A6 p.2.length c6, p.2)]) = l.take (k + 1)) := by
            show _ = _
            rw [cut_one, HC.out, HT.out, HZ.out]
          clear r1 r2
          go_wp2_with fail
          go_roundw
          case rel => exact ⟨k + 1, _, by omega, by go_num, HO7.out, HC7.out, HB7.out⟩
          case measure => simp [intOf]; omega)
      · obtain rfl : n = k := by omega
        obtain ⟨w3, rfl⟩ : ∃ w0, w0 = wr := ⟨wr, rfl⟩
        have hcs := HC.out
        rw [HN.out, List.take_length] at hcs
        have hwas := HO.out.rdP
        rw [hcs] at hwas
        have HWas := Lib.hid hwas
        have HB3 := HBw
        have K := Lib.hid (K5.out w3 HB3.out)
        clear hcs hwas HO HC HBk HBw HB2 HN HLm K5 hk
        go_wp2_with fail
        refine K.out.mono ?_; rintro e w4 ⟨rc, rfl, hrc, hB⟩
        have HB4 : Hid (Below W.heap.size W w4) := HB3.out.trans (hB.mono HB3.out.size)
        have HH4 : Hid (Below w3.heap.size w3 w4) := hB
        have K6 := Lib.hid (KCc.out w4 rc HB4.out hrc.rdP)
        obtain ⟨Ac, cc, rfl, hcc, _⟩ := id hrc
        obtain ⟨nq, hnq⟩ : ∃ m, m = Q.length := ⟨_, rfl⟩
        rw [← hnq] at hcc hrc K6 ⊢
        have hnql : nq ≤ 150 := by rw [hnq]; exact HQl.out.1
        have HNq := Lib.hid hnq
        have HRc := Lib.hid hrc
        clear hnq hrc hB K KCc
        go_wp2_with fail
        refine K6.out.mono ?_; rintro e w5 ⟨r5, rfl, hr5, hB⟩
        have HB5 : Hid (Below W.heap.size W w5) := HB4.out.trans (hB.mono HB4.out.size)
        have HH5 : Hid (Below w3.heap.size w3 w5) := HH4.out.trans (hB.mono HH4.out.size)
        have HRc5 := Lib.hid (HRc.out.on hB)
        have ks := sameP_walk r5 _ Q Q w5 hr5 HRc5.out.rdP HSQ.out
        rw [decide_eq_true rfl] at ks
        have KS := Lib.hid ks
        clear ks hB hr5 K6 HRc HB4 HH4
        go_wp2_with fail
        refine KS.out.mono ?_; rintro e w6 ⟨rfl, hE⟩
        have HB6 : Hid (Below W.heap.size W w6) := HB5.out.trans (hE.below.mono HB5.out.size)
        have HH6 : Hid (Below w3.heap.size w3 w6) := HH5.out.trans (hE.below.mono HH5.out.size)
        have HRc6 := Lib.hid (HRc5.out.on hE.below)
        have KM := Lib.hid (KMg.out w6 HB6.out)
        clear hE KS HRc5 HB5 HH5 KMg HSQ
        go_wp2_with fail
        refine KM.out.mono ?_; rintro e w7 ⟨rm, rfl, hrm, hB⟩
        have HB7 : Hid (Below W.heap.size W w7) := HB6.out.trans (hB.mono HB6.out.size)
        have HH7 : Hid (Below w3.heap.size w3 w7) := HH6.out.trans (hB.mono HH6.out.size)
        have HS6 : Hid (w3.heap.size ≤ w6.heap.size) := HH6.out.size
        have HSc : Hid (ShA w7 w3.heap.size w6.heap.size Ac Q) := HRc6.out.shA.on hB (Nat.le_refl _)
        obtain ⟨Am, cm, rfl, hcm, _⟩ := id hrm
        have HSm : Hid (ShA w7 w6.heap.size w7.heap.size Am M) := hrm.shA
        obtain ⟨nm, hnm⟩ : ∃ m, m = M.length := ⟨_, rfl⟩
        rw [← hnm] at hcm ⊢
        have hnml : nm ≤ 150 := by rw [hnm]; exact HMl.out.1
        have HNm := Lib.hid hnm
        obtain ⟨H3, hH3⟩ : ∃ h, h = w3.heap.size := ⟨_, rfl⟩
        obtain ⟨H6, hH6⟩ : ∃ h, h = w6.heap.size := ⟨_, rfl⟩
        obtain ⟨H7, hH7⟩ : ∃ h, h = w7.heap.size := ⟨_, rfl⟩
        rw [← hH3, ← hH6] at HSc
        rw [← hH6, ← hH7] at HSm
        have h36 : H3 ≤ H6 := by rw [hH3, hH6]; exact HS6.out
        have HE3 := Lib.hid hH3
        rw [← hH3] at HH7
        clear hnm hrm hB KM HRc6 HB6 HH6 HS6 hH3 hH6 hH7 HB7
        go_wp2_with fail
        go_loopw [10, 11] (fun i _ wl => ∃ k : Nat, k ≤ nq ∧ i = .int .i64 k ∧ Hid (ShA wl H3 H6 Ac Q) ∧ Hid (ShA wl H6 H7 Am M) ∧ Hid (Below H3 w3 wl)) (fun i _ _ => nq - (intOf i).toNat)
        case atStart => exact ⟨0, Nat.zero_le _, rfl, HSc.out, HSm.out, HH7.out⟩
        case round =>
          obtain ⟨k, hk, rfl, HC1, HM1, HBk⟩ := hrel
          by_cases hlt : k < nq
          · have hkl : k < Q.length := by rw [← HNq.out]; exact hlt
            obtain ⟨b, o, eA, hb1, hb2, hcl⟩ := HC1.out.resolve_left (fun h0 => by rw [h0] at hkl; simp at hkl)
            subst eA
            obtain ⟨n5, hn5⟩ : ∃ m, m = Q[k].2.length := ⟨_, rfl⟩
            have hn5l : n5 ≤ 150 := by rw [hn5]; exact HQl.out.2 _ (List.getElem_mem hkl)
            have HAt : Hid (∀ w', ShA w' H3 H6 (some ⟨b, o, none⟩) Q → ShC w' H3 H6 b (o + k * 2 + 1) n5) := fun w' h => by
              obtain ⟨b', o', e, _, _, h2⟩ := h.resolve_left (fun h0 => by rw [h0] at hkl; simp at hkl)
              injection e with e
              injection e with e1 e2 e3
              subst e1 e2
              rw [hn5]; exact h2 k hkl
            have i1 : (k : Int) < (nq : Int) := by omega
            have HX : Hid (∀ b' o', (some ⟨b, o, none⟩ : Option Addr) = some ⟨b', o', none⟩ → b' = b) := fun b' o' e => by
              injection e with e
              injection e with e1 e2 e3
              exact e1.symm
            clear hn5 hcl hkl
            go_wp2_with fail
            go_loopw [11] (fun i wl => ∃ j : Nat, j ≤ n5 ∧ i = .int .i64 j ∧ Hid (ShA wl H3 H6 (some ⟨b, o, none⟩) Q) ∧ Hid (ShA wl H6 H7 Am M) ∧ Hid (Below H3 w3 wl)) (fun i _ => n5 - (intOf i).toNat)
            case atStart => exact ⟨0, Nat.zero_le _, rfl, HC1.out, HM1.out, HBk.out⟩
            case round =>
              obtain ⟨j, hj, rfl, HC2, HM2, HBj⟩ := hrel
              obtain ⟨sv, c1, h2⟩ := HAt.out _ HC2.out
              rcases h2 with ⟨e0, h0⟩ | ⟨g, cp, e0, a2, a3, a4, a5, a6⟩
              · subst e0
                obtain rfl : j = 0 := by omega
                go_wp2_with fail
                go_roundw
                case rel => exact ⟨k + 1, by omega, by go_num, HC2.out, HM2.out, HBj.out⟩
                case measure => simp [intOf]; omega
              · subst e0
                by_cases hlt2 : j < n5
                · obtain ⟨⟨x, c2⟩, f2⟩ := a6 j hlt2
                  have i2 : (j : Int) < (n5 : Int) := by omega
                  have HS2 : Hid (ShA (wr.setCell ⟨g, j * 4, none⟩ (.int .i64 (-1))) H3 H6 (some ⟨b, o, none⟩) Q) := HC2.out.set g (j * 4) (-1) (fun b' o' e _ => by rw [HX.out b' o' e]; exact a5)
                  have HS3 : Hid (ShA (wr.setCell ⟨g, j * 4, none⟩ (.int .i64 (-1))) H6 H7 Am M) := HM2.out.set g (j * 4) (-1) (fun b' o' e h => by omega)
                  have HS4 : Hid (Below H3 w3 (wr.setCell ⟨g, j * 4, none⟩ (.int .i64 (-1)))) := HBj.out.setCell (p := ⟨g, j * 4, none⟩) a3 _
                  clear a6
                  go_wp2_with fail
                  go_roundw
                  case rel => exact ⟨j + 1, by omega, by go_num, HS2.out, HS3.out, HS4.out⟩
                  case measure => simp [intOf]; omega
                · obtain rfl : n5 = j := by omega
                  clear a6
                  go_wp2_with fail
                  go_roundw
                  case rel => exact ⟨k + 1, by omega, by go_num, HC2.out, HM2.out, HBj.out⟩
                  case measure => simp [intOf]; omega
          · obtain rfl : nq = k := by omega
            obtain ⟨w8, rfl⟩ : ∃ w0, w0 = wr := ⟨wr, rfl⟩
            have HSm8 := HM1
            have HH8 := HBk
            clear HM1 HBk HSm HSc HC1 HH7
            go_wp2_with fail
            go_loopw [12, 13] (fun i _ wl => ∃ k : Nat, k ≤ nm ∧ i = .int .i64 k ∧ Hid (ShA wl H6 H7 Am M) ∧ Hid (Below H3 w3 wl)) (fun i _ _ => nm - (intOf i).toNat)
            case atStart => exact ⟨0, Nat.zero_le _, rfl, HSm8.out, HH8.out⟩
            case round =>
              obtain ⟨k, hk2, rfl, HC1, HBk⟩ := hrel
              by_cases hlt2 : k < nm
              · have hkl : k < M.length := by rw [← HNm.out]; exact hlt2
                obtain ⟨b, o, eA, hb1, hb2, hcl⟩ := HC1.out.resolve_left (fun h0 => by rw [h0] at hkl; simp at hkl)
                subst eA
                obtain ⟨n5, hn5⟩ : ∃ m, m = M[k].2.length := ⟨_, rfl⟩
                have hn5l : n5 ≤ 150 := by rw [hn5]; exact HMl.out.2 _ (List.getElem_mem hkl)
                have HAt : Hid (∀ w', ShA w' H6 H7 (some ⟨b, o, none⟩) M → ShC w' H6 H7 b (o + k * 2 + 1) n5) := fun w' h => by
                  obtain ⟨b', o', e, _, _, h2⟩ := h.resolve_left (fun h0 => by rw [h0] at hkl; simp at hkl)
                  injection e with e
                  injection e with e1 e2 e3
                  subst e1 e2
                  rw [hn5]; exact h2 k hkl
                have i1 : (k : Int) < (nm : Int) := by omega
                have HX : Hid (∀ b' o', (some ⟨b, o, none⟩ : Option Addr) = some ⟨b', o', none⟩ → b' = b) := fun b' o' e => by
                  injection e with e
                  injection e with e1 e2 e3
                  exact e1.symm
                clear hn5 hcl hkl
                go_wp2_with fail
                go_loopw [13] (fun i wl => ∃ j : Nat, j ≤ n5 ∧ i = .int .i64 j ∧ Hid (ShA wl H6 H7 (some ⟨b, o, none⟩) M) ∧ Hid (Below H3 w3 wl)) (fun i _ => n5 - (intOf i).toNat)
                case atStart => exact ⟨0, Nat.zero_le _, rfl, HC1.out, HBk.out⟩
                case round =>
                  obtain ⟨j, hj, rfl, HC2, HBj⟩ := hrel
                  obtain ⟨sv, c1, h2⟩ := HAt.out _ HC2.out
                  rcases h2 with ⟨e0, h0⟩ | ⟨g, cp, e0, a2, a3, a4, a5, a6⟩
                  · subst e0
                    obtain rfl : j = 0 := by omega
                    go_wp2_with fail
                    go_roundw
                    case rel => exact ⟨k + 1, by omega, by go_num, HC2.out, HBj.out⟩
                    case measure => simp [intOf]; omega
                  · subst e0
                    by_cases hlt3 : j < n5
                    · obtain ⟨⟨x, c2⟩, f2⟩ := a6 j hlt3
                      have i2 : (j : Int) < (n5 : Int) := by omega
                      have HS2 : Hid (ShA (wr.setCell ⟨g, j * 4, none⟩ (.int .i64 (-1))) H6 H7 (some ⟨b, o, none⟩) M) := HC2.out.set g (j * 4) (-1) (fun b' o' e _ => by rw [HX.out b' o' e]; exact a5)
                      have HS4 : Hid (Below H3 w3 (wr.setCell ⟨g, j * 4, none⟩ (.int .i64 (-1)))) := HBj.out.setCell (p := ⟨g, j * 4, none⟩) (by show _ ≤ g; omega) _
                      clear a6
                      go_wp2_with fail
                      go_roundw
                      case rel => exact ⟨j + 1, by omega, by go_num, HS2.out, HS4.out⟩
                      case measure => simp [intOf]; omega
                    · obtain rfl : n5 = j := by omega
                      clear a6
                      go_wp2_with fail
                      go_roundw
                      case rel => exact ⟨k + 1, by omega, by go_num, HC2.out, HBj.out⟩
                      case measure => simp [intOf]; omega
              · obtain rfl : nm = k := by omega
                obtain ⟨w9, rfl⟩ : ∃ w0, w0 = wr := ⟨wr, rfl⟩
                have hB9 := HBk.out
                rw [HE3.out] at hB9
                have HB9 := Lib.hid hB9
                have HB9W : Hid (Below W.heap.size W w9) := HB3.out.trans (HB9.out.mono HB3.out.size)
                have ks := sameP_walk (.slice A n c) u5 l l w9 (HP.out w9 HB9W.out) (HWas.out.on HB9.out) HSl.out
                rw [decide_eq_true rfl] at ks
                have KS := Lib.hid ks
                clear ks hB9 HC1 HBk HSm8 HH8 HE3
                go_wp2_with fail
                refine KS.out.mono ?_; rintro e w10 ⟨rfl, hE⟩
                have HB10 : Hid (Below W.heap.size W w10) := HB9W.out.trans (hE.below.mono HB9W.out.size)
                clear hE KS
                go_wp2_with fail
                go_ret
                exact ⟨ret_bool (by simp), HB10.out⟩
end Go.Proofs.YtkcipfmbkokfdaaGreatDoor
