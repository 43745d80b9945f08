/-
  StreamMerges: any rows put together, in any way.
-/
import Derived.Test.YtkcipfmbkokfdaaGreatDoorAyk
import Derived.Test.YtkcipfmbkokfdaaGreatDoorAqk
import Derived.Test.YtkcipfmbkokfdaaGreatDoorRmk
import Derived.Test.YtkcipfmbkokfdaaGreatDoorQpk
import Derived.Deep.RegionHeld3
import Derived.Test.YtkcipfmbkokfdaaGreatDoorPpk
namespace Go.Proofs.YtkcipfmbkokfdaaGreatDoor
open Go.RowKit Go.Sort Go.Maps
attribute [local go_sem ↓] Go.wp_at_zero Go.wp_at_succ
theorem small_of {l : List Pts} (h1 : l.length ≤ 1000000) (h2 : manyL l ≤ 1000000) : SmallP l := ⟨h1, fun p hp => by have := many_mem hp; omega⟩
theorem few_bd {ll : List (List Pts)} (h : ll.length ≤ 10 ∧ cntL ll ≤ 150) : ll.length ≤ 10 ∧ ll.flatten.length ≤ 150 ∧ manyL ll.flatten ≤ 150 := by
  have := h.2
  unfold cntL at this
  exact ⟨h.1, by omega, by omega⟩
set_option maxRecDepth 100000 in
set_option maxHeartbeats 4000000 in
theorem merges_walk (d f : Int) (gv : Value) (g : List Int) (v : Value) (ll : List (List Pts)) (W : World) (T : Tabs W) (hG : RdZ W W.heap.size gv g) (_hgz : Nz gv) (hR : RdQ W W.heap.size v ll) (_hz : Nz v) (hwf : ∀ r ∈ ll, ∀ p ∈ r, (Lit.int .i64 p.1).wf = true) (hl : ll.length ≤ 140737488355327) (hs : ∀ l ∈ ll, SizR l) :
    Calls Tryz.prog 3 #[.agg #[.int .i64 d, gv, .int .i64 f], v] W fun e w' => e = .returned (.bool true) ∧ Below W.heap.size W w' := by
  obtain ⟨w0, hw0⟩ : ∃ w0, w0 = W.alloc (.cells #[.int .i64 d, gv, .int .i64 f] 24) := ⟨_, rfl⟩
  have hB0 : Below W.heap.size W w0 := by rw [hw0]; exact (Below.refl _ W).alloc (Nat.le_refl _) _
  have hT0 := T.below hB0
  have HAw := Lib.hid (awake16_walk w0 hT0)
  have hG0 := hG.on hB0
  have hR0 := hR.on hB0
  obtain ⟨bh, hbh⟩ : ∃ bh, bh = W.heap.size := ⟨_, rfl⟩
  have c0 : w0.cell? ⟨bh, 0, none⟩ = some (.int .i64 d) := by rw [hw0, hbh]; exact new_cell _ _ _ 0
  have c1 : w0.cell? ⟨bh, 1, none⟩ = some gv := by rw [hw0, hbh]; exact new_cell _ _ _ 1
  have c2 : w0.cell? ⟨bh, 2, none⟩ = some (.int .i64 f) := by rw [hw0, hbh]; exact new_cell _ _ _ 2
  have HC : Hid (∀ w', Below w0.heap.size w0 w' → w'.cell? ⟨bh, 0, none⟩ = some (.int .i64 d) ∧ w'.cell? ⟨bh, 1, none⟩ = some gv ∧ w'.cell? ⟨bh, 2, none⟩ = some (.int .i64 f)) := fun w' h => ⟨(h.cell (lt_of_cell c0)).trans c0, (h.cell (lt_of_cell c1)).trans c1, (h.cell (lt_of_cell c2)).trans c2⟩
  have HF : Hid (∀ w', Below w0.heap.size w0 w' → Calls Tryz.prog 10 #[v] w' fun e w'' => ∃ q, e = .returned (.bool q) ∧ Hid (q = true → ll.length ≤ 10 ∧ cntL ll ≤ 150) ∧ Below w'.heap.size w' w'') := fun w' h => few_walk v ll w' (hR0.on h).rdR hs hl
  have HM : Hid (∀ w', Below w0.heap.size w0 w' → g.length ≤ 50 → (ll.length ≤ 10 ∧ cntL ll ≤ 150) → Calls Tryz.prog 12 #[.agg #[.int .i64 d, gv, .int .i64 f], v] w' fun e w'' => ∃ r, e = .returned r ∧ RdP w'' w''.heap.size r (mergeS d g f ll) ∧ Below w'.heap.size w' w'') := fun w' h hg hb => by
    obtain ⟨b1, b2, b3⟩ := few_bd hb
    exact smerge_walk v ll d gv g f w' (hT0.below h) (hR0.on h).rdR (hG0.on h) (by omega) hwf (by omega) (by omega) (by omega)
  have HRM : Hid (∀ w', Below w0.heap.size w0 w' → g.length ≤ 50 → (ll.length ≤ 10 ∧ cntL ll ≤ 150) → Calls Tryz.prog 13 #[.int .i64 d, gv, .int .i64 f, v] w' fun e w'' => ∃ r, e = .returned r ∧ RdP w'' w''.heap.size r (mergeS d g f ll) ∧ Below w'.heap.size w' w'') := fun w' h hg hb => by
    obtain ⟨b1, b2, b3⟩ := few_bd hb
    exact rmerge_walk v ll d gv g f w' (hR0.on h) (hG0.on h) (by omega) (by omega) (by omega) (by omega)
  have HSm : Hid ((ll.length ≤ 10 ∧ cntL ll ≤ 150) → SmallP (mergeS d g f ll)) := fun hb => by
    obtain ⟨b1, b2, b3⟩ := few_bd hb
    have h1 := mergeS_length d g f ll
    have h2 := mergeS_many d g f ll
    exact small_of (by omega) (by omega)
  have HB0 := Lib.hid hB0
  obtain ⟨A1, k1, rfl, hk1, _⟩ := hG
  obtain ⟨A2, k2, rfl, hk2, _⟩ := hR
  obtain ⟨n, hn⟩ : ∃ n, n = g.length := ⟨_, rfl⟩
  obtain ⟨m, hm⟩ : ∃ m, m = ll.length := ⟨_, rfl⟩
  obtain ⟨M, hM⟩ : ∃ M, M = mergeS d g f ll := ⟨_, rfl⟩
  rw [← hn] at hk1 c1 HC HM HRM hw0 ⊢
  rw [← hm] at hk2 HF HM HRM HSm ⊢
  rw [← hM] at HM HRM HSm
  clear hwf hs hG0 hR0 hT0 T hB0 hn hm hM hl c0 c1 c2
  go_enter Tryz.func3, Tryz.ntmps3
  go_wp2_with fail
  rw [← hw0, ← hbh]
  clear hw0 hbh
  refine HAw.out.mono ?_; rintro e w1 ⟨rfl, hB1⟩
  have HB1 := Lib.hid hB1
  have KF := Lib.hid (HF.out w1 hB1)
  clear hB1 HAw HF
  go_wp2_with fail
  refine KF.out.mono ?_; rintro e w2 ⟨q, rfl, hq, hB2⟩
  have HB2 : Hid (Below w0.heap.size w0 w2) := HB1.out.trans (hB2.mono HB1.out.size)
  obtain ⟨c0, c1, c2⟩ := HC.out w2 HB2.out
  clear hB2 HB1 KF
  cases q with
  | false =>
    clear hq
    go_wp2_with fail
    go_ret
    exact ⟨rfl, HB0.out.trans (HB2.out.mono HB0.out.size)⟩
  | true =>
    have HQ := Lib.hid (hq.out rfl)
    clear hq
    by_cases hn50 : n ≤ 50
    · have g1 : ¬ (50 : Int) < (n : Int) := by omega
      have HM2 := Lib.hid (fun w' h => HM.out w' h hn50 HQ.out)
      have HR2 := Lib.hid (fun w' h => HRM.out w' h hn50 HQ.out)
      have HS2 := Lib.hid (HSm.out HQ.out)
      have hBB : Below w0.heap.size w0 w2 := HB2.out
      clear HM HRM HSm HQ
      go_wp2_with fail
      go_region_held3 (fun w' => w'.cell? ⟨bh, 0, none⟩ = some (.int .i64 d) ∧ w'.cell? ⟨bh, 1, none⟩ = some (.slice A1 n k1) ∧ w'.cell? ⟨bh, 2, none⟩ = some (.int .i64 f) ∧ Below w0.heap.size w0 w')
        (first | assumption | (have hd := Below.drew (by assumption : Below w0.heap.size w0 _); exact ⟨(HC.out _ hd).1, (HC.out _ hd).2.1, (HC.out _ hd).2.2, hd⟩) | exact ⟨by assumption, by assumption, by assumption, by assumption⟩)
        (first
          | (go_at_call 12; refine (HM2.out _ (by first | assumption | exact Below.drew (by assumption))).mono ?_; rintro e w3 ⟨r3, rfl, hr3, hb3⟩; have hN3 : Below w0.heap.size w0 w3 := Below.trans (by first | assumption | exact Below.drew (by assumption)) (hb3.mono (by first | exact HB2.out.size)); obtain ⟨c0', c1', c2'⟩ := HC.out _ hN3; have HR3 := Lib.hid hr3; clear hr3 hb3)
          | (go_at_call 13; refine (HR2.out _ hN3).mono ?_; rintro e w4 ⟨r4, rfl, hr4, hb4⟩; have hN4 : Below w0.heap.size w0 w4 := hN3.trans (hb4.mono hN3.size); obtain ⟨c0'', c1'', c2''⟩ := HC.out _ hN4; have KS := Lib.hid (sameP_walk r3 r4 M M w4 (HR3.out.on hb4) hr4 HS2.out); clear hr4 hb4)
          | (go_at_call 11; refine KS.out.mono ?_; rintro e w5 ⟨rfl, hE5⟩; have hN5 : Below w0.heap.size w0 w5 := hN4.trans (hE5.below.mono hN4.size); obtain ⟨d0, d1, d2⟩ := HC.out _ hN5; clear hE5))
      go_wp2_with fail
      go_ret
      exact ⟨ret_bool (by simp), HB0.out.trans (hN5.mono HB0.out.size)⟩
    · have g1 : (50 : Int) < (n : Int) := by omega
      go_wp2_with fail
      go_ret
      exact ⟨rfl, HB0.out.trans (HB2.out.mono HB0.out.size)⟩
end Go.Proofs.YtkcipfmbkokfdaaGreatDoor

/-
  Points in order are told by what each number has; rows of which some are put together ahead come to the same.
-/
namespace Go.Proofs.YtkcipfmbkokfdaaGreatDoor
theorem ofL_cons (p : Pts) (c : List Pts) (k : Int) : ofL (p :: c) k = if p.1 = k then p.2 ++ ofL c k else ofL c k := by
  unfold ofL
  rw [List.filter_cons]
  by_cases h : p.1 = k
  · rw [if_pos h, if_pos (by rw [h]; exact beq_self_eq_true k), List.flatMap_cons]
  · rw [if_neg h, if_neg (by rw [beq_iff_eq]; exact h)]
theorem ofL_append (a b : List Pts) (k : Int) : ofL (a ++ b) k = ofL a k ++ ofL b k := by unfold ofL; rw [List.filter_append, List.flatMap_append]
theorem ofL_none {c : List Pts} {k : Int} (h : ∀ p ∈ c, p.1 ≠ k) : ofL c k = [] := by
  unfold ofL
  rw [List.filter_eq_nil_iff.2 fun p hp => by rw [beq_iff_eq]; exact h p hp]
  rfl
theorem ofL_at {c : List Pts} (hc : c.Pairwise (fun a b => a.1 < b.1)) : ∀ {p : Pts}, p ∈ c → ofL c p.1 = p.2 := by
  induction c with
  | nil => intro p hp; exact absurd hp List.not_mem_nil
  | cons a c ih =>
    intro p hp
    have h := List.pairwise_cons.1 hc
    rw [ofL_cons]
    rcases List.mem_cons.1 hp with rfl | hp
    · rw [if_pos rfl, ofL_none fun q hq e => by have := h.1 q hq; omega, List.append_nil]
    · rw [if_neg (by have := h.1 p hp; omega), ih h.2 hp]
theorem clean_mem {c : List Pts} (hc : Clean c) (p : Pts) : p ∈ c ↔ p.2 ≠ [] ∧ ofL c p.1 = p.2 := by
  constructor
  · intro hp; exact ⟨hc.ne p hp, ofL_at hc.ids hp⟩
  · rintro ⟨h1, h2⟩
    have : ∃ q ∈ c, q.1 = p.1 := by
      apply Classical.byContradiction
      intro hn
      have := ofL_none (c := c) (k := p.1) fun q hq e => hn ⟨q, hq, e⟩
      rw [this] at h2
      exact h1 h2.symm
    obtain ⟨q, hq, e⟩ := this
    have h3 := ofL_at hc.ids hq
    rw [e, h2] at h3
    have : p = q := Prod.ext e.symm h3
    rw [this]; exact hq
theorem clean_ext {a b : List Pts} (ha : Clean a) (hb : Clean b) (h : ∀ k, ofL a k = ofL b k) : a = b := by
  have hm : ∀ p, p ∈ a ↔ p ∈ b := fun p => by rw [clean_mem ha, clean_mem hb, h]
  have na : a.Nodup := ha.ids.imp fun h e => by rw [e] at h; omega
  have nb : b.Nodup := hb.ids.imp fun h e => by rw [e] at h; omega
  refine List.Perm.eq_of_pairwise (le := fun x y : Pts => x.1 ≤ y.1) (fun x y hx hy h1 h2 => ?_) (ha.ids.imp fun h => by omega) (hb.ids.imp fun h => by omega) ((List.perm_ext_iff_of_nodup na nb).2 hm)
  have e : x.1 = y.1 := by omega
  have h3 := ofL_at hb.ids ((hm x).1 hx)
  have h4 := ofL_at hb.ids hy
  rw [e] at h3
  exact Prod.ext e (h3.symm.trans h4)
theorem sortS_nil : sortS [] = [] := sortS_is [] [] List.Pairwise.nil fun x => by simp
theorem sortS_id {s : List Smp} (h : s.Pairwise ltS) (hr : ∀ x ∈ s, rightS x = true) : sortS s = s := sortS_is s s h fun x => ⟨fun hx => ⟨hx, hr x hx⟩, fun hx => hx.1⟩
theorem sortS_again (s : List Smp) : sortS (sortS s) = sortS s := sortS_id (sortS_strict' s) fun x hx => ((sortS_mem s x).1 hx).2
theorem hasL_ofL {l : List Pts} {k : Int} (h : ofL l k ≠ []) : hasL l k = true := by
  apply Classical.byContradiction
  intro hn
  refine h (ofL_none fun p hp e => hn ?_)
  unfold hasL
  exact List.any_eq_true.2 ⟨p, hp, by rw [e]; exact beq_self_eq_true k⟩
theorem fos_at {FO : Int → List Smp → List Smp} (hn : ∀ k, FO k [] = []) (l : List Pts) (k : Int) : ofL (fosC FO (rowsS l)) k = if inR k = true then FO k (sortS (ofL l k)) else [] := by
  have hids : (fosC FO (rowsS l)).Pairwise (fun a b => a.1 < b.1) := fosC_ids (rowsS_ids l)
  have hnone : (∀ p ∈ fosC FO (rowsS l), p.1 ≠ k) → ofL (fosC FO (rowsS l)) k = [] := ofL_none
  by_cases hk : inR k = true
  · rw [if_pos hk]
    by_cases he : FO k (sortS (ofL l k)) = []
    · rw [he]
      refine hnone fun p hp e => ?_
      obtain ⟨h1, q, hq, rfl⟩ := mem_fosC.1 hp
      have h3 := (mem_rowsS.1 hq).2.2
      dsimp only at e h1
      rw [h3, e] at h1
      exact h1 he
    · have hl : hasL l k = true := by
        refine hasL_ofL fun e => he ?_
        rw [e, sortS_nil, hn]
      have hm : (k, FO k (sortS (ofL l k))) ∈ fosC FO (rowsS l) := mem_fosC.2 ⟨he, (k, sortS (ofL l k)), mem_rowsS.2 ⟨hl, hk, rfl⟩, rfl⟩
      exact ofL_at hids hm
  · rw [if_neg hk]
    refine hnone fun p hp e => ?_
    obtain ⟨_, q, hq, rfl⟩ := mem_fosC.1 hp
    have h3 := (mem_rowsS.1 hq).2.1
    dsimp only at e
    rw [e] at h3
    exact hk h3
theorem clean_at (l : List Pts) (k : Int) : ofL (cleanS l) k = if inR k = true then sortS (ofL l k) else [] := fos_at (fun _ => rfl) l k
theorem clean_ofs {c : List Pts} (hc : Clean c) (k : Int) : sortS (ofL c k) = ofL c k := by
  by_cases h : ∃ q ∈ c, q.1 = k
  · obtain ⟨q, hq, rfl⟩ := h
    rw [ofL_at hc.ids hq]
    exact sortS_id (hc.up q hq) (hc.bd q hq)
  · rw [ofL_none fun q hq e => h ⟨q, hq, e⟩, sortS_nil]
theorem clean_again {c : List Pts} (hc : Clean c) : cleanS c = c := by
  refine clean_ext (cleanS_clean c) hc fun k => ?_
  rw [clean_at, clean_ofs hc]
  by_cases hk : inR k = true
  · rw [if_pos hk]
  · rw [if_neg hk, ofL_none fun p hp e => hk (by rw [← e]; exact hc.inr p hp)]
theorem dedup_nil (d : Int) : dedupS d [] = [] := by unfold dedupS; rw [sortS_nil]; rfl
theorem dedup_sort (d : Int) (s : List Smp) : dedupS d (sortS s) = dedupS d s := by rw [dedupS_lasts, dedupS_lasts, sortS_again]
theorem dedup_congr (d : Int) {a b : List Smp} (h : ∀ x, x ∈ a ↔ x ∈ b) : dedupS d a = dedupS d b := by rw [dedupS_lasts, dedupS_lasts, sortS_congr h]
theorem foM_nil (d : Int) (g : List Int) (f k : Int) : foM d g f k [] = [] := by
  unfold foM
  split
  · rfl
  · rw [dedup_nil]; rfl
theorem merge_at (d : Int) (g : List Int) (f : Int) (ll : List (List Pts)) (k : Int) : ofL (mergeS d g f ll) k = if inR k = true then foM d g f k (ofL ll.flatten k) else [] := by
  unfold mergeS
  rw [fos_at (foM_nil d g f)]
  unfold foM
  rw [dedup_sort]
theorem del_zero (d : Int) (s : List Smp) : delS 0 1099511627776 (dedupS d s) = dedupS d s := by
  unfold delS
  refine List.filter_eq_self.2 fun x hx => ?_
  have h1 := ((dedup_mem d s x).1 hx).1.2
  have h2 := rightS_bd h1
  unfold outS
  have e1 : ¬ x.1 < 0 := by omega
  have e2 : ¬ (1099511627776 : Int) < x.1 := by omega
  simp [e1, e2]
theorem dedup_two (d : Int) (a b : List Smp) : dedupS d (dedupS d a ++ dedupS d b) = dedupS d (a ++ b) := by
  rw [← dedup_parts d a b]
  exact dedup_congr d fun x => by simp only [List.mem_append]; constructor <;> (intro h; rcases h with h | h <;> simp_all)
theorem dedup_self (d f t : Int) (s : List Smp) : delS f t (dedupS d (delS f t (dedupS d s) ++ delS f t (dedupS d s))) = delS f t (dedupS d s) := by
  obtain ⟨w, hw⟩ : ∃ w, w = delS f t (dedupS d s) := ⟨_, rfl⟩
  have hsub : w.Sublist (dedupS d s) := by rw [hw]; exact List.filter_sublist
  have hup : w.Pairwise ltS := (dedup_strict d s).sublist hsub
  have hri : w.Pairwise (fun a b => ivl a.1 d < ivl b.1 d) := (dedup_rising d s).sublist hsub
  have hr : ∀ x ∈ w, rightS x = true := fun x hx => ((dedup_mem d s x).1 (hsub.subset hx)).1.2
  have e1 : dedupS d (w ++ w) = w := by
    rw [dedup_congr d (b := w) (fun x => by simp), dedupS_lasts, sortS_id hup hr, lasts_id d w hri]
  rw [← hw, e1, hw]
  unfold delS
  rw [List.filter_filter]
  simp
/-- Some are put together ahead. -/
theorem merge_ahead (d : Int) (g : List Int) (f : Int) (ll : List (List Pts)) (n : Nat) : mergeS d g f [mergeS d [] 0 (ll.take n), mergeS d g 0 (ll.drop n)] = mergeS d g f ll := by
  refine clean_ext (mergeS_clean _ _ _ _) (mergeS_clean _ _ _ _) fun k => ?_
  rw [merge_at, merge_at]
  by_cases hk : inR k = true
  · rw [if_pos hk, if_pos hk]
    have e : ([mergeS d [] 0 (ll.take n), mergeS d g 0 (ll.drop n)] : List (List Pts)).flatten = mergeS d [] 0 (ll.take n) ++ mergeS d g 0 (ll.drop n) := by simp
    have e2 : ll.flatten = (ll.take n).flatten ++ (ll.drop n).flatten := by rw [← List.flatten_append, List.take_append_drop]
    rw [e, ofL_append, merge_at, merge_at, if_pos hk, if_pos hk, e2, ofL_append]
    unfold foM
    by_cases hg : k ∈ g
    · rw [if_pos hg, if_pos hg]
    · rw [if_neg hg, if_neg hg, if_neg hg, if_neg (by simp), del_zero, del_zero, dedup_two]
  · rw [if_neg hk, if_neg hk]
/-- The order plays no part. -/
theorem merge_turn (d : Int) (g : List Int) (f : Int) (ll : List (List Pts)) : mergeS d g f ll.reverse = mergeS d g f ll := by
  refine clean_ext (mergeS_clean _ _ _ _) (mergeS_clean _ _ _ _) fun k => ?_
  rw [merge_at, merge_at]
  have hm : ∀ x, x ∈ ofL ll.reverse.flatten k ↔ x ∈ ofL ll.flatten k := fun x => by
    unfold ofL
    simp only [List.mem_flatMap, List.mem_filter, List.mem_flatten, List.mem_reverse]
  unfold foM
  rw [dedup_congr d hm]
/-- Twice is once. -/
theorem merge_twice (d : Int) (g : List Int) (f : Int) (ll : List (List Pts)) : mergeS d g f [mergeS d g f ll, mergeS d g f ll] = mergeS d g f ll := by
  refine clean_ext (mergeS_clean _ _ _ _) (mergeS_clean _ _ _ _) fun k => ?_
  rw [merge_at, merge_at]
  by_cases hk : inR k = true
  · rw [if_pos hk, if_pos hk]
    have e : ([mergeS d g f ll, mergeS d g f ll] : List (List Pts)).flatten = mergeS d g f ll ++ mergeS d g f ll := by simp
    rw [e, ofL_append, merge_at, if_pos hk]
    unfold foM
    by_cases hg : k ∈ g
    · simp only [if_pos hg]
    · simp only [if_neg hg]
      rw [dedup_self]
  · rw [if_neg hk, if_neg hk]
/-- What is left out, and what is ahead, is not told; all else is. -/
theorem merge_late (d : Int) (g : List Int) (f : Int) (l : List Pts) (k : Int) : sortS (ofL (mergeS d g f [l]) k) = if k ∈ g then [] else (sortS (ofL (mergeS d [] 0 [l]) k)).filter (fun x => decide (f ≤ x.1)) := by
  rw [clean_ofs (mergeS_clean _ _ _ _), clean_ofs (mergeS_clean _ _ _ _), merge_at, merge_at]
  by_cases hk : inR k = true
  · rw [if_pos hk, if_pos hk]
    unfold foM
    by_cases hg : k ∈ g
    · rw [if_pos hg, if_pos hg]
    · rw [if_neg hg, if_neg hg, if_neg (by simp), del_zero]
      unfold delS
      refine List.filter_congr fun x hx => ?_
      have h2 := rightS_bd ((dedup_mem d _ x).1 hx).1.2
      unfold outS
      have e2 : ¬ (1099511627776 : Int) < x.1 := by omega
      by_cases h : x.1 < f
      · have h3 : ¬ f ≤ x.1 := by omega
        simp [h, h3]
      · have h3 : f ≤ x.1 := by omega
        simp [h, h3, e2]
  · rw [if_neg hk, if_neg hk]
    simp
end Go.Proofs.YtkcipfmbkokfdaaGreatDoor
