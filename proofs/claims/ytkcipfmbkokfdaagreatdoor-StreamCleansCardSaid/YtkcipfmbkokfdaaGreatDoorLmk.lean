/-
  StreamMerges: any rows put together, in any way.
-/
import Derived.Test.YtkcipfmbkokfdaaGreatDoorAyk
import Derived.Test.YtkcipfmbkokfdaaGreatDoorAqk
import Derived.Test.YtkcipfmbkokfdaaGreatDoorRmk
import Derived.Test.YtkcipfmbkokfdaaGreatDoorQpk
import Derived.Deep.RegionHeld3
namespace Go.Proofs.YtkcipfmbkokfdaaGreatDoor
open Go.RowKit Go.Sort Go.Maps
attribute [local go_sem ↓] Go.wp_at_zero Go.wp_at_succ
theorem small_of {l : List Pts} (h1 : l.length ≤ 1000000) (h2 : manyL l ≤ 1000000) : SmallP l := ⟨h1, fun p hp => by have := many_mem hp; omega⟩
theorem few_bd {ll : List (List Pts)} (h : ll.length ≤ 10 ∧ cntL ll ≤ 150) : ll.length ≤ 10 ∧ ll.flatten.length ≤ 150 ∧ manyL ll.flatten ≤ 150 := by
  have := h.2
  unfold cntL at this
  exact ⟨h.1, by omega, by omega⟩
set_option maxRecDepth 100000 in
set_option maxHeartbeats 4000000 in
theorem merges_walk (d f : Int) (gv : Value) (g : List Int) (v : Value) (ll : List (List Pts)) (W : World) (T : Tabs W) (hG : RdZ W W.heap.size gv g) (_hgz : Nz gv) (hR : RdQ W W.heap.size v ll) (_hz : Nz v) (hwf : ∀ r ∈ ll, ∀ p ∈ r, (Lit.int .i64 p.1).wf = true) (hl : ll.length ≤ 140737488355327) (hs : ∀ l ∈ ll, SizR l) :
    Calls Tryz.prog 3 #[.agg #[.int .i64 d, gv, .int .i64 f], v] W fun e w' => e = .returned (.bool true) ∧ Below W.heap.size W w' := by
  obtain ⟨w0, hw0⟩ : ∃ w0, w0 = W.alloc (.cells #[.int .i64 d, gv, .int .i64 f] 24) := ⟨_, rfl⟩
  have hB0 : Below W.heap.size W w0 := by rw [hw0]; exact (Below.refl _ W).alloc (Nat.le_refl _) _
  have hT0 := T.below hB0
  have HAw := Lib.hid (awake16_walk w0 hT0)
  have hG0 := hG.on hB0
  have hR0 := hR.on hB0
  obtain ⟨bh, hbh⟩ : ∃ bh, bh = W.heap.size := ⟨_, rfl⟩
  have c0 : w0.cell? ⟨bh, 0, none⟩ = some (.int .i64 d) := by rw [hw0, hbh]; exact new_cell _ _ _ 0
  have c1 : w0.cell? ⟨bh, 1, none⟩ = some gv := by rw [hw0, hbh]; exact new_cell _ _ _ 1
  have c2 : w0.cell? ⟨bh, 2, none⟩ = some (.int .i64 f) := by rw [hw0, hbh]; exact new_cell _ _ _ 2
  have HC : Hid (∀ w', Below w0.heap.size w0 w' → w'.cell? ⟨bh, 0, none⟩ = some (.int .i64 d) ∧ w'.cell? ⟨bh, 1, none⟩ = some gv ∧ w'.cell? ⟨bh, 2, none⟩ = some (.int .i64 f)) := fun w' h => ⟨(h.cell (lt_of_cell c0)).trans c0, (h.cell (lt_of_cell c1)).trans c1, (h.cell (lt_of_cell c2)).trans c2⟩
  have HF : Hid (∀ w', Below w0.heap.size w0 w' → Calls Tryz.prog 10 #[v] w' fun e w'' => ∃ q, e = .returned (.bool q) ∧ Hid (q = true → ll.length ≤ 10 ∧ cntL ll ≤ 150) ∧ Below w'.heap.size w' w'') := fun w' h => few_walk v ll w' (hR0.on h).rdR hs hl
  have HM : Hid (∀ w', Below w0.heap.size w0 w' → g.length ≤ 50 → (ll.length ≤ 10 ∧ cntL ll ≤ 150) → Calls Tryz.prog 12 #[.agg #[.int .i64 d, gv, .int .i64 f], v] w' fun e w'' => ∃ r, e = .returned r ∧ RdP w'' w''.heap.size r (mergeS d g f ll) ∧ Below w'.heap.size w' w'') := fun w' h hg hb => by
    obtain ⟨b1, b2, b3⟩ := few_bd hb
    exact smerge_walk v ll d gv g f w' (hT0.below h) (hR0.on h).rdR (hG0.on h) (by omega) hwf (by omega) (by omega) (by omega)
  have HRM : Hid (∀ w', Below w0.heap.size w0 w' → g.length ≤ 50 → (ll.length ≤ 10 ∧ cntL ll ≤ 150) → Calls Tryz.prog 13 #[.int .i64 d, gv, .int .i64 f, v] w' fun e w'' => ∃ r, e = .returned r ∧ RdP w'' w''.heap.size r (mergeS d g f ll) ∧ Below w'.heap.size w' w'') := fun w' h hg hb => by
    obtain ⟨b1, b2, b3⟩ := few_bd hb
    exact rmerge_walk v ll d gv g f w' (hR0.on h) (hG0.on h) (by omega) (by omega) (by omega) (by omega)
  have HSm : Hid ((ll.length ≤ 10 ∧ cntL ll ≤ 150) → SmallP (mergeS d g f ll)) := fun hb => by
    obtain ⟨b1, b2, b3⟩ := few_bd hb
    have h1 := mergeS_length d g f ll
    have h2 := mergeS_many d g f ll
    exact small_of (by omega) (by omega)
  have HB0 := Lib.hid hB0
  obtain ⟨A1, k1, rfl, hk1, _⟩ := hG
  obtain ⟨A2, k2, rfl, hk2, _⟩ := hR
  obtain ⟨n, hn⟩ : ∃ n, n = g.length := ⟨_, rfl⟩
  obtain ⟨m, hm⟩ : ∃ m, m = ll.length := ⟨_, rfl⟩
  obtain ⟨M, hM⟩ : ∃ M, M = mergeS d g f ll := ⟨_, rfl⟩
  rw [← hn] at hk1 c1 HC HM HRM hw0 ⊢
  rw [← hm] at hk2 HF HM HRM HSm ⊢
  rw [← hM] at HM HRM HSm
  clear hwf hs hG0 hR0 hT0 T hB0 hn hm hM hl c0 c1 c2
  go_enter Tryz.func3, Tryz.ntmps3
  go_wp2_with fail
  rw [← hw0, ← hbh]
  clear hw0 hbh
  refine HAw.out.mono ?_; rintro e w1 ⟨rfl, hB1⟩
  have HB1 := Lib.hid hB1
  have KF := Lib.hid (HF.out w1 hB1)
  clear hB1 HAw HF
  go_wp2_with fail
  refine KF.out.mono ?_; rintro e w2 ⟨q, rfl, hq, hB2⟩
  have HB2 : Hid (Below w0.heap.size w0 w2) := HB1.out.trans (hB2.mono HB1.out.size)
  obtain ⟨c0, c1, c2⟩ := HC.out w2 HB2.out
  clear hB2 HB1 KF
  cases q with
  | false =>
    clear hq
    go_wp2_with fail
    go_ret
    exact ⟨rfl, HB0.out.trans (HB2.out.mono HB0.out.size)⟩
  | true =>
    have HQ := Lib.hid (hq.out rfl)
    clear hq
    by_cases hn50 : n ≤ 50
    · have g1 : ¬ (50 : Int) < (n : Int) := by omega
      have HM2 := Lib.hid (fun w' h => HM.out w' h hn50 HQ.out)
      have HR2 := Lib.hid (fun w' h => HRM.out w' h hn50 HQ.out)
      have HS2 := Lib.hid (HSm.out HQ.out)
      have hBB : Below w0.heap.size w0 w2 := HB2.out
      clear HM HRM HSm HQ
      go_wp2_with fail
      go_region_held3 (fun w' => w'.cell? ⟨bh, 0, none⟩ = some (.int .i64 d) ∧ w'.cell? ⟨bh, 1, none⟩ = some (.slice A1 n k1) ∧ w'.cell? ⟨bh, 2, none⟩ = some (.int .i64 f) ∧ Below w0.heap.size w0 w')
        (first | assumption | (have hd := Below.drew (by assumption : Below w0.heap.size w0 _); exact ⟨(HC.out _ hd).1, (HC.out _ hd).2.1, (HC.out _ hd).2.2, hd⟩) | exact ⟨by assumption, by assumption, by assumption, by assumption⟩)
        (first
          | (go_at_call 12; refine (HM2.out _ (by first | assumption | exact Below.drew (by assumption))).mono ?_; rintro e w3 ⟨r3, rfl, hr3, hb3⟩; have hN3 : Below w0.heap.size w0 w3 := Below.trans (by first | assumption | exact Below.drew (by assumption)) (hb3.mono (by first | exact HB2.out.size)); obtain ⟨c0', c1', c2'⟩ := HC.out _ hN3; have HR3 := Lib.hid hr3; clear hr3 hb3)
          | (go_at_call 13; refine (HR2.out _ hN3).mono ?_; rintro e w4 ⟨r4, rfl, hr4, hb4⟩; have hN4 : Below w0.heap.size w0 w4 := hN3.trans (hb4.mono hN3.size); obtain ⟨c0'', c1'', c2''⟩ := HC.out _ hN4; have KS := Lib.hid (sameP_walk r3 r4 M M w4 (HR3.out.on hb4) hr4 HS2.out); clear hr4 hb4)
          | (go_at_call 11; refine KS.out.mono ?_; rintro e w5 ⟨rfl, hE5⟩; have hN5 : Below w0.heap.size w0 w5 := hN4.trans (hE5.below.mono hN4.size); obtain ⟨d0, d1, d2⟩ := HC.out _ hN5; clear hE5))
      go_wp2_with fail
      go_ret
      exact ⟨ret_bool (by simp), HB0.out.trans (hN5.mono HB0.out.size)⟩
    · have g1 : (50 : Int) < (n : Int) := by omega
      go_wp2_with fail
      go_ret
      exact ⟨rfl, HB0.out.trans (HB2.out.mono HB0.out.size)⟩
end Go.Proofs.YtkcipfmbkokfdaaGreatDoor
