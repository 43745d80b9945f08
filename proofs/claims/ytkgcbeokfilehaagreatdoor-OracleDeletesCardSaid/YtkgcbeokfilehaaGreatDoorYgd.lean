/-
  eskerlaw20.OracleDeletes.
-/
import Derived.Test.YtkgcbeokfilehaaGreatDoorYcd
import Derived.Test.YtkgcbeokfilehaaGreatDoorYfd
namespace Go.Proofs.YtkgcbeokfilehaaGreatDoor
open Go.RowKit Go.Sort Go.Maps
set_option maxRecDepth 100000 in
set_option maxHeartbeats 8000000 in
theorem dels_law (v : Value) (l : List ActS) (fv : Value) (fs : List Fil) (lv : Value) (r : RowS) (W : World) (T : Tabs W)
    (hA : RdA W W.heap.size v l) (hz : Nz v) (hs : ∀ a ∈ l, a.rows.length ≤ 140737488355328 ∧ TxA a) (hlen : (l.length + 1) * 64 ≤ 140737488355328) (hF : RdF W W.heap.size fv fs) (hzf : Nz fv) (hfx : ∀ f ∈ fs, TxF f) (hRl : RdL W W.heap.size lv r.1) (hzl : Nz lv) (htx : TxL r.1) :
    Calls Tryz.prog 8 #[v, fv, vR lv r.2] W fun e w' => e = .returned (.bool true) ∧ Below W.heap.size W w' := by
  obtain ⟨rl, rt, rm, rx, rz⟩ := r
  simp only at *
  have HTX := Lib.hid (And.intro hfx htx)
  have HS := Lib.hid hs
  have HTB := Lib.hid T
  have HLEN := Lib.hid hlen
  unfold vR
  simp only
  have HA0 := Lib.hid hA
  have HZ := Lib.hid hz
  have HF := Lib.hid hF
  have HZF := Lib.hid hzf
  have HRL := Lib.hid hRl
  have HZL := Lib.hid hzl
  obtain ⟨A, c, rfl, hc, hAA⟩ := id hA
  obtain ⟨FA, fc, rfl, _, _⟩ := id hF
  obtain ⟨LA, lc, rfl, _, _⟩ := id hRl
  obtain ⟨n, hn⟩ : ∃ n, n = l.length := ⟨_, rfl⟩
  obtain ⟨fn, hfn⟩ : ∃ fn, fn = fs.length := ⟨_, rfl⟩
  obtain ⟨ln, hln⟩ : ∃ ln, ln = List.length rl := ⟨_, rfl⟩
  rw [← hn] at HA0 HZ HLEN ⊢
  rw [← hfn] at HF HZF ⊢
  rw [← hln] at HRL HZL ⊢
  obtain ⟨W1, hW1⟩ : ∃ W1, W1 = W.alloc (.cells #[.slice LA ln lc, .int .i64 rt, .int .i64 rm, .int .i64 rx, .int .i64 rz] 28) := ⟨_, rfl⟩
  have HB1 : Hid (Below W.heap.size W W1) := by show Below _ _ _; rw [hW1]; exact ((Ext.refl W).alloc _).below
  have hsz : W.heap.size < W1.heap.size := by rw [hW1]; simp
  have hbk : W1.heap[W.heap.size]? = some (.cells #[.slice LA ln lc, .int .i64 rt, .int .i64 rm, .int .i64 rx, .int .i64 rz] 28 (0, 0)) := by rw [hW1]; exact heap_alloc_new _ _
  have KC : Hid (∀ w' : World, w'.heap[W.heap.size]? = W1.heap[W.heap.size]? → (w'.cell? ⟨W.heap.size, 0, none⟩ = some (.slice LA ln lc) ∧ w'.cell? ⟨W.heap.size, 1, none⟩ = some (.int .i64 rt) ∧ w'.cell? ⟨W.heap.size, 2, none⟩ = some (.int .i64 rm) ∧ w'.cell? ⟨W.heap.size, 3, none⟩ = some (.int .i64 rx) ∧ w'.cell? ⟨W.heap.size, 4, none⟩ = some (.int .i64 rz))) := fun w h => by
    have q : ∀ i, w.cell? ⟨W.heap.size, i, none⟩ = (#[.slice LA ln lc, .int .i64 rt, .int .i64 rm, .int .i64 rx, .int .i64 rz] : Array Value)[i]? := fun i => by rw [cell_of_block h]; simp [World.cell?, hbk]
    exact ⟨q 0, q 1, q 2, q 3, q 4⟩
  have KW := Lib.hid (awake_walkO W1 (T.below HB1.out))
  have HAA := Lib.hid hAA
  have HN := Lib.hid hn
  have HFN := Lib.hid hfn
  have HLN := Lib.hid hln
  have HSZ := Lib.hid hsz
  clear T hA hz hs hF hzf hRl hzl hfx htx hlen hsz hbk hc hAA hn hfn hln
  go_enter Tryz.func8, Tryz.ntmps8
  go_wp2_with fail
  rw [← hW1]
  clear hW1
  refine KW.out.mono ?_
  rintro e w2 ⟨rfl, hB2⟩
  have HB2 : Hid (Below W.heap.size W w2) := HB1.out.trans (hB2.mono HB1.out.size)
  have HK2 : Hid (w2.heap[W.heap.size]? = W1.heap[W.heap.size]?) := hB2.block _ HSZ.out
  have HS2 : Hid (W.heap.size < w2.heap.size) := Nat.lt_of_lt_of_le HSZ.out hB2.size
  clear hB2 KW
  go_wp2_with fail
  obtain ⟨ls, hls, hll, hli⟩ := (((HA0.out.below HB2.out).mono HB2.out.size).raw HZ.out)
  have HBi : Hid (Below w2.heap.size w2 w2) := Below.refl _ _
  have HLS : Hid (∀ w', Below w2.heap.size w2 w' → RdG EA w' w'.heap.size (.slice A n c) ls) := fun w' h => (hls.below h).mono h.size
  have HLI : Hid (∀ w', Below w2.heap.size w2 w' → ∀ i (hi : i < l.length) (hj : i < ls.length), (ls[i]).is w' w'.heap.size l[i]) := fun w' h i h1 h2 => ((hli i h1 h2).below h).mono h.size
  have HLL : Hid (ls.length = l.length) := hll
  have hl64 : (ls.length + 1) * 64 ≤ 140737488355328 := by rw [hll, ← HN.out]; exact HLEN.out
  have KC3 : Hid (∀ w', Below w2.heap.size w2 w' → (w'.cell? ⟨W.heap.size, 0, none⟩ = some (.slice LA ln lc) ∧ w'.cell? ⟨W.heap.size, 1, none⟩ = some (.int .i64 rt) ∧ w'.cell? ⟨W.heap.size, 2, none⟩ = some (.int .i64 rm) ∧ w'.cell? ⟨W.heap.size, 3, none⟩ = some (.int .i64 rx) ∧ w'.cell? ⟨W.heap.size, 4, none⟩ = some (.int .i64 rz)) ∧ Below w2.heap.size w2 w') := fun w' h => ⟨KC.out w' ((h.block _ HS2.out).trans HK2.out), h⟩
  have HRX : Hid (∀ w', Below w2.heap.size w2 w' → RdL w' w'.heap.size (.slice LA ln lc) rl ∧ RdF w' w'.heap.size (.slice FA fn fc) fs) := fun w' h => by
    have h9 := HB2.out.trans (h.mono HB2.out.size)
    exact ⟨(HRL.out.below h9).mono h9.size, (HF.out.below h9).mono h9.size⟩
  have KF : Hid (∀ u w', Below w2.heap.size w2 w' → RdA w' w'.heap.size u (l ++ [⟨0, [(rl, (rt, rm, rx, rz))], fs, 0⟩]) → Calls Tryz.prog 10 #[u] w' fun e w'' => FewP (l ++ [⟨0, [(rl, (rt, rm, rx, rz))], fs, 0⟩]) e ∧ Below w2.heap.size w2 w'') := fun u w' h hu =>
    (few_walk u _ w' hu (fun a ha => by
      rcases List.mem_append.1 ha with ha | ha
      · exact (HS.out a ha).1
      · obtain rfl : a = ⟨0, [(rl, (rt, rm, rx, rz))], fs, 0⟩ := by simpa using ha
        simp)).mono fun e w'' ⟨k1, k2⟩ => ⟨k1, h.trans (k2.below.mono h.size)⟩
  clear hls hll hli
  obtain ⟨e0, e1, e2, e3, e4⟩ := (KC3.out w2.drew (Below.refl _ _).drew).1
  refine wp_region_held_drew (S := fun w' => (w'.cell? ⟨W.heap.size, 0, none⟩ = some (.slice LA ln lc) ∧ w'.cell? ⟨W.heap.size, 1, none⟩ = some (.int .i64 rt) ∧ w'.cell? ⟨W.heap.size, 2, none⟩ = some (.int .i64 rm) ∧ w'.cell? ⟨W.heap.size, 3, none⟩ = some (.int .i64 rx) ∧ w'.cell? ⟨W.heap.size, 4, none⟩ = some (.int .i64 rz)) ∧ Below w2.heap.size w2 w') (by kernel_rfl) ?_ (fun hHeld => ?_)
  · (try dsimp only)
    exact KC3.out _ (Below.refl _ _).drew
  refine takeW (i := 1) (v := ?_) rfl (by kernel_rfl) (by kernel_rfl) (by kernel_rfl) (fun _ _ _ h => h) (by rfl) ?_ (by assumption) ?_
  rotate_left
  · (intro w hSw; (try dsimp only at hSw); go_simp; try with_reducible rfl)
  simp only [Act.put, sA, sZ, sS]
  refine takeW (i := 3) (v := ?_) rfl (by kernel_rfl) (by kernel_rfl) (by kernel_rfl) (fun _ _ _ h => h) (by rfl) ?_ (by assumption) ?_
  rotate_left
  · (intro w hSw; (try dsimp only at hSw); go_simp; try with_reducible rfl)
  simp only [Act.put, sA, sZ, sS]
  refine takeW (i := 4) (v := ?_) rfl (by kernel_rfl) (by kernel_rfl) (by kernel_rfl) (fun _ _ _ h => h) (by rfl) ?_ (by assumption) ?_
  rotate_left
  · (intro w hSw; (try dsimp only at hSw); go_simp; try with_reducible rfl)
  simp only [Act.put, sA, sZ, sS]
  clear e0 e1 e2 e3 e4
  apply share6 (fun _ _ _ _ vD w9 => Below w2.heap.size w2 w9 ∧ RdA w9 w9.heap.size vD (l ++ [⟨0, [(rl, (rt, rm, rx, rz))], fs, 0⟩]))
  · intro KE
    refine wpAnyH_ready (rs := [0, 5]) (by kernel_rfl) (by simp) (AllReadyH.cons (get_drop (i := 0) rfl) (fun K hK => ?_) (AllReadyH.cons (get_drop (i := 5) rfl) (fun K hK => ?_) AllReadyH.nil))
    · rw [if_pos (by rfl)]
      go_simp
      obtain ⟨wq1, hwwq1⟩ : ∃ w, w = (w2.alloc (.cells #[] 34)).drew := ⟨_, rfl⟩
      obtain ⟨gA, hgA⟩ : ∃ g, g = w2.heap.size := ⟨_, rfl⟩
      have hx1 : Below w2.heap.size w2 wq1 := by
        rw [hwwq1]
        exact ((Below.refl _ _).alloc (Nat.le_refl _) _).drew
      have hbq1 : Hid (Below w2.heap.size w2 wq1) := HBi.out.trans (hx1.mono HBi.out.size)
      have hkgA : Hid (wq1.heap[gA]? = some (.cells #[] 34 (0, 0))) := by
        show _ = _
        rw [hwwq1, hgA]
        exact heap_alloc_new _ _
      have hOwn : Hid (OwnG EA 34 wq1 w2.heap.size (.slice (some ⟨gA, 0, none⟩) 0 0) []) := by
        show OwnG _ _ _ _ _ _
        rw [hwwq1, hgA]
        exact World.ownsRow_made w2 #[] 0 HBi.out.size (Nat.zero_le _) rfl
      rw [← hwwq1, ← hgA]
      clear hwwq1 hgA hx1
      refine hK.out _ _ ?_ (fun hHeld => ?_)
      · (try dsimp only)
        exact KC3.out _ hbq1.out
      clear hK K
      try simp only [Act.put, sA, sZ, sS]
      refine wpAnyH_ready (rs := [2, 5]) (by kernel_rfl) (by simp) (AllReadyH.cons (get_drop (i := 2) rfl) (fun K hK => ?_) (AllReadyH.cons (get_drop (i := 5) rfl) (fun K hK => ?_) AllReadyH.nil))
      · rw [if_pos (by rfl)]
        refine addNG EA _ _ 35 34 rfl Tryz.underlying35 info_Act rfl (by decide) w2.heap.size _ [] _ ls _ rfl hOwn.out rfl (HLS.out _ hbq1.out) (by have := hl64; simp; omega) hbq1.out.size (fun vB wq2 hown hg => ?_)
        have hbq2 : Hid (Below w2.heap.size w2 wq2) := hOwn.out.step hbq1.out hbq1.out.size hg
        clear hOwn
        have hOwn : Hid (OwnG EA 34 wq2 w2.heap.size vB (ls)) := hown
        clear hown hg
        refine hK.out _ _ ?_ (fun hHeld => ?_)
        · (try dsimp only)
          exact KC3.out _ hbq2.out
        clear hK K
        try simp only [Act.put, sA, sZ, sS]
        refine takeC (i := 5) rfl (by kernel_rfl) (by rfl) (fun K hK => ?_)
        go_simp
        obtain ⟨wq3, hwwq3⟩ : ∃ w, w = (wq2.alloc (.cells #[.slice LA ln lc, .int .i64 rt, .int .i64 rm, .int .i64 rx, .int .i64 rz] 28)) := ⟨_, rfl⟩
        obtain ⟨gX, hgX⟩ : ∃ g, g = wq2.heap.size := ⟨_, rfl⟩
        have hx3 : Below wq2.heap.size wq2 wq3 := by
          rw [hwwq3]
          exact ((Below.refl _ _).alloc (Nat.le_refl _) _)
        have hbq3 : Hid (Below w2.heap.size w2 wq3) := hbq2.out.trans (hx3.mono hbq2.out.size)
        have hkgX : Hid (wq3.heap[gX]? = some (.cells #[.slice LA ln lc, .int .i64 rt, .int .i64 rm, .int .i64 rx, .int .i64 rz] 28 (0, 0))) := by
          show _ = _
          rw [hwwq3, hgX]
          exact heap_alloc_new _ _
        replace hOwn : Hid (OwnG EA 34 wq3 w2.heap.size vB (ls)) := by
          show OwnG _ _ _ _ _ _
          rw [hwwq3]
          exact hOwn.out.alloc _
        rw [← hwwq3, ← hgX]
        clear hwwq3 hgX hx3
        refine hK.out _ _ ?_ (fun hHeld => ?_)
        · (try dsimp only)
          exact KC3.out _ hbq3.out
        clear hK K
        try simp only [Act.put, sA, sZ, sS]
        refine takeW (i := 6) (v := ?_) rfl (by kernel_rfl) (by kernel_rfl) (by kernel_rfl) (fun _ _ _ h => h) (by rfl) ?_ (by assumption) ?_
        rotate_left
        · (intro w hSw; (try dsimp only at hSw); go_simp; try with_reducible rfl)
        simp only [Act.put, sA, sZ, sS]
        refine takeC (i := 7) rfl (by kernel_rfl) (by rfl) (fun K hK => ?_)
        go_simp
        obtain ⟨wq4, hwwq4⟩ : ∃ w, w = (wq3.alloc (.cells #[.int .i64 0, .slice (some ⟨gX, 0, none⟩) 1 1, .slice FA fn fc, .int .i64 0] 34)) := ⟨_, rfl⟩
        obtain ⟨gC, hgC⟩ : ∃ g, g = wq3.heap.size := ⟨_, rfl⟩
        have hx4 : Below wq3.heap.size wq3 wq4 := by
          rw [hwwq4]
          exact ((Below.refl _ _).alloc (Nat.le_refl _) _)
        have hbq4 : Hid (Below w2.heap.size w2 wq4) := hbq3.out.trans (hx4.mono hbq3.out.size)
        have hkgC : Hid (wq4.heap[gC]? = some (.cells #[.int .i64 0, .slice (some ⟨gX, 0, none⟩) 1 1, .slice FA fn fc, .int .i64 0] 34 (0, 0))) := by
          show _ = _
          rw [hwwq4, hgC]
          exact heap_alloc_new _ _
        have hlgX : gX < wq3.heap.size := (Array.getElem?_eq_some_iff.1 hkgX.out).1
        have hngXgC : Hid (gX ≠ gC) := by show _ ≠ _; omega
        replace hkgX : Hid (wq4.heap[gX]? = some (.cells #[.slice LA ln lc, .int .i64 rt, .int .i64 rm, .int .i64 rx, .int .i64 rz] 28 (0, 0))) := by
          show _ = _
          rw [hx4.block _ hlgX]
          exact hkgX.out
        clear hlgX
        replace hOwn : Hid (OwnG EA 34 wq4 w2.heap.size vB (ls)) := by
          show OwnG _ _ _ _ _ _
          rw [hwwq4]
          exact hOwn.out.alloc _
        rw [← hwwq4, ← hgC]
        clear hwwq4 hgC hx4
        refine hK.out _ _ ?_ (fun hHeld => ?_)
        · (try dsimp only)
          exact KC3.out _ hbq4.out
        clear hK K
        try simp only [Act.put, sA, sZ, sS]
        refine takeC (i := 8) rfl (by kernel_rfl) (by rfl) (fun K hK => ?_)
        have hRC : RdG EA wq4 wq4.heap.size (.slice (some ⟨gC, 0, none⟩) 1 1) [(⟨0, some ⟨gX, 0, none⟩, 1, 1, FA, fn, fc, 0⟩ : ActC)] := RdG.one (cellG_block hkgC.out rfl) (Array.getElem?_eq_some_iff.1 hkgC.out).1
        refine addNG EA _ _ 35 34 rfl Tryz.underlying35 info_Act rfl (by decide) w2.heap.size _ (ls) _ [(⟨0, some ⟨gX, 0, none⟩, 1, 1, FA, fn, fc, 0⟩ : ActC)] _ rfl hOwn.out rfl hRC (by have := hl64; simp; omega) hbq4.out.size (fun vD wq5 hown hg => ?_)
        have hbq5 : Hid (Below w2.heap.size w2 wq5) := hOwn.out.step hbq4.out hbq4.out.size hg
        replace hkgX : Hid (wq5.heap[gX]? = some (.cells #[.slice LA ln lc, .int .i64 rt, .int .i64 rm, .int .i64 rx, .int .i64 rz] 28 (0, 0))) := by
          show _ = _
          rw [hg.block _ (Array.getElem?_eq_some_iff.1 hkgX.out).1 (own_tag hOwn.out hkgX.out (by decide))]
          exact hkgX.out
        have hRD : RdG EA wq5 wq5.heap.size vD (ls ++ [(⟨0, some ⟨gX, 0, none⟩, 1, 1, FA, fn, fc, 0⟩ : ActC)]) := hown.rd
        clear hOwn hown hg hRC
        refine hK.out _ _ ?_ (fun hHeld => ?_)
        · (try dsimp only)
          exact KC3.out _ hbq5.out
        clear hK K
        try simp only [Act.put, sA, sZ, sS]
        have hacts := acts_snoc (r := (rl, (rt, rm, rx, rz))) hRD HLL.out (HLI.out _ hbq5.out) hkgX.out (Array.getElem?_eq_some_iff.1 hkgX.out).1 (HRX.out _ hbq5.out).1 HZL.out (HRX.out _ hbq5.out).2 HZF.out
        obtain ⟨vA, hvA⟩ : ∃ v : Value, v = .slice (some ⟨gA, 0, none⟩) 0 0 := ⟨_, rfl⟩
        obtain ⟨vX, hvX⟩ : ∃ v : Value, v = .slice (some ⟨gX, 0, none⟩) 1 1 := ⟨_, rfl⟩
        obtain ⟨vC, hvC⟩ : ∃ v : Value, v = .slice (some ⟨gC, 0, none⟩) 1 1 := ⟨_, rfl⟩
        rw [← hvA, ← hvX, ← hvC]
        exact KE vA vB vX vC vD wq5 ⟨hbq5.out, hacts⟩
      · rw [if_pos (by rfl)]
        go_simp
        obtain ⟨wq2, hwwq2⟩ : ∃ w, w = (wq1.alloc (.cells #[.slice LA ln lc, .int .i64 rt, .int .i64 rm, .int .i64 rx, .int .i64 rz] 28)) := ⟨_, rfl⟩
        obtain ⟨gX, hgX⟩ : ∃ g, g = wq1.heap.size := ⟨_, rfl⟩
        have hx2 : Below wq1.heap.size wq1 wq2 := by
          rw [hwwq2]
          exact ((Below.refl _ _).alloc (Nat.le_refl _) _)
        have hbq2 : Hid (Below w2.heap.size w2 wq2) := hbq1.out.trans (hx2.mono hbq1.out.size)
        have hkgX : Hid (wq2.heap[gX]? = some (.cells #[.slice LA ln lc, .int .i64 rt, .int .i64 rm, .int .i64 rx, .int .i64 rz] 28 (0, 0))) := by
          show _ = _
          rw [hwwq2, hgX]
          exact heap_alloc_new _ _
        have hlgA : gA < wq1.heap.size := (Array.getElem?_eq_some_iff.1 hkgA.out).1
        have hngAgX : Hid (gA ≠ gX) := by show _ ≠ _; omega
        replace hkgA : Hid (wq2.heap[gA]? = some (.cells #[] 34 (0, 0))) := by
          show _ = _
          rw [hx2.block _ hlgA]
          exact hkgA.out
        clear hlgA
        replace hOwn : Hid (OwnG EA 34 wq2 w2.heap.size (.slice (some ⟨gA, 0, none⟩) 0 0) ([])) := by
          show OwnG _ _ _ _ _ _
          rw [hwwq2]
          exact hOwn.out.alloc _
        rw [← hwwq2, ← hgX]
        clear hwwq2 hgX hx2
        refine hK.out _ _ ?_ (fun hHeld => ?_)
        · (try dsimp only)
          exact KC3.out _ hbq2.out
        clear hK K
        try simp only [Act.put, sA, sZ, sS]
        refine takeW (i := 6) (v := ?_) rfl (by kernel_rfl) (by kernel_rfl) (by kernel_rfl) (fun _ _ _ h => h) (by rfl) ?_ (by assumption) ?_
        rotate_left
        · (intro w hSw; (try dsimp only at hSw); go_simp; try with_reducible rfl)
        simp only [Act.put, sA, sZ, sS]
        refine wpAnyH_ready (rs := [2, 7]) (by kernel_rfl) (by simp) (AllReadyH.cons (get_drop (i := 2) rfl) (fun K hK => ?_) (AllReadyH.cons (get_drop (i := 7) rfl) (fun K hK => ?_) AllReadyH.nil))
        · rw [if_pos (by rfl)]
          refine addNG EA _ _ 35 34 rfl Tryz.underlying35 info_Act rfl (by decide) w2.heap.size _ [] _ ls _ rfl hOwn.out rfl (HLS.out _ hbq2.out) (by have := hl64; simp; omega) hbq2.out.size (fun vB wq3 hown hg => ?_)
          have hbq3 : Hid (Below w2.heap.size w2 wq3) := hOwn.out.step hbq2.out hbq2.out.size hg
          replace hkgX : Hid (wq3.heap[gX]? = some (.cells #[.slice LA ln lc, .int .i64 rt, .int .i64 rm, .int .i64 rx, .int .i64 rz] 28 (0, 0))) := by
            show _ = _
            have hg' : wq2.grownBy wq3 (some gA) := hg
            rw [hg'.block _ (Array.getElem?_eq_some_iff.1 hkgX.out).1 (fun e => by first | exact hngXgA.out (Option.some.inj e) | exact hngAgX.out (Option.some.inj e).symm)]
            exact hkgX.out
          clear hOwn
          have hOwn : Hid (OwnG EA 34 wq3 w2.heap.size vB (ls)) := hown
          clear hown hg
          refine hK.out _ _ ?_ (fun hHeld => ?_)
          · (try dsimp only)
            exact KC3.out _ hbq3.out
          clear hK K
          try simp only [Act.put, sA, sZ, sS]
          refine takeC (i := 7) rfl (by kernel_rfl) (by rfl) (fun K hK => ?_)
          go_simp
          obtain ⟨wq4, hwwq4⟩ : ∃ w, w = (wq3.alloc (.cells #[.int .i64 0, .slice (some ⟨gX, 0, none⟩) 1 1, .slice FA fn fc, .int .i64 0] 34)) := ⟨_, rfl⟩
          obtain ⟨gC, hgC⟩ : ∃ g, g = wq3.heap.size := ⟨_, rfl⟩
          have hx4 : Below wq3.heap.size wq3 wq4 := by
            rw [hwwq4]
            exact ((Below.refl _ _).alloc (Nat.le_refl _) _)
          have hbq4 : Hid (Below w2.heap.size w2 wq4) := hbq3.out.trans (hx4.mono hbq3.out.size)
          have hkgC : Hid (wq4.heap[gC]? = some (.cells #[.int .i64 0, .slice (some ⟨gX, 0, none⟩) 1 1, .slice FA fn fc, .int .i64 0] 34 (0, 0))) := by
            show _ = _
            rw [hwwq4, hgC]
            exact heap_alloc_new _ _
          have hlgX : gX < wq3.heap.size := (Array.getElem?_eq_some_iff.1 hkgX.out).1
          have hngXgC : Hid (gX ≠ gC) := by show _ ≠ _; omega
          replace hkgX : Hid (wq4.heap[gX]? = some (.cells #[.slice LA ln lc, .int .i64 rt, .int .i64 rm, .int .i64 rx, .int .i64 rz] 28 (0, 0))) := by
            show _ = _
            rw [hx4.block _ hlgX]
            exact hkgX.out
          clear hlgX
          replace hOwn : Hid (OwnG EA 34 wq4 w2.heap.size vB (ls)) := by
            show OwnG _ _ _ _ _ _
            rw [hwwq4]
            exact hOwn.out.alloc _
          rw [← hwwq4, ← hgC]
          clear hwwq4 hgC hx4
          refine hK.out _ _ ?_ (fun hHeld => ?_)
          · (try dsimp only)
            exact KC3.out _ hbq4.out
          clear hK K
          try simp only [Act.put, sA, sZ, sS]
          refine takeC (i := 8) rfl (by kernel_rfl) (by rfl) (fun K hK => ?_)
          have hRC : RdG EA wq4 wq4.heap.size (.slice (some ⟨gC, 0, none⟩) 1 1) [(⟨0, some ⟨gX, 0, none⟩, 1, 1, FA, fn, fc, 0⟩ : ActC)] := RdG.one (cellG_block hkgC.out rfl) (Array.getElem?_eq_some_iff.1 hkgC.out).1
          refine addNG EA _ _ 35 34 rfl Tryz.underlying35 info_Act rfl (by decide) w2.heap.size _ (ls) _ [(⟨0, some ⟨gX, 0, none⟩, 1, 1, FA, fn, fc, 0⟩ : ActC)] _ rfl hOwn.out rfl hRC (by have := hl64; simp; omega) hbq4.out.size (fun vD wq5 hown hg => ?_)
          have hbq5 : Hid (Below w2.heap.size w2 wq5) := hOwn.out.step hbq4.out hbq4.out.size hg
          replace hkgX : Hid (wq5.heap[gX]? = some (.cells #[.slice LA ln lc, .int .i64 rt, .int .i64 rm, .int .i64 rx, .int .i64 rz] 28 (0, 0))) := by
            show _ = _
            rw [hg.block _ (Array.getElem?_eq_some_iff.1 hkgX.out).1 (own_tag hOwn.out hkgX.out (by decide))]
            exact hkgX.out
          have hRD : RdG EA wq5 wq5.heap.size vD (ls ++ [(⟨0, some ⟨gX, 0, none⟩, 1, 1, FA, fn, fc, 0⟩ : ActC)]) := hown.rd
          clear hOwn hown hg hRC
          refine hK.out _ _ ?_ (fun hHeld => ?_)
          · (try dsimp only)
            exact KC3.out _ hbq5.out
          clear hK K
          try simp only [Act.put, sA, sZ, sS]
          have hacts := acts_snoc (r := (rl, (rt, rm, rx, rz))) hRD HLL.out (HLI.out _ hbq5.out) hkgX.out (Array.getElem?_eq_some_iff.1 hkgX.out).1 (HRX.out _ hbq5.out).1 HZL.out (HRX.out _ hbq5.out).2 HZF.out
          obtain ⟨vA, hvA⟩ : ∃ v : Value, v = .slice (some ⟨gA, 0, none⟩) 0 0 := ⟨_, rfl⟩
          obtain ⟨vX, hvX⟩ : ∃ v : Value, v = .slice (some ⟨gX, 0, none⟩) 1 1 := ⟨_, rfl⟩
          obtain ⟨vC, hvC⟩ : ∃ v : Value, v = .slice (some ⟨gC, 0, none⟩) 1 1 := ⟨_, rfl⟩
          rw [← hvA, ← hvX, ← hvC]
          exact KE vA vB vX vC vD wq5 ⟨hbq5.out, hacts⟩
        · rw [if_pos (by rfl)]
          go_simp
          obtain ⟨wq3, hwwq3⟩ : ∃ w, w = (wq2.alloc (.cells #[.int .i64 0, .slice (some ⟨gX, 0, none⟩) 1 1, .slice FA fn fc, .int .i64 0] 34)) := ⟨_, rfl⟩
          obtain ⟨gC, hgC⟩ : ∃ g, g = wq2.heap.size := ⟨_, rfl⟩
          have hx3 : Below wq2.heap.size wq2 wq3 := by
            rw [hwwq3]
            exact ((Below.refl _ _).alloc (Nat.le_refl _) _)
          have hbq3 : Hid (Below w2.heap.size w2 wq3) := hbq2.out.trans (hx3.mono hbq2.out.size)
          have hkgC : Hid (wq3.heap[gC]? = some (.cells #[.int .i64 0, .slice (some ⟨gX, 0, none⟩) 1 1, .slice FA fn fc, .int .i64 0] 34 (0, 0))) := by
            show _ = _
            rw [hwwq3, hgC]
            exact heap_alloc_new _ _
          have hlgA : gA < wq2.heap.size := (Array.getElem?_eq_some_iff.1 hkgA.out).1
          have hngAgC : Hid (gA ≠ gC) := by show _ ≠ _; omega
          replace hkgA : Hid (wq3.heap[gA]? = some (.cells #[] 34 (0, 0))) := by
            show _ = _
            rw [hx3.block _ hlgA]
            exact hkgA.out
          clear hlgA
          have hlgX : gX < wq2.heap.size := (Array.getElem?_eq_some_iff.1 hkgX.out).1
          have hngXgC : Hid (gX ≠ gC) := by show _ ≠ _; omega
          replace hkgX : Hid (wq3.heap[gX]? = some (.cells #[.slice LA ln lc, .int .i64 rt, .int .i64 rm, .int .i64 rx, .int .i64 rz] 28 (0, 0))) := by
            show _ = _
            rw [hx3.block _ hlgX]
            exact hkgX.out
          clear hlgX
          replace hOwn : Hid (OwnG EA 34 wq3 w2.heap.size (.slice (some ⟨gA, 0, none⟩) 0 0) ([])) := by
            show OwnG _ _ _ _ _ _
            rw [hwwq3]
            exact hOwn.out.alloc _
          rw [← hwwq3, ← hgC]
          clear hwwq3 hgC hx3
          refine hK.out _ _ ?_ (fun hHeld => ?_)
          · (try dsimp only)
            exact KC3.out _ hbq3.out
          clear hK K
          try simp only [Act.put, sA, sZ, sS]
          refine takeC (i := 2) rfl (by kernel_rfl) (by rfl) (fun K hK => ?_)
          refine addNG EA _ _ 35 34 rfl Tryz.underlying35 info_Act rfl (by decide) w2.heap.size _ [] _ ls _ rfl hOwn.out rfl (HLS.out _ hbq3.out) (by have := hl64; simp; omega) hbq3.out.size (fun vB wq4 hown hg => ?_)
          have hbq4 : Hid (Below w2.heap.size w2 wq4) := hOwn.out.step hbq3.out hbq3.out.size hg
          replace hkgX : Hid (wq4.heap[gX]? = some (.cells #[.slice LA ln lc, .int .i64 rt, .int .i64 rm, .int .i64 rx, .int .i64 rz] 28 (0, 0))) := by
            show _ = _
            have hg' : wq3.grownBy wq4 (some gA) := hg
            rw [hg'.block _ (Array.getElem?_eq_some_iff.1 hkgX.out).1 (fun e => by first | exact hngXgA.out (Option.some.inj e) | exact hngAgX.out (Option.some.inj e).symm)]
            exact hkgX.out
          replace hkgC : Hid (wq4.heap[gC]? = some (.cells #[.int .i64 0, .slice (some ⟨gX, 0, none⟩) 1 1, .slice FA fn fc, .int .i64 0] 34 (0, 0))) := by
            show _ = _
            have hg' : wq3.grownBy wq4 (some gA) := hg
            rw [hg'.block _ (Array.getElem?_eq_some_iff.1 hkgC.out).1 (fun e => by first | exact hngCgA.out (Option.some.inj e) | exact hngAgC.out (Option.some.inj e).symm)]
            exact hkgC.out
          clear hOwn
          have hOwn : Hid (OwnG EA 34 wq4 w2.heap.size vB (ls)) := hown
          clear hown hg
          refine hK.out _ _ ?_ (fun hHeld => ?_)
          · (try dsimp only)
            exact KC3.out _ hbq4.out
          clear hK K
          try simp only [Act.put, sA, sZ, sS]
          refine takeC (i := 8) rfl (by kernel_rfl) (by rfl) (fun K hK => ?_)
          have hRC : RdG EA wq4 wq4.heap.size (.slice (some ⟨gC, 0, none⟩) 1 1) [(⟨0, some ⟨gX, 0, none⟩, 1, 1, FA, fn, fc, 0⟩ : ActC)] := RdG.one (cellG_block hkgC.out rfl) (Array.getElem?_eq_some_iff.1 hkgC.out).1
          refine addNG EA _ _ 35 34 rfl Tryz.underlying35 info_Act rfl (by decide) w2.heap.size _ (ls) _ [(⟨0, some ⟨gX, 0, none⟩, 1, 1, FA, fn, fc, 0⟩ : ActC)] _ rfl hOwn.out rfl hRC (by have := hl64; simp; omega) hbq4.out.size (fun vD wq5 hown hg => ?_)
          have hbq5 : Hid (Below w2.heap.size w2 wq5) := hOwn.out.step hbq4.out hbq4.out.size hg
          replace hkgX : Hid (wq5.heap[gX]? = some (.cells #[.slice LA ln lc, .int .i64 rt, .int .i64 rm, .int .i64 rx, .int .i64 rz] 28 (0, 0))) := by
            show _ = _
            rw [hg.block _ (Array.getElem?_eq_some_iff.1 hkgX.out).1 (own_tag hOwn.out hkgX.out (by decide))]
            exact hkgX.out
          have hRD : RdG EA wq5 wq5.heap.size vD (ls ++ [(⟨0, some ⟨gX, 0, none⟩, 1, 1, FA, fn, fc, 0⟩ : ActC)]) := hown.rd
          clear hOwn hown hg hRC
          refine hK.out _ _ ?_ (fun hHeld => ?_)
          · (try dsimp only)
            exact KC3.out _ hbq5.out
          clear hK K
          try simp only [Act.put, sA, sZ, sS]
          have hacts := acts_snoc (r := (rl, (rt, rm, rx, rz))) hRD HLL.out (HLI.out _ hbq5.out) hkgX.out (Array.getElem?_eq_some_iff.1 hkgX.out).1 (HRX.out _ hbq5.out).1 HZL.out (HRX.out _ hbq5.out).2 HZF.out
          obtain ⟨vA, hvA⟩ : ∃ v : Value, v = .slice (some ⟨gA, 0, none⟩) 0 0 := ⟨_, rfl⟩
          obtain ⟨vX, hvX⟩ : ∃ v : Value, v = .slice (some ⟨gX, 0, none⟩) 1 1 := ⟨_, rfl⟩
          obtain ⟨vC, hvC⟩ : ∃ v : Value, v = .slice (some ⟨gC, 0, none⟩) 1 1 := ⟨_, rfl⟩
          rw [← hvA, ← hvX, ← hvC]
          exact KE vA vB vX vC vD wq5 ⟨hbq5.out, hacts⟩
    · rw [if_pos (by rfl)]
      go_simp
      obtain ⟨wq1, hwwq1⟩ : ∃ w, w = (w2.alloc (.cells #[.slice LA ln lc, .int .i64 rt, .int .i64 rm, .int .i64 rx, .int .i64 rz] 28)).drew := ⟨_, rfl⟩
      obtain ⟨gX, hgX⟩ : ∃ g, g = w2.heap.size := ⟨_, rfl⟩
      have hx1 : Below w2.heap.size w2 wq1 := by
        rw [hwwq1]
        exact ((Below.refl _ _).alloc (Nat.le_refl _) _).drew
      have hbq1 : Hid (Below w2.heap.size w2 wq1) := HBi.out.trans (hx1.mono HBi.out.size)
      have hkgX : Hid (wq1.heap[gX]? = some (.cells #[.slice LA ln lc, .int .i64 rt, .int .i64 rm, .int .i64 rx, .int .i64 rz] 28 (0, 0))) := by
        show _ = _
        rw [hwwq1, hgX]
        exact heap_alloc_new _ _
      rw [← hwwq1, ← hgX]
      clear hwwq1 hgX hx1
      refine hK.out _ _ ?_ (fun hHeld => ?_)
      · (try dsimp only)
        exact KC3.out _ hbq1.out
      clear hK K
      try simp only [Act.put, sA, sZ, sS]
      refine takeW (i := 6) (v := ?_) rfl (by kernel_rfl) (by kernel_rfl) (by kernel_rfl) (fun _ _ _ h => h) (by rfl) ?_ (by assumption) ?_
      rotate_left
      · (intro w hSw; (try dsimp only at hSw); go_simp; try with_reducible rfl)
      simp only [Act.put, sA, sZ, sS]
      refine wpAnyH_ready (rs := [0, 7]) (by kernel_rfl) (by simp) (AllReadyH.cons (get_drop (i := 0) rfl) (fun K hK => ?_) (AllReadyH.cons (get_drop (i := 7) rfl) (fun K hK => ?_) AllReadyH.nil))
      · rw [if_pos (by rfl)]
        go_simp
        obtain ⟨wq2, hwwq2⟩ : ∃ w, w = (wq1.alloc (.cells #[] 34)) := ⟨_, rfl⟩
        obtain ⟨gA, hgA⟩ : ∃ g, g = wq1.heap.size := ⟨_, rfl⟩
        have hx2 : Below wq1.heap.size wq1 wq2 := by
          rw [hwwq2]
          exact ((Below.refl _ _).alloc (Nat.le_refl _) _)
        have hbq2 : Hid (Below w2.heap.size w2 wq2) := hbq1.out.trans (hx2.mono hbq1.out.size)
        have hkgA : Hid (wq2.heap[gA]? = some (.cells #[] 34 (0, 0))) := by
          show _ = _
          rw [hwwq2, hgA]
          exact heap_alloc_new _ _
        have hlgX : gX < wq1.heap.size := (Array.getElem?_eq_some_iff.1 hkgX.out).1
        have hngXgA : Hid (gX ≠ gA) := by show _ ≠ _; omega
        replace hkgX : Hid (wq2.heap[gX]? = some (.cells #[.slice LA ln lc, .int .i64 rt, .int .i64 rm, .int .i64 rx, .int .i64 rz] 28 (0, 0))) := by
          show _ = _
          rw [hx2.block _ hlgX]
          exact hkgX.out
        clear hlgX
        have hOwn : Hid (OwnG EA 34 wq2 w2.heap.size (.slice (some ⟨gA, 0, none⟩) 0 0) []) := by
          show OwnG _ _ _ _ _ _
          rw [hwwq2, hgA]
          exact World.ownsRow_made wq1 #[] 0 hbq1.out.size (Nat.zero_le _) rfl
        rw [← hwwq2, ← hgA]
        clear hwwq2 hgA hx2
        refine hK.out _ _ ?_ (fun hHeld => ?_)
        · (try dsimp only)
          exact KC3.out _ hbq2.out
        clear hK K
        try simp only [Act.put, sA, sZ, sS]
        refine wpAnyH_ready (rs := [2, 7]) (by kernel_rfl) (by simp) (AllReadyH.cons (get_drop (i := 2) rfl) (fun K hK => ?_) (AllReadyH.cons (get_drop (i := 7) rfl) (fun K hK => ?_) AllReadyH.nil))
        · rw [if_pos (by rfl)]
          refine addNG EA _ _ 35 34 rfl Tryz.underlying35 info_Act rfl (by decide) w2.heap.size _ [] _ ls _ rfl hOwn.out rfl (HLS.out _ hbq2.out) (by have := hl64; simp; omega) hbq2.out.size (fun vB wq3 hown hg => ?_)
          have hbq3 : Hid (Below w2.heap.size w2 wq3) := hOwn.out.step hbq2.out hbq2.out.size hg
          replace hkgX : Hid (wq3.heap[gX]? = some (.cells #[.slice LA ln lc, .int .i64 rt, .int .i64 rm, .int .i64 rx, .int .i64 rz] 28 (0, 0))) := by
            show _ = _
            have hg' : wq2.grownBy wq3 (some gA) := hg
            rw [hg'.block _ (Array.getElem?_eq_some_iff.1 hkgX.out).1 (fun e => by first | exact hngXgA.out (Option.some.inj e) | exact hngAgX.out (Option.some.inj e).symm)]
            exact hkgX.out
          clear hOwn
          have hOwn : Hid (OwnG EA 34 wq3 w2.heap.size vB (ls)) := hown
          clear hown hg
          refine hK.out _ _ ?_ (fun hHeld => ?_)
          · (try dsimp only)
            exact KC3.out _ hbq3.out
          clear hK K
          try simp only [Act.put, sA, sZ, sS]
          refine takeC (i := 7) rfl (by kernel_rfl) (by rfl) (fun K hK => ?_)
          go_simp
          obtain ⟨wq4, hwwq4⟩ : ∃ w, w = (wq3.alloc (.cells #[.int .i64 0, .slice (some ⟨gX, 0, none⟩) 1 1, .slice FA fn fc, .int .i64 0] 34)) := ⟨_, rfl⟩
          obtain ⟨gC, hgC⟩ : ∃ g, g = wq3.heap.size := ⟨_, rfl⟩
          have hx4 : Below wq3.heap.size wq3 wq4 := by
            rw [hwwq4]
            exact ((Below.refl _ _).alloc (Nat.le_refl _) _)
          have hbq4 : Hid (Below w2.heap.size w2 wq4) := hbq3.out.trans (hx4.mono hbq3.out.size)
          have hkgC : Hid (wq4.heap[gC]? = some (.cells #[.int .i64 0, .slice (some ⟨gX, 0, none⟩) 1 1, .slice FA fn fc, .int .i64 0] 34 (0, 0))) := by
            show _ = _
            rw [hwwq4, hgC]
            exact heap_alloc_new _ _
          have hlgX : gX < wq3.heap.size := (Array.getElem?_eq_some_iff.1 hkgX.out).1
          have hngXgC : Hid (gX ≠ gC) := by show _ ≠ _; omega
          replace hkgX : Hid (wq4.heap[gX]? = some (.cells #[.slice LA ln lc, .int .i64 rt, .int .i64 rm, .int .i64 rx, .int .i64 rz] 28 (0, 0))) := by
            show _ = _
            rw [hx4.block _ hlgX]
            exact hkgX.out
          clear hlgX
          replace hOwn : Hid (OwnG EA 34 wq4 w2.heap.size vB (ls)) := by
            show OwnG _ _ _ _ _ _
            rw [hwwq4]
            exact hOwn.out.alloc _
          rw [← hwwq4, ← hgC]
          clear hwwq4 hgC hx4
          refine hK.out _ _ ?_ (fun hHeld => ?_)
          · (try dsimp only)
            exact KC3.out _ hbq4.out
          clear hK K
          try simp only [Act.put, sA, sZ, sS]
          refine takeC (i := 8) rfl (by kernel_rfl) (by rfl) (fun K hK => ?_)
          have hRC : RdG EA wq4 wq4.heap.size (.slice (some ⟨gC, 0, none⟩) 1 1) [(⟨0, some ⟨gX, 0, none⟩, 1, 1, FA, fn, fc, 0⟩ : ActC)] := RdG.one (cellG_block hkgC.out rfl) (Array.getElem?_eq_some_iff.1 hkgC.out).1
          refine addNG EA _ _ 35 34 rfl Tryz.underlying35 info_Act rfl (by decide) w2.heap.size _ (ls) _ [(⟨0, some ⟨gX, 0, none⟩, 1, 1, FA, fn, fc, 0⟩ : ActC)] _ rfl hOwn.out rfl hRC (by have := hl64; simp; omega) hbq4.out.size (fun vD wq5 hown hg => ?_)
          have hbq5 : Hid (Below w2.heap.size w2 wq5) := hOwn.out.step hbq4.out hbq4.out.size hg
          replace hkgX : Hid (wq5.heap[gX]? = some (.cells #[.slice LA ln lc, .int .i64 rt, .int .i64 rm, .int .i64 rx, .int .i64 rz] 28 (0, 0))) := by
            show _ = _
            rw [hg.block _ (Array.getElem?_eq_some_iff.1 hkgX.out).1 (own_tag hOwn.out hkgX.out (by decide))]
            exact hkgX.out
          have hRD : RdG EA wq5 wq5.heap.size vD (ls ++ [(⟨0, some ⟨gX, 0, none⟩, 1, 1, FA, fn, fc, 0⟩ : ActC)]) := hown.rd
          clear hOwn hown hg hRC
          refine hK.out _ _ ?_ (fun hHeld => ?_)
          · (try dsimp only)
            exact KC3.out _ hbq5.out
          clear hK K
          try simp only [Act.put, sA, sZ, sS]
          have hacts := acts_snoc (r := (rl, (rt, rm, rx, rz))) hRD HLL.out (HLI.out _ hbq5.out) hkgX.out (Array.getElem?_eq_some_iff.1 hkgX.out).1 (HRX.out _ hbq5.out).1 HZL.out (HRX.out _ hbq5.out).2 HZF.out
          obtain ⟨vA, hvA⟩ : ∃ v : Value, v = .slice (some ⟨gA, 0, none⟩) 0 0 := ⟨_, rfl⟩
          obtain ⟨vX, hvX⟩ : ∃ v : Value, v = .slice (some ⟨gX, 0, none⟩) 1 1 := ⟨_, rfl⟩
          obtain ⟨vC, hvC⟩ : ∃ v : Value, v = .slice (some ⟨gC, 0, none⟩) 1 1 := ⟨_, rfl⟩
          rw [← hvA, ← hvX, ← hvC]
          exact KE vA vB vX vC vD wq5 ⟨hbq5.out, hacts⟩
        · rw [if_pos (by rfl)]
          go_simp
          obtain ⟨wq3, hwwq3⟩ : ∃ w, w = (wq2.alloc (.cells #[.int .i64 0, .slice (some ⟨gX, 0, none⟩) 1 1, .slice FA fn fc, .int .i64 0] 34)) := ⟨_, rfl⟩
          obtain ⟨gC, hgC⟩ : ∃ g, g = wq2.heap.size := ⟨_, rfl⟩
          have hx3 : Below wq2.heap.size wq2 wq3 := by
            rw [hwwq3]
            exact ((Below.refl _ _).alloc (Nat.le_refl _) _)
          have hbq3 : Hid (Below w2.heap.size w2 wq3) := hbq2.out.trans (hx3.mono hbq2.out.size)
          have hkgC : Hid (wq3.heap[gC]? = some (.cells #[.int .i64 0, .slice (some ⟨gX, 0, none⟩) 1 1, .slice FA fn fc, .int .i64 0] 34 (0, 0))) := by
            show _ = _
            rw [hwwq3, hgC]
            exact heap_alloc_new _ _
          have hlgX : gX < wq2.heap.size := (Array.getElem?_eq_some_iff.1 hkgX.out).1
          have hngXgC : Hid (gX ≠ gC) := by show _ ≠ _; omega
          replace hkgX : Hid (wq3.heap[gX]? = some (.cells #[.slice LA ln lc, .int .i64 rt, .int .i64 rm, .int .i64 rx, .int .i64 rz] 28 (0, 0))) := by
            show _ = _
            rw [hx3.block _ hlgX]
            exact hkgX.out
          clear hlgX
          have hlgA : gA < wq2.heap.size := (Array.getElem?_eq_some_iff.1 hkgA.out).1
          have hngAgC : Hid (gA ≠ gC) := by show _ ≠ _; omega
          replace hkgA : Hid (wq3.heap[gA]? = some (.cells #[] 34 (0, 0))) := by
            show _ = _
            rw [hx3.block _ hlgA]
            exact hkgA.out
          clear hlgA
          replace hOwn : Hid (OwnG EA 34 wq3 w2.heap.size (.slice (some ⟨gA, 0, none⟩) 0 0) ([])) := by
            show OwnG _ _ _ _ _ _
            rw [hwwq3]
            exact hOwn.out.alloc _
          rw [← hwwq3, ← hgC]
          clear hwwq3 hgC hx3
          refine hK.out _ _ ?_ (fun hHeld => ?_)
          · (try dsimp only)
            exact KC3.out _ hbq3.out
          clear hK K
          try simp only [Act.put, sA, sZ, sS]
          refine takeC (i := 2) rfl (by kernel_rfl) (by rfl) (fun K hK => ?_)
          refine addNG EA _ _ 35 34 rfl Tryz.underlying35 info_Act rfl (by decide) w2.heap.size _ [] _ ls _ rfl hOwn.out rfl (HLS.out _ hbq3.out) (by have := hl64; simp; omega) hbq3.out.size (fun vB wq4 hown hg => ?_)
          have hbq4 : Hid (Below w2.heap.size w2 wq4) := hOwn.out.step hbq3.out hbq3.out.size hg
          replace hkgX : Hid (wq4.heap[gX]? = some (.cells #[.slice LA ln lc, .int .i64 rt, .int .i64 rm, .int .i64 rx, .int .i64 rz] 28 (0, 0))) := by
            show _ = _
            have hg' : wq3.grownBy wq4 (some gA) := hg
            rw [hg'.block _ (Array.getElem?_eq_some_iff.1 hkgX.out).1 (fun e => by first | exact hngXgA.out (Option.some.inj e) | exact hngAgX.out (Option.some.inj e).symm)]
            exact hkgX.out
          replace hkgC : Hid (wq4.heap[gC]? = some (.cells #[.int .i64 0, .slice (some ⟨gX, 0, none⟩) 1 1, .slice FA fn fc, .int .i64 0] 34 (0, 0))) := by
            show _ = _
            have hg' : wq3.grownBy wq4 (some gA) := hg
            rw [hg'.block _ (Array.getElem?_eq_some_iff.1 hkgC.out).1 (fun e => by first | exact hngCgA.out (Option.some.inj e) | exact hngAgC.out (Option.some.inj e).symm)]
            exact hkgC.out
          clear hOwn
          have hOwn : Hid (OwnG EA 34 wq4 w2.heap.size vB (ls)) := hown
          clear hown hg
          refine hK.out _ _ ?_ (fun hHeld => ?_)
          · (try dsimp only)
            exact KC3.out _ hbq4.out
          clear hK K
          try simp only [Act.put, sA, sZ, sS]
          refine takeC (i := 8) rfl (by kernel_rfl) (by rfl) (fun K hK => ?_)
          have hRC : RdG EA wq4 wq4.heap.size (.slice (some ⟨gC, 0, none⟩) 1 1) [(⟨0, some ⟨gX, 0, none⟩, 1, 1, FA, fn, fc, 0⟩ : ActC)] := RdG.one (cellG_block hkgC.out rfl) (Array.getElem?_eq_some_iff.1 hkgC.out).1
          refine addNG EA _ _ 35 34 rfl Tryz.underlying35 info_Act rfl (by decide) w2.heap.size _ (ls) _ [(⟨0, some ⟨gX, 0, none⟩, 1, 1, FA, fn, fc, 0⟩ : ActC)] _ rfl hOwn.out rfl hRC (by have := hl64; simp; omega) hbq4.out.size (fun vD wq5 hown hg => ?_)
          have hbq5 : Hid (Below w2.heap.size w2 wq5) := hOwn.out.step hbq4.out hbq4.out.size hg
          replace hkgX : Hid (wq5.heap[gX]? = some (.cells #[.slice LA ln lc, .int .i64 rt, .int .i64 rm, .int .i64 rx, .int .i64 rz] 28 (0, 0))) := by
            show _ = _
            rw [hg.block _ (Array.getElem?_eq_some_iff.1 hkgX.out).1 (own_tag hOwn.out hkgX.out (by decide))]
            exact hkgX.out
          have hRD : RdG EA wq5 wq5.heap.size vD (ls ++ [(⟨0, some ⟨gX, 0, none⟩, 1, 1, FA, fn, fc, 0⟩ : ActC)]) := hown.rd
          clear hOwn hown hg hRC
          refine hK.out _ _ ?_ (fun hHeld => ?_)
          · (try dsimp only)
            exact KC3.out _ hbq5.out
          clear hK K
          try simp only [Act.put, sA, sZ, sS]
          have hacts := acts_snoc (r := (rl, (rt, rm, rx, rz))) hRD HLL.out (HLI.out _ hbq5.out) hkgX.out (Array.getElem?_eq_some_iff.1 hkgX.out).1 (HRX.out _ hbq5.out).1 HZL.out (HRX.out _ hbq5.out).2 HZF.out
          obtain ⟨vA, hvA⟩ : ∃ v : Value, v = .slice (some ⟨gA, 0, none⟩) 0 0 := ⟨_, rfl⟩
          obtain ⟨vX, hvX⟩ : ∃ v : Value, v = .slice (some ⟨gX, 0, none⟩) 1 1 := ⟨_, rfl⟩
          obtain ⟨vC, hvC⟩ : ∃ v : Value, v = .slice (some ⟨gC, 0, none⟩) 1 1 := ⟨_, rfl⟩
          rw [← hvA, ← hvX, ← hvC]
          exact KE vA vB vX vC vD wq5 ⟨hbq5.out, hacts⟩
      · rw [if_pos (by rfl)]
        go_simp
        obtain ⟨wq2, hwwq2⟩ : ∃ w, w = (wq1.alloc (.cells #[.int .i64 0, .slice (some ⟨gX, 0, none⟩) 1 1, .slice FA fn fc, .int .i64 0] 34)) := ⟨_, rfl⟩
        obtain ⟨gC, hgC⟩ : ∃ g, g = wq1.heap.size := ⟨_, rfl⟩
        have hx2 : Below wq1.heap.size wq1 wq2 := by
          rw [hwwq2]
          exact ((Below.refl _ _).alloc (Nat.le_refl _) _)
        have hbq2 : Hid (Below w2.heap.size w2 wq2) := hbq1.out.trans (hx2.mono hbq1.out.size)
        have hkgC : Hid (wq2.heap[gC]? = some (.cells #[.int .i64 0, .slice (some ⟨gX, 0, none⟩) 1 1, .slice FA fn fc, .int .i64 0] 34 (0, 0))) := by
          show _ = _
          rw [hwwq2, hgC]
          exact heap_alloc_new _ _
        have hlgX : gX < wq1.heap.size := (Array.getElem?_eq_some_iff.1 hkgX.out).1
        have hngXgC : Hid (gX ≠ gC) := by show _ ≠ _; omega
        replace hkgX : Hid (wq2.heap[gX]? = some (.cells #[.slice LA ln lc, .int .i64 rt, .int .i64 rm, .int .i64 rx, .int .i64 rz] 28 (0, 0))) := by
          show _ = _
          rw [hx2.block _ hlgX]
          exact hkgX.out
        clear hlgX
        rw [← hwwq2, ← hgC]
        clear hwwq2 hgC hx2
        refine hK.out _ _ ?_ (fun hHeld => ?_)
        · (try dsimp only)
          exact KC3.out _ hbq2.out
        clear hK K
        try simp only [Act.put, sA, sZ, sS]
        refine takeC (i := 0) rfl (by kernel_rfl) (by rfl) (fun K hK => ?_)
        go_simp
        obtain ⟨wq3, hwwq3⟩ : ∃ w, w = (wq2.alloc (.cells #[] 34)) := ⟨_, rfl⟩
        obtain ⟨gA, hgA⟩ : ∃ g, g = wq2.heap.size := ⟨_, rfl⟩
        have hx3 : Below wq2.heap.size wq2 wq3 := by
          rw [hwwq3]
          exact ((Below.refl _ _).alloc (Nat.le_refl _) _)
        have hbq3 : Hid (Below w2.heap.size w2 wq3) := hbq2.out.trans (hx3.mono hbq2.out.size)
        have hkgA : Hid (wq3.heap[gA]? = some (.cells #[] 34 (0, 0))) := by
          show _ = _
          rw [hwwq3, hgA]
          exact heap_alloc_new _ _
        have hlgX : gX < wq2.heap.size := (Array.getElem?_eq_some_iff.1 hkgX.out).1
        have hngXgA : Hid (gX ≠ gA) := by show _ ≠ _; omega
        replace hkgX : Hid (wq3.heap[gX]? = some (.cells #[.slice LA ln lc, .int .i64 rt, .int .i64 rm, .int .i64 rx, .int .i64 rz] 28 (0, 0))) := by
          show _ = _
          rw [hx3.block _ hlgX]
          exact hkgX.out
        clear hlgX
        have hlgC : gC < wq2.heap.size := (Array.getElem?_eq_some_iff.1 hkgC.out).1
        have hngCgA : Hid (gC ≠ gA) := by show _ ≠ _; omega
        replace hkgC : Hid (wq3.heap[gC]? = some (.cells #[.int .i64 0, .slice (some ⟨gX, 0, none⟩) 1 1, .slice FA fn fc, .int .i64 0] 34 (0, 0))) := by
          show _ = _
          rw [hx3.block _ hlgC]
          exact hkgC.out
        clear hlgC
        have hOwn : Hid (OwnG EA 34 wq3 w2.heap.size (.slice (some ⟨gA, 0, none⟩) 0 0) []) := by
          show OwnG _ _ _ _ _ _
          rw [hwwq3, hgA]
          exact World.ownsRow_made wq2 #[] 0 hbq2.out.size (Nat.zero_le _) rfl
        rw [← hwwq3, ← hgA]
        clear hwwq3 hgA hx3
        refine hK.out _ _ ?_ (fun hHeld => ?_)
        · (try dsimp only)
          exact KC3.out _ hbq3.out
        clear hK K
        try simp only [Act.put, sA, sZ, sS]
        refine takeC (i := 2) rfl (by kernel_rfl) (by rfl) (fun K hK => ?_)
        refine addNG EA _ _ 35 34 rfl Tryz.underlying35 info_Act rfl (by decide) w2.heap.size _ [] _ ls _ rfl hOwn.out rfl (HLS.out _ hbq3.out) (by have := hl64; simp; omega) hbq3.out.size (fun vB wq4 hown hg => ?_)
        have hbq4 : Hid (Below w2.heap.size w2 wq4) := hOwn.out.step hbq3.out hbq3.out.size hg
        replace hkgX : Hid (wq4.heap[gX]? = some (.cells #[.slice LA ln lc, .int .i64 rt, .int .i64 rm, .int .i64 rx, .int .i64 rz] 28 (0, 0))) := by
          show _ = _
          have hg' : wq3.grownBy wq4 (some gA) := hg
          rw [hg'.block _ (Array.getElem?_eq_some_iff.1 hkgX.out).1 (fun e => by first | exact hngXgA.out (Option.some.inj e) | exact hngAgX.out (Option.some.inj e).symm)]
          exact hkgX.out
        replace hkgC : Hid (wq4.heap[gC]? = some (.cells #[.int .i64 0, .slice (some ⟨gX, 0, none⟩) 1 1, .slice FA fn fc, .int .i64 0] 34 (0, 0))) := by
          show _ = _
          have hg' : wq3.grownBy wq4 (some gA) := hg
          rw [hg'.block _ (Array.getElem?_eq_some_iff.1 hkgC.out).1 (fun e => by first | exact hngCgA.out (Option.some.inj e) | exact hngAgC.out (Option.some.inj e).symm)]
          exact hkgC.out
        clear hOwn
        have hOwn : Hid (OwnG EA 34 wq4 w2.heap.size vB (ls)) := hown
        clear hown hg
        refine hK.out _ _ ?_ (fun hHeld => ?_)
        · (try dsimp only)
          exact KC3.out _ hbq4.out
        clear hK K
        try simp only [Act.put, sA, sZ, sS]
        refine takeC (i := 8) rfl (by kernel_rfl) (by rfl) (fun K hK => ?_)
        have hRC : RdG EA wq4 wq4.heap.size (.slice (some ⟨gC, 0, none⟩) 1 1) [(⟨0, some ⟨gX, 0, none⟩, 1, 1, FA, fn, fc, 0⟩ : ActC)] := RdG.one (cellG_block hkgC.out rfl) (Array.getElem?_eq_some_iff.1 hkgC.out).1
        refine addNG EA _ _ 35 34 rfl Tryz.underlying35 info_Act rfl (by decide) w2.heap.size _ (ls) _ [(⟨0, some ⟨gX, 0, none⟩, 1, 1, FA, fn, fc, 0⟩ : ActC)] _ rfl hOwn.out rfl hRC (by have := hl64; simp; omega) hbq4.out.size (fun vD wq5 hown hg => ?_)
        have hbq5 : Hid (Below w2.heap.size w2 wq5) := hOwn.out.step hbq4.out hbq4.out.size hg
        replace hkgX : Hid (wq5.heap[gX]? = some (.cells #[.slice LA ln lc, .int .i64 rt, .int .i64 rm, .int .i64 rx, .int .i64 rz] 28 (0, 0))) := by
          show _ = _
          rw [hg.block _ (Array.getElem?_eq_some_iff.1 hkgX.out).1 (own_tag hOwn.out hkgX.out (by decide))]
          exact hkgX.out
        have hRD : RdG EA wq5 wq5.heap.size vD (ls ++ [(⟨0, some ⟨gX, 0, none⟩, 1, 1, FA, fn, fc, 0⟩ : ActC)]) := hown.rd
        clear hOwn hown hg hRC
        refine hK.out _ _ ?_ (fun hHeld => ?_)
        · (try dsimp only)
          exact KC3.out _ hbq5.out
        clear hK K
        try simp only [Act.put, sA, sZ, sS]
        have hacts := acts_snoc (r := (rl, (rt, rm, rx, rz))) hRD HLL.out (HLI.out _ hbq5.out) hkgX.out (Array.getElem?_eq_some_iff.1 hkgX.out).1 (HRX.out _ hbq5.out).1 HZL.out (HRX.out _ hbq5.out).2 HZF.out
        obtain ⟨vA, hvA⟩ : ∃ v : Value, v = .slice (some ⟨gA, 0, none⟩) 0 0 := ⟨_, rfl⟩
        obtain ⟨vX, hvX⟩ : ∃ v : Value, v = .slice (some ⟨gX, 0, none⟩) 1 1 := ⟨_, rfl⟩
        obtain ⟨vC, hvC⟩ : ∃ v : Value, v = .slice (some ⟨gC, 0, none⟩) 1 1 := ⟨_, rfl⟩
        rw [← hvA, ← hvX, ← hvC]
        exact KE vA vB vX vC vD wq5 ⟨hbq5.out, hacts⟩
  intro vA vB vX vC vD w9 hpre
  refine takeC (i := 9) rfl (by kernel_rfl) (by rfl) (fun K hK => ?_)
  go_simp
  refine (KF.out _ _ hpre.1 hpre.2).mono ?_
  rintro e w3 ⟨⟨q, rfl, hq⟩, hb3⟩
  try go_wp2_with fail
  refine hK.out _ _ ?_ (fun hHeld => ?_)
  · (try dsimp only)
    exact KC3.out _ hb3
  clear hK K
  try simp only [Act.put, sA, sZ, sS]
  refine takeW (i := 10) (v := ?_) rfl (by kernel_rfl) (by kernel_rfl) (by kernel_rfl) (fun _ _ _ h => h) (by rfl) ?_ (by assumption) ?_
  rotate_left
  · (intro w hSw; (try dsimp only at hSw); go_simp; try with_reducible rfl)
  simp only [Act.put, sA, sZ, sS]
  refine wpAnyH_done (by kernel_rfl) ?_ _
  have HB3 : Hid (Below W.heap.size W w3) := HB2.out.trans (hb3.mono HB2.out.size)
  have HK3 : Hid (w3.heap[W.heap.size]? = W1.heap[W.heap.size]?) := (hb3.block _ HS2.out).trans HK2.out
  have HS3 : Hid (W.heap.size < w3.heap.size) := Nat.lt_of_lt_of_le HS2.out hb3.size
  have HQ := Lib.hid hq
  clear hq hb3 KF HB2 HK2 HS2 HBi HLS HLI HLL hl64 KC3 HRX hpre hHeld
  cases q with
  | false =>
    go_wp2_with fail
    go_ret
    exact ⟨rfl, HB3.out⟩
  | true =>
    have HFA2 := Lib.hid (HQ.out rfl)
    have HFA : Hid (FewA l) := HFA2.out.snoc.1
    have hn20 : n ≤ 20 := by rw [HN.out]; exact HFA.out.len
    clear HQ
    by_cases h8 : fn ≤ 4
    case neg =>
      have g8 : ¬ (fn : Int) ≤ 4 := by omega
      go_wp2_with fail
      go_ret
      exact ⟨rfl, HB3.out⟩
    have g8 : (fn : Int) ≤ 4 := by omega
    have KN := both_new (P := fun k => k = W.heap.size) (W := W) 1 1000000 (fun k e => by have e : k = W.heap.size := e; rw [e]; exact HS3.out) HB3.out
    rw [show keepN 1000000 = 1000000 by decide] at KN
    have KN := Lib.hid KN
    go_wp2_with fail
    refine KN.out.mono ?_
    rintro e w4 ⟨o, rfl, hb4, hB4⟩
    have HB4 : Hid (Below W.heap.size W w4) := HB3.out.trans (hB4.mono HB3.out.size)
    have HK4 : Hid (w4.heap[W.heap.size]? = W1.heap[W.heap.size]?) := (hB4.block _ HS3.out).trans HK3.out
    have HBo := Lib.hid hb4
    have KR := ref_new 1 1000000 w4
    rw [show keepN 1000000 = 1000000 by decide] at KR
    have KR := Lib.hid KR
    clear hb4 hB4 KN HB3 HK3
    unfold vO at KR
    go_wp2_with fail
    refine KR.out.mono ?_
    rintro e w5 ⟨rfl, hE5⟩
    have HB5 : Hid (Below W.heap.size W w5) := HB4.out.trans (hE5.below.mono HB4.out.size)
    have HK5 : Hid (w5.heap[W.heap.size]? = W1.heap[W.heap.size]?) := ((HBo.out.stands hE5.below) _ rfl).trans HK4.out
    have HBp := Lib.hid (HBo.out.on hE5.below)
    obtain ⟨w6, hw6⟩ : ∃ w6, w6 = w5.alloc (.cells #[.int .i64 1, .int .i64 1000000, .int .i64 0, .slice none 0 0] 65) := ⟨_, rfl⟩
    have hx6 : Below w5.heap.size w5 w6 := by rw [hw6]; exact (Below.refl _ _).alloc (Nat.le_refl _) _
    have HB6 : Hid (Below W.heap.size W w6) := HB5.out.trans (hx6.mono HB5.out.size)
    have hs5 : W.heap.size < w5.heap.size := (by obtain ⟨_, _, _, _, _, _, _, _, _, h6⟩ := HBp.out; exact (h6 _ rfl).1)
    have HK6 : Hid (w6.heap[W.heap.size]? = W1.heap[W.heap.size]?) := (hx6.block _ hs5).trans HK5.out
    obtain ⟨bw, hbw⟩ : ∃ bw, bw = w5.heap.size := ⟨_, rfl⟩
    obtain ⟨P, hP⟩ : ∃ P : Nat → Prop, P = fun k => k = W.heap.size ∨ k = bw := ⟨_, rfl⟩
    have HBb : Hid (Both P W w6 o (.slice none 0 0) 1 1000000 0 [] []) := HBp.out.to hx6 (fun i hi => by
      rw [hP] at hi
      rcases hi with hi | hi
      · exact .inl hi
      · refine .inr ⟨by omega, ?_⟩
        rw [hi, hbw, hw6]; simp)
    have HP1 : Hid (P W.heap.size) := by show P _; rw [hP]; exact .inl rfl
    have HP2 : Hid (P bw) := by show P _; rw [hP]; exact .inr rfl
    have HBX : Hid (w6.heap[bw]? = some (.cells #[.int .i64 1, .int .i64 1000000, .int .i64 0, .slice none 0 0] 65 (0, 0))) := by show _ = _; rw [hbw, hw6]; exact heap_alloc_new _ _
    have HNE : Hid (bw ≠ W.heap.size) := by show _ ≠ _; omega
    have HBW : Hid (W.heap.size ≤ bw) := by show _ ≤ _; omega
    clear hE5 hx6 hs5 hP KR HBo HBp HB4 HB5 HK4 HK5
    go_wp2_with fail
    rw [← hw6, ← hbw]
    clear hw6 hbw
    go_loopw [11] (fun iv wl => ∃ (k : Nat) (v' : Value), k ≤ n ∧ iv = .int .i64 k ∧ Hid (Both P W wl o v' 1 1000000 (playS 1000000 (l.take k)).1 (playS 1000000 (l.take k)).2 (playS 1000000 (l.take k)).2) ∧ Hid (wl.heap[bw]? = some (.cells #[.int .i64 1, .int .i64 1000000, .int .i64 (playS 1000000 (l.take k)).1, v'] 65 (0, 0))) ∧ Hid (wl.heap[W.heap.size]? = W1.heap[W.heap.size]?) ∧ Hid (Below W.heap.size W wl))
      (fun iv _ => n - (intOf iv).toNat)
    case atStart => exact ⟨0, _, Nat.zero_le _, rfl, HBb.out, HBX.out, HK6.out, HB6.out⟩
    case round =>
      obtain ⟨k, v', hk, rfl, HBb, HBX, HK, HB⟩ := hrel
      by_cases hlt : k < n
      · have hl2 : k < l.length := by rw [← HN.out]; exact hlt
        rcases HAA.out with h0 | ⟨b, o2, e, hb, hcl⟩
        · rw [h0] at hl2; simp at hl2
        subst e
        obtain ⟨y, hy⟩ : ∃ y, y = l[k] := ⟨_, rfl⟩
        obtain ⟨rv, fv, c0, c1, c2, c3, hrv, _, hfv, _⟩ : ActAt W W.heap.size b (o2 + k * 4) y := by rw [hy]; exact hcl k hl2
        have hty := (HS.out y (by rw [hy]; exact List.getElem_mem hl2)).2
        have HTK : Hid (playS 1000000 (l.take (k + 1)) = stepA 1000000 (playS 1000000 (l.take k)) y) := play_take hl2 hy
        have hpf := play_few HFA.out 1000000 k
        obtain ⟨Q, hQ⟩ : ∃ Q, Q = playS 1000000 (l.take k) := ⟨_, rfl⟩
        rw [← hQ] at HBb HBX HTK hpf
        obtain ⟨now, Rk⟩ := Q
        simp only at HBb HBX hpf
        obtain ⟨⟨nx, Rx⟩, hst⟩ : ∃ q2, q2 = stepA 1000000 (now, Rk) y := ⟨_, rfl⟩
        rw [← hst] at HTK
        have KD : Hid (∀ w v2, Both P W w o v2 1 1000000 now Rk Rk → Below W.heap.size W w → Calls Tryz.prog 21 #[.pointer (some ⟨o, 0, none⟩), .agg #[.int .i64 1, .int .i64 1000000, .int .i64 now, v2], .agg #[.int .i64 y.kind, rv, fv, .int .i64 y.now]] w fun e w' => ∃ v', e = .returned (.tuple #[.agg #[.int .i64 1, .int .i64 1000000, .int .i64 nx, v'], .bool true]) ∧ Both P W w' o v' 1 1000000 nx Rx Rx ∧ Keep P w w' ∧ Below W.heap.size W w') := fun w v2 h1 h2 => by
          have h3 := done_walk h1 h2 y rv fv hrv hfv hty (by have := hpf.1; omega) hpf.2.1
          rw [← hst] at h3
          exact h3
        have KA : Hid (∀ w, Below W.heap.size W w → w.cell? ⟨b, o2 + k * 4, none⟩ = some (.int .i64 y.kind) ∧ w.cell? ⟨b, o2 + k * 4 + 1, none⟩ = some rv ∧ w.cell? ⟨b, o2 + k * 4 + 2, none⟩ = some fv ∧ w.cell? ⟨b, o2 + k * 4 + 3, none⟩ = some (.int .i64 y.now)) := fun w h => ⟨(h.cell hb).trans c0, (h.cell hb).trans c1, (h.cell hb).trans c2, (h.cell hb).trans c3⟩
        obtain ⟨VA, vc, rfl⟩ := HBb.out.form
        obtain ⟨vn, hvn⟩ : ∃ vn, vn = (rS Rk).length := ⟨_, rfl⟩
        rw [← hvn] at HBb HBX
        obtain ⟨RA, rc, hrve, _, _⟩ := id hrv
        obtain ⟨FA2, fc2, hfve, _, _⟩ := id hfv
        obtain ⟨rn, hrn⟩ : ∃ rn, rn = y.rows.length := ⟨_, rfl⟩
        obtain ⟨fn2, hfn2⟩ : ∃ fn2, fn2 = y.fs.length := ⟨_, rfl⟩
        rw [← hrn] at hrve
        rw [← hfn2] at hfve
        have HPF := Lib.hid hpf
        clear hy hcl c0 c1 c2 c3 hrv hfv hty hpf hQ hst hvn hrn hfn2 hl2
        subst hrve hfve
        have i1 : (k : Int) < (n : Int) := by omega
        have HLT : Hid (k + 1 ≤ n) := hlt
        have hd : Below wr.heap.size wr wr.drew := (Below.refl _ _).drew
        have HBd := Lib.hid (HBb.out.on hd)
        have HK0 : Hid (Keep P wr wr.drew) := HBb.out.stands hd
        have Hb0 : Hid (Below W.heap.size W wr.drew) := HB.out.trans (hd.mono HB.out.size)
        have HXd : Hid (wr.drew.heap[bw]? = some (.cells #[.int .i64 1, .int .i64 1000000, .int .i64 now, .slice VA vn vc] 65 (0, 0))) := HBX.out
        obtain ⟨⟨q0, q1, q2, q3⟩, _⟩ := cells4 HXd.out
        clear hd
        go_wp2_with fail
        refine wp_region_held_drew (S := fun w' => Below W.heap.size W w' ∧ w'.cell? ⟨b, o2 + k * 4, none⟩ = some (.int .i64 y.kind) ∧ w'.cell? ⟨b, o2 + k * 4 + 1, none⟩ = some (.slice RA rn rc) ∧ w'.cell? ⟨b, o2 + k * 4 + 2, none⟩ = some (.slice FA2 fn2 fc2) ∧ w'.cell? ⟨b, o2 + k * 4 + 3, none⟩ = some (.int .i64 y.now)) (by kernel_rfl) ?_ (fun hHeld => ?_)
        · (try dsimp only)
          (have hk9 : Below W.heap.size W _ := Hb0.out; exact ⟨hk9, KA.out _ hk9⟩)
        refine takeW (i := 0) (v := ?_) rfl (by kernel_rfl) (by kernel_rfl) (by kernel_rfl) (fun _ _ _ h => h) (by rfl) ?_ (by assumption) ?_
        rotate_left
        · (intro w hSw; (try dsimp only at hSw); go_simp; try with_reducible rfl)
        simp only [Act.put, sA, sZ, sS]
        refine takeW (i := 2) (v := ?_) rfl (by kernel_rfl) (by kernel_rfl) (by kernel_rfl) (fun _ _ _ h => h) (by rfl) ?_ (by assumption) ?_
        rotate_left
        · (intro w hSw; (try dsimp only at hSw); go_simp; try with_reducible rfl)
        simp only [Act.put, sA, sZ, sS]
        refine takeW (i := 3) (v := ?_) rfl (by kernel_rfl) (by kernel_rfl) (by kernel_rfl) (fun _ _ _ h => h) (by rfl) ?_ (by assumption) ?_
        rotate_left
        · (intro w hSw; (try dsimp only at hSw); go_simp; try with_reducible rfl)
        simp only [Act.put, sA, sZ, sS]
        refine takeW (i := 4) (v := ?_) rfl (by kernel_rfl) (by kernel_rfl) (by kernel_rfl) (fun _ _ _ h => h) (by rfl) ?_ (by assumption) ?_
        rotate_left
        · (intro w hSw; (try dsimp only at hSw); go_simp; try with_reducible rfl)
        simp only [Act.put, sA, sZ, sS]
        refine takeW (i := 5) (v := ?_) rfl (by kernel_rfl) (by kernel_rfl) (by kernel_rfl) (fun _ _ _ h => h) (by rfl) ?_ (by assumption) ?_
        rotate_left
        · (intro w hSw; (try dsimp only at hSw); go_simp; try with_reducible rfl)
        simp only [Act.put, sA, sZ, sS]
        refine takeC (i := 1) rfl (by kernel_rfl) (by rfl) (fun K hK => ?_)
        go_simp
        refine hK.out _ _ ?_ (fun hHeld => ?_)
        · (try dsimp only)
          (have hk9 : Below W.heap.size W _ := Hb0.out; exact ⟨hk9, KA.out _ hk9⟩)
        clear hK K
        try simp only [Act.put, sA, sZ, sS]
        refine takeC (i := 6) rfl (by kernel_rfl) (by rfl) (fun K hK => ?_)
        go_simp
        refine (KD.out _ _ HBd.out Hb0.out).mono ?_
        rintro e w7 ⟨v7, rfl, hB7, hk7, hw7⟩
        obtain ⟨A7, c7, rfl⟩ := hB7.form
        obtain ⟨n7, hn7⟩ : ∃ n7, n7 = (rS Rx).length := ⟨_, rfl⟩
        rw [← hn7] at hB7 ⊢
        have HB7 := Lib.hid hB7
        have HK7 : Hid (Keep P wr w7) := HK0.out.trans hk7
        have HW7 := Lib.hid hw7
        have HX7 : Hid (w7.heap[bw]? = some (.cells #[.int .i64 1, .int .i64 1000000, .int .i64 now, .slice VA vn vc] 65 (0, 0))) := (hk7 _ HP2.out).trans HXd.out
        obtain ⟨⟨x0, x1, x2, x3⟩, x4⟩ := cells4 HX7.out
        clear hn7 hB7 hk7 hw7
        try go_wp2_with fail
        refine hK.out _ _ ?_ (fun hHeld => ?_)
        · (try dsimp only)
          (have hk9 : Below W.heap.size W _ := HW7.out; exact ⟨hk9, KA.out _ hk9⟩)
        clear hK K
        try simp only [Act.put, sA, sZ, sS]
        refine takeW (i := 7) (v := ?_) rfl (by kernel_rfl) (by kernel_rfl) (by kernel_rfl) (fun _ _ _ h => h) (by rfl) ?_ (by assumption) ?_
        rotate_left
        · (intro w hSw; (try dsimp only at hSw); go_simp; try with_reducible rfl)
        simp only [Act.put, sA, sZ, sS]
        refine takeW (i := 8) (v := ?_) rfl (by kernel_rfl) (by kernel_rfl) (by kernel_rfl) (fun _ _ _ h => h) (by rfl) ?_ (by assumption) ?_
        rotate_left
        · (intro w hSw; (try dsimp only at hSw); go_simp; try with_reducible rfl)
        simp only [Act.put, sA, sZ, sS]
        refine takeW (i := 9) (v := ?_) rfl (by kernel_rfl) (by kernel_rfl) (by kernel_rfl) (fun _ _ _ h => h) (by rfl) ?_ (by assumption) ?_
        rotate_left
        · (intro w hSw; (try dsimp only at hSw); go_simp; try with_reducible rfl)
        simp only [Act.put, sA, sZ, sS]
        obtain ⟨w9, hw9⟩ : ∃ w9, w9 = ((((w7.setCell ⟨bw, 0, none⟩ (.int .i64 1)).setCell ⟨bw, 1, none⟩ (.int .i64 1000000)).setCell ⟨bw, 2, none⟩ (.int .i64 nx)).setCell ⟨bw, 3, none⟩ (.slice A7 n7 c7)) := ⟨_, rfl⟩
        have HWE9 := Lib.hid hw9
        have HC9 : Hid (Chg (fun k => k = bw) w7 w9) := by
          show Chg _ _ _
          rw [hw9]
          repeat (first | exact Chg.refl_ _ | refine Chg.set ?_ _ (by dsimp only) _)
        have HW9 : Hid (Below W.heap.size W w9) := HW7.out.trans (HC9.out.below HW7.out.size fun x e => by rw [e]; exact HBW.out)
        clear hw9
        refine takeC (i := 10) rfl (by kernel_rfl) (by rfl) (fun K hK => ?_)
        go_simp
        rw [← HWE9.out]
        refine hK.out _ _ ?_ (fun hHeld => ?_)
        · (try dsimp only)
          (have hk9 : Below W.heap.size W _ := HW9.out; exact ⟨hk9, KA.out _ hk9⟩)
        clear hK K
        try simp only [Act.put, sA, sZ, sS]
        refine wpAnyH_done (by kernel_rfl) ?_ _
        have HB9 : Hid (Both P W w9 o (.slice A7 n7 c7) 1 1000000 nx Rx Rx) := HB7.out.turn (HC9.out.mono fun x _ e => by rw [e]; exact HP2.out)
        have HBX9 : Hid (w9.heap[bw]? = some (.cells #[.int .i64 1, .int .i64 1000000, .int .i64 nx, .slice A7 n7 c7] 65 (0, 0))) := by
          show _ = _
          rw [HWE9.out]; exact set4 HX7.out
        have HK9 : Hid (w9.heap[W.heap.size]? = W1.heap[W.heap.size]?) := by
          have h6 : ∀ i, P i → i < w7.heap.size := fun i hi => by
            obtain ⟨_, _, _, _, _, _, _, _, _, h6⟩ := HB7.out
            exact (h6 _ hi).1
          exact (HC9.out.block _ (h6 _ HP1.out) (fun e => HNE.out e.symm)).trans ((HK7.out _ HP1.out).trans HK.out)
        clear HB HK HBX HBb HBd KD KA HK0 Hb0 HXd q0 q1 q2 q3 HB7 HX7 HK7 HC9 HWE9
        go_wp2_with fail
        go_roundw
        case rel => exact ⟨k + 1, .slice A7 n7 c7, HLT.out, by go_num, by rw [HTK.out]; exact HB9.out, by rw [HTK.out]; exact HBX9.out, HK9.out, HW9.out⟩
        case measure => have := HLT.out; simp [intOf]; omega
      · have hkn : k = n := by omega
        have i1 : ¬ (k : Int) < (n : Int) := by omega
        have hpf := play_few HFA.out 1000000 k
        rw [hkn, HN.out, List.take_length] at hpf HBb HBX
        obtain ⟨Q, hQ⟩ : ∃ Q, Q = playS 1000000 l := ⟨_, rfl⟩
        rw [← hQ] at HBb HBX hpf
        obtain ⟨now, R⟩ := Q
        simp only at HBb HBX hpf
        have HPF := Lib.hid hpf
        have e0 : checkF [] = 0 := by decide
        have eA : ∀ R, askS 1 1000000 now 0 1099511627776 [] R = tellS 1 (fromS 0 now 1000000) 1099511627776 [] R := fun R => by unfold askS; rw [if_pos e0]
        have KS : Hid (∀ (Wb w' : World) (p : Nat) (R' : Told), Liv Wb w' p 1 1000000 now R' → Below W.heap.size W w' → R'.length ≤ 60000 → FewL R' → Calls Tryz.prog 14 #[.pointer (some ⟨p, 0, none⟩), .slice none 0 0, .int .i64 0, .int .i64 1099511627776] w' fun e w'' => ∃ v, e = .returned (.tuple #[v, .int .i64 0]) ∧ RdX w'' w''.heap.size v (tellS 1 (fromS 0 now 1000000) 1099511627776 [] R') ∧ Below w'.heap.size w' w'') := fun Wb w' p R' h1 h2 h3 h4 => by
          refine (liv_ask h1 (HTB.out.below h2) (RdF.empty _ _) 0 1099511627776 h3 h4).mono ?_
          rintro e w'' ⟨v, k1, k2, _, k3⟩
          rw [e0] at k1
          rw [eA] at k2
          exact ⟨v, k1, k2, k3⟩
        have HL0 := Lib.hid HBb.out.liv
        have HBB0 := Lib.hid HBb
        have KS1 := Lib.hid (KS.out _ _ _ _ HBb.out.liv HB.out (by have := HPF.out.1; omega) HPF.out.2.1)
        clear hkn hpf hQ hk hlt HBX e0 eA
        go_wp2_with fail
        refine KS1.out.mono ?_
        rintro e w7 ⟨v1, rfl, hX1, hb7⟩
        have HL7 := Lib.hid (HL0.out.on hb7)
        have HB7 : Hid (Below W.heap.size W w7) := HB.out.trans (hb7.mono HB.out.size)
        have HK7 : Hid (∀ w', Below w7.heap.size w7 w' → w'.heap[W.heap.size]? = W1.heap[W.heap.size]?) := fun w' h => by
          have hk9 := HBb.out.on hb7
          exact ((hk9.stands h) _ HP1.out).trans ((HBb.out.stands hb7 _ HP1.out).trans HK.out)
        obtain ⟨X, hX⟩ : ∃ X, X = tellS 1 (fromS 0 now 1000000) 1099511627776 [] R := ⟨_, rfl⟩
        have HFX : Hid (FewX X) := by show FewX _; rw [hX]; exact tellS_few (by have := HPF.out.1; omega) HPF.out.2.1
        have HX := Lib.hid hX
        rw [← hX] at hX1
        have HX1 := Lib.hid hX1
        obtain ⟨VL, vc, rfl, hvc, hVL⟩ := hX1
        obtain ⟨m, hm⟩ : ∃ m, m = X.length := ⟨_, rfl⟩
        rw [← hm] at hvc HX1 ⊢
        have HM := Lib.hid hm
        have HVL := Lib.hid hVL
        have hm1 : m ≤ 1000000 := by rw [hm]; exact HFX.out.1
        have KCl := Lib.hid (liv_clone HL7.out (by have := HPF.out.1; omega) HPF.out.2.1)
        clear hX hVL hvc hm hb7 KS1 HB HK HBb HL0 HBB0
        go_wp2_with fail
        refine KCl.out.mono ?_
        rintro e w8 ⟨o2, rfl, hL8, hb8⟩
        have HF7 : Hid (∀ w', Below w7.heap.size w7 w' → RdF w' w7.heap.size (.slice FA fn fc) fs) := fun w' h => ((HF.out.below HB7.out).mono HB7.out.size).below h
        have KD := Lib.hid (liv_delB hL8 hb8 (HF7.out _ hb8) (by have := HPF.out.1; omega) HPF.out.2.1)
        have HB8 := Lib.hid hb8
        obtain ⟨cq, hcq⟩ : ∃ cq, cq = checkF fs := ⟨_, rfl⟩
        have HCQ := Lib.hid hcq
        rw [← hcq] at KD
        clear hL8 hb8 KCl hcq
        go_wp2_with fail
        refine KD.out.mono ?_
        rintro e w9 ⟨nD, rfl, hL9, hb9, hn0, hn1, hnD⟩
        have HND := Lib.hid (hnD 1 (fromS 0 now 1000000) 1099511627776 [])
        have HNB : Hid (0 ≤ nD ∧ nD ≤ 60000) := ⟨hn0, hn1⟩
        have KCk : Hid (Calls Tryz.prog 28 #[.slice FA fn fc] w9 fun e w' => e = .returned (.int .i64 cq) ∧ w' = w9) := by
          show Calls _ _ _ _ _
          rw [HCQ.out]
          exact ref_check _ fs w9 ((HF7.out _ hb9).mono hb9.size) (fun f hf => HTX.out.1 f hf)
        obtain ⟨R1, hR1⟩ : ∃ R1, R1 = afterD fs R := ⟨_, rfl⟩
        have HR1 := Lib.hid hR1
        rw [← hR1] at hL9 HND
        have HPF1 : Hid (R1.length ≤ 150 ∧ FewL R1) := by
          show _ ∧ _
          rw [hR1]
          exact ⟨Nat.le_trans (afterD_len fs R) HPF.out.1, afterD_few HPF.out.2.1⟩
        have HB9 := Lib.hid hb9
        have KS2 := Lib.hid (KS.out _ _ _ _ hL9 (HB7.out.trans (hb9.mono HB7.out.size)) (by have := HPF1.out.1; omega) HPF1.out.2)
        have HL9 := Lib.hid hL9
        clear hn0 hn1 hnD hb9 hL9 KD HB8 hR1
        have gq : (((cq == 0) : Bool) != (cq == 0)) = false := by simp
        go_wp2_with fail
        refine KCk.out.mono ?_
        rintro e w9' ⟨rfl, rfl⟩
        go_wp2_with fail
        refine KS2.out.mono ?_
        rintro e w10 ⟨v2, rfl, hx2, hb10⟩
        obtain ⟨Y, hY⟩ : ∃ Y, Y = tellS 1 (fromS 0 now 1000000) 1099511627776 [] R1 := ⟨_, rfl⟩
        have HFY : Hid (FewX Y) := by show FewX _; rw [hY]; exact tellS_few (by have := HPF1.out.1; omega) HPF1.out.2
        have HYX : Hid (Y = wantD cq fs X) := by
          show _ = _
          rw [hY, HR1.out, HX.out, HCQ.out]; exact tell_afterD _ _ _ _ _ _
        rw [← hY] at hx2 HND
        rw [← HX.out, ← HM.out] at HND
        have HX2 := Lib.hid hx2
        obtain ⟨V2, c2, rfl, hc2, _⟩ := hx2
        obtain ⟨m2, hm2⟩ : ∃ m2, m2 = Y.length := ⟨_, rfl⟩
        rw [← hm2] at hc2 HX2 HND ⊢
        have HM2 := Lib.hid hm2
        have hm3 : m2 ≤ 1000000 := by rw [hm2]; exact HFY.out.1
        have HB10 : Hid (Below w7.heap.size w7 w10) := HB9.out.trans (hb10.mono HB9.out.size)
        have HL10 := Lib.hid (HL9.out.on hb10)
        clear hY hc2 hm2 hb10 HL9 KS2 KCk gq
        go_wp2_with fail
        go_loopw [19, 20] (fun ov iv wl => ∃ (i : Nat) (xs : List SerV), i ≤ m ∧ iv = .int .i64 i ∧ xs.length ≤ i ∧ Hid (OutQ 52 NoB w10 wl ov xs) ∧ Hid (cutV xs = wantD cq fs (X.take i)))
          (fun _ iv _ => m - (intOf iv).toNat)
        case atStart => exact ⟨0, [], Nat.zero_le _, rfl, Nat.le_refl _, OutQ.nil _ _ _, rfl⟩
        case round =>
          obtain ⟨i, xs, hi, rfl, hxl, HO, HT⟩ := hrel
          by_cases hlt : i < m
          · have hl2 : i < X.length := by rw [← HM.out]; exact hlt
            rcases HVL.out with h0 | ⟨b1, o1, e, hb1, hcl⟩
            · rw [h0] at hl2; simp at hl2
            subst e
            obtain ⟨y, hy⟩ : ∃ y, y = X[i] := ⟨_, rfl⟩
            obtain ⟨lx, sx, c0, c1, hlx, hzx, hsx, hzs⟩ : SerAt w7 w7.heap.size b1 (o1 + i * 2) y := by rw [hy]; exact hcl i hl2
            have hym : y ∈ X := by rw [hy]; exact List.getElem_mem hl2
            have hfy := HFX.out.2 y hym
            have HFO : Hid (wantD cq fs (X.take (i + 1)) = if (decide (cq = 0) && allF fs y.1) = true then cutV xs else cutV xs ++ [y]) := by
              show _ = _
              rw [wantD_snoc hl2, ← hy, ← HT.out]
            have KA : Hid (cq = 0 → ∀ w', Below w10.heap.size w10 w' → Calls Tryz.prog 27 #[.slice FA fn fc, lx] w' fun e w'' => e = .returned (.bool (allF fs y.1)) ∧ Below w'.heap.size w' w'') := fun h0 w' h => by
              have h7 := HB10.out.trans (h.mono HB10.out.size)
              have hch := check_len (fs := fs) (by rw [← HCQ.out]; exact h0)
              exact (ref_all (.slice FA fn fc) fs lx y.1 w' ((HF7.out _ h7).mono h7.size) ((hlx.below h7).mono h7.size) hfy.1 hch.1 hch.2).mono fun _ _ ⟨k1, k2⟩ => ⟨k1, k2.below⟩
            obtain ⟨LX, cx, rfl, _, _⟩ := id hlx
            obtain ⟨SX, cs, rfl, _, _⟩ := id hsx
            obtain ⟨nl, hnl⟩ : ∃ nl, nl = y.1.length := ⟨_, rfl⟩
            obtain ⟨ns, hns⟩ : ∃ ns, ns = y.2.length := ⟨_, rfl⟩
            rw [← hnl] at c0 hlx hzx KA
            rw [← hns] at c1 hsx hzs
            have HENT : Hid (∀ w, EntS NoB w10 w (Value.slice LX nl cx, Value.slice SX ns cs, y)) := fun w => ⟨⟨SL.low ((hlx.below HB10.out).mono HB10.out.size), hzx⟩, hzs, .inl (SR.low ((hsx.below HB10.out).mono HB10.out.size))⟩
            have KC2 : Hid (∀ w, Below w10.heap.size w10 w → w.cell? ⟨b1, o1 + i * 2, none⟩ = some (.slice LX nl cx) ∧ w.cell? ⟨b1, o1 + i * 2 + 1, none⟩ = some (.slice SX ns cs)) := fun w h => by
              have h7 := HB10.out.trans (h.mono HB10.out.size)
              exact ⟨(h7.cell hb1).trans c0, (h7.cell hb1).trans c1⟩
            obtain ⟨a0, a1⟩ := KC2.out wr HO.out.below
            have i1 : (i : Int) < (m : Int) := by omega
            have HXL := Lib.hid hxl
            have HLT : Hid (i + 1 ≤ m) := hlt
            obtain ⟨p, hp⟩ : ∃ p, p = allF fs y.1 := ⟨_, rfl⟩
            rw [← hp] at KA HFO
            clear hy hcl c0 c1 hlx hzx hsx hzs hnl hns hxl hl2 hp hym hfy
            by_cases hq0 : cq = 0
            · have g0 : (cq != 0) = false := by simp [hq0]
              have KA0 := Lib.hid (KA.out hq0 wr HO.out.below)
              have HFO : Hid (wantD cq fs (X.take (i + 1)) = if p = true then cutV xs else cutV xs ++ [y]) := by show _ = _; rw [HFO.out]; simp [hq0]
              clear KA hq0
              go_wp2_with fail
              refine KA0.out.mono ?_
              rintro e w11 ⟨rfl, hb11⟩
              have HO3 := Lib.hid (HO.out.on hb11)
              obtain ⟨a0', a1'⟩ := KC2.out w11 HO3.out.below
              clear hb11 KA0 a0 a1 HO
              cases p with
              | true =>
                have HT2 : Hid (cutV xs = wantD cq fs (X.take (i + 1))) := by show _ = _; rw [HFO.out]; simp
                go_wp2_with fail
                go_roundw
                case rel => exact ⟨i + 1, _, HLT.out, by go_num, by have := HXL.out; omega, HO3.out, HT2.out⟩
                case measure => have := HLT.out; simp [intOf]; omega
              | false =>
                have HT2 : Hid (cutV (xs ++ [(Value.slice LX nl cx, Value.slice SX ns cs, y)]) = wantD cq fs (X.take (i + 1))) := by show _ = _; rw [HFO.out]; simp [cutV]
                go_wp2_with (first | (at_builtin; refine app1Q rfl _ _ 42 52 rfl Tryz.underlying42 info_Se (by decide) _ xs (Value.slice LX nl cx, Value.slice SX ns cs, y) rfl (HO3.out.on ((Below.refl _ _).alloc (Nat.le_refl _) _)) w11.heap.size 1 rfl (new_cell w11 _ _ 0) (new_cell w11 _ _ 1) (HENT.out _) ?c1 ?_) | fail)
                case c1 => have := HXL.out; omega
                intro v' w' hO'
                have HO' := Lib.hid hO'
                have hx2 : (xs ++ [((Value.slice LX nl cx, Value.slice SX ns cs, y) : SerV)]).length ≤ i + 1 := by have := HXL.out; simp only [List.length_append, List.length_singleton]; omega
                clear hO'
                go_wp2_with fail
                go_roundw
                case rel => exact ⟨i + 1, _, HLT.out, by go_num, hx2, HO'.out, HT2.out⟩
                case measure => have := HLT.out; simp [intOf]; omega
            · have g0 : (cq != 0) = true := by simp [hq0]
              have HO3 := HO
              clear HO KA
              have HT2 : Hid (cutV (xs ++ [(Value.slice LX nl cx, Value.slice SX ns cs, y)]) = wantD cq fs (X.take (i + 1))) := by show _ = _; rw [HFO.out]; simp [cutV, hq0]
              go_wp2_with (first | (at_builtin; refine app1Q rfl _ _ 42 52 rfl Tryz.underlying42 info_Se (by decide) _ xs (Value.slice LX nl cx, Value.slice SX ns cs, y) rfl (HO3.out.on ((Below.refl _ _).alloc (Nat.le_refl _) _)) wr.heap.size 1 rfl (new_cell wr _ _ 0) (new_cell wr _ _ 1) (HENT.out _) ?c1 ?_) | fail)
              case c1 => have := HXL.out; omega
              intro v' w' hO'
              have HO' := Lib.hid hO'
              have hx2 : (xs ++ [((Value.slice LX nl cx, Value.slice SX ns cs, y) : SerV)]).length ≤ i + 1 := by have := HXL.out; simp only [List.length_append, List.length_singleton]; omega
              clear hO'
              go_wp2_with fail
              go_roundw
              case rel => exact ⟨i + 1, _, HLT.out, by go_num, hx2, HO'.out, HT2.out⟩
              case measure => have := HLT.out; simp [intOf]; omega
          · have hkn : i = m := by omega
            have i1 : ¬ (i : Int) < (m : Int) := by omega
            have hcy : cutV xs = Y := by rw [HT.out, hkn, HM.out, List.take_length, HYX.out]
            have hxq : xs.length = m2 := by rw [HM2.out, ← hcy]; simp [cutV]
            have hwant := (HO.out.rdXS (fun _ e => e.elim)).rd
            rw [hcy] at hwant
            obtain ⟨A3, c3, rfl⟩ := HO.out.form
            rw [hxq] at hwant ⊢
            have HWT := Lib.hid hwant
            have HBr : Hid (Below w7.heap.size w7 wr) := HB10.out.trans (HO.out.below.mono HB10.out.size)
            have HB10r : Hid (Below w10.heap.size w10 wr) := HO.out.below
            have KS3 := Lib.hid (KS.out _ _ _ _ (HL7.out.on HBr.out) (HB7.out.trans (HBr.out.mono HB7.out.size)) (by have := HPF.out.1; omega) HPF.out.2.1)
            clear HT hxl hlt hi hcy hxq hwant HO hkn
            go_wp2_with fail
            refine KS3.out.mono ?_
            rintro e w11 ⟨v3, rfl, hx3, hb11⟩
            rw [← HX.out] at hx3
            have HX3 := Lib.hid hx3
            obtain ⟨V3, c4, rfl, hc4, _⟩ := hx3
            rw [← HM.out] at hc4 HX3 ⊢
            have HB11 : Hid (Below w7.heap.size w7 w11) := HBr.out.trans (hb11.mono HBr.out.size)
            have HB1011 : Hid (Below w10.heap.size w10 w11) := HB10r.out.trans (hb11.mono HB10r.out.size)
            have KSa : Hid (Calls Tryz.prog 15 #[.slice V2 m2 c2, .slice A3 m2 c3] w11 fun e w' => e = .returned (.bool true) ∧ Below w11.heap.size w11 w') := by
              refine (sameX_walk _ _ Y Y w11 (HX2.out.on HB1011.out) (HWT.out.on hb11) HFY.out).mono ?_
              rintro e w' ⟨k1, k2⟩
              exact ⟨by rw [k1]; simp, k2.below⟩
            have KSb : Hid (∀ w', Below w11.heap.size w11 w' → Calls Tryz.prog 15 #[.slice V3 m c4, .slice VL m vc] w' fun e w'' => e = .returned (.bool true) ∧ Below w'.heap.size w' w'') := fun w' h => by
              have h7 := HB11.out.trans (h.mono HB11.out.size)
              refine (sameX_walk _ _ X X w' (HX3.out.on h) (HX1.out.on h7) HFX.out).mono ?_
              rintro e w'' ⟨k1, k2⟩
              exact ⟨by rw [k1]; simp, k2.below⟩
            have hw1 : IntKind.i64.wrap ((m : Int) - (m2 : Int)) = (m : Int) - (m2 : Int) := IntWalk.i64_in _ (by omega)
            have hnl : ¬ nD < (m : Int) - (m2 : Int) := by have := HND.out; omega
            clear hc4 hb11 KS3 HBr HB10r
            go_wp2_with fail
            refine KSa.out.mono ?_
            rintro e w12 ⟨rfl, hb12⟩
            have KSb' := Lib.hid (KSb.out w12 hb12)
            have HB12 : Hid (Below w7.heap.size w7 w12) := HB11.out.trans (hb12.mono HB11.out.size)
            have HB1012 : Hid (Below w10.heap.size w10 w12) := HB1011.out.trans (hb12.mono HB1011.out.size)
            clear KSa KSb hb12
            go_wp2_with fail
            refine KSb'.out.mono ?_
            rintro e w13 ⟨rfl, hb13⟩
            have HB13 : Hid (Below w7.heap.size w7 w13) := HB12.out.trans (hb13.mono HB12.out.size)
            have HB1013 : Hid (Below w10.heap.size w10 w13) := HB1012.out.trans (hb13.mono HB1012.out.size)
            have KD2 := liv_delB (HL10.out.on HB1013.out) HB13.out (RdF.empty _ _) (by have := HPF1.out.1; omega) HPF1.out.2
            rw [show checkF [] = 0 by decide, afterD_nil] at KD2
            have KD2 := Lib.hid KD2
            clear KSb' hb13
            go_wp2_with fail
            refine KD2.out.mono ?_
            rintro e w14 ⟨nE, rfl, hL14, hb14, hE0, hE1, hED⟩
            have hE2 : (nE : Int) ≥ (m2 : Int) := by
              have h := hED 1 (fromS 0 now 1000000) 1099511627776 []
              rw [tellS_nil] at h
              have h2 := HYX.out
              have h3 : Y = tellS 1 (fromS 0 now 1000000) 1099511627776 [] R1 := by rw [HYX.out, HR1.out, HX.out, HCQ.out]; exact (tell_afterD _ _ _ _ _ _).symm
              rw [← h3, ← HM2.out] at h
              simp at h
              omega
            have HB14 := Lib.hid hb14
            have HL14 := Lib.hid hL14
            have KS5 := Lib.hid (KS.out _ _ _ _ hL14 (HB7.out.trans (hb14.mono HB7.out.size)) (Nat.zero_le _) FewL.nil)
            clear hED hL14 hb14 KD2
            go_wp2_with fail
            refine KS5.out.mono ?_
            rintro e w15 ⟨v5, rfl, hx5, hb15⟩
            rw [tellS_nil] at hx5
            obtain ⟨V5, c5, rfl, _, _⟩ := hx5
            have HB15 : Hid (Below w7.heap.size w7 w15) := HB14.out.trans (hb15.mono HB14.out.size)
            have HL15 := Lib.hid (HL14.out.on hb15)
            have HRL7 : Hid (∀ w', Below w7.heap.size w7 w' → RdL w' w7.heap.size (.slice LA ln lc) rl) := fun w' h => ((HRL.out.below HB7.out).mono HB7.out.size).below h
            have KT := liv_takes HL15.out (.slice LA ln lc) rl (rt, rm, rx, rz) ((HRL7.out _ HB15.out).mono HB15.out.size) HZL.out
            obtain ⟨tk, htk⟩ : ∃ tk, tk = takesR 1000000 now (rl, (rt, rm, rx, rz)) := ⟨_, rfl⟩
            rw [← htk] at KT
            unfold vR at KT
            simp only at KT
            have KT := Lib.hid KT
            have HTK := Lib.hid htk
            obtain ⟨a0, a1, a2, a3, a4⟩ := KC.out w15 (HK7.out w15 HB15.out)
            clear hb15 KS5 HL14 HB14 htk
            go_wp2_with fail
            refine KT.out.mono ?_
            rintro e w16 ⟨rfl, hb16⟩
            have HB16 : Hid (Below w7.heap.size w7 w16) := HB15.out.trans (hb16.mono HB15.out.size)
            have HL16 := Lib.hid (HL15.out.on hb16)
            obtain ⟨d0, d1, d2, d3, d4⟩ := KC.out w16 (HK7.out w16 HB16.out)
            obtain ⟨w17, hw17⟩ : ∃ w17, w17 = w16.alloc (.cells #[.slice LA ln lc, .int .i64 rt, .int .i64 rm, .int .i64 rx, .int .i64 rz] 28) := ⟨_, rfl⟩
            have hx17 : Below w16.heap.size w16 w17 := by rw [hw17]; exact (Below.refl _ _).alloc (Nat.le_refl _) _
            have KAd := liv_addU HL16.out HB16.out hx17 (row1 (r := (rl, (rt, rm, rx, rz))) HB16.out hw17 (HRL7.out _ (Below.refl _ _)) HZL.out) (by simp) (Nat.zero_le _)
            rw [refused_one, ← HTK.out] at KAd
            have KAd := Lib.hid KAd
            clear a0 a1 a2 a3 a4 hb16 KT HL15 HB15 hx17
            go_wp2_with fail
            rw [← hw17]
            clear hw17
            refine KAd.out.mono ?_
            rintro e w18 ⟨rfl, hL18, hb18⟩
            have KS6 := Lib.hid (KS.out _ _ _ _ hL18 (HB7.out.trans (hb18.mono HB7.out.size)) (by unfold addR; simp; have := List.length_filter_le (takesR 1000000 now) [(rl, (rt, rm, rx, rz))]; simp at this; omega) (FewL.add FewL.nil (fun r hr => by
              obtain rfl : r = (rl, (rt, rm, rx, rz)) := by simpa using hr
              exact HFA2.out.snoc.2.2 _ (by simp))))
            have HB18 := Lib.hid hb18
            clear hL18 hb18 KAd d0 d1 d2 d3 d4 HL16 HB16
            have KS6' : Hid (Calls Tryz.prog 14 #[.pointer (some ⟨o2, 0, none⟩), .slice none 0 0, .int .i64 0, .int .i64 1099511627776] w18 fun e w' => ∃ V c, e = .returned (.tuple #[.slice V (if tk = true then 1 else 0) c, .int .i64 0]) ∧ Below w18.heap.size w18 w') := by
              refine KS6.out.mono ?_
              rintro e w' ⟨v, rfl, ⟨V, c, rfl, _, _⟩, hb⟩
              refine ⟨V, c, ?_, hb⟩
              rw [tell_one, ← HTK.out]
            clear KS6
            cases tk with
            | true =>
              rw [if_pos rfl] at KS6'
              go_wp2_with fail
              refine KS6'.out.mono ?_
              rintro e w19 ⟨V6, c6, rfl, hb19⟩
              go_wp2_with fail
              go_ret
              exact ⟨by first | rfl | simp, HB7.out.trans ((HB18.out.trans (hb19.mono HB18.out.size)).mono HB7.out.size)⟩
            | false =>
              rw [if_neg (by simp)] at KS6'
              go_wp2_with fail
              refine KS6'.out.mono ?_
              rintro e w19 ⟨V6, c6, rfl, hb19⟩
              go_wp2_with fail
              go_ret
              exact ⟨by first | rfl | simp, HB7.out.trans ((HB18.out.trans (hb19.mono HB18.out.size)).mono HB7.out.size)⟩
end Go.Proofs.YtkgcbeokfilehaaGreatDoor
