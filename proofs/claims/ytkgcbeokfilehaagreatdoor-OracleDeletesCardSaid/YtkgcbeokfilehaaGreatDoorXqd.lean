/-
  The reference: put.
-/
import Derived.Test.YtkgcbeokfilehaaGreatDoorXsd
namespace Go.Proofs.YtkgcbeokfilehaaGreatDoor
open Go.RowKit Go.Sort Go.Maps
/-- One sample alone, in a block of its own. -/
theorem Own.one {w w' : World} {B : Nat} {s : Smp} (hw : w' = w.alloc (.cells #[.int .i64 s.1, .int .i64 s.2.1, .int .i64 s.2.2.1, .int .i64 s.2.2.2] 54)) (hB : B ≤ w.heap.size) : Own w' B 54 (.slice (some ⟨w.heap.size, 0, none⟩) 1 1) [s] := by
  subst hw
  refine ⟨rfl, .inr ⟨w.heap.size, 1, _, rfl, hB, heap_alloc_new _ _, Nat.le_refl _, ?_, ?_, ?_⟩⟩
  · unfold maxLen; decide
  · rfl
  · rfl
theorem own_set {w : World} {B e b i : Nat} {v u : Value} {l : List Smp} (h : Own w B e v l) (hb : b < B) : Own (w.setCell ⟨b, i, none⟩ u) B e v l :=
  owns_same h fun g hg => RowKit.Below.heap_setCell w ⟨b, i, none⟩ u g (fun e => by have := (World.ownsRow.lt h g hg).1; have e : g = b := e; omega)
set_option maxRecDepth 100000 in
set_option maxHeartbeats 8000000 in
/-- eskerref20.put. -/
theorem ref_put (every keep now : Int) (Lv : Value) (L : List Ser) (lv : Value) (l : Lbs) (s : Smp) (W : World) (S : Nat → Prop) (hS : ∀ k, S k → k < W.heap.size) (hL : RdXS S W Lv L) (hR : SL S W lv l) (hzl : Nz lv) (hf : L.length ≤ 100000 ∧ ∀ x ∈ L, x.1.length ≤ 1000000 ∧ x.2.length ≤ 100000) :
    Calls Tryz.prog 81 #[vO every keep now Lv, lv, vS s] W fun e w' => ∃ v, e = .returned (vO every keep now v) ∧ RdXS S w' v (putR L l s) ∧ Nz v ∧ Below W.heap.size W w' := by
  obtain ⟨t, m, x, z⟩ := s
  obtain ⟨W1, hW1⟩ : ∃ W1, W1 = ((W.alloc (.cells #[.int .i64 every, .int .i64 keep, .int .i64 now, Lv] 65)).alloc (.cells #[.int .i64 t, .int .i64 m, .int .i64 x, .int .i64 z] 54)).alloc (.cells #[.int .i64 0, .int .i64 0, .int .i64 0, .slice none 0 0] 65) := ⟨_, rfl⟩
  have HE1 : Hid (Ext W W1) := by show Ext _ _; rw [hW1]; exact (((Ext.refl W).alloc _).alloc _).alloc _
  have s1 : W1.heap.size = W.heap.size + 3 := by rw [hW1]; simp
  obtain ⟨S1, hS1⟩ : ∃ S1 : Nat → Prop, S1 = fun k => S k ∨ (W.heap.size ≤ k ∧ k < W1.heap.size) := ⟨_, rfl⟩
  have HS : Hid (∀ k, S1 k → k < W1.heap.size) := fun k hk => by
    rw [hS1] at hk
    rcases hk with hk | hk
    · have := hS k hk; omega
    · omega
  have hdown : ∀ x, x < W.heap.size → S1 x → S x := fun x hx h => by
    rw [hS1] at h
    rcases h with h | h
    · exact h
    · omega
  have HUP : Hid (∀ x, S x → S1 x) := fun x h => by rw [hS1]; exact .inl h
  have HAT : Hid (∀ k, W.heap.size ≤ k ∧ k < W1.heap.size → S1 k) := fun k h => by rw [hS1]; exact .inr h
  replace hL : RdXS S1 W1 Lv L := hL.chg (.of_below HE1.out.below) (fun _ e => e.elim) hdown
  replace hR : SL S1 W1 lv l := hR.chg (.of_below HE1.out.below) (fun _ e => e.elim) hdown
  clear hdown hS hS1
  obtain ⟨A, c, rfl, hc, hA⟩ := hL
  obtain ⟨LA, lc, rfl, hlc, hLA⟩ := id hR.rd
  obtain ⟨n, hn⟩ : ∃ n, n = L.length := ⟨_, rfl⟩
  obtain ⟨ln, hln⟩ : ∃ ln, ln = l.length := ⟨_, rfl⟩
  rw [← hn] at ⊢
  rw [← hln] at hR hzl ⊢
  rw [← hn] at hW1
  have KC : Hid (∀ w, Below W1.heap.size W1 w → (w.cell? ⟨W.heap.size, 3, none⟩ = some (.slice A n c) ∧ w.cell? ⟨W.heap.size + 1, 0, none⟩ = some (.int .i64 t) ∧ w.cell? ⟨W.heap.size + 1, 1, none⟩ = some (.int .i64 m) ∧ w.cell? ⟨W.heap.size + 1, 2, none⟩ = some (.int .i64 x) ∧ w.cell? ⟨W.heap.size + 1, 3, none⟩ = some (.int .i64 z)) ∧ w.cell? ⟨W.heap.size, 0, none⟩ = some (.int .i64 every) ∧ w.cell? ⟨W.heap.size, 1, none⟩ = some (.int .i64 keep) ∧ w.cell? ⟨W.heap.size, 2, none⟩ = some (.int .i64 now) ∧ w.frozen? ⟨W.heap.size, 3, none⟩ = false ∧ (∀ i, w.frozen? ⟨W.heap.size + 1 + 1, i, none⟩ = false) ∧ w.cell? ⟨W.heap.size + 1 + 1, 0, none⟩ = some (.int .i64 0) ∧ w.cell? ⟨W.heap.size + 1 + 1, 1, none⟩ = some (.int .i64 0) ∧ w.cell? ⟨W.heap.size + 1 + 1, 2, none⟩ = some (.int .i64 0) ∧ w.cell? ⟨W.heap.size + 1 + 1, 3, none⟩ = some (.slice none 0 0)) := fun w h => by
    have l0 : W.heap.size < W1.heap.size := by omega
    have l1 : W.heap.size + 1 < W1.heap.size := by omega
    have l2 : W.heap.size + 1 + 1 < W1.heap.size := by omega
    have hbz : W1.heap[W.heap.size + 1 + 1]? = some (.cells #[.int .i64 0, .int .i64 0, .int .i64 0, .slice none 0 0] 65 (0, 0)) := by
      have : W.heap.size + 1 + 1 = ((W.alloc (.cells #[.int .i64 every, .int .i64 keep, .int .i64 now, .slice A n c] 65)).alloc (.cells #[.int .i64 t, .int .i64 m, .int .i64 x, .int .i64 z] 54)).heap.size := by simp
      rw [this, hW1]; exact heap_alloc_new _ _
    have zz : ∀ i, W1.cell? ⟨W.heap.size + 1 + 1, i, none⟩ = (#[.int .i64 0, .int .i64 0, .int .i64 0, .slice none 0 0] : Array Value)[i]? := fun i => by simp [World.cell?, hbz]
    obtain ⟨Wa, hWa⟩ : ∃ Wa, Wa = W.alloc (.cells #[.int .i64 every, .int .i64 keep, .int .i64 now, .slice A n c] 65) := ⟨_, rfl⟩
    have ea : Wa.heap.size = W.heap.size + 1 := by rw [hWa]; simp
    rw [← hWa] at hW1
    have hb : W1.heap[W.heap.size]? = some (.cells #[.int .i64 every, .int .i64 keep, .int .i64 now, .slice A n c] 65 (0, 0)) := by
      have : Below Wa.heap.size Wa W1 := by rw [hW1]; exact (((Ext.refl _).alloc _).alloc _).below
      rw [this.block W.heap.size (by omega), hWa]; exact heap_alloc_new _ _
    have q : ∀ i, W1.cell? ⟨W.heap.size, i, none⟩ = (#[.int .i64 every, .int .i64 keep, .int .i64 now, .slice A n c] : Array Value)[i]? := fun i => by simp [World.cell?, hb]
    have q1 : W1.cell? ⟨Wa.heap.size, 0, none⟩ = some (.int .i64 t) := by rw [hW1]; exact ((Ext.refl _).alloc _).cell_some (new_cell _ _ _ 0)
    have q2 : W1.cell? ⟨Wa.heap.size, 1, none⟩ = some (.int .i64 m) := by rw [hW1]; exact ((Ext.refl _).alloc _).cell_some (new_cell _ _ _ 1)
    have q3 : W1.cell? ⟨Wa.heap.size, 2, none⟩ = some (.int .i64 x) := by rw [hW1]; exact ((Ext.refl _).alloc _).cell_some (new_cell _ _ _ 2)
    have q4 : W1.cell? ⟨Wa.heap.size, 3, none⟩ = some (.int .i64 z) := by rw [hW1]; exact ((Ext.refl _).alloc _).cell_some (new_cell _ _ _ 3)
    rw [ea] at q1 q2 q3 q4
    refine ⟨⟨(h.cell l0).trans (q 3), (h.cell l1).trans q1, (h.cell l1).trans q2, (h.cell l1).trans q3, (h.cell l1).trans q4⟩, (h.cell l0).trans (q 0), (h.cell l0).trans (q 1), (h.cell l0).trans (q 2), ?_, fun i => ?_, (h.cell l2).trans (zz 0), (h.cell l2).trans (zz 1), (h.cell l2).trans (zz 2), (h.cell l2).trans (zz 3)⟩
    · rw [h.frozen l0]
      simp [World.frozen?, hb]
    · rw [h.frozen l2]
      simp [World.frozen?, hbz]
  have HS1 := Lib.hid s1
  have HA := Lib.hid hA
  have HN := Lib.hid hn
  have HF := Lib.hid hf
  have HRL := Lib.hid hR
  have HZL := Lib.hid hzl
  have hn1 : n ≤ 100000 := by rw [hn]; exact hf.1
  have KP : Hid (∀ v q w, Rd w w.heap.size v q → Nz v → q.length ≤ 100000 → Calls Tryz.prog 106 #[v, .agg #[.int .i64 t, .int .i64 m, .int .i64 x, .int .i64 z]] w fun e w' => ∃ r, e = .returned r ∧ Rd w' w'.heap.size r (putS q (t, m, x, z)) ∧ Nz r ∧ Below w.heap.size w w' ∧ (Own w' w.heap.size 54 r (putS q (t, m, x, z)) ∨ (r = v ∧ putS q (t, m, x, z) = q))) := fun v q w h1 h2 h3 => put_walkO v q (t, m, x, z) w h1 h2 h3
  unfold vO vS
  clear hc hA hlc hLA hn hln hf hR hzl s1
  go_enter Tryz.func81, Tryz.ntmps81
  go_wp2_with fail
  rw [← hW1]
  clear hW1
  go_loopw [7, 8, 9, 10, 11] (fun ov dv iv _ _ wl => ∃ (k : Nat) (xs : List SerV) (dn : Bool), k ≤ n ∧ iv = .int .i64 k ∧ dv = .bool dn ∧ xs.length ≤ 2 * k ∧ Hid (OutQ 107 S1 W1 wl ov xs) ∧ Hid ((cutV xs, dn) = (L.take k).foldl (stepP l (t, m, x, z)) ([], false)))
    (fun _ _ iv _ _ _ => n - (intOf iv).toNat)
  case atStart => exact ⟨0, [], false, Nat.zero_le _, rfl, rfl, Nat.le_refl _, OutQ.nil _ _ _, rfl⟩
  case round =>
    obtain ⟨k, xs, dn, hk, rfl, rfl, hxl, HO, HT⟩ := hrel
    obtain ⟨⟨b0, b1, b2, b3, b4⟩, b5, b6, b7, b8, bz, z0, z1, z2, z3⟩ := KC.out wr HO.out.below
    by_cases hlt : k < n
    · have hl2 : k < L.length := by rw [← HN.out]; exact hlt
      rcases HA.out with h0 | ⟨b, o, e, hb, hbS, hcl⟩
      · rw [h0] at hl2; simp at hl2
      subst e
      obtain ⟨y, hy⟩ : ∃ y, y = L[k] := ⟨_, rfl⟩
      obtain ⟨lx, sx, c0, c1, ⟨hlx, hzx⟩, hsx, hzs⟩ : SerS S1 W1 b (o + k * 2) y := by rw [hy]; exact hcl k hl2
      have HFO : Hid ((L.take (k + 1)).foldl (stepP l (t, m, x, z)) ([], false) = stepP l (t, m, x, z) (cutV xs, dn) y) := by
        show _ = _
        rw [List.take_succ_eq_append_getElem hl2, ← hy, List.foldl_append, ← HT.out]; rfl
      obtain ⟨hyl, hys⟩ := HF.out.2 y (by rw [hy]; exact List.getElem_mem hl2)
      have KCm := Lib.hid (fun w (h : Below W1.heap.size W1 w) => ref_cmp lx (.slice LA ln lc) y.1 l w (hlx.on h).rd (HRL.out.on h).rd hyl)
      have KPm := Lib.hid (fun w (h : Below W1.heap.size W1 w) => KP.out sx y.2 w (hsx.on h).rd hzs hys)
      have KRd := Lib.hid (fun w (h : Below W1.heap.size W1 w) => (hsx.on h).rd)
      obtain ⟨LX, cx, rfl, _, _⟩ := id hlx.rd
      obtain ⟨SX, cs, rfl, _, _⟩ := id hsx.rd
      obtain ⟨nl, hnl⟩ : ∃ nl, nl = y.1.length := ⟨_, rfl⟩
      obtain ⟨ns, hns⟩ : ∃ ns, ns = y.2.length := ⟨_, rfl⟩
      rw [← hnl] at c0 hlx hzx KCm
      rw [← hns] at c1 hsx hzs KPm KRd
      have HENT : Hid (∀ w, EntS S1 W1 w (Value.slice LX nl cx, Value.slice SX ns cs, y)) := fun w => ⟨⟨hlx, hzx⟩, hzs, .inl hsx⟩
      have HLX := Lib.hid (And.intro hlx hzx)
      have HSX := Lib.hid hsx
      have KC2 : Hid (∀ w, Below W1.heap.size W1 w → w.cell? ⟨b, o + k * 2, none⟩ = some (.slice LX nl cx) ∧ w.cell? ⟨b, o + k * 2 + 1, none⟩ = some (.slice SX ns cs)) := fun w h => ⟨(h.cell hb).trans c0, (h.cell hb).trans c1⟩
      obtain ⟨a0, a1⟩ := KC2.out wr HO.out.below
      have i1 : (k : Int) < (n : Int) := by omega
      obtain ⟨cc, hcc⟩ : ∃ cc, cc = cmpRow y.1 l := ⟨_, rfl⟩
      rw [← hcc] at KCm
      have HCC := Lib.hid hcc
      have HXL := Lib.hid hxl
      clear hy hcl c0 c1 hlx hzx hsx hzs hyl hys hnl hns hcc hxl hl2 hbS
      go_wp2_with fail
      refine (KCm.out _ HO.out.below).mono ?_
      rintro e w2 ⟨rfl, hE2⟩
      have HO2 := Lib.hid (HO.out.on hE2.below)
      obtain ⟨⟨b0', b1', b2', b3', b4'⟩, b5', b6', b7', b8', bz', z0', z1', z2', z3'⟩ := KC.out w2 HO2.out.below
      obtain ⟨a0', a1'⟩ := KC2.out w2 HO2.out.below
      clear hE2 KCm b0 b1 b2 b3 b4 b5 b6 b7 b8 bz z0 z1 z2 z3 bz' z0' z1' z2' z3' a0 a1 HO
      by_cases hc0 : cc < 0
      · have i3 : ¬ (0 : Int) < cc := by omega
        have i4 : ((cc : Int) == 0) = false := by simp; omega
        have HT2 : Hid ((cutV (xs ++ [(Value.slice LX nl cx, Value.slice SX ns cs, y)]), dn) = (L.take (k + 1)).foldl (stepP l (t, m, x, z)) ([], false)) := by
          show _ = _
          rw [HFO.out]
          unfold stepP
          rw [← HCC.out]
          simp only [cutV, List.map_append, List.map_cons, List.map_nil]
          rw [if_neg (by omega), if_neg (by omega)]
        clear hc0
        obtain ⟨wx, hwx⟩ : ∃ wx, wx = w2.alloc (.cells #[.slice LX nl cx, .slice SX ns cs] 107) := ⟨_, rfl⟩
        have HOx := Lib.hid (HO2.out.on (w' := wx) (by rw [hwx]; exact (Below.refl _ _).alloc (Nat.le_refl _) _))
        have HEx : Hid (wx.heap.size = w2.heap.size + 1) := by show _ = _; rw [hwx]; simp
        have HWX := Lib.hid hwx
        clear hwx
        go_wp2_with (first | (at_builtin; rw [← HWX.out]; refine app1Q rfl _ _ 63 107 rfl Tryz.underlying63 info_Se20 (by decide) _ xs (Value.slice LX nl cx, Value.slice SX ns cs, y) rfl (HOx.out.on ((Below.refl _ _).alloc (Nat.le_refl _) _)) (w2.heap.size + 1) 1 rfl (HEx.out ▸ new_cell wx _ _ 0) (HEx.out ▸ new_cell wx _ _ 1) (HENT.out _) ?c1 ?_) | fail)
        case c1 => have := HXL.out; (try simp only [List.length_append, List.length_singleton]); omega
        intro v' w' hO'
        have HO' := Lib.hid hO'
        clear hO'
        have hx2 : (xs ++ [(Value.slice LX nl cx, Value.slice SX ns cs, y)]).length ≤ 2 * (k + 1) := by have := HXL.out; simp only [List.length_append, List.length_cons, List.length_nil]; omega
        go_wp2_with fail
        go_roundw
        case rel => exact ⟨k + 1, _, dn, by omega, by go_num, rfl, hx2, HO'.out, HT2.out⟩
        case measure => simp [intOf]; omega
      · by_cases hp : 0 < cc
        · have i4 : ((cc : Int) == 0) = false := by simp; omega
          have i5 : ¬ cc = 0 := by omega
          cases dn with
          | true =>
            have HT2 : Hid ((cutV (xs ++ [(Value.slice LX nl cx, Value.slice SX ns cs, y)]), true) = (L.take (k + 1)).foldl (stepP l (t, m, x, z)) ([], false)) := by
              show _ = _
              rw [HFO.out]
              unfold stepP
              rw [← HCC.out]
              simp [cutV, i5]
            clear hc0 i5
            obtain ⟨wx, hwx⟩ : ∃ wx, wx = w2.alloc (.cells #[.slice LX nl cx, .slice SX ns cs] 107) := ⟨_, rfl⟩
            have HOx := Lib.hid (HO2.out.on (w' := wx) (by rw [hwx]; exact (Below.refl _ _).alloc (Nat.le_refl _) _))
            have HEx : Hid (wx.heap.size = w2.heap.size + 1) := by show _ = _; rw [hwx]; simp
            have HWX := Lib.hid hwx
            clear hwx
            go_wp2_with (first | (at_builtin; rw [← HWX.out]; refine app1Q rfl _ _ 63 107 rfl Tryz.underlying63 info_Se20 (by decide) _ xs (Value.slice LX nl cx, Value.slice SX ns cs, y) rfl (HOx.out.on ((Below.refl _ _).alloc (Nat.le_refl _) _)) (w2.heap.size + 1) 1 rfl (HEx.out ▸ new_cell wx _ _ 0) (HEx.out ▸ new_cell wx _ _ 1) (HENT.out _) ?c1 ?_) | fail)
            case c1 => have := HXL.out; (try simp only [List.length_append, List.length_singleton]); omega
            intro v' w' hO'
            have HO' := Lib.hid hO'
            clear hO'
            have hx2 : (xs ++ [(Value.slice LX nl cx, Value.slice SX ns cs, y)]).length ≤ 2 * (k + 1) := by have := HXL.out; simp only [List.length_append, List.length_cons, List.length_nil]; omega
            go_wp2_with fail
            go_roundw
            case rel => exact ⟨k + 1, _, true, by omega, by go_num, rfl, hx2, HO'.out, HT2.out⟩
            case measure => simp [intOf]; omega
          | false =>
            have HT2 : Hid ((cutV (xs ++ [(Value.slice LA ln lc, Value.slice (some ⟨w2.heap.size, 0, none⟩) 1 1, (l, [(t, m, x, z)])), (Value.slice LX nl cx, Value.slice SX ns cs, y)]), true) = (L.take (k + 1)).foldl (stepP l (t, m, x, z)) ([], false)) := by
              show _ = _
              rw [HFO.out]
              unfold stepP
              rw [← HCC.out]
              simp [cutV, i5, hp]
            clear hc0 i5
            obtain ⟨ws, hws⟩ : ∃ ws, ws = w2.alloc (.cells #[.int .i64 t, .int .i64 m, .int .i64 x, .int .i64 z] 54) := ⟨_, rfl⟩
            have HEs : Hid (ws.heap.size = w2.heap.size + 1) := by show _ = _; rw [hws]; simp
            have HOs := Lib.hid (HO2.out.on (w' := ws) (by rw [hws]; exact (Below.refl _ _).alloc (Nat.le_refl _) _))
            have HOne := Lib.hid (Own.one (s := (t, m, x, z)) hws HO2.out.below.size)
            have HWS := Lib.hid hws
            clear hws
            go_wp2_with (first | (at_builtin; rw [← HWS.out]; refine app1Q rfl _ _ 63 107 rfl Tryz.underlying63 info_Se20 (by decide) _ xs (Value.slice LA ln lc, Value.slice (some ⟨w2.heap.size, 0, none⟩) 1 1, (l, [(t, m, x, z)])) rfl (HOs.out.on ((Below.refl _ _).alloc (Nat.le_refl _) _)) (w2.heap.size + 1) 1 rfl (HEs.out ▸ new_cell ws _ _ 0) (HEs.out ▸ new_cell ws _ _ 1) ⟨⟨HRL.out, HZL.out⟩, nz_some _ _ _, .inr (HOne.out.alloc _)⟩ ?c1 ?_) | fail)
            case c1 => have := HXL.out; omega
            intro v' w' hO'
            have HO' := Lib.hid hO'
            clear hO'
            have HOa := HO'
            obtain ⟨w5, hw5⟩ : ∃ w5, w5 = w' := ⟨_, rfl⟩
            rw [← hw5] at HOa ⊢
            clear HO' hw5
            obtain ⟨⟨d0, d1, d2, d3, d4⟩, d5, d6, d7, d8, dz, y0, y1, y2, y3⟩ := KC.out w5 HOa.out.below
            obtain ⟨e0, e1⟩ := KC2.out w5 HOa.out.below
            clear b0' b1' b2' b3' b4' b5' b6' b7' b8' a0' a1' HOne HOs
            obtain ⟨wx, hwx⟩ : ∃ wx, wx = w5.alloc (.cells #[.slice LX nl cx, .slice SX ns cs] 107) := ⟨_, rfl⟩
            have HOx := Lib.hid (HOa.out.on (w' := wx) (by rw [hwx]; exact (Below.refl _ _).alloc (Nat.le_refl _) _))
            have HEx : Hid (wx.heap.size = w5.heap.size + 1) := by show _ = _; rw [hwx]; simp
            have HWX := Lib.hid hwx
            clear hwx
            go_wp2_with (first | (at_builtin; rw [← HWX.out]; refine app1Q rfl _ _ 63 107 rfl Tryz.underlying63 info_Se20 (by decide) _ (xs ++ [(Value.slice LA ln lc, Value.slice (some ⟨w2.heap.size, 0, none⟩) 1 1, (l, [(t, m, x, z)]))]) (Value.slice LX nl cx, Value.slice SX ns cs, y) rfl (HOx.out.on ((Below.refl _ _).alloc (Nat.le_refl _) _)) (w5.heap.size + 1) 1 rfl (HEx.out ▸ new_cell wx _ _ 0) (HEx.out ▸ new_cell wx _ _ 1) (HENT.out _) ?c1 ?_) | fail)
            case c1 => have := HXL.out; (try simp only [List.length_append, List.length_singleton]); omega
            intro v' w' hO'
            have HO' := Lib.hid hO'
            clear hO'
            have hx2 : (xs ++ [(Value.slice LA ln lc, Value.slice (some ⟨w2.heap.size, 0, none⟩) 1 1, (l, [(t, m, x, z)])), (Value.slice LX nl cx, Value.slice SX ns cs, y)]).length ≤ 2 * (k + 1) := by have := HXL.out; simp only [List.length_append, List.length_cons, List.length_nil]; omega
            go_wp2_with fail
            go_roundw
            case rel => exact ⟨k + 1, _, true, by omega, by go_num, rfl, hx2, HO'.out, HT2.out⟩
            case measure => simp [intOf]; omega
        · have i3 : cc = 0 := by omega
          have i4 : ((cc : Int) == 0) = true := by rw [i3]; rfl
          have i6 : ¬ (0 : Int) < cc := by omega
          have HT2 : Hid (∀ r, (cutV (xs ++ [(Value.slice LX nl cx, r, (y.1, putS y.2 (t, m, x, z)))]), true) = (L.take (k + 1)).foldl (stepP l (t, m, x, z)) ([], false)) := fun r => by
            rw [HFO.out]
            unfold stepP
            rw [← HCC.out]
            simp [cutV, i3]
          clear hc0 hp i3
          obtain ⟨wx, hwx⟩ : ∃ wx, wx = w2.alloc (.cells #[.slice LX nl cx, .slice SX ns cs] 107) := ⟨_, rfl⟩
          have HOx := Lib.hid (HO2.out.on (w' := wx) (by rw [hwx]; exact (Below.refl _ _).alloc (Nat.le_refl _) _))
          have HEx : Hid (wx.heap.size = w2.heap.size + 1) := by show _ = _; rw [hwx]; simp
          have HWX := Lib.hid hwx
          clear hwx
          obtain ⟨⟨f0, f1, f2, f3, f4⟩, f5, f6, f7, f8, fz, g0, g1, g2, g3⟩ := KC.out wx HOx.out.below
          rw [HWX.out] at f1 f2 f3 f4
          clear f0 f5 f6 f7 f8 fz g0 g1 g2 g3
          go_wp2_with fail
          rw [← HWX.out]
          refine (KPm.out wx HOx.out.below).mono ?_
          rintro e w3 ⟨r, rfl, hr3, hz3, hB3, ho3⟩
          obtain ⟨RA, rc, hrv, _, _⟩ := id hr3
          obtain ⟨rn, hrn⟩ : ∃ rn, rn = (putS y.2 (t, m, x, z)).length := ⟨_, rfl⟩
          rw [← hrn] at hrv
          clear hrn
          subst hrv
          have hlx : w2.heap.size < wx.heap.size := by have := HEx.out; omega
          have cx0 : w3.cell? ⟨w2.heap.size, 0, none⟩ = some (.slice LX nl cx) := by rw [hB3.cell hlx, HWX.out]; exact new_cell _ _ _ 0
          have cx1 : w3.cell? ⟨w2.heap.size, 1, none⟩ = some (.slice SX ns cs) := by rw [hB3.cell hlx, HWX.out]; exact new_cell _ _ _ 1
          have cxf : w3.frozen? ⟨w2.heap.size, 1, none⟩ = false := by
            have hb : wx.heap[w2.heap.size]? = some (.cells #[.slice LX nl cx, .slice SX ns cs] 107 (0, 0)) := by rw [HWX.out]; exact heap_alloc_new _ _
            rw [hB3.frozen hlx]
            simp [World.frozen?, hb]
          obtain ⟨w4, hw4⟩ : ∃ w4, w4 = w3.setCell ⟨w2.heap.size, 1, none⟩ (.slice RA rn rc) := ⟨_, rfl⟩
          have h24 : Below w2.heap.size w2 w4 := by
            rw [hw4]
            have h1 : Below w2.heap.size w2 wx := by rw [HWX.out]; exact (Below.refl _ _).alloc (Nat.le_refl _) _
            exact (h1.trans (hB3.mono h1.size)).setCell (p := ⟨w2.heap.size, 1, none⟩) (Nat.le_refl _) _
          have HO4 := Lib.hid (HO2.out.on h24)
          have HE4 : Hid (∀ o, EntS S1 W1 (w4.alloc o) (Value.slice LX nl cx, Value.slice RA rn rc, (y.1, putS y.2 (t, m, x, z)))) := fun o => by
            refine ⟨HLX.out, hz3, ?_⟩
            rcases ho3 with h | ⟨h, h'⟩
            · refine .inr ?_
              have h5 : Own w4 wx.heap.size 54 (.slice RA rn rc) (putS y.2 (t, m, x, z)) := by rw [hw4]; exact own_set h (by have := HEx.out; omega)
              exact (h5.alloc o).lower HOx.out.below.size
            · refine .inl ?_
              show SR S1 W1 (.slice RA rn rc) (putS y.2 (t, m, x, z))
              rw [h', h]; exact HSX.out
          have HW4 := Lib.hid hw4
          have HS43 : Hid (w4.heap.size = w3.heap.size) := by show _ = _; rw [hw4]; simp [World.setCell]
          clear hlx hw4 h24 hr3 hz3 hB3 ho3 b0' b1' b2' b3' b4' b5' b6' b7' b8' a0' a1' f1 f2 f3 f4
          go_wp2_with (first | (at_builtin; (rw [← HW4.out]; refine app1Q rfl _ _ 63 107 rfl Tryz.underlying63 info_Se20 (by decide) _ xs (Value.slice LX nl cx, Value.slice RA rn rc, (y.1, putS y.2 (t, m, x, z))) rfl (HO4.out.on ((Below.refl _ _).alloc (Nat.le_refl _) _)) w3.heap.size 1 rfl (HS43.out ▸ new_cell w4 _ _ 0) (HS43.out ▸ new_cell w4 _ _ 1) (HE4.out _) ?c1 ?_)) | fail)
          case c1 => have := HXL.out; omega
          intro v' w' hO'
          have HO' := Lib.hid hO'
          clear hO'
          have hx2 : (xs ++ [((Value.slice LX nl cx, Value.slice RA rn rc, (y.1, putS y.2 (t, m, x, z))) : SerV)]).length ≤ 2 * (k + 1) := by have := HXL.out; simp only [List.length_append, List.length_singleton]; omega
          go_wp2_with fail
          go_roundw
          case rel => exact ⟨k + 1, _, true, by omega, by go_num, rfl, hx2, HO'.out, HT2.out _⟩
          case measure => simp [intOf]; omega
    · have hkn : k = n := by omega
      have i1 : ¬ (k : Int) < (n : Int) := by omega
      have HPU : Hid (putR L l (t, m, x, z) = endP l (t, m, x, z) (cutV xs, dn)) := by
        show _ = _
        unfold putR
        rw [HT.out, hkn, HN.out, List.take_length]
      have HXL := Lib.hid hxl
      have hr : Tryz.f81.results = #[.cell 6 65] := by kernel_rfl
      clear HT hxl hkn hlt
      cases dn with
      | true =>
        have hP2 : Hid (putR L l (t, m, x, z) = cutV xs) := by show _ = _; rw [HPU.out]; rfl
        obtain ⟨A2, c2, rfl⟩ := HO.out.form
        obtain ⟨n2, hn2⟩ : ∃ n2, n2 = xs.length := ⟨_, rfl⟩
        rw [← hn2] at HO ⊢
        clear hn2
        go_wp2_with fail
        refine bodyPost_ret (v := .agg #[.int .i64 every, .int .i64 keep, .int .i64 now, .slice A2 n2 c2]) ?_ rfl ⟨_, rfl, ?_, ?_, ?_⟩
        · unfold results
          rw [hr]
          go_simp
        · rw [hP2.out]
          refine (HO.out.rdXS HS.out).chg (T := fun k => W.heap.size ≤ k ∧ k < W1.heap.size) (S' := S) ?_ HAT.out (fun x _ h => HUP.out x h)
          repeat (first | exact Chg.refl_ _ | refine Chg.set ?_ _ (by have := HS1.out; refine ⟨?_, ?_⟩ <;> dsimp only <;> omega) _)
        · exact RdXS.nz HO.out.row
        · have := HE1.out.below.trans (HO.out.below.mono HE1.out.below.size)
          repeat (first | exact this | refine Below.setCell ?_ (by dsimp only; omega) _)
      | false =>
        obtain ⟨ws, hws⟩ : ∃ ws, ws = wr.alloc (.cells #[.int .i64 t, .int .i64 m, .int .i64 x, .int .i64 z] 54) := ⟨_, rfl⟩
        have HEs : Hid (ws.heap.size = wr.heap.size + 1) := by show _ = _; rw [hws]; simp
        have HOs := Lib.hid (HO.out.on (w' := ws) (by rw [hws]; exact (Below.refl _ _).alloc (Nat.le_refl _) _))
        have HOne := Lib.hid (Own.one (s := (t, m, x, z)) hws HO.out.below.size)
        have HWS := Lib.hid hws
        clear hws
        go_wp2_with (first | (at_builtin; rw [← HWS.out]; refine app1Q rfl _ _ 63 107 rfl Tryz.underlying63 info_Se20 (by decide) _ xs (Value.slice LA ln lc, Value.slice (some ⟨wr.heap.size, 0, none⟩) 1 1, (l, [(t, m, x, z)])) rfl (HOs.out.on ((Below.refl _ _).alloc (Nat.le_refl _) _)) (wr.heap.size + 1) 1 rfl (HEs.out ▸ new_cell ws _ _ 0) (HEs.out ▸ new_cell ws _ _ 1) ⟨⟨HRL.out, HZL.out⟩, nz_some _ _ _, .inr (HOne.out.alloc _)⟩ ?c1 ?_) | fail)
        case c1 => have := HXL.out; omega
        intro v' w' hO'
        have HO' := Lib.hid hO'
        clear hO' HO HOs HOne b0 b1 b2 b3 b4 b5 b6 b7 b8 bz z0 z1 z2 z3
        have hP2 : Hid (putR L l (t, m, x, z) = cutV (xs ++ [(Value.slice LA ln lc, Value.slice (some ⟨wr.heap.size, 0, none⟩) 1 1, (l, [(t, m, x, z)]))])) := by show _ = _; rw [HPU.out]; simp [endP, cutV]
        obtain ⟨A2, c2, rfl⟩ := HO'.out.form
        obtain ⟨⟨d0, d1, d2, d3, d4⟩, d5, d6, d7, d8, dz, y0, y1, y2, y3⟩ := KC.out w' HO'.out.below
        obtain ⟨n2, hn2⟩ : ∃ n2, n2 = (xs ++ [((Value.slice LA ln lc, Value.slice (some ⟨wr.heap.size, 0, none⟩) 1 1, (l, [(t, m, x, z)])) : SerV)]).length := ⟨_, rfl⟩
        rw [← hn2] at HO' ⊢
        clear hn2
        go_wp2_with fail
        refine bodyPost_ret (v := .agg #[.int .i64 every, .int .i64 keep, .int .i64 now, .slice A2 n2 c2]) ?_ rfl ⟨_, rfl, ?_, ?_, ?_⟩
        · unfold results
          rw [hr]
          go_simp
        · rw [hP2.out]
          refine (HO'.out.rdXS HS.out).chg (T := fun k => W.heap.size ≤ k ∧ k < W1.heap.size) (S' := S) ?_ HAT.out (fun x _ h => HUP.out x h)
          repeat (first | exact Chg.refl_ _ | refine Chg.set ?_ _ (by have := HS1.out; refine ⟨?_, ?_⟩ <;> dsimp only <;> omega) _)
        · exact RdXS.nz HO'.out.row
        · have := HE1.out.below.trans (HO'.out.below.mono HE1.out.below.size)
          repeat (first | exact this | refine Below.setCell ?_ (by dsimp only; omega) _)
end Go.Proofs.YtkgcbeokfilehaaGreatDoor
