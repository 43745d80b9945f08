/-
  The reference: Delete.
-/
import Derived.Test.YtkgcbeokfilehaaGreatDoorXsk
import Derived.Test.YtkgcbeokfilehaaGreatDoorXtk
import Derived.Test.YtkgcbeokfilehaaGreatDoorWmk
import Derived.Test.YtkgcbeokfilehaaGreatDoorVik
import Derived.Test.YtkgcbeokfilehaaGreatDoorWck
namespace Go.Proofs.YtkgcbeokfilehaaGreatDoor
open Go.RowKit Go.Sort Go.Maps
theorem check_len {fs : List Fil} (h : checkF fs = 0) : fs.length ≤ 1000000 ∧ ∀ f ∈ fs, f.value.length ≤ 140737488355328 := by
  unfold checkF at h
  by_cases h4 : 4 < fs.length
  · rw [if_pos h4] at h; omega
  · rw [if_neg h4] at h
    refine ⟨by omega, fun f hf => ?_⟩
    by_cases h5 : (fs.all fun f => nameOk f.name && decide (f.value.length ≤ 16)) = true
    · have := List.all_eq_true.1 h5 f hf
      rw [Bool.and_eq_true] at this
      have := of_decide_eq_true this.2
      omega
    · rw [if_neg h5] at h; omega
set_option maxRecDepth 100000 in
set_option maxHeartbeats 8000000 in
/-- eskerref20.Delete. -/
theorem ref_del (every keep now : Int) (Lv : Value) (L : List Ser) (fv : Value) (fs : List Fil) (W : World) (S : Nat → Prop) (hS : ∀ k, S k → k < W.heap.size) (hL : RdXS S W Lv L) (hF : RdF W W.heap.size fv fs) (hfx : ∀ f ∈ fs, f.name.length ≤ 140737488355328 ∧ f.value.length ≤ 140737488355328) (hq : checkF fs = 0) (hf : L.length ≤ 100000 ∧ ∀ x ∈ L, x.1.length ≤ 1000000) :
    Calls Tryz.prog 49 #[vO every keep now Lv, fv] W fun e w' => ∃ v, e = .returned (.tuple #[vO every keep now v, .int .i64 ((L.length : Int) - (L.filter (fun x => !allF fs x.1)).length), .int .i64 0]) ∧ RdXS S w' v (L.filter (fun x => !allF fs x.1)) ∧ Nz v ∧ Below W.heap.size W w' := by
  obtain ⟨W1, hW1⟩ : ∃ W1, W1 = (W.alloc (.cells #[.int .i64 every, .int .i64 keep, .int .i64 now, Lv] 65)).alloc (.cells #[.int .i64 0, .int .i64 0, .int .i64 0, .slice none 0 0] 65) := ⟨_, rfl⟩
  have HE1 : Hid (Ext W W1) := by show Ext _ _; rw [hW1]; exact ((Ext.refl W).alloc _).alloc _
  have s1 : W1.heap.size = W.heap.size + 2 := by rw [hW1]; simp
  obtain ⟨S1, hS1⟩ : ∃ S1 : Nat → Prop, S1 = fun k => S k ∨ (W.heap.size ≤ k ∧ k < W1.heap.size) := ⟨_, rfl⟩
  have HS : Hid (∀ k, S1 k → k < W1.heap.size) := fun k hk => by
    rw [hS1] at hk
    rcases hk with hk | hk
    · have := hS k hk; omega
    · omega
  have hdown : ∀ x, x < W.heap.size → S1 x → S x := fun x hx h => by
    rw [hS1] at h
    rcases h with h | h
    · exact h
    · omega
  have HUP : Hid (∀ x, S x → S1 x) := fun x h => by rw [hS1]; exact .inl h
  have HAT : Hid (∀ k, W.heap.size ≤ k ∧ k < W1.heap.size → S1 k) := fun k h => by rw [hS1]; exact .inr h
  replace hL : RdXS S1 W1 Lv L := hL.chg (.of_below HE1.out.below) (fun _ e => e.elim) hdown
  clear hdown hS hS1
  have HXL0 := Lib.hid hL
  obtain ⟨A, c, rfl, hc, hA⟩ := hL
  obtain ⟨FA, fc, rfl, hfc, hFA⟩ := id hF
  obtain ⟨n, hn⟩ : ∃ n, n = L.length := ⟨_, rfl⟩
  obtain ⟨fn, hfn⟩ : ∃ fn, fn = fs.length := ⟨_, rfl⟩
  rw [← hn] at HXL0 ⊢
  rw [← hfn] at hF
  rw [← hfn]
  rw [← hn] at hW1
  have KC : Hid (∀ w, Below W1.heap.size W1 w → w.cell? ⟨W.heap.size, 0, none⟩ = some (.int .i64 every) ∧ w.cell? ⟨W.heap.size, 1, none⟩ = some (.int .i64 keep) ∧ w.cell? ⟨W.heap.size, 2, none⟩ = some (.int .i64 now) ∧ w.cell? ⟨W.heap.size, 3, none⟩ = some (.slice A n c) ∧ w.frozen? ⟨W.heap.size, 3, none⟩ = false ∧ (∀ i, w.frozen? ⟨W.heap.size + 1, i, none⟩ = false) ∧ w.cell? ⟨W.heap.size + 1, 0, none⟩ = some (.int .i64 0) ∧ w.cell? ⟨W.heap.size + 1, 1, none⟩ = some (.int .i64 0) ∧ w.cell? ⟨W.heap.size + 1, 2, none⟩ = some (.int .i64 0) ∧ w.cell? ⟨W.heap.size + 1, 3, none⟩ = some (.slice none 0 0)) := fun w h => by
    have l0 : W.heap.size < W1.heap.size := by omega
    have l1 : W.heap.size + 1 < W1.heap.size := by omega
    obtain ⟨Wa, hWa⟩ : ∃ Wa, Wa = W.alloc (.cells #[.int .i64 every, .int .i64 keep, .int .i64 now, .slice A n c] 65) := ⟨_, rfl⟩
    have ea : Wa.heap.size = W.heap.size + 1 := by rw [hWa]; simp
    rw [← hWa] at hW1
    have hb : W1.heap[W.heap.size]? = some (.cells #[.int .i64 every, .int .i64 keep, .int .i64 now, .slice A n c] 65 (0, 0)) := by
      have : Below Wa.heap.size Wa W1 := by rw [hW1]; exact ((Ext.refl _).alloc _).below
      rw [this.block W.heap.size (by omega), hWa]; exact heap_alloc_new _ _
    have hb2 : W1.heap[W.heap.size + 1]? = some (.cells #[.int .i64 0, .int .i64 0, .int .i64 0, .slice none 0 0] 65 (0, 0)) := by
      rw [← ea, hW1]; exact heap_alloc_new _ _
    have q : ∀ i, w.cell? ⟨W.heap.size, i, none⟩ = (#[.int .i64 every, .int .i64 keep, .int .i64 now, .slice A n c] : Array Value)[i]? := fun i => by rw [h.cell l0]; simp [World.cell?, hb]
    have q2 : ∀ i, w.cell? ⟨W.heap.size + 1, i, none⟩ = (#[.int .i64 0, .int .i64 0, .int .i64 0, .slice none 0 0] : Array Value)[i]? := fun i => by rw [h.cell l1]; simp [World.cell?, hb2]
    refine ⟨q 0, q 1, q 2, q 3, ?_, fun i => ?_, q2 0, q2 1, q2 2, q2 3⟩
    · rw [h.frozen l0]; simp [World.frozen?, hb]
    · rw [h.frozen l1]; simp [World.frozen?, hb2]
  have HS1 := Lib.hid s1
  have HA := Lib.hid hA
  have HN := Lib.hid hn
  have HF := Lib.hid hf
  have hn1 : n ≤ 100000 := by rw [hn]; exact hf.1
  have hF1 : RdF W1 W1.heap.size (.slice FA fn fc) fs := hF.on HE1.out.below
  have KCh := Lib.hid (ref_check (.slice FA fn fc) fs W1 hF1 hfx)
  rw [hq] at KCh
  have KAll := Lib.hid (fun w (h : Below W1.heap.size W1 w) lv (l : Lbs) (hl : RdL w w.heap.size lv l) (h1 : l.length ≤ 1000000) => ref_all (.slice FA fn fc) fs lv l w ((hF1.below h).mono h.size) hl h1 (check_len hq).1 (check_len hq).2)
  unfold vO
  obtain ⟨kept, hkept⟩ : ∃ kept, kept = L.filter (fun x => !allF fs x.1) := ⟨_, rfl⟩
  obtain ⟨q, hqn⟩ : ∃ q, q = kept.length := ⟨_, rfl⟩
  have hqle : q ≤ n := by rw [hqn, hkept, hn]; exact List.length_filter_le _ _
  have HK := Lib.hid hkept
  have HQ := Lib.hid hqn
  rw [← hkept, ← hqn]
  have hr : Tryz.f49.results = #[.cell 4 65, .tmp 5, .tmp 6] := by kernel_rfl
  clear hc hA hfc hFA hn hfn hf hF hF1 s1 hfx hq hkept hqn
  go_enter Tryz.func49, Tryz.ntmps49
  go_wp2_with fail
  rw [← hW1]
  clear hW1
  refine KCh.out.mono ?_
  rintro e w2 ⟨rfl, rfl⟩
  go_wp2_with fail
  go_loopw [8, 9, 10] (fun ov iv _ wl => ∃ (k : Nat) (xs : List SerV), k ≤ n ∧ iv = .int .i64 k ∧ xs.length ≤ k ∧ Hid (OutQ 107 S1 w2 wl ov xs) ∧ Hid (cutV xs = (L.take k).filter (fun x => !allF fs x.1)))
    (fun _ iv _ _ => n - (intOf iv).toNat)
  case atStart => exact ⟨0, [], Nat.zero_le _, rfl, Nat.le_refl _, OutQ.nil _ _ _, rfl⟩
  case round =>
    obtain ⟨k, xs, hk, rfl, hxl, HO, HT⟩ := hrel
    obtain ⟨b0, b1, b2, b3, b4, bz, z0, z1, z2, z3⟩ := KC.out wr HO.out.below
    by_cases hlt : k < n
    · have hl2 : k < L.length := by rw [← HN.out]; exact hlt
      rcases HA.out with h0 | ⟨b, o, e, hb, hbS, hcl⟩
      · rw [h0] at hl2; simp at hl2
      subst e
      obtain ⟨y, hy⟩ : ∃ y, y = L[k] := ⟨_, rfl⟩
      obtain ⟨lx, sx, c0, c1, ⟨hlx, hzx⟩, hsx, hzs⟩ : SerS S1 w2 b (o + k * 2) y := by rw [hy]; exact hcl k hl2
      have HFO : Hid ((L.take (k + 1)).filter (fun x => !allF fs x.1) = cutV xs ++ if allF fs y.1 = true then [] else [y]) := by
        show _ = _
        rw [List.take_succ_eq_append_getElem hl2, ← hy, List.filter_append, ← HT.out]
        cases h : allF fs y.1 <;> simp [h]
      have hyl := HF.out.2 y (by rw [hy]; exact List.getElem_mem hl2)
      have KA := Lib.hid (KAll.out wr HO.out.below lx y.1 (hlx.on HO.out.below).rd hyl)
      obtain ⟨LX, cx, rfl, _, _⟩ := id hlx.rd
      obtain ⟨SX, cs, rfl, _, _⟩ := id hsx.rd
      obtain ⟨nl, hnl⟩ : ∃ nl, nl = y.1.length := ⟨_, rfl⟩
      obtain ⟨ns, hns⟩ : ∃ ns, ns = y.2.length := ⟨_, rfl⟩
      rw [← hnl] at c0 hlx hzx KA
      rw [← hns] at c1 hsx hzs
      have HENT : Hid (∀ w, EntS S1 w2 w (Value.slice LX nl cx, Value.slice SX ns cs, y)) := fun w => ⟨⟨hlx, hzx⟩, hzs, .inl hsx⟩
      have KC2 : Hid (∀ w, Below w2.heap.size w2 w → w.cell? ⟨b, o + k * 2, none⟩ = some (.slice LX nl cx) ∧ w.cell? ⟨b, o + k * 2 + 1, none⟩ = some (.slice SX ns cs)) := fun w h => ⟨(h.cell hb).trans c0, (h.cell hb).trans c1⟩
      obtain ⟨a0, a1⟩ := KC2.out wr HO.out.below
      have i1 : (k : Int) < (n : Int) := by omega
      have HXL := Lib.hid hxl
      obtain ⟨p, hp⟩ : ∃ p, p = allF fs y.1 := ⟨_, rfl⟩
      rw [← hp] at KA HFO
      clear hy hcl c0 c1 hlx hzx hsx hzs hyl hnl hns hxl hl2 hbS hp b0 b1 b2 b4 bz z0 z1 z2 z3
      go_wp2_with fail
      refine KA.out.mono ?_
      rintro e w3 ⟨rfl, hE3⟩
      have HO3 := Lib.hid (HO.out.on hE3.below)
      obtain ⟨_, _, _, b3', _⟩ := KC.out w3 HO3.out.below
      obtain ⟨a0', a1'⟩ := KC2.out w3 HO3.out.below
      clear hE3 KA b3 a0 a1 HO
      cases p with
      | true =>
        have HT2 : Hid (cutV xs = (L.take (k + 1)).filter (fun x => !allF fs x.1)) := by show _ = _; rw [HFO.out]; simp
        go_wp2_with fail
        go_roundw
        case rel => exact ⟨k + 1, _, by omega, by go_num, by have := HXL.out; omega, HO3.out, HT2.out⟩
        case measure => simp [intOf]; omega
      | false =>
        have HT2 : Hid (cutV (xs ++ [(Value.slice LX nl cx, Value.slice SX ns cs, y)]) = (L.take (k + 1)).filter (fun x => !allF fs x.1)) := by show _ = _; rw [HFO.out]; simp [cutV]
        go_wp2_with (first | (at_builtin; refine app1Q rfl _ _ 63 107 rfl Tryz.underlying63 info_Se20 (by decide) _ xs (Value.slice LX nl cx, Value.slice SX ns cs, y) rfl (HO3.out.on ((Below.refl _ _).alloc (Nat.le_refl _) _)) w3.heap.size 1 rfl (new_cell w3 _ _ 0) (new_cell w3 _ _ 1) (HENT.out _) ?c1 ?_) | fail)
        case c1 => have := HXL.out; omega
        intro v' w' hO'
        have HO' := Lib.hid hO'
        have hx2 : (xs ++ [((Value.slice LX nl cx, Value.slice SX ns cs, y) : SerV)]).length ≤ k + 1 := by have := HXL.out; simp only [List.length_append, List.length_singleton]; omega
        clear hO'
        go_wp2_with fail
        go_roundw
        case rel => exact ⟨k + 1, _, by omega, by go_num, hx2, HO'.out, HT2.out⟩
        case measure => simp [intOf]; omega
    · have hkn : k = n := by omega
      have HT2 : Hid (cutV xs = kept) := by
        show _ = _
        rw [HT.out, hkn, HN.out, List.take_length]; exact HK.out.symm
      have hxq : xs.length = q := by rw [HQ.out, ← HT2.out]; simp [cutV]
      obtain ⟨A2, c2, rfl⟩ := HO.out.form
      rw [hxq] at HO ⊢
      have i1 : ¬ (k : Int) < (n : Int) := by omega
      have i2 : (q : Int) ≤ (n : Int) := by omega
      clear HT hxl hkn hlt hxq
      go_wp2_with fail
      refine bodyPost_ret (v := .tuple #[.agg #[.int .i64 every, .int .i64 keep, .int .i64 now, .slice A2 q c2], .int .i64 ((n : Int) - q), .int .i64 0]) ?_ rfl ⟨_, rfl, ?_, ?_, ?_⟩
      · unfold results
        rw [hr]
        go_simp
      · rw [← HT2.out]
        refine (HO.out.rdXS HS.out).chg (T := fun k => W.heap.size ≤ k ∧ k < w2.heap.size) (S' := S) ?_ HAT.out (fun x _ h => HUP.out x h)
        repeat (first | exact Chg.refl_ _ | refine Chg.set ?_ _ (by have := HS1.out; refine ⟨?_, ?_⟩ <;> dsimp only <;> omega) _)
      · exact RdXS.nz HO.out.row
      · have := HE1.out.below.trans (HO.out.below.mono HE1.out.below.size)
        repeat (first | exact this | refine Below.setCell ?_ (by dsimp only; omega) _)
end Go.Proofs.YtkgcbeokfilehaaGreatDoor

/-
  The reference: Values.
-/
namespace Go.Proofs.YtkgcbeokfilehaaGreatDoor
open Go.RowKit Go.Sort Go.Maps
/-- What a label is, of each series that has one. -/
def valsX (nm : Str) (L : List Ser) : List Str := (L.map (fun x => getL x.1 nm)).filter (fun v => decide (v ≠ []))
theorem valsX_take {nm : Str} {L : List Ser} {k : Nat} {y : Ser} (hk : k < L.length) (hy : y = L[k]) : valsX nm (L.take (k + 1)) = valsX nm (L.take k) ++ if getL y.1 nm = [] then [] else [getL y.1 nm] := by
  unfold valsX
  rw [List.take_succ_eq_append_getElem hk, ← hy, List.map_append, List.filter_append]
  by_cases h : getL y.1 nm = []
  · simp [h]
  · simp [h]
theorem valsX_len (nm : Str) (L : List Ser) : (valsX nm L).length ≤ L.length := by
  unfold valsX
  refine Nat.le_trans (List.length_filter_le _ _) ?_
  rw [List.length_map]; exact Nat.le_refl _
set_option maxRecDepth 100000 in
set_option maxHeartbeats 4000000 in
/-- eskerref20.Values. -/
theorem ref_values (every keep now : Int) (Lv : Value) (L : List Ser) (nm : Str) (W : World) (hL : RdX W W.heap.size Lv L) (hf : L.length ≤ 100000 ∧ ∀ x ∈ L, x.1.length ≤ 1000000) :
    Calls Tryz.prog 26 #[vO every keep now Lv, vT nm] W fun e w' => ∃ r, e = .returned r ∧ RdG ET w' w'.heap.size r (textsS (valsX nm L)) ∧ Below W.heap.size W w' := by
  obtain ⟨A, c, rfl, hc, hA⟩ := hL
  obtain ⟨n, hn⟩ : ∃ n, n = L.length := ⟨_, rfl⟩
  rw [← hn]
  obtain ⟨W1, hW1⟩ : ∃ W1, W1 = W.alloc (.cells #[.int .i64 every, .int .i64 keep, .int .i64 now, .slice A n c] 65) := ⟨_, rfl⟩
  have HB1 : Hid (Below W.heap.size W W1) := by show Below _ _ _; rw [hW1]; exact (Below.refl _ _).alloc (Nat.le_refl _) _
  have KC : Hid (∀ w, Below W1.heap.size W1 w → w.cell? ⟨W.heap.size, 3, none⟩ = some (.slice A n c)) := fun w h => by
    have l0 : W.heap.size < W1.heap.size := by rw [hW1]; simp
    rw [h.cell l0, hW1]; exact new_cell _ _ _ 3
  have KT : Hid (∀ (y : Str) (v : Value) (l : List Str) (w : World), RdG ET w w.heap.size v l → l.length ≤ 100000 → Calls Tryz.prog 56 #[v, vT y] w fun e w' => ∃ r, e = .returned r ∧ RdG ET w' w'.heap.size r (insT y l) ∧ Below w.heap.size w w') := fun y v l w h1 h2 => ref_txt v l y w h1 h2
  obtain ⟨nb, hnb⟩ : ∃ z : ByteArray, z = ⟨nm.toArray⟩ := ⟨_, rfl⟩
  have e0 : vT nm = .string nb := by rw [hnb]; rfl
  have KG : Hid (∀ v (l : Lbs) w, RdL w w.heap.size v l → l.length ≤ 1000000 → Calls Tryz.prog 57 #[v, .string nb] w fun e w' => e = .returned (vT (getL l nm)) ∧ w' = w) := fun v l w h1 h2 => e0 ▸ ref_get v l nm w h1 h2
  rw [e0]
  have HA := Lib.hid hA
  have HN := Lib.hid hn
  have HF := Lib.hid hf
  have hn1 : n ≤ 100000 := by rw [hn]; exact hf.1
  unfold vO
  clear hc hA hn hf hnb e0
  go_enter Tryz.func26, Tryz.ntmps26
  go_wp2_with fail
  rw [← hW1]
  clear hW1
  go_loopw [5, 6, 7] (fun ov iv _ wl => ∃ (k : Nat), k ≤ n ∧ iv = .int .i64 k ∧ Hid (RdG ET wl wl.heap.size ov (textsS (valsX nm (L.take k)))) ∧ Hid (Below W1.heap.size W1 wl))
    (fun _ iv _ _ => n - (intOf iv).toNat)
  case atStart => exact ⟨0, Nat.zero_le _, rfl, RdG.nil _ _, Below.refl _ _⟩
  case round =>
    obtain ⟨k, hk, rfl, HO, HB⟩ := hrel
    have b0 := KC.out wr HB.out
    by_cases hlt : k < n
    · have hl2 : k < L.length := by rw [← HN.out]; exact hlt
      rcases HA.out with h0 | ⟨b, o, e, hb, hcl⟩
      · rw [h0] at hl2; simp at hl2
      subst e
      obtain ⟨y, hy⟩ : ∃ y, y = L[k] := ⟨_, rfl⟩
      obtain ⟨lx, sx, c0, _, hlx, _, _, _⟩ : SerAt W W.heap.size b (o + k * 2) y := by rw [hy]; exact hcl k hl2
      have hyl := HF.out.2 y (by rw [hy]; exact List.getElem_mem hl2)
      have hBW := HB1.out.trans (HB.out.mono HB1.out.size)
      have K0 := KG.out lx y.1 wr ((hlx.below hBW).mono hBW.size) hyl
      have a0 : wr.cell? ⟨b, o + k * 2, none⟩ = some lx := (hBW.cell hb).trans c0
      have i1 : (k : Int) < (n : Int) := by omega
      have HT2 : Hid (valsX nm (L.take (k + 1)) = valsX nm (L.take k) ++ if getL y.1 nm = [] then [] else [getL y.1 nm]) := valsX_take hl2 hy
      have hlen : (textsS (valsX nm (L.take k))).length ≤ 100000 := by
        have h1 := textsS_len (valsX nm (L.take k))
        have h2 := valsX_len nm (L.take k)
        rw [List.length_take] at h2
        omega
      obtain ⟨g, hg⟩ : ∃ g, g = getL y.1 nm := ⟨_, rfl⟩
      rw [← hg] at K0 HT2
      have K1 := Lib.hid (fun w (h : Below wr.heap.size wr w) => KT.out g _ _ w (HO.out.on h) hlen)
      obtain ⟨gb, hgb⟩ : ∃ z : ByteArray, z = ⟨g.toArray⟩ := ⟨_, rfl⟩
      have e1 : vT g = .string gb := by rw [hgb]; rfl
      have hne : gb.toList.isEmpty = decide (g = []) := by rw [hgb, str_toList]; cases g <;> simp
      rw [e1] at K0 K1
      have K0 := Lib.hid K0
      obtain ⟨LX, cx, rfl, _, _⟩ := id hlx
      clear hy hcl c0 hlx hyl hBW hg hgb e1 hlen
      by_cases hgn : g = []
      · rw [decide_eq_true hgn] at hne
        have HR2 : Hid (RdG ET wr wr.heap.size u5 (textsS (valsX nm (L.take (k + 1))))) := by
          show RdG _ _ _ _ _
          rw [HT2.out, if_pos hgn, List.append_nil]; exact HO.out
        clear HT2 hgn HO
        go_wp2_with fail
        refine K0.out.mono ?_
        rintro e w2 ⟨rfl, rfl⟩
        go_wp2_with fail
        go_roundw
        case rel => exact ⟨k + 1, by omega, by go_num, HR2.out, HB.out⟩
        case measure => simp [intOf]; omega
      · rw [decide_eq_false hgn] at hne
        have HEQ : Hid (insT g (textsS (valsX nm (L.take k))) = textsS (valsX nm (L.take (k + 1)))) := by
          show _ = _
          rw [HT2.out, if_neg hgn, textsS_snoc]
        clear HT2 hgn
        go_wp2_with fail
        refine K0.out.mono ?_
        rintro e w2 ⟨rfl, rfl⟩
        go_wp2_with fail
        refine (K1.out _ (Below.refl _ _)).mono ?_
        rintro e w3 ⟨r, rfl, hR2, hB2⟩
        have HB3 : Hid (Below W1.heap.size W1 w3) := HB.out.trans (hB2.mono HB.out.size)
        have HR2 : Hid (RdG ET w3 w3.heap.size r (textsS (valsX nm (L.take (k + 1))))) := HEQ.out ▸ hR2
        clear hR2 hB2 K0 K1 HEQ b0 a0 HO
        go_wp2_with fail
        go_roundw
        case rel => exact ⟨k + 1, by omega, by go_num, HR2.out, HB3.out⟩
        case measure => simp [intOf]; omega
    · have hkn : k = n := by omega
      have i1 : ¬ (k : Int) < (n : Int) := by omega
      have HR2 := HO.out
      rw [hkn, HN.out, List.take_length] at HR2
      have HR2 := Lib.hid HR2
      clear HO
      go_wp2_with fail
      go_ret
      exact ⟨_, rfl, HR2.out, HB1.out.trans (HB.out.mono HB1.out.size)⟩
/-- Names and values in plain words. -/
theorem nmsX_rS (R : Told) : textsS (nmsX (rS R)) = namesS R := by
  unfold nmsX rS namesS
  rw [List.flatMap_map]
theorem one_val {c : Lbs} (h : mayL c = true) (nm : Str) (x : Str) : x ∈ ((c.filter (fun y => decide (y.1 = nm))).map (·.2)) ↔ x = getL c nm ∧ x ≠ [] := by
  obtain ⟨⟨h1, h2⟩, h3, h4⟩ := mayL_parts h
  rw [namesApart_iff] at h4
  have key : ∀ z ∈ c, z.1 = nm → getL c nm = z.2 := by
    intro z hz hzn
    unfold getL
    have : c.find? (fun x => decide (x.1 = nm)) = some z := by
      clear h1 h2 h3 h
      induction c with
      | nil => cases hz
      | cons a l ih =>
        have h5 := List.pairwise_cons.1 h4
        rw [List.find?_cons]
        rcases List.mem_cons.1 hz with rfl | hz
        · simp [hzn]
        · have hne : a.1 ≠ nm := fun e => h5.1 z hz (e.trans hzn.symm)
          simp only [decide_eq_false hne]
          exact ih h5.2 hz
    rw [this]; rfl
  rw [List.mem_map]
  constructor
  · rintro ⟨z, hz, rfl⟩
    obtain ⟨hz1, hz2⟩ := List.mem_filter.1 hz
    have hz2 := of_decide_eq_true hz2
    refine ⟨(key z hz1 hz2).symm, fun e => ?_⟩
    have := (h3 z hz1).2
    unfold valueOk at this
    rw [e] at this
    simp at this
  · rintro ⟨rfl, hne⟩
    cases hf : c.find? (fun x => decide (x.1 = nm)) with
    | none => exact absurd (by unfold getL; rw [hf]; rfl) hne
    | some z =>
      have hz := List.mem_of_find?_eq_some hf
      have hzn : z.1 = nm := by have := List.find?_some hf; simpa using this
      exact ⟨z, List.mem_filter.2 ⟨hz, decide_eq_true hzn⟩, (key z hz hzn).symm⟩
theorem valsX_rS {R : Told} (h : GoodR R) (nm : Str) : textsS (valsX nm (rS R)) = valuesS R nm := by
  unfold valuesS
  refine texts_of (texts_up _) fun x => ?_
  rw [mem_texts]
  unfold valsX rS
  rw [List.mem_filter, List.map_map, List.mem_map, List.mem_flatMap]
  constructor
  · rintro ⟨⟨c, hc, rfl⟩, hne⟩
    exact ⟨c, hc, (one_val (h.lab hc) nm _).2 ⟨rfl, of_decide_eq_true hne⟩⟩
  · rintro ⟨c, hc, hx⟩
    obtain ⟨rfl, hne⟩ := (one_val (h.lab hc) nm x).1 hx
    exact ⟨⟨c, hc, rfl⟩, decide_eq_true hne⟩
end Go.Proofs.YtkgcbeokfilehaaGreatDoor

/-
  The reference: Search.
-/
namespace Go.Proofs.YtkgcbeokfilehaaGreatDoor
open Go.RowKit Go.Sort Go.Maps
theorem SL.of_rd {W : World} {v : Value} {l : Lbs} (h : RdL W W.heap.size v l) : SL NoB W v l := fun _ k => h.on k.none
theorem tellP_take {d F t : Int} {fs : List Fil} {L : List Ser} {k : Nat} {y : Ser} (hk : k < L.length) (hy : y = L[k]) : tellP d F t fs (L.take (k + 1)) = tellP d F t fs (L.take k) ++ if allF fs y.1 = true ∧ delS F t (dedupS d y.2) ≠ [] then [(y.1, delS F t (dedupS d y.2))] else [] := by
  unfold tellP
  rw [List.take_succ_eq_append_getElem hk, ← hy, List.filter_append, List.map_append]
  by_cases h1 : allF fs y.1 = true <;> by_cases h2 : delS F t (dedupS d y.2) = [] <;> simp [h1, h2]
set_option maxRecDepth 100000 in
set_option maxHeartbeats 2000000 in
/-- eskerref20.Search: filters that may not be. -/
theorem ref_search_fail (every keep now f t : Int) (Lv : Value) (fv : Value) (fs : List Fil) (W : World) (hF : RdF W W.heap.size fv fs) (hfx : ∀ f ∈ fs, f.name.length ≤ 140737488355328 ∧ f.value.length ≤ 140737488355328) (hq : checkF fs ≠ 0) :
    Calls Tryz.prog 24 #[vO every keep now Lv, fv, .int .i64 f, .int .i64 t] W fun e w' => e = .returned (.tuple #[.slice none 0 0, .int .i64 (checkF fs)]) ∧ Below W.heap.size W w' := by
  have KCh := Lib.hid (fun w (h : Below W.heap.size W w) => ref_check fv fs w (hF.on h) hfx)
  obtain ⟨FA, fc, rfl, hfc, hFA⟩ := hF
  obtain ⟨q, hqd⟩ : ∃ q, q = checkF fs := ⟨_, rfl⟩
  rw [← hqd] at KCh hq ⊢
  have g : (q != 0) = true := by simp [hq]
  clear hfc hFA hqd hfx hq
  unfold vO
  go_enter Tryz.func24, Tryz.ntmps24
  go_wp2_with fail
  refine (KCh.out _ ((Below.refl _ _).alloc (Nat.le_refl _) _)).mono ?_
  rintro e w2 ⟨rfl, rfl⟩
  go_wp2_with fail
  go_ret2
  exact ⟨rfl, (Below.refl _ _).alloc (Nat.le_refl _) _⟩
set_option maxRecDepth 100000 in
set_option maxHeartbeats 8000000 in
/-- eskerref20.Search. -/
theorem ref_search (every keep now f t : Int) (Lv : Value) (L : List Ser) (fv : Value) (fs : List Fil) (W : World) (hL : RdX W W.heap.size Lv L) (hF : RdF W W.heap.size fv fs) (hfx : ∀ f ∈ fs, f.name.length ≤ 140737488355328 ∧ f.value.length ≤ 140737488355328) (hq : checkF fs = 0)
    (hbd : 1 ≤ keep ∧ keep ≤ 1099511627776 ∧ 0 ≤ now ∧ now ≤ 1099511627776) (hf : L.length ≤ 60000 ∧ ∀ x ∈ L, x.1.length ≤ 1000000 ∧ x.2.length ≤ 10000) :
    Calls Tryz.prog 24 #[vO every keep now Lv, fv, .int .i64 f, .int .i64 t] W fun e w' => ∃ v, e = .returned (.tuple #[v, .int .i64 0]) ∧ RdX w' w'.heap.size v (tellP every (fromS f now keep) t fs L) ∧ Nz v ∧ Below W.heap.size W w' := by
  obtain ⟨A, c, rfl, hc, hA⟩ := hL
  obtain ⟨FA, fc, rfl, hfc, hFA⟩ := id hF
  obtain ⟨n, hn⟩ : ∃ n, n = L.length := ⟨_, rfl⟩
  obtain ⟨fn, hfn⟩ : ∃ fn, fn = fs.length := ⟨_, rfl⟩
  rw [← hfn] at hF
  rw [← hfn, ← hn]
  obtain ⟨W1, hW1⟩ : ∃ W1, W1 = W.alloc (.cells #[.int .i64 every, .int .i64 keep, .int .i64 now, .slice A n c] 65) := ⟨_, rfl⟩
  have HB1 : Hid (Below W.heap.size W W1) := by show Below _ _ _; rw [hW1]; exact (Below.refl _ _).alloc (Nat.le_refl _) _
  have KC : Hid (∀ w, Below W1.heap.size W1 w → w.cell? ⟨W.heap.size, 0, none⟩ = some (.int .i64 every) ∧ w.cell? ⟨W.heap.size, 1, none⟩ = some (.int .i64 keep) ∧ w.cell? ⟨W.heap.size, 2, none⟩ = some (.int .i64 now) ∧ w.cell? ⟨W.heap.size, 3, none⟩ = some (.slice A n c)) := fun w h => by
    have l0 : W.heap.size < W1.heap.size := by rw [hW1]; simp
    refine ⟨?_, ?_, ?_, ?_⟩ <;> (rw [h.cell l0, hW1]; exact new_cell _ _ _ _)
  have HA := Lib.hid hA
  have HN := Lib.hid hn
  have HF := Lib.hid hf
  have hn1 : n ≤ 60000 := by rw [hn]; exact hf.1
  have hF1 : RdF W1 W1.heap.size (.slice FA fn fc) fs := hF.on HB1.out
  have KCh := Lib.hid (ref_check (.slice FA fn fc) fs W1 hF1 hfx)
  rw [hq] at KCh
  have KAll := Lib.hid (fun w (h : Below W1.heap.size W1 w) lv (l : Lbs) (hl : RdL w w.heap.size lv l) (h1 : l.length ≤ 1000000) => ref_all (.slice FA fn fc) fs lv l w ((hF1.below h).mono h.size) hl h1 (check_len hq).1 (check_len hq).2)
  obtain ⟨F, hFd⟩ : ∃ F, F = fromS f now keep := ⟨_, rfl⟩
  have hFF : max f (now - keep + 1) = F := by rw [hFd]; rfl
  have k2 : IntKind.i64.wrap (now - keep) = now - keep := IntWalk.i64_in _ (by omega)
  have k3 : IntKind.i64.wrap (now - keep + 1) = now - keep + 1 := IntWalk.i64_in _ (by omega)
  have HFF := Lib.hid (And.intro hFF (And.intro k2 k3))
  rw [← hFd]
  unfold vO
  clear hc hA hfc hFA hn hfn hf hF hF1 hfx hq hFd hFF k2 k3 hbd
  go_enter Tryz.func24, Tryz.ntmps24
  go_wp2_with fail
  rw [← hW1]
  clear hW1
  refine KCh.out.mono ?_
  rintro e w2 ⟨rfl, rfl⟩
  go_wp2_with fail
  go_loopw [11, 12, 13, 14] (fun ov iv _ _ wl => ∃ (k : Nat) (xs : List SerV), k ≤ n ∧ iv = .int .i64 k ∧ xs.length ≤ k ∧ Hid (OutQ 52 NoB w2 wl ov xs) ∧ Hid (cutV xs = tellP every F t fs (L.take k)))
    (fun _ iv _ _ _ => n - (intOf iv).toNat)
  case atStart => exact ⟨0, [], Nat.zero_le _, rfl, Nat.le_refl _, OutQ.nil _ _ _, rfl⟩
  case round =>
    obtain ⟨k, xs, hk, rfl, hxl, HO, HT⟩ := hrel
    obtain ⟨b0, b1, b2, b3⟩ := KC.out wr HO.out.below
    by_cases hlt : k < n
    · have hl2 : k < L.length := by rw [← HN.out]; exact hlt
      rcases HA.out with h0 | ⟨b, o, e, hb, hcl⟩
      · rw [h0] at hl2; simp at hl2
      subst e
      obtain ⟨y, hy⟩ : ∃ y, y = L[k] := ⟨_, rfl⟩
      obtain ⟨lx, sx, c0, c1, hlx, hzx, hsx, hzs⟩ : SerAt W W.heap.size b (o + k * 2) y := by rw [hy]; exact hcl k hl2
      have HTK := Lib.hid (tellP_take (d := every) (F := F) (t := t) (fs := fs) hl2 hy)
      obtain ⟨hyl, hys⟩ := HF.out.2 y (by rw [hy]; exact List.getElem_mem hl2)
      have hlx1 : RdL w2 w2.heap.size lx y.1 := hlx.on HB1.out
      have hsx1 : Rd w2 w2.heap.size sx y.2 := (hsx.below HB1.out).mono HB1.out.size
      have KA := Lib.hid (KAll.out wr HO.out.below lx y.1 (hlx1.on HO.out.below) hyl)
      obtain ⟨LX, cx, rfl, _, _⟩ := id hlx
      obtain ⟨SX, cs, rfl, _, _⟩ := id hsx
      obtain ⟨nl, hnl⟩ : ∃ nl, nl = y.1.length := ⟨_, rfl⟩
      obtain ⟨ns, hns⟩ : ∃ ns, ns = y.2.length := ⟨_, rfl⟩
      rw [← hnl] at c0 hlx1 hzx KA
      rw [← hns] at c1 hsx1 hzs
      have HLX := Lib.hid (And.intro (SL.of_rd hlx1) hzx)
      have KC2 : Hid (∀ w, Below w2.heap.size w2 w → w.cell? ⟨b, o + k * 2, none⟩ = some (.slice LX nl cx) ∧ w.cell? ⟨b, o + k * 2 + 1, none⟩ = some (.slice SX ns cs)) := fun w h => by
        have h2 := HB1.out.trans (h.mono HB1.out.size)
        exact ⟨(h2.cell hb).trans c0, (h2.cell hb).trans c1⟩
      obtain ⟨a0, a1⟩ := KC2.out wr HO.out.below
      have i1 : (k : Int) < (n : Int) := by omega
      have HXL := Lib.hid hxl
      obtain ⟨p, hp⟩ : ∃ p, p = allF fs y.1 := ⟨_, rfl⟩
      rw [← hp] at KA HTK
      have HSX := Lib.hid hsx1
      have HYS := Lib.hid hys
      clear hy hcl c0 c1 hlx hzx hsx hzs hyl hnl hns hxl hl2 hp hlx1 hsx1 hys
      go_wp2_with fail
      refine KA.out.mono ?_
      rintro e w5 ⟨rfl, hE3⟩
      have HO5 := Lib.hid (HO.out.on hE3.below)
      clear hE3 KA b0 b1 b2 b3 a0 a1 HO
      have KD : Hid (∀ w', Below w5.heap.size w5 w' → Calls Tryz.prog 55 #[.slice SX ns cs, .int .i64 every] w' fun e w'' => ∃ r, e = .returned r ∧ Own w'' w5.heap.size 54 r (dedupS every y.2) ∧ Below w5.heap.size w5 w'') := fun w' hb => by
        have h9 := HO5.out.below.trans (hb.mono HO5.out.below.size)
        refine (rdedup_walk _ y.2 every w' ((HSX.out.below h9).mono h9.size) HYS.out).mono ?_
        rintro e w'' ⟨r1, he, ho, hb2⟩
        exact ⟨r1, he, ho.lower hb.size, hb.trans (hb2.mono hb.size)⟩
      have KL : Hid (∀ w' r1, Below w5.heap.size w5 w' → Own w' w5.heap.size 54 r1 (dedupS every y.2) → Calls Tryz.prog 54 #[r1, .int .i64 F, .int .i64 t] w' fun e w'' => ∃ r2, e = .returned r2 ∧ Own w'' w5.heap.size 54 r2 (delS F t (dedupS every y.2)) ∧ Below w5.heap.size w5 w'') := fun w' r1 hb ho => by
        refine (rclip_walk r1 _ F t w' ho.rd (by have := dedupS_length every y.2; have := HYS.out; omega)).mono ?_
        rintro e w'' ⟨r2, he, ho2, hb2⟩
        exact ⟨r2, he, ho2.lower hb.size, hb.trans (hb2.mono hb.size)⟩
      have HCW : Hid (∀ w', Below w5.heap.size w5 w' → (w'.cell? ⟨b, o + k * 2 + 1, none⟩ = some (.slice SX ns cs) ∧ w'.cell? ⟨W.heap.size, 0, none⟩ = some (.int .i64 every) ∧ w'.cell? ⟨W.heap.size, 1, none⟩ = some (.int .i64 keep) ∧ w'.cell? ⟨W.heap.size, 2, none⟩ = some (.int .i64 now) ∧ w'.cell? ⟨W.heap.size, 3, none⟩ = some (.slice (some ⟨b, o, none⟩) n c)) ∧ Below w5.heap.size w5 w') := fun w' hb => by
        have h9 := HO5.out.below.trans (hb.mono HO5.out.below.size)
        obtain ⟨q0, q1, q2, q3⟩ := KC.out w' h9
        exact ⟨⟨(KC2.out w' h9).2, q0, q1, q2, q3⟩, hb⟩
      have hb0 : Below w5.heap.size w5 w5.drew := (Below.refl _ _).drew
      obtain ⟨⟨e0, e1, e2, e3, e4⟩, _⟩ := HCW.out _ hb0
      obtain ⟨hFF, k2, k3⟩ := HFF.out
      go_wp2_with fail
      go_region_held3 (fun w' => (w'.cell? ⟨b, o + k * 2 + 1, none⟩ = some (.slice SX ns cs) ∧ w'.cell? ⟨W.heap.size, 0, none⟩ = some (.int .i64 every) ∧ w'.cell? ⟨W.heap.size, 1, none⟩ = some (.int .i64 keep) ∧ w'.cell? ⟨W.heap.size, 2, none⟩ = some (.int .i64 now) ∧ w'.cell? ⟨W.heap.size, 3, none⟩ = some (.slice (some ⟨b, o, none⟩) n c)) ∧ Below w5.heap.size w5 w')
        (first | assumption | exact ⟨⟨e0, e1, e2, e3, e4⟩, hb0⟩ | exact HCW.out _ (by assumption))
        (first
          | (go_at_call 55; refine (KD.out _ hb0).mono ?_; rintro e w6 ⟨r1, rfl, ho6, hb6⟩)
          | (go_at_call 54; refine (KL.out _ _ hb6 ho6).mono ?_; rintro e w7 ⟨r2, rfl, ho7, hb7⟩))
      all_goals (
        have HO7 := Lib.hid (HO5.out.on hb7)
        have HR7 : Hid (Own w7 w2.heap.size 54 r2 (delS F t (dedupS every y.2))) := ho7.lower HO5.out.below.size
        have HN7 := Lib.hid ho7.nz
        obtain ⟨A7, c7, hr7, _, _⟩ := ho7.rd
        obtain ⟨m7, hm7⟩ : ∃ m7, m7 = (delS F t (dedupS every y.2)).length := ⟨_, rfl⟩
        rw [← hm7] at hr7
        subst hr7
        have HM7 := Lib.hid hm7
        obtain ⟨b0, b1, b2, b3⟩ := KC.out w7 HO7.out.below
        obtain ⟨a0, a1⟩ := KC2.out w7 HO7.out.below
        clear e0 e1 e2 e3 e4 hb0 hb6 ho6 hb7 ho7 KD KL HCW HO5 hm7 hFF k2 k3
        cases p with
        | false =>
          have HT2 : Hid (cutV xs = tellP every F t fs (L.take (k + 1))) := by show _ = _; rw [HTK.out, HT.out]; simp
          clear HTK
          go_wp2_with fail
          go_roundw
          case rel => exact ⟨k + 1, _, by omega, by go_num, by have := HXL.out; omega, HO7.out, HT2.out⟩
          case measure => simp [intOf]; omega
        | true =>
          by_cases hm0 : m7 = 0
          · have HT2 : Hid (cutV xs = tellP every F t fs (L.take (k + 1))) := by
              have h8 : delS F t (dedupS every y.2) = [] := List.eq_nil_of_length_eq_zero (by rw [← HM7.out]; exact hm0)
              show _ = _; rw [HTK.out, HT.out, h8]; simp
            have i2 : ¬ (0 : Int) < (m7 : Int) := by omega
            clear HTK hm0
            go_wp2_with fail
            go_roundw
            case rel => exact ⟨k + 1, _, by omega, by go_num, by have := HXL.out; omega, HO7.out, HT2.out⟩
            case measure => simp [intOf]; omega
          · have HT2 : Hid (cutV (xs ++ [(Value.slice LX nl cx, Value.slice A7 m7 c7, (y.1, delS F t (dedupS every y.2)))]) = tellP every F t fs (L.take (k + 1))) := by
              have h8 : delS F t (dedupS every y.2) ≠ [] := fun e => hm0 (by rw [HM7.out, e]; rfl)
              show _ = _
              rw [HTK.out, ← HT.out, if_pos ⟨rfl, h8⟩]
              simp [cutV]
            have i2 : (0 : Int) < (m7 : Int) := by omega
            clear HTK hm0
            go_wp2_with (first | (at_builtin; refine app1Q rfl _ _ 42 52 rfl Tryz.underlying42 info_Se (by decide) _ xs (Value.slice LX nl cx, Value.slice A7 m7 c7, (y.1, delS F t (dedupS every y.2))) rfl (HO7.out.on ((Below.refl _ _).alloc (Nat.le_refl _) _)) w7.heap.size 1 rfl (new_cell w7 _ _ 0) (new_cell w7 _ _ 1) ⟨HLX.out, HN7.out, .inr (HR7.out.alloc _)⟩ ?c1 ?_) | fail)
            case c1 => have := HXL.out; omega
            intro v' w' hO'
            have HO' := Lib.hid hO'
            have hx2 : (xs ++ [((Value.slice LX nl cx, Value.slice A7 m7 c7, (y.1, delS F t (dedupS every y.2))) : SerV)]).length ≤ k + 1 := by have := HXL.out; simp only [List.length_append, List.length_cons, List.length_nil]; omega
            clear hO'
            go_wp2_with fail
            go_roundw
            case rel => exact ⟨k + 1, _, by omega, by go_num, hx2, HO'.out, HT2.out⟩
            case measure => simp [intOf]; omega)
    · have hkn : k = n := by omega
      have i1 : ¬ (k : Int) < (n : Int) := by omega
      have HT2 : Hid (cutV xs = tellP every F t fs L) := by
        show _ = _
        rw [HT.out, hkn, HN.out, List.take_length]
      obtain ⟨A2, c2, rfl⟩ := HO.out.form
      go_wp2_with fail
      go_ret2
      refine ⟨_, rfl, ?_, RdXS.nz HO.out.row, HB1.out.trans (HO.out.below.mono HB1.out.size)⟩
      rw [← HT2.out]
      exact (HO.out.rdXS (fun _ e => e.elim)).rd
end Go.Proofs.YtkgcbeokfilehaaGreatDoor
