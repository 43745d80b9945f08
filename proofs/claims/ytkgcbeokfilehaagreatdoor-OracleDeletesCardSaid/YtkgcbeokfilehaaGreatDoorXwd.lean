/-
  The reference: Delete.
-/
import Derived.Test.YtkgcbeokfilehaaGreatDoorXsd
import Derived.Test.YtkgcbeokfilehaaGreatDoorXtd
import Derived.Test.YtkgcbeokfilehaaGreatDoorWmd
import Derived.Test.YtkgcbeokfilehaaGreatDoorVid
import Derived.Test.YtkgcbeokfilehaaGreatDoorWcd
namespace Go.Proofs.YtkgcbeokfilehaaGreatDoor
open Go.RowKit Go.Sort Go.Maps
theorem check_len {fs : List Fil} (h : checkF fs = 0) : fs.length ≤ 1000000 ∧ ∀ f ∈ fs, f.value.length ≤ 140737488355328 := by
  unfold checkF at h
  by_cases h4 : 4 < fs.length
  · rw [if_pos h4] at h; omega
  · rw [if_neg h4] at h
    refine ⟨by omega, fun f hf => ?_⟩
    by_cases h5 : (fs.all fun f => nameOk f.name && decide (f.value.length ≤ 16)) = true
    · have := List.all_eq_true.1 h5 f hf
      rw [Bool.and_eq_true] at this
      have := of_decide_eq_true this.2
      omega
    · rw [if_neg h5] at h; omega
set_option maxRecDepth 100000 in
set_option maxHeartbeats 8000000 in
/-- eskerref20.Delete. -/
theorem ref_del (every keep now : Int) (Lv : Value) (L : List Ser) (fv : Value) (fs : List Fil) (W : World) (S : Nat → Prop) (hS : ∀ k, S k → k < W.heap.size) (hL : RdXS S W Lv L) (hF : RdF W W.heap.size fv fs) (hfx : ∀ f ∈ fs, f.name.length ≤ 140737488355328 ∧ f.value.length ≤ 140737488355328) (hq : checkF fs = 0) (hf : L.length ≤ 100000 ∧ ∀ x ∈ L, x.1.length ≤ 1000000) :
    Calls Tryz.prog 49 #[vO every keep now Lv, fv] W fun e w' => ∃ v, e = .returned (.tuple #[vO every keep now v, .int .i64 ((L.length : Int) - (L.filter (fun x => !allF fs x.1)).length), .int .i64 0]) ∧ RdXS S w' v (L.filter (fun x => !allF fs x.1)) ∧ Nz v ∧ Below W.heap.size W w' := by
  obtain ⟨W1, hW1⟩ : ∃ W1, W1 = (W.alloc (.cells #[.int .i64 every, .int .i64 keep, .int .i64 now, Lv] 65)).alloc (.cells #[.int .i64 0, .int .i64 0, .int .i64 0, .slice none 0 0] 65) := ⟨_, rfl⟩
  have HE1 : Hid (Ext W W1) := by show Ext _ _; rw [hW1]; exact ((Ext.refl W).alloc _).alloc _
  have s1 : W1.heap.size = W.heap.size + 2 := by rw [hW1]; simp
  obtain ⟨S1, hS1⟩ : ∃ S1 : Nat → Prop, S1 = fun k => S k ∨ (W.heap.size ≤ k ∧ k < W1.heap.size) := ⟨_, rfl⟩
  have HS : Hid (∀ k, S1 k → k < W1.heap.size) := fun k hk => by
    rw [hS1] at hk
    rcases hk with hk | hk
    · have := hS k hk; omega
    · omega
  have hdown : ∀ x, x < W.heap.size → S1 x → S x := fun x hx h => by
    rw [hS1] at h
    rcases h with h | h
    · exact h
    · omega
  have HUP : Hid (∀ x, S x → S1 x) := fun x h => by rw [hS1]; exact .inl h
  have HAT : Hid (∀ k, W.heap.size ≤ k ∧ k < W1.heap.size → S1 k) := fun k h => by rw [hS1]; exact .inr h
  replace hL : RdXS S1 W1 Lv L := hL.chg (.of_below HE1.out.below) (fun _ e => e.elim) hdown
  clear hdown hS hS1
  have HXL0 := Lib.hid hL
  obtain ⟨A, c, rfl, hc, hA⟩ := hL
  obtain ⟨FA, fc, rfl, hfc, hFA⟩ := id hF
  obtain ⟨n, hn⟩ : ∃ n, n = L.length := ⟨_, rfl⟩
  obtain ⟨fn, hfn⟩ : ∃ fn, fn = fs.length := ⟨_, rfl⟩
  rw [← hn] at HXL0 ⊢
  rw [← hfn] at hF
  rw [← hfn]
  rw [← hn] at hW1
  have KC : Hid (∀ w, Below W1.heap.size W1 w → w.cell? ⟨W.heap.size, 0, none⟩ = some (.int .i64 every) ∧ w.cell? ⟨W.heap.size, 1, none⟩ = some (.int .i64 keep) ∧ w.cell? ⟨W.heap.size, 2, none⟩ = some (.int .i64 now) ∧ w.cell? ⟨W.heap.size, 3, none⟩ = some (.slice A n c) ∧ w.frozen? ⟨W.heap.size, 3, none⟩ = false ∧ (∀ i, w.frozen? ⟨W.heap.size + 1, i, none⟩ = false) ∧ w.cell? ⟨W.heap.size + 1, 0, none⟩ = some (.int .i64 0) ∧ w.cell? ⟨W.heap.size + 1, 1, none⟩ = some (.int .i64 0) ∧ w.cell? ⟨W.heap.size + 1, 2, none⟩ = some (.int .i64 0) ∧ w.cell? ⟨W.heap.size + 1, 3, none⟩ = some (.slice none 0 0)) := fun w h => by
    have l0 : W.heap.size < W1.heap.size := by omega
    have l1 : W.heap.size + 1 < W1.heap.size := by omega
    obtain ⟨Wa, hWa⟩ : ∃ Wa, Wa = W.alloc (.cells #[.int .i64 every, .int .i64 keep, .int .i64 now, .slice A n c] 65) := ⟨_, rfl⟩
    have ea : Wa.heap.size = W.heap.size + 1 := by rw [hWa]; simp
    rw [← hWa] at hW1
    have hb : W1.heap[W.heap.size]? = some (.cells #[.int .i64 every, .int .i64 keep, .int .i64 now, .slice A n c] 65 (0, 0)) := by
      have : Below Wa.heap.size Wa W1 := by rw [hW1]; exact ((Ext.refl _).alloc _).below
      rw [this.block W.heap.size (by omega), hWa]; exact heap_alloc_new _ _
    have hb2 : W1.heap[W.heap.size + 1]? = some (.cells #[.int .i64 0, .int .i64 0, .int .i64 0, .slice none 0 0] 65 (0, 0)) := by
      rw [← ea, hW1]; exact heap_alloc_new _ _
    have q : ∀ i, w.cell? ⟨W.heap.size, i, none⟩ = (#[.int .i64 every, .int .i64 keep, .int .i64 now, .slice A n c] : Array Value)[i]? := fun i => by rw [h.cell l0]; simp [World.cell?, hb]
    have q2 : ∀ i, w.cell? ⟨W.heap.size + 1, i, none⟩ = (#[.int .i64 0, .int .i64 0, .int .i64 0, .slice none 0 0] : Array Value)[i]? := fun i => by rw [h.cell l1]; simp [World.cell?, hb2]
    refine ⟨q 0, q 1, q 2, q 3, ?_, fun i => ?_, q2 0, q2 1, q2 2, q2 3⟩
    · rw [h.frozen l0]; simp [World.frozen?, hb]
    · rw [h.frozen l1]; simp [World.frozen?, hb2]
  have HS1 := Lib.hid s1
  have HA := Lib.hid hA
  have HN := Lib.hid hn
  have HF := Lib.hid hf
  have hn1 : n ≤ 100000 := by rw [hn]; exact hf.1
  have hF1 : RdF W1 W1.heap.size (.slice FA fn fc) fs := hF.on HE1.out.below
  have KCh := Lib.hid (ref_check (.slice FA fn fc) fs W1 hF1 hfx)
  rw [hq] at KCh
  have KAll := Lib.hid (fun w (h : Below W1.heap.size W1 w) lv (l : Lbs) (hl : RdL w w.heap.size lv l) (h1 : l.length ≤ 1000000) => ref_all (.slice FA fn fc) fs lv l w ((hF1.below h).mono h.size) hl h1 (check_len hq).1 (check_len hq).2)
  unfold vO
  obtain ⟨kept, hkept⟩ : ∃ kept, kept = L.filter (fun x => !allF fs x.1) := ⟨_, rfl⟩
  obtain ⟨q, hqn⟩ : ∃ q, q = kept.length := ⟨_, rfl⟩
  have hqle : q ≤ n := by rw [hqn, hkept, hn]; exact List.length_filter_le _ _
  have HK := Lib.hid hkept
  have HQ := Lib.hid hqn
  rw [← hkept, ← hqn]
  have hr : Tryz.f49.results = #[.cell 4 65, .tmp 5, .tmp 6] := by kernel_rfl
  clear hc hA hfc hFA hn hfn hf hF hF1 s1 hfx hq hkept hqn
  go_enter Tryz.func49, Tryz.ntmps49
  go_wp2_with fail
  rw [← hW1]
  clear hW1
  refine KCh.out.mono ?_
  rintro e w2 ⟨rfl, rfl⟩
  go_wp2_with fail
  go_loopw [8, 9, 10] (fun ov iv _ wl => ∃ (k : Nat) (xs : List SerV), k ≤ n ∧ iv = .int .i64 k ∧ xs.length ≤ k ∧ Hid (OutQ 107 S1 w2 wl ov xs) ∧ Hid (cutV xs = (L.take k).filter (fun x => !allF fs x.1)))
    (fun _ iv _ _ => n - (intOf iv).toNat)
  case atStart => exact ⟨0, [], Nat.zero_le _, rfl, Nat.le_refl _, OutQ.nil _ _ _, rfl⟩
  case round =>
    obtain ⟨k, xs, hk, rfl, hxl, HO, HT⟩ := hrel
    obtain ⟨b0, b1, b2, b3, b4, bz, z0, z1, z2, z3⟩ := KC.out wr HO.out.below
    by_cases hlt : k < n
    · have hl2 : k < L.length := by rw [← HN.out]; exact hlt
      rcases HA.out with h0 | ⟨b, o, e, hb, hbS, hcl⟩
      · rw [h0] at hl2; simp at hl2
      subst e
      obtain ⟨y, hy⟩ : ∃ y, y = L[k] := ⟨_, rfl⟩
      obtain ⟨lx, sx, c0, c1, ⟨hlx, hzx⟩, hsx, hzs⟩ : SerS S1 w2 b (o + k * 2) y := by rw [hy]; exact hcl k hl2
      have HFO : Hid ((L.take (k + 1)).filter (fun x => !allF fs x.1) = cutV xs ++ if allF fs y.1 = true then [] else [y]) := by
        show _ = _
        rw [List.take_succ_eq_append_getElem hl2, ← hy, List.filter_append, ← HT.out]
        cases h : allF fs y.1 <;> simp [h]
      have hyl := HF.out.2 y (by rw [hy]; exact List.getElem_mem hl2)
      have KA := Lib.hid (KAll.out wr HO.out.below lx y.1 (hlx.on HO.out.below).rd hyl)
      obtain ⟨LX, cx, rfl, _, _⟩ := id hlx.rd
      obtain ⟨SX, cs, rfl, _, _⟩ := id hsx.rd
      obtain ⟨nl, hnl⟩ : ∃ nl, nl = y.1.length := ⟨_, rfl⟩
      obtain ⟨ns, hns⟩ : ∃ ns, ns = y.2.length := ⟨_, rfl⟩
      rw [← hnl] at c0 hlx hzx KA
      rw [← hns] at c1 hsx hzs
      have HENT : Hid (∀ w, EntS S1 w2 w (Value.slice LX nl cx, Value.slice SX ns cs, y)) := fun w => ⟨⟨hlx, hzx⟩, hzs, .inl hsx⟩
      have KC2 : Hid (∀ w, Below w2.heap.size w2 w → w.cell? ⟨b, o + k * 2, none⟩ = some (.slice LX nl cx) ∧ w.cell? ⟨b, o + k * 2 + 1, none⟩ = some (.slice SX ns cs)) := fun w h => ⟨(h.cell hb).trans c0, (h.cell hb).trans c1⟩
      obtain ⟨a0, a1⟩ := KC2.out wr HO.out.below
      have i1 : (k : Int) < (n : Int) := by omega
      have HXL := Lib.hid hxl
      obtain ⟨p, hp⟩ : ∃ p, p = allF fs y.1 := ⟨_, rfl⟩
      rw [← hp] at KA HFO
      clear hy hcl c0 c1 hlx hzx hsx hzs hyl hnl hns hxl hl2 hbS hp b0 b1 b2 b4 bz z0 z1 z2 z3
      go_wp2_with fail
      refine KA.out.mono ?_
      rintro e w3 ⟨rfl, hE3⟩
      have HO3 := Lib.hid (HO.out.on hE3.below)
      obtain ⟨_, _, _, b3', _⟩ := KC.out w3 HO3.out.below
      obtain ⟨a0', a1'⟩ := KC2.out w3 HO3.out.below
      clear hE3 KA b3 a0 a1 HO
      cases p with
      | true =>
        have HT2 : Hid (cutV xs = (L.take (k + 1)).filter (fun x => !allF fs x.1)) := by show _ = _; rw [HFO.out]; simp
        go_wp2_with fail
        go_roundw
        case rel => exact ⟨k + 1, _, by omega, by go_num, by have := HXL.out; omega, HO3.out, HT2.out⟩
        case measure => simp [intOf]; omega
      | false =>
        have HT2 : Hid (cutV (xs ++ [(Value.slice LX nl cx, Value.slice SX ns cs, y)]) = (L.take (k + 1)).filter (fun x => !allF fs x.1)) := by show _ = _; rw [HFO.out]; simp [cutV]
        go_wp2_with (first | (at_builtin; refine app1Q rfl _ _ 63 107 rfl Tryz.underlying63 info_Se20 (by decide) _ xs (Value.slice LX nl cx, Value.slice SX ns cs, y) rfl (HO3.out.on ((Below.refl _ _).alloc (Nat.le_refl _) _)) w3.heap.size 1 rfl (new_cell w3 _ _ 0) (new_cell w3 _ _ 1) (HENT.out _) ?c1 ?_) | fail)
        case c1 => have := HXL.out; omega
        intro v' w' hO'
        have HO' := Lib.hid hO'
        have hx2 : (xs ++ [((Value.slice LX nl cx, Value.slice SX ns cs, y) : SerV)]).length ≤ k + 1 := by have := HXL.out; simp only [List.length_append, List.length_singleton]; omega
        clear hO'
        go_wp2_with fail
        go_roundw
        case rel => exact ⟨k + 1, _, by omega, by go_num, hx2, HO'.out, HT2.out⟩
        case measure => simp [intOf]; omega
    · have hkn : k = n := by omega
      have HT2 : Hid (cutV xs = kept) := by
        show _ = _
        rw [HT.out, hkn, HN.out, List.take_length]; exact HK.out.symm
      have hxq : xs.length = q := by rw [HQ.out, ← HT2.out]; simp [cutV]
      obtain ⟨A2, c2, rfl⟩ := HO.out.form
      rw [hxq] at HO ⊢
      have i1 : ¬ (k : Int) < (n : Int) := by omega
      have i2 : (q : Int) ≤ (n : Int) := by omega
      clear HT hxl hkn hlt hxq
      go_wp2_with fail
      refine bodyPost_ret (v := .tuple #[.agg #[.int .i64 every, .int .i64 keep, .int .i64 now, .slice A2 q c2], .int .i64 ((n : Int) - q), .int .i64 0]) ?_ rfl ⟨_, rfl, ?_, ?_, ?_⟩
      · unfold results
        rw [hr]
        go_simp
      · rw [← HT2.out]
        refine (HO.out.rdXS HS.out).chg (T := fun k => W.heap.size ≤ k ∧ k < w2.heap.size) (S' := S) ?_ HAT.out (fun x _ h => HUP.out x h)
        repeat (first | exact Chg.refl_ _ | refine Chg.set ?_ _ (by have := HS1.out; refine ⟨?_, ?_⟩ <;> dsimp only <;> omega) _)
      · exact RdXS.nz HO.out.row
      · have := HE1.out.below.trans (HO.out.below.mono HE1.out.below.size)
        repeat (first | exact this | refine Below.setCell ?_ (by dsimp only; omega) _)
end Go.Proofs.YtkgcbeokfilehaaGreatDoor

/-
  The reference: Values.
-/
namespace Go.Proofs.YtkgcbeokfilehaaGreatDoor
open Go.RowKit Go.Sort Go.Maps
end Go.Proofs.YtkgcbeokfilehaaGreatDoor

/-
  The reference: Search.
-/
namespace Go.Proofs.YtkgcbeokfilehaaGreatDoor
open Go.RowKit Go.Sort Go.Maps
end Go.Proofs.YtkgcbeokfilehaaGreatDoor
