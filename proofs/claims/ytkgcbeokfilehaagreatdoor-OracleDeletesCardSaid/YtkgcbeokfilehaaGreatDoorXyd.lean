/-
  The reference: Add; Delete where it is refused.
-/
import Derived.Test.YtkgcbeokfilehaaGreatDoorXqd
import Derived.Test.YtkgcbeokfilehaaGreatDoorXwd
import Derived.Test.YtkgcbeokfilehaaGreatDoorWjd
import Derived.Test.YtkgcbeokfilehaaGreatDoorXsd
import Derived.Test.YtkgcbeokfilehaaGreatDoorGnd
import Derived.Test.YtkgcbeokfilehaaGreatDoorVid
import Derived.Test.YtkgcbeokfilehaaGreatDoorRgnd
namespace Go.Proofs.YtkgcbeokfilehaaGreatDoor
open Go.RowKit Go.Sort Go.Maps
theorem RdXS.form {S : Nat → Prop} {W : World} {v : Value} {l : List Ser} (h : RdXS S W v l) : ∃ A c, v = .slice A l.length c := by
  obtain ⟨A, c, e, _⟩ := h
  exact ⟨A, c, e⟩
/-- Where the reference's oracle lies, and its answer's place. -/
structure BoxR (W w : World) (every keep now : Int) (v : Value) : Prop where
  box : w.heap[W.heap.size]? = some (.cells #[.int .i64 every, .int .i64 keep, .int .i64 now, v] 65 (0, 0))
  res : w.heap[W.heap.size + 1]? = some (.cells #[.int .i64 0, .int .i64 0, .int .i64 0, .slice none 0 0] 65 (0, 0))
theorem BoxR.made (W : World) (every keep now : Int) (v : Value) : BoxR W ((W.alloc (.cells #[.int .i64 every, .int .i64 keep, .int .i64 now, v] 65)).alloc (.cells #[.int .i64 0, .int .i64 0, .int .i64 0, .slice none 0 0] 65)) every keep now v := by
  obtain ⟨Wa, hWa⟩ : ∃ Wa, Wa = W.alloc (.cells #[.int .i64 every, .int .i64 keep, .int .i64 now, v] 65) := ⟨_, rfl⟩
  have ea : Wa.heap.size = W.heap.size + 1 := by rw [hWa]; simp
  rw [← hWa]
  constructor
  · have : Below Wa.heap.size Wa (Wa.alloc (.cells #[.int .i64 0, .int .i64 0, .int .i64 0, .slice none 0 0] 65)) := ((Ext.refl _).alloc _).below
    rw [this.block W.heap.size (by omega), hWa]; exact heap_alloc_new _ _
  · rw [← ea]; exact heap_alloc_new _ _
theorem BoxR.on {W w w' : World} {every keep now : Int} {v : Value} (h : BoxR W w every keep now v) (k : Below w.heap.size w w') : BoxR W w' every keep now v :=
  ⟨(k.block _ (Array.getElem?_eq_some_iff.1 h.box).1).trans h.box, (k.block _ (Array.getElem?_eq_some_iff.1 h.res).1).trans h.res⟩
theorem BoxR.cells {W w : World} {every keep now : Int} {v : Value} (h : BoxR W w every keep now v) :
    (w.cell? ⟨W.heap.size, 0, none⟩ = some (.int .i64 every) ∧ w.cell? ⟨W.heap.size, 1, none⟩ = some (.int .i64 keep) ∧ w.cell? ⟨W.heap.size, 2, none⟩ = some (.int .i64 now) ∧ w.cell? ⟨W.heap.size, 3, none⟩ = some v ∧ ∀ i, w.frozen? ⟨W.heap.size, i, none⟩ = false)
    ∧ w.cell? ⟨W.heap.size + 1, 0, none⟩ = some (.int .i64 0) ∧ w.cell? ⟨W.heap.size + 1, 1, none⟩ = some (.int .i64 0) ∧ w.cell? ⟨W.heap.size + 1, 2, none⟩ = some (.int .i64 0) ∧ w.cell? ⟨W.heap.size + 1, 3, none⟩ = some (.slice none 0 0) ∧ ∀ i, w.frozen? ⟨W.heap.size + 1, i, none⟩ = false := by
  have q : ∀ i, w.cell? ⟨W.heap.size, i, none⟩ = (#[.int .i64 every, .int .i64 keep, .int .i64 now, v] : Array Value)[i]? := fun i => by simp [World.cell?, h.box]
  have q2 : ∀ i, w.cell? ⟨W.heap.size + 1, i, none⟩ = (#[.int .i64 0, .int .i64 0, .int .i64 0, .slice none 0 0] : Array Value)[i]? := fun i => by simp [World.cell?, h.res]
  exact ⟨⟨q 0, q 1, q 2, q 3, fun i => by simp [World.frozen?, h.box]⟩, q2 0, q2 1, q2 2, q2 3, fun i => by simp [World.frozen?, h.res]⟩
/-- The oracle is laid anew. -/
theorem BoxR.put {W w : World} {every keep now : Int} {v v' : Value} (h : BoxR W w every keep now v) : BoxR W ((((w.setCell ⟨W.heap.size, 0, none⟩ (.int .i64 every)).setCell ⟨W.heap.size, 1, none⟩ (.int .i64 keep)).setCell ⟨W.heap.size, 2, none⟩ (.int .i64 now)).setCell ⟨W.heap.size, 3, none⟩ v') every keep now v' := by
  constructor
  · have h0 := heap_setCell_same w W.heap.size 0 _ _ (.int .i64 every) h.box
    have h1 := heap_setCell_same _ W.heap.size 1 _ _ (.int .i64 keep) h0
    have h2 := heap_setCell_same _ W.heap.size 2 _ _ (.int .i64 now) h1
    have h3 := heap_setCell_same _ W.heap.size 3 _ _ v' h2
    simpa using h3
  · have hne : W.heap.size + 1 ≠ W.heap.size := by omega
    refine (RowKit.Below.heap_setCell _ ⟨W.heap.size, 3, none⟩ v' _ hne).trans ((RowKit.Below.heap_setCell _ ⟨W.heap.size, 2, none⟩ _ _ hne).trans ((RowKit.Below.heap_setCell _ ⟨W.heap.size, 1, none⟩ _ _ hne).trans ((RowKit.Below.heap_setCell _ ⟨W.heap.size, 0, none⟩ _ _ hne).trans h.res)))
/-- What is had of the reference's oracle at a method's start. -/
theorem start_S {W W1 : World} {S : Nat → Prop} {Lv : Value} {L : List Ser} {every keep now : Int} (hS : ∀ k, S k → k < W.heap.size) (hL : RdXS S W Lv L) (hW1 : W1 = (W.alloc (.cells #[.int .i64 every, .int .i64 keep, .int .i64 now, Lv] 65)).alloc (.cells #[.int .i64 0, .int .i64 0, .int .i64 0, .slice none 0 0] 65)) :
    W1.heap.size = W.heap.size + 2 ∧ Below W.heap.size W W1 ∧ BoxR W W1 every keep now Lv ∧ ∃ S1 : Nat → Prop, (∀ k, S1 k → k < W1.heap.size) ∧ (∀ x, S x → S1 x) ∧ (∀ k, W.heap.size ≤ k ∧ k < W1.heap.size → S1 k) ∧ RdXS S1 W1 Lv L := by
  have hE : Below W.heap.size W W1 := by rw [hW1]; exact (((Ext.refl W).alloc _).alloc _).below
  have s1 : W1.heap.size = W.heap.size + 2 := by rw [hW1]; simp
  refine ⟨s1, hE, hW1 ▸ BoxR.made W every keep now Lv, fun k => S k ∨ (W.heap.size ≤ k ∧ k < W1.heap.size), fun k hk => ?_, fun _ h => .inl h, fun _ h => .inr h, hL.chg (.of_below hE) (fun _ e => e.elim) (fun x hx h => ?_)⟩
  · rcases hk with hk | hk
    · have := hS k hk; omega
    · exact hk.2
  · rcases h with h | h
    · exact h
    · omega
set_option maxRecDepth 100000 in
set_option maxHeartbeats 2000000 in
/-- eskerref20.Delete: filters that may not be. -/
theorem ref_del_fail (every keep now : Int) (Lv : Value) (L : List Ser) (fv : Value) (fs : List Fil) (W : World) (S : Nat → Prop) (hS : ∀ k, S k → k < W.heap.size) (hL : RdXS S W Lv L) (hF : RdF W W.heap.size fv fs) (hfx : ∀ f ∈ fs, TxF f) (hq : checkF fs ≠ 0) :
    Calls Tryz.prog 49 #[vO every keep now Lv, fv] W fun e w' => e = .returned (.tuple #[vO every keep now Lv, .int .i64 0, .int .i64 (checkF fs)]) ∧ RdXS S w' Lv L ∧ Below W.heap.size W w' := by
  obtain ⟨W1, hW1⟩ : ∃ W1, W1 = (W.alloc (.cells #[.int .i64 every, .int .i64 keep, .int .i64 now, Lv] 65)).alloc (.cells #[.int .i64 0, .int .i64 0, .int .i64 0, .slice none 0 0] 65) := ⟨_, rfl⟩
  obtain ⟨s1, hE, hbox, S1, hs1, hup, hat, hL1⟩ := start_S hS hL hW1
  have KCh := Lib.hid (ref_check fv fs W1 (hF.on hE) hfx)
  obtain ⟨FA, fc, rfl, hfc, hFA⟩ := hF
  obtain ⟨q, hqd⟩ : ∃ q, q = checkF fs := ⟨_, rfl⟩
  rw [← hqd] at KCh hq ⊢
  have g : (q != 0) = true := by simp [hq]
  obtain ⟨⟨b0, b1, b2, b3, b4⟩, z0, z1, z2, z3, z4⟩ := hbox.cells
  obtain ⟨A, c, rfl⟩ := hL1.form
  have HL := Lib.hid hL1
  have HS1 := Lib.hid s1
  have HE := Lib.hid hE
  have HAT := Lib.hid hat
  have HUP := Lib.hid hup
  have hr : Tryz.f49.results = #[.cell 4 65, .tmp 5, .tmp 6] := by kernel_rfl
  clear hfc hFA hqd hfx hq hL hL1 hE hat hup hs1 hS hbox s1
  unfold vO
  go_enter Tryz.func49, Tryz.ntmps49
  go_wp2_with fail
  rw [← hW1]
  clear hW1
  refine KCh.out.mono ?_
  rintro e w2 ⟨rfl, rfl⟩
  go_wp2_with fail
  refine bodyPost_ret (v := .tuple #[.agg #[.int .i64 every, .int .i64 keep, .int .i64 now, .slice A L.length c], .int .i64 0, .int .i64 q]) ?_ rfl ⟨rfl, ?_, ?_⟩
  · unfold results
    rw [hr]
    go_simp
  · refine HL.out.chg (T := fun k => W.heap.size ≤ k ∧ k < w2.heap.size) (S' := S) ?_ HAT.out (fun x _ h => HUP.out x h)
    repeat (first | exact Chg.refl_ _ | refine Chg.set ?_ _ (by have := HS1.out; refine ⟨?_, ?_⟩ <;> dsimp only <;> omega) _)
  · have := HE.out
    repeat (first | exact this | refine Below.setCell ?_ (by dsimp only; omega) _)
set_option maxRecDepth 100000 in
set_option maxHeartbeats 2000000 in
/-- eskerref20.Add of more than sixteen rows. -/
theorem ref_add_big (every keep now : Int) (Lv : Value) (L : List Ser) (v : Value) (l : List RowS) (W : World) (S : Nat → Prop) (hL : RdXS S W Lv L) (hR : RdW W W.heap.size v l) (hl : 16 < l.length) :
    Calls Tryz.prog 48 #[vO every keep now Lv, v] W fun e w' => e = .returned (.tuple #[vO every keep now Lv, .int .i64 0, .int .i64 2]) ∧ RdXS S w' Lv L ∧ Below W.heap.size W w' := by
  obtain ⟨RA, rc, rfl, _, _⟩ := hR
  obtain ⟨n, hn⟩ : ∃ n, n = l.length := ⟨_, rfl⟩
  rw [← hn] at hl ⊢
  have g : (16 : Int) < (n : Int) := by omega
  have HL := Lib.hid hL
  obtain ⟨A, c, rfl⟩ := hL.form
  have hr : Tryz.f48.results = #[.cell 4 65, .tmp 5, .tmp 6] := by kernel_rfl
  clear hL hn hl
  unfold vO
  go_enter Tryz.func48, Tryz.ntmps48
  go_wp2_with fail
  refine bodyPost_ret (v := .tuple #[.agg #[.int .i64 every, .int .i64 keep, .int .i64 now, .slice A L.length c], .int .i64 0, .int .i64 2]) ?_ rfl ⟨rfl, HL.out.on (((Ext.refl W).alloc _).alloc _).below, (((Ext.refl W).alloc _).alloc _).below⟩
  unfold results
  rw [hr]
  go_simp
/-- The reference's series are few. -/
theorem rS_few {R : Told} (hR : R.length ≤ 100000) (hf : FewL R) : (rS R).length ≤ 100000 ∧ ∀ x ∈ rS R, x.1.length ≤ 1000000 ∧ x.2.length ≤ R.length := by
  unfold rS
  refine ⟨by rw [List.length_map]; have := labs_length R; omega, fun x hx => ?_⟩
  obtain ⟨c, hc, rfl⟩ := List.mem_map.1 hx
  have h1 := hf.at_ (mem_labs.1 hc)
  have h2 := putS_len (smpOf R c)
  have h3 := smpOf_length R c
  refine ⟨by show c.length ≤ _; omega, ?_⟩
  show (rsm (smpOf R c)).length ≤ _
  omega
theorem FewL.took {keep now : Int} {R : Told} {l : List RowS} (h : FewL R) : FewL (addR keep now R l) := by
  intro x hx
  rcases mem_addR.1 hx with hx | ⟨r, hr, ht, rfl⟩
  · exact h x hx
  · show (canonL r.1).length ≤ _
    rw [canonL_length]
    unfold takesR at ht
    rw [Bool.and_eq_true, Bool.and_eq_true, Bool.and_eq_true] at ht
    exact mayL_len ht.1.1.1
theorem may_of_takes {keep now : Int} {r : RowS} (h : takesR keep now r = true) : mayL r.1 = true := by
  unfold takesR at h
  rw [Bool.and_eq_true, Bool.and_eq_true, Bool.and_eq_true] at h
  exact h.1.1.1
set_option maxRecDepth 100000 in
set_option maxHeartbeats 8000000 in
/-- eskerref20.Add. -/
theorem ref_add (every keep now : Int) (Lv : Value) (R : Told) (v : Value) (l : List RowS) (W : World) (S : Nat → Prop) (hS : ∀ k, S k → k < W.heap.size) (hL : RdXS S W Lv (rS R)) (hz : Nz Lv) (hR : RdW W W.heap.size v l) (hl : l.length ≤ 16) (htx : ∀ r ∈ l, TxL r.1)
    (hbd : 1 ≤ keep ∧ keep ≤ 1099511627776 ∧ 0 ≤ now ∧ now ≤ 1099511627776) (hRl : R.length ≤ 50000) (hfl : FewL R) :
    Calls Tryz.prog 48 #[vO every keep now Lv, v] W fun e w' => ∃ v', e = .returned (.tuple #[vO every keep now v', .int .i64 (refusedR keep now l), .int .i64 0]) ∧ RdXS S w' v' (rS (addR keep now R l)) ∧ Nz v' ∧ Below W.heap.size W w' := by
  obtain ⟨W1, hW1⟩ : ∃ W1, W1 = (W.alloc (.cells #[.int .i64 every, .int .i64 keep, .int .i64 now, Lv] 65)).alloc (.cells #[.int .i64 0, .int .i64 0, .int .i64 0, .slice none 0 0] 65) := ⟨_, rfl⟩
  obtain ⟨s1, hE, hbox, S1, hs1, hup, hat, hL1⟩ := start_S hS hL hW1
  obtain ⟨RA, rc, rfl, hrc, hRA⟩ := hR
  obtain ⟨n, hn⟩ : ∃ n, n = l.length := ⟨_, rfl⟩
  rw [← hn] at hl ⊢
  have g : ¬ (16 : Int) < (n : Int) := by omega
  obtain ⟨A, c, rfl⟩ := hL1.form
  have HL := Lib.hid (And.intro hL1 hz)
  have HBX := Lib.hid hbox
  have HS1 := Lib.hid s1
  have HS := Lib.hid hs1
  have HE := Lib.hid hE
  have HAT := Lib.hid hat
  have HUP := Lib.hid hup
  have HRA := Lib.hid hRA
  have HN := Lib.hid hn
  have HTX := Lib.hid htx
  have HBD := Lib.hid hbd
  have HRL := Lib.hid (And.intro hRl hfl)
  have hr : Tryz.f48.results = #[.cell 4 65, .tmp 5, .tmp 6] := by kernel_rfl
  clear hL hL1 hE hat hup hs1 hS hbox s1 hn hrc hRA htx hbd hRl hfl hz
  unfold vO
  go_enter Tryz.func48, Tryz.ntmps48
  go_wp2_with fail
  rw [← hW1]
  clear hW1
  go_loopw [7, 8, 9, 10, 11] (fun nv iv _ _ _ wl => ∃ (k q : Nat) (v' : Value), k ≤ n ∧ q ≤ k ∧ iv = .int .i64 k ∧ nv = .int .i64 q ∧ Hid (q = refusedR keep now (l.take k)) ∧ Hid (BoxR W wl every keep now v') ∧ Hid (RdXS S1 wl v' (rS (addR keep now R (l.take k))) ∧ Nz v') ∧ Hid (Below W.heap.size W wl ∧ W1.heap.size ≤ wl.heap.size))
    (fun _ iv _ _ _ _ => n - (intOf iv).toNat)
  case atStart => exact ⟨0, 0, _, Nat.zero_le _, Nat.le_refl _, rfl, rfl, (by rfl : 0 = refusedR keep now (l.take 0)), HBX.out, (by rw [List.take_zero, addR_nil]; exact HL.out), HE.out, Nat.le_refl _⟩
  case round =>
    obtain ⟨k, q, v', hk, hqk, rfl, rfl, HQ, HB, HX, HW⟩ := hrel
    by_cases hlt : k < n
    · have hl2 : k < l.length := by rw [← HN.out]; exact hlt
      rcases HRA.out with h0 | ⟨b, o, e, hb, hcl⟩
      · rw [h0] at hl2; simp at hl2
      subst e
      obtain ⟨y, hy⟩ : ∃ y, y = l[k] := ⟨_, rfl⟩
      obtain ⟨lv, c0, hlv, hzl, c1, c2, c3, c4⟩ : RowAt W W.heap.size b (o + k * 5) y := by rw [hy]; exact hcl k hl2
      have htk : l.take (k + 1) = l.take k ++ [y] := by rw [List.take_succ_eq_append_getElem hl2, ← hy]
      have HTA := Lib.hid (htk ▸ addR_snoc keep now R (l.take k) y)
      have HTR := Lib.hid (htk ▸ refusedR_snoc keep now (l.take k) y)
      have htxy := HTX.out y (by rw [hy]; exact List.getElem_mem hl2)
      obtain ⟨A2, c2', rfl⟩ := HX.out.1.form
      obtain ⟨n2, hn2⟩ : ∃ n2, n2 = (rS (addR keep now R (l.take k))).length := ⟨_, rfl⟩
      rw [← hn2] at HB HX
      have hlen2 : (addR keep now R (l.take k)).length ≤ 50016 := by
        have h1 := addR_length keep now R (l.take k)
        rw [List.length_take] at h1
        have := HRL.out.1
        omega
      have HFX : Hid ((rS (addR keep now R (l.take k))).length ≤ 100000 ∧ ∀ x ∈ rS (addR keep now R (l.take k)), x.1.length ≤ 1000000 ∧ x.2.length ≤ 100000) := by
        have h1 := rS_few (R := addR keep now R (l.take k)) (by omega) HRL.out.2.took
        exact ⟨h1.1, fun x hx => ⟨(h1.2 x hx).1, by have := (h1.2 x hx).2; omega⟩⟩
      obtain ⟨yl, t, m, x, z⟩ := y
      have KR : Hid (∀ w, Below W.heap.size W w → w.cell? ⟨b, o + k * 5, none⟩ = some lv ∧ w.cell? ⟨b, o + k * 5 + 1, none⟩ = some (.int .i64 t) ∧ w.cell? ⟨b, o + k * 5 + 2, none⟩ = some (.int .i64 m) ∧ w.cell? ⟨b, o + k * 5 + 3, none⟩ = some (.int .i64 x) ∧ w.cell? ⟨b, o + k * 5 + 4, none⟩ = some (.int .i64 z)) := fun w h => ⟨(h.cell hb).trans c0, (h.cell hb).trans c1, (h.cell hb).trans c2, (h.cell hb).trans c3, (h.cell hb).trans c4⟩
      obtain ⟨p, hp⟩ : ∃ p, p = takesR keep now (yl, t, m, x, z) := ⟨_, rfl⟩
      rw [← hp] at HTA HTR
      have HP := Lib.hid hp
      have KT : Hid (∀ w, Below wr.heap.size wr w → Calls Tryz.prog 23 #[.agg #[.int .i64 every, .int .i64 keep, .int .i64 now, .slice A2 n2 c2'], .agg #[lv, .int .i64 t, .int .i64 m, .int .i64 x, .int .i64 z]] w fun e w' => e = .returned (.bool p) ∧ Ext w w') := fun w h => by
        have h9 := HW.out.1.trans (h.mono HW.out.1.size)
        rw [hp]; exact ref_takes every keep now A2 n2 c2' lv yl (t, m, x, z) w ((hlv.below h9).mono h9.size) htxy HBD.out
      have KN : Hid (∀ w, Below W.heap.size W w → p = true → Calls Tryz.prog 80 #[lv] w fun e w' => ∃ cv, e = .returned (.tuple #[cv, .int .i64 0]) ∧ OwnL w' w.heap.size cv (canonL yl) ∧ Below w.heap.size w w') := fun w h hpt => ref_canon lv yl w ((hlv.below h).mono h.size) (may_of_takes (hp.symm.trans hpt)) htxy
      have HCW : Hid (∀ w', Below wr.heap.size wr w' → ((w'.cell? ⟨b, o + k * 5, none⟩ = some lv ∧ w'.cell? ⟨b, o + k * 5 + 1, none⟩ = some (.int .i64 t) ∧ w'.cell? ⟨b, o + k * 5 + 2, none⟩ = some (.int .i64 m) ∧ w'.cell? ⟨b, o + k * 5 + 3, none⟩ = some (.int .i64 x) ∧ w'.cell? ⟨b, o + k * 5 + 4, none⟩ = some (.int .i64 z)) ∧ w'.cell? ⟨W.heap.size, 0, none⟩ = some (.int .i64 every) ∧ w'.cell? ⟨W.heap.size, 1, none⟩ = some (.int .i64 keep) ∧ w'.cell? ⟨W.heap.size, 2, none⟩ = some (.int .i64 now) ∧ w'.cell? ⟨W.heap.size, 3, none⟩ = some (.slice A2 n2 c2')) ∧ Below wr.heap.size wr w') := fun w' h => by
        obtain ⟨⟨q0, q1, q2, q3, _⟩, _⟩ := (HB.out.on h).cells
        exact ⟨⟨KR.out w' (HW.out.1.trans (h.mono HW.out.1.size)), q0, q1, q2, q3⟩, h⟩
      have hb0 : Below wr.heap.size wr wr.drew := (Below.refl _ _).drew
      obtain ⟨⟨⟨e0, e1, e2, e3, e4⟩, f0, f1, f2, f3⟩, _⟩ := HCW.out _ hb0
      have i1 : (k : Int) < (n : Int) := by omega
      have i2 : (q : Int) ≤ 16 := by omega
      obtain ⟨LV, lc, hlve, _, _⟩ := id hlv
      obtain ⟨ln, hln⟩ : ∃ ln, ln = List.length yl := ⟨_, rfl⟩
      rw [← hln] at hlve
      have HZL := Lib.hid hzl
      clear hy hcl c0 c1 c2 c3 c4 hlv hzl htk htxy hn2 hlen2 hp hl2 hln
      subst hlve
      go_wp2_with fail
      go_region_held3 (fun w' => ((w'.cell? ⟨b, o + k * 5, none⟩ = some (.slice LV ln lc) ∧ w'.cell? ⟨b, o + k * 5 + 1, none⟩ = some (.int .i64 t) ∧ w'.cell? ⟨b, o + k * 5 + 2, none⟩ = some (.int .i64 m) ∧ w'.cell? ⟨b, o + k * 5 + 3, none⟩ = some (.int .i64 x) ∧ w'.cell? ⟨b, o + k * 5 + 4, none⟩ = some (.int .i64 z)) ∧ w'.cell? ⟨W.heap.size, 0, none⟩ = some (.int .i64 every) ∧ w'.cell? ⟨W.heap.size, 1, none⟩ = some (.int .i64 keep) ∧ w'.cell? ⟨W.heap.size, 2, none⟩ = some (.int .i64 now) ∧ w'.cell? ⟨W.heap.size, 3, none⟩ = some (.slice A2 n2 c2')) ∧ Below wr.heap.size wr w')
        (first | assumption | exact HCW.out _ hb0 | exact HCW.out _ (by assumption))
        (first | (go_at_call 23; refine (KT.out _ hb0).mono ?_; rintro e w5 ⟨rfl, hE5⟩; have hb5 := hb0.trans (hE5.below.mono hb0.size)))
      all_goals (
        have HW5 : Hid (Below W.heap.size W w5 ∧ W1.heap.size ≤ w5.heap.size) := ⟨HW.out.1.trans (hb5.mono HW.out.1.size), Nat.le_trans HW.out.2 hb5.size⟩
        have HB5 := Lib.hid (HB.out.on hb5)
        have HX5 := Lib.hid (And.intro (HX.out.1.on hb5) HX.out.2)
        clear hb0 hE5 hb5 e0 e1 e2 e3 e4 f0 f1 f2 f3 KT HCW HB HX HW
        cases p with
        | false =>
          have HQ2 : Hid (q + 1 = refusedR keep now (l.take (k + 1))) := by show _ = _; rw [HTR.out, HQ.out]; simp
          have HX6 : Hid (RdXS S1 w5 (.slice A2 n2 c2') (rS (addR keep now R (l.take (k + 1)))) ∧ Nz (.slice A2 n2 c2')) := by
            show _ ∧ _
            rw [HTA.out]; simpa using HX5.out
          clear HTA HTR KN HX5 HQ
          go_wp2_with fail
          go_roundw
          case rel => exact ⟨k + 1, q + 1, _, by omega, by omega, by go_num, by go_num, HQ2.out, HB5.out, HX6.out, HW5.out⟩
          case measure => simp [intOf]; omega
        | true =>
          have HQ2 : Hid (q = refusedR keep now (l.take (k + 1))) := by show _ = _; rw [HTR.out, HQ.out]; simp
          have K5 := Lib.hid (KN.out w5 HW5.out.1 rfl)
          obtain ⟨r0, r1, r2, r3, r4⟩ := KR.out w5 HW5.out.1
          clear HTR KN HQ
          go_wp2_with fail
          refine K5.out.mono ?_
          rintro e w6 ⟨cv, rfl, hcv, hb6⟩
          have HW6 : Hid (Below W.heap.size W w6 ∧ W1.heap.size ≤ w6.heap.size) := ⟨HW5.out.1.trans (hb6.mono HW5.out.1.size), Nat.le_trans HW5.out.2 hb6.size⟩
          have HB6 := Lib.hid (HB5.out.on hb6)
          have HX6 := Lib.hid (And.intro (HX5.out.1.on hb6) HX5.out.2)
          have HCV : Hid (SL S1 w6 cv (canonL yl) ∧ Nz cv) := ⟨SL.own hcv (fun j hj => by have := HS.out j hj; have := HW5.out.2; omega), hcv.nz⟩
          have KP : Hid (∀ w, Below w6.heap.size w6 w → Calls Tryz.prog 81 #[.agg #[.int .i64 every, .int .i64 keep, .int .i64 now, .slice A2 n2 c2'], cv, .agg #[.int .i64 t, .int .i64 m, .int .i64 x, .int .i64 z]] w fun e w' => ∃ v7, e = .returned (.agg #[.int .i64 every, .int .i64 keep, .int .i64 now, v7]) ∧ RdXS S1 w' v7 (rS (addR keep now R (l.take (k + 1)))) ∧ Nz v7 ∧ Below w.heap.size w w') := fun w h => by
            have h1 := ref_put every keep now (.slice A2 n2 c2') (rS (addR keep now R (l.take k))) cv (canonL yl) (t, m, x, z) w S1 (fun j hj => by have := HS.out j hj; have := HW6.out.2; have := h.size; omega) (HX6.out.1.on h) (HCV.out.1.on h) HCV.out.2 HFX.out
            rw [putR_rS] at h1
            rw [HTA.out]
            exact h1
          have hd6 : Below w6.heap.size w6 w6.drew := (Below.refl _ _).drew
          obtain ⟨⟨q0, q1, q2, q3, q4⟩, _⟩ := (HB6.out.on hd6).cells
          obtain ⟨CV, cc, hcve, _, _⟩ := hcv.rd
          obtain ⟨cn, hcn⟩ : ∃ cn, cn = (canonL yl).length := ⟨_, rfl⟩
          rw [← hcn] at hcve
          clear hcn hcv hb6 K5 r0 r1 r2 r3 r4 HB5 HX5 HTA
          subst hcve
          go_wp2_with fail
          refine wp_region_held_drew (S := fun w' => Below W.heap.size W w' ∧ w'.cell? ⟨b, o + k * 5 + 1, none⟩ = some (.int .i64 t) ∧ w'.cell? ⟨b, o + k * 5 + 2, none⟩ = some (.int .i64 m) ∧ w'.cell? ⟨b, o + k * 5 + 3, none⟩ = some (.int .i64 x) ∧ w'.cell? ⟨b, o + k * 5 + 4, none⟩ = some (.int .i64 z)) (by kernel_rfl) ?_ (fun hHeld => ?_)
          · (try dsimp only)
            (have hk9 : Below W.heap.size W _ := HW6.out.1.trans (hd6.mono HW6.out.1.size); exact ⟨hk9, (KR.out _ hk9).2⟩)
          refine takeW (i := 1) (v := ?_) rfl (by kernel_rfl) (by kernel_rfl) (by kernel_rfl) (fun _ _ _ h => h) (by rfl) ?_ (by assumption) ?_
          rotate_left
          · (intro w hSw; (try dsimp only at hSw); go_simp; try with_reducible rfl)
          simp only [Act.put, sA, sZ, sS]
          refine takeW (i := 2) (v := ?_) rfl (by kernel_rfl) (by kernel_rfl) (by kernel_rfl) (fun _ _ _ h => h) (by rfl) ?_ (by assumption) ?_
          rotate_left
          · (intro w hSw; (try dsimp only at hSw); go_simp; try with_reducible rfl)
          simp only [Act.put, sA, sZ, sS]
          refine takeW (i := 3) (v := ?_) rfl (by kernel_rfl) (by kernel_rfl) (by kernel_rfl) (fun _ _ _ h => h) (by rfl) ?_ (by assumption) ?_
          rotate_left
          · (intro w hSw; (try dsimp only at hSw); go_simp; try with_reducible rfl)
          simp only [Act.put, sA, sZ, sS]
          refine takeW (i := 4) (v := ?_) rfl (by kernel_rfl) (by kernel_rfl) (by kernel_rfl) (fun _ _ _ h => h) (by rfl) ?_ (by assumption) ?_
          rotate_left
          · (intro w hSw; (try dsimp only at hSw); go_simp; try with_reducible rfl)
          simp only [Act.put, sA, sZ, sS]
          refine takeW (i := 5) (v := ?_) rfl (by kernel_rfl) (by kernel_rfl) (by kernel_rfl) (fun _ _ _ h => h) (by rfl) ?_ (by assumption) ?_
          rotate_left
          · (intro w hSw; (try dsimp only at hSw); go_simp; try with_reducible rfl)
          simp only [Act.put, sA, sZ, sS]
          refine takeW (i := 6) (v := ?_) rfl (by kernel_rfl) (by kernel_rfl) (by kernel_rfl) (fun _ _ _ h => h) (by rfl) ?_ (by assumption) ?_
          rotate_left
          · (intro w hSw; (try dsimp only at hSw); go_simp; try with_reducible rfl)
          simp only [Act.put, sA, sZ, sS]
          refine takeW (i := 7) (v := ?_) rfl (by kernel_rfl) (by kernel_rfl) (by kernel_rfl) (fun _ _ _ h => h) (by rfl) ?_ (by assumption) ?_
          rotate_left
          · (intro w hSw; (try dsimp only at hSw); go_simp; try with_reducible rfl)
          simp only [Act.put, sA, sZ, sS]
          refine takeW (i := 8) (v := ?_) rfl (by kernel_rfl) (by kernel_rfl) (by kernel_rfl) (fun _ _ _ h => h) (by rfl) ?_ (by assumption) ?_
          rotate_left
          · (intro w hSw; (try dsimp only at hSw); go_simp; try with_reducible rfl)
          simp only [Act.put, sA, sZ, sS]
          refine takeW (i := 9) (v := ?_) rfl (by kernel_rfl) (by kernel_rfl) (by kernel_rfl) (fun _ _ _ h => h) (by rfl) ?_ (by assumption) ?_
          rotate_left
          · (intro w hSw; (try dsimp only at hSw); go_simp; try with_reducible rfl)
          simp only [Act.put, sA, sZ, sS]
          refine takeW (i := 10) (v := ?_) rfl (by kernel_rfl) (by kernel_rfl) (by kernel_rfl) (fun _ _ _ h => h) (by rfl) ?_ (by assumption) ?_
          rotate_left
          · (intro w hSw; (try dsimp only at hSw); go_simp; try with_reducible rfl)
          simp only [Act.put, sA, sZ, sS]
          refine takeW (i := 11) (v := ?_) rfl (by kernel_rfl) (by kernel_rfl) (by kernel_rfl) (fun _ _ _ h => h) (by rfl) ?_ (by assumption) ?_
          rotate_left
          · (intro w hSw; (try dsimp only at hSw); go_simp; try with_reducible rfl)
          simp only [Act.put, sA, sZ, sS]
          refine takeW (i := 12) (v := ?_) rfl (by kernel_rfl) (by kernel_rfl) (by kernel_rfl) (fun _ _ _ h => h) (by rfl) ?_ (by assumption) ?_
          rotate_left
          · (intro w hSw; (try dsimp only at hSw); go_simp; try with_reducible rfl)
          simp only [Act.put, sA, sZ, sS]
          refine takeC (i := 0) rfl (by kernel_rfl) (by rfl) (fun K hK => ?_)
          go_simp
          refine hK.out _ _ ?_ (fun hHeld => ?_)
          · (try dsimp only)
            (have hk9 : Below W.heap.size W _ := HW6.out.1.trans (hd6.mono HW6.out.1.size); exact ⟨hk9, (KR.out _ hk9).2⟩)
          clear hK K
          try simp only [Act.put, sA, sZ, sS]
          refine takeC (i := 13) rfl (by kernel_rfl) (by rfl) (fun K hK => ?_)
          go_simp
          refine (KP.out _ hd6).mono ?_
          rintro e w7 ⟨v7, rfl, hX7, hz7, hb7⟩
          have HW7 : Hid (Below W.heap.size W w7 ∧ W1.heap.size ≤ w7.heap.size) := by
            have h9 := hd6.trans (hb7.mono hd6.size)
            exact ⟨HW6.out.1.trans (h9.mono HW6.out.1.size), Nat.le_trans HW6.out.2 h9.size⟩
          have HB7 := Lib.hid ((HB6.out.on hd6).on hb7)
          obtain ⟨A7, c7, rfl⟩ := hX7.form
          obtain ⟨n7, hn7⟩ : ∃ n7, n7 = (rS (addR keep now R (l.take (k + 1)))).length := ⟨_, rfl⟩
          rw [← hn7] at hX7 hz7 ⊢
          have HX7 := Lib.hid (And.intro hX7 hz7)
          obtain ⟨⟨g0, g1, g2, g3, g4⟩, _⟩ := HB7.out.cells
          clear hn7 hX7 hz7 hb7
          try go_wp2_with fail
          refine hK.out _ _ ?_ (fun hHeld => ?_)
          · (try dsimp only)
            (have hk9 : Below W.heap.size W _ := HW7.out.1; exact ⟨hk9, (KR.out _ hk9).2⟩)
          clear hK K
          try simp only [Act.put, sA, sZ, sS]
          refine takeC (i := 14) rfl (by kernel_rfl) (by rfl) (fun K hK => ?_)
          go_simp
          refine hK.out _ _ ?_ (fun hHeld => ?_)
          · (try dsimp only)
            (have hk9 : Below W.heap.size W _ := HW7.out.1; have hk8 : Below W.heap.size W ((((w7.setCell ⟨W.heap.size, 0, none⟩ (.int .i64 every)).setCell ⟨W.heap.size, 1, none⟩ (.int .i64 keep)).setCell ⟨W.heap.size, 2, none⟩ (.int .i64 now)).setCell ⟨W.heap.size, 3, none⟩ (.slice A7 n7 c7)) := (by repeat (first | exact hk9 | refine Below.setCell ?_ (by dsimp only; omega) _)); exact ⟨hk8, (KR.out _ hk8).2⟩)
          clear hK K
          try simp only [Act.put, sA, sZ, sS]
          refine wpAnyH_done (by kernel_rfl) ?_ _
          have HX8 : Hid (RdXS S1 ((((w7.setCell ⟨W.heap.size, 0, none⟩ (.int .i64 every)).setCell ⟨W.heap.size, 1, none⟩ (.int .i64 keep)).setCell ⟨W.heap.size, 2, none⟩ (.int .i64 now)).setCell ⟨W.heap.size, 3, none⟩ (.slice A7 n7 c7)) (.slice A7 n7 c7) (rS (addR keep now R (l.take (k + 1)))) ∧ Nz (.slice A7 n7 c7)) := by
            refine ⟨HX7.out.1.chg (T := fun k => W.heap.size ≤ k ∧ k < W1.heap.size) (S' := S1) ?_ HAT.out (fun _ _ h => h), HX7.out.2⟩
            repeat (first | exact Chg.refl_ _ | refine Chg.set ?_ _ (by have := HS1.out; refine ⟨?_, ?_⟩ <;> dsimp only <;> omega) _)
          have HW8 : Hid (Below W.heap.size W ((((w7.setCell ⟨W.heap.size, 0, none⟩ (.int .i64 every)).setCell ⟨W.heap.size, 1, none⟩ (.int .i64 keep)).setCell ⟨W.heap.size, 2, none⟩ (.int .i64 now)).setCell ⟨W.heap.size, 3, none⟩ (.slice A7 n7 c7)) ∧ W1.heap.size ≤ ((((w7.setCell ⟨W.heap.size, 0, none⟩ (.int .i64 every)).setCell ⟨W.heap.size, 1, none⟩ (.int .i64 keep)).setCell ⟨W.heap.size, 2, none⟩ (.int .i64 now)).setCell ⟨W.heap.size, 3, none⟩ (.slice A7 n7 c7)).heap.size) := by
            refine ⟨?_, by simpa [World.setCell] using HW7.out.2⟩
            have := HW7.out.1
            repeat (first | exact this | refine Below.setCell ?_ (by dsimp only; omega) _)
          have HB8 := Lib.hid (HB7.out.put (v' := .slice A7 n7 c7))
          clear HX7 HW7 HB7 KP q0 q1 q2 q3 q4 g0 g1 g2 g3 g4
          go_wp2_with fail
          go_roundw
          case rel => exact ⟨k + 1, q, _, by omega, by omega, by go_num, by go_num, HQ2.out, HB8.out, HX8.out, HW8.out⟩
          case measure => simp [intOf]; omega)
    · have hkn : k = n := by omega
      have i1 : ¬ (k : Int) < (n : Int) := by omega
      have HQ2 : Hid (refusedR keep now l = q) := by
        show _ = _
        rw [HQ.out, hkn, HN.out, List.take_length]
      have HX2 : Hid (RdXS S1 wr v' (rS (addR keep now R l)) ∧ Nz v') := by
        have := HX.out
        rwa [hkn, HN.out, List.take_length] at this
      obtain ⟨A2, c2', rfl⟩ := HX2.out.1.form
      obtain ⟨n2, hn2⟩ : ∃ n2, n2 = (rS (addR keep now R l)).length := ⟨_, rfl⟩
      rw [← hn2] at HB HX2
      obtain ⟨⟨q0, q1, q2, q3, q4⟩, z0, z1, z2, z3, z4⟩ := HB.out.cells
      have HW9 := HW
      clear hn2 HX HQ hkn hlt
      go_wp2_with fail
      refine bodyPost_ret (v := .tuple #[.agg #[.int .i64 every, .int .i64 keep, .int .i64 now, .slice A2 n2 c2'], .int .i64 q, .int .i64 0]) ?_ rfl ⟨.slice A2 n2 c2', by rw [HQ2.out], ?_, HX2.out.2, ?_⟩
      · unfold results
        rw [hr]
        go_simp
      · refine HX2.out.1.chg (T := fun k => W.heap.size ≤ k ∧ k < W1.heap.size) (S' := S) ?_ HAT.out (fun x _ h => HUP.out x h)
        repeat (first | exact Chg.refl_ _ | refine Chg.set ?_ _ (by have := HS1.out; refine ⟨?_, ?_⟩ <;> dsimp only <;> omega) _)
      · have := HW9.out.1
        repeat (first | exact this | refine Below.setCell ?_ (by dsimp only; omega) _)
end Go.Proofs.YtkgcbeokfilehaaGreatDoor
