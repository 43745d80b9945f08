/-
  eskerlaw16.at: points of some ticks.
-/
import Derived.Test.YtkcipfmbkokfdaaGreatDoorRmk
import Derived.Deep.RegionHeld3
import Derived.Deep.RegionLaw
import Derived.Laws.Rows
namespace Go.Proofs.YtkcipfmbkokfdaaGreatDoor
open Go.RowKit Go.Sort Go.Maps
attribute [local go_sem ↓] Go.wp_at_zero Go.wp_at_succ
theorem step_app1S {P : Program} {w : World} {ops : Array Oper} {o : Oper} {a : Act} {K : Act → World → Prop} {Q : Exit → Act → World → Prop} {E : Prop} (hgd : o.guard = none) (s x : Operand) (t e : TypeId)
    (ho : o.op = .call { callee := .builtin .append, args := #[s, x], argTypes := #[t, t] }) (ht : P.underlying t = some (.slice e))
    (hinf : (P.info? e).map (fun i => (i.zero, i.size, i.bytes)) = some (some (.agg #[.int .i64 0, .int .i64 0, .int .i64 0, .int .i64 0]), 4, 32))
    (base : Nat) (v : Value) (l : List Smp) (y : Smp) (hs : a.eval s = v) (hown : Own w base e v l) (b off c : Nat) (hx : a.eval x = .slice (some ⟨b, off, none⟩) 1 c) (hc : Cell4 w b off y)
    (hl : (l.length + 1) * 32 ≤ 140737488355328) (hbase : base ≤ w.heap.size)
    (h : ∀ v' w', Own w' base e v' (l ++ [y]) → w.grownBy w' v.ownBlock → (v'.ownBlock = v.ownBlock ∨ v'.ownBlock = some w.heap.size) → K (a.put o.dst v') w') :
    if Region.wanted o (yielded ops a.tmps) = true then o.wp P a w K Q else E := by
  have hw : Region.wanted o (yielded ops a.tmps) = true := by simp [Region.wanted, hgd]
  rw [if_pos hw]
  obtain ⟨i, hi, hz1, hsz, hby⟩ := of_info hinf
  obtain ⟨v', w', hr, h2, h3, _, h5⟩ := run_append_own_at (P := P) w base t o.type e i _ 4 32 ht hi hz1 hsz hby rfl (by decide) v l.length (flatS l) hown ⟨b, off, none⟩ 1 c (encS y) rfl hc.news (encS_one y) (by unfold maxLen; omega) hl hbase
  unfold Oper.wp execOp
  simp only [ho, resolve, invoke, builtin, Sem.run_bind, Sem.run_pure, Result.andThen_ok, List.map_toArray, List.map_cons, List.map_nil, hs, hx, hr]
  refine h v' w' ?_ h3 h5
  unfold Own
  rw [flatS_append, flatS_one, List.length_append]
  exact h2
def mkS (t : Int) : Smp := (t, 1, 0, 0)
set_option maxRecDepth 100000 in
set_option maxHeartbeats 2000000 in
theorem at16_walk (id : Int) (tv : Value) (ts : List Int) (W : World) (hR : RdZ W W.heap.size tv ts) (hn : ts.length ≤ 1000) :
    Calls Tryz.prog 27 #[.int .i64 id, tv] W fun e w' => ∃ sv, e = .returned (.agg #[.int .i64 id, sv]) ∧ Own w' W.heap.size 52 sv (ts.map mkS) ∧ Below W.heap.size W w' := by
  obtain ⟨A, c, rfl, hc, hA⟩ := hR
  obtain ⟨n, hn'⟩ : ∃ n, n = ts.length := ⟨_, rfl⟩
  rw [← hn'] at hc hn ⊢
  have HN := Lib.hid hn'
  have HA := Lib.hid hA
  clear hn' hA hc
  go_enter Tryz.func27, Tryz.ntmps27
  go_wp2_with fail
  obtain ⟨rb, hrb⟩ : ∃ rb, rb = W.heap.size := ⟨_, rfl⟩
  obtain ⟨bp, hbp⟩ : ∃ bp, bp = W.heap.size + 1 := ⟨_, rfl⟩
  obtain ⟨w0, hw0⟩ : ∃ w0, w0 = (W.alloc (.cells #[.int .i64 0, .slice none 0 0] 48)).alloc (.cells #[.int .i64 id, .slice none 0 0] 48) := ⟨_, rfl⟩
  have hB0 : Below W.heap.size W w0 := by rw [hw0]; exact ((Below.refl _ W).alloc (Nat.le_refl _) _).alloc (by simp) _
  have hs0 : w0.heap.size = W.heap.size + 2 := by rw [hw0]; simp
  have e0 : w0.cell? ⟨bp, 0, none⟩ = some (.int .i64 id) := by
    have h := new_cell (W.alloc (.cells #[.int .i64 0, .slice none 0 0] 48)) #[.int .i64 id, .slice none 0 0] 48 0
    rw [World.size_alloc] at h
    rw [hw0, hbp]; exact h
  have e1 : w0.cell? ⟨bp, 1, none⟩ = some (.slice none 0 0) := by
    have h := new_cell (W.alloc (.cells #[.int .i64 0, .slice none 0 0] 48)) #[.int .i64 id, .slice none 0 0] 48 1
    rw [World.size_alloc] at h
    rw [hw0, hbp]; exact h
  have e2 : w0.frozen? ⟨bp, 1, none⟩ = false := by
    have h := World.alloc_heap_new (W.alloc (.cells #[.int .i64 0, .slice none 0 0] 48)) (.cells #[.int .i64 id, .slice none 0 0] 48)
    rw [World.size_alloc] at h
    rw [hw0, hbp]; unfold World.frozen?; simp only; rw [h]; rfl
  have e3 : w0.heap[rb]? = some (.cells #[.int .i64 0, .slice none 0 0] 48 (0, 0)) := by
    rw [hw0, hrb]; exact (Below.heap_alloc _ _ _ (by simp)).trans (World.alloc_heap_new _ _)
  rw [← hw0]
  rw [← hbp, ← hrb]
  have HRB : Hid (rb = W.heap.size ∧ bp = W.heap.size + 1 ∧ rb ≠ bp ∧ bp < w0.heap.size ∧ rb < w0.heap.size) := ⟨hrb, hbp, by omega, by omega, by omega⟩
  have HB0 := Lib.hid hB0
  have HS0 := Lib.hid hs0
  clear hw0 hrb hbp hB0 hs0
  have E0 := Lib.hid e0
  have E1 := Lib.hid e1
  have E2 := Lib.hid e2
  have E3 := Lib.hid e3
  clear e0 e1 e2 e3
  go_loopw [6] (fun i wl => ∃ (k : Nat) (sv : Value), k ≤ n ∧ i = .int .i64 k ∧ wl.cell? ⟨bp, 0, none⟩ = some (.int .i64 id) ∧ wl.cell? ⟨bp, 1, none⟩ = some sv ∧ wl.frozen? ⟨bp, 1, none⟩ = false ∧ Hid (wl.heap[rb]? = some (.cells #[.int .i64 0, .slice none 0 0] 48 (0, 0))) ∧ Hid (Own wl w0.heap.size 52 sv ((ts.take k).map mkS)) ∧ Hid (w0.grownBy wl (some bp)))
    (fun i _ => n - (intOf i).toNat)
  case atStart => exact ⟨0, _, Nat.zero_le _, rfl, E0.out, E1.out, E2.out, E3.out, Own.nil _ _ _, ⟨rfl, rfl, rfl, Nat.le_refl _, fun _ _ _ => rfl⟩⟩
  case round =>
    obtain ⟨k, sv, hk, rfl, f0, f1, f2, HR3, HO, HG⟩ := hrel
    by_cases hlt : k < n
    · have hkl : k < ts.length := by rw [← HN.out]; exact hlt
      rcases HA.out with h0 | ⟨b, o, e, hb, hcl⟩
      · subst h0; simp at hkl
      subst e
      obtain ⟨t, ht⟩ : ∃ t, t = ts[k] := ⟨_, rfl⟩
      have hbbp : b ≠ bp := by have := HRB.out.2.1; omega
      have hbw : b < w0.heap.size := Nat.lt_of_lt_of_le hb HB0.out.size
      have c0 : wr.cell? ⟨b, o + k, none⟩ = some (.int .i64 t) := by
        have h1 : w0.cell? ⟨b, o + k, none⟩ = some (.int .i64 t) := by rw [ht]; exact (HB0.out.cell hb).trans (hcl k hkl)
        exact (HG.out.cell_far _ hbw (fun e => hbbp (Option.some.inj e))).trans h1
      have HT : Hid ((ts.take (k + 1)).map mkS = (ts.take k).map mkS ++ [mkS t]) := take_map_snoc _ ts k hkl t ht
      have hO2 := HO.out
      obtain ⟨Ao, co, rfl, hco, _⟩ := hO2.rd
      obtain ⟨l0, hl0⟩ : ∃ l0, l0 = (ts.take k).map mkS := ⟨_, rfl⟩
      rw [← hl0] at HT HO hO2 hco f1
      have hlk : l0.length = k := by rw [hl0, List.length_map, List.length_take]; omega
      rw [hlk] at f1 hco HO hO2
      have i1 : (k : Int) < (n : Int) := by omega
      have hlt3 := lt_of_cell f0
      have hbne : bp ≠ wr.heap.size := by omega
      have hbW : b < W.heap.size := hb
      have hw0r : w0.heap.size ≤ wr.heap.size := HG.out.size
      obtain ⟨wa, hwa⟩ : ∃ wa, wa = (wr.alloc (.cells #[.int .i64 t, .int .i64 1, .int .i64 0, .int .i64 0] 52)).drew := ⟨_, rfl⟩
      have hga : wr.grownBy wa none := by rw [hwa]; exact ⟨rfl, rfl, rfl, by show _ ≤ (wr.alloc _).heap.size; simp, fun i hi _ => Below.heap_alloc _ _ i hi⟩
      have HGA := Lib.hid hga
      have HOa : Hid (Own wa w0.heap.size 52 (.slice Ao k co) l0) := hO2.kept hga (by cases (Value.slice Ao k co).ownBlock with | none => exact .inl rfl | some g => exact .inr (by simp))
      have HCa : Hid (Cell4 wa wr.heap.size 0 (mkS t)) := by show Cell4 _ _ _ _; rw [hwa]; exact Cell4.new wr (mkS t) _ _ rfl
      have HSz : Hid (w0.heap.size ≤ wa.heap.size) := Nat.le_trans hw0r hga.size
      have HNe : Hid (some bp ≠ (Value.slice Ao k co).ownBlock) := fun e => by
        have := (hO2.blk e.symm).1
        have := HRB.out
        omega
      have HNr : Hid (some rb ≠ (Value.slice Ao k co).ownBlock) := fun e => by
        have := (hO2.blk e.symm).1
        have := HRB.out
        omega
      have j1 : wa.cell? ⟨bp, 1, none⟩ = some (.slice Ao k co) := (hga.cell_far _ hlt3 (by simp)).trans f1
      have j2 : wa.cell? ⟨b, o + k, none⟩ = some (.int .i64 t) := (hga.cell_far _ (lt_of_cell c0) (by simp)).trans c0
      have jj1 : wr.drew.cell? ⟨bp, 1, none⟩ = some (.slice Ao k co) := f1
      have jj2 : wr.drew.cell? ⟨b, o + k, none⟩ = some (.int .i64 t) := c0
      have HLT := Lib.hid hlt3
      have HF2 := Lib.hid f2
      have HF0 := Lib.hid f0
      have HBp : Hid (bp ≠ b) := fun e => hbbp e.symm
      have HBne : Hid (some b ≠ (Value.slice Ao k co).ownBlock) := fun e => by
        have := (hO2.blk e.symm).1
        omega
      rw [hwa] at j1 j2 HOa HCa HSz HGA
      clear ht hcl hl0 hga hO2 hwa f2
      go_wp2_with fail
      go_region_law
        ((refine step_app1S (by rfl) _ _ 40 52 (by rfl) Tryz.underlying40 info_Smp w0.heap.size _ l0 (mkS t) (by rfl) HOa.out wr.heap.size 0 1 (by rfl) HCa.out (by omega) HSz.out ?_; intro v1 w4 hown4 hg4 hloc4;
          have k1 : w4.cell? ⟨bp, 1, none⟩ = some (.slice Ao k co) := (hg4.cell_far _ (Nat.lt_of_lt_of_le HLT.out HGA.out.size) HNe.out).trans j1;
          have k2 : w4.cell? ⟨b, o + k, none⟩ = some (.int .i64 t) := (hg4.cell_far _ (lt_of_cell j2) HBne.out).trans j2;
          have k3 : w4.frozen? ⟨bp, 1, none⟩ = false := by
            rw [World.frozen?_of_block ((hg4.block bp (Nat.lt_of_lt_of_le HLT.out HGA.out.size) HNe.out).trans (HGA.out.block bp HLT.out (by simp)))]
            exact HF2.out;
          have K0 : Hid (w4.cell? ⟨bp, 0, none⟩ = some (.int .i64 id)) := (hg4.cell_far _ (Nat.lt_of_lt_of_le HLT.out HGA.out.size) HNe.out).trans ((HGA.out.cell_far _ HLT.out (by simp)).trans HF0.out);
          obtain ⟨A4, c4, e4, hc4, _⟩ := hown4.rd;
          rw [List.length_append, List.length_singleton, hlk] at e4 hc4;
          subst e4;
          have HO4 := Lib.hid hown4;
          have k5 : (w4.setCell ⟨bp, 1, none⟩ (.slice A4 (k + 1) c4)).cell? ⟨b, o + k, none⟩ = some (.int .i64 t) := (World.cell?_setCell_far _ _ _ _ HBp.out).trans k2;
          have HG4 : Hid (w0.grownBy w4 (some bp)) := ⟨hg4.os.trans (HGA.out.os.trans HG.out.os), hg4.tape.trans (HGA.out.tape.trans HG.out.tape), hg4.output.trans (HGA.out.output.trans HG.out.output), Nat.le_trans HSz.out hg4.size, fun i hi hne => (hg4.block i (Nat.lt_of_lt_of_le hi HSz.out) (fun e => by have := (HO.out.blk e.symm).1; omega)).trans ((HGA.out.block i (Nat.lt_of_lt_of_le hi HG.out.size) (by simp)).trans (HG.out.block i hi hne))⟩;
          have HR4 : Hid (w4.heap[rb]? = some (.cells #[.int .i64 0, .slice none 0 0] 48 (0, 0))) := (hg4.block rb (Nat.lt_of_lt_of_le HRB.out.2.2.2.2 HSz.out) HNr.out).trans ((HGA.out.block rb (Nat.lt_of_lt_of_le HRB.out.2.2.2.2 HG.out.size) (by simp)).trans HR3.out);
          clear hown4 hg4 hloc4))
      all_goals (
        go_wp2_with fail
        go_roundw
        case rel =>
          have hgs : w4.grownBy (w4.setCell ⟨bp, 1, none⟩ (.slice A4 (k + 1) c4)) (some bp) := (But.refl bp w4).set 1 _
          refine ⟨k + 1, _, by omega, by go_num, ?_, World.cell?_setCell_same _ _ _ k1, by rw [World.frozen?_setCell]; exact k3, (hgs.block rb (Array.getElem?_eq_some_iff.1 HR4.out).1 (fun e => HRB.out.2.2.1 (Option.some.inj e))).trans HR4.out, ?_, ⟨hgs.os.trans HG4.out.os, hgs.tape.trans HG4.out.tape, hgs.output.trans HG4.out.output, Nat.le_trans HG4.out.size hgs.size, fun i hi hne => (hgs.block i (Nat.lt_of_lt_of_le hi HG4.out.size) hne).trans (HG4.out.block i hi hne)⟩⟩
          · rw [World.cell?_setCell_other]
            · exact K0.out
            · intro e; injection e with _ e; omega
          · rw [HT.out]
            exact ownsRow_setCell_below HO4.out (a := ⟨bp, 1, none⟩) (by have := HRB.out.2.2.2.1; exact this) _
        case measure => simp [intOf]; omega)
    · obtain rfl : n = k := by omega
      obtain ⟨wr0, rfl⟩ : ∃ w0, w0 = wr := ⟨wr, rfl⟩
      have HO2 := HO.out
      rw [HN.out, List.take_length] at HO2
      have HOf := Lib.hid HO2
      obtain ⟨Ao, co, rfl, hco, _⟩ := HO2.rd
      have g0 : wr0.cell? ⟨rb, 0, none⟩ = some (.int .i64 0) := by simp [World.cell?, HR3.out]
      have g1 : wr0.cell? ⟨rb, 1, none⟩ = some (.slice none 0 0) := by simp [World.cell?, HR3.out]
      have g2 : wr0.frozen? ⟨rb, 0, none⟩ = false := by simp [World.frozen?, HR3.out]
      have g3 : wr0.frozen? ⟨rb, 1, none⟩ = false := by simp [World.frozen?, HR3.out]
      clear HO2 hco
      go_wp2_with fail
      have hcell : ((wr0.setCell ⟨rb, 0, none⟩ (.int .i64 id)).setCell ⟨rb, 1, none⟩ (.slice Ao ts.length co)).heap[rb]? = some (.cells #[.int .i64 id, .slice Ao ts.length co] 48 (0, 0)) := by
        simp [World.setCell, Array.getElem?_modify, HR3.out]
      refine bodyPost_ret (results_cell_row (ty := 48) rfl _ _ rb _ _ _ _ rfl hcell Tryz.underlying48 rfl (by kernel_rfl)) rfl ?_
      have hrb := HRB.out
      have hof := HOf.out
      rw [List.length_map] at hof
      have hB1 : Below W.heap.size w0 wr0 := ⟨HG.out.os, HG.out.tape, HG.out.output, HG.out.size, fun i hi => HG.out.block i (by have := HB0.out.size; omega) (fun e => by have := Option.some.inj e; omega)⟩
      refine ⟨_, rfl, ?_, ((HB0.out.trans hB1).setCell (p := ⟨rb, 0, none⟩) (by show W.heap.size ≤ rb; omega) _).setCell (p := ⟨rb, 1, none⟩) (by show W.heap.size ≤ rb; omega) _⟩
      have h1 : Own (wr0.setCell ⟨rb, 0, none⟩ (.int .i64 id)) w0.heap.size 52 (.slice Ao ts.length co) (ts.map mkS) := ownsRow_setCell_below hof (a := ⟨rb, 0, none⟩) hrb.2.2.2.2 _
      have h2 : Own ((wr0.setCell ⟨rb, 0, none⟩ (.int .i64 id)).setCell ⟨rb, 1, none⟩ (.slice Ao ts.length co)) w0.heap.size 52 (.slice Ao ts.length co) (ts.map mkS) := ownsRow_setCell_below h1 (a := ⟨rb, 1, none⟩) hrb.2.2.2.2 _
      exact h2.lower (by omega)
end Go.Proofs.YtkcipfmbkokfdaaGreatDoor
