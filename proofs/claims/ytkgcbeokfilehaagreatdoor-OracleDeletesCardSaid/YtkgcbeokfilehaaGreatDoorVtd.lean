/-
  oracle.Add.
-/
import Derived.Test.YtkgcbeokfilehaaGreatDoorVld
import Derived.Deep.RegionHeld3
import Derived.Deep.DrawnRows
import Derived.Test.YtkgcbeokfilehaaGreatDoorRgnd
namespace Go.Proofs.YtkgcbeokfilehaaGreatDoor
open Go.RowKit Go.Sort Go.Shelf Go.Maps
/-- Rows that can be read as long as just T turns. -/
def RdWT (W : World) (T : Nat → Prop) (v : Value) (l : List RowS) : Prop := ∀ w', Chg T W w' → RdW w' w'.heap.size v l
theorem add1 {P : Program} {w : World} {o : Oper} {a : Act} {K : Act → World → Prop} {Q : Exit → Act → World → Prop} (s x : Operand) (t e : TypeId)
    (ho : o.op = .call { callee := .builtin .append, args := #[s, x], argTypes := #[t, t] }) (ht : P.underlying t = some (.slice e))
    (hinf : (P.info? e).map (fun i => (i.zero, i.size, i.bytes)) = some (some (.agg #[.int .i64 0, .int .i64 0, .int .i64 0, .int .i64 0]), 4, 32))
    (base : Nat) (v : Value) (l : List Smp) (y : Smp) (hs : a.eval s = v) (hown : Own w base e v l) (b c : Nat) (hx : a.eval x = .slice (some ⟨b, 0, none⟩) 1 c) (hc : Cell4 w b 0 y)
    (hl : (l.length + 1) * 32 ≤ 140737488355328) (hbase : base ≤ w.heap.size)
    (h : ∀ v' w', Own w' base e v' (l ++ [y]) → w.grownBy w' v.ownBlock → (v'.ownBlock = v.ownBlock ∨ v'.ownBlock = some w.heap.size) → K (a.put o.dst v') w') :
    o.wp P a w K Q := by
  obtain ⟨i, hi, hz, hsz, hby⟩ := of_info hinf
  obtain ⟨v', w', hr, h2, h3, _, h5⟩ := run_append_own_at (P := P) w base t o.type e i _ 4 32 ht hi hz hsz hby rfl (by decide) v l.length (flatS l) hown ⟨b, 0, none⟩ 1 c (encS y) rfl hc.news (encS_one y) (by unfold maxLen; omega) hl hbase
  unfold Oper.wp execOp
  simp only [ho, resolve, invoke, builtin, Sem.run_bind, Sem.run_pure, Result.andThen_ok, List.map_toArray, List.map_cons, List.map_nil, hs, hx, hr]
  refine h v' w' ?_ h3 h5
  unfold Own
  rw [flatS_append, flatS_one, List.length_append]
  exact h2
theorem add_take {keep now : Int} {R : Told} {l : List RowS} {k : Nat} {r : RowS} (hk : k < l.length) (hr : r = l[k]) :
    addR keep now R (l.take (k + 1)) = (if takesR keep now r then addR keep now R (l.take k) ++ [(canonL r.1, r.2)] else addR keep now R (l.take k)) ∧
    refusedR keep now (l.take (k + 1)) = (if takesR keep now r then refusedR keep now (l.take k) else refusedR keep now (l.take k) + 1) := by
  rw [List.take_succ_eq_append_getElem hk, ← hr, addR_snoc, refusedR_snoc]
  exact ⟨rfl, rfl⟩
theorem takes_may {keep now : Int} {r : RowS} (h : takesR keep now r = true) : mayL r.1 = true := by
  unfold takesR at h
  rw [Bool.and_eq_true, Bool.and_eq_true, Bool.and_eq_true] at h
  exact h.1.1.1
set_option maxRecDepth 100000 in
set_option maxHeartbeats 8000000 in
/-- oracle.Add. -/
theorem add_walk {W : World} {S : Nat → Prop} {B o b : Nat} {every keep now : Int} {X : Sers} {R : Told} (h : Orc W S B o b every keep now X R) (hsb : S b) (v : Value) (l : List RowS) (hR : RdWT W S v l) (hl : l.length ≤ 16) (hRl : R.length ≤ 50000) :
    Calls Tryz.prog 13 #[.pointer (some ⟨o, 0, none⟩), v] W fun e w' => e = .returned (.tuple #[.int .i64 (refusedR keep now l), .int .i64 0]) ∧ ∃ S' X', Added S W w' S' B o b every keep now X' (addR keep now R l) := by
  obtain ⟨A, c, rfl, hc, _⟩ := hR W (Chg.refl S W)
  obtain ⟨n, hn⟩ : ∃ n, n = l.length := ⟨_, rfl⟩
  have HRd : Hid (RdWT W S (.slice A n c) l) := by show RdWT _ _ _ _; rw [hn]; exact hR
  rw [← hn] at hl ⊢
  have HN := Lib.hid hn
  have HH := Lib.hid h
  have HRL := Lib.hid hRl
  have HSb := Lib.hid hsb
  have g16 : ¬ (16 : Int) < (n : Int) := by omega
  clear h hn hR hc hRl hsb
  go_enter Tryz.func13, Tryz.ntmps13
  go_wp2_with fail
  go_loopw [6, 24] (fun nv i wl => ∃ (k q : Nat) (S' : Nat → Prop) (X' : Sers), k ≤ n ∧ q ≤ k ∧ i = .int .i64 k ∧ nv = .int .i64 q ∧ Hid (q = refusedR keep now (l.take k)) ∧ Hid (Added S W wl S' B o b every keep now X' (addR keep now R (l.take k)))) (fun _ i _ => n - (intOf i).toNat)
  case atStart => exact ⟨0, 0, S, X, Nat.zero_le _, Nat.le_refl _, rfl, rfl, rfl, ⟨by rw [List.take_zero, addR_nil]; exact HH.out, Chg.refl _ _, fun j hj => .inl hj⟩⟩
  case round =>
    obtain ⟨k, q, S', X', hk, hqk, rfl, rfl, HQ, HA⟩ := hrel
    have HNS : Hid (∀ j, S' j → j ≠ wr.heap.size) := fun j hj e => by have := (HA.out.orc.lt hj).2; omega
    by_cases hlt : k < n
    · have hkl : k < l.length := by rw [← HN.out]; exact hlt
      obtain ⟨A', c', e, _, hA⟩ := HRd.out wr HA.out.chg
      rcases hA with h0 | ⟨b1, o1, e2, hb1, hcl⟩
      · subst h0; simp at hkl
      injection e with e e9 e10
      clear e9 e10
      subst e
      subst e2
      obtain ⟨r, hr⟩ : ∃ r, r = l[k] := ⟨_, rfl⟩
      obtain ⟨lv, c0, hlv, hnz, c1, c2, c3, c4⟩ : RowAt wr wr.heap.size b1 (o1 + k * 5) r := by rw [hr]; exact hcl k hkl
      obtain ⟨hT1, hT2⟩ := add_take (keep := keep) (now := now) (R := R) hkl hr
      have HT1 := Lib.hid hT1
      have HT2 := Lib.hid hT2
      clear hT1 hT2 hr hcl
      obtain ⟨rl, t, m, x, z⟩ := r
      obtain ⟨LA, lc, hlve, _, _⟩ := id hlv
      obtain ⟨ln, hln⟩ : ∃ ln, ln = rl.length := ⟨_, rfl⟩
      rw [← hln] at hlve
      obtain ⟨lv9, hlv9⟩ : ∃ lv9, lv9 = Value.slice LA ln lc := ⟨_, rfl⟩
      subst hlve
      have i1 : (k : Int) < (n : Int) := by omega
      obtain ⟨wp, hwp⟩ : ∃ wp, wp = wr.alloc (.cells #[.slice LA ln lc, .int .i64 t, .int .i64 m, .int .i64 x, .int .i64 z] 28) := ⟨_, rfl⟩
      have hEp : Ext wr wp := by rw [hwp]; exact (Ext.refl _).alloc _
      have hszp : wp.heap.size = wr.heap.size + 1 := by rw [hwp]; simp
      have HAp : Hid (Added S W wp S' B o b every keep now X' (addR keep now R (l.take k))) := HA.out.on hEp.below
      have hlvp : RdL wp wp.heap.size (.slice LA ln lc) rl := (hlv.below hEp.below).mono hEp.size
      have HLV : Hid (RdL wp wp.heap.size (.slice LA ln lc) rl) := hlvp
      have HNZ := Lib.hid hnz
      have e0 : wp.cell? ⟨wr.heap.size, 0, none⟩ = some (.slice LA ln lc) := by rw [hwp]; simp
      have e1 : wp.cell? ⟨wr.heap.size, 1, none⟩ = some (.int .i64 t) := by rw [hwp]; simp
      have e2 : wp.cell? ⟨wr.heap.size, 2, none⟩ = some (.int .i64 m) := by rw [hwp]; simp
      have e3 : wp.cell? ⟨wr.heap.size, 3, none⟩ = some (.int .i64 x) := by rw [hwp]; simp
      have e4 : wp.cell? ⟨wr.heap.size, 4, none⟩ = some (.int .i64 z) := by rw [hwp]; simp
      have KT := Lib.hid (takes_walk HAp.out.orc (.slice LA ln lc) rl (t, m, x, z) hlvp hnz)
      unfold vR at KT
      have HC : Hid (∀ w', Below wp.heap.size wp w' → w'.cell? ⟨wr.heap.size, 0, none⟩ = some (.slice LA ln lc) ∧ w'.cell? ⟨wr.heap.size, 1, none⟩ = some (.int .i64 t) ∧ w'.cell? ⟨wr.heap.size, 2, none⟩ = some (.int .i64 m) ∧ w'.cell? ⟨wr.heap.size, 3, none⟩ = some (.int .i64 x) ∧ w'.cell? ⟨wr.heap.size, 4, none⟩ = some (.int .i64 z)) := fun w' h => by
        have hb : wr.heap.size < wp.heap.size := by omega
        exact ⟨(h.cell hb).trans e0, (h.cell hb).trans e1, (h.cell hb).trans e2, (h.cell hb).trans e3, (h.cell hb).trans e4⟩
      have HWP := Lib.hid hwp
      have hob : 0 < 1 := by decide
      clear hlv hnz hlvp hwp hln hlv9 e0 e1 e2 e3 e4 hEp
      go_wp2_with fail
      rw [← HWP.out]
      refine KT.out.mono ?_
      rintro e w2 ⟨rfl, hB2⟩
      obtain ⟨d0, d1, d2, d3, d4⟩ := HC.out w2 hB2
      have HA2 : Hid (Added S W w2 S' B o b every keep now X' (addR keep now R (l.take k))) := HAp.out.on hB2
      have HB2 := Lib.hid hB2
      clear hB2 KT c0 c1 c2 c3 c4
      cases htk : takesR keep now (rl, t, m, x, z) with
      | false =>
        have HQ9 : Hid (q + 1 = refusedR keep now (l.take (k + 1))) := by show _ = _; rw [HT2.out, htk, ← HQ.out]; rfl
        have HA9 : Hid (Added S W w2 S' B o b every keep now X' (addR keep now R (l.take (k + 1)))) := by show Added _ _ _ _ _ _ _ _ _ _ _ _; rw [HT1.out, htk]; exact HA2.out
        clear HT1 HT2 htk
        go_wp2_with fail
        go_roundw
        case rel => exact ⟨k + 1, q + 1, S', X', by omega, by omega, by go_num, by go_num, HQ9.out, HA9.out⟩
        case measure => simp [intOf]; omega
      | true =>
        have hmay := takes_may htk
        obtain ⟨cl, hcl⟩ : ∃ cl, cl = canonL rl := ⟨_, rfl⟩
        have HQ9 : Hid (q = refusedR keep now (l.take (k + 1))) := by show _ = _; rw [HT2.out, htk, ← HQ.out]; rfl
        have HT9 : Hid (addR keep now R (l.take (k + 1)) = addR keep now R (l.take k) ++ [(cl, t, m, x, z)]) := by show _ = _; rw [HT1.out, htk, hcl]; rfl
        obtain ⟨R1, hR1⟩ : ∃ R1, R1 = addR keep now R (l.take k) := ⟨_, rfl⟩
        have hR1l : R1.length ≤ 60000 := by
          have h1 := addR_length keep now R (l.take k)
          rw [← hR1, List.length_take] at h1
          have := HRL.out
          omega
        rw [← hR1] at HA2 HT9
        have hce : canE rl = 0 := by unfold canE; rw [hmay]; rfl
        have hcv : canV rl = cl := by unfold canV; rw [hmay, hcl]; rfl
        have hcc := canon_again hmay
        rw [← hcl] at hcc
        have hml : (marL cl).length ≤ 1000 := by rw [hcl]; exact mar_canon_len hmay
        have KC := Lib.hid (canon_walk (.slice LA ln lc) rl w2 ((HLV.out.below HB2.out).mono HB2.out.size) HNZ.out)
        rw [hce, hcv] at KC
        have HML := Lib.hid hml
        have HR1 := Lib.hid hR1l
        have HCC := Lib.hid hcc
        clear HT1 HT2 htk hmay hcl hR1 hR1l hce hcv hcc hml HA HAp HLV
        go_wp2_with fail
        refine KC.out.mono ?_
        rintro e w3 ⟨⟨cv, rfl, hO3⟩, hB3⟩
        have HO3 := Lib.hid hO3
        have HA3 : Hid (Added S W w3 S' B o b every keep now X' R1) := HA2.out.on hB3
        have HB3 : Hid (Below wp.heap.size wp w3) := HB2.out.trans (hB3.mono HB2.out.size)
        have HS23 := Lib.hid hB3.size
        have KM := Lib.hid (marshal_walk cv cl w3 hO3.rd hO3.nz HCC.out.2)
        rw [HCC.out.1] at KM
        clear hO3 hB3 KC d0 d1 d2 d3 d4
        go_wp2_with fail
        refine KM.out.mono ?_
        rintro e w4 ⟨bv, rfl, hO4, hB4⟩
        have HO4 : Hid (OwnL w4 w2.heap.size cv cl) := HO3.out.below hB4
        have HA4 : Hid (Added S W w4 S' B o b every keep now X' R1) := HA3.out.on hB4
        have HB4 : Hid (Below wp.heap.size wp w4) := HB3.out.trans (hB4.mono HB3.out.size)
        have HY4 := Lib.hid hO4
        clear hO4 hB4 KM HO3 HA3
        -- FROM HERE (genadd.py)
        have HSP := Lib.hid hszp
        obtain ⟨CA, cc, hcve, _, _⟩ := HO4.out.rd
        obtain ⟨cn, hcn⟩ : ∃ cn, cn = cl.length := ⟨_, rfl⟩
        rw [← hcn] at hcve
        subst hcve
        have hWw : W.heap.size ≤ w2.heap.size := HA2.out.chg.size
        have HW2 := Lib.hid hWw
        have k3 : w4.drew.cell? ⟨o, 3, none⟩ = some (.map (some b)) := HA4.out.orc.cells.2.2.2
        obtain ⟨n0, D0, hn0, hom⟩ := HA4.out.orc.om
        have hcv : (Go.convert 84 9 bv).run Tryz.prog w4.drew = .ok (vT (marL cl)) w4.drew := convert_Y HY4.out.drew (by have := HML.out; omega)
        have hlk := (hom.kept (T := NoB) (w' := w4.drew) ⟨rfl, rfl, rfl, Nat.le_refl _, fun _ _ _ => rfl⟩ (fun _ _ e => e)).look cl HML.out
        have HOM := Lib.hid hom
        clear hcn hWw hn0 hom hszp
        obtain ⟨key, hkey⟩ : ∃ key : ByteArray, key = ⟨(marL cl).toArray⟩ := ⟨_, rfl⟩
        unfold vT at hcv hlk
        rw [← hkey] at hcv hlk
        have HKEY := Lib.hid hkey
        clear hkey
        cases hh : hasR R1 cl with
        | true =>
          rw [hh] at hlk
          simp only [if_true] at hlk
          have HM : Hid (Mid w4.drew S' B o b every keep now X' R1 cl (t, m, x, z)) := (Mid.old HA4.out.orc hh).on ((Below.refl _ _).drew)
          have HCH : Hid (Chg S W w4.drew) := HA4.out.chg.trans (S' := NoB) ⟨rfl, rfl, rfl, Nat.le_refl _, fun _ _ _ => rfl⟩ (fun _ e => e) (fun _ _ e => e.elim)
          have HLO : Hid (∀ j, S' j → S j ∨ W.heap.size ≤ j) := HA4.out.loc
          have HD := Lib.hid (HC.out w4.drew HB4.out.drew)
          have HSW : Hid (wp.heap.size ≤ w4.drew.heap.size) := HB4.out.size
          clear hh HA4 HA2 HO4 HY4
          go_wp2_with fail
          go_region_held3 (fun w' => w' = w4.drew) (first | assumption | rfl) (fail)
          clear hcv hlk k3
          obtain ⟨wm, hwm⟩ : ∃ wm, wm = w4.drew := ⟨_, rfl⟩
          rw [← hwm] at HM HCH HD HSW ⊢
          clear hwm
          go_wp2_with fail
          obtain ⟨q1, q2, q3, q4, q5, q6, q7⟩ := HM.out.at_
          obtain ⟨sv, hsv⟩ : ∃ sv, sv = X'.SV cl := ⟨_, rfl⟩
          obtain ⟨gg, hgg⟩ : ∃ gg, gg = X'.G cl := ⟨_, rfl⟩
          rw [← hsv, ← hgg] at q1
          rw [← hgg] at q2 q4 q6 q7
          rw [← hsv] at q3 q5 q6
          rw [← hgg]
          have HSV := Lib.hid hsv
          have HGG := Lib.hid hgg
          obtain ⟨d0, d1, d2, d3, d4⟩ := HD.out
          have hbn : wr.heap.size < wm.heap.size := by have := HSP.out; have := HSW.out; omega
          have hgd : wm.grownBy wm.drew none := ⟨rfl, rfl, rfl, Nat.le_refl _, fun _ _ _ => rfl⟩
          have f1 : wm.drew.cell? ⟨gg, 1, none⟩ = some sv := q1
          have r1 : wm.drew.cell? ⟨wr.heap.size, 1, none⟩ = some (.int .i64 t) := d1
          have r2 : wm.drew.cell? ⟨wr.heap.size, 2, none⟩ = some (.int .i64 m) := d2
          have r3 : wm.drew.cell? ⟨wr.heap.size, 3, none⟩ = some (.int .i64 x) := d3
          have r4 : wm.drew.cell? ⟨wr.heap.size, 4, none⟩ = some (.int .i64 z) := d4
          obtain ⟨wa, hwa⟩ : ∃ wa, wa = (wm.alloc (.cells #[.int .i64 t, .int .i64 m, .int .i64 x, .int .i64 z] 54)).drew := ⟨_, rfl⟩
          have hga : wm.grownBy wa none := by rw [hwa]; exact (World.grownBy_alloc wm (.cells #[.int .i64 t, .int .i64 m, .int .i64 x, .int .i64 z] 54) none).andThen (c := (wm.alloc (.cells #[.int .i64 t, .int .i64 m, .int .i64 x, .int .i64 z] 54)).drew) (row' := none) ⟨rfl, rfl, rfl, Nat.le_refl _, fun _ _ _ => rfl⟩ (fun j e => by cases e)
          have hsa : wa.heap.size = wm.heap.size + 1 := by rw [hwa]; simp
          have f2 : wa.cell? ⟨gg, 1, none⟩ = some sv := (hga.cell_far _ q7 (by simp)).trans q1
          have s1 : wa.cell? ⟨wr.heap.size, 1, none⟩ = some (.int .i64 t) := (hga.cell_far _ hbn (by simp)).trans d1
          have s2 : wa.cell? ⟨wr.heap.size, 2, none⟩ = some (.int .i64 m) := (hga.cell_far _ hbn (by simp)).trans d2
          have s3 : wa.cell? ⟨wr.heap.size, 3, none⟩ = some (.int .i64 x) := (hga.cell_far _ hbn (by simp)).trans d3
          have s4 : wa.cell? ⟨wr.heap.size, 4, none⟩ = some (.int .i64 z) := (hga.cell_far _ hbn (by simp)).trans d4
          have HOA : Hid (Own wa B 54 sv (smpOf R1 cl)) := q3.kept hga (by cases sv.ownBlock with | none => exact .inl rfl | some g => exact .inr (by simp))
          have HCA : Hid (Cell4 wa wm.heap.size 0 (t, m, x, z)) := by show Cell4 _ _ _ _; rw [hwa]; exact Cell4.new wm (t, m, x, z) _ _ rfl
          have HLA : Hid (((smpOf R1 cl).length + 1) * 32 ≤ 140737488355328) := by show _ ≤ _; have := smpOf_length R1 cl; have := HR1.out; omega
          have HBA : Hid (B ≤ wa.heap.size) := by show _ ≤ _; have := (HM.out.lt HM.out.so).1; have := (HM.out.lt HM.out.so).2; omega
          have HNE : Hid (some wr.heap.size ≠ sv.ownBlock) := fun e => by
            have h1 := HLO.out _ (q5 _ e.symm)
            have h2 := HNS.out _ (q5 _ e.symm)
            exact h2 rfl
          have HNG : Hid (gg ≠ wr.heap.size) := fun e => HNS.out _ q4 e
          have HSG : Hid (sv.ownBlock ≠ some gg) := q6
          have HGA := Lib.hid hga
          have HFR : Hid (wm.frozen? ⟨gg, 1, none⟩ = false) := q2
          have HQ7 := Lib.hid q7
          have hr0 : wm.drew.cell? ⟨wr.heap.size, 1, none⟩ = some (.int .i64 t) ∧ wm.drew.cell? ⟨wr.heap.size, 2, none⟩ = some (.int .i64 m) ∧ wm.drew.cell? ⟨wr.heap.size, 3, none⟩ = some (.int .i64 x) ∧ wm.drew.cell? ⟨wr.heap.size, 4, none⟩ = some (.int .i64 z) := ⟨r1, r2, r3, r4⟩
          have hra : wa.cell? ⟨wr.heap.size, 1, none⟩ = some (.int .i64 t) ∧ wa.cell? ⟨wr.heap.size, 2, none⟩ = some (.int .i64 m) ∧ wa.cell? ⟨wr.heap.size, 3, none⟩ = some (.int .i64 x) ∧ wa.cell? ⟨wr.heap.size, 4, none⟩ = some (.int .i64 z) := ⟨s1, s2, s3, s4⟩
          have HBN := Lib.hid hbn
          clear q1 q2 q3 q4 q5 q6 q7 hsv hgg hgd hga d0 d1 d2 d3 d4 hbn
          have f3 : (wm.alloc (.cells #[.int .i64 t, .int .i64 m, .int .i64 x, .int .i64 z] 54)).drew.cell? ⟨gg, 1, none⟩ = some sv := by rw [← hwa]; exact f2
          have HWA := Lib.hid hwa
          have HSA := Lib.hid hsa
          clear hwa hsa
          go_wp2_with fail
          refine wp_region_held_drew (S := fun w' => w'.cell? ⟨wr.heap.size, 1, none⟩ = some (.int .i64 t) ∧ w'.cell? ⟨wr.heap.size, 2, none⟩ = some (.int .i64 m) ∧ w'.cell? ⟨wr.heap.size, 3, none⟩ = some (.int .i64 x) ∧ w'.cell? ⟨wr.heap.size, 4, none⟩ = some (.int .i64 z)) (by kernel_rfl) ?_ (fun hHeld => ?_)
          · exact hr0
          refine takeW (i := 0) (v := ?_) rfl (by kernel_rfl) (by kernel_rfl) (by kernel_rfl) (fun _ _ _ h => h) (by rfl) ?_ (by assumption) ?_
          rotate_left
          · (intro w hSw; (try dsimp only at hSw); go_simp; try with_reducible rfl)
          simp only [Act.put, sA, sZ, sS]
          refine takeW (i := 1) (v := ?_) rfl (by kernel_rfl) (by kernel_rfl) (by kernel_rfl) (fun _ _ _ h => h) (by rfl) ?_ (by assumption) ?_
          rotate_left
          · (intro w hSw; (try dsimp only at hSw); go_simp; try with_reducible rfl)
          simp only [Act.put, sA, sZ, sS]
          refine takeW (i := 2) (v := ?_) rfl (by kernel_rfl) (by kernel_rfl) (by kernel_rfl) (fun _ _ _ h => h) (by rfl) ?_ (by assumption) ?_
          rotate_left
          · (intro w hSw; (try dsimp only at hSw); go_simp; try with_reducible rfl)
          simp only [Act.put, sA, sZ, sS]
          refine takeW (i := 3) (v := ?_) rfl (by kernel_rfl) (by kernel_rfl) (by kernel_rfl) (fun _ _ _ h => h) (by rfl) ?_ (by assumption) ?_
          rotate_left
          · (intro w hSw; (try dsimp only at hSw); go_simp; try with_reducible rfl)
          simp only [Act.put, sA, sZ, sS]
          refine takeW (i := 5) (v := ?_) rfl (by kernel_rfl) (by kernel_rfl) (by kernel_rfl) (fun _ _ _ h => h) (by rfl) ?_ (by assumption) ?_
          rotate_left
          · (intro w hSw; (try dsimp only at hSw); go_simp; try with_reducible rfl)
          simp only [Act.put, sA, sZ, sS]
          refine takeW (i := 6) (v := ?_) rfl (by kernel_rfl) (by kernel_rfl) (by kernel_rfl) (fun _ _ _ h => h) (by rfl) ?_ (by assumption) ?_
          rotate_left
          · (intro w hSw; (try dsimp only at hSw); go_simp; try with_reducible rfl)
          simp only [Act.put, sA, sZ, sS]
          refine takeW (i := 7) (v := ?_) rfl (by kernel_rfl) (by kernel_rfl) (by kernel_rfl) (fun _ _ _ h => h) (by rfl) ?_ (by assumption) ?_
          rotate_left
          · (intro w hSw; (try dsimp only at hSw); go_simp; try with_reducible rfl)
          simp only [Act.put, sA, sZ, sS]
          refine takeW (i := 8) (v := ?_) rfl (by kernel_rfl) (by kernel_rfl) (by kernel_rfl) (fun _ _ _ h => h) (by rfl) ?_ (by assumption) ?_
          rotate_left
          · (intro w hSw; (try dsimp only at hSw); go_simp; try with_reducible rfl)
          simp only [Act.put, sA, sZ, sS]
          refine takeW (i := 9) (v := ?_) rfl (by kernel_rfl) (by kernel_rfl) (by kernel_rfl) (fun _ _ _ h => h) (by rfl) ?_ (by assumption) ?_
          rotate_left
          · (intro w hSw; (try dsimp only at hSw); go_simp; try with_reducible rfl)
          simp only [Act.put, sA, sZ, sS]
          refine wpAnyH_ready (rs := [4, 10]) (by kernel_rfl) (by simp) (AllReadyH.cons (get_drop (i := 4) rfl) (fun K hK => ?_) (AllReadyH.cons (get_drop (i := 10) rfl) (fun K hK => ?_) AllReadyH.nil))
          · rw [if_pos (by rfl)]
            go_simp
            refine hK.out _ _ ?_ (fun hHeld => ?_)
            · (try dsimp only)
              exact hr0
            clear hK K
            try simp only [Act.put, sA, sZ, sS]
            refine takeC (i := 10) rfl (by kernel_rfl) (by rfl) (fun K hK => ?_)
            go_simp
            refine hK.out _ _ ?_ (fun hHeld => ?_)
            · (try dsimp only)
              (rw [← HWA.out]; exact hra)
            clear hK K
            try simp only [Act.put, sA, sZ, sS]
            refine takeC (i := 11) rfl (by kernel_rfl) (by rfl) (fun K hK => ?_)
            rw [← HWA.out]
            refine add1 _ _ 50 54 rfl Tryz.underlying50 info_Smp B sv (smpOf R1 cl) (t, m, x, z) rfl HOA.out wm.heap.size 1 rfl HCA.out HLA.out HBA.out ?_
            intro v6 w6 hown6 hg6 hloc6
            have u1 : w6.cell? ⟨wr.heap.size, 1, none⟩ = some (.int .i64 t) := (hg6.cell_far _ (by have := HBN.out; have := HSA.out; show wr.heap.size < wa.heap.size; omega) HNE.out).trans s1
            have u2 : w6.cell? ⟨wr.heap.size, 2, none⟩ = some (.int .i64 m) := (hg6.cell_far _ (by have := HBN.out; have := HSA.out; show wr.heap.size < wa.heap.size; omega) HNE.out).trans s2
            have u3 : w6.cell? ⟨wr.heap.size, 3, none⟩ = some (.int .i64 x) := (hg6.cell_far _ (by have := HBN.out; have := HSA.out; show wr.heap.size < wa.heap.size; omega) HNE.out).trans s3
            have u4 : w6.cell? ⟨wr.heap.size, 4, none⟩ = some (.int .i64 z) := (hg6.cell_far _ (by have := HBN.out; have := HSA.out; show wr.heap.size < wa.heap.size; omega) HNE.out).trans s4
            have v1 : w6.cell? ⟨gg, 1, none⟩ = some sv := (hg6.cell_far _ (by have := HQ7.out; have := HSA.out; show gg < wa.heap.size; omega) (Ne.symm HSG.out)).trans f2
            have v2 : w6.frozen? ⟨gg, 1, none⟩ = false := by
              rw [World.frozen?_of_block ((hg6.block gg (by have := HQ7.out; have := HSA.out; omega) (Ne.symm HSG.out)).trans (HGA.out.block gg HQ7.out (by simp)))]
              exact HFR.out
            obtain ⟨A6, c6, hv6, _, _⟩ := hown6.rd
            obtain ⟨n6, hn6⟩ : ∃ n6, n6 = (smpOf R1 cl ++ [(t, m, x, z)]).length := ⟨_, rfl⟩
            rw [← hn6] at hv6
            clear hn6
            subst hv6
            have HO6 := Lib.hid hown6
            have HG6 := Lib.hid hg6
            have HL6 := Lib.hid hloc6
            have w1 : (w6.setCell ⟨gg, 1, none⟩ (.slice A6 n6 c6)).cell? ⟨wr.heap.size, 1, none⟩ = some (.int .i64 t) := (World.cell?_setCell_other _ _ _ _ (fun e => HNG.out (by first | exact (congrArg Addr.block e).symm | exact congrArg Addr.block e))).trans u1
            have w2 : (w6.setCell ⟨gg, 1, none⟩ (.slice A6 n6 c6)).cell? ⟨wr.heap.size, 2, none⟩ = some (.int .i64 m) := (World.cell?_setCell_other _ _ _ _ (fun e => HNG.out (by first | exact (congrArg Addr.block e).symm | exact congrArg Addr.block e))).trans u2
            have w3 : (w6.setCell ⟨gg, 1, none⟩ (.slice A6 n6 c6)).cell? ⟨wr.heap.size, 3, none⟩ = some (.int .i64 x) := (World.cell?_setCell_other _ _ _ _ (fun e => HNG.out (by first | exact (congrArg Addr.block e).symm | exact congrArg Addr.block e))).trans u3
            have w4 : (w6.setCell ⟨gg, 1, none⟩ (.slice A6 n6 c6)).cell? ⟨wr.heap.size, 4, none⟩ = some (.int .i64 z) := (World.cell?_setCell_other _ _ _ _ (fun e => HNG.out (by first | exact (congrArg Addr.block e).symm | exact congrArg Addr.block e))).trans u4
            clear hown6 hg6 hloc6
            refine hK.out _ _ ?_ (fun hHeld => ?_)
            · (try dsimp only)
              exact ⟨u1, u2, u3, u4⟩
            clear hK K
            try simp only [Act.put, sA, sZ, sS]
            refine takeW (i := 12) (v := ?_) rfl (by kernel_rfl) (by kernel_rfl) (by kernel_rfl) (fun _ _ _ h => h) (by rfl) ?_ (by assumption) ?_
            rotate_left
            · (intro w hSw; (try dsimp only at hSw); go_simp; try with_reducible rfl)
            simp only [Act.put, sA, sZ, sS]
            refine takeW (i := 13) (v := ?_) rfl (by kernel_rfl) (by kernel_rfl) (by kernel_rfl) (fun _ _ _ h => h) (by rfl) ?_ (by assumption) ?_
            rotate_left
            · (intro w hSw; (try dsimp only at hSw); go_simp; try with_reducible rfl)
            simp only [Act.put, sA, sZ, sS]
            refine takeC (i := 14) rfl (by kernel_rfl) (by rfl) (fun K hK => ?_)
            go_simp
            refine hK.out _ _ ?_ (fun hHeld => ?_)
            · (try dsimp only)
              exact ⟨w1, w2, w3, w4⟩
            clear hK K
            try simp only [Act.put, sA, sZ, sS]
            refine wpAnyH_done (by kernel_rfl) ?_ _
            obtain ⟨S9, X9, hA9⟩ := HM.out.done HCH.out HLO.out (v' := .slice A6 n6 c6) (by rw [← HSV.out]; exact (⟨HG6.out.os.trans HGA.out.os, HG6.out.tape.trans HGA.out.tape, HG6.out.output.trans HGA.out.output, Nat.le_trans HGA.out.size HG6.out.size, fun i hi hne => (HG6.out.block i (Nat.lt_of_lt_of_le hi HGA.out.size) hne).trans (HGA.out.block i hi (by simp))⟩)) HO6.out (by rw [← HSV.out]; exact HL6.out.imp id (fun e => ⟨_, e, by have := HSA.out; omega⟩))
            rw [← HGG.out, ← HT9.out] at hA9
            have HA9 := Lib.hid hA9
            clear u1 u2 u3 u4 v1 v2 w1 w2 w3 w4 r1 r2 r3 r4 s1 s2 s3 s4 hr0 hra f1 f2 f3 hA9
            go_wp2_with fail
            go_roundw
            case rel => exact ⟨k + 1, q, S9, X9, by omega, by omega, by go_num, rfl, HQ9.out, HA9.out⟩
            case measure => simp [intOf]; omega
          · rw [if_pos (by rfl)]
            go_simp
            refine hK.out _ _ ?_ (fun hHeld => ?_)
            · (try dsimp only)
              (rw [← HWA.out]; exact hra)
            clear hK K
            try simp only [Act.put, sA, sZ, sS]
            refine takeC (i := 4) rfl (by kernel_rfl) (by rfl) (fun K hK => ?_)
            go_simp
            refine hK.out _ _ ?_ (fun hHeld => ?_)
            · (try dsimp only)
              (rw [← HWA.out]; exact hra)
            clear hK K
            try simp only [Act.put, sA, sZ, sS]
            refine takeC (i := 11) rfl (by kernel_rfl) (by rfl) (fun K hK => ?_)
            rw [← HWA.out]
            refine add1 _ _ 50 54 rfl Tryz.underlying50 info_Smp B sv (smpOf R1 cl) (t, m, x, z) rfl HOA.out wm.heap.size 1 rfl HCA.out HLA.out HBA.out ?_
            intro v6 w6 hown6 hg6 hloc6
            have u1 : w6.cell? ⟨wr.heap.size, 1, none⟩ = some (.int .i64 t) := (hg6.cell_far _ (by have := HBN.out; have := HSA.out; show wr.heap.size < wa.heap.size; omega) HNE.out).trans s1
            have u2 : w6.cell? ⟨wr.heap.size, 2, none⟩ = some (.int .i64 m) := (hg6.cell_far _ (by have := HBN.out; have := HSA.out; show wr.heap.size < wa.heap.size; omega) HNE.out).trans s2
            have u3 : w6.cell? ⟨wr.heap.size, 3, none⟩ = some (.int .i64 x) := (hg6.cell_far _ (by have := HBN.out; have := HSA.out; show wr.heap.size < wa.heap.size; omega) HNE.out).trans s3
            have u4 : w6.cell? ⟨wr.heap.size, 4, none⟩ = some (.int .i64 z) := (hg6.cell_far _ (by have := HBN.out; have := HSA.out; show wr.heap.size < wa.heap.size; omega) HNE.out).trans s4
            have v1 : w6.cell? ⟨gg, 1, none⟩ = some sv := (hg6.cell_far _ (by have := HQ7.out; have := HSA.out; show gg < wa.heap.size; omega) (Ne.symm HSG.out)).trans f2
            have v2 : w6.frozen? ⟨gg, 1, none⟩ = false := by
              rw [World.frozen?_of_block ((hg6.block gg (by have := HQ7.out; have := HSA.out; omega) (Ne.symm HSG.out)).trans (HGA.out.block gg HQ7.out (by simp)))]
              exact HFR.out
            obtain ⟨A6, c6, hv6, _, _⟩ := hown6.rd
            obtain ⟨n6, hn6⟩ : ∃ n6, n6 = (smpOf R1 cl ++ [(t, m, x, z)]).length := ⟨_, rfl⟩
            rw [← hn6] at hv6
            clear hn6
            subst hv6
            have HO6 := Lib.hid hown6
            have HG6 := Lib.hid hg6
            have HL6 := Lib.hid hloc6
            have w1 : (w6.setCell ⟨gg, 1, none⟩ (.slice A6 n6 c6)).cell? ⟨wr.heap.size, 1, none⟩ = some (.int .i64 t) := (World.cell?_setCell_other _ _ _ _ (fun e => HNG.out (by first | exact (congrArg Addr.block e).symm | exact congrArg Addr.block e))).trans u1
            have w2 : (w6.setCell ⟨gg, 1, none⟩ (.slice A6 n6 c6)).cell? ⟨wr.heap.size, 2, none⟩ = some (.int .i64 m) := (World.cell?_setCell_other _ _ _ _ (fun e => HNG.out (by first | exact (congrArg Addr.block e).symm | exact congrArg Addr.block e))).trans u2
            have w3 : (w6.setCell ⟨gg, 1, none⟩ (.slice A6 n6 c6)).cell? ⟨wr.heap.size, 3, none⟩ = some (.int .i64 x) := (World.cell?_setCell_other _ _ _ _ (fun e => HNG.out (by first | exact (congrArg Addr.block e).symm | exact congrArg Addr.block e))).trans u3
            have w4 : (w6.setCell ⟨gg, 1, none⟩ (.slice A6 n6 c6)).cell? ⟨wr.heap.size, 4, none⟩ = some (.int .i64 z) := (World.cell?_setCell_other _ _ _ _ (fun e => HNG.out (by first | exact (congrArg Addr.block e).symm | exact congrArg Addr.block e))).trans u4
            clear hown6 hg6 hloc6
            refine hK.out _ _ ?_ (fun hHeld => ?_)
            · (try dsimp only)
              exact ⟨u1, u2, u3, u4⟩
            clear hK K
            try simp only [Act.put, sA, sZ, sS]
            refine takeW (i := 12) (v := ?_) rfl (by kernel_rfl) (by kernel_rfl) (by kernel_rfl) (fun _ _ _ h => h) (by rfl) ?_ (by assumption) ?_
            rotate_left
            · (intro w hSw; (try dsimp only at hSw); go_simp; try with_reducible rfl)
            simp only [Act.put, sA, sZ, sS]
            refine takeW (i := 13) (v := ?_) rfl (by kernel_rfl) (by kernel_rfl) (by kernel_rfl) (fun _ _ _ h => h) (by rfl) ?_ (by assumption) ?_
            rotate_left
            · (intro w hSw; (try dsimp only at hSw); go_simp; try with_reducible rfl)
            simp only [Act.put, sA, sZ, sS]
            refine takeC (i := 14) rfl (by kernel_rfl) (by rfl) (fun K hK => ?_)
            go_simp
            refine hK.out _ _ ?_ (fun hHeld => ?_)
            · (try dsimp only)
              exact ⟨w1, w2, w3, w4⟩
            clear hK K
            try simp only [Act.put, sA, sZ, sS]
            refine wpAnyH_done (by kernel_rfl) ?_ _
            obtain ⟨S9, X9, hA9⟩ := HM.out.done HCH.out HLO.out (v' := .slice A6 n6 c6) (by rw [← HSV.out]; exact (⟨HG6.out.os.trans HGA.out.os, HG6.out.tape.trans HGA.out.tape, HG6.out.output.trans HGA.out.output, Nat.le_trans HGA.out.size HG6.out.size, fun i hi hne => (HG6.out.block i (Nat.lt_of_lt_of_le hi HGA.out.size) hne).trans (HGA.out.block i hi (by simp))⟩)) HO6.out (by rw [← HSV.out]; exact HL6.out.imp id (fun e => ⟨_, e, by have := HSA.out; omega⟩))
            rw [← HGG.out, ← HT9.out] at hA9
            have HA9 := Lib.hid hA9
            clear u1 u2 u3 u4 v1 v2 w1 w2 w3 w4 r1 r2 r3 r4 s1 s2 s3 s4 hr0 hra f1 f2 f3 hA9
            go_wp2_with fail
            go_roundw
            case rel => exact ⟨k + 1, q, S9, X9, by omega, by omega, by go_num, rfl, HQ9.out, HA9.out⟩
            case measure => simp [intOf]; omega
        | false =>
          rw [hh] at hlk
          simp only [Bool.false_eq_true, if_false] at hlk
          have HHH := Lib.hid hh
          go_wp2_with fail
          go_region_held3 (fun w' => w' = w4.drew) (first | assumption | rfl) (fail)
          clear hcv hlk k3 hh
          obtain ⟨w5, hw5⟩ : ∃ w5, w5 = w4.drew := ⟨_, rfl⟩
          have HA5 : Hid (Added S W w5 S' B o b every keep now X' R1) := by show Added _ _ _ _ _ _ _ _ _ _ _ _; rw [hw5]; exact HA4.out.on ((Below.refl _ _).drew)
          have HO5 : Hid (OwnL w5 w2.heap.size (.slice CA cn cc) cl) := by show OwnL _ _ _ _; rw [hw5]; exact HO4.out.below ((Below.refl _ _).drew)
          have HY5 : Hid (OwnY w5 w3.heap.size bv (marL cl)) := by show OwnY _ _ _ _; rw [hw5]; exact HY4.out.drew
          have HB5 : Hid (Below wp.heap.size wp w5) := by show Below _ _ _; rw [hw5]; exact HB4.out.drew
          rw [← hw5]
          clear hw5 HA4 HA2 HO4 HY4
          obtain ⟨w6, hw6⟩ : ∃ w6, w6 = w5.alloc (.cells #[.slice CA cn cc, .slice none 0 0] 90) := ⟨_, rfl⟩
          have hb56 : Below w5.heap.size w5 w6 := by rw [hw6]; exact (Below.refl _ _).alloc (Nat.le_refl _) _
          have HA6 : Hid (Added S W w6.drew S' B o b every keep now X' R1) := HA5.out.on hb56.drew
          have HO6 : Hid (OwnL w6.drew w2.heap.size (.slice CA cn cc) cl) := HO5.out.below hb56.drew
          have HY6 : Hid (OwnY w6.drew w3.heap.size bv (marL cl)) := HY5.out.below hb56.drew
          have HB6 : Hid (Below wp.heap.size wp w6.drew) := HB5.out.trans (hb56.drew.mono HB5.out.size)
          have hser : w6.drew.heap[w5.heap.size]? = some (.cells #[.slice CA cn cc, .slice none 0 0] 90 (0, 0)) := by
            show w6.heap[w5.heap.size]? = _
            rw [hw6]; exact heap_alloc_new _ _
          have hgS : ¬ S' w5.heap.size := fun e => by have := (HA5.out.orc.lt e).2; omega
          have hBw5 : B ≤ w5.heap.size := by have := (HA5.out.orc.lt HA5.out.orc.so).1; have := (HA5.out.orc.lt HA5.out.orc.so).2; omega
          have hBw2 : B ≤ w2.heap.size := by have := (HH.out.lt HH.out.so).1; have := (HH.out.lt HH.out.so).2; have := HW2.out; omega
          obtain ⟨w7, X7, hup, hM7, hG7, hgr7⟩ := HA6.out.orc.fresh (by have := HR1.out; omega) (t, m, x, z) HHH.out HML.out hgS hBw5 hser (HO6.out.lower hBw2)
          have k3 : w6.drew.cell? ⟨o, 3, none⟩ = some (.map (some b)) := HA6.out.orc.cells.2.2.2
          have hcv : (Go.convert 84 9 bv).run Tryz.prog w6.drew = .ok (vT (marL cl)) w6.drew := convert_Y HY6.out (by have := HML.out; omega)
          obtain ⟨n0, D0, _, hom⟩ := HA6.out.orc.om
          obtain ⟨es9, cl9, hmb, _⟩ := hom.map
          have hob9 : o ≠ b := fun e => by
            have h9 := HA6.out.orc.cell
            rw [e, hmb] at h9; cases h9
          have k7 : w7.cell? ⟨o, 3, none⟩ = some (.map (some b)) := (hgr7.cell_far _ (HA6.out.orc.lt HA6.out.orc.so).2 (fun e => hob9 (by injection e))).trans k3
          have hY7 : OwnY w7 w3.heap.size bv (marL cl) := owns_same HY6.out (fun g hg => hgr7.block g (World.ownsRow.lt HY6.out g hg).2 (fun e => by
            injection e with e
            obtain ⟨cur, hcur⟩ := owns_tag HY6.out hg
            rw [e, hmb] at hcur; cases hcur))
          have hcv7 : (Go.convert 84 9 bv).run Tryz.prog w7 = .ok (vT (marL cl)) w7 := convert_Y hY7 (by have := HML.out; omega)
          unfold vT at hcv hcv7 hup
          rw [← HKEY.out] at hcv hcv7 hup
          have HM : Hid (Mid w7 (fun k => S' k ∨ k = w5.heap.size ∨ (Value.slice CA cn cc).ownBlock = some k) B o b every keep now X7 R1 cl (t, m, x, z)) := hM7
          have HSb6 : Hid (S b) := HSb.out
          have HCH : Hid (Chg S W w7) := HA6.out.chg.trans (.of_grown hgr7) (fun _ e => e) (fun j _ e => by injection e with e; rw [← e]; exact HSb6.out)
          have hw2w : ∀ j, (Value.slice CA cn cc).ownBlock = some j → w2.heap.size ≤ j := fun j e => (HO6.out.blk e).1
          have HLO : Hid (∀ j, (S' j ∨ j = w5.heap.size ∨ (Value.slice CA cn cc).ownBlock = some j) → S j ∨ W.heap.size ≤ j) := fun j hj => by
            rcases hj with hj | hj | hj
            · exact HA6.out.loc j hj
            · right; rw [hj]; exact HA5.out.chg.size
            · right; exact Nat.le_trans HW2.out (hw2w j hj)
          have HNS9 : Hid (∀ j, (S' j ∨ j = w5.heap.size ∨ (Value.slice CA cn cc).ownBlock = some j) → j ≠ wr.heap.size) := fun j hj e => by
            rcases hj with hj | hj | hj
            · exact HNS.out j hj e
            · have := HB5.out.size; have := HSP.out; omega
            · have := hw2w j hj; have := HB2.out.size; have := HSP.out; omega
          have hrb : some wr.heap.size ≠ some b := fun e => by
            injection e with e
            exact HNS.out b (by obtain ⟨n1, D1, _, h1⟩ := HA6.out.orc.om; exact h1.sb) e.symm
          obtain ⟨p0, p1, p2, p3, p4⟩ := HC.out w6.drew HB6.out
          have hrs : wr.heap.size < w6.drew.heap.size := by have := HB6.out.size; have := HSP.out; omega
          have HD : Hid (w7.cell? ⟨wr.heap.size, 0, none⟩ = some (.slice LA ln lc) ∧ w7.cell? ⟨wr.heap.size, 1, none⟩ = some (.int .i64 t) ∧ w7.cell? ⟨wr.heap.size, 2, none⟩ = some (.int .i64 m) ∧ w7.cell? ⟨wr.heap.size, 3, none⟩ = some (.int .i64 x) ∧ w7.cell? ⟨wr.heap.size, 4, none⟩ = some (.int .i64 z)) :=
            ⟨(hgr7.cell_far _ hrs hrb).trans p0, (hgr7.cell_far _ hrs hrb).trans p1, (hgr7.cell_far _ hrs hrb).trans p2, (hgr7.cell_far _ hrs hrb).trans p3, (hgr7.cell_far _ hrs hrb).trans p4⟩
          have HSW : Hid (wp.heap.size ≤ w7.heap.size) := Nat.le_trans HB6.out.size hgr7.size
          have HW6 := Lib.hid hw6
          have HG7 := Lib.hid hG7
          clear hw6 hb56 hser hgS hBw5 hBw2 hM7 hgr7 hom hmb hob9 hY7 hw2w hrb hrs p0 p1 p2 p3 p4 HNS HA5 HO5 HY5 HB5 hG7
          have HNS := HNS9
          clear HNS9
          go_wp2_with fail
          rw [← HW6.out]
          go_region_held3 (fun w' => w'.cell? ⟨o, 3, none⟩ = some (.map (some b)) ∧ (Go.convert 84 9 bv).run Tryz.prog w' = .ok (.string key) w')
            (first | assumption | exact ⟨k3, hcv⟩ | exact ⟨k7, hcv7⟩) (fail)
          rw [← HG7.out]
          clear k3 hcv k7 hcv7 hup
          go_wp2_with fail
          obtain ⟨q1, q2, q3, q4, q5, q6, q7⟩ := HM.out.at_
          obtain ⟨sv, hsv⟩ : ∃ sv, sv = X7.SV cl := ⟨_, rfl⟩
          obtain ⟨gg, hgg⟩ : ∃ gg, gg = X7.G cl := ⟨_, rfl⟩
          rw [← hsv, ← hgg] at q1
          rw [← hgg] at q2 q4 q6 q7
          rw [← hsv] at q3 q5 q6
          rw [← hgg]
          have HSV := Lib.hid hsv
          have HGG := Lib.hid hgg
          obtain ⟨d0, d1, d2, d3, d4⟩ := HD.out
          have hbn : wr.heap.size < w7.heap.size := by have := HSP.out; have := HSW.out; omega
          have hgd : w7.grownBy w7.drew none := ⟨rfl, rfl, rfl, Nat.le_refl _, fun _ _ _ => rfl⟩
          have f1 : w7.drew.cell? ⟨gg, 1, none⟩ = some sv := q1
          have r1 : w7.drew.cell? ⟨wr.heap.size, 1, none⟩ = some (.int .i64 t) := d1
          have r2 : w7.drew.cell? ⟨wr.heap.size, 2, none⟩ = some (.int .i64 m) := d2
          have r3 : w7.drew.cell? ⟨wr.heap.size, 3, none⟩ = some (.int .i64 x) := d3
          have r4 : w7.drew.cell? ⟨wr.heap.size, 4, none⟩ = some (.int .i64 z) := d4
          obtain ⟨wa, hwa⟩ : ∃ wa, wa = (w7.alloc (.cells #[.int .i64 t, .int .i64 m, .int .i64 x, .int .i64 z] 54)).drew := ⟨_, rfl⟩
          have hga : w7.grownBy wa none := by rw [hwa]; exact (World.grownBy_alloc w7 (.cells #[.int .i64 t, .int .i64 m, .int .i64 x, .int .i64 z] 54) none).andThen (c := (w7.alloc (.cells #[.int .i64 t, .int .i64 m, .int .i64 x, .int .i64 z] 54)).drew) (row' := none) ⟨rfl, rfl, rfl, Nat.le_refl _, fun _ _ _ => rfl⟩ (fun j e => by cases e)
          have hsa : wa.heap.size = w7.heap.size + 1 := by rw [hwa]; simp
          have f2 : wa.cell? ⟨gg, 1, none⟩ = some sv := (hga.cell_far _ q7 (by simp)).trans q1
          have s1 : wa.cell? ⟨wr.heap.size, 1, none⟩ = some (.int .i64 t) := (hga.cell_far _ hbn (by simp)).trans d1
          have s2 : wa.cell? ⟨wr.heap.size, 2, none⟩ = some (.int .i64 m) := (hga.cell_far _ hbn (by simp)).trans d2
          have s3 : wa.cell? ⟨wr.heap.size, 3, none⟩ = some (.int .i64 x) := (hga.cell_far _ hbn (by simp)).trans d3
          have s4 : wa.cell? ⟨wr.heap.size, 4, none⟩ = some (.int .i64 z) := (hga.cell_far _ hbn (by simp)).trans d4
          have HOA : Hid (Own wa B 54 sv (smpOf R1 cl)) := q3.kept hga (by cases sv.ownBlock with | none => exact .inl rfl | some g => exact .inr (by simp))
          have HCA : Hid (Cell4 wa w7.heap.size 0 (t, m, x, z)) := by show Cell4 _ _ _ _; rw [hwa]; exact Cell4.new w7 (t, m, x, z) _ _ rfl
          have HLA : Hid (((smpOf R1 cl).length + 1) * 32 ≤ 140737488355328) := by show _ ≤ _; have := smpOf_length R1 cl; have := HR1.out; omega
          have HBA : Hid (B ≤ wa.heap.size) := by show _ ≤ _; have := (HM.out.lt HM.out.so).1; have := (HM.out.lt HM.out.so).2; omega
          have HNE : Hid (some wr.heap.size ≠ sv.ownBlock) := fun e => by
            have h1 := HLO.out _ (q5 _ e.symm)
            have h2 := HNS.out _ (q5 _ e.symm)
            exact h2 rfl
          have HNG : Hid (gg ≠ wr.heap.size) := fun e => HNS.out _ q4 e
          have HSG : Hid (sv.ownBlock ≠ some gg) := q6
          have HGA := Lib.hid hga
          have HFR : Hid (w7.frozen? ⟨gg, 1, none⟩ = false) := q2
          have HQ7 := Lib.hid q7
          have hr0 : w7.drew.cell? ⟨wr.heap.size, 1, none⟩ = some (.int .i64 t) ∧ w7.drew.cell? ⟨wr.heap.size, 2, none⟩ = some (.int .i64 m) ∧ w7.drew.cell? ⟨wr.heap.size, 3, none⟩ = some (.int .i64 x) ∧ w7.drew.cell? ⟨wr.heap.size, 4, none⟩ = some (.int .i64 z) := ⟨r1, r2, r3, r4⟩
          have hra : wa.cell? ⟨wr.heap.size, 1, none⟩ = some (.int .i64 t) ∧ wa.cell? ⟨wr.heap.size, 2, none⟩ = some (.int .i64 m) ∧ wa.cell? ⟨wr.heap.size, 3, none⟩ = some (.int .i64 x) ∧ wa.cell? ⟨wr.heap.size, 4, none⟩ = some (.int .i64 z) := ⟨s1, s2, s3, s4⟩
          have HBN := Lib.hid hbn
          clear q1 q2 q3 q4 q5 q6 q7 hsv hgg hgd hga d0 d1 d2 d3 d4 hbn
          have f3 : (w7.alloc (.cells #[.int .i64 t, .int .i64 m, .int .i64 x, .int .i64 z] 54)).drew.cell? ⟨gg, 1, none⟩ = some sv := by rw [← hwa]; exact f2
          have HWA := Lib.hid hwa
          have HSA := Lib.hid hsa
          clear hwa hsa
          go_wp2_with fail
          refine wp_region_held_drew (S := fun w' => w'.cell? ⟨wr.heap.size, 1, none⟩ = some (.int .i64 t) ∧ w'.cell? ⟨wr.heap.size, 2, none⟩ = some (.int .i64 m) ∧ w'.cell? ⟨wr.heap.size, 3, none⟩ = some (.int .i64 x) ∧ w'.cell? ⟨wr.heap.size, 4, none⟩ = some (.int .i64 z)) (by kernel_rfl) ?_ (fun hHeld => ?_)
          · exact hr0
          refine takeW (i := 0) (v := ?_) rfl (by kernel_rfl) (by kernel_rfl) (by kernel_rfl) (fun _ _ _ h => h) (by rfl) ?_ (by assumption) ?_
          rotate_left
          · (intro w hSw; (try dsimp only at hSw); go_simp; try with_reducible rfl)
          simp only [Act.put, sA, sZ, sS]
          refine takeW (i := 1) (v := ?_) rfl (by kernel_rfl) (by kernel_rfl) (by kernel_rfl) (fun _ _ _ h => h) (by rfl) ?_ (by assumption) ?_
          rotate_left
          · (intro w hSw; (try dsimp only at hSw); go_simp; try with_reducible rfl)
          simp only [Act.put, sA, sZ, sS]
          refine takeW (i := 2) (v := ?_) rfl (by kernel_rfl) (by kernel_rfl) (by kernel_rfl) (fun _ _ _ h => h) (by rfl) ?_ (by assumption) ?_
          rotate_left
          · (intro w hSw; (try dsimp only at hSw); go_simp; try with_reducible rfl)
          simp only [Act.put, sA, sZ, sS]
          refine takeW (i := 3) (v := ?_) rfl (by kernel_rfl) (by kernel_rfl) (by kernel_rfl) (fun _ _ _ h => h) (by rfl) ?_ (by assumption) ?_
          rotate_left
          · (intro w hSw; (try dsimp only at hSw); go_simp; try with_reducible rfl)
          simp only [Act.put, sA, sZ, sS]
          refine takeW (i := 5) (v := ?_) rfl (by kernel_rfl) (by kernel_rfl) (by kernel_rfl) (fun _ _ _ h => h) (by rfl) ?_ (by assumption) ?_
          rotate_left
          · (intro w hSw; (try dsimp only at hSw); go_simp; try with_reducible rfl)
          simp only [Act.put, sA, sZ, sS]
          refine takeW (i := 6) (v := ?_) rfl (by kernel_rfl) (by kernel_rfl) (by kernel_rfl) (fun _ _ _ h => h) (by rfl) ?_ (by assumption) ?_
          rotate_left
          · (intro w hSw; (try dsimp only at hSw); go_simp; try with_reducible rfl)
          simp only [Act.put, sA, sZ, sS]
          refine takeW (i := 7) (v := ?_) rfl (by kernel_rfl) (by kernel_rfl) (by kernel_rfl) (fun _ _ _ h => h) (by rfl) ?_ (by assumption) ?_
          rotate_left
          · (intro w hSw; (try dsimp only at hSw); go_simp; try with_reducible rfl)
          simp only [Act.put, sA, sZ, sS]
          refine takeW (i := 8) (v := ?_) rfl (by kernel_rfl) (by kernel_rfl) (by kernel_rfl) (fun _ _ _ h => h) (by rfl) ?_ (by assumption) ?_
          rotate_left
          · (intro w hSw; (try dsimp only at hSw); go_simp; try with_reducible rfl)
          simp only [Act.put, sA, sZ, sS]
          refine takeW (i := 9) (v := ?_) rfl (by kernel_rfl) (by kernel_rfl) (by kernel_rfl) (fun _ _ _ h => h) (by rfl) ?_ (by assumption) ?_
          rotate_left
          · (intro w hSw; (try dsimp only at hSw); go_simp; try with_reducible rfl)
          simp only [Act.put, sA, sZ, sS]
          refine wpAnyH_ready (rs := [4, 10]) (by kernel_rfl) (by simp) (AllReadyH.cons (get_drop (i := 4) rfl) (fun K hK => ?_) (AllReadyH.cons (get_drop (i := 10) rfl) (fun K hK => ?_) AllReadyH.nil))
          · rw [if_pos (by rfl)]
            go_simp
            refine hK.out _ _ ?_ (fun hHeld => ?_)
            · (try dsimp only)
              exact hr0
            clear hK K
            try simp only [Act.put, sA, sZ, sS]
            refine takeC (i := 10) rfl (by kernel_rfl) (by rfl) (fun K hK => ?_)
            go_simp
            refine hK.out _ _ ?_ (fun hHeld => ?_)
            · (try dsimp only)
              (rw [← HWA.out]; exact hra)
            clear hK K
            try simp only [Act.put, sA, sZ, sS]
            refine takeC (i := 11) rfl (by kernel_rfl) (by rfl) (fun K hK => ?_)
            rw [← HWA.out]
            refine add1 _ _ 50 54 rfl Tryz.underlying50 info_Smp B sv (smpOf R1 cl) (t, m, x, z) rfl HOA.out w7.heap.size 1 rfl HCA.out HLA.out HBA.out ?_
            intro v6 w6 hown6 hg6 hloc6
            have u1 : w6.cell? ⟨wr.heap.size, 1, none⟩ = some (.int .i64 t) := (hg6.cell_far _ (by have := HBN.out; have := HSA.out; show wr.heap.size < wa.heap.size; omega) HNE.out).trans s1
            have u2 : w6.cell? ⟨wr.heap.size, 2, none⟩ = some (.int .i64 m) := (hg6.cell_far _ (by have := HBN.out; have := HSA.out; show wr.heap.size < wa.heap.size; omega) HNE.out).trans s2
            have u3 : w6.cell? ⟨wr.heap.size, 3, none⟩ = some (.int .i64 x) := (hg6.cell_far _ (by have := HBN.out; have := HSA.out; show wr.heap.size < wa.heap.size; omega) HNE.out).trans s3
            have u4 : w6.cell? ⟨wr.heap.size, 4, none⟩ = some (.int .i64 z) := (hg6.cell_far _ (by have := HBN.out; have := HSA.out; show wr.heap.size < wa.heap.size; omega) HNE.out).trans s4
            have v1 : w6.cell? ⟨gg, 1, none⟩ = some sv := (hg6.cell_far _ (by have := HQ7.out; have := HSA.out; show gg < wa.heap.size; omega) (Ne.symm HSG.out)).trans f2
            have v2 : w6.frozen? ⟨gg, 1, none⟩ = false := by
              rw [World.frozen?_of_block ((hg6.block gg (by have := HQ7.out; have := HSA.out; omega) (Ne.symm HSG.out)).trans (HGA.out.block gg HQ7.out (by simp)))]
              exact HFR.out
            obtain ⟨A6, c6, hv6, _, _⟩ := hown6.rd
            obtain ⟨n6, hn6⟩ : ∃ n6, n6 = (smpOf R1 cl ++ [(t, m, x, z)]).length := ⟨_, rfl⟩
            rw [← hn6] at hv6
            clear hn6
            subst hv6
            have HO6 := Lib.hid hown6
            have HG6 := Lib.hid hg6
            have HL6 := Lib.hid hloc6
            have w1 : (w6.setCell ⟨gg, 1, none⟩ (.slice A6 n6 c6)).cell? ⟨wr.heap.size, 1, none⟩ = some (.int .i64 t) := (World.cell?_setCell_other _ _ _ _ (fun e => HNG.out (by first | exact (congrArg Addr.block e).symm | exact congrArg Addr.block e))).trans u1
            have w2 : (w6.setCell ⟨gg, 1, none⟩ (.slice A6 n6 c6)).cell? ⟨wr.heap.size, 2, none⟩ = some (.int .i64 m) := (World.cell?_setCell_other _ _ _ _ (fun e => HNG.out (by first | exact (congrArg Addr.block e).symm | exact congrArg Addr.block e))).trans u2
            have w3 : (w6.setCell ⟨gg, 1, none⟩ (.slice A6 n6 c6)).cell? ⟨wr.heap.size, 3, none⟩ = some (.int .i64 x) := (World.cell?_setCell_other _ _ _ _ (fun e => HNG.out (by first | exact (congrArg Addr.block e).symm | exact congrArg Addr.block e))).trans u3
            have w4 : (w6.setCell ⟨gg, 1, none⟩ (.slice A6 n6 c6)).cell? ⟨wr.heap.size, 4, none⟩ = some (.int .i64 z) := (World.cell?_setCell_other _ _ _ _ (fun e => HNG.out (by first | exact (congrArg Addr.block e).symm | exact congrArg Addr.block e))).trans u4
            clear hown6 hg6 hloc6
            refine hK.out _ _ ?_ (fun hHeld => ?_)
            · (try dsimp only)
              exact ⟨u1, u2, u3, u4⟩
            clear hK K
            try simp only [Act.put, sA, sZ, sS]
            refine takeW (i := 12) (v := ?_) rfl (by kernel_rfl) (by kernel_rfl) (by kernel_rfl) (fun _ _ _ h => h) (by rfl) ?_ (by assumption) ?_
            rotate_left
            · (intro w hSw; (try dsimp only at hSw); go_simp; try with_reducible rfl)
            simp only [Act.put, sA, sZ, sS]
            refine takeW (i := 13) (v := ?_) rfl (by kernel_rfl) (by kernel_rfl) (by kernel_rfl) (fun _ _ _ h => h) (by rfl) ?_ (by assumption) ?_
            rotate_left
            · (intro w hSw; (try dsimp only at hSw); go_simp; try with_reducible rfl)
            simp only [Act.put, sA, sZ, sS]
            refine takeC (i := 14) rfl (by kernel_rfl) (by rfl) (fun K hK => ?_)
            go_simp
            refine hK.out _ _ ?_ (fun hHeld => ?_)
            · (try dsimp only)
              exact ⟨w1, w2, w3, w4⟩
            clear hK K
            try simp only [Act.put, sA, sZ, sS]
            refine wpAnyH_done (by kernel_rfl) ?_ _
            obtain ⟨S9, X9, hA9⟩ := HM.out.done HCH.out HLO.out (v' := .slice A6 n6 c6) (by rw [← HSV.out]; exact (⟨HG6.out.os.trans HGA.out.os, HG6.out.tape.trans HGA.out.tape, HG6.out.output.trans HGA.out.output, Nat.le_trans HGA.out.size HG6.out.size, fun i hi hne => (HG6.out.block i (Nat.lt_of_lt_of_le hi HGA.out.size) hne).trans (HGA.out.block i hi (by simp))⟩)) HO6.out (by rw [← HSV.out]; exact HL6.out.imp id (fun e => ⟨_, e, by have := HSA.out; omega⟩))
            rw [← HGG.out, ← HT9.out] at hA9
            have HA9 := Lib.hid hA9
            clear u1 u2 u3 u4 v1 v2 w1 w2 w3 w4 r1 r2 r3 r4 s1 s2 s3 s4 hr0 hra f1 f2 f3 hA9
            go_wp2_with fail
            go_roundw
            case rel => exact ⟨k + 1, q, S9, X9, by omega, by omega, by go_num, rfl, HQ9.out, HA9.out⟩
            case measure => simp [intOf]; omega
          · rw [if_pos (by rfl)]
            go_simp
            refine hK.out _ _ ?_ (fun hHeld => ?_)
            · (try dsimp only)
              (rw [← HWA.out]; exact hra)
            clear hK K
            try simp only [Act.put, sA, sZ, sS]
            refine takeC (i := 4) rfl (by kernel_rfl) (by rfl) (fun K hK => ?_)
            go_simp
            refine hK.out _ _ ?_ (fun hHeld => ?_)
            · (try dsimp only)
              (rw [← HWA.out]; exact hra)
            clear hK K
            try simp only [Act.put, sA, sZ, sS]
            refine takeC (i := 11) rfl (by kernel_rfl) (by rfl) (fun K hK => ?_)
            rw [← HWA.out]
            refine add1 _ _ 50 54 rfl Tryz.underlying50 info_Smp B sv (smpOf R1 cl) (t, m, x, z) rfl HOA.out w7.heap.size 1 rfl HCA.out HLA.out HBA.out ?_
            intro v6 w6 hown6 hg6 hloc6
            have u1 : w6.cell? ⟨wr.heap.size, 1, none⟩ = some (.int .i64 t) := (hg6.cell_far _ (by have := HBN.out; have := HSA.out; show wr.heap.size < wa.heap.size; omega) HNE.out).trans s1
            have u2 : w6.cell? ⟨wr.heap.size, 2, none⟩ = some (.int .i64 m) := (hg6.cell_far _ (by have := HBN.out; have := HSA.out; show wr.heap.size < wa.heap.size; omega) HNE.out).trans s2
            have u3 : w6.cell? ⟨wr.heap.size, 3, none⟩ = some (.int .i64 x) := (hg6.cell_far _ (by have := HBN.out; have := HSA.out; show wr.heap.size < wa.heap.size; omega) HNE.out).trans s3
            have u4 : w6.cell? ⟨wr.heap.size, 4, none⟩ = some (.int .i64 z) := (hg6.cell_far _ (by have := HBN.out; have := HSA.out; show wr.heap.size < wa.heap.size; omega) HNE.out).trans s4
            have v1 : w6.cell? ⟨gg, 1, none⟩ = some sv := (hg6.cell_far _ (by have := HQ7.out; have := HSA.out; show gg < wa.heap.size; omega) (Ne.symm HSG.out)).trans f2
            have v2 : w6.frozen? ⟨gg, 1, none⟩ = false := by
              rw [World.frozen?_of_block ((hg6.block gg (by have := HQ7.out; have := HSA.out; omega) (Ne.symm HSG.out)).trans (HGA.out.block gg HQ7.out (by simp)))]
              exact HFR.out
            obtain ⟨A6, c6, hv6, _, _⟩ := hown6.rd
            obtain ⟨n6, hn6⟩ : ∃ n6, n6 = (smpOf R1 cl ++ [(t, m, x, z)]).length := ⟨_, rfl⟩
            rw [← hn6] at hv6
            clear hn6
            subst hv6
            have HO6 := Lib.hid hown6
            have HG6 := Lib.hid hg6
            have HL6 := Lib.hid hloc6
            have w1 : (w6.setCell ⟨gg, 1, none⟩ (.slice A6 n6 c6)).cell? ⟨wr.heap.size, 1, none⟩ = some (.int .i64 t) := (World.cell?_setCell_other _ _ _ _ (fun e => HNG.out (by first | exact (congrArg Addr.block e).symm | exact congrArg Addr.block e))).trans u1
            have w2 : (w6.setCell ⟨gg, 1, none⟩ (.slice A6 n6 c6)).cell? ⟨wr.heap.size, 2, none⟩ = some (.int .i64 m) := (World.cell?_setCell_other _ _ _ _ (fun e => HNG.out (by first | exact (congrArg Addr.block e).symm | exact congrArg Addr.block e))).trans u2
            have w3 : (w6.setCell ⟨gg, 1, none⟩ (.slice A6 n6 c6)).cell? ⟨wr.heap.size, 3, none⟩ = some (.int .i64 x) := (World.cell?_setCell_other _ _ _ _ (fun e => HNG.out (by first | exact (congrArg Addr.block e).symm | exact congrArg Addr.block e))).trans u3
            have w4 : (w6.setCell ⟨gg, 1, none⟩ (.slice A6 n6 c6)).cell? ⟨wr.heap.size, 4, none⟩ = some (.int .i64 z) := (World.cell?_setCell_other _ _ _ _ (fun e => HNG.out (by first | exact (congrArg Addr.block e).symm | exact congrArg Addr.block e))).trans u4
            clear hown6 hg6 hloc6
            refine hK.out _ _ ?_ (fun hHeld => ?_)
            · (try dsimp only)
              exact ⟨u1, u2, u3, u4⟩
            clear hK K
            try simp only [Act.put, sA, sZ, sS]
            refine takeW (i := 12) (v := ?_) rfl (by kernel_rfl) (by kernel_rfl) (by kernel_rfl) (fun _ _ _ h => h) (by rfl) ?_ (by assumption) ?_
            rotate_left
            · (intro w hSw; (try dsimp only at hSw); go_simp; try with_reducible rfl)
            simp only [Act.put, sA, sZ, sS]
            refine takeW (i := 13) (v := ?_) rfl (by kernel_rfl) (by kernel_rfl) (by kernel_rfl) (fun _ _ _ h => h) (by rfl) ?_ (by assumption) ?_
            rotate_left
            · (intro w hSw; (try dsimp only at hSw); go_simp; try with_reducible rfl)
            simp only [Act.put, sA, sZ, sS]
            refine takeC (i := 14) rfl (by kernel_rfl) (by rfl) (fun K hK => ?_)
            go_simp
            refine hK.out _ _ ?_ (fun hHeld => ?_)
            · (try dsimp only)
              exact ⟨w1, w2, w3, w4⟩
            clear hK K
            try simp only [Act.put, sA, sZ, sS]
            refine wpAnyH_done (by kernel_rfl) ?_ _
            obtain ⟨S9, X9, hA9⟩ := HM.out.done HCH.out HLO.out (v' := .slice A6 n6 c6) (by rw [← HSV.out]; exact (⟨HG6.out.os.trans HGA.out.os, HG6.out.tape.trans HGA.out.tape, HG6.out.output.trans HGA.out.output, Nat.le_trans HGA.out.size HG6.out.size, fun i hi hne => (HG6.out.block i (Nat.lt_of_lt_of_le hi HGA.out.size) hne).trans (HGA.out.block i hi (by simp))⟩)) HO6.out (by rw [← HSV.out]; exact HL6.out.imp id (fun e => ⟨_, e, by have := HSA.out; omega⟩))
            rw [← HGG.out, ← HT9.out] at hA9
            have HA9 := Lib.hid hA9
            clear u1 u2 u3 u4 v1 v2 w1 w2 w3 w4 r1 r2 r3 r4 s1 s2 s3 s4 hr0 hra f1 f2 f3 hA9
            go_wp2_with fail
            go_roundw
            case rel => exact ⟨k + 1, q, S9, X9, by omega, by omega, by go_num, rfl, HQ9.out, HA9.out⟩
            case measure => simp [intOf]; omega
    · have hkn : k = n := by omega
      have HF : Hid (l.take k = l) := by show _ = _; rw [hkn, HN.out, List.take_length]
      have i1 : ¬ (k : Int) < (n : Int) := by omega
      clear hkn
      go_wp2_with fail
      go_ret2
      refine ⟨?_, S', X', ?_⟩
      · rw [HQ.out, HF.out]; rfl
      · have := HA.out
        rwa [HF.out] at this
end Go.Proofs.YtkgcbeokfilehaaGreatDoor
