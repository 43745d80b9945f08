/-
  oracle.Delete.
-/
import Derived.Test.YtkgcbeokfilehaaGreatDoorWbk
import Derived.Test.YtkgcbeokfilehaaGreatDoorVsk
import Derived.Maps.OwnSet
namespace Go.Proofs.YtkgcbeokfilehaaGreatDoor
open Go.RowKit Go.Sort Go.Shelf Go.Maps
attribute [local go_sem ↓] Go.wp_at_zero Go.wp_at_succ
/-- Filters that can be read as long as just T turns. -/
def RdFT (W : World) (T : Nat → Prop) (v : Value) (l : List Fil) : Prop := ∀ w', Chg T W w' → RdF w' w'.heap.size v l
set_option maxRecDepth 100000 in
set_option maxHeartbeats 2000000 in
theorem delC_walk (k : ByteArray) (G bx : Nat) (LV : Value) (cc : Lbs) (fv : Value) (fs : List Fil) (W : World) (hbx : W.cell? ⟨bx, 0, none⟩ = some fv) (hG : W.cell? ⟨G, 0, none⟩ = some LV) (hF : RdF W W.heap.size fv fs) (hR : RdL W W.heap.size LV cc) (hl : cc.length ≤ 1000000) (hfs : fs.length ≤ 1000000) :
    Calls Tryz.prog 61 #[.string k, .pointer (some ⟨G, 0, none⟩), .pointer (some ⟨bx, 0, none⟩)] W fun e w' => e = .returned (.bool (allF fs cc)) ∧ Below W.heap.size W w' := by
  have KA : Hid (∀ w', Below W.heap.size W w' → Calls Tryz.prog 36 #[fv, LV] w' fun e w'' => e = .returned (.bool (allF fs cc)) ∧ Below W.heap.size W w'') := fun w' hb =>
    (all_walkF fv fs LV cc w' ((hF.below hb).mono hb.size) ((hR.below hb).mono hb.size) hl hfs).mono fun e w'' ⟨he, hE⟩ => ⟨he, hb.trans (hE.below.mono hb.size)⟩
  obtain ⟨q, hq⟩ : ∃ q, q = allF fs cc := ⟨_, rfl⟩
  rw [← hq] at KA ⊢
  have HB : Hid (∀ w', Below W.heap.size W w' → w'.cell? ⟨bx, 0, none⟩ = some fv ∧ w'.cell? ⟨G, 0, none⟩ = some LV) := fun w' hb => ⟨(hb.cell (lt_of_cell hbx)).trans hbx, (hb.cell (lt_of_cell hG)).trans hG⟩
  have hb0 : Below W.heap.size W W.drew := (Below.refl _ _).drew
  obtain ⟨e1, e2⟩ := HB.out _ hb0
  clear hq hF hR hl hfs
  go_enter Tryz.func61, Tryz.ntmps61
  go_wp2_with fail
  go_region_held3 (fun w' => w'.cell? ⟨bx, 0, none⟩ = some fv ∧ w'.cell? ⟨G, 0, none⟩ = some LV ∧ Below W.heap.size W w')
    (first | assumption | exact ⟨e1, e2, hb0⟩ | exact ⟨(HB.out _ (by assumption)).1, (HB.out _ (by assumption)).2, (by assumption)⟩)
    (first | (go_at_call 36; refine (KA.out _ hb0).mono ?_; rintro e w6 ⟨rfl, hb6⟩))
  go_wp2_with fail
  go_ret
  exact ⟨rfl, hb6⟩
theorem owns_tight {w : World} {P : Program} {k b n : Nat} {F : Value → Option (DataW Unit × List MemPlace)} {D : DataW Unit} (h : w.ownsMap P k F b n D) : w.ownsMap P k F b (Maps.size D) D := by
  obtain ⟨es, clock, hb, hF, hs, hD⟩ := h
  refine ⟨es, clock, hb, hF, ?_, hD⟩
  rw [hD]
  show _ ≤ List.length _
  rw [length_sorted]; simp
theorem chg_drop {S : Nat → Prop} {W w w' : World} (h : Chg S W w) {b : Nat} (hb : S b) (hg : w.grownBy w' (some b)) : Chg S W w' :=
  h.trans (.of_grown hg) (fun _ e => e) (fun j _ e => by injection e with e; rw [← e]; exact hb)
set_option maxRecDepth 100000 in
set_option maxHeartbeats 2000000 in
theorem delete_fail {W : World} (o : Nat) (fv : Value) (fs : List Fil) (hF : RdF W W.heap.size fv fs) (hq0 : checkF fs ≠ 0) :
    Calls Tryz.prog 31 #[.pointer (some ⟨o, 0, none⟩), fv] W fun e w' => e = .returned (.tuple #[.int .i64 0, .int .i64 (checkF fs)]) ∧ Below W.heap.size W w' := by
  obtain ⟨A, c, hfv, _, _⟩ := id hF
  obtain ⟨nf, hnf⟩ : ∃ nf, nf = fs.length := ⟨_, rfl⟩
  rw [← hnf] at hfv
  subst hfv
  have hb0 : Below W.heap.size W (W.alloc (.cells #[.slice A nf c] 23)) := (Below.refl _ _).alloc (Nat.le_refl _) _
  have KC := Lib.hid (check_walkF (.slice A nf c) fs (W.alloc (.cells #[.slice A nf c] 23)) ((hF.below hb0).mono hb0.size))
  obtain ⟨q, hq⟩ : ∃ q, q = checkF fs := ⟨_, rfl⟩
  rw [← hq] at KC hq0 ⊢
  have g0 : ((q : Int) != 0) = true := by simp [hq0]
  have HB0 := Lib.hid hb0
  clear hF hnf hq hq0 hb0
  go_enter Tryz.func31, Tryz.ntmps31
  go_wp2_with fail
  refine KC.out.mono ?_
  rintro e w1 ⟨rfl, hE1⟩
  go_wp2_with fail
  go_ret2
  exact ⟨rfl, HB0.out.trans (hE1.below.mono HB0.out.size)⟩
set_option maxRecDepth 100000 in
set_option maxHeartbeats 4000000 in
/-- oracle.Delete. -/
theorem delete_walk {W : World} {S : Nat → Prop} {B o b : Nat} {every keep now : Int} {X : Sers} {R : Told} (h : Orc W S B o b every keep now X R) (hsb : S b) (fv : Value) (fs : List Fil) (hF : RdFT W S fv fs) (hRl : R.length ≤ 60000) (hfl : FewL R) (hq : checkF fs = 0) :
    Calls Tryz.prog 31 #[.pointer (some ⟨o, 0, none⟩), fv] W fun e w' =>
      e = .returned (.tuple #[.int .i64 ((labsOf R).length - (labsOf (delR fs R)).length : Int), .int .i64 0]) ∧ Orc w' S B o b every keep now X (delR fs R) ∧ Chg S W w' := by
  have hF0 := hF W (Chg.refl S W)
  obtain ⟨A, c, hfv, _, _⟩ := id hF0
  obtain ⟨nf, hnf⟩ : ∃ nf, nf = fs.length := ⟨_, rfl⟩
  have h4 : fs.length ≤ 4 := by
    unfold checkF at hq
    by_cases h4 : 4 < fs.length
    · rw [if_pos h4] at hq; omega
    · omega
  rw [← hnf] at hfv
  subst hfv
  obtain ⟨W1, hW1⟩ : ∃ W1, W1 = W.alloc (.cells #[.slice A nf c] 23) := ⟨_, rfl⟩
  have hb0 : Below W.heap.size W W1 := by rw [hW1]; exact (Below.refl _ _).alloc (Nat.le_refl _) _
  have hszw : W1.heap.size = W.heap.size + 1 := by rw [hW1]; simp
  have KC := Lib.hid (check_walkF (.slice A nf c) fs W1 ((hF0.below hb0).mono hb0.size))
  rw [hq] at KC
  have hbx : W1.cell? ⟨W.heap.size, 0, none⟩ = some (.slice A nf c) := by rw [hW1]; simp
  have HBX : Hid (∀ w', Below W1.heap.size W1 w' → w'.cell? ⟨W.heap.size, 0, none⟩ = some (.slice A nf c)) := fun w' hb => (hb.cell (by show W.heap.size < _; omega)).trans hbx
  have HH1 : Hid (Orc W1 S B o b every keep now X R) := h.on hb0
  have HCH1 : Hid (Chg S W W1) := (Chg.of_below hb0).mono (fun _ _ e => e.elim)
  have HFT := Lib.hid hF
  have HSb := Lib.hid hsb
  have HRL := Lib.hid hRl
  have HFL := Lib.hid hfl
  have HW1 := Lib.hid hW1
  have HSZ := Lib.hid hszw
  have H4 := Lib.hid h4
  clear hF0 hnf hb0 h hF hsb hRl hfl hq hW1 hszw h4 hbx
  go_enter Tryz.func31, Tryz.ntmps31
  go_wp2_with fail
  rw [← HW1.out]
  have c0 := HBX.out W1 (Below.refl _ _)
  go_wp2_with fail
  refine KC.out.mono ?_
  rintro e w2 ⟨rfl, hE2⟩
  have HB2 : Hid (Below W1.heap.size W1 w2) := hE2.below
  have HH2 : Hid (Orc w2 S B o b every keep now X R) := HH1.out.on HB2.out
  have HCH2 : Hid (Chg S W w2) := HCH1.out.trans (.of_below HB2.out) (fun _ e => e) (fun _ _ e => e.elim)
  have hbx2 := HBX.out w2 HB2.out
  have k3 : w2.cell? ⟨o, 3, none⟩ = some (.map (some b)) := HH2.out.cells.2.2.2
  obtain ⟨n0, D0, hn0, hom⟩ := HH2.out.om
  have HOM := Lib.hid hom
  have hsz := hom.size
  have hll := labs_length R
  obtain ⟨L0, hL0⟩ : ∃ L0, L0 = (labsOf R).length := ⟨_, rfl⟩
  rw [← hL0] at hsz hll
  have hob : o ≠ b := fun e => by
    obtain ⟨es, clock, hb, _⟩ := hom.map
    rw [← e, HH2.out.cell] at hb; cases hb
  have hbw : ∀ w', w2.grownBy w' (some b) → w'.cell? ⟨W.heap.size, 0, none⟩ = some (.slice A nf c) := fun w' hg => (hg.cell_far _ (lt_of_cell hbx2) (fun e => by
    injection e with e
    obtain ⟨es, clock, hb, _⟩ := hom.map
    have h9 : w2.heap[W.heap.size]? = W1.heap[W.heap.size]? := HB2.out.block _ (by have := HSZ.out; omega)
    rw [HW1.out, heap_alloc_new] at h9
    have e : W.heap.size = b := e
    rw [← e, h9] at hb; cases hb)).trans hbx2
  have HDEL : Hid (∀ (W9 : World) (key val : Value) (kl : Lit) (yd : DataW Unit) (yp : List MemPlace), w2.grownBy W9 (some b) → keyOf Tryz.prog 9 key = some kl → ptR X (hasR R) val = some (yd, yp) →
      Calls Tryz.prog 61 (#[key, val] ++ #[.pointer (some ⟨W.heap.size, 0, none⟩)]) W9 fun e w' => e = .returned (.bool (pdR X (hasR R) (allF fs) kl yd)) ∧ W9.grownBy w' none) := by
    intro W9 key val kl yd yp hg hkey hval
    obtain ⟨cc, hcc, hv, hy⟩ := ptR_form hval
    obtain ⟨hy1, hy2⟩ := Prod.mk.inj hy
    subst hv hy1
    rw [pdR_at HOM.out hcc]
    obtain ⟨ks, hks, _⟩ := WideMaps.string_of_keyOf Tryz.underlying9 hkey
    subst hks
    obtain ⟨q1, q2, q3⟩ := HOM.out.ser cc hcc
    obtain ⟨es, clock, hmb, _⟩ := HOM.out.map
    have hGb : X.G cc ≠ b := fun e => by rw [e, hmb] at q1; cases q1
    have hGl := (Array.getElem?_eq_some_iff.1 q1).1
    have hG : W9.cell? ⟨X.G cc, 0, none⟩ = some (X.LV cc) := (hg.cell_far _ hGl (fun e => hGb (by injection e))).trans (by simp [World.cell?, q1])
    have hLV : OwnL W9 B (X.LV cc) cc := owns_same q2 (fun g hgo => hg.block g (World.ownsRow.lt q2 g hgo).2 (fun e => by
      injection e with e
      obtain ⟨cur, hcur⟩ := owns_tag q2 hgo
      rw [e, hmb] at hcur; cases hcur))
    have hFF := HFT.out W9 (chg_drop HCH2.out HSb.out hg)
    exact (delC_walk ks (X.G cc) W.heap.size (X.LV cc) cc _ fs W9 (hbw W9 hg) hG hFF hLV.rd (by have := HFL.out.at_ hcc; omega) (by have := H4.out; omega)).mono fun e w' ⟨he, hb⟩ => ⟨he, grown_of_below hb none⟩
  have eg : ∀ args w, (callFunc 61 args).run Tryz.prog w = .ok (.enter 61 args) w := enters_of Tryz.func61 (by kernel_rfl) rfl
  have KD := Lib.hid (AnyDf.maps_DeleteFunc Tryz.delSer key_law (ptR X (hasR R)) (pdR X (hasR R) (allF fs)) 61 #[.pointer (some ⟨W.heap.size, 0, none⟩)] b n0 D0 w2 eg hom.restr HDEL.out)
  have HOBN := Lib.hid hob
  have hmf : ∀ (fn : Fn) (first cap : Array Value) (w : World), (Instr.makeFunc fn first cap).run Tryz.prog w = .ok (.func fn first cap) w := fun _ _ _ _ => rfl
  have HL0 := Lib.hid hL0
  have HLL := Lib.hid hll
  have HM2 := Lib.hid hom.map
  clear hE2 KC c0 hom hn0 hob hbw eg hL0 hll
  go_wp2_with (first | (at_len; refine wpList_len_own _ rfl _ 79 rfl 9 87 Tryz.underlying79 ptE b n0 D0 rfl HM2.out ?_) | fail)
  clear hsz
  refine KD.out.mono ?_
  rintro e w3 ⟨rfl, hm3, hg3⟩
  have hS3 := (HOM.out.strike hm3 hg3).hasCongr (show hasR (delR fs R) = fun c => hasR R c && !allF fs c by funext x; rw [hasR_del])
  have hS4 : OM w3 S B b n0 (Lib.deleteFuncD (pdR X (hasR R) (allF fs)) D0) X (hasR (delR fs R)) (smpOf (delR fs R)) := hS3.congr (fun x hx => by
    rw [hasR_del, Bool.and_eq_true, Bool.not_eq_true'] at hx
    exact smpOf_del fs R x hx.2)
  have hsz3 := hS4.size
  have hll3 := labs_length (delR fs R)
  have hll4 := delR_length fs R
  have hle : (labsOf (delR fs R)).length ≤ (labsOf R).length := by rw [labs_del]; exact List.length_filter_le _ _
  obtain ⟨L3, hL3⟩ : ∃ L3, L3 = (labsOf (delR fs R)).length := ⟨_, rfl⟩
  rw [← hL3] at hsz3 hll3 hle
  have k33 : w3.cell? ⟨o, 3, none⟩ = some (.map (some b)) := (hg3.cell_far _ (lt_of_cell k3) (fun e => HOBN.out (by injection e))).trans k3
  have HFIN : Hid (Orc w3 S B o b every keep now X (delR fs R) ∧ Chg S W w3) := by
    refine ⟨⟨(hg3.block o (HH2.out.lt HH2.out.so).2 (fun e => HOBN.out (by injection e))).trans HH2.out.cell, HH2.out.so, HH2.out.bd, Maps.size (Lib.deleteFuncD (pdR X (hasR R) (allF fs)) D0), _, by rw [hsz3, hL3]; exact labs_length _, ⟨owns_tight hS4.map, hS4.lt, hS4.sb, hS4.isMap, hS4.key, hS4.has, hS4.at_, hS4.ser, hS4.own, hS4.apart⟩⟩, chg_drop HCH2.out HSb.out hg3⟩
  have HM3 := Lib.hid hS4.map
  have i1 : IntKind.i64.wrap ((L0 : Int) - (L3 : Int)) = (L0 : Int) - (L3 : Int) := IntWalk.i64_in _ (by have := HLL.out; have := HRL.out; omega)
  have HL3 := Lib.hid hL3
  clear hm3 hg3 hS3 hS4 hll3 hll4 hle k3 KD hL3
  go_wp2_with (first | (at_len; refine wpList_len_own _ rfl _ 79 rfl 9 87 Tryz.underlying79 ptE b n0 _ rfl HM3.out ?_) | fail)
  go_ret2
  refine ⟨?_, HFIN.out⟩
  rw [← HL0.out, ← HL3.out]; rfl
end Go.Proofs.YtkgcbeokfilehaaGreatDoor
