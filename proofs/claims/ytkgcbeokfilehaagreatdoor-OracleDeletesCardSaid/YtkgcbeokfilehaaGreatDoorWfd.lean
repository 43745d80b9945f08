/-
  oracle.Clone.
-/
import Derived.Test.YtkgcbeokfilehaaGreatDoorWcd
import Derived.Test.YtkgcbeokfilehaaGreatDoorVld
import Derived.Test.YtkgcbeokfilehaaGreatDoorVhd
import Derived.Test.YtkgcbeokfilehaaGreatDoorVpd
import Derived.Deep.RegionHeld3
import Derived.BigQuiet
namespace Go.Proofs.YtkgcbeokfilehaaGreatDoor
open Go.RowKit Go.Sort Go.Shelf Go.Maps
theorem key_str {v : Value} {c : Lbs} (h : keyOf Tryz.prog 9 v = some (kyL c)) : ∃ ks : ByteArray, v = .string ks := by
  obtain ⟨s, hs, _⟩ := WideMaps.string_of_keyOf Tryz.underlying9 h
  exact ⟨s, hs⟩
/-- What has been copied. -/
def doneR (R : Told) (left : Lit → Bool) (c : Lbs) : Bool := hasR R c && !left (kyL c)
set_option maxRecDepth 100000 in
set_option maxHeartbeats 8000000 in
/-- oracle.Clone. -/
theorem clone_walkO {W : World} {S : Nat → Prop} {B o b : Nat} {every keep now : Int} {X : Sers} {R : Told} (h : Orc W S B o b every keep now X R) (hRl : R.length ≤ 60000) (hfl : FewL R) :
    Calls Tryz.prog 30 #[.pointer (some ⟨o, 0, none⟩)] W fun e w' =>
      ∃ (o' b' : Nat) (S' : Nat → Prop) (X' : Sers), e = .returned (.pointer (some ⟨o', 0, none⟩)) ∧ Orc w' S' W.heap.size o' b' every keep now X' R ∧ S' b' ∧ Below W.heap.size W w' := by
  obtain ⟨n0, D0, hn0, hom⟩ := h.om
  have HOM := Lib.hid hom
  have hcells := h.cells
  have hob : o < W.heap.size := (h.lt h.so).2
  have hbd := h.bd
  have hkk : keepN keep = keep := by unfold keepN; omega
  have KN0 : Hid (∀ w', Calls Tryz.prog 11 #[.int .i64 every, .int .i64 keep] w' fun e w'' => e = .returned (.pointer (some ⟨w'.heap.size + 1, 0, none⟩)) ∧
      Orc w'' (fun k => k = w'.heap.size ∨ k = w'.heap.size + 1) w'.heap.size (w'.heap.size + 1) w'.heap.size every keep 0 noX [] ∧ Ext w' w'') := fun w' => by
    have := new_walk every keep w'
    rw [hkk] at this
    exact this
  have HC : Hid (∀ w', Below W.heap.size W w' → w'.cell? ⟨o, 0, none⟩ = some (.int .i64 every) ∧ w'.cell? ⟨o, 1, none⟩ = some (.int .i64 keep) ∧ w'.cell? ⟨o, 2, none⟩ = some (.int .i64 now) ∧ w'.cell? ⟨o, 3, none⟩ = some (.map (some b))) := fun w' hb =>
    ⟨(hb.cell hob).trans hcells.1, (hb.cell hob).trans hcells.2.1, (hb.cell hob).trans hcells.2.2.1, (hb.cell hob).trans hcells.2.2.2⟩
  have HRL := Lib.hid hRl
  have HFL := Lib.hid hfl
  have HBD := Lib.hid hbd
  have hb0 : Below W.heap.size W W.drew := (Below.refl _ _).drew
  obtain ⟨c0, c1, c2, c3⟩ := HC.out _ hb0
  have HCW : Hid (∀ w', Below W.heap.size W w' → w'.cell? ⟨o, 0, none⟩ = some (.int .i64 every) ∧ w'.cell? ⟨o, 1, none⟩ = some (.int .i64 keep)) := fun w' hb => ⟨(HC.out w' hb).1, (HC.out w' hb).2.1⟩
  clear h hn0 hom hcells hob hbd hkk hRl hfl
  go_enter Tryz.func30, Tryz.ntmps30
  go_wp2_with fail
  go_region_held3 (fun w' => w'.cell? ⟨o, 0, none⟩ = some (.int .i64 every) ∧ w'.cell? ⟨o, 1, none⟩ = some (.int .i64 keep) ∧ Below W.heap.size W w')
    (first | assumption | exact ⟨c0, c1, hb0⟩ | exact ⟨(HCW.out _ (by assumption)).1, (HCW.out _ (by assumption)).2, (by assumption)⟩)
    (first | (go_at_call 11; refine (KN0.out _).mono ?_; rintro e w1 ⟨rfl, hO1, hE1⟩; have hB1 := hb0.trans (hE1.below.mono hb0.size)))
  clear c0 c1 c2 c3 hb0 HCW
  obtain ⟨o', ho'⟩ : ∃ o', o' = W.heap.size + 1 := ⟨_, rfl⟩
  obtain ⟨b', hb'⟩ : ∃ b', b' = W.heap.size := ⟨_, rfl⟩
  have HO1 : Hid (Orc w1 (fun k => k = b' ∨ k = o') W.heap.size o' b' every keep 0 noX []) := by show Orc _ _ _ _ _ _ _ _ _ _; rw [ho', hb']; exact hO1
  have HB1 : Hid (Below W.heap.size W w1) := by assumption
  have hpt : (Value.pointer (some ⟨W.heap.size + 1, 0, none⟩)) = .pointer (some ⟨o', 0, none⟩) := by rw [ho']
  have hdr : W.drew.heap.size = W.heap.size := rfl
  have c2 := (HC.out w1 HB1.out).2.2.1
  have c3 := (HC.out w1 HB1.out).2.2.2
  have k2 := HO1.out.cells.2.2.1
  have f2 := HO1.out.free 2
  have HLo : Hid (W.heap.size ≤ o' ∧ W.heap.size ≤ b' ∧ o' ≠ b') := by show _ ∧ _ ∧ _; omega
  rw [hpt]
  clear hO1 hE1 hB1 hpt ho' hb' hdr
  obtain ⟨w2, hw2⟩ : ∃ w2, w2 = w1.setCell ⟨o', 2, none⟩ (.int .i64 now) := ⟨_, rfl⟩
  have HO2 : Hid (Orc w2 (fun k => k = b' ∨ k = o') W.heap.size o' b' every keep now noX []) := by show Orc _ _ _ _ _ _ _ _ _ _; rw [hw2]; exact HO1.out.clock now HBD.out.2.2
  have HB2 : Hid (Below W.heap.size W w2) := by show Below _ _ _; rw [hw2]; exact HB1.out.setCell (p := ⟨o', 2, none⟩) HLo.out.1 _
  have c3' := (HC.out w2 HB2.out).2.2.2
  have HW2 := Lib.hid hw2
  have HM2 : Hid (w2.ownsMap Tryz.prog 9 ptE b n0 D0) := (HOM.out.kept (Chg.of_below HB2.out) (fun _ _ e => e)).map
  clear hw2
  go_wp2_with (first | (at_range; rw [← HW2.out]; refine wpList_range_own _ rfl _ 79 rfl 9 87 key_law Tryz.underlying79 ptE b n0 D0 rfl HM2.out ?_; intro w3 hrg0 hg0 hs0) | fail)
  try go_frame
  obtain ⟨r, hr⟩ : ∃ r, r = w2.heap.size := ⟨_, rfl⟩
  rw [← hr] at hrg0
  have HRG0 := Lib.hid hrg0
  have HB3 : Hid (Below W.heap.size W w3) := HB2.out.trans (show Below W.heap.size w2 w3 from ⟨hg0.os, hg0.tape, hg0.output, hg0.size, fun i hi => hg0.block i (Nat.lt_of_lt_of_le hi HB2.out.size) (by simp)⟩)
  have HR : Hid (W.heap.size ≤ r) := by show _ ≤ _; rw [hr]; exact HB2.out.size
  have HO3 : Hid (Orc w3 (fun k => k = b' ∨ k = o') W.heap.size o' b' every keep now noX []) := HO2.out.kept (T := fun _ => False) ⟨hg0.os, hg0.tape, hg0.output, hg0.size, fun i hi _ => hg0.block i hi (by simp)⟩ (fun _ _ e => e)
  have HRO : Hid (r ≠ o' ∧ r ≠ b') := by
    have h1 := (HO2.out.lt (k := o') (.inr rfl)).2
    have h2 := (HO2.out.lt (k := b') (.inl rfl)).2
    show _ ∧ _
    omega
  rw [← hr]
  clear hrg0 hg0 hs0 c3' c2 c3 k2 f2 hr HW2
  go_loopw [29] (fun _ wl => ∃ (left : Lit → Bool) (cnt : Nat) (ls : List Lbs) (n' : Nat) (D' : DataW Unit) (S' : Nat → Prop) (X' : Sers), Hid (wl.ranges Tryz.prog 9 ptE b r n0 D0 left cnt) ∧ Hid (Done D0 (hasR R) left ls) ∧ Hid (n' ≤ ls.length) ∧
      Hid (OM wl S' W.heap.size b' n' D' X' (doneR R left) (smpOf R)) ∧ Hid (wl.heap[o']? = some (.cells #[.int .i64 every, .int .i64 keep, .int .i64 now, .map (some b')] 81 (0, 0))) ∧ Hid (S' o' ∧ ¬ S' r) ∧ Hid (Below W.heap.size W wl))
    (fun _ wl => wl.rangeLeft b r)
  case atStart =>
    obtain ⟨n1, D1, hn1, hom1⟩ := HO3.out.om
    refine ⟨_, _, [], n1, D1, (fun k => k = b' ∨ k = o'), noX, HRG0.out, Done.start HOM.out, hn1, ?_, HO3.out.cell, ⟨.inr rfl, fun e => by rcases e with e | e; exact HRO.out.2 e; exact HRO.out.1 e⟩, HB3.out⟩
    have e1 : doneR R (Maps.has D0) = hasR [] := by
      funext x
      unfold doneR
      rw [HOM.out.has x]
      cases hasR R x <;> rfl
    exact (hom1.hasCongr e1).congr (fun c hc => by rw [e1] at hc; cases hc)
  case round =>
    obtain ⟨left, cnt, ls, n', D', S', X', HRG, HDO, HN', HOM', HCO, HSO, HBL⟩ := hrel
    have hrg := HRG.out
    go_wp2_with (first
      | (at_next; refine wpList_next_ranges _ rfl _ rfl 9 key_law ptE id id (fun key _ _ => ⟨key, rfl⟩) (fun v _ _ => ⟨v, rfl⟩) b r n0 D0 left cnt rfl hrg ?_ ?_)
      | fail)
    · intro _ hl0
      have e1 : doneR R left = hasR R := by
        funext x
        unfold doneR
        rw [hl0]; simp
      have hn9 : n' ≤ R.length := Nat.le_trans HN'.out (Nat.le_trans (len_sub HDO.out.nodup (fun c hc => mem_labs.2 ((HDO.out.iff c).1 hc).1)) (labs_length R))
      have HF : Hid (Orc wr S' W.heap.size o' b' every keep now X' R) := ⟨HCO.out, HSO.out.1, HBD.out, n', D', hn9, by rw [← e1]; exact HOM'.out⟩
      clear hl0 hrg e1 hn9
      go_wp2_with fail
      go_ret
      exact ⟨o', b', S', X', rfl, HF.out, HOM'.out.sb, HBL.out⟩
    · intro x cv kl yd yp w4 cnt4 hkey hlx hv hat hrg4 hlt hg4 hs4 hen
      obtain ⟨cc, hcc, hkl, hcv⟩ := HOM.out.met hv hat
      have hcv : cv = .pointer (some ⟨X.G cc, 0, none⟩) := hcv
      subst hkl
      subst hcv
      have hkey : keyOf Tryz.prog 9 x = some (kyL cc) := hkey
      obtain ⟨ks, hks⟩ := key_str hkey
      replace hen : (Instr.entry (.pointer (some ⟨r, 0, none⟩))).run Tryz.prog w4 = .ok (.tuple #[x, .pointer (some ⟨X.G cc, 0, none⟩)]) w4 := hen
      subst hks
      have HST := Lib.hid (HDO.out.step hcc hlx)
      have hB4 : Below W.heap.size W w4 := HBL.out.grown hg4 HBL.out.size (fun j e => by injection e with e; rw [← e]; exact HR.out)
      have HB4 := Lib.hid hB4
      have HRG4 := Lib.hid hrg4
      have HLT := Lib.hid hlt
      have hChg4 : Chg (fun k => k = r) wr w4 := (Chg.of_grown hg4).mono (fun j _ e => by injection e with e; exact e.symm)
      have HOM4 : Hid (OM w4 S' W.heap.size b' n' D' X' (doneR R left) (smpOf R)) := HOM'.out.kept hChg4 (fun j hj e => HSO.out.2 (e ▸ hj))
      have HCO4 : Hid (w4.heap[o']? = some (.cells #[.int .i64 every, .int .i64 keep, .int .i64 now, .map (some b')] 81 (0, 0))) :=
        (hg4.block o' (Array.getElem?_eq_some_iff.1 HCO.out).1 (fun e => HRO.out.1 (by injection e with e; exact e.symm))).trans HCO.out
      have hcl : cc.length ≤ 1000 := HFL.out.at_ hcc
      obtain ⟨s0, s1, s2, s3, s4, s5, s6⟩ := Orc.ser HOM.out hcc
      obtain ⟨G, hG⟩ : ∃ G, G = X.G cc := ⟨_, rfl⟩
      obtain ⟨LV, hLV⟩ : ∃ LV, LV = X.LV cc := ⟨_, rfl⟩
      obtain ⟨SV, hSV⟩ : ∃ SV, SV = X.SV cc := ⟨_, rfl⟩
      rw [← hG, ← hLV] at s0
      rw [← hG, ← hSV] at s1
      rw [← hLV] at s2 s3
      rw [← hSV] at s4 s5
      rw [← hG] at s6 hen ⊢
      have ho4 : o' < w4.heap.size := (Array.getElem?_eq_some_iff.1 HCO4.out).1
      have HS : Hid (∀ w', Below w4.heap.size w4 w' → w'.cell? ⟨G, 0, none⟩ = some LV ∧ w'.cell? ⟨G, 1, none⟩ = some SV ∧ w'.cell? ⟨o', 3, none⟩ = some (.map (some b'))) := fun w' hb => by
        have h9 := hB4.trans (hb.mono hB4.size)
        refine ⟨(h9.cell s6).trans s0, (h9.cell s6).trans s1, (hb.cell ho4).trans ?_⟩
        simp [World.cell?, HCO4.out]
      have KL : Hid (∀ w', Below w4.heap.size w4 w' → Calls Tryz.prog 39 #[LV] w' fun e w'' => ∃ r, e = .returned r ∧ OwnL w'' w4.heap.size r cc ∧ Below w4.heap.size w4 w'') := fun w' hb => by
        have h9 := hB4.trans (hb.mono hB4.size)
        refine (cloneL_walk LV cc w' ((s2.below h9).mono h9.size) s3 (by omega)).mono ?_
        rintro e w'' ⟨r1, he, ho, hb2⟩
        exact ⟨r1, he, ho.lower hb.size, hb.trans (hb2.mono hb.size)⟩
      have KS : Hid (∀ w', Below w4.heap.size w4 w' → Calls Tryz.prog 59 #[SV] w' fun e w'' => ∃ r, e = .returned r ∧ Own w'' w'.heap.size 54 r (smpOf R cc) ∧ Below w'.heap.size w' w'') := fun w' hb => by
        have h9 := hB4.trans (hb.mono hB4.size)
        exact clone_walk SV (smpOf R cc) w' ((s4.below h9).mono h9.size) s5 (by have := smpOf_length R cc; have := HRL.out; omega)
      have hHf : doneR R left cc = false := by unfold doneR; rw [hlx]; simp
      have hHn : doneR R (fun z => left z && !z.sameKey (kyL cc)) = fun x => decide (x = cc) || doneR R left x := by
        funext z
        unfold doneR
        dsimp only
        by_cases e : z = cc
        · subst e
          rw [WideAt.sameKey_self (kyL_key z), hcc]; simp
        · rw [sameKey_ne (fun e2 => e (kyL_inj e2))]
          simp [e]
      have hls : ls.length ≤ R.length := Nat.le_trans (len_sub HDO.out.nodup (fun c hc => mem_labs.2 ((HDO.out.iff c).1 hc).1)) (labs_length R)
      have HPUT : Hid (∀ w6 lv sv, Below w4.heap.size w4 w6 → OwnL w6 w4.heap.size lv cc → Own w6 w4.heap.size 54 sv (smpOf R cc) →
          ∃ w7 S7 X7, (Instr.mapUpdate 79 (.map (some b')) (.string ks) (.pointer (some ⟨w6.heap.size, 0, none⟩))).run Tryz.prog (w6.alloc (.cells #[lv, sv] 90)) = .ok () w7 ∧
            OM w7 S7 W.heap.size b' (n' + 1) (D'.put (kyL cc) (.lit (.int .i64 w6.heap.size))) X7 (doneR R (fun z => left z && !z.sameKey (kyL cc))) (smpOf R) ∧ (S7 o' ∧ ¬ S7 r) ∧ (w6.alloc (.cells #[lv, sv] 90)).grownBy w7 (some b')) := fun w6 lv sv hb hl hs => by
        obtain ⟨wa, hwa⟩ : ∃ wa, wa = w6.alloc (.cells #[lv, sv] 90) := ⟨_, rfl⟩
        have hba : Below w6.heap.size w6 wa := by rw [hwa]; exact (Below.refl _ _).alloc (Nat.le_refl _) _
        have hbA : Below w4.heap.size w4 wa := hb.trans (hba.mono hb.size)
        have hOMa := HOM4.out.kept (Chg.of_below hbA) (fun _ _ e => e)
        rw [← hwa]
        obtain ⟨w7, hrun, hmap, hgr⟩ := hOMa.map.update key_law Tryz.underlying79 (by have := HN'.out; have := HRL.out; unfold maxLen; omega) hkey (val := .pointer (some ⟨w6.heap.size, 0, none⟩)) (ps := []) rfl
        have hWw : W.heap.size ≤ w4.heap.size := hB4.size
        have hP := hOMa.put (c := cc) (lv := lv) (sv := sv) (g := w6.heap.size) hHf (fun e => by have := (HOM4.out.lt _ e).2; have := hb.size; omega) (Nat.le_trans hWw hb.size) ((hs.below hba).lower hWw) (fun k hk e => by
            have h1 := (hs.blk hk).1
            have h2 := (HOM4.out.lt _ e).2
            omega) (by rw [hwa]; exact heap_alloc_new _ _) ((hl.below hba).lower hWw) hmap hgr
        refine ⟨w7, _, _, hrun, hP.hasCongr hHn, ⟨.inl HSO.out.1, ?_⟩, hgr⟩
        rintro (e | e | e | e)
        · exact HSO.out.2 e
        · have := HRG4.out.lt; have := hb.size; omega
        · have := (hl.blk e).1; have := HRG4.out.lt; omega
        · have := (hs.blk e).1; have := HRG4.out.lt; omega
      have HCL := Lib.hid hcl
      have hmr := hrg.left_eq
      have HMR := Lib.hid hmr
      have hb40 : Below w4.heap.size w4 w4.drew := (Below.refl _ _).drew
      obtain ⟨e1, e2, e3⟩ := HS.out _ hb40
      have HOL : Hid (o' < w4.heap.size ∧ G < w4.heap.size ∧ G ≠ b' ∧ o' ≠ b') := ⟨ho4, Nat.lt_of_lt_of_le s6 hB4.size, (by have := HLo.out.2.1; omega), HLo.out.2.2⟩
      clear hmr hcc hlx hkey hv hat hrg4 hlt hg4 hs4 s0 s1 s2 s3 s4 s5 s6 hG hLV hSV hB4 hcl hrg hHf hHn hls ho4 hChg4
      go_wp2_with fail
      go_region_held3 (fun w' => w'.cell? ⟨G, 0, none⟩ = some LV ∧ w'.cell? ⟨G, 1, none⟩ = some SV ∧ w'.cell? ⟨o', 3, none⟩ = some (.map (some b')))
        (first | assumption | exact ⟨e1, e2, e3⟩ | exact ⟨by assumption, by assumption, by assumption⟩ | exact HS.out _ (by assumption) | exact HS.out _ (Below.alloc (by assumption) (Below.size (by assumption)) _))
        (first
          | (go_at_call 39; refine (KL.out _ hb40).mono ?_; rintro e w5 ⟨lv5, rfl, ho5, hb5⟩;
              obtain ⟨A5, c5, hv5, _, _⟩ := ho5.rd; obtain ⟨m5, hm5⟩ : ∃ m5, m5 = cc.length := ⟨_, rfl⟩; rw [← hm5] at hv5; clear hm5; subst hv5)
          | (go_at_call 59; refine (KS.out _ hb5).mono ?_; rintro e w6 ⟨sv6, rfl, ho6, hb6⟩;
              obtain ⟨A6, c6, hv6, _, _⟩ := ho6.rd; obtain ⟨m6, hm6⟩ : ∃ m6, m6 = (smpOf R cc).length := ⟨_, rfl⟩; rw [← hm6] at hv6; clear hm6; subst hv6;
              have hb46 : Below w4.heap.size w4 w6 := hb5.trans (hb6.mono hb5.size);
              obtain ⟨w7, S7, X7, hup, hOM7, hS7, hgr7⟩ := HPUT.out w6 _ _ hb46 (ho5.below hb6) (ho6.lower hb5.size);
              have hb4a : Below w4.heap.size w4 (w6.alloc (.cells #[.slice A5 m5 c5, .slice A6 m6 c6] 90)) := hb46.alloc hb46.size _;
              have p1 : w7.cell? ⟨G, 0, none⟩ = some LV := (hgr7.cell_far _ (Nat.lt_of_lt_of_le HOL.out.2.1 hb4a.size) (fun e => HOL.out.2.2.1 (by injection e))).trans (HS.out _ hb4a).1;
              have p2 : w7.cell? ⟨G, 1, none⟩ = some SV := (hgr7.cell_far _ (Nat.lt_of_lt_of_le HOL.out.2.1 hb4a.size) (fun e => HOL.out.2.2.1 (by injection e))).trans (HS.out _ hb4a).2.1;
              have p3 : w7.cell? ⟨o', 3, none⟩ = some (.map (some b')) := (hgr7.cell_far _ (Nat.lt_of_lt_of_le HOL.out.1 hb4a.size) (fun e => HOL.out.2.2.2 (by injection e))).trans (HS.out _ hb4a).2.2;
              have HOM7 := Lib.hid hOM7; have HS7 := Lib.hid hS7; have HGR7 := Lib.hid hgr7; have HB4A := Lib.hid hb4a))
      have hbW : Below W.heap.size W (w6.alloc (.cells #[.slice A5 m5 c5, .slice A6 m6 c6] 90)) := HB4.out.trans (HB4A.out.mono HB4.out.size)
      have HB7 : Hid (Below W.heap.size W w7) := hbW.grown HGR7.out hbW.size (fun j e => by injection e with e; rw [← e]; exact HLo.out.2.1)
      have HR4a : Hid ((w6.alloc (.cells #[.slice A5 m5 c5, .slice A6 m6 c6] 90)).ranges Tryz.prog 9 ptE b r n0 D0 (fun z => left z && !z.sameKey (kyL cc)) cnt4) := HRG4.out.kept (grown_of_below HB4A.out none) (by simp) (by simp)
      have HRG7 : Hid (w7.ranges Tryz.prog 9 ptE b r n0 D0 (fun z => left z && !z.sameKey (kyL cc)) cnt4) := HR4a.out.kept HGR7.out (fun e => by
        injection e with e
        have h1 := (HOM.out.lt b HOM.out.sb).2
        have h2 := HLo.out.2.1
        omega) (fun e => HRO.out.2 (by injection e))
      have HCO7 : Hid (w7.heap[o']? = some (.cells #[.int .i64 every, .int .i64 keep, .int .i64 now, .map (some b')] 81 (0, 0))) :=
        (HGR7.out.block o' (Nat.lt_of_lt_of_le HOL.out.1 HB4A.out.size) (fun e => HOL.out.2.2.2 (by injection e))).trans ((HB4A.out.block o' HOL.out.1).trans HCO4.out)
      have HN7 : Hid (n' + 1 ≤ (ls ++ [cc]).length) := by show _ ≤ _; rw [List.length_append, List.length_singleton]; have := HN'.out; omega
      clear e1 e2 e3 hb40 hb5 ho5 hb6 ho6 hb46 hup hOM7 hS7 hgr7 hb4a p1 p2 p3 hbW hen
      go_wp2_with fail
      go_roundw
      case rel => exact ⟨_, _, _, _, _, _, _, HRG7.out, HST.out, HN7.out, HOM7.out, HCO7.out, HS7.out, HB7.out⟩
      case measure => rw [HRG7.out.left_eq, HMR.out]; exact HLT.out
end Go.Proofs.YtkgcbeokfilehaaGreatDoor

/-
  The same labels, the same texts, the same rows of series: eskerref07.Same, eskerref06.Strings, eskerref20.Same.
-/
namespace Go.Proofs.YtkgcbeokfilehaaGreatDoor
open Go.RowKit Go.Sort Go.Maps
theorem same_takeG {α : Type} {a b : List α} {k : Nat} {x y : α} (ha : k < a.length) (hb : k < b.length) (hx : x = a[k]) (hy : y = b[k]) (h : a.take k = b.take k) : (a.take (k + 1) = b.take (k + 1)) ↔ x = y := by
  rw [List.take_succ_eq_append_getElem ha, List.take_succ_eq_append_getElem hb, h, ← hx, ← hy]
  simp
theorem eq_bytes (x y : ByteArray) : (x.toList == y.toList) = decide (x = y) := by
  rw [Lib.toList_data, Lib.toList_data]
  by_cases h : x = y
  · subst h; simp
  · have : (x.data.toList == y.data.toList) = false := by
      rw [beq_eq_false_iff_ne]
      exact fun e => h (by cases x; cases y; simpa using e)
    rw [this]; simp [h]
theorem str_bytes {s t : Str} : ((⟨s.toArray⟩ : ByteArray) = ⟨t.toArray⟩) ↔ s = t := by
  constructor
  · intro h; exact congrArg (fun b : ByteArray => b.data.toList) h
  · rintro rfl; rfl
set_option maxRecDepth 100000 in
set_option maxHeartbeats 1000000 in
/-- eskerref07.Same. -/
theorem sameL_walk (va vb : Value) (a b : Lbs) (W : World) (hRa : RdL W W.heap.size va a) (hRb : RdL W W.heap.size vb b) (hla : a.length ≤ 1000000) :
    Calls Tryz.prog 43 #[va, vb] W fun e w' => e = .returned (.bool (decide (a = b))) ∧ Ext W w' := by
  obtain ⟨A, ca, rfl, hca, hA⟩ := hRa
  obtain ⟨B, cb, rfl, hcb, hB⟩ := hRb
  have HA := Lib.hid hA
  have HB := Lib.hid hB
  obtain ⟨q, hq⟩ : ∃ q, q = decide (a = b) := ⟨_, rfl⟩
  have HQ : Hid (q = decide (a = b)) := hq
  rw [← hq]
  clear hq hA hB hca hcb
  obtain ⟨n, hn⟩ : ∃ n, n = a.length := ⟨_, rfl⟩
  obtain ⟨m, hm⟩ : ∃ m, m = b.length := ⟨_, rfl⟩
  rw [← hn] at hla ⊢
  rw [← hm]
  have HN : Hid (n = a.length) := hn
  have HM : Hid (m = b.length) := hm
  clear hn hm
  by_cases hnm : n = m
  · have g0 : (((n : Int)) != (m : Int)) = false := by simp; omega
    go_enter Tryz.func43, Tryz.ntmps43
    go_wp2_with fail
    go_loopw [5] (fun i wl => ∃ k : Nat, k ≤ n ∧ i = .int .i64 k ∧ Hid (a.take k = b.take k) ∧ Hid (Ext W wl))
      (fun i _ => n - (intOf i).toNat)
    case atStart => exact ⟨0, Nat.zero_le _, rfl, rfl, Ext.refl _⟩
    case round =>
      obtain ⟨k, hk, rfl, HT, HE⟩ := hrel
      by_cases hlt : k < n
      · have hla2 : k < a.length := by rw [← HN.out]; exact hlt
        have hlb2 : k < b.length := by rw [← HM.out, ← hnm]; exact hlt
        rcases HA.out with h0 | ⟨b1, o1, e, hb1, hcl1⟩
        · subst h0; simp at hla2
        rcases HB.out with h0 | ⟨b2, o2, e', hb2, hcl2⟩
        · subst h0; simp at hlb2
        subst e e'
        obtain ⟨x, hx⟩ : ∃ x, x = a[k] := ⟨_, rfl⟩
        obtain ⟨y, hy⟩ : ∃ y, y = b[k] := ⟨_, rfl⟩
        have HF : Hid ((a.take (k + 1) = b.take (k + 1)) ↔ x = y) := same_takeG hla2 hlb2 hx hy HT.out
        obtain ⟨c0, c1⟩ : Cell2 wr b1 (o1 + k * 2) x := by rw [hx]; exact (hcl1 k hla2).below HE.out.below hb1
        obtain ⟨d0, d1⟩ : Cell2 wr b2 (o2 + k * 2) y := by rw [hy]; exact (hcl2 k hlb2).below HE.out.below hb2
        obtain ⟨x1, hx1⟩ : ∃ z : ByteArray, z = ⟨x.1.toArray⟩ := ⟨_, rfl⟩
        obtain ⟨x2, hx2⟩ : ∃ z : ByteArray, z = ⟨x.2.toArray⟩ := ⟨_, rfl⟩
        obtain ⟨y1, hy1⟩ : ∃ z : ByteArray, z = ⟨y.1.toArray⟩ := ⟨_, rfl⟩
        obtain ⟨y2, hy2⟩ : ∃ z : ByteArray, z = ⟨y.2.toArray⟩ := ⟨_, rfl⟩
        obtain ⟨p, hp⟩ : ∃ p, p = decide (x1 = y1 ∧ x2 = y2) := ⟨_, rfl⟩
        have HP : Hid ((p = true) ↔ x = y) := by
          show (p = true) ↔ x = y
          rw [hp, decide_eq_true_iff, hx1, hx2, hy1, hy2, str_bytes, str_bytes, Prod.ext_iff]
        have hne : ∀ w, (binOp .neq 59 (.agg #[.string x1, .string x2]) (.agg #[.string y1, .string y2])).run Tryz.prog w = .ok (.bool (!p)) w := fun w => hp ▸ neq_Lb x1 x2 y1 y2 w
        have hgd : ∀ op x' y' w, (eqGuard op 59 x' y' (.agg #[.string x1, .string x2]) (.agg #[.string y1, .string y2])).run Tryz.prog w = .ok () w := fun op x' y' w => guard_Lb op x' y' x1 x2 y1 y2 w
        unfold vT at c0 c1 d0 d1
        rw [← hx1] at c0
        rw [← hx2] at c1
        rw [← hy1] at d0
        rw [← hy2] at d1
        clear hp hx hy hcl1 hcl2 hx1 hx2 hy1 hy2
        have hkm : k < m := by omega
        have i1 : (k : Int) < (n : Int) := by omega
        have i2 : (k : Int) < (m : Int) := by omega
        cases p with
        | true =>
          have hT2 : Hid (a.take (k + 1) = b.take (k + 1)) := HF.out.2 (HP.out.1 rfl)
          clear HF HP
          go_wp2_with fail
          go_quiet (fail)
          clear c0 d0 hne
          go_wp2_with fail
          go_roundw
          case rel => exact ⟨k + 1, by omega, by go_num, hT2, HE.out.drewN nq⟩
          case measure => simp [intOf]; omega
        | false =>
          have hab : a ≠ b := fun e => by have := HP.out.2 (HF.out.1 (by rw [e])); cases this
          have hqf : Hid (q = false) := HQ.out.trans (decide_eq_false hab)
          clear HF HP hab
          go_wp2_with fail
          go_quiet (fail)
          clear c0 d0 hne
          go_wp2_with fail
          go_ret
          exact ⟨ret_bool hqf.out.symm, HE.out.drewN nq⟩
      · have hkn : k = n := by omega
        have hab : a = b := by
          have := HT.out
          rwa [hkn, HN.out, List.take_length, ← HN.out, hnm, HM.out, List.take_length] at this
        have hqt : Hid (q = true) := HQ.out.trans (decide_eq_true hab)
        clear hab hkn
        go_wp2_with fail
        go_ret
        exact ⟨ret_bool hqt.out.symm, HE.out⟩
  · have g0 : (((n : Int)) != (m : Int)) = true := by simp; omega
    have hab : a ≠ b := fun e => hnm (by rw [HN.out, HM.out, e])
    have hqf : Hid (q = false) := HQ.out.trans (decide_eq_false hab)
    go_enter Tryz.func43, Tryz.ntmps43
    go_wp2_with fail
    go_ret
    exact ⟨ret_bool hqf.out.symm, Ext.refl _⟩
/-- Few series, of few labels and samples. -/
def FewX (l : List Ser) : Prop := l.length ≤ 1000000 ∧ ∀ x ∈ l, x.1.length ≤ 1000000 ∧ x.2.length ≤ 1000000
set_option maxRecDepth 100000 in
set_option maxHeartbeats 2000000 in
/-- eskerref20.Same. -/
theorem sameX_walk (va vb : Value) (a b : List Ser) (W : World) (hRa : RdX W W.heap.size va a) (hRb : RdX W W.heap.size vb b) (hla : FewX a) :
    Calls Tryz.prog 15 #[va, vb] W fun e w' => e = .returned (.bool (decide (a = b))) ∧ Ext W w' := by
  obtain ⟨A, ca, rfl, hca, hA⟩ := hRa
  obtain ⟨B, cb, rfl, hcb, hB⟩ := hRb
  have HA := Lib.hid hA
  have HB := Lib.hid hB
  have HL := Lib.hid hla
  obtain ⟨q, hq⟩ : ∃ q, q = decide (a = b) := ⟨_, rfl⟩
  have HQ : Hid (q = decide (a = b)) := hq
  rw [← hq]
  have hla1 := hla.1
  clear hq hA hB hca hcb hla
  obtain ⟨n, hn⟩ : ∃ n, n = a.length := ⟨_, rfl⟩
  obtain ⟨m, hm⟩ : ∃ m, m = b.length := ⟨_, rfl⟩
  rw [← hn] at hla1 ⊢
  rw [← hm]
  have HN : Hid (n = a.length) := hn
  have HM : Hid (m = b.length) := hm
  clear hn hm
  by_cases hnm : n = m
  · subst hnm
    have g0 : (((n : Int)) != (n : Int)) = false := by simp
    go_enter Tryz.func15, Tryz.ntmps15
    go_wp2_with fail
    go_loopw [5, 6, 7] (fun i _ _ wl => ∃ k : Nat, k ≤ n ∧ i = .int .i64 k ∧ Hid (a.take k = b.take k) ∧ Hid (Ext W wl))
      (fun i _ _ _ => n - (intOf i).toNat)
    case atStart => exact ⟨0, Nat.zero_le _, rfl, rfl, Ext.refl _⟩
    case round =>
      obtain ⟨k, hk, rfl, HT, HE⟩ := hrel
      by_cases hlt : k < n
      · have hla2 : k < a.length := by rw [← HN.out]; exact hlt
        have hlb2 : k < b.length := by rw [← HM.out]; exact hlt
        rcases HA.out with h0 | ⟨b1, o1, e, hb1, hcl1⟩
        · subst h0; simp at hla2
        rcases HB.out with h0 | ⟨b2, o2, e', hb2, hcl2⟩
        · subst h0; simp at hlb2
        subst e e'
        obtain ⟨x, hx⟩ : ∃ x, x = a[k] := ⟨_, rfl⟩
        obtain ⟨y, hy⟩ : ∃ y, y = b[k] := ⟨_, rfl⟩
        obtain ⟨lx, sx, c0, c1, hlx, _, hsx, _⟩ : SerAt wr W.heap.size b1 (o1 + k * 2) x := by rw [hx]; exact (hcl1 k hla2).below HE.out.below hb1
        obtain ⟨ly, sy, d0, d1, hly, _, hsy, _⟩ : SerAt wr W.heap.size b2 (o2 + k * 2) y := by rw [hy]; exact (hcl2 k hlb2).below HE.out.below hb2
        have HF : Hid ((a.take (k + 1) = b.take (k + 1)) ↔ x = y) := same_takeG hla2 hlb2 hx hy HT.out
        have hxl := HL.out.2 x (by rw [hx]; exact List.getElem_mem hla2)
        obtain ⟨p, hp⟩ : ∃ p, p = decide (x.2 = y.2) := ⟨_, rfl⟩
        obtain ⟨r, hr⟩ : ∃ r, r = decide (x.1 = y.1) := ⟨_, rfl⟩
        have KS : Hid (∀ w', Ext wr w' → Calls Tryz.prog 44 #[sx, sy] w' fun e w'' => e = .returned (.bool p) ∧ Ext w' w'') := fun w' h => by
          rw [hp]
          have hsz := HE.out.size
          have hsz' := h.size
          exact same_walk sx sy x.2 y.2 w' ((hsx.mono hsz).below h.below |>.mono hsz') ((hsy.mono hsz).below h.below |>.mono hsz') (by have := hxl.2; omega)
        have KL : Hid (∀ w', Ext wr w' → Calls Tryz.prog 43 #[lx, ly] w' fun e w'' => e = .returned (.bool r) ∧ Ext w' w'') := fun w' h => by
          rw [hr]
          have hsz := HE.out.size
          have hsz' := h.size
          exact sameL_walk lx ly x.1 y.1 w' ((hlx.mono hsz).below h.below |>.mono hsz') ((hly.mono hsz).below h.below |>.mono hsz') hxl.1
        have HP : Hid ((p = true ∧ r = true) ↔ x = y) := by
          show (p = true ∧ r = true) ↔ x = y
          rw [hp, hr, decide_eq_true_iff, decide_eq_true_iff, Prod.ext_iff, and_comm]
        have KC : Hid (∀ w', Ext wr w' → w'.cell? ⟨b1, o1 + k * 2 + 1, none⟩ = some sx ∧ w'.cell? ⟨b2, o2 + k * 2 + 1, none⟩ = some sy ∧ w'.cell? ⟨b1, o1 + k * 2, none⟩ = some lx ∧ w'.cell? ⟨b2, o2 + k * 2, none⟩ = some ly) := fun w' h => ⟨h.cell_some c1, h.cell_some d1, h.cell_some c0, h.cell_some d0⟩
        have hE0 := Ext.refl wr
        clear hp hr hx hy hcl1 hcl2 hsx hsy hxl hlx hly
        have i1 : (k : Int) < (n : Int) := by omega
        go_wp2_with fail
        go_region_held3 (fun w' => w'.cell? ⟨b1, o1 + k * 2 + 1, none⟩ = some sx ∧ w'.cell? ⟨b2, o2 + k * 2 + 1, none⟩ = some sy ∧ w'.cell? ⟨b1, o1 + k * 2, none⟩ = some lx ∧ w'.cell? ⟨b2, o2 + k * 2, none⟩ = some ly ∧ Ext wr w')
          (first | assumption | (have hd := Ext.drew (by assumption : Ext wr _); exact ⟨(KC.out _ hd).1, (KC.out _ hd).2.1, (KC.out _ hd).2.2.1, (KC.out _ hd).2.2.2, hd⟩) | exact ⟨by assumption, by assumption, by assumption, by assumption, by assumption⟩)
          (first | (go_at_call 43; refine (KL.out _ (by first | assumption | exact Ext.drew (by assumption))).mono ?_; rintro e w' ⟨rfl, hN⟩; have hN := Ext.trans (by first | assumption | exact Ext.drew (by assumption)) hN; obtain ⟨c1', d1', c0', d0'⟩ := KC.out _ hN))
        clear hE0 c0 c1 d0 d1
        clear KL
        go_wp2_with fail
        go_region_held3 (fun w' => w'.cell? ⟨b1, o1 + k * 2 + 1, none⟩ = some sx ∧ w'.cell? ⟨b2, o2 + k * 2 + 1, none⟩ = some sy ∧ w'.cell? ⟨b1, o1 + k * 2, none⟩ = some lx ∧ w'.cell? ⟨b2, o2 + k * 2, none⟩ = some ly ∧ Ext wr w')
          (first | assumption | (have hd := Ext.drew (by assumption : Ext wr _); exact ⟨(KC.out _ hd).1, (KC.out _ hd).2.1, (KC.out _ hd).2.2.1, (KC.out _ hd).2.2.2, hd⟩) | exact ⟨by assumption, by assumption, by assumption, by assumption, by assumption⟩)
          (first | (go_at_call 44; refine (KS.out _ (by first | assumption | exact Ext.drew (by assumption))).mono ?_; rintro e w2' ⟨rfl, hM⟩; have hM := Ext.trans (by first | assumption | exact Ext.drew (by assumption)) hM; obtain ⟨c1'', d1'', c0'', d0''⟩ := KC.out _ hM))
        have HE3 : Hid (Ext W _) := HE.out.trans hM
        clear hN hM KC KS
        by_cases hpr : p = true ∧ r = true
        · obtain ⟨rfl, rfl⟩ := hpr
          have hT2 : Hid (a.take (k + 1) = b.take (k + 1)) := HF.out.2 (HP.out.1 ⟨rfl, rfl⟩)
          clear HF HP
          go_wp2_with fail
          go_roundw
          case rel => first | exact ⟨k + 1, by omega, by go_num, hT2, HE3.out⟩ | ((repeat apply Exists.intro); exact ⟨⟨k + 1, by omega, by go_num, hT2, HE3.out⟩, rfl⟩)
          case measure => simp [intOf]; omega
        · have hab : a ≠ b := fun e => hpr (HP.out.2 (HF.out.1 (by rw [e])))
          have hqf : Hid (q = false) := HQ.out.trans (decide_eq_false hab)
          clear HF HP hab
          cases r <;> cases p <;> first | exact absurd ⟨rfl, rfl⟩ hpr | (go_wp2_with fail; go_ret; exact ⟨ret_bool hqf.out.symm, HE3.out⟩)
      · have hkn : k = n := by omega
        have hab : a = b := by
          have := HT.out
          rwa [hkn, HN.out, List.take_length, ← HN.out, HM.out, List.take_length] at this
        have hqt : Hid (q = true) := HQ.out.trans (decide_eq_true hab)
        clear hab hkn
        go_wp2_with fail
        go_ret
        exact ⟨ret_bool hqt.out.symm, HE.out⟩
  · have g0 : (((n : Int)) != (m : Int)) = true := by simp; omega
    have hab : a ≠ b := fun e => hnm (by rw [HN.out, HM.out, e])
    have hqf : Hid (q = false) := HQ.out.trans (decide_eq_false hab)
    go_enter Tryz.func15, Tryz.ntmps15
    go_wp2_with fail
    go_ret
    exact ⟨ret_bool hqf.out.symm, Ext.refl _⟩
end Go.Proofs.YtkgcbeokfilehaaGreatDoor
