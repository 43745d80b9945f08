/-
  oracle.Clone.
-/
import Derived.Test.YtkgcbeokfilehaaGreatDoorWck
import Derived.Test.YtkgcbeokfilehaaGreatDoorVlk
namespace Go.Proofs.YtkgcbeokfilehaaGreatDoor
open Go.RowKit Go.Sort Go.Shelf Go.Maps
attribute [local go_sem ↓] Go.wp_at_zero Go.wp_at_succ
theorem key_str {v : Value} {c : Lbs} (h : keyOf Tryz.prog 9 v = some (kyL c)) : ∃ ks : ByteArray, v = .string ks := by
  obtain ⟨s, hs, _⟩ := WideMaps.string_of_keyOf Tryz.underlying9 h
  exact ⟨s, hs⟩
/-- What has been copied. -/
def doneR (R : Told) (left : Lit → Bool) (c : Lbs) : Bool := hasR R c && !left (kyL c)
set_option maxRecDepth 100000 in
set_option maxHeartbeats 8000000 in
/-- oracle.Clone. -/
theorem clone_walkO {W : World} {S : Nat → Prop} {B o b : Nat} {every keep now : Int} {X : Sers} {R : Told} (h : Orc W S B o b every keep now X R) (hRl : R.length ≤ 60000) (hfl : FewL R) :
    Calls Tryz.prog 30 #[.pointer (some ⟨o, 0, none⟩)] W fun e w' =>
      ∃ (o' b' : Nat) (S' : Nat → Prop) (X' : Sers), e = .returned (.pointer (some ⟨o', 0, none⟩)) ∧ Orc w' S' W.heap.size o' b' every keep now X' R ∧ S' b' ∧ Below W.heap.size W w' := by
  obtain ⟨n0, D0, hn0, hom⟩ := h.om
  have HOM := Lib.hid hom
  have hcells := h.cells
  have hob : o < W.heap.size := (h.lt h.so).2
  have hbd := h.bd
  have hkk : keepN keep = keep := by unfold keepN; omega
  have KN0 : Hid (∀ w', Calls Tryz.prog 11 #[.int .i64 every, .int .i64 keep] w' fun e w'' => e = .returned (.pointer (some ⟨w'.heap.size + 1, 0, none⟩)) ∧
      Orc w'' (fun k => k = w'.heap.size ∨ k = w'.heap.size + 1) w'.heap.size (w'.heap.size + 1) w'.heap.size every keep 0 noX [] ∧ Ext w' w'') := fun w' => by
    have := new_walk every keep w'
    rw [hkk] at this
    exact this
  have HC : Hid (∀ w', Below W.heap.size W w' → w'.cell? ⟨o, 0, none⟩ = some (.int .i64 every) ∧ w'.cell? ⟨o, 1, none⟩ = some (.int .i64 keep) ∧ w'.cell? ⟨o, 2, none⟩ = some (.int .i64 now) ∧ w'.cell? ⟨o, 3, none⟩ = some (.map (some b))) := fun w' hb =>
    ⟨(hb.cell hob).trans hcells.1, (hb.cell hob).trans hcells.2.1, (hb.cell hob).trans hcells.2.2.1, (hb.cell hob).trans hcells.2.2.2⟩
  have HRL := Lib.hid hRl
  have HFL := Lib.hid hfl
  have HBD := Lib.hid hbd
  have hb0 : Below W.heap.size W W.drew := (Below.refl _ _).drew
  obtain ⟨c0, c1, c2, c3⟩ := HC.out _ hb0
  have HCW : Hid (∀ w', Below W.heap.size W w' → w'.cell? ⟨o, 0, none⟩ = some (.int .i64 every) ∧ w'.cell? ⟨o, 1, none⟩ = some (.int .i64 keep)) := fun w' hb => ⟨(HC.out w' hb).1, (HC.out w' hb).2.1⟩
  clear h hn0 hom hcells hob hbd hkk hRl hfl
  go_enter Tryz.func30, Tryz.ntmps30
  go_wp2_with fail
  go_region_held3 (fun w' => w'.cell? ⟨o, 0, none⟩ = some (.int .i64 every) ∧ w'.cell? ⟨o, 1, none⟩ = some (.int .i64 keep) ∧ Below W.heap.size W w')
    (first | assumption | exact ⟨c0, c1, hb0⟩ | exact ⟨(HCW.out _ (by assumption)).1, (HCW.out _ (by assumption)).2, (by assumption)⟩)
    (first | (go_at_call 11; refine (KN0.out _).mono ?_; rintro e w1 ⟨rfl, hO1, hE1⟩; have hB1 := hb0.trans (hE1.below.mono hb0.size)))
  clear c0 c1 c2 c3 hb0 HCW
  obtain ⟨o', ho'⟩ : ∃ o', o' = W.heap.size + 1 := ⟨_, rfl⟩
  obtain ⟨b', hb'⟩ : ∃ b', b' = W.heap.size := ⟨_, rfl⟩
  have HO1 : Hid (Orc w1 (fun k => k = b' ∨ k = o') W.heap.size o' b' every keep 0 noX []) := by show Orc _ _ _ _ _ _ _ _ _ _; rw [ho', hb']; exact hO1
  have HB1 : Hid (Below W.heap.size W w1) := by assumption
  have hpt : (Value.pointer (some ⟨W.heap.size + 1, 0, none⟩)) = .pointer (some ⟨o', 0, none⟩) := by rw [ho']
  have hdr : W.drew.heap.size = W.heap.size := rfl
  have c2 := (HC.out w1 HB1.out).2.2.1
  have c3 := (HC.out w1 HB1.out).2.2.2
  have k2 := HO1.out.cells.2.2.1
  have f2 := HO1.out.free 2
  have HLo : Hid (W.heap.size ≤ o' ∧ W.heap.size ≤ b' ∧ o' ≠ b') := by show _ ∧ _ ∧ _; omega
  rw [hpt]
  clear hO1 hE1 hB1 hpt ho' hb' hdr
  obtain ⟨w2, hw2⟩ : ∃ w2, w2 = w1.setCell ⟨o', 2, none⟩ (.int .i64 now) := ⟨_, rfl⟩
  have HO2 : Hid (Orc w2 (fun k => k = b' ∨ k = o') W.heap.size o' b' every keep now noX []) := by show Orc _ _ _ _ _ _ _ _ _ _; rw [hw2]; exact HO1.out.clock now HBD.out.2.2
  have HB2 : Hid (Below W.heap.size W w2) := by show Below _ _ _; rw [hw2]; exact HB1.out.setCell (p := ⟨o', 2, none⟩) HLo.out.1 _
  have c3' := (HC.out w2 HB2.out).2.2.2
  have HW2 := Lib.hid hw2
  have HM2 : Hid (w2.ownsMap Tryz.prog 9 ptE b n0 D0) := (HOM.out.kept (Chg.of_below HB2.out) (fun _ _ e => e)).map
  clear hw2
  go_wp2_with (first | (at_range; rw [← HW2.out]; refine wpList_range_own _ rfl _ 79 rfl 9 87 key_law Tryz.underlying79 ptE b n0 D0 rfl HM2.out ?_; intro w3 hrg0 hg0 hs0) | fail)
  try go_frame
  obtain ⟨r, hr⟩ : ∃ r, r = w2.heap.size := ⟨_, rfl⟩
  rw [← hr] at hrg0
  have HRG0 := Lib.hid hrg0
  have HB3 : Hid (Below W.heap.size W w3) := HB2.out.trans (show Below W.heap.size w2 w3 from ⟨hg0.os, hg0.tape, hg0.output, hg0.size, fun i hi => hg0.block i (Nat.lt_of_lt_of_le hi HB2.out.size) (by simp)⟩)
  have HR : Hid (W.heap.size ≤ r) := by show _ ≤ _; rw [hr]; exact HB2.out.size
  have HO3 : Hid (Orc w3 (fun k => k = b' ∨ k = o') W.heap.size o' b' every keep now noX []) := HO2.out.kept (T := fun _ => False) ⟨hg0.os, hg0.tape, hg0.output, hg0.size, fun i hi _ => hg0.block i hi (by simp)⟩ (fun _ _ e => e)
  have HRO : Hid (r ≠ o' ∧ r ≠ b') := by
    have h1 := (HO2.out.lt (k := o') (.inr rfl)).2
    have h2 := (HO2.out.lt (k := b') (.inl rfl)).2
    show _ ∧ _
    omega
  rw [← hr]
  clear hrg0 hg0 hs0 c3' c2 c3 k2 f2 hr HW2
  go_loopw [29] (fun _ wl => ∃ (left : Lit → Bool) (cnt : Nat) (ls : List Lbs) (n' : Nat) (D' : DataW Unit) (S' : Nat → Prop) (X' : Sers), Hid (wl.ranges Tryz.prog 9 ptE b r n0 D0 left cnt) ∧ Hid (Done D0 (hasR R) left ls) ∧ Hid (n' ≤ ls.length) ∧
      Hid (OM wl S' W.heap.size b' n' D' X' (doneR R left) (smpOf R)) ∧ Hid (wl.heap[o']? = some (.cells #[.int .i64 every, .int .i64 keep, .int .i64 now, .map (some b')] 81 (0, 0))) ∧ Hid (S' o' ∧ ¬ S' r) ∧ Hid (Below W.heap.size W wl))
    (fun _ wl => wl.rangeLeft b r)
  case atStart =>
    obtain ⟨n1, D1, hn1, hom1⟩ := HO3.out.om
    refine ⟨_, _, [], n1, D1, (fun k => k = b' ∨ k = o'), noX, HRG0.out, Done.start HOM.out, hn1, ?_, HO3.out.cell, ⟨.inr rfl, fun e => by rcases e with e | e; exact HRO.out.2 e; exact HRO.out.1 e⟩, HB3.out⟩
    have e1 : doneR R (Maps.has D0) = hasR [] := by
      funext x
      unfold doneR
      rw [HOM.out.has x]
      cases hasR R x <;> rfl
    exact (hom1.hasCongr e1).congr (fun c hc => by rw [e1] at hc; cases hc)
  case round =>
    obtain ⟨left, cnt, ls, n', D', S', X', HRG, HDO, HN', HOM', HCO, HSO, HBL⟩ := hrel
    have hrg := HRG.out
    go_wp2_with (first
      | (at_next; refine wpList_next_ranges _ rfl _ rfl 9 key_law ptE id id (fun key _ _ => ⟨key, rfl⟩) (fun v _ _ => ⟨v, rfl⟩) b r n0 D0 left cnt rfl hrg ?_ ?_)
      | fail)
    · intro _ hl0
      have e1 : doneR R left = hasR R := by
        funext x
        unfold doneR
        rw [hl0]; simp
      have hn9 : n' ≤ R.length := Nat.le_trans HN'.out (Nat.le_trans (len_sub HDO.out.nodup (fun c hc => mem_labs.2 ((HDO.out.iff c).1 hc).1)) (labs_length R))
      have HF : Hid (Orc wr S' W.heap.size o' b' every keep now X' R) := ⟨HCO.out, HSO.out.1, HBD.out, n', D', hn9, by rw [← e1]; exact HOM'.out⟩
      clear hl0 hrg e1 hn9
      go_wp2_with fail
      go_ret
      exact ⟨o', b', S', X', rfl, HF.out, HOM'.out.sb, HBL.out⟩
    · intro x cv kl yd yp w4 cnt4 hkey hlx hv hat hrg4 hlt hg4 hs4 hen
      obtain ⟨cc, hcc, hkl, hcv⟩ := HOM.out.met hv hat
      have hcv : cv = .pointer (some ⟨X.G cc, 0, none⟩) := hcv
      subst hkl
      subst hcv
      have hkey : keyOf Tryz.prog 9 x = some (kyL cc) := hkey
      obtain ⟨ks, hks⟩ := key_str hkey
      replace hen : (Instr.entry (.pointer (some ⟨r, 0, none⟩))).run Tryz.prog w4 = .ok (.tuple #[x, .pointer (some ⟨X.G cc, 0, none⟩)]) w4 := hen
      subst hks
      have HST := Lib.hid (HDO.out.step hcc hlx)
      have hB4 : Below W.heap.size W w4 := HBL.out.grown hg4 HBL.out.size (fun j e => by injection e with e; rw [← e]; exact HR.out)
      have HB4 := Lib.hid hB4
      have HRG4 := Lib.hid hrg4
      have HLT := Lib.hid hlt
      have hChg4 : Chg (fun k => k = r) wr w4 := (Chg.of_grown hg4).mono (fun j _ e => by injection e with e; exact e.symm)
      have HOM4 : Hid (OM w4 S' W.heap.size b' n' D' X' (doneR R left) (smpOf R)) := HOM'.out.kept hChg4 (fun j hj e => HSO.out.2 (e ▸ hj))
      have HCO4 : Hid (w4.heap[o']? = some (.cells #[.int .i64 every, .int .i64 keep, .int .i64 now, .map (some b')] 81 (0, 0))) :=
        (hg4.block o' (Array.getElem?_eq_some_iff.1 HCO.out).1 (fun e => HRO.out.1 (by injection e with e; exact e.symm))).trans HCO.out
      have hcl : cc.length ≤ 1000 := HFL.out.at_ hcc
      obtain ⟨s0, s1, s2, s3, s4, s5, s6⟩ := Orc.ser HOM.out hcc
      obtain ⟨G, hG⟩ : ∃ G, G = X.G cc := ⟨_, rfl⟩
      obtain ⟨LV, hLV⟩ : ∃ LV, LV = X.LV cc := ⟨_, rfl⟩
      obtain ⟨SV, hSV⟩ : ∃ SV, SV = X.SV cc := ⟨_, rfl⟩
      rw [← hG, ← hLV] at s0
      rw [← hG, ← hSV] at s1
      rw [← hLV] at s2 s3
      rw [← hSV] at s4 s5
      rw [← hG] at s6 hen ⊢
      have ho4 : o' < w4.heap.size := (Array.getElem?_eq_some_iff.1 HCO4.out).1
      have HS : Hid (∀ w', Below w4.heap.size w4 w' → w'.cell? ⟨G, 0, none⟩ = some LV ∧ w'.cell? ⟨G, 1, none⟩ = some SV ∧ w'.cell? ⟨o', 3, none⟩ = some (.map (some b'))) := fun w' hb => by
        have h9 := hB4.trans (hb.mono hB4.size)
        refine ⟨(h9.cell s6).trans s0, (h9.cell s6).trans s1, (hb.cell ho4).trans ?_⟩
        simp [World.cell?, HCO4.out]
      have KL : Hid (∀ w', Below w4.heap.size w4 w' → Calls Tryz.prog 39 #[LV] w' fun e w'' => ∃ r, e = .returned r ∧ OwnL w'' w4.heap.size r cc ∧ Below w4.heap.size w4 w'') := fun w' hb => by
        have h9 := hB4.trans (hb.mono hB4.size)
        refine (cloneL_walk LV cc w' ((s2.below h9).mono h9.size) s3 (by omega)).mono ?_
        rintro e w'' ⟨r1, he, ho, hb2⟩
        exact ⟨r1, he, ho.lower hb.size, hb.trans (hb2.mono hb.size)⟩
      have KS : Hid (∀ w', Below w4.heap.size w4 w' → Calls Tryz.prog 59 #[SV] w' fun e w'' => ∃ r, e = .returned r ∧ Own w'' w'.heap.size 54 r (smpOf R cc) ∧ Below w'.heap.size w' w'') := fun w' hb => by
        have h9 := hB4.trans (hb.mono hB4.size)
        exact clone_walk SV (smpOf R cc) w' ((s4.below h9).mono h9.size) s5 (by have := smpOf_length R cc; have := HRL.out; omega)
      have hHf : doneR R left cc = false := by unfold doneR; rw [hlx]; simp
      have hHn : doneR R (fun z => left z && !z.sameKey (kyL cc)) = fun x => decide (x = cc) || doneR R left x := by
        funext z
        unfold doneR
        dsimp only
        by_cases e : z = cc
        · subst e
          rw [WideAt.sameKey_self (kyL_key z), hcc]; simp
        · rw [sameKey_ne (fun e2 => e (kyL_inj e2))]
          simp [e]
      have hls : ls.length ≤ R.length := Nat.le_trans (len_sub HDO.out.nodup (fun c hc => mem_labs.2 ((HDO.out.iff c).1 hc).1)) (labs_length R)
      have HPUT : Hid (∀ w6 lv sv, Below w4.heap.size w4 w6 → OwnL w6 w4.heap.size lv cc → Own w6 w4.heap.size 54 sv (smpOf R cc) →
          ∃ w7 S7 X7, (Instr.mapUpdate 79 (.map (some b')) (.string ks) (.pointer (some ⟨w6.heap.size, 0, none⟩))).run Tryz.prog (w6.alloc (.cells #[lv, sv] 90)) = .ok () w7 ∧
            OM w7 S7 W.heap.size b' (n' + 1) (D'.put (kyL cc) (.lit (.int .i64 w6.heap.size))) X7 (doneR R (fun z => left z && !z.sameKey (kyL cc))) (smpOf R) ∧ (S7 o' ∧ ¬ S7 r) ∧ (w6.alloc (.cells #[lv, sv] 90)).grownBy w7 (some b')) := fun w6 lv sv hb hl hs => by
        obtain ⟨wa, hwa⟩ : ∃ wa, wa = w6.alloc (.cells #[lv, sv] 90) := ⟨_, rfl⟩
        have hba : Below w6.heap.size w6 wa := by rw [hwa]; exact (Below.refl _ _).alloc (Nat.le_refl _) _
        have hbA : Below w4.heap.size w4 wa := hb.trans (hba.mono hb.size)
        have hOMa := HOM4.out.kept (Chg.of_below hbA) (fun _ _ e => e)
        rw [← hwa]
        obtain ⟨w7, hrun, hmap, hgr⟩ := hOMa.map.update key_law Tryz.underlying79 (by have := HN'.out; have := HRL.out; unfold maxLen; omega) hkey (val := .pointer (some ⟨w6.heap.size, 0, none⟩)) (ps := []) rfl
        have hWw : W.heap.size ≤ w4.heap.size := hB4.size
        have hP := hOMa.put (c := cc) (lv := lv) (sv := sv) (g := w6.heap.size) hHf (fun e => by have := (HOM4.out.lt _ e).2; have := hb.size; omega) (Nat.le_trans hWw hb.size) ((hs.below hba).lower hWw) (fun k hk e => by
            have h1 := (hs.blk hk).1
            have h2 := (HOM4.out.lt _ e).2
            omega) (by rw [hwa]; exact heap_alloc_new _ _) ((hl.below hba).lower hWw) hmap hgr
        refine ⟨w7, _, _, hrun, hP.hasCongr hHn, ⟨.inl HSO.out.1, ?_⟩, hgr⟩
        rintro (e | e | e | e)
        · exact HSO.out.2 e
        · have := HRG4.out.lt; have := hb.size; omega
        · have := (hl.blk e).1; have := HRG4.out.lt; omega
        · have := (hs.blk e).1; have := HRG4.out.lt; omega
      have HCL := Lib.hid hcl
      have hmr := hrg.left_eq
      have HMR := Lib.hid hmr
      have hb40 : Below w4.heap.size w4 w4.drew := (Below.refl _ _).drew
      obtain ⟨e1, e2, e3⟩ := HS.out _ hb40
      have HOL : Hid (o' < w4.heap.size ∧ G < w4.heap.size ∧ G ≠ b' ∧ o' ≠ b') := ⟨ho4, Nat.lt_of_lt_of_le s6 hB4.size, (by have := HLo.out.2.1; omega), HLo.out.2.2⟩
      clear hmr hcc hlx hkey hv hat hrg4 hlt hg4 hs4 s0 s1 s2 s3 s4 s5 s6 hG hLV hSV hB4 hcl hrg hHf hHn hls ho4 hChg4
      go_wp2_with fail
      go_region_held3 (fun w' => w'.cell? ⟨G, 0, none⟩ = some LV ∧ w'.cell? ⟨G, 1, none⟩ = some SV ∧ w'.cell? ⟨o', 3, none⟩ = some (.map (some b')))
        (first | assumption | exact ⟨e1, e2, e3⟩ | exact ⟨by assumption, by assumption, by assumption⟩ | exact HS.out _ (by assumption) | exact HS.out _ (Below.alloc (by assumption) (Below.size (by assumption)) _))
        (first
          | (go_at_call 39; refine (KL.out _ hb40).mono ?_; rintro e w5 ⟨lv5, rfl, ho5, hb5⟩;
              obtain ⟨A5, c5, hv5, _, _⟩ := ho5.rd; obtain ⟨m5, hm5⟩ : ∃ m5, m5 = cc.length := ⟨_, rfl⟩; rw [← hm5] at hv5; clear hm5; subst hv5)
          | (go_at_call 59; refine (KS.out _ hb5).mono ?_; rintro e w6 ⟨sv6, rfl, ho6, hb6⟩;
              obtain ⟨A6, c6, hv6, _, _⟩ := ho6.rd; obtain ⟨m6, hm6⟩ : ∃ m6, m6 = (smpOf R cc).length := ⟨_, rfl⟩; rw [← hm6] at hv6; clear hm6; subst hv6;
              have hb46 : Below w4.heap.size w4 w6 := hb5.trans (hb6.mono hb5.size);
              obtain ⟨w7, S7, X7, hup, hOM7, hS7, hgr7⟩ := HPUT.out w6 _ _ hb46 (ho5.below hb6) (ho6.lower hb5.size);
              have hb4a : Below w4.heap.size w4 (w6.alloc (.cells #[.slice A5 m5 c5, .slice A6 m6 c6] 90)) := hb46.alloc hb46.size _;
              have p1 : w7.cell? ⟨G, 0, none⟩ = some LV := (hgr7.cell_far _ (Nat.lt_of_lt_of_le HOL.out.2.1 hb4a.size) (fun e => HOL.out.2.2.1 (by injection e))).trans (HS.out _ hb4a).1;
              have p2 : w7.cell? ⟨G, 1, none⟩ = some SV := (hgr7.cell_far _ (Nat.lt_of_lt_of_le HOL.out.2.1 hb4a.size) (fun e => HOL.out.2.2.1 (by injection e))).trans (HS.out _ hb4a).2.1;
              have p3 : w7.cell? ⟨o', 3, none⟩ = some (.map (some b')) := (hgr7.cell_far _ (Nat.lt_of_lt_of_le HOL.out.1 hb4a.size) (fun e => HOL.out.2.2.2 (by injection e))).trans (HS.out _ hb4a).2.2;
              have HOM7 := Lib.hid hOM7; have HS7 := Lib.hid hS7; have HGR7 := Lib.hid hgr7; have HB4A := Lib.hid hb4a))
      have hbW : Below W.heap.size W (w6.alloc (.cells #[.slice A5 m5 c5, .slice A6 m6 c6] 90)) := HB4.out.trans (HB4A.out.mono HB4.out.size)
      have HB7 : Hid (Below W.heap.size W w7) := hbW.grown HGR7.out hbW.size (fun j e => by injection e with e; rw [← e]; exact HLo.out.2.1)
      have HR4a : Hid ((w6.alloc (.cells #[.slice A5 m5 c5, .slice A6 m6 c6] 90)).ranges Tryz.prog 9 ptE b r n0 D0 (fun z => left z && !z.sameKey (kyL cc)) cnt4) := HRG4.out.kept (grown_of_below HB4A.out none) (by simp) (by simp)
      have HRG7 : Hid (w7.ranges Tryz.prog 9 ptE b r n0 D0 (fun z => left z && !z.sameKey (kyL cc)) cnt4) := HR4a.out.kept HGR7.out (fun e => by
        injection e with e
        have h1 := (HOM.out.lt b HOM.out.sb).2
        have h2 := HLo.out.2.1
        omega) (fun e => HRO.out.2 (by injection e))
      have HCO7 : Hid (w7.heap[o']? = some (.cells #[.int .i64 every, .int .i64 keep, .int .i64 now, .map (some b')] 81 (0, 0))) :=
        (HGR7.out.block o' (Nat.lt_of_lt_of_le HOL.out.1 HB4A.out.size) (fun e => HOL.out.2.2.2 (by injection e))).trans ((HB4A.out.block o' HOL.out.1).trans HCO4.out)
      have HN7 : Hid (n' + 1 ≤ (ls ++ [cc]).length) := by show _ ≤ _; rw [List.length_append, List.length_singleton]; have := HN'.out; omega
      clear e1 e2 e3 hb40 hb5 ho5 hb6 ho6 hb46 hup hOM7 hS7 hgr7 hb4a p1 p2 p3 hbW hen
      go_wp2_with fail
      go_roundw
      case rel => exact ⟨_, _, _, _, _, _, _, HRG7.out, HST.out, HN7.out, HOM7.out, HCO7.out, HS7.out, HB7.out⟩
      case measure => rw [HRG7.out.left_eq, HMR.out]; exact HLT.out
end Go.Proofs.YtkgcbeokfilehaaGreatDoor
