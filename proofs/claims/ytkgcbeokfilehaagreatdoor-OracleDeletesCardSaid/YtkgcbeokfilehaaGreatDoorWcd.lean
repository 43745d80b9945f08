/-
  oracle.Search: the walk.
-/
import Derived.Test.YtkgcbeokfilehaaGreatDoorWad
import Derived.Test.YtkgcbeokfilehaaGreatDoorVpd
import Derived.Maps.OwnSet
namespace Go.Proofs.YtkgcbeokfilehaaGreatDoor
open Go.RowKit Go.Sort Go.Shelf Go.Maps
theorem Orc.ser {w : World} {S : Nat → Prop} {B b n : Nat} {D : DataW Unit} {X : Sers} {R : Told} (h3 : OM w S B b n D X (hasR R) (smpOf R)) {c : Lbs} (hc : hasR R c = true) :
    w.cell? ⟨X.G c, 0, none⟩ = some (X.LV c) ∧ w.cell? ⟨X.G c, 1, none⟩ = some (X.SV c) ∧ RdL w w.heap.size (X.LV c) c ∧ Nz (X.LV c) ∧ Rd w w.heap.size (X.SV c) (smpOf R c) ∧ Nz (X.SV c) ∧ X.G c < w.heap.size := by
  obtain ⟨c1, c2, c3⟩ := h3.ser c hc
  exact ⟨by simp [World.cell?, c1], by simp [World.cell?, c1], c2.rd, c2.nz, c3.rd, c3.nz, (Array.getElem?_eq_some_iff.1 c1).1⟩
theorem iter_at {w : World} {b r n : Nat} {D : DataW Unit} {left : Lit → Bool} {cnt : Nat} (h : w.ranges Tryz.prog 9 ptE b r n D left cnt) : ∃ o, w.heap[r]? = some o ∧ ∀ cur e, o ≠ .cells cur e (0, 0) := by
  obtain ⟨es, clock, since, seen, c0, hb, F, hs, hD, hr, _⟩ := h
  exact ⟨_, hr, fun _ _ e => by cases e⟩
theorem not_iter {w : World} {B e s n r : Nat} {v : Value} {xs : List Value} {o : Obj} (h : w.ownsRow B e s v n xs) (hr : w.heap[r]? = some o) (ho : ∀ cur e, o ≠ .cells cur e (0, 0)) : v.ownBlock ≠ some r := fun hg => by
  obtain ⟨cur, hcur⟩ := owns_tag h hg
  rw [hr] at hcur
  injection hcur with hcur
  exact ho _ _ hcur
theorem OutV.iter {w w' : World} {B r : Nat} {v : Value} {xs : List SerV} (h : OutV w B v xs) (hg : w.grownBy w' (some r)) (hr : ∃ o, w.heap[r]? = some o ∧ ∀ cur e, o ≠ .cells cur e (0, 0)) : OutV w' B v xs := by
  obtain ⟨o, h1, h2⟩ := hr
  have key : ∀ {e s n : Nat} {u : Value} {ys : List Value}, w.ownsRow B e s u n ys → w'.ownsRow B e s u n ys := fun ho =>
    owns_same ho fun g hu => hg.block g (World.ownsRow.lt ho g hu).2 (fun e => not_iter ho h1 h2 (by rw [hu, e]))
  exact ⟨key h.row, fun x hx => ⟨key (h.rd x hx).1, key (h.rd x hx).2⟩⟩
theorem grown_of_below {w w' : World} (h : Below w.heap.size w w') (row : Option Nat) : w.grownBy w' row := ⟨h.os, h.tape, h.output, h.size, fun i hi _ => h.block i hi⟩
theorem Gat.few {D : DataW Unit} {R : Told} {d f t : Int} {fs : List Fil} {left : Lit → Bool} {ls : List Lbs} {xs : List SerV} (h : Gat D R d f t fs left ls xs) (hf : ∀ c, hasR R c = true → c.length ≤ 1000) : ∀ x ∈ xs, x.2.2.1.length ≤ 1000000 := fun x hx => by
  have h1 : x.2.2 ∈ cutV xs := List.mem_map.2 ⟨x, hx, rfl⟩
  rw [h.told] at h1
  obtain ⟨c, hc, e⟩ := List.mem_map.1 h1
  have h2 := hf c ((h.done.iff c).1 (List.mem_filter.1 hc).1).1
  rw [← e]
  show c.length ≤ _
  omega
def fromS (f now keep : Int) : Int := max f (now - keep + 1)
/-- The labels of all series are few. -/
def FewL (R : Told) : Prop := ∀ r ∈ R, r.1.length ≤ 1000
theorem FewL.at_ {R : Told} (h : FewL R) {c : Lbs} (hc : hasR R c = true) : c.length ≤ 1000 := by
  obtain ⟨r, hr, rfl⟩ := hasR_iff.1 hc
  exact h r hr
set_option maxRecDepth 100000 in
set_option maxHeartbeats 2000000 in
theorem search_fail {W : World} (o : Nat) (fv : Value) (fs : List Fil) (hF : RdF W W.heap.size fv fs) (f t : Int) (hq0 : checkF fs ≠ 0) :
    Calls Tryz.prog 14 #[.pointer (some ⟨o, 0, none⟩), fv, .int .i64 f, .int .i64 t] W fun e w' => e = .returned (.tuple #[.slice none 0 0, .int .i64 (checkF fs)]) ∧ Below W.heap.size W w' := by
  have KC := Lib.hid (check_walkF fv fs W hF)
  obtain ⟨A, c, hfv, _, _⟩ := id hF
  obtain ⟨nf, hnf⟩ : ∃ nf, nf = fs.length := ⟨_, rfl⟩
  rw [← hnf] at hfv
  obtain ⟨q, hq⟩ : ∃ q, q = checkF fs := ⟨_, rfl⟩
  rw [← hq] at KC hq0 ⊢
  subst hfv
  have g0 : ((q : Int) != 0) = true := by simp [hq0]
  clear hF hnf hq hq0
  go_enter Tryz.func14, Tryz.ntmps14
  go_wp2_with fail
  refine KC.out.mono ?_
  rintro e w1 ⟨rfl, hE1⟩
  go_wp2_with fail
  go_ret2
  exact ⟨rfl, hE1.below⟩
set_option maxRecDepth 100000 in
set_option maxHeartbeats 8000000 in
/-- oracle.Search. -/
theorem search_walk {W : World} {S : Nat → Prop} {B o b : Nat} {every keep now : Int} {X : Sers} {R : Told} (h : Orc W S B o b every keep now X R) (T : Tabs W) (fv : Value) (fs : List Fil) (hF : RdF W W.heap.size fv fs) (f t : Int) (hRl : R.length ≤ 60000) (hfl : FewL R) (hq : checkF fs = 0) :
    Calls Tryz.prog 14 #[.pointer (some ⟨o, 0, none⟩), fv, .int .i64 f, .int .i64 t] W fun e w' =>
      ∃ v xs, e = .returned (.tuple #[v, .int .i64 0]) ∧ OutV w' W.heap.size v xs ∧ cutV xs = tellS every (fromS f now keep) t fs R ∧ Below W.heap.size W w' := by
  obtain ⟨n0, D0, hn0, hom⟩ := h.om
  have HOM := Lib.hid hom
  have KC := Lib.hid (check_walkF fv fs W hF)
  have hcells := h.cells
  have hbd := h.bd
  have hob : o < W.heap.size := (h.lt h.so).2
  obtain ⟨A, c, hfv, _, _⟩ := id hF
  obtain ⟨nf, hnf⟩ : ∃ nf, nf = fs.length := ⟨_, rfl⟩
  have h4 : fs.length ≤ 4 := by
    unfold checkF at hq
    by_cases h4 : 4 < fs.length
    · rw [if_pos h4] at hq; omega
    · omega
  rw [← hnf] at hfv
  subst hfv
  have HF := Lib.hid hF
  have HT := Lib.hid T
  have HRL := Lib.hid hRl
  have HFL := Lib.hid hfl
  rw [hq] at KC
  have H4 := Lib.hid h4
  obtain ⟨F, hFF⟩ : ∃ F, max f (now - keep + 1) = F := ⟨_, rfl⟩
  have hFF2 : fromS f now keep = F := hFF
  rw [hFF2]
  have k2 : IntKind.i64.wrap (now - keep) = now - keep := IntWalk.i64_in _ (by omega)
  have k3 : IntKind.i64.wrap (now - keep + 1) = now - keep + 1 := IntWalk.i64_in _ (by omega)
  have HC : Hid (∀ w', Below W.heap.size W w' → w'.cell? ⟨o, 0, none⟩ = some (.int .i64 every) ∧ w'.cell? ⟨o, 1, none⟩ = some (.int .i64 keep) ∧ w'.cell? ⟨o, 2, none⟩ = some (.int .i64 now) ∧ w'.cell? ⟨o, 3, none⟩ = some (.map (some b))) := fun w' hb =>
    ⟨(hb.cell hob).trans hcells.1, (hb.cell hob).trans hcells.2.1, (hb.cell hob).trans hcells.2.2.1, (hb.cell hob).trans hcells.2.2.2⟩
  have HOB := Lib.hid hob
  clear h hn0 hom hcells hbd hob hF T hRl hfl hnf hq h4 hFF2
  go_enter Tryz.func14, Tryz.ntmps14
  go_wp2_with fail
  refine KC.out.mono ?_
  rintro e w1 ⟨rfl, hE1⟩
  have HB1 : Hid (Below W.heap.size W w1.drew) := hE1.below.drew
  obtain ⟨c0, c1, c2, c3⟩ := HC.out w1.drew HB1.out
  clear hE1 KC
  go_wp2_with fail
  go_region_held3 (fun w' => w' = w1.drew) (first | assumption | rfl) (fail)
  obtain ⟨w2, hw2⟩ : ∃ w2, w2 = w1.drew := ⟨_, rfl⟩
  rw [← hw2] at HB1 c0 c1 c2 c3 ⊢
  clear hw2 k2 k3 hFF
  have HM2 : Hid (w2.ownsMap Tryz.prog 9 ptE b n0 D0) := (HOM.out.kept (Chg.of_below HB1.out) (fun _ _ e => e)).map
  go_wp2_with (first | (at_range; refine wpList_range_own _ rfl _ 79 rfl 9 87 key_law Tryz.underlying79 ptE b n0 D0 rfl HM2.out ?_; intro w3 hrg0 hg0 hs0) | fail)
  try go_frame
  obtain ⟨r, hr⟩ : ∃ r, r = w2.heap.size := ⟨_, rfl⟩
  rw [← hr] at hrg0
  have HRG0 := Lib.hid hrg0
  have HB3 : Hid (Below W.heap.size W w3) := HB1.out.trans (show Below W.heap.size w2 w3 from ⟨hg0.os, hg0.tape, hg0.output, hg0.size, fun i hi => hg0.block i (Nat.lt_of_lt_of_le hi HB1.out.size) (by simp)⟩)
  have HR : Hid (W.heap.size ≤ r) := by show _ ≤ _; rw [hr]; exact HB1.out.size
  rw [← hr]
  clear hrg0 hg0 hs0 c0 c1 c2 c3 hr
  go_loopw [11, 39] (fun ov _ wl => ∃ (left : Lit → Bool) (cnt : Nat) (ls : List Lbs) (xs : List SerV), Hid (wl.ranges Tryz.prog 9 ptE b r n0 D0 left cnt) ∧ Hid (Gat D0 R every F t fs left ls xs) ∧ Hid (OutV wl W.heap.size ov xs) ∧ Hid (Below W.heap.size W wl))
    (fun _ _ wl => wl.rangeLeft b r)
  case atStart => exact ⟨_, _, [], [], HRG0.out, ⟨Done.start HOM.out, rfl⟩, OutV.nil _ _, HB3.out⟩
  case round =>
    obtain ⟨left, cnt, ls, xs, HRG, HGA, HOV, HBL⟩ := hrel
    have hrg := HRG.out
    go_wp2_with (first
      | (at_next; refine wpList_next_ranges _ rfl _ rfl 9 key_law ptE id id (fun key _ _ => ⟨key, rfl⟩) (fun v _ _ => ⟨v, rfl⟩) b r n0 D0 left cnt rfl hrg ?_ ?_)
      | fail)
    · intro _ hl0
      have hall := HGA.out.done.all hl0
      have htd := HGA.out.told
      have hnd := HGA.out.done.nodup
      have hl6 := HGA.out.few (fun c hc => HFL.out.at_ hc)
      have hxl := HGA.out.len
      have HRL9 := HRL.out
      have HALL := Lib.hid hall
      rcases HOV.out.row.2 with ⟨hv, hn9⟩ | ⟨g, cap, cur, hv, hgb, _⟩
      · subst hv
        have hx0 : xs = [] := List.eq_nil_of_length_eq_zero hn9
        subst hx0
        have HFIN : Hid (cutV [] = tellS every F t fs R) := told_of hall hnd (by rw [← htd]) List.Pairwise.nil
        have KS := Lib.hid (AnyF.slices_SortFunc_none { Tryz.sortSer with } none 0 (.func (.func 41) #[] #[]) wr)
        clear hall htd hnd hl6 hxl HRL9 hl0 hrg hn9
        go_wp2_with fail
        refine KS.out.mono ?_
        rintro e w5 ⟨rfl, rfl⟩
        go_wp2_with fail
        go_ret2
        exact ⟨_, [], rfl, HOV.out, HFIN.out, HBL.out⟩
      · subst hv
        have KS := Lib.hid (sortSer_walk g cap W.heap.size xs wr HOV.out (by omega) hl6)
        obtain ⟨xn, hxn⟩ : ∃ xn, xn = xs.length := ⟨_, rfl⟩
        have HFIN : Hid (∀ ys : List SerV, ys.Perm xs → ys.Pairwise (fun x y => ¬ cmpRow y.2.2.1 x.2.2.1 < 0) → cutV ys = tellS every F t fs R) := fun ys h1 h2 => by
          refine told_of hall hnd ?_ ?_
          · rw [← htd]; exact h1.map _
          · unfold cutV
            rw [List.pairwise_map]; exact h2
        rw [← hxn] at KS ⊢
        clear hall htd hnd hl6 hxl HRL9 hl0 hrg hxn
        go_wp2_with fail
        refine KS.out.mono ?_
        rintro e w5 ⟨rfl, ys, hp, hso, hov, hg5⟩
        have HFIN2 := Lib.hid (HFIN.out ys hp hso)
        have HOV5 := Lib.hid hov
        have HB5 : Hid (Below W.heap.size W w5) := HBL.out.grown hg5 HBL.out.size (fun j e => by injection e with e; rw [← e]; exact hgb)
        clear hp hso hov hg5 KS HFIN
        go_wp2_with fail
        go_ret2
        exact ⟨_, ys, rfl, HOV5.out, HFIN2.out, HB5.out⟩
    · intro x cv kl yd yp w4 cnt4 hkey hlx hv hat hrg4 hlt hg4 hs4 hen
      obtain ⟨cc, hcc, hkl, hcv⟩ := HOM.out.met hv hat
      have hcv : cv = .pointer (some ⟨X.G cc, 0, none⟩) := hcv
      subst hkl
      subst hcv
      have HST := Lib.hid (HGA.out.step hcc hlx)
      have hB4 : Below W.heap.size W w4 := HBL.out.grown hg4 HBL.out.size (fun j e => by injection e with e; rw [← e]; exact HR.out)
      have HB4 := Lib.hid hB4
      have HV4 : Hid (OutV w4 W.heap.size u11 xs) := HOV.out.iter hg4 (iter_at HRG.out)
      have HRG4 := Lib.hid hrg4
      have HLT := Lib.hid hlt
      have hcl : cc.length ≤ 1000 := HFL.out.at_ hcc
      obtain ⟨s0, s1, s2, s3, s4, s5, s6⟩ := Orc.ser HOM.out hcc
      obtain ⟨G, hG⟩ : ∃ G, G = X.G cc := ⟨_, rfl⟩
      obtain ⟨LV, hLV⟩ : ∃ LV, LV = X.LV cc := ⟨_, rfl⟩
      obtain ⟨SV, hSV⟩ : ∃ SV, SV = X.SV cc := ⟨_, rfl⟩
      rw [← hG, ← hLV] at s0
      rw [← hG, ← hSV] at s1
      rw [← hLV] at s2 s3
      rw [← hSV] at s4 s5
      rw [← hG] at s6 hen ⊢
      have HS : Hid (∀ w', Below W.heap.size W w' → w'.cell? ⟨G, 0, none⟩ = some LV ∧ w'.cell? ⟨G, 1, none⟩ = some SV) := fun w' hb => ⟨(hb.cell s6).trans s0, (hb.cell s6).trans s1⟩
      have HS2 := Lib.hid s2
      have HS3 := Lib.hid s3
      have HS4 := Lib.hid s4
      have HS5 := Lib.hid s5
      have KA := Lib.hid (all_walkF (.slice A nf c) fs LV cc w4 ((HF.out.below hB4).mono hB4.size) ((s2.below hB4).mono hB4.size) (by omega) (by have := H4.out; omega))
      obtain ⟨d0, d1⟩ := HS.out w4 hB4
      have HCL := Lib.hid hcl
      have HCC := Lib.hid hcc
      have hmr := hrg.left_eq
      have HMR := Lib.hid hmr
      clear hmr hcc hlx hkey hv hat hrg4 hlt hg4 hs4 s0 s1 s2 s3 s4 s5 s6 hG hLV hSV hB4 hcl hrg
      go_wp2_with fail
      refine KA.out.mono ?_
      rintro e w5 ⟨rfl, hE5⟩
      have HB5 : Hid (Below W.heap.size W w5) := HB4.out.trans (hE5.below.mono HB4.out.size)
      have HRG5 : Hid (w5.ranges Tryz.prog 9 ptE b r n0 D0 (fun z => left z && !z.sameKey (kyL cc)) cnt4) := HRG4.out.kept (grown_of_below hE5.below none) (by simp) (by simp)
      have HV5 : Hid (OutV w5 W.heap.size u11 xs) := HV4.out.on hE5.below
      clear d0 d1 hE5 KA HRG4 HV4 hen
      cases hal : allF fs cc with
      | false =>
        have HG9 := Lib.hid (HST.out.1 (by rw [hal]; rfl))
        clear hal
        go_wp2_with fail
        go_roundw
        case rel => exact ⟨_, _, _, _, HRG5.out, HG9.out, HV5.out, HB5.out⟩
        case measure => rw [HRG5.out.left_eq, HMR.out]; exact HLT.out
      | true =>
        have HAL := Lib.hid hal
        clear hal
        have KD : Hid (∀ w', Below w5.heap.size w5 w' → Calls Tryz.prog 38 #[SV, .int .i64 every] w' fun e w'' => ∃ r, e = .returned r ∧ Own w'' w5.heap.size 54 r (dedupS every (smpOf R cc)) ∧ Below w5.heap.size w5 w'') := fun w' hb => by
          have h9 := HB5.out.trans (hb.mono HB5.out.size)
          refine (ddup_walk SV (smpOf R cc) every w' (HT.out.below h9) ((HS4.out.below h9).mono h9.size) (by have := smpOf_length R cc; have := HRL.out; omega)).mono ?_
          rintro e w'' ⟨r1, he, ho, hb2⟩
          exact ⟨r1, he, ho.lower hb.size, hb.trans (hb2.mono hb.size)⟩
        have KL : Hid (∀ w' r1, Below w5.heap.size w5 w' → Own w' w5.heap.size 54 r1 (dedupS every (smpOf R cc)) → Calls Tryz.prog 37 #[r1, .int .i64 F, .int .i64 t] w' fun e w'' => ∃ r2, e = .returned r2 ∧ Own w'' w5.heap.size 54 r2 (tellC every F t R cc) ∧ Below w5.heap.size w5 w'') := fun w' r1 hb ho => by
          refine (clip_walk r1 _ F t w' ho.rd ho.nz (by have := dedupS_length every (smpOf R cc); have := smpOf_length R cc; have := HRL.out; omega)).mono ?_
          rintro e w'' ⟨r2, he, ho2, hb2⟩
          exact ⟨r2, he, ho2.lower hb.size, hb.trans (hb2.mono hb.size)⟩
        have HCW : Hid (∀ w', Below w5.heap.size w5 w' → w'.cell? ⟨G, 1, none⟩ = some SV ∧ w'.cell? ⟨o, 0, none⟩ = some (.int .i64 every)) := fun w' hb => by
          have h9 := HB5.out.trans (hb.mono HB5.out.size)
          exact ⟨(HS.out w' h9).2, (HC.out w' h9).1⟩
        have hb0 : Below w5.heap.size w5 w5.drew := (Below.refl _ _).drew
        obtain ⟨e1, e2⟩ := HCW.out _ hb0
        go_wp2_with fail
        go_region_held3 (fun w' => w'.cell? ⟨G, 1, none⟩ = some SV ∧ w'.cell? ⟨o, 0, none⟩ = some (.int .i64 every) ∧ Below w5.heap.size w5 w')
          (first | assumption | exact ⟨e1, e2, hb0⟩ | exact ⟨(HCW.out _ (by assumption)).1, (HCW.out _ (by assumption)).2, (by assumption)⟩)
          (first
            | (go_at_call 38; refine (KD.out _ hb0).mono ?_; rintro e w6 ⟨r1, rfl, ho6, hb6⟩)
            | (go_at_call 37; refine (KL.out _ _ hb6 ho6).mono ?_; rintro e w7 ⟨r2, rfl, ho7, hb7⟩))
        have HB7 : Hid (Below W.heap.size W w7) := HB5.out.trans (hb7.mono HB5.out.size)
        have HRG7 : Hid (w7.ranges Tryz.prog 9 ptE b r n0 D0 (fun z => left z && !z.sameKey (kyL cc)) cnt4) := HRG5.out.kept (grown_of_below hb7 none) (by simp) (by simp)
        have HV7 : Hid (OutV w7 W.heap.size u11 xs) := HV5.out.on hb7
        have HO7 : Hid (Own w7 W.heap.size 54 r2 (tellC every F t R cc)) := ho7.lower HB5.out.size
        obtain ⟨A7, c7, hr7, _, _⟩ := ho7.rd
        obtain ⟨m7, hm7⟩ : ∃ m7, m7 = (tellC every F t R cc).length := ⟨_, rfl⟩
        rw [← hm7] at hr7
        subst hr7
        have HM7 := Lib.hid hm7
        clear e1 e2 hb0 hb6 ho6 hb7 ho7 KD KL HCW HRG5 HV5 hm7
        by_cases hm0 : m7 = 0
        · have HG9 : Hid (Gat D0 R every F t fs (fun z => left z && !z.sameKey (kyL cc)) (ls ++ [cc]) xs) := HST.out.1 (by
            have : tellC every F t R cc = [] := List.eq_nil_of_length_eq_zero (by rw [← HM7.out]; exact hm0)
            rw [this]; simp)
          have i1 : ¬ (0 : Int) < (m7 : Int) := by omega
          clear hm0
          go_wp2_with fail
          go_roundw
          case rel => exact ⟨_, _, _, _, HRG7.out, HG9.out, HV7.out, HB7.out⟩
          case measure => rw [HRG7.out.left_eq, HMR.out]; exact HLT.out
        · have HG9 := Lib.hid (HST.out.2 (by
            have : tellC every F t R cc ≠ [] := fun e => hm0 (by rw [HM7.out, e]; rfl)
            rw [HAL.out]; simp [this]))
          have i1 : (0 : Int) < (m7 : Int) := by omega
          have i2 : 0 < m7 := by omega
          have hB7 := HB7.out
          obtain ⟨d0, d1⟩ := HS.out w7 hB7
          have KN := Lib.hid (cloneL_walk LV cc w7 ((HS2.out.below hB7).mono hB7.size) HS3.out (by have := HCL.out; omega))
          have HXL := Lib.hid HGA.out.len
          clear hm0 hB7
          go_wp2_with fail
          refine KN.out.mono ?_
          rintro e w8 ⟨lv8, rfl, ho8, hb8⟩
          have HB8 : Hid (Below W.heap.size W w8) := HB7.out.trans (hb8.mono HB7.out.size)
          have HRG8 : Hid (w8.ranges Tryz.prog 9 ptE b r n0 D0 (fun z => left z && !z.sameKey (kyL cc)) cnt4) := HRG7.out.kept (grown_of_below hb8 none) (by simp) (by simp)
          have HV8 : Hid (OutV w8 W.heap.size u11 xs) := HV7.out.on hb8
          have HO8 : Hid (Own w8 W.heap.size 54 (.slice A7 m7 c7) (tellC every F t R cc)) := HO7.out.below hb8
          have HL8 : Hid (OwnL w8 W.heap.size lv8 cc) := ho8.lower HB7.out.size
          obtain ⟨A8, c8, hr8, _, _⟩ := ho8.rd
          obtain ⟨m8, hm8⟩ : ∃ m8, m8 = cc.length := ⟨_, rfl⟩
          rw [← hm8] at hr8
          subst hr8
          clear hm8 ho8 hb8 KN HRG7 HV7 HO7 d0 d1
          go_wp2_with (first | (at_builtin; refine app1S rfl _ _ rfl W.heap.size _ xs (.slice A8 m8 c8, .slice A7 m7 c7, cc, tellC every F t R cc) rfl (HV8.out.on (((Below.refl _ _).alloc (Nat.le_refl _) _))) w8.heap.size 1 rfl (new_cell _ _ _ 0) (new_cell _ _ _ 1) (HL8.out.below (((Below.refl _ _).alloc (Nat.le_refl _) _))) (HO8.out.below (((Below.refl _ _).alloc (Nat.le_refl _) _))) ?_ ?_ ?_) | fail)
          · have := HXL.out; have := HRL.out; omega
          · have := HB8.out.size; simp; omega
          · intro v9 w9 hov9 hg9 hloc9
            have HV9 := Lib.hid hov9
            have hbl : ∀ j, u11.ownBlock = some j → W.heap.size ≤ j := fun j e => (World.ownsRow.lt HV8.out.row j e).1
            have HB9 : Hid (Below W.heap.size W w9) := (HB8.out.alloc HB8.out.size _).grown hg9 (by have := HB8.out.size; simp; omega) hbl
            have HRG9 : Hid (w9.ranges Tryz.prog 9 ptE b r n0 D0 (fun z => left z && !z.sameKey (kyL cc)) cnt4) := by
              obtain ⟨o9, h91, h92⟩ := iter_at HRG8.out
              refine (HRG8.out.alloc _).kept hg9 (fun e => ?_) (fun e => not_iter HV8.out.row h91 h92 e.symm)
              have h1 := hbl _ e.symm
              have h2 := (HOM.out.lt b HOM.out.sb).2
              omega
            have HG10 := Lib.hid (HG9.out (.slice A8 m8 c8) (.slice A7 m7 c7))
            clear hov9 hg9 hloc9 hbl
            go_wp2_with fail
            go_roundw
            case rel => exact ⟨_, _, _, _, HRG9.out, HG10.out, HV9.out, HB9.out⟩
            case measure => rw [HRG9.out.left_eq, HMR.out]; exact HLT.out
end Go.Proofs.YtkgcbeokfilehaaGreatDoor

/-
  oracle.Delete.
-/
namespace Go.Proofs.YtkgcbeokfilehaaGreatDoor
open Go.RowKit Go.Sort Go.Shelf Go.Maps
/-- Filters that can be read as long as just T turns. -/
def RdFT (W : World) (T : Nat → Prop) (v : Value) (l : List Fil) : Prop := ∀ w', Chg T W w' → RdF w' w'.heap.size v l
set_option maxRecDepth 100000 in
set_option maxHeartbeats 2000000 in
theorem delC_walk (k : ByteArray) (G bx : Nat) (LV : Value) (cc : Lbs) (fv : Value) (fs : List Fil) (W : World) (hbx : W.cell? ⟨bx, 0, none⟩ = some fv) (hG : W.cell? ⟨G, 0, none⟩ = some LV) (hF : RdF W W.heap.size fv fs) (hR : RdL W W.heap.size LV cc) (hl : cc.length ≤ 1000000) (hfs : fs.length ≤ 1000000) :
    Calls Tryz.prog 61 #[.string k, .pointer (some ⟨G, 0, none⟩), .pointer (some ⟨bx, 0, none⟩)] W fun e w' => e = .returned (.bool (allF fs cc)) ∧ Below W.heap.size W w' := by
  have KA : Hid (∀ w', Below W.heap.size W w' → Calls Tryz.prog 36 #[fv, LV] w' fun e w'' => e = .returned (.bool (allF fs cc)) ∧ Below W.heap.size W w'') := fun w' hb =>
    (all_walkF fv fs LV cc w' ((hF.below hb).mono hb.size) ((hR.below hb).mono hb.size) hl hfs).mono fun e w'' ⟨he, hE⟩ => ⟨he, hb.trans (hE.below.mono hb.size)⟩
  obtain ⟨q, hq⟩ : ∃ q, q = allF fs cc := ⟨_, rfl⟩
  rw [← hq] at KA ⊢
  have HB : Hid (∀ w', Below W.heap.size W w' → w'.cell? ⟨bx, 0, none⟩ = some fv ∧ w'.cell? ⟨G, 0, none⟩ = some LV) := fun w' hb => ⟨(hb.cell (lt_of_cell hbx)).trans hbx, (hb.cell (lt_of_cell hG)).trans hG⟩
  have hb0 : Below W.heap.size W W.drew := (Below.refl _ _).drew
  obtain ⟨e1, e2⟩ := HB.out _ hb0
  clear hq hF hR hl hfs
  go_enter Tryz.func61, Tryz.ntmps61
  go_wp2_with fail
  go_region_held3 (fun w' => w'.cell? ⟨bx, 0, none⟩ = some fv ∧ w'.cell? ⟨G, 0, none⟩ = some LV ∧ Below W.heap.size W w')
    (first | assumption | exact ⟨e1, e2, hb0⟩ | exact ⟨(HB.out _ (by assumption)).1, (HB.out _ (by assumption)).2, (by assumption)⟩)
    (first | (go_at_call 36; refine (KA.out _ hb0).mono ?_; rintro e w6 ⟨rfl, hb6⟩))
  go_wp2_with fail
  go_ret
  exact ⟨rfl, hb6⟩
theorem owns_tight {w : World} {P : Program} {k b n : Nat} {F : Value → Option (DataW Unit × List MemPlace)} {D : DataW Unit} (h : w.ownsMap P k F b n D) : w.ownsMap P k F b (Maps.size D) D := by
  obtain ⟨es, clock, hb, hF, hs, hD⟩ := h
  refine ⟨es, clock, hb, hF, ?_, hD⟩
  rw [hD]
  show _ ≤ List.length _
  rw [length_sorted]; simp
theorem chg_drop {S : Nat → Prop} {W w w' : World} (h : Chg S W w) {b : Nat} (hb : S b) (hg : w.grownBy w' (some b)) : Chg S W w' :=
  h.trans (.of_grown hg) (fun _ e => e) (fun j _ e => by injection e with e; rw [← e]; exact hb)
set_option maxRecDepth 100000 in
set_option maxHeartbeats 2000000 in
theorem delete_fail {W : World} (o : Nat) (fv : Value) (fs : List Fil) (hF : RdF W W.heap.size fv fs) (hq0 : checkF fs ≠ 0) :
    Calls Tryz.prog 31 #[.pointer (some ⟨o, 0, none⟩), fv] W fun e w' => e = .returned (.tuple #[.int .i64 0, .int .i64 (checkF fs)]) ∧ Below W.heap.size W w' := by
  obtain ⟨A, c, hfv, _, _⟩ := id hF
  obtain ⟨nf, hnf⟩ : ∃ nf, nf = fs.length := ⟨_, rfl⟩
  rw [← hnf] at hfv
  subst hfv
  have hb0 : Below W.heap.size W (W.alloc (.cells #[.slice A nf c] 23)) := (Below.refl _ _).alloc (Nat.le_refl _) _
  have KC := Lib.hid (check_walkF (.slice A nf c) fs (W.alloc (.cells #[.slice A nf c] 23)) ((hF.below hb0).mono hb0.size))
  obtain ⟨q, hq⟩ : ∃ q, q = checkF fs := ⟨_, rfl⟩
  rw [← hq] at KC hq0 ⊢
  have g0 : ((q : Int) != 0) = true := by simp [hq0]
  have HB0 := Lib.hid hb0
  clear hF hnf hq hq0 hb0
  go_enter Tryz.func31, Tryz.ntmps31
  go_wp2_with fail
  refine KC.out.mono ?_
  rintro e w1 ⟨rfl, hE1⟩
  go_wp2_with fail
  go_ret2
  exact ⟨rfl, HB0.out.trans (hE1.below.mono HB0.out.size)⟩
set_option maxRecDepth 100000 in
set_option maxHeartbeats 4000000 in
/-- oracle.Delete. -/
theorem delete_walk {W : World} {S : Nat → Prop} {B o b : Nat} {every keep now : Int} {X : Sers} {R : Told} (h : Orc W S B o b every keep now X R) (hsb : S b) (fv : Value) (fs : List Fil) (hF : RdFT W S fv fs) (hRl : R.length ≤ 60000) (hfl : FewL R) (hq : checkF fs = 0) :
    Calls Tryz.prog 31 #[.pointer (some ⟨o, 0, none⟩), fv] W fun e w' =>
      e = .returned (.tuple #[.int .i64 ((labsOf R).length - (labsOf (delR fs R)).length : Int), .int .i64 0]) ∧ Orc w' S B o b every keep now X (delR fs R) ∧ Chg S W w' := by
  have hF0 := hF W (Chg.refl S W)
  obtain ⟨A, c, hfv, _, _⟩ := id hF0
  obtain ⟨nf, hnf⟩ : ∃ nf, nf = fs.length := ⟨_, rfl⟩
  have h4 : fs.length ≤ 4 := by
    unfold checkF at hq
    by_cases h4 : 4 < fs.length
    · rw [if_pos h4] at hq; omega
    · omega
  rw [← hnf] at hfv
  subst hfv
  obtain ⟨W1, hW1⟩ : ∃ W1, W1 = W.alloc (.cells #[.slice A nf c] 23) := ⟨_, rfl⟩
  have hb0 : Below W.heap.size W W1 := by rw [hW1]; exact (Below.refl _ _).alloc (Nat.le_refl _) _
  have hszw : W1.heap.size = W.heap.size + 1 := by rw [hW1]; simp
  have KC := Lib.hid (check_walkF (.slice A nf c) fs W1 ((hF0.below hb0).mono hb0.size))
  rw [hq] at KC
  have hbx : W1.cell? ⟨W.heap.size, 0, none⟩ = some (.slice A nf c) := by rw [hW1]; simp
  have HBX : Hid (∀ w', Below W1.heap.size W1 w' → w'.cell? ⟨W.heap.size, 0, none⟩ = some (.slice A nf c)) := fun w' hb => (hb.cell (by show W.heap.size < _; omega)).trans hbx
  have HH1 : Hid (Orc W1 S B o b every keep now X R) := h.on hb0
  have HCH1 : Hid (Chg S W W1) := (Chg.of_below hb0).mono (fun _ _ e => e.elim)
  have HFT := Lib.hid hF
  have HSb := Lib.hid hsb
  have HRL := Lib.hid hRl
  have HFL := Lib.hid hfl
  have HW1 := Lib.hid hW1
  have HSZ := Lib.hid hszw
  have H4 := Lib.hid h4
  clear hF0 hnf hb0 h hF hsb hRl hfl hq hW1 hszw h4 hbx
  go_enter Tryz.func31, Tryz.ntmps31
  go_wp2_with fail
  rw [← HW1.out]
  have c0 := HBX.out W1 (Below.refl _ _)
  go_wp2_with fail
  refine KC.out.mono ?_
  rintro e w2 ⟨rfl, hE2⟩
  have HB2 : Hid (Below W1.heap.size W1 w2) := hE2.below
  have HH2 : Hid (Orc w2 S B o b every keep now X R) := HH1.out.on HB2.out
  have HCH2 : Hid (Chg S W w2) := HCH1.out.trans (.of_below HB2.out) (fun _ e => e) (fun _ _ e => e.elim)
  have hbx2 := HBX.out w2 HB2.out
  have k3 : w2.cell? ⟨o, 3, none⟩ = some (.map (some b)) := HH2.out.cells.2.2.2
  obtain ⟨n0, D0, hn0, hom⟩ := HH2.out.om
  have HOM := Lib.hid hom
  have hsz := hom.size
  have hll := labs_length R
  obtain ⟨L0, hL0⟩ : ∃ L0, L0 = (labsOf R).length := ⟨_, rfl⟩
  rw [← hL0] at hsz hll
  have hob : o ≠ b := fun e => by
    obtain ⟨es, clock, hb, _⟩ := hom.map
    rw [← e, HH2.out.cell] at hb; cases hb
  have hbw : ∀ w', w2.grownBy w' (some b) → w'.cell? ⟨W.heap.size, 0, none⟩ = some (.slice A nf c) := fun w' hg => (hg.cell_far _ (lt_of_cell hbx2) (fun e => by
    injection e with e
    obtain ⟨es, clock, hb, _⟩ := hom.map
    have h9 : w2.heap[W.heap.size]? = W1.heap[W.heap.size]? := HB2.out.block _ (by have := HSZ.out; omega)
    rw [HW1.out, heap_alloc_new] at h9
    have e : W.heap.size = b := e
    rw [← e, h9] at hb; cases hb)).trans hbx2
  have HDEL : Hid (∀ (W9 : World) (key val : Value) (kl : Lit) (yd : DataW Unit) (yp : List MemPlace), w2.grownBy W9 (some b) → keyOf Tryz.prog 9 key = some kl → ptR X (hasR R) val = some (yd, yp) →
      Calls Tryz.prog 61 (#[key, val] ++ #[.pointer (some ⟨W.heap.size, 0, none⟩)]) W9 fun e w' => e = .returned (.bool (pdR X (hasR R) (allF fs) kl yd)) ∧ W9.grownBy w' none) := by
    intro W9 key val kl yd yp hg hkey hval
    obtain ⟨cc, hcc, hv, hy⟩ := ptR_form hval
    obtain ⟨hy1, hy2⟩ := Prod.mk.inj hy
    subst hv hy1
    rw [pdR_at HOM.out hcc]
    obtain ⟨ks, hks, _⟩ := WideMaps.string_of_keyOf Tryz.underlying9 hkey
    subst hks
    obtain ⟨q1, q2, q3⟩ := HOM.out.ser cc hcc
    obtain ⟨es, clock, hmb, _⟩ := HOM.out.map
    have hGb : X.G cc ≠ b := fun e => by rw [e, hmb] at q1; cases q1
    have hGl := (Array.getElem?_eq_some_iff.1 q1).1
    have hG : W9.cell? ⟨X.G cc, 0, none⟩ = some (X.LV cc) := (hg.cell_far _ hGl (fun e => hGb (by injection e))).trans (by simp [World.cell?, q1])
    have hLV : OwnL W9 B (X.LV cc) cc := owns_same q2 (fun g hgo => hg.block g (World.ownsRow.lt q2 g hgo).2 (fun e => by
      injection e with e
      obtain ⟨cur, hcur⟩ := owns_tag q2 hgo
      rw [e, hmb] at hcur; cases hcur))
    have hFF := HFT.out W9 (chg_drop HCH2.out HSb.out hg)
    exact (delC_walk ks (X.G cc) W.heap.size (X.LV cc) cc _ fs W9 (hbw W9 hg) hG hFF hLV.rd (by have := HFL.out.at_ hcc; omega) (by have := H4.out; omega)).mono fun e w' ⟨he, hb⟩ => ⟨he, grown_of_below hb none⟩
  have eg : ∀ args w, (callFunc 61 args).run Tryz.prog w = .ok (.enter 61 args) w := enters_of Tryz.func61 (by kernel_rfl) rfl
  have KD := Lib.hid (AnyDf.maps_DeleteFunc Tryz.delSer key_law (ptR X (hasR R)) (pdR X (hasR R) (allF fs)) 61 #[.pointer (some ⟨W.heap.size, 0, none⟩)] b n0 D0 w2 eg hom.restr HDEL.out)
  have HOBN := Lib.hid hob
  have hmf : ∀ (fn : Fn) (first cap : Array Value) (w : World), (Instr.makeFunc fn first cap).run Tryz.prog w = .ok (.func fn first cap) w := fun _ _ _ _ => rfl
  have HL0 := Lib.hid hL0
  have HLL := Lib.hid hll
  have HM2 := Lib.hid hom.map
  clear hE2 KC c0 hom hn0 hob hbw eg hL0 hll
  go_wp2_with (first | (at_len; refine wpList_len_own _ rfl _ 79 rfl 9 87 Tryz.underlying79 ptE b n0 D0 rfl HM2.out ?_) | fail)
  clear hsz
  refine KD.out.mono ?_
  rintro e w3 ⟨rfl, hm3, hg3⟩
  have hS3 := (HOM.out.strike hm3 hg3).hasCongr (show hasR (delR fs R) = fun c => hasR R c && !allF fs c by funext x; rw [hasR_del])
  have hS4 : OM w3 S B b n0 (Lib.deleteFuncD (pdR X (hasR R) (allF fs)) D0) X (hasR (delR fs R)) (smpOf (delR fs R)) := hS3.congr (fun x hx => by
    rw [hasR_del, Bool.and_eq_true, Bool.not_eq_true'] at hx
    exact smpOf_del fs R x hx.2)
  have hsz3 := hS4.size
  have hll3 := labs_length (delR fs R)
  have hll4 := delR_length fs R
  have hle : (labsOf (delR fs R)).length ≤ (labsOf R).length := by rw [labs_del]; exact List.length_filter_le _ _
  obtain ⟨L3, hL3⟩ : ∃ L3, L3 = (labsOf (delR fs R)).length := ⟨_, rfl⟩
  rw [← hL3] at hsz3 hll3 hle
  have k33 : w3.cell? ⟨o, 3, none⟩ = some (.map (some b)) := (hg3.cell_far _ (lt_of_cell k3) (fun e => HOBN.out (by injection e))).trans k3
  have HFIN : Hid (Orc w3 S B o b every keep now X (delR fs R) ∧ Chg S W w3) := by
    refine ⟨⟨(hg3.block o (HH2.out.lt HH2.out.so).2 (fun e => HOBN.out (by injection e))).trans HH2.out.cell, HH2.out.so, HH2.out.bd, Maps.size (Lib.deleteFuncD (pdR X (hasR R) (allF fs)) D0), _, by rw [hsz3, hL3]; exact labs_length _, ⟨owns_tight hS4.map, hS4.lt, hS4.sb, hS4.isMap, hS4.key, hS4.has, hS4.at_, hS4.ser, hS4.own, hS4.apart⟩⟩, chg_drop HCH2.out HSb.out hg3⟩
  have HM3 := Lib.hid hS4.map
  have i1 : IntKind.i64.wrap ((L0 : Int) - (L3 : Int)) = (L0 : Int) - (L3 : Int) := IntWalk.i64_in _ (by have := HLL.out; have := HRL.out; omega)
  have HL3 := Lib.hid hL3
  clear hm3 hg3 hS3 hS4 hll3 hll4 hle k3 KD hL3
  go_wp2_with (first | (at_len; refine wpList_len_own _ rfl _ 79 rfl 9 87 Tryz.underlying79 ptE b n0 _ rfl HM3.out ?_) | fail)
  go_ret2
  refine ⟨?_, HFIN.out⟩
  rw [← HL0.out, ← HL3.out]; rfl
end Go.Proofs.YtkgcbeokfilehaaGreatDoor
