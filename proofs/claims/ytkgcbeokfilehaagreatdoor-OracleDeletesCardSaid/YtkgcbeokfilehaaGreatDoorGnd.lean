/-
  The reference: Canon, where labels may be.
-/
import Derived.Test.YtkgcbeokfilehaaGreatDoorWtd
import Derived.Test.YtkgcbeokfilehaaGreatDoorVfd
import Derived.Test.YtkgcbeokfilehaaGreatDoorVld
import Derived.Test.YtkgcbeokfilehaaGreatDoorVkd
import Derived.Test.YtkgcbeokfilehaaGreatDoorVid
import Derived.Test.YtkgcbeokfilehaaGreatDoorBased
import Derived.Maps.AppendAt
import Derived.Laws.AppendOwnNone
import Derived.Lib.SliceRun
namespace Go.Proofs.YtkgcbeokfilehaaGreatDoor
open Go.RowKit Go.Sort Go.Maps
/-- The least name above ah among the first i, or none. -/
def BestT (l : Lbs) (ah : Str) (i : Nat) (bv : Int) : Prop :=
  (bv = -1 ∧ ∀ x ∈ l.take i, ¬ ah < x.1) ∨ ∃ (b : Nat) (hb : b < l.length), bv = (b : Int) ∧ ah < l[b].1 ∧ ∀ x ∈ l.take i, ah < x.1 → ¬ x.1 < l[b].1
theorem BestT.start (l : Lbs) (ah : Str) : BestT l ah 0 (-1) := .inl ⟨rfl, by simp⟩
theorem take_mem {α : Type} {l : List α} {i : Nat} {y x : α} (hi : i < l.length) (hy : y = l[i]) (h : x ∈ l.take (i + 1)) : x ∈ l.take i ∨ x = y := by
  rw [List.take_succ_eq_append_getElem hi, ← hy] at h
  rcases List.mem_append.1 h with h | h
  · exact .inl h
  · exact .inr (List.mem_singleton.1 h)
theorem BestT.skip {l : Lbs} {ah : Str} {i : Nat} {bv : Int} {y : Lb} (h : BestT l ah i bv) (hi : i < l.length) (hy : y = l[i]) (hn : ¬ ah < y.1) : BestT l ah (i + 1) bv := by
  rcases h with ⟨h1, h2⟩ | ⟨b, hb, h1, h2, h3⟩
  · exact .inl ⟨h1, fun x hx => by
      rcases take_mem hi hy hx with hx | rfl
      · exact h2 x hx
      · exact hn⟩
  · exact .inr ⟨b, hb, h1, h2, fun x hx ha => by
      rcases take_mem hi hy hx with hx | rfl
      · exact h3 x hx ha
      · exact absurd ha hn⟩
theorem BestT.first {l : Lbs} {ah : Str} {i : Nat} {y : Lb} (h : ∀ x ∈ l.take i, ¬ ah < x.1) (hi : i < l.length) (hy : y = l[i]) (hn : ah < y.1) : BestT l ah (i + 1) i :=
  .inr ⟨i, hi, rfl, hy ▸ hn, fun x hx ha => by
    rcases take_mem hi hy hx with hx | rfl
    · exact absurd ha (h x hx)
    · rw [← hy]; exact str_irrefl _⟩
theorem BestT.less {l : Lbs} {ah : Str} {i b : Nat} {y : Lb} (hb : b < l.length) (h : ∀ x ∈ l.take i, ah < x.1 → ¬ x.1 < l[b].1) (hi : i < l.length) (hy : y = l[i]) (hn : ah < y.1) (hl : y.1 < l[b].1) : BestT l ah (i + 1) i :=
  .inr ⟨i, hi, rfl, hy ▸ hn, fun x hx ha => by
    rw [← hy]
    rcases take_mem hi hy hx with hx | rfl
    · exact fun h2 => h x hx ha (str_trans h2 hl)
    · exact str_irrefl _⟩
theorem BestT.keep {l : Lbs} {ah : Str} {i b : Nat} {y : Lb} (hb : b < l.length) (h2 : ah < l[b].1) (h : ∀ x ∈ l.take i, ah < x.1 → ¬ x.1 < l[b].1) (hi : i < l.length) (hy : y = l[i]) (hl : ¬ y.1 < l[b].1) : BestT l ah (i + 1) b :=
  .inr ⟨b, hb, rfl, h2, fun x hx ha => by
    rcases take_mem hi hy hx with hx | rfl
    · exact h x hx ha
    · exact hl⟩
/-- The name of the last that was taken. -/
def aheadS (C : Lbs) : Nat → Str
  | 0 => []
  | k + 1 => ((C[k]?).map (·.1)).getD []
theorem canon_strict {l : Lbs} (hm : mayL l = true) : (canonL l).Pairwise (fun x y => x.1 < y.1) := by
  have hn : namesApart (canonL l) = true := (namesApart_perm (canonL_perm l)).trans (mayL_parts hm).2.2
  rw [namesApart_iff] at hn
  refine (List.pairwise_and_iff.2 ⟨canonL_up l, hn⟩).imp fun ⟨h1, h2⟩ => ?_
  exact Classical.byContradiction fun h3 => h2 (str_tri h3 h1)
theorem best_is {l : Lbs} (hm : mayL l = true) {k : Nat} (hk : k < (canonL l).length) {bv : Int} (h : BestT l (aheadS (canonL l) k) l.length bv) : ∃ (b : Nat) (hb : b < l.length), bv = (b : Int) ∧ l[b] = (canonL l)[k] := by
  have hs := canon_strict hm
  have hp := canonL_perm l
  rw [List.pairwise_iff_getElem] at hs
  have hah : aheadS (canonL l) k < ((canonL l)[k]).1 := by
    cases k with
    | zero =>
      have h1 := ((mayL_parts hm).2.1 _ (hp.mem_iff.1 (List.getElem_mem hk))).1
      unfold nameOk at h1
      rw [Bool.and_eq_true, Bool.and_eq_true] at h1
      have h2 := of_decide_eq_true h1.1.1
      show ([] : Str) < _
      cases hc : ((canonL l)[0]).1 with
      | nil => rw [hc] at h2; simp at h2
      | cons a r => exact List.nil_lt_cons a r
    | succ k =>
      have : aheadS (canonL l) (k + 1) = ((canonL l)[k]).1 := by
        show (((canonL l)[k]?).map (·.1)).getD [] = _
        rw [List.getElem?_eq_getElem (by omega)]; rfl
      rw [this]
      exact hs k (k + 1) (by omega) hk (by omega)
  unfold BestT at h
  rw [List.take_length] at h
  rcases h with ⟨_, h2⟩ | ⟨b, hb, h1, h2, h3⟩
  · exact absurd hah (h2 _ (hp.mem_iff.1 (List.getElem_mem hk)))
  · refine ⟨b, hb, h1, ?_⟩
    obtain ⟨t, ht, he⟩ := List.getElem_of_mem (hp.mem_iff.2 (List.getElem_mem hb))
    have g1 := h3 _ (hp.mem_iff.1 (List.getElem_mem hk)) hah
    rw [← he] at g1 h2 ⊢
    have : t = k := by
      by_cases e1 : t < k
      · exfalso
        cases k with
        | zero => omega
        | succ k =>
          have ha : aheadS (canonL l) (k + 1) = ((canonL l)[k]).1 := by
            show (((canonL l)[k]?).map (·.1)).getD [] = _
            rw [List.getElem?_eq_getElem (by omega)]; rfl
          rw [ha] at h2
          by_cases e2 : t = k
          · subst e2; exact str_irrefl _ h2
          · exact str_irrefl _ (str_trans h2 (hs t k (by omega) (by omega) (by omega)))
      · by_cases e2 : k < t
        · exact absurd (hs k t hk ht e2) g1
        · omega
    subst this
    rfl
set_option maxRecDepth 100000 in
set_option maxHeartbeats 4000000 in
/-- eskerref07.Canon. -/
theorem ref_canon (v : Value) (l : Lbs) (W : World) (hR : RdL W W.heap.size v l) (hm : mayL l = true) (hv : ∀ x ∈ l, x.1.length ≤ 140737488355328 ∧ x.2.length ≤ 140737488355328) :
    Calls Tryz.prog 80 #[v] W fun e w' => ∃ cv, e = .returned (.tuple #[cv, .int .i64 0]) ∧ OwnL w' W.heap.size cv (canonL l) ∧ Below W.heap.size W w' := by
  have KM := ref_may v l W hR hv
  rw [hm] at KM
  have KM := Lib.hid KM
  have HMy := Lib.hid hm
  have h6 : l.length ≤ 6 := (mayL_parts hm).1.2
  obtain ⟨A, c, rfl, hc, hA⟩ := hR
  have HA := Lib.hid hA
  obtain ⟨n, hn⟩ : ∃ n, n = l.length := ⟨_, rfl⟩
  rw [← hn] at h6 KM ⊢
  have HN := Lib.hid hn
  have HCL : Hid ((canonL l).length = n) := by show _ = _; rw [(canonL_perm l).length_eq, hn]
  clear hA hc hn hv hm
  go_enter Tryz.func80, Tryz.ntmps80
  go_wp2_with fail
  refine KM.out.mono ?_
  rintro e w1 ⟨rfl, hE1⟩
  have HE1 := Lib.hid hE1
  clear hE1 KM
  go_wp2_with fail
  go_loopw [5, 6, 7, 8] (fun ov av _ _ wl => ∃ (k : Nat) (C : Option Addr) (cc : Nat), k ≤ n ∧ ov = .slice C k cc ∧ av = vT (aheadS (canonL l) k) ∧ Hid (OwnL wl w1.heap.size (.slice C k cc) ((canonL l).take k)) ∧ Hid (Below w1.heap.size w1 wl))
    (fun ov _ _ _ _ => n - (match ov with | .slice _ k _ => k | _ => 0))
  case atStart => exact ⟨0, none, 0, Nat.zero_le _, rfl, rfl, (by rw [List.take_zero]; exact ⟨rfl, .inl ⟨rfl, rfl⟩⟩), Below.refl _ _⟩
  case round =>
    obtain ⟨k, C, cc, hk, rfl, rfl, HO, HB⟩ := hrel
    by_cases hlt : k < n
    · have hkc : k < (canonL l).length := by rw [HCL.out]; exact hlt
      obtain ⟨wo, hwo⟩ : ∃ wo, wo = wr := ⟨_, rfl⟩
      subst hwo
      obtain ⟨ah, hah⟩ : ∃ ah, ah = aheadS (canonL l) k := ⟨_, rfl⟩
      have HAH := Lib.hid hah
      rw [← hah]
      obtain ⟨ab, hab⟩ : ∃ z : ByteArray, z = ⟨ah.toArray⟩ := ⟨_, rfl⟩
      have HAB := Lib.hid hab
      have e0 : vT ah = .string ab := by rw [hab]; rfl
      rw [e0]
      have i1 : (k : Int) < (n : Int) := by omega
      clear hah hab e0
      go_wp2_with fail
      go_loopw [7, 8] (fun bv iv wl => ∃ (i : Nat) (b : Int), i ≤ n ∧ iv = .int .i64 i ∧ bv = .int .i64 b ∧ Hid (BestT l ah i b) ∧ Hid (Ext wo wl))
        (fun _ iv _ => n - (intOf iv).toNat)
      case atStart => exact ⟨0, -1, Nat.zero_le _, rfl, rfl, BestT.start l ah, Ext.refl _⟩
      case round =>
        obtain ⟨i, bv, hi, rfl, rfl, HBT, HE⟩ := hrel
        by_cases hli : i < n
        · have hil : i < l.length := by rw [← HN.out]; exact hli
          rcases HA.out with h0 | ⟨b, o, e, hb, hcl⟩
          · subst h0; simp at hil
          subst e
          obtain ⟨y, hy⟩ : ∃ y, y = l[i] := ⟨_, rfl⟩
          have KB : Hid (∀ j (h : j < l.length), wr.cell? ⟨b, o + j * 2, none⟩ = some (vT l[j].1)) := fun j h => by
            have h1 : w1.cell? ⟨b, o + j * 2, none⟩ = some (vT l[j].1) := HE1.out.cell_some (hcl j h).1
            exact HE.out.cell_some ((HB.out.cell (Nat.lt_of_lt_of_le hb HE1.out.size)).trans h1)
          have c0 : wr.cell? ⟨b, o + i * 2, none⟩ = some (vT y.1) := by rw [hy]; exact KB.out i hil
          obtain ⟨yb, hyb⟩ : ∃ z : ByteArray, z = ⟨y.1.toArray⟩ := ⟨_, rfl⟩
          have g1 := less_T ah y.1
          have g2 := less_T y.1 ah
          have g3 := same_T y.1 ah
          unfold vT at c0
          rw [← hyb] at c0 g1 g2 g3
          rw [← HAB.out] at g1 g2 g3
          have i2 : (i : Int) < (n : Int) := by omega
          have HY := Lib.hid hy
          have HYB := Lib.hid hyb
          have HIL := Lib.hid hil
          clear hcl hyb hy
          have STEP : Hid (∀ q, Ext wo (wr.drewN q)) := fun q => HE.out.drewN q
          by_cases ha : ah < y.1
          · rw [decide_eq_false (fun h => str_asymm ha h)] at g2
            rw [decide_eq_false (fun (h : y.1 = ah) => str_irrefl _ (h ▸ ha))] at g3
            clear g1
            rcases HBT.out with ⟨hbv, h2⟩ | ⟨b2, hb2, hbv, h2, h3⟩
            · subst hbv
              have HB2 : Hid (BestT l ah (i + 1) (i : Int)) := BestT.first h2 HIL.out HY.out ha
              clear h2
              go_wp2_with fail
              go_quiet (fail)
              clear c0 g2 g3
              go_wp2_with fail
              go_roundw
              case rel => exact ⟨i + 1, (i : Int), by omega, by go_num, rfl, HB2.out, STEP.out _⟩
              case measure => simp [intOf]; omega
            · subst hbv
              have d0 := KB.out b2 hb2
              obtain ⟨z, hz⟩ : ∃ z, z = l[b2].1 := ⟨_, rfl⟩
              have HZ := Lib.hid hz
              rw [← hz] at d0
              obtain ⟨zb, hzb⟩ : ∃ x : ByteArray, x = ⟨z.toArray⟩ := ⟨_, rfl⟩
              have g4 := less_T y.1 z
              unfold vT at d0
              rw [← hzb] at d0 g4
              rw [← HYB.out] at g4
              have HB2' : Hid (b2 < l.length) := hb2
              have H2 := Lib.hid h2
              have H3 := Lib.hid h3
              have i4 : (b2 : Int) < (n : Int) := by have := HN.out; omega
              clear hz hzb h2 h3
              by_cases hl : y.1 < z
              · rw [decide_eq_true hl] at g4
                have HB2 : Hid (BestT l ah (i + 1) (i : Int)) := BestT.less hb2 H3.out HIL.out HY.out ha (HZ.out ▸ hl)
                go_wp2_with fail
                go_quiet (fail)
                clear c0 d0 g2 g3 g4
                go_wp2_with fail
                go_roundw
                case rel => exact ⟨i + 1, (i : Int), by omega, by go_num, rfl, HB2.out, STEP.out _⟩
                case measure => simp [intOf]; omega
              · rw [decide_eq_false hl] at g4
                have HB2 : Hid (BestT l ah (i + 1) (b2 : Int)) := BestT.keep hb2 H2.out H3.out HIL.out HY.out (HZ.out ▸ hl)
                go_wp2_with fail
                go_quiet (fail)
                clear c0 d0 g2 g3 g4
                go_wp2_with fail
                go_roundw
                case rel => exact ⟨i + 1, (b2 : Int), by omega, by go_num, rfl, HB2.out, STEP.out _⟩
                case measure => simp [intOf]; omega
          · have HB2 : Hid (BestT l ah (i + 1) bv) := HBT.out.skip HIL.out HY.out ha
            rw [decide_eq_false ha] at g1
            by_cases hc : y.1 < ah
            · rw [decide_eq_true hc] at g2
              rw [decide_eq_false (fun (h : y.1 = ah) => str_irrefl _ (h ▸ hc))] at g3
              go_wp2_with fail
              go_quiet (fail)
              clear c0 g1 g2 g3
              go_wp2_with fail
              go_roundw
              case rel => exact ⟨i + 1, bv, by omega, by go_num, rfl, HB2.out, STEP.out _⟩
              case measure => simp [intOf]; omega
            · rw [decide_eq_false hc] at g2
              rw [decide_eq_true (str_tri hc ha)] at g3
              go_wp2_with fail
              go_quiet (fail)
              clear c0 g1 g2 g3
              go_wp2_with fail
              go_roundw
              case rel => exact ⟨i + 1, bv, by omega, by go_num, rfl, HB2.out, STEP.out _⟩
              case measure => simp [intOf]; omega
        · have hin : i = n := by omega
          obtain ⟨b2, hb2, hbv, he⟩ := best_is HMy.out hkc (bv := bv) (by have := HBT.out; rwa [hin, HN.out, HAH.out] at this)
          subst hbv
          rcases HA.out with h0 | ⟨b, o, e, hb, hcl⟩
          · subst h0; simp at hb2
          subst e
          obtain ⟨y, hy⟩ : ∃ y, y = l[b2] := ⟨_, rfl⟩
          have HBr : Hid (Below w1.heap.size w1 wr) := HB.out.trans (HE.out.below.mono HB.out.size)
          obtain ⟨c0, c1⟩ : Cell2 wr b (o + b2 * 2) y := by rw [hy]; exact ((hcl b2 hb2).below HE1.out.below hb).below HBr.out (Nat.lt_of_lt_of_le hb HE1.out.size)
          have HT : Hid ((canonL l).take (k + 1) = (canonL l).take k ++ [y]) := by show _ = _; rw [List.take_succ_eq_append_getElem hkc, ← he, ← hy]
          have HAy : Hid (aheadS (canonL l) (k + 1) = y.1) := by
            show (((canonL l)[k]?).map (·.1)).getD [] = _
            rw [List.getElem?_eq_getElem hkc, ← he, ← hy]; rfl
          have HOr := Lib.hid (HO.out.below HE.out.below)
          obtain ⟨y1, hy1⟩ : ∃ x : ByteArray, x = ⟨y.1.toArray⟩ := ⟨_, rfl⟩
          obtain ⟨y2, hy2⟩ : ∃ x : ByteArray, x = ⟨y.2.toArray⟩ := ⟨_, rfl⟩
          have HY1 := Lib.hid hy1
          have i3 : ¬ (i : Int) < (n : Int) := by omega
          have i4 : (b2 : Int) < (n : Int) := by have := HN.out; omega
          obtain ⟨wp, hwp⟩ : ∃ wp, wp = wr.alloc (.cells #[.string y1, .string y2] 59) := ⟨_, rfl⟩
          have hbp : Below wr.heap.size wr wp := by rw [hwp]; exact (Below.refl _ _).alloc (Nat.le_refl _) _
          have HRp : Hid (RdL wp wp.heap.size (.slice (some ⟨wr.heap.size, 0, none⟩) 1 1) [y]) := by
            refine ⟨_, 1, rfl, Nat.le_refl _, .inr ⟨_, 0, rfl, by rw [hwp]; simp, fun j hj => ?_⟩⟩
            match j, hj with
            | 0, _ => exact ⟨by rw [hwp, hy1]; exact new_cell _ _ _ 0, by rw [hwp, hy2]; exact new_cell _ _ _ 1⟩
          have HOp : Hid (OwnL wp w1.heap.size (.slice C k cc) ((canonL l).take k)) := HOr.out.below hbp
          have HBp : Hid (Below w1.heap.size w1 wp) := HBr.out.trans (hbp.mono HBr.out.size)
          have HKl : Hid ((((canonL l).take k).length + [y].length) * 32 ≤ 140737488355328) := by show _ ≤ _; rw [List.length_take]; simp; omega
          have KCy : Hid (wp.cell? ⟨b, o + b2 * 2, none⟩ = some (.string y1)) := by
            show _ = _
            rw [(hbp.cell (lt_of_cell c0)), c0, hy1]; rfl
          have HLC := Lib.hid (lt_of_cell c0)
          unfold vT at c0 c1
          rw [← hy1] at c0
          rw [← hy2] at c1
          have HWP := Lib.hid hwp
          have HSZ := Lib.hid hbp.size
          clear hin hb2 he hcl hy hy1 hy2 hkc hbp hwp
          go_wp2_with (first | (at_builtin; rw [← HWP.out]; refine appNL rfl _ _ 24 rfl Tryz.underlying24 info_Lb w1.heap.size _ _ _ [y] _ rfl HOp.out rfl HRp.out (fun _ _ e => (by cases e)) HKl.out HBp.out.size ?_) | fail)
          intro v' w' hO' hg' _
          obtain ⟨A7, c7, hv7, _, _⟩ := hO'.rd
          have hlen : ((canonL l).take k ++ [y]).length = k + 1 := by rw [List.length_append, List.length_take]; have := HCL.out; simp; omega
          rw [hlen] at hv7
          subst hv7
          have hown := World.ownsRow.lt HOp.out
          have HB7 : Hid (Below w1.heap.size w1 w') := HBp.out.grown hg' HBp.out.size (fun g hg => (hown g hg).1)
          have f0 : w'.cell? ⟨b, o + b2 * 2, none⟩ = some (.string y1) := by
            refine (hg'.cell_far _ (lt_of_cell KCy.out) (fun e => ?_)).trans KCy.out
            have := (hown b e.symm).1
            have := HE1.out.size
            omega
          have HO7 : Hid (OwnL w' w1.heap.size (.slice A7 (k + 1) c7) ((canonL l).take (k + 1))) := by show OwnL _ _ _ _; rw [HT.out]; exact hO'
          have HAv : Hid (Value.string y1 = vT (aheadS (canonL l) (k + 1))) := by show _ = _; rw [HAy.out, HY1.out]; rfl
          clear hown hg' hO' hlen c0 c1
          go_wp2_with fail
          go_roundw
          case rel => exact ⟨k + 1, A7, c7, by omega, (by first | rfl | (congr 1)), HAv.out, HO7.out, HB7.out⟩
          case measure => simp; omega
    · have hkn : k = n := by omega
      have HO2 : Hid (OwnL wr W.heap.size (.slice C k cc) (canonL l)) := by
        have h := HO.out
        rw [List.take_of_length_le (by rw [HCL.out]; omega)] at h
        exact h.lower HE1.out.size
      have i1 : ¬ (k : Int) < (n : Int) := by omega
      have HBf : Hid (Below W.heap.size W wr) := HE1.out.below.trans (HB.out.mono HE1.out.size)
      clear hkn
      go_wp2_with fail
      go_ret2
      exact ⟨_, rfl, HO2.out, HBf.out⟩
end Go.Proofs.YtkgcbeokfilehaaGreatDoor

/-
  The reference's oracle: New, Clock, Takes.
-/
namespace Go.Proofs.YtkgcbeokfilehaaGreatDoor
open Go.RowKit Go.Sort Go.Maps
/-- The reference's oracle as a value. -/
def vO (every keep now : Int) (L : Value) : Value := .agg #[.int .i64 every, .int .i64 keep, .int .i64 now, L]
set_option maxHeartbeats 1000000 in
/-- eskerref20.New. -/
theorem ref_new (every keep : Int) (W : World) : Calls Tryz.prog 20 #[.int .i64 every, .int .i64 keep] W fun e w' => e = .returned (vO every (keepN keep) 0 (.slice none 0 0)) ∧ Ext W w' := by
  obtain ⟨y, hy⟩ : ∃ y, min (max keep 1) 1099511627776 = y := ⟨_, rfl⟩
  have hy2 : keepN keep = y := hy
  have hr : Tryz.f20.results = #[.cell 4 65] := by kernel_rfl
  rw [hy2]
  unfold vO
  clear hy2
  go_enter Tryz.func20, Tryz.ntmps20
  go_wp2_with fail
  refine bodyPost_ret (v := .agg #[.int .i64 every, .int .i64 y, .int .i64 0, .slice none 0 0]) ?_ rfl ⟨rfl, (Ext.refl W).alloc _⟩
  unfold results
  rw [hr]
  go_simp
set_option maxHeartbeats 1000000 in
/-- eskerref20.Clock. -/
theorem ref_clock (every keep now x : Int) (A : Option Addr) (n c : Nat) (W : World) : Calls Tryz.prog 50 #[vO every keep now (.slice A n c), .int .i64 x] W fun e w' => e = .returned (vO every keep (clkN now x) (.slice A n c)) ∧ Below W.heap.size W w' := by
  obtain ⟨y, hy⟩ : ∃ y, max now (min x 1099511627776) = y := ⟨_, rfl⟩
  have hy2 : clkN now x = y := hy
  have hr : Tryz.f50.results = #[.cell 4 65] := by kernel_rfl
  rw [hy2]
  unfold vO
  clear hy2
  go_enter Tryz.func50, Tryz.ntmps50
  go_wp2_with fail
  refine bodyPost_ret (v := .agg #[.int .i64 every, .int .i64 keep, .int .i64 y, .slice A n c]) ?_ rfl ⟨rfl, (((Ext.refl W).alloc _).alloc _).below⟩
  unfold results
  rw [hr]
  go_simp
theorem takes_eq (keep now : Int) (l : Lbs) (s : Smp) : takesR keep now (l, s) = (mayL l && rightS s && decide (s.1 ≤ now + 100) && decide (now - keep < s.1)) := rfl
set_option maxRecDepth 100000 in
set_option maxHeartbeats 1000000 in
/-- eskerref20.Takes. -/
theorem ref_takes (every keep now : Int) (A : Option Addr) (n c : Nat) (lv : Value) (l : Lbs) (s : Smp) (W : World) (hR : RdL W W.heap.size lv l) (hv : ∀ x ∈ l, x.1.length ≤ 140737488355328 ∧ x.2.length ≤ 140737488355328) (hbd : 1 ≤ keep ∧ keep ≤ 1099511627776 ∧ 0 ≤ now ∧ now ≤ 1099511627776) :
    Calls Tryz.prog 23 #[vO every keep now (.slice A n c), vR lv s] W fun e w' => e = .returned (.bool (takesR keep now (l, s))) ∧ Ext W w' := by
  obtain ⟨t, m, x, z⟩ := s
  have KR : Hid (∀ w, Calls Tryz.prog 53 #[.agg #[.int .i64 t, .int .i64 m, .int .i64 x, .int .i64 z]] w fun e w' => e = .returned (.bool (rightS (t, m, x, z))) ∧ Ext w w') := fun w => rrightS_walk (t, m, x, z) w
  rw [takes_eq]
  obtain ⟨LA, lc, rfl, hlc, hLA⟩ := id hR
  obtain ⟨ln, hln⟩ : ∃ ln, ln = l.length := ⟨_, rfl⟩
  rw [← hln] at hR ⊢
  obtain ⟨W1, hW1⟩ : ∃ W1, W1 = (W.alloc (.cells #[.int .i64 every, .int .i64 keep, .int .i64 now, .slice A n c] 65)).alloc (.cells #[.slice LA ln lc, .int .i64 t, .int .i64 m, .int .i64 x, .int .i64 z] 28) := ⟨_, rfl⟩
  have HE1 : Hid (Ext W W1) := by show Ext _ _; rw [hW1]; exact ((Ext.refl W).alloc _).alloc _
  have KC : Hid (∀ w, Ext W1 w → w.cell? ⟨W.heap.size, 1, none⟩ = some (.int .i64 keep) ∧ w.cell? ⟨W.heap.size, 2, none⟩ = some (.int .i64 now) ∧ w.cell? ⟨W.heap.size + 1, 0, none⟩ = some (.slice LA ln lc) ∧ w.cell? ⟨W.heap.size + 1, 1, none⟩ = some (.int .i64 t) ∧ w.cell? ⟨W.heap.size + 1, 2, none⟩ = some (.int .i64 m) ∧ w.cell? ⟨W.heap.size + 1, 3, none⟩ = some (.int .i64 x) ∧ w.cell? ⟨W.heap.size + 1, 4, none⟩ = some (.int .i64 z)) := fun w h => by
    refine ⟨h.cell_some ?_, h.cell_some ?_, h.cell_some ?_, h.cell_some ?_, h.cell_some ?_, h.cell_some ?_, h.cell_some ?_⟩ <;> (rw [hW1]; simp)
  have KM := ref_may (.slice LA ln lc) l W1 (hR.on HE1.out.below) hv
  have KM := Lib.hid KM
  obtain ⟨q, hq⟩ : ∃ q, q = mayL l := ⟨_, rfl⟩
  obtain ⟨r, hr⟩ : ∃ r, r = rightS (t, m, x, z) := ⟨_, rfl⟩
  rw [← hq] at KM ⊢
  rw [← hr] at KR ⊢
  obtain ⟨a0, a1, a2, a3, a4, a5, a6⟩ := KC.out W1 (Ext.refl _)
  have HA := Lib.hid (And.intro a0 a3)
  clear hq hr hR hv hln hlc hLA a0 a1 a3 a4 a5 a6
  obtain ⟨p1, hp1⟩ : ∃ p, p = decide (t ≤ now + 100) := ⟨_, rfl⟩
  obtain ⟨p2, hp2⟩ : ∃ p, p = decide (now - keep < t) := ⟨_, rfl⟩
  have e1 : decide (t ≤ now + 100) = p1 := hp1.symm
  have e2 : decide (now - keep < t) = p2 := hp2.symm
  show Calls _ _ _ _ fun e w' => e = .returned (.bool (q && r && decide (t ≤ now + 100) && decide (now - keep < t))) ∧ Ext W w'
  rw [e1, e2]
  clear hp1 hp2
  unfold vO vR
  go_enter Tryz.func23, Tryz.ntmps23
  go_wp2_with fail
  rw [← hW1]
  clear hW1 a2
  refine KM.out.mono ?_
  rintro e w2 ⟨rfl, hE2⟩
  obtain ⟨a0, a1, a2, a3, a4, a5, a6⟩ := KC.out w2 hE2
  have HE2 := Lib.hid hE2
  clear hE2 KM
  go_wp2_with fail
  refine (KR.out _).mono ?_
  rintro e w3 ⟨rfl, hE3⟩
  have hE3' := HE2.out.trans hE3
  obtain ⟨b0, b1, b2, b3, b4, b5, b6⟩ := KC.out w3 hE3'
  have HE3 := Lib.hid hE3'
  clear hE3 hE3' a0 a1 a2 a3 a4 a5 a6 KR
  cases q <;> cases r <;> cases p1 <;> cases p2 <;>
    (go_wp2_with fail; first | (go_ret; exact ⟨ret_bool (by simp [*]), HE1.out.trans HE3.out⟩) | trace_state)
end Go.Proofs.YtkgcbeokfilehaaGreatDoor

/-
  Rows of elements of any plain kind: readable ones, own ones; append of one, of many; parts of a row.
-/
namespace Go.Proofs.YtkgcbeokfilehaaGreatDoor
open Go.RowKit Go.Sort
theorem new_cellG (w : World) (cs : Array Value) (t : TypeId) (i : Nat) : (w.alloc (.cells cs t)).cell? ⟨w.heap.size, i, none⟩ = cs[i]? := by
  unfold World.cell?; rw [heap_alloc_new]; rfl
theorem of_infoG {P : Program} {e : TypeId} {z : Value} {s b : Nat} (h : (P.info? e).map (fun i => (i.zero, i.size, i.bytes)) = some (some z, s, b)) : ∃ i, P.info? e = some i ∧ i.zero = some z ∧ i.size = s ∧ i.bytes = b := by
  cases hi : P.info? e with
  | none => rw [hi] at h; cases h
  | some i =>
    rw [hi] at h
    simp only [Option.map_some, Option.some.injEq, Prod.mk.injEq] at h
    exact ⟨i, rfl, h.1, h.2.1, h.2.2⟩
/-- How an element lies in cells. -/
structure Enc (α : Type) where
  k : Nat
  enc : α → List Value
  len : ∀ x, (enc x).length = k
  one : ∀ x, ∀ u ∈ enc x, u.oneCell' = true
  pos : 0 < k
section
variable {α : Type} (E : Enc α)
def Enc.flat (l : List α) : List Value := l.flatMap E.enc
theorem Enc.flat_len (l : List α) : (E.flat l).length = l.length * E.k := by
  induction l with
  | nil => simp [Enc.flat]
  | cons a l ih => unfold Enc.flat at *; rw [List.flatMap_cons, List.length_append, List.length_cons, ih, E.len, Nat.add_mul, Nat.one_mul, Nat.add_comm]
theorem Enc.flat_app (a b : List α) : E.flat (a ++ b) = E.flat a ++ E.flat b := by unfold Enc.flat; simp
theorem Enc.flat_at (l : List α) : ∀ (i j : Nat) (h : i < l.length), j < E.k → (E.flat l)[i * E.k + j]? = (E.enc l[i])[j]? := by
  induction l with
  | nil => intro i j h; simp at h
  | cons a l ih =>
    intro i j h hj
    cases i with
    | zero => unfold Enc.flat; rw [List.flatMap_cons, Nat.zero_mul, Nat.zero_add, List.getElem?_append_left (by rw [E.len]; exact hj)]; rfl
    | succ i =>
      have := ih i j (by simpa using h) hj
      unfold Enc.flat at *
      rw [List.flatMap_cons, show (i + 1) * E.k + j = (E.enc a).length + (i * E.k + j) by rw [E.len, Nat.add_mul]; omega, List.getElem?_append_right (by omega), Nat.add_sub_cancel_left, this]; rfl
theorem Enc.flat_cell (l : List α) : ∀ u ∈ E.flat l, u.oneCell' = true := by
  intro u hu
  unfold Enc.flat at hu
  obtain ⟨x, _, hx⟩ := List.mem_flatMap.1 hu
  exact E.one x u hx
/-- An element's cells. -/
def CellG (w : World) (b o : Nat) (x : α) : Prop := ∀ j, j < E.k → w.cell? ⟨b, o + j, none⟩ = (E.enc x)[j]?
/-- A row that can be read: below block B. -/
def RdG (w : World) (B : Nat) (v : Value) (l : List α) : Prop :=
  ∃ A c, v = .slice A l.length c ∧ l.length ≤ c ∧ (A = none → c = 0) ∧ (l = [] ∨ ∃ b o, A = some ⟨b, o, none⟩ ∧ b < B ∧ ∀ i (h : i < l.length), CellG E w b (o + i * E.k) l[i])
/-- A row of one's own. -/
def OwnG (ty : TypeId) (w : World) (base : Nat) (v : Value) (l : List α) : Prop := w.ownsRow base ty E.k v l.length (E.flat l)
variable {E} {w w' : World} {B B' base : Nat} {v : Value} {l : List α} {ty : TypeId}
theorem CellG.below {b o : Nat} {x : α} (h : CellG E w b o x) (k : Below B w w') (hb : b < B) : CellG E w' b o x := fun j hj => (k.cell hb).trans (h j hj)
theorem CellG.lt {b o : Nat} {x : α} (h : CellG E w b o x) : b < w.heap.size := by
  have h1 := h 0 E.pos
  have h2 : 0 < (E.enc x).length := by rw [E.len]; exact E.pos
  rw [List.getElem?_eq_getElem h2] at h1
  exact lt_of_cell h1
theorem CellG.on {b o : Nat} {x : α} (h : CellG E w b o x) (k : Below w.heap.size w w') : CellG E w' b o x := h.below k h.lt
theorem CellG.mk {w : World} {x : α} {cs : Array Value} (h : cs.toList = E.enc x) (t : TypeId) : CellG E (w.alloc (.cells cs t)) w.heap.size 0 x := fun j hj => by
  rw [Nat.zero_add]
  have : (w.alloc (.cells cs t)).cell? ⟨w.heap.size, j, none⟩ = cs[j]? := new_cellG _ _ _ j
  rw [this, ← h]; simp
theorem RdG.below (h : RdG E w B v l) (k : Below B w w') : RdG E w' B v l := by
  obtain ⟨A, c, h1, h2, h3, h4⟩ := h
  exact ⟨A, c, h1, h2, h3, h4.imp id fun ⟨b, o, e, hb, hc⟩ => ⟨b, o, e, hb, fun i hi => (hc i hi).below k hb⟩⟩
theorem RdG.mono (h : RdG E w B v l) (k : B ≤ B') : RdG E w B' v l := by
  obtain ⟨A, c, h1, h2, h3, h4⟩ := h
  exact ⟨A, c, h1, h2, h3, h4.imp id fun ⟨b, o, e, hb, hc⟩ => ⟨b, o, e, Nat.lt_of_lt_of_le hb k, hc⟩⟩
theorem RdG.on (h : RdG E w w.heap.size v l) (k : Below w.heap.size w w') : RdG E w' w'.heap.size v l := (h.below k).mono k.size
theorem RdG.nil (w : World) (B : Nat) : RdG E w B (.slice none 0 0) [] := ⟨none, 0, rfl, Nat.le_refl _, fun _ => rfl, .inl rfl⟩
theorem OwnG.nil (w : World) (base : Nat) : OwnG E ty w base (.slice none 0 0) [] := ⟨by simp [Enc.flat], .inl ⟨rfl, rfl⟩⟩
theorem OwnG.cell {w : World} {g : Nat} {cur : Array Value} (hh : w.heap[g]? = some (.cells cur ty (0, 0))) (ht : cur.toList.take (l.length * E.k) = E.flat l) (i : Nat) (hi : i < l.length) : CellG E w g (0 + i * E.k) l[i] := fun j hj => by
  have e1 : w.cell? ⟨g, 0 + i * E.k + j, none⟩ = cur[0 + i * E.k + j]? := by simp [World.cell?, hh]
  have e2 := E.flat_at l i j hi hj
  have hlt : i * E.k + j < l.length * E.k := by
    calc i * E.k + j < i * E.k + E.k := by omega
      _ = (i + 1) * E.k := by rw [Nat.add_mul, Nat.one_mul]
      _ ≤ l.length * E.k := Nat.mul_le_mul_right _ (by omega)
  have e3 : (cur.toList.take (l.length * E.k))[i * E.k + j]? = cur.toList[i * E.k + j]? := List.getElem?_take_of_lt hlt
  rw [e1, Nat.zero_add, ← e2, ← ht, e3, Array.getElem?_toList]
theorem OwnG.rd (h : OwnG E ty w base v l) : RdG E w w.heap.size v l := by
  rcases h.2 with ⟨rfl, h0⟩ | ⟨g, cap, cur, rfl, hb, hh, hn, hm, hcs, ht⟩
  · have : l = [] := List.eq_nil_of_length_eq_zero h0
    subst this
    exact RdG.nil _ _
  · exact ⟨_, cap, rfl, hn, fun e => (by cases e), .inr ⟨g, 0, rfl, (Array.getElem?_eq_some_iff.1 hh).1, fun i hi => OwnG.cell hh ht i hi⟩⟩
theorem OwnG.kept {row : Option Nat} (h : OwnG E ty w base v l) (hg : w.grownBy w' row) (hne : v.ownBlock = none ∨ v.ownBlock ≠ row) : OwnG E ty w' base v l := World.ownsRow.kept h hg hne
theorem OwnG.alloc (h : OwnG E ty w base v l) (o : Obj) : OwnG E ty (w.alloc o) base v l := World.ownsRow.alloc h o
theorem OwnG.below (h : OwnG E ty w base v l) (k : Below w.heap.size w w') : OwnG E ty w' base v l := by
  obtain ⟨h1, h2⟩ := h
  refine ⟨h1, h2.imp id fun ⟨g, cap, cur, hv, hg, hh, r⟩ => ⟨g, cap, cur, hv, hg, by rw [k.block g (Array.getElem?_eq_some_iff.1 hh).1]; exact hh, r⟩⟩
theorem OwnG.lower {base' : Nat} (h : OwnG E ty w base v l) (k : base' ≤ base) : OwnG E ty w base' v l :=
  ⟨h.1, h.2.imp id fun ⟨g, cap, cur, hv, hg, r⟩ => ⟨g, cap, cur, hv, Nat.le_trans k hg, r⟩⟩
theorem OwnG.blk (h : OwnG E ty w base v l) {k : Nat} (hk : v.ownBlock = some k) : base ≤ k ∧ k < w.heap.size := World.ownsRow.lt h k hk
/-- What an append did: the world that is had, and the row. -/
theorem OwnG.step {W : World} (h : OwnG E ty w base v l) (hB : Below base W w) (hb : base ≤ w.heap.size) (hg : w.grownBy w' v.ownBlock) : Below base W w' :=
  hB.grown hg hb (fun _ e => (h.blk e).1)
theorem RdG.cutTo {A : Option Addr} {n c k : Nat} (hn : n = l.length) (h : RdG E w B (.slice A n c) l) (hk : k ≤ n) : RdG E w B (.slice A k c) (l.take k) := by
  obtain ⟨A', c', e, hc, hz, hA⟩ := h
  injection e with e1 e2 e3
  subst e1 e3
  have hl : (l.take k).length = k := by rw [List.length_take]; omega
  refine ⟨A, c, by rw [hl], by omega, hz, ?_⟩
  rcases hA with rfl | ⟨b, o, rfl, hb, hcl⟩
  · left; simp
  · right
    refine ⟨b, o, rfl, hb, fun i hi => ?_⟩
    have hi' : i < l.length := by omega
    rw [List.getElem_take]
    exact hcl i hi'
theorem RdG.cutFrom {b o : Nat} {n c k : Nat} (hn : n = l.length) (h : RdG E w B (.slice (some ⟨b, o, none⟩) n c) l) (hk : k ≤ n) : RdG E w B (.slice (some ⟨b, o + k * E.k, none⟩) (n - k) (c - k)) (l.drop k) := by
  obtain ⟨A', c', e, hc, hz, hA⟩ := h
  injection e with e1 e2 e3
  subst e1 e3
  have hl : (l.drop k).length = n - k := by rw [List.length_drop]; omega
  refine ⟨_, c - k, by rw [hl], by omega, fun e => (by cases e), ?_⟩
  rcases hA with rfl | ⟨b', o', e, hb, hcl⟩
  · left; simp
  · injection e with e
    injection e with e1 e2
    subst e1 e2
    right
    refine ⟨b, _, rfl, hb, fun i hi => ?_⟩
    have := hcl (k + i) (by omega)
    rw [show o + k * E.k + i * E.k = o + (k + i) * E.k by rw [Nat.add_mul]; omega, List.getElem_drop]
    exact this
end
section
variable {α : Type} {E : Enc α} {P : Program} {w : World} {ops : Array Oper} {rest : List Oper} {o : Oper} {a : Act} {Q : Exit → Act → World → Prop}
theorem CellG.news {b off : Nat} {x : α} (h : CellG E w b off x) : ∀ j u, (E.enc x)[j]? = some u → w.cell? ((⟨b, off, none⟩ : Addr).add j) = some u := by
  intro j u hj
  have hlt : j < E.k := by rw [← E.len x]; exact (List.getElem?_eq_some_iff.1 hj).1
  have : (⟨b, off, none⟩ : Addr).add j = ⟨b, off + j, none⟩ := by unfold Addr.add; split <;> simp_all
  rw [this, h j hlt, hj]
theorem cells_news {b off : Nat} {l : List α} (h : ∀ i (h : i < l.length), CellG E w b (off + i * E.k) l[i]) : ∀ j u, (E.flat l)[j]? = some u → w.cell? ((⟨b, off, none⟩ : Addr).add j) = some u := by
  intro t u hu
  have ht : t < l.length * E.k := by
    have := (List.getElem?_eq_some_iff.1 hu).1
    rwa [E.flat_len] at this
  have hk := E.pos
  obtain ⟨i, j, hi, hj, rfl⟩ : ∃ i j, i < l.length ∧ j < E.k ∧ t = i * E.k + j :=
    ⟨t / E.k, t % E.k, (Nat.div_lt_iff_lt_mul hk).2 ht, Nat.mod_lt _ hk, by rw [Nat.mul_comm]; exact (Nat.div_add_mod t E.k).symm⟩
  rw [E.flat_at l i j hi hj] at hu
  have := (h i hi).news j u hu
  have e : ∀ n, (⟨b, off, none⟩ : Addr).add n = ⟨b, off + n, none⟩ := fun n => by unfold Addr.add; split <;> simp_all
  have e2 : ∀ m n, (⟨b, m, none⟩ : Addr).add n = ⟨b, m + n, none⟩ := fun m n => by unfold Addr.add; split <;> simp_all
  rw [e2] at this
  rw [e, ← Nat.add_assoc]; exact this
end
end Go.Proofs.YtkgcbeokfilehaaGreatDoor
