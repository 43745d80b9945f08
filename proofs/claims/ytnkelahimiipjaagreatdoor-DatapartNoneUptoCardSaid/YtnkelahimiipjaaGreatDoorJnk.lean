/-
 DatapartBack: what is built is opened, and built again it is the same; cut short, or with more behind, it is none.
-/
import Derived.Test.YtnkelahimiipjaaGreatDoorJhk
import Derived.Test.YtnkelahimiipjaaGreatDoorQpk
import Derived.Lib.LaidTab
import Derived.Test.YtnkelahimiipjaaGreatDoorHdk
import Derived.Test.YtnkelahimiipjaaGreatDoorHpk
namespace Go.Proofs.YtnkelahimiipjaaGreatDoor
open Go.RowKit Go.Sort
theorem build_bad {l : List Pts} (h : (buildV l).1 ≠ 0) : (buildV l).2 = [] := by
 unfold buildV at *
 split
 ·rfl
 ·split
  ·rfl
  ·split
   ·rfl
   ·rename_i h1 h2 h3
    rw [if_neg h1, if_neg h2, if_neg h3] at h
    exact absurd rfl h
/-- A number's low sixteen bits. -/
theorem and_low (x : Int) : ∃ m : Nat, m ≤ 65535 ∧ bits .and .i64 x 65535 = (m : Int) := by
 obtain ⟨y, hy⟩ : ∃ y, y = (BitVec.ofInt 64 x).toNat := ⟨_, rfl⟩
 refine ⟨y &&& 65535, Nat.and_le_right, ?_⟩
 have h : bits .and .i64 x 65535 = IntKind.i64.wrap ((BitVec.ofInt 64 x &&& BitVec.ofInt 64 65535).toNat : Int) := rfl
 rw [h, BitVec.toNat_and, ← hy]
 have e : (BitVec.ofInt 64 65535).toNat = 65535 := by decide
 rw [e]
 have hl : y &&& 65535 ≤ 65535 := Nat.and_le_right
 exact IntWalk.i64_in _ (by omega)
theorem open_short {b : List Nat} {c : List Pts} (h : openV b = some c) {k : Nat} (hk : k < b.length) : openV (b.take k) = none := by
 cases h1 : openV (b.take k) with
 | none => rfl
 | some c' =>
   have e := open_cut (r := b.drop k) h1 (by rw [List.take_append_drop]; exact h)
   have : (b.drop k).length = 0 := by rw [e]; rfl
   rw [List.length_drop] at this
   omega
theorem open_long {b : List Nat} {c : List Pts} (h : openV b = some c) : openV (b ++ [0]) = none := by
 cases h1 : openV (b ++ [0]) with
 | none => rfl
 | some c' => exact absurd (open_cut h h1) (by simp)
theorem own_empty {α : Type} {E : Enc α} (w : World) (ty : TypeId) {base : Nat} (hb : base ≤ w.heap.size) : OwnG E ty (w.alloc (.cells #[] ty)) base (.slice (some ⟨w.heap.size, 0, none⟩) 0 0) [] :=
 ⟨by simp [Enc.flat], .inr ⟨w.heap.size, 0, #[], rfl, hb, heap_alloc_new w _, Nat.le_refl _, by decide, by simp, by simp [Enc.flat]⟩⟩
set_option maxRecDepth 100000 in
set_option maxHeartbeats 4000000 in
theorem back_walk (v : Value) (l : List Pts) (cut : Int) (W : World) (T : Tabs W) (hT : TabT W) (hH : TabH W) (hR : RdP W W.heap.size v l) (hwf : ∀ p ∈ l, (Lit.int .i64 p.1).wf = true) (h1 : l.length ≤ 1048576) (h2 : manyL l ≤ 1048576) :
  Calls Tryz.prog 5 #[v, .int .i64 cut] W fun e w' => e = .returned (.bool true) ∧ Below W.heap.size W w' := by
 have KA := Lib.hid (awake17_walk W T hT hH)
 have HTT : Hid (∀ w, Below W.heap.size W w → Tabs w) := fun w h => T.below h
 have HT : Hid (∀ w, Below W.heap.size W w → TabT w) := fun w h i hi => (h.cell (lt_of_cell (hT i hi))).trans (hT i hi)
 have HH : Hid (∀ w, Below W.heap.size W w → TabH w) := fun w h => TabH.below hH h
 have HR : Hid (∀ w, Below W.heap.size W w → RdP w w.heap.size v l) := fun w h => hR.on h
 have HW := Lib.hid hwf
 have HS : Hid (l.length ≤ 1048576 ∧ manyL l ≤ 1048576) := ⟨h1, h2⟩
 obtain ⟨A, c, rfl, _⟩ := hR
 obtain ⟨n, hn⟩ : ∃ n, n = l.length := ⟨_, rfl⟩
 rw [← hn] at HR ⊢
 clear T hT hH hwf h1 h2 hn
 go_enter Tryz.func5, Tryz.ntmps5
 go_wp2_with fail
 refine KA.out.mono ?_
 rintro e w1 ⟨rfl, hB1⟩
 have HB1 := Lib.hid hB1
 have KF := Lib.hid (few17_walk _ l w1 (HR.out w1 hB1) HS.out.1 HS.out.2)
 clear hB1 KA
 go_wp2_with fail
 refine KF.out.mono ?_
 rintro e wx ⟨rfl, hwx⟩
 have hwx := hwx.symm
 subst hwx
 clear KF
 by_cases hf : l.length + manyL l ≤ 200
 ·rw [decide_eq_true hf]
  have KB := Lib.hid (build_walk _ l w1 (HTT.out _ HB1.out) (HT.out _ HB1.out) (HH.out _ HB1.out) (HR.out _ HB1.out) HW.out (by have := HS.out; omega) (by have := HS.out; omega))
  go_wp2_with fail
  refine KB.out.mono ?_
  rintro e w2 ⟨v2, rfl, hO2, hB2⟩
  obtain ⟨A2, n2, c2, rfl⟩ := hO2.sl
  have HB2 : Hid (Below W.heap.size W w2) := HB1.out.trans (hB2.mono HB1.out.size)
  have hlen := hO2.len
  obtain ⟨bc, hbc⟩ : ∃ bc, bc = (buildV l).1 := ⟨_, rfl⟩
  rw [← hbc]
  by_cases hb0 : bc = 0
  ·subst hb0
   obtain ⟨bf, hbf⟩ : ∃ bf, bf = (buildV l).2 := ⟨_, rfl⟩
   have hbe : buildV l = (0, bf) := by rw [hbc, hbf]
   rw [← hbf] at hO2 hlen
   have hfil := Fil.of hbe
   have hop := open_file hbe
   have hby : ∀ x ∈ bf, x < 256 := by rw [hbf]; exact build_byte
   have hsh : bf.length ≤ 220000 := by
    have h3 := build_ok (build_has hbe).1 (build_has hbe).2.1 (build_has hbe).2.2
    rw [h3] at hbe
    injection hbe with _ h4
    rw [← h4]
    exact file_short hfil (by omega)
   have KO := Lib.hid (open_c _ bf w2 (HTT.out _ HB2.out) (HT.out _ HB2.out) (HH.out _ HB2.out) hO2.rd hby (by omega))
   have HO2 := Lib.hid hO2
   have HFI := Lib.hid hfil
   have HOP := Lib.hid hop
   have HBY := Lib.hid hby
   have HSH := Lib.hid hsh
   have HBE := Lib.hid hbe
   have HLEN := Lib.hid hlen
   clear hO2 hB2 hlen hbc hbf hbe hfil hop hby hsh KB
   go_wp2_with fail
   refine KO.out.mono ?_
   rintro e w3 ⟨hB3, ⟨hn, _⟩ | ⟨c9, pb, ho, _, rfl, hP3⟩⟩
   ·rw [HOP.out] at hn; cases hn
   rw [HOP.out] at ho
   injection ho with ho
   subst ho
   have HB3 : Hid (Below W.heap.size W w3) := HB2.out.trans (hB3.mono HB2.out.size)
   have HP3 := Lib.hid hP3
   have HO3 := Lib.hid (HO2.out.below hB3)
   have KAl := Lib.hid (prt_all hP3 (HTT.out _ HB3.out) HFI.out)
   clear hB3 hP3 KO
   go_wp2_with fail
   refine KAl.out.mono ?_
   rintro e w4 ⟨r4, rfl, hO4, hB4⟩
   have HB4 : Hid (Below W.heap.size W w4) := HB3.out.trans (hB4.mono HB3.out.size)
   have HP4 := Lib.hid (HP3.out.on hB4)
   have HO4 := Lib.hid (HO3.out.below hB4)
   have KB2 := Lib.hid (build_walk r4 l w4 (HTT.out _ HB4.out) (HT.out _ HB4.out) (HH.out _ HB4.out) hO4.rdP HW.out (by have := HS.out; omega) (by have := HS.out; omega))
   obtain ⟨A4, c4, rfl, _⟩ := hO4
   clear hB4 KAl
   go_wp2_with fail
   refine KB2.out.mono ?_
   rintro e w5 ⟨v5, rfl, hO5, hB5⟩
   rw [HBE.out] at hO5 ⊢
   dsimp only at hO5 ⊢
   obtain ⟨A5, n5, c5, rfl⟩ := hO5.sl
   have HB5 : Hid (Below W.heap.size W w5) := HB4.out.trans (hB5.mono HB4.out.size)
   have HP5 := Lib.hid (HP4.out.on hB5)
   have HO5 := Lib.hid (HO4.out.below hB5)
   have HA5 := Lib.hid hO5
   clear hO5 hB5 KB2
   obtain ⟨m, hm, hmb⟩ := and_low cut
   have hpos : 0 < n2 := by
    rw [HLEN.out]
    have h3 := build_ok (build_has HBE.out).1 (build_has HBE.out).2.1 (build_has HBE.out).2.2
    rw [HBE.out] at h3
    injection h3 with _ h4
    rw [h4]
    unfold fileB tail4
    simp
    omega
   obtain ⟨kc, hkc⟩ : ∃ kc, kc = m % n2 := ⟨_, rfl⟩
   have hkl : kc < n2 := by rw [hkc]; exact Nat.mod_lt _ hpos
   have hrem : (m : Int).tmod (n2 : Int) = (kc : Int) := by rw [hkc]; rfl
   have g0 : ((n2 : Int) == 0) = false := by simp; omega
   have g00 : (n2 : Int) ≠ 0 := by omega
   obtain ⟨_, c22, e22, hc22, _⟩ := HO5.out.rd
   have hcc : c22 = c2 ∧ n2 ≤ c2 := by
    injection e22 with _ e1 e2
    exact ⟨e2.symm, by rw [e2]; omega⟩
   have i1 : kc ≤ c2 := by omega
   have hRk := HO5.out.rd.cutTo HLEN.out (Nat.le_of_lt hkl)
   have KO2 := Lib.hid (open_c _ (bf.take kc) w5 (HTT.out _ HB5.out) (HT.out _ HB5.out) (HH.out _ HB5.out) hRk (fun x hx => HBY.out x (List.mem_of_mem_take hx)) (by rw [List.length_take]; have := HSH.out; omega))
   have HSHRT := Lib.hid (open_short HOP.out (by rw [← HLEN.out]; exact hkl : kc < bf.length))
   clear e22 hc22 hkc hRk
   go_wp2_with fail
   refine KO2.out.mono ?_
   rintro e w6 ⟨hB6, hOr⟩
   obtain rfl : e = .returned (.tuple #[.pointer none, .int .i64 170]) := by
    rcases hOr with ⟨_, h⟩ | ⟨c9, pb9, ho, _⟩
    ·exact h
    ·rw [HSHRT.out] at ho; cases ho
   clear hOr
   have HB6 : Hid (Below W.heap.size W w6) := HB5.out.trans (hB6.mono HB5.out.size)
   have HP6 := Lib.hid (HP5.out.on hB6)
   have HO6 := Lib.hid (HO5.out.below hB6)
   have HA6 := Lib.hid (HA5.out.below hB6)
   have hOE : OwnG EB 5 (w6.alloc (.cells #[] 5)) w6.heap.size (.slice (some ⟨w6.heap.size, 0, none⟩) 0 0) [] := own_empty w6 5 (Nat.le_refl _)
   have HOE := Lib.hid hOE
   have hbe : Below w6.heap.size w6 (w6.alloc (.cells #[] 5)) := (Below.refl _ _).alloc (Nat.le_refl _) _
   have HRB := Lib.hid (HO6.out.rd.on hbe)
   have HL6 : Hid ((0 + bf.length) * 1 ≤ 140737488355328) := by have := HSH.out; show _ ≤ _; omega
   clear hB6 KO2 hOE hbe
   go_wp2_with (first | (at_builtin; refine appNG EB rfl _ _ 23 5 rfl Tryz.underlying23 info_b rfl (by decide) w6.heap.size _ [] _ bf _ rfl HOE.out rfl HRB.out HL6.out ?c6 ?_) | fail)
   case c6 => simp
   intro v7 w7 hown hg hloc
   have HB7 : Hid (Below W.heap.size W w7) := (HB6.out.trans (((Below.refl w6.heap.size w6).alloc (Nat.le_refl _) _).mono HB6.out.size)).grown hg (by have := HB6.out.size; simp; omega) (fun k e => by have := (HOE.out.blk e).1; have := HB6.out.size; omega)
   have hb67 : Below w6.heap.size w6 w7 := HOE.out.step ((Below.refl w6.heap.size w6).alloc (Nat.le_refl _) _) (by simp) hg
   have HP7 := Lib.hid (HP6.out.on hb67)
   have HO7 := Lib.hid (HO6.out.below hb67)
   have HA7 := Lib.hid (HA6.out.below hb67)
   have HOV := Lib.hid hown
   obtain ⟨A7, n7, c7, e7⟩ := hown.sl
   subst e7
   have hz67 := hb67.size
   have HZ67 := Lib.hid hz67
   have HRO := Lib.hid (RdG.oneB 0 w7)
   have HL7 : Hid ((bf.length + [0].length) * 1 ≤ 140737488355328) := by have := HSH.out; show _ ≤ _; simp; omega
   have HB67 := Lib.hid hb67
   clear hown hg hloc hb67 hz67 HRB HOE
   go_wp2_with (first | (at_builtin; refine appNG EB rfl _ _ 23 5 rfl Tryz.underlying23 info_b rfl (by decide) w6.heap.size _ bf _ [0] _ rfl (HOV.out.alloc _) rfl HRO.out HL7.out ?c7 ?_) | fail)
   case c7 => have := HZ67.out; simp; omega
   intro v8 w8 hown hg hloc
   have hb78 : Below w6.heap.size w7 w8 := HOV.out.alloc (.cells #[.int .u8 0] 5) |>.step (((Below.refl w7.heap.size w7).alloc (Nat.le_refl _) _).mono HZ67.out) (by have := HZ67.out; simp; omega) hg
   have hb68 := HB67.out.trans hb78
   have HB8 : Hid (Below W.heap.size W w8) := HB6.out.trans (hb68.mono HB6.out.size)
   have HP8 := Lib.hid (HP6.out.on hb68)
   have HO8 := Lib.hid (HO6.out.below hb68)
   have HA8 := Lib.hid (HA6.out.below hb68)
   obtain ⟨A8, n8, c8, rfl⟩ := hown.sl
   have KO3 := Lib.hid (open_c _ (bf ++ [0]) w8 (HTT.out _ HB8.out) (HT.out _ HB8.out) (HH.out _ HB8.out) hown.rd (fun x hx => by
    rcases List.mem_append.1 hx with hx | hx
    ·exact HBY.out x hx
    ·rw [List.mem_singleton] at hx; omega) (by rw [List.length_append, List.length_singleton]; have := HSH.out; omega))
   have HLONG := Lib.hid (open_long HOP.out)
   clear hown hg hloc hb78 hb68 HP7 HO7 HA7 HOV
   go_wp2_with fail
   refine KO3.out.mono ?_
   rintro e w9 ⟨hB9, hOr⟩
   obtain rfl : e = .returned (.tuple #[.pointer none, .int .i64 170]) := by
    rcases hOr with ⟨_, h⟩ | ⟨c9, pb9, ho, _⟩
    ·exact h
    ·rw [HLONG.out] at ho; cases ho
   clear hOr
   have HB9 : Hid (Below W.heap.size W w9) := HB8.out.trans (hB9.mono HB8.out.size)
   have KAl2 := Lib.hid (prt_all (HP8.out.on hB9) (HTT.out _ HB9.out) HFI.out)
   have HO9 := Lib.hid (HO8.out.below hB9)
   have HA9 := Lib.hid (HA8.out.below hB9)
   clear hB9 KO3
   go_wp2_with fail
   refine KAl2.out.mono ?_
   rintro e w10 ⟨r10, rfl, hO10, hB10⟩
   have HB10 : Hid (Below W.heap.size W w10) := HB9.out.trans (hB10.mono HB9.out.size)
   have KSm := Lib.hid (sameP_walk r10 _ l l w10 hO10.rdP (HR.out _ HB10.out) (small_many HFI.out.cl HFI.out.many))
   rw [decide_eq_true rfl] at KSm
   have HO10 := Lib.hid (HO9.out.below hB10)
   have HA10 := Lib.hid (HA9.out.below hB10)
   obtain ⟨A10, c10, rfl, _⟩ := hO10
   clear hB10 KAl2
   go_wp2_with fail
   refine KSm.out.mono ?_
   rintro e w11 ⟨rfl, hE⟩
   have HB11 : Hid (Below W.heap.size W w11) := HB10.out.trans (hE.below.mono HB10.out.size)
   have t1 := run_strB (HO10.out.below hE.below).rd
   have t2 := run_strB (HA10.out.below hE.below).rd
   clear hE KSm
   go_wp2_with fail
   go_ret
   exact ⟨rfl, HB11.out⟩
  ·have he := build_bad (l := l) (by rw [← hbc]; exact hb0)
   rw [he] at hlen
   have hn0 : n2 = 0 := hlen
   subst hn0
   have g : (bc == 0) = false := by simp [hb0]
   clear hlen hO2 hbc he hB2 hb0
   go_wp2_with fail
   go_ret
   exact ⟨rfl, HB2.out⟩
 ·rw [decide_eq_false hf]
  go_wp2_with fail
  go_ret
  exact ⟨rfl, HB1.out⟩
end Go.Proofs.YtnkelahimiipjaaGreatDoor

/-
 The tables of decimal and of frame, from the row's list.
-/
namespace Go.Proofs.YtnkelahimiipjaaGreatDoor
open Go.RowKit Go.ChangeShapes Go.WideShapes Go.ChangeAt
theorem tab_laid {W : World} {l : List (String × DataW Unit)} {ps : List MemPlace} (hL : DataW.LaidVars Tryz.prog W l ps) {name : String} {k : IntKind} {zs : List Int} {g : Nat} {t e : TypeId} {n : Nat} (hm : (name, Lib.tabData k zs) ∈ l)
  (hg : Tryz.prog.globalNamed name = some g) (hty : (Tryz.prog.globals[g]?).map (·.type) = some t) (ht : Tryz.prog.underlying t = some (.array n e)) (he : Tryz.prog.underlying e = some (.int k)) (hce : Tryz.prog.cellsOf e = 1) (hct : Tryz.prog.cellsOf t = n) : Lib.TabIs Tryz.prog W name k zs := by
 obtain ⟨g', t', cs, fuel, p, hg', ht', hvar, hd⟩ := laid_at hL hm
 obtain rfl := Option.some.inj (hg.symm.trans hg')
 obtain rfl := Option.some.inj (hty.symm.trans ht')
 unfold Lib.TabIs
 rw [hvar, ← Lib.cells_of_tab ht he hce hct hd]
theorem tabT_laid {W : World} {l : List (String × DataW Unit)} {ps : List MemPlace} (hL : DataW.LaidVars Tryz.prog W l ps) (hm : ("esker/decimal.tens", Rows.laid_esker_decimal_tens) ∈ l) : TabT W := fun i hi => by
 have h := tab_laid (k := .i64) (zs := (List.range 19).map fun (j : Nat) => ((10 ^ j : Nat) : Int)) (g := 0) (t := 137) (e := 2) (n := 19) hL hm (by kernel_rfl) (by kernel_rfl) Tryz.underlying137 Tryz.underlying2 (by kernel_rfl) (by kernel_rfl)
 have hc := h.cell (g := 0) (by kernel_rfl) i (by simpa using hi)
 rw [hc, List.getD_eq_getElem?_getD, List.getElem?_map, List.getElem?_range hi]
 rfl
theorem tabH_laid {W : World} {l : List (String × DataW Unit)} {ps : List MemPlace} (hL : DataW.LaidVars Tryz.prog W l ps) (hm : ("esker/frame.halves", Rows.laid_esker_frame_halves) ∈ l) : TabH W := fun i hi => by
 have h := tab_laid (k := .u32) (zs := halvesL.map fun (j : Nat) => (j : Int)) (g := 1) (t := 164) (e := 141) (n := 16) hL hm (by kernel_rfl) (by kernel_rfl) Tryz.underlying164 Tryz.underlying141 (by kernel_rfl) (by kernel_rfl)
 have hl : halvesL.length = 16 := by decide
 have hc := h.cell (g := 1) (by kernel_rfl) i (by rw [List.length_map, hl]; exact hi)
 rw [hc, List.getD_eq_getElem?_getD, List.getElem?_map, List.getElem?_eq_getElem (by rw [hl]; exact hi)]
 rw [List.getD_eq_getElem?_getD, List.getElem?_eq_getElem (by rw [hl]; exact hi)]
 rfl
end Go.Proofs.YtnkelahimiipjaaGreatDoor

/-
 How many samples the blocks have that are read for a number: from one to sixteen each.
-/
namespace Go.Proofs.YtnkelahimiipjaaGreatDoor
theorem pick_list {α : Type} {Q : Nat → α → Prop} : ∀ {n : Nat}, (∀ i, i < n → ∃ y, Q i y) → ∃ l : List α, l.length = n ∧ ∀ i (hi : i < l.length), Q i l[i]
 | 0, _ => ⟨[], rfl, fun i hi => by simp at hi⟩
 | n + 1, h => by
   obtain ⟨l, h1, h2⟩ := pick_list (n := n) fun i hi => h i (by omega)
   obtain ⟨y, hy⟩ := h n (by omega)
   refine ⟨l ++ [y], by simp [h1], fun i hi => ?_⟩
   rw [List.length_append, List.length_singleton] at hi
   by_cases hn : i < l.length
   ·rw [List.getElem_append_left hn]; exact h2 i hn
   ·have hin : i = n := by omega
    subst hin
    rw [List.getElem_append_right (by omega)]
    simpa using hy
end Go.Proofs.YtnkelahimiipjaaGreatDoor

/-
 DatapartTurned: a file with a bit turned anywhere isn't what was built.
-/
namespace Go.Proofs.YtnkelahimiipjaaGreatDoor
open Go.RowKit Go.Sort
theorem set_flat (l : List Nat) (k x : Nat) : Enc.flat EB (l.set k x) = (Enc.flat EB l).set k (.int .u8 (x : Int)) := by
 have h : ∀ l : List Nat, Enc.flat EB l = l.map (fun (n : Nat) => Value.int .u8 (n : Int)) := fun l => by
  unfold Enc.flat
  induction l with
  | nil => rfl
  | cons a l ih => rw [List.flatMap_cons, ih]; rfl
 rw [h, h, List.map_set]
/-- A byte of one's own row, written. -/
theorem own_put {ty base : Nat} {w : World} {v : Value} {l : List Nat} (h : OwnG EB ty w base v l) {k : Nat} (hk : k < l.length) (x : Nat) :
  ∃ g cap, v = .slice (some ⟨g, 0, none⟩) l.length cap ∧ base ≤ g ∧ g < w.heap.size ∧ l.length ≤ cap ∧ w.cell? ⟨g, k, none⟩ = some (.int .u8 (l[k] : Int)) ∧ w.frozen? ⟨g, k, none⟩ = false ∧ OwnG EB ty (w.setCell ⟨g, k, none⟩ (.int .u8 (x : Int))) base v (l.set k x) := by
 obtain ⟨h1, ⟨_, h0⟩ | ⟨g, cap, cur, rfl, hb, hh, hn, hm, hs, ht⟩⟩ := h
 ·rw [h0] at hk; cases hk
 ·have hc := cellB.1 (OwnG.cell (E := EB) hh ht k hk)
  have ek : 0 + k * EB.k = k := by show 0 + k * 1 = k; omega
  rw [ek] at hc
  have hh2 : (w.setCell ⟨g, k, none⟩ (.int .u8 (x : Int))).heap[g]? = some (.cells (cur.setIfInBounds k (.int .u8 (x : Int))) ty (0, 0)) := by
   unfold World.setCell
   show (w.heap.modify g _)[g]? = _
   rw [Array.getElem?_modify]
   simp [hh]
  refine ⟨g, cap, rfl, hb, (Array.getElem?_eq_some_iff.1 hh).1, hn, hc, by simp [World.frozen?, hh], by rw [set_flat, List.length_set, List.length_set]; exact h1, .inr ⟨g, cap, _, by rw [List.length_set], hb, hh2, by rw [List.length_set]; exact hn, hm, by simpa using hs, ?_⟩⟩
  rw [set_flat, ← ht, List.length_set, Array.toList_setIfInBounds, List.take_set]
theorem wf_u8 {n : Int} (h : (Lit.int .u8 n).wf = true) : 0 ≤ n ∧ n < 256 := by
 have h : (decide (IntKind.u8.min ≤ n) && decide (n ≤ IntKind.u8.max)) = true := h
 rw [Bool.and_eq_true, decide_eq_true_eq, decide_eq_true_eq] at h
 have h2 : n ≤ 255 := h.2
 exact ⟨h.1, by omega⟩
theorem pow_256 : ∀ s : Nat, s < 8 → (2 : Int) ^ s % 256 = ((2 ^ s : Nat) : Int) := by decide
theorem turn_bit {x s : Nat} (hx : x < 256) (hs : s < 8) : ∃ y : Nat, y < 256 ∧ bits .xor .u8 (x : Int) ((2 ^ s : Nat) : Int) = (y : Int) ∧ y ≠ x := by
 obtain ⟨a, ha⟩ : ∃ a, a = BitVec.ofInt 8 (x : Int) := ⟨_, rfl⟩
 obtain ⟨m, hm⟩ : ∃ m, m = BitVec.ofInt 8 ((2 ^ s : Nat) : Int) := ⟨_, rfl⟩
 have hat : a.toNat = x := by
  rw [ha, BitVec.toNat_ofInt]
  omega
 have hm0 : m ≠ 0 := by
  have h : ∀ s : Fin 8, BitVec.ofInt 8 ((2 ^ s.val : Nat) : Int) ≠ 0 := by decide
  rw [hm]
  exact h ⟨s, hs⟩
 have hlt : (a ^^^ m).toNat < 256 := (a ^^^ m).isLt
 refine ⟨(a ^^^ m).toNat, hlt, ?_, fun e => hm0 ?_⟩
 ·have h : bits .xor .u8 (x : Int) ((2 ^ s : Nat) : Int) = IntKind.u8.wrap ((a ^^^ m).toNat : Int) := by rw [ha, hm]; rfl
  rw [h]
  exact IntWalk.u8_in _ (by omega)
 ·have h1 : a ^^^ m = a := BitVec.eq_of_toNat_eq (by rw [e, hat])
  have h2 : a ^^^ (a ^^^ m) = a ^^^ a := by rw [h1]
  rw [← BitVec.xor_assoc, BitVec.xor_self, BitVec.zero_xor] at h2
  exact h2
set_option maxRecDepth 100000 in
set_option maxHeartbeats 4000000 in
theorem turned_walk (v : Value) (l : List Pts) (at_ bit : Int) (W : World) (T : Tabs W) (hT : TabT W) (hH : TabH W) (hR : RdP W W.heap.size v l) (hwf : ∀ p ∈ l, (Lit.int .i64 p.1).wf = true) (h1 : l.length ≤ 1048576) (h2 : manyL l ≤ 1048576) (_wa : (Lit.int .i64 at_).wf = true) (wb : (Lit.int .u8 bit).wf = true) :
  Calls Tryz.prog 6 #[v, .int .i64 at_, .int .u8 bit] W fun e w' => e = .returned (.bool true) ∧ Below W.heap.size W w' := by
 have KA := Lib.hid (awake17_walk W T hT hH)
 have HTT : Hid (∀ w, Below W.heap.size W w → Tabs w) := fun w h => T.below h
 have HT : Hid (∀ w, Below W.heap.size W w → TabT w) := fun w h i hi => (h.cell (lt_of_cell (hT i hi))).trans (hT i hi)
 have HH : Hid (∀ w, Below W.heap.size W w → TabH w) := fun w h => TabH.below hH h
 have HR : Hid (∀ w, Below W.heap.size W w → RdP w w.heap.size v l) := fun w h => hR.on h
 have HW := Lib.hid hwf
 have HS : Hid (l.length ≤ 1048576 ∧ manyL l ≤ 1048576) := ⟨h1, h2⟩
 obtain ⟨bt, rfl, hbt⟩ : ∃ bt : Nat, bit = (bt : Int) ∧ bt < 256 := by
  have hz := wf_u8 wb
  exact ⟨bit.toNat, by omega, by omega⟩
 obtain ⟨A, c, rfl, _⟩ := hR
 obtain ⟨n, hn⟩ : ∃ n, n = l.length := ⟨_, rfl⟩
 rw [← hn] at HR ⊢
 clear T hT hH hwf h1 h2 hn wb
 go_enter Tryz.func6, Tryz.ntmps6
 go_wp2_with fail
 refine KA.out.mono ?_
 rintro e w1 ⟨rfl, hB1⟩
 have HB1 := Lib.hid hB1
 have KF := Lib.hid (few17_walk _ l w1 (HR.out w1 hB1) HS.out.1 HS.out.2)
 clear hB1 KA
 go_wp2_with fail
 refine KF.out.mono ?_
 rintro e wx ⟨rfl, hwx⟩
 have hwx := hwx.symm
 subst hwx
 clear KF
 by_cases hf : l.length + manyL l ≤ 200
 ·rw [decide_eq_true hf]
  have KB := Lib.hid (build_walk _ l w1 (HTT.out _ HB1.out) (HT.out _ HB1.out) (HH.out _ HB1.out) (HR.out _ HB1.out) HW.out (by have := HS.out; omega) (by have := HS.out; omega))
  go_wp2_with fail
  refine KB.out.mono ?_
  rintro e w2 ⟨v2, rfl, hO2, hB2⟩
  obtain ⟨A2, n2, c2, rfl⟩ := hO2.sl
  have HB2 : Hid (Below W.heap.size W w2) := HB1.out.trans (hB2.mono HB1.out.size)
  have hlen := hO2.len
  obtain ⟨bc, hbc⟩ : ∃ bc, bc = (buildV l).1 := ⟨_, rfl⟩
  rw [← hbc]
  by_cases hb0 : bc = 0
  ·subst hb0
   obtain ⟨bf, hbf⟩ : ∃ bf, bf = (buildV l).2 := ⟨_, rfl⟩
   have hbe : buildV l = (0, bf) := by rw [hbc, hbf]
   rw [← hbf] at hO2 hlen
   have hfil := Fil.of hbe
   have hby : ∀ x ∈ bf, x < 256 := by rw [hbf]; exact build_byte
   have hsh : bf.length ≤ 220000 := by
    have h3 := build_ok (build_has hbe).1 (build_has hbe).2.1 (build_has hbe).2.2
    rw [h3] at hbe
    injection hbe with _ h4
    rw [← h4]
    exact file_short hfil (by omega)
   obtain ⟨m, hm, hmb⟩ := and_low at_
   have hpos : 0 < n2 := by
    rw [hlen]
    have h3 := build_ok (build_has hbe).1 (build_has hbe).2.1 (build_has hbe).2.2
    rw [hbe] at h3
    injection h3 with _ h4
    rw [h4]
    unfold fileB tail4
    simp
    omega
   obtain ⟨kc, hkc⟩ : ∃ kc, kc = m % n2 := ⟨_, rfl⟩
   have hkl : kc < n2 := by rw [hkc]; exact Nat.mod_lt _ hpos
   have hrem : (m : Int).tmod (n2 : Int) = (kc : Int) := by rw [hkc]; rfl
   have g0 : ((n2 : Int) == 0) = false := by simp; omega
   have g00 : (n2 : Int) ≠ 0 := by omega
   have hkb : kc < bf.length := by rw [← hlen]; exact hkl
   obtain ⟨bx, hbx⟩ : ∃ bx, bx = bf[kc] := ⟨_, rfl⟩
   have hbx2 : bx < 256 := by rw [hbx]; exact hby _ (List.getElem_mem hkb)
   obtain ⟨by_, hby2, hxor, hne⟩ := turn_bit hbx2 (Nat.mod_lt bt (by decide) : bt % 8 < 8)
   rw [← pow_256 _ (Nat.mod_lt bt (by decide) : bt % 8 < 8)] at hxor
   obtain ⟨g, cap, e9, hg1, hg2, hcap, hcell, hfz, hown⟩ := own_put hO2 hkb by_
   rw [← hlen] at e9
   injection e9 with e1 _ e3
   subst e1 e3
   rw [← hbx] at hcell
   have hBs : Below W.heap.size W (w2.setCell ⟨g, kc, none⟩ (.int .u8 (by_ : Int))) := HB2.out.setCell (p := ⟨g, kc, none⟩) (show W.heap.size ≤ g from by have := HB1.out.size; omega) _
   obtain ⟨bg, hbg⟩ : ∃ bg, bg = bf.set kc by_ := ⟨_, rfl⟩
   rw [← hbg] at hown
   have hbgl : bg.length = bf.length := by rw [hbg, List.length_set]
   have hbgne : bg ≠ bf := fun e => by
    have h3 : bg[kc]? = bf[kc]? := by rw [e]
    rw [hbg, List.getElem?_set_self (by omega), List.getElem?_eq_getElem hkb, ← hbx] at h3
    injection h3 with h3
    exact hne h3
   have hback : bg.set kc bx = bf := by rw [hbg, List.set_set, hbx, List.set_getElem_self]
   have hby3 : ∀ x ∈ bg, x < 256 := fun x hx => by
    rw [hbg] at hx
    rcases List.mem_or_eq_of_mem_set hx with h | h
    ·exact hby x h
    ·omega
   have KO := Lib.hid (open_c _ bg _ (HTT.out _ hBs) (HT.out _ hBs) (HH.out _ hBs) hown.rd hby3 (by omega))
   have HOWN := Lib.hid hown
   have HBS := Lib.hid hBs
   have HNE := Lib.hid hbgne
   have HBK := Lib.hid hback
   have HBL : Hid (bg.length = n2) := hbgl.trans hlen.symm
   have i1 : kc ≤ c2 := by omega
   have i2 : (kc : Int) < (n2 : Int) := by omega
   have HGW : Hid (W.heap.size ≤ g) := by have := HB1.out.size; show _ ≤ _; omega
   have HGL := Lib.hid hg2
   have HL2 := Lib.hid hlen
   have HBY := Lib.hid hby
   have HBY2 := Lib.hid hby3
   clear hO2 hB2 hbc hbf hbe hfil hby hsh hown hBs hbgne hback hbgl hby3 hbg KB hbx hkb hne hkc hg1 hg2 hlen hpos hcap
   go_wp2_with fail
   refine KO.out.mono ?_
   rintro e w3 ⟨hB3, ⟨hn, rfl⟩ | ⟨c9, pb, ho, hfil9, rfl, hP3⟩⟩
   ·have HB3 : Hid (Below W.heap.size W w3) := HBS.out.trans (hB3.mono HBS.out.size)
    clear hB3 KO
    go_wp2_with fail
    go_ret
    exact ⟨rfl, HB3.out⟩
   ·have HB3 : Hid (Below W.heap.size W w3) := HBS.out.trans (hB3.mono HBS.out.size)
    have HOWN3 := Lib.hid (HOWN.out.below hB3)
    have HBE9 := Lib.hid (openV_has ho).1
    have HFI9 := Lib.hid hfil9
    have KAl := Lib.hid (prt_all hP3 (HTT.out _ HB3.out) hfil9)
    have HG3 : Hid (g < w3.heap.size) := Nat.lt_of_lt_of_le HGL.out (Nat.le_trans (grownBy_set w2 g kc _).size hB3.size)
    clear hB3 KO ho hfil9 hP3 HOWN
    go_wp2_with fail
    refine KAl.out.mono ?_
    rintro e w4 ⟨r4, rfl, hO4, hB4⟩
    have HB4 : Hid (Below W.heap.size W w4) := HB3.out.trans (hB4.mono HB3.out.size)
    have HOWN4 := Lib.hid (HOWN3.out.below hB4)
    have HG4 : Hid (g < w4.heap.size) := Nat.lt_of_lt_of_le HG3.out hB4.size
    have KB2 := Lib.hid (build_walk r4 c9 w4 (HTT.out _ HB4.out) (HT.out _ HB4.out) (HH.out _ HB4.out) hO4.rdP HFI9.out.wf (by have := HFI9.out.len; omega) (by have := HFI9.out.many; omega))
    obtain ⟨A4, c4, rfl, _⟩ := hO4
    clear hB4 KAl HOWN3
    go_wp2_with fail
    refine KB2.out.mono ?_
    rintro e w5 ⟨v5, rfl, hO5, hB5⟩
    rw [HBE9.out] at hO5 ⊢
    dsimp only at hO5 ⊢
    obtain ⟨A5, n5, c5, rfl⟩ := hO5.sl
    have HB5 : Hid (Below W.heap.size W w5) := HB4.out.trans (hB5.mono HB4.out.size)
    obtain ⟨g', cap', e9, _, _, _, hcell5, hfz5, hown5⟩ := own_put (HOWN4.out.below hB5) (k := kc) (by rw [HBL.out]; exact hkl) bx
    injection e9 with e1 e2 e3
    injection e1 with e1
    injection e1 with e1
    subst e1
    rw [HBK.out] at hown5
    have HB6 : Hid (Below W.heap.size W (w5.setCell ⟨g, kc, none⟩ (.int .u8 (bx : Int)))) := HB5.out.setCell (p := ⟨g, kc, none⟩) HGW.out _
    have hO6 : OwnG EB 5 (w5.setCell ⟨g, kc, none⟩ (.int .u8 (bx : Int))) w4.heap.size (.slice A5 n5 c5) bg := hO5.kept (grownBy_set w5 g kc _) (by
     right
     intro e
     have h3 := (OwnG.blk hO5 e).1
     have := HG4.out
     omega)
    have t1 := run_strB hO6.rd
    have t2 := run_strB hown5.rd
    have hi := strB_inj HBY2.out HBY.out
    obtain ⟨s1, hs1⟩ : ∃ s, s = strB bg := ⟨_, rfl⟩
    obtain ⟨s2, hs2⟩ : ∃ s, s = strB bf := ⟨_, rfl⟩
    rw [← hs1] at t1 hi
    rw [← hs2] at t2 hi
    have HI := Lib.hid hi
    clear hs1 hs2 hi hO6 hown5 hO5 hB5 KB2 e2 e3
    go_wp2_with fail
    go_ret
    refine ⟨?_, HB6.out⟩
    rw [Lib.toList_data, Lib.toList_data]
    have h : (s1.data.toList == s2.data.toList) = false := by
     rw [beq_eq_false_iff_ne]
     exact fun h => HNE.out (HI.out.1 (by cases s1; cases s2; simpa using h))
    simp [h]
  ·have g : (bc == 0) = false := by simp [hb0]
   clear hlen hO2 hbc hB2 hb0
   go_wp2_with fail
   go_ret
   exact ⟨rfl, HB2.out⟩
 ·rw [decide_eq_false hf]
  go_wp2_with fail
  go_ret
  exact ⟨rfl, HB1.out⟩
end Go.Proofs.YtnkelahimiipjaaGreatDoor
