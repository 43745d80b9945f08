/-
 What a file tells from a tick to another one, of some numbers: the blocks that are read, and what is made of them.
-/
import Derived.Test.YtnkelahimiipjaaGreatDoorBqk
import Derived.Test.YtnkelahimiipjaaGreatDoorCck
import Derived.Test.YtnkelahimiipjaaGreatDoorPlk
import Derived.Test.YtnkelahimiipjaaGreatDoorQpk
import Derived.Test.YtnkelahimiipjaaGreatDoorOqk
import Derived.Test.YtnkelahimiipjaaGreatDoorCtk
import Derived.RangeFuncNested
import Derived.RangeFuncBound
import Derived.RangeFuncCalls
import Derived.RangeFuncLeaves
import Derived.Shelf.Abstract
import Derived.Shelf.RegionOpen
import Derived.WalkKit
import Derived.OwnWalkIn
import Derived.TacticsInMore
import Derived.LoopNIn
import Derived.LoopIn
import Derived.Test.YtnkelahimiipjaaGreatDoorHnk
import Derived.Test.YtnkelahimiipjaaGreatDoorCqk
import Derived.Test.YtnkelahimiipjaaGreatDoorCzk
import Derived.Test.YtnkelahimiipjaaGreatDoorHbk
import Derived.Test.YtnkelahimiipjaaGreatDoorCjk
namespace Go.Proofs.YtnkelahimiipjaaGreatDoor
def UpT1 (c : List Smp) : Prop := c.Pairwise (fun a b => a.1 ≤ b.1)
theorem first_mem {c : List Smp} (h : c ≠ []) : ∃ s ∈ c, firstT c = s.1 := by
 cases c with
 | nil => exact absurd rfl h
 | cons s c => exact ⟨s, List.mem_cons_self, rfl⟩
theorem last_mem {c : List Smp} (h : c ≠ []) : ∃ s ∈ c, lastT c = s.1 := by
 refine ⟨c.getLast h, List.getLast_mem h, ?_⟩
 unfold lastT
 rw [List.getLast?_eq_some_getLast h]; rfl
theorem first_le {c : List Smp} (h : UpT1 c) : ∀ x ∈ c, firstT c ≤ x.1 := by
 cases c with
 | nil => intro x hx; cases hx
 | cons s c =>
   intro x hx
   have h2 := List.pairwise_cons.1 h
   rcases List.mem_cons.1 hx with rfl | hx
   ·exact Int.le_refl _
   ·exact h2.1 x hx
theorem cuts_up : ∀ (f : Nat) (l : List Smp), UpT1 l → ∀ c ∈ cutsF f l, UpT1 c
 | 0, _, _, c, hc => by simp [cutsF] at hc
 | f + 1, l, h, c, hc => by
   unfold cutsF at hc
   split at hc
   ·cases hc
   ·rcases List.mem_cons.1 hc with rfl | hc
    ·exact List.Pairwise.sublist (List.take_sublist _ _) h
    ·exact cuts_up f _ (List.Pairwise.sublist (List.drop_sublist _ _) h) c hc
def readB (ids : List Int) (f t : Int) (b : Blk) : Bool := decide (b.1 ∈ ids) && (decide (firstT b.2 ≤ t) && decide (f ≤ lastT b.2))
def ofB (l : List Pts) (ids : List Int) (f t : Int) : List Pts := ((blksV l).filter (readB ids f t)).map (fun b => (b.1, delS f t b.2))
/-- What is told, and how many blocks are read for it. -/
def ofV (l : List Pts) (ids : List Int) (f t : Int) : List Pts × Nat := (cleanS (ofB l ids f t), ((blksV l).filter (readB ids f t)).length)
theorem blk_up {c : List Pts} (h : Clean c) {b : Blk} (hb : b ∈ blksV c) : UpT1 b.2 ∧ b.2 ≠ [] ∧ ∀ x ∈ b.2, 0 ≤ x.1 ∧ x.1 ≤ 1099511627776 := by
 obtain ⟨q, hq, _, h2⟩ := mem_blks.1 hb
 obtain ⟨k1, _, _, k4⟩ := cuts_each _ _ (h.bd q hq) _ h2
 exact ⟨cuts_up _ _ (tick_le (h.up q hq)) _ h2, k1, fun x hx => rightS_bd (h.bd q hq x (k4 x hx))⟩
end Go.Proofs.YtnkelahimiipjaaGreatDoor

/-
 What is told up to a tick, and from the next one on, is all.
-/
namespace Go.Proofs.YtnkelahimiipjaaGreatDoor
end Go.Proofs.YtnkelahimiipjaaGreatDoor

/-
 slices.Equal of samples; datapart.clean.
-/
namespace Go.Proofs.YtnkelahimiipjaaGreatDoor
open Go.RowKit Go.Sort
set_option maxRecDepth 100000 in
set_option maxHeartbeats 1000000 in
theorem sequal_walk (va vb : Value) (a b : List Smp) (W : World) (hRa : Rd W W.heap.size va a) (hRb : Rd W W.heap.size vb b) (hla : a.length * 32 ≤ 140737488355328) :
  Calls Tryz.prog 60 #[va, vb] W fun e w' => e = .returned (.bool (decide (a = b))) ∧ Ext W w' := by
 obtain ⟨A, ca, rfl, hca, hA⟩ := hRa
 obtain ⟨B, cb, rfl, hcb, hB⟩ := hRb
 have HA := Lib.hid hA
 have HB := Lib.hid hB
 obtain ⟨q, hq⟩ : ∃ q, q = decide (a = b) := ⟨_, rfl⟩
 have HQ : Hid (q = decide (a = b)) := hq
 rw [← hq]
 clear hq hA hB hca hcb
 obtain ⟨n, hn⟩ : ∃ n, n = a.length := ⟨_, rfl⟩
 obtain ⟨m, hm⟩ : ∃ m, m = b.length := ⟨_, rfl⟩
 rw [← hn] at hla ⊢
 rw [← hm]
 have HN : Hid (n = a.length) := hn
 have HM : Hid (m = b.length) := hm
 clear hn hm
 by_cases hnm : n = m
 ·have g0 : (((n : Int)) != (m : Int)) = false := by simp; omega
  go_enter Tryz.func60, Tryz.ntmps60
  go_wp2_with fail
  go_loopw [5, 13] (fun _ i wl => ∃ k : Nat, k ≤ n ∧ i = .int .i64 k ∧ Hid (a.take k = b.take k) ∧ Hid (Ext W wl))
   (fun _ i _ => n - (intOf i).toNat)
  case atStart => exact ⟨0, Nat.zero_le _, rfl, rfl, Ext.refl _⟩
  case round =>
   obtain ⟨k, hk, rfl, HT, HE⟩ := hrel
   by_cases hlt : k < n
   ·have hla2 : k < a.length := by rw [← HN.out]; exact hlt
    have hlb2 : k < b.length := by rw [← HM.out, ← hnm]; exact hlt
    rcases HA.out with h0 | ⟨b1, o1, e, hb1, hcl1⟩
    ·subst h0; simp at hla2
    rcases HB.out with h0 | ⟨b2, o2, e', hb2, hcl2⟩
    ·subst h0; simp at hlb2
    subst e e'
    obtain ⟨x, hx⟩ : ∃ x, x = a[k] := ⟨_, rfl⟩
    obtain ⟨y, hy⟩ : ∃ y, y = b[k] := ⟨_, rfl⟩
    obtain ⟨c0, c1, c2, c3⟩ : Cell4 wr b1 (o1 + k * 4) x := by rw [hx]; exact (hcl1 k hla2).below HE.out.below hb1
    obtain ⟨d0, d1, d2, d3⟩ : Cell4 wr b2 (o2 + k * 4) y := by rw [hy]; exact (hcl2 k hlb2).below HE.out.below hb2
    have HF : Hid ((a.take (k + 1) = b.take (k + 1)) ↔ x = y) := same_take hla2 hlb2 hx hy HT.out
    obtain ⟨p, hp⟩ : ∃ p, p = decide (x = y) := ⟨_, rfl⟩
    have hne : ∀ w, (binOp .neq 66 (.agg #[.int .i64 x.1, .int .i64 x.2.1, .int .i64 x.2.2.1, .int .i64 x.2.2.2]) (.agg #[.int .i64 y.1, .int .i64 y.2.1, .int .i64 y.2.2.1, .int .i64 y.2.2.2])).run Tryz.prog w = .ok (.bool (!p)) w := fun w => hp ▸ neq_Smp x y w
    have HP : Hid (p = decide (x = y)) := hp
    clear hp hx hy hcl1 hcl2
    have hkm : k < m := by omega
    have i1 : (k : Int) < (n : Int) := by omega
    have i2 : (k : Int) < (m : Int) := by omega
    go_wp2_with fail
    go_quiet (fail)
    clear c0 c1 c2 c3 d0 d1 d2 d3 hne
    cases p with
    | true =>
      have hT2 : Hid (a.take (k + 1) = b.take (k + 1)) := HF.out.2 (of_decide_eq_true HP.out.symm)
      clear HF HP
      go_wp2_with fail
      go_roundw
      case rel => exact ⟨k + 1, by omega, by go_num, hT2, HE.out.drewN nq⟩
      case measure => simp [intOf]; omega
    | false =>
      have hab : a ≠ b := fun e => of_decide_eq_false HP.out.symm (HF.out.1 (by rw [e]))
      have hqf : Hid (q = false) := HQ.out.trans (decide_eq_false hab)
      clear HF HP hab
      go_wp2_with fail
      go_ret
      exact ⟨ret_bool hqf.out.symm, HE.out.drewN nq⟩
   ·have hkn : k = n := by omega
    have hab : a = b := by
     have := HT.out
     rwa [hkn, HN.out, List.take_length, ← HN.out, hnm, HM.out, List.take_length] at this
    have hqt : Hid (q = true) := HQ.out.trans (decide_eq_true hab)
    clear hab hkn
    go_wp2_with fail
    go_ret
    exact ⟨ret_bool hqt.out.symm, HE.out⟩
 ·have g0 : (((n : Int)) != (m : Int)) = true := by simp; omega
  have hab : a ≠ b := fun e => hnm (by rw [HN.out, HM.out, e])
  have hqf : Hid (q = false) := HQ.out.trans (decide_eq_false hab)
  go_enter Tryz.func60, Tryz.ntmps60
  go_wp2_with fail
  go_ret
  exact ⟨ret_bool hqf.out.symm, Ext.refl _⟩
set_option maxRecDepth 100000 in
set_option maxHeartbeats 1000000 in
theorem ceq_walk (i1 i2 : Int) (sa sb : Value) (a b : List Smp) (W : World) (hRa : Rd W W.heap.size sa a) (hRb : Rd W W.heap.size sb b) (hla : a.length * 32 ≤ 140737488355328) :
  Calls Tryz.prog 59 #[.agg #[.int .i64 i1, sa], .agg #[.int .i64 i2, sb]] W fun e w' => e = .returned (.bool (decide ((i1, a) = (i2, b)))) ∧ Ext W w' := by
 obtain ⟨W1, hW1⟩ : ∃ W1, W1 = (W.alloc (.cells #[.int .i64 i1, sa] 62)).alloc (.cells #[.int .i64 i2, sb] 62) := ⟨_, rfl⟩
 have hE : Ext W W1 := by rw [hW1]; exact ((Ext.refl W).alloc _).alloc _
 have c0 : W1.cell? ⟨W.heap.size, 0, none⟩ = some (.int .i64 i1) := by rw [hW1]; exact ((Ext.refl _).alloc _).cell_some (new_cell W _ _ 0)
 have c1 : W1.cell? ⟨W.heap.size, 1, none⟩ = some sa := by rw [hW1]; exact ((Ext.refl _).alloc _).cell_some (new_cell W _ _ 1)
 have d0 : W1.cell? ⟨W.heap.size + 1, 0, none⟩ = some (.int .i64 i2) := by rw [hW1]; have := new_cell (W.alloc (.cells #[.int .i64 i1, sa] 62)) #[.int .i64 i2, sb] 62 0; rw [World.size_alloc] at this; exact this
 have d1 : W1.cell? ⟨W.heap.size + 1, 1, none⟩ = some sb := by rw [hW1]; have := new_cell (W.alloc (.cells #[.int .i64 i1, sa] 62)) #[.int .i64 i2, sb] 62 1; rw [World.size_alloc] at this; exact this
 have KE := Lib.hid (sequal_walk sa sb a b W1 (hRa.below hE.below |>.mono hE.size) (hRb.below hE.below |>.mono hE.size) hla)
 have HE := Lib.hid hE
 obtain ⟨A, ca, rfl, _⟩ := hRa
 obtain ⟨B, cb, rfl, _⟩ := hRb
 clear hE hla
 by_cases hi : i1 = i2
 ·have g : (i1 == i2) = true := by simp [hi]
  have HI := Lib.hid hi
  have hq : decide ((i1, a) = (i2, b)) = decide (a = b) := by rw [hi]; simp
  rw [hq]
  clear hi hq
  go_enter Tryz.func59, Tryz.ntmps59
  go_wp2_with fail
  rw [← hW1]
  clear hW1
  go_wp2_with fail
  refine KE.out.mono ?_
  rintro e w1 ⟨rfl, hE⟩
  have HE2 := Lib.hid (HE.out.trans hE)
  clear hE KE
  go_wp2_with fail
  go_ret
  exact ⟨rfl, HE2.out⟩
 ·have g : (i1 == i2) = false := by simp [hi]
  have hq : decide ((i1, a) = (i2, b)) = false := by simp [hi]
  rw [hq]
  clear hi hq
  go_enter Tryz.func59, Tryz.ntmps59
  go_wp2_with fail
  rw [← hW1]
  clear hW1
  go_wp2_with fail
  go_ret
  exact ⟨rfl, HE.out⟩
set_option maxRecDepth 100000 in
set_option maxHeartbeats 2000000 in
theorem pequal_walk (va vb : Value) (a b : List Pts) (W : World) (hRa : RdP W W.heap.size va a) (hRb : RdP W W.heap.size vb b) (hla : SmallP a) :
  Calls Tryz.prog 58 #[va, vb, .func (.func 59) #[] #[]] W fun e w' => e = .returned (.bool (decide (a = b))) ∧ Ext W w' := by
 obtain ⟨A, ca, rfl, hca, hA⟩ := hRa
 obtain ⟨B, cb, rfl, hcb, hB⟩ := hRb
 have HA := Lib.hid hA
 have HB := Lib.hid hB
 have HL := Lib.hid hla
 obtain ⟨q, hq⟩ : ∃ q, q = decide (a = b) := ⟨_, rfl⟩
 have HQ : Hid (q = decide (a = b)) := hq
 rw [← hq]
 have hla1 := hla.1
 clear hq hA hB hca hcb hla
 obtain ⟨n, hn⟩ : ∃ n, n = a.length := ⟨_, rfl⟩
 obtain ⟨m, hm⟩ : ∃ m, m = b.length := ⟨_, rfl⟩
 rw [← hn] at hla1 ⊢
 rw [← hm]
 have HN : Hid (n = a.length) := hn
 have HM : Hid (m = b.length) := hm
 clear hn hm
 by_cases hnm : n = m
 ·subst hnm
  have g0 : (((n : Int)) != (n : Int)) = false := by simp
  go_enter Tryz.func58, Tryz.ntmps58
  go_wp2_with fail
  go_loopw [7, 8, 9, 17] (fun _ _ _ i wl => ∃ k : Nat, k ≤ n ∧ i = .int .i64 k ∧ Hid (a.take k = b.take k) ∧ Hid (Ext W wl))
   (fun _ _ _ i _ => n - (intOf i).toNat)
  case atStart => exact ⟨0, Nat.zero_le _, rfl, rfl, Ext.refl _⟩
  case round =>
   obtain ⟨k, hk, rfl, HT, HE⟩ := hrel
   by_cases hlt : k < n
   ·have hla2 : k < a.length := by rw [← HN.out]; exact hlt
    have hlb2 : k < b.length := by rw [← HM.out]; exact hlt
    rcases HA.out with h0 | ⟨b1, o1, e, hb1, hcl1⟩
    ·subst h0; simp at hla2
    rcases HB.out with h0 | ⟨b2, o2, e', hb2, hcl2⟩
    ·subst h0; simp at hlb2
    subst e e'
    obtain ⟨x, hx⟩ : ∃ x, x = a[k] := ⟨_, rfl⟩
    obtain ⟨y, hy⟩ : ∃ y, y = b[k] := ⟨_, rfl⟩
    obtain ⟨c0, sx, c1, hsx, _⟩ : PtAt wr W.heap.size b1 (o1 + k * 2) x := by rw [hx]; exact (hcl1 k hla2).below HE.out.below hb1
    obtain ⟨d0, sy, d1, hsy, _⟩ : PtAt wr W.heap.size b2 (o2 + k * 2) y := by rw [hy]; exact (hcl2 k hlb2).below HE.out.below hb2
    have HF : Hid ((a.take (k + 1) = b.take (k + 1)) ↔ x = y) := sameP_take hla2 hlb2 hx hy HT.out
    have hxl : x.2.length * 32 ≤ 140737488355328 := by
     have := HL.out.2 x (by rw [hx]; exact List.getElem_mem hla2)
     omega
    obtain ⟨p, hp⟩ : ∃ p, p = decide (x = y) := ⟨_, rfl⟩
    obtain ⟨xi, xs⟩ := x
    obtain ⟨yi, ys⟩ := y
    simp only at c0 d0 hsx hsy hxl
    have KS : Hid (∀ w', Ext wr w' → Calls Tryz.prog 59 #[.agg #[.int .i64 xi, sx], .agg #[.int .i64 yi, sy]] w' fun e w'' => e = .returned (.bool p) ∧ Ext w' w'') := fun w' h => by
     rw [hp]
     have hsz := HE.out.size
     have hsz' := h.size
     exact ceq_walk xi yi sx sy xs ys w' ((hsx.mono hsz).below h.below |>.mono hsz') ((hsy.mono hsz).below h.below |>.mono hsz') hxl
    have HP : Hid (p = decide ((xi, xs) = (yi, ys))) := hp
    obtain ⟨A3, c3, rfl, _⟩ := hsx
    obtain ⟨A4, c4, rfl, _⟩ := hsy
    have d0' := ((Ext.refl wr).alloc (.cells #[.int .i64 xi, .slice A3 xs.length c3] 62)).cell_some d0
    have d1' := ((Ext.refl wr).alloc (.cells #[.int .i64 xi, .slice A3 xs.length c3] 62)).cell_some d1
    have i1 : (k : Int) < (n : Int) := by omega
    have hEE : Ext wr ((wr.alloc (.cells #[.int .i64 xi, .slice A3 xs.length c3] 62)).alloc (.cells #[.int .i64 yi, .slice A4 ys.length c4] 62)) := ((Ext.refl _).alloc _).alloc _
    have HEE := Lib.hid hEE
    have K1 := Lib.hid (KS.out _ hEE)
    clear hla2 hlb2 hcl1 hcl2 hx hy hp hxl hEE
    cases p with
    | true =>
      have hT2 : Hid (a.take (k + 1) = b.take (k + 1)) := HF.out.2 (of_decide_eq_true HP.out.symm)
      clear HF HP KS
      go_wp2_with fail
      refine K1.out.mono ?_
      rintro e w1 ⟨rfl, hE⟩
      have HE2 := Lib.hid ((HE.out.trans HEE.out).trans hE)
      clear hE K1
      go_wp2_with fail
      go_roundw
      case rel => exact ⟨k + 1, by omega, by go_num, hT2.out, HE2.out⟩
      case measure => simp [intOf]; omega
    | false =>
      have hab : a ≠ b := fun e => of_decide_eq_false HP.out.symm (HF.out.1 (by rw [e]))
      have hqf : Hid (q = false) := HQ.out.trans (decide_eq_false hab)
      clear HF HP hab KS
      go_wp2_with fail
      refine K1.out.mono ?_
      rintro e w1 ⟨rfl, hE⟩
      have HE2 := Lib.hid ((HE.out.trans HEE.out).trans hE)
      clear hE K1
      go_wp2_with fail
      go_ret
      exact ⟨ret_bool hqf.out.symm, HE2.out⟩
   ·have hkn : k = n := by omega
    have hab : a = b := by
     have h := HT.out
     have e1 : a.take n = a := by rw [HN.out, List.take_length]
     have e2 : b.take n = b := by rw [HM.out, List.take_length]
     rw [hkn, e1, e2] at h; exact h
    have i1 : ¬ (k : Int) < (n : Int) := by omega
    have hqt : Hid (q = true) := HQ.out.trans (decide_eq_true hab)
    clear hab hkn hlt hk
    go_wp2_with fail
    go_ret
    exact ⟨ret_bool hqt.out.symm, HE.out⟩
 ·have g0 : (((n : Int)) != (m : Int)) = true := by simp; omega
  have hab : a ≠ b := fun e => hnm (by rw [HN.out, HM.out, e])
  have hqf : Hid (q = false) := HQ.out.trans (decide_eq_false hab)
  go_enter Tryz.func58, Tryz.ntmps58
  go_wp2_with fail
  go_ret
  exact ⟨ret_bool hqf.out.symm, Ext.refl _⟩
set_option maxRecDepth 100000 in
set_option maxHeartbeats 1000000 in
theorem dclean_walk (v : Value) (l : List Pts) (W : World) (T : Tabs W) (hR : RdP W W.heap.size v l) (hwf : ∀ p ∈ l, (Lit.int .i64 p.1).wf = true) (hn2 : l.length ≤ 990000000) (hn3 : manyL l ≤ 990000000) (hcs : SmallP (cleanS l)) :
  Calls Tryz.prog 31 #[v] W fun e w' => e = .returned (.bool (decide (cleanS l = l))) ∧ Below W.heap.size W w' := by
 have KC := Lib.hid (sclean v l W T hR hwf hn2 hn3)
 have HCS := Lib.hid hcs
 have HR := Lib.hid hR
 obtain ⟨A, c, rfl, _⟩ := hR
 clear T hwf hn2 hn3 hcs
 go_enter Tryz.func31, Tryz.ntmps31
 go_wp2_with fail
 refine KC.out.mono ?_
 rintro e w1 ⟨r, rfl, hr, hB⟩
 have KE := Lib.hid (pequal_walk r _ (cleanS l) l w1 hr (HR.out.on hB) HCS.out)
 have HB := Lib.hid hB
 clear hr hB KC
 go_wp2_with fail
 refine KE.out.mono ?_
 rintro e w2 ⟨rfl, hE⟩
 have HB2 : Hid (Below W.heap.size W w2) := HB.out.trans (hE.below.mono HB.out.size)
 clear hE KE
 go_wp2_with fail
 go_ret
 exact ⟨rfl, HB2.out⟩
end Go.Proofs.YtnkelahimiipjaaGreatDoor

/-
 datapart: a head's first, last tick; slices.Contains of numbers.
-/
namespace Go.Proofs.YtnkelahimiipjaaGreatDoor
open Go.RowKit Go.Sort
set_option maxRecDepth 100000 in
set_option maxHeartbeats 1000000 in
theorem hfirst_walk (id : Int) (sv : Value) (x : Smp) (l : List Smp) (W : World) (hR : Rd W W.heap.size sv (x :: l)) :
  Calls Tryz.prog 33 #[.agg #[.int .i64 id, sv]] W fun e w' => e = .returned (.int .i64 x.1) ∧ Ext W w' := by
 obtain ⟨A, c, rfl, hc, hA⟩ := hR
 rcases hA with h0 | ⟨b, o, rfl, hb, hcl⟩
 ·simp at h0
 obtain ⟨c0, c1, c2, c3⟩ : Cell4 W b o x := by have h := hcl 0 (by simp); rw [Nat.zero_mul, Nat.add_zero] at h; exact h
 have hE : Ext W (W.alloc (.cells #[.int .i64 id, .slice (some ⟨b, o, none⟩) (x :: l).length c] 71)) := (Ext.refl W).alloc _
 have d0 := hE.cell_some c0
 have HE := Lib.hid hE
 obtain ⟨n, hn⟩ : ∃ n, n = (x :: l).length := ⟨_, rfl⟩
 have hn0 : 0 < n := by simp [hn]
 have i0 : (0 : Int) < (n : Int) := by omega
 have i1 : (0 : Nat) < n := hn0
 rw [← hn] at d0 HE ⊢
 clear hE hn hcl c0 c1 c2 c3
 go_enter Tryz.func33, Tryz.ntmps33
 go_wp2_with fail
 go_ret
 refine ⟨?_, HE.out⟩
 rfl
set_option maxRecDepth 100000 in
set_option maxHeartbeats 1000000 in
theorem hlast_walk (id : Int) (sv : Value) (x : Smp) (l : List Smp) (W : World) (hR : Rd W W.heap.size sv l) (hl : l.length ≤ 1000000) (hx : l.getLast? = some x) :
  Calls Tryz.prog 34 #[.agg #[.int .i64 id, sv]] W fun e w' => e = .returned (.int .i64 x.1) ∧ Ext W w' := by
 obtain ⟨A, c, rfl, hc, hA⟩ := hR
 have hne : l ≠ [] := by rintro rfl; simp at hx
 have hpos : 0 < l.length := List.length_pos_iff.2 hne
 rcases hA with h0 | ⟨b, o, rfl, hb, hcl⟩
 ·exact absurd h0 hne
 obtain ⟨c0, c1, c2, c3⟩ : Cell4 W b (o + (l.length - 1) * 4) x := by
  have := hcl (l.length - 1) (by omega)
  rw [List.getLast?_eq_getElem?, List.getElem?_eq_getElem (by omega)] at hx
  injection hx with hx
  rwa [hx] at this
 obtain ⟨n, hn⟩ : ∃ n, l.length = n + 1 := ⟨l.length - 1, by omega⟩
 rw [hn] at c0 hl ⊢
 rw [Nat.add_sub_cancel] at c0
 have hE : Ext W (W.alloc (.cells #[.int .i64 id, .slice (some ⟨b, o, none⟩) (n + 1) c] 71)) := (Ext.refl W).alloc _
 have d0 := hE.cell_some c0
 have HE := Lib.hid hE
 have i0 : (n : Int) < ((n + 1 : Nat) : Int) := by omega
 have s0 : IntKind.i64.wrap (((n + 1 : Nat) : Int) - 1) = (n : Int) := by
  rw [show ((n + 1 : Nat) : Int) - 1 = (n : Int) by omega]
  exact wr_same (by unfold In64; omega)
 clear hE hn hcl c0 c1 c2 c3
 go_enter Tryz.func34, Tryz.ntmps34
 go_wp2_with fail
 go_ret
 refine ⟨?_, HE.out⟩
 rfl
end Go.Proofs.YtnkelahimiipjaaGreatDoor

/-
 datapart.split, as an iterator.
-/
namespace Go.Proofs.YtnkelahimiipjaaGreatDoor
open Go.RowKit Go.Sort
attribute [local go_sem] Oper.semAt_some
/-- A block: its points, where they lie, and its bytes' row. -/
abbrev BlkX := Blk × Value × Value
def encH (x : BlkX) : Array Value := #[.agg #[.int .i64 x.1.1, x.2.1], x.2.2]
def NewH (w : World) (Z : Nat) (l : List Pts) (pre : List BlkX) (A B : World) (x : BlkX) : Prop :=
 (blksV l)[pre.length]? = some x.1 ∧ Rd w Z x.2.1 x.1.2 ∧ Nz x.2.1 ∧ OwnG EB 5 B A.heap.size x.2.2 (blkB x.1)
theorem NewH.put {w : World} {Z : Nat} {l : List Pts} {pre : List BlkX} {A B : World} {x : BlkX} (h : NewH w Z l pre A B x) {k : Nat} (hk : k < A.heap.size) (o : Obj) : NewH w Z l pre (A.putObj k o) (B.putObj k o) x :=
 ⟨h.1, h.2.1, h.2.2.1, by rw [World.putObj_size]; exact h.2.2.2.putLow hk o⟩
def lenOf : Value → Nat
 | .slice _ n _ => n
 | _ => 0
/-- Points that a file may hold. -/
def OkP (l : List Pts) : Prop := ∀ p ∈ l, 0 ≤ p.1 ∧ p.1 ≤ 1073741824 ∧ ∀ s ∈ p.2, rightS s = true
theorem blks_take {l : List Pts} {k : Nat} (h : k < l.length) : blksV (l.take (k + 1)) = blksV (l.take k) ++ (cutsF l[k].2.length l[k].2).map (fun s => (l[k].1, s)) := by
 rw [List.take_succ_eq_append_getElem h]
 unfold blksV blksP
 rw [List.flatMap_append, List.flatMap_singleton]
theorem rightS_in {x : Smp} (h : rightS x = true) : In64 x.1 ∧ (-1000000 ≤ x.2.2.1 ∧ x.2.2.1 ≤ 1000000) ∧ In64 x.2.1 ∧ In64 x.2.2.2 := by
 have h1 := rightS_bd h
 unfold rightS at h
 rw [Bool.and_eq_true] at h
 have h2 := h.2
 unfold rightV at h2
 unfold In64
 split at h2
 ·have := of_decide_eq_true h2; omega
 ·split at h2
  ·cases h2
  ·split at h2
   ·have := of_decide_eq_true h2; omega
   ·have := of_decide_eq_true h2; omega
theorem enc_ne {l : List Int} (h : l.length ≤ 4096) : encV l ≠ [] := by
 obtain ⟨k, hk⟩ := best_is h
 unfold asV at hk
 rw [if_neg (by omega)] at hk
 obtain ⟨x, hx, e⟩ := Option.map_eq_some_iff.1 hk
 rw [← e]; simp
theorem cut_pack {ls : List Smp} {q : Nat} (hq : q = min ls.length 16) : ls.take q = ls.take 16 := by
 rcases Nat.le_total ls.length 16 with h | h
 ·rw [hq, Nat.min_eq_left h, List.take_of_length_le (Nat.le_refl _), List.take_of_length_le h]
 ·rw [hq, Nat.min_eq_right h]
/-- What decimal.Pack tells of as many samples as a block may hold. -/
theorem cut_told {ls : List Smp} {q : Nat} (hq : q = min ls.length 16) :
  packN (valsL (ls.take q)) (valsL (ls.take q)).length = cutN ls ∧ (valsL (ls.take q)).take (cutN ls) = valsL (ls.take (cutN ls)) := by
 rw [cut_pack hq]
 refine ⟨rfl, ?_⟩
 unfold valsL
 rw [← List.map_take, List.take_take, Nat.min_eq_left (cut_le ls).2]
theorem blks_here {l : List Pts} {k : Nat} {pid : Int} {ls : List Smp} {pre : List Blk} (h : pre ++ (cutsF ls.length ls).map (fun s => (pid, s)) = blksV (l.take (k + 1))) (hne : ls ≠ []) : (blksV l)[pre.length]? = some (pid, ls.take (cutN ls)) := by
 have e : blksV l = blksV (l.take (k + 1)) ++ blksV (l.drop (k + 1)) := by
  unfold blksV
  rw [← List.flatMap_append, List.take_append_drop]
 obtain ⟨f, hf⟩ : ∃ f, ls.length = f + 1 := ⟨ls.length - 1, by have := List.length_pos_iff.2 hne; omega⟩
 rw [e, ← h, hf, cutsF_step hne, List.append_assoc, List.getElem?_append_right (Nat.le_refl _), Nat.sub_self]
 rfl
theorem blks_next {l : List Pts} {k : Nat} {pid : Int} {ls : List Smp} {pre : List Blk} (h : pre ++ (cutsF ls.length ls).map (fun s => (pid, s)) = blksV (l.take (k + 1))) (hne : ls ≠ []) (hr : ∀ s ∈ ls, rightS s = true) :
  (pre ++ [(pid, ls.take (cutN ls))]) ++ (cutsF (ls.drop (cutN ls)).length (ls.drop (cutN ls))).map (fun s => (pid, s)) = blksV (l.take (k + 1)) := by
 obtain ⟨f, hf⟩ : ∃ f, ls.length = f + 1 := ⟨ls.length - 1, by have := List.length_pos_iff.2 hne; omega⟩
 have h1 := cut_pos hr hne
 rw [← h, hf, cutsF_step hne, List.append_assoc]
 rw [cuts_more (ls.drop (cutN ls)).length f (ls.drop (cutN ls)) (Nat.le_refl _) (by rw [List.length_drop]; omega) (fun s hs => hr s (List.mem_of_mem_drop hs))]
 rfl
theorem toQ {e : Ending} {A B : Prop} (h : (e = .returned (.bool true) ∧ A) ∨ (e = .returned (.bool false) ∧ B)) : ∃ q : Bool, e = .returned (.bool q) ∧ (q = true → A) ∧ (q = false → B) := by
 rcases h with ⟨h1, h2⟩ | ⟨h1, h2⟩
 ·exact ⟨true, h1, fun _ => h2, fun h => by cases h⟩
 ·exact ⟨false, h1, fun h => (by cases h), fun _ => h2⟩
end Go.Proofs.YtnkelahimiipjaaGreatDoor
