/-
 decimal: number, size.
-/
import Derived.Test.YtnkelahimiipjaaGreatDoorCjk
import Derived.Test.YtnkelahimiipjaaGreatDoorCck
import Derived.Test.YtnkelahimiipjaaGreatDoorBbk
import Derived.Laws.OwnMore
namespace Go.Proofs.YtnkelahimiipjaaGreatDoor
open Go.RowKit Go.Sort
set_option maxRecDepth 100000 in
set_option maxHeartbeats 2000000 in
theorem number_walk (m x s : Int) (W : World) : Calls Tryz.prog 94 #[.agg #[.int .i64 m, .int .i64 x, .int .i64 s]] W fun e w' => e = .returned (.bool (numB (m, x, s))) ∧ Ext W w' := by
 obtain ⟨W1, hW1⟩ : ∃ W1, W1 = W.alloc (.cells #[.int .i64 m, .int .i64 x, .int .i64 s] 64) := ⟨_, rfl⟩
 have hE : Ext W W1 := by rw [hW1]; exact (Ext.refl W).alloc _
 have c0 : W1.cell? ⟨W.heap.size, 0, none⟩ = some (.int .i64 m) := by rw [hW1]; exact new_cellG W _ _ 0
 have c2 : W1.cell? ⟨W.heap.size, 2, none⟩ = some (.int .i64 s) := by rw [hW1]; exact new_cellG W _ _ 2
 have HE := Lib.hid hE
 clear hE
 by_cases hs : s = 0
 ·have g : (s == 0) = true := by simp [hs]
  have HS := Lib.hid hs
  clear hs
  go_enter Tryz.func94, Tryz.ntmps94
  go_wp2_with fail
  rw [← hW1]
  clear hW1
  go_wp2_with fail
  go_ret
  refine ⟨?_, HE.out⟩
  unfold numB
  simp [HS.out]
  first | done | rfl | (by_cases hm : m = 0 <;> simp [hm])
 ·have g : (s == 0) = false := by simp [hs]
  have HS := Lib.hid hs
  clear hs
  go_enter Tryz.func94, Tryz.ntmps94
  go_wp2_with fail
  rw [← hW1]
  clear hW1
  go_wp2_with fail
  go_ret
  refine ⟨?_, HE.out⟩
  unfold numB
  simp [HS.out]
set_option maxRecDepth 100000 in
set_option maxHeartbeats 2000000 in
theorem size_walk (m : Int) (h : -1000000000000000000 ≤ m ∧ m ≤ 1000000000000000000) (W : World) : Calls Tryz.prog 115 #[.int .i64 m] W fun e w' => e = .returned (.int .i64 (m.natAbs : Int)) ∧ w' = W := by
 by_cases h0 : m < 0
 ·have hw : IntKind.i64.wrap (-m) = -m := IntWalk.i64_in _ (by omega)
  have e : (m.natAbs : Int) = -m := by omega
  rw [e]
  go_enter Tryz.func115, Tryz.ntmps115
  go_wp2_with fail
  go_ret
  exact ⟨by first | rfl | simp [hw], rfl⟩
 ·have e : (m.natAbs : Int) = m := by omega
  rw [e]
  go_enter Tryz.func115, Tryz.ntmps115
  go_wp2_with fail
  go_ret
  exact ⟨rfl, rfl⟩
end Go.Proofs.YtnkelahimiipjaaGreatDoor

/-
 codec: the closures of a row.
-/
namespace Go.Proofs.YtnkelahimiipjaaGreatDoor
open Go.RowKit Go.Sort
set_option maxRecDepth 100000 in
set_option maxHeartbeats 2000000 in
theorem at_walk (l : List Int) (rv : Value) (p i : Nat) (W : World) (hp : W.cell? ⟨p, 0, none⟩ = some rv) (hR : RdG EI W W.heap.size rv l) (hi : i < l.length) :
  Calls Tryz.prog 140 #[.int .i64 (i : Int), .pointer (some ⟨p, 0, none⟩)] W fun e w' => e = .returned (.int .i64 (l.getD i 0)) ∧ w' = W := by
 obtain ⟨A, c, rfl, _, _, hA⟩ := hR
 rcases hA with h0 | ⟨b1, o1, e, hb1, hcl⟩
 ·rw [h0] at hi; simp at hi
 subst e
 have hc0 : W.cell? ⟨b1, o1 + i, none⟩ = some (.int .i64 (l.getD i 0)) := by
  have := cellI.1 (hcl i hi)
  rw [List.getD_eq_getElem?_getD, List.getElem?_eq_getElem hi]
  simpa [EI] using this
 obtain ⟨n, hn⟩ : ∃ n, n = l.length := ⟨_, rfl⟩
 rw [← hn] at hp hi
 have i1 : (i : Int) < (n : Int) := by omega
 clear hcl hn
 go_enter Tryz.func140, Tryz.ntmps140
 go_wp2_with fail
 go_ret
 exact ⟨rfl, rfl⟩
set_option maxRecDepth 100000 in
set_option maxHeartbeats 2000000 in
theorem diffs_walk (A : Option Addr) (n c : Nat) (W : World) : Calls Tryz.prog 141 #[.slice A n c] W fun e w' => e = .returned (.func (.func 151) #[] #[.pointer (some ⟨W.heap.size, 0, none⟩)]) ∧ w' = W.alloc (.cells #[.slice A n c] 174) := by
 have hmf : ∀ (fn : Fn) (first cap : Array Value) (w : World), (Instr.makeFunc fn first cap).run Tryz.prog w = .ok (.func fn first cap) w := fun _ _ _ _ => rfl
 go_enter Tryz.func141, Tryz.ntmps141
 go_wp2_with fail
 go_ret
 exact ⟨rfl, rfl⟩
end Go.Proofs.YtnkelahimiipjaaGreatDoor

/-
 codec: the differences of a row.
-/
namespace Go.Proofs.YtnkelahimiipjaaGreatDoor
open Go.RowKit Go.Sort
set_option maxRecDepth 100000 in
set_option maxHeartbeats 2000000 in
theorem diff_walk (l : List Int) (rv : Value) (p i : Nat) (W : World) (hp : W.cell? ⟨p, 0, none⟩ = some rv) (hR : RdG EI W W.heap.size rv l) (hi : i + 1 < l.length) (hl : l.length ≤ 1000000) :
  Calls Tryz.prog 151 #[.int .i64 ((i + 1 : Nat) : Int), .pointer (some ⟨p, 0, none⟩)] W fun e w' => e = .returned (.int .i64 (dV l (i + 1))) ∧ Ext W w' := by
 obtain ⟨A, c, rfl, _, _, hA⟩ := hR
 rcases hA with h0 | ⟨b1, o1, e, hb1, hcl⟩
 ·rw [h0] at hi; simp at hi
 subst e
 obtain ⟨x, hx⟩ : ∃ x, x = l.getD (i + 1) 0 := ⟨_, rfl⟩
 obtain ⟨y, hy⟩ : ∃ y, y = l.getD i 0 := ⟨_, rfl⟩
 have hc0 : W.drew.cell? ⟨b1, o1 + (i + 1), none⟩ = some (.int .i64 x) := by
  have := cellI.1 (hcl (i + 1) hi)
  rw [hx, List.getD_eq_getElem?_getD, List.getElem?_eq_getElem hi]
  simpa [EI] using this
 have hc1 : W.drew.cell? ⟨b1, o1 + i, none⟩ = some (.int .i64 y) := by
  have := cellI.1 (hcl i (by omega))
  rw [hy, List.getD_eq_getElem?_getD, List.getElem?_eq_getElem (by omega)]
  simpa [EI] using this
 have hd : dV l (i + 1) = IntKind.i64.wrap (x - y) := by unfold dV; rw [Nat.add_sub_cancel, hx, hy]
 have hp2 : W.drew.cell? ⟨p, 0, none⟩ = some (.slice (some ⟨b1, o1, none⟩) l.length c) := hp
 obtain ⟨n, hn⟩ : ∃ n, n = l.length := ⟨_, rfl⟩
 rw [← hn] at hp hp2 hi hl
 have i1 : ((i + 1 : Nat) : Int) < (n : Int) := by omega
 have i2 : (i : Int) < (n : Int) := by omega
 have hw : IntKind.i64.wrap (((i + 1 : Nat) : Int) - 1) = (i : Int) := by
  rw [show (((i + 1 : Nat) : Int) - 1) = (i : Int) by omega]
  exact IntWalk.i64_in _ (by omega)
 rw [hd]
 clear hcl hn hx hy hd
 obtain ⟨j, hj⟩ : ∃ j, j = i + 1 := ⟨_, rfl⟩
 rw [← hj] at hc0 i1 hw ⊢
 have j0 : (0 : Int) ≤ (j : Int) := by omega
 have j1 : (0 : Int) ≤ (i : Int) := by omega
 clear hj hi
 go_enter Tryz.func151, Tryz.ntmps151
 go_wp2_with fail
 go_region_held3 (fun w' => w' = W.drew)
  (first | assumption | rfl)
  (fail)
 go_wp2_with fail
 go_ret
 exact ⟨rfl, (Ext.refl W).drew⟩
end Go.Proofs.YtnkelahimiipjaaGreatDoor

/-
 codec: flat over a row.
-/
namespace Go.Proofs.YtnkelahimiipjaaGreatDoor
open Go.RowKit Go.Sort
set_option maxRecDepth 100000 in
set_option maxHeartbeats 2000000 in
theorem flatA_walk (l : List Int) (rv : Value) (p : Nat) (W : World) (hp : W.cell? ⟨p, 0, none⟩ = some rv) (hR : RdG EI W W.heap.size rv l) (hl : l.length ≤ 1000000) :
  Calls Tryz.prog 139 #[.int .i64 0, .int .i64 (l.length : Int), .func (.func 140) #[] #[.pointer (some ⟨p, 0, none⟩)]] W fun e w' => e = .returned (.bool (alikeB l)) ∧ w' = W := by
 have KA : Hid (∀ i : Nat, i < l.length → Calls Tryz.prog 140 #[.int .i64 (i : Int), .pointer (some ⟨p, 0, none⟩)] W fun e w' => e = .returned (.int .i64 (l.getD i 0)) ∧ w' = W) := fun i hi => at_walk l rv p i W hp hR hi
 obtain ⟨n, hn⟩ : ∃ n, n = l.length := ⟨_, rfl⟩
 obtain ⟨q, hq⟩ : ∃ q, q = alikeB l := ⟨_, rfl⟩
 rw [← hq]
 rw [← hn] at hl ⊢
 have HN := Lib.hid hn
 have HQ := Lib.hid hq
 clear hp hR hn hq
 go_enter Tryz.func139, Tryz.ntmps139
 go_wp2_with fail
 go_loopw [7] (fun iv wl => ∃ k : Nat, k ≤ n ∧ iv = .int .i64 (k : Int) ∧ wl = W ∧ Hid (∀ j, j < k → l.getD j 0 = l.getD 0 0))
  (fun iv _ => n - (intOf iv).toNat)
 case atStart => exact ⟨0, Nat.zero_le _, rfl, rfl, fun j hj => absurd hj (Nat.not_lt_zero _)⟩
 case round =>
  obtain ⟨k, hk, rfl, rfl, HJ⟩ := hrel
  by_cases hlt : k < n
  ·have hl2 : k < l.length := by rw [← HN.out]; exact hlt
   have i1 : (k : Int) < (n : Int) := by omega
   have K1 := Lib.hid (KA.out k hl2)
   have K0 : Hid (Calls Tryz.prog 140 #[.int .i64 0, .pointer (some ⟨p, 0, none⟩)] wr fun e w' => e = .returned (.int .i64 (l.getD 0 0)) ∧ w' = wr) := KA.out 0 (by omega)
   obtain ⟨x, hx⟩ : ∃ x, x = l.getD k 0 := ⟨_, rfl⟩
   obtain ⟨y, hy⟩ : ∃ y, y = l.getD 0 0 := ⟨_, rfl⟩
   rw [← hx] at K1
   rw [← hy] at K0 HJ
   have HXY := Lib.hid (And.intro hx hy)
   clear hl2 hx hy
   go_wp2_with fail
   refine K1.out.mono ?_
   rintro e w2 ⟨rfl, rfl⟩
   go_wp2_with fail
   refine K0.out.mono ?_
   rintro e w3 ⟨rfl, rfl⟩
   by_cases hxy : x = y
   ·have g : (x != y) = false := by simp [hxy]
    have HE := Lib.hid hxy
    clear hxy
    go_wp2_with fail
    go_roundw
    case rel => exact ⟨k + 1, by omega, by go_num, by trivial, fun j hj => by
     by_cases e : j = k
     ·subst e; rw [← HXY.out.1, ← HXY.out.2]; exact HE.out
     ·rw [← HXY.out.2]; exact HJ.out j (by omega)⟩
    case measure => simp [intOf]; omega
   ·have g : (x != y) = true := by simp [hxy]
    have HE := Lib.hid hxy
    have hq2 : q = false := by
     rw [HQ.out]
     unfold alikeB
     rw [← Bool.not_eq_true, List.all_eq_true]
     intro h
     have h1 := of_decide_eq_true (h (l[k]'(by rw [← HN.out]; exact hlt)) (List.getElem_mem _))
     apply HE.out
     rw [HXY.out.1, HXY.out.2, ← h1, List.getD_eq_getElem?_getD, List.getElem?_eq_getElem (by rw [← HN.out]; exact hlt)]; rfl
    subst hq2
    clear hxy
    go_wp2_with fail
    go_ret
    exact ⟨rfl, rfl⟩
  ·have hkn : k = n := by omega
   have i1 : ¬ (k : Int) < (n : Int) := by omega
   have hq2 : q = true := by
    rw [HQ.out]
    unfold alikeB
    rw [List.all_eq_true]
    intro z hz
    obtain ⟨i, hi, rfl⟩ := List.getElem_of_mem hz
    have := HJ.out i (by rw [hkn, HN.out]; exact hi)
    rw [List.getD_eq_getElem?_getD, List.getElem?_eq_getElem hi] at this
    exact decide_eq_true this
   subst hq2
   clear hk hlt hkn
   go_wp2_with fail
   go_ret
   exact ⟨rfl, rfl⟩
end Go.Proofs.YtnkelahimiipjaaGreatDoor

/-
 codec: flat over the differences of a row.
-/
namespace Go.Proofs.YtnkelahimiipjaaGreatDoor
open Go.RowKit Go.Sort
theorem diff_at {l : List Int} {rv : Value} {p : Nat} {W : World} (hp : W.cell? ⟨p, 0, none⟩ = some rv) (hR : RdG EI W W.heap.size rv l) (hl : l.length ≤ 1000000) (w : World) (hE : Ext W w) (j : Nat) (h1 : 1 ≤ j) (h2 : j < l.length) :
  Calls Tryz.prog 151 #[.int .i64 (j : Int), .pointer (some ⟨p, 0, none⟩)] w fun e w' => e = .returned (.int .i64 (dV l j)) ∧ Ext w w' := by
 obtain ⟨i, rfl⟩ : ∃ i, j = i + 1 := ⟨j - 1, by omega⟩
 exact diff_walk l rv p i w (hE.cell_some hp) (hR.on hE.below) h2 hl
set_option maxRecDepth 100000 in
set_option maxHeartbeats 2000000 in
theorem flatD_walk (l : List Int) (rv : Value) (p : Nat) (W : World) (hp : W.cell? ⟨p, 0, none⟩ = some rv) (hR : RdG EI W W.heap.size rv l) (hl : l.length ≤ 1000000) (h2 : 2 ≤ l.length) :
  Calls Tryz.prog 139 #[.int .i64 1, .int .i64 (l.length : Int), .func (.func 151) #[] #[.pointer (some ⟨p, 0, none⟩)]] W fun e w' => e = .returned (.bool (evenB l)) ∧ Ext W w' := by
 have KA : Hid (∀ w, Ext W w → ∀ j : Nat, 1 ≤ j → j < l.length → Calls Tryz.prog 151 #[.int .i64 (j : Int), .pointer (some ⟨p, 0, none⟩)] w fun e w' => e = .returned (.int .i64 (dV l j)) ∧ Ext w w') := fun w hE j a b => diff_at hp hR hl w hE j a b
 obtain ⟨n, hn⟩ : ∃ n, n = l.length := ⟨_, rfl⟩
 obtain ⟨q, hq⟩ : ∃ q, q = evenB l := ⟨_, rfl⟩
 rw [← hq]
 rw [← hn] at hl h2 ⊢
 have HN := Lib.hid hn
 have HQ := Lib.hid hq
 clear hp hR hn hq
 go_enter Tryz.func139, Tryz.ntmps139
 go_wp2_with fail
 go_loopw [7] (fun iv wl => ∃ k : Nat, 1 ≤ k ∧ k ≤ n ∧ iv = .int .i64 (k : Int) ∧ Hid (Ext W wl) ∧ Hid (∀ j, 1 ≤ j → j < k → dV l j = dV l 1))
  (fun iv _ => n - (intOf iv).toNat)
 case atStart => exact ⟨1, Nat.le_refl _, by omega, rfl, Ext.refl _, fun j h1 hj => by omega⟩
 case round =>
  obtain ⟨k, hk1, hk, rfl, HE, HJ⟩ := hrel
  by_cases hlt : k < n
  ·have hl2 : k < l.length := by rw [← HN.out]; exact hlt
   have i1 : (k : Int) < (n : Int) := by omega
   have K1 := Lib.hid (KA.out wr HE.out k hk1 hl2)
   have K0 : Hid (∀ w, Ext W w → Calls Tryz.prog 151 #[.int .i64 1, .pointer (some ⟨p, 0, none⟩)] w fun e w' => e = .returned (.int .i64 (dV l 1)) ∧ Ext w w') := fun w hw => KA.out w hw 1 (Nat.le_refl _) (by omega)
   obtain ⟨x, hx⟩ : ∃ x, x = dV l k := ⟨_, rfl⟩
   obtain ⟨y, hy⟩ : ∃ y, y = dV l 1 := ⟨_, rfl⟩
   rw [← hx] at K1
   rw [← hy] at K0 HJ
   have HXY := Lib.hid (And.intro hx hy)
   clear hl2 hx hy
   go_wp2_with fail
   refine K1.out.mono ?_
   rintro e w2 ⟨rfl, h2⟩
   have K2 := Lib.hid (K0.out w2 (HE.out.trans h2))
   have H2 := Lib.hid h2
   clear h2
   go_wp2_with fail
   refine K2.out.mono ?_
   rintro e w3 ⟨rfl, h3⟩
   have HE3 := Lib.hid ((HE.out.trans H2.out).trans h3)
   clear h3
   by_cases hxy : x = y
   ·have g : (x != y) = false := by simp [hxy]
    have HE := Lib.hid hxy
    clear hxy
    go_wp2_with fail
    go_roundw
    case rel => exact ⟨k + 1, by omega, by omega, by go_num, HE3.out, fun j h1 hj => by
     by_cases e : j = k
     ·subst e; rw [← HXY.out.1, ← HXY.out.2]; exact HE.out
     ·rw [← HXY.out.2]; exact HJ.out j h1 (by omega)⟩
    case measure => simp [intOf]; omega
   ·have g : (x != y) = true := by simp [hxy]
    have HE := Lib.hid hxy
    have hq2 : q = false := by
     rw [HQ.out]
     unfold evenB
     rw [← Bool.not_eq_true, List.all_eq_true]
     intro h
     have h1 := of_decide_eq_true (h (k - 1) (List.mem_range.2 (by rw [← HN.out]; omega)))
     rw [show k - 1 + 1 = k by omega] at h1
     exact HE.out (by rw [HXY.out.1, HXY.out.2]; exact h1)
    subst hq2
    clear hxy
    go_wp2_with fail
    go_ret
    exact ⟨rfl, HE3.out⟩
  ·have hkn : k = n := by omega
   have i1 : ¬ (k : Int) < (n : Int) := by omega
   have hq2 : q = true := by
    rw [HQ.out]
    unfold evenB
    rw [List.all_eq_true]
    intro i hi
    have hi2 := List.mem_range.1 hi
    exact decide_eq_true (HJ.out (i + 1) (by omega) (by rw [hkn, HN.out]; omega))
   subst hq2
   clear hk hlt hkn
   go_wp2_with fail
   go_ret
   exact ⟨rfl, HE.out⟩
end Go.Proofs.YtnkelahimiipjaaGreatDoor

/-
 codec: alike, even.
-/
namespace Go.Proofs.YtnkelahimiipjaaGreatDoor
open Go.RowKit Go.Sort
/-- What a row is told as by one of the kinds. -/
def AsC (kind : Nat) (l : List Int) (W : World) (e : Ending) (w' : World) : Prop :=
 ∃ A n c, e = .returned (.tuple #[.slice A n c, .bool (asX kind l).isSome]) ∧ Below W.heap.size W w' ∧ ∀ x, asX kind l = some x → RdG EI w' w'.heap.size (.slice A n c) x
theorem rd2 {w : World} {x0 x1 : Int} : RdG EI (w.alloc (.cells #[.int .i64 x0, .int .i64 x1] 2)) (w.heap.size + 1) (.slice (some ⟨w.heap.size, 0, none⟩) 2 2) [x0, x1] := by
 refine ⟨_, 2, rfl, Nat.le_refl _, fun e => (by cases e), .inr ⟨_, 0, rfl, Nat.lt_succ_self _, fun i hi => ?_⟩⟩
 have hc := fun j => new_cellG w #[.int .i64 x0, .int .i64 x1] 2 j
 match i, hi with
 | 0, _ => exact cellI.2 (hc 0)
 | 1, _ => exact cellI.2 (hc 1)
set_option maxRecDepth 100000 in
set_option maxHeartbeats 2000000 in
theorem alike_walk (l : List Int) (v : Value) (W : World) (hR : RdG EI W W.heap.size v l) (hl : l.length ≤ 1000000) :
  Calls Tryz.prog 128 #[v] W (AsC 0 l W) := by
 have hmf : ∀ (fn : Fn) (first cap : Array Value) (w : World), (Instr.makeFunc fn first cap).run Tryz.prog w = .ok (.func fn first cap) w := fun _ _ _ _ => rfl
 have hr : Tryz.f128.results = #[.tmp 2, .tmp 3] := by kernel_rfl
 obtain ⟨n, hn⟩ : ∃ n, n = l.length := ⟨_, rfl⟩
 have HR := Lib.hid hR
 obtain ⟨A, c, rfl, hc, hn0, _⟩ := hR
 rw [← hn] at HR hc hl ⊢
 have HN := Lib.hid hn
 have HN0 := Lib.hid hn0
 have hB : Below W.heap.size W (W.alloc (.cells #[.slice A n c] 174)) := (Below.refl _ _).alloc (Nat.le_refl _) _
 have HB := Lib.hid hB
 clear hB hn0
 by_cases h0 : n = 0
 ·have ha : asX 0 l = none := by unfold asX; rw [if_pos rfl, if_neg (by rw [← HN.out]; omega)]
  have HA := Lib.hid ha
  subst h0
  clear ha hn
  go_enter Tryz.func128, Tryz.ntmps128
  go_wp2_with fail
  refine bodyPost_ret (v := .tuple #[.slice none 0 0, .bool false]) ?_ rfl ⟨none, 0, 0, by rw [HA.out]; rfl, HB.out, fun x hx => by rw [HA.out] at hx; cases hx⟩
  unfold results
  rw [hr]
  go_simp
 ·have i1 : ¬ (n : Int) < 1 := by omega
  have KF : Hid (Calls Tryz.prog 139 #[.int .i64 0, .int .i64 (n : Int), .func (.func 140) #[] #[.pointer (some ⟨W.heap.size, 0, none⟩)]] (W.alloc (.cells #[.slice A n c] 174)) fun e w' => e = .returned (.bool (alikeB l)) ∧ w' = W.alloc (.cells #[.slice A n c] 174)) := by
   rw [HN.out]
   exact flatA_walk l _ W.heap.size _ (by rw [← HN.out]; exact new_cellG W _ _ 0) (by have := HR.out.on HB.out; rw [HN.out] at this ⊢; exact this) (by omega)
  have hnl : 1 ≤ l.length := by omega
  cases hq : alikeB l with
  | false =>
    have ha : asX 0 l = none := by unfold asX; rw [if_pos rfl, if_neg (by simp [hq])]
    have HA := Lib.hid ha
    rw [hq] at KF
    clear ha hq hn hnl
    go_enter Tryz.func128, Tryz.ntmps128
    go_wp2_with fail
    refine KF.out.mono ?_
    rintro e w1 ⟨rfl, rfl⟩
    go_wp2_with fail
    refine bodyPost_ret (v := .tuple #[.slice none 0 0, .bool false]) ?_ rfl ⟨none, 0, 0, by rw [HA.out]; rfl, HB.out, fun x hx => by rw [HA.out] at hx; cases hx⟩
    unfold results
    rw [hr]
    go_simp
  | true =>
    have ha : asX 0 l = some [l.getD 0 0] := by unfold asX; rw [if_pos rfl, if_pos ⟨hnl, hq⟩]
    have HA := Lib.hid ha
    have HT : Hid (RdG EI (W.alloc (.cells #[.slice A n c] 174)) (W.alloc (.cells #[.slice A n c] 174)).heap.size (.slice A 1 c) [l.getD 0 0]) := by
     have h1 := (HR.out.on HB.out).cutTo HN.out (k := 1) (by omega)
     have e : l.take 1 = [l.getD 0 0] := by
      cases l with
      | nil => simp at hnl
      | cons x l => rfl
     rw [e] at h1; exact h1
    rw [hq] at KF
    have i2 : (1 : Int) ≤ (c : Int) := by omega
    clear ha hq hn hnl
    go_enter Tryz.func128, Tryz.ntmps128
    go_wp2_with fail
    refine KF.out.mono ?_
    rintro e w1 ⟨rfl, rfl⟩
    go_wp2_with fail
    refine bodyPost_ret (v := .tuple #[.slice A 1 c, .bool true]) ?_ rfl ⟨A, 1, c, by rw [HA.out]; rfl, HB.out, fun x hx => by
     rw [HA.out] at hx
     injection hx with hx
     subst hx
     exact HT.out⟩
    unfold results
    rw [hr]
    go_simp
set_option maxRecDepth 100000 in
set_option maxHeartbeats 2000000 in
theorem even_walk (l : List Int) (v : Value) (W : World) (hR : RdG EI W W.heap.size v l) (hl : l.length ≤ 1000000) :
  Calls Tryz.prog 129 #[v] W (AsC 1 l W) := by
 have hr : Tryz.f129.results = #[.tmp 2, .tmp 3] := by kernel_rfl
 obtain ⟨n, hn⟩ : ∃ n, n = l.length := ⟨_, rfl⟩
 have HR := Lib.hid hR
 obtain ⟨A, c, rfl, hc, hn0, hA⟩ := hR
 rw [← hn] at HR hc hl ⊢
 have HN := Lib.hid hn
 have HAA := Lib.hid hA
 have hB : Below W.heap.size W (W.alloc (.cells #[.slice A n c] 174)) := (Below.refl _ _).alloc (Nat.le_refl _) _
 have HB := Lib.hid hB
 have KD : Hid (Calls Tryz.prog 141 #[.slice A n c] W fun e w' => e = .returned (.func (.func 151) #[] #[.pointer (some ⟨W.heap.size, 0, none⟩)]) ∧ w' = W.alloc (.cells #[.slice A n c] 174)) := diffs_walk A n c W
 clear hB hn0 hA
 by_cases h0 : n < 2
 ·have ha : asX 1 l = none := by unfold asX; rw [if_neg (by decide), if_pos rfl, if_neg (by rw [← HN.out]; omega)]
  have HA := Lib.hid ha
  have i1 : (n : Int) < 2 := by omega
  clear ha hn
  go_enter Tryz.func129, Tryz.ntmps129
  go_wp2_with fail
  refine KD.out.mono ?_
  rintro e w1 ⟨rfl, rfl⟩
  go_wp2_with fail
  refine bodyPost_ret (v := .tuple #[.slice none 0 0, .bool false]) ?_ rfl ⟨none, 0, 0, by rw [HA.out]; rfl, HB.out, fun x hx => by rw [HA.out] at hx; cases hx⟩
  unfold results
  rw [hr]
  go_simp
 ·have i1 : ¬ (n : Int) < 2 := by omega
  have hnl : 2 ≤ l.length := by omega
  have hp : (W.alloc (.cells #[.slice A n c] 174)).cell? ⟨W.heap.size, 0, none⟩ = some (.slice A n c) := new_cellG W _ _ 0
  have hRW : RdG EI (W.alloc (.cells #[.slice A n c] 174)) (W.alloc (.cells #[.slice A n c] 174)).heap.size (.slice A n c) l := HR.out.on HB.out
  have KF : Hid (Calls Tryz.prog 139 #[.int .i64 1, .int .i64 (n : Int), .func (.func 151) #[] #[.pointer (some ⟨W.heap.size, 0, none⟩)]] (W.alloc (.cells #[.slice A n c] 174)) fun e w' => e = .returned (.bool (evenB l)) ∧ Ext (W.alloc (.cells #[.slice A n c] 174)) w') := by
   rw [HN.out] at hp hRW ⊢
   exact flatD_walk l _ W.heap.size _ hp hRW (by omega) hnl
  cases hq : evenB l with
  | false =>
    have ha : asX 1 l = none := by unfold asX; rw [if_neg (by decide), if_pos rfl, if_neg (by simp [hq])]
    have HA := Lib.hid ha
    rw [hq] at KF
    clear ha hq hn hnl hp hRW
    go_enter Tryz.func129, Tryz.ntmps129
    go_wp2_with fail
    refine KD.out.mono ?_
    rintro e w1 ⟨rfl, rfl⟩
    go_wp2_with fail
    refine KF.out.mono ?_
    rintro e w1 ⟨rfl, hE⟩
    have HE := Lib.hid hE
    clear hE
    go_wp2_with fail
    refine bodyPost_ret (v := .tuple #[.slice none 0 0, .bool false]) ?_ rfl ⟨none, 0, 0, by rw [HA.out]; rfl, HB.out.trans (HE.out.below.mono HB.out.size), fun x hx => by rw [HA.out] at hx; cases hx⟩
    unfold results
    rw [hr]
    go_simp
  | true =>
    have ha : asX 1 l = some [l.getD 0 0, dV l 1] := by unfold asX; rw [if_neg (by decide), if_pos rfl, if_pos ⟨hnl, hq⟩]
    have HA := Lib.hid ha
    obtain ⟨d, hd⟩ : ∃ d, d = dV l 1 := ⟨_, rfl⟩
    obtain ⟨x0, hx0⟩ : ∃ x, x = l.getD 0 0 := ⟨_, rfl⟩
    rw [← hd, ← hx0] at HA
    rw [hq] at KF
    have K1 : Hid (∀ w, Ext (W.alloc (.cells #[.slice A n c] 174)) w → Calls Tryz.prog 151 #[.int .i64 1, .pointer (some ⟨W.heap.size, 0, none⟩)] w fun e w' => e = .returned (.int .i64 d) ∧ Ext w w') := fun w hw => by
     rw [hd]
     rw [HN.out] at hp hRW
     exact diff_at hp hRW (by omega) w (by rw [← HN.out]; exact hw) 1 (Nat.le_refl _) (by omega)
    have hcell : ∃ b1 o1, A = some ⟨b1, o1, none⟩ ∧ (W.alloc (.cells #[.slice A n c] 174)).cell? ⟨b1, o1, none⟩ = some (.int .i64 x0) := by
     rcases HAA.out with h0 | ⟨b1, o1, e, hb1, hcl⟩
     ·rw [h0] at hnl; simp at hnl
     refine ⟨b1, o1, e, ?_⟩
     have := cellI.1 (hcl 0 (by omega))
     rw [HB.out.cell hb1, hx0, List.getD_eq_getElem?_getD, List.getElem?_eq_getElem (by omega)]
     simpa [EI] using this
    obtain ⟨b1, o1, rfl, hcc⟩ := hcell
    have HC := Lib.hid hcc
    have i2 : (0 : Int) < (n : Int) := by omega
    have i3 : 0 < n := by omega
    clear ha hq hn hnl hp hRW hd hx0 hcc
    go_enter Tryz.func129, Tryz.ntmps129
    go_wp2_with fail
    refine KD.out.mono ?_
    rintro e w1 ⟨rfl, rfl⟩
    go_wp2_with fail
    refine KF.out.mono ?_
    rintro e w2 ⟨rfl, hE⟩
    have HE := Lib.hid hE
    have c9 := hE.cell_some HC.out
    clear hE
    go_wp2_with fail
    go_region_held3 (fun w' => w'.cell? ⟨b1, o1, none⟩ = some (.int .i64 x0) ∧ Ext w2 w')
     (first | exact ⟨c9, Ext.refl _⟩ | exact ⟨c9, (Ext.refl _).drew⟩ | exact ⟨c8, Ext.trans (by first | exact Ext.refl _ | exact (Ext.refl _).drew) HE3.out⟩ | exact ⟨((Ext.refl _).alloc _).cell_some c8, (Ext.trans (by first | exact Ext.refl _ | exact (Ext.refl _).drew) HE3.out).alloc _⟩)
     (first | (go_at_call 151; refine (K1.out _ (by first | exact HE.out | exact HE.out.drew)).mono ?_; rintro e w3 ⟨rfl, hE3⟩; have c8 := hE3.cell_some c9; have HE3 := Lib.hid hE3; clear hE3))
    go_wp2_with fail
    have HBF : Hid (Below W.heap.size W w3) := (HB.out.trans (HE.out.below.mono HB.out.size)).trans ((Ext.trans (by first | exact Ext.refl _ | exact (Ext.refl _).drew) HE3.out).below.mono (HB.out.trans (HE.out.below.mono HB.out.size)).size)
    refine bodyPost_ret (v := .tuple #[.slice (some ⟨w3.heap.size, 0, none⟩) 2 2, .bool true]) ?_ rfl ⟨_, 2, 2, by rw [HA.out]; rfl, HBF.out.alloc HBF.out.size _, fun x hx => by
     rw [HA.out] at hx
     injection hx with hx
     subst hx
     have h := rd2 (w := w3) (x0 := x0) (x1 := d)
     simpa using h⟩
    unfold results
    rw [hr]
    go_simp
end Go.Proofs.YtnkelahimiipjaaGreatDoor

/-
 codec: first, second.
-/
namespace Go.Proofs.YtnkelahimiipjaaGreatDoor
open Go.RowKit Go.Sort
theorem EI.flat_map (l : List Int) : EI.flat l = l.map (fun n => Value.int .i64 n) := by
 induction l with
 | nil => rfl
 | cons a l ih => unfold Enc.flat at *; rw [List.flatMap_cons, ih]; rfl
/-- A store into a row of numbers of one's own. -/
theorem OwnG.storeI {w : World} {base g n c i : Nat} {l : List Int} (h : OwnG EI 2 w base (.slice (some ⟨g, 0, none⟩) n c) l) (hn : n = l.length) (hi : i < n) (x : Int) :
  OwnG EI 2 (w.setCell ⟨g, i, none⟩ (.int .i64 x)) base (.slice (some ⟨g, 0, none⟩) n c) (l.set i x) ∧ w.cell? ⟨g, i, none⟩ = some (.int .i64 (l.getD i 0)) ∧ w.frozen? ⟨g, i, none⟩ = false := by
 subst hn
 refine ⟨?_, ?_, World.ownsRow.frozenAt h i⟩
 ·have h1 := (World.ownsRow.stored h i (.int .i64 x)).1
  unfold OwnG
  rw [List.length_set]
  have e : EI.flat (l.set i x) = (EI.flat l).set i (.int .i64 x) := by
   rw [EI.flat_map, EI.flat_map, List.map_set]
  rw [e]
  exact h1
 ·have h1 := World.ownsRow.cellAt h i (by show i < l.length * 1; omega)
  rw [h1, EI.flat_map, List.getElem?_map, List.getElem?_eq_getElem hi, List.getD_eq_getElem?_getD, List.getElem?_eq_getElem hi]
  rfl
theorem own_addr {α : Type} {E : Enc α} {ty : TypeId} {w : World} {base n c : Nat} {A : Option Addr} {l : List α} (h : OwnG E ty w base (.slice A n c) l) (hn : 0 < n) : ∃ g, A = some ⟨g, 0, none⟩ ∧ base ≤ g ∧ g < w.heap.size := by
 rcases h.2 with ⟨h0, _⟩ | ⟨g, cap, cur, h0, hb, hh, _⟩
 ·injection h0 with _ h0 _; omega
 ·injection h0 with h0 _ _
  exact ⟨g, h0, hb, (Array.getElem?_eq_some_iff.1 hh).1⟩
/-- So far told as differences. -/
def mixV (f : Nat → Int) (l : List Int) (k : Nat) : List Int := (List.range l.length).map (fun i => if i < k then f i else l.getD i 0)
theorem mix_len (f : Nat → Int) (l : List Int) (k : Nat) : (mixV f l k).length = l.length := by unfold mixV; simp
theorem mix_get (f : Nat → Int) (l : List Int) (k i : Nat) : (mixV f l k)[i]? = if i < l.length then some (if i < k then f i else l.getD i 0) else none := by
 unfold mixV
 rw [List.getElem?_map]
 by_cases h : i < l.length
 ·rw [List.getElem?_range h, if_pos h]; rfl
 ·rw [List.getElem?_eq_none (by simp; omega), if_neg h]; rfl
theorem mix_zero (f : Nat → Int) (l : List Int) : mixV f l 0 = l := by
 apply List.ext_getElem?
 intro i
 rw [mix_get]
 by_cases h : i < l.length
 ·rw [if_pos h, if_neg (by omega), List.getElem?_eq_getElem h, List.getD_eq_getElem?_getD, List.getElem?_eq_getElem h]; rfl
 ·rw [if_neg h, List.getElem?_eq_none (by omega)]
theorem mix_set {f : Nat → Int} {l : List Int} {k : Nat} (hk : k < l.length) : (mixV f l k).set k (f k) = mixV f l (k + 1) := by
 apply List.ext_getElem?
 intro i
 rw [List.getElem?_set, mix_get, mix_get, mix_len]
 by_cases e : k = i
 ·subst e; rw [if_pos rfl, if_pos hk, if_pos hk, if_pos (by omega)]
 ·rw [if_neg e]
  by_cases h : i < k
  ·rw [if_pos h, if_pos (show i < k + 1 by omega)]
  ·rw [if_neg h, if_neg (show ¬ i < k + 1 by omega)]
theorem mix_same {f : Nat → Int} {l : List Int} {k : Nat} (h : f k = l.getD k 0) : mixV f l k = mixV f l (k + 1) := by
 unfold mixV
 refine List.map_congr_left fun i _ => ?_
 by_cases e : i = k
 ·subst e; simp [h]
 ·by_cases h2 : i < k
  ·rw [if_pos h2, if_pos (by omega)]
  ·rw [if_neg h2, if_neg (by omega)]
theorem mix_all (f : Nat → Int) (l : List Int) : mixV f l l.length = (List.range l.length).map f := by
 unfold mixV
 refine List.map_congr_left fun i hi => ?_
 rw [if_pos (List.mem_range.1 hi)]
set_option maxRecDepth 100000 in
set_option maxHeartbeats 2000000 in
theorem first_walk (l : List Int) (v : Value) (W : World) (hR : RdG EI W W.heap.size v l) (hl : l.length ≤ 1000000) :
  Calls Tryz.prog 130 #[v] W fun e w' => ∃ A n c, e = .returned (.tuple #[.slice A n c, .bool true]) ∧ OwnG EI 2 w' (W.heap.size + 1) (.slice A n c) (firstV l) ∧ Below W.heap.size W w' := by
 have hr : Tryz.f130.results = #[.tmp 2, .tmp 3] := by kernel_rfl
 obtain ⟨n, hn⟩ : ∃ n, n = l.length := ⟨_, rfl⟩
 have HR := Lib.hid hR
 obtain ⟨A, c, rfl, hc, hn0, hA⟩ := hR
 rw [← hn] at HR hc hl ⊢
 have HN := Lib.hid hn
 have hB : Below W.heap.size W (W.alloc (.cells #[.slice A n c] 174)) := (Below.refl _ _).alloc (Nat.le_refl _) _
 have HB := Lib.hid hB
 have KD : Hid (Calls Tryz.prog 141 #[.slice A n c] W fun e w' => e = .returned (.func (.func 151) #[] #[.pointer (some ⟨W.heap.size, 0, none⟩)]) ∧ w' = W.alloc (.cells #[.slice A n c] 174)) := diffs_walk A n c W
 have hp : (W.alloc (.cells #[.slice A n c] 174)).cell? ⟨W.heap.size, 0, none⟩ = some (.slice A n c) := new_cellG W _ _ 0
 have hRW : RdG EI (W.alloc (.cells #[.slice A n c] 174)) (W.alloc (.cells #[.slice A n c] 174)).heap.size (.slice A n c) l := HR.out.on HB.out
 have KD1 : Hid (∀ w, Below (W.alloc (.cells #[.slice A n c] 174)).heap.size (W.alloc (.cells #[.slice A n c] 174)) w → ∀ j : Nat, 1 ≤ j → j < n → Calls Tryz.prog 151 #[.int .i64 (j : Int), .pointer (some ⟨W.heap.size, 0, none⟩)] w fun e w' => e = .returned (.int .i64 (dV l j)) ∧ Ext w w') := fun w hw j h1 h2 => by
  obtain ⟨i, rfl⟩ : ∃ i, j = i + 1 := ⟨j - 1, by omega⟩
  refine diff_walk l _ W.heap.size i w ((hw.cell (by simp)).trans hp) ?_ (by rw [← HN.out]; exact h2) (by omega)
  exact hRW.on hw
 have KC : Hid (Calls Tryz.prog 142 #[.slice A n c] (W.alloc (.cells #[.slice A n c] 174)) fun e w' => ∃ A1 c1, e = .returned (.slice A1 n c1) ∧ OwnG EI 2 w' (W.heap.size + 1) (.slice A1 n c1) l ∧ Below (W.alloc (.cells #[.slice A n c] 174)).heap.size (W.alloc (.cells #[.slice A n c] 174)) w') :=
  (iclone_walk _ l _ hRW (by omega)).mono fun e w' ⟨v9, h1, h2, h3⟩ => by
    obtain ⟨A3, c3, e3, _⟩ := id h2.rd
    rw [World.size_alloc] at h2
    rw [← hn] at e3
    exact ⟨A3, c3, by rw [h1, e3], by rw [← e3]; exact h2, h3⟩
 clear hB hn0 hA hp hRW hn
 go_enter Tryz.func130, Tryz.ntmps130
 go_wp2_with fail
 refine KD.out.mono ?_
 rintro e w1 ⟨rfl, rfl⟩
 go_wp2_with fail
 refine KC.out.mono ?_
 rintro e w2 ⟨A1, c1, rfl, hO, hB2⟩
 have HO := Lib.hid hO
 have HB2 := Lib.hid hB2
 clear hO hB2 KC KD
 go_wp2_with fail
 go_loopw [6, 13] (fun _ iv wl => ∃ k : Nat, k ≤ n ∧ iv = .int .i64 (k : Int) ∧ Hid (OwnG EI 2 wl (W.heap.size + 1) (.slice A1 n c1) (mixV (firstAt l) l k)) ∧ Hid (Below (W.heap.size + 1) (W.alloc (.cells #[.slice A n c] 174)) wl))
  (fun _ iv _ => n - (intOf iv).toNat)
 case atStart => exact ⟨0, Nat.zero_le _, rfl, by show OwnG _ _ _ _ _ _; rw [mix_zero]; exact HO.out, by have h := HB2.out; rw [World.size_alloc] at h; exact h⟩
 case round =>
  obtain ⟨k, hk, rfl, HO, HB1⟩ := hrel
  by_cases hlt : k < n
  ·have i1 : (k : Int) < (n : Int) := by omega
   by_cases hk0 : k = 0
   ·have i2 : ¬ (k : Int) > 0 := by omega
    have HM : Hid (mixV (firstAt l) l k = mixV (firstAt l) l (k + 1)) := mix_same (by subst hk0; rfl)
    clear hk0
    go_wp2_with fail
    go_roundw
    case rel => exact ⟨k + 1, by omega, by go_num, by rw [← HM.out]; exact HO.out, HB1.out⟩
    case measure => simp [intOf]; omega
   ·have i2 : (k : Int) > 0 := by omega
    obtain ⟨g, rfl, hg1, hg2⟩ := own_addr HO.out (by omega)
    have KK := Lib.hid (KD1.out wr (by rw [World.size_alloc]; exact HB1.out) k (by omega) hlt)
    obtain ⟨d, hd⟩ : ∃ d, d = dV l k := ⟨_, rfl⟩
    rw [← hd] at KK
    have HM : Hid ((mixV (firstAt l) l k).set k d = mixV (firstAt l) l (k + 1)) := by
     show _ = _
     have e : d = firstAt l k := by unfold firstAt; rw [if_neg hk0]; exact hd
     rw [e]
     exact mix_set (by rw [← HN.out]; exact hlt)
    clear hk0 hd
    go_wp2_with fail
    refine KK.out.mono ?_
    rintro e w3 ⟨rfl, hE⟩
    have hO3 : OwnG EI 2 w3 (W.heap.size + 1) (.slice (some ⟨g, 0, none⟩) n c1) (mixV (firstAt l) l k) := HO.out.below hE.below
    obtain ⟨s1, s2, s3⟩ := hO3.storeI (by rw [mix_len]; exact HN.out) hlt d
    have HO4 : Hid (OwnG EI 2 (w3.setCell ⟨g, k, none⟩ (.int .i64 d)) (W.heap.size + 1) (.slice (some ⟨g, 0, none⟩) n c1) (mixV (firstAt l) l (k + 1))) := by
     show OwnG _ _ _ _ _ _
     rw [← HM.out]; exact s1
    have HB4 : Hid (Below (W.heap.size + 1) (W.alloc (.cells #[.slice A n c] 174)) (w3.setCell ⟨g, k, none⟩ (.int .i64 d))) := (HB1.out.trans (hE.below.mono (by have := HB1.out.size; simpa using this))).setCell hg1 _
    clear s1 hO3 hE hg1 hg2
    go_wp2_with fail
    go_roundw
    case rel => exact ⟨k + 1, by omega, by go_num, HO4.out, HB4.out⟩
    case measure => simp [intOf]; omega
  ·have hkn : k = n := by omega
   have i1 : ¬ (k : Int) < (n : Int) := by omega
   have HF : Hid (OwnG EI 2 wr (W.heap.size + 1) (.slice A1 n c1) (firstV l)) := by
    show OwnG _ _ _ _ _ _
    have e : firstV l = mixV (firstAt l) l k := by rw [hkn, HN.out, mix_all]; rfl
    rw [e]; exact HO.out
   have HBF : Hid (Below W.heap.size W wr) := HB.out.trans (HB1.out.mono (by omega))
   clear hk hlt hkn HO HB1
   go_wp2_with fail
   refine bodyPost_ret (v := .tuple #[.slice A1 n c1, .bool true]) ?_ rfl ⟨_, _, _, rfl, HF.out, HBF.out⟩
   unfold results
   rw [hr]
   go_simp
theorem wr_64 (n : Int) : IntKind.i64.wrap n = wrap64 n := by
 rw [wr_def]; unfold wrap64; split <;> omega
theorem first_len (l : List Int) : (firstV l).length = l.length := by unfold firstV; simp
theorem mix_second (l : List Int) : mixV (secondAt l) (firstV l) 2 = firstV l := by
 apply List.ext_getElem?
 intro i
 rw [mix_get, first_len]
 by_cases h : i < l.length
 ·have e : (firstV l)[i]? = some (firstAt l i) := by unfold firstV; rw [List.getElem?_map, List.getElem?_range h]; rfl
  rw [if_pos h, e, List.getD_eq_getElem?_getD, e]
  by_cases h2 : i < 2
  ·rw [if_pos h2]; unfold secondAt; rw [if_pos h2]
  ·rw [if_neg h2]; rfl
 ·rw [if_neg h, List.getElem?_eq_none (by rw [first_len]; omega)]
set_option maxRecDepth 100000 in
set_option maxHeartbeats 2000000 in
theorem second_walk (l : List Int) (v : Value) (W : World) (hR : RdG EI W W.heap.size v l) (hl : l.length ≤ 1000000) :
  Calls Tryz.prog 131 #[v] W (AsC 3 l W) := by
 have hr : Tryz.f131.results = #[.tmp 2, .tmp 3] := by kernel_rfl
 obtain ⟨n, hn⟩ : ∃ n, n = l.length := ⟨_, rfl⟩
 have HR := Lib.hid hR
 obtain ⟨A, c, rfl, hc, hn0, hA⟩ := hR
 rw [← hn] at HR hc hl ⊢
 have HN := Lib.hid hn
 by_cases h0 : n < 2
 ·have ha : asX 3 l = none := by unfold asX; rw [if_neg (by decide), if_neg (by decide), if_neg (by decide), if_pos rfl, if_neg (by rw [← HN.out]; omega)]
  have HA := Lib.hid ha
  have i1 : (n : Int) < 2 := by omega
  clear ha hn hn0 hA
  go_enter Tryz.func131, Tryz.ntmps131
  go_wp2_with fail
  refine bodyPost_ret (v := .tuple #[.slice none 0 0, .bool false]) ?_ rfl ⟨none, 0, 0, by rw [HA.out]; rfl, Below.refl _ _, fun x hx => by rw [HA.out] at hx; cases hx⟩
  unfold results
  rw [hr]
  go_simp
 ·have ha : asX 3 l = some (secondV l) := by unfold asX; rw [if_neg (by decide), if_neg (by decide), if_neg (by decide), if_pos rfl, if_pos (by omega)]
  have HA := Lib.hid ha
  have i1 : ¬ (n : Int) < 2 := by omega
  have hn2 : 2 ≤ n := by omega
  have hB : Below W.heap.size W (W.alloc (.cells #[.slice A n c] 174)) := (Below.refl _ _).alloc (Nat.le_refl _) _
  have HB := Lib.hid hB
  have KD : Hid (Calls Tryz.prog 141 #[.slice A n c] W fun e w' => e = .returned (.func (.func 151) #[] #[.pointer (some ⟨W.heap.size, 0, none⟩)]) ∧ w' = W.alloc (.cells #[.slice A n c] 174)) := diffs_walk A n c W
  have hp : (W.alloc (.cells #[.slice A n c] 174)).cell? ⟨W.heap.size, 0, none⟩ = some (.slice A n c) := new_cellG W _ _ 0
  have hRW : RdG EI (W.alloc (.cells #[.slice A n c] 174)) (W.alloc (.cells #[.slice A n c] 174)).heap.size (.slice A n c) l := HR.out.on HB.out
  have KD1 : Hid (∀ w, Below (W.heap.size + 1) (W.alloc (.cells #[.slice A n c] 174)) w → ∀ j : Nat, 1 ≤ j → j < n → Calls Tryz.prog 151 #[.int .i64 (j : Int), .pointer (some ⟨W.heap.size, 0, none⟩)] w fun e w' => e = .returned (.int .i64 (dV l j)) ∧ Ext w w') := fun w hw j h1 h2 => by
   obtain ⟨i, rfl⟩ : ∃ i, j = i + 1 := ⟨j - 1, by omega⟩
   have hw : Below (W.alloc (.cells #[.slice A n c] 174)).heap.size (W.alloc (.cells #[.slice A n c] 174)) w := by rw [World.size_alloc]; exact hw
   refine diff_walk l _ W.heap.size i w ((hw.cell (by simp)).trans hp) ?_ (by rw [← HN.out]; exact h2) (by omega)
   exact hRW.on hw
  have KC : Hid (Calls Tryz.prog 130 #[.slice A n c] (W.alloc (.cells #[.slice A n c] 174)) fun e w' => ∃ A1 c1, e = .returned (.tuple #[.slice A1 n c1, .bool true]) ∧ OwnG EI 2 w' (W.heap.size + 1) (.slice A1 n c1) (firstV l) ∧ Below (W.heap.size + 1) (W.alloc (.cells #[.slice A n c] 174)) w') :=
   (first_walk l _ _ hRW (by omega)).mono fun e w' ⟨A1, n1, c1, h1, h2, h3⟩ => by
     obtain ⟨A3, c3, e3, _⟩ := id h2.rd
     rw [World.size_alloc] at h2 h3
     rw [first_len, ← hn] at e3
     injection e3 with q1 q2 q3
     subst q2
     exact ⟨A1, c1, h1, h2.lower (by omega), h3⟩
  clear hB hn0 hA hp hRW hn h0 ha
  go_enter Tryz.func131, Tryz.ntmps131
  go_wp2_with fail
  refine KD.out.mono ?_
  rintro e w1 ⟨rfl, rfl⟩
  go_wp2_with fail
  refine KC.out.mono ?_
  rintro e w2 ⟨A1, c1, rfl, hO, hB2⟩
  have HO := Lib.hid hO
  have HB2 := Lib.hid hB2
  clear hO hB2 KC KD
  go_wp2_with fail
  go_loopw [7] (fun iv wl => ∃ k : Nat, 2 ≤ k ∧ k ≤ n ∧ iv = .int .i64 (k : Int) ∧ Hid (OwnG EI 2 wl (W.heap.size + 1) (.slice A1 n c1) (mixV (secondAt l) (firstV l) k)) ∧ Hid (Below (W.heap.size + 1) (W.alloc (.cells #[.slice A n c] 174)) wl))
   (fun iv _ => n - (intOf iv).toNat)
  case atStart => exact ⟨2, Nat.le_refl _, hn2, rfl, by show OwnG _ _ _ _ _ _; rw [mix_second]; exact HO.out, HB2.out⟩
  case round =>
   obtain ⟨k, hk2, hk, rfl, HO, HB1⟩ := hrel
   by_cases hlt : k < n
   ·have i1 : (k : Int) < (n : Int) := by omega
    obtain ⟨g, rfl, hg1, hg2⟩ := own_addr HO.out (by omega)
    obtain ⟨x, hx⟩ : ∃ d, d = dV l k := ⟨_, rfl⟩
    obtain ⟨y, hy⟩ : ∃ d, d = dV l (k - 1) := ⟨_, rfl⟩
    have K1 := Lib.hid (KD1.out wr HB1.out k (by omega) hlt)
    have K2 : Hid (∀ w, Ext wr w → Calls Tryz.prog 151 #[.int .i64 ((k : Int) - 1), .pointer (some ⟨W.heap.size, 0, none⟩)] w fun e w' => e = .returned (.int .i64 y) ∧ Ext w w') := fun w hw => by
     rw [show (k : Int) - 1 = ((k - 1 : Nat) : Int) by omega, hy]
     exact KD1.out w (HB1.out.trans (hw.below.mono (by have := HB1.out.size; simpa using this))) (k - 1) (by omega) (by omega)
    rw [← hx] at K1
    have HM : Hid ((mixV (secondAt l) (firstV l) k).set k (IntKind.i64.wrap (x - y)) = mixV (secondAt l) (firstV l) (k + 1)) := by
     show _ = _
     have e : IntKind.i64.wrap (x - y) = secondAt l k := by unfold secondAt; rw [if_neg (by omega), hx, hy]
     rw [e]
     exact mix_set (by rw [first_len, ← HN.out]; exact hlt)
    clear hx hy
    go_wp2_with fail
    refine K1.out.mono ?_
    rintro e w3 ⟨rfl, hE⟩
    have K3 := Lib.hid (K2.out w3 hE)
    have HE1 := Lib.hid hE
    clear hE
    go_wp2_with fail
    refine K3.out.mono ?_
    rintro e w4 ⟨rfl, hE⟩
    have HE4 := Lib.hid (HE1.out.trans hE)
    have hO3 : OwnG EI 2 w4 (W.heap.size + 1) (.slice (some ⟨g, 0, none⟩) n c1) (mixV (secondAt l) (firstV l) k) := HO.out.below HE4.out.below
    obtain ⟨s1, s2, s3⟩ := hO3.storeI (by rw [mix_len, first_len]; exact HN.out) hlt (IntKind.i64.wrap (x - y))
    have HO4 : Hid (OwnG EI 2 (w4.setCell ⟨g, k, none⟩ (.int .i64 (IntKind.i64.wrap (x - y)))) (W.heap.size + 1) (.slice (some ⟨g, 0, none⟩) n c1) (mixV (secondAt l) (firstV l) (k + 1))) := by
     show OwnG _ _ _ _ _ _
     rw [← HM.out]; exact s1
    have HB4 : Hid (Below (W.heap.size + 1) (W.alloc (.cells #[.slice A n c] 174)) (w4.setCell ⟨g, k, none⟩ (.int .i64 (IntKind.i64.wrap (x - y))))) := (HB1.out.trans (HE4.out.below.mono (by have := HB1.out.size; simpa using this))).setCell hg1 _
    clear s1 hO3 hE hg1 hg2
    go_wp2_with fail
    go_roundw
    case rel => exact ⟨k + 1, by omega, by omega, by go_num, by have h := HO4.out; rw [wr_64] at h; exact h, by have h := HB4.out; rw [wr_64] at h; exact h⟩
    case measure => simp [intOf]; omega
   ·have hkn : k = n := by omega
    have i1 : ¬ (k : Int) < (n : Int) := by omega
    have HF : Hid (RdG EI wr wr.heap.size (.slice A1 n c1) (secondV l)) := by
     show RdG _ _ _ _ _
     have e : secondV l = mixV (secondAt l) (firstV l) k := by rw [hkn, HN.out, ← first_len l, mix_all, first_len]; rfl
     rw [e]; exact HO.out.rd
    have HBF : Hid (Below W.heap.size W wr) := HB.out.trans (HB1.out.mono (by omega))
    clear hk hlt hkn HO HB1
    go_wp2_with fail
    refine bodyPost_ret (v := .tuple #[.slice A1 n c1, .bool true]) ?_ rfl ⟨A1, n, c1, by rw [HA.out]; rfl, HBF.out, fun x hx => by
     rw [HA.out] at hx
     injection hx with hx
     subst hx
     exact HF.out⟩
    unfold results
    rw [hr]
    go_simp
end Go.Proofs.YtnkelahimiipjaaGreatDoor
