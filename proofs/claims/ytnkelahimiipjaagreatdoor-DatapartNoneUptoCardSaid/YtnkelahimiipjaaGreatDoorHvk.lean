/-
 datapart.parse, where it refuses.
-/
import Derived.Test.YtnkelahimiipjaaGreatDoorHuk
import Derived.LoopNIn
import Derived.LoopIn
import Derived.Shelf.RegionOpen
import Derived.TacticsInMore
import Derived.OwnWalkIn
import Derived.WalkKit
import Derived.Test.YtnkelahimiipjaaGreatDoorHnk
namespace Go.Proofs.YtnkelahimiipjaaGreatDoor
open Go.RowKit Go.Sort
attribute [local go_sem] Oper.semAt_some
theorem PrI.cells {W w : World} {bo br : Nat} {q : Bool} {rv : Value} (h : PrI W bo br q rv w) : w.cell? ⟨W.heap.size, 0, none⟩ = some (.int .i64 0) ∧ w.cell? ⟨W.heap.size, 1, none⟩ = some (.slice none 0 0) ∧ w.frozen? ⟨W.heap.size, 0, none⟩ = false ∧ w.frozen? ⟨W.heap.size, 1, none⟩ = false := by
 have h1 := h.out
 refine ⟨?_, ?_, ?_, ?_⟩ <;> simp [World.cell?, World.frozen?, h1]
theorem PrI.new {W w1 : World} {q : Bool} {rv : Value} (hB : Below (W.alloc (.cells #[.int .i64 0, .slice none 0 0] 62)).heap.size (W.alloc (.cells #[.int .i64 0, .slice none 0 0] 62)) w1) :
  PrI W (w1.heap.size + 1) w1.heap.size q rv ((w1.alloc (.cells #[rv] 23)).alloc (.cells #[.bool q] 4)) := by
 have hz : W.heap.size + 1 ≤ w1.heap.size := by have := hB.size; simpa using this
 have hA : Below W.heap.size W (W.alloc (.cells #[.int .i64 0, .slice none 0 0] 62)) := (Below.refl _ _).alloc (Nat.le_refl _) _
 have hA1 : Below W.heap.size W w1 := hA.trans (hB.mono (by simp))
 have ho : w1.heap[W.heap.size]? = some (.cells #[.int .i64 0, .slice none 0 0] 62 (0, 0)) := (hB.block _ (by simp)).trans (heap_alloc_new W _)
 have hb : Below w1.heap.size w1 ((w1.alloc (.cells #[rv] 23)).alloc (.cells #[.bool q] 4)) := ((Below.refl _ w1).alloc (Nat.le_refl _) _).alloc (by simp) _
 exact ⟨boxNew _ _ _ (by simp), (boxNew _ _ _ rfl).alloc _, (hb.block _ (by omega)).trans ho, hA1.trans (hb.mono (by omega)), by omega, by omega⟩
theorem PrI.end_ {W w : World} {bo br : Nat} {q : Bool} {rv : Value} (h : PrI W bo br q rv w) (x y : Value) : Below W.heap.size W ((w.setCell ⟨W.heap.size, 0, none⟩ x).setCell ⟨W.heap.size, 1, none⟩ y) :=
 (h.below.setCell (Nat.le_refl _) _).setCell (Nat.le_refl _) _

set_option maxRecDepth 100000 in
set_option maxHeartbeats 8000000 in
theorem parse_no (v : Value) (b : List Nat) (W : World) (hR : RdG EB W W.heap.size v b) (h8 : ∀ c ∈ b, c < 256) (hl : b.length ≤ 1000000) (h0 : ¬ ((takeV b).1 = 0 ∧ (takeV b).2.1 ≤ 1073741824)) :
  Calls Tryz.prog 42 #[v] W (ParR W b) := by
 have hr : Tryz.f42.results = #[.cell 2 62, .tmp 3] := by kernel_rfl
 have hmf : ∀ (fn : Fn) (first cap : Array Value) (w : World), (Instr.makeFunc fn first cap).run Tryz.prog w = .ok (.func fn first cap) w := fun _ _ _ _ => rfl
 have hA : Below W.heap.size W (W.alloc (.cells #[.int .i64 0, .slice none 0 0] 62)) := (Below.refl _ _).alloc (Nat.le_refl _) _
 have KT : Hid (CallsIn Fence.wide 19 Tryz.prog 73 #[v] (W.alloc (.cells #[.int .i64 0, .slice none 0 0] 62)) _) := callsIn_wide.2 (take_c v b _ (hR.on hA) h8 (by omega))
 have hf1 : Fence.wide.fn 73 := trivial
 have hf2 : Fence.wide.fn 75 := trivial
 have hf3 : Fence.wide.fn 77 := trivial
 have hf4 : Fence.wide.fn 78 := trivial
 have KN : Hid (∀ bo br w, Boxed w bo 4 (.bool false) → CallsIn Fence.wide 19 Tryz.prog 75 #[.pointer (some ⟨bo, 0, none⟩), .pointer (some ⟨br, 0, none⟩)] w fun e w' => e = .returned (.slice none 0 0) ∧ w' = w) := fun bo br w h => callsIn_wide.2 (prow_no bo br w h)
 obtain ⟨A, c, rfl, _⟩ := hR
 have HNONE := Lib.hid (par_take h0)
 obtain ⟨er, her⟩ : ∃ er, er = (takeV b).1 := ⟨_, rfl⟩
 obtain ⟨u, hu⟩ : ∃ u, u = (takeV b).2.1 := ⟨_, rfl⟩
 rw [← her, ← hu] at KT h0
 clear her hu h8 hl hA
 refine (callsIn_wide (n := 20)).1 ?_
 refine callsIn_of_wp Tryz.func42 rfl trivial ?_ rfl
 simp only [Tryz.ntmps42, List.size_toArray, List.length_cons, List.length_nil, Nat.reduceAdd, Nat.reduceSub, Array.replicate_succ, Array.replicate_zero, List.push_toArray, List.append_toArray, List.nil_append, List.cons_append]
 by_cases he : er = 0
 ·have g2 : decide ((u : Int) ≤ 1073741824) = false := decide_eq_false (by have : ¬ u ≤ 1073741824 := fun h => h0 ⟨he, h⟩; omega)
  rw [if_pos he] at KT
  subst he
  clear h0
  gi_wp2_with fail
  refine KT.out.mono ?_
  rintro e w1 ⟨A1, n1, c1, rfl, hB, hO⟩
  have hI := PrI.new (W := W) (q := false) (rv := .slice A1 n1 c1) hB
  obtain ⟨w2, hw2⟩ : ∃ w2, w2 = (w1.alloc (.cells #[.slice A1 n1 c1] 23)).alloc (.cells #[.bool false] 4) := ⟨_, rfl⟩
  rw [← hw2] at hI
  obtain ⟨bo, hbo⟩ : ∃ bo, bo = w1.heap.size + 1 := ⟨_, rfl⟩
  obtain ⟨br, hbr⟩ : ∃ br, br = w1.heap.size := ⟨_, rfl⟩
  have hbe : Below w1.heap.size w1 w2 := by rw [hw2]; exact ((Below.refl _ w1).alloc (Nat.le_refl _) _).alloc (by simp) _
  have HB1 : Hid (Below (W.alloc (.cells #[.int .i64 0, .slice none 0 0] 62)).heap.size (W.alloc (.cells #[.int .i64 0, .slice none 0 0] 62)) w1) := hB
  rw [← hbo, ← hbr] at hI
  have HI2 := Lib.hid hI
  have HR2 := Lib.hid hO
  have HBE := Lib.hid hbe
  have HW2 := Lib.hid hw2
  have HBO := Lib.hid hbo
  have HBR := Lib.hid hbr
  clear hB hO hI hw2 hbe hbo hbr KT
  gi_wp2_with fail
  rw [← HW2.out, ← HBO.out, ← HBR.out]
  refine (KN.out bo br w2 HI2.out.ok).mono ?_
  rintro e wx ⟨rfl, hwx⟩
  have hwx := hwx.symm
  subst hwx
  have co := HI2.out.ok.cell
  have cr := HI2.out.cells
  obtain ⟨cr0, cr1, cf0, cf1⟩ := cr
  gi_wp2_with fail
  refine (KN.out bo br w2 HI2.out.ok).mono ?_
  rintro e wx ⟨rfl, hwx⟩
  have hwx := hwx.symm
  subst hwx
  have co := HI2.out.ok.cell
  have cr := HI2.out.cells
  obtain ⟨cr0, cr1, cf0, cf1⟩ := cr
  gi_wp2_with fail
  refine bodyPost_ret (v := .tuple #[.agg #[.int .i64 0, .slice none 0 0], .bool false]) ?_ rfl ⟨HI2.out.end_ _ _, .inl ⟨HNONE.out, rfl⟩⟩
  unfold results
  rw [hr]
  go_simp
 ·have g1 : (er == 0) = false := by simp [he]
  rw [if_neg he] at KT
  clear h0 he
  gi_wp2_with fail
  refine KT.out.mono ?_
  rintro e w1 ⟨A1, n1, c1, rfl, hB, hO⟩
  have hI := PrI.new (W := W) (q := false) (rv := .slice A1 n1 c1) hB
  obtain ⟨w2, hw2⟩ : ∃ w2, w2 = (w1.alloc (.cells #[.slice A1 n1 c1] 23)).alloc (.cells #[.bool false] 4) := ⟨_, rfl⟩
  rw [← hw2] at hI
  obtain ⟨bo, hbo⟩ : ∃ bo, bo = w1.heap.size + 1 := ⟨_, rfl⟩
  obtain ⟨br, hbr⟩ : ∃ br, br = w1.heap.size := ⟨_, rfl⟩
  have hbe : Below w1.heap.size w1 w2 := by rw [hw2]; exact ((Below.refl _ w1).alloc (Nat.le_refl _) _).alloc (by simp) _
  have HB1 : Hid (Below (W.alloc (.cells #[.int .i64 0, .slice none 0 0] 62)).heap.size (W.alloc (.cells #[.int .i64 0, .slice none 0 0] 62)) w1) := hB
  rw [← hbo, ← hbr] at hI
  have HI2 := Lib.hid hI
  have HR2 := Lib.hid hO
  have HBE := Lib.hid hbe
  have HW2 := Lib.hid hw2
  have HBO := Lib.hid hbo
  have HBR := Lib.hid hbr
  clear hB hO hI hw2 hbe hbo hbr KT
  gi_wp2_with fail
  rw [← HW2.out, ← HBO.out, ← HBR.out]
  refine (KN.out bo br w2 HI2.out.ok).mono ?_
  rintro e wx ⟨rfl, hwx⟩
  have hwx := hwx.symm
  subst hwx
  have co := HI2.out.ok.cell
  have cr := HI2.out.cells
  obtain ⟨cr0, cr1, cf0, cf1⟩ := cr
  gi_wp2_with fail
  refine (KN.out bo br w2 HI2.out.ok).mono ?_
  rintro e wx ⟨rfl, hwx⟩
  have hwx := hwx.symm
  subst hwx
  have co := HI2.out.ok.cell
  have cr := HI2.out.cells
  obtain ⟨cr0, cr1, cf0, cf1⟩ := cr
  gi_wp2_with fail
  refine bodyPost_ret (v := .tuple #[.agg #[.int .i64 0, .slice none 0 0], .bool false]) ?_ rfl ⟨HI2.out.end_ _ _, .inl ⟨HNONE.out, rfl⟩⟩
  unfold results
  rw [hr]
  go_simp
set_option maxRecDepth 100000 in
set_option maxHeartbeats 8000000 in
theorem parse_t (v : Value) (b : List Nat) (W : World) (hR : RdG EB W W.heap.size v b) (h8 : ∀ c ∈ b, c < 256) (hl : b.length ≤ 1000000) (h0 : (takeV b).1 = 0 ∧ (takeV b).2.1 ≤ 1073741824) (b0 : List Nat) (hb0 : b0 = b.drop (takeV b).2.2) (ht : (decV b0).1 ≠ 0) :
  Calls Tryz.prog 42 #[v] W (ParR W b) := by
 have hr : Tryz.f42.results = #[.cell 2 62, .tmp 3] := by kernel_rfl
 have hmf : ∀ (fn : Fn) (first cap : Array Value) (w : World), (Instr.makeFunc fn first cap).run Tryz.prog w = .ok (.func fn first cap) w := fun _ _ _ _ => rfl
 have hA : Below W.heap.size W (W.alloc (.cells #[.int .i64 0, .slice none 0 0] 62)) := (Below.refl _ _).alloc (Nat.le_refl _) _
 have KT : Hid (CallsIn Fence.wide 19 Tryz.prog 73 #[v] (W.alloc (.cells #[.int .i64 0, .slice none 0 0] 62)) _) := callsIn_wide.2 (take_c v b _ (hR.on hA) h8 (by omega))
 have hf1 : Fence.wide.fn 73 := trivial
 have hf2 : Fence.wide.fn 75 := trivial
 have hf3 : Fence.wide.fn 77 := trivial
 have hf4 : Fence.wide.fn 78 := trivial
 have KN : Hid (∀ bo br w, Boxed w bo 4 (.bool false) → CallsIn Fence.wide 19 Tryz.prog 75 #[.pointer (some ⟨bo, 0, none⟩), .pointer (some ⟨br, 0, none⟩)] w fun e w' => e = .returned (.slice none 0 0) ∧ w' = w) := fun bo br w h => callsIn_wide.2 (prow_no bo br w h)
 obtain ⟨A, c, rfl, _⟩ := hR
 have HNONE := Lib.hid (par_tick (b := b) (by rw [← hb0]; exact ht))
 have h80 : ∀ c ∈ b0, c < 256 := fun c hc => by rw [hb0] at hc; exact h8 c (List.mem_of_mem_drop hc)
 have hl0 : b0.length ≤ 1000000 := by rw [hb0, List.length_drop]; omega
 obtain ⟨u, hu⟩ : ∃ u, u = (takeV b).2.1 := ⟨_, rfl⟩
 rw [h0.1, if_pos rfl, ← hu, ← hb0] at KT
 have g2 : decide ((u : Int) ≤ 1073741824) = true := decide_eq_true (by have := h0.2; omega)
 have HU : Hid (u = (takeV b).2.1 ∧ u ≤ 1073741824) := ⟨hu, by have := h0.2; omega⟩
 have H80 := Lib.hid h80
 have HL0 := Lib.hid hl0
 have HTT := Lib.hid ht
 clear hu h0 h8 hl hA hb0 h80 hl0 ht
 refine (callsIn_wide (n := 20)).1 ?_
 refine callsIn_of_wp Tryz.func42 rfl trivial ?_ rfl
 simp only [Tryz.ntmps42, List.size_toArray, List.length_cons, List.length_nil, Nat.reduceAdd, Nat.reduceSub, Array.replicate_succ, Array.replicate_zero, List.push_toArray, List.append_toArray, List.nil_append, List.cons_append]
 gi_wp2_with fail
 refine KT.out.mono ?_
 rintro e w1 ⟨A1, n1, c1, rfl, hB, hO⟩
 have hI := PrI.new (W := W) (q := true) (rv := .slice A1 n1 c1) hB
 obtain ⟨w2, hw2⟩ : ∃ w2, w2 = (w1.alloc (.cells #[.slice A1 n1 c1] 23)).alloc (.cells #[.bool true] 4) := ⟨_, rfl⟩
 rw [← hw2] at hI
 obtain ⟨bo, hbo⟩ : ∃ bo, bo = w1.heap.size + 1 := ⟨_, rfl⟩
 obtain ⟨br, hbr⟩ : ∃ br, br = w1.heap.size := ⟨_, rfl⟩
 have hbe : Below w1.heap.size w1 w2 := by rw [hw2]; exact ((Below.refl _ w1).alloc (Nat.le_refl _) _).alloc (by simp) _
 have HB1 : Hid (Below (W.alloc (.cells #[.int .i64 0, .slice none 0 0] 62)).heap.size (W.alloc (.cells #[.int .i64 0, .slice none 0 0] 62)) w1) := hB
 rw [← hbo, ← hbr] at hI
 have HI2 := Lib.hid hI
 have HR2 := Lib.hid hO
 have HBE := Lib.hid hbe
 have HW2 := Lib.hid hw2
 have HBO := Lib.hid hbo
 have HBR := Lib.hid hbr
 clear hB hO hI hw2 hbe hbo hbr KT
 gi_wp2_with fail
 rw [← HW2.out, ← HBO.out, ← HBR.out]
 have hO2 : OwnG EB 5 w2 (W.alloc (.cells #[.int .i64 0, .slice none 0 0] 62)).heap.size (.slice A1 n1 c1) b0 := (HR2.out (by first | rfl | trivial)).below HBE.out
 have KR : Hid (CallsIn Fence.wide 19 Tryz.prog 75 #[.pointer (some ⟨bo, 0, none⟩), .pointer (some ⟨br, 0, none⟩)] w2 _) := callsIn_wide.2 (prow_step HI2.out hO2.rd H80.out (by have := HL0.out; omega))
 clear hO2
 refine KR.out.mono ?_
 rintro e w3 ⟨At, nt, ct, A2, n2, c2, rfl, hI, hK, hB, hO⟩
 rw [decide_eq_false HTT.out] at hI
 have HI3 := Lib.hid hI
 clear hI hK hB hO KR
 have co := HI3.out.ok.cell
 have cr := HI3.out.cells
 obtain ⟨cr0, cr1, cf0, cf1⟩ := cr
 gi_wp2_with fail
 refine (KN.out bo br w3 HI3.out.ok).mono ?_
 rintro e wx ⟨rfl, hwx⟩
 have hwx := hwx.symm
 subst hwx
 have co := HI3.out.ok.cell
 have cr := HI3.out.cells
 obtain ⟨cr0, cr1, cf0, cf1⟩ := cr
 gi_wp2_with fail
 refine bodyPost_ret (v := .tuple #[.agg #[.int .i64 0, .slice none 0 0], .bool false]) ?_ rfl ⟨HI3.out.end_ _ _, .inl ⟨HNONE.out, rfl⟩⟩
 unfold results
 rw [hr]
 go_simp
set_option maxRecDepth 100000 in
set_option maxHeartbeats 8000000 in
theorem parse_x0 (v : Value) (b : List Nat) (W : World) (hR : RdG EB W W.heap.size v b) (h8 : ∀ c ∈ b, c < 256) (hl : b.length ≤ 1000000) (h0 : (takeV b).1 = 0 ∧ (takeV b).2.1 ≤ 1073741824) (b0 : List Nat) (hb0 : b0 = b.drop (takeV b).2.2) (ht : (decV b0).1 = 0) (b1 : List Nat) (hb1 : b1 = (decV b0).2.2) (hx : (takesV 1 b1).1 ≠ 0) :
  Calls Tryz.prog 42 #[v] W (ParR W b) := by
 have hr : Tryz.f42.results = #[.cell 2 62, .tmp 3] := by kernel_rfl
 have hmf : ∀ (fn : Fn) (first cap : Array Value) (w : World), (Instr.makeFunc fn first cap).run Tryz.prog w = .ok (.func fn first cap) w := fun _ _ _ _ => rfl
 have hA : Below W.heap.size W (W.alloc (.cells #[.int .i64 0, .slice none 0 0] 62)) := (Below.refl _ _).alloc (Nat.le_refl _) _
 have KT : Hid (CallsIn Fence.wide 19 Tryz.prog 73 #[v] (W.alloc (.cells #[.int .i64 0, .slice none 0 0] 62)) _) := callsIn_wide.2 (take_c v b _ (hR.on hA) h8 (by omega))
 have hf1 : Fence.wide.fn 73 := trivial
 have hf2 : Fence.wide.fn 75 := trivial
 have hf3 : Fence.wide.fn 77 := trivial
 have hf4 : Fence.wide.fn 78 := trivial
 have KN : Hid (∀ bo br w, Boxed w bo 4 (.bool false) → CallsIn Fence.wide 19 Tryz.prog 75 #[.pointer (some ⟨bo, 0, none⟩), .pointer (some ⟨br, 0, none⟩)] w fun e w' => e = .returned (.slice none 0 0) ∧ w' = w) := fun bo br w h => callsIn_wide.2 (prow_no bo br w h)
 obtain ⟨A, c, rfl, _⟩ := hR
 have HNONE := Lib.hid (par_exp (b := b) (b1 := b1) (by rw [← hb0]; exact hb1) (fun h => by exact hx h.1))
 have h80 : ∀ c ∈ b0, c < 256 := fun c hc => by rw [hb0] at hc; exact h8 c (List.mem_of_mem_drop hc)
 have hl0 : b0.length ≤ 1000000 := by rw [hb0, List.length_drop]; omega
 obtain ⟨u, hu⟩ : ∃ u, u = (takeV b).2.1 := ⟨_, rfl⟩
 rw [h0.1, if_pos rfl, ← hu, ← hb0] at KT
 have g2 : decide ((u : Int) ≤ 1073741824) = true := decide_eq_true (by have := h0.2; omega)
 have HU : Hid (u = (takeV b).2.1 ∧ u ≤ 1073741824) := ⟨hu, by have := h0.2; omega⟩
 obtain ⟨dk, hdk⟩ := (dec_facts b0 ht).2.2
 have h81 : ∀ c ∈ b1, c < 256 := fun c hc => by rw [hb1, hdk] at hc; exact h80 c (List.mem_of_mem_drop hc)
 have hl1 : b1.length ≤ 1000000 := by rw [hb1, hdk, List.length_drop]; omega
 have H81 := Lib.hid h81
 have HL1 := Lib.hid hl1
 have HTT := Lib.hid ht
 have HB1E := Lib.hid hb1
 have H80 := Lib.hid h80
 have HL0 := Lib.hid hl0
 have HXX := Lib.hid hx
 clear hu h0 h8 hl hA hb0 h80 hl0 ht hb1 h81 hl1 hdk dk hx
 refine (callsIn_wide (n := 20)).1 ?_
 refine callsIn_of_wp Tryz.func42 rfl trivial ?_ rfl
 simp only [Tryz.ntmps42, List.size_toArray, List.length_cons, List.length_nil, Nat.reduceAdd, Nat.reduceSub, Array.replicate_succ, Array.replicate_zero, List.push_toArray, List.append_toArray, List.nil_append, List.cons_append]
 gi_wp2_with fail
 refine KT.out.mono ?_
 rintro e w1 ⟨A1, n1, c1, rfl, hB, hO⟩
 have hI := PrI.new (W := W) (q := true) (rv := .slice A1 n1 c1) hB
 obtain ⟨w2, hw2⟩ : ∃ w2, w2 = (w1.alloc (.cells #[.slice A1 n1 c1] 23)).alloc (.cells #[.bool true] 4) := ⟨_, rfl⟩
 rw [← hw2] at hI
 obtain ⟨bo, hbo⟩ : ∃ bo, bo = w1.heap.size + 1 := ⟨_, rfl⟩
 obtain ⟨br, hbr⟩ : ∃ br, br = w1.heap.size := ⟨_, rfl⟩
 have hbe : Below w1.heap.size w1 w2 := by rw [hw2]; exact ((Below.refl _ w1).alloc (Nat.le_refl _) _).alloc (by simp) _
 have HB1 : Hid (Below (W.alloc (.cells #[.int .i64 0, .slice none 0 0] 62)).heap.size (W.alloc (.cells #[.int .i64 0, .slice none 0 0] 62)) w1) := hB
 rw [← hbo, ← hbr] at hI
 have HI2 := Lib.hid hI
 have HR2 := Lib.hid hO
 have HBE := Lib.hid hbe
 have HW2 := Lib.hid hw2
 have HBO := Lib.hid hbo
 have HBR := Lib.hid hbr
 clear hB hO hI hw2 hbe hbo hbr KT
 gi_wp2_with fail
 rw [← HW2.out, ← HBO.out, ← HBR.out]
 have hO2 : OwnG EB 5 w2 (W.alloc (.cells #[.int .i64 0, .slice none 0 0] 62)).heap.size (.slice A1 n1 c1) b0 := (HR2.out (by first | rfl | trivial)).below HBE.out
 have KR : Hid (CallsIn Fence.wide 19 Tryz.prog 75 #[.pointer (some ⟨bo, 0, none⟩), .pointer (some ⟨br, 0, none⟩)] w2 _) := callsIn_wide.2 (prow_step HI2.out hO2.rd H80.out (by have := HL0.out; omega))
 clear hO2
 refine KR.out.mono ?_
 rintro e w3 ⟨At, nt, ct, A2, n2, c2, rfl, hI, hK, hB, hO⟩
 rw [decide_eq_true HTT.out] at hI
 have HI3 := Lib.hid hI
 obtain ⟨hOT, hOB⟩ := hO HTT.out
 rw [← HB1E.out] at hOB
 obtain ⟨Tl, hTl⟩ : ∃ Tl, Tl = (decV b0).2.1 := ⟨_, rfl⟩
 rw [← hTl] at hOT
 have HTL := Lib.hid hTl
 have HOT3 := Lib.hid hOT
 have HOB3 := Lib.hid hOB
 have KA : Hid (CallsIn Fence.wide 19 Tryz.prog 77 #[.slice A2 n2 c2, .int .i64 1] w3 _) := callsIn_wide.2 (takeAll_c _ b1 w3 hOB.rd hOB.flatV H81.out (by have := HL1.out; omega))
 have co := hI.ok.cell
 have cr := hI.rest.cell
 clear hI hK hB hO hOT hOB hTl KR
 gi_wp2_with fail
 refine KA.out.mono ?_
 rintro e w4 ⟨Ax, nx, cx, A3, n3, c3, rfl, hB, hO⟩
 have hI4 := HI3.out.on hB
 have hI5 := hI4.setRest (.slice A3 n3 c3)
 have co4 := hI4.ok.cell
 have cr4 := hI4.rest.cell
 have fr4 := hI4.rest.frozen
 have co5 := hI5.ok.cell
 have fo5 := hI5.ok.frozen
 have HI5 := Lib.hid hI5
 have HB34 := Lib.hid hB
 have HK45 : Hid (KeepN w4 (w4.setCell ⟨br, 0, none⟩ (.slice A3 n3 c3))) := KeepN.set hI4.rest (by decide) (by decide) _
 have hI6 := hI5.setOk false
 have HI6 := Lib.hid hI6
 have g3 : ((takesV 1 b1).1 == 0) = false := by have := HXX.out; simp [this]
 clear hB hO hI4 hI5 hI6 KA co cr
 gi_wp2_with fail
 refine (KN.out bo br ((w4.setCell ⟨br, 0, none⟩ (.slice A3 n3 c3)).setCell ⟨bo, 0, none⟩ (.bool false)) HI6.out.ok).mono ?_
 rintro e wx ⟨rfl, hwx⟩
 have hwx := hwx.symm
 subst hwx
 have co := HI6.out.ok.cell
 have cr := HI6.out.cells
 obtain ⟨cr0, cr1, cf0, cf1⟩ := cr
 gi_wp2_with fail
 refine bodyPost_ret (v := .tuple #[.agg #[.int .i64 0, .slice none 0 0], .bool false]) ?_ rfl ⟨HI6.out.end_ _ _, .inl ⟨HNONE.out, rfl⟩⟩
 unfold results
 rw [hr]
 go_simp
set_option maxRecDepth 100000 in
set_option maxHeartbeats 8000000 in
theorem parse_x1 (v : Value) (b : List Nat) (W : World) (hR : RdG EB W W.heap.size v b) (h8 : ∀ c ∈ b, c < 256) (hl : b.length ≤ 1000000) (h0 : (takeV b).1 = 0 ∧ (takeV b).2.1 ≤ 1073741824) (b0 : List Nat) (hb0 : b0 = b.drop (takeV b).2.2) (ht : (decV b0).1 = 0) (b1 : List Nat) (hb1 : b1 = (decV b0).2.2) (hx : (takesV 1 b1).1 = 0 ∧ ¬ -1000 ≤ (takesV 1 b1).2.1.getD 0 0) :
  Calls Tryz.prog 42 #[v] W (ParR W b) := by
 have hr : Tryz.f42.results = #[.cell 2 62, .tmp 3] := by kernel_rfl
 have hmf : ∀ (fn : Fn) (first cap : Array Value) (w : World), (Instr.makeFunc fn first cap).run Tryz.prog w = .ok (.func fn first cap) w := fun _ _ _ _ => rfl
 have hA : Below W.heap.size W (W.alloc (.cells #[.int .i64 0, .slice none 0 0] 62)) := (Below.refl _ _).alloc (Nat.le_refl _) _
 have KT : Hid (CallsIn Fence.wide 19 Tryz.prog 73 #[v] (W.alloc (.cells #[.int .i64 0, .slice none 0 0] 62)) _) := callsIn_wide.2 (take_c v b _ (hR.on hA) h8 (by omega))
 have hf1 : Fence.wide.fn 73 := trivial
 have hf2 : Fence.wide.fn 75 := trivial
 have hf3 : Fence.wide.fn 77 := trivial
 have hf4 : Fence.wide.fn 78 := trivial
 have KN : Hid (∀ bo br w, Boxed w bo 4 (.bool false) → CallsIn Fence.wide 19 Tryz.prog 75 #[.pointer (some ⟨bo, 0, none⟩), .pointer (some ⟨br, 0, none⟩)] w fun e w' => e = .returned (.slice none 0 0) ∧ w' = w) := fun bo br w h => callsIn_wide.2 (prow_no bo br w h)
 obtain ⟨A, c, rfl, _⟩ := hR
 have HNONE := Lib.hid (par_exp (b := b) (b1 := b1) (by rw [← hb0]; exact hb1) (fun h => by exact hx.2 h.2.1))
 have h80 : ∀ c ∈ b0, c < 256 := fun c hc => by rw [hb0] at hc; exact h8 c (List.mem_of_mem_drop hc)
 have hl0 : b0.length ≤ 1000000 := by rw [hb0, List.length_drop]; omega
 obtain ⟨u, hu⟩ : ∃ u, u = (takeV b).2.1 := ⟨_, rfl⟩
 rw [h0.1, if_pos rfl, ← hu, ← hb0] at KT
 have g2 : decide ((u : Int) ≤ 1073741824) = true := decide_eq_true (by have := h0.2; omega)
 have HU : Hid (u = (takeV b).2.1 ∧ u ≤ 1073741824) := ⟨hu, by have := h0.2; omega⟩
 obtain ⟨dk, hdk⟩ := (dec_facts b0 ht).2.2
 have h81 : ∀ c ∈ b1, c < 256 := fun c hc => by rw [hb1, hdk] at hc; exact h80 c (List.mem_of_mem_drop hc)
 have hl1 : b1.length ≤ 1000000 := by rw [hb1, hdk, List.length_drop]; omega
 have H81 := Lib.hid h81
 have HL1 := Lib.hid hl1
 have HTT := Lib.hid ht
 have HB1E := Lib.hid hb1
 have H80 := Lib.hid h80
 have HL0 := Lib.hid hl0
 have HXX := Lib.hid hx
 clear hu h0 h8 hl hA hb0 h80 hl0 ht hb1 h81 hl1 hdk dk hx
 refine (callsIn_wide (n := 20)).1 ?_
 refine callsIn_of_wp Tryz.func42 rfl trivial ?_ rfl
 simp only [Tryz.ntmps42, List.size_toArray, List.length_cons, List.length_nil, Nat.reduceAdd, Nat.reduceSub, Array.replicate_succ, Array.replicate_zero, List.push_toArray, List.append_toArray, List.nil_append, List.cons_append]
 gi_wp2_with fail
 refine KT.out.mono ?_
 rintro e w1 ⟨A1, n1, c1, rfl, hB, hO⟩
 have hI := PrI.new (W := W) (q := true) (rv := .slice A1 n1 c1) hB
 obtain ⟨w2, hw2⟩ : ∃ w2, w2 = (w1.alloc (.cells #[.slice A1 n1 c1] 23)).alloc (.cells #[.bool true] 4) := ⟨_, rfl⟩
 rw [← hw2] at hI
 obtain ⟨bo, hbo⟩ : ∃ bo, bo = w1.heap.size + 1 := ⟨_, rfl⟩
 obtain ⟨br, hbr⟩ : ∃ br, br = w1.heap.size := ⟨_, rfl⟩
 have hbe : Below w1.heap.size w1 w2 := by rw [hw2]; exact ((Below.refl _ w1).alloc (Nat.le_refl _) _).alloc (by simp) _
 have HB1 : Hid (Below (W.alloc (.cells #[.int .i64 0, .slice none 0 0] 62)).heap.size (W.alloc (.cells #[.int .i64 0, .slice none 0 0] 62)) w1) := hB
 rw [← hbo, ← hbr] at hI
 have HI2 := Lib.hid hI
 have HR2 := Lib.hid hO
 have HBE := Lib.hid hbe
 have HW2 := Lib.hid hw2
 have HBO := Lib.hid hbo
 have HBR := Lib.hid hbr
 clear hB hO hI hw2 hbe hbo hbr KT
 gi_wp2_with fail
 rw [← HW2.out, ← HBO.out, ← HBR.out]
 have hO2 : OwnG EB 5 w2 (W.alloc (.cells #[.int .i64 0, .slice none 0 0] 62)).heap.size (.slice A1 n1 c1) b0 := (HR2.out (by first | rfl | trivial)).below HBE.out
 have KR : Hid (CallsIn Fence.wide 19 Tryz.prog 75 #[.pointer (some ⟨bo, 0, none⟩), .pointer (some ⟨br, 0, none⟩)] w2 _) := callsIn_wide.2 (prow_step HI2.out hO2.rd H80.out (by have := HL0.out; omega))
 clear hO2
 refine KR.out.mono ?_
 rintro e w3 ⟨At, nt, ct, A2, n2, c2, rfl, hI, hK, hB, hO⟩
 rw [decide_eq_true HTT.out] at hI
 have HI3 := Lib.hid hI
 obtain ⟨hOT, hOB⟩ := hO HTT.out
 rw [← HB1E.out] at hOB
 obtain ⟨Tl, hTl⟩ : ∃ Tl, Tl = (decV b0).2.1 := ⟨_, rfl⟩
 rw [← hTl] at hOT
 have HTL := Lib.hid hTl
 have HOT3 := Lib.hid hOT
 have HOB3 := Lib.hid hOB
 have KA : Hid (CallsIn Fence.wide 19 Tryz.prog 77 #[.slice A2 n2 c2, .int .i64 1] w3 _) := callsIn_wide.2 (takeAll_c _ b1 w3 hOB.rd hOB.flatV H81.out (by have := HL1.out; omega))
 have co := hI.ok.cell
 have cr := hI.rest.cell
 clear hI hK hB hO hOT hOB hTl KR
 gi_wp2_with fail
 refine KA.out.mono ?_
 rintro e w4 ⟨Ax, nx, cx, A3, n3, c3, rfl, hB, hO⟩
 have hI4 := HI3.out.on hB
 have hI5 := hI4.setRest (.slice A3 n3 c3)
 have co4 := hI4.ok.cell
 have cr4 := hI4.rest.cell
 have fr4 := hI4.rest.frozen
 have co5 := hI5.ok.cell
 have fo5 := hI5.ok.frozen
 have HI5 := Lib.hid hI5
 have HB34 := Lib.hid hB
 have HK45 : Hid (KeepN w4 (w4.setCell ⟨br, 0, none⟩ (.slice A3 n3 c3))) := KeepN.set hI4.rest (by decide) (by decide) _
 obtain ⟨hOX, hOB⟩ := hO HXX.out.1
 have hlx := (takes_rest 1 b1 HXX.out.1).2.2.2.1
 obtain ⟨Xl, hXl⟩ : ∃ Xl, Xl = (takesV 1 b1).2.1 := ⟨_, rfl⟩
 obtain ⟨x0, hx0⟩ : ∃ x0, x0 = (takesV 1 b1).2.1.getD 0 0 := ⟨_, rfl⟩
 have hxx := HXX.out.2
 rw [← hx0] at hxx
 rw [← hXl] at hOX hlx hx0
 obtain ⟨gx, rfl, rfl, _⟩ := hOX.some_ (by intro e; rw [e] at hlx; simp at hlx)
 have hOX5 := HK45.out.1 _ _ _ hOX
 have hcx := hOX5.atI rfl (by rw [hlx]; omega : 0 < Xl.length)
 rw [← hx0] at hcx
 have hlx0 : (0 : Int) < (Xl.length : Int) := by rw [hlx]; decide
 rw [HXX.out.1]
 have d1 : decide (-1000 ≤ x0) = false := decide_eq_false (by omega)
 have hI6 := hI5.setOk false
 have HI6 := Lib.hid hI6
 clear hB hO hI4 hI5 hI6 KA co cr hOX hOB hOX5 hXl hx0 hxx hlx
 gi_wp2_with fail
 refine (KN.out bo br ((w4.setCell ⟨br, 0, none⟩ (.slice A3 n3 c3)).setCell ⟨bo, 0, none⟩ (.bool false)) HI6.out.ok).mono ?_
 rintro e wx ⟨rfl, hwx⟩
 have hwx := hwx.symm
 subst hwx
 have co := HI6.out.ok.cell
 have cr := HI6.out.cells
 obtain ⟨cr0, cr1, cf0, cf1⟩ := cr
 gi_wp2_with fail
 refine bodyPost_ret (v := .tuple #[.agg #[.int .i64 0, .slice none 0 0], .bool false]) ?_ rfl ⟨HI6.out.end_ _ _, .inl ⟨HNONE.out, rfl⟩⟩
 unfold results
 rw [hr]
 go_simp
set_option maxRecDepth 100000 in
set_option maxHeartbeats 8000000 in
theorem parse_x2 (v : Value) (b : List Nat) (W : World) (hR : RdG EB W W.heap.size v b) (h8 : ∀ c ∈ b, c < 256) (hl : b.length ≤ 1000000) (h0 : (takeV b).1 = 0 ∧ (takeV b).2.1 ≤ 1073741824) (b0 : List Nat) (hb0 : b0 = b.drop (takeV b).2.2) (ht : (decV b0).1 = 0) (b1 : List Nat) (hb1 : b1 = (decV b0).2.2) (hx : (takesV 1 b1).1 = 0 ∧ -1000 ≤ (takesV 1 b1).2.1.getD 0 0 ∧ ¬ (takesV 1 b1).2.1.getD 0 0 ≤ 1000) :
  Calls Tryz.prog 42 #[v] W (ParR W b) := by
 have hr : Tryz.f42.results = #[.cell 2 62, .tmp 3] := by kernel_rfl
 have hmf : ∀ (fn : Fn) (first cap : Array Value) (w : World), (Instr.makeFunc fn first cap).run Tryz.prog w = .ok (.func fn first cap) w := fun _ _ _ _ => rfl
 have hA : Below W.heap.size W (W.alloc (.cells #[.int .i64 0, .slice none 0 0] 62)) := (Below.refl _ _).alloc (Nat.le_refl _) _
 have KT : Hid (CallsIn Fence.wide 19 Tryz.prog 73 #[v] (W.alloc (.cells #[.int .i64 0, .slice none 0 0] 62)) _) := callsIn_wide.2 (take_c v b _ (hR.on hA) h8 (by omega))
 have hf1 : Fence.wide.fn 73 := trivial
 have hf2 : Fence.wide.fn 75 := trivial
 have hf3 : Fence.wide.fn 77 := trivial
 have hf4 : Fence.wide.fn 78 := trivial
 have KN : Hid (∀ bo br w, Boxed w bo 4 (.bool false) → CallsIn Fence.wide 19 Tryz.prog 75 #[.pointer (some ⟨bo, 0, none⟩), .pointer (some ⟨br, 0, none⟩)] w fun e w' => e = .returned (.slice none 0 0) ∧ w' = w) := fun bo br w h => callsIn_wide.2 (prow_no bo br w h)
 obtain ⟨A, c, rfl, _⟩ := hR
 have HNONE := Lib.hid (par_exp (b := b) (b1 := b1) (by rw [← hb0]; exact hb1) (fun h => by exact hx.2.2 h.2.2))
 have h80 : ∀ c ∈ b0, c < 256 := fun c hc => by rw [hb0] at hc; exact h8 c (List.mem_of_mem_drop hc)
 have hl0 : b0.length ≤ 1000000 := by rw [hb0, List.length_drop]; omega
 obtain ⟨u, hu⟩ : ∃ u, u = (takeV b).2.1 := ⟨_, rfl⟩
 rw [h0.1, if_pos rfl, ← hu, ← hb0] at KT
 have g2 : decide ((u : Int) ≤ 1073741824) = true := decide_eq_true (by have := h0.2; omega)
 have HU : Hid (u = (takeV b).2.1 ∧ u ≤ 1073741824) := ⟨hu, by have := h0.2; omega⟩
 obtain ⟨dk, hdk⟩ := (dec_facts b0 ht).2.2
 have h81 : ∀ c ∈ b1, c < 256 := fun c hc => by rw [hb1, hdk] at hc; exact h80 c (List.mem_of_mem_drop hc)
 have hl1 : b1.length ≤ 1000000 := by rw [hb1, hdk, List.length_drop]; omega
 have H81 := Lib.hid h81
 have HL1 := Lib.hid hl1
 have HTT := Lib.hid ht
 have HB1E := Lib.hid hb1
 have H80 := Lib.hid h80
 have HL0 := Lib.hid hl0
 have HXX := Lib.hid hx
 clear hu h0 h8 hl hA hb0 h80 hl0 ht hb1 h81 hl1 hdk dk hx
 refine (callsIn_wide (n := 20)).1 ?_
 refine callsIn_of_wp Tryz.func42 rfl trivial ?_ rfl
 simp only [Tryz.ntmps42, List.size_toArray, List.length_cons, List.length_nil, Nat.reduceAdd, Nat.reduceSub, Array.replicate_succ, Array.replicate_zero, List.push_toArray, List.append_toArray, List.nil_append, List.cons_append]
 gi_wp2_with fail
 refine KT.out.mono ?_
 rintro e w1 ⟨A1, n1, c1, rfl, hB, hO⟩
 have hI := PrI.new (W := W) (q := true) (rv := .slice A1 n1 c1) hB
 obtain ⟨w2, hw2⟩ : ∃ w2, w2 = (w1.alloc (.cells #[.slice A1 n1 c1] 23)).alloc (.cells #[.bool true] 4) := ⟨_, rfl⟩
 rw [← hw2] at hI
 obtain ⟨bo, hbo⟩ : ∃ bo, bo = w1.heap.size + 1 := ⟨_, rfl⟩
 obtain ⟨br, hbr⟩ : ∃ br, br = w1.heap.size := ⟨_, rfl⟩
 have hbe : Below w1.heap.size w1 w2 := by rw [hw2]; exact ((Below.refl _ w1).alloc (Nat.le_refl _) _).alloc (by simp) _
 have HB1 : Hid (Below (W.alloc (.cells #[.int .i64 0, .slice none 0 0] 62)).heap.size (W.alloc (.cells #[.int .i64 0, .slice none 0 0] 62)) w1) := hB
 rw [← hbo, ← hbr] at hI
 have HI2 := Lib.hid hI
 have HR2 := Lib.hid hO
 have HBE := Lib.hid hbe
 have HW2 := Lib.hid hw2
 have HBO := Lib.hid hbo
 have HBR := Lib.hid hbr
 clear hB hO hI hw2 hbe hbo hbr KT
 gi_wp2_with fail
 rw [← HW2.out, ← HBO.out, ← HBR.out]
 have hO2 : OwnG EB 5 w2 (W.alloc (.cells #[.int .i64 0, .slice none 0 0] 62)).heap.size (.slice A1 n1 c1) b0 := (HR2.out (by first | rfl | trivial)).below HBE.out
 have KR : Hid (CallsIn Fence.wide 19 Tryz.prog 75 #[.pointer (some ⟨bo, 0, none⟩), .pointer (some ⟨br, 0, none⟩)] w2 _) := callsIn_wide.2 (prow_step HI2.out hO2.rd H80.out (by have := HL0.out; omega))
 clear hO2
 refine KR.out.mono ?_
 rintro e w3 ⟨At, nt, ct, A2, n2, c2, rfl, hI, hK, hB, hO⟩
 rw [decide_eq_true HTT.out] at hI
 have HI3 := Lib.hid hI
 obtain ⟨hOT, hOB⟩ := hO HTT.out
 rw [← HB1E.out] at hOB
 obtain ⟨Tl, hTl⟩ : ∃ Tl, Tl = (decV b0).2.1 := ⟨_, rfl⟩
 rw [← hTl] at hOT
 have HTL := Lib.hid hTl
 have HOT3 := Lib.hid hOT
 have HOB3 := Lib.hid hOB
 have KA : Hid (CallsIn Fence.wide 19 Tryz.prog 77 #[.slice A2 n2 c2, .int .i64 1] w3 _) := callsIn_wide.2 (takeAll_c _ b1 w3 hOB.rd hOB.flatV H81.out (by have := HL1.out; omega))
 have co := hI.ok.cell
 have cr := hI.rest.cell
 clear hI hK hB hO hOT hOB hTl KR
 gi_wp2_with fail
 refine KA.out.mono ?_
 rintro e w4 ⟨Ax, nx, cx, A3, n3, c3, rfl, hB, hO⟩
 have hI4 := HI3.out.on hB
 have hI5 := hI4.setRest (.slice A3 n3 c3)
 have co4 := hI4.ok.cell
 have cr4 := hI4.rest.cell
 have fr4 := hI4.rest.frozen
 have co5 := hI5.ok.cell
 have fo5 := hI5.ok.frozen
 have HI5 := Lib.hid hI5
 have HB34 := Lib.hid hB
 have HK45 : Hid (KeepN w4 (w4.setCell ⟨br, 0, none⟩ (.slice A3 n3 c3))) := KeepN.set hI4.rest (by decide) (by decide) _
 obtain ⟨hOX, hOB⟩ := hO HXX.out.1
 have hlx := (takes_rest 1 b1 HXX.out.1).2.2.2.1
 obtain ⟨Xl, hXl⟩ : ∃ Xl, Xl = (takesV 1 b1).2.1 := ⟨_, rfl⟩
 obtain ⟨x0, hx0⟩ : ∃ x0, x0 = (takesV 1 b1).2.1.getD 0 0 := ⟨_, rfl⟩
 have hxx := HXX.out.2
 rw [← hx0] at hxx
 rw [← hXl] at hOX hlx hx0
 obtain ⟨gx, rfl, rfl, _⟩ := hOX.some_ (by intro e; rw [e] at hlx; simp at hlx)
 have hOX5 := HK45.out.1 _ _ _ hOX
 have hcx := hOX5.atI rfl (by rw [hlx]; omega : 0 < Xl.length)
 rw [← hx0] at hcx
 have hlx0 : (0 : Int) < (Xl.length : Int) := by rw [hlx]; decide
 rw [HXX.out.1]
 have d1 : decide (-1000 ≤ x0) = true := decide_eq_true (by omega)
 have d2 : decide (x0 ≤ 1000) = false := decide_eq_false (by omega)
 have hI6 := hI5.setOk false
 have HI6 := Lib.hid hI6
 clear hB hO hI4 hI5 hI6 KA co cr hOX hOB hOX5 hXl hx0 hxx hlx
 gi_wp2_with fail
 refine (KN.out bo br ((w4.setCell ⟨br, 0, none⟩ (.slice A3 n3 c3)).setCell ⟨bo, 0, none⟩ (.bool false)) HI6.out.ok).mono ?_
 rintro e wx ⟨rfl, hwx⟩
 have hwx := hwx.symm
 subst hwx
 have co := HI6.out.ok.cell
 have cr := HI6.out.cells
 obtain ⟨cr0, cr1, cf0, cf1⟩ := cr
 gi_wp2_with fail
 refine bodyPost_ret (v := .tuple #[.agg #[.int .i64 0, .slice none 0 0], .bool false]) ?_ rfl ⟨HI6.out.end_ _ _, .inl ⟨HNONE.out, rfl⟩⟩
 unfold results
 rw [hr]
 go_simp
end Go.Proofs.YtnkelahimiipjaaGreatDoor

/-
 datapart.parse: the second row of numbers; and where all is well.
-/
namespace Go.Proofs.YtnkelahimiipjaaGreatDoor
open Go.RowKit Go.Sort
attribute [local go_sem] Oper.semAt_some

set_option maxRecDepth 100000 in
set_option maxHeartbeats 8000000 in
theorem parse_m0 (v : Value) (b : List Nat) (W : World) (hR : RdG EB W W.heap.size v b) (h8 : ∀ c ∈ b, c < 256) (hl : b.length ≤ 1000000) (h0 : (takeV b).1 = 0 ∧ (takeV b).2.1 ≤ 1073741824) (b0 : List Nat) (hb0 : b0 = b.drop (takeV b).2.2) (ht : (decV b0).1 = 0) (b1 : List Nat) (hb1 : b1 = (decV b0).2.2) (hx : (takesV 1 b1).1 = 0 ∧ -1000 ≤ (takesV 1 b1).2.1.getD 0 0 ∧ (takesV 1 b1).2.1.getD 0 0 ≤ 1000) (b2 : List Nat) (hb2 : b2 = (takesV 1 b1).2.2) (hm : (decV b2).1 ≠ 0) :
  Calls Tryz.prog 42 #[v] W (ParR W b) := by
 have hr : Tryz.f42.results = #[.cell 2 62, .tmp 3] := by kernel_rfl
 have hmf : ∀ (fn : Fn) (first cap : Array Value) (w : World), (Instr.makeFunc fn first cap).run Tryz.prog w = .ok (.func fn first cap) w := fun _ _ _ _ => rfl
 have hA : Below W.heap.size W (W.alloc (.cells #[.int .i64 0, .slice none 0 0] 62)) := (Below.refl _ _).alloc (Nat.le_refl _) _
 have KT : Hid (CallsIn Fence.wide 19 Tryz.prog 73 #[v] (W.alloc (.cells #[.int .i64 0, .slice none 0 0] 62)) _) := callsIn_wide.2 (take_c v b _ (hR.on hA) h8 (by omega))
 have hf1 : Fence.wide.fn 73 := trivial
 have hf2 : Fence.wide.fn 75 := trivial
 have hf3 : Fence.wide.fn 77 := trivial
 have hf4 : Fence.wide.fn 78 := trivial
 have KN : Hid (∀ bo br w, Boxed w bo 4 (.bool false) → CallsIn Fence.wide 19 Tryz.prog 75 #[.pointer (some ⟨bo, 0, none⟩), .pointer (some ⟨br, 0, none⟩)] w fun e w' => e = .returned (.slice none 0 0) ∧ w' = w) := fun bo br w h => callsIn_wide.2 (prow_no bo br w h)
 obtain ⟨A, c, rfl, _⟩ := hR
 have HNONE := Lib.hid (par_mant (b := b) (b2 := b2) (by rw [← hb0, ← hb1]; exact hb2) (fun h => by exact hm h.1))
 have h80 : ∀ c ∈ b0, c < 256 := fun c hc => by rw [hb0] at hc; exact h8 c (List.mem_of_mem_drop hc)
 have hl0 : b0.length ≤ 1000000 := by rw [hb0, List.length_drop]; omega
 obtain ⟨u, hu⟩ : ∃ u, u = (takeV b).2.1 := ⟨_, rfl⟩
 rw [h0.1, if_pos rfl, ← hu, ← hb0] at KT
 have g2 : decide ((u : Int) ≤ 1073741824) = true := decide_eq_true (by have := h0.2; omega)
 have HU : Hid (u = (takeV b).2.1 ∧ u ≤ 1073741824) := ⟨hu, by have := h0.2; omega⟩
 obtain ⟨dk, hdk⟩ := (dec_facts b0 ht).2.2
 have h81 : ∀ c ∈ b1, c < 256 := fun c hc => by rw [hb1, hdk] at hc; exact h80 c (List.mem_of_mem_drop hc)
 have hl1 : b1.length ≤ 1000000 := by rw [hb1, hdk, List.length_drop]; omega
 have H81 := Lib.hid h81
 have HL1 := Lib.hid hl1
 have HTT := Lib.hid ht
 have HB1E := Lib.hid hb1
 have h82 : ∀ c ∈ b2, c < 256 := fun c hc => by rw [hb2, (takes_rest 1 b1 hx.1).2.2.1] at hc; exact h81 c (List.mem_of_mem_drop hc)
 have hl2 : b2.length ≤ 1000000 := by rw [hb2, (takes_rest 1 b1 hx.1).2.2.1, List.length_drop]; omega
 have H82 := Lib.hid h82
 have HL2 := Lib.hid hl2
 have HB2E := Lib.hid hb2
 have HXX := Lib.hid hx
 have H80 := Lib.hid h80
 have HL0 := Lib.hid hl0
 have HMM := Lib.hid hm
 clear hm
 clear hu h0 h8 hl hA hb0 h80 hl0 ht hb1 h81 hl1 hdk dk hx hb2 h82 hl2
 refine (callsIn_wide (n := 20)).1 ?_
 refine callsIn_of_wp Tryz.func42 rfl trivial ?_ rfl
 simp only [Tryz.ntmps42, List.size_toArray, List.length_cons, List.length_nil, Nat.reduceAdd, Nat.reduceSub, Array.replicate_succ, Array.replicate_zero, List.push_toArray, List.append_toArray, List.nil_append, List.cons_append]
 gi_wp2_with fail
 refine KT.out.mono ?_
 rintro e w1 ⟨A1, n1, c1, rfl, hB, hO⟩
 have hI := PrI.new (W := W) (q := true) (rv := .slice A1 n1 c1) hB
 obtain ⟨w2, hw2⟩ : ∃ w2, w2 = (w1.alloc (.cells #[.slice A1 n1 c1] 23)).alloc (.cells #[.bool true] 4) := ⟨_, rfl⟩
 rw [← hw2] at hI
 obtain ⟨bo, hbo⟩ : ∃ bo, bo = w1.heap.size + 1 := ⟨_, rfl⟩
 obtain ⟨br, hbr⟩ : ∃ br, br = w1.heap.size := ⟨_, rfl⟩
 have hbe : Below w1.heap.size w1 w2 := by rw [hw2]; exact ((Below.refl _ w1).alloc (Nat.le_refl _) _).alloc (by simp) _
 have HB1 : Hid (Below (W.alloc (.cells #[.int .i64 0, .slice none 0 0] 62)).heap.size (W.alloc (.cells #[.int .i64 0, .slice none 0 0] 62)) w1) := hB
 rw [← hbo, ← hbr] at hI
 have HI2 := Lib.hid hI
 have HR2 := Lib.hid hO
 have HBE := Lib.hid hbe
 have HW2 := Lib.hid hw2
 have HBO := Lib.hid hbo
 have HBR := Lib.hid hbr
 clear hB hO hI hw2 hbe hbo hbr KT
 gi_wp2_with fail
 rw [← HW2.out, ← HBO.out, ← HBR.out]
 have hO2 : OwnG EB 5 w2 (W.alloc (.cells #[.int .i64 0, .slice none 0 0] 62)).heap.size (.slice A1 n1 c1) b0 := (HR2.out (by first | rfl | trivial)).below HBE.out
 have KR : Hid (CallsIn Fence.wide 19 Tryz.prog 75 #[.pointer (some ⟨bo, 0, none⟩), .pointer (some ⟨br, 0, none⟩)] w2 _) := callsIn_wide.2 (prow_step HI2.out hO2.rd H80.out (by have := HL0.out; omega))
 clear hO2
 refine KR.out.mono ?_
 rintro e w3 ⟨At, nt, ct, A2, n2, c2, rfl, hI, hK, hB, hO⟩
 rw [decide_eq_true HTT.out] at hI
 have HI3 := Lib.hid hI
 obtain ⟨hOT, hOB⟩ := hO HTT.out
 rw [← HB1E.out] at hOB
 obtain ⟨Tl, hTl⟩ : ∃ Tl, Tl = (decV b0).2.1 := ⟨_, rfl⟩
 rw [← hTl] at hOT
 have HTL := Lib.hid hTl
 have HOT3 := Lib.hid hOT
 have HOB3 := Lib.hid hOB
 have KA : Hid (CallsIn Fence.wide 19 Tryz.prog 77 #[.slice A2 n2 c2, .int .i64 1] w3 _) := callsIn_wide.2 (takeAll_c _ b1 w3 hOB.rd hOB.flatV H81.out (by have := HL1.out; omega))
 have co := hI.ok.cell
 have cr := hI.rest.cell
 clear hI hK hB hO hOT hOB hTl KR
 gi_wp2_with fail
 refine KA.out.mono ?_
 rintro e w4 ⟨Ax, nx, cx, A3, n3, c3, rfl, hB, hO⟩
 have hI4 := HI3.out.on hB
 have hI5 := hI4.setRest (.slice A3 n3 c3)
 have co4 := hI4.ok.cell
 have cr4 := hI4.rest.cell
 have fr4 := hI4.rest.frozen
 have co5 := hI5.ok.cell
 have fo5 := hI5.ok.frozen
 have HI5 := Lib.hid hI5
 have HB34 := Lib.hid hB
 have HK45 : Hid (KeepN w4 (w4.setCell ⟨br, 0, none⟩ (.slice A3 n3 c3))) := KeepN.set hI4.rest (by decide) (by decide) _
 obtain ⟨hOX, hOB⟩ := hO HXX.out.1
 rw [← HB2E.out] at hOB
 have hlx := (takes_rest 1 b1 HXX.out.1).2.2.2.1
 obtain ⟨Xl, hXl⟩ : ∃ Xl, Xl = (takesV 1 b1).2.1 := ⟨_, rfl⟩
 obtain ⟨x0, hx0⟩ : ∃ x0, x0 = (takesV 1 b1).2.1.getD 0 0 := ⟨_, rfl⟩
 rw [← hXl] at hOX hlx hx0
 obtain ⟨gx, rfl, rfl, _⟩ := hOX.some_ (by intro e; rw [e] at hlx; simp at hlx)
 have hOX5 := HK45.out.1 _ _ _ hOX
 have hcx := hOX5.atI rfl (by rw [hlx]; omega : 0 < Xl.length)
 rw [← hx0] at hcx
 have hlx0 : (0 : Int) < (Xl.length : Int) := by rw [hlx]; decide
 rw [HXX.out.1]
 have hxx := HXX.out.2
 rw [← hXl, ← hx0] at hxx
 have d1 : decide (-1000 ≤ x0) = true := decide_eq_true (by omega)
 have d2 : decide (x0 ≤ 1000) = true := decide_eq_true (by omega)
 have hI6 := hI5.setOk true
 obtain ⟨w6, hw6⟩ : ∃ w6, w6 = (w4.setCell ⟨br, 0, none⟩ (.slice A3 n3 c3)).setCell ⟨bo, 0, none⟩ (.bool true) := ⟨_, rfl⟩
 rw [← hw6] at hI6
 have hK46 : KeepN w4 w6 := by rw [hw6]; exact HK45.out.trans (KeepN.set hI5.ok (by decide) (by decide) _)
 have HI6 := Lib.hid hI6
 have HOB6 := Lib.hid (hK46.2 _ _ _ hOB)
 have HOX6 := Lib.hid (hK46.1 _ _ _ hOX)
 have HOT6 := Lib.hid (hK46.1 _ _ _ (HOT3.out.below HB34.out))
 have HX0 : Hid (x0 = Xl.getD 0 0 ∧ Xl.length = 1) := ⟨hx0, hlx⟩
 have HXB : Hid (-1000 ≤ x0 ∧ x0 ≤ 1000 ∧ x0 = (takesV 1 b1).2.1.getD 0 0) := ⟨by omega, by omega, by rw [hx0, hXl]⟩
 have HW6 := Lib.hid hw6
 have KR2 : Hid (CallsIn Fence.wide 19 Tryz.prog 75 #[.pointer (some ⟨bo, 0, none⟩), .pointer (some ⟨br, 0, none⟩)] w6 _) := callsIn_wide.2 (prow_step hI6 HOB6.out.rd H82.out (by have := HL2.out; omega))
 clear hB hO hI4 hI5 hI6 KA co cr hOX hOB hOX5 hXl hx0 hxx hw6 hK46
 gi_wp2_with fail
 rw [← HW6.out]
 refine KR2.out.mono ?_
 rintro e w7 ⟨Am, nm, cm, A7, n7, c7, rfl, hI, hK, hB, hO⟩
 rw [decide_eq_false HMM.out] at hI
 have HI7 := Lib.hid hI
 clear hI hK hB hO KR2 hcx co4 cr4 fr4 co5 fo5
 have co := HI7.out.ok.cell
 have cr := HI7.out.cells
 obtain ⟨cr0, cr1, cf0, cf1⟩ := cr
 gi_wp2_with fail
 refine bodyPost_ret (v := .tuple #[.agg #[.int .i64 0, .slice none 0 0], .bool false]) ?_ rfl ⟨HI7.out.end_ _ _, .inl ⟨HNONE.out, rfl⟩⟩
 unfold results
 rw [hr]
 go_simp
set_option maxRecDepth 100000 in
set_option maxHeartbeats 8000000 in
theorem parse_m1 (v : Value) (b : List Nat) (W : World) (hR : RdG EB W W.heap.size v b) (h8 : ∀ c ∈ b, c < 256) (hl : b.length ≤ 1000000) (h0 : (takeV b).1 = 0 ∧ (takeV b).2.1 ≤ 1073741824) (b0 : List Nat) (hb0 : b0 = b.drop (takeV b).2.2) (ht : (decV b0).1 = 0) (b1 : List Nat) (hb1 : b1 = (decV b0).2.2) (hx : (takesV 1 b1).1 = 0 ∧ -1000 ≤ (takesV 1 b1).2.1.getD 0 0 ∧ (takesV 1 b1).2.1.getD 0 0 ≤ 1000) (b2 : List Nat) (hb2 : b2 = (takesV 1 b1).2.2) (hm : (decV b2).1 = 0 ∧ (decV b2).2.1.length ≠ (decV b0).2.1.length) :
  Calls Tryz.prog 42 #[v] W (ParR W b) := by
 have hr : Tryz.f42.results = #[.cell 2 62, .tmp 3] := by kernel_rfl
 have hmf : ∀ (fn : Fn) (first cap : Array Value) (w : World), (Instr.makeFunc fn first cap).run Tryz.prog w = .ok (.func fn first cap) w := fun _ _ _ _ => rfl
 have hA : Below W.heap.size W (W.alloc (.cells #[.int .i64 0, .slice none 0 0] 62)) := (Below.refl _ _).alloc (Nat.le_refl _) _
 have KT : Hid (CallsIn Fence.wide 19 Tryz.prog 73 #[v] (W.alloc (.cells #[.int .i64 0, .slice none 0 0] 62)) _) := callsIn_wide.2 (take_c v b _ (hR.on hA) h8 (by omega))
 have hf1 : Fence.wide.fn 73 := trivial
 have hf2 : Fence.wide.fn 75 := trivial
 have hf3 : Fence.wide.fn 77 := trivial
 have hf4 : Fence.wide.fn 78 := trivial
 have KN : Hid (∀ bo br w, Boxed w bo 4 (.bool false) → CallsIn Fence.wide 19 Tryz.prog 75 #[.pointer (some ⟨bo, 0, none⟩), .pointer (some ⟨br, 0, none⟩)] w fun e w' => e = .returned (.slice none 0 0) ∧ w' = w) := fun bo br w h => callsIn_wide.2 (prow_no bo br w h)
 obtain ⟨A, c, rfl, _⟩ := hR
 have HNONE := Lib.hid (par_mant (b := b) (b2 := b2) (by rw [← hb0, ← hb1]; exact hb2) (fun h => by exact hm.2 (by rw [hb0]; exact h.2)))
 have h80 : ∀ c ∈ b0, c < 256 := fun c hc => by rw [hb0] at hc; exact h8 c (List.mem_of_mem_drop hc)
 have hl0 : b0.length ≤ 1000000 := by rw [hb0, List.length_drop]; omega
 obtain ⟨u, hu⟩ : ∃ u, u = (takeV b).2.1 := ⟨_, rfl⟩
 rw [h0.1, if_pos rfl, ← hu, ← hb0] at KT
 have g2 : decide ((u : Int) ≤ 1073741824) = true := decide_eq_true (by have := h0.2; omega)
 have HU : Hid (u = (takeV b).2.1 ∧ u ≤ 1073741824) := ⟨hu, by have := h0.2; omega⟩
 obtain ⟨dk, hdk⟩ := (dec_facts b0 ht).2.2
 have h81 : ∀ c ∈ b1, c < 256 := fun c hc => by rw [hb1, hdk] at hc; exact h80 c (List.mem_of_mem_drop hc)
 have hl1 : b1.length ≤ 1000000 := by rw [hb1, hdk, List.length_drop]; omega
 have H81 := Lib.hid h81
 have HL1 := Lib.hid hl1
 have HTT := Lib.hid ht
 have HB1E := Lib.hid hb1
 have h82 : ∀ c ∈ b2, c < 256 := fun c hc => by rw [hb2, (takes_rest 1 b1 hx.1).2.2.1] at hc; exact h81 c (List.mem_of_mem_drop hc)
 have hl2 : b2.length ≤ 1000000 := by rw [hb2, (takes_rest 1 b1 hx.1).2.2.1, List.length_drop]; omega
 have H82 := Lib.hid h82
 have HL2 := Lib.hid hl2
 have HB2E := Lib.hid hb2
 have HXX := Lib.hid hx
 have H80 := Lib.hid h80
 have HL0 := Lib.hid hl0
 have HMM := Lib.hid hm
 clear hm
 clear hu h0 h8 hl hA hb0 h80 hl0 ht hb1 h81 hl1 hdk dk hx hb2 h82 hl2
 refine (callsIn_wide (n := 20)).1 ?_
 refine callsIn_of_wp Tryz.func42 rfl trivial ?_ rfl
 simp only [Tryz.ntmps42, List.size_toArray, List.length_cons, List.length_nil, Nat.reduceAdd, Nat.reduceSub, Array.replicate_succ, Array.replicate_zero, List.push_toArray, List.append_toArray, List.nil_append, List.cons_append]
 gi_wp2_with fail
 refine KT.out.mono ?_
 rintro e w1 ⟨A1, n1, c1, rfl, hB, hO⟩
 have hI := PrI.new (W := W) (q := true) (rv := .slice A1 n1 c1) hB
 obtain ⟨w2, hw2⟩ : ∃ w2, w2 = (w1.alloc (.cells #[.slice A1 n1 c1] 23)).alloc (.cells #[.bool true] 4) := ⟨_, rfl⟩
 rw [← hw2] at hI
 obtain ⟨bo, hbo⟩ : ∃ bo, bo = w1.heap.size + 1 := ⟨_, rfl⟩
 obtain ⟨br, hbr⟩ : ∃ br, br = w1.heap.size := ⟨_, rfl⟩
 have hbe : Below w1.heap.size w1 w2 := by rw [hw2]; exact ((Below.refl _ w1).alloc (Nat.le_refl _) _).alloc (by simp) _
 have HB1 : Hid (Below (W.alloc (.cells #[.int .i64 0, .slice none 0 0] 62)).heap.size (W.alloc (.cells #[.int .i64 0, .slice none 0 0] 62)) w1) := hB
 rw [← hbo, ← hbr] at hI
 have HI2 := Lib.hid hI
 have HR2 := Lib.hid hO
 have HBE := Lib.hid hbe
 have HW2 := Lib.hid hw2
 have HBO := Lib.hid hbo
 have HBR := Lib.hid hbr
 clear hB hO hI hw2 hbe hbo hbr KT
 gi_wp2_with fail
 rw [← HW2.out, ← HBO.out, ← HBR.out]
 have hO2 : OwnG EB 5 w2 (W.alloc (.cells #[.int .i64 0, .slice none 0 0] 62)).heap.size (.slice A1 n1 c1) b0 := (HR2.out (by first | rfl | trivial)).below HBE.out
 have KR : Hid (CallsIn Fence.wide 19 Tryz.prog 75 #[.pointer (some ⟨bo, 0, none⟩), .pointer (some ⟨br, 0, none⟩)] w2 _) := callsIn_wide.2 (prow_step HI2.out hO2.rd H80.out (by have := HL0.out; omega))
 clear hO2
 refine KR.out.mono ?_
 rintro e w3 ⟨At, nt, ct, A2, n2, c2, rfl, hI, hK, hB, hO⟩
 rw [decide_eq_true HTT.out] at hI
 have HI3 := Lib.hid hI
 obtain ⟨hOT, hOB⟩ := hO HTT.out
 rw [← HB1E.out] at hOB
 obtain ⟨Tl, hTl⟩ : ∃ Tl, Tl = (decV b0).2.1 := ⟨_, rfl⟩
 rw [← hTl] at hOT
 have HTL := Lib.hid hTl
 have HOT3 := Lib.hid hOT
 have HOB3 := Lib.hid hOB
 have KA : Hid (CallsIn Fence.wide 19 Tryz.prog 77 #[.slice A2 n2 c2, .int .i64 1] w3 _) := callsIn_wide.2 (takeAll_c _ b1 w3 hOB.rd hOB.flatV H81.out (by have := HL1.out; omega))
 have co := hI.ok.cell
 have cr := hI.rest.cell
 clear hI hK hB hO hOT hOB hTl KR
 gi_wp2_with fail
 refine KA.out.mono ?_
 rintro e w4 ⟨Ax, nx, cx, A3, n3, c3, rfl, hB, hO⟩
 have hI4 := HI3.out.on hB
 have hI5 := hI4.setRest (.slice A3 n3 c3)
 have co4 := hI4.ok.cell
 have cr4 := hI4.rest.cell
 have fr4 := hI4.rest.frozen
 have co5 := hI5.ok.cell
 have fo5 := hI5.ok.frozen
 have HI5 := Lib.hid hI5
 have HB34 := Lib.hid hB
 have HK45 : Hid (KeepN w4 (w4.setCell ⟨br, 0, none⟩ (.slice A3 n3 c3))) := KeepN.set hI4.rest (by decide) (by decide) _
 obtain ⟨hOX, hOB⟩ := hO HXX.out.1
 rw [← HB2E.out] at hOB
 have hlx := (takes_rest 1 b1 HXX.out.1).2.2.2.1
 obtain ⟨Xl, hXl⟩ : ∃ Xl, Xl = (takesV 1 b1).2.1 := ⟨_, rfl⟩
 obtain ⟨x0, hx0⟩ : ∃ x0, x0 = (takesV 1 b1).2.1.getD 0 0 := ⟨_, rfl⟩
 rw [← hXl] at hOX hlx hx0
 obtain ⟨gx, rfl, rfl, _⟩ := hOX.some_ (by intro e; rw [e] at hlx; simp at hlx)
 have hOX5 := HK45.out.1 _ _ _ hOX
 have hcx := hOX5.atI rfl (by rw [hlx]; omega : 0 < Xl.length)
 rw [← hx0] at hcx
 have hlx0 : (0 : Int) < (Xl.length : Int) := by rw [hlx]; decide
 rw [HXX.out.1]
 have hxx := HXX.out.2
 rw [← hXl, ← hx0] at hxx
 have d1 : decide (-1000 ≤ x0) = true := decide_eq_true (by omega)
 have d2 : decide (x0 ≤ 1000) = true := decide_eq_true (by omega)
 have hI6 := hI5.setOk true
 obtain ⟨w6, hw6⟩ : ∃ w6, w6 = (w4.setCell ⟨br, 0, none⟩ (.slice A3 n3 c3)).setCell ⟨bo, 0, none⟩ (.bool true) := ⟨_, rfl⟩
 rw [← hw6] at hI6
 have hK46 : KeepN w4 w6 := by rw [hw6]; exact HK45.out.trans (KeepN.set hI5.ok (by decide) (by decide) _)
 have HI6 := Lib.hid hI6
 have HOB6 := Lib.hid (hK46.2 _ _ _ hOB)
 have HOX6 := Lib.hid (hK46.1 _ _ _ hOX)
 have HOT6 := Lib.hid (hK46.1 _ _ _ (HOT3.out.below HB34.out))
 have HX0 : Hid (x0 = Xl.getD 0 0 ∧ Xl.length = 1) := ⟨hx0, hlx⟩
 have HXB : Hid (-1000 ≤ x0 ∧ x0 ≤ 1000 ∧ x0 = (takesV 1 b1).2.1.getD 0 0) := ⟨by omega, by omega, by rw [hx0, hXl]⟩
 have HW6 := Lib.hid hw6
 have KR2 : Hid (CallsIn Fence.wide 19 Tryz.prog 75 #[.pointer (some ⟨bo, 0, none⟩), .pointer (some ⟨br, 0, none⟩)] w6 _) := callsIn_wide.2 (prow_step hI6 HOB6.out.rd H82.out (by have := HL2.out; omega))
 clear hB hO hI4 hI5 hI6 KA co cr hOX hOB hOX5 hXl hx0 hxx hw6 hK46
 gi_wp2_with fail
 rw [← HW6.out]
 refine KR2.out.mono ?_
 rintro e w7 ⟨Am, nm, cm, A7, n7, c7, rfl, hI, hK, hB, hO⟩
 rw [decide_eq_true HMM.out.1] at hI
 have HI7 := Lib.hid hI
 obtain ⟨hOM, _⟩ := hO HMM.out.1
 have e1 := hOM.len
 have e2 := HOT6.out.len
 have g4 : ((nm : Int) == (nt : Int)) = false := by
  have h := HMM.out.2
  rw [← e1, ← HTL.out, ← e2] at h
  simp; omega
 clear hI hK hB hO KR2 hcx co4 cr4 fr4 co5 fo5 hOM e1 e2
 have co := HI7.out.ok.cell
 have cr := HI7.out.cells
 obtain ⟨cr0, cr1, cf0, cf1⟩ := cr
 gi_wp2_with fail
 refine bodyPost_ret (v := .tuple #[.agg #[.int .i64 0, .slice none 0 0], .bool false]) ?_ rfl ⟨HI7.out.end_ _ _, .inl ⟨HNONE.out, rfl⟩⟩
 unfold results
 rw [hr]
 go_simp
end Go.Proofs.YtnkelahimiipjaaGreatDoor
