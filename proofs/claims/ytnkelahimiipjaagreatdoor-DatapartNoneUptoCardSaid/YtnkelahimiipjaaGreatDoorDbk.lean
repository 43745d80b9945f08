/-
 frame: Next.
-/
import Derived.Test.YtnkelahimiipjaaGreatDoorHbk
import Derived.Test.YtnkelahimiipjaaGreatDoorCjk
import Derived.Test.YtnkelahimiipjaaGreatDoorCqk
import Derived.Test.YtnkelahimiipjaaGreatDoorBbk
import Derived.Test.YtnkelahimiipjaaGreatDoorCtk
import Derived.Test.YtnkelahimiipjaaGreatDoorCck
import Derived.Defers
import Derived.Deep.Cut
import Derived.Deep.CutRange
namespace Go.Proofs.YtnkelahimiipjaaGreatDoor
open Go.RowKit Go.Sort
set_option maxRecDepth 100000 in
set_option maxHeartbeats 1000000 in
theorem nextd_idle (pe pk pb pr : Addr) (u : FrameMode) (w : World) (he : w.cell? pe = some (.int .i64 0)) :
  CallsD Tryz.prog 72 #[.pointer (some pe), .pointer (some pk), .pointer (some pb), .pointer (some pr)] u w fun e u' w' => u' = u ∧ (e = .returned (.tuple #[]) ∧ w' = w) := by
 go_enter_d Tryz.func72, Tryz.ntmps72
 go_wp2_with fail
 first | go_end0 | refine bodyPost_ret (results_none rfl _ _ _) rfl ?_
 exact ⟨rfl, rfl⟩
set_option maxRecDepth 100000 in
set_option maxHeartbeats 1000000 in
theorem nextd_err (be bk bb br : Nat) (er : Int) (v0 v1 v2 : Value) (u : FrameMode) (w : World) (h0 : Boxed w bk 3 v0) (h1 : Boxed w bb 23 v1) (h2 : Boxed w br 23 v2) (h3 : Boxed w be 26 (.int .i64 er)) (he : er ≠ 0) (n1 : bb ≠ bk) (n2 : br ≠ bk) (n3 : br ≠ bb) :
  CallsD Tryz.prog 72 #[.pointer (some ⟨be, 0, none⟩), .pointer (some ⟨bk, 0, none⟩), .pointer (some ⟨bb, 0, none⟩), .pointer (some ⟨br, 0, none⟩)] u w fun e u' w' => u' = u ∧ (e = .returned (.tuple #[]) ∧ w' = ((w.setCell ⟨bk, 0, none⟩ (.int .i64 0)).setCell ⟨bb, 0, none⟩ (.slice none 0 0)).setCell ⟨br, 0, none⟩ (.slice none 0 0)) := by
 have c3 := h3.cell
 have c0 := h0.cell
 have f0 := h0.frozen
 have h1a := boxSet h1 (B' := bk) n1 (.int .i64 0)
 have c1 := h1a.cell
 have f1 := h1a.frozen
 have h2a := boxSet (boxSet h2 (B' := bk) n2 (.int .i64 0)) (B' := bb) n3 (.slice none 0 0)
 have c2 := h2a.cell
 have f2 := h2a.frozen
 have g : (er != 0) = true := by simp [he]
 clear h0 h1 h2 h3 h1a h2a he
 go_enter_d Tryz.func72, Tryz.ntmps72
 go_wp2_with fail
 first | go_end0 | refine bodyPost_ret (results_none rfl _ _ _) rfl ?_
 exact ⟨rfl, rfl⟩
theorem nd_err {W w : World} {v0 v1 v2 : Value} {er : Int} (q0 : Boxed w W.heap.size 3 v0) (q1 : Boxed w (W.heap.size + 1) 23 v1) (q2 : Boxed w (W.heap.size + 1 + 1) 23 v2) (q3 : Boxed w (W.heap.size + 1 + 1 + 1) 26 (.int .i64 er)) (hB : Below W.heap.size W w) :
  ∃ w9, w9 = ((w.setCell ⟨W.heap.size, 0, none⟩ (.int .i64 0)).setCell ⟨W.heap.size + 1, 0, none⟩ (.slice none 0 0)).setCell ⟨W.heap.size + 1 + 1, 0, none⟩ (.slice none 0 0) ∧ w9.cell? ⟨W.heap.size, 0, none⟩ = some (.int .i64 0) ∧ w9.cell? ⟨W.heap.size + 1, 0, none⟩ = some (.slice none 0 0) ∧ w9.cell? ⟨W.heap.size + 1 + 1, 0, none⟩ = some (.slice none 0 0) ∧ w9.cell? ⟨W.heap.size + 1 + 1 + 1, 0, none⟩ = some (.int .i64 er) ∧ Below W.heap.size W w9 := by
 have a0 := q0.set (.int .i64 0)
 have a1 := boxSet q1 (B' := W.heap.size) (by omega) (.int .i64 0)
 have a2 := boxSet q2 (B' := W.heap.size) (by omega) (.int .i64 0)
 have a3 := boxSet q3 (B' := W.heap.size) (by omega) (.int .i64 0)
 have b1 := a1.set (.slice none 0 0)
 have b2 := boxSet a2 (B' := W.heap.size + 1) (by omega) (.slice none 0 0)
 refine ⟨_, rfl, (boxSet (boxSet a0 (by omega) _) (by omega) _).cell, (boxSet b1 (by omega) _).cell, (b2.set _).cell, (boxSet (boxSet a3 (by omega) _) (by omega) _).cell, ((hB.setCell (by simp) _).setCell (by simp) _).setCell (by simp <;> omega) _⟩
theorem nd_five {W w : World} {v0 v1 v2 v3 : Value} (er0 er : Int) (q0 : Boxed w W.heap.size 3 v0) (q1 : Boxed w (W.heap.size + 1) 23 v1) (q2 : Boxed w (W.heap.size + 1 + 1) 23 v2) (q3 : Boxed w (W.heap.size + 1 + 1 + 1) 26 v3) (hB : Below W.heap.size W w) :
  ∃ w9, w9 = ((((w.setCell ⟨W.heap.size + 1 + 1 + 1, 0, none⟩ (.int .i64 er0)).setCell ⟨W.heap.size, 0, none⟩ (.int .i64 0)).setCell ⟨W.heap.size + 1, 0, none⟩ (.slice none 0 0)).setCell ⟨W.heap.size + 1 + 1, 0, none⟩ (.slice none 0 0)).setCell ⟨W.heap.size + 1 + 1 + 1, 0, none⟩ (.int .i64 er) ∧
   (Boxed w9 W.heap.size 3 (.int .i64 0) ∧ Boxed w9 (W.heap.size + 1) 23 (.slice none 0 0) ∧ Boxed w9 (W.heap.size + 1 + 1) 23 (.slice none 0 0) ∧ Boxed w9 (W.heap.size + 1 + 1 + 1) 26 (.int .i64 er)) ∧ Below W.heap.size W w9 := by
 have p0 := boxSet q0 (B' := W.heap.size + 1 + 1 + 1) (by omega) (.int .i64 er0)
 have p1 := boxSet q1 (B' := W.heap.size + 1 + 1 + 1) (by omega) (.int .i64 er0)
 have p2 := boxSet q2 (B' := W.heap.size + 1 + 1 + 1) (by omega) (.int .i64 er0)
 have p3 := q3.set (.int .i64 er0)
 have a0 := p0.set (.int .i64 0)
 have a1 := boxSet p1 (B' := W.heap.size) (by omega) (.int .i64 0)
 have a2 := boxSet p2 (B' := W.heap.size) (by omega) (.int .i64 0)
 have a3 := boxSet p3 (B' := W.heap.size) (by omega) (.int .i64 0)
 have b0 := boxSet a0 (B' := W.heap.size + 1) (by omega) (.slice none 0 0)
 have b1 := a1.set (.slice none 0 0)
 have b2 := boxSet a2 (B' := W.heap.size + 1) (by omega) (.slice none 0 0)
 have b3 := boxSet a3 (B' := W.heap.size + 1) (by omega) (.slice none 0 0)
 have c0 := boxSet b0 (B' := W.heap.size + 1 + 1) (by omega) (.slice none 0 0)
 have c1 := boxSet b1 (B' := W.heap.size + 1 + 1) (by omega) (.slice none 0 0)
 have c2 := b2.set (.slice none 0 0)
 have c3 := boxSet b3 (B' := W.heap.size + 1 + 1) (by omega) (.slice none 0 0)
 exact ⟨_, rfl, ⟨boxSet c0 (by omega) _, boxSet c1 (by omega) _, boxSet c2 (by omega) _, c3.set _⟩, ((((hB.setCell (by simp <;> omega) _).setCell (by simp) _).setCell (by simp) _).setCell (by simp <;> omega) _).setCell (by simp <;> omega) _⟩
/-- The body and the rest are found. -/
def NxC (W : World) (G u m : Nat) (D : List Nat) (wx : World) : Prop :=
 ∃ RA rc, Boxed wx W.heap.size 3 (.int .i64 0) ∧ Boxed wx (W.heap.size + 1) 23 (.slice (some ⟨G, 0, none⟩) u u) ∧ Boxed wx (W.heap.size + 1 + 1) 23 (.slice RA m rc) ∧ Boxed wx (W.heap.size + 1 + 1 + 1) 26 (.int .i64 0) ∧
  RdG EB wx wx.heap.size (.slice (some ⟨G, 0, none⟩) u u) (D.take u) ∧ RdG EB wx wx.heap.size (.slice RA m rc) (D.drop (u + 4)) ∧ Below W.heap.size W wx
theorem nx_made {W w1 : World} {base G L lc u : Nat} {D : List Nat} {RA : Option Addr} {rc : Nat} {v1 v2 v3 : Value} (q0 : Boxed w1 W.heap.size 3 (.int .i64 0)) (q1 : Boxed w1 (W.heap.size + 1) 23 v1) (q2 : Boxed w1 (W.heap.size + 1 + 1) 23 v2) (q3 : Boxed w1 (W.heap.size + 1 + 1 + 1) 26 v3) (hB : Below W.heap.size W w1) (hO : OwnG EB 5 w1 base (.slice (some ⟨G, 0, none⟩) L lc) D) (hL : L = D.length) (hu : u + 4 ≤ L)
  (hRA : (lc = u + 4 ∧ RA = some ⟨G, 0, none⟩ ∧ rc = 0) ∨ (lc ≠ u + 4 ∧ RA = some ⟨G, u + 4, none⟩ ∧ rc = lc - (u + 4))) :
  NxC W G u (L - (u + 4)) D (((w1.setCell ⟨W.heap.size + 1 + 1 + 1, 0, none⟩ (.int .i64 0)).setCell ⟨W.heap.size + 1, 0, none⟩ (.slice (some ⟨G, 0, none⟩) u u)).setCell ⟨W.heap.size + 1 + 1, 0, none⟩ (.slice RA (L - (u + 4)) rc)).drew := by
 have p0 := boxSet q0 (B' := W.heap.size + 1 + 1 + 1) (by omega) (.int .i64 0)
 have p1 := boxSet q1 (B' := W.heap.size + 1 + 1 + 1) (by omega) (.int .i64 0)
 have p2 := boxSet q2 (B' := W.heap.size + 1 + 1 + 1) (by omega) (.int .i64 0)
 have p3 := q3.set (.int .i64 0)
 have a0 := boxSet p0 (B' := W.heap.size + 1) (by omega) (.slice (some ⟨G, 0, none⟩) u u)
 have a1 := p1.set (.slice (some ⟨G, 0, none⟩) u u)
 have a2 := boxSet p2 (B' := W.heap.size + 1) (by omega) (.slice (some ⟨G, 0, none⟩) u u)
 have a3 := boxSet p3 (B' := W.heap.size + 1) (by omega) (.slice (some ⟨G, 0, none⟩) u u)
 have b0 := boxSet a0 (B' := W.heap.size + 1 + 1) (by omega) (.slice RA (L - (u + 4)) rc)
 have b1 := boxSet a1 (B' := W.heap.size + 1 + 1) (by omega) (.slice RA (L - (u + 4)) rc)
 have b2 := a2.set (.slice RA (L - (u + 4)) rc)
 have b3 := boxSet a3 (B' := W.heap.size + 1 + 1) (by omega) (.slice RA (L - (u + 4)) rc)
 have hO9 := ((hO.set q3 (by decide) (.int .i64 0)).set p1 (by decide) (.slice (some ⟨G, 0, none⟩) u u)).set a2 (by decide) (.slice RA (L - (u + 4)) rc)
 have hrd := hO9.rd
 obtain ⟨A', c', e', hlc, _⟩ := id hrd
 injection e' with _ e1 e2
 refine ⟨RA, rc, b0, b1, b2, b3, ?_, ?_, ((((hB.setCell (by simp <;> omega) _).setCell (by simp <;> omega) _).setCell (by simp <;> omega) _)).drew⟩
 ·exact hrd.cutTo3 hL (by omega) (Nat.le_refl _) (fun e => by cases e)
 ·rcases hRA with ⟨h1, rfl, rfl⟩ | ⟨h1, rfl, rfl⟩
  ·have e : D.drop (u + 4) = [] := List.drop_eq_nil_of_le (by omega)
   have e2 : L - (u + 4) = 0 := by omega
   rw [e, e2]
   exact ⟨_, 0, rfl, Nat.le_refl _, fun e => (by cases e), .inl rfl⟩
  ·have h2 := hrd.cutFrom hL hu
   rw [show 0 + (u + 4) * EB.k = u + 4 by show 0 + (u + 4) * 1 = _; omega] at h2
   exact h2
theorem enc_not {x : Nat} {u : Value} (h : ∀ n : Int, u ≠ .int .u8 n) : ∀ z ∈ EB.enc x, z ≠ u := fun z hz e => by
 have hz : z ∈ [Value.int .u8 (x : Int)] := hz
 rw [List.mem_singleton] at hz
 exact h _ (by rw [← e, hz])
/-- The four results are stored, the rest as a copy. -/
theorem nx_end {W w9 : World} {G u m kd : Nat} {RA A3 : Option Addr} {rc n3 c3 : Nat} {ev : Int} {D2 D4 : List Nat} (b0 : Boxed w9 W.heap.size 3 (.int .i64 (kd : Int))) (b1 : Boxed w9 (W.heap.size + 1) 23 (.slice (some ⟨G, 0, none⟩) u u)) (b2 : Boxed w9 (W.heap.size + 1 + 1) 23 (.slice RA m rc)) (b3 : Boxed w9 (W.heap.size + 1 + 1 + 1) 26 (.int .i64 ev))
  (hbd : RdG EB w9 w9.heap.size (.slice (some ⟨G, 0, none⟩) u u) D2) (hO : OwnG EB 5 w9 W.heap.size (.slice A3 n3 c3) D4) (hB : Below W.heap.size W w9) :
  ∃ x1 x2 x3 x4, x1 = w9.setCell ⟨W.heap.size, 0, none⟩ (.int .i64 (kd : Int)) ∧ x2 = x1.setCell ⟨W.heap.size + 1, 0, none⟩ (.slice (some ⟨G, 0, none⟩) u u) ∧ x3 = x2.setCell ⟨W.heap.size + 1 + 1, 0, none⟩ (.slice A3 n3 c3) ∧ x4 = x3.setCell ⟨W.heap.size + 1 + 1 + 1, 0, none⟩ (.int .i64 ev) ∧
   (∀ x, x = x1 ∨ x = x2 ∨ x = x3 ∨ x = x4 → Boxed x W.heap.size 3 (.int .i64 (kd : Int)) ∧ Boxed x (W.heap.size + 1) 23 (.slice (some ⟨G, 0, none⟩) u u) ∧ Boxed x (W.heap.size + 1 + 1 + 1) 26 (.int .i64 ev)) ∧
   Boxed x1 (W.heap.size + 1 + 1) 23 (.slice RA m rc) ∧ Boxed x2 (W.heap.size + 1 + 1) 23 (.slice RA m rc) ∧ Boxed x4 (W.heap.size + 1 + 1) 23 (.slice A3 n3 c3) ∧
   RdG EB x4 x4.heap.size (.slice (some ⟨G, 0, none⟩) u u) D2 ∧ OwnG EB 5 x4 W.heap.size (.slice A3 n3 c3) D4 ∧ Below W.heap.size W x4 := by
 have p0 := b0.set (.int .i64 (kd : Int))
 have p1 := boxSet b1 (B' := W.heap.size) (by omega) (.int .i64 (kd : Int))
 have p2 := boxSet b2 (B' := W.heap.size) (by omega) (.int .i64 (kd : Int))
 have p3 := boxSet b3 (B' := W.heap.size) (by omega) (.int .i64 (kd : Int))
 have q0 := boxSet p0 (B' := W.heap.size + 1) (by omega) (.slice (some ⟨G, 0, none⟩) u u)
 have q1 := p1.set (.slice (some ⟨G, 0, none⟩) u u)
 have q2 := boxSet p2 (B' := W.heap.size + 1) (by omega) (.slice (some ⟨G, 0, none⟩) u u)
 have q3 := boxSet p3 (B' := W.heap.size + 1) (by omega) (.slice (some ⟨G, 0, none⟩) u u)
 have r0 := boxSet q0 (B' := W.heap.size + 1 + 1) (by omega) (.slice A3 n3 c3)
 have r1 := boxSet q1 (B' := W.heap.size + 1 + 1) (by omega) (.slice A3 n3 c3)
 have r2 := q2.set (.slice A3 n3 c3)
 have r3 := boxSet q3 (B' := W.heap.size + 1 + 1) (by omega) (.slice A3 n3 c3)
 have s0 := boxSet r0 (B' := W.heap.size + 1 + 1 + 1) (by omega) (.int .i64 ev)
 have s1 := boxSet r1 (B' := W.heap.size + 1 + 1 + 1) (by omega) (.int .i64 ev)
 have s2 := boxSet r2 (B' := W.heap.size + 1 + 1 + 1) (by omega) (.int .i64 ev)
 have s3 := r3.set (.int .i64 ev)
 have d1 := hbd.setBox b0 (fun x => enc_not (fun n e => by cases e)) (.int .i64 (kd : Int))
 have d2 := d1.setBox p1 (fun x => enc_not (fun n e => by cases e)) (.slice (some ⟨G, 0, none⟩) u u)
 have d3 := d2.setBox q2 (fun x => enc_not (fun n e => by cases e)) (.slice A3 n3 c3)
 have d4 := d3.setBox r3 (fun x => enc_not (fun n e => by cases e)) (.int .i64 ev)
 have o4 := (((hO.set b0 (by decide) (.int .i64 (kd : Int))).set p1 (by decide) (.slice (some ⟨G, 0, none⟩) u u)).set q2 (by decide) (.slice A3 n3 c3)).set r3 (by decide) (.int .i64 ev)
 refine ⟨_, _, _, _, rfl, rfl, rfl, rfl, ?_, p2, q2, s2, d4, o4, (((hB.setCell (by simp) _).setCell (by simp <;> omega) _).setCell (by simp <;> omega) _).setCell (by simp <;> omega) _⟩
 rintro x (rfl | rfl | rfl | rfl)
 ·exact ⟨p0, p1, p3⟩
 ·exact ⟨q0, q1, q3⟩
 ·exact ⟨r0, r1, r3⟩
 ·exact ⟨s0, s1, s3⟩
/-- The sum is held against the bytes. -/
def NxD (W : World) (G u m kd : Nat) (ev : Int) (D : List Nat) (wx : World) : Prop :=
 ∃ RA rc, Boxed wx W.heap.size 3 (.int .i64 (kd : Int)) ∧ Boxed wx (W.heap.size + 1) 23 (.slice (some ⟨G, 0, none⟩) u u) ∧ Boxed wx (W.heap.size + 1 + 1) 23 (.slice RA m rc) ∧ Boxed wx (W.heap.size + 1 + 1 + 1) 26 (.int .i64 ev) ∧
  RdG EB wx wx.heap.size (.slice (some ⟨G, 0, none⟩) u u) (D.take u) ∧ RdG EB wx wx.heap.size (.slice RA m rc) (D.drop (u + 4)) ∧ Below W.heap.size W wx
def NextR (W : World) (b : List Nat) (e : Ending) (w' : World) : Prop :=
 ∃ bv rv, e = .returned (.tuple #[.int .i64 ((nextV b).2.1 : Int), bv, rv, .int .i64 (nextV b).1]) ∧ Below W.heap.size W w' ∧
  if (nextV b).1 = 0 then RdG EB w' w'.heap.size bv (nextV b).2.2.1 ∧ OwnG EB 5 w' W.heap.size rv (nextV b).2.2.2 else bv = .slice none 0 0 ∧ rv = .slice none 0 0
set_option maxRecDepth 100000 in
set_option maxHeartbeats 16000000 in
theorem next_walk (v : Value) (b : List Nat) (W : World) (hT : TabH W) (hR : RdG EB W W.heap.size v b) (h8 : ∀ c ∈ b, c < 256) (hb : b.length ≤ 10000000) :
  Calls Tryz.prog 41 #[v] W (NextR W b) := by
 have hr : Tryz.f41.results = #[.cell 2 3, .cell 3 23, .cell 4 23, .cell 5 26] := by kernel_rfl
 have hmf : ∀ (fn : Fn) (first cap : Array Value) (w : World), (Instr.makeFunc fn first cap).run Tryz.prog w = .ok (.func fn first cap) w := fun _ _ _ _ => rfl
 obtain ⟨N, hN⟩ : ∃ N, N = b.length := ⟨_, rfl⟩
 have HR := Lib.hid hR
 have H8 := Lib.hid h8
 have HTT := Lib.hid hT
 obtain ⟨A, c, rfl, hc, hn0, hA⟩ := hR
 rw [← hN] at HR hc hb ⊢
 have HN := Lib.hid hN
 have hB4 : Below W.heap.size W ((((W.alloc (.cells #[.int .i64 0] 3)).alloc (.cells #[.slice none 0 0] 23)).alloc (.cells #[.slice none 0 0] 23)).alloc (.cells #[.int .i64 0] 26)) :=
  ((((Below.refl _ W).alloc (Nat.le_refl _) _).alloc (by simp) _).alloc (by simp <;> omega) _).alloc (by simp <;> omega) _
 by_cases h0 : N = 0
 ·have HD : Hid (nextV b = (10, 0, [], [])) := by show _ = _; unfold nextV; rw [if_pos (by omega)]
  have g0 : ((N : Int) == 0) = true := by simp; omega
  clear hN hA hn0 hc hb h8 hT
  go_enter_defers Tryz.func41, Tryz.ntmps41
  go_wp2_with fail
  have q0 : Boxed ((((W.alloc (.cells #[.int .i64 0] 3)).alloc (.cells #[.slice none 0 0] 23)).alloc (.cells #[.slice none 0 0] 23)).alloc (.cells #[.int .i64 10] 26)) W.heap.size 3 (.int .i64 0) := ((((boxNew _ _ _ rfl).alloc _).alloc _).alloc _)
  have q1 : Boxed ((((W.alloc (.cells #[.int .i64 0] 3)).alloc (.cells #[.slice none 0 0] 23)).alloc (.cells #[.slice none 0 0] 23)).alloc (.cells #[.int .i64 10] 26)) (W.heap.size + 1) 23 (.slice none 0 0) := (((boxNew _ _ _ (by simp)).alloc _).alloc _)
  have q2 : Boxed ((((W.alloc (.cells #[.int .i64 0] 3)).alloc (.cells #[.slice none 0 0] 23)).alloc (.cells #[.slice none 0 0] 23)).alloc (.cells #[.int .i64 10] 26)) (W.heap.size + 1 + 1) 23 (.slice none 0 0) := ((boxNew _ _ _ (by simp)).alloc _)
  have q3 : Boxed ((((W.alloc (.cells #[.int .i64 0] 3)).alloc (.cells #[.slice none 0 0] 23)).alloc (.cells #[.slice none 0 0] 23)).alloc (.cells #[.int .i64 10] 26)) (W.heap.size + 1 + 1 + 1) 26 (.int .i64 10) := (boxNew _ _ _ (by simp))
  obtain ⟨w9, hw9, d0, d1, d2, d3, hB9⟩ := nd_err q0 q1 q2 q3 (((((Below.refl _ W).alloc (Nat.le_refl _) _).alloc (by simp) _).alloc (by simp <;> omega) _).alloc (by simp <;> omega) _)
  refine leaves_cons (f := 72) (args := #[.pointer (some ⟨W.heap.size + 1 + 1 + 1, 0, none⟩), .pointer (some ⟨W.heap.size, 0, none⟩), .pointer (some ⟨W.heap.size + 1, 0, none⟩), .pointer (some ⟨W.heap.size + 1 + 1, 0, none⟩)]) (by simp) (by simp [go_sem]) ?_
  refine (nextd_err _ _ _ _ 10 _ _ _ _ _ q0 q1 q2 q3 (by decide) (by omega) (by omega) (by omega)).mono ?_
  rintro e u' w'' ⟨rfl, rfl, h9⟩
  rw [← hw9] at h9
  subst h9
  clear hw9
  have HB9 := Lib.hid hB9
  clear q0 q1 q2 q3 hB9
  exact ⟨.tuple #[.int .i64 0, .slice none 0 0, .slice none 0 0, .int .i64 10], by unfold results; rw [hr]; go_simp, ⟨_, _, by rw [HD.out]; rfl, HB9.out, by rw [if_neg (by rw [HD.out]; exact (by decide))]; exact ⟨rfl, rfl⟩⟩⟩
 ·have g0 : ((N : Int) == 0) = false := by simp; omega
  obtain ⟨g, o, rfl, hcell, hgW⟩ : ∃ g o, A = some ⟨g, o, none⟩ ∧ W.cell? ⟨g, o, none⟩ = some (.int .u8 (b.getD 0 0 : Nat)) ∧ g < W.heap.size := by
   rcases hA with h1 | ⟨b1, o1, e, hb1, hcl⟩
   ·rw [h1] at hN; simp at hN; omega
   ·refine ⟨b1, o1, e, ?_, hb1⟩
    have := cellB.1 (hcl 0 (by omega))
    rw [List.getD_eq_getElem?_getD, List.getElem?_eq_getElem (by omega)]
    simpa [EB] using this
  have hk8 : b.getD 0 0 < 256 := by
   rw [List.getD_eq_getElem?_getD, List.getElem?_eq_getElem (by omega)]
   exact h8 _ (List.getElem_mem _)
  obtain ⟨kd, hkd⟩ : ∃ k, k = b.getD 0 0 := ⟨_, rfl⟩
  rw [← hkd] at hcell hk8
  have HKD := Lib.hid hkd
  have HCE := Lib.hid hcell
  have i0 : (0 : Int) < (N : Int) := by omega
  have i00 : 0 < N := by omega
  have HNB := Lib.hid hb
  have hbl : b.length ≠ 0 := by omega
  have HBL := Lib.hid hbl
  obtain ⟨T, hT0⟩ : ∃ T, T = takeV (b.drop 1) := ⟨_, rfl⟩
  have HT := Lib.hid hT0
  have h8d : ∀ c ∈ b.drop 1, c < 256 := fun c hc => h8 c (List.mem_of_mem_drop hc)
  obtain ⟨W4, hW4⟩ : ∃ W4, W4 = ((((W.alloc (.cells #[.int .i64 0] 3)).alloc (.cells #[.slice none 0 0] 23)).alloc (.cells #[.slice none 0 0] 23)).alloc (.cells #[.int .i64 0] 26)) := ⟨_, rfl⟩
  have hB4' : Below W.heap.size W W4 := by rw [hW4]; exact hB4
  have HQ4 : Hid (Boxed W4 W.heap.size 3 (.int .i64 0) ∧ Boxed W4 (W.heap.size + 1) 23 (.slice none 0 0) ∧ Boxed W4 (W.heap.size + 1 + 1) 23 (.slice none 0 0) ∧ Boxed W4 (W.heap.size + 1 + 1 + 1) 26 (.int .i64 0)) := by
   rw [hW4]
   exact ⟨((((boxNew _ _ _ rfl).alloc _).alloc _).alloc _), (((boxNew _ _ _ (by simp)).alloc _).alloc _), ((boxNew _ _ _ (by simp)).alloc _), (boxNew _ _ _ (by simp))⟩
  have HB4 := Lib.hid hB4'
  have KT : ∀ q, RdG EB W4 W4.heap.size q (b.drop 1) → Calls Tryz.prog 73 #[q] W4 fun e w' => ∃ r, e = .returned (.tuple #[.int .u64 (if T.1 = 0 then (T.2.1 : Int) else 0), r, .int .i64 T.1]) ∧ Below W4.heap.size W4 w' ∧ if T.1 = 0 then OwnG EB 5 w' W4.heap.size r ((b.drop 1).drop T.2.2) else r = .slice none 0 0 := fun q hq => by
   rw [hT0]; exact vTake_walk q (b.drop 1) W4 hq h8d (by rw [List.length_drop]; omega)
  by_cases hc1 : c = 1
  ·have hN1 : N = 1 := by omega
   have hbd : b.drop 1 = [] := List.drop_eq_nil_of_le (by omega)
   have hTe : T = (10, 0, 0) := by rw [hT0, hbd]; rfl
   have HD : Hid (nextV b = (10, 0, [], [])) := by
    show _ = _
    unfold nextV
    rw [if_neg hbl, ← hT0, hTe, if_pos (by decide)]
   have K1 := Lib.hid (KT (.slice (some ⟨g, o, none⟩) 0 0) (by rw [hbd]; exact ⟨_, 0, rfl, Nat.le_refl _, fun _ => rfl, .inl rfl⟩))
   rw [hTe] at K1
   clear hN hA hn0 hb h8 hkd hbl h0 hT0 h8d KT hbd hTe hT hB4 hB4' hcell
   go_enter_defers Tryz.func41, Tryz.ntmps41
   go_wp2_with fail
   rw [← hW4]
   clear hW4
   refine K1.out.mono ?_
   rintro e w1 ⟨r, rfl, hB, hr1⟩
   have hr2 : r = .slice none 0 0 := hr1
   subst hr2
   have HB1 : Hid (Below W.heap.size W w1) := HB4.out.trans (hB.mono HB4.out.size)
   have HQ1 := Lib.hid (And.intro (boxOn HQ4.out.1 hB) (And.intro (boxOn HQ4.out.2.1 hB) (And.intro (boxOn HQ4.out.2.2.1 hB) (boxOn HQ4.out.2.2.2 hB))))
   have c3 := HQ1.out.2.2.2.cell
   have f3 := HQ1.out.2.2.2.frozen
   have c0 := HQ1.out.1.cell
   have f0 := HQ1.out.1.frozen
   have c1 := HQ1.out.2.1.cell
   have f1 := HQ1.out.2.1.frozen
   have c2 := HQ1.out.2.2.1.cell
   have f2 := HQ1.out.2.2.1.frozen
   clear hB hr1 K1
   go_wp2_with fail
   go_region
   go_wp2_with fail
   obtain ⟨w5, hw5, HQ, hB5⟩ := nd_five 10 10 HQ1.out.1 HQ1.out.2.1 HQ1.out.2.2.1 HQ1.out.2.2.2 HB1.out
   rw [← hw5]
   have HQ := Lib.hid HQ
   have HBQ := Lib.hid hB5.drew
   clear hw5 hB5 c0 c1 c2 c3 f0 f1 f2 f3
   have q0 : Boxed w5.drew W.heap.size 3 (.int .i64 0) := HQ.out.1
   have q1 : Boxed w5.drew (W.heap.size + 1) 23 (.slice none 0 0) := HQ.out.2.1
   have q2 : Boxed w5.drew (W.heap.size + 1 + 1) 23 (.slice none 0 0) := HQ.out.2.2.1
   have q3 : Boxed w5.drew (W.heap.size + 1 + 1 + 1) 26 (.int .i64 10) := HQ.out.2.2.2
   obtain ⟨w9, hw9, d0, d1, d2, d3, hB9⟩ := nd_err q0 q1 q2 q3 HBQ.out
   refine leaves_cons (f := 72) (args := #[.pointer (some ⟨W.heap.size + 1 + 1 + 1, 0, none⟩), .pointer (some ⟨W.heap.size, 0, none⟩), .pointer (some ⟨W.heap.size + 1, 0, none⟩), .pointer (some ⟨W.heap.size + 1 + 1, 0, none⟩)]) (by simp) (by simp [go_sem]) ?_
   refine (nextd_err _ _ _ _ 10 _ _ _ _ _ q0 q1 q2 q3 (by decide) (by omega) (by omega) (by omega)).mono ?_
   rintro e u' w'' ⟨rfl, rfl, h9⟩
   rw [← hw9] at h9
   subst h9
   clear hw9
   have HB9 := Lib.hid hB9
   clear q0 q1 q2 q3 hB9
   exact ⟨.tuple #[.int .i64 0, .slice none 0 0, .slice none 0 0, .int .i64 10], by unfold results; rw [hr]; go_simp, ⟨_, _, by rw [HD.out]; rfl, HB9.out, by rw [if_neg (by rw [HD.out]; exact (by decide))]; exact ⟨rfl, rfl⟩⟩⟩
  ·have hcut := HR.out.cutFrom HN.out (k := 1) (by omega)
   rw [show 1 * EB.k = 1 from rfl] at hcut
   have K1 := Lib.hid (KT _ (hcut.on hB4'))
   have hn1 : 1 ≤ c := by omega
   obtain ⟨er, u, kk⟩ := T
   simp only at K1 HT
   clear hN hA hn0 hb h8 hkd h0 hT0 KT hcut h8d hT hB4 hB4' hcell
   by_cases he : er = 0
   ·subst he
    simp only [if_true] at K1
    obtain ⟨hk1, hk2, hk3⟩ := take_ok (b := b.drop 1) (by rw [← HT.out])
    rw [← HT.out] at hk1 hk2 hk3
    simp only at hk1 hk2 hk3
    rw [List.length_drop, ← HN.out] at hk1
    obtain ⟨D, hD⟩ : ∃ D, D = (b.drop 1).drop kk := ⟨_, rfl⟩
    rw [← hD] at K1
    obtain ⟨L, hL⟩ : ∃ L, L = D.length := ⟨_, rfl⟩
    have hLN : L = N - 1 - kk := by rw [hL, hD, List.length_drop, List.length_drop, ← HN.out]
    have HDD := Lib.hid hD
    have HL := Lib.hid hL
    by_cases hu : 65535 < u
    ·have HD : Hid (nextV b = (11, 0, [], [])) := by
      show _ = _
      unfold nextV
      rw [if_neg HBL.out, ← HT.out, if_neg (by simp), if_pos hu]
     have q1 : (u : Int) > 65535 := by omega
     clear hD hL hLN
     go_enter_defers Tryz.func41, Tryz.ntmps41
     go_wp2_with fail
     rw [← hW4]
     clear hW4
     refine K1.out.mono ?_
     rintro e w1 ⟨r, rfl, hB, hr1⟩
     have HB1 : Hid (Below W.heap.size W w1) := HB4.out.trans (hB.mono HB4.out.size)
     have HQ1 := Lib.hid (And.intro (boxOn HQ4.out.1 hB) (And.intro (boxOn HQ4.out.2.1 hB) (And.intro (boxOn HQ4.out.2.2.1 hB) (boxOn HQ4.out.2.2.2 hB))))
     have HO1 := Lib.hid hr1
     obtain ⟨LA, lc, rfl, hlc, _⟩ := hr1.rd
     have c3 := HQ1.out.2.2.2.cell
     have f3 := HQ1.out.2.2.2.frozen
     have c0 := HQ1.out.1.cell
     have f0 := HQ1.out.1.frozen
     have c1 := HQ1.out.2.1.cell
     have f1 := HQ1.out.2.1.frozen
     have c2 := HQ1.out.2.2.1.cell
     have f2 := HQ1.out.2.2.1.frozen
     clear hB K1 hr1
     go_wp2_with fail
     obtain ⟨w5, hw5, HQ, hB5⟩ := nd_five 0 11 HQ1.out.1 HQ1.out.2.1 HQ1.out.2.2.1 HQ1.out.2.2.2 HB1.out
     rw [← hw5]
     have HQ := Lib.hid HQ
     have HBQ := Lib.hid hB5
     clear hw5 hB5 c0 c1 c2 c3 f0 f1 f2 f3
     have q0 : Boxed w5 W.heap.size 3 (.int .i64 0) := HQ.out.1
     have q1 : Boxed w5 (W.heap.size + 1) 23 (.slice none 0 0) := HQ.out.2.1
     have q2 : Boxed w5 (W.heap.size + 1 + 1) 23 (.slice none 0 0) := HQ.out.2.2.1
     have q3 : Boxed w5 (W.heap.size + 1 + 1 + 1) 26 (.int .i64 11) := HQ.out.2.2.2
     obtain ⟨w9, hw9, d0, d1, d2, d3, hB9⟩ := nd_err q0 q1 q2 q3 HBQ.out
     refine leaves_cons (f := 72) (args := #[.pointer (some ⟨W.heap.size + 1 + 1 + 1, 0, none⟩), .pointer (some ⟨W.heap.size, 0, none⟩), .pointer (some ⟨W.heap.size + 1, 0, none⟩), .pointer (some ⟨W.heap.size + 1 + 1, 0, none⟩)]) (by simp) (by simp [go_sem]) ?_
     refine (nextd_err _ _ _ _ 11 _ _ _ _ _ q0 q1 q2 q3 (by decide) (by omega) (by omega) (by omega)).mono ?_
     rintro e u' w'' ⟨rfl, rfl, h9⟩
     rw [← hw9] at h9
     subst h9
     clear hw9
     have HB9 := Lib.hid hB9
     clear q0 q1 q2 q3 hB9
     exact ⟨.tuple #[.int .i64 0, .slice none 0 0, .slice none 0 0, .int .i64 11], by unfold results; rw [hr]; go_simp, ⟨_, _, by rw [HD.out]; rfl, HB9.out, by rw [if_neg (by rw [HD.out]; exact (by decide))]; exact ⟨rfl, rfl⟩⟩⟩
    ·have q1 : ¬ (u : Int) > 65535 := by omega
     have hu2 : u ≤ 65535 := by omega
     by_cases hs : L < u + 4
     ·have HD : Hid (nextV b = (10, 0, [], [])) := by
       show _ = _
       unfold nextV
       rw [if_neg HBL.out, ← HT.out, if_neg (by simp), if_neg hu, if_pos (by rw [← hD, ← hL]; exact hs)]
      have q2 : (L : Int) < (u : Int) + 4 := by omega
      clear hD hL hLN hu
      go_enter_defers Tryz.func41, Tryz.ntmps41
      go_wp2_with fail
      rw [← hW4]
      clear hW4
      refine K1.out.mono ?_
      rintro e w1 ⟨r, rfl, hB, hr1⟩
      have HB1 : Hid (Below W.heap.size W w1) := HB4.out.trans (hB.mono HB4.out.size)
      have HQ1 := Lib.hid (And.intro (boxOn HQ4.out.1 hB) (And.intro (boxOn HQ4.out.2.1 hB) (And.intro (boxOn HQ4.out.2.2.1 hB) (boxOn HQ4.out.2.2.2 hB))))
      have HO1 := Lib.hid hr1
      obtain ⟨LA, lc, rfl, hlc, _⟩ := hr1.rd
      have c3 := HQ1.out.2.2.2.cell
      have f3 := HQ1.out.2.2.2.frozen
      have c0 := HQ1.out.1.cell
      have f0 := HQ1.out.1.frozen
      have c1 := HQ1.out.2.1.cell
      have f1 := HQ1.out.2.1.frozen
      have c2 := HQ1.out.2.2.1.cell
      have f2 := HQ1.out.2.2.1.frozen
      clear hB K1 hr1
      rw [← HL.out] at hlc ⊢
      go_wp2_with fail
      obtain ⟨w5, hw5, HQ, hB5⟩ := nd_five 0 10 HQ1.out.1 HQ1.out.2.1 HQ1.out.2.2.1 HQ1.out.2.2.2 HB1.out
      rw [← hw5]
      have HQ := Lib.hid HQ
      have HBQ := Lib.hid hB5
      clear hw5 hB5 c0 c1 c2 c3 f0 f1 f2 f3
      have q0 : Boxed w5 W.heap.size 3 (.int .i64 0) := HQ.out.1
      have q1 : Boxed w5 (W.heap.size + 1) 23 (.slice none 0 0) := HQ.out.2.1
      have q2 : Boxed w5 (W.heap.size + 1 + 1) 23 (.slice none 0 0) := HQ.out.2.2.1
      have q3 : Boxed w5 (W.heap.size + 1 + 1 + 1) 26 (.int .i64 10) := HQ.out.2.2.2
      obtain ⟨w9, hw9, d0, d1, d2, d3, hB9⟩ := nd_err q0 q1 q2 q3 HBQ.out
      refine leaves_cons (f := 72) (args := #[.pointer (some ⟨W.heap.size + 1 + 1 + 1, 0, none⟩), .pointer (some ⟨W.heap.size, 0, none⟩), .pointer (some ⟨W.heap.size + 1, 0, none⟩), .pointer (some ⟨W.heap.size + 1 + 1, 0, none⟩)]) (by simp) (by simp [go_sem]) ?_
      refine (nextd_err _ _ _ _ 10 _ _ _ _ _ q0 q1 q2 q3 (by decide) (by omega) (by omega) (by omega)).mono ?_
      rintro e u' w'' ⟨rfl, rfl, h9⟩
      rw [← hw9] at h9
      subst h9
      clear hw9
      have HB9 := Lib.hid hB9
      clear q0 q1 q2 q3 hB9
      exact ⟨.tuple #[.int .i64 0, .slice none 0 0, .slice none 0 0, .int .i64 10], by unfold results; rw [hr]; go_simp, ⟨_, _, by rw [HD.out]; rfl, HB9.out, by rw [if_neg (by rw [HD.out]; exact (by decide))]; exact ⟨rfl, rfl⟩⟩⟩
     ·have q2 : ¬ (L : Int) < (u : Int) + 4 := by omega
      clear hD hL hu
      go_enter_defers Tryz.func41, Tryz.ntmps41
      go_wp2_with fail
      rw [← hW4]
      clear hW4
      refine K1.out.mono ?_
      rintro e w1 ⟨r, rfl, hB, hr1⟩
      have HB1 : Hid (Below W.heap.size W w1) := HB4.out.trans (hB.mono HB4.out.size)
      have HQ1 := Lib.hid (And.intro (boxOn HQ4.out.1 hB) (And.intro (boxOn HQ4.out.2.1 hB) (And.intro (boxOn HQ4.out.2.2.1 hB) (boxOn HQ4.out.2.2.2 hB))))
      have HO1 := Lib.hid hr1
      obtain ⟨LA, lc, rfl, hlc, _⟩ := hr1.rd
      have c3 := HQ1.out.2.2.2.cell
      have f3 := HQ1.out.2.2.2.frozen
      have c0 := HQ1.out.1.cell
      have f0 := HQ1.out.1.frozen
      have c1 := HQ1.out.2.1.cell
      have f1 := HQ1.out.2.1.frozen
      have c2 := HQ1.out.2.2.1.cell
      have f2 := HQ1.out.2.2.1.frozen
      clear hB K1 hr1
      rw [← HL.out] at hlc ⊢
      obtain ⟨G, rfl, _, _⟩ := own_addr HO1.out (by rw [← HL.out]; omega)
      have q3 : (u : Int) + 4 ≤ (L : Int) := by omega
      have q4 : (u : Int) ≤ (lc : Int) := by omega
      have HLN := Lib.hid hLN
      have HQ3' : Hid (u + 4 ≤ L) := by show _ ≤ _; omega
      clear hLN
      have HO2 : Hid (OwnG EB 5 w1 W4.heap.size (.slice (some ⟨G, 0, none⟩) L lc) D) := by show OwnG _ _ _ _ _ _; have h := HO1.out; rw [← HL.out] at h; exact h
      clear HO1
      go_upto_region 11 with fail
      go_cut [6] from 31 to 39 (fun s6 wx => s6 = .int .u64 (u : Int) ∧ Hid (NxC W G u (L - (u + 4)) D wx))
      case first =>
       by_cases hcu : lc = u + 4
       ·have HCU := Lib.hid hcu
        subst hcu
        go_region
        go_wp2_with fail
        go_meet
        have hm0 : L - (u + 4) = 0 := by omega
        have hF := nx_made HQ1.out.1 HQ1.out.2.1 HQ1.out.2.2.1 HQ1.out.2.2.2 HB1.out HO2.out HL.out HQ3'.out (.inl ⟨rfl, rfl, rfl⟩)
        rw [hm0] at hF ⊢
        exact ⟨rfl, hF⟩
       ·have hcu2 : u + 4 ≠ lc := fun e => hcu e.symm
        have HCU := Lib.hid hcu
        go_region
        go_wp2_with fail
        go_meet
        exact ⟨rfl, nx_made HQ1.out.1 HQ1.out.2.1 HQ1.out.2.2.1 HQ1.out.2.2.2 HB1.out HO2.out HL.out HQ3'.out (.inr ⟨HCU.out, rfl, rfl⟩)⟩
      case rest =>
       obtain ⟨rfl, hNx⟩ := hcut
       obtain ⟨RA, rc, b0, b1, b2, b3, hbd, hrs, hBx⟩ := hNx.out
       obtain ⟨m, hm⟩ : ∃ m, m = L - (u + 4) := ⟨_, rfl⟩
       rw [← hm] at b2 hrs
       have hLN2 := HLN.out
       have hu4 := HQ3'.out
       have hnn : (N : Int) - (m : Int) = ((1 + kk + u + 4 : Nat) : Int) := by omega
       obtain ⟨nn, hnn2⟩ : ∃ n, n = 1 + kk + u + 4 := ⟨_, rfl⟩
       rw [← hnn2] at hnn
       obtain ⟨n4, hn4⟩ : ∃ n, n = 1 + kk + u := ⟨_, rfl⟩
       have hn4w : IntKind.i64.wrap ((nn : Int) - 4) = (n4 : Int) := by rw [show (nn : Int) - 4 = (n4 : Int) by omega]; exact IntWalk.i64_in _ (by omega)
       have hn4i : (nn : Int) - 4 = (n4 : Int) := by omega
       have hn4ww : IntKind.i64.wrap (n4 : Int) = (n4 : Int) := IntWalk.i64_in _ (by omega)
       have hnww : IntKind.i64.wrap (nn : Int) = (nn : Int) := IntWalk.i64_in _ (by omega)
       have hn4N : n4 ≤ N := by omega
       have hnnN : nn ≤ N := by omega
       have i5 : (n4 : Int) ≤ (c : Int) := by omega
       have i6 : (nn : Int) ≤ (c : Int) := by omega
       have i7 : (0 : Int) ≤ (nn : Int) := by omega
       have i8 : (0 : Int) ≤ (n4 : Int) := by omega
       have e0 := b0.cell
       have g0 := b0.frozen
       have e2 := b2.cell
       have hcx : wc.cell? ⟨g, o, none⟩ = some (.int .u8 (kd : Int)) := (hBx.cell hgW).trans HCE.out
       obtain ⟨w8, hw8⟩ : ∃ w, w = wc.setCell ⟨W.heap.size, 0, none⟩ (.int .i64 (kd : Int)) := ⟨_, rfl⟩
       have HB8 : Hid (Below W.heap.size W w8) := by rw [hw8]; exact hBx.setCell (Nat.le_refl _) _
       have HBX8 : Hid (Boxed w8 W.heap.size 3 (.int .i64 (kd : Int)) ∧ Boxed w8 (W.heap.size + 1) 23 (.slice (some ⟨G, 0, none⟩) u u) ∧ Boxed w8 (W.heap.size + 1 + 1) 23 (.slice RA m rc) ∧ Boxed w8 (W.heap.size + 1 + 1 + 1) 26 (.int .i64 0)) := by
        rw [hw8]
        exact ⟨b0.set _, boxSet b1 (by omega) _, boxSet b2 (by omega) _, boxSet b3 (by omega) _⟩
       have HBD8 : Hid (RdG EB w8 w8.heap.size (.slice (some ⟨G, 0, none⟩) u u) (D.take u)) := by rw [hw8]; exact hbd.setBox b0 (fun x z hz e => (by rw [e] at hz; simp [EB] at hz)) _
       have HRS8 : Hid (RdG EB w8 w8.heap.size (.slice RA m rc) (D.drop (u + 4))) := by rw [hw8]; exact hrs.setBox b0 (fun x z hz e => (by rw [e] at hz; simp [EB] at hz)) _
       have hb8 := HB8.out
       have h8b : ∀ n, ∀ c ∈ b.take n, c < 256 := fun n c hc => H8.out c (List.mem_of_mem_take hc)
       obtain ⟨q, hq⟩ : ∃ q, q = decide (sealV (b.take n4) = b.take nn) := ⟨_, rfl⟩
       have HQQ := Lib.hid hq
       have hlb4 : (b.take n4).length ≤ 10000000 := by rw [List.length_take, ← HN.out]; omega
       have HKC : Hid (∀ w', Below w8.heap.size w8 w' → Calls Tryz.prog 66 #[.slice (some ⟨g, o, none⟩) n4 c] w' fun e w'' => ∃ A3 n3 c3, e = .returned (.slice A3 n3 c3) ∧ OwnG EB 5 w'' w8.heap.size (.slice A3 n3 c3) (b.take n4) ∧ Below w8.heap.size w8 w'') := fun w' h => by
        have h1 : RdG EB w' w'.heap.size (.slice (some ⟨g, o, none⟩) n4 c) (b.take n4) := (HR.out.on (hb8.trans (h.mono hb8.size))).cutTo HN.out hn4N
        refine (bclone_walk _ _ w' h1 (by omega)).mono ?_
        rintro e w'' ⟨vA, h2, h3, h4⟩
        obtain ⟨A3, n3, c3, rfl⟩ := h3.sl
        exact ⟨A3, n3, c3, h2, h3.lower h.size, h.trans (h4.mono h.size)⟩
       have HKS : Hid (∀ w' vA, Below w8.heap.size w8 w' → OwnG EB 5 w' w8.heap.size vA (b.take n4) → Calls Tryz.prog 67 #[vA] w' fun e w'' => ∃ A3 n3 c3, e = .returned (.slice A3 n3 c3) ∧ OwnG EB 5 w'' w8.heap.size (.slice A3 n3 c3) (sealV (b.take n4)) ∧ Below w8.heap.size w8 w'') := fun w' vA h hO => by
        refine (seal_walk vA _ w8.heap.size w' (HTT.out.below (hb8.trans (h.mono hb8.size))) hO h.size (h8b n4) (by omega)).mono ?_
        rintro e w'' ⟨vS, h2, h3⟩
        obtain ⟨A3, n3, c3, rfl⟩ := h3.own.sl
        exact ⟨A3, n3, c3, h2, h3.own, hO.step h h.size h3.by_⟩
       have HKE : Hid (∀ w' vS, Below w8.heap.size w8 w' → OwnG EB 5 w' w8.heap.size vS (sealV (b.take n4)) → Calls Tryz.prog 74 #[vS, .slice (some ⟨g, o, none⟩) nn c] w' fun e w'' => e = .returned (.bool q) ∧ Below w8.heap.size w8 w'') := fun w' vS h hO => by
        have h1 : RdG EB w' w'.heap.size (.slice (some ⟨g, o, none⟩) nn c) (b.take nn) := (HR.out.on (hb8.trans (h.mono hb8.size))).cutTo HN.out hnnN
        refine (bequal_walk vS _ _ _ w' hO.rd h1 (by rw [sealV_len]; omega)).mono ?_
        rintro e w'' ⟨h2, h3⟩
        exact ⟨by rw [h2, hq], h.trans (h3.below.mono h.size)⟩
       have HN2 : Hid (nn = 1 + kk + u + 4 ∧ n4 = 1 + kk + u) := ⟨hnn2, hn4⟩
       have HM := Lib.hid hm
       clear hm hLN2 hu4 hnn2 hn4 hn4N hnnN b0 b1 b2 b3 hbd hrs hBx hNx hb8 h8b hq hlb4
       go_wp2_with fail
       rw [← hw8]
       clear hw8 e0 e2 g0 hcx
       go_region_held3 (fun _ => True) (trivial)
        (first
          | (go_at_call 66; refine (HKC.out _ (by repeat (first | assumption | exact Below.refl _ _ | refine Below.drew ?_))).mono ?_; rintro e wA ⟨A5, n5, c5, rfl, hOA, hBA⟩; have HOA := Lib.hid hOA; clear hOA)
          | (go_at_call 67; refine (HKS.out _ _ (by repeat (first | assumption | exact Below.refl _ _ | refine Below.drew ?_)) HOA.out).mono ?_; rintro e wB ⟨A6, n6, c6, rfl, hOS, hBB⟩; have HOS := Lib.hid hOS; clear hOS)
          | (go_at_call 74; refine (HKE.out _ _ (by repeat (first | assumption | exact Below.refl _ _ | refine Below.drew ?_)) HOS.out).mono ?_; rintro e wC ⟨rfl, hBC⟩))
       have HB9 : Hid (Below w8.heap.size w8 wC) := hBC
       obtain ⟨ev, hev⟩ : ∃ ev : Int, ev = if q then 0 else 50 := ⟨_, rfl⟩
       have hND : NxD W G u m kd 0 D wC := ⟨RA, rc, boxOn HBX8.out.1 hBC, boxOn HBX8.out.2.1 hBC, boxOn HBX8.out.2.2.1 hBC, boxOn HBX8.out.2.2.2 hBC, HBD8.out.on hBC, HRS8.out.on hBC, HB8.out.trans (hBC.mono HB8.out.size)⟩
       have HND := Lib.hid hND
       have HEV := Lib.hid hev
       clear hND hBC hev
       go_upto_if 59 with fail
       go_cut [6] from 60 to 64 (fun s6 wx => s6 = .int .u64 (u : Int) ∧ Hid (NxD W G u m kd ev D wx))
       case first =>
        have he := HEV.out
        cases q with
        | true =>
          have he2 : ev = 0 := by simpa using he
          have HE2 := Lib.hid he2
          clear he he2
          go_wp2_with fail
          go_meet
          exact ⟨rfl, by rw [HE2.out]; exact HND.out⟩
        | false =>
          have he2 : ev = 50 := by simpa using he
          have HE2 := Lib.hid he2
          obtain ⟨RA2, rc2, b0, b1, b2, b3, hbd, hrs, hBx⟩ := HND.out
          have c3 := b3.cell
          have f3 := b3.frozen
          have HN5 : Hid (NxD W G u m kd 50 D (wC.setCell ⟨W.heap.size + 1 + 1 + 1, 0, none⟩ (.int .i64 50))) :=
           ⟨RA2, rc2, boxSet b0 (by omega) _, boxSet b1 (by omega) _, boxSet b2 (by omega) _, b3.set _, hbd.setBox b3 (fun x => enc_not (fun n e => by cases e)) _, hrs.setBox b3 (fun x => enc_not (fun n e => by cases e)) _, hBx.setCell (by simp <;> omega) _⟩
          clear he he2 b0 b1 b2 b3 hbd hrs hBx
          go_wp2_with fail
          go_meet
          exact ⟨rfl, by rw [HE2.out]; exact HN5.out⟩
       case rest =>
        obtain ⟨rfl, hNd⟩ := hcut
        obtain ⟨RA2, rc2, b0, b1, b2, b3, hbd, hrs, hBx⟩ := hNd.out
        have k0 := b0.cell
        have k1 := b1.cell
        have k2 := b2.cell
        have k3 := b3.cell
        have hmL : m ≤ 10000000 := by have := HM.out; have := HLN.out; have := HNB.out; omega
        have HKR : Hid (Calls Tryz.prog 66 #[.slice RA2 m rc2] wc.drew fun e w' => ∃ A9 n9 c9, e = .returned (.slice A9 n9 c9) ∧ OwnG EB 5 w' wc.heap.size (.slice A9 n9 c9) (D.drop (u + 4)) ∧ Below wc.drew.heap.size wc.drew w') :=
         (bclone_walk _ _ wc.drew hrs (by rw [List.length_drop, ← HL.out]; have := HLN.out; have := HNB.out; omega)).mono fun e w' ⟨v9, h1, h2, h3⟩ => by
           obtain ⟨A9, n9, c9, rfl⟩ := h2.sl
           exact ⟨A9, n9, c9, h1, h2, h3⟩
        clear hNd hrs
        go_wp2_with fail
        refine wp_region_noPanic ?_
        refine wp_region_held_drew (S := fun w' => w'.cell? ⟨W.heap.size, 0, none⟩ = some (.int .i64 (kd : Int)) ∧ w'.cell? ⟨W.heap.size + 1, 0, none⟩ = some (.slice (some ⟨G, 0, none⟩) u u) ∧ w'.cell? ⟨W.heap.size + 1 + 1 + 1, 0, none⟩ = some (.int .i64 ev)) (by kernel_rfl) ?_ (fun hHeld => ?_)
        ·(try dsimp only)
         exact ⟨k0, k1, k3⟩
        refine takeW (i := 0) (v := ?_) rfl (by kernel_rfl) (by kernel_rfl) (by kernel_rfl) (fun _ _ _ h => h) (by rfl) ?_ (by assumption) ?_
        rotate_left
        ·(intro w hSw; (try dsimp only at hSw); go_simp; try with_reducible rfl)
        simp only [Act.put, sA, sZ, sS]
        refine takeW (i := 1) (v := ?_) rfl (by kernel_rfl) (by kernel_rfl) (by kernel_rfl) (fun _ _ _ h => h) (by rfl) ?_ (by assumption) ?_
        rotate_left
        ·(intro w hSw; (try dsimp only at hSw); go_simp; try with_reducible rfl)
        simp only [Act.put, sA, sZ, sS]
        refine takeW (i := 4) (v := ?_) rfl (by kernel_rfl) (by kernel_rfl) (by kernel_rfl) (fun _ _ _ h => h) (by rfl) ?_ (by assumption) ?_
        rotate_left
        ·(intro w hSw; (try dsimp only at hSw); go_simp; try with_reducible rfl)
        simp only [Act.put, sA, sZ, sS]
        refine takeC (i := 2) rfl (by kernel_rfl) (by rfl) (fun K hK => ?_)
        go_simp
        refine hK.out _ _ ?_ (fun hHeld => ?_)
        ·(try dsimp only)
         exact ⟨k0, k1, k3⟩
        clear hK K
        try simp only [Act.put, sA, sZ, sS]
        refine takeC (i := 3) rfl (by kernel_rfl) (by rfl) (fun K hK => ?_)
        go_simp
        refine (HKR.out).mono ?_
        rintro e w9 ⟨A9, n9, c9, rfl, hO9, hB9⟩
        have y0 := boxOnD b0 hB9
        have y1 := boxOnD b1 hB9
        have y2 := boxOnD b2 hB9
        have y3 := boxOnD b3 hB9
        have hbd9 : RdG EB w9 w9.heap.size (.slice (some ⟨G, 0, none⟩) u u) (D.take u) := RdG.on (w := wc.drew) hbd hB9
        obtain ⟨x1, x2, x3, x4, hx1, hx2, hx3, hx4, hS, t1, t2, t4, hbdX, hOX, hBX⟩ := nx_end y0 y1 y2 y3 hbd9 (hO9.lower hBx.size) (belowOnD hBx hB9)
        have hS1 := hS x1 (.inl rfl)
        have hS2 := hS x2 (.inr (.inl rfl))
        have hS3 := hS x3 (.inr (.inr (.inl rfl)))
        have hS4 := hS x4 (.inr (.inr (.inr rfl)))
        have z0 := y0.cell
        have z0f := y0.frozen
        have z1 := hS1.2.1.cell
        have z1f := hS1.2.1.frozen
        have z2 := t2.cell
        have z2f := t2.frozen
        have z3 := hS3.2.2.cell
        have z3f := hS3.2.2.frozen
        have HX := Lib.hid (And.intro hx1 (And.intro hx2 (And.intro hx3 hx4)))
        have HSS := Lib.hid (And.intro hS1 (And.intro hS2 (And.intro hS3 hS4)))
        have HSY := Lib.hid (And.intro y0 (And.intro y1 y3))
        have HT4 := Lib.hid t4
        have HEND := Lib.hid (And.intro hbdX (And.intro hOX hBX))
        clear hx1 hx2 hx3 hx4 hS hS1 hS2 hS3 hS4 t1 t2 t4 hbdX hOX hBX hbd9 hO9 y0 y1 y2 y3 hB9
        refine hK.out _ _ ?_ (fun hHeld => ?_)
        ·(try dsimp only)
         exact ⟨HSY.out.1.cell, HSY.out.2.1.cell, HSY.out.2.2.cell⟩
        clear hK K
        try simp only [Act.put, sA, sZ, sS]
        refine takeC (i := 5) rfl (by kernel_rfl) (by rfl) (fun K hK => ?_)
        go_simp
        rw [← HX.out.1]
        refine hK.out _ _ ?_ (fun hHeld => ?_)
        ·(try dsimp only)
         exact ⟨HSS.out.1.1.cell, HSS.out.1.2.1.cell, HSS.out.1.2.2.cell⟩
        clear hK K
        try simp only [Act.put, sA, sZ, sS]
        refine takeC (i := 6) rfl (by kernel_rfl) (by rfl) (fun K hK => ?_)
        go_simp
        rw [← HX.out.2.1]
        refine hK.out _ _ ?_ (fun hHeld => ?_)
        ·(try dsimp only)
         exact ⟨HSS.out.2.1.1.cell, HSS.out.2.1.2.1.cell, HSS.out.2.1.2.2.cell⟩
        clear hK K
        try simp only [Act.put, sA, sZ, sS]
        refine takeC (i := 7) rfl (by kernel_rfl) (by rfl) (fun K hK => ?_)
        go_simp
        rw [← HX.out.2.2.1]
        refine hK.out _ _ ?_ (fun hHeld => ?_)
        ·(try dsimp only)
         exact ⟨HSS.out.2.2.1.1.cell, HSS.out.2.2.1.2.1.cell, HSS.out.2.2.1.2.2.cell⟩
        clear hK K
        try simp only [Act.put, sA, sZ, sS]
        refine takeC (i := 8) rfl (by kernel_rfl) (by rfl) (fun K hK => ?_)
        go_simp
        rw [← HX.out.2.2.2]
        refine hK.out _ _ ?_ (fun hHeld => ?_)
        ·(try dsimp only)
         exact ⟨HSS.out.2.2.2.1.cell, HSS.out.2.2.2.2.1.cell, HSS.out.2.2.2.2.2.cell⟩
        clear hK K
        try simp only [Act.put, sA, sZ, sS]
        refine wpAnyH_done (by kernel_rfl) ?_ _
        refine NoPanic.normal ?_
        go_wp2_with fail
        have hcond : sealV (b.take (1 + kk + u)) = b.take (1 + kk + u + 4) ↔ q = true := by rw [HQQ.out, decide_eq_true_eq, HN2.out.1, HN2.out.2]
        have hnx : nextV b = if q = true then (0, kd, D.take u, D.drop (u + 4)) else (50, 0, [], []) := by
         unfold nextV
         rw [if_neg HBL.out, ← HT.out, if_neg (by simp), if_neg (show ¬ 65535 < u by omega), if_neg (by rw [← HDD.out, ← HL.out]; have := HQ3'.out; omega), ← HDD.out, ← HKD.out]
         simp only [hcond]
        have HNX := Lib.hid hnx
        clear hnx hcond
        cases q with
        | true =>
          have he2 : ev = 0 := by simpa using HEV.out
          subst he2
          have HD : Hid (nextV b = (0, kd, D.take u, D.drop (u + 4))) := by show _ = _; rw [HNX.out, if_pos rfl]
          have d0 := HSS.out.2.2.2.1.cell
          have d1 := HSS.out.2.2.2.2.1.cell
          have d2 := HT4.out.cell
          have d3 := HSS.out.2.2.2.2.2.cell
          refine leaves_cons (f := 72) (args := #[.pointer (some ⟨W.heap.size + 1 + 1 + 1, 0, none⟩), .pointer (some ⟨W.heap.size, 0, none⟩), .pointer (some ⟨W.heap.size + 1, 0, none⟩), .pointer (some ⟨W.heap.size + 1 + 1, 0, none⟩)]) (by simp) (by simp [go_sem]) ?_
          refine (nextd_idle _ _ _ _ _ _ d3).mono ?_
          rintro e u' w'' ⟨rfl, rfl, rfl⟩
          exact ⟨.tuple #[.int .i64 (kd : Int), .slice (some ⟨G, 0, none⟩) u u, .slice A9 n9 c9, .int .i64 0], by unfold results; rw [hr]; go_simp, ⟨_, _, by rw [HD.out], HEND.out.2.2, by rw [if_pos (by rw [HD.out]), HD.out]; exact ⟨HEND.out.1, HEND.out.2.1⟩⟩⟩
        | false =>
          have he2 : ev = 50 := by simpa using HEV.out
          subst he2
          have HD : Hid (nextV b = (50, 0, [], [])) := by show _ = _; rw [HNX.out, if_neg (by simp)]
          have q0 : Boxed x4 W.heap.size 3 (.int .i64 (kd : Int)) := HSS.out.2.2.2.1
          have q1 : Boxed x4 (W.heap.size + 1) 23 (.slice (some ⟨G, 0, none⟩) u u) := HSS.out.2.2.2.2.1
          have q2 : Boxed x4 (W.heap.size + 1 + 1) 23 (.slice A9 n9 c9) := HT4.out
          have q3 : Boxed x4 (W.heap.size + 1 + 1 + 1) 26 (.int .i64 50) := HSS.out.2.2.2.2.2
          obtain ⟨w9, hw9, d0, d1, d2, d3, hB9⟩ := nd_err q0 q1 q2 q3 HEND.out.2.2
          refine leaves_cons (f := 72) (args := #[.pointer (some ⟨W.heap.size + 1 + 1 + 1, 0, none⟩), .pointer (some ⟨W.heap.size, 0, none⟩), .pointer (some ⟨W.heap.size + 1, 0, none⟩), .pointer (some ⟨W.heap.size + 1 + 1, 0, none⟩)]) (by simp) (by simp [go_sem]) ?_
          refine (nextd_err _ _ _ _ 50 _ _ _ _ _ q0 q1 q2 q3 (by decide) (by omega) (by omega) (by omega)).mono ?_
          rintro e u' w'' ⟨rfl, rfl, h9⟩
          rw [← hw9] at h9
          subst h9
          clear hw9
          have HB9 := Lib.hid hB9
          clear q0 q1 q2 q3 hB9
          exact ⟨.tuple #[.int .i64 0, .slice none 0 0, .slice none 0 0, .int .i64 50], by unfold results; rw [hr]; go_simp, ⟨_, _, by rw [HD.out]; rfl, HB9.out, by rw [if_neg (by rw [HD.out]; exact (by decide))]; exact ⟨rfl, rfl⟩⟩⟩

   ·have HD : Hid (nextV b = (er, 0, [], [])) := by
     show _ = _
     unfold nextV
     rw [if_neg HBL.out, ← HT.out, if_pos he]
    have g1 : (er != 0) = true := by simp [he]
    have HE := Lib.hid he
    rw [if_neg he] at K1
    clear he
    go_enter_defers Tryz.func41, Tryz.ntmps41
    go_wp2_with fail
    rw [← hW4]
    clear hW4
    refine K1.out.mono ?_
    rintro e w1 ⟨r, rfl, hB, hr1⟩
    rw [if_neg HE.out] at hr1
    subst hr1
    have HB1 : Hid (Below W.heap.size W w1) := HB4.out.trans (hB.mono HB4.out.size)
    have HQ1 := Lib.hid (And.intro (boxOn HQ4.out.1 hB) (And.intro (boxOn HQ4.out.2.1 hB) (And.intro (boxOn HQ4.out.2.2.1 hB) (boxOn HQ4.out.2.2.2 hB))))
    have c3 := HQ1.out.2.2.2.cell
    have f3 := HQ1.out.2.2.2.frozen
    have c0 := HQ1.out.1.cell
    have f0 := HQ1.out.1.frozen
    have c1 := HQ1.out.2.1.cell
    have f1 := HQ1.out.2.1.frozen
    have c2 := HQ1.out.2.2.1.cell
    have f2 := HQ1.out.2.2.1.frozen
    clear hB K1
    go_wp2_with fail
    go_region
    go_wp2_with fail
    obtain ⟨w5, hw5, HQ, hB5⟩ := nd_five er er HQ1.out.1 HQ1.out.2.1 HQ1.out.2.2.1 HQ1.out.2.2.2 HB1.out
    rw [← hw5]
    have HQ := Lib.hid HQ
    have HBQ := Lib.hid hB5.drew
    clear hw5 hB5 c0 c1 c2 c3 f0 f1 f2 f3
    have q0 : Boxed w5.drew W.heap.size 3 (.int .i64 0) := HQ.out.1
    have q1 : Boxed w5.drew (W.heap.size + 1) 23 (.slice none 0 0) := HQ.out.2.1
    have q2 : Boxed w5.drew (W.heap.size + 1 + 1) 23 (.slice none 0 0) := HQ.out.2.2.1
    have q3 : Boxed w5.drew (W.heap.size + 1 + 1 + 1) 26 (.int .i64 er) := HQ.out.2.2.2
    obtain ⟨w9, hw9, d0, d1, d2, d3, hB9⟩ := nd_err q0 q1 q2 q3 HBQ.out
    refine leaves_cons (f := 72) (args := #[.pointer (some ⟨W.heap.size + 1 + 1 + 1, 0, none⟩), .pointer (some ⟨W.heap.size, 0, none⟩), .pointer (some ⟨W.heap.size + 1, 0, none⟩), .pointer (some ⟨W.heap.size + 1 + 1, 0, none⟩)]) (by simp) (by simp [go_sem]) ?_
    refine (nextd_err _ _ _ _ er _ _ _ _ _ q0 q1 q2 q3 HE.out (by omega) (by omega) (by omega)).mono ?_
    rintro e u' w'' ⟨rfl, rfl, h9⟩
    rw [← hw9] at h9
    subst h9
    clear hw9
    have HB9 := Lib.hid hB9
    clear q0 q1 q2 q3 hB9
    exact ⟨.tuple #[.int .i64 0, .slice none 0 0, .slice none 0 0, .int .i64 er], by unfold results; rw [hr]; go_simp, ⟨_, _, by rw [HD.out]; rfl, HB9.out, by rw [if_neg (by rw [HD.out]; exact HE.out)]; exact ⟨rfl, rfl⟩⟩⟩
end Go.Proofs.YtnkelahimiipjaaGreatDoor
