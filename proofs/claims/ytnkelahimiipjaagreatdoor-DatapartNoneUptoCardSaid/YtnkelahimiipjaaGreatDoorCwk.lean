/-
 varint: TakeAll.
-/
import Derived.Test.YtnkelahimiipjaaGreatDoorCqk
import Derived.Test.YtnkelahimiipjaaGreatDoorHbk
namespace Go.Proofs.YtnkelahimiipjaaGreatDoor
open Go.RowKit Go.Sort
attribute [local go_sem] Oper.semAt_some
theorem KpT.belowD {kt : TypeId → Bool} {Z : Nat} {A B : World} (h : Below A.drew.heap.size A.drew B) (hz : Z ≤ A.heap.size) : KpT kt Z A B :=
 ⟨(Below.refl Z A).drew.trans (h.mono hz), fun k _ hk _ => (h.block k (Array.getElem?_eq_some_iff.1 hk).1).trans hk⟩
structure TkI (W : World) (bv : Value) (n : Nat) (b : List Nat) (k : Nat) (W1 : World) : Prop where
 out : ∃ ov, Boxed W1 (W.heap.size + 1 + 1 + 1 + 1 + 1) 73 ov ∧ OwnG EI 2 W1 W.heap.size ov (takesV k b).2.1
 ok : (takesV k b).1 = 0
 lt : k < n
 b : Boxed W1 W.heap.size 23 bv
 n : Boxed W1 (W.heap.size + 1) 3 (.int .i64 (n : Int))
 r1 : Boxed W1 (W.heap.size + 1 + 1) 73 (.slice none 0 0)
 r2 : Boxed W1 (W.heap.size + 1 + 1 + 1) 23 (.slice none 0 0)
 r3 : Boxed W1 (W.heap.size + 1 + 1 + 1 + 1) 26 (.int .i64 0)
 below : Below W.heap.size W W1
theorem TkI.putLoop {W A : World} {bv : Value} {n k l : Nat} {b : List Nat} {r : Loop} (h : TkI W bv n b k A) (hl : A.heap[l]? = some (.loop r)) (hz : W.heap.size ≤ l) (o : Obj) : TkI W bv n b k (A.putObj l o) := by
 obtain ⟨⟨ov, h1, h2⟩, h3, h4, h5, h6, h7, h8, h9, h10⟩ := h
 exact ⟨⟨ov, boxPutLoop h1 hl o, h2.putO o hl rfl⟩, h3, h4, boxPutLoop h5 hl o, boxPutLoop h6 hl o, boxPutLoop h7 hl o, boxPutLoop h8 hl o, boxPutLoop h9 hl o, belowPut h10 hz o⟩
theorem TkI.on {W A A' : World} {bv : Value} {n k : Nat} {b : List Nat} (h : TkI W bv n b k A) (hB : Below A.heap.size A A') : TkI W bv n b k A' := by
 obtain ⟨⟨ov, h1, h2⟩, h3, h4, h5, h6, h7, h8, h9, h10⟩ := h
 exact ⟨⟨ov, boxOn h1 hB, h2.below hB⟩, h3, h4, boxOn h5 hB, boxOn h6 hB, boxOn h7 hB, boxOn h8 hB, boxOn h9 hB, h10.trans (hB.mono h10.size)⟩
def TkR (W : World) (n : Nat) (b : List Nat) (xv rv : Value) (er : Int) (W1 : World) : Prop :=
 er = (takesV n b).1 ∧ Below W.heap.size W W1 ∧ if (takesV n b).1 = 0 then OwnG EI 2 W1 W.heap.size xv (takesV n b).2.1 ∧ OwnG EB 5 W1 W.heap.size rv (takesV n b).2.2 else xv = .slice none 0 0 ∧ rv = .slice none 0 0
def TkX (W : World) (n : Nat) (b : List Nat) (W1 : World) : Prop :=
 ∃ xv rv er, Boxed W1 (W.heap.size + 1 + 1) 73 xv ∧ Boxed W1 (W.heap.size + 1 + 1 + 1) 23 rv ∧ Boxed W1 (W.heap.size + 1 + 1 + 1 + 1) 26 (.int .i64 er) ∧ TkR W n b xv rv er W1
theorem TkX.put {W A : World} {n l : Nat} {b : List Nat} {o0 : Obj} (h : TkX W n b A) (hl : A.heap[l]? = some o0) (ho : o0.isCells = false) (hz : W.heap.size ≤ l) (o : Obj) : TkX W n b (A.putObj l o) := by
 obtain ⟨xv, rv, er, h1, h2, h3, h4, h5, h6⟩ := h
 refine ⟨xv, rv, er, boxPut h1 hl ho o, boxPut h2 hl ho o, boxPut h3 hl ho o, h4, belowPut h5 hz o, ?_⟩
 split
 case isTrue e => rw [if_pos e] at h6; exact ⟨h6.1.putO o hl ho, h6.2.putO o hl ho⟩
 case isFalse e => rw [if_neg e] at h6; exact h6
theorem TkI.push {W A A' : World} {bv ov v' : Value} {n k : Nat} {b : List Nat} {L : List Int} {z : Int} {tmp : Obj} (h : TkI W bv n b k A) (o1 : Boxed A (W.heap.size + 1 + 1 + 1 + 1 + 1) 73 ov) (o2 : OwnG EI 2 A W.heap.size ov L)
  (hown : OwnG EI 2 A' W.heap.size v' (L ++ [z])) (hg : (A.alloc tmp).grownBy A' ov.ownBlock) (hok : (takesV (k + 1) b).1 = 0) (hL : (takesV (k + 1) b).2.1 = L ++ [z]) :
  Boxed A' (W.heap.size + 1 + 1 + 1 + 1 + 1) 73 ov ∧ (∃ w9, w9 = A'.setCell ⟨W.heap.size + 1 + 1 + 1 + 1 + 1, 0, none⟩ v' ∧ KpT ktN W.heap.size A w9 ∧ Boxed w9 (W.heap.size + 1 + 1 + 1 + 1 + 1) 73 v' ∧ OwnG EI 2 w9 W.heap.size v' (L ++ [z]) ∧
   Boxed w9 W.heap.size 23 bv ∧ Boxed w9 (W.heap.size + 1) 3 (.int .i64 (n : Int)) ∧ Boxed w9 (W.heap.size + 1 + 1) 73 (.slice none 0 0) ∧ Boxed w9 (W.heap.size + 1 + 1 + 1) 23 (.slice none 0 0) ∧ Boxed w9 (W.heap.size + 1 + 1 + 1 + 1) 26 (.int .i64 0) ∧ Below W.heap.size W w9 ∧ (k + 1 < n → TkI W bv n b (k + 1) w9)) := by
 obtain ⟨_, h3, h4, h5, h6, h7, h8, h9, h10⟩ := h
 have hz := h10.size
 have b5 := boxGrown (o1.alloc tmp) hg (o2.alloc tmp) (by decide)
 have c0 := boxGrown (h5.alloc tmp) hg (o2.alloc tmp) (by decide)
 have c1 := boxGrown (h6.alloc tmp) hg (o2.alloc tmp) (by decide)
 have c2 := boxGrown (h7.alloc tmp) hg (o2.alloc tmp) (by decide)
 have c3 := boxGrown (h8.alloc tmp) hg (o2.alloc tmp) (by decide)
 have c4 := boxGrown (h9.alloc tmp) hg (o2.alloc tmp) (by decide)
 have hk1 : KpT ktN W.heap.size A (A.alloc tmp) := KpT.below ((Below.refl _ _).alloc (Nat.le_refl _) _) hz
 have hk2 : KpT ktN W.heap.size (A.alloc tmp) A' := KpT.grown hg (by simp; omega) (fun k e => by
  obtain ⟨q1, c, z, q2⟩ := (o2.alloc tmp).cellsAt k e
  exact ⟨q1, c, _, z, q2, rfl⟩)
 have hk3 : KpT ktN W.heap.size A' (A'.setCell ⟨W.heap.size + 1 + 1 + 1 + 1 + 1, 0, none⟩ v') := KpT.setCell (e := 73) b5 rfl (by omega) _ _
 have hkk := (hk1.trans hk2).trans hk3
 have d0 := boxSet c0 (B' := W.heap.size + 1 + 1 + 1 + 1 + 1) (by omega) v'
 have d1 := boxSet c1 (B' := W.heap.size + 1 + 1 + 1 + 1 + 1) (by omega) v'
 have d2 := boxSet c2 (B' := W.heap.size + 1 + 1 + 1 + 1 + 1) (by omega) v'
 have d3 := boxSet c3 (B' := W.heap.size + 1 + 1 + 1 + 1 + 1) (by omega) v'
 have d4 := boxSet c4 (B' := W.heap.size + 1 + 1 + 1 + 1 + 1) (by omega) v'
 have d5 := b5.set v'
 have ho := hown.set b5 (by decide) v'
 have hb := h10.trans hkk.1
 exact ⟨b5, _, rfl, hkk, d5, ho, d0, d1, d2, d3, d4, hb, fun hlt => ⟨⟨_, d5, by rw [hL]; exact ho⟩, hok, hlt, d0, d1, d2, d3, d4, hb⟩⟩
theorem TkX.on {W A A' : World} {n : Nat} {b : List Nat} (h : TkX W n b A) (hB : Below A.heap.size A A') : TkX W n b A' := by
 obtain ⟨xv, rv, er, h1, h2, h3, h4, h5, h6⟩ := h
 refine ⟨xv, rv, er, boxOn h1 hB, boxOn h2 hB, boxOn h3 hB, h4, h5.trans (hB.mono h5.size), ?_⟩
 split
 case isTrue e => rw [if_pos e] at h6; exact ⟨h6.1.below hB, h6.2.below hB⟩
 case isFalse e => rw [if_neg e] at h6; exact h6
theorem tk_fin {W w8 : World} {n : Nat} {b : List Nat} {xv rv x1 x2 x3 : Value} {er : Int} (b1 : Boxed w8 (W.heap.size + 1 + 1) 73 x1) (b2 : Boxed w8 (W.heap.size + 1 + 1 + 1) 23 x2) (b3 : Boxed w8 (W.heap.size + 1 + 1 + 1 + 1) 26 x3) (hR : TkR W n b xv rv er w8) :
  KpT (fun _ => true) W.heap.size w8 (((w8.setCell ⟨W.heap.size + 1 + 1, 0, none⟩ xv).setCell ⟨W.heap.size + 1 + 1 + 1, 0, none⟩ rv).setCell ⟨W.heap.size + 1 + 1 + 1 + 1, 0, none⟩ (.int .i64 er)) ∧
  TkX W n b (((w8.setCell ⟨W.heap.size + 1 + 1, 0, none⟩ xv).setCell ⟨W.heap.size + 1 + 1 + 1, 0, none⟩ rv).setCell ⟨W.heap.size + 1 + 1 + 1 + 1, 0, none⟩ (.int .i64 er)) := by
 have s1 := b1.set xv
 have t2 := boxSet b2 (B' := W.heap.size + 1 + 1) (by omega) xv
 have t3 := boxSet b3 (B' := W.heap.size + 1 + 1) (by omega) xv
 have u3 := boxSet t3 (B' := W.heap.size + 1 + 1 + 1) (by omega) rv
 obtain ⟨h1, h2, h3⟩ := hR
 refine ⟨((KpT.setCell (e := 73) b1 rfl (by omega) _ _).trans (KpT.setCell (e := 23) t2 rfl (by omega) _ _)).trans (KpT.setCell (e := 26) u3 rfl (by omega) _ _), _, _, _, boxSet (boxSet s1 (by omega) _) (by omega) _, boxSet (t2.set _) (by omega) _, u3.set _, h1, ((h2.setCell (by simp <;> omega) _).setCell (by simp <;> omega) _).setCell (by simp <;> omega) _, ?_⟩
 split
 case isTrue e => rw [if_pos e] at h3; exact ⟨((h3.1.set b1 (by decide) _).set t2 (by decide) _).set u3 (by decide) _, ((h3.2.set b1 (by decide) _).set t2 (by decide) _).set u3 (by decide) _⟩
 case isFalse e => rw [if_neg e] at h3; exact h3
set_option maxRecDepth 100000 in
set_option maxHeartbeats 1000000 in
theorem numbers_call (A : Option Addr) (n c : Nat) (W : World) : Calls Tryz.prog 104 #[.slice A n c] W fun e w' => e = .returned (.func (.func 119) #[] #[.pointer (some ⟨W.heap.size, 0, none⟩)]) ∧ w' = W.alloc (.cells #[.slice A n c] 23) := by
 have hmf : ∀ (fn : Fn) (first cap : Array Value) (w : World), (Instr.makeFunc fn first cap).run Tryz.prog w = .ok (.func fn first cap) w := fun _ _ _ _ => rfl
 go_enter Tryz.func104, Tryz.ntmps104
 go_wp2_with fail
 go_ret
 exact ⟨rfl, rfl⟩
set_option maxRecDepth 100000 in
set_option maxHeartbeats 4000000 in
theorem takeAll_walk (v : Value) (b : List Nat) (n : Nat) (W : World) (hR : RdG EB W W.heap.size v b) (hF : Flat v) (h8 : ∀ c ∈ b, c < 256) (hb : b.length ≤ 1000000000) (hn : n ≤ 1048576) :
  Calls Tryz.prog 77 #[v, .int .i64 (n : Int)] W fun e w' => ∃ xv rv er, e = .returned (.tuple #[xv, rv, .int .i64 er]) ∧ TkR W n b xv rv er w' := by
 have hr : Tryz.f77.results = #[.cell 4 73, .cell 5 23, .cell 6 26] := by kernel_rfl
 have hmf : ∀ (fn : Fn) (first cap : Array Value) (w : World), (Instr.makeFunc fn first cap).run Tryz.prog w = .ok (.func fn first cap) w := fun _ _ _ _ => rfl
 refine (callsIn_wide (n := 20)).1 ?_
 have hfN : Fence.wide.fn 104 := trivial
 have hfC : Fence.wide.fn 66 := trivial
 have g1 : ¬ (n : Int) < 0 := by omega
 have g2 : ¬ (n : Int) > 1048576 := by omega
 obtain ⟨A, c, rfl, hc, hn0, hA⟩ := id hR
 obtain ⟨N, hN⟩ : ∃ N, N = b.length := ⟨_, rfl⟩
 rw [← hN] at hc hb hR hF ⊢
 have HN := Lib.hid hN
 have HR := Lib.hid hR
 have HF := Lib.hid hF
 have H8 := Lib.hid h8
 clear hA hn0 hR hF h8 hN
 refine callsIn_of_wp_marks Tryz.func77 rfl trivial ?_ rfl
 simp only [Tryz.ntmps77, List.size_toArray, List.length_cons, List.length_nil, Nat.reduceAdd, Nat.reduceSub, Array.replicate_succ, Array.replicate_zero, List.push_toArray, List.append_toArray, List.nil_append, List.cons_append]
 by_cases h0 : n = 0
 ·subst h0
  have KC : Hid (∀ w, Below W.heap.size W w → CallsIn Fence.wide 19 Tryz.prog 66 #[.slice A N c] w fun e w' => ∃ v', e = .returned v' ∧ OwnG EB 5 w' w.heap.size v' b ∧ Below w.heap.size w w') := fun w hw => callsIn_wide.2 (bclone_walk _ b w (HR.out.on hw) (by rw [← HN.out]; omega))
  gi_wp2_with fail
  have hB1 : Below W.heap.size W (((((W.alloc (.cells #[.slice A N c] 23)).alloc (.cells #[.int .i64 0] 3)).alloc (.cells #[.slice none 0 0] 73)).alloc (.cells #[.slice none 0 0] 23)).alloc (.cells #[.int .i64 0] 26)) :=
   (((((Below.refl _ W).alloc (Nat.le_refl _) _).alloc (by simp) _).alloc (by simp <;> omega) _).alloc (by simp <;> omega) _).alloc (by simp <;> omega) _
  refine (KC.out _ hB1).mono ?_
  rintro e w1 ⟨v1, rfl, hO, hB⟩
  have HO : Hid (OwnG EB 5 w1 W.heap.size v1 b) := hO.lower (by simp <;> omega)
  have HB1 : Hid (Below W.heap.size W w1) := hB1.trans (hB.mono (by simp <;> omega))
  have q1 : Boxed w1 (W.heap.size + 1 + 1) 73 (.slice none 0 0) := boxOn (((boxNew _ _ _ (by simp)).alloc _).alloc _) hB
  have q2 : Boxed w1 (W.heap.size + 1 + 1 + 1) 23 (.slice none 0 0) := boxOn ((boxNew _ _ _ (by simp)).alloc _) hB
  have q3 : Boxed w1 (W.heap.size + 1 + 1 + 1 + 1) 26 (.int .i64 0) := boxOn (boxNew _ _ _ (by simp)) hB
  have hc2 := q1.cell
  have hc3 := q2.cell
  have hc4 := q3.cell
  have hf2 := q1.frozen
  have hf3 := q2.frozen
  have hf4 := q3.frozen
  have HQ := Lib.hid (And.intro q1 (And.intro q2 q3))
  obtain ⟨A1, c1, rfl, _⟩ := hO.rd
  clear q1 q2 q3
  clear hO hB hB1 KC
  gi_wp2_with fail
  have HX := Lib.hid (tk_fin (n := 0) (b := b) (xv := .slice none 0 0) (rv := .slice A1 b.length c1) (er := 0) HQ.out.1 HQ.out.2.1 HQ.out.2.2 ⟨rfl, HB1.out, by
   show if (0 : Int) = 0 then _ else _
   rw [if_pos rfl]; exact ⟨OwnG.nil _ _, HO.out⟩⟩).2
  obtain ⟨xv, rv, er, b1, b2, b3, hRR⟩ := HX.out
  have d1 := b1.cell
  have d2 := b2.cell
  have d3 := b3.cell
  exact ⟨.tuple #[xv, rv, .int .i64 er], by unfold results; rw [hr]; go_simp, xv, rv, er, rfl, hRR⟩
 ·have g3 : ((n : Int) == 0) = false := by simp; omega
  have KN : ∀ w, CallsIn Fence.wide 19 Tryz.prog 104 #[.slice A N c] w fun e w' => e = .returned (.func (.func 119) #[] #[.pointer (some ⟨w.heap.size, 0, none⟩)]) ∧ w' = w.alloc (.cells #[.slice A N c] 23) := fun w => callsIn_wide.2 (numbers_call A N c w)
  gi_wp2_with fail
  refine (KN _).mono ?_
  rintro e w1 ⟨rfl, hw1⟩
  have hB6 : Below W.heap.size W ((((((W.alloc (.cells #[.slice A N c] 23)).alloc (.cells #[.int .i64 (n : Int)] 3)).alloc (.cells #[.slice none 0 0] 73)).alloc (.cells #[.slice none 0 0] 23)).alloc (.cells #[.int .i64 0] 26)).alloc (.cells #[.slice none 0 0] 73)) :=
   ((((((Below.refl _ W).alloc (Nat.le_refl _) _).alloc (by simp) _).alloc (by simp <;> omega) _).alloc (by simp <;> omega) _).alloc (by simp <;> omega) _).alloc (by simp <;> omega) _
  have hB1 : Below W.heap.size W w1 := by rw [hw1]; exact hB6.alloc (by simp <;> omega) _
  have hsz : w1.heap.size = W.heap.size + 7 := by rw [hw1]; simp
  have HI0 : Hid (TkI W (.slice A N c) n b 0 w1) := by
   rw [hw1]
   exact ⟨⟨.slice none 0 0, (boxNew _ _ _ (by simp)).alloc _, OwnG.nil _ _⟩, rfl, by omega, (((((((boxNew _ _ _ rfl).alloc _).alloc _).alloc _).alloc _).alloc _).alloc _), ((((((boxNew _ _ _ (by simp)).alloc _).alloc _).alloc _).alloc _).alloc _), (((((boxNew _ _ _ (by simp)).alloc _).alloc _).alloc _).alloc _), ((((boxNew _ _ _ (by simp)).alloc _).alloc _).alloc _), (((boxNew _ _ _ (by simp)).alloc _).alloc _), hB6.alloc (by simp <;> omega) _⟩
  have hBb : w1.heap[W.heap.size + 1 + 1 + 1 + 1 + 1 + 1]? = some (.cells #[.slice A N c] 23 (0, 0)) := by
   rw [hw1]; exact boxNew _ _ _ (by simp)
  clear hw1 hB6
  gi_wp2_with fail
  refine range_x (kt := ktN) (Z := W.heap.size) (N := b.length + 1) (F := Fence.wide) (n := 20) rfl (by omega) (gf := 119) (lb := #[.pointer (some ⟨W.heap.size + 1 + 1 + 1 + 1 + 1 + 1, 0, none⟩)]) (by simp [Act.eval]) trivial (enters_of Tryz.func119 (by kernel_rfl) rfl) (encs := encN) (New := NewN b) (S := fun xs => (takesV xs.length b).1 ≠ 0) (Sp := fun _ => True) (w0 := w1) (by omega)
   (iter_numbers W.heap.size 19 _ (.slice A N c) b w1 (by omega) hBb (by omega) ((HR.out).below hB1) HF.out H8.out (by rw [← HN.out]; exact hb)) (Below.refl _ _) (fun _ => rfl) (fun _ _ _ _ _ _ h _ => h)
   (fun pre W1 => TkI W (.slice A N c) n b pre.length W1) (fun _ W1 => TkX W n b W1) ?hI ?hIx ?h0 (fun x => { tmps := #[.slice A N c, .int .i64 (n : Int), .pointer (some ⟨W.heap.size, 0, none⟩), .pointer (some ⟨W.heap.size + 1, 0, none⟩), .pointer (some ⟨W.heap.size + 1 + 1, 0, none⟩), .pointer (some ⟨W.heap.size + 1 + 1 + 1, 0, none⟩), .pointer (some ⟨W.heap.size + 1 + 1 + 1 + 1, 0, none⟩), .pointer (some ⟨W.heap.size + 1 + 1 + 1 + 1 + 1, 0, none⟩), .int .i64 x.1, .int .i64 x.2, .int .i64 (n : Int), .bool false, .bool false, .int .i64 (n : Int), .bool false, .bool false, .int .i64 (n : Int), .bool false, undef, undef, .slice A N c, .func (.func 119) #[] #[.pointer (some ⟨W.heap.size + 1 + 1 + 1 + 1 + 1 + 1, 0, none⟩)], .int .i64 x.1, .int .i64 x.2, undef, undef, undef, undef, undef, undef, undef, undef, undef, undef, undef, undef, undef, undef, undef, undef, undef], defers := [] }) ?assign ?body ?done ?stop
  case hI => intro s A1 l r o h hl hr1; exact h.putLoop hr1 (by omega) o
  case hIx => intro s A1 l r o h hl hr1; exact h.put hr1 rfl (by omega) o
  case h0 => intro B hB; exact HI0.out.on hB
  case assign =>
   intro l x W9 K hK
   dsimp only [encN]
   gi_wp2
   exact hK
  case body =>
   rintro l pre x W0 Wb hl hlW hI hpl hbel ⟨hok, hx⟩
   have hT := hI.on hbel
   obtain ⟨k, hk⟩ : ∃ k, k = pre.length := ⟨_, rfl⟩
   have HP : Hid (pre.length = k) := hk.symm
   rw [← hk] at hok hx hT
   obtain ⟨ov, o1, o2⟩ := hT.out
   have h4 := hT.lt
   have cn := hT.n.cell
   have cb := hT.b.cell
   have c0 := o1.cell
   have c2 := hT.r1.cell
   have f2 := hT.r1.frozen
   have c3 := hT.r2.cell
   have f3 := hT.r2.frozen
   have c4 := hT.r3.cell
   have f4 := hT.r3.frozen
   have hcase := num_more hok
   have hlen := (takes_rest k b hok).2.2.2.1
   have HT := Lib.hid hT
   have hzl := hT.below.size
   clear hk hT hI hbel
   rcases hcase with ⟨a1, a2, a3, a4, a5, a6⟩ | ⟨a1, a2, a3, a4, a5, a6⟩
   ·obtain ⟨z, hz⟩ : ∃ z, z = zagV (takeV (b.drop (atV k b))).2.1 := ⟨_, rfl⟩
    obtain ⟨t2, ht2⟩ : ∃ t, t = atV (k + 1) b := ⟨_, rfl⟩
    obtain ⟨L, hL⟩ : ∃ L, L = (takesV k b).2.1 := ⟨_, rfl⟩
    rw [← hz, ← ht2] at a2
    rw [← hz, ← hL] at a4
    rw [← hL] at o2 hlen
    have e := hx.trans a2
    subst e
    have HE := Lib.hid (And.intro a3 a4)
    have HT2 := Lib.hid ht2
    have HT2N : Hid (t2 ≤ N) := by show _ ≤ _; rw [ht2, HN.out]; exact (takes_rest (k + 1) b a3).2.1
    have i1 : ¬ (t2 : Int) < 0 := by omega
    have HO := Lib.hid o2
    have HO1 := Lib.hid o1
    obtain ⟨OA, oc, rfl, _⟩ := o2.rd
    rw [hlen] at c0 HO HO1
    have HLl := Lib.hid hlen
    have HC : Hid ((#[.int .i64 z] : Array Value).toList = EI.enc z) := rfl
    have hl1 : (L.length + 1) * 8 ≤ 140737488355328 := by rw [hlen]; omega
    have HW : Hid (W.heap.size ≤ (Wb.alloc (.cells #[.int .i64 z] 2)).heap.size) := by show _ ≤ _; simp; omega
    clear hz ht2 hL hx a2 a3 a4 a5 a6 a1 hok hlen hpl
    dsimp only
    by_cases hkn : k + 1 = n
    ·have g4 : ((k : Int) + 1 == (n : Int)) = true := by simp; omega
     have HKN := Lib.hid hkn
     clear hkn
     gi_wp2_with (first | (gi_at_builtin; refine app1GI EI rfl _ _ 73 2 rfl Tryz.underlying73 info_i rfl (by decide) W.heap.size _ L z rfl (HO.out.alloc _) Wb.heap.size 0 1 rfl (CellG.mk HC.out _) hl1 HW.out ?_) | fail)
     intro v' w' hown hg hloc
     obtain ⟨b5, w9, hw9, hK, q5, qo, q0, q1, q2, q3, q4, qb, _⟩ := HT.out.push HO1.out HO.out hown hg HE.out.1 HE.out.2
     obtain ⟨A2, c2', e2, _⟩ := hown.rd
     rw [show (L ++ [z]).length = k + 1 by simp [HLl.out]] at e2
     subst e2
     have p5 := b5.cell
     have f5 := b5.frozen
     have r5 := q5.cell
     have rn := q1.cell
     have rb := q0.cell
     have r2 := q2.cell
     have s2 := q2.frozen
     have r3 := q3.cell
     have s3 := q3.frozen
     have r4 := q4.cell
     have s4 := q4.frozen
     have HK := Lib.hid hK
     have HQ := Lib.hid (And.intro q2 (And.intro q3 (And.intro q4 qo)))
     have HQB := Lib.hid qb
     have HQ5 := Lib.hid q5
     clear hown hg hloc b5 q5 qo q0 q1 q2 q3 q4 qb hK c0 c2 c3 c4 cb cn f2 f3 f4
     subst hw9
     have hmx : Tryz.prog.follows Departure.mixedOrders = true := by kernel_rfl
     have hsl : (c = t2 ∧ Hid (∀ w, Below W.heap.size W w → CallsIn (Fence.wide.inRound l) 17 Tryz.prog 66 #[.slice A 0 0] w fun e w' => ∃ A3 n3 c3, e = .returned (.slice A3 n3 c3) ∧ OwnG EB 5 w' w.heap.size (.slice A3 n3 c3) (b.drop t2) ∧ Below w.heap.size w w')) ∨
       (t2 < c ∧ ∃ g o, A = some ⟨g, o, none⟩ ∧ Hid (∀ w, Below W.heap.size W w → CallsIn (Fence.wide.inRound l) 17 Tryz.prog 66 #[.slice (some ⟨g, o + t2, none⟩) (N - t2) (c - t2)] w fun e w' => ∃ A3 n3 c3, e = .returned (.slice A3 n3 c3) ∧ OwnG EB 5 w' w.heap.size (.slice A3 n3 c3) (b.drop t2) ∧ Below w.heap.size w w')) := by
      have fin : ∀ q w, RdG EB w w.heap.size q (b.drop t2) → CallsIn (Fence.wide.inRound l) 17 Tryz.prog 66 #[q] w fun e w' => ∃ A3 n3 c3, e = .returned (.slice A3 n3 c3) ∧ OwnG EB 5 w' w.heap.size (.slice A3 n3 c3) (b.drop t2) ∧ Below w.heap.size w w' := fun q w hq =>
       CallsIn.inRound l (callsIn_wide.2 ((bclone_walk q (b.drop t2) w hq (by rw [List.length_drop, ← HN.out]; omega)).mono fun e w' ⟨v9, h1, h2, h3⟩ => by
        obtain ⟨A3, c3, e3, _⟩ := id h2.rd
        exact ⟨A3, _, c3, by rw [h1, e3], by rw [← e3]; exact h2, h3⟩))
      have ht2N := HT2N.out
      by_cases hct : c = t2
      ·left
       have e : b.drop t2 = [] := List.drop_eq_nil_of_le (by rw [← HN.out]; omega)
       exact ⟨hct, fun w hw => fin _ w (by rw [e]; exact ⟨A, 0, rfl, Nat.le_refl _, fun _ => rfl, .inl rfl⟩)⟩
      ·right
       refine ⟨by omega, ?_⟩
       cases hA : A with
       | none =>
         obtain ⟨A', c', e', h1, h2, _⟩ := HR.out
         injection e' with e1 _ e3
         have := h2 (by rw [← e1]; exact hA)
         omega
       | some a =>
         obtain ⟨g, o, e⟩ := HF.out a N c (by rw [hA])
         subst e
         refine ⟨g, o, rfl, fun w hw => fin _ w ?_⟩
         have h := HR.out.on hw
         rw [hA] at h
         have h2 := h.cutFrom HN.out ht2N
         rwa [show t2 * EB.k = t2 from Nat.mul_one t2] at h2
     have ht2N := HT2N.out
     rcases hsl with ⟨hct, KC⟩ | ⟨hct, g, o, hA, KC⟩
     ·have hNt : N = t2 := by omega
      gi_wp2_with fail
      gi_region_with_o (gi_at_call 66; refine (KC.out _ (by first | exact HQB.out | exact HQB.out.drew | exact HQB.out.drew.drew)).mono ?_; rintro e w8 ⟨A3, n3, c3, rfl, hO, hB⟩; have y2 := boxOnD HQ.out.1 hB; have y3 := boxOnD HQ.out.2.1 hB; have y4 := boxOnD HQ.out.2.2.1 hB; have y5 := boxOnD HQ5.out hB; have z2 := y2.cell; have z3 := y3.cell; have z4 := y4.cell; have z5 := y5.cell; have v2 := y2.frozen; have v3 := y3.frozen; have v4 := y4.frozen; have HY := Lib.hid (And.intro y2 (And.intro y3 y4)); have HO8 := Lib.hid hO; have HB8 := Lib.hid hB; clear y2 y3 y4 y5 hO hB)
      all_goals
       gi_wp2_with fail
       have HR8 : TkR W n b (.slice A2 (k + 1) c2') (.slice A3 n3 c3) 0 w8 := by
        refine ⟨by rw [← HKN.out]; exact HE.out.1.symm, belowOnD HQB.out HB8.out, ?_⟩
        rw [← HKN.out, if_pos HE.out.1, HE.out.2, (takes_rest (k + 1) b HE.out.1).2.2.1, ← HT2.out]
        exact ⟨ownOnD HQ.out.2.2.2 HB8.out, HO8.out.lower (by have := HQB.out.size; simpa using this)⟩
       have HF9 := tk_fin HY.out.1 HY.out.2.1 HY.out.2.2 HR8
       exact ⟨(HK.out.all.trans (KpT.belowD HB8.out (by have := HQB.out.size; simpa using this))).trans HF9.1, HF9.2⟩
     ·subst hA
      have hct1 : t2 ≠ c := by omega
      gi_wp2_with fail
      gi_region_with_o (gi_at_call 66; refine (KC.out _ (by first | exact HQB.out | exact HQB.out.drew | exact HQB.out.drew.drew)).mono ?_; rintro e w8 ⟨A3, n3, c3, rfl, hO, hB⟩; have y2 := boxOnD HQ.out.1 hB; have y3 := boxOnD HQ.out.2.1 hB; have y4 := boxOnD HQ.out.2.2.1 hB; have y5 := boxOnD HQ5.out hB; have z2 := y2.cell; have z3 := y3.cell; have z4 := y4.cell; have z5 := y5.cell; have v2 := y2.frozen; have v3 := y3.frozen; have v4 := y4.frozen; have HY := Lib.hid (And.intro y2 (And.intro y3 y4)); have HO8 := Lib.hid hO; have HB8 := Lib.hid hB; clear y2 y3 y4 y5 hO hB)
      all_goals
       gi_wp2_with fail
       have HR8 : TkR W n b (.slice A2 (k + 1) c2') (.slice A3 n3 c3) 0 w8 := by
        refine ⟨by rw [← HKN.out]; exact HE.out.1.symm, belowOnD HQB.out HB8.out, ?_⟩
        rw [← HKN.out, if_pos HE.out.1, HE.out.2, (takes_rest (k + 1) b HE.out.1).2.2.1, ← HT2.out]
        exact ⟨ownOnD HQ.out.2.2.2 HB8.out, HO8.out.lower (by have := HQB.out.size; simpa using this)⟩
       have HF9 := tk_fin HY.out.1 HY.out.2.1 HY.out.2.2 HR8
       exact ⟨(HK.out.all.trans (KpT.belowD HB8.out (by have := HQB.out.size; simpa using this))).trans HF9.1, HF9.2⟩
    ·have g4 : ((k : Int) + 1 == (n : Int)) = false := by simp; omega
     gi_wp2_with (first | (gi_at_builtin; refine app1GI EI rfl _ _ 73 2 rfl Tryz.underlying73 info_i rfl (by decide) W.heap.size _ L z rfl (HO.out.alloc _) Wb.heap.size 0 1 rfl (CellG.mk HC.out _) hl1 HW.out ?_) | fail)
     intro v' w' hown hg hloc
     obtain ⟨b5, w9, hw9, hK, q5, qo, q0, q1, q2, q3, q4, qb, qI⟩ := HT.out.push HO1.out HO.out hown hg HE.out.1 HE.out.2
     obtain ⟨A2, c2', e2, _⟩ := hown.rd
     rw [show (L ++ [z]).length = k + 1 by simp [HLl.out]] at e2
     subst e2
     have p5 := b5.cell
     have f5 := b5.frozen
     have r5 := q5.cell
     have rn := q1.cell
     have HK := Lib.hid hK
     have HI2 := Lib.hid (qI (by omega))
     have HW9 := Lib.hid hw9
     clear hown hg hloc b5 q5 qo q0 q1 q2 q3 q4 qb qI hK
     subst hw9
     gi_wp2_with fail
     exact ⟨HK.out, by rw [HP.out]; exact HI2.out⟩
   ·have e := hx.trans a2
    subst e
    obtain ⟨er, her⟩ : ∃ e, e = (takeV (b.drop (atV k b))).1 := ⟨_, rfl⟩
    rw [← her] at a1 a3 a4 a5 a6
    have hw : IntKind.i64.wrap (- -er) = er := by rw [Int.neg_neg]; exact IntWalk.i64_in _ (by omega)
    have i1 : -er < 0 := by omega
    have hE : (takesV n b).1 = er := by
     have := takes_stop (k := k + 1) (b := b) (by rw [a3]; exact a1) (n - (k + 1))
     rw [show k + 1 + (n - (k + 1)) = n by omega] at this
     rw [this, a3]
    have HE := Lib.hid hE
    have HE1 := Lib.hid a1
    clear a3 a4 hx hok hlen hE o1 o2 a1
    dsimp only
    rw [← her]
    clear her
    gi_wp2_with fail
    have HF9 := tk_fin (n := n) (b := b) (xv := .slice none 0 0) (rv := .slice none 0 0) (er := er) HT.out.r1 HT.out.r2 HT.out.r3 ⟨HE.out.symm, HT.out.below, by rw [if_neg (by rw [HE.out]; exact HE1.out)]; exact ⟨rfl, rfl⟩⟩
    exact HF9
  case done =>
   rintro xs W0 W2 hS hI _ _ _
   exact absurd hI.ok hS
  case stop =>
   rintro xs W0 W2 _ hX hbel hlt hdef
   have hdl : W.heap.size ≤ w1.heap.size := by omega
   clear hsz
   obtain ⟨xv, rv, er, b1, b2, b3, hRR⟩ := (hX.on hbel).put hdef rfl hdl (.deferred none)
   have d1 := b1.cell
   have d2 := b2.cell
   have d3 := b3.cell
   gi_wp2
   refine ⟨by simp, .inl ⟨_, _, rfl, run_takeDeferred hdef, ?_⟩⟩
   exact ⟨.tuple #[xv, rv, .int .i64 er], by unfold results; rw [hr]; go_simp, xv, rv, er, rfl, hRR⟩
end Go.Proofs.YtnkelahimiipjaaGreatDoor

/-
 codec: Decode.
-/
namespace Go.Proofs.YtnkelahimiipjaaGreatDoor
open Go.RowKit Go.Sort
theorem dec_short {b : List Nat} (h : b.length = 0) : decV b = (10, [], []) := by unfold decV; rw [if_pos h]
theorem dec_kind {b : List Nat} (h0 : b.length ≠ 0) (h1 : 3 < b.getD 0 0) : decV b = (11, [], []) := by unfold decV; rw [if_neg h0, if_pos h1]
theorem dec_take {b : List Nat} (h0 : b.length ≠ 0) (h1 : ¬ 3 < b.getD 0 0) (h2 : (takeV (b.drop 1)).1 ≠ 0) : decV b = ((takeV (b.drop 1)).1, [], []) := by unfold decV; rw [if_neg h0, if_neg h1, if_pos h2]
theorem dec_size {b : List Nat} (h0 : b.length ≠ 0) (h1 : ¬ 3 < b.getD 0 0) (h2 : (takeV (b.drop 1)).1 = 0) (h3 : 4096 < (takeV (b.drop 1)).2.1 ∨ (takeV (b.drop 1)).2.1 < leastV (b.getD 0 0)) : decV b = (11, [], []) := by
 unfold decV; rw [if_neg h0, if_neg h1, if_neg (by simpa using h2), if_pos h3]
theorem dec_all {b : List Nat} (h0 : b.length ≠ 0) (h1 : ¬ 3 < b.getD 0 0) (h2 : (takeV (b.drop 1)).1 = 0) (h3 : ¬ (4096 < (takeV (b.drop 1)).2.1 ∨ (takeV (b.drop 1)).2.1 < leastV (b.getD 0 0)))
  (h4 : (takesV (haveV (b.getD 0 0) (takeV (b.drop 1)).2.1) ((b.drop 1).drop (takeV (b.drop 1)).2.2)).1 ≠ 0) : decV b = ((takesV (haveV (b.getD 0 0) (takeV (b.drop 1)).2.1) ((b.drop 1).drop (takeV (b.drop 1)).2.2)).1, [], []) := by
 unfold decV; rw [if_neg h0, if_neg h1, if_neg (by simpa using h2), if_neg h3, if_pos h4]
theorem dec_ok {b : List Nat} (h0 : b.length ≠ 0) (h1 : ¬ 3 < b.getD 0 0) (h2 : (takeV (b.drop 1)).1 = 0) (h3 : ¬ (4096 < (takeV (b.drop 1)).2.1 ∨ (takeV (b.drop 1)).2.1 < leastV (b.getD 0 0)))
  (h4 : (takesV (haveV (b.getD 0 0) (takeV (b.drop 1)).2.1) ((b.drop 1).drop (takeV (b.drop 1)).2.2)).1 = 0) : decV b = (0, (List.range (takeV (b.drop 1)).2.1).map (fun i => (undoV (b.getD 0 0) (takesV (haveV (b.getD 0 0) (takeV (b.drop 1)).2.1) ((b.drop 1).drop (takeV (b.drop 1)).2.2)).2.1 i).1), (takesV (haveV (b.getD 0 0) (takeV (b.drop 1)).2.1) ((b.drop 1).drop (takeV (b.drop 1)).2.2)).2.2) := by
 unfold decV; rw [if_neg h0, if_neg h1, if_neg (by simpa using h2), if_neg h3, if_neg (by simpa using h4)]
def DecR (W : World) (b : List Nat) (e : Ending) (w' : World) : Prop :=
 ∃ xv rv, e = .returned (.tuple #[xv, rv, .int .i64 (decV b).1]) ∧ Below W.heap.size W w' ∧ if (decV b).1 = 0 then OwnG EI 2 w' W.heap.size xv (decV b).2.1 ∧ OwnG EB 5 w' W.heap.size rv (decV b).2.2 else xv = .slice none 0 0 ∧ rv = .slice none 0 0
theorem DecR.err {W w' : World} {b : List Nat} {er : Int} (h : decV b = (er, [], [])) (he : er ≠ 0) (hB : Below W.heap.size W w') : DecR W b (.returned (.tuple #[.slice none 0 0, .slice none 0 0, .int .i64 er])) w' :=
 ⟨_, _, by rw [h], hB, by rw [if_neg (by rw [h]; exact he)]; exact ⟨rfl, rfl⟩⟩
theorem idx_least (k : Nat) (hk : k ≤ 3) (w : World) : (Instr.index 146 (.agg #[.int .i64 1, .int .i64 2, .int .i64 0, .int .i64 2]) (.int .i64 (k : Int))).run Tryz.prog w = .ok (.int .i64 (leastV k : Int)) w := by
 have h : k = 0 ∨ k = 1 ∨ k = 2 ∨ k = 3 := by omega
 rcases h with rfl | rfl | rfl | rfl <;> (show _ = _; kernel_rfl)
theorem OwnG.atI {w : World} {base g n c i : Nat} {l : List Int} (h : OwnG EI 2 w base (.slice (some ⟨g, 0, none⟩) n c) l) (hn : n = l.length) (hi : i < n) : w.cell? ⟨g, i, none⟩ = some (.int .i64 (l.getD i 0)) :=
 (h.storeI hn hi 0).2.1
/-- What Decode has told so far. -/
def outN (kd u : Nat) (x : List Int) (k : Nat) : List Int := mixV (fun i => (undoV kd x i).1) (List.replicate u 0) k
def stepN (kd : Nat) (x : List Int) : Nat → Int
 | 0 => 0
 | k + 1 => (undoV kd x k).2
theorem outN_len (kd u : Nat) (x : List Int) (k : Nat) : (outN kd u x k).length = u := by unfold outN; rw [mix_len]; simp
theorem outN_zero (kd u : Nat) (x : List Int) : outN kd u x 0 = List.replicate u 0 := by unfold outN; rw [mix_zero]
theorem outN_succ {kd u : Nat} {x : List Int} {k : Nat} (h : k < u) : (outN kd u x k).set k (undoV kd x k).1 = outN kd u x (k + 1) := by
 unfold outN; exact mix_set (f := fun i => (undoV kd x i).1) (by simpa using h)
theorem outN_all (kd u : Nat) (x : List Int) : outN kd u x u = (List.range u).map (fun i => (undoV kd x i).1) := by
 unfold outN
 have := mix_all (fun i => (undoV kd x i).1) (List.replicate u 0)
 rw [List.length_replicate] at this
 exact this
theorem outN_at {kd u : Nat} {x : List Int} {k : Nat} (h : k < u) : (outN kd u x (k + 1)).getD k 0 = (undoV kd x k).1 := by
 unfold outN
 rw [List.getD_eq_getElem?_getD, mix_get, if_pos (by simpa using h), if_pos (by omega)]; rfl
/-- The step to the next one. -/
def nextS (kd : Nat) (x : List Int) (k : Nat) (s : Int) : Int := if kd = 1 then x.getD 1 0 else if kd = 2 then x.getD (k + 1) 0 else if kd = 3 then IntKind.i64.wrap (s + x.getD (k + 1) 0) else s
theorem undo_next (kd : Nat) (x : List Int) (k : Nat) : undoV kd x (k + 1) = (IntKind.i64.wrap ((undoV kd x k).1 + nextS kd x k (undoV kd x k).2), nextS kd x k (undoV kd x k).2) := rfl
theorem step_is (kd : Nat) (x : List Int) (k : Nat) : stepN kd x (k + 1) = (undoV kd x k).2 := rfl
theorem undo_in {kd : Nat} {x : List Int} (hx : ∀ y ∈ x, In64 y) : ∀ k, In64 (undoV kd x k).1 ∧ In64 (undoV kd x k).2
 | 0 => ⟨getD_in hx 0, by unfold In64; show _ ≤ (0 : Int) ∧ (0 : Int) < _; omega⟩
 | k + 1 => by
   rw [undo_next]
   refine ⟨wr_in _, ?_⟩
   unfold nextS
   split
   ·exact getD_in hx _
   ·split
    ·exact getD_in hx _
    ·split
     ·exact wr_in _
     ·exact (undo_in hx k).2
theorem makeI (w : World) (n : Nat) (hn : n ≤ 1000000) (base : Nat) (hb : base ≤ w.heap.size) : ∃ w', (Instr.makeSlice 73 (.int .i64 (n : Int)) (.int .i64 (n : Int))).run Tryz.prog w = .ok (.slice (some ⟨w.heap.size, 0, none⟩) n n) w' ∧
  OwnG EI 2 w' base (.slice (some ⟨w.heap.size, 0, none⟩) n n) (List.replicate n 0) ∧ Below w.heap.size w w' ∧ w'.heap.size = w.heap.size + 1 := by
 obtain ⟨i, hi, hz1, hsz, hby⟩ := of_infoG info_i
 have hr := run_make (P := Tryz.prog) w 73 2 i _ Tryz.underlying73 hi hz1 .i64 .i64 n n (by omega) (Int.le_refl _) (by rw [hby]; omega) (by omega)
 simp only [Int.toNat_natCast] at hr
 refine ⟨_, hr, ?_, (Below.refl _ _).alloc (Nat.le_refl _) _, by simp⟩
 have h := World.ownsRow_lit (base := base) (e := 2) (size := 1) w (madeCells (Value.int .i64 0).cells (n * i.size)) n hb (by unfold maxLen; omega) (by rw [hsz]; exact size_madeCells _ _)
 unfold OwnG
 rw [List.length_replicate]
 have e : EI.flat (List.replicate n 0) = (madeCells (Value.int .i64 0).cells (n * i.size)).toList := by
  rw [EI.flat_map, hsz]
  have h2 := toList_madeCells_one (.int .i64 0) (n * 1)
  rw [show (Value.int .i64 0).cells = #[.int .i64 0] from rfl, h2]
  simp
 rw [e]
 exact h
set_option maxRecDepth 100000 in
set_option maxHeartbeats 4000000 in
theorem decode_walk (v : Value) (b : List Nat) (W : World) (hR : RdG EB W W.heap.size v b) (h8 : ∀ c ∈ b, c < 256) (hb : b.length ≤ 100000000) :
  Calls Tryz.prog 76 #[v] W (DecR W b) := by
 have hr : Tryz.f76.results = #[.tmp 2, .tmp 3, .tmp 4] := by kernel_rfl
 obtain ⟨N, hN⟩ : ∃ N, N = b.length := ⟨_, rfl⟩
 have HR := Lib.hid hR
 have H8 := Lib.hid h8
 obtain ⟨A, c, rfl, hc, hn0, hA⟩ := hR
 rw [← hN] at HR hc hb ⊢
 have HN := Lib.hid hN
 by_cases h0 : N = 0
 ·have HD := Lib.hid (dec_short (b := b) (by omega))
  have g0 : ((N : Int) == 0) = true := by simp; omega
  clear hN hA hn0 hc hb h8
  go_enter Tryz.func76, Tryz.ntmps76
  go_wp2_with fail
  refine bodyPost_ret (v := .tuple #[.slice none 0 0, .slice none 0 0, .int .i64 10]) ?_ rfl (DecR.err HD.out (by decide) (Below.refl _ _))
  unfold results
  rw [hr]
  go_simp
 ·have g0 : ((N : Int) == 0) = false := by simp; omega
  obtain ⟨g, o, rfl, hcell⟩ : ∃ g o, A = some ⟨g, o, none⟩ ∧ W.cell? ⟨g, o, none⟩ = some (.int .u8 (b.getD 0 0 : Nat)) := by
   rcases hA with h1 | ⟨b1, o1, e, hb1, hcl⟩
   ·rw [h1] at hN; simp at hN; omega
   ·refine ⟨b1, o1, e, ?_⟩
    have := cellB.1 (hcl 0 (by omega))
    rw [List.getD_eq_getElem?_getD, List.getElem?_eq_getElem (by omega)]
    simpa [EB] using this
  have hk8 : b.getD 0 0 < 256 := by
   rw [List.getD_eq_getElem?_getD, List.getElem?_eq_getElem (by omega)]
   exact h8 _ (List.getElem_mem _)
  obtain ⟨kd, hkd⟩ : ∃ k, k = b.getD 0 0 := ⟨_, rfl⟩
  rw [← hkd] at hcell hk8
  have HKD := Lib.hid hkd
  have i0 : (0 : Int) < (N : Int) := by omega
  have i00 : 0 < N := by omega
  have hbl : b.length ≠ 0 := by omega
  have HBL := Lib.hid hbl
  by_cases hk3 : 3 < kd
  ·have HD := Lib.hid (dec_kind hbl (by rw [← hkd]; exact hk3))
   have i1 : (kd : Int) > 3 := by omega
   clear hN hA hn0 hc hb h8 hkd hbl h0
   go_enter Tryz.func76, Tryz.ntmps76
   go_wp2_with fail
   refine bodyPost_ret (v := .tuple #[.slice none 0 0, .slice none 0 0, .int .i64 11]) ?_ rfl (DecR.err HD.out (by decide) (Below.refl _ _))
   unfold results
   rw [hr]
   go_simp
  ·have i1 : ¬ (kd : Int) > 3 := by omega
   have HK3 : Hid (¬ 3 < b.getD 0 0) := by rw [← hkd]; exact hk3
   obtain ⟨T, hT⟩ : ∃ T, T = takeV (b.drop 1) := ⟨_, rfl⟩
   have HT := Lib.hid hT
   have h8d : ∀ c ∈ b.drop 1, c < 256 := fun c hc => h8 c (List.mem_of_mem_drop hc)
   have KT : ∀ q, RdG EB W W.heap.size q (b.drop 1) → Calls Tryz.prog 73 #[q] W fun e w' => ∃ r, e = .returned (.tuple #[.int .u64 (if T.1 = 0 then (T.2.1 : Int) else 0), r, .int .i64 T.1]) ∧ Below W.heap.size W w' ∧ if T.1 = 0 then OwnG EB 5 w' W.heap.size r ((b.drop 1).drop T.2.2) else r = .slice none 0 0 := fun q hq => by
    rw [hT]; exact vTake_walk q (b.drop 1) W hq h8d (by rw [List.length_drop]; omega)
   by_cases hc1 : c = 1
   ·have hN1 : N = 1 := by omega
    have hbd : b.drop 1 = [] := List.drop_eq_nil_of_le (by omega)
    have hTe : T = (10, 0, 0) := by rw [hT, hbd]; rfl
    have HD : Hid (decV b = (10, [], [])) := by
     have := dec_take hbl HK3.out (by rw [hbd]; decide)
     rw [hbd] at this; exact this
    have K1 := Lib.hid (KT (.slice (some ⟨g, o, none⟩) 0 0) (by rw [hbd]; exact ⟨_, 0, rfl, Nat.le_refl _, fun _ => rfl, .inl rfl⟩))
    rw [hTe] at K1
    clear hN hA hn0 hb h8 hkd hbl h0 hT h8d KT hbd hTe hk3
    go_enter Tryz.func76, Tryz.ntmps76
    go_wp2_with fail
    refine K1.out.mono ?_
    rintro e w1 ⟨r, rfl, hB, hr1⟩
    have HB := Lib.hid hB
    have hr2 : r = .slice none 0 0 := hr1
    subst hr2
    clear hB hr1 K1
    go_wp2_with fail
    refine bodyPost_ret (v := .tuple #[.slice none 0 0, .slice none 0 0, .int .i64 10]) ?_ rfl (DecR.err HD.out (by decide) HB.out)
    unfold results
    rw [hr]
    go_simp
   ·have hcut := HR.out.cutFrom HN.out (k := 1) (by omega)
    rw [show 1 * EB.k = 1 from rfl] at hcut
    have K1 := Lib.hid (KT _ hcut)
    have hn1 : 1 ≤ c := by omega
    obtain ⟨er, u, kk⟩ := T
    simp only at K1 HT
    have hk3' : kd ≤ 3 := by omega
    clear hN hA hn0 h8 hkd h0 hT KT hcut hk3
    by_cases he : er = 0
    ·subst he
     have hul : u < 18446744073709551616 := by
      have := take_lt (b.drop 1)
      rw [← HT.out] at this; exact this
     simp only [if_true] at K1
     have hL := idx_least kd hk3'
     by_cases hsz : 4096 < u ∨ u < leastV kd
     ·have HD : Hid (decV b = (11, [], [])) := by
       have := dec_size HBL.out HK3.out (by rw [← HT.out]) (by rw [← HT.out, ← HKD.out]; exact hsz)
       exact this
      by_cases hu : 4096 < u
      ·have q1 : (u : Int) > 4096 := by omega
       clear hsz
       go_enter Tryz.func76, Tryz.ntmps76
       go_wp2_with fail
       refine K1.out.mono ?_
       rintro e w1 ⟨r, rfl, hB, hr1⟩
       have HB := Lib.hid hB
       obtain ⟨A2, c2, rfl, _⟩ := hr1.rd
       clear hB K1 hr1
       go_wp2_with fail
       all_goals
        refine bodyPost_ret (v := .tuple #[.slice none 0 0, .slice none 0 0, .int .i64 11]) ?_ rfl (DecR.err HD.out (by decide) HB.out)
        unfold results
        rw [hr]
        go_simp
      ·have q1 : ¬ (u : Int) > 4096 := by omega
       have q2 : (u : Int) < (leastV kd : Int) := by omega
       have q3 : (u : Int) ≤ 4097 := by omega
       clear hsz
       go_enter Tryz.func76, Tryz.ntmps76
       go_wp2_with fail
       refine K1.out.mono ?_
       rintro e w1 ⟨r, rfl, hB, hr1⟩
       have HB := Lib.hid hB
       obtain ⟨A2, c2, rfl, _⟩ := hr1.rd
       clear hB K1 hr1
       go_wp2_with fail
       all_goals
        refine bodyPost_ret (v := .tuple #[.slice none 0 0, .slice none 0 0, .int .i64 11]) ?_ rfl (DecR.err HD.out (by decide) HB.out)
        unfold results
        rw [hr]
        go_simp
     ·have q1 : ¬ (u : Int) > 4096 := by omega
      have q2 : ¬ (u : Int) < (leastV kd : Int) := by omega
      have q3 : (u : Int) ≤ 4097 := by omega
      have hu : u ≤ 4096 := by omega
      have hlu : leastV kd ≤ u := by omega
      obtain ⟨D, hD⟩ : ∃ D, D = (b.drop 1).drop kk := ⟨_, rfl⟩
      obtain ⟨hv, hhv⟩ : ∃ h, h = haveV kd u := ⟨_, rfl⟩
      obtain ⟨Y, hY⟩ : ∃ Y, Y = takesV hv D := ⟨_, rfl⟩
      have hhv1 : hv ≤ 4097 := by rw [hhv]; unfold haveV; split <;> omega
      have HERR : Hid (Y.1 ≠ 0 → decV b = (Y.1, [], [])) := fun h => by
       have h2 := dec_all HBL.out HK3.out (by rw [← HT.out]) (by rw [← HT.out, ← HKD.out]; exact hsz)
       rw [← HT.out, ← HKD.out] at h2
       simp only at h2
       rw [← hhv, ← hD, ← hY] at h2
       exact h2 h
      have HOK : Hid (Y.1 = 0 → decV b = (0, (List.range u).map (fun i => (undoV kd Y.2.1 i).1), Y.2.2)) := fun h => by
       have h2 := dec_ok HBL.out HK3.out (by rw [← HT.out]) (by rw [← HT.out, ← HKD.out]; exact hsz)
       rw [← HT.out, ← HKD.out] at h2
       simp only at h2
       rw [← hhv, ← hD, ← hY] at h2
       exact h2 h
      have hlenY : Y.1 = 0 → Y.2.1.length = hv := fun h => by rw [hY] at h ⊢; exact (takes_rest hv D h).2.2.2.1
      have h8D : ∀ c ∈ D, c < 256 := fun c hc => by rw [hD] at hc; exact h8d c (List.mem_of_mem_drop hc)
      have hDl : D.length ≤ 1000000000 := by rw [hD, List.length_drop, List.length_drop, ← HN.out]; omega
      rw [← hD] at K1
      have KTA : Hid (∀ A2 c2 w1, OwnG EB 5 w1 W.heap.size (.slice A2 D.length c2) D → Calls Tryz.prog 77 #[.slice A2 D.length c2, .int .i64 (hv : Int)] w1 fun e w' => ∃ xv rv, e = .returned (.tuple #[xv, rv, .int .i64 Y.1]) ∧ TkR w1 hv D xv rv Y.1 w') := fun A2 c2 w1 hO => by
       refine (takeAll_walk _ D hv w1 hO.rd hO.flatV h8D hDl (by omega)).mono ?_
       rintro e w' ⟨xv, rv, er2, rfl, h⟩
       have h1 : er2 = Y.1 := by rw [hY]; exact h.1
       subst h1
       exact ⟨xv, rv, rfl, h⟩
      have hh1 : kd ≤ 1 → ((hv : Nat) : Int) = (kd : Int) + 1 := fun h => by rw [hhv]; unfold haveV; rw [if_pos h]; omega
      have hh2 : ¬ kd ≤ 1 → ((hv : Nat) : Int) = (u : Int) := fun h => by rw [hhv]; unfold haveV; rw [if_neg h]
      have HHV : Hid (hv = haveV kd u) := hhv
      have HYY : Hid (Y = takesV hv D) := hY
      have HHV1 := Lib.hid hhv1
      have HLY := Lib.hid hlenY
      clear hD hY hlenY hhv h8D hDl h8d hsz hhv1
      by_cases hk1 : kd ≤ 1
      all_goals
       first
        | (have i5 : (kd : Int) ≤ 1 := by omega
           rw [hh1 hk1] at KTA)
        | (have i5 : ¬ (kd : Int) ≤ 1 := by omega
           rw [hh2 hk1] at KTA)
       clear hh1 hh2
       go_enter Tryz.func76, Tryz.ntmps76
       go_wp2_with fail
       refine K1.out.mono ?_
       rintro e w1 ⟨r, rfl, hB, hr1⟩
       have HB := Lib.hid hB
       obtain ⟨A2, c2, rfl, _⟩ := hr1.rd
       have K2 := Lib.hid (KTA.out A2 c2 w1 hr1)
       clear hB K1 hr1 KTA
       go_wp2_with fail
       refine K2.out.mono ?_
       rintro e w2 ⟨xv, rv, rfl, hk⟩
       by_cases hy : Y.1 = 0
       ·obtain ⟨_, hB2, hk2⟩ := hk
        rw [← HYY.out, if_pos hy] at hk2
        obtain ⟨hX, hRv⟩ := hk2
        have g7 : (Y.1 != 0) = false := by simp [hy]
        have HB2 : Hid (Below W.heap.size W w2) := HB.out.trans (hB2.mono HB.out.size)
        have HX := Lib.hid hX
        have HRV := Lib.hid hRv
        have HXL := Lib.hid (HLY.out hy)
        have HDD := Lib.hid (HOK.out hy)
        obtain ⟨A3, c3, e3, _⟩ := id hX.rd
        rw [HXL.out] at e3
        subst e3
        obtain ⟨A4, c4, rfl, _⟩ := hRv.rd
        clear hB2 hX hRv K2
        have hu2 : u ≤ 1000000 := by omega
        obtain ⟨w3, hm3, hO3, hB3, hs3⟩ := makeI w2 u hu2 W.heap.size HB2.out.size
        obtain ⟨G, hG⟩ : ∃ G, G = w2.heap.size := ⟨_, rfl⟩
        rw [← hG] at hm3 hO3
        have HG := Lib.hid hG
        have HB3 := Lib.hid hB3
        have HO3 := Lib.hid hO3
        have HS3 := Lib.hid hs3
        clear hO3 hB3 hG hs3
        have HLS : Hid (kd = 2 ∨ 1 ≤ u) := by
         have := hlu
         show _ ∨ _
         unfold leastV at this
         by_cases e2 : kd = 2
         ·exact .inl e2
         ·by_cases e0 : kd = 0
          ·rw [if_pos e0] at this; exact .inr this
          ·rw [if_neg e0, if_neg e2] at this; exact .inr (by omega)
        have HHL : Hid ((1 ≤ u → 1 ≤ hv) ∧ (kd = 1 → 2 ≤ hv) ∧ (2 ≤ kd → hv = u)) := by
         have e := HHV.out
         unfold haveV at e
         refine ⟨fun h => ?_, fun h => ?_, fun h => ?_⟩
         ·by_cases h1 : kd ≤ 1
          ·rw [if_pos h1] at e; omega
          ·rw [if_neg h1] at e; omega
         ·rw [if_pos (by omega)] at e; omega
         ·rw [if_neg (by omega)] at e; exact e
        obtain ⟨x, hx⟩ : ∃ x, x = Y.2.1 := ⟨_, rfl⟩
        rw [← hx] at HX HXL HDD
        have HCX : Hid (∀ i, i < hv → ∃ b3 o3, A3 = some ⟨b3, o3, none⟩ ∧ w2.cell? ⟨b3, o3 + i, none⟩ = some (.int .i64 (x.getD i 0)) ∧ b3 < G) := fun i hi => by
         obtain ⟨A5, c5, e5, _, _, h5⟩ := HX.out.rd
         injection e5 with e6 e7 e8
         subst e6
         rcases h5 with h5 | ⟨b3, o3, e9, hb3, hcl⟩
         ·have := HXL.out; rw [h5] at this; simp at this; omega
         ·refine ⟨b3, o3, e9, ?_, by rw [HG.out]; exact hb3⟩
          have hi2 : i < x.length := by rw [HXL.out]; exact hi
          have := cellI.1 (hcl i hi2)
          rw [List.getD_eq_getElem?_getD, List.getElem?_eq_getElem hi2]
          simpa [EI] using this
        have HXB : Hid (∀ y ∈ x, True) := fun _ _ => trivial
        clear hx hlu hu2 i5 hk1 hy
        go_wp2_with fail
        go_loopw [14, 15, 67, 70, 78, 84, 91] (fun st _ iv _ _ _ _ wl => ∃ k : Nat, k ≤ u ∧ iv = .int .i64 (k : Int) ∧ st = .int .i64 (stepN kd x k) ∧ Hid (OwnG EI 2 wl W.heap.size (.slice (some ⟨G, 0, none⟩) u u) (outN kd u x k)) ∧ Hid (Below G w2 wl))
         (fun _ _ iv _ _ _ _ _ => u - (intOf iv).toNat)
        case atStart => exact ⟨0, Nat.zero_le _, rfl, rfl, by show OwnG _ _ _ _ _ _; rw [outN_zero]; exact HO3.out, by have h := HB3.out; rw [← HG.out] at h; exact h⟩
        case round =>
         obtain ⟨k, hk, rfl, rfl, HO, HBW⟩ := hrel
         by_cases hlt : k < u
         ·have i1 : (k : Int) < (u : Int) := by omega
          have hln := outN_len kd u x k
          by_cases hk0 : k = 0
          ·subst hk0
           obtain ⟨b3, o3, rfl, hc3, hb3⟩ := HCX.out 0 (HHL.out.1 (by omega))
           have hx0 : wr.cell? ⟨b3, o3, none⟩ = some (.int .i64 (x.getD 0 0)) := (HBW.out.cell hb3).trans hc3
           obtain ⟨s1, s2, s3⟩ := HO.out.storeI (i := 0) hln.symm hlt (x.getD 0 0)
           have hvl : 0 < hv := HHL.out.1 (by omega)
           have HO1 : Hid (OwnG EI 2 (wr.setCell ⟨G, 0, none⟩ (.int .i64 (x.getD 0 0))) W.heap.size (.slice (some ⟨G, 0, none⟩) u u) (outN kd u x 1)) := by
            show OwnG _ _ _ _ _ _
            rw [← outN_succ hlt]; exact s1
           have HB1 : Hid (Below G w2 (wr.setCell ⟨G, 0, none⟩ (.int .i64 (x.getD 0 0)))) := HBW.out.setCell (Nat.le_refl _) _
           clear s1 hln
           go_wp2_with fail
           go_roundw
           case rel => exact ⟨1, by omega, rfl, rfl, HO1.out, HB1.out⟩
           case measure => simp [intOf]; omega
          ·obtain ⟨j, rfl⟩ : ∃ j, k = j + 1 := ⟨k - 1, by omega⟩
           obtain ⟨p0, hp0⟩ : ∃ p, p = (undoV kd x j).1 := ⟨_, rfl⟩
           obtain ⟨s0, hs0⟩ : ∃ s, s = stepN kd x (j + 1) := ⟨_, rfl⟩
           have hca := HO.out.atI (i := j) hln.symm (by omega)
           rw [outN_at (by omega), ← hp0] at hca
           rw [← hs0]
           have HU : Hid (undoV kd x (j + 1) = (wrap64 (p0 + nextS kd x j s0), nextS kd x j s0)) := by show _ = _; rw [undo_next, wr_64, hp0, hs0]; rfl
           have hfz := (HO.out.storeI (i := j + 1) hln.symm hlt 0).2.2
           have hcz := (HO.out.storeI (i := j + 1) hln.symm hlt 0).2.1
           have HST : Hid (∀ z, z = nextS kd x j s0 → OwnG EI 2 (wr.setCell ⟨G, j + 1, none⟩ (.int .i64 (wrap64 (p0 + z)))) W.heap.size (.slice (some ⟨G, 0, none⟩) u u) (outN kd u x (j + 1 + 1)) ∧ stepN kd x (j + 1 + 1) = z) := fun z hz => by
            subst hz
            refine ⟨?_, by rw [step_is, HU.out]⟩
            rw [← outN_succ hlt, HU.out]
            exact (HO.out.storeI (i := j + 1) hln.symm hlt _).1
           have HB1 : Hid (∀ z, Below G w2 (wr.setCell ⟨G, j + 1, none⟩ z)) := fun z => HBW.out.setCell (Nat.le_refl _) _
           have g3 : ((j : Int) + 1 == 0) = false := by simp; omega
           have i8 : (j : Int) + 1 < (u : Int) := by omega
           clear hp0 hs0 hln hk0 i1
           by_cases k1 : kd = 1
           ·have e1 : ((kd : Int) == 1) = true := by simp; omega
            obtain ⟨b3, o3, rfl, hc3, hb3⟩ := HCX.out 1 (HHL.out.2.1 k1)
            have hx0 : wr.cell? ⟨b3, o3 + 1, none⟩ = some (.int .i64 (x.getD 1 0)) := (HBW.out.cell hb3).trans hc3
            have hvl : (1 : Int) < (hv : Int) := by have := HHL.out.2.1 k1; omega
            have HN1 : Hid (x.getD 1 0 = nextS kd x j s0) := by show _ = _; unfold nextS; rw [if_pos k1]
            clear k1
            go_wp2_with fail
            go_roundw
            case rel => exact ⟨j + 1 + 1, by omega, by go_num, by first | (rw [(HST.out _ HN1.out).2]; done) | rw [(HST.out _ HN1.out).2, List.getD_eq_getElem?_getD], (HST.out _ HN1.out).1, HB1.out _⟩
            case measure => simp [intOf]; omega
           ·have e1 : ((kd : Int) == 1) = false := by simp; omega
            by_cases k2 : kd = 2
            ·have e2 : ((kd : Int) == 2) = true := by simp; omega
             have hvu := HHL.out.2.2 (by omega)
             obtain ⟨b3, o3, rfl, hc3, hb3⟩ := HCX.out (j + 1) (by omega)
             have hx0 : wr.cell? ⟨b3, o3 + (j + 1), none⟩ = some (.int .i64 (x.getD (j + 1) 0)) := (HBW.out.cell hb3).trans hc3
             have hvl : (j : Int) + 1 < (hv : Int) := by omega
             have HN1 : Hid (x.getD (j + 1) 0 = nextS kd x j s0) := by show _ = _; unfold nextS; rw [if_neg k1, if_pos k2]
             clear k1 k2 hvu
             go_wp2_with fail
             go_roundw
             case rel => exact ⟨j + 1 + 1, by omega, by go_num, by first | (rw [(HST.out _ HN1.out).2]; done) | rw [(HST.out _ HN1.out).2, List.getD_eq_getElem?_getD], (HST.out _ HN1.out).1, HB1.out _⟩
             case measure => simp [intOf]; omega
            ·have e2 : ((kd : Int) == 2) = false := by simp; omega
             by_cases k3 : kd = 3
             ·have e3 : ((kd : Int) == 3) = true := by simp; omega
              have hvu := HHL.out.2.2 (by omega)
              obtain ⟨b3, o3, rfl, hc3, hb3⟩ := HCX.out (j + 1) (by omega)
              have hx0 : wr.cell? ⟨b3, o3 + (j + 1), none⟩ = some (.int .i64 (x.getD (j + 1) 0)) := (HBW.out.cell hb3).trans hc3
              have hvl : (j : Int) + 1 < (hv : Int) := by omega
              have HN1 : Hid (wrap64 (s0 + x.getD (j + 1) 0) = nextS kd x j s0) := by show _ = _; unfold nextS; rw [if_neg k1, if_neg k2, if_pos k3, wr_64]
              clear k1 k2 k3 hvu
              go_wp2_with fail
              go_roundw
              case rel => exact ⟨j + 1 + 1, by omega, by go_num, by first | (rw [(HST.out _ HN1.out).2]; done) | rw [(HST.out _ HN1.out).2, List.getD_eq_getElem?_getD], (HST.out _ HN1.out).1, HB1.out _⟩
              case measure => simp [intOf]; omega
             ·have e3 : ((kd : Int) == 3) = false := by simp; omega
              have HN1 : Hid (s0 = nextS kd x j s0) := by show _ = _; unfold nextS; rw [if_neg k1, if_neg k2, if_neg k3]
              clear k1 k2 k3
              go_wp2_with fail
              go_roundw
              case rel => exact ⟨j + 1 + 1, by omega, by go_num, by first | (rw [(HST.out _ HN1.out).2]; done) | rw [(HST.out _ HN1.out).2, List.getD_eq_getElem?_getD], (HST.out _ HN1.out).1, HB1.out _⟩
              case measure => simp [intOf]; omega
         ·have hkn : k = u := by omega
          have i1 : ¬ (k : Int) < (u : Int) := by omega
          rw [hkn, outN_all] at HO
          have HF : Hid (Below W.heap.size W wr) := HB2.out.trans (HBW.out.mono (by rw [HG.out]; exact HB2.out.size))
          have HRF : Hid (OwnG EB 5 wr W.heap.size (.slice A4 Y.2.2.length c4) Y.2.2) := (HRV.out.below (by have h := HBW.out; rw [HG.out] at h; exact h)).lower HB.out.size
          clear hk hlt hkn
          go_wp2_with fail
          refine bodyPost_ret (v := .tuple #[.slice (some ⟨G, 0, none⟩) u u, .slice A4 Y.2.2.length c4, .int .i64 0]) ?_ rfl (show DecR W b _ _ from ⟨_, _, by rw [HDD.out], HF.out, by rw [HDD.out]; exact ⟨HO.out, HRF.out⟩⟩)
          unfold results
          rw [hr]
          go_simp
       ·have g7 : (Y.1 != 0) = true := by simp [hy]
        have HDE := Lib.hid (HERR.out hy)
        have HY := Lib.hid hy
        have HB2 : Hid (Below W.heap.size W w2) := HB.out.trans (hk.2.1.mono HB.out.size)
        have hk2 := hk.2.2
        rw [← HYY.out, if_neg hy] at hk2
        obtain ⟨rfl, rfl⟩ := hk2
        clear hy hk K2
        go_wp2_with fail
        refine bodyPost_ret (v := .tuple #[.slice none 0 0, .slice none 0 0, .int .i64 Y.1]) ?_ rfl (DecR.err HDE.out HY.out HB2.out)
        unfold results
        rw [hr]
        go_simp
    ·have HD : Hid (decV b = (er, [], [])) := by
      have := dec_take HBL.out HK3.out (by rw [← HT.out]; exact he)
      rw [← HT.out] at this; exact this
     have g1 : (er != 0) = true := by simp [he]
     have HE := Lib.hid he
     rw [if_neg he] at K1
     clear he h8d hbl
     go_enter Tryz.func76, Tryz.ntmps76
     go_wp2_with fail
     refine K1.out.mono ?_
     rintro e w1 ⟨r, rfl, hB, hr1⟩
     rw [if_neg HE.out] at hr1
     subst hr1
     have HB := Lib.hid hB
     clear hB K1
     go_wp2_with fail
     refine bodyPost_ret (v := .tuple #[.slice none 0 0, .slice none 0 0, .int .i64 er]) ?_ rfl (DecR.err HD.out HE.out HB.out)
     unfold results
     rw [hr]
     go_simp
end Go.Proofs.YtnkelahimiipjaaGreatDoor
