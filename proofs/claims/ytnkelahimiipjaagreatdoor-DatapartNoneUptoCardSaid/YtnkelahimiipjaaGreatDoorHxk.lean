/-
 datapart.split, as an iterator, where what is read lies in blocks of some kind, whatever else turns.
-/
import Derived.Test.YtnkelahimiipjaaGreatDoorHdk
import Derived.Test.YtnkelahimiipjaaGreatDoorPmk
namespace Go.Proofs.YtnkelahimiipjaaGreatDoor
open Go.RowKit Go.Sort
attribute [local go_sem] Oper.semAt_some
/-- The blocks of a kind stay. -/
structure StJ (G : Nat → Prop) (A B : World) : Prop where
 size : A.heap.size ≤ B.heap.size
 block : ∀ b, G b → B.heap[b]? = A.heap[b]?
theorem StJ.refl (G : Nat → Prop) (A : World) : StJ G A A := ⟨Nat.le_refl _, fun _ _ => rfl⟩
theorem StJ.trans {G : Nat → Prop} {A B C : World} (h : StJ G A B) (k : StJ G B C) : StJ G A C := ⟨Nat.le_trans h.size k.size, fun b hb => (k.block b hb).trans (h.block b hb)⟩
theorem StJ.of_below {G : Nat → Prop} {K : Nat} {A B : World} (h : Below K A B) (hk : ∀ b, G b → b < K) : StJ G A B := ⟨h.size, fun b hb => h.block b (hk b hb)⟩
theorem StJ.cell {G : Nat → Prop} {A B : World} (h : StJ G A B) {b i : Nat} (hb : G b) : B.cell? ⟨b, i, none⟩ = A.cell? ⟨b, i, none⟩ := by
 unfold World.cell?
 rw [h.block b hb]
def RdJ (G : Nat → Prop) (w : World) (v : Value) (l : List Smp) : Prop :=
 ∃ A c, v = .slice A l.length c ∧ l.length ≤ c ∧ (l = [] ∨ ∃ b o, A = some ⟨b, o, none⟩ ∧ G b ∧ ∀ i (h : i < l.length), Cell4 w b (o + i * 4) l[i])
def PtJ (G : Nat → Prop) (w : World) (b o : Nat) (p : Pts) : Prop :=
 w.cell? ⟨b, o, none⟩ = some (.int .i64 p.1) ∧ ∃ sv, w.cell? ⟨b, o + 1, none⟩ = some sv ∧ RdJ G w sv p.2 ∧ Nz sv
def RdPJ (G : Nat → Prop) (w : World) (v : Value) (l : List Pts) : Prop :=
 ∃ A c, v = .slice A l.length c ∧ l.length ≤ c ∧ (l = [] ∨ ∃ b o, A = some ⟨b, o, none⟩ ∧ G b ∧ ∀ i (h : i < l.length), PtJ G w b (o + i * 2) l[i])
theorem Cell4.st {G : Nat → Prop} {A B : World} {b o : Nat} {s : Smp} (h : Cell4 A b o s) (k : StJ G A B) (hb : G b) : Cell4 B b o s :=
 ⟨(k.cell hb).trans h.1, (k.cell hb).trans h.2.1, (k.cell hb).trans h.2.2.1, (k.cell hb).trans h.2.2.2⟩
theorem RdJ.st {G : Nat → Prop} {A B : World} {v : Value} {l : List Smp} (h : RdJ G A v l) (k : StJ G A B) : RdJ G B v l := by
 obtain ⟨A', c, e, hc, hA⟩ := h
 exact ⟨A', c, e, hc, hA.imp id fun ⟨b, o, e, hb, hcl⟩ => ⟨b, o, e, hb, fun i hi => (hcl i hi).st k hb⟩⟩
theorem PtJ.st {G : Nat → Prop} {A B : World} {b o : Nat} {p : Pts} (h : PtJ G A b o p) (k : StJ G A B) (hb : G b) : PtJ G B b o p := by
 obtain ⟨h1, sv, h2, h3, h4⟩ := h
 exact ⟨(k.cell hb).trans h1, sv, (k.cell hb).trans h2, h3.st k, h4⟩
theorem RdJ.cutFrom0 {G : Nat → Prop} {w : World} {b o n c k : Nat} {l : List Smp} (hn : n = l.length) (h : RdJ G w (.slice (some ⟨b, o, none⟩) n c) l) (hk : k ≤ n) : RdJ G w (.slice (some ⟨b, o + k * 4, none⟩) (n - k) (c - k)) (l.drop k) := by
 obtain ⟨A', c', e, hc, hA⟩ := h
 injection e with e1 e2 e3
 subst e1 e3
 refine ⟨_, _, by rw [List.length_drop, ← hn], by rw [List.length_drop]; omega, ?_⟩
 rcases hA with h0 | ⟨b', o', e, hb, hcl⟩
 ·left; rw [h0]; simp
 ·right
  injection e with e
  injection e with e1 e2
  subst e1 e2
  refine ⟨b, o + k * 4, rfl, hb, fun i hi => ?_⟩
  have hi2 : k + i < l.length := by rw [List.length_drop] at hi; omega
  have h1 := hcl (k + i) hi2
  rw [List.getElem_drop, show o + k * 4 + i * 4 = o + (k + i) * 4 by omega]
  exact h1
theorem own_RdJ {G : Nat → Prop} {w : World} {base : Nat} {v : Value} {l : List Smp} (h : Own w base 66 v l) (hG : ∀ g c z, w.heap[g]? = some (.cells c 66 z) → G g) : RdJ G w v l := by
 obtain ⟨A, c, e, hc, hA⟩ := h.rd
 refine ⟨A, c, e, hc, ?_⟩
 rcases hA with h0 | ⟨b, o, e2, _, hcl⟩
 ·exact .inl h0
 ·refine .inr ⟨b, o, e2, ?_, hcl⟩
  rcases h.2 with ⟨h0, _⟩ | ⟨g, cap, cur, h0, _, hh, _⟩
  ·rw [e, e2] at h0; cases h0
  ·rw [e, e2] at h0
   injection h0 with h0
   injection h0 with h0
   injection h0 with h0
   subst h0
   exact hG _ _ _ hh
theorem RdO.rdJ {G : Nat → Prop} {w : World} {base : Nat} {v : Value} {l : List Pts} (h : RdO w base v l) (hG : ∀ g c z, w.heap[g]? = some (.cells c 66 z) → G g) (hG2 : ∀ g c z, w.heap[g]? = some (.cells c 62 z) → G g) : RdPJ G w v l := by
 obtain ⟨A, c, e, hc, hA⟩ := h
 refine ⟨A, c, e, hc, hA.imp (fun h => h.1) ?_⟩
 rintro ⟨b, o, e2, _, _, ⟨cc, ht⟩, hcl⟩
 refine ⟨b, o, e2, hG2 _ _ _ ht, fun i hi => ?_⟩
 obtain ⟨h1, sv, h2, h3, _⟩ := hcl i hi
 exact ⟨h1, sv, h2, own_RdJ h3 hG, h3.nz⟩
theorem RdJ.rd {G : Nat → Prop} {w : World} {v : Value} {l : List Smp} (h : RdJ G w v l) (hG : ∀ b, G b → b < w.heap.size) : Rd w w.heap.size v l := by
 obtain ⟨A, c, e, hc, hA⟩ := h
 exact ⟨A, c, e, hc, hA.imp id fun ⟨b, o, e, hb, hcl⟩ => ⟨b, o, e, hG b hb, hcl⟩⟩
def NewJ (G : Nat → Prop) (w : World) (l : List Pts) (pre : List BlkX) (A B : World) (x : BlkX) : Prop :=
 (blksV l)[pre.length]? = some x.1 ∧ RdJ G w x.2.1 x.1.2 ∧ Nz x.2.1 ∧ OwnG EB 5 B A.heap.size x.2.2 (blkB x.1)
theorem NewJ.put {G : Nat → Prop} {w : World} {l : List Pts} {pre : List BlkX} {A B : World} {x : BlkX} (h : NewJ G w l pre A B x) {k : Nat} (hk : k < A.heap.size) (o : Obj) : NewJ G w l pre (A.putObj k o) (B.putObj k o) x :=
 ⟨h.1, h.2.1, h.2.2.1, by rw [World.putObj_size]; exact h.2.2.2.putLow hk o⟩
set_option maxRecDepth 100000 in
set_option maxHeartbeats 8000000 in
theorem iter_splitQ (G : Nat → Prop) (kt : TypeId → Bool) (hkt : kt 62 = false) (Z n Bb : Nat) (pv : Value) (l : List Pts) (w : World) (hn : 12 ≤ n) (hBb : w.cell? ⟨Bb, 0, none⟩ = some pv) (hbb : Bb < w.heap.size) (hZ : ∀ b, G b → b < w.heap.size) (hGK : ∀ A B, StJ G w A → KpU kt Z A B → StJ G A B) (hR : RdPJ G w pv l) (hT : TabT w) (hg : G 0) (hs : SmallP l) (hk : OkP l) :
  IterX kt Z Fence.wide n Tryz.prog 61 #[.pointer (some ⟨Bb, 0, none⟩)] encH (NewJ G w l) (fun xs => xs.map (fun x => x.1) = blksV l) (fun _ => True) (blksV l).length w := by
 intro lp J Jx W hW hY h0
 have HBW : Hid (W.cell? ⟨Bb, 0, none⟩ = some pv) := (hW.cell hbb).trans hBb
 have HZ : Hid (∀ b, G b → b < W.heap.size) := fun b hb => Nat.lt_of_lt_of_le (hZ b hb) hW.size
 have HSW : Hid (StJ G w W) := StJ.of_below hW hZ
 have HGK := Lib.hid hGK
 have HWW : Hid (Below w.heap.size w W) := hW
 obtain ⟨N, hN⟩ : ∃ N, N = l.length := ⟨_, rfl⟩
 obtain ⟨A, c, rfl, hc, hA⟩ := id hR
 have hN2 : N ≤ 1000000 := by rw [hN]; exact hs.1
 rw [← hN] at HBW hc
 have HR := Lib.hid hR
 have HA := Lib.hid hA
 have HY := Lib.hid hY
 have HN := Lib.hid hN
 have HS := Lib.hid hs
 have HK := Lib.hid hk
 have HT := Lib.hid hT
 have HG := Lib.hid hg
 have h1 : 1 ≤ n := by omega
 have c0 := HBW.out
 clear hGK hY hW hR hA hZ hs hk hT hg hN hBb hbb hc
 refine callsIn_of_wp Tryz.func61 rfl trivial ?_ rfl
 simp only [Tryz.ntmps61, List.size_toArray, List.length_cons, List.length_nil, Nat.reduceAdd, Nat.reduceSub, Array.replicate_succ, Array.replicate_zero, List.push_toArray, List.append_toArray, List.nil_append, List.cons_append]
 gi_wp2_with fail
 clear c0
 gi_loopw [4, 5, 6, 7, 9, 10, 11, 12, 13, 16, 22, 31, 46] (fun _ _ _ _ _ _ _ _ _ iv _ _ _ wl => ∃ (k : Nat) (pre : List BlkX) (W0 : World), iv = .int .i64 (k : Int) ∧ k ≤ N ∧ Hid (pre.map (fun x => x.1) = blksV (l.take k)) ∧ Hid (J pre W0) ∧ Hid (Below W0.heap.size W0 wl) ∧ Hid (StJ G W wl))
  (fun _ _ _ _ _ _ _ _ _ iv _ _ _ _ => N - (intOf iv).toNat)
 case atStart => exact ⟨0, [], W, rfl, Nat.zero_le _, rfl, h0, Below.refl _ _, StJ.refl _ _⟩
 case round =>
  obtain ⟨k, pre, W0, rfl, hkN, HP, HJ, HB0, HBZ⟩ := hrel
  by_cases hlt : k < N
  ·have hlt2 : k < l.length := by rw [← HN.out]; exact hlt
   rcases HA.out with h0 | ⟨b, o, e, hb, hcl⟩
   ·subst h0; simp at hlt2
   subst e
   have HCL := Lib.hid hcl
   have HBb := Lib.hid hb
   obtain ⟨p, hp⟩ : ∃ p, p = l[k] := ⟨_, rfl⟩
   have hpm : p ∈ l := by rw [hp]; exact List.getElem_mem hlt2
   have HPk := Lib.hid (HK.out p hpm)
   have HPl : Hid (p.2.length ≤ 1000000) := HS.out.2 p hpm
   obtain ⟨c0, sv, c1, hsv, hnz⟩ : PtJ G wr b (o + k * 2) p := by
    rw [hp]
    exact (hcl k hlt2).st (HSW.out.trans HBZ.out) hb
   have HRS : Hid (RdJ G w sv p.2) := by
    obtain ⟨_, sv2, e2, h2, _⟩ := hcl k hlt2
    have e3 := ((HSW.out.trans HBZ.out).cell hb).trans e2
    rw [c1] at e3
    injection e3 with e3
    rw [e3, hp]; exact h2
   have HNZ := Lib.hid hnz
   have HBT := Lib.hid (blks_take hlt2)
   rw [← hp] at HBT
   obtain ⟨pid, ps⟩ := p
   obtain ⟨As, cs, rfl, _⟩ := hsv
   obtain ⟨R, hR⟩ : ∃ R, R = ps.length := ⟨_, rfl⟩
   simp only at c0 c1 HRS HPk HPl HBT
   rw [← hR] at c1
   have HRl := Lib.hid hR
   have i1 : (k : Int) < (N : Int) := by omega
   clear hcl hb hp hpm hnz hR
   have hpb : (wr.alloc (.cells #[.int .i64 pid, .slice As R cs] 62)).heap[wr.heap.size]? = some (.cells #[.int .i64 pid, .slice As R cs] 62 (0, 0)) := heap_alloc_new wr _
   have HPB := Lib.hid hpb
   have HZr : Hid (∀ b, G b → b < wr.heap.size) := fun b hb => Nat.lt_of_lt_of_le (HZ.out b hb) HBZ.out.size
   have HB1 : Hid (Below W0.heap.size W0 (wr.alloc (.cells #[.int .i64 pid, .slice As R cs] 62))) := HB0.out.trans (((Below.refl _ wr).alloc (Nat.le_refl _) _).mono HB0.out.size)
   have HBZ1 : Hid (StJ G W (wr.alloc (.cells #[.int .i64 pid, .slice As R cs] 62))) := HBZ.out.trans (StJ.of_below ((Below.refl _ wr).alloc (Nat.le_refl _) _) HZr.out)
   obtain ⟨pb, hpbs⟩ : ∃ pb, pb = wr.heap.size := ⟨_, rfl⟩
   rw [← hpbs] at HPB HZr
   obtain ⟨wq, hwq⟩ : ∃ wq, wq = wr.alloc (.cells #[.int .i64 pid, .slice As R cs] 62) := ⟨_, rfl⟩
   rw [← hwq] at HPB HB1 HBZ1
   have HPP : Hid (pre.map (fun x => x.1) ++ (cutsF ps.length ps).map (fun s => (pid, s)) = blksV (l.take (k + 1))) := by show _ = _; rw [HBT.out, HP.out]
   gi_wp2_with fail
   rw [← hpbs, ← hwq]
   clear hpb hpbs hwq HB0 HBZ c0 c1 HP
   gi_loopw [5, 6, 7, 9, 10, 11, 12, 13, 22, 31, 46] (fun rv _ _ _ _ _ _ _ _ _ _ wl => ∃ (r m : Nat) (A' : Option Addr) (c' : Nat) (pre : List BlkX) (W0 : World), rv = .slice A' m c' ∧ Hid (m + r = R) ∧ Hid (RdJ G w (.slice A' m c') (ps.drop r)) ∧ Hid (pre.map (fun x => x.1) ++ (cutsF (ps.drop r).length (ps.drop r)).map (fun s => (pid, s)) = blksV (l.take (k + 1))) ∧ Hid (J pre W0) ∧ Hid (Below W0.heap.size W0 wl) ∧ Hid (StJ G W wl) ∧ Hid (wl.heap[pb]? = some (.cells #[.int .i64 pid, .slice As R cs] 62 (0, 0))))
    (fun rv _ _ _ _ _ _ _ _ _ _ _ => lenOf rv)
   case atStart => exact ⟨0, R, As, cs, pre, W0, rfl, rfl, by rw [HRl.out]; exact HRS.out, HPP, HJ, HB1, HBZ1, HPB⟩
   case round =>
    clear HJ HB1 HBZ1 HPB HPP
    obtain ⟨r, m, A', c', pre, W0, rfl, HM, HRD, HPP, HJ, HB1, HBZ1, HPB⟩ := hrel
    by_cases hm : m = 0
    ·subst hm
     have HPE : Hid (pre.map (fun x => x.1) = blksV (l.take (k + 1))) := by
      have h := HPP.out
      have e : ps.drop r = [] := List.drop_eq_nil_of_le (by have := HM.out; have := HRl.out; omega)
      rw [e] at h
      show _ = _
      rw [← h]
      simp [cutsF]
     gi_wp2_with fail
     exact ⟨⟨k + 1, pre, W0, by go_num, by omega, HPE, HJ, HB1, HBZ1⟩, by simp [intOf]; omega⟩
    ·have i2 : (m : Int) > 0 := by omega
     have i3 : 0 < m := by omega
     obtain ⟨A2, c2, e2, hc2, hA2⟩ := id HRD.out
     have hml : m = (ps.drop r).length := by rw [List.length_drop]; have := HM.out; have := HRl.out; omega
     rw [← hml] at e2 hc2
     injection e2 with e2 e3 e4
     subst e2 e4
     rcases hA2 with h0 | ⟨g, o2, rfl, hgb, hcl⟩
     ·rw [h0] at hml; exact absurd hml hm
     obtain ⟨q, hq⟩ : ∃ q, q = min m 16 := ⟨_, rfl⟩
     have hqm : min (m : Int) 16 = (q : Int) := by omega
     have hq1 : 1 ≤ q := by omega
     have hq2 : q ≤ m := by omega
     have hq3 : q ≤ 16 := by omega
     have hqc : q ≤ c' := by omega
     have HQ := Lib.hid hq
     have HML := Lib.hid hml
     obtain ⟨ls, hls⟩ : ∃ ls, ls = ps.drop r := ⟨_, rfl⟩
     rw [← hls] at hcl HPP HRD HML
     have HLS := Lib.hid hls
     have HCS := Lib.hid hcl
     have HGB := Lib.hid hgb
     clear hq hml hls hcl hgb e3
     have HZr1 : Hid (∀ b, G b → b < wr.heap.size) := fun b hb => Nat.lt_of_lt_of_le (HZ.out b hb) HBZ1.out.size
     gi_wp2_with fail
     obtain ⟨V, hV⟩ : ∃ V, V = wr := ⟨_, rfl⟩
     subst hV
     gi_loopw [6, 7, 9, 31] (fun tv vv _ iv wl => ∃ i : Nat, i ≤ q ∧ iv = .int .i64 (i : Int) ∧ Hid (OwnG EI 2 wl V.heap.size tv (tickL (ls.take i))) ∧ Hid (OwnG EV 64 wl V.heap.size vv (valsL (ls.take i))) ∧ Hid (Below V.heap.size V wl))
      (fun _ _ _ iv _ => q - (intOf iv).toNat)
     case atStart => exact ⟨0, Nat.zero_le _, rfl, OwnG.nil _ _, OwnG.nil _ _, Below.refl _ _⟩
     case round =>
      obtain ⟨i, hi, rfl, HO1, HO2, HBi⟩ := hrel
      by_cases hiq : i < q
      ·have hil : i < ls.length := by rw [← HML.out]; omega
       obtain ⟨x, hx⟩ : ∃ x, x = ls[i] := ⟨_, rfl⟩
       have hlow : StJ G w wr := HSW.out.trans (HBZ1.out.trans (StJ.of_below HBi.out HZr1.out))
       obtain ⟨d0, d1, d2, d3⟩ : Cell4 wr g (o2 + i * 4) x := by rw [hx]; exact Cell4.st (HCS.out i hil) hlow HGB.out
       have HTK : Hid (ls.take (i + 1) = ls.take i ++ [x]) := by show _ = _; rw [List.take_succ_eq_append_getElem hil, hx]
       have j1 : (i : Int) < (q : Int) := by omega
       have j2 : i < q := hiq
       obtain ⟨xt, xa, xb, xc⟩ := x
       simp only at d0 d1 d2 d3
       obtain ⟨sb, hsb⟩ : ∃ sb, sb = wr.heap.size := ⟨_, rfl⟩
       have HSB : Hid ((wr.alloc (.cells #[.int .i64 xt, .int .i64 xa, .int .i64 xb, .int .i64 xc] 66)).heap[sb]? = some (.cells #[.int .i64 xt, .int .i64 xa, .int .i64 xb, .int .i64 xc] 66 (0, 0))) := by show _ = _; rw [hsb]; exact heap_alloc_new wr _
       have HLT : Hid ((tickL (ls.take i)).length ≤ 16 ∧ (valsL (ls.take i)).length ≤ 16) := by show _ ∧ _; unfold tickL valsL; simp; omega
       have hC1 := CellG.mk (E := EI) (w := wr.alloc (.cells #[.int .i64 xt, .int .i64 xa, .int .i64 xb, .int .i64 xc] 66)) (cs := #[.int .i64 xt]) (x := xt) rfl 2
       rw [World.size_alloc] at hC1
       have HC1 := Lib.hid hC1
       have HSZ : Hid (V.heap.size ≤ ((wr.alloc (.cells #[.int .i64 xt, .int .i64 xa, .int .i64 xb, .int .i64 xc] 66)).alloc (.cells #[.int .i64 xt] 2)).heap.size) := by have := HBi.out.size; show _ ≤ _; simp; omega
       have hLt : (tickL (ls.take i)).length = i := by unfold tickL; simp; omega
       have hLv : (valsL (ls.take i)).length = i := by unfold valsL; simp; omega
       obtain ⟨A6, c6, e6, _⟩ := HO1.out.rd
       obtain ⟨A7, c7, e7, _⟩ := HO2.out.rd
       rw [hLt] at e6
       rw [hLv] at e7
       subst e6 e7
       have hl1 : ((tickL (ls.take i)).length + 1) * 8 ≤ 140737488355328 := by omega
       have hl2 : ((valsL (ls.take i)).length + 1) * 24 ≤ 140737488355328 := by omega
       have HL2 := Lib.hid hl2
       have HLt := Lib.hid hLt
       have HLv := Lib.hid hLv
       clear hx hlow hil hC1 hLt hLv hl2
       gi_wp2_with (first | (gi_at_builtin; refine app1GI EI rfl _ _ 73 2 rfl Tryz.underlying73 info_i rfl (by decide) V.heap.size _ (tickL (ls.take i)) xt rfl ((HO1.out.alloc _).alloc _) _ 0 1 rfl HC1.out hl1 HSZ.out ?_) | fail)
       intro v1 w1 hown hg hloc
       have hkk : ∀ k, (Value.slice A6 i c6).ownBlock = some k → V.heap.size ≤ k ∧ k < wr.heap.size := fun k e => HO1.out.blk e
       have hS1 : w1.heap[sb]? = some (.cells #[.int .i64 xt, .int .i64 xa, .int .i64 xb, .int .i64 xc] 66 (0, 0)) := by
        refine (hg.block sb (by rw [hsb]; simp; omega) (fun e => by have := (hkk sb e.symm).2; omega)).trans ?_
        exact (Below.heap_alloc _ _ _ (by rw [hsb]; simp)).trans HSB.out
       have e1 : w1.cell? ⟨sb, 1, none⟩ = some (.int .i64 xa) := by simp [World.cell?, hS1]
       have e2 : w1.cell? ⟨sb, 2, none⟩ = some (.int .i64 xb) := by simp [World.cell?, hS1]
       have e3 : w1.cell? ⟨sb, 3, none⟩ = some (.int .i64 xc) := by simp [World.cell?, hS1]
       rw [hsb] at e1 e2 e3
       have HO1b : Hid (OwnG EI 2 w1 V.heap.size v1 (tickL (ls.take (i + 1)))) := by
        show OwnG _ _ _ _ _ _
        rw [HTK.out]
        unfold tickL
        rw [List.map_append]
        exact hown
       have HO2b : Hid (OwnG EV 64 w1 V.heap.size (.slice A7 i c7) (valsL (ls.take i))) := ((HO2.out.alloc _).alloc _).kept hg (HO2.out.other HO1.out (by decide))
       have HBb : Hid (Below V.heap.size V w1) := ((HBi.out.alloc HBi.out.size _).alloc (by have := HBi.out.size; simp; omega) _).grown hg HSZ.out (fun k e => (hkk k e).1)
       have hC2 := CellG.mk (E := EV) (w := w1) (cs := #[.int .i64 xa, .int .i64 xb, .int .i64 xc]) (x := (xa, xb, xc)) rfl 64
       have HC2 := Lib.hid hC2
       have HSZ2 : Hid (V.heap.size ≤ (w1.alloc (.cells #[.int .i64 xa, .int .i64 xb, .int .i64 xc] 64)).heap.size) := by have := HBb.out.size; show _ ≤ _; simp; omega
       obtain ⟨A8, n8, c8, e8⟩ := hown.sl
       subst e8
       have hl3 := HL2.out
       clear hkk hS1 hown hg hloc hsb hC2 HSB HC1 HSZ HO1 HO2 d0 d1 d2 d3 hl1
       gi_wp2_with (first | (gi_at_builtin; refine app1GI EV rfl _ _ 103 64 rfl Tryz.underlying103 info_v rfl (by decide) V.heap.size _ (valsL (ls.take i)) (xa, xb, xc) rfl (HO2b.out.alloc _) _ 0 1 rfl HC2.out hl3 HSZ2.out ?_) | fail)
       intro v2 w2 hown hg hloc
       have HO2c : Hid (OwnG EV 64 w2 V.heap.size v2 (valsL (ls.take (i + 1)))) := by
        show OwnG _ _ _ _ _ _
        rw [HTK.out]
        unfold valsL
        rw [List.map_append]
        exact hown
       have HO1c : Hid (OwnG EI 2 w2 V.heap.size (.slice A8 n8 c8) (tickL (ls.take (i + 1)))) := (HO1b.out.alloc _).kept hg (HO1b.out.other HO2b.out (by decide))
       have HBc : Hid (Below V.heap.size V w2) := (HBb.out.alloc HBb.out.size _).grown hg HSZ2.out (fun k e => (HO2b.out.blk e).1)
       clear hown hg hloc hl3 e1 e2 e3
       gi_wp2_with fail
       go_roundw
       case rel => exact ⟨i + 1, by omega, by go_num, HO1c, HO2c, HBc⟩
       case measure => simp [intOf]; omega
      ·have hiq2 : q = i := by omega
       subst hiq2
       have hlow : StJ G w wr := HSW.out.trans (HBZ1.out.trans (StJ.of_below HBi.out HZr1.out))
       have hRt : ∀ s ∈ ls, rightS s = true := fun s hs => HPk.out.2.2 s (by rw [HLS.out] at hs; exact List.mem_of_mem_drop hs)
       have hne : ls ≠ [] := by intro e; have := HML.out; rw [e] at this; exact hm this
       have hq := HQ.out
       rw [HML.out] at hq
       obtain ⟨kk, hkk⟩ : ∃ kk, kk = cutN ls := ⟨_, rfl⟩
       have hk1 := cut_pos hRt hne
       have hk2 := cut_le ls
       have hct := cut_told hq
       rw [← hkk] at hk1 hk2 hct
       obtain ⟨bs, hbs⟩ : ∃ bs, bs = ls.take kk := ⟨_, rfl⟩
       have hkq : kk ≤ q := by omega
       have hkm : kk ≤ m := by have := HML.out; omega
       rw [← hbs] at hct
       have HKK := Lib.hid hkk
       have HBS := Lib.hid hbs
       have hTr : TabT wr := fun i hi => (hlow.cell HG.out).trans (HT.out i hi)
       have hvl : (valsL (ls.take q)).length = q := by unfold valsL; simp; omega
       have hbl : bs.length = kk := by rw [hbs, List.length_take]; omega
       have hbr : ∀ s ∈ bs, rightS s = true := fun s hs => hRt s (by rw [hbs] at hs; exact List.mem_of_mem_take hs)
       have htb : (tickL (ls.take q)).take kk = tickL bs := by
        rw [hbs]; unfold tickL
        rw [← List.map_take, List.take_take, Nat.min_eq_left hkq]
       have htl : (tickL (ls.take q)).length = q := by unfold tickL; simp; omega
       have KP : Hid (CallsIn Fence.wide (n - 1) Tryz.prog 62 #[u7] wr fun e w' => ∃ A n c, e = .returned (.tuple #[.slice A n c, .int .i64 (expL bs), .int .i64 (kk : Nat)]) ∧ OwnG EI 2 w' wr.heap.size (.slice A n c) (mantL bs) ∧ Below wr.heap.size wr w') := callsIn_wide.2 (by
        have h := dpack_walk u7 (valsL (ls.take q)) wr hTr HO2.out.rd (fun y hy => by
         obtain ⟨s, hs, rfl⟩ := List.mem_map.1 hy
         exact (rightS_in (hRt s (List.mem_of_mem_take hs))).2) (by omega)
        rw [hct.1, hct.2] at h
        refine h.mono ?_
        rintro e w' ⟨mv, he, ho, hb⟩
        obtain ⟨A, n, c, rfl⟩ := ho.sl
        exact ⟨A, n, c, he, ho, hb⟩)
       obtain ⟨A6, c6, e6, hc6, _⟩ := HO1.out.rd
       rw [htl] at e6 hc6
       subst e6
       have hkc : kk ≤ c6 := by omega
       have HRT : Hid (∀ w', Below wr.heap.size wr w' → RdG EI w' w'.heap.size (.slice A6 kk c6) (tickL bs)) := fun w' hb => by
        have h := HO1.out.rd.on hb
        rw [← htb]
        exact h.cutTo htl.symm hkq
       have hbg : goodL (valsL bs) = true := by rw [hbs, hkk]; exact cut_good ls
       have HMI : Hid (∀ x ∈ mantL bs, In64 x) := fun x hx => by
        unfold mantL at hx
        obtain ⟨v, hv, rfl⟩ := List.mem_map.1 hx
        exact mant_in (good_has hbg v hv).1 (good_has hbg v hv).2
       have HTI : Hid (∀ x ∈ tickL bs, In64 x) := fun x hx => by
        unfold tickL at hx
        obtain ⟨s, hs, rfl⟩ := List.mem_map.1 hx
        exact (rightS_in (hbr s hs)).1
       have HEI := least_in (fun v hv => (good_has hbg v hv).1)
       have HEX : Hid (-300 ≤ expL bs ∧ expL bs ≤ 290) := HEI
       have HLM : Hid ((mantL bs).length = kk ∧ (tickL bs).length = kk) := by show _ ∧ _; unfold mantL valsL tickL; simp [hbl]
       obtain ⟨pu, hpu⟩ : ∃ pu : Nat, pid = (pu : Int) := ⟨pid.toNat, by have := HPk.out.1; omega⟩
       have hpl : pu ≤ 1073741824 := by have := HPk.out.2.1; omega
       have HPU := Lib.hid hpu
       have hwp : IntKind.u64.wrap (pu : Int) = (pu : Int) := by rw [IntKind.wrap_u64]; omega
       have hkz : ((kk : Int) == 0) = false := by simp; omega
       have hpw : pb < wr.heap.size := Nat.lt_of_lt_of_le (Array.getElem?_eq_some_iff.1 HPB.out).1 HBi.out.size
       have HPBr : Hid (wr.heap[pb]? = some (.cells #[.int .i64 pid, .slice As R cs] 62 (0, 0))) := (HBi.out.block _ (Array.getElem?_eq_some_iff.1 HPB.out).1).trans HPB.out
       have HPW := Lib.hid hpw
       have hf1 : Fence.wide.fn 62 := trivial
       have hf2 : Fence.wide.fn 35 := trivial
       have hf3 : Fence.wide.fn 63 := trivial
       have hf4 : Fence.wide.fn 64 := trivial
       clear hlow hRt hne hq hkk hct hbs hTr hvl hbr htb htl hbg HEI hbl HO1 HO2 hpu
       gi_wp2_with fail
       refine KP.out.mono ?_
       rintro e w1 ⟨Am, nm, cm, rfl, hM, hB1⟩
       have HM1 := Lib.hid hM
       have HB1' := Lib.hid hB1
       have c0 : w1.cell? ⟨pb, 0, none⟩ = some (.int .i64 (pu : Int)) := by rw [hB1.cell HPW.out]; simp [World.cell?, HPBr.out, HPU.out]
       have KPut : Hid (CallsIn Fence.wide (n - 1) Tryz.prog 35 #[.slice none 0 0, .int .u64 (pu : Int)] w1 fun e w' => ∃ A n c, e = .returned (.slice A n c) ∧ OwB w' w1.heap.size A n c (putV pu) ∧ Below w1.heap.size w1 w') := callsIn_wide.2 ((vPut_walk (.slice none 0 0) [] pu w1 (RdG.nil _ _) (by omega) (by simp)).mono (by
        rintro e w' ⟨v', rfl, ho, hb⟩
        obtain ⟨A, n, c, rfl, h⟩ := ho.ob
        exact ⟨A, n, c, rfl, h, hb⟩))
       have HC0 := Lib.hid c0
       clear hM hB1 KP
       gi_wp2_with fail
       refine KPut.out.mono ?_
       rintro e w2 ⟨A9, n9, c9, rfl, hb2, hB2⟩
       have HO9 := Lib.hid hb2
       have HB2 := Lib.hid hB2
       have KE : Hid (CallsIn Fence.wide (n - 1) Tryz.prog 63 #[.slice A6 kk c6] w2 fun e w' => ∃ A n c, e = .returned (.slice A n c) ∧ OwB w' w2.heap.size A n c (encV (tickL bs)) ∧ Below w2.heap.size w2 w') := callsIn_wide.2 (encode_walk _ _ w2 (HRT.out w2 (HB1'.out.trans (hB2.mono HB1'.out.size))) HTI.out (by have := HLM.out.2; omega))
       clear hb2 hB2 KPut c0
       gi_wp2_with fail
       refine KE.out.mono ?_
       rintro e w3 ⟨Ae, ne, ce, rfl, hE3, hB3⟩
       have HE3 := Lib.hid hE3
       have HB13 : Hid (Below w1.heap.size w1 w3) := HB2.out.trans (hB3.mono HB2.out.size)
       have HO93 : Hid (OwnG EB 5 w3 w1.heap.size (.slice A9 n9 c9) (putV pu)) := HO9.out.1.below hB3
       have hpn := put_len 9 pu (by omega)
       have hen := enc_len HTI.out (by have := HLM.out.2; omega)
       have HLN : Hid ((putV pu).length ≤ 10 ∧ (encV (tickL bs)).length ≤ 200) := ⟨hpn, by have := HLM.out.2; have := HKK.out; have := (cut_le ls).2; omega⟩
       have hl4 : ((putV pu).length + (encV (tickL bs)).length) * 1 ≤ 140737488355328 := by have := HLN.out; omega
       have HNE : Hid (encV (tickL bs) ≠ []) := enc_ne (by have := HLM.out.2; omega)
       clear hE3 hB3 KE hpn hen
       gi_wp2_with (first | (gi_at_builtin; refine appNGI EB rfl _ _ 23 5 rfl Tryz.underlying23 info_b rfl (by decide) w1.heap.size _ (putV pu) _ (encV (tickL bs)) w3.heap.size rfl HO93.out rfl HE3.out.1.rd HNE.out hl4 HB13.out.size ?_) | fail)
       intro v4 w4 hown hg hloc
       have HB14 : Hid (Below w1.heap.size w1 w4) := HO93.out.step HB13.out HB13.out.size hg
       have HO4 := Lib.hid hown
       obtain ⟨A4, n4, c4, e4⟩ := hown.sl
       subst e4
       obtain ⟨b4, hb4⟩ : ∃ b4, b4 = putV pu ++ encV (tickL bs) := ⟨_, rfl⟩
       rw [← hb4] at HO4
       have HB4 := Lib.hid hb4
       have hl5 : b4.length ≤ 100000 := by rw [hb4, List.length_append]; have := HLN.out; omega
       have KA : Hid (CallsIn Fence.wide (n - 1) Tryz.prog 64 #[.slice A4 n4 c4, .slice (some ⟨w4.heap.size, 0, none⟩) 1 1] (w4.alloc (.cells #[.int .i64 (expL bs)] 2)) fun e w' => ∃ A n c, e = .returned (.slice A n c) ∧ OwB w' (w4.heap.size + 1) A n c (b4 ++ allV [expL bs]) ∧ Below w4.heap.size w4 w' ∧ w4.heap.size + 1 ≤ w'.heap.size) := callsIn_wide.2 (by
        have hc := CellG.mk (E := EI) (w := w4) (cs := #[.int .i64 (expL bs)]) (x := expL bs) rfl 2
        have h := vAll_walk (.slice A4 n4 c4) b4 (.slice (some ⟨w4.heap.size, 0, none⟩) 1 1) [expL bs] (w4.alloc (.cells #[.int .i64 (expL bs)] 2)) (HO4.out.alloc _).rd
         ⟨some ⟨w4.heap.size, 0, none⟩, 1, rfl, Nat.le_refl _, fun e => (by cases e), .inr ⟨w4.heap.size, 0, rfl, by simp, fun i hi => by
          obtain rfl : i = 0 := by simp at hi; omega
          simpa using hc⟩⟩ (fun x hx => by rw [List.mem_singleton] at hx; subst hx; unfold In64; have := HEX.out; omega) hl5 (by simp)
        refine h.mono ?_
        rintro e w' ⟨v', rfl, ho, hb⟩
        obtain ⟨A, n, c, rfl, h⟩ := ho.ob
        have hz := hb.size
        rw [World.size_alloc] at h hb hz
        exact ⟨A, n, c, rfl, h, ((Below.refl _ w4).alloc (Nat.le_refl _) _).trans (hb.mono (by omega)), hz⟩)
       clear hown hg hloc hl4 hb4 HB13 HO93 HE3
       gi_wp2_with fail
       refine KA.out.mono ?_
       rintro e w5 ⟨A5, n5, c5', rfl, hO5, hB5, hS5⟩
       have HO5 := Lib.hid hO5
       have HB15 : Hid (Below w1.heap.size w1 w5) := HB14.out.trans (hB5.mono HB14.out.size)
       have HS45 := Lib.hid hB5.size
       have HB45 := Lib.hid hB5
       have HSB5 := Lib.hid hS5
       have HW04 : Hid (W0.heap.size ≤ w4.heap.size) := Nat.le_trans (Nat.le_trans (Nat.le_trans HB1.out.size HBi.out.size) HB1'.out.size) HB14.out.size
       have HNW : Hid ((blksV l)[pre.length]? = some ((pu : Int), bs) ∧ RdJ G w (.slice (some ⟨g, o2, none⟩) kk kk) bs) := by
        have hne : ls ≠ [] := by intro e; have := HML.out; rw [e] at this; exact hm this
        have h1 := blks_here HPP.out hne
        rw [List.length_map, ← HKK.out, ← HBS.out, HPU.out] at h1
        have hk2 := (cut_le ls).1
        have hk3 := HKK.out
        have hbl : bs.length = kk := by rw [HBS.out, List.length_take]; omega
        refine ⟨h1, some ⟨g, o2, none⟩, kk, by rw [hbl], by omega, .inr ⟨g, o2, rfl, HGB.out, fun i hi => ?_⟩⟩
        have h2 := HCS.out i (by omega)
        have e2 : bs[i] = ls[i]'(by omega) := by simp [HBS.out]
        rw [e2]; exact h2
       have HPL : Hid (pre.length < (blksV l).length) := (List.getElem?_eq_some_iff.1 HNW.out.1).1
       clear hO5 hB5 KA hl5
       gi_wp2_with fail

       have hkcc : kk ≤ c' := by omega
       have HpB : Hid (pb < w1.heap.size) := Nat.lt_of_lt_of_le HPW.out HB1'.out.size
       have HMR : Hid (∀ w', Below w5.heap.size w5 w' → RdG EI w' w'.heap.size (.slice Am nm cm) (mantL bs)) := fun w' hb => (HM1.out.rd.on HB15.out).on hb
       have HM64 := HMI
       have KE2 : Hid (∀ w', Below w5.heap.size w5 w' → CallsIn Fence.wide (n - 1) Tryz.prog 63 #[.slice Am nm cm] w' fun e w'' => ∃ A n c, e = .returned (.slice A n c) ∧ OwB w'' w'.heap.size A n c (encV (mantL bs)) ∧ Below w'.heap.size w' w'') := fun w' hb => callsIn_wide.2 (encode_walk _ _ w' (HMR.out w' hb) HMI.out (by have := HLM.out.1; have := HKK.out; have := (cut_le ls).2; omega))
       have c5 : w5.drew.cell? ⟨pb, 0, none⟩ = some (.int .i64 (pu : Int)) := (HB15.out.cell HpB.out).trans HC0.out
       have HC5 := Lib.hid c5
       have HBd : Hid (Below w5.heap.size w5 w5.drew) := ((Ext.refl w5).drewN _).below
       have hmix : Tryz.prog.follows Departure.mixedOrders = true := by kernel_rfl
       have HLX : Hid ((b4 ++ allV [expL bs]).length ≤ 1000 ∧ (encV (mantL bs)).length ≤ 1000 ∧ encV (mantL bs) ≠ [] ∧ (b4 ++ allV [expL bs]) ++ encV (mantL bs) = blkB ((pu : Int), bs)) := by
        have h1 := allV_len (l := [expL bs]) (fun x hx => by rw [List.mem_singleton] at hx; subst hx; unfold In64; have := HEX.out; omega)
        have h2 := enc_len HMI.out (by have := HLM.out.1; have := HKK.out; have := (cut_le ls).2; omega)
        have h3 := HLM.out.1
        have h4 := (cut_le ls).2
        have h5 := HKK.out
        have h6 := HLN.out
        refine ⟨by rw [List.length_append, HB4.out, List.length_append]; simp at h1; omega, by omega, enc_ne (by omega), ?_⟩
        rw [HB4.out]
        unfold blkB
        simp only [List.append_assoc, Int.toNat_natCast]
       refine wpIn_region_any hmix ?_
       change wpAnyIn _ _ _ _ _ _ _ _ _ (World.drew _)
       clear c5
       have c5 := HC5.out
       refine wpAnyIn_take (i := 0) (v := ?_) rfl rfl (by kernel_rfl) (by kernel_rfl) (by kernel_rfl) (fun _ _ _ h => h) ⟨Or.inl ⟨by rfl, ?_⟩, fun _ => rfl⟩ ?_
       rotate_left
       · intro w
         (go_simp <;> with_reducible rfl)
       refine wpAnyIn_take (i := 1) (v := ?_) rfl rfl (by kernel_rfl) (by kernel_rfl) (by kernel_rfl) (fun _ _ _ h => h) ⟨Or.inl ⟨by rfl, ?_⟩, fun _ => rfl⟩ ?_
       rotate_left
       · intro w
         (go_simp <;> with_reducible rfl)
       refine wpAnyIn_take (i := 3) (v := ?_) rfl rfl (by kernel_rfl) (by kernel_rfl) (by kernel_rfl) (fun _ _ _ h => h) ⟨Or.inl ⟨by rfl, ?_⟩, fun _ => rfl⟩ ?_
       rotate_left
       · intro w
         (go_simp <;> with_reducible rfl)
       refine wpAnyIn_take (i := 4) (v := ?_) rfl rfl (by kernel_rfl) (by kernel_rfl) (by kernel_rfl) (fun _ _ _ h => h) ⟨Or.inl ⟨by rfl, ?_⟩, fun _ => rfl⟩ ?_
       rotate_left
       · intro w
         (go_simp <;> with_reducible rfl)
       refine wpAnyIn_take (i := 5) (v := ?_) rfl rfl (by kernel_rfl) (by kernel_rfl) (by kernel_rfl) (fun _ _ _ h => h) ⟨Or.inl ⟨by rfl, ?_⟩, fun _ => rfl⟩ ?_
       rotate_left
       · intro w
         (go_simp <;> with_reducible rfl)
       refine wpAnyIn_take (i := 6) (v := ?_) rfl rfl (by kernel_rfl) (by kernel_rfl) (by kernel_rfl) (fun _ _ _ h => h) ⟨Or.inl ⟨by rfl, ?_⟩, fun _ => rfl⟩ ?_
       rotate_left
       · intro w
         (go_simp <;> with_reducible rfl)
       refine wpAnyIn_take (i := 8) (v := ?_) rfl rfl (by kernel_rfl) (by kernel_rfl) (by kernel_rfl) (fun _ _ _ h => h) ⟨Or.inl ⟨by rfl, ?_⟩, fun _ => rfl⟩ ?_
       rotate_left
       · intro w
         (go_simp <;> with_reducible rfl)
       refine wpAnyIn_take (i := 9) (v := ?_) rfl rfl (by kernel_rfl) (by kernel_rfl) (by kernel_rfl) (fun _ _ _ h => h) ⟨Or.inl ⟨by rfl, ?_⟩, fun _ => rfl⟩ ?_
       rotate_left
       · intro w
         (go_simp <;> with_reducible rfl)
       refine wpAnyIn_ready (rs := [2, 10]) (by kernel_rfl) (by simp) ?_
       refine AllReadyIn.cons rfl (fun K hK => ?_) (AllReadyIn.cons rfl (fun K hK => ?_) AllReadyIn.nil)
       focus
        go_simp
        refine hK _ _ ?_
        clear hK K
        refine wpAnyIn_take (i := 7) (v := ?_) rfl rfl (by kernel_rfl) (by kernel_rfl) (by kernel_rfl) (fun _ _ _ h => h) ⟨Or.inl ⟨by rfl, ?_⟩, fun _ => rfl⟩ ?_
        rotate_left
        · intro w
          (go_simp <;> with_reducible rfl)
        refine wpAnyIn_ready (rs := [10]) (by kernel_rfl) (by simp) ?_
        refine AllReadyIn.cons rfl (fun K hK => ?_) AllReadyIn.nil
       all_goals
        go_simp
        refine (KE2.out _ HBd.out).mono ?_
        rintro e w6 ⟨A7, n7, c7, rfl, hE, hB⟩
        have HE6 := Lib.hid hE
        have HB56 : Hid (Below w5.heap.size w5 w6) := HBd.out.trans hB
        have HO6 : Hid (OwnG EB 5 w6 (w4.heap.size + 1) (.slice A5 n5 c5') (b4 ++ allV [expL bs])) := HO5.out.1.below HB56.out
        have c6w : w6.cell? ⟨pb, 0, none⟩ = some (.int .i64 (pu : Int)) := (HB56.out.cell (Nat.lt_of_lt_of_le HpB.out HB15.out.size)).trans HC5.out
        have HC6 := Lib.hid c6w
        clear hE hB
        dsimp only
        refine hK _ _ ?_
        clear hK K
       focus
        refine wpAnyIn_ready (rs := [11]) (by kernel_rfl) (by simp) ?_
        refine AllReadyIn.cons rfl (fun K hK => ?_) AllReadyIn.nil
       rotate_left
       focus
        refine wpAnyIn_ready (rs := [2, 11]) (by kernel_rfl) (by simp) ?_
        refine AllReadyIn.cons rfl (fun K hK => ?_) (AllReadyIn.cons rfl (fun K hK => ?_) AllReadyIn.nil)
       focus
        go_simp
        refine hK _ _ ?_
        clear hK K
        refine wpAnyIn_take (i := 7) (v := ?_) rfl rfl (by kernel_rfl) (by kernel_rfl) (by kernel_rfl) (fun _ _ _ h => h) ⟨Or.inl ⟨by rfl, ?_⟩, fun _ => rfl⟩ ?_
        rotate_left
        · intro w
          (go_simp <;> with_reducible rfl)
        refine wpAnyIn_ready (rs := [11]) (by kernel_rfl) (by simp) ?_
        refine AllReadyIn.cons rfl (fun K hK => ?_) AllReadyIn.nil
       all_goals
        refine step_appNGI rfl EB rfl _ _ 23 5 rfl Tryz.underlying23 info_b rfl (by decide) (w4.heap.size + 1) _ (b4 ++ allV [expL bs]) _ (encV (mantL bs)) w6.heap.size rfl HO6.out rfl HE6.out.1.rd HLX.out.2.2.1 (by have := HLX.out; omega) (Nat.le_trans HSB5.out HB56.out.size) ?_
        intro v7 w7 hown hg hloc
        have hcw7 : w7.cell? ⟨pb, 0, none⟩ = some (.int .i64 (pu : Int)) := by
         have hlt : pb < w4.heap.size := Nat.lt_of_lt_of_le HpB.out HB14.out.size
         have e := hg.block pb (Nat.lt_of_lt_of_le hlt (Nat.le_trans HS45.out HB56.out.size)) (fun e => by have := (HO6.out.blk e.symm).1; omega)
         have h := HC6.out
         unfold World.cell? at h ⊢
         rw [e]; exact h
        have HC7 := Lib.hid hcw7
        have HB7 : Hid (Below w4.heap.size w4 w7) := (HO6.out.lower (Nat.le_succ _)).step (HB45.out.trans (HB56.out.mono HS45.out)) (Nat.le_trans HS45.out HB56.out.size) hg
        have HO7 : Hid (OwnG EB 5 w7 (w4.heap.size + 1) v7 (blkB ((pu : Int), bs))) := by
         show OwnG _ _ _ _ _ _
         rw [← HLX.out.2.2.2]; exact hown
        have HBW7 : Hid (Below W0.heap.size W0 w7) := (HB1.out.trans ((HBi.out.mono HB1.out.size).trans ((HB1'.out.mono (Nat.le_trans HB1.out.size HBi.out.size)).trans (HB14.out.mono (Nat.le_trans (Nat.le_trans HB1.out.size HBi.out.size) HB1'.out.size))))).trans (HB7.out.mono (HW04.out))
        have hY1 := HY.out pre (((pu : Int), bs), .slice (some ⟨g, o2, none⟩) kk kk, v7) W0 w7 HJ.out HPL.out HBW7.out ⟨HNW.out.1, HNW.out.2, fun n c e => (by cases e), HO7.out.lower (Nat.le_trans HW04.out (Nat.le_succ _))⟩
        obtain ⟨fn, tmps, assign, body, hy, hRd⟩ := hY1
        have HR2 := Lib.hid hRd
        dsimp only [encH] at hy
        clear hown hg hloc hRd
        refine hK _ _ ?_
        clear hK K
       rotate_left
       focus
        refine wpAnyIn_ready (rs := [2]) (by kernel_rfl) (by simp) ?_
        refine AllReadyIn.cons rfl (fun K hK => ?_) AllReadyIn.nil
        go_simp
        refine hK _ _ ?_
        clear hK K
        refine wpAnyIn_take (i := 7) (v := ?_) rfl rfl (by kernel_rfl) (by kernel_rfl) (by kernel_rfl) (fun _ _ _ h => h) ⟨Or.inl ⟨by rfl, ?_⟩, fun _ => rfl⟩ ?_
        rotate_left
        · intro w
          (go_simp <;> with_reducible rfl)
       all_goals
        refine wpAnyIn_ready (rs := [12]) (by kernel_rfl) (by simp) ?_
        refine AllReadyIn.cons rfl (fun K hK => ?_) AllReadyIn.nil
        go_simp
        refine HR2.out.mono ?_
        rintro e W3 hh
        obtain ⟨qq, rfl, hq1, hq2⟩ := toQ hh
        have HBV7 : Hid (Below V.heap.size V w7) := (HBi.out.trans ((HB1'.out.mono HBi.out.size).trans (HB14.out.mono (Nat.le_trans HBi.out.size HB1'.out.size)))).trans (HB7.out.mono (Nat.le_trans (Nat.le_trans HBi.out.size HB1'.out.size) HB14.out.size))
        dsimp only
        refine hK _ _ ?_
        clear hK K hh hy HR2
        refine wpAnyIn_take (i := 13) (v := ?_) rfl rfl (by kernel_rfl) (by kernel_rfl) (by kernel_rfl) (fun _ _ _ h => h) ⟨Or.inl ⟨by rfl, ?_⟩, fun _ => rfl⟩ ?_
        rotate_left
        · intro w
          (go_simp <;> with_reducible rfl)
        refine wpAnyIn_done (by kernel_rfl) ?_ _
        cases qq with
        | false =>
          have hJx := hq2 rfl
          gi_wp2_with fail
          refine bodyPost_ret (results_none rfl _ _ _) rfl ?_
          exact ⟨⟨_, rfl⟩, .inr ⟨_, W3, hJx, Below.refl _ _⟩⟩
        | true =>
          obtain ⟨hJ3, hK3⟩ := hq1 rfl
          have HJ3 := Lib.hid hJ3
          have HZ3 : Hid (StJ G W W3) := HBZ1.out.trans ((StJ.of_below HBV7.out HZr1.out).trans (HGK.out _ _ (HSW.out.trans (HBZ1.out.trans (StJ.of_below HBV7.out HZr1.out))) hK3))
          have hpV : pb < V.heap.size := (Array.getElem?_eq_some_iff.1 HPB.out).1
          have HP3 : Hid (W3.heap[pb]? = some (.cells #[.int .i64 pid, .slice As R cs] 62 (0, 0))) := hK3.2 pb _ ((HBV7.out.block pb hpV).trans HPB.out) (by show (!kt 62) = true; rw [hkt]; rfl)
          have HPP3 : Hid ((pre ++ [(((pu : Int), bs), Value.slice (some ⟨g, o2, none⟩) kk kk, v7)]).map (fun x => x.1) ++ (cutsF (ps.drop (r + kk)).length (ps.drop (r + kk))).map (fun s => (pid, s)) = blksV (l.take (k + 1))) := by
           have hne : ls ≠ [] := by intro e; have := HML.out; rw [e] at this; exact hm this
           have h1 := blks_next HPP.out hne (fun s hs => HPk.out.2.2 s (by rw [HLS.out] at hs; exact List.mem_of_mem_drop hs))
           show _ = _
           rw [← h1, List.map_append, ← HKK.out, ← HBS.out, HPU.out, ← List.drop_drop, ← HLS.out]
           rfl
          have HM3 : Hid ((m - kk) + (r + kk) = R) := by have := HM.out; show _ = _; omega
          by_cases hkc3 : kk = c'
          ·have HRD3 : Hid (RdJ G w (.slice (some ⟨g, o2, none⟩) 0 0) (ps.drop (r + kk))) := by
            have e : ps.drop (r + kk) = [] := List.drop_eq_nil_of_le (by have := HM.out; have := HRl.out; omega)
            show RdJ _ _ _ _
            rw [e]
            exact ⟨_, 0, rfl, Nat.le_refl _, .inl rfl⟩
           have HM3 : Hid (0 + (r + kk) = R) := by have := HM.out; show _ = _; omega
           have hmk : m = kk := by omega
           clear hJ3 hK3 hpV hq1 hq2
           gi_wp2_with fail
           go_roundw
           case rel => exact ⟨r + kk, 0, _, _, _, W3, rfl, HM3, HRD3, HPP3, HJ3, Below.refl _ _, HZ3, HP3⟩
           case measure => simp [lenOf]; omega
          ·have HRD3 : Hid (RdJ G w (.slice (some ⟨g, o2 + kk * 4, none⟩) (m - kk) (c' - kk)) (ps.drop (r + kk))) := by
            have h := RdJ.cutFrom0 HML.out HRD.out hkm
            show RdJ _ _ _ _
            rw [← List.drop_drop, ← HLS.out]
            exact h
           clear hJ3 hK3 hpV hq1 hq2
           gi_wp2_with fail
           go_roundw
           case rel => exact ⟨r + kk, m - kk, _, _, _, W3, rfl, HM3, HRD3, HPP3, HJ3, Below.refl _ _, HZ3, HP3⟩
           case measure => simp [lenOf]; omega
  ·have hkN2 : k = N := by omega
   have HPE : Hid (pre.map (fun x => x.1) = blksV l) := by have h := HP.out; rw [hkN2, HN.out, List.take_length] at h; exact h
   have i1 : ¬ (k : Int) < (N : Int) := by omega
   gi_wp2_with fail
   first | go_end0 | refine bodyPost_ret (results_none rfl _ _ _) rfl ?_
   exact ⟨⟨_, rfl⟩, .inl ⟨_, HPE.out, W0, HJ.out, HB0.out⟩⟩
/-- datapart.split, as an iterator, where what is read lies below Z. -/
theorem iter_split (kt : TypeId → Bool) (hkt : kt 62 = false) (Z n Bb : Nat) (pv : Value) (l : List Pts) (w : World) (hn : 12 ≤ n) (hBb : w.cell? ⟨Bb, 0, none⟩ = some pv) (hbb : Bb < w.heap.size) (hZ : Z ≤ w.heap.size) (hR : RdP w Z pv l) (hT : TabT w) (hg : 0 < Z) (hs : SmallP l) (hk : OkP l) :
  IterX kt Z Fence.wide n Tryz.prog 61 #[.pointer (some ⟨Bb, 0, none⟩)] encH (NewH w Z l) (fun xs => xs.map (fun x => x.1) = blksV l) (fun _ => True) (blksV l).length w :=
 iter_splitQ (fun b => b < Z) kt hkt Z n Bb pv l w hn hBb hbb (fun _ hb => Nat.lt_of_lt_of_le hb hZ) (fun _ _ _ h => StJ.of_below h.1 (fun _ hb => hb)) hR hT hg hs hk
end Go.Proofs.YtnkelahimiipjaaGreatDoor
