/-
 datapart: split, heads.Blocks, heads.of.
-/
import Derived.Test.YtnkelahimiipjaaGreatDoorHdk
import Derived.Test.YtnkelahimiipjaaGreatDoorVrk
import Derived.Test.YtnkelahimiipjaaGreatDoorCwk
import Derived.Test.YtnkelahimiipjaaGreatDoorBqk
import Derived.Test.YtnkelahimiipjaaGreatDoorHnk
import Derived.Test.YtnkelahimiipjaaGreatDoorHbk
import Derived.Test.YtnkelahimiipjaaGreatDoorCjk
namespace Go.Proofs.YtnkelahimiipjaaGreatDoor
open Go.RowKit Go.Sort
set_option maxRecDepth 100000 in
theorem split_walk (A : Option Addr) (n c : Nat) (W : World) :
  Calls Tryz.prog 32 #[.slice A n c] W fun e w' => e = .returned (.func (.func 61) #[] #[.pointer (some ⟨W.heap.size, 0, none⟩)]) ∧ w' = W.alloc (.cells #[.slice A n c] 22) := by
 go_enter Tryz.func32, Tryz.ntmps32
 go_wp2_with fail
 go_ret
 exact ⟨rfl, rfl⟩
set_option maxRecDepth 100000 in
theorem hblocks_walk (h : Nat) (A : Option Addr) (n c : Nat) (W : World) (hc : W.cell? ⟨h, 0, none⟩ = some (.slice A n c)) :
  Calls Tryz.prog 53 #[.pointer (some ⟨h, 0, none⟩)] W fun e w' => e = .returned (.int .i64 (n : Int)) ∧ w' = W := by
 go_enter Tryz.func53, Tryz.ntmps53
 go_wp2_with fail
 go_ret
 exact ⟨rfl, rfl⟩
set_option maxRecDepth 100000 in
theorem hof_walk (h : Nat) (A : Option Addr) (n c : Nat) (f t : Int) (W : World) :
  Calls Tryz.prog 48 #[.pointer (some ⟨h, 0, none⟩), .slice A n c, .int .i64 f, .int .i64 t] W fun e w' => e = .returned (.func (.func 85) #[] #[.pointer (some ⟨W.heap.size, 0, none⟩), .pointer (some ⟨W.heap.size + 1, 0, none⟩), .pointer (some ⟨W.heap.size + 3, 0, none⟩), .pointer (some ⟨W.heap.size + 2, 0, none⟩)]) ∧
   w' = (((W.alloc (.cells #[.pointer (some ⟨h, 0, none⟩)] 86)).alloc (.cells #[.slice A n c] 37)).alloc (.cells #[.int .i64 f] 2)).alloc (.cells #[.int .i64 t] 2) := by
 go_enter Tryz.func48, Tryz.ntmps48
 go_wp2_with fail
 go_ret
 exact ⟨rfl, rfl⟩
end Go.Proofs.YtnkelahimiipjaaGreatDoor

/-
 datapart: Part.Len, Blocks, Span, All.
-/
namespace Go.Proofs.YtnkelahimiipjaaGreatDoor
open Go.RowKit Go.Sort
/-- A file in memory: its blocks' heads, its points. -/
def PartAt (w : World) (pb hb : Nat) (pv : Value) : Prop := w.cell? ⟨pb, 0, none⟩ = some (.pointer (some ⟨hb, 0, none⟩)) ∧ w.cell? ⟨pb, 1, none⟩ = some pv
set_option maxRecDepth 100000 in
theorem plen_none (W : World) : Calls Tryz.prog 22 #[.pointer none] W fun e w' => e = .returned (.int .i64 0) ∧ w' = W := by
 go_enter Tryz.func22, Tryz.ntmps22
 go_wp2_with fail
 go_ret
 exact ⟨rfl, rfl⟩
set_option maxRecDepth 100000 in
theorem pblocks_none (W : World) : Calls Tryz.prog 24 #[.pointer none] W fun e w' => e = .returned (.int .i64 0) ∧ w' = W := by
 go_enter Tryz.func24, Tryz.ntmps24
 go_wp2_with fail
 go_ret
 exact ⟨rfl, rfl⟩
set_option maxRecDepth 100000 in
theorem pall_none (W : World) : Calls Tryz.prog 16 #[.pointer none] W fun e w' => e = .returned (.slice none 0 0) ∧ w' = W := by
 go_enter Tryz.func16, Tryz.ntmps16
 go_wp2_with fail
 go_ret
 exact ⟨rfl, rfl⟩
set_option maxRecDepth 100000 in
theorem plen_walk (pb hb : Nat) (pv : Value) (r : Int) (R : World → Prop) (W : World) (hP : PartAt W pb hb pv) (hK : Calls Tryz.prog 30 #[pv] W fun e w' => e = .returned (.int .i64 r) ∧ R w') :
  Calls Tryz.prog 22 #[.pointer (some ⟨pb, 0, none⟩)] W fun e w' => e = .returned (.int .i64 r) ∧ R w' := by
 have c1 := hP.2
 have HK := Lib.hid hK
 clear hP hK
 go_enter Tryz.func22, Tryz.ntmps22
 go_wp2_with fail
 refine HK.out.mono ?_
 rintro e w1 ⟨rfl, hr⟩
 have HR := Lib.hid hr
 clear hr
 go_wp2_with fail
 go_ret
 exact ⟨rfl, HR.out⟩
set_option maxRecDepth 100000 in
theorem pall_walk (pb hb : Nat) (pv : Value) (R : Value → World → Prop) (W : World) (hP : PartAt W pb hb pv) (hK : Calls Tryz.prog 43 #[pv] W fun e w' => ∃ r, e = .returned r ∧ R r w') :
  Calls Tryz.prog 16 #[.pointer (some ⟨pb, 0, none⟩)] W fun e w' => ∃ r, e = .returned r ∧ R r w' := by
 have c1 := hP.2
 have HK := Lib.hid hK
 clear hP hK
 go_enter Tryz.func16, Tryz.ntmps16
 go_wp2_with fail
 refine HK.out.mono ?_
 rintro e w1 ⟨r, rfl, hr⟩
 have HR := Lib.hid hr
 clear hr
 go_wp2_with fail
 go_ret
 exact ⟨_, rfl, HR.out⟩
set_option maxRecDepth 100000 in
theorem pblocks_walk (pb hb : Nat) (pv : Value) (A : Option Addr) (n c : Nat) (W : World) (hP : PartAt W pb hb pv) (hc : W.cell? ⟨hb, 0, none⟩ = some (.slice A n c)) :
  Calls Tryz.prog 24 #[.pointer (some ⟨pb, 0, none⟩)] W fun e w' => e = .returned (.int .i64 (n : Int)) ∧ w' = W := by
 have c0 := hP.1
 have HK := Lib.hid (hblocks_walk hb A n c W hc)
 clear hP
 go_enter Tryz.func24, Tryz.ntmps24
 go_wp2_with fail
 refine HK.out.mono ?_
 rintro e w1 ⟨rfl, rfl⟩
 go_wp2_with fail
 go_ret
 exact ⟨rfl, rfl⟩
set_option maxRecDepth 100000 in
theorem pspan_none (W : World) : Calls Tryz.prog 20 #[.pointer none] W fun e w' => e = .returned (.tuple #[.int .i64 0, .int .i64 0]) ∧ w' = W := by
 have hr : Tryz.f20.results = #[.tmp 2, .tmp 3] := by kernel_rfl
 go_enter Tryz.func20, Tryz.ntmps20
 go_wp2_with fail
 refine bodyPost_ret (v := .tuple #[.int .i64 0, .int .i64 0]) ?_ rfl ⟨rfl, rfl⟩
 unfold results
 rw [hr]
 go_simp
set_option maxRecDepth 100000 in
theorem pspan_walk (pb hb : Nat) (pv : Value) (a b : Int) (ok : Bool) (R : World → Prop) (W : World) (hP : PartAt W pb hb pv) (hK : Calls Tryz.prog 52 #[pv] W fun e w' => e = .returned (.tuple #[.int .i64 a, .int .i64 b, .bool ok]) ∧ R w') :
  Calls Tryz.prog 20 #[.pointer (some ⟨pb, 0, none⟩)] W fun e w' => e = .returned (.tuple #[.int .i64 a, .int .i64 b]) ∧ R w' := by
 have hr : Tryz.f20.results = #[.tmp 2, .tmp 3] := by kernel_rfl
 have c1 := hP.2
 have HK := Lib.hid hK
 clear hP hK
 go_enter Tryz.func20, Tryz.ntmps20
 go_wp2_with fail
 refine HK.out.mono ?_
 rintro e w1 ⟨rfl, hrr⟩
 have HR := Lib.hid hrr
 clear hrr
 go_wp2_with fail
 refine bodyPost_ret (v := .tuple #[.int .i64 a, .int .i64 b]) ?_ rfl ⟨rfl, HR.out⟩
 unfold results
 rw [hr]
 go_simp
end Go.Proofs.YtnkelahimiipjaaGreatDoor

/-
 datapart.parse's row: a closure over whether all is well, and over the bytes still to come.
-/
namespace Go.Proofs.YtnkelahimiipjaaGreatDoor
open Go.RowKit Go.Sort
set_option maxRecDepth 100000 in
theorem prow_no (bo br : Nat) (W : World) (hb : Boxed W bo 4 (.bool false)) :
  Calls Tryz.prog 75 #[.pointer (some ⟨bo, 0, none⟩), .pointer (some ⟨br, 0, none⟩)] W fun e w' => e = .returned (.slice none 0 0) ∧ w' = W := by
 have c0 := hb.cell
 clear hb
 go_enter Tryz.func75, Tryz.ntmps75
 go_wp2_with fail
 go_ret
 exact ⟨rfl, rfl⟩
set_option maxRecDepth 100000 in
set_option maxHeartbeats 1000000 in
theorem prow_walk (bo br : Nat) (v : Value) (b : List Nat) (W : World) (hb : Boxed W bo 4 (.bool true)) (hc : Boxed W br 23 v) (hne : bo ≠ br) (hR : RdG EB W W.heap.size v b) (h8 : ∀ c ∈ b, c < 256) (hl : b.length ≤ 100000000) :
  Calls Tryz.prog 75 #[.pointer (some ⟨bo, 0, none⟩), .pointer (some ⟨br, 0, none⟩)] W fun e w' => ∃ w1 xv rv, e = .returned xv ∧ DecR W b (.returned (.tuple #[xv, rv, .int .i64 (decV b).1])) w1 ∧
   w' = (w1.setCell ⟨bo, 0, none⟩ (.bool (decide ((decV b).1 = 0)))).setCell ⟨br, 0, none⟩ rv := by
 have KD := Lib.hid (decode_walk v b W hR h8 hl)
 have c0 := hb.cell
 have c1 := hc.cell
 have HBo := Lib.hid hb
 have HBr := Lib.hid hc
 have HNE := Lib.hid hne
 obtain ⟨er, her⟩ : ∃ er, er = (decV b).1 := ⟨_, rfl⟩
 have HER := Lib.hid her
 rw [← her]
 obtain ⟨A, c, rfl, _⟩ := hR
 clear hb hc hne h8 hl her
 go_enter Tryz.func75, Tryz.ntmps75
 go_wp2_with fail
 refine KD.out.mono ?_
 rintro e w1 ⟨xv, rv, rfl, hB, hD⟩
 have HR : Hid (DecR W b (.returned (.tuple #[xv, rv, .int .i64 er])) w1) := ⟨xv, rv, by rw [HER.out], hB, hD⟩
 have hsl : ∃ A n c, rv = .slice A n c := by
  split at hD
  ·exact hD.2.sl
  ·exact ⟨none, 0, 0, hD.2⟩
 obtain ⟨A2, n2, c2, rfl⟩ := hsl
 rw [← HER.out]
 have b0 := boxOn HBo.out hB
 have b1 := boxOn HBr.out hB
 have b2 := boxSet (B' := bo) b1 HNE.out.symm (.bool (decide (er = 0)))
 have d0 := b0.cell
 have f0 := b0.frozen
 have d1 := b2.cell
 have f1 := b2.frozen
 have hq : (er == 0) = decide (er = 0) := by by_cases h : er = 0 <;> simp [h]
 obtain ⟨q, hqq⟩ : ∃ q, q = decide (er = 0) := ⟨_, rfl⟩
 rw [← hqq] at hq d1 f1
 have HQ := Lib.hid hqq
 clear hB hD KD b0 b1 b2 hqq
 go_wp2_with fail
 go_ret
 exact ⟨w1, xv, _, rfl, HR.out, by rw [← HQ.out]⟩
end Go.Proofs.YtnkelahimiipjaaGreatDoor

/-
 As many samples as blocks at the least, and 16 times as many at the most.
-/
namespace Go.Proofs.YtnkelahimiipjaaGreatDoor
theorem flat_16 : ∀ ls : List (List Smp), (∀ c ∈ ls, c ≠ [] ∧ c.length ≤ 16) → ls.length ≤ ls.flatten.length ∧ ls.flatten.length ≤ 16 * ls.length
 | [], _ => by simp
 | c :: ls, h => by
   have h1 := flat_16 ls (fun x hx => h x (List.mem_cons_of_mem _ hx))
   have h2 := h c List.mem_cons_self
   have h3 := List.length_pos_iff.2 h2.1
   rw [List.flatten_cons, List.length_append, List.length_cons]
   omega
theorem blks_many : ∀ l : List Pts, (∀ p ∈ l, ∀ s ∈ p.2, rightS s = true) → (blksV l).length ≤ manyL l ∧ manyL l ≤ 16 * (blksV l).length
 | [], _ => by simp [blksV, manyL]
 | p :: l, h => by
   have h1 := blks_many l (fun q hq => h q (List.mem_cons_of_mem _ hq))
   have hp := h p List.mem_cons_self
   have h2 := flat_16 (cutsF p.2.length p.2) (fun c hc => ⟨(cuts_each p.2.length p.2 hp c hc).1, (cuts_each p.2.length p.2 hp c hc).2.1⟩)
   rw [cuts_flat p.2.length p.2 (Nat.le_refl _) hp] at h2
   have e1 : (blksV (p :: l)).length = (cutsF p.2.length p.2).length + (blksV l).length := by
    unfold blksV; rw [List.flatMap_cons, List.length_append]; unfold blksP; simp
   have e2 : manyL (p :: l) = p.2.length + manyL l := by
    first | rfl | (unfold manyL; simp)
   omega
end Go.Proofs.YtnkelahimiipjaaGreatDoor

/-
 datapart: Part.Ids.
-/
namespace Go.Proofs.YtnkelahimiipjaaGreatDoor
open Go.RowKit Go.Sort
theorem info_n : (Tryz.prog.info? 3).map (fun i => (i.zero, i.size, i.bytes)) = some (some (.int .i64 0), 1, 8) := by kernel_rfl
set_option maxRecDepth 100000 in
set_option maxHeartbeats 2000000 in
theorem pids_walk (pp : Value) (l : List Pts) (W : World) (hl : l.length ≤ 1000000) (hK : Calls Tryz.prog 16 #[pp] W fun e w' => ∃ r, e = .returned r ∧ RdP w' w'.heap.size r l ∧ Below W.heap.size W w') :
  Calls Tryz.prog 27 #[pp] W fun e w' => ∃ r, e = .returned r ∧ OwnG EI 3 w' W.heap.size r (l.map (fun p => p.1)) ∧ Below W.heap.size W w' := by
 have HK := Lib.hid hK
 clear hK
 go_enter Tryz.func27, Tryz.ntmps27
 go_wp2_with fail
 refine HK.out.mono ?_
 rintro e w1 ⟨r, rfl, hr, hB⟩
 obtain ⟨A, c, rfl, hc, hA⟩ := hr
 have HA := Lib.hid hA
 have HB := Lib.hid hB
 obtain ⟨n, hn⟩ : ∃ n, n = l.length := ⟨_, rfl⟩
 rw [← hn] at hc hl ⊢
 have HN := Lib.hid hn
 clear hn hA hB HK
 go_wp2_with fail
 go_loopw [3, 5, 9] (fun v _ i wl => ∃ k : Nat, k ≤ n ∧ i = .int .i64 (k : Int) ∧ Hid (OwnG EI 3 wl w1.heap.size v ((l.take k).map (fun p => p.1))) ∧ Hid (Below w1.heap.size w1 wl))
  (fun _ _ i _ => n - (intOf i).toNat)
 case atStart => exact ⟨0, Nat.zero_le _, rfl, OwnG.nil _ _, Below.refl _ _⟩
 case round =>
  obtain ⟨k, hk, rfl, HO, HB1⟩ := hrel
  by_cases hlt : k < n
  ·have hlt2 : k < l.length := by rw [← HN.out]; exact hlt
   rcases HA.out with h0 | ⟨b, o, e, hb, hcl⟩
   ·subst h0; simp at hlt2
   subst e
   obtain ⟨p, hp⟩ : ∃ p, p = l[k] := ⟨_, rfl⟩
   obtain ⟨c0, sv, c1, hsv, _⟩ : PtAt wr w1.heap.size b (o + k * 2) p := by rw [hp]; exact (hcl k hlt2).below HB1.out hb
   have HTK : Hid (l.take (k + 1) = l.take k ++ [p]) := by show _ = _; rw [List.take_succ_eq_append_getElem hlt2, hp]
   obtain ⟨pid, ps⟩ := p
   obtain ⟨As, cs, rfl, _⟩ := hsv
   simp only at c0 c1
   obtain ⟨m, hm⟩ : ∃ m, m = ps.length := ⟨_, rfl⟩
   rw [← hm] at c1
   have hLt : ((l.take k).map (fun p : Pts => p.1)).length = k := by simp; omega
   obtain ⟨A6, c6, e6, _⟩ := HO.out.rd
   rw [hLt] at e6
   subst e6
   have hl1 : (((l.take k).map (fun p : Pts => p.1)).length + 1) * 8 ≤ 140737488355328 := by omega
   have hC1 := CellG.mk (E := EI) (w := wr.alloc (.cells #[.int .i64 pid, .slice As m cs] 62)) (cs := #[.int .i64 pid]) (x := pid) rfl 3
   rw [World.size_alloc] at hC1
   have HC1 := Lib.hid hC1
   have HSZ : Hid (w1.heap.size ≤ ((wr.alloc (.cells #[.int .i64 pid, .slice As m cs] 62)).alloc (.cells #[.int .i64 pid] 3)).heap.size) := by have := HB1.out.size; show _ ≤ _; simp; omega
   have i1 : (k : Int) < (n : Int) := by omega
   clear hcl hb hp hm hC1 hLt
   go_wp2_with (first | (at_builtin; refine app1G EI rfl _ _ 37 3 rfl Tryz.underlying37 info_n rfl (by decide) w1.heap.size _ ((l.take k).map (fun p : Pts => p.1)) pid rfl ((HO.out.alloc _).alloc _) _ 0 1 rfl HC1.out hl1 HSZ.out ?_) | fail)
   intro v1 w2 hown hg hloc
   have HO2 : Hid (OwnG EI 3 w2 w1.heap.size v1 ((l.take (k + 1)).map (fun p => p.1))) := by
    show OwnG _ _ _ _ _ _
    rw [HTK.out, List.map_append, List.map_take]
    exact hown
   have HB2 : Hid (Below w1.heap.size w1 w2) := ((HB1.out.alloc HB1.out.size _).alloc (by have := HB1.out.size; simp; omega) _).grown hg HSZ.out (fun k e => (HO.out.blk e).1)
   clear hown hg hloc
   go_wp2_with fail
   go_roundw
   case rel => exact ⟨k + 1, by omega, by go_num, HO2, HB2⟩
   case measure => simp [intOf]; omega
  ·have hkn : k = n := by omega
   have HO3 : Hid (OwnG EI 3 wr w1.heap.size u3 (l.map (fun p => p.1))) := by
    have h := HO.out
    rw [hkn, HN.out, List.take_length] at h
    exact h
   have i1 : ¬ (k : Int) < (n : Int) := by omega
   go_wp2_with fail
   go_ret
   exact ⟨_, rfl, HO3.out.lower HB.out.size, HB.out.trans (HB1.out.mono HB.out.size)⟩
end Go.Proofs.YtnkelahimiipjaaGreatDoor

/-
 A file's index fits its frame.
-/
namespace Go.Proofs.YtnkelahimiipjaaGreatDoor
theorem blk_ticks {c : List Pts} (h : Clean c) {b : Blk} (hb : b ∈ blksV c) : 0 ≤ firstT b.2 ∧ firstT b.2 ≤ lastT b.2 ∧ lastT b.2 ≤ 1099511627776 := by
 obtain ⟨k1, k2, k3⟩ := blk_up h hb
 obtain ⟨s, hs, e1⟩ := first_mem k2
 obtain ⟨t, ht, e2⟩ := last_mem k2
 have h1 := k3 s hs
 have h2 := k3 t ht
 have h3 := first_le k1 t ht
 omega
theorem frames_max {bl : List Blk} (h : ∀ b ∈ bl, BlkOk b) : (framesB bl).length ≤ 1010 * bl.length := by
 induction bl with
 | nil => simp [framesB]
 | cons b bl ih =>
   have e : framesB (b :: bl) = frameV 3 (blkB b) ++ framesB bl := rfl
   have h1 := blkB_len (h b List.mem_cons_self)
   have h2 := put_len 1 (blkB b).length (by omega)
   have h3 := ih fun x hx => h x (List.mem_cons_of_mem _ hx)
   rw [e, List.length_append, frameV_len, List.length_cons]; omega
theorem ent_len {c : List Pts} (h : Clean c) {b : Blk} (hb : b ∈ blksV c) {o : Nat} (ho : o ≤ 2100000) : (entB o b).length ≤ 32 := by
 have h0 := (blks_ok h b hb).1
 have ht := blk_ticks h hb
 have h1 := put_len 4 b.1.toNat (by have := h0.2.1; omega)
 have h2 := put_len 1 b.2.length (by have := h0.2.2.1; omega)
 have h3 := put_len 6 (firstT b.2).toNat (by omega)
 have h4 := put_len 6 (lastT b.2 - firstT b.2).toNat (by omega)
 have h5 := put_len 3 o (by omega)
 unfold entB
 simp only [List.length_append]
 omega
theorem index_len {c : List Pts} (h : Clean c) : ∀ (bl : List Blk) (o : Nat), (∀ b ∈ bl, b ∈ blksV c) → o + (framesB bl).length ≤ 2100000 → (indexB o bl).length ≤ 32 * bl.length
 | [], _, _, _ => by simp [indexB]
 | b :: bl, o, hm, ho => by
   have e : (framesB (b :: bl)).length = (frameV 3 (blkB b)).length + (framesB bl).length := by
    rw [show framesB (b :: bl) = frameV 3 (blkB b) ++ framesB bl from rfl, List.length_append]
   have h1 := ent_len h (hm b List.mem_cons_self) (o := o) (by omega)
   have h2 := index_len h bl (o + (frameV 3 (blkB b)).length) (fun x hx => hm x (List.mem_cons_of_mem _ hx)) (by omega)
   rw [indexB, List.length_append, List.length_cons]; omega
theorem clean_rt {c : List Pts} (h : Clean c) : ∀ p ∈ c, ∀ s ∈ p.2, rightS s = true := fun p hp => h.bd p hp
theorem table_fits {c : List Pts} (h : Clean c) (hm : manyL c ≤ 2000) : (tableB (blksV c)).length ≤ 65535 ∧ (framesB (blksV c)).length ≤ 2100000 ∧ (blksV c).length ≤ 2000 := by
 have h1 := (blks_many c (clean_rt h)).1
 have h2 := frames_max (fun b hb => (blks_ok h b hb).1) (bl := blksV c)
 have h3 := index_len h (blksV c) 0 (fun b hb => hb) (by omega)
 have h4 := put_len 1 (blksV c).length (by omega)
 refine ⟨?_, by omega, by omega⟩
 unfold tableB
 rw [List.length_append]; omega
theorem ent_byte (o : Nat) (b : Blk) : ∀ x ∈ entB o b, x < 256 := fun x hx => by
 unfold entB at hx
 simp only [List.mem_append] at hx
 rcases hx with h | h | h | h | h <;> exact putV_byte _ x h
theorem index_byte : ∀ (bl : List Blk) (o : Nat), ∀ x ∈ indexB o bl, x < 256
 | [], _, x, hx => by simp [indexB] at hx
 | b :: bl, o, x, hx => by
   rw [indexB, List.mem_append] at hx
   rcases hx with h | h
   ·exact ent_byte o b x h
   ·exact index_byte bl _ x h
theorem blkB_byte {b : Blk} (h : b.2.length ≤ 16) : ∀ x ∈ blkB b, x < 256 := fun x hx => by
 unfold blkB at hx
 simp only [List.mem_append] at hx
 rcases hx with h1 | h1 | h1 | h1
 ·exact putV_byte _ x h1
 ·exact enc_byte (by unfold tickL; simp; omega) x h1
 ·exact allV_byte _ x h1
 ·exact enc_byte (by unfold mantL valsL; simp; omega) x h1
theorem frames_byte {bl : List Blk} (h : ∀ b ∈ bl, b.2.length ≤ 16) : ∀ x ∈ framesB bl, x < 256 := fun x hx => by
 unfold framesB at hx
 obtain ⟨b, hb, h1⟩ := List.mem_flatMap.1 hx
 exact frameV_byte (by omega) (blkB_byte (h b hb)) x h1
theorem table_byte (bl : List Blk) : ∀ x ∈ tableB bl, x < 256 := fun x hx => by
 unfold tableB at hx
 rw [List.mem_append] at hx
 rcases hx with h | h
 ·exact putV_byte _ x h
 ·exact index_byte _ _ x h
theorem file_byte {bl : List Blk} (h : ∀ b ∈ bl, b.2.length ≤ 16) : ∀ x ∈ fileB bl, x < 256 := fun x hx => by
 unfold fileB at hx
 simp only [List.mem_append] at hx
 rcases hx with h1 | h1 | h1
 ·exact frames_byte h x h1
 ·exact frameV_byte (by omega) (table_byte bl) x h1
 ·exact tail4_byte _ x h1
/-- The file of clean points that are not too many. -/
theorem build_ok {c : List Pts} (h0 : c ≠ []) (h : cleanS c = c) (hm : manyL (cleanS c) ≤ 2000) : buildV c = (0, fileB (blksV c)) := by
 have hc : Clean c := by rw [← h]; exact cleanS_clean c
 have := (table_fits hc (by rw [h] at hm; exact hm)).1
 unfold buildV
 rw [if_neg (by omega), if_neg (fun e => e.elim (fun e => h0 e) (fun e => e h)), if_neg (by omega)]
end Go.Proofs.YtnkelahimiipjaaGreatDoor

/-
 datapart.Build: what lies in memory round by round.
-/
namespace Go.Proofs.YtnkelahimiipjaaGreatDoor
open Go.RowKit Go.Sort
def ktB (t : TypeId) : Bool := t == 23 || (t == 5 || t == 3)
/-- The file's bytes, its index, and how many blocks there are: three variables in boxes. -/
structure BdI (W : World) (B0 : Nat) (bv xv : Value) (bb xx : List Nat) (m : Nat) (w : World) : Prop where
 b : Boxed w B0 23 bv
 ob : OwnG EB 5 w W.heap.size bv bb
 x : Boxed w (B0 + 1) 23 xv
 ox : OwnG EB 5 w W.heap.size xv xx
 many : Boxed w (B0 + 1 + 1) 3 (.int .i64 (m : Int))
 apart : ∀ k, bv.ownBlock = some k → xv.ownBlock ≠ some k
 below : Below W.heap.size W w
 low : W.heap.size ≤ B0
variable {W w w' : World} {B0 m : Nat} {bv xv : Value} {bb xx : List Nat}
theorem BdI.on (h : BdI W B0 bv xv bb xx m w) (k : Below w.heap.size w w') : BdI W B0 bv xv bb xx m w' :=
 ⟨boxOn h.b k, h.ob.below k, boxOn h.x k, h.ox.below k, boxOn h.many k, h.apart, h.below.trans (k.mono h.below.size), h.low⟩
theorem BdI.putLoop {l : Nat} {r : Loop} (h : BdI W B0 bv xv bb xx m w) (hl : w.heap[l]? = some (.loop r)) (hz : W.heap.size ≤ l) (o : Obj) : BdI W B0 bv xv bb xx m (w.putObj l o) :=
 ⟨boxPutLoop h.b hl o, h.ob.putO o hl rfl, boxPutLoop h.x hl o, h.ox.putO o hl rfl, boxPutLoop h.many hl o, h.apart, belowPut h.below hz o, h.low⟩
theorem BdI.putX {xv' : Value} {xx' : List Nat} (h : BdI W B0 bv xv bb xx m w) (ho : OwnG EB 5 w W.heap.size xv' xx') (hap : ∀ k, bv.ownBlock = some k → xv'.ownBlock ≠ some k) :
  BdI W B0 bv xv' bb xx' m (w.setCell ⟨B0 + 1, 0, none⟩ xv') ∧ KpT ktB W.heap.size w (w.setCell ⟨B0 + 1, 0, none⟩ xv') := by
 have hl := h.low
 have hk : KpT ktB W.heap.size w (w.setCell ⟨B0 + 1, 0, none⟩ xv') := KpT.setCell (e := 23) h.x rfl (by omega) _ _
 exact ⟨⟨boxSet h.b (by omega) _, h.ob.set h.x (by decide) _, h.x.set _, ho.set h.x (by decide) _, boxSet h.many (by omega) _, hap, h.below.trans hk.1, hl⟩, hk⟩
theorem BdI.putM {m' : Nat} (h : BdI W B0 bv xv bb xx m w) : BdI W B0 bv xv bb xx m' (w.setCell ⟨B0 + 1 + 1, 0, none⟩ (.int .i64 (m' : Int))) ∧ KpT ktB W.heap.size w (w.setCell ⟨B0 + 1 + 1, 0, none⟩ (.int .i64 (m' : Int))) := by
 have hl := h.low
 have hk : KpT ktB W.heap.size w (w.setCell ⟨B0 + 1 + 1, 0, none⟩ (.int .i64 (m' : Int))) := KpT.setCell (e := 3) h.many rfl (by omega) _ _
 exact ⟨⟨boxSet h.b (by omega) _, h.ob.set h.many (by decide) _, boxSet h.x (by omega) _, h.ox.set h.many (by decide) _, h.many.set _, h.apart, h.below.trans hk.1, hl⟩, hk⟩
theorem BdI.putB {bv' : Value} {bb' : List Nat} {w1 : World} (h : BdI W B0 bv xv bb xx m w) (hg : w.grownBy w1 bv.ownBlock) (ho : OwnG EB 5 w1 W.heap.size bv' bb') (hloc : bv'.ownBlock = bv.ownBlock ∨ bv'.ownBlock = some w.heap.size) :
  Boxed w1 B0 23 bv ∧ BdI W B0 bv' xv bb' xx m (w1.setCell ⟨B0, 0, none⟩ bv') ∧ KpT ktB W.heap.size w (w1.setCell ⟨B0, 0, none⟩ bv') := by
 have hl := h.low
 have hz := h.below.size
 have b1 : Boxed w1 B0 23 bv := boxGrown h.b hg h.ob (by decide)
 have x1 : Boxed w1 (B0 + 1) 23 xv := boxGrown h.x hg h.ob (by decide)
 have m1 : Boxed w1 (B0 + 1 + 1) 3 (.int .i64 (m : Int)) := boxGrown h.many hg h.ob (by decide)
 have ox1 : OwnG EB 5 w1 W.heap.size xv xx := h.ox.kept hg (by
  cases e : xv.ownBlock with
  | none => exact .inl rfl
  | some k => exact .inr fun e2 => h.apart k e2.symm e)
 have hk1 : KpT ktB W.heap.size w w1 := KpT.grown hg hz (fun k e => by
  obtain ⟨q1, c, z, q2⟩ := h.ob.cellsAt k e
  exact ⟨q1, c, _, z, q2, rfl⟩)
 have hk2 : KpT ktB W.heap.size w1 (w1.setCell ⟨B0, 0, none⟩ bv') := KpT.setCell (e := 23) b1 rfl (by omega) _ _
 have hk := hk1.trans hk2
 refine ⟨b1, ⟨b1.set _, ho.set b1 (by decide) _, boxSet x1 (by omega) _, ox1.set b1 (by decide) _, boxSet m1 (by omega) _, fun k e => ?_, h.below.trans hk.1, hl⟩, hk⟩
 rcases hloc with e2 | e2
 ·exact h.apart k (by rw [← e2]; exact e)
 ·intro e3
  rw [e2] at e
  injection e with e
  have := (h.ox.blk e3).2
  omega
/-- What a row that is made new shares with one that was: nothing. -/
theorem apart_new {α : Type} {E : Enc α} {ty : TypeId} {w w' : World} {base : Nat} {bv xv' : Value} {bb : List Nat} {l : List α} (hb : OwnG EB 5 w base bv bb) (ho : OwnG E ty w' w.heap.size xv' l) : ∀ k, bv.ownBlock = some k → xv'.ownBlock ≠ some k := fun k e e2 => by
 have h1 := (hb.blk e).2
 have h2 := (ho.blk e2).1
 omega
/-- The numbers of a block's entry. -/
def entN (o : Nat) (b : Blk) : List Nat := [b.1.toNat, b.2.length, (firstT b.2).toNat, (lastT b.2 - firstT b.2).toNat, o]
def putsN (l : List Nat) : List Nat := l.flatMap putV
theorem putsN_ent (o : Nat) (b : Blk) : putsN (entN o b) = entB o b := by unfold putsN entN entB; simp
theorem putsN_snoc (l : List Nat) {k : Nat} (h : k < l.length) : putsN (l.take (k + 1)) = putsN (l.take k) ++ putV l[k] := by
 unfold putsN
 rw [List.take_succ_eq_append_getElem h, List.flatMap_append]
 simp
end Go.Proofs.YtnkelahimiipjaaGreatDoor

/-
 datapart.Build.
-/
namespace Go.Proofs.YtnkelahimiipjaaGreatDoor
open Go.RowKit Go.Sort
theorem small_many {c : List Pts} (h : Clean c) (hm : manyL c ≤ 2000) : SmallP c := by
 have h1 : ∀ (c : List Pts), (∀ p ∈ c, p.2 ≠ []) → c.length ≤ manyL c := by
  intro c
  induction c with
  | nil => intro _; simp
  | cons p c ih =>
    intro hn
    have h2 := List.length_pos_iff.2 (hn p List.mem_cons_self)
    have h3 := ih fun q hq => hn q (List.mem_cons_of_mem _ hq)
    have h4 : manyL (p :: c) = p.2.length + manyL c := by unfold manyL; simp
    rw [List.length_cons, h4]; omega
 refine ⟨by have := h1 c h.ne; omega, fun p hp => ?_⟩
 have := many_mem hp
 omega
theorem okP_clean {c : List Pts} (h : Clean c) : OkP c := fun p hp => by
 have h3 := h.inr p hp
 unfold inR at h3
 rw [Bool.and_eq_true, decide_eq_true_eq, decide_eq_true_eq] at h3
 exact ⟨by omega, by omega, h.bd p hp⟩
/-- What Build answers. -/
def BldR (W : World) (l : List Pts) (e : Ending) (w' : World) : Prop :=
 ∃ v', e = .returned (.tuple #[v', .int .i64 (buildV l).1]) ∧ OwnG EB 5 w' W.heap.size v' (buildV l).2 ∧ Below W.heap.size W w'
theorem BldR.err {W w' : World} {l : List Pts} {x : Int} (h : buildV l = (x, [])) (hB : Below W.heap.size W w') : BldR W l (.returned (.tuple #[.slice none 0 0, .int .i64 x])) w' :=
 ⟨_, by rw [h], by rw [h]; exact OwnG.nil _ _, hB⟩
set_option maxRecDepth 100000 in
set_option maxHeartbeats 1000000 in
theorem build_limit (v : Value) (l : List Pts) (W : World) (T : Tabs W) (hR : RdP W W.heap.size v l) (hwf : ∀ p ∈ l, (Lit.int .i64 p.1).wf = true) (hn2 : l.length ≤ 990000000) (hn3 : manyL l ≤ 990000000) (h : 2000 < manyL (cleanS l)) :
  Calls Tryz.prog 11 #[v] W fun e w' => BldR W l e w' := by
 have hr : Tryz.f11.results = #[.tmp 2, .tmp 3] := by kernel_rfl
 have KM := Lib.hid (smany v l W T hR hwf hn2 hn3)
 have HB : Hid (buildV l = (2, [])) := by show _ = _; unfold buildV; rw [if_pos h]
 obtain ⟨m, hm⟩ : ∃ m, m = manyL (cleanS l) := ⟨_, rfl⟩
 rw [← hm] at KM h
 have g1 : (m : Int) > 2000 := by omega
 obtain ⟨A, c, rfl, _⟩ := hR
 clear T hwf hn2 hn3 hm h
 go_enter Tryz.func11, Tryz.ntmps11
 go_wp2_with fail
 refine KM.out.mono ?_
 rintro e w1 ⟨rfl, hB⟩
 have HB1 := Lib.hid hB
 clear hB KM
 go_wp2_with fail
 refine bodyPost_ret (v := .tuple #[.slice none 0 0, .int .i64 2]) ?_ rfl (BldR.err HB.out HB1.out)
 unfold results
 rw [hr]
 go_simp
set_option maxRecDepth 100000 in
set_option maxHeartbeats 1000000 in
theorem build_arg (v : Value) (l : List Pts) (W : World) (T : Tabs W) (hR : RdP W W.heap.size v l) (hwf : ∀ p ∈ l, (Lit.int .i64 p.1).wf = true) (hn2 : l.length ≤ 990000000) (hn3 : manyL l ≤ 990000000) (h : manyL (cleanS l) ≤ 2000) (h2 : l = [] ∨ cleanS l ≠ l) :
  Calls Tryz.prog 11 #[v] W fun e w' => BldR W l e w' := by
 have hr : Tryz.f11.results = #[.tmp 2, .tmp 3] := by kernel_rfl
 have KM := Lib.hid (smany v l W T hR hwf hn2 hn3)
 have HB : Hid (buildV l = (1, [])) := by show _ = _; unfold buildV; rw [if_neg (by omega), if_pos h2]
 have KC : Hid (∀ w', Below W.heap.size W w' → Calls Tryz.prog 31 #[v] w' fun e w'' => e = .returned (.bool (decide (cleanS l = l))) ∧ Below w'.heap.size w' w'') := fun w' hb =>
  dclean_walk v l w' (T.below hb) (hR.on hb) hwf hn2 hn3 (small_many (cleanS_clean l) h)
 obtain ⟨m, hm⟩ : ∃ m, m = manyL (cleanS l) := ⟨_, rfl⟩
 rw [← hm] at KM h
 have g1 : ¬ (m : Int) > 2000 := by omega
 obtain ⟨A, c, rfl, _⟩ := hR
 clear T hwf hn2 hn3 hm h
 by_cases h0 : l = []
 ·subst h0
  clear h2 KC
  go_enter Tryz.func11, Tryz.ntmps11
  go_wp2_with fail
  refine KM.out.mono ?_
  rintro e w1 ⟨rfl, hB⟩
  have HB1 := Lib.hid hB
  clear hB KM
  go_wp2_with fail
  refine bodyPost_ret (v := .tuple #[.slice none 0 0, .int .i64 1]) ?_ rfl (BldR.err HB.out HB1.out)
  unfold results
  rw [hr]
  go_simp
 ·have h3 : cleanS l ≠ l := h2.resolve_left h0
  have g2 : decide (cleanS l = l) = false := decide_eq_false h3
  rw [g2] at KC
  obtain ⟨n, hn⟩ : ∃ n, n = l.length := ⟨_, rfl⟩
  have hn1 : n ≠ 0 := by rw [hn]; exact fun e => h0 (List.eq_nil_of_length_eq_zero e)
  rw [← hn] at KM KC ⊢
  have g3 : ((n : Int) == 0) = false := by simp; omega
  clear h0 h2 h3 g2 hn hn1
  go_enter Tryz.func11, Tryz.ntmps11
  go_wp2_with fail
  refine KM.out.mono ?_
  rintro e w1 ⟨rfl, hB⟩
  have HB1 := Lib.hid hB
  have KC1 := Lib.hid (KC.out w1 hB)
  clear hB KM KC
  go_wp2_with fail
  refine KC1.out.mono ?_
  rintro e w2 ⟨rfl, hB⟩
  have HB2 : Hid (Below W.heap.size W w2) := HB1.out.trans (hB.mono HB1.out.size)
  clear hB KC1
  go_wp2_with fail
  refine bodyPost_ret (v := .tuple #[.slice none 0 0, .int .i64 1]) ?_ rfl (BldR.err HB.out HB2.out)
  unfold results
  rw [hr]
  go_simp
end Go.Proofs.YtnkelahimiipjaaGreatDoor
