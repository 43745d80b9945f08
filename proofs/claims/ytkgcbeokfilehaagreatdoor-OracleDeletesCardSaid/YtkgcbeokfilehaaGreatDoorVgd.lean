/-
  labels.Canon.
-/
import Derived.Test.YtkgcbeokfilehaaGreatDoorVfd
import Derived.Test.YtkgcbeokfilehaaGreatDoorRgnd
namespace Go.Proofs.YtkgcbeokfilehaaGreatDoor
open Go.RowKit Go.Sort Go.Shelf
def canE (l : Lbs) : Int := if mayL l = true then 0 else 70
def canV (l : Lbs) : Lbs := if mayL l = true then canonL l else []
theorem OwnL.cells2 {w : World} {base g n cap : Nat} {d : Lbs} (h : OwnL w base (.slice (some ⟨g, 0, none⟩) n cap) d) : ∀ i (hi : i < d.length), Cell2 w g (i * 2) d[i] := by
  intro i hi
  obtain ⟨A, c, e, _, hA⟩ := h.rd
  injection e with e1 e2 e3
  rcases hA with h0 | ⟨b, o, e, _, hcl⟩
  · subst h0; simp at hi
  · rw [e] at e1
    injection e1 with e1
    injection e1 with e1 e4
    subst e1 e4
    have := hcl i hi
    rwa [Nat.zero_add] at this
theorem OwnL.blk {w : World} {base : Nat} {v : Value} {l : Lbs} (h : OwnL w base v l) {k : Nat} (hk : v.ownBlock = some k) : base ≤ k ∧ k < w.heap.size := World.ownsRow.lt h k hk
/-- Up to k all labels may be, and no two neighbours have one name. -/
structure UpTo (d : Lbs) (k : Nat) : Prop where
  ok : ∀ j (h : j < d.length), j < k → nameOk d[j].1 = true ∧ valueOk d[j].2 = true
  ne : ∀ j (h : j + 1 < d.length), j + 1 < k → d[j].1 ≠ d[j + 1].1
theorem UpTo.zero (d : Lbs) : UpTo d 0 := ⟨fun _ _ h => absurd h (Nat.not_lt_zero _), fun _ _ h => absurd h (Nat.not_lt_zero _)⟩
theorem may_of {l d : Lbs} (hp : d.Perm l) (hu : UpN d) (h1 : 1 ≤ l.length) (h6 : l.length ≤ 6) (h : UpTo d d.length) : mayL l = true := by
  unfold mayL
  rw [Bool.and_eq_true, Bool.and_eq_true, Bool.and_eq_true]
  refine ⟨⟨⟨decide_eq_true h1, decide_eq_true h6⟩, List.all_eq_true.2 fun x hx => ?_⟩, ?_⟩
  · obtain ⟨i, hi, rfl⟩ := List.getElem_of_mem (hp.mem_iff.2 hx)
    rw [(h.ok i hi hi).1, (h.ok i hi hi).2]; rfl
  · rw [← namesApart_perm hp]
    exact (apart_near hu).2 fun i hi => h.ne i hi hi
theorem mayL_parts {l : Lbs} (h : mayL l = true) : (1 ≤ l.length ∧ l.length ≤ 6) ∧ (∀ x ∈ l, nameOk x.1 = true ∧ valueOk x.2 = true) ∧ namesApart l = true := by
  unfold mayL at h
  rw [Bool.and_eq_true, Bool.and_eq_true, Bool.and_eq_true, List.all_eq_true] at h
  obtain ⟨⟨⟨h1, h2⟩, h3⟩, h4⟩ := h
  refine ⟨⟨of_decide_eq_true h1, of_decide_eq_true h2⟩, fun x hx => ?_, h4⟩
  have := h3 x hx
  rwa [Bool.and_eq_true] at this
theorem not_may {l d : Lbs} (hp : d.Perm l) {k : Nat} (hk : k < d.length) (h : ¬ (nameOk d[k].1 = true ∧ valueOk d[k].2 = true)) : mayL l = false := by
  rw [Bool.eq_false_iff]
  intro hm
  exact h ((mayL_parts hm).2.1 _ (hp.mem_iff.1 (List.getElem_mem hk)))
theorem not_may2 {l d : Lbs} (hp : d.Perm l) (hu : UpN d) {k : Nat} (hk : k + 1 < d.length) (h : d[k].1 = d[k + 1].1) : mayL l = false := by
  rw [Bool.eq_false_iff]
  intro hm
  have := (mayL_parts hm).2.2
  rw [← namesApart_perm hp] at this
  exact (apart_near hu).1 this k hk h
theorem valueOk_iff (s : Str) : valueOk s = true ↔ 1 ≤ s.length ∧ s.length ≤ 16 := by unfold valueOk; rw [Bool.and_eq_true, decide_eq_true_iff, decide_eq_true_iff]
theorem ret_can {r r' : Value} {a b : Int} (h : a = b) (h2 : r = r') : Ending.returned (.tuple #[r, .int .i64 a]) = .returned (.tuple #[r', .int .i64 b]) := by rw [h, h2]
set_option maxRecDepth 100000 in
set_option maxHeartbeats 4000000 in
/-- labels.Canon. -/
theorem canon_walk (v : Value) (l : Lbs) (W : World) (hR : RdL W W.heap.size v l) (hz : Nz v) :
    Calls Tryz.prog 33 #[v] W fun e w' => (∃ r, e = .returned (.tuple #[r, .int .i64 (canE l)]) ∧ OwnL w' W.heap.size r (canV l)) ∧ Below W.heap.size W w' := by
  obtain ⟨n, hn⟩ : ∃ n, n = l.length := ⟨_, rfl⟩
  have KC0 : Hid (n ≤ 6 → Calls Tryz.prog 39 #[v] W fun e w' => ∃ r, e = .returned r ∧ OwnL w' W.heap.size r l ∧ Below W.heap.size W w') := fun h => cloneL_walk v l W hR hz (by omega)
  obtain ⟨A, c, rfl, hc, _⟩ := hR
  rw [← hn] at KC0 ⊢
  have HN := Lib.hid hn
  clear hn hz hc
  by_cases h0 : n < 1
  · have hm : mayL l = false := by
      rw [Bool.eq_false_iff]; intro hm
      have := (mayL_parts hm).1.1
      rw [← HN.out] at this; omega
    have HE : Hid (canE l = 70) := by show _ = _; unfold canE; rw [hm]; rfl
    have HV : Hid (canV l = []) := by show _ = _; unfold canV; rw [hm]; rfl
    have g0 : (n : Int) < 1 := by omega
    clear hm KC0 HN h0
    rw [HE.out, HV.out]
    go_enter Tryz.func33, Tryz.ntmps33
    go_wp2_with fail
    go_ret2
    exact ⟨⟨_, rfl, OwnL.nil _ _⟩, Below.refl _ _⟩
  have g0 : ¬ (n : Int) < 1 := by omega
  by_cases h6 : 6 < n
  · have hm : mayL l = false := by
      rw [Bool.eq_false_iff]; intro hm
      have := (mayL_parts hm).1.2
      rw [← HN.out] at this; omega
    have HE : Hid (canE l = 70) := by show _ = _; unfold canE; rw [hm]; rfl
    have HV : Hid (canV l = []) := by show _ = _; unfold canV; rw [hm]; rfl
    have g6 : (6 : Int) < (n : Int) := by omega
    clear hm KC0 HN h0 h6
    rw [HE.out, HV.out]
    go_enter Tryz.func33, Tryz.ntmps33
    go_wp2_with fail
    go_ret2
    exact ⟨⟨_, rfl, OwnL.nil _ _⟩, Below.refl _ _⟩
  have g6 : ¬ (6 : Int) < (n : Int) := by omega
  have KC := Lib.hid (KC0.out (by omega))
  have HN0 := Lib.hid h0
  have HN6 := Lib.hid h6
  clear KC0 h0 h6
  go_enter Tryz.func33, Tryz.ntmps33
  go_wp2_with fail
  refine KC.out.mono ?_
  rintro e w1 ⟨r, rfl, hO, hB⟩
  have HO := Lib.hid hO
  have HB := Lib.hid hB
  rcases hO.2 with ⟨_, h⟩ | ⟨g, cap, cur, hv, hgb, _⟩
  · exact absurd h (by have := HN0.out; have := HN.out; omega)
  subst hv
  have KS := Lib.hid (sortLb_walk g cap W.heap.size l w1 HO.out (by have := HN6.out; have := HN.out; omega))
  rw [← HN.out] at KS ⊢
  clear hO hB KC
  go_wp2_with fail
  refine KS.out.mono ?_
  rintro e w2 ⟨rfl, d, hp, hu, hO2, hg⟩

  have HB2 : Hid (Below W.heap.size W w2) := HB.out.grown hg HB.out.size (fun k e => by injection e with e; rw [← e]; exact hgb)
  have HP := Lib.hid hp
  have HU := Lib.hid hu
  have HO2 := Lib.hid hO2
  have HD : Hid (d.length = n) := hp.length_eq.trans HN.out.symm
  clear hp hu hO2 hg KS HO HB hgb
  go_wp2_with fail
  go_loopw [21] (fun i wl => ∃ k : Nat, k ≤ n ∧ i = .int .i64 k ∧ Hid (UpTo d k) ∧ Hid (Ext w2 wl)) (fun i _ => n - (intOf i).toNat)
  case atStart => exact ⟨0, Nat.zero_le _, rfl, UpTo.zero d, Ext.refl _⟩
  case round =>
    obtain ⟨k, hk, rfl, HK, HE⟩ := hrel
    by_cases hlt : k < n
    · have hkd : k < d.length := by rw [HD.out]; exact hlt
      obtain ⟨y, hy⟩ : ∃ y, y = d[k] := ⟨_, rfl⟩
      have hcy : Cell2 wr g (k * 2) y := by rw [hy]; exact ⟨HE.out.cell_some (HO2.out.cells2 k hkd).1, HE.out.cell_some (HO2.out.cells2 k hkd).2⟩
      have HY := Lib.hid hy
      clear hy
      obtain ⟨y1, y2⟩ := y
      obtain ⟨d0, d1⟩ := hcy
      obtain ⟨x1, hx1⟩ : ∃ x : ByteArray, x = ⟨y1.toArray⟩ := ⟨_, rfl⟩
      obtain ⟨x2, hx2⟩ : ∃ x : ByteArray, x = ⟨y2.toArray⟩ := ⟨_, rfl⟩
      have c0 : wr.cell? ⟨g, k * 2, none⟩ = some (.string x1) := by rw [hx1]; exact d0
      have c1 : wr.cell? ⟨g, k * 2 + 1, none⟩ = some (.string x2) := by rw [hx2]; exact d1
      clear d0 d1
      obtain ⟨m, hm⟩ : ∃ m, m = y2.length := ⟨_, rfl⟩
      have hs2 : x2.size = m := by rw [hx2, hm]; simp [ByteArray.size]
      have HM := Lib.hid hm
      have HX1 := Lib.hid hx1
      obtain ⟨wp, hwp⟩ : ∃ wp, wp = wr.alloc (.cells #[.string x1, .string x2] 59) := ⟨_, rfl⟩
      have HEp : Hid (Ext wr wp) := by show Ext _ _; rw [hwp]; exact (Ext.refl _).alloc _
      have e0 : wp.cell? ⟨wr.heap.size, 0, none⟩ = some (.string x1) := by rw [hwp]; simp
      have e1 : wp.cell? ⟨wr.heap.size, 1, none⟩ = some (.string x2) := by rw [hwp]; simp
      have HWP := Lib.hid hwp
      obtain ⟨q, hq⟩ : ∃ q, q = nameOk y1 := ⟨_, rfl⟩
      have KN : Hid (∀ w', Ext wp w' → Calls Tryz.prog 65 #[.string x1] w' fun e w'' => e = .returned (.bool q) ∧ Ext w' w'') := fun w' _ => by rw [hq, HX1.out]; exact name_walk y1 w'
      have HQ := Lib.hid hq
      have KE : Hid (∀ w', Ext wp w' → w'.cell? ⟨wr.heap.size, 0, none⟩ = some (.string x1) ∧ w'.cell? ⟨wr.heap.size, 1, none⟩ = some (.string x2)) := fun w' h => ⟨h.cell_some e0, h.cell_some e1⟩
      have HES : Hid (Ext w2 wp) := HE.out.trans HEp.out
      have i1 : (k : Int) < (n : Int) := by omega
      clear hx1 hx2 hm hq hwp HEp
      cases q with
      | false =>
        have HF : Hid (mayL l = false) := not_may HP.out (k := k) (by rw [HD.out]; exact hlt) (by rw [← HY.out]; show ¬ (nameOk y1 = true ∧ _); rw [← HQ.out]; simp)
        have HE9 : Hid (canE l = 70) := by show _ = _; unfold canE; rw [HF.out]; rfl
        have HV9 : Hid (canV l = []) := by show _ = _; unfold canV; rw [HF.out]; rfl
        go_wp2_with fail
        rw [← HWP.out]
        have hE0 := Ext.refl wp
        refine wp_region_held_drew (S := fun w' => w'.cell? ⟨wr.heap.size, 0, none⟩ = some (.string x1) ∧ w'.cell? ⟨wr.heap.size, 1, none⟩ = some (.string x2) ∧ Ext wp w') (by kernel_rfl) ?_ (fun hHeld => ?_)
        · (try dsimp only)
          (have hd := Ext.drew hE0; exact ⟨(KE.out _ hd).1, (KE.out _ hd).2, hd⟩)
        first
        | (refine takeW (i := 0) (v := ?_) rfl (by kernel_rfl) (by kernel_rfl) (by kernel_rfl) (fun _ _ _ h => h) (by rfl) ?_ (by assumption) ?_
           rotate_left
           · (intro w hSw; (try dsimp only at hSw); go_simp; try with_reducible rfl)
           simp only [Act.put, sA, sZ, sS])
        | (refine takeU (i := 0) rfl (by kernel_rfl) (by kernel_rfl) (by kernel_rfl) (fun _ _ _ h => h) (by rfl) (by assumption) ?_
           simp only [Act.put, sA, sZ, sS])
        first
        | (refine takeW (i := 1) (v := ?_) rfl (by kernel_rfl) (by kernel_rfl) (by kernel_rfl) (fun _ _ _ h => h) (by rfl) ?_ (by assumption) ?_
           rotate_left
           · (intro w hSw; (try dsimp only at hSw); go_simp; try with_reducible rfl)
           simp only [Act.put, sA, sZ, sS])
        | (refine takeU (i := 1) rfl (by kernel_rfl) (by kernel_rfl) (by kernel_rfl) (fun _ _ _ h => h) (by rfl) (by assumption) ?_
           simp only [Act.put, sA, sZ, sS])
        first
        | (refine takeU (i := 2) rfl (by kernel_rfl) (by kernel_rfl) (by kernel_rfl) (fun _ _ _ h => h) (by rfl) (by assumption) ?_
           simp only [Act.put, sA, sZ, sS])
        | (refine takeC (i := 2) rfl (by kernel_rfl) (by rfl) (fun K hK => ?_)
           go_simp
           (go_at_call 65; refine (KN.out _ (by first | assumption | exact Ext.drew (by assumption))).mono ?_; rintro e w' ⟨rfl, hN⟩; have hN := Ext.trans (by first | assumption | exact Ext.drew (by assumption)) hN)
           try go_wp2_with fail
           refine hK.out _ _ ?_ (fun hHeld => ?_)
           · (try dsimp only)
             (have hd := hN; exact ⟨(KE.out _ hd).1, (KE.out _ hd).2, hd⟩)
           clear hK K
           try simp only [Act.put, sA, sZ, sS])
        first
        | (refine takeW (i := 3) (v := ?_) rfl (by kernel_rfl) (by kernel_rfl) (by kernel_rfl) (fun _ _ _ h => h) (by rfl) ?_ (by assumption) ?_
           rotate_left
           · (intro w hSw; (try dsimp only at hSw); go_simp; try with_reducible rfl)
           simp only [Act.put, sA, sZ, sS])
        | (refine takeU (i := 3) rfl (by kernel_rfl) (by kernel_rfl) (by kernel_rfl) (fun _ _ _ h => h) (by rfl) (by assumption) ?_
           simp only [Act.put, sA, sZ, sS])
        first
        | (refine takeW (i := 4) (v := ?_) rfl (by kernel_rfl) (by kernel_rfl) (by kernel_rfl) (fun _ _ _ h => h) (by rfl) ?_ (by assumption) ?_
           rotate_left
           · (intro w hSw; (try dsimp only at hSw); go_simp; try with_reducible rfl)
           simp only [Act.put, sA, sZ, sS])
        | (refine takeU (i := 4) rfl (by kernel_rfl) (by kernel_rfl) (by kernel_rfl) (fun _ _ _ h => h) (by rfl) (by assumption) ?_
           simp only [Act.put, sA, sZ, sS])
        first
        | (refine takeW (i := 5) (v := ?_) rfl (by kernel_rfl) (by kernel_rfl) (by kernel_rfl) (fun _ _ _ h => h) (by rfl) ?_ (by assumption) ?_
           rotate_left
           · (intro w hSw; (try dsimp only at hSw); go_simp; try with_reducible rfl)
           simp only [Act.put, sA, sZ, sS])
        | (refine takeU (i := 5) rfl (by kernel_rfl) (by kernel_rfl) (by kernel_rfl) (fun _ _ _ h => h) (by rfl) (by assumption) ?_
           simp only [Act.put, sA, sZ, sS])
        first
        | (refine takeW (i := 6) (v := ?_) rfl (by kernel_rfl) (by kernel_rfl) (by kernel_rfl) (fun _ _ _ h => h) (by rfl) ?_ (by assumption) ?_
           rotate_left
           · (intro w hSw; (try dsimp only at hSw); go_simp; try with_reducible rfl)
           simp only [Act.put, sA, sZ, sS])
        | (refine takeU (i := 6) rfl (by kernel_rfl) (by kernel_rfl) (by kernel_rfl) (fun _ _ _ h => h) (by rfl) (by assumption) ?_
           simp only [Act.put, sA, sZ, sS])
        first
        | (refine takeW (i := 7) (v := ?_) rfl (by kernel_rfl) (by kernel_rfl) (by kernel_rfl) (fun _ _ _ h => h) (by rfl) ?_ (by assumption) ?_
           rotate_left
           · (intro w hSw; (try dsimp only at hSw); go_simp; try with_reducible rfl)
           simp only [Act.put, sA, sZ, sS])
        | (refine takeU (i := 7) rfl (by kernel_rfl) (by kernel_rfl) (by kernel_rfl) (fun _ _ _ h => h) (by rfl) (by assumption) ?_
           simp only [Act.put, sA, sZ, sS])
        first
        | (refine takeW (i := 8) (v := ?_) rfl (by kernel_rfl) (by kernel_rfl) (by kernel_rfl) (fun _ _ _ h => h) (by rfl) ?_ (by assumption) ?_
           rotate_left
           · (intro w hSw; (try dsimp only at hSw); go_simp; try with_reducible rfl)
           simp only [Act.put, sA, sZ, sS])
        | (refine takeU (i := 8) rfl (by kernel_rfl) (by kernel_rfl) (by kernel_rfl) (fun _ _ _ h => h) (by rfl) (by assumption) ?_
           simp only [Act.put, sA, sZ, sS])
        first
        | (refine takeW (i := 9) (v := ?_) rfl (by kernel_rfl) (by kernel_rfl) (by kernel_rfl) (fun _ _ _ h => h) (by rfl) ?_ (by assumption) ?_
           rotate_left
           · (intro w hSw; (try dsimp only at hSw); go_simp; try with_reducible rfl)
           simp only [Act.put, sA, sZ, sS])
        | (refine takeU (i := 9) rfl (by kernel_rfl) (by kernel_rfl) (by kernel_rfl) (fun _ _ _ h => h) (by rfl) (by assumption) ?_
           simp only [Act.put, sA, sZ, sS])
        first
        | (refine takeW (i := 10) (v := ?_) rfl (by kernel_rfl) (by kernel_rfl) (by kernel_rfl) (fun _ _ _ h => h) (by rfl) ?_ (by assumption) ?_
           rotate_left
           · (intro w hSw; (try dsimp only at hSw); go_simp; try with_reducible rfl)
           simp only [Act.put, sA, sZ, sS])
        | (refine takeU (i := 10) rfl (by kernel_rfl) (by kernel_rfl) (by kernel_rfl) (fun _ _ _ h => h) (by rfl) (by assumption) ?_
           simp only [Act.put, sA, sZ, sS])
        first
        | (refine takeW (i := 11) (v := ?_) rfl (by kernel_rfl) (by kernel_rfl) (by kernel_rfl) (fun _ _ _ h => h) (by rfl) ?_ (by assumption) ?_
           rotate_left
           · (intro w hSw; (try dsimp only at hSw); go_simp; try with_reducible rfl)
           simp only [Act.put, sA, sZ, sS])
        | (refine takeU (i := 11) rfl (by kernel_rfl) (by kernel_rfl) (by kernel_rfl) (fun _ _ _ h => h) (by rfl) (by assumption) ?_
           simp only [Act.put, sA, sZ, sS])
        first
        | (refine takeW (i := 12) (v := ?_) rfl (by kernel_rfl) (by kernel_rfl) (by kernel_rfl) (fun _ _ _ h => h) (by rfl) ?_ (by assumption) ?_
           rotate_left
           · (intro w hSw; (try dsimp only at hSw); go_simp; try with_reducible rfl)
           simp only [Act.put, sA, sZ, sS])
        | (refine takeU (i := 12) rfl (by kernel_rfl) (by kernel_rfl) (by kernel_rfl) (fun _ _ _ h => h) (by rfl) (by assumption) ?_
           simp only [Act.put, sA, sZ, sS])
        first
        | (refine takeW (i := 13) (v := ?_) rfl (by kernel_rfl) (by kernel_rfl) (by kernel_rfl) (fun _ _ _ h => h) (by rfl) ?_ (by assumption) ?_
           rotate_left
           · (intro w hSw; (try dsimp only at hSw); go_simp; try with_reducible rfl)
           simp only [Act.put, sA, sZ, sS])
        | (refine takeU (i := 13) rfl (by kernel_rfl) (by kernel_rfl) (by kernel_rfl) (fun _ _ _ h => h) (by rfl) (by assumption) ?_
           simp only [Act.put, sA, sZ, sS])
        first
        | (refine takeW (i := 14) (v := ?_) rfl (by kernel_rfl) (by kernel_rfl) (by kernel_rfl) (fun _ _ _ h => h) (by rfl) ?_ (by assumption) ?_
           rotate_left
           · (intro w hSw; (try dsimp only at hSw); go_simp; try with_reducible rfl)
           simp only [Act.put, sA, sZ, sS])
        | (refine takeU (i := 14) rfl (by kernel_rfl) (by kernel_rfl) (by kernel_rfl) (fun _ _ _ h => h) (by rfl) (by assumption) ?_
           simp only [Act.put, sA, sZ, sS])
        first
        | (refine takeW (i := 15) (v := ?_) rfl (by kernel_rfl) (by kernel_rfl) (by kernel_rfl) (fun _ _ _ h => h) (by rfl) ?_ (by assumption) ?_
           rotate_left
           · (intro w hSw; (try dsimp only at hSw); go_simp; try with_reducible rfl)
           simp only [Act.put, sA, sZ, sS])
        | (refine takeU (i := 15) rfl (by kernel_rfl) (by kernel_rfl) (by kernel_rfl) (fun _ _ _ h => h) (by rfl) (by assumption) ?_
           simp only [Act.put, sA, sZ, sS])
        first
        | (refine takeW (i := 16) (v := ?_) rfl (by kernel_rfl) (by kernel_rfl) (by kernel_rfl) (fun _ _ _ h => h) (by rfl) ?_ (by assumption) ?_
           rotate_left
           · (intro w hSw; (try dsimp only at hSw); go_simp; try with_reducible rfl)
           simp only [Act.put, sA, sZ, sS])
        | (refine takeU (i := 16) rfl (by kernel_rfl) (by kernel_rfl) (by kernel_rfl) (fun _ _ _ h => h) (by rfl) (by assumption) ?_
           simp only [Act.put, sA, sZ, sS])
        first
        | (refine takeW (i := 17) (v := ?_) rfl (by kernel_rfl) (by kernel_rfl) (by kernel_rfl) (fun _ _ _ h => h) (by rfl) ?_ (by assumption) ?_
           rotate_left
           · (intro w hSw; (try dsimp only at hSw); go_simp; try with_reducible rfl)
           simp only [Act.put, sA, sZ, sS])
        | (refine takeU (i := 17) rfl (by kernel_rfl) (by kernel_rfl) (by kernel_rfl) (fun _ _ _ h => h) (by rfl) (by assumption) ?_
           simp only [Act.put, sA, sZ, sS])
        first
        | (refine takeW (i := 18) (v := ?_) rfl (by kernel_rfl) (by kernel_rfl) (by kernel_rfl) (fun _ _ _ h => h) (by rfl) ?_ (by assumption) ?_
           rotate_left
           · (intro w hSw; (try dsimp only at hSw); go_simp; try with_reducible rfl)
           simp only [Act.put, sA, sZ, sS])
        | (refine takeU (i := 18) rfl (by kernel_rfl) (by kernel_rfl) (by kernel_rfl) (fun _ _ _ h => h) (by rfl) (by assumption) ?_
           simp only [Act.put, sA, sZ, sS])
        first
        | (refine takeW (i := 19) (v := ?_) rfl (by kernel_rfl) (by kernel_rfl) (by kernel_rfl) (fun _ _ _ h => h) (by rfl) ?_ (by assumption) ?_
           rotate_left
           · (intro w hSw; (try dsimp only at hSw); go_simp; try with_reducible rfl)
           simp only [Act.put, sA, sZ, sS])
        | (refine takeU (i := 19) rfl (by kernel_rfl) (by kernel_rfl) (by kernel_rfl) (fun _ _ _ h => h) (by rfl) (by assumption) ?_
           simp only [Act.put, sA, sZ, sS])
        first
        | (refine takeW (i := 20) (v := ?_) rfl (by kernel_rfl) (by kernel_rfl) (by kernel_rfl) (fun _ _ _ h => h) (by rfl) ?_ (by assumption) ?_
           rotate_left
           · (intro w hSw; (try dsimp only at hSw); go_simp; try with_reducible rfl)
           simp only [Act.put, sA, sZ, sS])
        | (refine takeU (i := 20) rfl (by kernel_rfl) (by kernel_rfl) (by kernel_rfl) (fun _ _ _ h => h) (by rfl) (by assumption) ?_
           simp only [Act.put, sA, sZ, sS])
        first
        | (refine takeW (i := 21) (v := ?_) rfl (by kernel_rfl) (by kernel_rfl) (by kernel_rfl) (fun _ _ _ h => h) (by rfl) ?_ (by assumption) ?_
           rotate_left
           · (intro w hSw; (try dsimp only at hSw); go_simp; try with_reducible rfl)
           simp only [Act.put, sA, sZ, sS])
        | (refine takeU (i := 21) rfl (by kernel_rfl) (by kernel_rfl) (by kernel_rfl) (fun _ _ _ h => h) (by rfl) (by assumption) ?_
           simp only [Act.put, sA, sZ, sS])
        first
        | (refine takeW (i := 22) (v := ?_) rfl (by kernel_rfl) (by kernel_rfl) (by kernel_rfl) (fun _ _ _ h => h) (by rfl) ?_ (by assumption) ?_
           rotate_left
           · (intro w hSw; (try dsimp only at hSw); go_simp; try with_reducible rfl)
           simp only [Act.put, sA, sZ, sS])
        | (refine takeU (i := 22) rfl (by kernel_rfl) (by kernel_rfl) (by kernel_rfl) (fun _ _ _ h => h) (by rfl) (by assumption) ?_
           simp only [Act.put, sA, sZ, sS])
        first
        | (refine takeW (i := 23) (v := ?_) rfl (by kernel_rfl) (by kernel_rfl) (by kernel_rfl) (fun _ _ _ h => h) (by rfl) ?_ (by assumption) ?_
           rotate_left
           · (intro w hSw; (try dsimp only at hSw); go_simp; try with_reducible rfl)
           simp only [Act.put, sA, sZ, sS])
        | (refine takeU (i := 23) rfl (by kernel_rfl) (by kernel_rfl) (by kernel_rfl) (fun _ _ _ h => h) (by rfl) (by assumption) ?_
           simp only [Act.put, sA, sZ, sS])
        first
        | (refine takeW (i := 24) (v := ?_) rfl (by kernel_rfl) (by kernel_rfl) (by kernel_rfl) (fun _ _ _ h => h) (by rfl) ?_ (by assumption) ?_
           rotate_left
           · (intro w hSw; (try dsimp only at hSw); go_simp; try with_reducible rfl)
           simp only [Act.put, sA, sZ, sS])
        | (refine takeU (i := 24) rfl (by kernel_rfl) (by kernel_rfl) (by kernel_rfl) (fun _ _ _ h => h) (by rfl) (by assumption) ?_
           simp only [Act.put, sA, sZ, sS])
        first
        | (refine takeW (i := 25) (v := ?_) rfl (by kernel_rfl) (by kernel_rfl) (by kernel_rfl) (fun _ _ _ h => h) (by rfl) ?_ (by assumption) ?_
           rotate_left
           · (intro w hSw; (try dsimp only at hSw); go_simp; try with_reducible rfl)
           simp only [Act.put, sA, sZ, sS])
        | (refine takeU (i := 25) rfl (by kernel_rfl) (by kernel_rfl) (by kernel_rfl) (fun _ _ _ h => h) (by rfl) (by assumption) ?_
           simp only [Act.put, sA, sZ, sS])
        first
        | (refine takeW (i := 26) (v := ?_) rfl (by kernel_rfl) (by kernel_rfl) (by kernel_rfl) (fun _ _ _ h => h) (by rfl) ?_ (by assumption) ?_
           rotate_left
           · (intro w hSw; (try dsimp only at hSw); go_simp; try with_reducible rfl)
           simp only [Act.put, sA, sZ, sS])
        | (refine takeU (i := 26) rfl (by kernel_rfl) (by kernel_rfl) (by kernel_rfl) (fun _ _ _ h => h) (by rfl) (by assumption) ?_
           simp only [Act.put, sA, sZ, sS])
        first
        | (refine takeW (i := 27) (v := ?_) rfl (by kernel_rfl) (by kernel_rfl) (by kernel_rfl) (fun _ _ _ h => h) (by rfl) ?_ (by assumption) ?_
           rotate_left
           · (intro w hSw; (try dsimp only at hSw); go_simp; try with_reducible rfl)
           simp only [Act.put, sA, sZ, sS])
        | (refine takeU (i := 27) rfl (by kernel_rfl) (by kernel_rfl) (by kernel_rfl) (fun _ _ _ h => h) (by rfl) (by assumption) ?_
           simp only [Act.put, sA, sZ, sS])
        first
        | (refine takeW (i := 28) (v := ?_) rfl (by kernel_rfl) (by kernel_rfl) (by kernel_rfl) (fun _ _ _ h => h) (by rfl) ?_ (by assumption) ?_
           rotate_left
           · (intro w hSw; (try dsimp only at hSw); go_simp; try with_reducible rfl)
           simp only [Act.put, sA, sZ, sS])
        | (refine takeU (i := 28) rfl (by kernel_rfl) (by kernel_rfl) (by kernel_rfl) (fun _ _ _ h => h) (by rfl) (by assumption) ?_
           simp only [Act.put, sA, sZ, sS])
        first
        | (refine takeW (i := 29) (v := ?_) rfl (by kernel_rfl) (by kernel_rfl) (by kernel_rfl) (fun _ _ _ h => h) (by rfl) ?_ (by assumption) ?_
           rotate_left
           · (intro w hSw; (try dsimp only at hSw); go_simp; try with_reducible rfl)
           simp only [Act.put, sA, sZ, sS])
        | (refine takeU (i := 29) rfl (by kernel_rfl) (by kernel_rfl) (by kernel_rfl) (fun _ _ _ h => h) (by rfl) (by assumption) ?_
           simp only [Act.put, sA, sZ, sS])
        first
        | (refine takeW (i := 30) (v := ?_) rfl (by kernel_rfl) (by kernel_rfl) (by kernel_rfl) (fun _ _ _ h => h) (by rfl) ?_ (by assumption) ?_
           rotate_left
           · (intro w hSw; (try dsimp only at hSw); go_simp; try with_reducible rfl)
           simp only [Act.put, sA, sZ, sS])
        | (refine takeU (i := 30) rfl (by kernel_rfl) (by kernel_rfl) (by kernel_rfl) (fun _ _ _ h => h) (by rfl) (by assumption) ?_
           simp only [Act.put, sA, sZ, sS])
        refine wpAnyH_done (by kernel_rfl) ?_ _
        go_wp2_with fail
        go_ret2
        exact ⟨⟨_, ret_can HE9.out.symm rfl, by rw [HV9.out]; exact OwnL.nil _ _⟩, HB2.out.trans ((HES.out.trans hN).below.mono HB2.out.size)⟩
      | true =>
        by_cases v1 : m < 1
        · have HF : Hid (mayL l = false) := not_may HP.out (k := k) (by rw [HD.out]; exact hlt) (by rw [← HY.out, valueOk_iff]; show ¬ (_ ∧ 1 ≤ y2.length ∧ _); rw [← HM.out]; omega)
          have gv : ((m : Int) < 1) = True := eq_true (by omega)
          have HE9 : Hid (canE l = 70) := by show _ = _; unfold canE; rw [HF.out]; rfl
          have HV9 : Hid (canV l = []) := by show _ = _; unfold canV; rw [HF.out]; rfl
          go_wp2_with fail
          rw [← HWP.out]
          have hE0 := Ext.refl wp
          refine wp_region_held_drew (S := fun w' => w'.cell? ⟨wr.heap.size, 0, none⟩ = some (.string x1) ∧ w'.cell? ⟨wr.heap.size, 1, none⟩ = some (.string x2) ∧ Ext wp w') (by kernel_rfl) ?_ (fun hHeld => ?_)
          · (try dsimp only)
            (have hd := Ext.drew hE0; exact ⟨(KE.out _ hd).1, (KE.out _ hd).2, hd⟩)
          first
          | (refine takeW (i := 0) (v := ?_) rfl (by kernel_rfl) (by kernel_rfl) (by kernel_rfl) (fun _ _ _ h => h) (by rfl) ?_ (by assumption) ?_
             rotate_left
             · (intro w hSw; (try dsimp only at hSw); go_simp; try with_reducible rfl)
             simp only [Act.put, sA, sZ, sS])
          | (refine takeU (i := 0) rfl (by kernel_rfl) (by kernel_rfl) (by kernel_rfl) (fun _ _ _ h => h) (by rfl) (by assumption) ?_
             simp only [Act.put, sA, sZ, sS])
          first
          | (refine takeW (i := 1) (v := ?_) rfl (by kernel_rfl) (by kernel_rfl) (by kernel_rfl) (fun _ _ _ h => h) (by rfl) ?_ (by assumption) ?_
             rotate_left
             · (intro w hSw; (try dsimp only at hSw); go_simp; try with_reducible rfl)
             simp only [Act.put, sA, sZ, sS])
          | (refine takeU (i := 1) rfl (by kernel_rfl) (by kernel_rfl) (by kernel_rfl) (fun _ _ _ h => h) (by rfl) (by assumption) ?_
             simp only [Act.put, sA, sZ, sS])
          first
          | (refine takeU (i := 2) rfl (by kernel_rfl) (by kernel_rfl) (by kernel_rfl) (fun _ _ _ h => h) (by rfl) (by assumption) ?_
             simp only [Act.put, sA, sZ, sS])
          | (refine takeC (i := 2) rfl (by kernel_rfl) (by rfl) (fun K hK => ?_)
             go_simp
             (go_at_call 65; refine (KN.out _ (by first | assumption | exact Ext.drew (by assumption))).mono ?_; rintro e w' ⟨rfl, hN⟩; have hN := Ext.trans (by first | assumption | exact Ext.drew (by assumption)) hN)
             try go_wp2_with fail
             refine hK.out _ _ ?_ (fun hHeld => ?_)
             · (try dsimp only)
               (have hd := hN; exact ⟨(KE.out _ hd).1, (KE.out _ hd).2, hd⟩)
             clear hK K
             try simp only [Act.put, sA, sZ, sS])
          first
          | (refine takeW (i := 3) (v := ?_) rfl (by kernel_rfl) (by kernel_rfl) (by kernel_rfl) (fun _ _ _ h => h) (by rfl) ?_ (by assumption) ?_
             rotate_left
             · (intro w hSw; (try dsimp only at hSw); go_simp; try with_reducible rfl)
             simp only [Act.put, sA, sZ, sS])
          | (refine takeU (i := 3) rfl (by kernel_rfl) (by kernel_rfl) (by kernel_rfl) (fun _ _ _ h => h) (by rfl) (by assumption) ?_
             simp only [Act.put, sA, sZ, sS])
          first
          | (refine takeW (i := 4) (v := ?_) rfl (by kernel_rfl) (by kernel_rfl) (by kernel_rfl) (fun _ _ _ h => h) (by rfl) ?_ (by assumption) ?_
             rotate_left
             · (intro w hSw; (try dsimp only at hSw); go_simp; try with_reducible rfl)
             simp only [Act.put, sA, sZ, sS])
          | (refine takeU (i := 4) rfl (by kernel_rfl) (by kernel_rfl) (by kernel_rfl) (fun _ _ _ h => h) (by rfl) (by assumption) ?_
             simp only [Act.put, sA, sZ, sS])
          first
          | (refine takeW (i := 5) (v := ?_) rfl (by kernel_rfl) (by kernel_rfl) (by kernel_rfl) (fun _ _ _ h => h) (by rfl) ?_ (by assumption) ?_
             rotate_left
             · (intro w hSw; (try dsimp only at hSw); go_simp; try with_reducible rfl)
             simp only [Act.put, sA, sZ, sS])
          | (refine takeU (i := 5) rfl (by kernel_rfl) (by kernel_rfl) (by kernel_rfl) (fun _ _ _ h => h) (by rfl) (by assumption) ?_
             simp only [Act.put, sA, sZ, sS])
          first
          | (refine takeW (i := 6) (v := ?_) rfl (by kernel_rfl) (by kernel_rfl) (by kernel_rfl) (fun _ _ _ h => h) (by rfl) ?_ (by assumption) ?_
             rotate_left
             · (intro w hSw; (try dsimp only at hSw); go_simp; try with_reducible rfl)
             simp only [Act.put, sA, sZ, sS])
          | (refine takeU (i := 6) rfl (by kernel_rfl) (by kernel_rfl) (by kernel_rfl) (fun _ _ _ h => h) (by rfl) (by assumption) ?_
             simp only [Act.put, sA, sZ, sS])
          first
          | (refine takeW (i := 7) (v := ?_) rfl (by kernel_rfl) (by kernel_rfl) (by kernel_rfl) (fun _ _ _ h => h) (by rfl) ?_ (by assumption) ?_
             rotate_left
             · (intro w hSw; (try dsimp only at hSw); go_simp; try with_reducible rfl)
             simp only [Act.put, sA, sZ, sS])
          | (refine takeU (i := 7) rfl (by kernel_rfl) (by kernel_rfl) (by kernel_rfl) (fun _ _ _ h => h) (by rfl) (by assumption) ?_
             simp only [Act.put, sA, sZ, sS])
          first
          | (refine takeW (i := 8) (v := ?_) rfl (by kernel_rfl) (by kernel_rfl) (by kernel_rfl) (fun _ _ _ h => h) (by rfl) ?_ (by assumption) ?_
             rotate_left
             · (intro w hSw; (try dsimp only at hSw); go_simp; try with_reducible rfl)
             simp only [Act.put, sA, sZ, sS])
          | (refine takeU (i := 8) rfl (by kernel_rfl) (by kernel_rfl) (by kernel_rfl) (fun _ _ _ h => h) (by rfl) (by assumption) ?_
             simp only [Act.put, sA, sZ, sS])
          first
          | (refine takeW (i := 9) (v := ?_) rfl (by kernel_rfl) (by kernel_rfl) (by kernel_rfl) (fun _ _ _ h => h) (by rfl) ?_ (by assumption) ?_
             rotate_left
             · (intro w hSw; (try dsimp only at hSw); go_simp; try with_reducible rfl)
             simp only [Act.put, sA, sZ, sS])
          | (refine takeU (i := 9) rfl (by kernel_rfl) (by kernel_rfl) (by kernel_rfl) (fun _ _ _ h => h) (by rfl) (by assumption) ?_
             simp only [Act.put, sA, sZ, sS])
          first
          | (refine takeW (i := 10) (v := ?_) rfl (by kernel_rfl) (by kernel_rfl) (by kernel_rfl) (fun _ _ _ h => h) (by rfl) ?_ (by assumption) ?_
             rotate_left
             · (intro w hSw; (try dsimp only at hSw); go_simp; try with_reducible rfl)
             simp only [Act.put, sA, sZ, sS])
          | (refine takeU (i := 10) rfl (by kernel_rfl) (by kernel_rfl) (by kernel_rfl) (fun _ _ _ h => h) (by rfl) (by assumption) ?_
             simp only [Act.put, sA, sZ, sS])
          first
          | (refine takeW (i := 11) (v := ?_) rfl (by kernel_rfl) (by kernel_rfl) (by kernel_rfl) (fun _ _ _ h => h) (by rfl) ?_ (by assumption) ?_
             rotate_left
             · (intro w hSw; (try dsimp only at hSw); go_simp; try with_reducible rfl)
             simp only [Act.put, sA, sZ, sS])
          | (refine takeU (i := 11) rfl (by kernel_rfl) (by kernel_rfl) (by kernel_rfl) (fun _ _ _ h => h) (by rfl) (by assumption) ?_
             simp only [Act.put, sA, sZ, sS])
          first
          | (refine takeW (i := 12) (v := ?_) rfl (by kernel_rfl) (by kernel_rfl) (by kernel_rfl) (fun _ _ _ h => h) (by rfl) ?_ (by assumption) ?_
             rotate_left
             · (intro w hSw; (try dsimp only at hSw); go_simp; try with_reducible rfl)
             simp only [Act.put, sA, sZ, sS])
          | (refine takeU (i := 12) rfl (by kernel_rfl) (by kernel_rfl) (by kernel_rfl) (fun _ _ _ h => h) (by rfl) (by assumption) ?_
             simp only [Act.put, sA, sZ, sS])
          first
          | (refine takeW (i := 13) (v := ?_) rfl (by kernel_rfl) (by kernel_rfl) (by kernel_rfl) (fun _ _ _ h => h) (by rfl) ?_ (by assumption) ?_
             rotate_left
             · (intro w hSw; (try dsimp only at hSw); go_simp; try with_reducible rfl)
             simp only [Act.put, sA, sZ, sS])
          | (refine takeU (i := 13) rfl (by kernel_rfl) (by kernel_rfl) (by kernel_rfl) (fun _ _ _ h => h) (by rfl) (by assumption) ?_
             simp only [Act.put, sA, sZ, sS])
          first
          | (refine takeW (i := 14) (v := ?_) rfl (by kernel_rfl) (by kernel_rfl) (by kernel_rfl) (fun _ _ _ h => h) (by rfl) ?_ (by assumption) ?_
             rotate_left
             · (intro w hSw; (try dsimp only at hSw); go_simp; try with_reducible rfl)
             simp only [Act.put, sA, sZ, sS])
          | (refine takeU (i := 14) rfl (by kernel_rfl) (by kernel_rfl) (by kernel_rfl) (fun _ _ _ h => h) (by rfl) (by assumption) ?_
             simp only [Act.put, sA, sZ, sS])
          first
          | (refine takeW (i := 15) (v := ?_) rfl (by kernel_rfl) (by kernel_rfl) (by kernel_rfl) (fun _ _ _ h => h) (by rfl) ?_ (by assumption) ?_
             rotate_left
             · (intro w hSw; (try dsimp only at hSw); go_simp; try with_reducible rfl)
             simp only [Act.put, sA, sZ, sS])
          | (refine takeU (i := 15) rfl (by kernel_rfl) (by kernel_rfl) (by kernel_rfl) (fun _ _ _ h => h) (by rfl) (by assumption) ?_
             simp only [Act.put, sA, sZ, sS])
          first
          | (refine takeW (i := 16) (v := ?_) rfl (by kernel_rfl) (by kernel_rfl) (by kernel_rfl) (fun _ _ _ h => h) (by rfl) ?_ (by assumption) ?_
             rotate_left
             · (intro w hSw; (try dsimp only at hSw); go_simp; try with_reducible rfl)
             simp only [Act.put, sA, sZ, sS])
          | (refine takeU (i := 16) rfl (by kernel_rfl) (by kernel_rfl) (by kernel_rfl) (fun _ _ _ h => h) (by rfl) (by assumption) ?_
             simp only [Act.put, sA, sZ, sS])
          first
          | (refine takeW (i := 17) (v := ?_) rfl (by kernel_rfl) (by kernel_rfl) (by kernel_rfl) (fun _ _ _ h => h) (by rfl) ?_ (by assumption) ?_
             rotate_left
             · (intro w hSw; (try dsimp only at hSw); go_simp; try with_reducible rfl)
             simp only [Act.put, sA, sZ, sS])
          | (refine takeU (i := 17) rfl (by kernel_rfl) (by kernel_rfl) (by kernel_rfl) (fun _ _ _ h => h) (by rfl) (by assumption) ?_
             simp only [Act.put, sA, sZ, sS])
          first
          | (refine takeW (i := 18) (v := ?_) rfl (by kernel_rfl) (by kernel_rfl) (by kernel_rfl) (fun _ _ _ h => h) (by rfl) ?_ (by assumption) ?_
             rotate_left
             · (intro w hSw; (try dsimp only at hSw); go_simp; try with_reducible rfl)
             simp only [Act.put, sA, sZ, sS])
          | (refine takeU (i := 18) rfl (by kernel_rfl) (by kernel_rfl) (by kernel_rfl) (fun _ _ _ h => h) (by rfl) (by assumption) ?_
             simp only [Act.put, sA, sZ, sS])
          first
          | (refine takeW (i := 19) (v := ?_) rfl (by kernel_rfl) (by kernel_rfl) (by kernel_rfl) (fun _ _ _ h => h) (by rfl) ?_ (by assumption) ?_
             rotate_left
             · (intro w hSw; (try dsimp only at hSw); go_simp; try with_reducible rfl)
             simp only [Act.put, sA, sZ, sS])
          | (refine takeU (i := 19) rfl (by kernel_rfl) (by kernel_rfl) (by kernel_rfl) (fun _ _ _ h => h) (by rfl) (by assumption) ?_
             simp only [Act.put, sA, sZ, sS])
          first
          | (refine takeW (i := 20) (v := ?_) rfl (by kernel_rfl) (by kernel_rfl) (by kernel_rfl) (fun _ _ _ h => h) (by rfl) ?_ (by assumption) ?_
             rotate_left
             · (intro w hSw; (try dsimp only at hSw); go_simp; try with_reducible rfl)
             simp only [Act.put, sA, sZ, sS])
          | (refine takeU (i := 20) rfl (by kernel_rfl) (by kernel_rfl) (by kernel_rfl) (fun _ _ _ h => h) (by rfl) (by assumption) ?_
             simp only [Act.put, sA, sZ, sS])
          first
          | (refine takeW (i := 21) (v := ?_) rfl (by kernel_rfl) (by kernel_rfl) (by kernel_rfl) (fun _ _ _ h => h) (by rfl) ?_ (by assumption) ?_
             rotate_left
             · (intro w hSw; (try dsimp only at hSw); go_simp; try with_reducible rfl)
             simp only [Act.put, sA, sZ, sS])
          | (refine takeU (i := 21) rfl (by kernel_rfl) (by kernel_rfl) (by kernel_rfl) (fun _ _ _ h => h) (by rfl) (by assumption) ?_
             simp only [Act.put, sA, sZ, sS])
          first
          | (refine takeW (i := 22) (v := ?_) rfl (by kernel_rfl) (by kernel_rfl) (by kernel_rfl) (fun _ _ _ h => h) (by rfl) ?_ (by assumption) ?_
             rotate_left
             · (intro w hSw; (try dsimp only at hSw); go_simp; try with_reducible rfl)
             simp only [Act.put, sA, sZ, sS])
          | (refine takeU (i := 22) rfl (by kernel_rfl) (by kernel_rfl) (by kernel_rfl) (fun _ _ _ h => h) (by rfl) (by assumption) ?_
             simp only [Act.put, sA, sZ, sS])
          first
          | (refine takeW (i := 23) (v := ?_) rfl (by kernel_rfl) (by kernel_rfl) (by kernel_rfl) (fun _ _ _ h => h) (by rfl) ?_ (by assumption) ?_
             rotate_left
             · (intro w hSw; (try dsimp only at hSw); go_simp; try with_reducible rfl)
             simp only [Act.put, sA, sZ, sS])
          | (refine takeU (i := 23) rfl (by kernel_rfl) (by kernel_rfl) (by kernel_rfl) (fun _ _ _ h => h) (by rfl) (by assumption) ?_
             simp only [Act.put, sA, sZ, sS])
          first
          | (refine takeW (i := 24) (v := ?_) rfl (by kernel_rfl) (by kernel_rfl) (by kernel_rfl) (fun _ _ _ h => h) (by rfl) ?_ (by assumption) ?_
             rotate_left
             · (intro w hSw; (try dsimp only at hSw); go_simp; try with_reducible rfl)
             simp only [Act.put, sA, sZ, sS])
          | (refine takeU (i := 24) rfl (by kernel_rfl) (by kernel_rfl) (by kernel_rfl) (fun _ _ _ h => h) (by rfl) (by assumption) ?_
             simp only [Act.put, sA, sZ, sS])
          first
          | (refine takeW (i := 25) (v := ?_) rfl (by kernel_rfl) (by kernel_rfl) (by kernel_rfl) (fun _ _ _ h => h) (by rfl) ?_ (by assumption) ?_
             rotate_left
             · (intro w hSw; (try dsimp only at hSw); go_simp; try with_reducible rfl)
             simp only [Act.put, sA, sZ, sS])
          | (refine takeU (i := 25) rfl (by kernel_rfl) (by kernel_rfl) (by kernel_rfl) (fun _ _ _ h => h) (by rfl) (by assumption) ?_
             simp only [Act.put, sA, sZ, sS])
          first
          | (refine takeW (i := 26) (v := ?_) rfl (by kernel_rfl) (by kernel_rfl) (by kernel_rfl) (fun _ _ _ h => h) (by rfl) ?_ (by assumption) ?_
             rotate_left
             · (intro w hSw; (try dsimp only at hSw); go_simp; try with_reducible rfl)
             simp only [Act.put, sA, sZ, sS])
          | (refine takeU (i := 26) rfl (by kernel_rfl) (by kernel_rfl) (by kernel_rfl) (fun _ _ _ h => h) (by rfl) (by assumption) ?_
             simp only [Act.put, sA, sZ, sS])
          first
          | (refine takeW (i := 27) (v := ?_) rfl (by kernel_rfl) (by kernel_rfl) (by kernel_rfl) (fun _ _ _ h => h) (by rfl) ?_ (by assumption) ?_
             rotate_left
             · (intro w hSw; (try dsimp only at hSw); go_simp; try with_reducible rfl)
             simp only [Act.put, sA, sZ, sS])
          | (refine takeU (i := 27) rfl (by kernel_rfl) (by kernel_rfl) (by kernel_rfl) (fun _ _ _ h => h) (by rfl) (by assumption) ?_
             simp only [Act.put, sA, sZ, sS])
          first
          | (refine takeW (i := 28) (v := ?_) rfl (by kernel_rfl) (by kernel_rfl) (by kernel_rfl) (fun _ _ _ h => h) (by rfl) ?_ (by assumption) ?_
             rotate_left
             · (intro w hSw; (try dsimp only at hSw); go_simp; try with_reducible rfl)
             simp only [Act.put, sA, sZ, sS])
          | (refine takeU (i := 28) rfl (by kernel_rfl) (by kernel_rfl) (by kernel_rfl) (fun _ _ _ h => h) (by rfl) (by assumption) ?_
             simp only [Act.put, sA, sZ, sS])
          first
          | (refine takeW (i := 29) (v := ?_) rfl (by kernel_rfl) (by kernel_rfl) (by kernel_rfl) (fun _ _ _ h => h) (by rfl) ?_ (by assumption) ?_
             rotate_left
             · (intro w hSw; (try dsimp only at hSw); go_simp; try with_reducible rfl)
             simp only [Act.put, sA, sZ, sS])
          | (refine takeU (i := 29) rfl (by kernel_rfl) (by kernel_rfl) (by kernel_rfl) (fun _ _ _ h => h) (by rfl) (by assumption) ?_
             simp only [Act.put, sA, sZ, sS])
          first
          | (refine takeW (i := 30) (v := ?_) rfl (by kernel_rfl) (by kernel_rfl) (by kernel_rfl) (fun _ _ _ h => h) (by rfl) ?_ (by assumption) ?_
             rotate_left
             · (intro w hSw; (try dsimp only at hSw); go_simp; try with_reducible rfl)
             simp only [Act.put, sA, sZ, sS])
          | (refine takeU (i := 30) rfl (by kernel_rfl) (by kernel_rfl) (by kernel_rfl) (fun _ _ _ h => h) (by rfl) (by assumption) ?_
             simp only [Act.put, sA, sZ, sS])
          refine wpAnyH_done (by kernel_rfl) ?_ _
          go_wp2_with fail
          go_ret2
          exact ⟨⟨_, ret_can HE9.out.symm rfl, by rw [HV9.out]; exact OwnL.nil _ _⟩, HB2.out.trans ((HES.out.trans hN).below.mono HB2.out.size)⟩
        have gv : ((m : Int) < 1) = False := eq_false (by omega)
        by_cases v2 : 16 < m
        · have HF : Hid (mayL l = false) := not_may HP.out (k := k) (by rw [HD.out]; exact hlt) (by rw [← HY.out, valueOk_iff]; show ¬ (_ ∧ _ ∧ y2.length ≤ 16); rw [← HM.out]; omega)
          have gw : ((16 : Int) < (m : Int)) = True := eq_true (by omega)
          have HE9 : Hid (canE l = 70) := by show _ = _; unfold canE; rw [HF.out]; rfl
          have HV9 : Hid (canV l = []) := by show _ = _; unfold canV; rw [HF.out]; rfl
          go_wp2_with fail
          rw [← HWP.out]
          have hE0 := Ext.refl wp
          refine wp_region_held_drew (S := fun w' => w'.cell? ⟨wr.heap.size, 0, none⟩ = some (.string x1) ∧ w'.cell? ⟨wr.heap.size, 1, none⟩ = some (.string x2) ∧ Ext wp w') (by kernel_rfl) ?_ (fun hHeld => ?_)
          · (try dsimp only)
            (have hd := Ext.drew hE0; exact ⟨(KE.out _ hd).1, (KE.out _ hd).2, hd⟩)
          first
          | (refine takeW (i := 0) (v := ?_) rfl (by kernel_rfl) (by kernel_rfl) (by kernel_rfl) (fun _ _ _ h => h) (by rfl) ?_ (by assumption) ?_
             rotate_left
             · (intro w hSw; (try dsimp only at hSw); go_simp; try with_reducible rfl)
             simp only [Act.put, sA, sZ, sS])
          | (refine takeU (i := 0) rfl (by kernel_rfl) (by kernel_rfl) (by kernel_rfl) (fun _ _ _ h => h) (by rfl) (by assumption) ?_
             simp only [Act.put, sA, sZ, sS])
          first
          | (refine takeW (i := 1) (v := ?_) rfl (by kernel_rfl) (by kernel_rfl) (by kernel_rfl) (fun _ _ _ h => h) (by rfl) ?_ (by assumption) ?_
             rotate_left
             · (intro w hSw; (try dsimp only at hSw); go_simp; try with_reducible rfl)
             simp only [Act.put, sA, sZ, sS])
          | (refine takeU (i := 1) rfl (by kernel_rfl) (by kernel_rfl) (by kernel_rfl) (fun _ _ _ h => h) (by rfl) (by assumption) ?_
             simp only [Act.put, sA, sZ, sS])
          first
          | (refine takeU (i := 2) rfl (by kernel_rfl) (by kernel_rfl) (by kernel_rfl) (fun _ _ _ h => h) (by rfl) (by assumption) ?_
             simp only [Act.put, sA, sZ, sS])
          | (refine takeC (i := 2) rfl (by kernel_rfl) (by rfl) (fun K hK => ?_)
             go_simp
             (go_at_call 65; refine (KN.out _ (by first | assumption | exact Ext.drew (by assumption))).mono ?_; rintro e w' ⟨rfl, hN⟩; have hN := Ext.trans (by first | assumption | exact Ext.drew (by assumption)) hN)
             try go_wp2_with fail
             refine hK.out _ _ ?_ (fun hHeld => ?_)
             · (try dsimp only)
               (have hd := hN; exact ⟨(KE.out _ hd).1, (KE.out _ hd).2, hd⟩)
             clear hK K
             try simp only [Act.put, sA, sZ, sS])
          first
          | (refine takeW (i := 3) (v := ?_) rfl (by kernel_rfl) (by kernel_rfl) (by kernel_rfl) (fun _ _ _ h => h) (by rfl) ?_ (by assumption) ?_
             rotate_left
             · (intro w hSw; (try dsimp only at hSw); go_simp; try with_reducible rfl)
             simp only [Act.put, sA, sZ, sS])
          | (refine takeU (i := 3) rfl (by kernel_rfl) (by kernel_rfl) (by kernel_rfl) (fun _ _ _ h => h) (by rfl) (by assumption) ?_
             simp only [Act.put, sA, sZ, sS])
          first
          | (refine takeW (i := 4) (v := ?_) rfl (by kernel_rfl) (by kernel_rfl) (by kernel_rfl) (fun _ _ _ h => h) (by rfl) ?_ (by assumption) ?_
             rotate_left
             · (intro w hSw; (try dsimp only at hSw); go_simp; try with_reducible rfl)
             simp only [Act.put, sA, sZ, sS])
          | (refine takeU (i := 4) rfl (by kernel_rfl) (by kernel_rfl) (by kernel_rfl) (fun _ _ _ h => h) (by rfl) (by assumption) ?_
             simp only [Act.put, sA, sZ, sS])
          first
          | (refine takeW (i := 5) (v := ?_) rfl (by kernel_rfl) (by kernel_rfl) (by kernel_rfl) (fun _ _ _ h => h) (by rfl) ?_ (by assumption) ?_
             rotate_left
             · (intro w hSw; (try dsimp only at hSw); go_simp; try with_reducible rfl)
             simp only [Act.put, sA, sZ, sS])
          | (refine takeU (i := 5) rfl (by kernel_rfl) (by kernel_rfl) (by kernel_rfl) (fun _ _ _ h => h) (by rfl) (by assumption) ?_
             simp only [Act.put, sA, sZ, sS])
          first
          | (refine takeW (i := 6) (v := ?_) rfl (by kernel_rfl) (by kernel_rfl) (by kernel_rfl) (fun _ _ _ h => h) (by rfl) ?_ (by assumption) ?_
             rotate_left
             · (intro w hSw; (try dsimp only at hSw); go_simp; try with_reducible rfl)
             simp only [Act.put, sA, sZ, sS])
          | (refine takeU (i := 6) rfl (by kernel_rfl) (by kernel_rfl) (by kernel_rfl) (fun _ _ _ h => h) (by rfl) (by assumption) ?_
             simp only [Act.put, sA, sZ, sS])
          first
          | (refine takeW (i := 7) (v := ?_) rfl (by kernel_rfl) (by kernel_rfl) (by kernel_rfl) (fun _ _ _ h => h) (by rfl) ?_ (by assumption) ?_
             rotate_left
             · (intro w hSw; (try dsimp only at hSw); go_simp; try with_reducible rfl)
             simp only [Act.put, sA, sZ, sS])
          | (refine takeU (i := 7) rfl (by kernel_rfl) (by kernel_rfl) (by kernel_rfl) (fun _ _ _ h => h) (by rfl) (by assumption) ?_
             simp only [Act.put, sA, sZ, sS])
          first
          | (refine takeW (i := 8) (v := ?_) rfl (by kernel_rfl) (by kernel_rfl) (by kernel_rfl) (fun _ _ _ h => h) (by rfl) ?_ (by assumption) ?_
             rotate_left
             · (intro w hSw; (try dsimp only at hSw); go_simp; try with_reducible rfl)
             simp only [Act.put, sA, sZ, sS])
          | (refine takeU (i := 8) rfl (by kernel_rfl) (by kernel_rfl) (by kernel_rfl) (fun _ _ _ h => h) (by rfl) (by assumption) ?_
             simp only [Act.put, sA, sZ, sS])
          first
          | (refine takeW (i := 9) (v := ?_) rfl (by kernel_rfl) (by kernel_rfl) (by kernel_rfl) (fun _ _ _ h => h) (by rfl) ?_ (by assumption) ?_
             rotate_left
             · (intro w hSw; (try dsimp only at hSw); go_simp; try with_reducible rfl)
             simp only [Act.put, sA, sZ, sS])
          | (refine takeU (i := 9) rfl (by kernel_rfl) (by kernel_rfl) (by kernel_rfl) (fun _ _ _ h => h) (by rfl) (by assumption) ?_
             simp only [Act.put, sA, sZ, sS])
          first
          | (refine takeW (i := 10) (v := ?_) rfl (by kernel_rfl) (by kernel_rfl) (by kernel_rfl) (fun _ _ _ h => h) (by rfl) ?_ (by assumption) ?_
             rotate_left
             · (intro w hSw; (try dsimp only at hSw); go_simp; try with_reducible rfl)
             simp only [Act.put, sA, sZ, sS])
          | (refine takeU (i := 10) rfl (by kernel_rfl) (by kernel_rfl) (by kernel_rfl) (fun _ _ _ h => h) (by rfl) (by assumption) ?_
             simp only [Act.put, sA, sZ, sS])
          first
          | (refine takeW (i := 11) (v := ?_) rfl (by kernel_rfl) (by kernel_rfl) (by kernel_rfl) (fun _ _ _ h => h) (by rfl) ?_ (by assumption) ?_
             rotate_left
             · (intro w hSw; (try dsimp only at hSw); go_simp; try with_reducible rfl)
             simp only [Act.put, sA, sZ, sS])
          | (refine takeU (i := 11) rfl (by kernel_rfl) (by kernel_rfl) (by kernel_rfl) (fun _ _ _ h => h) (by rfl) (by assumption) ?_
             simp only [Act.put, sA, sZ, sS])
          first
          | (refine takeW (i := 12) (v := ?_) rfl (by kernel_rfl) (by kernel_rfl) (by kernel_rfl) (fun _ _ _ h => h) (by rfl) ?_ (by assumption) ?_
             rotate_left
             · (intro w hSw; (try dsimp only at hSw); go_simp; try with_reducible rfl)
             simp only [Act.put, sA, sZ, sS])
          | (refine takeU (i := 12) rfl (by kernel_rfl) (by kernel_rfl) (by kernel_rfl) (fun _ _ _ h => h) (by rfl) (by assumption) ?_
             simp only [Act.put, sA, sZ, sS])
          first
          | (refine takeW (i := 13) (v := ?_) rfl (by kernel_rfl) (by kernel_rfl) (by kernel_rfl) (fun _ _ _ h => h) (by rfl) ?_ (by assumption) ?_
             rotate_left
             · (intro w hSw; (try dsimp only at hSw); go_simp; try with_reducible rfl)
             simp only [Act.put, sA, sZ, sS])
          | (refine takeU (i := 13) rfl (by kernel_rfl) (by kernel_rfl) (by kernel_rfl) (fun _ _ _ h => h) (by rfl) (by assumption) ?_
             simp only [Act.put, sA, sZ, sS])
          first
          | (refine takeW (i := 14) (v := ?_) rfl (by kernel_rfl) (by kernel_rfl) (by kernel_rfl) (fun _ _ _ h => h) (by rfl) ?_ (by assumption) ?_
             rotate_left
             · (intro w hSw; (try dsimp only at hSw); go_simp; try with_reducible rfl)
             simp only [Act.put, sA, sZ, sS])
          | (refine takeU (i := 14) rfl (by kernel_rfl) (by kernel_rfl) (by kernel_rfl) (fun _ _ _ h => h) (by rfl) (by assumption) ?_
             simp only [Act.put, sA, sZ, sS])
          first
          | (refine takeW (i := 15) (v := ?_) rfl (by kernel_rfl) (by kernel_rfl) (by kernel_rfl) (fun _ _ _ h => h) (by rfl) ?_ (by assumption) ?_
             rotate_left
             · (intro w hSw; (try dsimp only at hSw); go_simp; try with_reducible rfl)
             simp only [Act.put, sA, sZ, sS])
          | (refine takeU (i := 15) rfl (by kernel_rfl) (by kernel_rfl) (by kernel_rfl) (fun _ _ _ h => h) (by rfl) (by assumption) ?_
             simp only [Act.put, sA, sZ, sS])
          first
          | (refine takeW (i := 16) (v := ?_) rfl (by kernel_rfl) (by kernel_rfl) (by kernel_rfl) (fun _ _ _ h => h) (by rfl) ?_ (by assumption) ?_
             rotate_left
             · (intro w hSw; (try dsimp only at hSw); go_simp; try with_reducible rfl)
             simp only [Act.put, sA, sZ, sS])
          | (refine takeU (i := 16) rfl (by kernel_rfl) (by kernel_rfl) (by kernel_rfl) (fun _ _ _ h => h) (by rfl) (by assumption) ?_
             simp only [Act.put, sA, sZ, sS])
          first
          | (refine takeW (i := 17) (v := ?_) rfl (by kernel_rfl) (by kernel_rfl) (by kernel_rfl) (fun _ _ _ h => h) (by rfl) ?_ (by assumption) ?_
             rotate_left
             · (intro w hSw; (try dsimp only at hSw); go_simp; try with_reducible rfl)
             simp only [Act.put, sA, sZ, sS])
          | (refine takeU (i := 17) rfl (by kernel_rfl) (by kernel_rfl) (by kernel_rfl) (fun _ _ _ h => h) (by rfl) (by assumption) ?_
             simp only [Act.put, sA, sZ, sS])
          first
          | (refine takeW (i := 18) (v := ?_) rfl (by kernel_rfl) (by kernel_rfl) (by kernel_rfl) (fun _ _ _ h => h) (by rfl) ?_ (by assumption) ?_
             rotate_left
             · (intro w hSw; (try dsimp only at hSw); go_simp; try with_reducible rfl)
             simp only [Act.put, sA, sZ, sS])
          | (refine takeU (i := 18) rfl (by kernel_rfl) (by kernel_rfl) (by kernel_rfl) (fun _ _ _ h => h) (by rfl) (by assumption) ?_
             simp only [Act.put, sA, sZ, sS])
          first
          | (refine takeW (i := 19) (v := ?_) rfl (by kernel_rfl) (by kernel_rfl) (by kernel_rfl) (fun _ _ _ h => h) (by rfl) ?_ (by assumption) ?_
             rotate_left
             · (intro w hSw; (try dsimp only at hSw); go_simp; try with_reducible rfl)
             simp only [Act.put, sA, sZ, sS])
          | (refine takeU (i := 19) rfl (by kernel_rfl) (by kernel_rfl) (by kernel_rfl) (fun _ _ _ h => h) (by rfl) (by assumption) ?_
             simp only [Act.put, sA, sZ, sS])
          first
          | (refine takeW (i := 20) (v := ?_) rfl (by kernel_rfl) (by kernel_rfl) (by kernel_rfl) (fun _ _ _ h => h) (by rfl) ?_ (by assumption) ?_
             rotate_left
             · (intro w hSw; (try dsimp only at hSw); go_simp; try with_reducible rfl)
             simp only [Act.put, sA, sZ, sS])
          | (refine takeU (i := 20) rfl (by kernel_rfl) (by kernel_rfl) (by kernel_rfl) (fun _ _ _ h => h) (by rfl) (by assumption) ?_
             simp only [Act.put, sA, sZ, sS])
          first
          | (refine takeW (i := 21) (v := ?_) rfl (by kernel_rfl) (by kernel_rfl) (by kernel_rfl) (fun _ _ _ h => h) (by rfl) ?_ (by assumption) ?_
             rotate_left
             · (intro w hSw; (try dsimp only at hSw); go_simp; try with_reducible rfl)
             simp only [Act.put, sA, sZ, sS])
          | (refine takeU (i := 21) rfl (by kernel_rfl) (by kernel_rfl) (by kernel_rfl) (fun _ _ _ h => h) (by rfl) (by assumption) ?_
             simp only [Act.put, sA, sZ, sS])
          first
          | (refine takeW (i := 22) (v := ?_) rfl (by kernel_rfl) (by kernel_rfl) (by kernel_rfl) (fun _ _ _ h => h) (by rfl) ?_ (by assumption) ?_
             rotate_left
             · (intro w hSw; (try dsimp only at hSw); go_simp; try with_reducible rfl)
             simp only [Act.put, sA, sZ, sS])
          | (refine takeU (i := 22) rfl (by kernel_rfl) (by kernel_rfl) (by kernel_rfl) (fun _ _ _ h => h) (by rfl) (by assumption) ?_
             simp only [Act.put, sA, sZ, sS])
          first
          | (refine takeW (i := 23) (v := ?_) rfl (by kernel_rfl) (by kernel_rfl) (by kernel_rfl) (fun _ _ _ h => h) (by rfl) ?_ (by assumption) ?_
             rotate_left
             · (intro w hSw; (try dsimp only at hSw); go_simp; try with_reducible rfl)
             simp only [Act.put, sA, sZ, sS])
          | (refine takeU (i := 23) rfl (by kernel_rfl) (by kernel_rfl) (by kernel_rfl) (fun _ _ _ h => h) (by rfl) (by assumption) ?_
             simp only [Act.put, sA, sZ, sS])
          first
          | (refine takeW (i := 24) (v := ?_) rfl (by kernel_rfl) (by kernel_rfl) (by kernel_rfl) (fun _ _ _ h => h) (by rfl) ?_ (by assumption) ?_
             rotate_left
             · (intro w hSw; (try dsimp only at hSw); go_simp; try with_reducible rfl)
             simp only [Act.put, sA, sZ, sS])
          | (refine takeU (i := 24) rfl (by kernel_rfl) (by kernel_rfl) (by kernel_rfl) (fun _ _ _ h => h) (by rfl) (by assumption) ?_
             simp only [Act.put, sA, sZ, sS])
          first
          | (refine takeW (i := 25) (v := ?_) rfl (by kernel_rfl) (by kernel_rfl) (by kernel_rfl) (fun _ _ _ h => h) (by rfl) ?_ (by assumption) ?_
             rotate_left
             · (intro w hSw; (try dsimp only at hSw); go_simp; try with_reducible rfl)
             simp only [Act.put, sA, sZ, sS])
          | (refine takeU (i := 25) rfl (by kernel_rfl) (by kernel_rfl) (by kernel_rfl) (fun _ _ _ h => h) (by rfl) (by assumption) ?_
             simp only [Act.put, sA, sZ, sS])
          first
          | (refine takeW (i := 26) (v := ?_) rfl (by kernel_rfl) (by kernel_rfl) (by kernel_rfl) (fun _ _ _ h => h) (by rfl) ?_ (by assumption) ?_
             rotate_left
             · (intro w hSw; (try dsimp only at hSw); go_simp; try with_reducible rfl)
             simp only [Act.put, sA, sZ, sS])
          | (refine takeU (i := 26) rfl (by kernel_rfl) (by kernel_rfl) (by kernel_rfl) (fun _ _ _ h => h) (by rfl) (by assumption) ?_
             simp only [Act.put, sA, sZ, sS])
          first
          | (refine takeW (i := 27) (v := ?_) rfl (by kernel_rfl) (by kernel_rfl) (by kernel_rfl) (fun _ _ _ h => h) (by rfl) ?_ (by assumption) ?_
             rotate_left
             · (intro w hSw; (try dsimp only at hSw); go_simp; try with_reducible rfl)
             simp only [Act.put, sA, sZ, sS])
          | (refine takeU (i := 27) rfl (by kernel_rfl) (by kernel_rfl) (by kernel_rfl) (fun _ _ _ h => h) (by rfl) (by assumption) ?_
             simp only [Act.put, sA, sZ, sS])
          first
          | (refine takeW (i := 28) (v := ?_) rfl (by kernel_rfl) (by kernel_rfl) (by kernel_rfl) (fun _ _ _ h => h) (by rfl) ?_ (by assumption) ?_
             rotate_left
             · (intro w hSw; (try dsimp only at hSw); go_simp; try with_reducible rfl)
             simp only [Act.put, sA, sZ, sS])
          | (refine takeU (i := 28) rfl (by kernel_rfl) (by kernel_rfl) (by kernel_rfl) (fun _ _ _ h => h) (by rfl) (by assumption) ?_
             simp only [Act.put, sA, sZ, sS])
          first
          | (refine takeW (i := 29) (v := ?_) rfl (by kernel_rfl) (by kernel_rfl) (by kernel_rfl) (fun _ _ _ h => h) (by rfl) ?_ (by assumption) ?_
             rotate_left
             · (intro w hSw; (try dsimp only at hSw); go_simp; try with_reducible rfl)
             simp only [Act.put, sA, sZ, sS])
          | (refine takeU (i := 29) rfl (by kernel_rfl) (by kernel_rfl) (by kernel_rfl) (fun _ _ _ h => h) (by rfl) (by assumption) ?_
             simp only [Act.put, sA, sZ, sS])
          first
          | (refine takeW (i := 30) (v := ?_) rfl (by kernel_rfl) (by kernel_rfl) (by kernel_rfl) (fun _ _ _ h => h) (by rfl) ?_ (by assumption) ?_
             rotate_left
             · (intro w hSw; (try dsimp only at hSw); go_simp; try with_reducible rfl)
             simp only [Act.put, sA, sZ, sS])
          | (refine takeU (i := 30) rfl (by kernel_rfl) (by kernel_rfl) (by kernel_rfl) (fun _ _ _ h => h) (by rfl) (by assumption) ?_
             simp only [Act.put, sA, sZ, sS])
          refine wpAnyH_done (by kernel_rfl) ?_ _
          go_wp2_with fail
          go_ret2
          exact ⟨⟨_, ret_can HE9.out.symm rfl, by rw [HV9.out]; exact OwnL.nil _ _⟩, HB2.out.trans ((HES.out.trans hN).below.mono HB2.out.size)⟩
        have gw : ((16 : Int) < (m : Int)) = False := eq_false (by omega)
        have hok : Hid (nameOk y1 = true ∧ valueOk y2 = true) := ⟨HQ.out.symm, (valueOk_iff y2).2 ⟨by rw [← HM.out]; omega, by rw [← HM.out]; omega⟩⟩
        clear v1 v2
        by_cases hk0 : k = 0
        · subst hk0
          have HF : Hid (UpTo d (0 + 1)) := by
            refine ⟨fun j h hj => ?_, fun j h hj => absurd hj (by omega)⟩
            obtain rfl : j = 0 := by omega
            rw [← HY.out]; exact hok.out
          have gz : ((0 : Int) < ((0 : Nat) : Int)) = False := eq_false (by decide)
          go_wp2_with fail
          rw [← HWP.out]
          have hE0 := Ext.refl wp
          refine wp_region_held_drew (S := fun w' => w'.cell? ⟨wr.heap.size, 0, none⟩ = some (.string x1) ∧ w'.cell? ⟨wr.heap.size, 1, none⟩ = some (.string x2) ∧ Ext wp w') (by kernel_rfl) ?_ (fun hHeld => ?_)
          · (try dsimp only)
            (have hd := Ext.drew hE0; exact ⟨(KE.out _ hd).1, (KE.out _ hd).2, hd⟩)
          first
          | (refine takeW (i := 0) (v := ?_) rfl (by kernel_rfl) (by kernel_rfl) (by kernel_rfl) (fun _ _ _ h => h) (by rfl) ?_ (by assumption) ?_
             rotate_left
             · (intro w hSw; (try dsimp only at hSw); go_simp; try with_reducible rfl)
             simp only [Act.put, sA, sZ, sS])
          | (refine takeU (i := 0) rfl (by kernel_rfl) (by kernel_rfl) (by kernel_rfl) (fun _ _ _ h => h) (by rfl) (by assumption) ?_
             simp only [Act.put, sA, sZ, sS])
          first
          | (refine takeW (i := 1) (v := ?_) rfl (by kernel_rfl) (by kernel_rfl) (by kernel_rfl) (fun _ _ _ h => h) (by rfl) ?_ (by assumption) ?_
             rotate_left
             · (intro w hSw; (try dsimp only at hSw); go_simp; try with_reducible rfl)
             simp only [Act.put, sA, sZ, sS])
          | (refine takeU (i := 1) rfl (by kernel_rfl) (by kernel_rfl) (by kernel_rfl) (fun _ _ _ h => h) (by rfl) (by assumption) ?_
             simp only [Act.put, sA, sZ, sS])
          first
          | (refine takeU (i := 2) rfl (by kernel_rfl) (by kernel_rfl) (by kernel_rfl) (fun _ _ _ h => h) (by rfl) (by assumption) ?_
             simp only [Act.put, sA, sZ, sS])
          | (refine takeC (i := 2) rfl (by kernel_rfl) (by rfl) (fun K hK => ?_)
             go_simp
             (go_at_call 65; refine (KN.out _ (by first | assumption | exact Ext.drew (by assumption))).mono ?_; rintro e w' ⟨rfl, hN⟩; have hN := Ext.trans (by first | assumption | exact Ext.drew (by assumption)) hN)
             try go_wp2_with fail
             refine hK.out _ _ ?_ (fun hHeld => ?_)
             · (try dsimp only)
               (have hd := hN; exact ⟨(KE.out _ hd).1, (KE.out _ hd).2, hd⟩)
             clear hK K
             try simp only [Act.put, sA, sZ, sS])
          first
          | (refine takeW (i := 3) (v := ?_) rfl (by kernel_rfl) (by kernel_rfl) (by kernel_rfl) (fun _ _ _ h => h) (by rfl) ?_ (by assumption) ?_
             rotate_left
             · (intro w hSw; (try dsimp only at hSw); go_simp; try with_reducible rfl)
             simp only [Act.put, sA, sZ, sS])
          | (refine takeU (i := 3) rfl (by kernel_rfl) (by kernel_rfl) (by kernel_rfl) (fun _ _ _ h => h) (by rfl) (by assumption) ?_
             simp only [Act.put, sA, sZ, sS])
          first
          | (refine takeW (i := 4) (v := ?_) rfl (by kernel_rfl) (by kernel_rfl) (by kernel_rfl) (fun _ _ _ h => h) (by rfl) ?_ (by assumption) ?_
             rotate_left
             · (intro w hSw; (try dsimp only at hSw); go_simp; try with_reducible rfl)
             simp only [Act.put, sA, sZ, sS])
          | (refine takeU (i := 4) rfl (by kernel_rfl) (by kernel_rfl) (by kernel_rfl) (fun _ _ _ h => h) (by rfl) (by assumption) ?_
             simp only [Act.put, sA, sZ, sS])
          first
          | (refine takeW (i := 5) (v := ?_) rfl (by kernel_rfl) (by kernel_rfl) (by kernel_rfl) (fun _ _ _ h => h) (by rfl) ?_ (by assumption) ?_
             rotate_left
             · (intro w hSw; (try dsimp only at hSw); go_simp; try with_reducible rfl)
             simp only [Act.put, sA, sZ, sS])
          | (refine takeU (i := 5) rfl (by kernel_rfl) (by kernel_rfl) (by kernel_rfl) (fun _ _ _ h => h) (by rfl) (by assumption) ?_
             simp only [Act.put, sA, sZ, sS])
          first
          | (refine takeW (i := 6) (v := ?_) rfl (by kernel_rfl) (by kernel_rfl) (by kernel_rfl) (fun _ _ _ h => h) (by rfl) ?_ (by assumption) ?_
             rotate_left
             · (intro w hSw; (try dsimp only at hSw); go_simp; try with_reducible rfl)
             simp only [Act.put, sA, sZ, sS])
          | (refine takeU (i := 6) rfl (by kernel_rfl) (by kernel_rfl) (by kernel_rfl) (fun _ _ _ h => h) (by rfl) (by assumption) ?_
             simp only [Act.put, sA, sZ, sS])
          first
          | (refine takeW (i := 7) (v := ?_) rfl (by kernel_rfl) (by kernel_rfl) (by kernel_rfl) (fun _ _ _ h => h) (by rfl) ?_ (by assumption) ?_
             rotate_left
             · (intro w hSw; (try dsimp only at hSw); go_simp; try with_reducible rfl)
             simp only [Act.put, sA, sZ, sS])
          | (refine takeU (i := 7) rfl (by kernel_rfl) (by kernel_rfl) (by kernel_rfl) (fun _ _ _ h => h) (by rfl) (by assumption) ?_
             simp only [Act.put, sA, sZ, sS])
          first
          | (refine takeW (i := 8) (v := ?_) rfl (by kernel_rfl) (by kernel_rfl) (by kernel_rfl) (fun _ _ _ h => h) (by rfl) ?_ (by assumption) ?_
             rotate_left
             · (intro w hSw; (try dsimp only at hSw); go_simp; try with_reducible rfl)
             simp only [Act.put, sA, sZ, sS])
          | (refine takeU (i := 8) rfl (by kernel_rfl) (by kernel_rfl) (by kernel_rfl) (fun _ _ _ h => h) (by rfl) (by assumption) ?_
             simp only [Act.put, sA, sZ, sS])
          first
          | (refine takeW (i := 9) (v := ?_) rfl (by kernel_rfl) (by kernel_rfl) (by kernel_rfl) (fun _ _ _ h => h) (by rfl) ?_ (by assumption) ?_
             rotate_left
             · (intro w hSw; (try dsimp only at hSw); go_simp; try with_reducible rfl)
             simp only [Act.put, sA, sZ, sS])
          | (refine takeU (i := 9) rfl (by kernel_rfl) (by kernel_rfl) (by kernel_rfl) (fun _ _ _ h => h) (by rfl) (by assumption) ?_
             simp only [Act.put, sA, sZ, sS])
          first
          | (refine takeW (i := 10) (v := ?_) rfl (by kernel_rfl) (by kernel_rfl) (by kernel_rfl) (fun _ _ _ h => h) (by rfl) ?_ (by assumption) ?_
             rotate_left
             · (intro w hSw; (try dsimp only at hSw); go_simp; try with_reducible rfl)
             simp only [Act.put, sA, sZ, sS])
          | (refine takeU (i := 10) rfl (by kernel_rfl) (by kernel_rfl) (by kernel_rfl) (fun _ _ _ h => h) (by rfl) (by assumption) ?_
             simp only [Act.put, sA, sZ, sS])
          first
          | (refine takeW (i := 11) (v := ?_) rfl (by kernel_rfl) (by kernel_rfl) (by kernel_rfl) (fun _ _ _ h => h) (by rfl) ?_ (by assumption) ?_
             rotate_left
             · (intro w hSw; (try dsimp only at hSw); go_simp; try with_reducible rfl)
             simp only [Act.put, sA, sZ, sS])
          | (refine takeU (i := 11) rfl (by kernel_rfl) (by kernel_rfl) (by kernel_rfl) (fun _ _ _ h => h) (by rfl) (by assumption) ?_
             simp only [Act.put, sA, sZ, sS])
          first
          | (refine takeW (i := 12) (v := ?_) rfl (by kernel_rfl) (by kernel_rfl) (by kernel_rfl) (fun _ _ _ h => h) (by rfl) ?_ (by assumption) ?_
             rotate_left
             · (intro w hSw; (try dsimp only at hSw); go_simp; try with_reducible rfl)
             simp only [Act.put, sA, sZ, sS])
          | (refine takeU (i := 12) rfl (by kernel_rfl) (by kernel_rfl) (by kernel_rfl) (fun _ _ _ h => h) (by rfl) (by assumption) ?_
             simp only [Act.put, sA, sZ, sS])
          first
          | (refine takeW (i := 13) (v := ?_) rfl (by kernel_rfl) (by kernel_rfl) (by kernel_rfl) (fun _ _ _ h => h) (by rfl) ?_ (by assumption) ?_
             rotate_left
             · (intro w hSw; (try dsimp only at hSw); go_simp; try with_reducible rfl)
             simp only [Act.put, sA, sZ, sS])
          | (refine takeU (i := 13) rfl (by kernel_rfl) (by kernel_rfl) (by kernel_rfl) (fun _ _ _ h => h) (by rfl) (by assumption) ?_
             simp only [Act.put, sA, sZ, sS])
          first
          | (refine takeW (i := 14) (v := ?_) rfl (by kernel_rfl) (by kernel_rfl) (by kernel_rfl) (fun _ _ _ h => h) (by rfl) ?_ (by assumption) ?_
             rotate_left
             · (intro w hSw; (try dsimp only at hSw); go_simp; try with_reducible rfl)
             simp only [Act.put, sA, sZ, sS])
          | (refine takeU (i := 14) rfl (by kernel_rfl) (by kernel_rfl) (by kernel_rfl) (fun _ _ _ h => h) (by rfl) (by assumption) ?_
             simp only [Act.put, sA, sZ, sS])
          first
          | (refine takeW (i := 15) (v := ?_) rfl (by kernel_rfl) (by kernel_rfl) (by kernel_rfl) (fun _ _ _ h => h) (by rfl) ?_ (by assumption) ?_
             rotate_left
             · (intro w hSw; (try dsimp only at hSw); go_simp; try with_reducible rfl)
             simp only [Act.put, sA, sZ, sS])
          | (refine takeU (i := 15) rfl (by kernel_rfl) (by kernel_rfl) (by kernel_rfl) (fun _ _ _ h => h) (by rfl) (by assumption) ?_
             simp only [Act.put, sA, sZ, sS])
          first
          | (refine takeW (i := 16) (v := ?_) rfl (by kernel_rfl) (by kernel_rfl) (by kernel_rfl) (fun _ _ _ h => h) (by rfl) ?_ (by assumption) ?_
             rotate_left
             · (intro w hSw; (try dsimp only at hSw); go_simp; try with_reducible rfl)
             simp only [Act.put, sA, sZ, sS])
          | (refine takeU (i := 16) rfl (by kernel_rfl) (by kernel_rfl) (by kernel_rfl) (fun _ _ _ h => h) (by rfl) (by assumption) ?_
             simp only [Act.put, sA, sZ, sS])
          first
          | (refine takeW (i := 17) (v := ?_) rfl (by kernel_rfl) (by kernel_rfl) (by kernel_rfl) (fun _ _ _ h => h) (by rfl) ?_ (by assumption) ?_
             rotate_left
             · (intro w hSw; (try dsimp only at hSw); go_simp; try with_reducible rfl)
             simp only [Act.put, sA, sZ, sS])
          | (refine takeU (i := 17) rfl (by kernel_rfl) (by kernel_rfl) (by kernel_rfl) (fun _ _ _ h => h) (by rfl) (by assumption) ?_
             simp only [Act.put, sA, sZ, sS])
          first
          | (refine takeW (i := 18) (v := ?_) rfl (by kernel_rfl) (by kernel_rfl) (by kernel_rfl) (fun _ _ _ h => h) (by rfl) ?_ (by assumption) ?_
             rotate_left
             · (intro w hSw; (try dsimp only at hSw); go_simp; try with_reducible rfl)
             simp only [Act.put, sA, sZ, sS])
          | (refine takeU (i := 18) rfl (by kernel_rfl) (by kernel_rfl) (by kernel_rfl) (fun _ _ _ h => h) (by rfl) (by assumption) ?_
             simp only [Act.put, sA, sZ, sS])
          first
          | (refine takeW (i := 19) (v := ?_) rfl (by kernel_rfl) (by kernel_rfl) (by kernel_rfl) (fun _ _ _ h => h) (by rfl) ?_ (by assumption) ?_
             rotate_left
             · (intro w hSw; (try dsimp only at hSw); go_simp; try with_reducible rfl)
             simp only [Act.put, sA, sZ, sS])
          | (refine takeU (i := 19) rfl (by kernel_rfl) (by kernel_rfl) (by kernel_rfl) (fun _ _ _ h => h) (by rfl) (by assumption) ?_
             simp only [Act.put, sA, sZ, sS])
          first
          | (refine takeW (i := 20) (v := ?_) rfl (by kernel_rfl) (by kernel_rfl) (by kernel_rfl) (fun _ _ _ h => h) (by rfl) ?_ (by assumption) ?_
             rotate_left
             · (intro w hSw; (try dsimp only at hSw); go_simp; try with_reducible rfl)
             simp only [Act.put, sA, sZ, sS])
          | (refine takeU (i := 20) rfl (by kernel_rfl) (by kernel_rfl) (by kernel_rfl) (fun _ _ _ h => h) (by rfl) (by assumption) ?_
             simp only [Act.put, sA, sZ, sS])
          first
          | (refine takeW (i := 21) (v := ?_) rfl (by kernel_rfl) (by kernel_rfl) (by kernel_rfl) (fun _ _ _ h => h) (by rfl) ?_ (by assumption) ?_
             rotate_left
             · (intro w hSw; (try dsimp only at hSw); go_simp; try with_reducible rfl)
             simp only [Act.put, sA, sZ, sS])
          | (refine takeU (i := 21) rfl (by kernel_rfl) (by kernel_rfl) (by kernel_rfl) (fun _ _ _ h => h) (by rfl) (by assumption) ?_
             simp only [Act.put, sA, sZ, sS])
          first
          | (refine takeW (i := 22) (v := ?_) rfl (by kernel_rfl) (by kernel_rfl) (by kernel_rfl) (fun _ _ _ h => h) (by rfl) ?_ (by assumption) ?_
             rotate_left
             · (intro w hSw; (try dsimp only at hSw); go_simp; try with_reducible rfl)
             simp only [Act.put, sA, sZ, sS])
          | (refine takeU (i := 22) rfl (by kernel_rfl) (by kernel_rfl) (by kernel_rfl) (fun _ _ _ h => h) (by rfl) (by assumption) ?_
             simp only [Act.put, sA, sZ, sS])
          first
          | (refine takeW (i := 23) (v := ?_) rfl (by kernel_rfl) (by kernel_rfl) (by kernel_rfl) (fun _ _ _ h => h) (by rfl) ?_ (by assumption) ?_
             rotate_left
             · (intro w hSw; (try dsimp only at hSw); go_simp; try with_reducible rfl)
             simp only [Act.put, sA, sZ, sS])
          | (refine takeU (i := 23) rfl (by kernel_rfl) (by kernel_rfl) (by kernel_rfl) (fun _ _ _ h => h) (by rfl) (by assumption) ?_
             simp only [Act.put, sA, sZ, sS])
          first
          | (refine takeW (i := 24) (v := ?_) rfl (by kernel_rfl) (by kernel_rfl) (by kernel_rfl) (fun _ _ _ h => h) (by rfl) ?_ (by assumption) ?_
             rotate_left
             · (intro w hSw; (try dsimp only at hSw); go_simp; try with_reducible rfl)
             simp only [Act.put, sA, sZ, sS])
          | (refine takeU (i := 24) rfl (by kernel_rfl) (by kernel_rfl) (by kernel_rfl) (fun _ _ _ h => h) (by rfl) (by assumption) ?_
             simp only [Act.put, sA, sZ, sS])
          first
          | (refine takeW (i := 25) (v := ?_) rfl (by kernel_rfl) (by kernel_rfl) (by kernel_rfl) (fun _ _ _ h => h) (by rfl) ?_ (by assumption) ?_
             rotate_left
             · (intro w hSw; (try dsimp only at hSw); go_simp; try with_reducible rfl)
             simp only [Act.put, sA, sZ, sS])
          | (refine takeU (i := 25) rfl (by kernel_rfl) (by kernel_rfl) (by kernel_rfl) (fun _ _ _ h => h) (by rfl) (by assumption) ?_
             simp only [Act.put, sA, sZ, sS])
          first
          | (refine takeW (i := 26) (v := ?_) rfl (by kernel_rfl) (by kernel_rfl) (by kernel_rfl) (fun _ _ _ h => h) (by rfl) ?_ (by assumption) ?_
             rotate_left
             · (intro w hSw; (try dsimp only at hSw); go_simp; try with_reducible rfl)
             simp only [Act.put, sA, sZ, sS])
          | (refine takeU (i := 26) rfl (by kernel_rfl) (by kernel_rfl) (by kernel_rfl) (fun _ _ _ h => h) (by rfl) (by assumption) ?_
             simp only [Act.put, sA, sZ, sS])
          first
          | (refine takeW (i := 27) (v := ?_) rfl (by kernel_rfl) (by kernel_rfl) (by kernel_rfl) (fun _ _ _ h => h) (by rfl) ?_ (by assumption) ?_
             rotate_left
             · (intro w hSw; (try dsimp only at hSw); go_simp; try with_reducible rfl)
             simp only [Act.put, sA, sZ, sS])
          | (refine takeU (i := 27) rfl (by kernel_rfl) (by kernel_rfl) (by kernel_rfl) (fun _ _ _ h => h) (by rfl) (by assumption) ?_
             simp only [Act.put, sA, sZ, sS])
          first
          | (refine takeW (i := 28) (v := ?_) rfl (by kernel_rfl) (by kernel_rfl) (by kernel_rfl) (fun _ _ _ h => h) (by rfl) ?_ (by assumption) ?_
             rotate_left
             · (intro w hSw; (try dsimp only at hSw); go_simp; try with_reducible rfl)
             simp only [Act.put, sA, sZ, sS])
          | (refine takeU (i := 28) rfl (by kernel_rfl) (by kernel_rfl) (by kernel_rfl) (fun _ _ _ h => h) (by rfl) (by assumption) ?_
             simp only [Act.put, sA, sZ, sS])
          first
          | (refine takeW (i := 29) (v := ?_) rfl (by kernel_rfl) (by kernel_rfl) (by kernel_rfl) (fun _ _ _ h => h) (by rfl) ?_ (by assumption) ?_
             rotate_left
             · (intro w hSw; (try dsimp only at hSw); go_simp; try with_reducible rfl)
             simp only [Act.put, sA, sZ, sS])
          | (refine takeU (i := 29) rfl (by kernel_rfl) (by kernel_rfl) (by kernel_rfl) (fun _ _ _ h => h) (by rfl) (by assumption) ?_
             simp only [Act.put, sA, sZ, sS])
          first
          | (refine takeW (i := 30) (v := ?_) rfl (by kernel_rfl) (by kernel_rfl) (by kernel_rfl) (fun _ _ _ h => h) (by rfl) ?_ (by assumption) ?_
             rotate_left
             · (intro w hSw; (try dsimp only at hSw); go_simp; try with_reducible rfl)
             simp only [Act.put, sA, sZ, sS])
          | (refine takeU (i := 30) rfl (by kernel_rfl) (by kernel_rfl) (by kernel_rfl) (fun _ _ _ h => h) (by rfl) (by assumption) ?_
             simp only [Act.put, sA, sZ, sS])
          refine wpAnyH_done (by kernel_rfl) ?_ _
          have HE9 : Hid (Ext w2 _) := HES.out.trans hN
          clear hE0 e0 e1 c0 c1
          go_wp2_with fail
          go_roundw
          case rel => first | exact ⟨0 + 1, by omega, by go_num, HF.out, HE9.out⟩ | exact ⟨0 + 1, by omega, by go_num, HF.out, HE9.out.drew⟩
          case measure => simp [intOf]; omega
        · obtain ⟨i, hi⟩ : ∃ i, i = k - 1 := ⟨_, rfl⟩
          have hik : k = i + 1 := by omega
          have hid : i < d.length := by have := HD.out; omega
          obtain ⟨z, hz⟩ : ∃ z, z = d[i] := ⟨_, rfl⟩
          have hcz : wr.cell? ⟨g, i * 2, none⟩ = some (vT z.1) := by rw [hz]; exact HE.out.cell_some (HO2.out.cells2 i hid).1
          obtain ⟨z1, hz1⟩ : ∃ x : ByteArray, x = ⟨z.1.toArray⟩ := ⟨_, rfl⟩
          have z0 : wp.cell? ⟨g, i * 2, none⟩ = some (.string z1) := by rw [hz1, HWP.out]; exact ((Ext.refl wr).alloc _).cell_some hcz
          have KZ : Hid (∀ w', Ext wp w' → w'.cell? ⟨g, i * 2, none⟩ = some (.string z1)) := fun w' h => h.cell_some z0
          have gz : ((0 : Int) < (k : Int)) = True := eq_true (by omega)
          have gzn : 0 < k := by omega
          have gi : IntKind.i64.wrap ((k : Int) - 1) = (i : Int) := by rw [IntWalk.i64_in _ (by have := HN6.out; omega)]; omega
          have gi2 : (i : Int) < (n : Int) := by omega
          have gi3 : i < n := by omega
          have hsame := same_T z.1 y1
          rw [← HX1.out, ← hz1] at hsame
          have HZ := Lib.hid hz
          have HIK := Lib.hid hik
          clear hz hz1 hcz hik hi
          by_cases hne : z.1 = y1
          · rw [decide_eq_true hne] at hsame
            have HF : Hid (mayL l = false) := not_may2 HP.out HU.out (k := i) (by have := HD.out; have := HIK.out; omega) (by
              rw [← HZ.out, hne]
              have h1 := HY.out
              simp only [HIK.out] at h1
              rw [← h1])
            clear hne
            have HE9 : Hid (canE l = 70) := by show _ = _; unfold canE; rw [HF.out]; rfl
            have HV9 : Hid (canV l = []) := by show _ = _; unfold canV; rw [HF.out]; rfl
            go_wp2_with fail
            rw [← HWP.out]
            have hE0 := Ext.refl wp
            refine wp_region_held_drew (S := fun w' => w'.cell? ⟨wr.heap.size, 0, none⟩ = some (.string x1) ∧ w'.cell? ⟨wr.heap.size, 1, none⟩ = some (.string x2) ∧ w'.cell? ⟨g, i * 2, none⟩ = some (.string z1) ∧ Ext wp w') (by kernel_rfl) ?_ (fun hHeld => ?_)
            · (try dsimp only)
              (have hd := Ext.drew hE0; exact ⟨(KE.out _ hd).1, (KE.out _ hd).2, KZ.out _ hd, hd⟩)
            first
            | (refine takeW (i := 0) (v := ?_) rfl (by kernel_rfl) (by kernel_rfl) (by kernel_rfl) (fun _ _ _ h => h) (by rfl) ?_ (by assumption) ?_
               rotate_left
               · (intro w hSw; (try dsimp only at hSw); go_simp; try with_reducible rfl)
               simp only [Act.put, sA, sZ, sS])
            | (refine takeU (i := 0) rfl (by kernel_rfl) (by kernel_rfl) (by kernel_rfl) (fun _ _ _ h => h) (by rfl) (by assumption) ?_
               simp only [Act.put, sA, sZ, sS])
            first
            | (refine takeW (i := 1) (v := ?_) rfl (by kernel_rfl) (by kernel_rfl) (by kernel_rfl) (fun _ _ _ h => h) (by rfl) ?_ (by assumption) ?_
               rotate_left
               · (intro w hSw; (try dsimp only at hSw); go_simp; try with_reducible rfl)
               simp only [Act.put, sA, sZ, sS])
            | (refine takeU (i := 1) rfl (by kernel_rfl) (by kernel_rfl) (by kernel_rfl) (fun _ _ _ h => h) (by rfl) (by assumption) ?_
               simp only [Act.put, sA, sZ, sS])
            first
            | (refine takeU (i := 2) rfl (by kernel_rfl) (by kernel_rfl) (by kernel_rfl) (fun _ _ _ h => h) (by rfl) (by assumption) ?_
               simp only [Act.put, sA, sZ, sS])
            | (refine takeC (i := 2) rfl (by kernel_rfl) (by rfl) (fun K hK => ?_)
               go_simp
               (go_at_call 65; refine (KN.out _ (by first | assumption | exact Ext.drew (by assumption))).mono ?_; rintro e w' ⟨rfl, hN⟩; have hN := Ext.trans (by first | assumption | exact Ext.drew (by assumption)) hN)
               try go_wp2_with fail
               refine hK.out _ _ ?_ (fun hHeld => ?_)
               · (try dsimp only)
                 (have hd := hN; exact ⟨(KE.out _ hd).1, (KE.out _ hd).2, KZ.out _ hd, hd⟩)
               clear hK K
               try simp only [Act.put, sA, sZ, sS])
            first
            | (refine takeW (i := 3) (v := ?_) rfl (by kernel_rfl) (by kernel_rfl) (by kernel_rfl) (fun _ _ _ h => h) (by rfl) ?_ (by assumption) ?_
               rotate_left
               · (intro w hSw; (try dsimp only at hSw); go_simp; try with_reducible rfl)
               simp only [Act.put, sA, sZ, sS])
            | (refine takeU (i := 3) rfl (by kernel_rfl) (by kernel_rfl) (by kernel_rfl) (fun _ _ _ h => h) (by rfl) (by assumption) ?_
               simp only [Act.put, sA, sZ, sS])
            first
            | (refine takeW (i := 4) (v := ?_) rfl (by kernel_rfl) (by kernel_rfl) (by kernel_rfl) (fun _ _ _ h => h) (by rfl) ?_ (by assumption) ?_
               rotate_left
               · (intro w hSw; (try dsimp only at hSw); go_simp; try with_reducible rfl)
               simp only [Act.put, sA, sZ, sS])
            | (refine takeU (i := 4) rfl (by kernel_rfl) (by kernel_rfl) (by kernel_rfl) (fun _ _ _ h => h) (by rfl) (by assumption) ?_
               simp only [Act.put, sA, sZ, sS])
            first
            | (refine takeW (i := 5) (v := ?_) rfl (by kernel_rfl) (by kernel_rfl) (by kernel_rfl) (fun _ _ _ h => h) (by rfl) ?_ (by assumption) ?_
               rotate_left
               · (intro w hSw; (try dsimp only at hSw); go_simp; try with_reducible rfl)
               simp only [Act.put, sA, sZ, sS])
            | (refine takeU (i := 5) rfl (by kernel_rfl) (by kernel_rfl) (by kernel_rfl) (fun _ _ _ h => h) (by rfl) (by assumption) ?_
               simp only [Act.put, sA, sZ, sS])
            first
            | (refine takeW (i := 6) (v := ?_) rfl (by kernel_rfl) (by kernel_rfl) (by kernel_rfl) (fun _ _ _ h => h) (by rfl) ?_ (by assumption) ?_
               rotate_left
               · (intro w hSw; (try dsimp only at hSw); go_simp; try with_reducible rfl)
               simp only [Act.put, sA, sZ, sS])
            | (refine takeU (i := 6) rfl (by kernel_rfl) (by kernel_rfl) (by kernel_rfl) (fun _ _ _ h => h) (by rfl) (by assumption) ?_
               simp only [Act.put, sA, sZ, sS])
            first
            | (refine takeW (i := 7) (v := ?_) rfl (by kernel_rfl) (by kernel_rfl) (by kernel_rfl) (fun _ _ _ h => h) (by rfl) ?_ (by assumption) ?_
               rotate_left
               · (intro w hSw; (try dsimp only at hSw); go_simp; try with_reducible rfl)
               simp only [Act.put, sA, sZ, sS])
            | (refine takeU (i := 7) rfl (by kernel_rfl) (by kernel_rfl) (by kernel_rfl) (fun _ _ _ h => h) (by rfl) (by assumption) ?_
               simp only [Act.put, sA, sZ, sS])
            first
            | (refine takeW (i := 8) (v := ?_) rfl (by kernel_rfl) (by kernel_rfl) (by kernel_rfl) (fun _ _ _ h => h) (by rfl) ?_ (by assumption) ?_
               rotate_left
               · (intro w hSw; (try dsimp only at hSw); go_simp; try with_reducible rfl)
               simp only [Act.put, sA, sZ, sS])
            | (refine takeU (i := 8) rfl (by kernel_rfl) (by kernel_rfl) (by kernel_rfl) (fun _ _ _ h => h) (by rfl) (by assumption) ?_
               simp only [Act.put, sA, sZ, sS])
            first
            | (refine takeW (i := 9) (v := ?_) rfl (by kernel_rfl) (by kernel_rfl) (by kernel_rfl) (fun _ _ _ h => h) (by rfl) ?_ (by assumption) ?_
               rotate_left
               · (intro w hSw; (try dsimp only at hSw); go_simp; try with_reducible rfl)
               simp only [Act.put, sA, sZ, sS])
            | (refine takeU (i := 9) rfl (by kernel_rfl) (by kernel_rfl) (by kernel_rfl) (fun _ _ _ h => h) (by rfl) (by assumption) ?_
               simp only [Act.put, sA, sZ, sS])
            first
            | (refine takeW (i := 10) (v := ?_) rfl (by kernel_rfl) (by kernel_rfl) (by kernel_rfl) (fun _ _ _ h => h) (by rfl) ?_ (by assumption) ?_
               rotate_left
               · (intro w hSw; (try dsimp only at hSw); go_simp; try with_reducible rfl)
               simp only [Act.put, sA, sZ, sS])
            | (refine takeU (i := 10) rfl (by kernel_rfl) (by kernel_rfl) (by kernel_rfl) (fun _ _ _ h => h) (by rfl) (by assumption) ?_
               simp only [Act.put, sA, sZ, sS])
            first
            | (refine takeW (i := 11) (v := ?_) rfl (by kernel_rfl) (by kernel_rfl) (by kernel_rfl) (fun _ _ _ h => h) (by rfl) ?_ (by assumption) ?_
               rotate_left
               · (intro w hSw; (try dsimp only at hSw); go_simp; try with_reducible rfl)
               simp only [Act.put, sA, sZ, sS])
            | (refine takeU (i := 11) rfl (by kernel_rfl) (by kernel_rfl) (by kernel_rfl) (fun _ _ _ h => h) (by rfl) (by assumption) ?_
               simp only [Act.put, sA, sZ, sS])
            first
            | (refine takeW (i := 12) (v := ?_) rfl (by kernel_rfl) (by kernel_rfl) (by kernel_rfl) (fun _ _ _ h => h) (by rfl) ?_ (by assumption) ?_
               rotate_left
               · (intro w hSw; (try dsimp only at hSw); go_simp; try with_reducible rfl)
               simp only [Act.put, sA, sZ, sS])
            | (refine takeU (i := 12) rfl (by kernel_rfl) (by kernel_rfl) (by kernel_rfl) (fun _ _ _ h => h) (by rfl) (by assumption) ?_
               simp only [Act.put, sA, sZ, sS])
            first
            | (refine takeW (i := 13) (v := ?_) rfl (by kernel_rfl) (by kernel_rfl) (by kernel_rfl) (fun _ _ _ h => h) (by rfl) ?_ (by assumption) ?_
               rotate_left
               · (intro w hSw; (try dsimp only at hSw); go_simp; try with_reducible rfl)
               simp only [Act.put, sA, sZ, sS])
            | (refine takeU (i := 13) rfl (by kernel_rfl) (by kernel_rfl) (by kernel_rfl) (fun _ _ _ h => h) (by rfl) (by assumption) ?_
               simp only [Act.put, sA, sZ, sS])
            first
            | (refine takeW (i := 14) (v := ?_) rfl (by kernel_rfl) (by kernel_rfl) (by kernel_rfl) (fun _ _ _ h => h) (by rfl) ?_ (by assumption) ?_
               rotate_left
               · (intro w hSw; (try dsimp only at hSw); go_simp; try with_reducible rfl)
               simp only [Act.put, sA, sZ, sS])
            | (refine takeU (i := 14) rfl (by kernel_rfl) (by kernel_rfl) (by kernel_rfl) (fun _ _ _ h => h) (by rfl) (by assumption) ?_
               simp only [Act.put, sA, sZ, sS])
            first
            | (refine takeW (i := 15) (v := ?_) rfl (by kernel_rfl) (by kernel_rfl) (by kernel_rfl) (fun _ _ _ h => h) (by rfl) ?_ (by assumption) ?_
               rotate_left
               · (intro w hSw; (try dsimp only at hSw); go_simp; try with_reducible rfl)
               simp only [Act.put, sA, sZ, sS])
            | (refine takeU (i := 15) rfl (by kernel_rfl) (by kernel_rfl) (by kernel_rfl) (fun _ _ _ h => h) (by rfl) (by assumption) ?_
               simp only [Act.put, sA, sZ, sS])
            first
            | (refine takeW (i := 16) (v := ?_) rfl (by kernel_rfl) (by kernel_rfl) (by kernel_rfl) (fun _ _ _ h => h) (by rfl) ?_ (by assumption) ?_
               rotate_left
               · (intro w hSw; (try dsimp only at hSw); go_simp; try with_reducible rfl)
               simp only [Act.put, sA, sZ, sS])
            | (refine takeU (i := 16) rfl (by kernel_rfl) (by kernel_rfl) (by kernel_rfl) (fun _ _ _ h => h) (by rfl) (by assumption) ?_
               simp only [Act.put, sA, sZ, sS])
            first
            | (refine takeW (i := 17) (v := ?_) rfl (by kernel_rfl) (by kernel_rfl) (by kernel_rfl) (fun _ _ _ h => h) (by rfl) ?_ (by assumption) ?_
               rotate_left
               · (intro w hSw; (try dsimp only at hSw); go_simp; try with_reducible rfl)
               simp only [Act.put, sA, sZ, sS])
            | (refine takeU (i := 17) rfl (by kernel_rfl) (by kernel_rfl) (by kernel_rfl) (fun _ _ _ h => h) (by rfl) (by assumption) ?_
               simp only [Act.put, sA, sZ, sS])
            first
            | (refine takeW (i := 18) (v := ?_) rfl (by kernel_rfl) (by kernel_rfl) (by kernel_rfl) (fun _ _ _ h => h) (by rfl) ?_ (by assumption) ?_
               rotate_left
               · (intro w hSw; (try dsimp only at hSw); go_simp; try with_reducible rfl)
               simp only [Act.put, sA, sZ, sS])
            | (refine takeU (i := 18) rfl (by kernel_rfl) (by kernel_rfl) (by kernel_rfl) (fun _ _ _ h => h) (by rfl) (by assumption) ?_
               simp only [Act.put, sA, sZ, sS])
            first
            | (refine takeW (i := 19) (v := ?_) rfl (by kernel_rfl) (by kernel_rfl) (by kernel_rfl) (fun _ _ _ h => h) (by rfl) ?_ (by assumption) ?_
               rotate_left
               · (intro w hSw; (try dsimp only at hSw); go_simp; try with_reducible rfl)
               simp only [Act.put, sA, sZ, sS])
            | (refine takeU (i := 19) rfl (by kernel_rfl) (by kernel_rfl) (by kernel_rfl) (fun _ _ _ h => h) (by rfl) (by assumption) ?_
               simp only [Act.put, sA, sZ, sS])
            first
            | (refine takeW (i := 20) (v := ?_) rfl (by kernel_rfl) (by kernel_rfl) (by kernel_rfl) (fun _ _ _ h => h) (by rfl) ?_ (by assumption) ?_
               rotate_left
               · (intro w hSw; (try dsimp only at hSw); go_simp; try with_reducible rfl)
               simp only [Act.put, sA, sZ, sS])
            | (refine takeU (i := 20) rfl (by kernel_rfl) (by kernel_rfl) (by kernel_rfl) (fun _ _ _ h => h) (by rfl) (by assumption) ?_
               simp only [Act.put, sA, sZ, sS])
            first
            | (refine takeW (i := 21) (v := ?_) rfl (by kernel_rfl) (by kernel_rfl) (by kernel_rfl) (fun _ _ _ h => h) (by rfl) ?_ (by assumption) ?_
               rotate_left
               · (intro w hSw; (try dsimp only at hSw); go_simp; try with_reducible rfl)
               simp only [Act.put, sA, sZ, sS])
            | (refine takeU (i := 21) rfl (by kernel_rfl) (by kernel_rfl) (by kernel_rfl) (fun _ _ _ h => h) (by rfl) (by assumption) ?_
               simp only [Act.put, sA, sZ, sS])
            first
            | (refine takeW (i := 22) (v := ?_) rfl (by kernel_rfl) (by kernel_rfl) (by kernel_rfl) (fun _ _ _ h => h) (by rfl) ?_ (by assumption) ?_
               rotate_left
               · (intro w hSw; (try dsimp only at hSw); go_simp; try with_reducible rfl)
               simp only [Act.put, sA, sZ, sS])
            | (refine takeU (i := 22) rfl (by kernel_rfl) (by kernel_rfl) (by kernel_rfl) (fun _ _ _ h => h) (by rfl) (by assumption) ?_
               simp only [Act.put, sA, sZ, sS])
            first
            | (refine takeW (i := 23) (v := ?_) rfl (by kernel_rfl) (by kernel_rfl) (by kernel_rfl) (fun _ _ _ h => h) (by rfl) ?_ (by assumption) ?_
               rotate_left
               · (intro w hSw; (try dsimp only at hSw); go_simp; try with_reducible rfl)
               simp only [Act.put, sA, sZ, sS])
            | (refine takeU (i := 23) rfl (by kernel_rfl) (by kernel_rfl) (by kernel_rfl) (fun _ _ _ h => h) (by rfl) (by assumption) ?_
               simp only [Act.put, sA, sZ, sS])
            first
            | (refine takeW (i := 24) (v := ?_) rfl (by kernel_rfl) (by kernel_rfl) (by kernel_rfl) (fun _ _ _ h => h) (by rfl) ?_ (by assumption) ?_
               rotate_left
               · (intro w hSw; (try dsimp only at hSw); go_simp; try with_reducible rfl)
               simp only [Act.put, sA, sZ, sS])
            | (refine takeU (i := 24) rfl (by kernel_rfl) (by kernel_rfl) (by kernel_rfl) (fun _ _ _ h => h) (by rfl) (by assumption) ?_
               simp only [Act.put, sA, sZ, sS])
            first
            | (refine takeW (i := 25) (v := ?_) rfl (by kernel_rfl) (by kernel_rfl) (by kernel_rfl) (fun _ _ _ h => h) (by rfl) ?_ (by assumption) ?_
               rotate_left
               · (intro w hSw; (try dsimp only at hSw); go_simp; try with_reducible rfl)
               simp only [Act.put, sA, sZ, sS])
            | (refine takeU (i := 25) rfl (by kernel_rfl) (by kernel_rfl) (by kernel_rfl) (fun _ _ _ h => h) (by rfl) (by assumption) ?_
               simp only [Act.put, sA, sZ, sS])
            first
            | (refine takeW (i := 26) (v := ?_) rfl (by kernel_rfl) (by kernel_rfl) (by kernel_rfl) (fun _ _ _ h => h) (by rfl) ?_ (by assumption) ?_
               rotate_left
               · (intro w hSw; (try dsimp only at hSw); go_simp; try with_reducible rfl)
               simp only [Act.put, sA, sZ, sS])
            | (refine takeU (i := 26) rfl (by kernel_rfl) (by kernel_rfl) (by kernel_rfl) (fun _ _ _ h => h) (by rfl) (by assumption) ?_
               simp only [Act.put, sA, sZ, sS])
            first
            | (refine takeW (i := 27) (v := ?_) rfl (by kernel_rfl) (by kernel_rfl) (by kernel_rfl) (fun _ _ _ h => h) (by rfl) ?_ (by assumption) ?_
               rotate_left
               · (intro w hSw; (try dsimp only at hSw); go_simp; try with_reducible rfl)
               simp only [Act.put, sA, sZ, sS])
            | (refine takeU (i := 27) rfl (by kernel_rfl) (by kernel_rfl) (by kernel_rfl) (fun _ _ _ h => h) (by rfl) (by assumption) ?_
               simp only [Act.put, sA, sZ, sS])
            first
            | (refine takeW (i := 28) (v := ?_) rfl (by kernel_rfl) (by kernel_rfl) (by kernel_rfl) (fun _ _ _ h => h) (by rfl) ?_ (by assumption) ?_
               rotate_left
               · (intro w hSw; (try dsimp only at hSw); go_simp; try with_reducible rfl)
               simp only [Act.put, sA, sZ, sS])
            | (refine takeU (i := 28) rfl (by kernel_rfl) (by kernel_rfl) (by kernel_rfl) (fun _ _ _ h => h) (by rfl) (by assumption) ?_
               simp only [Act.put, sA, sZ, sS])
            first
            | (refine takeW (i := 29) (v := ?_) rfl (by kernel_rfl) (by kernel_rfl) (by kernel_rfl) (fun _ _ _ h => h) (by rfl) ?_ (by assumption) ?_
               rotate_left
               · (intro w hSw; (try dsimp only at hSw); go_simp; try with_reducible rfl)
               simp only [Act.put, sA, sZ, sS])
            | (refine takeU (i := 29) rfl (by kernel_rfl) (by kernel_rfl) (by kernel_rfl) (fun _ _ _ h => h) (by rfl) (by assumption) ?_
               simp only [Act.put, sA, sZ, sS])
            first
            | (refine takeW (i := 30) (v := ?_) rfl (by kernel_rfl) (by kernel_rfl) (by kernel_rfl) (fun _ _ _ h => h) (by rfl) ?_ (by assumption) ?_
               rotate_left
               · (intro w hSw; (try dsimp only at hSw); go_simp; try with_reducible rfl)
               simp only [Act.put, sA, sZ, sS])
            | (refine takeU (i := 30) rfl (by kernel_rfl) (by kernel_rfl) (by kernel_rfl) (fun _ _ _ h => h) (by rfl) (by assumption) ?_
               simp only [Act.put, sA, sZ, sS])
            refine wpAnyH_done (by kernel_rfl) ?_ _
            go_wp2_with fail
            go_ret2
            exact ⟨⟨_, ret_can HE9.out.symm rfl, by rw [HV9.out]; exact OwnL.nil _ _⟩, HB2.out.trans ((HES.out.trans hN).below.mono HB2.out.size)⟩
          · rw [decide_eq_false hne] at hsame
            have HF : Hid (UpTo d (k + 1)) := by
              refine ⟨fun j h hj => ?_, fun j h hj => ?_⟩
              · by_cases e : j = k
                · subst e; rw [← HY.out]; exact hok.out
                · exact HK.out.ok j h (by omega)
              · by_cases e : j = i
                · subst e
                  rw [← HZ.out]
                  have h1 := HY.out
                  simp only [HIK.out] at h1
                  rw [← h1]; exact hne
                · exact HK.out.ne j h (by have := HIK.out; omega)
            clear hne
            go_wp2_with fail
            rw [← HWP.out]
            have hE0 := Ext.refl wp
            refine wp_region_held_drew (S := fun w' => w'.cell? ⟨wr.heap.size, 0, none⟩ = some (.string x1) ∧ w'.cell? ⟨wr.heap.size, 1, none⟩ = some (.string x2) ∧ w'.cell? ⟨g, i * 2, none⟩ = some (.string z1) ∧ Ext wp w') (by kernel_rfl) ?_ (fun hHeld => ?_)
            · (try dsimp only)
              (have hd := Ext.drew hE0; exact ⟨(KE.out _ hd).1, (KE.out _ hd).2, KZ.out _ hd, hd⟩)
            first
            | (refine takeW (i := 0) (v := ?_) rfl (by kernel_rfl) (by kernel_rfl) (by kernel_rfl) (fun _ _ _ h => h) (by rfl) ?_ (by assumption) ?_
               rotate_left
               · (intro w hSw; (try dsimp only at hSw); go_simp; try with_reducible rfl)
               simp only [Act.put, sA, sZ, sS])
            | (refine takeU (i := 0) rfl (by kernel_rfl) (by kernel_rfl) (by kernel_rfl) (fun _ _ _ h => h) (by rfl) (by assumption) ?_
               simp only [Act.put, sA, sZ, sS])
            first
            | (refine takeW (i := 1) (v := ?_) rfl (by kernel_rfl) (by kernel_rfl) (by kernel_rfl) (fun _ _ _ h => h) (by rfl) ?_ (by assumption) ?_
               rotate_left
               · (intro w hSw; (try dsimp only at hSw); go_simp; try with_reducible rfl)
               simp only [Act.put, sA, sZ, sS])
            | (refine takeU (i := 1) rfl (by kernel_rfl) (by kernel_rfl) (by kernel_rfl) (fun _ _ _ h => h) (by rfl) (by assumption) ?_
               simp only [Act.put, sA, sZ, sS])
            first
            | (refine takeU (i := 2) rfl (by kernel_rfl) (by kernel_rfl) (by kernel_rfl) (fun _ _ _ h => h) (by rfl) (by assumption) ?_
               simp only [Act.put, sA, sZ, sS])
            | (refine takeC (i := 2) rfl (by kernel_rfl) (by rfl) (fun K hK => ?_)
               go_simp
               (go_at_call 65; refine (KN.out _ (by first | assumption | exact Ext.drew (by assumption))).mono ?_; rintro e w' ⟨rfl, hN⟩; have hN := Ext.trans (by first | assumption | exact Ext.drew (by assumption)) hN)
               try go_wp2_with fail
               refine hK.out _ _ ?_ (fun hHeld => ?_)
               · (try dsimp only)
                 (have hd := hN; exact ⟨(KE.out _ hd).1, (KE.out _ hd).2, KZ.out _ hd, hd⟩)
               clear hK K
               try simp only [Act.put, sA, sZ, sS])
            first
            | (refine takeW (i := 3) (v := ?_) rfl (by kernel_rfl) (by kernel_rfl) (by kernel_rfl) (fun _ _ _ h => h) (by rfl) ?_ (by assumption) ?_
               rotate_left
               · (intro w hSw; (try dsimp only at hSw); go_simp; try with_reducible rfl)
               simp only [Act.put, sA, sZ, sS])
            | (refine takeU (i := 3) rfl (by kernel_rfl) (by kernel_rfl) (by kernel_rfl) (fun _ _ _ h => h) (by rfl) (by assumption) ?_
               simp only [Act.put, sA, sZ, sS])
            first
            | (refine takeW (i := 4) (v := ?_) rfl (by kernel_rfl) (by kernel_rfl) (by kernel_rfl) (fun _ _ _ h => h) (by rfl) ?_ (by assumption) ?_
               rotate_left
               · (intro w hSw; (try dsimp only at hSw); go_simp; try with_reducible rfl)
               simp only [Act.put, sA, sZ, sS])
            | (refine takeU (i := 4) rfl (by kernel_rfl) (by kernel_rfl) (by kernel_rfl) (fun _ _ _ h => h) (by rfl) (by assumption) ?_
               simp only [Act.put, sA, sZ, sS])
            first
            | (refine takeW (i := 5) (v := ?_) rfl (by kernel_rfl) (by kernel_rfl) (by kernel_rfl) (fun _ _ _ h => h) (by rfl) ?_ (by assumption) ?_
               rotate_left
               · (intro w hSw; (try dsimp only at hSw); go_simp; try with_reducible rfl)
               simp only [Act.put, sA, sZ, sS])
            | (refine takeU (i := 5) rfl (by kernel_rfl) (by kernel_rfl) (by kernel_rfl) (fun _ _ _ h => h) (by rfl) (by assumption) ?_
               simp only [Act.put, sA, sZ, sS])
            first
            | (refine takeW (i := 6) (v := ?_) rfl (by kernel_rfl) (by kernel_rfl) (by kernel_rfl) (fun _ _ _ h => h) (by rfl) ?_ (by assumption) ?_
               rotate_left
               · (intro w hSw; (try dsimp only at hSw); go_simp; try with_reducible rfl)
               simp only [Act.put, sA, sZ, sS])
            | (refine takeU (i := 6) rfl (by kernel_rfl) (by kernel_rfl) (by kernel_rfl) (fun _ _ _ h => h) (by rfl) (by assumption) ?_
               simp only [Act.put, sA, sZ, sS])
            first
            | (refine takeW (i := 7) (v := ?_) rfl (by kernel_rfl) (by kernel_rfl) (by kernel_rfl) (fun _ _ _ h => h) (by rfl) ?_ (by assumption) ?_
               rotate_left
               · (intro w hSw; (try dsimp only at hSw); go_simp; try with_reducible rfl)
               simp only [Act.put, sA, sZ, sS])
            | (refine takeU (i := 7) rfl (by kernel_rfl) (by kernel_rfl) (by kernel_rfl) (fun _ _ _ h => h) (by rfl) (by assumption) ?_
               simp only [Act.put, sA, sZ, sS])
            first
            | (refine takeW (i := 8) (v := ?_) rfl (by kernel_rfl) (by kernel_rfl) (by kernel_rfl) (fun _ _ _ h => h) (by rfl) ?_ (by assumption) ?_
               rotate_left
               · (intro w hSw; (try dsimp only at hSw); go_simp; try with_reducible rfl)
               simp only [Act.put, sA, sZ, sS])
            | (refine takeU (i := 8) rfl (by kernel_rfl) (by kernel_rfl) (by kernel_rfl) (fun _ _ _ h => h) (by rfl) (by assumption) ?_
               simp only [Act.put, sA, sZ, sS])
            first
            | (refine takeW (i := 9) (v := ?_) rfl (by kernel_rfl) (by kernel_rfl) (by kernel_rfl) (fun _ _ _ h => h) (by rfl) ?_ (by assumption) ?_
               rotate_left
               · (intro w hSw; (try dsimp only at hSw); go_simp; try with_reducible rfl)
               simp only [Act.put, sA, sZ, sS])
            | (refine takeU (i := 9) rfl (by kernel_rfl) (by kernel_rfl) (by kernel_rfl) (fun _ _ _ h => h) (by rfl) (by assumption) ?_
               simp only [Act.put, sA, sZ, sS])
            first
            | (refine takeW (i := 10) (v := ?_) rfl (by kernel_rfl) (by kernel_rfl) (by kernel_rfl) (fun _ _ _ h => h) (by rfl) ?_ (by assumption) ?_
               rotate_left
               · (intro w hSw; (try dsimp only at hSw); go_simp; try with_reducible rfl)
               simp only [Act.put, sA, sZ, sS])
            | (refine takeU (i := 10) rfl (by kernel_rfl) (by kernel_rfl) (by kernel_rfl) (fun _ _ _ h => h) (by rfl) (by assumption) ?_
               simp only [Act.put, sA, sZ, sS])
            first
            | (refine takeW (i := 11) (v := ?_) rfl (by kernel_rfl) (by kernel_rfl) (by kernel_rfl) (fun _ _ _ h => h) (by rfl) ?_ (by assumption) ?_
               rotate_left
               · (intro w hSw; (try dsimp only at hSw); go_simp; try with_reducible rfl)
               simp only [Act.put, sA, sZ, sS])
            | (refine takeU (i := 11) rfl (by kernel_rfl) (by kernel_rfl) (by kernel_rfl) (fun _ _ _ h => h) (by rfl) (by assumption) ?_
               simp only [Act.put, sA, sZ, sS])
            first
            | (refine takeW (i := 12) (v := ?_) rfl (by kernel_rfl) (by kernel_rfl) (by kernel_rfl) (fun _ _ _ h => h) (by rfl) ?_ (by assumption) ?_
               rotate_left
               · (intro w hSw; (try dsimp only at hSw); go_simp; try with_reducible rfl)
               simp only [Act.put, sA, sZ, sS])
            | (refine takeU (i := 12) rfl (by kernel_rfl) (by kernel_rfl) (by kernel_rfl) (fun _ _ _ h => h) (by rfl) (by assumption) ?_
               simp only [Act.put, sA, sZ, sS])
            first
            | (refine takeW (i := 13) (v := ?_) rfl (by kernel_rfl) (by kernel_rfl) (by kernel_rfl) (fun _ _ _ h => h) (by rfl) ?_ (by assumption) ?_
               rotate_left
               · (intro w hSw; (try dsimp only at hSw); go_simp; try with_reducible rfl)
               simp only [Act.put, sA, sZ, sS])
            | (refine takeU (i := 13) rfl (by kernel_rfl) (by kernel_rfl) (by kernel_rfl) (fun _ _ _ h => h) (by rfl) (by assumption) ?_
               simp only [Act.put, sA, sZ, sS])
            first
            | (refine takeW (i := 14) (v := ?_) rfl (by kernel_rfl) (by kernel_rfl) (by kernel_rfl) (fun _ _ _ h => h) (by rfl) ?_ (by assumption) ?_
               rotate_left
               · (intro w hSw; (try dsimp only at hSw); go_simp; try with_reducible rfl)
               simp only [Act.put, sA, sZ, sS])
            | (refine takeU (i := 14) rfl (by kernel_rfl) (by kernel_rfl) (by kernel_rfl) (fun _ _ _ h => h) (by rfl) (by assumption) ?_
               simp only [Act.put, sA, sZ, sS])
            first
            | (refine takeW (i := 15) (v := ?_) rfl (by kernel_rfl) (by kernel_rfl) (by kernel_rfl) (fun _ _ _ h => h) (by rfl) ?_ (by assumption) ?_
               rotate_left
               · (intro w hSw; (try dsimp only at hSw); go_simp; try with_reducible rfl)
               simp only [Act.put, sA, sZ, sS])
            | (refine takeU (i := 15) rfl (by kernel_rfl) (by kernel_rfl) (by kernel_rfl) (fun _ _ _ h => h) (by rfl) (by assumption) ?_
               simp only [Act.put, sA, sZ, sS])
            first
            | (refine takeW (i := 16) (v := ?_) rfl (by kernel_rfl) (by kernel_rfl) (by kernel_rfl) (fun _ _ _ h => h) (by rfl) ?_ (by assumption) ?_
               rotate_left
               · (intro w hSw; (try dsimp only at hSw); go_simp; try with_reducible rfl)
               simp only [Act.put, sA, sZ, sS])
            | (refine takeU (i := 16) rfl (by kernel_rfl) (by kernel_rfl) (by kernel_rfl) (fun _ _ _ h => h) (by rfl) (by assumption) ?_
               simp only [Act.put, sA, sZ, sS])
            first
            | (refine takeW (i := 17) (v := ?_) rfl (by kernel_rfl) (by kernel_rfl) (by kernel_rfl) (fun _ _ _ h => h) (by rfl) ?_ (by assumption) ?_
               rotate_left
               · (intro w hSw; (try dsimp only at hSw); go_simp; try with_reducible rfl)
               simp only [Act.put, sA, sZ, sS])
            | (refine takeU (i := 17) rfl (by kernel_rfl) (by kernel_rfl) (by kernel_rfl) (fun _ _ _ h => h) (by rfl) (by assumption) ?_
               simp only [Act.put, sA, sZ, sS])
            first
            | (refine takeW (i := 18) (v := ?_) rfl (by kernel_rfl) (by kernel_rfl) (by kernel_rfl) (fun _ _ _ h => h) (by rfl) ?_ (by assumption) ?_
               rotate_left
               · (intro w hSw; (try dsimp only at hSw); go_simp; try with_reducible rfl)
               simp only [Act.put, sA, sZ, sS])
            | (refine takeU (i := 18) rfl (by kernel_rfl) (by kernel_rfl) (by kernel_rfl) (fun _ _ _ h => h) (by rfl) (by assumption) ?_
               simp only [Act.put, sA, sZ, sS])
            first
            | (refine takeW (i := 19) (v := ?_) rfl (by kernel_rfl) (by kernel_rfl) (by kernel_rfl) (fun _ _ _ h => h) (by rfl) ?_ (by assumption) ?_
               rotate_left
               · (intro w hSw; (try dsimp only at hSw); go_simp; try with_reducible rfl)
               simp only [Act.put, sA, sZ, sS])
            | (refine takeU (i := 19) rfl (by kernel_rfl) (by kernel_rfl) (by kernel_rfl) (fun _ _ _ h => h) (by rfl) (by assumption) ?_
               simp only [Act.put, sA, sZ, sS])
            first
            | (refine takeW (i := 20) (v := ?_) rfl (by kernel_rfl) (by kernel_rfl) (by kernel_rfl) (fun _ _ _ h => h) (by rfl) ?_ (by assumption) ?_
               rotate_left
               · (intro w hSw; (try dsimp only at hSw); go_simp; try with_reducible rfl)
               simp only [Act.put, sA, sZ, sS])
            | (refine takeU (i := 20) rfl (by kernel_rfl) (by kernel_rfl) (by kernel_rfl) (fun _ _ _ h => h) (by rfl) (by assumption) ?_
               simp only [Act.put, sA, sZ, sS])
            first
            | (refine takeW (i := 21) (v := ?_) rfl (by kernel_rfl) (by kernel_rfl) (by kernel_rfl) (fun _ _ _ h => h) (by rfl) ?_ (by assumption) ?_
               rotate_left
               · (intro w hSw; (try dsimp only at hSw); go_simp; try with_reducible rfl)
               simp only [Act.put, sA, sZ, sS])
            | (refine takeU (i := 21) rfl (by kernel_rfl) (by kernel_rfl) (by kernel_rfl) (fun _ _ _ h => h) (by rfl) (by assumption) ?_
               simp only [Act.put, sA, sZ, sS])
            first
            | (refine takeW (i := 22) (v := ?_) rfl (by kernel_rfl) (by kernel_rfl) (by kernel_rfl) (fun _ _ _ h => h) (by rfl) ?_ (by assumption) ?_
               rotate_left
               · (intro w hSw; (try dsimp only at hSw); go_simp; try with_reducible rfl)
               simp only [Act.put, sA, sZ, sS])
            | (refine takeU (i := 22) rfl (by kernel_rfl) (by kernel_rfl) (by kernel_rfl) (fun _ _ _ h => h) (by rfl) (by assumption) ?_
               simp only [Act.put, sA, sZ, sS])
            first
            | (refine takeW (i := 23) (v := ?_) rfl (by kernel_rfl) (by kernel_rfl) (by kernel_rfl) (fun _ _ _ h => h) (by rfl) ?_ (by assumption) ?_
               rotate_left
               · (intro w hSw; (try dsimp only at hSw); go_simp; try with_reducible rfl)
               simp only [Act.put, sA, sZ, sS])
            | (refine takeU (i := 23) rfl (by kernel_rfl) (by kernel_rfl) (by kernel_rfl) (fun _ _ _ h => h) (by rfl) (by assumption) ?_
               simp only [Act.put, sA, sZ, sS])
            first
            | (refine takeW (i := 24) (v := ?_) rfl (by kernel_rfl) (by kernel_rfl) (by kernel_rfl) (fun _ _ _ h => h) (by rfl) ?_ (by assumption) ?_
               rotate_left
               · (intro w hSw; (try dsimp only at hSw); go_simp; try with_reducible rfl)
               simp only [Act.put, sA, sZ, sS])
            | (refine takeU (i := 24) rfl (by kernel_rfl) (by kernel_rfl) (by kernel_rfl) (fun _ _ _ h => h) (by rfl) (by assumption) ?_
               simp only [Act.put, sA, sZ, sS])
            first
            | (refine takeW (i := 25) (v := ?_) rfl (by kernel_rfl) (by kernel_rfl) (by kernel_rfl) (fun _ _ _ h => h) (by rfl) ?_ (by assumption) ?_
               rotate_left
               · (intro w hSw; (try dsimp only at hSw); go_simp; try with_reducible rfl)
               simp only [Act.put, sA, sZ, sS])
            | (refine takeU (i := 25) rfl (by kernel_rfl) (by kernel_rfl) (by kernel_rfl) (fun _ _ _ h => h) (by rfl) (by assumption) ?_
               simp only [Act.put, sA, sZ, sS])
            first
            | (refine takeW (i := 26) (v := ?_) rfl (by kernel_rfl) (by kernel_rfl) (by kernel_rfl) (fun _ _ _ h => h) (by rfl) ?_ (by assumption) ?_
               rotate_left
               · (intro w hSw; (try dsimp only at hSw); go_simp; try with_reducible rfl)
               simp only [Act.put, sA, sZ, sS])
            | (refine takeU (i := 26) rfl (by kernel_rfl) (by kernel_rfl) (by kernel_rfl) (fun _ _ _ h => h) (by rfl) (by assumption) ?_
               simp only [Act.put, sA, sZ, sS])
            first
            | (refine takeW (i := 27) (v := ?_) rfl (by kernel_rfl) (by kernel_rfl) (by kernel_rfl) (fun _ _ _ h => h) (by rfl) ?_ (by assumption) ?_
               rotate_left
               · (intro w hSw; (try dsimp only at hSw); go_simp; try with_reducible rfl)
               simp only [Act.put, sA, sZ, sS])
            | (refine takeU (i := 27) rfl (by kernel_rfl) (by kernel_rfl) (by kernel_rfl) (fun _ _ _ h => h) (by rfl) (by assumption) ?_
               simp only [Act.put, sA, sZ, sS])
            first
            | (refine takeW (i := 28) (v := ?_) rfl (by kernel_rfl) (by kernel_rfl) (by kernel_rfl) (fun _ _ _ h => h) (by rfl) ?_ (by assumption) ?_
               rotate_left
               · (intro w hSw; (try dsimp only at hSw); go_simp; try with_reducible rfl)
               simp only [Act.put, sA, sZ, sS])
            | (refine takeU (i := 28) rfl (by kernel_rfl) (by kernel_rfl) (by kernel_rfl) (fun _ _ _ h => h) (by rfl) (by assumption) ?_
               simp only [Act.put, sA, sZ, sS])
            first
            | (refine takeW (i := 29) (v := ?_) rfl (by kernel_rfl) (by kernel_rfl) (by kernel_rfl) (fun _ _ _ h => h) (by rfl) ?_ (by assumption) ?_
               rotate_left
               · (intro w hSw; (try dsimp only at hSw); go_simp; try with_reducible rfl)
               simp only [Act.put, sA, sZ, sS])
            | (refine takeU (i := 29) rfl (by kernel_rfl) (by kernel_rfl) (by kernel_rfl) (fun _ _ _ h => h) (by rfl) (by assumption) ?_
               simp only [Act.put, sA, sZ, sS])
            first
            | (refine takeW (i := 30) (v := ?_) rfl (by kernel_rfl) (by kernel_rfl) (by kernel_rfl) (fun _ _ _ h => h) (by rfl) ?_ (by assumption) ?_
               rotate_left
               · (intro w hSw; (try dsimp only at hSw); go_simp; try with_reducible rfl)
               simp only [Act.put, sA, sZ, sS])
            | (refine takeU (i := 30) rfl (by kernel_rfl) (by kernel_rfl) (by kernel_rfl) (fun _ _ _ h => h) (by rfl) (by assumption) ?_
               simp only [Act.put, sA, sZ, sS])
            refine wpAnyH_done (by kernel_rfl) ?_ _
            have HE9 : Hid (Ext w2 _) := HES.out.trans hN
            clear hE0 e0 e1 c0 c1
            go_wp2_with fail
            go_roundw
            case rel => first | exact ⟨k + 1, by omega, by go_num, HF.out, HE9.out⟩ | exact ⟨k + 1, by omega, by go_num, HF.out, HE9.out.drew⟩
            case measure => simp [intOf]; omega
    · have hkn : k = n := by omega
      have HF : Hid (mayL l = true) := may_of HP.out HU.out (by have := HN0.out; rw [← HN.out]; omega) (by have := HN6.out; rw [← HN.out]; omega) (by rw [HD.out, ← hkn]; exact HK.out)
      have HE9 : Hid (canE l = 0) := by show _ = _; unfold canE; rw [HF.out]; rfl
      have HV9 : Hid (canV l = d) := by show _ = _; unfold canV; rw [HF.out]; exact (canon_of HP.out HU.out (mayL_parts HF.out).2.2).symm
      have i1 : ¬ (k : Int) < (n : Int) := by omega
      clear hkn
      go_wp2_with fail
      go_ret2
      exact ⟨⟨_, ret_can HE9.out.symm rfl, by rw [HV9.out]; exact HO2.out.below HE.out.below⟩, HB2.out.trans (HE.out.below.mono HB2.out.size)⟩
end Go.Proofs.YtkgcbeokfilehaaGreatDoor
