import Derived.Test.YtkgcbeokfilehaaGreatDoorOwk
namespace Go.Proofs.YtkgcbeokfilehaaGreatDoor
open Go.RowKit Go.Sort

/-- One sample more, of a row with one of each interval. -/
def stepD (d : Int) (r : List Smp) (s : Smp) : List Smp := if alike d r s = true then r.dropLast ++ [s] else r ++ [s]
/-- dedup.Dedup. -/
def dedupS (d : Int) (l : List Smp) : List Smp := (sortS l).foldl (stepD d) []
theorem alike_ne {d : Int} {r : List Smp} {s : Smp} (h : alike d r s = true) : r ≠ [] := by
  intro e; subst e; simp [alike] at h
theorem set_last (r : List Smp) (y : Smp) (h : r ≠ []) : r.set (r.length - 1) y = r.dropLast ++ [y] := by
  induction r with
  | nil => exact absurd rfl h
  | cons a r ih =>
    cases r with
    | nil => rfl
    | cons b r => simpa using ih (by simp)
theorem stepD_length (d : Int) (r : List Smp) (s : Smp) : (stepD d r s).length ≤ r.length + 1 := by
  unfold stepD; split <;> simp
theorem foldD_length (d : Int) (l r : List Smp) : (l.foldl (stepD d) r).length ≤ r.length + l.length := by
  induction l generalizing r with
  | nil => simp
  | cons a l ih => have := ih (stepD d r a); have := stepD_length d r a; simp; omega
theorem dedupS_length (d : Int) (l : List Smp) : (dedupS d l).length ≤ l.length := by
  have := foldD_length d (sortS l) []
  have := sortS_length l
  unfold dedupS; simp at *; omega
theorem fold_take (d : Int) (l : List Smp) (k : Nat) (y : Smp) (h : k < l.length) (hy : y = l[k]) : (l.take (k + 1)).foldl (stepD d) [] = stepD d ((l.take k).foldl (stepD d) []) y := by
  rw [List.take_succ_eq_append_getElem h, List.foldl_append, hy]; rfl
/-- All but one block as it was, of those that were. -/
def But (p : Nat) (w w' : World) : Prop := w.grownBy w' (some p)
theorem But.below {p : Nat} {a w w' : World} (h : But p a w) (k : Below a.heap.size w w') : But p a w' :=
  ⟨k.os.trans h.os, k.tape.trans h.tape, k.output.trans h.output, Nat.le_trans h.size k.size, fun i hi hne => (k.block i hi).trans (h.block i hi hne)⟩
theorem But.refl (p : Nat) (a : World) : But p a a := ⟨rfl, rfl, rfl, Nat.le_refl _, fun _ _ _ => rfl⟩
theorem But.set {p : Nat} {a w : World} (h : But p a w) (o : Nat) (u : Value) : But p a (w.setCell ⟨p, o, none⟩ u) :=
  ⟨h.os, h.tape, h.output, by simpa [World.setCell] using h.size, fun i hi hne => (Below.heap_setCell w ⟨p, o, none⟩ u i (fun e => hne (by rw [e]))).trans (h.block i hi hne)⟩
theorem Cell4.but {p : Nat} {w w' : World} {b o : Nat} {s : Smp} (h : Cell4 w b o s) (k : But p w w') (hne : b ≠ p) : Cell4 w' b o s := by
  have hne' : ∀ o, some (⟨b, o, none⟩ : Addr).block ≠ some p := fun o e => hne (by injection e)
  exact ⟨k.cell h.1 (hne' _), k.cell h.2.1 (hne' _), k.cell h.2.2.1 (hne' _), k.cell h.2.2.2 (hne' _)⟩

set_option maxHeartbeats 2000000 in
theorem ddup_walk (v : Value) (l : List Smp) (d : Int) (W : World) (T : Tabs W) (hR : Rd W W.heap.size v l) (hn : l.length * 32 ≤ 140737488355328) :
    Calls Tryz.prog 38 #[v, .int .i64 d] W fun e w' => ∃ r, e = .returned r ∧ Own w' W.heap.size 54 r (dedupS d l) ∧ Below W.heap.size W w' := by
  have hmf : ∀ (fn : Fn) (first cap : Array Value) (w : World), (Instr.makeFunc fn first cap).run Tryz.prog w = .ok (.func fn first cap) w := fun _ _ _ _ => rfl
  obtain ⟨W1, hW1⟩ : ∃ W1, W1 = (W.alloc (.cells #[.int .i64 d] 3)).alloc (.cells #[.slice none 0 0] 50) := ⟨_, rfl⟩
  have hE1 : Ext W W1 := by rw [hW1]; exact ((Ext.refl W).alloc _).alloc _
  have hs1 : W1.heap.size = W.heap.size + 2 := by rw [hW1]; simp
  have hd1 : W1.cell? ⟨W.heap.size, 0, none⟩ = some (.int .i64 d) := by rw [hW1]; simp
  have ho1 : W1.cell? ⟨W.heap.size + 1, 0, none⟩ = some (.slice none 0 0) := by rw [hW1]; simp
  have hz1 : W1.frozen? ⟨W.heap.size + 1, 0, none⟩ = false := by rw [hW1]; simp
  have Hz1 : Hid (W1.frozen? ⟨W.heap.size + 1, 0, none⟩ = false) := hz1
  clear hz1
  have KS := Lib.hid (dsort_walk v l W1 (T.ext hE1) ((hR.below hE1.below).mono hE1.size) hn)
  have HE1 : Hid (Ext W W1) := hE1
  have HS1 : Hid (W1.heap.size = W.heap.size + 2) := hs1
  have Hd1 : Hid (W1.cell? ⟨W.heap.size, 0, none⟩ = some (.int .i64 d)) := hd1
  have Ho1 : Hid (W1.cell? ⟨W.heap.size + 1, 0, none⟩ = some (.slice none 0 0)) := ho1
  have HSl : Hid ((sortS l).length * 32 ≤ 140737488355328) := by show _ ≤ _; have := sortS_length l; omega
  clear hE1 hs1 hd1 ho1 T hR
  go_enter Tryz.func38, Tryz.ntmps38
  go_wp2_with fail
  rw [← hW1]
  clear hW1
  refine KS.out.mono ?_
  rintro e w1 ⟨sv, rfl, hS, hB1⟩
  obtain ⟨s, hs⟩ : ∃ s, s = sortS l := ⟨_, rfl⟩
  have HS : Hid (s = sortS l) := hs
  rw [← hs] at hS HSl
  clear hs KS
  obtain ⟨AO, co, rfl, hco, hO⟩ := hS.opened
  clear hS
  obtain ⟨m, HM⟩ : ∃ m, Hid (m = s.length) := ⟨_, rfl⟩
  rw [← HM.out] at hco
  rw [← HM.out]
  have HO : Hid (s = [] ∨ ∃ b, AO = some ⟨b, 0, none⟩ ∧ W1.heap.size ≤ b ∧ b < w1.heap.size ∧ ∀ i (h : i < s.length), Cell4 w1 b (i * 4) s[i]) := hO
  have HB1 : Hid (Below W1.heap.size W1 w1) := hB1
  have Hd : Hid (w1.cell? ⟨W.heap.size, 0, none⟩ = some (.int .i64 d)) := by
    show _ = _; rw [HB1.out.cell (by have := HS1.out; simp; omega)]; exact Hd1.out
  have Ho : Hid (w1.cell? ⟨W.heap.size + 1, 0, none⟩ = some (.slice none 0 0)) := by
    show _ = _; rw [HB1.out.cell (by have := HS1.out; simp; omega)]; exact Ho1.out
  have Hz : Hid (w1.frozen? ⟨W.heap.size + 1, 0, none⟩ = false) := by
    show _ = _; rw [HB1.out.frozen (by have := HS1.out; simp; omega)]; exact Hz1.out
  clear hO hB1 Hd1 Ho1 Hz1
  go_wp2_with fail
  go_loopw [13] (fun i wl => ∃ (k : Nat) (v : Value) (r : List Smp), k ≤ m ∧ i = .int .i64 k ∧ wl.cell? ⟨W.heap.size + 1, 0, none⟩ = some v ∧ wl.frozen? ⟨W.heap.size + 1, 0, none⟩ = false ∧ Own wl w1.heap.size 54 v r ∧ Hid (r = (s.take k).foldl (stepD d) []) ∧ Hid (But (W.heap.size + 1) w1 wl))
    (fun i _ => m - (intOf i).toNat)
  case atStart => exact ⟨0, _, [], Nat.zero_le _, rfl, Ho.out, Hz.out, Own.nil _ _ _, rfl, But.refl _ _⟩
  case round =>
    obtain ⟨k, v, r, hk, rfl, hov, hoz, hown, HR, HB⟩ := hrel
    by_cases hlt : k < m
    · have hl : k < s.length := by rw [← HM.out]; exact hlt
      rcases HO.out with h0 | ⟨b, e, hb1, hb2, hcl⟩
      · subst h0; simp at hl
      subst e
      obtain ⟨y, hy⟩ : ∃ y, y = s[k] := ⟨_, rfl⟩
      have HF : Hid ((s.take (k + 1)).foldl (stepD d) [] = stepD d r y) := by
        show _ = _
        rw [fold_take d s k y hl hy, ← HR.out]
      have hne : b ≠ W.heap.size + 1 := by have := HS1.out; omega
      have hcy : Cell4 wr b (k * 4) y := by rw [hy]; exact (hcl k hl).but HB.out hne
      clear hy
      obtain ⟨c0, c1, c2, c3⟩ := hcy
      have hdw : wr.cell? ⟨W.heap.size, 0, none⟩ = some (.int .i64 d) := HB.out.cell Hd.out (by simp)
      have Hrl : Hid (r.length ≤ k) := by
        show _ ≤ _
        rw [HR.out]
        have := foldD_length d (s.take k) []
        rw [List.length_take] at this
        simp at this; omega
      obtain ⟨wa, hwa⟩ : ∃ wa, wa = wr.alloc (.cells #[.int .i64 y.1, .int .i64 y.2.1, .int .i64 y.2.2.1, .int .i64 y.2.2.2] 54) := ⟨_, rfl⟩
      have hEa : Ext wr wa := by rw [hwa]; exact (Ext.refl wr).alloc _
      have Hca : Hid (Cell4 wa wr.heap.size 0 y) := hwa ▸ Cell4.new wr y _ _ rfl
      have Hoa : Hid (wa.cell? ⟨W.heap.size + 1, 0, none⟩ = some v) := hEa.cell_some hov
      have hpb : W.heap.size + 1 < wr.heap.size := lt_of_cell hov
      have Hza : Hid (wa.frozen? ⟨W.heap.size + 1, 0, none⟩ = false) := by show _ = _; rw [hEa.frozen hpb]; exact hoz
      have hpa : W.heap.size + 1 < wa.heap.size := Nat.lt_of_lt_of_le hpb hEa.size
      have Hda : Hid (wa.cell? ⟨W.heap.size, 0, none⟩ = some (.int .i64 d)) := hEa.cell_some hdw
      have Hna : Hid (Own wa w1.heap.size 54 v r) := hown.below hEa.below
      have HBa : Hid (But (W.heap.size + 1) w1 wa) := HB.out.below (hEa.below.mono HB.out.size)
      have f0 : wa.cell? ⟨wr.heap.size, 0, none⟩ = some (.int .i64 y.1) := Hca.out.1
      have f1 : wa.cell? ⟨wr.heap.size, 1, none⟩ = some (.int .i64 y.2.1) := Hca.out.2.1
      have f2 : wa.cell? ⟨wr.heap.size, 2, none⟩ = some (.int .i64 y.2.2.1) := Hca.out.2.2.1
      have f3 : wa.cell? ⟨wr.heap.size, 3, none⟩ = some (.int .i64 y.2.2.2) := Hca.out.2.2.2
      have KA := Lib.hid (alike_walk y d v r wa (W.heap.size + 1) W.heap.size Hoa.out Hda.out Hna.out.rd (by have := Hrl.out; have := HSl.out; have := HM.out; omega))
      clear hov hown hdw hcl hEa
      go_wp2_with fail
      rw [← hwa]
      refine KA.out.mono ?_
      rintro e w2 ⟨rfl, hE⟩
      have f0' := hE.cell_some f0
      have f1' := hE.cell_some f1
      have f2' := hE.cell_some f2
      have f3' := hE.cell_some f3
      have ho2 := hE.cell_some Hoa.out
      have hz2 : w2.frozen? ⟨W.heap.size + 1, 0, none⟩ = false := by rw [hE.frozen hpa]; exact Hza.out
      have hn2 : Own w2 w1.heap.size 54 v r := Hna.out.below hE.below
      have HB2 : Hid (But (W.heap.size + 1) w1 w2) := HBa.out.below (hE.below.mono HBa.out.size)
      have Hmk : Hid (m * 32 ≤ 140737488355328) := by show _ ≤ _; rw [HM.out]; exact HSl.out
      clear hpa hpb hoz Hza f0 f1 f2 f3 Hoa Hda Hna HBa KA hE Hca hwa hne HO HB c0 c1 c2 c3 HB1 HE1
      cases hal : alike d r y with
      | true =>
        have hr := alike_ne hal
        have HF2 : Hid (List.foldl (stepD d) [] (List.take (k + 1) s) = r.set (r.length - 1) y) := by
          show _ = _
          rw [HF.out, stepD, if_pos hal, set_last r y hr]
        obtain ⟨A2, cc, rfl, hcc, hA2⟩ := hn2.opened
        rcases hA2 with h0 | ⟨b2, rfl, hb3, hb4, hcl2⟩
        · exact absurd h0 hr
        obtain ⟨n, hn⟩ : ∃ n, n = r.length := ⟨_, rfl⟩
        obtain ⟨i, hi⟩ : ∃ i, i = r.length - 1 := ⟨_, rfl⟩
        have hir : i < r.length := by have : 0 < r.length := List.length_pos_iff.2 hr; omega
        obtain ⟨yo, hyo⟩ : ∃ yo, yo = r[i] := ⟨_, rfl⟩
        obtain ⟨q0, q1, q2, q3⟩ : Cell4 w2 b2 (i * 4) yo := hyo ▸ hcl2 i hir
        clear hyo
        rw [← hn] at hn2 hcc ho2 Hrl
        have z0 := hn2.free (i * 4)
        have z1 := hn2.free (i * 4 + 1)
        have z2 := hn2.free (i * 4 + 2)
        have z3 := hn2.free (i * 4 + 3)
        have g1 : IntKind.i64.wrap ((n : Int) - 1) = (i : Int) := by
          have := Hrl.out; have := Hmk.out
          rw [IntWalk.i64_in _ (by omega)]; omega
        have g2 : (i : Int) < (n : Int) := by omega
        have g3 : i < n := by omega
        have HN4 := hn2.set4 hn i y hir
        rw [hi] at HN4
        rw [← HF2.out, ← hi] at HN4
        have HN5 := Lib.hid HN4
        have hmk : m ≤ 4398046511104 := by have := Hmk.out; omega
        have hne2 : b2 ≠ W.heap.size + 1 := by have := HB2.out.size; have := HS1.out; omega
        clear hcl2 HN4 hn2 hn hi hir hr HF HF2 hal HR
        go_wp2_with fail
        go_roundw
        case rel =>
          have hc1 : ∀ (w : World) (o : Nat) (u : Value), (w.setCell ⟨b2, o, none⟩ u).cell? ⟨W.heap.size + 1, 0, none⟩ = w.cell? ⟨W.heap.size + 1, 0, none⟩ := fun w o u => World.cell?_of_block (w := w) (Below.heap_setCell w _ u _ (fun e => hne2 e.symm))
          have hc2 : ∀ (w : World) (o : Nat) (u : Value), (w.setCell ⟨b2, o, none⟩ u).frozen? ⟨W.heap.size + 1, 0, none⟩ = w.frozen? ⟨W.heap.size + 1, 0, none⟩ := fun w o u => World.frozen?_of_block (w := w) (Below.heap_setCell w _ u _ (fun e => hne2 e.symm))
          have hB5 := (((((Below.refl w1.heap.size w2).setCell (p := ⟨b2, i * 4, none⟩) hb3 (.int .i64 y.1)).setCell (p := ⟨b2, i * 4 + 1, none⟩) hb3 (.int .i64 y.2.1)).setCell (p := ⟨b2, i * 4 + 2, none⟩) hb3 (.int .i64 y.2.2.1)).setCell (p := ⟨b2, i * 4 + 3, none⟩) hb3 (.int .i64 y.2.2.2))
          refine ⟨k + 1, _, _, by omega, by go_num, ?_, ?_, HN5.out, rfl, HB2.out.below hB5⟩
          · rw [hc1, hc1, hc1, hc1]; exact ho2
          · rw [hc2, hc2, hc2, hc2]; exact hz2
        case measure => simp [intOf]; omega
      | false =>
        have HF2 : Hid (List.foldl (stepD d) [] (List.take (k + 1) s) = r ++ [y]) := by
          show _ = _
          rw [HF.out, stepD, if_neg (by rw [hal]; simp)]
        have hmk : m ≤ 4398046511104 := by have := Hmk.out; omega
        clear HF hal
        go_wp2_with (first | (at_builtin; refine app1 rfl _ _ 50 54 rfl Tryz.underlying50 info_Smp w1.heap.size _ r y rfl (hn2.alloc _) w2.heap.size 0 1 rfl (Cell4.new _ y _ _ rfl) ?c1 ?c2 ?_) | fail)
        case c1 => have := Hrl.out; have := Hmk.out; omega
        case c2 => have := HB2.out.size; simp; omega
        · intro v' w3 hown3 hg hloc
          have hne3 : ∀ g, v.ownBlock = some g → g ≠ W.heap.size + 1 := fun g hg => by have := (hn2.blk hg).1; have := HS1.out; omega
          have ho3 : w3.cell? ⟨W.heap.size + 1, 0, none⟩ = some v := hg.cell (((Ext.refl w2).alloc _).cell_some ho2) (fun e => hne3 _ e.symm rfl)
          have hz3 : w3.frozen? ⟨W.heap.size + 1, 0, none⟩ = false := by
            rw [World.frozen?_of_block (hg.block (W.heap.size + 1) (Nat.lt_of_lt_of_le (lt_of_cell ho2) (by simp)) (fun e => hne3 _ e.symm rfl)), ((Ext.refl w2).alloc _).frozen (lt_of_cell ho2)]
            exact hz2
          have HB3 : Hid (But (W.heap.size + 1) w1 w3) := HB2.out.below (((Below.refl w1.heap.size w2).alloc HB2.out.size _).grown hg (by have := HB2.out.size; simp; omega) (fun g hg' => (hn2.blk hg').1))
          obtain ⟨A3, c3, hv3, -, -⟩ := hown3.rd
          rw [show (r ++ [y]).length = r.length + 1 by simp] at hv3
          subst hv3
          have hc3 : Hid ((w3.setCell ⟨W.heap.size + 1, 0, none⟩ (.slice A3 (r.length + 1) c3)).cell? ⟨W.heap.size + 1, 0, none⟩ = some (.slice A3 (r.length + 1) c3)) := World.cell?_setCell_same _ _ _ ho3
          have HO5 : Hid (Own (w3.setCell ⟨W.heap.size + 1, 0, none⟩ (.slice A3 (r.length + 1) c3)) w1.heap.size 54 (.slice A3 (r.length + 1) c3) (r ++ [y])) := ownsRow_setCell_below hown3 (a := ⟨W.heap.size + 1, 0, none⟩) (by have := HS1.out; have := hb1; show W.heap.size + 1 < _; omega) _
          clear hown3 hg hloc hne3 hn2
          go_wp2_with fail
          go_roundw
          case rel => exact ⟨k + 1, _, _, by omega, by go_num, hc3.out, by rw [World.frozen?_setCell]; exact hz3, HO5.out, HF2.out.symm, HB3.out.set 0 _⟩
          case measure => simp [intOf]; omega
    · have hkm : k = m := by omega
      have HX : Hid (r = dedupS d l) := by
        show _ = _
        rw [HR.out, hkm, HM.out, List.take_length, HS.out]; rfl
      have HO3 : Hid (Own wr w1.heap.size 54 v (dedupS d l)) := HX.out ▸ hown
      clear hown hkm
      go_wp2_with fail
      go_ret
      have hs1 := HS1.out
      have hs2 := HB1.out.size
      refine ⟨_, rfl, HO3.out.lower (by omega), ?_⟩
      have h1 := HE1.out.below
      have h2 : Below W.heap.size W1 w1 := HB1.out.mono (by omega)
      have h3 : Below W.heap.size w1 wr := ⟨HB.out.os, HB.out.tape, HB.out.output, HB.out.size, fun i hi => HB.out.block i (by omega) (fun e => by injection e; omega)⟩
      exact (h1.trans h2).trans h3
end Go.Proofs.YtkgcbeokfilehaaGreatDoor
