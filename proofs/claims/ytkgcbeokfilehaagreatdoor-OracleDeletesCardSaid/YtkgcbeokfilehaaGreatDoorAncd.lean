import Derived.Test.YtkgcbeokfilehaaGreatDoorOwd
import Derived.Laws.AppendOwnNone
import Derived.Lib.SliceRun
namespace Go.Proofs.YtkgcbeokfilehaaGreatDoor
open Go.RowKit Go.Sort

/-- One sample more, of a row with one of each interval. -/
def stepD (d : Int) (r : List Smp) (s : Smp) : List Smp := if alike d r s = true then r.dropLast ++ [s] else r ++ [s]
/-- dedup.Dedup. -/
def dedupS (d : Int) (l : List Smp) : List Smp := (sortS l).foldl (stepD d) []
theorem alike_ne {d : Int} {r : List Smp} {s : Smp} (h : alike d r s = true) : r ≠ [] := by
  intro e; subst e; simp [alike] at h
theorem set_last (r : List Smp) (y : Smp) (h : r ≠ []) : r.set (r.length - 1) y = r.dropLast ++ [y] := by
  induction r with
  | nil => exact absurd rfl h
  | cons a r ih =>
    cases r with
    | nil => rfl
    | cons b r => simpa using ih (by simp)
theorem stepD_length (d : Int) (r : List Smp) (s : Smp) : (stepD d r s).length ≤ r.length + 1 := by
  unfold stepD; split <;> simp
theorem foldD_length (d : Int) (l r : List Smp) : (l.foldl (stepD d) r).length ≤ r.length + l.length := by
  induction l generalizing r with
  | nil => simp
  | cons a l ih => have := ih (stepD d r a); have := stepD_length d r a; simp; omega
theorem dedupS_length (d : Int) (l : List Smp) : (dedupS d l).length ≤ l.length := by
  have := foldD_length d (sortS l) []
  have := sortS_length l
  unfold dedupS; simp at *; omega
theorem fold_take (d : Int) (l : List Smp) (k : Nat) (y : Smp) (h : k < l.length) (hy : y = l[k]) : (l.take (k + 1)).foldl (stepD d) [] = stepD d ((l.take k).foldl (stepD d) []) y := by
  rw [List.take_succ_eq_append_getElem h, List.foldl_append, hy]; rfl
/-- All but one block as it was, of those that were. -/
def But (p : Nat) (w w' : World) : Prop := w.grownBy w' (some p)
theorem But.below {p : Nat} {a w w' : World} (h : But p a w) (k : Below a.heap.size w w') : But p a w' :=
  ⟨k.os.trans h.os, k.tape.trans h.tape, k.output.trans h.output, Nat.le_trans h.size k.size, fun i hi hne => (k.block i hi).trans (h.block i hi hne)⟩
theorem But.refl (p : Nat) (a : World) : But p a a := ⟨rfl, rfl, rfl, Nat.le_refl _, fun _ _ _ => rfl⟩
theorem But.set {p : Nat} {a w : World} (h : But p a w) (o : Nat) (u : Value) : But p a (w.setCell ⟨p, o, none⟩ u) :=
  ⟨h.os, h.tape, h.output, by simpa [World.setCell] using h.size, fun i hi hne => (Below.heap_setCell w ⟨p, o, none⟩ u i (fun e => hne (by rw [e]))).trans (h.block i hi hne)⟩
theorem Cell4.but {p : Nat} {w w' : World} {b o : Nat} {s : Smp} (h : Cell4 w b o s) (k : But p w w') (hne : b ≠ p) : Cell4 w' b o s := by
  have hne' : ∀ o, some (⟨b, o, none⟩ : Addr).block ≠ some p := fun o e => hne (by injection e)
  exact ⟨k.cell h.1 (hne' _), k.cell h.2.1 (hne' _), k.cell h.2.2.1 (hne' _), k.cell h.2.2.2 (hne' _)⟩

set_option maxHeartbeats 2000000 in
theorem ddup_walk (v : Value) (l : List Smp) (d : Int) (W : World) (T : Tabs W) (hR : Rd W W.heap.size v l) (hn : l.length * 32 ≤ 140737488355328) :
    Calls Tryz.prog 38 #[v, .int .i64 d] W fun e w' => ∃ r, e = .returned r ∧ Own w' W.heap.size 54 r (dedupS d l) ∧ Below W.heap.size W w' := by
  have hmf : ∀ (fn : Fn) (first cap : Array Value) (w : World), (Instr.makeFunc fn first cap).run Tryz.prog w = .ok (.func fn first cap) w := fun _ _ _ _ => rfl
  obtain ⟨W1, hW1⟩ : ∃ W1, W1 = (W.alloc (.cells #[.int .i64 d] 3)).alloc (.cells #[.slice none 0 0] 50) := ⟨_, rfl⟩
  have hE1 : Ext W W1 := by rw [hW1]; exact ((Ext.refl W).alloc _).alloc _
  have hs1 : W1.heap.size = W.heap.size + 2 := by rw [hW1]; simp
  have hd1 : W1.cell? ⟨W.heap.size, 0, none⟩ = some (.int .i64 d) := by rw [hW1]; simp
  have ho1 : W1.cell? ⟨W.heap.size + 1, 0, none⟩ = some (.slice none 0 0) := by rw [hW1]; simp
  have hz1 : W1.frozen? ⟨W.heap.size + 1, 0, none⟩ = false := by rw [hW1]; simp
  have Hz1 : Hid (W1.frozen? ⟨W.heap.size + 1, 0, none⟩ = false) := hz1
  clear hz1
  have KS := Lib.hid (dsort_walk v l W1 (T.ext hE1) ((hR.below hE1.below).mono hE1.size) hn)
  have HE1 : Hid (Ext W W1) := hE1
  have HS1 : Hid (W1.heap.size = W.heap.size + 2) := hs1
  have Hd1 : Hid (W1.cell? ⟨W.heap.size, 0, none⟩ = some (.int .i64 d)) := hd1
  have Ho1 : Hid (W1.cell? ⟨W.heap.size + 1, 0, none⟩ = some (.slice none 0 0)) := ho1
  have HSl : Hid ((sortS l).length * 32 ≤ 140737488355328) := by show _ ≤ _; have := sortS_length l; omega
  clear hE1 hs1 hd1 ho1 T hR
  go_enter Tryz.func38, Tryz.ntmps38
  go_wp2_with fail
  rw [← hW1]
  clear hW1
  refine KS.out.mono ?_
  rintro e w1 ⟨sv, rfl, hS, hB1⟩
  obtain ⟨s, hs⟩ : ∃ s, s = sortS l := ⟨_, rfl⟩
  have HS : Hid (s = sortS l) := hs
  rw [← hs] at hS HSl
  clear hs KS
  obtain ⟨AO, co, rfl, hco, hO⟩ := hS.opened
  clear hS
  obtain ⟨m, HM⟩ : ∃ m, Hid (m = s.length) := ⟨_, rfl⟩
  rw [← HM.out] at hco
  rw [← HM.out]
  have HO : Hid (s = [] ∨ ∃ b, AO = some ⟨b, 0, none⟩ ∧ W1.heap.size ≤ b ∧ b < w1.heap.size ∧ ∀ i (h : i < s.length), Cell4 w1 b (i * 4) s[i]) := hO
  have HB1 : Hid (Below W1.heap.size W1 w1) := hB1
  have Hd : Hid (w1.cell? ⟨W.heap.size, 0, none⟩ = some (.int .i64 d)) := by
    show _ = _; rw [HB1.out.cell (by have := HS1.out; simp; omega)]; exact Hd1.out
  have Ho : Hid (w1.cell? ⟨W.heap.size + 1, 0, none⟩ = some (.slice none 0 0)) := by
    show _ = _; rw [HB1.out.cell (by have := HS1.out; simp; omega)]; exact Ho1.out
  have Hz : Hid (w1.frozen? ⟨W.heap.size + 1, 0, none⟩ = false) := by
    show _ = _; rw [HB1.out.frozen (by have := HS1.out; simp; omega)]; exact Hz1.out
  clear hO hB1 Hd1 Ho1 Hz1
  go_wp2_with fail
  go_loopw [13] (fun i wl => ∃ (k : Nat) (v : Value) (r : List Smp), k ≤ m ∧ i = .int .i64 k ∧ wl.cell? ⟨W.heap.size + 1, 0, none⟩ = some v ∧ wl.frozen? ⟨W.heap.size + 1, 0, none⟩ = false ∧ Own wl w1.heap.size 54 v r ∧ Hid (r = (s.take k).foldl (stepD d) []) ∧ Hid (But (W.heap.size + 1) w1 wl))
    (fun i _ => m - (intOf i).toNat)
  case atStart => exact ⟨0, _, [], Nat.zero_le _, rfl, Ho.out, Hz.out, Own.nil _ _ _, rfl, But.refl _ _⟩
  case round =>
    obtain ⟨k, v, r, hk, rfl, hov, hoz, hown, HR, HB⟩ := hrel
    by_cases hlt : k < m
    · have hl : k < s.length := by rw [← HM.out]; exact hlt
      rcases HO.out with h0 | ⟨b, e, hb1, hb2, hcl⟩
      · subst h0; simp at hl
      subst e
      obtain ⟨y, hy⟩ : ∃ y, y = s[k] := ⟨_, rfl⟩
      have HF : Hid ((s.take (k + 1)).foldl (stepD d) [] = stepD d r y) := by
        show _ = _
        rw [fold_take d s k y hl hy, ← HR.out]
      have hne : b ≠ W.heap.size + 1 := by have := HS1.out; omega
      have hcy : Cell4 wr b (k * 4) y := by rw [hy]; exact (hcl k hl).but HB.out hne
      clear hy
      obtain ⟨c0, c1, c2, c3⟩ := hcy
      have hdw : wr.cell? ⟨W.heap.size, 0, none⟩ = some (.int .i64 d) := HB.out.cell Hd.out (by simp)
      have Hrl : Hid (r.length ≤ k) := by
        show _ ≤ _
        rw [HR.out]
        have := foldD_length d (s.take k) []
        rw [List.length_take] at this
        simp at this; omega
      obtain ⟨wa, hwa⟩ : ∃ wa, wa = wr.alloc (.cells #[.int .i64 y.1, .int .i64 y.2.1, .int .i64 y.2.2.1, .int .i64 y.2.2.2] 54) := ⟨_, rfl⟩
      have hEa : Ext wr wa := by rw [hwa]; exact (Ext.refl wr).alloc _
      have Hca : Hid (Cell4 wa wr.heap.size 0 y) := hwa ▸ Cell4.new wr y _ _ rfl
      have Hoa : Hid (wa.cell? ⟨W.heap.size + 1, 0, none⟩ = some v) := hEa.cell_some hov
      have hpb : W.heap.size + 1 < wr.heap.size := lt_of_cell hov
      have Hza : Hid (wa.frozen? ⟨W.heap.size + 1, 0, none⟩ = false) := by show _ = _; rw [hEa.frozen hpb]; exact hoz
      have hpa : W.heap.size + 1 < wa.heap.size := Nat.lt_of_lt_of_le hpb hEa.size
      have Hda : Hid (wa.cell? ⟨W.heap.size, 0, none⟩ = some (.int .i64 d)) := hEa.cell_some hdw
      have Hna : Hid (Own wa w1.heap.size 54 v r) := hown.below hEa.below
      have HBa : Hid (But (W.heap.size + 1) w1 wa) := HB.out.below (hEa.below.mono HB.out.size)
      have f0 : wa.cell? ⟨wr.heap.size, 0, none⟩ = some (.int .i64 y.1) := Hca.out.1
      have f1 : wa.cell? ⟨wr.heap.size, 1, none⟩ = some (.int .i64 y.2.1) := Hca.out.2.1
      have f2 : wa.cell? ⟨wr.heap.size, 2, none⟩ = some (.int .i64 y.2.2.1) := Hca.out.2.2.1
      have f3 : wa.cell? ⟨wr.heap.size, 3, none⟩ = some (.int .i64 y.2.2.2) := Hca.out.2.2.2
      have KA := Lib.hid (alike_walk y d v r wa (W.heap.size + 1) W.heap.size Hoa.out Hda.out Hna.out.rd (by have := Hrl.out; have := HSl.out; have := HM.out; omega))
      clear hov hown hdw hcl hEa
      go_wp2_with fail
      rw [← hwa]
      refine KA.out.mono ?_
      rintro e w2 ⟨rfl, hE⟩
      have f0' := hE.cell_some f0
      have f1' := hE.cell_some f1
      have f2' := hE.cell_some f2
      have f3' := hE.cell_some f3
      have ho2 := hE.cell_some Hoa.out
      have hz2 : w2.frozen? ⟨W.heap.size + 1, 0, none⟩ = false := by rw [hE.frozen hpa]; exact Hza.out
      have hn2 : Own w2 w1.heap.size 54 v r := Hna.out.below hE.below
      have HB2 : Hid (But (W.heap.size + 1) w1 w2) := HBa.out.below (hE.below.mono HBa.out.size)
      have Hmk : Hid (m * 32 ≤ 140737488355328) := by show _ ≤ _; rw [HM.out]; exact HSl.out
      clear hpa hpb hoz Hza f0 f1 f2 f3 Hoa Hda Hna HBa KA hE Hca hwa hne HO HB c0 c1 c2 c3 HB1 HE1
      cases hal : alike d r y with
      | true =>
        have hr := alike_ne hal
        have HF2 : Hid (List.foldl (stepD d) [] (List.take (k + 1) s) = r.set (r.length - 1) y) := by
          show _ = _
          rw [HF.out, stepD, if_pos hal, set_last r y hr]
        obtain ⟨A2, cc, rfl, hcc, hA2⟩ := hn2.opened
        rcases hA2 with h0 | ⟨b2, rfl, hb3, hb4, hcl2⟩
        · exact absurd h0 hr
        obtain ⟨n, hn⟩ : ∃ n, n = r.length := ⟨_, rfl⟩
        obtain ⟨i, hi⟩ : ∃ i, i = r.length - 1 := ⟨_, rfl⟩
        have hir : i < r.length := by have : 0 < r.length := List.length_pos_iff.2 hr; omega
        obtain ⟨yo, hyo⟩ : ∃ yo, yo = r[i] := ⟨_, rfl⟩
        obtain ⟨q0, q1, q2, q3⟩ : Cell4 w2 b2 (i * 4) yo := hyo ▸ hcl2 i hir
        clear hyo
        rw [← hn] at hn2 hcc ho2 Hrl
        have z0 := hn2.free (i * 4)
        have z1 := hn2.free (i * 4 + 1)
        have z2 := hn2.free (i * 4 + 2)
        have z3 := hn2.free (i * 4 + 3)
        have g1 : IntKind.i64.wrap ((n : Int) - 1) = (i : Int) := by
          have := Hrl.out; have := Hmk.out
          rw [IntWalk.i64_in _ (by omega)]; omega
        have g2 : (i : Int) < (n : Int) := by omega
        have g3 : i < n := by omega
        have HN4 := hn2.set4 hn i y hir
        rw [hi] at HN4
        rw [← HF2.out, ← hi] at HN4
        have HN5 := Lib.hid HN4
        have hmk : m ≤ 4398046511104 := by have := Hmk.out; omega
        have hne2 : b2 ≠ W.heap.size + 1 := by have := HB2.out.size; have := HS1.out; omega
        clear hcl2 HN4 hn2 hn hi hir hr HF HF2 hal HR
        go_wp2_with fail
        go_roundw
        case rel =>
          have hc1 : ∀ (w : World) (o : Nat) (u : Value), (w.setCell ⟨b2, o, none⟩ u).cell? ⟨W.heap.size + 1, 0, none⟩ = w.cell? ⟨W.heap.size + 1, 0, none⟩ := fun w o u => World.cell?_of_block (w := w) (Below.heap_setCell w _ u _ (fun e => hne2 e.symm))
          have hc2 : ∀ (w : World) (o : Nat) (u : Value), (w.setCell ⟨b2, o, none⟩ u).frozen? ⟨W.heap.size + 1, 0, none⟩ = w.frozen? ⟨W.heap.size + 1, 0, none⟩ := fun w o u => World.frozen?_of_block (w := w) (Below.heap_setCell w _ u _ (fun e => hne2 e.symm))
          have hB5 := (((((Below.refl w1.heap.size w2).setCell (p := ⟨b2, i * 4, none⟩) hb3 (.int .i64 y.1)).setCell (p := ⟨b2, i * 4 + 1, none⟩) hb3 (.int .i64 y.2.1)).setCell (p := ⟨b2, i * 4 + 2, none⟩) hb3 (.int .i64 y.2.2.1)).setCell (p := ⟨b2, i * 4 + 3, none⟩) hb3 (.int .i64 y.2.2.2))
          refine ⟨k + 1, _, _, by omega, by go_num, ?_, ?_, HN5.out, rfl, HB2.out.below hB5⟩
          · rw [hc1, hc1, hc1, hc1]; exact ho2
          · rw [hc2, hc2, hc2, hc2]; exact hz2
        case measure => simp [intOf]; omega
      | false =>
        have HF2 : Hid (List.foldl (stepD d) [] (List.take (k + 1) s) = r ++ [y]) := by
          show _ = _
          rw [HF.out, stepD, if_neg (by rw [hal]; simp)]
        have hmk : m ≤ 4398046511104 := by have := Hmk.out; omega
        clear HF hal
        go_wp2_with (first | (at_builtin; refine app1 rfl _ _ 50 54 rfl Tryz.underlying50 info_Smp w1.heap.size _ r y rfl (hn2.alloc _) w2.heap.size 0 1 rfl (Cell4.new _ y _ _ rfl) ?c1 ?c2 ?_) | fail)
        case c1 => have := Hrl.out; have := Hmk.out; omega
        case c2 => have := HB2.out.size; simp; omega
        · intro v' w3 hown3 hg hloc
          have hne3 : ∀ g, v.ownBlock = some g → g ≠ W.heap.size + 1 := fun g hg => by have := (hn2.blk hg).1; have := HS1.out; omega
          have ho3 : w3.cell? ⟨W.heap.size + 1, 0, none⟩ = some v := hg.cell (((Ext.refl w2).alloc _).cell_some ho2) (fun e => hne3 _ e.symm rfl)
          have hz3 : w3.frozen? ⟨W.heap.size + 1, 0, none⟩ = false := by
            rw [World.frozen?_of_block (hg.block (W.heap.size + 1) (Nat.lt_of_lt_of_le (lt_of_cell ho2) (by simp)) (fun e => hne3 _ e.symm rfl)), ((Ext.refl w2).alloc _).frozen (lt_of_cell ho2)]
            exact hz2
          have HB3 : Hid (But (W.heap.size + 1) w1 w3) := HB2.out.below (((Below.refl w1.heap.size w2).alloc HB2.out.size _).grown hg (by have := HB2.out.size; simp; omega) (fun g hg' => (hn2.blk hg').1))
          obtain ⟨A3, c3, hv3, -, -⟩ := hown3.rd
          rw [show (r ++ [y]).length = r.length + 1 by simp] at hv3
          subst hv3
          have hc3 : Hid ((w3.setCell ⟨W.heap.size + 1, 0, none⟩ (.slice A3 (r.length + 1) c3)).cell? ⟨W.heap.size + 1, 0, none⟩ = some (.slice A3 (r.length + 1) c3)) := World.cell?_setCell_same _ _ _ ho3
          have HO5 : Hid (Own (w3.setCell ⟨W.heap.size + 1, 0, none⟩ (.slice A3 (r.length + 1) c3)) w1.heap.size 54 (.slice A3 (r.length + 1) c3) (r ++ [y])) := ownsRow_setCell_below hown3 (a := ⟨W.heap.size + 1, 0, none⟩) (by have := HS1.out; have := hb1; show W.heap.size + 1 < _; omega) _
          clear hown3 hg hloc hne3 hn2
          go_wp2_with fail
          go_roundw
          case rel => exact ⟨k + 1, _, _, by omega, by go_num, hc3.out, by rw [World.frozen?_setCell]; exact hz3, HO5.out, HF2.out.symm, HB3.out.set 0 _⟩
          case measure => simp [intOf]; omega
    · have hkm : k = m := by omega
      have HX : Hid (r = dedupS d l) := by
        show _ = _
        rw [HR.out, hkm, HM.out, List.take_length, HS.out]; rfl
      have HO3 : Hid (Own wr w1.heap.size 54 v (dedupS d l)) := HX.out ▸ hown
      clear hown hkm
      go_wp2_with fail
      go_ret
      have hs1 := HS1.out
      have hs2 := HB1.out.size
      refine ⟨_, rfl, HO3.out.lower (by omega), ?_⟩
      have h1 := HE1.out.below
      have h2 : Below W.heap.size W1 w1 := HB1.out.mono (by omega)
      have h3 : Below W.heap.size w1 wr := ⟨HB.out.os, HB.out.tape, HB.out.output, HB.out.size, fun i hi => HB.out.block i (by omega) (fun e => by injection e; omega)⟩
      exact (h1.trans h2).trans h3
end Go.Proofs.YtkgcbeokfilehaaGreatDoor

namespace Go.Proofs.YtkgcbeokfilehaaGreatDoor
open Go.RowKit Go.Sort

theorem add_at (b o j : Nat) : (⟨b, o, none⟩ : Addr).add j = ⟨b, o + j, none⟩ := by
  unfold Addr.add; split <;> simp_all
theorem flatS_cells {w : World} {b o : Nat} {l : List Smp} (h : ∀ i (h : i < l.length), Cell4 w b (o + i * 4) l[i]) : ∀ j u, (flatS l)[j]? = some u → w.cell? ((⟨b, o, none⟩ : Addr).add j) = some u := by
  intro t u hu
  have ht : t < l.length * 4 := by
    have := (List.getElem?_eq_some_iff.1 hu).1
    rwa [flatS_length] at this
  obtain ⟨i, j, hi, hj, rfl⟩ : ∃ i j, i < l.length ∧ j < 4 ∧ t = i * 4 + j := ⟨t / 4, t % 4, by omega, by omega, by omega⟩
  rw [flatS_at l i j hi hj] at hu
  have := (h i hi).news j u hu
  rw [add_at] at this ⊢
  rw [← Nat.add_assoc]; exact this
theorem flatS_one' (l : List Smp) : ∀ u ∈ flatS l, u.oneCell' = true := by
  intro u hu
  unfold flatS at hu
  rw [List.mem_flatMap] at hu
  obtain ⟨a, _, ha⟩ := hu
  exact encS_one a u ha
/-- A nil slice has no capacity. -/
def Nz (v : Value) : Prop := ∀ n c, v = .slice none n c → c = 0
theorem Own.nz {w : World} {base e : Nat} {v : Value} {l : List Smp} (h : Own w base e v l) : Nz v := by
  intro n c hv
  rcases h.2 with ⟨h1, _⟩ | ⟨g, cap, cur, h1, _⟩
  · rw [h1] at hv; injection hv with _ _ h; exact h.symm
  · rw [h1] at hv; injection hv with h; cases h
/-- append of a whole row to a row of the call's own. -/
theorem appN {P : Program} {w : World} {ops : Array Oper} {rest : List Oper} {o : Oper} {a : Act} {Q : Exit → Act → World → Prop} (hgd : o.guard = none) (s x : Operand) (t e : TypeId)
    (ho : o.op = .call { callee := .builtin .append, args := #[s, x], argTypes := #[t, t] }) (ht : P.underlying t = some (.slice e))
    (hinf : (P.info? e).map (fun i => (i.zero, i.size, i.bytes)) = some (some (.agg #[.int .i64 0, .int .i64 0, .int .i64 0, .int .i64 0]), 4, 32))
    (base : Nat) (v : Value) (l : List Smp) (xv : Value) (l2 : List Smp) (B : Nat) (hs : a.eval s = v) (hown : Own w base e v l) (hx : a.eval x = xv) (hR : Rd w B xv l2) (hz : Nz xv)
    (hl : (l.length + l2.length) * 32 ≤ 140737488355328) (hbase : base ≤ w.heap.size)
    (h : ∀ v' w', Own w' base e v' (l ++ l2) → w.grownBy w' v.ownBlock → (v'.ownBlock = v.ownBlock ∨ v'.ownBlock = some w.heap.size) → (v = .slice none 0 0 → l2 = [] → v' = .slice none 0 0) → wpList P ops Q rest (a.put o.dst v') w') :
    wpList P ops Q (o :: rest) a w := by
  obtain ⟨i, hi, hz1, hsz, hby⟩ := of_info hinf
  obtain ⟨A, c, rfl, hc, hA⟩ := hR
  cases A with
  | none =>
    have hc0 := hz _ _ rfl
    subst hc0
    have hl2 : l2 = [] := List.eq_nil_of_length_eq_zero (by omega)
    subst hl2
    refine wpList_append_own_none hgd s x t ho base e i 4 ht hi v l.length (flatS l) hs hown hx ?_
    refine h v w (by rw [List.append_nil]; exact hown) ⟨rfl, rfl, rfl, Nat.le_refl _, fun _ _ _ => rfl⟩ (.inl rfl) (fun h _ => h)
  | some ad =>
    have hcells : ∀ j u, (flatS l2)[j]? = some u → w.cell? (ad.add j) = some u := by
      rcases hA with rfl | ⟨b, o, h1, _, hcl⟩
      · intro j u hu; simp [flatS] at hu
      · injection h1 with h1; subst h1; exact flatS_cells hcl
    refine wpList_append_own_at w hgd s x t ho base e i _ 4 32 ht hi hz1 hsz hby rfl (by decide) v l.length (flatS l) hs hown ad l2.length c (flatS l2) hx (flatS_length l2) hcells (flatS_one' l2) (by unfold maxLen; omega) hl hbase (fun v' w' h1 h2 h3 h4 => ?_)
    refine h v' w' ?_ h2 h4 (fun hv hl2 => h3.2 ⟨hv, by rw [hl2]; rfl⟩)
    unfold Own
    rw [flatS_append, List.length_append]
    exact h1
end Go.Proofs.YtkgcbeokfilehaaGreatDoor

namespace Go.Proofs.YtkgcbeokfilehaaGreatDoor
open Go.RowKit Go.Sort

set_option maxHeartbeats 1000000 in
/-- slices.Clone. -/
theorem clone_walk (v : Value) (l : List Smp) (W : World) (hR : Rd W W.heap.size v l) (hz : Nz v) (hl : l.length * 32 ≤ 140737488355328) :
    Calls Tryz.prog 59 #[v] W fun e w' => ∃ r, e = .returned r ∧ Own w' W.heap.size 54 r l ∧ Below W.heap.size W w' := by
  have q22 : ∀ (w : World) (a : Option Addr) (n c n' c' : Nat), (binOp .eql 50 (.slice a n c) (.slice none n' c')).run Tryz.prog w = .ok (.bool a.isNone) w := fun w a n c n' c' => Lib.run_eql_slice_nil w _ _ a n c n' c' Tryz.underlying50
  obtain ⟨A, c, hv, hc, hA⟩ := hR
  have HR : Hid (Rd W W.heap.size v l) := ⟨A, c, hv, hc, hA⟩
  have HZ : Hid (Nz v) := hz
  cases A with
  | none =>
    have hc0 := hz _ _ hv
    subst hc0
    have hl2 : l = [] := List.eq_nil_of_length_eq_zero (by omega)
    subst hl2
    subst hv
    go_enter Tryz.func59, Tryz.ntmps59
    go_wp2_with fail
    go_ret
    exact ⟨_, rfl, Own.nil _ _ _, Below.refl _ _⟩
  | some ad =>
    subst hv
    clear hA hz
    have HL := Lib.hid hl
    have hO : Own (W.alloc (.cells #[] 54)) W.heap.size 54 (.slice (some ⟨W.heap.size, 0, none⟩) 0 0) [] := World.ownsRow_made W #[] 0 (Nat.le_refl _) (Nat.zero_le _) rfl
    have HO := Lib.hid hO
    clear hO hl
    go_enter Tryz.func59, Tryz.ntmps59
    go_wp2_with (first | (at_builtin; refine appN rfl _ _ 50 54 rfl Tryz.underlying50 info_Smp W.heap.size _ [] _ l W.heap.size rfl HO.out rfl (HR.out.below ((Ext.refl W).alloc _).below) HZ.out ?c1 ?c2 ?_) | fail)
    case c1 => simpa using HL.out
    case c2 => simp
    · intro v' w3 hown hg hloc
      go_wp2_with fail
      go_ret
      exact ⟨_, rfl, hown, ((Below.refl W.heap.size W).alloc (Nat.le_refl _) _).grown hg (by simp) (by intro k hk; simp [Value.ownBlock] at hk; omega)⟩
end Go.Proofs.YtkgcbeokfilehaaGreatDoor

namespace Go.Proofs.YtkgcbeokfilehaaGreatDoor
open Go.RowKit Go.Sort

theorem same_take {a b : List Smp} {k : Nat} {x y : Smp} (ha : k < a.length) (hb : k < b.length) (hx : x = a[k]) (hy : y = b[k]) (h : a.take k = b.take k) : (a.take (k + 1) = b.take (k + 1)) ↔ x = y := by
  rw [List.take_succ_eq_append_getElem ha, List.take_succ_eq_append_getElem hb, h, ← hx, ← hy]
  simp
set_option maxHeartbeats 1000000 in
theorem same_walk (va vb : Value) (a b : List Smp) (W : World) (hRa : Rd W W.heap.size va a) (hRb : Rd W W.heap.size vb b) (hla : a.length * 32 ≤ 140737488355328) :
    Calls Tryz.prog 44 #[va, vb] W fun e w' => e = .returned (.bool (decide (a = b))) ∧ Ext W w' := by
  obtain ⟨A, ca, rfl, hca, hA⟩ := hRa
  obtain ⟨B, cb, rfl, hcb, hB⟩ := hRb
  have HA := Lib.hid hA
  have HB := Lib.hid hB
  obtain ⟨q, hq⟩ : ∃ q, q = decide (a = b) := ⟨_, rfl⟩
  have HQ : Hid (q = decide (a = b)) := hq
  rw [← hq]
  clear hq hA hB hca hcb
  obtain ⟨n, hn⟩ : ∃ n, n = a.length := ⟨_, rfl⟩
  obtain ⟨m, hm⟩ : ∃ m, m = b.length := ⟨_, rfl⟩
  rw [← hn] at hla ⊢
  rw [← hm]
  have HN : Hid (n = a.length) := hn
  have HM : Hid (m = b.length) := hm
  clear hn hm
  by_cases hnm : n = m
  · have g0 : (((n : Int)) != (m : Int)) = false := by simp; omega
    go_enter Tryz.func44, Tryz.ntmps44
    go_wp2_with fail
    go_loopw [5] (fun i wl => ∃ k : Nat, k ≤ n ∧ i = .int .i64 k ∧ Hid (a.take k = b.take k) ∧ Hid (Ext W wl))
      (fun i _ => n - (intOf i).toNat)
    case atStart => exact ⟨0, Nat.zero_le _, rfl, rfl, Ext.refl _⟩
    case round =>
      obtain ⟨k, hk, rfl, HT, HE⟩ := hrel
      by_cases hlt : k < n
      · have hla2 : k < a.length := by rw [← HN.out]; exact hlt
        have hlb2 : k < b.length := by rw [← HM.out, ← hnm]; exact hlt
        rcases HA.out with h0 | ⟨b1, o1, e, hb1, hcl1⟩
        · subst h0; simp at hla2
        rcases HB.out with h0 | ⟨b2, o2, e', hb2, hcl2⟩
        · subst h0; simp at hlb2
        subst e e'
        obtain ⟨x, hx⟩ : ∃ x, x = a[k] := ⟨_, rfl⟩
        obtain ⟨y, hy⟩ : ∃ y, y = b[k] := ⟨_, rfl⟩
        obtain ⟨c0, c1, c2, c3⟩ : Cell4 wr b1 (o1 + k * 4) x := by rw [hx]; exact (hcl1 k hla2).below HE.out.below hb1
        obtain ⟨d0, d1, d2, d3⟩ : Cell4 wr b2 (o2 + k * 4) y := by rw [hy]; exact (hcl2 k hlb2).below HE.out.below hb2
        have HF : Hid ((a.take (k + 1) = b.take (k + 1)) ↔ x = y) := same_take hla2 hlb2 hx hy HT.out
        obtain ⟨p, hp⟩ : ∃ p, p = decide (x = y) := ⟨_, rfl⟩
        have hne : ∀ w, (binOp .neq 54 (.agg #[.int .i64 x.1, .int .i64 x.2.1, .int .i64 x.2.2.1, .int .i64 x.2.2.2]) (.agg #[.int .i64 y.1, .int .i64 y.2.1, .int .i64 y.2.2.1, .int .i64 y.2.2.2])).run Tryz.prog w = .ok (.bool (!p)) w := fun w => hp ▸ neq_Smp x y w
        have HP : Hid (p = decide (x = y)) := hp
        clear hp hx hy hcl1 hcl2
        have hkm : k < m := by omega
        have i1 : (k : Int) < (n : Int) := by omega
        have i2 : (k : Int) < (m : Int) := by omega
        go_wp2_with fail
        go_quiet (fail)
        clear c0 c1 c2 c3 d0 d1 d2 d3 hne
        cases p with
        | true =>
          have hT2 : Hid (a.take (k + 1) = b.take (k + 1)) := HF.out.2 (of_decide_eq_true HP.out.symm)
          clear HF HP
          go_wp2_with fail
          go_roundw
          case rel => exact ⟨k + 1, by omega, by go_num, hT2, HE.out.drewN nq⟩
          case measure => simp [intOf]; omega
        | false =>
          have hab : a ≠ b := fun e => of_decide_eq_false HP.out.symm (HF.out.1 (by rw [e]))
          have hqf : Hid (q = false) := HQ.out.trans (decide_eq_false hab)
          clear HF HP hab
          go_wp2_with fail
          go_ret
          exact ⟨ret_bool hqf.out.symm, HE.out.drewN nq⟩
      · have hkn : k = n := by omega
        have hab : a = b := by
          have := HT.out
          rwa [hkn, HN.out, List.take_length, ← HN.out, hnm, HM.out, List.take_length] at this
        have hqt : Hid (q = true) := HQ.out.trans (decide_eq_true hab)
        clear hab hkn
        go_wp2_with fail
        go_ret
        exact ⟨ret_bool hqt.out.symm, HE.out⟩
  · have g0 : (((n : Int)) != (m : Int)) = true := by simp; omega
    have hab : a ≠ b := fun e => hnm (by rw [HN.out, HM.out, e])
    have hqf : Hid (q = false) := HQ.out.trans (decide_eq_false hab)
    go_enter Tryz.func44, Tryz.ntmps44
    go_wp2_with fail
    go_ret
    exact ⟨ret_bool hqf.out.symm, Ext.refl _⟩
end Go.Proofs.YtkgcbeokfilehaaGreatDoor

namespace Go.Proofs.YtkgcbeokfilehaaGreatDoor
open Go.RowKit Go.Sort

/-- Is it outside? -/
def outS (f t : Int) (s : Smp) : Bool := decide (s.1 < f) || decide (t < s.1)

set_option maxHeartbeats 400000 in
theorem out_walk (s : Smp) (f t : Int) (w : World) (pf pt : Nat) (hf : w.cell? ⟨pf, 0, none⟩ = some (.int .i64 f)) (ht : w.cell? ⟨pt, 0, none⟩ = some (.int .i64 t)) :
    Calls Tryz.prog 69 #[vS s, .pointer (some ⟨pf, 0, none⟩), .pointer (some ⟨pt, 0, none⟩)] w fun e w' => e = .returned (.bool (outS f t s)) ∧ Ext w w' := by
  have HE : Hid (Ext w (w.alloc (.cells #[.int .i64 s.1, .int .i64 s.2.1, .int .i64 s.2.2.1, .int .i64 s.2.2.2] 54))) := (Ext.refl w).alloc _
  have c0 : (w.alloc (.cells #[.int .i64 s.1, .int .i64 s.2.1, .int .i64 s.2.2.1, .int .i64 s.2.2.2] 54)).cell? ⟨w.heap.size, 0, none⟩ = some (.int .i64 s.1) := by simp
  have hf1 : (w.alloc (.cells #[.int .i64 s.1, .int .i64 s.2.1, .int .i64 s.2.2.1, .int .i64 s.2.2.2] 54)).cell? ⟨pf, 0, none⟩ = some (.int .i64 f) := HE.out.cell_some hf
  have ht1 : (w.alloc (.cells #[.int .i64 s.1, .int .i64 s.2.1, .int .i64 s.2.2.1, .int .i64 s.2.2.2] 54)).cell? ⟨pt, 0, none⟩ = some (.int .i64 t) := HE.out.cell_some ht
  clear hf ht
  unfold vS
  by_cases h : s.1 < f
  · have hd : outS f t s = true := by unfold outS; simp [h]
    have g : decide (s.1 < f) = true := decide_eq_true h
    rw [hd]
    clear hd
    go_enter Tryz.func69, Tryz.ntmps69
    go_wp2_with fail
    go_ret
    exact ⟨rfl, HE.out⟩
  · have hd : outS f t s = decide (t < s.1) := by unfold outS; simp [h]
    have g : decide (s.1 < f) = false := decide_eq_false h
    rw [hd]
    clear hd
    go_enter Tryz.func69, Tryz.ntmps69
    go_wp2_with fail
    go_ret
    exact ⟨ret_bool (by simp), HE.out⟩

def idxV (f t : Int) (l : List Smp) : Int := match l.findIdx? (outS f t) with | some i => i | none => -1
theorem idx_take_none {f t : Int} {l : List Smp} {k : Nat} {y : Smp} (hk : k < l.length) (hy : y = l[k]) (h : (l.take k).findIdx? (outS f t) = none) :
    (outS f t y = true → idxV f t l = k) ∧ (outS f t y = false → (l.take (k + 1)).findIdx? (outS f t) = none) := by
  constructor
  · intro ho
    unfold idxV
    have : l.findIdx? (outS f t) = some k := by
      rw [List.findIdx?_eq_some_iff_getElem]
      refine ⟨hk, by rw [← hy]; exact ho, fun j hj => ?_⟩
      rw [List.findIdx?_eq_none_iff] at h
      have := h l[j] (by rw [List.mem_take_iff_getElem]; exact ⟨j, by omega, rfl⟩)
      simpa using this
    rw [this]
  · intro ho
    rw [List.findIdx?_eq_none_iff] at *
    intro x hx
    rw [List.take_succ_eq_append_getElem hk, List.mem_append, List.mem_singleton, ← hy] at hx
    rcases hx with hx | rfl
    · exact h x hx
    · exact ho

set_option maxHeartbeats 1000000 in
theorem idx_walk (v : Value) (l : List Smp) (f t : Int) (W : World) (pf pt : Nat) (hf : W.cell? ⟨pf, 0, none⟩ = some (.int .i64 f)) (ht : W.cell? ⟨pt, 0, none⟩ = some (.int .i64 t)) (hR : Rd W W.heap.size v l) (hl : l.length * 32 ≤ 140737488355328) :
    Calls Tryz.prog 91 #[v, .func (.func 69) #[] #[.pointer (some ⟨pf, 0, none⟩), .pointer (some ⟨pt, 0, none⟩)]] W fun e w' => e = .returned (.int .i64 (idxV f t l)) ∧ Ext W w' := by
  obtain ⟨A, c, rfl, hc, hA⟩ := hR
  have HA := Lib.hid hA
  obtain ⟨n, hn⟩ : ∃ n, n = l.length := ⟨_, rfl⟩
  rw [← hn] at hl ⊢
  have HN : Hid (n = l.length) := hn
  obtain ⟨q, hq⟩ : ∃ q, q = idxV f t l := ⟨_, rfl⟩
  rw [← hq]
  have HQ : Hid (q = idxV f t l) := hq
  have HF := Lib.hid hf
  have HT := Lib.hid ht
  have KO := Lib.hid (fun (y : Smp) (w : World) (hE : Ext W w) => out_walk y f t w pf pt (hE.cell_some hf) (hE.cell_some ht))
  clear hA hn hq hf ht hc
  go_enter Tryz.func91, Tryz.ntmps91
  go_wp2_with fail
  go_loopw [8] (fun i wl => ∃ k : Nat, k ≤ n ∧ i = .int .i64 k ∧ Hid ((l.take k).findIdx? (outS f t) = none) ∧ Hid (Ext W wl))
    (fun i _ => n - (intOf i).toNat)
  case atStart => exact ⟨0, Nat.zero_le _, rfl, rfl, Ext.refl _⟩
  case round =>
    obtain ⟨k, hk, rfl, HI, HE⟩ := hrel
    by_cases hlt : k < n
    · have hl2 : k < l.length := by rw [← HN.out]; exact hlt
      rcases HA.out with h0 | ⟨b, o, e, hb, hcl⟩
      · subst h0; simp at hl2
      subst e
      obtain ⟨y, hy⟩ : ∃ y, y = l[k] := ⟨_, rfl⟩
      obtain ⟨c0, c1, c2, c3⟩ : Cell4 wr b (o + k * 4) y := by rw [hy]; exact (hcl k hl2).below HE.out.below hb
      have HX := Lib.hid (idx_take_none hl2 hy HI.out)
      clear hy hcl
      go_wp2_with fail
      refine (KO.out y wr HE.out).mono ?_
      rintro e w2 ⟨rfl, hE2⟩
      have HE2 : Hid (Ext W w2) := HE.out.trans hE2
      clear c0 c1 c2 c3 hE2
      cases ho : outS f t y with
      | true =>
        have hqk : Hid (q = k) := HQ.out.trans (HX.out.1 ho)
        clear HX ho
        go_wp2_with fail
        go_ret
        exact ⟨ret_int hqk.out.symm, HE2.out⟩
      | false =>
        have hI2 : Hid ((l.take (k + 1)).findIdx? (outS f t) = none) := HX.out.2 ho
        clear HX ho
        go_wp2_with fail
        go_roundw
        case rel => exact ⟨k + 1, by omega, by go_num, hI2, HE2⟩
        case measure => simp [intOf]; omega
    · have hqm : Hid (q = -1) := by
        show _ = _
        have := HI.out
        rw [show k = l.length by have := HN.out; omega, List.take_length] at this
        rw [HQ.out]; unfold idxV; rw [this]
      go_wp2_with fail
      go_ret
      exact ⟨ret_int hqm.out.symm, HE.out⟩
end Go.Proofs.YtkgcbeokfilehaaGreatDoor
