import Derived.Test.YtkgcbeokfilehaaGreatDoorRgk
import Derived.Test.YtkgcbeokfilehaaGreatDoorRdk
import Derived.Test.YtkgcbeokfilehaaGreatDoorAtk
import Derived.Test.YtkgcbeokfilehaaGreatDoorRows
import Derived.OpenShut
import Derived.Deep.Slices
import Derived.MakeChecks
import Derived.Stop.Joined
import Derived.Test.YtkgcbeokfilehaaGreatDoorCards
import Derived.Test.YtkgcbeokfilehaaGreatDoorTie
import Derived.WalkKit
import Derived.ProofKit
import Derived.LaidMore
import Derived.Lay
import Derived.SevenTiedAt
import Derived.Below
import Derived.ChangeSame
namespace Go.Proofs.YtkgcbeokfilehaaGreatDoor
open Go.RowKit Go.Sort

theorem tot_right (l : List Smp) : Tot (l.filter rightS) := by
  intro a ha b hb h1 h2
  rw [List.mem_filter] at ha hb
  have ra := ha.2
  have rb := hb.2
  unfold rightS at ra rb
  rw [Bool.and_eq_true] at ra rb
  unfold ltS Smp.bits at h1 h2
  obtain ⟨at_, am, ax, as_⟩ := a
  obtain ⟨bt, bm, bx, bs⟩ := b
  simp only at *
  obtain ⟨e1, e2, e3⟩ := bitsV_inj ra.2 rb.2 (by omega)
  have e4 : at_ = bt := by omega
  rw [e1, e2, e3, e4]
theorem putS_mem (r : List Smp) (s x : Smp) : x ∈ putS r s ↔ x ∈ r ∨ x = s := by
  induction r with
  | nil => simp [putS]
  | cons a r ih =>
    unfold putS
    split
    · rw [List.mem_cons, ih, List.mem_cons, or_assoc]
    · split
      · rename_i h
        constructor
        · exact .inl
        · rintro (h1 | h1)
          · exact h1
          · rw [h1, ← h]; exact List.mem_cons_self
      · simp only [List.mem_cons]
        constructor
        · rintro (h | h | h)
          · exact .inr h
          · exact .inl (.inl h)
          · exact .inl (.inr h)
        · rintro ((h | h) | h)
          · exact .inr (.inl h)
          · exact .inr (.inr h)
          · exact .inl h
theorem putS_strict (r : List Smp) (s : Smp) (hr : r.Pairwise ltS) (ht : ∀ a ∈ r, ¬ ltS a s → ¬ ltS s a → a = s) : (putS r s).Pairwise ltS := by
  induction r with
  | nil => unfold putS; exact List.pairwise_singleton _ _
  | cons a r ih =>
    have p := List.pairwise_cons.1 hr
    unfold putS
    split
    · rename_i h
      rw [cmpS_neg] at h
      refine List.pairwise_cons.2 ⟨fun b hb => ?_, ih p.2 fun b hb => ht b (List.mem_cons_of_mem _ hb)⟩
      rcases (putS_mem r s b).1 hb with h1 | h1
      · exact p.1 b h1
      · rw [h1]; exact h
    · rename_i h
      rw [cmpS_neg] at h
      split
      · exact hr
      · rename_i hne
        have hs : ltS s a := Classical.byContradiction fun hn => hne (ht a List.mem_cons_self h hn)
        refine List.pairwise_cons.2 ⟨fun b hb => ?_, hr⟩
        rcases List.mem_cons.1 hb with h1 | h1
        · rw [h1]; exact hs
        · exact ltS_trans hs (p.1 b h1)
theorem fold_put (d : List Smp) : ∀ r : List Smp, r.Pairwise ltS → Tot (r ++ d) → (d.foldl putS r).Pairwise ltS ∧ ∀ x, x ∈ d.foldl putS r ↔ x ∈ r ∨ x ∈ d := by
  induction d with
  | nil => intro r hr _; exact ⟨hr, fun x => by simp⟩
  | cons a d ih =>
    intro r hr ht
    have h1 := putS_strict r a hr fun b hb => ht b (by simp [hb]) a (by simp)
    have h2 := ih (putS r a) h1 (by
      intro x hx y hy
      refine ht x ?_ y ?_
      · rw [List.mem_append, putS_mem] at hx; simp; rcases hx with (h | h) | h <;> simp [h]
      · rw [List.mem_append, putS_mem] at hy; simp; rcases hy with (h | h) | h <;> simp [h])
    refine ⟨h2.1, fun x => ?_⟩
    rw [List.foldl_cons, h2.2, putS_mem, List.mem_cons, or_assoc]
/-- The reference's order is the program's. -/
theorem rsortS_eq (l : List Smp) : rsortS l = sortS l := by
  obtain ⟨h1, h2⟩ := fold_put (l.filter rightS) [] List.Pairwise.nil (by rw [List.nil_append]; exact tot_right l)
  refine (sortS_is l (rsortS l) h1 fun x => ?_).symm
  refine (h2 x).trans ?_
  rw [List.mem_filter]; simp
/-- Each once, in order. -/
theorem sortS_strict' (l : List Smp) : (sortS l).Pairwise ltS := sortS_strict l (tot_right l)

set_option maxRecDepth 100000 in
set_option maxHeartbeats 4000000 in
/-- eskerref15.Dedup. -/
theorem rdedup_walk (v : Value) (l : List Smp) (d : Int) (W : World) (hR : Rd W W.heap.size v l) (hl : l.length ≤ 10000) :
    Calls Tryz.prog 55 #[v, .int .i64 d] W fun e w' => ∃ r, e = .returned r ∧ Own w' W.heap.size 54 r (dedupS d l) ∧ Below W.heap.size W w' := by
  have KS := Lib.hid (rsort_walk v l W hR hl)
  have KI := Lib.hid (fun (t : Int) W => rivl_walk t d W)
  have HL : Hid ((sortS l).length ≤ 10000) := by show _ ≤ _; have := sortS_length l; omega
  obtain ⟨A0, c0, rfl, -, -⟩ := hR
  go_enter Tryz.func55, Tryz.ntmps55
  go_wp2_with fail
  refine KS.out.mono ?_
  rintro e w1 ⟨sv, rfl, hS, -, hB1⟩
  rw [rsortS_eq] at hS
  obtain ⟨s, hs⟩ : ∃ s, s = sortS l := ⟨_, rfl⟩
  have HS := Lib.hid hs
  rw [← hs] at hS HL
  clear hs KS
  have HB1 := Lib.hid hB1
  obtain ⟨A, c, rfl, hc, hA⟩ := hS
  obtain ⟨n, hn⟩ : ∃ n, n = s.length := ⟨_, rfl⟩
  rw [← hn] at hc HL ⊢
  have HN := Lib.hid hn
  have HA := Lib.hid hA
  have hn4 : n ≤ 10000 := HL.out
  clear hn hA hc hB1
  go_wp2_with fail
  go_loopw [6, 7] (fun o i wl => ∃ (k : Nat) (r : List Smp), k ≤ n ∧ i = .int .i64 k ∧ Own wl w1.heap.size 54 o r ∧ Hid (r ++ lasts d (s.drop k) = lasts d s) ∧ Hid (r.length ≤ k) ∧ Hid (Below w1.heap.size w1 wl))
    (fun _ i _ => n - (intOf i).toNat)
  case atStart => exact ⟨0, [], Nat.zero_le _, rfl, Own.nil _ _ _, by show _ = _; simp, Nat.le_refl _, Below.refl _ _⟩
  case round =>
    obtain ⟨k, r, hk, rfl, hown, HF, HLr, HB⟩ := hrel
    by_cases hlt : k < n
    · have hkl : k < s.length := by rw [← HN.out]; exact hlt
      rcases HA.out with e | ⟨b, o, e, hb, hcl⟩
      · subst e; simp at hkl
      subst e
      obtain ⟨y, hy⟩ : ∃ y, y = s[k] := ⟨_, rfl⟩
      have HCY : Hid (Cell4 wr b (o + k * 4) y) := by show Cell4 _ _ _ _; rw [hy]; exact (hcl k hkl).below HB.out hb
      have HD : Hid (s.drop k = y :: s.drop (k + 1)) := by show _ = _; rw [List.drop_eq_getElem_cons hkl, hy]
      have HO := Lib.hid hown
      clear hy hown
      have gw : IntKind.i64.wrap ((k : Int) + 1) = (k : Int) + 1 := IntWalk.i64_in _ (by omega)
      -- is it the last of its interval?
      have hcase : (k + 1 = n ∨ (∃ z, k + 1 < n ∧ s.drop (k + 1) = z :: s.drop (k + 2) ∧ Cell4 wr b (o + (k + 1) * 4) z)) := by
        rcases Nat.lt_or_ge (k + 1) n with h | h
        · right
          have hkl2 : k + 1 < s.length := by rw [← HN.out]; exact h
          exact ⟨s[k + 1], h, by rw [List.drop_eq_getElem_cons hkl2], (hcl (k + 1) hkl2).below HB.out hb⟩
        · left; omega
      clear hcl
      rcases hcase with hk1 | ⟨z, hk1, hz, hcz⟩
      · have HF2 : Hid ((r ++ [y]) ++ lasts d (s.drop (k + 1)) = lasts d s) := by
          show _ = _
          rw [← HF.out, HD.out, List.drop_of_length_le (by rw [← HN.out]; omega)]
          simp [lasts]
        have g0 : ((k : Int) + 1 == (n : Int)) = true := by rw [beq_iff_eq]; omega
        go_wp2_with fail
        go_quiet (fail)
        obtain ⟨w3, hw3⟩ : ∃ w3, w3 = wr.drewN nq := ⟨_, rfl⟩
        rw [← hw3]
        have hE3 : Ext wr w3 := by rw [hw3]; exact (Ext.refl wr).drewN nq
        have HE3 := Lib.hid hE3.below
        obtain ⟨c0, c1, c2, c3⟩ := HCY.out.ext hE3.below
        have hO3 := HO.out.below hE3.below
        have HBs : Hid (w1.heap.size ≤ w3.heap.size) := Nat.le_trans HB.out.size hE3.size
        have HB3 : Hid (∀ o, Below w1.heap.size w1 (w3.alloc o)) := fun o => (HB.out.trans (HE3.out.mono HB.out.size)).alloc HBs.out _
        clear hw3 hE3 g0
        go_wp2_with (first | (at_builtin; refine app1 rfl _ _ 50 54 rfl Tryz.underlying50 info_Smp w1.heap.size _ r y rfl (hO3.alloc _) w3.heap.size 0 1 rfl (Cell4.new _ y _ _ rfl) ?y1 ?y2 ?_) | fail)
        case y1 => have := HLr.out; omega
        case y2 => have := HBs.out; simp; omega
        · intro v' w4 hown2 hg hloc
          go_wp2_with fail
          go_roundw
          case rel => exact ⟨k + 1, r ++ [y], by omega, by go_num, hown2, HF2.out, by show _ ≤ _; have := HLr.out; simp; omega, (HB3.out _).grown hg (by have := HBs.out; simp; omega) (fun g hg' => (hO3.blk hg').1)⟩
          case measure => simp [intOf]; omega
      · have g0 : ((k : Int) + 1 == (n : Int)) = false := by rw [beq_eq_false_iff_ne]; omega
        have g1 : (k : Int) + 1 < (n : Int) := by omega
        have g2 : ((k : Int) + 1).toNat = k + 1 := by omega
        have HZ := Lib.hid hz
        obtain ⟨p, hp⟩ : ∃ p, p = decide (ivl y.1 d = ivl z.1 d) := ⟨_, rfl⟩
        have hne : ((ivl y.1 d != ivl z.1 d)) = !p := by rw [hp]; by_cases h : ivl y.1 d = ivl z.1 d <;> simp [h]
        have HP := Lib.hid hp
        clear hp hz
        obtain ⟨c0, -⟩ := HCY.out
        obtain ⟨d0, -⟩ := hcz
        go_wp2_with fail
        go_quiet ((go_at_call 85; exact quiet_left (KI.out _ _)))
        obtain ⟨w3, hw3⟩ : ∃ w3, w3 = wr.drewN nq := ⟨_, rfl⟩
        rw [← hw3]
        have hE3 : Ext wr w3 := by rw [hw3]; exact (Ext.refl wr).drewN nq
        have HE3 := Lib.hid hE3.below
        have HBs : Hid (w1.heap.size ≤ w3.heap.size) := Nat.le_trans HB.out.size hE3.size
        have HB3 : Hid (Below w1.heap.size w1 w3) := HB.out.trans (HE3.out.mono HB.out.size)
        have hO3 := HO.out.below hE3.below
        have HCY3 : Hid (Cell4 w3 b (o + k * 4) y) := HCY.out.ext hE3.below
        clear hw3 hE3 g0 c0 d0 g1 g2
        cases p with
        | true =>
          have HF2 : Hid (r ++ lasts d (s.drop (k + 1)) = lasts d s) := by
            show _ = _
            rw [← HF.out, HD.out, HZ.out, lasts, if_pos (of_decide_eq_true HP.out.symm)]
          go_wp2_with fail
          go_roundw
          case rel => exact ⟨k + 1, r, by omega, by go_num, hO3, HF2.out, by show _ ≤ _; have := HLr.out; omega, HB3.out⟩
          case measure => simp [intOf]; omega
        | false =>
          have HF2 : Hid ((r ++ [y]) ++ lasts d (s.drop (k + 1)) = lasts d s) := by
            show _ = _
            rw [← HF.out, HD.out, HZ.out, lasts, if_neg (of_decide_eq_false HP.out.symm)]
            simp
          obtain ⟨c0, c1, c2, c3⟩ := HCY3.out
          have HB4 : Hid (∀ o, Below w1.heap.size w1 (w3.alloc o)) := fun o => HB3.out.alloc HBs.out _
          go_wp2_with (first | (at_builtin; refine app1 rfl _ _ 50 54 rfl Tryz.underlying50 info_Smp w1.heap.size _ r y rfl (hO3.alloc _) w3.heap.size 0 1 rfl (Cell4.new _ y _ _ rfl) ?y1 ?y2 ?_) | fail)
          case y1 => have := HLr.out; omega
          case y2 => have := HBs.out; simp; omega
          · intro v' w4 hown2 hg hloc
            go_wp2_with fail
            go_roundw
            case rel => exact ⟨k + 1, r ++ [y], by omega, by go_num, hown2, HF2.out, by show _ ≤ _; have := HLr.out; simp; omega, (HB4.out _).grown hg (by have := HBs.out; simp; omega) (fun g hg' => (hO3.blk hg').1)⟩
            case measure => simp [intOf]; omega
    · obtain rfl : n = k := by omega
      have HF2 : Hid (r = dedupS d l) := by
        show _ = _
        rw [dedupS_lasts, ← HS.out, ← HF.out, List.drop_of_length_le (by rw [← HN.out]; exact Nat.le_refl _)]
        simp [lasts]
      have HO := Lib.hid hown
      clear hown
      go_wp2_with fail
      go_ret
      exact ⟨_, rfl, HF2.out ▸ HO.out.lower HB1.out.size, HB1.out.trans (HB.out.mono HB1.out.size)⟩
end Go.Proofs.YtkgcbeokfilehaaGreatDoor

namespace Go.Proofs.YtkgcbeokfilehaaGreatDoor
open Go.RowKit Go.ChangeShapes Go.WideShapes Go.ChangeAt Go.Deep

/-- What a row's list says of one of its variables. -/
theorem laid_at {P : Program} {w : World} : ∀ {l : List (String × DataW Unit)} {ps : List MemPlace}, DataW.LaidVars P w l ps → ∀ {n : String} {d : DataW Unit}, (n, d) ∈ l →
    ∃ g t cs fuel p, P.globalNamed n = some g ∧ (P.globals[g]?).map (·.type) = some t ∧ w.var? P n = some cs ∧ DataW.trod (fun _ => ()) P w 0 (fun _ => true) false fuel t cs.toList = some (d, p)
  | [], _, _, _, _, h => by cases h
  | (n0, d0) :: r, ps, hL, n, d, h => by
    obtain ⟨g, t, cs, fuel, p, q, h1, h2, h3, h4, h5, _⟩ := hL
    rcases List.mem_cons.1 h with e | h
    · injection e with e1 e2
      subst e1 e2
      exact ⟨g, t, cs, fuel, p, h1, h2, h3, h4⟩
    · exact laid_at h5 h
theorem trod_float {H : Type} {enc : TypeId × Value → H} {P : Program} {w : World} {base fuel : Nat} {sp : Nat → Bool} {held : Bool} {t : TypeId} {cs : List Value} {x : DataW H × List MemPlace} {k : FloatKind} (ht : P.underlying t = some (.float k))
    (h : DataW.trod enc P w base sp held fuel t cs = some x) : ∃ b, cs = [.float k b] ∧ x.1 = .lit (.float k b) := by
  cases fuel with
  | zero => simp [DataW.trod] at h
  | succ n =>
    unfold DataW.trod at h
    rw [ht] at h
    split at h <;> simp_all
    rw [← h.2]

section
variable {W : World} {l : List (String × DataW Unit)} {ps : List MemPlace} (hL : DataW.LaidVars Tryz.prog W l ps)
include hL
theorem tb_info (hm : ("internal/strconv.float64info", Rows.laid_internal_strconv_float64info) ∈ l) : W.cell? ⟨9, 0, none⟩ = some (.int .u64 52) := by
  obtain ⟨g, t, cs, fuel, p, hg, ht, hv, hd⟩ := laid_at hL hm
  obtain rfl := Option.some.inj ((show Tryz.prog.globalNamed "internal/strconv.float64info" = some 9 by kernel_rfl).symm.trans hg)
  obtain rfl := Option.some.inj ((show (Tryz.prog.globals[9]?).map (·.type) = some 265 by kernel_rfl).symm.trans ht)
  obtain ⟨xs, m, _, ex, _, hl, hel⟩ := DataW.trod_struct Tryz.underlying265 hd
  have h0 := hel 0 ⟨"mantbits", 122, 0, false, "", "internal/strconv", 0⟩ rfl
  have hx0 : (xs.map (·.1))[0]? = some (.lit (.int .u64 52)) := by rw [← DataW.agg.inj (Prod.mk.inj ex).1]; rfl
  rw [List.getElem?_map] at hx0
  obtain ⟨y, hy, hy1⟩ := Option.map_eq_some_iff.1 hx0
  rw [hy] at h0
  obtain ⟨z, e1, e2, _⟩ := DataW.trod_int Tryz.underlying122 h0
  rw [e2] at hy1
  have hz : z = 52 := by simpa using hy1
  subst hz
  rw [World.var?_cell hg hv 0]
  have c1 : Tryz.prog.cellsOf 122 = 1 := by kernel_rfl
  rw [c1] at e1
  have h3 : ((cs.toList.drop 0).take 1)[0]? = some (.int .u64 52) := by rw [e1]; rfl
  simpa using h3
theorem tb_opt (hm : ("internal/strconv.optimize", Rows.laid_internal_strconv_optimize) ∈ l) : W.cell? ⟨8, 0, none⟩ = some (.bool true) := by
  obtain ⟨g, t, cs, fuel, p, hg, ht, hv, hd⟩ := laid_at hL hm
  obtain rfl := Option.some.inj ((show Tryz.prog.globalNamed "internal/strconv.optimize" = some 8 by kernel_rfl).symm.trans hg)
  obtain rfl := Option.some.inj ((show (Tryz.prog.globals[8]?).map (·.type) = some 4 by kernel_rfl).symm.trans ht)
  obtain ⟨b, e1, e2⟩ := DataW.trod_bool Tryz.underlying4 hd
  have : b = true := by
    have := (Prod.mk.inj e2).1
    injection this with this
    injection this with this
    exact this.symm
  subst this
  rw [World.var?_cell hg hv 0]
  have h3 : cs.toList[0]? = some (.bool true) := by rw [e1]; rfl
  simpa using h3
theorem tb_u64 (hm : ("internal/strconv.uint64pow10", Rows.laid_internal_strconv_uint64pow10) ∈ l) : Lib.TabIs Tryz.prog W "internal/strconv.uint64pow10" .u64 Lib.pow10Tab := by
  obtain ⟨g, t, cs, fuel, p, hg, ht, hv, hd⟩ := laid_at hL hm
  obtain rfl := Option.some.inj ((show Tryz.prog.globalNamed "internal/strconv.uint64pow10" = some 6 by kernel_rfl).symm.trans hg)
  obtain rfl := Option.some.inj ((show (Tryz.prog.globals[6]?).map (·.type) = some 254 by kernel_rfl).symm.trans ht)
  unfold Lib.TabIs
  rw [hv, ← Lib.cells_of_tab (zs := Lib.pow10Tab) Tryz.underlying254 Tryz.underlying153 (by kernel_rfl) (by kernel_rfl) hd]
theorem tb_tab (hm : ("internal/strconv.pow10Tab", Rows.laid_internal_strconv_pow10Tab) ∈ l) (P : Nat) (hP : P < 696) :
    W.cell? ⟨15, P * 2, none⟩ = some (.int .u64 (tabHi P)) ∧ W.cell? ⟨15, P * 2 + 1, none⟩ = some (.int .u64 (tabLo P)) := by
  obtain ⟨g, t, cs, fuel, p, hg, ht, hv, hd⟩ := laid_at hL hm
  obtain rfl := Option.some.inj ((show Tryz.prog.globalNamed "internal/strconv.pow10Tab" = some 15 by kernel_rfl).symm.trans hg)
  obtain rfl := Option.some.inj ((show (Tryz.prog.globals[15]?).map (·.type) = some 306 by kernel_rfl).symm.trans ht)
  obtain ⟨xs, m, _, ex, hcl, hl, hel⟩ := DataW.trod_array Tryz.underlying306 hd
  have c2 : Tryz.prog.cellsOf 305 = 2 := by kernel_rfl
  have c1 : Tryz.prog.cellsOf 153 = 1 := by kernel_rfl
  have hlen : Go.Pinned.pow10Rows.length = 696 := by kernel_rfl
  have hE := hel P hP
  rw [c2] at hE
  have e3 : xs.map (·.1) = Go.Pinned.pow10Rows.map fun x => (.agg [.lit (.int .u64 x.1), .lit (.int .u64 x.2)] : DataW Unit) := (DataW.agg.inj (Prod.mk.inj ex).1).symm
  have e4 : (xs.map (·.1))[P]? = some (.agg [.lit (.int .u64 (tabHi P)), .lit (.int .u64 (tabLo P))]) := by
    rw [e3, List.getElem?_map, List.getElem?_eq_getElem (by omega : P < Go.Pinned.pow10Rows.length)]
    unfold tabHi tabLo
    rw [List.getD, List.getElem?_eq_getElem (by omega : P < Go.Pinned.pow10Rows.length)]
    rfl
  rw [List.getElem?_map] at e4
  obtain ⟨y, hy, hy1⟩ := Option.map_eq_some_iff.1 e4
  rw [hy] at hE
  obtain ⟨ys, m2, _, ey, _, hly, hely⟩ := DataW.trod_struct Tryz.underlying305 hE
  rw [ey] at hy1
  have hys := DataW.agg.inj hy1
  have f0 := hely 0 _ rfl
  have f1 := hely 1 _ rfl
  have y0 : (ys.map (·.1))[0]? = some (.lit (.int .u64 (tabHi P))) := by rw [hys]; rfl
  have y1 : (ys.map (·.1))[1]? = some (.lit (.int .u64 (tabLo P))) := by rw [hys]; rfl
  rw [List.getElem?_map] at y0 y1
  obtain ⟨u0, hu0, k0⟩ := Option.map_eq_some_iff.1 y0
  obtain ⟨u1, hu1, k1⟩ := Option.map_eq_some_iff.1 y1
  rw [hu0] at f0
  rw [hu1] at f1
  obtain ⟨z0, a0, b0, _⟩ := DataW.trod_int Tryz.underlying153 f0
  obtain ⟨z1, a1, b1, _⟩ := DataW.trod_int Tryz.underlying153 f1
  rw [b0] at k0
  rw [b1] at k1
  injection k0 with k0
  injection k0 with _ k0
  injection k1 with k1
  injection k1 with _ k1
  have a0 : (((cs.toList.drop (P * 2)).take 2).drop 0).take (Tryz.prog.cellsOf 153) = [.int .u64 z0] := a0
  have a1 : (((cs.toList.drop (P * 2)).take 2).drop 1).take (Tryz.prog.cellsOf 153) = [.int .u64 z1] := a1
  rw [c1] at a0 a1
  subst k0 k1
  have g0 : (((cs.toList.drop (P * 2)).take 2).drop 0).take 1 = [.int .u64 (tabHi P)] := a0
  have g1 : (((cs.toList.drop (P * 2)).take 2).drop 1).take 1 = [.int .u64 (tabLo P)] := a1
  have h0 : ((((cs.toList.drop (P * 2)).take 2).drop 0).take 1)[0]? = some (.int .u64 (tabHi P)) := by rw [g0]; rfl
  have h1 : ((((cs.toList.drop (P * 2)).take 2).drop 1).take 1)[0]? = some (.int .u64 (tabLo P)) := by rw [g1]; rfl
  rw [World.var?_cell hg hv, World.var?_cell hg hv]
  constructor
  · simpa [List.getElem?_take, List.getElem?_drop] using h0
  · simpa [List.getElem?_take, List.getElem?_drop] using h1
theorem tb_pow (hm : ("internal/strconv.float64pow10", Rows.laid_internal_strconv_float64pow10) ∈ l) :
    ∃ pb po pc, W.cell? ⟨12, 0, none⟩ = some (.slice (some ⟨pb, po, none⟩) 23 pc) ∧ ∀ i, i ≤ 22 → W.cell? ⟨pb, po + i, none⟩ = some (.float .f64 (P10.getD i 0)) := by
  obtain ⟨g, t, cs, fuel, p, hg, ht, hv, hd⟩ := laid_at hL hm
  obtain rfl := Option.some.inj ((show Tryz.prog.globalNamed "internal/strconv.float64pow10" = some 12 by kernel_rfl).symm.trans hg)
  obtain rfl := Option.some.inj ((show (Tryz.prog.globals[12]?).map (·.type) = some 300 by kernel_rfl).symm.trans ht)
  have hP : (Rows.laid_internal_strconv_float64pow10 : DataW Unit) = .slice (P10.map fun b => .lit (.float .f64 b)) [] := rfl
  rw [hP] at hd
  rcases open_slice1 Tryz.underlying300 (by kernel_rfl) hd with ⟨_, h0⟩ | ⟨a, len, cap, m, n, V, D, Pl, e1, _, hlc, _, hm2, hx, hel⟩
  · exact absurd (Prod.mk.inj h0).1 (by simp)
  · have hx1 := (Prod.mk.inj hx).1
    injection hx1 with hx1 _
    have hlen : len = 23 := by
      have := congrArg List.length hx1
      simp [P10] at this; omega
    have hm3 : m = cap := by rw [hm2]; rfl
    subst hlen
    have hPl : P10.length = 23 := rfl
    have hcell : ∀ i, i ≤ 22 → W.cell? (a.add i) = some (.float .f64 (P10.getD i 0)) := by
      intro i hi
      obtain ⟨k1, k2⟩ := hel i (by omega)
      obtain ⟨f, f1, f2⟩ := trod_float Tryz.underlying210 k2
      have hD : ((List.range 23).map D)[i]? = some (D i) := by rw [List.getElem?_map, List.getElem?_range (by omega)]; rfl
      rw [← hx1, List.getElem?_map, List.getElem?_eq_getElem (by omega : i < P10.length)] at hD
      simp only [Option.map_some, Option.some.injEq] at hD
      rw [← hD] at f2
      injection f2 with f2
      injection f2 with _ f2
      injection f1 with f1 _
      rw [k1, f1, ← f2, List.getD, List.getElem?_eq_getElem (by omega : i < P10.length)]; rfl
    obtain ⟨pb, po, sp⟩ := a
    have hsp : sp = none := by simpa [Addr.add] using World.cell?_spot (hcell 0 (by omega))
    subst hsp
    refine ⟨pb, po, cap, ?_, fun i hi => ?_⟩
    · rw [World.var?_cell hg hv 0]
      have h3 : cs.toList[0]? = some (.slice (some ⟨pb, po, none⟩) 23 cap) := by rw [e1]; rfl
      simpa using h3
    · have := hcell i hi
      have e : (⟨pb, po, none⟩ : Addr).add i = ⟨pb, po + i, none⟩ := by unfold Addr.add; split <;> simp_all
      rwa [e] at this
end
end Go.Proofs.YtkgcbeokfilehaaGreatDoor

namespace Go.Proofs.YtkgcbeokfilehaaGreatDoor
open Go.RowKit Go.ChangeShapes Go.WideShapes Go.ChangeAt

/-- The list that each row bears. -/
def lst : List (String × DataW Unit) := Rows.oracleOrderRow.laid
theorem tabs_laid {W : World} (h : laidMetH Tryz.prog lst W) : Tabs W := by
  rw [MakeChecks.laidMetH_plain _ _ _ (by kernel_rfl)] at h
  obtain ⟨ps, hL, _⟩ := h
  have hm : ∀ x, x ∈ [("internal/strconv.float64info", Rows.laid_internal_strconv_float64info), ("internal/strconv.optimize", Rows.laid_internal_strconv_optimize), ("internal/strconv.float64pow10", Rows.laid_internal_strconv_float64pow10), ("internal/strconv.uint64pow10", Rows.laid_internal_strconv_uint64pow10), ("internal/strconv.pow10Tab", Rows.laid_internal_strconv_pow10Tab)] → x ∈ lst := by
    intro x hx
    unfold lst Rows.oracleOrderRow
    simp only [List.mem_cons, List.not_mem_nil, or_false] at hx ⊢
    rcases hx with h | h | h | h | h <;> simp only [h, true_or, or_true]
  have m1 := hm _ (.head _)
  have m2 := hm _ (.tail _ (.head _))
  have m3 := hm _ (.tail _ (.tail _ (.head _)))
  have m4 := hm _ (.tail _ (.tail _ (.tail _ (.head _))))
  have m5 := hm _ (.tail _ (.tail _ (.tail _ (.tail _ (.head _)))))
  exact ⟨tb_info hL m1, tb_opt hL m2, tb_pow hL m3, fun P hP => (tb_tab hL m5 P hP).1, fun P hP => (tb_tab hL m5 P hP).2, tb_u64 hL m4⟩
theorem own : ownKnob Tryz.prog.godebug = none := by kernel_rfl

section
variable {H : Type} {enc : TypeId × Value → H} {P : Program}
/-- What the row asks behind a call that wrote into new memory alone. -/
theorem post_below {f : Func} {s : ChangeSpec} {apart fresh handsOn again : Bool} {W W' : World} {args : Array Value} {v : Value} {ds gs : List (DataW H)} {before pa pv : List MemPlace}
    (hW : DataW.Whole enc P f.params.toList s.vars apart W args.toList ds gs before)
    (hres : ∀ (b : Nat) (sp : Nat → Bool) (hd : Bool), DataW.TrodAll enc P W' b sp hd f.resultTypes.toList (v.resultList f.resultTypes.size) (s.fn H (ds ++ gs)).results [])
    (hargs : ∀ sp : Nat → Bool, (∀ p ∈ before, sp p.block = true) → DataW.TrodAll enc P W' 0 sp true f.params.toList args.toList (s.fn H (ds ++ gs)).args pa)
    (hvars : ∀ sp : Nat → Bool, (∀ p ∈ before, sp p.block = true) → DataW.TrodVars enc P W' sp s.vars (s.fn H (ds ++ gs)).vars pv)
    (hps : before = pa ++ pv) (hB : Below W.heap.size W W')
    (hok : ∀ (j : Nat) (t : TypeId) (r : Value), f.resultTypes[j]? = some t → (v.resultList f.resultTypes.size)[j]? = some r → Value.okWide P W' .any 0 t r) :
    s.post enc P f apart fresh handsOn again W args v W' := by
  have hlt : ∀ p ∈ before, p.block < W.heap.size := fun p hp => hW.lt p hp
  have hold : ∀ p ∈ before, (fun b => decide (b < W.heap.size)) p.block = true := fun p hp => by simpa using hlt p hp
  refine ⟨ds, gs, before, [], pa, pv, hW, hres _ _ _, hargs _ hold, hvars _ hold, hB.frame _, fun _ => ?_⟩
  obtain ⟨_, _, _, _, _, hz, hn⟩ := hW
  refine ⟨hok, _, _, ([] ++ pa) ++ pv, ⟨[] ++ pa, pv, trodAll_append (hargs _ (fun _ _ => rfl)) (hres _ _ _), hvars _ (fun _ _ => rfl), rfl, ?_, ?_⟩, ?_⟩
  · intro b off hp
    have hp' : MemPlace.cell b off ∈ before := by rw [hps]; simpa using hp
    rw [hB.frozen (hlt _ hp')]
    exact hz b off hp'
  · intro ha
    have := hn ha
    rw [hps] at this
    simpa using this
  · intro p hp _
    rw [hps]
    simpa using hp
end
end Go.Proofs.YtkgcbeokfilehaaGreatDoor
