import Derived.Test.YtkgcbeokfilehaaGreatDoorRgd
import Derived.Test.YtkgcbeokfilehaaGreatDoorRdd
import Derived.Test.YtkgcbeokfilehaaGreatDoorAtd
import Derived.Test.YtkgcbeokfilehaaGreatDoorRows
import Derived.OpenShut
import Derived.Deep.Slices
import Derived.MakeChecks
import Derived.Stop.Joined
import Derived.Test.YtkgcbeokfilehaaGreatDoorCards
import Derived.Test.YtkgcbeokfilehaaGreatDoorTie
import Derived.WalkKit
import Derived.ProofKit
import Derived.LaidMore
import Derived.Lay
import Derived.SevenTiedAt
import Derived.Below
import Derived.ChangeSame
import Derived.Test.YtkgcbeokfilehaaGreatDoorAncd
import Derived.Carry
import Derived.Deep.RegionHeld3
namespace Go.Proofs.YtkgcbeokfilehaaGreatDoor
open Go.RowKit Go.Sort

theorem tot_right (l : List Smp) : Tot (l.filter rightS) := by
  intro a ha b hb h1 h2
  rw [List.mem_filter] at ha hb
  have ra := ha.2
  have rb := hb.2
  unfold rightS at ra rb
  rw [Bool.and_eq_true] at ra rb
  unfold ltS Smp.bits at h1 h2
  obtain ⟨at_, am, ax, as_⟩ := a
  obtain ⟨bt, bm, bx, bs⟩ := b
  simp only at *
  obtain ⟨e1, e2, e3⟩ := bitsV_inj ra.2 rb.2 (by omega)
  have e4 : at_ = bt := by omega
  rw [e1, e2, e3, e4]
/-- Each once, in order. -/
theorem sortS_strict' (l : List Smp) : (sortS l).Pairwise ltS := sortS_strict l (tot_right l)

end Go.Proofs.YtkgcbeokfilehaaGreatDoor

namespace Go.Proofs.YtkgcbeokfilehaaGreatDoor
open Go.RowKit Go.ChangeShapes Go.WideShapes Go.ChangeAt Go.Deep

/-- What a row's list says of one of its variables. -/
theorem laid_at {P : Program} {w : World} : ∀ {l : List (String × DataW Unit)} {ps : List MemPlace}, DataW.LaidVars P w l ps → ∀ {n : String} {d : DataW Unit}, (n, d) ∈ l →
    ∃ g t cs fuel p, P.globalNamed n = some g ∧ (P.globals[g]?).map (·.type) = some t ∧ w.var? P n = some cs ∧ DataW.trod (fun _ => ()) P w 0 (fun _ => true) false fuel t cs.toList = some (d, p)
  | [], _, _, _, _, h => by cases h
  | (n0, d0) :: r, ps, hL, n, d, h => by
    obtain ⟨g, t, cs, fuel, p, q, h1, h2, h3, h4, h5, _⟩ := hL
    rcases List.mem_cons.1 h with e | h
    · injection e with e1 e2
      subst e1 e2
      exact ⟨g, t, cs, fuel, p, h1, h2, h3, h4⟩
    · exact laid_at h5 h
theorem trod_float {H : Type} {enc : TypeId × Value → H} {P : Program} {w : World} {base fuel : Nat} {sp : Nat → Bool} {held : Bool} {t : TypeId} {cs : List Value} {x : DataW H × List MemPlace} {k : FloatKind} (ht : P.underlying t = some (.float k))
    (h : DataW.trod enc P w base sp held fuel t cs = some x) : ∃ b, cs = [.float k b] ∧ x.1 = .lit (.float k b) := by
  cases fuel with
  | zero => simp [DataW.trod] at h
  | succ n =>
    unfold DataW.trod at h
    rw [ht] at h
    split at h <;> simp_all
    rw [← h.2]

section
variable {W : World} {l : List (String × DataW Unit)} {ps : List MemPlace} (hL : DataW.LaidVars Tryz.prog W l ps)
include hL
theorem tb_info (hm : ("internal/strconv.float64info", Rows.laid_internal_strconv_float64info) ∈ l) : W.cell? ⟨9, 0, none⟩ = some (.int .u64 52) := by
  obtain ⟨g, t, cs, fuel, p, hg, ht, hv, hd⟩ := laid_at hL hm
  obtain rfl := Option.some.inj ((show Tryz.prog.globalNamed "internal/strconv.float64info" = some 9 by kernel_rfl).symm.trans hg)
  obtain rfl := Option.some.inj ((show (Tryz.prog.globals[9]?).map (·.type) = some 265 by kernel_rfl).symm.trans ht)
  obtain ⟨xs, m, _, ex, _, hl, hel⟩ := DataW.trod_struct Tryz.underlying265 hd
  have h0 := hel 0 ⟨"mantbits", 122, 0, false, "", "internal/strconv", 0⟩ rfl
  have hx0 : (xs.map (·.1))[0]? = some (.lit (.int .u64 52)) := by rw [← DataW.agg.inj (Prod.mk.inj ex).1]; rfl
  rw [List.getElem?_map] at hx0
  obtain ⟨y, hy, hy1⟩ := Option.map_eq_some_iff.1 hx0
  rw [hy] at h0
  obtain ⟨z, e1, e2, _⟩ := DataW.trod_int Tryz.underlying122 h0
  rw [e2] at hy1
  have hz : z = 52 := by simpa using hy1
  subst hz
  rw [World.var?_cell hg hv 0]
  have c1 : Tryz.prog.cellsOf 122 = 1 := by kernel_rfl
  rw [c1] at e1
  have h3 : ((cs.toList.drop 0).take 1)[0]? = some (.int .u64 52) := by rw [e1]; rfl
  simpa using h3
theorem tb_opt (hm : ("internal/strconv.optimize", Rows.laid_internal_strconv_optimize) ∈ l) : W.cell? ⟨8, 0, none⟩ = some (.bool true) := by
  obtain ⟨g, t, cs, fuel, p, hg, ht, hv, hd⟩ := laid_at hL hm
  obtain rfl := Option.some.inj ((show Tryz.prog.globalNamed "internal/strconv.optimize" = some 8 by kernel_rfl).symm.trans hg)
  obtain rfl := Option.some.inj ((show (Tryz.prog.globals[8]?).map (·.type) = some 4 by kernel_rfl).symm.trans ht)
  obtain ⟨b, e1, e2⟩ := DataW.trod_bool Tryz.underlying4 hd
  have : b = true := by
    have := (Prod.mk.inj e2).1
    injection this with this
    injection this with this
    exact this.symm
  subst this
  rw [World.var?_cell hg hv 0]
  have h3 : cs.toList[0]? = some (.bool true) := by rw [e1]; rfl
  simpa using h3
theorem tb_u64 (hm : ("internal/strconv.uint64pow10", Rows.laid_internal_strconv_uint64pow10) ∈ l) : Lib.TabIs Tryz.prog W "internal/strconv.uint64pow10" .u64 Lib.pow10Tab := by
  obtain ⟨g, t, cs, fuel, p, hg, ht, hv, hd⟩ := laid_at hL hm
  obtain rfl := Option.some.inj ((show Tryz.prog.globalNamed "internal/strconv.uint64pow10" = some 6 by kernel_rfl).symm.trans hg)
  obtain rfl := Option.some.inj ((show (Tryz.prog.globals[6]?).map (·.type) = some 254 by kernel_rfl).symm.trans ht)
  unfold Lib.TabIs
  rw [hv, ← Lib.cells_of_tab (zs := Lib.pow10Tab) Tryz.underlying254 Tryz.underlying153 (by kernel_rfl) (by kernel_rfl) hd]
theorem tb_tab (hm : ("internal/strconv.pow10Tab", Rows.laid_internal_strconv_pow10Tab) ∈ l) (P : Nat) (hP : P < 696) :
    W.cell? ⟨15, P * 2, none⟩ = some (.int .u64 (tabHi P)) ∧ W.cell? ⟨15, P * 2 + 1, none⟩ = some (.int .u64 (tabLo P)) := by
  obtain ⟨g, t, cs, fuel, p, hg, ht, hv, hd⟩ := laid_at hL hm
  obtain rfl := Option.some.inj ((show Tryz.prog.globalNamed "internal/strconv.pow10Tab" = some 15 by kernel_rfl).symm.trans hg)
  obtain rfl := Option.some.inj ((show (Tryz.prog.globals[15]?).map (·.type) = some 306 by kernel_rfl).symm.trans ht)
  obtain ⟨xs, m, _, ex, hcl, hl, hel⟩ := DataW.trod_array Tryz.underlying306 hd
  have c2 : Tryz.prog.cellsOf 305 = 2 := by kernel_rfl
  have c1 : Tryz.prog.cellsOf 153 = 1 := by kernel_rfl
  have hlen : Go.Pinned.pow10Rows.length = 696 := by kernel_rfl
  have hE := hel P hP
  rw [c2] at hE
  have e3 : xs.map (·.1) = Go.Pinned.pow10Rows.map fun x => (.agg [.lit (.int .u64 x.1), .lit (.int .u64 x.2)] : DataW Unit) := (DataW.agg.inj (Prod.mk.inj ex).1).symm
  have e4 : (xs.map (·.1))[P]? = some (.agg [.lit (.int .u64 (tabHi P)), .lit (.int .u64 (tabLo P))]) := by
    rw [e3, List.getElem?_map, List.getElem?_eq_getElem (by omega : P < Go.Pinned.pow10Rows.length)]
    unfold tabHi tabLo
    rw [List.getD, List.getElem?_eq_getElem (by omega : P < Go.Pinned.pow10Rows.length)]
    rfl
  rw [List.getElem?_map] at e4
  obtain ⟨y, hy, hy1⟩ := Option.map_eq_some_iff.1 e4
  rw [hy] at hE
  obtain ⟨ys, m2, _, ey, _, hly, hely⟩ := DataW.trod_struct Tryz.underlying305 hE
  rw [ey] at hy1
  have hys := DataW.agg.inj hy1
  have f0 := hely 0 _ rfl
  have f1 := hely 1 _ rfl
  have y0 : (ys.map (·.1))[0]? = some (.lit (.int .u64 (tabHi P))) := by rw [hys]; rfl
  have y1 : (ys.map (·.1))[1]? = some (.lit (.int .u64 (tabLo P))) := by rw [hys]; rfl
  rw [List.getElem?_map] at y0 y1
  obtain ⟨u0, hu0, k0⟩ := Option.map_eq_some_iff.1 y0
  obtain ⟨u1, hu1, k1⟩ := Option.map_eq_some_iff.1 y1
  rw [hu0] at f0
  rw [hu1] at f1
  obtain ⟨z0, a0, b0, _⟩ := DataW.trod_int Tryz.underlying153 f0
  obtain ⟨z1, a1, b1, _⟩ := DataW.trod_int Tryz.underlying153 f1
  rw [b0] at k0
  rw [b1] at k1
  injection k0 with k0
  injection k0 with _ k0
  injection k1 with k1
  injection k1 with _ k1
  have a0 : (((cs.toList.drop (P * 2)).take 2).drop 0).take (Tryz.prog.cellsOf 153) = [.int .u64 z0] := a0
  have a1 : (((cs.toList.drop (P * 2)).take 2).drop 1).take (Tryz.prog.cellsOf 153) = [.int .u64 z1] := a1
  rw [c1] at a0 a1
  subst k0 k1
  have g0 : (((cs.toList.drop (P * 2)).take 2).drop 0).take 1 = [.int .u64 (tabHi P)] := a0
  have g1 : (((cs.toList.drop (P * 2)).take 2).drop 1).take 1 = [.int .u64 (tabLo P)] := a1
  have h0 : ((((cs.toList.drop (P * 2)).take 2).drop 0).take 1)[0]? = some (.int .u64 (tabHi P)) := by rw [g0]; rfl
  have h1 : ((((cs.toList.drop (P * 2)).take 2).drop 1).take 1)[0]? = some (.int .u64 (tabLo P)) := by rw [g1]; rfl
  rw [World.var?_cell hg hv, World.var?_cell hg hv]
  constructor
  · simpa [List.getElem?_take, List.getElem?_drop] using h0
  · simpa [List.getElem?_take, List.getElem?_drop] using h1
theorem tb_pow (hm : ("internal/strconv.float64pow10", Rows.laid_internal_strconv_float64pow10) ∈ l) :
    ∃ pb po pc, W.cell? ⟨12, 0, none⟩ = some (.slice (some ⟨pb, po, none⟩) 23 pc) ∧ ∀ i, i ≤ 22 → W.cell? ⟨pb, po + i, none⟩ = some (.float .f64 (P10.getD i 0)) := by
  obtain ⟨g, t, cs, fuel, p, hg, ht, hv, hd⟩ := laid_at hL hm
  obtain rfl := Option.some.inj ((show Tryz.prog.globalNamed "internal/strconv.float64pow10" = some 12 by kernel_rfl).symm.trans hg)
  obtain rfl := Option.some.inj ((show (Tryz.prog.globals[12]?).map (·.type) = some 300 by kernel_rfl).symm.trans ht)
  have hP : (Rows.laid_internal_strconv_float64pow10 : DataW Unit) = .slice (P10.map fun b => .lit (.float .f64 b)) [] := rfl
  rw [hP] at hd
  rcases open_slice1 Tryz.underlying300 (by kernel_rfl) hd with ⟨_, h0⟩ | ⟨a, len, cap, m, n, V, D, Pl, e1, _, hlc, _, hm2, hx, hel⟩
  · exact absurd (Prod.mk.inj h0).1 (by simp)
  · have hx1 := (Prod.mk.inj hx).1
    injection hx1 with hx1 _
    have hlen : len = 23 := by
      have := congrArg List.length hx1
      simp [P10] at this; omega
    have hm3 : m = cap := by rw [hm2]; rfl
    subst hlen
    have hPl : P10.length = 23 := rfl
    have hcell : ∀ i, i ≤ 22 → W.cell? (a.add i) = some (.float .f64 (P10.getD i 0)) := by
      intro i hi
      obtain ⟨k1, k2⟩ := hel i (by omega)
      obtain ⟨f, f1, f2⟩ := trod_float Tryz.underlying210 k2
      have hD : ((List.range 23).map D)[i]? = some (D i) := by rw [List.getElem?_map, List.getElem?_range (by omega)]; rfl
      rw [← hx1, List.getElem?_map, List.getElem?_eq_getElem (by omega : i < P10.length)] at hD
      simp only [Option.map_some, Option.some.injEq] at hD
      rw [← hD] at f2
      injection f2 with f2
      injection f2 with _ f2
      injection f1 with f1 _
      rw [k1, f1, ← f2, List.getD, List.getElem?_eq_getElem (by omega : i < P10.length)]; rfl
    obtain ⟨pb, po, sp⟩ := a
    have hsp : sp = none := by simpa [Addr.add] using World.cell?_spot (hcell 0 (by omega))
    subst hsp
    refine ⟨pb, po, cap, ?_, fun i hi => ?_⟩
    · rw [World.var?_cell hg hv 0]
      have h3 : cs.toList[0]? = some (.slice (some ⟨pb, po, none⟩) 23 cap) := by rw [e1]; rfl
      simpa using h3
    · have := hcell i hi
      have e : (⟨pb, po, none⟩ : Addr).add i = ⟨pb, po + i, none⟩ := by unfold Addr.add; split <;> simp_all
      rwa [e] at this
end
end Go.Proofs.YtkgcbeokfilehaaGreatDoor

namespace Go.Proofs.YtkgcbeokfilehaaGreatDoor
open Go.RowKit Go.ChangeShapes Go.WideShapes Go.ChangeAt

/-- The list that each row bears. -/
def lst : List (String × DataW Unit) := Rows.oracleOrderRow.laid
theorem tabs_laid {W : World} (h : laidMetH Tryz.prog lst W) : Tabs W := by
  rw [MakeChecks.laidMetH_plain _ _ _ (by kernel_rfl)] at h
  obtain ⟨ps, hL, _⟩ := h
  have hm : ∀ x, x ∈ [("internal/strconv.float64info", Rows.laid_internal_strconv_float64info), ("internal/strconv.optimize", Rows.laid_internal_strconv_optimize), ("internal/strconv.float64pow10", Rows.laid_internal_strconv_float64pow10), ("internal/strconv.uint64pow10", Rows.laid_internal_strconv_uint64pow10), ("internal/strconv.pow10Tab", Rows.laid_internal_strconv_pow10Tab)] → x ∈ lst := by
    intro x hx
    unfold lst Rows.oracleOrderRow
    simp only [List.mem_cons, List.not_mem_nil, or_false] at hx ⊢
    rcases hx with h | h | h | h | h <;> simp only [h, true_or, or_true]
  have m1 := hm _ (.head _)
  have m2 := hm _ (.tail _ (.head _))
  have m3 := hm _ (.tail _ (.tail _ (.head _)))
  have m4 := hm _ (.tail _ (.tail _ (.tail _ (.head _))))
  have m5 := hm _ (.tail _ (.tail _ (.tail _ (.tail _ (.head _)))))
  exact ⟨tb_info hL m1, tb_opt hL m2, tb_pow hL m3, fun P hP => (tb_tab hL m5 P hP).1, fun P hP => (tb_tab hL m5 P hP).2, tb_u64 hL m4⟩
theorem own : ownKnob Tryz.prog.godebug = none := by kernel_rfl

section
variable {H : Type} {enc : TypeId × Value → H} {P : Program}
/-- What the row asks behind a call that wrote into new memory alone. -/
theorem post_below {f : Func} {s : ChangeSpec} {apart fresh handsOn again : Bool} {W W' : World} {args : Array Value} {v : Value} {ds gs : List (DataW H)} {before pa pv : List MemPlace}
    (hW : DataW.Whole enc P f.params.toList s.vars apart W args.toList ds gs before)
    (hres : ∀ (b : Nat) (sp : Nat → Bool) (hd : Bool), DataW.TrodAll enc P W' b sp hd f.resultTypes.toList (v.resultList f.resultTypes.size) (s.fn H (ds ++ gs)).results [])
    (hargs : ∀ sp : Nat → Bool, (∀ p ∈ before, sp p.block = true) → DataW.TrodAll enc P W' 0 sp true f.params.toList args.toList (s.fn H (ds ++ gs)).args pa)
    (hvars : ∀ sp : Nat → Bool, (∀ p ∈ before, sp p.block = true) → DataW.TrodVars enc P W' sp s.vars (s.fn H (ds ++ gs)).vars pv)
    (hps : before = pa ++ pv) (hB : Below W.heap.size W W')
    (hok : ∀ (j : Nat) (t : TypeId) (r : Value), f.resultTypes[j]? = some t → (v.resultList f.resultTypes.size)[j]? = some r → Value.okWide P W' .any 0 t r) :
    s.post enc P f apart fresh handsOn again W args v W' := by
  have hlt : ∀ p ∈ before, p.block < W.heap.size := fun p hp => hW.lt p hp
  have hold : ∀ p ∈ before, (fun b => decide (b < W.heap.size)) p.block = true := fun p hp => by simpa using hlt p hp
  refine ⟨ds, gs, before, [], pa, pv, hW, hres _ _ _, hargs _ hold, hvars _ hold, hB.frame _, fun _ => ?_⟩
  obtain ⟨_, _, _, _, _, hz, hn⟩ := hW
  refine ⟨hok, _, _, ([] ++ pa) ++ pv, ⟨[] ++ pa, pv, trodAll_append (hargs _ (fun _ _ => rfl)) (hres _ _ _), hvars _ (fun _ _ => rfl), rfl, ?_, ?_⟩, ?_⟩
  · intro b off hp
    have hp' : MemPlace.cell b off ∈ before := by rw [hps]; simpa using hp
    rw [hB.frozen (hlt _ hp')]
    exact hz b off hp'
  · intro ha
    have := hn ha
    rw [hps] at this
    simpa using this
  · intro p hp _
    rw [hps]
    simpa using hp
end
end Go.Proofs.YtkgcbeokfilehaaGreatDoor

namespace Go.Proofs.YtkgcbeokfilehaaGreatDoor
open Go.RowKit Go.ChangeShapes Go.WideShapes Go.ChangeAt Go.Deep

theorem len3 {l : List Value} (h : l.length = 3) : ∃ a b c, l = [a, b, c] := by
  cases l with
  | nil => simp at h
  | cons a l =>
    cases l with
    | nil => simp at h
    | cons b l =>
      cases l with
      | nil => simp at h
      | cons c l =>
        cases l with
        | nil => exact ⟨a, b, c, rfl⟩
        | cons d l => simp at h
section
variable {H : Type} {enc : TypeId × Value → H} {w : World} {base : Nat} {sp : Nat → Bool} {held : Bool}
theorem open_val {n : Nat} {cs : List Value} {x : DataW H × List MemPlace} (h : DataW.trod enc Tryz.prog w base sp held n 26 cs = some x) : ∃ m y s, cs = [.int .i64 m, .int .i64 y, .int .i64 s] := by
  obtain ⟨xs, k, _, _, hc, hxl, hf⟩ := DataW.trod_struct Tryz.underlying26 h
  have c3 : Tryz.prog.cellsOf 26 = 3 := by kernel_rfl
  have ci : Tryz.prog.cellsOf 2 = 1 := by kernel_rfl
  have cj : Tryz.prog.cellsOf 3 = 1 := by kernel_rfl
  rw [c3] at hc
  have g0 := hf 0 ⟨"M", 2, 0, false, "", "", 0⟩ rfl
  have g1 := hf 1 ⟨"E", 3, 1, false, "", "", 8⟩ rfl
  have g2 := hf 2 ⟨"S", 3, 2, false, "", "", 16⟩ rfl
  have hxl : xs.length = 3 := hxl
  rw [List.getElem?_eq_getElem (by omega)] at g0 g1 g2
  obtain ⟨m, e0, _⟩ := DataW.trod_int Tryz.underlying2 g0
  obtain ⟨y, e1, _⟩ := DataW.trod_int Tryz.underlying3 g1
  obtain ⟨s, e2, _⟩ := DataW.trod_int Tryz.underlying3 g2
  obtain ⟨a, b, c, rfl⟩ := len3 hc
  have e0 : ([a, b, c].drop 0).take (Tryz.prog.cellsOf 2) = [.int .i64 m] := e0
  have e1 : ([a, b, c].drop 1).take (Tryz.prog.cellsOf 3) = [.int .i64 y] := e1
  have e2 : ([a, b, c].drop 2).take (Tryz.prog.cellsOf 3) = [.int .i64 s] := e2
  rw [ci] at e0
  rw [cj] at e1 e2
  simp at e0 e1 e2
  exact ⟨m, y, s, by rw [e0, e1, e2]⟩
end
end Go.Proofs.YtkgcbeokfilehaaGreatDoor

namespace Go.Proofs.YtkgcbeokfilehaaGreatDoor
open Go.RowKit Go.Sort

theorem lasts_max (d : Int) : ∀ s : List Smp, s.Pairwise ltS → ∀ y ∈ s, ∃ z ∈ lasts d s, ivl z.1 d = ivl y.1 d ∧ ¬ ltS z y
  | [], _, y, h => by cases h
  | [a], _, y, h => by
    rw [List.mem_singleton] at h
    exact ⟨a, by simp [lasts], by rw [h], by rw [h]; exact ltS_irrefl a⟩
  | a :: b :: l, hp, y, h => by
    have p := List.pairwise_cons.1 hp
    have ih := lasts_max d (b :: l) p.2
    have hsub : ∀ z, z ∈ lasts d (b :: l) → z ∈ lasts d (a :: b :: l) := by
      intro z hz
      unfold lasts
      split
      · exact hz
      · exact List.mem_cons_of_mem _ hz
    rcases List.mem_cons.1 h with rfl | h
    · by_cases hi : ivl y.1 d = ivl b.1 d
      · obtain ⟨z, h1, h2, h3⟩ := ih b List.mem_cons_self
        exact ⟨z, hsub z h1, by rw [h2, hi], fun hlt => h3 (ltS_trans hlt (p.1 b List.mem_cons_self))⟩
      · refine ⟨y, ?_, rfl, ltS_irrefl y⟩
        unfold lasts
        rw [if_neg hi]; exact List.mem_cons_self
    · obtain ⟨z, h1, h2, h3⟩ := ih y h
      exact ⟨z, hsub z h1, h2, h3⟩
theorem pair_inj {f : Smp → Int} {s : List Smp} (h : s.Pairwise (fun a b => f a < f b)) : ∀ x ∈ s, ∀ y ∈ s, f x = f y → x = y := by
  induction s with
  | nil => intro x hx; cases hx
  | cons a s ih =>
    have p := List.pairwise_cons.1 h
    intro x hx y hy e
    rcases List.mem_cons.1 hx with hx1 | hx1
    · rcases List.mem_cons.1 hy with hy1 | hy1
      · rw [hx1, hy1]
      · have := p.1 y hy1; rw [hx1] at e; omega
    · rcases List.mem_cons.1 hy with hy1 | hy1
      · have := p.1 x hx1; rw [hy1] at e; omega
      · exact ih p.2 x hx1 y hy1 e
theorem le_of_strict {s : List Smp} (h : s.Pairwise ltS) : s.Pairwise (fun a b => ¬ ltS b a) := h.imp fun h => ltS_asymm h
theorem lasts_mem (d : Int) (s : List Smp) (h : s.Pairwise ltS) (x : Smp) : x ∈ lasts d s ↔ x ∈ s ∧ ∀ y ∈ s, ivl y.1 d = ivl x.1 d → ¬ ltS x y := by
  constructor
  · intro hx
    refine ⟨(lasts_sub d s).subset hx, fun y hy e => ?_⟩
    obtain ⟨z, h1, h2, h3⟩ := lasts_max d s h y hy
    have := pair_inj (f := fun s => ivl s.1 d) (lasts_strict d s (le_of_strict h)) x hx z h1 (by rw [h2, e])
    rw [this]; exact h3
  · rintro ⟨hx, hm⟩
    obtain ⟨z, h1, h2, h3⟩ := lasts_max d s h x hx
    have hz := (lasts_sub d s).subset h1
    have := strict_tot s h x hx z hz (hm z hz h2) h3
    rw [this]; exact h1
theorem dedup_mem (d : Int) (l : List Smp) (x : Smp) : x ∈ dedupS d l ↔ (x ∈ l ∧ rightS x = true) ∧ ∀ y, y ∈ l → rightS y = true → ivl y.1 d = ivl x.1 d → ¬ ltS x y := by
  rw [dedupS_lasts, lasts_mem d _ (sortS_strict' l), sortS_mem]
  constructor
  · rintro ⟨h1, h2⟩
    exact ⟨h1, fun y hy hr => h2 y ((sortS_mem l y).2 ⟨hy, hr⟩)⟩
  · rintro ⟨h1, h2⟩
    exact ⟨h1, fun y hy => h2 y ((sortS_mem l y).1 hy).1 ((sortS_mem l y).1 hy).2⟩
theorem dedup_max (d : Int) (l : List Smp) (y : Smp) (hy : y ∈ l) (hr : rightS y = true) : ∃ z ∈ dedupS d l, ivl z.1 d = ivl y.1 d ∧ ¬ ltS z y := by
  rw [dedupS_lasts]
  exact lasts_max d _ (sortS_strict' l) y ((sortS_mem l y).2 ⟨hy, hr⟩)
end Go.Proofs.YtkgcbeokfilehaaGreatDoor

/-
  A region that draws its order, walked in the text's order, operation by operation, where some are not wanted.
-/
namespace Go.Proofs.YtkgcbeokfilehaaGreatDoor
open Go
theorem sA {α : Type} (l : List α) (i : Nat) (a : α) : l.toArray.setIfInBounds i a = (l.set i a).toArray := List.setIfInBounds_toArray l i a
theorem sZ {α : Type} (x a : α) (l : List α) : (x :: l).set 0 a = a :: l := rfl
theorem sS {α : Type} (x a : α) (l : List α) (n : Nat) : (x :: l).set (n + 1) a = x :: l.set n a := rfl
section
variable {P : Program} {Q : Exit → Act → World → Prop} {md : Region.Mode} {S : World → Prop} {l : List Oper}
theorem get_drop {i : Nat} {oi : Oper} {rest : List Oper} (h : l.drop i = oi :: rest) : l.toArray[i]? = some oi := by
  have := congrArg (fun m : List Oper => m[0]?) h
  simpa using this
/-- One that is wanted, and only reads. -/
theorem takeW {i : Nat} {oi : Oper} {rest : List Oper} {v : Value} {fuel : Nat} {listed : Array Bool} {a : Act} {w : World} (hi : l.drop i = oi :: rest)
    (hs : Region.noSelect l.toArray = true) (hf : Region.free md l.toArray listed i = true) (hr : (Region.ready md l.toArray listed).contains i = true)
    (hQ : ∀ c a w, Q (.panic c) (a.put oi.dst v) w → Q (.panic c) a w) (hw : Region.wanted oi (yielded l.toArray a.tmps) = true) (hy : ∀ w, S w → (execOp a.eval oi).run P w = .ok (.value v) w) (hS : S w)
    (h : wpAnyH P md l.toArray Q S fuel (listed.setIfInBounds i true) (a.put oi.dst v) w) : wpAnyH P md l.toArray Q S (fuel + 1) listed a w :=
  wpAnyH_take (get_drop hi) hs hf hr hQ (.inl ⟨hw, hy⟩) hS h
/-- One that is not wanted. -/
theorem takeU {i : Nat} {oi : Oper} {rest : List Oper} {fuel : Nat} {listed : Array Bool} {a : Act} {w : World} (hi : l.drop i = oi :: rest)
    (hs : Region.noSelect l.toArray = true) (hf : Region.free md l.toArray listed i = true) (hr : (Region.ready md l.toArray listed).contains i = true)
    (hQ : ∀ c a w, Q (.panic c) (a.put oi.dst undef) w → Q (.panic c) a w) (hw : Region.wanted oi (yielded l.toArray a.tmps) = false) (hS : S w)
    (h : wpAnyH P md l.toArray Q S fuel (listed.setIfInBounds i true) (a.put oi.dst undef) w) : wpAnyH P md l.toArray Q S (fuel + 1) listed a w :=
  wpAnyH_take (get_drop hi) hs hf hr hQ (.inr ⟨hw, rfl⟩) hS h
/-- One that alone may come up. -/
theorem takeC {i : Nat} {oi : Oper} {rest : List Oper} {fuel : Nat} {listed : Array Bool} {a : Act} {w : World} (hi : l.drop i = oi :: rest) (hr : Region.ready md l.toArray listed = [i])
    (hw : Region.wanted oi (yielded l.toArray a.tmps) = true)
    (h : ∀ K : Act → World → Prop, Shut (∀ a' w', S w' → (S w' → wpAnyH P md l.toArray Q S fuel (listed.setIfInBounds i true) a' w') → K a' w') → oi.wp P a w K Q) : wpAnyH P md l.toArray Q S (fuel + 1) listed a w :=
  wpAnyH_ready hr (by simp) (AllReadyH.cons (get_drop hi) (fun K hK => by
    rw [if_pos hw]
    exact h K hK) AllReadyH.nil)
end
end Go.Proofs.YtkgcbeokfilehaaGreatDoor
