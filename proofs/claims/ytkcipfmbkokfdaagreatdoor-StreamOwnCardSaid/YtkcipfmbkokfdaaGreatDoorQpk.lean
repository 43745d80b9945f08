import Derived.Test.YtkcipfmbkokfdaaGreatDoorAnck
import Derived.Test.YtkcipfmbkokfdaaGreatDoorRwk
import Derived.Carry
import Derived.Test.YtkcipfmbkokfdaaGreatDoorProg
import Derived.Test.YtkcipfmbkokfdaaGreatDoorBasek
import Derived.Test.YtkcipfmbkokfdaaGreatDoorRightk
import Derived.Deep.Light
import Derived.Deep.RegionHeld3
namespace Go.Proofs.YtkcipfmbkokfdaaGreatDoor
open Go.RowKit Go.ChangeShapes Go.WideShapes Go.ChangeAt Go.Deep

theorem len3 {l : List Value} (h : l.length = 3) : ∃ a b c, l = [a, b, c] := by
  cases l with
  | nil => simp at h
  | cons a l =>
    cases l with
    | nil => simp at h
    | cons b l =>
      cases l with
      | nil => simp at h
      | cons c l =>
        cases l with
        | nil => exact ⟨a, b, c, rfl⟩
        | cons d l => simp at h
section
variable {H : Type} {enc : TypeId × Value → H} {w : World} {base : Nat} {sp : Nat → Bool} {held : Bool}
theorem open_val {n : Nat} {cs : List Value} {x : DataW H × List MemPlace} (h : DataW.trod enc Tryz.prog w base sp held n 50 cs = some x) : ∃ m y s, cs = [.int .i64 m, .int .i64 y, .int .i64 s] := by
  obtain ⟨xs, k, _, _, hc, hxl, hf⟩ := DataW.trod_struct Tryz.underlying50 h
  have c3 : Tryz.prog.cellsOf 50 = 3 := by kernel_rfl
  have ci : Tryz.prog.cellsOf 2 = 1 := by kernel_rfl
  have cj : Tryz.prog.cellsOf 3 = 1 := by kernel_rfl
  rw [c3] at hc
  have g0 := hf 0 ⟨"M", 2, 0, false, "", "", 0⟩ rfl
  have g1 := hf 1 ⟨"E", 3, 1, false, "", "", 8⟩ rfl
  have g2 := hf 2 ⟨"S", 3, 2, false, "", "", 16⟩ rfl
  have hxl : xs.length = 3 := hxl
  rw [List.getElem?_eq_getElem (by omega)] at g0 g1 g2
  obtain ⟨m, e0, _⟩ := DataW.trod_int Tryz.underlying2 g0
  obtain ⟨y, e1, _⟩ := DataW.trod_int Tryz.underlying3 g1
  obtain ⟨s, e2, _⟩ := DataW.trod_int Tryz.underlying3 g2
  obtain ⟨a, b, c, rfl⟩ := len3 hc
  have e0 : ([a, b, c].drop 0).take (Tryz.prog.cellsOf 2) = [.int .i64 m] := e0
  have e1 : ([a, b, c].drop 1).take (Tryz.prog.cellsOf 3) = [.int .i64 y] := e1
  have e2 : ([a, b, c].drop 2).take (Tryz.prog.cellsOf 3) = [.int .i64 s] := e2
  rw [ci] at e0
  rw [cj] at e1 e2
  simp at e0 e1 e2
  exact ⟨m, y, s, by rw [e0, e1, e2]⟩
theorem open_smp {n : Nat} {cs : List Value} {x : DataW H × List MemPlace} (h : DataW.trod enc Tryz.prog w base sp held n 52 cs = some x) : ∃ y : Smp, cs = encS y := by
  obtain ⟨xs, k, _, _, hc, hxl, hf⟩ := DataW.trod_struct Tryz.underlying52 h
  have c4 : Tryz.prog.cellsOf 52 = 4 := by kernel_rfl
  have c3 : Tryz.prog.cellsOf 50 = 3 := by kernel_rfl
  have ci : Tryz.prog.cellsOf 2 = 1 := by kernel_rfl
  rw [c4] at hc
  have g0 := hf 0 ⟨"T", 2, 0, false, "", "", 0⟩ rfl
  have g1 := hf 1 ⟨"V", 50, 1, false, "", "", 8⟩ rfl
  have hxl : xs.length = 2 := hxl
  rw [List.getElem?_eq_getElem (by omega)] at g0 g1
  obtain ⟨t, e0, _⟩ := DataW.trod_int Tryz.underlying2 g0
  obtain ⟨m, y, s, e1⟩ := open_val g1
  obtain ⟨a, r, rfl⟩ : ∃ a r, cs = a :: r := by
    cases cs with
    | nil => simp at hc
    | cons a r => exact ⟨a, r, rfl⟩
  obtain ⟨b, c, d, rfl⟩ := len3 (by simpa using hc : r.length = 3)
  have e0 : ([a, b, c, d].drop 0).take (Tryz.prog.cellsOf 2) = [.int .i64 t] := e0
  have e1 : ([a, b, c, d].drop 1).take (Tryz.prog.cellsOf 50) = [.int .i64 m, .int .i64 y, .int .i64 s] := e1
  rw [ci] at e0
  rw [c3] at e1
  simp at e0 e1
  exact ⟨(t, m, y, s), by rw [e0, e1.1, e1.2.1, e1.2.2]; rfl⟩
set_option maxRecDepth 100000 in
/-- A row of samples that came in. -/
theorem open_S {W : World} {v : Value} {d : DataW H} {p : List MemPlace} (hval : Value.okWide Tryz.prog W .any base 40 v) (h : DataW.Trod enc Tryz.prog W 0 (fun _ => true) true 40 v d p) :
    ∃ l, Rd W W.heap.size v l ∧ Nz v := by
  obtain ⟨fuel, hf⟩ := h
  obtain ⟨a', len', cap', rfl⟩ := okWide_slice Tryz.underlying40 hval
  have c4 : Tryz.prog.cellsOf 52 = 4 := by kernel_rfl
  rcases open_slice Tryz.underlying40 hf with ⟨h0, _⟩ | ⟨a, len, cap, m, n, D, Pl, h0, _, hlc, _, hm, _, hx⟩
  · simp [Value.cells] at h0
    obtain ⟨rfl, rfl, rfl⟩ := h0
    exact ⟨[], ⟨none, 0, rfl, Nat.le_refl _, .inl rfl⟩, fun n c e => by simp at e; exact e.2.symm⟩
  · simp [Value.cells] at h0
    obtain ⟨ea, el, ec⟩ := h0
    subst ea
    have el := el.symm
    have ec := ec.symm
    subst el ec
    have hm2 : m = cap := by rw [hm]; rfl
    have each : ∀ i, i < len → ∃ y : Smp, ∀ j, j < 4 → W.cell? (a.add (i * 4 + j)) = (encS y)[j]? := by
      intro i hi
      obtain ⟨cs', k1, k2⟩ := hx i (by omega)
      obtain ⟨y, rfl⟩ := open_smp k2
      rw [c4] at k1
      obtain ⟨_, _, hc⟩ := World.cells?_some k1
      refine ⟨y, fun j hj => ?_⟩
      have := hc j hj
      rwa [add_add] at this
    have hz : Nz (.slice (some a) len cap) := fun n c e => by simp at e
    rcases Nat.eq_zero_or_pos len with h1 | h1
    · subst h1
      exact ⟨[], ⟨some a, cap, rfl, hlc, .inl rfl⟩, hz⟩
    · obtain ⟨b, o, spot⟩ := a
      obtain ⟨y0, hy0⟩ := each 0 h1
      have hs : spot = none := by simpa [Addr.add] using World.cell?_spot (hy0 0 (by decide))
      subst hs
      have hadd : ∀ j, (⟨b, o, none⟩ : Addr).add j = ⟨b, o + j, none⟩ := fun j => add_at b o j
      refine ⟨(List.range len).map fun i => if h : i < len then Classical.choose (each i h) else (0, 0, 0, 0), ⟨some ⟨b, o, none⟩, cap, by simp, by simpa using hlc, .inr ⟨b, o, rfl, ?_, fun i hi => ?_⟩⟩, hz⟩
      · have := hy0 0 (by decide)
        rw [hadd] at this
        exact lt_of_cell this
      · have hi' : i < len := by simpa using hi
        have hk := Classical.choose_spec (each i hi')
        simp only [List.getElem_map, List.getElem_range, hi', dif_pos]
        have k := fun j hj => (hk j hj)
        have r : ∀ j, j < 4 → W.cell? ⟨b, o + i * 4 + j, none⟩ = (encS (Classical.choose (each i hi')))[j]? := fun j hj => by
          have := hk j hj
          rw [hadd, ← Nat.add_assoc] at this
          exact this
        exact ⟨r 0 (by decide), r 1 (by decide), r 2 (by decide), r 3 (by decide)⟩
end
end Go.Proofs.YtkcipfmbkokfdaaGreatDoor

/-
  Rows of whole numbers of any sign: eskerref11.In, Same.
-/
namespace Go.Proofs.YtkcipfmbkokfdaaGreatDoor
open Go.RowKit Go.Sort

/-- A slice of ints that can be read: below block B. -/
def RdZ (w : World) (B : Nat) (v : Value) (l : List Int) : Prop :=
  ∃ A c, v = .slice A l.length c ∧ l.length ≤ c ∧ (l = [] ∨ ∃ b o, A = some ⟨b, o, none⟩ ∧ b < B ∧ ∀ i (h : i < l.length), w.cell? ⟨b, o + i, none⟩ = some (.int .i64 l[i]))
theorem RdZ.below {w w' : World} {B : Nat} {v : Value} {l : List Int} (h : RdZ w B v l) (k : RowKit.Below B w w') : RdZ w' B v l := by
  obtain ⟨A, c, h1, h2, h3⟩ := h
  exact ⟨A, c, h1, h2, h3.imp id fun ⟨b, o, e, hb, hc⟩ => ⟨b, o, e, hb, fun i hi => (k.cell hb).trans (hc i hi)⟩⟩
theorem RdZ.mono {w : World} {B B' : Nat} {v : Value} {l : List Int} (h : RdZ w B v l) (k : B ≤ B') : RdZ w B' v l := by
  obtain ⟨A, c, h1, h2, h3⟩ := h
  exact ⟨A, c, h1, h2, h3.imp id fun ⟨b, o, e, hb, hc⟩ => ⟨b, o, e, Nat.lt_of_lt_of_le hb k, hc⟩⟩
theorem RdZ.on {w w' : World} {v : Value} {l : List Int} (h : RdZ w w.heap.size v l) (k : RowKit.Below w.heap.size w w') : RdZ w' w'.heap.size v l := (h.below k).mono k.size

set_option maxHeartbeats 1000000 in
/-- eskerref11.In. -/
theorem in_walk (v : Value) (l : List Int) (z : Int) (W : World) (hR : RdZ W W.heap.size v l) (hl : l.length ≤ 1000000000000) :
    Calls Tryz.prog 26 #[v, .int .i64 z] W fun e w' => e = .returned (.bool (decide (z ∈ l))) ∧ Ext W w' := by
  obtain ⟨A, c, rfl, hc, hA⟩ := hR
  have HA := Lib.hid hA
  obtain ⟨q, hq⟩ : ∃ q, q = decide (z ∈ l) := ⟨_, rfl⟩
  have HQ : Hid (q = decide (z ∈ l)) := hq
  rw [← hq]
  clear hq hA hc
  obtain ⟨n, hn⟩ : ∃ n, n = l.length := ⟨_, rfl⟩
  rw [← hn] at hl ⊢
  have HN : Hid (n = l.length) := hn
  clear hn
  go_enter Tryz.func26, Tryz.ntmps26
  go_wp2_with fail
  go_loopw [5] (fun i wl => ∃ k : Nat, k ≤ n ∧ i = .int .i64 k ∧ Hid (z ∉ l.take k) ∧ Hid (Ext W wl)) (fun i _ => n - (intOf i).toNat)
  case atStart => exact ⟨0, Nat.zero_le _, rfl, (by simp : z ∉ l.take 0), Ext.refl _⟩
  case round =>
    obtain ⟨k, hk, rfl, HT, HE⟩ := hrel
    by_cases hlt : k < n
    · have hla2 : k < l.length := by rw [← HN.out]; exact hlt
      rcases HA.out with h0 | ⟨b1, o1, e, hb1, hcl1⟩
      · subst h0; simp at hla2
      subst e
      obtain ⟨x, hx⟩ : ∃ x, x = l[k] := ⟨_, rfl⟩
      have c0 : wr.cell? ⟨b1, o1 + k, none⟩ = some (.int .i64 x) := by rw [hx]; exact (HE.out.below.cell hb1).trans (hcl1 k hla2)
      have i1 : (k : Int) < (n : Int) := by omega
      by_cases hxz : x = z
      · have hqt : Hid (q = true) := HQ.out.trans (decide_eq_true (by rw [← hxz, hx]; exact List.getElem_mem hla2))
        subst hxz
        clear hx hcl1
        go_wp2_with fail
        go_ret
        exact ⟨ret_bool hqt.out.symm, by first | exact HE.out | exact HE.out.drew⟩
      · have hT2 : Hid (z ∉ l.take (k + 1)) := by
          show _
          rw [List.take_succ_eq_append_getElem hla2, List.mem_append, not_or]
          exact ⟨HT.out, by rw [← hx]; simp [Ne.symm hxz]⟩
        have g1 : ((x : Int) == z) = false := beq_eq_false_iff_ne.2 hxz
        clear hx hcl1
        go_wp2_with fail
        go_roundw
        case rel => exact ⟨k + 1, by omega, by go_num, hT2, by first | exact HE.out | exact HE.out.drew⟩
        case measure => simp [intOf]; omega
    · have hkn : k = n := by omega
      have hqf : Hid (q = false) := HQ.out.trans (decide_eq_false (by have := HT.out; rwa [hkn, HN.out, List.take_length] at this))
      clear hkn
      go_wp2_with fail
      go_ret
      exact ⟨ret_bool hqf.out.symm, HE.out⟩
theorem sameZ_take {a b : List Int} {k : Nat} {x y : Int} (ha : k < a.length) (hb : k < b.length) (hx : x = a[k]) (hy : y = b[k]) (h : a.take k = b.take k) : (a.take (k + 1) = b.take (k + 1)) ↔ x = y := by
  rw [List.take_succ_eq_append_getElem ha, List.take_succ_eq_append_getElem hb, h, ← hx, ← hy]
  simp
set_option maxHeartbeats 1000000 in
/-- eskerref11.Same. -/
theorem sameZ_walk (va vb : Value) (a b : List Int) (W : World) (hRa : RdZ W W.heap.size va a) (hRb : RdZ W W.heap.size vb b) (hla : a.length ≤ 1000000000000) :
    Calls Tryz.prog 18 #[va, vb] W fun e w' => e = .returned (.bool (decide (a = b))) ∧ Ext W w' := by
  obtain ⟨A, ca, rfl, hca, hA⟩ := hRa
  obtain ⟨B, cb, rfl, hcb, hB⟩ := hRb
  have HA := Lib.hid hA
  have HB := Lib.hid hB
  obtain ⟨q, hq⟩ : ∃ q, q = decide (a = b) := ⟨_, rfl⟩
  have HQ : Hid (q = decide (a = b)) := hq
  rw [← hq]
  clear hq hA hB hca hcb
  obtain ⟨n, hn⟩ : ∃ n, n = a.length := ⟨_, rfl⟩
  obtain ⟨m, hm⟩ : ∃ m, m = b.length := ⟨_, rfl⟩
  rw [← hn] at hla ⊢
  rw [← hm]
  have HN : Hid (n = a.length) := hn
  have HM : Hid (m = b.length) := hm
  clear hn hm
  by_cases hnm : n = m
  · have g0 : (((n : Int)) != (m : Int)) = false := by simp; omega
    go_enter Tryz.func18, Tryz.ntmps18
    go_wp2_with fail
    go_loopw [5] (fun i wl => ∃ k : Nat, k ≤ n ∧ i = .int .i64 k ∧ Hid (a.take k = b.take k) ∧ Hid (Ext W wl))
      (fun i _ => n - (intOf i).toNat)
    case atStart => exact ⟨0, Nat.zero_le _, rfl, rfl, Ext.refl _⟩
    case round =>
      obtain ⟨k, hk, rfl, HT, HE⟩ := hrel
      by_cases hlt : k < n
      · have hla2 : k < a.length := by rw [← HN.out]; exact hlt
        have hlb2 : k < b.length := by rw [← HM.out, ← hnm]; exact hlt
        rcases HA.out with h0 | ⟨b1, o1, e, hb1, hcl1⟩
        · subst h0; simp at hla2
        rcases HB.out with h0 | ⟨b2, o2, e', hb2, hcl2⟩
        · subst h0; simp at hlb2
        subst e e'
        obtain ⟨x, hx⟩ : ∃ x, x = a[k] := ⟨_, rfl⟩
        obtain ⟨y, hy⟩ : ∃ y, y = b[k] := ⟨_, rfl⟩
        have c0 : wr.cell? ⟨b1, o1 + k, none⟩ = some (.int .i64 x) := by rw [hx]; exact (HE.out.below.cell hb1).trans (hcl1 k hla2)
        have d0 : wr.cell? ⟨b2, o2 + k, none⟩ = some (.int .i64 y) := by rw [hy]; exact (HE.out.below.cell hb2).trans (hcl2 k hlb2)
        have HF : Hid ((a.take (k + 1) = b.take (k + 1)) ↔ x = y) := sameZ_take hla2 hlb2 hx hy HT.out
        clear hx hy hcl1 hcl2
        have i1 : (k : Int) < (n : Int) := by omega
        have i2 : (k : Int) < (m : Int) := by omega
        have hkm : k < m := by omega
        by_cases hxy : x = y
        · subst hxy
          have hT2 : Hid (a.take (k + 1) = b.take (k + 1)) := HF.out.2 rfl
          clear HF
          go_wp2_with fail
          go_quiet (fail)
          go_wp2_with fail
          go_roundw
          case rel => exact ⟨k + 1, by omega, by go_num, hT2, HE.out.drewN nq⟩
          case measure => simp [intOf]; omega
        · have hab : a ≠ b := fun e => hxy (HF.out.1 (by rw [e]))
          have hqf : Hid (q = false) := HQ.out.trans (decide_eq_false hab)
          have g1 : ((x : Int) != y) = true := by simp [hxy]
          clear HF hab
          go_wp2_with fail
          go_quiet (fail)
          go_wp2_with fail
          go_ret
          exact ⟨ret_bool hqf.out.symm, HE.out.drewN nq⟩
      · have hkn : k = n := by omega
        have hab : a = b := by
          have := HT.out
          rwa [hkn, HN.out, List.take_length, ← HN.out, hnm, HM.out, List.take_length] at this
        have hqt : Hid (q = true) := HQ.out.trans (decide_eq_true hab)
        clear hab hkn
        go_wp2_with fail
        go_ret
        exact ⟨ret_bool hqt.out.symm, HE.out⟩
  · have g0 : (((n : Int)) != (m : Int)) = true := by simp; omega
    have hab : a ≠ b := fun e => hnm (by rw [HN.out, HM.out, e])
    have hqf : Hid (q = false) := HQ.out.trans (decide_eq_false hab)
    go_enter Tryz.func18, Tryz.ntmps18
    go_wp2_with fail
    go_ret
    exact ⟨ret_bool hqf.out.symm, Ext.refl _⟩
end Go.Proofs.YtkcipfmbkokfdaaGreatDoor

/-
  Rows of points: numbers, each with its samples. eskerref16.Same.
-/
namespace Go.Proofs.YtkcipfmbkokfdaaGreatDoor
open Go.RowKit Go.Sort

/-- Points: a number, and its samples. -/
abbrev Pts := Int × List Smp
/-- The two cells of points, and what their samples read as. -/
def PtAt (w : World) (B b o : Nat) (p : Pts) : Prop :=
  w.cell? ⟨b, o, none⟩ = some (.int .i64 p.1) ∧ ∃ sv, w.cell? ⟨b, o + 1, none⟩ = some sv ∧ Rd w B sv p.2 ∧ Nz sv
theorem PtAt.below {w w' : World} {B b o : Nat} {p : Pts} (h : PtAt w B b o p) (k : RowKit.Below B w w') (hb : b < B) : PtAt w' B b o p := by
  obtain ⟨h1, sv, h2, h3, h4⟩ := h
  exact ⟨(k.cell hb).trans h1, sv, (k.cell hb).trans h2, h3.below k, h4⟩
theorem PtAt.mono {w : World} {B B' b o : Nat} {p : Pts} (h : PtAt w B b o p) (k : B ≤ B') : PtAt w B' b o p := by
  obtain ⟨h1, sv, h2, h3, h4⟩ := h
  exact ⟨h1, sv, h2, h3.mono k, h4⟩
/-- A row of points that can be read: below block B. -/
def RdP (w : World) (B : Nat) (v : Value) (l : List Pts) : Prop :=
  ∃ A c, v = .slice A l.length c ∧ l.length ≤ c ∧ (l = [] ∨ ∃ b o, A = some ⟨b, o, none⟩ ∧ b < B ∧ ∀ i (h : i < l.length), PtAt w B b (o + i * 2) l[i])
theorem RdP.below {w w' : World} {B : Nat} {v : Value} {l : List Pts} (h : RdP w B v l) (k : RowKit.Below B w w') : RdP w' B v l := by
  obtain ⟨A, c, h1, h2, h3⟩ := h
  exact ⟨A, c, h1, h2, h3.imp id fun ⟨b, o, e, hb, hc⟩ => ⟨b, o, e, hb, fun i hi => (hc i hi).below k hb⟩⟩
theorem RdP.mono {w : World} {B B' : Nat} {v : Value} {l : List Pts} (h : RdP w B v l) (k : B ≤ B') : RdP w B' v l := by
  obtain ⟨A, c, h1, h2, h3⟩ := h
  exact ⟨A, c, h1, h2, h3.imp id fun ⟨b, o, e, hb, hc⟩ => ⟨b, o, e, Nat.lt_of_lt_of_le hb k, fun i hi => (hc i hi).mono k⟩⟩
theorem RdP.on {w w' : World} {v : Value} {l : List Pts} (h : RdP w w.heap.size v l) (k : RowKit.Below w.heap.size w w') : RdP w' w'.heap.size v l := (h.below k).mono k.size
/-- Each row of samples is of a size that fits. -/
def SmallP (l : List Pts) : Prop := l.length ≤ 1000000 ∧ ∀ p ∈ l, p.2.length ≤ 1000000

theorem sameP_take {a b : List Pts} {k : Nat} {x y : Pts} (ha : k < a.length) (hb : k < b.length) (hx : x = a[k]) (hy : y = b[k]) (h : a.take k = b.take k) : (a.take (k + 1) = b.take (k + 1)) ↔ x = y := by
  rw [List.take_succ_eq_append_getElem ha, List.take_succ_eq_append_getElem hb, h, ← hx, ← hy]
  simp
set_option maxRecDepth 100000 in
set_option maxHeartbeats 1000000 in
/-- eskerref16.Same. -/
theorem sameP_walk (va vb : Value) (a b : List Pts) (W : World) (hRa : RdP W W.heap.size va a) (hRb : RdP W W.heap.size vb b) (hla : SmallP a) :
    Calls Tryz.prog 11 #[va, vb] W fun e w' => e = .returned (.bool (decide (a = b))) ∧ Ext W w' := by
  obtain ⟨A, ca, rfl, hca, hA⟩ := hRa
  obtain ⟨B, cb, rfl, hcb, hB⟩ := hRb
  have HA := Lib.hid hA
  have HB := Lib.hid hB
  have HL := Lib.hid hla
  obtain ⟨q, hq⟩ : ∃ q, q = decide (a = b) := ⟨_, rfl⟩
  have HQ : Hid (q = decide (a = b)) := hq
  rw [← hq]
  have hla1 := hla.1
  clear hq hA hB hca hcb hla
  obtain ⟨n, hn⟩ : ∃ n, n = a.length := ⟨_, rfl⟩
  obtain ⟨m, hm⟩ : ∃ m, m = b.length := ⟨_, rfl⟩
  rw [← hn] at hla1 ⊢
  rw [← hm]
  have HN : Hid (n = a.length) := hn
  have HM : Hid (m = b.length) := hm
  clear hn hm
  by_cases hnm : n = m
  · subst hnm
    have g0 : (((n : Int)) != (n : Int)) = false := by simp
    go_enter Tryz.func11, Tryz.ntmps11
    go_wp2_with fail
    go_loopw [5, 6] (fun i _ wl => ∃ k : Nat, k ≤ n ∧ i = .int .i64 k ∧ Hid (a.take k = b.take k) ∧ Hid (Ext W wl))
      (fun i _ _ => n - (intOf i).toNat)
    case atStart => exact ⟨0, Nat.zero_le _, rfl, rfl, Ext.refl _⟩
    case round =>
      obtain ⟨k, hk, rfl, HT, HE⟩ := hrel
      by_cases hlt : k < n
      · have hla2 : k < a.length := by rw [← HN.out]; exact hlt
        have hlb2 : k < b.length := by rw [← HM.out]; exact hlt
        rcases HA.out with h0 | ⟨b1, o1, e, hb1, hcl1⟩
        · subst h0; simp at hla2
        rcases HB.out with h0 | ⟨b2, o2, e', hb2, hcl2⟩
        · subst h0; simp at hlb2
        subst e e'
        obtain ⟨x, hx⟩ : ∃ x, x = a[k] := ⟨_, rfl⟩
        obtain ⟨y, hy⟩ : ∃ y, y = b[k] := ⟨_, rfl⟩
        obtain ⟨c0, sx, c1, hsx, _⟩ : PtAt wr W.heap.size b1 (o1 + k * 2) x := by rw [hx]; exact (hcl1 k hla2).below HE.out.below hb1
        obtain ⟨d0, sy, d1, hsy, _⟩ : PtAt wr W.heap.size b2 (o2 + k * 2) y := by rw [hy]; exact (hcl2 k hlb2).below HE.out.below hb2
        have HF : Hid ((a.take (k + 1) = b.take (k + 1)) ↔ x = y) := sameP_take hla2 hlb2 hx hy HT.out
        have hxl : x.2.length * 32 ≤ 140737488355328 := by
          have := HL.out.2 x (by rw [hx]; exact List.getElem_mem hla2)
          omega
        obtain ⟨p, hp⟩ : ∃ p, p = decide (x.2 = y.2) := ⟨_, rfl⟩
        have KS : Hid (∀ w', Ext wr w' → Calls Tryz.prog 21 #[sx, sy] w' fun e w'' => e = .returned (.bool p) ∧ Ext w' w'') := fun w' h => by
          rw [hp]
          have hsz := HE.out.size
          have hsz' := h.size
          exact same_walk sx sy x.2 y.2 w' ((hsx.mono hsz).below h.below |>.mono hsz') ((hsy.mono hsz).below h.below |>.mono hsz') hxl
        have HP : Hid (p = decide (x.2 = y.2)) := hp
        have KC : Hid (∀ w', Ext wr w' → w'.cell? ⟨b1, o1 + k * 2 + 1, none⟩ = some sx ∧ w'.cell? ⟨b2, o2 + k * 2 + 1, none⟩ = some sy ∧ w'.cell? ⟨b1, o1 + k * 2, none⟩ = some (.int .i64 x.1) ∧ w'.cell? ⟨b2, o2 + k * 2, none⟩ = some (.int .i64 y.1)) := fun w' h => ⟨h.cell_some c1, h.cell_some d1, h.cell_some c0, h.cell_some d0⟩
        have hE0 := Ext.refl wr
        clear hp hx hy hcl1 hcl2 hsx hsy hxl
        have i1 : (k : Int) < (n : Int) := by omega
        go_wp2_with fail
        go_region_held3 (fun w' => w'.cell? ⟨b1, o1 + k * 2 + 1, none⟩ = some sx ∧ w'.cell? ⟨b2, o2 + k * 2 + 1, none⟩ = some sy ∧ w'.cell? ⟨b1, o1 + k * 2, none⟩ = some (.int .i64 x.1) ∧ w'.cell? ⟨b2, o2 + k * 2, none⟩ = some (.int .i64 y.1) ∧ Ext wr w')
          (first | assumption | (have hd := Ext.drew (by assumption : Ext wr _); exact ⟨(KC.out _ hd).1, (KC.out _ hd).2.1, (KC.out _ hd).2.2.1, (KC.out _ hd).2.2.2, hd⟩) | exact ⟨by assumption, by assumption, by assumption, by assumption, by assumption⟩)
          (first | (go_at_call 21; refine (KS.out _ (by first | assumption | exact Ext.drew (by assumption))).mono ?_; rintro e w' ⟨rfl, hN⟩; have hN := Ext.trans (by first | assumption | exact Ext.drew (by assumption)) hN; obtain ⟨c1', d1', c0', d0'⟩ := KC.out _ hN))
        have HE3 : Hid (Ext W _) := HE.out.trans hN
        clear c0 c1 d0 d1 c1' d1' hE0 KC KS
        cases p with
        | true =>
          have hxy2 : x.2 = y.2 := of_decide_eq_true HP.out.symm
          by_cases hid : x.1 = y.1
          · have hT2 : Hid (a.take (k + 1) = b.take (k + 1)) := HF.out.2 (Prod.ext hid hxy2)
            rw [hid] at c0'
            clear HF HP hxy2
            go_wp2_with fail
            go_quiet (fail)
            go_wp2_with fail
            go_roundw
            case rel => first | exact ⟨k + 1, by omega, by go_num, hT2, HE3.out.drewN nq⟩ | ((repeat apply Exists.intro); exact ⟨⟨k + 1, by omega, by go_num, hT2, HE3.out.drewN nq⟩, rfl⟩)
            case measure => simp [intOf]; omega
          · have hab : a ≠ b := fun e => hid (by rw [HF.out.1 (by rw [e])])
            have hqf : Hid (q = false) := HQ.out.trans (decide_eq_false hab)
            have g1 : ((x.1 : Int) != y.1) = true := by simp [hid]
            clear HF HP hab
            go_wp2_with fail
            go_quiet (fail)
            go_wp2_with fail
            go_ret
            exact ⟨ret_bool hqf.out.symm, HE3.out.drewN nq⟩
        | false =>
          have hab : a ≠ b := fun e => of_decide_eq_false HP.out.symm (by rw [HF.out.1 (by rw [e])])
          have hqf : Hid (q = false) := HQ.out.trans (decide_eq_false hab)
          clear HF HP hab
          go_wp2_with fail
          go_quiet (fail)
          go_wp2_with fail
          go_ret
          exact ⟨ret_bool hqf.out.symm, HE3.out.drewN nq⟩
      · have hkn : k = n := by omega
        have hab : a = b := by
          have := HT.out
          rwa [hkn, HN.out, List.take_length, ← HN.out, HM.out, List.take_length] at this
        have hqt : Hid (q = true) := HQ.out.trans (decide_eq_true hab)
        clear hab hkn
        go_wp2_with fail
        go_ret
        exact ⟨ret_bool hqt.out.symm, HE.out⟩
  · have g0 : (((n : Int)) != (m : Int)) = true := by simp; omega
    have hab : a ≠ b := fun e => hnm (by rw [HN.out, HM.out, e])
    have hqf : Hid (q = false) := HQ.out.trans (decide_eq_false hab)
    go_enter Tryz.func11, Tryz.ntmps11
    go_wp2_with fail
    go_ret
    exact ⟨ret_bool hqf.out.symm, Ext.refl _⟩
end Go.Proofs.YtkcipfmbkokfdaaGreatDoor
