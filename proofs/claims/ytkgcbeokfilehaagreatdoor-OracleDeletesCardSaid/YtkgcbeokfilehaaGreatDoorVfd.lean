/-
  Rows of labels in memory; texts compared.
-/
import Derived.Test.YtkgcbeokfilehaaGreatDoorVbd
import Derived.Test.YtkgcbeokfilehaaGreatDoorRovd
import Derived.Test.YtkgcbeokfilehaaGreatDoorOwd
import Derived.Test.YtkgcbeokfilehaaGreatDoorAncd
import Derived.Lib.Strings
import Derived.Test.YtkgcbeokfilehaaGreatDoorLabShelf
import Derived.Shelf.SlSortCmp.QuietGrown
import Derived.Deep.DrawnRows
import Derived.Deep.RegionHeld3
namespace Go.Proofs.YtkgcbeokfilehaaGreatDoor
open Go.RowKit Go.Sort Go.Shelf
theorem below_owns {W W' : World} (h : Below W.heap.size W W') {base e s n : Nat} {v : Value} {cs : List Value} (hr : W.ownsRow base e s v n cs) : W'.ownsRow base e s v n cs := by
  obtain ⟨h1, h2⟩ := hr
  refine ⟨h1, ?_⟩
  rcases h2 with h2 | ⟨g, cap, cur, hv, hg, hh, r⟩
  · exact .inl h2
  · exact .inr ⟨g, cap, cur, hv, hg, by rw [h.block g (Array.getElem?_eq_some_iff.1 hh).1]; exact hh, r⟩
/-- A text as a value. -/
def vT (s : Str) : Value := .string ⟨s.toArray⟩
def encL (x : Lb) : List Value := [vT x.1, vT x.2]
def flatL (l : Lbs) : List Value := l.flatMap encL
theorem flatL_length (l : Lbs) : (flatL l).length = l.length * 2 := by
  induction l with
  | nil => rfl
  | cons a l ih => unfold flatL at *; simp only [List.flatMap_cons, List.length_append, List.length_cons, ih]; simp [encL]; omega
theorem flatL_append (a b : Lbs) : flatL (a ++ b) = flatL a ++ flatL b := by unfold flatL; simp
theorem flatL_at : ∀ (l : Lbs) (i j : Nat) (h : i < l.length), j < 2 → (flatL l)[i * 2 + j]? = (encL l[i])[j]?
  | a :: l, 0, j, _, hj => by
    unfold flatL; rw [List.flatMap_cons, Nat.zero_mul, Nat.zero_add, List.getElem?_append_left (by simpa [encL] using hj)]; rfl
  | a :: l, i + 1, j, h, hj => by
    have := flatL_at l i j (by simpa using h) hj
    unfold flatL at *
    rw [List.flatMap_cons, show (i + 1) * 2 + j = (encL a).length + (i * 2 + j) by simp [encL]; omega, List.getElem?_append_right (by omega), Nat.add_sub_cancel_left, this]; rfl
theorem flatL_cell (l : Lbs) : ∀ u ∈ flatL l, u.oneCell' = true := by
  intro u hu
  unfold flatL at hu
  obtain ⟨x, _, hx⟩ := List.mem_flatMap.1 hu
  simp [encL] at hx
  rcases hx with rfl | rfl <;> rfl
/-- A label's two cells. -/
def Cell2 (w : World) (b o : Nat) (x : Lb) : Prop := w.cell? ⟨b, o, none⟩ = some (vT x.1) ∧ w.cell? ⟨b, o + 1, none⟩ = some (vT x.2)
theorem Cell2.below {w w' : World} {B b o : Nat} {x : Lb} (h : Cell2 w b o x) (k : Below B w w') (hb : b < B) : Cell2 w' b o x := ⟨(k.cell hb).trans h.1, (k.cell hb).trans h.2⟩
/-- A slice of labels that can be read: below block B. -/
def RdL (w : World) (B : Nat) (v : Value) (l : Lbs) : Prop :=
  ∃ A c, v = .slice A l.length c ∧ l.length ≤ c ∧ (l = [] ∨ ∃ b o, A = some ⟨b, o, none⟩ ∧ b < B ∧ ∀ i (h : i < l.length), Cell2 w b (o + i * 2) l[i])
theorem RdL.below {w w' : World} {B : Nat} {v : Value} {l : Lbs} (h : RdL w B v l) (k : Below B w w') : RdL w' B v l := by
  obtain ⟨A, c, h1, h2, h3⟩ := h
  exact ⟨A, c, h1, h2, h3.imp id fun ⟨b, o, e, hb, hc⟩ => ⟨b, o, e, hb, fun i hi => (hc i hi).below k hb⟩⟩
theorem RdL.mono {w : World} {B B' : Nat} {v : Value} {l : Lbs} (h : RdL w B v l) (k : B ≤ B') : RdL w B' v l := by
  obtain ⟨A, c, h1, h2, h3⟩ := h
  exact ⟨A, c, h1, h2, h3.imp id fun ⟨b, o, e, hb, hc⟩ => ⟨b, o, e, Nat.lt_of_lt_of_le hb k, hc⟩⟩
theorem RdL.on {w w' : World} {v : Value} {l : Lbs} (h : RdL w w.heap.size v l) (k : Below w.heap.size w w') : RdL w' w'.heap.size v l := (h.below k).mono k.size
/-- A slice of labels that the call made itself. -/
def OwnL (w : World) (base : Nat) (v : Value) (l : Lbs) : Prop := w.ownsRow base 59 2 v l.length (flatL l)
theorem OwnL.rd {w : World} {base : Nat} {v : Value} {l : Lbs} (h : OwnL w base v l) : RdL w w.heap.size v l := by
  rcases h.2 with ⟨rfl, h0⟩ | ⟨g, cap, cur, rfl, hb, hh, hn, hm, hcs, ht⟩
  · have : l = [] := List.eq_nil_of_length_eq_zero h0
    subst this
    exact ⟨none, 0, rfl, by simp, .inl rfl⟩
  · refine ⟨_, cap, rfl, hn, .inr ⟨g, 0, rfl, (Array.getElem?_eq_some_iff.1 hh).1, fun i hi => ?_⟩⟩
    have key : ∀ j, j < 2 → w.cell? ⟨g, 0 + i * 2 + j, none⟩ = (encL l[i])[j]? := fun j hj => by
      have e1 : w.cell? ⟨g, 0 + i * 2 + j, none⟩ = cur[0 + i * 2 + j]? := by simp [World.cell?, hh]
      have e2 := flatL_at l i j hi hj
      have e3 : (cur.toList.take (l.length * 2))[i * 2 + j]? = cur.toList[i * 2 + j]? := List.getElem?_take_of_lt (by omega)
      rw [e1, Nat.zero_add, ← e2, ← ht, e3, Array.getElem?_toList]
    exact ⟨key 0 (by decide), key 1 (by decide)⟩
theorem OwnL.nz {w : World} {base : Nat} {v : Value} {l : Lbs} (h : OwnL w base v l) : Nz v := by
  intro n c hv
  rcases h.2 with ⟨h1, _⟩ | ⟨g, cap, cur, h1, _⟩
  · rw [h1] at hv; injection hv with _ _ h; exact h.symm
  · rw [h1] at hv; injection hv with h; cases h
theorem OwnL.below {w w' : World} {base : Nat} {v : Value} {l : Lbs} (h : OwnL w base v l) (k : Below w.heap.size w w') : OwnL w' base v l := below_owns k h
theorem OwnL.lower {w : World} {base base' : Nat} {v : Value} {l : Lbs} (h : OwnL w base v l) (k : base' ≤ base) : OwnL w base' v l :=
  ⟨h.1, h.2.imp id fun ⟨g, cap, cur, hv, hg, r⟩ => ⟨g, cap, cur, hv, Nat.le_trans k hg, r⟩⟩
theorem str_toList (s : Str) : (⟨s.toArray⟩ : ByteArray).toList = s := by rw [Lib.toList_data]
theorem less_T (a b : Str) : Op.bytesLess (⟨a.toArray⟩ : ByteArray).toList (⟨b.toArray⟩ : ByteArray).toList = decide (a < b) := by rw [str_toList, str_toList, bytesLess_eq]
theorem same_T (a b : Str) : ((⟨a.toArray⟩ : ByteArray).toList == (⟨b.toArray⟩ : ByteArray).toList) = decide (a = b) := by
  rw [str_toList, str_toList]
  by_cases h : a = b <;> simp [h]
theorem isNaN_walk (a : Str) (W : World) : Calls Tryz.prog 87 #[vT a] W fun e w' => e = .returned (.bool false) ∧ w' = W := by
  unfold vT
  go_enter Tryz.func87, Tryz.ntmps87
  go_wp2
  go_ret
  exact ⟨by simp, rfl⟩
set_option maxRecDepth 100000 in
set_option maxHeartbeats 1000000 in
/-- cmp.Compare[string]. -/
theorem cmpT_walk (a b : Str) (W : World) : Calls Tryz.prog 64 #[vT a, vT b] W fun e w' => e = .returned (.int .i64 (cmpT a b)) ∧ w' = W := by
  have K1 : Hid (∀ (s : Str) W, Calls Tryz.prog 87 #[.string ⟨s.toArray⟩] W fun e w' => e = .returned (.bool false) ∧ w' = W) := fun s W => isNaN_walk s W
  obtain ⟨x, hx⟩ : ∃ x : ByteArray, x = ⟨a.toArray⟩ := ⟨_, rfl⟩
  obtain ⟨y, hy⟩ : ∃ y : ByteArray, y = ⟨b.toArray⟩ := ⟨_, rfl⟩
  have h1 := less_T a b
  have h2 := same_T a b
  have KX := Lib.hid (K1.out a)
  have KY := Lib.hid (K1.out b)
  unfold vT
  rw [← hx, ← hy] at h1 h2 ⊢
  rw [← hx] at KX
  rw [← hy] at KY
  obtain ⟨r, hr⟩ : ∃ r, r = cmpT a b := ⟨_, rfl⟩
  rw [← hr]
  unfold cmpT at hr
  clear hx hy K1
  by_cases c1 : a < b
  · rw [if_pos c1] at hr
    rw [decide_eq_true c1] at h1
    subst hr
    clear h2
    go_enter Tryz.func64, Tryz.ntmps64
    go_wp2_with (go_at_call 87; first | (refine (KX.out _).mono ?_; rintro e w' ⟨rfl, rfl⟩) | (refine (KY.out _).mono ?_; rintro e w' ⟨rfl, rfl⟩))
    go_ret
    exact ⟨rfl, rfl⟩
  · rw [if_neg c1] at hr
    rw [decide_eq_false c1] at h1
    by_cases c2 : b < a
    · rw [if_pos c2] at hr
      have c3 : ¬ a = b := fun e => str_irrefl _ (e ▸ c2)
      rw [decide_eq_false c3] at h2
      subst hr
      go_enter Tryz.func64, Tryz.ntmps64
      go_wp2_with (go_at_call 87; first | (refine (KX.out _).mono ?_; rintro e w' ⟨rfl, rfl⟩) | (refine (KY.out _).mono ?_; rintro e w' ⟨rfl, rfl⟩))
      go_ret
      exact ⟨rfl, rfl⟩
    · rw [if_neg c2] at hr
      have c3 : a = b := str_tri c1 c2
      rw [decide_eq_true c3] at h2
      subst hr
      go_enter Tryz.func64, Tryz.ntmps64
      go_wp2_with (go_at_call 87; first | (refine (KX.out _).mono ?_; rintro e w' ⟨rfl, rfl⟩) | (refine (KY.out _).mono ?_; rintro e w' ⟨rfl, rfl⟩))
      go_ret
      exact ⟨rfl, rfl⟩
end Go.Proofs.YtkgcbeokfilehaaGreatDoor

/-
  labels.Name.
-/
namespace Go.Proofs.YtkgcbeokfilehaaGreatDoor
open Go.RowKit Go.Sort Go.Shelf
/-- The bytes of names. -/
def nameCs : Str := [97, 98, 99, 100, 101, 102, 103, 104, 105, 106, 107, 108, 109, 110, 111, 112, 113, 114, 115, 116, 117, 118, 119, 120, 121, 122, 48, 49, 50, 51, 52, 53, 54, 55, 56, 57, 95]
theorem nameB_cs (c : UInt8) : nameCs.contains c = nameB c := by
  have h : ∀ n : Fin 256, nameCs.contains (UInt8.ofNat n.val) = nameB (UInt8.ofNat n.val) := by decide +kernel
  have := h ⟨c.toNat, c.toNat_lt⟩
  rwa [UInt8.ofNat_toNat] at this
theorem dropWhile_nil {α : Type} (p : α → Bool) : ∀ l : List α, l.dropWhile p = [] ↔ l.all p = true
  | [] => by simp
  | a :: l => by
    rw [List.dropWhile_cons, List.all_cons]
    cases h : p a
    · simp
    · simp [dropWhile_nil p l]
theorem strim_nil (s : Str) : (Lib.trimS s nameCs = []) ↔ s.all nameB = true := by
  unfold Lib.trimS Lib.trimLeftS Lib.trimRightS
  have e : (nameCs.contains ·) = nameB := funext nameB_cs
  rw [dropWhile_nil, List.all_reverse, e]
  constructor
  · intro h
    have h2 : (s.reverse.dropWhile nameB) = [] := by
      apply Classical.byContradiction
      intro hn
      obtain ⟨a, r, hr⟩ := List.exists_cons_of_ne_nil hn
      have h3 := List.head_dropWhile_not nameB hn
      have h4 := List.all_eq_true.1 h a (by rw [hr]; exact List.mem_cons_self)
      have h5 : (s.reverse.dropWhile nameB).head hn = a := by simp [hr]
      rw [h5, h4] at h3
      cases h3
    have h6 := (dropWhile_nil nameB s.reverse).1 h2
    rwa [List.all_reverse] at h6
  · intro h
    have h2 := (dropWhile_nil nameB s.reverse).2 (by rwa [List.all_reverse])
    rw [h2]; rfl
theorem strim_walk (s : Str) (W : World) (h0 : 0 < s.length) (h1 : s.length ≤ 100) :
    Calls Tryz.prog 88 #[.string ⟨s.toArray⟩, .string ⟨nameCs.toArray⟩] W fun e w' => ∃ y : ByteArray, e = .returned (.string y) ∧ Hid ((y.toList == (⟨#[]⟩ : ByteArray).toList) = s.all nameB) ∧ Ext W w' := by
  have hz : ∀ w, (zeroValue 164).run Tryz.prog w = .ok (.agg (Array.replicate 256 (.bool false))) w := by intro w; kernel_rfl
  refine (Any.strings_Trim_set Tryz.trimT hz (by kernel_rfl) ⟨s.toArray⟩ ⟨nameCs.toArray⟩ W (by decide) (by simpa [ByteArray.size] using h0) (by simp [ByteArray.size]; omega) (by decide) (fun j b hb => ?_)).mono ?_
  · have hm : b ∈ nameCs := List.mem_of_getElem? hb
    have : ∀ b ∈ nameCs, b.toNat < 128 := by decide
    exact this b hm
  · rintro e w' ⟨rfl, q, rfl⟩
    refine ⟨_, rfl, ?_, ((((Ext.refl W).alloc _).alloc _).drewN q)⟩
    show _ = _
    rw [str_toList, str_toList]
    have h := strim_nil s
    by_cases hb : s.all nameB = true
    · rw [hb, beq_iff_eq]; exact h.2 hb
    · rw [Bool.not_eq_true] at hb
      rw [hb, beq_eq_false_iff_ne]
      intro e
      have := h.1 e
      rw [hb] at this; cases this
set_option maxHeartbeats 1000000 in
theorem name_walk (s : Str) (W : World) : Calls Tryz.prog 65 #[vT s] W fun e w' => e = .returned (.bool (nameOk s)) ∧ Ext W w' := by
  have KT : Hid (0 < s.length → s.length ≤ 100 → ∀ W, Calls Tryz.prog 88 #[.string ⟨s.toArray⟩, .string ⟨nameCs.toArray⟩] W fun e w' => ∃ y : ByteArray, e = .returned (.string y) ∧ Hid ((y.toList == (⟨#[]⟩ : ByteArray).toList) = s.all nameB) ∧ Ext W w') := fun h1 h2 W => strim_walk s W h1 h2
  obtain ⟨x, hx⟩ : ∃ x : ByteArray, x = ⟨s.toArray⟩ := ⟨_, rfl⟩
  have hn : x.size = s.length := by rw [hx]; simp [ByteArray.size]
  have HX := Lib.hid hx
  obtain ⟨n, hn'⟩ : ∃ n, n = s.length := ⟨_, rfl⟩
  rw [← hn'] at hn KT
  have HN := Lib.hid hn'
  unfold vT
  rw [← hx] at KT ⊢
  clear hx hn'
  by_cases h0 : n = 0
  · have hr : Hid (nameOk s = false) := by show _ = _; unfold nameOk; rw [← HN.out, h0]; rfl
    have g1 : ¬ (1 : Int) ≤ (n : Int) := by omega
    rw [hr.out]
    subst h0
    go_enter Tryz.func65, Tryz.ntmps65
    go_wp2_with fail
    go_ret
    exact ⟨rfl, Ext.refl _⟩
  · have g1 : (1 : Int) ≤ (n : Int) := by omega
    by_cases h12 : 12 < n
    · have hr : Hid (nameOk s = false) := by
        show _ = _
        unfold nameOk
        rw [← HN.out, decide_eq_false (by omega : ¬ n ≤ 12)]; simp
      have g2 : ¬ (n : Int) ≤ 12 := by omega
      rw [hr.out]
      go_enter Tryz.func65, Tryz.ntmps65
      go_wp2_with fail
      go_ret
      exact ⟨rfl, Ext.refl _⟩
    · have g2 : (n : Int) ≤ 12 := by omega
      have hr : Hid (nameOk s = s.all nameB) := by
        show _ = _
        unfold nameOk
        rw [← HN.out, decide_eq_true (by omega : 1 ≤ n), decide_eq_true (by omega : n ≤ 12)]; simp
      have KT2 := Lib.hid (KT.out (by omega) (by omega))
      rw [hr.out]
      obtain ⟨r, hrr⟩ : ∃ r, r = s.all nameB := ⟨_, rfl⟩
      rw [← hrr] at KT2 ⊢
      unfold nameCs at KT2
      clear KT hrr
      go_enter Tryz.func65, Tryz.ntmps65
      go_wp2_with (go_at_call 88; refine (KT2.out _).mono ?_; rintro e w1 ⟨y, rfl, hy, hE⟩; have hy := hy.out; have HE := Lib.hid hE; clear hE)
      go_ret
      have e0 : (⟨#[]⟩ : ByteArray).toList = [] := by rw [Lib.toList_data]
      rw [e0] at hy
      refine ⟨?_, HE.out⟩
      rw [← hy]
      cases y.toList <;> rfl
end Go.Proofs.YtkgcbeokfilehaaGreatDoor

/-
  labels.Canon.
-/
namespace Go.Proofs.YtkgcbeokfilehaaGreatDoor
open Go.RowKit Go.Sort Go.Shelf
theorem flatKL_get (d : Lbs) (i j : Nat) (hi : i < d.length) (hj : j < 2) : some (flatK encL 2 d.toArray)[i * 2 + j]! = (encL d[i])[j]? := by
  rw [get_flatK _ _ _ _ (by simp; omega), show (i * 2 + j) / 2 = i by omega, show (i * 2 + j) % 2 = j by omega]
  have : (d.toArray)[i]! = d[i] := by simp [hi]
  rw [this]
  generalize d[i] = y
  match j, hj with
  | 0, _ => rfl
  | 1, _ => rfl
theorem holds_ownL {w : World} {g : Nat} {cur : Array Value} {e : TypeId} {d : Lbs} (hh : w.heap[g]? = some (.cells cur e (0, 0))) (ht : cur.toList.take (d.length * 2) = flatL d) : HoldsK encL 2 w g 0 d.toArray := by
  intro t h
  rw [size_flatK] at h
  simp only [List.size_toArray] at h
  obtain ⟨i, j, hi, hj, rfl⟩ : ∃ i j, i < d.length ∧ j < 2 ∧ t = i * 2 + j := ⟨t / 2, t % 2, by omega, by omega, by omega⟩
  refine ⟨?_, ?_⟩
  · have e1 : w.cell? ⟨g, 0 + (i * 2 + j), none⟩ = cur[0 + (i * 2 + j)]? := by simp [World.cell?, hh]
    have e3 : (cur.toList.take (d.length * 2))[i * 2 + j]? = cur.toList[i * 2 + j]? := List.getElem?_take_of_lt h
    rw [e1, Nat.zero_add, ← Array.getElem?_toList, ← e3, ht, flatL_at d i j hi hj, ← flatKL_get d i j hi hj]; rfl
  · simp [World.frozen?, hh]
theorem OwnL.sorted {w : World} {base g cap : Nat} {l d : Lbs} (h : OwnL w base (.slice (some ⟨g, 0, none⟩) l.length cap) l) (hs : d.length = l.length) (m : Nat) (os : Array Obj) :
    OwnL (sortWorldK encL 2 w g 0 m d.toArray os) base (.slice (some ⟨g, 0, none⟩) l.length cap) d := by
  obtain ⟨h1, h2⟩ := h
  rcases h2 with ⟨e, _⟩ | ⟨g', cap', cur, e, hb, hh, hn, hm, hcs, ht⟩
  · cases e
  injection e with e1 e2 e3
  injection e1 with e1
  injection e1 with e1 _ _
  subst e1 e3
  have hlt : g < w.heap.size := (Array.getElem?_eq_some_iff.1 hh).1
  refine ⟨flatL_length d, .inr ⟨g, cap, putCells id 0 (flatK encL 2 d.toArray) cur, by rw [hs], hb, ?_, by rw [hs]; exact hn, hm, by simp [putCells, hcs], ?_⟩⟩
  · unfold sortWorldK putRowK putRow mapBlock grow Sort.ahead
    show (w.heap.modify g _ ++ os)[g]? = _
    rw [Array.getElem?_append_left (by simpa using hlt), Array.getElem?_modify, if_pos rfl, hh]
    rfl
  · apply List.ext_getElem?
    intro t
    by_cases hlt2 : t < d.length * 2
    · obtain ⟨i, j, hi, hj, rfl⟩ : ∃ i j, i < d.length ∧ j < 2 ∧ t = i * 2 + j := ⟨t / 2, t % 2, by omega, by omega, by omega⟩
      have hc : i * 2 + j < cur.size := by rw [hcs]; rw [hs] at hi; omega
      rw [List.getElem?_take_of_lt hlt2, Array.getElem?_toList, flatL_at d i j hi hj, ← flatKL_get d i j hi hj]
      unfold putCells
      rw [Array.getElem?_mapIdx, Array.getElem?_eq_getElem hc]
      simp only [Option.map_some]
      rw [if_pos ⟨Nat.zero_le _, by rw [size_flatK]; simp; omega⟩]
      rfl
    · rw [List.getElem?_eq_none (by rw [List.length_take]; omega), List.getElem?_eq_none (by rw [flatL_length]; omega)]
theorem canonCmp_walk (x y : Lb) (W : World) : Calls Tryz.prog 63 #[.agg (encL x).toArray, .agg (encL y).toArray] W fun e w' => e = .returned (.int .i64 (cmpT x.1 y.1)) ∧ Ext W w' := by
  have KC : Hid (∀ W, Calls Tryz.prog 64 #[.string ⟨x.1.toArray⟩, .string ⟨y.1.toArray⟩] W fun e w' => e = .returned (.int .i64 (cmpT x.1 y.1)) ∧ w' = W) := fun W => cmpT_walk x.1 y.1 W
  show Calls _ _ #[.agg #[.string ⟨x.1.toArray⟩, .string ⟨x.2.toArray⟩], .agg #[.string ⟨y.1.toArray⟩, .string ⟨y.2.toArray⟩]] _ _
  obtain ⟨r, hr⟩ : ∃ r, r = cmpT x.1 y.1 := ⟨_, rfl⟩
  rw [← hr] at KC ⊢
  generalize (⟨x.1.toArray⟩ : ByteArray) = x1 at KC ⊢
  generalize (⟨x.2.toArray⟩ : ByteArray) = x2
  generalize (⟨y.1.toArray⟩ : ByteArray) = y1 at KC ⊢
  generalize (⟨y.2.toArray⟩ : ByteArray) = y2
  clear hr
  go_enter Tryz.func63, Tryz.ntmps63
  go_wp2_with (go_at_call 64; refine (KC.out _).mono ?_; rintro e w' ⟨rfl, rfl⟩)
  go_ret
  exact ⟨rfl, ((Ext.refl W).alloc _).alloc _⟩
theorem swoN : SWO (ltOf (fun x y : Lb => cmpT x.1 y.1)) where
  irrefl x := by
    unfold ltOf; rw [decide_eq_false_iff_not, cmpT_lt]; exact str_irrefl _
  trans x y z h1 h2 := by
    unfold ltOf at *; rw [decide_eq_true_eq, cmpT_lt] at *; exact str_trans h1 h2
  ntrans x y z h1 h2 := by
    unfold ltOf at *
    rw [decide_eq_false_iff_not, cmpT_lt] at *
    intro h3
    by_cases h4 : y.1 < x.1
    · exact h2 (str_trans h4 h3 |> fun h => by
        by_cases h5 : z.1 < y.1
        · exact absurd (str_trans h5 (str_trans h4 h3)) (str_irrefl _)
        · exact h)
    · by_cases h5 : x.1 < y.1
      · exact h1 h5
      · have e : x.1 = y.1 := str_tri h5 h4
        exact h2 (e ▸ h3)
theorem sortLb_walk (g cap base : Nat) (l : Lbs) (w : World) (h : OwnL w base (.slice (some ⟨g, 0, none⟩) l.length cap) l) (hl : l.length < 4611686018427387904) :
    Calls Tryz.prog 62 #[.slice (some ⟨g, 0, none⟩) l.length cap, .func (.func 63) #[] #[]] w fun e w' =>
      e = .returned (.tuple #[]) ∧ ∃ d, d.Perm l ∧ UpN d ∧ OwnL w' base (.slice (some ⟨g, 0, none⟩) l.length cap) d ∧ w.grownBy w' (some g) := by
  have eg : ∀ args w, (callFunc 63 args).run Tryz.prog w = .ok (.enter 63 args) w := enters_of Tryz.func63 (by kernel_rfl) rfl
  have hO := h
  obtain ⟨h1, h2⟩ := h
  rcases h2 with ⟨e, _⟩ | ⟨g', cap', cur, e, hb, hh, hn, hm, hcs, ht⟩
  · cases e
  injection e with e1 e2 e3
  injection e1 with e1
  injection e1 with e1 _ _
  subst e1 e3
  have hblk : g < w.heap.size := (Array.getElem?_eq_some_iff.1 hh).1
  have hcmp : CmpLays Tryz.prog 63 #[] encL 2 (fun x y : Lb => cmpT x.1 y.1) g 0 l.toArray.size w := fun m os dk hdk x y =>
    (canonCmp_walk x y _).mono fun e w' ⟨he, hE⟩ => by
      obtain ⟨k, o, hk⟩ := hE.out
      exact ⟨he, k, o, hk⟩
  have K := AnyQ.slices_SortFunc Tryz.sortLb 2 Tryz.isAgg59 Tryz.sizeOf59 encL (fun _ => rfl) (fun x v hv => by simp [encL] at hv; rcases hv with rfl | rfl <;> rfl) (fun x y : Lb => cmpT x.1 y.1) swoN 63 #[] g 0 cap l.toArray w eg hcmp (holds_ownL hh ht) hblk (by simpa using hl)
  have hsz : l.toArray.size = l.length := by simp
  rw [hsz] at K
  refine K.mono ?_
  rintro e w' ⟨he, d', n, os, hp, hs, rfl⟩
  obtain ⟨p1, p2, p3⟩ := hp
  have hdl : d'.toList.length = l.length := by rw [Array.length_toList, p1, hsz]
  have hd : d'.toList.Perm l := by
    have e1 : d'.extract 0 l.length = d' := by rw [← hdl, Array.length_toList]; simp
    have e2 : l.toArray.extract 0 l.length = l.toArray := by simp
    rw [e1, e2] at p3
    simpa using p3
  refine ⟨he, d'.toList, hd, ?_, ?_, ?_⟩
  · refine List.pairwise_iff_getElem.2 fun i j hi hj hij => ?_
    have := hs i j (Nat.zero_le _) hij (by rw [← hdl]; exact hj)
    have ei : d'[i]! = d'.toList[i] := by rw [getElem!_pos d' i (by simpa using hi)]; simp
    have ej : d'[j]! = d'.toList[j] := by rw [getElem!_pos d' j (by simpa using hj)]; simp
    rw [ei, ej] at this
    unfold ltOf at this
    rw [decide_eq_false_iff_not, cmpT_lt] at this
    exact this
  · have := hO.sorted (d := d'.toList) hdl n os
    rwa [Array.toArray_toList] at this
  · unfold sortWorldK putRowK putRow mapBlock grow Sort.ahead
    refine ⟨rfl, rfl, rfl, by simp, fun k hk hne => ?_⟩
    have hkb : g ≠ k := fun e => hne (by rw [e])
    rw [Array.getElem?_append_left (by simpa using hk), Array.getElem?_modify, if_neg hkb]
end Go.Proofs.YtkgcbeokfilehaaGreatDoor

/-
  slices.Clone of labels; labels.Canon.
-/
namespace Go.Proofs.YtkgcbeokfilehaaGreatDoor
open Go.RowKit Go.Sort Go.Shelf
theorem info_Lb : (Tryz.prog.info? 59).map (fun i => (i.zero, i.size, i.bytes)) = some (some (.agg #[.string ⟨#[]⟩, .string ⟨#[]⟩]), 2, 32) := by kernel_rfl
theorem RdL.cells {w : World} {b o : Nat} {l : Lbs} (h : ∀ i (h : i < l.length), Cell2 w b (o + i * 2) l[i]) : ∀ j u, (flatL l)[j]? = some u → w.cell? ⟨b, o + j, none⟩ = some u := by
  intro t u hu
  have ht : t < l.length * 2 := by
    have := (List.getElem?_eq_some_iff.1 hu).1
    rwa [flatL_length] at this
  obtain ⟨i, j, hi, hj, rfl⟩ : ∃ i j, i < l.length ∧ j < 2 ∧ t = i * 2 + j := ⟨t / 2, t % 2, by omega, by omega, by omega⟩
  rw [flatL_at l i j hi hj] at hu
  obtain ⟨h0, h1⟩ := h i hi
  rw [← Nat.add_assoc]
  match j, hj with
  | 0, _ => exact h0.trans hu
  | 1, _ => exact h1.trans hu
/-- append of a row of labels to a row of the call's own. -/
theorem appNL {P : Program} {w : World} {ops : Array Oper} {rest : List Oper} {o : Oper} {a : Act} {Q : Exit → Act → World → Prop} (hgd : o.guard = none) (s x : Operand) (t : TypeId)
    (ho : o.op = .call { callee := .builtin .append, args := #[s, x], argTypes := #[t, t] }) (ht : P.underlying t = some (.slice 59))
    (hinf : (P.info? 59).map (fun i => (i.zero, i.size, i.bytes)) = some (some (.agg #[.string ⟨#[]⟩, .string ⟨#[]⟩]), 2, 32))
    (base : Nat) (v : Value) (l : Lbs) (xv : Value) (l2 : Lbs) (B : Nat) (hs : a.eval s = v) (hown : OwnL w base v l) (hx : a.eval x = xv) (hR : RdL w B xv l2) (hz : Nz xv)
    (hl : (l.length + l2.length) * 32 ≤ 140737488355328) (hbase : base ≤ w.heap.size)
    (h : ∀ v' w', OwnL w' base v' (l ++ l2) → w.grownBy w' v.ownBlock → (v'.ownBlock = v.ownBlock ∨ v'.ownBlock = some w.heap.size) → wpList P ops Q rest (a.put o.dst v') w') :
    wpList P ops Q (o :: rest) a w := by
  obtain ⟨i, hi, hz1, hsz, hby⟩ := of_info hinf
  obtain ⟨A, c, rfl, hc, hA⟩ := hR
  cases A with
  | none =>
    have hc0 := hz _ _ rfl
    subst hc0
    have hl2 : l2 = [] := List.eq_nil_of_length_eq_zero (by omega)
    subst hl2
    refine wpList_append_own_none hgd s x t ho base _ i 2 ht hi v l.length (flatL l) hs hown hx ?_
    exact h v w (by rw [List.append_nil]; exact hown) ⟨rfl, rfl, rfl, Nat.le_refl _, fun _ _ _ => rfl⟩ (.inl rfl)
  | some ad =>
    have hcells : ∀ j u, (flatL l2)[j]? = some u → w.cell? (ad.add j) = some u := by
      rcases hA with rfl | ⟨b, o, h1, _, hcl⟩
      · intro j u hu; simp [flatL] at hu
      · injection h1 with h1; subst h1
        intro j u hu
        rw [add_at]; exact RdL.cells hcl j u hu
    refine wpList_append_own_at w hgd s x t ho base _ i _ 2 32 ht hi hz1 hsz hby rfl (by decide) v l.length (flatL l) hs hown ad l2.length c (flatL l2) hx (flatL_length l2) hcells (flatL_cell l2) (by unfold maxLen; omega) hl hbase (fun v' w' h1 h2 _ h4 => ?_)
    refine h v' w' ?_ h2 h4
    unfold OwnL
    rw [flatL_append, List.length_append]
    exact h1
theorem OwnL.nil (w : World) (base : Nat) : OwnL w base (.slice none 0 0) [] := ⟨rfl, .inl ⟨rfl, rfl⟩⟩
set_option maxHeartbeats 1000000 in
theorem cloneL_walk (v : Value) (l : Lbs) (W : World) (hR : RdL W W.heap.size v l) (hz : Nz v) (hl : l.length ≤ 1000000) :
    Calls Tryz.prog 39 #[v] W fun e w' => ∃ r, e = .returned r ∧ OwnL w' W.heap.size r l ∧ Below W.heap.size W w' := by
  have q22 : ∀ (w : World) (a : Option Addr) (n c n' c' : Nat), (binOp .eql 24 (.slice a n c) (.slice none n' c')).run Tryz.prog w = .ok (.bool a.isNone) w := fun w a n c n' c' => Lib.run_eql_slice_nil w _ _ a n c n' c' Tryz.underlying24
  obtain ⟨A, c, hv, hc, hA⟩ := hR
  have HR : Hid (RdL W W.heap.size v l) := ⟨A, c, hv, hc, hA⟩
  have HZ : Hid (Nz v) := hz
  cases A with
  | none =>
    have hc0 := hz _ _ hv
    subst hc0
    have hl2 : l = [] := List.eq_nil_of_length_eq_zero (by omega)
    subst hl2
    subst hv
    go_enter Tryz.func39, Tryz.ntmps39
    go_wp2_with fail
    go_ret
    exact ⟨_, rfl, OwnL.nil _ _, Below.refl _ _⟩
  | some ad =>
    subst hv
    clear hA hz
    have HL := Lib.hid hl
    have hO : OwnL (W.alloc (.cells #[] 59)) W.heap.size (.slice (some ⟨W.heap.size, 0, none⟩) 0 0) [] := World.ownsRow_made W #[] 0 (Nat.le_refl _) (Nat.zero_le _) rfl
    have HO := Lib.hid hO
    clear hO hl
    go_enter Tryz.func39, Tryz.ntmps39
    go_wp2_with (first | (at_builtin; refine appNL rfl _ _ 24 rfl Tryz.underlying24 info_Lb W.heap.size _ [] _ l W.heap.size rfl HO.out rfl (HR.out.below ((Ext.refl W).alloc _).below) HZ.out ?c1 ?c2 ?_) | fail)
    case c1 => have := HL.out; simp; omega
    case c2 => simp
    · intro v' w3 hown hg hloc
      go_wp2_with fail
      go_ret
      exact ⟨_, rfl, hown, ((Below.refl W.heap.size W).alloc (Nat.le_refl _) _).grown hg (by simp) (by intro k hk; simp [Value.ownBlock] at hk; omega)⟩
end Go.Proofs.YtkgcbeokfilehaaGreatDoor
