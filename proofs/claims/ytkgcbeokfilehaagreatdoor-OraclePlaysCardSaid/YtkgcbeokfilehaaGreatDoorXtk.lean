/-
  The reference: a rising row of texts with one more; names; values.
-/
import Derived.Test.YtkgcbeokfilehaaGreatDoorGnk
import Derived.Test.YtkgcbeokfilehaaGreatDoorXsk
import Derived.Test.YtkgcbeokfilehaaGreatDoorWdk
namespace Go.Proofs.YtkgcbeokfilehaaGreatDoor
open Go.RowKit Go.Sort Go.Maps
/-- A row of texts. -/
def ET : Enc Str := ⟨1, fun s => [vT s], fun _ => rfl, fun _ u hu => by rw [List.mem_singleton] at hu; subst hu; rfl, by decide⟩
theorem cellT {w : World} {b o : Nat} {x : Str} : CellG ET w b o x ↔ w.cell? ⟨b, o, none⟩ = some (vT x) := by
  constructor
  · intro h
    have := h 0 (by decide)
    simpa [ET] using this
  · intro h j hj
    have : j = 0 := by have : j < 1 := hj; omega
    subst this
    simpa [ET] using h
theorem RdG.toT {w : World} {B : Nat} {v : Value} {l : List Str} (h : RdG ET w B v l) : RdT w B v l := by
  obtain ⟨A, c, h1, h2, _, h3⟩ := h
  refine ⟨A, c, h1, h2, h3.imp id ?_⟩
  rintro ⟨b, o, e, hb, hc⟩
  refine ⟨b, o, e, hb, fun i hi => ?_⟩
  have := cellT.1 (hc i hi)
  rwa [show i * ET.k = i from Nat.mul_one i] at this
theorem insT_end {s : Str} : ∀ {l : List Str}, (∀ i (h : i < l.length), l[i] < s) → insT s l = l ++ [s]
  | [], _ => rfl
  | y :: l, h => by
    have h0 : y < s := h 0 (by simp)
    unfold insT
    rw [if_neg (str_asymm h0), if_neg (show ¬ s = y from fun e => str_irrefl y (by rw [e] at h0; exact h0)), insT_end (l := l) fun i hi => h (i + 1) (by simpa using hi)]
    rfl
theorem insT_at {s : Str} : ∀ {l : List Str} {k : Nat} (hk : k < l.length), (∀ i (h : i < l.length), i < k → l[i] < s) → ¬ l[k] < s → insT s l = if l[k] = s then l else l.take k ++ [s] ++ l.drop k
  | y :: l, 0, _, _, hn => by
    have hn : ¬ y < s := hn
    unfold insT
    by_cases h1 : s < y
    · rw [if_pos h1]
      have : ¬ y = s := fun e => str_irrefl y (by rw [e] at h1 ⊢; exact h1)
      simp [this]
    · rw [if_neg h1]
      have : s = y := str_tri h1 hn
      simp [this]
  | y :: l, k + 1, hk, h, hn => by
    have h0 : y < s := h 0 (by simp) (by omega)
    have ih := insT_at (l := l) (k := k) (by simpa using hk) (fun i hi hik => h (i + 1) (by simpa using hi) (by omega)) hn
    unfold insT
    rw [if_neg (str_asymm h0), if_neg (show ¬ s = y from fun e => str_irrefl y (by rw [e] at h0; exact h0)), ih]
    simp only [List.getElem_cons_succ]
    split <;> simp
theorem insT_len (s : Str) : ∀ l : List Str, (insT s l).length ≤ l.length + 1
  | [] => by simp [insT]
  | y :: l => by
    unfold insT
    split
    · simp
    · split
      · simp
      · have := insT_len s l; simp; omega
set_option maxRecDepth 100000 in
set_option maxHeartbeats 4000000 in
/-- eskerref20.texts. -/
theorem ref_txt (v : Value) (l : List Str) (s : Str) (W : World) (hR : RdG ET W W.heap.size v l) (hl : l.length ≤ 100000) :
    Calls Tryz.prog 56 #[v, vT s] W fun e w' => ∃ r, e = .returned r ∧ RdG ET w' w'.heap.size r (insT s l) ∧ Below W.heap.size W w' := by
  have HR := Lib.hid hR
  obtain ⟨A, c, rfl, hc, hz, hA⟩ := hR
  obtain ⟨n, hn⟩ : ∃ n, n = l.length := ⟨_, rfl⟩
  rw [← hn] at hc HR hl ⊢
  have HN := Lib.hid hn
  have HA := Lib.hid hA
  have HC := Lib.hid hc
  have HZ := Lib.hid hz
  obtain ⟨sb, hsb⟩ : ∃ z : ByteArray, z = ⟨s.toArray⟩ := ⟨_, rfl⟩
  have e0 : vT s = .string sb := by rw [hsb]; rfl
  have HSB := Lib.hid hsb
  have HE0 := Lib.hid e0
  rw [e0]
  clear hn hA hc hz hsb e0
  go_enter Tryz.func56, Tryz.ntmps56
  go_wp2_with fail
  go_loopw [5] (fun i wl => ∃ k : Nat, k ≤ n ∧ i = .int .i64 k ∧ Hid (∀ i (h : i < l.length), i < k → l[i] < s) ∧ Hid (wl = W))
    (fun i _ => n - (intOf i).toNat)
  case atStart => exact ⟨0, Nat.zero_le _, rfl, fun _ _ h => by omega, rfl⟩
  case round =>
    obtain ⟨k, hk, rfl, HF, HE⟩ := hrel
    have hE := HE.out
    subst hE
    by_cases hlt : k < n
    · have hkl : k < l.length := by rw [← HN.out]; exact hlt
      rcases HA.out with e | ⟨b, o, e, hb, hcl⟩
      · subst e; simp at hkl
      subst e
      obtain ⟨y, hy⟩ : ∃ y, y = l[k] := ⟨_, rfl⟩
      have c0 : wr.cell? ⟨b, o + k, none⟩ = some (vT y) := by
        have := cellT.1 (hcl k hkl)
        rw [hy]; rwa [show k * ET.k = k from Nat.mul_one k] at this
      have HY := Lib.hid hy
      obtain ⟨yb, hyb⟩ : ∃ z : ByteArray, z = ⟨y.toArray⟩ := ⟨_, rfl⟩
      have e1 : vT y = .string yb := by rw [hyb]; rfl
      rw [e1] at c0
      have h1 := less_T y s
      have h2 := same_T y s
      rw [← hyb, ← HSB.out] at h1 h2
      clear hcl hy hyb e1
      have g1 : (k : Int) < (n : Int) := by omega
      by_cases hc0 : y < s
      · rw [decide_eq_true hc0] at h1
        have HF2 : Hid (∀ i (h : i < l.length), i < k + 1 → l[i] < s) := by
          intro i hi hik
          rcases (by omega : i < k ∨ i = k) with h | h
          · exact HF.out i hi h
          · subst h; rw [← HY.out]; exact hc0
        clear h2 hc0
        go_wp2_with fail
        go_roundw
        case rel => exact ⟨k + 1, by omega, by go_num, HF2.out, by first | rfl | trivial⟩
        case measure => simp [intOf]; omega
      · rw [decide_eq_false hc0] at h1
        have HP : Hid (insT s l = if y = s then l else l.take k ++ [s] ++ l.drop k) := by
          show _ = _
          rw [insT_at hkl HF.out (by rw [← HY.out]; exact hc0), ← HY.out]
        by_cases hys : y = s
        · rw [decide_eq_true hys] at h2
          have HF2 : Hid (insT s l = l) := by show _ = _; rw [HP.out, if_pos hys]
          clear hys hc0
          go_wp2_with fail
          go_ret
          refine ⟨_, rfl, ?_, Below.refl _ _⟩
          rw [HF2.out]
          exact HR.out
        · rw [decide_eq_false hys] at h2
          have HF2 : Hid (insT s l = l.take k ++ s :: l.drop k) := by show _ = _; rw [HP.out, if_neg hys]; simp
          have hkc : k < c := by have := HC.out; omega
          have hkn : k ≤ n := by omega
          have HLt : Hid ((l.take k).length ≤ 100000) := by show _ ≤ _; rw [List.length_take]; omega
          have HLd : Hid ((l.drop k).length ≤ 100000) := by show _ ≤ _; rw [List.length_drop, ← HN.out]; omega
          have HT := Lib.hid (HR.out.cutTo HN.out hkn)
          have HD : Hid (RdG ET wr wr.heap.size (.slice (some ⟨b, o + k, none⟩) (n - k) (c - k)) (l.drop k)) := by
            have := HR.out.cutFrom HN.out hkn
            rwa [show k * ET.k = k from Nat.mul_one k] at this
          clear hys hc0 HP
          go_wp2_with (first | (at_builtin; refine appNG ET rfl _ _ 47 9 rfl Tryz.underlying47 info_T rfl (by decide) wr.heap.size (.slice none 0 0) [] _ (l.take k) wr.heap.size rfl (OwnG.nil _ _) rfl HT.out ?z2 ?z3 ?_) | fail)
          case z2 => have := HLt.out; first | omega | (simp; omega)
          try case z3 => exact Nat.le_refl _
          intro v1 w4 hown hg hloc _
          have HB4 : Hid (Below wr.heap.size wr w4) := (Below.refl _ _).grown hg (Nat.le_refl _) (fun g hg' => by simp [Value.ownBlock] at hg')
          clear hg hloc
          go_wp2_with (first | (at_builtin; refine app1G ET rfl _ _ 47 9 rfl Tryz.underlying47 info_T rfl (by decide) wr.heap.size _ (l.take k) s rfl (hown.alloc _) w4.heap.size 0 1 rfl (CellG.mk (by show [_] = [vT s]; rw [HE0.out]) _) ?y1 ?y2 ?_) | fail)
          case y1 => have := HLt.out; omega
          case y2 => have := HB4.out.size; simp; omega
          intro v2 w5 hown2 hg hloc
          have HB5 : Hid (Below wr.heap.size wr w5) := (HB4.out.alloc HB4.out.size _).grown hg (by have := HB4.out.size; simp; omega) (fun g hg' => (hown.blk hg').1)
          clear hg hloc hown
          go_wp2_with (first | (at_builtin; refine appNG ET rfl _ _ 47 9 rfl Tryz.underlying47 info_T rfl (by decide) wr.heap.size _ (l.take k ++ [s]) _ (l.drop k) w5.heap.size rfl hown2 rfl (HD.out.on HB5.out) ?x2 ?x3 ?_) | fail)
          case x2 => have := HLt.out; have := HLd.out; simp only [List.length_append, List.length_singleton]; omega
          case x3 => exact HB5.out.size
          intro v3 w6 hown3 hg hloc _
          have HB6 : Hid (Below wr.heap.size wr w6) := HB5.out.grown hg HB5.out.size (fun g hg' => (hown2.blk hg').1)
          have HO := Lib.hid hown3
          clear hg hloc hown2 hown3
          go_wp2_with fail
          go_ret
          exact ⟨_, rfl, by rw [HF2.out]; exact HO.out.rd, HB6.out⟩
    · obtain rfl : n = k := by omega
      have HF2 : Hid (insT s l = l ++ [s]) := insT_end fun i hi => HF.out i hi (by rw [HN.out]; exact hi)
      have i1 : ¬ (n : Int) < (n : Int) := by omega
      have hcn : n ≤ c := HC.out
      have HLt : Hid (l.length ≤ 100000) := by show _ ≤ _; rw [← HN.out]; exact hl
      clear HF
      go_wp2_with (first | (at_builtin; refine appNG ET rfl _ _ 47 9 rfl Tryz.underlying47 info_T rfl (by decide) wr.heap.size (.slice none 0 0) [] _ l wr.heap.size rfl (OwnG.nil _ _) rfl HR.out ?z2 ?z3 ?_) | fail)
      case z2 => have := HLt.out; first | omega | (simp; omega)
      try case z3 => exact Nat.le_refl _
      intro v1 w4 hown hg hloc _
      have HB4 : Hid (Below wr.heap.size wr w4) := (Below.refl _ _).grown hg (Nat.le_refl _) (fun g hg' => by simp [Value.ownBlock] at hg')
      clear hg hloc
      go_wp2_with (first | (at_builtin; refine app1G ET rfl _ _ 47 9 rfl Tryz.underlying47 info_T rfl (by decide) wr.heap.size _ l s rfl (hown.alloc _) w4.heap.size 0 1 rfl (CellG.mk (by show [_] = [vT s]; rw [HE0.out]) _) ?y1 ?y2 ?_) | fail)
      case y1 => have := HLt.out; omega
      case y2 => have := HB4.out.size; simp; omega
      intro v2 w5 hown2 hg hloc
      have HB5 : Hid (Below wr.heap.size wr w5) := (HB4.out.alloc HB4.out.size _).grown hg (by have := HB4.out.size; simp; omega) (fun g hg' => (hown.blk hg').1)
      clear hg hloc hown
      have HO2 := Lib.hid hown2
      clear hown2
      cases A with
      | none =>
        have hc0 : c = 0 := HZ.out rfl
        have hn0 : n = 0 := by omega
        subst hc0
        clear hcn i1
        subst hn0
        go_wp2_with (first | (at_builtin; refine appNG ET rfl _ _ 47 9 rfl Tryz.underlying47 info_T rfl (by decide) wr.heap.size _ (l ++ [s]) _ [] w5.heap.size rfl HO2.out rfl ⟨_, _, rfl, Nat.zero_le _, (by first | (intro e; cases e; done) | (intro _; rfl)), .inl rfl⟩ ?x2 ?x3 ?_) | fail)
        case x2 => have := HLt.out; (try simp only [List.length_append, List.length_singleton, List.length_nil]); omega
        case x3 => exact HB5.out.size
        intro v3 w6 hown3 hg hloc _
        have HB6 : Hid (Below wr.heap.size wr w6) := HB5.out.grown hg HB5.out.size (fun g hg' => (HO2.out.blk hg').1)
        have HO := Lib.hid hown3
        clear hg hloc hown3
        go_wp2_with fail
        go_ret
        exact ⟨_, rfl, by rw [HF2.out]; first | exact HO.out.rd | (have := HO.out.rd; rwa [List.append_nil] at this), HB6.out⟩
      | some ad =>
        rcases Nat.lt_or_ge n c with hlt2 | hge2
        · go_wp2_with (first | (at_builtin; refine appNG ET rfl _ _ 47 9 rfl Tryz.underlying47 info_T rfl (by decide) wr.heap.size _ (l ++ [s]) _ [] w5.heap.size rfl HO2.out rfl ⟨_, _, rfl, Nat.zero_le _, (by first | (intro e; cases e; done) | (intro _; rfl)), .inl rfl⟩ ?x2 ?x3 ?_) | fail)
          case x2 => have := HLt.out; (try simp only [List.length_append, List.length_singleton, List.length_nil]); omega
          case x3 => exact HB5.out.size
          intro v3 w6 hown3 hg hloc _
          have HB6 : Hid (Below wr.heap.size wr w6) := HB5.out.grown hg HB5.out.size (fun g hg' => (HO2.out.blk hg').1)
          have HO := Lib.hid hown3
          clear hg hloc hown3
          go_wp2_with fail
          go_ret
          exact ⟨_, rfl, by rw [HF2.out]; first | exact HO.out.rd | (have := HO.out.rd; rwa [List.append_nil] at this), HB6.out⟩
        · obtain rfl : n = c := by omega
          clear hge2 hlt hk hcn
          go_wp2_with (first | (at_builtin; refine appNG ET rfl _ _ 47 9 rfl Tryz.underlying47 info_T rfl (by decide) wr.heap.size _ (l ++ [s]) _ [] w5.heap.size rfl HO2.out rfl ⟨_, _, rfl, Nat.zero_le _, (by first | (intro e; cases e; done) | (intro _; rfl)), .inl rfl⟩ ?x2 ?x3 ?_) | fail)
          case x2 => have := HLt.out; (try simp only [List.length_append, List.length_singleton, List.length_nil]); omega
          case x3 => exact HB5.out.size
          intro v3 w6 hown3 hg hloc _
          have HB6 : Hid (Below wr.heap.size wr w6) := HB5.out.grown hg HB5.out.size (fun g hg' => (HO2.out.blk hg').1)
          have HO := Lib.hid hown3
          clear hg hloc hown3
          go_wp2_with fail
          go_ret
          exact ⟨_, rfl, by rw [HF2.out]; first | exact HO.out.rd | (have := HO.out.rd; rwa [List.append_nil] at this), HB6.out⟩
theorem textsS_snoc (l : List Str) (x : Str) : textsS (l ++ [x]) = insT x (textsS l) := by unfold textsS; rw [List.foldl_append]; rfl
theorem textsS_len (l : List Str) : (textsS l).length ≤ l.length := by
  have : ∀ r : List Str, (l.foldl (fun r s => insT s r) r).length ≤ r.length + l.length := by
    induction l with
    | nil => intro r; simp
    | cons a l ih => intro r; have h1 := ih (insT a r); have h2 := insT_len a r; rw [List.foldl_cons, List.length_cons]; omega
  have := this []
  simpa [textsS] using this
/-- All names of series' labels, one behind the other. -/
def nmsX (L : List Ser) : List Str := L.flatMap (fun x => x.1.map (·.1))
theorem nmsX_take {L : List Ser} {k : Nat} {y : Ser} (hk : k < L.length) (hy : y = L[k]) : nmsX (L.take (k + 1)) = nmsX (L.take k) ++ y.1.map (·.1) := by
  unfold nmsX
  rw [List.take_succ_eq_append_getElem hk, ← hy, List.flatMap_append]; simp
theorem map_take_succ {l : Lbs} {k : Nat} {y : Lb} (hk : k < l.length) (hy : y = l[k]) : (l.take (k + 1)).map (·.1) = (l.take k).map (·.1) ++ [y.1] := by
  rw [List.take_succ_eq_append_getElem hk, ← hy, List.map_append]; rfl
theorem nmsX_le {L : List Ser} {k j : Nat} {y : Ser} (hk : k < L.length) (hy : y = L[k]) (hj : j ≤ y.1.length) : (nmsX (L.take k) ++ (y.1.take j).map (·.1)).length ≤ (nmsX L).length := by
  have h1 : nmsX L = nmsX (L.take k) ++ (y.1.map (·.1) ++ nmsX (L.drop (k + 1))) := by
    conv => lhs; rw [← List.take_append_drop (k + 1) L]
    unfold nmsX
    rw [List.flatMap_append]
    have := nmsX_take hk hy
    unfold nmsX at this
    rw [this, List.append_assoc]
  rw [h1, List.length_append, List.length_append, List.length_append, List.length_map, List.length_map, List.length_take]
  omega
set_option maxRecDepth 100000 in
set_option maxHeartbeats 4000000 in
/-- eskerref20.Names. -/
theorem ref_names (every keep now : Int) (Lv : Value) (L : List Ser) (W : World) (hL : RdX W W.heap.size Lv L) (hf : L.length ≤ 100000 ∧ (∀ x ∈ L, x.1.length ≤ 1000000) ∧ (nmsX L).length ≤ 100000) :
    Calls Tryz.prog 25 #[vO every keep now Lv] W fun e w' => ∃ r, e = .returned r ∧ RdG ET w' w'.heap.size r (textsS (nmsX L)) ∧ Below W.heap.size W w' := by
  obtain ⟨A, c, rfl, hc, hA⟩ := hL
  obtain ⟨n, hn⟩ : ∃ n, n = L.length := ⟨_, rfl⟩
  rw [← hn]
  obtain ⟨W1, hW1⟩ : ∃ W1, W1 = W.alloc (.cells #[.int .i64 every, .int .i64 keep, .int .i64 now, .slice A n c] 65) := ⟨_, rfl⟩
  have HB1 : Hid (Below W.heap.size W W1) := by show Below _ _ _; rw [hW1]; exact (Below.refl _ _).alloc (Nat.le_refl _) _
  have KC : Hid (∀ w, Below W1.heap.size W1 w → w.cell? ⟨W.heap.size, 3, none⟩ = some (.slice A n c)) := fun w h => by
    have l0 : W.heap.size < W1.heap.size := by rw [hW1]; simp
    rw [h.cell l0, hW1]; exact new_cell _ _ _ 3
  have KT : Hid (∀ (y : Str) (v : Value) (l : List Str) (w : World), RdG ET w w.heap.size v l → l.length ≤ 100000 → Calls Tryz.prog 56 #[v, vT y] w fun e w' => ∃ r, e = .returned r ∧ RdG ET w' w'.heap.size r (insT y l) ∧ Below w.heap.size w w') := fun y v l w h1 h2 => ref_txt v l y w h1 h2
  have HA := Lib.hid hA
  have HN := Lib.hid hn
  have HF := Lib.hid hf
  have hn1 : n ≤ 100000 := by rw [hn]; exact hf.1
  unfold vO
  clear hc hA hn hf
  go_enter Tryz.func25, Tryz.ntmps25
  go_wp2_with fail
  rw [← hW1]
  clear hW1
  go_loopw [3, 4, 5] (fun ov iv _ wl => ∃ (k : Nat), k ≤ n ∧ iv = .int .i64 k ∧ Hid (RdG ET wl wl.heap.size ov (textsS (nmsX (L.take k)))) ∧ Hid (Below W1.heap.size W1 wl))
    (fun _ iv _ _ => n - (intOf iv).toNat)
  case atStart => exact ⟨0, Nat.zero_le _, rfl, RdG.nil _ _, Below.refl _ _⟩
  case round =>
    obtain ⟨k, hk, rfl, HO, HB⟩ := hrel
    have b0 := KC.out wr HB.out
    by_cases hlt : k < n
    · have hl2 : k < L.length := by rw [← HN.out]; exact hlt
      rcases HA.out with h0 | ⟨b, o, e, hb, hcl⟩
      · rw [h0] at hl2; simp at hl2
      subst e
      obtain ⟨y, hy⟩ : ∃ y, y = L[k] := ⟨_, rfl⟩
      obtain ⟨lx, sx, c0, _, hlx, _, _, _⟩ : SerAt W W.heap.size b (o + k * 2) y := by rw [hy]; exact hcl k hl2
      have hyl := HF.out.2.1 y (by rw [hy]; exact List.getElem_mem hl2)
      have HY := Lib.hid hy
      obtain ⟨LX, cx, rfl, _, hLX⟩ := id hlx
      obtain ⟨m, hm⟩ : ∃ m, m = y.1.length := ⟨_, rfl⟩
      rw [← hm] at c0 hyl
      have HM := Lib.hid hm
      have HLX := Lib.hid hLX
      have KC2 : Hid (∀ w, Below W1.heap.size W1 w → w.cell? ⟨b, o + k * 2, none⟩ = some (.slice LX m cx)) := fun w h => ((HB1.out.trans (h.mono HB1.out.size)).cell hb).trans c0
      have a0 := KC2.out wr HB.out
      have i1 : (k : Int) < (n : Int) := by omega
      obtain ⟨w1, hw1⟩ : ∃ w1, w1 = wr := ⟨_, rfl⟩
      subst hw1
      clear hy hcl c0 hlx hLX hm
      go_wp2_with fail
      go_loopw [3, 5] (fun ov jv wl => ∃ (j : Nat), j ≤ m ∧ jv = .int .i64 j ∧ Hid (RdG ET wl wl.heap.size ov (textsS (nmsX (L.take k) ++ (y.1.take j).map (·.1)))) ∧ Hid (Below W1.heap.size W1 wl))
        (fun _ jv _ => m - (intOf jv).toNat)
      case atStart => exact ⟨0, Nat.zero_le _, rfl, (by have := HO.out; simpa using this : RdG ET w1 w1.heap.size _ (textsS (nmsX (L.take k) ++ (y.1.take 0).map (·.1)))), HB.out⟩
      case round =>
        obtain ⟨j, hj, rfl, HO2, HB2⟩ := hrel
        have b0 := KC.out wr HB2.out
        have a0 := KC2.out wr HB2.out
        by_cases hlj : j < m
        · have hl3 : j < y.1.length := by rw [← HM.out]; exact hlj
          rcases HLX.out with h0 | ⟨b2, o2, e, hb2, hcl2⟩
          · rw [h0] at hl3; simp at hl3
          subst e
          obtain ⟨z, hz⟩ : ∃ z, z = y.1[j] := ⟨_, rfl⟩
          obtain ⟨d0, d1⟩ : Cell2 wr b2 (o2 + j * 2) z := by rw [hz]; exact (hcl2 j hl3).below (HB1.out.trans (HB2.out.mono HB1.out.size)) hb2
          have hlen : (textsS (nmsX (L.take k) ++ (y.1.take j).map (·.1))).length ≤ 100000 := by
            have h1 := nmsX_le hl2 HY.out (show j ≤ y.1.length by omega)
            have h2 := textsS_len (nmsX (L.take k) ++ (y.1.take j).map (·.1))
            have := HF.out.2.2
            omega
          have K1 := Lib.hid (KT.out z.1 _ _ wr HO2.out hlen)
          have HEQ : Hid (insT z.1 (textsS (nmsX (L.take k) ++ (y.1.take j).map (·.1))) = textsS (nmsX (L.take k) ++ (y.1.take (j + 1)).map (·.1))) := by
            show _ = _
            rw [map_take_succ hl3 hz, ← List.append_assoc, textsS_snoc]
          have j1 : (j : Int) < (m : Int) := by omega
          clear hz hcl2 hlen d1 HO2
          unfold vT at d0 K1
          go_wp2_with fail
          refine K1.out.mono ?_
          rintro e w2 ⟨r, rfl, hR2, hB2⟩
          have HB3 : Hid (Below W1.heap.size W1 w2) := HB2.out.trans (hB2.mono HB2.out.size)
          have HR2 : Hid (RdG ET w2 w2.heap.size r (textsS (nmsX (L.take k) ++ (y.1.take (j + 1)).map (·.1)))) := HEQ.out ▸ hR2
          clear hR2 hB2 K1 HEQ b0 a0 d0
          go_wp2_with fail
          go_roundw
          case rel => exact ⟨j + 1, by omega, by go_num, HR2.out, HB3.out⟩
          case measure => simp [intOf]; omega
        · have hjm : j = m := by omega
          have j1 : ¬ (j : Int) < (m : Int) := by omega
          have HEQ : Hid (textsS (nmsX (L.take k) ++ (y.1.take j).map (·.1)) = textsS (nmsX (L.take (k + 1)))) := by
            show _ = _
            rw [nmsX_take hl2 HY.out, hjm, HM.out, List.take_length]
          have HR2 := HO2.out
          rw [HEQ.out] at HR2
          have HR2 := Lib.hid HR2
          clear HEQ HO2 hjm
          go_wp2_with fail
          go_roundw
          case rel => exact ⟨k + 1, by omega, by go_num, HR2.out, HB2.out⟩
          case measure => simp [intOf]; omega
    · have hkn : k = n := by omega
      have i1 : ¬ (k : Int) < (n : Int) := by omega
      have HR2 := HO.out
      rw [hkn, HN.out, List.take_length] at HR2
      have HR2 := Lib.hid HR2
      clear HO
      go_wp2_with fail
      go_ret
      exact ⟨_, rfl, HR2.out, HB1.out.trans (HB.out.mono HB1.out.size)⟩
end Go.Proofs.YtkgcbeokfilehaaGreatDoor
