/-
  labels.Get, labels.Compare.
-/
import Derived.Test.YtkgcbeokfilehaaGreatDoorVgd
import Derived.Test.YtkgcbeokfilehaaGreatDoorVbd
namespace Go.Proofs.YtkgcbeokfilehaaGreatDoor
open Go.RowKit Go.Sort Go.Shelf
theorem eqF_str {P : Program} {d : Nat} {xs ys : Array Value} {f : Field} {fs : List Field} {w : World} {a b : ByteArray} {t : TypeId} (hn : f.name ≠ "_") (hg : ∀ w, (isAgg t).run P w = .ok false w) (ht : P.underlying t = some .string) (e : f.type = t) (hx : xs[f.offset]? = some (.string a)) (hy : ys[f.offset]? = some (.string b)) :
    (Op.eqFields (d + 1) xs ys (f :: fs)).run P w = if a = b then (Op.eqFields (d + 1) xs ys fs).run P w else .ok false w := by
  subst e
  simp only [Op.eqFields, hn, ne_eq, not_false_eq_true, if_true, Sem.run_bind, part, hg, Result.andThen_ok, hx, hy, Sem.run_pure, run_equalIn_string w d f.type a b ht, Bool.false_eq_true, if_false]
  by_cases h : a = b
  · subst h; simp
  · have : (a.toList == b.toList) = false := by
      rw [beq_eq_false_iff_ne, Lib.toList_data, Lib.toList_data]
      intro e
      apply h
      cases a; cases b
      simpa using e
    simp [h, this]
def fdN : Field := ⟨"Name", 9, 0, false, "", "", 0⟩
def fdW : Field := ⟨"Value", 9, 1, false, "", "", 16⟩
theorem eq_Lb0 (d : Nat) (a b a' b' : ByteArray) (w : World) : (Op.eqFields (d + 1) #[.string a, .string b] #[.string a', .string b'] [fdN, fdW]).run Tryz.prog w = .ok (decide (a = a' ∧ b = b')) w := by
  have e1 := eqF_str (P := Tryz.prog) (d := d) (xs := #[.string a, .string b]) (ys := #[.string a', .string b']) (f := fdN) (fs := [fdW]) (w := w) (a := a) (b := a') (by decide) Tryz.isAgg9 Tryz.underlying9 rfl rfl rfl
  have e2 := eqF_str (P := Tryz.prog) (d := d) (xs := #[.string a, .string b]) (ys := #[.string a', .string b']) (f := fdW) (fs := []) (w := w) (a := b) (b := b') (by decide) Tryz.isAgg9 Tryz.underlying9 rfl rfl rfl
  rw [e1, e2, eqF_nil]
  by_cases h1 : a = a' <;> by_cases h2 : b = b' <;> simp [h1, h2]
theorem eq_LbI (d : Nat) (a b a' b' : ByteArray) (w : World) : (Op.equalIn (d + 2) 59 (.agg #[.string a, .string b]) (.agg #[.string a', .string b'])).run Tryz.prog w = .ok (decide (a = a' ∧ b = b')) w := by
  rw [run_equalIn_struct w (d + 1) 59 _ _ (by rw [flds_eq Tryz.underlying59]; exact Tryz.underlying59) (by kernel_rfl), flds_eq Tryz.underlying59]
  exact eq_Lb0 d a b a' b' w
theorem eql_Lb (a b a' b' : ByteArray) (w : World) : (binOp .eql 59 (.agg #[.string a, .string b]) (.agg #[.string a', .string b'])).run Tryz.prog w = .ok (.bool (decide (a = a' ∧ b = b'))) w := by
  have h := eq_LbI 9998 a b a' b' w
  rw [run_eql_struct, h]; rfl
theorem neq_Lb (a b a' b' : ByteArray) (w : World) : (binOp .neq 59 (.agg #[.string a, .string b]) (.agg #[.string a', .string b'])).run Tryz.prog w = .ok (.bool (!decide (a = a' ∧ b = b'))) w := by
  have h := eq_LbI 9998 a b a' b' w
  rw [run_neq_struct, h]; rfl
theorem guard_Lb (op : BinOp) (x y : Operand) (a b a' b' : ByteArray) (w : World) : (eqGuard op 59 x y (.agg #[.string a, .string b]) (.agg #[.string a', .string b'])).run Tryz.prog w = .ok () w := run_eqGuard_agg w op 59 x y _ _ (by kernel_rfl)
/-- Two texts in memory. -/
def cmpB (a b : ByteArray) : Int := cmpT a.data.toList b.data.toList
theorem cmpB_walk (a b : ByteArray) (W : World) : Calls Tryz.prog 64 #[.string a, .string b] W fun e w' => e = .returned (.int .i64 (cmpB a b)) ∧ w' = W := cmpT_walk a.data.toList b.data.toList W
set_option maxRecDepth 100000 in
set_option maxHeartbeats 1000000 in
theorem cmpC_walk (x y : Lb) (W : World) : Calls Tryz.prog 76 #[.agg #[vT x.1, vT x.2], .agg #[vT y.1, vT y.2]] W fun e w' => e = .returned (.int .i64 (cmpLb x y)) ∧ Ext W w' := by
  obtain ⟨x1, hx1⟩ : ∃ a : ByteArray, a = ⟨x.1.toArray⟩ := ⟨_, rfl⟩
  obtain ⟨x2, hx2⟩ : ∃ a : ByteArray, a = ⟨x.2.toArray⟩ := ⟨_, rfl⟩
  obtain ⟨y1, hy1⟩ : ∃ a : ByteArray, a = ⟨y.1.toArray⟩ := ⟨_, rfl⟩
  obtain ⟨y2, hy2⟩ : ∃ a : ByteArray, a = ⟨y.2.toArray⟩ := ⟨_, rfl⟩
  unfold vT
  rw [← hx1, ← hx2, ← hy1, ← hy2]
  have heq : (x1 = y1 ∧ x2 = y2) ↔ x = y := by
    subst hx1 hx2 hy1 hy2
    constructor
    · rintro ⟨h1, h2⟩
      injection h1 with h1
      injection h2 with h2
      exact Prod.ext (by simpa using congrArg Array.toList h1) (by simpa using congrArg Array.toList h2)
    · rintro rfl; exact ⟨rfl, rfl⟩
  have hu : cmpLb x y = orI (cmpB x1 y1) (cmpB x2 y2) := by subst hx1 hx2 hy1 hy2; rfl
  obtain ⟨p, hp⟩ : ∃ p, p = decide (x1 = y1 ∧ x2 = y2) := ⟨_, rfl⟩
  have hne : ∀ w, (binOp .eql 59 (.agg #[.string x1, .string x2]) (.agg #[.string y1, .string y2])).run Tryz.prog w = .ok (.bool p) w := fun w => by rw [hp]; exact eql_Lb x1 x2 y1 y2 w
  have hgd : ∀ op x' y' w, (eqGuard op 59 x' y' (.agg #[.string x1, .string x2]) (.agg #[.string y1, .string y2])).run Tryz.prog w = .ok () w := fun op x' y' w => guard_Lb op x' y' x1 x2 y1 y2 w
  have HP := Lib.hid hp
  have HU := Lib.hid hu
  have HEQ := Lib.hid heq
  obtain ⟨f, hf⟩ : ∃ f : ByteArray → ByteArray → Int, f = cmpB := ⟨_, rfl⟩
  have KC : Hid (∀ a b W, Calls Tryz.prog 64 #[.string a, .string b] W fun e w' => e = .returned (.int .i64 (f a b)) ∧ w' = W) := fun a b W => by rw [hf]; exact cmpB_walk a b W
  obtain ⟨W1, hW1⟩ : ∃ W1, W1 = (W.alloc (.cells #[.string x1, .string x2] 59)).alloc (.cells #[.string y1, .string y2] 59) := ⟨_, rfl⟩
  have HE1 : Hid (Ext W W1) := by show Ext _ _; rw [hW1]; exact ((Ext.refl W).alloc _).alloc _
  have a0 : W1.cell? ⟨W.heap.size, 0, none⟩ = some (.string x1) := by rw [hW1]; simp
  have a1 : W1.cell? ⟨W.heap.size, 1, none⟩ = some (.string x2) := by rw [hW1]; simp
  have b0 : W1.cell? ⟨W.heap.size + 1, 0, none⟩ = some (.string y1) := by rw [hW1]; simp
  have b1 : W1.cell? ⟨W.heap.size + 1, 1, none⟩ = some (.string y2) := by rw [hW1]; simp
  have KE : Hid (∀ w', Ext W1 w' → w'.cell? ⟨W.heap.size, 0, none⟩ = some (.string x1) ∧ w'.cell? ⟨W.heap.size, 1, none⟩ = some (.string x2) ∧ w'.cell? ⟨W.heap.size + 1, 0, none⟩ = some (.string y1) ∧ w'.cell? ⟨W.heap.size + 1, 1, none⟩ = some (.string y2)) := fun w' h => ⟨h.cell_some a0, h.cell_some a1, h.cell_some b0, h.cell_some b1⟩
  have HF : Hid (f = cmpB) := hf
  have hE0 := Ext.refl W1
  clear hx1 hx2 hy1 hy2 hp hu heq hf
  cases p with
  | true =>
    have h0 : Hid (cmpLb x y = 0) := cmpLb_eq.2 (HEQ.out.1 (of_decide_eq_true HP.out.symm))
    rw [h0.out]
    clear HU HEQ HP KC KE a0 a1 b0 b1 hE0
    go_enter Tryz.func76, Tryz.ntmps76
    go_wp2_with fail
    go_ret
    exact ⟨rfl, ((Ext.refl W).alloc _).alloc _⟩
  | false =>
    rw [HU.out, ← HF.out]
    clear HU HEQ HP HF
    go_enter Tryz.func76, Tryz.ntmps76
    go_wp2_with fail
    rw [← hW1]
    clear hW1 hne hgd
    go_region_held3 (fun w' => w'.cell? ⟨W.heap.size, 0, none⟩ = some (.string x1) ∧ w'.cell? ⟨W.heap.size, 1, none⟩ = some (.string x2) ∧ w'.cell? ⟨W.heap.size + 1, 0, none⟩ = some (.string y1) ∧ w'.cell? ⟨W.heap.size + 1, 1, none⟩ = some (.string y2) ∧ Ext W1 w')
      (first | assumption | (have hd := Ext.drew (by assumption : Ext W1 _); exact ⟨(KE.out _ hd).1, (KE.out _ hd).2.1, (KE.out _ hd).2.2.1, (KE.out _ hd).2.2.2, hd⟩) | (exact ⟨(KE.out _ (Ext.drew (Ext.alloc hE0 _))).1, (KE.out _ (Ext.drew (Ext.alloc hE0 _))).2.1, (KE.out _ (Ext.drew (Ext.alloc hE0 _))).2.2.1, (KE.out _ (Ext.drew (Ext.alloc hE0 _))).2.2.2, Ext.drew (Ext.alloc hE0 _)⟩) | exact ⟨by assumption, by assumption, by assumption, by assumption, by assumption⟩)
      (first
        | (go_at_call 64; refine (KC.out _ _ _).mono ?_; rintro e w' ⟨rfl, rfl⟩)
        | (go_at_call 77; refine (or_walk _ _ _ 2 _ (new_cell _ _ _ 0) (new_cell _ _ _ 1)).mono ?_; rintro e w3 ⟨rfl, rfl⟩))
    go_wp2_with fail
    go_ret
    exact ⟨rfl, HE1.out.trans (by first | assumption | exact Ext.alloc (by assumption) _ | exact Ext.alloc (Ext.drew (by assumption)) _)⟩
theorem cmpRow_drop {a b : Lbs} {k : Nat} {x y : Lb} (ha : k < a.length) (hb : k < b.length) (hx : x = a[k]) (hy : y = b[k]) : cmpRow (a.drop k) (b.drop k) = if cmpLb x y ≠ 0 then cmpLb x y else cmpRow (a.drop (k + 1)) (b.drop (k + 1)) := by
  rw [List.drop_eq_getElem_cons ha, List.drop_eq_getElem_cons hb, ← hx, ← hy]
  rfl
set_option maxRecDepth 100000 in
set_option maxHeartbeats 1000000 in
theorem cmpF_walk (va vb : Value) (a b : Lbs) (W : World) (hRa : RdL W W.heap.size va a) (hRb : RdL W W.heap.size vb b) (hla : a.length ≤ 1000000) :
    Calls Tryz.prog 75 #[va, vb, .func (.func 76) #[] #[]] W fun e w' => e = .returned (.int .i64 (cmpRow a b)) ∧ Ext W w' := by
  obtain ⟨A, ca, rfl, hca, hA⟩ := hRa
  obtain ⟨B, cb, rfl, hcb, hB⟩ := hRb
  have HA := Lib.hid hA
  have HB := Lib.hid hB
  obtain ⟨q, hq⟩ : ∃ q, q = cmpRow a b := ⟨_, rfl⟩
  have HQ : Hid (q = cmpRow a b) := hq
  rw [← hq]
  obtain ⟨n, hn⟩ : ∃ n, n = a.length := ⟨_, rfl⟩
  obtain ⟨m, hm⟩ : ∃ m, m = b.length := ⟨_, rfl⟩
  rw [← hn] at hla ⊢
  rw [← hm]
  have HN : Hid (n = a.length) := hn
  have HM : Hid (m = b.length) := hm
  have KC : Hid (∀ (x y : Lb) W, Calls Tryz.prog 76 #[.agg #[vT x.1, vT x.2], .agg #[vT y.1, vT y.2]] W fun e w' => e = .returned (.int .i64 (cmpLb x y)) ∧ Ext W w') := fun x y W => cmpC_walk x y W
  clear hq hA hB hca hcb hn hm
  go_enter Tryz.func75, Tryz.ntmps75
  go_wp2_with fail
  go_loopw [13] (fun i wl => ∃ k : Nat, k ≤ n ∧ k ≤ m ∧ i = .int .i64 k ∧ Hid (q = cmpRow (a.drop k) (b.drop k)) ∧ Hid (Ext W wl)) (fun i _ => n - (intOf i).toNat)
  case atStart => exact ⟨0, Nat.zero_le _, Nat.zero_le _, rfl, HQ.out, Ext.refl _⟩
  case round =>
    obtain ⟨k, hk, hkm, rfl, HT, HE⟩ := hrel
    by_cases hlt : k < n
    · have hla2 : k < a.length := by rw [← HN.out]; exact hlt
      rcases HA.out with h0 | ⟨b1, o1, e, hb1, hcl1⟩
      · subst h0; simp at hla2
      subst e
      obtain ⟨x, hx⟩ : ∃ x, x = a[k] := ⟨_, rfl⟩
      obtain ⟨c0, c1⟩ : Cell2 wr b1 (o1 + k * 2) x := by rw [hx]; exact (hcl1 k hla2).below HE.out.below hb1
      have i1 : (k : Int) < (n : Int) := by omega
      by_cases hlt2 : k < m
      · have hlb2 : k < b.length := by rw [← HM.out]; exact hlt2
        rcases HB.out with h0 | ⟨b2, o2, e', hb2, hcl2⟩
        · subst h0; simp at hlb2
        subst e'
        obtain ⟨y, hy⟩ : ∃ y, y = b[k] := ⟨_, rfl⟩
        have hd := cmpRow_drop hla2 hlb2 hx hy
        obtain ⟨d0, d1⟩ : Cell2 wr b2 (o2 + k * 2) y := by rw [hy]; exact (hcl2 k hlb2).below HE.out.below hb2
        have HD := Lib.hid hd
        have i2 : (k : Int) < (m : Int) := by omega
        have i3 : ¬ (m : Int) ≤ (k : Int) := by omega
        have KX := Lib.hid (KC.out x y)
        clear hx hy hd hcl1 hcl2
        unfold vT at c0 c1 d0 d1 KX
        obtain ⟨c, hc⟩ : ∃ c, c = cmpLb x y := ⟨_, rfl⟩
        rw [← hc] at KX
        have HC := Lib.hid hc
        generalize (⟨x.1.toArray⟩ : ByteArray) = x1 at c0 KX
        generalize (⟨x.2.toArray⟩ : ByteArray) = x2 at c1 KX
        generalize (⟨y.1.toArray⟩ : ByteArray) = y1 at d0 KX
        generalize (⟨y.2.toArray⟩ : ByteArray) = y2 at d1 KX
        clear hc
        have d0' : (wr.alloc (.cells #[.string x1, .string x2] 59)).cell? ⟨b2, o2 + k * 2, none⟩ = some (.string y1) := ((Ext.refl wr).alloc _).cell_some d0
        have d1' : (wr.alloc (.cells #[.string x1, .string x2] 59)).cell? ⟨b2, o2 + k * 2 + 1, none⟩ = some (.string y2) := ((Ext.refl wr).alloc _).cell_some d1
        go_wp2_with fail
        refine (KX.out _).mono ?_
        rintro e w2 ⟨rfl, hE2⟩
        have HE2 : Hid (Ext W w2) := (HE.out.trans (((Ext.refl wr).alloc _).alloc _)).trans hE2
        clear c0 c1 d0 d1 d0' d1' hE2 KX
        by_cases h0 : c = 0
        · have HT2 : Hid (q = cmpRow (a.drop (k + 1)) (b.drop (k + 1))) := by
            show _ = _
            rw [HT.out, HD.out, if_neg (by rw [← HC.out]; omega)]
          have g : ((c : Int) != 0) = false := by rw [h0]; rfl
          clear h0
          go_wp2_with fail
          go_roundw
          case rel => exact ⟨k + 1, by omega, by omega, by go_num, HT2.out, HE2.out⟩
          case measure => simp [intOf]; omega
        · have HT2 : Hid (q = c) := by
            show _ = _
            rw [HT.out, HD.out, if_pos (by rw [← HC.out]; exact h0), HC.out]
          have g : ((c : Int) != 0) = true := by simp [h0]
          clear h0
          go_wp2_with fail
          go_ret
          exact ⟨ret_int HT2.out.symm, HE2.out⟩
      · have hkm2 : k = m := by omega
        have HT2 : Hid (q = 1) := by
          show _ = _
          have e2 : b.drop k = [] := List.drop_of_length_le (by rw [hkm2, HM.out]; exact Nat.le_refl _)
          rw [HT.out, e2, List.drop_eq_getElem_cons hla2]; rfl
        have i3 : (m : Int) ≤ (k : Int) := by omega
        clear hx hcl1 hkm2
        unfold vT at c0 c1
        go_wp2_with fail
        go_ret
        exact ⟨ret_int HT2.out.symm, HE.out.trans ((Ext.refl wr).alloc _)⟩
    · have hkn : k = n := by omega
      have i1 : ¬ (k : Int) < (n : Int) := by omega
      by_cases hnm : n < m
      · have HT2 : Hid (q = -1) := by
          show _ = _
          have hlb : k < b.length := by rw [← HM.out]; omega
          have e1 : a.drop k = [] := List.drop_of_length_le (by rw [hkn, HN.out]; exact Nat.le_refl _)
          rw [HT.out, e1, List.drop_eq_getElem_cons hlb]; rfl
        have i2 : (n : Int) < (m : Int) := by omega
        clear hkn
        go_wp2_with fail
        go_ret
        exact ⟨ret_int HT2.out.symm, HE.out⟩
      · have HT2 : Hid (q = 0) := by
          show _ = _
          have e1 : a.drop k = [] := List.drop_of_length_le (by rw [hkn, HN.out]; exact Nat.le_refl _)
          have e2 : b.drop k = [] := List.drop_of_length_le (by have := HM.out; omega)
          rw [HT.out, e1, e2]; rfl
        have i2 : ¬ (n : Int) < (m : Int) := by omega
        clear hkn
        go_wp2_with fail
        go_ret
        exact ⟨ret_int HT2.out.symm, HE.out⟩
/-- labels.Compare. -/
theorem lcmp_walk (va vb : Value) (a b : Lbs) (W : World) (hRa : RdL W W.heap.size va a) (hRb : RdL W W.heap.size vb b) (hla : a.length ≤ 1000000) :
    Calls Tryz.prog 42 #[va, vb] W fun e w' => e = .returned (.int .i64 (cmpRow a b)) ∧ Ext W w' := by
  have K := Lib.hid (cmpF_walk va vb a b W hRa hRb hla)
  obtain ⟨A, ca, rfl, _, _⟩ := hRa
  obtain ⟨B, cb, rfl, _, _⟩ := hRb
  go_enter Tryz.func42, Tryz.ntmps42
  go_wp2_with fail
  refine K.out.mono ?_
  rintro e w2 ⟨rfl, hE2⟩
  go_wp2_with fail
  go_ret
  exact ⟨rfl, hE2⟩
theorem getC_walk (x : Lb) (nm : Str) (w : World) (p : Nat) (hp : w.cell? ⟨p, 0, none⟩ = some (vT nm)) :
    Calls Tryz.prog 125 #[.agg #[vT x.1, vT x.2], .pointer (some ⟨p, 0, none⟩)] w fun e w' => e = .returned (.bool (decide (x.1 = nm))) ∧ Ext w w' := by
  have h := same_T x.1 nm
  obtain ⟨q, hq⟩ : ∃ q, q = decide (x.1 = nm) := ⟨_, rfl⟩
  rw [← hq] at h ⊢
  clear hq
  unfold vT at hp ⊢
  generalize (⟨x.1.toArray⟩ : ByteArray) = x1 at h ⊢
  generalize (⟨x.2.toArray⟩ : ByteArray) = x2
  generalize (⟨nm.toArray⟩ : ByteArray) = y1 at h hp
  have hp1 : (w.alloc (.cells #[.string x1, .string x2] 59)).cell? ⟨p, 0, none⟩ = some (.string y1) := ((Ext.refl w).alloc _).cell_some hp
  clear hp
  go_enter Tryz.func125, Tryz.ntmps125
  go_wp2_with fail
  go_ret
  exact ⟨rfl, (Ext.refl w).alloc _⟩
def idxL (nm : Str) (l : Lbs) : Int := match l.findIdx? (fun x => decide (x.1 = nm)) with | some i => i | none => -1
theorem idxL_step {nm : Str} {l : Lbs} {k : Nat} {y : Lb} (hk : k < l.length) (hy : y = l[k]) (h : (l.take k).findIdx? (fun x => decide (x.1 = nm)) = none) :
    (decide (y.1 = nm) = true → idxL nm l = k) ∧ (decide (y.1 = nm) = false → (l.take (k + 1)).findIdx? (fun x => decide (x.1 = nm)) = none) := by
  constructor
  · intro ho
    unfold idxL
    have : l.findIdx? (fun x => decide (x.1 = nm)) = some k := by
      rw [List.findIdx?_eq_some_iff_getElem]
      refine ⟨hk, by rw [← hy]; exact ho, fun j hj => ?_⟩
      rw [List.findIdx?_eq_none_iff] at h
      have := h l[j] (by rw [List.mem_take_iff_getElem]; exact ⟨j, by omega, rfl⟩)
      simpa using this
    rw [this]
  · intro ho
    rw [List.findIdx?_eq_none_iff] at *
    intro x hx
    rw [List.take_succ_eq_append_getElem hk, List.mem_append, List.mem_singleton, ← hy] at hx
    rcases hx with hx | rfl
    · exact h x hx
    · exact ho
set_option maxHeartbeats 1000000 in
theorem idxL_walk (v : Value) (l : Lbs) (nm : Str) (W : World) (p : Nat) (hp : W.cell? ⟨p, 0, none⟩ = some (vT nm)) (hR : RdL W W.heap.size v l) (hl : l.length ≤ 1000000) :
    Calls Tryz.prog 124 #[v, .func (.func 125) #[] #[.pointer (some ⟨p, 0, none⟩)]] W fun e w' => e = .returned (.int .i64 (idxL nm l)) ∧ Ext W w' := by
  obtain ⟨A, c, rfl, hc, hA⟩ := hR
  have HA := Lib.hid hA
  obtain ⟨n, hn⟩ : ∃ n, n = l.length := ⟨_, rfl⟩
  rw [← hn] at hl ⊢
  have HN : Hid (n = l.length) := hn
  obtain ⟨q, hq⟩ : ∃ q, q = idxL nm l := ⟨_, rfl⟩
  rw [← hq]
  have HQ : Hid (q = idxL nm l) := hq
  have KO := Lib.hid (fun (y : Lb) (w : World) (hE : Ext W w) => getC_walk y nm w p (hE.cell_some hp))
  clear hA hn hq hp hc
  go_enter Tryz.func124, Tryz.ntmps124
  go_wp2_with fail
  go_loopw [8] (fun i wl => ∃ k : Nat, k ≤ n ∧ i = .int .i64 k ∧ Hid ((l.take k).findIdx? (fun x => decide (x.1 = nm)) = none) ∧ Hid (Ext W wl)) (fun i _ => n - (intOf i).toNat)
  case atStart => exact ⟨0, Nat.zero_le _, rfl, rfl, Ext.refl _⟩
  case round =>
    obtain ⟨k, hk, rfl, HI, HE⟩ := hrel
    by_cases hlt : k < n
    · have hl2 : k < l.length := by rw [← HN.out]; exact hlt
      rcases HA.out with h0 | ⟨b, o, e, hb, hcl⟩
      · subst h0; simp at hl2
      subst e
      obtain ⟨y, hy⟩ : ∃ y, y = l[k] := ⟨_, rfl⟩
      obtain ⟨c0, c1⟩ : Cell2 wr b (o + k * 2) y := by rw [hy]; exact (hcl k hl2).below HE.out.below hb
      have HX := Lib.hid (idxL_step hl2 hy HI.out)
      clear hy hcl
      have K1 := Lib.hid (KO.out y wr HE.out)
      unfold vT at c0 c1 K1
      generalize (⟨y.1.toArray⟩ : ByteArray) = y1 at c0 K1
      generalize (⟨y.2.toArray⟩ : ByteArray) = y2 at c1 K1
      obtain ⟨r, hr⟩ : ∃ r, r = decide (y.1 = nm) := ⟨_, rfl⟩
      rw [← hr] at HX K1
      clear hr
      go_wp2_with fail
      refine K1.out.mono ?_
      rintro e w2 ⟨rfl, hE2⟩
      have HE2 : Hid (Ext W w2) := HE.out.trans hE2
      clear c0 c1 hE2 K1
      cases r with
      | true =>
        have hqk : Hid (q = k) := HQ.out.trans (HX.out.1 rfl)
        clear HX
        go_wp2_with fail
        go_ret
        exact ⟨ret_int hqk.out.symm, HE2.out⟩
      | false =>
        have hI2 : Hid ((l.take (k + 1)).findIdx? (fun x => decide (x.1 = nm)) = none) := HX.out.2 rfl
        clear HX
        go_wp2_with fail
        go_roundw
        case rel => exact ⟨k + 1, by omega, by go_num, hI2.out, HE2.out⟩
        case measure => simp [intOf]; omega
    · have hqm : Hid (q = -1) := by
        show _ = _
        have hkn : k = n := by omega
        have h1 := HI.out
        rw [hkn, HN.out, List.take_length] at h1
        rw [HQ.out]; unfold idxL; rw [h1]
      go_wp2_with fail
      go_ret
      exact ⟨ret_int hqm.out.symm, HE.out⟩
theorem getL_idx (l : Lbs) (nm : Str) : (idxL nm l = -1 ∧ getL l nm = []) ∨ ∃ i, ∃ h : i < l.length, idxL nm l = i ∧ getL l nm = l[i].2 := by
  unfold idxL getL
  cases h : l.findIdx? (fun x => decide (x.1 = nm)) with
  | none =>
    left
    refine ⟨rfl, ?_⟩
    have : l.find? (fun x => decide (x.1 = nm)) = none := by
      rw [List.find?_eq_none]
      rw [List.findIdx?_eq_none_iff] at h
      intro x hx
      simpa using h x hx
    rw [this]; rfl
  | some i =>
    right
    obtain ⟨h1, h2, h3⟩ := List.findIdx?_eq_some_iff_getElem.1 h
    refine ⟨i, h1, rfl, ?_⟩
    have : l.find? (fun x => decide (x.1 = nm)) = some l[i] := by
      rw [List.find?_eq_some_iff_getElem]
      exact ⟨h2, i, h1, rfl, fun j hj => by simpa using h3 j hj⟩
    rw [this]; rfl
set_option maxHeartbeats 1000000 in
/-- labels.Get. -/
theorem get_walk (v : Value) (l : Lbs) (nm : Str) (W : World) (hR : RdL W W.heap.size v l) (hl : l.length ≤ 1000000) :
    Calls Tryz.prog 90 #[v, vT nm] W fun e w' => e = .returned (vT (getL l nm)) ∧ Ext W w' := by
  obtain ⟨W1, hW1⟩ : ∃ W1, W1 = W.alloc (.cells #[vT nm] 9) := ⟨_, rfl⟩
  have HE1 : Hid (Ext W W1) := by show Ext _ _; rw [hW1]; exact (Ext.refl W).alloc _
  have hp : W1.cell? ⟨W.heap.size, 0, none⟩ = some (vT nm) := by rw [hW1]; simp
  have KI := Lib.hid (idxL_walk v l nm W1 W.heap.size hp ((hR.below HE1.out.below).mono HE1.out.size) hl)
  have hG := getL_idx l nm
  obtain ⟨A, c, rfl, hc, hA⟩ := hR
  have HA := Lib.hid hA
  obtain ⟨n, hn⟩ : ∃ n, n = l.length := ⟨_, rfl⟩
  rw [← hn] at hl KI ⊢
  have HN : Hid (n = l.length) := hn
  clear hA hn hp hc
  unfold vT at hW1 ⊢
  generalize (⟨nm.toArray⟩ : ByteArray) = nb at hW1 ⊢
  rcases hG with ⟨h1, h2⟩ | ⟨i, hi, h1, h2⟩
  · rw [h1] at KI
    rw [h2]
    clear h1 h2
    go_enter Tryz.func90, Tryz.ntmps90
    go_wp2_with fail
    rw [← hW1]
    clear hW1
    refine KI.out.mono ?_
    rintro e w2 ⟨rfl, hE2⟩
    go_wp2_with fail
    go_ret
    exact ⟨rfl, HE1.out.trans hE2⟩
  · rw [h1] at KI
    rw [h2]
    rcases HA.out with h0 | ⟨b, o, e, hb, hcl⟩
    · subst h0; simp at hi
    subst e
    have hcy := (hcl i hi).2
    have HC : Hid (∀ w', Ext W1 w' → w'.cell? ⟨b, o + i * 2 + 1, none⟩ = some (vT l[i].2)) := fun w' h => (HE1.out.trans h).cell_some hcy
    unfold vT at HC
    generalize (⟨(l[i].2).toArray⟩ : ByteArray) = y2 at HC ⊢
    have i1 : (i : Int) < (n : Int) := by have := HN.out; omega
    have i2 : i < n := by have := HN.out; omega
    have i3 : ¬ (i : Int) < 0 := by omega
    clear h1 h2 hcl hcy hi
    go_enter Tryz.func90, Tryz.ntmps90
    go_wp2_with fail
    rw [← hW1]
    clear hW1
    refine KI.out.mono ?_
    rintro e w2 ⟨rfl, hE2⟩
    have c1 := HC.out w2 hE2
    go_wp2_with fail
    go_ret
    exact ⟨rfl, HE1.out.trans hE2⟩
end Go.Proofs.YtkgcbeokfilehaaGreatDoor
