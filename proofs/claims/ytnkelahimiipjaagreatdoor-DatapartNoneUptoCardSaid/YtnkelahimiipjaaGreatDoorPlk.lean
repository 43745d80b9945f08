import Derived.Test.YtnkelahimiipjaaGreatDoorOwk
import Derived.Laws.AppendOwnNone
import Derived.Lib.SliceRun
import Derived.Laws.IdiomCopy
namespace Go.Proofs.YtnkelahimiipjaaGreatDoor
open Go.RowKit Go.Sort
end Go.Proofs.YtnkelahimiipjaaGreatDoor

namespace Go.Proofs.YtnkelahimiipjaaGreatDoor
open Go.RowKit Go.Sort

theorem add_at (b o j : Nat) : (⟨b, o, none⟩ : Addr).add j = ⟨b, o + j, none⟩ := by
 unfold Addr.add; split <;> simp_all
theorem flatS_cells {w : World} {b o : Nat} {l : List Smp} (h : ∀ i (h : i < l.length), Cell4 w b (o + i * 4) l[i]) : ∀ j u, (flatS l)[j]? = some u → w.cell? ((⟨b, o, none⟩ : Addr).add j) = some u := by
 intro t u hu
 have ht : t < l.length * 4 := by
  have := (List.getElem?_eq_some_iff.1 hu).1
  rwa [flatS_length] at this
 obtain ⟨i, j, hi, hj, rfl⟩ : ∃ i j, i < l.length ∧ j < 4 ∧ t = i * 4 + j := ⟨t / 4, t % 4, by omega, by omega, by omega⟩
 rw [flatS_at l i j hi hj] at hu
 have := (h i hi).news j u hu
 rw [add_at] at this ⊢
 rw [← Nat.add_assoc]; exact this
theorem flatS_one' (l : List Smp) : ∀ u ∈ flatS l, u.oneCell' = true := by
 intro u hu
 unfold flatS at hu
 rw [List.mem_flatMap] at hu
 obtain ⟨a, _, ha⟩ := hu
 exact encS_one a u ha
/-- A nil slice has no capacity. -/
def Nz (v : Value) : Prop := ∀ n c, v = .slice none n c → c = 0
theorem Own.nz {w : World} {base e : Nat} {v : Value} {l : List Smp} (h : Own w base e v l) : Nz v := by
 intro n c hv
 rcases h.2 with ⟨h1, _⟩ | ⟨g, cap, cur, h1, _⟩
 ·rw [h1] at hv; injection hv with _ _ h; exact h.symm
 ·rw [h1] at hv; injection hv with h; cases h
/-- append of a whole row to a row of the call's own. -/
theorem appN {P : Program} {w : World} {ops : Array Oper} {rest : List Oper} {o : Oper} {a : Act} {Q : Exit → Act → World → Prop} (hgd : o.guard = none) (s x : Operand) (t e : TypeId)
  (ho : o.op = .call { callee := .builtin .append, args := #[s, x], argTypes := #[t, t] }) (ht : P.underlying t = some (.slice e))
  (hinf : (P.info? e).map (fun i => (i.zero, i.size, i.bytes)) = some (some (.agg #[.int .i64 0, .int .i64 0, .int .i64 0, .int .i64 0]), 4, 32))
  (base : Nat) (v : Value) (l : List Smp) (xv : Value) (l2 : List Smp) (B : Nat) (hs : a.eval s = v) (hown : Own w base e v l) (hx : a.eval x = xv) (hR : Rd w B xv l2) (hz : Nz xv)
  (hl : (l.length + l2.length) * 32 ≤ 140737488355328) (hbase : base ≤ w.heap.size)
  (h : ∀ v' w', Own w' base e v' (l ++ l2) → w.grownBy w' v.ownBlock → (v'.ownBlock = v.ownBlock ∨ v'.ownBlock = some w.heap.size) → (v = .slice none 0 0 → l2 = [] → v' = .slice none 0 0) → wpList P ops Q rest (a.put o.dst v') w') :
  wpList P ops Q (o :: rest) a w := by
 obtain ⟨i, hi, hz1, hsz, hby⟩ := of_info hinf
 obtain ⟨A, c, rfl, hc, hA⟩ := hR
 cases A with
 | none =>
   have hc0 := hz _ _ rfl
   subst hc0
   have hl2 : l2 = [] := List.eq_nil_of_length_eq_zero (by omega)
   subst hl2
   refine wpList_append_own_none hgd s x t ho base e i 4 ht hi v l.length (flatS l) hs hown hx ?_
   refine h v w (by rw [List.append_nil]; exact hown) ⟨rfl, rfl, rfl, Nat.le_refl _, fun _ _ _ => rfl⟩ (.inl rfl) (fun h _ => h)
 | some ad =>
   have hcells : ∀ j u, (flatS l2)[j]? = some u → w.cell? (ad.add j) = some u := by
    rcases hA with rfl | ⟨b, o, h1, _, hcl⟩
    ·intro j u hu; simp [flatS] at hu
    ·injection h1 with h1; subst h1; exact flatS_cells hcl
   refine wpList_append_own_at w hgd s x t ho base e i _ 4 32 ht hi hz1 hsz hby rfl (by decide) v l.length (flatS l) hs hown ad l2.length c (flatS l2) hx (flatS_length l2) hcells (flatS_one' l2) (by unfold maxLen; omega) hl hbase (fun v' w' h1 h2 h3 h4 => ?_)
   refine h v' w' ?_ h2 h4 (fun hv hl2 => h3.2 ⟨hv, by rw [hl2]; rfl⟩)
   unfold Own
   rw [flatS_append, List.length_append]
   exact h1
end Go.Proofs.YtnkelahimiipjaaGreatDoor

namespace Go.Proofs.YtnkelahimiipjaaGreatDoor
open Go.RowKit Go.Sort

set_option maxHeartbeats 1000000 in
/-- slices.Clone. -/
theorem clone_walk (v : Value) (l : List Smp) (W : World) (hR : Rd W W.heap.size v l) (hz : Nz v) (hl : l.length * 32 ≤ 140737488355328) :
  Calls Tryz.prog 88 #[v] W fun e w' => ∃ r, e = .returned r ∧ Own w' W.heap.size 66 r l ∧ Below W.heap.size W w' := by
 have q22 : ∀ (w : World) (a : Option Addr) (n c n' c' : Nat), (binOp .eql 60 (.slice a n c) (.slice none n' c')).run Tryz.prog w = .ok (.bool a.isNone) w := fun w a n c n' c' => Lib.run_eql_slice_nil w _ _ a n c n' c' Tryz.underlying60
 obtain ⟨A, c, hv, hc, hA⟩ := hR
 have HR : Hid (Rd W W.heap.size v l) := ⟨A, c, hv, hc, hA⟩
 have HZ : Hid (Nz v) := hz
 cases A with
 | none =>
   have hc0 := hz _ _ hv
   subst hc0
   have hl2 : l = [] := List.eq_nil_of_length_eq_zero (by omega)
   subst hl2
   subst hv
   go_enter Tryz.func88, Tryz.ntmps88
   go_wp2_with fail
   go_ret
   exact ⟨_, rfl, Own.nil _ _ _, Below.refl _ _⟩
 | some ad =>
   subst hv
   clear hA hz
   have HL := Lib.hid hl
   have hO : Own (W.alloc (.cells #[] 66)) W.heap.size 66 (.slice (some ⟨W.heap.size, 0, none⟩) 0 0) [] := World.ownsRow_made W #[] 0 (Nat.le_refl _) (Nat.zero_le _) rfl
   have HO := Lib.hid hO
   clear hO hl
   go_enter Tryz.func88, Tryz.ntmps88
   go_wp2_with (first | (at_builtin; refine appN rfl _ _ 60 66 rfl Tryz.underlying60 info_Smp W.heap.size _ [] _ l W.heap.size rfl HO.out rfl (HR.out.below ((Ext.refl W).alloc _).below) HZ.out ?c1 ?c2 ?_) | fail)
   case c1 => simpa using HL.out
   case c2 => simp
   ·intro v' w3 hown hg hloc
    go_wp2_with fail
    go_ret
    exact ⟨_, rfl, hown, ((Below.refl W.heap.size W).alloc (Nat.le_refl _) _).grown hg (by simp) (by intro k hk; simp [Value.ownBlock] at hk; omega)⟩
end Go.Proofs.YtnkelahimiipjaaGreatDoor

namespace Go.Proofs.YtnkelahimiipjaaGreatDoor
open Go.RowKit Go.Sort

theorem same_take {a b : List Smp} {k : Nat} {x y : Smp} (ha : k < a.length) (hb : k < b.length) (hx : x = a[k]) (hy : y = b[k]) (h : a.take k = b.take k) : (a.take (k + 1) = b.take (k + 1)) ↔ x = y := by
 rw [List.take_succ_eq_append_getElem ha, List.take_succ_eq_append_getElem hb, h, ← hx, ← hy]
 simp
set_option maxHeartbeats 1000000 in
theorem same_walk (va vb : Value) (a b : List Smp) (W : World) (hRa : Rd W W.heap.size va a) (hRb : Rd W W.heap.size vb b) (hla : a.length * 32 ≤ 140737488355328) :
  Calls Tryz.prog 47 #[va, vb] W fun e w' => e = .returned (.bool (decide (a = b))) ∧ Ext W w' := by
 obtain ⟨A, ca, rfl, hca, hA⟩ := hRa
 obtain ⟨B, cb, rfl, hcb, hB⟩ := hRb
 have HA := Lib.hid hA
 have HB := Lib.hid hB
 obtain ⟨q, hq⟩ : ∃ q, q = decide (a = b) := ⟨_, rfl⟩
 have HQ : Hid (q = decide (a = b)) := hq
 rw [← hq]
 clear hq hA hB hca hcb
 obtain ⟨n, hn⟩ : ∃ n, n = a.length := ⟨_, rfl⟩
 obtain ⟨m, hm⟩ : ∃ m, m = b.length := ⟨_, rfl⟩
 rw [← hn] at hla ⊢
 rw [← hm]
 have HN : Hid (n = a.length) := hn
 have HM : Hid (m = b.length) := hm
 clear hn hm
 by_cases hnm : n = m
 ·have g0 : (((n : Int)) != (m : Int)) = false := by simp; omega
  go_enter Tryz.func47, Tryz.ntmps47
  go_wp2_with fail
  go_loopw [5] (fun i wl => ∃ k : Nat, k ≤ n ∧ i = .int .i64 k ∧ Hid (a.take k = b.take k) ∧ Hid (Ext W wl))
   (fun i _ => n - (intOf i).toNat)
  case atStart => exact ⟨0, Nat.zero_le _, rfl, rfl, Ext.refl _⟩
  case round =>
   obtain ⟨k, hk, rfl, HT, HE⟩ := hrel
   by_cases hlt : k < n
   ·have hla2 : k < a.length := by rw [← HN.out]; exact hlt
    have hlb2 : k < b.length := by rw [← HM.out, ← hnm]; exact hlt
    rcases HA.out with h0 | ⟨b1, o1, e, hb1, hcl1⟩
    ·subst h0; simp at hla2
    rcases HB.out with h0 | ⟨b2, o2, e', hb2, hcl2⟩
    ·subst h0; simp at hlb2
    subst e e'
    obtain ⟨x, hx⟩ : ∃ x, x = a[k] := ⟨_, rfl⟩
    obtain ⟨y, hy⟩ : ∃ y, y = b[k] := ⟨_, rfl⟩
    obtain ⟨c0, c1, c2, c3⟩ : Cell4 wr b1 (o1 + k * 4) x := by rw [hx]; exact (hcl1 k hla2).below HE.out.below hb1
    obtain ⟨d0, d1, d2, d3⟩ : Cell4 wr b2 (o2 + k * 4) y := by rw [hy]; exact (hcl2 k hlb2).below HE.out.below hb2
    have HF : Hid ((a.take (k + 1) = b.take (k + 1)) ↔ x = y) := same_take hla2 hlb2 hx hy HT.out
    obtain ⟨p, hp⟩ : ∃ p, p = decide (x = y) := ⟨_, rfl⟩
    have hne : ∀ w, (binOp .neq 66 (.agg #[.int .i64 x.1, .int .i64 x.2.1, .int .i64 x.2.2.1, .int .i64 x.2.2.2]) (.agg #[.int .i64 y.1, .int .i64 y.2.1, .int .i64 y.2.2.1, .int .i64 y.2.2.2])).run Tryz.prog w = .ok (.bool (!p)) w := fun w => hp ▸ neq_Smp x y w
    have HP : Hid (p = decide (x = y)) := hp
    clear hp hx hy hcl1 hcl2
    have hkm : k < m := by omega
    have i1 : (k : Int) < (n : Int) := by omega
    have i2 : (k : Int) < (m : Int) := by omega
    go_wp2_with fail
    go_quiet (fail)
    clear c0 c1 c2 c3 d0 d1 d2 d3 hne
    cases p with
    | true =>
      have hT2 : Hid (a.take (k + 1) = b.take (k + 1)) := HF.out.2 (of_decide_eq_true HP.out.symm)
      clear HF HP
      go_wp2_with fail
      go_roundw
      case rel => exact ⟨k + 1, by omega, by go_num, hT2, HE.out.drewN nq⟩
      case measure => simp [intOf]; omega
    | false =>
      have hab : a ≠ b := fun e => of_decide_eq_false HP.out.symm (HF.out.1 (by rw [e]))
      have hqf : Hid (q = false) := HQ.out.trans (decide_eq_false hab)
      clear HF HP hab
      go_wp2_with fail
      go_ret
      exact ⟨ret_bool hqf.out.symm, HE.out.drewN nq⟩
   ·have hkn : k = n := by omega
    have hab : a = b := by
     have := HT.out
     rwa [hkn, HN.out, List.take_length, ← HN.out, hnm, HM.out, List.take_length] at this
    have hqt : Hid (q = true) := HQ.out.trans (decide_eq_true hab)
    clear hab hkn
    go_wp2_with fail
    go_ret
    exact ⟨ret_bool hqt.out.symm, HE.out⟩
 ·have g0 : (((n : Int)) != (m : Int)) = true := by simp; omega
  have hab : a ≠ b := fun e => hnm (by rw [HN.out, HM.out, e])
  have hqf : Hid (q = false) := HQ.out.trans (decide_eq_false hab)
  go_enter Tryz.func47, Tryz.ntmps47
  go_wp2_with fail
  go_ret
  exact ⟨ret_bool hqf.out.symm, Ext.refl _⟩
end Go.Proofs.YtnkelahimiipjaaGreatDoor

namespace Go.Proofs.YtnkelahimiipjaaGreatDoor
open Go.RowKit Go.Sort

/-- Is it outside? -/
def outS (f t : Int) (s : Smp) : Bool := decide (s.1 < f) || decide (t < s.1)

set_option maxHeartbeats 400000 in
theorem out_walk (s : Smp) (f t : Int) (w : World) (pf pt : Nat) (hf : w.cell? ⟨pf, 0, none⟩ = some (.int .i64 f)) (ht : w.cell? ⟨pt, 0, none⟩ = some (.int .i64 t)) :
  Calls Tryz.prog 89 #[vS s, .pointer (some ⟨pf, 0, none⟩), .pointer (some ⟨pt, 0, none⟩)] w fun e w' => e = .returned (.bool (outS f t s)) ∧ Ext w w' := by
 have HE : Hid (Ext w (w.alloc (.cells #[.int .i64 s.1, .int .i64 s.2.1, .int .i64 s.2.2.1, .int .i64 s.2.2.2] 66))) := (Ext.refl w).alloc _
 have c0 : (w.alloc (.cells #[.int .i64 s.1, .int .i64 s.2.1, .int .i64 s.2.2.1, .int .i64 s.2.2.2] 66)).cell? ⟨w.heap.size, 0, none⟩ = some (.int .i64 s.1) := by simp
 have hf1 : (w.alloc (.cells #[.int .i64 s.1, .int .i64 s.2.1, .int .i64 s.2.2.1, .int .i64 s.2.2.2] 66)).cell? ⟨pf, 0, none⟩ = some (.int .i64 f) := HE.out.cell_some hf
 have ht1 : (w.alloc (.cells #[.int .i64 s.1, .int .i64 s.2.1, .int .i64 s.2.2.1, .int .i64 s.2.2.2] 66)).cell? ⟨pt, 0, none⟩ = some (.int .i64 t) := HE.out.cell_some ht
 clear hf ht
 unfold vS
 by_cases h : s.1 < f
 ·have hd : outS f t s = true := by unfold outS; simp [h]
  have g : decide (s.1 < f) = true := decide_eq_true h
  rw [hd]
  clear hd
  go_enter Tryz.func89, Tryz.ntmps89
  go_wp2_with fail
  go_ret
  exact ⟨rfl, HE.out⟩
 ·have hd : outS f t s = decide (t < s.1) := by unfold outS; simp [h]
  have g : decide (s.1 < f) = false := decide_eq_false h
  rw [hd]
  clear hd
  go_enter Tryz.func89, Tryz.ntmps89
  go_wp2_with fail
  go_ret
  exact ⟨ret_bool (by simp), HE.out⟩

def idxV (f t : Int) (l : List Smp) : Int := match l.findIdx? (outS f t) with | some i => i | none => -1
theorem idx_take_none {f t : Int} {l : List Smp} {k : Nat} {y : Smp} (hk : k < l.length) (hy : y = l[k]) (h : (l.take k).findIdx? (outS f t) = none) :
  (outS f t y = true → idxV f t l = k) ∧ (outS f t y = false → (l.take (k + 1)).findIdx? (outS f t) = none) := by
 constructor
 ·intro ho
  unfold idxV
  have : l.findIdx? (outS f t) = some k := by
   rw [List.findIdx?_eq_some_iff_getElem]
   refine ⟨hk, by rw [← hy]; exact ho, fun j hj => ?_⟩
   rw [List.findIdx?_eq_none_iff] at h
   have := h l[j] (by rw [List.mem_take_iff_getElem]; exact ⟨j, by omega, rfl⟩)
   simpa using this
  rw [this]
 ·intro ho
  rw [List.findIdx?_eq_none_iff] at *
  intro x hx
  rw [List.take_succ_eq_append_getElem hk, List.mem_append, List.mem_singleton, ← hy] at hx
  rcases hx with hx | rfl
  ·exact h x hx
  ·exact ho

set_option maxHeartbeats 1000000 in
theorem idx_walk (v : Value) (l : List Smp) (f t : Int) (W : World) (pf pt : Nat) (hf : W.cell? ⟨pf, 0, none⟩ = some (.int .i64 f)) (ht : W.cell? ⟨pt, 0, none⟩ = some (.int .i64 t)) (hR : Rd W W.heap.size v l) (hl : l.length * 32 ≤ 140737488355328) :
  Calls Tryz.prog 111 #[v, .func (.func 89) #[] #[.pointer (some ⟨pf, 0, none⟩), .pointer (some ⟨pt, 0, none⟩)]] W fun e w' => e = .returned (.int .i64 (idxV f t l)) ∧ Ext W w' := by
 obtain ⟨A, c, rfl, hc, hA⟩ := hR
 have HA := Lib.hid hA
 obtain ⟨n, hn⟩ : ∃ n, n = l.length := ⟨_, rfl⟩
 rw [← hn] at hl ⊢
 have HN : Hid (n = l.length) := hn
 obtain ⟨q, hq⟩ : ∃ q, q = idxV f t l := ⟨_, rfl⟩
 rw [← hq]
 have HQ : Hid (q = idxV f t l) := hq
 have HF := Lib.hid hf
 have HT := Lib.hid ht
 have KO := Lib.hid (fun (y : Smp) (w : World) (hE : Ext W w) => out_walk y f t w pf pt (hE.cell_some hf) (hE.cell_some ht))
 clear hA hn hq hf ht hc
 go_enter Tryz.func111, Tryz.ntmps111
 go_wp2_with fail
 go_loopw [8] (fun i wl => ∃ k : Nat, k ≤ n ∧ i = .int .i64 k ∧ Hid ((l.take k).findIdx? (outS f t) = none) ∧ Hid (Ext W wl))
  (fun i _ => n - (intOf i).toNat)
 case atStart => exact ⟨0, Nat.zero_le _, rfl, rfl, Ext.refl _⟩
 case round =>
  obtain ⟨k, hk, rfl, HI, HE⟩ := hrel
  by_cases hlt : k < n
  ·have hl2 : k < l.length := by rw [← HN.out]; exact hlt
   rcases HA.out with h0 | ⟨b, o, e, hb, hcl⟩
   ·subst h0; simp at hl2
   subst e
   obtain ⟨y, hy⟩ : ∃ y, y = l[k] := ⟨_, rfl⟩
   obtain ⟨c0, c1, c2, c3⟩ : Cell4 wr b (o + k * 4) y := by rw [hy]; exact (hcl k hl2).below HE.out.below hb
   have HX := Lib.hid (idx_take_none hl2 hy HI.out)
   clear hy hcl
   go_wp2_with fail
   refine (KO.out y wr HE.out).mono ?_
   rintro e w2 ⟨rfl, hE2⟩
   have HE2 : Hid (Ext W w2) := HE.out.trans hE2
   clear c0 c1 c2 c3 hE2
   cases ho : outS f t y with
   | true =>
     have hqk : Hid (q = k) := HQ.out.trans (HX.out.1 ho)
     clear HX ho
     go_wp2_with fail
     go_ret
     exact ⟨ret_int hqk.out.symm, HE2.out⟩
   | false =>
     have hI2 : Hid ((l.take (k + 1)).findIdx? (outS f t) = none) := HX.out.2 ho
     clear HX ho
     go_wp2_with fail
     go_roundw
     case rel => exact ⟨k + 1, by omega, by go_num, hI2, HE2⟩
     case measure => simp [intOf]; omega
  ·have hqm : Hid (q = -1) := by
    show _ = _
    have := HI.out
    rw [show k = l.length by have := HN.out; omega, List.take_length] at this
    rw [HQ.out]; unfold idxV; rw [this]
   go_wp2_with fail
   go_ret
   exact ⟨ret_int hqm.out.symm, HE.out⟩
end Go.Proofs.YtnkelahimiipjaaGreatDoor

namespace Go.Proofs.YtnkelahimiipjaaGreatDoor
open Go.RowKit Go.Sort

def setL (xs : List Value) : Nat → List Value → List Value
 | _, [] => xs
 | t, v :: r => setL (xs.set t v) (t + 1) r
theorem setL_take (vs : List Value) : ∀ (xs : List Value) (t k : Nat), k ≤ t → (setL xs t vs).take k = xs.take k := by
 induction vs with
 | nil => intro xs t k _; rfl
 | cons v r ih =>
   intro xs t k h
   unfold setL
   rw [ih _ _ _ (by omega), List.take_set_of_le h]
theorem ownsRow_setCells {base e size n : Nat} {g cap : Nat} (vs : List Value) : ∀ {w : World} {xs : List Value} (t : Nat), w.ownsRow base e size (.slice (some ⟨g, 0, none⟩) n cap) n xs →
  (w.setCells g t vs).ownsRow base e size (.slice (some ⟨g, 0, none⟩) n cap) n (setL xs t vs) := by
 induction vs with
 | nil => intro w xs t h; exact h
 | cons v r ih => intro w xs t h; exact ih (t + 1) (ownsRow_set h t v)
theorem ownsRow_cut {w : World} {base e size n : Nat} {g cap : Nat} {xs : List Value} (h : w.ownsRow base e size (.slice (some ⟨g, 0, none⟩) n cap) n xs) (i : Nat) (hi : i ≤ n) :
  w.ownsRow base e size (.slice (some ⟨g, 0, none⟩) i cap) i (xs.take (i * size)) := by
 obtain ⟨h1, h2⟩ := h
 have hle : i * size ≤ n * size := Nat.mul_le_mul_right _ hi
 refine ⟨by rw [List.length_take, h1]; omega, ?_⟩
 rcases h2 with ⟨h2, _⟩ | ⟨g', cap', cur, hv, hb, hh, hn, hm, hcs, ht⟩
 ·exact absurd h2 (by simp)
 ·injection hv with hv1 _ hv3
  injection hv1 with hv1
  injection hv1 with hg _ _
  subst hg hv3
  refine .inr ⟨g, cap, cur, rfl, hb, hh, by omega, hm, hcs, ?_⟩
  rw [← ht, List.take_take, Nat.min_eq_left hle]
theorem flatS_take (l : List Smp) (i : Nat) : flatS (l.take i) = (flatS l).take (i * 4) := by
 induction l generalizing i with
 | nil => simp [flatS]
 | cons a l ih =>
   cases i with
   | zero => simp [flatS]
   | succ i =>
     have := ih i
     unfold flatS at *
     rw [List.take_succ_cons, List.flatMap_cons, List.flatMap_cons, this, show (i + 1) * 4 = (encS a).length + i * 4 by simp [encS]; omega, List.take_length_add_append]
theorem setCells_below {B : Nat} {g : Nat} (hg : B ≤ g) (vs : List Value) : ∀ {a w : World} (t : Nat), Below B a w → Below B a (w.setCells g t vs) := by
 induction vs with
 | nil => intro a w t h; exact h
 | cons v r ih => intro a w t h; exact ih (t + 1) (h.setCell (p := ⟨g, t, none⟩) hg v)
def zeros (n : Nat) : List Value := List.replicate (n * 4) (.int .i64 0)
theorem Own.has {w : World} {base e g n c : Nat} {l : List Smp} (h : Own w base e (.slice (some ⟨g, 0, none⟩) n c) l) (t : Nat) (ht : t < l.length * 4) : (w.cell? ⟨g, t, none⟩).isSome = true := by
 rcases h.2 with ⟨h1, _⟩ | ⟨g', cap, cur, hv, hb, hh, hn, hm, hcs, _⟩
 ·exact absurd h1 (by simp)
 ·injection hv with hv1 _ _
  injection hv1 with hv1
  injection hv1 with hg _ _
  subst hg
  have hlt : t < cur.size := by omega
  simp [World.cell?, hh, hlt]
theorem run_clear_S {w : World} {base g cap n : Nat} {r : List Smp} (hO : Own w base 66 (.slice (some ⟨g, 0, none⟩) n cap) r) (hn : n = r.length) (i : Nat) (hi : i < n) (ty : TypeId) (c : Nat) :
  (Builtin.clear_ #[60] ty #[.slice (some ⟨g, i * 4, none⟩) (n - i) c]).run Tryz.prog w = .ok (.tuple #[]) (w.setCells g (i * 4) (zeros (n - i))) := by
 have hzv : ∀ w, (zeroValue 66).run Tryz.prog w = .ok (.agg #[.int .i64 0, .int .i64 0, .int .i64 0, .int .i64 0]) w := by
  intro w
  exact Tryz.zeroValue66 w
 have hzc : (Builtin.zeroCells (Value.cells (.agg #[.int .i64 0, .int .i64 0, .int .i64 0, .int .i64 0])) (n - i)).toList = zeros (n - i) := by
  simp only [Builtin.zeroCells, Value.cells, zeros]
  apply List.ext_getElem
  ·simp
  ·intro j h1 h2
   have hj4 : j % 4 < 4 := Nat.mod_lt _ (by decide)
   simp
   match j % 4, hj4 with
   | 0, _ => rfl
   | 1, _ => rfl
   | 2, _ => rfl
   | 3, _ => rfl
 have hst := run_storeCells_cells (P := Tryz.prog) g (i * 4) (zeros (n - i)) 0 w ?_ ?_ ?_
 ·simp only [Nat.add_zero] at hst
  obtain ⟨m, hm⟩ : ∃ m, n - i = m + 1 := ⟨n - i - 1, by omega⟩
  rw [hm] at hst hzc ⊢
  simp [Builtin.clear_, run_underlying Tryz.underlying60, hzv, hzc, hst]
 ·intro j hj
  refine hO.has _ ?_
  rw [zeros, List.length_replicate] at hj
  omega
 ·intro j hj
  exact hO.free _
 ·intro v hv
  rw [List.eq_of_mem_replicate hv]; rfl

/-- Those that are not outside. -/
def delS (f t : Int) (l : List Smp) : List Smp := l.filter fun s => !outS f t s
theorem delS_snoc (f t : Int) (l : List Smp) (j : Nat) (h : j < l.length) (y : Smp) (hy : y = l[j]) : delS f t (l.take (j + 1)) = delS f t (l.take j) ++ if outS f t y = true then [] else [y] := by
 unfold delS
 rw [List.take_succ_eq_append_getElem h, List.filter_append, ← hy]
 cases h : outS f t y <;> simp [h]
theorem delS_none {f t : Int} {l : List Smp} (h : l.findIdx? (outS f t) = none) : delS f t l = l := by
 rw [List.findIdx?_eq_none_iff] at h
 unfold delS
 rw [List.filter_eq_self]
 intro a ha; rw [h a ha]; rfl
theorem delS_first {f t : Int} {l : List Smp} {i : Nat} (h : l.findIdx? (outS f t) = some i) : i < l.length ∧ delS f t (l.take (i + 1)) = l.take i := by
 rw [List.findIdx?_eq_some_iff_getElem] at h
 obtain ⟨hi, h1, h2⟩ := h
 refine ⟨hi, ?_⟩
 rw [delS_snoc f t l i hi _ rfl, if_pos h1, List.append_nil]
 unfold delS
 rw [List.filter_eq_self]
 intro a ha
 rw [List.mem_take_iff_getElem] at ha
 obtain ⟨j, hj, rfl⟩ := ha
 have := h2 j (by omega)
 simpa using this

/-- The row while those inside move to its head. -/
def Mv (f t : Int) (l : List Smp) (i j : Nat) (r : List Smp) : Prop := r.length = l.length ∧ r.take i = delS f t (l.take j) ∧ r.drop j = l.drop j
theorem Mv.get {f t : Int} {l : List Smp} {i j : Nat} {r : List Smp} (h : Mv f t l i j r) (hj : j < l.length) : ∃ hr : j < r.length, r[j] = l[j] := by
 obtain ⟨h1, _, h3⟩ := h
 refine ⟨by omega, ?_⟩
 have e1 : (r.drop j)[0]? = (l.drop j)[0]? := by rw [h3]
 rw [List.getElem?_drop, List.getElem?_drop, Nat.add_zero, List.getElem?_eq_getElem hj, List.getElem?_eq_getElem (by omega)] at e1
 exact Option.some.inj e1
theorem drop_next {r l : List Smp} {j : Nat} (h : r.drop j = l.drop j) : r.drop (j + 1) = l.drop (j + 1) := by
 rw [← List.drop_drop, ← List.drop_drop, h]
theorem Mv.skip {f t : Int} {l : List Smp} {i j : Nat} {r : List Smp} (h : Mv f t l i j r) (hj : j < l.length) {y : Smp} (hy : y = l[j]) (ho : outS f t y = true) : Mv f t l i (j + 1) r := by
 obtain ⟨h1, h2, h3⟩ := h
 exact ⟨h1, by rw [delS_snoc f t l j hj y hy, if_pos ho, List.append_nil, h2], drop_next h3⟩
theorem Mv.keep {f t : Int} {l : List Smp} {i j : Nat} {r : List Smp} (h : Mv f t l i j r) (hij : i < j) (hj : j < l.length) {y : Smp} (hy : y = l[j]) (ho : outS f t y = false) : Mv f t l (i + 1) (j + 1) (r.set i y) := by
 obtain ⟨h1, h2, h3⟩ := h
 refine ⟨by rw [List.length_set]; exact h1, ?_, ?_⟩
 ·rw [delS_snoc f t l j hj y hy, if_neg (by rw [ho]; simp), ← h2, List.take_succ_eq_append_getElem (by rw [List.length_set]; omega), List.take_set_of_le (Nat.le_refl _)]
  simp
 ·rw [List.drop_set_of_lt (by omega)]; exact drop_next h3

set_option maxHeartbeats 2000000 in
theorem del_walk (v : Value) (l : List Smp) (f t : Int) (W : World) (B pf pt : Nat) (hf : W.cell? ⟨pf, 0, none⟩ = some (.int .i64 f)) (ht : W.cell? ⟨pt, 0, none⟩ = some (.int .i64 t)) (hpf : pf < B) (hpt : pt < B) (hB : B ≤ W.heap.size)
  (hO : Own W B 66 v l) (hl : l.length * 32 ≤ 140737488355328) :
  Calls Tryz.prog 87 #[v, .func (.func 89) #[] #[.pointer (some ⟨pf, 0, none⟩), .pointer (some ⟨pt, 0, none⟩)]] W fun e w' =>
   ∃ r, e = .returned r ∧ Own w' B 66 r (delS f t l) ∧ Below B W w' := by
 have KI := Lib.hid (idx_walk v l f t W pf pt hf ht hO.rd hl)
 have KO := Lib.hid (fun (y : Smp) (w : World) (hE : Below B W w) => out_walk y f t w pf pt ((hE.cell hpf).trans hf) ((hE.cell hpt).trans ht))
 have HO := Lib.hid hO
 have HW := Lib.hid hB
 clear hf ht hpf hpt hO hB
 cases hi : l.findIdx? (outS f t) with
 | none =>
   have hq : idxV f t l = -1 := by unfold idxV; rw [hi]
   rw [hq] at KI
   have HD : Hid (delS f t l = l) := delS_none hi
   clear hq hi KO
   go_enter Tryz.func87, Tryz.ntmps87
   go_wp2_with fail
   refine KI.out.mono ?_
   rintro e w1 ⟨rfl, hE⟩
   have HE := Lib.hid hE
   clear hE KI
   go_wp2_with fail
   go_ret
   exact ⟨_, rfl, by rw [HD.out]; exact HO.out.below HE.out.below, HE.out.below.mono HW.out⟩
 | some i0 =>
   have hq : idxV f t l = (i0 : Int) := by unfold idxV; rw [hi]
   rw [hq] at KI
   obtain ⟨hi0, hd0⟩ := delS_first hi
   have HD0 := Lib.hid hd0
   obtain ⟨A, cap, rfl, hc, hA⟩ := HO.out.opened
   rcases hA with h0 | ⟨g, rfl, hgB, hgs, -⟩
   ·subst h0; simp at hi0
   obtain ⟨n, hn⟩ : ∃ n, n = l.length := ⟨_, rfl⟩
   rw [← hn] at hi0 hl hc HO KI ⊢
   have HN := Lib.hid hn
   clear hi hq hd0 hn
   have hm1 : ((i0 : Int) == -1) = false := by simp
   have hn43 : n ≤ 4398046511104 := by omega
   go_enter Tryz.func87, Tryz.ntmps87
   go_wp2_with fail
   refine KI.out.mono ?_
   rintro e w1 ⟨rfl, hE⟩
   have HE := Lib.hid hE
   clear hE KI
   go_wp2_with fail
   go_loopw [5, 6] (fun vi vj wl => ∃ (i j : Nat) (r : List Smp), vi = .int .i64 i ∧ vj = .int .i64 j ∧ i < j ∧ j ≤ n ∧ Own wl B 66 (.slice (some ⟨g, 0, none⟩) n cap) r ∧ Hid (Mv f t l i j r) ∧ Hid (Below B W wl))
    (fun _ vj _ => n - (intOf vj).toNat)
   case atStart => exact ⟨i0, i0 + 1, l, rfl, by go_num, by omega, by omega, HO.out.below HE.out.below, ⟨rfl, HD0.out.symm, rfl⟩, HE.out.below.mono HW.out⟩
   case round =>
    obtain ⟨i, j, r, rfl, rfl, hij, hj, hown, HV, HB⟩ := hrel
    by_cases hlt : j < n
    ·have hjl : j < l.length := by rw [← HN.out]; exact hlt
     obtain ⟨hjr, hrj⟩ := HV.out.get hjl
     obtain ⟨y, hy⟩ : ∃ y, y = l[j] := ⟨_, rfl⟩
     have hVk : Hid (outS f t y = false → Mv f t l (i + 1) (j + 1) (r.set i y)) := fun h => HV.out.keep hij hjl hy h
     have hVs : Hid (outS f t y = true → Mv f t l i (j + 1) r) := fun h => HV.out.skip hjl hy h
     obtain ⟨A2, c2', hv2, -, hA2⟩ := hown.opened
     have hir : i < r.length := by omega
     have hcell : ∀ k (h : k < r.length), Cell4 wr g (k * 4) r[k] := by
      rcases hA2 with h0 | ⟨g2, h1, _, _, hcl⟩
      ·subst h0; simp at hjr
      ·injection hv2 with hv3
       rw [← hv3] at h1; injection h1 with h1; injection h1 with h1; subst h1; exact hcl
     obtain ⟨c0, c1, c2, c3⟩ : Cell4 wr g (j * 4) y := by rw [hy, ← hrj]; exact hcell j hjr
     have hgr : g < wr.heap.size := lt_of_cell c0
     obtain ⟨yo, hyo⟩ : ∃ yo, yo = r[i] := ⟨_, rfl⟩
     have hco : Cell4 wr g (i * 4) yo := by rw [hyo]; exact hcell i hir
     obtain ⟨wa, hwa⟩ : ∃ wa, wa = wr.alloc (.cells #[.int .i64 y.1, .int .i64 y.2.1, .int .i64 y.2.2.1, .int .i64 y.2.2.2] 66) := ⟨_, rfl⟩
     have hEa : Ext wr wa := by rw [hwa]; exact (Ext.refl wr).alloc _
     have hca : Cell4 wa wr.heap.size 0 y := hwa ▸ Cell4.new wr y _ _ rfl
     have f0 : wa.cell? ⟨wr.heap.size, 0, none⟩ = some (.int .i64 y.1) := hca.1
     have f1 : wa.cell? ⟨wr.heap.size, 1, none⟩ = some (.int .i64 y.2.1) := hca.2.1
     have f2 : wa.cell? ⟨wr.heap.size, 2, none⟩ = some (.int .i64 y.2.2.1) := hca.2.2.1
     have f3 : wa.cell? ⟨wr.heap.size, 3, none⟩ = some (.int .i64 y.2.2.2) := hca.2.2.2
     have HEa := Lib.hid hEa
     have HBa : Hid (Below B W wa) := HB.out.trans (hEa.below.mono (Nat.le_trans HW.out HB.out.size))
     have Hown := Lib.hid hown
     have Hco := Lib.hid hco
     have hV := Lib.hid HV
     have Hrn : Hid (n = r.length) := by show _ = _; rw [HN.out]; exact HV.out.1.symm
     clear hV HV hA2 hv2 hcell hrj hy hyo hEa hca hown hco hjl
     go_wp2_with fail
     rw [← hwa]
     clear hwa c0 c1 c2 c3
     refine (KO.out y wa HBa.out).mono ?_
     rintro e w2 ⟨rfl, hE2⟩
     have f0' := hE2.cell_some f0
     have f1' := hE2.cell_some f1
     have f2' := hE2.cell_some f2
     have f3' := hE2.cell_some f3
     have HE2 : Hid (Ext wr w2) := HEa.out.trans hE2
     have HB2 : Hid (Below B W w2) := HB.out.trans (HE2.out.below.mono (Nat.le_trans HW.out HB.out.size))
     have hown2 : Own w2 B 66 (.slice (some ⟨g, 0, none⟩) n cap) r := Hown.out.below HE2.out.below
     clear f0 f1 f2 f3 hE2 HBa HEa
     cases ho : outS f t y with
     | true =>
       have HV2 : Hid (Mv f t l i (j + 1) r) := hVs.out ho
       clear hVs hVk ho f0' f1' f2' f3'
       go_wp2_with fail
       go_roundw
       case rel => exact ⟨i, j + 1, r, rfl, by go_num, by omega, by omega, hown2, HV2, HB2⟩
       case measure => simp [intOf]; omega
     | false =>
       have HV2 : Hid (Mv f t l (i + 1) (j + 1) (r.set i y)) := hVk.out ho
       obtain ⟨q0, q1, q2, q3⟩ := Hco.out.below HE2.out.below hgr
       have z0 := hown2.free (i * 4)
       have z1 := hown2.free (i * 4 + 1)
       have z2 := hown2.free (i * 4 + 2)
       have z3 := hown2.free (i * 4 + 3)
       have HN5 := Lib.hid (hown2.set4 Hrn.out i y hir)
       have g2 : (i : Int) < (n : Int) := by omega
       have g3 : i < n := by omega
       clear hVs hVk ho hown2 Hown Hco
       go_wp2_with fail
       go_roundw
       case rel => exact ⟨i + 1, j + 1, _, by go_num, by go_num, by omega, by omega, HN5.out, HV2, (((HB2.out.setCell (p := ⟨g, i * 4, none⟩) hgB (.int .i64 y.1)).setCell (p := ⟨g, i * 4 + 1, none⟩) hgB (.int .i64 y.2.1)).setCell (p := ⟨g, i * 4 + 2, none⟩) hgB (.int .i64 y.2.2.1)).setCell (p := ⟨g, i * 4 + 3, none⟩) hgB (.int .i64 y.2.2.2)⟩
       case measure => simp [intOf]; omega
    ·have hjn : j = n := by omega
     have hin : i < n := by omega
     obtain ⟨v1, v2, v3⟩ := HV.out
     have hcl : ∀ ty, (Builtin.clear_ #[60] ty #[.slice (some ⟨g, i * 4, none⟩) (n - i) (cap - i)]).run Tryz.prog wr = .ok (.tuple #[]) (wr.setCells g (i * 4) (zeros (n - i))) := fun ty => run_clear_S hown (by rw [v1, HN.out]) i hin ty _
     have HR : Hid (Own (wr.setCells g (i * 4) (zeros (n - i))) B 66 (.slice (some ⟨g, 0, none⟩) i cap) (delS f t l)) := by
      have h1 : wr.ownsRow B 66 4 (.slice (some ⟨g, 0, none⟩) n cap) n (flatS r) := by
       have := hown
       unfold Own at this
       rwa [v1, ← HN.out] at this
      have h2 := ownsRow_cut (ownsRow_setCells (zeros (n - i)) (i * 4) h1) i (by omega)
      rw [setL_take _ _ _ _ (Nat.le_refl _), ← flatS_take, v2, hjn, HN.out, List.take_length] at h2
      have hlen : (delS f t l).length = i := by
       rw [hjn, HN.out, List.take_length] at v2
       rw [← v2, List.length_take]; have := HN.out; omega
      show World.ownsRow _ _ _ _ _ _ _
      rw [hlen]; rw [HN.out]; exact h2
     have HBz : Hid (Below B W (wr.setCells g (i * 4) (zeros (n - i)))) := setCells_below hgB _ _ HB.out
     clear hown v1 v2 v3 HV
     go_wp2_with fail
     go_ret
     exact ⟨_, rfl, HR.out, HBz.out⟩
end Go.Proofs.YtnkelahimiipjaaGreatDoor

namespace Go.Proofs.YtnkelahimiipjaaGreatDoor
open Go.RowKit Go.Sort

set_option maxHeartbeats 1000000 in
theorem clip_walk (v : Value) (l : List Smp) (f t : Int) (W : World) (hR : Rd W W.heap.size v l) (hz : Nz v) (hl : l.length * 32 ≤ 140737488355328) :
  Calls Tryz.prog 49 #[v, .int .i64 f, .int .i64 t] W fun e w' => ∃ r, e = .returned r ∧ Own w' W.heap.size 66 r (delS f t l) ∧ Below W.heap.size W w' := by
 have hmf : ∀ (fn : Fn) (first cap : Array Value) (w : World), (Instr.makeFunc fn first cap).run Tryz.prog w = .ok (.func fn first cap) w := fun _ _ _ _ => rfl
 obtain ⟨W1, hW1⟩ : ∃ W1, W1 = (W.alloc (.cells #[.int .i64 f] 2)).alloc (.cells #[.int .i64 t] 2) := ⟨_, rfl⟩
 have hE1 : Ext W W1 := by rw [hW1]; exact ((Ext.refl W).alloc _).alloc _
 have hs1 : W1.heap.size = W.heap.size + 2 := by rw [hW1]; simp
 have hf1 : W1.cell? ⟨W.heap.size, 0, none⟩ = some (.int .i64 f) := by rw [hW1]; simp
 have ht1 : W1.cell? ⟨W.heap.size + 1, 0, none⟩ = some (.int .i64 t) := by rw [hW1]; simp
 have KC := Lib.hid (clone_walk v l W1 ((hR.below hE1.below).mono hE1.size) hz hl)
 have HE1 := Lib.hid hE1
 have HS1 := Lib.hid hs1
 have Hf1 := Lib.hid hf1
 have Ht1 := Lib.hid ht1
 have Hl := Lib.hid hl
 clear hE1 hs1 hf1 ht1 hR hz hl
 go_enter Tryz.func49, Tryz.ntmps49
 go_wp2_with fail
 rw [← hW1]
 clear hW1
 refine KC.out.mono ?_
 rintro e w1 ⟨r, rfl, hO, hB⟩
 have HB := Lib.hid hB
 have hp : W.heap.size < W1.heap.size := by have := HS1.out; omega
 have hp1 : W.heap.size + 1 < W1.heap.size := by have := HS1.out; omega
 have KD := Lib.hid (del_walk r l f t w1 W1.heap.size W.heap.size (W.heap.size + 1) ((hB.cell hp).trans Hf1.out) ((hB.cell hp1).trans Ht1.out) hp hp1 hB.size hO Hl.out)
 clear hB hO KC
 go_wp2_with fail
 refine KD.out.mono ?_
 rintro e w2 ⟨r2, rfl, hO2, hB2⟩
 have HO2 := Lib.hid hO2
 have HB2 := Lib.hid hB2
 clear hO2 hB2 KD
 go_wp2_with fail
 go_ret
 exact ⟨_, rfl, HO2.out.lower HE1.out.size, (HE1.out.below.trans (HB.out.mono HE1.out.size)).trans (HB2.out.mono HE1.out.size)⟩
end Go.Proofs.YtnkelahimiipjaaGreatDoor

namespace Go.Proofs.YtnkelahimiipjaaGreatDoor
open Go.RowKit Go.Sort

theorem ltS_irrefl (a : Smp) : ¬ ltS a a := by unfold ltS; omega
theorem ltS_trans {a b c : Smp} (h1 : ltS a b) (h2 : ltS b c) : ltS a c := by unfold ltS at *; omega
theorem ltS_asymm {a b : Smp} (h : ltS a b) : ¬ ltS b a := fun k => ltS_irrefl a (ltS_trans h k)
/-- The samples as the sort lays them. -/
def sortL (d : List Smp) : List Smp := (sortA d.toArray).toList
theorem sortL_spec (d : List Smp) : (sortL d).Perm d ∧ (sortL d).Pairwise (fun a b => ¬ ltS b a) := by
 have h := pdq_sorts (ltOf cmpS) swoS d.toArray 0 d.toArray.size (Lib.bitLen d.toArray.size) true true (Nat.zero_le _) (Nat.le_refl _) (Or.inl rfl)
 obtain ⟨⟨h1, _, h3⟩, h4⟩ := h
 have hs : (sortA d.toArray).size = d.toArray.size := h1
 constructor
 ·have e1 : ((sortA d.toArray).extract 0 d.toArray.size) = sortA d.toArray := by rw [← hs]; simp
  have e2 : (d.toArray.extract 0 d.toArray.size) = d.toArray := by simp
  have h3' : ((sortA d.toArray).extract 0 d.toArray.size).toList.Perm (d.toArray.extract 0 d.toArray.size).toList := h3
  rw [e1, e2] at h3'
  simpa [sortL] using h3'
 ·rw [List.pairwise_iff_getElem]
  intro i j hi hj hij
  have := h4 i j (Nat.zero_le _) hij (by rw [← hs]; simpa [sortL] using hj)
  have hi' : i < (sortA d.toArray).size := by simpa [sortL] using hi
  have hj' : j < (sortA d.toArray).size := by simpa [sortL] using hj
  have e : ∀ k (hk : k < (sortA d.toArray).size), (sortA d.toArray)[k]! = (sortA d.toArray)[k] := fun k hk => by simp [hk]
  have this' : ltOf cmpS (sortA d.toArray)[j]! (sortA d.toArray)[i]! = false := this
  rw [e i hi', e j hj'] at this'
  intro hlt
  have : ltOf cmpS (sortA d.toArray)[j] (sortA d.toArray)[i] = true := (ltOf_iff _ _).2 (by simpa [sortL] using hlt)
  rw [this] at this'; cases this'
theorem sortS_eq (l : List Smp) : sortS l = ded none (sortL (l.filter rightS)) := rfl

theorem ded_sub (l : List Smp) : ∀ p, (ded p l).Sublist l := by
 induction l with
 | nil => intro p; exact List.Sublist.refl _
 | cons a l ih =>
   intro p
   unfold ded
   split
   ·exact (ih _).cons _
   ·exact (ih _).cons_cons _
theorem ded_mem (l : List Smp) : ∀ p a, a ∈ l → a ∈ ded p l ∨ p = some a := by
 induction l with
 | nil => intro p a h; cases h
 | cons b l ih =>
   intro p a h
   unfold ded
   rcases List.mem_cons.1 h with rfl | h
   ·by_cases hp : p = some a
    ·exact .inr hp
    ·rw [if_neg hp]; exact .inl List.mem_cons_self
   ·rcases ih (some b) a h with h1 | h1
    ·split
     ·exact .inl h1
     ·exact .inl (List.mem_cons_of_mem _ h1)
    ·injection h1 with h1
     subst h1
     by_cases hp : p = some b
     ·exact .inr hp
     ·rw [if_neg hp]; exact .inl List.mem_cons_self
theorem ded_none_mem (l : List Smp) (a : Smp) : a ∈ ded none l ↔ a ∈ l :=
 ⟨fun h => (ded_sub l none).subset h, fun h => (ded_mem l none a h).resolve_right (by simp)⟩
/-- Of any two, one is ahead, or they are one. -/
def Tot (l : List Smp) : Prop := ∀ x ∈ l, ∀ y ∈ l, ¬ ltS x y → ¬ ltS y x → x = y
theorem ded_not (l : List Smp) : ∀ a, (a :: l).Pairwise (fun a b => ¬ ltS b a) → Tot (a :: l) → a ∉ ded (some a) l := by
 induction l with
 | nil => intro a _ _ h; cases h
 | cons b l ih =>
   intro a hp ht
   have hp1 := List.pairwise_cons.1 hp
   have hp2 := List.pairwise_cons.1 hp1.2
   unfold ded
   by_cases hb : some a = some b
   ·rw [if_pos hb]
    injection hb with hb
    subst hb
    exact ih a hp1.2 (fun x hx y hy => ht x (List.mem_cons_of_mem _ hx) y (List.mem_cons_of_mem _ hy))
   ·rw [if_neg hb, List.mem_cons]
    rintro (h | h)
    ·exact hb (by rw [h])
    ·have hal := (ded_sub l _).subset h
     exact hb (by rw [ht a List.mem_cons_self b (List.mem_cons_of_mem _ List.mem_cons_self) (hp2.1 a hal) (hp1.1 b List.mem_cons_self)])
theorem ded_strict (l : List Smp) : ∀ p, l.Pairwise (fun a b => ¬ ltS b a) → Tot l → (ded p l).Pairwise ltS := by
 induction l with
 | nil => intro p _ _; exact List.Pairwise.nil
 | cons a l ih =>
   intro p hp ht
   have hp1 := List.pairwise_cons.1 hp
   have hr := ih (some a) hp1.2 (fun x hx y hy => ht x (List.mem_cons_of_mem _ hx) y (List.mem_cons_of_mem _ hy))
   unfold ded
   split
   ·exact hr
   ·refine List.pairwise_cons.2 ⟨fun c hc => ?_, hr⟩
    have hcl := (ded_sub l _).subset hc
    refine Classical.byContradiction fun hn => ?_
    have := ht a List.mem_cons_self c (List.mem_cons_of_mem _ hcl) hn (hp1.1 c hcl)
    subst this
    exact ded_not l a hp ht hc
theorem strict_unique (l1 : List Smp) : ∀ l2 : List Smp, l1.Pairwise ltS → l2.Pairwise ltS → (∀ x, x ∈ l1 ↔ x ∈ l2) → l1 = l2 := by
 induction l1 with
 | nil =>
   intro l2 _ _ h
   cases l2 with
   | nil => rfl
   | cons b u => exact absurd ((h b).2 List.mem_cons_self) (by simp)
 | cons a t ih =>
   intro l2 h1 h2 h
   cases l2 with
   | nil => exact absurd ((h a).1 List.mem_cons_self) (by simp)
   | cons b u =>
     have p1 := List.pairwise_cons.1 h1
     have p2 := List.pairwise_cons.1 h2
     have hab : a = b := by
      rcases List.mem_cons.1 ((h a).1 List.mem_cons_self) with e | ha
      ·exact e
      ·rcases List.mem_cons.1 ((h b).2 List.mem_cons_self) with e | hb
       ·exact e.symm
       ·exact absurd (p2.1 a ha) (ltS_asymm (p1.1 b hb))
     subst hab
     rw [ih u p1.2 p2.2 fun x => ?_]
     have hx := h x
     rw [List.mem_cons, List.mem_cons] at hx
     constructor
     ·intro hxt
      rcases hx.1 (.inr hxt) with e | h'
      ·subst e; exact absurd (p1.1 x hxt) (ltS_irrefl _)
      ·exact h'
     ·intro hxu
      rcases hx.2 (.inr hxu) with e | h'
      ·subst e; exact absurd (p2.1 x hxu) (ltS_irrefl _)
      ·exact h'
theorem strict_tot (l : List Smp) (h : l.Pairwise ltS) : Tot l := by
 induction l with
 | nil => intro x hx; cases hx
 | cons a l ih =>
   have p := List.pairwise_cons.1 h
   intro x hx y hy h1 h2
   rcases List.mem_cons.1 hx with e | hx2 <;> rcases List.mem_cons.1 hy with e' | hy2
   ·rw [e, e']
   ·subst e; exact absurd (p.1 y hy2) h1
   ·subst e'; exact absurd (p.1 x hx2) h2
   ·exact ih p.2 x hx2 y hy2 h1 h2
theorem sortS_mem (l : List Smp) (x : Smp) : x ∈ sortS l ↔ x ∈ l ∧ rightS x = true := by
 rw [sortS_eq, ded_none_mem, (sortL_spec _).1.mem_iff, List.mem_filter]
theorem sortS_strict (l : List Smp) (h : Tot (l.filter rightS)) : (sortS l).Pairwise ltS := by
 rw [sortS_eq]
 refine ded_strict _ _ (sortL_spec _).2 fun x hx y hy => h x ((sortL_spec _).1.mem_iff.1 hx) y ((sortL_spec _).1.mem_iff.1 hy)
/-- dedup.Sort is the row in order of those that may be. -/
theorem sortS_is (l s : List Smp) (hs : s.Pairwise ltS) (hm : ∀ x, x ∈ s ↔ x ∈ l ∧ rightS x = true) : sortS l = s := by
 refine strict_unique _ _ (sortS_strict l fun x hx y hy => ?_) hs fun x => ?_
 ·rw [List.mem_filter] at hx hy
  exact strict_tot s hs x ((hm x).2 hx) y ((hm y).2 hy)
 ·rw [sortS_mem, hm]
end Go.Proofs.YtnkelahimiipjaaGreatDoor
