import Derived.Test.YtbggdkpcgcmepaaGreatDoorCn
namespace Go.Proofs.YtbggdkpcgcmepaaGreatDoor
open Go.RowKit Go.Sort

/-- Is it outside? -/
def outS (f t : Int) (s : Smp) : Bool := decide (s.1 < f) || decide (t < s.1)

set_option maxHeartbeats 400000 in
theorem out_walk (s : Smp) (f t : Int) (w : World) (pf pt : Nat) (hf : w.cell? ⟨pf, 0, none⟩ = some (.int .i64 f)) (ht : w.cell? ⟨pt, 0, none⟩ = some (.int .i64 t)) :
    Calls Tryz.prog 34 #[vS s, .pointer (some ⟨pf, 0, none⟩), .pointer (some ⟨pt, 0, none⟩)] w fun e w' => e = .returned (.bool (outS f t s)) ∧ Ext w w' := by
  have HE : Hid (Ext w (w.alloc (.cells #[.int .i64 s.1, .int .i64 s.2.1, .int .i64 s.2.2.1, .int .i64 s.2.2.2] 28))) := (Ext.refl w).alloc _
  have c0 : (w.alloc (.cells #[.int .i64 s.1, .int .i64 s.2.1, .int .i64 s.2.2.1, .int .i64 s.2.2.2] 28)).cell? ⟨w.heap.size, 0, none⟩ = some (.int .i64 s.1) := by simp
  have hf1 : (w.alloc (.cells #[.int .i64 s.1, .int .i64 s.2.1, .int .i64 s.2.2.1, .int .i64 s.2.2.2] 28)).cell? ⟨pf, 0, none⟩ = some (.int .i64 f) := HE.out.cell_some hf
  have ht1 : (w.alloc (.cells #[.int .i64 s.1, .int .i64 s.2.1, .int .i64 s.2.2.1, .int .i64 s.2.2.2] 28)).cell? ⟨pt, 0, none⟩ = some (.int .i64 t) := HE.out.cell_some ht
  clear hf ht
  unfold vS
  by_cases h : s.1 < f
  · have hd : outS f t s = true := by unfold outS; simp [h]
    have g : decide (s.1 < f) = true := decide_eq_true h
    rw [hd]
    clear hd
    go_enter Tryz.func34, Tryz.ntmps34
    go_wp2_with fail
    go_ret
    exact ⟨rfl, HE.out⟩
  · have hd : outS f t s = decide (t < s.1) := by unfold outS; simp [h]
    have g : decide (s.1 < f) = false := decide_eq_false h
    rw [hd]
    clear hd
    go_enter Tryz.func34, Tryz.ntmps34
    go_wp2_with fail
    go_ret
    exact ⟨ret_bool (by simp), HE.out⟩

/-- The first one outside. -/
def idxS (f t : Int) (l : List Smp) : Option Nat := l.findIdx? (outS f t)
def idxV (f t : Int) (l : List Smp) : Int := match l.findIdx? (outS f t) with | some i => i | none => -1
theorem idx_take_none {f t : Int} {l : List Smp} {k : Nat} {y : Smp} (hk : k < l.length) (hy : y = l[k]) (h : (l.take k).findIdx? (outS f t) = none) :
    (outS f t y = true → idxV f t l = k) ∧ (outS f t y = false → (l.take (k + 1)).findIdx? (outS f t) = none) := by
  constructor
  · intro ho
    unfold idxV
    have : l.findIdx? (outS f t) = some k := by
      rw [List.findIdx?_eq_some_iff_getElem]
      refine ⟨hk, by rw [← hy]; exact ho, fun j hj => ?_⟩
      rw [List.findIdx?_eq_none_iff] at h
      have := h l[j] (by rw [List.mem_take_iff_getElem]; exact ⟨j, by omega, rfl⟩)
      simpa using this
    rw [this]
  · intro ho
    rw [List.findIdx?_eq_none_iff] at *
    intro x hx
    rw [List.take_succ_eq_append_getElem hk, List.mem_append, List.mem_singleton, ← hy] at hx
    rcases hx with hx | rfl
    · exact h x hx
    · exact ho

set_option maxHeartbeats 1000000 in
theorem idx_walk (v : Value) (l : List Smp) (f t : Int) (W : World) (pf pt : Nat) (hf : W.cell? ⟨pf, 0, none⟩ = some (.int .i64 f)) (ht : W.cell? ⟨pt, 0, none⟩ = some (.int .i64 t)) (hR : Rd W W.heap.size v l) (hl : l.length * 32 ≤ 140737488355328) :
    Calls Tryz.prog 41 #[v, .func (.func 34) #[] #[.pointer (some ⟨pf, 0, none⟩), .pointer (some ⟨pt, 0, none⟩)]] W fun e w' => e = .returned (.int .i64 (idxV f t l)) ∧ Ext W w' := by
  obtain ⟨A, c, rfl, hc, hA⟩ := hR
  have HA := Lib.hid hA
  obtain ⟨n, hn⟩ : ∃ n, n = l.length := ⟨_, rfl⟩
  rw [← hn] at hl ⊢
  have HN : Hid (n = l.length) := hn
  obtain ⟨q, hq⟩ : ∃ q, q = idxV f t l := ⟨_, rfl⟩
  rw [← hq]
  have HQ : Hid (q = idxV f t l) := hq
  have HF := Lib.hid hf
  have HT := Lib.hid ht
  have KO := Lib.hid (fun (y : Smp) (w : World) (hE : Ext W w) => out_walk y f t w pf pt (hE.cell_some hf) (hE.cell_some ht))
  clear hA hn hq hf ht hc
  go_enter Tryz.func41, Tryz.ntmps41
  go_wp2_with fail
  go_loopw [8] (fun i wl => ∃ k : Nat, k ≤ n ∧ i = .int .i64 k ∧ Hid ((l.take k).findIdx? (outS f t) = none) ∧ Hid (Ext W wl))
    (fun i _ => n - (intOf i).toNat)
  case atStart => exact ⟨0, Nat.zero_le _, rfl, rfl, Ext.refl _⟩
  case round =>
    obtain ⟨k, hk, rfl, HI, HE⟩ := hrel
    by_cases hlt : k < n
    · have hl2 : k < l.length := by rw [← HN.out]; exact hlt
      rcases HA.out with h0 | ⟨b, o, e, hb, hcl⟩
      · subst h0; simp at hl2
      subst e
      obtain ⟨y, hy⟩ : ∃ y, y = l[k] := ⟨_, rfl⟩
      obtain ⟨c0, c1, c2, c3⟩ : Cell4 wr b (o + k * 4) y := by rw [hy]; exact (hcl k hl2).below HE.out.below hb
      have HX := Lib.hid (idx_take_none hl2 hy HI.out)
      clear hy hcl
      go_wp2_with fail
      refine (KO.out y wr HE.out).mono ?_
      rintro e w2 ⟨rfl, hE2⟩
      have HE2 : Hid (Ext W w2) := HE.out.trans hE2
      clear c0 c1 c2 c3 hE2
      cases ho : outS f t y with
      | true =>
        have hqk : Hid (q = k) := HQ.out.trans (HX.out.1 ho)
        clear HX ho
        go_wp2_with fail
        go_ret
        exact ⟨ret_int hqk.out.symm, HE2.out⟩
      | false =>
        have hI2 : Hid ((l.take (k + 1)).findIdx? (outS f t) = none) := HX.out.2 ho
        clear HX ho
        go_wp2_with fail
        go_roundw
        case rel => exact ⟨k + 1, by omega, by go_num, hI2, HE2⟩
        case measure => simp [intOf]; omega
    · have hqm : Hid (q = -1) := by
        show _ = _
        have := HI.out
        rw [show k = l.length by have := HN.out; omega, List.take_length] at this
        rw [HQ.out]; unfold idxV; rw [this]
      go_wp2_with fail
      go_ret
      exact ⟨ret_int hqm.out.symm, HE.out⟩
end Go.Proofs.YtbggdkpcgcmepaaGreatDoor
