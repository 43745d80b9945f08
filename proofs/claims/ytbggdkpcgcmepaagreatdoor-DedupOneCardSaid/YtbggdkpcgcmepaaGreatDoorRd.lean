import Derived.Test.YtbggdkpcgcmepaaGreatDoorRc
import Derived.Test.YtbggdkpcgcmepaaGreatDoorAnc
namespace Go.Proofs.YtbggdkpcgcmepaaGreatDoor
open Go.RowKit Go.Sort

theorem div_up (T N : Int) (hN : 1 ≤ N) : (T + N - 1) / N = if T / N * N < T then T / N + 1 else T / N := by
  have e := Int.mul_ediv_add_emod T N
  have m1 := Int.emod_nonneg T (by omega : N ≠ 0)
  have m2 := Int.emod_lt_of_pos T (by omega : 0 < N)
  have hc : N * (T / N) = T / N * N := Int.mul_comm _ _
  generalize hK : T / N = K at *
  generalize T % N = r at *
  split
  · have h2 : T + N - 1 = (r - 1) + (K + 1) * N := by rw [Int.add_mul, Int.one_mul]; omega
    rw [h2, Int.add_mul_ediv_right _ _ (by omega : N ≠ 0), Int.ediv_eq_zero_of_lt (by omega) (by omega)]; omega
  · have h2 : T + N - 1 = (N - 1) + K * N := by omega
    rw [h2, Int.add_mul_ediv_right _ _ (by omega : N ≠ 0), Int.ediv_eq_zero_of_lt (by omega) (by omega)]; omega

set_option maxRecDepth 100000 in
set_option maxHeartbeats 1000000 in
theorem rivl_a (t d N P : Int) (w : World) (hmm : min (max d 1) 1073741824 = N) (n1 : 1 ≤ N) (n2 : N ≤ 1073741824) (h0 : 0 < t) (h1 : t ≤ 4611686018427387904) (gp : IntKind.i64.wrap (t / N * N) = P) (_hP0 : 0 ≤ P) (hPT : P ≤ t) (hK0 : 0 ≤ t / N) (hKT : t / N ≤ t) :
    Calls Tryz.prog 19 #[.int .i64 t, .int .i64 d] w fun e w' => e = .returned (.int .i64 (if P < t then t / N + 1 else t / N)) ∧ w = w' := by
  have g0 : ¬ t ≤ 0 := by omega
  have g1 : ¬ 4611686018427387904 < t := by omega
  by_cases hlt : P < t
  · go_enter Tryz.func19, Tryz.ntmps19
    go_wp2
    go_ret
    exact ⟨rfl, rfl⟩
  · go_enter Tryz.func19, Tryz.ntmps19
    go_wp2
    go_ret
    exact ⟨rfl, rfl⟩
set_option maxRecDepth 100000 in
set_option maxHeartbeats 1000000 in
theorem rivl_b (t d N P : Int) (w : World) (hmm : min (max d 1) 1073741824 = N) (n1 : 1 ≤ N) (n2 : N ≤ 1073741824) (h0 : 4611686018427387904 < t) (gp : IntKind.i64.wrap (4611686018427387904 / N * N) = P) (_hP0 : 0 ≤ P) (hPT : P ≤ 4611686018427387904) (hK0 : 0 ≤ 4611686018427387904 / N) (hKT : 4611686018427387904 / N ≤ 4611686018427387904) :
    Calls Tryz.prog 19 #[.int .i64 t, .int .i64 d] w fun e w' => e = .returned (.int .i64 (if P < 4611686018427387904 then 4611686018427387904 / N + 1 else 4611686018427387904 / N)) ∧ w = w' := by
  have g0 : ¬ t ≤ 0 := by omega
  by_cases hlt : P < 4611686018427387904
  · go_enter Tryz.func19, Tryz.ntmps19
    go_wp2
    go_ret
    exact ⟨rfl, rfl⟩
  · go_enter Tryz.func19, Tryz.ntmps19
    go_wp2
    go_ret
    exact ⟨rfl, rfl⟩
set_option maxRecDepth 100000 in
set_option maxHeartbeats 1000000 in
theorem rivl_0 (t d N : Int) (w : World) (hmm : min (max d 1) 1073741824 = N) (h0 : t ≤ 0) :
    Calls Tryz.prog 19 #[.int .i64 t, .int .i64 d] w fun e w' => e = .returned (.int .i64 0) ∧ w = w' := by
  go_enter Tryz.func19, Tryz.ntmps19
  go_wp2
  go_ret
  exact ⟨rfl, rfl⟩
/-- eskerref15.Interval. -/
theorem rivl_walk (t d : Int) (w : World) : Calls Tryz.prog 19 #[.int .i64 t, .int .i64 d] w fun e w' => e = .returned (.int .i64 (ivl t d)) ∧ w = w' := by
  obtain ⟨n1, n2⟩ := ivN_bd d
  have hmm : min (max d 1) 1073741824 = ivN d := by unfold ivN; split <;> (try split) <;> omega
  have hdiv := div_up (ivT t) (ivN d) n1
  have e := Int.mul_ediv_add_emod (ivT t) (ivN d)
  have m1 := Int.emod_nonneg (ivT t) (by omega : ivN d ≠ 0)
  rw [Int.mul_comm] at e
  have k0 : 0 ≤ ivT t / ivN d := Int.ediv_nonneg (ivT_bd t).1 (by omega)
  have kT : ivT t / ivN d ≤ ivT t := Int.ediv_le_self _ (ivT_bd t).1
  have p0 : 0 ≤ ivT t / ivN d * ivN d := Int.mul_nonneg k0 (by omega)
  have pT : ivT t / ivN d * ivN d ≤ ivT t := by omega
  have tb := (ivT_bd t).2
  rcases (by omega : t ≤ 0 ∨ (0 < t ∧ t ≤ 4611686018427387904) ∨ 4611686018427387904 < t) with h | ⟨h, h1⟩ | h
  · have hT : ivT t = 0 := by unfold ivT; split <;> (try split) <;> omega
    have hv : ivl t d = 0 := by unfold ivl; rw [hT, Int.ediv_eq_zero_of_lt (by omega) (by omega)]
    rw [hv]
    exact rivl_0 t d _ w hmm h
  · have hT : ivT t = t := by unfold ivT; rw [if_neg (by omega), if_neg (by omega)]
    rw [hT] at hdiv k0 kT p0 pT
    have hv : ivl t d = (t + ivN d - 1) / ivN d := by unfold ivl; rw [hT]
    rw [hv, hdiv]
    exact rivl_a t d _ _ w hmm n1 n2 h h1 (IntWalk.i64_in _ (by omega)) p0 pT k0 kT
  · have hT : ivT t = 4611686018427387904 := by unfold ivT; rw [if_neg (by omega), if_pos h]
    rw [hT] at hdiv k0 kT p0 pT
    have hv : ivl t d = (4611686018427387904 + ivN d - 1) / ivN d := by unfold ivl; rw [hT]
    rw [hv, hdiv]
    exact rivl_b t d _ _ w hmm n1 n2 h (IntWalk.i64_in _ (by omega)) p0 pT k0 kT

/-- A sample put into a row in order, once. -/
def putS : List Smp → Smp → List Smp
  | [], s => [s]
  | a :: l, s => if cmpS a s < 0 then a :: putS l s else if a = s then a :: l else s :: a :: l
theorem putS_end {l : List Smp} {s : Smp} (h : ∀ i (h : i < l.length), cmpS l[i] s < 0) : putS l s = l ++ [s] := by
  induction l with
  | nil => rfl
  | cons a l ih =>
    have h0 := h 0 (by simp)
    have h1 := ih fun i hi => h (i + 1) (by simpa using hi)
    unfold putS
    rw [if_pos (by simpa using h0), h1]; rfl
theorem putS_at {l : List Smp} {s : Smp} {k : Nat} (hk : k < l.length) (h : ∀ i (h : i < l.length), i < k → cmpS l[i] s < 0) (hn : ¬ cmpS l[k] s < 0) :
    putS l s = if l[k] = s then l else l.take k ++ [s] ++ l.drop k := by
  induction l generalizing k with
  | nil => simp at hk
  | cons a l ih =>
    cases k with
    | zero =>
      unfold putS
      simp only [List.getElem_cons_zero] at hn ⊢
      rw [if_neg hn]
      split <;> simp
    | succ k =>
      have h0 := h 0 (by simp) (by omega)
      have h1 := ih (k := k) (by simpa using hk) (fun i hi hik => h (i + 1) (by simpa using hi) (by omega)) (by simpa using hn)
      unfold putS
      simp only [List.getElem_cons_zero, List.getElem_cons_succ] at h0 ⊢
      rw [if_pos h0, h1]
      split <;> simp
theorem putS_length (l : List Smp) (s : Smp) : (putS l s).length ≤ l.length + 1 := by
  induction l with
  | nil => simp [putS]
  | cons a l ih => unfold putS; split <;> (try split) <;> simp <;> omega

/-- A part of a row that can be read. -/
theorem Rd.cutTo {w : World} {B : Nat} {A : Option Addr} {n c k : Nat} {l : List Smp} (hn : n = l.length) (h : Rd w B (.slice A n c) l) (hk : k ≤ n) : Rd w B (.slice A k c) (l.take k) := by
  obtain ⟨A', c', e, hc, hA⟩ := h
  injection e with e1 e2 e3
  subst e1 e3
  have hl : (l.take k).length = k := by rw [List.length_take]; omega
  refine ⟨A, c, by rw [hl], by omega, ?_⟩
  rcases hA with rfl | ⟨b, o, rfl, hb, hcl⟩
  · left; simp
  · right
    refine ⟨b, o, rfl, hb, fun i hi => ?_⟩
    have hi' : i < l.length := by omega
    rw [List.getElem_take]
    exact hcl i hi'
theorem Rd.cutFrom {w : World} {B b o : Nat} {n c k : Nat} {l : List Smp} (hn : n = l.length) (h : Rd w B (.slice (some ⟨b, o, none⟩) n c) l) (hk : k < n) : Rd w B (.slice (some ⟨b, o + k * 4, none⟩) (n - k) (c - k)) (l.drop k) := by
  obtain ⟨A', c', e, hc, hA⟩ := h
  injection e with e1 e2 e3
  subst e1 e3
  have hl : (l.drop k).length = n - k := by rw [List.length_drop]; omega
  refine ⟨_, c - k, by rw [hl], by omega, ?_⟩
  rcases hA with rfl | ⟨b', o', e, hb, hcl⟩
  · simp at hn; omega
  · injection e with e
    injection e with e1 e2
    subst e1 e2
    right
    refine ⟨b, _, rfl, hb, fun i hi => ?_⟩
    have := hcl (k + i) (by omega)
    rw [show o + k * 4 + i * 4 = o + (k + i) * 4 by omega, List.getElem_drop]
    exact this
theorem Cell4.ext {w w' : World} {b o : Nat} {s : Smp} (h : Cell4 w b o s) (k : Below w.heap.size w w') : Cell4 w' b o s := h.below k (lt_of_cell h.1)
end Go.Proofs.YtbggdkpcgcmepaaGreatDoor
