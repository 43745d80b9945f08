/-
  The reference's Span.
-/
import Derived.Test.YtkcipfmbkokfdaaGreatDoorRkk
import Derived.Test.YtkcipfmbkokfdaaGreatDoorSsk
import Derived.Test.YtkcipfmbkokfdaaGreatDoorRmk
namespace Go.Proofs.YtkcipfmbkokfdaaGreatDoor
open Go.RowKit Go.Sort Go.Maps
set_option maxRecDepth 100000 in
set_option maxHeartbeats 4000000 in
theorem rspan_walk (v : Value) (l : List Pts) (W : World) (hR : RdP W W.heap.size v l) (hn : l.length ≤ 100000) (hm : manyL l ≤ 10000) :
    Calls Tryz.prog 15 #[v] W fun e w' => e = .returned (encSpan (spanS (cleanS l))) ∧ Below W.heap.size W w' := by
  have HK := Lib.hid (rclean_walk v l W hR hn hm)
  have HCl := Lib.hid (cleanS_clean l)
  have HBd : Hid ((cleanS l).length ≤ 100000 ∧ manyL (cleanS l) ≤ 100000) := ⟨Nat.le_trans (cleanS_length l) hn, Nat.le_trans (cleanS_many l) (by omega)⟩
  have HMd : Hid (∀ p ∈ cleanS l, p.2.length ≤ 100000) := fun p hp => by
    have h1 := cleanS_many l
    have h2 := many_mem hp
    omega
  obtain ⟨A, c, rfl, hc, _⟩ := hR
  obtain ⟨n0, hn0⟩ : ∃ n0, n0 = l.length := ⟨_, rfl⟩
  rw [← hn0] at hc hn HK ⊢
  clear hn hm hn0
  unfold encSpan
  obtain ⟨q, hq⟩ : ∃ q, q = cleanS l := ⟨_, rfl⟩
  rw [← hq] at HK HCl HBd HMd ⊢
  have HEq := Lib.hid (span_eq q HCl.out)
  rw [← HEq.out]
  clear hq
  go_enter Tryz.func15, Tryz.ntmps15
  go_wp2_with fail
  refine HK.out.mono ?_
  rintro e w1 ⟨r, rfl, h2, h3⟩
  have HB := Lib.hid h3
  obtain ⟨A2, c2, rfl, hc2, hA2⟩ := h2
  obtain ⟨m, hm⟩ : ∃ m, m = q.length := ⟨_, rfl⟩
  have hbd := HBd.out.1
  rw [← hm] at hc2 hbd
  rw [← hm]
  have HM := Lib.hid hm
  have HA := Lib.hid hA2
  clear h3 hA2 hm HK HBd
  go_wp2_with fail
  go_loopw [6, 7, 8, 9, 10, 11] (fun sa sb si i _ _ wl => ∃ (k : Nat) (a b : Int) (is : Bool), k ≤ m ∧ i = .int .i64 k ∧ sa = .int .i64 a ∧ sb = .int .i64 b ∧ si = .bool is ∧ Hid ((a, b, is) = ((q.take k).flatMap (fun p => p.2)).foldl (fun r x => stepSp r x.1) (0, 0, false)) ∧ Hid (Below w1.heap.size w1 wl)) (fun _ _ _ i _ _ _ => m - (intOf i).toNat)
  case atStart => exact ⟨0, 0, 0, false, Nat.zero_le _, rfl, rfl, rfl, rfl, rfl, Below.refl _ _⟩
  case round =>
    obtain ⟨k, a, b, is, hk, rfl, rfl, rfl, rfl, HF, HB2⟩ := hrel
    by_cases hlt : k < m
    · have hkl : k < q.length := by rw [← HM.out]; exact hlt
      rcases HA.out with h0 | ⟨b3, o3, e, hb3, hcl⟩
      · subst h0; simp at hkl
      subst e
      obtain ⟨p, hp⟩ : ∃ p, p = q[k] := ⟨_, rfl⟩
      obtain ⟨c3, sv, c4, hsv, _⟩ : PtAt wr w1.heap.size b3 (o3 + k * 2) p := by rw [hp]; exact (hcl k hkl).below HB2.out hb3
      obtain ⟨A4, c5, rfl, hc5, hA4⟩ := hsv
      have htk : q.take (k + 1) = q.take k ++ [p] := by rw [hp]; exact List.take_succ_eq_append_getElem hkl
      have HT : Hid (((q.take (k + 1)).flatMap (fun p => p.2)).foldl (fun r x => stepSp r x.1) (0, 0, false) = p.2.foldl (fun r x => stepSp r x.1) (a, b, is)) := by
        show _ = _
        rw [htk, List.flatMap_append, List.foldl_append, ← HF.out]
        simp
      have hp5 := HMd.out p (by rw [hp]; exact List.getElem_mem hkl)
      have HA4 := Lib.hid hA4
      obtain ⟨n5, hn5⟩ : ∃ n, n = p.2.length := ⟨_, rfl⟩
      rw [← hn5] at c4 hc5 hp5
      have HN5 := Lib.hid hn5
      have i1 : (k : Int) < (m : Int) := by omega
      have HB3 := Lib.hid c4
      have HBS := Lib.hid HB2.out.size
      clear hp hcl htk hA4 hn5 c3
      go_wp2_with fail
      go_loopw [6, 7, 8, 10, 11] (fun sa sb si i _ wl => ∃ (j : Nat) (a' b' : Int) (is' : Bool), j ≤ n5 ∧ i = .int .i64 j ∧ sa = .int .i64 a' ∧ sb = .int .i64 b' ∧ si = .bool is' ∧ Hid ((a', b', is') = (p.2.take j).foldl (fun r x => stepSp r x.1) (a, b, is)) ∧ Hid (Below w1.heap.size w1 wl) ∧ Hid (Below w1.heap.size wr wl)) (fun _ _ _ i _ _ => n5 - (intOf i).toNat)
      case atStart => exact ⟨0, a, b, is, Nat.zero_le _, rfl, rfl, rfl, rfl, rfl, HB2.out, Below.refl _ _⟩
      case round =>
        obtain ⟨j, a', b', is', hj, rfl, rfl, rfl, rfl, HF2, HB4, HB5⟩ := hrel
        by_cases hlt2 : j < n5
        · have hjl : j < p.2.length := by rw [← HN5.out]; exact hlt2
          rcases HA4.out with h0 | ⟨b4, o4, e, hb4, hcl4⟩
          · rw [h0] at hjl; simp at hjl
          subst e
          obtain ⟨x, hx⟩ : ∃ x, x = p.2[j] := ⟨_, rfl⟩
          have d0 : wr.cell? ⟨b4, o4 + j * 4, none⟩ = some (.int .i64 x.1) := by rw [hx]; exact ((hcl4 j hjl).below HB5.out hb4).1
          have c4' := (HB5.out.cell hb3).trans HB3.out
          have HT2 : Hid ((p.2.take (j + 1)).foldl (fun r x => stepSp r x.1) (a, b, is) = stepSp (a', b', is') x.1) := by
            show _ = _
            rw [List.take_succ_eq_append_getElem hjl, List.foldl_append, ← HF2.out, ← hx]
            rfl
          obtain ⟨t, ht⟩ : ∃ t, t = x.1 := ⟨_, rfl⟩
          rw [← ht] at d0 HT2
          have i2 : (j : Int) < (n5 : Int) := by omega
          clear hx hcl4 ht
          have key : (is' = false) ∨ (is' = true) := by cases is' <;> simp
          rcases key with rfl | rfl
          · have HT3 : Hid (stepSp (a', b', false) t = (t, t, true)) := rfl
            rw [HT3.out] at HT2
            go_wp2_with fail
            go_roundw
            case rel => exact ⟨j + 1, t, t, true, by omega, by go_num, rfl, rfl, rfl, HT2.out.symm, HB4.out, HB5.out⟩
            case measure => simp [intOf]; omega
          · by_cases h1 : t < a' <;> by_cases h2 : b' < t
            · have HT3 : Hid (stepSp (a', b', true) t = (t, t, true)) := by show _ = _; simp [stepSp, h1, h2]
              rw [HT3.out] at HT2
              go_wp2_with fail
              go_roundw
              case rel => exact ⟨j + 1, t, t, true, by omega, by go_num, rfl, rfl, rfl, HT2.out.symm, HB4.out, HB5.out⟩
              case measure => simp [intOf]; omega
            · have HT3 : Hid (stepSp (a', b', true) t = (t, b', true)) := by show _ = _; simp [stepSp, h1, h2]
              rw [HT3.out] at HT2
              go_wp2_with fail
              go_roundw
              case rel => exact ⟨j + 1, t, b', true, by omega, by go_num, rfl, rfl, rfl, HT2.out.symm, HB4.out, HB5.out⟩
              case measure => simp [intOf]; omega
            · have HT3 : Hid (stepSp (a', b', true) t = (a', t, true)) := by show _ = _; simp [stepSp, h1, h2]
              rw [HT3.out] at HT2
              go_wp2_with fail
              go_roundw
              case rel => exact ⟨j + 1, a', t, true, by omega, by go_num, rfl, rfl, rfl, HT2.out.symm, HB4.out, HB5.out⟩
              case measure => simp [intOf]; omega
            · have HT3 : Hid (stepSp (a', b', true) t = (a', b', true)) := by show _ = _; simp [stepSp, h1, h2]
              rw [HT3.out] at HT2
              go_wp2_with fail
              go_roundw
              case rel => exact ⟨j + 1, a', b', true, by omega, by go_num, rfl, rfl, rfl, HT2.out.symm, HB4.out, HB5.out⟩
              case measure => simp [intOf]; omega
        · have hjn : j = n5 := by omega
          have c4' := (HB5.out.cell hb3).trans HB3.out
          have HF3 : Hid ((a', b', is') = ((q.take (k + 1)).flatMap (fun p => p.2)).foldl (fun r x => stepSp r x.1) (0, 0, false)) := by
            show _ = _
            rw [HT.out, HF2.out, hjn, HN5.out, List.take_length]
          clear hjn
          go_wp2_with fail
          go_roundw
          case rel => exact ⟨k + 1, a', b', is', by omega, by go_num, rfl, rfl, rfl, HF3.out, HB4.out⟩
          case measure => simp [intOf]; omega
    · have hkm : k = m := by omega
      have hfin : Hid (q.take k = q) := by show _ = _; rw [hkm, HM.out, List.take_length]
      clear hkm
      go_wp2_with fail
      go_ret3
      refine ⟨?_, HB.out.trans (HB2.out.mono HB.out.size)⟩
      have h := HF.out
      rw [hfin.out] at h
      rw [← h]
      rfl
end Go.Proofs.YtkcipfmbkokfdaaGreatDoor

/-
  Rows of rows of points, that the call makes itself.
-/
namespace Go.Proofs.YtkcipfmbkokfdaaGreatDoor
open Go.RowKit Go.Sort Go.Maps
theorem info_rowP : (Tryz.prog.info? 29).map (fun i => (i.zero, i.size, i.bytes)) = some (some (.slice none 0 0), 1, 24) := by kernel_rfl
/-- Points that can be read, none of it in the row that grows. -/
def RdPx (w : World) (row : Option Nat) (v : Value) (l : List Pts) : Prop :=
  ∃ A c, v = .slice A l.length c ∧ l.length ≤ c ∧ (l = [] ∨ ∃ b o, A = some ⟨b, o, none⟩ ∧ b < w.heap.size ∧ some b ≠ row ∧ ∀ i (h : i < l.length), w.cell? ⟨b, o + i * 2, none⟩ = some (.int .i64 l[i].1) ∧ ∃ sv, w.cell? ⟨b, o + i * 2 + 1, none⟩ = some sv ∧ Rd w w.heap.size sv l[i].2 ∧ Nz sv ∧ AwR w row sv l[i].2)
theorem RdPx.rdP {w : World} {row : Option Nat} {v : Value} {l : List Pts} (h : RdPx w row v l) : RdP w w.heap.size v l := by
  obtain ⟨A, c, e, hc, hA⟩ := h
  exact ⟨A, c, e, hc, hA.imp id fun ⟨b, o, e, hb, _, hcl⟩ => ⟨b, o, e, hb, fun i hi => by
    obtain ⟨h1, sv, h2, h3, h4, _⟩ := hcl i hi
    exact ⟨h1, sv, h2, h3, h4⟩⟩⟩
theorem RdPx.on {w w' : World} {row : Option Nat} {v : Value} {l : List Pts} (h : RdPx w row v l) (k : Below w.heap.size w w') : RdPx w' row v l := by
  obtain ⟨A, c, e, hc, hA⟩ := h
  exact ⟨A, c, e, hc, hA.imp id fun ⟨b, o, e, hb, hr, hcl⟩ => ⟨b, o, e, Nat.lt_of_lt_of_le hb k.size, hr, fun i hi => by
    obtain ⟨h1, sv, h2, h3, h4, h5⟩ := hcl i hi
    exact ⟨(k.cell hb).trans h1, sv, (k.cell hb).trans h2, (h3.below k).mono k.size, h4, h5.on k.size⟩⟩⟩
theorem RdPx.grown {w w' : World} {row : Option Nat} {v : Value} {l : List Pts} (h : RdPx w row v l) (hg : w.grownBy w' row) : RdPx w' row v l := by
  obtain ⟨A, c, e, hc, hA⟩ := h
  exact ⟨A, c, e, hc, hA.imp id fun ⟨b, o, e, hb, hr, hcl⟩ => ⟨b, o, e, Nat.lt_of_lt_of_le hb hg.size, hr, fun i hi => by
    obtain ⟨h1, sv, h2, h3, h4, h5⟩ := hcl i hi
    exact ⟨(hg.cell_far _ hb hr).trans h1, sv, (hg.cell_far _ hb hr).trans h2, h3.grownE hg (fun hl a n c e => (h5 hl a n c e).1), h4, h5.on hg.size⟩⟩⟩
theorem RdPx.low {w : World} {B : Nat} {row : Option Nat} {v : Value} {l : List Pts} (h : RdP w B v l) (hB : B ≤ w.heap.size) (hr : ∀ g, row = some g → B ≤ g) : RdPx w row v l := by
  obtain ⟨A, c, e, hc, hA⟩ := h
  exact ⟨A, c, e, hc, hA.imp id fun ⟨b, o, e, hb2, hcl⟩ => ⟨b, o, e, by omega, fun e => by have := hr _ e.symm; omega, fun i hi => by
    obtain ⟨h1, sv, h2, h3, h4⟩ := hcl i hi
    refine ⟨h1, sv, h2, h3.mono hB, h4, fun hl a n c e => ?_⟩
    obtain ⟨A', c', e2, _, hA'⟩ := h3
    rcases hA' with h0 | ⟨b', o', e3, hb', _⟩
    · exact absurd h0 hl
    · subst e3
      rw [e] at e2
      injection e2 with e2
      injection e2 with e2
      subst e2
      exact ⟨fun e => by have := hr _ e.symm; simp at this; omega, by simp; omega⟩⟩⟩
/-- New memory is none of an elder block. -/
theorem OwP.px {w : World} {base : Nat} {v : Value} {cs : List Row} {row : Option Nat} (h : OwP w base v cs) (hlo : ∀ x ∈ cs, ∀ a n c, x.2.1 = .slice (some a) n c → base ≤ a.block) (hr : ∀ g, row = some g → g < base) : RdPx w row v (cut cs) := by
  obtain ⟨A, c, e, hc, hA⟩ := h.rdP
  refine ⟨A, c, e, hc, hA.imp id fun ⟨b, o, e3, hb, hcl⟩ => ⟨b, o, e3, hb, fun e9 => ?_, fun i hi => ?_⟩⟩
  · have h1 := hr _ e9.symm
    rcases h.row.2 with ⟨hv, hn⟩ | ⟨g, cap, cur, hv, hb2, _⟩
    · rw [hv] at e; injection e with e; rw [e3] at e; cases e
    · rw [hv] at e
      injection e with e
      rw [e3] at e
      injection e with e
      injection e with e
      omega
  · have hlen : (cut cs).length = cs.length := by simp [cut]
    rcases h.row.2 with ⟨hv, hn⟩ | ⟨g, cap, cur, hv, hb2, hcur, k1, k2, k3, k4⟩
    · rw [hlen] at hi; omega
    · have hi' : i < cs.length := by rw [← hlen]; exact hi
      rw [hv] at e
      injection e with e
      rw [e3] at e
      injection e with e
      injection e with e4 e5
      subst e4 e5
      have hcell : ∀ t (ht : t < 2), w.cell? ⟨g, i * 2 + t, none⟩ = (ptC cs[i])[t]? := by
        intro t ht
        have e1 : w.cell? ⟨g, i * 2 + t, none⟩ = cur[i * 2 + t]? := by simp [World.cell?, hcur]
        have e2 : (cur.toList.take (cs.length * 2))[i * 2 + t]? = cur[i * 2 + t]? := by rw [List.getElem?_take_of_lt (by omega)]; simp
        rw [e1, ← e2, k4]
        exact flat2 cs i t hi' ht
      obtain ⟨q1, q2, q3⟩ := h.rd cs[i] (List.getElem_mem hi')
      have hci : (cut cs)[i] = (cs[i].1, cs[i].2.2) := by simp [cut]
      rw [hci]
      refine ⟨by rw [Nat.zero_add]; exact hcell 0 (by omega), cs[i].2.1, by rw [Nat.zero_add]; exact hcell 1 (by omega), q1, q2, fun hl a n c e => ⟨fun e9 => ?_, (q3 hl a n c e).2⟩⟩
      have h1 := hr _ e9.symm
      have h2 := hlo _ (List.getElem_mem hi') a n c e
      omega
structure OwV (w : World) (base : Nat) (v : Value) (vs : List (Value × List Pts)) : Prop where
  row : w.ownsRow base 29 1 v vs.length (vs.map (fun x => x.1))
  rd : ∀ x ∈ vs, RdPx w v.ownBlock x.1 x.2 ∧ Nz x.1
theorem OwV.nil (w : World) (base : Nat) : OwV w base (.slice none 0 0) [] := ⟨⟨rfl, .inl ⟨rfl, rfl⟩⟩, fun _ hx => absurd hx (List.not_mem_nil)⟩
theorem OwV.on {w w' : World} {base : Nat} {v : Value} {vs : List (Value × List Pts)} (h : OwV w base v vs) (k : Below w.heap.size w w') : OwV w' base v vs :=
  ⟨Below.owns k h.row, fun x hx => ⟨(h.rd x hx).1.on k, (h.rd x hx).2⟩⟩
/-- append of one row. -/
theorem app1VP {P : Program} {w : World} {ops : Array Oper} {rest : List Oper} {o : Oper} {a : Act} {Q : Exit → Act → World → Prop} (hgd : o.guard = none) (s x : Operand) (t : TypeId)
    (ho : o.op = .call { callee := .builtin .append, args := #[s, x], argTypes := #[t, t] }) (ht : P.underlying t = some (.slice 29))
    (hinf : (P.info? 29).map (fun i => (i.zero, i.size, i.bytes)) = some (some (.slice none 0 0), 1, 24))
    (base : Nat) (v : Value) (vs : List (Value × List Pts)) (y : Value × List Pts) (hs : a.eval s = v) (hown : OwV w base v vs) (b off c : Nat) (hx : a.eval x = .slice (some ⟨b, off, none⟩) 1 c) (hc : w.cell? ⟨b, off, none⟩ = some y.1)
    (hR : RdPx w v.ownBlock y.1 y.2) (hz : Nz y.1) (hl : (vs.length + 1) * 24 ≤ 140737488355328) (hbase : base ≤ w.heap.size)
    (h : ∀ v' w', OwV w' base v' (vs ++ [y]) → w.grownBy w' v.ownBlock → (v'.ownBlock = v.ownBlock ∨ v'.ownBlock = some w.heap.size) → wpList P ops Q rest (a.put o.dst v') w') :
    wpList P ops Q (o :: rest) a w := by
  obtain ⟨i, hi, hz1, hsz, hby⟩ := of_info hinf
  have h1c : y.1.oneCell' = true := by obtain ⟨A, c, e, _⟩ := hR; rw [e]; rfl
  refine wpList_append_own_at w hgd s x t ho base _ i _ 1 24 ht hi hz1 hsz hby rfl (by decide) v vs.length (vs.map (fun x => x.1)) hs hown.row ⟨b, off, none⟩ 1 c [y.1] hx rfl ?_ (fun u hu => by rw [List.mem_singleton] at hu; subst hu; exact h1c) (by unfold maxLen; omega) hl hbase (fun v' w' h1 h2 _ h4 => ?_)
  · intro j u hj
    rcases j with _ | j
    · simp at hj; subst hj; simpa [Addr.add] using hc
    · simp at hj
  · refine h v' w' ⟨by rw [List.length_append, List.map_append]; exact h1, fun z hz9 => ?_⟩ h2 h4
    have key : RdPx w v.ownBlock z.1 z.2 ∧ Nz z.1 := by
      rcases List.mem_append.1 hz9 with hz9 | hz9
      · exact hown.rd z hz9
      · rw [List.mem_singleton] at hz9; subst hz9; exact ⟨hR, hz⟩
    have k2 := key.1.grown h2
    rcases h4 with e | e
    · rw [e]; exact ⟨k2, key.2⟩
    · rw [e]
      refine ⟨?_, key.2⟩
      obtain ⟨A, c, e, hc, hA⟩ := k2
      obtain ⟨A0, c0, e0, hc0, hA0⟩ := key.1
      rw [e0] at e
      injection e with e1 _ e3
      subst e1 e3
      refine ⟨A0, c0, e0, hc, ?_⟩
      rcases hA0 with h0 | ⟨b0, o0, f1, f2, f3, f4⟩
      · exact .inl h0
      · rcases hA with h0 | ⟨b1, o1, g1, g2, g3, g4⟩
        · exact .inl h0
        · rw [f1] at g1
          injection g1 with g1
          injection g1 with g1 g5
          subst g1 g5
          refine .inr ⟨b0, o0, f1, g2, fun e => by injection e with e; omega, fun i hi => ?_⟩
          obtain ⟨p1, sv, p2, p3, p4, p5⟩ := f4 i hi
          obtain ⟨q1, sv', q2, q3, q4, q5⟩ := g4 i hi
          have hsv : sv' = sv := by
            have := (h2.cell_far _ f2 f3).trans p2
            rw [q2] at this
            exact Option.some.inj this
          subst hsv
          exact ⟨q1, sv', q2, q3, q4, fun hl a n c e => ⟨fun e9 => by
            injection e9 with e9
            have := (p5 hl a n c e).2
            omega, (q5 hl a n c e).2⟩⟩
theorem OwV.rdQ {w : World} {base : Nat} {v : Value} {vs : List (Value × List Pts)} (h : OwV w base v vs) : RdQ w w.heap.size v (vs.map (fun x => x.2)) := by
  rcases h.row.2 with ⟨rfl, hn⟩ | ⟨g, cap, cur, rfl, hb, hc, h1, h2, h3, h4⟩
  · have : vs = [] := List.eq_nil_of_length_eq_zero hn
    subst this
    exact ⟨none, 0, rfl, Nat.zero_le _, .inl rfl⟩
  · refine ⟨some ⟨g, 0, none⟩, cap, by rw [List.length_map], by rw [List.length_map]; exact h1, .inr ⟨g, 0, rfl, (Array.getElem?_eq_some_iff.1 hc).1, fun i hi => ?_⟩⟩
    have hi' : i < vs.length := by rw [List.length_map] at hi; exact hi
    obtain ⟨q1, q2⟩ := h.rd vs[i] (List.getElem_mem hi')
    refine ⟨vs[i].1, ?_, by simpa using q1.rdP, q2⟩
    have e1 : w.cell? ⟨g, 0 + i, none⟩ = cur[i]? := by simp [World.cell?, hc]
    have e2 : (cur.toList.take (vs.length * 1))[i]? = cur[i]? := by rw [List.getElem?_take_of_lt (by omega)]; simp
    rw [e1, ← e2, h4]
    simp [hi']
end Go.Proofs.YtkcipfmbkokfdaaGreatDoor
