import Derived.Test.YtbggdkpcgcmepaaGreatDoorRg
namespace Go.Proofs.YtbggdkpcgcmepaaGreatDoor
open Go.RowKit Go.Sort

/-- What a value's bits are. -/
theorem bitsV_cases {m x s : Int} (h : rightV m x s = true) :
    (s = 0 ∧ m = 0 ∧ x = 0 ∧ bitsV m x s = 0) ∨
    (s = 0 ∧ m ≠ 0 ∧ -1000000000000000 < m ∧ m < 1000000000000000 ∧ -300 ≤ x ∧ x ≤ 290 ∧ m % 10 ≠ 0 ∧ bitsV m x s = (if m < 0 then 9223372036854775808 else 0) + nearV m.natAbs x ∧ 4503599627370496 ≤ nearV m.natAbs x ∧ nearV m.natAbs x < 9218868437227405312) ∨
    (m = 0 ∧ x = 0 ∧ ((s = 1 ∧ bitsV m x s = 9218868437227405314) ∨ (s = 2 ∧ bitsV m x s = 9218868437227405312) ∨ (s = 3 ∧ bitsV m x s = 18442240474082181120) ∨ (s = 4 ∧ bitsV m x s = 9223372036854775808))) := by
  have hb : bitsV m x s = if s = 1 then 9218868437227405314 else if s = 2 then 9218868437227405312 else if s = 3 then 18442240474082181120 else if s = 4 then 9223372036854775808 else bitsN m x := by
    unfold bitsV; rw [h, if_neg (show ¬ (true = false) by decide)]
  unfold rightV at h
  by_cases hs : s = 0
  · have hb2 : bitsV m x s = bitsN m x := by
      rw [hb, if_neg (by omega), if_neg (by omega), if_neg (by omega), if_neg (by omega)]
    rw [if_neg (by rw [hs]; decide)] at h
    split at h
    · cases h
    · split at h
      · rename_i hm
        simp only [decide_eq_true_eq] at h
        left
        refine ⟨hs, hm, h, ?_⟩
        rw [hb2, hm]; unfold bitsN; rw [if_pos rfl]
      · simp only [decide_eq_true_eq] at h
        have hm0 : m ≠ 0 := by assumption
        right; left
        have hn := nearV_bd m.natAbs x (by omega) (by omega) h.2.1 h.2.2
        exact ⟨hs, hm0, by omega, by omega, h.2.1, h.2.2, h.1, hb2.trans (bitsN_near m x hm0 (by omega) (by omega) h.2.1 h.2.2), hn.1, hn.2⟩
  · rw [if_pos hs] at h
    simp only [decide_eq_true_eq] at h
    obtain ⟨h1, h2, h3, h4⟩ := h
    right; right
    refine ⟨h3, h4, ?_⟩
    rcases (by omega : s = 1 ∨ s = 2 ∨ s = 3 ∨ s = 4) with e | e | e | e
    · exact .inl ⟨e, by rw [hb, if_pos e]⟩
    · exact .inr (.inl ⟨e, by rw [hb, if_neg (by omega), if_pos e]⟩)
    · exact .inr (.inr (.inl ⟨e, by rw [hb, if_neg (by omega), if_neg (by omega), if_pos e]⟩))
    · exact .inr (.inr (.inr ⟨e, by rw [hb, if_neg (by omega), if_neg (by omega), if_neg (by omega), if_pos e]⟩))
/-- Values that aren't the same have other bits. -/
theorem bitsV_inj {m x s m' x' s' : Int} (h : rightV m x s = true) (h' : rightV m' x' s' = true) (e : bitsV m x s = bitsV m' x' s') : m = m' ∧ x = x' ∧ s = s' := by
  rcases bitsV_cases h with ⟨a1, a2, a3, a4⟩ | ⟨a1, a2, a3, a4, a5, a6, a7, a8, a9, a10⟩ | ⟨a1, a2, a3⟩ <;>
  rcases bitsV_cases h' with ⟨b1, b2, b3, b4⟩ | ⟨b1, b2, b3, b4, b5, b6, b7, b8, b9, b10⟩ | ⟨b1, b2, b3⟩
  · omega
  · rw [a4, b8] at e; split at e <;> omega
  · omega
  · rw [a8, b4] at e; split at e <;> omega
  · rw [a8, b8] at e
    have hn : nearV m.natAbs x = nearV m'.natAbs x' ∧ (m < 0 ↔ m' < 0) := by split at e <;> split at e <;> omega
    obtain ⟨h1, h2⟩ := nearV_inj m.natAbs m'.natAbs x x' (by omega) (by omega) (by omega) (by omega) a5 b5 hn.1
    omega
  · rw [a8] at e; split at e <;> omega
  · omega
  · rw [b8] at e; split at e <;> omega
  · omega
theorem tot_right (l : List Smp) : Tot (l.filter rightS) := by
  intro a ha b hb h1 h2
  rw [List.mem_filter] at ha hb
  have ra := ha.2
  have rb := hb.2
  unfold rightS at ra rb
  rw [Bool.and_eq_true] at ra rb
  unfold ltS Smp.bits at h1 h2
  obtain ⟨at_, am, ax, as_⟩ := a
  obtain ⟨bt, bm, bx, bs⟩ := b
  simp only at *
  obtain ⟨e1, e2, e3⟩ := bitsV_inj ra.2 rb.2 (by omega)
  have e4 : at_ = bt := by omega
  rw [e1, e2, e3, e4]
theorem putS_mem (r : List Smp) (s x : Smp) : x ∈ putS r s ↔ x ∈ r ∨ x = s := by
  induction r with
  | nil => simp [putS]
  | cons a r ih =>
    unfold putS
    split
    · rw [List.mem_cons, ih, List.mem_cons, or_assoc]
    · split
      · rename_i h
        constructor
        · exact .inl
        · rintro (h1 | h1)
          · exact h1
          · rw [h1, ← h]; exact List.mem_cons_self
      · simp only [List.mem_cons]
        constructor
        · rintro (h | h | h)
          · exact .inr h
          · exact .inl (.inl h)
          · exact .inl (.inr h)
        · rintro ((h | h) | h)
          · exact .inr (.inl h)
          · exact .inr (.inr h)
          · exact .inl h
theorem putS_strict (r : List Smp) (s : Smp) (hr : r.Pairwise ltS) (ht : ∀ a ∈ r, ¬ ltS a s → ¬ ltS s a → a = s) : (putS r s).Pairwise ltS := by
  induction r with
  | nil => unfold putS; exact List.pairwise_singleton _ _
  | cons a r ih =>
    have p := List.pairwise_cons.1 hr
    unfold putS
    split
    · rename_i h
      rw [cmpS_neg] at h
      refine List.pairwise_cons.2 ⟨fun b hb => ?_, ih p.2 fun b hb => ht b (List.mem_cons_of_mem _ hb)⟩
      rcases (putS_mem r s b).1 hb with h1 | h1
      · exact p.1 b h1
      · rw [h1]; exact h
    · rename_i h
      rw [cmpS_neg] at h
      split
      · exact hr
      · rename_i hne
        have hs : ltS s a := Classical.byContradiction fun hn => hne (ht a List.mem_cons_self h hn)
        refine List.pairwise_cons.2 ⟨fun b hb => ?_, hr⟩
        rcases List.mem_cons.1 hb with h1 | h1
        · rw [h1]; exact hs
        · exact ltS_trans hs (p.1 b h1)
theorem fold_put (d : List Smp) : ∀ r : List Smp, r.Pairwise ltS → Tot (r ++ d) → (d.foldl putS r).Pairwise ltS ∧ ∀ x, x ∈ d.foldl putS r ↔ x ∈ r ∨ x ∈ d := by
  induction d with
  | nil => intro r hr _; exact ⟨hr, fun x => by simp⟩
  | cons a d ih =>
    intro r hr ht
    have h1 := putS_strict r a hr fun b hb => ht b (by simp [hb]) a (by simp)
    have h2 := ih (putS r a) h1 (by
      intro x hx y hy
      refine ht x ?_ y ?_
      · rw [List.mem_append, putS_mem] at hx; simp; rcases hx with (h | h) | h <;> simp [h]
      · rw [List.mem_append, putS_mem] at hy; simp; rcases hy with (h | h) | h <;> simp [h])
    refine ⟨h2.1, fun x => ?_⟩
    rw [List.foldl_cons, h2.2, putS_mem, List.mem_cons, or_assoc]
/-- The reference's order is the program's. -/
theorem rsortS_eq (l : List Smp) : rsortS l = sortS l := by
  obtain ⟨h1, h2⟩ := fold_put (l.filter rightS) [] List.Pairwise.nil (by rw [List.nil_append]; exact tot_right l)
  refine (sortS_is l (rsortS l) h1 fun x => ?_).symm
  refine (h2 x).trans ?_
  rw [List.mem_filter]; simp
/-- Each once, in order. -/
theorem sortS_strict' (l : List Smp) : (sortS l).Pairwise ltS := sortS_strict l (tot_right l)

set_option maxRecDepth 100000 in
set_option maxHeartbeats 4000000 in
/-- eskerref15.Dedup. -/
theorem rdedup_walk (v : Value) (l : List Smp) (d : Int) (W : World) (hR : Rd W W.heap.size v l) (hl : l.length ≤ 10000) :
    Calls Tryz.prog 21 #[v, .int .i64 d] W fun e w' => ∃ r, e = .returned r ∧ Own w' W.heap.size 28 r (dedupS d l) ∧ Below W.heap.size W w' := by
  have KS := Lib.hid (rsort_walk v l W hR hl)
  have KI := Lib.hid (fun (t : Int) W => rivl_walk t d W)
  have HL : Hid ((sortS l).length ≤ 10000) := by show _ ≤ _; have := sortS_length l; omega
  obtain ⟨A0, c0, rfl, -, -⟩ := hR
  go_enter Tryz.func21, Tryz.ntmps21
  go_wp2_with fail
  refine KS.out.mono ?_
  rintro e w1 ⟨sv, rfl, hS, -, hB1⟩
  rw [rsortS_eq] at hS
  obtain ⟨s, hs⟩ : ∃ s, s = sortS l := ⟨_, rfl⟩
  have HS := Lib.hid hs
  rw [← hs] at hS HL
  clear hs KS
  have HB1 := Lib.hid hB1
  obtain ⟨A, c, rfl, hc, hA⟩ := hS
  obtain ⟨n, hn⟩ : ∃ n, n = s.length := ⟨_, rfl⟩
  rw [← hn] at hc HL ⊢
  have HN := Lib.hid hn
  have HA := Lib.hid hA
  have hn4 : n ≤ 10000 := HL.out
  clear hn hA hc hB1
  go_wp2_with fail
  go_loopw [6, 7] (fun o i wl => ∃ (k : Nat) (r : List Smp), k ≤ n ∧ i = .int .i64 k ∧ Own wl w1.heap.size 28 o r ∧ Hid (r ++ lasts d (s.drop k) = lasts d s) ∧ Hid (r.length ≤ k) ∧ Hid (Below w1.heap.size w1 wl))
    (fun _ i _ => n - (intOf i).toNat)
  case atStart => exact ⟨0, [], Nat.zero_le _, rfl, Own.nil _ _ _, by show _ = _; simp, Nat.le_refl _, Below.refl _ _⟩
  case round =>
    obtain ⟨k, r, hk, rfl, hown, HF, HLr, HB⟩ := hrel
    by_cases hlt : k < n
    · have hkl : k < s.length := by rw [← HN.out]; exact hlt
      rcases HA.out with e | ⟨b, o, e, hb, hcl⟩
      · subst e; simp at hkl
      subst e
      obtain ⟨y, hy⟩ : ∃ y, y = s[k] := ⟨_, rfl⟩
      have HCY : Hid (Cell4 wr b (o + k * 4) y) := by show Cell4 _ _ _ _; rw [hy]; exact (hcl k hkl).below HB.out hb
      have HD : Hid (s.drop k = y :: s.drop (k + 1)) := by show _ = _; rw [List.drop_eq_getElem_cons hkl, hy]
      have HO := Lib.hid hown
      clear hy hown
      have gw : IntKind.i64.wrap ((k : Int) + 1) = (k : Int) + 1 := IntWalk.i64_in _ (by omega)
      -- is it the last of its interval?
      have hcase : (k + 1 = n ∨ (∃ z, k + 1 < n ∧ s.drop (k + 1) = z :: s.drop (k + 2) ∧ Cell4 wr b (o + (k + 1) * 4) z)) := by
        rcases Nat.lt_or_ge (k + 1) n with h | h
        · right
          have hkl2 : k + 1 < s.length := by rw [← HN.out]; exact h
          exact ⟨s[k + 1], h, by rw [List.drop_eq_getElem_cons hkl2], (hcl (k + 1) hkl2).below HB.out hb⟩
        · left; omega
      clear hcl
      rcases hcase with hk1 | ⟨z, hk1, hz, hcz⟩
      · have HF2 : Hid ((r ++ [y]) ++ lasts d (s.drop (k + 1)) = lasts d s) := by
          show _ = _
          rw [← HF.out, HD.out, List.drop_of_length_le (by rw [← HN.out]; omega)]
          simp [lasts]
        have g0 : ((k : Int) + 1 == (n : Int)) = true := by rw [beq_iff_eq]; omega
        go_wp2_with fail
        go_quiet (fail)
        obtain ⟨w3, hw3⟩ : ∃ w3, w3 = wr.drewN nq := ⟨_, rfl⟩
        rw [← hw3]
        have hE3 : Ext wr w3 := by rw [hw3]; exact (Ext.refl wr).drewN nq
        have HE3 := Lib.hid hE3.below
        obtain ⟨c0, c1, c2, c3⟩ := HCY.out.ext hE3.below
        have hO3 := HO.out.below hE3.below
        have HBs : Hid (w1.heap.size ≤ w3.heap.size) := Nat.le_trans HB.out.size hE3.size
        have HB3 : Hid (∀ o, Below w1.heap.size w1 (w3.alloc o)) := fun o => (HB.out.trans (HE3.out.mono HB.out.size)).alloc HBs.out _
        clear hw3 hE3 g0
        go_wp2_with (first | (at_builtin; refine app1 rfl _ _ 22 28 rfl Tryz.underlying22 info_Smp w1.heap.size _ r y rfl (hO3.alloc _) w3.heap.size 0 1 rfl (Cell4.new _ y _ _ rfl) ?y1 ?y2 ?_) | fail)
        case y1 => have := HLr.out; omega
        case y2 => have := HBs.out; simp; omega
        · intro v' w4 hown2 hg hloc
          go_wp2_with fail
          go_roundw
          case rel => exact ⟨k + 1, r ++ [y], by omega, by go_num, hown2, HF2.out, by show _ ≤ _; have := HLr.out; simp; omega, (HB3.out _).grown hg (by have := HBs.out; simp; omega) (fun g hg' => (hO3.blk hg').1)⟩
          case measure => simp [intOf]; omega
      · have g0 : ((k : Int) + 1 == (n : Int)) = false := by rw [beq_eq_false_iff_ne]; omega
        have g1 : (k : Int) + 1 < (n : Int) := by omega
        have g2 : ((k : Int) + 1).toNat = k + 1 := by omega
        have HZ := Lib.hid hz
        obtain ⟨p, hp⟩ : ∃ p, p = decide (ivl y.1 d = ivl z.1 d) := ⟨_, rfl⟩
        have hne : ((ivl y.1 d != ivl z.1 d)) = !p := by rw [hp]; by_cases h : ivl y.1 d = ivl z.1 d <;> simp [h]
        have HP := Lib.hid hp
        clear hp hz
        obtain ⟨c0, -⟩ := HCY.out
        obtain ⟨d0, -⟩ := hcz
        go_wp2_with fail
        go_quiet ((go_at_call 19; exact quiet_left (KI.out _ _)))
        obtain ⟨w3, hw3⟩ : ∃ w3, w3 = wr.drewN nq := ⟨_, rfl⟩
        rw [← hw3]
        have hE3 : Ext wr w3 := by rw [hw3]; exact (Ext.refl wr).drewN nq
        have HE3 := Lib.hid hE3.below
        have HBs : Hid (w1.heap.size ≤ w3.heap.size) := Nat.le_trans HB.out.size hE3.size
        have HB3 : Hid (Below w1.heap.size w1 w3) := HB.out.trans (HE3.out.mono HB.out.size)
        have hO3 := HO.out.below hE3.below
        have HCY3 : Hid (Cell4 w3 b (o + k * 4) y) := HCY.out.ext hE3.below
        clear hw3 hE3 g0 c0 d0 g1 g2
        cases p with
        | true =>
          have HF2 : Hid (r ++ lasts d (s.drop (k + 1)) = lasts d s) := by
            show _ = _
            rw [← HF.out, HD.out, HZ.out, lasts, if_pos (of_decide_eq_true HP.out.symm)]
          go_wp2_with fail
          go_roundw
          case rel => exact ⟨k + 1, r, by omega, by go_num, hO3, HF2.out, by show _ ≤ _; have := HLr.out; omega, HB3.out⟩
          case measure => simp [intOf]; omega
        | false =>
          have HF2 : Hid ((r ++ [y]) ++ lasts d (s.drop (k + 1)) = lasts d s) := by
            show _ = _
            rw [← HF.out, HD.out, HZ.out, lasts, if_neg (of_decide_eq_false HP.out.symm)]
            simp
          obtain ⟨c0, c1, c2, c3⟩ := HCY3.out
          have HB4 : Hid (∀ o, Below w1.heap.size w1 (w3.alloc o)) := fun o => HB3.out.alloc HBs.out _
          go_wp2_with (first | (at_builtin; refine app1 rfl _ _ 22 28 rfl Tryz.underlying22 info_Smp w1.heap.size _ r y rfl (hO3.alloc _) w3.heap.size 0 1 rfl (Cell4.new _ y _ _ rfl) ?y1 ?y2 ?_) | fail)
          case y1 => have := HLr.out; omega
          case y2 => have := HBs.out; simp; omega
          · intro v' w4 hown2 hg hloc
            go_wp2_with fail
            go_roundw
            case rel => exact ⟨k + 1, r ++ [y], by omega, by go_num, hown2, HF2.out, by show _ ≤ _; have := HLr.out; simp; omega, (HB4.out _).grown hg (by have := HBs.out; simp; omega) (fun g hg' => (hO3.blk hg').1)⟩
            case measure => simp [intOf]; omega
    · obtain rfl : n = k := by omega
      have HF2 : Hid (r = dedupS d l) := by
        show _ = _
        rw [dedupS_lasts, ← HS.out, ← HF.out, List.drop_of_length_le (by rw [← HN.out]; exact Nat.le_refl _)]
        simp [lasts]
      have HO := Lib.hid hown
      clear hown
      go_wp2_with fail
      go_ret
      exact ⟨_, rfl, HF2.out ▸ HO.out.lower HB1.out.size, HB1.out.trans (HB.out.mono HB1.out.size)⟩
end Go.Proofs.YtbggdkpcgcmepaaGreatDoor
