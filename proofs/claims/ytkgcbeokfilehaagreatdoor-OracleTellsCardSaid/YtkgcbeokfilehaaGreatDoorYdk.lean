/-
  eskerlaw20.OracleTells.
-/
import Derived.Test.YtkgcbeokfilehaaGreatDoorYck
import Derived.Test.YtkgcbeokfilehaaGreatDoorYek
namespace Go.Proofs.YtkgcbeokfilehaaGreatDoor
open Go.RowKit Go.Sort Go.Maps
set_option maxRecDepth 100000 in
set_option maxHeartbeats 8000000 in
theorem tells_law (v : Value) (l : List ActS) (fv : Value) (fs : List Fil) (f t : Int) (nm : Str) (lv : Value) (r : RowS) (mo : Fil) (W : World) (T : Tabs W)
    (hA : RdA W W.heap.size v l) (hz : Nz v) (hs : ∀ a ∈ l, a.rows.length ≤ 140737488355328 ∧ TxA a) (hF : RdF W W.heap.size fv fs) (hzf : Nz fv) (hRl : RdL W W.heap.size lv r.1) (hzl : Nz lv) (hfx : ∀ f ∈ fs, TxF f) (htx : TxL r.1) (hmx : TxF mo) :
    Calls Tryz.prog 7 #[v, .agg #[fv, .int .i64 f, .int .i64 t, vT nm, lv, .int .i64 r.2.1, .int .i64 r.2.2.1, .int .i64 r.2.2.2.1, .int .i64 r.2.2.2.2], vF mo] W fun e w' => e = .returned (.bool true) ∧ Below W.heap.size W w' := by
  obtain ⟨rl, rt, rm, rx, rz⟩ := r
  obtain ⟨mn, mv, mp, mg⟩ := mo
  simp only at *
  have HTX := Lib.hid (And.intro hfx htx)
  have HMX := Lib.hid hmx
  have HS := Lib.hid hs
  have HTB := Lib.hid T
  obtain ⟨xn, hxn⟩ : ∃ x : ByteArray, x = ⟨nm.toArray⟩ := ⟨_, rfl⟩
  have exn : vT nm = .string xn := by rw [hxn]; rfl
  obtain ⟨mnb, hmn⟩ : ∃ x : ByteArray, x = ⟨mn.toArray⟩ := ⟨_, rfl⟩
  have emn : vT mn = .string mnb := by rw [hmn]; rfl
  obtain ⟨mvb, hmv⟩ : ∃ x : ByteArray, x = ⟨mv.toArray⟩ := ⟨_, rfl⟩
  have emv : vT mv = .string mvb := by rw [hmv]; rfl
  have HEM := Lib.hid (And.intro emn emv)
  unfold vF
  simp only
  rw [exn, emn, emv]
  obtain ⟨W1, hW1⟩ : ∃ W1, W1 = (W.alloc (.cells #[fv, .int .i64 f, .int .i64 t, .string xn, lv, .int .i64 rt, .int .i64 rm, .int .i64 rx, .int .i64 rz] 30)).alloc (.cells #[.string mnb, .string mvb, .bool mp, .bool mg] 61) := ⟨_, rfl⟩
  have HB1 : Hid (Below W.heap.size W W1) := by show Below _ _ _; rw [hW1]; exact (((Ext.refl W).alloc _).alloc _).below
  have hsz : W.heap.size + 1 < W1.heap.size := by rw [hW1]; simp
  have hbk : W1.heap[W.heap.size]? = some (.cells #[fv, .int .i64 f, .int .i64 t, .string xn, lv, .int .i64 rt, .int .i64 rm, .int .i64 rx, .int .i64 rz] 30 (0, 0)) := by
    obtain ⟨Wa, hWa⟩ : ∃ Wa, Wa = W.alloc (.cells #[fv, .int .i64 f, .int .i64 t, .string xn, lv, .int .i64 rt, .int .i64 rm, .int .i64 rx, .int .i64 rz] 30) := ⟨_, rfl⟩
    have hx : Below Wa.heap.size Wa W1 := by rw [hW1, ← hWa]; exact ((Ext.refl _).alloc _).below
    rw [hx.block _ (by rw [hWa]; simp), hWa]; exact heap_alloc_new _ _
  have hbm : W1.heap[W.heap.size + 1]? = some (.cells #[.string mnb, .string mvb, .bool mp, .bool mg] 61 (0, 0)) := by
    have e : W.heap.size + 1 = (W.alloc (.cells #[fv, .int .i64 f, .int .i64 t, .string xn, lv, .int .i64 rt, .int .i64 rm, .int .i64 rx, .int .i64 rz] 30)).heap.size := by simp
    rw [e, hW1]; exact heap_alloc_new _ _
  have KC : Hid (∀ w : World, w.heap[W.heap.size]? = W1.heap[W.heap.size]? → w.heap[W.heap.size + 1]? = W1.heap[W.heap.size + 1]? → (w.cell? ⟨W.heap.size, 0, none⟩ = some fv ∧ w.cell? ⟨W.heap.size, 1, none⟩ = some (.int .i64 f) ∧ w.cell? ⟨W.heap.size, 2, none⟩ = some (.int .i64 t)) ∧ w.cell? ⟨W.heap.size + 1, 0, none⟩ = some (.string mnb) ∧ w.cell? ⟨W.heap.size + 1, 1, none⟩ = some (.string mvb) ∧ w.cell? ⟨W.heap.size + 1, 2, none⟩ = some (.bool mp) ∧ w.cell? ⟨W.heap.size + 1, 3, none⟩ = some (.bool mg)) := fun w h h' => by
    have q : ∀ i, w.cell? ⟨W.heap.size, i, none⟩ = (#[fv, .int .i64 f, .int .i64 t, .string xn, lv, .int .i64 rt, .int .i64 rm, .int .i64 rx, .int .i64 rz] : Array Value)[i]? := fun i => by rw [cell_of_block h]; simp [World.cell?, hbk]
    have q2 : ∀ i, w.cell? ⟨W.heap.size + 1, i, none⟩ = (#[.string mnb, .string mvb, .bool mp, .bool mg] : Array Value)[i]? := fun i => by rw [cell_of_block h']; simp [World.cell?, hbm]
    exact ⟨⟨q 0, q 1, q 2⟩, q2 0, q2 1, q2 2, q2 3⟩
  have KW := Lib.hid (awake_walkO W1 (T.below HB1.out))
  have HA0 := Lib.hid hA
  have HZ := Lib.hid hz
  obtain ⟨A, c, rfl, hc, hAA⟩ := id hA
  obtain ⟨FA, fc, rfl, _, _⟩ := id hF
  obtain ⟨LA, lc, rfl, _, _⟩ := id hRl
  obtain ⟨n, hn⟩ : ∃ n, n = l.length := ⟨_, rfl⟩
  obtain ⟨fn, hfn⟩ : ∃ fn, fn = fs.length := ⟨_, rfl⟩
  obtain ⟨ln, hln⟩ : ∃ ln, ln = List.length rl := ⟨_, rfl⟩
  rw [← hn] at HA0 HZ ⊢
  rw [← hfn] at hF hzf hW1 KC ⊢
  rw [← hln] at hRl hzl hW1 ⊢
  have HAA := Lib.hid hAA
  have HN := Lib.hid hn
  have HF := Lib.hid hF
  have HZF := Lib.hid hzf
  have HFN := Lib.hid hfn
  have HSZ := Lib.hid hsz
  clear T hA hz hs hF hzf hRl hzl hfx htx hmx hxn exn hmn emn hmv emv hsz hbk hbm hc hAA hn hfn hln
  go_enter Tryz.func7, Tryz.ntmps7
  go_wp2_with fail
  rw [← hW1]
  clear hW1
  refine KW.out.mono ?_
  rintro e w2 ⟨rfl, hB2⟩
  have HB2 : Hid (Below W.heap.size W w2) := HB1.out.trans (hB2.mono HB1.out.size)
  have HK2 : Hid (w2.heap[W.heap.size]? = W1.heap[W.heap.size]? ∧ w2.heap[W.heap.size + 1]? = W1.heap[W.heap.size + 1]?) := ⟨hB2.block _ (by have := HSZ.out; omega), hB2.block _ HSZ.out⟩
  have HS2 : Hid (W.heap.size + 1 < w2.heap.size) := Nat.lt_of_lt_of_le HSZ.out hB2.size
  have KF := Lib.hid (few_walk _ _ w2 ((HA0.out.below HB2.out).mono HB2.out.size) (fun a ha => (HS.out a ha).1))
  clear hB2 KW
  go_wp2_with fail
  refine KF.out.mono ?_
  rintro e w3 ⟨⟨q, rfl, hq⟩, hE3⟩
  have HB3 : Hid (Below W.heap.size W w3) := HB2.out.trans (hE3.below.mono HB2.out.size)
  have HK3 : Hid (w3.heap[W.heap.size]? = W1.heap[W.heap.size]? ∧ w3.heap[W.heap.size + 1]? = W1.heap[W.heap.size + 1]?) := ⟨(hE3.below.block _ (by have := HS2.out; omega)).trans HK2.out.1, (hE3.below.block _ HS2.out).trans HK2.out.2⟩
  have HS3 : Hid (W.heap.size + 1 < w3.heap.size) := Nat.lt_of_lt_of_le HS2.out hE3.size
  have HQ := Lib.hid hq
  clear hq hE3 KF HB2 HK2 HS2
  obtain ⟨⟨b0, b1, b2⟩, _⟩ := KC.out w3 HK3.out.1 HK3.out.2
  cases q with
  | false =>
    go_wp2_with fail
    go_ret
    exact ⟨rfl, HB3.out⟩
  | true =>
    have HFA := Lib.hid (HQ.out rfl)
    have hn20 : n ≤ 20 := by rw [HN.out]; exact HFA.out.len
    clear HQ
    by_cases h8 : fn ≤ 3
    case neg =>
      have g8 : ¬ (fn : Int) ≤ 3 := by omega
      go_wp2_with fail
      go_ret
      exact ⟨rfl, HB3.out⟩
    have g8 : (fn : Int) ≤ 3 := by omega
    have KN := both_new (P := fun k => k = W.heap.size ∨ k = W.heap.size + 1) (W := W) 7 300 (fun k e => by have := HS3.out; rcases e with e | e <;> omega) HB3.out
    rw [show keepN 300 = 300 by decide] at KN
    have KN := Lib.hid KN
    go_wp2_with fail
    refine KN.out.mono ?_
    rintro e w4 ⟨o, rfl, hb4, hB4⟩
    have HB4 : Hid (Below W.heap.size W w4) := HB3.out.trans (hB4.mono HB3.out.size)
    have HK4 : Hid (w4.heap[W.heap.size]? = W1.heap[W.heap.size]? ∧ w4.heap[W.heap.size + 1]? = W1.heap[W.heap.size + 1]?) := ⟨(hB4.block _ (by have := HS3.out; omega)).trans HK3.out.1, (hB4.block _ HS3.out).trans HK3.out.2⟩
    have HBo := Lib.hid hb4
    have KR := ref_new 7 300 w4
    rw [show keepN 300 = 300 by decide] at KR
    have KR := Lib.hid KR
    clear hb4 hB4 KN HB3 HK3 b0 b1 b2
    unfold vO at KR
    go_wp2_with fail
    refine KR.out.mono ?_
    rintro e w5 ⟨rfl, hE5⟩
    have HB5 : Hid (Below W.heap.size W w5) := HB4.out.trans (hE5.below.mono HB4.out.size)
    have HK5 : Hid (w5.heap[W.heap.size]? = W1.heap[W.heap.size]? ∧ w5.heap[W.heap.size + 1]? = W1.heap[W.heap.size + 1]?) := ⟨((HBo.out.stands hE5.below) _ (.inl rfl)).trans HK4.out.1, ((HBo.out.stands hE5.below) _ (.inr rfl)).trans HK4.out.2⟩
    have HBp := Lib.hid (HBo.out.on hE5.below)
    obtain ⟨w6, hw6⟩ : ∃ w6, w6 = w5.alloc (.cells #[.int .i64 7, .int .i64 300, .int .i64 0, .slice none 0 0] 65) := ⟨_, rfl⟩
    have hx6 : Below w5.heap.size w5 w6 := by rw [hw6]; exact (Below.refl _ _).alloc (Nat.le_refl _) _
    have HB6 : Hid (Below W.heap.size W w6) := HB5.out.trans (hx6.mono HB5.out.size)
    have hs5 : W.heap.size + 1 < w5.heap.size := (by obtain ⟨_, _, _, _, _, _, _, _, _, h6⟩ := HBp.out; exact (h6 _ (.inr rfl)).1)
    have HK6 : Hid (w6.heap[W.heap.size]? = W1.heap[W.heap.size]? ∧ w6.heap[W.heap.size + 1]? = W1.heap[W.heap.size + 1]?) := ⟨(hx6.block _ (by omega)).trans HK5.out.1, (hx6.block _ hs5).trans HK5.out.2⟩
    obtain ⟨bw, hbw⟩ : ∃ bw, bw = w5.heap.size := ⟨_, rfl⟩
    obtain ⟨P, hP⟩ : ∃ P : Nat → Prop, P = fun k => (k = W.heap.size ∨ k = W.heap.size + 1) ∨ k = bw := ⟨_, rfl⟩
    have HBb : Hid (Both P W w6 o (.slice none 0 0) 7 300 0 [] []) := HBp.out.to hx6 (fun i hi => by
      rw [hP] at hi
      rcases hi with hi | hi
      · exact .inl hi
      · refine .inr ⟨by omega, ?_⟩
        rw [hi, hbw, hw6]; simp)
    have HP1 : Hid (P W.heap.size ∧ P (W.heap.size + 1)) := by show P _ ∧ P _; rw [hP]; exact ⟨.inl (.inl rfl), .inl (.inr rfl)⟩
    have HP2 : Hid (P bw) := by show P _; rw [hP]; exact .inr rfl
    have HBX : Hid (w6.heap[bw]? = some (.cells #[.int .i64 7, .int .i64 300, .int .i64 0, .slice none 0 0] 65 (0, 0))) := by show _ = _; rw [hbw, hw6]; exact heap_alloc_new _ _
    have HNE : Hid (bw ≠ W.heap.size ∧ bw ≠ W.heap.size + 1) := by show _ ∧ _; omega
    have HBW : Hid (W.heap.size ≤ bw) := by show _ ≤ _; omega
    clear hE5 hx6 hs5 hP KR HBo HBp HB4 HB5 HK4 HK5
    go_wp2_with fail
    rw [← hw6, ← hbw]
    clear hw6 hbw
    go_loopw [11] (fun iv wl => ∃ (k : Nat) (v' : Value), k ≤ n ∧ iv = .int .i64 k ∧ Hid (Both P W wl o v' 7 300 (playS 300 (l.take k)).1 (playS 300 (l.take k)).2 (playS 300 (l.take k)).2) ∧ Hid (wl.heap[bw]? = some (.cells #[.int .i64 7, .int .i64 300, .int .i64 (playS 300 (l.take k)).1, v'] 65 (0, 0))) ∧ Hid (wl.heap[W.heap.size]? = W1.heap[W.heap.size]? ∧ wl.heap[W.heap.size + 1]? = W1.heap[W.heap.size + 1]?) ∧ Hid (Below W.heap.size W wl))
      (fun iv _ => n - (intOf iv).toNat)
    case atStart => exact ⟨0, _, Nat.zero_le _, rfl, HBb.out, HBX.out, HK6.out, HB6.out⟩
    case round =>
      obtain ⟨k, v', hk, rfl, HBb, HBX, HK, HB⟩ := hrel
      by_cases hlt : k < n
      · have hl2 : k < l.length := by rw [← HN.out]; exact hlt
        rcases HAA.out with h0 | ⟨b, o2, e, hb, hcl⟩
        · rw [h0] at hl2; simp at hl2
        subst e
        obtain ⟨y, hy⟩ : ∃ y, y = l[k] := ⟨_, rfl⟩
        obtain ⟨rv, fv, c0, c1, c2, c3, hrv, _, hfv, _⟩ : ActAt W W.heap.size b (o2 + k * 4) y := by rw [hy]; exact hcl k hl2
        have hty := (HS.out y (by rw [hy]; exact List.getElem_mem hl2)).2
        have HTK : Hid (playS 300 (l.take (k + 1)) = stepA 300 (playS 300 (l.take k)) y) := play_take hl2 hy
        have hpf := play_few HFA.out 300 k
        obtain ⟨Q, hQ⟩ : ∃ Q, Q = playS 300 (l.take k) := ⟨_, rfl⟩
        rw [← hQ] at HBb HBX HTK hpf
        obtain ⟨now, Rk⟩ := Q
        simp only at HBb HBX hpf
        obtain ⟨⟨nx, Rx⟩, hst⟩ : ∃ q2, q2 = stepA 300 (now, Rk) y := ⟨_, rfl⟩
        rw [← hst] at HTK
        have KD : Hid (∀ w v2, Both P W w o v2 7 300 now Rk Rk → Below W.heap.size W w → Calls Tryz.prog 21 #[.pointer (some ⟨o, 0, none⟩), .agg #[.int .i64 7, .int .i64 300, .int .i64 now, v2], .agg #[.int .i64 y.kind, rv, fv, .int .i64 y.now]] w fun e w' => ∃ v', e = .returned (.tuple #[.agg #[.int .i64 7, .int .i64 300, .int .i64 nx, v'], .bool true]) ∧ Both P W w' o v' 7 300 nx Rx Rx ∧ Keep P w w' ∧ Below W.heap.size W w') := fun w v2 h1 h2 => by
          have h3 := done_walk h1 h2 y rv fv hrv hfv hty (by have := hpf.1; omega) hpf.2.1
          rw [← hst] at h3
          exact h3
        have KA : Hid (∀ w, Below W.heap.size W w → w.cell? ⟨b, o2 + k * 4, none⟩ = some (.int .i64 y.kind) ∧ w.cell? ⟨b, o2 + k * 4 + 1, none⟩ = some rv ∧ w.cell? ⟨b, o2 + k * 4 + 2, none⟩ = some fv ∧ w.cell? ⟨b, o2 + k * 4 + 3, none⟩ = some (.int .i64 y.now)) := fun w h => ⟨(h.cell hb).trans c0, (h.cell hb).trans c1, (h.cell hb).trans c2, (h.cell hb).trans c3⟩
        obtain ⟨VA, vc, rfl⟩ := HBb.out.form
        obtain ⟨vn, hvn⟩ : ∃ vn, vn = (rS Rk).length := ⟨_, rfl⟩
        rw [← hvn] at HBb HBX
        obtain ⟨RA, rc, hrve, _, _⟩ := id hrv
        obtain ⟨FA2, fc2, hfve, _, _⟩ := id hfv
        obtain ⟨rn, hrn⟩ : ∃ rn, rn = y.rows.length := ⟨_, rfl⟩
        obtain ⟨fn2, hfn2⟩ : ∃ fn2, fn2 = y.fs.length := ⟨_, rfl⟩
        rw [← hrn] at hrve
        rw [← hfn2] at hfve
        have HPF := Lib.hid hpf
        clear hy hcl c0 c1 c2 c3 hrv hfv hty hpf hQ hst hvn hrn hfn2 hl2
        subst hrve hfve
        have i1 : (k : Int) < (n : Int) := by omega
        have HLT : Hid (k + 1 ≤ n) := hlt
        have hd : Below wr.heap.size wr wr.drew := (Below.refl _ _).drew
        have HBd := Lib.hid (HBb.out.on hd)
        have HK0 : Hid (Keep P wr wr.drew) := HBb.out.stands hd
        have Hb0 : Hid (Below W.heap.size W wr.drew) := HB.out.trans (hd.mono HB.out.size)
        have HXd : Hid (wr.drew.heap[bw]? = some (.cells #[.int .i64 7, .int .i64 300, .int .i64 now, .slice VA vn vc] 65 (0, 0))) := HBX.out
        obtain ⟨⟨q0, q1, q2, q3⟩, _⟩ := cells4 HXd.out
        clear hd
        go_wp2_with fail
        refine wp_region_held_drew (S := fun w' => Below W.heap.size W w' ∧ w'.cell? ⟨b, o2 + k * 4, none⟩ = some (.int .i64 y.kind) ∧ w'.cell? ⟨b, o2 + k * 4 + 1, none⟩ = some (.slice RA rn rc) ∧ w'.cell? ⟨b, o2 + k * 4 + 2, none⟩ = some (.slice FA2 fn2 fc2) ∧ w'.cell? ⟨b, o2 + k * 4 + 3, none⟩ = some (.int .i64 y.now)) (by kernel_rfl) ?_ (fun hHeld => ?_)
        · (try dsimp only)
          (have hk9 : Below W.heap.size W _ := Hb0.out; exact ⟨hk9, KA.out _ hk9⟩)
        refine takeW (i := 0) (v := ?_) rfl (by kernel_rfl) (by kernel_rfl) (by kernel_rfl) (fun _ _ _ h => h) (by rfl) ?_ (by assumption) ?_
        rotate_left
        · (intro w hSw; (try dsimp only at hSw); go_simp; try with_reducible rfl)
        simp only [Act.put, sA, sZ, sS]
        refine takeW (i := 2) (v := ?_) rfl (by kernel_rfl) (by kernel_rfl) (by kernel_rfl) (fun _ _ _ h => h) (by rfl) ?_ (by assumption) ?_
        rotate_left
        · (intro w hSw; (try dsimp only at hSw); go_simp; try with_reducible rfl)
        simp only [Act.put, sA, sZ, sS]
        refine takeW (i := 3) (v := ?_) rfl (by kernel_rfl) (by kernel_rfl) (by kernel_rfl) (fun _ _ _ h => h) (by rfl) ?_ (by assumption) ?_
        rotate_left
        · (intro w hSw; (try dsimp only at hSw); go_simp; try with_reducible rfl)
        simp only [Act.put, sA, sZ, sS]
        refine takeW (i := 4) (v := ?_) rfl (by kernel_rfl) (by kernel_rfl) (by kernel_rfl) (fun _ _ _ h => h) (by rfl) ?_ (by assumption) ?_
        rotate_left
        · (intro w hSw; (try dsimp only at hSw); go_simp; try with_reducible rfl)
        simp only [Act.put, sA, sZ, sS]
        refine takeW (i := 5) (v := ?_) rfl (by kernel_rfl) (by kernel_rfl) (by kernel_rfl) (fun _ _ _ h => h) (by rfl) ?_ (by assumption) ?_
        rotate_left
        · (intro w hSw; (try dsimp only at hSw); go_simp; try with_reducible rfl)
        simp only [Act.put, sA, sZ, sS]
        refine takeC (i := 1) rfl (by kernel_rfl) (by rfl) (fun K hK => ?_)
        go_simp
        refine hK.out _ _ ?_ (fun hHeld => ?_)
        · (try dsimp only)
          (have hk9 : Below W.heap.size W _ := Hb0.out; exact ⟨hk9, KA.out _ hk9⟩)
        clear hK K
        try simp only [Act.put, sA, sZ, sS]
        refine takeC (i := 6) rfl (by kernel_rfl) (by rfl) (fun K hK => ?_)
        go_simp
        refine (KD.out _ _ HBd.out Hb0.out).mono ?_
        rintro e w7 ⟨v7, rfl, hB7, hk7, hw7⟩
        obtain ⟨A7, c7, rfl⟩ := hB7.form
        obtain ⟨n7, hn7⟩ : ∃ n7, n7 = (rS Rx).length := ⟨_, rfl⟩
        rw [← hn7] at hB7 ⊢
        have HB7 := Lib.hid hB7
        have HK7 : Hid (Keep P wr w7) := HK0.out.trans hk7
        have HW7 := Lib.hid hw7
        have HX7 : Hid (w7.heap[bw]? = some (.cells #[.int .i64 7, .int .i64 300, .int .i64 now, .slice VA vn vc] 65 (0, 0))) := (hk7 _ HP2.out).trans HXd.out
        obtain ⟨⟨x0, x1, x2, x3⟩, x4⟩ := cells4 HX7.out
        clear hn7 hB7 hk7 hw7
        try go_wp2_with fail
        refine hK.out _ _ ?_ (fun hHeld => ?_)
        · (try dsimp only)
          (have hk9 : Below W.heap.size W _ := HW7.out; exact ⟨hk9, KA.out _ hk9⟩)
        clear hK K
        try simp only [Act.put, sA, sZ, sS]
        refine takeW (i := 7) (v := ?_) rfl (by kernel_rfl) (by kernel_rfl) (by kernel_rfl) (fun _ _ _ h => h) (by rfl) ?_ (by assumption) ?_
        rotate_left
        · (intro w hSw; (try dsimp only at hSw); go_simp; try with_reducible rfl)
        simp only [Act.put, sA, sZ, sS]
        refine takeW (i := 8) (v := ?_) rfl (by kernel_rfl) (by kernel_rfl) (by kernel_rfl) (fun _ _ _ h => h) (by rfl) ?_ (by assumption) ?_
        rotate_left
        · (intro w hSw; (try dsimp only at hSw); go_simp; try with_reducible rfl)
        simp only [Act.put, sA, sZ, sS]
        refine takeW (i := 9) (v := ?_) rfl (by kernel_rfl) (by kernel_rfl) (by kernel_rfl) (fun _ _ _ h => h) (by rfl) ?_ (by assumption) ?_
        rotate_left
        · (intro w hSw; (try dsimp only at hSw); go_simp; try with_reducible rfl)
        simp only [Act.put, sA, sZ, sS]
        obtain ⟨w9, hw9⟩ : ∃ w9, w9 = ((((w7.setCell ⟨bw, 0, none⟩ (.int .i64 7)).setCell ⟨bw, 1, none⟩ (.int .i64 300)).setCell ⟨bw, 2, none⟩ (.int .i64 nx)).setCell ⟨bw, 3, none⟩ (.slice A7 n7 c7)) := ⟨_, rfl⟩
        have HWE9 := Lib.hid hw9
        have HC9 : Hid (Chg (fun k => k = bw) w7 w9) := by
          show Chg _ _ _
          rw [hw9]
          repeat (first | exact Chg.refl_ _ | refine Chg.set ?_ _ (by dsimp only) _)
        have HW9 : Hid (Below W.heap.size W w9) := HW7.out.trans (HC9.out.below HW7.out.size fun x e => by rw [e]; exact HBW.out)
        clear hw9
        refine takeC (i := 10) rfl (by kernel_rfl) (by rfl) (fun K hK => ?_)
        go_simp
        rw [← HWE9.out]
        refine hK.out _ _ ?_ (fun hHeld => ?_)
        · (try dsimp only)
          (have hk9 : Below W.heap.size W _ := HW9.out; exact ⟨hk9, KA.out _ hk9⟩)
        clear hK K
        try simp only [Act.put, sA, sZ, sS]
        refine wpAnyH_done (by kernel_rfl) ?_ _
        have HB9 : Hid (Both P W w9 o (.slice A7 n7 c7) 7 300 nx Rx Rx) := HB7.out.turn (HC9.out.mono fun x _ e => by rw [e]; exact HP2.out)
        have HBX9 : Hid (w9.heap[bw]? = some (.cells #[.int .i64 7, .int .i64 300, .int .i64 nx, .slice A7 n7 c7] 65 (0, 0))) := by
          show _ = _
          rw [HWE9.out]; exact set4 HX7.out
        have HK9 : Hid (w9.heap[W.heap.size]? = W1.heap[W.heap.size]? ∧ w9.heap[W.heap.size + 1]? = W1.heap[W.heap.size + 1]?) := by
          have h6 : ∀ i, P i → i < w7.heap.size := fun i hi => by
            obtain ⟨_, _, _, _, _, _, _, _, _, h6⟩ := HB7.out
            exact (h6 _ hi).1
          exact ⟨(HC9.out.block _ (h6 _ HP1.out.1) (fun e => HNE.out.1 e.symm)).trans ((HK7.out _ HP1.out.1).trans HK.out.1), (HC9.out.block _ (h6 _ HP1.out.2) (fun e => HNE.out.2 e.symm)).trans ((HK7.out _ HP1.out.2).trans HK.out.2)⟩
        clear HB HK HBX HBb HBd KD KA HK0 Hb0 HXd q0 q1 q2 q3 HB7 HX7 HK7 HC9 HWE9
        go_wp2_with fail
        go_roundw
        case rel => exact ⟨k + 1, .slice A7 n7 c7, HLT.out, by go_num, by rw [HTK.out]; exact HB9.out, by rw [HTK.out]; exact HBX9.out, HK9.out, HW9.out⟩
        case measure => have := HLT.out; simp [intOf]; omega
      · have hkn : k = n := by omega
        have i1 : ¬ (k : Int) < (n : Int) := by omega
        have hpf := play_few HFA.out 300 k
        rw [hkn, HN.out, List.take_length] at hpf HBb HBX
        obtain ⟨Q, hQ⟩ : ∃ Q, Q = playS 300 l := ⟨_, rfl⟩
        rw [← hQ] at HBb HBX hpf
        obtain ⟨now, R⟩ := Q
        simp only at HBb HBX hpf
        have HPF := Lib.hid hpf
        have hFr : RdF wr wr.heap.size (.slice FA fn fc) fs := (HF.out.below HB.out).mono HB.out.size
        have KS1 := liv_ask HBb.out.liv (HTB.out.below HB.out) hFr f t (by have := hpf.1; omega) hpf.2.1
        obtain ⟨cq, hcq⟩ : ∃ cq, cq = checkF fs := ⟨_, rfl⟩
        have HCQ := Lib.hid hcq
        rw [← hcq] at KS1
        have KS1 := Lib.hid KS1
        obtain ⟨⟨b0, b1, b2⟩, _⟩ := KC.out wr HK.out.1 HK.out.2
        have HL0 := Lib.hid HBb.out.liv
        clear hkn hpf hQ hFr hcq hk hlt HBX
        go_wp2_with fail
        refine KS1.out.mono ?_
        rintro e w7 ⟨v1, rfl, hX1, _, hb7⟩
        have HL7 := Lib.hid (HL0.out.on hb7)
        have HB7 : Hid (Below W.heap.size W w7) := HB.out.trans (hb7.mono HB.out.size)
        have HK7 : Hid (∀ w', Below w7.heap.size w7 w' → w'.heap[W.heap.size]? = W1.heap[W.heap.size]? ∧ w'.heap[W.heap.size + 1]? = W1.heap[W.heap.size + 1]?) := fun w' h => by
          have hk9 := HBb.out.on hb7
          exact ⟨((hk9.stands h) _ HP1.out.1).trans ((HBb.out.stands hb7 _ HP1.out.1).trans HK.out.1), ((hk9.stands h) _ HP1.out.2).trans ((HBb.out.stands hb7 _ HP1.out.2).trans HK.out.2)⟩
        clear hb7 KS1 b0 b1 b2 HB HK HBb HL0
        by_cases hq0 : cq = 0
        case neg =>
          have e0 : askS 7 300 now f t fs R = [] := by unfold askS; rw [if_neg (by rw [← HCQ.out]; exact hq0)]
          rw [e0] at hX1
          obtain ⟨A1, c1, rfl, _, _⟩ := hX1
          have g : (cq != 0) = true := by simp [hq0]
          clear hq0 e0
          go_wp2_with fail
          go_ret
          exact ⟨by simp, HB7.out⟩
        have e0 : askS 7 300 now f t fs R = tellS 7 (fromS f now 300) t fs R := by unfold askS; rw [if_pos (by rw [← HCQ.out]; exact hq0)]
        rw [e0] at hX1
        have HC0 : Hid (checkF fs = 0) := by show _ = _; rw [← HCQ.out]; exact hq0
        have HFX : Hid (FewX (tellS 7 (fromS f now 300) t fs R)) := tellS_few (by have := HPF.out.1; omega) HPF.out.2.1
        have HTA : Hid (∀ x ∈ tellS 7 (fromS f now 300) t fs R, allF fs x.1 = true ∧ x.2 ≠ [] ∧ ∀ k (hk : k < x.2.length), (f ≤ x.2[k].1 ∧ x.2[k].1 ≤ t ∧ now - 300 < x.2[k].1) ∧ ∀ j (hj : j < x.2.length), j < k → x.2[j].1 < x.2[k].1) := fun x hx => told_at hx
        subst hq0
        clear e0 HCQ
        obtain ⟨X, hX⟩ : ∃ X, X = tellS 7 (fromS f now 300) t fs R := ⟨_, rfl⟩
        have HX := Lib.hid hX
        rw [← hX] at hX1 HFX HTA
        have HX1 := Lib.hid hX1
        obtain ⟨VL, vc, rfl, hvc, hVL⟩ := hX1
        obtain ⟨m, hm⟩ : ∃ m, m = X.length := ⟨_, rfl⟩
        rw [← hm] at hvc HX1 ⊢
        have HM := Lib.hid hm
        have HVL := Lib.hid hVL
        have HVC := Lib.hid hvc
        have hm1 : m ≤ 1000000 := by rw [hm]; exact HFX.out.1
        clear hX hVL hvc hm
        go_wp2_with fail
        go_loopw [14, 15, 16] (fun iv _ _ wl => ∃ (i : Nat), i ≤ m ∧ iv = .int .i64 i ∧ Hid (Below w7.heap.size w7 wl))
          (fun iv _ _ _ => m - (intOf iv).toNat)
        case atStart => exact ⟨0, Nat.zero_le _, rfl, Below.refl _ _⟩
        case round =>
          obtain ⟨i, hi, rfl, HBi⟩ := hrel
          by_cases hlt : i < m
          · have hl2 : i < X.length := by rw [← HM.out]; exact hlt
            rcases HVL.out with h0 | ⟨b1, o1, e, hb1, hcl⟩
            · rw [h0] at hl2; simp at hl2
            subst e
            obtain ⟨y, hy⟩ : ∃ y, y = X[i] := ⟨_, rfl⟩
            obtain ⟨lx, sx, c0, c1, hlx, _, hsx, _⟩ : SerAt w7 w7.heap.size b1 (o1 + i * 2) y := by rw [hy]; exact hcl i hl2
            have hym : y ∈ X := by rw [hy]; exact List.getElem_mem hl2
            have hta := HTA.out y hym
            have hfy := HFX.out.2 y hym
            have KA : Hid (∀ w', Below w7.heap.size w7 w' → Calls Tryz.prog 27 #[.slice FA fn fc, lx] w' fun e w'' => e = .returned (.bool true) ∧ Below w7.heap.size w7 w'') := fun w' h => by
              have h9 := HB7.out.trans (h.mono HB7.out.size)
              have h1 := ref_all (.slice FA fn fc) fs lx y.1 w' ((HF.out.below h9).mono h9.size) ((hlx.below h).mono h.size) hfy.1 (check_len HC0.out).1 (check_len HC0.out).2
              rw [hta.1] at h1
              exact h1.mono fun _ _ ⟨k1, k2⟩ => ⟨k1, h.trans (k2.below.mono h.size)⟩
            obtain ⟨LX, cx, rfl, _, _⟩ := id hlx
            obtain ⟨SX, cs, rfl, hcs, hSX⟩ := hsx
            obtain ⟨nl, hnl⟩ : ∃ nl, nl = y.1.length := ⟨_, rfl⟩
            obtain ⟨ns, hns⟩ : ∃ ns, ns = y.2.length := ⟨_, rfl⟩
            rw [← hnl] at c0 KA
            rw [← hns] at c1 hcs
            have HNS := Lib.hid hns
            have HSX := Lib.hid hSX
            have HTY := Lib.hid hta.2.2
            have hn0 : 0 < ns := by rw [hns]; exact List.length_pos_iff.2 hta.2.1
            have hn2 : ns ≤ 1000000 := by rw [hns]; exact hfy.2
            have i1 : (i : Int) < (m : Int) := by omega
            have i2 : ((ns : Int) == 0) = false := by simp; omega
            have HLT : Hid (i + 1 ≤ m) := hlt
            have KC2 : Hid (∀ w, Below w7.heap.size w7 w → (w.cell? ⟨b1, o1 + i * 2, none⟩ = some (.slice LX nl cx) ∧ w.cell? ⟨b1, o1 + i * 2 + 1, none⟩ = some (.slice SX ns cs)) ∧ w.cell? ⟨W.heap.size, 0, none⟩ = some (.slice FA fn fc) ∧ w.cell? ⟨W.heap.size, 1, none⟩ = some (.int .i64 f) ∧ w.cell? ⟨W.heap.size, 2, none⟩ = some (.int .i64 t)) := fun w h => by
              obtain ⟨⟨q0, q1, q2⟩, _⟩ := KC.out w (HK7.out w h).1 (HK7.out w h).2
              exact ⟨⟨(h.cell hb1).trans c0, (h.cell hb1).trans c1⟩, q0, q1, q2⟩
            have hd : Below w7.heap.size w7 wr.drew := HBi.out.drew
            obtain ⟨⟨a0, a1⟩, a2, _⟩ := KC2.out _ hd
            have HCW : Hid (∀ w', Below w7.heap.size w7 w' → ((w'.cell? ⟨b1, o1 + i * 2, none⟩ = some (.slice LX nl cx) ∧ w'.cell? ⟨b1, o1 + i * 2 + 1, none⟩ = some (.slice SX ns cs)) ∧ w'.cell? ⟨W.heap.size, 0, none⟩ = some (.slice FA fn fc)) ∧ Below w7.heap.size w7 w') := fun w' h => ⟨⟨(KC2.out w' h).1, (KC2.out w' h).2.1⟩, h⟩
            clear hy hcl c0 c1 hlx hSX hcs hym hta hfy hnl hns hl2
            go_wp2_with fail
            go_region_held3 (fun w' => ((w'.cell? ⟨b1, o1 + i * 2, none⟩ = some (.slice LX nl cx) ∧ w'.cell? ⟨b1, o1 + i * 2 + 1, none⟩ = some (.slice SX ns cs)) ∧ w'.cell? ⟨W.heap.size, 0, none⟩ = some (.slice FA fn fc)) ∧ Below w7.heap.size w7 w')
              (first | assumption | exact HCW.out _ hd | exact HCW.out _ (by assumption))
              (first | (go_at_call 27; refine (KA.out _ hd).mono ?_; rintro e w8 ⟨rfl, hb8⟩))
            have HB8 := Lib.hid hb8
            clear hb8 KA a0 a1 a2 HBi hd HCW
            obtain ⟨⟨d0, d1⟩, _⟩ := KC2.out w8 HB8.out
            go_wp2_with fail
            clear d0 d1
            go_loopw [15, 16] (fun jv _ wl => ∃ (j : Nat), j ≤ ns ∧ jv = .int .i64 j ∧ Hid (Below w7.heap.size w7 wl))
              (fun jv _ _ => ns - (intOf jv).toNat)
            case atStart => exact ⟨0, Nat.zero_le _, rfl, HB8.out⟩
            case round =>
              obtain ⟨j, hj, rfl, HBj⟩ := hrel
              obtain ⟨⟨d0, d1⟩, _, d2, d3⟩ := KC2.out wr HBj.out
              by_cases hlj : j < ns
              · have hl3 : j < y.2.length := by rw [← HNS.out]; exact hlj
                rcases HSX.out with h0 | ⟨b2, o2, e, hb2, hcl2⟩
                · rw [h0] at hl3; simp at hl3
                subst e
                obtain ⟨z, hz⟩ : ∃ z, z = y.2[j] := ⟨_, rfl⟩
                obtain ⟨e0, _, _, _⟩ : Cell4 wr b2 (o2 + j * 4) z := by rw [hz]; exact (hcl2 j hl3).below HBj.out hb2
                have hty := HTY.out j hl3
                rw [← hz] at hty
                have h1 : ¬ z.1 < f := by have := hty.1.1; omega
                have h2 : ¬ t < z.1 := by have := hty.1.2.1; omega
                have h3 : ¬ z.1 ≤ now - 300 := by have := hty.1.2.2; omega
                have hbd := HL7.out.bd
                have hw3 : IntKind.i64.wrap (now - 300) = now - 300 := IntWalk.i64_in _ (by omega)
                have KN := Lib.hid (liv_now (HL7.out.on HBj.out))
                have j1 : (j : Int) < (ns : Int) := by omega
                have HLJ : Hid (j + 1 ≤ ns) := hlj
                by_cases hj0 : j = 0
                · subst hj0
                  rw [Nat.zero_mul, Nat.add_zero] at e0
                  clear hz hty hcl2 hbd hl3
                  go_wp2_with fail
                  refine KN.out.mono ?_
                  rintro e w9 ⟨rfl, rfl⟩
                  go_wp2_with fail
                  go_roundw
                  case rel => exact ⟨1, HLJ.out, by go_num, HBj.out⟩
                  case measure => have := HLJ.out; simp [intOf]; omega
                · obtain ⟨i0, rfl⟩ : ∃ i0, j = i0 + 1 := ⟨j - 1, by omega⟩
                  have hl4 : i0 < y.2.length := by omega
                  obtain ⟨z0, hz0⟩ : ∃ z0, z0 = y.2[i0] := ⟨_, rfl⟩
                  obtain ⟨f0, _, _, _⟩ : Cell4 wr b2 (o2 + i0 * 4) z0 := by rw [hz0]; exact (hcl2 i0 hl4).below HBj.out hb2
                  have h4 : ¬ z.1 ≤ z0.1 := by
                    have := hty.2 i0 hl4 (by omega)
                    rw [← hz0] at this; omega
                  have hw4 : IntKind.i64.wrap (((i0 + 1 : Nat) : Int) - 1) = (i0 : Int) := by
                    rw [show (((i0 + 1 : Nat) : Int) - 1) = (i0 : Int) by omega]
                    exact IntWalk.i64_in _ (by omega)
                  have j2 : (0 : Int) < ((i0 + 1 : Nat) : Int) := by omega
                  clear hz hz0 hty hcl2 hbd hl3 hl4 hj0
                  go_wp2_with fail
                  refine KN.out.mono ?_
                  rintro e w9 ⟨rfl, rfl⟩
                  go_wp2_with fail
                  go_roundw
                  case rel => exact ⟨i0 + 1 + 1, HLJ.out, by go_num, HBj.out⟩
                  case measure => have := HLJ.out; simp [intOf]; omega
              · have j1 : ¬ (j : Int) < (ns : Int) := by omega
                go_wp2_with fail
                go_roundw
                case rel => exact ⟨i + 1, HLT.out, by go_num, HBj.out⟩
                case measure => have := HLT.out; simp [intOf]; omega
          · have i1 : ¬ (i : Int) < (m : Int) := by omega
            obtain ⟨⟨b0, b1, b2⟩, b3, b4, b5, b6⟩ := KC.out wr (HK7.out wr HBi.out).1 (HK7.out wr HBi.out).2
            clear hi hlt
            go_wp2_with fail
            have hd : Below w7.heap.size w7 wr.drew := HBi.out.drew
            have KC3 : Hid (∀ w', Below w7.heap.size w7 w' → ((w'.cell? ⟨W.heap.size, 0, none⟩ = some (.slice FA fn fc) ∧ w'.cell? ⟨W.heap.size, 1, none⟩ = some (.int .i64 f) ∧ w'.cell? ⟨W.heap.size, 2, none⟩ = some (.int .i64 t)) ∧ w'.cell? ⟨W.heap.size + 1, 0, none⟩ = some (.string mnb) ∧ w'.cell? ⟨W.heap.size + 1, 1, none⟩ = some (.string mvb) ∧ w'.cell? ⟨W.heap.size + 1, 2, none⟩ = some (.bool mp) ∧ w'.cell? ⟨W.heap.size + 1, 3, none⟩ = some (.bool mg)) ∧ Below w7.heap.size w7 w') := fun w' h => ⟨KC.out w' (HK7.out w' h).1 (HK7.out w' h).2, h⟩
            have HRF : Hid (∀ w', Below w7.heap.size w7 w' → RdG EF w' w'.heap.size (.slice FA fn fc) fs) := fun w' h => by
              have h9 := HB7.out.trans (h.mono HB7.out.size)
              exact (((HF.out.below h9).mono h9.size).toG HZF.out)
            have hf3 : fs.length ≤ 3 := by rw [← HFN.out]; exact h8
            have HC9 : Hid (checkF (fs ++ [⟨mn, mv, mp, mg⟩]) = checkF [⟨mn, mv, mp, mg⟩]) := check_more HC0.out hf3
            obtain ⟨cm, hcm⟩ : ∃ cm, cm = checkF (fs ++ [⟨mn, mv, mp, mg⟩]) := ⟨_, rfl⟩
            have HCM := Lib.hid hcm
            obtain ⟨Y, hY⟩ : ∃ Y, Y = askS 7 300 now f t (fs ++ [⟨mn, mv, mp, mg⟩]) R := ⟨_, rfl⟩
            obtain ⟨m2, hm2⟩ : ∃ m2, m2 = Y.length := ⟨_, rfl⟩
            have HY := Lib.hid hY
            have HM2 := Lib.hid hm2
            have KSr : Hid (∀ w' u, Below w7.heap.size w7 w' → RdG EF w' w'.heap.size u (fs ++ [⟨mn, mv, mp, mg⟩]) → Calls Tryz.prog 14 #[.pointer (some ⟨o, 0, none⟩), u, .int .i64 f, .int .i64 t] w' fun e w'' => ∃ V2 c2, e = .returned (.tuple #[.slice V2 m2 c2, .int .i64 cm]) ∧ m2 ≤ c2 ∧ RdX w'' w''.heap.size (.slice V2 m2 c2) Y ∧ Below w7.heap.size w7 w'') := fun w' u h hu => by
              have h9 := HB7.out.trans (h.mono HB7.out.size)
              refine (liv_ask (HL7.out.on h) (HTB.out.below h9) hu.toF f t (by have := HPF.out.1; omega) HPF.out.2.1).mono ?_
              rintro e w'' ⟨v2, k1, k2, _, k4⟩
              rw [← hY] at k2
              obtain ⟨V2, c2, e2, hc2, hA2⟩ := id k2
              rw [← hm2] at e2 hc2
              subst e2
              exact ⟨V2, c2, by rw [hcm]; exact k1, hc2, k2, h.trans (k4.mono h.size)⟩
            clear hY hm2
            clear hcm
            have e1F : EF.enc (⟨mn, mv, mp, mg⟩ : Fil) = [.string mnb, .string mvb, .bool mp, .bool mg] := by
              show [vT mn, vT mv, Value.bool mp, Value.bool mg] = _
              rw [HEM.out.1, HEM.out.2]
            have HEF := Lib.hid e1F
            clear e1F
            refine wp_region_held_drew (S := fun w' => ((w'.cell? ⟨W.heap.size, 0, none⟩ = some (.slice FA fn fc) ∧ w'.cell? ⟨W.heap.size, 1, none⟩ = some (.int .i64 f) ∧ w'.cell? ⟨W.heap.size, 2, none⟩ = some (.int .i64 t)) ∧ w'.cell? ⟨W.heap.size + 1, 0, none⟩ = some (.string mnb) ∧ w'.cell? ⟨W.heap.size + 1, 1, none⟩ = some (.string mvb) ∧ w'.cell? ⟨W.heap.size + 1, 2, none⟩ = some (.bool mp) ∧ w'.cell? ⟨W.heap.size + 1, 3, none⟩ = some (.bool mg)) ∧ Below w7.heap.size w7 w') (by kernel_rfl) ?_ (fun hHeld => ?_)
            · (try dsimp only)
              exact KC3.out _ hd
            refine takeW (i := 0) (v := ?_) rfl (by kernel_rfl) (by kernel_rfl) (by kernel_rfl) (fun _ _ _ h => h) (by rfl) ?_ (by assumption) ?_
            rotate_left
            · (intro w hSw; (try dsimp only at hSw); go_simp; try with_reducible rfl)
            simp only [Act.put, sA, sZ, sS]
            refine takeW (i := 2) (v := ?_) rfl (by kernel_rfl) (by kernel_rfl) (by kernel_rfl) (fun _ _ _ h => h) (by rfl) ?_ (by assumption) ?_
            rotate_left
            · (intro w hSw; (try dsimp only at hSw); go_simp; try with_reducible rfl)
            simp only [Act.put, sA, sZ, sS]
            refine takeW (i := 3) (v := ?_) rfl (by kernel_rfl) (by kernel_rfl) (by kernel_rfl) (fun _ _ _ h => h) (by rfl) ?_ (by assumption) ?_
            rotate_left
            · (intro w hSw; (try dsimp only at hSw); go_simp; try with_reducible rfl)
            simp only [Act.put, sA, sZ, sS]
            refine takeW (i := 5) (v := ?_) rfl (by kernel_rfl) (by kernel_rfl) (by kernel_rfl) (fun _ _ _ h => h) (by rfl) ?_ (by assumption) ?_
            rotate_left
            · (intro w hSw; (try dsimp only at hSw); go_simp; try with_reducible rfl)
            simp only [Act.put, sA, sZ, sS]
            refine takeW (i := 8) (v := ?_) rfl (by kernel_rfl) (by kernel_rfl) (by kernel_rfl) (fun _ _ _ h => h) (by rfl) ?_ (by assumption) ?_
            rotate_left
            · (intro w hSw; (try dsimp only at hSw); go_simp; try with_reducible rfl)
            simp only [Act.put, sA, sZ, sS]
            refine takeW (i := 9) (v := ?_) rfl (by kernel_rfl) (by kernel_rfl) (by kernel_rfl) (fun _ _ _ h => h) (by rfl) ?_ (by assumption) ?_
            rotate_left
            · (intro w hSw; (try dsimp only at hSw); go_simp; try with_reducible rfl)
            simp only [Act.put, sA, sZ, sS]
            refine takeW (i := 10) (v := ?_) rfl (by kernel_rfl) (by kernel_rfl) (by kernel_rfl) (fun _ _ _ h => h) (by rfl) ?_ (by assumption) ?_
            rotate_left
            · (intro w hSw; (try dsimp only at hSw); go_simp; try with_reducible rfl)
            simp only [Act.put, sA, sZ, sS]
            refine takeW (i := 11) (v := ?_) rfl (by kernel_rfl) (by kernel_rfl) (by kernel_rfl) (fun _ _ _ h => h) (by rfl) ?_ (by assumption) ?_
            rotate_left
            · (intro w hSw; (try dsimp only at hSw); go_simp; try with_reducible rfl)
            simp only [Act.put, sA, sZ, sS]
            apply share5 (fun _ _ _ v7 w9 => Below w7.heap.size w7 w9 ∧ RdG EF w9 w9.heap.size v7 (fs ++ [(⟨mn, mv, mp, mg⟩ : Fil)]))
            · intro KE
              refine wpAnyH_ready (rs := [1, 6]) (by kernel_rfl) (by simp) (AllReadyH.cons (get_drop (i := 1) rfl) (fun K hK => ?_) (AllReadyH.cons (get_drop (i := 6) rfl) (fun K hK => ?_) AllReadyH.nil))
              · rw [if_pos (by rfl)]
                go_simp
                obtain ⟨wq1, hwwq1⟩ : ∃ w, w = (wr.alloc (.cells #[] 61)).drew := ⟨_, rfl⟩
                obtain ⟨gA, hgA⟩ : ∃ g, g = wr.heap.size := ⟨_, rfl⟩
                have hx1 : Below wr.heap.size wr wq1 := by
                  rw [hwwq1]
                  exact ((Below.refl _ _).alloc (Nat.le_refl _) _).drew
                have hbq1 : Hid (Below w7.heap.size w7 wq1) := HBi.out.trans (hx1.mono HBi.out.size)
                have hkgA : Hid (wq1.heap[gA]? = some (.cells #[] 61 (0, 0))) := by
                  show _ = _
                  rw [hwwq1, hgA]
                  exact heap_alloc_new _ _
                have hOwn : Hid (OwnG EF 61 wq1 w7.heap.size (.slice (some ⟨gA, 0, none⟩) 0 0) []) := by
                  show OwnG _ _ _ _ _ _
                  rw [hwwq1, hgA]
                  exact World.ownsRow_made wr #[] 0 HBi.out.size (Nat.zero_le _) rfl
                rw [← hwwq1, ← hgA]
                clear hwwq1 hgA hx1
                refine hK.out _ _ ?_ (fun hHeld => ?_)
                · (try dsimp only)
                  exact KC3.out _ hbq1.out
                clear hK K
                try simp only [Act.put, sA, sZ, sS]
                refine wpAnyH_ready (rs := [4, 6]) (by kernel_rfl) (by simp) (AllReadyH.cons (get_drop (i := 4) rfl) (fun K hK => ?_) (AllReadyH.cons (get_drop (i := 6) rfl) (fun K hK => ?_) AllReadyH.nil))
                · rw [if_pos (by rfl)]
                  refine addNG EF _ _ 23 61 rfl Tryz.underlying23 info_Fil rfl (by decide) w7.heap.size _ [] _ fs _ rfl hOwn.out rfl (HRF.out _ hbq1.out) (by have := hf3; simp; omega) hbq1.out.size (fun vB wq2 hown hg => ?_)
                  have hbq2 : Hid (Below w7.heap.size w7 wq2) := hOwn.out.step hbq1.out hbq1.out.size hg
                  clear hOwn
                  have hOwn : Hid (OwnG EF 61 wq2 w7.heap.size vB (fs)) := hown
                  clear hown hg
                  refine hK.out _ _ ?_ (fun hHeld => ?_)
                  · (try dsimp only)
                    exact KC3.out _ hbq2.out
                  clear hK K
                  try simp only [Act.put, sA, sZ, sS]
                  refine takeC (i := 6) rfl (by kernel_rfl) (by rfl) (fun K hK => ?_)
                  go_simp
                  obtain ⟨wq3, hwwq3⟩ : ∃ w, w = (wq2.alloc (.cells #[.string mnb, .string mvb, .bool mp, .bool mg] 61)) := ⟨_, rfl⟩
                  obtain ⟨gC, hgC⟩ : ∃ g, g = wq2.heap.size := ⟨_, rfl⟩
                  have hx3 : Below wq2.heap.size wq2 wq3 := by
                    rw [hwwq3]
                    exact ((Below.refl _ _).alloc (Nat.le_refl _) _)
                  have hbq3 : Hid (Below w7.heap.size w7 wq3) := hbq2.out.trans (hx3.mono hbq2.out.size)
                  have hkgC : Hid (wq3.heap[gC]? = some (.cells #[.string mnb, .string mvb, .bool mp, .bool mg] 61 (0, 0))) := by
                    show _ = _
                    rw [hwwq3, hgC]
                    exact heap_alloc_new _ _
                  replace hOwn : Hid (OwnG EF 61 wq3 w7.heap.size vB (fs)) := by
                    show OwnG _ _ _ _ _ _
                    rw [hwwq3]
                    exact hOwn.out.alloc _
                  rw [← hwwq3, ← hgC]
                  clear hwwq3 hgC hx3
                  refine hK.out _ _ ?_ (fun hHeld => ?_)
                  · (try dsimp only)
                    exact KC3.out _ hbq3.out
                  clear hK K
                  try simp only [Act.put, sA, sZ, sS]
                  refine takeC (i := 7) rfl (by kernel_rfl) (by rfl) (fun K hK => ?_)
                  have hRC : RdG EF wq3 wq3.heap.size (.slice (some ⟨gC, 0, none⟩) 1 1) [(⟨mn, mv, mp, mg⟩ : Fil)] := RdG.one (cellG_block hkgC.out HEF.out.symm) (Array.getElem?_eq_some_iff.1 hkgC.out).1
                  refine addNG EF _ _ 23 61 rfl Tryz.underlying23 info_Fil rfl (by decide) w7.heap.size _ (fs) _ [(⟨mn, mv, mp, mg⟩ : Fil)] _ rfl hOwn.out rfl hRC (by have := hf3; simp; omega) hbq3.out.size (fun vD wq4 hown hg => ?_)
                  have hbq4 : Hid (Below w7.heap.size w7 wq4) := hOwn.out.step hbq3.out hbq3.out.size hg
                  have hRD : RdG EF wq4 wq4.heap.size vD (fs ++ [(⟨mn, mv, mp, mg⟩ : Fil)]) := hown.rd
                  clear hOwn hown hg hRC
                  refine hK.out _ _ ?_ (fun hHeld => ?_)
                  · (try dsimp only)
                    exact KC3.out _ hbq4.out
                  clear hK K
                  try simp only [Act.put, sA, sZ, sS]
                  obtain ⟨vA, hvA⟩ : ∃ v : Value, v = .slice (some ⟨gA, 0, none⟩) 0 0 := ⟨_, rfl⟩
                  obtain ⟨vC, hvC⟩ : ∃ v : Value, v = .slice (some ⟨gC, 0, none⟩) 1 1 := ⟨_, rfl⟩
                  rw [← hvA, ← hvC]
                  exact KE vA vB vC vD wq4 ⟨hbq4.out, hRD⟩
                · rw [if_pos (by rfl)]
                  go_simp
                  obtain ⟨wq2, hwwq2⟩ : ∃ w, w = (wq1.alloc (.cells #[.string mnb, .string mvb, .bool mp, .bool mg] 61)) := ⟨_, rfl⟩
                  obtain ⟨gC, hgC⟩ : ∃ g, g = wq1.heap.size := ⟨_, rfl⟩
                  have hx2 : Below wq1.heap.size wq1 wq2 := by
                    rw [hwwq2]
                    exact ((Below.refl _ _).alloc (Nat.le_refl _) _)
                  have hbq2 : Hid (Below w7.heap.size w7 wq2) := hbq1.out.trans (hx2.mono hbq1.out.size)
                  have hkgC : Hid (wq2.heap[gC]? = some (.cells #[.string mnb, .string mvb, .bool mp, .bool mg] 61 (0, 0))) := by
                    show _ = _
                    rw [hwwq2, hgC]
                    exact heap_alloc_new _ _
                  have hlgA : gA < wq1.heap.size := (Array.getElem?_eq_some_iff.1 hkgA.out).1
                  have hngAgC : Hid (gA ≠ gC) := by show _ ≠ _; omega
                  replace hkgA : Hid (wq2.heap[gA]? = some (.cells #[] 61 (0, 0))) := by
                    show _ = _
                    rw [hx2.block _ hlgA]
                    exact hkgA.out
                  clear hlgA
                  replace hOwn : Hid (OwnG EF 61 wq2 w7.heap.size (.slice (some ⟨gA, 0, none⟩) 0 0) ([])) := by
                    show OwnG _ _ _ _ _ _
                    rw [hwwq2]
                    exact hOwn.out.alloc _
                  rw [← hwwq2, ← hgC]
                  clear hwwq2 hgC hx2
                  refine hK.out _ _ ?_ (fun hHeld => ?_)
                  · (try dsimp only)
                    exact KC3.out _ hbq2.out
                  clear hK K
                  try simp only [Act.put, sA, sZ, sS]
                  refine takeC (i := 4) rfl (by kernel_rfl) (by rfl) (fun K hK => ?_)
                  refine addNG EF _ _ 23 61 rfl Tryz.underlying23 info_Fil rfl (by decide) w7.heap.size _ [] _ fs _ rfl hOwn.out rfl (HRF.out _ hbq2.out) (by have := hf3; simp; omega) hbq2.out.size (fun vB wq3 hown hg => ?_)
                  have hbq3 : Hid (Below w7.heap.size w7 wq3) := hOwn.out.step hbq2.out hbq2.out.size hg
                  replace hkgC : Hid (wq3.heap[gC]? = some (.cells #[.string mnb, .string mvb, .bool mp, .bool mg] 61 (0, 0))) := by
                    show _ = _
                    have hg' : wq2.grownBy wq3 (some gA) := hg
                    rw [hg'.block _ (Array.getElem?_eq_some_iff.1 hkgC.out).1 (fun e => by first | exact hngCgA.out (Option.some.inj e) | exact hngAgC.out (Option.some.inj e).symm)]
                    exact hkgC.out
                  clear hOwn
                  have hOwn : Hid (OwnG EF 61 wq3 w7.heap.size vB (fs)) := hown
                  clear hown hg
                  refine hK.out _ _ ?_ (fun hHeld => ?_)
                  · (try dsimp only)
                    exact KC3.out _ hbq3.out
                  clear hK K
                  try simp only [Act.put, sA, sZ, sS]
                  refine takeC (i := 7) rfl (by kernel_rfl) (by rfl) (fun K hK => ?_)
                  have hRC : RdG EF wq3 wq3.heap.size (.slice (some ⟨gC, 0, none⟩) 1 1) [(⟨mn, mv, mp, mg⟩ : Fil)] := RdG.one (cellG_block hkgC.out HEF.out.symm) (Array.getElem?_eq_some_iff.1 hkgC.out).1
                  refine addNG EF _ _ 23 61 rfl Tryz.underlying23 info_Fil rfl (by decide) w7.heap.size _ (fs) _ [(⟨mn, mv, mp, mg⟩ : Fil)] _ rfl hOwn.out rfl hRC (by have := hf3; simp; omega) hbq3.out.size (fun vD wq4 hown hg => ?_)
                  have hbq4 : Hid (Below w7.heap.size w7 wq4) := hOwn.out.step hbq3.out hbq3.out.size hg
                  have hRD : RdG EF wq4 wq4.heap.size vD (fs ++ [(⟨mn, mv, mp, mg⟩ : Fil)]) := hown.rd
                  clear hOwn hown hg hRC
                  refine hK.out _ _ ?_ (fun hHeld => ?_)
                  · (try dsimp only)
                    exact KC3.out _ hbq4.out
                  clear hK K
                  try simp only [Act.put, sA, sZ, sS]
                  obtain ⟨vA, hvA⟩ : ∃ v : Value, v = .slice (some ⟨gA, 0, none⟩) 0 0 := ⟨_, rfl⟩
                  obtain ⟨vC, hvC⟩ : ∃ v : Value, v = .slice (some ⟨gC, 0, none⟩) 1 1 := ⟨_, rfl⟩
                  rw [← hvA, ← hvC]
                  exact KE vA vB vC vD wq4 ⟨hbq4.out, hRD⟩
              · rw [if_pos (by rfl)]
                go_simp
                obtain ⟨wq1, hwwq1⟩ : ∃ w, w = (wr.alloc (.cells #[.string mnb, .string mvb, .bool mp, .bool mg] 61)).drew := ⟨_, rfl⟩
                obtain ⟨gC, hgC⟩ : ∃ g, g = wr.heap.size := ⟨_, rfl⟩
                have hx1 : Below wr.heap.size wr wq1 := by
                  rw [hwwq1]
                  exact ((Below.refl _ _).alloc (Nat.le_refl _) _).drew
                have hbq1 : Hid (Below w7.heap.size w7 wq1) := HBi.out.trans (hx1.mono HBi.out.size)
                have hkgC : Hid (wq1.heap[gC]? = some (.cells #[.string mnb, .string mvb, .bool mp, .bool mg] 61 (0, 0))) := by
                  show _ = _
                  rw [hwwq1, hgC]
                  exact heap_alloc_new _ _
                rw [← hwwq1, ← hgC]
                clear hwwq1 hgC hx1
                refine hK.out _ _ ?_ (fun hHeld => ?_)
                · (try dsimp only)
                  exact KC3.out _ hbq1.out
                clear hK K
                try simp only [Act.put, sA, sZ, sS]
                refine takeC (i := 1) rfl (by kernel_rfl) (by rfl) (fun K hK => ?_)
                go_simp
                obtain ⟨wq2, hwwq2⟩ : ∃ w, w = (wq1.alloc (.cells #[] 61)) := ⟨_, rfl⟩
                obtain ⟨gA, hgA⟩ : ∃ g, g = wq1.heap.size := ⟨_, rfl⟩
                have hx2 : Below wq1.heap.size wq1 wq2 := by
                  rw [hwwq2]
                  exact ((Below.refl _ _).alloc (Nat.le_refl _) _)
                have hbq2 : Hid (Below w7.heap.size w7 wq2) := hbq1.out.trans (hx2.mono hbq1.out.size)
                have hkgA : Hid (wq2.heap[gA]? = some (.cells #[] 61 (0, 0))) := by
                  show _ = _
                  rw [hwwq2, hgA]
                  exact heap_alloc_new _ _
                have hlgC : gC < wq1.heap.size := (Array.getElem?_eq_some_iff.1 hkgC.out).1
                have hngCgA : Hid (gC ≠ gA) := by show _ ≠ _; omega
                replace hkgC : Hid (wq2.heap[gC]? = some (.cells #[.string mnb, .string mvb, .bool mp, .bool mg] 61 (0, 0))) := by
                  show _ = _
                  rw [hx2.block _ hlgC]
                  exact hkgC.out
                clear hlgC
                have hOwn : Hid (OwnG EF 61 wq2 w7.heap.size (.slice (some ⟨gA, 0, none⟩) 0 0) []) := by
                  show OwnG _ _ _ _ _ _
                  rw [hwwq2, hgA]
                  exact World.ownsRow_made wq1 #[] 0 hbq1.out.size (Nat.zero_le _) rfl
                rw [← hwwq2, ← hgA]
                clear hwwq2 hgA hx2
                refine hK.out _ _ ?_ (fun hHeld => ?_)
                · (try dsimp only)
                  exact KC3.out _ hbq2.out
                clear hK K
                try simp only [Act.put, sA, sZ, sS]
                refine takeC (i := 4) rfl (by kernel_rfl) (by rfl) (fun K hK => ?_)
                refine addNG EF _ _ 23 61 rfl Tryz.underlying23 info_Fil rfl (by decide) w7.heap.size _ [] _ fs _ rfl hOwn.out rfl (HRF.out _ hbq2.out) (by have := hf3; simp; omega) hbq2.out.size (fun vB wq3 hown hg => ?_)
                have hbq3 : Hid (Below w7.heap.size w7 wq3) := hOwn.out.step hbq2.out hbq2.out.size hg
                replace hkgC : Hid (wq3.heap[gC]? = some (.cells #[.string mnb, .string mvb, .bool mp, .bool mg] 61 (0, 0))) := by
                  show _ = _
                  have hg' : wq2.grownBy wq3 (some gA) := hg
                  rw [hg'.block _ (Array.getElem?_eq_some_iff.1 hkgC.out).1 (fun e => by first | exact hngCgA.out (Option.some.inj e) | exact hngAgC.out (Option.some.inj e).symm)]
                  exact hkgC.out
                clear hOwn
                have hOwn : Hid (OwnG EF 61 wq3 w7.heap.size vB (fs)) := hown
                clear hown hg
                refine hK.out _ _ ?_ (fun hHeld => ?_)
                · (try dsimp only)
                  exact KC3.out _ hbq3.out
                clear hK K
                try simp only [Act.put, sA, sZ, sS]
                refine takeC (i := 7) rfl (by kernel_rfl) (by rfl) (fun K hK => ?_)
                have hRC : RdG EF wq3 wq3.heap.size (.slice (some ⟨gC, 0, none⟩) 1 1) [(⟨mn, mv, mp, mg⟩ : Fil)] := RdG.one (cellG_block hkgC.out HEF.out.symm) (Array.getElem?_eq_some_iff.1 hkgC.out).1
                refine addNG EF _ _ 23 61 rfl Tryz.underlying23 info_Fil rfl (by decide) w7.heap.size _ (fs) _ [(⟨mn, mv, mp, mg⟩ : Fil)] _ rfl hOwn.out rfl hRC (by have := hf3; simp; omega) hbq3.out.size (fun vD wq4 hown hg => ?_)
                have hbq4 : Hid (Below w7.heap.size w7 wq4) := hOwn.out.step hbq3.out hbq3.out.size hg
                have hRD : RdG EF wq4 wq4.heap.size vD (fs ++ [(⟨mn, mv, mp, mg⟩ : Fil)]) := hown.rd
                clear hOwn hown hg hRC
                refine hK.out _ _ ?_ (fun hHeld => ?_)
                · (try dsimp only)
                  exact KC3.out _ hbq4.out
                clear hK K
                try simp only [Act.put, sA, sZ, sS]
                obtain ⟨vA, hvA⟩ : ∃ v : Value, v = .slice (some ⟨gA, 0, none⟩) 0 0 := ⟨_, rfl⟩
                obtain ⟨vC, hvC⟩ : ∃ v : Value, v = .slice (some ⟨gC, 0, none⟩) 1 1 := ⟨_, rfl⟩
                rw [← hvA, ← hvC]
                exact KE vA vB vC vD wq4 ⟨hbq4.out, hRD⟩
            intro vA vB vC vD w9 hpre
            refine takeC (i := 12) rfl (by kernel_rfl) (by rfl) (fun K hK => ?_)
            go_simp
            refine (KSr.out _ _ hpre.1 hpre.2).mono ?_
            rintro e w10 ⟨V2, c2, rfl, hc2, hx2, hb10⟩
            try go_wp2_with fail
            refine hK.out _ _ ?_ (fun hHeld => ?_)
            · (try dsimp only)
              exact KC3.out _ hb10
            clear hK K
            try simp only [Act.put, sA, sZ, sS]
            refine takeW (i := 13) (v := ?_) rfl (by kernel_rfl) (by kernel_rfl) (by kernel_rfl) (fun _ _ _ h => h) (by rfl) ?_ (by assumption) ?_
            rotate_left
            · (intro w hSw; (try dsimp only at hSw); go_simp; try with_reducible rfl)
            simp only [Act.put, sA, sZ, sS]
            refine takeW (i := 14) (v := ?_) rfl (by kernel_rfl) (by kernel_rfl) (by kernel_rfl) (fun _ _ _ h => h) (by rfl) ?_ (by assumption) ?_
            rotate_left
            · (intro w hSw; (try dsimp only at hSw); go_simp; try with_reducible rfl)
            simp only [Act.put, sA, sZ, sS]
            refine takeW (i := 15) (v := ?_) rfl (by kernel_rfl) (by kernel_rfl) (by kernel_rfl) (fun _ _ _ h => h) (by rfl) ?_ (by assumption) ?_
            rotate_left
            · (intro w hSw; (try dsimp only at hSw); go_simp; try with_reducible rfl)
            simp only [Act.put, sA, sZ, sS]
            refine takeW (i := 16) (v := ?_) rfl (by kernel_rfl) (by kernel_rfl) (by kernel_rfl) (fun _ _ _ h => h) (by rfl) ?_ (by assumption) ?_
            rotate_left
            · (intro w hSw; (try dsimp only at hSw); go_simp; try with_reducible rfl)
            simp only [Act.put, sA, sZ, sS]
            refine takeW (i := 17) (v := ?_) rfl (by kernel_rfl) (by kernel_rfl) (by kernel_rfl) (fun _ _ _ h => h) (by rfl) ?_ (by assumption) ?_
            rotate_left
            · (intro w hSw; (try dsimp only at hSw); go_simp; try with_reducible rfl)
            simp only [Act.put, sA, sZ, sS]
            refine wpAnyH_done (by kernel_rfl) ?_ _
            have HB10 := Lib.hid hb10
            have HX2 := Lib.hid hx2
            have HC2 := Lib.hid hc2
            clear hpre hb10 hx2 hc2 hHeld KSr HRF hd
            obtain ⟨⟨b0, b1, b2⟩, b3, b4, b5, b6⟩ := (KC3.out w10 HB10.out).1
            by_cases hm0 : cm = 0
            case neg =>
              have g : (cm != 0) = true := by simp [hm0]
              have KCk : Hid (Calls Tryz.prog 28 #[.slice (some ⟨w10.heap.size, 0, none⟩) 1 1] (w10.alloc (.cells #[.string mnb, .string mvb, .bool mp, .bool mg] 61)) fun e w' => e = .returned (.int .i64 cm) ∧ w' = w10.alloc (.cells #[.string mnb, .string mvb, .bool mp, .bool mg] 61)) := by
                show Calls _ _ _ _ _
                rw [HCM.out, HC9.out]
                refine ref_check _ [⟨mn, mv, mp, mg⟩] _ (RdG.one (CellG.mk HEF.out.symm _) (by simp)).toF (fun f hf => ?_)
                obtain rfl : f = ⟨mn, mv, mp, mg⟩ := by simpa using hf
                exact ⟨HMX.out.1, HMX.out.2⟩
              clear hm0
              go_wp2_with fail
              refine KCk.out.mono ?_
              rintro e w11 ⟨rfl, rfl⟩
              go_wp2_with fail
              go_ret
              exact ⟨by simp, HB7.out.trans ((HB10.out.trans ((Below.refl _ _).alloc (Nat.le_refl _) _ |>.mono HB10.out.size)).mono HB7.out.size)⟩
            have HYX : Hid (Y = X.filter (fun x => oneF ⟨mn, mv, mp, mg⟩ x.1)) := by
              show _ = _
              rw [HY.out, HX.out, ← tell_more]
              unfold askS
              rw [if_pos (by rw [← HCM.out]; exact hm0)]
            subst hm0
            clear HY HCM HC9
            clear b0 b1 b2 b3 b4 b5 b6
            go_wp2_with fail
            go_loopw [19, 20] (fun nv iv wl => ∃ (i : Nat), i ≤ m ∧ iv = .int .i64 i ∧ nv = .int .i64 (((X.take i).countP (fun x => oneF ⟨mn, mv, mp, mg⟩ x.1) : Nat) : Int) ∧ Hid (Below w10.heap.size w10 wl))
              (fun _ iv _ => m - (intOf iv).toNat)
            case atStart => exact ⟨0, Nat.zero_le _, rfl, rfl, Below.refl _ _⟩
            case round =>
              obtain ⟨i, hi, rfl, rfl, HBi⟩ := hrel
              obtain ⟨nn, hnn⟩ : ∃ nn, nn = (X.take i).countP (fun x => oneF ⟨mn, mv, mp, mg⟩ x.1) := ⟨_, rfl⟩
              rw [← hnn]
              have HNN := Lib.hid hnn
              clear hnn
              by_cases hlt : i < m
              · have hl2 : i < X.length := by rw [← HM.out]; exact hlt
                rcases HVL.out with h0 | ⟨b1, o1, e, hb1, hcl⟩
                · rw [h0] at hl2; simp at hl2
                subst e
                obtain ⟨y, hy⟩ : ∃ y, y = X[i] := ⟨_, rfl⟩
                obtain ⟨lx, sx, c0, c1, hlx, _, _, _⟩ : SerAt w7 w7.heap.size b1 (o1 + i * 2) y := by rw [hy]; exact hcl i hl2
                have hym : y ∈ X := by rw [hy]; exact List.getElem_mem hl2
                have hfy := HFX.out.2 y hym
                have HB7i : Hid (∀ w', Below w10.heap.size w10 w' → Below w7.heap.size w7 w') := fun w' h => HB10.out.trans (h.mono HB10.out.size)
                obtain ⟨q1, hq1⟩ : ∃ q1, q1 = oneF ⟨mn, mv, mp, mg⟩ y.1 := ⟨_, rfl⟩
                have KO : Hid (∀ w', Below w10.heap.size w10 w' → Calls Tryz.prog 29 #[.agg #[.string mnb, .string mvb, .bool mp, .bool mg], lx] w' fun e w'' => e = .returned (.bool q1) ∧ Below w10.heap.size w10 w'') := fun w' h => by
                  have h7 := HB7i.out w' h
                  have h1 := ref_one ⟨mn, mv, mp, mg⟩ lx y.1 w' ((hlx.below h7).mono h7.size) hfy.1 HMX.out.2
                  rw [← hq1] at h1
                  unfold vF at h1
                  simp only at h1
                  rw [HEM.out.1, HEM.out.2] at h1
                  exact h1.mono fun _ _ ⟨k1, k2⟩ => ⟨k1, h.trans (k2.below.mono h.size)⟩
                obtain ⟨LX, cx, rfl, _, _⟩ := id hlx
                obtain ⟨nl, hnl⟩ : ∃ nl, nl = y.1.length := ⟨_, rfl⟩
                rw [← hnl] at c0 KO
                have i1 : (i : Int) < (m : Int) := by omega
                have HLT : Hid (i + 1 ≤ m) := hlt
                have HQ1 := Lib.hid hq1
                have HYI := Lib.hid hy
                have HCW : Hid (∀ w', Below w10.heap.size w10 w' → (w'.cell? ⟨b1, o1 + i * 2, none⟩ = some (.slice LX nl cx) ∧ w'.cell? ⟨W.heap.size + 1, 0, none⟩ = some (.string mnb) ∧ w'.cell? ⟨W.heap.size + 1, 1, none⟩ = some (.string mvb) ∧ w'.cell? ⟨W.heap.size + 1, 2, none⟩ = some (.bool mp) ∧ w'.cell? ⟨W.heap.size + 1, 3, none⟩ = some (.bool mg)) ∧ Below w10.heap.size w10 w') := fun w' h => ⟨⟨((HB7i.out w' h).cell hb1).trans c0, (KC3.out w' (HB7i.out w' h)).1.2⟩, h⟩
                have hd : Below w10.heap.size w10 wr.drew := HBi.out.drew
                obtain ⟨⟨a0, a1, a2, a3, a4⟩, _⟩ := HCW.out _ hd
                clear hy hcl c0 c1 hlx hym hfy hnl hq1
                go_wp2_with fail
                go_region_held3 (fun w' => (w'.cell? ⟨b1, o1 + i * 2, none⟩ = some (.slice LX nl cx) ∧ w'.cell? ⟨W.heap.size + 1, 0, none⟩ = some (.string mnb) ∧ w'.cell? ⟨W.heap.size + 1, 1, none⟩ = some (.string mvb) ∧ w'.cell? ⟨W.heap.size + 1, 2, none⟩ = some (.bool mp) ∧ w'.cell? ⟨W.heap.size + 1, 3, none⟩ = some (.bool mg)) ∧ Below w10.heap.size w10 w')
                  (first | assumption | exact HCW.out _ hd | exact HCW.out _ (by assumption))
                  (first | (go_at_call 29; refine (KO.out _ hd).mono ?_; rintro e w8 ⟨rfl, hb8⟩))
                have HB8 := Lib.hid hb8
                clear hb8 KO a0 a1 a2 a3 a4 HBi hd HCW
                cases q1 with
                | false =>
                  go_wp2_with fail
                  go_roundw
                  case rel => exact ⟨i + 1, HLT.out, by go_num, by
                      have e := count_take (fun x => oneF ⟨mn, mv, mp, mg⟩ x.1) hl2
                      rw [← HYI.out] at e
                      simp only [← HQ1.out] at e
                      rw [e, ← HNN.out]; simp, HB8.out⟩
                  case measure => have := HLT.out; simp [intOf]; omega
                | true =>
                  obtain ⟨hp1, hp2⟩ := part_at (fun x => oneF ⟨mn, mv, mp, mg⟩ x.1) X i hl2 (by rw [← HYI.out]; exact HQ1.out.symm)
                  rw [← HNN.out] at hp1
                  have hn2 : nn < m2 := by rw [HM2.out, HYX.out]; exact hp1
                  have hc2 := HC2.out
                  have hvc := HVC.out
                  have HY2 : Hid (∃ h : nn < Y.length, Y[nn] = X[i]) := by
                    have e : ∀ Z : List Ser, Z = X.filter (fun x => oneF ⟨mn, mv, mp, mg⟩ x.1) → ∃ h : nn < Z.length, Z[nn] = X[i] := by
                      rintro Z rfl
                      refine ⟨hp1, ?_⟩
                      rw [← hp2]
                      congr 1
                    exact e Y HYX.out
                  have hV2 : ∃ b2 o2, V2 = some ⟨b2, o2, none⟩ := by
                    obtain ⟨A, c, e, _, hA⟩ := HX2.out
                    injection e with e1 _ _
                    rcases hA with h0 | ⟨b2, o2, e2, _⟩
                    · obtain ⟨h, _⟩ := HY2.out; rw [h0] at h; simp at h
                    · exact ⟨b2, o2, e1.trans e2⟩
                  obtain ⟨b2, o2, rfl⟩ := hV2
                  have KSm : Hid (∀ w', Below w10.heap.size w10 w' → Calls Tryz.prog 15 #[.slice (some ⟨b2, o2 + nn * 2, none⟩) 1 (c2 - nn), .slice (some ⟨b1, o1 + i * 2, none⟩) 1 (vc - i)] w' fun e w'' => e = .returned (.bool true) ∧ Below w10.heap.size w10 w'') := fun w' h => by
                    obtain ⟨hY1, hY2⟩ := HY2.out
                    have h7 := HB7i.out w' h
                    have r1 := RdX.one (c' := c2 - nn) HX2.out hY1 (by omega)
                    have r2 := RdX.one (c' := vc - i) HX1.out hl2 (by omega)
                    have h1 := sameX_walk _ _ _ _ w' ((r1.below h).mono h.size) ((r2.below h7).mono h7.size) ⟨by simp, fun x hx => HFX.out.2 x (by
                      have hx : x = Y[nn] := by simpa using hx
                      rw [hx, hY2]; exact List.getElem_mem hl2)⟩
                    rw [hY2] at h1
                    refine h1.mono fun e w'' ⟨k1, k2⟩ => ⟨by rw [k1]; simp, h.trans (k2.below.mono h.size)⟩
                  have g1 : ¬ (nn : Int) ≥ (m2 : Int) := by omega
                  have HN2 : Hid (nn + 1 ≤ m2) := hn2
                  have hm2s : m2 ≤ 1000000 := by
                    have := List.length_filter_le (fun x => oneF ⟨mn, mv, mp, mg⟩ x.1) X
                    rw [HM2.out, HYX.out]
                    rw [← HM.out] at this
                    omega
                  have hd : Below w10.heap.size w10 w8.drew := HB8.out.drew
                  have w1 : IntKind.i64.wrap ((nn : Int) + 1) = ((nn + 1 : Nat) : Int) := by
                    rw [show ((nn : Int) + 1) = ((nn + 1 : Nat) : Int) by omega]; exact IntWalk.i64_in _ (by omega)
                  have w2 : IntKind.i64.wrap ((i : Int) + 1) = ((i + 1 : Nat) : Int) := by
                    rw [show ((i : Int) + 1) = ((i + 1 : Nat) : Int) by omega]; exact IntWalk.i64_in _ (by omega)
                  have hs1 : ((nn + 1 : Nat) : Int) ≤ (c2 : Int) := by omega
                  have hs2 : ((i + 1 : Nat) : Int) ≤ (vc : Int) := by omega
                  go_wp2_with fail
                  refine wp_region_held_drew (S := fun w' => Below w10.heap.size w10 w') (by kernel_rfl) ?_ (fun hHeld => ?_)
                  · (try dsimp only)
                    exact hd
                  refine takeW (i := 0) (v := ?_) rfl (by kernel_rfl) (by kernel_rfl) (by kernel_rfl) (fun _ _ _ h => h) (by rfl) ?_ (by assumption) ?_
                  rotate_left
                  · (intro w hSw; (try dsimp only at hSw); go_simp; try with_reducible rfl)
                  simp only [Act.put, sA, sZ, sS]
                  refine takeW (i := 1) (v := ?_) rfl (by kernel_rfl) (by kernel_rfl) (by kernel_rfl) (fun _ _ _ h => h) (by rfl) ?_ (by assumption) ?_
                  rotate_left
                  · (intro w hSw; (try dsimp only at hSw); go_simp; try with_reducible rfl)
                  simp only [Act.put, sA, sZ, sS]
                  refine takeW (i := 2) (v := ?_) rfl (by kernel_rfl) (by kernel_rfl) (by kernel_rfl) (fun _ _ _ h => h) (by rfl) ?_ (by assumption) ?_
                  rotate_left
                  · (intro w hSw; (try dsimp only at hSw); go_simp; try with_reducible rfl)
                  simp only [Act.put, sA, sZ, sS]
                  refine takeW (i := 3) (v := .bool false) rfl (by kernel_rfl) (by kernel_rfl) (by kernel_rfl) (fun _ _ _ h => h) (by rfl) ?_ (by assumption) ?_
                  · (intro w hSw; (try dsimp only at hSw); go_simp; first | done | (simp; omega))
                  simp only [Act.put, sA, sZ, sS]
                  refine takeW (i := 4) (v := ?_) rfl (by kernel_rfl) (by kernel_rfl) (by kernel_rfl) (fun _ _ _ h => h) (by rfl) ?_ (by assumption) ?_
                  rotate_left
                  · (intro w hSw; (try dsimp only at hSw); go_simp; try with_reducible rfl)
                  simp only [Act.put, sA, sZ, sS]
                  refine takeW (i := 5) (v := ?_) rfl (by kernel_rfl) (by kernel_rfl) (by kernel_rfl) (fun _ _ _ h => h) (by rfl) ?_ (by assumption) ?_
                  rotate_left
                  · (intro w hSw; (try dsimp only at hSw); go_simp; try with_reducible rfl)
                  simp only [Act.put, sA, sZ, sS]
                  refine takeW (i := 6) (v := ?_) rfl (by kernel_rfl) (by kernel_rfl) (by kernel_rfl) (fun _ _ _ h => h) (by rfl) ?_ (by assumption) ?_
                  rotate_left
                  · (intro w hSw; (try dsimp only at hSw); go_simp; try with_reducible rfl)
                  simp only [Act.put, sA, sZ, sS]
                  refine takeW (i := 7) (v := ?_) rfl (by kernel_rfl) (by kernel_rfl) (by kernel_rfl) (fun _ _ _ h => h) (by rfl) ?_ (by assumption) ?_
                  rotate_left
                  · (intro w hSw; (try dsimp only at hSw); go_simp; try with_reducible rfl)
                  simp only [Act.put, sA, sZ, sS]
                  refine takeW (i := 8) (v := ?_) rfl (by kernel_rfl) (by kernel_rfl) (by kernel_rfl) (fun _ _ _ h => h) (by rfl) ?_ (by assumption) ?_
                  rotate_left
                  · (intro w hSw; (try dsimp only at hSw); go_simp; try with_reducible rfl)
                  simp only [Act.put, sA, sZ, sS]
                  refine takeW (i := 9) (v := .slice (some ⟨b2, o2 + nn * 2, none⟩) 1 (c2 - nn)) rfl (by kernel_rfl) (by kernel_rfl) (by kernel_rfl) (fun _ _ _ h => h) (by rfl) ?_ (by assumption) ?_
                  · (intro w hSw; (try dsimp only at hSw); go_simp; rw [if_pos ⟨by omega, by omega⟩]; first | done | (rw [if_neg (by omega)]))
                  simp only [Act.put, sA, sZ, sS]
                  refine takeW (i := 10) (v := ?_) rfl (by kernel_rfl) (by kernel_rfl) (by kernel_rfl) (fun _ _ _ h => h) (by rfl) ?_ (by assumption) ?_
                  rotate_left
                  · (intro w hSw; (try dsimp only at hSw); go_simp; try with_reducible rfl)
                  simp only [Act.put, sA, sZ, sS]
                  refine takeW (i := 11) (v := ?_) rfl (by kernel_rfl) (by kernel_rfl) (by kernel_rfl) (fun _ _ _ h => h) (by rfl) ?_ (by assumption) ?_
                  rotate_left
                  · (intro w hSw; (try dsimp only at hSw); go_simp; try with_reducible rfl)
                  simp only [Act.put, sA, sZ, sS]
                  refine takeW (i := 12) (v := ?_) rfl (by kernel_rfl) (by kernel_rfl) (by kernel_rfl) (fun _ _ _ h => h) (by rfl) ?_ (by assumption) ?_
                  rotate_left
                  · (intro w hSw; (try dsimp only at hSw); go_simp; try with_reducible rfl)
                  simp only [Act.put, sA, sZ, sS]
                  refine takeW (i := 13) (v := ?_) rfl (by kernel_rfl) (by kernel_rfl) (by kernel_rfl) (fun _ _ _ h => h) (by rfl) ?_ (by assumption) ?_
                  rotate_left
                  · (intro w hSw; (try dsimp only at hSw); go_simp; try with_reducible rfl)
                  simp only [Act.put, sA, sZ, sS]
                  refine takeW (i := 14) (v := .slice (some ⟨b1, o1 + i * 2, none⟩) 1 (vc - i)) rfl (by kernel_rfl) (by kernel_rfl) (by kernel_rfl) (fun _ _ _ h => h) (by rfl) ?_ (by assumption) ?_
                  · (intro w hSw; (try dsimp only at hSw); go_simp; rw [if_pos ⟨by omega, by omega⟩]; first | done | (rw [if_neg (by omega)]))
                  simp only [Act.put, sA, sZ, sS]
                  refine takeC (i := 15) rfl (by kernel_rfl) (by rfl) (fun K hK => ?_)
                  go_simp
                  refine (KSm.out _ hd).mono ?_
                  rintro e w9 ⟨rfl, hb9⟩
                  try go_wp2_with fail
                  refine hK.out _ _ ?_ (fun hHeld => ?_)
                  · (try dsimp only)
                    exact hb9
                  clear hK K
                  try simp only [Act.put, sA, sZ, sS]
                  refine takeW (i := 16) (v := ?_) rfl (by kernel_rfl) (by kernel_rfl) (by kernel_rfl) (fun _ _ _ h => h) (by rfl) ?_ (by assumption) ?_
                  rotate_left
                  · (intro w hSw; (try dsimp only at hSw); go_simp; try with_reducible rfl)
                  simp only [Act.put, sA, sZ, sS]
                  refine takeW (i := 17) (v := ?_) rfl (by kernel_rfl) (by kernel_rfl) (by kernel_rfl) (fun _ _ _ h => h) (by rfl) ?_ (by assumption) ?_
                  rotate_left
                  · (intro w hSw; (try dsimp only at hSw); go_simp; try with_reducible rfl)
                  simp only [Act.put, sA, sZ, sS]
                  refine wpAnyH_done (by kernel_rfl) ?_ _
                  have HB9 := Lib.hid hb9
                  clear hb9
                  go_wp2_with fail
                  go_roundw
                  case rel => exact ⟨i + 1, HLT.out, by go_num, by
                      have e := count_take (fun x => oneF ⟨mn, mv, mp, mg⟩ x.1) hl2
                      rw [← HYI.out] at e
                      simp only [← HQ1.out] at e
                      rw [e, ← HNN.out]; simp, HB9.out⟩
                  case measure => have := HLT.out; simp [intOf]; omega
              · have hkn : i = m := by omega
                have i1 : ¬ (i : Int) < (m : Int) := by omega
                go_wp2_with fail
                go_ret
                refine ⟨?_, HB7.out.trans ((HB10.out.trans (HBi.out.mono HB10.out.size)).mono HB7.out.size)⟩
                have e : nn = m2 := by
                  rw [HNN.out, HM2.out, HYX.out, hkn, HM.out, List.take_length, List.countP_eq_length_filter]
                rw [e]; simp
end Go.Proofs.YtkgcbeokfilehaaGreatDoor
