/-
  OraclePlays: for every input the statement answers true, and the input reads as it did: the tied card. The conditions are the card's own: the listed package variables of Go's library hold what the program's text lays.
-/
import Derived.Test.YtkgcbeokfilehaaGreatDoorYbk
import Derived.Test.YtkgcbeokfilehaaGreatDoorXsk
import Derived.Test.YtkgcbeokfilehaaGreatDoorWok
import Derived.Test.YtkgcbeokfilehaaGreatDoorRgnk
import Derived.Test.YtkgcbeokfilehaaGreatDoorRwk
namespace Go.Proofs.YtkgcbeokfilehaaGreatDoor
open Go.RowKit Go.Sort Go.Maps
theorem alloc_both {P : Nat → Prop} {W w w' : World} {o : Nat} {v : Value} {every keep now : Int} {R R2 : Told} (h : Both P W w' o v every keep now R R2) (hk : Keep P w w') (hb : Below W.heap.size W w') (ob : Obj) : Keep P w (w'.alloc ob) ∧ Below W.heap.size W (w'.alloc ob) :=
  have hx : Below w'.heap.size w' (w'.alloc ob) := (Below.refl _ _).alloc (Nat.le_refl _) _
  ⟨hk.trans (h.stands hx), hb.trans (hx.mono hb.size)⟩
/-- Four cells of a block. -/
theorem cells4 {w : World} {b : Nat} {u0 u1 u2 u3 : Value} {t : TypeId} (h : w.heap[b]? = some (.cells #[u0, u1, u2, u3] t (0, 0))) : (w.cell? ⟨b, 0, none⟩ = some u0 ∧ w.cell? ⟨b, 1, none⟩ = some u1 ∧ w.cell? ⟨b, 2, none⟩ = some u2 ∧ w.cell? ⟨b, 3, none⟩ = some u3) ∧ ∀ i, w.frozen? ⟨b, i, none⟩ = false := by
  have q : ∀ i, w.cell? ⟨b, i, none⟩ = (#[u0, u1, u2, u3] : Array Value)[i]? := fun i => by simp [World.cell?, h]
  exact ⟨⟨q 0, q 1, q 2, q 3⟩, fun i => by simp [World.frozen?, h]⟩
theorem set4 {w : World} {b : Nat} {u0 u1 u2 u3 v0 v1 v2 v3 : Value} {t : TypeId} (h : w.heap[b]? = some (.cells #[u0, u1, u2, u3] t (0, 0))) : ((((w.setCell ⟨b, 0, none⟩ v0).setCell ⟨b, 1, none⟩ v1).setCell ⟨b, 2, none⟩ v2).setCell ⟨b, 3, none⟩ v3).heap[b]? = some (.cells #[v0, v1, v2, v3] t (0, 0)) := by
  have h0 := heap_setCell_same w b 0 _ _ v0 h
  have h1 := heap_setCell_same _ b 1 _ _ v1 h0
  have h2 := heap_setCell_same _ b 2 _ _ v2 h1
  have h3 := heap_setCell_same _ b 3 _ _ v3 h2
  simpa using h3
set_option maxRecDepth 100000 in
set_option maxHeartbeats 8000000 in
theorem plays_law (every : Int) (v : Value) (l : List ActS) (fv : Value) (fs : List Fil) (f t : Int) (nm : Str) (lv : Value) (r : RowS) (W : World) (T : Tabs W) (_ : (Lit.int .i64 every).wf = true)
    (hA : RdA W W.heap.size v l) (hz : Nz v) (hs : ∀ a ∈ l, a.rows.length ≤ 140737488355328 ∧ TxA a) (hF : RdF W W.heap.size fv fs) (hzf : Nz fv) (hRl : RdL W W.heap.size lv r.1) (hzl : Nz lv) (hfx : ∀ f ∈ fs, TxF f) (htx : TxL r.1) :
    Calls Tryz.prog 6 #[.int .i64 every, v, .agg #[fv, .int .i64 f, .int .i64 t, vT nm, lv, .int .i64 r.2.1, .int .i64 r.2.2.1, .int .i64 r.2.2.2.1, .int .i64 r.2.2.2.2]] W fun e w' => e = .returned (.bool true) ∧ Below W.heap.size W w' := by
  obtain ⟨rl, rt, rm, rx, rz⟩ := r
  simp only at *
  have HTX := Lib.hid (And.intro hfx htx)
  have HS := Lib.hid hs
  have HTB := Lib.hid T
  obtain ⟨xn, hxn⟩ : ∃ x : ByteArray, x = ⟨nm.toArray⟩ := ⟨_, rfl⟩
  have exn : vT nm = .string xn := by rw [hxn]; rfl
  have HXN := Lib.hid exn
  rw [exn]
  obtain ⟨W1, hW1⟩ : ∃ W1, W1 = W.alloc (.cells #[fv, .int .i64 f, .int .i64 t, .string xn, lv, .int .i64 rt, .int .i64 rm, .int .i64 rx, .int .i64 rz] 30) := ⟨_, rfl⟩
  have HB1 : Hid (Below W.heap.size W W1) := by show Below _ _ _; rw [hW1]; exact (Below.refl _ _).alloc (Nat.le_refl _) _
  have hsz : W.heap.size < W1.heap.size := by rw [hW1]; simp
  have hbk : W1.heap[W.heap.size]? = some (.cells #[fv, .int .i64 f, .int .i64 t, .string xn, lv, .int .i64 rt, .int .i64 rm, .int .i64 rx, .int .i64 rz] 30 (0, 0)) := by rw [hW1]; exact heap_alloc_new _ _
  have KC : Hid (∀ w : World, w.heap[W.heap.size]? = W1.heap[W.heap.size]? → (w.cell? ⟨W.heap.size, 0, none⟩ = some fv ∧ w.cell? ⟨W.heap.size, 1, none⟩ = some (.int .i64 f) ∧ w.cell? ⟨W.heap.size, 2, none⟩ = some (.int .i64 t)) ∧ w.cell? ⟨W.heap.size, 3, none⟩ = some (.string xn) ∧ w.cell? ⟨W.heap.size, 4, none⟩ = some lv ∧ w.cell? ⟨W.heap.size, 5, none⟩ = some (.int .i64 rt) ∧ w.cell? ⟨W.heap.size, 6, none⟩ = some (.int .i64 rm) ∧ w.cell? ⟨W.heap.size, 7, none⟩ = some (.int .i64 rx) ∧ w.cell? ⟨W.heap.size, 8, none⟩ = some (.int .i64 rz)) := fun w h => by
    have q : ∀ i, w.cell? ⟨W.heap.size, i, none⟩ = (#[fv, .int .i64 f, .int .i64 t, .string xn, lv, .int .i64 rt, .int .i64 rm, .int .i64 rx, .int .i64 rz] : Array Value)[i]? := fun i => by rw [cell_of_block h]; simp [World.cell?, hbk]
    exact ⟨⟨q 0, q 1, q 2⟩, q 3, q 4, q 5, q 6, q 7, q 8⟩
  have KW := Lib.hid (awake_walkO W1 (T.below HB1.out))
  have HA0 := Lib.hid hA
  have HZ := Lib.hid hz
  obtain ⟨A, c, rfl, hc, hAA⟩ := id hA
  obtain ⟨FA, fc, rfl, _, _⟩ := id hF
  obtain ⟨LA, lc, rfl, _, _⟩ := id hRl
  obtain ⟨n, hn⟩ : ∃ n, n = l.length := ⟨_, rfl⟩
  obtain ⟨fn, hfn⟩ : ∃ fn, fn = fs.length := ⟨_, rfl⟩
  obtain ⟨ln, hln⟩ : ∃ ln, ln = List.length rl := ⟨_, rfl⟩
  rw [← hn] at HA0 HZ ⊢
  rw [← hfn] at hF hzf hW1 hbk KC ⊢
  rw [← hln] at hRl hzl hW1 hbk KC ⊢
  have HAA := Lib.hid hAA
  have HN := Lib.hid hn
  have HF := Lib.hid hF
  have HZF := Lib.hid hzf
  have HR := Lib.hid hRl
  have HZL := Lib.hid hzl
  have HFN := Lib.hid hfn
  have HLN := Lib.hid hln
  have HSZ := Lib.hid hsz
  clear T hA hz hs hF hzf hRl hzl hfx htx hxn exn hsz hbk hc hAA hn hfn hln
  go_enter Tryz.func6, Tryz.ntmps6
  go_wp2_with fail
  rw [← hW1]
  clear hW1
  refine KW.out.mono ?_
  rintro e w2 ⟨rfl, hB2⟩
  have HB2 : Hid (Below W.heap.size W w2) := HB1.out.trans (hB2.mono HB1.out.size)
  have HK2 : Hid (w2.heap[W.heap.size]? = W1.heap[W.heap.size]?) := hB2.block _ HSZ.out
  have HS2 : Hid (W.heap.size < w2.heap.size) := Nat.lt_of_lt_of_le HSZ.out hB2.size
  have KF := Lib.hid (few_walk _ _ w2 ((HA0.out.below HB2.out).mono HB2.out.size) (fun a ha => (HS.out a ha).1))
  clear hB2 KW
  go_wp2_with fail
  refine KF.out.mono ?_
  rintro e w3 ⟨⟨q, rfl, hq⟩, hE3⟩
  have HB3 : Hid (Below W.heap.size W w3) := HB2.out.trans (hE3.below.mono HB2.out.size)
  have HK3 : Hid (w3.heap[W.heap.size]? = W1.heap[W.heap.size]?) := (hE3.below.block _ HS2.out).trans HK2.out
  have HS3 : Hid (W.heap.size < w3.heap.size) := Nat.lt_of_lt_of_le HS2.out hE3.size
  have HQ := Lib.hid hq
  clear hq hE3 KF HB2 HK2 HS2
  obtain ⟨⟨b0, b1, b2⟩, b3, b4, b5, b6, b7, b8⟩ := KC.out w3 HK3.out
  cases q with
  | false =>
    go_wp2_with fail
    go_ret
    exact ⟨rfl, HB3.out⟩
  | true =>
    have HFA := Lib.hid (HQ.out rfl)
    have hn20 : n ≤ 20 := by rw [HN.out]; exact HFA.out.len
    clear HQ
    by_cases h8 : fn ≤ 8
    case neg =>
      have g8 : ¬ (fn : Int) ≤ 8 := by omega
      go_wp2_with fail
      go_ret
      exact ⟨rfl, HB3.out⟩
    by_cases h9 : ln ≤ 8
    case neg =>
      have g8 : (fn : Int) ≤ 8 := by omega
      have g9 : ¬ (ln : Int) ≤ 8 := by omega
      go_wp2_with fail
      go_ret
      exact ⟨rfl, HB3.out⟩
    have g8 : (fn : Int) ≤ 8 := by omega
    have g9 : (ln : Int) ≤ 8 := by omega
    obtain ⟨kp, hkp⟩ : ∃ kp, IntKind.i64.wrap (t - f) = kp := ⟨_, rfl⟩
    have KN := Lib.hid (both_new (P := fun k => k = W.heap.size) (W := W) every kp (fun k e => by have e : k = W.heap.size := e; rw [e]; exact HS3.out) HB3.out)
    clear h8 h9
    go_wp2_with fail
    refine KN.out.mono ?_
    rintro e w4 ⟨o, rfl, hb4, hB4⟩
    have HB4 : Hid (Below W.heap.size W w4) := HB3.out.trans (hB4.mono HB3.out.size)
    have HK4 : Hid (w4.heap[W.heap.size]? = W1.heap[W.heap.size]?) := (hB4.block _ HS3.out).trans HK3.out
    have HBo := Lib.hid hb4
    have KR := Lib.hid (ref_new every kp w4)
    clear hb4 hB4 KN HB3 HK3 b0 b1 b2 b3 b4 b5 b6 b7 b8
    unfold vO at KR
    go_wp2_with fail
    refine KR.out.mono ?_
    rintro e w5 ⟨rfl, hE5⟩
    obtain ⟨kq, hkq⟩ : ∃ kq, kq = keepN kp := ⟨_, rfl⟩
    rw [← hkq] at HBo ⊢
    have HB5 : Hid (Below W.heap.size W w5) := HB4.out.trans (hE5.below.mono HB4.out.size)
    have HK5 : Hid (w5.heap[W.heap.size]? = W1.heap[W.heap.size]?) := ((HBo.out.stands hE5.below) _ rfl).trans HK4.out
    have HBp := Lib.hid (HBo.out.on hE5.below)
    obtain ⟨w6, hw6⟩ : ∃ w6, w6 = w5.alloc (.cells #[.int .i64 every, .int .i64 kq, .int .i64 0, .slice none 0 0] 65) := ⟨_, rfl⟩
    have hx6 : Below w5.heap.size w5 w6 := by rw [hw6]; exact (Below.refl _ _).alloc (Nat.le_refl _) _
    have HB6 : Hid (Below W.heap.size W w6) := HB5.out.trans (hx6.mono HB5.out.size)
    have hs5 : W.heap.size < w5.heap.size := (by obtain ⟨_, _, _, _, _, _, _, _, _, h6⟩ := HBp.out; exact (h6 _ rfl).1)
    have HK6 : Hid (w6.heap[W.heap.size]? = W1.heap[W.heap.size]?) := (hx6.block _ hs5).trans HK5.out
    obtain ⟨bw, hbw⟩ : ∃ bw, bw = w5.heap.size := ⟨_, rfl⟩
    obtain ⟨P, hP⟩ : ∃ P : Nat → Prop, P = fun k => k = W.heap.size ∨ k = bw := ⟨_, rfl⟩
    have HBb : Hid (Both P W w6 o (.slice none 0 0) every kq 0 [] []) := HBp.out.to hx6 (fun i hi => by
      rw [hP] at hi
      rcases hi with hi | hi
      · exact .inl hi
      · refine .inr ⟨by omega, ?_⟩
        rw [hi, hbw, hw6]; simp)
    have HP1 : Hid (P W.heap.size) := by show P _; rw [hP]; exact .inl rfl
    have HP2 : Hid (P bw) := by show P _; rw [hP]; exact .inr rfl
    have HPO : Hid (∀ k, P k → k = W.heap.size ∨ k = bw) := fun k hk => by rw [hP] at hk; exact hk
    have HBX : Hid (w6.heap[bw]? = some (.cells #[.int .i64 every, .int .i64 kq, .int .i64 0, .slice none 0 0] 65 (0, 0))) := by show _ = _; rw [hbw, hw6]; exact heap_alloc_new _ _
    have HNE : Hid (bw ≠ W.heap.size) := by show _ ≠ _; omega
    have HBW : Hid (W.heap.size ≤ bw) := by show _ ≤ _; omega
    clear hE5 hx6 hs5 hP KR HBo HBp HB4 HB5 HK4 HK5 hkp hkq
    go_wp2_with fail
    rw [← hw6, ← hbw]
    clear hw6 hbw
    go_loopw [12, 13, 14] (fun iv _ _ wl => ∃ (k : Nat) (v' : Value), k ≤ n ∧ iv = .int .i64 k ∧ Hid (Both P W wl o v' every kq (playS kq (l.take k)).1 (playS kq (l.take k)).2 (playS kq (l.take k)).2) ∧ Hid (wl.heap[bw]? = some (.cells #[.int .i64 every, .int .i64 kq, .int .i64 (playS kq (l.take k)).1, v'] 65 (0, 0))) ∧ Hid (wl.heap[W.heap.size]? = W1.heap[W.heap.size]?) ∧ Hid (Below W.heap.size W wl))
      (fun iv _ _ _ => n - (intOf iv).toNat)
    case atStart => exact ⟨0, _, Nat.zero_le _, rfl, HBb.out, HBX.out, HK6.out, HB6.out⟩
    case round =>
      obtain ⟨k, v', hk, rfl, HBb, HBX, HK, HB⟩ := hrel
      by_cases hlt : k < n
      · have hl2 : k < l.length := by rw [← HN.out]; exact hlt
        rcases HAA.out with h0 | ⟨b, o2, e, hb, hcl⟩
        · rw [h0] at hl2; simp at hl2
        subst e
        obtain ⟨y, hy⟩ : ∃ y, y = l[k] := ⟨_, rfl⟩
        obtain ⟨rv, fv, c0, c1, c2, c3, hrv, _, hfv, _⟩ : ActAt W W.heap.size b (o2 + k * 4) y := by rw [hy]; exact hcl k hl2
        have hty := (HS.out y (by rw [hy]; exact List.getElem_mem hl2)).2
        have HTK : Hid (playS kq (l.take (k + 1)) = stepA kq (playS kq (l.take k)) y) := play_take hl2 hy
        have hpf := play_few HFA.out kq k
        obtain ⟨Q, hQ⟩ : ∃ Q, Q = playS kq (l.take k) := ⟨_, rfl⟩
        rw [← hQ] at HBb HBX HTK hpf
        obtain ⟨now, Rk⟩ := Q
        simp only at HBb HBX hpf
        obtain ⟨⟨nx, Rx⟩, hst⟩ : ∃ q2, q2 = stepA kq (now, Rk) y := ⟨_, rfl⟩
        rw [← hst] at HTK
        have KD : Hid (∀ P2 w v2, Both P2 W w o v2 every kq now Rk Rk → Below W.heap.size W w → Calls Tryz.prog 21 #[.pointer (some ⟨o, 0, none⟩), .agg #[.int .i64 every, .int .i64 kq, .int .i64 now, v2], .agg #[.int .i64 y.kind, rv, fv, .int .i64 y.now]] w fun e w' => ∃ v', e = .returned (.tuple #[.agg #[.int .i64 every, .int .i64 kq, .int .i64 nx, v'], .bool true]) ∧ Both P2 W w' o v' every kq nx Rx Rx ∧ Keep P2 w w' ∧ Below W.heap.size W w') := fun P2 w v2 h1 h2 => by
          have h3 := done_walk h1 h2 y rv fv hrv hfv hty (by have := hpf.1; omega) hpf.2.1
          rw [← hst] at h3
          exact h3
        have KA : Hid (∀ w, Below W.heap.size W w → w.cell? ⟨b, o2 + k * 4, none⟩ = some (.int .i64 y.kind) ∧ w.cell? ⟨b, o2 + k * 4 + 1, none⟩ = some rv ∧ w.cell? ⟨b, o2 + k * 4 + 2, none⟩ = some fv ∧ w.cell? ⟨b, o2 + k * 4 + 3, none⟩ = some (.int .i64 y.now)) := fun w h => ⟨(h.cell hb).trans c0, (h.cell hb).trans c1, (h.cell hb).trans c2, (h.cell hb).trans c3⟩
        obtain ⟨VA, vc, rfl⟩ := HBb.out.form
        obtain ⟨vn, hvn⟩ : ∃ vn, vn = (rS Rk).length := ⟨_, rfl⟩
        rw [← hvn] at HBb HBX
        obtain ⟨RA, rc, hrve, _, _⟩ := id hrv
        obtain ⟨FA2, fc2, hfve, _, _⟩ := id hfv
        obtain ⟨rn, hrn⟩ : ∃ rn, rn = y.rows.length := ⟨_, rfl⟩
        obtain ⟨fn2, hfn2⟩ : ∃ fn2, fn2 = y.fs.length := ⟨_, rfl⟩
        rw [← hrn] at hrve
        rw [← hfn2] at hfve
        have HPF := Lib.hid hpf
        clear hy hcl c0 c1 c2 c3 hrv hfv hty hpf hQ hst hvn hrn hfn2 hl2
        subst hrve hfve
        have i1 : (k : Int) < (n : Int) := by omega
        have HLT : Hid (k + 1 ≤ n) := hlt
        have HCW : Hid (∀ w', Keep P wr w' → Below W.heap.size W w' → ((w'.cell? ⟨bw, 0, none⟩ = some (.int .i64 every) ∧ w'.cell? ⟨bw, 1, none⟩ = some (.int .i64 kq) ∧ w'.cell? ⟨bw, 2, none⟩ = some (.int .i64 now) ∧ w'.cell? ⟨bw, 3, none⟩ = some (.slice VA vn vc)) ∧ w'.cell? ⟨b, o2 + k * 4, none⟩ = some (.int .i64 y.kind) ∧ w'.cell? ⟨b, o2 + k * 4 + 1, none⟩ = some (.slice RA rn rc) ∧ w'.cell? ⟨b, o2 + k * 4 + 2, none⟩ = some (.slice FA2 fn2 fc2) ∧ w'.cell? ⟨b, o2 + k * 4 + 3, none⟩ = some (.int .i64 y.now)) ∧ Keep P wr w' ∧ Below W.heap.size W w') := fun w' h1 h2 => by
          have q : ∀ i, w'.cell? ⟨bw, i, none⟩ = (#[.int .i64 every, .int .i64 kq, .int .i64 now, .slice VA vn vc] : Array Value)[i]? := fun i => by rw [h1.cell HP2.out]; simp [World.cell?, HBX.out]
          exact ⟨⟨⟨q 0, q 1, q 2, q 3⟩, KA.out w' h2⟩, h1, h2⟩
        have hd : Below wr.heap.size wr wr.drew := (Below.refl _ _).drew
        have hk0 : Keep P wr wr.drew := HBb.out.stands hd
        have hb0 : Below W.heap.size W wr.drew := HB.out.trans (hd.mono HB.out.size)
        have HBd := Lib.hid (HBb.out.on hd)
        go_wp2_with fail
        refine wp_region_held_drew (S := fun w' => ((w'.cell? ⟨bw, 0, none⟩ = some (.int .i64 every) ∧ w'.cell? ⟨bw, 1, none⟩ = some (.int .i64 kq) ∧ w'.cell? ⟨bw, 2, none⟩ = some (.int .i64 now) ∧ w'.cell? ⟨bw, 3, none⟩ = some (.slice VA vn vc)) ∧ w'.cell? ⟨b, o2 + k * 4, none⟩ = some (.int .i64 y.kind) ∧ w'.cell? ⟨b, o2 + k * 4 + 1, none⟩ = some (.slice RA rn rc) ∧ w'.cell? ⟨b, o2 + k * 4 + 2, none⟩ = some (.slice FA2 fn2 fc2) ∧ w'.cell? ⟨b, o2 + k * 4 + 3, none⟩ = some (.int .i64 y.now)) ∧ Keep P wr w' ∧ Below W.heap.size W w') (by kernel_rfl) ?_ (fun hHeld => ?_)
        · (try dsimp only)
          exact HCW.out _ hk0 hb0
        refine takeW (i := 0) (v := ?_) rfl (by kernel_rfl) (by kernel_rfl) (by kernel_rfl) (fun _ _ _ h => h) (by rfl) ?_ (by assumption) ?_
        rotate_left
        · (intro w hSw; (try dsimp only at hSw); go_simp; try with_reducible rfl)
        simp only [Act.put, sA, sZ, sS]
        refine takeW (i := 1) (v := ?_) rfl (by kernel_rfl) (by kernel_rfl) (by kernel_rfl) (fun _ _ _ h => h) (by rfl) ?_ (by assumption) ?_
        rotate_left
        · (intro w hSw; (try dsimp only at hSw); go_simp; try with_reducible rfl)
        simp only [Act.put, sA, sZ, sS]
        refine takeW (i := 2) (v := ?_) rfl (by kernel_rfl) (by kernel_rfl) (by kernel_rfl) (fun _ _ _ h => h) (by rfl) ?_ (by assumption) ?_
        rotate_left
        · (intro w hSw; (try dsimp only at hSw); go_simp; try with_reducible rfl)
        simp only [Act.put, sA, sZ, sS]
        refine takeW (i := 3) (v := ?_) rfl (by kernel_rfl) (by kernel_rfl) (by kernel_rfl) (fun _ _ _ h => h) (by rfl) ?_ (by assumption) ?_
        rotate_left
        · (intro w hSw; (try dsimp only at hSw); go_simp; try with_reducible rfl)
        simp only [Act.put, sA, sZ, sS]
        refine takeW (i := 4) (v := ?_) rfl (by kernel_rfl) (by kernel_rfl) (by kernel_rfl) (fun _ _ _ h => h) (by rfl) ?_ (by assumption) ?_
        rotate_left
        · (intro w hSw; (try dsimp only at hSw); go_simp; try with_reducible rfl)
        simp only [Act.put, sA, sZ, sS]
        refine takeW (i := 5) (v := ?_) rfl (by kernel_rfl) (by kernel_rfl) (by kernel_rfl) (fun _ _ _ h => h) (by rfl) ?_ (by assumption) ?_
        rotate_left
        · (intro w hSw; (try dsimp only at hSw); go_simp; try with_reducible rfl)
        simp only [Act.put, sA, sZ, sS]
        refine wpAnyH_ready (rs := [6, 10]) (by kernel_rfl) (by simp) (AllReadyH.cons (get_drop (i := 6) rfl) (fun K hK => ?_) (AllReadyH.cons (get_drop (i := 10) rfl) (fun K hK => ?_) AllReadyH.nil))
        · rw [if_pos (by rfl)]
          go_simp
          refine (KD.out P _ _ HBd.out hb0).mono ?_
          rintro e w7 ⟨v7, rfl, hB7, hk7', hw7⟩
          obtain ⟨A7, c7, rfl⟩ := hB7.form
          obtain ⟨n7, hn7⟩ : ∃ n7, n7 = (rS Rx).length := ⟨_, rfl⟩
          rw [← hn7] at hB7 ⊢
          clear hn7
          have hk7 := hk0.trans hk7'
          have hal := alloc_both hB7 hk7 hw7
          try go_wp2_with fail
          refine hK.out _ _ ?_ (fun hHeld => ?_)
          · (try dsimp only)
            exact HCW.out _ hk7 hw7
          clear hK K
          try simp only [Act.put, sA, sZ, sS]
          refine takeW (i := 7) (v := ?_) rfl (by kernel_rfl) (by kernel_rfl) (by kernel_rfl) (fun _ _ _ h => h) (by rfl) ?_ (by assumption) ?_
          rotate_left
          · (intro w hSw; (try dsimp only at hSw); go_simp; try with_reducible rfl)
          simp only [Act.put, sA, sZ, sS]
          refine takeW (i := 8) (v := ?_) rfl (by kernel_rfl) (by kernel_rfl) (by kernel_rfl) (fun _ _ _ h => h) (by rfl) ?_ (by assumption) ?_
          rotate_left
          · (intro w hSw; (try dsimp only at hSw); go_simp; try with_reducible rfl)
          simp only [Act.put, sA, sZ, sS]
          refine takeW (i := 9) (v := ?_) rfl (by kernel_rfl) (by kernel_rfl) (by kernel_rfl) (fun _ _ _ h => h) (by rfl) ?_ (by assumption) ?_
          rotate_left
          · (intro w hSw; (try dsimp only at hSw); go_simp; try with_reducible rfl)
          simp only [Act.put, sA, sZ, sS]
          refine takeC (i := 10) rfl (by kernel_rfl) (by rfl) (fun K hK => ?_)
          go_simp
          refine hK.out _ _ ?_ (fun hHeld => ?_)
          · (try dsimp only)
            exact HCW.out _ (hal _).1 (hal _).2
          clear hK K
          try simp only [Act.put, sA, sZ, sS]
          refine takeC (i := 11) rfl (by kernel_rfl) (by rfl) (fun K hK => ?_)
          go_simp
          refine hK.out _ _ ?_ (fun hHeld => ?_)
          · (try dsimp only)
            exact HCW.out _ (hal _).1 (hal _).2
          clear hK K
          try simp only [Act.put, sA, sZ, sS]
          refine takeW (i := 12) (v := ?_) rfl (by kernel_rfl) (by kernel_rfl) (by kernel_rfl) (fun _ _ _ h => h) (by rfl) ?_ (by assumption) ?_
          rotate_left
          · (intro w hSw; (try dsimp only at hSw); go_simp; try with_reducible rfl)
          simp only [Act.put, sA, sZ, sS]
          refine wpAnyH_done (by kernel_rfl) ?_ _
          obtain ⟨w8, hw8⟩ : ∃ w8, w8 = w7.alloc (.cells #[.int .i64 every, .int .i64 kq, .int .i64 nx, .slice A7 n7 c7] 65) := ⟨_, rfl⟩
          obtain ⟨xb, hxb⟩ : ∃ xb, xb = w7.heap.size := ⟨_, rfl⟩
          have hX8 : w8.heap[xb]? = some (.cells #[.int .i64 every, .int .i64 kq, .int .i64 nx, .slice A7 n7 c7] 65 (0, 0)) := by rw [hw8, hxb]; exact heap_alloc_new _ _
          have hB8 : Both P W w8 o (.slice A7 n7 c7) every kq nx Rx Rx := hB7.on (by rw [hw8]; exact (Below.refl _ _).alloc (Nat.le_refl _) _)
          have hk8 : Keep P wr w8 := by rw [hw8]; exact (hal _).1
          have hW8 : Below W.heap.size W w8 := by rw [hw8]; exact (hal _).2
          have hxn : xb ≠ bw := by
            obtain ⟨_, _, _, _, _, _, _, _, _, h6⟩ := hB7
            have := (h6 _ HP2.out).1
            omega
          (try rw [← hw8])
          (try rw [← hxb])
          (try clear hal)
          (try clear hw8)
          (try clear hxb)
          have HBX8 : Hid (w8.heap[bw]? = some (.cells #[.int .i64 every, .int .i64 kq, .int .i64 now, .slice VA vn vc] 65 (0, 0))) := (hk8 bw HP2.out).trans HBX.out
          have HK8 : Hid (w8.heap[W.heap.size]? = W1.heap[W.heap.size]?) := (hk8 _ HP1.out).trans HK.out
          obtain ⟨⟨x0, x1, x2, x3⟩, _⟩ := cells4 hX8
          obtain ⟨⟨y0, y1, y2, y3⟩, y4⟩ := cells4 HBX8.out
          obtain ⟨w9, hw9⟩ : ∃ w9, w9 = ((((w8.setCell ⟨bw, 0, none⟩ (.int .i64 every)).setCell ⟨bw, 1, none⟩ (.int .i64 kq)).setCell ⟨bw, 2, none⟩ (.int .i64 nx)).setCell ⟨bw, 3, none⟩ (.slice A7 n7 c7)) := ⟨_, rfl⟩
          have hc9 : Chg (fun k => k = bw) w8 w9 := by
            rw [hw9]
            repeat (first | exact Chg.refl_ _ | refine Chg.set ?_ _ (by dsimp only) _)
          have HB9 : Hid (Both P W w9 o (.slice A7 n7 c7) every kq nx Rx Rx) := hB8.turn (hc9.mono fun x _ e => by rw [e]; exact HP2.out)
          have HBX9 : Hid (w9.heap[bw]? = some (.cells #[.int .i64 every, .int .i64 kq, .int .i64 nx, .slice A7 n7 c7] 65 (0, 0))) := by
            show _ = _
            rw [hw9]; exact set4 HBX8.out
          have HW9 : Hid (Below W.heap.size W w9) := hW8.trans (hc9.below hW8.size fun x e => by rw [e]; exact HBW.out)
          have HK9 : Hid (w9.heap[W.heap.size]? = W1.heap[W.heap.size]?) := (hc9.block _ (by have := hW8.size; obtain ⟨_, _, _, _, _, _, _, _, _, h6⟩ := hB8; exact (h6 _ HP1.out).1) (fun e => HNE.out e.symm)).trans HK8.out
          have HWE9 := Lib.hid hw9
          have HXN9 := Lib.hid hxn
          clear hX8 hB8 hk8 hW8 hc9 hw9 hxn HBX8 HK8 HB HK HBX HBb HCW HBd KD KA hd hk0 hb0
          go_wp2_with fail
          rw [← HWE9.out]
          clear x0 x1 x2 x3 y0 y1 y2 y3 y4
          obtain ⟨p, hp⟩ : ∃ p, p = takesR kq nx (rl, rt, rm, rx, rz) := ⟨_, rfl⟩
          have KNw : Hid (∀ w', Below w9.heap.size w9 w' → Calls Tryz.prog 18 #[.pointer (some ⟨o, 0, none⟩)] w' fun e w'' => e = .returned (.int .i64 nx) ∧ Below w9.heap.size w9 w'') := fun w' h => (liv_now (HB9.out.on h).liv).mono fun _ _ ⟨h1, h2⟩ => ⟨h1, h2 ▸ h⟩
          have KT1 : Hid (∀ w', Below w9.heap.size w9 w' → Calls Tryz.prog 22 #[.pointer (some ⟨o, 0, none⟩), .agg #[.slice LA ln lc, .int .i64 rt, .int .i64 rm, .int .i64 rx, .int .i64 rz]] w' fun e w'' => e = .returned (.bool p) ∧ Below w9.heap.size w9 w'') := fun w' h => by
            have h9 := HW9.out.trans (h.mono HW9.out.size)
            refine (liv_takes (HB9.out.on h).liv (.slice LA ln lc) rl (rt, rm, rx, rz) ((HR.out.below h9).mono h9.size) HZL.out).mono fun _ _ ⟨h1, h2⟩ => ⟨?_, h.trans (h2.mono h.size)⟩
            rw [hp]; exact h1
          have KT2 : Hid (∀ w', Below w9.heap.size w9 w' → Calls Tryz.prog 23 #[.agg #[.int .i64 every, .int .i64 kq, .int .i64 nx, .slice A7 n7 c7], .agg #[.slice LA ln lc, .int .i64 rt, .int .i64 rm, .int .i64 rx, .int .i64 rz]] w' fun e w'' => e = .returned (.bool p) ∧ Below w9.heap.size w9 w'') := fun w' h => by
            have h9 := HW9.out.trans (h.mono HW9.out.size)
            refine (ref_takes every kq nx A7 n7 c7 (.slice LA ln lc) rl (rt, rm, rx, rz) w' ((HR.out.below h9).mono h9.size) HTX.out.2 HB9.out.bd).mono fun _ _ ⟨h1, h2⟩ => ⟨?_, h.trans (h2.below.mono h.size)⟩
            rw [hp]; exact h1
          have HCW2 : Hid (∀ w', Below w9.heap.size w9 w' → (((w'.cell? ⟨bw, 0, none⟩ = some (.int .i64 every) ∧ w'.cell? ⟨bw, 1, none⟩ = some (.int .i64 kq) ∧ w'.cell? ⟨bw, 2, none⟩ = some (.int .i64 nx) ∧ w'.cell? ⟨bw, 3, none⟩ = some (.slice A7 n7 c7)) ∧ w'.cell? ⟨W.heap.size, 4, none⟩ = some (.slice LA ln lc) ∧ w'.cell? ⟨W.heap.size, 5, none⟩ = some (.int .i64 rt) ∧ w'.cell? ⟨W.heap.size, 6, none⟩ = some (.int .i64 rm) ∧ w'.cell? ⟨W.heap.size, 7, none⟩ = some (.int .i64 rx) ∧ w'.cell? ⟨W.heap.size, 8, none⟩ = some (.int .i64 rz)) ∧ Below w9.heap.size w9 w')) := fun w' h => by
            obtain ⟨_, _, q4, q5, q6, q7, q8⟩ := KC.out w' ((HB9.out.stands h _ HP1.out).trans HK9.out)
            have hq : w'.heap[bw]? = some (.cells #[.int .i64 every, .int .i64 kq, .int .i64 nx, .slice A7 n7 c7] 65 (0, 0)) := (HB9.out.stands h _ HP2.out).trans HBX9.out
            exact ⟨⟨(cells4 hq).1, q4, q5, q6, q7, q8⟩, h⟩
          have hd9 : Below w9.heap.size w9 w9.drew := (Below.refl _ _).drew
          obtain ⟨⟨⟨z0, z1, z2, z3⟩, z4, z5, z6, z7, z8⟩, _⟩ := HCW2.out _ hd9
          clear hp
          go_wp2_with fail
          go_region_held3 (fun w' => (((w'.cell? ⟨bw, 0, none⟩ = some (.int .i64 every) ∧ w'.cell? ⟨bw, 1, none⟩ = some (.int .i64 kq) ∧ w'.cell? ⟨bw, 2, none⟩ = some (.int .i64 nx) ∧ w'.cell? ⟨bw, 3, none⟩ = some (.slice A7 n7 c7)) ∧ w'.cell? ⟨W.heap.size, 4, none⟩ = some (.slice LA ln lc) ∧ w'.cell? ⟨W.heap.size, 5, none⟩ = some (.int .i64 rt) ∧ w'.cell? ⟨W.heap.size, 6, none⟩ = some (.int .i64 rm) ∧ w'.cell? ⟨W.heap.size, 7, none⟩ = some (.int .i64 rx) ∧ w'.cell? ⟨W.heap.size, 8, none⟩ = some (.int .i64 rz)) ∧ Below w9.heap.size w9 w'))
            (first | assumption | exact HCW2.out _ hd9 | exact HCW2.out _ (by assumption))
            (first
              | (go_at_call 18; refine (KNw.out _ hd9).mono ?_; rintro e wa ⟨rfl, hba⟩)
              | (go_at_call 22; refine (KT1.out _ hba).mono ?_; rintro e wb ⟨rfl, hbb⟩)
              | (go_at_call 23; refine (KT2.out _ hbb).mono ?_; rintro e wc ⟨rfl, hbc⟩))
          all_goals (
            have HBc := Lib.hid (HB9.out.on hbc)
            have HKc : Hid (wc.heap[W.heap.size]? = W1.heap[W.heap.size]?) := (HB9.out.stands hbc _ HP1.out).trans HK9.out
            have HBXc : Hid (wc.heap[bw]? = some (.cells #[.int .i64 every, .int .i64 kq, .int .i64 nx, .slice A7 n7 c7] 65 (0, 0))) := (HB9.out.stands hbc _ HP2.out).trans HBX9.out
            have HWc : Hid (Below W.heap.size W wc) := HW9.out.trans (hbc.mono HW9.out.size)
            clear hba hbb hbc hd9 z0 z1 z2 z3 z4 z5 z6 z7 z8 HB9 HBX9 HW9 HK9 HWE9 HCW2 KNw KT1 KT2
            go_wp2_with fail
            go_roundw
            case rel => exact ⟨k + 1, .slice A7 n7 c7, HLT.out, by go_num, by rw [HTK.out]; exact HBc.out, by rw [HTK.out]; exact HBXc.out, HKc.out, HWc.out⟩
            case measure => have := HLT.out; simp [intOf]; omega)
        · rw [if_pos (by rfl)]
          go_simp
          have hxB : Below wr.heap.size wr (wr.alloc (.cells #[.int .i64 0, .int .i64 0, .int .i64 0, .slice none 0 0] 65)).drew := ((Below.refl _ _).alloc (Nat.le_refl _) _).drew
          obtain ⟨wB, hwB⟩ : ∃ wB, wB = (wr.alloc (.cells #[.int .i64 0, .int .i64 0, .int .i64 0, .slice none 0 0] 65)).drew := ⟨_, rfl⟩
          rw [← hwB] at hxB
          obtain ⟨xb, hxb⟩ : ∃ xb, xb = wr.heap.size := ⟨_, rfl⟩
          obtain ⟨P2, hP2⟩ : ∃ P2 : Nat → Prop, P2 = fun k => P k ∨ k = xb := ⟨_, rfl⟩
          have HBB : Hid (Both P2 W wB o (.slice VA vn vc) every kq now Rk Rk) := HBb.out.to hxB (fun i hi => by
            rw [hP2] at hi
            rcases hi with hi | hi
            · exact .inl hi
            · exact .inr ⟨by omega, by rw [hi, hxb, hwB]; simp [World.drew]⟩)
          have HKB : Hid (Keep P wr wB) := HBb.out.stands hxB
          have HbB : Hid (Below W.heap.size W wB) := HB.out.trans (hxB.mono HB.out.size)
          have HXB : Hid (wB.heap[xb]? = some (.cells #[.int .i64 0, .int .i64 0, .int .i64 0, .slice none 0 0] 65 (0, 0))) := by show _ = _; rw [hwB, hxb]; exact heap_alloc_new _ _
          have HUP2 : Hid (∀ i, P i → P2 i) := fun i hi => by rw [hP2]; exact .inl hi
          have HX2 : Hid (P2 xb) := by show P2 _; rw [hP2]; exact .inr rfl
          have HXNE : Hid (xb ≠ bw) := by
            show _ ≠ _
            obtain ⟨_, _, _, _, _, _, _, _, _, h6⟩ := HBb.out
            have := (h6 _ HP2.out).1
            omega
          have HXP : Hid (∀ i, P i → i ≠ xb) := fun i hi e => by
            obtain ⟨_, _, _, _, _, _, _, _, _, h6⟩ := HBb.out
            have := (h6 _ hi).1
            omega
          have HXW : Hid (W.heap.size ≤ xb) := by show _ ≤ _; rw [hxb]; exact HB.out.size
          rw [← hwB]
          (try rw [← hxb])
          clear hwB hxb hP2 hxB
          refine hK.out _ _ ?_ (fun hHeld => ?_)
          · (try dsimp only)
            exact HCW.out _ HKB.out HbB.out
          clear hK K
          try simp only [Act.put, sA, sZ, sS]
          refine takeC (i := 6) rfl (by kernel_rfl) (by rfl) (fun K hK => ?_)
          go_simp
          refine (KD.out P2 _ _ HBB.out HbB.out).mono ?_
          rintro e w7 ⟨v7, rfl, hB7, hk7', hw7⟩
          obtain ⟨A7, c7, rfl⟩ := hB7.form
          obtain ⟨n7, hn7⟩ : ∃ n7, n7 = (rS Rx).length := ⟨_, rfl⟩
          rw [← hn7] at hB7 ⊢
          clear hn7
          have HK7 : Hid (Keep P wr w7) := HKB.out.trans (fun i hi => hk7' i (HUP2.out i hi))
          have HW7 := Lib.hid hw7
          have HB7 := Lib.hid hB7
          have HX7 : Hid (w7.heap[xb]? = some (.cells #[.int .i64 0, .int .i64 0, .int .i64 0, .slice none 0 0] 65 (0, 0))) := (hk7' xb HX2.out).trans HXB.out
          obtain ⟨⟨x0, x1, x2, x3⟩, x4⟩ := cells4 HX7.out
          clear hw7 hB7 hk7'
          try go_wp2_with fail
          refine hK.out _ _ ?_ (fun hHeld => ?_)
          · (try dsimp only)
            exact HCW.out _ HK7.out HW7.out
          clear hK K
          try simp only [Act.put, sA, sZ, sS]
          refine takeW (i := 7) (v := ?_) rfl (by kernel_rfl) (by kernel_rfl) (by kernel_rfl) (fun _ _ _ h => h) (by rfl) ?_ (by assumption) ?_
          rotate_left
          · (intro w hSw; (try dsimp only at hSw); go_simp; try with_reducible rfl)
          simp only [Act.put, sA, sZ, sS]
          refine takeW (i := 8) (v := ?_) rfl (by kernel_rfl) (by kernel_rfl) (by kernel_rfl) (fun _ _ _ h => h) (by rfl) ?_ (by assumption) ?_
          rotate_left
          · (intro w hSw; (try dsimp only at hSw); go_simp; try with_reducible rfl)
          simp only [Act.put, sA, sZ, sS]
          refine takeW (i := 9) (v := ?_) rfl (by kernel_rfl) (by kernel_rfl) (by kernel_rfl) (fun _ _ _ h => h) (by rfl) ?_ (by assumption) ?_
          rotate_left
          · (intro w hSw; (try dsimp only at hSw); go_simp; try with_reducible rfl)
          simp only [Act.put, sA, sZ, sS]
          obtain ⟨w8, hw8⟩ : ∃ w8, w8 = ((((w7.setCell ⟨xb, 0, none⟩ (.int .i64 every)).setCell ⟨xb, 1, none⟩ (.int .i64 kq)).setCell ⟨xb, 2, none⟩ (.int .i64 nx)).setCell ⟨xb, 3, none⟩ (.slice A7 n7 c7)) := ⟨_, rfl⟩
          have hc8 : Chg (fun k => k = xb) w7 w8 := by
            rw [hw8]
            repeat (first | exact Chg.refl_ _ | refine Chg.set ?_ _ (by dsimp only) _)
          have hB8 : Both P W w8 o (.slice A7 n7 c7) every kq nx Rx Rx := (HB7.out.turn (hc8.mono fun x _ e => by rw [e]; exact HX2.out)).to (Below.refl _ _) (fun i hi => .inl (HUP2.out i hi))
          have hk8 : Keep P wr w8 := HK7.out.trans (fun i hi => hc8.block i (by obtain ⟨_, _, _, _, _, _, _, _, _, h6⟩ := HB7.out; exact (h6 _ (HUP2.out i hi)).1) (HXP.out i hi))
          have hW8 : Below W.heap.size W w8 := HW7.out.trans (hc8.below HW7.out.size fun x e => by rw [e]; exact HXW.out)
          have hX8 : w8.heap[xb]? = some (.cells #[.int .i64 every, .int .i64 kq, .int .i64 nx, .slice A7 n7 c7] 65 (0, 0)) := by
            rw [hw8]; exact set4 HX7.out
          have HWE := Lib.hid hw8
          have HC9 := Lib.hid (And.intro hB8 (And.intro hk8 (And.intro hW8 hX8)))
          clear hw8 hc8 hB8 hk8 hW8 hX8
          refine takeC (i := 11) rfl (by kernel_rfl) (by rfl) (fun K hK => ?_)
          go_simp
          rw [← HWE.out]
          refine hK.out _ _ ?_ (fun hHeld => ?_)
          · (try dsimp only)
            exact HCW.out _ HC9.out.2.1 HC9.out.2.2.1
          clear hK K
          try simp only [Act.put, sA, sZ, sS]
          refine takeW (i := 12) (v := ?_) rfl (by kernel_rfl) (by kernel_rfl) (by kernel_rfl) (fun _ _ _ h => h) (by rfl) ?_ (by assumption) ?_
          rotate_left
          · (intro w hSw; (try dsimp only at hSw); go_simp; try with_reducible rfl)
          simp only [Act.put, sA, sZ, sS]
          refine wpAnyH_done (by kernel_rfl) ?_ _
          have hxn := HXNE.out
          obtain ⟨hB8, hk8, hW8, hX8⟩ := HC9.out
          (try rw [← hw8])
          (try rw [← hxb])
          (try clear hal)
          (try clear hw8)
          (try clear hxb)
          have HBX8 : Hid (w8.heap[bw]? = some (.cells #[.int .i64 every, .int .i64 kq, .int .i64 now, .slice VA vn vc] 65 (0, 0))) := (hk8 bw HP2.out).trans HBX.out
          have HK8 : Hid (w8.heap[W.heap.size]? = W1.heap[W.heap.size]?) := (hk8 _ HP1.out).trans HK.out
          obtain ⟨⟨x0, x1, x2, x3⟩, _⟩ := cells4 hX8
          obtain ⟨⟨y0, y1, y2, y3⟩, y4⟩ := cells4 HBX8.out
          obtain ⟨w9, hw9⟩ : ∃ w9, w9 = ((((w8.setCell ⟨bw, 0, none⟩ (.int .i64 every)).setCell ⟨bw, 1, none⟩ (.int .i64 kq)).setCell ⟨bw, 2, none⟩ (.int .i64 nx)).setCell ⟨bw, 3, none⟩ (.slice A7 n7 c7)) := ⟨_, rfl⟩
          have hc9 : Chg (fun k => k = bw) w8 w9 := by
            rw [hw9]
            repeat (first | exact Chg.refl_ _ | refine Chg.set ?_ _ (by dsimp only) _)
          have HB9 : Hid (Both P W w9 o (.slice A7 n7 c7) every kq nx Rx Rx) := hB8.turn (hc9.mono fun x _ e => by rw [e]; exact HP2.out)
          have HBX9 : Hid (w9.heap[bw]? = some (.cells #[.int .i64 every, .int .i64 kq, .int .i64 nx, .slice A7 n7 c7] 65 (0, 0))) := by
            show _ = _
            rw [hw9]; exact set4 HBX8.out
          have HW9 : Hid (Below W.heap.size W w9) := hW8.trans (hc9.below hW8.size fun x e => by rw [e]; exact HBW.out)
          have HK9 : Hid (w9.heap[W.heap.size]? = W1.heap[W.heap.size]?) := (hc9.block _ (by have := hW8.size; obtain ⟨_, _, _, _, _, _, _, _, _, h6⟩ := hB8; exact (h6 _ HP1.out).1) (fun e => HNE.out e.symm)).trans HK8.out
          have HWE9 := Lib.hid hw9
          have HXN9 := Lib.hid hxn
          clear hX8 hB8 hk8 hW8 hc9 hw9 hxn HBX8 HK8 HB HK HBX HBb HCW HBd KD KA hd hk0 hb0
          go_wp2_with fail
          rw [← HWE9.out]
          clear x0 x1 x2 x3 y0 y1 y2 y3 y4
          obtain ⟨p, hp⟩ : ∃ p, p = takesR kq nx (rl, rt, rm, rx, rz) := ⟨_, rfl⟩
          have KNw : Hid (∀ w', Below w9.heap.size w9 w' → Calls Tryz.prog 18 #[.pointer (some ⟨o, 0, none⟩)] w' fun e w'' => e = .returned (.int .i64 nx) ∧ Below w9.heap.size w9 w'') := fun w' h => (liv_now (HB9.out.on h).liv).mono fun _ _ ⟨h1, h2⟩ => ⟨h1, h2 ▸ h⟩
          have KT1 : Hid (∀ w', Below w9.heap.size w9 w' → Calls Tryz.prog 22 #[.pointer (some ⟨o, 0, none⟩), .agg #[.slice LA ln lc, .int .i64 rt, .int .i64 rm, .int .i64 rx, .int .i64 rz]] w' fun e w'' => e = .returned (.bool p) ∧ Below w9.heap.size w9 w'') := fun w' h => by
            have h9 := HW9.out.trans (h.mono HW9.out.size)
            refine (liv_takes (HB9.out.on h).liv (.slice LA ln lc) rl (rt, rm, rx, rz) ((HR.out.below h9).mono h9.size) HZL.out).mono fun _ _ ⟨h1, h2⟩ => ⟨?_, h.trans (h2.mono h.size)⟩
            rw [hp]; exact h1
          have KT2 : Hid (∀ w', Below w9.heap.size w9 w' → Calls Tryz.prog 23 #[.agg #[.int .i64 every, .int .i64 kq, .int .i64 nx, .slice A7 n7 c7], .agg #[.slice LA ln lc, .int .i64 rt, .int .i64 rm, .int .i64 rx, .int .i64 rz]] w' fun e w'' => e = .returned (.bool p) ∧ Below w9.heap.size w9 w'') := fun w' h => by
            have h9 := HW9.out.trans (h.mono HW9.out.size)
            refine (ref_takes every kq nx A7 n7 c7 (.slice LA ln lc) rl (rt, rm, rx, rz) w' ((HR.out.below h9).mono h9.size) HTX.out.2 HB9.out.bd).mono fun _ _ ⟨h1, h2⟩ => ⟨?_, h.trans (h2.below.mono h.size)⟩
            rw [hp]; exact h1
          have HCW2 : Hid (∀ w', Below w9.heap.size w9 w' → (((w'.cell? ⟨bw, 0, none⟩ = some (.int .i64 every) ∧ w'.cell? ⟨bw, 1, none⟩ = some (.int .i64 kq) ∧ w'.cell? ⟨bw, 2, none⟩ = some (.int .i64 nx) ∧ w'.cell? ⟨bw, 3, none⟩ = some (.slice A7 n7 c7)) ∧ w'.cell? ⟨W.heap.size, 4, none⟩ = some (.slice LA ln lc) ∧ w'.cell? ⟨W.heap.size, 5, none⟩ = some (.int .i64 rt) ∧ w'.cell? ⟨W.heap.size, 6, none⟩ = some (.int .i64 rm) ∧ w'.cell? ⟨W.heap.size, 7, none⟩ = some (.int .i64 rx) ∧ w'.cell? ⟨W.heap.size, 8, none⟩ = some (.int .i64 rz)) ∧ Below w9.heap.size w9 w')) := fun w' h => by
            obtain ⟨_, _, q4, q5, q6, q7, q8⟩ := KC.out w' ((HB9.out.stands h _ HP1.out).trans HK9.out)
            have hq : w'.heap[bw]? = some (.cells #[.int .i64 every, .int .i64 kq, .int .i64 nx, .slice A7 n7 c7] 65 (0, 0)) := (HB9.out.stands h _ HP2.out).trans HBX9.out
            exact ⟨⟨(cells4 hq).1, q4, q5, q6, q7, q8⟩, h⟩
          have hd9 : Below w9.heap.size w9 w9.drew := (Below.refl _ _).drew
          obtain ⟨⟨⟨z0, z1, z2, z3⟩, z4, z5, z6, z7, z8⟩, _⟩ := HCW2.out _ hd9
          clear hp
          go_wp2_with fail
          go_region_held3 (fun w' => (((w'.cell? ⟨bw, 0, none⟩ = some (.int .i64 every) ∧ w'.cell? ⟨bw, 1, none⟩ = some (.int .i64 kq) ∧ w'.cell? ⟨bw, 2, none⟩ = some (.int .i64 nx) ∧ w'.cell? ⟨bw, 3, none⟩ = some (.slice A7 n7 c7)) ∧ w'.cell? ⟨W.heap.size, 4, none⟩ = some (.slice LA ln lc) ∧ w'.cell? ⟨W.heap.size, 5, none⟩ = some (.int .i64 rt) ∧ w'.cell? ⟨W.heap.size, 6, none⟩ = some (.int .i64 rm) ∧ w'.cell? ⟨W.heap.size, 7, none⟩ = some (.int .i64 rx) ∧ w'.cell? ⟨W.heap.size, 8, none⟩ = some (.int .i64 rz)) ∧ Below w9.heap.size w9 w'))
            (first | assumption | exact HCW2.out _ hd9 | exact HCW2.out _ (by assumption))
            (first
              | (go_at_call 18; refine (KNw.out _ hd9).mono ?_; rintro e wa ⟨rfl, hba⟩)
              | (go_at_call 22; refine (KT1.out _ hba).mono ?_; rintro e wb ⟨rfl, hbb⟩)
              | (go_at_call 23; refine (KT2.out _ hbb).mono ?_; rintro e wc ⟨rfl, hbc⟩))
          all_goals (
            have HBc := Lib.hid (HB9.out.on hbc)
            have HKc : Hid (wc.heap[W.heap.size]? = W1.heap[W.heap.size]?) := (HB9.out.stands hbc _ HP1.out).trans HK9.out
            have HBXc : Hid (wc.heap[bw]? = some (.cells #[.int .i64 every, .int .i64 kq, .int .i64 nx, .slice A7 n7 c7] 65 (0, 0))) := (HB9.out.stands hbc _ HP2.out).trans HBX9.out
            have HWc : Hid (Below W.heap.size W wc) := HW9.out.trans (hbc.mono HW9.out.size)
            clear hba hbb hbc hd9 z0 z1 z2 z3 z4 z5 z6 z7 z8 HB9 HBX9 HW9 HK9 HWE9 HCW2 KNw KT1 KT2
            go_wp2_with fail
            go_roundw
            case rel => exact ⟨k + 1, .slice A7 n7 c7, HLT.out, by go_num, by rw [HTK.out]; exact HBc.out, by rw [HTK.out]; exact HBXc.out, HKc.out, HWc.out⟩
            case measure => have := HLT.out; simp [intOf]; omega)
      · have hkn : k = n := by omega
        have i1 : ¬ (k : Int) < (n : Int) := by omega
        have hpf := play_few HFA.out kq k
        rw [hkn, HN.out, List.take_length] at hpf HBb HBX
        obtain ⟨Q, hQ⟩ : ∃ Q, Q = playS kq l := ⟨_, rfl⟩
        rw [← hQ] at HBb HBX hpf
        obtain ⟨now, R⟩ := Q
        simp only at HBb HBX hpf
        obtain ⟨VA, vc, rfl⟩ := HBb.out.form
        obtain ⟨vn, hvn⟩ : ∃ vn, vn = (rS R).length := ⟨_, rfl⟩
        rw [← hvn] at HBb HBX
        have HPF := Lib.hid hpf
        have hFr : RdF wr wr.heap.size (.slice FA fn fc) fs := (HF.out.below HB.out).mono HB.out.size
        have KS1 := liv_ask HBb.out.liv (HTB.out.below HB.out) hFr f t (by have := hpf.1; omega) hpf.2.1
        obtain ⟨cq, hcq⟩ : ∃ cq, cq = checkF fs := ⟨_, rfl⟩
        have KS2 : Hid (∀ w', Below wr.heap.size wr w' → Calls Tryz.prog 24 #[.agg #[.int .i64 every, .int .i64 kq, .int .i64 now, .slice VA vn vc], .slice FA fn fc, .int .i64 f, .int .i64 t] w' fun e w'' => ∃ v, e = .returned (.tuple #[v, .int .i64 cq]) ∧ RdX w'' w''.heap.size v (askS every kq now f t fs R) ∧ Below w'.heap.size w' w'') := fun w' h => by
          refine (ref_ask (every := every) (keep := kq) (now := now) (HBb.out.on h).rd (hFr.on h) HTX.out.1 HBb.out.bd (by have := hpf.1; omega) hpf.2.1).mono ?_
          rintro e w'' ⟨v, h1, h2, _, h4⟩
          exact ⟨v, by rw [hcq]; exact h1, h2, h4⟩
        rw [← hcq] at KS1
        have KS1 := Lib.hid KS1
        obtain ⟨⟨b0, b1, b2⟩, b3, _⟩ := KC.out wr HK.out
        clear hkn hpf hQ hvn hFr hcq hk hlt
        go_wp2_with fail
        refine KS1.out.mono ?_
        rintro e w7 ⟨v1, rfl, hX1, _, hb7⟩
        have HB7 := Lib.hid (HBb.out.on hb7)
        have HW7 : Hid (Below W.heap.size W w7) := HB.out.trans (hb7.mono HB.out.size)
        have HK7 : Hid (w7.heap[W.heap.size]? = W1.heap[W.heap.size]?) := (HBb.out.stands hb7 _ HP1.out).trans HK.out
        have HBX7 : Hid (w7.heap[bw]? = some (.cells #[.int .i64 every, .int .i64 kq, .int .i64 now, .slice VA vn vc] 65 (0, 0))) := (HBb.out.stands hb7 _ HP2.out).trans HBX.out
        have HX1 := Lib.hid hX1
        have KS := Lib.hid (KS2.out w7 hb7)
        obtain ⟨⟨c0, c1, c2⟩, c3, _⟩ := KC.out w7 HK7.out
        obtain ⟨⟨d0, d1, d2, d3⟩, _⟩ := cells4 HBX7.out
        clear hb7 hX1 KS1 KS2 b0 b1 b2 b3 HB HK HBX HBb
        go_wp2_with fail
        refine KS.out.mono ?_
        rintro e w8 ⟨v2, rfl, hX2, hb8⟩
        have HB8 := Lib.hid (HB7.out.on hb8)
        have HW8 : Hid (Below W.heap.size W w8) := HW7.out.trans (hb8.mono HW7.out.size)
        have HK8 : Hid (w8.heap[W.heap.size]? = W1.heap[W.heap.size]?) := (HB7.out.stands hb8 _ HP1.out).trans HK7.out
        have HBX8 : Hid (w8.heap[bw]? = some (.cells #[.int .i64 every, .int .i64 kq, .int .i64 now, .slice VA vn vc] 65 (0, 0))) := (HB7.out.stands hb8 _ HP2.out).trans HBX7.out
        have HX12 := Lib.hid (And.intro (HX1.out.on hb8) hX2)
        clear hb8 hX2 KS c0 c1 c2 c3 d0 d1 d2 d3 HB7 HW7 HK7 HBX7 HX1
        have KSm : Hid (∀ w', Below w8.heap.size w8 w' → Calls Tryz.prog 15 #[v1, v2] w' fun e w'' => e = .returned (.bool true) ∧ Below w8.heap.size w8 w'') := fun w' h => by
          have h1 := sameX_walk v1 v2 _ _ w' (HX12.out.1.on h) (HX12.out.2.on h) (askS_few (by have := HPF.out.1; omega) HPF.out.2.1)
          refine h1.mono fun _ _ ⟨k1, k2⟩ => ⟨?_, h.trans (k2.below.mono h.size)⟩
          rw [k1]; simp
        have KN1 : Hid (∀ w', Below w8.heap.size w8 w' → Calls Tryz.prog 17 #[.pointer (some ⟨o, 0, none⟩)] w' fun e w'' => ∃ r, e = .returned r ∧ RdT w'' w''.heap.size r (namesS R) ∧ Below w8.heap.size w8 w'') := fun w' h => by
          refine (liv_names (HB8.out.on h).liv (by have := HPF.out.1; omega) HPF.out.2.1).mono ?_
          rintro e w'' ⟨r, k1, k2, k3⟩
          exact ⟨r, k1, k2, h.trans (k3.mono h.size)⟩
        have KN2 : Hid (∀ w', Below w8.heap.size w8 w' → Calls Tryz.prog 25 #[.agg #[.int .i64 every, .int .i64 kq, .int .i64 now, .slice VA vn vc]] w' fun e w'' => ∃ r, e = .returned r ∧ RdT w'' w''.heap.size r (namesS R) ∧ Below w8.heap.size w8 w'' ∧ Below w'.heap.size w' w'') := fun w' h => by
          refine (ref_namesR (every := every) (keep := kq) (now := now) (HB8.out.on h).rd (by have := HPF.out.1; omega) HPF.out.2.1 HPF.out.2.2).mono ?_
          rintro e w'' ⟨r, k1, k2, k3⟩
          exact ⟨r, k1, k2, h.trans (k3.mono h.size), k3⟩
        have KV1 : Hid (∀ w', Below w8.heap.size w8 w' → Calls Tryz.prog 19 #[.pointer (some ⟨o, 0, none⟩), .string xn] w' fun e w'' => ∃ r, e = .returned r ∧ RdT w'' w''.heap.size r (valuesS R nm) ∧ Below w8.heap.size w8 w'') := fun w' h => by
          have h1 := liv_values (HB8.out.on h).liv nm (by have := HPF.out.1; omega) HPF.out.2.1
          rw [HXN.out] at h1
          refine h1.mono ?_
          rintro e w'' ⟨r, k1, k2, k3⟩
          exact ⟨r, k1, k2, h.trans (k3.mono h.size)⟩
        have KV2 : Hid (∀ w', Below w8.heap.size w8 w' → Calls Tryz.prog 26 #[.agg #[.int .i64 every, .int .i64 kq, .int .i64 now, .slice VA vn vc], .string xn] w' fun e w'' => ∃ r, e = .returned r ∧ RdT w'' w''.heap.size r (valuesS R nm) ∧ Below w8.heap.size w8 w'' ∧ Below w'.heap.size w' w'') := fun w' h => by
          have h1 := ref_valuesR (every := every) (keep := kq) (now := now) nm (HB8.out.on h).rd (by have := HPF.out.1; omega) HPF.out.2.1 HPF.out.2.2
          rw [HXN.out] at h1
          refine h1.mono ?_
          rintro e w'' ⟨r, k1, k2, k3⟩
          exact ⟨r, k1, k2, h.trans (k3.mono h.size), k3⟩
        have KSt : Hid (∀ w' r1 r2 (la : List Str), Below w8.heap.size w8 w' → la.length ≤ 60000000 → RdT w' w'.heap.size r1 la → RdT w' w'.heap.size r2 la → Calls Tryz.prog 16 #[r1, r2] w' fun e w'' => e = .returned (.bool true) ∧ Below w8.heap.size w8 w'') := fun w' r1 r2 la h hl h1 h2 => by
          have h3 := strings_walk r1 r2 la la w' h1 h2 hl
          refine h3.mono fun _ _ ⟨k1, k2⟩ => ⟨?_, h.trans (k2.below.mono h.size)⟩
          rw [k1]; simp
        have HLn : Hid ((namesS R).length ≤ 60000000) := namesS_few (by have := HPF.out.1; omega) HPF.out.2.1
        have HLv : Hid ((valuesS R nm).length ≤ 60000000) := valuesS_few (by have := HPF.out.1; omega) HPF.out.2.2 nm
        have HCW3 : Hid (∀ w', Below w8.heap.size w8 w' → (((w'.cell? ⟨bw, 0, none⟩ = some (.int .i64 every) ∧ w'.cell? ⟨bw, 1, none⟩ = some (.int .i64 kq) ∧ w'.cell? ⟨bw, 2, none⟩ = some (.int .i64 now) ∧ w'.cell? ⟨bw, 3, none⟩ = some (.slice VA vn vc)) ∧ w'.cell? ⟨W.heap.size, 3, none⟩ = some (.string xn)) ∧ Below w8.heap.size w8 w')) := fun w' h => by
          obtain ⟨_, q3, _⟩ := KC.out w' ((HB8.out.stands h _ HP1.out).trans HK8.out)
          have hq : w'.heap[bw]? = some (.cells #[.int .i64 every, .int .i64 kq, .int .i64 now, .slice VA vn vc] 65 (0, 0)) := (HB8.out.stands h _ HP2.out).trans HBX8.out
          exact ⟨⟨(cells4 hq).1, q3⟩, h⟩
        have hd : Below w8.heap.size w8 w8.drew := (Below.refl _ _).drew
        obtain ⟨⟨⟨z0, z1, z2, z3⟩, z4⟩, _⟩ := HCW3.out _ hd
        have TK : True := trivial
        go_wp2_with fail
        go_region_held3 (fun w' => (((w'.cell? ⟨bw, 0, none⟩ = some (.int .i64 every) ∧ w'.cell? ⟨bw, 1, none⟩ = some (.int .i64 kq) ∧ w'.cell? ⟨bw, 2, none⟩ = some (.int .i64 now) ∧ w'.cell? ⟨bw, 3, none⟩ = some (.slice VA vn vc)) ∧ w'.cell? ⟨W.heap.size, 3, none⟩ = some (.string xn)) ∧ Below w8.heap.size w8 w'))
          (first | assumption | exact HCW3.out _ hd | exact HCW3.out _ (by assumption))
          (first
            | (go_at_call 15; refine (KSm.out _ hd).mono ?_; rintro e wa ⟨rfl, hba⟩)
            | (go_at_call 17; refine (KN1.out _ hba).mono ?_; rintro e wb ⟨r1, rfl, hr1, hbb⟩)
            | (go_at_call 25; refine (KN2.out _ hbb).mono ?_; rintro e wc ⟨r2, rfl, hr2, hbc, hcc⟩)
            | (go_at_call 16; clear TK; refine (KSt.out _ _ _ _ hbc HLn.out (hr1.on hcc) hr2).mono ?_; rintro e wd ⟨rfl, hbd⟩)
            | (go_at_call 19; refine (KV1.out _ hbd).mono ?_; rintro e we ⟨r3, rfl, hr3, hbe⟩)
            | (go_at_call 26; refine (KV2.out _ hbe).mono ?_; rintro e wf ⟨r4, rfl, hr4, hbf, hff⟩)
            | (go_at_call 16; refine (KSt.out _ _ _ _ hbf HLv.out (hr3.on hff) hr4).mono ?_; rintro e wg ⟨rfl, hbg⟩))
        all_goals (
          go_wp2_with fail
          go_ret
          exact ⟨by simp, HW8.out.trans (hbg.mono HW8.out.size)⟩)
end Go.Proofs.YtkgcbeokfilehaaGreatDoor
namespace Go.Proofs.YtkgcbeokfilehaaGreatDoor
open Go.RowKit Go.ChangeShapes Go.WideShapes Go.ChangeAt

set_option maxRecDepth 100000 in
theorem opl_lifted (os : Os) (started : os.Started) (H : Type) (enc : TypeId × Value → H) :
    ReturnsInHanded {} Tryz.checked os 6 .any (fun w args => (Rows.oraclePlaysSpec.pre enc Tryz.prog Tryz.f6 Rows.oraclePlaysRow.domain false w args ∧ laidMetH Tryz.prog lst w) ∧ sizedMet enc Tryz.prog Tryz.f6 (OpenSpec.ofChange Rows.oraclePlaysSpec) false w args)
      (Rows.oraclePlaysSpec.post enc Tryz.prog Tryz.f6 false true false false) := by
  refine returnsInHanded_of_change_and (C := Tryz.checked) (X := fun w _ => laidMetH Tryz.prog lst w) (fun _ _ _ hh h => h.of_heap hh) own started (by kernel_rfl) Tryz.func6
    (ChangeSpec.witness_shaped (enc := enc) (C := Tryz.checked) (os := os) (X := fun w _ => laidMetH Tryz.prog lst w) false (World.laidAll Tryz.prog os lst) #[.int .i64 0, .slice none 0 0, .agg #[.slice none 0 0, .int .i64 0, .int .i64 0, .string ⟨#[]⟩, .slice none 0 0, .int .i64 0, .int .i64 0, .int .i64 0, .int .i64 0]] 8 (World.laidAll_os _ _ _)
      (World.shaped_of_ZipB (by kernel_rfl) (by kernel_rfl)) (by kernel_rfl) (by kernel_rfl) (by kernel_rfl)
      (by rw [MakeChecks.laidMetH_plain _ _ _ (by kernel_rfl)]; exact laidMet_laidAll _ (by kernel_rfl) (by kernel_rfl))) ?_
  intro W base args ds gs before hval0 hW _ hWt hL _
  have hval : ∀ (j : Nat) t v, Tryz.f6.params[j]? = some t → args[j]? = some v → Value.okWide Tryz.prog W .any base t v := hval0
  have hW' := hW
  obtain ⟨p, q, hA0, hV, rfl, _, _⟩ := hW
  have hA : DataW.TrodAll enc Tryz.prog W 0 (fun _ => true) true Tryz.f6.params.toList args.toList ds p := hA0
  rw [Tryz.params6] at hA hval hWt
  obtain ⟨v0, vs0, d0, ds0, p0, q0, hargs, rfl, rfl, h0, r0⟩ := trodAll_cons hA
  obtain ⟨v1, vs1, d1, ds1, p1, q1, hargs1, rfl, rfl, h1, r1⟩ := trodAll_cons r0
  obtain ⟨v2, vs2, d2, ds2, p2, q2, hargs2, rfl, rfl, h2, r2⟩ := trodAll_cons r1
  obtain ⟨rfl, rfl, rfl⟩ := trodAll_nil r2
  subst hargs2 hargs1
  obtain rfl : args = #[v0, v1, v2] := by cases args; simp_all
  obtain ⟨rfl, rfl⟩ := trodVars_none hV
  obtain ⟨hf0, hWt0⟩ := fits_cons (t := 3) (d := d0) hWt
  obtain ⟨hf1, hWt1⟩ := fits_cons (t := 35) (d := d1) hWt0
  obtain ⟨hf2, hWt2⟩ := fits_cons (t := 30) (d := d2) hWt1
  obtain ⟨y0, rfl, rfl, rfl, wy0⟩ := open_int Tryz.underlying3 (hval 0 3 v0 rfl rfl) h0
  obtain ⟨l1, hR1, hz1, hs1⟩ := openz_ActsV hf1 (hval 1 35 v1 rfl rfl) h1
  obtain ⟨fv2, fs2, f2, t2, nm2, lv2, r'2, rfl, hR2, hz2, hL2, hy2, hu2, hw2⟩ := openz_Asked hf2 (hval 2 30 v2 rfl rfl) h2
  simp only [List.append_nil] at hW'
  have hlt1 : ∀ x ∈ p1, x.block < W.heap.size := fun x hx => hW'.lt x (by simp [hx])
  have hlt2 : ∀ x ∈ p2, x.block < W.heap.size := fun x hx => hW'.lt x (by simp [hx])
  refine (plays_law y0 v1 l1 fv2 fs2 f2 t2 nm2 lv2 r'2 W (tabs_laid hL) wy0 hR1 hz1 hs1 hR2 hz2 hL2 hy2 hu2 hw2).mono fun e W' ⟨he, hB⟩ => ?_
  subst he
  exact ⟨_, rfl, post_below (pa := [] ++ (p1 ++ (p2))) (pv := []) hW' (fun _ _ _ => trodAll_mk1 (shut_bool Tryz.underlying4 _))
    (fun sp hs => trodAll_mk3 (shut_int Tryz.underlying3 wy0) (WideElems.Trod_stays (by kernel_rfl) (by kernel_rfl) (of_decide_eq_true (by kernel_rfl)) h1 (fun x hx => hB.same (hlt1 x hx)) (fun x hx => hs x (by simp [hx]))) (WideElems.Trod_stays (by kernel_rfl) (by kernel_rfl) (of_decide_eq_true (by kernel_rfl)) h2 (fun x hx => hB.same (hlt2 x hx)) (fun x hx => hs x (by simp [hx])))) (fun _ _ => rfl) (by simp) hB (ok_one (by kernel_rfl) rfl (okWide_bool_mk Tryz.underlying4 _))⟩

theorem opl_tt {a b : Bool} (h : a = true) (k : b = true) : (a && b) = true := by rw [h, k]; rfl
set_option maxRecDepth 100000 in
set_option maxHeartbeats 8000000 in
theorem opl_facts : joinedFacts Tryz.pinned.checked.prog 6 Tryz.f6 Rows.oraclePlaysSpec Rows.oraclePlaysRow = true := by
  unfold joinedFacts
  refine (opl_tt (opl_tt (opl_tt (opl_tt (opl_tt (opl_tt (opl_tt (opl_tt (opl_tt (opl_tt (opl_tt (opl_tt (opl_tt (opl_tt (opl_tt (opl_tt (opl_tt (opl_tt (opl_tt (opl_tt (opl_tt (opl_tt (opl_tt (opl_tt (opl_tt (opl_tt (opl_tt (opl_tt (opl_tt (opl_tt (opl_tt ?_ ?_) ?_) ?_) ?_) ?_) ?_) ?_) ?_) ?_) ?_) ?_) ?_) ?_) ?_) ?_) ?_) ?_) ?_) ?_) ?_) ?_) ?_) ?_) ?_) ?_) ?_) ?_) ?_) ?_) ?_) ?_)
  all_goals as_aux_lemma => kernel_rfl
theorem opl_said : Rows.OraclePlaysSaid :=
  OpenClaim.holds_of_wide 6 Tryz.f6 rfl rfl rfl rfl rfl rfl rfl ⟨rfl, rfl, rfl, rfl, rfl⟩ rfl rfl rfl rfl rfl (by as_aux_lemma => kernel_rfl) Tryz.func6 opl_facts
    (of_decide_eq_true (by kernel_rfl)) (by unfold Func.isWrapper; first | (rw [if_pos (by decide +kernel)]; kernel_rfl) | (rw [if_neg (by decide +kernel)]; exact ⟨rfl, rfl⟩))
    (fun os started H enc _ => opl_lifted os started H enc)

theorem opl_plain (f : FuncId) (fn : Func) (hf : Tryz.pinned.checked.prog.funcNamed "esker/eskerlaw20.OraclePlays" = some f) (hfn : Tryz.pinned.checked.prog.funcs[f]? = some fn) :
    true = Tryz.pinned.checked.prog.looks [] ∧ ∀ (j : Nat) t, fn.params[j]? = some t → Tryz.pinned.checked.prog.wantsStandIn t = false := by
  obtain rfl : f = 6 := Option.some.inj ((show Tryz.prog.funcNamed "esker/eskerlaw20.OraclePlays" = some 6 by kernel_rfl).symm.trans hf) |>.symm
  obtain rfl : fn = Tryz.f6 := (Option.some.inj (Tryz.func6.symm.trans hfn)).symm
  refine ⟨by kernel_rfl, fun j t ht => ?_⟩
  rw [Tryz.params6] at ht
  have hm : t ∈ [3, 35, 30] := by have := Array.mem_of_getElem? ht; simp at this ⊢; omega
  have hall : ([3, 35, 30].all fun u => !Tryz.prog.wantsStandIn u) = true := by kernel_rfl
  exact (show Tryz.prog.wantsStandIn t = false by simpa using List.all_eq_true.1 hall t hm)

/-- THE CARD. -/
theorem opl_card : Rows.OraclePlaysCardSaid :=
  Claim7.holds_tied_plain_at .later [] _ _ _ _ opl_said (fun _ h => by cases h) (by kernel_rfl) (fun _ h => by cases h) oraclePlays_row_tie rfl ⟨rfl, rfl⟩ (by kernel_rfl) rfl opl_plain (by kernel_rfl)
end Go.Proofs.YtkgcbeokfilehaaGreatDoor
