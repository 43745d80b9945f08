import Derived.Test.YtbggdkpcgcmepaaGreatDoorPq
import Derived.Test.YtbggdkpcgcmepaaGreatDoorKe
namespace Go.Proofs.YtbggdkpcgcmepaaGreatDoor
open Go.RowKit Go.Sort

theorem cmpI_pos (a b : Int) : 0 < cmpI a b ↔ b < a := by unfold cmpI; split <;> (try split) <;> omega
theorem cmpS_le (a b : Smp) (h : ¬ ltS b a) : cmpS a b ≤ 0 := by
  unfold cmpS orI cmpV
  unfold ltS at h
  have h1 := cmpI_pos a.1 b.1
  have h2 := cmpI_zero a.1 b.1
  have h3 := cmpI_pos (Smp.bits a) (Smp.bits b)
  by_cases h : cmpI a.1 b.1 ≠ 0
  · rw [if_pos h]; omega
  · rw [if_neg h]; omega

set_option maxRecDepth 100000 in
set_option maxHeartbeats 4000000 in
theorem one_walk (v : Value) (l : List Smp) (d : Int) (W : World) (T : Tabs W) (hR : Rd W W.heap.size v l) (hz : Nz v) :
    Calls Tryz.prog 7 #[v, .int .i64 d] W fun e w' => e = .returned (.bool true) ∧ Below W.heap.size W w' := by
  have _ := hz
  have KW := Lib.hid (awake_walk W T)
  have KT : Hid (∀ w, Below W.heap.size W w → Tabs w) := fun w h => T.below h
  have KR : Hid (∀ w, Below W.heap.size W w → Rd w w.heap.size v l) := fun w h => hR.on h
  have KY : Hid (∀ w' w'', Below W.heap.size W w' → Below w'.heap.size w' w'' → Below W.heap.size W w'') := fun w' w'' h e => h.trans (e.mono h.size)
  have KI := Lib.hid (fun (t : Int) w => ivl_walk t d w)
  obtain ⟨A, c, rfl, hc, -⟩ := hR
  obtain ⟨n, hn⟩ : ∃ n, n = l.length := ⟨_, rfl⟩
  rw [← hn] at KR hc ⊢
  have HN := Lib.hid hn
  clear T hn hc hz
  by_cases hg : n ≤ 60
  · have g0 : (n : Int) ≤ 60 := by omega
    have HL : Hid (l.length ≤ 60) := by show _ ≤ _; rw [← HN.out]; exact hg
    have KD : Hid (∀ w, Below W.heap.size W w → Calls Tryz.prog 20 #[.slice A n c, .int .i64 d] w fun r w' => ∃ rv, r = .returned rv ∧ Own w' w.heap.size 28 rv (dedupS d l) ∧ Below w.heap.size w w') := fun w h => ddup_walk _ l d w (KT.out w h) (KR.out w h) (by have := HL.out; omega)
    go_enter Tryz.func7, Tryz.ntmps7
    go_wp2_with fail
    refine KW.out.mono ?_
    rintro e w1 ⟨rfl, hB⟩
    have HB := Lib.hid hB
    clear hB KW
    go_wp2_with fail
    refine (KD.out w1 HB.out).mono ?_
    rintro e w2 ⟨ro, rfl, hO, hC⟩
    have HB2 := Lib.hid (KY.out _ _ HB.out hC)
    obtain ⟨o, ho⟩ : ∃ o, o = dedupS d l := ⟨_, rfl⟩
    rw [← ho] at hO
    have HO := Lib.hid ho
    have HRo := Lib.hid hO.rd
    have HRl := Lib.hid (KR.out w2 HB2.out)
    obtain ⟨Ao, co, rfl, hco, -⟩ := hO.rd
    obtain ⟨m, hm⟩ : ∃ m, m = o.length := ⟨_, rfl⟩
    rw [← hm] at HRo hco ⊢
    have HM := Lib.hid hm
    have hm60 : m ≤ 60 := by
      rw [hm, ho]; exact Nat.le_trans (dedupS_length d l) HL.out
    -- the cells
    have KO : Hid (∀ w i, Ext w2 w → i < m → ∃ b p z, Ao = some ⟨b, p, none⟩ ∧ o[i]? = some z ∧ Cell4 w b (p + i * 4) z) := by
      intro w i hE hi
      obtain ⟨A', c', e, _, hA⟩ := HRo.out
      injection e with e1 _ _
      have hio : i < o.length := by rw [← HM.out]; exact hi
      rcases hA with h0 | ⟨b, p, e2, hb, hcl⟩
      · rw [h0] at hio; simp at hio
      · exact ⟨b, p, o[i], e1.trans e2, List.getElem?_eq_getElem hio, (hcl i hio).ext hE.below⟩
    have KL : Hid (∀ w i, Ext w2 w → i < n → ∃ b p z, A = some ⟨b, p, none⟩ ∧ l[i]? = some z ∧ Cell4 w b (p + i * 4) z) := by
      intro w i hE hi
      obtain ⟨A', c', e, _, hA⟩ := HRl.out
      injection e with e1 _ _
      have hil : i < l.length := by rw [← HN.out]; exact hi
      rcases hA with h0 | ⟨b, p, e2, hb, hcl⟩
      · rw [h0] at hil; simp at hil
      · exact ⟨b, p, l[i], e1.trans e2, List.getElem?_eq_getElem hil, (hcl i hil).ext hE.below⟩
    clear ho hm hO hC hco
    go_wp2_with fail
    go_loopw [7] (fun i wl => ∃ k : Nat, k ≤ m ∧ i = .int .i64 k ∧ Hid (Ext w2 wl))
      (fun i _ => m - (intOf i).toNat)
    case atStart => exact ⟨0, Nat.zero_le _, rfl, Ext.refl _⟩
    case round =>
      obtain ⟨k, hk, rfl, HE⟩ := hrel
      by_cases hlt : k < m
      · obtain ⟨b, p, y, e, hy, hcy⟩ := KO.out wr k HE.out hlt
        subst e
        have HY := Lib.hid hy
        have HCY := Lib.hid hcy
        have g5 : (k : Int) < (m : Int) := by omega
        clear hy hcy
        have hw : ∃ w3, Ext w2 w3 := ⟨wr, HE.out⟩
        -- region 10
        have key : k = 0 ∨ ∃ j z, k = j + 1 ∧ o[j]? = some z ∧ Cell4 wr b (p + j * 4) z ∧ ivl z.1 d < ivl y.1 d := by
          rcases Nat.eq_zero_or_pos k with h | h
          · exact .inl h
          · right
            obtain ⟨b', p', z, e', hz, hcz⟩ := KO.out wr (k - 1) HE.out (by omega)
            injection e' with e'
            injection e' with e1 e2 _
            subst e1 e2
            refine ⟨k - 1, z, by omega, hz, hcz, ?_⟩
            have hpw := dedup_rising d l
            rw [← HO.out, List.pairwise_iff_getElem] at hpw
            obtain ⟨h1, e1⟩ := List.getElem?_eq_some_iff.1 hz
            obtain ⟨h2, e2⟩ := List.getElem?_eq_some_iff.1 HY.out
            have := hpw (k - 1) k h1 h2 (by omega)
            rwa [e1, e2] at this
        have hyl : y ∈ l := by
          have := List.mem_of_getElem? HY.out
          rw [HO.out] at this
          exact ((dedup_mem d l y).1 this).1.1
        have HYL := Lib.hid hyl
        clear hyl hw
        rcases key with h0 | ⟨j, z, hj, hz, hcz, hI⟩
        · have gd : decide ((0 : Int) < (k : Int)) = false := by rw [h0]; decide
          have gd2 : ¬ 0 < k := by omega
          clear h0
          go_wp2_with fail
          go_quiet (fail)
          obtain ⟨w3, hw3⟩ : ∃ w3, w3 = wr.drewN nq := ⟨_, rfl⟩
          rw [← hw3]
          have HE3 : Hid (Ext wr w3) := by show Ext _ _; rw [hw3]; exact (Ext.refl wr).drewN nq
          clear hw3 gd gd2
          go_wp2_with fail
          obtain ⟨wo, hwo⟩ : ∃ wo : World, wo = w3 := ⟨_, rfl⟩
          subst hwo
          go_loopw [8, 9] (fun tv iv wl => ∃ (i : Nat) (t : Bool), i ≤ n ∧ iv = .int .i64 i ∧ tv = .bool t ∧ Hid ((∃ j, j < i ∧ l[j]? = some y) → t = true) ∧ Hid (Ext w2 wl))
            (fun _ i _ => n - (intOf i).toNat)
          case atStart => exact ⟨0, false, Nat.zero_le _, rfl, rfl, fun ⟨j, h, _⟩ => by omega, HE.out.trans HE3.out⟩
          case round =>
            obtain ⟨i, t, hi, rfl, rfl, HT, HEi⟩ := hrel
            by_cases hlt2 : i < n
            · obtain ⟨b1, p1, x, e, hx, hcx⟩ := KL.out wr i HEi.out hlt2
              have HX := Lib.hid hx
              have hcy2 : Cell4 wr b (p + k * 4) y := by
                obtain ⟨b', p', y', e', hy', hcy'⟩ := KO.out wr k HEi.out hlt
                injection e' with e'
                injection e' with e1 e2 _
                subst e1 e2
                have := HY.out
                rw [hy'] at this
                injection this with this
                rw [← this]; exact hcy'
              have g6 : (i : Int) < (n : Int) := by omega
              subst e
              clear hx
              obtain ⟨c0, c1, c2, c3⟩ := hcx
              obtain ⟨d0, d1, d2, d3⟩ := hcy2
              cases t with
              | true =>
                go_wp2_with fail
                go_quiet (fail)
                have HE4 := Lib.hid (HEi.out.drewN nq)
                go_wp2_with fail
                go_roundw
                case rel => first | exact ⟨i + 1, true, by omega, by go_num, rfl, fun _ => rfl, HE4.out⟩ | ((repeat apply Exists.intro); exact ⟨⟨i + 1, true, by omega, by go_num, rfl, fun _ => rfl, HE4.out⟩, rfl⟩)
                case measure => simp [intOf]; omega
              | false =>
                obtain ⟨q, hq⟩ : ∃ q, q = decide (x = y) := ⟨_, rfl⟩
                have heq : ∀ w, (binOp .eql 28 (.agg #[.int .i64 x.1, .int .i64 x.2.1, .int .i64 x.2.2.1, .int .i64 x.2.2.2]) (.agg #[.int .i64 y.1, .int .i64 y.2.1, .int .i64 y.2.2.1, .int .i64 y.2.2.2])).run Tryz.prog w = .ok (.bool q) w := fun w => hq ▸ eql_Smp x y w
                have HT2 : Hid ((∃ j, j < i + 1 ∧ l[j]? = some y) → q = true) := by
                  rintro ⟨j, h1, h2⟩
                  rcases (by omega : j < i ∨ j = i) with h | h
                  · exact absurd (HT.out ⟨j, h, h2⟩) (by decide)
                  · subst h
                    rw [HX.out] at h2
                    injection h2 with h2
                    rw [hq, h2]; exact decide_eq_true rfl
                clear hq
                go_wp2_with fail
                go_quiet (fail)
                have HE4 := Lib.hid (HEi.out.drewN nq)
                clear heq
                go_wp2_with fail
                go_roundw
                case rel => first | exact ⟨i + 1, q, by omega, by go_num, rfl, HT2.out, HE4.out⟩ | ((repeat apply Exists.intro); exact ⟨⟨i + 1, q, by omega, by go_num, rfl, HT2.out, HE4.out⟩, rfl⟩)
                case measure => simp [intOf]; omega
            · obtain rfl : n = i := by omega
              have ht : t = true := by
                apply HT.out
                obtain ⟨j, hj, hj2⟩ := List.mem_iff_getElem.1 HYL.out
                exact ⟨j, by rw [HN.out]; exact hj, by rw [List.getElem?_eq_getElem hj, hj2]⟩
              subst ht
              go_wp2_with fail
              go_roundw
              case rel => exact ⟨k + 1, by omega, by go_num, HEi.out⟩
              case measure => simp [intOf]; omega
        · have HJ := Lib.hid hj
          have gw : IntKind.i64.wrap ((k : Int) - 1) = (j : Int) := by rw [IntWalk.i64_in _ (by omega)]; omega
          have gj : (j : Int) < (m : Int) := by omega
          have gd : (0 : Int) < (k : Int) := by omega
          have gd2 : 0 < k := by omega
          have gI : ¬ ivl y.1 d ≤ ivl z.1 d := by omega
          obtain ⟨c0, -⟩ := HCY.out
          obtain ⟨d0, -⟩ := hcz
          clear hj hz hI
          go_wp2_with fail
          go_quiet ((go_at_call 18; exact quiet_left (KI.out _ _)))
          obtain ⟨w3, hw3⟩ : ∃ w3, w3 = wr.drewN nq := ⟨_, rfl⟩
          rw [← hw3]
          have HE3 : Hid (Ext wr w3) := by show Ext _ _; rw [hw3]; exact (Ext.refl wr).drewN nq
          clear hw3 gd gd2 gw gj c0 d0
          go_wp2_with fail
          clear gI
          obtain ⟨wo, hwo⟩ : ∃ wo : World, wo = w3 := ⟨_, rfl⟩
          subst hwo
          go_loopw [8, 9] (fun tv iv wl => ∃ (i : Nat) (t : Bool), i ≤ n ∧ iv = .int .i64 i ∧ tv = .bool t ∧ Hid ((∃ j, j < i ∧ l[j]? = some y) → t = true) ∧ Hid (Ext w2 wl))
            (fun _ i _ => n - (intOf i).toNat)
          case atStart => exact ⟨0, false, Nat.zero_le _, rfl, rfl, fun ⟨j, h, _⟩ => by omega, HE.out.trans HE3.out⟩
          case round =>
            obtain ⟨i, t, hi, rfl, rfl, HT, HEi⟩ := hrel
            by_cases hlt2 : i < n
            · obtain ⟨b1, p1, x, e, hx, hcx⟩ := KL.out wr i HEi.out hlt2
              have HX := Lib.hid hx
              have hcy2 : Cell4 wr b (p + k * 4) y := by
                obtain ⟨b', p', y', e', hy', hcy'⟩ := KO.out wr k HEi.out hlt
                injection e' with e'
                injection e' with e1 e2 _
                subst e1 e2
                have := HY.out
                rw [hy'] at this
                injection this with this
                rw [← this]; exact hcy'
              have g6 : (i : Int) < (n : Int) := by omega
              subst e
              clear hx
              obtain ⟨c0, c1, c2, c3⟩ := hcx
              obtain ⟨d0, d1, d2, d3⟩ := hcy2
              cases t with
              | true =>
                go_wp2_with fail
                go_quiet (fail)
                have HE4 := Lib.hid (HEi.out.drewN nq)
                go_wp2_with fail
                go_roundw
                case rel => first | exact ⟨i + 1, true, by omega, by go_num, rfl, fun _ => rfl, HE4.out⟩ | ((repeat apply Exists.intro); exact ⟨⟨i + 1, true, by omega, by go_num, rfl, fun _ => rfl, HE4.out⟩, rfl⟩)
                case measure => simp [intOf]; omega
              | false =>
                obtain ⟨q, hq⟩ : ∃ q, q = decide (x = y) := ⟨_, rfl⟩
                have heq : ∀ w, (binOp .eql 28 (.agg #[.int .i64 x.1, .int .i64 x.2.1, .int .i64 x.2.2.1, .int .i64 x.2.2.2]) (.agg #[.int .i64 y.1, .int .i64 y.2.1, .int .i64 y.2.2.1, .int .i64 y.2.2.2])).run Tryz.prog w = .ok (.bool q) w := fun w => hq ▸ eql_Smp x y w
                have HT2 : Hid ((∃ j, j < i + 1 ∧ l[j]? = some y) → q = true) := by
                  rintro ⟨j, h1, h2⟩
                  rcases (by omega : j < i ∨ j = i) with h | h
                  · exact absurd (HT.out ⟨j, h, h2⟩) (by decide)
                  · subst h
                    rw [HX.out] at h2
                    injection h2 with h2
                    rw [hq, h2]; exact decide_eq_true rfl
                clear hq
                go_wp2_with fail
                go_quiet (fail)
                have HE4 := Lib.hid (HEi.out.drewN nq)
                clear heq
                go_wp2_with fail
                go_roundw
                case rel => first | exact ⟨i + 1, q, by omega, by go_num, rfl, HT2.out, HE4.out⟩ | ((repeat apply Exists.intro); exact ⟨⟨i + 1, q, by omega, by go_num, rfl, HT2.out, HE4.out⟩, rfl⟩)
                case measure => simp [intOf]; omega
            · obtain rfl : n = i := by omega
              have ht : t = true := by
                apply HT.out
                obtain ⟨j, hj, hj2⟩ := List.mem_iff_getElem.1 HYL.out
                exact ⟨j, by rw [HN.out]; exact hj, by rw [List.getElem?_eq_getElem hj, hj2]⟩
              subst ht
              go_wp2_with fail
              go_roundw
              case rel => exact ⟨k + 1, by omega, by go_num, HEi.out⟩
              case measure => simp [intOf]; omega
      · obtain rfl : m = k := by omega
        go_wp2_with fail
        go_loopw [10] (fun i wl => ∃ k : Nat, k ≤ n ∧ i = .int .i64 k ∧ Hid (Ext w2 wl))
          (fun i _ => n - (intOf i).toNat)
        case atStart => exact ⟨0, Nat.zero_le _, rfl, HE.out⟩
        case round =>
          obtain ⟨k, hk, rfl, HE⟩ := hrel
          by_cases hlt : k < n
          · obtain ⟨b, p, x, e, hx, hcx⟩ := KL.out wr k HE.out hlt
            subst e
            have HX := Lib.hid hx
            have HCX := Lib.hid hcx
            have g5 : (k : Int) < (n : Int) := by omega
            obtain ⟨c0, c1, c2, c3⟩ := hcx
            obtain ⟨rv, hrv⟩ : ∃ rv, rv = rightV x.2.1 x.2.2.1 x.2.2.2 := ⟨_, rfl⟩
            have KV : Hid (∀ w, Calls Tryz.prog 24 #[.agg #[.int .i64 x.2.1, .int .i64 x.2.2.1, .int .i64 x.2.2.2]] w fun e w' => e = .returned (.bool rv) ∧ Ext w w') := fun w => by rw [hrv]; exact rright_walk _ _ _ w
            have HRV := Lib.hid hrv
            clear hx hrv
            go_wp2_with fail
            refine (KV.out wr).mono ?_
            rintro e w3 ⟨rfl, hE⟩
            have HE3 := Lib.hid (HE.out.trans hE)
            have d0 := hE.cell_some HCX.out.1
            clear hE c0 c1 c2 c3 KV HCX
            have hcase : rv = false ∨ (rv = true ∧ x.1 < 0) ∨ (rv = true ∧ 0 ≤ x.1 ∧ 1099511627776 < x.1) ∨ (rv = true ∧ 0 ≤ x.1 ∧ x.1 ≤ 1099511627776) := by
              cases rv
              · exact .inl rfl
              · right
                rcases (by omega : x.1 < 0 ∨ (0 ≤ x.1 ∧ 1099511627776 < x.1) ∨ (0 ≤ x.1 ∧ x.1 ≤ 1099511627776)) with h | h | h
                · exact .inl ⟨rfl, h⟩
                · exact .inr (.inl ⟨rfl, h⟩)
                · exact .inr (.inr ⟨rfl, h⟩)
            rcases hcase with h | ⟨h, h1⟩ | ⟨h, h1, h2⟩ | ⟨h, h1, h2⟩
            · subst h
              go_wp2_with fail
              go_roundw
              case rel => exact ⟨k + 1, by omega, by go_num, HE3.out⟩
              case measure => simp [intOf]; omega
            · subst h
              go_wp2_with fail
              go_roundw
              case rel => exact ⟨k + 1, by omega, by go_num, HE3.out⟩
              case measure => simp [intOf]; omega
            · subst h
              have h3 : ¬ x.1 < 0 := by omega
              go_wp2_with fail
              go_roundw
              case rel => exact ⟨k + 1, by omega, by go_num, HE3.out⟩
              case measure => simp [intOf]; omega
            · have hxr : rightS x = true := by
                unfold rightS
                rw [← HRV.out, h, decide_eq_true ⟨h1, h2⟩]; rfl
              have hxl : x ∈ l := List.mem_of_getElem? HX.out
              have HXR := Lib.hid hxr
              have HXL := Lib.hid hxl
              subst h
              have h3 : ¬ x.1 < 0 := by omega
              have h4 : ¬ 1099511627776 < x.1 := by omega
              clear hxr hxl
              go_wp2_with fail
              clear h1 h2 h3 h4 d0
              obtain ⟨wo, hwo⟩ : ∃ wo : World, wo = w3 := ⟨_, rfl⟩
              subst hwo
              go_loopw [12, 13] (fun fv iv wl => ∃ (i : Nat) (f : Bool), i ≤ m ∧ iv = .int .i64 i ∧ fv = .bool f ∧ Hid ((∃ j z, j < i ∧ o[j]? = some z ∧ ivl z.1 d = ivl x.1 d) → f = true) ∧ Hid (Ext w2 wl))
                (fun _ i _ => m - (intOf i).toNat)
              case atStart => exact ⟨0, false, Nat.zero_le _, rfl, rfl, fun ⟨j, _, h, _⟩ => by omega, HE3.out⟩
              case round =>
                obtain ⟨i, f, hi, rfl, rfl, HT, HEi⟩ := hrel
                by_cases hlt2 : i < m
                · obtain ⟨b1, p1, z, e, hz, hcz⟩ := KO.out wr i HEi.out hlt2
                  have HZ := Lib.hid hz
                  have hcx2 : Cell4 wr b (p + k * 4) x := by
                    obtain ⟨b', p', y', e', hy', hcy'⟩ := KL.out wr k HEi.out hlt
                    injection e' with e'
                    injection e' with e1 e2 _
                    subst e1 e2
                    have := HX.out
                    rw [hy'] at this
                    injection this with this
                    rw [← this]; exact hcy'
                  have g6 : (i : Int) < (m : Int) := by omega
                  subst e
                  have HCX2 := Lib.hid hcx2
                  have HCZ := Lib.hid hcz
                  obtain ⟨q, hq⟩ : ∃ q, q = decide (ivl z.1 d = ivl x.1 d) := ⟨_, rfl⟩
                  have heq : (ivl z.1 d == ivl x.1 d) = q := by rw [hq]; by_cases h : ivl z.1 d = ivl x.1 d <;> simp [h]
                  have HQ := Lib.hid hq
                  clear hz hq
                  obtain ⟨c0, -⟩ := hcx2
                  obtain ⟨d0, -⟩ := hcz
                  go_wp2_with fail
                  go_quiet ((go_at_call 18; exact quiet_left (KI.out _ _)))
                  obtain ⟨w4, hw4⟩ : ∃ w4, w4 = wr.drewN nq := ⟨_, rfl⟩
                  rw [← hw4]
                  have hE4 : Ext wr w4 := by rw [hw4]; exact (Ext.refl wr).drewN nq
                  have HE4 := Lib.hid hE4
                  have HE24 := Lib.hid (HEi.out.trans hE4)
                  clear hw4 hE4 c0 d0 heq
                  cases q with
                  | false =>
                    have HT2 : Hid ((∃ j z, j < i + 1 ∧ o[j]? = some z ∧ ivl z.1 d = ivl x.1 d) → f = true) := by
                      rintro ⟨j, z', h1, h2, h3⟩
                      rcases (by omega : j < i ∨ j = i) with h | h
                      · exact HT.out ⟨j, z', h, h2, h3⟩
                      · subst h
                        rw [HZ.out] at h2
                        injection h2 with h2
                        exact absurd (by rw [h2]; exact h3) (of_decide_eq_false HQ.out.symm)
                    go_wp2_with fail
                    go_roundw
                    case rel => first | exact ⟨i + 1, f, by omega, by go_num, rfl, HT2.out, HE24.out⟩ | ((repeat apply Exists.intro); exact ⟨⟨i + 1, f, by omega, by go_num, rfl, HT2.out, HE24.out⟩, rfl⟩)
                    case measure => simp [intOf]; omega
                  | true =>
                    have hzx : ¬ ltS z x := by
                      have h1 := List.mem_of_getElem? HZ.out
                      rw [HO.out] at h1
                      exact ((dedup_mem d l z).1 h1).2 x HXL.out HXR.out (of_decide_eq_true HQ.out.symm).symm
                    obtain ⟨cv, hcv⟩ : ∃ cv, cv = cmpS x z := ⟨_, rfl⟩
                    have hcv0 : cv ≤ 0 := by rw [hcv]; exact cmpS_le x z hzx
                    have KB : Hid (∀ w, Ext w2 w → Below W.heap.size W w) := fun w h => HB2.out.trans (h.below.mono HB2.out.size)
                    have K13 : Hid (∀ w, Ext w2 w → Calls Tryz.prog 13 #[.agg #[.int .i64 x.1, .int .i64 x.2.1, .int .i64 x.2.2.1, .int .i64 x.2.2.2], .agg #[.int .i64 z.1, .int .i64 z.2.1, .int .i64 z.2.2.1, .int .i64 z.2.2.2]] w fun e w' => e = .returned (.int .i64 cv) ∧ Ext w2 w') := fun w h => by rw [hcv]; exact (dcmp_walk x z w (KT.out w (KB.out w h))).mono fun _ _ ⟨h1, h2⟩ => ⟨h1, h.trans h2⟩
                    have KC : Hid (∀ w, Ext w4 w → Cell4 w b (p + k * 4) x ∧ Cell4 w b1 (p1 + i * 4) z) := fun w h => ⟨(HCX2.out.ext HE4.out.below).ext h.below, (HCZ.out.ext HE4.out.below).ext h.below⟩
                    have KX : Hid (∀ w w', Ext w4 w → Ext w w' → Ext w4 w') := fun w w' h k => h.trans k
                    have K13' : Hid (∀ w, Ext w4 w → Calls Tryz.prog 13 #[.agg #[.int .i64 x.1, .int .i64 x.2.1, .int .i64 x.2.2.1, .int .i64 x.2.2.2], .agg #[.int .i64 z.1, .int .i64 z.2.1, .int .i64 z.2.2.1, .int .i64 z.2.2.2]] w fun e w' => e = .returned (.int .i64 cv) ∧ Ext w4 w') := fun w h => by rw [hcv]; exact (dcmp_walk x z w (KT.out w (KB.out w (HE24.out.trans h)))).mono fun _ _ ⟨h1, h2⟩ => ⟨h1, h.trans h2⟩
                    clear hcv hzx
                    obtain ⟨⟨c0, c1, c2, c3⟩, ⟨d0, d1, d2, d3⟩⟩ := KC.out w4 (Ext.refl w4)
                    have hEE : Ext w4 w4 := Ext.refl w4
                    go_wp2_with fail
                    go_region_held3 (fun w' => w'.cell? ⟨b, p + k * 4, none⟩ = some (.int .i64 x.1) ∧ w'.cell? ⟨b, p + k * 4 + 1, none⟩ = some (.int .i64 x.2.1) ∧ w'.cell? ⟨b, p + k * 4 + 2, none⟩ = some (.int .i64 x.2.2.1) ∧ w'.cell? ⟨b, p + k * 4 + 3, none⟩ = some (.int .i64 x.2.2.2) ∧ w'.cell? ⟨b1, p1 + i * 4, none⟩ = some (.int .i64 z.1) ∧ w'.cell? ⟨b1, p1 + i * 4 + 1, none⟩ = some (.int .i64 z.2.1) ∧ w'.cell? ⟨b1, p1 + i * 4 + 2, none⟩ = some (.int .i64 z.2.2.1) ∧ w'.cell? ⟨b1, p1 + i * 4 + 3, none⟩ = some (.int .i64 z.2.2.2) ∧ Ext w4 w')
                      (first | assumption | (have hd := Ext.drew (by assumption : Ext w4 _); exact ⟨(KC.out _ hd).1.1, (KC.out _ hd).1.2.1, (KC.out _ hd).1.2.2.1, (KC.out _ hd).1.2.2.2, (KC.out _ hd).2.1, (KC.out _ hd).2.2.1, (KC.out _ hd).2.2.2.1, (KC.out _ hd).2.2.2.2, hd⟩) | exact ⟨by assumption, by assumption, by assumption, by assumption, by assumption, by assumption, by assumption, by assumption, by assumption⟩)
                      (first | (go_at_call 13; refine (K13'.out _ ?_).mono ?_; (first | assumption | exact Ext.drew (by assumption)); rintro e w' ⟨rfl, hN⟩; obtain ⟨⟨c0', c1', c2', c3'⟩, ⟨d0', d1', d2', d3'⟩⟩ := KC.out _ hN))
                    have HEf : Hid (Ext w2 _) := HE24.out.trans hN
                    clear c0 c1 c2 c3 d0 d1 d2 d3 c0' c1' c2' c3' d0' d1' d2' d3' hEE hN
                    go_wp2_with fail
                    go_roundw
                    case rel => first | exact ⟨i + 1, true, by omega, by go_num, by simp, fun _ => rfl, HEf.out⟩ | ((repeat apply Exists.intro); exact ⟨⟨i + 1, true, by omega, by go_num, by simp, fun _ => rfl, HEf.out⟩, rfl⟩)
                    case measure => simp [intOf]; omega
                · obtain rfl : m = i := by omega
                  have hf : f = true := by
                    apply HT.out
                    obtain ⟨z, h1, h2, _⟩ := dedup_max d l x HXL.out HXR.out
                    rw [← HO.out] at h1
                    obtain ⟨j, hj, hj2⟩ := List.mem_iff_getElem.1 h1
                    exact ⟨j, z, by rw [HM.out]; exact hj, by rw [List.getElem?_eq_getElem hj, hj2], h2⟩
                  subst hf
                  go_wp2_with fail
                  go_roundw
                  case rel => exact ⟨k + 1, by omega, by go_num, HEi.out⟩
                  case measure => simp [intOf]; omega
          · obtain rfl : n = k := by omega
            go_wp2_with fail
            go_ret
            exact ⟨rfl, HB2.out.trans (HE.out.below.mono HB2.out.size)⟩
  · have h : 60 < n := by omega
    clear KR KT HN
    go_enter Tryz.func7, Tryz.ntmps7
    go_wp2_with fail
    refine KW.out.mono ?_
    rintro e w1 ⟨rfl, hB⟩
    have HB := Lib.hid hB
    clear hB KW
    go_wp2_with fail
    go_ret
    exact ⟨rfl, HB.out⟩
end Go.Proofs.YtbggdkpcgcmepaaGreatDoor
