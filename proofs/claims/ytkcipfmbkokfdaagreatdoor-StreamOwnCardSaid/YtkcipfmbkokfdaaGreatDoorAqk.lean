/-
  eskerlaw16.few: are rows few, and short?
-/
import Derived.Test.YtkcipfmbkokfdaaGreatDoorRmk
import Derived.Test.YtkcipfmbkokfdaaGreatDoorAzk
import Derived.Test.YtkcipfmbkokfdaaGreatDoorPpk
import Derived.Test.YtkcipfmbkokfdaaGreatDoorRwk
namespace Go.Proofs.YtkcipfmbkokfdaaGreatDoor
open Go.RowKit Go.Sort Go.Maps
def cntL (ll : List (List Pts)) : Nat := ll.flatten.length + manyL ll.flatten
theorem cntL_snoc (ll : List (List Pts)) (r : List Pts) : cntL (ll ++ [r]) = cntL ll + r.length + manyL r := by
  unfold cntL manyL
  rw [List.flatten_append, List.length_append, List.flatMap_append, List.length_append]
  simp
  omega
/-- Each row has a size that memory can have. -/
def SizR (l : List Pts) : Prop := l.length ≤ 140737488355327 ∧ ∀ p ∈ l, p.2.length ≤ 140737488355327
set_option maxRecDepth 100000 in
set_option maxHeartbeats 2000000 in
theorem few_walk (v : Value) (ll : List (List Pts)) (W : World) (hR : RdR W W.heap.size v ll) (hs : ∀ l ∈ ll, SizR l) (hl : ll.length ≤ 140737488355327) :
    Calls Tryz.prog 10 #[v] W fun e w' => ∃ q, e = .returned (.bool q) ∧ Hid (q = true → ll.length ≤ 10 ∧ cntL ll ≤ 150) ∧ Below W.heap.size W w' := by
  obtain ⟨A, c, rfl, hc, hA⟩ := hR
  obtain ⟨n, hn⟩ : ∃ n, n = ll.length := ⟨_, rfl⟩
  rw [← hn] at hc hl ⊢
  have HN := Lib.hid hn
  have HA := Lib.hid hA
  have HS := Lib.hid hs
  clear hn hA hc hs
  go_enter Tryz.func10, Tryz.ntmps10
  go_wp2_with fail
  go_loopw [3, 4, 5] (fun s i _ wl => ∃ (k m : Nat), k ≤ n ∧ i = .int .i64 k ∧ s = .int .i64 m ∧ Hid (m = cntL (ll.take k)) ∧ m ≤ 150 ∧ wl = W) (fun _ i _ _ => n - (intOf i).toNat)
  case atStart => exact ⟨0, 0, Nat.zero_le _, rfl, rfl, rfl, by omega, rfl⟩
  case round =>
    obtain ⟨k, m, hk, rfl, rfl, HF, hm, rfl⟩ := hrel
    by_cases hlt : k < n
    · have hkl : k < ll.length := by rw [← HN.out]; exact hlt
      rcases HA.out with h0 | ⟨b, o, e, hb, hcl⟩
      · subst h0; simp at hkl
      subst e
      obtain ⟨sv, hsv, hrow⟩ := hcl k hkl
      obtain ⟨row, hr⟩ : ∃ row, row = ll[k] := ⟨_, rfl⟩
      rw [← hr] at hrow
      have HSr := Lib.hid (HS.out row (by rw [hr]; exact List.getElem_mem hkl))
      have HT : Hid (cntL (ll.take (k + 1)) = m + row.length + manyL row) := by
        show _ = _
        rw [List.take_succ_eq_append_getElem hkl, ← hr, cntL_snoc, ← HF.out]
      obtain ⟨A2, c2, rfl, hc2, hA2⟩ := hrow
      have hsz := HSr.out.1
      obtain ⟨r, hr2⟩ : ∃ r, r = row.length := ⟨_, rfl⟩
      rw [← hr2] at hsv hc2 HT hsz
      have HR := Lib.hid hr2
      have HA2 := Lib.hid hA2
      have i1 : (k : Int) < (n : Int) := by omega
      have HSV := Lib.hid hsv
      clear hr hcl hr2 hA2
      go_wp2_with fail
      go_loopw [3, 5] (fun s i wl => ∃ (j m' : Nat), j ≤ r ∧ i = .int .i64 j ∧ s = .int .i64 m' ∧ Hid (m' = m + r + manyL (row.take j)) ∧ Hid (0 < j → m' ≤ 150) ∧ wl = wr) (fun _ i _ => r - (intOf i).toNat)
      case atStart => exact ⟨0, m + r, Nat.zero_le _, rfl, by go_num, rfl, fun h => absurd h (Nat.lt_irrefl 0), by first | trivial | rfl⟩
      case round =>
        obtain ⟨j, m', hj, rfl, rfl, HF2, HP, rfl⟩ := hrel
        by_cases hlt2 : j < r
        · have hjl : j < row.length := by rw [← HR.out]; exact hlt2
          rcases HA2.out with h0 | ⟨b2, o2, e2, hb2, hcl2⟩
          · subst h0; simp at hjl
          subst e2
          obtain ⟨p, hp⟩ : ∃ p, p = row[j] := ⟨_, rfl⟩
          obtain ⟨_, ps, c3, hps, _⟩ : PtAt wr wr.heap.size b2 (o2 + j * 2) p := by rw [hp]; exact hcl2 j hjl
          obtain ⟨A3, c4, rfl, _, _⟩ := hps
          have hp5 := HSr.out.2 p (by rw [hp]; exact List.getElem_mem hjl)
          have HT2 : Hid (manyL (row.take (j + 1)) = manyL (row.take j) + p.2.length) := by
            show _ = _
            rw [List.take_succ_eq_append_getElem hjl, ← hp, manyL_snoc]
          obtain ⟨x, hx⟩ : ∃ x, x = p.2.length := ⟨_, rfl⟩
          rw [← hx] at c3 hp5 HT2
          have hm2 : m' ≤ 150 + 140737488355327 := by
            by_cases h0 : 0 < j
            · have := HP.out h0; omega
            · have hj0 : j = 0 := by omega
              have := HF2.out
              rw [hj0, List.take_zero] at this
              have h2 : manyL ([] : List Pts) = 0 := rfl
              omega
          have i2 : (j : Int) < (r : Int) := by omega
          clear hp hcl2 hx
          by_cases hbig : 150 < m' + x
          · have g1 : (150 : Int) < (m' : Int) + (x : Int) := by omega
            go_wp2_with fail
            go_ret
            exact ⟨false, rfl, fun h => (by cases h), Below.refl _ _⟩
          · have g1 : ¬ (150 : Int) < (m' : Int) + (x : Int) := by omega
            have hF3 : Hid (m' + x = m + r + manyL (row.take (j + 1))) := by have h1 := HF2.out; have h2 := HT2.out; show _ = _; omega
            go_wp2_with fail
            go_roundw
            case rel => exact ⟨j + 1, m' + x, by omega, by go_num, by go_num, hF3.out, fun _ => by omega, by first | trivial | rfl⟩
            case measure => simp [intOf]; omega
        · have hjr : j = r := by omega
          have hF3 : Hid (m' = cntL (ll.take (k + 1))) := by
            have h1 := HF2.out
            rw [hjr, HR.out, List.take_length, ← HR.out] at h1
            show _ = _
            rw [HT.out]; exact h1
          have hm3 : m' ≤ 150 := by
            by_cases h0 : 0 < j
            · exact HP.out h0
            · have hj0 : j = 0 := by omega
              have h1 := HF2.out
              rw [hj0, List.take_zero] at h1
              have h2 : manyL ([] : List Pts) = 0 := rfl
              omega
          clear hjr HF2
          go_wp2_with fail
          go_roundw
          case rel => exact ⟨k + 1, m', by omega, by go_num, rfl, hF3.out, hm3, by first | trivial | rfl⟩
          case measure => simp [intOf]; omega
    · obtain rfl : n = k := by omega
      have HF2 : Hid (m = cntL ll) := by have h := HF.out; rw [HN.out, List.take_length] at h; exact h
      by_cases h10 : n ≤ 10
      · have g1 : (n : Int) ≤ 10 := by omega
        have g2 : (m : Int) ≤ 150 := by omega
        go_wp2_with fail
        go_ret
        exact ⟨true, rfl, fun _ => ⟨h10, by rw [← HF2.out]; exact hm⟩, Below.refl _ _⟩
      · have g1 : ¬ (n : Int) ≤ 10 := by omega
        go_wp2_with fail
        go_ret
        first | exact ⟨false, rfl, fun h => (by cases h), Below.refl _ _⟩ | exact .inl ⟨rfl, trivial, Below.refl _ _⟩
end Go.Proofs.YtkcipfmbkokfdaaGreatDoor

/-
  The document's example: what it comes to; rows that are built.
-/
namespace Go.Proofs.YtkcipfmbkokfdaaGreatDoor
open Go.RowKit Go.Sort Go.Maps
def aA : List Pts := [(1, [mkS 5, mkS 12])]
def bB : List Pts := [(2, [mkS 3]), (1, [mkS 10])]
def cC : List Pts := [(1, [mkS 5, mkS 1000])]
theorem sort_fun : sortS = rsortS := funext fun l => (rsortS_eq l).symm
theorem aw_m : mergeS 10 [] 0 [aA, bB] = [(1, [mkS 10, mkS 12]), (2, [mkS 3])] := by
  unfold mergeS rowsS foM dedupS
  rw [sort_fun]
  decide +kernel
theorem aw_n : mergeS 10 [2] 11 [aA, bB] = [(1, [mkS 12])] := by
  unfold mergeS rowsS foM dedupS
  rw [sort_fun]
  decide +kernel
theorem aw_k : monthsK (cleanS cC) = [0, 1] := by
  unfold cleanS rowsS
  rw [sort_fun]
  decide +kernel
theorem aw_s : spanS (cleanS bB) = (3, 10, true) := by
  unfold cleanS rowsS
  rw [sort_fun]
  decide +kernel
theorem aw_y : manyL (cleanS bB) = 2 := by
  unfold cleanS rowsS
  rw [sort_fun]
  decide +kernel
theorem aw_c : (cleanS bB).length = 2 := by
  unfold cleanS rowsS
  rw [sort_fun]
  decide +kernel
theorem aw_o : (sortS (ofL aA 1)).length = 2 := by
  rw [sort_fun]
  decide +kernel
theorem RdZ.built (w : World) (l : List Int) (t : TypeId) : RdZ (w.alloc (.cells (l.map encZ).toArray t)) (w.alloc (.cells (l.map encZ).toArray t)).heap.size (.slice (some ⟨w.heap.size, 0, none⟩) l.length l.length) l :=
  ⟨_, l.length, rfl, Nat.le_refl _, .inr ⟨w.heap.size, 0, rfl, by simp, fun i hi => by
    rw [Nat.zero_add, new_cell]
    simp [hi]⟩⟩
theorem RdP.built (w : World) (cs : List Row) (t : TypeId) (h : ∀ x ∈ cs, Rd w w.heap.size x.2.1 x.2.2 ∧ Nz x.2.1) : RdP (w.alloc (.cells (cs.flatMap ptC).toArray t)) (w.alloc (.cells (cs.flatMap ptC).toArray t)).heap.size (.slice (some ⟨w.heap.size, 0, none⟩) cs.length cs.length) (cut cs) := by
  have hlen : (cut cs).length = cs.length := by simp [cut]
  have hB : Below w.heap.size w (w.alloc (.cells (cs.flatMap ptC).toArray t)) := (Below.refl _ w).alloc (Nat.le_refl _) _
  refine ⟨_, cs.length, by rw [hlen], by rw [hlen]; exact Nat.le_refl _, .inr ⟨w.heap.size, 0, rfl, by simp, fun i hi => ?_⟩⟩
  have hi' : i < cs.length := by rw [← hlen]; exact hi
  obtain ⟨q1, q2⟩ := h cs[i] (List.getElem_mem hi')
  have hcell : ∀ u (hu : u < 2), (w.alloc (.cells (cs.flatMap ptC).toArray t)).cell? ⟨w.heap.size, i * 2 + u, none⟩ = (ptC cs[i])[u]? := by
    intro u hu
    rw [new_cell]
    have := flat2 cs i u hi' hu
    simpa using this
  have hci : (cut cs)[i] = (cs[i].1, cs[i].2.2) := by simp [cut]
  rw [hci]
  exact ⟨by rw [Nat.zero_add]; exact hcell 0 (by omega), cs[i].2.1, by rw [Nat.zero_add]; exact hcell 1 (by omega), (q1.below hB).mono hB.size, q2⟩
theorem RdR.built (w : World) (vs : List (Value × List Pts)) (t : TypeId) (h : ∀ x ∈ vs, RdP w w.heap.size x.1 x.2) : RdR (w.alloc (.cells (vs.map (fun x => x.1)).toArray t)) (w.alloc (.cells (vs.map (fun x => x.1)).toArray t)).heap.size (.slice (some ⟨w.heap.size, 0, none⟩) vs.length vs.length) (vs.map (fun x => x.2)) := by
  have hB : Below w.heap.size w (w.alloc (.cells (vs.map (fun x => x.1)).toArray t)) := (Below.refl _ w).alloc (Nat.le_refl _) _
  refine ⟨_, vs.length, by rw [List.length_map], by rw [List.length_map]; exact Nat.le_refl _, .inr ⟨w.heap.size, 0, rfl, by simp, fun i hi => ?_⟩⟩
  have hi' : i < vs.length := by rw [List.length_map] at hi; exact hi
  refine ⟨vs[i].1, ?_, ?_⟩
  · rw [Nat.zero_add, new_cell]; simp [hi']
  · have := h vs[i] (List.getElem_mem hi')
    simpa using (this.below hB).mono hB.size
end Go.Proofs.YtkcipfmbkokfdaaGreatDoor
