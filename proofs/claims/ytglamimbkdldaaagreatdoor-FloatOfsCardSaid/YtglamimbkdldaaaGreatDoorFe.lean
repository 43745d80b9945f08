import Derived.Test.YtglamimbkdldaaaGreatDoorEf
namespace Go.Proofs.YtglamimbkdldaaaGreatDoor
open Go.RowKit Go.Sort

def chD (n : Nat) : UInt8 := UInt8.ofNat (48 + n)
theorem chD_nat (n : Nat) (h : n < 10) : ((chD n).toNat : Int) = n + 48 := by
  unfold chD; rw [UInt8.toNat_ofNat']; omega
/-- The exponent's digits: two, or three. -/
def expD (k : Nat) : List UInt8 := if k < 10 then [48, chD k] else if k < 100 then [chD (k / 10), chD (k % 10)] else [chD (k / 100), chD (k / 10 % 10), chD (k % 10)]
def expT (x : Int) : List UInt8 := [101] ++ [if x < 0 then 45 else 43] ++ expD x.natAbs
theorem expT_pos (k : Nat) : expT (k : Int) = 101 :: 43 :: expD k := by
  unfold expT; rw [if_neg (by omega)]; simp
theorem expT_neg (k : Nat) (h : 0 < k) : expT (-(k : Int)) = 101 :: 45 :: expD k := by
  unfold expT; rw [if_pos (by omega)]; simp
/-- The digits: one; a dot and the others, if there are others. -/
def digT (D : Nat → UInt8) (n : Nat) : List UInt8 := if n = 1 then [D 0] else [D 0] ++ [46] ++ (List.range (n - 1)).map fun i => D (i + 1)

set_option maxRecDepth 100000 in
set_option maxHeartbeats 2000000 in
/-- fmtEFG at 'e', the shortest digits. -/
theorem efg_walk (b n k : Nat) (x : Int) (neg : Bool) (D : Nat → UInt8) (v : Value) (W w : World) (hE : EF W w v [] b n D) (hn : 1 ≤ n) (hn' : n ≤ 20) (hx : x = k ∨ x = -(k : Int)) (hk : k < 1000) :
    Calls Tryz.prog 76 #[v, .bool neg, .slice (some ⟨b, 0, none⟩) 32 32, .int .i64 (x + 1), .int .i64 n, .int .i64 ((n : Int) - 1), .int .u8 101, .bool true] w fun e w' =>
      ∃ v', e = .returned v' ∧ EF W w' v' ((if neg then [45] else []) ++ digT D n ++ expT x) b n D := by
  have hc0 : w.cell? ⟨b, 0, none⟩ = some (.int .u8 ((D 0).toNat : Nat)) := hE.cells 0 (by omega)
  have hn0 : ((n : Int) != 0) = true := by rw [bne_iff_ne]; omega
  have hn1 : ((n : Int) == 0) = false := by rw [beq_eq_false_iff_ne]; omega
  have HE := Lib.hid hE
  have HX : Hid (x = (k : Int) ∨ (x = -(k : Int) ∧ 0 < k)) := by show _ ∨ _; omega
  clear hx hE
  cases neg
  · go_enter Tryz.func76, Tryz.ntmps76
    go_wp2_with (first | (at_builtin; go_loud (refine appE rfl _ _ rfl _ _ _ _ D [D 0] rfl (HE.out.alloc _) _ 0 1 1 rfl rfl (new1 _ (D 0) _ _ rfl) (by first | (simp; done) | (simp; omega)) ?_)) | fail)
    intro v1 w1 HE1
    have HE1 := Lib.hid HE1
    by_cases hn2 : n = 1
    · subst hn2
      go_wp2_with (first | (at_builtin; go_loud (refine appE rfl _ _ rfl _ _ _ _ D [101] rfl (HE1.out.alloc _) _ 0 1 1 rfl rfl (new1 _ 101 _ _ rfl) (by first | (simp; done) | (simp; omega)) ?_)) | fail)
      intro v2 w2 HE2
      have HE2 := Lib.hid HE2
      rcases HX.out with hx | ⟨hx, hk0⟩
      · subst hx
        go_wp2_with (first | (at_builtin; go_loud (refine appE rfl _ _ rfl _ _ _ _ D [43] rfl (HE2.out.alloc _) _ 0 1 1 rfl rfl (new1 _ 43 _ _ rfl) (by first | (simp; done) | (simp; omega)) ?_)) | fail)
        intro v3 w3 HE3
        have HE3 := Lib.hid HE3
        by_cases h10 : k < 10
        · have hkd := chD_nat k h10
          go_wp2_with (first | (at_builtin; go_loud (refine appE rfl _ _ rfl _ _ _ _ D [48, chD k] rfl (HE3.out.alloc _) _ 0 2 2 rfl rfl (new2 _ 48 (chD k) _ _ _ rfl (by omega)) (by first | (simp; done) | (simp; omega)) ?_)) | fail)
          intro v4 w4 HE4
          have HE4 := Lib.hid HE4
          go_wp2
          go_ret
          refine ⟨_, rfl, ?_⟩
          have e9 := HE4.out
          simpa [digT, expT_pos, expD, h10] using e9
        · by_cases h100 : k < 100
          · have hka := chD_nat (k / 10) (by omega)
            have hkb := chD_nat (k % 10) (by omega)
            go_wp2_with (first | (at_builtin; go_loud (refine appE rfl _ _ rfl _ _ _ _ D [chD (k / 10), chD (k % 10)] rfl (HE3.out.alloc _) _ 0 2 2 rfl rfl (new2 _ _ _ _ _ _ (by omega) (by omega)) (by first | (simp; done) | (simp; omega)) ?_)) | fail)
            intro v4 w4 HE4
            have HE4 := Lib.hid HE4
            go_wp2
            go_ret
            refine ⟨_, rfl, ?_⟩
            have e9 := HE4.out
            simpa [digT, expT_pos, expD, h10, h100] using e9
          · have hka := chD_nat (k / 100) (by omega)
            have hkb := chD_nat (k / 10 % 10) (by omega)
            have hkc := chD_nat (k % 10) (by omega)
            go_wp2_with (first | (at_builtin; go_loud (refine appE rfl _ _ rfl _ _ _ _ D [chD (k / 100), chD (k / 10 % 10), chD (k % 10)] rfl (HE3.out.alloc _) _ 0 3 3 rfl rfl (new3 _ _ _ _ _ _ _ _ (by omega) (by omega) (by omega)) (by first | (simp; done) | (simp; omega)) ?_)) | fail)
            intro v4 w4 HE4
            have HE4 := Lib.hid HE4
            go_wp2
            go_ret
            refine ⟨_, rfl, ?_⟩
            have e9 := HE4.out
            simpa [digT, expT_pos, expD, h10, h100] using e9
      · subst hx
        go_wp2_with (first | (at_builtin; go_loud (refine appE rfl _ _ rfl _ _ _ _ D [45] rfl (HE2.out.alloc _) _ 0 1 1 rfl rfl (new1 _ 45 _ _ rfl) (by first | (simp; done) | (simp; omega)) ?_)) | fail)
        intro v3 w3 HE3
        have HE3 := Lib.hid HE3
        by_cases h10 : k < 10
        · have hkd := chD_nat k h10
          go_wp2_with (first | (at_builtin; go_loud (refine appE rfl _ _ rfl _ _ _ _ D [48, chD k] rfl (HE3.out.alloc _) _ 0 2 2 rfl rfl (new2 _ 48 (chD k) _ _ _ rfl (by omega)) (by first | (simp; done) | (simp; omega)) ?_)) | fail)
          intro v4 w4 HE4
          have HE4 := Lib.hid HE4
          go_wp2
          go_ret
          refine ⟨_, rfl, ?_⟩
          have e9 := HE4.out
          simpa [digT, expT_neg k hk0, expD, h10] using e9
        · by_cases h100 : k < 100
          · have hka := chD_nat (k / 10) (by omega)
            have hkb := chD_nat (k % 10) (by omega)
            go_wp2_with (first | (at_builtin; go_loud (refine appE rfl _ _ rfl _ _ _ _ D [chD (k / 10), chD (k % 10)] rfl (HE3.out.alloc _) _ 0 2 2 rfl rfl (new2 _ _ _ _ _ _ (by omega) (by omega)) (by first | (simp; done) | (simp; omega)) ?_)) | fail)
            intro v4 w4 HE4
            have HE4 := Lib.hid HE4
            go_wp2
            go_ret
            refine ⟨_, rfl, ?_⟩
            have e9 := HE4.out
            simpa [digT, expT_neg k hk0, expD, h10, h100] using e9
          · have hka := chD_nat (k / 100) (by omega)
            have hkb := chD_nat (k / 10 % 10) (by omega)
            have hkc := chD_nat (k % 10) (by omega)
            go_wp2_with (first | (at_builtin; go_loud (refine appE rfl _ _ rfl _ _ _ _ D [chD (k / 100), chD (k / 10 % 10), chD (k % 10)] rfl (HE3.out.alloc _) _ 0 3 3 rfl rfl (new3 _ _ _ _ _ _ _ _ (by omega) (by omega) (by omega)) (by first | (simp; done) | (simp; omega)) ?_)) | fail)
            intro v4 w4 HE4
            have HE4 := Lib.hid HE4
            go_wp2
            go_ret
            refine ⟨_, rfl, ?_⟩
            have e9 := HE4.out
            simpa [digT, expT_neg k hk0, expD, h10, h100] using e9
    · obtain ⟨m, hm⟩ : ∃ m, n = m + 2 := ⟨n - 2, by omega⟩
      subst hm
      go_wp2_with (first | (at_builtin; go_loud (refine appE rfl _ _ rfl _ _ _ _ D [46] rfl (HE1.out.alloc _) _ 0 1 1 rfl rfl (new1 _ 46 _ _ rfl) (by first | (simp; done) | (simp; omega)) ?_)) | fail)
      intro v2 w2 HE2
      have HE2 := Lib.hid HE2
      obtain ⟨mid, hmid⟩ : ∃ mid, mid = (List.range (m + 1)).map fun i => D (i + 1) := ⟨_, rfl⟩
      have hml : mid.length = m + 1 := by rw [hmid]; simp
      have hcc : ∀ i (h : i < mid.length), w2.cell? ⟨b, 1 + i, none⟩ = some (eb mid[i]) := fun i h => by
        have h8 := HE2.out.cells (i + 1) (by omega)
        rw [Nat.add_comm 1 i, h8]; simp [hmid]
      have HDG : Hid (digT D (m + 2) = D 0 :: 46 :: mid) := by show _ = _; unfold digT; rw [if_neg (by omega), hmid]; rfl
      clear hmid
      go_wp2_with (first | (at_builtin; go_loud (refine appE rfl _ _ rfl _ _ _ _ D mid rfl HE2.out _ _ _ _ rfl (by first | (simp; done) | (simp; omega)) hcc (by first | (simp; done) | (simp; omega)) ?_)) | fail)
      intro v3 w3 HE3
      have HE3 := Lib.hid HE3
      go_wp2_with fail
      refine wp_loop_rounds 1 ?_
      rw [rounds_succ]
      go_wp2_with (first | (at_builtin; go_loud (refine appE rfl _ _ rfl _ _ _ _ D [101] rfl (HE3.out.alloc _) _ 0 1 1 rfl rfl (new1 _ 101 _ _ rfl) (by first | (simp; done) | (simp; omega)) ?_)) | fail)
      intro v4 w4 HE4
      have HE4 := Lib.hid HE4
      rcases HX.out with hx | ⟨hx, hk0⟩
      · subst hx
        go_wp2_with (first | (at_builtin; go_loud (refine appE rfl _ _ rfl _ _ _ _ D [43] rfl (HE4.out.alloc _) _ 0 1 1 rfl rfl (new1 _ 43 _ _ rfl) (by first | (simp; done) | (simp; omega)) ?_)) | fail)
        intro v5 w5 HE5
        have HE5 := Lib.hid HE5
        by_cases h10 : k < 10
        · have hkd := chD_nat k h10
          go_wp2_with (first | (at_builtin; go_loud (refine appE rfl _ _ rfl _ _ _ _ D [48, chD k] rfl (HE5.out.alloc _) _ 0 2 2 rfl rfl (new2 _ 48 (chD k) _ _ _ rfl (by omega)) (by first | (simp; done) | (simp; omega)) ?_)) | fail)
          intro v6 w6 HE6
          have HE6 := Lib.hid HE6
          go_wp2
          go_ret
          refine ⟨_, rfl, ?_⟩
          have e9 := HE6.out
          simpa [HDG.out, expT_pos, expD, h10] using e9
        · by_cases h100 : k < 100
          · have hka := chD_nat (k / 10) (by omega)
            have hkb := chD_nat (k % 10) (by omega)
            go_wp2_with (first | (at_builtin; go_loud (refine appE rfl _ _ rfl _ _ _ _ D [chD (k / 10), chD (k % 10)] rfl (HE5.out.alloc _) _ 0 2 2 rfl rfl (new2 _ _ _ _ _ _ (by omega) (by omega)) (by first | (simp; done) | (simp; omega)) ?_)) | fail)
            intro v6 w6 HE6
            have HE6 := Lib.hid HE6
            go_wp2
            go_ret
            refine ⟨_, rfl, ?_⟩
            have e9 := HE6.out
            simpa [HDG.out, expT_pos, expD, h10, h100] using e9
          · have hka := chD_nat (k / 100) (by omega)
            have hkb := chD_nat (k / 10 % 10) (by omega)
            have hkc := chD_nat (k % 10) (by omega)
            go_wp2_with (first | (at_builtin; go_loud (refine appE rfl _ _ rfl _ _ _ _ D [chD (k / 100), chD (k / 10 % 10), chD (k % 10)] rfl (HE5.out.alloc _) _ 0 3 3 rfl rfl (new3 _ _ _ _ _ _ _ _ (by omega) (by omega) (by omega)) (by first | (simp; done) | (simp; omega)) ?_)) | fail)
            intro v6 w6 HE6
            have HE6 := Lib.hid HE6
            go_wp2
            go_ret
            refine ⟨_, rfl, ?_⟩
            have e9 := HE6.out
            simpa [HDG.out, expT_pos, expD, h10, h100] using e9
      · subst hx
        go_wp2_with (first | (at_builtin; go_loud (refine appE rfl _ _ rfl _ _ _ _ D [45] rfl (HE4.out.alloc _) _ 0 1 1 rfl rfl (new1 _ 45 _ _ rfl) (by first | (simp; done) | (simp; omega)) ?_)) | fail)
        intro v5 w5 HE5
        have HE5 := Lib.hid HE5
        by_cases h10 : k < 10
        · have hkd := chD_nat k h10
          go_wp2_with (first | (at_builtin; go_loud (refine appE rfl _ _ rfl _ _ _ _ D [48, chD k] rfl (HE5.out.alloc _) _ 0 2 2 rfl rfl (new2 _ 48 (chD k) _ _ _ rfl (by omega)) (by first | (simp; done) | (simp; omega)) ?_)) | fail)
          intro v6 w6 HE6
          have HE6 := Lib.hid HE6
          go_wp2
          go_ret
          refine ⟨_, rfl, ?_⟩
          have e9 := HE6.out
          simpa [HDG.out, expT_neg k hk0, expD, h10] using e9
        · by_cases h100 : k < 100
          · have hka := chD_nat (k / 10) (by omega)
            have hkb := chD_nat (k % 10) (by omega)
            go_wp2_with (first | (at_builtin; go_loud (refine appE rfl _ _ rfl _ _ _ _ D [chD (k / 10), chD (k % 10)] rfl (HE5.out.alloc _) _ 0 2 2 rfl rfl (new2 _ _ _ _ _ _ (by omega) (by omega)) (by first | (simp; done) | (simp; omega)) ?_)) | fail)
            intro v6 w6 HE6
            have HE6 := Lib.hid HE6
            go_wp2
            go_ret
            refine ⟨_, rfl, ?_⟩
            have e9 := HE6.out
            simpa [HDG.out, expT_neg k hk0, expD, h10, h100] using e9
          · have hka := chD_nat (k / 100) (by omega)
            have hkb := chD_nat (k / 10 % 10) (by omega)
            have hkc := chD_nat (k % 10) (by omega)
            go_wp2_with (first | (at_builtin; go_loud (refine appE rfl _ _ rfl _ _ _ _ D [chD (k / 100), chD (k / 10 % 10), chD (k % 10)] rfl (HE5.out.alloc _) _ 0 3 3 rfl rfl (new3 _ _ _ _ _ _ _ _ (by omega) (by omega) (by omega)) (by first | (simp; done) | (simp; omega)) ?_)) | fail)
            intro v6 w6 HE6
            have HE6 := Lib.hid HE6
            go_wp2
            go_ret
            refine ⟨_, rfl, ?_⟩
            have e9 := HE6.out
            simpa [HDG.out, expT_neg k hk0, expD, h10, h100] using e9
  · go_enter Tryz.func76, Tryz.ntmps76
    go_wp2_with (first | (at_builtin; go_loud (refine appE rfl _ _ rfl _ _ _ _ D [45] rfl (HE.out.alloc _) _ 0 1 1 rfl rfl (new1 _ 45 _ _ rfl) (by first | (simp; done) | (simp; omega)) ?_)) | fail)
    intro v1 w1 HE1
    have HE1 := Lib.hid HE1
    have hc1 : w1.cell? ⟨b, 0, none⟩ = some (.int .u8 ((D 0).toNat : Nat)) := HE1.out.cells 0 (by omega)
    go_wp2_with (first | (at_builtin; go_loud (refine appE rfl _ _ rfl _ _ _ _ D [D 0] rfl (HE1.out.alloc _) _ 0 1 1 rfl rfl (new1 _ (D 0) _ _ rfl) (by first | (simp; done) | (simp; omega)) ?_)) | fail)
    intro v2 w2 HE2
    have HE2 := Lib.hid HE2
    by_cases hn2 : n = 1
    · subst hn2
      go_wp2_with (first | (at_builtin; go_loud (refine appE rfl _ _ rfl _ _ _ _ D [101] rfl (HE2.out.alloc _) _ 0 1 1 rfl rfl (new1 _ 101 _ _ rfl) (by first | (simp; done) | (simp; omega)) ?_)) | fail)
      intro v3 w3 HE3
      have HE3 := Lib.hid HE3
      rcases HX.out with hx | ⟨hx, hk0⟩
      · subst hx
        go_wp2_with (first | (at_builtin; go_loud (refine appE rfl _ _ rfl _ _ _ _ D [43] rfl (HE3.out.alloc _) _ 0 1 1 rfl rfl (new1 _ 43 _ _ rfl) (by first | (simp; done) | (simp; omega)) ?_)) | fail)
        intro v4 w4 HE4
        have HE4 := Lib.hid HE4
        by_cases h10 : k < 10
        · have hkd := chD_nat k h10
          go_wp2_with (first | (at_builtin; go_loud (refine appE rfl _ _ rfl _ _ _ _ D [48, chD k] rfl (HE4.out.alloc _) _ 0 2 2 rfl rfl (new2 _ 48 (chD k) _ _ _ rfl (by omega)) (by first | (simp; done) | (simp; omega)) ?_)) | fail)
          intro v5 w5 HE5
          have HE5 := Lib.hid HE5
          go_wp2
          go_ret
          refine ⟨_, rfl, ?_⟩
          have e9 := HE5.out
          simpa [digT, expT_pos, expD, h10] using e9
        · by_cases h100 : k < 100
          · have hka := chD_nat (k / 10) (by omega)
            have hkb := chD_nat (k % 10) (by omega)
            go_wp2_with (first | (at_builtin; go_loud (refine appE rfl _ _ rfl _ _ _ _ D [chD (k / 10), chD (k % 10)] rfl (HE4.out.alloc _) _ 0 2 2 rfl rfl (new2 _ _ _ _ _ _ (by omega) (by omega)) (by first | (simp; done) | (simp; omega)) ?_)) | fail)
            intro v5 w5 HE5
            have HE5 := Lib.hid HE5
            go_wp2
            go_ret
            refine ⟨_, rfl, ?_⟩
            have e9 := HE5.out
            simpa [digT, expT_pos, expD, h10, h100] using e9
          · have hka := chD_nat (k / 100) (by omega)
            have hkb := chD_nat (k / 10 % 10) (by omega)
            have hkc := chD_nat (k % 10) (by omega)
            go_wp2_with (first | (at_builtin; go_loud (refine appE rfl _ _ rfl _ _ _ _ D [chD (k / 100), chD (k / 10 % 10), chD (k % 10)] rfl (HE4.out.alloc _) _ 0 3 3 rfl rfl (new3 _ _ _ _ _ _ _ _ (by omega) (by omega) (by omega)) (by first | (simp; done) | (simp; omega)) ?_)) | fail)
            intro v5 w5 HE5
            have HE5 := Lib.hid HE5
            go_wp2
            go_ret
            refine ⟨_, rfl, ?_⟩
            have e9 := HE5.out
            simpa [digT, expT_pos, expD, h10, h100] using e9
      · subst hx
        go_wp2_with (first | (at_builtin; go_loud (refine appE rfl _ _ rfl _ _ _ _ D [45] rfl (HE3.out.alloc _) _ 0 1 1 rfl rfl (new1 _ 45 _ _ rfl) (by first | (simp; done) | (simp; omega)) ?_)) | fail)
        intro v4 w4 HE4
        have HE4 := Lib.hid HE4
        by_cases h10 : k < 10
        · have hkd := chD_nat k h10
          go_wp2_with (first | (at_builtin; go_loud (refine appE rfl _ _ rfl _ _ _ _ D [48, chD k] rfl (HE4.out.alloc _) _ 0 2 2 rfl rfl (new2 _ 48 (chD k) _ _ _ rfl (by omega)) (by first | (simp; done) | (simp; omega)) ?_)) | fail)
          intro v5 w5 HE5
          have HE5 := Lib.hid HE5
          go_wp2
          go_ret
          refine ⟨_, rfl, ?_⟩
          have e9 := HE5.out
          simpa [digT, expT_neg k hk0, expD, h10] using e9
        · by_cases h100 : k < 100
          · have hka := chD_nat (k / 10) (by omega)
            have hkb := chD_nat (k % 10) (by omega)
            go_wp2_with (first | (at_builtin; go_loud (refine appE rfl _ _ rfl _ _ _ _ D [chD (k / 10), chD (k % 10)] rfl (HE4.out.alloc _) _ 0 2 2 rfl rfl (new2 _ _ _ _ _ _ (by omega) (by omega)) (by first | (simp; done) | (simp; omega)) ?_)) | fail)
            intro v5 w5 HE5
            have HE5 := Lib.hid HE5
            go_wp2
            go_ret
            refine ⟨_, rfl, ?_⟩
            have e9 := HE5.out
            simpa [digT, expT_neg k hk0, expD, h10, h100] using e9
          · have hka := chD_nat (k / 100) (by omega)
            have hkb := chD_nat (k / 10 % 10) (by omega)
            have hkc := chD_nat (k % 10) (by omega)
            go_wp2_with (first | (at_builtin; go_loud (refine appE rfl _ _ rfl _ _ _ _ D [chD (k / 100), chD (k / 10 % 10), chD (k % 10)] rfl (HE4.out.alloc _) _ 0 3 3 rfl rfl (new3 _ _ _ _ _ _ _ _ (by omega) (by omega) (by omega)) (by first | (simp; done) | (simp; omega)) ?_)) | fail)
            intro v5 w5 HE5
            have HE5 := Lib.hid HE5
            go_wp2
            go_ret
            refine ⟨_, rfl, ?_⟩
            have e9 := HE5.out
            simpa [digT, expT_neg k hk0, expD, h10, h100] using e9
    · obtain ⟨m, hm⟩ : ∃ m, n = m + 2 := ⟨n - 2, by omega⟩
      subst hm
      go_wp2_with (first | (at_builtin; go_loud (refine appE rfl _ _ rfl _ _ _ _ D [46] rfl (HE2.out.alloc _) _ 0 1 1 rfl rfl (new1 _ 46 _ _ rfl) (by first | (simp; done) | (simp; omega)) ?_)) | fail)
      intro v3 w3 HE3
      have HE3 := Lib.hid HE3
      obtain ⟨mid, hmid⟩ : ∃ mid, mid = (List.range (m + 1)).map fun i => D (i + 1) := ⟨_, rfl⟩
      have hml : mid.length = m + 1 := by rw [hmid]; simp
      have hcc : ∀ i (h : i < mid.length), w3.cell? ⟨b, 1 + i, none⟩ = some (eb mid[i]) := fun i h => by
        have h8 := HE3.out.cells (i + 1) (by omega)
        rw [Nat.add_comm 1 i, h8]; simp [hmid]
      have HDG : Hid (digT D (m + 2) = D 0 :: 46 :: mid) := by show _ = _; unfold digT; rw [if_neg (by omega), hmid]; rfl
      clear hmid
      go_wp2_with (first | (at_builtin; go_loud (refine appE rfl _ _ rfl _ _ _ _ D mid rfl HE3.out _ _ _ _ rfl (by first | (simp; done) | (simp; omega)) hcc (by first | (simp; done) | (simp; omega)) ?_)) | fail)
      intro v4 w4 HE4
      have HE4 := Lib.hid HE4
      go_wp2_with fail
      refine wp_loop_rounds 1 ?_
      rw [rounds_succ]
      go_wp2_with (first | (at_builtin; go_loud (refine appE rfl _ _ rfl _ _ _ _ D [101] rfl (HE4.out.alloc _) _ 0 1 1 rfl rfl (new1 _ 101 _ _ rfl) (by first | (simp; done) | (simp; omega)) ?_)) | fail)
      intro v5 w5 HE5
      have HE5 := Lib.hid HE5
      rcases HX.out with hx | ⟨hx, hk0⟩
      · subst hx
        go_wp2_with (first | (at_builtin; go_loud (refine appE rfl _ _ rfl _ _ _ _ D [43] rfl (HE5.out.alloc _) _ 0 1 1 rfl rfl (new1 _ 43 _ _ rfl) (by first | (simp; done) | (simp; omega)) ?_)) | fail)
        intro v6 w6 HE6
        have HE6 := Lib.hid HE6
        by_cases h10 : k < 10
        · have hkd := chD_nat k h10
          go_wp2_with (first | (at_builtin; go_loud (refine appE rfl _ _ rfl _ _ _ _ D [48, chD k] rfl (HE6.out.alloc _) _ 0 2 2 rfl rfl (new2 _ 48 (chD k) _ _ _ rfl (by omega)) (by first | (simp; done) | (simp; omega)) ?_)) | fail)
          intro v7 w7 HE7
          have HE7 := Lib.hid HE7
          go_wp2
          go_ret
          refine ⟨_, rfl, ?_⟩
          have e9 := HE7.out
          simpa [HDG.out, expT_pos, expD, h10] using e9
        · by_cases h100 : k < 100
          · have hka := chD_nat (k / 10) (by omega)
            have hkb := chD_nat (k % 10) (by omega)
            go_wp2_with (first | (at_builtin; go_loud (refine appE rfl _ _ rfl _ _ _ _ D [chD (k / 10), chD (k % 10)] rfl (HE6.out.alloc _) _ 0 2 2 rfl rfl (new2 _ _ _ _ _ _ (by omega) (by omega)) (by first | (simp; done) | (simp; omega)) ?_)) | fail)
            intro v7 w7 HE7
            have HE7 := Lib.hid HE7
            go_wp2
            go_ret
            refine ⟨_, rfl, ?_⟩
            have e9 := HE7.out
            simpa [HDG.out, expT_pos, expD, h10, h100] using e9
          · have hka := chD_nat (k / 100) (by omega)
            have hkb := chD_nat (k / 10 % 10) (by omega)
            have hkc := chD_nat (k % 10) (by omega)
            go_wp2_with (first | (at_builtin; go_loud (refine appE rfl _ _ rfl _ _ _ _ D [chD (k / 100), chD (k / 10 % 10), chD (k % 10)] rfl (HE6.out.alloc _) _ 0 3 3 rfl rfl (new3 _ _ _ _ _ _ _ _ (by omega) (by omega) (by omega)) (by first | (simp; done) | (simp; omega)) ?_)) | fail)
            intro v7 w7 HE7
            have HE7 := Lib.hid HE7
            go_wp2
            go_ret
            refine ⟨_, rfl, ?_⟩
            have e9 := HE7.out
            simpa [HDG.out, expT_pos, expD, h10, h100] using e9
      · subst hx
        go_wp2_with (first | (at_builtin; go_loud (refine appE rfl _ _ rfl _ _ _ _ D [45] rfl (HE5.out.alloc _) _ 0 1 1 rfl rfl (new1 _ 45 _ _ rfl) (by first | (simp; done) | (simp; omega)) ?_)) | fail)
        intro v6 w6 HE6
        have HE6 := Lib.hid HE6
        by_cases h10 : k < 10
        · have hkd := chD_nat k h10
          go_wp2_with (first | (at_builtin; go_loud (refine appE rfl _ _ rfl _ _ _ _ D [48, chD k] rfl (HE6.out.alloc _) _ 0 2 2 rfl rfl (new2 _ 48 (chD k) _ _ _ rfl (by omega)) (by first | (simp; done) | (simp; omega)) ?_)) | fail)
          intro v7 w7 HE7
          have HE7 := Lib.hid HE7
          go_wp2
          go_ret
          refine ⟨_, rfl, ?_⟩
          have e9 := HE7.out
          simpa [HDG.out, expT_neg k hk0, expD, h10] using e9
        · by_cases h100 : k < 100
          · have hka := chD_nat (k / 10) (by omega)
            have hkb := chD_nat (k % 10) (by omega)
            go_wp2_with (first | (at_builtin; go_loud (refine appE rfl _ _ rfl _ _ _ _ D [chD (k / 10), chD (k % 10)] rfl (HE6.out.alloc _) _ 0 2 2 rfl rfl (new2 _ _ _ _ _ _ (by omega) (by omega)) (by first | (simp; done) | (simp; omega)) ?_)) | fail)
            intro v7 w7 HE7
            have HE7 := Lib.hid HE7
            go_wp2
            go_ret
            refine ⟨_, rfl, ?_⟩
            have e9 := HE7.out
            simpa [HDG.out, expT_neg k hk0, expD, h10, h100] using e9
          · have hka := chD_nat (k / 100) (by omega)
            have hkb := chD_nat (k / 10 % 10) (by omega)
            have hkc := chD_nat (k % 10) (by omega)
            go_wp2_with (first | (at_builtin; go_loud (refine appE rfl _ _ rfl _ _ _ _ D [chD (k / 100), chD (k / 10 % 10), chD (k % 10)] rfl (HE6.out.alloc _) _ 0 3 3 rfl rfl (new3 _ _ _ _ _ _ _ _ (by omega) (by omega) (by omega)) (by first | (simp; done) | (simp; omega)) ?_)) | fail)
            intro v7 w7 HE7
            have HE7 := Lib.hid HE7
            go_wp2
            go_ret
            refine ⟨_, rfl, ?_⟩
            have e9 := HE7.out
            simpa [HDG.out, expT_neg k hk0, expD, h10, h100] using e9
end Go.Proofs.YtglamimbkdldaaaGreatDoor
