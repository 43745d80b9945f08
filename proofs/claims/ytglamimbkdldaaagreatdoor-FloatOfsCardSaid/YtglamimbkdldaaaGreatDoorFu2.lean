import Derived.Test.YtglamimbkdldaaaGreatDoorSt2
import Derived.Test.YtglamimbkdldaaaGreatDoorFf
namespace Go.Proofs.YtglamimbkdldaaaGreatDoor
open Go.RowKit Go.Sort
attribute [local go_sem] run_fb
set_option maxRecDepth 100000 in
set_option maxHeartbeats 2000000 in
theorem ft_walk1 (f r d n nz z : Nat) (p x : Int) (neg : Bool) (v : Value) (W w : World) (T : Tabs w) (hO : OwnB w W.heap.size v []) (hB : Below W.heap.size W w)
    (hf : f < 18446744073709551616) (hr : r < 4503599627370496) (hr1 : 1 ≤ r) (hz : 12 ≤ z) (hz' : z ≤ 63) (hrz : r * 2 ^ z < 18446744073709551616)
    (hA : ((f : Int) / 9223372036854775808 != 0) = neg) (hq2 : bits BinOp.and IntKind.i64 ((f : Int) / 4503599627370496) 2047 = 0) (hr2 : bits BinOp.and IntKind.u64 (f : Int) 4503599627370495 = (r : Int))
    (hd : 1 ≤ d) (hd' : d < 18446744073709551616) (hn : n = Lib.nDigits d) (hn' : n ≤ 20) (hnz : nz = trimZ (fun t => Lib.dg d (n - 1 - t)) n) (hnz1 : 1 ≤ nz) (hnz2 : nz ≤ n) (hx : x = n + p - 1) (hp : -400 ≤ p) (hp' : p ≤ 400)
    (hlen : ∀ w, Calls Tryz.prog 68 #[.int .u64 (r : Int)] w fun e w' => e = .returned (.int .i64 (64 - (z : Int))) ∧ w' = w)
    (hsf : ∀ w, Tabs w → Calls Tryz.prog 83 #[.int .u64 ((r * 2 ^ z : Nat) : Int), .int .i64 (-1074 - (z : Int))] w fun e w' => e = .returned (.tuple #[.int .u64 d, .int .i64 p]) ∧ Ext w w') :
    Calls Tryz.prog 59 #[v, .float .f64 f, .int .u8 101, .int .i64 (-1)] w fun e w' =>
      ∃ v', e = .returned v' ∧ OwnB w' W.heap.size v' ((if neg then [45] else []) ++ digT (fun t => Lib.dg d (n - 1 - t)) nz ++ expT x) ∧ Below W.heap.size W w' := by
  obtain ⟨tx, htx⟩ : ∃ tx, tx = (if neg then [45] else []) ++ digT (fun t => Lib.dg d (n - 1 - t)) nz ++ expT x := ⟨_, rfl⟩
  rw [← htx]
  have hE1 : IntKind.u64.wrap ((r : Int) * 2 ^ (64 - (64 - z))) = ((r * 2 ^ z : Nat) : Int) := by
    rw [show 64 - (64 - z) = z by omega, show (r : Int) * 2 ^ z = ((r * 2 ^ z : Nat) : Int) by push_cast; rfl, IntKind.wrap_u64]
    omega
  have HE1 := Lib.hid hE1
  have HTX := Lib.hid htx
  clear htx
  have KS := Lib.hid hsf
  have KL := Lib.hid hlen
  have HT := Lib.hid T
  have HO := Lib.hid hO
  have HB := Lib.hid hB
  clear hlen hsf T hO hB hE1 hrz
  go_enter Tryz.func59, Tryz.ntmps59
  go_wp2_with fail
  go_quiet (fail)
  go_wp2_with fail
  refine (KL.out _).mono ?_; rintro e w1 ⟨rfl, rfl⟩
  go_wp2_with fail
  have hT1 : Tabs ((w.drewN nq).alloc (.cells z32 107)) := HT.out.ext (((Ext.refl _).drewN _).alloc _)
  rw [HE1.out, show -1022 - (64 - (64 - (z : Int))) - 52 = -1074 - (z : Int) by omega]
  refine (KS.out ((w.drewN nq).alloc (.cells z32 107)) hT1).mono ?_; rintro e w2 ⟨rfl, hE2⟩
  have hT2 : Tabs w2 := hT1.ext hE2
  have H32 : Hid (Holds eb w2 w.heap.size 0 (Array.replicate n (0 : UInt8))) := holds32 (w.drewN nq) w2 _ n (by omega) hE2
  have HE2 : Hid (Below w.heap.size w w2) := (((Ext.refl w).drewN nq).alloc _ |>.trans hE2).below
  have HL2 : Hid (w.heap.size < w2.heap.size) := by
    have := hE2.size
    simp at this
    exact this
  have HN := Lib.hid hn
  have HU := Lib.hid (hT2.u64)
  clear hT1 hT2 hE2 hn
  have hBB := HE2.out
  go_wp2_with fail
  go_region_held3 (fun w' => Below w.heap.size w w')
    (first | assumption | exact Below.drew (by assumption) | exact below_of_put HE2.out rfl)
    (first | (go_at_call 54; refine (Tryz.internal_strconv_numDigits d hd hd' _ (by exact HU.out)).mono ?_; rintro e w3 ⟨rfl, rfl⟩; rw [← HN.out]) | (go_at_call 78; refine (setDigits_walk w.heap.size d n p _ (Array.replicate n (0 : UInt8)) hd' (by omega) hn' (HN.out ▸ Lib.lt_pow_nDigits d) (by omega) (by omega) (by exact H32.out) (by simp)).mono ?_; rintro e w4 ⟨rfl, k4, dk, hw4, hs4, hd4⟩; have hB4 : Below w.heap.size w w4 := (below_of_put HE2.out hw4)))
  rw [← hnz] at *
  go_wp2_with fail
  have hxe : (n : Int) + p = x + 1 := by omega
  rw [hxe, show max ((nz : Int) - 1) 0 = (nz : Int) - 1 from by omega]
  refine (efg_walk w.heap.size nz x.natAbs x neg (fun t => Lib.dg d (n - 1 - t)) v W _ (ef_of (w := w) (w2 := w2.drew) (d0 := Array.replicate n (0 : UInt8)) HO.out HB.out rfl (Below.drew HE2.out) HL2.out H32.out (by simp; exact hs4) (by omega) (fun t ht => hd4 t (by omega))) hnz1 (by omega) (by omega) (by omega)).mono ?_
  rintro e w5 ⟨v5, rfl, HE5⟩
  rw [← HTX.out] at HE5
  have HE5 := Lib.hid HE5
  clear hxe hx hnz hd4
  go_wp2
  all_goals go_ret
  all_goals exact ⟨_, rfl, HE5.out.own, HE5.out.below⟩
end Go.Proofs.YtglamimbkdldaaaGreatDoor

namespace Go.Proofs.YtglamimbkdldaaaGreatDoor
open Go.RowKit Go.Sort
attribute [local go_sem] run_fb

set_option maxRecDepth 100000 in
set_option maxHeartbeats 2000000 in
/-- fmtEFG of nothing: 0e+00. -/
theorem efg_zero (b : Nat) (D : Nat → UInt8) (v : Value) (W w : World) (hE : EF W w v [] b 0 D) :
    Calls Tryz.prog 76 #[v, .bool false, .slice none 0 0, .int .i64 0, .int .i64 0, .int .i64 (-1), .int .u8 101, .bool true] w fun e w' =>
      ∃ v', e = .returned v' ∧ EF W w' v' [48, 101, 43, 48, 48] b 0 D := by
  have HE := Lib.hid hE
  clear hE
  go_enter Tryz.func76, Tryz.ntmps76
  go_wp2_with (first | (at_builtin; go_loud (refine appE rfl _ _ rfl _ _ _ _ D [48] rfl (HE.out.alloc _) _ 0 1 1 rfl rfl (new1 _ 48 _ _ rfl) (by first | (simp; done) | (simp; omega)) ?_)) | fail)
  intro v1 w1 HE1
  have HE1 := Lib.hid HE1
  go_wp2_with (first | (at_builtin; go_loud (refine appE rfl _ _ rfl _ _ _ _ D [101] rfl (HE1.out.alloc _) _ 0 1 1 rfl rfl (new1 _ 101 _ _ rfl) (by first | (simp; done) | (simp; omega)) ?_)) | fail)
  intro v2 w2 HE2
  have HE2 := Lib.hid HE2
  go_wp2_with (first | (at_builtin; go_loud (refine appE rfl _ _ rfl _ _ _ _ D [43] rfl (HE2.out.alloc _) _ 0 1 1 rfl rfl (new1 _ 43 _ _ rfl) (by first | (simp; done) | (simp; omega)) ?_)) | fail)
  intro v3 w3 HE3
  have HE3 := Lib.hid HE3
  go_wp2_with (first | (at_builtin; go_loud (refine appE rfl _ _ rfl _ _ _ _ D [48, 48] rfl (HE3.out.alloc _) _ 0 2 2 rfl rfl (new2 _ 48 48 _ _ _ rfl rfl) (by first | (simp; done) | (simp; omega)) ?_)) | fail)
  intro v4 w4 HE4
  have HE4 := Lib.hid HE4
  go_wp2
  go_ret
  refine ⟨_, rfl, ?_⟩
  have e9 := HE4.out
  simpa using e9
set_option maxRecDepth 100000 in
set_option maxHeartbeats 2000000 in
theorem ft_zero (v : Value) (W w : World) (hO : OwnB w W.heap.size v []) (hB : Below W.heap.size W w) (h0 : 0 < W.heap.size) :
    Calls Tryz.prog 59 #[v, .float .f64 0, .int .u8 101, .int .i64 (-1)] w fun e w' =>
      ∃ v', e = .returned v' ∧ OwnB w' W.heap.size v' [48, 101, 43, 48, 48] ∧ Below W.heap.size W w' := by
  have hE : ∀ k, EF W (w.drewN k) v [] 0 0 (fun _ => 48) := fun k => ⟨hO, fun h => by have := hO.blk h; omega, Nat.lt_of_lt_of_le h0 hB.size, fun t ht => by omega, hB.trans ⟨rfl, rfl, rfl, Nat.le_refl _, fun _ _ => rfl⟩⟩
  have HE := Lib.hid hE
  clear hO hB hE
  go_enter Tryz.func59, Tryz.ntmps59
  go_wp2_with fail
  go_quiet (fail)
  go_wp2_with fail
  refine (efg_zero 0 (fun _ => 48) v W _ (HE.out _)).mono ?_
  rintro e w5 ⟨v5, rfl, HE5⟩
  have HE5 := Lib.hid HE5
  go_wp2
  all_goals go_ret
  all_goals exact ⟨_, rfl, HE5.out.own, HE5.out.below⟩
end Go.Proofs.YtglamimbkdldaaaGreatDoor
