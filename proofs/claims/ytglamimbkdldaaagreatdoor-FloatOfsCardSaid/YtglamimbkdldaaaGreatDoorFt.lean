import Derived.Test.YtglamimbkdldaaaGreatDoorFe
import Derived.Test.YtglamimbkdldaaaGreatDoorEp
import Derived.Deep.RegionHeld3
namespace Go.Proofs.YtglamimbkdldaaaGreatDoor
open Go.RowKit Go.Sort
theorem run_fb (n : Nat) (w : World) : (callFunc 73 #[.float .f64 n]).run Tryz.prog w = .ok (.value (.int .u64 n)) w := by
  rw [run_callFunc_extern Tryz.func73 (by kernel_rfl) (by kernel_rfl) (by kernel_rfl) (e := Extern.MathFloatBits.float64bits) (by kernel_rfl)]; rfl
attribute [local go_sem] run_fb

theorem below_of_put {w w2 w4 : World} {dk : Array UInt8} {k : Nat} (h : Below w.heap.size w w2) (e : w4 = (putRow eb w2.drew w.heap.size 0 dk).drewN k) : Below w.heap.size w w4 := by
  rw [e]; exact (Below.drew h).trans (putRow_below _ _ _ _ _ (Nat.le_refl _))
def signB (neg : Bool) : Nat := if neg then 9223372036854775808 else 0
set_option maxRecDepth 100000 in
set_option maxHeartbeats 2000000 in
theorem ft_walk0 (f q r d n nz : Nat) (p x : Int) (neg : Bool) (v : Value) (W w : World) (T : Tabs w) (hO : OwnB w W.heap.size v []) (hB : Below W.heap.size W w)
    (hf : f < 18446744073709551616) (hq : 1 ≤ q) (hq' : q ≤ 2046) (hr : r < 4503599627370496)
    (hA : ((f : Int) / 9223372036854775808 != 0) = neg) (hq2 : bits BinOp.and IntKind.i64 ((f : Int) / 4503599627370496) 2047 = (q : Int)) (hr2 : bits BinOp.and IntKind.u64 (f : Int) 4503599627370495 = (r : Int))
    (ho : bits BinOp.or IntKind.u64 (r : Int) 4503599627370496 = ((r + 4503599627370496 : Nat) : Int))
    (hd : 1 ≤ d) (hd' : d < 18446744073709551616) (hn : n = Lib.nDigits d) (hn' : n ≤ 20) (hnz : nz = trimZ (fun t => Lib.dg d (n - 1 - t)) n) (hnz1 : 1 ≤ nz) (hnz2 : nz ≤ n) (hx : x = n + p - 1) (hp : -400 ≤ p) (hp' : p ≤ 400)
    (hlen : ∀ w, Calls Tryz.prog 68 #[.int .u64 ((r : Int) + 4503599627370496)] w fun e w' => e = .returned (.int .i64 53) ∧ w' = w)
    (hsf : ∀ w, Tabs w → Calls Tryz.prog 83 #[.int .u64 (((r : Int) + 4503599627370496) * 2048), .int .i64 ((q : Int) + -1023 - 11 - 52)] w fun e w' => e = .returned (.tuple #[.int .u64 d, .int .i64 p]) ∧ Ext w w') :
    Calls Tryz.prog 59 #[v, .float .f64 f, .int .u8 101, .int .i64 (-1)] w fun e w' =>
      ∃ v', e = .returned v' ∧ OwnB w' W.heap.size v' ((if neg then [45] else []) ++ digT (fun t => Lib.dg d (n - 1 - t)) nz ++ expT x) ∧ Below W.heap.size W w' := by
  obtain ⟨tx, htx⟩ : ∃ tx, tx = (if neg then [45] else []) ++ digT (fun t => Lib.dg d (n - 1 - t)) nz ++ expT x := ⟨_, rfl⟩
  rw [← htx]
  have HTX := Lib.hid htx
  clear htx
  have KS := Lib.hid hsf
  have KL := Lib.hid hlen
  have HT := Lib.hid T
  have HO := Lib.hid hO
  have HB := Lib.hid hB
  clear hlen hsf T hO hB
  go_enter Tryz.func59, Tryz.ntmps59
  go_wp2_with fail
  go_quiet (fail)
  go_wp2_with fail
  refine (KL.out _).mono ?_; rintro e w1 ⟨rfl, rfl⟩
  go_wp2_with fail
  have hT1 : Tabs ((w.drewN nq).alloc (.cells z32 107)) := HT.out.ext (((Ext.refl _).drewN _).alloc _)
  refine (KS.out ((w.drewN nq).alloc (.cells z32 107)) hT1).mono ?_; rintro e w2 ⟨rfl, hE2⟩
  have hT2 : Tabs w2 := hT1.ext hE2
  have H32 : Hid (Holds eb w2 w.heap.size 0 (Array.replicate n (0 : UInt8))) := holds32 (w.drewN nq) w2 _ n (by omega) hE2
  have HE2 : Hid (Below w.heap.size w w2) := (((Ext.refl w).drewN nq).alloc _ |>.trans hE2).below
  have HL2 : Hid (w.heap.size < w2.heap.size) := by
    have := hE2.size
    simp at this
    exact this
  have HN := Lib.hid hn
  have HU := Lib.hid (hT2.u64)
  clear hT1 hT2 hE2 hn
  have hBB := HE2.out
  go_wp2_with fail
  go_region_held3 (fun w' => Below w.heap.size w w')
    (first | assumption | exact Below.drew (by assumption) | exact below_of_put HE2.out rfl)
    (first | (go_at_call 54; refine (Tryz.internal_strconv_numDigits d hd hd' _ (by exact HU.out)).mono ?_; rintro e w3 ⟨rfl, rfl⟩; rw [← HN.out]) | (go_at_call 78; refine (setDigits_walk w.heap.size d n p _ (Array.replicate n (0 : UInt8)) hd' (by omega) hn' (HN.out ▸ Lib.lt_pow_nDigits d) (by omega) (by omega) (by exact H32.out) (by simp)).mono ?_; rintro e w4 ⟨rfl, k4, dk, hw4, hs4, hd4⟩; have hB4 : Below w.heap.size w w4 := (below_of_put HE2.out hw4)))
  rw [← hnz] at *
  go_wp2_with fail
  have hxe : (n : Int) + p = x + 1 := by omega
  rw [hxe, show max ((nz : Int) - 1) 0 = (nz : Int) - 1 from by omega]
  refine (efg_walk w.heap.size nz x.natAbs x neg (fun t => Lib.dg d (n - 1 - t)) v W _ (ef_of (w := w) (w2 := w2.drew) (d0 := Array.replicate n (0 : UInt8)) HO.out HB.out rfl (Below.drew HE2.out) HL2.out H32.out (by simp; exact hs4) (by omega) (fun t ht => hd4 t (by omega))) hnz1 (by omega) (by omega) (by omega)).mono ?_
  rintro e w5 ⟨v5, rfl, HE5⟩
  rw [← HTX.out] at HE5
  have HE5 := Lib.hid HE5
  clear hxe hx hnz hd4
  go_wp2
  all_goals go_ret
  all_goals exact ⟨_, rfl, HE5.out.own, HE5.out.below⟩
end Go.Proofs.YtglamimbkdldaaaGreatDoor
