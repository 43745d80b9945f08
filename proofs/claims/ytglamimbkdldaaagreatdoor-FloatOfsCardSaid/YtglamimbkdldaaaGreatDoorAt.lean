import Derived.Test.YtglamimbkdldaaaGreatDoorEx2
import Derived.Test.YtglamimbkdldaaaGreatDoorSc
namespace Go.Proofs.YtglamimbkdldaaaGreatDoor
open Go.RowKit Go.Sort Ieee
attribute [local go_sem] run_ffb run_f64b

/-- The bits that the program gives, without the sign. -/
def bitsD (d : Nat) (x : Int) : Nat := if exOK d x then nearV d x else pfBits d (x + 348).toNat

set_option maxRecDepth 100000 in
set_option maxHeartbeats 1000000 in
theorem at_yes (s : ByteArray) (d : Nat) (x : Int) (g : Bool) (w : World) (v : Nat) (hd : 1 ≤ d) (hx : -300 ≤ x) (hx' : x ≤ 290)
    (hopt : w.cell? ⟨4, 0, none⟩ = some (.bool true))
    (hsp : ∀ w, Calls Tryz.prog 90 #[.string s] w fun e w' => e = .returned (.tuple #[.float .f64 0, .int .i64 0, .bool false]) ∧ w = w')
    (hrf : ∀ w, Calls Tryz.prog 91 #[.string s] w fun e w' => e = .returned (.tuple #[.int .u64 d, .int .i64 x, .bool g, .bool false, .bool false, .int .i64 s.size, .bool true]) ∧ w = w')
    (hex : Calls Tryz.prog 101 #[.int .u64 d, .int .i64 x, .bool g] w fun e w' => e = .returned (.tuple #[.float .f64 v, .bool true]) ∧ w' = w) :
    Calls Tryz.prog 64 #[.string s] w fun e w' => e = .returned (.tuple #[.float .f64 v, .int .i64 s.size, .nilIface]) ∧ Ext w w' := by
  have K1 := Lib.hid hsp
  have K2 := Lib.hid hrf
  have K3 := Lib.hid hex
  clear hsp hrf hex
  have hd0 : ((d : Int) == 0) = false := by rw [beq_eq_false_iff_ne]; omega
  go_enter Tryz.func64, Tryz.ntmps64
  go_wp2_with fail
  refine (K1.out _).mono ?_; rintro e w1 ⟨rfl, rfl⟩
  go_wp2_with fail
  refine (K2.out _).mono ?_; rintro e w2 ⟨rfl, rfl⟩
  go_wp2_with fail
  refine (bool2u_walk _ _).mono ?_; rintro e w3 ⟨rfl, rfl⟩
  go_wp2_with fail
  refine K3.out.mono ?_; rintro e w4 ⟨rfl, rfl⟩
  go_wp2_with fail
  go_ret3
  exact ⟨rfl, Ext.refl _⟩

set_option maxRecDepth 100000 in
set_option maxHeartbeats 1000000 in
theorem at_no (s : ByteArray) (d : Nat) (x : Int) (g : Bool) (w : World) (v sg : Nat) (hd : 1 ≤ d) (hx : -300 ≤ x) (hx' : x ≤ 290)
    (hopt : w.cell? ⟨4, 0, none⟩ = some (.bool true)) (hsg : IntKind.u64.wrap ((g.toNat : Int) * 9223372036854775808) = (sg : Int))
    (hsp : ∀ w, Calls Tryz.prog 90 #[.string s] w fun e w' => e = .returned (.tuple #[.float .f64 0, .int .i64 0, .bool false]) ∧ w = w')
    (hrf : ∀ w, Calls Tryz.prog 91 #[.string s] w fun e w' => e = .returned (.tuple #[.int .u64 d, .int .i64 x, .bool g, .bool false, .bool false, .int .i64 s.size, .bool true]) ∧ w = w')
    (hex : Calls Tryz.prog 101 #[.int .u64 d, .int .i64 x, .bool g] w fun e w' => (∃ v, e = .returned (.tuple #[.float .f64 v, .bool false])) ∧ w' = w)
    (hpf : Calls Tryz.prog 102 #[.int .u64 d, .int .i64 x, .int .u64 sg] w fun e w' => e = .returned (.tuple #[.float .f64 v, .nilIface]) ∧ Ext w w') :
    Calls Tryz.prog 64 #[.string s] w fun e w' => e = .returned (.tuple #[.float .f64 v, .int .i64 s.size, .nilIface]) ∧ Ext w w' := by
  have K1 := Lib.hid hsp
  have K2 := Lib.hid hrf
  have K3 := Lib.hid hex
  have K4 := Lib.hid hpf
  clear hsp hrf hex hpf
  have hd0 : ((d : Int) == 0) = false := by rw [beq_eq_false_iff_ne]; omega
  go_enter Tryz.func64, Tryz.ntmps64
  go_wp2_with fail
  refine (K1.out _).mono ?_; rintro e w1 ⟨rfl, rfl⟩
  go_wp2_with fail
  refine (K2.out _).mono ?_; rintro e w2 ⟨rfl, rfl⟩
  go_wp2_with fail
  refine (bool2u_walk _ _).mono ?_; rintro e w3 ⟨rfl, rfl⟩
  go_wp2_with fail
  refine K3.out.mono ?_; rintro e w4 ⟨⟨u, rfl⟩, rfl⟩
  go_wp2_with fail
  refine K4.out.mono ?_; rintro e w5 ⟨rfl, hw5⟩
  go_wp2_with fail
  go_ret3
  exact ⟨rfl, hw5⟩
end Go.Proofs.YtglamimbkdldaaaGreatDoor
