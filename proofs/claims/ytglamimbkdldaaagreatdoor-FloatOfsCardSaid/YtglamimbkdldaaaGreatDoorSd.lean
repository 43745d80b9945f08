import Derived.Test.YtglamimbkdldaaaGreatDoorSf
import Derived.Lib.ItoaMem
namespace Go.Proofs.YtglamimbkdldaaaGreatDoor
open Go.RowKit Go.Sort Go.Lib

abbrev eb : UInt8 → Value := fun (b : UInt8) => Value.int .u8 (b.toNat : Int)

/-- The noughts at a row's end, struck off. -/
def trimZ (G : Nat → UInt8) : Nat → Nat
  | 0 => 0
  | n + 1 => if G n = 48 then trimZ G n else n + 1

set_option maxRecDepth 100000 in
set_option maxHeartbeats 1000000 in
theorem setDigits_walk (b d n : Nat) (p : Int) (w : World) (d0 : Array UInt8) (hd : d < 18446744073709551616) (hn : 1 ≤ n) (hn' : n ≤ 20) (hu : d < 10 ^ n) (hp : -1000 ≤ p) (hp' : p ≤ 1000)
    (hH : Holds eb w b 0 d0) (hs : d0.size = n) :
    Calls Tryz.prog 78 #[.slice (some ⟨b, 0, none⟩) 32 32, .int .u64 d, .int .i64 p, .int .i64 n] w fun e w' =>
      e = .returned (.tuple #[.int .i64 (n + p), .int .i64 (trimZ (fun t => dg d (n - 1 - t)) n)]) ∧ ∃ (k : Nat) (dk : Array UInt8), w' = (putRow eb w b 0 dk).drewN k ∧ dk.size = n ∧ ∀ t, t < n → dk[t]! = dg d (n - 1 - t) := by
  have K0 := Lib.hid (Tryz.internal_strconv_formatBase10 b 0 32 d d0 w hH (by rw [hs]; exact hu) hd (by omega))
  rw [hs] at K0
  clear hu
  obtain ⟨G, hG⟩ : ∃ G : Nat → UInt8, G = fun t => dg d (n - 1 - t) := ⟨_, rfl⟩
  rw [← hG]
  go_enter Tryz.func78, Tryz.ntmps78
  go_wp2_with fail
  refine K0.out.mono ?_; rintro e W1 ⟨rfl, k0, v', dk, hW, hF⟩
  have hdk : ∀ t, t < n → dk[t]! = G t := fun t ht => by rw [hG]; exact hF.done t (Nat.zero_le _) ht
  have hsz : dk.size = n := hF.size
  have HE : Hid (∃ (k : Nat) (dk : Array UInt8), W1 = (putRow eb w b 0 dk).drewN k ∧ dk.size = n ∧ ∀ t, t < n → dk[t]! = dg d (n - 1 - t)) := ⟨k0, dk, hW, hsz, fun t ht => by rw [hdk t ht, hG]⟩
  have hc : ∀ t, t < n → W1.cell? ⟨b, t, none⟩ = some (.int .u8 ((G t).toNat : Nat)) := fun t ht => by
    rw [hW]
    have h9 := cell?_putRow eb w b 0 d0 dk hH (by omega) t (by omega)
    rw [Nat.zero_add] at h9
    rw [← hdk t ht]
    exact h9
  clear hF hdk hsz hW hG K0 hH
  go_wp2_with fail
  go_loop [3] (fun i => ∃ k : Nat, k ≤ n ∧ i = .int .i64 k ∧ Hid (trimZ G k = trimZ G n)) (fun i => (RowKit.intOf i).toNat)
  case atStart => exact ⟨n, Nat.le_refl _, rfl, rfl⟩
  case round =>
    obtain ⟨k, hk, rfl, HV⟩ := hrel
    rcases Nat.eq_zero_or_pos k with h0 | h0
    · subst h0
      have HZ : trimZ G n = 0 := HV.out.symm
      go_wp2
      go_ret2
      exact ⟨rfl, HE.out⟩
    · obtain ⟨j, hj⟩ : ∃ j, k = j + 1 := ⟨k - 1, by omega⟩
      subst hj
      have hcx := hc j (by omega)
      by_cases hx0 : G j = 48
      · have HV2 : Hid (trimZ G j = trimZ G n) := by
          show _ = _
          rw [← HV.out]; unfold trimZ; rw [if_pos hx0]
          cases j <;> rfl
        rw [hx0] at hcx
        go_wp2
        go_round
        case rel => exact ⟨j, by omega, by go_num, HV2⟩
        case measure => simp [RowKit.intOf]
      · have HZ : trimZ G n = j + 1 := by rw [← HV.out]; unfold trimZ; rw [if_neg hx0]
        have g1 : (((G j).toNat : Int) == 48) = false := by
          rw [beq_eq_false_iff_ne]
          intro e; apply hx0; apply UInt8.toNat_inj.1
          have : ((48 : UInt8)).toNat = 48 := rfl
          omega
        generalize (G j).toNat = g at *
        go_wp2
        go_ret2
        exact ⟨rfl, HE.out⟩
end Go.Proofs.YtglamimbkdldaaaGreatDoor
