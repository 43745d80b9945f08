import Derived.Test.YtbggdkpcgcmepaaGreatDoorAn
import Derived.Lib.SliceRun
namespace Go.Proofs.YtbggdkpcgcmepaaGreatDoor
open Go.RowKit Go.Sort

set_option maxHeartbeats 1000000 in
/-- slices.Clone. -/
theorem clone_walk (v : Value) (l : List Smp) (W : World) (hR : Rd W W.heap.size v l) (hz : Nz v) (hl : l.length * 32 ≤ 140737488355328) :
    Calls Tryz.prog 33 #[v] W fun e w' => ∃ r, e = .returned r ∧ Own w' W.heap.size 28 r l ∧ Below W.heap.size W w' := by
  have q22 : ∀ (w : World) (a : Option Addr) (n c n' c' : Nat), (binOp .eql 22 (.slice a n c) (.slice none n' c')).run Tryz.prog w = .ok (.bool a.isNone) w := fun w a n c n' c' => Lib.run_eql_slice_nil w _ _ a n c n' c' Tryz.underlying22
  obtain ⟨A, c, hv, hc, hA⟩ := hR
  have HR : Hid (Rd W W.heap.size v l) := ⟨A, c, hv, hc, hA⟩
  have HZ : Hid (Nz v) := hz
  cases A with
  | none =>
    have hc0 := hz _ _ hv
    subst hc0
    have hl2 : l = [] := List.eq_nil_of_length_eq_zero (by omega)
    subst hl2
    subst hv
    go_enter Tryz.func33, Tryz.ntmps33
    go_wp2_with fail
    go_ret
    exact ⟨_, rfl, Own.nil _ _ _, Below.refl _ _⟩
  | some ad =>
    subst hv
    clear hA hz
    have HL := Lib.hid hl
    have hO : Own (W.alloc (.cells #[] 28)) W.heap.size 28 (.slice (some ⟨W.heap.size, 0, none⟩) 0 0) [] := World.ownsRow_made W #[] 0 (Nat.le_refl _) (Nat.zero_le _) rfl
    have HO := Lib.hid hO
    clear hO hl
    go_enter Tryz.func33, Tryz.ntmps33
    go_wp2_with (first | (at_builtin; refine appN rfl _ _ 22 28 rfl Tryz.underlying22 info_Smp W.heap.size _ [] _ l W.heap.size rfl HO.out rfl (HR.out.below ((Ext.refl W).alloc _).below) HZ.out ?c1 ?c2 ?_) | fail)
    case c1 => simpa using HL.out
    case c2 => simp
    · intro v' w3 hown hg hloc
      go_wp2_with fail
      go_ret
      exact ⟨_, rfl, hown, ((Below.refl W.heap.size W).alloc (Nat.le_refl _) _).grown hg (by simp) (by intro k hk; simp [Value.ownBlock] at hk; omega)⟩
end Go.Proofs.YtbggdkpcgcmepaaGreatDoor
