import Derived.Test.YtbggdkpcgcmepaaGreatDoorDe
namespace Go.Proofs.YtbggdkpcgcmepaaGreatDoor
open Go.RowKit Go.Sort

set_option maxHeartbeats 1000000 in
theorem clip_walk (v : Value) (l : List Smp) (f t : Int) (W : World) (hR : Rd W W.heap.size v l) (hz : Nz v) (hl : l.length * 32 ≤ 140737488355328) :
    Calls Tryz.prog 22 #[v, .int .i64 f, .int .i64 t] W fun e w' => ∃ r, e = .returned r ∧ Own w' W.heap.size 28 r (delS f t l) ∧ Below W.heap.size W w' := by
  have hmf : ∀ (fn : Fn) (first cap : Array Value) (w : World), (Instr.makeFunc fn first cap).run Tryz.prog w = .ok (.func fn first cap) w := fun _ _ _ _ => rfl
  obtain ⟨W1, hW1⟩ : ∃ W1, W1 = (W.alloc (.cells #[.int .i64 f] 2)).alloc (.cells #[.int .i64 t] 2) := ⟨_, rfl⟩
  have hE1 : Ext W W1 := by rw [hW1]; exact ((Ext.refl W).alloc _).alloc _
  have hs1 : W1.heap.size = W.heap.size + 2 := by rw [hW1]; simp
  have hf1 : W1.cell? ⟨W.heap.size, 0, none⟩ = some (.int .i64 f) := by rw [hW1]; simp
  have ht1 : W1.cell? ⟨W.heap.size + 1, 0, none⟩ = some (.int .i64 t) := by rw [hW1]; simp
  have KC := Lib.hid (clone_walk v l W1 ((hR.below hE1.below).mono hE1.size) hz hl)
  have HE1 := Lib.hid hE1
  have HS1 := Lib.hid hs1
  have Hf1 := Lib.hid hf1
  have Ht1 := Lib.hid ht1
  have Hl := Lib.hid hl
  clear hE1 hs1 hf1 ht1 hR hz hl
  go_enter Tryz.func22, Tryz.ntmps22
  go_wp2_with fail
  rw [← hW1]
  clear hW1
  refine KC.out.mono ?_
  rintro e w1 ⟨r, rfl, hO, hB⟩
  have HB := Lib.hid hB
  have hp : W.heap.size < W1.heap.size := by have := HS1.out; omega
  have hp1 : W.heap.size + 1 < W1.heap.size := by have := HS1.out; omega
  have KD := Lib.hid (del_walk r l f t w1 W1.heap.size W.heap.size (W.heap.size + 1) ((hB.cell hp).trans Hf1.out) ((hB.cell hp1).trans Ht1.out) hp hp1 hB.size hO Hl.out)
  clear hB hO KC
  go_wp2_with fail
  refine KD.out.mono ?_
  rintro e w2 ⟨r2, rfl, hO2, hB2⟩
  have HO2 := Lib.hid hO2
  have HB2 := Lib.hid hB2
  clear hO2 hB2 KD
  go_wp2_with fail
  go_ret
  exact ⟨_, rfl, HO2.out.lower HE1.out.size, (HE1.out.below.trans (HB.out.mono HE1.out.size)).trans (HB2.out.mono HE1.out.size)⟩
end Go.Proofs.YtbggdkpcgcmepaaGreatDoor
