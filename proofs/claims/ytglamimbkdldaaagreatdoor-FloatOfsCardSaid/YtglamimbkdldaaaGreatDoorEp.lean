import Derived.Test.YtglamimbkdldaaaGreatDoorEf
import Derived.Test.YtglamimbkdldaaaGreatDoorEx2
namespace Go.Proofs.YtglamimbkdldaaaGreatDoor
open Go.RowKit Go.Sort

theorem OwnB.of_block {w w' : World} {base : Nat} {v : Value} {l : List UInt8} (h : OwnB w base v l) (k : ∀ g, g < w.heap.size → v.ownBlock = some g → w'.heap[g]? = w.heap[g]?) : OwnB w' base v l := by
  refine ⟨h.1, h.2.imp id fun ⟨g, cap, cur, hv, hb, hh, hr⟩ => ⟨g, cap, cur, hv, hb, ?_, hr⟩⟩
  rw [k g (Array.getElem?_eq_some_iff.1 hh).1 (by rw [hv]; rfl), hh]
theorem putRow_below (w : World) (b B k : Nat) (d : Array UInt8) (hB : B ≤ b) : Below B w ((putRow eb w b 0 d).drewN k) :=
  ⟨rfl, rfl, rfl, by show _ ≤ (putRow eb w b 0 d).heap.size; rw [size_putRow]; exact Nat.le_refl _, fun i hi => by
    show (putRow eb w b 0 d).heap[i]? = _
    unfold putRow mapBlock
    rw [Array.getElem?_modify, if_neg (by omega)]⟩
/-- The digits laid: the text may begin. -/
theorem ef_of {W w w2 : World} {v : Value} {b n k : Nat} {d0 dk : Array UInt8} {D : Nat → UInt8} (hO : OwnB w W.heap.size v []) (hB : Below W.heap.size W w) (hb : b = w.heap.size) (hE : Below w.heap.size w w2) (hlt : b < w2.heap.size)
    (hH : Holds eb w2 b 0 d0) (hs : dk.size = d0.size) (hn : n ≤ dk.size) (hD : ∀ t, t < n → dk[t]! = D t) : EF W ((putRow eb w2 b 0 dk).drewN k) v [] b n D := by
  have hp := putRow_below w2 b b k dk (Nat.le_refl _)
  have hbl := hE.trans (hp.mono (by omega))
  refine ⟨hO.of_block fun g hg _ => hbl.block g hg, fun e => ?_, ?_, fun t ht => ?_, hB.trans (hbl.mono hB.size)⟩
  · have := (hO.blk e).2; omega
  · exact Nat.lt_of_lt_of_le hlt hp.size
  · have h9 := cell?_putRow eb w2 b 0 d0 dk hH hs t (by omega)
    rw [Nat.zero_add, hD t ht] at h9
    exact h9
def z32 : Array Value := #[.int .u8 0, .int .u8 0, .int .u8 0, .int .u8 0, .int .u8 0, .int .u8 0, .int .u8 0, .int .u8 0, .int .u8 0, .int .u8 0, .int .u8 0, .int .u8 0, .int .u8 0, .int .u8 0, .int .u8 0, .int .u8 0, .int .u8 0, .int .u8 0, .int .u8 0, .int .u8 0, .int .u8 0, .int .u8 0, .int .u8 0, .int .u8 0, .int .u8 0, .int .u8 0, .int .u8 0, .int .u8 0, .int .u8 0, .int .u8 0, .int .u8 0, .int .u8 0]
theorem z32_at (i : Nat) (h : i < 32) : z32[i]? = some (.int .u8 0) := by
  have e : z32 = Array.replicate 32 (.int .u8 0) := rfl
  rw [e, Array.getElem?_replicate, if_pos h]
theorem holds32 (w w2 : World) (T : TypeId) (n : Nat) (hn : n ≤ 32) (hE : Ext (w.alloc (.cells z32 T)) w2) : Holds eb w2 w.heap.size 0 (Array.replicate n (0 : UInt8)) := fun j hj => by
  have hj' : j < n := by simpa using hj
  have hlt : w.heap.size < (w.alloc (.cells z32 T)).heap.size := by simp
  rw [hE.cell hlt, hE.frozen hlt]
  refine ⟨?_, World.frozen?_alloc_new _ _ _ _⟩
  rw [World.cell?_alloc_new, z32_at _ (by omega), getElem!_pos _ j hj]
  simp
end Go.Proofs.YtglamimbkdldaaaGreatDoor
