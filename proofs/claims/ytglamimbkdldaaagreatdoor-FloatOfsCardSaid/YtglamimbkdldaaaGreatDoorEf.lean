import Derived.Test.YtglamimbkdldaaaGreatDoorSd
import Derived.Maps.AppendAt
import Derived.Laws.AppendOwnNone
namespace Go.Proofs.YtglamimbkdldaaaGreatDoor
open Go.RowKit Go.Sort

/-- A slice of bytes that the call made itself, of blocks from base on. -/
def OwnB (w : World) (base : Nat) (v : Value) (l : List UInt8) : Prop := w.ownsRow base 5 1 v l.length (l.map eb)
theorem OwnB.alloc {w : World} {base : Nat} {v : Value} {l : List UInt8} (h : OwnB w base v l) (o : Obj) : OwnB (w.alloc o) base v l := World.ownsRow.alloc h o
theorem info_u8 : (Tryz.prog.info? 5).map (fun i => (i.zero, i.size, i.bytes)) = some (some (.int .u8 0), 1, 1) := by kernel_rfl
theorem of_infoB {P : Program} {e : TypeId} {z : Value} {s b : Nat} (h : (P.info? e).map (fun i => (i.zero, i.size, i.bytes)) = some (some z, s, b)) : ∃ i, P.info? e = some i ∧ i.zero = some z ∧ i.size = s ∧ i.bytes = b := by
  cases hi : P.info? e with
  | none => rw [hi] at h; simp at h
  | some i => rw [hi] at h; simp at h; exact ⟨i, rfl, h.1, h.2.1, h.2.2⟩
theorem OwnB.blk {w : World} {base : Nat} {v : Value} {l : List UInt8} (h : OwnB w base v l) {g : Nat} (hg : v.ownBlock = some g) : base ≤ g ∧ g < w.heap.size := by
  rcases h.2 with ⟨h1, _⟩ | ⟨g', cap, cur, hv, hb, hh, _⟩
  · rw [h1] at hg; simp [Value.ownBlock] at hg
  · rw [hv] at hg; simp [Value.ownBlock] at hg; subst hg; exact ⟨hb, (Array.getElem?_eq_some_iff.1 hh).1⟩
theorem OwnB.cells {w : World} {base : Nat} {v : Value} {l : List UInt8} (h : OwnB w base v l) (h0 : l ≠ []) : ∃ g c, v = .slice (some ⟨g, 0, none⟩) l.length c ∧ l.length ≤ c ∧ ∀ i (h : i < l.length), w.cell? ⟨g, i, none⟩ = some (eb l[i]) := by
  rcases h.2 with ⟨rfl, h1⟩ | ⟨g, cap, cur, rfl, hb, hh, hn, hm, hcs, ht⟩
  · exact absurd (List.eq_nil_of_length_eq_zero h1) h0
  · refine ⟨g, cap, rfl, hn, fun i hi => ?_⟩
    have e1 : w.cell? ⟨g, i, none⟩ = cur[i]? := by simp [World.cell?, hh]
    have e3 : (cur.toList.take (l.length * 1))[i]? = cur.toList[i]? := List.getElem?_take_of_lt (by omega)
    rw [e1, ← Array.getElem?_toList, ← e3, ht, List.getElem?_map, List.getElem?_eq_getElem hi]; rfl

/-- The text under way: what it owns, the digits beside it, all elder blocks as they were. -/
structure EF (W w : World) (v : Value) (l : List UInt8) (b n : Nat) (D : Nat → UInt8) : Prop where
  own : OwnB w W.heap.size v l
  ne : v.ownBlock ≠ some b
  lt : b < w.heap.size
  cells : ∀ t, t < n → w.cell? ⟨b, t, none⟩ = some (eb (D t))
  below : Below W.heap.size W w
theorem EF.alloc {W w : World} {v : Value} {l : List UInt8} {b n : Nat} {D : Nat → UInt8} (h : EF W w v l b n D) (o : Obj) : EF W (w.alloc o) v l b n D :=
  ⟨h.own.alloc o, h.ne, by have := h.lt; simp; omega, fun t ht => by rw [← h.cells t ht]; exact (Below.refl _ _).alloc (Nat.le_refl _) o |>.cell h.lt, h.below.alloc h.below.size _⟩
theorem EF.drew {W w : World} {v : Value} {l : List UInt8} {b n : Nat} {D : Nat → UInt8} (h : EF W w v l b n D) : EF W w.drew v l b n D :=
  ⟨h.own, h.ne, h.lt, h.cells, h.below.trans (Below.refl _ _).drew⟩

/-- append of some bytes to the text. -/
theorem appE {W w : World} {ops : Array Oper} {rest : List Oper} {o : Oper} {a : Act} {Q : Exit → Act → World → Prop} (hgd : o.guard = none) (s x : Operand)
    (ho : o.op = .call { callee := .builtin .append, args := #[s, x], argTypes := #[77, 77] })
    (v : Value) (l : List UInt8) (b n : Nat) (D : Nat → UInt8) (news : List UInt8) (hs : a.eval s = v) (hE : EF W w v l b n D) (b' off m c : Nat) (hx : a.eval x = .slice (some ⟨b', off, none⟩) m c) (hm : m = news.length)
    (hc : ∀ i (h : i < news.length), w.cell? ⟨b', off + i, none⟩ = some (eb news[i]))
    (hl : l.length + news.length ≤ 1000)
    (h : ∀ v' w', EF W w' v' (l ++ news) b n D → wpList Tryz.prog ops Q rest (a.put o.dst v') w') :
    wpList Tryz.prog ops Q (o :: rest) a w := by
  subst hm
  obtain ⟨i, hi, hz, hsz, hby⟩ := of_infoB info_u8
  refine wpList_append_own_at w hgd s x 77 ho W.heap.size 5 i _ 1 1 Tryz.underlying77 hi hz hsz hby rfl (by decide) v l.length (l.map eb) hs hE.own ⟨b', off, none⟩ news.length c (news.map eb) hx (by simp) ?_ ?_ (by unfold maxLen; omega) (by omega) hE.below.size (fun v' w' h1 h2 _ h4 => ?_)
  · intro j u hj
    rw [List.getElem?_map] at hj
    rcases Nat.lt_or_ge j news.length with h9 | h9
    · rw [List.getElem?_eq_getElem h9] at hj
      simp at hj
      rw [← hj, Lib.add_plain]
      exact hc j h9
    · rw [List.getElem?_eq_none h9] at hj; simp at hj
  · intro u hu
    obtain ⟨y, _, rfl⟩ := List.mem_map.1 hu
    rfl
  · refine h v' w' ⟨?_, ?_, Nat.lt_of_lt_of_le hE.lt h2.size, fun t ht => h2.cell (hE.cells t ht) (fun e => hE.ne e.symm), ?_⟩
    · unfold OwnB
      rw [List.map_append, List.length_append]
      exact h1
    · rcases h4 with h4 | h4
      · rw [h4]; exact hE.ne
      · rw [h4]; intro e; injection e with e; have := hE.lt; omega
    · exact hE.below.grown h2 hE.below.size (fun g hg' => (hE.own.blk hg').1)
theorem new1 (w : World) (y : UInt8) (yi : Int) (t : TypeId) (h : yi = (y.toNat : Nat)) : ∀ i (h : i < [y].length), (w.alloc (.cells #[.int .u8 yi] t)).cell? ⟨w.heap.size, 0 + i, none⟩ = some (eb [y][i]) := by
  intro i hi
  obtain rfl : i = 0 := by simp at hi; exact hi
  subst h
  unfold World.cell?; rw [heap_alloc_new]; rfl
theorem new2 (w : World) (y z : UInt8) (yi zi : Int) (t : TypeId) (h : yi = (y.toNat : Nat)) (h2 : zi = (z.toNat : Nat)) : ∀ i (h : i < [y, z].length), (w.alloc (.cells #[.int .u8 yi, .int .u8 zi] t)).cell? ⟨w.heap.size, 0 + i, none⟩ = some (eb [y, z][i]) := by
  intro i hi
  subst h h2
  unfold World.cell?; rw [heap_alloc_new]
  match i, hi with
  | 0, _ => rfl
  | 1, _ => rfl
theorem new3 (w : World) (y z x : UInt8) (yi zi xi : Int) (t : TypeId) (h : yi = (y.toNat : Nat)) (h2 : zi = (z.toNat : Nat)) (h3 : xi = (x.toNat : Nat)) : ∀ i (h : i < [y, z, x].length), (w.alloc (.cells #[.int .u8 yi, .int .u8 zi, .int .u8 xi] t)).cell? ⟨w.heap.size, 0 + i, none⟩ = some (eb [y, z, x][i]) := by
  intro i hi
  subst h h2 h3
  unfold World.cell?; rw [heap_alloc_new]
  match i, hi with
  | 0, _ => rfl
  | 1, _ => rfl
  | 2, _ => rfl
end Go.Proofs.YtglamimbkdldaaaGreatDoor
