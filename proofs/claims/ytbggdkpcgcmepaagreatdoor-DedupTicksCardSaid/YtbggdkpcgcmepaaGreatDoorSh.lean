import Derived.Test.YtbggdkpcgcmepaaGreatDoorEq
import Derived.Shelf.SlSortCmp.NoneTotal
namespace Go.Proofs.YtbggdkpcgcmepaaGreatDoor
open Go.RowKit Go.Sort Go.Shelf

theorem flatK_get (d : List Smp) (i j : Nat) (hi : i < d.length) (hj : j < 4) : some (flatK encS 4 d.toArray)[i * 4 + j]! = (encS d[i])[j]? := by
  rw [get_flatK _ _ _ _ (by simp; omega), show (i * 4 + j) / 4 = i by omega, show (i * 4 + j) % 4 = j by omega]
  have : (d.toArray)[i]! = d[i] := by simp [hi]
  rw [this]
  generalize d[i] = y
  match j, hj with
  | 0, _ => rfl
  | 1, _ => rfl
  | 2, _ => rfl
  | 3, _ => rfl
theorem holds_own {w : World} {g : Nat} {cur : Array Value} {e : TypeId} {d : List Smp} (hh : w.heap[g]? = some (.cells cur e (0, 0))) (ht : cur.toList.take (d.length * 4) = flatS d) : HoldsK encS 4 w g 0 d.toArray := by
  intro t h
  rw [size_flatK] at h
  simp only [List.size_toArray] at h
  obtain ⟨i, j, hi, hj, rfl⟩ : ∃ i j, i < d.length ∧ j < 4 ∧ t = i * 4 + j := ⟨t / 4, t % 4, by omega, by omega, by omega⟩
  refine ⟨?_, ?_⟩
  · have e1 : w.cell? ⟨g, 0 + (i * 4 + j), none⟩ = cur[0 + (i * 4 + j)]? := by simp [World.cell?, hh]
    have e3 : (cur.toList.take (d.length * 4))[i * 4 + j]? = cur.toList[i * 4 + j]? := List.getElem?_take_of_lt h
    rw [e1, Nat.zero_add, ← Array.getElem?_toList, ← e3, ht, flatS_at d i j hi hj, ← flatK_get d i j hi hj]; rfl
  · simp [World.frozen?, hh]
theorem rd_holdsK {w : World} {g cap B : Nat} {d : List Smp} (h : HoldsK encS 4 w g 0 d.toArray) (hB : g < B) (hc : d.length ≤ cap) : Rd w B (.slice (some ⟨g, 0, none⟩) d.length cap) d := by
  refine ⟨_, cap, rfl, hc, .inr ⟨g, 0, rfl, hB, fun i hi => ?_⟩⟩
  have key : ∀ j, j < 4 → w.cell? ⟨g, 0 + i * 4 + j, none⟩ = (encS d[i])[j]? := fun j hj => by
    rw [← flatK_get d i j hi hj, Nat.add_assoc]
    exact (h (i * 4 + j) (by rw [size_flatK]; simp; omega)).1
  exact ⟨key 0 (by decide), key 1 (by decide), key 2 (by decide), key 3 (by decide)⟩

/-- Those next to one that is the same, once. -/
def ded : Option Smp → List Smp → List Smp
  | _, [] => []
  | p, a :: l => if p = some a then ded (some a) l else a :: ded (some a) l
def lastOr : Option Smp → List Smp → Option Smp
  | p, [] => p
  | _, a :: l => lastOr (some a) l
theorem ded_snoc : ∀ (l : List Smp) (p : Option Smp) (a : Smp), ded p (l ++ [a]) = ded p l ++ if lastOr p l = some a then [] else [a]
  | [], p, a => by unfold ded lastOr; simp only [List.nil_append]; split <;> simp [ded]
  | b :: l, p, a => by
    simp only [List.cons_append, ded, lastOr]
    rw [ded_snoc l (some b) a]
    by_cases h1 : p = some b <;> by_cases h2 : lastOr (some b) l = some a <;> simp [h1, h2]
theorem lastOr_snoc : ∀ (l : List Smp) (p : Option Smp) (a : Smp), lastOr p (l ++ [a]) = some a
  | [], _, _ => rfl
  | b :: l, _, a => lastOr_snoc l (some b) a
theorem ded_take_zero (l : List Smp) (a : Smp) (h : 0 < l.length) (ha : a = l[0]) : ded none (l.take 1) = ded none (l.take 0) ++ [a] := by
  cases l with
  | nil => simp at h
  | cons b l => subst ha; simp [ded]
theorem ded_take_succ (l : List Smp) (k : Nat) (p a : Smp) (h : k + 1 < l.length) (hp : p = l[k]) (ha : a = l[k + 1]) : ded none (l.take (k + 1 + 1)) = ded none (l.take (k + 1)) ++ if p = a then [] else [a] := by
  rw [List.take_succ_eq_append_getElem h, ded_snoc, List.take_succ_eq_append_getElem (by omega : k < l.length), lastOr_snoc, hp, ha]
  simp
theorem ded_length (p : Option Smp) (l : List Smp) : (ded p l).length ≤ l.length := by
  induction l generalizing p with
  | nil => simp [ded]
  | cons a l ih => unfold ded; split <;> simp <;> have := ih (some a) <;> omega
/-- dedup.Sort. -/
def sortS (l : List Smp) : List Smp := ded none (sortA (l.filter rightS).toArray).toList
theorem sortS_length (l : List Smp) : (sortS l).length ≤ l.length := by
  unfold sortS
  refine Nat.le_trans (ded_length _ _) ?_
  rw [Array.length_toList, sortA_size]; simp [List.length_filter_le]
theorem sort_any (v : Value) (d : List Smp) (W w : World) (T : Tabs W) (hB : Below W.heap.size W w) (hO : Own w W.heap.size 43 v d) (hl : d.length < 4611686018427387904) :
    Calls Tryz.prog 29 #[v, .func (.func 27) #[] #[]] w fun e w' =>
      e = .returned (.tuple #[]) ∧ Rd w' w'.heap.size v (sortA d.toArray).toList ∧ Below W.heap.size w w' := by
  rcases hO with ⟨_, ⟨rfl, h0⟩ | ⟨g, cap, cur, rfl, hgb, hgh, hn2, hm2, hcs, hct⟩⟩
  · have : d = [] := List.eq_nil_of_length_eq_zero h0
    subst this
    refine (AnyF.slices_SortFunc_none { Tryz.sortS with } none 0 _ w).mono fun e w' ⟨he, hw⟩ => ⟨he, ?_, ?_⟩
    · have h2 : (sortA ([] : List Smp).toArray).toList = [] := List.eq_nil_of_length_eq_zero (by rw [Array.length_toList, sortA_size]; rfl)
      rw [h2]; exact ⟨none, 0, rfl, Nat.le_refl _, .inl rfl⟩
    · rw [hw]; exact Below.refl _ _
  · have hgs : g < w.heap.size := (Array.getElem?_eq_some_iff.1 hgh).1
    refine (sort_walk g cap d.toArray W w T hB hgb hgs (holds_own hgh hct) (by simpa using hl)).mono fun e w' ⟨he, hH, hg⟩ => ⟨he, ?_, ?_⟩
    · have hs : (sortA d.toArray).toList.length = d.length := by rw [Array.length_toList, sortA_size]; simp
      rw [← hs]
      exact rd_holdsK (by simpa using hH) (Nat.lt_of_lt_of_le hgs hg.size) (by omega)
    · exact (Below.refl _ w).grown hg hB.size (fun k e => by cases e; exact hgb)
end Go.Proofs.YtbggdkpcgcmepaaGreatDoor
