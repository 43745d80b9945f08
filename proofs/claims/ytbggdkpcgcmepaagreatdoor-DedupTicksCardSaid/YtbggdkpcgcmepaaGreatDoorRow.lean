import Derived.Test.YtbggdkpcgcmepaaGreatDoorSrt
namespace Go.Proofs.YtbggdkpcgcmepaaGreatDoor
open Go.RowKit Go.Sort Go.Shelf

/-- A sample's four cells. -/
def Cell4 (w : World) (b o : Nat) (s : Smp) : Prop :=
  w.cell? ⟨b, o, none⟩ = some (.int .i64 s.1) ∧ w.cell? ⟨b, o + 1, none⟩ = some (.int .i64 s.2.1) ∧ w.cell? ⟨b, o + 2, none⟩ = some (.int .i64 s.2.2.1) ∧ w.cell? ⟨b, o + 3, none⟩ = some (.int .i64 s.2.2.2)
theorem Cell4.below {w w' : World} {B b o : Nat} {s : Smp} (h : Cell4 w b o s) (k : RowKit.Below B w w') (hb : b < B) : Cell4 w' b o s :=
  ⟨(k.cell hb).trans h.1, (k.cell hb).trans h.2.1, (k.cell hb).trans h.2.2.1, (k.cell hb).trans h.2.2.2⟩
/-- A row of samples as cells. -/
def flatS (l : List Smp) : List Value := l.flatMap encS
theorem flatS_length (l : List Smp) : (flatS l).length = l.length * 4 := by
  induction l with
  | nil => rfl
  | cons a l ih => unfold flatS at *; simp only [List.flatMap_cons, List.length_append, List.length_cons, ih]; simp [encS]; omega
theorem flatS_append (a b : List Smp) : flatS (a ++ b) = flatS a ++ flatS b := by unfold flatS; simp
theorem flatS_one (a : Smp) : flatS [a] = encS a := by unfold flatS; simp
theorem flatS_at : ∀ (l : List Smp) (i j : Nat) (h : i < l.length), j < 4 → (flatS l)[i * 4 + j]? = (encS l[i])[j]?
  | a :: l, 0, j, _, hj => by
    unfold flatS; rw [List.flatMap_cons, Nat.zero_mul, Nat.zero_add, List.getElem?_append_left (by simpa [encS] using hj)]; rfl
  | a :: l, i + 1, j, h, hj => by
    have := flatS_at l i j (by simpa using h) hj
    unfold flatS at *
    rw [List.flatMap_cons, show (i + 1) * 4 + j = (encS a).length + (i * 4 + j) by simp [encS]; omega, List.getElem?_append_right (by omega), Nat.add_sub_cancel_left, this]; rfl

/-- A slice of samples that can be read: below block B. -/
def Rd (w : World) (B : Nat) (v : Value) (l : List Smp) : Prop :=
  ∃ A c, v = .slice A l.length c ∧ l.length ≤ c ∧ (l = [] ∨ ∃ b o, A = some ⟨b, o, none⟩ ∧ b < B ∧ ∀ i (h : i < l.length), Cell4 w b (o + i * 4) l[i])
theorem Rd.below {w w' : World} {B : Nat} {v : Value} {l : List Smp} (h : Rd w B v l) (k : RowKit.Below B w w') : Rd w' B v l := by
  obtain ⟨A, c, h1, h2, h3⟩ := h
  refine ⟨A, c, h1, h2, h3.imp id fun ⟨b, o, e, hb, hc⟩ => ⟨b, o, e, hb, fun i hi => (hc i hi).below k hb⟩⟩
theorem Rd.mono {w : World} {B B' : Nat} {v : Value} {l : List Smp} (h : Rd w B v l) (k : B ≤ B') : Rd w B' v l := by
  obtain ⟨A, c, h1, h2, h3⟩ := h
  exact ⟨A, c, h1, h2, h3.imp id fun ⟨b, o, e, hb, hc⟩ => ⟨b, o, e, Nat.lt_of_lt_of_le hb k, hc⟩⟩
/-- A slice of samples that the call made itself, of blocks from base on. -/
def Own (w : World) (base : Nat) (e : TypeId) (v : Value) (l : List Smp) : Prop := w.ownsRow base e 4 v l.length (flatS l)
theorem Own.rd {w : World} {base e : Nat} {v : Value} {l : List Smp} (h : Own w base e v l) : Rd w w.heap.size v l := by
  rcases h.2 with ⟨rfl, h0⟩ | ⟨g, cap, cur, rfl, hb, hh, hn, hm, hcs, ht⟩
  · have : l = [] := List.eq_nil_of_length_eq_zero h0
    subst this
    exact ⟨none, 0, rfl, by simp, .inl rfl⟩
  · refine ⟨_, cap, rfl, hn, .inr ⟨g, 0, rfl, (Array.getElem?_eq_some_iff.1 hh).1, fun i hi => ?_⟩⟩
    have key : ∀ j, j < 4 → w.cell? ⟨g, 0 + i * 4 + j, none⟩ = (encS l[i])[j]? := fun j hj => by
      have e1 : w.cell? ⟨g, 0 + i * 4 + j, none⟩ = cur[0 + i * 4 + j]? := by simp [World.cell?, hh]
      have e2 := flatS_at l i j hi hj
      have e3 : (cur.toList.take (l.length * 4))[i * 4 + j]? = cur.toList[i * 4 + j]? := List.getElem?_take_of_lt (by omega)
      rw [e1, Nat.zero_add, ← e2, ← ht, e3, Array.getElem?_toList]
    exact ⟨key 0 (by decide), key 1 (by decide), key 2 (by decide), key 3 (by decide)⟩
theorem Own.nil (w : World) (base e : Nat) : Own w base e (.slice none 0 0) [] := ⟨rfl, .inl ⟨rfl, rfl⟩⟩
end Go.Proofs.YtbggdkpcgcmepaaGreatDoor
