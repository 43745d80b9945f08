/-
  Rows of series and rows of texts, in memory.
-/
import Derived.Test.YtkgcbeokfilehaaGreatDoorVmk
import Derived.Test.YtkgcbeokfilehaaGreatDoorVbk
namespace Go.Proofs.YtkgcbeokfilehaaGreatDoor
open Go.RowKit Go.Sort Go.Maps

abbrev Ser := Lbs × List Smp
/-- A series' values: where its labels are, where its samples are; what they are. -/
abbrev SerV := Value × Value × Ser
def serC (x : SerV) : List Value := [x.1, x.2.1]
def flatV (xs : List SerV) : List Value := xs.flatMap serC
def cutV (xs : List SerV) : List Ser := xs.map (·.2.2)
theorem flatV_length (l : List SerV) : (flatV l).length = l.length * 2 := by
  induction l with
  | nil => rfl
  | cons a l ih => unfold flatV at *; simp only [List.flatMap_cons, List.length_append, List.length_cons, ih]; simp [serC]; omega
theorem flatV_append (a b : List SerV) : flatV (a ++ b) = flatV a ++ flatV b := by unfold flatV; simp
theorem flatV_one (a : SerV) : flatV [a] = serC a := by unfold flatV; simp
theorem flatV_at : ∀ (l : List SerV) (i j : Nat) (h : i < l.length), j < 2 → (flatV l)[i * 2 + j]? = (serC l[i])[j]?
  | a :: l, 0, j, _, hj => by
    unfold flatV; rw [List.flatMap_cons, Nat.zero_mul, Nat.zero_add, List.getElem?_append_left (by simpa [serC] using hj)]; rfl
  | a :: l, i + 1, j, h, hj => by
    have := flatV_at l i j (by simpa using h) hj
    unfold flatV at *
    rw [List.flatMap_cons, show (i + 1) * 2 + j = (serC a).length + (i * 2 + j) by simp [serC]; omega, List.getElem?_append_right (by omega), Nat.add_sub_cancel_left, this]; rfl
/-- A row of series that can be read: below block B. -/
def SerAt (w : World) (B b o : Nat) (x : Ser) : Prop :=
  ∃ lv sv, w.cell? ⟨b, o, none⟩ = some lv ∧ w.cell? ⟨b, o + 1, none⟩ = some sv ∧ RdL w B lv x.1 ∧ Nz lv ∧ Rd w B sv x.2 ∧ Nz sv
theorem SerAt.below {w w' : World} {B b o : Nat} {x : Ser} (h : SerAt w B b o x) (k : Below B w w') (hb : b < B) : SerAt w' B b o x := by
  obtain ⟨lv, sv, h1, h2, h3, h4, h5, h6⟩ := h
  exact ⟨lv, sv, (k.cell hb).trans h1, (k.cell hb).trans h2, h3.below k, h4, h5.below k, h6⟩
theorem SerAt.mono {w : World} {B B' b o : Nat} {x : Ser} (h : SerAt w B b o x) (k : B ≤ B') : SerAt w B' b o x := by
  obtain ⟨lv, sv, h1, h2, h3, h4, h5, h6⟩ := h
  exact ⟨lv, sv, h1, h2, h3.mono k, h4, h5.mono k, h6⟩
def RdX (w : World) (B : Nat) (v : Value) (l : List Ser) : Prop :=
  ∃ A c, v = .slice A l.length c ∧ l.length ≤ c ∧ (l = [] ∨ ∃ b o, A = some ⟨b, o, none⟩ ∧ b < B ∧ ∀ i (h : i < l.length), SerAt w B b (o + i * 2) l[i])
theorem RdX.below {w w' : World} {B : Nat} {v : Value} {l : List Ser} (h : RdX w B v l) (k : Below B w w') : RdX w' B v l := by
  obtain ⟨A, c, h1, h2, h3⟩ := h
  exact ⟨A, c, h1, h2, h3.imp id fun ⟨b, o, e, hb, hc⟩ => ⟨b, o, e, hb, fun i hi => (hc i hi).below k hb⟩⟩
theorem RdX.mono {w : World} {B B' : Nat} {v : Value} {l : List Ser} (h : RdX w B v l) (k : B ≤ B') : RdX w B' v l := by
  obtain ⟨A, c, h1, h2, h3⟩ := h
  exact ⟨A, c, h1, h2, h3.imp id fun ⟨b, o, e, hb, hc⟩ => ⟨b, o, e, Nat.lt_of_lt_of_le hb k, fun i hi => (hc i hi).mono k⟩⟩
theorem RdX.on {w w' : World} {v : Value} {l : List Ser} (h : RdX w w.heap.size v l) (k : Below w.heap.size w w') : RdX w' w'.heap.size v l := (h.below k).mono k.size
/-- A row of series that the call made itself. -/
structure OutV (w : World) (B : Nat) (v : Value) (xs : List SerV) : Prop where
  row : w.ownsRow B 52 2 v xs.length (flatV xs)
  rd : ∀ x ∈ xs, OwnL w B x.1 x.2.2.1 ∧ Own w B 54 x.2.1 x.2.2.2
theorem tag_ne {w : World} {B B' e e' s s' n n' : Nat} {v v' : Value} {xs xs' : List Value} (h : w.ownsRow B e s v n xs) (h' : w.ownsRow B' e' s' v' n' xs') (he : e ≠ e') : ∀ g, v.ownBlock = some g → v'.ownBlock ≠ some g := by
  intro g hg hg'
  obtain ⟨cur, hc⟩ := owns_tag h hg
  obtain ⟨cur', hc'⟩ := owns_tag h' hg'
  exact he (lit_ty w hc hc')
theorem OutV.nil (w : World) (B : Nat) : OutV w B (.slice none 0 0) [] := ⟨⟨rfl, .inl ⟨rfl, rfl⟩⟩, fun _ h => absurd h List.not_mem_nil⟩
theorem OutV.on {w w' : World} {B : Nat} {v : Value} {xs : List SerV} (h : OutV w B v xs) (k : Below w.heap.size w w') : OutV w' B v xs :=
  ⟨below_owns k h.row, fun x hx => ⟨(h.rd x hx).1.below k, (h.rd x hx).2.below k⟩⟩
theorem OutV.push {w w1 : World} {B : Nat} {v v' : Value} {xs : List SerV} {x : SerV} (h : OutV w B v xs) (hL : OwnL w B x.1 x.2.2.1) (hS : Own w B 54 x.2.1 x.2.2.2)
    (hg : w.grownBy w1 v.ownBlock) (hown : w1.ownsRow B 52 2 v' (xs.length + 1) (flatV xs ++ serC x)) : OutV w1 B v' (xs ++ [x]) := by
  have hk : ∀ {e s n : Nat} {u : Value} {ys : List Value}, w.ownsRow B e s u n ys → e ≠ 52 → w1.ownsRow B e s u n ys := fun ho he =>
    owns_same ho fun g hu => hg.block g (World.ownsRow.lt ho g hu).2 fun e => tag_ne ho h.row he g hu e.symm
  refine ⟨?_, fun y hy => ?_⟩
  · rw [flatV_append, flatV_one, List.length_append]
    exact hown
  · rcases List.mem_append.1 hy with hy | hy
    · exact ⟨hk (h.rd y hy).1 (by decide), hk (h.rd y hy).2 (by decide)⟩
    · rw [List.mem_singleton] at hy
      subst hy
      exact ⟨hk hL (by decide), hk hS (by decide)⟩
theorem OutV.rdX {w : World} {B : Nat} {v : Value} {xs : List SerV} (h : OutV w B v xs) : RdX w w.heap.size v (cutV xs) := by
  have hlen : (cutV xs).length = xs.length := by simp [cutV]
  rcases h.row.2 with ⟨rfl, hn⟩ | ⟨g, cap, cur, rfl, hb, hc, h1, h2, h3, h4⟩
  · have : xs = [] := List.eq_nil_of_length_eq_zero hn
    subst this
    exact ⟨none, 0, rfl, Nat.zero_le _, .inl rfl⟩
  · refine ⟨some ⟨g, 0, none⟩, cap, by rw [hlen], by rw [hlen]; exact h1, .inr ⟨g, 0, rfl, (Array.getElem?_eq_some_iff.1 hc).1, fun i hi => ?_⟩⟩
    have hi' : i < xs.length := by rw [← hlen]; exact hi
    obtain ⟨q1, q2⟩ := h.rd xs[i] (List.getElem_mem hi')
    have hcell : ∀ t (ht : t < 2), w.cell? ⟨g, 0 + i * 2 + t, none⟩ = (serC xs[i])[t]? := by
      intro t ht
      have e1 : w.cell? ⟨g, 0 + i * 2 + t, none⟩ = cur[0 + i * 2 + t]? := by simp [World.cell?, hc]
      have e2 : (cur.toList.take (xs.length * 2))[i * 2 + t]? = cur.toList[i * 2 + t]? := List.getElem?_take_of_lt (by omega)
      rw [e1, Nat.zero_add, ← flatV_at xs i t hi' ht, ← h4, e2, Array.getElem?_toList]
    have hci : (cutV xs)[i] = xs[i].2.2 := by simp [cutV]
    rw [hci]
    exact ⟨_, _, hcell 0 (by omega), hcell 1 (by omega), q1.rd, q1.nz, q2.rd, q2.nz⟩
/-- A row of texts as cells. -/
def flatT (l : List Str) : List Value := l.map vT
theorem flatT_length (l : List Str) : (flatT l).length = l.length * 1 := by simp [flatT]
theorem flatT_append (a b : List Str) : flatT (a ++ b) = flatT a ++ flatT b := by simp [flatT]
/-- A row of texts that can be read. -/
def RdT (w : World) (B : Nat) (v : Value) (l : List Str) : Prop :=
  ∃ A c, v = .slice A l.length c ∧ l.length ≤ c ∧ (l = [] ∨ ∃ b o, A = some ⟨b, o, none⟩ ∧ b < B ∧ ∀ i (h : i < l.length), w.cell? ⟨b, o + i, none⟩ = some (vT l[i]))
theorem RdT.below {w w' : World} {B : Nat} {v : Value} {l : List Str} (h : RdT w B v l) (k : Below B w w') : RdT w' B v l := by
  obtain ⟨A, c, h1, h2, h3⟩ := h
  exact ⟨A, c, h1, h2, h3.imp id fun ⟨b, o, e, hb, hc⟩ => ⟨b, o, e, hb, fun i hi => (k.cell hb).trans (hc i hi)⟩⟩
theorem RdT.mono {w : World} {B B' : Nat} {v : Value} {l : List Str} (h : RdT w B v l) (k : B ≤ B') : RdT w B' v l := by
  obtain ⟨A, c, h1, h2, h3⟩ := h
  exact ⟨A, c, h1, h2, h3.imp id fun ⟨b, o, e, hb, hc⟩ => ⟨b, o, e, Nat.lt_of_lt_of_le hb k, hc⟩⟩
theorem RdT.on {w w' : World} {v : Value} {l : List Str} (h : RdT w w.heap.size v l) (k : Below w.heap.size w w') : RdT w' w'.heap.size v l := (h.below k).mono k.size
def OwnT (w : World) (base : Nat) (v : Value) (l : List Str) : Prop := w.ownsRow base 9 1 v l.length (flatT l)
theorem OwnT.nil (w : World) (base : Nat) : OwnT w base (.slice none 0 0) [] := ⟨rfl, .inl ⟨rfl, rfl⟩⟩
theorem OwnT.below {w w' : World} {base : Nat} {v : Value} {l : List Str} (h : OwnT w base v l) (k : Below w.heap.size w w') : OwnT w' base v l := below_owns k h
end Go.Proofs.YtkgcbeokfilehaaGreatDoor

/-
  What is too old is told no more; what isn't is told still: in plain words. What a row of series in any order is, once it is in order.
-/
namespace Go.Proofs.YtkgcbeokfilehaaGreatDoor
/-- Those later than q, of those series that have any. -/
def wantS (q : Int) (l : List (Lbs × List Smp)) : List (Lbs × List Smp) := (l.map (fun x => (x.1, x.2.filter (fun s => decide (q < s.1))))).filter (fun x => decide (x.2 ≠ []))
theorem wantS_snoc (q : Int) (l : List (Lbs × List Smp)) (x : Lbs × List Smp) : wantS q (l ++ [x]) = wantS q l ++ if x.2.filter (fun s => decide (q < s.1)) = [] then [] else [(x.1, x.2.filter (fun s => decide (q < s.1)))] := by
  unfold wantS
  rw [List.map_append, List.filter_append]
  by_cases h : x.2.filter (fun s => decide (q < s.1)) = []
  · rw [if_pos h]; simp only [List.map_cons, List.map_nil, List.filter_cons, h]; simp
  · rw [if_neg h]; simp only [List.map_cons, List.map_nil, List.filter_cons]; simp [h]
theorem tell_aux (C1 C2 : Lbs → List Smp) (p : Lbs → Bool) (q : Int) (h : ∀ c, C2 c = (C1 c).filter (fun s => decide (q < s.1))) : ∀ ls : List Lbs,
    (ls.filter (fun c => p c && decide (C2 c ≠ []))).map (fun c => (c, C2 c)) = wantS q ((ls.filter (fun c => p c && decide (C1 c ≠ []))).map (fun c => (c, C1 c)))
  | [] => rfl
  | c :: ls => by
    have ih := tell_aux C1 C2 p q h ls
    have hc := h c
    cases hp : p c
    · rw [List.filter_cons, List.filter_cons, hp]
      simpa using ih
    · by_cases h1 : C1 c = []
      · have h2 : C2 c = [] := by rw [hc, h1]; rfl
        rw [List.filter_cons, List.filter_cons, hp, h1, h2]
        simpa using ih
      · by_cases h2 : C2 c = []
        · rw [List.filter_cons, List.filter_cons, hp, h2]
          simp only [ne_eq, not_true_eq_false, decide_false, Bool.and_false, Bool.false_eq_true, if_false, h1, not_false_eq_true, decide_true, Bool.and_true, if_true, List.map_cons]
          rw [ih]
          unfold wantS
          rw [List.map_cons, List.filter_cons, ← hc, h2]
          simp
        · rw [List.filter_cons, List.filter_cons, hp]
          simp only [ne_eq, h1, h2, not_false_eq_true, decide_true, Bool.and_true, if_true, List.map_cons]
          rw [ih]
          unfold wantS
          rw [List.map_cons, List.filter_cons, ← hc]
          simp [h2]
theorem tell_later {d f1 f2 t q : Int} (h : ∀ T : Int, f2 ≤ T ↔ f1 ≤ T ∧ q < T) (fs : List Fil) (R : Told) : tellS d f2 t fs R = wantS q (tellS d f1 t fs R) := by
  unfold tellS
  refine tell_aux (tellC d f1 t R) (tellC d f2 t R) (allF fs) q (fun c => ?_) _
  unfold tellC delS
  rw [List.filter_filter]
  refine List.filter_congr fun s _ => ?_
  unfold outS
  have := h s.1
  by_cases h1 : s.1 < f1 <;> by_cases h2 : s.1 < f2 <;> by_cases h3 : t < s.1 <;> by_cases h4 : q < s.1 <;> simp [h1, h2, h3, h4] <;> omega
/-- Of series in any order: in order they are what is told. -/
theorem told_of {d f t : Int} {fs : List Fil} {R : Told} {ls : List Lbs} {a : List (Lbs × List Smp)} (hls : ∀ c, c ∈ ls ↔ hasR R c = true) (hn : ls.Nodup)
    (hp : a.Perm ((ls.filter (fun c => allF fs c && decide (tellC d f t R c ≠ []))).map (fun c => (c, tellC d f t R c)))) (hs : a.Pairwise (fun x y => ¬ cmpRow y.1 x.1 < 0)) : a = tellS d f t fs R := by
  have h1 : ls.Perm (labsOf R) := by
    refine (List.perm_ext_iff_of_nodup hn (upR_nodup (labs_up R))).2 fun c => ?_
    rw [hls, mem_labs]
  have h2 : a.Perm (tellS d f t fs R) := hp.trans ((h1.filter _).map _)
  have hnb : ((tellS d f t fs R).map (·.1)).Nodup := by
    unfold tellS
    rw [List.map_map]
    have e : ((fun x : Lbs × List Smp => x.1) ∘ fun c => (c, tellC d f t R c)) = id := rfl
    rw [e, List.map_id]
    exact List.Pairwise.filter _ (upR_nodup (labs_up R))
  have hub : (tellS d f t fs R).Pairwise (fun x y => cmpRow x.1 y.1 < 0) := by
    unfold tellS
    rw [List.pairwise_map]
    exact List.Pairwise.filter _ (labs_up R)
  have hna : (a.map (·.1)).Nodup := ((h2.map _).nodup_iff).2 hnb
  have hua : a.Pairwise (fun x y => cmpRow x.1 y.1 < 0) := by
    rw [List.nodup_iff_pairwise_ne, List.pairwise_map] at hna
    refine (List.pairwise_and_iff.2 ⟨hs, hna⟩).imp fun ⟨h3, h4⟩ => ?_
    have h5 := cmpRow_swap _ _ ▸ h3
    have h6 : cmpRow _ _ ≠ 0 := fun e => h4 (cmpRow_eq.1 e)
    omega
  exact h2.eq_of_pairwise (fun x y _ _ h3 h4 => absurd (cmpRow_trans h3 h4) (cmpRow_irr _)) hua hub
end Go.Proofs.YtkgcbeokfilehaaGreatDoor
