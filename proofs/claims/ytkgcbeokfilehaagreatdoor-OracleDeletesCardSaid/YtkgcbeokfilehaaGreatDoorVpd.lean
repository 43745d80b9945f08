/-
  Rows of series and rows of texts, in memory.
-/
import Derived.Test.YtkgcbeokfilehaaGreatDoorVmd
import Derived.Test.YtkgcbeokfilehaaGreatDoorVbd
import Derived.Lib.SlMapFilter
import Derived.Maps.RangeWalk
namespace Go.Proofs.YtkgcbeokfilehaaGreatDoor
open Go.RowKit Go.Sort Go.Maps

abbrev Ser := Lbs × List Smp
/-- A series' values: where its labels are, where its samples are; what they are. -/
abbrev SerV := Value × Value × Ser
def serC (x : SerV) : List Value := [x.1, x.2.1]
def flatV (xs : List SerV) : List Value := xs.flatMap serC
def cutV (xs : List SerV) : List Ser := xs.map (·.2.2)
theorem flatV_append (a b : List SerV) : flatV (a ++ b) = flatV a ++ flatV b := by unfold flatV; simp
theorem flatV_one (a : SerV) : flatV [a] = serC a := by unfold flatV; simp
theorem flatV_at : ∀ (l : List SerV) (i j : Nat) (h : i < l.length), j < 2 → (flatV l)[i * 2 + j]? = (serC l[i])[j]?
  | a :: l, 0, j, _, hj => by
    unfold flatV; rw [List.flatMap_cons, Nat.zero_mul, Nat.zero_add, List.getElem?_append_left (by simpa [serC] using hj)]; rfl
  | a :: l, i + 1, j, h, hj => by
    have := flatV_at l i j (by simpa using h) hj
    unfold flatV at *
    rw [List.flatMap_cons, show (i + 1) * 2 + j = (serC a).length + (i * 2 + j) by simp [serC]; omega, List.getElem?_append_right (by omega), Nat.add_sub_cancel_left, this]; rfl
/-- A row of series that can be read: below block B. -/
def SerAt (w : World) (B b o : Nat) (x : Ser) : Prop :=
  ∃ lv sv, w.cell? ⟨b, o, none⟩ = some lv ∧ w.cell? ⟨b, o + 1, none⟩ = some sv ∧ RdL w B lv x.1 ∧ Nz lv ∧ Rd w B sv x.2 ∧ Nz sv
theorem SerAt.below {w w' : World} {B b o : Nat} {x : Ser} (h : SerAt w B b o x) (k : Below B w w') (hb : b < B) : SerAt w' B b o x := by
  obtain ⟨lv, sv, h1, h2, h3, h4, h5, h6⟩ := h
  exact ⟨lv, sv, (k.cell hb).trans h1, (k.cell hb).trans h2, h3.below k, h4, h5.below k, h6⟩
theorem SerAt.mono {w : World} {B B' b o : Nat} {x : Ser} (h : SerAt w B b o x) (k : B ≤ B') : SerAt w B' b o x := by
  obtain ⟨lv, sv, h1, h2, h3, h4, h5, h6⟩ := h
  exact ⟨lv, sv, h1, h2, h3.mono k, h4, h5.mono k, h6⟩
def RdX (w : World) (B : Nat) (v : Value) (l : List Ser) : Prop :=
  ∃ A c, v = .slice A l.length c ∧ l.length ≤ c ∧ (l = [] ∨ ∃ b o, A = some ⟨b, o, none⟩ ∧ b < B ∧ ∀ i (h : i < l.length), SerAt w B b (o + i * 2) l[i])
theorem RdX.below {w w' : World} {B : Nat} {v : Value} {l : List Ser} (h : RdX w B v l) (k : Below B w w') : RdX w' B v l := by
  obtain ⟨A, c, h1, h2, h3⟩ := h
  exact ⟨A, c, h1, h2, h3.imp id fun ⟨b, o, e, hb, hc⟩ => ⟨b, o, e, hb, fun i hi => (hc i hi).below k hb⟩⟩
theorem RdX.mono {w : World} {B B' : Nat} {v : Value} {l : List Ser} (h : RdX w B v l) (k : B ≤ B') : RdX w B' v l := by
  obtain ⟨A, c, h1, h2, h3⟩ := h
  exact ⟨A, c, h1, h2, h3.imp id fun ⟨b, o, e, hb, hc⟩ => ⟨b, o, e, Nat.lt_of_lt_of_le hb k, fun i hi => (hc i hi).mono k⟩⟩
theorem RdX.on {w w' : World} {v : Value} {l : List Ser} (h : RdX w w.heap.size v l) (k : Below w.heap.size w w') : RdX w' w'.heap.size v l := (h.below k).mono k.size
/-- A row of series that the call made itself. -/
structure OutV (w : World) (B : Nat) (v : Value) (xs : List SerV) : Prop where
  row : w.ownsRow B 52 2 v xs.length (flatV xs)
  rd : ∀ x ∈ xs, OwnL w B x.1 x.2.2.1 ∧ Own w B 54 x.2.1 x.2.2.2
theorem tag_ne {w : World} {B B' e e' s s' n n' : Nat} {v v' : Value} {xs xs' : List Value} (h : w.ownsRow B e s v n xs) (h' : w.ownsRow B' e' s' v' n' xs') (he : e ≠ e') : ∀ g, v.ownBlock = some g → v'.ownBlock ≠ some g := by
  intro g hg hg'
  obtain ⟨cur, hc⟩ := owns_tag h hg
  obtain ⟨cur', hc'⟩ := owns_tag h' hg'
  exact he (lit_ty w hc hc')
theorem OutV.nil (w : World) (B : Nat) : OutV w B (.slice none 0 0) [] := ⟨⟨rfl, .inl ⟨rfl, rfl⟩⟩, fun _ h => absurd h List.not_mem_nil⟩
theorem OutV.on {w w' : World} {B : Nat} {v : Value} {xs : List SerV} (h : OutV w B v xs) (k : Below w.heap.size w w') : OutV w' B v xs :=
  ⟨below_owns k h.row, fun x hx => ⟨(h.rd x hx).1.below k, (h.rd x hx).2.below k⟩⟩
theorem OutV.push {w w1 : World} {B : Nat} {v v' : Value} {xs : List SerV} {x : SerV} (h : OutV w B v xs) (hL : OwnL w B x.1 x.2.2.1) (hS : Own w B 54 x.2.1 x.2.2.2)
    (hg : w.grownBy w1 v.ownBlock) (hown : w1.ownsRow B 52 2 v' (xs.length + 1) (flatV xs ++ serC x)) : OutV w1 B v' (xs ++ [x]) := by
  have hk : ∀ {e s n : Nat} {u : Value} {ys : List Value}, w.ownsRow B e s u n ys → e ≠ 52 → w1.ownsRow B e s u n ys := fun ho he =>
    owns_same ho fun g hu => hg.block g (World.ownsRow.lt ho g hu).2 fun e => tag_ne ho h.row he g hu e.symm
  refine ⟨?_, fun y hy => ?_⟩
  · rw [flatV_append, flatV_one, List.length_append]
    exact hown
  · rcases List.mem_append.1 hy with hy | hy
    · exact ⟨hk (h.rd y hy).1 (by decide), hk (h.rd y hy).2 (by decide)⟩
    · rw [List.mem_singleton] at hy
      subst hy
      exact ⟨hk hL (by decide), hk hS (by decide)⟩
theorem OutV.rdX {w : World} {B : Nat} {v : Value} {xs : List SerV} (h : OutV w B v xs) : RdX w w.heap.size v (cutV xs) := by
  have hlen : (cutV xs).length = xs.length := by simp [cutV]
  rcases h.row.2 with ⟨rfl, hn⟩ | ⟨g, cap, cur, rfl, hb, hc, h1, h2, h3, h4⟩
  · have : xs = [] := List.eq_nil_of_length_eq_zero hn
    subst this
    exact ⟨none, 0, rfl, Nat.zero_le _, .inl rfl⟩
  · refine ⟨some ⟨g, 0, none⟩, cap, by rw [hlen], by rw [hlen]; exact h1, .inr ⟨g, 0, rfl, (Array.getElem?_eq_some_iff.1 hc).1, fun i hi => ?_⟩⟩
    have hi' : i < xs.length := by rw [← hlen]; exact hi
    obtain ⟨q1, q2⟩ := h.rd xs[i] (List.getElem_mem hi')
    have hcell : ∀ t (ht : t < 2), w.cell? ⟨g, 0 + i * 2 + t, none⟩ = (serC xs[i])[t]? := by
      intro t ht
      have e1 : w.cell? ⟨g, 0 + i * 2 + t, none⟩ = cur[0 + i * 2 + t]? := by simp [World.cell?, hc]
      have e2 : (cur.toList.take (xs.length * 2))[i * 2 + t]? = cur.toList[i * 2 + t]? := List.getElem?_take_of_lt (by omega)
      rw [e1, Nat.zero_add, ← flatV_at xs i t hi' ht, ← h4, e2, Array.getElem?_toList]
    have hci : (cutV xs)[i] = xs[i].2.2 := by simp [cutV]
    rw [hci]
    exact ⟨_, _, hcell 0 (by omega), hcell 1 (by omega), q1.rd, q1.nz, q2.rd, q2.nz⟩
/-- A row of texts as cells. -/
def flatT (l : List Str) : List Value := l.map vT
theorem flatT_append (a b : List Str) : flatT (a ++ b) = flatT a ++ flatT b := by simp [flatT]
/-- A row of texts that can be read. -/
def RdT (w : World) (B : Nat) (v : Value) (l : List Str) : Prop :=
  ∃ A c, v = .slice A l.length c ∧ l.length ≤ c ∧ (l = [] ∨ ∃ b o, A = some ⟨b, o, none⟩ ∧ b < B ∧ ∀ i (h : i < l.length), w.cell? ⟨b, o + i, none⟩ = some (vT l[i]))
theorem RdT.below {w w' : World} {B : Nat} {v : Value} {l : List Str} (h : RdT w B v l) (k : Below B w w') : RdT w' B v l := by
  obtain ⟨A, c, h1, h2, h3⟩ := h
  exact ⟨A, c, h1, h2, h3.imp id fun ⟨b, o, e, hb, hc⟩ => ⟨b, o, e, hb, fun i hi => (k.cell hb).trans (hc i hi)⟩⟩
theorem RdT.mono {w : World} {B B' : Nat} {v : Value} {l : List Str} (h : RdT w B v l) (k : B ≤ B') : RdT w B' v l := by
  obtain ⟨A, c, h1, h2, h3⟩ := h
  exact ⟨A, c, h1, h2, h3.imp id fun ⟨b, o, e, hb, hc⟩ => ⟨b, o, e, Nat.lt_of_lt_of_le hb k, hc⟩⟩
theorem RdT.on {w w' : World} {v : Value} {l : List Str} (h : RdT w w.heap.size v l) (k : Below w.heap.size w w') : RdT w' w'.heap.size v l := (h.below k).mono k.size
def OwnT (w : World) (base : Nat) (v : Value) (l : List Str) : Prop := w.ownsRow base 9 1 v l.length (flatT l)
theorem OwnT.nil (w : World) (base : Nat) : OwnT w base (.slice none 0 0) [] := ⟨rfl, .inl ⟨rfl, rfl⟩⟩
theorem OwnT.below {w w' : World} {base : Nat} {v : Value} {l : List Str} (h : OwnT w base v l) (k : Below w.heap.size w w') : OwnT w' base v l := below_owns k h
end Go.Proofs.YtkgcbeokfilehaaGreatDoor

/-
  What is too old is told no more; what isn't is told still: in plain words. What a row of series in any order is, once it is in order.
-/
namespace Go.Proofs.YtkgcbeokfilehaaGreatDoor
/-- Of series in any order: in order they are what is told. -/
theorem told_of {d f t : Int} {fs : List Fil} {R : Told} {ls : List Lbs} {a : List (Lbs × List Smp)} (hls : ∀ c, c ∈ ls ↔ hasR R c = true) (hn : ls.Nodup)
    (hp : a.Perm ((ls.filter (fun c => allF fs c && decide (tellC d f t R c ≠ []))).map (fun c => (c, tellC d f t R c)))) (hs : a.Pairwise (fun x y => ¬ cmpRow y.1 x.1 < 0)) : a = tellS d f t fs R := by
  have h1 : ls.Perm (labsOf R) := by
    refine (List.perm_ext_iff_of_nodup hn (upR_nodup (labs_up R))).2 fun c => ?_
    rw [hls, mem_labs]
  have h2 : a.Perm (tellS d f t fs R) := hp.trans ((h1.filter _).map _)
  have hnb : ((tellS d f t fs R).map (·.1)).Nodup := by
    unfold tellS
    rw [List.map_map]
    have e : ((fun x : Lbs × List Smp => x.1) ∘ fun c => (c, tellC d f t R c)) = id := rfl
    rw [e, List.map_id]
    exact List.Pairwise.filter _ (upR_nodup (labs_up R))
  have hub : (tellS d f t fs R).Pairwise (fun x y => cmpRow x.1 y.1 < 0) := by
    unfold tellS
    rw [List.pairwise_map]
    exact List.Pairwise.filter _ (labs_up R)
  have hna : (a.map (·.1)).Nodup := ((h2.map _).nodup_iff).2 hnb
  have hua : a.Pairwise (fun x y => cmpRow x.1 y.1 < 0) := by
    rw [List.nodup_iff_pairwise_ne, List.pairwise_map] at hna
    refine (List.pairwise_and_iff.2 ⟨hs, hna⟩).imp fun ⟨h3, h4⟩ => ?_
    have h5 := cmpRow_swap _ _ ▸ h3
    have h6 : cmpRow _ _ ≠ 0 := fun e => h4 (cmpRow_eq.1 e)
    omega
  exact h2.eq_of_pairwise (fun x y _ _ h3 h4 => absurd (cmpRow_trans h3 h4) (cmpRow_irr _)) hua hub
end Go.Proofs.YtkgcbeokfilehaaGreatDoor

/-
  What a map of series holds, entry by entry; how many; what is left when some are struck.
-/
namespace Go.Proofs.YtkgcbeokfilehaaGreatDoor
open Go.RowKit Go.Sort Go.Maps
open Go.WideElems (Fit rd rg pl rd_val rd_key rg_of)

theorem key_law : Keyed Tryz.prog 9 := string_keyed Tryz.underlying9
theorem has_of_mem {es : List (Lit × DataW Unit)} {c : Lbs} {y : DataW Unit} (h : (kyL c, y) ∈ es) : Maps.has (.map es) (kyL c) = true :=
  List.any_eq_true.2 ⟨_, h, WideAt.sameKey_self (kyL_key c)⟩
theorem mem_of_has {es : List (Lit × DataW Unit)} {k : Lit} (h : Maps.has (.map es) k = true) : ∃ y, (k, y) ∈ es := by
  obtain ⟨q, hq, hk⟩ := List.any_eq_true.1 h
  have := WideAt.sameKey_eq hk
  subst this
  exact ⟨q.2, hq⟩
/-- The entries: just those of the series that are there. -/
theorem OM.ents {w : World} {S : Nat → Prop} {B b n : Nat} {D : DataW Unit} {X : Sers} {H : Lbs → Bool} {L : Lbs → List Smp} (h : OM w S B b n D X H L) :
    ∃ es, D = .map es ∧ es.Pairwise (fun p q => p.1 ≠ q.1) ∧ (∀ q ∈ es, ∃ c, H c = true ∧ q = (kyL c, .lit (.int .i64 (X.G c)))) ∧ ∀ c, H c = true → (kyL c, .lit (.int .i64 (X.G c))) ∈ es := by
  obtain ⟨es, rfl, hap, hk⟩ := h.map.entries key_law
  have one : ∀ c y, (kyL c, y) ∈ es → H c = true ∧ y = .lit (.int .i64 (X.G c)) := by
    intro c y hq
    have h1 := has_of_mem hq
    rw [h.has] at h1
    have h2 := WideAt.atKey_mem .nil (kyL_key c) hap hq
    rw [h.at_ c h1] at h2
    exact ⟨h1, h2.symm⟩
  refine ⟨es, rfl, hap, fun q hq => ?_, fun c hc => ?_⟩
  · have h1 : Maps.has (.map es) q.1 = true := List.any_eq_true.2 ⟨q, hq, WideAt.sameKey_self (hk q hq)⟩
    obtain ⟨c, hc, e⟩ := h.key q.1 h1
    obtain ⟨k, y⟩ := q
    have e : k = kyL c := e
    subst e
    obtain ⟨_, rfl⟩ := one c y hq
    exact ⟨c, hc, rfl⟩
  · have h1 := h.has c
    rw [hc] at h1
    obtain ⟨y, hy⟩ := mem_of_has h1
    obtain ⟨_, rfl⟩ := one c y hy
    exact hy
theorem OM.size {w : World} {S : Nat → Prop} {B b n : Nat} {D : DataW Unit} {X : Sers} {R : Told} {L : Lbs → List Smp} (h : OM w S B b n D X (hasR R) L) : Maps.size D = (labsOf R).length := by
  obtain ⟨es, rfl, hap, h1, h2⟩ := h.ents
  have hp : (es.map (·.1)).Perm ((labsOf R).map kyL) := by
    refine (List.perm_ext_iff_of_nodup ?_ ?_).2 fun k => ?_
    · rw [List.nodup_iff_pairwise_ne, List.pairwise_map]; exact hap
    · rw [List.nodup_iff_pairwise_ne, List.pairwise_map]
      refine List.Pairwise.imp (fun {x y} h e => ?_) (labs_up R)
      rw [kyL_inj e] at h
      exact cmpRow_irr _ h
    · rw [List.mem_map, List.mem_map]
      constructor
      · rintro ⟨q, hq, rfl⟩
        obtain ⟨c, hc, rfl⟩ := h1 q hq
        exact ⟨c, mem_labs.2 hc, rfl⟩
      · rintro ⟨c, hc, rfl⟩
        exact ⟨_, h2 c (mem_labs.1 hc), rfl⟩
  have := hp.length_eq
  simpa [Maps.size] using this
theorem OM.congr {w : World} {S : Nat → Prop} {B b n : Nat} {D : DataW Unit} {X : Sers} {H : Lbs → Bool} {L L' : Lbs → List Smp} (h : OM w S B b n D X H L) (k : ∀ c, H c = true → L' c = L c) : OM w S B b n D X H L' :=
  ⟨h.map, h.lt, h.sb, h.isMap, h.key, h.has, h.at_, fun c hc => by rw [k c hc]; exact h.ser c hc, h.own, h.apart⟩
/-- The series that a pointer points at. -/
noncomputable def ptR (X : Sers) (H : Lbs → Bool) (v : Value) : Option (DataW Unit × List MemPlace) :=
  @ite _ (∃ c, H c = true ∧ v = .pointer (some ⟨X.G c, 0, none⟩)) (Classical.propDecidable _) (ptE v) none
theorem ptR_form {X : Sers} {H : Lbs → Bool} {v : Value} {y : DataW Unit × List MemPlace} (h : ptR X H v = some y) : ∃ c, H c = true ∧ v = .pointer (some ⟨X.G c, 0, none⟩) ∧ y = (.lit (.int .i64 (X.G c)), []) := by
  unfold ptR at h
  split at h
  case isTrue hc =>
    obtain ⟨c, hc, rfl⟩ := hc
    exact ⟨c, hc, rfl, (Option.some.inj h).symm⟩
  case isFalse => cases h
theorem ptR_mk {X : Sers} {H : Lbs → Bool} {c : Lbs} (hc : H c = true) : ptR X H (.pointer (some ⟨X.G c, 0, none⟩)) = some (.lit (.int .i64 (X.G c)), []) := by
  unfold ptR
  rw [if_pos ⟨c, hc, rfl⟩]; rfl
theorem ptR_ptE {X : Sers} {H : Lbs → Bool} {v : Value} {y : DataW Unit × List MemPlace} (h : ptR X H v = some y) : ptE v = some y := by
  obtain ⟨c, _, rfl, rfl⟩ := ptR_form h
  rfl
set_option maxRecDepth 100000 in
theorem OM.restr {w : World} {S : Nat → Prop} {B b n : Nat} {D : DataW Unit} {X : Sers} {H : Lbs → Bool} {L : Lbs → List Smp} (h : OM w S B b n D X H L) : w.ownsMap Tryz.prog 9 (ptR X H) b n D := by
  obtain ⟨es, e, _, hin, _⟩ := h.ents
  obtain ⟨ms, clock, hb, F, hs, hD⟩ := h.map
  have e2 := hD.symm.trans e
  injection e2 with e2
  obtain ⟨F', hmap, _⟩ := F.stay (R' := ptR X H) fun x hx z hz => by
    obtain ⟨y, hy⟩ := F.reads x hx
    obtain ⟨z', hz', hzd⟩ := rd_val hy
    rw [hz] at hz'
    injection hz' with hz'
    subst hz'
    have hm : rg Tryz.prog 9 ptE x ∈ es := by
      rw [← e2]; exact mem_sorted.2 (List.mem_map.2 ⟨x, hx, rfl⟩)
    obtain ⟨c, hc, e3⟩ := hin _ hm
    rw [rg_of hy] at e3
    have e4 : y.2 = .lit (.int .i64 (X.G c)) := by rw [e3]
    rw [hzd] at e4
    obtain ⟨z1, z2⟩ := z
    have e4 : z1 = .lit (.int .i64 (X.G c)) := e4
    subst e4
    have e5 := ptE_lit hz
    rw [e5] at hz ⊢
    rw [ptR_mk hc]; exact hz
  exact ⟨ms, clock, hb, F', hs, by rw [hmap]; exact hD⟩
/-- Which are struck: by what the pointer points at. -/
noncomputable def pdR (X : Sers) (H p : Lbs → Bool) (_ : Lit) (y : DataW Unit) : Bool := @decide (∃ c, H c = true ∧ y = .lit (.int .i64 (X.G c)) ∧ p c = true) (Classical.propDecidable _)
theorem pdR_at {w : World} {S : Nat → Prop} {B b n : Nat} {D : DataW Unit} {X : Sers} {H p : Lbs → Bool} {L : Lbs → List Smp} (h : OM w S B b n D X H L) {c : Lbs} (hc : H c = true) (k : Lit) : pdR X H p k (.lit (.int .i64 (X.G c))) = p c := by
  unfold pdR
  cases hp : p c
  · refine @decide_eq_false _ (Classical.propDecidable _) ?_
    rintro ⟨c', hc', e, hp'⟩
    injection e with e
    injection e with _ e
    have e : X.G c = X.G c' := by omega
    by_cases hcc : c = c'
    · subst hcc; rw [hp] at hp'; cases hp'
    · exact (h.apart c c' hc hc' hcc).1 e
  · exact @decide_eq_true _ (Classical.propDecidable _) ⟨c, hc, rfl, hp⟩
theorem OM.strike {w w' : World} {S : Nat → Prop} {B b n : Nat} {D : DataW Unit} {X : Sers} {H p : Lbs → Bool} {L : Lbs → List Smp} (h : OM w S B b n D X H L) (hm : w'.ownsMap Tryz.prog 9 (ptR X H) b n (Lib.deleteFuncD (pdR X H p) D)) (hg : w.grownBy w' (some b)) :
    OM w' S B b n (Lib.deleteFuncD (pdR X H p) D) X (fun c => H c && !p c) L := by
  obtain ⟨es, rfl, hap, h1, h2⟩ := h.ents
  have h3 : ∀ c, H c = true → p c = false → (kyL c, .lit (.int .i64 (X.G c))) ∈ es.filter fun q => !pdR X H p q.1 q.2 := fun c hc hp => List.mem_filter.2 ⟨h2 c hc, by rw [pdR_at h hc, hp]; rfl⟩
  have h4 : ∀ q ∈ es.filter (fun q => !pdR X H p q.1 q.2), ∃ c, (H c && !p c) = true ∧ q = (kyL c, .lit (.int .i64 (X.G c))) := fun q hq => by
    obtain ⟨hq, hp⟩ := List.mem_filter.1 hq
    obtain ⟨c, hc, rfl⟩ := h1 q hq
    rw [pdR_at h hc] at hp
    exact ⟨c, by rw [hc]; exact hp, rfl⟩
  have h5 : (es.filter fun q => !pdR X H p q.1 q.2).Pairwise (fun p q => p.1 ≠ q.1) := hap.filter _
  have hne : ∀ x, S x → x ≠ b → w'.heap[x]? = w.heap[x]? := fun x hx hn => hg.block x (h.lt x hx).2 (fun e => hn (by injection e))
  have tag : ∀ {x : Nat} {ob : Obj}, w.heap[x]? = some ob → (∀ es clock, ob ≠ .map es clock) → x ≠ b := by
    intro x ob hx ho e
    obtain ⟨ms, clock, hb, _⟩ := h.map
    rw [e, hb] at hx
    injection hx with hx
    exact ho _ _ hx.symm
  refine ⟨?_, fun k hk => ⟨(h.lt k hk).1, Nat.lt_of_lt_of_le (h.lt k hk).2 hg.size⟩, h.sb, ⟨_, rfl⟩, fun kl hk => ?_, fun c => ?_, fun c hc => ?_, fun c hc => ?_, fun c hc => ?_, fun c k hc hk => ?_⟩
  · obtain ⟨ms, clock, hb, F, hs, hD⟩ := hm
    obtain ⟨F', hmap, _⟩ := F.stay (R' := ptE) fun x _ z hz => ptR_ptE hz
    exact ⟨ms, clock, hb, F', hs, by rw [hmap]; exact hD⟩
  · obtain ⟨y, hy⟩ := mem_of_has hk
    obtain ⟨c, hc, e⟩ := h4 _ hy
    exact ⟨c, hc, (Prod.mk.inj e).1⟩
  · rw [Bool.eq_iff_iff]
    constructor
    · intro hh
      obtain ⟨y, hy⟩ := mem_of_has hh
      obtain ⟨c', hc', e⟩ := h4 _ hy
      rw [kyL_inj (Prod.mk.inj e).1]; exact hc'
    · intro hh
      rw [Bool.and_eq_true, Bool.not_eq_true'] at hh
      exact has_of_mem (h3 c hh.1 hh.2)
  · rw [Bool.and_eq_true, Bool.not_eq_true'] at hc
    exact WideAt.atKey_mem .nil (kyL_key c) h5 (h3 c hc.1 hc.2)
  · rw [Bool.and_eq_true] at hc
    obtain ⟨q1, q2, q3⟩ := h.ser c hc.1
    obtain ⟨s1, s2, s3⟩ := h.own c hc.1
    refine ⟨(hne _ s1 (tag q1 (fun _ _ e => by cases e))).trans q1, owns_same q2 (fun g hg => ?_), owns_same q3 (fun g hg => ?_)⟩
    · obtain ⟨cur, hcur⟩ := owns_tag q2 hg
      exact hne g (s2 g hg) (tag hcur (fun _ _ e => by cases e))
    · obtain ⟨cur, hcur⟩ := owns_tag q3 hg
      exact hne g (s3 g hg) (tag hcur (fun _ _ e => by cases e))
  · rw [Bool.and_eq_true] at hc; exact h.own c hc.1
  · rw [Bool.and_eq_true] at hc hk; exact h.apart c k hc.1 hk.1
/-- What a step of a range meets. -/
theorem OM.met {w : World} {S : Nat → Prop} {B b n : Nat} {D : DataW Unit} {X : Sers} {H : Lbs → Bool} {L : Lbs → List Smp} (h : OM w S B b n D X H L) {v : Value} {kl : Lit} {y : DataW Unit × List MemPlace} (hv : ptE v = some y) (hat : ∀ zd, D.atKey kl zd = y.1) :
    ∃ c, H c = true ∧ kl = kyL c ∧ v = .pointer (some ⟨X.G c, 0, none⟩) := by
  obtain ⟨c, hc, rfl⟩ := h.key kl (has_true_of_atKey hat)
  have := hat .nil
  rw [h.at_ c hc] at this
  obtain ⟨y1, y2⟩ := y
  have this : .lit (.int .i64 (X.G c)) = y1 := this
  subst this
  exact ⟨c, hc, rfl, ptE_lit hv⟩
/-- Of a row in some order those that came are done. -/
structure Done (D : DataW Unit) (H : Lbs → Bool) (left : Lit → Bool) (ls : List Lbs) : Prop where
  nodup : ls.Nodup
  iff : ∀ c, c ∈ ls ↔ H c = true ∧ left (kyL c) = false
theorem Done.start {w : World} {S : Nat → Prop} {B b n : Nat} {D : DataW Unit} {X : Sers} {H : Lbs → Bool} {L : Lbs → List Smp} (h : OM w S B b n D X H L) : Done D H (Maps.has D) [] :=
  ⟨List.Pairwise.nil, fun c => by rw [h.has c]; simp⟩
theorem Done.step {D : DataW Unit} {H : Lbs → Bool} {left : Lit → Bool} {ls : List Lbs} (h : Done D H left ls) {c : Lbs} (hc : H c = true) (hl : left (kyL c) = true) : Done D H (fun z => left z && !z.sameKey (kyL c)) (ls ++ [c]) := by
  have hn : c ∉ ls := fun hm => by rw [((h.iff c).1 hm).2] at hl; cases hl
  refine ⟨List.nodup_append.2 ⟨h.nodup, by simp, fun a ha b hb => ?_⟩, fun k => ?_⟩
  · rw [List.mem_singleton] at hb
    subst hb
    exact fun e => hn (e ▸ ha)
  · rw [List.mem_append, h.iff, List.mem_singleton]
    by_cases e : k = c
    · subst e
      rw [WideAt.sameKey_self (kyL_key k)]
      simp [hc]
    · rw [sameKey_ne (fun e2 => e (kyL_inj e2))]
      simp [e]
theorem Done.all {D : DataW Unit} {H : Lbs → Bool} {left : Lit → Bool} {ls : List Lbs} (h : Done D H left ls) (hl : ∀ kl, left kl = false) : ∀ c, c ∈ ls ↔ H c = true := fun c => by rw [h.iff, hl]; simp
end Go.Proofs.YtkgcbeokfilehaaGreatDoor
