/-
  oracle.Search.
-/
import Derived.Test.YtkgcbeokfilehaaGreatDoorVld
import Derived.Test.YtkgcbeokfilehaaGreatDoorVjd
import Derived.Test.YtkgcbeokfilehaaGreatDoorVpd
import Derived.Test.YtkgcbeokfilehaaGreatDoorPld
import Derived.Deep.RegionHeld3
import Derived.Deep.DrawnRows
namespace Go.Proofs.YtkgcbeokfilehaaGreatDoor
open Go.RowKit Go.Sort Go.Shelf Go.Maps
theorem info_Se : (Tryz.prog.info? 52).map (fun i => (i.zero, i.size, i.bytes)) = some (some (.agg #[.slice none 0 0, .slice none 0 0]), 2, 48) := by kernel_rfl
theorem serC_one (x : SerV) (h1 : x.1.oneCell' = true) (h2 : x.2.1.oneCell' = true) : ∀ u ∈ serC x, u.oneCell' = true := by
  intro u hu
  simp [serC] at hu
  rcases hu with rfl | rfl
  · exact h1
  · exact h2
/-- append of one series. -/
theorem app1S {w : World} {ops : Array Oper} {rest : List Oper} {o : Oper} {a : Act} {Q : Exit → Act → World → Prop} (hgd : o.guard = none) (s x : Operand)
    (ho : o.op = .call { callee := .builtin .append, args := #[s, x], argTypes := #[42, 42] })
    (base : Nat) (v : Value) (xs : List SerV) (y : SerV) (hs : a.eval s = v) (hown : OutV w base v xs) (b c : Nat) (hx : a.eval x = .slice (some ⟨b, 0, none⟩) 1 c) (hc0 : w.cell? ⟨b, 0, none⟩ = some y.1) (hc1 : w.cell? ⟨b, 1, none⟩ = some y.2.1)
    (hL : OwnL w base y.1 y.2.2.1) (hS : Own w base 54 y.2.1 y.2.2.2) (hl : (xs.length + 1) * 48 ≤ 140737488355328) (hbase : base ≤ w.heap.size)
    (h : ∀ v' w', OutV w' base v' (xs ++ [y]) → w.grownBy w' v.ownBlock → (v'.ownBlock = v.ownBlock ∨ v'.ownBlock = some w.heap.size) → wpList Tryz.prog ops Q rest (a.put o.dst v') w') :
    wpList Tryz.prog ops Q (o :: rest) a w := by
  obtain ⟨i, hi, hz, hsz, hby⟩ := of_info info_Se
  have o1 : y.1.oneCell' = true := by obtain ⟨A, c, e, _⟩ := hL.rd; rw [e]; rfl
  have o2 : y.2.1.oneCell' = true := by obtain ⟨A, c, e, _⟩ := hS.rd; rw [e]; rfl
  refine wpList_append_own_at w hgd s x 42 ho base 52 i _ 2 48 Tryz.underlying42 hi hz hsz hby rfl (by decide) v xs.length (flatV xs) hs hown.row ⟨b, 0, none⟩ 1 c (serC y) hx rfl ?_ (serC_one y o1 o2) (by unfold maxLen; omega) hl hbase (fun v' w' h1 h2 _ h4 => ?_)
  · intro j u hj
    rcases j with _ | _ | j
    · simp [serC] at hj; subst hj; simpa [Addr.add] using hc0
    · simp [serC] at hj; subst hj; simpa [Addr.add] using hc1
    · simp [serC] at hj
  · exact h v' w' (hown.push hL hS h2 h1) h2 h4
/-- What has been gathered of a range: the series that came, and what is told of them. -/
structure Gat (D : DataW Unit) (R : Told) (d f t : Int) (fs : List Fil) (left : Lit → Bool) (ls : List Lbs) (xs : List SerV) : Prop where
  done : Done D (hasR R) left ls
  told : cutV xs = (ls.filter (fun c => allF fs c && decide (tellC d f t R c ≠ []))).map (fun c => (c, tellC d f t R c))
theorem Gat.step {D : DataW Unit} {R : Told} {d f t : Int} {fs : List Fil} {left : Lit → Bool} {ls : List Lbs} {xs : List SerV} (h : Gat D R d f t fs left ls xs) {c : Lbs} (hc : hasR R c = true) (hl : left (kyL c) = true) :
    ((allF fs c && decide (tellC d f t R c ≠ [])) = false → Gat D R d f t fs (fun z => left z && !z.sameKey (kyL c)) (ls ++ [c]) xs) ∧
    ((allF fs c && decide (tellC d f t R c ≠ [])) = true → ∀ lv sv, Gat D R d f t fs (fun z => left z && !z.sameKey (kyL c)) (ls ++ [c]) (xs ++ [(lv, sv, c, tellC d f t R c)])) := by
  refine ⟨fun he => ⟨h.done.step hc hl, ?_⟩, fun he lv sv => ⟨h.done.step hc hl, ?_⟩⟩
  · rw [h.told, List.filter_append]
    simp only [List.filter_cons, he, List.filter_nil]
    simp
  · unfold cutV
    rw [List.map_append, List.filter_append, List.map_append]
    simp only [List.filter_cons, he, List.filter_nil, if_true, List.map_cons, List.map_nil]
    have := h.told
    unfold cutV at this
    rw [this]
theorem len_sub : ∀ {a b : List Lbs}, a.Nodup → (∀ c ∈ a, c ∈ b) → a.length ≤ b.length
  | [], _, _, _ => Nat.zero_le _
  | x :: a, b, hn, hs => by
    have h2 := List.nodup_cons.1 hn
    have h3 : a.length ≤ (b.erase x).length := len_sub h2.2 (fun c hc => (List.mem_erase_of_ne (fun e => by rw [e] at hc; exact h2.1 hc)).2 (hs c (List.mem_cons_of_mem _ hc)))
    have h4 := List.length_erase_of_mem (hs x List.mem_cons_self)
    have h5 := List.length_pos_of_mem (hs x List.mem_cons_self)
    rw [List.length_cons]; omega
theorem Gat.len {D : DataW Unit} {R : Told} {d f t : Int} {fs : List Fil} {left : Lit → Bool} {ls : List Lbs} {xs : List SerV} (h : Gat D R d f t fs left ls xs) : xs.length ≤ R.length := by
  have h1 : xs.length = (cutV xs).length := by simp [cutV]
  rw [h1, h.told, List.length_map]
  refine Nat.le_trans (List.length_filter_le _ _) ?_
  exact Nat.le_trans (len_sub h.done.nodup (fun c hc => mem_labs.2 ((h.done.iff c).1 hc).1)) (labs_length R)
set_option maxRecDepth 100000 in
set_option maxHeartbeats 1000000 in
theorem serCmp_walk (x y : SerV) (W : World) (hx : RdL W W.heap.size x.1 x.2.2.1) (hy : RdL W W.heap.size y.1 y.2.2.1) (hxs : Rd W W.heap.size x.2.1 x.2.2.2) (hys : Rd W W.heap.size y.2.1 y.2.2.2) (hl : x.2.2.1.length ≤ 1000000) :
    Calls Tryz.prog 41 #[.agg #[x.1, x.2.1], .agg #[y.1, y.2.1]] W fun e w' => e = .returned (.int .i64 (cmpRow x.2.2.1 y.2.2.1)) ∧ Ext W w' := by
  obtain ⟨lx, sx, cx, ssx⟩ := x
  obtain ⟨ly, sy, cy, ssy⟩ := y
  simp only at *
  have KL : Hid (∀ w, Ext W w → Calls Tryz.prog 42 #[lx, ly] w fun e w' => e = .returned (.int .i64 (cmpRow cx cy)) ∧ Ext w w') := fun w h => lcmp_walk lx ly cx cy w ((hx.below h.below).mono h.size) ((hy.below h.below).mono h.size) hl
  obtain ⟨A1, c1, rfl, _, _⟩ := hx
  obtain ⟨A2, c2, rfl, _, _⟩ := hy
  obtain ⟨A3, c3, rfl, _, _⟩ := hxs
  obtain ⟨A4, c4, rfl, _, _⟩ := hys
  obtain ⟨n1, h1⟩ : ∃ n, n = cx.length := ⟨_, rfl⟩
  obtain ⟨n2, h2⟩ : ∃ n, n = cy.length := ⟨_, rfl⟩
  obtain ⟨n3, h3⟩ : ∃ n, n = ssx.length := ⟨_, rfl⟩
  obtain ⟨n4, h4⟩ : ∃ n, n = ssy.length := ⟨_, rfl⟩
  rw [← h1, ← h2] at KL
  rw [← h1, ← h2, ← h3, ← h4]
  clear hl h1 h2 h3 h4
  go_enter Tryz.func41, Tryz.ntmps41
  go_wp2_with fail
  refine (KL.out _ (((Ext.refl W).alloc _).alloc _)).mono ?_
  rintro e w2 ⟨rfl, hE⟩
  go_wp2_with fail
  go_ret
  exact ⟨rfl, (((Ext.refl W).alloc _).alloc _).trans hE⟩
theorem OutV.cells2 {w : World} {base g cap : Nat} {xs : List SerV} (h : OutV w base (.slice (some ⟨g, 0, none⟩) xs.length cap) xs) : ∀ i (hi : i < xs.length), w.cell? ⟨g, i * 2, none⟩ = some xs[i].1 ∧ w.cell? ⟨g, i * 2 + 1, none⟩ = some xs[i].2.1 := by
  intro i hi
  rcases h.row.2 with ⟨e, _⟩ | ⟨g', cap', cur, e, hb, hh, h1, h2, h3, h4⟩
  · cases e
  injection e with e1 e2 e3
  injection e1 with e1
  injection e1 with e1 _ _
  subst e1
  have key : ∀ t, t < 2 → w.cell? ⟨g, i * 2 + t, none⟩ = (serC xs[i])[t]? := fun t ht => by
    have e1 : w.cell? ⟨g, i * 2 + t, none⟩ = cur[i * 2 + t]? := by simp [World.cell?, hh]
    have e2 : (cur.toList.take (xs.length * 2))[i * 2 + t]? = cur.toList[i * 2 + t]? := List.getElem?_take_of_lt (by omega)
    rw [e1, ← flatV_at xs i t hi ht, ← h4, e2, Array.getElem?_toList]
  exact ⟨key 0 (by decide), key 1 (by decide)⟩
theorem cmpRow_swo {α : Type} (f : α → Lbs) : SWO (ltOf (fun x y : α => cmpRow (f x) (f y))) where
  irrefl x := by
    unfold ltOf; rw [decide_eq_false_iff_not]; exact cmpRow_irr _
  trans x y z h1 h2 := by
    unfold ltOf at *; rw [decide_eq_true_eq] at *; exact cmpRow_trans h1 h2
  ntrans x y z h1 h2 := by
    simp only [ltOf, decide_eq_false_iff_not] at *
    intro h3
    have a1 := cmpRow_swap (f x) (f y)
    have a2 := cmpRow_swap (f y) (f z)
    by_cases e1 : cmpRow (f x) (f y) = 0
    · rw [cmpRow_eq.1 e1] at h3; exact h2 h3
    · by_cases e2 : cmpRow (f y) (f z) = 0
      · rw [cmpRow_eq.1 e2] at h1; exact h1 h3
      · have h4 := cmpRow_trans (show cmpRow (f z) (f y) < 0 by omega) (show cmpRow (f y) (f x) < 0 by omega)
        have a3 := cmpRow_swap (f x) (f z)
        omega
theorem grownBy_sortK {α : Type} [Inhabited α] (enc : α → List Value) (k : Nat) (w : World) (blk n : Nat) (d : Array α) (os : Array Obj) : w.grownBy (sortWorldK enc k w blk 0 n d os) (some blk) := by
  unfold sortWorldK putRowK putRow mapBlock grow Sort.ahead
  refine ⟨rfl, rfl, rfl, by simp, fun j hj hne => ?_⟩
  have hkb : blk ≠ j := fun e => hne (by rw [e])
  rw [Array.getElem?_append_left (by simpa using hj), Array.getElem?_modify, if_neg hkb]
theorem flat_at {α : Type} (enc : α → List Value) (hk : ∀ x, (enc x).length = 2) : ∀ (l : List α) (i j : Nat) (h : i < l.length), j < 2 → (l.flatMap enc)[i * 2 + j]? = (enc l[i])[j]?
  | a :: l, 0, j, _, hj => by
    rw [List.flatMap_cons, Nat.zero_mul, Nat.zero_add, List.getElem?_append_left (by rw [hk]; exact hj)]; rfl
  | a :: l, i + 1, j, h, hj => by
    have := flat_at enc hk l i j (by simpa using h) hj
    rw [List.flatMap_cons, show (i + 1) * 2 + j = (enc a).length + (i * 2 + j) by rw [hk]; omega, List.getElem?_append_right (by omega), Nat.add_sub_cancel_left, this]; rfl
theorem flat_len {α : Type} (enc : α → List Value) (hk : ∀ x, (enc x).length = 2) : ∀ l : List α, (l.flatMap enc).length = l.length * 2
  | [] => rfl
  | a :: l => by rw [List.flatMap_cons, List.length_append, hk, flat_len enc hk l, List.length_cons]; omega
theorem flatK2_get {α : Type} [Inhabited α] (enc : α → List Value) (hk : ∀ x, (enc x).length = 2) (d : List α) (i j : Nat) (hi : i < d.length) (hj : j < 2) : some (flatK enc 2 d.toArray)[i * 2 + j]! = (enc d[i])[j]? := by
  rw [get_flatK _ _ _ _ (by simp; omega), show (i * 2 + j) / 2 = i by omega, show (i * 2 + j) % 2 = j by omega]
  have : (d.toArray)[i]! = d[i] := by simp [hi]
  rw [this]
  have h2 := hk d[i]
  rw [List.getElem?_eq_getElem (by omega), getElem!_pos _ _ (by omega)]
theorem holds_own2 {α : Type} [Inhabited α] (enc : α → List Value) (hk : ∀ x, (enc x).length = 2) {w : World} {g : Nat} {cur : Array Value} {e : TypeId} {d : List α} (hh : w.heap[g]? = some (.cells cur e (0, 0))) (ht : cur.toList.take (d.length * 2) = d.flatMap enc) : HoldsK enc 2 w g 0 d.toArray := by
  intro t h
  rw [size_flatK] at h
  simp only [List.size_toArray] at h
  obtain ⟨i, j, hi, hj, rfl⟩ : ∃ i j, i < d.length ∧ j < 2 ∧ t = i * 2 + j := ⟨t / 2, t % 2, by omega, by omega, by omega⟩
  refine ⟨?_, ?_⟩
  · have e1 : w.cell? ⟨g, 0 + (i * 2 + j), none⟩ = cur[0 + (i * 2 + j)]? := by simp [World.cell?, hh]
    have e3 : (cur.toList.take (d.length * 2))[i * 2 + j]? = cur.toList[i * 2 + j]? := List.getElem?_take_of_lt h
    rw [e1, Nat.zero_add, ← Array.getElem?_toList, ← e3, ht, flat_at enc hk d i j hi hj, ← flatK2_get enc hk d i j hi hj]; rfl
  · simp [World.frozen?, hh]
theorem own_sorted2 {α : Type} [Inhabited α] (enc : α → List Value) (hk : ∀ x, (enc x).length = 2) {w : World} {base e g n cap : Nat} {xs : List Value} {d : List α} (h : w.ownsRow base e 2 (.slice (some ⟨g, 0, none⟩) n cap) n xs) (hs : d.length = n) (m : Nat) (os : Array Obj) :
    (sortWorldK enc 2 w g 0 m d.toArray os).ownsRow base e 2 (.slice (some ⟨g, 0, none⟩) n cap) n (d.flatMap enc) := by
  obtain ⟨h1, h2⟩ := h
  rcases h2 with ⟨e, _⟩ | ⟨g', cap', cur, e, hb, hh, hn, hm, hcs, ht⟩
  · cases e
  injection e with e1 e2 e3
  injection e1 with e1
  injection e1 with e1 _ _
  subst e1 e3
  have hlt : g < w.heap.size := (Array.getElem?_eq_some_iff.1 hh).1
  refine ⟨by rw [flat_len enc hk, hs], .inr ⟨g, cap, putCells id 0 (flatK enc 2 d.toArray) cur, rfl, hb, ?_, hn, hm, by simp [putCells, hcs], ?_⟩⟩
  · unfold sortWorldK putRowK putRow mapBlock grow Sort.ahead
    show (w.heap.modify g _ ++ os)[g]? = _
    rw [Array.getElem?_append_left (by simpa using hlt), Array.getElem?_modify, if_pos rfl, hh]
    rfl
  · apply List.ext_getElem?
    intro t
    by_cases hlt2 : t < n * 2
    · obtain ⟨i, j, hi, hj, rfl⟩ : ∃ i j, i < d.length ∧ j < 2 ∧ t = i * 2 + j := ⟨t / 2, t % 2, by omega, by omega, by omega⟩
      have hc : i * 2 + j < cur.size := by rw [hcs]; omega
      rw [List.getElem?_take_of_lt hlt2, Array.getElem?_toList, flat_at enc hk d i j hi hj, ← flatK2_get enc hk d i j hi hj]
      unfold putCells
      rw [Array.getElem?_mapIdx, Array.getElem?_eq_getElem hc]
      simp only [Option.map_some]
      rw [if_pos ⟨Nat.zero_le _, by rw [size_flatK]; simp; omega⟩]
      rfl
    · rw [List.getElem?_eq_none (by rw [List.length_take]; omega), List.getElem?_eq_none (by rw [flat_len enc hk]; omega)]
/-- A row of series' cells, sorted. -/
def noSer : SerV := (.slice none 0 0, .slice none 0 0, [], [])
theorem sortSer_walk (g cap base : Nat) (xs : List SerV) (w : World) (h : OutV w base (.slice (some ⟨g, 0, none⟩) xs.length cap) xs) (hl : xs.length < 4611686018427387904) (hl6 : ∀ x ∈ xs, x.2.2.1.length ≤ 1000000) :
    Calls Tryz.prog 40 #[.slice (some ⟨g, 0, none⟩) xs.length cap, .func (.func 41) #[] #[]] w fun e w' =>
      e = .returned (.tuple #[]) ∧ ∃ ys, ys.Perm xs ∧ ys.Pairwise (fun x y => ¬ cmpRow y.2.2.1 x.2.2.1 < 0) ∧ OutV w' base (.slice (some ⟨g, 0, none⟩) xs.length cap) ys ∧ w.grownBy w' (some g) := by
  have eg : ∀ args w, (callFunc 41 args).run Tryz.prog w = .ok (.enter 41 args) w := enters_of Tryz.func41 (by kernel_rfl) rfl
  have hO := h
  obtain ⟨get, hget⟩ : ∃ get : Nat → SerV, get = fun i => xs.getD i noSer := ⟨_, rfl⟩
  obtain ⟨enc, henc⟩ : ∃ enc : Nat → List Value, enc = fun i => serC (get i) := ⟨_, rfl⟩
  have hk : ∀ x, (enc x).length = 2 := fun x => by rw [henc]; rfl
  have hmap : (List.range xs.length).map get = xs := by
    apply List.ext_getElem
    · simp
    · intro i h1 h2
      simp [hget, List.getD, List.getElem?_eq_getElem h2]
  have hflat : (List.range xs.length).flatMap enc = flatV xs := by
    have : (List.range xs.length).flatMap enc = ((List.range xs.length).map get).flatMap serC := by rw [henc, List.flatMap_map]
    rw [this, hmap]; rfl
  obtain ⟨h1, h2⟩ := h.row
  rcases h2 with ⟨e, _⟩ | ⟨g', cap', cur, e, hb, hh, hn, hm, hcs, ht⟩
  · cases e
  injection e with e1 e2 e3
  injection e1 with e1
  injection e1 with e1 _ _
  subst e1 e3
  have hblk : g < w.heap.size := (Array.getElem?_eq_some_iff.1 hh).1
  have rdG : ∀ {w' : World}, w.grownBy w' (some g) → ∀ x ∈ xs, OwnL w' base x.1 x.2.2.1 ∧ Own w' base 54 x.2.1 x.2.2.2 := fun {w'} hg x hx => by
    obtain ⟨q1, q2⟩ := hO.rd x hx
    refine ⟨owns_same q1 fun k hk => hg.block k (World.ownsRow.lt q1 k hk).2 (fun e => ?_), owns_same q2 fun k hk => hg.block k (World.ownsRow.lt q2 k hk).2 (fun e => ?_)⟩
    · injection e with e; subst e; exact tag_ne q1 hO.row (by decide) k hk rfl
    · injection e with e; subst e; exact tag_ne q2 hO.row (by decide) k hk rfl
  have rdA : ∀ {w' : World}, w.grownBy w' (some g) → ∀ i, RdL w' w'.heap.size (get i).1 (get i).2.2.1 ∧ Rd w' w'.heap.size (get i).2.1 (get i).2.2.2 ∧ (get i).2.2.1.length ≤ 1000000 := fun {w'} hg i => by
    rw [hget]
    by_cases hi : i < xs.length
    · have e : xs.getD i noSer = xs[i] := by simp [List.getD, List.getElem?_eq_getElem hi]
      simp only [e]
      obtain ⟨q1, q2⟩ := rdG hg xs[i] (List.getElem_mem hi)
      exact ⟨q1.rd, q2.rd, hl6 _ (List.getElem_mem hi)⟩
    · have e : xs.getD i noSer = noSer := by simp [List.getD, List.getElem?_eq_none (Nat.le_of_not_lt hi)]
      simp only [e]
      exact ⟨⟨none, 0, rfl, Nat.le_refl _, .inl rfl⟩, ⟨none, 0, rfl, Nat.le_refl _, .inl rfl⟩, Nat.zero_le _⟩
  have hcmp : CmpLays Tryz.prog 41 #[] enc 2 (fun x y : Nat => cmpRow (get x).2.2.1 (get y).2.2.1) g 0 (List.range xs.length).toArray.size w := fun m os dk hdk x y => by
    have hg := grownBy_sortK enc 2 w g m dk os
    obtain ⟨x1, x2, x3⟩ := rdA hg x
    obtain ⟨y1, y2, _⟩ := rdA hg y
    have K := serCmp_walk (get x) (get y) _ x1 y1 x2 y2 x3
    rw [henc] at K ⊢
    exact K.mono fun e w' ⟨he, hE⟩ => by
      obtain ⟨k, o, hk⟩ := hE.out
      exact ⟨he, k, o, hk⟩
  have K := AnyQ.slices_SortFunc Tryz.sortSer 2 Tryz.isAgg52 Tryz.sizeOf52 enc hk (fun x v hv => by
    rw [henc] at hv
    obtain ⟨x1, x2, _⟩ := rdA (w' := w) ⟨rfl, rfl, rfl, Nat.le_refl _, fun _ _ _ => rfl⟩ x
    exact serC_one (get x) (by obtain ⟨A, c, e, _⟩ := x1; rw [e]; rfl) (by obtain ⟨A, c, e, _⟩ := x2; rw [e]; rfl) v hv) (fun x y : Nat => cmpRow (get x).2.2.1 (get y).2.2.1) (cmpRow_swo fun i => (get i).2.2.1) 41 #[] g 0 cap (List.range xs.length).toArray w eg hcmp
    (holds_own2 enc hk hh (by rw [hflat, List.length_range]; exact ht)) hblk (by simpa using hl)
  have hsz : (List.range xs.length).toArray.size = xs.length := by simp
  rw [hsz] at K
  refine K.mono ?_
  rintro e w' ⟨he, d', n, os, hp, hs, rfl⟩
  obtain ⟨p1, p2, p3⟩ := hp
  have hdl : d'.toList.length = xs.length := by rw [Array.length_toList, p1, hsz]
  have hd : d'.toList.Perm (List.range xs.length) := by
    have e1 : d'.extract 0 xs.length = d' := by rw [← hdl, Array.length_toList]; simp
    have e2 : (List.range xs.length).toArray.extract 0 xs.length = (List.range xs.length).toArray := by
      apply Array.ext'
      simp
    rw [e1, e2] at p3
    simpa using p3
  have hg := grownBy_sortK enc 2 w g n d' os
  have hys : (d'.toList.map get).Perm xs := by rw [← hmap]; rw [hmap]; exact (hd.map get).trans (by rw [hmap])
  refine ⟨he, d'.toList.map get, hys, ?_, ⟨?_, fun x hx => rdG hg x (hys.mem_iff.1 hx)⟩, hg⟩
  · rw [List.pairwise_map]
    refine List.pairwise_iff_getElem.2 fun i j hi hj hij => ?_
    have := hs i j (Nat.zero_le _) hij (by rw [← hdl]; exact hj)
    have ei : d'[i]! = d'.toList[i] := by rw [getElem!_pos d' i (by simpa using hi)]; simp
    have ej : d'[j]! = d'.toList[j] := by rw [getElem!_pos d' j (by simpa using hj)]; simp
    rw [ei, ej] at this
    unfold ltOf at this
    rw [decide_eq_false_iff_not] at this
    exact this
  · have h9 := own_sorted2 enc hk hO.row hdl n os
    rw [Array.toArray_toList] at h9
    have e9 : d'.toList.flatMap enc = flatV (d'.toList.map get) := by rw [henc]; unfold flatV; rw [List.flatMap_map]
    rw [e9] at h9
    rw [List.length_map, hdl]
    exact h9
end Go.Proofs.YtkgcbeokfilehaaGreatDoor
