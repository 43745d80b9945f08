/-
  The reference's oracle in plain words: its series rise by their labels, their samples are in order; names and values.
-/
import Derived.Test.YtkgcbeokfilehaaGreatDoorVbd
import Derived.Test.YtkgcbeokfilehaaGreatDoorRgnd
import Derived.Test.YtkgcbeokfilehaaGreatDoorVpd
import Derived.Test.YtkgcbeokfilehaaGreatDoorVhd
import Derived.Maps.Range
import Derived.Deep.AppendLies
namespace Go.Proofs.YtkgcbeokfilehaaGreatDoor
/-- The reference's series of what was told. -/
def rsm (l : List Smp) : List Smp := l.foldl putS []
def rS (R : Told) : List (Lbs × List Smp) := (labsOf R).map (fun c => (c, rsm (smpOf R c)))
/-- A round of 'put'. -/
def stepP (l : Lbs) (s : Smp) (q : List (Lbs × List Smp) × Bool) (x : Lbs × List Smp) : List (Lbs × List Smp) × Bool :=
  let q1 := if 0 < cmpRow x.1 l ∧ q.2 = false then (q.1 ++ [(l, [s])], true) else q
  if cmpRow x.1 l = 0 then (q1.1 ++ [(x.1, putS x.2 s)], true) else (q1.1 ++ [x], q1.2)
def endP (l : Lbs) (s : Smp) (q : List (Lbs × List Smp) × Bool) : List (Lbs × List Smp) := if q.2 then q.1 else q.1 ++ [(l, [s])]
def putR (L : List (Lbs × List Smp)) (l : Lbs) (s : Smp) : List (Lbs × List Smp) := endP l s (L.foldl (stepP l s) ([], false))
theorem stepP_done {l : Lbs} {s : Smp} : ∀ {L : List (Lbs × List Smp)} {out : List (Lbs × List Smp)}, (∀ x ∈ L, 0 < cmpRow x.1 l) → L.foldl (stepP l s) (out, true) = (out ++ L, true)
  | [], out, _ => by simp
  | x :: L, out, h => by
    have h0 := h x List.mem_cons_self
    have h1 : stepP l s (out, true) x = (out ++ [x], true) := by
      unfold stepP
      simp [show ¬ cmpRow x.1 l = 0 by omega]
    rw [List.foldl_cons, h1, stepP_done fun y hy => h y (List.mem_cons_of_mem _ hy)]
    simp
theorem putP_aux {l : Lbs} {s : Smp} (f : Lbs → List Smp) : ∀ {ls : List Lbs} {out : List (Lbs × List Smp)}, UpR ls → (l ∉ ls → f l = []) →
    endP l s ((ls.map fun c => (c, f c)).foldl (stepP l s) (out, false)) = out ++ (insR l ls).map (fun c => (c, if c = l then putS (f l) s else f c))
  | [], out, _, h => by
    have := h List.not_mem_nil
    simp [endP, insR, this, putS]
  | c :: ls, out, hu, h => by
    have h2 := List.pairwise_cons.1 hu
    have hsw := cmpRow_swap c l
    rw [List.map_cons, List.foldl_cons]
    by_cases h0 : cmpRow c l = 0
    · have e := cmpRow_eq.1 h0
      subst e
      have h1 : stepP c s (out, false) (c, f c) = (out ++ [(c, putS (f c) s)], true) := by unfold stepP; simp [h0]
      have hr : ∀ x ∈ ls, 0 < cmpRow x c := fun x hx => by
        have := h2.1 x hx
        have := cmpRow_swap c x
        omega
      rw [h1, stepP_done (fun x hx => by obtain ⟨y, hy, rfl⟩ := List.mem_map.1 hx; exact hr y hy)]
      have e3 : insR c (c :: ls) = c :: ls := by unfold insR; rw [if_neg (by rw [h0]; decide), if_pos rfl]
      rw [e3]
      unfold endP
      simp only [if_true, List.map_cons, List.append_assoc, List.cons_append, List.nil_append]
      congr 2
      refine List.map_congr_left fun x hx => ?_
      have : x ≠ c := fun e => by have := hr x hx; rw [e, h0] at this; omega
      rw [if_neg this]
    · by_cases h1 : 0 < cmpRow c l
      · have hlt : cmpRow l c < 0 := by omega
        have hnl : l ∉ c :: ls := fun hm => by
          rcases List.mem_cons.1 hm with e | hm
          · exact h0 (cmpRow_eq.2 e.symm)
          · have := cmpRow_trans hlt (h2.1 l hm)
            exact cmpRow_irr l this
        have hfl := h hnl
        have h3 : stepP l s (out, false) (c, f c) = (out ++ [(l, [s])] ++ [(c, f c)], true) := by unfold stepP; simp [h0, h1]
        have hr : ∀ x ∈ ls, 0 < cmpRow x l := fun x hx => by
          have := cmpRow_trans hlt (h2.1 x hx)
          have := cmpRow_swap x l
          omega
        rw [h3, stepP_done (fun x hx => by obtain ⟨y, hy, rfl⟩ := List.mem_map.1 hx; exact hr y hy)]
        have e3 : insR l (c :: ls) = l :: c :: ls := by unfold insR; rw [if_pos hlt]
        rw [e3]
        unfold endP
        have hcl : c ≠ l := fun e => h0 (cmpRow_eq.2 e)
        simp only [if_true, List.map_cons, List.append_assoc, List.cons_append, List.nil_append, hfl, putS, if_neg hcl]
        congr 3
        refine List.map_congr_left fun x hx => ?_
        have : x ≠ l := fun e => by have := hr x hx; rw [e, cmpRow_self] at this; omega
        rw [if_neg this]
      · have h3 : stepP l s (out, false) (c, f c) = (out ++ [(c, f c)], false) := by unfold stepP; simp [h0, h1]
        have hcl : c ≠ l := fun e => h0 (cmpRow_eq.2 e)
        rw [h3, putP_aux f h2.2 (fun hn => h (fun hm => by
          rcases List.mem_cons.1 hm with e | hm
          · exact hcl e.symm
          · exact hn hm))]
        have e3 : insR l (c :: ls) = c :: insR l ls := by
          conv => lhs; unfold insR
          rw [if_neg (by omega), if_neg (Ne.symm hcl)]
        rw [e3, List.map_cons, if_neg hcl]
        simp
theorem labs_snoc (R : Told) (c : Lbs) (s : Smp) : labsOf (R ++ [(c, s)]) = insR c (labsOf R) := by unfold labsOf; rw [List.foldl_append]; rfl
/-- 'put' puts a row in. -/
theorem putR_rS (R : Told) (c : Lbs) (s : Smp) : putR (rS R) c s = rS (R ++ [(c, s)]) := by
  unfold putR rS
  rw [putP_aux (fun c => rsm (smpOf R c)) (labs_up R) (fun hn => by
    have : hasR R c = false := by
      rw [Bool.eq_false_iff]; intro h; exact hn (mem_labs.2 h)
    rw [smpOf_none this]; rfl), labs_snoc, List.nil_append]
  refine List.map_congr_left fun x _ => ?_
  rw [smpOf_snoc]
  by_cases h : x = c
  · subst h
    rw [if_pos rfl, if_pos rfl]
    unfold rsm
    rw [List.foldl_append]; rfl
  · rw [if_neg h, if_neg h]
theorem rS_del (fs : List Fil) (R : Told) : (rS R).filter (fun x => !allF fs x.1) = rS (delR fs R) := by
  unfold rS
  rw [List.filter_map, labs_del]
  refine List.map_congr_left fun c hc => ?_
  have := (List.mem_filter.1 hc).2
  rw [smpOf_del fs R c (by simpa using this)]
theorem putS_len (l : List Smp) : (rsm l).length ≤ l.length := by
  have : ∀ r : List Smp, (l.foldl putS r).length ≤ r.length + l.length := by
    induction l with
    | nil => intro r; simp
    | cons a l ih => intro r; have h1 := ih (putS r a); have h2 := putS_length r a; rw [List.foldl_cons, List.length_cons]; omega
  have := this []
  simpa [rsm] using this
end Go.Proofs.YtkgcbeokfilehaaGreatDoor

/-
  What comes in: rows, filters, acts, in memory.
-/
namespace Go.Proofs.YtkgcbeokfilehaaGreatDoor
open Go.RowKit Go.Sort Go.Maps

abbrev RowS := Lbs × Smp
/-- A row's five cells. -/
def RowAt (w : World) (B b o : Nat) (r : RowS) : Prop :=
  ∃ lv, w.cell? ⟨b, o, none⟩ = some lv ∧ RdL w B lv r.1 ∧ Nz lv ∧ Cell4 w b (o + 1) r.2
theorem RowAt.below {w w' : World} {B b o : Nat} {r : RowS} (h : RowAt w B b o r) (k : Below B w w') (hb : b < B) : RowAt w' B b o r := by
  obtain ⟨lv, h1, h2, h3, h4⟩ := h
  exact ⟨lv, (k.cell hb).trans h1, h2.below k, h3, h4.below k hb⟩
theorem RowAt.mono {w : World} {B B' b o : Nat} {r : RowS} (h : RowAt w B b o r) (k : B ≤ B') : RowAt w B' b o r := by
  obtain ⟨lv, h1, h2, h3, h4⟩ := h
  exact ⟨lv, h1, h2.mono k, h3, h4⟩
/-- A row of rows. -/
def RdW (w : World) (B : Nat) (v : Value) (l : List RowS) : Prop :=
  ∃ A c, v = .slice A l.length c ∧ l.length ≤ c ∧ (l = [] ∨ ∃ b o, A = some ⟨b, o, none⟩ ∧ b < B ∧ ∀ i (h : i < l.length), RowAt w B b (o + i * 5) l[i])
theorem RdW.below {w w' : World} {B : Nat} {v : Value} {l : List RowS} (h : RdW w B v l) (k : Below B w w') : RdW w' B v l := by
  obtain ⟨A, c, h1, h2, h3⟩ := h
  exact ⟨A, c, h1, h2, h3.imp id fun ⟨b, o, e, hb, hc⟩ => ⟨b, o, e, hb, fun i hi => (hc i hi).below k hb⟩⟩
theorem RdW.mono {w : World} {B B' : Nat} {v : Value} {l : List RowS} (h : RdW w B v l) (k : B ≤ B') : RdW w B' v l := by
  obtain ⟨A, c, h1, h2, h3⟩ := h
  exact ⟨A, c, h1, h2, h3.imp id fun ⟨b, o, e, hb, hc⟩ => ⟨b, o, e, Nat.lt_of_lt_of_le hb k, fun i hi => (hc i hi).mono k⟩⟩
theorem RdW.on {w w' : World} {v : Value} {l : List RowS} (h : RdW w w.heap.size v l) (k : Below w.heap.size w w') : RdW w' w'.heap.size v l := (h.below k).mono k.size
/-- A row as a value. -/
def vR (lv : Value) (s : Smp) : Value := .agg #[lv, .int .i64 s.1, .int .i64 s.2.1, .int .i64 s.2.2.1, .int .i64 s.2.2.2]
/-- A filter's four cells. -/
def encF (f : Fil) : List Value := [vT f.name, vT f.value, .bool f.pre, .bool f.neg]
def vF (f : Fil) : Value := .agg #[vT f.name, vT f.value, .bool f.pre, .bool f.neg]
def FilAt (w : World) (b o : Nat) (f : Fil) : Prop :=
  w.cell? ⟨b, o, none⟩ = some (vT f.name) ∧ w.cell? ⟨b, o + 1, none⟩ = some (vT f.value) ∧ w.cell? ⟨b, o + 2, none⟩ = some (.bool f.pre) ∧ w.cell? ⟨b, o + 3, none⟩ = some (.bool f.neg)
theorem FilAt.below {w w' : World} {B b o : Nat} {f : Fil} (h : FilAt w b o f) (k : Below B w w') (hb : b < B) : FilAt w' b o f :=
  ⟨(k.cell hb).trans h.1, (k.cell hb).trans h.2.1, (k.cell hb).trans h.2.2.1, (k.cell hb).trans h.2.2.2⟩
def RdF (w : World) (B : Nat) (v : Value) (l : List Fil) : Prop :=
  ∃ A c, v = .slice A l.length c ∧ l.length ≤ c ∧ (l = [] ∨ ∃ b o, A = some ⟨b, o, none⟩ ∧ b < B ∧ ∀ i (h : i < l.length), FilAt w b (o + i * 4) l[i])
theorem RdF.below {w w' : World} {B : Nat} {v : Value} {l : List Fil} (h : RdF w B v l) (k : Below B w w') : RdF w' B v l := by
  obtain ⟨A, c, h1, h2, h3⟩ := h
  exact ⟨A, c, h1, h2, h3.imp id fun ⟨b, o, e, hb, hc⟩ => ⟨b, o, e, hb, fun i hi => (hc i hi).below k hb⟩⟩
theorem RdF.mono {w : World} {B B' : Nat} {v : Value} {l : List Fil} (h : RdF w B v l) (k : B ≤ B') : RdF w B' v l := by
  obtain ⟨A, c, h1, h2, h3⟩ := h
  exact ⟨A, c, h1, h2, h3.imp id fun ⟨b, o, e, hb, hc⟩ => ⟨b, o, e, Nat.lt_of_lt_of_le hb k, hc⟩⟩
theorem RdF.on {w w' : World} {v : Value} {l : List Fil} (h : RdF w w.heap.size v l) (k : Below w.heap.size w w') : RdF w' w'.heap.size v l := (h.below k).mono k.size
theorem RdF.empty (w : World) (B : Nat) : RdF w B (.slice Option.none 0 0) [] := ⟨Option.none, 0, rfl, Nat.le_refl _, .inl rfl⟩
/-- Something that is done. -/
structure ActS where
  kind : Int
  rows : List RowS
  fs : List Fil
  now : Int
def ActAt (w : World) (B b o : Nat) (a : ActS) : Prop :=
  ∃ rv fv, w.cell? ⟨b, o, none⟩ = some (.int .i64 a.kind) ∧ w.cell? ⟨b, o + 1, none⟩ = some rv ∧ w.cell? ⟨b, o + 2, none⟩ = some fv ∧ w.cell? ⟨b, o + 3, none⟩ = some (.int .i64 a.now) ∧ RdW w B rv a.rows ∧ Nz rv ∧ RdF w B fv a.fs ∧ Nz fv
theorem ActAt.below {w w' : World} {B b o : Nat} {a : ActS} (h : ActAt w B b o a) (k : Below B w w') (hb : b < B) : ActAt w' B b o a := by
  obtain ⟨rv, fv, h1, h2, h3, h4, h5, h6, h7, h8⟩ := h
  exact ⟨rv, fv, (k.cell hb).trans h1, (k.cell hb).trans h2, (k.cell hb).trans h3, (k.cell hb).trans h4, h5.below k, h6, h7.below k, h8⟩
theorem ActAt.mono {w : World} {B B' b o : Nat} {a : ActS} (h : ActAt w B b o a) (k : B ≤ B') : ActAt w B' b o a := by
  obtain ⟨rv, fv, h1, h2, h3, h4, h5, h6, h7, h8⟩ := h
  exact ⟨rv, fv, h1, h2, h3, h4, h5.mono k, h6, h7.mono k, h8⟩
def RdA (w : World) (B : Nat) (v : Value) (l : List ActS) : Prop :=
  ∃ A c, v = .slice A l.length c ∧ l.length ≤ c ∧ (l = [] ∨ ∃ b o, A = some ⟨b, o, none⟩ ∧ b < B ∧ ∀ i (h : i < l.length), ActAt w B b (o + i * 4) l[i])
theorem RdA.below {w w' : World} {B : Nat} {v : Value} {l : List ActS} (h : RdA w B v l) (k : Below B w w') : RdA w' B v l := by
  obtain ⟨A, c, h1, h2, h3⟩ := h
  exact ⟨A, c, h1, h2, h3.imp id fun ⟨b, o, e, hb, hc⟩ => ⟨b, o, e, hb, fun i hi => (hc i hi).below k hb⟩⟩
theorem RdA.mono {w : World} {B B' : Nat} {v : Value} {l : List ActS} (h : RdA w B v l) (k : B ≤ B') : RdA w B' v l := by
  obtain ⟨A, c, h1, h2, h3⟩ := h
  exact ⟨A, c, h1, h2, h3.imp id fun ⟨b, o, e, hb, hc⟩ => ⟨b, o, e, Nat.lt_of_lt_of_le hb k, fun i hi => (hc i hi).mono k⟩⟩
theorem RdA.on {w w' : World} {v : Value} {l : List ActS} (h : RdA w w.heap.size v l) (k : Below w.heap.size w w') : RdA w' w'.heap.size v l := (h.below k).mono k.size
end Go.Proofs.YtkgcbeokfilehaaGreatDoor

/-
  labels.escape, labels.Marshal.
-/
namespace Go.Proofs.YtkgcbeokfilehaaGreatDoor
open Go.RowKit Go.Sort Go.Shelf
def yb (c : UInt8) : Value := .int .u8 c.toNat
/-- A slice of bytes that the call made itself. -/
def OwnY (w : World) (base : Nat) (v : Value) (l : Str) : Prop := w.ownsRow base 5 1 v l.length (l.map yb)
theorem OwnY.nil (w : World) (base : Nat) : OwnY w base (.slice none 0 0) [] := ⟨rfl, .inl ⟨rfl, rfl⟩⟩
theorem OwnY.drew {w : World} {base : Nat} {v : Value} {l : Str} (h : OwnY w base v l) : OwnY w.drew base v l := h
theorem OwnY.alloc {w : World} {base : Nat} {v : Value} {l : Str} (h : OwnY w base v l) (o : Obj) : OwnY (w.alloc o) base v l := World.ownsRow.alloc h o
theorem OwnY.below {w w' : World} {base : Nat} {v : Value} {l : Str} (h : OwnY w base v l) (k : Below w.heap.size w w') : OwnY w' base v l := below_owns k h
theorem info_Y : (Tryz.prog.info? 5).map (fun i => (i.zero, i.size, i.bytes)) = some (some (.int .u8 0), 1, 1) := by kernel_rfl
/-- Where a value's own block is: new, or the row. -/
def Loc (W : World) (row : Option Nat) (v : Value) : Prop := ∀ j, v.ownBlock = some j → W.heap.size ≤ j ∨ row = some j
theorem appY {w : World} {ops : Array Oper} {rest : List Oper} {o : Oper} {a : Act} {Q : Exit → Act → World → Prop} (hgd : o.guard = none) (s x : Operand)
    (ho : o.op = .call { callee := .builtin .append, args := #[s, x], argTypes := #[84, 84] })
    (base : Nat) (v : Value) (l news : Str) (hs : a.eval s = v) (hown : OwnY w base v l) (b' m c : Nat) (hx : a.eval x = .slice (some ⟨b', 0, none⟩) m c) (hm : m = news.length)
    (hc : ∀ i (h : i < news.length), w.cell? ⟨b', i, none⟩ = some (yb news[i])) (hl : l.length + news.length ≤ 1000000) (hbase : base ≤ w.heap.size)
    (h : ∀ v' w', OwnY w' base v' (l ++ news) → w.grownBy w' v.ownBlock → (v'.ownBlock = v.ownBlock ∨ v'.ownBlock = some w.heap.size) → wpList Tryz.prog ops Q rest (a.put o.dst v') w') :
    wpList Tryz.prog ops Q (o :: rest) a w := by
  subst hm
  obtain ⟨i, hi, hz, hsz, hby⟩ := of_info info_Y
  refine wpList_append_own_at w hgd s x 84 ho base 5 i _ 1 1 Tryz.underlying84 hi hz hsz hby rfl (by decide) v l.length (l.map yb) hs hown ⟨b', 0, none⟩ news.length c (news.map yb) hx (by simp) ?_ ?_ (by unfold maxLen; omega) (by omega) hbase (fun v' w' h1 h2 _ h4 => ?_)
  · intro j u hj
    rw [List.getElem?_map] at hj
    rcases Nat.lt_or_ge j news.length with h9 | h9
    · rw [List.getElem?_eq_getElem h9] at hj
      simp at hj
      rw [← hj, add_at, Nat.zero_add]
      exact hc j h9
    · rw [List.getElem?_eq_none h9] at hj; simp at hj
  · intro u hu
    obtain ⟨y, _, rfl⟩ := List.mem_map.1 hu
    rfl
  · refine h v' w' ?_ h2 h4
    unfold OwnY
    rw [List.length_append, List.map_append]
    exact h1
theorem esc_take (s : Str) (k : Nat) (h : k < s.length) (c : UInt8) (hc : c = s[k]) : (s.take (k + 1)).flatMap escC = (s.take k).flatMap escC ++ escC c := by
  rw [List.take_succ_eq_append_getElem h, List.flatMap_append, hc]; simp
theorem esc_len (s : Str) : (s.flatMap escC).length ≤ 2 * s.length := by
  induction s with
  | nil => simp
  | cons a s ih =>
    have h2 : (escC a).length ≤ 2 := by unfold escC; split <;> simp
    have e : ((a :: s).flatMap escC).length = (escC a).length + (s.flatMap escC).length := by rw [List.flatMap_cons, List.length_append]
    rw [e, List.length_cons]; omega
theorem escT_len (s : Str) : (escT s).length ≤ 2 * s.length + 1 := by
  unfold escT
  have := esc_len s
  rw [List.length_append, List.length_singleton]; omega
theorem grown_app {W wl w1 w2 : World} {row : Option Nat} {v v' : Value} (h : W.grownBy wl row) (hL : Loc W row v) (h1 : wl.grownBy w1 none) (h2 : w1.grownBy w2 v.ownBlock) (hl : v'.ownBlock = v.ownBlock ∨ v'.ownBlock = some w1.heap.size) : W.grownBy w2 row ∧ Loc W row v' :=
  ⟨(h.andThen h1 (fun j e => by cases e)).andThen h2 (fun j e => hL j e), fun j e => by
    rcases hl with e1 | e1
    · exact hL j (e1 ▸ e)
    · rw [e1] at e
      injection e with e
      have := h.size; have := h1.size
      exact .inl (by omega)⟩
theorem b_eq (x : ByteArray) (s : Str) (h : x = ⟨s.toArray⟩) (k : Nat) (hk : k < s.length) (hk2 : k < x.size) : x[k] = s[k] := by
  subst h; rfl
set_option maxRecDepth 100000 in
set_option maxHeartbeats 2000000 in
theorem escape_walk (v : Value) (l s : Str) (base : Nat) (W : World) (hO : OwnY W base v l) (hb : base ≤ W.heap.size) (hl : l.length ≤ 10000) (hs : s.length ≤ 1000) :
    Calls Tryz.prog 66 #[v, vT s] W fun e w' => ∃ r, e = .returned r ∧ OwnY w' base r (l ++ escT s) ∧ W.grownBy w' v.ownBlock ∧ Loc W v.ownBlock r := by
  obtain ⟨x, hx⟩ : ∃ x : ByteArray, x = ⟨s.toArray⟩ := ⟨_, rfl⟩
  obtain ⟨n, hn⟩ : ∃ n, n = s.length := ⟨_, rfl⟩
  have hsz : x.size = n := by rw [hx, hn]; simp [ByteArray.size]
  obtain ⟨row, hrow⟩ : ∃ row, row = v.ownBlock := ⟨_, rfl⟩
  have hg0 : W.grownBy W row := ⟨rfl, rfl, rfl, Nat.le_refl _, fun _ _ _ => rfl⟩
  have hL0 : Loc W row v := fun j e => .inr (hrow.trans e)
  unfold vT
  rw [← hx, ← hrow]
  have HX := Lib.hid hx
  have HN := Lib.hid hn
  have HO := Lib.hid hO
  have HB := Lib.hid hb
  have HL := Lib.hid hl
  have HS : Hid (n ≤ 1000) := by show _ ≤ _; omega
  have HG0 := Lib.hid hg0
  have HL0 := Lib.hid hL0
  clear hx hn hrow hO hb hl hs hg0 hL0
  go_enter Tryz.func66, Tryz.ntmps66
  go_wp2_with fail
  go_loopw [0, 9] (fun b i wl => ∃ k : Nat, k ≤ n ∧ i = .int .i64 k ∧ Hid (OwnY wl base b (l ++ (s.take k).flatMap escC)) ∧ Hid (W.grownBy wl row) ∧ Hid (Loc W row b)) (fun _ i _ => n - (intOf i).toNat)
  case atStart => exact ⟨0, Nat.zero_le _, rfl, by show OwnY _ _ _ _; rw [List.take_zero, List.flatMap_nil, List.append_nil]; exact HO.out, HG0.out, HL0.out⟩
  case round =>
    obtain ⟨k, hk, rfl, HOk, HGk, HLk⟩ := hrel
    have hn9 := HS.out
    have HBk : Hid (base ≤ wr.heap.size) := Nat.le_trans HB.out HGk.out.size
    have HLen : Hid ((l ++ (s.take k).flatMap escC).length ≤ 12000) := by
      show _ ≤ _
      have h1 := esc_len (s.take k)
      have h2 := HS.out; have h3 := HN.out; have h4 := HL.out
      rw [List.length_take] at h1
      rw [List.length_append]; omega
    by_cases hlt : k < n
    · have hks : k < s.length := by rw [← HN.out]; exact hlt
      have hkx : k < x.size := by rw [hsz]; exact hlt
      obtain ⟨c, hc⟩ : ∃ c, c = s[k] := ⟨_, rfl⟩
      obtain ⟨m, hm⟩ : ∃ m, m = c.toNat := ⟨_, rfl⟩
      have hxk : x[k].toNat = m := by rw [b_eq x s HX.out k hks hkx, ← hc, hm]
      have HE := Lib.hid (esc_take s k hks c hc)
      have i1 : (k : Int) < (n : Int) := by omega
      have HM := Lib.hid hm
      clear hc hm
      have e1 : escC c = if m < 3 then [2, c + 3] else [c] := by
        unfold escC
        have : c < 3 ↔ m < 3 := by rw [HM.out]; exact UInt8.lt_iff_toNat_lt
        by_cases h : m < 3
        · rw [if_pos h, if_pos (this.2 h)]
        · rw [if_neg h, if_neg (fun e => h (this.1 e))]
      have HC := Lib.hid e1
      clear e1
      by_cases hm3 : m < 3
      · have hcu : Hid (yb (c + 3) = .int .u8 (m + 3 : Int)) := by
          show yb (c + 3) = _
          unfold yb
          have : (c + 3).toNat = m + 3 := by rw [UInt8.toNat_add, ← HM.out]; simp; omega
          rw [this]; simp
        have hE9 : Hid ((s.take (k + 1)).flatMap escC = (s.take k).flatMap escC ++ [2, c + 3]) := by
          show _ = _
          rw [HE.out, HC.out, if_pos hm3]
        clear HE HC HM
        have hm012 : m = 0 ∨ m = 1 ∨ m = 2 := by omega
        clear hm3
        have w3 : IntKind.u8.wrap 3 = 3 := by decide
        have w4 : IntKind.u8.wrap 4 = 4 := by decide
        have w5 : IntKind.u8.wrap 5 = 5 := by decide
        have w3' : IntKind.u8.wrap (0 + 3) = 3 := by decide
        have w4' : IntKind.u8.wrap (1 + 3) = 4 := by decide
        have w5' : IntKind.u8.wrap (2 + 3) = 5 := by decide
        rcases hm012 with rfl | rfl | rfl
        all_goals
          go_wp2_with (first | (at_builtin; refine appY rfl _ _ rfl base _ _ [2, c + 3] rfl (HOk.out.alloc _) wr.heap.size 2 _ rfl rfl (fun i hi => ?_) ?_ ?_ ?_) | fail)
          · rcases i with _ | _ | i
            · rw [new_cell]; rfl
            · rw [new_cell]
              show _ = some (yb (c + 3))
              rw [hcu.out]; rfl
            · exact absurd hi (by show ¬ (i + 1 + 1 < 2); omega)
          · have := HLen.out; simp at this ⊢; omega
          · have := HBk.out; simp; omega
          · intro v' w' hown hg hloc
            obtain ⟨g9, l9⟩ := grown_app HGk.out HLk.out (World.grownBy_alloc wr _ _) hg (by simpa using hloc)
            have HO9 : Hid (OwnY w' base v' (l ++ (s.take (k + 1)).flatMap escC)) := by show OwnY _ _ _ _; rw [hE9.out]; first | exact hown | (rw [← List.append_assoc]; exact hown)
            have HG9 := Lib.hid g9
            have HL9 := Lib.hid l9
            clear hown hg hloc g9 l9
            go_wp2_with fail
            go_roundw
            case rel => exact ⟨k + 1, by omega, by go_num, HO9.out, HG9.out, HL9.out⟩
            case measure => simp [intOf]; omega
      · have hE9 : Hid ((s.take (k + 1)).flatMap escC = (s.take k).flatMap escC ++ [c]) := by
          show _ = _
          rw [HE.out, HC.out, if_neg hm3]
        have m0 : ((m : Int) == 0) = false := by simp; omega
        have m1 : ((m : Int) == 1) = false := by simp; omega
        have m2 : ((m : Int) == 2) = false := by simp; omega
        have n0 : ¬ m = 0 := by omega
        have n1 : ¬ m = 1 := by omega
        have n2 : ¬ m = 2 := by omega
        have hcu : Hid (yb c = .int .u8 (m : Int)) := by show yb c = _; unfold yb; rw [HM.out]
        clear HE HC HM hm3
        go_wp2_with (first | (at_builtin; refine appY rfl _ _ rfl base _ _ [c] rfl (HOk.out.alloc _) wr.heap.size 1 _ rfl rfl (fun i hi => ?_) ?_ ?_ ?_) | fail)
        · rcases i with _ | i
          · rw [new_cell]
            show _ = some (yb c)
            rw [hcu.out]; rfl
          · simp at hi
        · have := HLen.out; simp at this ⊢; omega
        · have := HBk.out; simp; omega
        · intro v' w' hown hg hloc
          obtain ⟨g9, l9⟩ := grown_app HGk.out HLk.out (World.grownBy_alloc wr _ _) hg (by simpa using hloc)
          have HO9 : Hid (OwnY w' base v' (l ++ (s.take (k + 1)).flatMap escC)) := by show OwnY _ _ _ _; rw [hE9.out]; first | exact hown | (rw [← List.append_assoc]; exact hown)
          have HG9 := Lib.hid g9
          have HL9 := Lib.hid l9
          clear hown hg hloc g9 l9
          go_wp2_with fail
          go_roundw
          case rel => exact ⟨k + 1, by omega, by go_num, HO9.out, HG9.out, HL9.out⟩
          case measure => simp [intOf]; omega
    · have hkn : k = n := by omega
      have hE9 : Hid ((s.take k).flatMap escC ++ [1] = escT s) := by
        show _ = _
        rw [hkn, HN.out, List.take_length]; rfl
      have i1 : ¬ (k : Int) < (n : Int) := by omega
      clear hkn
      go_wp2_with (first | (at_builtin; refine appY rfl _ _ rfl base _ _ [1] rfl (HOk.out.alloc _) wr.heap.size 1 _ rfl rfl (fun i hi => ?_) ?_ ?_ ?_) | fail)
      · rcases i with _ | i
        · first | (rw [new_cell]; rfl) | rfl
        · simp at hi
      · have := HLen.out; simp at this ⊢; omega
      · have := HBk.out; simp; omega
      · intro v' w' hown hg hloc
        obtain ⟨g9, l9⟩ := grown_app HGk.out HLk.out (World.grownBy_alloc wr _ _) hg (by simpa using hloc)
        have HO9 : Hid (OwnY w' base v' (l ++ escT s)) := by show OwnY _ _ _ _; rw [← hE9.out]; first | exact hown | (rw [← List.append_assoc]; exact hown)
        have HG9 := Lib.hid g9
        have HL9 := Lib.hid l9
        clear hown hg hloc g9 l9
        go_wp2_with fail
        go_ret
        exact ⟨_, rfl, HO9.out, HG9.out, HL9.out⟩
theorem mar_take (c : Lbs) (k : Nat) (h : k < c.length) (y : Lb) (hy : y = c[k]) : marL (c.take (k + 1)) = marL (c.take k) ++ escT y.1 ++ escT y.2 := by
  unfold marL
  rw [List.take_succ_eq_append_getElem h, List.flatMap_append, hy]; simp
theorem mar_len (c : Lbs) (h : ∀ x ∈ c, x.1.length ≤ 12 ∧ x.2.length ≤ 16) : (marL c).length ≤ c.length * 60 := by
  induction c with
  | nil => simp [marL]
  | cons a c ih =>
    have h1 := ih fun x hx => h x (List.mem_cons_of_mem _ hx)
    have h2 := h a List.mem_cons_self
    have h3 := escT_len a.1
    have h4 := escT_len a.2
    unfold marL at *
    rw [List.flatMap_cons, List.length_append, List.length_append, List.length_cons]
    omega
theorem nameOk_len {s : Str} (h : nameOk s = true) : 1 ≤ s.length ∧ s.length ≤ 12 := by
  unfold nameOk at h
  rw [Bool.and_eq_true, Bool.and_eq_true] at h
  exact ⟨of_decide_eq_true h.1.1, of_decide_eq_true h.1.2⟩
theorem canon_mem {l : Lbs} {x : Lb} : x ∈ canonL l ↔ x ∈ l := (canonL_perm l).mem_iff
theorem canon_lens {l : Lbs} (h : mayL l = true) : ∀ x ∈ canonL l, x.1.length ≤ 12 ∧ x.2.length ≤ 16 := fun x hx => by
  obtain ⟨h1, h2⟩ := (mayL_parts h).2.1 x (canon_mem.1 hx)
  exact ⟨(nameOk_len h1).2, ((valueOk_iff _).1 h2).2⟩
theorem canon_length (l : Lbs) : (canonL l).length = l.length := (canonL_perm l).length_eq
set_option maxRecDepth 100000 in
set_option maxHeartbeats 2000000 in
/-- labels.Marshal of labels that may be. -/
theorem marshal_walk (v : Value) (l : Lbs) (W : World) (hR : RdL W W.heap.size v l) (hz : Nz v) (hm : mayL l = true) :
    Calls Tryz.prog 34 #[v] W fun e w' => ∃ r, e = .returned (.tuple #[r, .int .i64 0]) ∧ OwnY w' W.heap.size r (marL (canonL l)) ∧ Below W.heap.size W w' := by
  have KC := Lib.hid (canon_walk v l W hR hz)
  have hE : canE l = 0 := by unfold canE; rw [hm]; rfl
  have hV : canV l = canonL l := by unfold canV; rw [hm]; rfl
  rw [hE, hV] at KC
  obtain ⟨d, hd⟩ : ∃ d, d = canonL l := ⟨_, rfl⟩
  have HLen : Hid (∀ x ∈ d, x.1.length ≤ 12 ∧ x.2.length ≤ 16) := by show ∀ x ∈ d, _; rw [hd]; exact canon_lens hm
  have hlen : d.length ≤ 6 := by rw [hd, canon_length]; exact (mayL_parts hm).1.2
  rw [← hd] at KC ⊢
  obtain ⟨n, hn⟩ : ∃ n, n = d.length := ⟨_, rfl⟩
  rw [← hn] at hlen
  have HN := Lib.hid hn
  have HL6 := Lib.hid hlen
  obtain ⟨A, c, rfl, _, _⟩ := hR
  clear hd hm hE hV hz hn
  go_enter Tryz.func34, Tryz.ntmps34
  go_wp2_with fail
  refine KC.out.mono ?_
  rintro e w1 ⟨⟨r, rfl, hO⟩, hB⟩
  have HB := Lib.hid hB
  have HO := Lib.hid hO
  obtain ⟨A1, c1, rfl, hc1, hA1⟩ := hO.rd
  rw [← HN.out] at HO hc1 ⊢
  have HA1 := Lib.hid hA1
  clear hO hB hA1 KC
  have KE : Hid (∀ (v : Value) (acc : Str) (x : ByteArray) (W1 : World), OwnY W1 w1.heap.size v acc → w1.heap.size ≤ W1.heap.size → acc.length ≤ 10000 → x.data.toList.length ≤ 1000 →
      Calls Tryz.prog 66 #[v, .string x] W1 fun e w' => ∃ r, e = .returned r ∧ OwnY w' w1.heap.size r (acc ++ escT x.data.toList) ∧ W1.grownBy w' v.ownBlock ∧ Loc W1 v.ownBlock r) := fun v acc x W1 h1 h2 h3 h4 => escape_walk v acc x.data.toList w1.heap.size W1 h1 h2 h3 h4
  go_wp2_with fail
  go_loopw [6, 19] (fun b i wl => ∃ k : Nat, k ≤ n ∧ i = .int .i64 k ∧ Hid (OwnY wl w1.heap.size b (marL (d.take k))) ∧ Hid (Below w1.heap.size w1 wl)) (fun _ i _ => n - (intOf i).toNat)
  case atStart => exact ⟨0, Nat.zero_le _, rfl, OwnY.nil _ _, Below.refl _ _⟩
  case round =>
    obtain ⟨k, hk, rfl, HOk, HBk⟩ := hrel
    have hn9 := HL6.out
    by_cases hlt : k < n
    · have hkd : k < d.length := by rw [← HN.out]; exact hlt
      rcases HA1.out with h0 | ⟨b1, o1, e, hb1, hcl⟩
      · subst h0; simp at hkd
      subst e
      obtain ⟨y, hy⟩ : ∃ y, y = d[k] := ⟨_, rfl⟩
      obtain ⟨c0, c1'⟩ : Cell2 wr b1 (o1 + k * 2) y := by rw [hy]; exact (hcl k hkd).below HBk.out hb1
      have HT : Hid (marL (d.take (k + 1)) = marL (d.take k) ++ escT y.1 ++ escT y.2) := mar_take d k hkd y hy
      have hyl := HLen.out y (by rw [hy]; exact List.getElem_mem hkd)
      have hml := mar_len (d.take k) (fun x hx => HLen.out x (List.mem_of_mem_take hx))
      have hml2 : (marL (d.take k)).length ≤ 400 := by
        rw [List.length_take] at hml
        have := HN.out
        have : min k d.length * 60 ≤ 6 * 60 := Nat.mul_le_mul_right _ (by omega)
        omega
      obtain ⟨x1, hx1⟩ : ∃ x : ByteArray, x = ⟨y.1.toArray⟩ := ⟨_, rfl⟩
      obtain ⟨x2, hx2⟩ : ∃ x : ByteArray, x = ⟨y.2.toArray⟩ := ⟨_, rfl⟩
      unfold vT at c0 c1'
      rw [← hx1] at c0
      rw [← hx2] at c1'
      have HX1 : Hid (x1.data.toList = y.1) := by show _ = _; rw [hx1]
      have HX2 : Hid (x2.data.toList = y.2) := by show _ = _; rw [hx2]
      have HL1 : Hid (x1.data.toList.length ≤ 1000) := by show _ ≤ _; rw [HX1.out]; omega
      have HL2 : Hid (x2.data.toList.length ≤ 1000) := by show _ ≤ _; rw [HX2.out]; omega
      have hescl := escT_len y.1
      have HA4 : Hid ((marL (d.take k)).length ≤ 10000) := by show _ ≤ _; omega
      have HA5 : Hid ((marL (d.take k) ++ escT x1.data.toList).length ≤ 10000) := by show _ ≤ _; rw [HX1.out, List.length_append]; omega
      obtain ⟨wp, hwp⟩ : ∃ wp, wp = wr.alloc (.cells #[.string x1, .string x2] 59) := ⟨_, rfl⟩
      have e0 : wp.cell? ⟨wr.heap.size, 0, none⟩ = some (.string x1) := by rw [hwp]; simp
      have e1 : wp.cell? ⟨wr.heap.size, 1, none⟩ = some (.string x2) := by rw [hwp]; simp
      have hsz : wp.heap.size = wr.heap.size + 1 := by rw [hwp]; simp
      have hOp : OwnY wp w1.heap.size u6 (marL (d.take k)) := by rw [hwp]; exact HOk.out.alloc _
      have hsz1 : w1.heap.size ≤ wp.heap.size := by have := HBk.out.size; omega
      obtain ⟨row, hrow⟩ : ∃ row, row = u6.ownBlock := ⟨_, rfl⟩
      have hrl : ∀ j, row = some j → w1.heap.size ≤ j ∧ j < wr.heap.size := fun j e => World.ownsRow.lt HOk.out j (hrow.symm.trans e)
      have HBp : Hid (Below w1.heap.size w1 wp) := by show Below _ _ _; rw [hwp]; exact HBk.out.alloc HBk.out.size _
      -- what a world that comes by the calls keeps
      have KG : Hid (∀ w', wp.grownBy w' row → w'.cell? ⟨wr.heap.size, 0, none⟩ = some (.string x1) ∧ w'.cell? ⟨wr.heap.size, 1, none⟩ = some (.string x2) ∧ w1.heap.size ≤ w'.heap.size ∧ Below w1.heap.size w1 w') := fun w' h => by
        have hne : some wr.heap.size ≠ row := fun e => by have := (hrl _ e.symm).2; omega
        exact ⟨(h.cell_far _ (by show wr.heap.size < _; omega) hne).trans e0, (h.cell_far _ (by show wr.heap.size < _; omega) hne).trans e1, Nat.le_trans hsz1 h.size, HBp.out.grown h hsz1 (fun j e => (hrl j e).1)⟩
      have hg0 : wp.grownBy wp row := ⟨rfl, rfl, rfl, Nat.le_refl _, fun _ _ _ => rfl⟩
      have hL0 : Loc wp row u6 := fun j e => .inr (hrow.trans e)
      have KE1 : Hid (∀ w', wp.grownBy w' row → OwnY w' w1.heap.size u6 (marL (d.take k)) → Calls Tryz.prog 66 #[u6, .string x1] w' fun e w'' => ∃ r, e = .returned r ∧ OwnY w'' w1.heap.size r (marL (d.take k) ++ escT x1.data.toList) ∧ wp.grownBy w'' row ∧ Loc wp row r) := fun w' h hO =>
        (KE.out u6 _ x1 w' hO (KG.out w' h).2.2.1 HA4.out HL1.out).mono fun e w'' ⟨r, he, ho, hg, hl⟩ => ⟨r, he, ho, h.andThen hg (fun j e => .inr (hrow.trans e)), fun j e => by
          rcases hl j e with h1 | h1
          · exact .inl (Nat.le_trans h.size h1)
          · exact .inr (hrow.trans h1)⟩
      have KE2 : Hid (∀ w' r, wp.grownBy w' row → Loc wp row r → OwnY w' w1.heap.size r (marL (d.take k) ++ escT x1.data.toList) → Calls Tryz.prog 66 #[r, .string x2] w' fun e w'' => ∃ r2, e = .returned r2 ∧ OwnY w'' w1.heap.size r2 (marL (d.take k) ++ escT x1.data.toList ++ escT x2.data.toList) ∧ wp.grownBy w'' row) := fun w' r h hl hO =>
        (KE.out r _ x2 w' hO (KG.out w' h).2.2.1 HA5.out HL2.out).mono fun e w'' ⟨r2, he, ho, hg, hl2⟩ => ⟨r2, he, ho, h.andThen hg hl⟩
      have HT9 : Hid (marL (d.take k) ++ escT x1.data.toList ++ escT x2.data.toList = marL (d.take (k + 1))) := by show _ = _; rw [HT.out, HX1.out, HX2.out]
      have i1 : (k : Int) < (n : Int) := by omega
      have hgd : wp.grownBy wp.drew row := ⟨rfl, rfl, rfl, Nat.le_refl _, fun _ _ _ => rfl⟩
      have tok1 : True := trivial
      have hOd : OwnY wp.drew w1.heap.size u6 (marL (d.take k)) := hOp
      have HWP := Lib.hid hwp
      clear hy hcl hkd hx1 hx2 hyl hml hml2 hescl hwp hsz hsz1 hrow hrl HT hlen
      go_wp2_with fail
      rw [← HWP.out]
      go_region_held3 (fun w' => w'.cell? ⟨wr.heap.size, 0, none⟩ = some (.string x1) ∧ w'.cell? ⟨wr.heap.size, 1, none⟩ = some (.string x2) ∧ wp.grownBy w' row)
        (first | assumption | exact ⟨(KG.out _ hgd).1, (KG.out _ hgd).2.1, hgd⟩ | exact ⟨(KG.out _ (by assumption)).1, (KG.out _ (by assumption)).2.1, (by assumption)⟩)
        (first
          | (go_at_call 66; have _t := tok1; refine (KE1.out _ hgd hOd).mono ?_; rintro e w2 ⟨r1, rfl, hO1, hg1, hl1⟩; clear tok1 _t)
          | (go_at_call 66; refine (KE2.out _ _ hg1 hl1 hO1).mono ?_; rintro e w3 ⟨r2, rfl, hO2, hg2⟩))
      have HO9 : Hid (OwnY w3 w1.heap.size r2 (marL (d.take (k + 1)))) := by show OwnY _ _ _ _; rw [← HT9.out]; exact hO2
      have HB9 : Hid (Below w1.heap.size w1 w3) := (KG.out _ hg2).2.2.2
      clear hO1 hO2 hg1 hg2 hl1 c0 c1' e0 e1 hOp hOd hgd hg0 hL0
      go_wp2_with fail
      go_roundw
      case rel => exact ⟨k + 1, by omega, by go_num, HO9.out, HB9.out⟩
      case measure => simp [intOf]; omega
    · have hkn : k = n := by omega
      have HO9 : Hid (OwnY wr W.heap.size u6 (marL d)) := by
        have := HOk.out
        rw [hkn, HN.out, List.take_length] at this
        exact ⟨this.1, this.2.imp id fun ⟨g, cap, cur, hv, hg, r⟩ => ⟨g, cap, cur, hv, Nat.le_trans HB.out.size hg, r⟩⟩
      have i1 : ¬ (k : Int) < (n : Int) := by omega
      clear hkn
      go_wp2_with fail
      go_ret2
      exact ⟨_, rfl, HO9.out, HB.out.trans (HBk.out.mono HB.out.size)⟩
end Go.Proofs.YtkgcbeokfilehaaGreatDoor
