/-
  OracleTells in plain words: what is told, sample by sample; a part of a row; filters with one more.
-/
import Derived.Test.YtkgcbeokfilehaaGreatDoorXsd
import Derived.Test.YtkgcbeokfilehaaGreatDoorVpd
import Derived.Test.YtkgcbeokfilehaaGreatDoorRgd
import Derived.Test.YtkgcbeokfilehaaGreatDoorGnd
import Derived.Test.YtkgcbeokfilehaaGreatDoorVid
import Derived.Test.YtkgcbeokfilehaaGreatDoorWjd
import Derived.Test.YtkgcbeokfilehaaGreatDoorYbd
namespace Go.Proofs.YtkgcbeokfilehaaGreatDoor
open Go.RowKit Go.Sort Go.Maps
/-- One of a row of series, alone. -/
theorem RdX.one {w : World} {B b o n c c' i : Nat} {l : List Ser} (h : RdX w B (.slice (some ⟨b, o, none⟩) n c) l) (hi : i < l.length) (hc : 1 ≤ c') : RdX w B (.slice (some ⟨b, o + i * 2, none⟩) 1 c') [l[i]] := by
  obtain ⟨A, c2, e, _, hA⟩ := h
  injection e with e1 e2 e3
  rcases hA with rfl | ⟨b', o', e', hb, hcl⟩
  · simp at hi
  · subst e1
    injection e' with e'
    injection e' with e4 e5
    subst e4 e5
    refine ⟨_, c', rfl, hc, .inr ⟨_, _, rfl, hb, fun j hj => ?_⟩⟩
    have : j = 0 := by simp at hj; exact hj
    subst this
    simpa using hcl i hi
section
variable {α : Type} {P : Program} {w : World} {o : Oper} {a : Act} {K : Act → World → Prop} {Q : Exit → Act → World → Prop}
/-- append of a row, as an operation alone. -/
theorem addNG (E : Enc α) (s x : Operand) (t e : TypeId) {z : Value} {bytes : Nat}
    (ho : o.op = .call { callee := .builtin .append, args := #[s, x], argTypes := #[t, t] }) (ht : P.underlying t = some (.slice e))
    (hinf : (P.info? e).map (fun i => (i.zero, i.size, i.bytes)) = some (some z, E.k, bytes)) (hz : z.cells.size = E.k) (hb : 0 < bytes)
    (base : Nat) (v : Value) (l : List α) (xv : Value) (l2 : List α) (B : Nat) (hs : a.eval s = v) (hown : OwnG E e w base v l) (hx : a.eval x = xv) (hR : RdG E w B xv l2)
    (hl : (l.length + l2.length) * bytes ≤ 140737488355328) (hbase : base ≤ w.heap.size)
    (h : ∀ v' w', OwnG E e w' base v' (l ++ l2) → w.grownBy w' v.ownBlock → K (a.put o.dst v') w') : o.wp P a w K Q := by
  obtain ⟨i, hi, hz1, hsz, hby⟩ := of_infoG hinf
  obtain ⟨A, c, rfl, hc, hn0, hA⟩ := hR
  cases A with
  | none =>
    have hc0 := hn0 rfl
    subst hc0
    have hl2 : l2 = [] := List.eq_nil_of_length_eq_zero (by omega)
    subst hl2
    have hrun := run_append_owned_none (P := P) (w := w) base t o.type e i E.k ht hi v l.length (E.flat l) hown
    unfold Oper.wp execOp
    simp only [ho, resolve, invoke, builtin, Sem.run_bind, Sem.run_pure, Result.andThen_ok, List.map_toArray, List.map_cons, List.map_nil, hs, hx, List.length_nil, hrun]
    exact h v w (by rw [List.append_nil]; exact hown) ⟨rfl, rfl, rfl, Nat.le_refl _, fun _ _ _ => rfl⟩
  | some ad =>
    have hcells : ∀ j u, (E.flat l2)[j]? = some u → w.cell? (ad.add j) = some u := by
      rcases hA with rfl | ⟨b, o, h1, _, hcl⟩
      · intro j u hu; simp [Enc.flat] at hu
      · injection h1 with h1; subst h1; exact cells_news hcl
    have hm : l.length + l2.length ≤ maxLen := by
      have := Nat.le_mul_of_pos_right (l.length + l2.length) hb
      have e : maxLen = 9223372036854775807 := rfl
      omega
    obtain ⟨v', w', hr, h2, h3, _, _⟩ := run_append_own_at (P := P) w base t o.type e i _ E.k bytes ht hi hz1 hsz hby hz E.pos v l.length (E.flat l) hown ad l2.length c (E.flat l2) (E.flat_len l2) hcells (E.flat_cell l2) hm hl hbase
    unfold Oper.wp execOp
    simp only [ho, resolve, invoke, builtin, Sem.run_bind, Sem.run_pure, Result.andThen_ok, List.map_toArray, List.map_cons, List.map_nil, hs, hx, hr]
    refine h v' w' ?_ h3
    unfold OwnG
    rw [E.flat_app, List.length_append]
    exact h2
end
theorem cellG_block {α : Type} {E : Enc α} {w : World} {b : Nat} {x : α} {cs : Array Value} {t : TypeId} (h : w.heap[b]? = some (.cells cs t (0, 0))) (e : cs.toList = E.enc x) : CellG E w b 0 x := fun j _ => by
  simp [World.cell?, h, ← e]
theorem RdG.one {α : Type} {E : Enc α} {w : World} {b B : Nat} {x : α} (h : CellG E w b 0 x) (hb : b < B) : RdG E w B (.slice (some ⟨b, 0, none⟩) 1 1) [x] :=
  ⟨_, 1, rfl, Nat.le_refl _, fun e => (by cases e), .inr ⟨b, 0, rfl, hb, fun i hi => by
    obtain rfl : i = 0 := by simp at hi; exact hi
    simpa using h⟩⟩
theorem own_tag {α : Type} {E : Enc α} {ty : TypeId} {w : World} {base : Nat} {v : Value} {l : List α} (h : OwnG E ty w base v l) {g : Nat} {cs : Array Value} {t : TypeId} (hg : w.heap[g]? = some (.cells cs t (0, 0))) (ht : t ≠ ty) : some g ≠ v.ownBlock := by
  intro e
  rcases h.2 with ⟨h1, _⟩ | ⟨g', cap, cur, hv, hb, hh, _⟩
  · rw [h1] at e; simp [Value.ownBlock] at e
  · rw [hv] at e
    simp [Value.ownBlock] at e
    subst e
    rw [hg] at hh
    injection hh with hh
    injection hh with _ hh
    exact ht hh
end Go.Proofs.YtkgcbeokfilehaaGreatDoor

/-
  OracleDeletes in plain words; an oracle's clone; a row of acts with one more.
-/
namespace Go.Proofs.YtkgcbeokfilehaaGreatDoor
open Go.RowKit Go.Sort Go.Maps
section
variable {W w : World} {o : Nat} {every keep now : Int} {R : Told}
theorem liv_del (h : Liv W w o every keep now R) (hB : Below W.heap.size W w) {fv : Value} {fs : List Fil} (hF : RdF w W.heap.size fv fs) (hRl : R.length ≤ 60000) (hfl : FewL R) (hq : checkF fs = 0) :
    Calls Tryz.prog 31 #[.pointer (some ⟨o, 0, none⟩), fv] w fun e w' => e = .returned (.tuple #[.int .i64 ((labsOf R).length - (labsOf (delR fs R)).length : Int), .int .i64 0]) ∧ Liv W w' o every keep now (delR fs R) ∧ Below W.heap.size W w' := by
  obtain ⟨S, B, b, X, h1, h2, h3⟩ := h
  have hlo : ∀ k, S k → B ≤ k := fun k hk => (h1.lt hk).1
  refine (delete_walk h1 h2 fv fs (rdFT_low hF hlo h3 hB.size) hRl hfl hq).mono ?_
  rintro e w' ⟨k1, k2, k3⟩
  exact ⟨k1, ⟨S, B, b, X, k2, h2, h3⟩, hB.trans (k3.far hlo h3 hB.size)⟩
theorem liv_clone (h : Liv W w o every keep now R) (hRl : R.length ≤ 60000) (hfl : FewL R) :
    Calls Tryz.prog 30 #[.pointer (some ⟨o, 0, none⟩)] w fun e w' => ∃ o', e = .returned (.pointer (some ⟨o', 0, none⟩)) ∧ Liv w w' o' every keep now R ∧ Below w.heap.size w w' := by
  obtain ⟨S, B, b, X, h1, h2, h3⟩ := h
  refine (clone_walkO h1 hRl hfl).mono ?_
  rintro e w' ⟨o', b', S', X', k1, k2, k3, k4⟩
  exact ⟨o', k1, ⟨S', w.heap.size, b', X', k2, k3, Nat.le_refl _⟩, k4⟩
theorem liv_addU {w' : World} (h : Liv W w o every keep now R) (hB : Below W.heap.size W w) (hE : Below w.heap.size w w') {v : Value} {l : List RowS} (hR : RdWU W w w' v l) (hl : l.length ≤ 16) (hRl : R.length ≤ 50000) :
    Calls Tryz.prog 13 #[.pointer (some ⟨o, 0, none⟩), v] w' fun e w'' => e = .returned (.tuple #[.int .i64 (refusedR keep now l), .int .i64 0]) ∧ Liv W w'' o every keep now (addR keep now R l) ∧ Below W.heap.size W w'' := by
  obtain ⟨S, B, b, X, h1, h2, h3⟩ := h
  have hlo : ∀ k, S k → B ≤ k ∧ k < w.heap.size := fun k hk => h1.lt hk
  have hB' : Below W.heap.size W w' := hB.trans (hE.mono hB.size)
  refine (add_walk (h1.on hE) h2 v l (hR S fun k hk => ⟨Nat.le_trans h3 (hlo k hk).1, (hlo k hk).2⟩) hl hRl).mono ?_
  rintro e w'' ⟨k1, S', X', k2⟩
  refine ⟨k1, ⟨S', B, b, X', k2.orc, ?_, h3⟩, hB'.trans (k2.chg.far (fun k hk => (hlo k hk).1) h3 hB'.size)⟩
  obtain ⟨n, D, _, hom⟩ := k2.orc.om
  exact hom.sb
end
-- ---- plain
theorem filter_incl {α : Type} (p q : α → Bool) : ∀ ls : List α, (ls.filter p).length + (ls.filter q).length ≤ ls.length + ((ls.filter p).filter q).length
  | [] => by simp
  | a :: ls => by
    have h := filter_incl p q ls
    cases hp : p a <;> cases hq : q a <;> simp only [List.filter_cons, hp, hq, if_true, if_false, List.length_cons, Bool.false_eq_true] <;> omega
/-- As many series as are told no more are deleted, at the least. -/
theorem tell_lost (d f t : Int) (gs fs : List Fil) (R : Told) : ((tellS d f t gs R).length : Int) - ((tellS d f t gs R).filter (fun x => !allF fs x.1)).length ≤ ((labsOf R).length : Int) - (labsOf (delR fs R)).length := by
  rw [labs_del]
  unfold tellS
  rw [List.filter_map, List.length_map, List.length_map]
  have h := filter_incl (fun c => allF gs c && decide (tellC d f t R c ≠ [])) (fun c => !allF fs c) (labsOf R)
  have e : (List.filter ((fun x : Lbs × List Smp => !allF fs x.1) ∘ fun c => (c, tellC d f t R c)) (List.filter (fun c => allF gs c && decide (tellC d f t R c ≠ [])) (labsOf R))) = (List.filter (fun c => !allF fs c) (List.filter (fun c => allF gs c && decide (tellC d f t R c ≠ [])) (labsOf R))) := rfl
  rw [e]
  omega
theorem delR_nil (R : Told) : delR [] R = [] := by unfold delR allF; simp
theorem tellS_nil (d f t : Int) (fs : List Fil) : tellS d f t fs [] = [] := rfl
/-- One row that is taken is told. -/
theorem tell_one {keep now : Int} (r : RowS) : (tellS 1 (fromS 0 now keep) 1099511627776 [] (addR keep now [] [r])).length = if takesR keep now r = true then 1 else 0 := by
  cases h : takesR keep now r with
  | false =>
    have e : addR keep now [] [r] = [] := by unfold addR; simp [h]
    rw [e]; rfl
  | true =>
    have e : addR keep now [] [r] = [(canonL r.1, r.2)] := by unfold addR; simp [h]
    rw [e]
    unfold takesR at h
    simp only [Bool.and_eq_true, decide_eq_true_eq] at h
    obtain ⟨⟨⟨_, hr⟩, h1⟩, h2⟩ := h
    have hr2 := hr
    unfold rightS at hr2
    simp only [Bool.and_eq_true, decide_eq_true_eq] at hr2
    have e2 : smpOf [(canonL r.1, r.2)] (canonL r.1) = [r.2] := by unfold smpOf; simp
    obtain ⟨z, hz, _⟩ := dedup_max 1 [r.2] r.2 List.mem_cons_self hr
    have hzr : z = r.2 := by
      have := ((dedup_mem 1 [r.2] z).1 hz).1.1
      simpa using this
    subst hzr
    have e3 : tellC 1 (fromS 0 now keep) 1099511627776 [(canonL r.1, r.2)] (canonL r.1) ≠ [] := by
      unfold tellC delS
      rw [e2]
      intro hn
      have : r.2 ∈ List.filter (fun s => !outS (fromS 0 now keep) 1099511627776 s) (dedupS 1 [r.2]) := List.mem_filter.2 ⟨hz, by unfold outS fromS; simp; omega⟩
      rw [hn] at this; cases this
    have e4 : labsOf [(canonL r.1, r.2)] = [canonL r.1] := rfl
    unfold tellS
    rw [e4, List.length_map, List.filter_cons, if_pos (by simp [allF, e3])]
    rfl
theorem refused_one {keep now : Int} (r : RowS) : refusedR keep now [r] = if takesR keep now r = true then 0 else 1 := by
  unfold refusedR
  cases h : takesR keep now r <;> simp [h]
/-- What is told once it is deleted, or not. -/
def wantD (g : Int) (fs : List Fil) (l : List Ser) : List Ser := l.filter (fun x => !(decide (g = 0) && allF fs x.1))
theorem wantD_snoc {g : Int} {fs : List Fil} {l : List Ser} {i : Nat} (hi : i < l.length) : wantD g fs (l.take (i + 1)) = if (decide (g = 0) && allF fs l[i].1) = true then wantD g fs (l.take i) else wantD g fs (l.take i) ++ [l[i]] := by
  unfold wantD
  rw [List.take_succ_eq_append_getElem hi, List.filter_append]
  cases h : (decide (g = 0) && allF fs l[i].1)
  · rw [List.filter_cons, if_pos (by rw [h]; rfl), if_neg (by simp)]; rfl
  · rw [List.filter_cons, if_neg (by rw [h]; simp), if_pos rfl]; simp
theorem wantD_yes (fs : List Fil) (l : List Ser) : wantD 0 fs l = l.filter (fun x => !allF fs x.1) := by unfold wantD; simp
theorem wantD_no {g : Int} (hg : g ≠ 0) (fs : List Fil) (l : List Ser) : wantD g fs l = l := by unfold wantD; simp [hg]
-- ---- acts, as they lie
structure ActC where
  kind : Int
  ra : Option Addr
  rn : Nat
  rc : Nat
  fa : Option Addr
  fn : Nat
  fc : Nat
  now : Int
def encA (x : ActC) : List Value := [.int .i64 x.kind, .slice x.ra x.rn x.rc, .slice x.fa x.fn x.fc, .int .i64 x.now]
def EA : Enc ActC := ⟨4, encA, fun _ => rfl, fun x u hu => by simp [encA] at hu; rcases hu with rfl | rfl | rfl | rfl <;> rfl, by decide⟩
def ActC.is (w : World) (B : Nat) (x : ActC) (y : ActS) : Prop := x.kind = y.kind ∧ x.now = y.now ∧ RdW w B (.slice x.ra x.rn x.rc) y.rows ∧ Nz (.slice x.ra x.rn x.rc) ∧ RdF w B (.slice x.fa x.fn x.fc) y.fs ∧ Nz (.slice x.fa x.fn x.fc)
theorem ActC.is.below {w w' : World} {B : Nat} {x : ActC} {y : ActS} (h : x.is w B y) (k : Below B w w') : x.is w' B y := ⟨h.1, h.2.1, h.2.2.1.below k, h.2.2.2.1, h.2.2.2.2.1.below k, h.2.2.2.2.2⟩
theorem ActC.is.mono {w : World} {B B' : Nat} {x : ActC} {y : ActS} (h : x.is w B y) (k : B ≤ B') : x.is w B' y := ⟨h.1, h.2.1, h.2.2.1.mono k, h.2.2.2.1, h.2.2.2.2.1.mono k, h.2.2.2.2.2⟩
theorem cellA {w : World} {B b o : Nat} {y : ActS} : ActAt w B b o y ↔ ∃ x : ActC, CellG EA w b o x ∧ x.is w B y := by
  constructor
  · rintro ⟨rv, fv, h0, h1, h2, h3, h4, h5, h6, h7⟩
    obtain ⟨ra, rc, rfl, _, _⟩ := id h4
    obtain ⟨fa, fc, rfl, _, _⟩ := id h6
    refine ⟨⟨y.kind, ra, y.rows.length, rc, fa, y.fs.length, fc, y.now⟩, fun j hj => ?_, rfl, rfl, h4, h5, h6, h7⟩
    match j, hj with
    | 0, _ => simpa [EA, encA] using h0
    | 1, _ => simpa [EA, encA] using h1
    | 2, _ => simpa [EA, encA] using h2
    | 3, _ => simpa [EA, encA] using h3
  · rintro ⟨x, h, e1, e2, h4, h5, h6, h7⟩
    have q0 := h 0 (by decide)
    have q1 := h 1 (by decide)
    have q2 := h 2 (by decide)
    have q3 := h 3 (by decide)
    refine ⟨.slice x.ra x.rn x.rc, .slice x.fa x.fn x.fc, ?_, ?_, ?_, ?_, h4, h5, h6, h7⟩
    · rw [← e1]; simpa [EA, encA] using q0
    · simpa [EA, encA] using q1
    · simpa [EA, encA] using q2
    · rw [← e2]; simpa [EA, encA] using q3
/-- A row of acts as the cells that lie there. -/
theorem RdA.raw {w : World} {B : Nat} {v : Value} {l : List ActS} (h : RdA w B v l) (hz : Nz v) : ∃ ls : List ActC, RdG EA w B v ls ∧ ls.length = l.length ∧ ∀ i (hi : i < l.length) (hj : i < ls.length), (ls[i]).is w B l[i] := by
  obtain ⟨A, c, rfl, hc, hA⟩ := h
  rcases hA with rfl | ⟨b, o, rfl, hb, hcl⟩
  · exact ⟨[], ⟨A, c, rfl, hc, fun e => hz _ _ (by rw [e]), .inl rfl⟩, rfl, fun i hi => absurd hi (Nat.not_lt_zero _)⟩
  · have hx : ∀ i : Fin l.length, ∃ x : ActC, CellG EA w b (o + i.1 * 4) x ∧ x.is w B l[i.1] := fun i => cellA.1 (hcl i.1 i.2)
    obtain ⟨f, hf⟩ := Classical.axiomOfChoice hx
    refine ⟨List.ofFn f, ⟨some ⟨b, o, none⟩, c, by rw [List.length_ofFn], by rw [List.length_ofFn]; exact hc, fun e => (by cases e), .inr ⟨b, o, rfl, hb, fun i hi => ?_⟩⟩, List.length_ofFn, fun i hi hj => ?_⟩
    · rw [List.getElem_ofFn]; exact (hf ⟨i, by simpa using hi⟩).1
    · rw [List.getElem_ofFn]; exact (hf ⟨i, hi⟩).2
theorem RdG.acts {w : World} {B : Nat} {v : Value} {ls : List ActC} {l : List ActS} (h : RdG EA w B v ls) (hl : ls.length = l.length) (hi : ∀ i (hi : i < l.length) (hj : i < ls.length), (ls[i]).is w B l[i]) : RdA w B v l := by
  obtain ⟨A, c, rfl, hc, _, hA⟩ := h
  refine ⟨A, c, by rw [hl], by rw [← hl]; exact hc, ?_⟩
  rcases hA with rfl | ⟨b, o, rfl, hb, hcl⟩
  · exact .inl (List.eq_nil_of_length_eq_zero (by rw [← hl]; rfl))
  · exact .inr ⟨b, o, rfl, hb, fun i h1 => cellA.2 ⟨_, hcl i (by rw [hl]; exact h1), hi i h1 (by rw [hl]; exact h1)⟩⟩
theorem info_Act : (Tryz.prog.info? 34).map (fun i => (i.zero, i.size, i.bytes)) = some (some (.agg #[.int .i64 0, .slice none 0 0, .slice none 0 0, .int .i64 0]), 4, 64) := by kernel_rfl
theorem FewA.snoc {l : List ActS} {y : ActS} (h : FewA (l ++ [y])) : FewA l ∧ y.fs.length ≤ 8 ∧ ∀ r ∈ y.rows, r.1.length ≤ 8 := by
  have h1 := h.len
  have h2 := h.sum
  rw [List.length_append, List.length_singleton] at h1
  rw [List.map_append, List.sum_append] at h2
  exact ⟨⟨by omega, by omega, fun a ha => h.ok a (List.mem_append_left _ ha)⟩, (h.ok y (by simp)).1, (h.ok y (by simp)).2⟩
/-- What is there once it is deleted, or not. -/
def afterD (fs : List Fil) (R : Told) : Told := if checkF fs = 0 then delR fs R else R
theorem afterD_len (fs : List Fil) (R : Told) : (afterD fs R).length ≤ R.length := by
  unfold afterD; split
  · exact delR_length fs R
  · exact Nat.le_refl _
theorem afterD_few {fs : List Fil} {R : Told} (h : FewL R) : FewL (afterD fs R) := by
  unfold afterD; split
  · exact fun x hx => h x (mem_delR hx)
  · exact h
theorem afterD_nil (R : Told) : afterD [] R = [] := by
  unfold afterD
  rw [if_pos (by decide)]
  exact delR_nil R
theorem tell_afterD (d f t : Int) (gs fs : List Fil) (R : Told) : tellS d f t gs (afterD fs R) = wantD (checkF fs) fs (tellS d f t gs R) := by
  unfold afterD
  by_cases h : checkF fs = 0
  · rw [if_pos h, h, wantD_yes]; exact tell_del d f t gs fs R
  · rw [if_neg h, wantD_no h]
theorem liv_delB {W w : World} {o : Nat} {every keep now : Int} {R : Told} (h : Liv W w o every keep now R) (hB : Below W.heap.size W w) {fv : Value} {fs : List Fil} (hF : RdF w W.heap.size fv fs) (hRl : R.length ≤ 60000) (hfl : FewL R) :
    Calls Tryz.prog 31 #[.pointer (some ⟨o, 0, none⟩), fv] w fun e w' => ∃ nD : Int, e = .returned (.tuple #[.int .i64 nD, .int .i64 (checkF fs)]) ∧ Liv W w' o every keep now (afterD fs R) ∧ Below W.heap.size W w' ∧ 0 ≤ nD ∧ nD ≤ 60000 ∧ ∀ d f t gs, ((tellS d f t gs R).length : Int) - (tellS d f t gs (afterD fs R)).length ≤ nD := by
  by_cases hq : checkF fs = 0
  · refine (liv_del h hB hF hRl hfl hq).mono ?_
    rintro e w' ⟨k1, k2, k3⟩
    have e1 : afterD fs R = delR fs R := by unfold afterD; rw [if_pos hq]
    have h1 := labs_length R
    have h2 : (labsOf (delR fs R)).length ≤ (labsOf R).length := by rw [labs_del]; exact List.length_filter_le _ _
    rw [e1, hq]
    exact ⟨_, k1, k2, k3, by omega, by omega, fun d f t gs => by rw [tell_del]; exact tell_lost d f t gs fs R⟩
  · refine (delete_fail o fv fs (hF.mono hB.size) hq).mono ?_
    rintro e w' ⟨k1, k2⟩
    have e1 : afterD fs R = R := by unfold afterD; rw [if_neg hq]
    rw [e1]
    exact ⟨0, k1, h.on k2, hB.trans (k2.mono hB.size), Int.le_refl _, by omega, fun d f t gs => by omega⟩
/-- A row of acts with one more, of one row. -/
theorem acts_snoc {w : World} {B gX : Nat} {v lv : Value} {ls : List ActC} {l : List ActS} {r : RowS} {fa : Option Addr} {fn fc : Nat} {fs : List Fil} (h : RdG EA w B v (ls ++ [⟨0, some ⟨gX, 0, none⟩, 1, 1, fa, fn, fc, 0⟩])) (hl : ls.length = l.length) (hi : ∀ i (hi : i < l.length) (hj : i < ls.length), (ls[i]).is w B l[i])
    (hX : w.heap[gX]? = some (.cells #[lv, .int .i64 r.2.1, .int .i64 r.2.2.1, .int .i64 r.2.2.2.1, .int .i64 r.2.2.2.2] 28 (0, 0))) (hgB : gX < B) (hL : RdL w B lv r.1) (hz : Nz lv) (hF : RdF w B (.slice fa fn fc) fs) (hzf : Nz (.slice fa fn fc)) : RdA w B v (l ++ [⟨0, [r], fs, 0⟩]) := by
  have hc : ∀ i, w.cell? ⟨gX, i, none⟩ = (#[lv, .int .i64 r.2.1, .int .i64 r.2.2.1, .int .i64 r.2.2.2.1, .int .i64 r.2.2.2.2] : Array Value)[i]? := fun i => by simp [World.cell?, hX]
  refine RdG.acts h (by simp [hl]) fun i h1 h2 => ?_
  by_cases hil : i < l.length
  · rw [List.getElem_append_left hil, List.getElem_append_left (by omega)]
    exact hi i hil (by omega)
  · have e : i = l.length := by simp at h1; omega
    subst e
    have e1 : (l ++ [(⟨0, [r], fs, 0⟩ : ActS)])[l.length] = ⟨0, [r], fs, 0⟩ := by simp
    have e2 : (ls ++ [(⟨0, some ⟨gX, 0, none⟩, 1, 1, fa, fn, fc, 0⟩ : ActC)])[l.length] = ⟨0, some ⟨gX, 0, none⟩, 1, 1, fa, fn, fc, 0⟩ := by
      rw [List.getElem_append_right (by omega)]; simp [hl]
    rw [e1, e2]
    refine ⟨rfl, rfl, ⟨_, 1, rfl, Nat.le_refl _, .inr ⟨gX, 0, rfl, hgB, fun j hj => ?_⟩⟩, fun n c e => (by cases e), hF, hzf⟩
    obtain rfl : j = 0 := by simp at hj; exact hj
    exact ⟨lv, by simpa using hc 0, hL, hz, by simpa using hc 1, by simpa using hc 2, by simpa using hc 3, by simpa using hc 4⟩
theorem share6 {P : Prop} {G : Value → Value → Value → Value → Value → World → Prop} (Pre : Value → Value → Value → Value → Value → World → Prop) (main : (∀ a b c d e w, Pre a b c d e w → G a b c d e w) → P) (pf : ∀ a b c d e w, Pre a b c d e w → G a b c d e w) : P := main pf
theorem SL.low {w : World} {v : Value} {l : Lbs} (h : RdL w w.heap.size v l) : SL NoB w v l := fun w' k => by
  have := k.below (B := w.heap.size) (Nat.le_refl _) (fun _ e => e.elim)
  exact (h.below this).mono this.size
theorem SR.low {w : World} {v : Value} {l : List Smp} (h : Rd w w.heap.size v l) : SR NoB w v l := fun w' k => by
  have := k.below (B := w.heap.size) (Nat.le_refl _) (fun _ e => e.elim)
  exact (h.below this).mono this.size
end Go.Proofs.YtkgcbeokfilehaaGreatDoor
