/-
  What a map of series holds, entry by entry; how many; what is left when some are struck.
-/
import Derived.Test.YtkgcbeokfilehaaGreatDoorVmk
import Derived.Lib.SlMapFilter
import Derived.Maps.RangeWalk
import Derived.Test.YtkgcbeokfilehaaGreatDoorVok
namespace Go.Proofs.YtkgcbeokfilehaaGreatDoor
open Go.RowKit Go.Sort Go.Maps
open Go.WideElems (Fit rd rg pl rd_val rd_key rg_of)

theorem key_law : Keyed Tryz.prog 9 := string_keyed Tryz.underlying9
theorem has_of_mem {es : List (Lit × DataW Unit)} {c : Lbs} {y : DataW Unit} (h : (kyL c, y) ∈ es) : Maps.has (.map es) (kyL c) = true :=
  List.any_eq_true.2 ⟨_, h, WideAt.sameKey_self (kyL_key c)⟩
theorem mem_of_has {es : List (Lit × DataW Unit)} {k : Lit} (h : Maps.has (.map es) k = true) : ∃ y, (k, y) ∈ es := by
  obtain ⟨q, hq, hk⟩ := List.any_eq_true.1 h
  have := WideAt.sameKey_eq hk
  subst this
  exact ⟨q.2, hq⟩
/-- The entries: just those of the series that are there. -/
theorem OM.ents {w : World} {S : Nat → Prop} {B b n : Nat} {D : DataW Unit} {X : Sers} {H : Lbs → Bool} {L : Lbs → List Smp} (h : OM w S B b n D X H L) :
    ∃ es, D = .map es ∧ es.Pairwise (fun p q => p.1 ≠ q.1) ∧ (∀ q ∈ es, ∃ c, H c = true ∧ q = (kyL c, .lit (.int .i64 (X.G c)))) ∧ ∀ c, H c = true → (kyL c, .lit (.int .i64 (X.G c))) ∈ es := by
  obtain ⟨es, rfl, hap, hk⟩ := h.map.entries key_law
  have one : ∀ c y, (kyL c, y) ∈ es → H c = true ∧ y = .lit (.int .i64 (X.G c)) := by
    intro c y hq
    have h1 := has_of_mem hq
    rw [h.has] at h1
    have h2 := WideAt.atKey_mem .nil (kyL_key c) hap hq
    rw [h.at_ c h1] at h2
    exact ⟨h1, h2.symm⟩
  refine ⟨es, rfl, hap, fun q hq => ?_, fun c hc => ?_⟩
  · have h1 : Maps.has (.map es) q.1 = true := List.any_eq_true.2 ⟨q, hq, WideAt.sameKey_self (hk q hq)⟩
    obtain ⟨c, hc, e⟩ := h.key q.1 h1
    obtain ⟨k, y⟩ := q
    have e : k = kyL c := e
    subst e
    obtain ⟨_, rfl⟩ := one c y hq
    exact ⟨c, hc, rfl⟩
  · have h1 := h.has c
    rw [hc] at h1
    obtain ⟨y, hy⟩ := mem_of_has h1
    obtain ⟨_, rfl⟩ := one c y hy
    exact hy
theorem OM.size {w : World} {S : Nat → Prop} {B b n : Nat} {D : DataW Unit} {X : Sers} {R : Told} {L : Lbs → List Smp} (h : OM w S B b n D X (hasR R) L) : Maps.size D = (labsOf R).length := by
  obtain ⟨es, rfl, hap, h1, h2⟩ := h.ents
  have hp : (es.map (·.1)).Perm ((labsOf R).map kyL) := by
    refine (List.perm_ext_iff_of_nodup ?_ ?_).2 fun k => ?_
    · rw [List.nodup_iff_pairwise_ne, List.pairwise_map]; exact hap
    · rw [List.nodup_iff_pairwise_ne, List.pairwise_map]
      refine List.Pairwise.imp (fun {x y} h e => ?_) (labs_up R)
      rw [kyL_inj e] at h
      exact cmpRow_irr _ h
    · rw [List.mem_map, List.mem_map]
      constructor
      · rintro ⟨q, hq, rfl⟩
        obtain ⟨c, hc, rfl⟩ := h1 q hq
        exact ⟨c, mem_labs.2 hc, rfl⟩
      · rintro ⟨c, hc, rfl⟩
        exact ⟨_, h2 c (mem_labs.1 hc), rfl⟩
  have := hp.length_eq
  simpa [Maps.size] using this
theorem OM.congr {w : World} {S : Nat → Prop} {B b n : Nat} {D : DataW Unit} {X : Sers} {H : Lbs → Bool} {L L' : Lbs → List Smp} (h : OM w S B b n D X H L) (k : ∀ c, H c = true → L' c = L c) : OM w S B b n D X H L' :=
  ⟨h.map, h.lt, h.sb, h.isMap, h.key, h.has, h.at_, fun c hc => by rw [k c hc]; exact h.ser c hc, h.own, h.apart⟩
/-- The series that a pointer points at. -/
noncomputable def ptR (X : Sers) (H : Lbs → Bool) (v : Value) : Option (DataW Unit × List MemPlace) :=
  @ite _ (∃ c, H c = true ∧ v = .pointer (some ⟨X.G c, 0, none⟩)) (Classical.propDecidable _) (ptE v) none
theorem ptR_form {X : Sers} {H : Lbs → Bool} {v : Value} {y : DataW Unit × List MemPlace} (h : ptR X H v = some y) : ∃ c, H c = true ∧ v = .pointer (some ⟨X.G c, 0, none⟩) ∧ y = (.lit (.int .i64 (X.G c)), []) := by
  unfold ptR at h
  split at h
  case isTrue hc =>
    obtain ⟨c, hc, rfl⟩ := hc
    exact ⟨c, hc, rfl, (Option.some.inj h).symm⟩
  case isFalse => cases h
theorem ptR_mk {X : Sers} {H : Lbs → Bool} {c : Lbs} (hc : H c = true) : ptR X H (.pointer (some ⟨X.G c, 0, none⟩)) = some (.lit (.int .i64 (X.G c)), []) := by
  unfold ptR
  rw [if_pos ⟨c, hc, rfl⟩]; rfl
theorem ptR_ptE {X : Sers} {H : Lbs → Bool} {v : Value} {y : DataW Unit × List MemPlace} (h : ptR X H v = some y) : ptE v = some y := by
  obtain ⟨c, _, rfl, rfl⟩ := ptR_form h
  rfl
set_option maxRecDepth 100000 in
theorem OM.restr {w : World} {S : Nat → Prop} {B b n : Nat} {D : DataW Unit} {X : Sers} {H : Lbs → Bool} {L : Lbs → List Smp} (h : OM w S B b n D X H L) : w.ownsMap Tryz.prog 9 (ptR X H) b n D := by
  obtain ⟨es, e, _, hin, _⟩ := h.ents
  obtain ⟨ms, clock, hb, F, hs, hD⟩ := h.map
  have e2 := hD.symm.trans e
  injection e2 with e2
  obtain ⟨F', hmap, _⟩ := F.stay (R' := ptR X H) fun x hx z hz => by
    obtain ⟨y, hy⟩ := F.reads x hx
    obtain ⟨z', hz', hzd⟩ := rd_val hy
    rw [hz] at hz'
    injection hz' with hz'
    subst hz'
    have hm : rg Tryz.prog 9 ptE x ∈ es := by
      rw [← e2]; exact mem_sorted.2 (List.mem_map.2 ⟨x, hx, rfl⟩)
    obtain ⟨c, hc, e3⟩ := hin _ hm
    rw [rg_of hy] at e3
    have e4 : y.2 = .lit (.int .i64 (X.G c)) := by rw [e3]
    rw [hzd] at e4
    obtain ⟨z1, z2⟩ := z
    have e4 : z1 = .lit (.int .i64 (X.G c)) := e4
    subst e4
    have e5 := ptE_lit hz
    rw [e5] at hz ⊢
    rw [ptR_mk hc]; exact hz
  exact ⟨ms, clock, hb, F', hs, by rw [hmap]; exact hD⟩
/-- Which are struck: by what the pointer points at. -/
noncomputable def pdR (X : Sers) (H p : Lbs → Bool) (_ : Lit) (y : DataW Unit) : Bool := @decide (∃ c, H c = true ∧ y = .lit (.int .i64 (X.G c)) ∧ p c = true) (Classical.propDecidable _)
theorem pdR_at {w : World} {S : Nat → Prop} {B b n : Nat} {D : DataW Unit} {X : Sers} {H p : Lbs → Bool} {L : Lbs → List Smp} (h : OM w S B b n D X H L) {c : Lbs} (hc : H c = true) (k : Lit) : pdR X H p k (.lit (.int .i64 (X.G c))) = p c := by
  unfold pdR
  cases hp : p c
  · refine @decide_eq_false _ (Classical.propDecidable _) ?_
    rintro ⟨c', hc', e, hp'⟩
    injection e with e
    injection e with _ e
    have e : X.G c = X.G c' := by omega
    by_cases hcc : c = c'
    · subst hcc; rw [hp] at hp'; cases hp'
    · exact (h.apart c c' hc hc' hcc).1 e
  · exact @decide_eq_true _ (Classical.propDecidable _) ⟨c, hc, rfl, hp⟩
theorem OM.strike {w w' : World} {S : Nat → Prop} {B b n : Nat} {D : DataW Unit} {X : Sers} {H p : Lbs → Bool} {L : Lbs → List Smp} (h : OM w S B b n D X H L) (hm : w'.ownsMap Tryz.prog 9 (ptR X H) b n (Lib.deleteFuncD (pdR X H p) D)) (hg : w.grownBy w' (some b)) :
    OM w' S B b n (Lib.deleteFuncD (pdR X H p) D) X (fun c => H c && !p c) L := by
  obtain ⟨es, rfl, hap, h1, h2⟩ := h.ents
  have h3 : ∀ c, H c = true → p c = false → (kyL c, .lit (.int .i64 (X.G c))) ∈ es.filter fun q => !pdR X H p q.1 q.2 := fun c hc hp => List.mem_filter.2 ⟨h2 c hc, by rw [pdR_at h hc, hp]; rfl⟩
  have h4 : ∀ q ∈ es.filter (fun q => !pdR X H p q.1 q.2), ∃ c, (H c && !p c) = true ∧ q = (kyL c, .lit (.int .i64 (X.G c))) := fun q hq => by
    obtain ⟨hq, hp⟩ := List.mem_filter.1 hq
    obtain ⟨c, hc, rfl⟩ := h1 q hq
    rw [pdR_at h hc] at hp
    exact ⟨c, by rw [hc]; exact hp, rfl⟩
  have h5 : (es.filter fun q => !pdR X H p q.1 q.2).Pairwise (fun p q => p.1 ≠ q.1) := hap.filter _
  have hne : ∀ x, S x → x ≠ b → w'.heap[x]? = w.heap[x]? := fun x hx hn => hg.block x (h.lt x hx).2 (fun e => hn (by injection e))
  have tag : ∀ {x : Nat} {ob : Obj}, w.heap[x]? = some ob → (∀ es clock, ob ≠ .map es clock) → x ≠ b := by
    intro x ob hx ho e
    obtain ⟨ms, clock, hb, _⟩ := h.map
    rw [e, hb] at hx
    injection hx with hx
    exact ho _ _ hx.symm
  refine ⟨?_, fun k hk => ⟨(h.lt k hk).1, Nat.lt_of_lt_of_le (h.lt k hk).2 hg.size⟩, h.sb, ⟨_, rfl⟩, fun kl hk => ?_, fun c => ?_, fun c hc => ?_, fun c hc => ?_, fun c hc => ?_, fun c k hc hk => ?_⟩
  · obtain ⟨ms, clock, hb, F, hs, hD⟩ := hm
    obtain ⟨F', hmap, _⟩ := F.stay (R' := ptE) fun x _ z hz => ptR_ptE hz
    exact ⟨ms, clock, hb, F', hs, by rw [hmap]; exact hD⟩
  · obtain ⟨y, hy⟩ := mem_of_has hk
    obtain ⟨c, hc, e⟩ := h4 _ hy
    exact ⟨c, hc, (Prod.mk.inj e).1⟩
  · rw [Bool.eq_iff_iff]
    constructor
    · intro hh
      obtain ⟨y, hy⟩ := mem_of_has hh
      obtain ⟨c', hc', e⟩ := h4 _ hy
      rw [kyL_inj (Prod.mk.inj e).1]; exact hc'
    · intro hh
      rw [Bool.and_eq_true, Bool.not_eq_true'] at hh
      exact has_of_mem (h3 c hh.1 hh.2)
  · rw [Bool.and_eq_true, Bool.not_eq_true'] at hc
    exact WideAt.atKey_mem .nil (kyL_key c) h5 (h3 c hc.1 hc.2)
  · rw [Bool.and_eq_true] at hc
    obtain ⟨q1, q2, q3⟩ := h.ser c hc.1
    obtain ⟨s1, s2, s3⟩ := h.own c hc.1
    refine ⟨(hne _ s1 (tag q1 (fun _ _ e => by cases e))).trans q1, owns_same q2 (fun g hg => ?_), owns_same q3 (fun g hg => ?_)⟩
    · obtain ⟨cur, hcur⟩ := owns_tag q2 hg
      exact hne g (s2 g hg) (tag hcur (fun _ _ e => by cases e))
    · obtain ⟨cur, hcur⟩ := owns_tag q3 hg
      exact hne g (s3 g hg) (tag hcur (fun _ _ e => by cases e))
  · rw [Bool.and_eq_true] at hc; exact h.own c hc.1
  · rw [Bool.and_eq_true] at hc hk; exact h.apart c k hc.1 hk.1
/-- What a step of a range meets. -/
theorem OM.met {w : World} {S : Nat → Prop} {B b n : Nat} {D : DataW Unit} {X : Sers} {H : Lbs → Bool} {L : Lbs → List Smp} (h : OM w S B b n D X H L) {v : Value} {kl : Lit} {y : DataW Unit × List MemPlace} (hv : ptE v = some y) (hat : ∀ zd, D.atKey kl zd = y.1) :
    ∃ c, H c = true ∧ kl = kyL c ∧ v = .pointer (some ⟨X.G c, 0, none⟩) := by
  obtain ⟨c, hc, rfl⟩ := h.key kl (has_true_of_atKey hat)
  have := hat .nil
  rw [h.at_ c hc] at this
  obtain ⟨y1, y2⟩ := y
  have this : .lit (.int .i64 (X.G c)) = y1 := this
  subst this
  exact ⟨c, hc, rfl, ptE_lit hv⟩
/-- Of a row in some order those that came are done. -/
structure Done (D : DataW Unit) (H : Lbs → Bool) (left : Lit → Bool) (ls : List Lbs) : Prop where
  nodup : ls.Nodup
  iff : ∀ c, c ∈ ls ↔ H c = true ∧ left (kyL c) = false
theorem Done.start {w : World} {S : Nat → Prop} {B b n : Nat} {D : DataW Unit} {X : Sers} {H : Lbs → Bool} {L : Lbs → List Smp} (h : OM w S B b n D X H L) : Done D H (Maps.has D) [] :=
  ⟨List.Pairwise.nil, fun c => by rw [h.has c]; simp⟩
theorem Done.step {D : DataW Unit} {H : Lbs → Bool} {left : Lit → Bool} {ls : List Lbs} (h : Done D H left ls) {c : Lbs} (hc : H c = true) (hl : left (kyL c) = true) : Done D H (fun z => left z && !z.sameKey (kyL c)) (ls ++ [c]) := by
  have hn : c ∉ ls := fun hm => by rw [((h.iff c).1 hm).2] at hl; cases hl
  refine ⟨List.nodup_append.2 ⟨h.nodup, by simp, fun a ha b hb => ?_⟩, fun k => ?_⟩
  · rw [List.mem_singleton] at hb
    subst hb
    exact fun e => hn (e ▸ ha)
  · rw [List.mem_append, h.iff, List.mem_singleton]
    by_cases e : k = c
    · subst e
      rw [WideAt.sameKey_self (kyL_key k)]
      simp [hc]
    · rw [sameKey_ne (fun e2 => e (kyL_inj e2))]
      simp [e]
theorem Done.all {D : DataW Unit} {H : Lbs → Bool} {left : Lit → Bool} {ls : List Lbs} (h : Done D H left ls) (hl : ∀ kl, left kl = false) : ∀ c, c ∈ ls ↔ H c = true := fun c => by rw [h.iff, hl]; simp
end Go.Proofs.YtkgcbeokfilehaaGreatDoor

/-
  What comes in: rows, filters, acts, in memory.
-/
namespace Go.Proofs.YtkgcbeokfilehaaGreatDoor
open Go.RowKit Go.Sort Go.Maps

abbrev RowS := Lbs × Smp
/-- A row's five cells. -/
def RowAt (w : World) (B b o : Nat) (r : RowS) : Prop :=
  ∃ lv, w.cell? ⟨b, o, none⟩ = some lv ∧ RdL w B lv r.1 ∧ Nz lv ∧ Cell4 w b (o + 1) r.2
theorem RowAt.below {w w' : World} {B b o : Nat} {r : RowS} (h : RowAt w B b o r) (k : Below B w w') (hb : b < B) : RowAt w' B b o r := by
  obtain ⟨lv, h1, h2, h3, h4⟩ := h
  exact ⟨lv, (k.cell hb).trans h1, h2.below k, h3, h4.below k hb⟩
theorem RowAt.mono {w : World} {B B' b o : Nat} {r : RowS} (h : RowAt w B b o r) (k : B ≤ B') : RowAt w B' b o r := by
  obtain ⟨lv, h1, h2, h3, h4⟩ := h
  exact ⟨lv, h1, h2.mono k, h3, h4⟩
/-- A row of rows. -/
def RdW (w : World) (B : Nat) (v : Value) (l : List RowS) : Prop :=
  ∃ A c, v = .slice A l.length c ∧ l.length ≤ c ∧ (l = [] ∨ ∃ b o, A = some ⟨b, o, none⟩ ∧ b < B ∧ ∀ i (h : i < l.length), RowAt w B b (o + i * 5) l[i])
theorem RdW.below {w w' : World} {B : Nat} {v : Value} {l : List RowS} (h : RdW w B v l) (k : Below B w w') : RdW w' B v l := by
  obtain ⟨A, c, h1, h2, h3⟩ := h
  exact ⟨A, c, h1, h2, h3.imp id fun ⟨b, o, e, hb, hc⟩ => ⟨b, o, e, hb, fun i hi => (hc i hi).below k hb⟩⟩
theorem RdW.mono {w : World} {B B' : Nat} {v : Value} {l : List RowS} (h : RdW w B v l) (k : B ≤ B') : RdW w B' v l := by
  obtain ⟨A, c, h1, h2, h3⟩ := h
  exact ⟨A, c, h1, h2, h3.imp id fun ⟨b, o, e, hb, hc⟩ => ⟨b, o, e, Nat.lt_of_lt_of_le hb k, fun i hi => (hc i hi).mono k⟩⟩
theorem RdW.on {w w' : World} {v : Value} {l : List RowS} (h : RdW w w.heap.size v l) (k : Below w.heap.size w w') : RdW w' w'.heap.size v l := (h.below k).mono k.size
/-- A row as a value. -/
def vR (lv : Value) (s : Smp) : Value := .agg #[lv, .int .i64 s.1, .int .i64 s.2.1, .int .i64 s.2.2.1, .int .i64 s.2.2.2]
/-- A filter's four cells. -/
def encF (f : Fil) : List Value := [vT f.name, vT f.value, .bool f.pre, .bool f.neg]
def vF (f : Fil) : Value := .agg #[vT f.name, vT f.value, .bool f.pre, .bool f.neg]
def FilAt (w : World) (b o : Nat) (f : Fil) : Prop :=
  w.cell? ⟨b, o, none⟩ = some (vT f.name) ∧ w.cell? ⟨b, o + 1, none⟩ = some (vT f.value) ∧ w.cell? ⟨b, o + 2, none⟩ = some (.bool f.pre) ∧ w.cell? ⟨b, o + 3, none⟩ = some (.bool f.neg)
theorem FilAt.below {w w' : World} {B b o : Nat} {f : Fil} (h : FilAt w b o f) (k : Below B w w') (hb : b < B) : FilAt w' b o f :=
  ⟨(k.cell hb).trans h.1, (k.cell hb).trans h.2.1, (k.cell hb).trans h.2.2.1, (k.cell hb).trans h.2.2.2⟩
def RdF (w : World) (B : Nat) (v : Value) (l : List Fil) : Prop :=
  ∃ A c, v = .slice A l.length c ∧ l.length ≤ c ∧ (l = [] ∨ ∃ b o, A = some ⟨b, o, none⟩ ∧ b < B ∧ ∀ i (h : i < l.length), FilAt w b (o + i * 4) l[i])
theorem RdF.below {w w' : World} {B : Nat} {v : Value} {l : List Fil} (h : RdF w B v l) (k : Below B w w') : RdF w' B v l := by
  obtain ⟨A, c, h1, h2, h3⟩ := h
  exact ⟨A, c, h1, h2, h3.imp id fun ⟨b, o, e, hb, hc⟩ => ⟨b, o, e, hb, fun i hi => (hc i hi).below k hb⟩⟩
theorem RdF.mono {w : World} {B B' : Nat} {v : Value} {l : List Fil} (h : RdF w B v l) (k : B ≤ B') : RdF w B' v l := by
  obtain ⟨A, c, h1, h2, h3⟩ := h
  exact ⟨A, c, h1, h2, h3.imp id fun ⟨b, o, e, hb, hc⟩ => ⟨b, o, e, Nat.lt_of_lt_of_le hb k, hc⟩⟩
theorem RdF.on {w w' : World} {v : Value} {l : List Fil} (h : RdF w w.heap.size v l) (k : Below w.heap.size w w') : RdF w' w'.heap.size v l := (h.below k).mono k.size
theorem RdF.empty (w : World) (B : Nat) : RdF w B (.slice Option.none 0 0) [] := ⟨Option.none, 0, rfl, Nat.le_refl _, .inl rfl⟩
/-- Something that is done. -/
structure ActS where
  kind : Int
  rows : List RowS
  fs : List Fil
  now : Int
def ActAt (w : World) (B b o : Nat) (a : ActS) : Prop :=
  ∃ rv fv, w.cell? ⟨b, o, none⟩ = some (.int .i64 a.kind) ∧ w.cell? ⟨b, o + 1, none⟩ = some rv ∧ w.cell? ⟨b, o + 2, none⟩ = some fv ∧ w.cell? ⟨b, o + 3, none⟩ = some (.int .i64 a.now) ∧ RdW w B rv a.rows ∧ Nz rv ∧ RdF w B fv a.fs ∧ Nz fv
theorem ActAt.below {w w' : World} {B b o : Nat} {a : ActS} (h : ActAt w B b o a) (k : Below B w w') (hb : b < B) : ActAt w' B b o a := by
  obtain ⟨rv, fv, h1, h2, h3, h4, h5, h6, h7, h8⟩ := h
  exact ⟨rv, fv, (k.cell hb).trans h1, (k.cell hb).trans h2, (k.cell hb).trans h3, (k.cell hb).trans h4, h5.below k, h6, h7.below k, h8⟩
theorem ActAt.mono {w : World} {B B' b o : Nat} {a : ActS} (h : ActAt w B b o a) (k : B ≤ B') : ActAt w B' b o a := by
  obtain ⟨rv, fv, h1, h2, h3, h4, h5, h6, h7, h8⟩ := h
  exact ⟨rv, fv, h1, h2, h3, h4, h5.mono k, h6, h7.mono k, h8⟩
def RdA (w : World) (B : Nat) (v : Value) (l : List ActS) : Prop :=
  ∃ A c, v = .slice A l.length c ∧ l.length ≤ c ∧ (l = [] ∨ ∃ b o, A = some ⟨b, o, none⟩ ∧ b < B ∧ ∀ i (h : i < l.length), ActAt w B b (o + i * 4) l[i])
theorem RdA.below {w w' : World} {B : Nat} {v : Value} {l : List ActS} (h : RdA w B v l) (k : Below B w w') : RdA w' B v l := by
  obtain ⟨A, c, h1, h2, h3⟩ := h
  exact ⟨A, c, h1, h2, h3.imp id fun ⟨b, o, e, hb, hc⟩ => ⟨b, o, e, hb, fun i hi => (hc i hi).below k hb⟩⟩
theorem RdA.mono {w : World} {B B' : Nat} {v : Value} {l : List ActS} (h : RdA w B v l) (k : B ≤ B') : RdA w B' v l := by
  obtain ⟨A, c, h1, h2, h3⟩ := h
  exact ⟨A, c, h1, h2, h3.imp id fun ⟨b, o, e, hb, hc⟩ => ⟨b, o, e, Nat.lt_of_lt_of_le hb k, fun i hi => (hc i hi).mono k⟩⟩
theorem RdA.on {w w' : World} {v : Value} {l : List ActS} (h : RdA w w.heap.size v l) (k : Below w.heap.size w w') : RdA w' w'.heap.size v l := (h.below k).mono k.size
end Go.Proofs.YtkgcbeokfilehaaGreatDoor
