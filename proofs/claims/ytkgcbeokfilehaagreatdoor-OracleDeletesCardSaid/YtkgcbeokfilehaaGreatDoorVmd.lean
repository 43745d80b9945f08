/-
  An oracle in memory: its cells, its map, each series' cells, labels and samples.
-/
import Derived.Test.YtkgcbeokfilehaaGreatDoorVbd
import Derived.Test.YtkgcbeokfilehaaGreatDoorVfd
import Derived.Maps.OwnOps
import Derived.Maps.OwnSet
import Derived.Maps.Views
namespace Go.Proofs.YtkgcbeokfilehaaGreatDoor
open Go.RowKit Go.Sort Go.Maps

/-- Of the blocks that are there just those of S may turn. -/
structure Chg (S : Nat → Prop) (w w' : World) : Prop where
  os : w'.os = w.os
  tape : w'.tape = w.tape
  output : w'.output = w.output
  size : w.heap.size ≤ w'.heap.size
  block : ∀ k, k < w.heap.size → ¬ S k → w'.heap[k]? = w.heap[k]?
def NoB : Nat → Prop := fun _ => False
theorem Chg.refl (S : Nat → Prop) (w : World) : Chg S w w := ⟨rfl, rfl, rfl, Nat.le_refl _, fun _ _ _ => rfl⟩
theorem Chg.trans {S S' T : Nat → Prop} {a b c : World} (h : Chg S a b) (k : Chg S' b c) (h1 : ∀ x, S x → T x) (h2 : ∀ x, x < a.heap.size → S' x → T x) : Chg T a c :=
  ⟨k.os.trans h.os, k.tape.trans h.tape, k.output.trans h.output, Nat.le_trans h.size k.size, fun i hi hn =>
    (k.block i (Nat.lt_of_lt_of_le hi h.size) (fun e => hn (h2 i hi e))).trans (h.block i hi (fun e => hn (h1 i e)))⟩
theorem Chg.mono {S T : Nat → Prop} {a b : World} (h : Chg S a b) (k : ∀ x, x < a.heap.size → S x → T x) : Chg T a b :=
  ⟨h.os, h.tape, h.output, h.size, fun i hi hn => h.block i hi (fun e => hn (k i hi e))⟩
theorem Chg.of_below {w w' : World} (h : Below w.heap.size w w') : Chg NoB w w' := ⟨h.os, h.tape, h.output, h.size, fun i hi _ => h.block i hi⟩
theorem Chg.of_grown {w w' : World} {row : Option Nat} (h : w.grownBy w' row) : Chg (fun k => row = some k) w w' := ⟨h.os, h.tape, h.output, h.size, fun i hi hn => h.block i hi (fun e => hn e.symm)⟩
theorem Chg.below {S : Nat → Prop} {w w' : World} {B : Nat} (h : Chg S w w') (hB : B ≤ w.heap.size) (k : ∀ x, S x → B ≤ x) : Below B w w' :=
  ⟨h.os, h.tape, h.output, h.size, fun i hi => h.block i (Nat.lt_of_lt_of_le hi hB) (fun e => by have := k i e; omega)⟩
theorem Chg.none {w w' : World} (h : Chg NoB w w') : Below w.heap.size w w' := h.below (Nat.le_refl _) (fun _ e => e.elim)
theorem Chg.setCell (w : World) (a : Addr) (v : Value) : Chg (fun k => k = a.block) w (w.setCell a v) :=
  ⟨rfl, rfl, rfl, by simp [World.setCell], fun i _ hn => RowKit.Below.heap_setCell w a v i hn⟩
theorem Chg.alloc (w : World) (o : Obj) : Chg NoB w (w.alloc o) := (Chg.of_grown (World.grownBy_alloc w o Option.none)).mono fun _ _ h => by cases h
theorem owns_same {w w' : World} {B e s n : Nat} {v : Value} {xs : List Value} (h : w.ownsRow B e s v n xs) (k : ∀ g, v.ownBlock = some g → w'.heap[g]? = w.heap[g]?) : w'.ownsRow B e s v n xs := by
  obtain ⟨h1, h2⟩ := h
  refine ⟨h1, h2.imp id fun ⟨g, cap, cur, hv, hg, hh, r⟩ => ⟨g, cap, cur, hv, hg, ?_, r⟩⟩
  subst hv
  rw [k g rfl]; exact hh
theorem owns_tag {w : World} {B e s n : Nat} {v : Value} {xs : List Value} (h : w.ownsRow B e s v n xs) {g : Nat} (hg : v.ownBlock = some g) : ∃ cur, w.heap[g]? = some (.cells cur e (0, 0)) := by
  rcases h.2 with ⟨rfl, _⟩ | ⟨g', cap, cur, rfl, _, hh, _⟩
  · cases hg
  · injection hg with e1
    have e1 : g' = g := e1
    subst e1
    exact ⟨cur, hh⟩
/-- A pointer to a block's cells as a datum. -/
def ptE : Value → Option (DataW Unit × List MemPlace)
  | .pointer none => some (.nil, [])
  | .pointer (some ⟨g, 0, none⟩) => some (.lit (.int .i64 g), [])
  | _ => none
theorem ptE_form {v : Value} {y : DataW Unit × List MemPlace} (h : ptE v = some y) : (v = .pointer none ∧ y = (.nil, [])) ∨ ∃ g : Nat, v = .pointer (some ⟨g, 0, none⟩) ∧ y = (.lit (.int .i64 g), []) := by
  unfold ptE at h
  split at h
  · exact .inl ⟨rfl, (Option.some.inj h).symm⟩
  · exact .inr ⟨_, rfl, (Option.some.inj h).symm⟩
  · cases h
theorem ptE_lit {v : Value} {g : Nat} {p : List MemPlace} (h : ptE v = some (.lit (.int .i64 g), p)) : v = .pointer (some ⟨g, 0, none⟩) := by
  rcases ptE_form h with ⟨_, e⟩ | ⟨g', rfl, e⟩
  · have := (Prod.mk.inj e).1; cases this
  · have := (Prod.mk.inj e).1
    injection this with this
    injection this with _ this
    have : g = g' := by omega
    rw [this]
/-- A key. -/
def kyL (c : Lbs) : Lit := .string (marL c)
theorem kyL_key (c : Lbs) : WideAt.IsKeyLit (kyL c) := trivial
theorem kyL_inj {c k : Lbs} (h : kyL c = kyL k) : c = k := by
  unfold kyL at h
  injection h with h
  exact marL_inj h
/-- The series' cells, as they stand. -/
structure Sers where
  G : Lbs → Nat
  LV : Lbs → Value
  SV : Lbs → Value
/-- Block b is a map of series: H: which are there; L: their samples. All that it owns lies in S, from block B on. -/
structure OM (w : World) (S : Nat → Prop) (B b n : Nat) (D : DataW Unit) (X : Sers) (H : Lbs → Bool) (L : Lbs → List Smp) : Prop where
  map : w.ownsMap Tryz.prog 9 ptE b n D
  lt : ∀ k, S k → B ≤ k ∧ k < w.heap.size
  sb : S b
  isMap : IsMap D
  key : ∀ kl, Maps.has D kl = true → ∃ c, H c = true ∧ kl = kyL c
  has : ∀ c, Maps.has D (kyL c) = H c
  at_ : ∀ c, H c = true → D.atKey (kyL c) .nil = .lit (.int .i64 (X.G c))
  ser : ∀ c, H c = true → w.heap[X.G c]? = some (.cells #[X.LV c, X.SV c] 90 (0, 0)) ∧ OwnL w B (X.LV c) c ∧ Own w B 54 (X.SV c) (L c)
  own : ∀ c, H c = true → S (X.G c) ∧ (∀ g, (X.LV c).ownBlock = some g → S g) ∧ ∀ g, (X.SV c).ownBlock = some g → S g
  apart : ∀ c k, H c = true → H k = true → c ≠ k → X.G c ≠ X.G k ∧ ((X.SV c).ownBlock = none ∨ (X.SV c).ownBlock ≠ (X.SV k).ownBlock)
theorem lit_ty (w : World) {g : Nat} {a b : Array Value} {t u : TypeId} (h1 : w.heap[g]? = some (.cells a t (0, 0))) (h2 : w.heap[g]? = some (.cells b u (0, 0))) : t = u := by
  rw [h1] at h2; injection h2 with h2; injection h2
/-- What turns lies elsewhere. -/
theorem OM.kept {w w' : World} {S T : Nat → Prop} {B b n : Nat} {D : DataW Unit} {X : Sers} {H : Lbs → Bool} {L : Lbs → List Smp} (h : OM w S B b n D X H L) (k : Chg T w w') (hT : ∀ x, S x → ¬ T x) : OM w' S B b n D X H L := by
  have hk : ∀ x, S x → w'.heap[x]? = w.heap[x]? := fun x hx => k.block x (h.lt x hx).2 (hT x hx)
  refine ⟨?_, fun x hx => ⟨(h.lt x hx).1, Nat.lt_of_lt_of_le (h.lt x hx).2 k.size⟩, h.sb, h.isMap, h.key, h.has, h.at_, fun c hc => ?_, h.own, h.apart⟩
  · obtain ⟨es, clock, hb, r⟩ := h.map
    exact ⟨es, clock, (hk b h.sb).trans hb, r⟩
  · obtain ⟨h1, h2, h3⟩ := h.ser c hc
    obtain ⟨s1, s2, s3⟩ := h.own c hc
    exact ⟨(hk _ s1).trans h1, owns_same h2 (fun g hg => hk g (s2 g hg)), owns_same h3 (fun g hg => hk g (s3 g hg))⟩
theorem OM.made (w : World) : OM (w.alloc (.map #[] 0)) (fun k => k = w.heap.size) w.heap.size w.heap.size 0 (.map []) ⟨fun _ => 0, fun _ => .slice none 0 0, fun _ => .slice none 0 0⟩ (fun _ => false) (fun _ => []) :=
  ⟨World.ownsMap_made w _ _ _, fun k hk => by subst hk; simp, rfl, isMap_empty, fun kl h => (by cases h), fun _ => rfl, fun _ h => (by cases h), fun _ h => (by cases h), fun _ h => (by cases h), fun _ _ h => (by cases h)⟩
/-- A new series: its block g, of labels lv. -/
theorem OM.put {w w2 : World} {S : Nat → Prop} {B b n g : Nat} {D : DataW Unit} {X : Sers} {H : Lbs → Bool} {L : Lbs → List Smp} (h : OM w S B b n D X H L) {c : Lbs} {lv sv : Value} (hc : H c = false) (hg : ¬ S g) (hgB : B ≤ g) (hsv : Own w B 54 sv (L c)) (hsS : ∀ k, sv.ownBlock = some k → ¬ S k)
    (hser : w.heap[g]? = some (.cells #[lv, sv] 90 (0, 0))) (hlv : OwnL w B lv c)
    (hm : w2.ownsMap Tryz.prog 9 ptE b (n + 1) (D.put (kyL c) (.lit (.int .i64 g)))) (hg2 : w.grownBy w2 (some b)) :
    OM w2 (fun k => S k ∨ k = g ∨ lv.ownBlock = some k ∨ sv.ownBlock = some k) B b (n + 1) (D.put (kyL c) (.lit (.int .i64 g))) ⟨fun x => if x = c then g else X.G x, fun x => if x = c then lv else X.LV x, fun x => if x = c then sv else X.SV x⟩ (fun x => decide (x = c) || H x) L := by
  have hb := h.map.lt
  have hgl : g < w.heap.size := (Array.getElem?_eq_some_iff.1 hser).1
  have hgb : g ≠ b := fun e => hg (e ▸ h.sb)
  have hmp : ∃ es clock, w.heap[b]? = some (.map es clock) := by
    obtain ⟨es, clock, hb, _⟩ := h.map
    exact ⟨es, clock, hb⟩
  have notb : ∀ {x e s m : Nat} {v : Value} {xs : List Value}, w.ownsRow B e s v m xs → v.ownBlock = some x → x ≠ b := by
    intro x e s m v xs ho hx e1
    subst e1
    obtain ⟨cur, hcur⟩ := owns_tag ho hx
    obtain ⟨es, clock, hm⟩ := hmp
    rw [hm] at hcur; cases hcur
  have hblk : ∀ x, x < w.heap.size → x ≠ b → w2.heap[x]? = w.heap[x]? := fun x hx hne => hg2.block x hx (fun e => hne (by injection e))
  have hsame : (D.put (kyL c) (.lit (.int .i64 g))).atKey (kyL c) .nil = .lit (.int .i64 g) := atKey_put_same h.isMap (kyL_key c) _ _
  have hoth : ∀ x, x ≠ c → (D.put (kyL c) (.lit (.int .i64 g))).atKey (kyL x) .nil = D.atKey (kyL x) .nil := fun x hx => atKey_put_other (fun e => hx (kyL_inj e)) _ _
  have hin : ∀ x, (decide (x = c) || H x) = true → x ≠ c → H x = true := fun x hx hne => by simpa [hne] using hx
  refine ⟨hm, ?_, .inl h.sb, h.isMap.put _ _, fun kl hk => ?_, fun x => ?_, fun x hx => ?_, fun x hx => ?_, fun x hx => ?_, fun x k hx hk hne => ?_⟩
  · rintro k (hk | rfl | hk | hk)
    · exact ⟨(h.lt k hk).1, Nat.lt_of_lt_of_le (h.lt k hk).2 hg2.size⟩
    · exact ⟨hgB, Nat.lt_of_lt_of_le hgl hg2.size⟩
    · have := World.ownsRow.lt hlv k hk
      exact ⟨this.1, Nat.lt_of_lt_of_le this.2 hg2.size⟩
    · have := World.ownsRow.lt hsv k hk
      exact ⟨this.1, Nat.lt_of_lt_of_le this.2 hg2.size⟩
  · by_cases e : kl = kyL c
    · exact ⟨c, by simp, e⟩
    · rw [has_put_other e] at hk
      obtain ⟨x, hx, rfl⟩ := h.key kl hk
      exact ⟨x, by simp [hx], rfl⟩
  · by_cases hx : x = c
    · subst hx
      rw [has_put_same h.isMap (kyL_key x)]; simp
    · rw [has_put_other (fun e => hx (kyL_inj e)), h.has x]; simp [hx]
  · by_cases hxc : x = c
    · subst hxc
      rw [hsame]; simp
    · rw [hoth x hxc, h.at_ x (hin x hx hxc)]; simp [hxc]
  · by_cases hxc : x = c
    · subst hxc
      simp only [if_true]
      exact ⟨(hblk g hgl hgb).trans hser, owns_same hlv (fun y hy => hblk y (World.ownsRow.lt hlv y hy).2 (notb hlv hy)), owns_same hsv (fun y hy => hblk y (World.ownsRow.lt hsv y hy).2 (notb hsv hy))⟩
    · simp only [hxc, if_false]
      obtain ⟨h1, h2, h3⟩ := h.ser x (hin x hx hxc)
      refine ⟨(hblk _ (Array.getElem?_eq_some_iff.1 h1).1 (fun e => ?_)).trans h1, owns_same h2 (fun y hy => hblk y (World.ownsRow.lt h2 y hy).2 (notb h2 hy)), owns_same h3 (fun y hy => hblk y (World.ownsRow.lt h3 y hy).2 (notb h3 hy))⟩
      obtain ⟨es, clock, hm⟩ := hmp
      rw [e, hm] at h1; cases h1
  · by_cases hxc : x = c
    · subst hxc
      simp only [if_true]
      exact ⟨.inr (.inl (by first | rfl | trivial)), fun y hy => .inr (.inr (.inl hy)), fun y hy => .inr (.inr (.inr hy))⟩
    · simp only [hxc, if_false]
      obtain ⟨s1, s2, s3⟩ := h.own x (hin x hx hxc)
      exact ⟨.inl s1, fun y hy => .inl (s2 y hy), fun y hy => .inl (s3 y hy)⟩
  · by_cases hxc : x = c
    · subst hxc
      have hkc : k ≠ x := Ne.symm hne
      simp only [if_true, hkc, if_false]
      refine ⟨fun e => hg (e ▸ (h.own k (hin k hk hkc)).1), ?_⟩
      cases hsb : sv.ownBlock with
      | none => exact .inl (by first | rfl | trivial)
      | some y => exact .inr (fun e => hsS y hsb ((h.own k (hin k hk hkc)).2.2 y e.symm))
    · by_cases hkc : k = c
      · subst hkc
        simp only [if_true, hxc, if_false]
        refine ⟨fun e => hg (e ▸ (h.own x (hin x hx hxc)).1), ?_⟩
        cases hsb : (X.SV x).ownBlock with
        | none => exact .inl (by first | rfl | trivial)
        | some y => exact .inr (fun e => hsS y e.symm ((h.own x (hin x hx hxc)).2.2 y hsb))
      · simp only [hxc, hkc, if_false]
        exact h.apart x k (hin x hx hxc) (hin k hk hkc) hne
/-- One more sample of a series. -/
theorem OM.push {w w1 w2 : World} {S : Nat → Prop} {B b n : Nat} {D : DataW Unit} {X : Sers} {H : Lbs → Bool} {L : Lbs → List Smp} (h : OM w S B b n D X H L) {c : Lbs} {v' : Value} {l : List Smp} (hc : H c = true)
    (hg : w.grownBy w1 (X.SV c).ownBlock) (ho : Own w1 B 54 v' l) (hloc : v'.ownBlock = (X.SV c).ownBlock ∨ ∃ g, v'.ownBlock = some g ∧ w.heap.size ≤ g)
    (h2 : w2 = w1.setCell ⟨X.G c, 1, none⟩ v') :
    OM w2 (fun k => S k ∨ v'.ownBlock = some k) B b n D ⟨X.G, X.LV, fun x => if x = c then v' else X.SV x⟩ H (fun x => if x = c then l else L x) := by
  obtain ⟨c1, c2, c3⟩ := h.ser c hc
  obtain ⟨o1, o2, o3⟩ := h.own c hc
  have hgl : X.G c < w.heap.size := (Array.getElem?_eq_some_iff.1 c1).1
  have hgs : (X.SV c).ownBlock ≠ some (X.G c) := by
    intro e
    obtain ⟨cur, hcur⟩ := owns_tag c3 e
    exact absurd (lit_ty w c1 hcur) (by decide)
  have c1' : w1.heap[X.G c]? = some (.cells #[X.LV c, X.SV c] 90 (0, 0)) := (hg.block _ hgl (Ne.symm hgs)).trans c1
  have hS2 : w1.heap.size ≤ w2.heap.size := by rw [h2]; exact (Chg.setCell w1 _ v').size
  have hb2 : ∀ x, x ≠ X.G c → w2.heap[x]? = w1.heap[x]? := fun x hx => by rw [h2]; exact RowKit.Below.heap_setCell w1 _ v' x hx
  have c1'' : w2.heap[X.G c]? = some (.cells #[X.LV c, v'] 90 (0, 0)) := by
    rw [h2]
    have := heap_setCell_same w1 (X.G c) 1 _ _ v' c1'
    simpa using this
  have hv' : v'.ownBlock ≠ some (X.G c) := by
    rcases hloc with e | ⟨g, e, hge⟩
    · rw [e]; exact hgs
    · rw [e]; intro e; injection e with e; omega
  have hne : ∀ x, x < w.heap.size → some x ≠ (X.SV c).ownBlock → x ≠ X.G c → w2.heap[x]? = w.heap[x]? := fun x hx h1 h2 => (hb2 x h2).trans (hg.block x hx h1)
  have tagS : ∀ {x : Nat} {o : Obj}, w.heap[x]? = some o → (∀ cur, o ≠ .cells cur 54 (0, 0)) → some x ≠ (X.SV c).ownBlock := by
    intro x o hx ho e
    obtain ⟨cur, hcur⟩ := owns_tag c3 e.symm
    rw [hx] at hcur
    injection hcur with hcur
    exact ho cur hcur
  have tagG : ∀ {x : Nat} {o : Obj}, w.heap[x]? = some o → (∀ cur, o ≠ .cells cur 90 (0, 0)) → x ≠ X.G c := by
    intro x o hx ho e
    rw [e, c1] at hx
    injection hx with hx
    exact ho _ hx.symm
  refine ⟨?_, ?_, .inl h.sb, h.isMap, h.key, h.has, h.at_, fun x hx => ?_, fun x hx => ?_, fun x k hx hk hxk => ?_⟩
  · obtain ⟨es, clock, hb, r⟩ := h.map
    exact ⟨es, clock, (hne b h.map.lt (tagS hb (fun _ e => by cases e)) (tagG hb (fun _ e => by cases e))).trans hb, r⟩
  · rintro k (hk | hk)
    · exact ⟨(h.lt k hk).1, Nat.lt_of_lt_of_le (h.lt k hk).2 (Nat.le_trans hg.size hS2)⟩
    · have := World.ownsRow.lt ho k hk
      exact ⟨this.1, Nat.lt_of_lt_of_le this.2 hS2⟩
  · by_cases hxc : x = c
    · subst hxc
      simp only [if_true]
      refine ⟨c1'', owns_same c2 (fun y hy => ?_), owns_same ho (fun y hy => hb2 y (fun e => hv' (e ▸ hy)))⟩
      obtain ⟨cur, hcur⟩ := owns_tag c2 hy
      exact hne y (World.ownsRow.lt c2 y hy).2 (tagS hcur (fun _ e => by cases e)) (tagG hcur (fun _ e => by cases e))
    · simp only [hxc, if_false]
      obtain ⟨h1, h3, h4⟩ := h.ser x hx
      have hap := h.apart x c hx hc hxc
      refine ⟨(hne _ (Array.getElem?_eq_some_iff.1 h1).1 (tagS h1 (fun _ e => by cases e)) hap.1).trans h1, owns_same h3 (fun y hy => ?_), owns_same h4 (fun y hy => ?_)⟩
      · obtain ⟨cur, hcur⟩ := owns_tag h3 hy
        exact hne y (World.ownsRow.lt h3 y hy).2 (tagS hcur (fun _ e => by cases e)) (tagG hcur (fun _ e => by cases e))
      · obtain ⟨cur, hcur⟩ := owns_tag h4 hy
        refine hne y (World.ownsRow.lt h4 y hy).2 (fun e => ?_) (tagG hcur (fun _ e => by cases e))
        rcases hap.2 with e2 | e2
        · rw [e2] at hy; cases hy
        · exact e2 (by rw [hy, ← e])
  · obtain ⟨s1, s2, s3⟩ := h.own x hx
    refine ⟨.inl s1, fun y hy => .inl (s2 y hy), fun y hy => ?_⟩
    by_cases hxc : x = c
    · subst hxc
      simp only [if_true] at hy
      exact .inr hy
    · simp only [hxc, if_false] at hy
      exact .inl (s3 y hy)
  · have hap := h.apart x k hx hk hxk
    refine ⟨hap.1, ?_⟩
    have old : ∀ y, H y = true → ∀ g, w.heap.size ≤ g → (X.SV y).ownBlock ≠ some g := fun y hy g hge e => by
      have := (World.ownsRow.lt (h.ser y hy).2.2 _ e).2
      omega
    by_cases hxc : x = c
    · subst hxc
      have hkc : k ≠ x := Ne.symm hxk
      simp only [if_true, hkc, if_false]
      rcases hloc with e | ⟨g, e, hge⟩
      · rw [e]; exact hap.2
      · rw [e]; exact .inr (fun e => old k hk g hge e.symm)
    · by_cases hkc : k = c
      · subst hkc
        simp only [if_true, hxc, if_false]
        rcases hloc with e | ⟨g, e, hge⟩
        · rw [e]; exact hap.2
        · rw [e]; exact .inr (old x hx g hge)
      · simp only [hxc, hkc, if_false]
        exact hap.2
/-- An oracle: every interval, how long it keeps, how late it is, what it was told. -/
structure Orc (w : World) (S : Nat → Prop) (B o b : Nat) (every keep now : Int) (X : Sers) (R : Told) : Prop where
  cell : w.heap[o]? = some (.cells #[.int .i64 every, .int .i64 keep, .int .i64 now, .map (some b)] 81 (0, 0))
  so : S o
  bd : 1 ≤ keep ∧ keep ≤ 1099511627776 ∧ 0 ≤ now ∧ now ≤ 1099511627776
  om : ∃ n D, n ≤ R.length ∧ OM w S B b n D X (hasR R) (smpOf R)
theorem Orc.kept {w w' : World} {S T : Nat → Prop} {B o b : Nat} {every keep now : Int} {X : Sers} {R : Told} (h : Orc w S B o b every keep now X R) (k : Chg T w w') (hT : ∀ x, S x → ¬ T x) : Orc w' S B o b every keep now X R := by
  obtain ⟨n, D, hn, h3⟩ := h.om
  exact ⟨(k.block o (h3.lt o h.so).2 (hT o h.so)).trans h.cell, h.so, h.bd, n, D, hn, h3.kept k hT⟩
theorem Orc.on {w w' : World} {S : Nat → Prop} {B o b : Nat} {every keep now : Int} {X : Sers} {R : Told} (h : Orc w S B o b every keep now X R) (k : Below w.heap.size w w') : Orc w' S B o b every keep now X R := h.kept (.of_below k) (fun _ _ e => e)
theorem Orc.lt {w : World} {S : Nat → Prop} {B o b : Nat} {every keep now : Int} {X : Sers} {R : Told} (h : Orc w S B o b every keep now X R) {k : Nat} (hk : S k) : B ≤ k ∧ k < w.heap.size := by
  obtain ⟨n, D, _, h3⟩ := h.om
  exact h3.lt k hk
/-- The clock is set. -/
theorem Orc.clock {w : World} {S : Nat → Prop} {B o b : Nat} {every keep now : Int} {X : Sers} {R : Told} (h : Orc w S B o b every keep now X R) (now' : Int) (hn0 : 0 ≤ now' ∧ now' ≤ 1099511627776) : Orc (w.setCell ⟨o, 2, none⟩ (.int .i64 now')) S B o b every keep now' X R := by
  obtain ⟨n, D, hn, h3⟩ := h.om
  have hb : ∀ x, x ≠ o → (w.setCell ⟨o, 2, none⟩ (.int .i64 now')).heap[x]? = w.heap[x]? := fun x hx => RowKit.Below.heap_setCell w ⟨o, 2, none⟩ (.int .i64 now') x hx
  have hco := h.cell
  have tag : ∀ {x : Nat} {ob : Obj}, w.heap[x]? = some ob → (∀ cur, ob ≠ .cells cur 81 (0, 0)) → x ≠ o := by
    intro x ob hx ho e
    rw [e, hco] at hx
    injection hx with hx
    exact ho _ hx.symm
  refine ⟨?_, h.so, ⟨h.bd.1, h.bd.2.1, hn0⟩, n, D, hn, ?_, fun x hx => ⟨(h3.lt x hx).1, Nat.lt_of_lt_of_le (h3.lt x hx).2 (Chg.setCell w _ _).size⟩, h3.sb, h3.isMap, h3.key, h3.has, h3.at_, fun c hc => ?_, h3.own, h3.apart⟩
  · have := heap_setCell_same w o 2 _ _ (.int .i64 now') hco
    simpa using this
  · obtain ⟨es, clock, hb', r⟩ := h3.map
    exact ⟨es, clock, (hb b (tag hb' (fun _ e => by cases e))).trans hb', r⟩
  · obtain ⟨h1, h2, h4⟩ := h3.ser c hc
    refine ⟨(hb _ (tag h1 (fun _ e => by cases e))).trans h1, owns_same h2 (fun g hg => ?_), owns_same h4 (fun g hg => ?_)⟩
    · obtain ⟨cur, hcur⟩ := owns_tag h2 hg
      exact hb g (tag hcur (fun _ e => by cases e))
    · obtain ⟨cur, hcur⟩ := owns_tag h4 hg
      exact hb g (tag hcur (fun _ e => by cases e))
end Go.Proofs.YtkgcbeokfilehaaGreatDoor
