/-
  An oracle that a law made itself, step by step.
-/
import Derived.Test.YtkgcbeokfilehaaGreatDoorWhk
import Derived.Test.YtkgcbeokfilehaaGreatDoorWck
import Derived.Test.YtkgcbeokfilehaaGreatDoorWfk
namespace Go.Proofs.YtkgcbeokfilehaaGreatDoor
open Go.RowKit Go.Sort Go.Maps
/-- An oracle all of which lies in blocks from W on. -/
def Liv (W w : World) (o : Nat) (every keep now : Int) (R : Told) : Prop := ∃ S B b X, Orc w S B o b every keep now X R ∧ S b ∧ W.heap.size ≤ B
theorem Liv.on {W w w' : World} {o : Nat} {every keep now : Int} {R : Told} (h : Liv W w o every keep now R) (k : Below w.heap.size w w') : Liv W w' o every keep now R := by
  obtain ⟨S, B, b, X, h1, h2, h3⟩ := h
  exact ⟨S, B, b, X, h1.on k, h2, h3⟩
theorem Liv.bd {W w : World} {o : Nat} {every keep now : Int} {R : Told} (h : Liv W w o every keep now R) : 1 ≤ keep ∧ keep ≤ 1099511627776 ∧ 0 ≤ now ∧ now ≤ 1099511627776 := by
  obtain ⟨S, B, b, X, h1, h2, h3⟩ := h
  exact h1.bd
theorem Chg.far {W w w' : World} {S : Nat → Prop} {B : Nat} (h : Chg S w w') (hS : ∀ k, S k → B ≤ k) (hB : W.heap.size ≤ B) (hW : W.heap.size ≤ w.heap.size) : Below W.heap.size w w' :=
  h.below hW (fun k hk => Nat.le_trans hB (hS k hk))
theorem rdWT_low {W w : World} {S : Nat → Prop} {B : Nat} {v : Value} {l : List RowS} (h : RdW w W.heap.size v l) (hS : ∀ k, S k → B ≤ k) (hB : W.heap.size ≤ B) (hW : W.heap.size ≤ w.heap.size) : RdWT w S v l := fun w' hk => by
  have := hk.far hS hB hW
  exact (h.below this).mono (Nat.le_trans hW hk.size)
theorem rdFT_low {W w : World} {S : Nat → Prop} {B : Nat} {v : Value} {l : List Fil} (h : RdF w W.heap.size v l) (hS : ∀ k, S k → B ≤ k) (hB : W.heap.size ≤ B) (hW : W.heap.size ≤ w.heap.size) : RdFT w S v l := fun w' hk => by
  have := hk.far hS hB hW
  exact (h.below this).mono (Nat.le_trans hW hk.size)
theorem liv_now {W w : World} {o : Nat} {every keep now : Int} {R : Told} (h : Liv W w o every keep now R) :
    Calls Tryz.prog 18 #[.pointer (some ⟨o, 0, none⟩)] w fun e w' => e = .returned (.int .i64 now) ∧ w' = w := by
  obtain ⟨S, B, b, X, h1, h2, h3⟩ := h
  exact now_walk h1
theorem row_nz {w : World} {B e s n : Nat} {v : Value} {xs : List Value} (h : w.ownsRow B e s v n xs) : Nz v := by
  rcases h.2 with ⟨rfl, _⟩ | ⟨g, cap, cur, rfl, _⟩
  · intro n c h; cases h; rfl
  · intro n c h; cases h
theorem liv_search {W w : World} {o : Nat} {every keep now : Int} {R : Told} (h : Liv W w o every keep now R) (T : Tabs w) {fv : Value} {fs : List Fil} (hF : RdF w w.heap.size fv fs) (f t : Int) (hRl : R.length ≤ 60000) (hfl : FewL R) (hq : checkF fs = 0) :
    Calls Tryz.prog 14 #[.pointer (some ⟨o, 0, none⟩), fv, .int .i64 f, .int .i64 t] w fun e w' =>
      ∃ v, e = .returned (.tuple #[v, .int .i64 0]) ∧ RdX w' w'.heap.size v (tellS every (fromS f now keep) t fs R) ∧ Nz v ∧ Below w.heap.size w w' := by
  obtain ⟨S, B, b, X, h1, h2, h3⟩ := h
  refine (search_walk h1 T fv fs hF f t hRl hfl hq).mono ?_
  rintro e w' ⟨v, xs, k1, k2, k3, k4⟩
  exact ⟨v, k1, k3 ▸ k2.rdX, row_nz k2.row, k4⟩
/-- A row of series of one's own, cell by cell. -/
theorem OutV.cells {w : World} {B : Nat} {v : Value} {xs : List SerV} (h : OutV w B v xs) : ∃ A c, v = .slice A xs.length c ∧ xs.length ≤ c ∧ (xs = [] ∨ ∃ g, A = some ⟨g, 0, none⟩ ∧ g < w.heap.size ∧ ∀ i (hi : i < xs.length), w.cell? ⟨g, 0 + i * 2, none⟩ = some xs[i].1 ∧ w.cell? ⟨g, 0 + i * 2 + 1, none⟩ = some xs[i].2.1) := by
  rcases h.row.2 with ⟨rfl, hn⟩ | ⟨g, cap, cur, rfl, hb, hc, h1, h2, h3, h4⟩
  · have : xs = [] := List.eq_nil_of_length_eq_zero hn
    subst this
    exact ⟨none, 0, rfl, Nat.zero_le _, .inl rfl⟩
  · refine ⟨some ⟨g, 0, none⟩, cap, rfl, h1, .inr ⟨g, rfl, (Array.getElem?_eq_some_iff.1 hc).1, fun i hi => ?_⟩⟩
    have hcell : ∀ t (ht : t < 2), w.cell? ⟨g, 0 + i * 2 + t, none⟩ = (serC xs[i])[t]? := by
      intro t ht
      have e1 : w.cell? ⟨g, 0 + i * 2 + t, none⟩ = cur[0 + i * 2 + t]? := by simp [World.cell?, hc]
      have e2 : (cur.toList.take (xs.length * 2))[i * 2 + t]? = cur.toList[i * 2 + t]? := List.getElem?_take_of_lt (by omega)
      rw [e1, Nat.zero_add, ← flatV_at xs i t hi ht, ← h4, e2, Array.getElem?_toList]
    exact ⟨hcell 0 (by omega), hcell 1 (by omega)⟩
theorem liv_names {W w : World} {o : Nat} {every keep now : Int} {R : Told} (h : Liv W w o every keep now R) (hRl : R.length ≤ 60000) (hfl : FewL R) :
    Calls Tryz.prog 17 #[.pointer (some ⟨o, 0, none⟩)] w fun e w' => ∃ v, e = .returned v ∧ RdT w' w'.heap.size v (namesS R) ∧ Below w.heap.size w w' := by
  obtain ⟨S, B, b, X, h1, h2, h3⟩ := h
  exact names_walk h1 hRl hfl
theorem liv_values {W w : World} {o : Nat} {every keep now : Int} {R : Told} (h : Liv W w o every keep now R) (nm : Str) (hRl : R.length ≤ 60000) (hfl : FewL R) :
    Calls Tryz.prog 19 #[.pointer (some ⟨o, 0, none⟩), vT nm] w fun e w' => ∃ v, e = .returned v ∧ RdT w' w'.heap.size v (valuesS R nm) ∧ Below w.heap.size w w' := by
  obtain ⟨S, B, b, X, h1, h2, h3⟩ := h
  exact values_walk h1 nm hRl hfl
theorem liv_takes {W w : World} {o : Nat} {every keep now : Int} {R : Told} (h : Liv W w o every keep now R) (lv : Value) (l : Lbs) (s : Smp) (hR : RdL w w.heap.size lv l) (hz : Nz lv) :
    Calls Tryz.prog 22 #[.pointer (some ⟨o, 0, none⟩), vR lv s] w fun e w' => e = .returned (.bool (takesR keep now (l, s))) ∧ Below w.heap.size w w' := by
  obtain ⟨S, B, b, X, h1, h2, h3⟩ := h
  exact takes_walk h1 lv l s hR hz
theorem canonL_length (l : Lbs) : (canonL l).length = l.length := by
  unfold canonL
  induction l with
  | nil => rfl
  | cons a l ih => rw [List.foldr_cons, (insN_perm a _).length_eq, List.length_cons, ih, List.length_cons]
theorem mayL_len {l : Lbs} (h : mayL l = true) : l.length ≤ 1000 := by
  have := mayL_parts h
  omega
theorem FewL.add {keep now : Int} {R : Told} {l : List RowS} (h : FewL R) (hl : ∀ r ∈ l, r.1.length ≤ 8) : FewL (addR keep now R l) := by
  intro x hx
  rcases mem_addR.1 hx with hx | ⟨r, hr, _, rfl⟩
  · exact h x hx
  · show (canonL r.1).length ≤ _
    rw [canonL_length]; have := hl r hr; omega
theorem FewL.nil : FewL [] := fun _ h => absurd h List.not_mem_nil
theorem namesS_few {R : Told} (hR : R.length ≤ 60000) (hf : FewL R) : (namesS R).length ≤ 60000000 := by
  have h1 : (namesS R).length ≤ ((labsOf R).flatMap (fun c => c.map (·.1))).length := by
    have : ∀ l : List Str, (textsS l).length ≤ l.length := fun l => by
      have h := (upT_nodup (texts_up l)).length_le_of_subset (fun x hx => mem_texts.1 hx)
      exact h
    exact this _
  have h2 : ∀ ls : List Lbs, (∀ c ∈ ls, c.length ≤ 1000) → (ls.flatMap (fun c => c.map (·.1))).length ≤ 1000 * ls.length := by
    intro ls
    induction ls with
    | nil => intro _; simp
    | cons c ls ih =>
      intro h
      have := ih (fun x hx => h x (List.mem_cons_of_mem _ hx))
      have := h c List.mem_cons_self
      rw [List.flatMap_cons, List.length_append, List.length_map, List.length_cons]; omega
  have h3 := h2 (labsOf R) (fun c hc => hf.at_ (mem_labs.1 hc))
  have := labs_length R
  omega
/-- What is told is few. -/
theorem tellS_few {d f t : Int} {fs : List Fil} {R : Told} (hR : R.length ≤ 60000) (hf : FewL R) : FewX (tellS d f t fs R) := by
  refine ⟨?_, fun x hx => ?_⟩
  · unfold tellS
    rw [List.length_map]
    have := List.length_filter_le (fun c => allF fs c && decide (tellC d f t R c ≠ [])) (labsOf R)
    have := labs_length R
    omega
  · unfold tellS at hx
    obtain ⟨c, hc, rfl⟩ := List.mem_map.1 hx
    have h1 := hf.at_ (mem_labs.1 (List.mem_filter.1 hc).1)
    refine ⟨by show c.length ≤ _; omega, ?_⟩
    show (tellC d f t R c).length ≤ _
    unfold tellC
    have h2 := List.length_filter_le (fun s => !outS f t s) (dedupS d (smpOf R c))
    have h3 := dedupS_length d (smpOf R c)
    have h4 := smpOf_length R c
    have : (delS f t (dedupS d (smpOf R c))).length ≤ (dedupS d (smpOf R c)).length := List.length_filter_le _ _
    omega
end Go.Proofs.YtkgcbeokfilehaaGreatDoor

/-
  Two oracles that a law made itself: neither turns the other.
-/
namespace Go.Proofs.YtkgcbeokfilehaaGreatDoor
open Go.RowKit Go.Sort Go.Maps
def Two (W w : World) (o1 o2 : Nat) (every keep n1 n2 : Int) (R1 R2 : Told) : Prop :=
  ∃ S1 B1 b1 X1 S2 B2 b2 X2, Orc w S1 B1 o1 b1 every keep n1 X1 R1 ∧ S1 b1 ∧ W.heap.size ≤ B1 ∧ Orc w S2 B2 o2 b2 every keep n2 X2 R2 ∧ S2 b2 ∧ W.heap.size ≤ B2 ∧ ∀ k, S1 k → ¬ S2 k
section
variable {W w : World} {o1 o2 : Nat} {every keep n1 n2 : Int} {R1 R2 : Told}
theorem Two.fst (h : Two W w o1 o2 every keep n1 n2 R1 R2) : Liv W w o1 every keep n1 R1 := by
  obtain ⟨S1, B1, b1, X1, S2, B2, b2, X2, h1, h2, h3, h4, h5, h6, h7⟩ := h
  exact ⟨S1, B1, b1, X1, h1, h2, h3⟩
theorem Two.swap (h : Two W w o1 o2 every keep n1 n2 R1 R2) : Two W w o2 o1 every keep n2 n1 R2 R1 := by
  obtain ⟨S1, B1, b1, X1, S2, B2, b2, X2, h1, h2, h3, h4, h5, h6, h7⟩ := h
  exact ⟨S2, B2, b2, X2, S1, B1, b1, X1, h4, h5, h6, h1, h2, h3, fun k a b => h7 k b a⟩
theorem Two.on {w' : World} (h : Two W w o1 o2 every keep n1 n2 R1 R2) (k : Below w.heap.size w w') : Two W w' o1 o2 every keep n1 n2 R1 R2 := by
  obtain ⟨S1, B1, b1, X1, S2, B2, b2, X2, h1, h2, h3, h4, h5, h6, h7⟩ := h
  exact ⟨S1, B1, b1, X1, S2, B2, b2, X2, h1.on k, h2, h3, h4.on k, h5, h6, h7⟩
/-- Rows that can be read as long as just what a law's oracles own turns. -/
def RdWU (W w w' : World) (v : Value) (l : List RowS) : Prop := ∀ S : Nat → Prop, (∀ k, S k → W.heap.size ≤ k ∧ k < w.heap.size) → RdWT w' S v l
theorem RdWU.low {w' : World} {v : Value} {l : List RowS} (h : RdW W W.heap.size v l) (hB : Below W.heap.size W w') : RdWU W w w' v l := fun _ hS =>
  rdWT_low (h.below hB) (fun k hk => (hS k hk).1) (Nat.le_refl _) hB.size
end
end Go.Proofs.YtkgcbeokfilehaaGreatDoor
