/-
  An oracle and the reference's, side by side: an act over both.
-/
import Derived.Test.YtkgcbeokfilehaaGreatDoorXyk
import Derived.Test.YtkgcbeokfilehaaGreatDoorXsk
import Derived.Test.YtkgcbeokfilehaaGreatDoorWjk
namespace Go.Proofs.YtkgcbeokfilehaaGreatDoor
open Go.RowKit Go.Sort Go.Maps
/-- Some blocks stand as they stood. -/
def Keep (P : Nat → Prop) (w w' : World) : Prop := ∀ k, P k → w'.heap[k]? = w.heap[k]?
theorem Keep.trans {P : Nat → Prop} {a b c : World} (h : Keep P a b) (k : Keep P b c) : Keep P a c := fun i hi => (k i hi).trans (h i hi)
theorem Keep.cell {P : Nat → Prop} {w w' : World} {b o : Nat} (h : Keep P w w') (hb : P b) : w'.cell? ⟨b, o, none⟩ = w.cell? ⟨b, o, none⟩ := cell_of_block (h b hb)
theorem Keep.frozen {P : Nat → Prop} {w w' : World} {b o : Nat} (h : Keep P w w') (hb : P b) : w'.frozen? ⟨b, o, none⟩ = w.frozen? ⟨b, o, none⟩ := by simp [World.frozen?, h b hb]
/-- An oracle that was told R, and the reference's series of what R2 was told: neither turns the other, nor the blocks of P. -/
def Both (P : Nat → Prop) (W w : World) (o : Nat) (v : Value) (every keep now : Int) (R R2 : Told) : Prop := ∃ S B b X, Orc w S B o b every keep now X R ∧ S b ∧ W.heap.size ≤ B ∧ RdXS (fun k => S k ∨ P k) w v (rS R2) ∧ Nz v ∧ ∀ k, P k → k < w.heap.size ∧ ¬ S k
section
variable {P : Nat → Prop} {W w : World} {o : Nat} {v : Value} {every keep now : Int} {R R2 : Told}
theorem Both.liv (h : Both P W w o v every keep now R R2) : Liv W w o every keep now R := by
  obtain ⟨S, B, b, X, h1, h2, h3, _⟩ := h
  exact ⟨S, B, b, X, h1, h2, h3⟩
theorem Both.stands {w' : World} (h : Both P W w o v every keep now R R2) (k : Below w.heap.size w w') : Keep P w w' := by
  obtain ⟨S, B, b, X, h1, h2, h3, h4, h5, h6⟩ := h
  exact fun i hi => k.block i (h6 i hi).1
/-- Other blocks: of those of P, or new ones. -/
theorem Both.to {P' : Nat → Prop} {w' : World} (h : Both P W w o v every keep now R R2) (k : Below w.heap.size w w') (hP : ∀ i, P' i → P i ∨ (w.heap.size ≤ i ∧ i < w'.heap.size)) : Both P' W w' o v every keep now R R2 := by
  obtain ⟨S, B, b, X, h1, h2, h3, h4, h5, h6⟩ := h
  refine ⟨S, B, b, X, h1.on k, h2, h3, h4.chg (.of_below k) (fun _ e => e.elim) (fun x hx e => e.elim .inl (fun e => (hP x e).elim .inr (fun e => by omega))), h5, fun i hi => ?_⟩
  rcases hP i hi with hi | hi
  · exact ⟨Nat.lt_of_lt_of_le (h6 i hi).1 k.size, (h6 i hi).2⟩
  · exact ⟨hi.2, fun e => by have := (h1.lt e).2; omega⟩
theorem Both.on {w' : World} (h : Both P W w o v every keep now R R2) (k : Below w.heap.size w w') : Both P W w' o v every keep now R R2 := h.to k (fun _ e => .inl e)
theorem Both.form (h : Both P W w o v every keep now R R2) : ∃ A c, v = .slice A (rS R2).length c := by
  obtain ⟨S, B, b, X, h1, h2, h3, h4, h5, h6⟩ := h
  exact h4.form
theorem Both.rd (h : Both P W w o v every keep now R R2) : RdX w w.heap.size v (rS R2) := by
  obtain ⟨S, B, b, X, h1, h2, h3, h4, h5, h6⟩ := h
  exact h4.rd
theorem Both.bd (h : Both P W w o v every keep now R R2) : 1 ≤ keep ∧ keep ≤ 1099511627776 ∧ 0 ≤ now ∧ now ≤ 1099511627776 := h.liv.bd
/-- A block of P turns. -/
theorem Both.turn {w' : World} (h : Both P W w o v every keep now R R2) (k : Chg P w w') : Both P W w' o v every keep now R R2 := by
  obtain ⟨S, B, b, X, h1, h2, h3, h4, h5, h6⟩ := h
  refine ⟨S, B, b, X, h1.kept k (fun x hx e => (h6 x e).2 hx), h2, h3, h4.chg k (fun _ e => .inr e) (fun _ _ e => e), h5, fun i hi => ⟨Nat.lt_of_lt_of_le (h6 i hi).1 k.size, (h6 i hi).2⟩⟩
theorem both_new (every keep : Int) (hP : ∀ k, P k → k < w.heap.size) (hB : Below W.heap.size W w) :
    Calls Tryz.prog 11 #[.int .i64 every, .int .i64 keep] w fun e w' => ∃ o, e = .returned (.pointer (some ⟨o, 0, none⟩)) ∧ Both P W w' o (.slice none 0 0) every (keepN keep) 0 [] [] ∧ Below w.heap.size w w' :=
  (new_walk every keep w).mono fun _ _ ⟨h1, h2, h3⟩ => ⟨_, h1, ⟨_, _, _, _, h2, .inl rfl, hB.size, RdXS.nil _ _, nz_nil, fun k hk => ⟨Nat.lt_of_lt_of_le (hP k hk) h3.size, fun e => by have := (h2.lt e).1; have := hP k hk; omega⟩⟩, h3.below⟩
theorem both_addO (h : Both P W w o v every keep now R R2) (hB : Below W.heap.size W w) {rv : Value} {l : List RowS} (hR : RdW w W.heap.size rv l) (hl : l.length ≤ 16) (hRl : R.length ≤ 50000) :
    Calls Tryz.prog 13 #[.pointer (some ⟨o, 0, none⟩), rv] w fun e w' => e = .returned (.tuple #[.int .i64 (refusedR keep now l), .int .i64 0]) ∧ Both P W w' o v every keep now (addR keep now R l) R2 ∧ Keep P w w' ∧ Below W.heap.size W w' := by
  obtain ⟨S, B, b, X, h1, h2, h3, h4, h5, h6⟩ := h
  have hlo : ∀ k, S k → B ≤ k := fun k hk => (h1.lt hk).1
  refine (add_walk h1 h2 rv l (rdWT_low hR hlo h3 hB.size) hl hRl).mono ?_
  rintro e w' ⟨k1, S', X', k2⟩
  refine ⟨k1, ⟨S', B, b, X', k2.orc, ?_, h3, h4.chg k2.chg (fun _ e => .inl e) (fun x hx hs => ?_), h5, fun i hi => ⟨Nat.lt_of_lt_of_le (h6 i hi).1 k2.chg.size, fun e => ?_⟩⟩, fun i hi => k2.chg.block i (h6 i hi).1 (h6 i hi).2, hB.trans (k2.chg.far hlo h3 hB.size)⟩
  · obtain ⟨n, D, _, hom⟩ := k2.orc.om
    exact hom.sb
  · rcases hs with hs | hs
    · rcases k2.loc x hs with c | c
      · exact .inl c
      · omega
    · exact .inr hs
  · rcases k2.loc i e with c | c
    · exact (h6 i hi).2 c
    · have := (h6 i hi).1; omega
theorem both_bigO (h : Both P W w o v every keep now R R2) (hB : Below W.heap.size W w) {rv : Value} {l : List RowS} (hR : RdW w w.heap.size rv l) (hl : 16 < l.length) :
    Calls Tryz.prog 13 #[.pointer (some ⟨o, 0, none⟩), rv] w fun e w' => e = .returned (.tuple #[.int .i64 0, .int .i64 2]) ∧ Both P W w' o v every keep now R R2 ∧ Keep P w w' ∧ Below W.heap.size W w' :=
  (add_big o rv l hR hl).mono fun _ _ ⟨k1, k2⟩ => ⟨k1, h.on k2.below, h.stands k2.below, hB.trans (k2.below.mono hB.size)⟩
theorem both_addR (h : Both P W w o v every keep now R R2) (hB : Below W.heap.size W w) {rv : Value} {l : List RowS} (hR : RdW w w.heap.size rv l) (hl : l.length ≤ 16) (htx : ∀ r ∈ l, TxL r.1) (hRl : R2.length ≤ 50000) (hfl : FewL R2) :
    Calls Tryz.prog 48 #[vO every keep now v, rv] w fun e w' => ∃ v', e = .returned (.tuple #[vO every keep now v', .int .i64 (refusedR keep now l), .int .i64 0]) ∧ Both P W w' o v' every keep now R (addR keep now R2 l) ∧ Keep P w w' ∧ Below W.heap.size W w' := by
  obtain ⟨S, B, b, X, h1, h2, h3, h4, h5, h6⟩ := h
  refine (ref_add every keep now v R2 rv l w (fun k => S k ∨ P k) (fun k hk => hk.elim (fun hk => (h1.lt hk).2) (fun hk => (h6 k hk).1)) h4 h5 hR hl htx h1.bd hRl hfl).mono ?_
  rintro e w' ⟨v', k1, k2, k3, k4⟩
  exact ⟨v', k1, ⟨S, B, b, X, h1.on k4, h2, h3, k2, k3, fun i hi => ⟨Nat.lt_of_lt_of_le (h6 i hi).1 k4.size, (h6 i hi).2⟩⟩, fun i hi => k4.block i (h6 i hi).1, hB.trans (k4.mono hB.size)⟩
theorem both_bigR (h : Both P W w o v every keep now R R2) (hB : Below W.heap.size W w) {rv : Value} {l : List RowS} (hR : RdW w w.heap.size rv l) (hl : 16 < l.length) :
    Calls Tryz.prog 48 #[vO every keep now v, rv] w fun e w' => e = .returned (.tuple #[vO every keep now v, .int .i64 0, .int .i64 2]) ∧ Both P W w' o v every keep now R R2 ∧ Keep P w w' ∧ Below W.heap.size W w' := by
  obtain ⟨S, B, b, X, h1, h2, h3, h4, h5, h6⟩ := h
  refine (ref_add_big every keep now v (rS R2) rv l w (fun k => S k ∨ P k) h4 hR hl).mono ?_
  rintro e w' ⟨k1, k2, k4⟩
  exact ⟨k1, ⟨S, B, b, X, h1.on k4, h2, h3, k2, h5, fun i hi => ⟨Nat.lt_of_lt_of_le (h6 i hi).1 k4.size, (h6 i hi).2⟩⟩, fun i hi => k4.block i (h6 i hi).1, hB.trans (k4.mono hB.size)⟩
theorem both_delO (h : Both P W w o v every keep now R R2) (hB : Below W.heap.size W w) {fv : Value} {fs : List Fil} (hF : RdF w W.heap.size fv fs) (hRl : R.length ≤ 60000) (hfl : FewL R) (hq : checkF fs = 0) :
    Calls Tryz.prog 31 #[.pointer (some ⟨o, 0, none⟩), fv] w fun e w' => e = .returned (.tuple #[.int .i64 ((labsOf R).length - (labsOf (delR fs R)).length : Int), .int .i64 0]) ∧ Both P W w' o v every keep now (delR fs R) R2 ∧ Keep P w w' ∧ Below W.heap.size W w' := by
  obtain ⟨S, B, b, X, h1, h2, h3, h4, h5, h6⟩ := h
  have hlo : ∀ k, S k → B ≤ k := fun k hk => (h1.lt hk).1
  refine (delete_walk h1 h2 fv fs (rdFT_low hF hlo h3 hB.size) hRl hfl hq).mono ?_
  rintro e w' ⟨k1, k2, k3⟩
  exact ⟨k1, ⟨S, B, b, X, k2, h2, h3, h4.chg k3 (fun _ e => .inl e) (fun _ _ e => e), h5, fun i hi => ⟨Nat.lt_of_lt_of_le (h6 i hi).1 k3.size, (h6 i hi).2⟩⟩, fun i hi => k3.block i (h6 i hi).1 (h6 i hi).2, hB.trans (k3.far hlo h3 hB.size)⟩
theorem rS_del_len (fs : List Fil) (R : Told) : ((rS R).length : Int) - ((rS R).filter (fun x => !allF fs x.1)).length = ((labsOf R).length - (labsOf (delR fs R)).length : Int) := by
  rw [rS_del]; unfold rS; rw [List.length_map, List.length_map]
theorem both_delR (h : Both P W w o v every keep now R R2) (hB : Below W.heap.size W w) {fv : Value} {fs : List Fil} (hF : RdF w w.heap.size fv fs) (hfx : ∀ f ∈ fs, TxF f) (hRl : R2.length ≤ 60000) (hfl : FewL R2) (hq : checkF fs = 0) :
    Calls Tryz.prog 49 #[vO every keep now v, fv] w fun e w' => ∃ v', e = .returned (.tuple #[vO every keep now v', .int .i64 ((labsOf R2).length - (labsOf (delR fs R2)).length : Int), .int .i64 0]) ∧ Both P W w' o v' every keep now R (delR fs R2) ∧ Keep P w w' ∧ Below W.heap.size W w' := by
  obtain ⟨S, B, b, X, h1, h2, h3, h4, h5, h6⟩ := h
  have hr := rS_few (R := R2) (by omega) hfl
  refine (ref_del every keep now v (rS R2) fv fs w (fun k => S k ∨ P k) (fun k hk => hk.elim (fun hk => (h1.lt hk).2) (fun hk => (h6 k hk).1)) h4 hF hfx hq ⟨hr.1, fun x hx => (hr.2 x hx).1⟩).mono ?_
  rintro e w' ⟨v', k1, k2, k3, k4⟩
  rw [rS_del_len] at k1
  rw [rS_del] at k2
  exact ⟨v', k1, ⟨S, B, b, X, h1.on k4, h2, h3, k2, k3, fun i hi => ⟨Nat.lt_of_lt_of_le (h6 i hi).1 k4.size, (h6 i hi).2⟩⟩, fun i hi => k4.block i (h6 i hi).1, hB.trans (k4.mono hB.size)⟩
theorem both_delF (h : Both P W w o v every keep now R R2) (hB : Below W.heap.size W w) {fv : Value} {fs : List Fil} (hF : RdF w w.heap.size fv fs) (hq : checkF fs ≠ 0) :
    Calls Tryz.prog 31 #[.pointer (some ⟨o, 0, none⟩), fv] w fun e w' => e = .returned (.tuple #[.int .i64 0, .int .i64 (checkF fs)]) ∧ Both P W w' o v every keep now R R2 ∧ Keep P w w' ∧ Below W.heap.size W w' :=
  (delete_fail o fv fs hF hq).mono fun _ _ ⟨k1, k2⟩ => ⟨k1, h.on k2, h.stands k2, hB.trans (k2.mono hB.size)⟩
theorem both_delG (h : Both P W w o v every keep now R R2) (hB : Below W.heap.size W w) {fv : Value} {fs : List Fil} (hF : RdF w w.heap.size fv fs) (hfx : ∀ f ∈ fs, TxF f) (hq : checkF fs ≠ 0) :
    Calls Tryz.prog 49 #[vO every keep now v, fv] w fun e w' => e = .returned (.tuple #[vO every keep now v, .int .i64 0, .int .i64 (checkF fs)]) ∧ Both P W w' o v every keep now R R2 ∧ Keep P w w' ∧ Below W.heap.size W w' := by
  obtain ⟨S, B, b, X, h1, h2, h3, h4, h5, h6⟩ := h
  refine (ref_del_fail every keep now v (rS R2) fv fs w (fun k => S k ∨ P k) (fun k hk => hk.elim (fun hk => (h1.lt hk).2) (fun hk => (h6 k hk).1)) h4 hF hfx hq).mono ?_
  rintro e w' ⟨k1, k2, k4⟩
  exact ⟨k1, ⟨S, B, b, X, h1.on k4, h2, h3, k2, h5, fun i hi => ⟨Nat.lt_of_lt_of_le (h6 i hi).1 k4.size, (h6 i hi).2⟩⟩, fun i hi => k4.block i (h6 i hi).1, hB.trans (k4.mono hB.size)⟩
theorem both_clock (h : Both P W w o v every keep now R R2) (hB : Below W.heap.size W w) (x : Int) :
    Calls Tryz.prog 12 #[.pointer (some ⟨o, 0, none⟩), .int .i64 x] w fun e w' => e = .returned (.tuple #[]) ∧ Both P W w' o v every keep (clkN now x) R R2 ∧ Keep P w w' ∧ Below W.heap.size W w' := by
  obtain ⟨S, B, b, X, h1, h2, h3, h4, h5, h6⟩ := h
  refine (clock_walk h1 x).mono ?_
  rintro e w' ⟨k1, k2, k3⟩
  exact ⟨k1, ⟨S, B, b, X, k2, h2, h3, h4.chg k3 (fun _ e => .inl e) (fun _ _ e => e), h5, fun i hi => ⟨Nat.lt_of_lt_of_le (h6 i hi).1 k3.size, (h6 i hi).2⟩⟩, fun i hi => k3.block i (h6 i hi).1 (h6 i hi).2, hB.trans (k3.far (fun k hk => (h1.lt hk).1) h3 hB.size)⟩
end
end Go.Proofs.YtkgcbeokfilehaaGreatDoor
