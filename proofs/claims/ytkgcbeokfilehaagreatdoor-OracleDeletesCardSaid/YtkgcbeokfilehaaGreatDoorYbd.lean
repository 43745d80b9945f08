/-
  An oracle and the reference's, side by side: an act over both.
-/
import Derived.Test.YtkgcbeokfilehaaGreatDoorXyd
import Derived.Test.YtkgcbeokfilehaaGreatDoorXsd
import Derived.Test.YtkgcbeokfilehaaGreatDoorWjd
import Derived.Test.YtkgcbeokfilehaaGreatDoorWmd
import Derived.Test.YtkgcbeokfilehaaGreatDoorXwd
namespace Go.Proofs.YtkgcbeokfilehaaGreatDoor
open Go.RowKit Go.Sort Go.Maps
/-- Some blocks stand as they stood. -/
def Keep (P : Nat → Prop) (w w' : World) : Prop := ∀ k, P k → w'.heap[k]? = w.heap[k]?
theorem Keep.trans {P : Nat → Prop} {a b c : World} (h : Keep P a b) (k : Keep P b c) : Keep P a c := fun i hi => (k i hi).trans (h i hi)
theorem Keep.cell {P : Nat → Prop} {w w' : World} {b o : Nat} (h : Keep P w w') (hb : P b) : w'.cell? ⟨b, o, none⟩ = w.cell? ⟨b, o, none⟩ := cell_of_block (h b hb)
theorem Keep.frozen {P : Nat → Prop} {w w' : World} {b o : Nat} (h : Keep P w w') (hb : P b) : w'.frozen? ⟨b, o, none⟩ = w.frozen? ⟨b, o, none⟩ := by simp [World.frozen?, h b hb]
/-- An oracle that was told R, and the reference's series of what R2 was told: neither turns the other, nor the blocks of P. -/
def Both (P : Nat → Prop) (W w : World) (o : Nat) (v : Value) (every keep now : Int) (R R2 : Told) : Prop := ∃ S B b X, Orc w S B o b every keep now X R ∧ S b ∧ W.heap.size ≤ B ∧ RdXS (fun k => S k ∨ P k) w v (rS R2) ∧ Nz v ∧ ∀ k, P k → k < w.heap.size ∧ ¬ S k
section
variable {P : Nat → Prop} {W w : World} {o : Nat} {v : Value} {every keep now : Int} {R R2 : Told}
theorem Both.liv (h : Both P W w o v every keep now R R2) : Liv W w o every keep now R := by
  obtain ⟨S, B, b, X, h1, h2, h3, _⟩ := h
  exact ⟨S, B, b, X, h1, h2, h3⟩
theorem Both.stands {w' : World} (h : Both P W w o v every keep now R R2) (k : Below w.heap.size w w') : Keep P w w' := by
  obtain ⟨S, B, b, X, h1, h2, h3, h4, h5, h6⟩ := h
  exact fun i hi => k.block i (h6 i hi).1
/-- Other blocks: of those of P, or new ones. -/
theorem Both.to {P' : Nat → Prop} {w' : World} (h : Both P W w o v every keep now R R2) (k : Below w.heap.size w w') (hP : ∀ i, P' i → P i ∨ (w.heap.size ≤ i ∧ i < w'.heap.size)) : Both P' W w' o v every keep now R R2 := by
  obtain ⟨S, B, b, X, h1, h2, h3, h4, h5, h6⟩ := h
  refine ⟨S, B, b, X, h1.on k, h2, h3, h4.chg (.of_below k) (fun _ e => e.elim) (fun x hx e => e.elim .inl (fun e => (hP x e).elim .inr (fun e => by omega))), h5, fun i hi => ?_⟩
  rcases hP i hi with hi | hi
  · exact ⟨Nat.lt_of_lt_of_le (h6 i hi).1 k.size, (h6 i hi).2⟩
  · exact ⟨hi.2, fun e => by have := (h1.lt e).2; omega⟩
theorem Both.on {w' : World} (h : Both P W w o v every keep now R R2) (k : Below w.heap.size w w') : Both P W w' o v every keep now R R2 := h.to k (fun _ e => .inl e)
theorem Both.form (h : Both P W w o v every keep now R R2) : ∃ A c, v = .slice A (rS R2).length c := by
  obtain ⟨S, B, b, X, h1, h2, h3, h4, h5, h6⟩ := h
  exact h4.form
theorem Both.rd (h : Both P W w o v every keep now R R2) : RdX w w.heap.size v (rS R2) := by
  obtain ⟨S, B, b, X, h1, h2, h3, h4, h5, h6⟩ := h
  exact h4.rd
theorem Both.bd (h : Both P W w o v every keep now R R2) : 1 ≤ keep ∧ keep ≤ 1099511627776 ∧ 0 ≤ now ∧ now ≤ 1099511627776 := h.liv.bd
/-- A block of P turns. -/
theorem Both.turn {w' : World} (h : Both P W w o v every keep now R R2) (k : Chg P w w') : Both P W w' o v every keep now R R2 := by
  obtain ⟨S, B, b, X, h1, h2, h3, h4, h5, h6⟩ := h
  refine ⟨S, B, b, X, h1.kept k (fun x hx e => (h6 x e).2 hx), h2, h3, h4.chg k (fun _ e => .inr e) (fun _ _ e => e), h5, fun i hi => ⟨Nat.lt_of_lt_of_le (h6 i hi).1 k.size, (h6 i hi).2⟩⟩
theorem both_new (every keep : Int) (hP : ∀ k, P k → k < w.heap.size) (hB : Below W.heap.size W w) :
    Calls Tryz.prog 11 #[.int .i64 every, .int .i64 keep] w fun e w' => ∃ o, e = .returned (.pointer (some ⟨o, 0, none⟩)) ∧ Both P W w' o (.slice none 0 0) every (keepN keep) 0 [] [] ∧ Below w.heap.size w w' :=
  (new_walk every keep w).mono fun _ _ ⟨h1, h2, h3⟩ => ⟨_, h1, ⟨_, _, _, _, h2, .inl rfl, hB.size, RdXS.nil _ _, nz_nil, fun k hk => ⟨Nat.lt_of_lt_of_le (hP k hk) h3.size, fun e => by have := (h2.lt e).1; have := hP k hk; omega⟩⟩, h3.below⟩
theorem both_addO (h : Both P W w o v every keep now R R2) (hB : Below W.heap.size W w) {rv : Value} {l : List RowS} (hR : RdW w W.heap.size rv l) (hl : l.length ≤ 16) (hRl : R.length ≤ 50000) :
    Calls Tryz.prog 13 #[.pointer (some ⟨o, 0, none⟩), rv] w fun e w' => e = .returned (.tuple #[.int .i64 (refusedR keep now l), .int .i64 0]) ∧ Both P W w' o v every keep now (addR keep now R l) R2 ∧ Keep P w w' ∧ Below W.heap.size W w' := by
  obtain ⟨S, B, b, X, h1, h2, h3, h4, h5, h6⟩ := h
  have hlo : ∀ k, S k → B ≤ k := fun k hk => (h1.lt hk).1
  refine (add_walk h1 h2 rv l (rdWT_low hR hlo h3 hB.size) hl hRl).mono ?_
  rintro e w' ⟨k1, S', X', k2⟩
  refine ⟨k1, ⟨S', B, b, X', k2.orc, ?_, h3, h4.chg k2.chg (fun _ e => .inl e) (fun x hx hs => ?_), h5, fun i hi => ⟨Nat.lt_of_lt_of_le (h6 i hi).1 k2.chg.size, fun e => ?_⟩⟩, fun i hi => k2.chg.block i (h6 i hi).1 (h6 i hi).2, hB.trans (k2.chg.far hlo h3 hB.size)⟩
  · obtain ⟨n, D, _, hom⟩ := k2.orc.om
    exact hom.sb
  · rcases hs with hs | hs
    · rcases k2.loc x hs with c | c
      · exact .inl c
      · omega
    · exact .inr hs
  · rcases k2.loc i e with c | c
    · exact (h6 i hi).2 c
    · have := (h6 i hi).1; omega
theorem both_bigO (h : Both P W w o v every keep now R R2) (hB : Below W.heap.size W w) {rv : Value} {l : List RowS} (hR : RdW w w.heap.size rv l) (hl : 16 < l.length) :
    Calls Tryz.prog 13 #[.pointer (some ⟨o, 0, none⟩), rv] w fun e w' => e = .returned (.tuple #[.int .i64 0, .int .i64 2]) ∧ Both P W w' o v every keep now R R2 ∧ Keep P w w' ∧ Below W.heap.size W w' :=
  (add_big o rv l hR hl).mono fun _ _ ⟨k1, k2⟩ => ⟨k1, h.on k2.below, h.stands k2.below, hB.trans (k2.below.mono hB.size)⟩
theorem both_addR (h : Both P W w o v every keep now R R2) (hB : Below W.heap.size W w) {rv : Value} {l : List RowS} (hR : RdW w w.heap.size rv l) (hl : l.length ≤ 16) (htx : ∀ r ∈ l, TxL r.1) (hRl : R2.length ≤ 50000) (hfl : FewL R2) :
    Calls Tryz.prog 48 #[vO every keep now v, rv] w fun e w' => ∃ v', e = .returned (.tuple #[vO every keep now v', .int .i64 (refusedR keep now l), .int .i64 0]) ∧ Both P W w' o v' every keep now R (addR keep now R2 l) ∧ Keep P w w' ∧ Below W.heap.size W w' := by
  obtain ⟨S, B, b, X, h1, h2, h3, h4, h5, h6⟩ := h
  refine (ref_add every keep now v R2 rv l w (fun k => S k ∨ P k) (fun k hk => hk.elim (fun hk => (h1.lt hk).2) (fun hk => (h6 k hk).1)) h4 h5 hR hl htx h1.bd hRl hfl).mono ?_
  rintro e w' ⟨v', k1, k2, k3, k4⟩
  exact ⟨v', k1, ⟨S, B, b, X, h1.on k4, h2, h3, k2, k3, fun i hi => ⟨Nat.lt_of_lt_of_le (h6 i hi).1 k4.size, (h6 i hi).2⟩⟩, fun i hi => k4.block i (h6 i hi).1, hB.trans (k4.mono hB.size)⟩
theorem both_bigR (h : Both P W w o v every keep now R R2) (hB : Below W.heap.size W w) {rv : Value} {l : List RowS} (hR : RdW w w.heap.size rv l) (hl : 16 < l.length) :
    Calls Tryz.prog 48 #[vO every keep now v, rv] w fun e w' => e = .returned (.tuple #[vO every keep now v, .int .i64 0, .int .i64 2]) ∧ Both P W w' o v every keep now R R2 ∧ Keep P w w' ∧ Below W.heap.size W w' := by
  obtain ⟨S, B, b, X, h1, h2, h3, h4, h5, h6⟩ := h
  refine (ref_add_big every keep now v (rS R2) rv l w (fun k => S k ∨ P k) h4 hR hl).mono ?_
  rintro e w' ⟨k1, k2, k4⟩
  exact ⟨k1, ⟨S, B, b, X, h1.on k4, h2, h3, k2, h5, fun i hi => ⟨Nat.lt_of_lt_of_le (h6 i hi).1 k4.size, (h6 i hi).2⟩⟩, fun i hi => k4.block i (h6 i hi).1, hB.trans (k4.mono hB.size)⟩
theorem both_delO (h : Both P W w o v every keep now R R2) (hB : Below W.heap.size W w) {fv : Value} {fs : List Fil} (hF : RdF w W.heap.size fv fs) (hRl : R.length ≤ 60000) (hfl : FewL R) (hq : checkF fs = 0) :
    Calls Tryz.prog 31 #[.pointer (some ⟨o, 0, none⟩), fv] w fun e w' => e = .returned (.tuple #[.int .i64 ((labsOf R).length - (labsOf (delR fs R)).length : Int), .int .i64 0]) ∧ Both P W w' o v every keep now (delR fs R) R2 ∧ Keep P w w' ∧ Below W.heap.size W w' := by
  obtain ⟨S, B, b, X, h1, h2, h3, h4, h5, h6⟩ := h
  have hlo : ∀ k, S k → B ≤ k := fun k hk => (h1.lt hk).1
  refine (delete_walk h1 h2 fv fs (rdFT_low hF hlo h3 hB.size) hRl hfl hq).mono ?_
  rintro e w' ⟨k1, k2, k3⟩
  exact ⟨k1, ⟨S, B, b, X, k2, h2, h3, h4.chg k3 (fun _ e => .inl e) (fun _ _ e => e), h5, fun i hi => ⟨Nat.lt_of_lt_of_le (h6 i hi).1 k3.size, (h6 i hi).2⟩⟩, fun i hi => k3.block i (h6 i hi).1 (h6 i hi).2, hB.trans (k3.far hlo h3 hB.size)⟩
theorem rS_del_len (fs : List Fil) (R : Told) : ((rS R).length : Int) - ((rS R).filter (fun x => !allF fs x.1)).length = ((labsOf R).length - (labsOf (delR fs R)).length : Int) := by
  rw [rS_del]; unfold rS; rw [List.length_map, List.length_map]
theorem both_delR (h : Both P W w o v every keep now R R2) (hB : Below W.heap.size W w) {fv : Value} {fs : List Fil} (hF : RdF w w.heap.size fv fs) (hfx : ∀ f ∈ fs, TxF f) (hRl : R2.length ≤ 60000) (hfl : FewL R2) (hq : checkF fs = 0) :
    Calls Tryz.prog 49 #[vO every keep now v, fv] w fun e w' => ∃ v', e = .returned (.tuple #[vO every keep now v', .int .i64 ((labsOf R2).length - (labsOf (delR fs R2)).length : Int), .int .i64 0]) ∧ Both P W w' o v' every keep now R (delR fs R2) ∧ Keep P w w' ∧ Below W.heap.size W w' := by
  obtain ⟨S, B, b, X, h1, h2, h3, h4, h5, h6⟩ := h
  have hr := rS_few (R := R2) (by omega) hfl
  refine (ref_del every keep now v (rS R2) fv fs w (fun k => S k ∨ P k) (fun k hk => hk.elim (fun hk => (h1.lt hk).2) (fun hk => (h6 k hk).1)) h4 hF hfx hq ⟨hr.1, fun x hx => (hr.2 x hx).1⟩).mono ?_
  rintro e w' ⟨v', k1, k2, k3, k4⟩
  rw [rS_del_len] at k1
  rw [rS_del] at k2
  exact ⟨v', k1, ⟨S, B, b, X, h1.on k4, h2, h3, k2, k3, fun i hi => ⟨Nat.lt_of_lt_of_le (h6 i hi).1 k4.size, (h6 i hi).2⟩⟩, fun i hi => k4.block i (h6 i hi).1, hB.trans (k4.mono hB.size)⟩
theorem both_delF (h : Both P W w o v every keep now R R2) (hB : Below W.heap.size W w) {fv : Value} {fs : List Fil} (hF : RdF w w.heap.size fv fs) (hq : checkF fs ≠ 0) :
    Calls Tryz.prog 31 #[.pointer (some ⟨o, 0, none⟩), fv] w fun e w' => e = .returned (.tuple #[.int .i64 0, .int .i64 (checkF fs)]) ∧ Both P W w' o v every keep now R R2 ∧ Keep P w w' ∧ Below W.heap.size W w' :=
  (delete_fail o fv fs hF hq).mono fun _ _ ⟨k1, k2⟩ => ⟨k1, h.on k2, h.stands k2, hB.trans (k2.mono hB.size)⟩
theorem both_delG (h : Both P W w o v every keep now R R2) (hB : Below W.heap.size W w) {fv : Value} {fs : List Fil} (hF : RdF w w.heap.size fv fs) (hfx : ∀ f ∈ fs, TxF f) (hq : checkF fs ≠ 0) :
    Calls Tryz.prog 49 #[vO every keep now v, fv] w fun e w' => e = .returned (.tuple #[vO every keep now v, .int .i64 0, .int .i64 (checkF fs)]) ∧ Both P W w' o v every keep now R R2 ∧ Keep P w w' ∧ Below W.heap.size W w' := by
  obtain ⟨S, B, b, X, h1, h2, h3, h4, h5, h6⟩ := h
  refine (ref_del_fail every keep now v (rS R2) fv fs w (fun k => S k ∨ P k) (fun k hk => hk.elim (fun hk => (h1.lt hk).2) (fun hk => (h6 k hk).1)) h4 hF hfx hq).mono ?_
  rintro e w' ⟨k1, k2, k4⟩
  exact ⟨k1, ⟨S, B, b, X, h1.on k4, h2, h3, k2, h5, fun i hi => ⟨Nat.lt_of_lt_of_le (h6 i hi).1 k4.size, (h6 i hi).2⟩⟩, fun i hi => k4.block i (h6 i hi).1, hB.trans (k4.mono hB.size)⟩
theorem both_clock (h : Both P W w o v every keep now R R2) (hB : Below W.heap.size W w) (x : Int) :
    Calls Tryz.prog 12 #[.pointer (some ⟨o, 0, none⟩), .int .i64 x] w fun e w' => e = .returned (.tuple #[]) ∧ Both P W w' o v every keep (clkN now x) R R2 ∧ Keep P w w' ∧ Below W.heap.size W w' := by
  obtain ⟨S, B, b, X, h1, h2, h3, h4, h5, h6⟩ := h
  refine (clock_walk h1 x).mono ?_
  rintro e w' ⟨k1, k2, k3⟩
  exact ⟨k1, ⟨S, B, b, X, k2, h2, h3, h4.chg k3 (fun _ e => .inl e) (fun _ _ e => e), h5, fun i hi => ⟨Nat.lt_of_lt_of_le (h6 i hi).1 k3.size, (h6 i hi).2⟩⟩, fun i hi => k3.block i (h6 i hi).1 (h6 i hi).2, hB.trans (k3.far (fun k hk => (h1.lt hk).1) h3 hB.size)⟩
end
end Go.Proofs.YtkgcbeokfilehaaGreatDoor

/-
  eskerlaw20.done: an act over both.
-/
namespace Go.Proofs.YtkgcbeokfilehaaGreatDoor
open Go.RowKit Go.Sort Go.Maps
/-- What an act turns: how late it is, what was told. -/
def stepA (keep : Int) (q : Int × Told) (a : ActS) : Int × Told :=
  if 0 ≤ bits BinOp.and IntKind.i64 a.kind 7 ∧ bits BinOp.and IntKind.i64 a.kind 7 ≤ 4 then (q.1, if 16 < a.rows.length then q.2 else addR keep q.1 q.2 a.rows)
  else if bits BinOp.and IntKind.i64 a.kind 7 = 5 then (q.1, if checkF a.fs = 0 then delR a.fs q.2 else q.2)
  else (clkN q.1 a.now, q.2)
set_option maxRecDepth 100000 in
set_option maxHeartbeats 8000000 in
theorem done_walk {P : Nat → Prop} {W w : World} {o : Nat} {every keep now : Int} {v : Value} {R : Told} (h : Both P W w o v every keep now R R) (hB : Below W.heap.size W w) (a : ActS) (rv fv : Value) (hR : RdW W W.heap.size rv a.rows) (hF : RdF W W.heap.size fv a.fs) (htx : TxA a) (hRl : R.length ≤ 50000) (hfl : FewL R) :
    Calls Tryz.prog 21 #[.pointer (some ⟨o, 0, none⟩), vO every keep now v, .agg #[.int .i64 a.kind, rv, fv, .int .i64 a.now]] w fun e w' => ∃ v', e = .returned (.tuple #[vO every keep (stepA keep (now, R) a).1 v', .bool true]) ∧ Both P W w' o v' every keep (stepA keep (now, R) a).1 (stepA keep (now, R) a).2 (stepA keep (now, R) a).2 ∧ Keep P w w' ∧ Below W.heap.size W w' := by
  obtain ⟨kd, rows, fs, nw⟩ := a
  obtain ⟨g, hg⟩ : ∃ g, bits BinOp.and IntKind.i64 kd 7 = g := ⟨_, rfl⟩
  obtain ⟨W1, hW1⟩ : ∃ W1, W1 = ((w.alloc (.cells #[.int .i64 every, .int .i64 keep, .int .i64 now, v] 65)).alloc (.cells #[.int .i64 kd, rv, fv, .int .i64 nw] 34)).alloc (.cells #[.int .i64 0, .int .i64 0, .int .i64 0, .slice none 0 0] 65) := ⟨_, rfl⟩
  have hE1 : Below w.heap.size w W1 := by rw [hW1]; exact ((((Ext.refl w).alloc _).alloc _).alloc _).below
  have s1 : W1.heap.size = w.heap.size + 3 := by rw [hW1]; simp
  obtain ⟨P1, hP1⟩ : ∃ P1 : Nat → Prop, P1 = fun k => P k ∨ (w.heap.size ≤ k ∧ k < W1.heap.size) := ⟨_, rfl⟩
  have HB1 : Hid (Both P1 W W1 o v every keep now R R) := h.to hE1 (fun i hi => by rw [hP1] at hi; exact hi)
  have HUP : Hid (∀ i, P i → P1 i) := fun i hi => by rw [hP1]; exact .inl hi
  have p0 : P1 w.heap.size := by rw [hP1]; exact .inr ⟨Nat.le_refl _, by omega⟩
  have p1 : P1 (w.heap.size + 1) := by rw [hP1]; exact .inr ⟨by omega, by omega⟩
  have p2 : P1 (w.heap.size + 1 + 1) := by rw [hP1]; exact .inr ⟨by omega, by omega⟩
  have HBW : Hid (Below W.heap.size W W1) := hB.trans (hE1.mono hB.size)
  have HK0 : Hid (Keep P w W1) := h.stands hE1
  -- what the call's own blocks hold
  have KC : Hid (∀ w', Keep P1 W1 w' → (w'.cell? ⟨w.heap.size, 0, none⟩ = some (.int .i64 every) ∧ w'.cell? ⟨w.heap.size, 1, none⟩ = some (.int .i64 keep) ∧ w'.cell? ⟨w.heap.size, 2, none⟩ = some (.int .i64 now) ∧ w'.cell? ⟨w.heap.size, 3, none⟩ = some v) ∧ (w'.cell? ⟨w.heap.size + 1, 0, none⟩ = some (.int .i64 kd) ∧ w'.cell? ⟨w.heap.size + 1, 1, none⟩ = some rv ∧ w'.cell? ⟨w.heap.size + 1, 2, none⟩ = some fv ∧ w'.cell? ⟨w.heap.size + 1, 3, none⟩ = some (.int .i64 nw)) ∧ w'.cell? ⟨w.heap.size + 1 + 1, 0, none⟩ = some (.int .i64 0) ∧ w'.cell? ⟨w.heap.size + 1 + 1, 1, none⟩ = some (.int .i64 0) ∧ w'.cell? ⟨w.heap.size + 1 + 1, 2, none⟩ = some (.int .i64 0) ∧ w'.cell? ⟨w.heap.size + 1 + 1, 3, none⟩ = some (.slice none 0 0) ∧ ∀ i, w'.frozen? ⟨w.heap.size + 1 + 1, i, none⟩ = false) := fun w' hk => by
    have hb0 : W1.heap[w.heap.size]? = some (.cells #[.int .i64 every, .int .i64 keep, .int .i64 now, v] 65 (0, 0)) := by
      obtain ⟨Wa, hWa⟩ : ∃ Wa, Wa = w.alloc (.cells #[.int .i64 every, .int .i64 keep, .int .i64 now, v] 65) := ⟨_, rfl⟩
      have hx : Below Wa.heap.size Wa W1 := by rw [hW1, ← hWa]; exact (((Ext.refl _).alloc _).alloc _).below
      have hs : w.heap.size < Wa.heap.size := by rw [hWa]; simp
      rw [hx.block _ hs, hWa]; exact heap_alloc_new _ _
    have hb1 : W1.heap[w.heap.size + 1]? = some (.cells #[.int .i64 kd, rv, fv, .int .i64 nw] 34 (0, 0)) := by
      obtain ⟨Wa, hWa⟩ : ∃ Wa, Wa = w.alloc (.cells #[.int .i64 every, .int .i64 keep, .int .i64 now, v] 65) := ⟨_, rfl⟩
      obtain ⟨Wb, hWb⟩ : ∃ Wb, Wb = Wa.alloc (.cells #[.int .i64 kd, rv, fv, .int .i64 nw] 34) := ⟨_, rfl⟩
      have hx : Below Wb.heap.size Wb W1 := by rw [hW1, ← hWa, ← hWb]; exact ((Ext.refl _).alloc _).below
      have ha : Wa.heap.size = w.heap.size + 1 := by rw [hWa]; simp
      have hs : w.heap.size + 1 < Wb.heap.size := by rw [hWb]; simp [ha]
      rw [hx.block _ hs, hWb, ← ha]; exact heap_alloc_new _ _
    have hb2 : W1.heap[w.heap.size + 1 + 1]? = some (.cells #[.int .i64 0, .int .i64 0, .int .i64 0, .slice none 0 0] 65 (0, 0)) := by
      have : w.heap.size + 1 + 1 = ((w.alloc (.cells #[.int .i64 every, .int .i64 keep, .int .i64 now, v] 65)).alloc (.cells #[.int .i64 kd, rv, fv, .int .i64 nw] 34)).heap.size := by simp
      rw [this, hW1]; exact heap_alloc_new _ _
    have q0 : ∀ i, w'.cell? ⟨w.heap.size, i, none⟩ = (#[.int .i64 every, .int .i64 keep, .int .i64 now, v] : Array Value)[i]? := fun i => by rw [hk.cell p0]; simp [World.cell?, hb0]
    have q1 : ∀ i, w'.cell? ⟨w.heap.size + 1, i, none⟩ = (#[.int .i64 kd, rv, fv, .int .i64 nw] : Array Value)[i]? := fun i => by rw [hk.cell p1]; simp [World.cell?, hb1]
    have q2 : ∀ i, w'.cell? ⟨w.heap.size + 1 + 1, i, none⟩ = (#[.int .i64 0, .int .i64 0, .int .i64 0, .slice none 0 0] : Array Value)[i]? := fun i => by rw [hk.cell p2]; simp [World.cell?, hb2]
    exact ⟨⟨q0 0, q0 1, q0 2, q0 3⟩, ⟨q1 0, q1 1, q1 2, q1 3⟩, q2 0, q2 1, q2 2, q2 3, fun i => by rw [hk.frozen p2]; simp [World.frozen?, hb2]⟩
  obtain ⟨A, c, rfl⟩ := h.form
  obtain ⟨RA, rc, rfl, _, _⟩ := id hR
  obtain ⟨FA, fc, rfl, _, _⟩ := id hF
  simp only at *
  obtain ⟨rn, hrn⟩ : ∃ rn, rn = rows.length := ⟨_, rfl⟩
  obtain ⟨fn, hfn⟩ : ∃ fn, fn = fs.length := ⟨_, rfl⟩
  obtain ⟨sn, hsn⟩ : ∃ sn, sn = (rS R).length := ⟨_, rfl⟩
  rw [← hrn] at hR hW1 KC ⊢
  rw [← hfn] at hF hW1 KC ⊢
  rw [← hsn] at HB1 hW1 KC ⊢
  have HR := Lib.hid hR
  have HF := Lib.hid hF
  have HT := Lib.hid htx
  have HL := Lib.hid (And.intro hRl hfl)
  have HRN := Lib.hid hrn
  have HP2 := Lib.hid p2
  have HS1 := Lib.hid s1
  have HDN : Hid (∀ w', Keep P1 W1 w' → Keep P w w') := fun w' hk i hi => (hk i (HUP.out i hi)).trans (HK0.out i hi)
  -- the end: the answer's block is filled, and handed back
  have HLO : Hid (∀ i, P i → i < w.heap.size) := fun i hi => by
    obtain ⟨S0, B0, b0, X0, j1, j2, j3, j4, j5, j6⟩ := h
    exact (j6 i hi).1
  have HBS := Lib.hid hB.size
  have HEND : Hid (∀ w7 v' nw' R', Both P1 W w7 o v' every keep nw' R' R' → Keep P1 W1 w7 → Below W.heap.size W w7 → ∀ w8, Chg (fun k => k = w.heap.size + 1 + 1) w7 w8 → Both P W w8 o v' every keep nw' R' R' ∧ Keep P w w8 ∧ Below W.heap.size W w8) := fun w7 v' nw' R' hb hk hbw w8 hc => by
    have hb8 := hb.turn (hc.mono fun x _ e => by rw [e]; exact HP2.out)
    refine ⟨hb8.to (Below.refl _ _) (fun i hi => .inl (HUP.out i hi)), fun i hi => ?_, hbw.trans (hc.below (by have := hbw.size; exact this) fun x e => by have := HBS.out; omega)⟩
    obtain ⟨S0, B0, b0, X0, j1, j2, j3, j4, j5, j6⟩ := hb
    exact (hc.block i (j6 i (HUP.out i hi)).1 (fun e => by have := HLO.out i hi; omega)).trans (HDN.out w7 hk i hi)
  unfold vO
  clear h hB hR hF htx hRl hfl hE1 hP1 p0 p1 p2 hrn hfn hsn s1
  have hr : Tryz.f21.results = #[.cell 6 65, .tmp 7] := by kernel_rfl
  by_cases hg4 : 0 ≤ g ∧ g ≤ 4
  · have hst : stepA keep (now, R) ⟨kd, rows, fs, nw⟩ = (now, if 16 < rows.length then R else addR keep now R rows) := by unfold stepA; simp only; rw [hg, if_pos hg4]
    rw [hst]
    clear hst
    have hgs : g = 0 ∨ g = 1 ∨ g = 2 ∨ g = 3 ∨ g = 4 := by omega
    clear hg4
    by_cases hbig : 16 < rows.length
    · simp only [if_pos hbig]
      have HBG := Lib.hid hbig
      have KA := both_bigO HB1.out HBW.out ((HR.out.below HBW.out).mono HBW.out.size) hbig
      have KA := Lib.hid KA
      obtain ⟨⟨b0, b1, b2, b3⟩, ⟨a0, a1, a2, a3⟩, z0, z1, z2, z3, z4⟩ := KC.out W1 (fun _ _ => rfl)
      clear hbig
      rcases hgs with rfl | rfl | rfl | rfl | rfl
      all_goals (
        go_enter Tryz.func21, Tryz.ntmps21
        go_wp2_with fail
        rw [← hW1]
        refine KA.out.mono ?_
        rintro e w4 ⟨rfl, hb4, hk4, hw4⟩
        have HB4 := Lib.hid hb4
        have HK4 := Lib.hid hk4
        have HW4 := Lib.hid hw4
        have KB := both_bigR HB4.out HW4.out ((HR.out.below HW4.out).mono HW4.out.size) HBG.out
        have KB := Lib.hid KB
        obtain ⟨⟨c0, c1, c2, c3⟩, ⟨d0, d1, d2, d3⟩, y0, y1, y2, y3, y4⟩ := KC.out w4 HK4.out
        clear hb4 hk4 hw4 KA b0 b1 b2 b3 a0 a1 a2 a3 z0 z1 z2 z3 z4
        unfold vO at KB
        go_wp2_with fail
        refine KB.out.mono ?_
        rintro e w5 ⟨rfl, hb5, hk5, hw5⟩
        have HB5 := Lib.hid hb5
        have HK5 : Hid (Keep P1 W1 w5) := HK4.out.trans hk5
        have HW5 := Lib.hid hw5
        have HX5 : Hid (Below w5.heap.size w5 (w5.alloc (.cells #[.int .i64 every, .int .i64 keep, .int .i64 now, .slice A sn c] 65))) := (Below.refl _ _).alloc (Nat.le_refl _) _
        have HB6 := Lib.hid (HB5.out.on HX5.out)
        have HK6 : Hid (Keep P1 W1 (w5.alloc (.cells #[.int .i64 every, .int .i64 keep, .int .i64 now, .slice A sn c] 65))) := HK5.out.trans (HB5.out.stands HX5.out)
        have HW6 : Hid (Below W.heap.size W (w5.alloc (.cells #[.int .i64 every, .int .i64 keep, .int .i64 now, .slice A sn c] 65))) := HW5.out.trans (HX5.out.mono HW5.out.size)
        obtain ⟨⟨e0, e1, e2, e3⟩, ⟨f0, f1, f2, f3⟩, x0, x1, x2, x3, x4⟩ := KC.out (w5.alloc (.cells #[.int .i64 every, .int .i64 keep, .int .i64 now, .slice A sn c] 65)) HK6.out
        clear hb5 hk5 hw5 KB
        go_wp2_with fail
        refine bodyPost_ret (v := .tuple #[.agg #[.int .i64 every, .int .i64 keep, .int .i64 now, .slice A sn c], .bool true]) ?_ rfl ⟨.slice A sn c, rfl, HEND.out (w5.alloc (.cells #[.int .i64 every, .int .i64 keep, .int .i64 now, .slice A sn c] 65)) _ _ _ HB6.out HK6.out HW6.out _ ?_⟩
        · unfold results
          rw [hr]
          go_simp
        · repeat (first | exact Chg.refl_ _ | refine Chg.set ?_ _ (by dsimp only) _))
    · have h16 : rows.length ≤ 16 := by omega
      simp only [if_neg hbig]
      have KA := both_addO HB1.out HBW.out (HR.out.below HBW.out) h16 HL.out.1
      obtain ⟨⟨b0, b1, b2, b3⟩, ⟨a0, a1, a2, a3⟩, z0, z1, z2, z3, z4⟩ := KC.out W1 (fun _ _ => rfl)
      obtain ⟨q, hq⟩ : ∃ q, q = refusedR keep now rows := ⟨_, rfl⟩
      rw [← hq] at KA
      have KA := Lib.hid KA
      have HQ := Lib.hid hq
      have H16 := Lib.hid h16
      clear hbig h16 hq
      rcases hgs with rfl | rfl | rfl | rfl | rfl
      all_goals (
        go_enter Tryz.func21, Tryz.ntmps21
        go_wp2_with fail
        rw [← hW1]
        refine KA.out.mono ?_
        rintro e w4 ⟨rfl, hb4, hk4, hw4⟩
        have HB4 := Lib.hid hb4
        have HK4 := Lib.hid hk4
        have HW4 := Lib.hid hw4
        have KB := both_addR HB4.out HW4.out ((HR.out.below HW4.out).mono HW4.out.size) H16.out HT.out.1 HL.out.1 HL.out.2
        rw [← HQ.out] at KB
        have KB := Lib.hid KB
        obtain ⟨⟨c0, c1, c2, c3⟩, ⟨d0, d1, d2, d3⟩, y0, y1, y2, y3, y4⟩ := KC.out w4 HK4.out
        clear hb4 hk4 hw4 KA b0 b1 b2 b3 a0 a1 a2 a3 z0 z1 z2 z3 z4
        unfold vO at KB
        go_wp2_with fail
        refine KB.out.mono ?_
        rintro e w5 ⟨v5, rfl, hb5, hk5, hw5⟩
        have HB5 := Lib.hid hb5
        have HK5 : Hid (Keep P1 W1 w5) := HK4.out.trans hk5
        have HW5 := Lib.hid hw5
        obtain ⟨A5, c5, rfl⟩ := hb5.form
        obtain ⟨n5, hn5⟩ : ∃ n5, n5 = (rS (addR keep now R rows)).length := ⟨_, rfl⟩
        rw [← hn5] at HB5 ⊢
        have HX5 : Hid (Below w5.heap.size w5 (w5.alloc (.cells #[.int .i64 every, .int .i64 keep, .int .i64 now, .slice A5 n5 c5] 65))) := (Below.refl _ _).alloc (Nat.le_refl _) _
        have HB6 := Lib.hid (HB5.out.on HX5.out)
        have HK6 : Hid (Keep P1 W1 (w5.alloc (.cells #[.int .i64 every, .int .i64 keep, .int .i64 now, .slice A5 n5 c5] 65))) := HK5.out.trans (HB5.out.stands HX5.out)
        have HW6 : Hid (Below W.heap.size W (w5.alloc (.cells #[.int .i64 every, .int .i64 keep, .int .i64 now, .slice A5 n5 c5] 65))) := HW5.out.trans (HX5.out.mono HW5.out.size)
        obtain ⟨⟨e0, e1, e2, e3⟩, ⟨f0, f1, f2, f3⟩, x0, x1, x2, x3, x4⟩ := KC.out (w5.alloc (.cells #[.int .i64 every, .int .i64 keep, .int .i64 now, .slice A5 n5 c5] 65)) HK6.out
        clear hb5 hk5 hw5 hn5 KB
        go_wp2_with fail
        refine bodyPost_ret (v := .tuple #[.agg #[.int .i64 every, .int .i64 keep, .int .i64 now, .slice A5 n5 c5], .bool true]) ?_ rfl ⟨.slice A5 n5 c5, rfl, HEND.out (w5.alloc (.cells #[.int .i64 every, .int .i64 keep, .int .i64 now, .slice A5 n5 c5] 65)) _ _ _ HB6.out HK6.out HW6.out _ ?_⟩
        · unfold results
          rw [hr]
          go_simp
        · repeat (first | exact Chg.refl_ _ | refine Chg.set ?_ _ (by dsimp only) _))
  · by_cases hg5 : g = 5
    · have hst : stepA keep (now, R) ⟨kd, rows, fs, nw⟩ = (now, if checkF fs = 0 then delR fs R else R) := by unfold stepA; simp only; rw [hg, if_neg hg4, if_pos hg5]
      rw [hst]
      subst hg5
      clear hst hg4
      by_cases hq : checkF fs = 0
      · simp only [if_pos hq]
        have HCQ := Lib.hid hq
        have KA := both_delO HB1.out HBW.out (HF.out.below HBW.out) (by have := HL.out.1; omega) HL.out.2 hq
        obtain ⟨⟨b0, b1, b2, b3⟩, ⟨a0, a1, a2, a3⟩, z0, z1, z2, z3, z4⟩ := KC.out W1 (fun _ _ => rfl)
        obtain ⟨q, hqd⟩ : ∃ q, q = ((labsOf R).length - (labsOf (delR fs R)).length : Int) := ⟨_, rfl⟩
        rw [← hqd] at KA
        have KA := Lib.hid KA
        have HQ := Lib.hid hqd
        clear hq hqd
        go_enter Tryz.func21, Tryz.ntmps21
        go_wp2_with fail
        rw [← hW1]
        refine KA.out.mono ?_
        rintro e w4 ⟨rfl, hb4, hk4, hw4⟩
        have HB4 := Lib.hid hb4
        have HK4 := Lib.hid hk4
        have HW4 := Lib.hid hw4
        have KB := both_delR HB4.out HW4.out ((HF.out.below HW4.out).mono HW4.out.size) HT.out.2 (by have := HL.out.1; omega) HL.out.2 HCQ.out
        rw [← HQ.out] at KB
        have KB := Lib.hid KB
        obtain ⟨⟨c0, c1, c2, c3⟩, ⟨d0, d1, d2, d3⟩, y0, y1, y2, y3, y4⟩ := KC.out w4 HK4.out
        clear hb4 hk4 hw4 KA b0 b1 b2 b3 a0 a1 a2 a3 z0 z1 z2 z3 z4
        unfold vO at KB
        go_wp2_with fail
        refine KB.out.mono ?_
        rintro e w5 ⟨v5, rfl, hb5, hk5, hw5⟩
        have HB5 := Lib.hid hb5
        have HK5 : Hid (Keep P1 W1 w5) := HK4.out.trans hk5
        have HW5 := Lib.hid hw5
        obtain ⟨A5, c5, rfl⟩ := hb5.form
        obtain ⟨n5, hn5⟩ : ∃ n5, n5 = (rS (delR fs R)).length := ⟨_, rfl⟩
        rw [← hn5] at HB5 ⊢
        have HX5 : Hid (Below w5.heap.size w5 (w5.alloc (.cells #[.int .i64 every, .int .i64 keep, .int .i64 now, .slice A5 n5 c5] 65))) := (Below.refl _ _).alloc (Nat.le_refl _) _
        have HB6 := Lib.hid (HB5.out.on HX5.out)
        have HK6 : Hid (Keep P1 W1 (w5.alloc (.cells #[.int .i64 every, .int .i64 keep, .int .i64 now, .slice A5 n5 c5] 65))) := HK5.out.trans (HB5.out.stands HX5.out)
        have HW6 : Hid (Below W.heap.size W (w5.alloc (.cells #[.int .i64 every, .int .i64 keep, .int .i64 now, .slice A5 n5 c5] 65))) := HW5.out.trans (HX5.out.mono HW5.out.size)
        obtain ⟨⟨e0, e1, e2, e3⟩, ⟨f0, f1, f2, f3⟩, x0, x1, x2, x3, x4⟩ := KC.out (w5.alloc (.cells #[.int .i64 every, .int .i64 keep, .int .i64 now, .slice A5 n5 c5] 65)) HK6.out
        clear hb5 hk5 hw5 hn5 KB
        go_wp2_with fail
        refine bodyPost_ret (v := .tuple #[.agg #[.int .i64 every, .int .i64 keep, .int .i64 now, .slice A5 n5 c5], .bool true]) ?_ rfl ⟨.slice A5 n5 c5, rfl, HEND.out (w5.alloc (.cells #[.int .i64 every, .int .i64 keep, .int .i64 now, .slice A5 n5 c5] 65)) _ _ _ HB6.out HK6.out HW6.out _ ?_⟩
        · unfold results
          rw [hr]
          go_simp
        · repeat (first | exact Chg.refl_ _ | refine Chg.set ?_ _ (by dsimp only) _)
      · simp only [if_neg hq]
        have HCQ := Lib.hid hq
        have KA := both_delF HB1.out HBW.out ((HF.out.below HBW.out).mono HBW.out.size) hq
        obtain ⟨⟨b0, b1, b2, b3⟩, ⟨a0, a1, a2, a3⟩, z0, z1, z2, z3, z4⟩ := KC.out W1 (fun _ _ => rfl)
        obtain ⟨q, hqd⟩ : ∃ q, q = checkF fs := ⟨_, rfl⟩
        rw [← hqd] at KA
        have KA := Lib.hid KA
        have HQ := Lib.hid hqd
        clear hq hqd
        go_enter Tryz.func21, Tryz.ntmps21
        go_wp2_with fail
        rw [← hW1]
        refine KA.out.mono ?_
        rintro e w4 ⟨rfl, hb4, hk4, hw4⟩
        have HB4 := Lib.hid hb4
        have HK4 := Lib.hid hk4
        have HW4 := Lib.hid hw4
        have KB := both_delG HB4.out HW4.out ((HF.out.below HW4.out).mono HW4.out.size) HT.out.2 HCQ.out
        rw [← HQ.out] at KB
        have KB := Lib.hid KB
        obtain ⟨⟨c0, c1, c2, c3⟩, ⟨d0, d1, d2, d3⟩, y0, y1, y2, y3, y4⟩ := KC.out w4 HK4.out
        clear hb4 hk4 hw4 KA b0 b1 b2 b3 a0 a1 a2 a3 z0 z1 z2 z3 z4
        unfold vO at KB
        go_wp2_with fail
        refine KB.out.mono ?_
        rintro e w5 ⟨rfl, hb5, hk5, hw5⟩
        have HB5 := Lib.hid hb5
        have HK5 : Hid (Keep P1 W1 w5) := HK4.out.trans hk5
        have HW5 := Lib.hid hw5
        have HX5 : Hid (Below w5.heap.size w5 (w5.alloc (.cells #[.int .i64 every, .int .i64 keep, .int .i64 now, .slice A sn c] 65))) := (Below.refl _ _).alloc (Nat.le_refl _) _
        have HB6 := Lib.hid (HB5.out.on HX5.out)
        have HK6 : Hid (Keep P1 W1 (w5.alloc (.cells #[.int .i64 every, .int .i64 keep, .int .i64 now, .slice A sn c] 65))) := HK5.out.trans (HB5.out.stands HX5.out)
        have HW6 : Hid (Below W.heap.size W (w5.alloc (.cells #[.int .i64 every, .int .i64 keep, .int .i64 now, .slice A sn c] 65))) := HW5.out.trans (HX5.out.mono HW5.out.size)
        obtain ⟨⟨e0, e1, e2, e3⟩, ⟨f0, f1, f2, f3⟩, x0, x1, x2, x3, x4⟩ := KC.out (w5.alloc (.cells #[.int .i64 every, .int .i64 keep, .int .i64 now, .slice A sn c] 65)) HK6.out
        clear hb5 hk5 hw5 KB
        go_wp2_with fail
        refine bodyPost_ret (v := .tuple #[.agg #[.int .i64 every, .int .i64 keep, .int .i64 now, .slice A sn c], .bool true]) ?_ rfl ⟨.slice A sn c, rfl, HEND.out (w5.alloc (.cells #[.int .i64 every, .int .i64 keep, .int .i64 now, .slice A sn c] 65)) _ _ _ HB6.out HK6.out HW6.out _ ?_⟩
        · unfold results
          rw [hr]
          go_simp
        · repeat (first | exact Chg.refl_ _ | refine Chg.set ?_ _ (by dsimp only) _)
    · have hst : stepA keep (now, R) ⟨kd, rows, fs, nw⟩ = (clkN now nw, R) := by unfold stepA; simp only; rw [hg, if_neg hg4, if_neg hg5]
      rw [hst]
      clear hst
      have n0 : (g == 0) = false := by simp; omega
      have n1 : (g == 1) = false := by simp; omega
      have n2 : (g == 2) = false := by simp; omega
      have n3 : (g == 3) = false := by simp; omega
      have n4 : (g == 4) = false := by simp; omega
      have n5 : (g == 5) = false := by simp; omega
      have KA := both_clock HB1.out HBW.out nw
      obtain ⟨⟨b0, b1, b2, b3⟩, ⟨a0, a1, a2, a3⟩, z0, z1, z2, z3, z4⟩ := KC.out W1 (fun _ _ => rfl)
      obtain ⟨cl, hcl⟩ : ∃ cl, cl = clkN now nw := ⟨_, rfl⟩
      have HCL := Lib.hid hcl
      rw [← hcl] at KA ⊢
      have KA := Lib.hid KA
      clear hcl hg4 hg5
      go_enter Tryz.func21, Tryz.ntmps21
      go_wp2_with fail
      rw [← hW1]
      refine KA.out.mono ?_
      rintro e w4 ⟨rfl, hb4, hk4, hw4⟩
      have HB4 := Lib.hid hb4
      have HK4 := Lib.hid hk4
      have HW4 := Lib.hid hw4
      have KB := ref_clock every keep now nw A sn c w4
      rw [← HCL.out] at KB
      have KB := Lib.hid KB
      obtain ⟨⟨c0, c1, c2, c3⟩, ⟨d0, d1, d2, d3⟩, y0, y1, y2, y3, y4⟩ := KC.out w4 HK4.out
      clear hb4 hk4 hw4 KA b0 b1 b2 b3 a0 a1 a2 a3 z0 z1 z2 z3 z4
      unfold vO at KB
      go_wp2_with fail
      refine KB.out.mono ?_
      rintro e w5 ⟨rfl, hB5⟩
      have HB6 := Lib.hid (HB4.out.on hB5)
      have HK6 : Hid (Keep P1 W1 w5) := HK4.out.trans (HB4.out.stands hB5)
      have HW6 : Hid (Below W.heap.size W w5) := HW4.out.trans (hB5.mono HW4.out.size)
      obtain ⟨⟨e0, e1, e2, e3⟩, ⟨f0, f1, f2, f3⟩, x0, x1, x2, x3, x4⟩ := KC.out w5 HK6.out
      clear hB5 KB
      go_wp2_with fail
      refine bodyPost_ret (v := .tuple #[.agg #[.int .i64 every, .int .i64 keep, .int .i64 cl, .slice A sn c], .bool true]) ?_ rfl ⟨.slice A sn c, rfl, HEND.out w5 _ _ _ HB6.out HK6.out HW6.out _ ?_⟩
      · unfold results
        rw [hr]
        go_simp
      · repeat (first | exact Chg.refl_ _ | refine Chg.set ?_ _ (by dsimp only) _)
end Go.Proofs.YtkgcbeokfilehaaGreatDoor

/-
  A script in plain words: what it comes to.
-/
namespace Go.Proofs.YtkgcbeokfilehaaGreatDoor
open Go.RowKit Go.Sort Go.Maps
/-- What k acts come to. -/
def playS (keep : Int) (l : List ActS) : Int × Told := l.foldl (stepA keep) (0, [])
theorem play_take {keep : Int} {l : List ActS} {k : Nat} {y : ActS} (hk : k < l.length) (hy : y = l[k]) : playS keep (l.take (k + 1)) = stepA keep (playS keep (l.take k)) y := by
  unfold playS
  rw [List.take_succ_eq_append_getElem hk, ← hy, List.foldl_append]; rfl
theorem stepA_len (keep : Int) (q : Int × Told) (a : ActS) : (stepA keep q a).2.length ≤ q.2.length + a.rows.length := by
  unfold stepA
  split
  · show (if 16 < a.rows.length then q.2 else addR keep q.1 q.2 a.rows).length ≤ _
    split
    · omega
    · exact addR_length _ _ _ _
  · split
    · show (if checkF a.fs = 0 then delR a.fs q.2 else q.2).length ≤ _
      split
      · have := delR_length a.fs q.2; omega
      · omega
    · show q.2.length ≤ _; omega
theorem mem_delR {fs : List Fil} {R : Told} {x : Lbs × Smp} (h : x ∈ delR fs R) : x ∈ R := (List.mem_filter.1 h).1
theorem stepA_mem {keep : Int} {q : Int × Told} {a : ActS} (Q : Told → Prop) (h : Q q.2) (h1 : Q (addR keep q.1 q.2 a.rows)) (h2 : Q (delR a.fs q.2)) : Q (stepA keep q a).2 := by
  unfold stepA
  split
  · show Q (if 16 < a.rows.length then q.2 else addR keep q.1 q.2 a.rows)
    split
    · exact h
    · exact h1
  · split
    · show Q (if checkF a.fs = 0 then delR a.fs q.2 else q.2)
      split
      · exact h2
      · exact h
    · exact h
/-- What is had of what was played. -/
structure Played (l : List ActS) (q : Int × Told) : Prop where
  len : q.2.length ≤ (l.map (fun a => a.rows.length)).sum
  few : FewL q.2
  good : GoodR q.2
theorem played (keep : Int) : ∀ (l : List ActS) (q : Int × Told) (m : Nat), q.2.length ≤ m → FewL q.2 → GoodR q.2 → (l.foldl (stepA keep) q).2.length ≤ m + (l.map (fun a => a.rows.length)).sum ∧ FewL (l.foldl (stepA keep) q).2 ∧ GoodR (l.foldl (stepA keep) q).2
  | [], q, m, h1, h2, h3 => ⟨by simpa using h1, h2, h3⟩
  | a :: l, q, m, h1, h2, h3 => by
    have h4 := stepA_len keep q a
    have h5 := played keep l (stepA keep q a) (m + a.rows.length) (by omega) (stepA_mem FewL h2 h2.took (fun x hx => h2 x (mem_delR hx))) (stepA_mem GoodR h3 h3.add (fun x hx => h3 x (mem_delR hx)))
    rw [List.foldl_cons, List.map_cons, List.sum_cons]
    exact ⟨by omega, h5.2⟩
theorem play_played (keep : Int) (l : List ActS) : Played l (playS keep l) := by
  have := played keep l (0, []) 0 (Nat.le_refl _) FewL.nil GoodR.nil
  exact ⟨by simpa [playS] using this.1, this.2.1, this.2.2⟩
theorem sum_take_le : ∀ (l : List Nat) (k : Nat), (l.take k).sum ≤ l.sum
  | [], k => by simp
  | a :: l, 0 => by simp
  | a :: l, k + 1 => by have := sum_take_le l k; simp; omega
/-- What few acts come to is few. -/
theorem play_few {l : List ActS} (h : FewA l) (keep : Int) (k : Nat) : (playS keep (l.take k)).2.length ≤ 150 ∧ FewL (playS keep (l.take k)).2 ∧ GoodR (playS keep (l.take k)).2 := by
  have h1 := play_played keep (l.take k)
  have h2 := sum_take_le (l.map (fun a => a.rows.length)) k
  rw [← List.map_take] at h2
  have := h.sum
  have := h1.len
  exact ⟨by omega, h1.few, h1.good⟩
end Go.Proofs.YtkgcbeokfilehaaGreatDoor
