/-
  oracle.Takes, oracle.Now, oracle.New, oracle.Clock.
-/
import Derived.Test.YtkgcbeokfilehaaGreatDoorVgd
import Derived.Test.YtkgcbeokfilehaaGreatDoorVid
namespace Go.Proofs.YtkgcbeokfilehaaGreatDoor
open Go.RowKit Go.Sort Go.Shelf
theorem Orc.cells {w : World} {S : Nat → Prop} {B o b : Nat} {every keep now : Int} {X : Sers} {R : Told} (h : Orc w S B o b every keep now X R) :
    w.cell? ⟨o, 0, none⟩ = some (.int .i64 every) ∧ w.cell? ⟨o, 1, none⟩ = some (.int .i64 keep) ∧ w.cell? ⟨o, 2, none⟩ = some (.int .i64 now) ∧ w.cell? ⟨o, 3, none⟩ = some (.map (some b)) := by
  have := h.cell
  refine ⟨?_, ?_, ?_, ?_⟩ <;> simp [World.cell?, this]
theorem Orc.free {w : World} {S : Nat → Prop} {B o b : Nat} {every keep now : Int} {X : Sers} {R : Told} (h : Orc w S B o b every keep now X R) (i : Nat) : w.frozen? ⟨o, i, none⟩ = false := by
  simp [World.frozen?, h.cell]
set_option maxRecDepth 100000 in
set_option maxHeartbeats 4000000 in
/-- oracle.Takes. -/
theorem takes_walkC (o : Nat) (keep now : Int) (lv : Value) (l : Lbs) (s : Smp) (W : World) (hk : W.cell? ⟨o, 1, none⟩ = some (.int .i64 keep)) (hn : W.cell? ⟨o, 2, none⟩ = some (.int .i64 now))
    (hbd : 1 ≤ keep ∧ keep ≤ 1099511627776 ∧ 0 ≤ now ∧ now ≤ 1099511627776) (hR : RdL W W.heap.size lv l) (hz : Nz lv) :
    Calls Tryz.prog 22 #[.pointer (some ⟨o, 0, none⟩), vR lv s] W fun e w' => e = .returned (.bool (takesR keep now (l, s))) ∧ Below W.heap.size W w' := by
  obtain ⟨t, m, x, z⟩ := s
  obtain ⟨W1, hW1⟩ : ∃ W1, W1 = W.alloc (.cells #[lv, .int .i64 t, .int .i64 m, .int .i64 x, .int .i64 z] 28) := ⟨_, rfl⟩
  have HE1 : Hid (Ext W W1) := by show Ext _ _; rw [hW1]; exact (Ext.refl W).alloc _
  have hsz : W1.heap.size = W.heap.size + 1 := by rw [hW1]; simp
  have KC := Lib.hid (canon_walk lv l W1 ((hR.below HE1.out.below).mono HE1.out.size) hz)
  have hob : o < W.heap.size := lt_of_cell hk
  have HK : Hid (∀ w', Below W1.heap.size W1 w' → w'.cell? ⟨W.heap.size, 1, none⟩ = some (.int .i64 t) ∧ w'.cell? ⟨W.heap.size, 2, none⟩ = some (.int .i64 m) ∧ w'.cell? ⟨W.heap.size, 3, none⟩ = some (.int .i64 x) ∧ w'.cell? ⟨W.heap.size, 4, none⟩ = some (.int .i64 z) ∧ w'.cell? ⟨o, 1, none⟩ = some (.int .i64 keep) ∧ w'.cell? ⟨o, 2, none⟩ = some (.int .i64 now)) := fun w' h => by
    have hb : W.heap.size < W1.heap.size := by omega
    refine ⟨(h.cell hb).trans ?_, (h.cell hb).trans ?_, (h.cell hb).trans ?_, (h.cell hb).trans ?_, (h.cell (by omega : o < W1.heap.size)).trans (HE1.out.cell_some hk), (h.cell (by omega : o < W1.heap.size)).trans (HE1.out.cell_some hn)⟩ <;> (rw [hW1]; simp)
  have KR : Hid (∀ w, Calls Tryz.prog 51 #[.agg #[.int .i64 t, .int .i64 m, .int .i64 x, .int .i64 z]] w fun e w' => e = .returned (.bool (rightS (t, m, x, z))) ∧ Ext w w') := fun w => dright_walk (t, m, x, z) w
  obtain ⟨q, hq⟩ : ∃ q, q = rightS (t, m, x, z) := ⟨_, rfl⟩
  have hT : takesR keep now (l, (t, m, x, z)) = (mayL l && q && decide (t ≤ now + 100) && decide (now - keep < t)) := by rw [hq]; rfl
  rw [hT]
  rw [← hq] at KR
  obtain ⟨p, hp⟩ : ∃ p, p = mayL l := ⟨_, rfl⟩
  have hce : canE l = if p = true then 0 else 70 := by rw [hp]; rfl
  rw [hce] at KC
  rw [← hp]
  have k1 : IntKind.i64.wrap (now + 100) = now + 100 := IntWalk.i64_in _ (by omega)
  have k2 : IntKind.i64.wrap (now - keep) = now - keep := IntWalk.i64_in _ (by omega)
  have HW1 := Lib.hid hW1
  clear hq hT hp hce hk hn hbd hR hz hob hsz hW1
  unfold vR
  cases p with
  | false =>
    have KC2 : Hid (Calls Tryz.prog 33 #[lv] W1 fun e w' => (∃ r, e = .returned (.tuple #[r, .int .i64 70]) ∧ OwnL w' W1.heap.size r (canV l)) ∧ Below W1.heap.size W1 w') := by have := KC.out; show Calls _ _ _ _ _; simpa using this
    clear KC
    go_enter Tryz.func22, Tryz.ntmps22
    go_wp2_with fail
    rw [← HW1.out]
    refine KC2.out.mono ?_
    rintro e w2 ⟨⟨r, rfl, _⟩, hB2⟩
    go_wp2_with fail
    refine wp_region_held_drew (S := fun w' => w'.cell? ⟨W.heap.size, 1, none⟩ = some (.int .i64 t) ∧ w'.cell? ⟨W.heap.size, 2, none⟩ = some (.int .i64 m) ∧ w'.cell? ⟨W.heap.size, 3, none⟩ = some (.int .i64 x) ∧ w'.cell? ⟨W.heap.size, 4, none⟩ = some (.int .i64 z) ∧ w'.cell? ⟨o, 1, none⟩ = some (.int .i64 keep) ∧ w'.cell? ⟨o, 2, none⟩ = some (.int .i64 now) ∧ Below W1.heap.size W1 w') (by kernel_rfl) ?_ (fun hHeld => ?_)
    · (try dsimp only)
      (have hd := Below.drew hB2; exact ⟨(HK.out _ hd).1, (HK.out _ hd).2.1, (HK.out _ hd).2.2.1, (HK.out _ hd).2.2.2.1, (HK.out _ hd).2.2.2.2.1, (HK.out _ hd).2.2.2.2.2, hd⟩)
    first
    | (refine takeW (i := 0) (v := ?_) rfl (by kernel_rfl) (by kernel_rfl) (by kernel_rfl) (fun _ _ _ h => h) (by rfl) ?_ (by assumption) ?_
       rotate_left
       · (intro w hSw; (try dsimp only at hSw); go_simp; try with_reducible rfl)
       simp only [Act.put, sA, sZ, sS])
    | (refine takeU (i := 0) rfl (by kernel_rfl) (by kernel_rfl) (by kernel_rfl) (fun _ _ _ h => h) (by rfl) (by assumption) ?_
       simp only [Act.put, sA, sZ, sS])
    first
    | (refine takeW (i := 1) (v := ?_) rfl (by kernel_rfl) (by kernel_rfl) (by kernel_rfl) (fun _ _ _ h => h) (by rfl) ?_ (by assumption) ?_
       rotate_left
       · (intro w hSw; (try dsimp only at hSw); go_simp; try with_reducible rfl)
       simp only [Act.put, sA, sZ, sS])
    | (refine takeU (i := 1) rfl (by kernel_rfl) (by kernel_rfl) (by kernel_rfl) (fun _ _ _ h => h) (by rfl) (by assumption) ?_
       simp only [Act.put, sA, sZ, sS])
    first
    | (refine takeW (i := 2) (v := ?_) rfl (by kernel_rfl) (by kernel_rfl) (by kernel_rfl) (fun _ _ _ h => h) (by rfl) ?_ (by assumption) ?_
       rotate_left
       · (intro w hSw; (try dsimp only at hSw); go_simp; try with_reducible rfl)
       simp only [Act.put, sA, sZ, sS])
    | (refine takeU (i := 2) rfl (by kernel_rfl) (by kernel_rfl) (by kernel_rfl) (fun _ _ _ h => h) (by rfl) (by assumption) ?_
       simp only [Act.put, sA, sZ, sS])
    first
    | (refine takeW (i := 3) (v := ?_) rfl (by kernel_rfl) (by kernel_rfl) (by kernel_rfl) (fun _ _ _ h => h) (by rfl) ?_ (by assumption) ?_
       rotate_left
       · (intro w hSw; (try dsimp only at hSw); go_simp; try with_reducible rfl)
       simp only [Act.put, sA, sZ, sS])
    | (refine takeU (i := 3) rfl (by kernel_rfl) (by kernel_rfl) (by kernel_rfl) (fun _ _ _ h => h) (by rfl) (by assumption) ?_
       simp only [Act.put, sA, sZ, sS])
    first
    | (refine takeW (i := 4) (v := ?_) rfl (by kernel_rfl) (by kernel_rfl) (by kernel_rfl) (fun _ _ _ h => h) (by rfl) ?_ (by assumption) ?_
       rotate_left
       · (intro w hSw; (try dsimp only at hSw); go_simp; try with_reducible rfl)
       simp only [Act.put, sA, sZ, sS])
    | (refine takeU (i := 4) rfl (by kernel_rfl) (by kernel_rfl) (by kernel_rfl) (fun _ _ _ h => h) (by rfl) (by assumption) ?_
       simp only [Act.put, sA, sZ, sS])
    first
    | (refine takeW (i := 5) (v := ?_) rfl (by kernel_rfl) (by kernel_rfl) (by kernel_rfl) (fun _ _ _ h => h) (by rfl) ?_ (by assumption) ?_
       rotate_left
       · (intro w hSw; (try dsimp only at hSw); go_simp; try with_reducible rfl)
       simp only [Act.put, sA, sZ, sS])
    | (refine takeU (i := 5) rfl (by kernel_rfl) (by kernel_rfl) (by kernel_rfl) (fun _ _ _ h => h) (by rfl) (by assumption) ?_
       simp only [Act.put, sA, sZ, sS])
    first
    | (refine takeW (i := 6) (v := ?_) rfl (by kernel_rfl) (by kernel_rfl) (by kernel_rfl) (fun _ _ _ h => h) (by rfl) ?_ (by assumption) ?_
       rotate_left
       · (intro w hSw; (try dsimp only at hSw); go_simp; try with_reducible rfl)
       simp only [Act.put, sA, sZ, sS])
    | (refine takeU (i := 6) rfl (by kernel_rfl) (by kernel_rfl) (by kernel_rfl) (fun _ _ _ h => h) (by rfl) (by assumption) ?_
       simp only [Act.put, sA, sZ, sS])
    first
    | (refine takeW (i := 7) (v := ?_) rfl (by kernel_rfl) (by kernel_rfl) (by kernel_rfl) (fun _ _ _ h => h) (by rfl) ?_ (by assumption) ?_
       rotate_left
       · (intro w hSw; (try dsimp only at hSw); go_simp; try with_reducible rfl)
       simp only [Act.put, sA, sZ, sS])
    | (refine takeU (i := 7) rfl (by kernel_rfl) (by kernel_rfl) (by kernel_rfl) (fun _ _ _ h => h) (by rfl) (by assumption) ?_
       simp only [Act.put, sA, sZ, sS])
    first
    | (refine takeW (i := 8) (v := ?_) rfl (by kernel_rfl) (by kernel_rfl) (by kernel_rfl) (fun _ _ _ h => h) (by rfl) ?_ (by assumption) ?_
       rotate_left
       · (intro w hSw; (try dsimp only at hSw); go_simp; try with_reducible rfl)
       simp only [Act.put, sA, sZ, sS])
    | (refine takeU (i := 8) rfl (by kernel_rfl) (by kernel_rfl) (by kernel_rfl) (fun _ _ _ h => h) (by rfl) (by assumption) ?_
       simp only [Act.put, sA, sZ, sS])
    first
    | (refine takeW (i := 9) (v := ?_) rfl (by kernel_rfl) (by kernel_rfl) (by kernel_rfl) (fun _ _ _ h => h) (by rfl) ?_ (by assumption) ?_
       rotate_left
       · (intro w hSw; (try dsimp only at hSw); go_simp; try with_reducible rfl)
       simp only [Act.put, sA, sZ, sS])
    | (refine takeU (i := 9) rfl (by kernel_rfl) (by kernel_rfl) (by kernel_rfl) (fun _ _ _ h => h) (by rfl) (by assumption) ?_
       simp only [Act.put, sA, sZ, sS])
    first
    | (refine takeW (i := 10) (v := ?_) rfl (by kernel_rfl) (by kernel_rfl) (by kernel_rfl) (fun _ _ _ h => h) (by rfl) ?_ (by assumption) ?_
       rotate_left
       · (intro w hSw; (try dsimp only at hSw); go_simp; try with_reducible rfl)
       simp only [Act.put, sA, sZ, sS])
    | (refine takeU (i := 10) rfl (by kernel_rfl) (by kernel_rfl) (by kernel_rfl) (fun _ _ _ h => h) (by rfl) (by assumption) ?_
       simp only [Act.put, sA, sZ, sS])
    first
    | (refine takeW (i := 11) (v := ?_) rfl (by kernel_rfl) (by kernel_rfl) (by kernel_rfl) (fun _ _ _ h => h) (by rfl) ?_ (by assumption) ?_
       rotate_left
       · (intro w hSw; (try dsimp only at hSw); go_simp; try with_reducible rfl)
       simp only [Act.put, sA, sZ, sS])
    | (refine takeU (i := 11) rfl (by kernel_rfl) (by kernel_rfl) (by kernel_rfl) (fun _ _ _ h => h) (by rfl) (by assumption) ?_
       simp only [Act.put, sA, sZ, sS])
    first
    | (refine takeU (i := 12) rfl (by kernel_rfl) (by kernel_rfl) (by kernel_rfl) (fun _ _ _ h => h) (by rfl) (by assumption) ?_
       simp only [Act.put, sA, sZ, sS])
    | (refine takeC (i := 12) rfl (by kernel_rfl) (by rfl) (fun K hK => ?_)
       go_simp
       (go_at_call 51; refine (KR.out _).mono ?_; rintro e w3 ⟨rfl, hN⟩; have hB3 := (Below.drew hB2).trans (hN.below.mono (Below.drew hB2).size))
       try go_wp2_with fail
       refine hK.out _ _ ?_ (fun hHeld => ?_)
       · (try dsimp only)
         (have hd := hB3; exact ⟨(HK.out _ hd).1, (HK.out _ hd).2.1, (HK.out _ hd).2.2.1, (HK.out _ hd).2.2.2.1, (HK.out _ hd).2.2.2.2.1, (HK.out _ hd).2.2.2.2.2, hd⟩)
       clear hK K
       try simp only [Act.put, sA, sZ, sS])
    first
    | (refine takeW (i := 13) (v := ?_) rfl (by kernel_rfl) (by kernel_rfl) (by kernel_rfl) (fun _ _ _ h => h) (by rfl) ?_ (by assumption) ?_
       rotate_left
       · (intro w hSw; (try dsimp only at hSw); go_simp; try with_reducible rfl)
       simp only [Act.put, sA, sZ, sS])
    | (refine takeU (i := 13) rfl (by kernel_rfl) (by kernel_rfl) (by kernel_rfl) (fun _ _ _ h => h) (by rfl) (by assumption) ?_
       simp only [Act.put, sA, sZ, sS])
    first
    | (refine takeW (i := 14) (v := ?_) rfl (by kernel_rfl) (by kernel_rfl) (by kernel_rfl) (fun _ _ _ h => h) (by rfl) ?_ (by assumption) ?_
       rotate_left
       · (intro w hSw; (try dsimp only at hSw); go_simp; try with_reducible rfl)
       simp only [Act.put, sA, sZ, sS])
    | (refine takeU (i := 14) rfl (by kernel_rfl) (by kernel_rfl) (by kernel_rfl) (fun _ _ _ h => h) (by rfl) (by assumption) ?_
       simp only [Act.put, sA, sZ, sS])
    first
    | (refine takeW (i := 15) (v := ?_) rfl (by kernel_rfl) (by kernel_rfl) (by kernel_rfl) (fun _ _ _ h => h) (by rfl) ?_ (by assumption) ?_
       rotate_left
       · (intro w hSw; (try dsimp only at hSw); go_simp; try with_reducible rfl)
       simp only [Act.put, sA, sZ, sS])
    | (refine takeU (i := 15) rfl (by kernel_rfl) (by kernel_rfl) (by kernel_rfl) (fun _ _ _ h => h) (by rfl) (by assumption) ?_
       simp only [Act.put, sA, sZ, sS])
    first
    | (refine takeW (i := 16) (v := ?_) rfl (by kernel_rfl) (by kernel_rfl) (by kernel_rfl) (fun _ _ _ h => h) (by rfl) ?_ (by assumption) ?_
       rotate_left
       · (intro w hSw; (try dsimp only at hSw); go_simp; try with_reducible rfl)
       simp only [Act.put, sA, sZ, sS])
    | (refine takeU (i := 16) rfl (by kernel_rfl) (by kernel_rfl) (by kernel_rfl) (fun _ _ _ h => h) (by rfl) (by assumption) ?_
       simp only [Act.put, sA, sZ, sS])
    first
    | (refine takeW (i := 17) (v := ?_) rfl (by kernel_rfl) (by kernel_rfl) (by kernel_rfl) (fun _ _ _ h => h) (by rfl) ?_ (by assumption) ?_
       rotate_left
       · (intro w hSw; (try dsimp only at hSw); go_simp; try with_reducible rfl)
       simp only [Act.put, sA, sZ, sS])
    | (refine takeU (i := 17) rfl (by kernel_rfl) (by kernel_rfl) (by kernel_rfl) (fun _ _ _ h => h) (by rfl) (by assumption) ?_
       simp only [Act.put, sA, sZ, sS])
    first
    | (refine takeW (i := 18) (v := ?_) rfl (by kernel_rfl) (by kernel_rfl) (by kernel_rfl) (fun _ _ _ h => h) (by rfl) ?_ (by assumption) ?_
       rotate_left
       · (intro w hSw; (try dsimp only at hSw); go_simp; try with_reducible rfl)
       simp only [Act.put, sA, sZ, sS])
    | (refine takeU (i := 18) rfl (by kernel_rfl) (by kernel_rfl) (by kernel_rfl) (fun _ _ _ h => h) (by rfl) (by assumption) ?_
       simp only [Act.put, sA, sZ, sS])
    first
    | (refine takeW (i := 19) (v := ?_) rfl (by kernel_rfl) (by kernel_rfl) (by kernel_rfl) (fun _ _ _ h => h) (by rfl) ?_ (by assumption) ?_
       rotate_left
       · (intro w hSw; (try dsimp only at hSw); go_simp; try with_reducible rfl)
       simp only [Act.put, sA, sZ, sS])
    | (refine takeU (i := 19) rfl (by kernel_rfl) (by kernel_rfl) (by kernel_rfl) (fun _ _ _ h => h) (by rfl) (by assumption) ?_
       simp only [Act.put, sA, sZ, sS])
    first
    | (refine takeW (i := 20) (v := ?_) rfl (by kernel_rfl) (by kernel_rfl) (by kernel_rfl) (fun _ _ _ h => h) (by rfl) ?_ (by assumption) ?_
       rotate_left
       · (intro w hSw; (try dsimp only at hSw); go_simp; try with_reducible rfl)
       simp only [Act.put, sA, sZ, sS])
    | (refine takeU (i := 20) rfl (by kernel_rfl) (by kernel_rfl) (by kernel_rfl) (fun _ _ _ h => h) (by rfl) (by assumption) ?_
       simp only [Act.put, sA, sZ, sS])
    first
    | (refine takeW (i := 21) (v := ?_) rfl (by kernel_rfl) (by kernel_rfl) (by kernel_rfl) (fun _ _ _ h => h) (by rfl) ?_ (by assumption) ?_
       rotate_left
       · (intro w hSw; (try dsimp only at hSw); go_simp; try with_reducible rfl)
       simp only [Act.put, sA, sZ, sS])
    | (refine takeU (i := 21) rfl (by kernel_rfl) (by kernel_rfl) (by kernel_rfl) (fun _ _ _ h => h) (by rfl) (by assumption) ?_
       simp only [Act.put, sA, sZ, sS])
    first
    | (refine takeW (i := 22) (v := ?_) rfl (by kernel_rfl) (by kernel_rfl) (by kernel_rfl) (fun _ _ _ h => h) (by rfl) ?_ (by assumption) ?_
       rotate_left
       · (intro w hSw; (try dsimp only at hSw); go_simp; try with_reducible rfl)
       simp only [Act.put, sA, sZ, sS])
    | (refine takeU (i := 22) rfl (by kernel_rfl) (by kernel_rfl) (by kernel_rfl) (fun _ _ _ h => h) (by rfl) (by assumption) ?_
       simp only [Act.put, sA, sZ, sS])
    first
    | (refine takeW (i := 23) (v := ?_) rfl (by kernel_rfl) (by kernel_rfl) (by kernel_rfl) (fun _ _ _ h => h) (by rfl) ?_ (by assumption) ?_
       rotate_left
       · (intro w hSw; (try dsimp only at hSw); go_simp; try with_reducible rfl)
       simp only [Act.put, sA, sZ, sS])
    | (refine takeU (i := 23) rfl (by kernel_rfl) (by kernel_rfl) (by kernel_rfl) (fun _ _ _ h => h) (by rfl) (by assumption) ?_
       simp only [Act.put, sA, sZ, sS])
    first
    | (refine takeW (i := 24) (v := ?_) rfl (by kernel_rfl) (by kernel_rfl) (by kernel_rfl) (fun _ _ _ h => h) (by rfl) ?_ (by assumption) ?_
       rotate_left
       · (intro w hSw; (try dsimp only at hSw); go_simp; try with_reducible rfl)
       simp only [Act.put, sA, sZ, sS])
    | (refine takeU (i := 24) rfl (by kernel_rfl) (by kernel_rfl) (by kernel_rfl) (fun _ _ _ h => h) (by rfl) (by assumption) ?_
       simp only [Act.put, sA, sZ, sS])
    first
    | (refine takeW (i := 25) (v := ?_) rfl (by kernel_rfl) (by kernel_rfl) (by kernel_rfl) (fun _ _ _ h => h) (by rfl) ?_ (by assumption) ?_
       rotate_left
       · (intro w hSw; (try dsimp only at hSw); go_simp; try with_reducible rfl)
       simp only [Act.put, sA, sZ, sS])
    | (refine takeU (i := 25) rfl (by kernel_rfl) (by kernel_rfl) (by kernel_rfl) (fun _ _ _ h => h) (by rfl) (by assumption) ?_
       simp only [Act.put, sA, sZ, sS])
    first
    | (refine takeW (i := 26) (v := ?_) rfl (by kernel_rfl) (by kernel_rfl) (by kernel_rfl) (fun _ _ _ h => h) (by rfl) ?_ (by assumption) ?_
       rotate_left
       · (intro w hSw; (try dsimp only at hSw); go_simp; try with_reducible rfl)
       simp only [Act.put, sA, sZ, sS])
    | (refine takeU (i := 26) rfl (by kernel_rfl) (by kernel_rfl) (by kernel_rfl) (fun _ _ _ h => h) (by rfl) (by assumption) ?_
       simp only [Act.put, sA, sZ, sS])
    first
    | (refine takeW (i := 27) (v := ?_) rfl (by kernel_rfl) (by kernel_rfl) (by kernel_rfl) (fun _ _ _ h => h) (by rfl) ?_ (by assumption) ?_
       rotate_left
       · (intro w hSw; (try dsimp only at hSw); go_simp; try with_reducible rfl)
       simp only [Act.put, sA, sZ, sS])
    | (refine takeU (i := 27) rfl (by kernel_rfl) (by kernel_rfl) (by kernel_rfl) (fun _ _ _ h => h) (by rfl) (by assumption) ?_
       simp only [Act.put, sA, sZ, sS])
    first
    | (refine takeW (i := 28) (v := ?_) rfl (by kernel_rfl) (by kernel_rfl) (by kernel_rfl) (fun _ _ _ h => h) (by rfl) ?_ (by assumption) ?_
       rotate_left
       · (intro w hSw; (try dsimp only at hSw); go_simp; try with_reducible rfl)
       simp only [Act.put, sA, sZ, sS])
    | (refine takeU (i := 28) rfl (by kernel_rfl) (by kernel_rfl) (by kernel_rfl) (fun _ _ _ h => h) (by rfl) (by assumption) ?_
       simp only [Act.put, sA, sZ, sS])
    first
    | (refine takeW (i := 29) (v := ?_) rfl (by kernel_rfl) (by kernel_rfl) (by kernel_rfl) (fun _ _ _ h => h) (by rfl) ?_ (by assumption) ?_
       rotate_left
       · (intro w hSw; (try dsimp only at hSw); go_simp; try with_reducible rfl)
       simp only [Act.put, sA, sZ, sS])
    | (refine takeU (i := 29) rfl (by kernel_rfl) (by kernel_rfl) (by kernel_rfl) (fun _ _ _ h => h) (by rfl) (by assumption) ?_
       simp only [Act.put, sA, sZ, sS])
    first
    | (refine takeW (i := 30) (v := ?_) rfl (by kernel_rfl) (by kernel_rfl) (by kernel_rfl) (fun _ _ _ h => h) (by rfl) ?_ (by assumption) ?_
       rotate_left
       · (intro w hSw; (try dsimp only at hSw); go_simp; try with_reducible rfl)
       simp only [Act.put, sA, sZ, sS])
    | (refine takeU (i := 30) rfl (by kernel_rfl) (by kernel_rfl) (by kernel_rfl) (fun _ _ _ h => h) (by rfl) (by assumption) ?_
       simp only [Act.put, sA, sZ, sS])
    first
    | (refine takeW (i := 31) (v := ?_) rfl (by kernel_rfl) (by kernel_rfl) (by kernel_rfl) (fun _ _ _ h => h) (by rfl) ?_ (by assumption) ?_
       rotate_left
       · (intro w hSw; (try dsimp only at hSw); go_simp; try with_reducible rfl)
       simp only [Act.put, sA, sZ, sS])
    | (refine takeU (i := 31) rfl (by kernel_rfl) (by kernel_rfl) (by kernel_rfl) (fun _ _ _ h => h) (by rfl) (by assumption) ?_
       simp only [Act.put, sA, sZ, sS])
    first
    | (refine takeW (i := 32) (v := ?_) rfl (by kernel_rfl) (by kernel_rfl) (by kernel_rfl) (fun _ _ _ h => h) (by rfl) ?_ (by assumption) ?_
       rotate_left
       · (intro w hSw; (try dsimp only at hSw); go_simp; try with_reducible rfl)
       simp only [Act.put, sA, sZ, sS])
    | (refine takeU (i := 32) rfl (by kernel_rfl) (by kernel_rfl) (by kernel_rfl) (fun _ _ _ h => h) (by rfl) (by assumption) ?_
       simp only [Act.put, sA, sZ, sS])
    first
    | (refine takeW (i := 33) (v := ?_) rfl (by kernel_rfl) (by kernel_rfl) (by kernel_rfl) (fun _ _ _ h => h) (by rfl) ?_ (by assumption) ?_
       rotate_left
       · (intro w hSw; (try dsimp only at hSw); go_simp; try with_reducible rfl)
       simp only [Act.put, sA, sZ, sS])
    | (refine takeU (i := 33) rfl (by kernel_rfl) (by kernel_rfl) (by kernel_rfl) (fun _ _ _ h => h) (by rfl) (by assumption) ?_
       simp only [Act.put, sA, sZ, sS])
    first
    | (refine takeW (i := 34) (v := ?_) rfl (by kernel_rfl) (by kernel_rfl) (by kernel_rfl) (fun _ _ _ h => h) (by rfl) ?_ (by assumption) ?_
       rotate_left
       · (intro w hSw; (try dsimp only at hSw); go_simp; try with_reducible rfl)
       simp only [Act.put, sA, sZ, sS])
    | (refine takeU (i := 34) rfl (by kernel_rfl) (by kernel_rfl) (by kernel_rfl) (fun _ _ _ h => h) (by rfl) (by assumption) ?_
       simp only [Act.put, sA, sZ, sS])
    first
    | (refine takeW (i := 35) (v := ?_) rfl (by kernel_rfl) (by kernel_rfl) (by kernel_rfl) (fun _ _ _ h => h) (by rfl) ?_ (by assumption) ?_
       rotate_left
       · (intro w hSw; (try dsimp only at hSw); go_simp; try with_reducible rfl)
       simp only [Act.put, sA, sZ, sS])
    | (refine takeU (i := 35) rfl (by kernel_rfl) (by kernel_rfl) (by kernel_rfl) (fun _ _ _ h => h) (by rfl) (by assumption) ?_
       simp only [Act.put, sA, sZ, sS])
    first
    | (refine takeW (i := 36) (v := ?_) rfl (by kernel_rfl) (by kernel_rfl) (by kernel_rfl) (fun _ _ _ h => h) (by rfl) ?_ (by assumption) ?_
       rotate_left
       · (intro w hSw; (try dsimp only at hSw); go_simp; try with_reducible rfl)
       simp only [Act.put, sA, sZ, sS])
    | (refine takeU (i := 36) rfl (by kernel_rfl) (by kernel_rfl) (by kernel_rfl) (fun _ _ _ h => h) (by rfl) (by assumption) ?_
       simp only [Act.put, sA, sZ, sS])
    first
    | (refine takeW (i := 37) (v := ?_) rfl (by kernel_rfl) (by kernel_rfl) (by kernel_rfl) (fun _ _ _ h => h) (by rfl) ?_ (by assumption) ?_
       rotate_left
       · (intro w hSw; (try dsimp only at hSw); go_simp; try with_reducible rfl)
       simp only [Act.put, sA, sZ, sS])
    | (refine takeU (i := 37) rfl (by kernel_rfl) (by kernel_rfl) (by kernel_rfl) (fun _ _ _ h => h) (by rfl) (by assumption) ?_
       simp only [Act.put, sA, sZ, sS])
    first
    | (refine takeW (i := 38) (v := ?_) rfl (by kernel_rfl) (by kernel_rfl) (by kernel_rfl) (fun _ _ _ h => h) (by rfl) ?_ (by assumption) ?_
       rotate_left
       · (intro w hSw; (try dsimp only at hSw); go_simp; try with_reducible rfl)
       simp only [Act.put, sA, sZ, sS])
    | (refine takeU (i := 38) rfl (by kernel_rfl) (by kernel_rfl) (by kernel_rfl) (fun _ _ _ h => h) (by rfl) (by assumption) ?_
       simp only [Act.put, sA, sZ, sS])
    refine wpAnyH_done (by kernel_rfl) ?_ _
    go_wp2_with fail
    go_ret
    exact ⟨ret_bool (by simp [*]), HE1.out.below.trans ((by first | exact hB3 | exact Below.drew hB2 : Below W1.heap.size W1 _).mono HE1.out.size)⟩
  | true =>
    cases q with
    | false =>
      have KC2 : Hid (Calls Tryz.prog 33 #[lv] W1 fun e w' => (∃ r, e = .returned (.tuple #[r, .int .i64 0]) ∧ OwnL w' W1.heap.size r (canV l)) ∧ Below W1.heap.size W1 w') := by have := KC.out; show Calls _ _ _ _ _; simpa using this
      clear KC
      go_enter Tryz.func22, Tryz.ntmps22
      go_wp2_with fail
      rw [← HW1.out]
      refine KC2.out.mono ?_
      rintro e w2 ⟨⟨r, rfl, _⟩, hB2⟩
      go_wp2_with fail
      refine wp_region_held_drew (S := fun w' => w'.cell? ⟨W.heap.size, 1, none⟩ = some (.int .i64 t) ∧ w'.cell? ⟨W.heap.size, 2, none⟩ = some (.int .i64 m) ∧ w'.cell? ⟨W.heap.size, 3, none⟩ = some (.int .i64 x) ∧ w'.cell? ⟨W.heap.size, 4, none⟩ = some (.int .i64 z) ∧ w'.cell? ⟨o, 1, none⟩ = some (.int .i64 keep) ∧ w'.cell? ⟨o, 2, none⟩ = some (.int .i64 now) ∧ Below W1.heap.size W1 w') (by kernel_rfl) ?_ (fun hHeld => ?_)
      · (try dsimp only)
        (have hd := Below.drew hB2; exact ⟨(HK.out _ hd).1, (HK.out _ hd).2.1, (HK.out _ hd).2.2.1, (HK.out _ hd).2.2.2.1, (HK.out _ hd).2.2.2.2.1, (HK.out _ hd).2.2.2.2.2, hd⟩)
      first
      | (refine takeW (i := 0) (v := ?_) rfl (by kernel_rfl) (by kernel_rfl) (by kernel_rfl) (fun _ _ _ h => h) (by rfl) ?_ (by assumption) ?_
         rotate_left
         · (intro w hSw; (try dsimp only at hSw); go_simp; try with_reducible rfl)
         simp only [Act.put, sA, sZ, sS])
      | (refine takeU (i := 0) rfl (by kernel_rfl) (by kernel_rfl) (by kernel_rfl) (fun _ _ _ h => h) (by rfl) (by assumption) ?_
         simp only [Act.put, sA, sZ, sS])
      first
      | (refine takeW (i := 1) (v := ?_) rfl (by kernel_rfl) (by kernel_rfl) (by kernel_rfl) (fun _ _ _ h => h) (by rfl) ?_ (by assumption) ?_
         rotate_left
         · (intro w hSw; (try dsimp only at hSw); go_simp; try with_reducible rfl)
         simp only [Act.put, sA, sZ, sS])
      | (refine takeU (i := 1) rfl (by kernel_rfl) (by kernel_rfl) (by kernel_rfl) (fun _ _ _ h => h) (by rfl) (by assumption) ?_
         simp only [Act.put, sA, sZ, sS])
      first
      | (refine takeW (i := 2) (v := ?_) rfl (by kernel_rfl) (by kernel_rfl) (by kernel_rfl) (fun _ _ _ h => h) (by rfl) ?_ (by assumption) ?_
         rotate_left
         · (intro w hSw; (try dsimp only at hSw); go_simp; try with_reducible rfl)
         simp only [Act.put, sA, sZ, sS])
      | (refine takeU (i := 2) rfl (by kernel_rfl) (by kernel_rfl) (by kernel_rfl) (fun _ _ _ h => h) (by rfl) (by assumption) ?_
         simp only [Act.put, sA, sZ, sS])
      first
      | (refine takeW (i := 3) (v := ?_) rfl (by kernel_rfl) (by kernel_rfl) (by kernel_rfl) (fun _ _ _ h => h) (by rfl) ?_ (by assumption) ?_
         rotate_left
         · (intro w hSw; (try dsimp only at hSw); go_simp; try with_reducible rfl)
         simp only [Act.put, sA, sZ, sS])
      | (refine takeU (i := 3) rfl (by kernel_rfl) (by kernel_rfl) (by kernel_rfl) (fun _ _ _ h => h) (by rfl) (by assumption) ?_
         simp only [Act.put, sA, sZ, sS])
      first
      | (refine takeW (i := 4) (v := ?_) rfl (by kernel_rfl) (by kernel_rfl) (by kernel_rfl) (fun _ _ _ h => h) (by rfl) ?_ (by assumption) ?_
         rotate_left
         · (intro w hSw; (try dsimp only at hSw); go_simp; try with_reducible rfl)
         simp only [Act.put, sA, sZ, sS])
      | (refine takeU (i := 4) rfl (by kernel_rfl) (by kernel_rfl) (by kernel_rfl) (fun _ _ _ h => h) (by rfl) (by assumption) ?_
         simp only [Act.put, sA, sZ, sS])
      first
      | (refine takeW (i := 5) (v := ?_) rfl (by kernel_rfl) (by kernel_rfl) (by kernel_rfl) (fun _ _ _ h => h) (by rfl) ?_ (by assumption) ?_
         rotate_left
         · (intro w hSw; (try dsimp only at hSw); go_simp; try with_reducible rfl)
         simp only [Act.put, sA, sZ, sS])
      | (refine takeU (i := 5) rfl (by kernel_rfl) (by kernel_rfl) (by kernel_rfl) (fun _ _ _ h => h) (by rfl) (by assumption) ?_
         simp only [Act.put, sA, sZ, sS])
      first
      | (refine takeW (i := 6) (v := ?_) rfl (by kernel_rfl) (by kernel_rfl) (by kernel_rfl) (fun _ _ _ h => h) (by rfl) ?_ (by assumption) ?_
         rotate_left
         · (intro w hSw; (try dsimp only at hSw); go_simp; try with_reducible rfl)
         simp only [Act.put, sA, sZ, sS])
      | (refine takeU (i := 6) rfl (by kernel_rfl) (by kernel_rfl) (by kernel_rfl) (fun _ _ _ h => h) (by rfl) (by assumption) ?_
         simp only [Act.put, sA, sZ, sS])
      first
      | (refine takeW (i := 7) (v := ?_) rfl (by kernel_rfl) (by kernel_rfl) (by kernel_rfl) (fun _ _ _ h => h) (by rfl) ?_ (by assumption) ?_
         rotate_left
         · (intro w hSw; (try dsimp only at hSw); go_simp; try with_reducible rfl)
         simp only [Act.put, sA, sZ, sS])
      | (refine takeU (i := 7) rfl (by kernel_rfl) (by kernel_rfl) (by kernel_rfl) (fun _ _ _ h => h) (by rfl) (by assumption) ?_
         simp only [Act.put, sA, sZ, sS])
      first
      | (refine takeW (i := 8) (v := ?_) rfl (by kernel_rfl) (by kernel_rfl) (by kernel_rfl) (fun _ _ _ h => h) (by rfl) ?_ (by assumption) ?_
         rotate_left
         · (intro w hSw; (try dsimp only at hSw); go_simp; try with_reducible rfl)
         simp only [Act.put, sA, sZ, sS])
      | (refine takeU (i := 8) rfl (by kernel_rfl) (by kernel_rfl) (by kernel_rfl) (fun _ _ _ h => h) (by rfl) (by assumption) ?_
         simp only [Act.put, sA, sZ, sS])
      first
      | (refine takeW (i := 9) (v := ?_) rfl (by kernel_rfl) (by kernel_rfl) (by kernel_rfl) (fun _ _ _ h => h) (by rfl) ?_ (by assumption) ?_
         rotate_left
         · (intro w hSw; (try dsimp only at hSw); go_simp; try with_reducible rfl)
         simp only [Act.put, sA, sZ, sS])
      | (refine takeU (i := 9) rfl (by kernel_rfl) (by kernel_rfl) (by kernel_rfl) (fun _ _ _ h => h) (by rfl) (by assumption) ?_
         simp only [Act.put, sA, sZ, sS])
      first
      | (refine takeW (i := 10) (v := ?_) rfl (by kernel_rfl) (by kernel_rfl) (by kernel_rfl) (fun _ _ _ h => h) (by rfl) ?_ (by assumption) ?_
         rotate_left
         · (intro w hSw; (try dsimp only at hSw); go_simp; try with_reducible rfl)
         simp only [Act.put, sA, sZ, sS])
      | (refine takeU (i := 10) rfl (by kernel_rfl) (by kernel_rfl) (by kernel_rfl) (fun _ _ _ h => h) (by rfl) (by assumption) ?_
         simp only [Act.put, sA, sZ, sS])
      first
      | (refine takeW (i := 11) (v := ?_) rfl (by kernel_rfl) (by kernel_rfl) (by kernel_rfl) (fun _ _ _ h => h) (by rfl) ?_ (by assumption) ?_
         rotate_left
         · (intro w hSw; (try dsimp only at hSw); go_simp; try with_reducible rfl)
         simp only [Act.put, sA, sZ, sS])
      | (refine takeU (i := 11) rfl (by kernel_rfl) (by kernel_rfl) (by kernel_rfl) (fun _ _ _ h => h) (by rfl) (by assumption) ?_
         simp only [Act.put, sA, sZ, sS])
      first
      | (refine takeU (i := 12) rfl (by kernel_rfl) (by kernel_rfl) (by kernel_rfl) (fun _ _ _ h => h) (by rfl) (by assumption) ?_
         simp only [Act.put, sA, sZ, sS])
      | (refine takeC (i := 12) rfl (by kernel_rfl) (by rfl) (fun K hK => ?_)
         go_simp
         (go_at_call 51; refine (KR.out _).mono ?_; rintro e w3 ⟨rfl, hN⟩; have hB3 := (Below.drew hB2).trans (hN.below.mono (Below.drew hB2).size))
         try go_wp2_with fail
         refine hK.out _ _ ?_ (fun hHeld => ?_)
         · (try dsimp only)
           (have hd := hB3; exact ⟨(HK.out _ hd).1, (HK.out _ hd).2.1, (HK.out _ hd).2.2.1, (HK.out _ hd).2.2.2.1, (HK.out _ hd).2.2.2.2.1, (HK.out _ hd).2.2.2.2.2, hd⟩)
         clear hK K
         try simp only [Act.put, sA, sZ, sS])
      first
      | (refine takeW (i := 13) (v := ?_) rfl (by kernel_rfl) (by kernel_rfl) (by kernel_rfl) (fun _ _ _ h => h) (by rfl) ?_ (by assumption) ?_
         rotate_left
         · (intro w hSw; (try dsimp only at hSw); go_simp; try with_reducible rfl)
         simp only [Act.put, sA, sZ, sS])
      | (refine takeU (i := 13) rfl (by kernel_rfl) (by kernel_rfl) (by kernel_rfl) (fun _ _ _ h => h) (by rfl) (by assumption) ?_
         simp only [Act.put, sA, sZ, sS])
      first
      | (refine takeW (i := 14) (v := ?_) rfl (by kernel_rfl) (by kernel_rfl) (by kernel_rfl) (fun _ _ _ h => h) (by rfl) ?_ (by assumption) ?_
         rotate_left
         · (intro w hSw; (try dsimp only at hSw); go_simp; try with_reducible rfl)
         simp only [Act.put, sA, sZ, sS])
      | (refine takeU (i := 14) rfl (by kernel_rfl) (by kernel_rfl) (by kernel_rfl) (fun _ _ _ h => h) (by rfl) (by assumption) ?_
         simp only [Act.put, sA, sZ, sS])
      first
      | (refine takeW (i := 15) (v := ?_) rfl (by kernel_rfl) (by kernel_rfl) (by kernel_rfl) (fun _ _ _ h => h) (by rfl) ?_ (by assumption) ?_
         rotate_left
         · (intro w hSw; (try dsimp only at hSw); go_simp; try with_reducible rfl)
         simp only [Act.put, sA, sZ, sS])
      | (refine takeU (i := 15) rfl (by kernel_rfl) (by kernel_rfl) (by kernel_rfl) (fun _ _ _ h => h) (by rfl) (by assumption) ?_
         simp only [Act.put, sA, sZ, sS])
      first
      | (refine takeW (i := 16) (v := ?_) rfl (by kernel_rfl) (by kernel_rfl) (by kernel_rfl) (fun _ _ _ h => h) (by rfl) ?_ (by assumption) ?_
         rotate_left
         · (intro w hSw; (try dsimp only at hSw); go_simp; try with_reducible rfl)
         simp only [Act.put, sA, sZ, sS])
      | (refine takeU (i := 16) rfl (by kernel_rfl) (by kernel_rfl) (by kernel_rfl) (fun _ _ _ h => h) (by rfl) (by assumption) ?_
         simp only [Act.put, sA, sZ, sS])
      first
      | (refine takeW (i := 17) (v := ?_) rfl (by kernel_rfl) (by kernel_rfl) (by kernel_rfl) (fun _ _ _ h => h) (by rfl) ?_ (by assumption) ?_
         rotate_left
         · (intro w hSw; (try dsimp only at hSw); go_simp; try with_reducible rfl)
         simp only [Act.put, sA, sZ, sS])
      | (refine takeU (i := 17) rfl (by kernel_rfl) (by kernel_rfl) (by kernel_rfl) (fun _ _ _ h => h) (by rfl) (by assumption) ?_
         simp only [Act.put, sA, sZ, sS])
      first
      | (refine takeW (i := 18) (v := ?_) rfl (by kernel_rfl) (by kernel_rfl) (by kernel_rfl) (fun _ _ _ h => h) (by rfl) ?_ (by assumption) ?_
         rotate_left
         · (intro w hSw; (try dsimp only at hSw); go_simp; try with_reducible rfl)
         simp only [Act.put, sA, sZ, sS])
      | (refine takeU (i := 18) rfl (by kernel_rfl) (by kernel_rfl) (by kernel_rfl) (fun _ _ _ h => h) (by rfl) (by assumption) ?_
         simp only [Act.put, sA, sZ, sS])
      first
      | (refine takeW (i := 19) (v := ?_) rfl (by kernel_rfl) (by kernel_rfl) (by kernel_rfl) (fun _ _ _ h => h) (by rfl) ?_ (by assumption) ?_
         rotate_left
         · (intro w hSw; (try dsimp only at hSw); go_simp; try with_reducible rfl)
         simp only [Act.put, sA, sZ, sS])
      | (refine takeU (i := 19) rfl (by kernel_rfl) (by kernel_rfl) (by kernel_rfl) (fun _ _ _ h => h) (by rfl) (by assumption) ?_
         simp only [Act.put, sA, sZ, sS])
      first
      | (refine takeW (i := 20) (v := ?_) rfl (by kernel_rfl) (by kernel_rfl) (by kernel_rfl) (fun _ _ _ h => h) (by rfl) ?_ (by assumption) ?_
         rotate_left
         · (intro w hSw; (try dsimp only at hSw); go_simp; try with_reducible rfl)
         simp only [Act.put, sA, sZ, sS])
      | (refine takeU (i := 20) rfl (by kernel_rfl) (by kernel_rfl) (by kernel_rfl) (fun _ _ _ h => h) (by rfl) (by assumption) ?_
         simp only [Act.put, sA, sZ, sS])
      first
      | (refine takeW (i := 21) (v := ?_) rfl (by kernel_rfl) (by kernel_rfl) (by kernel_rfl) (fun _ _ _ h => h) (by rfl) ?_ (by assumption) ?_
         rotate_left
         · (intro w hSw; (try dsimp only at hSw); go_simp; try with_reducible rfl)
         simp only [Act.put, sA, sZ, sS])
      | (refine takeU (i := 21) rfl (by kernel_rfl) (by kernel_rfl) (by kernel_rfl) (fun _ _ _ h => h) (by rfl) (by assumption) ?_
         simp only [Act.put, sA, sZ, sS])
      first
      | (refine takeW (i := 22) (v := ?_) rfl (by kernel_rfl) (by kernel_rfl) (by kernel_rfl) (fun _ _ _ h => h) (by rfl) ?_ (by assumption) ?_
         rotate_left
         · (intro w hSw; (try dsimp only at hSw); go_simp; try with_reducible rfl)
         simp only [Act.put, sA, sZ, sS])
      | (refine takeU (i := 22) rfl (by kernel_rfl) (by kernel_rfl) (by kernel_rfl) (fun _ _ _ h => h) (by rfl) (by assumption) ?_
         simp only [Act.put, sA, sZ, sS])
      first
      | (refine takeW (i := 23) (v := ?_) rfl (by kernel_rfl) (by kernel_rfl) (by kernel_rfl) (fun _ _ _ h => h) (by rfl) ?_ (by assumption) ?_
         rotate_left
         · (intro w hSw; (try dsimp only at hSw); go_simp; try with_reducible rfl)
         simp only [Act.put, sA, sZ, sS])
      | (refine takeU (i := 23) rfl (by kernel_rfl) (by kernel_rfl) (by kernel_rfl) (fun _ _ _ h => h) (by rfl) (by assumption) ?_
         simp only [Act.put, sA, sZ, sS])
      first
      | (refine takeW (i := 24) (v := ?_) rfl (by kernel_rfl) (by kernel_rfl) (by kernel_rfl) (fun _ _ _ h => h) (by rfl) ?_ (by assumption) ?_
         rotate_left
         · (intro w hSw; (try dsimp only at hSw); go_simp; try with_reducible rfl)
         simp only [Act.put, sA, sZ, sS])
      | (refine takeU (i := 24) rfl (by kernel_rfl) (by kernel_rfl) (by kernel_rfl) (fun _ _ _ h => h) (by rfl) (by assumption) ?_
         simp only [Act.put, sA, sZ, sS])
      first
      | (refine takeW (i := 25) (v := ?_) rfl (by kernel_rfl) (by kernel_rfl) (by kernel_rfl) (fun _ _ _ h => h) (by rfl) ?_ (by assumption) ?_
         rotate_left
         · (intro w hSw; (try dsimp only at hSw); go_simp; try with_reducible rfl)
         simp only [Act.put, sA, sZ, sS])
      | (refine takeU (i := 25) rfl (by kernel_rfl) (by kernel_rfl) (by kernel_rfl) (fun _ _ _ h => h) (by rfl) (by assumption) ?_
         simp only [Act.put, sA, sZ, sS])
      first
      | (refine takeW (i := 26) (v := ?_) rfl (by kernel_rfl) (by kernel_rfl) (by kernel_rfl) (fun _ _ _ h => h) (by rfl) ?_ (by assumption) ?_
         rotate_left
         · (intro w hSw; (try dsimp only at hSw); go_simp; try with_reducible rfl)
         simp only [Act.put, sA, sZ, sS])
      | (refine takeU (i := 26) rfl (by kernel_rfl) (by kernel_rfl) (by kernel_rfl) (fun _ _ _ h => h) (by rfl) (by assumption) ?_
         simp only [Act.put, sA, sZ, sS])
      first
      | (refine takeW (i := 27) (v := ?_) rfl (by kernel_rfl) (by kernel_rfl) (by kernel_rfl) (fun _ _ _ h => h) (by rfl) ?_ (by assumption) ?_
         rotate_left
         · (intro w hSw; (try dsimp only at hSw); go_simp; try with_reducible rfl)
         simp only [Act.put, sA, sZ, sS])
      | (refine takeU (i := 27) rfl (by kernel_rfl) (by kernel_rfl) (by kernel_rfl) (fun _ _ _ h => h) (by rfl) (by assumption) ?_
         simp only [Act.put, sA, sZ, sS])
      first
      | (refine takeW (i := 28) (v := ?_) rfl (by kernel_rfl) (by kernel_rfl) (by kernel_rfl) (fun _ _ _ h => h) (by rfl) ?_ (by assumption) ?_
         rotate_left
         · (intro w hSw; (try dsimp only at hSw); go_simp; try with_reducible rfl)
         simp only [Act.put, sA, sZ, sS])
      | (refine takeU (i := 28) rfl (by kernel_rfl) (by kernel_rfl) (by kernel_rfl) (fun _ _ _ h => h) (by rfl) (by assumption) ?_
         simp only [Act.put, sA, sZ, sS])
      first
      | (refine takeW (i := 29) (v := ?_) rfl (by kernel_rfl) (by kernel_rfl) (by kernel_rfl) (fun _ _ _ h => h) (by rfl) ?_ (by assumption) ?_
         rotate_left
         · (intro w hSw; (try dsimp only at hSw); go_simp; try with_reducible rfl)
         simp only [Act.put, sA, sZ, sS])
      | (refine takeU (i := 29) rfl (by kernel_rfl) (by kernel_rfl) (by kernel_rfl) (fun _ _ _ h => h) (by rfl) (by assumption) ?_
         simp only [Act.put, sA, sZ, sS])
      first
      | (refine takeW (i := 30) (v := ?_) rfl (by kernel_rfl) (by kernel_rfl) (by kernel_rfl) (fun _ _ _ h => h) (by rfl) ?_ (by assumption) ?_
         rotate_left
         · (intro w hSw; (try dsimp only at hSw); go_simp; try with_reducible rfl)
         simp only [Act.put, sA, sZ, sS])
      | (refine takeU (i := 30) rfl (by kernel_rfl) (by kernel_rfl) (by kernel_rfl) (fun _ _ _ h => h) (by rfl) (by assumption) ?_
         simp only [Act.put, sA, sZ, sS])
      first
      | (refine takeW (i := 31) (v := ?_) rfl (by kernel_rfl) (by kernel_rfl) (by kernel_rfl) (fun _ _ _ h => h) (by rfl) ?_ (by assumption) ?_
         rotate_left
         · (intro w hSw; (try dsimp only at hSw); go_simp; try with_reducible rfl)
         simp only [Act.put, sA, sZ, sS])
      | (refine takeU (i := 31) rfl (by kernel_rfl) (by kernel_rfl) (by kernel_rfl) (fun _ _ _ h => h) (by rfl) (by assumption) ?_
         simp only [Act.put, sA, sZ, sS])
      first
      | (refine takeW (i := 32) (v := ?_) rfl (by kernel_rfl) (by kernel_rfl) (by kernel_rfl) (fun _ _ _ h => h) (by rfl) ?_ (by assumption) ?_
         rotate_left
         · (intro w hSw; (try dsimp only at hSw); go_simp; try with_reducible rfl)
         simp only [Act.put, sA, sZ, sS])
      | (refine takeU (i := 32) rfl (by kernel_rfl) (by kernel_rfl) (by kernel_rfl) (fun _ _ _ h => h) (by rfl) (by assumption) ?_
         simp only [Act.put, sA, sZ, sS])
      first
      | (refine takeW (i := 33) (v := ?_) rfl (by kernel_rfl) (by kernel_rfl) (by kernel_rfl) (fun _ _ _ h => h) (by rfl) ?_ (by assumption) ?_
         rotate_left
         · (intro w hSw; (try dsimp only at hSw); go_simp; try with_reducible rfl)
         simp only [Act.put, sA, sZ, sS])
      | (refine takeU (i := 33) rfl (by kernel_rfl) (by kernel_rfl) (by kernel_rfl) (fun _ _ _ h => h) (by rfl) (by assumption) ?_
         simp only [Act.put, sA, sZ, sS])
      first
      | (refine takeW (i := 34) (v := ?_) rfl (by kernel_rfl) (by kernel_rfl) (by kernel_rfl) (fun _ _ _ h => h) (by rfl) ?_ (by assumption) ?_
         rotate_left
         · (intro w hSw; (try dsimp only at hSw); go_simp; try with_reducible rfl)
         simp only [Act.put, sA, sZ, sS])
      | (refine takeU (i := 34) rfl (by kernel_rfl) (by kernel_rfl) (by kernel_rfl) (fun _ _ _ h => h) (by rfl) (by assumption) ?_
         simp only [Act.put, sA, sZ, sS])
      first
      | (refine takeW (i := 35) (v := ?_) rfl (by kernel_rfl) (by kernel_rfl) (by kernel_rfl) (fun _ _ _ h => h) (by rfl) ?_ (by assumption) ?_
         rotate_left
         · (intro w hSw; (try dsimp only at hSw); go_simp; try with_reducible rfl)
         simp only [Act.put, sA, sZ, sS])
      | (refine takeU (i := 35) rfl (by kernel_rfl) (by kernel_rfl) (by kernel_rfl) (fun _ _ _ h => h) (by rfl) (by assumption) ?_
         simp only [Act.put, sA, sZ, sS])
      first
      | (refine takeW (i := 36) (v := ?_) rfl (by kernel_rfl) (by kernel_rfl) (by kernel_rfl) (fun _ _ _ h => h) (by rfl) ?_ (by assumption) ?_
         rotate_left
         · (intro w hSw; (try dsimp only at hSw); go_simp; try with_reducible rfl)
         simp only [Act.put, sA, sZ, sS])
      | (refine takeU (i := 36) rfl (by kernel_rfl) (by kernel_rfl) (by kernel_rfl) (fun _ _ _ h => h) (by rfl) (by assumption) ?_
         simp only [Act.put, sA, sZ, sS])
      first
      | (refine takeW (i := 37) (v := ?_) rfl (by kernel_rfl) (by kernel_rfl) (by kernel_rfl) (fun _ _ _ h => h) (by rfl) ?_ (by assumption) ?_
         rotate_left
         · (intro w hSw; (try dsimp only at hSw); go_simp; try with_reducible rfl)
         simp only [Act.put, sA, sZ, sS])
      | (refine takeU (i := 37) rfl (by kernel_rfl) (by kernel_rfl) (by kernel_rfl) (fun _ _ _ h => h) (by rfl) (by assumption) ?_
         simp only [Act.put, sA, sZ, sS])
      first
      | (refine takeW (i := 38) (v := ?_) rfl (by kernel_rfl) (by kernel_rfl) (by kernel_rfl) (fun _ _ _ h => h) (by rfl) ?_ (by assumption) ?_
         rotate_left
         · (intro w hSw; (try dsimp only at hSw); go_simp; try with_reducible rfl)
         simp only [Act.put, sA, sZ, sS])
      | (refine takeU (i := 38) rfl (by kernel_rfl) (by kernel_rfl) (by kernel_rfl) (fun _ _ _ h => h) (by rfl) (by assumption) ?_
         simp only [Act.put, sA, sZ, sS])
      refine wpAnyH_done (by kernel_rfl) ?_ _
      go_wp2_with fail
      go_ret
      exact ⟨ret_bool (by simp [*]), HE1.out.below.trans ((by first | exact hB3 | exact Below.drew hB2 : Below W1.heap.size W1 _).mono HE1.out.size)⟩
    | true =>
      by_cases h1 : t ≤ now + 100
      · by_cases h2 : now - keep < t
        · have g1 : (t ≤ now + 100) = True := eq_true h1
          have g2 : (now - keep < t) = True := eq_true h2
          have KC2 : Hid (Calls Tryz.prog 33 #[lv] W1 fun e w' => (∃ r, e = .returned (.tuple #[r, .int .i64 0]) ∧ OwnL w' W1.heap.size r (canV l)) ∧ Below W1.heap.size W1 w') := by have := KC.out; show Calls _ _ _ _ _; simpa using this
          clear KC
          go_enter Tryz.func22, Tryz.ntmps22
          go_wp2_with fail
          rw [← HW1.out]
          refine KC2.out.mono ?_
          rintro e w2 ⟨⟨r, rfl, _⟩, hB2⟩
          go_wp2_with fail
          refine wp_region_held_drew (S := fun w' => w'.cell? ⟨W.heap.size, 1, none⟩ = some (.int .i64 t) ∧ w'.cell? ⟨W.heap.size, 2, none⟩ = some (.int .i64 m) ∧ w'.cell? ⟨W.heap.size, 3, none⟩ = some (.int .i64 x) ∧ w'.cell? ⟨W.heap.size, 4, none⟩ = some (.int .i64 z) ∧ w'.cell? ⟨o, 1, none⟩ = some (.int .i64 keep) ∧ w'.cell? ⟨o, 2, none⟩ = some (.int .i64 now) ∧ Below W1.heap.size W1 w') (by kernel_rfl) ?_ (fun hHeld => ?_)
          · (try dsimp only)
            (have hd := Below.drew hB2; exact ⟨(HK.out _ hd).1, (HK.out _ hd).2.1, (HK.out _ hd).2.2.1, (HK.out _ hd).2.2.2.1, (HK.out _ hd).2.2.2.2.1, (HK.out _ hd).2.2.2.2.2, hd⟩)
          first
          | (refine takeW (i := 0) (v := ?_) rfl (by kernel_rfl) (by kernel_rfl) (by kernel_rfl) (fun _ _ _ h => h) (by rfl) ?_ (by assumption) ?_
             rotate_left
             · (intro w hSw; (try dsimp only at hSw); go_simp; try with_reducible rfl)
             simp only [Act.put, sA, sZ, sS])
          | (refine takeU (i := 0) rfl (by kernel_rfl) (by kernel_rfl) (by kernel_rfl) (fun _ _ _ h => h) (by rfl) (by assumption) ?_
             simp only [Act.put, sA, sZ, sS])
          first
          | (refine takeW (i := 1) (v := ?_) rfl (by kernel_rfl) (by kernel_rfl) (by kernel_rfl) (fun _ _ _ h => h) (by rfl) ?_ (by assumption) ?_
             rotate_left
             · (intro w hSw; (try dsimp only at hSw); go_simp; try with_reducible rfl)
             simp only [Act.put, sA, sZ, sS])
          | (refine takeU (i := 1) rfl (by kernel_rfl) (by kernel_rfl) (by kernel_rfl) (fun _ _ _ h => h) (by rfl) (by assumption) ?_
             simp only [Act.put, sA, sZ, sS])
          first
          | (refine takeW (i := 2) (v := ?_) rfl (by kernel_rfl) (by kernel_rfl) (by kernel_rfl) (fun _ _ _ h => h) (by rfl) ?_ (by assumption) ?_
             rotate_left
             · (intro w hSw; (try dsimp only at hSw); go_simp; try with_reducible rfl)
             simp only [Act.put, sA, sZ, sS])
          | (refine takeU (i := 2) rfl (by kernel_rfl) (by kernel_rfl) (by kernel_rfl) (fun _ _ _ h => h) (by rfl) (by assumption) ?_
             simp only [Act.put, sA, sZ, sS])
          first
          | (refine takeW (i := 3) (v := ?_) rfl (by kernel_rfl) (by kernel_rfl) (by kernel_rfl) (fun _ _ _ h => h) (by rfl) ?_ (by assumption) ?_
             rotate_left
             · (intro w hSw; (try dsimp only at hSw); go_simp; try with_reducible rfl)
             simp only [Act.put, sA, sZ, sS])
          | (refine takeU (i := 3) rfl (by kernel_rfl) (by kernel_rfl) (by kernel_rfl) (fun _ _ _ h => h) (by rfl) (by assumption) ?_
             simp only [Act.put, sA, sZ, sS])
          first
          | (refine takeW (i := 4) (v := ?_) rfl (by kernel_rfl) (by kernel_rfl) (by kernel_rfl) (fun _ _ _ h => h) (by rfl) ?_ (by assumption) ?_
             rotate_left
             · (intro w hSw; (try dsimp only at hSw); go_simp; try with_reducible rfl)
             simp only [Act.put, sA, sZ, sS])
          | (refine takeU (i := 4) rfl (by kernel_rfl) (by kernel_rfl) (by kernel_rfl) (fun _ _ _ h => h) (by rfl) (by assumption) ?_
             simp only [Act.put, sA, sZ, sS])
          first
          | (refine takeW (i := 5) (v := ?_) rfl (by kernel_rfl) (by kernel_rfl) (by kernel_rfl) (fun _ _ _ h => h) (by rfl) ?_ (by assumption) ?_
             rotate_left
             · (intro w hSw; (try dsimp only at hSw); go_simp; try with_reducible rfl)
             simp only [Act.put, sA, sZ, sS])
          | (refine takeU (i := 5) rfl (by kernel_rfl) (by kernel_rfl) (by kernel_rfl) (fun _ _ _ h => h) (by rfl) (by assumption) ?_
             simp only [Act.put, sA, sZ, sS])
          first
          | (refine takeW (i := 6) (v := ?_) rfl (by kernel_rfl) (by kernel_rfl) (by kernel_rfl) (fun _ _ _ h => h) (by rfl) ?_ (by assumption) ?_
             rotate_left
             · (intro w hSw; (try dsimp only at hSw); go_simp; try with_reducible rfl)
             simp only [Act.put, sA, sZ, sS])
          | (refine takeU (i := 6) rfl (by kernel_rfl) (by kernel_rfl) (by kernel_rfl) (fun _ _ _ h => h) (by rfl) (by assumption) ?_
             simp only [Act.put, sA, sZ, sS])
          first
          | (refine takeW (i := 7) (v := ?_) rfl (by kernel_rfl) (by kernel_rfl) (by kernel_rfl) (fun _ _ _ h => h) (by rfl) ?_ (by assumption) ?_
             rotate_left
             · (intro w hSw; (try dsimp only at hSw); go_simp; try with_reducible rfl)
             simp only [Act.put, sA, sZ, sS])
          | (refine takeU (i := 7) rfl (by kernel_rfl) (by kernel_rfl) (by kernel_rfl) (fun _ _ _ h => h) (by rfl) (by assumption) ?_
             simp only [Act.put, sA, sZ, sS])
          first
          | (refine takeW (i := 8) (v := ?_) rfl (by kernel_rfl) (by kernel_rfl) (by kernel_rfl) (fun _ _ _ h => h) (by rfl) ?_ (by assumption) ?_
             rotate_left
             · (intro w hSw; (try dsimp only at hSw); go_simp; try with_reducible rfl)
             simp only [Act.put, sA, sZ, sS])
          | (refine takeU (i := 8) rfl (by kernel_rfl) (by kernel_rfl) (by kernel_rfl) (fun _ _ _ h => h) (by rfl) (by assumption) ?_
             simp only [Act.put, sA, sZ, sS])
          first
          | (refine takeW (i := 9) (v := ?_) rfl (by kernel_rfl) (by kernel_rfl) (by kernel_rfl) (fun _ _ _ h => h) (by rfl) ?_ (by assumption) ?_
             rotate_left
             · (intro w hSw; (try dsimp only at hSw); go_simp; try with_reducible rfl)
             simp only [Act.put, sA, sZ, sS])
          | (refine takeU (i := 9) rfl (by kernel_rfl) (by kernel_rfl) (by kernel_rfl) (fun _ _ _ h => h) (by rfl) (by assumption) ?_
             simp only [Act.put, sA, sZ, sS])
          first
          | (refine takeW (i := 10) (v := ?_) rfl (by kernel_rfl) (by kernel_rfl) (by kernel_rfl) (fun _ _ _ h => h) (by rfl) ?_ (by assumption) ?_
             rotate_left
             · (intro w hSw; (try dsimp only at hSw); go_simp; try with_reducible rfl)
             simp only [Act.put, sA, sZ, sS])
          | (refine takeU (i := 10) rfl (by kernel_rfl) (by kernel_rfl) (by kernel_rfl) (fun _ _ _ h => h) (by rfl) (by assumption) ?_
             simp only [Act.put, sA, sZ, sS])
          first
          | (refine takeW (i := 11) (v := ?_) rfl (by kernel_rfl) (by kernel_rfl) (by kernel_rfl) (fun _ _ _ h => h) (by rfl) ?_ (by assumption) ?_
             rotate_left
             · (intro w hSw; (try dsimp only at hSw); go_simp; try with_reducible rfl)
             simp only [Act.put, sA, sZ, sS])
          | (refine takeU (i := 11) rfl (by kernel_rfl) (by kernel_rfl) (by kernel_rfl) (fun _ _ _ h => h) (by rfl) (by assumption) ?_
             simp only [Act.put, sA, sZ, sS])
          first
          | (refine takeU (i := 12) rfl (by kernel_rfl) (by kernel_rfl) (by kernel_rfl) (fun _ _ _ h => h) (by rfl) (by assumption) ?_
             simp only [Act.put, sA, sZ, sS])
          | (refine takeC (i := 12) rfl (by kernel_rfl) (by rfl) (fun K hK => ?_)
             go_simp
             (go_at_call 51; refine (KR.out _).mono ?_; rintro e w3 ⟨rfl, hN⟩; have hB3 := (Below.drew hB2).trans (hN.below.mono (Below.drew hB2).size))
             try go_wp2_with fail
             refine hK.out _ _ ?_ (fun hHeld => ?_)
             · (try dsimp only)
               (have hd := hB3; exact ⟨(HK.out _ hd).1, (HK.out _ hd).2.1, (HK.out _ hd).2.2.1, (HK.out _ hd).2.2.2.1, (HK.out _ hd).2.2.2.2.1, (HK.out _ hd).2.2.2.2.2, hd⟩)
             clear hK K
             try simp only [Act.put, sA, sZ, sS])
          first
          | (refine takeW (i := 13) (v := ?_) rfl (by kernel_rfl) (by kernel_rfl) (by kernel_rfl) (fun _ _ _ h => h) (by rfl) ?_ (by assumption) ?_
             rotate_left
             · (intro w hSw; (try dsimp only at hSw); go_simp; try with_reducible rfl)
             simp only [Act.put, sA, sZ, sS])
          | (refine takeU (i := 13) rfl (by kernel_rfl) (by kernel_rfl) (by kernel_rfl) (fun _ _ _ h => h) (by rfl) (by assumption) ?_
             simp only [Act.put, sA, sZ, sS])
          first
          | (refine takeW (i := 14) (v := ?_) rfl (by kernel_rfl) (by kernel_rfl) (by kernel_rfl) (fun _ _ _ h => h) (by rfl) ?_ (by assumption) ?_
             rotate_left
             · (intro w hSw; (try dsimp only at hSw); go_simp; try with_reducible rfl)
             simp only [Act.put, sA, sZ, sS])
          | (refine takeU (i := 14) rfl (by kernel_rfl) (by kernel_rfl) (by kernel_rfl) (fun _ _ _ h => h) (by rfl) (by assumption) ?_
             simp only [Act.put, sA, sZ, sS])
          first
          | (refine takeW (i := 15) (v := ?_) rfl (by kernel_rfl) (by kernel_rfl) (by kernel_rfl) (fun _ _ _ h => h) (by rfl) ?_ (by assumption) ?_
             rotate_left
             · (intro w hSw; (try dsimp only at hSw); go_simp; try with_reducible rfl)
             simp only [Act.put, sA, sZ, sS])
          | (refine takeU (i := 15) rfl (by kernel_rfl) (by kernel_rfl) (by kernel_rfl) (fun _ _ _ h => h) (by rfl) (by assumption) ?_
             simp only [Act.put, sA, sZ, sS])
          first
          | (refine takeW (i := 16) (v := ?_) rfl (by kernel_rfl) (by kernel_rfl) (by kernel_rfl) (fun _ _ _ h => h) (by rfl) ?_ (by assumption) ?_
             rotate_left
             · (intro w hSw; (try dsimp only at hSw); go_simp; try with_reducible rfl)
             simp only [Act.put, sA, sZ, sS])
          | (refine takeU (i := 16) rfl (by kernel_rfl) (by kernel_rfl) (by kernel_rfl) (fun _ _ _ h => h) (by rfl) (by assumption) ?_
             simp only [Act.put, sA, sZ, sS])
          first
          | (refine takeW (i := 17) (v := ?_) rfl (by kernel_rfl) (by kernel_rfl) (by kernel_rfl) (fun _ _ _ h => h) (by rfl) ?_ (by assumption) ?_
             rotate_left
             · (intro w hSw; (try dsimp only at hSw); go_simp; try with_reducible rfl)
             simp only [Act.put, sA, sZ, sS])
          | (refine takeU (i := 17) rfl (by kernel_rfl) (by kernel_rfl) (by kernel_rfl) (fun _ _ _ h => h) (by rfl) (by assumption) ?_
             simp only [Act.put, sA, sZ, sS])
          first
          | (refine takeW (i := 18) (v := ?_) rfl (by kernel_rfl) (by kernel_rfl) (by kernel_rfl) (fun _ _ _ h => h) (by rfl) ?_ (by assumption) ?_
             rotate_left
             · (intro w hSw; (try dsimp only at hSw); go_simp; try with_reducible rfl)
             simp only [Act.put, sA, sZ, sS])
          | (refine takeU (i := 18) rfl (by kernel_rfl) (by kernel_rfl) (by kernel_rfl) (fun _ _ _ h => h) (by rfl) (by assumption) ?_
             simp only [Act.put, sA, sZ, sS])
          first
          | (refine takeW (i := 19) (v := ?_) rfl (by kernel_rfl) (by kernel_rfl) (by kernel_rfl) (fun _ _ _ h => h) (by rfl) ?_ (by assumption) ?_
             rotate_left
             · (intro w hSw; (try dsimp only at hSw); go_simp; try with_reducible rfl)
             simp only [Act.put, sA, sZ, sS])
          | (refine takeU (i := 19) rfl (by kernel_rfl) (by kernel_rfl) (by kernel_rfl) (fun _ _ _ h => h) (by rfl) (by assumption) ?_
             simp only [Act.put, sA, sZ, sS])
          first
          | (refine takeW (i := 20) (v := ?_) rfl (by kernel_rfl) (by kernel_rfl) (by kernel_rfl) (fun _ _ _ h => h) (by rfl) ?_ (by assumption) ?_
             rotate_left
             · (intro w hSw; (try dsimp only at hSw); go_simp; try with_reducible rfl)
             simp only [Act.put, sA, sZ, sS])
          | (refine takeU (i := 20) rfl (by kernel_rfl) (by kernel_rfl) (by kernel_rfl) (fun _ _ _ h => h) (by rfl) (by assumption) ?_
             simp only [Act.put, sA, sZ, sS])
          first
          | (refine takeW (i := 21) (v := ?_) rfl (by kernel_rfl) (by kernel_rfl) (by kernel_rfl) (fun _ _ _ h => h) (by rfl) ?_ (by assumption) ?_
             rotate_left
             · (intro w hSw; (try dsimp only at hSw); go_simp; try with_reducible rfl)
             simp only [Act.put, sA, sZ, sS])
          | (refine takeU (i := 21) rfl (by kernel_rfl) (by kernel_rfl) (by kernel_rfl) (fun _ _ _ h => h) (by rfl) (by assumption) ?_
             simp only [Act.put, sA, sZ, sS])
          first
          | (refine takeW (i := 22) (v := ?_) rfl (by kernel_rfl) (by kernel_rfl) (by kernel_rfl) (fun _ _ _ h => h) (by rfl) ?_ (by assumption) ?_
             rotate_left
             · (intro w hSw; (try dsimp only at hSw); go_simp; try with_reducible rfl)
             simp only [Act.put, sA, sZ, sS])
          | (refine takeU (i := 22) rfl (by kernel_rfl) (by kernel_rfl) (by kernel_rfl) (fun _ _ _ h => h) (by rfl) (by assumption) ?_
             simp only [Act.put, sA, sZ, sS])
          first
          | (refine takeW (i := 23) (v := ?_) rfl (by kernel_rfl) (by kernel_rfl) (by kernel_rfl) (fun _ _ _ h => h) (by rfl) ?_ (by assumption) ?_
             rotate_left
             · (intro w hSw; (try dsimp only at hSw); go_simp; try with_reducible rfl)
             simp only [Act.put, sA, sZ, sS])
          | (refine takeU (i := 23) rfl (by kernel_rfl) (by kernel_rfl) (by kernel_rfl) (fun _ _ _ h => h) (by rfl) (by assumption) ?_
             simp only [Act.put, sA, sZ, sS])
          first
          | (refine takeW (i := 24) (v := ?_) rfl (by kernel_rfl) (by kernel_rfl) (by kernel_rfl) (fun _ _ _ h => h) (by rfl) ?_ (by assumption) ?_
             rotate_left
             · (intro w hSw; (try dsimp only at hSw); go_simp; try with_reducible rfl)
             simp only [Act.put, sA, sZ, sS])
          | (refine takeU (i := 24) rfl (by kernel_rfl) (by kernel_rfl) (by kernel_rfl) (fun _ _ _ h => h) (by rfl) (by assumption) ?_
             simp only [Act.put, sA, sZ, sS])
          first
          | (refine takeW (i := 25) (v := ?_) rfl (by kernel_rfl) (by kernel_rfl) (by kernel_rfl) (fun _ _ _ h => h) (by rfl) ?_ (by assumption) ?_
             rotate_left
             · (intro w hSw; (try dsimp only at hSw); go_simp; try with_reducible rfl)
             simp only [Act.put, sA, sZ, sS])
          | (refine takeU (i := 25) rfl (by kernel_rfl) (by kernel_rfl) (by kernel_rfl) (fun _ _ _ h => h) (by rfl) (by assumption) ?_
             simp only [Act.put, sA, sZ, sS])
          first
          | (refine takeW (i := 26) (v := ?_) rfl (by kernel_rfl) (by kernel_rfl) (by kernel_rfl) (fun _ _ _ h => h) (by rfl) ?_ (by assumption) ?_
             rotate_left
             · (intro w hSw; (try dsimp only at hSw); go_simp; try with_reducible rfl)
             simp only [Act.put, sA, sZ, sS])
          | (refine takeU (i := 26) rfl (by kernel_rfl) (by kernel_rfl) (by kernel_rfl) (fun _ _ _ h => h) (by rfl) (by assumption) ?_
             simp only [Act.put, sA, sZ, sS])
          first
          | (refine takeW (i := 27) (v := ?_) rfl (by kernel_rfl) (by kernel_rfl) (by kernel_rfl) (fun _ _ _ h => h) (by rfl) ?_ (by assumption) ?_
             rotate_left
             · (intro w hSw; (try dsimp only at hSw); go_simp; try with_reducible rfl)
             simp only [Act.put, sA, sZ, sS])
          | (refine takeU (i := 27) rfl (by kernel_rfl) (by kernel_rfl) (by kernel_rfl) (fun _ _ _ h => h) (by rfl) (by assumption) ?_
             simp only [Act.put, sA, sZ, sS])
          first
          | (refine takeW (i := 28) (v := ?_) rfl (by kernel_rfl) (by kernel_rfl) (by kernel_rfl) (fun _ _ _ h => h) (by rfl) ?_ (by assumption) ?_
             rotate_left
             · (intro w hSw; (try dsimp only at hSw); go_simp; try with_reducible rfl)
             simp only [Act.put, sA, sZ, sS])
          | (refine takeU (i := 28) rfl (by kernel_rfl) (by kernel_rfl) (by kernel_rfl) (fun _ _ _ h => h) (by rfl) (by assumption) ?_
             simp only [Act.put, sA, sZ, sS])
          first
          | (refine takeW (i := 29) (v := ?_) rfl (by kernel_rfl) (by kernel_rfl) (by kernel_rfl) (fun _ _ _ h => h) (by rfl) ?_ (by assumption) ?_
             rotate_left
             · (intro w hSw; (try dsimp only at hSw); go_simp; try with_reducible rfl)
             simp only [Act.put, sA, sZ, sS])
          | (refine takeU (i := 29) rfl (by kernel_rfl) (by kernel_rfl) (by kernel_rfl) (fun _ _ _ h => h) (by rfl) (by assumption) ?_
             simp only [Act.put, sA, sZ, sS])
          first
          | (refine takeW (i := 30) (v := ?_) rfl (by kernel_rfl) (by kernel_rfl) (by kernel_rfl) (fun _ _ _ h => h) (by rfl) ?_ (by assumption) ?_
             rotate_left
             · (intro w hSw; (try dsimp only at hSw); go_simp; try with_reducible rfl)
             simp only [Act.put, sA, sZ, sS])
          | (refine takeU (i := 30) rfl (by kernel_rfl) (by kernel_rfl) (by kernel_rfl) (fun _ _ _ h => h) (by rfl) (by assumption) ?_
             simp only [Act.put, sA, sZ, sS])
          first
          | (refine takeW (i := 31) (v := ?_) rfl (by kernel_rfl) (by kernel_rfl) (by kernel_rfl) (fun _ _ _ h => h) (by rfl) ?_ (by assumption) ?_
             rotate_left
             · (intro w hSw; (try dsimp only at hSw); go_simp; try with_reducible rfl)
             simp only [Act.put, sA, sZ, sS])
          | (refine takeU (i := 31) rfl (by kernel_rfl) (by kernel_rfl) (by kernel_rfl) (fun _ _ _ h => h) (by rfl) (by assumption) ?_
             simp only [Act.put, sA, sZ, sS])
          first
          | (refine takeW (i := 32) (v := ?_) rfl (by kernel_rfl) (by kernel_rfl) (by kernel_rfl) (fun _ _ _ h => h) (by rfl) ?_ (by assumption) ?_
             rotate_left
             · (intro w hSw; (try dsimp only at hSw); go_simp; try with_reducible rfl)
             simp only [Act.put, sA, sZ, sS])
          | (refine takeU (i := 32) rfl (by kernel_rfl) (by kernel_rfl) (by kernel_rfl) (fun _ _ _ h => h) (by rfl) (by assumption) ?_
             simp only [Act.put, sA, sZ, sS])
          first
          | (refine takeW (i := 33) (v := ?_) rfl (by kernel_rfl) (by kernel_rfl) (by kernel_rfl) (fun _ _ _ h => h) (by rfl) ?_ (by assumption) ?_
             rotate_left
             · (intro w hSw; (try dsimp only at hSw); go_simp; try with_reducible rfl)
             simp only [Act.put, sA, sZ, sS])
          | (refine takeU (i := 33) rfl (by kernel_rfl) (by kernel_rfl) (by kernel_rfl) (fun _ _ _ h => h) (by rfl) (by assumption) ?_
             simp only [Act.put, sA, sZ, sS])
          first
          | (refine takeW (i := 34) (v := ?_) rfl (by kernel_rfl) (by kernel_rfl) (by kernel_rfl) (fun _ _ _ h => h) (by rfl) ?_ (by assumption) ?_
             rotate_left
             · (intro w hSw; (try dsimp only at hSw); go_simp; try with_reducible rfl)
             simp only [Act.put, sA, sZ, sS])
          | (refine takeU (i := 34) rfl (by kernel_rfl) (by kernel_rfl) (by kernel_rfl) (fun _ _ _ h => h) (by rfl) (by assumption) ?_
             simp only [Act.put, sA, sZ, sS])
          first
          | (refine takeW (i := 35) (v := ?_) rfl (by kernel_rfl) (by kernel_rfl) (by kernel_rfl) (fun _ _ _ h => h) (by rfl) ?_ (by assumption) ?_
             rotate_left
             · (intro w hSw; (try dsimp only at hSw); go_simp; try with_reducible rfl)
             simp only [Act.put, sA, sZ, sS])
          | (refine takeU (i := 35) rfl (by kernel_rfl) (by kernel_rfl) (by kernel_rfl) (fun _ _ _ h => h) (by rfl) (by assumption) ?_
             simp only [Act.put, sA, sZ, sS])
          first
          | (refine takeW (i := 36) (v := ?_) rfl (by kernel_rfl) (by kernel_rfl) (by kernel_rfl) (fun _ _ _ h => h) (by rfl) ?_ (by assumption) ?_
             rotate_left
             · (intro w hSw; (try dsimp only at hSw); go_simp; try with_reducible rfl)
             simp only [Act.put, sA, sZ, sS])
          | (refine takeU (i := 36) rfl (by kernel_rfl) (by kernel_rfl) (by kernel_rfl) (fun _ _ _ h => h) (by rfl) (by assumption) ?_
             simp only [Act.put, sA, sZ, sS])
          first
          | (refine takeW (i := 37) (v := ?_) rfl (by kernel_rfl) (by kernel_rfl) (by kernel_rfl) (fun _ _ _ h => h) (by rfl) ?_ (by assumption) ?_
             rotate_left
             · (intro w hSw; (try dsimp only at hSw); go_simp; try with_reducible rfl)
             simp only [Act.put, sA, sZ, sS])
          | (refine takeU (i := 37) rfl (by kernel_rfl) (by kernel_rfl) (by kernel_rfl) (fun _ _ _ h => h) (by rfl) (by assumption) ?_
             simp only [Act.put, sA, sZ, sS])
          first
          | (refine takeW (i := 38) (v := ?_) rfl (by kernel_rfl) (by kernel_rfl) (by kernel_rfl) (fun _ _ _ h => h) (by rfl) ?_ (by assumption) ?_
             rotate_left
             · (intro w hSw; (try dsimp only at hSw); go_simp; try with_reducible rfl)
             simp only [Act.put, sA, sZ, sS])
          | (refine takeU (i := 38) rfl (by kernel_rfl) (by kernel_rfl) (by kernel_rfl) (fun _ _ _ h => h) (by rfl) (by assumption) ?_
             simp only [Act.put, sA, sZ, sS])
          refine wpAnyH_done (by kernel_rfl) ?_ _
          go_wp2_with fail
          go_ret
          exact ⟨ret_bool (by simp [*]), HE1.out.below.trans ((by first | exact hB3 | exact Below.drew hB2 : Below W1.heap.size W1 _).mono HE1.out.size)⟩
        · have g1 : (t ≤ now + 100) = True := eq_true h1
          have g2 : (now - keep < t) = False := eq_false h2
          have KC2 : Hid (Calls Tryz.prog 33 #[lv] W1 fun e w' => (∃ r, e = .returned (.tuple #[r, .int .i64 0]) ∧ OwnL w' W1.heap.size r (canV l)) ∧ Below W1.heap.size W1 w') := by have := KC.out; show Calls _ _ _ _ _; simpa using this
          clear KC
          go_enter Tryz.func22, Tryz.ntmps22
          go_wp2_with fail
          rw [← HW1.out]
          refine KC2.out.mono ?_
          rintro e w2 ⟨⟨r, rfl, _⟩, hB2⟩
          go_wp2_with fail
          refine wp_region_held_drew (S := fun w' => w'.cell? ⟨W.heap.size, 1, none⟩ = some (.int .i64 t) ∧ w'.cell? ⟨W.heap.size, 2, none⟩ = some (.int .i64 m) ∧ w'.cell? ⟨W.heap.size, 3, none⟩ = some (.int .i64 x) ∧ w'.cell? ⟨W.heap.size, 4, none⟩ = some (.int .i64 z) ∧ w'.cell? ⟨o, 1, none⟩ = some (.int .i64 keep) ∧ w'.cell? ⟨o, 2, none⟩ = some (.int .i64 now) ∧ Below W1.heap.size W1 w') (by kernel_rfl) ?_ (fun hHeld => ?_)
          · (try dsimp only)
            (have hd := Below.drew hB2; exact ⟨(HK.out _ hd).1, (HK.out _ hd).2.1, (HK.out _ hd).2.2.1, (HK.out _ hd).2.2.2.1, (HK.out _ hd).2.2.2.2.1, (HK.out _ hd).2.2.2.2.2, hd⟩)
          first
          | (refine takeW (i := 0) (v := ?_) rfl (by kernel_rfl) (by kernel_rfl) (by kernel_rfl) (fun _ _ _ h => h) (by rfl) ?_ (by assumption) ?_
             rotate_left
             · (intro w hSw; (try dsimp only at hSw); go_simp; try with_reducible rfl)
             simp only [Act.put, sA, sZ, sS])
          | (refine takeU (i := 0) rfl (by kernel_rfl) (by kernel_rfl) (by kernel_rfl) (fun _ _ _ h => h) (by rfl) (by assumption) ?_
             simp only [Act.put, sA, sZ, sS])
          first
          | (refine takeW (i := 1) (v := ?_) rfl (by kernel_rfl) (by kernel_rfl) (by kernel_rfl) (fun _ _ _ h => h) (by rfl) ?_ (by assumption) ?_
             rotate_left
             · (intro w hSw; (try dsimp only at hSw); go_simp; try with_reducible rfl)
             simp only [Act.put, sA, sZ, sS])
          | (refine takeU (i := 1) rfl (by kernel_rfl) (by kernel_rfl) (by kernel_rfl) (fun _ _ _ h => h) (by rfl) (by assumption) ?_
             simp only [Act.put, sA, sZ, sS])
          first
          | (refine takeW (i := 2) (v := ?_) rfl (by kernel_rfl) (by kernel_rfl) (by kernel_rfl) (fun _ _ _ h => h) (by rfl) ?_ (by assumption) ?_
             rotate_left
             · (intro w hSw; (try dsimp only at hSw); go_simp; try with_reducible rfl)
             simp only [Act.put, sA, sZ, sS])
          | (refine takeU (i := 2) rfl (by kernel_rfl) (by kernel_rfl) (by kernel_rfl) (fun _ _ _ h => h) (by rfl) (by assumption) ?_
             simp only [Act.put, sA, sZ, sS])
          first
          | (refine takeW (i := 3) (v := ?_) rfl (by kernel_rfl) (by kernel_rfl) (by kernel_rfl) (fun _ _ _ h => h) (by rfl) ?_ (by assumption) ?_
             rotate_left
             · (intro w hSw; (try dsimp only at hSw); go_simp; try with_reducible rfl)
             simp only [Act.put, sA, sZ, sS])
          | (refine takeU (i := 3) rfl (by kernel_rfl) (by kernel_rfl) (by kernel_rfl) (fun _ _ _ h => h) (by rfl) (by assumption) ?_
             simp only [Act.put, sA, sZ, sS])
          first
          | (refine takeW (i := 4) (v := ?_) rfl (by kernel_rfl) (by kernel_rfl) (by kernel_rfl) (fun _ _ _ h => h) (by rfl) ?_ (by assumption) ?_
             rotate_left
             · (intro w hSw; (try dsimp only at hSw); go_simp; try with_reducible rfl)
             simp only [Act.put, sA, sZ, sS])
          | (refine takeU (i := 4) rfl (by kernel_rfl) (by kernel_rfl) (by kernel_rfl) (fun _ _ _ h => h) (by rfl) (by assumption) ?_
             simp only [Act.put, sA, sZ, sS])
          first
          | (refine takeW (i := 5) (v := ?_) rfl (by kernel_rfl) (by kernel_rfl) (by kernel_rfl) (fun _ _ _ h => h) (by rfl) ?_ (by assumption) ?_
             rotate_left
             · (intro w hSw; (try dsimp only at hSw); go_simp; try with_reducible rfl)
             simp only [Act.put, sA, sZ, sS])
          | (refine takeU (i := 5) rfl (by kernel_rfl) (by kernel_rfl) (by kernel_rfl) (fun _ _ _ h => h) (by rfl) (by assumption) ?_
             simp only [Act.put, sA, sZ, sS])
          first
          | (refine takeW (i := 6) (v := ?_) rfl (by kernel_rfl) (by kernel_rfl) (by kernel_rfl) (fun _ _ _ h => h) (by rfl) ?_ (by assumption) ?_
             rotate_left
             · (intro w hSw; (try dsimp only at hSw); go_simp; try with_reducible rfl)
             simp only [Act.put, sA, sZ, sS])
          | (refine takeU (i := 6) rfl (by kernel_rfl) (by kernel_rfl) (by kernel_rfl) (fun _ _ _ h => h) (by rfl) (by assumption) ?_
             simp only [Act.put, sA, sZ, sS])
          first
          | (refine takeW (i := 7) (v := ?_) rfl (by kernel_rfl) (by kernel_rfl) (by kernel_rfl) (fun _ _ _ h => h) (by rfl) ?_ (by assumption) ?_
             rotate_left
             · (intro w hSw; (try dsimp only at hSw); go_simp; try with_reducible rfl)
             simp only [Act.put, sA, sZ, sS])
          | (refine takeU (i := 7) rfl (by kernel_rfl) (by kernel_rfl) (by kernel_rfl) (fun _ _ _ h => h) (by rfl) (by assumption) ?_
             simp only [Act.put, sA, sZ, sS])
          first
          | (refine takeW (i := 8) (v := ?_) rfl (by kernel_rfl) (by kernel_rfl) (by kernel_rfl) (fun _ _ _ h => h) (by rfl) ?_ (by assumption) ?_
             rotate_left
             · (intro w hSw; (try dsimp only at hSw); go_simp; try with_reducible rfl)
             simp only [Act.put, sA, sZ, sS])
          | (refine takeU (i := 8) rfl (by kernel_rfl) (by kernel_rfl) (by kernel_rfl) (fun _ _ _ h => h) (by rfl) (by assumption) ?_
             simp only [Act.put, sA, sZ, sS])
          first
          | (refine takeW (i := 9) (v := ?_) rfl (by kernel_rfl) (by kernel_rfl) (by kernel_rfl) (fun _ _ _ h => h) (by rfl) ?_ (by assumption) ?_
             rotate_left
             · (intro w hSw; (try dsimp only at hSw); go_simp; try with_reducible rfl)
             simp only [Act.put, sA, sZ, sS])
          | (refine takeU (i := 9) rfl (by kernel_rfl) (by kernel_rfl) (by kernel_rfl) (fun _ _ _ h => h) (by rfl) (by assumption) ?_
             simp only [Act.put, sA, sZ, sS])
          first
          | (refine takeW (i := 10) (v := ?_) rfl (by kernel_rfl) (by kernel_rfl) (by kernel_rfl) (fun _ _ _ h => h) (by rfl) ?_ (by assumption) ?_
             rotate_left
             · (intro w hSw; (try dsimp only at hSw); go_simp; try with_reducible rfl)
             simp only [Act.put, sA, sZ, sS])
          | (refine takeU (i := 10) rfl (by kernel_rfl) (by kernel_rfl) (by kernel_rfl) (fun _ _ _ h => h) (by rfl) (by assumption) ?_
             simp only [Act.put, sA, sZ, sS])
          first
          | (refine takeW (i := 11) (v := ?_) rfl (by kernel_rfl) (by kernel_rfl) (by kernel_rfl) (fun _ _ _ h => h) (by rfl) ?_ (by assumption) ?_
             rotate_left
             · (intro w hSw; (try dsimp only at hSw); go_simp; try with_reducible rfl)
             simp only [Act.put, sA, sZ, sS])
          | (refine takeU (i := 11) rfl (by kernel_rfl) (by kernel_rfl) (by kernel_rfl) (fun _ _ _ h => h) (by rfl) (by assumption) ?_
             simp only [Act.put, sA, sZ, sS])
          first
          | (refine takeU (i := 12) rfl (by kernel_rfl) (by kernel_rfl) (by kernel_rfl) (fun _ _ _ h => h) (by rfl) (by assumption) ?_
             simp only [Act.put, sA, sZ, sS])
          | (refine takeC (i := 12) rfl (by kernel_rfl) (by rfl) (fun K hK => ?_)
             go_simp
             (go_at_call 51; refine (KR.out _).mono ?_; rintro e w3 ⟨rfl, hN⟩; have hB3 := (Below.drew hB2).trans (hN.below.mono (Below.drew hB2).size))
             try go_wp2_with fail
             refine hK.out _ _ ?_ (fun hHeld => ?_)
             · (try dsimp only)
               (have hd := hB3; exact ⟨(HK.out _ hd).1, (HK.out _ hd).2.1, (HK.out _ hd).2.2.1, (HK.out _ hd).2.2.2.1, (HK.out _ hd).2.2.2.2.1, (HK.out _ hd).2.2.2.2.2, hd⟩)
             clear hK K
             try simp only [Act.put, sA, sZ, sS])
          first
          | (refine takeW (i := 13) (v := ?_) rfl (by kernel_rfl) (by kernel_rfl) (by kernel_rfl) (fun _ _ _ h => h) (by rfl) ?_ (by assumption) ?_
             rotate_left
             · (intro w hSw; (try dsimp only at hSw); go_simp; try with_reducible rfl)
             simp only [Act.put, sA, sZ, sS])
          | (refine takeU (i := 13) rfl (by kernel_rfl) (by kernel_rfl) (by kernel_rfl) (fun _ _ _ h => h) (by rfl) (by assumption) ?_
             simp only [Act.put, sA, sZ, sS])
          first
          | (refine takeW (i := 14) (v := ?_) rfl (by kernel_rfl) (by kernel_rfl) (by kernel_rfl) (fun _ _ _ h => h) (by rfl) ?_ (by assumption) ?_
             rotate_left
             · (intro w hSw; (try dsimp only at hSw); go_simp; try with_reducible rfl)
             simp only [Act.put, sA, sZ, sS])
          | (refine takeU (i := 14) rfl (by kernel_rfl) (by kernel_rfl) (by kernel_rfl) (fun _ _ _ h => h) (by rfl) (by assumption) ?_
             simp only [Act.put, sA, sZ, sS])
          first
          | (refine takeW (i := 15) (v := ?_) rfl (by kernel_rfl) (by kernel_rfl) (by kernel_rfl) (fun _ _ _ h => h) (by rfl) ?_ (by assumption) ?_
             rotate_left
             · (intro w hSw; (try dsimp only at hSw); go_simp; try with_reducible rfl)
             simp only [Act.put, sA, sZ, sS])
          | (refine takeU (i := 15) rfl (by kernel_rfl) (by kernel_rfl) (by kernel_rfl) (fun _ _ _ h => h) (by rfl) (by assumption) ?_
             simp only [Act.put, sA, sZ, sS])
          first
          | (refine takeW (i := 16) (v := ?_) rfl (by kernel_rfl) (by kernel_rfl) (by kernel_rfl) (fun _ _ _ h => h) (by rfl) ?_ (by assumption) ?_
             rotate_left
             · (intro w hSw; (try dsimp only at hSw); go_simp; try with_reducible rfl)
             simp only [Act.put, sA, sZ, sS])
          | (refine takeU (i := 16) rfl (by kernel_rfl) (by kernel_rfl) (by kernel_rfl) (fun _ _ _ h => h) (by rfl) (by assumption) ?_
             simp only [Act.put, sA, sZ, sS])
          first
          | (refine takeW (i := 17) (v := ?_) rfl (by kernel_rfl) (by kernel_rfl) (by kernel_rfl) (fun _ _ _ h => h) (by rfl) ?_ (by assumption) ?_
             rotate_left
             · (intro w hSw; (try dsimp only at hSw); go_simp; try with_reducible rfl)
             simp only [Act.put, sA, sZ, sS])
          | (refine takeU (i := 17) rfl (by kernel_rfl) (by kernel_rfl) (by kernel_rfl) (fun _ _ _ h => h) (by rfl) (by assumption) ?_
             simp only [Act.put, sA, sZ, sS])
          first
          | (refine takeW (i := 18) (v := ?_) rfl (by kernel_rfl) (by kernel_rfl) (by kernel_rfl) (fun _ _ _ h => h) (by rfl) ?_ (by assumption) ?_
             rotate_left
             · (intro w hSw; (try dsimp only at hSw); go_simp; try with_reducible rfl)
             simp only [Act.put, sA, sZ, sS])
          | (refine takeU (i := 18) rfl (by kernel_rfl) (by kernel_rfl) (by kernel_rfl) (fun _ _ _ h => h) (by rfl) (by assumption) ?_
             simp only [Act.put, sA, sZ, sS])
          first
          | (refine takeW (i := 19) (v := ?_) rfl (by kernel_rfl) (by kernel_rfl) (by kernel_rfl) (fun _ _ _ h => h) (by rfl) ?_ (by assumption) ?_
             rotate_left
             · (intro w hSw; (try dsimp only at hSw); go_simp; try with_reducible rfl)
             simp only [Act.put, sA, sZ, sS])
          | (refine takeU (i := 19) rfl (by kernel_rfl) (by kernel_rfl) (by kernel_rfl) (fun _ _ _ h => h) (by rfl) (by assumption) ?_
             simp only [Act.put, sA, sZ, sS])
          first
          | (refine takeW (i := 20) (v := ?_) rfl (by kernel_rfl) (by kernel_rfl) (by kernel_rfl) (fun _ _ _ h => h) (by rfl) ?_ (by assumption) ?_
             rotate_left
             · (intro w hSw; (try dsimp only at hSw); go_simp; try with_reducible rfl)
             simp only [Act.put, sA, sZ, sS])
          | (refine takeU (i := 20) rfl (by kernel_rfl) (by kernel_rfl) (by kernel_rfl) (fun _ _ _ h => h) (by rfl) (by assumption) ?_
             simp only [Act.put, sA, sZ, sS])
          first
          | (refine takeW (i := 21) (v := ?_) rfl (by kernel_rfl) (by kernel_rfl) (by kernel_rfl) (fun _ _ _ h => h) (by rfl) ?_ (by assumption) ?_
             rotate_left
             · (intro w hSw; (try dsimp only at hSw); go_simp; try with_reducible rfl)
             simp only [Act.put, sA, sZ, sS])
          | (refine takeU (i := 21) rfl (by kernel_rfl) (by kernel_rfl) (by kernel_rfl) (fun _ _ _ h => h) (by rfl) (by assumption) ?_
             simp only [Act.put, sA, sZ, sS])
          first
          | (refine takeW (i := 22) (v := ?_) rfl (by kernel_rfl) (by kernel_rfl) (by kernel_rfl) (fun _ _ _ h => h) (by rfl) ?_ (by assumption) ?_
             rotate_left
             · (intro w hSw; (try dsimp only at hSw); go_simp; try with_reducible rfl)
             simp only [Act.put, sA, sZ, sS])
          | (refine takeU (i := 22) rfl (by kernel_rfl) (by kernel_rfl) (by kernel_rfl) (fun _ _ _ h => h) (by rfl) (by assumption) ?_
             simp only [Act.put, sA, sZ, sS])
          first
          | (refine takeW (i := 23) (v := ?_) rfl (by kernel_rfl) (by kernel_rfl) (by kernel_rfl) (fun _ _ _ h => h) (by rfl) ?_ (by assumption) ?_
             rotate_left
             · (intro w hSw; (try dsimp only at hSw); go_simp; try with_reducible rfl)
             simp only [Act.put, sA, sZ, sS])
          | (refine takeU (i := 23) rfl (by kernel_rfl) (by kernel_rfl) (by kernel_rfl) (fun _ _ _ h => h) (by rfl) (by assumption) ?_
             simp only [Act.put, sA, sZ, sS])
          first
          | (refine takeW (i := 24) (v := ?_) rfl (by kernel_rfl) (by kernel_rfl) (by kernel_rfl) (fun _ _ _ h => h) (by rfl) ?_ (by assumption) ?_
             rotate_left
             · (intro w hSw; (try dsimp only at hSw); go_simp; try with_reducible rfl)
             simp only [Act.put, sA, sZ, sS])
          | (refine takeU (i := 24) rfl (by kernel_rfl) (by kernel_rfl) (by kernel_rfl) (fun _ _ _ h => h) (by rfl) (by assumption) ?_
             simp only [Act.put, sA, sZ, sS])
          first
          | (refine takeW (i := 25) (v := ?_) rfl (by kernel_rfl) (by kernel_rfl) (by kernel_rfl) (fun _ _ _ h => h) (by rfl) ?_ (by assumption) ?_
             rotate_left
             · (intro w hSw; (try dsimp only at hSw); go_simp; try with_reducible rfl)
             simp only [Act.put, sA, sZ, sS])
          | (refine takeU (i := 25) rfl (by kernel_rfl) (by kernel_rfl) (by kernel_rfl) (fun _ _ _ h => h) (by rfl) (by assumption) ?_
             simp only [Act.put, sA, sZ, sS])
          first
          | (refine takeW (i := 26) (v := ?_) rfl (by kernel_rfl) (by kernel_rfl) (by kernel_rfl) (fun _ _ _ h => h) (by rfl) ?_ (by assumption) ?_
             rotate_left
             · (intro w hSw; (try dsimp only at hSw); go_simp; try with_reducible rfl)
             simp only [Act.put, sA, sZ, sS])
          | (refine takeU (i := 26) rfl (by kernel_rfl) (by kernel_rfl) (by kernel_rfl) (fun _ _ _ h => h) (by rfl) (by assumption) ?_
             simp only [Act.put, sA, sZ, sS])
          first
          | (refine takeW (i := 27) (v := ?_) rfl (by kernel_rfl) (by kernel_rfl) (by kernel_rfl) (fun _ _ _ h => h) (by rfl) ?_ (by assumption) ?_
             rotate_left
             · (intro w hSw; (try dsimp only at hSw); go_simp; try with_reducible rfl)
             simp only [Act.put, sA, sZ, sS])
          | (refine takeU (i := 27) rfl (by kernel_rfl) (by kernel_rfl) (by kernel_rfl) (fun _ _ _ h => h) (by rfl) (by assumption) ?_
             simp only [Act.put, sA, sZ, sS])
          first
          | (refine takeW (i := 28) (v := ?_) rfl (by kernel_rfl) (by kernel_rfl) (by kernel_rfl) (fun _ _ _ h => h) (by rfl) ?_ (by assumption) ?_
             rotate_left
             · (intro w hSw; (try dsimp only at hSw); go_simp; try with_reducible rfl)
             simp only [Act.put, sA, sZ, sS])
          | (refine takeU (i := 28) rfl (by kernel_rfl) (by kernel_rfl) (by kernel_rfl) (fun _ _ _ h => h) (by rfl) (by assumption) ?_
             simp only [Act.put, sA, sZ, sS])
          first
          | (refine takeW (i := 29) (v := ?_) rfl (by kernel_rfl) (by kernel_rfl) (by kernel_rfl) (fun _ _ _ h => h) (by rfl) ?_ (by assumption) ?_
             rotate_left
             · (intro w hSw; (try dsimp only at hSw); go_simp; try with_reducible rfl)
             simp only [Act.put, sA, sZ, sS])
          | (refine takeU (i := 29) rfl (by kernel_rfl) (by kernel_rfl) (by kernel_rfl) (fun _ _ _ h => h) (by rfl) (by assumption) ?_
             simp only [Act.put, sA, sZ, sS])
          first
          | (refine takeW (i := 30) (v := ?_) rfl (by kernel_rfl) (by kernel_rfl) (by kernel_rfl) (fun _ _ _ h => h) (by rfl) ?_ (by assumption) ?_
             rotate_left
             · (intro w hSw; (try dsimp only at hSw); go_simp; try with_reducible rfl)
             simp only [Act.put, sA, sZ, sS])
          | (refine takeU (i := 30) rfl (by kernel_rfl) (by kernel_rfl) (by kernel_rfl) (fun _ _ _ h => h) (by rfl) (by assumption) ?_
             simp only [Act.put, sA, sZ, sS])
          first
          | (refine takeW (i := 31) (v := ?_) rfl (by kernel_rfl) (by kernel_rfl) (by kernel_rfl) (fun _ _ _ h => h) (by rfl) ?_ (by assumption) ?_
             rotate_left
             · (intro w hSw; (try dsimp only at hSw); go_simp; try with_reducible rfl)
             simp only [Act.put, sA, sZ, sS])
          | (refine takeU (i := 31) rfl (by kernel_rfl) (by kernel_rfl) (by kernel_rfl) (fun _ _ _ h => h) (by rfl) (by assumption) ?_
             simp only [Act.put, sA, sZ, sS])
          first
          | (refine takeW (i := 32) (v := ?_) rfl (by kernel_rfl) (by kernel_rfl) (by kernel_rfl) (fun _ _ _ h => h) (by rfl) ?_ (by assumption) ?_
             rotate_left
             · (intro w hSw; (try dsimp only at hSw); go_simp; try with_reducible rfl)
             simp only [Act.put, sA, sZ, sS])
          | (refine takeU (i := 32) rfl (by kernel_rfl) (by kernel_rfl) (by kernel_rfl) (fun _ _ _ h => h) (by rfl) (by assumption) ?_
             simp only [Act.put, sA, sZ, sS])
          first
          | (refine takeW (i := 33) (v := ?_) rfl (by kernel_rfl) (by kernel_rfl) (by kernel_rfl) (fun _ _ _ h => h) (by rfl) ?_ (by assumption) ?_
             rotate_left
             · (intro w hSw; (try dsimp only at hSw); go_simp; try with_reducible rfl)
             simp only [Act.put, sA, sZ, sS])
          | (refine takeU (i := 33) rfl (by kernel_rfl) (by kernel_rfl) (by kernel_rfl) (fun _ _ _ h => h) (by rfl) (by assumption) ?_
             simp only [Act.put, sA, sZ, sS])
          first
          | (refine takeW (i := 34) (v := ?_) rfl (by kernel_rfl) (by kernel_rfl) (by kernel_rfl) (fun _ _ _ h => h) (by rfl) ?_ (by assumption) ?_
             rotate_left
             · (intro w hSw; (try dsimp only at hSw); go_simp; try with_reducible rfl)
             simp only [Act.put, sA, sZ, sS])
          | (refine takeU (i := 34) rfl (by kernel_rfl) (by kernel_rfl) (by kernel_rfl) (fun _ _ _ h => h) (by rfl) (by assumption) ?_
             simp only [Act.put, sA, sZ, sS])
          first
          | (refine takeW (i := 35) (v := ?_) rfl (by kernel_rfl) (by kernel_rfl) (by kernel_rfl) (fun _ _ _ h => h) (by rfl) ?_ (by assumption) ?_
             rotate_left
             · (intro w hSw; (try dsimp only at hSw); go_simp; try with_reducible rfl)
             simp only [Act.put, sA, sZ, sS])
          | (refine takeU (i := 35) rfl (by kernel_rfl) (by kernel_rfl) (by kernel_rfl) (fun _ _ _ h => h) (by rfl) (by assumption) ?_
             simp only [Act.put, sA, sZ, sS])
          first
          | (refine takeW (i := 36) (v := ?_) rfl (by kernel_rfl) (by kernel_rfl) (by kernel_rfl) (fun _ _ _ h => h) (by rfl) ?_ (by assumption) ?_
             rotate_left
             · (intro w hSw; (try dsimp only at hSw); go_simp; try with_reducible rfl)
             simp only [Act.put, sA, sZ, sS])
          | (refine takeU (i := 36) rfl (by kernel_rfl) (by kernel_rfl) (by kernel_rfl) (fun _ _ _ h => h) (by rfl) (by assumption) ?_
             simp only [Act.put, sA, sZ, sS])
          first
          | (refine takeW (i := 37) (v := ?_) rfl (by kernel_rfl) (by kernel_rfl) (by kernel_rfl) (fun _ _ _ h => h) (by rfl) ?_ (by assumption) ?_
             rotate_left
             · (intro w hSw; (try dsimp only at hSw); go_simp; try with_reducible rfl)
             simp only [Act.put, sA, sZ, sS])
          | (refine takeU (i := 37) rfl (by kernel_rfl) (by kernel_rfl) (by kernel_rfl) (fun _ _ _ h => h) (by rfl) (by assumption) ?_
             simp only [Act.put, sA, sZ, sS])
          first
          | (refine takeW (i := 38) (v := ?_) rfl (by kernel_rfl) (by kernel_rfl) (by kernel_rfl) (fun _ _ _ h => h) (by rfl) ?_ (by assumption) ?_
             rotate_left
             · (intro w hSw; (try dsimp only at hSw); go_simp; try with_reducible rfl)
             simp only [Act.put, sA, sZ, sS])
          | (refine takeU (i := 38) rfl (by kernel_rfl) (by kernel_rfl) (by kernel_rfl) (fun _ _ _ h => h) (by rfl) (by assumption) ?_
             simp only [Act.put, sA, sZ, sS])
          refine wpAnyH_done (by kernel_rfl) ?_ _
          go_wp2_with fail
          go_ret
          exact ⟨ret_bool (by simp [*]), HE1.out.below.trans ((by first | exact hB3 | exact Below.drew hB2 : Below W1.heap.size W1 _).mono HE1.out.size)⟩
      · have g1 : (t ≤ now + 100) = False := eq_false h1
        have KC2 : Hid (Calls Tryz.prog 33 #[lv] W1 fun e w' => (∃ r, e = .returned (.tuple #[r, .int .i64 0]) ∧ OwnL w' W1.heap.size r (canV l)) ∧ Below W1.heap.size W1 w') := by have := KC.out; show Calls _ _ _ _ _; simpa using this
        clear KC
        go_enter Tryz.func22, Tryz.ntmps22
        go_wp2_with fail
        rw [← HW1.out]
        refine KC2.out.mono ?_
        rintro e w2 ⟨⟨r, rfl, _⟩, hB2⟩
        go_wp2_with fail
        refine wp_region_held_drew (S := fun w' => w'.cell? ⟨W.heap.size, 1, none⟩ = some (.int .i64 t) ∧ w'.cell? ⟨W.heap.size, 2, none⟩ = some (.int .i64 m) ∧ w'.cell? ⟨W.heap.size, 3, none⟩ = some (.int .i64 x) ∧ w'.cell? ⟨W.heap.size, 4, none⟩ = some (.int .i64 z) ∧ w'.cell? ⟨o, 1, none⟩ = some (.int .i64 keep) ∧ w'.cell? ⟨o, 2, none⟩ = some (.int .i64 now) ∧ Below W1.heap.size W1 w') (by kernel_rfl) ?_ (fun hHeld => ?_)
        · (try dsimp only)
          (have hd := Below.drew hB2; exact ⟨(HK.out _ hd).1, (HK.out _ hd).2.1, (HK.out _ hd).2.2.1, (HK.out _ hd).2.2.2.1, (HK.out _ hd).2.2.2.2.1, (HK.out _ hd).2.2.2.2.2, hd⟩)
        first
        | (refine takeW (i := 0) (v := ?_) rfl (by kernel_rfl) (by kernel_rfl) (by kernel_rfl) (fun _ _ _ h => h) (by rfl) ?_ (by assumption) ?_
           rotate_left
           · (intro w hSw; (try dsimp only at hSw); go_simp; try with_reducible rfl)
           simp only [Act.put, sA, sZ, sS])
        | (refine takeU (i := 0) rfl (by kernel_rfl) (by kernel_rfl) (by kernel_rfl) (fun _ _ _ h => h) (by rfl) (by assumption) ?_
           simp only [Act.put, sA, sZ, sS])
        first
        | (refine takeW (i := 1) (v := ?_) rfl (by kernel_rfl) (by kernel_rfl) (by kernel_rfl) (fun _ _ _ h => h) (by rfl) ?_ (by assumption) ?_
           rotate_left
           · (intro w hSw; (try dsimp only at hSw); go_simp; try with_reducible rfl)
           simp only [Act.put, sA, sZ, sS])
        | (refine takeU (i := 1) rfl (by kernel_rfl) (by kernel_rfl) (by kernel_rfl) (fun _ _ _ h => h) (by rfl) (by assumption) ?_
           simp only [Act.put, sA, sZ, sS])
        first
        | (refine takeW (i := 2) (v := ?_) rfl (by kernel_rfl) (by kernel_rfl) (by kernel_rfl) (fun _ _ _ h => h) (by rfl) ?_ (by assumption) ?_
           rotate_left
           · (intro w hSw; (try dsimp only at hSw); go_simp; try with_reducible rfl)
           simp only [Act.put, sA, sZ, sS])
        | (refine takeU (i := 2) rfl (by kernel_rfl) (by kernel_rfl) (by kernel_rfl) (fun _ _ _ h => h) (by rfl) (by assumption) ?_
           simp only [Act.put, sA, sZ, sS])
        first
        | (refine takeW (i := 3) (v := ?_) rfl (by kernel_rfl) (by kernel_rfl) (by kernel_rfl) (fun _ _ _ h => h) (by rfl) ?_ (by assumption) ?_
           rotate_left
           · (intro w hSw; (try dsimp only at hSw); go_simp; try with_reducible rfl)
           simp only [Act.put, sA, sZ, sS])
        | (refine takeU (i := 3) rfl (by kernel_rfl) (by kernel_rfl) (by kernel_rfl) (fun _ _ _ h => h) (by rfl) (by assumption) ?_
           simp only [Act.put, sA, sZ, sS])
        first
        | (refine takeW (i := 4) (v := ?_) rfl (by kernel_rfl) (by kernel_rfl) (by kernel_rfl) (fun _ _ _ h => h) (by rfl) ?_ (by assumption) ?_
           rotate_left
           · (intro w hSw; (try dsimp only at hSw); go_simp; try with_reducible rfl)
           simp only [Act.put, sA, sZ, sS])
        | (refine takeU (i := 4) rfl (by kernel_rfl) (by kernel_rfl) (by kernel_rfl) (fun _ _ _ h => h) (by rfl) (by assumption) ?_
           simp only [Act.put, sA, sZ, sS])
        first
        | (refine takeW (i := 5) (v := ?_) rfl (by kernel_rfl) (by kernel_rfl) (by kernel_rfl) (fun _ _ _ h => h) (by rfl) ?_ (by assumption) ?_
           rotate_left
           · (intro w hSw; (try dsimp only at hSw); go_simp; try with_reducible rfl)
           simp only [Act.put, sA, sZ, sS])
        | (refine takeU (i := 5) rfl (by kernel_rfl) (by kernel_rfl) (by kernel_rfl) (fun _ _ _ h => h) (by rfl) (by assumption) ?_
           simp only [Act.put, sA, sZ, sS])
        first
        | (refine takeW (i := 6) (v := ?_) rfl (by kernel_rfl) (by kernel_rfl) (by kernel_rfl) (fun _ _ _ h => h) (by rfl) ?_ (by assumption) ?_
           rotate_left
           · (intro w hSw; (try dsimp only at hSw); go_simp; try with_reducible rfl)
           simp only [Act.put, sA, sZ, sS])
        | (refine takeU (i := 6) rfl (by kernel_rfl) (by kernel_rfl) (by kernel_rfl) (fun _ _ _ h => h) (by rfl) (by assumption) ?_
           simp only [Act.put, sA, sZ, sS])
        first
        | (refine takeW (i := 7) (v := ?_) rfl (by kernel_rfl) (by kernel_rfl) (by kernel_rfl) (fun _ _ _ h => h) (by rfl) ?_ (by assumption) ?_
           rotate_left
           · (intro w hSw; (try dsimp only at hSw); go_simp; try with_reducible rfl)
           simp only [Act.put, sA, sZ, sS])
        | (refine takeU (i := 7) rfl (by kernel_rfl) (by kernel_rfl) (by kernel_rfl) (fun _ _ _ h => h) (by rfl) (by assumption) ?_
           simp only [Act.put, sA, sZ, sS])
        first
        | (refine takeW (i := 8) (v := ?_) rfl (by kernel_rfl) (by kernel_rfl) (by kernel_rfl) (fun _ _ _ h => h) (by rfl) ?_ (by assumption) ?_
           rotate_left
           · (intro w hSw; (try dsimp only at hSw); go_simp; try with_reducible rfl)
           simp only [Act.put, sA, sZ, sS])
        | (refine takeU (i := 8) rfl (by kernel_rfl) (by kernel_rfl) (by kernel_rfl) (fun _ _ _ h => h) (by rfl) (by assumption) ?_
           simp only [Act.put, sA, sZ, sS])
        first
        | (refine takeW (i := 9) (v := ?_) rfl (by kernel_rfl) (by kernel_rfl) (by kernel_rfl) (fun _ _ _ h => h) (by rfl) ?_ (by assumption) ?_
           rotate_left
           · (intro w hSw; (try dsimp only at hSw); go_simp; try with_reducible rfl)
           simp only [Act.put, sA, sZ, sS])
        | (refine takeU (i := 9) rfl (by kernel_rfl) (by kernel_rfl) (by kernel_rfl) (fun _ _ _ h => h) (by rfl) (by assumption) ?_
           simp only [Act.put, sA, sZ, sS])
        first
        | (refine takeW (i := 10) (v := ?_) rfl (by kernel_rfl) (by kernel_rfl) (by kernel_rfl) (fun _ _ _ h => h) (by rfl) ?_ (by assumption) ?_
           rotate_left
           · (intro w hSw; (try dsimp only at hSw); go_simp; try with_reducible rfl)
           simp only [Act.put, sA, sZ, sS])
        | (refine takeU (i := 10) rfl (by kernel_rfl) (by kernel_rfl) (by kernel_rfl) (fun _ _ _ h => h) (by rfl) (by assumption) ?_
           simp only [Act.put, sA, sZ, sS])
        first
        | (refine takeW (i := 11) (v := ?_) rfl (by kernel_rfl) (by kernel_rfl) (by kernel_rfl) (fun _ _ _ h => h) (by rfl) ?_ (by assumption) ?_
           rotate_left
           · (intro w hSw; (try dsimp only at hSw); go_simp; try with_reducible rfl)
           simp only [Act.put, sA, sZ, sS])
        | (refine takeU (i := 11) rfl (by kernel_rfl) (by kernel_rfl) (by kernel_rfl) (fun _ _ _ h => h) (by rfl) (by assumption) ?_
           simp only [Act.put, sA, sZ, sS])
        first
        | (refine takeU (i := 12) rfl (by kernel_rfl) (by kernel_rfl) (by kernel_rfl) (fun _ _ _ h => h) (by rfl) (by assumption) ?_
           simp only [Act.put, sA, sZ, sS])
        | (refine takeC (i := 12) rfl (by kernel_rfl) (by rfl) (fun K hK => ?_)
           go_simp
           (go_at_call 51; refine (KR.out _).mono ?_; rintro e w3 ⟨rfl, hN⟩; have hB3 := (Below.drew hB2).trans (hN.below.mono (Below.drew hB2).size))
           try go_wp2_with fail
           refine hK.out _ _ ?_ (fun hHeld => ?_)
           · (try dsimp only)
             (have hd := hB3; exact ⟨(HK.out _ hd).1, (HK.out _ hd).2.1, (HK.out _ hd).2.2.1, (HK.out _ hd).2.2.2.1, (HK.out _ hd).2.2.2.2.1, (HK.out _ hd).2.2.2.2.2, hd⟩)
           clear hK K
           try simp only [Act.put, sA, sZ, sS])
        first
        | (refine takeW (i := 13) (v := ?_) rfl (by kernel_rfl) (by kernel_rfl) (by kernel_rfl) (fun _ _ _ h => h) (by rfl) ?_ (by assumption) ?_
           rotate_left
           · (intro w hSw; (try dsimp only at hSw); go_simp; try with_reducible rfl)
           simp only [Act.put, sA, sZ, sS])
        | (refine takeU (i := 13) rfl (by kernel_rfl) (by kernel_rfl) (by kernel_rfl) (fun _ _ _ h => h) (by rfl) (by assumption) ?_
           simp only [Act.put, sA, sZ, sS])
        first
        | (refine takeW (i := 14) (v := ?_) rfl (by kernel_rfl) (by kernel_rfl) (by kernel_rfl) (fun _ _ _ h => h) (by rfl) ?_ (by assumption) ?_
           rotate_left
           · (intro w hSw; (try dsimp only at hSw); go_simp; try with_reducible rfl)
           simp only [Act.put, sA, sZ, sS])
        | (refine takeU (i := 14) rfl (by kernel_rfl) (by kernel_rfl) (by kernel_rfl) (fun _ _ _ h => h) (by rfl) (by assumption) ?_
           simp only [Act.put, sA, sZ, sS])
        first
        | (refine takeW (i := 15) (v := ?_) rfl (by kernel_rfl) (by kernel_rfl) (by kernel_rfl) (fun _ _ _ h => h) (by rfl) ?_ (by assumption) ?_
           rotate_left
           · (intro w hSw; (try dsimp only at hSw); go_simp; try with_reducible rfl)
           simp only [Act.put, sA, sZ, sS])
        | (refine takeU (i := 15) rfl (by kernel_rfl) (by kernel_rfl) (by kernel_rfl) (fun _ _ _ h => h) (by rfl) (by assumption) ?_
           simp only [Act.put, sA, sZ, sS])
        first
        | (refine takeW (i := 16) (v := ?_) rfl (by kernel_rfl) (by kernel_rfl) (by kernel_rfl) (fun _ _ _ h => h) (by rfl) ?_ (by assumption) ?_
           rotate_left
           · (intro w hSw; (try dsimp only at hSw); go_simp; try with_reducible rfl)
           simp only [Act.put, sA, sZ, sS])
        | (refine takeU (i := 16) rfl (by kernel_rfl) (by kernel_rfl) (by kernel_rfl) (fun _ _ _ h => h) (by rfl) (by assumption) ?_
           simp only [Act.put, sA, sZ, sS])
        first
        | (refine takeW (i := 17) (v := ?_) rfl (by kernel_rfl) (by kernel_rfl) (by kernel_rfl) (fun _ _ _ h => h) (by rfl) ?_ (by assumption) ?_
           rotate_left
           · (intro w hSw; (try dsimp only at hSw); go_simp; try with_reducible rfl)
           simp only [Act.put, sA, sZ, sS])
        | (refine takeU (i := 17) rfl (by kernel_rfl) (by kernel_rfl) (by kernel_rfl) (fun _ _ _ h => h) (by rfl) (by assumption) ?_
           simp only [Act.put, sA, sZ, sS])
        first
        | (refine takeW (i := 18) (v := ?_) rfl (by kernel_rfl) (by kernel_rfl) (by kernel_rfl) (fun _ _ _ h => h) (by rfl) ?_ (by assumption) ?_
           rotate_left
           · (intro w hSw; (try dsimp only at hSw); go_simp; try with_reducible rfl)
           simp only [Act.put, sA, sZ, sS])
        | (refine takeU (i := 18) rfl (by kernel_rfl) (by kernel_rfl) (by kernel_rfl) (fun _ _ _ h => h) (by rfl) (by assumption) ?_
           simp only [Act.put, sA, sZ, sS])
        first
        | (refine takeW (i := 19) (v := ?_) rfl (by kernel_rfl) (by kernel_rfl) (by kernel_rfl) (fun _ _ _ h => h) (by rfl) ?_ (by assumption) ?_
           rotate_left
           · (intro w hSw; (try dsimp only at hSw); go_simp; try with_reducible rfl)
           simp only [Act.put, sA, sZ, sS])
        | (refine takeU (i := 19) rfl (by kernel_rfl) (by kernel_rfl) (by kernel_rfl) (fun _ _ _ h => h) (by rfl) (by assumption) ?_
           simp only [Act.put, sA, sZ, sS])
        first
        | (refine takeW (i := 20) (v := ?_) rfl (by kernel_rfl) (by kernel_rfl) (by kernel_rfl) (fun _ _ _ h => h) (by rfl) ?_ (by assumption) ?_
           rotate_left
           · (intro w hSw; (try dsimp only at hSw); go_simp; try with_reducible rfl)
           simp only [Act.put, sA, sZ, sS])
        | (refine takeU (i := 20) rfl (by kernel_rfl) (by kernel_rfl) (by kernel_rfl) (fun _ _ _ h => h) (by rfl) (by assumption) ?_
           simp only [Act.put, sA, sZ, sS])
        first
        | (refine takeW (i := 21) (v := ?_) rfl (by kernel_rfl) (by kernel_rfl) (by kernel_rfl) (fun _ _ _ h => h) (by rfl) ?_ (by assumption) ?_
           rotate_left
           · (intro w hSw; (try dsimp only at hSw); go_simp; try with_reducible rfl)
           simp only [Act.put, sA, sZ, sS])
        | (refine takeU (i := 21) rfl (by kernel_rfl) (by kernel_rfl) (by kernel_rfl) (fun _ _ _ h => h) (by rfl) (by assumption) ?_
           simp only [Act.put, sA, sZ, sS])
        first
        | (refine takeW (i := 22) (v := ?_) rfl (by kernel_rfl) (by kernel_rfl) (by kernel_rfl) (fun _ _ _ h => h) (by rfl) ?_ (by assumption) ?_
           rotate_left
           · (intro w hSw; (try dsimp only at hSw); go_simp; try with_reducible rfl)
           simp only [Act.put, sA, sZ, sS])
        | (refine takeU (i := 22) rfl (by kernel_rfl) (by kernel_rfl) (by kernel_rfl) (fun _ _ _ h => h) (by rfl) (by assumption) ?_
           simp only [Act.put, sA, sZ, sS])
        first
        | (refine takeW (i := 23) (v := ?_) rfl (by kernel_rfl) (by kernel_rfl) (by kernel_rfl) (fun _ _ _ h => h) (by rfl) ?_ (by assumption) ?_
           rotate_left
           · (intro w hSw; (try dsimp only at hSw); go_simp; try with_reducible rfl)
           simp only [Act.put, sA, sZ, sS])
        | (refine takeU (i := 23) rfl (by kernel_rfl) (by kernel_rfl) (by kernel_rfl) (fun _ _ _ h => h) (by rfl) (by assumption) ?_
           simp only [Act.put, sA, sZ, sS])
        first
        | (refine takeW (i := 24) (v := ?_) rfl (by kernel_rfl) (by kernel_rfl) (by kernel_rfl) (fun _ _ _ h => h) (by rfl) ?_ (by assumption) ?_
           rotate_left
           · (intro w hSw; (try dsimp only at hSw); go_simp; try with_reducible rfl)
           simp only [Act.put, sA, sZ, sS])
        | (refine takeU (i := 24) rfl (by kernel_rfl) (by kernel_rfl) (by kernel_rfl) (fun _ _ _ h => h) (by rfl) (by assumption) ?_
           simp only [Act.put, sA, sZ, sS])
        first
        | (refine takeW (i := 25) (v := ?_) rfl (by kernel_rfl) (by kernel_rfl) (by kernel_rfl) (fun _ _ _ h => h) (by rfl) ?_ (by assumption) ?_
           rotate_left
           · (intro w hSw; (try dsimp only at hSw); go_simp; try with_reducible rfl)
           simp only [Act.put, sA, sZ, sS])
        | (refine takeU (i := 25) rfl (by kernel_rfl) (by kernel_rfl) (by kernel_rfl) (fun _ _ _ h => h) (by rfl) (by assumption) ?_
           simp only [Act.put, sA, sZ, sS])
        first
        | (refine takeW (i := 26) (v := ?_) rfl (by kernel_rfl) (by kernel_rfl) (by kernel_rfl) (fun _ _ _ h => h) (by rfl) ?_ (by assumption) ?_
           rotate_left
           · (intro w hSw; (try dsimp only at hSw); go_simp; try with_reducible rfl)
           simp only [Act.put, sA, sZ, sS])
        | (refine takeU (i := 26) rfl (by kernel_rfl) (by kernel_rfl) (by kernel_rfl) (fun _ _ _ h => h) (by rfl) (by assumption) ?_
           simp only [Act.put, sA, sZ, sS])
        first
        | (refine takeW (i := 27) (v := ?_) rfl (by kernel_rfl) (by kernel_rfl) (by kernel_rfl) (fun _ _ _ h => h) (by rfl) ?_ (by assumption) ?_
           rotate_left
           · (intro w hSw; (try dsimp only at hSw); go_simp; try with_reducible rfl)
           simp only [Act.put, sA, sZ, sS])
        | (refine takeU (i := 27) rfl (by kernel_rfl) (by kernel_rfl) (by kernel_rfl) (fun _ _ _ h => h) (by rfl) (by assumption) ?_
           simp only [Act.put, sA, sZ, sS])
        first
        | (refine takeW (i := 28) (v := ?_) rfl (by kernel_rfl) (by kernel_rfl) (by kernel_rfl) (fun _ _ _ h => h) (by rfl) ?_ (by assumption) ?_
           rotate_left
           · (intro w hSw; (try dsimp only at hSw); go_simp; try with_reducible rfl)
           simp only [Act.put, sA, sZ, sS])
        | (refine takeU (i := 28) rfl (by kernel_rfl) (by kernel_rfl) (by kernel_rfl) (fun _ _ _ h => h) (by rfl) (by assumption) ?_
           simp only [Act.put, sA, sZ, sS])
        first
        | (refine takeW (i := 29) (v := ?_) rfl (by kernel_rfl) (by kernel_rfl) (by kernel_rfl) (fun _ _ _ h => h) (by rfl) ?_ (by assumption) ?_
           rotate_left
           · (intro w hSw; (try dsimp only at hSw); go_simp; try with_reducible rfl)
           simp only [Act.put, sA, sZ, sS])
        | (refine takeU (i := 29) rfl (by kernel_rfl) (by kernel_rfl) (by kernel_rfl) (fun _ _ _ h => h) (by rfl) (by assumption) ?_
           simp only [Act.put, sA, sZ, sS])
        first
        | (refine takeW (i := 30) (v := ?_) rfl (by kernel_rfl) (by kernel_rfl) (by kernel_rfl) (fun _ _ _ h => h) (by rfl) ?_ (by assumption) ?_
           rotate_left
           · (intro w hSw; (try dsimp only at hSw); go_simp; try with_reducible rfl)
           simp only [Act.put, sA, sZ, sS])
        | (refine takeU (i := 30) rfl (by kernel_rfl) (by kernel_rfl) (by kernel_rfl) (fun _ _ _ h => h) (by rfl) (by assumption) ?_
           simp only [Act.put, sA, sZ, sS])
        first
        | (refine takeW (i := 31) (v := ?_) rfl (by kernel_rfl) (by kernel_rfl) (by kernel_rfl) (fun _ _ _ h => h) (by rfl) ?_ (by assumption) ?_
           rotate_left
           · (intro w hSw; (try dsimp only at hSw); go_simp; try with_reducible rfl)
           simp only [Act.put, sA, sZ, sS])
        | (refine takeU (i := 31) rfl (by kernel_rfl) (by kernel_rfl) (by kernel_rfl) (fun _ _ _ h => h) (by rfl) (by assumption) ?_
           simp only [Act.put, sA, sZ, sS])
        first
        | (refine takeW (i := 32) (v := ?_) rfl (by kernel_rfl) (by kernel_rfl) (by kernel_rfl) (fun _ _ _ h => h) (by rfl) ?_ (by assumption) ?_
           rotate_left
           · (intro w hSw; (try dsimp only at hSw); go_simp; try with_reducible rfl)
           simp only [Act.put, sA, sZ, sS])
        | (refine takeU (i := 32) rfl (by kernel_rfl) (by kernel_rfl) (by kernel_rfl) (fun _ _ _ h => h) (by rfl) (by assumption) ?_
           simp only [Act.put, sA, sZ, sS])
        first
        | (refine takeW (i := 33) (v := ?_) rfl (by kernel_rfl) (by kernel_rfl) (by kernel_rfl) (fun _ _ _ h => h) (by rfl) ?_ (by assumption) ?_
           rotate_left
           · (intro w hSw; (try dsimp only at hSw); go_simp; try with_reducible rfl)
           simp only [Act.put, sA, sZ, sS])
        | (refine takeU (i := 33) rfl (by kernel_rfl) (by kernel_rfl) (by kernel_rfl) (fun _ _ _ h => h) (by rfl) (by assumption) ?_
           simp only [Act.put, sA, sZ, sS])
        first
        | (refine takeW (i := 34) (v := ?_) rfl (by kernel_rfl) (by kernel_rfl) (by kernel_rfl) (fun _ _ _ h => h) (by rfl) ?_ (by assumption) ?_
           rotate_left
           · (intro w hSw; (try dsimp only at hSw); go_simp; try with_reducible rfl)
           simp only [Act.put, sA, sZ, sS])
        | (refine takeU (i := 34) rfl (by kernel_rfl) (by kernel_rfl) (by kernel_rfl) (fun _ _ _ h => h) (by rfl) (by assumption) ?_
           simp only [Act.put, sA, sZ, sS])
        first
        | (refine takeW (i := 35) (v := ?_) rfl (by kernel_rfl) (by kernel_rfl) (by kernel_rfl) (fun _ _ _ h => h) (by rfl) ?_ (by assumption) ?_
           rotate_left
           · (intro w hSw; (try dsimp only at hSw); go_simp; try with_reducible rfl)
           simp only [Act.put, sA, sZ, sS])
        | (refine takeU (i := 35) rfl (by kernel_rfl) (by kernel_rfl) (by kernel_rfl) (fun _ _ _ h => h) (by rfl) (by assumption) ?_
           simp only [Act.put, sA, sZ, sS])
        first
        | (refine takeW (i := 36) (v := ?_) rfl (by kernel_rfl) (by kernel_rfl) (by kernel_rfl) (fun _ _ _ h => h) (by rfl) ?_ (by assumption) ?_
           rotate_left
           · (intro w hSw; (try dsimp only at hSw); go_simp; try with_reducible rfl)
           simp only [Act.put, sA, sZ, sS])
        | (refine takeU (i := 36) rfl (by kernel_rfl) (by kernel_rfl) (by kernel_rfl) (fun _ _ _ h => h) (by rfl) (by assumption) ?_
           simp only [Act.put, sA, sZ, sS])
        first
        | (refine takeW (i := 37) (v := ?_) rfl (by kernel_rfl) (by kernel_rfl) (by kernel_rfl) (fun _ _ _ h => h) (by rfl) ?_ (by assumption) ?_
           rotate_left
           · (intro w hSw; (try dsimp only at hSw); go_simp; try with_reducible rfl)
           simp only [Act.put, sA, sZ, sS])
        | (refine takeU (i := 37) rfl (by kernel_rfl) (by kernel_rfl) (by kernel_rfl) (fun _ _ _ h => h) (by rfl) (by assumption) ?_
           simp only [Act.put, sA, sZ, sS])
        first
        | (refine takeW (i := 38) (v := ?_) rfl (by kernel_rfl) (by kernel_rfl) (by kernel_rfl) (fun _ _ _ h => h) (by rfl) ?_ (by assumption) ?_
           rotate_left
           · (intro w hSw; (try dsimp only at hSw); go_simp; try with_reducible rfl)
           simp only [Act.put, sA, sZ, sS])
        | (refine takeU (i := 38) rfl (by kernel_rfl) (by kernel_rfl) (by kernel_rfl) (fun _ _ _ h => h) (by rfl) (by assumption) ?_
           simp only [Act.put, sA, sZ, sS])
        refine wpAnyH_done (by kernel_rfl) ?_ _
        go_wp2_with fail
        go_ret
        exact ⟨ret_bool (by simp [*]), HE1.out.below.trans ((by first | exact hB3 | exact Below.drew hB2 : Below W1.heap.size W1 _).mono HE1.out.size)⟩
/-- .. of an oracle. -/
theorem takes_walk {W : World} {S : Nat → Prop} {B o b : Nat} {every keep now : Int} {X : Sers} {R : Told} (h : Orc W S B o b every keep now X R) (lv : Value) (l : Lbs) (s : Smp) (hR : RdL W W.heap.size lv l) (hz : Nz lv) :
    Calls Tryz.prog 22 #[.pointer (some ⟨o, 0, none⟩), vR lv s] W fun e w' => e = .returned (.bool (takesR keep now (l, s))) ∧ Below W.heap.size W w' :=
  takes_walkC o keep now lv l s W h.cells.2.1 h.cells.2.2.1 h.bd hR hz
theorem now_walk {W : World} {S : Nat → Prop} {B o b : Nat} {every keep now : Int} {X : Sers} {R : Told} (h : Orc W S B o b every keep now X R) :
    Calls Tryz.prog 18 #[.pointer (some ⟨o, 0, none⟩)] W fun e w' => e = .returned (.int .i64 now) ∧ w' = W := by
  have c2 := h.cells.2.2.1
  clear h
  go_enter Tryz.func18, Tryz.ntmps18
  go_wp2_with fail
  go_ret
  exact ⟨rfl, rfl⟩
def clkN (now x : Int) : Int := max now (min x 1099511627776)
theorem clkN_bd {now x : Int} (h : 0 ≤ now ∧ now ≤ 1099511627776) : 0 ≤ clkN now x ∧ clkN now x ≤ 1099511627776 := by unfold clkN; omega
theorem clock_walk {W : World} {S : Nat → Prop} {B o b : Nat} {every keep now : Int} {X : Sers} {R : Told} (h : Orc W S B o b every keep now X R) (x : Int) :
    Calls Tryz.prog 12 #[.pointer (some ⟨o, 0, none⟩), .int .i64 x] W fun e w' => e = .returned (.tuple #[]) ∧ Orc w' S B o b every keep (clkN now x) X R ∧ Chg S W w' := by
  have c2 := h.cells.2.2.1
  have f2 := h.free 2
  have HH := Lib.hid h
  obtain ⟨y, hy⟩ : ∃ y, max now (min x 1099511627776) = y := ⟨_, rfl⟩
  have hy2 : clkN now x = y := hy
  clear h
  go_enter Tryz.func12, Tryz.ntmps12
  go_wp2_with fail
  go_end0
  rw [hy2]
  refine ⟨rfl, HH.out.clock y (by rw [← hy2]; exact clkN_bd HH.out.bd.2.2), (Chg.setCell W _ _).mono fun k _ hk => ?_⟩
  rw [hk]; exact HH.out.so
def keepN (k : Int) : Int := min (max k 1) 1099511627776
theorem keepN_bd (k : Int) : 1 ≤ keepN k ∧ keepN k ≤ 1099511627776 := by unfold keepN; omega
def noX : Sers := ⟨fun _ => 0, fun _ => .slice none 0 0, fun _ => .slice none 0 0⟩
theorem new_walk (every keep : Int) (W : World) :
    Calls Tryz.prog 11 #[.int .i64 every, .int .i64 keep] W fun e w' => e = .returned (.pointer (some ⟨W.heap.size + 1, 0, none⟩)) ∧
      Orc w' (fun k => k = W.heap.size ∨ k = W.heap.size + 1) W.heap.size (W.heap.size + 1) W.heap.size every (keepN keep) 0 noX [] ∧ Ext W w' := by
  have hmm := @run_makeMap Tryz.prog
  obtain ⟨y, hy⟩ : ∃ y, min (max keep 1) 1099511627776 = y := ⟨_, rfl⟩
  have hy2 : keepN keep = y := hy
  go_enter Tryz.func11, Tryz.ntmps11
  go_wp2_with fail
  go_ret
  rw [hy2]
  refine ⟨by simp, ⟨?_, .inr rfl, ⟨by rw [← hy2]; exact (keepN_bd keep).1, by rw [← hy2]; exact (keepN_bd keep).2, by omega, by omega⟩, 0, .map [], Nat.le_refl _, ?_⟩, ((Ext.refl W).alloc _).alloc _⟩
  · have e : (W.alloc (.map #[] 0)).heap.size = W.heap.size + 1 := by simp
    rw [← e]; exact heap_alloc_new _ _
  · have h := OM.made W
    have h2 := h.kept (T := NoB) (Chg.alloc (W.alloc (.map #[] 0)) (.cells #[.int .i64 every, .int .i64 y, .int .i64 0, .map (some W.heap.size)] 81)) (fun _ _ e => e)
    refine ⟨h2.map, fun k hk => ?_, .inl rfl, h2.isMap, h2.key, h2.has, fun _ h => (by cases h), fun _ h => (by cases h), fun _ h => (by cases h), fun _ _ h => (by cases h)⟩
    rcases hk with rfl | rfl <;> (first | (simp; done) | (simp; omega))
end Go.Proofs.YtkgcbeokfilehaaGreatDoor
