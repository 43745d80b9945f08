/-
  OracleDeletes: for every input the statement answers true, and the input reads as it did: the tied card. The conditions are the card's own: the listed package variables of Go's library hold what the program's text lays.
-/
import Derived.Test.YtkgcbeokfilehaaGreatDoorYgd
import Derived.Test.YtkgcbeokfilehaaGreatDoorYhd
import Derived.Test.YtkgcbeokfilehaaGreatDoorXsd
import Derived.Test.YtkgcbeokfilehaaGreatDoorWod
import Derived.Test.YtkgcbeokfilehaaGreatDoorRgnd
namespace Go.Proofs.YtkgcbeokfilehaaGreatDoor
open Go.RowKit Go.ChangeShapes Go.WideShapes Go.ChangeAt

set_option maxRecDepth 100000 in
theorem odl_lifted (os : Os) (started : os.Started) (H : Type) (enc : TypeId × Value → H) :
    ReturnsInHanded {} Tryz.checked os 8 .any (fun w args => (Rows.oracleDeletesSpec.pre enc Tryz.prog Tryz.f8 Rows.oracleDeletesRow.domain false w args ∧ laidMetH Tryz.prog lst w) ∧ sizedMet enc Tryz.prog Tryz.f8 (OpenSpec.ofChange Rows.oracleDeletesSpec) false w args)
      (Rows.oracleDeletesSpec.post enc Tryz.prog Tryz.f8 false true false false) := by
  refine returnsInHanded_of_change_and (C := Tryz.checked) (X := fun w _ => laidMetH Tryz.prog lst w) (fun _ _ _ hh h => h.of_heap hh) own started (by kernel_rfl) Tryz.func8
    (ChangeSpec.witness_shaped (enc := enc) (C := Tryz.checked) (os := os) (X := fun w _ => laidMetH Tryz.prog lst w) false (World.laidAll Tryz.prog os lst) #[.slice none 0 0, .slice none 0 0, .agg #[.slice none 0 0, .int .i64 0, .int .i64 0, .int .i64 0, .int .i64 0]] 8 (World.laidAll_os _ _ _)
      (World.shaped_of_ZipB (by kernel_rfl) (by kernel_rfl)) (by kernel_rfl) (by kernel_rfl) (by kernel_rfl)
      (by rw [MakeChecks.laidMetH_plain _ _ _ (by kernel_rfl)]; exact laidMet_laidAll _ (by kernel_rfl) (by kernel_rfl))) ?_
  intro W base args ds gs before hval0 hW _ hWt hL _
  have hval : ∀ (j : Nat) t v, Tryz.f8.params[j]? = some t → args[j]? = some v → Value.okWide Tryz.prog W .any base t v := hval0
  have hW' := hW
  obtain ⟨p, q, hA0, hV, rfl, _, _⟩ := hW
  have hA : DataW.TrodAll enc Tryz.prog W 0 (fun _ => true) true Tryz.f8.params.toList args.toList ds p := hA0
  rw [Tryz.params8] at hA hval hWt
  obtain ⟨v0, vs0, d0, ds0, p0, q0, hargs, rfl, rfl, h0, r0⟩ := trodAll_cons hA
  obtain ⟨v1, vs1, d1, ds1, p1, q1, hargs1, rfl, rfl, h1, r1⟩ := trodAll_cons r0
  obtain ⟨v2, vs2, d2, ds2, p2, q2, hargs2, rfl, rfl, h2, r2⟩ := trodAll_cons r1
  obtain ⟨rfl, rfl, rfl⟩ := trodAll_nil r2
  subst hargs2 hargs1
  obtain rfl : args = #[v0, v1, v2] := by cases args; simp_all
  obtain ⟨rfl, rfl⟩ := trodVars_none hV
  obtain ⟨hf0, hWt0⟩ := fits_cons (t := 35) (d := d0) hWt
  obtain ⟨hf1, hWt1⟩ := fits_cons (t := 23) (d := d1) hWt0
  obtain ⟨hf2, hWt2⟩ := fits_cons (t := 28) (d := d2) hWt1
  obtain ⟨l0, hR0, hz0, hs0⟩ := openz_ActsV hf0 (hval 0 35 v0 rfl rfl) h0
  obtain ⟨l1, hR1, hz1, ht1⟩ := openz_FilsV hf1 (hval 1 23 v1 rfl rfl) h1
  obtain ⟨lv2, r'2, rfl, hR2, hz2, ht2⟩ := openz_RowV hf2 (hval 2 28 v2 rfl rfl) h2
  simp only [List.append_nil] at hW'
  have hlt0 : ∀ x ∈ p0, x.block < W.heap.size := fun x hx => hW'.lt x (by simp [hx])
  have hlt1 : ∀ x ∈ p1, x.block < W.heap.size := fun x hx => hW'.lt x (by simp [hx])
  have hlt2 : ∀ x ∈ p2, x.block < W.heap.size := fun x hx => hW'.lt x (by simp [hx])
  refine (dels_law v0 l0 v1 l1 lv2 r'2 W (tabs_laid hL) hR0 hz0 hs0 (acts_len hf0 (hval 0 35 v0 rfl rfl) h0 hR0) hR1 hz1 ht1 hR2 hz2 ht2).mono fun e W' ⟨he, hB⟩ => ?_
  subst he
  exact ⟨_, rfl, post_below (pa := p0 ++ (p1 ++ (p2))) (pv := []) hW' (fun _ _ _ => trodAll_mk1 (shut_bool Tryz.underlying4 _))
    (fun sp hs => trodAll_mk3 (WideElems.Trod_stays (by kernel_rfl) (by kernel_rfl) (of_decide_eq_true (by kernel_rfl)) h0 (fun x hx => hB.same (hlt0 x hx)) (fun x hx => hs x (by simp [hx]))) (WideElems.Trod_stays (by kernel_rfl) (by kernel_rfl) (of_decide_eq_true (by kernel_rfl)) h1 (fun x hx => hB.same (hlt1 x hx)) (fun x hx => hs x (by simp [hx]))) (WideElems.Trod_stays (by kernel_rfl) (by kernel_rfl) (of_decide_eq_true (by kernel_rfl)) h2 (fun x hx => hB.same (hlt2 x hx)) (fun x hx => hs x (by simp [hx])))) (fun _ _ => rfl) (by simp) hB (ok_one (by kernel_rfl) rfl (okWide_bool_mk Tryz.underlying4 _))⟩

theorem odl_tt {a b : Bool} (h : a = true) (k : b = true) : (a && b) = true := by rw [h, k]; rfl
set_option maxRecDepth 100000 in
set_option maxHeartbeats 8000000 in
theorem odl_facts : joinedFacts Tryz.pinned.checked.prog 8 Tryz.f8 Rows.oracleDeletesSpec Rows.oracleDeletesRow = true := by
  unfold joinedFacts
  refine (odl_tt (odl_tt (odl_tt (odl_tt (odl_tt (odl_tt (odl_tt (odl_tt (odl_tt (odl_tt (odl_tt (odl_tt (odl_tt (odl_tt (odl_tt (odl_tt (odl_tt (odl_tt (odl_tt (odl_tt (odl_tt (odl_tt (odl_tt (odl_tt (odl_tt (odl_tt (odl_tt (odl_tt (odl_tt (odl_tt (odl_tt ?_ ?_) ?_) ?_) ?_) ?_) ?_) ?_) ?_) ?_) ?_) ?_) ?_) ?_) ?_) ?_) ?_) ?_) ?_) ?_) ?_) ?_) ?_) ?_) ?_) ?_) ?_) ?_) ?_) ?_) ?_) ?_)
  all_goals as_aux_lemma => kernel_rfl
theorem odl_said : Rows.OracleDeletesSaid :=
  OpenClaim.holds_of_wide 8 Tryz.f8 rfl rfl rfl rfl rfl rfl rfl ⟨rfl, rfl, rfl, rfl, rfl⟩ rfl rfl rfl rfl rfl (by as_aux_lemma => kernel_rfl) Tryz.func8 odl_facts
    (of_decide_eq_true (by kernel_rfl)) (by unfold Func.isWrapper; first | (rw [if_pos (by decide +kernel)]; kernel_rfl) | (rw [if_neg (by decide +kernel)]; exact ⟨rfl, rfl⟩))
    (fun os started H enc _ => odl_lifted os started H enc)

theorem odl_plain (f : FuncId) (fn : Func) (hf : Tryz.pinned.checked.prog.funcNamed "esker/eskerlaw20.OracleDeletes" = some f) (hfn : Tryz.pinned.checked.prog.funcs[f]? = some fn) :
    true = Tryz.pinned.checked.prog.looks [] ∧ ∀ (j : Nat) t, fn.params[j]? = some t → Tryz.pinned.checked.prog.wantsStandIn t = false := by
  obtain rfl : f = 8 := Option.some.inj ((show Tryz.prog.funcNamed "esker/eskerlaw20.OracleDeletes" = some 8 by kernel_rfl).symm.trans hf) |>.symm
  obtain rfl : fn = Tryz.f8 := (Option.some.inj (Tryz.func8.symm.trans hfn)).symm
  refine ⟨by kernel_rfl, fun j t ht => ?_⟩
  rw [Tryz.params8] at ht
  have hm : t ∈ [35, 23, 28] := by have := Array.mem_of_getElem? ht; simp at this ⊢; omega
  have hall : ([35, 23, 28].all fun u => !Tryz.prog.wantsStandIn u) = true := by kernel_rfl
  exact (show Tryz.prog.wantsStandIn t = false by simpa using List.all_eq_true.1 hall t hm)

/-- THE CARD. -/
theorem odl_card : Rows.OracleDeletesCardSaid :=
  Claim7.holds_tied_plain_at .later [] _ _ _ _ odl_said (fun _ h => by cases h) (by kernel_rfl) (fun _ h => by cases h) oracleDeletes_row_tie rfl ⟨rfl, rfl⟩ (by kernel_rfl) rfl odl_plain (by kernel_rfl)
end Go.Proofs.YtkgcbeokfilehaaGreatDoor
