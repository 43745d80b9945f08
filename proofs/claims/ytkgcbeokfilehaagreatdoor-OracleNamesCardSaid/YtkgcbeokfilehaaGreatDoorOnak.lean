/-
  OracleNames: for every input the statement answers true, and the input reads as it did: the tied card. The conditions are the card's own: the listed package variables of Go's library hold what the program's text lays.
-/
import Derived.Test.YtkgcbeokfilehaaGreatDoorWqk
import Derived.Test.YtkgcbeokfilehaaGreatDoorWok
import Derived.Test.YtkgcbeokfilehaaGreatDoorRgnk
import Derived.Test.YtkgcbeokfilehaaGreatDoorRwk
namespace Go.Proofs.YtkgcbeokfilehaaGreatDoor
open Go.RowKit Go.ChangeShapes Go.WideShapes Go.ChangeAt

set_option maxRecDepth 100000 in
theorem ona_lifted (os : Os) (started : os.Started) (H : Type) (enc : TypeId × Value → H) :
    ReturnsInHanded {} Tryz.checked os 5 .any (fun w args => (Rows.oracleNamesSpec.pre enc Tryz.prog Tryz.f5 Rows.oracleNamesRow.domain false w args ∧ laidMetH Tryz.prog lst w) ∧ sizedMet enc Tryz.prog Tryz.f5 (OpenSpec.ofChange Rows.oracleNamesSpec) false w args)
      (Rows.oracleNamesSpec.post enc Tryz.prog Tryz.f5 false true false false) := by
  refine returnsInHanded_of_change_and (C := Tryz.checked) (X := fun w _ => laidMetH Tryz.prog lst w) (fun _ _ _ hh h => h.of_heap hh) own started (by kernel_rfl) Tryz.func5
    (ChangeSpec.witness_shaped (enc := enc) (C := Tryz.checked) (os := os) (X := fun w _ => laidMetH Tryz.prog lst w) false (World.laidAll Tryz.prog os lst) #[.slice none 0 0, .string ⟨#[]⟩] 8 (World.laidAll_os _ _ _)
      (World.shaped_of_ZipB (by kernel_rfl) (by kernel_rfl)) (by kernel_rfl) (by kernel_rfl) (by kernel_rfl)
      (by rw [MakeChecks.laidMetH_plain _ _ _ (by kernel_rfl)]; exact laidMet_laidAll _ (by kernel_rfl) (by kernel_rfl))) ?_
  intro W base args ds gs before hval0 hW _ hWt hL _
  have hval : ∀ (j : Nat) t v, Tryz.f5.params[j]? = some t → args[j]? = some v → Value.okWide Tryz.prog W .any base t v := hval0
  have hW' := hW
  obtain ⟨p, q, hA0, hV, rfl, _, _⟩ := hW
  have hA : DataW.TrodAll enc Tryz.prog W 0 (fun _ => true) true Tryz.f5.params.toList args.toList ds p := hA0
  rw [Tryz.params5] at hA hval hWt
  obtain ⟨v0, vs0, d0, ds0, p0, q0, hargs, rfl, rfl, h0, r0⟩ := trodAll_cons hA
  obtain ⟨v1, vs1, d1, ds1, p1, q1, hargs1, rfl, rfl, h1, r1⟩ := trodAll_cons r0
  obtain ⟨rfl, rfl, rfl⟩ := trodAll_nil r1
  subst hargs1
  obtain rfl : args = #[v0, v1] := by cases args; simp_all
  obtain ⟨rfl, rfl⟩ := trodVars_none hV
  obtain ⟨hf0, hWt0⟩ := fits_cons (t := 22) (d := d0) hWt
  obtain ⟨hf1, hWt1⟩ := fits_cons (t := 9) (d := d1) hWt0
  obtain ⟨l0, hR0, hz0, hs0⟩ := open_RowsV hf0 (hval 0 22 v0 rfl rfl) h0
  obtain ⟨s1, rfl⟩ := open_TV (hval 1 9 v1 rfl rfl) h1
  simp only [List.append_nil] at hW'
  have hlt0 : ∀ x ∈ p0, x.block < W.heap.size := fun x hx => hW'.lt x (by simp [hx])
  have hlt1 : ∀ x ∈ p1, x.block < W.heap.size := fun x hx => hW'.lt x (by simp [hx])
  refine (names_law v0 l0 s1 W (tabs_laid hL) hR0 hz0 hs0).mono fun e W' ⟨he, hB⟩ => ?_
  subst he
  exact ⟨_, rfl, post_below (pa := p0 ++ (p1)) (pv := []) hW' (fun _ _ _ => trodAll_mk1 (shut_bool Tryz.underlying4 _))
    (fun sp hs => trodAll_mk2 (WideElems.Trod_stays (by kernel_rfl) (by kernel_rfl) (of_decide_eq_true (by kernel_rfl)) h0 (fun x hx => hB.same (hlt0 x hx)) (fun x hx => hs x (by simp [hx]))) (WideElems.Trod_stays (by kernel_rfl) (by kernel_rfl) (of_decide_eq_true (by kernel_rfl)) h1 (fun x hx => hB.same (hlt1 x hx)) (fun x hx => hs x (by simp [hx])))) (fun _ _ => rfl) (by simp) hB (ok_one (by kernel_rfl) rfl (okWide_bool_mk Tryz.underlying4 _))⟩

theorem ona_tt {a b : Bool} (h : a = true) (k : b = true) : (a && b) = true := by rw [h, k]; rfl
set_option maxRecDepth 100000 in
set_option maxHeartbeats 8000000 in
theorem ona_facts : joinedFacts Tryz.pinned.checked.prog 5 Tryz.f5 Rows.oracleNamesSpec Rows.oracleNamesRow = true := by
  unfold joinedFacts
  refine (ona_tt (ona_tt (ona_tt (ona_tt (ona_tt (ona_tt (ona_tt (ona_tt (ona_tt (ona_tt (ona_tt (ona_tt (ona_tt (ona_tt (ona_tt (ona_tt (ona_tt (ona_tt (ona_tt (ona_tt (ona_tt (ona_tt (ona_tt (ona_tt (ona_tt (ona_tt (ona_tt (ona_tt (ona_tt (ona_tt (ona_tt ?_ ?_) ?_) ?_) ?_) ?_) ?_) ?_) ?_) ?_) ?_) ?_) ?_) ?_) ?_) ?_) ?_) ?_) ?_) ?_) ?_) ?_) ?_) ?_) ?_) ?_) ?_) ?_) ?_) ?_) ?_) ?_)
  all_goals as_aux_lemma => kernel_rfl
theorem ona_said : Rows.OracleNamesSaid :=
  OpenClaim.holds_of_wide 5 Tryz.f5 rfl rfl rfl rfl rfl rfl rfl ⟨rfl, rfl, rfl, rfl, rfl⟩ rfl rfl rfl rfl rfl (by as_aux_lemma => kernel_rfl) Tryz.func5 ona_facts
    (of_decide_eq_true (by kernel_rfl)) (by unfold Func.isWrapper; first | (rw [if_pos (by decide +kernel)]; kernel_rfl) | (rw [if_neg (by decide +kernel)]; exact ⟨rfl, rfl⟩))
    (fun os started H enc _ => ona_lifted os started H enc)

theorem ona_plain (f : FuncId) (fn : Func) (hf : Tryz.pinned.checked.prog.funcNamed "esker/eskerlaw20.OracleNames" = some f) (hfn : Tryz.pinned.checked.prog.funcs[f]? = some fn) :
    true = Tryz.pinned.checked.prog.looks [] ∧ ∀ (j : Nat) t, fn.params[j]? = some t → Tryz.pinned.checked.prog.wantsStandIn t = false := by
  obtain rfl : f = 5 := Option.some.inj ((show Tryz.prog.funcNamed "esker/eskerlaw20.OracleNames" = some 5 by kernel_rfl).symm.trans hf) |>.symm
  obtain rfl : fn = Tryz.f5 := (Option.some.inj (Tryz.func5.symm.trans hfn)).symm
  refine ⟨by kernel_rfl, fun j t ht => ?_⟩
  rw [Tryz.params5] at ht
  have hm : t ∈ [22, 9] := by have := Array.mem_of_getElem? ht; simp at this ⊢; omega
  have hall : ([22, 9].all fun u => !Tryz.prog.wantsStandIn u) = true := by kernel_rfl
  exact (show Tryz.prog.wantsStandIn t = false by simpa using List.all_eq_true.1 hall t hm)

/-- THE CARD. -/
theorem ona_card : Rows.OracleNamesCardSaid :=
  Claim7.holds_tied_plain_at .later [] _ _ _ _ ona_said (fun _ h => by cases h) (by kernel_rfl) (fun _ h => by cases h) oracleNames_row_tie rfl ⟨rfl, rfl⟩ (by kernel_rfl) rfl ona_plain (by kernel_rfl)
end Go.Proofs.YtkgcbeokfilehaaGreatDoor
