/-
 DatapartNone, where what it reads is of bulk at most 1048576: for every such input the statement answers true, and the input reads as it did: the tied card. The conditions are the card's own: the bound, and that the listed package variables hold what the program's text lays.
-/
import Derived.Test.YtnkelahimiipjaaGreatDoorJpk
namespace Go.Proofs.YtnkelahimiipjaaGreatDoor
open Go.RowKit Go.ChangeShapes Go.WideShapes Go.ChangeAt

theorem zno_reads (os : Os) {H : Type} (enc : TypeId × Value → H) : ∃ places, DataW.whole enc Tryz.prog ((World.laidAll Tryz.prog os lst).forCall (fun _ _ => 0) ⟨#[], #[.slice none 0 0, .agg #[.slice none 0 0, .int .i64 0, .int .i64 0]], []⟩).memory Tryz.f8.params.toList Rows.datapartNoneSpec.vars false (#[.slice none 0 0, .agg #[.slice none 0 0, .int .i64 0, .int .i64 0]] : Array Value).toList 8 = some ([.nil, .agg [.nil, .lit (.int .i64 0), .lit (.int .i64 0)]], [], places) :=
 ⟨[], by kernel_rfl⟩
set_option maxRecDepth 100000 in
theorem zno_lifted (os : Os) (started : os.Started) (H : Type) (enc : TypeId × Value → H) (F : Stop.Interp) :
  ReturnsInHanded {} Tryz.checked os 8 .any ((Rows.OpenSpec.upto Rows.datapartNoneSpec).preRow enc Tryz.prog Tryz.f8 Rows.datapartNoneUptoRow.domain false Rows.datapartNoneUptoRow.laid) (((Rows.OpenSpec.upto Rows.datapartNoneSpec).at F).post enc Tryz.prog Tryz.f8 false true false false) := by
 obtain ⟨places, hx⟩ := zno_reads os enc
 refine returnsInHanded_of_row (C := Tryz.checked) (s := Rows.OpenSpec.upto Rows.datapartNoneSpec) own started (by kernel_rfl) Tryz.func8
  (witness_row_shaped (enc := enc) (C := Tryz.checked) (os := os) false (World.laidAll Tryz.prog os lst) #[.slice none 0 0, .agg #[.slice none 0 0, .int .i64 0, .int .i64 0]] (World.laidAll_os _ _ _)
    (World.shaped_of_ZipB (by kernel_rfl) (by kernel_rfl)) (by kernel_rfl)
    (OpenSpec.preRow_of_cond 8 hx (by kernel_rfl) (fun k hk => by cases hk; kernel_rfl) (by kernel_rfl)
      (show laidMetH Tryz.prog lst _ by rw [MakeChecks.laidMetH_plain _ _ _ (by kernel_rfl)]; exact laidMet_laidAll _ (by kernel_rfl) (by kernel_rfl)))) ?_
 intro W base args ds gs before hval0 hW _ hcond _ hL0 _ _
 have hL : laidMetH Tryz.prog lst W := hL0
 have hval : ∀ (j : Nat) t v, Tryz.f8.params[j]? = some t → args[j]? = some v → Value.okWide Tryz.prog W .any base t v := hval0
 have hk : Rows.uptoSmall H (ds ++ gs) = true := hcond _ rfl
 have hW' := hW
 obtain ⟨p, q, hA0, hV, rfl, _, _⟩ := hW
 have hA : DataW.TrodAll enc Tryz.prog W 0 (fun _ => true) true Tryz.f8.params.toList args.toList ds p := hA0
 rw [Tryz.params8] at hA hval
 obtain ⟨v0, vs0, d0, ds0, p0, q0, hargs, rfl, rfl, h0, r0⟩ := trodAll_cons hA
 obtain ⟨v1, vs1, d1, ds1, p1, q1, hargs1, rfl, rfl, h1, r1⟩ := trodAll_cons r0
 obtain ⟨rfl, rfl, rfl⟩ := trodAll_nil r1
 subst hargs1
 obtain rfl : args = #[v0, v1] := by cases args; simp_all
 obtain ⟨rfl, rfl⟩ := trodVars_none hV
 obtain ⟨l0, hR0, hwf0, hl0⟩ := open_PPb (hval 0 22 v0 rfl rfl) h0
 obtain ⟨iv1, l1, f1, t1, rfl, hR1, hwf1, wf1, wt1, hl1⟩ := open_A (hval 1 39 v1 rfl rfl) h1
 have hb := of_decide_eq_true hk
 simp only [List.append_nil, Rows.uptoBulkAll] at hb
 simp only [List.append_nil] at hW'
 have hlt0 : ∀ x ∈ p0, x.block < W.heap.size := fun x hx => hW'.lt x (by simp [hx])
 have hlt1 : ∀ x ∈ p1, x.block < W.heap.size := fun x hx => hW'.lt x (by simp [hx])
 refine (none_walk v0 l0 iv1 l1 f1 t1 W (tabs_laid hL) (tabTH_laid hL).1 (tabTH_laid hL).2 hR0 hwf0 (by omega) (by omega) hR1 hwf1 wf1 wt1 (by omega)).mono fun e W' ⟨he, hB⟩ => ?_
 subst he
 exact ⟨_, rfl, post_below (s := Rows.datapartNoneSpec) (pa := p0 ++ (p1)) (pv := []) hW' (fun _ _ _ => trodAll_mk1 (shut_bool Tryz.underlying4 _))
  (fun sp hs => trodAll_mk2 (WideElems.Trod_stays (by kernel_rfl) (by kernel_rfl) (of_decide_eq_true (by kernel_rfl)) h0 (fun x hx => hB.same (hlt0 x hx)) (fun x hx => hs x (by simp [hx]))) (WideElems.Trod_stays (by kernel_rfl) (by kernel_rfl) (of_decide_eq_true (by kernel_rfl)) h1 (fun x hx => hB.same (hlt1 x hx)) (fun x hx => hs x (by simp [hx])))) (fun _ _ => rfl) (by simp) hB (ok_one (by kernel_rfl) rfl (okWide_bool_mk Tryz.underlying4 _))⟩

theorem zno_tt {a b : Bool} (h : a = true) (k : b = true) : (a && b) = true := by rw [h, k]; rfl
set_option maxRecDepth 100000 in
set_option maxHeartbeats 8000000 in
theorem zno_facts : joinedFacts Tryz.pinned.checked.prog 8 Tryz.f8 (Rows.OpenSpec.upto Rows.datapartNoneSpec).bare Rows.datapartNoneUptoRow = true := by
 unfold joinedFacts
 refine (zno_tt (zno_tt (zno_tt (zno_tt (zno_tt (zno_tt (zno_tt (zno_tt (zno_tt (zno_tt (zno_tt (zno_tt (zno_tt (zno_tt (zno_tt (zno_tt (zno_tt (zno_tt (zno_tt (zno_tt (zno_tt (zno_tt (zno_tt (zno_tt (zno_tt (zno_tt (zno_tt (zno_tt (zno_tt (zno_tt (zno_tt ?_ ?_) ?_) ?_) ?_) ?_) ?_) ?_) ?_) ?_) ?_) ?_) ?_) ?_) ?_) ?_) ?_) ?_) ?_) ?_) ?_) ?_) ?_) ?_) ?_) ?_) ?_) ?_) ?_) ?_) ?_) ?_)
 all_goals as_aux_lemma => kernel_rfl
theorem zno_said : Rows.DatapartNoneUptoSaid :=
 OpenClaim.holds_of_cond 8 Tryz.f8 rfl rfl rfl rfl rfl rfl rfl ⟨rfl, rfl, rfl, rfl, rfl⟩ rfl rfl rfl rfl rfl (by as_aux_lemma => kernel_rfl) Tryz.func8 zno_facts
  (of_decide_eq_true (by kernel_rfl)) (by unfold Func.isWrapper; first | (rw [if_pos (by decide +kernel)]; kernel_rfl) | (rw [if_neg (by decide +kernel)]; exact ⟨rfl, rfl⟩))
  (fun os started H enc _ F => by rw [OpenClaim.pre_eq_preRow]; exact zno_lifted os started H enc F)

theorem zno_plain (f : FuncId) (fn : Func) (hf : Tryz.pinned.checked.prog.funcNamed "esker/eskerlaw17.DatapartNone" = some f) (hfn : Tryz.pinned.checked.prog.funcs[f]? = some fn) :
  true = Tryz.pinned.checked.prog.looks [] ∧ ∀ (j : Nat) t, fn.params[j]? = some t → Tryz.pinned.checked.prog.wantsStandIn t = false := by
 obtain rfl : f = 8 := Option.some.inj ((show Tryz.prog.funcNamed "esker/eskerlaw17.DatapartNone" = some 8 by kernel_rfl).symm.trans hf) |>.symm
 obtain rfl : fn = Tryz.f8 := (Option.some.inj (Tryz.func8.symm.trans hfn)).symm
 refine ⟨by kernel_rfl, fun j t ht => ?_⟩
 rw [Tryz.params8] at ht
 have hm : t ∈ [22, 39] := by have := Array.mem_of_getElem? ht; simp at this ⊢; omega
 have hall : ([22, 39].all fun u => !Tryz.prog.wantsStandIn u) = true := by kernel_rfl
 exact (show Tryz.prog.wantsStandIn t = false by simpa using List.all_eq_true.1 hall t hm)

/-- THE CARD. -/
theorem zno_card : Rows.DatapartNoneUptoCardSaid :=
 Claim7.holds_tied_plain_at .later [] _ _ _ _ zno_said (fun _ h => by cases h) (by kernel_rfl) (fun _ h => by cases h) datapartNoneUpto_row_tie rfl ⟨rfl, rfl⟩ (by kernel_rfl) rfl zno_plain (by kernel_rfl)
end Go.Proofs.YtnkelahimiipjaaGreatDoor
