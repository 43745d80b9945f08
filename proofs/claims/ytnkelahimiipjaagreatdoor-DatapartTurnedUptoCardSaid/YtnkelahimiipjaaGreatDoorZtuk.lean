/-
 DatapartTurned, where what it reads is of bulk at most 1048576: for every such input the statement answers true, and the input reads as it did: the tied card. The conditions are the card's own: the bound, and that the listed package variables hold what the program's text lays.
-/
import Derived.Test.YtnkelahimiipjaaGreatDoorJnk
import Derived.Test.YtnkelahimiipjaaGreatDoorJpk
namespace Go.Proofs.YtnkelahimiipjaaGreatDoor
open Go.RowKit Go.ChangeShapes Go.WideShapes Go.ChangeAt

theorem ztu_reads (os : Os) {H : Type} (enc : TypeId × Value → H) : ∃ places, DataW.whole enc Tryz.prog ((World.laidAll Tryz.prog os lst).forCall (fun _ _ => 0) ⟨#[], #[.slice none 0 0, .int .i64 0, .int .u8 0], []⟩).memory Tryz.f6.params.toList Rows.datapartTurnedSpec.vars false (#[.slice none 0 0, .int .i64 0, .int .u8 0] : Array Value).toList 8 = some ([.nil, .lit (.int .i64 0), .lit (.int .u8 0)], [], places) :=
 ⟨[], by kernel_rfl⟩
set_option maxRecDepth 100000 in
theorem ztu_lifted (os : Os) (started : os.Started) (H : Type) (enc : TypeId × Value → H) (F : Stop.Interp) :
  ReturnsInHanded {} Tryz.checked os 6 .any ((Rows.OpenSpec.upto Rows.datapartTurnedSpec).preRow enc Tryz.prog Tryz.f6 Rows.datapartTurnedUptoRow.domain false Rows.datapartTurnedUptoRow.laid) (((Rows.OpenSpec.upto Rows.datapartTurnedSpec).at F).post enc Tryz.prog Tryz.f6 false true false false) := by
 obtain ⟨places, hx⟩ := ztu_reads os enc
 refine returnsInHanded_of_row (C := Tryz.checked) (s := Rows.OpenSpec.upto Rows.datapartTurnedSpec) own started (by kernel_rfl) Tryz.func6
  (witness_row_shaped (enc := enc) (C := Tryz.checked) (os := os) false (World.laidAll Tryz.prog os lst) #[.slice none 0 0, .int .i64 0, .int .u8 0] (World.laidAll_os _ _ _)
    (World.shaped_of_ZipB (by kernel_rfl) (by kernel_rfl)) (by kernel_rfl)
    (OpenSpec.preRow_of_cond 8 hx (by kernel_rfl) (fun k hk => by cases hk; kernel_rfl) (by kernel_rfl)
      (show laidMetH Tryz.prog lst _ by rw [MakeChecks.laidMetH_plain _ _ _ (by kernel_rfl)]; exact laidMet_laidAll _ (by kernel_rfl) (by kernel_rfl)))) ?_
 intro W base args ds gs before hval0 hW _ hcond _ hL0 _ _
 have hL : laidMetH Tryz.prog lst W := hL0
 have hval : ∀ (j : Nat) t v, Tryz.f6.params[j]? = some t → args[j]? = some v → Value.okWide Tryz.prog W .any base t v := hval0
 have hk : Rows.uptoSmall H (ds ++ gs) = true := hcond _ rfl
 have hW' := hW
 obtain ⟨p, q, hA0, hV, rfl, _, _⟩ := hW
 have hA : DataW.TrodAll enc Tryz.prog W 0 (fun _ => true) true Tryz.f6.params.toList args.toList ds p := hA0
 rw [Tryz.params6] at hA hval
 obtain ⟨v0, vs0, d0, ds0, p0, q0, hargs, rfl, rfl, h0, r0⟩ := trodAll_cons hA
 obtain ⟨v1, vs1, d1, ds1, p1, q1, hargs1, rfl, rfl, h1, r1⟩ := trodAll_cons r0
 obtain ⟨v2, vs2, d2, ds2, p2, q2, hargs2, rfl, rfl, h2, r2⟩ := trodAll_cons r1
 obtain ⟨rfl, rfl, rfl⟩ := trodAll_nil r2
 subst hargs2 hargs1
 obtain rfl : args = #[v0, v1, v2] := by cases args; simp_all
 obtain ⟨rfl, rfl⟩ := trodVars_none hV
 obtain ⟨l0, hR0, hwf0, hl0⟩ := open_PPb (hval 0 22 v0 rfl rfl) h0
 obtain ⟨y1, rfl, rfl, rfl, wy1⟩ := open_int Tryz.underlying3 (hval 1 3 v1 rfl rfl) h1
 obtain ⟨y2, rfl, rfl, rfl, wy2⟩ := open_int Tryz.underlying5 (hval 2 5 v2 rfl rfl) h2
 have hb := of_decide_eq_true hk
 simp only [List.append_nil, Rows.uptoBulkAll] at hb
 simp only [List.append_nil] at hW'
 have hlt0 : ∀ x ∈ p0, x.block < W.heap.size := fun x hx => hW'.lt x (by simp [hx])
 refine (turned_walk v0 l0 y1 y2 W (tabs_laid hL) (tabTH_laid hL).1 (tabTH_laid hL).2 hR0 hwf0 (by omega) (by omega) wy1 wy2).mono fun e W' ⟨he, hB⟩ => ?_
 subst he
 exact ⟨_, rfl, post_below (s := Rows.datapartTurnedSpec) (pa := p0 ++ ([] ++ ([]))) (pv := []) hW' (fun _ _ _ => trodAll_mk1 (shut_bool Tryz.underlying4 _))
  (fun sp hs => trodAll_mk3 (WideElems.Trod_stays (by kernel_rfl) (by kernel_rfl) (of_decide_eq_true (by kernel_rfl)) h0 (fun x hx => hB.same (hlt0 x hx)) (fun x hx => hs x (by simp [hx]))) (shut_int Tryz.underlying3 wy1) (shut_int Tryz.underlying5 wy2)) (fun _ _ => rfl) (by simp) hB (ok_one (by kernel_rfl) rfl (okWide_bool_mk Tryz.underlying4 _))⟩

theorem ztu_tt {a b : Bool} (h : a = true) (k : b = true) : (a && b) = true := by rw [h, k]; rfl
set_option maxRecDepth 100000 in
set_option maxHeartbeats 8000000 in
theorem ztu_facts : joinedFacts Tryz.pinned.checked.prog 6 Tryz.f6 (Rows.OpenSpec.upto Rows.datapartTurnedSpec).bare Rows.datapartTurnedUptoRow = true := by
 unfold joinedFacts
 refine (ztu_tt (ztu_tt (ztu_tt (ztu_tt (ztu_tt (ztu_tt (ztu_tt (ztu_tt (ztu_tt (ztu_tt (ztu_tt (ztu_tt (ztu_tt (ztu_tt (ztu_tt (ztu_tt (ztu_tt (ztu_tt (ztu_tt (ztu_tt (ztu_tt (ztu_tt (ztu_tt (ztu_tt (ztu_tt (ztu_tt (ztu_tt (ztu_tt (ztu_tt (ztu_tt (ztu_tt ?_ ?_) ?_) ?_) ?_) ?_) ?_) ?_) ?_) ?_) ?_) ?_) ?_) ?_) ?_) ?_) ?_) ?_) ?_) ?_) ?_) ?_) ?_) ?_) ?_) ?_) ?_) ?_) ?_) ?_) ?_) ?_)
 all_goals as_aux_lemma => kernel_rfl
theorem ztu_said : Rows.DatapartTurnedUptoSaid :=
 OpenClaim.holds_of_cond 6 Tryz.f6 rfl rfl rfl rfl rfl rfl rfl ⟨rfl, rfl, rfl, rfl, rfl⟩ rfl rfl rfl rfl rfl (by as_aux_lemma => kernel_rfl) Tryz.func6 ztu_facts
  (of_decide_eq_true (by kernel_rfl)) (by unfold Func.isWrapper; first | (rw [if_pos (by decide +kernel)]; kernel_rfl) | (rw [if_neg (by decide +kernel)]; exact ⟨rfl, rfl⟩))
  (fun os started H enc _ F => by rw [OpenClaim.pre_eq_preRow]; exact ztu_lifted os started H enc F)

theorem ztu_plain (f : FuncId) (fn : Func) (hf : Tryz.pinned.checked.prog.funcNamed "esker/eskerlaw17.DatapartTurned" = some f) (hfn : Tryz.pinned.checked.prog.funcs[f]? = some fn) :
  true = Tryz.pinned.checked.prog.looks [] ∧ ∀ (j : Nat) t, fn.params[j]? = some t → Tryz.pinned.checked.prog.wantsStandIn t = false := by
 obtain rfl : f = 6 := Option.some.inj ((show Tryz.prog.funcNamed "esker/eskerlaw17.DatapartTurned" = some 6 by kernel_rfl).symm.trans hf) |>.symm
 obtain rfl : fn = Tryz.f6 := (Option.some.inj (Tryz.func6.symm.trans hfn)).symm
 refine ⟨by kernel_rfl, fun j t ht => ?_⟩
 rw [Tryz.params6] at ht
 have hm : t ∈ [22, 3, 5] := by have := Array.mem_of_getElem? ht; simp at this ⊢; omega
 have hall : ([22, 3, 5].all fun u => !Tryz.prog.wantsStandIn u) = true := by kernel_rfl
 exact (show Tryz.prog.wantsStandIn t = false by simpa using List.all_eq_true.1 hall t hm)

/-- THE CARD. -/
theorem ztu_card : Rows.DatapartTurnedUptoCardSaid :=
 Claim7.holds_tied_plain_at .later [] _ _ _ _ ztu_said (fun _ h => by cases h) (by kernel_rfl) (fun _ h => by cases h) datapartTurnedUpto_row_tie rfl ⟨rfl, rfl⟩ (by kernel_rfl) rfl ztu_plain (by kernel_rfl)
end Go.Proofs.YtnkelahimiipjaaGreatDoor
