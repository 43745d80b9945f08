/-
 DatapartParts, where what it reads is of bulk at most 1048576: for every such input the statement answers true, and the input reads as it did: the tied card. The conditions are the card's own: the bound, and that the listed package variables hold what the program's text lays.
-/
import Derived.Test.YtnkelahimiipjaaGreatDoorJtt
set_option maxRecDepth 100000
set_option maxHeartbeats 8000000
namespace Go.Proofs.YtnkelahimiipjaaGreatDoor
open Go.RowKit Go.ChangeShapes Go.WideShapes Go.ChangeAt
theorem qk9 (os:Os) {H:Type} (enc:TypeId×Value->H):∃places,DataW.whole enc Tryz.prog ((World.laidAll Tryz.prog os lst).forCall (fun _ _=>0) ⟨#[], #[.slice none 0 0,.int .i64 0,.int .i64 0],[]⟩).memory Tryz.f7.params.toList Rows.datapartPartsSpec.vars false (#[.slice none 0 0,.int .i64 0,.int .i64 0]:Array Value).toList 8=some ([.nil,.lit (.int .i64 0),.lit (.int .i64 0)],[],places):=
 ⟨[],by kernel_rfl⟩
theorem qjB (os:Os) (started:os.Started) (H:Type) (enc:TypeId×Value->H) (F:Stop.Interp):
  ReturnsInHanded {} Tryz.checked os 7 .any ((Rows.OpenSpec.upto Rows.datapartPartsSpec).preRow enc Tryz.prog Tryz.f7 Rows.datapartPartsUptoRow.domain false Rows.datapartPartsUptoRow.laid) (((Rows.OpenSpec.upto Rows.datapartPartsSpec).at F).post enc Tryz.prog Tryz.f7 false true false false):=by
 obtain ⟨places,hx⟩:=qk9 os enc;refine returnsInHanded_of_row (C:=Tryz.checked) (s:=Rows.OpenSpec.upto Rows.datapartPartsSpec) own started (by kernel_rfl) Tryz.func7
  (qbM (enc:=enc) (C:=Tryz.checked) (os:=os) false (World.laidAll Tryz.prog os lst) #[.slice none 0 0,.int .i64 0,.int .i64 0] (World.laidAll_os _ _ _)
    (World.shaped_of_ZipB (by kernel_rfl) (by kernel_rfl)) (by kernel_rfl)
    (OpenSpec.preRow_of_cond 8 hx (by kernel_rfl) (fun k hk=>by cases hk;kernel_rfl) (by kernel_rfl)
      (show laidMetH Tryz.prog lst _ by rw [MakeChecks.laidMetH_plain _ _ _ (by kernel_rfl)];exact laidMet_laidAll _ (by kernel_rfl) (by kernel_rfl)))) ?_
 intro W base args ds gs before ae hW _ ad _ al _ _;have hL:laidMetH Tryz.prog lst W:=al;have aa:∀(j:Nat) t v,Tryz.f7.params[j]? =some t->args[j]? =some v->Value.okWide Tryz.prog W .any base t v:=ae;have hk:Rows.uptoSmall H (ds++gs)=true:=ad _ rfl;have ag:=hW;obtain ⟨p,q,aj,hV,rfl,_,_⟩:=hW;have hA:DataW.TrodAll enc Tryz.prog W 0 (fun _=>true) true Tryz.f7.params.toList args.toList ds p:=aj;rw [Tryz.params7] at hA aa;obtain ⟨v0,vs0,d0,ds0,p0,q0,ai,rfl,rfl,h0,r0⟩:=trodAll_cons hA;obtain ⟨v1,vs1,d1,ds1,p1,q1,ac,rfl,rfl,h1,r1⟩:=trodAll_cons r0;obtain ⟨v2,vs2,d2,ds2,p2,q2,ab,rfl,rfl,h2,r2⟩:=trodAll_cons r1;obtain ⟨rfl,rfl,rfl⟩:=trodAll_nil r2;subst ab ac;obtain rfl:args= #[v0,v1,v2]:=by cases args;simp_all
 obtain ⟨rfl,rfl⟩:=trodVars_none hV;obtain ⟨l0,ak,af,am⟩:=qiO (aa 0 22 v0 rfl rfl) h0;obtain ⟨y1,rfl,rfl,rfl,wy1⟩:=open_int Tryz.underlying3 (aa 1 3 v1 rfl rfl) h1;obtain ⟨y2,rfl,rfl,rfl,wy2⟩:=open_int Tryz.underlying2 (aa 2 2 v2 rfl rfl) h2;have hb:=of_decide_eq_true hk;simp only [List.append_nil,Rows.uptoBulkAll] at hb;simp only [List.append_nil] at ag;have ah:∀x ∈ p0,x.block<W.heap.size:=fun x hx=>ag.lt x (by simp [hx]);refine (qh8 v0 l0 y1 y2 W (qhe hL) (qcG hL).1 (qcG hL).2 ak af (by omega) (by omega) wy1 wy2).mono fun e W' ⟨he,hB⟩=> ?_;subst he;exact ⟨_,rfl,qe7 (s:=Rows.datapartPartsSpec) (pa:=p0++([]++([]))) (pv:=[]) ag (fun _ _ _=>trodAll_mk1 (shut_bool Tryz.underlying4 _))
  (fun sp hs=>trodAll_mk3 (WideElems.Trod_stays (by kernel_rfl) (by kernel_rfl) (of_decide_eq_true (by kernel_rfl)) h0 (fun x hx=>hB.same (ah x hx)) (fun x hx=>hs x (by simp [hx]))) (shut_int Tryz.underlying3 wy1) (shut_int Tryz.underlying2 wy2)) (fun _ _=>rfl) (by simp) hB (ok_one (by kernel_rfl) rfl (okWide_bool_mk Tryz.underlying4 _))⟩
theorem qay {a b:Bool} (h:a=true) (k:b=true):(a && b)=true:=by rw [h,k];rfl
theorem qlf:joinedFacts Tryz.pinned.checked.prog 7 Tryz.f7 (Rows.OpenSpec.upto Rows.datapartPartsSpec).bare Rows.datapartPartsUptoRow=true:=by
 unfold joinedFacts;refine (qay (qay (qay (qay (qay (qay (qay (qay (qay (qay (qay (qay (qay (qay (qay (qay (qay (qay (qay (qay (qay (qay (qay (qay (qay (qay (qay (qay (qay (qay (qay ?_ ?_) ?_) ?_) ?_) ?_) ?_) ?_) ?_) ?_) ?_) ?_) ?_) ?_) ?_) ?_) ?_) ?_) ?_) ?_) ?_) ?_) ?_) ?_) ?_) ?_) ?_) ?_) ?_) ?_) ?_) ?_)
 all_goals as_aux_lemma=>kernel_rfl
theorem qnL:Rows.DatapartPartsUptoSaid:=
 OpenClaim.holds_of_cond 7 Tryz.f7 rfl rfl rfl rfl rfl rfl rfl ⟨rfl,rfl,rfl,rfl,rfl⟩ rfl rfl rfl rfl rfl (by as_aux_lemma=>kernel_rfl) Tryz.func7 qlf
  (of_decide_eq_true (by kernel_rfl)) (by unfold Func.isWrapper;first|(rw [if_pos (by decide+kernel)];kernel_rfl)|(rw [if_neg (by decide+kernel)];exact ⟨rfl,rfl⟩))
  (fun os started H enc _ F=>by rw [OpenClaim.pre_eq_preRow];exact qjB os started H enc F)
theorem qmw (f:FuncId) (fn:Func) (hf:Tryz.pinned.checked.prog.funcNamed "esker/eskerlaw17.DatapartParts" =some f) (hfn:Tryz.pinned.checked.prog.funcs[f]? =some fn):
  true=Tryz.pinned.checked.prog.looks []∧∀(j:Nat) t,fn.params[j]? =some t->Tryz.pinned.checked.prog.wantsStandIn t=false:=by
 obtain rfl:f=7:=Option.some.inj ((show Tryz.prog.funcNamed "esker/eskerlaw17.DatapartParts" =some 7 by kernel_rfl).symm.trans hf) |>.symm;obtain rfl:fn=Tryz.f7:=(Option.some.inj (Tryz.func7.symm.trans hfn)).symm;refine ⟨by kernel_rfl,fun j t ht=> ?_⟩;rw [Tryz.params7] at ht;have hm:t ∈ [22,3,2]:=by have :=Array.mem_of_getElem? ht;simp at this ⊢;omega
 have aa:([22,3,2].all fun u=> !Tryz.prog.wantsStandIn u)=true:=by kernel_rfl
 exact (show Tryz.prog.wantsStandIn t=false by simpa using List.all_eq_true.1 aa t hm)
theorem zpa_card:Rows.DatapartPartsUptoCardSaid:=
 Claim7.holds_tied_plain_at .later [] _ _ _ _ qnL (fun _ h=>by cases h) (by kernel_rfl) (fun _ h=>by cases h) datapartPartsUpto_row_tie rfl ⟨rfl,rfl⟩ (by kernel_rfl) rfl qmw (by kernel_rfl)
end Go.Proofs.YtnkelahimiipjaaGreatDoor
