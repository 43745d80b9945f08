/-
 DatapartTells, where what it reads is of bulk at most 1048576: for every such input the statement answers true, and the input reads as it did: the tied card. The conditions are the card's own: the bound, and that the listed package variables hold what the program's text lays.
-/
import Derived.Test.YtnkelahimiipjaaGreatDoorJvt
import Derived.Test.YtnkelahimiipjaaGreatDoorJtt
set_option maxRecDepth 100000
set_option maxHeartbeats 8000000
namespace Go.Proofs.YtnkelahimiipjaaGreatDoor
open Go.RowKit Go.ChangeShapes Go.WideShapes Go.ChangeAt
theorem qmu (os:Os) {H:Type} (enc:TypeId×Value->H):∃places,DataW.whole enc Tryz.prog ((World.laidAll Tryz.prog os lst).forCall (fun _ _=>0) ⟨#[], #[.slice none 0 0,.agg #[.slice none 0 0,.int .i64 0,.int .i64 0]],[]⟩).memory Tryz.f4.params.toList Rows.datapartTellsSpec.vars false (#[.slice none 0 0,.agg #[.slice none 0 0,.int .i64 0,.int .i64 0]]:Array Value).toList 8=some ([.nil,.agg [.nil,.lit (.int .i64 0),.lit (.int .i64 0)]],[],places):=
 ⟨[],by kernel_rfl⟩
theorem qjb (os:Os) (started:os.Started) (H:Type) (enc:TypeId×Value->H) (F:Stop.Interp):
  ReturnsInHanded {} Tryz.checked os 4 .any ((Rows.OpenSpec.upto Rows.datapartTellsSpec).preRow enc Tryz.prog Tryz.f4 Rows.datapartTellsUptoRow.domain false Rows.datapartTellsUptoRow.laid) (((Rows.OpenSpec.upto Rows.datapartTellsSpec).at F).post enc Tryz.prog Tryz.f4 false true false false):=by
 obtain ⟨places,hx⟩:=qmu os enc;refine returnsInHanded_of_row (C:=Tryz.checked) (s:=Rows.OpenSpec.upto Rows.datapartTellsSpec) own started (by kernel_rfl) Tryz.func4
  (qbM (enc:=enc) (C:=Tryz.checked) (os:=os) false (World.laidAll Tryz.prog os lst) #[.slice none 0 0,.agg #[.slice none 0 0,.int .i64 0,.int .i64 0]] (World.laidAll_os _ _ _)
    (World.shaped_of_ZipB (by kernel_rfl) (by kernel_rfl)) (by kernel_rfl)
    (OpenSpec.preRow_of_cond 8 hx (by kernel_rfl) (fun k hk=>by cases hk;kernel_rfl) (by kernel_rfl)
      (show laidMetH Tryz.prog lst _ by rw [MakeChecks.laidMetH_plain _ _ _ (by kernel_rfl)];exact laidMet_laidAll _ (by kernel_rfl) (by kernel_rfl)))) ?_
 intro W base args ds gs before ad hW _ ac _ am _ _;have hL:laidMetH Tryz.prog lst W:=am;have aa:∀(j:Nat) t v,Tryz.f4.params[j]? =some t->args[j]? =some v->Value.okWide Tryz.prog W .any base t v:=ad;have hk:Rows.uptoSmall H (ds++gs)=true:=ac _ rfl;have ae:=hW;obtain ⟨p,q,ak,hV,rfl,_,_⟩:=hW;have hA:DataW.TrodAll enc Tryz.prog W 0 (fun _=>true) true Tryz.f4.params.toList args.toList ds p:=ak;rw [Tryz.params4] at hA aa;obtain ⟨v0,vs0,d0,ds0,p0,q0,aj,rfl,rfl,h0,r0⟩:=trodAll_cons hA;obtain ⟨v1,vs1,d1,ds1,p1,q1,ab,rfl,rfl,h1,r1⟩:=trodAll_cons r0;obtain ⟨rfl,rfl,rfl⟩:=trodAll_nil r1;subst ab;obtain rfl:args= #[v0,v1]:=by cases args;simp_all
 obtain ⟨rfl,rfl⟩:=trodVars_none hV;obtain ⟨l0,al,af,ao⟩:=qiO (aa 0 22 v0 rfl rfl) h0;obtain ⟨iv1,l1,f1,t1,rfl,an,ah,wf1,wt1,ap⟩:=qqe (aa 1 39 v1 rfl rfl) h1;have hb:=of_decide_eq_true hk;simp only [List.append_nil,Rows.uptoBulkAll] at hb;simp only [List.append_nil] at ae;have ai:∀x ∈ p0,x.block<W.heap.size:=fun x hx=>ae.lt x (by simp [hx]);have ag:∀x ∈ p1,x.block<W.heap.size:=fun x hx=>ae.lt x (by simp [hx]);refine (qg4 v0 l0 iv1 l1 f1 t1 W (qhe hL) (qcG hL).1 (qcG hL).2 al af (by omega) (by omega) an ah wf1 wt1 (by omega)).mono fun e W' ⟨he,hB⟩=> ?_;subst he;exact ⟨_,rfl,qe7 (s:=Rows.datapartTellsSpec) (pa:=p0++(p1)) (pv:=[]) ae (fun _ _ _=>trodAll_mk1 (shut_bool Tryz.underlying4 _))
  (fun sp hs=>trodAll_mk2 (WideElems.Trod_stays (by kernel_rfl) (by kernel_rfl) (of_decide_eq_true (by kernel_rfl)) h0 (fun x hx=>hB.same (ai x hx)) (fun x hx=>hs x (by simp [hx]))) (WideElems.Trod_stays (by kernel_rfl) (by kernel_rfl) (of_decide_eq_true (by kernel_rfl)) h1 (fun x hx=>hB.same (ag x hx)) (fun x hx=>hs x (by simp [hx])))) (fun _ _=>rfl) (by simp) hB (ok_one (by kernel_rfl) rfl (okWide_bool_mk Tryz.underlying4 _))⟩
theorem qaA {a b:Bool} (h:a=true) (k:b=true):(a && b)=true:=by rw [h,k];rfl
theorem qlB:joinedFacts Tryz.pinned.checked.prog 4 Tryz.f4 (Rows.OpenSpec.upto Rows.datapartTellsSpec).bare Rows.datapartTellsUptoRow=true:=by
 unfold joinedFacts;refine (qaA (qaA (qaA (qaA (qaA (qaA (qaA (qaA (qaA (qaA (qaA (qaA (qaA (qaA (qaA (qaA (qaA (qaA (qaA (qaA (qaA (qaA (qaA (qaA (qaA (qaA (qaA (qaA (qaA (qaA (qaA ?_ ?_) ?_) ?_) ?_) ?_) ?_) ?_) ?_) ?_) ?_) ?_) ?_) ?_) ?_) ?_) ?_) ?_) ?_) ?_) ?_) ?_) ?_) ?_) ?_) ?_) ?_) ?_) ?_) ?_) ?_) ?_)
 all_goals as_aux_lemma=>kernel_rfl
theorem qns:Rows.DatapartTellsUptoSaid:=
 OpenClaim.holds_of_cond 4 Tryz.f4 rfl rfl rfl rfl rfl rfl rfl ⟨rfl,rfl,rfl,rfl,rfl⟩ rfl rfl rfl rfl rfl (by as_aux_lemma=>kernel_rfl) Tryz.func4 qlB
  (of_decide_eq_true (by kernel_rfl)) (by unfold Func.isWrapper;first|(rw [if_pos (by decide+kernel)];kernel_rfl)|(rw [if_neg (by decide+kernel)];exact ⟨rfl,rfl⟩))
  (fun os started H enc _ F=>by rw [OpenClaim.pre_eq_preRow];exact qjb os started H enc F)
theorem qlr (f:FuncId) (fn:Func) (hf:Tryz.pinned.checked.prog.funcNamed "esker/eskerlaw17.DatapartTells" =some f) (hfn:Tryz.pinned.checked.prog.funcs[f]? =some fn):
  true=Tryz.pinned.checked.prog.looks []∧∀(j:Nat) t,fn.params[j]? =some t->Tryz.pinned.checked.prog.wantsStandIn t=false:=by
 obtain rfl:f=4:=Option.some.inj ((show Tryz.prog.funcNamed "esker/eskerlaw17.DatapartTells" =some 4 by kernel_rfl).symm.trans hf) |>.symm;obtain rfl:fn=Tryz.f4:=(Option.some.inj (Tryz.func4.symm.trans hfn)).symm;refine ⟨by kernel_rfl,fun j t ht=> ?_⟩;rw [Tryz.params4] at ht;have hm:t ∈ [22,39]:=by have :=Array.mem_of_getElem? ht;simp at this ⊢;omega
 have aa:([22,39].all fun u=> !Tryz.prog.wantsStandIn u)=true:=by kernel_rfl
 exact (show Tryz.prog.wantsStandIn t=false by simpa using List.all_eq_true.1 aa t hm)
theorem zte_card:Rows.DatapartTellsUptoCardSaid:=
 Claim7.holds_tied_plain_at .later [] _ _ _ _ qns (fun _ h=>by cases h) (by kernel_rfl) (fun _ h=>by cases h) datapartTellsUpto_row_tie rfl ⟨rfl,rfl⟩ (by kernel_rfl) rfl qlr (by kernel_rfl)
end Go.Proofs.YtnkelahimiipjaaGreatDoor
