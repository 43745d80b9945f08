/-
 datapart.Build: clean points that are not too many.
-/
import Derived.Test.YtnkelahimiipjaaGreatDoorHpt
import Derived.Test.YtnkelahimiipjaaGreatDoorHxt
import Derived.Test.YtnkelahimiipjaaGreatDoorPmt
import Derived.Test.YtnkelahimiipjaaGreatDoorHnt
import Derived.Test.YtnkelahimiipjaaGreatDoorCwt
import Derived.Test.YtnkelahimiipjaaGreatDoorCzt
import Derived.Test.YtnkelahimiipjaaGreatDoorCjt
set_option maxRecDepth 100000
set_option maxHeartbeats 8000000
namespace Go.Proofs.YtnkelahimiipjaaGreatDoor
open Go.RowKit Go.Sort
attribute [local go_sem] Oper.semAt_some
theorem Rd.side {Z:Nat} {W w1 w2:World} {v:Value} {l:List Smp} (h:Rd w1 Z v l) (h1:Below Z W w1) (h2:Below Z W w2):Rd w2 Z v l:=by
 obtain ⟨A,c,rfl,hc,hA⟩:=h;refine ⟨A,c,rfl,hc,hA.imp id fun ⟨b,o,e,hb,aa⟩=>⟨b,o,e,hb,fun i hi=> ?_⟩⟩;obtain ⟨q0,q1,q2,q3⟩:=aa i hi;have k:∀t,w2.cell? ⟨b,t,none⟩=w1.cell? ⟨b,t,none⟩:=fun t=>(h2.cell hb).trans (h1.cell hb).symm;exact ⟨(k _).trans q0,(k _).trans q1,(k _).trans q2,(k _).trans q3⟩
theorem qex {w:World} {l:Nat} (h:l<w.heap.size) (o c:Obj):(w.putObj l o).alloc c=(w.alloc c).putObj l o:=by
 unfold World.alloc World.putObj;simp only [World.mk.injEq,and_true];refine Array.ext_getElem? fun k=> ?_;rw [Array.getElem?_push,Array.getElem?_setIfInBounds,Array.getElem?_setIfInBounds,Array.size_setIfInBounds,Array.size_push,Array.getElem?_push];by_cases h1:k=w.heap.size
 ·by_cases h2:l=k
  ·omega
  ·rw [if_pos h1,if_neg h2,if_pos h1]
 ·by_cases h2:l=k
  ·rw [if_neg h1,if_pos h2,if_pos h2,if_pos h,if_pos (by omega)]
  ·rw [if_neg h1,if_neg h2,if_neg h2,if_neg h1]
theorem qmi (u:Nat):putV u≠ []:=fun e=>by
 have :=qdQ u;rw [e] at this;simp at this
theorem qjf {bl:List Blk} (h:bl≠ []) (o:Nat):qaD o bl≠ []:=by
 cases bl with
 |nil=>exact absurd rfl h
 | cons b bl =>
   intro e;rw [qaD] at e;have e1:=(List.append_eq_nil_iff.1 e).1;unfold entB at e1;exact qmi _ (List.append_eq_nil_iff.1 e1).1
theorem qlw {l:List Pts} (h:Clean l) (h0:l≠ []):qae l≠ []:=fun e=>h0 (by
 have h1:=qfd h;rw [e] at h1;rw [<-h1];rfl)
theorem qjw (v : Value) (l : List Pts) (W : World) (T : Tabs W) (hT : TabT W) (hH : TabH W) (hR : RdP W W.heap.size v l) (hwf : ∀ p ∈ l, (Lit.int .i64 p.1).wf = true) (h0 : l ≠ []) (h1 : qag l = l) (h2 : qad (qag l) <= 2000) :
  Calls Tryz.prog 11 #[v] W fun e w'=>BldR W l e w':=by
 have hr:Tryz.f11.results= #[.tmp 2,.tmp 3]:=by kernel_rfl
 have bt:Clean l:=by rw [<-h1];exact qaj l
 have bi:=Lib.hid bt;have bx:=qa3 bt (by rw [h1] at h2;exact h2);have fc:=Lib.hid bx;have c7:l.length<=1000000:=bx.1;have dg:qad l<=2000:=by rw [h1] at h2;exact h2
 have az:=Lib.hid (qbT bt dg);have fo:=Lib.hid (qfu h0 h1 h2);have bn:=Lib.hid (qlw bt h0);have KM:Hid (CallsIn Fence.wide 39 Tryz.prog 30 #[v] W fun e w'=>e=.returned (.int .i64 (qad l:Nat))∧Below W.heap.size W w'):=callsIn_wide.2 (by
  have h:=qmN v l W T hR hwf (by omega) (by omega);rw [h1] at h;exact h)
 have KC:Hid (∀w',Below W.heap.size W w'->CallsIn Fence.wide 39 Tryz.prog 31 #[v] w' fun e w''=>e=.returned (.bool true)∧Below w'.heap.size w' w''):=fun w' hb=>callsIn_wide.2 (by
  have h:=qeD v l w' (T.below hb) (hR.on hb) hwf (by omega) (by omega) (by rw [h1];exact bx);rw [decide_eq_true h1] at h;exact h)
 have hg:0<W.heap.size:=qaa (hT 0 (by decide));have HG:=Lib.hid hg;have HT:=Lib.hid hT;have HH:=Lib.hid hH;have HR:=Lib.hid hR;obtain ⟨m,hm⟩:∃m,m=qad l:=⟨_,rfl⟩;rw [<-hm] at KM dg;have g1:¬(m:Int)>2000:=by omega
 obtain ⟨n,hn⟩:∃n,n=l.length:=⟨_,rfl⟩;obtain ⟨A,c,rfl,_⟩:=hR;have g3:((n:Int)==0)=false:=by
  have :n≠0:=by rw [hn];exact fun e=>h0 (List.eq_nil_of_length_eq_zero e)
  simp;omega
 rw [<-hn] at KM KC HR ⊢;have KS:∀w,CallsIn Fence.wide 39 Tryz.prog 32 #[.slice A n c] w fun e w'=>e=.returned (.func (.func 61) #[] #[.pointer (some ⟨w.heap.size,0,none⟩)])∧w'=w.alloc (.cells #[.slice A n c] 22):=fun w=>callsIn_wide.2 (qe4 A n c w);have dv:Fence.wide.fn 30:=trivial;have fz:Fence.wide.fn 31:=trivial;have f5:Fence.wide.fn 32:=trivial;have fy:Fence.wide.fn 36:=trivial;have fw:Fence.wide.fn 35:=trivial;have f7:Fence.wide.fn 37:=trivial;clear T hT hH hwf h0 h1 h2 bt bx c7 dg hm hn hg;refine (callsIn_wide (n:=40)).1 ?_;refine callsIn_of_wp_marks Tryz.func11 rfl trivial ?_ rfl;simp only [Tryz.ntmps11,List.size_toArray,List.length_cons,List.length_nil,Nat.reduceAdd,Nat.reduceSub,Array.replicate_succ,Array.replicate_zero,List.push_toArray,List.append_toArray,List.nil_append,List.cons_append];gi_wp2_with fail;refine KM.out.mono ?_;rintro e wa ⟨rfl,hB⟩;have dn:=Lib.hid hB;have KC1:=Lib.hid (KC.out wa hB);clear hB KM KC;gi_wp2_with fail;refine KC1.out.mono ?_;rintro e wb ⟨rfl,hB⟩;have b3:Hid (Below W.heap.size W wb):=dn.out.trans (hB.mono dn.out.size);clear hB KC1 dn;gi_wp2_with fail;refine (KS _).mono ?_;rintro e w1 ⟨rfl,ap⟩;obtain ⟨B0,a1⟩:∃B0,B0=wb.heap.size:=⟨_,rfl⟩;have ds:W.heap.size<=B0:=by rw [a1];exact b3.out.size
 have el:w1.heap.size=B0+4:=by rw [ap,a1];simp
 have e0:Boxed w1 (B0+1+1+1) 22 (.slice A n c):=by rw [ap];exact qaw _ _ _ (by simp <;>omega)
 have eq:Below wb.heap.size wb w1:=by
  rw [ap];exact ((((Below.refl _ wb).alloc (Nat.le_refl _) _).alloc (by simp) _).alloc (by simp <;>omega) _).alloc (by simp <;>omega) _
 have cz:Below W.heap.size W w1:=b3.out.trans (eq.mono b3.out.size);have fp:Hid (BdI W B0 (.slice none 0 0) (.slice none 0 0) [] [] 0 w1):=by
  refine ⟨?_,OwnG.nil _ _, ?_,OwnG.nil _ _, ?_,fun k e=>(by cases e),cz,ds⟩
  ·rw [ap,a1];exact (((qaw _ _ _ rfl).alloc _).alloc _).alloc _
  ·rw [ap,a1];exact ((qaw _ _ _ (by simp)).alloc _).alloc _
  ·rw [ap,a1];exact (qaw _ _ _ (by simp)).alloc _
 have dl:=Lib.hid cz;have fh:=Lib.hid a1;clear ap eq b3 a1 cz KS;gi_wp2_with fail;rw [<-fh.out];have hZ:W.heap.size<=w1.heap.size:=by omega
 refine qhN (kt:=ktB) (Z:=W.heap.size) (N:=(qae l).length) (F:=Fence.wide) (n:=40) rfl (by omega) (gf:=61) (lb:= #[.pointer (some ⟨B0+1+1+1,0,none⟩)]) (by simp [Act.eval]) trivial (enters_of Tryz.func61 (by kernel_rfl) rfl) (encs:=encH) (New:=NewH w1 W.heap.size l) (S:=fun xs=>xs.map (fun x=>x.1)=qae l) (Sp:=fun _=>True) (w0:=w1) hZ
  (qjU ktB rfl W.heap.size 39 _ (.slice A n c) l w1 (by omega) e0.cell (by omega) hZ (HR.out.below dl.out) (HT.out.below dl.out) HG.out fc.out (qea bi.out)) (Below.refl _ _) (fun _=>rfl) (fun pre A1 B x l1 o h hl=>h.put hl o)
  (fun pre W1=>(∃bv xv,BdI W B0 bv xv (qal (pre.map fun x=>x.1)) (qaD 0 (pre.map fun x=>x.1)) pre.length W1)∧pre.map (fun x=>x.1)=(qae l).take pre.length) (fun _ _=>False) ?hI ?hIx ?h0 (fun x W9=> { tmps:= #[.slice A n c,undef,.slice none 0 0,.int .i64 0,.pointer (some ⟨B0,0,none⟩),.pointer (some ⟨B0+1,0,none⟩),.pointer (some ⟨B0+1+1,0,none⟩),.pointer (some ⟨W9.heap.size,0,none⟩),x.2.2,undef,undef,undef,undef,undef,undef,undef,.bool (decide (2000<(m:Int))),.slice A n c,.int .i64 (m:Int),.bool (decide (2000<(m:Int))),.bool false,.slice A n c,.int .i64 (n:Int),.bool false,.slice A n c,.bool true,.bool false,.slice A n c,.func (.func 61) #[] #[.pointer (some ⟨B0+1+1+1,0,none⟩)],.agg #[.int .i64 x.1.1,x.2.1],x.2.2,undef,undef,undef,undef,undef,undef,undef,undef,undef,undef,undef,undef,undef,undef,undef,undef,undef,undef,undef,undef,undef,undef,undef,undef,undef,undef,undef,undef,undef,undef,undef,undef,undef,undef,undef,undef,undef,undef,undef,undef,undef,undef,undef,undef,undef,undef,undef,undef,undef,undef,undef,undef,undef,undef,undef,undef,undef,undef,undef,undef,undef,undef,undef,undef,undef],defers:=[] }) (fun x W9=>W9.alloc (.cells #[.int .i64 x.1.1,x.2.1] 71)) ?cb ?ca ?cw ?assign ?body ?done ?stop
 case hI=>rintro s A1 l1 r o ⟨⟨bv,xv,h⟩,h2⟩ hl ez;exact ⟨⟨bv,xv,h.putLoop ez (by omega) o⟩,h2⟩
 case hIx=>intro s A1 l1 r o h;exact h.elim
 case h0=>intro B hB;exact ⟨⟨_,_,fp.out.on hB⟩,rfl⟩
 case cb=>intro x W9;exact (Below.refl _ _).alloc (Nat.le_refl _) _
 case ca=>intro x W9 l1 o;rw [World.putObj_size]
 case cw=> 
  intro x W9 l1 o hl;exact qex hl _ _
 case assign=>
  rintro l1 x W9 K ⟨_,_,_,_,av,_⟩ hK;obtain ⟨⟨pid,ps⟩,sv,bd⟩:=x;obtain ⟨As,cs,ej,_⟩:=av;dsimp only at ej;subst ej;dsimp only [encH] at hK ⊢
  gi_wp2
  exact hK
 case body =>
  rintro l1 pre x W0 Wb fr fv ⟨⟨bv,xv,hI⟩,aj⟩ ck ac ⟨hx,av,cv,hO⟩;obtain ⟨⟨pid,ps⟩,sv,bd⟩:=x;dsimp only at hx av cv hO ⊢;have aq:((pid,ps):Blk) ∈ qae l:=List.mem_of_getElem? hx;obtain ⟨bz,b9,dh⟩:=qbj bi.out _ aq;have cq:=qha bi.out aq;dsimp only at b9 dh cq;have eb:ps.length<=16:=bz.2.2.1;have fq:pid<=1073741824:=bz.2.1;have b2:Hid (∀c ∈ blkB ((pid,ps):Blk),c<256):=qg5 eb;have bc:=qfT bz;have d9:=Lib.hid bc;obtain ⟨fs,b0⟩:∃fs,fs=qaX ps:=⟨_,rfl⟩;obtain ⟨ls,b7⟩:∃ls,ls=qbu ps:=⟨_,rfl⟩;rw [<-b0,<-b7] at cq;obtain ⟨s0,rest,ar⟩:∃s0 rest,ps=s0::rest:=by
   cases ps with
   |nil=>exact absurd rfl b9
   |cons a b=>exact ⟨a,b,rfl⟩
  obtain ⟨sl,df⟩:∃sl,ps.getLast? =some sl:=⟨_,List.getLast?_eq_some_getLast b9⟩;have dv:s0.1=fs:=by rw [b0,ar];rfl
  have es:sl.1=ls:=by rw [b7];unfold qbu;rw [df];rfl
  obtain ⟨bl,ay⟩:∃bl,bl=pre.map (fun x:BlkX=>x.1):=⟨_,rfl⟩;rw [<-ay] at hI aj;have cn:Hid (pre.map (fun x:BlkX=>x.1)=bl):=ay.symm;obtain ⟨P,hP⟩:∃P,P=pre.length:=⟨_,rfl⟩;have fe:Hid (pre.length=P):=hP.symm;rw [<-hP] at hI;have dq:∀b ∈ bl,b ∈ qae l:=fun b hb=>by rw [aj] at hb;exact List.mem_of_mem_take hb
  have bk:bl.length<=2000:=by have h1:=az.out.2.2;rw [aj,List.length_take];omega
  have cf:(qal bl).length<=2100000:=by
   have h3:=qdu (bl:=bl) (fun b hb=>(qbj bi.out b (dq b hb)).1);omega
  have a5:(qaD 0 bl).length<=64000:=by
   have :=qdf bi.out bl 0 dq (by omega);omega
  have cj:Hid (bl++[(pid,ps)]=(qae l).take (P+1)):=by
   show _=_;rw [aj,hP,List.take_add_one,hx];rfl
  have fk:P<=2000:=by have :=az.out.2.2;omega
  clear ay hP hx ck aj dq bk;obtain ⟨pu,rfl⟩:∃pu:Nat,pid=(pu:Int):=⟨pid.toNat,by omega⟩;obtain ⟨fu,rfl⟩:∃fu:Nat,fs=(fu:Int):=⟨fs.toNat,by omega⟩;obtain ⟨du,dw⟩:∃du:Nat,ls-(fu:Int)=(du:Int):=⟨(ls-fu).toNat,by omega⟩;have ft:IntKind.i64.wrap (ls-(fu:Int))=(du:Int):=by rw [dw];exact IntWalk.i64_in _ (by omega)
  obtain ⟨As,cs,rfl,_⟩:=id av;obtain ⟨Ad,nd,cd,rfl⟩:=hO.sl;obtain ⟨Ab,cb,a3,_⟩:=hI.ob.rd;obtain ⟨Bn,ax⟩:∃Bn,Bn=(qal bl).length:=⟨_,rfl⟩;obtain ⟨R,ct⟩:∃R,R=ps.length:=⟨_,rfl⟩;rw [<-ax] at a3 cf;subst a3;rw [<-ct] at eb av cv ⊢;obtain ⟨Wc,bw⟩:∃Wc,Wc=Wb.alloc (.cells #[.int .i64 (pu:Int),.slice As R cs] 71):=⟨_,rfl⟩;obtain ⟨H7,dr⟩:∃H7,H7=Wb.heap.size:=⟨_,rfl⟩;have bu:Below Wb.heap.size Wb Wc:=by rw [bw];exact (Below.refl _ _).alloc (Nat.le_refl _) _
  have am:Wc.heap[H7]? =some (.cells #[.int .i64 (pu:Int),.slice As R cs] 71 (0,0)):=by rw [bw,dr];exact heap_alloc_new Wb _
  have c70:Wc.cell? ⟨H7,0,none⟩=some (.int .i64 (pu:Int)):=by simp [World.cell?,am]
  have c71:Wc.cell? ⟨H7,1,none⟩=some (.slice As R cs):=by simp [World.cell?,am]
  have a9:=(hI.on ac).on bu;have c4:=a9.b.cell;have HI:=Lib.hid a9;have eu:Hid (KpT ktB W.heap.size Wb Wc):=KpT.below bu (hI.on ac).below.size;have et:Hid (OwnG EB 5 Wc W0.heap.size (.slice Ad nd cd) (blkB ((pu:Int),ps))):=hO.below bu;have dc:Hid (∀w',Below Wc.heap.size Wc w'->Rd w' w'.heap.size (.slice As R cs) ps):=fun w' h=>by
   have h2:=a9.below.trans (h.mono a9.below.size);exact (av.side dl.out h2).mono h2.size
  have HC:=Lib.hid (And.intro c70 (And.intro c71 c4));have KF:Hid (∀w',Below Wc.heap.size Wc w'->CallsIn (Fence.wide.inRound l1) 37 Tryz.prog 33 #[.agg #[.int .i64 (pu:Int),.slice As R cs]] w' fun e w''=>e=.returned (.int .i64 (fu:Int))∧Below Wc.heap.size Wc w''):=fun w' h=>
   CallsIn.inRound l1 (callsIn_wide.2 ((qen (pu:Int) _ s0 rest w' (by rw [<-ar];exact dc.out w' h)).mono fun e w'' ⟨h1,h2⟩=>⟨by rw [h1,dv],h.trans (h2.below.mono h.size)⟩))
  have KL:Hid (∀w',Below Wc.heap.size Wc w'->CallsIn (Fence.wide.inRound l1) 37 Tryz.prog 34 #[.agg #[.int .i64 (pu:Int),.slice As R cs]] w' fun e w''=>e=.returned (.int .i64 ls)∧Below Wc.heap.size Wc w''):=fun w' h=>
   CallsIn.inRound l1 (callsIn_wide.2 ((qfs (pu:Int) _ sl ps w' (dc.out w' h) (by omega) df).mono fun e w'' ⟨h1,h2⟩=>⟨by rw [h1,es],h.trans (h2.below.mono h.size)⟩))
  have f2:(Fence.wide.inRound l1).fn 33:=trivial
  have f1:(Fence.wide.inRound l1).fn 34:=trivial;have bo:Hid (entB Bn ((pu:Int),ps)=qc3 [pu,R,fu,du,Bn]):=by
   show _=_;rw [<-qmf];unfold entN;rw [<-b0,<-b7,dw,ct];simp
  have bq:=Lib.hid ax;have cp:Hid (pu<18446744073709551616∧R<18446744073709551616∧fu<18446744073709551616∧du<18446744073709551616∧Bn<18446744073709551616):=by show _∧_;omega
  rw [<-dr,<-bw];clear bw dr bu am hI a9 hO av ac bz aq ax ct ar dv es df b0 b7 dw cq;gi_wp2_with fail;refine wpIn_region_any (by kernel_rfl) ?_;change wpAnyIn _ _ _ _ _ _ _ _ _ (World.drew _)
  refine wpAnyIn_takeR (i := 16) (v := ?_) (by kernel_rfl) rfl (by kernel_rfl) (by kernel_rfl) (by kernel_rfl) (fun _ _ _ h => h) (Or.inl ⟨by rfl, ?_⟩) (fun _ => rfl) ?_
  rotate_left
  · intro w
    (go_simp <;> with_reducible rfl)
  refine qbh (by kernel_rfl) [0,1,2,3,4,5,6,7,8,9,10,11,12,13] (fun w'=>Below Wc.heap.size Wc w') [(some 31,.pointer (some ⟨H7,0,none⟩)),(some 32,.int .i64 (pu:Int)),(some 33,.pointer (some ⟨H7,1,none⟩)),(some 34,.slice As R cs),(some 35,.int .i64 (R:Int)),(some 36,.agg #[.int .i64 (pu:Int),.slice As R cs]),(some 37,.int .i64 (fu:Int)),(some 38,.agg #[.int .i64 (pu:Int),.slice As R cs]),(some 39,.int .i64 ls),(some 40,.agg #[.int .i64 (pu:Int),.slice As R cs]),(some 41,.int .i64 (fu:Int)),(some 42,.int .i64 (du:Int)),(some 43,.slice Ab Bn cb),(some 44,.int .i64 (Bn:Int))] (by kernel_rfl) (by kernel_rfl) (by rfl) ((Ext.refl Wc).drewN _).below ?A ?hA ?hq ?hfin
  case hA=>
   simp only [List.foldl_cons,List.foldl_nil]
   go_simp
   rfl
  case hq=>
   refine AllQ.cons rfl (fun w' K hS hK=> ?_) (AllQ.cons rfl (fun w' K hS hK=> ?_) (AllQ.cons rfl (fun w' K hS hK=> ?_) (AllQ.cons rfl (fun w' K hS hK=> ?_) (AllQ.cons rfl (fun w' K hS hK=> ?_) (AllQ.cons rfl (fun w' K hS hK=> ?_) (AllQ.cons rfl (fun w' K hS hK=> ?_) (AllQ.cons rfl (fun w' K hS hK=> ?_) (AllQ.cons rfl (fun w' K hS hK=> ?_) (AllQ.cons rfl (fun w' K hS hK=> ?_) (AllQ.cons rfl (fun w' K hS hK=> ?_) (AllQ.cons rfl (fun w' K hS hK=> ?_) (AllQ.cons rfl (fun w' K hS hK=> ?_) (AllQ.cons rfl (fun w' K hS hK=> ?_) AllQ.nil)))))))))))))
   all_goals
    have d0:w'.cell? ⟨H7,0,none⟩=some (.int .i64 (pu:Int)):=(hS.cell (qaa HC.out.1)).trans HC.out.1;have d1:w'.cell? ⟨H7,1,none⟩=some (.slice As R cs):=(hS.cell (qaa HC.out.1)).trans HC.out.2.1;have d4:w'.cell? ⟨B0,0,none⟩=some (.slice Ab Bn cb):=(hS.cell (qaa HC.out.2.2)).trans HC.out.2.2
    go_simp
   all_goals first|exact hK _ hS|(refine ⟨trivial,(KF.out _ hS).mono ?_⟩;rintro e w'' ⟨rfl,h9⟩;exact hK _ h9)|(refine ⟨trivial,(KL.out _ hS).mono ?_⟩;rintro e w'' ⟨rfl,h9⟩;exact hK _ h9)
  case hfin =>
   intro Wd bh;simp only [List.foldl_cons,List.foldl_nil,List.length_cons,List.length_nil];refine wpAnyIn_ready (rs:=[14]) (by kernel_rfl) (by simp) ?_;refine AllReadyIn.cons rfl (fun K hK=> ?_) AllReadyIn.nil
   go_simp
   refine hK _ _ ?_;clear hK K;refine wpAnyIn_ready (rs:=[15]) (by kernel_rfl) (by simp) ?_;refine AllReadyIn.cons rfl (fun K hK=> ?_) AllReadyIn.nil
   go_simp
   refine hK _ _ ?_;clear hK K;refine wpAnyIn_done (by kernel_rfl) ?_ _;have fd:=Lib.hid bh;have dy:=HI.out.on bh;obtain ⟨nsL,bs⟩:∃nsL,nsL=[pu,R,fu,du,Bn]:=⟨_,rfl⟩;rw [<-bs] at bo;have be:Hid (∀i,nsL.getD i 0<18446744073709551616∧(putV (nsL.getD i 0)).length<=10):=fun i=>by
    have h:nsL.getD i 0<18446744073709551616:=by
     rw [bs];have :=cp.out
     match i with
     |0|1|2|3|4=>simp;omega
     |k+5=>simp
    exact ⟨h,qax 9 _ (by omega)⟩
   have cl:Hid (nsL.length=5):=(by show _=_;rw [bs];rfl);obtain ⟨Nb,b4⟩:∃Nb,Nb=Wd.heap.size:=⟨_,rfl⟩;obtain ⟨We,bj⟩:∃We,We=Wd.alloc (.cells #[.int .i64 (pu:Int),.int .i64 (R:Int),.int .i64 (fu:Int),.int .i64 (du:Int),.int .i64 (Bn:Int)] 2):=⟨_,rfl⟩;have ew:We.heap[Nb]? =some (.cells #[.int .i64 (pu:Int),.int .i64 (R:Int),.int .i64 (fu:Int),.int .i64 (du:Int),.int .i64 (Bn:Int)] 2 (0,0)):=(by rw [bj,b4];exact heap_alloc_new Wd _);have c0:Hid (∀i,i<5->We.cell? ⟨Nb,i,none⟩=some (.int .i64 ((nsL.getD i 0:Nat):Int))):=fun i hi=>by
    rw [bs]
    match i,hi with
    |0,_|1,_|2,_|3,_|4,_=>simp [World.cell?,ew]
   have b8:Below Wd.heap.size Wd We:=(by rw [bj];exact (Below.refl _ _).alloc (Nat.le_refl _) _);have d2:Hid (Nb<We.heap.size):=(by show _<_;rw [bj,b4];simp);have ch:=dy.on b8;have en:KpT ktB W.heap.size Wb We:=eu.out.trans ((KpT.below bh HI.out.below.size).trans (KpT.below b8 dy.below.size));have ee:OwnG EB 5 We W0.heap.size (.slice Ad nd cd) (blkB ((pu:Int),ps)):=(et.out.below bh).below b8;have ce:Hid (∃XA xn xc,BdI W B0 (.slice Ab Bn cb) (.slice XA xn xc) (qal bl) (qaD 0 bl++qc3 (nsL.take 0)) P We):=by
    obtain ⟨XA,xc,ex,_⟩:=ch.ox.rd;refine ⟨XA,(qaD 0 bl).length,xc, ?_⟩;rw [<-ex];simpa [qc3] using ch
   have de:=Lib.hid en;have c1:=Lib.hid ee;have fi:=Lib.hid a5;rw [<-b4,<-bj];gi_wp2_with fail;clear b4 bj ew b8 ch en ee dy bh fd bs HC dc KF KL HI eu et a5 cv
   gi_loopw [10,47] (fun _ iv wl=>∃(i:Nat) (XA:Option Addr) (xn xc:Nat),i<=5∧iv=.int .i64 (i:Int)∧Hid (BdI W B0 (.slice Ab Bn cb) (.slice XA xn xc) (qal bl) (qaD 0 bl++qc3 (nsL.take i)) P wl)∧Hid (KpT ktB W.heap.size Wb wl)∧Hid (OwnG EB 5 wl W0.heap.size (.slice Ad nd cd) (blkB ((pu:Int),ps)))∧Hid (∀i,i<5->wl.cell? ⟨Nb,i,none⟩=some (.int .i64 ((nsL.getD i 0:Nat):Int))))
    (fun _ iv _=>5-(intOf iv).toNat)
   case atStart=>
    obtain ⟨XA,xn,xc,h⟩:=ce.out;exact ⟨0,XA,xn,xc,by omega,rfl,h,de.out,c1.out,c0.out⟩
   case round =>
    obtain ⟨i,XA,xn,xc,hi,rfl,al,ea,ef,eo⟩:=hrel;by_cases ba:i<5
    ·have ed:=eo.out i ba;have cx:=al.out.x.cell;have fx:=al.out.x.frozen;have dj:=be.out i;obtain ⟨nn,dx⟩:∃nn,nn=nsL.getD i 0:=⟨_,rfl⟩;rw [<-dx] at ed dj;have e7:IntKind.u64.wrap (nn:Int)=(nn:Int):=(by rw [IntKind.wrap_u64];omega);have d5:∀k,(qc3 (nsL.take k)).length<=10*k:=by
      intro k
      induction k with
      |zero=>simp [qc3]
      | succ k ih =>
        by_cases hk:k<nsL.length
        ·rw [qfg _ hk,List.length_append];have :=(be.out k).2;rw [List.getD_eq_getElem?_getD,List.getElem?_eq_getElem hk] at this;simp only [Option.getD_some] at this;omega
        ·rw [List.take_of_length_le (by omega)];rw [List.take_of_length_le (by omega)] at ih;omega
     have c9:=d5 i;have KP:Hid (CallsIn (Fence.wide.inRound l1) 37 Tryz.prog 35 #[.slice XA xn xc,.int .u64 (nn:Int)] wr fun e w'=>∃A n c,e=.returned (.slice A n c)∧OwnG EB 5 w' wr.heap.size (.slice A n c) (qaD 0 bl++qc3 (nsL.take i)++putV nn)∧Below wr.heap.size wr w'):=CallsIn.inRound l1 (callsIn_wide.2 ((qbo _ _ nn wr al.out.ox.rd dj.1 (by rw [List.length_append];have :=fi.out;omega)).mono (by
      rintro e w' ⟨v',rfl,ho,hb⟩;obtain ⟨A,n,c,rfl⟩:=ho.sl;exact ⟨A,n,c,rfl,ho,hb⟩)))
     have fa:Hid (qaD 0 bl++qc3 (nsL.take i)++putV nn=qaD 0 bl++qc3 (nsL.take (i+1))):=by
      show _=_;rw [qfg _ (by rw [cl.out];exact ba),List.append_assoc,dx,List.getD_eq_getElem?_getD,List.getElem?_eq_getElem (by rw [cl.out];exact ba)];rfl
     have i1:(i:Int)<5:=(by omega);clear d5 c9 dx dj ce de c1 c0;gi_wp2_with fail;refine KP.out.mono ?_;rintro e w2 ⟨A2,n2,c2,rfl,di,bb⟩;have ab:=al.out.on bb;obtain ⟨ao,ec⟩:=ab.putX (di.lower al.out.below.size) (qlp al.out.ob di);have cx2:=ab.x.cell;have fx2:=ab.x.frozen;rw [fa.out] at ao;have br:=Lib.hid ao;have co:Hid (KpT ktB W.heap.size Wb (w2.setCell ⟨B0+1,0,none⟩ (.slice A2 n2 c2))):=ea.out.trans ((KpT.below bb al.out.below.size).trans ec);have a4:Hid (OwnG EB 5 (w2.setCell ⟨B0+1,0,none⟩ (.slice A2 n2 c2)) W0.heap.size (.slice Ad nd cd) (blkB ((pu:Int),ps))):=(ef.out.below bb).set ab.x (by decide) _;have e5:Hid (∀i,i<5->(w2.setCell ⟨B0+1,0,none⟩ (.slice A2 n2 c2)).cell? ⟨Nb,i,none⟩=some (.int .i64 ((nsL.getD i 0:Nat):Int))):=fun k hk=>by
      have h1:=eo.out k hk;have h2:=(bb.cell (qaa h1)).trans h1;rw [World.cell?_setCell_other]
      ·exact h2
      ·intro e;injection e with e1 e2;subst e1 e2;rw [ab.x.cell] at h2;cases h2
     clear bb di ab ao ec KP cx fx ed;gi_wp2_with fail;go_roundw
     case rel=>exact ⟨i+1,_,_,_,by omega,by go_num,br.out,co.out,a4.out,e5.out⟩
     case measure=>simp [intOf];omega
    ·have fb:i=5:=(by omega);subst fb;obtain ⟨blk,af⟩:∃blk,blk=(((pu:Int),ps):Blk):=⟨_,rfl⟩;have a5:qaD 0 bl++qc3 (nsL.take 5)=qaD 0 (bl++[blk]):=by
      rw [qhE,Nat.zero_add,List.take_of_length_le (by rw [cl.out];omega),<-bo.out,bq.out,af]
     have a2:=al.out;rw [a5] at a2;have ev:=Lib.hid a2;have an:=d9.out;rw [<-af] at an;have d8:Hid ((qaq 3 (blkB blk)).length<=1100∧qaq 3 (blkB blk)≠ []):=by
      have h1:=qax 9 (blkB blk).length (by omega);have h2:=qbO 3 (blkB blk);refine ⟨by omega,fun e=> ?_⟩;rw [e] at h2;simp at h2
     have a0:=ef.out;have au:=b2.out;rw [<-af] at a0 au;have KM:Hid (CallsIn (Fence.wide.inRound l1) 37 Tryz.prog 36 #[.int .i64 3,.slice Ad nd cd] wr fun e w'=>∃A n c,e=.returned (.tuple #[.slice A n c,.int .i64 0])∧OwnG EB 5 w' wr.heap.size (.slice A n c) (qaq 3 (blkB blk))∧Below wr.heap.size wr w'):=CallsIn.inRound l1 (callsIn_wide.2 ((qly 3 (by omega) _ (blkB blk) wr (TabH.below HH.out al.out.below) a0.rd au (by omega)).mono (by
      rintro e w' ⟨v',rfl,ho,hb⟩;obtain ⟨A,n,c,rfl⟩:=ho.sl;exact ⟨A,n,c,rfl,ho,hb⟩)))
     have cc:=cj.out;rw [<-af] at cc;have fj:=Lib.hid af;have db:=Lib.hid cc;clear a5 a2 an a0 au cc af ce de c1 c0;gi_wp2_with fail;refine KM.out.mono ?_;rintro e w3 ⟨A3,n3,c3,rfl,bf,ci⟩;have ao:=ev.out.on ci;have c4:=ao.b.cell;have f4:=ao.b.frozen;have br:=Lib.hid ao;have a4:=Lib.hid bf.rd;have co:Hid (KpT ktB W.heap.size Wb w3):=ea.out.trans (KpT.below ci ev.out.below.size);have ek:((qal bl).length+(qaq 3 (blkB blk)).length)*1<=140737488355328:=(by have :=d8.out.1;have :=bq.out;omega);clear ci bf ao KM;gi_wp2_with (first|(gi_at_builtin;refine qnW EB rfl _ _ 23 5 rfl Tryz.underlying23 qct rfl (by decide) W.heap.size _ (qal bl) _ (qaq 3 (blkB blk)) w3.heap.size rfl br.out.ob rfl a4.out d8.out.2 ek br.out.below.size ?_)|fail);intro v4 w4 aa hg ak;obtain ⟨q0,bm,d6⟩:=br.out.putB hg aa ak;rw [<-qgH] at bm;obtain ⟨A4,n4,c4',e4⟩:=aa.sl;subst e4;have d4:=q0.cell;have g4:=q0.frozen;have dm:=bm.many.cell;have gm:=bm.many.frozen;obtain ⟨a2,ep⟩:=bm.putM (m':=P+1);have fg:=Lib.hid a2;have fm:=Lib.hid ((co.out.trans d6).trans ep);clear aa hg ak q0 bm d6 a2 ep c4 f4 ek;gi_wp2_with fail;rw [cn.out,fe.out,<-fj.out];exact ⟨fm.out,⟨_,_,fg.out⟩,db.out⟩
 case done=>
  rintro xs W0 W2 hS ⟨⟨bv,xv,hI⟩,_⟩ ac ba ah;rw [hS] at hI;have d7:xs.length=(qae l).length:=by rw [<-hS,List.length_map]
  rw [d7] at hI;have ab:=hI.on ac;obtain ⟨bl,bc⟩:∃bl,bl=qae l:=⟨_,rfl⟩;have ad:=az.out;have a3:=fo.out;have ai:=bn.out;rw [<-bc] at ab ad a3 ai;have dp:=Lib.hid ai;obtain ⟨Bn,ax⟩:∃Bn,Bn=(qal bl).length:=⟨_,rfl⟩;obtain ⟨P,hP⟩:∃P,P=bl.length:=⟨_,rfl⟩;obtain ⟨Ab,cb,e,_⟩:=ab.ob.rd;rw [<-ax] at e ad;subst e;obtain ⟨Ax,nx,cx,rfl⟩:=ab.ox.sl;rw [<-hP] at ab ad;have c4:=ab.b.cell;have c5:=ab.x.cell;have c6:=ab.many.cell;have HI:=Lib.hid ab;have bq:=Lib.hid ax;have er:=Lib.hid hP;have HF:=Lib.hid ad;have d9:=Lib.hid bc;have a7:=Lib.hid a3;have e8:=Lib.hid ah;have f6:W.heap.size<=w1.heap.size:=hZ;have fk:=ad.2.2;have f3:=ad.2.1;clear hS d7 hI ab ad a3 bc ax hP ah ai;have b5:Below W2.heap.size W2 (World.drew W2):=((Ext.refl W2).drewN _).below;have HC:=Lib.hid (And.intro c4 (And.intro c5 c6));have e7:IntKind.u64.wrap (P:Int)=(P:Int):=by rw [IntKind.wrap_u64];omega
  have KP:Hid (∀w',Below W2.heap.size W2 w'->CallsIn Fence.wide 39 Tryz.prog 35 #[.slice none 0 0,.int .u64 (P:Int)] w' fun e w''=>∃A n c,e=.returned (.slice A n c)∧OwnG EB 5 w'' W2.heap.size (.slice A n c) (putV P)∧Below W2.heap.size W2 w''):=fun w' h=>callsIn_wide.2 ((qbo _ [] P w' (RdG.nil _ _) (by omega) (by simp)).mono (by
   rintro e w'' ⟨v',rfl,ho,hb⟩;obtain ⟨A,n,c,rfl⟩:=ho.sl;exact ⟨A,n,c,rfl,ho.lower h.size,h.trans (hb.mono h.size)⟩))
  have ck:=qax 9 P (by omega);have e3:=Lib.hid ck;gi_wp2_with fail;refine qbV ?_;refine wpIn_region_any (by kernel_rfl) ?_;change wpAnyIn _ _ _ _ _ _ _ _ _ (World.drew _);refine qaL (S:=fun w'=>Below W2.heap.size W2 w') _ _ _ _ ?_
  refine heldIn_take (i := 0) (v := ?_) (by kernel_rfl) rfl (by kernel_rfl) (by kernel_rfl) (by kernel_rfl) (fun _ _ _ h => calm_panic h) ⟨Or.inl ⟨by rfl, ?_⟩, fun _ => rfl⟩ b5 ?_
  rotate_left
  · intro w' hS
    have c0 := (hS.cell (qaa HC.out.2.2)).trans HC.out.2.2
    (go_simp <;> with_reducible rfl)
  refine heldIn_take (i := 3) (v := ?_) (by kernel_rfl) rfl (by kernel_rfl) (by kernel_rfl) (by kernel_rfl) (fun _ _ _ h => calm_panic h) ⟨Or.inl ⟨by rfl, ?_⟩, fun _ => rfl⟩ b5 ?_
  rotate_left
  · intro w' hS
    have c0 := (hS.cell (qaa HC.out.2.1)).trans HC.out.2.1
    (go_simp <;> with_reducible rfl)
  refine heldIn_take (i := 1) (v := ?_) (by kernel_rfl) rfl (by kernel_rfl) (by kernel_rfl) (by kernel_rfl) (fun _ _ _ h => calm_panic h) ⟨Or.inl ⟨by rfl, ?_⟩, fun _ => rfl⟩ b5 ?_
  rotate_left
  · intro w' _
    (go_simp <;> with_reducible rfl)
  refine qam (i:=2) (by kernel_rfl) rfl (fun K hK=> ?_)
  go_simp
  refine (KP.out _ b5).mono ?_;rintro e w3 ⟨A3,n3,c3,rfl,bf,dd⟩;have a4:=Lib.hid bf;have b6:=Lib.hid dd;refine hK _ _ dd ?_;clear hK K bf dd KP;have ei:((putV P).length+(qaD 0 bl).length)*1<=140737488355328:=by
   have h1:=HF.out.1;unfold qa4 at h1;rw [List.length_append,<-er.out] at h1;omega
  refine qam (i:=4) (by kernel_rfl) rfl (fun K hK=> ?_);refine qcV rfl EB rfl _ _ 23 5 rfl Tryz.underlying23 qct rfl (by decide) W2.heap.size _ (putV P) _ (qaD 0 bl) w3.heap.size rfl a4.out rfl (HI.out.ox.rd.on b6.out) (qjf dp.out 0) ei b6.out.size ?_;intro v4 w4 aa hg ak;obtain ⟨A4,n4,c4',e4⟩:=aa.sl;subst e4;have bp:Hid (Below W2.heap.size W2 w4):=a4.out.step b6.out b6.out.size hg;have e9:putV P++qaD 0 bl=qa4 bl:=by unfold qa4;rw [<-er.out]
  rw [e9] at aa;have e6:=Lib.hid aa;refine hK _ _ bp.out ?_;clear hK K aa hg ak e9 ei;have KM:Hid (CallsIn Fence.wide 39 Tryz.prog 36 #[.int .i64 4,.slice A4 n4 c4'] w4 fun e w'=>∃A n c,e=.returned (.tuple #[.slice A n c,.int .i64 0])∧OwnG EB 5 w' w4.heap.size (.slice A n c) (qaq 4 (qa4 bl))∧Below w4.heap.size w4 w'):=callsIn_wide.2 ((qly 4 (by omega) _ (qa4 bl) w4 (TabH.below HH.out (HI.out.below.trans (bp.out.mono HI.out.below.size))) e6.out.rd (qfm bl) HF.out.1).mono (by
   rintro e w' ⟨v',rfl,ho,hb⟩;obtain ⟨A,n,c,rfl⟩:=ho.sl;exact ⟨A,n,c,rfl,ho,hb⟩))
  refine qam (i:=5) (by kernel_rfl) rfl (fun K hK=> ?_)
  go_simp
  refine KM.out.mono ?_;rintro e w5 ⟨A5,n5,c5',rfl,d3,eh⟩;have ae:Hid (Below W2.heap.size W2 w5):=bp.out.trans (eh.mono bp.out.size);have ff:Hid (OwnG EB 5 w5 W2.heap.size (.slice A5 n5 c5') (qaq 4 (qa4 bl))):=d3.lower bp.out.size;refine hK _ _ ae.out ?_;clear hK K d3 eh KM
  refine heldIn_take (i := 6) (v := ?_) (by kernel_rfl) rfl (by kernel_rfl) (by kernel_rfl) (by kernel_rfl) (fun _ _ _ h => calm_panic h) ⟨Or.inl ⟨by rfl, ?_⟩, fun _ => rfl⟩ ae.out ?_
  rotate_left
  · intro w' _
    (go_simp <;> with_reducible rfl)
  refine heldIn_take (i := 7) (v := ?_) (by kernel_rfl) rfl (by kernel_rfl) (by kernel_rfl) (by kernel_rfl) (fun _ _ _ h => calm_panic h) ⟨Or.inl ⟨by rfl, ?_⟩, fun _ => rfl⟩ ae.out ?_
  rotate_left
  · intro w' _
    (go_simp <;> with_reducible rfl)
  refine heldIn_take (i := 8) (v := ?_) (by kernel_rfl) rfl (by kernel_rfl) (by kernel_rfl) (by kernel_rfl) (fun _ _ _ h => calm_panic h) ⟨Or.inl ⟨by rfl, ?_⟩, fun _ => rfl⟩ ae.out ?_
  rotate_left
  · intro w' _
    (go_simp <;> with_reducible rfl)
  refine heldIn_take (i := 9) (v := ?_) (by kernel_rfl) rfl (by kernel_rfl) (by kernel_rfl) (by kernel_rfl) (fun _ _ _ h => calm_panic h) ⟨Or.inl ⟨by rfl, ?_⟩, fun _ => rfl⟩ ae.out ?_
  rotate_left
  · intro w' _
    (go_simp <;> with_reducible rfl)
  refine qam (i:=10) (by kernel_rfl) rfl (fun K hK=> ?_)
  go_simp
  refine hK _ _ ae.out ?_;clear hK K;refine qbc (by kernel_rfl) ⟨rfl, ?_⟩ _;have d4:w5.cell? ⟨B0,0,none⟩=some (.slice Ab Bn cb):=(ae.out.cell (qaa HC.out.1)).trans HC.out.1;clear c4 c5 c6;obtain ⟨T4,cu⟩:∃T4,T4=qdl Bn:=⟨_,rfl⟩;have b1:([qal bl,qaq 4 (qa4 bl),T4]:List (List Nat)).flatten=qcj bl:=by
   unfold qcj;rw [<-bq.out,cu];simp
  have aw:0<(qcj bl).length∧(qcj bl).length<=1000000000:=by
   have h1:=HF.out.1;have h2:=qbO 4 (qa4 bl);have h3:=qax 9 (qa4 bl).length (by omega);unfold qcj;rw [List.length_append,List.length_append,<-bq.out,h2];unfold qdl;simp only [List.length_cons,List.length_nil];omega
  obtain ⟨w6,a6⟩:∃w6,w6=w5.alloc (.cells #[.int .u8 ((Bn:Int)/16777216),.int .u8 ((Bn:Int)/65536),.int .u8 ((Bn:Int)/256%256),.int .u8 ((Bn:Int)%256)] 5):=⟨_,rfl⟩;have dk:Below w5.heap.size w5 w6:=by rw [a6];exact (Below.refl _ _).alloc (Nat.le_refl _) _
  have da:w6.heap.size=w5.heap.size+1:=by rw [a6];simp
  have hT:RdG EB w6 (w5.heap.size+1) (.slice (some ⟨w5.heap.size,0,none⟩) 4 4) T4:=by
   rw [a6,cu];exact rd4 (by omega) (by omega) (by omega) (by omega)
  obtain ⟨w7,bg⟩:∃w7,w7=w6.alloc (.cells #[.slice Ab Bn cb,.slice A5 n5 c5',.slice (some ⟨w5.heap.size,0,none⟩) 4 4] 23):=⟨_,rfl⟩;have dt:Below w6.heap.size w6 w7:=by rw [bg];exact (Below.refl _ _).alloc (Nat.le_refl _) _
  have f0:w7.heap.size=w5.heap.size+2:=by rw [bg];simp [da]
  have ag:Below w5.heap.size w5 w7:=dk.trans (dt.mono dk.size);have am:w7.heap[w5.heap.size+1]? =some (.cells #[.slice Ab Bn cb,.slice A5 n5 c5',.slice (some ⟨w5.heap.size,0,none⟩) 4 4] 23 (0,0)):=by rw [bg,<-da];exact heap_alloc_new w6 _
  have eg:Below W.heap.size W w7:=HI.out.below.trans ((ae.out.trans (ag.mono ae.out.size)).mono HI.out.below.size);have cm:=Lib.hid eg;have a8:w1.heap.size<w7.heap.size:=by
   have h1:=ae.out.size;have h2:=ac.size;omega
  have KCC:Hid (CallsIn Fence.wide 39 Tryz.prog 37 #[.slice (some ⟨w5.heap.size+1,0,none⟩) 3 3] w7 fun e w'=>∃A n c,e=.returned (.slice A n c)∧OwnG EB 5 w' w7.heap.size (.slice A n c) (qcj bl)∧Below w7.heap.size w7 w'):=callsIn_wide.2 (by
   have h:=qh1 (w5.heap.size+1) 0 3 3 [qal bl,qaq 4 (qa4 bl),T4] w7 rfl (by omega) (fun i hi=>by
    match i,hi with
    |0,_=>exact ⟨.slice Ab Bn cb,by simp [World.cell?,am],(HI.out.ob.rd.on ae.out).on ag⟩
    |1,_=>exact ⟨.slice A5 n5 c5',by simp [World.cell?,am],ff.out.rd.on ag⟩
    |2,_=>exact ⟨.slice (some ⟨w5.heap.size,0,none⟩) 4 4,by simp [World.cell?,am],((hT.mono (by omega)).below (dt.mono (Nat.le_refl _))).mono (by omega)⟩) (by omega) (by rw [b1];exact aw.1) (by rw [b1];exact aw.2)
   rw [b1] at h;exact h.mono (by
    rintro e w' ⟨v',rfl,ho,hb⟩;obtain ⟨A,n,c,rfl⟩:=ho.sl;exact ⟨A,n,c,rfl,ho,hb⟩))
  have cr:Hid (w7.heap[B0+4]? =some (.deferred (some []))):=by
   have h0:=e8.out;have cy:w1.heap.size<W2.heap.size:=Nat.lt_of_lt_of_le ba ac.size;rw [el] at h0 cy;exact (ag.block _ (Nat.lt_of_lt_of_le cy ae.out.size)).trans ((ae.out.block _ cy).trans h0)
  have cg:Hid (B0+4<w7.heap.size):=by rw [el] at a8;exact a8
  clear hT dk da dt ag am eg cu b1 aw;gi_wp2_with fail;rw [<-a6,<-bg];clear a6 bg;refine KCC.out.mono ?_;rintro e w8 ⟨A8,n8,c8,rfl,dz,em⟩;have ey:=Lib.hid dz;have b2:=Lib.hid em;clear dz em KCC;gi_wp2_with fail;have ah:w8.heap[B0+4]? =some (.deferred (some [])):=(b2.out.block _ cg.out).trans cr.out;refine ⟨by simp,.inl ⟨_,_,rfl,run_takeDeferred ah, ?_⟩⟩;have fl:Below W.heap.size W w8:=cm.out.trans (b2.out.mono cm.out.size);refine ⟨.tuple #[.slice A8 n8 c8,.int .i64 0],by unfold results;rw [hr];go_simp,.slice A8 n8 c8,by rw [a7.out], ?_,qbN fl (by omega) _⟩;rw [a7.out];exact (ey.out.lower cm.out.size).putO _ ah rfl
 case stop=>rintro xs W0 W2 _ hX;exact hX.elim
theorem qcJ (v:Value) (l:List Pts) (W:World) (T:Tabs W) (hT:TabT W) (hH:TabH W) (hR:RdP W W.heap.size v l) (hwf:∀p ∈ l,(Lit.int .i64 p.1).wf=true) (hn2:l.length<=990000000) (hn3:qad l<=990000000):
  Calls Tryz.prog 11 #[v] W fun e w'=>BldR W l e w':=by
 by_cases h:2000<qad (qag l)
 ·exact qhG v l W T hR hwf hn2 hn3 h
 ·by_cases h2:l=[]∨qag l≠l
  ·exact qlv v l W T hR hwf hn2 hn3 (by omega) h2
  ·exact qjw v l W T hT hH hR hwf (fun e=>h2 (.inl e)) (Classical.byContradiction fun e=>h2 (.inr e)) (by omega)
end Go.Proofs.YtnkelahimiipjaaGreatDoor
namespace Go.Proofs.YtnkelahimiipjaaGreatDoor
open Go.RowKit Go.Sort
abbrev PtX:=Int×Option Addr×Nat×Nat
def qbC (x:PtX):Value:=.slice x.2.1 x.2.2.1 x.2.2.2
def EP:Enc PtX:=⟨2,fun x=>[.int .i64 x.1,qbC x],fun _=>rfl,fun x u hu=>by
 simp only [List.mem_cons,List.not_mem_nil,or_false] at hu;rcases hu with rfl|rfl<;>rfl,by decide⟩
theorem qoT {w:World} {b o:Nat} {x:PtX}:CellG EP w b o x↔w.cell? ⟨b,o,none⟩=some (.int .i64 x.1)∧w.cell? ⟨b,o+1,none⟩=some (qbC x):=by
 constructor
 ·intro h;exact ⟨h 0 (by decide),h 1 (by decide)⟩
 ·rintro ⟨h0,h1⟩ j hj;have hj:j<2:=hj
  match j,hj with
  |0,_=>exact h0
  |1,_=>exact h1
theorem qeO {w:World} {base base' e e' k k' n n':Nat} {v v':Value} {xs xs':List Value} (h:w.ownsRow base e k v n xs) (h2:w.ownsRow base' e' k' v' n' xs') (hne:e≠e'):v.ownBlock=none∨v.ownBlock≠v'.ownBlock:=by
 rcases h.2 with ⟨rfl,_⟩|⟨g,cap,cur,rfl,_,h3,_⟩
 ·exact .inl rfl
 ·right;rcases h2.2 with ⟨rfl,_⟩|⟨g',cap',cur',rfl,_,h4,_⟩
  ·simp [Value.ownBlock]
  ·intro e9;have e9:g=g':=(by simpa [Value.ownBlock] using e9);subst e9;rw [h3] at h4;cases h4;exact hne rfl
structure PtsO (w:World) (base:Nat) (v:Value) (cs:List PtX) (l:List Pts):Prop where
 row:OwnG EP 62 w base v cs
 len:cs.length=l.length
 at_:∀i (h:i<cs.length) (h':i<l.length),cs[i].1=l[i].1∧Own w base 66 (qbC cs[i]) l[i].2
theorem PtsO.nil (w:World) (base:Nat):PtsO w base (.slice none 0 0) [] []:=⟨OwnG.nil _ _,rfl,fun i h _=>by simp at h⟩
theorem PtsO.on {w w':World} {base:Nat} {v:Value} {cs:List PtX} {l:List Pts} (h:PtsO w base v cs l) (k:Below w.heap.size w w'):PtsO w' base v cs l:=
 ⟨h.row.below k,h.len,fun i h1 h2=>⟨(h.at_ i h1 h2).1,(h.at_ i h1 h2).2.below k⟩⟩
theorem PtsO.push {w w':World} {base:Nat} {v v':Value} {cs:List PtX} {l:List Pts} {x:PtX} {p:Pts} (h:PtsO w base v cs l) (h1:x.1=p.1) (h2:Own w base 66 (qbC x) p.2) (hown:OwnG EP 62 w' base v' (cs++[x])) (hg:w.grownBy w' v.ownBlock):PtsO w' base v' (cs++[x]) (l++[p]):=by
 have hk:∀y s,Own w base 66 y s->Own w' base 66 y s:=fun y s hy=>hy.kept hg (qeO hy h.row (by decide));refine ⟨hown,by simp [h.len],fun i hi ab=> ?_⟩;by_cases hlt:i<cs.length
 ·have aa:i<l.length:=by rw [<-h.len];exact hlt
  rw [List.getElem_append_left hlt,List.getElem_append_left aa];obtain ⟨q1,q2⟩:=h.at_ i hlt aa;exact ⟨q1,hk _ _ q2⟩
 ·have e1:i=cs.length:=by simp at hi;omega
  have e2:i=l.length:=by rw [<-h.len];exact e1
  have a1:(cs++[x])[i]=x:=by simp [e1]
  have a2:(l++[p])[i]=p:=by simp [e2]
  rw [a1,a2];exact ⟨h1,hk _ _ h2⟩
theorem qlX {w:World} {v:Value} {cs:List PtX} {l:List Pts} (h:RdG EP w w.heap.size v cs) (hl:cs.length=l.length) (hat:∀i (h:i<cs.length) (h':i<l.length),cs[i].1=l[i].1∧Rd w w.heap.size (qbC cs[i]) l[i].2∧Nz (qbC cs[i])):RdP w w.heap.size v l:=by
 obtain ⟨A,c,rfl,hc,hn,hA⟩:=h;rw [hl] at hc ⊢;refine ⟨A,c,rfl,hc, ?_⟩;rcases hA with h0|⟨b,o,e,hb,ab⟩
 ·left;rw [h0] at hl;exact List.eq_nil_of_length_eq_zero hl.symm
 ·right;refine ⟨b,o,e,hb,fun i hi=> ?_⟩;have aa:i<cs.length:=by rw [hl];exact hi
  obtain ⟨q1,q2⟩:=qoT.1 (ab i aa);obtain ⟨r1,r2,r3⟩:=hat i aa hi;exact ⟨by rw [<-r1];exact q1,_,q2,r2,r3⟩
theorem PtsO.rdP {w:World} {base:Nat} {v:Value} {cs:List PtX} {l:List Pts} (h:PtsO w base v cs l):RdP w w.heap.size v l:=
 qlX h.row.rd h.len fun i h1 h2=>⟨(h.at_ i h1 h2).1,(h.at_ i h1 h2).2.rd,(h.at_ i h1 h2).2.nz⟩
theorem qgS:(Tryz.prog.info? 62).map (fun i=>(i.zero,i.size,i.bytes))=some (some (.agg #[.int .i64 0,.slice none 0 0]),2,32):=by kernel_rfl
theorem qn9:(Tryz.prog.info? 71).map (fun i=>(i.zero,i.size,i.bytes))=some (some (.agg #[.int .i64 0,.slice none 0 0]),2,32):=by kernel_rfl
structure PrI (W:World) (bo br:Nat) (q:Bool) (rv:Value) (w:World):Prop where
 ok:Boxed w bo 4 (.bool q)
 rest:Boxed w br 23 rv
 out:w.heap[W.heap.size]? =some (.cells #[.int .i64 0,.slice none 0 0] 62 (0,0))
 below:Below W.heap.size W w
 hi1:W.heap.size<bo
 hi2:W.heap.size<br
variable {W w w':World} {bo br:Nat} {q:Bool} {rv:Value}
theorem PrI.ne (h:PrI W bo br q rv w):bo≠br:=fun e=>by
 have h1:w.heap[bo]? =_:=h.ok;have h2:w.heap[br]? =_:=h.rest;rw [e,h2] at h1;cases h1
theorem PrI.on (h:PrI W bo br q rv w) (k:Below w.heap.size w w'):PrI W bo br q rv w':=
 ⟨qat h.ok k,qat h.rest k,(k.block _ (Array.getElem?_eq_some_iff.1 h.out).1).trans h.out,h.below.trans (k.mono h.below.size),h.hi1,h.hi2⟩
theorem PrI.setOk (h:PrI W bo br q rv w) (q':Bool):PrI W bo br q' rv (w.setCell ⟨bo,0,none⟩ (.bool q')):=by
 have h1:=h.hi1;exact ⟨h.ok.set _,qaf h.rest (Ne.symm h.ne) _,(Below.heap_setCell _ _ _ _ (by show W.heap.size≠bo;omega)).trans h.out,h.below.setCell (by show W.heap.size<=bo;omega) _,h.hi1,h.hi2⟩
theorem PrI.setRest (h:PrI W bo br q rv w) (rv':Value):PrI W bo br q rv' (w.setCell ⟨br,0,none⟩ rv'):=by
 have h1:=h.hi2;exact ⟨qaf h.ok h.ne _,h.rest.set _,(Below.heap_setCell _ _ _ _ (by show W.heap.size≠br;omega)).trans h.out,h.below.setCell (by show W.heap.size<=br;omega) _,h.hi1,h.hi2⟩
def KeepN (w w':World):Prop:=(∀base v l,OwnG EI 2 w base v l->OwnG EI 2 w' base v l)∧∀base v l,OwnG EB 5 w base v l->OwnG EB 5 w' base v l
theorem KeepN.trans {a b c:World} (h:KeepN a b) (k:KeepN b c):KeepN a c:=⟨fun _ _ _ x=>k.1 _ _ _ (h.1 _ _ _ x),fun _ _ _ x=>k.2 _ _ _ (h.2 _ _ _ x)⟩
theorem KeepN.below (k:Below w.heap.size w w'):KeepN w w':=⟨fun _ _ _ x=>x.below k,fun _ _ _ x=>x.below k⟩
theorem KeepN.set {B:Nat} {t:TypeId} {u:Value} (h:Boxed w B t u) (h1:t≠2) (h2:t≠5) (u':Value):KeepN w (w.setCell ⟨B,0,none⟩ u'):=⟨fun _ _ _ x=>x.set h h1 u',fun _ _ _ x=>x.set h h2 u'⟩
theorem qa9 {b:List Nat} (h:PrI W bo br true rv w) (hR:RdG EB w w.heap.size rv b) (h8:∀c ∈ b,c<256) (hl:b.length<=100000000):
  Calls Tryz.prog 75 #[.pointer (some ⟨bo,0,none⟩),.pointer (some ⟨br,0,none⟩)] w fun e w'=>∃A n c A2 n2 c2,e=.returned (.slice A n c)∧PrI W bo br (decide ((decV b).1=0)) (.slice A2 n2 c2) w'∧KeepN w w'∧Below W.heap.size W w'∧
   ((decV b).1=0->OwnG EI 2 w' W.heap.size (.slice A n c) (decV b).2.1∧OwnG EB 5 w' W.heap.size (.slice A2 n2 c2) (decV b).2.2):=by
 refine (qlY bo br rv b w h.ok h.rest h.ne hR h8 hl).mono ?_;rintro e w2 ⟨w1,xv,rv2,rfl,⟨xv2,rv3,he,hB,hD⟩,rfl⟩;injection he with he;injection he with he;have e1:xv=xv2∧rv2=rv3:=by
  simp at he;exact he
 obtain ⟨rfl,rfl⟩:=e1;have h1:=(h.on hB).setOk (decide ((decV b).1=0));have h2:=h1.setRest rv2;have hk:KeepN w ((w1.setCell ⟨bo,0,none⟩ (.bool (decide ((decV b).1=0)))).setCell ⟨br,0,none⟩ rv2):=
  ((KeepN.below hB).trans (KeepN.set (h.on hB).ok (by decide) (by decide) _)).trans (KeepN.set h1.rest (by decide) (by decide) _)
 have aa:KeepN w1 ((w1.setCell ⟨bo,0,none⟩ (.bool (decide ((decV b).1=0)))).setCell ⟨br,0,none⟩ rv2):=
  (KeepN.set (h.on hB).ok (by decide) (by decide) _).trans (KeepN.set h1.rest (by decide) (by decide) _)
 have hz:=h.below.size
 split at hD
 case isTrue e0=>
  obtain ⟨A,n,c,rfl⟩:=hD.1.sl;obtain ⟨A2,n2,c2,rfl⟩:=hD.2.sl;exact ⟨A,n,c,A2,n2,c2,rfl,h2,hk,h2.below,fun _=>⟨aa.1 _ _ _ (hD.1.lower hz),aa.2 _ _ _ (hD.2.lower hz)⟩⟩
 case isFalse e0=>
  obtain ⟨rfl,rfl⟩:=hD;exact ⟨none,0,0,none,0,0,rfl,h2,hk,h2.below,fun e=>absurd e e0⟩
def ParR (W:World) (b:List Nat) (e:Ending) (w':World):Prop:=
 Below W.heap.size W w'∧((qba b=none∧e=.returned (.tuple #[.agg #[.int .i64 0,.slice none 0 0],.bool false]))∨∃p A n c,qba b=some p∧e=.returned (.tuple #[.agg #[.int .i64 p.1,.slice A n c],.bool true])∧Own w' W.heap.size 66 (.slice A n c) p.2)
theorem qiC {b:List Nat} (h:¬((qab b).1=0∧(qab b).2.1<=1073741824)):qba b=none:=by unfold qba;rw [if_neg h]
theorem qiH {b:List Nat} (h:(decV (b.drop (qab b).2.2)).1≠0):qba b=none:=by
 unfold qba;simp only;rw [if_neg h,ite_self]
theorem qfG {b b1:List Nat} (h1:b1=(decV (b.drop (qab b).2.2)).2.2) (h:¬((qac 1 b1).1=0∧ -1000<=(qac 1 b1).2.1.getD 0 0∧(qac 1 b1).2.1.getD 0 0<=1000)):qba b=none:=by
 subst h1;unfold qba;simp only;rw [if_neg h,ite_self,ite_self]
theorem qfQ {b b2:List Nat} (h2:b2=(qac 1 (decV (b.drop (qab b).2.2)).2.2).2.2) (h:¬((decV b2).1=0∧(decV b2).2.1.length=(decV (b.drop (qab b).2.2)).2.1.length)):qba b=none:=by
 subst h2;unfold qba;simp only;rw [if_neg h,ite_self,ite_self,ite_self]
theorem qkV {b b2:List Nat} {x:Int} {t:List Int} (h0:(qab b).1=0∧(qab b).2.1<=1073741824) (ht:(decV (b.drop (qab b).2.2)).1=0) (hx:(qac 1 (decV (b.drop (qab b).2.2)).2.2).1=0∧ -1000<=(qac 1 (decV (b.drop (qab b).2.2)).2.2).2.1.getD 0 0∧(qac 1 (decV (b.drop (qab b).2.2)).2.2).2.1.getD 0 0<=1000)
  (hb:b2=(qac 1 (decV (b.drop (qab b).2.2)).2.2).2.2) (hm:(decV b2).1=0∧(decV b2).2.1.length=(decV (b.drop (qab b).2.2)).2.1.length) (ex:x=(qac 1 (decV (b.drop (qab b).2.2)).2.2).2.1.getD 0 0) (et:t=(decV (b.drop (qab b).2.2)).2.1):
  qba b=match unpackV (decV b2).2.1 x with |some v=>some (((qab b).2.1:Nat),t.zip v)|none=>none:=by
 subst hb ex et;unfold qba;simp only;rw [if_pos h0,if_pos ht,if_pos hx,if_pos hm];generalize unpackV _ _=r;cases r<;>rfl
end Go.Proofs.YtnkelahimiipjaaGreatDoor
namespace Go.Proofs.YtnkelahimiipjaaGreatDoor
open Go.RowKit Go.Sort
theorem qiI:∀(n:Nat) (b:List Nat),∀y ∈ (qac n b).2.1,In64 y
 |0,b,y,hy=>by cases hy
 | n + 1, b, y, hy => by
   have ih:=qiI n (b.drop (qab b).2.2);unfold qac at hy
   split at hy
   ·split at hy
    ·rcases List.mem_cons.1 hy with rfl|hy
     ·exact qpq (qhI b)
     ·exact ih y hy
    ·exact ih y hy
   ·cases hy
theorem qbm (b:List Nat) (h:(decV b).1=0):(∀y ∈ (decV b).2.1,In64 y)∧(decV b).2.1.length<=4096∧∃k,(decV b).2.2=b.drop k:=by
 by_cases h0:b.length=0
 ·rw [qg3 h0] at h;cases h
 by_cases h1:3<b.getD 0 0
 ·rw [qi3 h0 h1] at h;cases h
 by_cases h2:(qab (b.drop 1)).1=0
 ·by_cases h3:4096<(qab (b.drop 1)).2.1∨(qab (b.drop 1)).2.1<qcg (b.getD 0 0)
  ·rw [qij h0 h1 h2 h3] at h;cases h
  ·by_cases h4:(qac (qb4 (b.getD 0 0) (qab (b.drop 1)).2.1) ((b.drop 1).drop (qab (b.drop 1)).2.2)).1=0
   ·have e:=qn4 h0 h1 h2 h3 h4;rw [e];refine ⟨fun y hy=> ?_,by show ((List.range _).map _).length<=4096;rw [List.length_map,List.length_range];omega, ?_⟩
    ·obtain ⟨i,_,rfl⟩:=List.mem_map.1 hy;exact (qlP (qiI _ _) i).1
    ·have h5:=(qan _ _ h4).2.2.1;exact ⟨_,h5.trans (by rw [List.drop_drop,List.drop_drop])⟩
   ·have e:=qlU h0 h1 h2 h3 h4;rw [e] at h;exact absurd h h4
 ·rw [qf0 h0 h1 h2] at h;exact absurd h h2
theorem qdz (v:Value) (b:List Nat) (W:World) (hR:RdG EB W W.heap.size v b) (h8:∀c ∈ b,c<256) (hb:b.length<=1000000000):
  Calls Tryz.prog 73 #[v] W fun e w'=>∃A n c,e=.returned (.tuple #[.int .u64 (if (qab b).1=0 then ((qab b).2.1:Int) else 0),.slice A n c,.int .i64 (qab b).1])∧Below W.heap.size W w'∧((qab b).1=0->OwnG EB 5 w' W.heap.size (.slice A n c) (b.drop (qab b).2.2)):=by
 refine (qdo v b W hR h8 hb).mono ?_;rintro e w' ⟨r,rfl,hB,hO⟩
 split at hO
 case isTrue h=>
  obtain ⟨A,n,c,rfl⟩:=hO.sl;exact ⟨A,n,c,by rw [if_pos h],hB,fun _=>hO⟩
 case isFalse h=>subst hO;exact ⟨none,0,0,by rw [if_neg h],hB,fun h'=>absurd h' h⟩
theorem qb1 (v:Value) (b:List Nat) (W:World) (hR:RdG EB W W.heap.size v b) (hF:Flat v) (h8:∀c ∈ b,c<256) (hb:b.length<=1000000000):
  Calls Tryz.prog 77 #[v,.int .i64 1] W fun e w'=>∃A n c A2 n2 c2,e=.returned (.tuple #[.slice A n c,.slice A2 n2 c2,.int .i64 (qac 1 b).1])∧Below W.heap.size W w'∧((qac 1 b).1=0->OwnG EI 2 w' W.heap.size (.slice A n c) (qac 1 b).2.1∧OwnG EB 5 w' W.heap.size (.slice A2 n2 c2) (qac 1 b).2.2):=by
 refine Calls.mono (qdH v b 1 W hR hF h8 hb (by omega)) ?_;rintro e w' ⟨xv,rv,er,rfl,rfl,hB,hO⟩
 split at hO
 case isTrue h=>
  obtain ⟨A,n,c,rfl⟩:=hO.1.sl;obtain ⟨A2,n2,c2,rfl⟩:=hO.2.sl;exact ⟨A,n,c,A2,n2,c2,rfl,hB,fun _=>hO⟩
 case isFalse h=>
  obtain ⟨rfl,rfl⟩:=hO;exact ⟨none,0,0,none,0,0,rfl,hB,fun h'=>absurd h' h⟩
theorem qnu (v:Value) (l:List Int) (x:Int) (W:World) (hT:TabT W) (hR:RdG EI W W.heap.size v l) (hi:∀y ∈ l,In64 y) (hl:l.length<=1000000):
  Calls Tryz.prog 78 #[v,.int .i64 x] W fun e w'=>∃A n c er,e=.returned (.tuple #[.slice A n c,.int .i64 er])∧Below W.heap.size W w'∧(∀r,unpackV l x=some r->er=0∧OwnG EV 64 w' W.heap.size (.slice A n c) r)∧(unpackV l x=none->er=20):=by
 refine (qhO v l x W hT hR hi hl).mono ?_;rintro e w' ⟨ov,er,rfl,hB,h1,h2⟩;cases h:unpackV l x with
 | none =>
   obtain ⟨rfl,rfl⟩:=h2 h;exact ⟨none,0,0,20,rfl,hB,fun r hr=>(by cases hr),fun _=>rfl⟩
 | some r =>
   obtain ⟨rfl,ho⟩:=h1 r h;obtain ⟨A,n,c,rfl⟩:=ho.sl;exact ⟨A,n,c,0,rfl,hB,fun r' hr=>⟨rfl,by cases hr;exact ho⟩,fun hn=>(by cases hn)⟩
theorem qdY (e:Int):∀(m:List Int) (r:List Val),qas e m=some r->r.length=m.length
 | [], r, h => by
   unfold qas at h;cases h;rfl
 | k :: m, r, h => by
   unfold qas at h;cases h1:qa5 e k with
   |none=>rw [h1] at h;cases h
   | some v =>
     rw [h1] at h;cases h2:qas e m with
     |none=>rw [h2] at h;cases h
     | some s =>
       rw [h2] at h;cases h;rw [List.length_cons,List.length_cons,qdY e m s h2]
theorem qhC {m:List Int} {e:Int} {r:List Val} (h:unpackV m e=some r):r.length=m.length:=by
 unfold unpackV at h
 split at h
 ·cases h
 ·exact qdY e m r h
theorem OwnG.some_ {α :Type} {E:Enc α} {ty:TypeId} {w:World} {base n c:Nat} {A:Option Addr} {l:List α} (h:OwnG E ty w base (.slice A n c) l) (hl:l≠ []):∃g,A=some ⟨g,0,none⟩∧n=l.length∧n<=c:=by
 rcases h.2 with ⟨h0,h1⟩|⟨g,cap,cur,h0,_⟩
 ·exact absurd (List.eq_nil_of_length_eq_zero h1) hl
 ·obtain ⟨A2,c2,e,hc,_⟩:=h.rd;injection h0 with h0;injection e with e1 e2 e3;exact ⟨g,h0,e2,by rw [e2,e3];exact hc⟩
theorem OwnG.len {α :Type} {E:Enc α} {ty:TypeId} {w:World} {base n c:Nat} {A:Option Addr} {l:List α} (h:OwnG E ty w base (.slice A n c) l):n=l.length:=by
 obtain ⟨_,_,e,_⟩:=h.rd;injection e
def ES:Enc Smp:=⟨4,encS,fun _=>rfl,qf4,by decide⟩
theorem qn6:(Tryz.prog.info? 66).map (fun i=>(i.zero,i.size,i.bytes))=some (some (.agg #[.int .i64 0,.int .i64 0,.int .i64 0,.int .i64 0]),4,32):=qaM
theorem qkD {w:World} {base:Nat} {t:TypeId} {v:Value} {l:List Smp} (h:OwnG ES t w base v l):Own w base t v l:=h
theorem OwnG.cellAt {α :Type} {E:Enc α} {ty:TypeId} {w:World} {base g n c:Nat} {l:List α} (h:OwnG E ty w base (.slice (some ⟨g,0,none⟩) n c) l) (i:Nat) (hi:i<l.length):CellG E w g (i*E.k) l[i]:=by
 rcases h.2 with ⟨h0,_⟩|⟨g',cap,cur,h0,_,hh,_,ht⟩
 ·cases h0
 ·injection h0 with h0;injection h0 with h0;injection h0 with h0;subst h0;have h1:=OwnG.cell hh ht.2.2 i hi
  rwa [Nat.zero_add] at h1
theorem qaF {w w':World} {b:Nat} (h:w'.heap[b]? =w.heap[b]?) (i:Nat):w'.cell? ⟨b,i,none⟩=w.cell? ⟨b,i,none⟩:=by
 unfold World.cell?;rw [h]
theorem qb9 (W:World) (b i:Nat) (v:Value):W.grownBy (W.setCell ⟨b,i,none⟩ v) (some b):=
 ⟨rfl,rfl,rfl,(KeepsWalks.setCell W _ v).size,fun k _ hk=>Below.heap_setCell _ _ _ k (fun e=>hk (by rw [e]))⟩
theorem qa0 {w:World} {b t:Nat} {c:Array Value} {z:Nat×Nat} (h:w.heap[b]? =some (.cells c t z)) {base e size n:Nat} {v:Value} {xs:List Value} (hr:w.ownsRow base e size v n xs) (hne:t≠e):some b≠v.ownBlock:=by
 rcases hr.2 with ⟨rfl,_⟩|⟨g,cap,cur,rfl,_,h3,_⟩
 ·simp [Value.ownBlock]
 ·intro e9;have e9:b=g:=by simpa [Value.ownBlock] using e9
  subst e9;rw [h3] at h;cases h;exact hne rfl
theorem qmo {w:World} {b t:Nat} {x y:Value} {z:Nat×Nat} (h:w.heap[b]? =some (.cells #[x,y] t z)) (v:Value):(w.setCell ⟨b,1,none⟩ v).heap[b]? =some (.cells #[x,v] t z):=by
 unfold World.setCell;show (w.heap.modify b _)[b]? =_;rw [Array.getElem?_modify];simp [h]
theorem RdG.one1 {α :Type} {E:Enc α} (w:World) {cs:Array Value} {x: α} (t:TypeId) (h:cs.toList=E.enc x):RdG E (w.alloc (.cells cs t)) (w.alloc (.cells cs t)).heap.size (.slice (some ⟨w.heap.size,0,none⟩) 1 1) [x]:=
 ⟨_, 1, rfl, Nat.le_refl _, fun e => (by cases e), .inr ⟨_, 0, rfl, by simp, fun i hi => by
  obtain rfl:i=0:=by simp at hi;exact hi
  simpa using CellG.mk h t⟩⟩
end Go.Proofs.YtnkelahimiipjaaGreatDoor
