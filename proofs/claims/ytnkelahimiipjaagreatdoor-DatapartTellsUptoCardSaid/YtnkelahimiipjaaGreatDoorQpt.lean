import Derived.Test.YtnkelahimiipjaaGreatDoorRgt
import Derived.Test.YtnkelahimiipjaaGreatDoorPst
import Derived.Test.YtnkelahimiipjaaGreatDoorRows
import Derived.OpenShut
import Derived.Deep.Slices
import Derived.MakeChecks
import Derived.Stop.Joined
import Derived.Test.YtnkelahimiipjaaGreatDoorCards
import Derived.Test.YtnkelahimiipjaaGreatDoorTie
import Derived.WalkKit
import Derived.ProofKit
import Derived.LaidMore
import Derived.Lay
import Derived.SevenTiedAt
import Derived.Below
import Derived.ChangeSame
import Derived.Test.YtnkelahimiipjaaGreatDoorPlt
import Derived.Carry
import Derived.Test.YtnkelahimiipjaaGreatDoorProg
import Derived.Test.YtnkelahimiipjaaGreatDoorBaset
import Derived.Test.YtnkelahimiipjaaGreatDoorRqt
import Derived.Deep.Light
import Derived.Deep.RegionHeld3
set_option maxRecDepth 100000
set_option maxHeartbeats 8000000
namespace Go.Proofs.YtnkelahimiipjaaGreatDoor
open Go.RowKit Go.Sort
theorem qhi (l:List Smp):Tot (l.filter qai):=by
 intro a ha b hb h1 h2;rw [List.mem_filter] at ha hb;have ra:=ha.2;have rb:=hb.2;unfold qai at ra rb;rw [Bool.and_eq_true] at ra rb;unfold ltS Smp.bits at h1 h2;obtain ⟨at_,am,ax,as_⟩:=a;obtain ⟨bt,bm,bx,bs⟩:=b;simp only at *;obtain ⟨e1,e2,e3⟩:=qmv ra.2 rb.2 (by omega);have e4:at_=bt:=by omega
 rw [e1,e2,e3,e4]
theorem qdO (r:List Smp) (s x:Smp):x ∈ putS r s↔x ∈ r∨x=s:=by
 induction r with
 |nil=>simp [putS]
 | cons a r ih =>
   unfold putS
   split
   ·rw [List.mem_cons,ih,List.mem_cons,or_assoc]
   ·split
    ·rename_i h;constructor
     ·exact .inl
     ·rintro (h1|h1)
      ·exact h1
      ·rw [h1,<-h];exact List.mem_cons_self
    ·simp only [List.mem_cons];constructor
     ·rintro (h|h|h)
      ·exact .inr h
      ·exact .inl (.inl h)
      ·exact .inl (.inr h)
     ·rintro ((h|h)|h)
      ·exact .inr (.inl h)
      ·exact .inr (.inr h)
      ·exact .inl h
theorem qhz (r:List Smp) (s:Smp) (hr:r.Pairwise ltS) (ht:∀a ∈ r,¬ltS a s->¬ltS s a->a=s):(putS r s).Pairwise ltS:=by
 induction r with
 |nil=>unfold putS;exact List.pairwise_singleton _ _
 | cons a r ih =>
   have p:=List.pairwise_cons.1 hr;unfold putS
   split
   ·rename_i h;rw [qf6] at h;refine List.pairwise_cons.2 ⟨fun b hb=> ?_,ih p.2 fun b hb=>ht b (List.mem_cons_of_mem _ hb)⟩;rcases (qdO r s b).1 hb with h1|h1
    ·exact p.1 b h1
    ·rw [h1];exact h
   ·rename_i h;rw [qf6] at h
    split
    ·exact hr
    ·rename_i hne;have hs:ltS s a:=Classical.byContradiction fun hn=>hne (ht a List.mem_cons_self h hn);refine List.pairwise_cons.2 ⟨fun b hb=> ?_,hr⟩;rcases List.mem_cons.1 hb with h1|h1
     ·rw [h1];exact hs
     ·exact qg8 hs (p.1 b h1)
theorem qmX (d:List Smp):∀r:List Smp,r.Pairwise ltS->Tot (r++d)->(d.foldl putS r).Pairwise ltS∧∀x,x ∈ d.foldl putS r↔x ∈ r∨x ∈ d:=by
 induction d with
 |nil=>intro r hr _;exact ⟨hr,fun x=>by simp⟩
 | cons a d ih =>
   intro r hr ht;have h1:=qhz r a hr fun b hb=>ht b (by simp [hb]) a (by simp);have h2:=ih (putS r a) h1 (by
    intro x hx y hy;refine ht x ?_ y ?_
    ·rw [List.mem_append,qdO] at hx;simp;rcases hx with (h|h)|h<;>simp [h]
    ·rw [List.mem_append,qdO] at hy;simp;rcases hy with (h|h)|h<;>simp [h])
   refine ⟨h2.1,fun x=> ?_⟩;rw [List.foldl_cons,h2.2,qdO,List.mem_cons,or_assoc]
theorem qk3 (l:List Smp):qiP l=qaC l:=by
 obtain ⟨h1,h2⟩:=qmX (l.filter qai) [] List.Pairwise.nil (by rw [List.nil_append];exact qhi l);refine (qdN l (qiP l) h1 fun x=> ?_).symm;refine (h2 x).trans ?_;rw [List.mem_filter];simp
theorem qc9 (l:List Smp):(qaC l).Pairwise ltS:=qdK l (qhi l)
end Go.Proofs.YtnkelahimiipjaaGreatDoor
namespace Go.Proofs.YtnkelahimiipjaaGreatDoor
open Go.RowKit Go.ChangeShapes Go.WideShapes Go.ChangeAt Go.Deep
theorem qcZ {P:Program} {w:World}:∀{l:List (String×DataW Unit)} {ps:List MemPlace},DataW.LaidVars P w l ps->∀{n:String} {d:DataW Unit},(n,d) ∈ l->
  ∃g t cs fuel p,P.globalNamed n=some g∧(P.globals[g]?).map (·.type)=some t∧w.var? P n=some cs∧DataW.trod (fun _=>()) P w 0 (fun _=>true) false fuel t cs.toList=some (d,p)
 | [],_,_,_,_,h=>by cases h
 | (n0, d0) :: r, ps, hL, n, d, h => by
   obtain ⟨g,t,cs,fuel,p,q,h1,h2,h3,h4,h5,_⟩:=hL;rcases List.mem_cons.1 h with e|h
   ·injection e with e1 e2;subst e1 e2;exact ⟨g,t,cs,fuel,p,h1,h2,h3,h4⟩
   ·exact qcZ h5 h
theorem qjC {H:Type} {enc:TypeId×Value->H} {P:Program} {w:World} {base fuel:Nat} {sp:Nat->Bool} {held:Bool} {t:TypeId} {cs:List Value} {x:DataW H×List MemPlace} {k:FloatKind} (ht:P.underlying t=some (.float k))
  (h:DataW.trod enc P w base sp held fuel t cs=some x):∃b,cs=[.float k b]∧x.1=.lit (.float k b):=by
 cases fuel with
 |zero=>simp [DataW.trod] at h
 | succ n =>
   unfold DataW.trod at h;rw [ht] at h
   split at h<;>simp_all
   rw [<-h.2]
section
variable {W:World} {l:List (String×DataW Unit)} {ps:List MemPlace} (hL:DataW.LaidVars Tryz.prog W l ps)
include hL
theorem qoK (hm:("internal/strconv.float64info",Rows.laid_internal_strconv_float64info) ∈ l):W.cell? ⟨8,0,none⟩=some (.int .u64 52):=by
 obtain ⟨g,t,cs,fuel,p,hg,ht,hv,hd⟩:=qcZ hL hm;obtain rfl:=Option.some.inj ((show Tryz.prog.globalNamed "internal/strconv.float64info" =some 8 by kernel_rfl).symm.trans hg);obtain rfl:=Option.some.inj ((show (Tryz.prog.globals[8]?).map (·.type)=some 273 by kernel_rfl).symm.trans ht);obtain ⟨xs,m,_,ex,_,hl,ac⟩:=DataW.trod_struct Tryz.underlying273 hd;have h0:=ac 0 ⟨"mantbits",78,0,false, "", "internal/strconv",0⟩ rfl;have ab:(xs.map (·.1))[0]? =some (.lit (.int .u64 52)):=by rw [<-DataW.agg.inj (Prod.mk.inj ex).1];rfl
 rw [List.getElem?_map] at ab;obtain ⟨y,hy,aa⟩:=Option.map_eq_some_iff.1 ab;rw [hy] at h0;obtain ⟨z,e1,e2,_⟩:=DataW.trod_int Tryz.underlying78 h0;rw [e2] at aa;have hz:z=52:=by simpa using aa
 subst hz;rw [World.var?_cell hg hv 0];have c1:Tryz.prog.cellsOf 78=1:=by kernel_rfl
 rw [c1] at e1;have h3:((cs.toList.drop 0).take 1)[0]? =some (.int .u64 52):=by rw [e1];rfl
 simpa using h3
theorem qpC (hm:("internal/strconv.optimize",Rows.laid_internal_strconv_optimize) ∈ l):W.cell? ⟨7,0,none⟩=some (.bool true):=by
 obtain ⟨g,t,cs,fuel,p,hg,ht,hv,hd⟩:=qcZ hL hm;obtain rfl:=Option.some.inj ((show Tryz.prog.globalNamed "internal/strconv.optimize" =some 7 by kernel_rfl).symm.trans hg);obtain rfl:=Option.some.inj ((show (Tryz.prog.globals[7]?).map (·.type)=some 4 by kernel_rfl).symm.trans ht);obtain ⟨b,e1,e2⟩:=DataW.trod_bool Tryz.underlying4 hd;have :b=true:=by
  have :=(Prod.mk.inj e2).1;injection this with this;injection this with this;exact this.symm
 subst this;rw [World.var?_cell hg hv 0];have h3:cs.toList[0]? =some (.bool true):=by rw [e1];rfl
 simpa using h3
theorem qpB (hm:("internal/strconv.uint64pow10",Rows.laid_internal_strconv_uint64pow10) ∈ l):Lib.TabIs Tryz.prog W "internal/strconv.uint64pow10" .u64 Lib.pow10Tab:=by
 obtain ⟨g,t,cs,fuel,p,hg,ht,hv,hd⟩:=qcZ hL hm;obtain rfl:=Option.some.inj ((show Tryz.prog.globalNamed "internal/strconv.uint64pow10" =some 5 by kernel_rfl).symm.trans hg);obtain rfl:=Option.some.inj ((show (Tryz.prog.globals[5]?).map (·.type)=some 264 by kernel_rfl).symm.trans ht);unfold Lib.TabIs;rw [hv,<-Lib.cells_of_tab (zs:=Lib.pow10Tab) Tryz.underlying264 Tryz.underlying75 (by kernel_rfl) (by kernel_rfl) hd]
theorem qob (hm:("internal/strconv.pow10Tab",Rows.laid_internal_strconv_pow10Tab) ∈ l) (P:Nat) (hP:P<696):
  W.cell? ⟨14,P*2,none⟩=some (.int .u64 (tabHi P))∧W.cell? ⟨14,P*2+1,none⟩=some (.int .u64 (tabLo P)):=by
 obtain ⟨g,t,cs,fuel,p,hg,ht,hv,hd⟩:=qcZ hL hm;obtain rfl:=Option.some.inj ((show Tryz.prog.globalNamed "internal/strconv.pow10Tab" =some 14 by kernel_rfl).symm.trans hg);obtain rfl:=Option.some.inj ((show (Tryz.prog.globals[14]?).map (·.type)=some 316 by kernel_rfl).symm.trans ht);obtain ⟨xs,m,_,ex,ai,hl,ae⟩:=DataW.trod_array Tryz.underlying316 hd;have c2:Tryz.prog.cellsOf 315=2:=by kernel_rfl
 have c1:Tryz.prog.cellsOf 75=1:=by kernel_rfl
 have af:Go.Pinned.pow10Rows.length=696:=by kernel_rfl
 have hE:=ae P hP;rw [c2] at hE;have e3:xs.map (·.1)=Go.Pinned.pow10Rows.map fun x=>(.agg [.lit (.int .u64 x.1),.lit (.int .u64 x.2)]:DataW Unit):=(DataW.agg.inj (Prod.mk.inj ex).1).symm;have e4:(xs.map (·.1))[P]? =some (.agg [.lit (.int .u64 (tabHi P)),.lit (.int .u64 (tabLo P))]):=by
  rw [e3,List.getElem?_map,List.getElem?_eq_getElem (by omega:P<Go.Pinned.pow10Rows.length)];unfold tabHi tabLo;rw [List.getD,List.getElem?_eq_getElem (by omega:P<Go.Pinned.pow10Rows.length)];rfl
 rw [List.getElem?_map] at e4;obtain ⟨y,hy,ab⟩:=Option.map_eq_some_iff.1 e4;rw [hy] at hE;obtain ⟨ys,m2,_,ey,_,ah,aa⟩:=DataW.trod_struct Tryz.underlying315 hE;rw [ey] at ab;have ac:=DataW.agg.inj ab;have f0:=aa 0 _ rfl;have f1:=aa 1 _ rfl;have y0:(ys.map (·.1))[0]? =some (.lit (.int .u64 (tabHi P))):=by rw [ac];rfl
 have y1:(ys.map (·.1))[1]? =some (.lit (.int .u64 (tabLo P))):=by rw [ac];rfl
 rw [List.getElem?_map] at y0 y1;obtain ⟨u0,ag,k0⟩:=Option.map_eq_some_iff.1 y0;obtain ⟨u1,ad,k1⟩:=Option.map_eq_some_iff.1 y1;rw [ag] at f0;rw [ad] at f1;obtain ⟨z0,a0,b0,_⟩:=DataW.trod_int Tryz.underlying75 f0;obtain ⟨z1,a1,b1,_⟩:=DataW.trod_int Tryz.underlying75 f1;rw [b0] at k0;rw [b1] at k1;injection k0 with k0;injection k0 with _ k0;injection k1 with k1;injection k1 with _ k1;have a0:(((cs.toList.drop (P*2)).take 2).drop 0).take (Tryz.prog.cellsOf 75)=[.int .u64 z0]:=a0;have a1:(((cs.toList.drop (P*2)).take 2).drop 1).take (Tryz.prog.cellsOf 75)=[.int .u64 z1]:=a1;rw [c1] at a0 a1;subst k0 k1;have g0:(((cs.toList.drop (P*2)).take 2).drop 0).take 1=[.int .u64 (tabHi P)]:=a0;have g1:(((cs.toList.drop (P*2)).take 2).drop 1).take 1=[.int .u64 (tabLo P)]:=a1;have h0:((((cs.toList.drop (P*2)).take 2).drop 0).take 1)[0]? =some (.int .u64 (tabHi P)):=by rw [g0];rfl
 have h1:((((cs.toList.drop (P*2)).take 2).drop 1).take 1)[0]? =some (.int .u64 (tabLo P)):=by rw [g1];rfl
 rw [World.var?_cell hg hv,World.var?_cell hg hv];constructor
 ·simpa [List.getElem?_take,List.getElem?_drop] using h0
 ·simpa [List.getElem?_take,List.getElem?_drop] using h1
theorem qpQ (hm:("internal/strconv.float64pow10",Rows.laid_internal_strconv_float64pow10) ∈ l):
  ∃pb po pc,W.cell? ⟨11,0,none⟩=some (.slice (some ⟨pb,po,none⟩) 23 pc)∧∀i,i<=22->W.cell? ⟨pb,po+i,none⟩=some (.float .f64 (P10.getD i 0)):=by
 obtain ⟨g,t,cs,fuel,p,hg,ht,hv,hd⟩:=qcZ hL hm;obtain rfl:=Option.some.inj ((show Tryz.prog.globalNamed "internal/strconv.float64pow10" =some 11 by kernel_rfl).symm.trans hg);obtain rfl:=Option.some.inj ((show (Tryz.prog.globals[11]?).map (·.type)=some 310 by kernel_rfl).symm.trans ht);have hP:(Rows.laid_internal_strconv_float64pow10:DataW Unit)=.slice (P10.map fun b=>.lit (.float .f64 b)) []:=rfl;rw [hP] at hd;rcases open_slice1 Tryz.underlying310 (by kernel_rfl) hd with ⟨_,h0⟩|⟨a,len,cap,m,n,V,D,Pl,e1,_,ai,_,ae,hx,ad⟩
 ·exact absurd (Prod.mk.inj h0).1 (by simp)
 ·have ab:=(Prod.mk.inj hx).1;injection ab with ab _;have ac:len=23:=by
   have :=congrArg List.length ab;simp [P10] at this;omega
  have ag:m=cap:=by rw [ae];rfl
  subst ac;have ah:P10.length=23:=rfl;have aa:∀i,i<=22->W.cell? (a.add i)=some (.float .f64 (P10.getD i 0)):=by
   intro i hi;obtain ⟨k1,k2⟩:=ad i (by omega);obtain ⟨f,f1,f2⟩:=qjC Tryz.underlying225 k2;have hD:((List.range 23).map D)[i]? =some (D i):=(by rw [List.getElem?_map,List.getElem?_range (by omega)];rfl);rw [<-ab,List.getElem?_map,List.getElem?_eq_getElem (by omega:i<P10.length)] at hD;simp only [Option.map_some,Option.some.injEq] at hD;rw [<-hD] at f2;injection f2 with f2;injection f2 with _ f2;injection f1 with f1 _;rw [k1,f1,<-f2,List.getD,List.getElem?_eq_getElem (by omega:i<P10.length)];rfl
  obtain ⟨pb,po,sp⟩:=a;have af:sp=none:=by simpa [Addr.add] using World.cell?_spot (aa 0 (by omega))
  subst af;refine ⟨pb,po,cap, ?_,fun i hi=> ?_⟩
  ·rw [World.var?_cell hg hv 0];have h3:cs.toList[0]? =some (.slice (some ⟨pb,po,none⟩) 23 cap):=(by rw [e1];rfl);simpa using h3
  ·have :=aa i hi;have e:(⟨pb,po,none⟩:Addr).add i=⟨pb,po+i,none⟩:=by unfold Addr.add;split<;>simp_all
   rwa [e] at this
end
end Go.Proofs.YtnkelahimiipjaaGreatDoor
namespace Go.Proofs.YtnkelahimiipjaaGreatDoor
open Go.RowKit Go.ChangeShapes Go.WideShapes Go.ChangeAt
def lst:List (String×DataW Unit):=Rows.datapartBuildsRow.laid
theorem qhe {W:World} (h:laidMetH Tryz.prog lst W):Tabs W:=by
 rw [MakeChecks.laidMetH_plain _ _ _ (by kernel_rfl)] at h;obtain ⟨ps,hL,_⟩:=h;have hm:∀x,x ∈ [("internal/strconv.float64info",Rows.laid_internal_strconv_float64info),("internal/strconv.optimize",Rows.laid_internal_strconv_optimize),("internal/strconv.float64pow10",Rows.laid_internal_strconv_float64pow10),("internal/strconv.uint64pow10",Rows.laid_internal_strconv_uint64pow10),("internal/strconv.pow10Tab",Rows.laid_internal_strconv_pow10Tab)]->x ∈ lst:=by
  intro x hx;unfold lst Rows.datapartBuildsRow;simp only [List.mem_cons,List.not_mem_nil,or_false] at hx ⊢;rcases hx with h|h|h|h|h<;>simp only [h,true_or,or_true]
 have m1:=hm _ (.head _);have m2:=hm _ (.tail _ (.head _));have m3:=hm _ (.tail _ (.tail _ (.head _)));have m4:=hm _ (.tail _ (.tail _ (.tail _ (.head _))));have m5:=hm _ (.tail _ (.tail _ (.tail _ (.tail _ (.head _)))));exact ⟨qoK hL m1,qpC hL m2,qpQ hL m3,fun P hP=>(qob hL m5 P hP).1,fun P hP=>(qob hL m5 P hP).2,qpB hL m4⟩
theorem own:ownKnob Tryz.prog.godebug=none:=by kernel_rfl
section
variable {H:Type} {enc:TypeId×Value->H} {P:Program}
theorem qe7 {f:Func} {s:ChangeSpec} {apart fresh handsOn again:Bool} {W W':World} {args:Array Value} {v:Value} {ds gs:List (DataW H)} {before pa pv:List MemPlace}
  (hW:DataW.Whole enc P f.params.toList s.vars apart W args.toList ds gs before)
  (hres:∀(b:Nat) (sp:Nat->Bool) (hd:Bool),DataW.TrodAll enc P W' b sp hd f.resultTypes.toList (v.resultList f.resultTypes.size) (s.fn H (ds++gs)).results [])
  (hargs:∀sp:Nat->Bool,(∀p ∈ before,sp p.block=true)->DataW.TrodAll enc P W' 0 sp true f.params.toList args.toList (s.fn H (ds++gs)).args pa)
  (hvars:∀sp:Nat->Bool,(∀p ∈ before,sp p.block=true)->DataW.TrodVars enc P W' sp s.vars (s.fn H (ds++gs)).vars pv)
  (hps:before=pa++pv) (hB:Below W.heap.size W W')
  (hok:∀(j:Nat) (t:TypeId) (r:Value),f.resultTypes[j]? =some t->(v.resultList f.resultTypes.size)[j]? =some r->Value.okWide P W' .any 0 t r):
  s.post enc P f apart fresh handsOn again W args v W':=by
 have ab:∀p ∈ before,p.block<W.heap.size:=fun p hp=>hW.lt p hp;have hold:∀p ∈ before,(fun b=>decide (b<W.heap.size)) p.block=true:=fun p hp=>by simpa using ab p hp
 refine ⟨ds,gs,before,[],pa,pv,hW,hres _ _ _,hargs _ hold,hvars _ hold,hB.frame _,fun _=> ?_⟩;obtain ⟨_,_,_,_,_,hz,hn⟩:=hW;refine ⟨hok,_,_,([]++pa)++pv,⟨[]++pa,pv,trodAll_append (hargs _ (fun _ _=>rfl)) (hres _ _ _),hvars _ (fun _ _=>rfl),rfl, ?_, ?_⟩, ?_⟩
 ·intro b off hp;have aa:MemPlace.cell b off ∈ before:=by rw [hps];simpa using hp
  rw [hB.frozen (ab _ aa)];exact hz b off aa
 ·intro ha;have :=hn ha;rw [hps] at this;simpa using this
 ·intro p hp _;rw [hps];simpa using hp
end
end Go.Proofs.YtnkelahimiipjaaGreatDoor
namespace Go.Proofs.YtnkelahimiipjaaGreatDoor
open Go.RowKit Go.ChangeShapes Go.WideShapes Go.ChangeAt Go.Deep
theorem len3 {l:List Value} (h:l.length=3):∃a b c,l=[a,b,c]:=by
 cases l with
 |nil=>simp at h
 | cons a l =>
   cases l with
   |nil=>simp at h
   | cons b l =>
     cases l with
     |nil=>simp at h
     | cons c l =>
       cases l with
       |nil=>exact ⟨a,b,c,rfl⟩
       |cons d l=>simp at h
section
variable {H:Type} {enc:TypeId×Value->H} {w:World} {base:Nat} {sp:Nat->Bool} {held:Bool}
theorem qnm {n:Nat} {cs:List Value} {x:DataW H×List MemPlace} (h:DataW.trod enc Tryz.prog w base sp held n 64 cs=some x):∃m y s,cs=[.int .i64 m,.int .i64 y,.int .i64 s]:=by
 obtain ⟨xs,k,_,_,hc,aa,hf⟩:=DataW.trod_struct Tryz.underlying64 h;have c3:Tryz.prog.cellsOf 64=3:=by kernel_rfl
 have ci:Tryz.prog.cellsOf 2=1:=by kernel_rfl
 have cj:Tryz.prog.cellsOf 3=1:=by kernel_rfl
 rw [c3] at hc;have g0:=hf 0 ⟨"M",2,0,false, "", "",0⟩ rfl;have g1:=hf 1 ⟨"E",3,1,false, "", "",8⟩ rfl;have g2:=hf 2 ⟨"S",3,2,false, "", "",16⟩ rfl;have aa:xs.length=3:=aa;rw [List.getElem?_eq_getElem (by omega)] at g0 g1 g2;obtain ⟨m,e0,_⟩:=DataW.trod_int Tryz.underlying2 g0;obtain ⟨y,e1,_⟩:=DataW.trod_int Tryz.underlying3 g1;obtain ⟨s,e2,_⟩:=DataW.trod_int Tryz.underlying3 g2;obtain ⟨a,b,c,rfl⟩:=len3 hc;have e0:([a,b,c].drop 0).take (Tryz.prog.cellsOf 2)=[.int .i64 m]:=e0;have e1:([a,b,c].drop 1).take (Tryz.prog.cellsOf 3)=[.int .i64 y]:=e1;have e2:([a,b,c].drop 2).take (Tryz.prog.cellsOf 3)=[.int .i64 s]:=e2;rw [ci] at e0;rw [cj] at e1 e2;simp at e0 e1 e2;exact ⟨m,y,s,by rw [e0,e1,e2]⟩
theorem qnQ {n:Nat} {cs:List Value} {x:DataW H×List MemPlace} (h:DataW.trod enc Tryz.prog w base sp held n 66 cs=some x):∃y:Smp,cs=encS y:=by
 obtain ⟨xs,k,_,_,hc,aa,hf⟩:=DataW.trod_struct Tryz.underlying66 h;have c4:Tryz.prog.cellsOf 66=4:=by kernel_rfl
 have c3:Tryz.prog.cellsOf 64=3:=by kernel_rfl
 have ci:Tryz.prog.cellsOf 2=1:=by kernel_rfl
 rw [c4] at hc;have g0:=hf 0 ⟨"T",2,0,false, "", "",0⟩ rfl;have g1:=hf 1 ⟨"V",64,1,false, "", "",8⟩ rfl;have aa:xs.length=2:=aa;rw [List.getElem?_eq_getElem (by omega)] at g0 g1;obtain ⟨t,e0,_⟩:=DataW.trod_int Tryz.underlying2 g0;obtain ⟨m,y,s,e1⟩:=qnm g1;obtain ⟨a,r,rfl⟩:∃a r,cs=a::r:=by
  cases cs with
  |nil=>simp at hc
  |cons a r=>exact ⟨a,r,rfl⟩
 obtain ⟨b,c,d,rfl⟩:=len3 (by simpa using hc:r.length=3);have e0:([a,b,c,d].drop 0).take (Tryz.prog.cellsOf 2)=[.int .i64 t]:=e0;have e1:([a,b,c,d].drop 1).take (Tryz.prog.cellsOf 64)=[.int .i64 m,.int .i64 y,.int .i64 s]:=e1;rw [ci] at e0;rw [c3] at e1;simp at e0 e1;exact ⟨(t,m,y,s),by rw [e0,e1.1,e1.2.1,e1.2.2];rfl⟩
end
end Go.Proofs.YtnkelahimiipjaaGreatDoor
namespace Go.Proofs.YtnkelahimiipjaaGreatDoor
open Go.RowKit Go.Sort
def RdZ (w:World) (B:Nat) (v:Value) (l:List Int):Prop:=
 ∃A c,v=.slice A l.length c∧l.length<=c∧(l=[]∨∃b o,A=some ⟨b,o,none⟩∧b<B∧∀i (h:i<l.length),w.cell? ⟨b,o+i,none⟩=some (.int .i64 l[i]))
theorem RdZ.below {w w':World} {B:Nat} {v:Value} {l:List Int} (h:RdZ w B v l) (k:RowKit.Below B w w'):RdZ w' B v l:=by
 obtain ⟨A,c,h1,h2,h3⟩:=h;exact ⟨A,c,h1,h2,h3.imp id fun ⟨b,o,e,hb,hc⟩=>⟨b,o,e,hb,fun i hi=>(k.cell hb).trans (hc i hi)⟩⟩
theorem RdZ.mono {w:World} {B B':Nat} {v:Value} {l:List Int} (h:RdZ w B v l) (k:B<=B'):RdZ w B' v l:=by
 obtain ⟨A,c,h1,h2,h3⟩:=h;exact ⟨A,c,h1,h2,h3.imp id fun ⟨b,o,e,hb,hc⟩=>⟨b,o,e,Nat.lt_of_lt_of_le hb k,hc⟩⟩
theorem RdZ.on {w w':World} {v:Value} {l:List Int} (h:RdZ w w.heap.size v l) (k:RowKit.Below w.heap.size w w'):RdZ w' w'.heap.size v l:=(h.below k).mono k.size
theorem qpe (v:Value) (l:List Int) (z:Int) (W:World) (hR:RdZ W W.heap.size v l) (hl:l.length<=1000000000000):
  Calls Tryz.prog 50 #[v,.int .i64 z] W fun e w'=>e=.returned (.bool (decide (z ∈ l)))∧Ext W w':=by
 obtain ⟨A,c,rfl,hc,hA⟩:=hR;have HA:=Lib.hid hA;obtain ⟨q,hq⟩:∃q,q=decide (z ∈ l):=⟨_,rfl⟩;have HQ:Hid (q=decide (z ∈ l)):=hq;rw [<-hq];clear hq hA hc;obtain ⟨n,hn⟩:∃n,n=l.length:=⟨_,rfl⟩;rw [<-hn] at hl ⊢;have HN:Hid (n=l.length):=hn;clear hn;go_enter Tryz.func50,Tryz.ntmps50;go_wp2_with fail
 go_loopw [5] (fun i wl=>∃k:Nat,k<=n∧i=.int .i64 k∧Hid (z ∉ l.take k)∧Hid (Ext W wl)) (fun i _=>n-(intOf i).toNat)
 case atStart=>exact ⟨0,Nat.zero_le _,rfl,(by simp :z ∉ l.take 0),Ext.refl _⟩
 case round=>
  obtain ⟨k,hk,rfl,HT,HE⟩:=hrel;by_cases hlt:k<n
  ·have aa:k<l.length:=(by rw [<-HN.out];exact hlt);rcases HA.out with h0|⟨b1,o1,e,ag,ab⟩
   ·subst h0;simp at aa
   subst e;obtain ⟨x,hx⟩:∃x,x=l[k]:=⟨_,rfl⟩;have c0:wr.cell? ⟨b1,o1+k,none⟩=some (.int .i64 x):=(by rw [hx];exact (HE.out.below.cell ag).trans (ab k aa));have i1:(k:Int)<(n:Int):=(by omega);by_cases hxz:x=z
   ·have ae:Hid (q=true):=HQ.out.trans (decide_eq_true (by rw [<-hxz,hx];exact List.getElem_mem aa));subst hxz;clear hx ab;go_wp2_with fail;go_ret;exact ⟨qao ae.out.symm,by first|exact HE.out|exact HE.out.drew⟩
   ·have af:Hid (z ∉ l.take (k+1)):=by
     show _;rw [List.take_succ_eq_append_getElem aa,List.mem_append,not_or];exact ⟨HT.out,by rw [<-hx];simp [Ne.symm hxz]⟩
    have g1:((x:Int)==z)=false:=beq_eq_false_iff_ne.2 hxz;clear hx ab;go_wp2_with fail;go_roundw
    case rel=>exact ⟨k+1,by omega,by go_num,af,by first|exact HE.out|exact HE.out.drew⟩
    case measure=>simp [intOf];omega
  ·have ac:k=n:=(by omega);have ad:Hid (q=false):=HQ.out.trans (decide_eq_false (by have :=HT.out;rwa [ac,HN.out,List.take_length] at this));clear ac;go_wp2_with fail;go_ret;exact ⟨qao ad.out.symm,HE.out⟩
theorem qjc {a b:List Int} {k:Nat} {x y:Int} (ha:k<a.length) (hb:k<b.length) (hx:x=a[k]) (hy:y=b[k]) (h:a.take k=b.take k):(a.take (k+1)=b.take (k+1))↔x=y:=by
 rw [List.take_succ_eq_append_getElem ha,List.take_succ_eq_append_getElem hb,h,<-hx,<-hy];simp
theorem qjA (va vb:Value) (a b:List Int) (W:World) (hRa:RdZ W W.heap.size va a) (hRb:RdZ W W.heap.size vb b) (hla:a.length<=1000000000000):
  Calls Tryz.prog 26 #[va,vb] W fun e w'=>e=.returned (.bool (decide (a=b)))∧Ext W w':=by
 obtain ⟨A,ca,rfl,ai,hA⟩:=hRa;obtain ⟨B,cb,rfl,ah,hB⟩:=hRb;have HA:=Lib.hid hA;have HB:=Lib.hid hB;obtain ⟨q,hq⟩:∃q,q=decide (a=b):=⟨_,rfl⟩;have HQ:Hid (q=decide (a=b)):=hq;rw [<-hq];clear hq hA hB ai ah;obtain ⟨n,hn⟩:∃n,n=a.length:=⟨_,rfl⟩;obtain ⟨m,hm⟩:∃m,m=b.length:=⟨_,rfl⟩;rw [<-hn] at hla ⊢;rw [<-hm];have HN:Hid (n=a.length):=hn;have HM:Hid (m=b.length):=hm;clear hn hm;by_cases hnm:n=m
 ·have g0:(((n:Int)) != (m:Int))=false:=by simp;omega
  go_enter Tryz.func26,Tryz.ntmps26;go_wp2_with fail
  go_loopw [5] (fun i wl=>∃k:Nat,k<=n∧i=.int .i64 k∧Hid (a.take k=b.take k)∧Hid (Ext W wl))
   (fun i _=>n-(intOf i).toNat)
  case atStart=>exact ⟨0,Nat.zero_le _,rfl,rfl,Ext.refl _⟩
  case round=>
   obtain ⟨k,hk,rfl,HT,HE⟩:=hrel;by_cases hlt:k<n
   ·have ac:k<a.length:=(by rw [<-HN.out];exact hlt);have ab:k<b.length:=(by rw [<-HM.out,<-hnm];exact hlt);rcases HA.out with h0|⟨b1,o1,e,am,ae⟩
    ·subst h0;simp at ac
    rcases HB.out with h0|⟨b2,o2,e',al,ad⟩
    ·subst h0;simp at ab
    subst e e';obtain ⟨x,hx⟩:∃x,x=a[k]:=⟨_,rfl⟩;obtain ⟨y,hy⟩:∃y,y=b[k]:=⟨_,rfl⟩;have c0:wr.cell? ⟨b1,o1+k,none⟩=some (.int .i64 x):=(by rw [hx];exact (HE.out.below.cell am).trans (ae k ac));have d0:wr.cell? ⟨b2,o2+k,none⟩=some (.int .i64 y):=(by rw [hy];exact (HE.out.below.cell al).trans (ad k ab));have HF:Hid ((a.take (k+1)=b.take (k+1))↔x=y):=qjc ac ab hx hy HT.out;clear hx hy ae ad;have i1:(k:Int)<(n:Int):=(by omega);have i2:(k:Int)<(m:Int):=(by omega);have an:k<m:=(by omega);by_cases hxy:x=y
    ·subst hxy;have ak:Hid (a.take (k+1)=b.take (k+1)):=HF.out.2 rfl;clear HF;go_wp2_with fail
     go_quiet (fail)
     go_wp2_with fail;go_roundw
     case rel=>exact ⟨k+1,by omega,by go_num,ak,HE.out.drewN nq⟩
     case measure=>simp [intOf];omega
    ·have aa:a≠b:=fun e=>hxy (HF.out.1 (by rw [e]));have af:Hid (q=false):=HQ.out.trans (decide_eq_false aa);have g1:((x:Int) != y)=true:=(by simp [hxy]);clear HF aa;go_wp2_with fail
     go_quiet (fail)
     go_wp2_with fail;go_ret;exact ⟨qao af.out.symm,HE.out.drewN nq⟩
   ·have ag:k=n:=(by omega);have aa:a=b:=by
     have :=HT.out
     rwa [ag,HN.out,List.take_length,<-HN.out,hnm,HM.out,List.take_length] at this
    have aj:Hid (q=true):=HQ.out.trans (decide_eq_true aa);clear aa ag;go_wp2_with fail;go_ret;exact ⟨qao aj.out.symm,HE.out⟩
 ·have g0:(((n:Int)) != (m:Int))=true:=by simp;omega
  have aa:a≠b:=fun e=>hnm (by rw [HN.out,HM.out,e]);have af:Hid (q=false):=HQ.out.trans (decide_eq_false aa);go_enter Tryz.func26,Tryz.ntmps26;go_wp2_with fail;go_ret;exact ⟨qao af.out.symm,Ext.refl _⟩
abbrev Pts:=Int×List Smp
def PtAt (w:World) (B b o:Nat) (p:Pts):Prop:=
 w.cell? ⟨b,o,none⟩=some (.int .i64 p.1)∧∃sv,w.cell? ⟨b,o+1,none⟩=some sv∧Rd w B sv p.2∧Nz sv
theorem PtAt.below {w w':World} {B b o:Nat} {p:Pts} (h:PtAt w B b o p) (k:RowKit.Below B w w') (hb:b<B):PtAt w' B b o p:=by
 obtain ⟨h1,sv,h2,h3,h4⟩:=h;exact ⟨(k.cell hb).trans h1,sv,(k.cell hb).trans h2,h3.below k,h4⟩
theorem PtAt.mono {w:World} {B B' b o:Nat} {p:Pts} (h:PtAt w B b o p) (k:B<=B'):PtAt w B' b o p:=by
 obtain ⟨h1,sv,h2,h3,h4⟩:=h;exact ⟨h1,sv,h2,h3.mono k,h4⟩
def RdP (w:World) (B:Nat) (v:Value) (l:List Pts):Prop:=
 ∃A c,v=.slice A l.length c∧l.length<=c∧(l=[]∨∃b o,A=some ⟨b,o,none⟩∧b<B∧∀i (h:i<l.length),PtAt w B b (o+i*2) l[i])
theorem RdP.below {w w':World} {B:Nat} {v:Value} {l:List Pts} (h:RdP w B v l) (k:RowKit.Below B w w'):RdP w' B v l:=by
 obtain ⟨A,c,h1,h2,h3⟩:=h;exact ⟨A,c,h1,h2,h3.imp id fun ⟨b,o,e,hb,hc⟩=>⟨b,o,e,hb,fun i hi=>(hc i hi).below k hb⟩⟩
theorem RdP.mono {w:World} {B B':Nat} {v:Value} {l:List Pts} (h:RdP w B v l) (k:B<=B'):RdP w B' v l:=by
 obtain ⟨A,c,h1,h2,h3⟩:=h;exact ⟨A,c,h1,h2,h3.imp id fun ⟨b,o,e,hb,hc⟩=>⟨b,o,e,Nat.lt_of_lt_of_le hb k,fun i hi=>(hc i hi).mono k⟩⟩
theorem RdP.on {w w':World} {v:Value} {l:List Pts} (h:RdP w w.heap.size v l) (k:RowKit.Below w.heap.size w w'):RdP w' w'.heap.size v l:=(h.below k).mono k.size
def qeX (l:List Pts):Prop:=l.length<=1000000∧∀p ∈ l,p.2.length<=1000000
theorem qfc {a b:List Pts} {k:Nat} {x y:Pts} (ha:k<a.length) (hb:k<b.length) (hx:x=a[k]) (hy:y=b[k]) (h:a.take k=b.take k):(a.take (k+1)=b.take (k+1))↔x=y:=by
 rw [List.take_succ_eq_append_getElem ha,List.take_succ_eq_append_getElem hb,h,<-hx,<-hy];simp
theorem qbQ (va vb:Value) (a b:List Pts) (W:World) (hRa:RdP W W.heap.size va a) (hRb:RdP W W.heap.size vb b) (hla:qeX a):
  Calls Tryz.prog 15 #[va,vb] W fun e w'=>e=.returned (.bool (decide (a=b)))∧Ext W w':=by
 obtain ⟨A,ca,rfl,aq,hA⟩:=hRa;obtain ⟨B,cb,rfl,au,hB⟩:=hRb;have HA:=Lib.hid hA;have HB:=Lib.hid hB;have HL:=Lib.hid hla;obtain ⟨q,hq⟩:∃q,q=decide (a=b):=⟨_,rfl⟩;have HQ:Hid (q=decide (a=b)):=hq;rw [<-hq];have aj:=hla.1;clear hq hA hB aq au hla;obtain ⟨n,hn⟩:∃n,n=a.length:=⟨_,rfl⟩;obtain ⟨m,hm⟩:∃m,m=b.length:=⟨_,rfl⟩;rw [<-hn] at aj ⊢;rw [<-hm];have HN:Hid (n=a.length):=hn;have HM:Hid (m=b.length):=hm;clear hn hm;by_cases hnm:n=m
 ·subst hnm;have g0:(((n:Int)) != (n:Int))=false:=by simp
  go_enter Tryz.func15,Tryz.ntmps15;go_wp2_with fail
  go_loopw [5,6] (fun i _ wl=>∃k:Nat,k<=n∧i=.int .i64 k∧Hid (a.take k=b.take k)∧Hid (Ext W wl))
   (fun i _ _=>n-(intOf i).toNat)
  case atStart=>exact ⟨0,Nat.zero_le _,rfl,rfl,Ext.refl _⟩
  case round =>
   obtain ⟨k,hk,rfl,HT,HE⟩:=hrel;by_cases hlt:k<n
   ·have ab:k<a.length:=(by rw [<-HN.out];exact hlt);have ac:k<b.length:=(by rw [<-HM.out];exact hlt);rcases HA.out with h0|⟨b1,o1,e,ax,ag⟩
    ·subst h0;simp at ab
    rcases HB.out with h0|⟨b2,o2,e',aw,ae⟩
    ·subst h0;simp at ac
    subst e e';obtain ⟨x,hx⟩:∃x,x=a[k]:=⟨_,rfl⟩;obtain ⟨y,hy⟩:∃y,y=b[k]:=⟨_,rfl⟩;obtain ⟨c0,sx,c1,ap,_⟩:PtAt wr W.heap.size b1 (o1+k*2) x:=(by rw [hx];exact (ag k ab).below HE.out.below ax);obtain ⟨d0,sy,d1,an,_⟩:PtAt wr W.heap.size b2 (o2+k*2) y:=(by rw [hy];exact (ae k ac).below HE.out.below aw);have HF:Hid ((a.take (k+1)=b.take (k+1))↔x=y):=qfc ab ac hx hy HT.out;have ao:x.2.length*32<=140737488355328:=by
     have :=HL.out.2 x (by rw [hx];exact List.getElem_mem ab);omega
    obtain ⟨p,hp⟩:∃p,p=decide (x.2=y.2):=⟨_,rfl⟩;have KS:Hid (∀w',Ext wr w'->Calls Tryz.prog 47 #[sx,sy] w' fun e w''=>e=.returned (.bool p)∧Ext w' w''):=fun w' h=>by
     rw [hp];have am:=HE.out.size;have af:=h.size;exact qlq sx sy x.2 y.2 w' ((ap.mono am).below h.below |>.mono af) ((an.mono am).below h.below |>.mono af) ao
    have HP:Hid (p=decide (x.2=y.2)):=hp;have KC:Hid (∀w',Ext wr w'->w'.cell? ⟨b1,o1+k*2+1,none⟩=some sx∧w'.cell? ⟨b2,o2+k*2+1,none⟩=some sy∧w'.cell? ⟨b1,o1+k*2,none⟩=some (.int .i64 x.1)∧w'.cell? ⟨b2,o2+k*2,none⟩=some (.int .i64 y.1)):=fun w' h=>⟨h.cell_some c1,h.cell_some d1,h.cell_some c0,h.cell_some d0⟩;have av:=Ext.refl wr;clear hp hx hy ag ae ap an ao;have i1:(k:Int)<(n:Int):=(by omega);go_wp2_with fail
    go_region_held3 (fun w'=>w'.cell? ⟨b1,o1+k*2+1,none⟩=some sx∧w'.cell? ⟨b2,o2+k*2+1,none⟩=some sy∧w'.cell? ⟨b1,o1+k*2,none⟩=some (.int .i64 x.1)∧w'.cell? ⟨b2,o2+k*2,none⟩=some (.int .i64 y.1)∧Ext wr w')
     (first|assumption|(have hd:=Ext.drew (by assumption:Ext wr _);exact ⟨(KC.out _ hd).1,(KC.out _ hd).2.1,(KC.out _ hd).2.2.1,(KC.out _ hd).2.2.2,hd⟩)|exact ⟨by assumption,by assumption,by assumption,by assumption,by assumption⟩)
     (first|(go_at_call 47;refine (KS.out _ (by first|assumption|exact Ext.drew (by assumption))).mono ?_;rintro e w' ⟨rfl,hN⟩;have hN:=Ext.trans (by first|assumption|exact Ext.drew (by assumption)) hN;obtain ⟨c1',d1',c0',d0'⟩:=KC.out _ hN))
    have ai:Hid (Ext W _):=HE.out.trans hN;clear c0 c1 d0 d1 c1' d1' av KC KS;cases p with
    | true =>
      have ah:x.2=y.2:=of_decide_eq_true HP.out.symm;by_cases hid:x.1=y.1
      ·have al:Hid (a.take (k+1)=b.take (k+1)):=HF.out.2 (Prod.ext hid ah);rw [hid] at c0';clear HF HP ah;go_wp2_with fail
       go_quiet (fail)
       go_wp2_with fail;go_roundw
       case rel=>first|exact ⟨k+1,by omega,by go_num,al,ai.out.drewN nq⟩|((repeat apply Exists.intro);exact ⟨⟨k+1,by omega,by go_num,al,ai.out.drewN nq⟩,rfl⟩)
       case measure=>simp [intOf];omega
      ·have aa:a≠b:=fun e=>hid (by rw [HF.out.1 (by rw [e])]);have ad:Hid (q=false):=HQ.out.trans (decide_eq_false aa);have g1:((x.1:Int) != y.1)=true:=(by simp [hid]);clear HF HP aa;go_wp2_with fail
       go_quiet (fail)
       go_wp2_with fail;go_ret;exact ⟨qao ad.out.symm,ai.out.drewN nq⟩
    | false =>
      have aa:a≠b:=fun e=>of_decide_eq_false HP.out.symm (by rw [HF.out.1 (by rw [e])]);have ad:Hid (q=false):=HQ.out.trans (decide_eq_false aa);clear HF HP aa;go_wp2_with fail
      go_quiet (fail)
      go_wp2_with fail;go_ret;exact ⟨qao ad.out.symm,ai.out.drewN nq⟩
   ·have ak:k=n:=(by omega);have aa:a=b:=by
     have :=HT.out
     rwa [ak,HN.out,List.take_length,<-HN.out,HM.out,List.take_length] at this
    have ar:Hid (q=true):=HQ.out.trans (decide_eq_true aa);clear aa ak;go_wp2_with fail;go_ret;exact ⟨qao ar.out.symm,HE.out⟩
 ·have g0:(((n:Int)) != (m:Int))=true:=by simp;omega
  have aa:a≠b:=fun e=>hnm (by rw [HN.out,HM.out,e]);have ad:Hid (q=false):=HQ.out.trans (decide_eq_false aa);go_enter Tryz.func15,Tryz.ntmps15;go_wp2_with fail;go_ret;exact ⟨qao ad.out.symm,Ext.refl _⟩
end Go.Proofs.YtnkelahimiipjaaGreatDoor
