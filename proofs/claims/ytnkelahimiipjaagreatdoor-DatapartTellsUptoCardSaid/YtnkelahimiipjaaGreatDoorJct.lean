/-
 datapart.Open: the loop over the frames.
-/
import Derived.Test.YtnkelahimiipjaaGreatDoorJbt
import Derived.Test.YtnkelahimiipjaaGreatDoorHut
import Derived.Test.YtnkelahimiipjaaGreatDoorDbt
import Derived.Test.YtnkelahimiipjaaGreatDoorJrt
import Derived.Test.YtnkelahimiipjaaGreatDoorHpt
import Derived.Test.YtnkelahimiipjaaGreatDoorMmt
set_option maxRecDepth 100000
set_option maxHeartbeats 8000000
namespace Go.Proofs.YtnkelahimiipjaaGreatDoor
open Go.RowKit Go.Sort
attribute [local go_sem] Oper.semAt_some
def OpnR (W:World) (b:List Nat) (e:Ending) (w':World):Prop:=
 Below W.heap.size W w'∧((qci b=none∧e=.returned (.tuple #[.pointer none,.int .i64 170]))∨∃c pb hb pv hv,qci b=some c∧e=.returned (.tuple #[.pointer (some ⟨pb,0,none⟩),.int .i64 0])∧qdG w' pb hb pv∧W.heap.size<=pb∧w'.cell? ⟨hb,0,none⟩=some hv∧RdO w' W.heap.size pv c∧RdP w' w'.heap.size hv (qae c))
theorem qeL {b:List Nat} (h:qbs (b.length+1) b=none):qci b=none:=by unfold qci;rw [h]
theorem qjh {b:List Nat} {l:List Pts} (h:qbs (b.length+1) b=some l):qci b=if qaS (qag l)=(0,b) then some (qag l) else none:=by unfold qci;rw [h]
theorem qpJ (v:Value) (b:List Nat) (W:World) (hT:TabH W) (hR:RdG EB W W.heap.size v b) (h8:∀c ∈ b,c<256) (hb:b.length<=10000000):
  Calls Tryz.prog 41 #[v] W fun e w'=>∃A n c A2 n2 c2,e=.returned (.tuple #[.int .i64 ((qap b).2.1:Int),.slice A n c,.slice A2 n2 c2,.int .i64 (qap b).1])∧Below W.heap.size W w'∧((qap b).1=0->RdG EB w' w'.heap.size (.slice A n c) (qap b).2.2.1∧OwnG EB 5 w' W.heap.size (.slice A2 n2 c2) (qap b).2.2.2):=by
 refine Calls.mono (qmh v b W hT hR h8 hb) ?_;rintro e w' ⟨bv,rv,rfl,hB,hO⟩
 split at hO
 case isTrue h=>
  obtain ⟨A,c,rfl,_⟩:=id hO.1;obtain ⟨A2,n2,c2,rfl⟩:=hO.2.sl;exact ⟨A,_,c,A2,n2,c2,rfl,hB,fun _=>hO⟩
 case isFalse h=>
  obtain ⟨rfl,rfl⟩:=hO;exact ⟨none,0,0,none,0,0,rfl,hB,fun h'=>absurd h' h⟩
theorem qko (v : Value) (b : List Nat) (W : World) (T : Tabs W) (hT : TabT W) (hH : TabH W) (hR : RdG EB W W.heap.size v b) (h8 : ∀ c ∈ b, c < 256) (hl : b.length <= 240000) :
  Calls Tryz.prog 13 #[v] W fun e w'=>OpnR W b e w':=by
 have hr:Tryz.f13.results= #[.tmp 2,.tmp 3]:=by kernel_rfl
 have HR:=Lib.hid hR;have H8:=Lib.hid h8;have HT:=Lib.hid hT;have HH:=Lib.hid hH;have ew:=Lib.hid T;obtain ⟨A,c,rfl,_⟩:=hR;obtain ⟨N,hN⟩:∃N,N=b.length:=⟨_,rfl⟩;rw [<-hN] at HR hl ⊢;have HN:=Lib.hid hN;have gw:Fence.wide.fn 41:=trivial;have gp:Fence.wide.fn 42:=trivial;have gs:Fence.wide.fn 43:=trivial;have gn:Fence.wide.fn 11:=trivial;have gm:Fence.wide.fn 44:=trivial;have gu:Fence.wide.fn 32:=trivial;clear T hT hH h8 hN;refine (callsIn_wide (n:=40)).1 ?_;refine callsIn_of_wp_marks Tryz.func13 rfl trivial ?_ rfl;simp only [Tryz.ntmps13,List.size_toArray,List.length_cons,List.length_nil,Nat.reduceAdd,Nat.reduceSub,Array.replicate_succ,Array.replicate_zero,List.push_toArray,List.append_toArray,List.nil_append,List.cons_append];gi_wp2_with fail
 gi_loopw [4,5] (fun av rv wl=>∃(f:Nat) (pre:List Pts) (csx:List PtX) (rest:List Nat) (Aa:Option Addr) (ca:Nat) (Ar:Option Addr) (nr cr:Nat),av=.slice Aa pre.length ca∧rv=.slice Ar nr cr∧Hid (nr=rest.length)∧Hid (PtsO wl W.heap.size (.slice Aa pre.length ca) csx pre)∧Hid (RdG EB wl wl.heap.size (.slice Ar nr cr) rest)∧Hid (qbs (b.length+1) b=(qbs f rest).map (fun l=>pre++l))∧Hid (rest.length<f)∧Hid (rest.length<=N∧(∀c ∈ rest,c<256)∧pre.length+rest.length<=N)∧Hid (Below W.heap.size W wl))
  (fun _ rv _=>qh0 rv)
 case atStart=>exact ⟨b.length+1,[],[],b,none,0,A,N,c,rfl,rfl,HN.out,PtsO.nil _ _,HR.out,by show _=_;cases qbs (b.length+1) b<;>simp,Nat.lt_succ_self _,⟨by rw [HN.out];exact Nat.le_refl _,H8.out,by rw [HN.out];simp⟩,Below.refl _ _⟩
 case round =>
  obtain ⟨f,pre,csx,rest,Aa,ca,Ar,nr,cr,rfl,rfl,fo,HP,fz,HE,HF,HL,HB⟩:=hrel;have KX:Hid (CallsIn Fence.wide 39 Tryz.prog 41 #[.slice Ar nr cr] wr _):=callsIn_wide.2 (qpJ _ rest wr (TabH.below HH.out HB.out) fz.out HL.out.2.1 (by have :=HL.out.1;omega));obtain ⟨er,ba⟩:∃er,er=(qap rest).1:=⟨_,rfl⟩;obtain ⟨kd,bg⟩:∃kd,kd=(qap rest).2.1:=⟨_,rfl⟩;rw [<-ba,<-bg] at KX;obtain ⟨g,dw⟩:∃g,f=g+1:=⟨f-1,by have :=HF.out;omega⟩;have cl:=Lib.hid dw;have f5:Hid (pre.length<=240000):=by have :=HL.out.2.2;show _<=_;omega
  have fi:=f5.out;clear dw;by_cases e1:er=0
  ·subst e1
   have cz:Hid ((qap rest).1=0):=ba.symm;by_cases e2:kd=3
   ·subst e2;have ej:Hid ((qap rest).2.1=3):=bg.symm;clear ba bg;gi_wp2_with fail;refine KX.out.mono ?_;rintro e w2 ⟨Ab,nb,cb,A2,n2,c2,rfl,ao,dx⟩;obtain ⟨eq,ep⟩:=dx (by first|rfl|trivial);have cd:=qeU cz.out;have dz:=HL.out.2.1;have ac:Below W.heap.size W w2:=HB.out.trans (ao.mono HB.out.size);have KP:Hid (CallsIn Fence.wide 39 Tryz.prog 42 #[.slice Ab nb cb] w2 _):=callsIn_wide.2 (qj8 _ _ w2 (fun i hi=>(ac.cell (qaa (HT.out i hi))).trans (HT.out i hi)) eq (fun c hc=>dz c (cd.2.2.1 c hc)) (by have :=cd.2.1;omega));have al:=Lib.hid ac;have fe:=Lib.hid (HP.out.on ao);have ea:=Lib.hid ep;have eu:=Lib.hid cd;clear ao dx eq ep cd dz ac KX;gi_wp2_with fail;refine KP.out.mono ?_;rintro e w3 ⟨bk,⟨hn,rfl⟩|⟨p,A3,n3,c3,hp,rfl,b2⟩⟩
    ·have HV:Hid (qci b=none):=qeL (by rw [HE.out,cl.out,qiX cz.out ej.out hn];rfl);have ey:Hid (Below W.heap.size W w3):=al.out.trans (bk.mono al.out.size);clear hn bk KP;gi_wp2_with fail;exact ⟨.tuple #[.pointer none,.int .i64 170],by unfold results;rw [hr];go_simp,ey.out.alloc ey.out.size _,.inl ⟨HV.out,rfl⟩⟩
    ·obtain ⟨pid,ps⟩:=p;dsimp only;have bm:=fe.out.on bk;have bq:=Lib.hid bm;have fv:Hid (Own w3 W.heap.size 66 (.slice A3 n3 c3) ps):=b2.lower al.out.size;have ad:Hid (Below W.heap.size W w3):=al.out.trans (bk.mono al.out.size);have b3:=Lib.hid (ea.out.below bk);have hC:=CellG.mk (E:=EP) (w:=w3.alloc (.cells #[.int .i64 pid,.slice A3 n3 c3] 62)) (cs:= #[.int .i64 pid,.slice A3 n3 c3]) (x:=(pid,A3,n3,c3)) rfl 62;rw [World.size_alloc] at hC;have HC:=Lib.hid hC;have cq:(csx.length+1)*32<=140737488355328:=(by rw [bm.len];omega);have f7:=Lib.hid cq;have ee:Hid (W.heap.size<=((w3.alloc (.cells #[.int .i64 pid,.slice A3 n3 c3] 62)).alloc (.cells #[.int .i64 pid,.slice A3 n3 c3] 62)).heap.size):=(by have :=ad.out.size;show _<=_;simp;omega);have fm:Hid (qbs (b.length+1) b=(qbs g (qap rest).2.2.2).map (fun l=>(pre++[(pid,ps)])++l)):=by
      show _=_;rw [HE.out,cl.out,qfp cz.out ej.out hp,Option.map_map];congr 1;funext l;simp
     clear bm b2 hC cq bk hp KP;gi_wp2_with (first|(gi_at_builtin;refine qgB EP rfl _ _ 22 62 rfl Tryz.underlying22 qgS rfl (by decide) W.heap.size _ csx (pid,A3,n3,c3) rfl ((bq.out.row.alloc _).alloc _) _ 0 1 rfl HC.out f7.out ee.out ?_)|fail);intro v4 w4 aa hg ah;have a0:Below w3.heap.size w3 ((w3.alloc (.cells #[.int .i64 pid,.slice A3 n3 c3] 62)).alloc (.cells #[.int .i64 pid,.slice A3 n3 c3] 62)):=((Below.refl _ w3).alloc (Nat.le_refl _) _).alloc (by simp) _;have d7:=(bq.out.on a0).push (x:=(pid,A3,n3,c3)) (p:=(pid,ps)) rfl (fv.out.below a0) aa hg;have fp:Hid (Below W.heap.size W w4):=(bq.out.row.below a0).step (ad.out.trans (a0.mono ad.out.size)) ee.out hg;have df:Hid (RdG EB w4 w4.heap.size (.slice A2 n2 c2) (qap rest).2.2.2):=((b3.out.below a0).kept hg (qeO (b3.out.below a0) (bq.out.row.below a0) (by decide))).rd;obtain ⟨A5,n5,c5,e5⟩:=aa.sl;subst e5;have e6:=aa.len;have e7:n5=(pre++[(pid,ps)]).length:=(by rw [e6,List.length_append,List.length_append,bq.out.len];rfl);subst e7;have f4:=Lib.hid d7;have d3:Hid (n2=(qap rest).2.2.2.length):=ea.out.len;have fw:=eu.out.1;have dv:=fo.out;have gh:Hid (n2<nr):=(by show _<_;rw [d3.out,dv];omega);have cj:Hid ((qap rest).2.2.2.length<=N∧(∀c ∈ (qap rest).2.2.2,c<256)∧(pre++[(pid,ps)]).length+(qap rest).2.2.2.length<=N):=by
      refine ⟨by have :=HL.out.1;omega,fun c hc=>HL.out.2.1 c (eu.out.2.2.2 c hc), ?_⟩;rw [List.length_append,List.length_singleton];have :=HL.out.2.2;omega
     have fc:Hid ((qap rest).2.2.2.length<g):=(by have :=HF.out;have :=cl.out;show _<_;omega);clear aa hg ah a0 d7 e6 fw dv;gi_wp2_with fail;go_roundw
     case rel=>exact ⟨g,pre++[(pid,ps)],csx++[(pid,A3,n3,c3)],(qap rest).2.2.2,A5,c5,A2,n2,c2,rfl,rfl,d3.out,f4.out,df.out,fm.out,fc.out,cj.out,fp.out⟩
     case measure=>exact gh.out
   ·have g2 : ((kd : Int) == 3) = false := by simp; omega
    have bu:Hid (qbs (b.length+1) b=some pre):=by
     show _=_;rw [HE.out,cl.out,qiz ba.symm (by rw [<-bg];exact e2)];simp
    have fu:=Lib.hid (qed _ _ _ bu.out);clear ba bg e2;gi_wp2_with fail;refine KX.out.mono ?_;rintro e w2 ⟨Ab,nb,cb,A2,n2,c2,rfl,ao,_⟩;obtain ⟨hb,cf⟩:∃hb,hb=w2.heap.size:=⟨_,rfl⟩;obtain ⟨w3,b6⟩:∃w3,w3=w2.alloc (.cells #[.slice none 0 0] 89):=⟨_,rfl⟩;have a1:Below w2.heap.size w2 w3:=(by rw [b6];exact (Below.refl _ _).alloc (Nat.le_refl _) _);have bx:Boxed w3 hb 89 (.slice none 0 0):=(by rw [b6];exact qaw _ _ _ cf.symm);have ac:Below W.heap.size W w2:=HB.out.trans (ao.mono HB.out.size);have a6:Below W.heap.size W w3:=ac.trans (a1.mono ac.size);have bm:=(HP.out.on ao).on a1;have b9:=fu.out;have ev:=qgO (l:=pre) (fun p hp=>(b9.2 p hp).2.2);have KC:Hid (CallsIn Fence.wide 39 Tryz.prog 43 #[.slice Aa pre.length ca] w3 _):=callsIn_wide.2 (qh7 _ pre w3 (ew.out.below a6) bm.rdP (fun p hp=>qnK (b9.2 p hp).1 (b9.2 p hp).2.1) (by omega) (by omega));have gd:=Lib.hid b6;have fx:=Lib.hid cf;have bo:=Lib.hid bx;have ad:=Lib.hid a6;have gc:=Lib.hid ev;have f9:W.heap.size<=hb:=(by rw [cf];exact ac.size);clear b6 cf bx ao a1 ac a6 bm b9 ev KX;gi_wp2_with fail;rw [<-gd.out,<-fx.out];refine KC.out.mono ?_;rintro e w4 ⟨r,rfl,ci,ce⟩;obtain ⟨c0,bs⟩:∃c0,c0=qag pre:=⟨_,rfl⟩;have dm:c0.length<=990000000∧qad c0<=990000000:=by
     have h1:=qbg pre;have h2:=qaZ pre;have h3:=gc.out;rw [bs];omega
    rw [<-bs] at ci;have ds:Clean c0:=(by rw [bs];exact qaj pre);obtain ⟨A4,cr4,e4,_⟩:=id ci;obtain ⟨n4,dl⟩:∃n4,n4=c0.length:=⟨_,rfl⟩;rw [<-dl] at e4;subst e4;obtain ⟨pb,b4⟩:∃pb,pb=w4.heap.size:=⟨_,rfl⟩;obtain ⟨w5,br⟩:∃w5,w5=w4.alloc (.cells #[.pointer (some ⟨hb,0,none⟩),.slice A4 n4 cr4] 91):=⟨_,rfl⟩;obtain ⟨w6,b5⟩:∃w6,w6=w5.alloc (.cells #[.pointer (some ⟨pb,0,none⟩)] 29):=⟨_,rfl⟩;have a7:Below w4.heap.size w4 w5:=(by rw [br];exact (Below.refl _ _).alloc (Nat.le_refl _) _);have bb:Below w5.heap.size w5 w6:=(by rw [b5];exact (Below.refl _ _).alloc (Nat.le_refl _) _);have ct:w5.heap.size=pb+1:=(by rw [br,b4];simp);have ax:Below w4.heap.size w4 w6:=a7.trans (bb.mono a7.size);have b8:w6.heap[pb]? =some (.cells #[.pointer (some ⟨hb,0,none⟩),.slice A4 n4 cr4] 91 (0,0)):=(bb.block pb (by omega)).trans (by rw [br,b4];exact heap_alloc_new w4 _);have cv:Boxed w6 (pb+1) 29 (.pointer (some ⟨pb,0,none⟩)):=(by rw [b5];exact qaw _ _ _ ct);have bt:Boxed w6 hb 89 (.slice none 0 0):=qat (qat bo.out ce) ax;have a5:Below W.heap.size W w4:=ad.out.trans (ce.mono ad.out.size);have am:Below W.heap.size W w6:=a5.trans (ax.mono a5.size);have dp:RdO w6 W.heap.size (.slice A4 n4 cr4) c0:=(ci.lower ad.out.size).on ax;have gq:hb<pb:=by
     have h1:=bo.out.lt;have h2:=ce.size;omega
    have KB:Hid (CallsIn Fence.wide 39 Tryz.prog 11 #[.slice A4 n4 cr4] w6 _):=callsIn_wide.2 (qcJ _ c0 w6 (ew.out.below am) (fun i hi=>(am.cell (qaa (HT.out i hi))).trans (HT.out i hi)) (TabH.below HH.out am) dp.rdP (fun p hp=>by
     have h3:=ds.inr p hp;unfold inR at h3;rw [Bool.and_eq_true,decide_eq_true_eq,decide_eq_true_eq] at h3;exact qnK (by omega) (by omega)) dm.1 dm.2)
    have f3:=cv.cell;have gi:w6.cell? ⟨pb,0,none⟩=some (.pointer (some ⟨hb,0,none⟩)):=(by simp [World.cell?,b8]);have b7:w6.cell? ⟨pb,1,none⟩=some (.slice A4 n4 cr4):=(by simp [World.cell?,b8]);have ek:=Lib.hid b8;have fy:=Lib.hid cv;have dr:=Lib.hid bt;have bv:=Lib.hid am;have ge:=Lib.hid dp;have c1:=Lib.hid ds;have fq:=Lib.hid br;have ga:=Lib.hid b5;have fl:=Lib.hid b4;have fd:=Lib.hid bs;have gr:=Lib.hid dl;have go:=Lib.hid ct;clear ci ce dm ds bs dl b4 br b5 a7 bb ct ax b8 cv bt a5 am dp KC;gi_wp2_with fail;rw [<-fl.out,<-fq.out,<-ga.out];refine KB.out.mono ?_;rintro e w7 ⟨v7,rfl,db,bi⟩;obtain ⟨A7,n7,c7,rfl⟩:=db.sl;have an:Hid (Below W.heap.size W w7):=bv.out.trans (bi.mono bv.out.size);have ez:=Lib.hid (qat fy.out bi);have ar:Hid (w7.heap[pb]? =some (.cells #[.pointer (some ⟨hb,0,none⟩),.slice A4 n4 cr4] 91 (0,0))):=(bi.block pb (Array.getElem?_eq_some_iff.1 ek.out).1).trans ek.out;have da:=Lib.hid (qat dr.out bi);have f6:=Lib.hid (ge.out.on bi);have d8:=Lib.hid db.rd;have dt:=Lib.hid (qjN (c:=c0));obtain ⟨bc,a2⟩:∃bc,bc=(qaS c0).1:=⟨_,rfl⟩;obtain ⟨bw,cu⟩:∃bw,bw=(qaS c0).2:=⟨_,rfl⟩;rw [<-cu] at d8 dt;rw [<-a2];have ec:Hid (qaS c0=(bc,bw)):=(by show _=_;rw [a2,cu]);have a4:=qjh bu.out;rw [<-fd.out,ec.out] at a4;clear db bi a2 cu KB f3 gi b7;by_cases g3:bc=0
    ·subst g3;have KE:Hid (CallsIn Fence.wide 39 Tryz.prog 44 #[.slice A7 n7 c7,.slice A N c] w7 _):=callsIn_wide.2 (qgL _ _ bw b w7 d8.out (HR.out.on an.out) dt.out H8.out);by_cases g4:bw=b
     ·subst g4;rw [decide_eq_true rfl] at KE;have HV:Hid (qci bw=some c0):=by
       show _=_;rw [a4,if_pos rfl]
      have KS:∀w,CallsIn Fence.wide 39 Tryz.prog 32 #[.slice A4 n4 cr4] w fun e w'=>e=.returned (.func (.func 61) #[] #[.pointer (some ⟨w.heap.size,0,none⟩)])∧w'=w.alloc (.cells #[.slice A4 n4 cr4] 22):=fun w=>callsIn_wide.2 (qe4 A4 n4 cr4 w);clear a4;gi_wp2_with fail;refine KE.out.mono ?_;rintro e w8 ⟨rfl,a9⟩;have a9:=a9.symm;subst a9;have cx:=ez.out.cell;have cp0:w7.cell? ⟨pb,0,none⟩=some (.pointer (some ⟨hb,0,none⟩)):=(by have h:=ar.out;simp [World.cell?,h]);have cp1:w7.cell? ⟨pb,1,none⟩=some (.slice A4 n4 cr4):=(by have h:=ar.out;simp [World.cell?,h]);have HC:=Lib.hid (And.intro cx (And.intro cp0 cp1));clear KE;gi_wp2_with fail;refine (KS _).mono ?_;rintro e w9 ⟨rfl,a3⟩;have f1:=Lib.hid a3;clear a3 KS;gi_wp2_with fail;obtain ⟨cb9,aj⟩:∃cb9,cb9=w7.heap.size:=⟨_,rfl⟩;have a3:=f1.out;have ai:Below w7.heap.size w7 w9:=(by rw [a3];exact (Below.refl _ _).alloc (Nat.le_refl _) _);have gv:w9.heap.size=cb9+1:=(by rw [a3,aj];simp);have ff:Boxed w9 cb9 22 (.slice A4 n4 cr4):=(by rw [a3];exact qaw _ _ _ aj.symm);have ap:Below W.heap.size W w9:=an.out.trans (ai.mono an.out.size);have eo:=qat ez.out ai;have dc:=qat da.out ai;have d4:w9.heap[pb]? =some (.cells #[.pointer (some ⟨hb,0,none⟩),.slice A4 n4 cr4] 91 (0,0)):=(ai.block pb (Array.getElem?_eq_some_iff.1 ar.out).1).trans ar.out;have dy:=f6.out.on ai;have e9:hb<w9.heap.size:=dc.lt;have ck:∀g cc z,w9.heap[g]? =some (.cells cc 66 z)->GdO hb w9 g:=fun g cc z h=>⟨_,h,.inr rfl⟩
      have cg:∀g cc z,w9.heap[g]? =some (.cells cc 62 z)->GdO hb w9 g:=fun g cc z h=>⟨_,h,.inr rfl⟩;have f0:¬GdO hb w9 hb:=by
       rintro ⟨o,ho,h|h⟩
       ·omega
       ·rw [show w9.heap[hb]? =_ from dc] at ho;cases ho;cases h
      have fj:TabT w9:=fun i hi=>(ap.cell (qaa (HT.out i hi))).trans (HT.out i hi);have fk:GdO hb w9 0:=by
       have h1:=qaa (HT.out 0 (by decide));have h1:0<W.heap.size:=h1;exact ⟨_,Array.getElem?_eq_getElem (by omega),.inl (by omega)⟩
      obtain ⟨gt,fr,es⟩:=qgp ec.out;have gg:GdO hb w9 (pb+1):=⟨_,eo,.inr rfl⟩;have gb:GdO hb w9 pb:=⟨_,d4,.inr rfl⟩;have c4:=Lib.hid gg;have di:=Lib.hid gb;have eg:=Lib.hid eo;have co:=Lib.hid d4;have fa:=Lib.hid dy;have ft:=Lib.hid ap;have d6:=Lib.hid f0;have el:=Lib.hid e9;have d5:=Lib.hid f9;have gj:Hid (HdI W w9 hb c0 (.slice none 0 0) [] w9):=⟨dc,OwnG.nil _ _,StJ.refl _ _,ap,rfl,fun x hx=>by cases hx⟩;have ei:Hid (qad c0<=2000):=(by rw [fr] at es;exact es);have dd:=Lib.hid (qbT c1.out ei.out);have f2:=Lib.hid aj;have eh:W.heap.size<=w9.heap.size:=ap.size;rw [<-aj];clear aj a3 cx cp0 cp1;refine qhN (kt:=ktO) (Z:=hb) (N:=(qae c0).length) (F:=Fence.wide) (n:=40) rfl (by omega) (gf:=61) (lb:= #[.pointer (some ⟨cb9,0,none⟩)]) (by simp [Act.eval]) trivial (enters_of Tryz.func61 (by kernel_rfl) rfl) (encs:=encH) (New:=NewJ (GdO hb w9) w9 c0) (S:=fun xs=>xs.map (fun x=>x.1)=qae c0) (Sp:=fun _=>True) (w0:=w9) (by omega)
       (qeA (GdO hb w9) ktO rfl hb 39 _ (.slice A4 n4 cr4) c0 w9 (by omega) ff.cell (by omega) (fun b h=>h.lt) GdO.keep (dy.rdJ ck cg) fj fk (qa3 c1.out ei.out) (qea c1.out)) (Below.refl _ _) (fun _=>rfl) (fun pre A1 B x l1 o h hl=>h.put hl o)
       (fun prx W1=>∃hv,HdI W w9 hb c0 hv prx W1) (fun _ _=>False) ?hI ?hIx ?h0 (fun x W9=> { tmps:= #[.slice A N c,undef,u2,u3,.slice Aa pre.length ca,.slice Ar nr cr,.int .i64 (kd:Int),.slice Ab nb cb,.slice A2 n2 c2,.int .i64 0,u10,u11,.pointer (some ⟨pb+1,0,none⟩),.slice A7 n7 c7,.int .i64 0,.pointer (some ⟨W9.heap.size,0,none⟩),.slice A N c,.tuple #[.int .i64 (kd:Int),.slice Ab nb cb,.slice A2 n2 c2,.int .i64 0],.slice Ar nr cr,.tuple #[.int .i64 (kd:Int),.slice Ab nb cb,.slice A2 n2 c2,.int .i64 0],.int .i64 (kd:Int),.slice Ab nb cb,.slice A2 n2 c2,.int .i64 0,.int .i64 0,.bool false,.int .i64 (kd:Int),.bool true,u28,u29,u30,u31,u32,u33,u34,u35,u36,u37,u38,u39,.agg #[.slice none 0 0],.pointer (some ⟨hb,0,none⟩),.slice Aa pre.length ca,.slice A4 n4 cr4,.agg #[.pointer (some ⟨hb,0,none⟩),.slice A4 n4 cr4],.pointer (some ⟨pb,0,none⟩),.tuple #[.slice A7 n7 c7,.int .i64 0],.pointer (some ⟨pb,0,none⟩),.pointer (some ⟨pb,0,none⟩),.pointer (some ⟨pb,1,none⟩),.slice A4 n4 cr4,.tuple #[.slice A7 n7 c7,.int .i64 0],.slice A7 n7 c7,.int .i64 0,.int .i64 0,.bool false,.bool false,.slice A7 n7 c7,.slice A N c,.bool true,.bool false,.bool false,.pointer (some ⟨pb,0,none⟩),.pointer (some ⟨pb,0,none⟩),.pointer (some ⟨pb,1,none⟩),.slice A4 n4 cr4,.func (.func 61) #[] #[.pointer (some ⟨cb9,0,none⟩)],.agg #[.int .i64 x.1.1,x.2.1],x.2.2,undef,undef,undef,undef,undef,undef,undef,undef,undef,undef,undef,undef,undef,undef,undef,undef,undef],defers:=[] }) (fun x W9=>W9.alloc (.cells #[.int .i64 x.1.1,x.2.1] 71)) ?cb ?ca ?cw ?assign ?body ?done ?stop
      case hI=>rintro s A1 l1 r o ⟨hv,h⟩ hl fb;exact ⟨hv,h.putLoop fb (by omega) eh o⟩
      case hIx=>intro s A1 l1 r o h;exact h.elim
      case h0=>intro B hB;exact ⟨_,gj.out.on hB⟩
      case cb=>intro x W9;exact (Below.refl _ _).alloc (Nat.le_refl _) _
      case ca=>intro x W9 l1 o;rw [World.putObj_size]
      case cw=>intro x W9 l1 o hl;exact qex hl _ _
      case assign=>
       rintro l1 x W9 K ⟨_,_,_,_,fs,_⟩ hK;obtain ⟨⟨pid,ps⟩,sv,bd⟩:=x;obtain ⟨As,cs,bj,_⟩:=fs;dsimp only at bj;subst bj;dsimp only [encH] at hK ⊢
       gi_wp2
       exact hK
      case body=>
       rintro l1 prx X W0 Wb cq gl ⟨hv,hI⟩ fi ag ⟨hx,dq,en,hO⟩;obtain ⟨As,cs,bj,_⟩:=id dq;obtain ⟨Wc,bp⟩:∃Wc,Wc=Wb.alloc (.cells #[.int .i64 X.1.1,.slice As X.1.2.length cs] 71):=⟨_,rfl⟩;obtain ⟨ab,ak⟩:∃ab,ab=Wb.heap.size:=⟨_,rfl⟩;have cn:=hI.on ag;have a2:Below Wb.heap.size Wb Wc:=(by rw [bp];exact (Below.refl _ _).alloc (Nat.le_refl _) _);have aq:=cn.on a2;obtain ⟨Ah,nh,ch,rfl⟩:=aq.own.sl;have c6:Wc.heap[ab]? =some (.cells #[.int .i64 X.1.1,.slice As X.1.2.length cs] 71 (0,0)):=(by rw [bp,ak];exact heap_alloc_new Wb _);have k0:Wc.cell? ⟨pb+1,0,none⟩=some (.pointer (some ⟨pb,0,none⟩)):=(aq.st.cell c4.out).trans eg.out.cell;have k1:Wc.cell? ⟨pb,0,none⟩=some (.pointer (some ⟨hb,0,none⟩)):=(aq.st.cell di.out).trans (by have h:=co.out;simp [World.cell?,h]);have k2:Wc.cell? ⟨hb,0,none⟩=some (.slice Ah nh ch):=aq.box.cell;have k3:Wc.cell? ⟨ab,0,none⟩=some (.int .i64 X.1.1):=(by simp [World.cell?,c6]);have k4:Wc.cell? ⟨ab,1,none⟩=some (.slice As X.1.2.length cs):=(by simp [World.cell?,c6]);have bf:=Lib.hid (And.intro k0 (And.intro k1 (And.intro k2 (And.intro k3 k4))));obtain ⟨wt,cm⟩:∃wt,wt=(Wc.alloc (.cells #[.int .i64 X.1.1,.slice As X.1.2.length cs] 71)).drew:=⟨_,rfl⟩;have ay:Below Wc.heap.size Wc wt:=(by rw [cm];exact ((Below.refl _ Wc).alloc (Nat.le_refl _) _).trans ((((Ext.refl (Wc.alloc (.cells #[.int .i64 X.1.1,.slice As X.1.2.length cs] 71))).drewN _).below).mono (by simp)));have c9:=aq.on ay;have et:=Lib.hid c9;have d2:=Lib.hid c9.own
       have dn:RdG EP wt wt.heap.size (.slice (some ⟨Wc.heap.size,0,none⟩) 1 1) [encX X]:=by
        rw [cm];exact (RdG.one1 (E:=EP) Wc 71 (by unfold encX;rw [bj];rfl)).on (((Ext.refl (Wc.alloc (.cells #[.int .i64 X.1.1,.slice As X.1.2.length cs] 71))).drewN _).below)
       have f8:Wc.heap.size=ab+1:=(by rw [bp,ak];simp);rw [f8] at dn;have du:=Lib.hid dn;have eb:Hid (w9.heap.size<=wt.heap.size):=Nat.le_trans aq.st.size ay.size;have cj:Hid (((prx.map encX).length+ [encX X].length)*32<=140737488355328):=by
        have h1:=dd.out.2.2;show _<=_;rw [List.length_map,List.length_singleton];omega
       have b7:pb+1<Wc.heap.size:=qaa k0;have de:w9.heap.size<=ab:=(by rw [ak];exact cn.st.size);have bl:Hid (pb+1<wt.heap.size∧pb<wt.heap.size∧ab<wt.heap.size):=(by have :=ay.size;show _∧_;omega);have dk:pb+1<w9.heap.size:=c4.out.lt;have bh:Hid ((Value.slice Ah nh ch).ownBlock≠some (pb+1)∧(Value.slice Ah nh ch).ownBlock≠some pb∧(Value.slice Ah nh ch).ownBlock≠some ab):=by
        refine ⟨fun e=> ?_,fun e=> ?_,fun e=> ?_⟩
        ·have :=(aq.own.blk e).1;omega
        ·have :=(aq.own.blk e).1;omega
        ·have :=(cn.own.blk e).2;omega
       have bn:Hid (pb+1≠hb∧pb≠hb∧ab≠hb):=(by show _∧_;omega);have az:Hid (wt.heap[pb+1]? =Wc.heap[pb+1]? ∧wt.heap[pb]? =Wc.heap[pb]? ∧wt.heap[ab]? =Wc.heap[ab]?):=⟨ay.block _ b7,ay.block _ (by omega),ay.block _ (by omega)⟩;have af:(World.drew Wc).heap[pb+1]? =Wc.heap[pb+1]? ∧(World.drew Wc).heap[pb]? =Wc.heap[pb]? ∧(World.drew Wc).heap[ab]? =Wc.heap[ab]? :=⟨rfl,rfl,rfl⟩;have e0:Hid (KpT ktO hb Wb wt):=(KpT.below a2 (by omega)).trans (KpT.below ay (by omega));have e3:=Lib.hid hx;have ed:=Lib.hid bj;have ef:=Lib.hid dq;have ex:=Lib.hid en;have d9:=Lib.hid cm;have kt2:wt.cell? ⟨hb,0,none⟩=some (.slice Ah nh ch):=(ay.cell (qaa k2)).trans k2;dsimp only;rw [bj,<-ak,<-bp];clear bp ak a2 c6 cn aq hI c9 dn cm ay dq en hO hx ag b7 de dk;gi_wp2_with fail;refine qbV ?_;refine wpIn_region_any (by kernel_rfl) ?_;change wpAnyIn _ _ _ _ _ _ _ _ _ (World.drew _);refine qaL (S:=fun w'=>w'.heap[pb+1]? =Wc.heap[pb+1]? ∧w'.heap[pb]? =Wc.heap[pb]? ∧w'.heap[ab]? =Wc.heap[ab]?) _ _ _ _ ?_
       refine heldIn_take (i := 0) (v := ?_) (by kernel_rfl) rfl (by kernel_rfl) (by kernel_rfl) (by kernel_rfl) (fun _ _ _ h => calm_panic h) ⟨Or.inl ⟨by rfl, ?_⟩, fun _ => rfl⟩ af ?_
       rotate_left
       · intro w' hS
         have c0 := (qaF hS.1 0).trans bf.out.1
         (go_simp <;> with_reducible rfl)
       refine heldIn_take (i := 1) (v := ?_) (by kernel_rfl) rfl (by kernel_rfl) (by kernel_rfl) (by kernel_rfl) (fun _ _ _ h => calm_panic h) ⟨Or.inl ⟨by rfl, ?_⟩, fun _ => rfl⟩ af ?_
       rotate_left
       · intro w' _
         (go_simp <;> with_reducible rfl)
       refine heldIn_take (i := 2) (v := ?_) (by kernel_rfl) rfl (by kernel_rfl) (by kernel_rfl) (by kernel_rfl) (fun _ _ _ h => calm_panic h) ⟨Or.inl ⟨by rfl, ?_⟩, fun _ => rfl⟩ af ?_
       rotate_left
       · intro w' _
         (go_simp <;> with_reducible rfl)
       refine heldIn_take (i := 3) (v := ?_) (by kernel_rfl) rfl (by kernel_rfl) (by kernel_rfl) (by kernel_rfl) (fun _ _ _ h => calm_panic h) ⟨Or.inl ⟨by rfl, ?_⟩, fun _ => rfl⟩ af ?_
       rotate_left
       · intro w' hS
         have c0 := (qaF hS.2.1 0).trans bf.out.2.1
         (go_simp <;> with_reducible rfl)
       refine heldIn_take (i := 4) (v := ?_) (by kernel_rfl) rfl (by kernel_rfl) (by kernel_rfl) (by kernel_rfl) (fun _ _ _ h => calm_panic h) ⟨Or.inl ⟨by rfl, ?_⟩, fun _ => rfl⟩ af ?_
       rotate_left
       · intro w' hS
         have c0 := (qaF hS.1 0).trans bf.out.1
         (go_simp <;> with_reducible rfl)
       refine heldIn_take (i := 5) (v := ?_) (by kernel_rfl) rfl (by kernel_rfl) (by kernel_rfl) (by kernel_rfl) (fun _ _ _ h => calm_panic h) ⟨Or.inl ⟨by rfl, ?_⟩, fun _ => rfl⟩ af ?_
       rotate_left
       · intro w' _
         (go_simp <;> with_reducible rfl)
       refine heldIn_take (i := 6) (v := ?_) (by kernel_rfl) rfl (by kernel_rfl) (by kernel_rfl) (by kernel_rfl) (fun _ _ _ h => calm_panic h) ⟨Or.inl ⟨by rfl, ?_⟩, fun _ => rfl⟩ af ?_
       rotate_left
       · intro w' _
         (go_simp <;> with_reducible rfl)
       refine heldIn_take (i := 7) (v := ?_) (by kernel_rfl) rfl (by kernel_rfl) (by kernel_rfl) (by kernel_rfl) (fun _ _ _ h => calm_panic h) ⟨Or.inl ⟨by rfl, ?_⟩, fun _ => rfl⟩ af ?_
       rotate_left
       · intro w' hS
         have c0 := (qaF hS.2.1 0).trans bf.out.2.1
         (go_simp <;> with_reducible rfl)
       refine heldIn_take (i := 8) (v := ?_) (by kernel_rfl) rfl (by kernel_rfl) (by kernel_rfl) (by kernel_rfl) (fun _ _ _ h => calm_panic h) ⟨Or.inl ⟨by rfl, ?_⟩, fun _ => rfl⟩ af ?_
       rotate_left
       · intro w' _
         (go_simp <;> with_reducible rfl)
       refine heldIn_take (i := 9) (v := ?_) (by kernel_rfl) rfl (by kernel_rfl) (by kernel_rfl) (by kernel_rfl) (fun _ _ _ h => calm_panic h) ⟨Or.inl ⟨by rfl, ?_⟩, fun _ => rfl⟩ af ?_
       rotate_left
       · intro w' _
         (go_simp <;> with_reducible rfl)
       refine heldIn_take (i := 11) (v := ?_) (by kernel_rfl) rfl (by kernel_rfl) (by kernel_rfl) (by kernel_rfl) (fun _ _ _ h => calm_panic h) ⟨Or.inl ⟨by rfl, ?_⟩, fun _ => rfl⟩ af ?_
       rotate_left
       · intro w' hS
         have c0 := (qaF hS.2.2 0).trans bf.out.2.2.2.1
         have c1 := (qaF hS.2.2 1).trans bf.out.2.2.2.2
         (go_simp <;> with_reducible rfl)
       refine qcI (i:=10) (j:=12) (by kernel_rfl) rfl rfl (fun K hK=> ?_) (fun K hK=> ?_)
       ·go_simp
        refine hK _ _ af ?_;clear hK K;refine qam (i:=12) (by kernel_rfl) rfl (fun K hK=> ?_)
        go_simp
        rw [<-d9.out];refine hK _ _ az.out ?_;clear hK K;refine qam (i:=13) (by kernel_rfl) rfl (fun K hK=> ?_);refine qc1 EP rfl _ _ 87 71 rfl Tryz.underlying87 qn9 rfl (by decide) w9.heap.size _ (prx.map encX) _ [encX X] wt.heap.size rfl d2.out rfl du.out (by simp) cj.out eb.out ?_;intro v2 w2x aa hg ah;obtain ⟨q0,aw,bz⟩:=et.out.push d5.out el.out d6.out e3.out ⟨_,_,_,ed.out⟩ ef.out ex.out hg aa;obtain ⟨A8,n8,c8,e8⟩:=aa.sl;subst e8;have d0:=q0.cell;have d1:=q0.frozen;have au:∀k,k<wt.heap.size->(Value.slice Ah nh ch).ownBlock≠some k->w2x.heap[k]? =wt.heap[k]? :=fun k hk cp=>hg.block k hk (fun e=>cp e.symm);have ae:w2x.heap[pb+1]? =Wc.heap[pb+1]? ∧w2x.heap[pb]? =Wc.heap[pb]? ∧w2x.heap[ab]? =Wc.heap[ab]? :=
         ⟨(au _ bl.out.1 bh.out.1).trans az.out.1,(au _ bl.out.2.1 bh.out.2.1).trans az.out.2.1,(au _ bl.out.2.2 bh.out.2.2).trans az.out.2.2⟩
        have b0:(w2x.setCell ⟨hb,0,none⟩ (.slice A8 n8 c8)).heap[pb+1]? =Wc.heap[pb+1]? ∧(w2x.setCell ⟨hb,0,none⟩ (.slice A8 n8 c8)).heap[pb]? =Wc.heap[pb]? ∧(w2x.setCell ⟨hb,0,none⟩ (.slice A8 n8 c8)).heap[ab]? =Wc.heap[ab]? :=
         ⟨(Below.heap_setCell _ _ _ _ bn.out.1).trans ae.1,(Below.heap_setCell _ _ _ _ bn.out.2.1).trans ae.2.1,(Below.heap_setCell _ _ _ _ bn.out.2.2).trans ae.2.2⟩
        have dg:=Lib.hid b0;have b1:=Lib.hid ae;have dh:=Lib.hid aw;have cy:Hid (KpT ktO hb Wb (w2x.setCell ⟨hb,0,none⟩ (.slice A8 n8 c8))):=e0.out.trans bz;refine hK _ _ ae ?_;clear hK K aa hg ah au ae b0 q0 aw bz
        refine heldIn_take (i := 14) (v := ?_) (by kernel_rfl) rfl (by kernel_rfl) (by kernel_rfl) (by kernel_rfl) (fun _ _ _ h => calm_panic h) ⟨Or.inl ⟨by rfl, ?_⟩, fun _ => rfl⟩ b1.out ?_
        rotate_left
        · intro w' _
          (go_simp <;> with_reducible rfl)
        refine heldIn_take (i := 15) (v := ?_) (by kernel_rfl) rfl (by kernel_rfl) (by kernel_rfl) (by kernel_rfl) (fun _ _ _ h => calm_panic h) ⟨Or.inl ⟨by rfl, ?_⟩, fun _ => rfl⟩ b1.out ?_
        rotate_left
        · intro w' _
          (go_simp <;> with_reducible rfl)
        refine qam (i:=16) (by kernel_rfl) rfl (fun K hK=> ?_)
        go_simp
        refine hK _ _ dg.out ?_;clear hK K;refine qbc (by kernel_rfl) ⟨rfl, ?_⟩ _;gi_wp2_with fail;exact ⟨cy.out,_,dh.out⟩
       ·go_simp
        rw [<-d9.out];refine hK _ _ az.out ?_;clear hK K;refine qam (i:=10) (by kernel_rfl) rfl (fun K hK=> ?_)
        go_simp
        refine hK _ _ az.out ?_;clear hK K;refine qam (i:=13) (by kernel_rfl) rfl (fun K hK=> ?_);refine qc1 EP rfl _ _ 87 71 rfl Tryz.underlying87 qn9 rfl (by decide) w9.heap.size _ (prx.map encX) _ [encX X] wt.heap.size rfl d2.out rfl du.out (by simp) cj.out eb.out ?_;intro v2 w2x aa hg ah;obtain ⟨q0,aw,bz⟩:=et.out.push d5.out el.out d6.out e3.out ⟨_,_,_,ed.out⟩ ef.out ex.out hg aa;obtain ⟨A8,n8,c8,e8⟩:=aa.sl;subst e8;have d0:=q0.cell;have d1:=q0.frozen;have au:∀k,k<wt.heap.size->(Value.slice Ah nh ch).ownBlock≠some k->w2x.heap[k]? =wt.heap[k]? :=fun k hk cp=>hg.block k hk (fun e=>cp e.symm);have ae:w2x.heap[pb+1]? =Wc.heap[pb+1]? ∧w2x.heap[pb]? =Wc.heap[pb]? ∧w2x.heap[ab]? =Wc.heap[ab]? :=
         ⟨(au _ bl.out.1 bh.out.1).trans az.out.1,(au _ bl.out.2.1 bh.out.2.1).trans az.out.2.1,(au _ bl.out.2.2 bh.out.2.2).trans az.out.2.2⟩
        have b0:(w2x.setCell ⟨hb,0,none⟩ (.slice A8 n8 c8)).heap[pb+1]? =Wc.heap[pb+1]? ∧(w2x.setCell ⟨hb,0,none⟩ (.slice A8 n8 c8)).heap[pb]? =Wc.heap[pb]? ∧(w2x.setCell ⟨hb,0,none⟩ (.slice A8 n8 c8)).heap[ab]? =Wc.heap[ab]? :=
         ⟨(Below.heap_setCell _ _ _ _ bn.out.1).trans ae.1,(Below.heap_setCell _ _ _ _ bn.out.2.1).trans ae.2.1,(Below.heap_setCell _ _ _ _ bn.out.2.2).trans ae.2.2⟩
        have dg:=Lib.hid b0;have b1:=Lib.hid ae;have dh:=Lib.hid aw;have cy:Hid (KpT ktO hb Wb (w2x.setCell ⟨hb,0,none⟩ (.slice A8 n8 c8))):=e0.out.trans bz;refine hK _ _ ae ?_;clear hK K aa hg ah au ae b0 q0 aw bz
        refine heldIn_take (i := 14) (v := ?_) (by kernel_rfl) rfl (by kernel_rfl) (by kernel_rfl) (by kernel_rfl) (fun _ _ _ h => calm_panic h) ⟨Or.inl ⟨by rfl, ?_⟩, fun _ => rfl⟩ b1.out ?_
        rotate_left
        · intro w' _
          (go_simp <;> with_reducible rfl)
        refine heldIn_take (i := 15) (v := ?_) (by kernel_rfl) rfl (by kernel_rfl) (by kernel_rfl) (by kernel_rfl) (fun _ _ _ h => calm_panic h) ⟨Or.inl ⟨by rfl, ?_⟩, fun _ => rfl⟩ b1.out ?_
        rotate_left
        · intro w' _
          (go_simp <;> with_reducible rfl)
        refine qam (i:=16) (by kernel_rfl) rfl (fun K hK=> ?_)
        go_simp
        refine hK _ _ dg.out ?_;clear hK K;refine qbc (by kernel_rfl) ⟨rfl, ?_⟩ _;gi_wp2_with fail;exact ⟨cy.out,_,dh.out⟩
      case done=>
       rintro xs W0 W2 hS ⟨hv,hI⟩ ag gk be;have aw:=hI.on ag;have a8:=aw.put be rfl (Nat.le_refl _) eh (.deferred none);have hq:=a8.heads hS;have ck:∀g cc z,w9.heap[g]? =some (.cells cc 66 z)->GdO hb w9 g:=fun g cc z h=>⟨_,h,.inr rfl⟩;have cg:∀g cc z,w9.heap[g]? =some (.cells cc 62 z)->GdO hb w9 g:=fun g cc z h=>⟨_,h,.inr rfl⟩;have b2:=fa.out.st a8.st ck cg;have em:qdG (W2.putObj w9.heap.size (.deferred none)) pb hb (.slice A4 n4 cr4):=⟨(a8.st.cell di.out).trans (by have h:=co.out;simp [World.cell?,h]),(a8.st.cell di.out).trans (by have h:=co.out;simp [World.cell?,h])⟩;have kx:W2.cell? ⟨pb+1,0,none⟩=some (.pointer (some ⟨pb,0,none⟩)):=(aw.st.cell c4.out).trans eg.out.cell;have fh:=Lib.hid be;have dj:Hid (OpnR W bw (.returned (.tuple #[.pointer (some ⟨pb,0,none⟩),.int .i64 0])) (W2.putObj w9.heap.size (.deferred none))):=⟨a8.below,.inr ⟨c0,pb,hb,.slice A4 n4 cr4,hv,HV.out,rfl,em,by omega,a8.box.cell,b2,hq⟩⟩;clear hI aw a8 hq ck cg b2 em be ag;gi_wp2_with fail;refine ⟨by simp,.inl ⟨_,_,rfl,run_takeDeferred fh.out, ?_⟩⟩;exact ⟨.tuple #[.pointer (some ⟨pb,0,none⟩),.int .i64 0],by unfold results;rw [hr];go_simp,dj.out⟩
      case stop=>rintro xs W0 W2 _ hX;exact hX.elim
     ·have HV:Hid (qci b=none):=by
       show _=_;rw [a4,if_neg (fun e=>g4 (by injection e))]
      rw [decide_eq_false g4] at KE;clear a4 g4;gi_wp2_with fail;refine KE.out.mono ?_;rintro e w8 ⟨rfl,a9⟩;have a9:=a9.symm;subst a9;gi_wp2_with fail;exact ⟨.tuple #[.pointer none,.int .i64 170],by unfold results;rw [hr];go_simp,an.out,.inl ⟨HV.out,rfl⟩⟩
    ·have HV:Hid (qci b=none):=by
      show _=_;rw [a4,if_neg (fun e=>g3 (by injection e))]
     have g5:(bc==0)=false:=(by simp [g3]);have g6:(bc != 0)=true:=(by simp [g3]);have g7:decide (bc=0)=false:=(by simp [g3]);clear a4;gi_wp2_with fail;exact ⟨.tuple #[.pointer none,.int .i64 170],by unfold results;rw [hr];go_simp,an.out,.inl ⟨HV.out,rfl⟩⟩
  ·have HV:Hid (qci b=none):=qeL (by rw [HE.out,qip (by rw [<-ba];exact e1)];rfl);have g1:(er==0)=false:=(by simp [e1]);clear ba bg e1;gi_wp2_with fail;refine KX.out.mono ?_;rintro e w2 ⟨Ab,nb,cb,A2,n2,c2,rfl,ao,_⟩;have fg:Hid (Below W.heap.size W w2):=HB.out.trans (ao.mono HB.out.size);clear ao KX;gi_wp2_with fail;exact ⟨.tuple #[.pointer none,.int .i64 170],by unfold results;rw [hr];go_simp,fg.out,.inl ⟨HV.out,rfl⟩⟩
end Go.Proofs.YtnkelahimiipjaaGreatDoor
namespace Go.Proofs.YtnkelahimiipjaaGreatDoor
open Go.RowKit Go.Sort
attribute [local go_sem] Oper.semAt_some
def encO (x:Blk×Value):Array Value:= #[.agg #[.int .i64 x.1.1,x.2]]
def NewO (w:World) (Z:Nat) (bl:List Blk) (ids:List Int) (f t:Int) (pre:List (Blk×Value)) (_ _:World) (x:Blk×Value):Prop:=
 (bl.filter (qaz ids f t))[pre.length]? =some x.1∧Rd w Z x.2 x.1.2∧Nz x.2
def OfB (Bi Bt Bf:Nat) (iv:Value) (f t:Int) (w:World):Prop:=Boxed w Bi 37 iv∧Boxed w Bt 2 (.int .i64 t)∧Boxed w Bf 2 (.int .i64 f)
theorem OfB.on {Bi Bt Bf:Nat} {iv:Value} {f t:Int} {w w':World} (h:OfB Bi Bt Bf iv f t w) (k:Below w.heap.size w w'):OfB Bi Bt Bf iv f t w':=⟨qat h.1 k,qat h.2.1 k,qat h.2.2 k⟩
theorem OfB.kept {kt:TypeId->Bool} (h1:kt 37=false) (h2:kt 2=false) {Z Bi Bt Bf:Nat} {iv:Value} {f t:Int} {w w':World} (h:OfB Bi Bt Bf iv f t w) (k:KpU kt Z w w'):OfB Bi Bt Bf iv f t w':=
 ⟨k.2 _ _ h.1 (by show (!kt 37)=true;rw [h1];rfl),k.2 _ _ h.2.1 (by show (!kt 2)=true;rw [h2];rfl),k.2 _ _ h.2.2 (by show (!kt 2)=true;rw [h2];rfl)⟩
theorem qk0 {bl:List Blk} {ids:List Int} {f t:Int} {k:Nat} (h:k<bl.length):(bl.take (k+1)).filter (qaz ids f t)=(bl.take k).filter (qaz ids f t)++if qaz ids f t bl[k]=true then [bl[k]] else []:=by
 rw [List.take_succ_eq_append_getElem h,List.filter_append];congr 1;cases hr:qaz ids f t bl[k]<;>simp [hr]
theorem qmq {bl:List Blk} {ids:List Int} {f t:Int} {k:Nat} (h:k<bl.length) (hr:qaz ids f t bl[k]=true):(bl.filter (qaz ids f t))[((bl.take k).filter (qaz ids f t)).length]? =some bl[k]:=by
 have e:bl=bl.take k++bl[k]::bl.drop (k+1):=by rw [<-List.drop_eq_getElem_cons h,List.take_append_drop]
 have e2:bl.filter (qaz ids f t)=(bl.take k).filter (qaz ids f t)++bl[k]::(bl.drop (k+1)).filter (qaz ids f t):=by
  conv=>lhs;rw [e]
  rw [List.filter_append,List.filter_cons_of_pos hr]
 rw [e2,List.getElem?_append_right (Nat.le_refl _),Nat.sub_self];rfl
theorem qpi (kt : TypeId -> Bool) (hk1 : kt 37 = false) (hk2 : kt 2 = false) (Z n Bp hp Bi Bt Bf : Nat) (hv iv : Value) (bl : List Blk) (ids : List Int) (f t : Int) (w : World) (hn : 12 <= n) (hBp : Boxed w Bp 86 (.pointer (some ⟨hp, 0, none⟩))) (hhp : w.cell? ⟨hp, 0, none⟩ = some hv) (hB : OfB Bi Bt Bf iv f t w) (hZ : Z <= w.heap.size) (hR : RdP w Z hv bl) (hI : RdZ w Z iv ids) (hl : bl.length <= 1000000) (hil : ids.length <= 1000000) (hne : ∀ b ∈ bl, b.2 ≠ [] ∧ b.2.length <= 1000000) :
  qjD kt Z Fence.wide n Tryz.prog 85 #[.pointer (some ⟨Bp,0,none⟩),.pointer (some ⟨Bi,0,none⟩),.pointer (some ⟨Bt,0,none⟩),.pointer (some ⟨Bf,0,none⟩)] encO (NewO w Z bl ids f t) (fun xs=>xs.map (fun x=>x.1)=bl.filter (qaz ids f t)) (fun _=>True) (bl.filter (qaz ids f t)).length w:=by
 intro lp J Jx W hW hY h0;have HZ:Hid (Z<=W.heap.size):=Nat.le_trans hZ hW.size;have a9:Hid (Z<=w.heap.size):=hZ;have a2:Hid (Below w.heap.size w W):=hW;have bo:Hid (OfB Bi Bt Bf iv f t W):=hB.on hW;have bj:=Lib.hid hI;have b5:=Lib.hid hil;have bz:=Lib.hid hne;obtain ⟨N,hN⟩:∃N,N=bl.length:=⟨_,rfl⟩;obtain ⟨A,c,rfl,hc,hA⟩:=id hR;obtain ⟨Ai,ci,rfl,_⟩:=id hI;obtain ⟨ni,bn⟩:∃ni,ni=ids.length:=⟨_,rfl⟩;rw [<-bn] at bo bj;rw [<-hN] at hhp hc hl;have c0:=(qat hBp hW).cell;have c1:W.cell? ⟨hp,0,none⟩=some (.slice A N c):=(hW.cell (qaa hhp)).trans hhp;have HA:=Lib.hid hA;have HY:=Lib.hid hY;have HN:=Lib.hid hN;have h1:1<=n:=by omega
 have b9:Fence.wide.fn 86:=trivial;have b7:Fence.wide.fn 33:=trivial
 have b6:Fence.wide.fn 34:=trivial;clear hY hW hR hA hZ hI hil hne hN hBp hhp hB bn;refine callsIn_of_wp Tryz.func85 rfl trivial ?_ rfl;simp only [Tryz.ntmps85,List.size_toArray,List.length_cons,List.length_nil,Nat.reduceAdd,Nat.reduceSub,Array.replicate_succ,Array.replicate_zero,List.push_toArray,List.append_toArray,List.nil_append,List.cons_append];gi_wp2_with fail;clear c0 c1
 gi_loopw [7,13] (fun _ xv wl=>∃(k:Nat) (pre:List (Blk×Value)) (W0:World),xv=.int .i64 (k:Int)∧k<=N∧Hid (pre.map (fun x=>x.1)=(bl.take k).filter (qaz ids f t))∧Hid (J pre W0)∧Hid (Below W0.heap.size W0 wl)∧Hid (Below Z W wl)∧Hid (OfB Bi Bt Bf (.slice Ai ni ci) f t wl))
  (fun _ xv _=>N-(intOf xv).toNat)
 case atStart=>exact ⟨0,[],W,rfl,Nat.zero_le _,rfl,h0,Below.refl _ _,Below.refl _ _,bo.out⟩
 case round =>
  obtain ⟨k,pre,W0,rfl,b8,HP,HJ,a6,ba,bv⟩:=hrel;by_cases hlt:k<N
  ·have ad : k < bl.length := by rw [<- HN.out]; exact hlt
   rcases HA.out with h0|⟨b,ob,e,hb,be⟩
   ·subst h0;simp at ad
   subst e;have ag:Below Z w wr:=(a2.out.mono a9.out).trans ba.out;obtain ⟨p,ar⟩:∃p,p=bl[k]:=⟨_,rfl⟩;have bg:p ∈ bl:=(by rw [ar];exact List.getElem_mem ad);obtain ⟨a0,a8⟩:=bz.out p bg;obtain ⟨c0,sv,c1,ax,a1⟩:PtAt wr Z b (ob+k*2) p:=by
    rw [ar];exact (be k ad).below ag hb
   have av:Hid (Rd w Z sv p.2):=by
    obtain ⟨_,sv2,e2,h2,_⟩:=be k ad;have e3:=(ag.cell hb).trans e2;rw [c1] at e3;injection e3 with e3;rw [e3,ar];exact h2
   have ap:=Lib.hid (qk0 (ids:=ids) (f:=f) (t:=t) ad);have bi:=Lib.hid (qmq (ids:=ids) (f:=f) (t:=t) ad);rw [<-ar] at ap bi;obtain ⟨pid,ps⟩:=p;dsimp only at c0 c1 ax a1 a0 a8 av;obtain ⟨s0,rest,aj⟩:∃s0 rest,ps=s0::rest:=by
    cases ps with
    |nil=>exact absurd rfl a0
    |cons a b=>exact ⟨a,b,rfl⟩
   obtain ⟨sl,a4⟩:∃sl,ps.getLast? =some sl:=⟨_,List.getLast?_eq_some_getLast a0⟩;obtain ⟨fs,a5⟩:∃fs,fs=s0.1:=⟨_,rfl⟩;obtain ⟨ls,bc⟩:∃ls,ls=sl.1:=⟨_,rfl⟩;have ao:qaX ps=fs:=(by rw [a5,aj];rfl);have am:qbu ps=ls:=(by rw [bc];unfold qbu;rw [a4];rfl);obtain ⟨As,cs,rfl,_⟩:=id ax;obtain ⟨R,bq⟩:∃R,R=ps.length:=⟨_,rfl⟩;rw [<-bq] at c1 ax a1 av;have bw:=Lib.hid a1;obtain ⟨Wc,ay⟩:∃Wc,Wc=wr.alloc (.cells #[.int .i64 pid,.slice As R cs] 71):=⟨_,rfl⟩;obtain ⟨H7,bd⟩:∃H7,H7=wr.heap.size:=⟨_,rfl⟩;have aw:Below wr.heap.size wr Wc:=(by rw [ay];exact (Below.refl _ _).alloc (Nat.le_refl _) _);have bf:Wc.heap[H7]? =some (.cells #[.int .i64 pid,.slice As R cs] 71 (0,0)):=(by rw [ay,bd];exact heap_alloc_new wr _);have k0:Wc.cell? ⟨H7,0,none⟩=some (.int .i64 pid):=(by simp [World.cell?,bf]);have k1:Wc.cell? ⟨H7,1,none⟩=some (.slice As R cs):=(by simp [World.cell?,bf]);have aq:=bv.out.on aw;have az:=Lib.hid aq;have HK:=Lib.hid (And.intro k0 (And.intro k1 (And.intro aq.1.cell (And.intro aq.2.1.cell aq.2.2.cell))));have ai:Hid (Below Z W Wc):=ba.out.trans (aw.mono (Nat.le_trans HZ.out ba.out.size));have af:Hid (Z<=Wc.heap.size):=Nat.le_trans HZ.out ai.out.size;have ab:Hid (Below W0.heap.size W0 Wc):=a6.out.trans (aw.mono a6.out.size);have KC:Hid (∀w',Below Wc.heap.size Wc w'->CallsIn Fence.wide (n-1) Tryz.prog 86 #[.slice Ai ni ci,.int .i64 pid] w' fun e w''=>e=.returned (.bool (decide (pid ∈ ids)))∧Below Wc.heap.size Wc w''):=fun w' h=>callsIn_wide.2 ((qfP _ ids pid w' ((bj.out.below ((a2.out.mono a9.out).trans (ai.out.trans (h.mono af.out)))).mono (Nat.le_trans af.out h.size)) (by have :=b5.out;omega)).mono fun e w'' ⟨h1,h2⟩=>⟨h1,by rw [h2];exact h⟩)
   have bh:Hid (∀w',Below Wc.heap.size Wc w'->Rd w' w'.heap.size (.slice As R cs) ps):=fun w' h=>(av.out.below ((a2.out.mono a9.out).trans (ai.out.trans (h.mono af.out)))).mono (Nat.le_trans af.out h.size);have KF:Hid (∀w',Below Wc.heap.size Wc w'->CallsIn Fence.wide (n-1) Tryz.prog 33 #[.agg #[.int .i64 pid,.slice As R cs]] w' fun e w''=>e=.returned (.int .i64 fs)∧Below Wc.heap.size Wc w''):=fun w' h=>callsIn_wide.2 ((qen pid _ s0 rest w' (by rw [<-aj];exact bh.out w' h)).mono fun e w'' ⟨h1,h2⟩=>⟨by rw [h1,a5],h.trans (h2.below.mono h.size)⟩);have KL:Hid (∀w',Below Wc.heap.size Wc w'->CallsIn Fence.wide (n-1) Tryz.prog 34 #[.agg #[.int .i64 pid,.slice As R cs]] w' fun e w''=>e=.returned (.int .i64 ls)∧Below Wc.heap.size Wc w''):=fun w' h=>callsIn_wide.2 ((qfs pid _ sl ps w' (bh.out w' h) a8 a4).mono fun e w'' ⟨h1,h2⟩=>⟨by rw [h1,bc],h.trans (h2.below.mono h.size)⟩);have an:Hid (qaz ids f t (pid,ps)=(decide (pid ∈ ids) && (decide (fs<=t) && decide (f<=ls)))):=(by show _=_;unfold qaz;rw [ao,am]);have i1:(k:Int)<(N:Int):=(by omega);have bx:=Lib.hid ay;have bt:=Lib.hid bd;clear be hb ar bg a0 a8 ax a1 aj a4 a5 bc ao am bq ay bd aw bf aq ag ad;gi_wp2_with fail;rw [<-bt.out,<-bx.out];clear c0 c1;obtain ⟨q1,hq1⟩:∃q1,q1=decide (pid ∈ ids):=⟨_,rfl⟩;rw [<-hq1] at KC an;clear hq1;cases q1 with
   | false =>
     refine wpIn_region_any (by kernel_rfl) ?_;change wpAnyIn _ _ _ _ _ _ _ _ _ (World.drew _);refine qbh (by kernel_rfl) [0,1,2,3,4,5,6,7,8,9,10,11,12,13,14,15,16,17,18,19,20,21] (fun w'=>Below Wc.heap.size Wc w') [(some 17,.slice Ai ni ci),(some 18,.pointer (some ⟨H7,0,none⟩)),(some 19,.int .i64 pid),(some 20,.bool false),(some 21,.bool false),(some 22,undef),(some 23,undef),(some 24,undef),(some 25,undef),(some 26,.bool false),(some 27,.bool false),(some 28,undef),(some 29,undef),(some 30,undef),(some 31,undef),(some 32,.bool false),(some 33,.bool false),(some 34,undef),(some 35,undef),(some 36,undef),(some 37,undef),(some 38,.bool false)] (by kernel_rfl) (by kernel_rfl) (by rfl) ((Ext.refl Wc).drewN _).below ?A1 ?hA1 ?hq1 ?hfin1
     case hA1=>
      simp only [List.foldl_cons,List.foldl_nil]
      go_simp
      rfl
     case hq1=>
      repeat (refine AllQ.cons rfl (fun w' K hS hK=> ?_) ?_;rotate_left)
      exact AllQ.nil
      all_goals
       have d0:w'.cell? ⟨H7,0,none⟩=some (.int .i64 pid):=(hS.cell (qaa HK.out.1)).trans HK.out.1;have d1:w'.cell? ⟨H7,1,none⟩=some (.slice As R cs):=(hS.cell (qaa HK.out.1)).trans HK.out.2.1;have d2:w'.cell? ⟨Bi,0,none⟩=some (.slice Ai ni ci):=(hS.cell (qaa HK.out.2.2.1)).trans HK.out.2.2.1;have d3:w'.cell? ⟨Bt,0,none⟩=some (.int .i64 t):=(hS.cell (qaa HK.out.2.2.2.1)).trans HK.out.2.2.2.1;have d4:w'.cell? ⟨Bf,0,none⟩=some (.int .i64 f):=(hS.cell (qaa HK.out.2.2.2.2)).trans HK.out.2.2.2.2
       go_simp
      all_goals first|exact hK _ hS|exact ⟨fun _ _=>trivial,hK _ hS⟩|(refine (KC.out _ hS).mono ?_;rintro e w'' ⟨rfl,h9⟩;exact hK _ h9)|(refine (KF.out _ hS).mono ?_;rintro e w'' ⟨rfl,h9⟩;exact hK _ h9)|(refine (KL.out _ hS).mono ?_;rintro e w'' ⟨rfl,h9⟩;exact hK _ h9)|(refine ⟨trivial,(KC.out _ hS).mono ?_⟩;rintro e w'' ⟨rfl,h9⟩;exact hK _ h9)|(refine ⟨trivial,(KF.out _ hS).mono ?_⟩;rintro e w'' ⟨rfl,h9⟩;exact hK _ h9)|(refine ⟨trivial,(KL.out _ hS).mono ?_⟩;rintro e w'' ⟨rfl,h9⟩;exact hK _ h9)
     case hfin1=>
      intro Wd aa;simp only [List.foldl_cons,List.foldl_nil,List.length_cons,List.length_nil];have a3:=Lib.hid aa;have al:Hid (Below Z W Wd):=ai.out.trans (aa.mono af.out);have ac:Hid (Below W0.heap.size W0 Wd):=ab.out.trans (aa.mono ab.out.size);have ak:=Lib.hid (az.out.on aa);clear aa;refine wpAnyIn_done (by kernel_rfl) ?_ _;have ah:Hid (pre.map (fun x=>x.1)=(bl.take (k+1)).filter (qaz ids f t)):=by
       show _=_;rw [ap.out,an.out,HP.out];simp
      gi_wp2_with fail;go_roundw
      case rel=>exact ⟨k+1,pre,W0,by go_num,by omega,ah.out,HJ.out,ac.out,al.out,ak.out⟩
      case measure=>simp [intOf];omega
   | true =>
     by_cases g2:fs<=t
     ·by_cases g3:f<=ls
      ·have g4:ls≥f:=g3;refine wpIn_region_any (by kernel_rfl) ?_;change wpAnyIn _ _ _ _ _ _ _ _ _ (World.drew _);refine qbh (by kernel_rfl) [0,1,2,3,4,5,6,7,8,9,10,11,12,13,14,15,16,17,18] (fun w'=>Below Wc.heap.size Wc w') [(some 17,.slice Ai ni ci),(some 18,.pointer (some ⟨H7,0,none⟩)),(some 19,.int .i64 pid),(some 20,.bool true),(some 21,.bool true),(some 22,.agg #[.int .i64 pid,.slice As R cs]),(some 23,.int .i64 fs),(some 24,.int .i64 t),(some 25,.bool true),(some 26,.bool true),(some 27,.bool true),(some 28,.agg #[.int .i64 pid,.slice As R cs]),(some 29,.int .i64 ls),(some 30,.int .i64 f),(some 31,.bool true),(some 32,.bool true),(some 33,.bool true),(some 34,.func (.yield lp) #[] #[]),(some 35,.agg #[.int .i64 pid,.slice As R cs])] (by kernel_rfl) (by kernel_rfl) (by rfl) ((Ext.refl Wc).drewN _).below ?A2 ?hA2 ?hq2 ?hfin2
       case hA2=>
        simp only [List.foldl_cons,List.foldl_nil]
        go_simp
        rfl
       case hq2=>
        repeat (refine AllQ.cons rfl (fun w' K hS hK=> ?_) ?_;rotate_left)
        exact AllQ.nil
        all_goals
         have d0:w'.cell? ⟨H7,0,none⟩=some (.int .i64 pid):=(hS.cell (qaa HK.out.1)).trans HK.out.1;have d1:w'.cell? ⟨H7,1,none⟩=some (.slice As R cs):=(hS.cell (qaa HK.out.1)).trans HK.out.2.1;have d2:w'.cell? ⟨Bi,0,none⟩=some (.slice Ai ni ci):=(hS.cell (qaa HK.out.2.2.1)).trans HK.out.2.2.1;have d3:w'.cell? ⟨Bt,0,none⟩=some (.int .i64 t):=(hS.cell (qaa HK.out.2.2.2.1)).trans HK.out.2.2.2.1;have d4:w'.cell? ⟨Bf,0,none⟩=some (.int .i64 f):=(hS.cell (qaa HK.out.2.2.2.2)).trans HK.out.2.2.2.2
         go_simp
        all_goals first|exact hK _ hS|exact ⟨fun _ _=>trivial,hK _ hS⟩|(refine (KC.out _ hS).mono ?_;rintro e w'' ⟨rfl,h9⟩;exact hK _ h9)|(refine (KF.out _ hS).mono ?_;rintro e w'' ⟨rfl,h9⟩;exact hK _ h9)|(refine (KL.out _ hS).mono ?_;rintro e w'' ⟨rfl,h9⟩;exact hK _ h9)|(refine ⟨trivial,(KC.out _ hS).mono ?_⟩;rintro e w'' ⟨rfl,h9⟩;exact hK _ h9)|(refine ⟨trivial,(KF.out _ hS).mono ?_⟩;rintro e w'' ⟨rfl,h9⟩;exact hK _ h9)|(refine ⟨trivial,(KL.out _ hS).mono ?_⟩;rintro e w'' ⟨rfl,h9⟩;exact hK _ h9)
       case hfin2=>
        intro Wd aa;simp only [List.foldl_cons,List.foldl_nil,List.length_cons,List.length_nil];have a3:=Lib.hid aa;have al:Hid (Below Z W Wd):=ai.out.trans (aa.mono af.out);have ac:Hid (Below W0.heap.size W0 Wd):=ab.out.trans (aa.mono ab.out.size);have ak:=Lib.hid (az.out.on aa);clear aa;have bs:Hid (qaz ids f t (pid,ps)=true):=by
         show _=_;rw [an.out];simp [g2,g3]
        have ae:=bi.out bs.out;have au:pre.length=((bl.take k).filter (qaz ids f t)).length:=(by rw [<-HP.out,List.length_map]);rw [<-au] at ae;have bm:pre.length<(bl.filter (qaz ids f t)).length:=(List.getElem?_eq_some_iff.1 ae).1;have bu:=HY.out pre ((pid,ps),.slice As R cs) W0 Wd HJ.out bm ac.out ⟨ae,av.out,bw.out⟩;obtain ⟨fn,tmps,assign,body,hy,bp⟩:=bu;have bk:=Lib.hid bp;have ah:Hid ((pre++[(((pid,ps),Value.slice As R cs):Blk×Value)]).map (fun x=>x.1)=(bl.take (k+1)).filter (qaz ids f t)):=by
         show _=_;rw [ap.out,bs.out,List.map_append,HP.out];rfl
        dsimp only [encO] at hy;clear bp ae au bm;refine wpAnyIn_ready (rs:=[19]) (by kernel_rfl) (by simp) ?_;refine AllReadyIn.cons rfl (fun K hK=> ?_) AllReadyIn.nil
        go_simp
        refine bk.out.mono ?_;rintro e W3 hh;obtain ⟨qq,rfl,hq1,hq2⟩:=toQ hh;dsimp only;refine hK _ _ ?_;clear hK K hh hy bk;refine wpAnyIn_ready (rs:=[20]) (by kernel_rfl) (by simp) ?_;refine AllReadyIn.cons rfl (fun K hK=> ?_) AllReadyIn.nil
        go_simp
        refine hK _ _ ?_;clear hK K;refine wpAnyIn_ready (rs:=[21]) (by kernel_rfl) (by simp) ?_;refine AllReadyIn.cons rfl (fun K hK=> ?_) AllReadyIn.nil
        go_simp
        refine hK _ _ ?_;clear hK K;refine wpAnyIn_done (by kernel_rfl) ?_ _;cases qq with
        | false =>
          have b4:=hq2 rfl;gi_wp2_with fail;refine bodyPost_ret (results_none rfl _ _ _) rfl ?_;exact ⟨⟨_,rfl⟩,.inr ⟨_,W3,b4,Below.refl _ _⟩⟩
        | true =>
          obtain ⟨br,a7⟩:=hq1 rfl;have b1:=Lib.hid br;have b2:Hid (Below Z W W3):=al.out.trans a7.1;have b3:=Lib.hid (ak.out.kept hk1 hk2 a7);clear br a7 hq1 hq2;gi_wp2_with fail;go_roundw
          case rel=>exact ⟨k+1,_,W3,by go_num,by omega,ah.out,b1.out,Below.refl _ _,b2.out,b3.out⟩
          case measure=>simp [intOf];omega
      ·have g4:decide (f<=ls)=false:=decide_eq_false g3;refine wpIn_region_any (by kernel_rfl) ?_;change wpAnyIn _ _ _ _ _ _ _ _ _ (World.drew _);refine qbh (by kernel_rfl) [0,1,2,3,4,5,6,7,8,9,10,11,12,13,14,15,16,17,18,19,20,21] (fun w'=>Below Wc.heap.size Wc w') [(some 17,.slice Ai ni ci),(some 18,.pointer (some ⟨H7,0,none⟩)),(some 19,.int .i64 pid),(some 20,.bool true),(some 21,.bool true),(some 22,.agg #[.int .i64 pid,.slice As R cs]),(some 23,.int .i64 fs),(some 24,.int .i64 t),(some 25,.bool true),(some 26,.bool true),(some 27,.bool true),(some 28,.agg #[.int .i64 pid,.slice As R cs]),(some 29,.int .i64 ls),(some 30,.int .i64 f),(some 31,.bool false),(some 32,.bool false),(some 33,.bool false),(some 34,undef),(some 35,undef),(some 36,undef),(some 37,undef),(some 38,.bool false)] (by kernel_rfl) (by kernel_rfl) (by rfl) ((Ext.refl Wc).drewN _).below ?A3 ?hA3 ?hq3 ?hfin3
       case hA3=>
        simp only [List.foldl_cons,List.foldl_nil]
        go_simp
        rfl
       case hq3=>
        repeat (refine AllQ.cons rfl (fun w' K hS hK=> ?_) ?_;rotate_left)
        exact AllQ.nil
        all_goals
         have d0:w'.cell? ⟨H7,0,none⟩=some (.int .i64 pid):=(hS.cell (qaa HK.out.1)).trans HK.out.1;have d1:w'.cell? ⟨H7,1,none⟩=some (.slice As R cs):=(hS.cell (qaa HK.out.1)).trans HK.out.2.1;have d2:w'.cell? ⟨Bi,0,none⟩=some (.slice Ai ni ci):=(hS.cell (qaa HK.out.2.2.1)).trans HK.out.2.2.1;have d3:w'.cell? ⟨Bt,0,none⟩=some (.int .i64 t):=(hS.cell (qaa HK.out.2.2.2.1)).trans HK.out.2.2.2.1;have d4:w'.cell? ⟨Bf,0,none⟩=some (.int .i64 f):=(hS.cell (qaa HK.out.2.2.2.2)).trans HK.out.2.2.2.2
         go_simp
        all_goals first|exact hK _ hS|exact ⟨fun _ _=>trivial,hK _ hS⟩|(refine (KC.out _ hS).mono ?_;rintro e w'' ⟨rfl,h9⟩;exact hK _ h9)|(refine (KF.out _ hS).mono ?_;rintro e w'' ⟨rfl,h9⟩;exact hK _ h9)|(refine (KL.out _ hS).mono ?_;rintro e w'' ⟨rfl,h9⟩;exact hK _ h9)|(refine ⟨trivial,(KC.out _ hS).mono ?_⟩;rintro e w'' ⟨rfl,h9⟩;exact hK _ h9)|(refine ⟨trivial,(KF.out _ hS).mono ?_⟩;rintro e w'' ⟨rfl,h9⟩;exact hK _ h9)|(refine ⟨trivial,(KL.out _ hS).mono ?_⟩;rintro e w'' ⟨rfl,h9⟩;exact hK _ h9)
       case hfin3=>
        intro Wd aa;simp only [List.foldl_cons,List.foldl_nil,List.length_cons,List.length_nil];have a3:=Lib.hid aa;have al:Hid (Below Z W Wd):=ai.out.trans (aa.mono af.out);have ac:Hid (Below W0.heap.size W0 Wd):=ab.out.trans (aa.mono ab.out.size);have ak:=Lib.hid (az.out.on aa);clear aa;refine wpAnyIn_done (by kernel_rfl) ?_ _;have ah:Hid (pre.map (fun x=>x.1)=(bl.take (k+1)).filter (qaz ids f t)):=by
         show _=_;rw [ap.out,an.out,HP.out];simp [g3]
        gi_wp2_with fail;go_roundw
        case rel=>exact ⟨k+1,pre,W0,by go_num,by omega,ah.out,HJ.out,ac.out,al.out,ak.out⟩
        case measure=>simp [intOf];omega
     ·have g4:decide (fs<=t)=false:=decide_eq_false g2;refine wpIn_region_any (by kernel_rfl) ?_;change wpAnyIn _ _ _ _ _ _ _ _ _ (World.drew _);refine qbh (by kernel_rfl) [0,1,2,3,4,5,6,7,8,9,10,11,12,13,14,15,16,17,18,19,20,21] (fun w'=>Below Wc.heap.size Wc w') [(some 17,.slice Ai ni ci),(some 18,.pointer (some ⟨H7,0,none⟩)),(some 19,.int .i64 pid),(some 20,.bool true),(some 21,.bool true),(some 22,.agg #[.int .i64 pid,.slice As R cs]),(some 23,.int .i64 fs),(some 24,.int .i64 t),(some 25,.bool false),(some 26,.bool false),(some 27,.bool false),(some 28,undef),(some 29,undef),(some 30,undef),(some 31,undef),(some 32,.bool false),(some 33,.bool false),(some 34,undef),(some 35,undef),(some 36,undef),(some 37,undef),(some 38,.bool false)] (by kernel_rfl) (by kernel_rfl) (by rfl) ((Ext.refl Wc).drewN _).below ?A4 ?hA4 ?hq4 ?hfin4
      case hA4=>
       simp only [List.foldl_cons,List.foldl_nil]
       go_simp
       rfl
      case hq4=>
       repeat (refine AllQ.cons rfl (fun w' K hS hK=> ?_) ?_;rotate_left)
       exact AllQ.nil
       all_goals
        have d0:w'.cell? ⟨H7,0,none⟩=some (.int .i64 pid):=(hS.cell (qaa HK.out.1)).trans HK.out.1;have d1:w'.cell? ⟨H7,1,none⟩=some (.slice As R cs):=(hS.cell (qaa HK.out.1)).trans HK.out.2.1;have d2:w'.cell? ⟨Bi,0,none⟩=some (.slice Ai ni ci):=(hS.cell (qaa HK.out.2.2.1)).trans HK.out.2.2.1;have d3:w'.cell? ⟨Bt,0,none⟩=some (.int .i64 t):=(hS.cell (qaa HK.out.2.2.2.1)).trans HK.out.2.2.2.1;have d4:w'.cell? ⟨Bf,0,none⟩=some (.int .i64 f):=(hS.cell (qaa HK.out.2.2.2.2)).trans HK.out.2.2.2.2
        go_simp
       all_goals first|exact hK _ hS|exact ⟨fun _ _=>trivial,hK _ hS⟩|(refine (KC.out _ hS).mono ?_;rintro e w'' ⟨rfl,h9⟩;exact hK _ h9)|(refine (KF.out _ hS).mono ?_;rintro e w'' ⟨rfl,h9⟩;exact hK _ h9)|(refine (KL.out _ hS).mono ?_;rintro e w'' ⟨rfl,h9⟩;exact hK _ h9)|(refine ⟨trivial,(KC.out _ hS).mono ?_⟩;rintro e w'' ⟨rfl,h9⟩;exact hK _ h9)|(refine ⟨trivial,(KF.out _ hS).mono ?_⟩;rintro e w'' ⟨rfl,h9⟩;exact hK _ h9)|(refine ⟨trivial,(KL.out _ hS).mono ?_⟩;rintro e w'' ⟨rfl,h9⟩;exact hK _ h9)
      case hfin4=>
       intro Wd aa;simp only [List.foldl_cons,List.foldl_nil,List.length_cons,List.length_nil];have a3:=Lib.hid aa;have al:Hid (Below Z W Wd):=ai.out.trans (aa.mono af.out);have ac:Hid (Below W0.heap.size W0 Wd):=ab.out.trans (aa.mono ab.out.size);have ak:=Lib.hid (az.out.on aa);clear aa;refine wpAnyIn_done (by kernel_rfl) ?_ _;have ah:Hid (pre.map (fun x=>x.1)=(bl.take (k+1)).filter (qaz ids f t)):=by
        show _=_;rw [ap.out,an.out,HP.out];simp [g2]
       gi_wp2_with fail;go_roundw
       case rel=>exact ⟨k+1,pre,W0,by go_num,by omega,ah.out,HJ.out,ac.out,al.out,ak.out⟩
       case measure=>simp [intOf];omega
  ·have bb:k=N:=(by omega);have b0:Hid (pre.map (fun x=>x.1)=bl.filter (qaz ids f t)):=(by have h:=HP.out;rw [bb,HN.out,List.take_length] at h;exact h);have i1:¬(k:Int)<(N:Int):=(by omega);gi_wp2_with fail
   first|go_end0|refine bodyPost_ret (results_none rfl _ _ _) rfl ?_
   exact ⟨⟨_,rfl⟩,.inl ⟨_,b0.out,W0,HJ.out,a6.out⟩⟩
end Go.Proofs.YtnkelahimiipjaaGreatDoor
