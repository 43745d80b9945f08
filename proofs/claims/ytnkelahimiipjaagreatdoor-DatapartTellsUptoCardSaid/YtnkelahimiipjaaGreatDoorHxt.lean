/-
 datapart.split, as an iterator, where what is read lies in blocks of some kind, whatever else turns.
-/
import Derived.Test.YtnkelahimiipjaaGreatDoorHpt
import Derived.Test.YtnkelahimiipjaaGreatDoorPmt
set_option maxRecDepth 100000
set_option maxHeartbeats 8000000
namespace Go.Proofs.YtnkelahimiipjaaGreatDoor
open Go.RowKit Go.Sort
attribute [local go_sem] Oper.semAt_some
structure StJ (G:Nat->Prop) (A B:World):Prop where
 size:A.heap.size<=B.heap.size
 block:∀b,G b->B.heap[b]? =A.heap[b]?
theorem StJ.refl (G:Nat->Prop) (A:World):StJ G A A:=⟨Nat.le_refl _,fun _ _=>rfl⟩
theorem StJ.trans {G:Nat->Prop} {A B C:World} (h:StJ G A B) (k:StJ G B C):StJ G A C:=⟨Nat.le_trans h.size k.size,fun b hb=>(k.block b hb).trans (h.block b hb)⟩
theorem StJ.of_below {G:Nat->Prop} {K:Nat} {A B:World} (h:Below K A B) (hk:∀b,G b->b<K):StJ G A B:=⟨h.size,fun b hb=>h.block b (hk b hb)⟩
theorem StJ.cell {G:Nat->Prop} {A B:World} (h:StJ G A B) {b i:Nat} (hb:G b):B.cell? ⟨b,i,none⟩=A.cell? ⟨b,i,none⟩:=by
 unfold World.cell?;rw [h.block b hb]
def RdJ (G:Nat->Prop) (w:World) (v:Value) (l:List Smp):Prop:=
 ∃A c,v=.slice A l.length c∧l.length<=c∧(l=[]∨∃b o,A=some ⟨b,o,none⟩∧G b∧∀i (h:i<l.length),Cell4 w b (o+i*4) l[i])
def PtJ (G:Nat->Prop) (w:World) (b o:Nat) (p:Pts):Prop:=
 w.cell? ⟨b,o,none⟩=some (.int .i64 p.1)∧∃sv,w.cell? ⟨b,o+1,none⟩=some sv∧RdJ G w sv p.2∧Nz sv
def RdPJ (G:Nat->Prop) (w:World) (v:Value) (l:List Pts):Prop:=
 ∃A c,v=.slice A l.length c∧l.length<=c∧(l=[]∨∃b o,A=some ⟨b,o,none⟩∧G b∧∀i (h:i<l.length),PtJ G w b (o+i*2) l[i])
theorem Cell4.st {G:Nat->Prop} {A B:World} {b o:Nat} {s:Smp} (h:Cell4 A b o s) (k:StJ G A B) (hb:G b):Cell4 B b o s:=
 ⟨(k.cell hb).trans h.1,(k.cell hb).trans h.2.1,(k.cell hb).trans h.2.2.1,(k.cell hb).trans h.2.2.2⟩
theorem RdJ.st {G:Nat->Prop} {A B:World} {v:Value} {l:List Smp} (h:RdJ G A v l) (k:StJ G A B):RdJ G B v l:=by
 obtain ⟨A',c,e,hc,hA⟩:=h;exact ⟨A',c,e,hc,hA.imp id fun ⟨b,o,e,hb,aa⟩=>⟨b,o,e,hb,fun i hi=>(aa i hi).st k hb⟩⟩
theorem PtJ.st {G:Nat->Prop} {A B:World} {b o:Nat} {p:Pts} (h:PtJ G A b o p) (k:StJ G A B) (hb:G b):PtJ G B b o p:=by
 obtain ⟨h1,sv,h2,h3,h4⟩:=h;exact ⟨(k.cell hb).trans h1,sv,(k.cell hb).trans h2,h3.st k,h4⟩
theorem RdJ.cutFrom0 {G:Nat->Prop} {w:World} {b o n c k:Nat} {l:List Smp} (hn:n=l.length) (h:RdJ G w (.slice (some ⟨b,o,none⟩) n c) l) (hk:k<=n):RdJ G w (.slice (some ⟨b,o+k*4,none⟩) (n-k) (c-k)) (l.drop k):=by
 obtain ⟨A',c',e,hc,hA⟩:=h;injection e with e1 e2 e3;subst e1 e3;refine ⟨_,_,by rw [List.length_drop,<-hn],by rw [List.length_drop];omega, ?_⟩;rcases hA with h0|⟨b',o',e,hb,ab⟩
 ·left;rw [h0];simp
 ·right;injection e with e;injection e with e1 e2;subst e1 e2;refine ⟨b,o+k*4,rfl,hb,fun i hi=> ?_⟩;have aa:k+i<l.length:=by rw [List.length_drop] at hi;omega
  have h1:=ab (k+i) aa;rw [List.getElem_drop,show o+k*4+i*4=o+(k+i)*4 by omega];exact h1
theorem qoo {G:Nat->Prop} {w:World} {base:Nat} {v:Value} {l:List Smp} (h:Own w base 66 v l) (hG:∀g c z,w.heap[g]? =some (.cells c 66 z)->G g):RdJ G w v l:=by
 obtain ⟨A,c,e,hc,hA⟩:=h.rd;refine ⟨A,c,e,hc, ?_⟩;rcases hA with h0|⟨b,o,e2,_,aa⟩
 ·exact .inl h0
 ·refine .inr ⟨b,o,e2, ?_,aa⟩;rcases h.2 with ⟨h0,_⟩|⟨g,cap,cur,h0,_,hh,_⟩
  ·rw [e,e2] at h0;cases h0
  ·rw [e,e2] at h0;injection h0 with h0;injection h0 with h0;injection h0 with h0;subst h0;exact hG _ _ _ hh
theorem RdO.rdJ {G:Nat->Prop} {w:World} {base:Nat} {v:Value} {l:List Pts} (h:RdO w base v l) (hG:∀g c z,w.heap[g]? =some (.cells c 66 z)->G g) (hG2:∀g c z,w.heap[g]? =some (.cells c 62 z)->G g):RdPJ G w v l:=by
 obtain ⟨A,c,e,hc,hA⟩:=h;refine ⟨A,c,e,hc,hA.imp (fun h=>h.1) ?_⟩;rintro ⟨b,o,e2,_,_,⟨cc,ht⟩,aa⟩;refine ⟨b,o,e2,hG2 _ _ _ ht,fun i hi=> ?_⟩;obtain ⟨h1,sv,h2,h3,_⟩:=aa i hi;exact ⟨h1,sv,h2,qoo h3 hG,h3.nz⟩
theorem RdJ.rd {G:Nat->Prop} {w:World} {v:Value} {l:List Smp} (h:RdJ G w v l) (hG:∀b,G b->b<w.heap.size):Rd w w.heap.size v l:=by
 obtain ⟨A,c,e,hc,hA⟩:=h;exact ⟨A,c,e,hc,hA.imp id fun ⟨b,o,e,hb,aa⟩=>⟨b,o,e,hG b hb,aa⟩⟩
def NewJ (G:Nat->Prop) (w:World) (l:List Pts) (pre:List BlkX) (A B:World) (x:BlkX):Prop:=
 (qae l)[pre.length]? =some x.1∧RdJ G w x.2.1 x.1.2∧Nz x.2.1∧OwnG EB 5 B A.heap.size x.2.2 (blkB x.1)
theorem NewJ.put {G:Nat->Prop} {w:World} {l:List Pts} {pre:List BlkX} {A B:World} {x:BlkX} (h:NewJ G w l pre A B x) {k:Nat} (hk:k<A.heap.size) (o:Obj):NewJ G w l pre (A.putObj k o) (B.putObj k o) x:=
 ⟨h.1,h.2.1,h.2.2.1,by rw [World.putObj_size];exact h.2.2.2.putLow hk o⟩
theorem qeA (G : Nat -> Prop) (kt : TypeId -> Bool) (hkt : kt 62 = false) (Z n Bb : Nat) (pv : Value) (l : List Pts) (w : World) (hn : 12 <= n) (hBb : w.cell? ⟨Bb, 0, none⟩ = some pv) (hbb : Bb < w.heap.size) (hZ : ∀ b, G b -> b < w.heap.size) (hGK : ∀ A B, StJ G w A -> KpU kt Z A B -> StJ G A B) (hR : RdPJ G w pv l) (hT : TabT w) (hg : G 0) (hs : qeX l) (hk : OkP l) :
  qjD kt Z Fence.wide n Tryz.prog 61 #[.pointer (some ⟨Bb,0,none⟩)] encH (NewJ G w l) (fun xs=>xs.map (fun x=>x.1)=qae l) (fun _=>True) (qae l).length w:=by
 intro lp J Jx W hW hY h0;have ek:Hid (W.cell? ⟨Bb,0,none⟩=some pv):=(hW.cell hbb).trans hBb;have HZ:Hid (∀b,G b->b<W.heap.size):=fun b hb=>Nat.lt_of_lt_of_le (hZ b hb) hW.size;have bf:Hid (StJ G w W):=StJ.of_below hW hZ;have fd:=Lib.hid hGK;have fx:Hid (Below w.heap.size w W):=hW;obtain ⟨N,hN⟩:∃N,N=l.length:=⟨_,rfl⟩;obtain ⟨A,c,rfl,hc,hA⟩:=id hR;have fz:N<=1000000:=by rw [hN];exact hs.1
 rw [<-hN] at ek hc;have HR:=Lib.hid hR;have HA:=Lib.hid hA;have HY:=Lib.hid hY;have HN:=Lib.hid hN;have HS:=Lib.hid hs;have HK:=Lib.hid hk;have HT:=Lib.hid hT;have HG:=Lib.hid hg;have h1:1<=n:=by omega
 have c0:=ek.out;clear hGK hY hW hR hA hZ hs hk hT hg hN hBb hbb hc;refine callsIn_of_wp Tryz.func61 rfl trivial ?_ rfl;simp only [Tryz.ntmps61,List.size_toArray,List.length_cons,List.length_nil,Nat.reduceAdd,Nat.reduceSub,Array.replicate_succ,Array.replicate_zero,List.push_toArray,List.append_toArray,List.nil_append,List.cons_append];gi_wp2_with fail;clear c0
 gi_loopw [4,5,6,7,9,10,11,12,13,16,22,31,46] (fun _ _ _ _ _ _ _ _ _ iv _ _ _ wl=>∃(k:Nat) (pre:List BlkX) (W0:World),iv=.int .i64 (k:Int)∧k<=N∧Hid (pre.map (fun x=>x.1)=qae (l.take k))∧Hid (J pre W0)∧Hid (Below W0.heap.size W0 wl)∧Hid (StJ G W wl))
  (fun _ _ _ _ _ _ _ _ _ iv _ _ _ _=>N-(intOf iv).toNat)
 case atStart=>exact ⟨0,[],W,rfl,Nat.zero_le _,rfl,h0,Below.refl _ _,StJ.refl _ _⟩
 case round =>
  obtain ⟨k,pre,W0,rfl,f5,HP,HJ,bq,a8⟩:=hrel;by_cases b0:k<N
  ·have ai : k < l.length := by rw [<- HN.out]; exact b0
   rcases HA.out with h0|⟨b,o,e,hb,aq⟩
   ·subst h0;simp at ai
   subst e;have fw:=Lib.hid aq;have bo:=Lib.hid hb;obtain ⟨p,hp⟩:∃p,p=l[k]:=⟨_,rfl⟩;have bw:p ∈ l:=(by rw [hp];exact List.getElem_mem ai);have ba:=Lib.hid (HK.out p bw);have fh:Hid (p.2.length<=1000000):=HS.out.2 p bw;obtain ⟨c0,sv,c1,e5,dz⟩:PtJ G wr b (o+k*2) p:=by
    rw [hp];exact (aq k ai).st (bf.out.trans a8.out) hb
   have d5:Hid (RdJ G w sv p.2):=by
    obtain ⟨_,sv2,e2,h2,_⟩:=aq k ai;have e3:=((bf.out.trans a8.out).cell hb).trans e2;rw [c1] at e3;injection e3 with e3;rw [e3,hp];exact h2
   have f4:=Lib.hid dz;have cb:=Lib.hid (qgI ai);rw [<-hp] at cb;obtain ⟨pid,ps⟩:=p;obtain ⟨As,cs,rfl,_⟩:=e5;obtain ⟨R,hR⟩:∃R,R=ps.length:=⟨_,rfl⟩;simp only at c0 c1 d5 ba fh cb;rw [<-hR] at c1;have bg:=Lib.hid hR;have i1:(k:Int)<(N:Int):=(by omega);clear aq hb hp bw dz hR;have c3:(wr.alloc (.cells #[.int .i64 pid,.slice As R cs] 62)).heap[wr.heap.size]? =some (.cells #[.int .i64 pid,.slice As R cs] 62 (0,0)):=heap_alloc_new wr _;have aj:=Lib.hid c3;have du:Hid (∀b,G b->b<wr.heap.size):=fun b hb=>Nat.lt_of_lt_of_le (HZ.out b hb) a8.out.size;have ak:Hid (Below W0.heap.size W0 (wr.alloc (.cells #[.int .i64 pid,.slice As R cs] 62))):=bq.out.trans (((Below.refl _ wr).alloc (Nat.le_refl _) _).mono bq.out.size);have ab:Hid (StJ G W (wr.alloc (.cells #[.int .i64 pid,.slice As R cs] 62))):=a8.out.trans (StJ.of_below ((Below.refl _ wr).alloc (Nat.le_refl _) _) du.out);obtain ⟨pb,av⟩:∃pb,pb=wr.heap.size:=⟨_,rfl⟩;rw [<-av] at aj du;obtain ⟨wq,cd⟩:∃wq,wq=wr.alloc (.cells #[.int .i64 pid,.slice As R cs] 62):=⟨_,rfl⟩;rw [<-cd] at aj ak ab;have aw:Hid (pre.map (fun x=>x.1)++(qaV ps.length ps).map (fun s=>(pid,s))=qae (l.take (k+1))):=(by show _=_;rw [cb.out,HP.out]);gi_wp2_with fail;rw [<-av,<-cd];clear c3 av cd bq a8 c0 c1 HP
   gi_loopw [5,6,7,9,10,11,12,13,22,31,46] (fun rv _ _ _ _ _ _ _ _ _ _ wl=>∃(r m:Nat) (A':Option Addr) (c':Nat) (pre:List BlkX) (W0:World),rv=.slice A' m c'∧Hid (m+r=R)∧Hid (RdJ G w (.slice A' m c') (ps.drop r))∧Hid (pre.map (fun x=>x.1)++(qaV (ps.drop r).length (ps.drop r)).map (fun s=>(pid,s))=qae (l.take (k+1)))∧Hid (J pre W0)∧Hid (Below W0.heap.size W0 wl)∧Hid (StJ G W wl)∧Hid (wl.heap[pb]? =some (.cells #[.int .i64 pid,.slice As R cs] 62 (0,0))))
    (fun rv _ _ _ _ _ _ _ _ _ _ _=>qh0 rv)
   case atStart=>exact ⟨0,R,As,cs,pre,W0,rfl,rfl,by rw [bg.out];exact d5.out,aw,HJ,ak,ab,aj⟩
   case round =>
    clear HJ ak ab aj aw;obtain ⟨r,m,A',c',pre,W0,rfl,HM,cl,aw,HJ,ak,ab,aj⟩:=hrel;by_cases hm:m=0
    ·subst hm;have ca:Hid (pre.map (fun x=>x.1)=qae (l.take (k+1))):=by
      have h:=aw.out;have e:ps.drop r=[]:=List.drop_eq_nil_of_le (by have :=HM.out;have :=bg.out;omega);rw [e] at h;show _=_;rw [<-h];simp [qaV]
     gi_wp2_with fail;exact ⟨⟨k+1,pre,W0,by go_num,by omega,ca,HJ,ak,ab⟩,by simp [intOf];omega⟩
    ·have i2 : (m : Int) > 0 := by omega
     have i3:0<m:=(by omega);obtain ⟨A2,c2,e2,ff,e9⟩:=id cl.out;have bb:m=(ps.drop r).length:=(by rw [List.length_drop];have :=HM.out;have :=bg.out;omega);rw [<-bb] at e2 ff;injection e2 with e2 e3 e4;subst e2 e4;rcases e9 with h0|⟨g,o2,rfl,dy,aq⟩
     ·rw [h0] at bb;exact absurd bb hm
     obtain ⟨q,hq⟩:∃q,q=min m 16:=⟨_,rfl⟩;have fy:min (m:Int) 16=(q:Int):=(by omega);have bl:1<=q:=(by omega);have bp:q<=m:=(by omega);have fo:q<=16:=(by omega);have f3:q<=c':=(by omega);have HQ:=Lib.hid hq;have ap:=Lib.hid bb;obtain ⟨ls,cu⟩:∃ls,ls=ps.drop r:=⟨_,rfl⟩;rw [<-cu] at aq aw cl ap;have bh:=Lib.hid cu;have dq:=Lib.hid aq;have d6:=Lib.hid dy;clear hq bb cu aq dy e3;have am:Hid (∀b,G b->b<wr.heap.size):=fun b hb=>Nat.lt_of_lt_of_le (HZ.out b hb) ab.out.size;gi_wp2_with fail;obtain ⟨V,hV⟩:∃V,V=wr:=⟨_,rfl⟩;subst hV
     gi_loopw [6,7,9,31] (fun tv vv _ iv wl=>∃i:Nat,i<=q∧iv=.int .i64 (i:Int)∧Hid (OwnG EI 2 wl V.heap.size tv (qaO (ls.take i)))∧Hid (OwnG EV 64 wl V.heap.size vv (qar (ls.take i)))∧Hid (Below V.heap.size V wl))
      (fun _ _ _ iv _=>q-(intOf iv).toNat)
     case atStart=>exact ⟨0,Nat.zero_le _,rfl,OwnG.nil _ _,OwnG.nil _ _,Below.refl _ _⟩
     case round =>
      obtain ⟨i,hi,rfl,an,a5,ad⟩:=hrel;by_cases hiq:i<q
      ·have cg:i<ls.length:=(by rw [<-ap.out];omega);obtain ⟨x,hx⟩:∃x,x=ls[i]:=⟨_,rfl⟩;have ah:StJ G w wr:=bf.out.trans (ab.out.trans (StJ.of_below ad.out am.out));obtain ⟨d0,d1,d2,d3⟩:Cell4 wr g (o2+i*4) x:=(by rw [hx];exact Cell4.st (dq.out i cg) ah d6.out);have da:Hid (ls.take (i+1)=ls.take i++[x]):=(by show _=_;rw [List.take_succ_eq_append_getElem cg,hx]);have j1:(i:Int)<(q:Int):=(by omega);have j2:i<q:=hiq;obtain ⟨xt,xa,xb,xc⟩:=x;simp only at d0 d1 d2 d3;obtain ⟨sb,a7⟩:∃sb,sb=wr.heap.size:=⟨_,rfl⟩;have eb:Hid ((wr.alloc (.cells #[.int .i64 xt,.int .i64 xa,.int .i64 xb,.int .i64 xc] 66)).heap[sb]? =some (.cells #[.int .i64 xt,.int .i64 xa,.int .i64 xb,.int .i64 xc] 66 (0,0))):=(by show _=_;rw [a7];exact heap_alloc_new wr _);have f0:Hid ((qaO (ls.take i)).length<=16∧(qar (ls.take i)).length<=16):=(by show _∧_;unfold qaO qar;simp;omega);have bz:=CellG.mk (E:=EI) (w:=wr.alloc (.cells #[.int .i64 xt,.int .i64 xa,.int .i64 xb,.int .i64 xc] 66)) (cs:= #[.int .i64 xt]) (x:=xt) rfl 2;rw [World.size_alloc] at bz;have df:=Lib.hid bz;have b7:Hid (V.heap.size<=((wr.alloc (.cells #[.int .i64 xt,.int .i64 xa,.int .i64 xb,.int .i64 xc] 66)).alloc (.cells #[.int .i64 xt] 2)).heap.size):=(by have :=ad.out.size;show _<=_;simp;omega);have cn:(qaO (ls.take i)).length=i:=(by unfold qaO;simp;omega);have bx:(qar (ls.take i)).length=i:=(by unfold qar;simp;omega);obtain ⟨A6,c6,e6,_⟩:=an.out.rd;obtain ⟨A7,c7,e7,_⟩:=a5.out.rd;rw [cn] at e6
       rw [bx] at e7;subst e6 e7;have dc:((qaO (ls.take i)).length+1)*8<=140737488355328:=(by omega);have ed:((qar (ls.take i)).length+1)*24<=140737488355328:=(by omega);have et:=Lib.hid ed;have fu:=Lib.hid cn;have fp:=Lib.hid bx;clear hx ah cg bz cn bx ed;gi_wp2_with (first|(gi_at_builtin;refine qgB EI rfl _ _ 73 2 rfl Tryz.underlying73 qc5 rfl (by decide) V.heap.size _ (qaO (ls.take i)) xt rfl ((an.out.alloc _).alloc _) _ 0 1 rfl df.out dc b7.out ?_)|fail);intro v1 w1 aa hg ae;have ao:∀k,(Value.slice A6 i c6).ownBlock=some k->V.heap.size<=k∧k<wr.heap.size:=fun k e=>an.out.blk e;have bm:w1.heap[sb]? =some (.cells #[.int .i64 xt,.int .i64 xa,.int .i64 xb,.int .i64 xc] 66 (0,0)):=by
        refine (hg.block sb (by rw [a7];simp;omega) (fun e=>by have :=(ao sb e.symm).2;omega)).trans ?_;exact (Below.heap_alloc _ _ _ (by rw [a7];simp)).trans eb.out
       have e1:w1.cell? ⟨sb,1,none⟩=some (.int .i64 xa):=(by simp [World.cell?,bm]);have e2:w1.cell? ⟨sb,2,none⟩=some (.int .i64 xb):=(by simp [World.cell?,bm]);have e3:w1.cell? ⟨sb,3,none⟩=some (.int .i64 xc):=(by simp [World.cell?,bm]);rw [a7] at e1 e2 e3;have bd:Hid (OwnG EI 2 w1 V.heap.size v1 (qaO (ls.take (i+1)))):=by
        show OwnG _ _ _ _ _ _;rw [da.out];unfold qaO;rw [List.map_append];exact aa
       have a2:Hid (OwnG EV 64 w1 V.heap.size (.slice A7 i c7) (qar (ls.take i))):=((a5.out.alloc _).alloc _).kept hg (a5.out.other an.out (by decide));have bo:Hid (Below V.heap.size V w1):=((ad.out.alloc ad.out.size _).alloc (by have :=ad.out.size;simp;omega) _).grown hg b7.out (fun k e=>(ao k e).1);have d8:=CellG.mk (E:=EV) (w:=w1) (cs:= #[.int .i64 xa,.int .i64 xb,.int .i64 xc]) (x:=(xa,xb,xc)) rfl 64;have es:=Lib.hid d8;have a9:Hid (V.heap.size<=(w1.alloc (.cells #[.int .i64 xa,.int .i64 xb,.int .i64 xc] 64)).heap.size):=(by have :=bo.out.size;show _<=_;simp;omega);obtain ⟨A8,n8,c8,e8⟩:=aa.sl;subst e8;have di:=et.out;clear ao bm aa hg ae a7 d8 eb df b7 an a5 d0 d1 d2 d3 dc;gi_wp2_with (first|(gi_at_builtin;refine qgB EV rfl _ _ 103 64 rfl Tryz.underlying103 qiy rfl (by decide) V.heap.size _ (qar (ls.take i)) (xa,xb,xc) rfl (a2.out.alloc _) _ 0 1 rfl es.out di a9.out ?_)|fail);intro v2 w2 aa hg ae;have cj:Hid (OwnG EV 64 w2 V.heap.size v2 (qar (ls.take (i+1)))):=by
        show OwnG _ _ _ _ _ _;rw [da.out];unfold qar;rw [List.map_append];exact aa
       have b5:Hid (OwnG EI 2 w2 V.heap.size (.slice A8 n8 c8) (qaO (ls.take (i+1)))):=(bd.out.alloc _).kept hg (bd.out.other a2.out (by decide));have fc:Hid (Below V.heap.size V w2):=(bo.out.alloc bo.out.size _).grown hg a9.out (fun k e=>(a2.out.blk e).1);clear aa hg ae di e1 e2 e3;gi_wp2_with fail;go_roundw
       case rel=>exact ⟨i+1,by omega,by go_num,b5,cj,fc⟩
       case measure=>simp [intOf];omega
      ·have b3 : q = i := by omega
       subst b3;have ah:StJ G w wr:=bf.out.trans (ab.out.trans (StJ.of_below ad.out am.out));have bt:∀s ∈ ls,qai s=true:=fun s hs=>ba.out.2.2 s (by rw [bh.out] at hs;exact List.mem_of_mem_drop hs);have a4:ls≠ []:=(by intro e;have :=ap.out;rw [e] at this;exact hm this);have hq:=HQ.out;rw [ap.out] at hq;obtain ⟨kk,ao⟩:∃kk,kk=cutN ls:=⟨_,rfl⟩;have ew:=qc0 bt a4;have d7:=qcU ls;have be:=qiR hq;rw [<-ao] at ew d7 be;obtain ⟨bs,ar⟩:∃bs,bs=ls.take kk:=⟨_,rfl⟩;have eg:kk<=q:=(by omega);have ep:kk<=m:=(by have :=ap.out;omega);rw [<-ar] at be;have ax:=Lib.hid ao;have bu:=Lib.hid ar;have ds:TabT wr:=fun i hi=>(ah.cell HG.out).trans (HT.out i hi);have ex:(qar (ls.take q)).length=q:=(by unfold qar;simp;omega);have bi:bs.length=kk:=(by rw [ar,List.length_take];omega);have ea:∀s ∈ bs,qai s=true:=fun s hs=>bt s (by rw [ar] at hs;exact List.mem_of_mem_take hs);have de:(qaO (ls.take q)).take kk=qaO bs:=by
        rw [ar];unfold qaO;rw [<-List.map_take,List.take_take,Nat.min_eq_left eg]
       have cc:(qaO (ls.take q)).length=q:=(by unfold qaO;simp;omega);have KP:Hid (CallsIn Fence.wide (n-1) Tryz.prog 62 #[u7] wr fun e w'=>∃A n c,e=.returned (.tuple #[.slice A n c,.int .i64 (expL bs),.int .i64 (kk:Nat)])∧OwnG EI 2 w' wr.heap.size (.slice A n c) (qbp bs)∧Below wr.heap.size wr w'):=callsIn_wide.2 (by
        have h:=qjg u7 (qar (ls.take q)) wr ds a5.out.rd (fun y hy=>by
         obtain ⟨s,hs,rfl⟩:=List.mem_map.1 hy;exact (qhb (bt s (List.mem_of_mem_take hs))).2) (by omega)
        rw [be.1,be.2] at h;refine h.mono ?_;rintro e w' ⟨mv,he,ho,hb⟩;obtain ⟨A,n,c,rfl⟩:=ho.sl;exact ⟨A,n,c,he,ho,hb⟩)
       obtain ⟨A6,c6,e6,fi,_⟩:=an.out.rd;rw [cc] at e6 fi;subst e6;have f2:kk<=c6:=(by omega);have eq:Hid (∀w',Below wr.heap.size wr w'->RdG EI w' w'.heap.size (.slice A6 kk c6) (qaO bs)):=fun w' hb=>by
        have h:=an.out.rd.on hb;rw [<-de];exact h.cutTo cc.symm eg
       have br:qaJ (qar bs)=true:=(by rw [ar,ao];exact qis ls);have cz:Hid (∀x ∈ qbp bs,In64 x):=fun x hx=>by
        unfold qbp at hx;obtain ⟨v,hv,rfl⟩:=List.mem_map.1 hx;exact qkt (qce br v hv).1 (qce br v hv).2
       have dd:Hid (∀x ∈ qaO bs,In64 x):=fun x hx=>by
        unfold qaO at hx;obtain ⟨s,hs,rfl⟩:=List.mem_map.1 hx;exact (qhb (ea s hs)).1
       have ec:=qb5 (fun v hv=>(qce br v hv).1);have ee:Hid (-300<=expL bs∧expL bs<=290):=ec;have a3:Hid ((qbp bs).length=kk∧(qaO bs).length=kk):=(by show _∧_;unfold qbp qar qaO;simp [bi]);obtain ⟨pu,dw⟩:∃pu:Nat,pid=(pu:Int):=⟨pid.toNat,by have :=ba.out.1;omega⟩;have ft:pu<=1073741824:=(by have :=ba.out.2.1;omega);have b1:=Lib.hid dw;have f8:IntKind.u64.wrap (pu:Int)=(pu:Int):=(by rw [IntKind.wrap_u64];omega);have fv:((kk:Int)==0)=false:=(by simp;omega);have fj:pb<wr.heap.size:=Nat.lt_of_lt_of_le (Array.getElem?_eq_some_iff.1 aj.out).1 ad.out.size;have cx:Hid (wr.heap[pb]? =some (.cells #[.int .i64 pid,.slice As R cs] 62 (0,0))):=(ad.out.block _ (Array.getElem?_eq_some_iff.1 aj.out).1).trans aj.out;have d9:=Lib.hid fj;have f7:Fence.wide.fn 62:=trivial;have fs:Fence.wide.fn 35:=trivial;have f1:Fence.wide.fn 63:=trivial;have fq:Fence.wide.fn 64:=trivial;clear ah bt a4 hq ao be ar ds ex ea de cc br ec bi an a5 dw;gi_wp2_with fail;refine KP.out.mono ?_;rintro e w1 ⟨Am,nm,cm,rfl,hM,ci⟩;have fl:=Lib.hid hM;have ac:=Lib.hid ci;have c0:w1.cell? ⟨pb,0,none⟩=some (.int .i64 (pu:Int)):=(by rw [ci.cell d9.out];simp [World.cell?,cx.out,b1.out]);have KPut:Hid (CallsIn Fence.wide (n-1) Tryz.prog 35 #[.slice none 0 0,.int .u64 (pu:Int)] w1 fun e w'=>∃A n c,e=.returned (.slice A n c)∧OwB w' w1.heap.size A n c (putV pu)∧Below w1.heap.size w1 w'):=callsIn_wide.2 ((qbo (.slice none 0 0) [] pu w1 (RdG.nil _ _) (by omega) (by simp)).mono (by
        rintro e w' ⟨v',rfl,ho,hb⟩;obtain ⟨A,n,c,rfl,h⟩:=ho.ob;exact ⟨A,n,c,rfl,h,hb⟩))
       have en:=Lib.hid c0;clear hM ci KP;gi_wp2_with fail;refine KPut.out.mono ?_;rintro e w2 ⟨A9,n9,c9,rfl,dk,b2⟩;have em:=Lib.hid dk;have dj:=Lib.hid b2;have KE:Hid (CallsIn Fence.wide (n-1) Tryz.prog 63 #[.slice A6 kk c6] w2 fun e w'=>∃A n c,e=.returned (.slice A n c)∧OwB w' w2.heap.size A n c (encV (qaO bs))∧Below w2.heap.size w2 w'):=callsIn_wide.2 (qef _ _ w2 (eq.out w2 (ac.out.trans (b2.mono ac.out.size))) dd.out (by have :=a3.out.2;omega));clear dk b2 KPut c0;gi_wp2_with fail;refine KE.out.mono ?_;rintro e w3 ⟨Ae,ne,ce,rfl,db,ck⟩;have dm:=Lib.hid db;have al:Hid (Below w1.heap.size w1 w3):=dj.out.trans (ck.mono dj.out.size);have a0:Hid (OwnG EB 5 w3 w1.heap.size (.slice A9 n9 c9) (putV pu)):=em.out.1.below ck;have dx:=qax 9 pu (by omega);have ey:=qfO dd.out (by have :=a3.out.2;omega);have cq:Hid ((putV pu).length<=10∧(encV (qaO bs)).length<=200):=⟨dx,by have :=a3.out.2;have :=ax.out;have :=(qcU ls).2;omega⟩;have ef:((putV pu).length+(encV (qaO bs)).length)*1<=140737488355328:=(by have :=cq.out;omega);have eu:Hid (encV (qaO bs)≠ []):=qn5 (by have :=a3.out.2;omega);clear db ck KE dx ey;gi_wp2_with (first|(gi_at_builtin;refine qnW EB rfl _ _ 23 5 rfl Tryz.underlying23 qct rfl (by decide) w1.heap.size _ (putV pu) _ (encV (qaO bs)) w3.heap.size rfl a0.out rfl dm.out.1.rd eu.out ef al.out.size ?_)|fail);intro v4 w4 aa hg ae;have af:Hid (Below w1.heap.size w1 w4):=a0.out.step al.out al.out.size hg;have dl:=Lib.hid aa;obtain ⟨A4,n4,c4,e4⟩:=aa.sl
       subst e4;obtain ⟨b4,bn⟩:∃b4,b4=putV pu++encV (qaO bs):=⟨_,rfl⟩;rw [<-bn] at dl;have dr:=Lib.hid bn;have eh:b4.length<=100000:=(by rw [bn,List.length_append];have :=cq.out;omega);have KA:Hid (CallsIn Fence.wide (n-1) Tryz.prog 64 #[.slice A4 n4 c4,.slice (some ⟨w4.heap.size,0,none⟩) 1 1] (w4.alloc (.cells #[.int .i64 (expL bs)] 2)) fun e w'=>∃A n c,e=.returned (.slice A n c)∧OwB w' (w4.heap.size+1) A n c (b4++allV [expL bs])∧Below w4.heap.size w4 w'∧w4.heap.size+1<=w'.heap.size):=callsIn_wide.2 (by
        have hc:=CellG.mk (E:=EI) (w:=w4) (cs:= #[.int .i64 (expL bs)]) (x:=expL bs) rfl 2;have h:=qcu (.slice A4 n4 c4) b4 (.slice (some ⟨w4.heap.size,0,none⟩) 1 1) [expL bs] (w4.alloc (.cells #[.int .i64 (expL bs)] 2)) (dl.out.alloc _).rd
         ⟨some ⟨w4.heap.size, 0, none⟩, 1, rfl, Nat.le_refl _, fun e => (by cases e), .inr ⟨w4.heap.size, 0, rfl, by simp, fun i hi => by
          obtain rfl:i=0:=(by simp at hi;omega);simpa using hc⟩⟩ (fun x hx=>by rw [List.mem_singleton] at hx;subst hx;unfold In64;have :=ee.out;omega) eh (by simp)
        refine h.mono ?_;rintro e w' ⟨v',rfl,ho,hb⟩;obtain ⟨A,n,c,rfl,h⟩:=ho.ob;have hz:=hb.size;rw [World.size_alloc] at h hb hz;exact ⟨A,n,c,rfl,h,((Below.refl _ w4).alloc (Nat.le_refl _) _).trans (hb.mono (by omega)),hz⟩)
       clear aa hg ae ef bn al a0 dm;gi_wp2_with fail;refine KA.out.mono ?_;rintro e w5 ⟨A5,n5,c5',rfl,d4,bk,fa⟩;have fb:=Lib.hid d4;have au:Hid (Below w1.heap.size w1 w5):=af.out.trans (bk.mono af.out.size);have az:=Lib.hid bk.size;have b9:=Lib.hid bk;have ch:=Lib.hid fa;have a6:Hid (W0.heap.size<=w4.heap.size):=Nat.le_trans (Nat.le_trans (Nat.le_trans ak.out.size ad.out.size) ac.out.size) af.out.size;have bv:Hid ((qae l)[pre.length]? =some ((pu:Int),bs)∧RdJ G w (.slice (some ⟨g,o2,none⟩) kk kk) bs):=by
        have a4:ls≠ []:=(by intro e;have :=ap.out;rw [e] at this;exact hm this);have h1:=qkK aw.out a4;rw [List.length_map,<-ax.out,<-bu.out,b1.out] at h1;have d7:=(qcU ls).1;have f6:=ax.out;have bi:bs.length=kk:=(by rw [bu.out,List.length_take];omega);refine ⟨h1,some ⟨g,o2,none⟩,kk,by rw [bi],by omega,.inr ⟨g,o2,rfl,d6.out,fun i hi=> ?_⟩⟩;have h2:=dq.out i (by omega);have e2:bs[i]=ls[i]'(by omega):=(by simp [bu.out]);rw [e2];exact h2
       have fe:Hid (pre.length<(qae l).length):=(List.getElem?_eq_some_iff.1 bv.out.1).1;clear d4 bk KA eh;gi_wp2_with fail;have el:kk<=c':=(by omega);have cy:Hid (pb<w1.heap.size):=Nat.lt_of_lt_of_le d9.out ac.out.size;have fk:Hid (∀w',Below w5.heap.size w5 w'->RdG EI w' w'.heap.size (.slice Am nm cm) (qbp bs)):=fun w' hb=>(fl.out.rd.on au.out).on hb;have ez:=cz;have KE2:Hid (∀w',Below w5.heap.size w5 w'->CallsIn Fence.wide (n-1) Tryz.prog 63 #[.slice Am nm cm] w' fun e w''=>∃A n c,e=.returned (.slice A n c)∧OwB w'' w'.heap.size A n c (encV (qbp bs))∧Below w'.heap.size w' w''):=fun w' hb=>callsIn_wide.2 (qef _ _ w' (fk.out w' hb) cz.out (by have :=a3.out.1;have :=ax.out;have :=(qcU ls).2;omega));have c5:w5.drew.cell? ⟨pb,0,none⟩=some (.int .i64 (pu:Int)):=(au.out.cell cy.out).trans en.out;have dn:=Lib.hid c5;have dv:Hid (Below w5.heap.size w5 w5.drew):=((Ext.refl w5).drewN _).below;have cp:Tryz.prog.follows Departure.mixedOrders=true:=(by kernel_rfl);have co:Hid ((b4++allV [expL bs]).length<=1000∧(encV (qbp bs)).length<=1000∧encV (qbp bs)≠ []∧(b4++allV [expL bs])++encV (qbp bs)=blkB ((pu:Int),bs)):=by
        have h1:=qdS (l:=[expL bs]) (fun x hx=>by rw [List.mem_singleton] at hx;subst hx;unfold In64;have :=ee.out;omega);have h2:=qfO cz.out (by have :=a3.out.1;have :=ax.out;have :=(qcU ls).2;omega);have h3:=a3.out.1;have h4:=(qcU ls).2;have h5:=ax.out;have h6:=cq.out;refine ⟨by rw [List.length_append,dr.out,List.length_append];simp at h1;omega,by omega,qn5 (by omega), ?_⟩;rw [dr.out];unfold blkB;simp only [List.append_assoc,Int.toNat_natCast]
       refine wpIn_region_any cp ?_;change wpAnyIn _ _ _ _ _ _ _ _ _ (World.drew _);clear c5;have c5:=dn.out
       refine wpAnyIn_take (i := 0) (v := ?_) rfl rfl (by kernel_rfl) (by kernel_rfl) (by kernel_rfl) (fun _ _ _ h => h) ⟨Or.inl ⟨by rfl, ?_⟩, fun _ => rfl⟩ ?_
       rotate_left
       · intro w
         (go_simp <;> with_reducible rfl)
       refine wpAnyIn_take (i := 1) (v := ?_) rfl rfl (by kernel_rfl) (by kernel_rfl) (by kernel_rfl) (fun _ _ _ h => h) ⟨Or.inl ⟨by rfl, ?_⟩, fun _ => rfl⟩ ?_
       rotate_left
       · intro w
         (go_simp <;> with_reducible rfl)
       refine wpAnyIn_take (i := 3) (v := ?_) rfl rfl (by kernel_rfl) (by kernel_rfl) (by kernel_rfl) (fun _ _ _ h => h) ⟨Or.inl ⟨by rfl, ?_⟩, fun _ => rfl⟩ ?_
       rotate_left
       · intro w
         (go_simp <;> with_reducible rfl)
       refine wpAnyIn_take (i := 4) (v := ?_) rfl rfl (by kernel_rfl) (by kernel_rfl) (by kernel_rfl) (fun _ _ _ h => h) ⟨Or.inl ⟨by rfl, ?_⟩, fun _ => rfl⟩ ?_
       rotate_left
       · intro w
         (go_simp <;> with_reducible rfl)
       refine wpAnyIn_take (i := 5) (v := ?_) rfl rfl (by kernel_rfl) (by kernel_rfl) (by kernel_rfl) (fun _ _ _ h => h) ⟨Or.inl ⟨by rfl, ?_⟩, fun _ => rfl⟩ ?_
       rotate_left
       · intro w
         (go_simp <;> with_reducible rfl)
       refine wpAnyIn_take (i := 6) (v := ?_) rfl rfl (by kernel_rfl) (by kernel_rfl) (by kernel_rfl) (fun _ _ _ h => h) ⟨Or.inl ⟨by rfl, ?_⟩, fun _ => rfl⟩ ?_
       rotate_left
       · intro w
         (go_simp <;> with_reducible rfl)
       refine wpAnyIn_take (i := 8) (v := ?_) rfl rfl (by kernel_rfl) (by kernel_rfl) (by kernel_rfl) (fun _ _ _ h => h) ⟨Or.inl ⟨by rfl, ?_⟩, fun _ => rfl⟩ ?_
       rotate_left
       · intro w
         (go_simp <;> with_reducible rfl)
       refine wpAnyIn_take (i := 9) (v := ?_) rfl rfl (by kernel_rfl) (by kernel_rfl) (by kernel_rfl) (fun _ _ _ h => h) ⟨Or.inl ⟨by rfl, ?_⟩, fun _ => rfl⟩ ?_
       rotate_left
       · intro w
         (go_simp <;> with_reducible rfl)
       refine wpAnyIn_ready (rs:=[2,10]) (by kernel_rfl) (by simp) ?_;refine AllReadyIn.cons rfl (fun K hK=> ?_) (AllReadyIn.cons rfl (fun K hK=> ?_) AllReadyIn.nil)
       focus
        go_simp
        refine hK _ _ ?_;clear hK K
        refine wpAnyIn_take (i := 7) (v := ?_) rfl rfl (by kernel_rfl) (by kernel_rfl) (by kernel_rfl) (fun _ _ _ h => h) ⟨Or.inl ⟨by rfl, ?_⟩, fun _ => rfl⟩ ?_
        rotate_left
        · intro w
          (go_simp <;> with_reducible rfl)
        refine wpAnyIn_ready (rs:=[10]) (by kernel_rfl) (by simp) ?_;refine AllReadyIn.cons rfl (fun K hK=> ?_) AllReadyIn.nil
       all_goals
        go_simp
        refine (KE2.out _ dv.out).mono ?_;rintro e w6 ⟨A7,n7,c7,rfl,hE,hB⟩;have ev:=Lib.hid hE;have ag:Hid (Below w5.heap.size w5 w6):=dv.out.trans hB;have ct:Hid (OwnG EB 5 w6 (w4.heap.size+1) (.slice A5 n5 c5') (b4++allV [expL bs])):=fb.out.1.below ag.out;have c6w:w6.cell? ⟨pb,0,none⟩=some (.int .i64 (pu:Int)):=(ag.out.cell (Nat.lt_of_lt_of_le cy.out au.out.size)).trans dn.out;have eo:=Lib.hid c6w;clear hE hB;dsimp only;refine hK _ _ ?_;clear hK K
       focus
        refine wpAnyIn_ready (rs:=[11]) (by kernel_rfl) (by simp) ?_;refine AllReadyIn.cons rfl (fun K hK=> ?_) AllReadyIn.nil
       rotate_left
       focus
        refine wpAnyIn_ready (rs:=[2,11]) (by kernel_rfl) (by simp) ?_;refine AllReadyIn.cons rfl (fun K hK=> ?_) (AllReadyIn.cons rfl (fun K hK=> ?_) AllReadyIn.nil)
       focus
        go_simp
        refine hK _ _ ?_;clear hK K
        refine wpAnyIn_take (i := 7) (v := ?_) rfl rfl (by kernel_rfl) (by kernel_rfl) (by kernel_rfl) (fun _ _ _ h => h) ⟨Or.inl ⟨by rfl, ?_⟩, fun _ => rfl⟩ ?_
        rotate_left
        · intro w
          (go_simp <;> with_reducible rfl)
        refine wpAnyIn_ready (rs:=[11]) (by kernel_rfl) (by simp) ?_;refine AllReadyIn.cons rfl (fun K hK=> ?_) AllReadyIn.nil
       all_goals
        refine qcV rfl EB rfl _ _ 23 5 rfl Tryz.underlying23 qct rfl (by decide) (w4.heap.size+1) _ (b4++allV [expL bs]) _ (encV (qbp bs)) w6.heap.size rfl ct.out rfl ev.out.1.rd co.out.2.2.1 (by have :=co.out;omega) (Nat.le_trans ch.out ag.out.size) ?_;intro v7 w7 aa hg ae;have cr:w7.cell? ⟨pb,0,none⟩=some (.int .i64 (pu:Int)):=by
         have b0:pb<w4.heap.size:=Nat.lt_of_lt_of_le cy.out af.out.size;have e:=hg.block pb (Nat.lt_of_lt_of_le b0 (Nat.le_trans az.out ag.out.size)) (fun e=>by have :=(ct.out.blk e.symm).1;omega);have h:=eo.out;unfold World.cell? at h ⊢;rw [e];exact h
        have fm:=Lib.hid cr;have dp:Hid (Below w4.heap.size w4 w7):=(ct.out.lower (Nat.le_succ _)).step (b9.out.trans (ag.out.mono az.out)) (Nat.le_trans az.out ag.out.size) hg;have fg:Hid (OwnG EB 5 w7 (w4.heap.size+1) v7 (blkB ((pu:Int),bs))):=by
         show OwnG _ _ _ _ _ _;rw [<-co.out.2.2.2];exact aa
        have cv:Hid (Below W0.heap.size W0 w7):=(ak.out.trans ((ad.out.mono ak.out.size).trans ((ac.out.mono (Nat.le_trans ak.out.size ad.out.size)).trans (af.out.mono (Nat.le_trans (Nat.le_trans ak.out.size ad.out.size) ac.out.size))))).trans (dp.out.mono (a6.out));have er:=HY.out pre (((pu:Int),bs),.slice (some ⟨g,o2,none⟩) kk kk,v7) W0 w7 HJ.out fe.out cv.out ⟨bv.out.1,bv.out.2,fun n c e=>(by cases e),fg.out.lower (Nat.le_trans a6.out (Nat.le_succ _))⟩;obtain ⟨fn,tmps,assign,body,hy,dt⟩:=er;have dh:=Lib.hid dt;dsimp only [encH] at hy;clear aa hg ae dt;refine hK _ _ ?_;clear hK K
       rotate_left
       focus
        refine wpAnyIn_ready (rs:=[2]) (by kernel_rfl) (by simp) ?_;refine AllReadyIn.cons rfl (fun K hK=> ?_) AllReadyIn.nil
        go_simp
        refine hK _ _ ?_;clear hK K
        refine wpAnyIn_take (i := 7) (v := ?_) rfl rfl (by kernel_rfl) (by kernel_rfl) (by kernel_rfl) (fun _ _ _ h => h) ⟨Or.inl ⟨by rfl, ?_⟩, fun _ => rfl⟩ ?_
        rotate_left
        · intro w
          (go_simp <;> with_reducible rfl)
       all_goals
        refine wpAnyIn_ready (rs:=[12]) (by kernel_rfl) (by simp) ?_;refine AllReadyIn.cons rfl (fun K hK=> ?_) AllReadyIn.nil
        go_simp
        refine dh.out.mono ?_;rintro e W3 hh;obtain ⟨qq,rfl,bl,bp⟩:=toQ hh;have ay:Hid (Below V.heap.size V w7):=(ad.out.trans ((ac.out.mono ad.out.size).trans (af.out.mono (Nat.le_trans ad.out.size ac.out.size)))).trans (dp.out.mono (Nat.le_trans (Nat.le_trans ad.out.size ac.out.size) af.out.size));dsimp only;refine hK _ _ ?_;clear hK K hh hy dh
        refine wpAnyIn_take (i := 13) (v := ?_) rfl rfl (by kernel_rfl) (by kernel_rfl) (by kernel_rfl) (fun _ _ _ h => h) ⟨Or.inl ⟨by rfl, ?_⟩, fun _ => rfl⟩ ?_
        rotate_left
        · intro w
          (go_simp <;> with_reducible rfl)
        refine wpAnyIn_done (by kernel_rfl) ?_ _;cases qq with
        | false =>
          have e0:=bp rfl;gi_wp2_with fail;refine bodyPost_ret (results_none rfl _ _ _) rfl ?_;exact ⟨⟨_,rfl⟩,.inr ⟨_,W3,e0,Below.refl _ _⟩⟩
        | true =>
          obtain ⟨cw,bj⟩:=bl rfl;have ei:=Lib.hid cw;have ej:Hid (StJ G W W3):=ab.out.trans ((StJ.of_below ay.out am.out).trans (fd.out _ _ (bf.out.trans (ab.out.trans (StJ.of_below ay.out am.out))) bj));have b6:pb<V.heap.size:=(Array.getElem?_eq_some_iff.1 aj.out).1;have dg:Hid (W3.heap[pb]? =some (.cells #[.int .i64 pid,.slice As R cs] 62 (0,0))):=bj.2 pb _ ((ay.out.block pb b6).trans aj.out) (by show (!kt 62)=true;rw [hkt];rfl);have bc:Hid ((pre++[(((pu:Int),bs),Value.slice (some ⟨g,o2,none⟩) kk kk,v7)]).map (fun x=>x.1)++(qaV (ps.drop (r+kk)).length (ps.drop (r+kk))).map (fun s=>(pid,s))=qae (l.take (k+1))):=by
           have a4:ls≠ []:=(by intro e;have :=ap.out;rw [e] at this;exact hm this);have h1:=qg9 aw.out a4 (fun s hs=>ba.out.2.2 s (by rw [bh.out] at hs;exact List.mem_of_mem_drop hs));show _=_;rw [<-h1,List.map_append,<-ax.out,<-bu.out,b1.out,<-List.drop_drop,<-bh.out];rfl
          have cf:Hid ((m-kk)+(r+kk)=R):=(by have :=HM.out;show _=_;omega);by_cases hkc3:kk=c'
          ·have a1:Hid (RdJ G w (.slice (some ⟨g,o2,none⟩) 0 0) (ps.drop (r+kk))):=by
            have e:ps.drop (r+kk)=[]:=List.drop_eq_nil_of_le (by have :=HM.out;have :=bg.out;omega);show RdJ _ _ _ _;rw [e];exact ⟨_,0,rfl,Nat.le_refl _,.inl rfl⟩
           have cf:Hid (0+(r+kk)=R):=(by have :=HM.out;show _=_;omega);have fr:m=kk:=(by omega);clear cw bj b6 bl bp;gi_wp2_with fail;go_roundw
           case rel=>exact ⟨r+kk,0,_,_,_,W3,rfl,cf,a1,bc,ei,Below.refl _ _,ej,dg⟩
           case measure=>simp [qh0];omega
          ·have a1:Hid (RdJ G w (.slice (some ⟨g,o2+kk*4,none⟩) (m-kk) (c'-kk)) (ps.drop (r+kk))):=by
            have h:=RdJ.cutFrom0 ap.out cl.out ep;show RdJ _ _ _ _;rw [<-List.drop_drop,<-bh.out];exact h
           clear cw bj b6 bl bp;gi_wp2_with fail;go_roundw
           case rel=>exact ⟨r+kk,m-kk,_,_,_,W3,rfl,cf,a1,bc,ei,Below.refl _ _,ej,dg⟩
           case measure=>simp [qh0];omega
  ·have b8:k=N:=(by omega);have ca:Hid (pre.map (fun x=>x.1)=qae l):=(by have h:=HP.out;rw [b8,HN.out,List.take_length] at h;exact h);have i1:¬(k:Int)<(N:Int):=(by omega);gi_wp2_with fail
   first|go_end0|refine bodyPost_ret (results_none rfl _ _ _) rfl ?_
   exact ⟨⟨_,rfl⟩,.inl ⟨_,ca.out,W0,HJ.out,bq.out⟩⟩
theorem qjU (kt:TypeId->Bool) (hkt:kt 62=false) (Z n Bb:Nat) (pv:Value) (l:List Pts) (w:World) (hn:12<=n) (hBb:w.cell? ⟨Bb,0,none⟩=some pv) (hbb:Bb<w.heap.size) (hZ:Z<=w.heap.size) (hR:RdP w Z pv l) (hT:TabT w) (hg:0<Z) (hs:qeX l) (hk:OkP l):
  qjD kt Z Fence.wide n Tryz.prog 61 #[.pointer (some ⟨Bb,0,none⟩)] encH (NewH w Z l) (fun xs=>xs.map (fun x=>x.1)=qae l) (fun _=>True) (qae l).length w:=
 qeA (fun b=>b<Z) kt hkt Z n Bb pv l w hn hBb hbb (fun _ hb=>Nat.lt_of_lt_of_le hb hZ) (fun _ _ _ h=>StJ.of_below h.1 (fun _ hb=>hb)) hR hT hg hs hk
end Go.Proofs.YtnkelahimiipjaaGreatDoor
