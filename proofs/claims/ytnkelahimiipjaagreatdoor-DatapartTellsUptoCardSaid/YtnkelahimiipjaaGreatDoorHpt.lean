/-
 What a file tells from a tick to another one, of some numbers: the blocks that are read, and what is made of them.
-/
import Derived.Test.YtnkelahimiipjaaGreatDoorBqt
import Derived.Test.YtnkelahimiipjaaGreatDoorCct
import Derived.Test.YtnkelahimiipjaaGreatDoorPlt
import Derived.Test.YtnkelahimiipjaaGreatDoorQpt
import Derived.Test.YtnkelahimiipjaaGreatDoorPzt
import Derived.Test.YtnkelahimiipjaaGreatDoorCtt
import Derived.RangeFuncNested
import Derived.RangeFuncBound
import Derived.RangeFuncCalls
import Derived.RangeFuncLeaves
import Derived.Shelf.Abstract
import Derived.Shelf.RegionOpen
import Derived.WalkKit
import Derived.OwnWalkIn
import Derived.TacticsInMore
import Derived.LoopNIn
import Derived.LoopIn
import Derived.Test.YtnkelahimiipjaaGreatDoorHnt
import Derived.Test.YtnkelahimiipjaaGreatDoorCqt
import Derived.Test.YtnkelahimiipjaaGreatDoorCzt
import Derived.Test.YtnkelahimiipjaaGreatDoorJrt
import Derived.Test.YtnkelahimiipjaaGreatDoorCjt
import Derived.Test.YtnkelahimiipjaaGreatDoorVrt
import Derived.Test.YtnkelahimiipjaaGreatDoorCwt
set_option maxRecDepth 100000
set_option maxHeartbeats 8000000
namespace Go.Proofs.YtnkelahimiipjaaGreatDoor
def UpT1 (c:List Smp):Prop:=c.Pairwise (fun a b=>a.1<=b.1)
theorem qcq {c:List Smp} (h:c≠ []):∃s ∈ c,qaX c=s.1:=by
 cases c with
 |nil=>exact absurd rfl h
 |cons s c=>exact ⟨s,List.mem_cons_self,rfl⟩
theorem qdV {c:List Smp} (h:c≠ []):∃s ∈ c,qbu c=s.1:=by
 refine ⟨c.getLast h,List.getLast_mem h, ?_⟩;unfold qbu;rw [List.getLast?_eq_some_getLast h];rfl
theorem qim {c:List Smp} (h:UpT1 c):∀x ∈ c,qaX c<=x.1:=by
 cases c with
 |nil=>intro x hx;cases hx
 | cons s c =>
   intro x hx;have h2:=List.pairwise_cons.1 h;rcases List.mem_cons.1 hx with rfl|hx
   ·exact Int.le_refl _
   ·exact h2.1 x hx
theorem qmt {c:List Smp} (h:UpT1 c):∀x ∈ c,x.1<=qbu c:=by
 intro x hx;have aa:c≠ []:=List.ne_nil_of_mem hx;have e:c=c.dropLast++[c.getLast aa]:=(List.dropLast_concat_getLast aa).symm;have el:qbu c=(c.getLast aa).1:=by unfold qbu;rw [List.getLast?_eq_some_getLast aa];rfl
 rw [el];have h2:UpT1 (c.dropLast++[c.getLast aa]):=by rw [<-e];exact h
 have h3:=List.pairwise_append.1 h2;rw [e] at hx;rcases List.mem_append.1 hx with hx|hx
 ·exact h3.2.2 x hx _ List.mem_cons_self
 ·obtain rfl:x=c.getLast aa:=by simpa using hx
  exact Int.le_refl _
theorem ql4:∀(f:Nat) (l:List Smp),UpT1 l->∀c ∈ qaV f l,UpT1 c
 |0,_,_,c,hc=>by simp [qaV] at hc
 | f + 1, l, h, c, hc => by
   unfold qaV at hc
   split at hc
   ·cases hc
   ·rcases List.mem_cons.1 hc with rfl|hc
    ·exact List.Pairwise.sublist (List.take_sublist _ _) h
    ·exact ql4 f _ (List.Pairwise.sublist (List.drop_sublist _ _) h) c hc
theorem qgq:∀(f:Nat) (l:List Smp),(∀s ∈ l,qai s=true)->UpT1 l->(qaV f l).Pairwise (fun a b=>qbu a<=qaX b)
 |0,_,_,_=>by simp [qaV]
 | f + 1, l, hr, h => by
   unfold qaV
   split
   ·exact List.Pairwise.nil
   case isFalse h0=>
    have hr2:∀s ∈ l.drop (cutN l),qai s=true:=fun s hs=>hr s (List.mem_of_mem_drop hs);refine List.pairwise_cons.2 ⟨fun b hb=> ?_,qgq f _ hr2 (List.Pairwise.sublist (List.drop_sublist _ _) h)⟩;have h2:UpT1 (l.take (cutN l)++l.drop (cutN l)):=(by rw [List.take_append_drop];exact h);have h3:=(List.pairwise_append.1 h2).2.2;have hn:l.take (cutN l)≠ []:=by
     intro e;have :(l.take (cutN l)).length=0:=(by rw [e];rfl);rw [List.length_take] at this;have h4:=qc0 hr h0;have :=List.length_pos_iff.2 h0;omega
    obtain ⟨k1,_,_,k4⟩:=qbq f _ hr2 b hb;obtain ⟨s,hs,e1⟩:=qdV hn;obtain ⟨t,ht,e2⟩:=qcq k1;rw [e1,e2];exact h3 s hs t (k4 t ht)
theorem qmp {c:List Pts} (h:Clean c):(qae c).Pairwise (fun a b=>a.1=b.1->qbu a.2<=qaX b.2):=by
 unfold qae;rw [List.pairwise_flatMap];constructor
 ·intro q hq;unfold qcP;rw [List.pairwise_map];have h9:=qgq q.2.length q.2 (h.bd q hq) (qfK (h.up q hq));refine h9.imp ?_;intro a b aa _;exact aa
 ·refine h.ids.imp fun {a b} aa x hx y hy e=> ?_;unfold qcP at hx hy;obtain ⟨s,_,rfl⟩:=List.mem_map.1 hx;obtain ⟨t,_,rfl⟩:=List.mem_map.1 hy;have e:a.1=b.1:=e;omega
def qaz (ids:List Int) (f t:Int) (b:Blk):Bool:=decide (b.1 ∈ ids) && (decide (qaX b.2<=t) && decide (f<=qbu b.2))
def ofB (l:List Pts) (ids:List Int) (f t:Int):List Pts:=((qae l).filter (qaz ids f t)).map (fun b=>(b.1,delS f t b.2))
def ofV (l:List Pts) (ids:List Int) (f t:Int):List Pts×Nat:=(qag (ofB l ids f t),((qae l).filter (qaz ids f t)).length)
theorem qhc {c:List Pts} (h:Clean c) {b:Blk} (hb:b ∈ qae c):UpT1 b.2∧b.2≠ []∧∀x ∈ b.2,0<=x.1∧x.1<=1099511627776:=by
 obtain ⟨q,hq,_,h2⟩:=qcM.1 hb;obtain ⟨k1,_,_,k4⟩:=qbq _ _ (h.bd q hq) _ h2;exact ⟨ql4 _ _ (qfK (h.up q hq)) _ h2,k1,fun x hx=>qco (h.bd q hq x (k4 x hx))⟩
theorem qhl {c:List Pts} (h:Clean c) (id at_:Int):
  (ofV c [id] 0 1099511627776).2<=(ofV c [id] 0 at_).2+(ofV c [id] (at_+1) 1099511627776).2∧(ofV c [id] 0 at_).2+(ofV c [id] (at_+1) 1099511627776).2<=(ofV c [id] 0 1099511627776).2+1∧(ofV c [id] (at_+1) at_).2<=1:=by
 obtain ⟨bs,ab⟩:∃bs,bs=((qae c).filter (fun b=>decide (b.1=id))).map (fun b=>(qaX b.2,qbu b.2)):=⟨_,rfl⟩;have af:∀x ∈ bs,x.1<=x.2:=by
  rw [ab];intro x hx;obtain ⟨b,hb,rfl⟩:=List.mem_map.1 hx;obtain ⟨k1,k2,_⟩:=qhc h (List.mem_filter.1 hb).1;obtain ⟨s,hs,e⟩:=qcq k2;show qaX b.2<=qbu b.2;rw [e];exact qmt k1 s hs
 have ae:bs.Pairwise (fun a b=>a.2<=b.1):=by
  rw [ab,List.pairwise_map];refine List.Pairwise.imp_of_mem ?_ ((qmp h).filter _);intro a b ha hb ad;have e1:=of_decide_eq_true (List.mem_filter.1 ha).2;have e2:=of_decide_eq_true (List.mem_filter.1 hb).2;exact ad (e1.trans e2.symm)
 have aa:∀f t,(ofV c [id] f t).2=bs.countP (fun x=>decide (x.1<=t) && decide (f<=x.2)):=fun f t=>by
  show ((qae c).filter (qaz [id] f t)).length=_;rw [ab,List.countP_map,List.countP_eq_length_filter,List.filter_filter];congr 1;refine List.filter_congr fun b _=> ?_;unfold qaz;simp only [List.mem_singleton,Function.comp];rw [Bool.and_comm]
 have ac:∀x ∈ bs,0<=x.2∧x.1<=1099511627776:=by
  rw [ab];intro x hx;obtain ⟨b,hb,rfl⟩:=List.mem_map.1 hx;obtain ⟨_,k2,k3⟩:=qhc h (List.mem_filter.1 hb).1;obtain ⟨s,hs,e⟩:=qcq k2;obtain ⟨t,ht,e2⟩:=qdV k2;exact ⟨by show 0<=qbu b.2;rw [e2];exact (k3 t ht).1,by show qaX b.2<=_;rw [e];exact (k3 s hs).2⟩
 obtain ⟨i1,i2,i3⟩:=qif at_ bs af ae;have c1:(ofV c [id] 0 1099511627776).2=bs.length:=by
  rw [aa,List.countP_eq_length];intro x hx;have :=ac x hx;simp;omega
 have c2:(ofV c [id] 0 at_).2=bs.countP (fun x=>decide (x.1<=at_)):=by
  rw [aa];refine List.countP_congr fun x hx=> ?_;have :=ac x hx;simp;omega
 have c3:(ofV c [id] (at_+1) 1099511627776).2=bs.countP (fun x=>decide (at_<x.2)):=by
  rw [aa];refine List.countP_congr fun x hx=> ?_;have :=ac x hx;simp;omega
 have c4:(ofV c [id] (at_+1) at_).2=bs.countP (fun x=>decide (x.1<=at_) && decide (at_<x.2)):=by
  rw [aa];refine List.countP_congr fun x hx=> ?_;simp;omega
 rw [c1,c2,c3,c4];exact ⟨i1,i2,i3⟩
theorem qei {c:List Pts} (h:Clean c) {ids:List Int} {f t k:Int} {x:Smp}:x ∈ ofL (ofB c ids f t) k↔k ∈ ids∧x ∈ ofL c k∧f<=x.1∧x.1<=t:=by
 rw [qcc,qcc];constructor
 ·rintro ⟨p,hp,e,hx⟩;unfold ofB at hp;obtain ⟨b,hb,rfl⟩:=List.mem_map.1 hp;obtain ⟨af,aa⟩:=List.mem_filter.1 hb;obtain ⟨q,hq,h1,h2⟩:=qcM.1 af;have hx:x ∈ delS f t b.2:=hx;obtain ⟨ag,ad⟩:=List.mem_filter.1 hx;have e:b.1=k:=e;unfold qaz at aa;rw [Bool.and_eq_true] at aa;have ac:=of_decide_eq_true aa.1;unfold outS at ad;simp at ad;exact ⟨by rw [<-e];exact ac,⟨q,hq,by rw [<-h1];exact e,(qbq _ _ (h.bd q hq) _ h2).2.2.2 x ag⟩,by omega,by omega⟩
 ·rintro ⟨ac,⟨q,hq,e,hx⟩,hf,ht⟩;have ah:=hx;rw [<-qcy q.2.length q.2 (Nat.le_refl _) (h.bd q hq)] at hx;obtain ⟨s,hs,ab⟩:=List.mem_flatten.1 hx;have hb:(q.1,s) ∈ qae c:=qcM.2 ⟨q,hq,rfl,hs⟩;have ae:=(qhc h hb).1;have h1:qaX s<=x.1:=qim ae x ab;have h2:x.1<=qbu s:=qmt ae x ab;refine ⟨(q.1,delS f t s), ?_,e,List.mem_filter.2 ⟨ab,by unfold outS;simp;omega⟩⟩;unfold ofB;refine List.mem_map.2 ⟨(q.1,s),List.mem_filter.2 ⟨hb, ?_⟩,rfl⟩;unfold qaz;simp only [Bool.and_eq_true,decide_eq_true_eq];exact ⟨by rw [e];exact ac,by omega,by omega⟩
theorem qgs {c:List Pts} (h:Clean c) (id at_:Int) (h0:0<=at_) (h1:at_<1099511627776):qag ((ofV c [id] 0 at_).1++(ofV c [id] (at_+1) 1099511627776).1)=(ofV c [id] 0 1099511627776).1:=by
 refine qbX (qaj _) (qaj _) fun k=> ?_;rw [qbJ];show _=ofL (qag (ofB c [id] 0 1099511627776)) k;rw [qbJ];by_cases hk:inR k=true
 ·rw [if_pos hk,if_pos hk];refine qca fun x=> ?_;have e1:∀f t,x ∈ ofL (ofV c [id] f t).1 k↔(k ∈ [id]∧x ∈ ofL c k∧f<=x.1∧x.1<=t)∧qai x=true:=fun f t=>by
   show x ∈ ofL (qag (ofB c [id] f t)) k↔_;rw [qbJ,if_pos hk,qda,qei h]
  rw [qkh,List.mem_append,e1,e1,qei h];constructor
  ·rintro (⟨⟨a1,a2,a3,a4⟩,hr⟩|⟨⟨a1,a2,a3,a4⟩,hr⟩)
   ·exact ⟨a1,a2,a3,by omega⟩
   ·exact ⟨a1,a2,by omega,a4⟩
  ·rintro ⟨a1,a2,a3,a4⟩;have hr:qai x=true:=by
    obtain ⟨q,hq,_,hx⟩:=qcc.1 a2;exact h.bd q hq x hx
   by_cases hx:x.1<=at_
   ·exact .inl ⟨⟨a1,a2,a3,hx⟩,hr⟩
   ·exact .inr ⟨⟨a1,a2,by omega,a4⟩,hr⟩
 ·rw [if_neg hk,if_neg hk]
theorem qpf {c:List Pts} (f t:Int):ofV c [] f t=([],0):=by
 have e:(qae c).filter (qaz [] f t)=[]:=List.filter_eq_nil_iff.2 fun b _=>by unfold qaz;simp
 unfold ofV ofB;rw [e];rfl
theorem qkm {c:List Pts} (h:Clean c) (id at_:Int):(ofV c [id] (at_+1) at_).1=[]:=by
 refine qbX (qaj _) ⟨List.Pairwise.nil,fun _ hp=>(by cases hp),fun _ hp=>(by cases hp),fun _ hp=>(by cases hp),fun _ hp=>(by cases hp)⟩ fun k=> ?_;show ofL (qag (ofB c [id] (at_+1) at_)) k=_;rw [qbJ];have e:ofL (ofB c [id] (at_+1) at_) k=[]:=by
  apply Classical.byContradiction;intro hn;obtain ⟨x,hx⟩:=List.exists_mem_of_ne_nil _ hn;have :=(qei h).1 hx;omega
 rw [e,qeu]
 split<;>rfl
end Go.Proofs.YtnkelahimiipjaaGreatDoor
namespace Go.Proofs.YtnkelahimiipjaaGreatDoor
open Go.RowKit Go.Sort
theorem qhL (va vb:Value) (a b:List Smp) (W:World) (hRa:Rd W W.heap.size va a) (hRb:Rd W W.heap.size vb b) (hla:a.length*32<=140737488355328):
  Calls Tryz.prog 60 #[va,vb] W fun e w'=>e=.returned (.bool (decide (a=b)))∧Ext W w':=by
 obtain ⟨A,ca,rfl,aj,hA⟩:=hRa;obtain ⟨B,cb,rfl,ah,hB⟩:=hRb;have HA:=Lib.hid hA;have HB:=Lib.hid hB;obtain ⟨q,hq⟩:∃q,q=decide (a=b):=⟨_,rfl⟩;have HQ:Hid (q=decide (a=b)):=hq;rw [<-hq];clear hq hA hB aj ah;obtain ⟨n,hn⟩:∃n,n=a.length:=⟨_,rfl⟩;obtain ⟨m,hm⟩:∃m,m=b.length:=⟨_,rfl⟩;rw [<-hn] at hla ⊢;rw [<-hm];have HN:Hid (n=a.length):=hn;have HM:Hid (m=b.length):=hm;clear hn hm;by_cases hnm:n=m
 ·have g0:(((n:Int)) != (m:Int))=false:=by simp;omega
  go_enter Tryz.func60,Tryz.ntmps60;go_wp2_with fail
  go_loopw [5,13] (fun _ i wl=>∃k:Nat,k<=n∧i=.int .i64 k∧Hid (a.take k=b.take k)∧Hid (Ext W wl))
   (fun _ i _=>n-(intOf i).toNat)
  case atStart=>exact ⟨0,Nat.zero_le _,rfl,rfl,Ext.refl _⟩
  case round=>
   obtain ⟨k,hk,rfl,HT,HE⟩:=hrel;by_cases hlt:k<n
   ·have ac:k<a.length:=(by rw [<-HN.out];exact hlt);have ab:k<b.length:=(by rw [<-HM.out,<-hnm];exact hlt);rcases HA.out with h0|⟨b1,o1,e,an,ae⟩
    ·subst h0;simp at ac
    rcases HB.out with h0|⟨b2,o2,e',am,ad⟩
    ·subst h0;simp at ab
    subst e e';obtain ⟨x,hx⟩:∃x,x=a[k]:=⟨_,rfl⟩;obtain ⟨y,hy⟩:∃y,y=b[k]:=⟨_,rfl⟩;obtain ⟨c0,c1,c2,c3⟩:Cell4 wr b1 (o1+k*4) x:=(by rw [hx];exact (ae k ac).below HE.out.below an);obtain ⟨d0,d1,d2,d3⟩:Cell4 wr b2 (o2+k*4) y:=(by rw [hy];exact (ad k ab).below HE.out.below am);have HF:Hid ((a.take (k+1)=b.take (k+1))↔x=y):=qgR ac ab hx hy HT.out;obtain ⟨p,hp⟩:∃p,p=decide (x=y):=⟨_,rfl⟩;have ai:∀w,(binOp .neq 66 (.agg #[.int .i64 x.1,.int .i64 x.2.1,.int .i64 x.2.2.1,.int .i64 x.2.2.2]) (.agg #[.int .i64 y.1,.int .i64 y.2.1,.int .i64 y.2.2.1,.int .i64 y.2.2.2])).run Tryz.prog w=.ok (.bool (!p)) w:=fun w=>hp▸qlE x y w;have HP:Hid (p=decide (x=y)):=hp;clear hp hx hy ae ad;have ao:k<m:=(by omega);have i1:(k:Int)<(n:Int):=(by omega);have i2:(k:Int)<(m:Int):=(by omega);go_wp2_with fail
    go_quiet (fail)
    clear c0 c1 c2 c3 d0 d1 d2 d3 ai;cases p with
    | true =>
      have al:Hid (a.take (k+1)=b.take (k+1)):=HF.out.2 (of_decide_eq_true HP.out.symm);clear HF HP;go_wp2_with fail;go_roundw
      case rel=>exact ⟨k+1,by omega,by go_num,al,HE.out.drewN nq⟩
      case measure=>simp [intOf];omega
    | false =>
      have aa:a≠b:=fun e=>of_decide_eq_false HP.out.symm (HF.out.1 (by rw [e]));have af:Hid (q=false):=HQ.out.trans (decide_eq_false aa);clear HF HP aa;go_wp2_with fail;go_ret;exact ⟨qao af.out.symm,HE.out.drewN nq⟩
   ·have ag:k=n:=(by omega);have aa:a=b:=by
     have :=HT.out
     rwa [ag,HN.out,List.take_length,<-HN.out,hnm,HM.out,List.take_length] at this
    have ak:Hid (q=true):=HQ.out.trans (decide_eq_true aa);clear aa ag;go_wp2_with fail;go_ret;exact ⟨qao ak.out.symm,HE.out⟩
 ·have g0:(((n:Int)) != (m:Int))=true:=by simp;omega
  have aa:a≠b:=fun e=>hnm (by rw [HN.out,HM.out,e]);have af:Hid (q=false):=HQ.out.trans (decide_eq_false aa);go_enter Tryz.func60,Tryz.ntmps60;go_wp2_with fail;go_ret;exact ⟨qao af.out.symm,Ext.refl _⟩
theorem qnO (i1 i2:Int) (sa sb:Value) (a b:List Smp) (W:World) (hRa:Rd W W.heap.size sa a) (hRb:Rd W W.heap.size sb b) (hla:a.length*32<=140737488355328):
  Calls Tryz.prog 59 #[.agg #[.int .i64 i1,sa],.agg #[.int .i64 i2,sb]] W fun e w'=>e=.returned (.bool (decide ((i1,a)=(i2,b))))∧Ext W w':=by
 obtain ⟨W1,aa⟩:∃W1,W1=(W.alloc (.cells #[.int .i64 i1,sa] 62)).alloc (.cells #[.int .i64 i2,sb] 62):=⟨_,rfl⟩;have hE:Ext W W1:=by rw [aa];exact ((Ext.refl W).alloc _).alloc _
 have c0:W1.cell? ⟨W.heap.size,0,none⟩=some (.int .i64 i1):=by rw [aa];exact ((Ext.refl _).alloc _).cell_some (qaT W _ _ 0)
 have c1:W1.cell? ⟨W.heap.size,1,none⟩=some sa:=by rw [aa];exact ((Ext.refl _).alloc _).cell_some (qaT W _ _ 1)
 have d0:W1.cell? ⟨W.heap.size+1,0,none⟩=some (.int .i64 i2):=by rw [aa];have :=qaT (W.alloc (.cells #[.int .i64 i1,sa] 62)) #[.int .i64 i2,sb] 62 0;rw [World.size_alloc] at this;exact this
 have d1:W1.cell? ⟨W.heap.size+1,1,none⟩=some sb:=by rw [aa];have :=qaT (W.alloc (.cells #[.int .i64 i1,sa] 62)) #[.int .i64 i2,sb] 62 1;rw [World.size_alloc] at this;exact this
 have KE:=Lib.hid (qhL sa sb a b W1 (hRa.below hE.below |>.mono hE.size) (hRb.below hE.below |>.mono hE.size) hla);have HE:=Lib.hid hE;obtain ⟨A,ca,rfl,_⟩:=hRa;obtain ⟨B,cb,rfl,_⟩:=hRb;clear hE hla;by_cases hi:i1=i2
 ·have g:(i1==i2)=true:=by simp [hi]
  have HI:=Lib.hid hi;have hq:decide ((i1,a)=(i2,b))=decide (a=b):=by rw [hi];simp
  rw [hq];clear hi hq;go_enter Tryz.func59,Tryz.ntmps59;go_wp2_with fail;rw [<-aa];clear aa;go_wp2_with fail;refine KE.out.mono ?_;rintro e w1 ⟨rfl,hE⟩;have ab:=Lib.hid (HE.out.trans hE);clear hE KE;go_wp2_with fail;go_ret;exact ⟨rfl,ab.out⟩
 ·have g:(i1==i2)=false:=by simp [hi]
  have hq:decide ((i1,a)=(i2,b))=false:=by simp [hi]
  rw [hq];clear hi hq;go_enter Tryz.func59,Tryz.ntmps59;go_wp2_with fail;rw [<-aa];clear aa;go_wp2_with fail;go_ret;exact ⟨rfl,HE.out⟩
theorem qhW (va vb:Value) (a b:List Pts) (W:World) (hRa:RdP W W.heap.size va a) (hRb:RdP W W.heap.size vb b) (hla:qeX a):
  Calls Tryz.prog 58 #[va,vb,.func (.func 59) #[] #[]] W fun e w'=>e=.returned (.bool (decide (a=b)))∧Ext W w':=by
 obtain ⟨A,ca,rfl,aq,hA⟩:=hRa;obtain ⟨B,cb,rfl,av,hB⟩:=hRb;have HA:=Lib.hid hA;have HB:=Lib.hid hB;have HL:=Lib.hid hla;obtain ⟨q,hq⟩:∃q,q=decide (a=b):=⟨_,rfl⟩;have HQ:Hid (q=decide (a=b)):=hq;rw [<-hq];have al:=hla.1;clear hq hA hB aq av hla;obtain ⟨n,hn⟩:∃n,n=a.length:=⟨_,rfl⟩;obtain ⟨m,hm⟩:∃m,m=b.length:=⟨_,rfl⟩;rw [<-hn] at al ⊢;rw [<-hm];have HN:Hid (n=a.length):=hn;have HM:Hid (m=b.length):=hm;clear hn hm;by_cases hnm:n=m
 ·subst hnm;have g0:(((n:Int)) != (n:Int))=false:=by simp
  go_enter Tryz.func58,Tryz.ntmps58;go_wp2_with fail
  go_loopw [7,8,9,17] (fun _ _ _ i wl=>∃k:Nat,k<=n∧i=.int .i64 k∧Hid (a.take k=b.take k)∧Hid (Ext W wl))
   (fun _ _ _ i _=>n-(intOf i).toNat)
  case atStart=>exact ⟨0,Nat.zero_le _,rfl,rfl,Ext.refl _⟩
  case round=>
   obtain ⟨k,hk,rfl,HT,HE⟩:=hrel;by_cases hlt:k<n
   ·have aa:k<a.length:=(by rw [<-HN.out];exact hlt);have ab:k<b.length:=(by rw [<-HM.out];exact hlt);rcases HA.out with h0|⟨b1,o1,e,ax,af⟩
    ·subst h0;simp at aa
    rcases HB.out with h0|⟨b2,o2,e',aw,ad⟩
    ·subst h0;simp at ab
    subst e e';obtain ⟨x,hx⟩:∃x,x=a[k]:=⟨_,rfl⟩;obtain ⟨y,hy⟩:∃y,y=b[k]:=⟨_,rfl⟩;obtain ⟨c0,sx,c1,am,_⟩:PtAt wr W.heap.size b1 (o1+k*2) x:=(by rw [hx];exact (af k aa).below HE.out.below ax);obtain ⟨d0,sy,d1,ai,_⟩:PtAt wr W.heap.size b2 (o2+k*2) y:=(by rw [hy];exact (ad k ab).below HE.out.below aw);have HF:Hid ((a.take (k+1)=b.take (k+1))↔x=y):=qfc aa ab hx hy HT.out;have aj:x.2.length*32<=140737488355328:=by
     have :=HL.out.2 x (by rw [hx];exact List.getElem_mem aa);omega
    obtain ⟨p,hp⟩:∃p,p=decide (x=y):=⟨_,rfl⟩;obtain ⟨xi,xs⟩:=x;obtain ⟨yi,ys⟩:=y;simp only at c0 d0 am ai aj;have KS:Hid (∀w',Ext wr w'->Calls Tryz.prog 59 #[.agg #[.int .i64 xi,sx],.agg #[.int .i64 yi,sy]] w' fun e w''=>e=.returned (.bool p)∧Ext w' w''):=fun w' h=>by
     rw [hp];have ao:=HE.out.size;have ae:=h.size;exact qnO xi yi sx sy xs ys w' ((am.mono ao).below h.below |>.mono ae) ((ai.mono ao).below h.below |>.mono ae) aj
    have HP:Hid (p=decide ((xi,xs)=(yi,ys))):=hp;obtain ⟨A3,c3,rfl,_⟩:=am;obtain ⟨A4,c4,rfl,_⟩:=ai;have d0':=((Ext.refl wr).alloc (.cells #[.int .i64 xi,.slice A3 xs.length c3] 62)).cell_some d0;have d1':=((Ext.refl wr).alloc (.cells #[.int .i64 xi,.slice A3 xs.length c3] 62)).cell_some d1;have i1:(k:Int)<(n:Int):=(by omega);have ah:Ext wr ((wr.alloc (.cells #[.int .i64 xi,.slice A3 xs.length c3] 62)).alloc (.cells #[.int .i64 yi,.slice A4 ys.length c4] 62)):=((Ext.refl _).alloc _).alloc _;have ap:=Lib.hid ah;have K1:=Lib.hid (KS.out _ ah);clear aa ab af ad hx hy hp aj ah;cases p with
    | true =>
      have au:Hid (a.take (k+1)=b.take (k+1)):=HF.out.2 (of_decide_eq_true HP.out.symm);clear HF HP KS;go_wp2_with fail;refine K1.out.mono ?_;rintro e w1 ⟨rfl,hE⟩;have ak:=Lib.hid ((HE.out.trans ap.out).trans hE);clear hE K1;go_wp2_with fail;go_roundw
      case rel=>exact ⟨k+1,by omega,by go_num,au.out,ak.out⟩
      case measure=>simp [intOf];omega
    | false =>
      have ac:a≠b:=fun e=>of_decide_eq_false HP.out.symm (HF.out.1 (by rw [e]));have ag:Hid (q=false):=HQ.out.trans (decide_eq_false ac);clear HF HP ac KS;go_wp2_with fail;refine K1.out.mono ?_;rintro e w1 ⟨rfl,hE⟩;have ak:=Lib.hid ((HE.out.trans ap.out).trans hE);clear hE K1;go_wp2_with fail;go_ret;exact ⟨qao ag.out.symm,ak.out⟩
   ·have an:k=n:=(by omega);have ac:a=b:=by
     have h:=HT.out;have e1:a.take n=a:=(by rw [HN.out,List.take_length]);have e2:b.take n=b:=(by rw [HM.out,List.take_length]);rw [an,e1,e2] at h;exact h
    have i1:¬(k:Int)<(n:Int):=(by omega);have ar:Hid (q=true):=HQ.out.trans (decide_eq_true ac);clear ac an hlt hk;go_wp2_with fail;go_ret;exact ⟨qao ar.out.symm,HE.out⟩
 ·have g0:(((n:Int)) != (m:Int))=true:=by simp;omega
  have ac:a≠b:=fun e=>hnm (by rw [HN.out,HM.out,e]);have ag:Hid (q=false):=HQ.out.trans (decide_eq_false ac);go_enter Tryz.func58,Tryz.ntmps58;go_wp2_with fail;go_ret;exact ⟨qao ag.out.symm,Ext.refl _⟩
theorem qeD (v:Value) (l:List Pts) (W:World) (T:Tabs W) (hR:RdP W W.heap.size v l) (hwf:∀p ∈ l,(Lit.int .i64 p.1).wf=true) (hn2:l.length<=990000000) (hn3:qad l<=990000000) (hcs:qeX (qag l)):
  Calls Tryz.prog 31 #[v] W fun e w'=>e=.returned (.bool (decide (qag l=l)))∧Below W.heap.size W w':=by
 have KC:=Lib.hid (qnY v l W T hR hwf hn2 hn3);have aa:=Lib.hid hcs;have HR:=Lib.hid hR;obtain ⟨A,c,rfl,_⟩:=hR;clear T hwf hn2 hn3 hcs;go_enter Tryz.func31,Tryz.ntmps31;go_wp2_with fail;refine KC.out.mono ?_;rintro e w1 ⟨r,rfl,hr,hB⟩;have KE:=Lib.hid (qhW r _ (qag l) l w1 hr (HR.out.on hB) aa.out);have HB:=Lib.hid hB;clear hr hB KC;go_wp2_with fail;refine KE.out.mono ?_;rintro e w2 ⟨rfl,hE⟩;have ab:Hid (Below W.heap.size W w2):=HB.out.trans (hE.below.mono HB.out.size);clear hE KE;go_wp2_with fail;go_ret;exact ⟨rfl,ab.out⟩
theorem qen (id:Int) (sv:Value) (x:Smp) (l:List Smp) (W:World) (hR:Rd W W.heap.size sv (x::l)):
  Calls Tryz.prog 33 #[.agg #[.int .i64 id,sv]] W fun e w'=>e=.returned (.int .i64 x.1)∧Ext W w':=by
 obtain ⟨A,c,rfl,hc,hA⟩:=hR;rcases hA with h0|⟨b,o,rfl,hb,aa⟩
 ·simp at h0
 obtain ⟨c0,c1,c2,c3⟩:Cell4 W b o x:=by have h:=aa 0 (by simp);rw [Nat.zero_mul,Nat.add_zero] at h;exact h
 have hE:Ext W (W.alloc (.cells #[.int .i64 id,.slice (some ⟨b,o,none⟩) (x::l).length c] 71)):=(Ext.refl W).alloc _;have d0:=hE.cell_some c0;have HE:=Lib.hid hE;obtain ⟨n,hn⟩:∃n,n=(x::l).length:=⟨_,rfl⟩;have ab:0<n:=by simp [hn]
 have i0:(0:Int)<(n:Int):=by omega
 have i1:(0:Nat)<n:=ab;rw [<-hn] at d0 HE ⊢;clear hE hn aa c0 c1 c2 c3;go_enter Tryz.func33,Tryz.ntmps33
 go_wp2_with fail;go_ret;refine ⟨?_,HE.out⟩;rfl
theorem qfs (id:Int) (sv:Value) (x:Smp) (l:List Smp) (W:World) (hR:Rd W W.heap.size sv l) (hl:l.length<=1000000) (hx:l.getLast? =some x):
  Calls Tryz.prog 34 #[.agg #[.int .i64 id,sv]] W fun e w'=>e=.returned (.int .i64 x.1)∧Ext W w':=by
 obtain ⟨A,c,rfl,hc,hA⟩:=hR;have aa:l≠ []:=by rintro rfl;simp at hx
 have ac:0<l.length:=List.length_pos_iff.2 aa;rcases hA with h0|⟨b,o,rfl,hb,ab⟩
 ·exact absurd h0 aa
 obtain ⟨c0,c1,c2,c3⟩:Cell4 W b (o+(l.length-1)*4) x:=by
  have :=ab (l.length-1) (by omega);rw [List.getLast?_eq_getElem?,List.getElem?_eq_getElem (by omega)] at hx;injection hx with hx
  rwa [hx] at this
 obtain ⟨n,hn⟩:∃n,l.length=n+1:=⟨l.length-1,by omega⟩;rw [hn] at c0 hl ⊢;rw [Nat.add_sub_cancel] at c0;have hE:Ext W (W.alloc (.cells #[.int .i64 id,.slice (some ⟨b,o,none⟩) (n+1) c] 71)):=(Ext.refl W).alloc _;have d0:=hE.cell_some c0;have HE:=Lib.hid hE;have i0:(n:Int)<((n+1:Nat):Int):=by omega
 have s0:IntKind.i64.wrap (((n+1:Nat):Int)-1)=(n:Int):=by
  rw [show ((n+1:Nat):Int)-1=(n:Int) by omega];exact qfJ (by unfold In64;omega)
 clear hE hn ab c0 c1 c2 c3;go_enter Tryz.func34,Tryz.ntmps34;go_wp2_with fail;go_ret;refine ⟨?_,HE.out⟩;rfl
end Go.Proofs.YtnkelahimiipjaaGreatDoor
namespace Go.Proofs.YtnkelahimiipjaaGreatDoor
open Go.RowKit Go.Sort
attribute [local go_sem] Oper.semAt_some
abbrev BlkX:=Blk×Value×Value
def encH (x:BlkX):Array Value:= #[.agg #[.int .i64 x.1.1,x.2.1],x.2.2]
def NewH (w:World) (Z:Nat) (l:List Pts) (pre:List BlkX) (A B:World) (x:BlkX):Prop:=
 (qae l)[pre.length]? =some x.1∧Rd w Z x.2.1 x.1.2∧Nz x.2.1∧OwnG EB 5 B A.heap.size x.2.2 (blkB x.1)
theorem NewH.put {w:World} {Z:Nat} {l:List Pts} {pre:List BlkX} {A B:World} {x:BlkX} (h:NewH w Z l pre A B x) {k:Nat} (hk:k<A.heap.size) (o:Obj):NewH w Z l pre (A.putObj k o) (B.putObj k o) x:=
 ⟨h.1,h.2.1,h.2.2.1,by rw [World.putObj_size];exact h.2.2.2.putLow hk o⟩
def qh0:Value->Nat
 | .slice _ n _=>n
 |_=>0
def OkP (l:List Pts):Prop:=∀p ∈ l,0<=p.1∧p.1<=1073741824∧∀s ∈ p.2,qai s=true
theorem qgI {l:List Pts} {k:Nat} (h:k<l.length):qae (l.take (k+1))=qae (l.take k)++(qaV l[k].2.length l[k].2).map (fun s=>(l[k].1,s)):=by
 rw [List.take_succ_eq_append_getElem h];unfold qae qcP;rw [List.flatMap_append,List.flatMap_singleton]
theorem qhb {x:Smp} (h:qai x=true):In64 x.1∧(-1000000<=x.2.2.1∧x.2.2.1<=1000000)∧In64 x.2.1∧In64 x.2.2.2:=by
 have h1:=qco h;unfold qai at h;rw [Bool.and_eq_true] at h;have h2:=h.2;unfold qau at h2;unfold In64
 split at h2
 ·have :=of_decide_eq_true h2;omega
 ·split at h2
  ·cases h2
  ·split at h2
   ·have :=of_decide_eq_true h2;omega
   ·have :=of_decide_eq_true h2;omega
theorem qn5 {l:List Int} (h:l.length<=4096):encV l≠ []:=by
 obtain ⟨k,hk⟩:=qh2 h;unfold asV at hk;rw [if_neg (by omega)] at hk;obtain ⟨x,hx,e⟩:=Option.map_eq_some_iff.1 hk;rw [<-e];simp
theorem qm8 {ls:List Smp} {q:Nat} (hq:q=min ls.length 16):ls.take q=ls.take 16:=by
 rcases Nat.le_total ls.length 16 with h|h
 ·rw [hq,Nat.min_eq_left h,List.take_of_length_le (Nat.le_refl _),List.take_of_length_le h]
 ·rw [hq,Nat.min_eq_right h]
theorem qiR {ls:List Smp} {q:Nat} (hq:q=min ls.length 16):
  qa7 (qar (ls.take q)) (qar (ls.take q)).length=cutN ls∧(qar (ls.take q)).take (cutN ls)=qar (ls.take (cutN ls)):=by
 rw [qm8 hq];refine ⟨rfl, ?_⟩;unfold qar;rw [<-List.map_take,List.take_take,Nat.min_eq_left (qcU ls).2]
theorem qkK {l:List Pts} {k:Nat} {pid:Int} {ls:List Smp} {pre:List Blk} (h:pre++(qaV ls.length ls).map (fun s=>(pid,s))=qae (l.take (k+1))) (hne:ls≠ []):(qae l)[pre.length]? =some (pid,ls.take (cutN ls)):=by
 have e:qae l=qae (l.take (k+1))++qae (l.drop (k+1)):=by
  unfold qae;rw [<-List.flatMap_append,List.take_append_drop]
 obtain ⟨f,hf⟩:∃f,ls.length=f+1:=⟨ls.length-1,by have :=List.length_pos_iff.2 hne;omega⟩;rw [e,<-h,hf,qfr hne,List.append_assoc,List.getElem?_append_right (Nat.le_refl _),Nat.sub_self];rfl
theorem qg9 {l:List Pts} {k:Nat} {pid:Int} {ls:List Smp} {pre:List Blk} (h:pre++(qaV ls.length ls).map (fun s=>(pid,s))=qae (l.take (k+1))) (hne:ls≠ []) (hr:∀s ∈ ls,qai s=true):
  (pre++[(pid,ls.take (cutN ls))])++(qaV (ls.drop (cutN ls)).length (ls.drop (cutN ls))).map (fun s=>(pid,s))=qae (l.take (k+1)):=by
 obtain ⟨f,hf⟩:∃f,ls.length=f+1:=⟨ls.length-1,by have :=List.length_pos_iff.2 hne;omega⟩;have h1:=qc0 hr hne;rw [<-h,hf,qfr hne,List.append_assoc];rw [qgf (ls.drop (cutN ls)).length f (ls.drop (cutN ls)) (Nat.le_refl _) (by rw [List.length_drop];omega) (fun s hs=>hr s (List.mem_of_mem_drop hs))];rfl
theorem Rd.cutFrom0 {w:World} {B b o n c k:Nat} {l:List Smp} (hn:n=l.length) (h:Rd w B (.slice (some ⟨b,o,none⟩) n c) l) (hk:k<=n):Rd w B (.slice (some ⟨b,o+k*4,none⟩) (n-k) (c-k)) (l.drop k):=by
 by_cases e:k<n
 ·exact Rd.cutFrom hn h e
 ·have e1:l.drop k=[]:=List.drop_eq_nil_of_le (by omega);rw [e1];exact ⟨some ⟨b,o+k*4,none⟩,c-k,by rw [show n-k=0 by omega];rfl,Nat.zero_le _,.inl rfl⟩
theorem toQ {e:Ending} {A B:Prop} (h:(e=.returned (.bool true)∧A)∨(e=.returned (.bool false)∧B)):∃q:Bool,e=.returned (.bool q)∧(q=true->A)∧(q=false->B):=by
 rcases h with ⟨h1,h2⟩|⟨h1,h2⟩
 ·exact ⟨true,h1,fun _=>h2,fun h=>by cases h⟩
 ·exact ⟨false,h1,fun h=>(by cases h),fun _=>h2⟩
end Go.Proofs.YtnkelahimiipjaaGreatDoor
namespace Go.Proofs.YtnkelahimiipjaaGreatDoor
open Go.RowKit Go.Sort
theorem qe4 (A:Option Addr) (n c:Nat) (W:World):
  Calls Tryz.prog 32 #[.slice A n c] W fun e w'=>e=.returned (.func (.func 61) #[] #[.pointer (some ⟨W.heap.size,0,none⟩)])∧w'=W.alloc (.cells #[.slice A n c] 22):=by
 go_enter Tryz.func32,Tryz.ntmps32;go_wp2_with fail;go_ret;exact ⟨rfl,rfl⟩
theorem qgw (h:Nat) (A:Option Addr) (n c:Nat) (W:World) (hc:W.cell? ⟨h,0,none⟩=some (.slice A n c)):
  Calls Tryz.prog 53 #[.pointer (some ⟨h,0,none⟩)] W fun e w'=>e=.returned (.int .i64 (n:Int))∧w'=W:=by
 go_enter Tryz.func53,Tryz.ntmps53;go_wp2_with fail;go_ret;exact ⟨rfl,rfl⟩
theorem qmM (h:Nat) (A:Option Addr) (n c:Nat) (f t:Int) (W:World):
  Calls Tryz.prog 48 #[.pointer (some ⟨h,0,none⟩),.slice A n c,.int .i64 f,.int .i64 t] W fun e w'=>e=.returned (.func (.func 85) #[] #[.pointer (some ⟨W.heap.size,0,none⟩),.pointer (some ⟨W.heap.size+1,0,none⟩),.pointer (some ⟨W.heap.size+3,0,none⟩),.pointer (some ⟨W.heap.size+2,0,none⟩)])∧
   w'=(((W.alloc (.cells #[.pointer (some ⟨h,0,none⟩)] 86)).alloc (.cells #[.slice A n c] 37)).alloc (.cells #[.int .i64 f] 2)).alloc (.cells #[.int .i64 t] 2):=by
 go_enter Tryz.func48,Tryz.ntmps48;go_wp2_with fail;go_ret;exact ⟨rfl,rfl⟩
def qdG (w:World) (pb hb:Nat) (pv:Value):Prop:=w.cell? ⟨pb,0,none⟩=some (.pointer (some ⟨hb,0,none⟩))∧w.cell? ⟨pb,1,none⟩=some pv
theorem qkM (pb hb:Nat) (pv:Value) (r:Int) (R:World->Prop) (W:World) (hP:qdG W pb hb pv) (hK:Calls Tryz.prog 30 #[pv] W fun e w'=>e=.returned (.int .i64 r)∧R w'):
  Calls Tryz.prog 22 #[.pointer (some ⟨pb,0,none⟩)] W fun e w'=>e=.returned (.int .i64 r)∧R w':=by
 have c1:=hP.2;have HK:=Lib.hid hK;clear hP hK;go_enter Tryz.func22,Tryz.ntmps22;go_wp2_with fail;refine HK.out.mono ?_;rintro e w1 ⟨rfl,hr⟩;have HR:=Lib.hid hr;clear hr;go_wp2_with fail;go_ret;exact ⟨rfl,HR.out⟩
theorem qkT (pb hb:Nat) (pv:Value) (R:Value->World->Prop) (W:World) (hP:qdG W pb hb pv) (hK:Calls Tryz.prog 43 #[pv] W fun e w'=>∃r,e=.returned r∧R r w'):
  Calls Tryz.prog 16 #[.pointer (some ⟨pb,0,none⟩)] W fun e w'=>∃r,e=.returned r∧R r w':=by
 have c1:=hP.2;have HK:=Lib.hid hK;clear hP hK;go_enter Tryz.func16,Tryz.ntmps16;go_wp2_with fail;refine HK.out.mono ?_;rintro e w1 ⟨r,rfl,hr⟩;have HR:=Lib.hid hr;clear hr;go_wp2_with fail;go_ret;exact ⟨_,rfl,HR.out⟩
theorem qgA (pb hb:Nat) (pv:Value) (A:Option Addr) (n c:Nat) (W:World) (hP:qdG W pb hb pv) (hc:W.cell? ⟨hb,0,none⟩=some (.slice A n c)):
  Calls Tryz.prog 24 #[.pointer (some ⟨pb,0,none⟩)] W fun e w'=>e=.returned (.int .i64 (n:Int))∧w'=W:=by
 have c0:=hP.1;have HK:=Lib.hid (qgw hb A n c W hc);clear hP;go_enter Tryz.func24,Tryz.ntmps24;go_wp2_with fail;refine HK.out.mono ?_;rintro e w1 ⟨rfl,rfl⟩;go_wp2_with fail;go_ret;exact ⟨rfl,rfl⟩
theorem qjJ (pb hb:Nat) (pv:Value) (a b:Int) (ok:Bool) (R:World->Prop) (W:World) (hP:qdG W pb hb pv) (hK:Calls Tryz.prog 52 #[pv] W fun e w'=>e=.returned (.tuple #[.int .i64 a,.int .i64 b,.bool ok])∧R w'):
  Calls Tryz.prog 20 #[.pointer (some ⟨pb,0,none⟩)] W fun e w'=>e=.returned (.tuple #[.int .i64 a,.int .i64 b])∧R w':=by
 have hr:Tryz.f20.results= #[.tmp 2,.tmp 3]:=by kernel_rfl
 have c1:=hP.2;have HK:=Lib.hid hK;clear hP hK;go_enter Tryz.func20,Tryz.ntmps20;go_wp2_with fail;refine HK.out.mono ?_;rintro e w1 ⟨rfl,aa⟩;have HR:=Lib.hid aa;clear aa;go_wp2_with fail;refine bodyPost_ret (v:=.tuple #[.int .i64 a,.int .i64 b]) ?_ rfl ⟨rfl,HR.out⟩;unfold results;rw [hr]
 go_simp
theorem qcp (bo br:Nat) (W:World) (hb:Boxed W bo 4 (.bool false)):
  Calls Tryz.prog 75 #[.pointer (some ⟨bo,0,none⟩),.pointer (some ⟨br,0,none⟩)] W fun e w'=>e=.returned (.slice none 0 0)∧w'=W:=by
 have c0:=hb.cell;clear hb;go_enter Tryz.func75,Tryz.ntmps75;go_wp2_with fail;go_ret;exact ⟨rfl,rfl⟩
theorem qlY (bo br:Nat) (v:Value) (b:List Nat) (W:World) (hb:Boxed W bo 4 (.bool true)) (hc:Boxed W br 23 v) (hne:bo≠br) (hR:RdG EB W W.heap.size v b) (h8:∀c ∈ b,c<256) (hl:b.length<=100000000):
  Calls Tryz.prog 75 #[.pointer (some ⟨bo,0,none⟩),.pointer (some ⟨br,0,none⟩)] W fun e w'=>∃w1 xv rv,e=.returned xv∧DecR W b (.returned (.tuple #[xv,rv,.int .i64 (decV b).1])) w1∧
   w'=(w1.setCell ⟨bo,0,none⟩ (.bool (decide ((decV b).1=0)))).setCell ⟨br,0,none⟩ rv:=by
 have KD:=Lib.hid (qhP v b W hR h8 hl);have c0:=hb.cell;have c1:=hc.cell;have ae:=Lib.hid hb;have af:=Lib.hid hc;have ad:=Lib.hid hne;obtain ⟨er,ab⟩:∃er,er=(decV b).1:=⟨_,rfl⟩;have ac:=Lib.hid ab;rw [<-ab];obtain ⟨A,c,rfl,_⟩:=hR;clear hb hc hne h8 hl ab;go_enter Tryz.func75,Tryz.ntmps75;go_wp2_with fail;refine KD.out.mono ?_;rintro e w1 ⟨xv,rv,rfl,hB,hD⟩;have HR:Hid (DecR W b (.returned (.tuple #[xv,rv,.int .i64 er])) w1):=⟨xv,rv,by rw [ac.out],hB,hD⟩;have ag:∃A n c,rv=.slice A n c:=by
  split at hD
  ·exact hD.2.sl
  ·exact ⟨none,0,0,hD.2⟩
 obtain ⟨A2,n2,c2,rfl⟩:=ag;rw [<-ac.out];have b0:=qat ae.out hB;have b1:=qat af.out hB;have b2:=qaf (B':=bo) b1 ad.out.symm (.bool (decide (er=0)));have d0:=b0.cell;have f0:=b0.frozen;have d1:=b2.cell;have f1:=b2.frozen;have hq:(er==0)=decide (er=0):=by by_cases h:er=0<;>simp [h]
 obtain ⟨q,aa⟩:∃q,q=decide (er=0):=⟨_,rfl⟩;rw [<-aa] at hq d1 f1;have HQ:=Lib.hid aa;clear hB hD KD b0 b1 b2 aa;go_wp2_with fail;go_ret;exact ⟨w1,xv,_,rfl,HR.out,by rw [<-HQ.out]⟩
end Go.Proofs.YtnkelahimiipjaaGreatDoor
namespace Go.Proofs.YtnkelahimiipjaaGreatDoor
theorem ql0:∀ls:List (List Smp),(∀c ∈ ls,c≠ []∧c.length<=16)->ls.length<=ls.flatten.length∧ls.flatten.length<=16*ls.length
 | [],_=>by simp
 | c :: ls, h => by
   have h1:=ql0 ls (fun x hx=>h x (List.mem_cons_of_mem _ hx));have h2:=h c List.mem_cons_self;have h3:=List.length_pos_iff.2 h2.1;rw [List.flatten_cons,List.length_append,List.length_cons];omega
theorem qbH:∀l:List Pts,(∀p ∈ l,∀s ∈ p.2,qai s=true)->(qae l).length<=qad l∧qad l<=16*(qae l).length
 | [],_=>by simp [qae,qad]
 | p :: l, h => by
   have h1:=qbH l (fun q hq=>h q (List.mem_cons_of_mem _ hq));have hp:=h p List.mem_cons_self;have h2:=ql0 (qaV p.2.length p.2) (fun c hc=>⟨(qbq p.2.length p.2 hp c hc).1,(qbq p.2.length p.2 hp c hc).2.1⟩);rw [qcy p.2.length p.2 (Nat.le_refl _) hp] at h2;have e1:(qae (p::l)).length=(qaV p.2.length p.2).length+(qae l).length:=by
    unfold qae;rw [List.flatMap_cons,List.length_append];unfold qcP;simp
   have e2:qad (p::l)=p.2.length+qad l:=by
    first|rfl|(unfold qad;simp)
   omega
end Go.Proofs.YtnkelahimiipjaaGreatDoor
namespace Go.Proofs.YtnkelahimiipjaaGreatDoor
open Go.RowKit Go.Sort
theorem qpl:(Tryz.prog.info? 3).map (fun i=>(i.zero,i.size,i.bytes))=some (some (.int .i64 0),1,8):=by kernel_rfl
theorem qmg (pp:Value) (l:List Pts) (W:World) (hl:l.length<=1000000) (hK:Calls Tryz.prog 16 #[pp] W fun e w'=>∃r,e=.returned r∧RdP w' w'.heap.size r l∧Below W.heap.size W w'):
  Calls Tryz.prog 27 #[pp] W fun e w'=>∃r,e=.returned r∧OwnG EI 3 w' W.heap.size r (l.map (fun p=>p.1))∧Below W.heap.size W w':=by
 have HK:=Lib.hid hK;clear hK;go_enter Tryz.func27,Tryz.ntmps27;go_wp2_with fail;refine HK.out.mono ?_;rintro e w1 ⟨r,rfl,hr,hB⟩;obtain ⟨A,c,rfl,hc,hA⟩:=hr;have HA:=Lib.hid hA;have HB:=Lib.hid hB;obtain ⟨n,hn⟩:∃n,n=l.length:=⟨_,rfl⟩;rw [<-hn] at hc hl ⊢;have HN:=Lib.hid hn;clear hn hA hB HK;go_wp2_with fail
 go_loopw [3,5,9] (fun v _ i wl=>∃k:Nat,k<=n∧i=.int .i64 (k:Int)∧Hid (OwnG EI 3 wl w1.heap.size v ((l.take k).map (fun p=>p.1)))∧Hid (Below w1.heap.size w1 wl))
  (fun _ _ i _=>n-(intOf i).toNat)
 case atStart=>exact ⟨0,Nat.zero_le _,rfl,OwnG.nil _ _,Below.refl _ _⟩
 case round=>
  obtain ⟨k,hk,rfl,HO,ab⟩:=hrel;by_cases hlt:k<n
  ·have aa:k<l.length:=(by rw [<-HN.out];exact hlt);rcases HA.out with h0|⟨b,o,e,hb,ag⟩
   ·subst h0;simp at aa
   subst e;obtain ⟨p,hp⟩:∃p,p=l[k]:=⟨_,rfl⟩;obtain ⟨c0,sv,c1,aj,_⟩:PtAt wr w1.heap.size b (o+k*2) p:=(by rw [hp];exact (ag k aa).below ab.out hb);have al:Hid (l.take (k+1)=l.take k++[p]):=(by show _=_;rw [List.take_succ_eq_append_getElem aa,hp]);obtain ⟨pid,ps⟩:=p;obtain ⟨As,cs,rfl,_⟩:=aj;simp only at c0 c1;obtain ⟨m,hm⟩:∃m,m=ps.length:=⟨_,rfl⟩;rw [<-hm] at c1;have ah:((l.take k).map (fun p:Pts=>p.1)).length=k:=(by simp;omega);obtain ⟨A6,c6,e6,_⟩:=HO.out.rd;rw [ah] at e6;subst e6;have ap:(((l.take k).map (fun p:Pts=>p.1)).length+1)*8<=140737488355328:=(by omega);have ae:=CellG.mk (E:=EI) (w:=wr.alloc (.cells #[.int .i64 pid,.slice As m cs] 62)) (cs:= #[.int .i64 pid]) (x:=pid) rfl 3;rw [World.size_alloc] at ae;have ak:=Lib.hid ae;have af:Hid (w1.heap.size<=((wr.alloc (.cells #[.int .i64 pid,.slice As m cs] 62)).alloc (.cells #[.int .i64 pid] 3)).heap.size):=(by have :=ab.out.size;show _<=_;simp;omega);have i1:(k:Int)<(n:Int):=(by omega);clear ag hb hp hm ae ah;go_wp2_with (first|(at_builtin;refine qd1 EI rfl _ _ 37 3 rfl Tryz.underlying37 qpl rfl (by decide) w1.heap.size _ ((l.take k).map (fun p:Pts=>p.1)) pid rfl ((HO.out.alloc _).alloc _) _ 0 1 rfl ak.out ap af.out ?_)|fail);intro v1 w2 ac hg ad;have am:Hid (OwnG EI 3 w2 w1.heap.size v1 ((l.take (k+1)).map (fun p=>p.1))):=by
    show OwnG _ _ _ _ _ _;rw [al.out,List.map_append,List.map_take];exact ac
   have ao:Hid (Below w1.heap.size w1 w2):=((ab.out.alloc ab.out.size _).alloc (by have :=ab.out.size;simp;omega) _).grown hg af.out (fun k e=>(HO.out.blk e).1);clear ac hg ad;go_wp2_with fail;go_roundw
   case rel=>exact ⟨k+1,by omega,by go_num,am,ao⟩
   case measure=>simp [intOf];omega
  ·have ai:k=n:=(by omega);have an:Hid (OwnG EI 3 wr w1.heap.size u3 (l.map (fun p=>p.1))):=by
    have h:=HO.out;rw [ai,HN.out,List.take_length] at h;exact h
   have i1:¬(k:Int)<(n:Int):=(by omega);go_wp2_with fail;go_ret;exact ⟨_,rfl,an.out.lower HB.out.size,HB.out.trans (ab.out.mono HB.out.size)⟩
end Go.Proofs.YtnkelahimiipjaaGreatDoor
namespace Go.Proofs.YtnkelahimiipjaaGreatDoor
theorem qha {c:List Pts} (h:Clean c) {b:Blk} (hb:b ∈ qae c):0<=qaX b.2∧qaX b.2<=qbu b.2∧qbu b.2<=1099511627776:=by
 obtain ⟨k1,k2,k3⟩:=qhc h hb;obtain ⟨s,hs,e1⟩:=qcq k2;obtain ⟨t,ht,e2⟩:=qdV k2;have h1:=k3 s hs;have h2:=k3 t ht;have h3:=qim k1 t ht;omega
theorem qdu {bl:List Blk} (h:∀b ∈ bl,BlkOk b):(qal bl).length<=1010*bl.length:=by
 induction bl with
 |nil=>simp [qal]
 | cons b bl ih =>
   have e:qal (b::bl)=qaq 3 (blkB b)++qal bl:=rfl;have h1:=qfT (h b List.mem_cons_self);have h2:=qax 1 (blkB b).length (by omega);have h3:=ih fun x hx=>h x (List.mem_cons_of_mem _ hx);rw [e,List.length_append,qbO,List.length_cons];omega
theorem qoH {c:List Pts} (h:Clean c) {b:Blk} (hb:b ∈ qae c) {o:Nat} (ho:o<=2100000):(entB o b).length<=32:=by
 have h0:=(qbj h b hb).1;have ht:=qha h hb;have h1:=qax 4 b.1.toNat (by have :=h0.2.1;omega);have h2:=qax 1 b.2.length (by have :=h0.2.2.1;omega);have h3:=qax 6 (qaX b.2).toNat (by omega);have h4:=qax 6 (qbu b.2-qaX b.2).toNat (by omega);have h5:=qax 3 o (by omega);unfold entB;simp only [List.length_append];omega
theorem qdf {c:List Pts} (h:Clean c):∀(bl:List Blk) (o:Nat),(∀b ∈ bl,b ∈ qae c)->o+(qal bl).length<=2100000->(qaD o bl).length<=32*bl.length
 | [],_,_,_=>by simp [qaD]
 | b :: bl, o, hm, ho => by
   have e:(qal (b::bl)).length=(qaq 3 (blkB b)).length+(qal bl).length:=by
    rw [show qal (b::bl)=qaq 3 (blkB b)++qal bl from rfl,List.length_append]
   have h1:=qoH h (hm b List.mem_cons_self) (o:=o) (by omega);have h2:=qdf h bl (o+(qaq 3 (blkB b)).length) (fun x hx=>hm x (List.mem_cons_of_mem _ hx)) (by omega);rw [qaD,List.length_append,List.length_cons];omega
theorem qbK {c:List Pts} (h:Clean c):∀p ∈ c,∀s ∈ p.2,qai s=true:=fun p hp=>h.bd p hp
theorem qbT {c:List Pts} (h:Clean c) (hm:qad c<=2000):(qa4 (qae c)).length<=65535∧(qal (qae c)).length<=2100000∧(qae c).length<=2000:=by
 have h1:=(qbH c (qbK h)).1;have h2:=qdu (fun b hb=>(qbj h b hb).1) (bl:=qae c);have h3:=qdf h (qae c) 0 (fun b hb=>hb) (by omega);have h4:=qax 1 (qae c).length (by omega);refine ⟨?_,by omega,by omega⟩;unfold qa4;rw [List.length_append];omega
theorem qnI (o:Nat) (b:Blk):∀x ∈ entB o b,x<256:=fun x hx=>by
 unfold entB at hx;simp only [List.mem_append] at hx;rcases hx with h|h|h|h|h<;>exact qbF _ x h
theorem qeP:∀(bl:List Blk) (o:Nat),∀x ∈ qaD o bl,x<256
 | [],_,x,hx=>by simp [qaD] at hx
 | b :: bl, o, x, hx => by
   rw [qaD,List.mem_append] at hx;rcases hx with h|h
   ·exact qnI o b x h
   ·exact qeP bl _ x h
theorem qg5 {b:Blk} (h:b.2.length<=16):∀x ∈ blkB b,x<256:=fun x hx=>by
 unfold blkB at hx;simp only [List.mem_append] at hx;rcases hx with h1|h1|h1|h1
 ·exact qbF _ x h1
 ·exact qiA (by unfold qaO;simp;omega) x h1
 ·exact qgV _ x h1
 ·exact qiA (by unfold qbp qar;simp;omega) x h1
theorem qid {bl:List Blk} (h:∀b ∈ bl,b.2.length<=16):∀x ∈ qal bl,x<256:=fun x hx=>by
 unfold qal at hx;obtain ⟨b,hb,h1⟩:=List.mem_flatMap.1 hx;exact qez (by omega) (qg5 (h b hb)) x h1
theorem qfm (bl:List Blk):∀x ∈ qa4 bl,x<256:=fun x hx=>by
 unfold qa4 at hx;rw [List.mem_append] at hx;rcases hx with h|h
 ·exact qbF _ x h
 ·exact qeP _ _ x h
theorem qc8 {bl:List Blk} (h:∀b ∈ bl,b.2.length<=16):∀x ∈ qcj bl,x<256:=fun x hx=>by
 unfold qcj at hx;simp only [List.mem_append] at hx;rcases hx with h1|h1|h1
 ·exact qid h x h1
 ·exact qez (by omega) (qfm bl) x h1
 ·exact qeV _ x h1
theorem qfu {c:List Pts} (h0:c≠ []) (h:qag c=c) (hm:qad (qag c)<=2000):qaS c=(0,qcj (qae c)):=by
 have hc:Clean c:=by rw [<-h];exact qaj c
 have :=(qbT hc (by rw [h] at hm;exact hm)).1;unfold qaS;rw [if_neg (by omega),if_neg (fun e=>e.elim (fun e=>h0 e) (fun e=>e h)),if_neg (by omega)]
end Go.Proofs.YtnkelahimiipjaaGreatDoor
namespace Go.Proofs.YtnkelahimiipjaaGreatDoor
open Go.RowKit Go.Sort
def ktB (t:TypeId):Bool:=t==23 || (t==5 || t==3)
structure BdI (W:World) (B0:Nat) (bv xv:Value) (bb xx:List Nat) (m:Nat) (w:World):Prop where
 b:Boxed w B0 23 bv
 ob:OwnG EB 5 w W.heap.size bv bb
 x:Boxed w (B0+1) 23 xv
 ox:OwnG EB 5 w W.heap.size xv xx
 many:Boxed w (B0+1+1) 3 (.int .i64 (m:Int))
 apart:∀k,bv.ownBlock=some k->xv.ownBlock≠some k
 below:Below W.heap.size W w
 low:W.heap.size<=B0
variable {W w w':World} {B0 m:Nat} {bv xv:Value} {bb xx:List Nat}
theorem BdI.on (h:BdI W B0 bv xv bb xx m w) (k:Below w.heap.size w w'):BdI W B0 bv xv bb xx m w':=
 ⟨qat h.b k,h.ob.below k,qat h.x k,h.ox.below k,qat h.many k,h.apart,h.below.trans (k.mono h.below.size),h.low⟩
theorem BdI.putLoop {l:Nat} {r:Loop} (h:BdI W B0 bv xv bb xx m w) (hl:w.heap[l]? =some (.loop r)) (hz:W.heap.size<=l) (o:Obj):BdI W B0 bv xv bb xx m (w.putObj l o):=
 ⟨qaP h.b hl o,h.ob.putO o hl rfl,qaP h.x hl o,h.ox.putO o hl rfl,qaP h.many hl o,h.apart,qbN h.below hz o,h.low⟩
theorem BdI.putX {xv':Value} {xx':List Nat} (h:BdI W B0 bv xv bb xx m w) (ho:OwnG EB 5 w W.heap.size xv' xx') (hap:∀k,bv.ownBlock=some k->xv'.ownBlock≠some k):
  BdI W B0 bv xv' bb xx' m (w.setCell ⟨B0+1,0,none⟩ xv')∧KpT ktB W.heap.size w (w.setCell ⟨B0+1,0,none⟩ xv'):=by
 have hl:=h.low;have hk:KpT ktB W.heap.size w (w.setCell ⟨B0+1,0,none⟩ xv'):=KpT.setCell (e:=23) h.x rfl (by omega) _ _;exact ⟨⟨qaf h.b (by omega) _,h.ob.set h.x (by decide) _,h.x.set _,ho.set h.x (by decide) _,qaf h.many (by omega) _,hap,h.below.trans hk.1,hl⟩,hk⟩
theorem BdI.putM {m':Nat} (h:BdI W B0 bv xv bb xx m w):BdI W B0 bv xv bb xx m' (w.setCell ⟨B0+1+1,0,none⟩ (.int .i64 (m':Int)))∧KpT ktB W.heap.size w (w.setCell ⟨B0+1+1,0,none⟩ (.int .i64 (m':Int))):=by
 have hl:=h.low;have hk:KpT ktB W.heap.size w (w.setCell ⟨B0+1+1,0,none⟩ (.int .i64 (m':Int))):=KpT.setCell (e:=3) h.many rfl (by omega) _ _;exact ⟨⟨qaf h.b (by omega) _,h.ob.set h.many (by decide) _,qaf h.x (by omega) _,h.ox.set h.many (by decide) _,h.many.set _,h.apart,h.below.trans hk.1,hl⟩,hk⟩
theorem BdI.putB {bv':Value} {bb':List Nat} {w1:World} (h:BdI W B0 bv xv bb xx m w) (hg:w.grownBy w1 bv.ownBlock) (ho:OwnG EB 5 w1 W.heap.size bv' bb') (hloc:bv'.ownBlock=bv.ownBlock∨bv'.ownBlock=some w.heap.size):
  Boxed w1 B0 23 bv∧BdI W B0 bv' xv bb' xx m (w1.setCell ⟨B0,0,none⟩ bv')∧KpT ktB W.heap.size w (w1.setCell ⟨B0,0,none⟩ bv'):=by
 have hl:=h.low;have hz:=h.below.size;have b1:Boxed w1 B0 23 bv:=qaG h.b hg h.ob (by decide);have x1:Boxed w1 (B0+1) 23 xv:=qaG h.x hg h.ob (by decide);have m1:Boxed w1 (B0+1+1) 3 (.int .i64 (m:Int)):=qaG h.many hg h.ob (by decide);have ox1:OwnG EB 5 w1 W.heap.size xv xx:=h.ox.kept hg (by
  cases e:xv.ownBlock with
  |none=>exact .inl rfl
  |some k=>exact .inr fun e2=>h.apart k e2.symm e)
 have ab:KpT ktB W.heap.size w w1:=KpT.grown hg hz (fun k e=>by
  obtain ⟨q1,c,z,q2⟩:=h.ob.cellsAt k e;exact ⟨q1,c,_,z,q2,rfl⟩)
 have aa:KpT ktB W.heap.size w1 (w1.setCell ⟨B0,0,none⟩ bv'):=KpT.setCell (e:=23) b1 rfl (by omega) _ _;have hk:=ab.trans aa;refine ⟨b1,⟨b1.set _,ho.set b1 (by decide) _,qaf x1 (by omega) _,ox1.set b1 (by decide) _,qaf m1 (by omega) _,fun k e=> ?_,h.below.trans hk.1,hl⟩,hk⟩;rcases hloc with e2|e2
 ·exact h.apart k (by rw [<-e2];exact e)
 ·intro e3;rw [e2] at e;injection e with e;have :=(h.ox.blk e3).2;omega
theorem qlp {α :Type} {E:Enc α} {ty:TypeId} {w w':World} {base:Nat} {bv xv':Value} {bb:List Nat} {l:List α} (hb:OwnG EB 5 w base bv bb) (ho:OwnG E ty w' w.heap.size xv' l):∀k,bv.ownBlock=some k->xv'.ownBlock≠some k:=fun k e e2=>by
 have h1:=(hb.blk e).2;have h2:=(ho.blk e2).1;omega
def entN (o:Nat) (b:Blk):List Nat:=[b.1.toNat,b.2.length,(qaX b.2).toNat,(qbu b.2-qaX b.2).toNat,o]
def qc3 (l:List Nat):List Nat:=l.flatMap putV
theorem qmf (o:Nat) (b:Blk):qc3 (entN o b)=entB o b:=by unfold qc3 entN entB;simp
theorem qfg (l:List Nat) {k:Nat} (h:k<l.length):qc3 (l.take (k+1))=qc3 (l.take k)++putV l[k]:=by
 unfold qc3;rw [List.take_succ_eq_append_getElem h,List.flatMap_append];simp
end Go.Proofs.YtnkelahimiipjaaGreatDoor
namespace Go.Proofs.YtnkelahimiipjaaGreatDoor
open Go.RowKit Go.Sort
theorem qa3 {c:List Pts} (h:Clean c) (hm:qad c<=2000):qeX c:=by
 have h1:∀(c:List Pts),(∀p ∈ c,p.2≠ [])->c.length<=qad c:=by
  intro c
  induction c with
  |nil=>intro _;simp
  | cons p c ih =>
    intro hn;have h2:=List.length_pos_iff.2 (hn p List.mem_cons_self);have h3:=ih fun q hq=>hn q (List.mem_cons_of_mem _ hq);have h4:qad (p::c)=p.2.length+qad c:=(by unfold qad;simp);rw [List.length_cons,h4];omega
 refine ⟨by have :=h1 c h.ne;omega,fun p hp=> ?_⟩;have :=qcH hp;omega
theorem qea {c:List Pts} (h:Clean c):OkP c:=fun p hp=>by
 have h3:=h.inr p hp;unfold inR at h3;rw [Bool.and_eq_true,decide_eq_true_eq,decide_eq_true_eq] at h3;exact ⟨by omega,by omega,h.bd p hp⟩
def BldR (W:World) (l:List Pts) (e:Ending) (w':World):Prop:=
 ∃v',e=.returned (.tuple #[v',.int .i64 (qaS l).1])∧OwnG EB 5 w' W.heap.size v' (qaS l).2∧Below W.heap.size W w'
theorem BldR.err {W w':World} {l:List Pts} {x:Int} (h:qaS l=(x,[])) (hB:Below W.heap.size W w'):BldR W l (.returned (.tuple #[.slice none 0 0,.int .i64 x])) w':=
 ⟨_,by rw [h],by rw [h];exact OwnG.nil _ _,hB⟩
theorem qhG (v:Value) (l:List Pts) (W:World) (T:Tabs W) (hR:RdP W W.heap.size v l) (hwf:∀p ∈ l,(Lit.int .i64 p.1).wf=true) (hn2:l.length<=990000000) (hn3:qad l<=990000000) (h:2000<qad (qag l)):
  Calls Tryz.prog 11 #[v] W fun e w'=>BldR W l e w':=by
 have hr:Tryz.f11.results= #[.tmp 2,.tmp 3]:=by kernel_rfl
 have KM:=Lib.hid (qmN v l W T hR hwf hn2 hn3);have HB:Hid (qaS l=(2,[])):=by show _=_;unfold qaS;rw [if_pos h]
 obtain ⟨m,hm⟩:∃m,m=qad (qag l):=⟨_,rfl⟩;rw [<-hm] at KM h;have g1:(m:Int)>2000:=by omega
 obtain ⟨A,c,rfl,_⟩:=hR;clear T hwf hn2 hn3 hm h;go_enter Tryz.func11,Tryz.ntmps11;go_wp2_with fail;refine KM.out.mono ?_;rintro e w1 ⟨rfl,hB⟩;have aa:=Lib.hid hB;clear hB KM;go_wp2_with fail;refine bodyPost_ret (v:=.tuple #[.slice none 0 0,.int .i64 2]) ?_ rfl (BldR.err HB.out aa.out);unfold results;rw [hr]
 go_simp
theorem qlv (v:Value) (l:List Pts) (W:World) (T:Tabs W) (hR:RdP W W.heap.size v l) (hwf:∀p ∈ l,(Lit.int .i64 p.1).wf=true) (hn2:l.length<=990000000) (hn3:qad l<=990000000) (h:qad (qag l)<=2000) (h2:l=[]∨qag l≠l):
  Calls Tryz.prog 11 #[v] W fun e w'=>BldR W l e w':=by
 have hr:Tryz.f11.results= #[.tmp 2,.tmp 3]:=by kernel_rfl
 have KM:=Lib.hid (qmN v l W T hR hwf hn2 hn3);have HB:Hid (qaS l=(1,[])):=by show _=_;unfold qaS;rw [if_neg (by omega),if_pos h2]
 have KC:Hid (∀w',Below W.heap.size W w'->Calls Tryz.prog 31 #[v] w' fun e w''=>e=.returned (.bool (decide (qag l=l)))∧Below w'.heap.size w' w''):=fun w' hb=>
  qeD v l w' (T.below hb) (hR.on hb) hwf hn2 hn3 (qa3 (qaj l) h)
 obtain ⟨m,hm⟩:∃m,m=qad (qag l):=⟨_,rfl⟩;rw [<-hm] at KM h;have g1:¬(m:Int)>2000:=by omega
 obtain ⟨A,c,rfl,_⟩:=hR;clear T hwf hn2 hn3 hm h;by_cases h0:l=[]
 ·subst h0;clear h2 KC;go_enter Tryz.func11,Tryz.ntmps11;go_wp2_with fail;refine KM.out.mono ?_;rintro e w1 ⟨rfl,hB⟩;have aa:=Lib.hid hB;clear hB KM;go_wp2_with fail;refine bodyPost_ret (v:=.tuple #[.slice none 0 0,.int .i64 1]) ?_ rfl (BldR.err HB.out aa.out);unfold results;rw [hr]
  go_simp
 ·have h3:qag l≠l:=h2.resolve_left h0;have g2:decide (qag l=l)=false:=decide_eq_false h3;rw [g2] at KC;obtain ⟨n,hn⟩:∃n,n=l.length:=⟨_,rfl⟩;have ab:n≠0:=by rw [hn];exact fun e=>h0 (List.eq_nil_of_length_eq_zero e)
  rw [<-hn] at KM KC ⊢;have g3:((n:Int)==0)=false:=by simp;omega
  clear h0 h2 h3 g2 hn ab;go_enter Tryz.func11,Tryz.ntmps11;go_wp2_with fail;refine KM.out.mono ?_;rintro e w1 ⟨rfl,hB⟩;have aa:=Lib.hid hB;have KC1:=Lib.hid (KC.out w1 hB);clear hB KM KC;go_wp2_with fail;refine KC1.out.mono ?_;rintro e w2 ⟨rfl,hB⟩;have ac:Hid (Below W.heap.size W w2):=aa.out.trans (hB.mono aa.out.size);clear hB KC1;go_wp2_with fail;refine bodyPost_ret (v:=.tuple #[.slice none 0 0,.int .i64 1]) ?_ rfl (BldR.err HB.out ac.out);unfold results;rw [hr]
  go_simp
end Go.Proofs.YtnkelahimiipjaaGreatDoor
