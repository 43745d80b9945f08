/-
 stream.sorted's closure: the contract of the iterator.
-/
import Derived.RangeFuncNested
import Derived.RangeFuncBound
import Derived.RangeFuncCalls
import Derived.RangeFuncLeaves
import Derived.Shelf.Abstract
import Derived.Shelf.RegionOpen
import Derived.WalkKit
import Derived.OwnWalkIn
import Derived.TacticsInMore
import Derived.LoopNIn
import Derived.LoopIn
import Derived.Maps.OwnIn
import Derived.Test.YtnkelahimiipjaaGreatDoorKst
import Derived.Test.YtnkelahimiipjaaGreatDoorRqt
import Derived.Test.YtnkelahimiipjaaGreatDoorOwt
import Derived.RangeFuncBox
set_option maxRecDepth 100000
set_option maxHeartbeats 8000000
namespace Go.Proofs.YtnkelahimiipjaaGreatDoor
open Go.RowKit Go.Sort Go.Maps
attribute [local go_sem] Oper.semAt_some
theorem KpO.owns {Z:Nat} {W W':World} (h:KpO Z W W') {base e s n:Nat} {v:Value} {cs:List Value} (hr:W.ownsRow base e s v n cs) (he:qjP (.cells #[] e (0,0))=true):W'.ownsRow base e s v n cs:=
 ⟨hr.1,hr.2.imp id fun ⟨g,cap,cur,e1,hb,hc,r⟩=>⟨g,cap,cur,e1,hb,h.2 _ _ hc he,r⟩⟩
theorem Below.owns {W W':World} (h:Below W.heap.size W W') {base e s n:Nat} {v:Value} {cs:List Value} (hr:W.ownsRow base e s v n cs):W'.ownsRow base e s v n cs:=
 ⟨hr.1,hr.2.imp id fun ⟨g,cap,cur,e1,hb,hc,r⟩=>⟨g,cap,cur,e1,hb,(h.block _ (Array.getElem?_eq_some_iff.1 hc).1).trans hc,r⟩⟩
theorem Gath.kpo {Z:Nat} {W W':World} {b:Nat} {l:List Pts} (h:Gath W b l) (k:KpO Z W W'):Gath W' b l:=by
 obtain ⟨n,D,hn,G⟩:=h;refine ⟨n,D,hn, ?_,G.lt,G.isMap,fun x=> ?_,G.apart,G.has⟩
 ·obtain ⟨es,clock,hb,F,r⟩:=G.map;exact ⟨es,clock,k.2 _ _ hb rfl,F,r⟩
 ·obtain ⟨v,hv,ho⟩:=G.val x;exact ⟨v,hv,KpO.owns k ho (by rfl)⟩
theorem Gath.on {W W':World} {b:Nat} {l:List Pts} (h:Gath W b l) (k:Below W.heap.size W W'):Gath W' b l:=h.kept ⟨k.os,k.tape,k.output,k.size,fun i hi _=>k.block i hi⟩
theorem qfE {w:World} {base n c:Nat} {A:Option Addr} {l:List Int} (h:w.ownsRow base 3 1 (.slice A n c) n (l.map encZ)) (hn:n=l.length) (i:Nat) (hi:i<l.length):
  ∃b o,A=some ⟨b,o,none⟩∧w.cell? ⟨b,o+i,none⟩=some (.int .i64 l[i]):=by
 subst hn;obtain ⟨A',c',e,_,hA⟩:=RdZ.of_owns h;rcases hA with h0|⟨b,o,e',_,aa⟩
 ·subst h0;simp at hi
 ·injection e with e1;exact ⟨b,o,e1.trans e',aa i hi⟩
abbrev Row:=Int×Value×List Smp
def inR (k:Int):Bool:=decide (1<=k) && decide (k<=1073741824)
def encR (x:Row):Array Value:= #[.int .i64 x.1,x.2.1]
def NewR (W0 W1:World) (x:Row):Prop:=Own W1 W0.heap.size 66 x.2.1 x.2.2∧(Lit.int .i64 x.1).wf=true∧x.2.2.length*32<=140737488355328
def IsKeys (l:List Pts) (ks:List Int):Prop:=ks.Pairwise (· < ·)∧∀k,k ∈ ks↔hasL l k=true
def cut (xs:List Row):List Pts:=xs.map (fun x=>(x.1,x.2.2))
def outs (l:List Pts) (ks:List Int):List Pts:=(ks.filter inR).map (fun k=>(k,qaC (ofL l k)))
def SR (l:List Pts) (xs:List Row):Prop:=∃ks,IsKeys l ks∧cut xs=outs l ks
theorem qgk (l:List Pts) (ks:List Int) (k:Int):outs l (ks++[k])=if inR k then outs l ks++[(k,qaC (ofL l k))] else outs l ks:=by
 unfold outs;rw [List.filter_append];by_cases h:inR k=true
 ·rw [if_pos h];simp [h]
 ·rw [if_neg h];simp [h]
theorem qh4 (Z n Bm b:Nat) (l:List Pts) (w:World) (hn:8<=n) (hBm:w.heap[Bm]? =some (.cells #[.map (some b)] 155 (0,0))) (hZ:Z<=w.heap.size) (hT:∀W',Below Z w W'->Tabs W') (G:Gath w b l) (hl:l.length<=990000000)
  (hs:∀k,(ofL l k).length*32<=140737488355328):qn8 Z Fence.wide n Tryz.prog 121 #[.pointer (some ⟨Bm,0,none⟩)] encR NewR (SR l) l.length w:=by
 intro lp J W hW hY h0;have bc:Bm<w.heap.size:=(Array.getElem?_eq_some_iff.1 hBm).1;have ax:W.heap[Bm]? =some (.cells #[.map (some b)] 155 (0,0)):=(hW.block _ bc).trans hBm;have c0:W.cell? ⟨Bm,0,none⟩=some (.map (some b)):=by simp [World.cell?,ax]
 obtain ⟨m,D,hm,GM⟩:=G.on hW;have aa:=GM.map;have a3:Maps.size D<=maxLen:=by have :=aa.size_le;unfold maxLen;omega
 have a1:Maps.size D*8<=140737488355328:=by have :=aa.size_le;omega
 have ba:=aa.lt;have ah:SeqGives Fence.wide (n-1-1-1-1) Tryz.prog 134 #[.pointer (some ⟨W.heap.size,0,none⟩)] encZ (fun ss=>ss.Perm (intKeys D)∧∀x,x ∈ ss↔has D (.int .i64 x)=true) (Maps.size D) (W.alloc (.cells #[.map (some b)] 155)):=
  (AnyZI.keys_stops (ρ :=Tryz.keysS_ren) { Tryz.keysS with } Fence.wide _ trivial rfl (by omega) W.heap.size b m D _ (by simp) (by simp) (by
    obtain ⟨es,clock,hb,Ft,hs,hD⟩:=aa;exact ⟨es,clock,(Below.heap_alloc _ _ b ba).trans hb,Ft,hs,hD⟩)).gives
 have cK:∀mb W,CallsIn Fence.wide (n-1) Tryz.prog 123 #[.map mb] W fun e w'=>e=.returned (.func (.func 134) #[] #[.pointer (some ⟨W.heap.size,0,none⟩)])∧w'=W.alloc (.cells #[.map mb] 155):=fun mb W=>AnyZI.keys_in Tryz.keysS Fence.wide (n-1) trivial rfl mb W;have cS:=AnyZI.sorted_in Tryz.sortedI Fence.wide (n-1) trivial trivial trivial trivial rfl (by omega) (qon _) (enters_of Tryz.func133 (by kernel_rfl) rfl) 134 #[.pointer (some ⟨W.heap.size,0,none⟩)] trivial (enters_of Tryz.func134 (by kernel_rfl) rfl) _ _ a3 a1 _ ah;change CallsIn _ _ Tryz.prog 122 _ _ _ at cS;have a8:=qjR aa Tryz.underlying3;have a6:=intKeys_wf aa Tryz.underlying3;have aj:=GM.has;have a5:Hid ((intKeys D).length<=l.length):=by
  have h1:(intKeys D).length<=Maps.size D:=by cases D<;>simp [intKeys,Maps.size]
  have h2:=aa.size_le;show _<=_;omega
 clear ah GM;have HY:=Lib.hid hY;have bf:=Lib.hid (G.on hW);have HZ:=Lib.hid hZ;have HT:=Lib.hid hT;have HW:=Lib.hid hW;have HS:=Lib.hid hs;have HH:=Lib.hid aj;have HK:=Lib.hid a6;have HN:=Lib.hid a8;clear hY hT hW hs aj a6 a8 aa G hZ a3 a1;have bn:Fence.wide.fn 123:=trivial;have bl:Fence.wide.fn 122:=trivial;have bm:Fence.wide.fn 124:=trivial;have h1:1<=n:=by omega
 refine callsIn_of_wp Tryz.func121 rfl trivial ?_ rfl;simp only [Tryz.ntmps121,List.size_toArray,List.length_cons,List.length_nil,Nat.reduceAdd,Nat.reduceSub,Array.replicate_succ,Array.replicate_zero,List.push_toArray,List.append_toArray,List.nil_append,List.cons_append];gi_wp2_with (gi_at_call 123;refine (cK _ _).mono ?_;rintro e w' ⟨rfl,rfl⟩);refine cS.mono ?_;rintro e w' ⟨v,ss,rfl,⟨hS,a4⟩,ac,ap,hb⟩;obtain ⟨ks,ad⟩:∃ks,ks=ss.mergeSort (fun x y=>decide (x<=y)):=⟨_,rfl⟩;have ae:ss.length=ks.length:=by rw [ad,List.length_mergeSort]
 rw [<-ad,ae] at ac;obtain ⟨n1,ao⟩:∃n1,n1=ks.length:=⟨_,rfl⟩;obtain ⟨A0,c1,rfl,bk,hA⟩:=RdZ.of_owns ac;rw [<-ao] at ac bk ⊢;have bi:Hid (IsKeys l ks):=⟨by rw [ad];exact qoJ (hS.symm.nodup HN.out),fun k=>by rw [ad,List.mem_mergeSort,a4 k,HH.out k]⟩;have bj:Hid (∀k ∈ ks,(Lit.int .i64 k).wf=true):=fun k hk=>HK.out k (hS.mem_iff.1 (by rw [ad,List.mem_mergeSort] at hk;exact hk));have bo:n1<=l.length:=by
  have h1:=hS.length_eq;have h2:=a5.out;omega
 have bp:n1<=990000000:=by
  have h1:=hS.length_eq;have h2:=a5.out;omega
 have a9:Below W.heap.size W w':=((Below.refl _ W).alloc (Nat.le_refl _) _).trans (hb.mono (by simp));have HR:=Lib.hid ac;have HA:=Lib.hid hA;have aw:=Lib.hid ao;have an:=Lib.hid a9;clear ac hA ao ad ae hS a4 ap hb a9 HH HK HN cS cK;have ar:Hid (w'.heap[Bm]? =some (.cells #[.map (some b)] 155 (0,0))):=(an.out.block _ (Array.getElem?_eq_some_iff.1 ax).1).trans ax
 gi_wp2
 gi_loopw [9] (fun i wl=>∃(k:Nat) (pre:List Row) (W0:World),k<=n1∧i=.int .i64 k∧Hid (J pre W0)∧Hid (Below W0.heap.size W0 wl)∧Hid (cut pre=outs l (ks.take k))∧Hid (Gath wl b l)∧Hid (wl.ownsRow _ 3 1 (.slice A0 n1 c1) n1 (ks.map encZ))∧Hid (wl.heap[Bm]? =some (.cells #[.map (some b)] 155 (0,0)))∧Hid (Below Z W wl))
  (fun i _=>n1-(intOf i).toNat)
 case atStart=>exact ⟨0,[],W,Nat.zero_le _,rfl,h0,an.out,rfl,bf.out.on an.out,HR.out,ar.out,an.out.mono (Nat.le_trans HZ.out HW.out.size)⟩
 case round=>
  obtain ⟨k,pre,W0,hk,rfl,HJ,ab,HC,HG,ak,af,ag⟩:=hrel;by_cases hlt:k<n1
  ·have au:k<ks.length:=(by rw [<-aw.out];exact hlt);obtain ⟨z,hz⟩:∃z,z=ks[k]:=⟨_,rfl⟩;have a7:(Lit.int .i64 z).wf=true:=bj.out z (by rw [hz];exact List.getElem_mem au);obtain ⟨b1,o1,eA,q0'⟩:=qfE ak.out aw.out k au;subst eA;have q0:wr.cell? ⟨b1,o1+k,none⟩=some (.int .i64 z):=(by rw [hz];exact q0');have q1:wr.cell? ⟨Bm,0,none⟩=some (.map (some b)):=(by simp [World.cell?,af.out]);have a0:Hid (ks.take (k+1)=ks.take k++[z]):=(by rw [hz];exact List.take_succ_eq_append_getElem au);have i1:(k:Int)<(n1:Int):=(by omega);clear q0' hz c0;by_cases hin:1<=z∧z<=1073741824
   ·obtain ⟨z1,z2⟩:=hin;have av:inR z=true:=(by simp [inR,z1,z2]);have am:Hid (∀r,cut (pre++[(z,r,qaC (ofL l z))])=outs l (ks.take (k+1))):=fun r=>by
     rw [a0.out,qgk,if_pos av,<-HC.out];simp [cut]
    obtain ⟨v,a2,az,_,_⟩:=HG.out.round (p:=(z,[])) a7 (by omega);have hq:(Instr.lookup 155 (.map (some b)) (.int .i64 z) false).run Tryz.prog wr=.ok v wr:=az _ ⟨rfl,rfl,rfl,Nat.le_refl _,fun _ _ _=>rfl⟩;have bb:Hid (CallsIn Fence.wide (n-1) Tryz.prog 124 #[v] wr fun e w'=>∃r,e=.returned r∧Own w' wr.heap.size 66 r (qaC (ofL l z))∧Below wr.heap.size wr w'):=
     callsIn_wide.2 (qji v _ wr (HT.out _ ((HW.out.mono HZ.out).trans ag.out)) a2.rd (HS.out z))
    have bh:Hid (pre.length<l.length):=by
     have h1:=congrArg List.length HC.out;have h2:=List.length_filter_le inR (ks.take k);have h3:=List.length_take_le k ks;simp only [cut,outs,List.length_map] at h1;show _<_;omega
    have be:Hid (∀r w1,Own w1 wr.heap.size 66 r (qaC (ofL l z))->Below wr.heap.size wr w1->YieldAt Fence.wide (n-1) Tryz.prog lp #[.int .i64 z,r] w1 fun e W'=>e=.returned (.bool true)∧J (pre++[(z,r,qaC (ofL l z))]) W'∧KpO Z w1 W'):=
     fun r w1 ho hb=>HY.out pre (z,r,qaC (ofL l z)) W0 w1 HJ.out bh.out (ab.out.trans (hb.mono ab.out.size)) ⟨ho.lower ab.out.size,a7,by show (qaC (ofL l z)).length*32<=_;have h1:=qdy (ofL l z);have h2:=HS.out z;omega⟩
    clear a2 az HC;gi_wp2_with (gi_at_call 124;refine bb.out.mono ?_;rintro e w1 ⟨r,rfl,bd,ai⟩;obtain ⟨fn,tmps,assign,body,hy,hR⟩:=be.out r w1 bd ai);refine hR.mono ?_;rintro e W3 ⟨rfl,bg,al⟩
    gi_wp2
    go_roundw
    case rel=>exact ⟨k+1,pre++[(z,r,qaC (ofL l z))],W3,by omega,by go_num,bg,Below.refl _ _,am.out r,(HG.out.on ai).kpo al,KpO.owns al (Below.owns ai ak.out) (by rfl),al.2 _ _ ((ai.block _ (Array.getElem?_eq_some_iff.1 af.out).1).trans af.out) (by rfl),(ag.out.trans (ai.mono (Nat.le_trans (Nat.le_trans HZ.out HW.out.size) ag.out.size))).trans al.1⟩
    case measure=>simp [intOf];omega
   ·have av:inR z=false:=by
     cases h:inR z with
     |false=>rfl
     |true=>simp [inR] at h;omega
    have am:Hid (cut pre=outs l (ks.take (k+1))):=(by rw [a0.out,qgk,if_neg (by rw [av];decide)];exact HC.out);by_cases z1:1<=z
    ·have z2:¬z<=1073741824:=fun h=>hin ⟨z1,h⟩
     gi_wp2
     refine ⟨fun _ h=>(by cases h), ?_⟩
     gi_wp2
     go_roundw
     case rel=>exact ⟨k+1,pre,W0,by omega,by go_num,HJ.out,ab.out,am.out,HG.out,ak.out,af.out,ag.out⟩
     case measure=>simp [intOf];omega
    ·gi_wp2
     refine ⟨fun _ h=>(by cases h), ?_⟩
     gi_wp2
     go_roundw
     case rel=>exact ⟨k+1,pre,W0,by omega,by go_num,HJ.out,ab.out,am.out,HG.out,ak.out,af.out,ag.out⟩
     case measure=>simp [intOf];omega
  ·have ay:k=n1:=(by omega);have aq:Hid (SR l pre):=⟨ks,bi.out,by have h:=HC.out;rwa [ay,aw.out,List.take_length] at h⟩;clear ay HC
   gi_wp2
   go_end0
   exact ⟨⟨_,rfl⟩,pre,W0,aq.out,HJ.out,ab.out⟩
end Go.Proofs.YtnkelahimiipjaaGreatDoor
namespace Go.Proofs.YtnkelahimiipjaaGreatDoor
open Go.RowKit Go.Sort Go.Maps
theorem Rd.grown {w w':World} {v:Value} {l:List Smp} {row:Option Nat} (h:Rd w w.heap.size v l) (hg:w.grownBy w' row) (hne:∀a n c,v=.slice (some a) n c->some a.block≠row):Rd w' w'.heap.size v l:=by
 obtain ⟨A,c,rfl,hc,hA⟩:=h;refine ⟨A,c,rfl,hc,hA.imp id fun ⟨b,o,e,hb,aa⟩=>⟨b,o,e,Nat.lt_of_lt_of_le hb hg.size,fun i hi=> ?_⟩⟩;subst e;have hn:=hne _ _ _ rfl;obtain ⟨q0,q1,q2,q3⟩:=aa i hi;have hk:∀t,w'.cell? ⟨b,t,none⟩=w.cell? ⟨b,t,none⟩:=fun t=>hg.cell_far ⟨b,t,none⟩ hb hn;exact ⟨(hk _).trans q0,(hk _).trans q1,(hk _).trans q2,(hk _).trans q3⟩
def ptC (x:Row):List Value:=[.int .i64 x.1,x.2.1]
def Away (w:World) (Bo:Nat) (row:Option Nat) (v:Value):Prop:=∀a n c,v=.slice (some a) n c->a.block≠Bo∧some a.block≠row∧a.block<w.heap.size
structure OutP (w:World) (base Bo:Nat) (v:Value) (cs:List Row):Prop where
 row:w.ownsRow base 62 2 v cs.length (cs.flatMap ptC)
 box:Boxed w Bo 22 v
 rd:∀x ∈ cs,Own w base 66 x.2.1 x.2.2∧Away w Bo v.ownBlock x.2.1
theorem Away.ne {w w':World} {Bo base e:Nat} {row:Option Nat} {v:Value} {l:List Smp} (h:Away w Bo row v) (ho:Own w' base e v l):(v.ownBlock=none∨v.ownBlock≠row)∧(v.ownBlock=none∨v.ownBlock≠some Bo):=by
 rcases ho.2 with ⟨rfl,_⟩|⟨g,cap,cur,rfl,_⟩
 ·exact ⟨.inl rfl,.inl rfl⟩
 ·have :=h _ _ _ rfl;exact ⟨.inr this.2.1,.inr fun e=>this.1 (by injection e)⟩
theorem OutP.on {w w':World} {base Bo:Nat} {v:Value} {cs:List Row} (h:OutP w base Bo v cs) (k:Below w.heap.size w w'):OutP w' base Bo v cs:=
 ⟨Below.owns k h.row, (k.block _ h.box.lt).trans h.box, fun x hx => by
  obtain ⟨h1,h3⟩:=h.rd x hx;exact ⟨h1.below k,fun a n c e=>⟨(h3 a n c e).1,(h3 a n c e).2.1,Nat.lt_of_lt_of_le (h3 a n c e).2.2 k.size⟩⟩⟩
theorem OutP.put {w:World} {base Bo:Nat} {v:Value} {cs:List Row} (h:OutP w base Bo v cs) {l:Nat} {o0:Obj} (o:Obj) (hl:w.heap[l]? =some o0) (ho:o0.isCells=false):OutP (w.putObj l o) base Bo v cs:=
 ⟨ownsRow_putObj h.row o hl ho, h.box.kept (grownBy_putObj' w l o) (fun e => by injection e with e; subst e; rw [show w.heap[Bo]? = _ from h.box] at hl; cases hl; cases ho), fun x hx => by
  obtain ⟨h1,h3⟩:=h.rd x hx;exact ⟨ownsRow_putObj h1 o hl ho,fun a n c e=>⟨(h3 a n c e).1,(h3 a n c e).2.1,by rw [World.putObj_size];exact (h3 a n c e).2.2⟩⟩⟩
theorem OutP.new (w:World) (base:Nat):OutP (w.alloc (.cells #[.slice none 0 0] 22)) base w.heap.size (.slice none 0 0) []:=
 ⟨⟨rfl,.inl ⟨rfl,rfl⟩⟩,Boxed.new _ _ _,fun _ hx=>absurd hx (List.not_mem_nil)⟩
theorem OutP.push {w w1:World} {base Bo:Nat} {v v':Value} {cs:List Row} {tmp:Obj} {x:Row} (h:OutP w base Bo v cs) (hR:Own w base 66 x.2.1 x.2.2) (ha:Away w Bo v.ownBlock x.2.1)
  (hg:(w.alloc tmp).grownBy w1 v.ownBlock) (hown:w1.ownsRow base 62 2 v' (cs.length+1) (cs.flatMap ptC++ptC x)) (hloc:v'.ownBlock=v.ownBlock∨v'.ownBlock=some (w.alloc tmp).heap.size):
  OutP (w1.setCell ⟨Bo,0,none⟩ v') base Bo v' (cs++[x]):=by
 have aa:Boxed w1 Bo 22 v:=(h.box.alloc tmp).kept hg (h.box.not_row (by decide) h.row);have ac:Boxed w1 Bo 22 v:=aa;refine ⟨?_,aa.set v',fun y hy=> ?_⟩
 ·have :=hown.kept (grownBy_setCell' w1 Bo v') (.inr (aa.not_row (by decide) hown).symm);rw [List.length_append,List.flatMap_append];simpa using this
 ·have ad:Own w base 66 y.2.1 y.2.2∧Away w Bo v.ownBlock y.2.1:=by
   rcases List.mem_append.1 hy with hy|hy
   ·exact h.rd y hy
   ·rw [List.mem_singleton] at hy;subst hy;exact ⟨hR,ha⟩
  obtain ⟨h1,h3⟩:=ad;have hA:(w.alloc tmp).heap.size=w.heap.size+1:=by simp
  have ab:=h3.ne h1;have h5:=(h1.alloc tmp).kept hg ab.1;refine ⟨h5.kept (grownBy_setCell' w1 Bo v') ab.2,fun a n c e=>⟨(h3 a n c e).1, ?_, ?_⟩⟩
  ·rcases hloc with e9|e9
   ·rw [e9];exact (h3 a n c e).2.1
   ·rw [e9];intro e8;injection e8 with e8;have :=(h3 a n c e).2.2;omega
  ·have q1:=(h3 a n c e).2.2;have q2:=hg.size;have q3:=(grownBy_setCell' w1 Bo v').size;omega
theorem OutP.kpB {w w1:World} {base Bo:Nat} {v v':Value} {cs:List Row} {tmp:Obj} (h:OutP w base Bo v cs) (hg:(w.alloc tmp).grownBy w1 v.ownBlock) (hbase:base<=w.heap.size) (hBo:base<=Bo):KpB base w (w1.setCell ⟨Bo,0,none⟩ v'):=by
 refine ⟨(((Below.refl base w).alloc hbase tmp).grown hg (by simp;omega) (fun k e=>(World.ownsRow.lt h.row k e).1)).setCell (p:=⟨Bo,0,none⟩) hBo v',fun k o hk ho=> ?_⟩;have aa:=(Array.getElem?_eq_some_iff.1 hk).1;have ab:k≠Bo:=by
  intro e;subst e;rw [show w.heap[k]? =_ from h.box] at hk;injection hk with hk;subst hk;have :qjP (.cells #[v] 22 (0,0))=false:=rfl;rw [this] at ho;cases ho
 have ac:some k≠v.ownBlock:=by
  intro e;rcases h.row.2 with ⟨rfl,_⟩|⟨g,cap,cur,rfl,hb,hc,_⟩
  ·cases e
  ·injection e with e;have e:k=g:=e;subst e;rw [hc] at hk;injection hk with hk;subst hk;have :qjP (.cells cur 62 (0,0))=false:=rfl;rw [this] at ho;cases ho
 exact (Below.heap_setCell w1 _ v' k ab).trans ((hg.block k (by simp;omega) ac).trans ((Below.heap_alloc w tmp k aa).trans hk))
theorem Away.own {W0 w:World} {base Bo:Nat} {v sv:Value} {cs:List Row} {sl:List Smp} {e:TypeId} (h:OutP W0 base Bo v cs) (ho:Own w W0.heap.size e sv sl):Away w Bo v.ownBlock sv:=by
 intro a n c e1;subst e1;have hb:(Value.slice (some a) n c).ownBlock=some a.block:=by
  rcases ho.2 with ⟨h0,_⟩|⟨g,cap,cur,h0,_⟩
  ·cases h0
  ·injection h0 with h0;injection h0 with h0;subst h0;rfl
 have h1:=ho.blk hb;have h2:=h.box.lt;refine ⟨by omega,fun e9=> ?_,h1.2⟩;have :=(World.ownsRow.lt h.row _ e9.symm).2;omega
theorem qpV (cs:List Row) (i t:Nat) (hi:i<cs.length) (ht:t<2):(cs.flatMap ptC)[i*2+t]? =(ptC cs[i])[t]? :=by
 induction cs generalizing i with
 |nil=>cases hi
 | cons c cs ih =>
   rw [List.flatMap_cons];cases i with
   |zero=>rw [List.getElem?_append_left (by simp [ptC];omega)];simp
   | succ i =>
     rw [List.getElem?_append_right (by simp [ptC];omega)];have e:(i+1)*2+t-(ptC c).length=i*2+t:=(by simp [ptC];omega);rw [e];exact ih i (by simpa using hi)
def RdO (w:World) (base:Nat) (v:Value) (l:List Pts):Prop:=
 ∃A c,v=.slice A l.length c∧l.length<=c∧((l=[]∧(A=none->c=0))∨∃b o,A=some ⟨b,o,none⟩∧base<=b∧b<w.heap.size∧(∃cc,w.heap[b]? =some (.cells cc 62 (0,0)))∧∀i (h:i<l.length),w.cell? ⟨b,o+i*2,none⟩=some (.int .i64 l[i].1)∧∃sv,w.cell? ⟨b,o+i*2+1,none⟩=some sv∧Own w base 66 sv l[i].2∧sv.ownBlock≠some b)
theorem RdO.rdP {w:World} {base:Nat} {v:Value} {l:List Pts} (h:RdO w base v l):RdP w w.heap.size v l:=by
 obtain ⟨A,c,e,hc,hA⟩:=h;exact ⟨A,c,e,hc,hA.imp (fun h=>h.1) fun ⟨b,o,e,_,hb,_,hcl⟩=>⟨b,o,e,hb,fun i hi=>by
  obtain ⟨h1,sv,h2,h3,_⟩:=hcl i hi;exact ⟨h1,sv,h2,h3.rd,h3.nz⟩⟩⟩
theorem RdO.lower {w:World} {base base':Nat} {v:Value} {l:List Pts} (h:RdO w base v l) (k:base'<=base):RdO w base' v l:=by
 obtain ⟨A,c,e,hc,hA⟩:=h;exact ⟨A,c,e,hc,hA.imp id fun ⟨b,o,e,aa,hb,ht,ab⟩=>⟨b,o,e,Nat.le_trans k aa,hb,ht,fun i hi=>by
  obtain ⟨h1,sv,h2,h3,h4⟩:=ab i hi;exact ⟨h1,sv,h2,h3.lower k,h4⟩⟩⟩
theorem RdO.on {w w':World} {base:Nat} {v:Value} {l:List Pts} (h:RdO w base v l) (k:Below w.heap.size w w'):RdO w' base v l:=by
 obtain ⟨A,c,e,hc,hA⟩:=h;exact ⟨A,c,e,hc,hA.imp id fun ⟨b,o,e,aa,hb,⟨cc,ht⟩,ab⟩=>⟨b,o,e,aa,Nat.lt_of_lt_of_le hb k.size,⟨cc,(k.block _ hb).trans ht⟩,fun i hi=>by
  obtain ⟨h1,sv,h2,h3,h4⟩:=ab i hi;exact ⟨(k.cell hb).trans h1,sv,(k.cell hb).trans h2,h3.below k,h4⟩⟩⟩
theorem OutP.rdO {w:World} {base Bo:Nat} {v:Value} {cs:List Row} (h:OutP w base Bo v cs):RdO w base v (cut cs):=by
 have ab:(cut cs).length=cs.length:=by simp [cut]
 rcases h.row.2 with ⟨rfl,hn⟩|⟨g,cap,cur,rfl,hb,hc,h1,h2,h3,h4⟩
 ·have :cs=[]:=List.eq_nil_of_length_eq_zero hn;subst this;exact ⟨none,0,rfl,Nat.zero_le _,.inl ⟨rfl,fun _=>rfl⟩⟩
 ·refine ⟨some ⟨g,0,none⟩,cap,by rw [ab],by rw [ab];exact h1,.inr ⟨g,0,rfl,hb,(Array.getElem?_eq_some_iff.1 hc).1,⟨_,hc⟩,fun i hi=> ?_⟩⟩;have ac:i<cs.length:=by rw [<-ab];exact hi
  obtain ⟨q1,q2⟩:=h.rd cs[i] (List.getElem_mem ac);have aa:∀t (ht:t<2),w.cell? ⟨g,i*2+t,none⟩=(ptC cs[i])[t]? :=by
   intro t ht;have e1:w.cell? ⟨g,i*2+t,none⟩=cur[i*2+t]? :=(by simp [World.cell?,hc]);have e2:(cur.toList.take (cs.length*2))[i*2+t]? =cur[i*2+t]? :=(by rw [List.getElem?_take_of_lt (by omega)];simp);rw [e1,<-e2,h4];exact qpV cs i t ac ht
  have e0:=aa 0 (by omega);have e1:=aa 1 (by omega);have ad:(cut cs)[i]=(cs[i].1,cs[i].2.2):=by simp [cut]
  rw [ad];refine ⟨by rw [Nat.zero_add];exact e0,cs[i].2.1,by rw [Nat.zero_add];exact e1,q1, ?_⟩;rcases (q2.ne q1).1 with e9|e9
  ·rw [e9];simp
  ·exact e9
end Go.Proofs.YtnkelahimiipjaaGreatDoor
namespace Go.Proofs.YtnkelahimiipjaaGreatDoor
open Go.RowKit Go.Sort Go.Maps
attribute [local go_sem] Oper.semAt_some
theorem qhK (id:Int) (r:Value) (W:World):Calls Tryz.prog 80 #[.int .i64 id,r] W fun e w'=>e=.returned r∧w'=W:=by
 go_enter Tryz.func80,Tryz.ntmps80;go_wp2_with fail;go_ret;exact ⟨rfl,rfl⟩
theorem qh6 (mb:Option Nat) (W:World):Calls Tryz.prog 106 #[.map mb] W fun e w'=>e=.returned (.func (.func 121) #[] #[.pointer (some ⟨W.heap.size,0,none⟩)])∧w'=W.alloc (.cells #[.map mb] 155):=by
 go_enter Tryz.func106,Tryz.ntmps106;go_wp2_with fail;go_ret;exact ⟨rfl,rfl⟩
theorem RdR.on {w w':World} {v:Value} {ll:List (List Pts)} (h:RdR w w.heap.size v ll) (k:Below w.heap.size w w'):RdR w' w'.heap.size v ll:=by
 obtain ⟨A,c,e,hc,hA⟩:=h;exact ⟨A,c,e,hc,hA.imp id fun ⟨b,o,e,hb,aa⟩=>⟨b,o,e,Nat.lt_of_lt_of_le hb k.size,fun i hi=>by
  obtain ⟨sv,h1,h2⟩:=aa i hi;exact ⟨sv,(k.cell hb).trans h1,(h2.below k).mono k.size⟩⟩⟩
theorem NewR.put {A B:World} {x:Row} (l:Nat) (o:Obj) (h:NewR A B x) (hl:l<A.heap.size):NewR (A.putObj l o) (B.putObj l o) x:=by
 refine ⟨?_,h.2⟩;rw [World.putObj_size];refine h.1.kept (grownBy_putObj' B l o) ?_;cases hv:x.2.1.ownBlock with
 |none=>exact .inl rfl
 |some g=>exact .inr (by have :=(h.1.blk hv).1;intro e;injection e with e;omega)
theorem qp3 (w:World) (a b:Value) (t:TypeId):∀(j:Nat) (u:Value),([a,b]:List Value)[j]? =some u->(w.alloc (.cells #[a,b] t)).cell? (Addr.add ⟨w.heap.size,0,none⟩ j)=some u:=by
 intro j u hj;rcases j with _|_|j
 ·simp at hj;subst hj;simp [Addr.add]
 ·simp at hj;subst hj;simp [Addr.add]
 ·simp at hj
theorem qnn:(Tryz.prog.info? 62).map (fun i=>(i.zero,i.size,i.bytes))=some (some (.agg #[.int .i64 0,.slice none 0 0]),2,32):=by kernel_rfl
def fosC (FO:Int->List Smp->List Smp) (l:List Pts):List Pts:=(l.map (fun p=>(p.1,FO p.1 p.2))).filter (fun p=>p.2.length≠0)
theorem qgd (l:List Row) (x:Row):cut (l++[x])=cut l++[(x.1,x.2.2)]:=by simp [cut]
theorem qeE (FO:Int->List Smp->List Smp) (l:List Pts) (p:Pts):fosC FO (l++[p])=if (FO p.1 p.2).length=0 then fosC FO l else fosC FO l++[(p.1,FO p.1 p.2)]:=by
 unfold fosC;rw [List.map_append,List.filter_append];by_cases h:(FO p.1 p.2).length=0
 ·rw [if_pos h];simp;exact List.eq_nil_of_length_eq_zero h
 ·rw [if_neg h];simp;exact fun e=>h (by rw [e];rfl)
theorem qjV (vl:Value) (ll:List (List Pts)) (W:World) (T:Tabs W) (hR:RdR W W.heap.size vl ll) (hwf:∀r ∈ ll,∀p ∈ r,(Lit.int .i64 p.1).wf=true) (hn1:ll.length<=990000000) (hn2:ll.flatten.length<=990000000) (hn3:(ll.flatten.flatMap (fun p=>p.2)).length<=990000000):
  Calls Tryz.prog 79 #[vl,.func (.func 80) #[] #[]] W fun e w'=>∃v ks,e=.returned v∧IsKeys ll.flatten ks∧RdO w' W.heap.size v (fosC (fun _ s=>s) (outs ll.flatten ks))∧Below W.heap.size W w':=by
 refine (callsIn_wide (n:=20)).1 ?_;have bm:Fence.wide.fn 107:=trivial;have bj:Fence.wide.fn 106:=trivial;have bk:Fence.wide.fn 80:=trivial;have KG:Hid (∀w',Below W.heap.size W w'->CallsIn Fence.wide 19 Tryz.prog 107 #[vl] w' fun e w''=>e=.returned (.map (some w'.heap.size))∧Gath w'' w'.heap.size ll.flatten∧Below w'.heap.size w' w''):=fun w' hb=>
  callsIn_wide.2 (qib vl ll w' (hR.on hb) hwf hn1 hn2 hn3)
 have KS:∀mb w',CallsIn Fence.wide 19 Tryz.prog 106 #[.map mb] w' fun e w''=>e=.returned (.func (.func 121) #[] #[.pointer (some ⟨w'.heap.size,0,none⟩)])∧w''=w'.alloc (.cells #[.map mb] 155):=fun mb w'=>callsIn_wide.2 (qh6 mb w');have av:Below W.heap.size W ((W.alloc (.cells #[.func (.func 80) #[] #[]] 125)).alloc (.cells #[.slice none 0 0] 22)):=((Below.refl _ W).alloc (Nat.le_refl _) _).alloc (by simp) _;have KG1:=KG.out _ av;refine callsIn_of_wp_marks Tryz.func79 rfl trivial ?_ rfl;simp only [Tryz.ntmps79,List.size_toArray,List.length_cons,List.length_nil,Nat.reduceAdd,Nat.reduceSub,Array.replicate_succ,Array.replicate_zero,List.push_toArray,List.append_toArray,List.nil_append,List.cons_append];gi_wp2_with (first
  |(gi_at_call 107;refine KG1.mono ?_;rintro e w1 ⟨rfl,hG,al⟩)
  |(gi_at_call 106;refine (KS _ _).mono ?_;rintro e w2 ⟨rfl,rfl⟩))
 have be:W.heap.size+2<=w1.heap.size:=by have :=al.size;simp at this;omega
 have an:∀k,(ofL ll.flatten k).length*32<=140737488355328:=fun k=>by have :=qhZ ll.flatten k;omega
 have ag:=al;obtain ⟨b,hb⟩:∃b,b=W.heap.size+1+1:=⟨_,rfl⟩;simp only [World.size_alloc] at hG al;rw [<-hb] at hG al ⊢;have HB:=Lib.hid hb;clear hb;obtain ⟨w3,ah⟩:∃w3,w3=w1.alloc (.cells #[.map (some b)] 155):=⟨_,rfl⟩;have aj:Below w1.heap.size w1 w3:=by rw [ah];exact (Below.refl _ _).alloc (Nat.le_refl _) _
 have a1:w3.heap.size=w1.heap.size+1:=by rw [ah];simp
 have ac:Below W.heap.size W w3:=(av.trans (ag.mono (by simp;omega))).trans (aj.mono (by omega));have a0:Gath w3 b ll.flatten:=hG.on aj;have a6:w3.heap[w1.heap.size]? =some (.cells #[.map (some b)] 155 (0,0)):=by rw [ah];exact World.alloc_heap_new _ _
 have a8:w1.heap[W.heap.size]? =some (.cells #[.func (.func 80) #[] #[]] 125 (0,0)):=
  (ag.block _ (by simp;omega)).trans ((Below.heap_alloc _ _ _ (by simp)).trans (World.alloc_heap_new _ _))
 have bd:OutP w3 W.heap.size (W.heap.size+1) (.slice none 0 0) []:=by
  have h:=OutP.new (W.alloc (.cells #[.func (.func 80) #[] #[]] 125)) W.heap.size;simp only [World.size_alloc] at h;exact (h.on (by simpa using ag)).on aj
 rw [<-ah];clear ah;refine qnw (Z:=W.heap.size) (N:=ll.flatten.length) (F:=Fence.wide) (n:=20) rfl (by omega) (gf:=121) (lb:= #[.pointer (some ⟨w1.heap.size,0,none⟩)]) rfl trivial (enters_of Tryz.func121 (by kernel_rfl) rfl) (encs:=encR) (New:=NewR) (S:=SR ll.flatten) (w0:=w3) ac.size
  (qh4 W.heap.size 19 w1.heap.size b ll.flatten w3 (by omega) a6 ac.size (fun W' bh=>T.below (ac.trans bh)) a0 hn2 an) (Below.refl _ _) (fun _=>rfl) (fun A B x l o h hl=>NewR.put l o h hl)
  (fun pre W1=>∃cs v,OutP W1 W.heap.size (W.heap.size+1) v cs∧cut cs=fosC (fun _ s=>s) (cut pre)∧cs.length<=pre.length∧Below W.heap.size W W1∧W1.heap[W.heap.size]? =some (.cells #[.func (.func 80) #[] #[]] 125 (0,0)))
  ?hI ?h0 (fun x=> { tmps:= #[vl,.func (.func 80) #[] #[],undef,.pointer (some ⟨W.heap.size,0,none⟩),.slice none 0 0,.pointer (some ⟨W.heap.size+1,0,none⟩),.int .i64 x.1,x.2.1,vl,.map (some b),.func (.func 121) #[] #[.pointer (some ⟨w1.heap.size,0,none⟩)],.int .i64 x.1,x.2.1,undef,undef,undef,undef,undef,undef,undef,undef,undef,undef,undef,undef,undef,undef],defers:=[] }) ?assign ?body ?done
 case hI=>
  rintro s A l r o ⟨cs,v,h1,h2,h3,h4,h5⟩ hl hr;have bq:W.heap.size<l:=by omega
  exact ⟨cs,v,h1.put o hr rfl,h2,h3,⟨h4.os,h4.tape,h4.output,by rw [World.putObj_size];exact h4.size,fun k hk=>(World.putObj_heap_other (by omega)).trans (h4.block k hk)⟩,(World.putObj_heap_other (by omega)).trans h5⟩
 case h0=>
  intro B hB;exact ⟨[],_,bd.on hB,rfl,Nat.le_refl _,ac.trans (hB.mono ac.size),(hB.block _ (by omega)).trans ((aj.block _ (by omega)).trans a8)⟩
 case assign=>
  intro l x W K hK;dsimp only [encR]
  gi_wp2
  exact hK
 case body=>
  rintro l pre x W0 Wb hl bo ⟨cs,v,h1,h2,h3,h4,h5⟩ bi aa ae;obtain ⟨id,sv,sl⟩:=x;have hO:=h1.on aa;have hR:=ae.1.rd;have ao:Own Wb W.heap.size 66 sv sl:=ae.1.lower h4.size;have ax:Away Wb (W.heap.size+1) v.ownBlock sv:=Away.own h1 ae.1;have ba:Hid (∀u,sl.length≠0->cut (cs++[(id,u,sl)])=fosC (fun _ s=>s) (cut (pre++[(id,u,sl)]))):=fun u am=>by
   rw [qgd,qgd,qeE,if_neg am,h2]
  have a7:Hid (∀u,sl.length=0->cut cs=fosC (fun _ s=>s) (cut (pre++[(id,u,sl)]))):=fun u he=>by
   rw [qgd,qeE,if_pos he,h2]
  have au:Hid (Below W.heap.size W Wb):=h4.trans (aa.mono h4.size);have aw:Hid (Wb.heap[W.heap.size]? =some (.cells #[.func (.func 80) #[] #[]] 125 (0,0))):=(aa.block _ (Array.getElem?_eq_some_iff.1 h5).1).trans h5;obtain ⟨A,c,e,hc,hA⟩:=hR;dsimp only at e hc hA;subst e;have q0:Wb.cell? ⟨W.heap.size,0,none⟩=some (.func (.func 80) #[] #[]):=by simp [World.cell?,(aa.block _ (Array.getElem?_eq_some_iff.1 h5).1).trans h5]
  have q1:=hO.box.cell;have HO:=Lib.hid hO;have KC:∀id r w',CallsIn (Fence.wide.inRound l) 17 Tryz.prog 80 #[.int .i64 id,r] w' fun e w''=>e=.returned r∧w''=w':=fun id r w'=>CallsIn.inRound l (callsIn_wide.2 (qhK id r w'));have bg:(Fence.wide.inRound l).fn 80:=trivial;dsimp only;obtain ⟨n3,af⟩:∃n3,n3=sl.length:=⟨_,rfl⟩;rw [<-af] at hc ao ⊢;have bf:=Lib.hid ao;have az:=Lib.hid af;have bl:cs.length<990000000:=by omega
  obtain ⟨i0,hi,a9,bc,a2⟩:=info_parts qnn;have bb:W.heap.size<=(Wb.alloc (.cells #[.int .i64 id,.slice A n3 c] 62)).heap.size:=by
   have :=h4.size;have :=aa.size;simp;omega
  have HX:Hid (∀v' w5,w5.ownsRow W.heap.size 62 2 v' (cs.length+1) (cs.flatMap ptC++[.int .i64 id,.slice A n3 c])->(Wb.alloc (.cells #[.int .i64 id,.slice A n3 c] 62)).grownBy w5 v.ownBlock->
    (v'.ownBlock=v.ownBlock∨v'.ownBlock=some (Wb.alloc (.cells #[.int .i64 id,.slice A n3 c] 62)).heap.size)->OutP (w5.setCell ⟨W.heap.size+1,0,none⟩ v') W.heap.size (W.heap.size+1) v' (cs++[(id,.slice A n3 c,sl)])∧Boxed w5 (W.heap.size+1) 22 v):=
   fun v' w5 ho hg hl=>⟨HO.out.push (x:=(id,.slice A n3 c,sl)) bf.out (by rw [af];exact ax) hg ho hl,(HO.out.box.alloc _).kept hg (HO.out.box.not_row (by decide) HO.out.row)⟩
  clear ae hA ao ax af h1;gi_wp2_with (first
   |(gi_at_call 80;refine (KC _ _ _).mono ?_;rintro e w4 ⟨rfl,rfl⟩)
   |(gi_at_builtin;refine wpListIn_append_own_at _ rfl _ _ 22 rfl W.heap.size 62 i0 _ 2 32 Tryz.underlying22 hi a9 bc a2 rfl (by decide) v cs.length (cs.flatMap ptC) rfl (HO.out.row.alloc _) ⟨_,0,none⟩ 1 1 [.int .i64 id,.slice A n3 c] rfl rfl (qp3 _ _ _ _) (by simp [Value.oneCell']) (by unfold maxLen;omega) (by omega) bb ?_;intro v' w5 ab ak _ ad;obtain ⟨g',cap',rfl⟩:=ownsRow_succ ab;obtain ⟨ap,ay⟩:=HX.out _ _ ab ak ad;have bn:=ay.cell;have bp:=ay.frozen;have ab:=Lib.hid ab;have ak:=Lib.hid ak;have ap:=Lib.hid ap;have ad:=Lib.hid ad))
  ·have am:n3≠0:=(by omega);have ar:=HO.out.kpB (v':=.slice (some ⟨g',0,none⟩) (cs.length+1) cap') ak.out au.out.size (by omega);exact ⟨ar,_,⟨_,ap.out⟩,ba.out _ (by rw [<-az.out];exact am),by simp;omega,au.out.trans ar.1,ar.2 _ _ aw.out rfl⟩
  ·have he:n3=0:=(by omega);exact ⟨KpB.refl _ _,cs,⟨_,HO.out⟩,a7.out _ (by rw [<-az.out];exact he),by omega,au.out,aw.out⟩
 case done=>
  rintro xs W0 W2 ⟨ks,hK,hS⟩ ⟨cs,v,h1,h2,h3,h4,h5⟩ aa hD ai;have hO:=h1.on aa;have hc:=hO.box.cell;have aq:=Lib.hid (hO.put (.deferred none) ai rfl).rdO;have a3:Hid (cut cs=fosC (fun _ s=>s) (outs ll.flatten ks)):=by show _=_;rw [h2,hS]
  have a4:Hid (Below W.heap.size W (W2.putObj w3.heap.size (.deferred none))):=by
   have h6:=h4.trans (aa.mono h4.size);exact ⟨h6.os,h6.tape,h6.output,by rw [World.putObj_size];exact h6.size,fun k hk=>(World.putObj_heap_other (by omega)).trans (h6.block k hk)⟩
  have a5:=Lib.hid hK;clear h2 h3 h4 h5 h1 hO hS aa hK
  gi_wp2
  refine ⟨by simp,.inl ⟨_,_,rfl,run_takeDeferred ai, ?_⟩⟩;exact ⟨_,results_tmp rfl _ _ _,v,ks,rfl,a5.out,by have h:=aq.out;rwa [a3.out] at h,a4.out⟩
end Go.Proofs.YtnkelahimiipjaaGreatDoor
namespace Go.Proofs.YtnkelahimiipjaaGreatDoor
open Go.RowKit Go.Sort Go.Maps
attribute [local go_sem ↓] Go.wp_at_zero Go.wp_at_succ
theorem RdR.one {w:World} {v:Value} {l:List Pts} (h:RdP w w.heap.size v l) (t:TypeId):RdR (w.alloc (.cells #[v] t)) (w.alloc (.cells #[v] t)).heap.size (.slice (some ⟨w.heap.size,0,none⟩) 1 1) [l]:=
 ⟨_, 1, rfl, Nat.le_refl _, .inr ⟨w.heap.size, 0, rfl, by simp, fun i hi => by
  have aa:i=0:=by simpa using hi
  subst aa;exact ⟨v,by simp,(h.below ((Below.refl _ w).alloc (Nat.le_refl _) _)).mono (by simp)⟩⟩⟩
theorem qdx (v:Value) (l:List Pts) (W:World) (T:Tabs W) (hR:RdP W W.heap.size v l) (hwf:∀p ∈ l,(Lit.int .i64 p.1).wf=true) (hn2:l.length<=990000000) (hn3:(l.flatMap (fun p=>p.2)).length<=990000000):
  Calls Tryz.prog 43 #[v] W fun e w'=>∃r ks,e=.returned r∧IsKeys l ks∧RdO w' W.heap.size r (fosC (fun _ s=>s) (outs l ks))∧Below W.heap.size W w':=by
 have hB:Below W.heap.size W (W.alloc (.cells #[v] 22)):=(Below.refl _ W).alloc (Nat.le_refl _) _;have K:=qjV (.slice (some ⟨W.heap.size,0,none⟩) 1 1) [l] (W.alloc (.cells #[v] 22)) (T.below hB) (RdR.one hR _) (fun r hr p hp=>by rw [List.mem_singleton] at hr;subst hr;exact hwf p hp) (by simp) (by simpa using hn2) (by simpa using hn3);have aa:([l]:List (List Pts)).flatten=l:=by simp
 rw [aa] at K;have HK:=Lib.hid K;have HB:=Lib.hid hB;obtain ⟨A,c,rfl,hc,_⟩:=hR;clear K hB hwf hn3 T aa;go_enter Tryz.func43,Tryz.ntmps43;go_wp2_with (go_at_call 79;refine HK.out.mono ?_;rintro e w1 ⟨r,ks,rfl,h1,h2,h3⟩;have h1:=Lib.hid h1;have h2:=Lib.hid h2;have h3:=Lib.hid h3);go_ret;exact ⟨r,ks,rfl,h1.out,h2.out.lower HB.out.size,HB.out.trans (h3.out.mono HB.out.size)⟩
theorem qeG (v:Value) (l:List Pts) (W:World) (T:Tabs W) (hR:RdP W W.heap.size v l) (hwf:∀p ∈ l,(Lit.int .i64 p.1).wf=true) (hn2:l.length<=990000000) (hn3:(l.flatMap (fun p=>p.2)).length<=990000000):
  Calls Tryz.prog 43 #[v] W fun e w'=>∃r ks,e=.returned r∧IsKeys l ks∧RdP w' w'.heap.size r (fosC (fun _ s=>s) (outs l ks))∧Below W.heap.size W w':=
 (qdx v l W T hR hwf hn2 hn3).mono fun _ _ ⟨r,ks,h1,h2,h3,h4⟩=>⟨r,ks,h1,h2,h3.rdP,h4⟩
end Go.Proofs.YtnkelahimiipjaaGreatDoor
namespace Go.Proofs.YtnkelahimiipjaaGreatDoor
open Go.RowKit Go.Sort Go.Maps
attribute [local go_sem ↓] Go.wp_at_zero Go.wp_at_succ
end Go.Proofs.YtnkelahimiipjaaGreatDoor
namespace Go.Proofs.YtnkelahimiipjaaGreatDoor
open Go.RowKit Go.Sort Go.Maps
attribute [local go_sem ↓] Go.wp_at_zero Go.wp_at_succ
def qad (l:List Pts):Nat:=(l.flatMap (fun p=>p.2)).length
theorem qdm (l:List Pts) (p:Pts):qad (l++[p])=qad l+p.2.length:=by simp [qad]
theorem qbU (l:List Pts) (k:Nat):qad (l.take k)<=qad l:=by
 have e:qad (l.take k++l.drop k)=qad (l.take k)+qad (l.drop k):=by unfold qad;rw [List.flatMap_append,List.length_append]
 rw [List.take_append_drop] at e;omega
theorem qj2 (v:Value) (l:List Pts) (W:World) (T:Tabs W) (hR:RdP W W.heap.size v l) (hwf:∀p ∈ l,(Lit.int .i64 p.1).wf=true) (hn2:l.length<=990000000) (hn3:(l.flatMap (fun p=>p.2)).length<=990000000)
  (hb:∀ks,IsKeys l ks->(fosC (fun _ s=>s) (outs l ks)).length<=990000000∧qad (fosC (fun _ s=>s) (outs l ks))<=990000000):
  Calls Tryz.prog 30 #[v] W fun e w'=>∃ks,e=.returned (.int .i64 (qad (fosC (fun _ s=>s) (outs l ks))))∧IsKeys l ks∧Below W.heap.size W w':=by
 have HK:=Lib.hid (qeG v l W T hR hwf hn2 hn3);have ao:=Lib.hid hb;obtain ⟨A,c,rfl,hc,_⟩:=hR;clear hwf hn3 T hb;go_enter Tryz.func30,Tryz.ntmps30;go_wp2_with (go_at_call 43;refine HK.out.mono ?_;rintro e w1 ⟨r,ks,rfl,h1,h2,h3⟩;obtain ⟨q,hq⟩:∃q,q=fosC (fun _ s=>s) (outs l ks):=⟨_,rfl⟩;obtain ⟨b1,b2⟩:=ao.out ks h1;rw [<-hq] at h2 b1 b2;have HQ:=Lib.hid hq;have ap:=Lib.hid h1;have HB:=Lib.hid h3;obtain ⟨A2,c2,rfl,an,ai⟩:=h2;obtain ⟨m,hm⟩:∃m,m=q.length:=⟨_,rfl⟩;rw [<-hm] at an b1;rw [<-hm];have HM:=Lib.hid hm;have HA:=Lib.hid ai;clear hq h1 h3 ai hm)
 go_loopw [3,9] (fun s i wl=>∃k:Nat,k<=m∧s=.int .i64 (qad (q.take k))∧i=.int .i64 k∧Hid (Below w1.heap.size w1 wl)) (fun _ i _=>m-(intOf i).toNat)
 case atStart=>exact ⟨0,Nat.zero_le _,rfl,rfl,Below.refl _ _⟩
 case round=>
  obtain ⟨k,hk,rfl,rfl,ab⟩:=hrel;by_cases hlt:k<m
  ·have ac:k<q.length:=(by rw [<-HM.out];exact hlt);rcases HA.out with h0|⟨b3,o3,e,aq,aj⟩
   ·subst h0;simp at ac
   subst e;obtain ⟨p,hp⟩:∃p,p=q[k]:=⟨_,rfl⟩;obtain ⟨c3,sv,c4,ak,_⟩:PtAt wr w1.heap.size b3 (o3+k*2) p:=(by rw [hp];exact (aj k ac).below ab.out aq);obtain ⟨A4,c5,rfl,al,_⟩:=ak;have ah:q.take (k+1)=q.take k++[p]:=(by rw [hp];exact List.take_succ_eq_append_getElem ac);have aa:qad (q.take (k+1))=qad (q.take k)+p.2.length:=(by rw [ah,qdm]);have am:=qbU q (k+1);obtain ⟨t0,af⟩:∃t,t=qad (q.take k):=⟨_,rfl⟩;obtain ⟨n5,ad⟩:∃n,n=p.2.length:=⟨_,rfl⟩;rw [<-af,<-ad] at aa;rw [<-ad] at c4 al;rw [<-af];have HS:=Lib.hid aa;have i1:(k:Int)<(m:Int):=(by omega);have i2:t0+n5<=990000000:=(by omega);clear hp aj ah aa am af ad;go_wp2_with fail;go_roundw
   case rel=>exact ⟨k+1,by omega,by rw [HS.out];go_num,by go_num,ab.out.trans ((Below.refl _ wr).alloc ab.out.size _)⟩
   case measure=>simp [intOf];omega
  ·have ag:k=m:=(by omega);have ae:Hid (q.take k=q):=(by show _=_;rw [ag,HM.out,List.take_length]);clear ag;go_wp2_with fail;go_ret;exact ⟨ks,by rw [ae.out,HQ.out];rfl,ap.out,HB.out.trans (ab.out.mono HB.out.size)⟩
end Go.Proofs.YtnkelahimiipjaaGreatDoor
namespace Go.Proofs.YtnkelahimiipjaaGreatDoor
end Go.Proofs.YtnkelahimiipjaaGreatDoor
