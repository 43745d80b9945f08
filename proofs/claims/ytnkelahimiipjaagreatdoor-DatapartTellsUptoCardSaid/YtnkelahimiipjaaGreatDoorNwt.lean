/-
 Rows of whole numbers.
-/
import Derived.Test.YtnkelahimiipjaaGreatDoorProg
import Derived.Test.YtnkelahimiipjaaGreatDoorBaset
import Derived.Maps.AppendAt
import Derived.Laws.AppendOwnNone
import Derived.Test.YtnkelahimiipjaaGreatDoorPat
set_option maxRecDepth 100000
set_option maxHeartbeats 8000000
namespace Go.Proofs.YtnkelahimiipjaaGreatDoor
open Go.RowKit Go.Sort
def encI (x:Nat):Value:=.int .i64 (x:Nat)
def RdI (w:World) (B:Nat) (v:Value) (l:List Nat):Prop:=
 ∃A c,v=.slice A l.length c∧l.length<=c∧(l=[]∨∃b o,A=some ⟨b,o,none⟩∧b<B∧(∃cs z,w.heap[b]? =some (.cells cs 3 z))∧∀i (h:i<l.length),w.cell? ⟨b,o+i,none⟩=some (.int .i64 (l[i]:Nat)))
theorem RdI.below {w w':World} {B:Nat} {v:Value} {l:List Nat} (h:RdI w B v l) (k:RowKit.Below B w w'):RdI w' B v l:=by
 obtain ⟨A,c,h1,h2,h3⟩:=h;exact ⟨A,c,h1,h2,h3.imp id fun ⟨b,o,e,hb,⟨cs,z,ht⟩,hc⟩=>⟨b,o,e,hb,⟨cs,z,(k.block b hb).trans ht⟩,fun i hi=>(k.cell hb).trans (hc i hi)⟩⟩
theorem RdI.mono {w:World} {B B':Nat} {v:Value} {l:List Nat} (h:RdI w B v l) (k:B<=B'):RdI w B' v l:=by
 obtain ⟨A,c,h1,h2,h3⟩:=h;exact ⟨A,c,h1,h2,h3.imp id fun ⟨b,o,e,hb,ht,hc⟩=>⟨b,o,e,Nat.lt_of_lt_of_le hb k,ht,hc⟩⟩
theorem RdI.on {w w':World} {v:Value} {l:List Nat} (h:RdI w w.heap.size v l) (k:RowKit.Below w.heap.size w w'):RdI w' w'.heap.size v l:=(h.below k).mono k.size
def OwnI (w:World) (base:Nat) (v:Value) (l:List Nat):Prop:=w.ownsRow base 3 1 v l.length (l.map encI)
theorem OwnI.rd {w:World} {base:Nat} {v:Value} {l:List Nat} (h:OwnI w base v l):RdI w w.heap.size v l:=by
 rcases h.2 with ⟨rfl,h0⟩|⟨g,cap,cur,rfl,hb,hh,hn,hm,aa,ht⟩
 ·have :l=[]:=List.eq_nil_of_length_eq_zero h0;subst this;exact ⟨none,0,rfl,by simp,.inl rfl⟩
 ·refine ⟨_,cap,rfl,hn,.inr ⟨g,0,rfl,(Array.getElem?_eq_some_iff.1 hh).1,⟨_,_,hh⟩,fun i hi=> ?_⟩⟩;have e1:w.cell? ⟨g,0+i,none⟩=cur[0+i]? :=by simp [World.cell?,hh]
  have e3:(cur.toList.take (l.length*1))[i]? =cur.toList[i]? :=List.getElem?_take_of_lt (by omega);rw [e1,Nat.zero_add,<-Array.getElem?_toList,<-e3,ht,List.getElem?_map,List.getElem?_eq_getElem hi];rfl
theorem OwnI.nil (w:World) (base:Nat):OwnI w base (.slice none 0 0) []:=⟨rfl,.inl ⟨rfl,rfl⟩⟩
theorem OwnI.alloc {w:World} {base:Nat} {v:Value} {l:List Nat} (h:OwnI w base v l) (o:Obj):OwnI (w.alloc o) base v l:=World.ownsRow.alloc h o
theorem qmA:(Tryz.prog.info? 3).map (fun i=>(i.zero,i.size,i.bytes))=some (some (.int .i64 0),1,8):=by kernel_rfl
theorem qiw {P:Program} {e:TypeId} {z:Value} {s b:Nat} (h:(P.info? e).map (fun i=>(i.zero,i.size,i.bytes))=some (some z,s,b)):∃i,P.info? e=some i∧i.zero=some z∧i.size=s∧i.bytes=b:=by
 cases hi:P.info? e with
 |none=>rw [hi] at h;simp at h
 |some i=>rw [hi] at h;simp at h;exact ⟨i,rfl,h.1,h.2.1,h.2.2⟩
theorem qb7 (w:World) (u:Value) (t:TypeId):(w.alloc (.cells #[u] t)).cell? ⟨w.heap.size,0,none⟩=some u:=by
 unfold World.cell?;rw [heap_alloc_new];rfl
theorem qhQ {w:World} {ops:Array Oper} {rest:List Oper} {o:Oper} {a:Act} {Q:Exit->Act->World->Prop} (hgd:o.guard=none) (s x:Operand)
  (ho:o.op=.call { callee:=.builtin .append,args:= #[s,x],argTypes:= #[37,37] })
  (base:Nat) (v:Value) (l:List Nat) (y:Nat) (hs:a.eval s=v) (hown:OwnI w base v l) (b off c:Nat) (hx:a.eval x=.slice (some ⟨b,off,none⟩) 1 c) (yi:Int) (hc:w.cell? ⟨b,off,none⟩=some (.int .i64 yi)) (hy:yi=(y:Nat))
  (hl:(l.length+1)*8<=140737488355328) (hbase:base<=w.heap.size)
  (h:∀v' w',OwnI w' base v' (l++[y])->w.grownBy w' v.ownBlock->(v'.ownBlock=v.ownBlock∨v'.ownBlock=some w.heap.size)->wpList Tryz.prog ops Q rest (a.put o.dst v') w'):
  wpList Tryz.prog ops Q (o::rest) a w:=by
 subst hy;obtain ⟨i,hi,hz,ab,aa⟩:=qiw qmA;refine wpList_append_own_at w hgd s x 37 ho base 3 i _ 1 8 Tryz.underlying37 hi hz ab aa rfl (by decide) v l.length (l.map encI) hs hown ⟨b,off,none⟩ 1 c [encI y] hx rfl ?_ ?_ (by unfold maxLen;omega) hl hbase (fun v' w' h1 h2 _ h4=> ?_)
 ·intro j u hj;cases j with
  |zero=>simp at hj;subst hj;simpa [Addr.add,encI] using hc
  |succ j=>simp at hj
 ·intro u hu;simp at hu;subst hu;rfl
 ·refine h v' w' ?_ h2 h4;unfold OwnI;rw [List.map_append,List.length_append];exact h1
theorem OwnI.blk {w:World} {base:Nat} {v:Value} {l:List Nat} (h:OwnI w base v l) {g:Nat} (hg:v.ownBlock=some g):base<=g∧g<w.heap.size:=by
 rcases h.2 with ⟨h1,_⟩|⟨g',cap,cur,hv,hb,hh,_⟩
 ·rw [h1] at hg;simp [Value.ownBlock] at hg
 ·rw [hv] at hg;simp [Value.ownBlock] at hg;subst hg;exact ⟨hb,(Array.getElem?_eq_some_iff.1 hh).1⟩
theorem RdI.kept {w w':World} {v:Value} {l:List Nat} (h:RdI w w.heap.size v l) {row:Option Nat} (k:w.grownBy w' row) (hr:∀g,row=some g->∃cs e z,w.heap[g]? =some (.cells cs e z)∧e≠3):RdI w' w'.heap.size v l:=by
 obtain ⟨A,c,h1,h2,h3⟩:=h;refine ⟨A,c,h1,h2,h3.imp id fun ⟨b,o,e,hb,⟨cs,z,ht⟩,hc⟩=> ?_⟩;have aa:some b≠row:=by
  intro e;obtain ⟨cs',e',z',h4,h5⟩:=hr b e.symm;rw [ht] at h4;injection h4 with h4;injection h4 with _ h4 _;exact h5 h4.symm
 exact ⟨b,o,e,Nat.lt_of_lt_of_le hb k.size,⟨cs,z,(k.block b hb aa).trans ht⟩,fun i hi=>k.cell (hc i hi) aa⟩
def OwnV (w:World) (base:Nat) (v:Value) (l:List Value):Prop:=w.ownsRow base 37 1 v l.length l
theorem OwnV.nil (w:World) (base:Nat):OwnV w base (.slice none 0 0) []:=⟨rfl,.inl ⟨rfl,rfl⟩⟩
theorem OwnV.alloc {w:World} {base:Nat} {v:Value} {l:List Value} (h:OwnV w base v l) (o:Obj):OwnV (w.alloc o) base v l:=World.ownsRow.alloc h o
theorem OwnV.below {w w':World} {base:Nat} {v:Value} {l:List Value} (h:OwnV w base v l) (k:Below w.heap.size w w'):OwnV w' base v l:=by
 obtain ⟨h1,h2⟩:=h;refine ⟨h1, ?_⟩;rcases h2 with h2|⟨g,cap,cur,hv,hb,hh,hn,hm,aa,ht⟩
 ·exact .inl h2
 ·exact .inr ⟨g,cap,cur,hv,hb,(k.block g (Array.getElem?_eq_some_iff.1 hh).1).trans hh,hn,hm,aa,ht⟩
theorem OwnV.blk {w:World} {base:Nat} {v:Value} {l:List Value} (h:OwnV w base v l) {g:Nat} (hg:v.ownBlock=some g):base<=g∧∃cs e z,w.heap[g]? =some (.cells cs e z)∧e≠3:=by
 rcases h.2 with ⟨h1,_⟩|⟨g',cap,cur,hv,hb,hh,_⟩
 ·rw [h1] at hg;simp [Value.ownBlock] at hg
 ·rw [hv] at hg;simp [Value.ownBlock] at hg;subst hg;exact ⟨hb,_,_,_,hh,by decide⟩
theorem OwnV.cells {w:World} {base:Nat} {v:Value} {l:List Value} (h:OwnV w base v l) (h0:l≠ []):∃g c,v=.slice (some ⟨g,0,none⟩) l.length c∧l.length<=c∧∀i (h:i<l.length),w.cell? ⟨g,i,none⟩=some l[i]:=by
 rcases h.2 with ⟨_,h1⟩|⟨g,cap,cur,hv,hb,hh,hn,hm,aa,ht⟩
 ·exact absurd (List.eq_nil_of_length_eq_zero h1) h0
 ·refine ⟨g,cap,hv,hn,fun i hi=> ?_⟩;have e1:w.cell? ⟨g,i,none⟩=cur[i]? :=by simp [World.cell?,hh]
  have e3:(cur.toList.take (l.length*1))[i]? =cur.toList[i]? :=List.getElem?_take_of_lt (by omega);rw [e1,<-Array.getElem?_toList,<-e3,ht,List.getElem?_eq_getElem hi]
theorem qnE:(Tryz.prog.info? 37).map (fun i=>(i.zero,i.size,i.bytes))=some (some (.slice none 0 0),1,24):=by kernel_rfl
theorem qqg {w:World} {ops:Array Oper} {rest:List Oper} {o:Oper} {a:Act} {Q:Exit->Act->World->Prop} (hgd:o.guard=none) (s x:Operand)
  (ho:o.op=.call { callee:=.builtin .append,args:= #[s,x],argTypes:= #[236,236] })
  (base:Nat) (v:Value) (l:List Value) (y:Value) (hs:a.eval s=v) (hown:OwnV w base v l) (b off c:Nat) (hx:a.eval x=.slice (some ⟨b,off,none⟩) 1 c) (hc:w.cell? ⟨b,off,none⟩=some y) (hy:y.oneCell'=true)
  (hl:(l.length+1)*24<=140737488355328) (hbase:base<=w.heap.size)
  (h:∀v' w',OwnV w' base v' (l++[y])->w.grownBy w' v.ownBlock->wpList Tryz.prog ops Q rest (a.put o.dst v') w'):
  wpList Tryz.prog ops Q (o::rest) a w:=by
 obtain ⟨i,hi,hz,ab,aa⟩:=qiw qnE;refine wpList_append_own_at w hgd s x 236 ho base 37 i _ 1 24 Tryz.underlying236 hi hz ab aa rfl (by decide) v l.length l hs hown ⟨b,off,none⟩ 1 c [y] hx rfl ?_ ?_ (by unfold maxLen;omega) hl hbase (fun v' w' h1 h2 _ h4=> ?_)
 ·intro j u hj;cases j with
  |zero=>simp at hj;subst hj;simpa [Addr.add] using hc
  |succ j=>simp at hj
 ·intro u hu;simp at hu;subst hu;exact hy
 ·refine h v' w' ?_ h2;unfold OwnV;rw [List.length_append];exact h1
def RdN (w:World) (v:Value) (n:Nat):Prop:=∃l,RdI w w.heap.size v l∧Dig l n
theorem RdN.on {w w':World} {v:Value} {n:Nat} (h:RdN w v n) (k:Below w.heap.size w w'):RdN w' v n:=by
 obtain ⟨l,h1,h2⟩:=h;exact ⟨l,h1.on k,h2⟩
def RetN (W:World) (n:Nat) (e:Ending) (w':World):Prop:=∃r,e=.returned r∧RdN w' r n∧Below W.heap.size W w'
theorem qgN (v:Value) (l:List Nat) (W:World) (hR:RdI W W.heap.size v l) (hok:OkD l) (hl:l.length<=100000):
  Calls Tryz.prog 199 #[v] W (RetN W (valD l)):=by
 obtain ⟨A,c,rfl,hc,hA⟩:=hR;obtain ⟨n,hn⟩:∃n,n=l.length:=⟨_,rfl⟩;rw [<-hn] at hl hc ⊢;have HN:Hid (n=l.length):=hn;have HA:=Lib.hid hA;have HK:=Lib.hid hok;have HC:=Lib.hid hc;clear hn hA hok hc;go_enter Tryz.func199,Tryz.ntmps199
 go_wp2
 go_loop [3] (fun i=>∃k:Nat,k<=n∧i=.int .i64 k∧Hid (valD (l.take k)=valD l)) (fun i=>(intOf i).toNat)
 case atStart=>exact ⟨n,Nat.le_refl _,rfl,by show _=_;rw [HN.out,List.take_length]⟩
 case round =>
  obtain ⟨k,hk,rfl,HV⟩:=hrel;rcases Nat.eq_zero_or_pos k with h0|h0
  ·subst h0;have HD:Hid (Dig [] (valD l)):=qiQ l 0 (Nat.zero_le _) HK.out HV.out (.inl rfl);have HR:Hid (RdI W W.heap.size (.slice A 0 c) []):=⟨A,c,rfl,Nat.zero_le _,.inl rfl⟩
   go_wp2
   go_ret;exact ⟨_,rfl,⟨_,HR.out,HD.out⟩,Below.refl _ _⟩
  ·obtain ⟨j,hj⟩:∃j,k=j+1:=⟨k-1,by omega⟩;subst hj;have aa:j<l.length:=(by rw [<-HN.out];omega);rcases HA.out with e|⟨b,o,e,hb,ae,ab⟩
   ·subst e;simp at aa
   subst e;obtain ⟨x,hx⟩:∃x,x=l[j]:=⟨_,rfl⟩;have ac:=ab j aa;rw [<-hx] at ac;clear ab;by_cases hx0:x=0
   ·have ad:Hid (valD (l.take j)=valD l):=by
     show _=_;rw [<-HV.out,qbb l j aa,<-hx,hx0,Nat.mul_zero,Nat.add_zero]
    clear hx;subst hx0
    go_wp2
    go_round
    case rel=>exact ⟨j,by omega,by go_num,ad⟩
    case measure=>simp [intOf]
   ·have HD:Hid (Dig (l.take (j+1)) (valD l)):=qiQ l (j+1) (by rw [<-HN.out];exact hk) HK.out HV.out (.inr ⟨by omega,by simp;rw [<-hx];exact hx0⟩);have HR:Hid (RdI W W.heap.size (.slice (some ⟨b,o,none⟩) (j+1) c) (l.take (j+1))):=by
     have e:(l.take (j+1)).length=j+1:=(by rw [List.length_take,<-HN.out,Nat.min_eq_left hk]);have ag:=HA.out;refine ⟨_,c,by rw [e],by rw [e];have :=HC.out;omega,.inr ⟨b,o,rfl,hb,ae,fun i hi=> ?_⟩⟩;rcases ag with e2|⟨b',o',e2,_,_,ab⟩
     ·subst e2;simp at aa
     ·injection e2 with e2;injection e2 with e2 e3;subst e2 e3;have af:i<l.length:=(by rw [e] at hi;omega);rw [ab i af,List.getElem_take]
    have g1:((x:Int)==0)=false:=(by rw [beq_eq_false_iff_ne];omega);have ah:j+1<=c:=Nat.le_trans hk HC.out;clear hx
    go_wp2
    go_ret;exact ⟨_,rfl,⟨_,HR.out,HD.out⟩,Below.refl _ _⟩
theorem qfo (v:Value) (n k:Nat) (W:World) (hR:RdN W v n) (hk1:1<=k) (hk10:k<=10) (hn:n<65536^10000):
  Calls Tryz.prog 190 #[v,.int .i64 k,.int .i64 0] W (RetN W (n*k)):=by
 obtain ⟨l,⟨A,c,rfl,hc,hA⟩,hD⟩:=hR;have ay:=hD.len_bd 10000 hn;clear hn;obtain ⟨m,hm⟩:∃m,m=l.length:=⟨_,rfl⟩;rw [<-hm] at ay ⊢;have HM:Hid (m=l.length):=hm;have HA:=Lib.hid hA;have HD:=Lib.hid hD;clear hm hA hD hc;go_enter Tryz.func190,Tryz.ntmps190
 go_wp2
 go_loopw [7,8,9] (fun v c i wl=>∃(j cv:Nat) (o:List Nat),j<=m∧i=.int .i64 j∧c=.int .i64 cv∧cv<k∧OwnI wl W.heap.size v o∧Hid (o.length=j∧OkD o∧valD o+65536^j*cv=valD (l.take j)*k)∧Hid (Below W.heap.size W wl))
  (fun _ _ i _=>m-(intOf i).toNat)
 case atStart=>exact ⟨0,0,[],Nat.zero_le _,rfl,rfl,hk1,OwnI.nil _ _,⟨rfl,fun _ h=>by simp at h,by simp [valD]⟩,Below.refl _ _⟩
 case round =>
  obtain ⟨j,cv,o,hj,rfl,rfl,aq,aa,HO,HB⟩:=hrel;have aj:cv<=9:=by omega
  by_cases hlt:j<m
  ·have ae:j<l.length:=(by rw [<-HM.out];exact hlt);rcases HA.out with e|⟨b,of,e,hb, -,ar⟩
   ·subst e;simp at ae
   subst e;obtain ⟨x,hx⟩:∃x,x=l[j]:=⟨_,rfl⟩;have az:wr.cell? ⟨b,of+j,none⟩=some (.int .i64 (x:Nat)):=by
    have :=ar j ae;rw [<-hx] at this;exact (HB.out.cell hb).trans this
   have ai:x<65536:=(by rw [hx];exact HD.out.1.at j ae);have am:=qhr ai aq hk10;obtain ⟨p,hp⟩:∃p,p=x*k:=⟨_,rfl⟩;have ao:p+cv=l[j]*k+cv:=(by rw [hp,hx]);have HS:=Lib.hid (qjr ae HO.out.1 HO.out.2.2 ao);rw [<-hp] at am;obtain ⟨af,au⟩:=am;have gp:IntKind.i64.wrap ((x:Int)*(k:Int))=(p:Int):=by
    rw [hp,<-Int.natCast_mul];exact IntWalk.i64_in _ (by rw [<-hp];omega)
   have ac:=HO.out.1;have an:=HO.out.2.1;have HL:Hid ((o++[(p+cv)%65536]).length=j+1∧OkD (o++[(p+cv)%65536])):=⟨by simp [ac],an.snoc (Nat.mod_lt _ (by decide))⟩;have HQ:Hid (o.length<=10000):=(by show _<=_;omega);clear hp hx ao ac an HO ar;have ah:Hid (∀u t,Below W.heap.size W (wr.alloc (.cells #[u] t))):=fun u t=>HB.out.alloc HB.out.size _;have ad:Hid (W.heap.size<=wr.heap.size):=HB.out.size;go_wp2_with (first|(at_builtin;refine qhQ rfl _ _ rfl W.heap.size _ o ((p+cv)%65536) rfl (aa.alloc _) wr.heap.size 0 1 rfl _ (qb7 _ _ _) ?c0 ?c1 ?c2 ?_)|fail)
   case c0=>simp
   case c1=>have :=HQ.out;omega
   case c2=>have :=ad.out;simp;omega
   ·intro v' w2 ab hg al;go_wp2_with fail;go_roundw
    case rel=>exact ⟨j+1,(p+cv)/65536,_,by omega,by go_num,by go_num,af,ab,⟨HL.out.1,HL.out.2,HS.out⟩,(ah.out _ _).grown hg (by have :=ad.out;simp;omega) (fun g ak=>(aa.blk ak).1)⟩
    case measure=>simp [intOf];omega
  ·obtain rfl:m=j:=(by omega);have HV:Hid (valD o+65536^o.length*cv=n*k):=by
    show _=_;have :=HO.out.2.2;rw [HM.out,List.take_length,HD.out.2.1] at this;rw [HO.out.1,HM.out];exact this
   have ac:Hid (o.length=m∧OkD o):=⟨HO.out.1,HO.out.2.1⟩;clear HO HA hlt;go_wp2_with fail
   go_loopw [7,8] (fun v c wl=>∃(cv:Nat) (o:List Nat),c=.int .i64 cv∧cv<=9∧OwnI wl W.heap.size v o∧Hid (OkD o∧valD o+65536^o.length*cv=n*k)∧Hid (o.length<=m+1∧(cv=0∨o.length<=m))∧Hid (Below W.heap.size W wl))
    (fun _ c _=>(intOf c).toNat)
   case atStart=>exact ⟨cv,o,rfl,aj,aa,⟨ac.out.2,HV.out⟩,⟨by have :=ac.out.1;omega,.inr (by have :=ac.out.1;omega)⟩,HB.out⟩
   case round=>
    obtain ⟨cv,o,rfl,aq,aa,HO,HN,HB⟩:=hrel;rcases Nat.eq_zero_or_pos cv with h0|h0
    ·subst h0;have ag:Hid (valD o=n*k):=by
      show _=_;have :=HO.out.2
      rwa [Nat.mul_zero,Nat.add_zero] at this
     have KT:=Lib.hid (qgN _ o wr aa.rd HO.out.1 (by have :=HN.out.1;omega));clear HO HN HV aa;go_wp2_with fail;refine KT.out.mono ?_;rintro e w2 ⟨r,rfl,hr,ap⟩;have HR:=Lib.hid hr;have ax:=Lib.hid ap;clear hr ap;go_wp2_with fail;go_ret;exact ⟨_,rfl,ag.out▸HR.out,HB.out.trans (ax.out.mono HB.out.size)⟩
    ·have aw:o.length<=m:=(by have :=HN.out.2;omega);have ag:Hid (OkD (o++[cv%65536])∧valD (o++[cv%65536])+65536^(o++[cv%65536]).length*(cv/65536)=n*k):=by
      refine ⟨HO.out.1.snoc (Nat.mod_lt _ (by decide)), ?_⟩;rw [qcm,List.length_append,List.length_singleton,show cv%65536=cv by omega,show cv/65536=0 by omega,Nat.mul_zero,Nat.add_zero];exact HO.out.2
     have av:Hid ((o++[cv%65536]).length<=m+1):=(by show _<=_;simp;omega);have HQ:Hid (o.length<=10000):=(by show _<=_;omega);clear HO HN HV aw;have ah:Hid (∀u t,Below W.heap.size W (wr.alloc (.cells #[u] t))):=fun u t=>HB.out.alloc HB.out.size _;have ad:Hid (W.heap.size<=wr.heap.size):=HB.out.size;go_wp2_with (first|(at_builtin;refine qhQ rfl _ _ rfl W.heap.size _ o (cv%65536) rfl (aa.alloc _) wr.heap.size 0 1 rfl _ (qb7 _ _ _) ?c0 ?c1 ?c2 ?_)|fail)
     case c0=>simp
     case c1=>have :=HQ.out;omega
     case c2=>have :=ad.out;simp;omega
     ·intro v' w2 ab hg al;go_wp2_with fail;go_roundw
      case rel=>exact ⟨cv/65536,_,by go_num,by omega,ab,ag.out,⟨av.out,.inl (by omega)⟩,(ah.out _ _).grown hg (by have :=ad.out;simp;omega) (fun g ak=>(aa.blk ak).1)⟩
      case measure=>simp [intOf];omega
theorem qgz (n:Nat) (W:World) (hn:n<=999999999999999):
  Calls Tryz.prog 189 #[.int .i64 n] W (RetN W n):=by
 go_enter Tryz.func189,Tryz.ntmps189
 go_wp2
 go_loopw [0,3] (fun c v wl=>∃(cv:Nat) (o:List Nat),c=.int .i64 cv∧cv<=999999999999999∧OwnI wl W.heap.size v o∧Hid (OkD o∧valD o+65536^o.length*cv=n∧(cv=0->o.getLast? ≠some 0))∧Hid (Below W.heap.size W wl))
  (fun c _ _=>(intOf c).toNat)
 case atStart=>exact ⟨n,[],rfl,hn,OwnI.nil _ _,⟨fun _ h=>by simp at h,by simp [valD],by simp⟩,Below.refl _ _⟩
 case round=>
  obtain ⟨cv,o,rfl,ai,aa,HO,HB⟩:=hrel;rcases Nat.eq_zero_or_pos cv with h0|h0
  ·subst h0;have HR:Hid (RdN wr u3 n):=by
    have h2:=HO.out.2.1;rw [Nat.mul_zero,Nat.add_zero] at h2;exact ⟨o,aa.rd,HO.out.1,h2,HO.out.2.2 rfl⟩
   clear aa HO;go_wp2_with fail;go_ret;exact ⟨_,rfl,HR.out,HB.out⟩
  ·have ah:o.length<=3:=by
    rcases Nat.lt_or_ge 3 o.length with h|h
    ·exfalso;have h2:=HO.out.2.1;have h3:65536^4<=65536^o.length:=Nat.pow_le_pow_right (by decide) h;have h4:65536^o.length*1<=65536^o.length*cv:=Nat.mul_le_mul_left _ h0;have h5:(65536:Nat)^4=18446744073709551616:=(by decide);omega
    ·exact h
   have ag:Hid (OkD (o++[cv%65536])∧valD (o++[cv%65536])+65536^(o++[cv%65536]).length*(cv/65536)=n∧(cv/65536=0->(o++[cv%65536]).getLast? ≠some 0)):=by
    refine ⟨HO.out.1.snoc (Nat.mod_lt _ (by decide)), ?_,fun h=> ?_⟩
    ·rw [qcm,List.length_append,List.length_singleton,Nat.pow_succ,<-HO.out.2.1,Nat.mul_assoc,Nat.add_assoc,<-Nat.mul_add,Nat.mod_add_div]
    ·rw [List.getLast?_append];simp;omega
   clear HO;have ad:Hid (∀u t,Below W.heap.size W (wr.alloc (.cells #[u] t))):=fun u t=>HB.out.alloc HB.out.size _;have ac:Hid (W.heap.size<=wr.heap.size):=HB.out.size;go_wp2_with (first|(at_builtin;refine qhQ rfl _ _ rfl W.heap.size _ o (cv%65536) rfl (aa.alloc _) wr.heap.size 0 1 rfl _ (qb7 _ _ _) ?c0 ?c1 ?c2 ?_)|fail)
   case c0=>simp
   case c1=>omega
   case c2=>have :=ac.out;simp;omega
   ·intro v' w2 ab hg af;go_wp2_with fail;go_roundw
    case rel=>exact ⟨cv/65536,_,by go_num,by omega,ab,ag.out,(ad.out _ _).grown hg (by have :=ac.out;simp;omega) (fun g ae=>(aa.blk ae).1)⟩
    case measure=>simp [intOf];omega
theorem qgt (va vb : Value) (n m : Nat) (W : World) (hRa : RdN W va n) (hRb : RdN W vb m) (hn : n < 65536 ^ 10000) (hm : m < 65536 ^ 10000) :
  Calls Tryz.prog 191 #[va,vb] W fun e w'=>e=.returned (.bool (decide (n<m)))∧Ext W w':=by
 obtain ⟨a,⟨A,ca,rfl,am,hA⟩,ah⟩:=hRa;obtain ⟨b,⟨B,cb,rfl,al,hB⟩,ai⟩:=hRb;have ao:=ah.len_bd 10000 hn;have au:=ai.len_bd 10000 hm;clear hn hm am al;obtain ⟨k,hk⟩:∃k,k=a.length:=⟨_,rfl⟩;obtain ⟨j,hj⟩:∃j,j=b.length:=⟨_,rfl⟩;rw [<-hk] at ao ⊢;rw [<-hj] at au ⊢;have HK:Hid (k=a.length):=hk;have HJ:Hid (j=b.length):=hj;have HA:=Lib.hid hA;have HB:=Lib.hid hB;have ab:=Lib.hid ah;have ac:=Lib.hid ai;obtain ⟨q,hq⟩:∃q,q=decide (n<m):=⟨_,rfl⟩;have HQ:Hid (q=decide (n<m)):=hq;rw [<-hq];clear hk hj hA hB ah ai hq;by_cases hkj:k=j
 ·subst hkj
  have g0:(((k:Int)) != (k:Int))=false:=by simp
  go_enter Tryz.func191,Tryz.ntmps191;go_wp2_with fail
  go_loopw [5] (fun s wl=>∃i:Int, -1<=i∧i<k∧s=.int .i64 i∧Hid (a.drop (i+1).toNat=b.drop (i+1).toNat)∧Hid (Ext W wl))
   (fun s _=>(intOf s+1).toNat)
  case atStart=>exact ⟨(k:Int)-1,by omega,by omega,rfl,by show _=_;rw [show ((k:Int)-1+1).toNat=k by omega,List.drop_of_length_le (by rw [HK.out];exact Nat.le_refl _),List.drop_of_length_le (by rw [HJ.out];exact Nat.le_refl _)],Ext.refl _⟩
  case round =>
   obtain ⟨i,av,ax,rfl,HT,HE⟩:=hrel;by_cases hi0:0<=i
   ·obtain ⟨t,rfl⟩:=Int.eq_ofNat_of_zero_le hi0;have af:t<a.length:=(by rw [<-HK.out];omega);have ag:t<b.length:=(by rw [<-HJ.out];omega);rcases HA.out with e|⟨b1,o1,e,aq, -,ae⟩
    ·subst e;simp at af
    rcases HB.out with e'|⟨b2,o2,e',ap, -,ad⟩
    ·subst e';simp at ag
    subst e e';obtain ⟨x,hx⟩:∃x,x=a[t]:=⟨_,rfl⟩;obtain ⟨y,hy⟩:∃y,y=b[t]:=⟨_,rfl⟩;have aw:wr.cell? ⟨b1,o1+t,none⟩=some (.int .i64 (x:Nat)):=(by rw [hx];exact (HE.out.cell aq).trans (ae t af));have ay:wr.cell? ⟨b2,o2+t,none⟩=some (.int .i64 (y:Nat)):=(by rw [hy];exact (HE.out.cell ap).trans (ad t ag));have aj:Hid (a.drop (t+1)=b.drop (t+1)):=by
     have :=HT.out
     rwa [show ((t:Int)+1).toNat=t+1 by omega] at this
    have i1:(t:Int)<(k:Int):=(by omega);have i2:t<k:=(by omega);clear ae ad HT;by_cases hxy:x=y
    ·have ar:Hid (a.drop ((t:Int)-1+1).toNat=b.drop ((t:Int)-1+1).toNat):=by
      show _=_;rw [show ((t:Int)-1+1).toNat=t by omega];exact qlu (by rw [<-HK.out,<-HJ.out]) af aj.out (by rw [<-hx,<-hy];exact hxy)
     clear hx hy;subst hxy;have g1:((x:Int) != (x:Int))=false:=(by simp);go_wp2_with fail
     go_quiet (fail)
     go_wp2_with fail;go_roundw
     case rel=>exact ⟨(t:Int)-1,by omega,by omega,rfl,ar,HE.out.drewN nq⟩
     case measure=>simp [intOf]
    ·have aa:Hid (decide (x<y)=q):=by
      show _=_;rw [HQ.out,decide_eq_decide,<-ab.out.2.1,<-ac.out.2.1];have ak:a.length=b.length:=(by rw [<-HK.out,<-HJ.out]);constructor
      ·intro h;exact qlM ab.out.1 ac.out.1 ak af aj.out (by rw [<-hx,<-hy];exact h)
      ·intro h;rcases Nat.lt_or_ge x y with h1|h1
       ·exact h1
       ·exfalso;have :=qlM ac.out.1 ab.out.1 ak.symm ag aj.out.symm (by rw [<-hx,<-hy];omega);omega
     have g1:((x:Int) != (y:Int))=true:=(by simp;omega);clear hx hy;go_wp2_with fail
     go_quiet (fail)
     have an:=Lib.hid (HE.out.drewN nq);go_wp2_with fail
     go_quiet (fail)
     go_wp2_with fail;go_ret;exact ⟨qao aa.out,an.out.drewN nq⟩
   ·obtain rfl:i= -1:=(by omega);have aa:Hid (q=false):=by
     show _=_;rw [HQ.out];have :=HT.out;simp only [show ((-1:Int)+1).toNat=0 from rfl,List.drop_zero] at this;apply decide_eq_false;rw [<-ab.out.2.1,<-ac.out.2.1,this];omega
    go_wp2_with fail;go_ret;exact ⟨qao aa.out.symm,HE.out⟩
 ·have g0:(((k:Int)) != (j:Int))=true:=by simp;omega
  have aa:Hid (decide (k<j)=q):=by
   show _=_;rw [HQ.out,decide_eq_decide];constructor
   ·intro h;exact ab.out.lt_of_len ac.out (by rw [<-HK.out,<-HJ.out];exact h)
   ·intro h;have :=ac.out.len_le ab.out (by omega);rw [<-HK.out,<-HJ.out] at this;omega
  go_enter Tryz.func191,Tryz.ntmps191;go_wp2_with fail;go_ret;exact ⟨qao aa.out,Ext.refl _⟩
theorem qkb (va vb:Value) (n m:Nat) (W:World) (hRa:RdN W va n) (hRb:RdN W vb m) (hn:n<65536^10000) (hmn:m<=n):
  Calls Tryz.prog 192 #[va,vb] W (RetN W (n-m)):=by
 obtain ⟨a,⟨A,ca,rfl,az,hA⟩,al⟩:=hRa;obtain ⟨b,⟨B,cb,rfl,a6,hB⟩,ap⟩:=hRb;have a3:=al.len_bd 10000 hn;have ay:=al.len_le ap hmn;have a0:=Lib.hid hmn;clear hn az a6 hmn;obtain ⟨k,hk⟩:∃k,k=a.length:=⟨_,rfl⟩;obtain ⟨j,hj⟩:∃j,j=b.length:=⟨_,rfl⟩;rw [<-hk] at a3 ay ⊢;rw [<-hj] at ay ⊢;have HK:Hid (k=a.length):=hk;have HJ:Hid (j=b.length):=hj;have HA:=Lib.hid hA;have av:=Lib.hid hB;have ar:=Lib.hid al;have au:=Lib.hid ap;clear hk hj hA hB al ap;go_enter Tryz.func192,Tryz.ntmps192;go_wp2_with fail
 go_loopw [5,6,7] (fun v c s wl=>∃(i q:Nat) (o:List Nat),i<=k∧s=.int .i64 i∧c=.int .i64 q∧q<=1∧OwnI wl W.heap.size v o∧Hid (o.length=i∧OkD o∧valD o+valD (b.take i)=valD (a.take i)+65536^i*q)∧Hid (Below W.heap.size W wl))
  (fun _ _ s _=>k-(intOf s).toNat)
 case atStart=>exact ⟨0,0,[],Nat.zero_le _,rfl,rfl,by omega,OwnI.nil _ _,⟨rfl,fun _ h=>by simp at h,by simp [valD]⟩,Below.refl _ _⟩
 case round =>
  obtain ⟨i,q,o,hi,rfl,rfl,hq,ab,HO,HB⟩:=hrel;by_cases hlt:i<k
  ·have ak:i<a.length:=(by rw [<-HK.out];exact hlt);rcases HA.out with e|⟨b1,o1,e,ba, -,ag⟩
   ·subst e;simp at ak
   subst e;obtain ⟨x,hx⟩:∃x,x=a[i]:=⟨_,rfl⟩;have bd:wr.cell? ⟨b1,o1+i,none⟩=some (.int .i64 (x:Nat)):=(by rw [hx];exact (HB.out.cell ba).trans (ag i ak));have a4:x<65536:=(by rw [hx];exact ar.out.1.at i ak);obtain ⟨y,hy⟩:∃y,y=b.getD i 0:=⟨_,rfl⟩;have a7:y<65536:=by
    rw [hy];rcases Nat.lt_or_ge i b.length with h|h
    ·simp only [List.getD,List.getElem?_eq_getElem h,Option.getD_some];exact au.out.1.at i h
    ·simp [List.getD,List.getElem?_eq_none h]
   have HS:∀d r:Nat,(d:Int)=(x:Int)-q-y+65536*(r:Nat)->valD (o++[d])+valD (b.take (i+1))=valD (a.take (i+1))+65536^(i+1)*r:=fun d r hd=>
    qje ak HO.out.1 HO.out.2.2 rfl (by rw [<-hx,<-hy];exact hd)
   have am:=Lib.hid HS;have ah:=Lib.hid HO.out.1;have ai:=Lib.hid HO.out.2.1;have HQ:Hid (o.length<=10000):=(by show _<=_;have :=HO.out.1;omega);have bb:i<j∨(j<=i∧y=0):=by
    rcases Nat.lt_or_ge i j with h|h
    ·exact .inl h
    ·right;refine ⟨h, ?_⟩;rw [hy];simp [List.getD,List.getElem?_eq_none (show b.length<=i by rw [<-HJ.out];exact h)]
   have aq:i<j->∃b2 o2,B=some ⟨b2,o2,none⟩∧wr.cell? ⟨b2,o2+i,none⟩=some (.int .i64 (y:Nat)):=by
    intro h;have an:i<b.length:=(by rw [<-HJ.out];exact h);rcases av.out with e'|⟨b2,o2,e',a9, -,ao⟩
    ·subst e';simp at an
    ·exact ⟨b2,o2,e',by rw [hy];simp only [List.getD,List.getElem?_eq_getElem an,Option.getD_some];exact (HB.out.cell a9).trans (ao i an)⟩
   have aj:Hid (∀u t,Below W.heap.size W (wr.alloc (.cells #[u] t))):=fun u t=>HB.out.alloc HB.out.size _;have ad:Hid (W.heap.size<=wr.heap.size):=HB.out.size;clear ag hx hy HO HS HB HA av;have be:(x:Int)<65536:=(by omega);have bc:(y:Int)<65536:=(by omega);rcases bb with aw|⟨aw,a5⟩
   ·obtain ⟨b2,o2,e2,aq⟩:=aq aw;subst e2;by_cases hneg:(x:Int)-q-y<0
    ·obtain ⟨d,hd⟩:∃d:Nat,(d:Int)=(x:Int)-q-y+65536:=⟨((x:Int)-q-y+65536).toNat,by omega⟩;have Hd:=Lib.hid hd;have ac:d<65536:=(by omega);have HF:Hid (valD (o++[d])+valD (b.take (i+1))=valD (a.take (i+1))+65536^(i+1)*1):=am.out d 1 (by omega);clear hd;go_wp2_with (first|(at_builtin;refine qhQ rfl _ _ rfl W.heap.size _ o d rfl (ab.alloc _) wr.heap.size 0 1 rfl _ (qb7 _ _ _) ?c0 ?c1 ?c2 ?_)|fail)
     case c0=>have :=Hd.out;omega
     case c1=>have :=HQ.out;omega
     case c2=>have :=ad.out;simp;omega
     ·intro v' w2 aa hg af;go_wp2_with fail;go_roundw
      case rel=>exact ⟨i+1,1,_,by omega,by go_num,rfl,by omega,aa,⟨by simp [ah.out],ai.out.snoc ac,HF.out⟩,(aj.out _ _).grown hg (by have :=ad.out;simp;omega) (fun g ae=>(ab.blk ae).1)⟩
      case measure=>simp [intOf];omega
    ·obtain ⟨d,hd⟩:∃d:Nat,(d:Int)=(x:Int)-q-y:=⟨((x:Int)-q-y).toNat,by omega⟩;have Hd:=Lib.hid hd;have ac:d<65536:=(by omega);have HF:Hid (valD (o++[d])+valD (b.take (i+1))=valD (a.take (i+1))+65536^(i+1)*0):=am.out d 0 (by omega);clear hd;go_wp2_with (first|(at_builtin;refine qhQ rfl _ _ rfl W.heap.size _ o d rfl (ab.alloc _) wr.heap.size 0 1 rfl _ (qb7 _ _ _) ?c0 ?c1 ?c2 ?_)|fail)
     case c0=>have :=Hd.out;omega
     case c1=>have :=HQ.out;omega
     case c2=>have :=ad.out;simp;omega
     ·intro v' w2 aa hg af;go_wp2_with fail;go_roundw
      case rel=>exact ⟨i+1,0,_,by omega,by go_num,rfl,by omega,aa,⟨by simp [ah.out],ai.out.snoc ac,HF.out⟩,(aj.out _ _).grown hg (by have :=ad.out;simp;omega) (fun g ae=>(ab.blk ae).1)⟩
      case measure=>simp [intOf];omega
   ·subst a5;clear aq;have a1:¬i<j:=(by omega);by_cases hneg:(x:Int)-q<0
    ·obtain ⟨d,hd⟩:∃d:Nat,(d:Int)=(x:Int)-q+65536:=⟨((x:Int)-q+65536).toNat,by omega⟩;have Hd:=Lib.hid hd;have ac:d<65536:=(by omega);have HF:Hid (valD (o++[d])+valD (b.take (i+1))=valD (a.take (i+1))+65536^(i+1)*1):=am.out d 1 (by omega);clear hd;go_wp2_with (first|(at_builtin;refine qhQ rfl _ _ rfl W.heap.size _ o d rfl (ab.alloc _) wr.heap.size 0 1 rfl _ (qb7 _ _ _) ?c0 ?c1 ?c2 ?_)|fail)
     case c0=>have :=Hd.out;omega
     case c1=>have :=HQ.out;omega
     case c2=>have :=ad.out;simp;omega
     ·intro v' w2 aa hg af;go_wp2_with fail;go_roundw
      case rel=>exact ⟨i+1,1,_,by omega,by go_num,rfl,by omega,aa,⟨by simp [ah.out],ai.out.snoc ac,HF.out⟩,(aj.out _ _).grown hg (by have :=ad.out;simp;omega) (fun g ae=>(ab.blk ae).1)⟩
      case measure=>simp [intOf];omega
    ·obtain ⟨d,hd⟩:∃d:Nat,(d:Int)=(x:Int)-q:=⟨((x:Int)-q).toNat,by omega⟩;have Hd:=Lib.hid hd;have ac:d<65536:=(by omega);have HF:Hid (valD (o++[d])+valD (b.take (i+1))=valD (a.take (i+1))+65536^(i+1)*0):=am.out d 0 (by omega);clear hd;go_wp2_with (first|(at_builtin;refine qhQ rfl _ _ rfl W.heap.size _ o d rfl (ab.alloc _) wr.heap.size 0 1 rfl _ (qb7 _ _ _) ?c0 ?c1 ?c2 ?_)|fail)
     case c0=>have :=Hd.out;omega
     case c1=>have :=HQ.out;omega
     case c2=>have :=ad.out;simp;omega
     ·intro v' w2 aa hg af;go_wp2_with fail;go_roundw
      case rel=>exact ⟨i+1,0,_,by omega,by go_num,rfl,by omega,aa,⟨by simp [ah.out],ai.out.snoc ac,HF.out⟩,(aj.out _ _).grown hg (by have :=ad.out;simp;omega) (fun g ae=>(ab.blk ae).1)⟩
      case measure=>simp [intOf];omega
  ·obtain rfl:k=i:=(by omega);have a2:Hid (valD o=n-m):=by
    refine qlI ar.out au.out a0.out (by rw [HO.out.1,HK.out]) HO.out.2.1 ?_ (q:=q);rw [<-HK.out];exact HO.out.2.2
   have KT:=Lib.hid (qgN _ o wr ab.rd HO.out.2.1 (by have :=HO.out.1;omega));clear HO ab;go_wp2_with fail;refine KT.out.mono ?_;rintro e w2 ⟨r,rfl,hr,ax⟩;have HR:=Lib.hid hr;have a8:=Lib.hid ax;clear hr ax;go_wp2_with fail;go_ret;exact ⟨_,rfl,a2.out▸HR.out,HB.out.trans (a8.out.mono HB.out.size)⟩
theorem RdN.kept {w w':World} {v:Value} {n:Nat} (h:RdN w v n) {row:Option Nat} (k:w.grownBy w' row) (hr:∀g,row=some g->∃cs e z,w.heap[g]? =some (.cells cs e z)∧e≠3):RdN w' v n:=by
 obtain ⟨l,h1,h2⟩:=h;exact ⟨l,h1.kept k hr,h2⟩
theorem RdN.one {w:World} {v:Value} {n:Nat} (h:RdN w v n):v.oneCell'=true:=by
 obtain ⟨l,⟨A,c,rfl,_⟩,_⟩:=h;rfl
theorem qmB {va vb:Value} {n m:Nat} {W:World} (hRa:RdN W va n) (hRb:RdN W vb m) (hn:n<65536^10000) (hm:m<65536^10000) (h:n<m):
  Calls Tryz.prog 191 #[va,vb] W fun e w'=>e=.returned (.bool true)∧Ext W w':=by
 have :=qgt va vb n m W hRa hRb hn hm
 rwa [decide_eq_true h] at this
theorem qow {va vb:Value} {n m:Nat} {W:World} (hRa:RdN W va n) (hRb:RdN W vb m) (hn:n<65536^10000) (hm:m<65536^10000) (h:m<=n):
  Calls Tryz.prog 191 #[va,vb] W fun e w'=>e=.returned (.bool false)∧Ext W w':=by
 have :=qgt va vb n m W hRa hRb hn hm
 rwa [decide_eq_false (by omega)] at this
end Go.Proofs.YtnkelahimiipjaaGreatDoor
