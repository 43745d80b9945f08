/-
 stream.Merge; stream.Clean's answer by the numbers.
-/
import Derived.Test.YtnkelahimiipjaaGreatDoorMmt
import Derived.Test.YtnkelahimiipjaaGreatDoorQpt
import Derived.Test.YtnkelahimiipjaaGreatDoorPmt
import Derived.Test.YtnkelahimiipjaaGreatDoorOwt
import Derived.Test.YtnkelahimiipjaaGreatDoorKst
import Derived.Test.YtnkelahimiipjaaGreatDoorRgt
set_option maxRecDepth 100000
set_option maxHeartbeats 8000000
namespace Go.Proofs.YtnkelahimiipjaaGreatDoor
open Go.RowKit Go.Sort Go.Maps
attribute [local go_sem ↓] Go.wp_at_zero Go.wp_at_succ
theorem qh7 (v:Value) (l:List Pts) (W:World) (T:Tabs W) (hR:RdP W W.heap.size v l) (hwf:∀p ∈ l,(Lit.int .i64 p.1).wf=true) (hn2:l.length<=990000000) (hn3:qad l<=990000000):
  Calls Tryz.prog 43 #[v] W fun e w'=>∃r,e=.returned r∧RdO w' W.heap.size r (qag l)∧Below W.heap.size W w':=
 (qdx v l W T hR hwf hn2 hn3).mono fun e w' ⟨r,ks,h1,h2,h3,h4⟩=>⟨r,h1,by rw [h2.rows] at h3;exact h3,h4⟩
theorem qnY (v:Value) (l:List Pts) (W:World) (T:Tabs W) (hR:RdP W W.heap.size v l) (hwf:∀p ∈ l,(Lit.int .i64 p.1).wf=true) (hn2:l.length<=990000000) (hn3:qad l<=990000000):
  Calls Tryz.prog 43 #[v] W fun e w'=>∃r,e=.returned r∧RdP w' w'.heap.size r (qag l)∧Below W.heap.size W w':=
 (qeG v l W T hR hwf hn2 hn3).mono fun e w' ⟨r,ks,h1,h2,h3,h4⟩=>⟨r,h1,by rw [h2.rows] at h3;exact h3,h4⟩
theorem qmN (v:Value) (l:List Pts) (W:World) (T:Tabs W) (hR:RdP W W.heap.size v l) (hwf:∀p ∈ l,(Lit.int .i64 p.1).wf=true) (hn2:l.length<=990000000) (hn3:qad l<=990000000):
  Calls Tryz.prog 30 #[v] W fun e w'=>e=.returned (.int .i64 (qad (qag l)))∧Below W.heap.size W w':=
 (qj2 v l W T hR hwf hn2 hn3 fun ks h=>by rw [h.rows];exact ⟨Nat.le_trans (qbg l) hn2,Nat.le_trans (qaZ l) hn3⟩).mono fun e w' ⟨ks,h1,h2,h3⟩=>⟨by rw [h2.rows] at h1;exact h1,h3⟩
end Go.Proofs.YtnkelahimiipjaaGreatDoor
namespace Go.Proofs.YtnkelahimiipjaaGreatDoor
open Go.RowKit Go.Sort
theorem qca {l m:List Smp} (h:∀x,x ∈ l↔x ∈ m):qaC l=qaC m:=
 qdN l _ (qc9 m) fun x=>by rw [qda,h]
end Go.Proofs.YtnkelahimiipjaaGreatDoor
namespace Go.Proofs.YtnkelahimiipjaaGreatDoor
def qaY (r:Int×Int×Bool) (t:Int):Int×Int×Bool:=(if !r.2.2 || decide (t<r.1) then t else r.1,if !r.2.2 || decide (r.2.1<t) then t else r.2.1,true)
def mnT (a:Int) (s:List Smp):Int:=s.foldl (fun a x=>min a x.1) a
def mxT (b:Int) (s:List Smp):Int:=s.foldl (fun b x=>max b x.1) b
def qcW (c:List Pts):Int×Int×Bool:=if c=[] then (0,0,false) else (mnT 1099511627776 (c.flatMap (fun p=>p.2)),mxT 0 (c.flatMap (fun p=>p.2)),true)
theorem qpu (s:List Smp):∀a b,s.foldl (fun r x=>qaY r x.1) (a,b,true)=(mnT a s,mxT b s,true):=by
 induction s with
 |nil=>intro a b;rfl
 | cons x s ih =>
   intro a b;have e:qaY (a,b,true) x.1=(min a x.1,max b x.1,true):=by
    unfold qaY;simp only [Bool.not_true,Bool.false_or,decide_eq_true_eq];have h1:(if x.1<a then x.1 else a)=min a x.1:=(by split<;>omega);have h2:(if b<x.1 then x.1 else b)=max b x.1:=(by split<;>omega);rw [h1,h2]
   rw [List.foldl_cons,e,ih];rfl
theorem qnH (s:List Smp) (h:∀x ∈ s,0<=x.1∧x.1<=1099511627776) (hne:s≠ []):s.foldl (fun r x=>qaY r x.1) (0,0,false)=(mnT 1099511627776 s,mxT 0 s,true):=by
 cases s with
 |nil=>exact absurd rfl hne
 | cons x s =>
   have hx:=h x List.mem_cons_self;have e:qaY (0,0,false) x.1=(min 1099511627776 x.1,max 0 x.1,true):=by
    unfold qaY;simp only [Bool.not_false,Bool.true_or,if_true];have h1:min 1099511627776 x.1=x.1:=(by omega);have h2:max 0 x.1=x.1:=(by omega);rw [h1,h2]
   rw [List.foldl_cons,e,qpu];rfl
theorem qjS (a:Int) (s t:List Smp):mnT a (s++t)=mnT (mnT a s) t:=by unfold mnT;rw [List.foldl_append]
theorem qjK (a:Int) (s t:List Smp):mxT a (s++t)=mxT (mxT a s) t:=by unfold mxT;rw [List.foldl_append]
theorem qjY (s:List Smp):∀a,s.Pairwise (fun a b=>a.1<=b.1)->∀h:0<s.length,mnT a s=min a s[0].1:=by
 induction s with
 |nil=>intro a _ h;exact absurd h (Nat.lt_irrefl 0)
 | cons x s ih =>
   intro a hp _;have p:=List.pairwise_cons.1 hp;show mnT (min a x.1) s=min a x.1;by_cases hs:0<s.length
   ·rw [ih (min a x.1) p.2 hs];have :=p.1 s[0] (List.getElem_mem hs);omega
   ·have :s=[]:=List.eq_nil_of_length_eq_zero (by omega);subst this;rfl
theorem qkk (s:List Smp):∀b,s.Pairwise (fun a b=>a.1<=b.1)->∀h:s.length-1<s.length,mxT b s=max b s[s.length-1].1:=by
 induction s with
 |nil=>intro a _ h;exact absurd h (Nat.lt_irrefl 0)
 | cons x s ih =>
   intro b hp _;have p:=List.pairwise_cons.1 hp;show mxT (max b x.1) s=_;by_cases hs:0<s.length
   ·have hl:s.length-1<s.length:=(by omega);rw [ih (max b x.1) p.2 hl];have e:(x::s)[(x::s).length-1]'(by simp)=s[s.length-1]:=by
     simp only [List.length_cons,Nat.add_sub_cancel];rw [List.getElem_cons];rw [dif_neg (by omega)]
    rw [e];have :=p.1 s[s.length-1] (List.getElem_mem hl);omega
   ·have :s=[]:=List.eq_nil_of_length_eq_zero (by omega);subst this;rfl
theorem qcH {p:Pts}:∀{c:List Pts},p ∈ c->p.2.length<=qad c
 | [],h=>absurd h List.not_mem_nil
 | a :: c, h => by
   have e:qad (a::c)=a.2.length+qad c:=(by simp [qad]);rcases List.mem_cons.1 h with rfl|h
   ·omega
   ·have :=qcH h;omega
structure Clean (c:List Pts):Prop where
 ids:c.Pairwise (fun a b=>a.1<b.1)
 inr:∀p ∈ c,inR p.1=true
 ne:∀p ∈ c,p.2≠ []
 up:∀p ∈ c,p.2.Pairwise ltS
 bd:∀p ∈ c,∀x ∈ p.2,qai x=true
theorem qco {x:Smp} (h:qai x=true):0<=x.1∧x.1<=1099511627776:=by
 unfold qai at h;rw [Bool.and_eq_true,decide_eq_true_eq] at h;exact h.1
theorem qfK {s:List Smp} (h:s.Pairwise ltS):s.Pairwise (fun a b=>a.1<=b.1):=h.imp fun h=>by unfold ltS at h;omega
theorem qcb {FO:Int->List Smp->List Smp} {l:List Pts} {p:Pts}:p ∈ fosC FO l↔p.2≠ []∧∃q ∈ l,p=(q.1,FO q.1 q.2):=by
 unfold fosC;rw [List.mem_filter,List.mem_map];constructor
 ·rintro ⟨⟨q,hq,rfl⟩,h⟩;refine ⟨fun e=> ?_,q,hq,rfl⟩;rw [decide_eq_true_eq] at h;exact h (congrArg List.length e)
 ·rintro ⟨h,q,hq,rfl⟩;exact ⟨⟨q,hq,rfl⟩,by simpa using h⟩
theorem qbW {l:List Pts} {p:Pts}:p ∈ qcr l↔hasL l p.1=true∧inR p.1=true∧p.2=qaC (ofL l p.1):=by
 unfold qcr;rw [List.mem_map];constructor
 ·rintro ⟨k,hk,rfl⟩;have :=(qdP l k).1 hk;exact ⟨this.1,this.2,rfl⟩
 ·rintro ⟨h1,h2,h3⟩;exact ⟨p.1,(qdP l p.1).2 ⟨h1,h2⟩,by rw [<-h3]⟩
theorem qgh (l:List Pts):(qcr l).Pairwise (fun a b=>a.1<b.1):=by
 unfold qcr;rw [List.pairwise_map];exact qfw l
theorem qil {FO:Int->List Smp->List Smp} {l:List Pts} (h:l.Pairwise (fun a b=>a.1<b.1)):(fosC FO l).Pairwise (fun a b=>a.1<b.1):=by
 unfold fosC;refine List.Pairwise.filter _ ?_;rw [List.pairwise_map];exact h
theorem qkI {FO:Int->List Smp->List Smp} (hs:∀k s,s.Pairwise ltS->(FO k s).Pairwise ltS) (hm:∀k s x,x ∈ FO k s->x ∈ s∧True) (l:List Pts):Clean (fosC FO (qcr l)):=by
 refine ⟨qil (qgh l),fun p hp=> ?_,fun p hp=>(qcb.1 hp).1,fun p hp=> ?_,fun p hp x hx=> ?_⟩
 ·obtain ⟨_,q,hq,rfl⟩:=qcb.1 hp;exact (qbW.1 hq).2.1
 ·obtain ⟨_,q,hq,rfl⟩:=qcb.1 hp;refine hs _ _ ?_;rw [(qbW.1 hq).2.2];exact qc9 _
 ·obtain ⟨_,q,hq,rfl⟩:=qcb.1 hp;have h1:=(hm _ _ _ hx).1;rw [(qbW.1 hq).2.2] at h1;exact ((qda _ _).1 h1).2
theorem qaj (l:List Pts):Clean (qag l):=qkI (fun _ _ h=>h) (fun _ _ _ h=>⟨h,trivial⟩) l
theorem qmb (c:List Pts) (a b:Int) (p:Pts) (hp:p.2.Pairwise ltS) (h0:0<p.2.length) (h1:p.2.length-1<p.2.length):
  mnT a ((c++[p]).flatMap (fun p=>p.2))=min (mnT a (c.flatMap (fun p=>p.2))) p.2[0].1∧mxT b ((c++[p]).flatMap (fun p=>p.2))=max (mxT b (c.flatMap (fun p=>p.2))) p.2[p.2.length-1].1:=by
 rw [List.flatMap_append,qjS,qjK];have e:[p].flatMap (fun p:Pts=>p.2)=p.2:=by simp
 rw [e,qjY _ _ (qfK hp) h0,qkk _ _ (qfK hp) h1];exact ⟨rfl,rfl⟩
theorem qo6 (c:List Pts) (h:Clean c):(c.flatMap (fun p=>p.2)).foldl (fun r x=>qaY r x.1) (0,0,false)=qcW c:=by
 unfold qcW;by_cases hc:c=[]
 ·subst hc;rfl
 ·rw [if_neg hc];refine qnH _ (fun x hx=> ?_) ?_
  ·obtain ⟨p,hp,hx⟩:=List.mem_flatMap.1 hx;exact qco (h.bd p hp x hx)
  ·intro e;obtain ⟨p,hp⟩:=List.exists_mem_of_ne_nil c hc;have :=List.flatMap_eq_nil_iff.1 e p hp;exact h.ne p hp this
end Go.Proofs.YtnkelahimiipjaaGreatDoor
namespace Go.Proofs.YtnkelahimiipjaaGreatDoor
open Go.RowKit Go.Sort Go.Maps
theorem qov:(Tryz.prog.info? 62).map (fun i=>(i.zero,i.size,i.bytes))=some (some (.agg #[.int .i64 0,.slice none 0 0]),2,32):=by kernel_rfl
theorem qbv:(Tryz.prog.info? 3).map (fun i=>(i.zero,i.size,i.bytes))=some (some (.int .i64 0),1,8):=by kernel_rfl
theorem Rd.grownE {w w':World} {v:Value} {l:List Smp} {row:Option Nat} (h:Rd w w.heap.size v l) (hg:w.grownBy w' row) (hne:l≠ []->∀a n c,v=.slice (some a) n c->some a.block≠row):Rd w' w'.heap.size v l:=by
 obtain ⟨A,c,rfl,hc,hA⟩:=h;by_cases hl:l=[]
 ·exact ⟨A,c,rfl,hc,.inl hl⟩
 ·exact Rd.grown ⟨A,c,rfl,hc,hA⟩ hg (hne hl)
def AwR (w:World) (row:Option Nat) (v:Value) (l:List Smp):Prop:=l≠ []->∀a n c,v=.slice (some a) n c->some a.block≠row∧a.block<w.heap.size
structure OwP (w:World) (base:Nat) (v:Value) (cs:List Row):Prop where
 row:w.ownsRow base 62 2 v cs.length (cs.flatMap ptC)
 rd:∀x ∈ cs,Rd w w.heap.size x.2.1 x.2.2∧Nz x.2.1∧AwR w v.ownBlock x.2.1 x.2.2
theorem OwP.nil (w:World) (base:Nat):OwP w base (.slice none 0 0) []:=⟨⟨rfl,.inl ⟨rfl,rfl⟩⟩,fun _ hx=>absurd hx (List.not_mem_nil)⟩
theorem OwP.on {w w':World} {base:Nat} {v:Value} {cs:List Row} (h:OwP w base v cs) (k:Below w.heap.size w w'):OwP w' base v cs:=
 ⟨Below.owns k h.row, fun x hx => by
  obtain ⟨h1,h2,h3⟩:=h.rd x hx;exact ⟨(h1.below k).mono k.size,h2,fun hl a n c e=>⟨(h3 hl a n c e).1,Nat.lt_of_lt_of_le (h3 hl a n c e).2 k.size⟩⟩⟩
theorem OwP.push {w w1:World} {base:Nat} {v v':Value} {cs xs:List Row} (h:OwP w base v cs) (hx:∀x ∈ xs,Rd w w.heap.size x.2.1 x.2.2∧Nz x.2.1∧AwR w v.ownBlock x.2.1 x.2.2)
  (hg:w.grownBy w1 v.ownBlock) (hown:w1.ownsRow base 62 2 v' (cs.length+xs.length) (cs.flatMap ptC++xs.flatMap ptC)) (hloc:v'.ownBlock=v.ownBlock∨v'.ownBlock=some w.heap.size):
  OwP w1 base v' (cs++xs):=by
 refine ⟨by rw [List.length_append,List.flatMap_append];exact hown,fun y hy=> ?_⟩;have aa:Rd w w.heap.size y.2.1 y.2.2∧Nz y.2.1∧AwR w v.ownBlock y.2.1 y.2.2:=by
  rcases List.mem_append.1 hy with hy|hy
  ·exact h.rd y hy
  ·exact hx y hy
 obtain ⟨h1,h2,h3⟩:=aa;refine ⟨h1.grownE hg (fun hl a n c e=>(h3 hl a n c e).1),h2,fun hl a n c e=>⟨?_,Nat.lt_of_lt_of_le (h3 hl a n c e).2 hg.size⟩⟩;rcases hloc with e9|e9
 ·rw [e9];exact (h3 hl a n c e).1
 ·rw [e9];intro e8;injection e8 with e8;have :=(h3 hl a n c e).2;omega
theorem AwR.own {W0 w:World} {base:Nat} {v sv:Value} {cs:List Row} {sl:List Smp} {e:TypeId} (h:OwP W0 base v cs) (ho:Own w W0.heap.size e sv sl):AwR w v.ownBlock sv sl:=by
 intro _ a n c e1;subst e1;have hb:(Value.slice (some a) n c).ownBlock=some a.block:=by
  rcases ho.2 with ⟨h0,_⟩|⟨g,cap,cur,h0,_⟩
  ·cases h0
  ·injection h0 with h0;injection h0 with h0;subst h0;rfl
 have h1:=ho.blk hb;refine ⟨fun e9=> ?_,h1.2⟩;have :=(World.ownsRow.lt h.row _ e9.symm).2;omega
theorem OwP.rdP {w:World} {base:Nat} {v:Value} {cs:List Row} (h:OwP w base v cs):RdP w w.heap.size v (cut cs):=by
 have ab:(cut cs).length=cs.length:=by simp [cut]
 rcases h.row.2 with ⟨rfl,hn⟩|⟨g,cap,cur,rfl,hb,hc,h1,h2,h3,h4⟩
 ·have :cs=[]:=List.eq_nil_of_length_eq_zero hn;subst this;exact ⟨none,0,rfl,Nat.zero_le _,.inl rfl⟩
 ·refine ⟨some ⟨g,0,none⟩,cap,by rw [ab],by rw [ab];exact h1,.inr ⟨g,0,rfl,(Array.getElem?_eq_some_iff.1 hc).1,fun i hi=> ?_⟩⟩;have ac:i<cs.length:=by rw [<-ab];exact hi
  obtain ⟨q1,q2,_⟩:=h.rd cs[i] (List.getElem_mem ac);have aa:∀t (ht:t<2),w.cell? ⟨g,i*2+t,none⟩=(ptC cs[i])[t]? :=by
   intro t ht;have e1:w.cell? ⟨g,i*2+t,none⟩=cur[i*2+t]? :=(by simp [World.cell?,hc]);have e2:(cur.toList.take (cs.length*2))[i*2+t]? =cur[i*2+t]? :=(by rw [List.getElem?_take_of_lt (by omega)];simp);rw [e1,<-e2,h4];exact qpV cs i t ac ht
  have e0:=aa 0 (by omega);have e1:=aa 1 (by omega);have ad:(cut cs)[i]=(cs[i].1,cs[i].2.2):=by simp [cut]
  rw [ad];exact ⟨by rw [Nat.zero_add];exact e0,cs[i].2.1,by rw [Nat.zero_add];exact e1,q1,q2⟩
theorem Rd.one {w:World} {B:Nat} {v:Value} {l:List Smp} (h:Rd w B v l):v.oneCell'=true:=by
 obtain ⟨A,c,rfl,_⟩:=h;rfl
theorem qqf {P:Program} {w:World} {ops:Array Oper} {rest:List Oper} {o:Oper} {a:Act} {Q:Exit->Act->World->Prop} (hgd:o.guard=none) (s x:Operand) (t:TypeId)
  (ho:o.op=.call { callee:=.builtin .append,args:= #[s,x],argTypes:= #[t,t] }) (ht:P.underlying t=some (.slice 62))
  (hinf:(P.info? 62).map (fun i=>(i.zero,i.size,i.bytes))=some (some (.agg #[.int .i64 0,.slice none 0 0]),2,32))
  (base:Nat) (v:Value) (cs:List Row) (y:Row) (hs:a.eval s=v) (hown:OwP w base v cs) (b off c:Nat) (hx:a.eval x=.slice (some ⟨b,off,none⟩) 1 c) (hc0:w.cell? ⟨b,off,none⟩=some (.int .i64 y.1)) (hc1:w.cell? ⟨b,off+1,none⟩=some y.2.1)
  (hR:Rd w w.heap.size y.2.1 y.2.2) (hz:Nz y.2.1) (ha:AwR w v.ownBlock y.2.1 y.2.2) (hl:(cs.length+1)*32<=140737488355328) (hbase:base<=w.heap.size)
  (h:∀v' w',OwP w' base v' (cs++[y])->w.grownBy w' v.ownBlock->(v'.ownBlock=v.ownBlock∨v'.ownBlock=some w.heap.size)->wpList P ops Q rest (a.put o.dst v') w'):
  wpList P ops Q (o::rest) a w:=by
 obtain ⟨i,hi,ac,ad,ab⟩:=qdj hinf;have aa:=hR.one;refine wpList_append_own_at w hgd s x t ho base _ i _ 2 32 ht hi ac ad ab rfl (by decide) v cs.length (cs.flatMap ptC) hs hown.row ⟨b,off,none⟩ 1 c (ptC y) hx rfl ?_ ?_ (by unfold maxLen;omega) hl hbase (fun v' w' h1 h2 _ h4=> ?_)
 ·intro j u hj;rcases j with _|_|j
  ·simp [ptC] at hj;subst hj;simpa [Addr.add] using hc0
  ·simp [ptC] at hj;subst hj;simpa [Addr.add] using hc1
  ·simp [ptC] at hj
 ·intro u hu;simp [ptC] at hu;rcases hu with rfl|rfl
  ·rfl
  ·exact aa
 ·refine h v' w' (hown.push (xs:=[y]) (fun x hx=>by rw [List.mem_singleton] at hx;subst hx;exact ⟨hR,hz,ha⟩) h2 (by simpa using h1) h4) h2 h4
def OwZ (w:World) (base:Nat) (v:Value) (l:List Int):Prop:=w.ownsRow base 3 1 v l.length (l.map encZ)
theorem OwZ.nil (w:World) (base:Nat):OwZ w base (.slice none 0 0) []:=⟨rfl,.inl ⟨rfl,rfl⟩⟩
theorem OwZ.on {w w':World} {base:Nat} {v:Value} {l:List Int} (h:OwZ w base v l) (k:Below w.heap.size w w'):OwZ w' base v l:=Below.owns k h
theorem OwZ.rd {w:World} {base:Nat} {v:Value} {l:List Int} (h:OwZ w base v l):RdZ w w.heap.size v l:=RdZ.of_owns h
theorem OwZ.nz {w:World} {base:Nat} {v:Value} {l:List Int} (h:OwZ w base v l):Nz v:=by
 intro n c hv;rcases h.2 with ⟨h1,_⟩|⟨g,cap,cur,h1,_⟩
 ·rw [h1] at hv;injection hv with _ _ h;exact h.symm
 ·rw [h1] at hv;injection hv with h;cases h
theorem qp5 {P:Program} {w:World} {ops:Array Oper} {rest:List Oper} {o:Oper} {a:Act} {Q:Exit->Act->World->Prop} (hgd:o.guard=none) (s x:Operand) (t:TypeId)
  (ho:o.op=.call { callee:=.builtin .append,args:= #[s,x],argTypes:= #[t,t] }) (ht:P.underlying t=some (.slice 3))
  (hinf:(P.info? 3).map (fun i=>(i.zero,i.size,i.bytes))=some (some (.int .i64 0),1,8))
  (base:Nat) (v:Value) (l:List Int) (y:Int) (hs:a.eval s=v) (hown:OwZ w base v l) (b off c:Nat) (hx:a.eval x=.slice (some ⟨b,off,none⟩) 1 c) (hc:w.cell? ⟨b,off,none⟩=some (.int .i64 y))
  (hl:(l.length+1)*8<=140737488355328) (hbase:base<=w.heap.size)
  (h:∀v' w',OwZ w' base v' (l++[y])->w.grownBy w' v.ownBlock->(v'.ownBlock=v.ownBlock∨v'.ownBlock=some w.heap.size)->wpList P ops Q rest (a.put o.dst v') w'):
  wpList P ops Q (o::rest) a w:=by
 obtain ⟨i,hi,hz,ab,aa⟩:=qdj hinf;refine wpList_append_own_at w hgd s x t ho base _ i _ 1 8 ht hi hz ab aa rfl (by decide) v l.length (l.map encZ) hs hown ⟨b,off,none⟩ 1 c [encZ y] hx rfl ?_ (fun u hu=>by rw [List.mem_singleton] at hu;subst hu;rfl) (by unfold maxLen;omega) hl hbase (fun v' w' h1 h2 _ h4=> ?_)
 ·intro j u hj;rcases j with _|j
  ·simp at hj;subst hj;simpa [Addr.add] using hc
  ·simp at hj
 ·refine h v' w' ?_ h2 h4;unfold OwZ;rw [List.map_append,List.length_append];exact h1
theorem qj0 {P:Program} {w:World} {ops:Array Oper} {rest:List Oper} {o:Oper} {a:Act} {Q:Exit->Act->World->Prop} (hgd:o.guard=none) (s x:Operand) (t:TypeId)
  (ho:o.op=.call { callee:=.builtin .append,args:= #[s,x],argTypes:= #[t,t] }) (ht:P.underlying t=some (.slice 3))
  (hinf:(P.info? 3).map (fun i=>(i.zero,i.size,i.bytes))=some (some (.int .i64 0),1,8))
  (base:Nat) (v:Value) (l:List Int) (xv:Value) (l2:List Int) (B:Nat) (hs:a.eval s=v) (hown:OwZ w base v l) (hx:a.eval x=xv) (hR:RdZ w B xv l2) (hz:Nz xv)
  (hl:(l.length+l2.length)*8<=140737488355328) (hbase:base<=w.heap.size)
  (h:∀v' w',OwZ w' base v' (l++l2)->w.grownBy w' v.ownBlock->(v'.ownBlock=v.ownBlock∨v'.ownBlock=some w.heap.size)->wpList P ops Q rest (a.put o.dst v') w'):
  wpList P ops Q (o::rest) a w:=by
 obtain ⟨i,hi,ah,aj,ab⟩:=qdj hinf;obtain ⟨A,c,rfl,hc,hA⟩:=hR;cases A with
 | none =>
   have ac:=hz _ _ rfl;subst ac;have af:l2=[]:=List.eq_nil_of_length_eq_zero (by omega);subst af;refine wpList_append_own_none hgd s x t ho base _ i 1 ht hi v l.length (l.map encZ) hs hown hx ?_;exact h v w (by rw [List.append_nil];exact hown) ⟨rfl,rfl,rfl,Nat.le_refl _,fun _ _ _=>rfl⟩ (.inl rfl)
 | some ad =>
   have aa:∀j u,(l2.map encZ)[j]? =some u->w.cell? (ad.add j)=some u:=by
    rcases hA with rfl|⟨b,o,h1,_,ag⟩
    ·intro j u hu;simp at hu
    ·injection h1 with h1;subst h1;intro j u hu;rw [List.getElem?_map] at hu;cases hj:l2[j]? with
     |none=>rw [hj] at hu;cases hu
     | some z =>
       rw [hj] at hu;obtain ⟨ae,ai⟩:=List.getElem?_eq_some_iff.1 hj;have :=ag j ae;rw [qiG,this,ai];exact hu
   refine wpList_append_own_at w hgd s x t ho base _ i _ 1 8 ht hi ah aj ab rfl (by decide) v l.length (l.map encZ) hs hown ad l2.length c (l2.map encZ) hx (by simp) aa (fun u hu=>by obtain ⟨z,_,rfl⟩:=List.mem_map.1 hu;rfl) (by unfold maxLen;omega) hl hbase (fun v' w' h1 h2 _ h4=> ?_);refine h v' w' ?_ h2 h4;unfold OwZ;rw [List.map_append,List.length_append];exact h1
end Go.Proofs.YtnkelahimiipjaaGreatDoor
namespace Go.Proofs.YtnkelahimiipjaaGreatDoor
open Go.RowKit Go.Sort
theorem RdZ.cutTo {w:World} {B:Nat} {A:Option Addr} {n c k:Nat} {l:List Int} (hn:n=l.length) (h:RdZ w B (.slice A n c) l) (hk:k<=n):RdZ w B (.slice A k c) (l.take k):=by
 obtain ⟨A',c',e,hc,hA⟩:=h;injection e with e1 e2 e3;subst e1 e3;have hl:(l.take k).length=k:=by rw [List.length_take];omega
 refine ⟨A,c,by rw [hl],by rw [hl];omega, ?_⟩;rcases hA with h0|⟨b,o,e,hb,aa⟩
 ·exact .inl (by rw [h0];simp)
 ·refine .inr ⟨b,o,e,hb,fun i hi=> ?_⟩;rw [hl] at hi;rw [aa i (by omega),List.getElem_take]
theorem RdZ.cutFrom {w:World} {B b o:Nat} {n c k:Nat} {l:List Int} (hn:n=l.length) (h:RdZ w B (.slice (some ⟨b,o,none⟩) n c) l) (hk:k<n):RdZ w B (.slice (some ⟨b,o+k,none⟩) (n-k) (c-k)) (l.drop k):=by
 obtain ⟨A',c',e,hc,hA⟩:=h;injection e with e1 e2 e3;subst e1 e3;have hl:(l.drop k).length=n-k:=by rw [List.length_drop];omega
 refine ⟨_,c-k,by rw [hl],by rw [hl];omega, ?_⟩;rcases hA with h0|⟨b',o',e,hb,aa⟩
 ·exact .inl (by rw [h0];simp)
 ·injection e with e;injection e with e4 e5;subst e4 e5;refine .inr ⟨b,o+k,rfl,hb,fun i hi=> ?_⟩;rw [hl] at hi;rw [Nat.add_assoc,aa (k+i) (by omega),List.getElem_drop]
theorem qlQ (v : Value) (l : List Int) (z : Int) (W : World) (hR : RdZ W W.heap.size v l) (hz : Nz v) (hl : l.length <= 1000000) :
  Calls Tryz.prog 56 #[v,.int .i64 z] W fun e w'=>∃r,e=.returned r∧RdZ w' w'.heap.size r (putZ l z)∧Nz r∧Below W.heap.size W w':=by
 have HR:=Lib.hid hR;have HZ:=Lib.hid hz;obtain ⟨A,c,rfl,hc,hA⟩:=hR;obtain ⟨n,hn⟩:∃n,n=l.length:=⟨_,rfl⟩;rw [<-hn] at hc HR HZ hl ⊢;have HN:=Lib.hid hn;have HA:=Lib.hid hA;have HC:=Lib.hid hc;clear hz hn hA hc;go_enter Tryz.func56,Tryz.ntmps56;go_wp2_with fail
 go_loopw [5] (fun i wl=>∃k:Nat,k<=n∧i=.int .i64 k∧Hid (∀i (h:i<l.length),i<k->l[i]<z)∧Hid (Ext W wl))
  (fun i _=>n-(intOf i).toNat)
 case atStart=>exact ⟨0,Nat.zero_le _,rfl,fun _ _ h=>by omega,Ext.refl _⟩
 case round =>
  obtain ⟨k,hk,rfl,HF,HE⟩:=hrel;by_cases hlt:k<n
  ·have aq : k < l.length := by rw [<- HN.out]; exact hlt
   rcases HA.out with e|⟨b,o,e,hb,ay⟩
   ·subst e;simp at aq
   subst e;obtain ⟨x,hx⟩:∃x,x=l[k]:=⟨_,rfl⟩;have HX:=Lib.hid hx;have c0:wr.cell? ⟨b,o+k,none⟩=some (.int .i64 x):=(by rw [hx];exact (HE.out.below.cell hb).trans (ay k aq));have a1:=Lib.hid c0;have i1:(k:Int)<(n:Int):=(by omega);clear hx ay;by_cases hxz:x<z
   ·have g1:decide ((x:Int)<z)=true:=decide_eq_true hxz;have al:Hid (∀i (h:i<l.length),i<k+1->l[i]<z):=by
     intro i hi a7;rcases (by omega:i<k∨i=k) with h|h
     ·exact HF.out i hi h
     ·subst h;rw [<-HX.out];exact hxz
    go_wp2_with fail;go_roundw
    case rel=>exact ⟨k+1,by omega,by go_num,al.out,HE.out⟩
    case measure=>simp [intOf];omega
   ·have g1:decide ((x:Int)<z)=false:=decide_eq_false hxz;have HP:Hid (putZ l z=if x=z then l else l.take k++[z]++l.drop k):=by
     show _=_;rw [qoM aq HF.out (by rw [<-HX.out];exact hxz),<-HX.out];simp
    by_cases hxe:x=z
    ·have g2:((x:Int)==z)=true:=(by simp [hxe]);have al:Hid (putZ l z=l):=(by show _=_;rw [HP.out,if_pos hxe]);clear hxe hxz;go_wp2_with fail;go_ret;have ax:=HE.out;refine ⟨_,rfl, ?_,HZ.out,ax.below⟩;rw [al.out];exact HR.out.on ax.below
    ·have g2:((x:Int)==z)=false:=(by simp [hxe]);have al:Hid (putZ l z=l.take k++[z]++l.drop k):=(by show _=_;rw [HP.out,if_neg hxe]);clear hxe hxz;have ah:Hid (Below W.heap.size W wr):=HE.out.below;clear a1 HE;have an:Hid (RdZ wr wr.heap.size (.slice (some ⟨b,o,none⟩) n c) l):=HR.out.on ah.out;have a6:k<c:=(by have :=HC.out;omega);have az:k<=n:=(by omega);have ak:Hid ((l.take k).length<=1000000):=(by show _<=_;rw [List.length_take];omega);have a2:Hid ((l.drop k).length<=1000000):=(by show _<=_;rw [List.length_drop,<-HN.out];omega);have HT:=Lib.hid (an.out.cutTo HN.out az);have HD:=Lib.hid (an.out.cutFrom HN.out hlt);go_wp2_with (first|(at_builtin;refine qj0 rfl _ _ 37 rfl Tryz.underlying37 qbv wr.heap.size (.slice none 0 0) [] _ (l.take k) wr.heap.size rfl (OwZ.nil _ _) rfl HT.out ?z1 ?z2 ?z3 ?_)|fail)
     case z1=>exact qcw _ _ _
     case z2=>have :=ak.out;first|omega|(simp;omega)
     case z3=>exact Nat.le_refl _
     ·intro v1 w4 ae hg ab;have aj:Hid (Below wr.heap.size wr w4):=(Below.refl _ _).grown hg (Nat.le_refl _) (fun g af=>by simp [Value.ownBlock] at af);clear hg ab;have ar:Hid (∀o,Below wr.heap.size wr (w4.alloc o)):=fun o=>aj.out.alloc aj.out.size _;have am:Hid (wr.heap.size<=w4.heap.size):=aj.out.size;go_wp2_with (first|(at_builtin;refine qp5 rfl _ _ 37 rfl Tryz.underlying37 qbv wr.heap.size _ (l.take k) z rfl (ae.on ((Below.refl _ w4).alloc (Nat.le_refl _) _)) w4.heap.size 0 1 rfl (qaT _ _ _ 0) ?y1 ?y2 ?_)|fail)
      case y1=>have :=ak.out;omega
      case y2=>have :=am.out;simp;omega
      ·intro v2 w5 ac hg ab;have ag:Hid (Below wr.heap.size wr w5):=(ar.out _).grown hg (by have :=am.out;simp;omega) (fun g af=>(World.ownsRow.lt ae g af).1);clear hg ab ae;have a5:Hid (RdZ w5 w5.heap.size (.slice (some ⟨b,o+k,none⟩) (n-k) (c-k)) (l.drop k)):=HD.out.on ag.out;go_wp2_with (first|(at_builtin;refine qj0 rfl _ _ 37 rfl Tryz.underlying37 qbv wr.heap.size _ (l.take k++[z]) _ (l.drop k) w5.heap.size rfl ac rfl a5.out ?x1 ?x2 ?x3 ?_)|fail)
       case x1=>exact qcw _ _ _
       case x2=>have :=ak.out;have :=a2.out;simp only [List.length_append,List.length_singleton];omega
       case x3=>exact ag.out.size
       ·intro v3 w6 aa hg ab;have ap:Hid (Below wr.heap.size wr w6):=ag.out.grown hg ag.out.size (fun g af=>(World.ownsRow.lt ac g af).1);have HO:=Lib.hid aa;clear hg ab ac aa;go_wp2_with fail;go_ret;exact ⟨_,rfl,by rw [al.out];first|exact HO.out.rd|(have h:=HO.out.rd;simpa using h),HO.out.nz,ah.out.trans (ap.out.mono ah.out.size)⟩
  ·obtain rfl:n=k:=(by omega);have al:Hid (putZ l z=l++[z]):=qnx fun i hi=>HF.out i hi (by rw [HN.out];exact hi);have g1:decide ((n:Int)<(n:Int))=false:=(by simp);have aw:n<=c:=HC.out;have ah:Hid (Below W.heap.size W wr):=HE.out.below;clear HE HF;have an:Hid (RdZ wr wr.heap.size (.slice A n c) l):=HR.out.on ah.out;have ak:Hid (l.length<=1000000):=(by show _<=_;rw [<-HN.out];exact hl);go_wp2_with (first|(at_builtin;refine qj0 rfl _ _ 37 rfl Tryz.underlying37 qbv wr.heap.size (.slice none 0 0) [] _ l wr.heap.size rfl (OwZ.nil _ _) rfl an.out ?z1 ?z2 ?z3 ?_)|fail)
   case z1=>exact HZ.out
   case z2=>have :=ak.out;first|omega|(simp;omega)
   case z3=>exact Nat.le_refl _
   ·intro v1 w4 ae hg ab;have aj:Hid (Below wr.heap.size wr w4):=(Below.refl _ _).grown hg (Nat.le_refl _) (fun g af=>by simp [Value.ownBlock] at af);clear hg ab;have ar:Hid (∀o,Below wr.heap.size wr (w4.alloc o)):=fun o=>aj.out.alloc aj.out.size _;have am:Hid (wr.heap.size<=w4.heap.size):=aj.out.size;go_wp2_with (first|(at_builtin;refine qp5 rfl _ _ 37 rfl Tryz.underlying37 qbv wr.heap.size _ l z rfl (ae.on ((Below.refl _ w4).alloc (Nat.le_refl _) _)) w4.heap.size 0 1 rfl (qaT _ _ _ 0) ?y1 ?y2 ?_)|fail)
    case y1=>have :=ak.out;omega
    case y2=>have :=am.out;simp;omega
    ·intro v2 w5 ac hg ab;have ag:Hid (Below wr.heap.size wr w5):=(ar.out _).grown hg (by have :=am.out;simp;omega) (fun g af=>(World.ownsRow.lt ae g af).1);clear hg ab ae;have ao:=Lib.hid ac;clear ac;have ai:Hid (∀v3 w6,OwZ w6 wr.heap.size v3 (l++[z]++[])->w5.grownBy w6 v2.ownBlock->RdZ w6 w6.heap.size v3 (putZ l z)∧Nz v3∧Below W.heap.size W w6):=fun v3 w6 ho hg=>by
      have ap:Below wr.heap.size wr w6:=ag.out.grown hg ag.out.size (fun g af=>(World.ownsRow.lt ao.out g af).1);rw [List.append_nil] at ho;rw [al.out];exact ⟨ho.rd,ho.nz,ah.out.trans (ap.mono ah.out.size)⟩
     have av:Hid (((l++[z]).length+([]:List Int).length)*8<=140737488355328):=by
      have :=ak.out;show _<=_;simp;omega
     cases A with
     | none =>
       have a0:c=0:=HZ.out _ _ rfl;have a4:n=0:=(by omega);subst a0;clear aw g1;subst a4;go_wp2_with (first|(at_builtin;refine qj0 rfl _ _ 37 rfl Tryz.underlying37 qbv wr.heap.size _ (l++[z]) _ [] w5.heap.size rfl ao.out rfl ⟨_,_,rfl,Nat.zero_le _,.inl rfl⟩ qi6 av.out ag.out.size ?_;intro v3 w6 aa hg ab;have HO:=Lib.hid (ai.out _ _ aa hg);clear hg ab aa)|fail);go_ret;exact ⟨_,rfl,HO.out.1,HO.out.2.1,HO.out.2.2⟩
     | some ad =>
       rcases Nat.lt_or_ge n c with a3|au
       ·go_wp2_with (first|(at_builtin;refine qj0 rfl _ _ 37 rfl Tryz.underlying37 qbv wr.heap.size _ (l++[z]) _ [] w5.heap.size rfl ao.out rfl ⟨_,_,rfl,Nat.zero_le _,.inl rfl⟩ (qcw _ _ _) av.out ag.out.size ?_;intro v3 w6 aa hg ab;have HO:=Lib.hid (ai.out _ _ aa hg);clear hg ab aa)|fail);go_ret;exact ⟨_,rfl,HO.out.1,HO.out.2.1,HO.out.2.2⟩
       ·obtain rfl:n=c:=(by omega);clear au hlt hk aw;go_wp2_with (first|(at_builtin;refine qj0 rfl _ _ 37 rfl Tryz.underlying37 qbv wr.heap.size _ (l++[z]) _ [] w5.heap.size rfl ao.out rfl ⟨_,_,rfl,Nat.zero_le _,.inl rfl⟩ (qcw _ _ _) av.out ag.out.size ?_;intro v3 w6 aa hg ab;have HO:=Lib.hid (ai.out _ _ aa hg);clear hg ab aa)|fail);go_ret;exact ⟨_,rfl,HO.out.1,HO.out.2.1,HO.out.2.2⟩
end Go.Proofs.YtnkelahimiipjaaGreatDoor
