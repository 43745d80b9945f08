import Derived.Test.YtnkelahimiipjaaGreatDoorOwt
import Derived.Laws.AppendOwnNone
import Derived.Lib.SliceRun
import Derived.Laws.IdiomCopy
set_option maxRecDepth 100000
set_option maxHeartbeats 8000000
namespace Go.Proofs.YtnkelahimiipjaaGreatDoor
open Go.RowKit Go.Sort
theorem qiG (b o j:Nat):(⟨b,o,none⟩:Addr).add j=⟨b,o+j,none⟩:=by
 unfold Addr.add;split<;>simp_all
theorem qd8 {w:World} {b o:Nat} {l:List Smp} (h:∀i (h:i<l.length),Cell4 w b (o+i*4) l[i]):∀j u,(qaQ l)[j]? =some u->w.cell? ((⟨b,o,none⟩:Addr).add j)=some u:=by
 intro t u hu;have ht:t<l.length*4:=by
  have :=(List.getElem?_eq_some_iff.1 hu).1
  rwa [qcs] at this
 obtain ⟨i,j,hi,hj,rfl⟩:∃i j,i<l.length∧j<4∧t=i*4+j:=⟨t/4,t%4,by omega,by omega,by omega⟩;rw [qdW l i j hi hj] at hu;have :=(h i hi).news j u hu;rw [qiG] at this ⊢;rw [<-Nat.add_assoc];exact this
theorem qeW (l:List Smp):∀u ∈ qaQ l,u.oneCell'=true:=by
 intro u hu;unfold qaQ at hu;rw [List.mem_flatMap] at hu;obtain ⟨a,_,ha⟩:=hu;exact qf4 a u ha
def Nz (v:Value):Prop:=∀n c,v=.slice none n c->c=0
theorem Own.nz {w:World} {base e:Nat} {v:Value} {l:List Smp} (h:Own w base e v l):Nz v:=by
 intro n c hv;rcases h.2 with ⟨h1,_⟩|⟨g,cap,cur,h1,_⟩
 ·rw [h1] at hv;injection hv with _ _ h;exact h.symm
 ·rw [h1] at hv;injection hv with h;cases h
theorem appN {P:Program} {w:World} {ops:Array Oper} {rest:List Oper} {o:Oper} {a:Act} {Q:Exit->Act->World->Prop} (hgd:o.guard=none) (s x:Operand) (t e:TypeId)
  (ho:o.op=.call { callee:=.builtin .append,args:= #[s,x],argTypes:= #[t,t] }) (ht:P.underlying t=some (.slice e))
  (hinf:(P.info? e).map (fun i=>(i.zero,i.size,i.bytes))=some (some (.agg #[.int .i64 0,.int .i64 0,.int .i64 0,.int .i64 0]),4,32))
  (base:Nat) (v:Value) (l:List Smp) (xv:Value) (l2:List Smp) (B:Nat) (hs:a.eval s=v) (hown:Own w base e v l) (hx:a.eval x=xv) (hR:Rd w B xv l2) (hz:Nz xv)
  (hl:(l.length+l2.length)*32<=140737488355328) (hbase:base<=w.heap.size)
  (h:∀v' w',Own w' base e v' (l++l2)->w.grownBy w' v.ownBlock->(v'.ownBlock=v.ownBlock∨v'.ownBlock=some w.heap.size)->(v=.slice none 0 0->l2=[]->v'=.slice none 0 0)->wpList P ops Q rest (a.put o.dst v') w'):
  wpList P ops Q (o::rest) a w:=by
 obtain ⟨i,hi,ag,ah,ac⟩:=qdj hinf;obtain ⟨A,c,rfl,hc,hA⟩:=hR;cases A with
 | none =>
   have ae:=hz _ _ rfl;subst ae;have ab:l2=[]:=List.eq_nil_of_length_eq_zero (by omega);subst ab;refine wpList_append_own_none hgd s x t ho base e i 4 ht hi v l.length (qaQ l) hs hown hx ?_;refine h v w (by rw [List.append_nil];exact hown) ⟨rfl,rfl,rfl,Nat.le_refl _,fun _ _ _=>rfl⟩ (.inl rfl) (fun h _=>h)
 | some ad =>
   have aa:∀j u,(qaQ l2)[j]? =some u->w.cell? (ad.add j)=some u:=by
    rcases hA with rfl|⟨b,o,h1,_,af⟩
    ·intro j u hu;simp [qaQ] at hu
    ·injection h1 with h1;subst h1;exact qd8 af
   refine wpList_append_own_at w hgd s x t ho base e i _ 4 32 ht hi ag ah ac rfl (by decide) v l.length (qaQ l) hs hown ad l2.length c (qaQ l2) hx (qcs l2) aa (qeW l2) (by unfold maxLen;omega) hl hbase (fun v' w' h1 h2 h3 h4=> ?_);refine h v' w' ?_ h2 h4 (fun hv ab=>h3.2 ⟨hv,by rw [ab];rfl⟩);unfold Own;rw [qcB,List.length_append];exact h1
theorem qjo (v:Value) (l:List Smp) (W:World) (hR:Rd W W.heap.size v l) (hz:Nz v) (hl:l.length*32<=140737488355328):
  Calls Tryz.prog 88 #[v] W fun e w'=>∃r,e=.returned r∧Own w' W.heap.size 66 r l∧Below W.heap.size W w':=by
 have q22:∀(w:World) (a:Option Addr) (n c n' c':Nat),(binOp .eql 60 (.slice a n c) (.slice none n' c')).run Tryz.prog w=.ok (.bool a.isNone) w:=fun w a n c n' c'=>Lib.run_eql_slice_nil w _ _ a n c n' c' Tryz.underlying60;obtain ⟨A,c,hv,hc,hA⟩:=hR;have HR:Hid (Rd W W.heap.size v l):=⟨A,c,hv,hc,hA⟩;have HZ:Hid (Nz v):=hz;cases A with
 | none =>
   have ab:=hz _ _ hv;subst ab;have ac:l=[]:=List.eq_nil_of_length_eq_zero (by omega);subst ac;subst hv;go_enter Tryz.func88,Tryz.ntmps88;go_wp2_with fail;go_ret;exact ⟨_,rfl,Own.nil _ _ _,Below.refl _ _⟩
 | some ad =>
   subst hv;clear hA hz;have HL:=Lib.hid hl;have hO:Own (W.alloc (.cells #[] 66)) W.heap.size 66 (.slice (some ⟨W.heap.size,0,none⟩) 0 0) []:=World.ownsRow_made W #[] 0 (Nat.le_refl _) (Nat.zero_le _) rfl;have HO:=Lib.hid hO;clear hO hl;go_enter Tryz.func88,Tryz.ntmps88;go_wp2_with (first|(at_builtin;refine appN rfl _ _ 60 66 rfl Tryz.underlying60 qaM W.heap.size _ [] _ l W.heap.size rfl HO.out rfl (HR.out.below ((Ext.refl W).alloc _).below) HZ.out ?c1 ?c2 ?_)|fail)
   case c1=>simpa using HL.out
   case c2=>simp
   ·intro v' w3 aa hg ae;go_wp2_with fail;go_ret;exact ⟨_,rfl,aa,((Below.refl W.heap.size W).alloc (Nat.le_refl _) _).grown hg (by simp) (by intro k hk;simp [Value.ownBlock] at hk;omega)⟩
theorem qgR {a b:List Smp} {k:Nat} {x y:Smp} (ha:k<a.length) (hb:k<b.length) (hx:x=a[k]) (hy:y=b[k]) (h:a.take k=b.take k):(a.take (k+1)=b.take (k+1))↔x=y:=by
 rw [List.take_succ_eq_append_getElem ha,List.take_succ_eq_append_getElem hb,h,<-hx,<-hy];simp
theorem qlq (va vb:Value) (a b:List Smp) (W:World) (hRa:Rd W W.heap.size va a) (hRb:Rd W W.heap.size vb b) (hla:a.length*32<=140737488355328):
  Calls Tryz.prog 47 #[va,vb] W fun e w'=>e=.returned (.bool (decide (a=b)))∧Ext W w':=by
 obtain ⟨A,ca,rfl,aj,hA⟩:=hRa;obtain ⟨B,cb,rfl,ah,hB⟩:=hRb;have HA:=Lib.hid hA;have HB:=Lib.hid hB;obtain ⟨q,hq⟩:∃q,q=decide (a=b):=⟨_,rfl⟩;have HQ:Hid (q=decide (a=b)):=hq;rw [<-hq];clear hq hA hB aj ah;obtain ⟨n,hn⟩:∃n,n=a.length:=⟨_,rfl⟩;obtain ⟨m,hm⟩:∃m,m=b.length:=⟨_,rfl⟩;rw [<-hn] at hla ⊢;rw [<-hm];have HN:Hid (n=a.length):=hn;have HM:Hid (m=b.length):=hm;clear hn hm;by_cases hnm:n=m
 ·have g0:(((n:Int)) != (m:Int))=false:=by simp;omega
  go_enter Tryz.func47,Tryz.ntmps47;go_wp2_with fail
  go_loopw [5] (fun i wl=>∃k:Nat,k<=n∧i=.int .i64 k∧Hid (a.take k=b.take k)∧Hid (Ext W wl))
   (fun i _=>n-(intOf i).toNat)
  case atStart=>exact ⟨0,Nat.zero_le _,rfl,rfl,Ext.refl _⟩
  case round=>
   obtain ⟨k,hk,rfl,HT,HE⟩:=hrel;by_cases hlt:k<n
   ·have ac:k<a.length:=(by rw [<-HN.out];exact hlt);have ab:k<b.length:=(by rw [<-HM.out,<-hnm];exact hlt);rcases HA.out with h0|⟨b1,o1,e,an,ae⟩
    ·subst h0;simp at ac
    rcases HB.out with h0|⟨b2,o2,e',am,ad⟩
    ·subst h0;simp at ab
    subst e e';obtain ⟨x,hx⟩:∃x,x=a[k]:=⟨_,rfl⟩;obtain ⟨y,hy⟩:∃y,y=b[k]:=⟨_,rfl⟩;obtain ⟨c0,c1,c2,c3⟩:Cell4 wr b1 (o1+k*4) x:=(by rw [hx];exact (ae k ac).below HE.out.below an);obtain ⟨d0,d1,d2,d3⟩:Cell4 wr b2 (o2+k*4) y:=(by rw [hy];exact (ad k ab).below HE.out.below am);have HF:Hid ((a.take (k+1)=b.take (k+1))↔x=y):=qgR ac ab hx hy HT.out;obtain ⟨p,hp⟩:∃p,p=decide (x=y):=⟨_,rfl⟩;have ai:∀w,(binOp .neq 66 (.agg #[.int .i64 x.1,.int .i64 x.2.1,.int .i64 x.2.2.1,.int .i64 x.2.2.2]) (.agg #[.int .i64 y.1,.int .i64 y.2.1,.int .i64 y.2.2.1,.int .i64 y.2.2.2])).run Tryz.prog w=.ok (.bool (!p)) w:=fun w=>hp▸qlE x y w;have HP:Hid (p=decide (x=y)):=hp;clear hp hx hy ae ad;have ao:k<m:=(by omega);have i1:(k:Int)<(n:Int):=(by omega);have i2:(k:Int)<(m:Int):=(by omega);go_wp2_with fail
    go_quiet (fail)
    clear c0 c1 c2 c3 d0 d1 d2 d3 ai;cases p with
    | true =>
      have al:Hid (a.take (k+1)=b.take (k+1)):=HF.out.2 (of_decide_eq_true HP.out.symm);clear HF HP;go_wp2_with fail;go_roundw
      case rel=>exact ⟨k+1,by omega,by go_num,al,HE.out.drewN nq⟩
      case measure=>simp [intOf];omega
    | false =>
      have aa:a≠b:=fun e=>of_decide_eq_false HP.out.symm (HF.out.1 (by rw [e]));have af:Hid (q=false):=HQ.out.trans (decide_eq_false aa);clear HF HP aa;go_wp2_with fail;go_ret;exact ⟨qao af.out.symm,HE.out.drewN nq⟩
   ·have ag:k=n:=(by omega);have aa:a=b:=by
     have :=HT.out
     rwa [ag,HN.out,List.take_length,<-HN.out,hnm,HM.out,List.take_length] at this
    have ak:Hid (q=true):=HQ.out.trans (decide_eq_true aa);clear aa ag;go_wp2_with fail;go_ret;exact ⟨qao ak.out.symm,HE.out⟩
 ·have g0:(((n:Int)) != (m:Int))=true:=by simp;omega
  have aa:a≠b:=fun e=>hnm (by rw [HN.out,HM.out,e]);have af:Hid (q=false):=HQ.out.trans (decide_eq_false aa);go_enter Tryz.func47,Tryz.ntmps47;go_wp2_with fail;go_ret;exact ⟨qao af.out.symm,Ext.refl _⟩
def outS (f t:Int) (s:Smp):Bool:=decide (s.1<f) || decide (t<s.1)
theorem qiY (s:Smp) (f t:Int) (w:World) (pf pt:Nat) (hf:w.cell? ⟨pf,0,none⟩=some (.int .i64 f)) (ht:w.cell? ⟨pt,0,none⟩=some (.int .i64 t)):
  Calls Tryz.prog 89 #[vS s,.pointer (some ⟨pf,0,none⟩),.pointer (some ⟨pt,0,none⟩)] w fun e w'=>e=.returned (.bool (outS f t s))∧Ext w w':=by
 have HE:Hid (Ext w (w.alloc (.cells #[.int .i64 s.1,.int .i64 s.2.1,.int .i64 s.2.2.1,.int .i64 s.2.2.2] 66))):=(Ext.refl w).alloc _;have c0:(w.alloc (.cells #[.int .i64 s.1,.int .i64 s.2.1,.int .i64 s.2.2.1,.int .i64 s.2.2.2] 66)).cell? ⟨w.heap.size,0,none⟩=some (.int .i64 s.1):=by simp
 have ab:(w.alloc (.cells #[.int .i64 s.1,.int .i64 s.2.1,.int .i64 s.2.2.1,.int .i64 s.2.2.2] 66)).cell? ⟨pf,0,none⟩=some (.int .i64 f):=HE.out.cell_some hf;have aa:(w.alloc (.cells #[.int .i64 s.1,.int .i64 s.2.1,.int .i64 s.2.2.1,.int .i64 s.2.2.2] 66)).cell? ⟨pt,0,none⟩=some (.int .i64 t):=HE.out.cell_some ht;clear hf ht;unfold vS;by_cases h:s.1<f
 ·have hd:outS f t s=true:=by unfold outS;simp [h]
  have g:decide (s.1<f)=true:=decide_eq_true h;rw [hd];clear hd;go_enter Tryz.func89,Tryz.ntmps89;go_wp2_with fail;go_ret;exact ⟨rfl,HE.out⟩
 ·have hd:outS f t s=decide (t<s.1):=by unfold outS;simp [h]
  have g:decide (s.1<f)=false:=decide_eq_false h;rw [hd];clear hd;go_enter Tryz.func89,Tryz.ntmps89;go_wp2_with fail;go_ret;exact ⟨qao (by simp),HE.out⟩
def idxV (f t:Int) (l:List Smp):Int:=match l.findIdx? (outS f t) with |some i=>i|none=> -1
theorem qfv {f t:Int} {l:List Smp} {k:Nat} {y:Smp} (hk:k<l.length) (hy:y=l[k]) (h:(l.take k).findIdx? (outS f t)=none):
  (outS f t y=true->idxV f t l=k)∧(outS f t y=false->(l.take (k+1)).findIdx? (outS f t)=none):=by
 constructor
 ·intro ho;unfold idxV;have :l.findIdx? (outS f t)=some k:=by
   rw [List.findIdx?_eq_some_iff_getElem];refine ⟨hk,by rw [<-hy];exact ho,fun j hj=> ?_⟩;rw [List.findIdx?_eq_none_iff] at h;have :=h l[j] (by rw [List.mem_take_iff_getElem];exact ⟨j,by omega,rfl⟩);simpa using this
  rw [this]
 ·intro ho;rw [List.findIdx?_eq_none_iff] at *;intro x hx;rw [List.take_succ_eq_append_getElem hk,List.mem_append,List.mem_singleton,<-hy] at hx;rcases hx with hx|rfl
  ·exact h x hx
  ·exact ho
theorem qnS (v:Value) (l:List Smp) (f t:Int) (W:World) (pf pt:Nat) (hf:W.cell? ⟨pf,0,none⟩=some (.int .i64 f)) (ht:W.cell? ⟨pt,0,none⟩=some (.int .i64 t)) (hR:Rd W W.heap.size v l) (hl:l.length*32<=140737488355328):
  Calls Tryz.prog 111 #[v,.func (.func 89) #[] #[.pointer (some ⟨pf,0,none⟩),.pointer (some ⟨pt,0,none⟩)]] W fun e w'=>e=.returned (.int .i64 (idxV f t l))∧Ext W w':=by
 obtain ⟨A,c,rfl,hc,hA⟩:=hR;have HA:=Lib.hid hA;obtain ⟨n,hn⟩:∃n,n=l.length:=⟨_,rfl⟩;rw [<-hn] at hl ⊢;have HN:Hid (n=l.length):=hn;obtain ⟨q,hq⟩:∃q,q=idxV f t l:=⟨_,rfl⟩;rw [<-hq];have HQ:Hid (q=idxV f t l):=hq;have HF:=Lib.hid hf;have HT:=Lib.hid ht;have KO:=Lib.hid (fun (y:Smp) (w:World) (hE:Ext W w)=>qiY y f t w pf pt (hE.cell_some hf) (hE.cell_some ht));clear hA hn hq hf ht hc;go_enter Tryz.func111,Tryz.ntmps111;go_wp2_with fail
 go_loopw [8] (fun i wl=>∃k:Nat,k<=n∧i=.int .i64 k∧Hid ((l.take k).findIdx? (outS f t)=none)∧Hid (Ext W wl))
  (fun i _=>n-(intOf i).toNat)
 case atStart=>exact ⟨0,Nat.zero_le _,rfl,rfl,Ext.refl _⟩
 case round=>
  obtain ⟨k,hk,rfl,HI,HE⟩:=hrel;by_cases hlt:k<n
  ·have aa:k<l.length:=(by rw [<-HN.out];exact hlt);rcases HA.out with h0|⟨b,o,e,hb,ad⟩
   ·subst h0;simp at aa
   subst e;obtain ⟨y,hy⟩:∃y,y=l[k]:=⟨_,rfl⟩;obtain ⟨c0,c1,c2,c3⟩:Cell4 wr b (o+k*4) y:=(by rw [hy];exact (ad k aa).below HE.out.below hb);have HX:=Lib.hid (qfv aa hy HI.out);clear hy ad;go_wp2_with fail;refine (KO.out y wr HE.out).mono ?_;rintro e w2 ⟨rfl,ac⟩;have ab:Hid (Ext W w2):=HE.out.trans ac;clear c0 c1 c2 c3 ac;cases ho:outS f t y with
   | true =>
     have ae:Hid (q=k):=HQ.out.trans (HX.out.1 ho);clear HX ho;go_wp2_with fail;go_ret;exact ⟨qbd ae.out.symm,ab.out⟩
   | false =>
     have af:Hid ((l.take (k+1)).findIdx? (outS f t)=none):=HX.out.2 ho;clear HX ho;go_wp2_with fail;go_roundw
     case rel=>exact ⟨k+1,by omega,by go_num,af,ab⟩
     case measure=>simp [intOf];omega
  ·have ag:Hid (q= -1):=by
    show _=_;have :=HI.out;rw [show k=l.length by have :=HN.out;omega,List.take_length] at this;rw [HQ.out];unfold idxV;rw [this]
   go_wp2_with fail;go_ret;exact ⟨qbd ag.out.symm,HE.out⟩
def setL (xs:List Value):Nat->List Value->List Value
 |_,[]=>xs
 |t,v::r=>setL (xs.set t v) (t+1) r
theorem qln (vs:List Value):∀(xs:List Value) (t k:Nat),k<=t->(setL xs t vs).take k=xs.take k:=by
 induction vs with
 |nil=>intro xs t k _;rfl
 | cons v r ih =>
   intro xs t k h;unfold setL;rw [ih _ _ _ (by omega),List.take_set_of_le h]
theorem qdL {base e size n:Nat} {g cap:Nat} (vs:List Value):∀{w:World} {xs:List Value} (t:Nat),w.ownsRow base e size (.slice (some ⟨g,0,none⟩) n cap) n xs->
  (w.setCells g t vs).ownsRow base e size (.slice (some ⟨g,0,none⟩) n cap) n (setL xs t vs):=by
 induction vs with
 |nil=>intro w xs t h;exact h
 |cons v r ih=>intro w xs t h;exact ih (t+1) (qbE h t v)
theorem qhv {w:World} {base e size n:Nat} {g cap:Nat} {xs:List Value} (h:w.ownsRow base e size (.slice (some ⟨g,0,none⟩) n cap) n xs) (i:Nat) (hi:i<=n):
  w.ownsRow base e size (.slice (some ⟨g,0,none⟩) i cap) i (xs.take (i*size)):=by
 obtain ⟨h1,h2⟩:=h;have ad:i*size<=n*size:=Nat.mul_le_mul_right _ hi;refine ⟨by rw [List.length_take,h1];omega, ?_⟩;rcases h2 with ⟨h2,_⟩|⟨g',cap',cur,hv,hb,hh,hn,hm,ac,ht⟩
 ·exact absurd h2 (by simp)
 ·injection hv with aa _ ab;injection aa with aa;injection aa with hg _ _;subst hg ab;refine .inr ⟨g,cap,cur,rfl,hb,hh,by omega,hm,ac, ?_⟩;rw [<-ht,List.take_take,Nat.min_eq_left ad]
theorem qki (l:List Smp) (i:Nat):qaQ (l.take i)=(qaQ l).take (i*4):=by
 induction l generalizing i with
 |nil=>simp [qaQ]
 | cons a l ih =>
   cases i with
   |zero=>simp [qaQ]
   | succ i =>
     have :=ih i;unfold qaQ at *;rw [List.take_succ_cons,List.flatMap_cons,List.flatMap_cons,this,show (i+1)*4=(encS a).length+i*4 by simp [encS];omega,List.take_length_add_append]
theorem qeJ {B:Nat} {g:Nat} (hg:B<=g) (vs:List Value):∀{a w:World} (t:Nat),Below B a w->Below B a (w.setCells g t vs):=by
 induction vs with
 |nil=>intro a w t h;exact h
 |cons v r ih=>intro a w t h;exact ih (t+1) (h.setCell (p:=⟨g,t,none⟩) hg v)
def qfy (n:Nat):List Value:=List.replicate (n*4) (.int .i64 0)
theorem Own.has {w:World} {base e g n c:Nat} {l:List Smp} (h:Own w base e (.slice (some ⟨g,0,none⟩) n c) l) (t:Nat) (ht:t<l.length*4):(w.cell? ⟨g,t,none⟩).isSome=true:=by
 rcases h.2 with ⟨h1,_⟩|⟨g',cap,cur,hv,hb,hh,hn,hm,ac,_⟩
 ·exact absurd h1 (by simp)
 ·injection hv with aa _ _;injection aa with aa;injection aa with hg _ _;subst hg;have ab:t<cur.size:=by omega
  simp [World.cell?,hh,ab]
theorem qhH {w:World} {base g cap n:Nat} {r:List Smp} (hO:Own w base 66 (.slice (some ⟨g,0,none⟩) n cap) r) (hn:n=r.length) (i:Nat) (hi:i<n) (ty:TypeId) (c:Nat):
  (Builtin.clear_ #[60] ty #[.slice (some ⟨g,i*4,none⟩) (n-i) c]).run Tryz.prog w=.ok (.tuple #[]) (w.setCells g (i*4) (qfy (n-i))):=by
 have ad:∀w,(zeroValue 66).run Tryz.prog w=.ok (.agg #[.int .i64 0,.int .i64 0,.int .i64 0,.int .i64 0]) w:=by
  intro w;exact Tryz.zeroValue66 w
 have ab:(Builtin.zeroCells (Value.cells (.agg #[.int .i64 0,.int .i64 0,.int .i64 0,.int .i64 0])) (n-i)).toList=qfy (n-i):=by
  simp only [Builtin.zeroCells,Value.cells,qfy];apply List.ext_getElem
  ·simp
  ·intro j h1 h2;have ac:j%4<4:=Nat.mod_lt _ (by decide);simp
   match j%4,ac with
   |0,_=>rfl
   |1,_=>rfl
   |2,_=>rfl
   |3,_=>rfl
 have aa:=run_storeCells_cells (P:=Tryz.prog) g (i*4) (qfy (n-i)) 0 w ?_ ?_ ?_
 ·simp only [Nat.add_zero] at aa;obtain ⟨m,hm⟩:∃m,n-i=m+1:=⟨n-i-1,by omega⟩;rw [hm] at aa ab ⊢;simp [Builtin.clear_,run_underlying Tryz.underlying60,ad,ab,aa]
 ·intro j hj;refine hO.has _ ?_;rw [qfy,List.length_replicate] at hj;omega
 ·intro j hj;exact hO.free _
 ·intro v hv;rw [List.eq_of_mem_replicate hv];rfl
def delS (f t:Int) (l:List Smp):List Smp:=l.filter fun s=> !outS f t s
theorem qem (f t:Int) (l:List Smp) (j:Nat) (h:j<l.length) (y:Smp) (hy:y=l[j]):delS f t (l.take (j+1))=delS f t (l.take j)++if outS f t y=true then [] else [y]:=by
 unfold delS;rw [List.take_succ_eq_append_getElem h,List.filter_append,<-hy];cases h:outS f t y<;>simp [h]
theorem qlL {f t:Int} {l:List Smp} (h:l.findIdx? (outS f t)=none):delS f t l=l:=by
 rw [List.findIdx?_eq_none_iff] at h;unfold delS;rw [List.filter_eq_self];intro a ha;rw [h a ha];rfl
theorem qjp {f t:Int} {l:List Smp} {i:Nat} (h:l.findIdx? (outS f t)=some i):i<l.length∧delS f t (l.take (i+1))=l.take i:=by
 rw [List.findIdx?_eq_some_iff_getElem] at h;obtain ⟨hi,h1,h2⟩:=h;refine ⟨hi, ?_⟩;rw [qem f t l i hi _ rfl,if_pos h1,List.append_nil];unfold delS;rw [List.filter_eq_self];intro a ha;rw [List.mem_take_iff_getElem] at ha;obtain ⟨j,hj,rfl⟩:=ha;have :=h2 j (by omega);simpa using this
def Mv (f t:Int) (l:List Smp) (i j:Nat) (r:List Smp):Prop:=r.length=l.length∧r.take i=delS f t (l.take j)∧r.drop j=l.drop j
theorem Mv.get {f t:Int} {l:List Smp} {i j:Nat} {r:List Smp} (h:Mv f t l i j r) (hj:j<l.length):∃hr:j<r.length,r[j]=l[j]:=by
 obtain ⟨h1,_,h3⟩:=h;refine ⟨by omega, ?_⟩;have e1:(r.drop j)[0]? =(l.drop j)[0]? :=by rw [h3]
 rw [List.getElem?_drop,List.getElem?_drop,Nat.add_zero,List.getElem?_eq_getElem hj,List.getElem?_eq_getElem (by omega)] at e1;exact Option.some.inj e1
theorem qg0 {r l:List Smp} {j:Nat} (h:r.drop j=l.drop j):r.drop (j+1)=l.drop (j+1):=by
 rw [<-List.drop_drop,<-List.drop_drop,h]
theorem Mv.skip {f t:Int} {l:List Smp} {i j:Nat} {r:List Smp} (h:Mv f t l i j r) (hj:j<l.length) {y:Smp} (hy:y=l[j]) (ho:outS f t y=true):Mv f t l i (j+1) r:=by
 obtain ⟨h1,h2,h3⟩:=h;exact ⟨h1,by rw [qem f t l j hj y hy,if_pos ho,List.append_nil,h2],qg0 h3⟩
theorem Mv.keep {f t:Int} {l:List Smp} {i j:Nat} {r:List Smp} (h:Mv f t l i j r) (hij:i<j) (hj:j<l.length) {y:Smp} (hy:y=l[j]) (ho:outS f t y=false):Mv f t l (i+1) (j+1) (r.set i y):=by
 obtain ⟨h1,h2,h3⟩:=h;refine ⟨by rw [List.length_set];exact h1, ?_, ?_⟩
 ·rw [qem f t l j hj y hy,if_neg (by rw [ho];simp),<-h2,List.take_succ_eq_append_getElem (by rw [List.length_set];omega),List.take_set_of_le (Nat.le_refl _)];simp
 ·rw [List.drop_set_of_lt (by omega)];exact qg0 h3
theorem qmE (v:Value) (l:List Smp) (f t:Int) (W:World) (B pf pt:Nat) (hf:W.cell? ⟨pf,0,none⟩=some (.int .i64 f)) (ht:W.cell? ⟨pt,0,none⟩=some (.int .i64 t)) (hpf:pf<B) (hpt:pt<B) (hB:B<=W.heap.size)
  (hO:Own W B 66 v l) (hl:l.length*32<=140737488355328):
  Calls Tryz.prog 87 #[v,.func (.func 89) #[] #[.pointer (some ⟨pf,0,none⟩),.pointer (some ⟨pt,0,none⟩)]] W fun e w'=>
   ∃r,e=.returned r∧Own w' B 66 r (delS f t l)∧Below B W w':=by
 have KI:=Lib.hid (qnS v l f t W pf pt hf ht hO.rd hl);have KO:=Lib.hid (fun (y:Smp) (w:World) (hE:Below B W w)=>qiY y f t w pf pt ((hE.cell hpf).trans hf) ((hE.cell hpt).trans ht));have HO:=Lib.hid hO;have HW:=Lib.hid hB;clear hf ht hpf hpt hO hB;cases hi:l.findIdx? (outS f t) with
 | none =>
   have hq:idxV f t l= -1:=(by unfold idxV;rw [hi]);rw [hq] at KI;have HD:Hid (delS f t l=l):=qlL hi;clear hq hi KO;go_enter Tryz.func87,Tryz.ntmps87;go_wp2_with fail;refine KI.out.mono ?_;rintro e w1 ⟨rfl,hE⟩;have HE:=Lib.hid hE;clear hE KI;go_wp2_with fail;go_ret;exact ⟨_,rfl,by rw [HD.out];exact HO.out.below HE.out.below,HE.out.below.mono HW.out⟩
 | some i0 =>
   have hq:idxV f t l=(i0:Int):=(by unfold idxV;rw [hi]);rw [hq] at KI;obtain ⟨az,ay⟩:=qjp hi;have a7:=Lib.hid ay;obtain ⟨A,cap,rfl,hc,hA⟩:=HO.out.opened;rcases hA with h0|⟨g,rfl,ag,bg, -⟩
   ·subst h0;simp at az
   obtain ⟨n,hn⟩:∃n,n=l.length:=⟨_,rfl⟩;rw [<-hn] at az hl hc HO KI ⊢;have HN:=Lib.hid hn;clear hi hq ay hn;have bf:((i0:Int)== -1)=false:=(by simp);have a9:n<=4398046511104:=(by omega);go_enter Tryz.func87,Tryz.ntmps87;go_wp2_with fail;refine KI.out.mono ?_;rintro e w1 ⟨rfl,hE⟩;have HE:=Lib.hid hE;clear hE KI;go_wp2_with fail
   go_loopw [5,6] (fun vi vj wl=>∃(i j:Nat) (r:List Smp),vi=.int .i64 i∧vj=.int .i64 j∧i<j∧j<=n∧Own wl B 66 (.slice (some ⟨g,0,none⟩) n cap) r∧Hid (Mv f t l i j r)∧Hid (Below B W wl))
    (fun _ vj _=>n-(intOf vj).toNat)
   case atStart=>exact ⟨i0,i0+1,l,rfl,by go_num,by omega,by omega,HO.out.below HE.out.below,⟨rfl,a7.out.symm,rfl⟩,HE.out.below.mono HW.out⟩
   case round=>
    obtain ⟨i,j,r,rfl,rfl,bc,hj,ab,HV,HB⟩:=hrel;by_cases hlt:j<n
    ·have ah:j<l.length:=(by rw [<-HN.out];exact hlt);obtain ⟨a1,a2⟩:=HV.out.get ah;obtain ⟨y,hy⟩:∃y,y=l[j]:=⟨_,rfl⟩;have ao:Hid (outS f t y=false->Mv f t l (i+1) (j+1) (r.set i y)):=fun h=>HV.out.keep bc ah hy h;have aj:Hid (outS f t y=true->Mv f t l i (j+1) r):=fun h=>HV.out.skip ah hy h;obtain ⟨A2,c2',aq, -,av⟩:=ab.opened;have a3:i<r.length:=(by omega);have ac:∀k (h:k<r.length),Cell4 wr g (k*4) r[k]:=by
      rcases av with h0|⟨g2,h1,_,_,a5⟩
      ·subst h0;simp at a1
      ·injection aq with a8;rw [<-a8] at h1;injection h1 with h1;injection h1 with h1;subst h1;exact a5
     obtain ⟨c0,c1,c2,c3⟩:Cell4 wr g (j*4) y:=(by rw [hy,<-a2];exact ac j a1);have be:g<wr.heap.size:=qaa c0;obtain ⟨yo,ax⟩:∃yo,yo=r[i]:=⟨_,rfl⟩;have ar:Cell4 wr g (i*4) yo:=(by rw [ax];exact ac i a3);obtain ⟨wa,ai⟩:∃wa,wa=wr.alloc (.cells #[.int .i64 y.1,.int .i64 y.2.1,.int .i64 y.2.2.1,.int .i64 y.2.2.2] 66):=⟨_,rfl⟩;have am:Ext wr wa:=(by rw [ai];exact (Ext.refl wr).alloc _);have ae:Cell4 wa wr.heap.size 0 y:=ai▸Cell4.new wr y _ _ rfl;have f0:wa.cell? ⟨wr.heap.size,0,none⟩=some (.int .i64 y.1):=ae.1;have f1:wa.cell? ⟨wr.heap.size,1,none⟩=some (.int .i64 y.2.1):=ae.2.1;have f2:wa.cell? ⟨wr.heap.size,2,none⟩=some (.int .i64 y.2.2.1):=ae.2.2.1;have f3:wa.cell? ⟨wr.heap.size,3,none⟩=some (.int .i64 y.2.2.2):=ae.2.2.2;have a0:=Lib.hid am;have aw:Hid (Below B W wa):=HB.out.trans (am.below.mono (Nat.le_trans HW.out HB.out.size));have af:=Lib.hid ab;have ap:=Lib.hid ar;have hV:=Lib.hid HV;have a6:Hid (n=r.length):=(by show _=_;rw [HN.out];exact HV.out.1.symm);clear hV HV av aq ac a2 hy ax am ae ab ar ah;go_wp2_with fail;rw [<-ai];clear ai c0 c1 c2 c3;refine (KO.out y wa aw.out).mono ?_;rintro e w2 ⟨rfl,ad⟩;have f0':=ad.cell_some f0;have f1':=ad.cell_some f1;have f2':=ad.cell_some f2;have f3':=ad.cell_some f3;have an:Hid (Ext wr w2):=a0.out.trans ad;have a4:Hid (Below B W w2):=HB.out.trans (an.out.below.mono (Nat.le_trans HW.out HB.out.size));have aa:Own w2 B 66 (.slice (some ⟨g,0,none⟩) n cap) r:=af.out.below an.out.below;clear f0 f1 f2 f3 ad aw a0;cases ho:outS f t y with
     | true =>
       have ak:Hid (Mv f t l i (j+1) r):=aj.out ho;clear aj ao ho f0' f1' f2' f3';go_wp2_with fail;go_roundw
       case rel=>exact ⟨i,j+1,r,rfl,by go_num,by omega,by omega,aa,ak,a4⟩
       case measure=>simp [intOf];omega
     | false =>
       have ak:Hid (Mv f t l (i+1) (j+1) (r.set i y)):=ao.out ho;obtain ⟨q0,q1,q2,q3⟩:=ap.out.below an.out.below be;have z0:=aa.free (i*4);have z1:=aa.free (i*4+1);have z2:=aa.free (i*4+2);have z3:=aa.free (i*4+3);have ba:=Lib.hid (aa.set4 a6.out i y a3);have g2:(i:Int)<(n:Int):=(by omega);have g3:i<n:=(by omega);clear aj ao ho aa af ap;go_wp2_with fail;go_roundw
       case rel=>exact ⟨i+1,j+1,_,by go_num,by go_num,by omega,by omega,ba.out,ak,(((a4.out.setCell (p:=⟨g,i*4,none⟩) ag (.int .i64 y.1)).setCell (p:=⟨g,i*4+1,none⟩) ag (.int .i64 y.2.1)).setCell (p:=⟨g,i*4+2,none⟩) ag (.int .i64 y.2.2.1)).setCell (p:=⟨g,i*4+3,none⟩) ag (.int .i64 y.2.2.2)⟩
       case measure=>simp [intOf];omega
    ·have au:j=n:=(by omega);have bd:i<n:=(by omega);obtain ⟨v1,v2,v3⟩:=HV.out;have a5:∀ty,(Builtin.clear_ #[60] ty #[.slice (some ⟨g,i*4,none⟩) (n-i) (cap-i)]).run Tryz.prog wr=.ok (.tuple #[]) (wr.setCells g (i*4) (qfy (n-i))):=fun ty=>qhH ab (by rw [v1,HN.out]) i bd ty _;have HR:Hid (Own (wr.setCells g (i*4) (qfy (n-i))) B 66 (.slice (some ⟨g,0,none⟩) i cap) (delS f t l)):=by
      have h1:wr.ownsRow B 66 4 (.slice (some ⟨g,0,none⟩) n cap) n (qaQ r):=by
       have :=ab;unfold Own at this
       rwa [v1,<-HN.out] at this
      have h2:=qhv (qdL (qfy (n-i)) (i*4) h1) i (by omega);rw [qln _ _ _ _ (Nat.le_refl _),<-qki,v2,au,HN.out,List.take_length] at h2;have al:(delS f t l).length=i:=by
       rw [au,HN.out,List.take_length] at v2;rw [<-v2,List.length_take];have :=HN.out;omega
      show World.ownsRow _ _ _ _ _ _ _;rw [al];rw [HN.out];exact h2
     have bb:Hid (Below B W (wr.setCells g (i*4) (qfy (n-i)))):=qeJ ag _ _ HB.out;clear ab v1 v2 v3 HV;go_wp2_with fail;go_ret;exact ⟨_,rfl,HR.out,bb.out⟩
theorem qlG (v:Value) (l:List Smp) (f t:Int) (W:World) (hR:Rd W W.heap.size v l) (hz:Nz v) (hl:l.length*32<=140737488355328):
  Calls Tryz.prog 49 #[v,.int .i64 f,.int .i64 t] W fun e w'=>∃r,e=.returned r∧Own w' W.heap.size 66 r (delS f t l)∧Below W.heap.size W w':=by
 have ao:∀(fn:Fn) (first cap:Array Value) (w:World),(Instr.makeFunc fn first cap).run Tryz.prog w=.ok (.func fn first cap) w:=fun _ _ _ _=>rfl;obtain ⟨W1,aa⟩:∃W1,W1=(W.alloc (.cells #[.int .i64 f] 2)).alloc (.cells #[.int .i64 t] 2):=⟨_,rfl⟩;have ab:Ext W W1:=by rw [aa];exact ((Ext.refl W).alloc _).alloc _
 have ae:W1.heap.size=W.heap.size+2:=by rw [aa];simp
 have aj:W1.cell? ⟨W.heap.size,0,none⟩=some (.int .i64 f):=by rw [aa];simp
 have af:W1.cell? ⟨W.heap.size+1,0,none⟩=some (.int .i64 t):=by rw [aa];simp
 have KC:=Lib.hid (qjo v l W1 ((hR.below ab.below).mono ab.size) hz hl);have ac:=Lib.hid ab;have ai:=Lib.hid ae;have am:=Lib.hid aj;have ak:=Lib.hid af;have Hl:=Lib.hid hl;clear ab ae aj af hR hz hl;go_enter Tryz.func49,Tryz.ntmps49;go_wp2_with fail;rw [<-aa];clear aa;refine KC.out.mono ?_;rintro e w1 ⟨r,rfl,hO,hB⟩;have HB:=Lib.hid hB;have hp:W.heap.size<W1.heap.size:=by have :=ai.out;omega
 have ad:W.heap.size+1<W1.heap.size:=by have :=ai.out;omega
 have KD:=Lib.hid (qmE r l f t w1 W1.heap.size W.heap.size (W.heap.size+1) ((hB.cell hp).trans am.out) ((hB.cell ad).trans ak.out) hp ad hB.size hO Hl.out);clear hB hO KC;go_wp2_with fail;refine KD.out.mono ?_;rintro e w2 ⟨r2,rfl,ah,ag⟩;have an:=Lib.hid ah;have al:=Lib.hid ag;clear ah ag KD;go_wp2_with fail;go_ret;exact ⟨_,rfl,an.out.lower ac.out.size,(ac.out.below.trans (HB.out.mono ac.out.size)).trans (al.out.mono ac.out.size)⟩
theorem qdk (a:Smp):¬ltS a a:=by unfold ltS;omega
theorem qg8 {a b c:Smp} (h1:ltS a b) (h2:ltS b c):ltS a c:=by unfold ltS at *;omega
theorem qlt {a b:Smp} (h:ltS a b):¬ltS b a:=fun k=>qdk a (qg8 h k)
def qg7 (d:List Smp):List Smp:=(qbI d.toArray).toList
theorem qcN (d:List Smp):(qg7 d).Perm d∧(qg7 d).Pairwise (fun a b=>¬ltS b a):=by
 have h:=pdq_sorts (ltOf cmpS) swoS d.toArray 0 d.toArray.size (Lib.bitLen d.toArray.size) true true (Nat.zero_le _) (Nat.le_refl _) (Or.inl rfl);obtain ⟨⟨h1,_,h3⟩,h4⟩:=h;have hs:(qbI d.toArray).size=d.toArray.size:=h1;constructor
 ·have e1:((qbI d.toArray).extract 0 d.toArray.size)=qbI d.toArray:=by rw [<-hs];simp
  have e2:(d.toArray.extract 0 d.toArray.size)=d.toArray:=by simp
  have aa:((qbI d.toArray).extract 0 d.toArray.size).toList.Perm (d.toArray.extract 0 d.toArray.size).toList:=h3;rw [e1,e2] at aa;simpa [qg7] using aa
 ·rw [List.pairwise_iff_getElem];intro i j hi hj ad;have :=h4 i j (Nat.zero_le _) ad (by rw [<-hs];simpa [qg7] using hj);have ae:i<(qbI d.toArray).size:=by simpa [qg7] using hi
  have ac:j<(qbI d.toArray).size:=by simpa [qg7] using hj
  have e:∀k (hk:k<(qbI d.toArray).size),(qbI d.toArray)[k]! =(qbI d.toArray)[k]:=fun k hk=>by simp [hk]
  have this':ltOf cmpS (qbI d.toArray)[j]! (qbI d.toArray)[i]! =false:=this;rw [e i ae,e j ac] at this';intro ab;have :ltOf cmpS (qbI d.toArray)[j] (qbI d.toArray)[i]=true:=(qdd _ _).2 (by simpa [qg7] using ab);rw [this] at this';cases this'
theorem qii (l:List Smp):qaC l=ded none (qg7 (l.filter qai)):=rfl
theorem qhy (l:List Smp):∀p,(ded p l).Sublist l:=by
 induction l with
 |nil=>intro p;exact List.Sublist.refl _
 | cons a l ih =>
   intro p;unfold ded
   split
   ·exact (ih _).cons _
   ·exact (ih _).cons_cons _
theorem qof (l:List Smp):∀p a,a ∈ l->a ∈ ded p l∨p=some a:=by
 induction l with
 |nil=>intro p a h;cases h
 | cons b l ih =>
   intro p a h;unfold ded;rcases List.mem_cons.1 h with rfl|h
   ·by_cases hp:p=some a
    ·exact .inr hp
    ·rw [if_neg hp];exact .inl List.mem_cons_self
   ·rcases ih (some b) a h with h1|h1
    ·split
     ·exact .inl h1
     ·exact .inl (List.mem_cons_of_mem _ h1)
    ·injection h1 with h1;subst h1;by_cases hp:p=some b
     ·exact .inr hp
     ·rw [if_neg hp];exact .inl List.mem_cons_self
theorem qgj (l:List Smp) (a:Smp):a ∈ ded none l↔a ∈ l:=
 ⟨fun h=>(qhy l none).subset h,fun h=>(qof l none a h).resolve_right (by simp)⟩
def Tot (l:List Smp):Prop:=∀x ∈ l,∀y ∈ l,¬ltS x y->¬ltS y x->x=y
theorem qoD (l:List Smp):∀a,(a::l).Pairwise (fun a b=>¬ltS b a)->Tot (a::l)->a ∉ ded (some a) l:=by
 induction l with
 |nil=>intro a _ _ h;cases h
 | cons b l ih =>
   intro a hp ht;have aa:=List.pairwise_cons.1 hp;have ac:=List.pairwise_cons.1 aa.2;unfold ded;by_cases hb:some a=some b
   ·rw [if_pos hb];injection hb with hb;subst hb;exact ih a aa.2 (fun x hx y hy=>ht x (List.mem_cons_of_mem _ hx) y (List.mem_cons_of_mem _ hy))
   ·rw [if_neg hb,List.mem_cons];rintro (h|h)
    ·exact hb (by rw [h])
    ·have ab:=(qhy l _).subset h;exact hb (by rw [ht a List.mem_cons_self b (List.mem_cons_of_mem _ List.mem_cons_self) (ac.1 a ab) (aa.1 b List.mem_cons_self)])
theorem qjE (l:List Smp):∀p,l.Pairwise (fun a b=>¬ltS b a)->Tot l->(ded p l).Pairwise ltS:=by
 induction l with
 |nil=>intro p _ _;exact List.Pairwise.nil
 | cons a l ih =>
   intro p hp ht;have aa:=List.pairwise_cons.1 hp;have hr:=ih (some a) aa.2 (fun x hx y hy=>ht x (List.mem_cons_of_mem _ hx) y (List.mem_cons_of_mem _ hy));unfold ded
   split
   ·exact hr
   ·refine List.pairwise_cons.2 ⟨fun c hc=> ?_,hr⟩;have ab:=(qhy l _).subset hc;refine Classical.byContradiction fun hn=> ?_;have :=ht a List.mem_cons_self c (List.mem_cons_of_mem _ ab) hn (aa.1 c ab);subst this;exact qoD l a hp ht hc
theorem qf2 (l1:List Smp):∀l2:List Smp,l1.Pairwise ltS->l2.Pairwise ltS->(∀x,x ∈ l1↔x ∈ l2)->l1=l2:=by
 induction l1 with
 | nil =>
   intro l2 _ _ h;cases l2 with
   |nil=>rfl
   |cons b u=>exact absurd ((h b).2 List.mem_cons_self) (by simp)
 | cons a t ih =>
   intro l2 h1 h2 h;cases l2 with
   |nil=>exact absurd ((h a).1 List.mem_cons_self) (by simp)
   | cons b u =>
     have p1:=List.pairwise_cons.1 h1;have p2:=List.pairwise_cons.1 h2;have ac:a=b:=by
      rcases List.mem_cons.1 ((h a).1 List.mem_cons_self) with e|ha
      ·exact e
      ·rcases List.mem_cons.1 ((h b).2 List.mem_cons_self) with e|hb
       ·exact e.symm
       ·exact absurd (p2.1 a ha) (qlt (p1.1 b hb))
     subst ac;rw [ih u p1.2 p2.2 fun x=> ?_];have hx:=h x;rw [List.mem_cons,List.mem_cons] at hx;constructor
     ·intro ab;rcases hx.1 (.inr ab) with e|h'
      ·subst e;exact absurd (p1.1 x ab) (qdk _)
      ·exact h'
     ·intro aa;rcases hx.2 (.inr aa) with e|h'
      ·subst e;exact absurd (p2.1 x aa) (qdk _)
      ·exact h'
theorem qjT (l:List Smp) (h:l.Pairwise ltS):Tot l:=by
 induction l with
 |nil=>intro x hx;cases hx
 | cons a l ih =>
   have p:=List.pairwise_cons.1 h;intro x hx y hy h1 h2;rcases List.mem_cons.1 hx with e|aa<;>rcases List.mem_cons.1 hy with e'|ab
   ·rw [e,e']
   ·subst e;exact absurd (p.1 y ab) h1
   ·subst e';exact absurd (p.1 x aa) h2
   ·exact ih p.2 x aa y ab h1 h2
theorem qda (l:List Smp) (x:Smp):x ∈ qaC l↔x ∈ l∧qai x=true:=by
 rw [qii,qgj,(qcN _).1.mem_iff,List.mem_filter]
theorem qdK (l:List Smp) (h:Tot (l.filter qai)):(qaC l).Pairwise ltS:=by
 rw [qii];refine qjE _ _ (qcN _).2 fun x hx y hy=>h x ((qcN _).1.mem_iff.1 hx) y ((qcN _).1.mem_iff.1 hy)
theorem qdN (l s:List Smp) (hs:s.Pairwise ltS) (hm:∀x,x ∈ s↔x ∈ l∧qai x=true):qaC l=s:=by
 refine qf2 _ _ (qdK l fun x hx y hy=> ?_) hs fun x=> ?_
 ·rw [List.mem_filter] at hx hy;exact qjT s hs x ((hm x).2 hx) y ((hm y).2 hy)
 ·rw [qda,hm]
end Go.Proofs.YtnkelahimiipjaaGreatDoor
