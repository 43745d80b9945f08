import Derived.Test.YtnkelahimiipjaaGreatDoorCmqt
import Derived.Test.YtnkelahimiipjaaGreatDoorSortShelf
import Derived.Maps.AppendAt
import Derived.Laws.StructEq
import Derived.Shelf.SlSortCmp.NoneTotal
namespace Go.Proofs.YtnkelahimiipjaaGreatDoor
open Go.RowKit Go.Sort Go.Shelf
theorem qin (a b:Int):cmpI a b<0↔a<b:=by unfold cmpI;split<;>(try split)<;>omega
theorem qkr (a b:Int):cmpI a b=0↔a=b:=by unfold cmpI;split<;>(try split)<;>omega
def ltS (a b:Smp):Prop:=a.1<b.1∨(a.1=b.1∧a.bits<b.bits)
theorem qf6 (a b:Smp):cmpS a b<0↔ltS a b:=by
 unfold cmpS orI cmpV ltS;have h1:=qin a.1 b.1;have h2:=qkr a.1 b.1;have h3:=qin (Smp.bits a) (Smp.bits b);by_cases h:cmpI a.1 b.1≠0
 ·rw [if_pos h];omega
 ·rw [if_neg h];omega
theorem qdd (a b:Smp):ltOf cmpS a b=true↔ltS a b:=by
 unfold ltOf;rw [decide_eq_true_eq,qf6]
theorem swoS:SWO (ltOf cmpS) where
 irrefl x:=by
  rw [Bool.eq_false_iff];intro h;rw [qdd] at h;unfold ltS at h;omega
 trans x y z h1 h2:=by rw [qdd] at *;unfold ltS at *;omega
 ntrans x y z h1 h2:=by
  rw [Bool.eq_false_iff] at *;intro h;rw [ne_eq,qdd] at h1 h2;rw [qdd] at h;unfold ltS at *;omega
def qbI (d:Array Smp):Array Smp:=pdq (ltOf cmpS) d 0 d.size (Lib.bitLen d.size) true true
theorem qb2 (w:World) (blk n:Nat) (d:Array Smp) (os:Array Obj) (_hb:blk<w.heap.size):w.grownBy (sortWorldK encS 4 w blk 0 n d os) (some blk):=by
 unfold sortWorldK putRowK putRow mapBlock grow Sort.ahead;refine ⟨rfl,rfl,rfl,by simp,fun k hk ab=> ?_⟩;have aa:blk≠k:=fun e=>ab (by rw [e]);rw [Array.getElem?_append_left (by simpa using hk),Array.getElem?_modify,if_neg aa]
theorem qb0 (d:Array Smp):(qbI d).size=d.size:=
 (pdq_sorts (ltOf cmpS) swoS d 0 d.size (Lib.bitLen d.size) true true (Nat.zero_le _) (Nat.le_refl _) (Or.inl rfl)).1.1
theorem qkF (blk cap:Nat) (d:Array Smp) (w0 w:World) (T:Tabs w0) (hB:Below w0.heap.size w0 w) (hblk:w0.heap.size<=blk) (hblk2:blk<w.heap.size) (hH:HoldsK encS 4 w blk 0 d) (hsz:d.size<4611686018427387904):
  Calls Tryz.prog 136 #[.slice (some ⟨blk,0,none⟩) d.size cap,.func (.func 137) #[] #[]] w fun e w'=>
   e=.returned (.tuple #[])∧HoldsK encS 4 w' blk 0 (qbI d)∧w.grownBy w' (some blk):=by
 have eg:∀args w,(callFunc 137 args).run Tryz.prog w=.ok (.enter 137 args) w:=enters_of Tryz.func137 (by kernel_rfl) rfl;have aa:CmpLays Tryz.prog 137 #[] encS 4 cmpS blk 0 d.size w:=fun m os dk ab x y=>by
  have hg:=qb2 w blk m dk os hblk2;have hT:Tabs (sortWorldK encS 4 w blk 0 m dk os):=T.below (hB.grown hg (by have :=hB.size;omega) (fun k e=>by cases e;exact hblk));exact (qkY x y _ hT).mono fun e w' ⟨he,hE⟩=>by
   obtain ⟨k,o,hk⟩:=hE.out;exact ⟨he,k,o,hk⟩
 refine (AnyQ.slices_SortFunc_eq Tryz.sortS 4 Tryz.isAgg180 Tryz.sizeOf180 encS (fun _=>rfl) (fun x v hv=>by simp [encS] at hv;rcases hv with rfl|rfl|rfl|rfl<;>rfl) cmpS swoS 137 #[] blk 0 cap d w eg aa hH hblk2 hsz).mono fun e w' ⟨he,n,os,hw⟩=>⟨he, ?_, ?_⟩
 ·rw [hw];exact holdsK_sortWorldK_c encS 4 w blk 0 d _ n os hH hblk2 (qb0 d)
 ·rw [hw];exact qb2 w blk n _ os hblk2
def Cell4 (w:World) (b o:Nat) (s:Smp):Prop:=
 w.cell? ⟨b,o,none⟩=some (.int .i64 s.1)∧w.cell? ⟨b,o+1,none⟩=some (.int .i64 s.2.1)∧w.cell? ⟨b,o+2,none⟩=some (.int .i64 s.2.2.1)∧w.cell? ⟨b,o+3,none⟩=some (.int .i64 s.2.2.2)
theorem Cell4.below {w w':World} {B b o:Nat} {s:Smp} (h:Cell4 w b o s) (k:RowKit.Below B w w') (hb:b<B):Cell4 w' b o s:=
 ⟨(k.cell hb).trans h.1,(k.cell hb).trans h.2.1,(k.cell hb).trans h.2.2.1,(k.cell hb).trans h.2.2.2⟩
def qaQ (l:List Smp):List Value:=l.flatMap encS
theorem qcs (l:List Smp):(qaQ l).length=l.length*4:=by
 induction l with
 |nil=>rfl
 |cons a l ih=>unfold qaQ at *;simp only [List.flatMap_cons,List.length_append,List.length_cons,ih];simp [encS];omega
theorem qcB (a b:List Smp):qaQ (a++b)=qaQ a++qaQ b:=by unfold qaQ;simp
theorem qkG (a:Smp):qaQ [a]=encS a:=by unfold qaQ;simp
theorem qdW:∀(l:List Smp) (i j:Nat) (h:i<l.length),j<4->(qaQ l)[i*4+j]? =(encS l[i])[j]?
 | a :: l, 0, j, _, hj => by
   unfold qaQ;rw [List.flatMap_cons,Nat.zero_mul,Nat.zero_add,List.getElem?_append_left (by simpa [encS] using hj)];rfl
 | a :: l, i + 1, j, h, hj => by
   have :=qdW l i j (by simpa using h) hj;unfold qaQ at *;rw [List.flatMap_cons,show (i+1)*4+j=(encS a).length+(i*4+j) by simp [encS];omega,List.getElem?_append_right (by omega),Nat.add_sub_cancel_left,this];rfl
def Rd (w:World) (B:Nat) (v:Value) (l:List Smp):Prop:=
 ∃A c,v=.slice A l.length c∧l.length<=c∧(l=[]∨∃b o,A=some ⟨b,o,none⟩∧b<B∧∀i (h:i<l.length),Cell4 w b (o+i*4) l[i])
theorem Rd.below {w w':World} {B:Nat} {v:Value} {l:List Smp} (h:Rd w B v l) (k:RowKit.Below B w w'):Rd w' B v l:=by
 obtain ⟨A,c,h1,h2,h3⟩:=h;refine ⟨A,c,h1,h2,h3.imp id fun ⟨b,o,e,hb,hc⟩=>⟨b,o,e,hb,fun i hi=>(hc i hi).below k hb⟩⟩
theorem Rd.mono {w:World} {B B':Nat} {v:Value} {l:List Smp} (h:Rd w B v l) (k:B<=B'):Rd w B' v l:=by
 obtain ⟨A,c,h1,h2,h3⟩:=h;exact ⟨A,c,h1,h2,h3.imp id fun ⟨b,o,e,hb,hc⟩=>⟨b,o,e,Nat.lt_of_lt_of_le hb k,hc⟩⟩
def Own (w:World) (base:Nat) (e:TypeId) (v:Value) (l:List Smp):Prop:=w.ownsRow base e 4 v l.length (qaQ l)
theorem Own.rd {w:World} {base e:Nat} {v:Value} {l:List Smp} (h:Own w base e v l):Rd w w.heap.size v l:=by
 rcases h.2 with ⟨rfl,h0⟩|⟨g,cap,cur,rfl,hb,hh,hn,hm,aa,ht⟩
 ·have :l=[]:=List.eq_nil_of_length_eq_zero h0;subst this;exact ⟨none,0,rfl,by simp,.inl rfl⟩
 ·refine ⟨_,cap,rfl,hn,.inr ⟨g,0,rfl,(Array.getElem?_eq_some_iff.1 hh).1,fun i hi=> ?_⟩⟩;have key:∀j,j<4->w.cell? ⟨g,0+i*4+j,none⟩=(encS l[i])[j]? :=fun j hj=>by
   have e1:w.cell? ⟨g,0+i*4+j,none⟩=cur[0+i*4+j]? :=(by simp [World.cell?,hh]);have e2:=qdW l i j hi hj;have e3:(cur.toList.take (l.length*4))[i*4+j]? =cur.toList[i*4+j]? :=List.getElem?_take_of_lt (by omega);rw [e1,Nat.zero_add,<-e2,<-ht,e3,Array.getElem?_toList]
  exact ⟨key 0 (by decide),key 1 (by decide),key 2 (by decide),key 3 (by decide)⟩
theorem Own.nil (w:World) (base e:Nat):Own w base e (.slice none 0 0) []:=⟨rfl,.inl ⟨rfl,rfl⟩⟩
end Go.Proofs.YtnkelahimiipjaaGreatDoor
namespace Go.Proofs.YtnkelahimiipjaaGreatDoor
open Go.RowKit Go.Sort
theorem qaM:(Tryz.prog.info? 66).map (fun i=>(i.zero,i.size,i.bytes))=some (some (.agg #[.int .i64 0,.int .i64 0,.int .i64 0,.int .i64 0]),4,32):=by kernel_rfl
theorem qmV:(Tryz.prog.info? 180).map (fun i=>(i.zero,i.size,i.bytes))=some (some (.agg #[.int .i64 0,.int .i64 0,.int .i64 0,.int .i64 0]),4,32):=by kernel_rfl
theorem qdj {P:Program} {e:TypeId} {z:Value} {s b:Nat} (h:(P.info? e).map (fun i=>(i.zero,i.size,i.bytes))=some (some z,s,b)):∃i,P.info? e=some i∧i.zero=some z∧i.size=s∧i.bytes=b:=by
 cases hi:P.info? e with
 |none=>rw [hi] at h;simp at h
 |some i=>rw [hi] at h;simp at h;exact ⟨i,rfl,h.1,h.2.1,h.2.2⟩
theorem qf4 (s:Smp):∀u ∈ encS s,u.oneCell'=true:=by
 intro u hu;simp [encS] at hu;rcases hu with rfl|rfl|rfl|rfl<;>rfl
theorem Cell4.news {w:World} {b o:Nat} {s:Smp} (h:Cell4 w b o s):∀j u,(encS s)[j]? =some u->w.cell? ((⟨b,o,none⟩:Addr).add j)=some u:=by
 intro j u hj
 match j,hj with
 |0,hj=>simp [encS] at hj;subst hj;simpa [Addr.add] using h.1
 |1,hj=>simp [encS] at hj;subst hj;simpa [Addr.add] using h.2.1
 |2,hj=>simp [encS] at hj;subst hj;simpa [Addr.add] using h.2.2.1
 |3,hj=>simp [encS] at hj;subst hj;simpa [Addr.add] using h.2.2.2
 |j+4,hj=>simp [encS] at hj
theorem Cell4.new (w:World) (s:Smp) (t:TypeId) (cs:Array Value) (h:cs= #[.int .i64 s.1,.int .i64 s.2.1,.int .i64 s.2.2.1,.int .i64 s.2.2.2]):Cell4 (w.alloc (.cells cs t)) w.heap.size 0 s:=by
 subst h;exact ⟨qaT _ _ _ _,qaT _ _ _ _,qaT _ _ _ _,qaT _ _ _ _⟩
theorem app1 {P:Program} {w:World} {ops:Array Oper} {rest:List Oper} {o:Oper} {a:Act} {Q:Exit->Act->World->Prop} (hgd:o.guard=none) (s x:Operand) (t e:TypeId)
  (ho:o.op=.call { callee:=.builtin .append,args:= #[s,x],argTypes:= #[t,t] }) (ht:P.underlying t=some (.slice e))
  (hinf:(P.info? e).map (fun i=>(i.zero,i.size,i.bytes))=some (some (.agg #[.int .i64 0,.int .i64 0,.int .i64 0,.int .i64 0]),4,32))
  (base:Nat) (v:Value) (l:List Smp) (y:Smp) (hs:a.eval s=v) (hown:Own w base e v l) (b off c:Nat) (hx:a.eval x=.slice (some ⟨b,off,none⟩) 1 c) (hc:Cell4 w b off y)
  (hl:(l.length+1)*32<=140737488355328) (hbase:base<=w.heap.size)
  (h:∀v' w',Own w' base e v' (l++[y])->w.grownBy w' v.ownBlock->(v'.ownBlock=v.ownBlock∨v'.ownBlock=some w.heap.size)->wpList P ops Q rest (a.put o.dst v') w'):
  wpList P ops Q (o::rest) a w:=by
 obtain ⟨i,hi,hz,ab,aa⟩:=qdj hinf;refine wpList_append_own_at w hgd s x t ho base e i _ 4 32 ht hi hz ab aa rfl (by decide) v l.length (qaQ l) hs hown ⟨b,off,none⟩ 1 c (encS y) hx rfl hc.news (qf4 y) (by unfold maxLen;omega) hl hbase (fun v' w' h1 h2 _ h4=> ?_);refine h v' w' ?_ h2 h4;unfold Own;rw [qcB,qkG,List.length_append];exact h1
theorem Own.kept {w w':World} {base e:Nat} {v:Value} {l:List Smp} {row:Option Nat} (h:Own w base e v l) (hg:w.grownBy w' row) (hne:v.ownBlock=none∨v.ownBlock≠row):Own w' base e v l:=World.ownsRow.kept h hg hne
theorem Own.alloc {w:World} {base e:Nat} {v:Value} {l:List Smp} (h:Own w base e v l) (o:Obj):Own (w.alloc o) base e v l:=World.ownsRow.alloc h o
theorem Own.below {w w':World} {base e:Nat} {v:Value} {l:List Smp} (h:Own w base e v l) (k:Below w.heap.size w w'):Own w' base e v l:=by
 obtain ⟨h1,h2⟩:=h;refine ⟨h1, ?_⟩;rcases h2 with h2|⟨g,cap,cur,hv,hg,hh,r⟩
 ·exact .inl h2
 ·exact .inr ⟨g,cap,cur,hv,hg,by rw [k.block g (Array.getElem?_eq_some_iff.1 hh).1];exact hh,r⟩
theorem Own.blk {w:World} {base e:Nat} {v:Value} {l:List Smp} (h:Own w base e v l) {k:Nat} (hk:v.ownBlock=some k):base<=k∧k<w.heap.size:=World.ownsRow.lt h k hk
theorem Own.lower {w:World} {base base' e:Nat} {v:Value} {l:List Smp} (h:Own w base e v l) (k:base'<=base):Own w base' e v l:=by
 obtain ⟨h1,h2⟩:=h;refine ⟨h1, ?_⟩;rcases h2 with h2|⟨g,cap,cur,hv,hg,r⟩
 ·exact .inl h2
 ·exact .inr ⟨g,cap,cur,hv,Nat.le_trans k hg,r⟩
section
variable {P:Program} {d:Nat} {xs ys:Array Value} {f:Field} {fs:List Field} {w:World}
theorem qf9 {t:TypeId} {fs:Array Field} (h:P.underlying t=some (.struct fs)):P.fieldsOf t=fs:=by unfold Program.fieldsOf;rw [h]
theorem qfY {k k':IntKind} {a b:Int} {t:TypeId} (hn:f.name≠ "_") (hg:∀w,(isAgg t).run P w=.ok false w) (ht:P.underlying t=some (.int k')) (e:f.type=t) (hx:xs[f.offset]? =some (.int k a)) (hy:ys[f.offset]? =some (.int k b)):
  (Op.eqFields (d+1) xs ys (f::fs)).run P w=if a=b then (Op.eqFields (d+1) xs ys fs).run P w else .ok false w:=by
 subst e;simp only [Op.eqFields,hn,ne_eq,not_false_eq_true,if_true,Sem.run_bind,part,hg,Result.andThen_ok,hx,hy,Sem.run_pure,run_equalIn_int w d f.type k k' a b ht,Bool.false_eq_true,if_false];by_cases h:a=b
 ·simp [h]
 ·have :(a==b)=false:=by simp [h]
  simp [h,this]
theorem qoh {n:Nat} {b:Bool} {t:TypeId} {us vs:Array Value} (hn:f.name≠ "_") (hg:∀w,(isAgg t).run P w=.ok true w) (hs:∀w,(sizeOf t).run P w=.ok n w) (e:f.type=t)
  (hx:xs.extract f.offset (f.offset+n)=us) (hy:ys.extract f.offset (f.offset+n)=vs) (he:(Op.equalIn d t (.agg us) (.agg vs)).run P w=.ok b w):
  (Op.eqFields d xs ys (f::fs)).run P w=if b=true then (Op.eqFields d xs ys fs).run P w else .ok false w:=by
 subst e hx hy;simp only [Op.eqFields,hn,ne_eq,not_false_eq_true,if_true,Sem.run_bind,part,hg,Result.andThen_ok,hs,Sem.run_pure,he];cases b<;>simp
theorem ql3:(Op.eqFields d xs ys []).run P w=.ok true w:=rfl
end
def fdM:Field:=⟨"M",2,0,false, "", "",0⟩
def fdE:Field:=⟨"E",3,1,false, "", "",8⟩
def fdS:Field:=⟨"S",3,2,false, "", "",16⟩
def fdT:Field:=⟨"T",2,0,false, "", "",0⟩
def fdV:Field:=⟨"V",64,1,false, "", "",8⟩
theorem qqh (d:Nat) (xs ys:Array Value) (m x s m' x' s':Int) (w:World) (hx:xs= #[.int .i64 m,.int .i64 x,.int .i64 s]) (hy:ys= #[.int .i64 m',.int .i64 x',.int .i64 s']):
  (Op.eqFields (d+1) xs ys [fdM,fdE,fdS]).run Tryz.prog w=.ok (decide ((m,x,s)=(m',x',s'))) w:=by
 have e1:=qfY (P:=Tryz.prog) (d:=d) (xs:=xs) (ys:=ys) (f:=fdM) (fs:=[fdE,fdS]) (w:=w) (k:=.i64) (a:=m) (b:=m') (by decide) Tryz.isAgg2 Tryz.underlying2 rfl (by subst hx;rfl) (by subst hy;rfl);have e2:=qfY (P:=Tryz.prog) (d:=d) (xs:=xs) (ys:=ys) (f:=fdE) (fs:=[fdS]) (w:=w) (k:=.i64) (a:=x) (b:=x') (by decide) Tryz.isAgg3 Tryz.underlying3 rfl (by subst hx;rfl) (by subst hy;rfl);have e3:=qfY (P:=Tryz.prog) (d:=d) (xs:=xs) (ys:=ys) (f:=fdS) (fs:=[]) (w:=w) (k:=.i64) (a:=s) (b:=s') (by decide) Tryz.isAgg3 Tryz.underlying3 rfl (by subst hx;rfl) (by subst hy;rfl);rw [e1,e2,e3,ql3];by_cases h1:m=m'<;>by_cases h2:x=x'<;>by_cases h3:s=s'<;>simp [h1,h2,h3]
theorem eq_V (d:Nat) (m x s m' x' s':Int) (w:World):
  (Op.equalIn (d+2) 64 (.agg #[.int .i64 m,.int .i64 x,.int .i64 s]) (.agg #[.int .i64 m',.int .i64 x',.int .i64 s'])).run Tryz.prog w=.ok (decide ((m,x,s)=(m',x',s'))) w:=by
 rw [run_equalIn_struct w (d+1) 64 _ _ (by rw [qf9 Tryz.underlying64];exact Tryz.underlying64) (by kernel_rfl),qf9 Tryz.underlying64];exact qqh d _ _ m x s m' x' s' w rfl rfl
theorem qqr (d:Nat) (xs ys:Array Value) (a b:Smp) (w:World) (hx:vS a=.agg xs) (hy:vS b=.agg ys):
  (Op.eqFields (d+2) xs ys [fdT,fdV]).run Tryz.prog w=.ok (decide (a=b)) w:=by
 obtain ⟨at_,am,ax,as_⟩:=a;obtain ⟨bt,bm,bx,bs⟩:=b;unfold vS at hx hy;have ab:xs= #[.int .i64 at_,.int .i64 am,.int .i64 ax,.int .i64 as_]:=by cases hx;rfl
 have aa:ys= #[.int .i64 bt,.int .i64 bm,.int .i64 bx,.int .i64 bs]:=by cases hy;rfl
 have e1:=qfY (P:=Tryz.prog) (d:=d+1) (xs:=xs) (ys:=ys) (f:=fdT) (fs:=[fdV]) (w:=w) (k:=.i64) (a:=at_) (b:=bt) (by decide) Tryz.isAgg2 Tryz.underlying2 rfl (by subst ab;rfl) (by subst aa;rfl);have e2:=qoh (P:=Tryz.prog) (d:=d+2) (xs:=xs) (ys:=ys) (f:=fdV) (fs:=[]) (w:=w) (us:= #[.int .i64 am,.int .i64 ax,.int .i64 as_]) (vs:= #[.int .i64 bm,.int .i64 bx,.int .i64 bs]) (by decide) Tryz.isAgg64 Tryz.sizeOf64 rfl (by subst ab;rfl) (by subst aa;rfl) (eq_V d am ax as_ bm bx bs w);rw [e1,e2,ql3];have h3:decide ((at_,am,ax,as_)=(bt,bm,bx,bs))=(decide (at_=bt) && decide ((am,ax,as_)=(bm,bx,bs))):=by
  rw [Bool.eq_iff_iff];simp
 rw [h3];by_cases h1:at_=bt<;>by_cases h2:(am,ax,as_)=(bm,bx,bs)
 ·rw [if_pos h1,if_pos (decide_eq_true h2),decide_eq_true h1,decide_eq_true h2];rfl
 ·rw [if_pos h1,if_neg (by rw [decide_eq_true_eq];exact h2),decide_eq_true h1,decide_eq_false h2];rfl
 ·rw [if_neg h1,decide_eq_false h1];rfl
 ·rw [if_neg h1,decide_eq_false h1];rfl
theorem qou (t:TypeId) (ht:Tryz.prog.underlying t=Tryz.prog.underlying 66) (hh:Tryz.prog.stoodInHeld t=false) (d:Nat) (a b:Smp) (w:World):
  (Op.equalIn (d+3) t (vS a) (vS b)).run Tryz.prog w=.ok (decide (a=b)) w:=by
 have hu:=ht.trans Tryz.underlying66;refine (run_equalIn_struct w (d+2) t _ _ (by rw [qf9 hu];exact hu) hh).trans ?_;rw [qf9 hu];exact qqr d _ _ a b w rfl rfl
theorem qom (a b:Smp) (w:World):(binOp .neq 180 (vS a) (vS b)).run Tryz.prog w=.ok (.bool (!decide (a=b))) w:=by
 have h:=qou 180 (Tryz.underlying180.trans Tryz.underlying66.symm) (by kernel_rfl) 9997 a b w;unfold vS at *;rw [run_neq_struct,h];rfl
theorem qlE (a b:Smp) (w:World):(binOp .neq 66 (vS a) (vS b)).run Tryz.prog w=.ok (.bool (!decide (a=b))) w:=by
 have h:=qou 66 rfl (by kernel_rfl) 9997 a b w;unfold vS at *;rw [run_neq_struct,h];rfl
theorem qol (a b:Smp) (w:World):(binOp .eql 66 (vS a) (vS b)).run Tryz.prog w=.ok (.bool (decide (a=b))) w:=by
 have h:=qou 66 rfl (by kernel_rfl) 9997 a b w;unfold vS at *;rw [run_eql_struct,h];rfl
end Go.Proofs.YtnkelahimiipjaaGreatDoor
namespace Go.Proofs.YtnkelahimiipjaaGreatDoor
open Go.RowKit Go.Sort Go.Shelf
theorem qgY (d:List Smp) (i j:Nat) (hi:i<d.length) (hj:j<4):some (flatK encS 4 d.toArray)[i*4+j]! =(encS d[i])[j]? :=by
 rw [get_flatK _ _ _ _ (by simp;omega),show (i*4+j)/4=i by omega,show (i*4+j)%4=j by omega];have :(d.toArray)[i]! =d[i]:=by simp [hi]
 rw [this];generalize d[i]=y
 match j,hj with
 |0,_=>rfl
 |1,_=>rfl
 |2,_=>rfl
 |3,_=>rfl
theorem qk2 {w:World} {g:Nat} {cur:Array Value} {e:TypeId} {d:List Smp} (hh:w.heap[g]? =some (.cells cur e (0,0))) (ht:cur.toList.take (d.length*4)=qaQ d):HoldsK encS 4 w g 0 d.toArray:=by
 intro t h;rw [size_flatK] at h;simp only [List.size_toArray] at h;obtain ⟨i,j,hi,hj,rfl⟩:∃i j,i<d.length∧j<4∧t=i*4+j:=⟨t/4,t%4,by omega,by omega,by omega⟩;refine ⟨?_, ?_⟩
 ·have e1:w.cell? ⟨g,0+(i*4+j),none⟩=cur[0+(i*4+j)]? :=by simp [World.cell?,hh]
  have e3:(cur.toList.take (d.length*4))[i*4+j]? =cur.toList[i*4+j]? :=List.getElem?_take_of_lt h;rw [e1,Nat.zero_add,<-Array.getElem?_toList,<-e3,ht,qdW d i j hi hj,<-qgY d i j hi hj];rfl
 ·simp [World.frozen?,hh]
theorem ql9 {w:World} {g cap B:Nat} {d:List Smp} (h:HoldsK encS 4 w g 0 d.toArray) (hB:g<B) (hc:d.length<=cap):Rd w B (.slice (some ⟨g,0,none⟩) d.length cap) d:=by
 refine ⟨_,cap,rfl,hc,.inr ⟨g,0,rfl,hB,fun i hi=> ?_⟩⟩;have key:∀j,j<4->w.cell? ⟨g,0+i*4+j,none⟩=(encS d[i])[j]? :=fun j hj=>by
  rw [<-qgY d i j hi hj,Nat.add_assoc];exact (h (i*4+j) (by rw [size_flatK];simp;omega)).1
 exact ⟨key 0 (by decide),key 1 (by decide),key 2 (by decide),key 3 (by decide)⟩
def ded:Option Smp->List Smp->List Smp
 |_,[]=>[]
 |p,a::l=>if p=some a then ded (some a) l else a::ded (some a) l
def qfk:Option Smp->List Smp->Option Smp
 |p,[]=>p
 |_,a::l=>qfk (some a) l
theorem qiT:∀(l:List Smp) (p:Option Smp) (a:Smp),ded p (l++[a])=ded p l++if qfk p l=some a then [] else [a]
 | [],p,a=>by unfold ded qfk;simp only [List.nil_append];split<;>simp [ded]
 | b :: l, p, a => by
   simp only [List.cons_append,ded,qfk];rw [qiT l (some b) a];by_cases h1:p=some b<;>by_cases h2:qfk (some b) l=some a<;>simp [h1,h2]
theorem qd4:∀(l:List Smp) (p:Option Smp) (a:Smp),qfk p (l++[a])=some a
 | [],_,_=>rfl
 |b::l,_,a=>qd4 l (some b) a
theorem qf3 (l:List Smp) (a:Smp) (h:0<l.length) (ha:a=l[0]):ded none (l.take 1)=ded none (l.take 0)++[a]:=by
 cases l with
 |nil=>simp at h
 |cons b l=>subst ha;simp [ded]
theorem qfB (l:List Smp) (k:Nat) (p a:Smp) (h:k+1<l.length) (hp:p=l[k]) (ha:a=l[k+1]):ded none (l.take (k+1+1))=ded none (l.take (k+1))++if p=a then [] else [a]:=by
 rw [List.take_succ_eq_append_getElem h,qiT,List.take_succ_eq_append_getElem (by omega:k<l.length),qd4,hp,ha];simp
theorem qfe (p:Option Smp) (l:List Smp):(ded p l).length<=l.length:=by
 induction l generalizing p with
 |nil=>simp [ded]
 |cons a l ih=>unfold ded;split<;>simp <;>have :=ih (some a)<;>omega
def qaC (l:List Smp):List Smp:=ded none (qbI (l.filter qai).toArray).toList
theorem qdy (l:List Smp):(qaC l).length<=l.length:=by
 unfold qaC;refine Nat.le_trans (qfe _ _) ?_;rw [Array.length_toList,qb0];simp [List.length_filter_le]
theorem qnb (v:Value) (d:List Smp) (W w:World) (T:Tabs W) (hB:Below W.heap.size W w) (hO:Own w W.heap.size 180 v d) (hl:d.length<4611686018427387904):
  Calls Tryz.prog 136 #[v,.func (.func 137) #[] #[]] w fun e w'=>
   e=.returned (.tuple #[])∧Rd w' w'.heap.size v (qbI d.toArray).toList∧Below W.heap.size w w':=by
 rcases hO with ⟨_,⟨rfl,h0⟩|⟨g,cap,cur,rfl,ab,aa,af,ag,ae,ad⟩⟩
 ·have :d=[]:=List.eq_nil_of_length_eq_zero h0;subst this;refine (AnyF.slices_SortFunc_none { Tryz.sortS with } none 0 _ w).mono fun e w' ⟨he,hw⟩=>⟨he, ?_, ?_⟩
  ·have h2:(qbI ([]:List Smp).toArray).toList=[]:=List.eq_nil_of_length_eq_zero (by rw [Array.length_toList,qb0];rfl);rw [h2];exact ⟨none,0,rfl,Nat.le_refl _,.inl rfl⟩
  ·rw [hw];exact Below.refl _ _
 ·have ac:g<w.heap.size:=(Array.getElem?_eq_some_iff.1 aa).1;refine (qkF g cap d.toArray W w T hB ab ac (qk2 aa ad) (by simpa using hl)).mono fun e w' ⟨he,hH,hg⟩=>⟨he, ?_, ?_⟩
  ·have hs:(qbI d.toArray).toList.length=d.length:=(by rw [Array.length_toList,qb0];simp);rw [<-hs];exact ql9 (by simpa using hH) (Nat.lt_of_lt_of_le ac hg.size) (by omega)
  ·exact (Below.refl _ w).grown hg hB.size (fun k e=>by cases e;exact ab)
set_option maxHeartbeats 1000000 in
theorem qji (v : Value) (l : List Smp) (W : World) (T : Tabs W) (hR : Rd W W.heap.size v l) (hn : l.length * 32 <= 140737488355328) :
  Calls Tryz.prog 124 #[v] W fun e w'=>∃r,e=.returned r∧Own w' W.heap.size 66 r (qaC l)∧Below W.heap.size W w':=by
 obtain ⟨A,c,rfl,hc,hA⟩:=hR;obtain ⟨n,HL⟩:∃n,Hid (n=l.length):=⟨_,rfl⟩;rw [<-HL.out] at hn hc ⊢;have HA:Hid (l=[]∨∃b o,A=some ⟨b,o,none⟩∧b<W.heap.size∧∀i (h:i<l.length),Cell4 W b (o+i*4) l[i]):=hA;have HT:Hid (Tabs W):=T;clear hA T hc;have KR:=Lib.hid (fun (y:Smp) W=>qhq y W);go_enter Tryz.func124,Tryz.ntmps124
 go_wp2
 go_loopw [3,11] (fun v i wl=>∃k:Nat,k<=n∧i=.int .i64 k∧Own wl W.heap.size 180 v ((l.take k).filter qai)∧Hid (Below W.heap.size W wl))
  (fun _ i _=>n-(intOf i).toNat)
 case atStart=>exact ⟨0,Nat.zero_le _,rfl,Own.nil _ _ _,Below.refl _ _⟩
 case round =>
  obtain ⟨k,hk,rfl,aa,HB⟩:=hrel;by_cases hlt:k<n
  ·have hl:k<l.length:=(by rw [<-HL.out];exact hlt);rcases HA.out with h0|⟨b,o,e,hb,ai⟩
   ·subst h0;simp at hl
   subst e;obtain ⟨y,hy⟩:∃y,y=l[k]:=⟨_,rfl⟩;have HY:Hid (y=l[k]):=hy;clear hy;have az:Cell4 wr b (o+k*4) y:=(by rw [HY.out];exact (ai k hl).below HB.out hb);have HF:Hid ((l.take (k+1)).filter qai=(l.take k).filter qai++[y].filter qai):=by
    show _=_;rw [List.take_succ_eq_append_getElem hl,List.filter_append,<-HY.out]
   have HN:Hid (((l.take k).filter qai).length<=k):=Nat.le_trans (List.length_filter_le _ _) (by rw [List.length_take];omega);obtain ⟨c0,c1,c2,c3⟩:=az;obtain ⟨l1,a3⟩:∃l1,l1=(l.take k).filter qai:=⟨_,rfl⟩;rw [<-a3] at aa HF HN;clear a3 ai;have a1:Hid (Below W.heap.size W (wr.alloc (.cells #[.int .i64 y.1,.int .i64 y.2.1,.int .i64 y.2.2.1,.int .i64 y.2.2.2] 66))):=HB.out.alloc HB.out.size _;have a4:Hid (∀w',Ext (wr.alloc (.cells #[.int .i64 y.1,.int .i64 y.2.1,.int .i64 y.2.2.1,.int .i64 y.2.2.2] 66)) w'->Below W.heap.size W w'):=fun w' hE=>a1.out.trans (hE.below.mono (by have :=HB.out.size;simp;omega));have n0:(wr.alloc (.cells #[.int .i64 y.1,.int .i64 y.2.1,.int .i64 y.2.2.1,.int .i64 y.2.2.2] 66)).cell? ⟨wr.heap.size,0,none⟩=some (.int .i64 y.1):=(by simp);have n1:(wr.alloc (.cells #[.int .i64 y.1,.int .i64 y.2.1,.int .i64 y.2.2.1,.int .i64 y.2.2.2] 66)).cell? ⟨wr.heap.size,1,none⟩=some (.int .i64 y.2.1):=(by simp);have n2:(wr.alloc (.cells #[.int .i64 y.1,.int .i64 y.2.1,.int .i64 y.2.2.1,.int .i64 y.2.2.2] 66)).cell? ⟨wr.heap.size,2,none⟩=some (.int .i64 y.2.2.1):=(by simp);have n3:(wr.alloc (.cells #[.int .i64 y.1,.int .i64 y.2.1,.int .i64 y.2.2.1,.int .i64 y.2.2.2] 66)).cell? ⟨wr.heap.size,3,none⟩=some (.int .i64 y.2.2.2):=(by simp);have HO:Hid (Own wr W.heap.size 180 u3 l1):=aa;clear aa;go_wp2_with fail;refine (KR.out y _).mono ?_;rintro e w1 ⟨rfl,hE⟩;have ad:=(HO.out.alloc (.cells #[.int .i64 y.1,.int .i64 y.2.1,.int .i64 y.2.2.1,.int .i64 y.2.2.2] 66)).below hE.below
   have af:=a4.out w1 hE;have m0:=hE.cell_some n0;have m1:=hE.cell_some n1;have m2:=hE.cell_some n2;have m3:=hE.cell_some n3;clear n0 n1 n2 n3 a1 a4 c0 c1 c2 c3 HO;cases hr:qai y with
   | false =>
     have ah:Hid ((l.take (k+1)).filter qai=l1):=by
      show _=_;rw [HF.out];simp [hr]
     clear hE;go_wp2_with fail;go_roundw
     case rel=>exact ⟨k+1,by omega,by go_num,ah.out▸ad,af⟩
     case measure=>simp [intOf];omega
   | true =>
     have ah:Hid ((l.take (k+1)).filter qai=l1++[y]):=by
      show _=_;rw [HF.out];simp [hr]
     go_wp2_with (first|(at_builtin;refine app1 rfl _ _ 179 180 rfl Tryz.underlying179 qmV W.heap.size _ l1 y rfl (ad.alloc _) w1.heap.size 0 1 rfl (Cell4.new _ y _ _ rfl) ?c1 ?c2 ?_)|fail)
     case c1=>have :=HN.out;omega
     case c2=>have :=af.size;simp;omega
     ·intro v' w2 ak hg ao;go_wp2_with fail;go_roundw
      case rel=>exact ⟨k+1,by omega,by go_num,ah.out▸ak,(af.alloc af.size _).grown hg (by have :=af.size;simp;omega) (fun g an=>(ad.blk an).1)⟩
      case measure=>simp [intOf];omega
  ·have he : k = n := by omega
   subst he;rw [HL.out,List.take_length] at aa;obtain ⟨d,hd⟩:∃d,d=l.filter qai:=⟨_,rfl⟩;have HD:Hid (d=l.filter qai):=hd;have a2:Hid (d.length<=k):=(by show _<=_;rw [hd,HL.out];exact List.length_filter_le _ _);rw [<-hd] at aa;clear hd;have KS:=Lib.hid (qnb u3 d W wr HT.out HB.out aa (by have :=a2.out;omega));clear aa;go_wp2_with fail;refine KS.out.mono ?_;rintro e w2 ⟨rfl,⟨AO,co,rfl,aw,hO⟩,af⟩;have a0:Hid (Below W.heap.size W w2):=HB.out.trans af;obtain ⟨s,hs⟩:∃s,s=(qbI d.toArray).toList:=⟨_,rfl⟩;have HS:Hid (s=(qbI d.toArray).toList):=hs;have ar:Hid (s.length<=k):=(by show _<=_;rw [hs,Array.length_toList,qb0];simpa using a2.out);rw [<-hs] at hO aw;rw [<-hs];obtain ⟨m,HM⟩:∃m,Hid (m=s.length):=⟨_,rfl⟩;rw [<-HM.out] at aw ⊢;have HO:Hid (s=[]∨∃b o,AO=some ⟨b,o,none⟩∧b<w2.heap.size∧∀i (h:i<s.length),Cell4 w2 b (o+i*4) s[i]):=hO;clear hs hO aw af KS KR HA HB;go_wp2_with fail
   go_loopw [6,26] (fun v i wl=>∃k:Nat,k<=m∧i=.int .i64 k∧Own wl w2.heap.size 66 v (ded none (s.take k))∧Hid (Below w2.heap.size w2 wl))
    (fun _ i _=>m-(intOf i).toNat)
   case atStart=>exact ⟨0,Nat.zero_le _,rfl,Own.nil _ _ _,Below.refl _ _⟩
   case round =>
    obtain ⟨j,hj,rfl,aa,aq⟩:=hrel;by_cases hlj:j<m
    ·have hl:j<s.length:=(by rw [<-HM.out];exact hlj);rcases HO.out with h0|⟨b,o,e,hb,ai⟩
     ·subst h0;simp at hl
     subst e;obtain ⟨y,hy⟩:∃y,y=s[j]:=⟨_,rfl⟩;have HY:Hid (y=s[j]):=hy;clear hy;have az:Cell4 wr b (o+j*4) y:=(by rw [HY.out];exact (ai j hl).below aq.out hb);obtain ⟨c0,c1,c2,c3⟩:=az;obtain ⟨r1,ax⟩:∃r1,r1=ded none (s.take j):=⟨_,rfl⟩;have au:Hid (r1=ded none (s.take j)):=ax;rw [<-ax] at aa;clear ax;have ap:Hid (Own wr w2.heap.size 66 u6 r1):=aa;clear aa;go_wp2_with fail;have HE:Hid (∀n,Ext wr ((wr.alloc (.cells #[.int .i64 y.1,.int .i64 y.2.1,.int .i64 y.2.2.1,.int .i64 y.2.2.2] 180)).drewN n)):=fun n=>((Ext.refl wr).alloc _).drewN n;have am:Hid (∀n,Below w2.heap.size w2 ((wr.alloc (.cells #[.int .i64 y.1,.int .i64 y.2.1,.int .i64 y.2.2.1,.int .i64 y.2.2.2] 180)).drewN n)):=fun n=>aq.out.trans ((HE.out n).below.mono aq.out.size);have av:Hid (r1.length<=j):=by
      show _<=_;rw [au.out];exact Nat.le_trans (qfe _ _) (by rw [List.length_take];omega)
     have HC:Hid (∀n,Cell4 ((wr.alloc (.cells #[.int .i64 y.1,.int .i64 y.2.1,.int .i64 y.2.2.1,.int .i64 y.2.2.2] 180)).drewN n) wr.heap.size 0 y):=fun n=>Cell4.new wr y _ _ rfl;rcases Nat.eq_zero_or_pos j with h0|h0
     ·have HF:Hid (ded none (s.take (j+1))=r1++[y]):=by
       rw [au.out];have hy:=HY.out;show _=_;clear ap au av;subst h0;exact qf3 s y hl hy
      have g0:((j:Int)==0)=true:=by simp;omega
      go_quiet (fail)
      obtain ⟨wq,ac⟩:∃wq,wq=(wr.alloc (.cells #[.int .i64 y.1,.int .i64 y.2.1,.int .i64 y.2.2.1,.int .i64 y.2.2.2] 180)).drewN nq:=⟨_,rfl⟩;rw [<-ac];have ay:Cell4 wq wr.heap.size 0 y:=ac▸HC.out nq;have aj:Own wq w2.heap.size 66 u6 r1:=ap.out.below (ac▸(HE.out nq).below);have ae:Hid (Below w2.heap.size w2 wq):=ac▸am.out nq;clear ac HE am HC c0 c1 c2 c3 ai ap g0;obtain ⟨c0,c1,c2,c3⟩:=ay;go_wp2_with (first|(at_builtin;refine app1 rfl _ _ 60 66 rfl Tryz.underlying60 qaM w2.heap.size _ r1 y rfl (aj.alloc _) wq.heap.size 0 1 rfl (Cell4.new _ y _ _ rfl) ?c1 ?c2 ?_)|fail)
      case c1=>have :=av.out;have :=ar.out;have :=HM.out;omega
      case c2=>have :=ae.out.size;simp;omega
      ·intro v' w3 ab hg ao;go_wp2_with fail;go_roundw
       case rel=>exact ⟨j+1,by omega,by go_num,HF.out▸ab,(ae.out.alloc ae.out.size _).grown hg (by have :=ae.out.size;simp;omega) (fun g an=>(aj.blk an).1)⟩
       case measure=>simp [intOf];omega
     ·obtain ⟨i,hi⟩:∃i,i=j-1:=⟨_,rfl⟩;have a9:i<s.length:=(by omega);obtain ⟨p,hp⟩:∃p,p=s[i]:=⟨_,rfl⟩;have a6:Cell4 wr b (o+i*4) p:=(by rw [hp];exact (ai i a9).below aq.out hb);have HF:Hid (ded none (s.take (j+1))=r1++if p=y then [] else [y]):=by
       rw [au.out];have hj:j=i+1:=(by omega);subst hj;exact qfB s i p y hl hp HY.out
      clear hp;obtain ⟨d0,d1,d2,d3⟩:=a6;obtain ⟨q,hq⟩:∃q,q=decide (p=y):=⟨_,rfl⟩;have a7:∀w,(binOp .neq 180 (.agg #[.int .i64 p.1,.int .i64 p.2.1,.int .i64 p.2.2.1,.int .i64 p.2.2.2]) (.agg #[.int .i64 y.1,.int .i64 y.2.1,.int .i64 y.2.2.1,.int .i64 y.2.2.2])).run Tryz.prog w=.ok (.bool (!q)) w:=fun w=>hq▸qom p y w;have HQ:Hid (q=decide (p=y)):=hq;clear hq;have g0:((j:Int)==0)=false:=(by simp;omega);have g1:IntKind.i64.wrap ((j:Int)-1)=(i:Int):=by
       have :=HM.out;have :=ar.out;rw [IntWalk.i64_in _ (by omega)];omega
      have g2:(i:Int)<(m:Int):=(by omega);clear hi;obtain ⟨wa,ag⟩:∃wa,wa=(wr.alloc (.cells #[.int .i64 y.1,.int .i64 y.2.1,.int .i64 y.2.2.1,.int .i64 y.2.2.2] 180)):=⟨_,rfl⟩;rw [<-ag];have al:Ext wr wa:=(by rw [ag];exact (Ext.refl wr).alloc _);have e0:=al.cell_some d0;have e1:=al.cell_some d1;have e2:=al.cell_some d2;have e3:=al.cell_some d3;have f0:wa.cell? ⟨wr.heap.size,0,none⟩=some (.int .i64 y.1):=(by rw [ag];simp);have f1:wa.cell? ⟨wr.heap.size,1,none⟩=some (.int .i64 y.2.1):=(by rw [ag];simp);have f2:wa.cell? ⟨wr.heap.size,2,none⟩=some (.int .i64 y.2.2.1):=(by rw [ag];simp);have f3:wa.cell? ⟨wr.heap.size,3,none⟩=some (.int .i64 y.2.2.2):=(by rw [ag];simp);rw [<-ag] at HE am HC;clear ag
      go_quiet (fail)
      obtain ⟨wq,ac⟩:∃wq,wq=wa.drewN nq:=⟨_,rfl⟩;rw [<-ac];have ay:Cell4 wq wr.heap.size 0 y:=ac▸HC.out nq;have aj:Own wq w2.heap.size 66 u6 r1:=ap.out.below (ac▸(HE.out nq).below);have ae:Hid (Below w2.heap.size w2 wq):=ac▸am.out nq;clear ac HE am HC c0 c1 c2 c3 ai ap g0 d0 d1 d2 d3 e0 e1 e2 e3 f0 f1 f2 f3 a7 g1 g2 al;have bb:m<=k:=(by have :=HM.out;have :=ar.out;omega);cases q with
      | true =>
        have a5:p=y:=of_decide_eq_true HQ.out.symm;have ah:Hid (ded none (s.take (j+1))=r1):=by
         show _=_;rw [HF.out,if_pos a5,List.append_nil]
        clear HF a5 HQ;go_wp2_with fail;go_roundw
        case rel=>exact ⟨j+1,by omega,by go_num,ah.out▸aj,ae⟩
        case measure=>simp [intOf];omega
      | false =>
        have ah:Hid (ded none (s.take (j+1))=r1++[y]):=by
         show _=_;rw [HF.out,if_neg (of_decide_eq_false HQ.out.symm)]
        clear HF HQ;obtain ⟨c0,c1,c2,c3⟩:=ay;go_wp2_with (first|(at_builtin;refine app1 rfl _ _ 60 66 rfl Tryz.underlying60 qaM w2.heap.size _ r1 y rfl (aj.alloc _) wq.heap.size 0 1 rfl (Cell4.new _ y _ _ rfl) ?c1 ?c2 ?_)|fail)
        case c1=>have :=av.out;have :=ar.out;have :=HM.out;omega
        case c2=>have :=ae.out.size;simp;omega
        ·intro v' w3 ab hg ao;go_wp2_with fail;go_roundw
         case rel=>exact ⟨j+1,by omega,by go_num,ah.out▸ab,(ae.out.alloc ae.out.size _).grown hg (by have :=ae.out.size;simp;omega) (fun g an=>(aj.blk an).1)⟩
         case measure=>simp [intOf];omega
    ·have a8:j=m:=(by omega);have HX:Hid (ded none (s.take j)=qaC l):=by
      show _=_;rw [a8,HM.out,List.take_length,HS.out,HD.out];rfl
     have ba:Hid (Own wr w2.heap.size 66 u6 (qaC l)):=HX.out▸aa;clear aa;go_wp2_with fail;go_ret;exact ⟨_,rfl,ba.out.lower a0.out.size,a0.out.trans (aq.out.mono a0.out.size)⟩
end Go.Proofs.YtnkelahimiipjaaGreatDoor
namespace Go.Proofs.YtnkelahimiipjaaGreatDoor
open Go.RowKit Go.Sort
def qqv (d:Int) (r:List Smp) (s:Smp):Bool:=match r.getLast? with |none=>false|some a=>ivl a.1 d==ivl s.1 d
theorem Own.opened {w:World} {base e:Nat} {v:Value} {l:List Smp} (h:Own w base e v l):
  ∃A c,v=.slice A l.length c∧l.length<=c∧(l=[]∨∃b,A=some ⟨b,0,none⟩∧base<=b∧b<w.heap.size∧∀i (h:i<l.length),Cell4 w b (i*4) l[i]):=by
 obtain ⟨A,c,rfl,hc,hA⟩:=h.rd;refine ⟨A,c,rfl,hc, ?_⟩;rcases h.2 with ⟨h1,h0⟩|⟨g,cap,cur,hv,hb,hh,hn,hm,ad,ht⟩
 ·exact .inl (List.eq_nil_of_length_eq_zero h0)
 ·injection hv with aa _ _;rcases hA with hA|⟨b,o,h2,ab,ac⟩
  ·exact .inl hA
  ·rw [aa] at h2;injection h2 with h2;injection h2 with h3 h4 h5;subst h3 h4;exact .inr ⟨g,aa,hb,ab,fun i hi=>by have :=ac i hi;rwa [Nat.zero_add] at this⟩
theorem qbE {w:World} {base e size n:Nat} {g cap:Nat} {xs:List Value} (h:w.ownsRow base e size (.slice (some ⟨g,0,none⟩) n cap) n xs) (t:Nat) (u:Value):
  (w.setCell ⟨g,t,none⟩ u).ownsRow base e size (.slice (some ⟨g,0,none⟩) n cap) n (xs.set t u):=by
 obtain ⟨h1,h2⟩:=h;refine ⟨by simpa using h1, ?_⟩;rcases h2 with ⟨h2,_⟩|⟨g',cap',cur,hv,hb,hh,hn,hm,ac,ht⟩
 ·exact absurd h2 (by simp)
 ·injection hv with aa _ ab;injection aa with aa;injection aa with hg _ _;subst hg ab;refine .inr ⟨g,cap,cur.setIfInBounds t u,rfl,hb, ?_,hn,hm,by simpa using ac, ?_⟩
  ·show (w.heap.modify g _)[g]? =_;rw [Array.getElem?_modify,if_pos rfl,hh];rfl
  ·rw [Array.toList_setIfInBounds,List.take_set,ht]
theorem qlH (l:List Smp) (i:Nat) (y:Smp) (h:i<l.length):
  qaQ (l.set i y)=((((qaQ l).set (i*4) (.int .i64 y.1)).set (i*4+1) (.int .i64 y.2.1)).set (i*4+2) (.int .i64 y.2.2.1)).set (i*4+3) (.int .i64 y.2.2.2):=by
 induction l generalizing i with
 |nil=>simp at h
 | cons a l ih =>
   cases i with
   |zero=>simp [qaQ,encS]
   | succ i =>
     have :=ih i (by simpa using h);unfold qaQ at *;simp only [List.set_cons_succ,List.flatMap_cons,this];rw [show (i+1)*4=i*4+4 by omega];simp [encS]
theorem Own.set4 {w:World} {base e:Nat} {g cap n:Nat} {l:List Smp} (h:Own w base e (.slice (some ⟨g,0,none⟩) n cap) l) (hn:n=l.length) (i:Nat) (y:Smp) (hi:i<l.length):
  Own ((((w.setCell ⟨g,i*4,none⟩ (.int .i64 y.1)).setCell ⟨g,i*4+1,none⟩ (.int .i64 y.2.1)).setCell ⟨g,i*4+2,none⟩ (.int .i64 y.2.2.1)).setCell ⟨g,i*4+3,none⟩ (.int .i64 y.2.2.2)) base e (.slice (some ⟨g,0,none⟩) n cap) (l.set i y):=by
 subst hn;unfold Own at *;rw [List.length_set,qlH l i y hi];exact qbE (qbE (qbE (qbE h _ _) _ _) _ _) _ _
theorem Own.free {w:World} {base e b n c:Nat} {l:List Smp} (h:Own w base e (.slice (some ⟨b,0,none⟩) n c) l) (o:Nat):w.frozen? ⟨b,o,none⟩=false:=by
 rcases h.2 with ⟨h1,_⟩|⟨g,cap,cur,hv,hb,hh,_⟩
 ·exact absurd h1 (by simp)
 ·injection hv with aa _ _;injection aa with aa;injection aa with hg _ _;subst hg;simp [World.frozen?,hh]
end Go.Proofs.YtnkelahimiipjaaGreatDoor
