/-
  Rows of elements of any plain kind: readable ones, own ones; append of one, of many; parts of a row.
-/
import Derived.Test.YtnkelahimiipjaaGreatDoorBaset
import Derived.Maps.AppendAt
import Derived.Laws.AppendOwnNone
import Derived.Lib.SliceRun
import Derived.Deep.RegionHeld3
namespace Go.Proofs.YtnkelahimiipjaaGreatDoor
open Go.RowKit Go.Sort
theorem qak (w:World) (cs:Array Value) (t:TypeId) (i:Nat):(w.alloc (.cells cs t)).cell? ⟨w.heap.size,i,none⟩=cs[i]? :=by
  unfold World.cell?;rw [heap_alloc_new];rfl
theorem qbz {P:Program} {e:TypeId} {z:Value} {s b:Nat} (h:(P.info? e).map (fun i=>(i.zero,i.size,i.bytes))=some (some z,s,b)):∃i,P.info? e=some i∧i.zero=some z∧i.size=s∧i.bytes=b:=by
  cases hi:P.info? e with
  |none=>rw [hi] at h;cases h
  | some i =>
    rw [hi] at h;simp only [Option.map_some,Option.some.injEq,Prod.mk.injEq] at h;exact ⟨i,rfl,h.1,h.2.1,h.2.2⟩
structure Enc (α :Type) where
  k:Nat
  enc: α ->List Value
  len:∀x,(enc x).length=k
  one:∀x,∀u ∈ enc x,u.oneCell'=true
  pos:0<k
section
variable {α :Type} (E:Enc α)
def Enc.flat (l:List α):List Value:=l.flatMap E.enc
theorem Enc.flat_len (l:List α):(E.flat l).length=l.length*E.k:=by
  induction l with
  |nil=>simp [Enc.flat]
  |cons a l ih=>unfold Enc.flat at *;rw [List.flatMap_cons,List.length_append,List.length_cons,ih,E.len,Nat.add_mul,Nat.one_mul,Nat.add_comm]
theorem Enc.flat_app (a b:List α):E.flat (a++b)=E.flat a++E.flat b:=by unfold Enc.flat;simp
theorem Enc.flat_one (a: α):E.flat [a]=E.enc a:=by unfold Enc.flat;simp
theorem Enc.flat_at (l:List α):∀(i j:Nat) (h:i<l.length),j<E.k->(E.flat l)[i*E.k+j]? =(E.enc l[i])[j]? :=by
  induction l with
  |nil=>intro i j h;simp at h
  | cons a l ih =>
    intro i j h hj;cases i with
    |zero=>unfold Enc.flat;rw [List.flatMap_cons,Nat.zero_mul,Nat.zero_add,List.getElem?_append_left (by rw [E.len];exact hj)];rfl
    | succ i =>
      have :=ih i j (by simpa using h) hj;unfold Enc.flat at *;rw [List.flatMap_cons,show (i+1)*E.k+j=(E.enc a).length+(i*E.k+j) by rw [E.len,Nat.add_mul];omega,List.getElem?_append_right (by omega),Nat.add_sub_cancel_left,this];rfl
theorem Enc.flat_cell (l:List α):∀u ∈ E.flat l,u.oneCell'=true:=by
  intro u hu;unfold Enc.flat at hu;obtain ⟨x,_,hx⟩:=List.mem_flatMap.1 hu;exact E.one x u hx
def CellG (w:World) (b o:Nat) (x: α):Prop:=∀j,j<E.k->w.cell? ⟨b,o+j,none⟩=(E.enc x)[j]?
def RdG (w:World) (B:Nat) (v:Value) (l:List α):Prop:=
  ∃A c,v=.slice A l.length c∧l.length<=c∧(A=none->c=0)∧(l=[]∨∃b o,A=some ⟨b,o,none⟩∧b<B∧∀i (h:i<l.length),CellG E w b (o+i*E.k) l[i])
def OwnG (ty:TypeId) (w:World) (base:Nat) (v:Value) (l:List α):Prop:=w.ownsRow base ty E.k v l.length (E.flat l)
variable {E} {w w':World} {B B' base:Nat} {v:Value} {l:List α} {ty:TypeId}
theorem CellG.below {b o:Nat} {x: α} (h:CellG E w b o x) (k:Below B w w') (hb:b<B):CellG E w' b o x:=fun j hj=>(k.cell hb).trans (h j hj)
theorem CellG.mk {w:World} {x: α} {cs:Array Value} (h:cs.toList=E.enc x) (t:TypeId):CellG E (w.alloc (.cells cs t)) w.heap.size 0 x:=fun j hj=>by
  rw [Nat.zero_add];have :(w.alloc (.cells cs t)).cell? ⟨w.heap.size,j,none⟩=cs[j]? :=qak _ _ _ j;rw [this,<-h];simp
theorem RdG.below (h:RdG E w B v l) (k:Below B w w'):RdG E w' B v l:=by
  obtain ⟨A,c,h1,h2,h3,h4⟩:=h;exact ⟨A,c,h1,h2,h3,h4.imp id fun ⟨b,o,e,hb,hc⟩=>⟨b,o,e,hb,fun i hi=>(hc i hi).below k hb⟩⟩
theorem RdG.mono (h:RdG E w B v l) (k:B<=B'):RdG E w B' v l:=by
  obtain ⟨A,c,h1,h2,h3,h4⟩:=h;exact ⟨A,c,h1,h2,h3,h4.imp id fun ⟨b,o,e,hb,hc⟩=>⟨b,o,e,Nat.lt_of_lt_of_le hb k,hc⟩⟩
theorem RdG.on (h:RdG E w w.heap.size v l) (k:Below w.heap.size w w'):RdG E w' w'.heap.size v l:=(h.below k).mono k.size
theorem RdG.nil (w:World) (B:Nat):RdG E w B (.slice none 0 0) []:=⟨none,0,rfl,Nat.le_refl _,fun _=>rfl,.inl rfl⟩
theorem OwnG.nil (w:World) (base:Nat):OwnG E ty w base (.slice none 0 0) []:=⟨by simp [Enc.flat],.inl ⟨rfl,rfl⟩⟩
theorem OwnG.cell {w:World} {g:Nat} {cur:Array Value} (hh:w.heap[g]? =some (.cells cur ty (0,0))) (ht:cur.toList.take (l.length*E.k)=E.flat l) (i:Nat) (hi:i<l.length):CellG E w g (0+i*E.k) l[i]:=fun j hj=>by
  have e1:w.cell? ⟨g,0+i*E.k+j,none⟩=cur[0+i*E.k+j]? :=by simp [World.cell?,hh]
  have e2:=E.flat_at l i j hi hj;have aa:i*E.k+j<l.length*E.k:=by
    calc i*E.k+j<i*E.k+E.k:=by omega
      _=(i+1)*E.k:=by rw [Nat.add_mul,Nat.one_mul]
      _<=l.length*E.k:=Nat.mul_le_mul_right _ (by omega)
  have e3:(cur.toList.take (l.length*E.k))[i*E.k+j]? =cur.toList[i*E.k+j]? :=List.getElem?_take_of_lt aa;rw [e1,Nat.zero_add,<-e2,<-ht,e3,Array.getElem?_toList]
theorem OwnG.rd (h:OwnG E ty w base v l):RdG E w w.heap.size v l:=by
  rcases h.2 with ⟨rfl,h0⟩|⟨g,cap,cur,rfl,hb,hh,hn,hm,aa,ht⟩
  · have : l = [] := List.eq_nil_of_length_eq_zero h0
    subst this;exact RdG.nil _ _
  · exact ⟨_,cap,rfl,hn,fun e=>(by cases e),.inr ⟨g,0,rfl,(Array.getElem?_eq_some_iff.1 hh).1,fun i hi=>OwnG.cell hh ht i hi⟩⟩
theorem OwnG.kept {row:Option Nat} (h:OwnG E ty w base v l) (hg:w.grownBy w' row) (hne:v.ownBlock=none∨v.ownBlock≠row):OwnG E ty w' base v l:=World.ownsRow.kept h hg hne
theorem OwnG.alloc (h:OwnG E ty w base v l) (o:Obj):OwnG E ty (w.alloc o) base v l:=World.ownsRow.alloc h o
theorem OwnG.below (h:OwnG E ty w base v l) (k:Below w.heap.size w w'):OwnG E ty w' base v l:=by
  obtain ⟨h1,h2⟩:=h;refine ⟨h1,h2.imp id fun ⟨g,cap,cur,hv,hg,hh,r⟩=>⟨g,cap,cur,hv,hg,by rw [k.block g (Array.getElem?_eq_some_iff.1 hh).1];exact hh,r⟩⟩
theorem OwnG.lower {base':Nat} (h:OwnG E ty w base v l) (k:base'<=base):OwnG E ty w base' v l:=
  ⟨h.1,h.2.imp id fun ⟨g,cap,cur,hv,hg,r⟩=>⟨g,cap,cur,hv,Nat.le_trans k hg,r⟩⟩
theorem OwnG.blk (h:OwnG E ty w base v l) {k:Nat} (hk:v.ownBlock=some k):base<=k∧k<w.heap.size:=World.ownsRow.lt h k hk
theorem OwnG.step {W:World} (h:OwnG E ty w base v l) (hB:Below base W w) (hb:base<=w.heap.size) (hg:w.grownBy w' v.ownBlock):Below base W w':=
  hB.grown hg hb (fun _ e=>(h.blk e).1)
theorem RdG.cutTo {A:Option Addr} {n c k:Nat} (hn:n=l.length) (h:RdG E w B (.slice A n c) l) (hk:k<=n):RdG E w B (.slice A k c) (l.take k):=by
  obtain ⟨A',c',e,hc,hz,hA⟩:=h;injection e with e1 e2 e3;subst e1 e3;have hl:(l.take k).length=k:=by rw [List.length_take];omega
  refine ⟨A,c,by rw [hl],by omega,hz, ?_⟩;rcases hA with rfl|⟨b,o,rfl,hb,ab⟩
  · left;simp
  · right
    refine ⟨b,o,rfl,hb,fun i hi=> ?_⟩;have aa:i<l.length:=(by omega);rw [List.getElem_take];exact ab i aa
theorem RdG.cutTo3 {A:Option Addr} {n c k c':Nat} (hn:n=l.length) (h:RdG E w B (.slice A n c) l) (hk:k<=n) (h1:k<=c') (h2:A=none->c'=0):RdG E w B (.slice A k c') (l.take k):=by
  obtain ⟨A',c'',e,hc,hA⟩:=h.cutTo hn hk;injection e with e1 e2 e3;subst e1;exact ⟨A,c',by rw [<-e2],by omega,h2,hA.2⟩
theorem RdG.cutFrom {b o:Nat} {n c k:Nat} (hn:n=l.length) (h:RdG E w B (.slice (some ⟨b,o,none⟩) n c) l) (hk:k<=n):RdG E w B (.slice (some ⟨b,o+k*E.k,none⟩) (n-k) (c-k)) (l.drop k):=by
  obtain ⟨A',c',e,hc,hz,hA⟩:=h;injection e with e1 e2 e3;subst e1 e3;have hl:(l.drop k).length=n-k:=by rw [List.length_drop];omega
  refine ⟨_,c-k,by rw [hl],by omega,fun e=>(by cases e), ?_⟩;rcases hA with rfl|⟨b',o',e,hb,aa⟩
  · left;simp
  · injection e with e
    injection e with e1 e2;subst e1 e2;right;refine ⟨b,_,rfl,hb,fun i hi=> ?_⟩;have :=aa (k+i) (by omega);rw [show o+k*E.k+i*E.k=o+(k+i)*E.k by rw [Nat.add_mul];omega,List.getElem_drop];exact this
end
section
variable {α :Type} {E:Enc α} {P:Program} {w:World} {ops:Array Oper} {rest:List Oper} {o:Oper} {a:Act} {Q:Exit->Act->World->Prop}
theorem CellG.news {b off:Nat} {x: α} (h:CellG E w b off x):∀j u,(E.enc x)[j]? =some u->w.cell? ((⟨b,off,none⟩:Addr).add j)=some u:=by
  intro j u hj;have aa:j<E.k:=by rw [<-E.len x];exact (List.getElem?_eq_some_iff.1 hj).1
  have :(⟨b,off,none⟩:Addr).add j=⟨b,off+j,none⟩:=by unfold Addr.add;split<;>simp_all
  rw [this,h j aa,hj]
theorem qcD {b off:Nat} {l:List α} (h:∀i (h:i<l.length),CellG E w b (off+i*E.k) l[i]):∀j u,(E.flat l)[j]? =some u->w.cell? ((⟨b,off,none⟩:Addr).add j)=some u:=by
  intro t u hu;have ht:t<l.length*E.k:=by
    have :=(List.getElem?_eq_some_iff.1 hu).1
    rwa [E.flat_len] at this
  have hk:=E.pos;obtain ⟨i,j,hi,hj,rfl⟩:∃i j,i<l.length∧j<E.k∧t=i*E.k+j:=
    ⟨t/E.k,t%E.k,(Nat.div_lt_iff_lt_mul hk).2 ht,Nat.mod_lt _ hk,by rw [Nat.mul_comm];exact (Nat.div_add_mod t E.k).symm⟩
  rw [E.flat_at l i j hi hj] at hu;have :=(h i hi).news j u hu;have e:∀n,(⟨b,off,none⟩:Addr).add n=⟨b,off+n,none⟩:=fun n=>by unfold Addr.add;split<;>simp_all
  have e2:∀m n,(⟨b,m,none⟩:Addr).add n=⟨b,m+n,none⟩:=fun m n=>by unfold Addr.add;split<;>simp_all
  rw [e2] at this;rw [e,<-Nat.add_assoc];exact this
theorem qd1 (E:Enc α) (hgd:o.guard=none) (s x:Operand) (t e:TypeId) {z:Value} {bytes:Nat}
    (ho:o.op=.call { callee:=.builtin .append,args:= #[s,x],argTypes:= #[t,t] }) (ht:P.underlying t=some (.slice e))
    (hinf:(P.info? e).map (fun i=>(i.zero,i.size,i.bytes))=some (some z,E.k,bytes)) (hz:z.cells.size=E.k) (hb:0<bytes)
    (base:Nat) (v:Value) (l:List α) (y: α) (hs:a.eval s=v) (hown:OwnG E e w base v l) (b off c:Nat) (hx:a.eval x=.slice (some ⟨b,off,none⟩) 1 c) (hc:CellG E w b off y)
    (hl:(l.length+1)*bytes<=140737488355328) (hbase:base<=w.heap.size)
    (h:∀v' w',OwnG E e w' base v' (l++[y])->w.grownBy w' v.ownBlock->(v'.ownBlock=v.ownBlock∨v'.ownBlock=some w.heap.size)->wpList P ops Q rest (a.put o.dst v') w'):
    wpList P ops Q (o::rest) a w:=by
  obtain ⟨i,hi,ab,ac,aa⟩:=qbz hinf;have hm:l.length+1<=maxLen:=by
    have :=Nat.le_mul_of_pos_right (l.length+1) hb;have e:maxLen=9223372036854775807:=rfl;omega
  refine wpList_append_own_at w hgd s x t ho base e i _ E.k bytes ht hi ab ac aa hz E.pos v l.length (E.flat l) hs hown ⟨b,off,none⟩ 1 c (E.enc y) hx (by rw [E.len,Nat.one_mul]) hc.news (E.one y) hm hl hbase (fun v' w' h1 h2 _ h4=> ?_);refine h v' w' ?_ h2 h4;unfold OwnG;rw [E.flat_app,E.flat_one,List.length_append];exact h1
theorem qhS (E:Enc α) (hgd:o.guard=none) (s x:Operand) (t e:TypeId) {z:Value} {bytes:Nat}
    (ho:o.op=.call { callee:=.builtin .append,args:= #[s,x],argTypes:= #[t,t] }) (ht:P.underlying t=some (.slice e))
    (hinf:(P.info? e).map (fun i=>(i.zero,i.size,i.bytes))=some (some z,E.k,bytes)) (hz:z.cells.size=E.k) (hb:0<bytes)
    (base:Nat) (v:Value) (l:List α) (xv:Value) (l2:List α) (B:Nat) (hs:a.eval s=v) (hown:OwnG E e w base v l) (hx:a.eval x=xv) (hR:RdG E w B xv l2)
    (hl:(l.length+l2.length)*bytes<=140737488355328) (hbase:base<=w.heap.size)
    (h:∀v' w',OwnG E e w' base v' (l++l2)->w.grownBy w' v.ownBlock->(v'.ownBlock=v.ownBlock∨v'.ownBlock=some w.heap.size)->(v=.slice none 0 0->l2=[]->v'=.slice none 0 0)->wpList P ops Q rest (a.put o.dst v') w'):
    wpList P ops Q (o::rest) a w:=by
  obtain ⟨i,hi,ah,ai,ac⟩:=qbz hinf;obtain ⟨A,c,rfl,hc,af,hA⟩:=hR;cases A with
  | none =>
    have ae:=af rfl;subst ae;have ab:l2=[]:=List.eq_nil_of_length_eq_zero (by omega);subst ab;refine wpList_append_own_none hgd s x t ho base e i E.k ht hi v l.length (E.flat l) hs hown hx ?_;refine h v w (by rw [List.append_nil];exact hown) ⟨rfl,rfl,rfl,Nat.le_refl _,fun _ _ _=>rfl⟩ (.inl rfl) (fun h _=>h)
  | some ad =>
    have aa:∀j u,(E.flat l2)[j]? =some u->w.cell? (ad.add j)=some u:=by
      rcases hA with rfl|⟨b,o,h1,_,ag⟩
      · intro j u hu;simp [Enc.flat] at hu
      · injection h1 with h1;subst h1;exact qcD ag
    have hm:l.length+l2.length<=maxLen:=by
      have :=Nat.le_mul_of_pos_right (l.length+l2.length) hb;have e:maxLen=9223372036854775807:=rfl;omega
    refine wpList_append_own_at w hgd s x t ho base e i _ E.k bytes ht hi ah ai ac hz E.pos v l.length (E.flat l) hs hown ad l2.length c (E.flat l2) hx (E.flat_len l2) aa (E.flat_cell l2) hm hl hbase (fun v' w' h1 h2 h3 h4=> ?_);refine h v' w' ?_ h2 h4 (fun hv ab=>h3.2 ⟨hv,by rw [ab];rfl⟩);unfold OwnG;rw [E.flat_app,List.length_append];exact h1
end
end Go.Proofs.YtnkelahimiipjaaGreatDoor
namespace Go.Proofs.YtnkelahimiipjaaGreatDoor
open Go
theorem sA {α :Type} (l:List α) (i:Nat) (a: α):l.toArray.setIfInBounds i a=(l.set i a).toArray:=List.setIfInBounds_toArray l i a
theorem sZ {α :Type} (x a: α) (l:List α):(x::l).set 0 a=a::l:=rfl
theorem sS {α :Type} (x a: α) (l:List α) (n:Nat):(x::l).set (n+1) a=x::l.set n a:=rfl
section
variable {P:Program} {Q:Exit->Act->World->Prop} {md:Region.Mode} {S:World->Prop} {l:List Oper}
theorem qi2 {i:Nat} {oi:Oper} {rest:List Oper} (h:l.drop i=oi::rest):l.toArray[i]? =some oi:=by
  have :=congrArg (fun m:List Oper=>m[0]?) h;simpa using this
theorem qpg {i:Nat} {oi:Oper} {rest:List Oper} {v:Value} {fuel:Nat} {listed:Array Bool} {a:Act} {w:World} (hi:l.drop i=oi::rest)
    (hs:Region.noSelect l.toArray=true) (hf:Region.free md l.toArray listed i=true) (hr:(Region.ready md l.toArray listed).contains i=true)
    (hQ:∀c a w,Q (.panic c) (a.put oi.dst v) w->Q (.panic c) a w) (hw:Region.wanted oi (yielded l.toArray a.tmps)=true) (hy:∀w,S w->(execOp a.eval oi).run P w=.ok (.value v) w) (hS:S w)
    (h:wpAnyH P md l.toArray Q S fuel (listed.setIfInBounds i true) (a.put oi.dst v) w):wpAnyH P md l.toArray Q S (fuel+1) listed a w:=
  wpAnyH_take (qi2 hi) hs hf hr hQ (.inl ⟨hw,hy⟩) hS h
theorem qjX {i:Nat} {oi:Oper} {rest:List Oper} {fuel:Nat} {listed:Array Bool} {a:Act} {w:World} (hi:l.drop i=oi::rest) (hr:Region.ready md l.toArray listed=[i])
    (hw:Region.wanted oi (yielded l.toArray a.tmps)=true)
    (h:∀K:Act->World->Prop,Shut (∀a' w',S w'->(S w'->wpAnyH P md l.toArray Q S fuel (listed.setIfInBounds i true) a' w')->K a' w')->oi.wp P a w K Q):wpAnyH P md l.toArray Q S (fuel+1) listed a w:=
  wpAnyH_ready hr (by simp) (AllReadyH.cons (qi2 hi) (fun K hK=>by
    rw [if_pos hw];exact h K hK) AllReadyH.nil)
end
end Go.Proofs.YtnkelahimiipjaaGreatDoor
namespace Go.Proofs.YtnkelahimiipjaaGreatDoor
def putV (u:Nat):List Nat:=if u<128 then [u] else (u%128+128)::putV (u/128)
termination_by u
decreasing_by omega
theorem qbL {u:Nat} (h:u<128):putV u=[u]:=by rw [putV,if_pos h]
theorem qbD {u:Nat} (h:128<=u):putV u=(u%128+128)::putV (u/128):=by rw [putV,if_neg (by omega)]
def qbx:List Nat->Nat
  | []=>0
  |c::l=>if 128<=c then qbx l+1 else 0
def valV:List Nat->Nat
  | []=>0
  |c::l=>c%128+128*valV l
def qab (b:List Nat):Int×Nat×Nat:=
  if 10<=qbx b then (11,0,0) else if b.length<=qbx b then (10,0,0)
  else if (qbx b=9∧1<b.getD 9 0)∨(0<qbx b∧b.getD (qbx b) 0=0) then (11,0,0)
  else (0,valV (b.take (qbx b+1)),qbx b+1)
theorem qdT {P:Nat->Prop} (h0:∀u,u<128->P u) (h1:∀u,128<=u->P (u/128)->P u) (u:Nat):P u:=by
  induction u using Nat.strongRecOn with
  | _ u ih =>
    by_cases h:u<128
    · exact h0 u h
    · exact h1 u (by omega) (ih _ (by omega))
theorem qdQ (u:Nat):1<=(putV u).length:=by
  by_cases h:u<128
  · rw [qbL h];simp
  · rw [qbD (by omega)];simp
theorem qbF (u:Nat):∀c ∈ putV u,c<256:=by
  induction u using qdT with
  |h0 u h=>rw [qbL h];intro c hc;simp at hc;omega
  | h1 u h ih =>
    rw [qbD h];intro c hc;rcases List.mem_cons.1 hc with rfl|hc
    · omega
    · exact ih c hc
theorem qmY (u:Nat) (r:List Nat):qbx (putV u++r)+1=(putV u).length:=by
  induction u using qdT with
  |h0 u h=>rw [qbL h];simp only [List.cons_append,qbx,List.length_singleton];rw [if_neg (by omega)]
  |h1 u h ih=>rw [qbD h];simp only [List.cons_append,qbx,List.length_cons];rw [if_pos (by omega)];omega
theorem qo5 (u:Nat):valV (putV u)=u:=by
  induction u using qdT with
  |h0 u h=>rw [qbL h];simp only [valV];omega
  |h1 u h ih=>rw [qbD h];simp only [valV];rw [ih];omega
theorem qax (k:Nat):∀u,u<128^(k+1)->(putV u).length<=k+1:=by
  induction k with
  |zero=>intro u h;rw [qbL (by simpa using h)];simp
  | succ k ih =>
    intro u h;by_cases h1:u<128
    · rw [qbL h1];simp
    · rw [qbD (by omega), List.length_cons]
      have :=ih (u/128) (by rw [Nat.pow_succ] at h;omega);omega
theorem qm6 (u:Nat) (r:List Nat):(putV u++r).getD ((putV u).length-1) 0=u/128^((putV u).length-1)∧(1<(putV u).length->u/128^((putV u).length-1)≠0):=by
  induction u using qdT with
  |h0 u h=>rw [qbL h];simp
  | h1 u h ih =>
    have hp:=qdQ (u/128);rw [qbD h];simp only [List.cons_append,List.length_cons,Nat.add_sub_cancel];obtain ⟨k,hk⟩:∃k,(putV (u/128)).length=k+1:=⟨(putV (u/128)).length-1,by omega⟩;rw [hk] at ih ⊢;rw [Nat.add_sub_cancel] at ih;rw [List.getD_cons_succ,ih.1,Nat.pow_succ,Nat.mul_comm,<-Nat.div_div_eq_div_mul];refine ⟨rfl,fun _=> ?_⟩;by_cases hk0:k=0
    · subst hk0;simp;omega
    · exact ih.2 (by omega)
theorem qdR {u:Nat} (h:u<18446744073709551616) (r:List Nat):qab (putV u++r)=(0,u,(putV u).length):=by
  have h1:=qmY u r;have h2:=qax 9 u (by omega);have h3:=qm6 u r;have h4:=qdQ u;have e:(putV u).length-1=qbx (putV u++r):=by omega
  rw [e] at h3;unfold qab;rw [if_neg (by omega),if_neg (by rw [List.length_append];omega),if_neg,h1,List.take_left' rfl,qo5];rintro (⟨h5,h6⟩|⟨h5,h6⟩)
  · rw [h5] at h3
    rw [h3.1] at h6;omega
  · rw [h3.1] at h6
    exact h3.2 (by omega) h6
theorem qf1 {b:List Nat} (h:(qab b).1=0):(qab b).2.2<=b.length∧1<=(qab b).2.2∧(qab b).2.2<=10:=by
  unfold qab at h ⊢
  split
  case isTrue h1=>rw [if_pos h1] at h;simp at h
  case isFalse h1=>
    rw [if_neg h1] at h
    split
    case isTrue h2=>rw [if_pos h2] at h;simp at h
    case isFalse h2=>
      rw [if_neg h2] at h
      split
      case isTrue h3=>rw [if_pos h3] at h;simp at h
      case isFalse h3=>simp only;omega
def zigV (n:Int):Nat:=if 0<=n then (2*n).toNat else (-2*n-1).toNat
def zagV (u:Nat):Int:=if u%2=0 then ((u/2:Nat):Int) else -((u/2:Nat):Int)-1
theorem qph (n:Int):zagV (zigV n)=n:=by
  unfold zagV zigV
  split<;>split<;>omega
theorem qkZ {n:Int} (h: -9223372036854775808<=n∧n<9223372036854775808):zigV n<18446744073709551616:=by
  unfold zigV
  split<;>omega
def In64 (n:Int):Prop:= -9223372036854775808<=n∧n<9223372036854775808
def allV (l:List Int):List Nat:=l.flatMap (fun n=>putV (zigV n))
theorem qgm (n:Int) (l:List Int):allV (n::l)=putV (zigV n)++allV l:=rfl
theorem qhk (a b:List Int):allV (a++b)=allV a++allV b:=by unfold allV;simp
theorem qgV (l:List Int):∀c ∈ allV l,c<256:=by
  intro c hc;obtain ⟨n,_,h⟩:=List.mem_flatMap.1 hc;exact qbF _ c h
theorem qdS {l:List Int} (h:∀n ∈ l,In64 n):(allV l).length<=10*l.length:=by
  induction l with
  |nil=>simp [allV]
  | cons n l ih =>
    have h1:=qax 9 (zigV n) (by have :=qkZ (h n List.mem_cons_self);omega);have h2:=ih (fun x hx=>h x (List.mem_cons_of_mem _ hx));rw [qgm,List.length_append,List.length_cons];omega
def qac:Nat->List Nat->Int×List Int×List Nat
  |0,b=>(0,[],b)
  |n+1,b=>if (qab b).1=0 then (if (qac n (b.drop (qab b).2.2)).1=0 then (0,zagV (qab b).2.1::(qac n (b.drop (qab b).2.2)).2.1,(qac n (b.drop (qab b).2.2)).2.2) else qac n (b.drop (qab b).2.2)) else ((qab b).1,[],[])
theorem qgW {l:List Int} (r:List Nat) (h:∀n ∈ l,In64 n):qac l.length (allV l++r)=(0,l,r):=by
  induction l with
  |nil=>rfl
  | cons n l ih =>
    have h2:=ih (fun x hx=>h x (List.mem_cons_of_mem _ hx));rw [List.length_cons,qac,qgm,List.append_assoc,qdR (qkZ (h n List.mem_cons_self)),if_pos rfl,List.drop_left' rfl,h2,if_pos rfl,qph]
theorem qm2 {u c k:Nat} (h:u<2^k):u ||| (c*2^k)=u+c*2^k:=by
  have :=Nat.shiftLeft_add_eq_or_of_lt h c;rw [Nat.shiftLeft_eq] at this;rw [Nat.or_comm,<-this,Nat.add_comm]
set_option maxRecDepth 100000 in
theorem qqt (u:Nat):(u%256) ||| 128=u%128+128:=by
  have h:∀y,y<256->y ||| 128=y%128+128:=by decide+kernel
  rw [h _ (Nat.mod_lt _ (by decide))];omega
theorem qpL (u:Nat):u &&& 127=u%128:=Nat.and_two_pow_sub_one_eq_mod u 7
theorem qmF (l:List Nat) (c:Nat):valV (l++[c])=valV l+c%128*2^(7*l.length):=by
  induction l with
  |nil=>simp [valV]
  | cons x l ih =>
    have e:2^(7*(x::l).length)=2^(7*l.length)*128:=(by rw [List.length_cons,Nat.mul_add,Nat.pow_add]);rw [List.cons_append,valV,ih,valV,e,<-Nat.mul_assoc];omega
theorem qps (l:List Nat):valV l<2^(7*l.length):=by
  induction l with
  |nil=>simp [valV]
  | cons x l ih =>
    have e:2^(7*(x::l).length)=2^(7*l.length)*128:=(by rw [List.length_cons,Nat.mul_add,Nat.pow_add]);rw [valV,e];omega
theorem qih {b:List Nat} {n:Nat} (hn:n<b.length):valV (b.take (n+1))=valV (b.take n)+b[n]%128*2^(7*n):=by
  rw [List.take_succ_eq_append_getElem hn,qmF,List.length_take,Nat.min_eq_left (by omega)]
theorem qcY {b:List Nat} {n:Nat} (hn:n<=b.length):valV (b.take n)<2^(7*n):=by
  have :=qps (b.take n)
  rwa [List.length_take,Nat.min_eq_left hn] at this
theorem qoI (b:List Nat):qbx b<=b.length:=by
  induction b with
  |nil=>simp [qbx]
  |cons c b ih=>unfold qbx;split<;>simp <;>omega
theorem qme:∀(b:List Nat) (n:Nat),n<=b.length->(∀i (h:i<b.length),i<n->128<=b[i])->n<=qbx b∧((h:n<b.length)->b[n]<128->qbx b=n)
  | [],n,hn,_=>⟨by simpa [qbx] using hn,fun h=>by simp at h⟩
  | c :: b, 0, _, _ => ⟨Nat.zero_le _, fun _ hc => by
      have hc:c<128:=hc;unfold qbx;rw [if_neg (by omega)]⟩
  | c :: b, n + 1, hn, h => by
    have hc:128<=c:=h 0 (by simp) (by omega);obtain ⟨i1,i2⟩:=qme b n (by simpa using hn) (fun i hi hin=>by
      have :=h (i+1) (by simpa using hi) (by omega);simpa using this)
    unfold qbx;rw [if_pos hc];exact ⟨by omega,fun hl hb=>by rw [i2 (by simpa using hl) (by simpa using hb)]⟩
theorem qne {a:Nat} (h:a<18446744073709551616):a ^^^ 18446744073709551615=18446744073709551615-a:=by
  have e:(18446744073709551615:Nat)=2^64-1:=rfl;rw [e];apply Nat.eq_of_testBit_eq;intro i;rw [Nat.testBit_xor,Nat.testBit_two_pow_sub_one];have :2^64-1-a=2^64-(a+1):=by omega
  rw [this,Nat.testBit_two_pow_sub_succ (by omega)];by_cases hi:i<64
  · simp [hi]
  · have h2 : a.testBit i = false := Nat.testBit_lt_two_pow (Nat.lt_of_lt_of_le h (by
      have :(18446744073709551616:Nat)=2^64:=rfl;rw [this];exact Nat.pow_le_pow_right (by decide) (by omega)))
    simp [hi,h2]
theorem qe1 (n:Int):IntKind.i64.wrap n=if n%18446744073709551616≥9223372036854775808 then n%18446744073709551616-18446744073709551616 else n%18446744073709551616:=by
  unfold IntKind.wrap;simp [IntKind.bits,IntKind.signed]
theorem qjH (n:Int):In64 (IntKind.i64.wrap n):=by
  rw [qe1];unfold In64;split<;>omega
theorem qfJ {n:Int} (h:In64 n):IntKind.i64.wrap n=n:=by
  unfold In64 at h;rw [qe1];split<;>omega
theorem qcK {a b:Int} (hb:In64 b):IntKind.i64.wrap (a+IntKind.i64.wrap (b-a))=b:=by
  unfold In64 at hb;rw [qe1,qe1];split<;>split<;>omega
def dV (l:List Int) (i:Nat):Int:=IntKind.i64.wrap (l.getD i 0-l.getD (i-1) 0)
def qdA (l:List Int):Bool:=l.all (fun x=>decide (x=l.getD 0 0))
def qft (l:List Int):Bool:=(List.range (l.length-1)).all (fun i=>decide (dV l (i+1)=dV l 1))
def qaW (l:List Int) (i:Nat):Int:=if i=0 then l.getD 0 0 else dV l i
def qaR (l:List Int) (i:Nat):Int:=if i<2 then qaW l i else IntKind.i64.wrap (dV l i-dV l (i-1))
def qaE (l:List Int):List Int:=(List.range l.length).map (qaW l)
def qa6 (l:List Int):List Int:=(List.range l.length).map (qaR l)
def asX (kind:Nat) (l:List Int):Option (List Int):=
  if kind=0 then (if 1<=l.length∧qdA l=true then some [l.getD 0 0] else none)
  else if kind=1 then (if 2<=l.length∧qft l=true then some [l.getD 0 0,dV l 1] else none)
  else if kind=2 then some (qaE l)
  else if kind=3 then (if 2<=l.length then some (qa6 l) else none)
  else none
def asV (kind:Nat) (l:List Int):Option (List Nat):=if 4096<l.length then none else (asX kind l).map (fun x=>kind::(putV l.length++allV x))
def qaN (l:List Int) (s:Nat×List Nat) (k:Nat):Nat×List Nat:=match asV k l with
  |none=>s
  |some x=>if x.length<s.2.length∨x.length=s.2.length∧k<s.1 then (k,x) else s
def qmc (l:List Int):Nat×List Nat:=[3,1,0].foldl (qaN l) (2,(asV 2 l).getD [])
def encV (l:List Int):List Nat:=(qmc l).2
def qaU (kind : Nat) (x : List Int) : Nat -> Int × Int
  |0=>(x.getD 0 0,0)
  | i + 1 =>
    let s:=if kind=1 then x.getD 1 0 else if kind=2 then x.getD (i+1) 0 else if kind=3 then IntKind.i64.wrap ((qaU kind x i).2+x.getD (i+1) 0) else (qaU kind x i).2
    (IntKind.i64.wrap ((qaU kind x i).1+s),s)
def qcg (kind:Nat):Nat:=if kind=0 then 1 else if kind=2 then 0 else 2
def qb4 (kind n:Nat):Nat:=if kind<=1 then kind+1 else n
def decV (b:List Nat):Int×List Int×List Nat:=
  if b.length=0 then (10,[],[])
  else if 3<b.getD 0 0 then (11,[],[])
  else if (qab (b.drop 1)).1≠0 then ((qab (b.drop 1)).1,[],[])
  else if 4096<(qab (b.drop 1)).2.1∨(qab (b.drop 1)).2.1<qcg (b.getD 0 0) then (11,[],[])
  else if (qac (qb4 (b.getD 0 0) (qab (b.drop 1)).2.1) ((b.drop 1).drop (qab (b.drop 1)).2.2)).1≠0 then ((qac (qb4 (b.getD 0 0) (qab (b.drop 1)).2.1) ((b.drop 1).drop (qab (b.drop 1)).2.2)).1,[],[])
  else (0,(List.range (qab (b.drop 1)).2.1).map (fun i=>(qaU (b.getD 0 0) (qac (qb4 (b.getD 0 0) (qab (b.drop 1)).2.1) ((b.drop 1).drop (qab (b.drop 1)).2.2)).2.1 i).1),(qac (qb4 (b.getD 0 0) (qab (b.drop 1)).2.1) ((b.drop 1).drop (qab (b.drop 1)).2.2)).2.2)
-- ---- what is told that way comes back
theorem qbl {f:Nat->Int} {n i:Nat} (h:i<n):((List.range n).map f).getD i 0=f i:=by
  simp [List.getD,List.getElem?_map,List.getElem?_range h]
theorem qcz {l:List Int} (h:∀x ∈ l,In64 x) (i:Nat):In64 (l.getD i 0):=by
  by_cases hi:i<l.length
  · rw [List.getD_eq_getElem?_getD,List.getElem?_eq_getElem hi];exact h _ (List.getElem_mem hi)
  · rw [List.getD_eq_getElem?_getD,List.getElem?_eq_none (by omega)];exact ⟨by decide,by decide⟩
theorem qeS {l:List Int} (h:∀x ∈ l,In64 x):∀i,i<l.length->(qaU 2 (qaE l) i).1=l.getD i 0
  | 0, hi => by
    show (qaE l).getD 0 0=_;unfold qaE;rw [qbl hi];rfl
  | i + 1, hi => by
    have ih:=qeS h i (by omega);show IntKind.i64.wrap ((qaU 2 (qaE l) i).1+(qaE l).getD (i+1) 0)=_;rw [ih];unfold qaE;rw [qbl hi];unfold qaW dV;rw [if_neg (by omega),Nat.add_sub_cancel];exact qcK (qcz h _)
theorem qeq {l : List Int} (h : ∀ x ∈ l, In64 x) : ∀ i, i < l.length -> (qaU 3 (qa6 l) i).1 = l.getD i 0 ∧ (qaU 3 (qa6 l) i).2 = if i = 0 then 0 else dV l i
  | 0, hi => by
    refine ⟨?_,rfl⟩;show (qa6 l).getD 0 0=_;unfold qa6;rw [qbl hi];rfl
  | i + 1, hi => by
    obtain ⟨ih1,ih2⟩:=qeq h i (by omega);have e:IntKind.i64.wrap ((qaU 3 (qa6 l) i).2+(qa6 l).getD (i+1) 0)=dV l (i+1):=by
      rw [ih2];unfold qa6;rw [qbl hi];unfold qaR;by_cases h0:i=0
      · subst h0
        simp only [if_pos,Nat.zero_add,Int.zero_add];rw [if_pos (by omega)];show IntKind.i64.wrap (qaW l 1)=_;exact qfJ (qjH _)
      · rw [if_neg h0, if_neg (by omega), Nat.add_sub_cancel]
        exact qcK (qjH _)
    refine ⟨?_, ?_⟩
    · show IntKind.i64.wrap ((qaU 3 (qa6 l) i).1 + IntKind.i64.wrap ((qaU 3 (qa6 l) i).2 + (qa6 l).getD (i + 1) 0)) = _
      rw [e,ih1];unfold dV;rw [Nat.add_sub_cancel];exact qcK (qcz h _)
    · rw [if_neg (by omega)];exact e
theorem qgy {l:List Int} (h:∀x ∈ l,In64 x) (he:qft l=true):∀i,i<l.length->(qaU 1 [l.getD 0 0,dV l 1] i).1=l.getD i 0
  |0,_=>rfl
  | i + 1, hi => by
    have ih:=qgy h he i (by omega);have e:dV l (i+1)=dV l 1:=by
      unfold qft at he;exact of_decide_eq_true (List.all_eq_true.1 he i (List.mem_range.2 (by omega)))
    show IntKind.i64.wrap ((qaU 1 [l.getD 0 0,dV l 1] i).1+dV l 1)=_;rw [ih,<-e];unfold dV;rw [Nat.add_sub_cancel];exact qcK (qcz h _)
theorem qe0 {l:List Int} (h:∀x ∈ l,In64 x) (he:qdA l=true):∀i,i<l.length->(qaU 0 [l.getD 0 0] i).1=l.getD i 0∧(qaU 0 [l.getD 0 0] i).2=0
  |0,_=>⟨rfl,rfl⟩
  | i + 1, hi => by
    obtain ⟨ih1,ih2⟩:=qe0 h he i (by omega);have e:∀j,j<l.length->l.getD j 0=l.getD 0 0:=fun j hj=>by
      have :=of_decide_eq_true (List.all_eq_true.1 he l[j] (List.getElem_mem hj));rw [List.getD_eq_getElem?_getD,List.getElem?_eq_getElem hj];exact this
    refine ⟨?_,ih2⟩;show IntKind.i64.wrap ((qaU 0 [l.getD 0 0] i).1+(qaU 0 [l.getD 0 0] i).2)=_;rw [ih1,ih2,Int.add_zero,e i (by omega),e (i+1) hi];exact qfJ (qcz h _)
theorem qjZ (l:List Int) (f:Nat->Int) (h:∀i,i<l.length->f i=l.getD i 0):(List.range l.length).map f=l:=by
  refine List.ext_getElem (by simp) fun i h1 h2=> ?_;rw [List.getElem_map,List.getElem_range,h i h2,List.getD_eq_getElem?_getD,List.getElem?_eq_getElem h2];rfl
theorem qe5 {kind : Nat} {l x : List Int} (hl : ∀ x ∈ l, In64 x) (h : asX kind l = some x) : ∀ n ∈ x, In64 n := by
  have h0:=qcz hl 0;have h1:∀i,In64 (dV l i):=fun i=>qjH _;have h2:∀i,In64 (qaW l i):=fun i=>by unfold qaW;split;exact h0;exact h1 _
  have h3:∀i,In64 (qaR l i):=fun i=>by unfold qaR;split;exact h2 _;exact qjH _
  unfold asX at h
  split at h
  · split at h
    · injection h with h;subst h;intro n hn;simp at hn;rw [hn];exact h0
    · cases h
  · split at h
    · split at h
      · injection h with h;subst h;intro n hn;simp at hn;rcases hn with rfl|rfl;exact h0;exact h1 _
      · cases h
    · split at h
      · injection h with h;subst h;intro n hn;obtain ⟨i,_,rfl⟩:=List.mem_map.1 hn;exact h2 _
      · split at h
        · split at h
          · injection h with h;subst h;intro n hn;obtain ⟨i,_,rfl⟩:=List.mem_map.1 hn;exact h3 _
          · cases h
        · cases h
theorem qpU {kind : Nat} {l : List Int} {b : List Nat} (r : List Nat) (hl : ∀ x ∈ l, In64 x) (h : asV kind l = some b) : decV (b ++ r) = (0, l, r) := by
  unfold asV at h
  split at h
  case isTrue=>cases h
  case isFalse h4=>
    obtain ⟨x,hx,rfl⟩:=Option.map_eq_some_iff.1 h;have aa:=qe5 hl hx;have hn:l.length<18446744073709551616:=(by omega);have key:kind<=3∧x.length=qb4 kind l.length∧qcg kind<=l.length∧∀i,i<l.length->(qaU kind x i).1=l.getD i 0:=by
      unfold asX at hx
      split at hx
      case isTrue hk=>
        subst hk
        split at hx
        case isTrue hc=>injection hx with hx;subst hx;exact ⟨by omega,rfl,hc.1,fun i hi=>(qe0 hl hc.2 i hi).1⟩
        case isFalse=>cases hx
      case isFalse hk0=>
        split at hx
        case isTrue hk=>
          subst hk
          split at hx
          case isTrue hc=>injection hx with hx;subst hx;exact ⟨by omega,rfl,hc.1,fun i hi=>qgy hl hc.2 i hi⟩
          case isFalse=>cases hx
        case isFalse hk1=>
          split at hx
          case isTrue hk=>subst hk;injection hx with hx;subst hx;exact ⟨by omega,by simp [qaE,qb4],Nat.zero_le _,fun i hi=>qeS hl i hi⟩
          case isFalse hk2=>
            split at hx
            case isTrue hk=>
              subst hk
              split at hx
              case isTrue hc=>injection hx with hx;subst hx;exact ⟨by omega,by simp [qa6,qb4],hc,fun i hi=>(qeq hl i hi).1⟩
              case isFalse=>cases hx
            case isFalse=>cases hx
    obtain ⟨k1,k2,k3,k4⟩:=key;have e1:((kind::(putV l.length++allV x))++r).drop 1=putV l.length++(allV x++r):=(by simp);have e2:((kind::(putV l.length++allV x))++r).getD 0 0=kind:=rfl;have e3:=qdR hn (allV x++r);have e4:=qgW r aa;rw [k2] at e4;unfold decV;rw [if_neg (by simp),e1,e2,if_neg (by omega),e3];simp only [ne_eq,not_true,if_false];rw [if_neg (by omega),List.drop_left' rfl,e4];simp only [not_true,if_false];rw [qjZ l _ k4]
theorem qh2 {l : List Int} (h : l.length <= 4096) : ∃ k, asV k l = some (encV l) := by
  have key:∀(ks:List Nat) (s:Nat×List Nat),(∃k,asV k l=some s.2)->∃k,asV k l=some (ks.foldl (qaN l) s).2:=by
    intro ks
    induction ks with
    |nil=>intro s hs;exact hs
    | cons k ks ih =>
      intro s hs;refine ih _ ?_;unfold qaN
      split
      · exact hs
      case h_2 x hx=>
        split
        · exact ⟨k,hx⟩
        · exact hs
  refine key _ _ ⟨2, ?_⟩;unfold asV asX;rw [if_neg (by omega)];rfl
theorem qk8 {l:List Int} (r:List Nat) (hl:∀x ∈ l,In64 x) (h:l.length<=4096):decV (encV l++r)=(0,l,r):=by
  obtain ⟨k,hk⟩:=qh2 h;exact qpU r hl hk
theorem qik (l:List Int):∀(ks:List Nat) (s:Nat×List Nat),(ks.foldl (qaN l) s).2.length<=s.2.length
  | [],_=>Nat.le_refl _
  | k :: ks, s => by
    refine Nat.le_trans (qik l ks (qaN l s k)) ?_;unfold qaN
    split
    · exact Nat.le_refl _
    · split
      case isTrue h=>simp only;rcases h with h|h<;>omega
      case isFalse=>exact Nat.le_refl _
theorem qfO {l:List Int} (hl:∀x ∈ l,In64 x) (h:l.length<=4096):(encV l).length<=11+10*l.length:=by
  have h1:=qik l [3,1,0] (2,(asV 2 l).getD []);have e:asV 2 l=some (2::(putV l.length++allV (qaE l))):=by
    unfold asV asX;rw [if_neg (by omega)];rfl
  have h2:=qax 9 l.length (by omega);have h3:=qdS (l:=qaE l) (qe5 (kind:=2) hl (by unfold asX;rfl));have h4:(qaE l).length=l.length:=by unfold qaE;simp
  rw [e] at h1;simp only [Option.getD_some,List.length_cons,List.length_append] at h1;unfold encV qmc;rw [e];simp only [Option.getD_some];omega
theorem qiA {l : List Int} (h : l.length <= 4096) : ∀ c ∈ encV l, c < 256 := by
  obtain ⟨k,hk⟩:=qh2 h;unfold asV at hk;rw [if_neg (by omega)] at hk;obtain ⟨x,hx,e⟩:=Option.map_eq_some_iff.1 hk
  have aa : k <= 3 := by
    unfold asX at hx
    split at hx
    · omega
    · split at hx
      · omega
      · split at hx
        · omega
        · split at hx
          · omega
          · cases hx
  intro c hc;rw [<-e] at hc;rcases List.mem_cons.1 hc with rfl|hc
  · omega
  · rcases List.mem_append.1 hc with hc | hc
    · exact qbF _ c hc
    · exact qgV _ c hc
end Go.Proofs.YtnkelahimiipjaaGreatDoor
