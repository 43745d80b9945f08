/-
 append of one element, inside a fence; variables in boxes.
-/
import Derived.Test.YtnkelahimiipjaaGreatDoorBbt
import Derived.Maps.OwnIn
import Derived.Maps.AppendAt
import Derived.Deep.RegionHeld3
import Derived.RangeFuncBox
import Derived.RangeFuncOwn
import Derived.Test.YtnkelahimiipjaaGreatDoorRqt
import Derived.RangeFuncNested
import Derived.RangeFuncBound
import Derived.RangeFuncCalls
import Derived.RangeFuncLeaves
import Derived.Shelf.Abstract
import Derived.Shelf.RegionOpen
import Derived.WalkKit
import Derived.OwnWalkIn
import Derived.TacticsInMore
import Derived.LoopNIn
import Derived.LoopIn
import Derived.Test.YtnkelahimiipjaaGreatDoorCct
import Derived.Test.YtnkelahimiipjaaGreatDoorCjt
set_option maxRecDepth 100000
set_option maxHeartbeats 8000000
namespace Go.Proofs.YtnkelahimiipjaaGreatDoor
open Go.RowKit Go.Sort
section
variable {α :Type} {P:Program} {F:Fence} {nF:Nat} {w:World} {ops:Array Oper} {rest:List Oper} {o:Oper} {a:Act} {Q:Exit->Act->World->Prop}
theorem qgB (E:Enc α) (hgd:o.guard=none) (s x:Operand) (t e:TypeId) {z:Value} {bytes:Nat}
  (ho:o.op=.call { callee:=.builtin .append,args:= #[s,x],argTypes:= #[t,t] }) (ht:P.underlying t=some (.slice e))
  (hinf:(P.info? e).map (fun i=>(i.zero,i.size,i.bytes))=some (some z,E.k,bytes)) (hz:z.cells.size=E.k) (hb:0<bytes)
  (base:Nat) (v:Value) (l:List α) (y: α) (hs:a.eval s=v) (hown:OwnG E e w base v l) (b off c:Nat) (hx:a.eval x=.slice (some ⟨b,off,none⟩) 1 c) (hc:CellG E w b off y)
  (hl:(l.length+1)*bytes<=140737488355328) (hbase:base<=w.heap.size)
  (h:∀v' w',OwnG E e w' base v' (l++[y])->w.grownBy w' v.ownBlock->(v'.ownBlock=v.ownBlock∨v'.ownBlock=some w.heap.size)->wpListIn F nF P ops Q rest (a.put o.dst v') w'):
  wpListIn F nF P ops Q (o::rest) a w:=by
 obtain ⟨i,hi,ab,ac,aa⟩:=qbz hinf;have hm:l.length+1<=maxLen:=by
  have :=Nat.le_mul_of_pos_right (l.length+1) hb;have e:maxLen=9223372036854775807:=rfl;omega
 refine wpListIn_append_own_at w hgd s x t ho base e i _ E.k bytes ht hi ab ac aa hz E.pos v l.length (E.flat l) hs hown ⟨b,off,none⟩ 1 c (E.enc y) hx (by rw [E.len,Nat.one_mul]) hc.news (E.one y) hm hl hbase (fun v' w' h1 h2 _ h4=> ?_);refine h v' w' ?_ h2 h4;unfold OwnG;rw [E.flat_app,E.flat_one,List.length_append];exact h1
end
theorem qe2 {α :Type} {P:Program} {w:World} {ops:Array Oper} {o:Oper} {a:Act} {K:Act->World->Prop} {Q:Exit->Act->World->Prop} {F:Prop} (E:Enc α) (hgd:o.guard=none) (s x:Operand) (t e:TypeId) {z:Value} {bytes:Nat}
  (ho:o.op=.call { callee:=.builtin .append,args:= #[s,x],argTypes:= #[t,t] }) (ht:P.underlying t=some (.slice e))
  (hinf:(P.info? e).map (fun i=>(i.zero,i.size,i.bytes))=some (some z,E.k,bytes)) (hz:z.cells.size=E.k) (hb:0<bytes)
  (base:Nat) (v:Value) (l:List α) (y: α) (hs:a.eval s=v) (hown:OwnG E e w base v l) (b off c:Nat) (hx:a.eval x=.slice (some ⟨b,off,none⟩) 1 c) (hc:CellG E w b off y)
  (hl:(l.length+1)*bytes<=140737488355328) (hbase:base<=w.heap.size)
  (h:∀v' w',OwnG E e w' base v' (l++[y])->w.grownBy w' v.ownBlock->(v'.ownBlock=v.ownBlock∨v'.ownBlock=some w.heap.size)->K (a.put o.dst v') w'):
  if Region.wanted o (yielded ops a.tmps)=true then o.wp P a w K Q else F:=by
 have hw:Region.wanted o (yielded ops a.tmps)=true:=by simp [Region.wanted,hgd]
 rw [if_pos hw];obtain ⟨i,hi,ab,ac,aa⟩:=qbz hinf;have hm:l.length+1<=maxLen:=by
  have :=Nat.le_mul_of_pos_right (l.length+1) hb;have e:maxLen=9223372036854775807:=rfl;omega
 obtain ⟨v',w',hr,h2,h3,_,h5⟩:=run_append_own_at (P:=P) w base t o.type e i _ E.k bytes ht hi ab ac aa hz E.pos v l.length (E.flat l) hown ⟨b,off,none⟩ 1 c (E.enc y) (by rw [E.len,Nat.one_mul]) hc.news (E.one y) hm hl hbase;unfold Oper.wp execOp;simp only [ho,resolve,invoke,builtin,Sem.run_bind,Sem.run_pure,Result.andThen_ok,List.map_toArray,List.map_cons,List.map_nil,hs,hx,hr];refine h v' w' ?_ h3 h5;unfold OwnG;rw [E.flat_app,E.flat_one,List.length_append];exact h2
theorem qaP {A:World} {B l:Nat} {t:TypeId} {v:Value} {r:Loop} (h:Boxed A B t v) (hl:A.heap[l]? =some (.loop r)) (o:Obj):Boxed (A.putObj l o) B t v:=
 (World.putObj_heap_other (fun e=>by
   have h1:A.heap[B]? =_:=h;rw [e,hl] at h1;cases h1)).trans h
theorem qdF {A:World} {B l:Nat} {t:TypeId} {v:Value} {o0:Obj} (h:Boxed A B t v) (hl:A.heap[l]? =some o0) (hc:o0.isCells=false) (o:Obj):Boxed (A.putObj l o) B t v:=
 (World.putObj_heap_other (fun e=>by
   have h1:A.heap[B]? =_:=h;rw [e,hl] at h1;cases h1;cases hc)).trans h
theorem qaw (w:World) (t:TypeId) (v:Value) {k:Nat} (hk:w.heap.size=k):Boxed (w.alloc (.cells #[v] t)) k t v:=hk▸Boxed.new w t v
theorem qat {A A':World} {B:Nat} {t:TypeId} {v:Value} (h:Boxed A B t v) (k:Below A.heap.size A A'):Boxed A' B t v:=(k.block _ h.lt).trans h
theorem qch {A A':World} {B:Nat} {t:TypeId} {v:Value} (h:Boxed A B t v) (k:Below A.drew.heap.size A.drew A'):Boxed A' B t v:=(k.block _ h.lt).trans h
theorem qnX {α :Type} {E:Enc α} {ty:TypeId} {w w':World} {base:Nat} {v:Value} {l:List α} (h:OwnG E ty w base v l) (k:Below w.drew.heap.size w.drew w'):OwnG E ty w' base v l:=OwnG.below (w:=w.drew) h k
theorem qfL {W w w':World} (h:Below W.heap.size W w) (k:Below w.drew.heap.size w.drew w'):Below W.heap.size W w':=h.drew.trans (k.mono h.drew.size)
theorem qaG {α :Type} {E:Enc α} {A A':World} {B base:Nat} {t ty:TypeId} {u v:Value} {l:List α} (h:Boxed A B t u) (hg:A.grownBy A' v.ownBlock) (ho:OwnG E ty A base v l) (hne:t≠ty):Boxed A' B t u:=h.kept hg (h.not_row hne ho)
theorem qaf {A:World} {B B':Nat} {t:TypeId} {v:Value} (h:Boxed A B t v) (hne:B≠B') (u:Value):Boxed (A.setCell ⟨B',0,none⟩ u) B t v:=h.kept (grownBy_setCell' A B' u) (fun e=>hne (by injection e))
theorem OwnG.putO {α :Type} {E:Enc α} {ty:TypeId} {w:World} {base:Nat} {v:Value} {l:List α} (h:OwnG E ty w base v l) {k:Nat} {o0:Obj} (o:Obj) (hl:w.heap[k]? =some o0) (ho:o0.isCells=false):OwnG E ty (w.putObj k o) base v l:=ownsRow_putObj h o hl ho
theorem OwnG.set {α :Type} {E:Enc α} {ty t:TypeId} {w:World} {base B:Nat} {v u:Value} {l:List α} (h:OwnG E ty w base v l) (hb:Boxed w B t u) (hne:t≠ty) (u':Value):OwnG E ty (w.setCell ⟨B,0,none⟩ u') base v l:=
 h.kept (grownBy_setCell' w B u') (.inr (hb.not_row hne h).symm)
theorem OwnG.sl {α :Type} {E:Enc α} {ty:TypeId} {w:World} {base:Nat} {v:Value} {l:List α} (h:OwnG E ty w base v l):∃A n c,v=.slice A n c:=by
 obtain ⟨A,c,e,_⟩:=h.rd;exact ⟨A,_,c,e⟩
theorem RdG.setBox {α :Type} {E:Enc α} {w:World} {v u:Value} {l:List α} {B:Nat} {t:TypeId} (h:RdG E w w.heap.size v l) (hb:Boxed w B t u) (hne:∀x: α,∀z ∈ E.enc x,z≠u) (u':Value):RdG E (w.setCell ⟨B,0,none⟩ u') (w.setCell ⟨B,0,none⟩ u').heap.size v l:=by
 obtain ⟨A,c,h1,h2,h3,h4⟩:=h;refine ⟨A,c,h1,h2,h3,h4.imp id fun ⟨b,o,e,ab,hc⟩=>⟨b,o,e,by simpa using ab,fun i hi j hj=> ?_⟩⟩;have aa:=hc i hi j hj;rw [World.cell?_setCell_other]
 ·exact aa
 ·intro e2;have hz:j<(E.enc l[i]).length:=by rw [E.len];exact hj
  rw [List.getElem?_eq_getElem hz] at aa;have e3:w.cell? ⟨B,0,none⟩=some (E.enc l[i])[j]:=by
   first|(rw [e2];exact aa)|(rw [<-e2];exact aa)
  rw [hb.cell] at e3;injection e3 with e3;exact hne l[i] _ (List.getElem_mem hz) e3.symm
theorem qbN {Z k:Nat} {w w':World} (h:Below Z w w') (hk:Z<=k) (o:Obj):Below Z w (w'.putObj k o):=
 ⟨h.os,h.tape,h.output,by rw [World.putObj_size];exact h.size,fun i hi=>(World.putObj_heap_other (by omega)).trans (h.block i hi)⟩
theorem OwnG.flatV {α :Type} {E:Enc α} {ty:TypeId} {w:World} {base:Nat} {v:Value} {l:List α} (h:OwnG E ty w base v l):∀a n c,v=.slice (some a) n c->∃g o,a=⟨g,o,none⟩:=by
 intro a n c e;rcases h.2 with ⟨h0,_⟩|⟨g,cap,cur,h0,_⟩
 ·rw [h0] at e;cases e
 ·rw [h0] at e;injection e with e;injection e with e;exact ⟨g,0,e.symm⟩
theorem OwnG.cellsAt {α :Type} {E:Enc α} {ty:TypeId} {w:World} {base:Nat} {v:Value} {l:List α} (h:OwnG E ty w base v l):∀k,v.ownBlock=some k->base<=k∧∃c z,w.heap[k]? =some (.cells c ty z):=by
 intro k hk;refine ⟨(h.blk hk).1, ?_⟩;rcases h.2 with ⟨h0,_⟩|⟨g,cap,cur,h0,_,hh,_⟩
 ·rw [h0] at hk;cases hk
 ·rw [h0] at hk;injection hk with hk;have hk:g=k:=hk;subst hk;exact ⟨cur,(0,0),hh⟩
end Go.Proofs.YtnkelahimiipjaaGreatDoor
namespace Go.Proofs.YtnkelahimiipjaaGreatDoor
open Go.RowKit
section
variable {kt:TypeId->Bool}
def qo0 (kt:TypeId->Bool):Obj->Bool
 | .cells _ e _=> !kt e
 |_=>true
def qpb (kt:TypeId->Bool):Obj->Bool
 | .loop _=>false
 |o=>qo0 kt o
theorem qjG {o:Obj} (h:qpb kt o=true):qo0 kt o=true:=by
 cases o<;>first|exact h|rfl
def KpT (kt:TypeId->Bool) (B:Nat) (W W':World):Prop:=Below B W W'∧∀(k:Nat) (o:Obj),W.heap[k]? =some o->qo0 kt o=true->W'.heap[k]? =some o
def KpU (kt:TypeId->Bool) (B:Nat) (W W':World):Prop:=Below B W W'∧∀(k:Nat) (o:Obj),W.heap[k]? =some o->qpb kt o=true->W'.heap[k]? =some o
theorem KpT.all {B:Nat} {W W':World} (h:KpT kt B W W'):KpT (fun _=>true) B W W':=⟨h.1,fun k o hk ho=>h.2 k o hk (by
 cases o<;>first|rfl|cases ho)⟩
theorem KpT.trans {Z:Nat} {A B C:World} (h:KpT kt Z A B) (k:KpT kt Z B C):KpT kt Z A C:=⟨h.1.trans k.1,fun i o hi ho=>k.2 i o (h.2 i o hi ho) ho⟩
theorem KpU.trans {Z:Nat} {A B C:World} (h:KpU kt Z A B) (k:KpU kt Z B C):KpU kt Z A C:=⟨h.1.trans k.1,fun i o hi ho=>k.2 i o (h.2 i o hi ho) ho⟩
theorem KpT.u {Z:Nat} {A B:World} (h:KpT kt Z A B):KpU kt Z A B:=⟨h.1,fun i o hi ho=>h.2 i o hi (qjG ho)⟩
theorem KpT.below {Z:Nat} {A B:World} (h:Below A.heap.size A B) (hz:Z<=A.heap.size):KpT kt Z A B:=⟨h.mono hz,fun k _ hk _=>(h.block k (Array.getElem?_eq_some_iff.1 hk).1).trans hk⟩
theorem KpU.putLoop {Z:Nat} {W:World} {l:Nat} {r:Loop} (h:W.heap[l]? =some (.loop r)) (hl:Z<=l) (o':Obj):KpU kt Z W (W.putObj l o'):=
 ⟨⟨rfl, rfl, rfl, by simp, fun k hk => World.putObj_heap_other (by omega)⟩, fun k o hk ho => by
  by_cases e:k=l
  ·subst e;rw [h] at hk;cases hk;cases ho
  ·exact (World.putObj_heap_other e).trans hk⟩
theorem KpT.grown {Z:Nat} {A B:World} {row:Option Nat} (h:A.grownBy B row) (hz:Z<=A.heap.size) (hr:∀k,row=some k->Z<=k∧∃c e z,A.heap[k]? =some (.cells c e z)∧kt e=true):KpT kt Z A B:=
 ⟨(Below.refl Z A).grown h hz (fun k e => (hr k e).1), fun k o hk ho => (h.block k (Array.getElem?_eq_some_iff.1 hk).1 (fun e => by
  obtain ⟨_,c,t,z,h1,h2⟩:=hr k e.symm;rw [hk] at h1;cases h1;have ho:(!kt t)=true:=ho;rw [h2] at ho;cases ho)).trans hk⟩
theorem KpT.setCell {Z:Nat} {A:World} {b:Nat} {c:Array Value} {e:TypeId} {z:Nat×Nat} (h:A.heap[b]? =some (.cells c e z)) (he:kt e=true) (hb:Z<=b) (i:Nat) (v:Value):KpT kt Z A (A.setCell ⟨b,i,none⟩ v):=
 ⟨(Below.refl Z A).setCell hb _, fun k o hk ho => by
  by_cases e1:k=b
  ·subst e1;rw [hk] at h;cases h;have ho:(!kt e)=true:=ho;rw [he] at ho;cases ho
  ·rw [Below.heap_setCell A ⟨b,i,none⟩ v k e1];exact hk⟩
def qjD {α : Type} (kt : TypeId -> Bool) (Z : Nat) (F : Fence) (n : Nat) (P : Program) (g : Nat) (lb : Array Value) (encs : α -> Array Value) (New : List α -> World -> World -> α -> Prop) (S Sp : List α -> Prop) (N : Nat) (w : World) : Prop :=
 ∀ (l : Nat) (J Jx : List α -> World -> Prop) (W : World), Below w.heap.size w W ->
  (∀pre x W0 W1,J pre W0->pre.length<N->Below W0.heap.size W0 W1->New pre W0 W1 x->YieldAt F (n-1) P l (encs x) W1 fun e W'=>
    (e=.returned (.bool true)∧J (pre++[x]) W'∧KpU kt Z W1 W')∨(e=.returned (.bool false)∧Jx (pre++[x]) W'))->
  J [] W->
  CallsIn F n P g (#[.func (.yield l) #[] #[]]++lb) W fun e W'=>(∃v,e=.returned v)∧
   ((∃xs W0,S xs∧J xs W0∧Below W0.heap.size W0 W')∨(∃xs W0,Sp xs∧Jx xs W0∧Below W0.heap.size W0 W'))
theorem qoO {α :Type} {Z:Nat} {F:Fence} {n:Nat} {P:Program} {g:Operand} {ps:Array Tmp} {assign body:Code} {Q:Exit->Act->World->Prop} {a:Act} {w:World}
  (hro:F.round=none) (h1:1<=n) {gf:Nat} {lb:Array Value} (hg:a.eval g=.func (.func gf) #[] lb) (hFg:F.fn gf) (eg:∀args w,(callFunc gf args).run P w=.ok (.enter gf args) w)
  {encs: α ->Array Value} {New:List α ->World->World-> α ->Prop} {S Sp:List α ->Prop} {N:Nat} {w0:World} (hZ:Z<=w.heap.size) (hseq:qjD kt Z F (n-1) P gf lb encs New S Sp N w0) (hb0:Below w0.heap.size w0 w) (hps:∀x,(encs x).size=ps.size)
  (hNew:∀pre A B x l o,New pre A B x->l<A.heap.size->New pre (A.putObj l o) (B.putObj l o) x)
  (I Ix:List α ->World->Prop) (hI:∀s A l r o,I s A->w.heap.size<l->A.heap[l]? =some (.loop r)->I s (A.putObj l o)) (hIx:∀s A l r o,Ix s A->w.heap.size<l->A.heap[l]? =some (.loop r)->Ix s (A.putObj l o)) (h0:∀B,Below w.heap.size w B->I [] B) (a₁: α ->Act)
  (hassign:∀(l:Nat) (x: α) (W:World) (K:Act->World->Prop),K (a₁ x) W->
    assign.wpIn (F.inRound l) (n-1-1) P (Exit.then K (fun _ _ _=>False)) { tmps:=(ps.zip (encs x)).foldl (fun t (p,v)=>t.setIfInBounds p v) a.tmps,defers:=[] } W)
  (hbody:∀(l:Nat) (pre:List α) (x: α) (W0 W1:World),w.heap.size<l->l<W0.heap.size->I pre W0->pre.length<N->Below W0.heap.size W0 W1->New pre W0 W1 x->
    body.wpIn (F.inRound l) (n-1-1) P (fun e _ W'=>(e=.normal∧KpT kt Z W1 W'∧I (pre++[x]) W')∨(e=.ret∧KpT (fun _=>true) Z W1 W'∧Ix (pre++[x]) W')) (a₁ x) W1)
  (hdone:∀(xs:List α) (W0 W:World),S xs->I xs W0->Below W0.heap.size W0 W->w.heap.size<W0.heap.size->W.heap[w.heap.size]? =some (.deferred (some []))->Q .normal { a with defers:= { target:=.collected w.heap.size,args:= #[] }::a.defers } W)
  (hstop:∀(xs:List α) (W0 W:World),Sp xs->Ix xs W0->Below W0.heap.size W0 W->w.heap.size<W0.heap.size->W.heap[w.heap.size]? =some (.deferred (some []))->Code.ret.wpIn F n P Q { a with defers:= { target:=.collected w.heap.size,args:= #[] }::a.defers } W):
  (Code.rangeFunc g ps assign body).wpIn F n P Q a w:=by
 refine wpIn_rangeFunc fun fn ax=> ?_;rw [hro]
 let rec0:LoopState->Option Code->Loop:=fun st pe=> { state:=st,pending:=pe,fn,tmps:=a.tmps,params:=ps,assign,body,defers:=w.heap.size }
 obtain ⟨d0,an⟩:∃d,d=w.heap.size:=⟨_,rfl⟩;obtain ⟨l,hl⟩:∃l,l=w.heap.size+1:=⟨_,rfl⟩;obtain ⟨W1,ai⟩:∃W1,W1=(w.alloc (.deferred (some []))).alloc (.loop (rec0 .ready none)):=⟨_,rfl⟩;have aw:W1.heap[l]? =some (.loop (rec0 .ready none)):=by
  have :=World.alloc_heap_new (w.alloc (.deferred (some []))) (.loop (rec0 .ready none));rw [World.size_alloc] at this;rw [ai,hl];exact this
 have av:W1.heap[d0]? =some (.deferred (some [])):=by
  rw [ai,an];exact (Below.heap_alloc _ _ _ (by simp)).trans (World.alloc_heap_new w _)
 have ap:Below w.heap.size w W1:=by
  rw [ai];exact ((Below.refl _ w).alloc (Nat.le_refl _) _).alloc (by simp) _
 refine ⟨w.heap.size+1,[{ target:=.collected w.heap.size,args:= #[] }],W1, { target:=.fn (.func gf) lb,args:= #[.func (.yield (w.heap.size+1)) #[] #[]] },W1,gf,
  #[.func (.yield (w.heap.size+1)) #[] #[]]++lb,W1,by rw [ai];exact run_enterLoop_outer _ _ _ _ _,by simp only [resolve,hg];simp [go_sem],fun f' ar=>by simp [Target.leads] at ar;subst ar;exact hFg,by simp [invoke,go_sem,eg],fun _=>h1, ?_⟩
 rw [<-hl];refine (hseq l (fun pre W=>I pre W∧W.heap[l]? =some (.loop (rec0 .ready none))∧W.heap[d0]? =some (.deferred (some []))) (fun pre W=>Ix pre W∧W.heap[l]? =some (.loop (rec0 .done (some .ret)))∧W.heap[d0]? =some (.deferred (some []))) W1 (hb0.trans (ap.mono hb0.size)) ?_ ⟨h0 _ ap,aw,av⟩).mono ?_
 ·rintro pre x W0 Wb ⟨hi,ab,ad⟩ au aa al;have ag:l<W0.heap.size:=(Array.getElem?_eq_some_iff.1 ab).1;have ac:d0<W0.heap.size:=(Array.getElem?_eq_some_iff.1 ad).1;have af:Wb.heap[l]? =some (.loop (rec0 .ready none)):=(aa.block l ag).trans ab;have ah:Wb.heap[d0]? =some (.deferred (some [])):=(aa.block d0 ac).trans ad;have hy:=run_yield (P:=P) (args:=encs x) af (hps x);refine ⟨fn,_,assign,body,hy,roundIn_of_wpIn ax (hassign l x Wb _ ⟨_,run_beginRound af rfl, ?_⟩)⟩;have aj:d0≠l:=by omega
  have aq:(Wb.putObj l (.loop (rec0 .busy none))).heap[l]? =some (.loop (rec0 .busy none)):=World.putObj_heap_same (Array.getElem?_eq_some_iff.1 af).1;have ao:(Wb.putObj l (.loop (rec0 .busy none))).heap[d0]? =some (.deferred (some [])):=(World.putObj_heap_other aj).trans ah;refine wpIn_mono (hbody l pre x (W0.putObj l (.loop (rec0 .busy none))) _ (by omega) (by rw [World.putObj_size];exact ag) (hI _ _ _ _ _ hi (by omega) ab) au (qbn aa _ _) (hNew _ _ _ _ _ _ al ag)) ?_;rintro e a3 W3 (⟨rfl,hk,am⟩|⟨rfl,hk,am⟩)
  ·have ae:=hk.2 _ _ aq rfl;have ak:=hk.2 _ _ ao rfl;refine ⟨_,_,run_endRound none ae,.inl ⟨rfl,⟨hI _ _ _ _ _ am (by omega) ae,World.putObj_heap_same (Array.getElem?_eq_some_iff.1 ae).1,(World.putObj_heap_other aj).trans ak⟩,((KpU.putLoop af (by omega) _).trans hk.u).trans (KpU.putLoop ae (by omega) _)⟩⟩
  ·have ae:=hk.2 _ _ aq rfl;have ak:=hk.2 _ _ ao rfl;exact ⟨_,_,run_endRound (some .ret) ae,.inr ⟨rfl,hIx _ _ _ _ _ am (by omega) ae,World.putObj_heap_same (Array.getElem?_eq_some_iff.1 ae).1,(World.putObj_heap_other aj).trans ak⟩⟩
 ·rintro e W2 ⟨⟨v,rfl⟩,(⟨xs,W0,hS,⟨hi,ab,ad⟩,aa⟩|⟨xs,W0,hS,⟨hi,ab,ad⟩,aa⟩)⟩
  ·have ag:l<W0.heap.size:=(Array.getElem?_eq_some_iff.1 ab).1;have ac:d0<W0.heap.size:=(Array.getElem?_eq_some_iff.1 ad).1;have af:=(aa.block l ag).trans ab;have ah:=(aa.block d0 ac).trans ad;exact ⟨none,_,run_endLoop af (by intro h;cases h),hdone xs _ _ hS (hI _ _ _ _ _ hi (by omega) ab) (qbn aa _ _) (by rw [World.putObj_size];omega) (by rw [<-an];exact (World.putObj_heap_other (by omega)).trans ah)⟩
  ·have ag:l<W0.heap.size:=(Array.getElem?_eq_some_iff.1 ab).1;have ac:d0<W0.heap.size:=(Array.getElem?_eq_some_iff.1 ad).1;have af:=(aa.block l ag).trans ab;have ah:=(aa.block d0 ac).trans ad;exact ⟨some .ret,_,run_endLoop af (by intro h;cases h),hstop xs _ _ hS (hIx _ _ _ _ _ hi (by omega) ab) (qbn aa _ _) (by rw [World.putObj_size];omega) (by rw [<-an];exact (World.putObj_heap_other (by omega)).trans ah)⟩
end
end Go.Proofs.YtnkelahimiipjaaGreatDoor
namespace Go.Proofs.YtnkelahimiipjaaGreatDoor
open Go.RowKit Go.Sort
attribute [local go_sem] Oper.semAt_some
def encN (x:Int×Int):Array Value:= #[.int .i64 x.1,.int .i64 x.2]
def NewN (b:List Nat) (pre:List (Int×Int)) (_ _:World) (x:Int×Int):Prop:=(qac pre.length b).1=0∧x=numX b pre.length
def ktN (t:TypeId):Bool:=t==2 || t==73
def Flat (v:Value):Prop:=∀a n c,v=.slice (some a) n c->∃g o,a=⟨g,o,none⟩
theorem qhg (Z n Bb:Nat) (bv:Value) (b:List Nat) (w:World) (hn:8<=n) (hBb:w.heap[Bb]? =some (.cells #[bv] 23 (0,0))) (hZ:Z<=w.heap.size) (hR:RdG EB w Z bv b) (hF:Flat bv) (h8:∀c ∈ b,c<256) (hb:b.length<=1000000000):
  qjD ktN Z Fence.wide n Tryz.prog 119 #[.pointer (some ⟨Bb,0,none⟩)] encN (NewN b) (fun xs=>(qac xs.length b).1≠0) (fun _=>True) (b.length+1) w:=by
 intro lp J Jx W hW hY h0;have ay:Bb<w.heap.size:=(Array.getElem?_eq_some_iff.1 hBb).1;have ax:W.heap[Bb]? =some (.cells #[bv] 23 (0,0)):=(hW.block _ ay).trans hBb;have ap:RdG EB W Z bv b:=hR.below (hW.mono hZ);have HZ:Hid (Z<=W.heap.size):=Nat.le_trans hZ hW.size;obtain ⟨N,hN⟩:∃N,N=b.length:=⟨_,rfl⟩;obtain ⟨A,c,rfl,hc,a0,_⟩:=id ap;rw [<-hN] at ax ap hc hb hF;have HR:=Lib.hid ap;have HY:=Lib.hid hY;have HN:=Lib.hid hN;have H8:=Lib.hid h8;have HF:=Lib.hid hF;have HC:=Lib.hid hc;have a2:=Lib.hid a0;have a1:Hid (W.heap[Bb]? =some (.cells #[.slice A N c] 23 (0,0))):=ax;have h1:1<=n:=by omega
 have a9:Fence.wide.fn 103:=trivial;have ba:Fence.wide.fn 120:=trivial;clear hY hW ap hBb hR hF hZ a0 h8 hN ay ax;refine callsIn_of_wp Tryz.func119 rfl trivial ?_ rfl;simp only [Tryz.ntmps119,List.size_toArray,List.length_cons,List.length_nil,Nat.reduceAdd,Nat.reduceSub,Array.replicate_succ,Array.replicate_zero,List.push_toArray,List.append_toArray,List.nil_append,List.cons_append];gi_wp2_with fail
 gi_loopw [3,4,5,6] (fun tv _ _ _ wl=>∃(t:Nat) (pre:List (Int×Int)) (W0:World),tv=.int .i64 (t:Int)∧t<=N∧Hid (t=atV pre.length b)∧Hid ((qac pre.length b).1=0)∧Hid (J pre W0)∧Hid (Below W0.heap.size W0 wl)∧Hid (wl.heap[Bb]? =some (.cells #[.slice A N c] 23 (0,0)))∧Hid (Below Z W wl))
  (fun tv _ _ _ _=>N-(intOf tv).toNat)
 case atStart=>exact ⟨0,[],W,rfl,Nat.zero_le _,by show 0=atV 0 b;unfold atV qac;simp,rfl,h0,Below.refl _ _,a1.out,Below.refl _ _⟩
 case round =>
  obtain ⟨t,pre,W0,rfl,ht,HT,ao,HJ,a6,au,aq⟩:=hrel;have c0:wr.cell? ⟨Bb,0,none⟩=some (.slice A N c):=by simp [World.cell?,au.out]
  obtain ⟨r,hr⟩:∃r,r=qab (b.drop t):=⟨_,rfl⟩;have aa:=qig ao.out;rw [<-HT.out,<-hr] at aa;have an:pre.length<b.length+1:=by have :=(qan _ _ ao.out).1;have :=(qan _ _ ao.out).2.1;omega
  have ae:∀x,x=numX b pre.length->YieldAt Fence.wide (n-1) Tryz.prog lp (encN x) wr fun e W'=>(e=.returned (.bool true)∧J (pre++[x]) W'∧KpU ktN Z wr W')∨(e=.returned (.bool false)∧Jx (pre++[x]) W'):=
   fun x hx=>HY.out pre x W0 wr HJ.out an a6.out ⟨ao.out,hx⟩
  have ak:Hid (∀q,RdG EB wr wr.heap.size q (b.drop t)->CallsIn Fence.wide (n-1) Tryz.prog 103 #[q] wr fun e w'=>e=.returned (.tuple #[.int .u64 (r.2.1:Int),.int .i64 (r.2.2:Int),.int .i64 r.1])∧w'=wr):=fun q hq=>callsIn_wide.2 (by
   rw [hr];exact qe9 q (b.drop t) wr hq (fun c hc=>H8.out c (List.mem_of_mem_drop hc)))
  have a3:Hid (RdG EB wr wr.heap.size (.slice A N c) b):=(HR.out.below aq.out).mono (Nat.le_trans HZ.out aq.out.size);have ai:r.2.1<18446744073709551616:=by rw [hr];exact qhI _
  have ac:Hid (∀x:Int×Int,(pre++[x]).length=pre.length+1):=fun x=>by simp
  have az:=Lib.hid (qan (pre.length+1) b);clear hr;obtain ⟨er,u,kk⟩:=r;simp only at aa ak ai;have a5:(c=t∧Hid (RdG EB wr wr.heap.size (.slice A 0 0) (b.drop t)))∨(t<c∧∃g o,A=some ⟨g,o,none⟩∧Hid (RdG EB wr wr.heap.size (.slice (some ⟨g,o+t,none⟩) (N-t) (c-t)) (b.drop t))):=by
   have a8:=HC.out;by_cases av:c=t
   ·left;have e:b.drop t=[]:=List.drop_eq_nil_of_le (by rw [<-HN.out];omega);exact ⟨av,by show RdG _ _ _ _ _;rw [e];exact ⟨A,0,rfl,Nat.le_refl _,fun _=>rfl,.inl rfl⟩⟩
   ·right;refine ⟨by omega, ?_⟩;cases hA:A with
    |none=>have :=a2.out hA;omega
    | some a =>
      obtain ⟨g,o,e⟩:=HF.out a N c (by rw [hA]);subst e;have h:=a3.out;rw [hA] at h;have h2:=h.cutFrom HN.out ht;rw [show t*EB.k=t from Nat.mul_one t] at h2;exact ⟨g,o,rfl,h2⟩
  rcases a5 with ⟨av,am⟩|⟨av,g,o,hA,am⟩
  ·have a7:N=t:=(by have :=HC.out;omega);have K1:=Lib.hid (ak.out _ am.out);clear am ak;rcases aa with ⟨h1,h2,h3,h4,h5,h6⟩|⟨h1,h2,h3,h4,h5,h6⟩
   ·subst h1;obtain ⟨zz,ah⟩:∃z,z=zagV u:=⟨_,rfl⟩;have aw:Hid (atV (pre.length+1) b=t+kk):=h6;have af:Hid ((qac (pre.length+1) b).1=0):=h3;have al:=az.out h3;rw [h6] at h2 al;have ar:t+kk<=N:=(by rw [HN.out];omega);have hx:((zz,(t:Int)+(kk:Int)):Int×Int)=numX b pre.length:=(by rw [h2,ah];simp);obtain ⟨fn,tmps,assign,body,hy,ad⟩:=ae _ hx;have aj:=Lib.hid ad;have KZ:Hid (CallsIn Fence.wide (n-1) Tryz.prog 120 #[.int .u64 (u:Int)] wr fun e w'=>e=.returned (.int .i64 zz)∧w'=wr):=callsIn_wide.2 (by rw [ah];exact qi0 u ai wr);dsimp only [encN] at hy;clear ad h6 h3 h2 h4 al hx ah ae ai an;gi_wp2_with fail;refine K1.out.mono ?_;rintro e w1 ⟨rfl,rfl⟩;gi_wp2_with fail;refine KZ.out.mono ?_;rintro e w2 ⟨rfl,rfl⟩;gi_wp2_with fail;refine aj.out.mono ?_;rintro e W3 (⟨rfl,ab,ag⟩|⟨rfl,ab⟩)
    ·gi_wp2_with fail;go_roundw
     case rel=>exact ⟨t+kk,pre++[_],W3,by first|rfl|go_num,ar,by show _=_;rw [ac.out,aw.out],by show _=_;rw [ac.out];exact af.out,ab,Below.refl _ _,ag.2 _ _ au.out rfl,aq.out.trans ag.1⟩
     case measure=>simp [intOf];omega
    ·gi_wp2_with fail;refine bodyPost_ret (results_none rfl _ _ _) rfl ?_;exact ⟨⟨_,rfl⟩,.inr ⟨_,W3,trivial,ab,Below.refl _ _⟩⟩
   ·have hx:((0, -er):Int×Int)=numX b pre.length:=h2.symm;have af:Hid ((qac (pre.length+1) b).1≠0):=(by show _≠_;rw [h3];exact h1);obtain ⟨fn,tmps,assign,body,hy,ad⟩:=ae _ hx;have aj:=Lib.hid ad;dsimp only [encN] at hy;have g:(er != 0)=true:=(by simp [h1]);clear ad h3 h2 h4 hx ae ai an h1;gi_wp2_with fail;refine K1.out.mono ?_;rintro e w1 ⟨rfl,rfl⟩;gi_wp2_with fail;refine aj.out.mono ?_;rintro e W3 (⟨rfl,ab,ag⟩|⟨rfl,ab⟩)
    ·gi_wp2_with fail;refine bodyPost_ret (results_none rfl _ _ _) rfl ?_;exact ⟨⟨_,rfl⟩,.inl ⟨_,W3,by rw [ac.out];exact af.out,ab,Below.refl _ _⟩⟩
    ·gi_wp2_with fail;refine bodyPost_ret (results_none rfl _ _ _) rfl ?_;exact ⟨⟨_,rfl⟩,.inr ⟨_,W3,trivial,ab,Below.refl _ _⟩⟩
  ·subst hA;have a4:t≠c:=(by omega);have K1:=Lib.hid (ak.out _ am.out);clear am ak;rcases aa with ⟨h1,h2,h3,h4,h5,h6⟩|⟨h1,h2,h3,h4,h5,h6⟩
   ·subst h1;obtain ⟨zz,ah⟩:∃z,z=zagV u:=⟨_,rfl⟩;have aw:Hid (atV (pre.length+1) b=t+kk):=h6;have af:Hid ((qac (pre.length+1) b).1=0):=h3;have al:=az.out h3;rw [h6] at h2 al;have ar:t+kk<=N:=(by rw [HN.out];omega);have hx:((zz,(t:Int)+(kk:Int)):Int×Int)=numX b pre.length:=(by rw [h2,ah];simp);obtain ⟨fn,tmps,assign,body,hy,ad⟩:=ae _ hx;have aj:=Lib.hid ad;have KZ:Hid (CallsIn Fence.wide (n-1) Tryz.prog 120 #[.int .u64 (u:Int)] wr fun e w'=>e=.returned (.int .i64 zz)∧w'=wr):=callsIn_wide.2 (by rw [ah];exact qi0 u ai wr);dsimp only [encN] at hy;clear ad h6 h3 h2 h4 al hx ah ae ai an;gi_wp2_with fail;refine K1.out.mono ?_;rintro e w1 ⟨rfl,rfl⟩;gi_wp2_with fail;refine KZ.out.mono ?_;rintro e w2 ⟨rfl,rfl⟩;gi_wp2_with fail;refine aj.out.mono ?_;rintro e W3 (⟨rfl,ab,ag⟩|⟨rfl,ab⟩)
    ·gi_wp2_with fail;go_roundw
     case rel=>exact ⟨t+kk,pre++[_],W3,by first|rfl|go_num,ar,by show _=_;rw [ac.out,aw.out],by show _=_;rw [ac.out];exact af.out,ab,Below.refl _ _,ag.2 _ _ au.out rfl,aq.out.trans ag.1⟩
     case measure=>simp [intOf];omega
    ·gi_wp2_with fail;refine bodyPost_ret (results_none rfl _ _ _) rfl ?_;exact ⟨⟨_,rfl⟩,.inr ⟨_,W3,trivial,ab,Below.refl _ _⟩⟩
   ·have hx:((0, -er):Int×Int)=numX b pre.length:=h2.symm;have af:Hid ((qac (pre.length+1) b).1≠0):=(by show _≠_;rw [h3];exact h1);obtain ⟨fn,tmps,assign,body,hy,ad⟩:=ae _ hx;have aj:=Lib.hid ad;dsimp only [encN] at hy;have g:(er != 0)=true:=(by simp [h1]);clear ad h3 h2 h4 hx ae ai an h1;gi_wp2_with fail;refine K1.out.mono ?_;rintro e w1 ⟨rfl,rfl⟩;gi_wp2_with fail;refine aj.out.mono ?_;rintro e W3 (⟨rfl,ab,ag⟩|⟨rfl,ab⟩)
    ·gi_wp2_with fail;refine bodyPost_ret (results_none rfl _ _ _) rfl ?_;exact ⟨⟨_,rfl⟩,.inl ⟨_,W3,by rw [ac.out];exact af.out,ab,Below.refl _ _⟩⟩
    ·gi_wp2_with fail;refine bodyPost_ret (results_none rfl _ _ _) rfl ?_;exact ⟨⟨_,rfl⟩,.inr ⟨_,W3,trivial,ab,Below.refl _ _⟩⟩
end Go.Proofs.YtnkelahimiipjaaGreatDoor
