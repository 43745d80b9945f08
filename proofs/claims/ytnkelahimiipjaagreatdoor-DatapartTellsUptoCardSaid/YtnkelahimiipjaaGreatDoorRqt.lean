import Derived.Test.YtnkelahimiipjaaGreatDoorProg
import Derived.Deep.Light
import Derived.Test.YtnkelahimiipjaaGreatDoorBaset
import Derived.Test.YtnkelahimiipjaaGreatDoorPat
import Derived.RangeFuncNested
import Derived.RangeFuncBound
import Derived.RangeFuncCalls
import Derived.RangeFuncLeaves
set_option maxRecDepth 100000
set_option maxHeartbeats 8000000
namespace Go.Proofs.YtnkelahimiipjaaGreatDoor
open Go.RowKit Go.Sort
theorem qbe (m x s:Int) (w:World):
  Calls Tryz.prog 93 #[.agg #[.int .i64 m,.int .i64 x,.int .i64 s]] w fun e w'=>e=.returned (.bool (qau m x s))∧Ext w w':=by
 go_enter Tryz.func93,Tryz.ntmps93
 go_wp2
 all_goals go_ret
 all_goals refine ⟨qao ?_,by repeat (first|exact Ext.refl _|apply Ext.drew|apply Ext.alloc)⟩
 all_goals (try simp only [qio] at *)
 all_goals (go_light;rw [Bool.eq_iff_iff];unfold qau;simp_all<;>first|omega|(rw [qio];omega))
theorem qbk (m x s:Int) (w:World):
  Calls Tryz.prog 125 #[.agg #[.int .i64 m,.int .i64 x,.int .i64 s]] w fun e w'=>e=.returned (.bool (qau m x s))∧Ext w w':=by
 go_enter Tryz.func125,Tryz.ntmps125
 go_wp2
 all_goals go_ret
 all_goals refine ⟨qao ?_,by repeat (first|exact Ext.refl _|apply Ext.drew|apply Ext.alloc)⟩
 all_goals (try simp only [qio] at *)
 all_goals (go_light;rw [Bool.eq_iff_iff];unfold qau;simp_all<;>first|omega|(rw [qio];omega))
end Go.Proofs.YtnkelahimiipjaaGreatDoor
namespace Go.Proofs.YtnkelahimiipjaaGreatDoor
open Go.RowKit
def qjP:Obj->Bool
 | .cells _ e _=>e != 62 && e != 22
 |_=>true
def qp6:Obj->Bool
 | .loop _=>false
 |o=>qjP o
theorem qkf {o:Obj} (h:qp6 o=true):qjP o=true:=by
 cases o<;>first|exact h|rfl
def KpB (B:Nat) (W W':World):Prop:=Below B W W'∧∀(k:Nat) (o:Obj),W.heap[k]? =some o->qjP o=true->W'.heap[k]? =some o
def KpO (B:Nat) (W W':World):Prop:=Below B W W'∧∀(k:Nat) (o:Obj),W.heap[k]? =some o->qp6 o=true->W'.heap[k]? =some o
theorem KpB.refl (B:Nat) (W:World):KpB B W W:=⟨Below.refl _ _,fun _ _ h _=>h⟩
theorem KpO.trans {Z:Nat} {A B C:World} (h:KpO Z A B) (k:KpO Z B C):KpO Z A C:=⟨h.1.trans k.1,fun i o hi ho=>k.2 i o (h.2 i o hi ho) ho⟩
theorem KpB.o {Z:Nat} {A B:World} (h:KpB Z A B):KpO Z A B:=⟨h.1,fun i o hi ho=>h.2 i o hi (qkf ho)⟩
theorem KpO.putLoop {Z:Nat} {W:World} {l:Nat} {r:Loop} (h:W.heap[l]? =some (.loop r)) (hl:Z<=l) (o':Obj):KpO Z W (W.putObj l o'):=
 ⟨⟨rfl, rfl, rfl, by simp, fun k hk => World.putObj_heap_other (by omega)⟩, fun k o hk ho => by
  by_cases e:k=l
  ·subst e;rw [h] at hk;cases hk;cases ho
  ·exact (World.putObj_heap_other e).trans hk⟩
theorem qbn {A B:World} (h:Below A.heap.size A B) (l:Nat) (o:Obj):Below (A.putObj l o).heap.size (A.putObj l o) (B.putObj l o):=
 ⟨h.os, h.tape, h.output, by rw [World.putObj_size, World.putObj_size]; exact h.size, fun k hk => by
  rw [World.putObj_size] at hk;by_cases e:k=l
  ·subst e;rw [World.putObj_heap_same hk,World.putObj_heap_same (Nat.lt_of_lt_of_le hk h.size)]
  ·rw [World.putObj_heap_other e,World.putObj_heap_other e];exact h.block k hk⟩
def qn8 {α :Type} (Z:Nat) (F:Fence) (n:Nat) (P:Program) (g:Nat) (lb:Array Value) (encs: α ->Array Value) (New:World->World-> α ->Prop) (S:List α ->Prop) (N:Nat) (w:World):Prop:=
 ∀(l:Nat) (J:List α ->World->Prop) (W:World),Below w.heap.size w W->
  (∀pre x W0 W1,J pre W0->pre.length<N->Below W0.heap.size W0 W1->New W0 W1 x->YieldAt F (n-1) P l (encs x) W1 fun e W'=>e=.returned (.bool true)∧J (pre++[x]) W'∧KpO Z W1 W')->
  J [] W->
  CallsIn F n P g (#[.func (.yield l) #[] #[]]++lb) W fun e W'=>(∃v,e=.returned v)∧∃xs W0,S xs∧J xs W0∧Below W0.heap.size W0 W'
theorem qnw {α :Type} {Z:Nat} {F:Fence} {n:Nat} {P:Program} {g:Operand} {ps:Array Tmp} {assign body:Code} {Q:Exit->Act->World->Prop} {a:Act} {w:World}
  (hro:F.round=none) (h1:1<=n) {gf:Nat} {lb:Array Value} (hg:a.eval g=.func (.func gf) #[] lb) (hFg:F.fn gf) (eg:∀args w,(callFunc gf args).run P w=.ok (.enter gf args) w)
  {encs: α ->Array Value} {New:World->World-> α ->Prop} {S:List α ->Prop} {N:Nat} {w0:World} (hZ:Z<=w.heap.size) (hseq:qn8 Z F (n-1) P gf lb encs New S N w0) (hb0:Below w0.heap.size w0 w) (hps:∀x,(encs x).size=ps.size)
  (hNew:∀A B x l o,New A B x->l<A.heap.size->New (A.putObj l o) (B.putObj l o) x)
  (I:List α ->World->Prop) (hI:∀s A l r o,I s A->w.heap.size<l->A.heap[l]? =some (.loop r)->I s (A.putObj l o)) (h0:∀B,Below w.heap.size w B->I [] B) (a₁: α ->Act)
  (hassign:∀(l:Nat) (x: α) (W:World) (K:Act->World->Prop),K (a₁ x) W->
    assign.wpIn (F.inRound l) (n-1-1) P (Exit.then K (fun _ _ _=>False)) { tmps:=(ps.zip (encs x)).foldl (fun t (p,v)=>t.setIfInBounds p v) a.tmps,defers:=[] } W)
  (hbody:∀(l:Nat) (pre:List α) (x: α) (W0 W1:World),w.heap.size<l->l<W0.heap.size->I pre W0->pre.length<N->Below W0.heap.size W0 W1->New W0 W1 x->
    body.wpIn (F.inRound l) (n-1-1) P (fun e _ W'=>e=.normal∧KpB Z W1 W'∧I (pre++[x]) W') (a₁ x) W1)
  (hdone:∀(xs:List α) (W0 W:World),S xs->I xs W0->Below W0.heap.size W0 W->w.heap.size<W0.heap.size->W.heap[w.heap.size]? =some (.deferred (some []))->Q .normal { a with defers:= { target:=.collected w.heap.size,args:= #[] }::a.defers } W):
  (Code.rangeFunc g ps assign body).wpIn F n P Q a w:=by
 refine wpIn_rangeFunc fun fn aw=> ?_;rw [hro]
 let rec0:LoopState->Loop:=fun st=> { state:=st,pending:=none,fn,tmps:=a.tmps,params:=ps,assign,body,defers:=w.heap.size }
 obtain ⟨d0,an⟩:∃d,d=w.heap.size:=⟨_,rfl⟩;obtain ⟨l,hl⟩:∃l,l=w.heap.size+1:=⟨_,rfl⟩;obtain ⟨W1,ag⟩:∃W1,W1=(w.alloc (.deferred (some []))).alloc (.loop (rec0 .ready)):=⟨_,rfl⟩;have av:W1.heap[l]? =some (.loop (rec0 .ready)):=by
  have :=World.alloc_heap_new (w.alloc (.deferred (some []))) (.loop (rec0 .ready));rw [World.size_alloc] at this;rw [ag,hl];exact this
 have au:W1.heap[d0]? =some (.deferred (some [])):=by
  rw [ag,an];exact (Below.heap_alloc _ _ _ (by simp)).trans (World.alloc_heap_new w _)
 have al:Below w.heap.size w W1:=by
  rw [ag];exact ((Below.refl _ w).alloc (Nat.le_refl _) _).alloc (by simp) _
 refine ⟨w.heap.size+1,[{ target:=.collected w.heap.size,args:= #[] }],W1, { target:=.fn (.func gf) lb,args:= #[.func (.yield (w.heap.size+1)) #[] #[]] },W1,gf,
  #[.func (.yield (w.heap.size+1)) #[] #[]]++lb,W1,by rw [ag];exact run_enterLoop_outer _ _ _ _ _,by simp only [resolve,hg];simp [go_sem],fun f' am=>by simp [Target.leads] at am;subst am;exact hFg,by simp [invoke,go_sem,eg],fun _=>h1, ?_⟩
 rw [<-hl];refine (hseq l (fun pre W=>I pre W∧W.heap[l]? =some (.loop (rec0 .ready))∧W.heap[d0]? =some (.deferred (some []))) W1 (hb0.trans (al.mono hb0.size)) ?_ ⟨h0 _ al,av,au⟩).mono ?_
 ·rintro pre x W0 Wb ⟨hi,ab,ae⟩ ap aa ai;have af:l<W0.heap.size:=(Array.getElem?_eq_some_iff.1 ab).1;have ac:d0<W0.heap.size:=(Array.getElem?_eq_some_iff.1 ae).1;have ad:Wb.heap[l]? =some (.loop (rec0 .ready)):=(aa.block l af).trans ab;have aj:Wb.heap[d0]? =some (.deferred (some [])):=(aa.block d0 ac).trans ae;have hy:=run_yield (P:=P) (args:=encs x) ad (hps x);refine ⟨fn,_,assign,body,hy,roundIn_of_wpIn aw (hassign l x Wb _ ⟨_,run_beginRound ad rfl, ?_⟩)⟩;have ak:d0≠l:=by omega
  have aq:(Wb.putObj l (.loop (rec0 .busy))).heap[l]? =some (.loop (rec0 .busy)):=World.putObj_heap_same (Array.getElem?_eq_some_iff.1 ad).1;have ao:(Wb.putObj l (.loop (rec0 .busy))).heap[d0]? =some (.deferred (some [])):=(World.putObj_heap_other ak).trans aj;refine wpIn_mono (hbody l pre x (W0.putObj l (.loop (rec0 .busy))) _ (by omega) (by rw [World.putObj_size];exact af) (hI _ _ _ _ _ hi (by omega) ab) ap (qbn aa _ _) (hNew _ _ _ _ _ ai af)) ?_;rintro e a3 W3 ⟨rfl,hk,ax⟩;have ah:=hk.2 _ _ aq rfl;have ar:=hk.2 _ _ ao rfl;refine ⟨_,_,run_endRound none ah,rfl,⟨hI _ _ _ _ _ ax (by omega) ah,World.putObj_heap_same (Array.getElem?_eq_some_iff.1 ah).1,(World.putObj_heap_other ak).trans ar⟩,((KpO.putLoop ad (by omega) _).trans hk.o).trans (KpO.putLoop ah (by omega) _)⟩
 ·rintro e W2 ⟨⟨v,rfl⟩,xs,W0,hS,⟨hi,ab,ae⟩,aa⟩;have af:l<W0.heap.size:=(Array.getElem?_eq_some_iff.1 ab).1;have ac:d0<W0.heap.size:=(Array.getElem?_eq_some_iff.1 ae).1;have ad:=(aa.block l af).trans ab;have aj:=(aa.block d0 ac).trans ae;exact ⟨none,_,run_endLoop ad (by intro h;cases h),hdone xs _ _ hS (hI _ _ _ _ _ hi (by omega) ab) (qbn aa _ _) (by rw [World.putObj_size];omega) (by rw [<-an];exact (World.putObj_heap_other (by omega)).trans aj)⟩
end Go.Proofs.YtnkelahimiipjaaGreatDoor
