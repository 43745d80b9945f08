/-
 append of a row inside a fence; what lies above stays where what lies below turns.
-/
import Derived.Test.YtnkelahimiipjaaGreatDoorCqt
import Derived.Test.YtnkelahimiipjaaGreatDoorCct
import Derived.OrdersIn
import Derived.TacticsIn
namespace Go.Proofs.YtnkelahimiipjaaGreatDoor
open Go.RowKit Go.Sort
section
variable {α :Type} {P:Program} {F:Fence} {nF:Nat} {w:World} {ops:Array Oper} {rest:List Oper} {o:Oper} {a:Act} {Q:Exit->Act->World->Prop}
theorem qnW (E:Enc α) (hgd:o.guard=none) (s x:Operand) (t e:TypeId) {z:Value} {bytes:Nat}
  (ho:o.op=.call { callee:=.builtin .append,args:= #[s,x],argTypes:= #[t,t] }) (ht:P.underlying t=some (.slice e))
  (hinf:(P.info? e).map (fun i=>(i.zero,i.size,i.bytes))=some (some z,E.k,bytes)) (hz:z.cells.size=E.k) (hb:0<bytes)
  (base:Nat) (v:Value) (l:List α) (xv:Value) (l2:List α) (B:Nat) (hs:a.eval s=v) (hown:OwnG E e w base v l) (hx:a.eval x=xv) (hR:RdG E w B xv l2) (hne:l2≠ [])
  (hl:(l.length+l2.length)*bytes<=140737488355328) (hbase:base<=w.heap.size)
  (h:∀v' w',OwnG E e w' base v' (l++l2)->w.grownBy w' v.ownBlock->(v'.ownBlock=v.ownBlock∨v'.ownBlock=some w.heap.size)->wpListIn F nF P ops Q rest (a.put o.dst v') w'):
  wpListIn F nF P ops Q (o::rest) a w:=by
 obtain ⟨i,hi,ac,ad,aa⟩:=qbz hinf;obtain ⟨A,c,rfl,hc,ae,hA⟩:=hR;rcases hA with h0|⟨b,off,rfl,_,ab⟩
 ·exact absurd h0 hne
 have hm:l.length+l2.length<=maxLen:=by
  have :=Nat.le_mul_of_pos_right (l.length+l2.length) hb;have e:maxLen=9223372036854775807:=rfl;omega
 refine wpListIn_append_own_at w hgd s x t ho base e i _ E.k bytes ht hi ac ad aa hz E.pos v l.length (E.flat l) hs hown ⟨b,off,none⟩ l2.length c (E.flat l2) hx (E.flat_len l2) (qcD ab) (E.flat_cell l2) hm hl hbase (fun v' w' h1 h2 _ h4=> ?_);refine h v' w' ?_ h2 h4;unfold OwnG;rw [E.flat_app,List.length_append];exact h1
theorem OwnG.putLow {E:Enc α} {ty:TypeId} {w:World} {base:Nat} {v:Value} {l:List α} (h:OwnG E ty w base v l) {k:Nat} (hk:k<base) (o:Obj):OwnG E ty (w.putObj k o) base v l:=by
 refine ⟨h.1,h.2.imp id ?_⟩;rintro ⟨g,cap,cur,e,hb,hg,h1⟩;exact ⟨g,cap,cur,e,hb,(World.putObj_heap_other (by omega)).trans hg,h1⟩
end
theorem qcV {α :Type} {P:Program} {F:Fence} {nF:Nat} {w:World} {ops:Array Oper} {o:Oper} {a:Act} {K:Act->World->Prop} {Q:Exit->Act->World->Prop} (hro:F.round=none) (E:Enc α) (hgd:o.guard=none) (s x:Operand) (t e:TypeId) {z:Value} {bytes:Nat}
  (ho:o.op=.call { callee:=.builtin .append,args:= #[s,x],argTypes:= #[t,t] }) (ht:P.underlying t=some (.slice e))
  (hinf:(P.info? e).map (fun i=>(i.zero,i.size,i.bytes))=some (some z,E.k,bytes)) (hz:z.cells.size=E.k) (hb:0<bytes)
  (base:Nat) (v:Value) (l:List α) (xv:Value) (l2:List α) (B:Nat) (hs:a.eval s=v) (hown:OwnG E e w base v l) (hx:a.eval x=xv) (hR:RdG E w B xv l2) (hne:l2≠ [])
  (hl:(l.length+l2.length)*bytes<=140737488355328) (hbase:base<=w.heap.size)
  (h:∀v' w',OwnG E e w' base v' (l++l2)->w.grownBy w' v.ownBlock->(v'.ownBlock=v.ownBlock∨v'.ownBlock=some w.heap.size)->K (a.put o.dst v') w'):
  if Region.wanted o (yielded ops a.tmps)=true then Oper.wpIn F nF P o a w K Q else (∀f,o.about P w a.eval=some f->F.fn f)∧K (a.put o.dst undef) w:=by
 have hw:Region.wanted o (yielded ops a.tmps)=true:=by simp [Region.wanted,hgd]
 rw [if_pos hw];obtain ⟨i,hi,ac,ad,aa⟩:=qbz hinf;obtain ⟨A,c,rfl,hc,ae,hA⟩:=hR;rcases hA with h0|⟨b,off,rfl,_,ab⟩
 ·exact absurd h0 hne
 have hm:l.length+l2.length<=maxLen:=by
  have :=Nat.le_mul_of_pos_right (l.length+l2.length) hb;have e:maxLen=9223372036854775807:=rfl;omega
 obtain ⟨v',w',hr,h2,h3,_,h5⟩:=run_append_own_at (P:=P) w base t o.type e i _ E.k bytes ht hi ac ad aa hz E.pos v l.length (E.flat l) hown ⟨b,off,none⟩ l2.length c (E.flat l2) (E.flat_len l2) (qcD ab) (E.flat_cell l2) hm hl hbase;unfold Oper.wpIn;rw [hro,Oper.semAt_none];refine ⟨fun f hf=> ?_, ?_⟩
 ·unfold Oper.about at hf;simp [ho,resolve,Target.leads] at hf
 ·unfold execOp;simp only [ho,resolve,invoke,builtin,Sem.run_bind,Sem.run_pure,Result.andThen_ok,List.map_toArray,List.map_cons,List.map_nil,hs,hx,hr];refine h v' w' ?_ h3 h5;unfold OwnG;rw [E.flat_app,List.length_append];exact h2
theorem OwnG.other {α β :Type} {E:Enc α} {E2:Enc β} {ty ty2:TypeId} {w:World} {base base2:Nat} {v v2:Value} {l:List α} {l2:List β} (h:OwnG E ty w base v l) (h2:OwnG E2 ty2 w base2 v2 l2) (hne:ty≠ty2):v.ownBlock=none∨v.ownBlock≠v2.ownBlock:=by
 cases e:v.ownBlock with
 |none=>exact .inl rfl
 | some k =>
   refine .inr fun e2=>hne ?_;obtain ⟨_,c,z,h3⟩:=h.cellsAt k e;obtain ⟨_,c',z',h4⟩:=h2.cellsAt k e2.symm;rw [h3] at h4;cases h4;rfl
end Go.Proofs.YtnkelahimiipjaaGreatDoor
namespace Go.Proofs.YtnkelahimiipjaaGreatDoor
section
variable {F:Fence} {n:Nat} {P:Program} {ops:Array Oper} {Q:Exit->Act->World->Prop} {md:Region.Mode}
def qcC (md:Region.Mode) (ops:Array Oper) (i:Nat):List Nat:=
 match ops[i]? with
 |none=>[]
 |some o=>(o.after.toList.filter fun e=>Region.binds md e).map fun e=>e.on
def qiV (md:Region.Mode) (ops:Array Oper):Nat->Nat->Nat->Bool
 |0,_,_=>false
 |f+1,i,j=>(qcC md ops j).any fun p=>p==i || qiV md ops f i p
def qfU (md:Region.Mode) (ops:Array Oper) (L0:Array Bool) (D:List Nat):Bool:=
 Region.noSelect ops && (decide D.Nodup && (decide (L0.size=ops.size) && (D.all (fun i=> !L0.getD i true) &&
 ((List.range ops.size).all (fun j=> !L0.getD j false || (qcC md ops j).all fun p=>L0.getD p false) &&
 (D.all (fun i=>(qcC md ops i).all fun p=>decide (p<i) && (D.contains p || L0.getD p false)) &&
 (D.all (fun i=>D.all fun j=>match (ops[j]?).bind (fun o=>o.dst),ops[i]? with
   |some t,some o=> !(o.looksAt ops).contains t || (qcC md ops i).contains j
   |_,_=>true) &&
 (List.range ops.size).all fun j=>L0.getD j true || (D.contains j || D.all fun i=>qiV md ops ops.size i j)))))))
def qc2 (ops:Array Oper):Bool:=ops.all fun o=>match o.op with | .defer .. =>false|_=>true
theorem qcx (h:qc2 ops=true) {j:Nat} {o:Oper} (ho:ops[j]? =some o):∀c,o.op≠ .defer c:=by
 intro c aa;have :=Array.all_eq_true_iff_forall_mem.1 h o (Array.mem_of_getElem? ho);simp [aa] at this
theorem qmn {o:Oper} {a A:Act} (hs:∀cs b,o.op≠ .select cs b) (h:∀t ∈ o.looksAt ops,a.tmps[t]? =A.tmps[t]?):
  execOp a.eval o=execOp A.eval o∧Region.wanted o (yielded ops a.tmps)=Region.wanted o (yielded ops A.tmps)∧∀w,o.about P w a.eval=o.about P w A.eval:=by
 have hx:∀x ∈ o.op.operands,a.eval x=A.eval x:=fun x hx=>by
  cases x with
  | tmp t =>
    have :=h t (List.mem_append_left _ (List.mem_filterMap.2 ⟨.tmp t,by simpa using hx,rfl⟩));simp [Act.eval,this]
  |_=>rfl
 refine ⟨execOp_congr o hs hx, ?_,fun w=>about_congr o w hx⟩;unfold Region.wanted;cases hg:o.guard with
 |none=>rfl
 | some gw =>
   obtain ⟨g,want⟩:=gw;have e:yielded ops a.tmps g=yielded ops A.tmps g:=by
    unfold yielded;cases ht:(ops[g]?).bind (fun o=>o.dst) with
    |none=>rfl
    | some t =>
      have :=h t (by simp [Oper.looksAt,hg,ht]);simp [this]
   simp only [e]
theorem qqm {o:Oper} {a A:Act} {w:World} {S:World->Prop} (hro:∀c,o.op≠ .defer c) (he:execOp a.eval o=execOp A.eval o) (hab:o.about P w a.eval=o.about P w A.eval)
  {K:Act->World->Prop} (h:Oper.wpIn F n P o A w (fun a' w'=>a'=A∧S w') (fun _ _ _=>False))
  (hK:∀v w',A.put o.dst v=A->S w'->K (a.put o.dst v) w'):Oper.wpIn F n P o a w K Q:=by
 unfold Oper.wpIn at *;rw [hab];refine ⟨h.1, ?_⟩;have h:=h.2;rw [Oper.semAt_eq _ _ _ hro] at h ⊢;rw [he];generalize (execOp A.eval o).run P w=r at *;cases r with
 | ok x w' =>
   cases x<;>simp only [Oper.uponIn] at h ⊢
   case value u=>exact hK u w' h.1 h.2
   case skip=>exact hK undef w' h.1 h.2
   case defer d=>
    exfalso;have h1:=congrArg Act.defers h.1;have h3:(({ A with defers:=d::A.defers }:Act).put o.dst undef).defers=d::A.defers:=by
     generalize o.dst=t;cases t<;>rfl
    rw [h3] at h1;exact absurd h1 (List.cons_ne_self _ _)
   case enter f args=>exact ⟨h.1,CallsIn.mono h.2 fun e w'' he=>by
    cases e with
    |returned u=>exact hK u w'' he.1 he.2
    |panicked c=>exact he.elim
    |outgrown=>obtain ⟨_,_,hf⟩:=he;exact hf.elim⟩
   case row row args=>exact ⟨h.1,RowsIn.mono h.2 fun u w'' he=>hK u w'' he.1 he.2⟩
   case round l f tmps assign body=>exact ⟨h.1,RoundIn.mono h.2 fun e w'' he=>by
    cases e with
    |returned u=>exact hK u w'' he.1 he.2
    |panicked c=>exact he.elim
    |outgrown=>obtain ⟨_,_,hf⟩:=he;exact hf.elim⟩
 |halt x w'=>cases x<;>exact absurd h (by simp [Oper.uponIn])
theorem qpK:∀(D:List Nat) (L:Array Bool) (k:Nat),(D.foldl (fun l i=>l.setIfInBounds i true) L)[k]? =if k ∈ D∧k<L.size then some true else L[k]?
 | [],L,k=>by simp
 | i :: D, L, k => by
   rw [List.foldl_cons,qpK D,Array.size_setIfInBounds,Array.getElem?_setIfInBounds];by_cases h1:k ∈ D∧k<L.size
   ·rw [if_pos h1,if_pos ⟨List.mem_cons_of_mem _ h1.1,h1.2⟩]
   ·rw [if_neg h1];by_cases h2:i=k
    ·subst h2;by_cases h3:i<L.size
     ·rw [if_pos rfl,if_pos h3,if_pos ⟨List.mem_cons_self,h3⟩]
     ·rw [if_pos rfl,if_neg h3,if_neg (fun e=>h3 e.2),Array.getElem?_eq_none (by omega)]
    ·rw [if_neg h2,if_neg];rintro ⟨h3,h4⟩;rcases List.mem_cons.1 h3 with h3|h3
     ·exact h2 h3.symm
     ·exact h1 ⟨h3,h4⟩
structure InvQ (md:Region.Mode) (ops:Array Oper) (L0:Array Bool) (D:List Nat) (A:Act) (listed:Array Bool) (a:Act):Prop where
 size:listed.size=L0.size
 far:∀k,k ∉ D->listed[k]? =L0[k]?
 closed:∀k,listed.getD k false=true->∀p ∈ qcC md ops k,listed.getD p false=true
 tsize:a.tmps.size=A.tmps.size
 defers:a.defers=A.defers
 tmps:∀d,a.tmps[d]? =A.tmps[d]? ∨∃i ∈ D,listed.getD i true=false∧(ops[i]?).bind (fun o=>o.dst)=some d
theorem qfq {j p:Nat} {o:Oper} (ho:ops[j]? =some o):p ∈ qcC md ops j↔ ∃e ∈ o.after,Region.binds md e=true∧e.on=p:=by
 unfold qcC;rw [ho];simp only [List.mem_map,List.mem_filter,Array.mem_toList_iff];constructor
 ·rintro ⟨e,⟨h1,h2⟩,h3⟩;exact ⟨e,h1,h2,h3⟩
 ·rintro ⟨e,h1,h2,h3⟩;exact ⟨e,⟨h1,h2⟩,h3⟩
theorem qek {j:Nat} {listed:Array Bool}:j ∈ Region.ready md ops listed↔listed.getD j true=false∧j<ops.size∧∀p ∈ qcC md ops j,listed.getD p false=true:=by
 rw [mem_ready];constructor
 ·rintro ⟨h0,o,ho,h⟩;refine ⟨h0,(Array.getElem?_eq_some_iff.1 ho).1,fun p hp=> ?_⟩;obtain ⟨e,h1,h2,h3⟩:=(qfq ho).1 hp;rw [<-h3];exact h e h1 h2
 ·rintro ⟨h0,h1,h⟩;exact ⟨h0,ops[j],Array.getElem?_eq_getElem h1,fun e he hb=>h _ ((qfq (Array.getElem?_eq_getElem h1)).2 ⟨e,he,hb,rfl⟩)⟩
theorem qdI {listed:Array Bool} (hc:∀k,listed.getD k false=true->∀p ∈ qcC md ops k,listed.getD p false=true) {i:Nat}:
  ∀(f j:Nat),(∀p ∈ qcC md ops j,listed.getD p false=true)->qiV md ops f i j=true->listed.getD i false=true
 |0,_,_,h=>by cases h
 | f + 1, j, hj, h => by
   unfold qiV at h;obtain ⟨p,hp,h⟩:=List.any_eq_true.1 h;rcases Bool.or_eq_true_iff.1 h with h|h
   ·rw [<-beq_iff_eq.1 h];exact hj p hp
   ·exact qdI hc f p (hc p (hj p hp)) h
theorem qhs {l:Array Bool} {k:Nat} (h:l.getD k true=false):l.getD k false=false:=by
 by_cases hk:k<l.size
 ·simp [hk] at h ⊢;exact h
 ·simp [Array.getElem?_eq_none (Nat.le_of_not_lt hk)] at h
theorem qnh {l:Array Bool} {k:Nat} (h:¬l.getD k true=false) (hk:k<l.size):l.getD k false=true:=by
 simp [hk] at h ⊢;exact h
theorem qeI (hro : qc2 ops = true) {L0 : Array Bool} {D : List Nat} (hchk : qfU md ops L0 D = true) (S : World -> Prop) (A : Act)
  (hq:∀i ∈ D,∀o,ops[i]? =some o->∀(w:World) (K':Act->World->Prop),S w->(∀w',S w'->K' A w')->if Region.wanted o (yielded ops A.tmps)=true then Oper.wpIn F n P o A w K' (fun _ _ _=>False) else (∀f,o.about P w A.eval=some f->F.fn f)∧K' (A.put o.dst undef) w)
  (fuel:Nat) (hfin:∀w,S w->wpAnyIn F n P md ops Q fuel (D.foldl (fun l i=>l.setIfInBounds i true) L0) A w):
  ∀(m:Nat) (listed:Array Bool) (a:Act) (w:World),InvQ md ops L0 D A listed a->(D.filter fun i=> !listed.getD i true).length=m->S w->wpAnyIn F n P md ops Q (m+fuel) listed a w:=by
 unfold qfU at hchk;simp only [Bool.and_eq_true,decide_eq_true_eq,List.all_eq_true,List.mem_range] at hchk;obtain ⟨aj,aw,a0,ax,a1,az,au,ap⟩:=hchk;have ak:∀i ∈ D,i<ops.size:=fun i hi=>by
  have h:=ax i hi;rcases Nat.lt_or_ge i L0.size with h1|h1
  ·omega
  ·simp [Array.getElem?_eq_none h1] at h
 intro m
 induction m with
 | zero =>
   intro listed a w hI hm hS;have aa:∀i ∈ D,listed.getD i true=true:=fun i hi=>by
    have h0:=List.eq_nil_of_length_eq_zero hm;cases h:listed.getD i true with
    |true=>rfl
    | false =>
      have :i ∈ D.filter fun i=> !listed.getD i true:=List.mem_filter.2 ⟨hi,by rw [h];rfl⟩;rw [h0] at this;cases this
   have ha:a=A:=by
    obtain ⟨t,d⟩:=a;obtain ⟨T,E⟩:=A;have h1:t=T:=Array.ext_getElem? fun k=>by
     rcases hI.tmps k with h|⟨i,hi,h2,_⟩
     ·exact h
     ·rw [aa i hi] at h2;cases h2
    have h2:d=E:=hI.defers;rw [h1,h2]
   have hl:listed=D.foldl (fun l i=>l.setIfInBounds i true) L0:=Array.ext_getElem? fun k=>by
    rw [qpK];by_cases hk:k ∈ D
    ·have an:k<L0.size:=(by have :=ak k hk;omega);have h1:=aa k hk;rw [if_pos ⟨hk,an⟩];have ah:k<listed.size:=(by rw [hI.size];exact an);simp [ah] at h1 ⊢;exact h1
    ·rw [if_neg (fun e=>hk e.1)];exact hI.far k hk
   rw [Nat.zero_add,ha,hl];exact hfin w hS
 | succ m ih =>
   intro listed a w hI hm hS;rw [Nat.succ_add];obtain ⟨u,hu⟩:∃u,u ∈ D.filter fun i=> !listed.getD i true:=List.exists_mem_of_length_pos (by omega);obtain ⟨ao,ag⟩:=List.mem_filter.1 hu;have ag:listed.getD u true=false:=by simpa using ag
   have ad : ∀ i, i ∈ D -> listed.getD i true = false -> ∃ r, r ∈ Region.ready md ops listed := by
    intro i
    induction i using Nat.strongRecOn with
    | _ i ih2 =>
      intro hi ar;by_cases aa:∀p ∈ qcC md ops i,listed.getD p false=true
      ·exact ⟨i,qek.2 ⟨ar,ak i hi,aa⟩⟩
      ·obtain ⟨p,hp⟩:=Classical.not_forall.1 aa;obtain ⟨hp,al⟩:=Classical.not_imp.1 hp;have h3:=az i hi p hp;by_cases hpD:p ∈ D
       ·refine ih2 p h3.1 hpD ?_;have ay:p<listed.size:=(by rw [hI.size];have :=ak p hpD;omega);cases hc:listed.getD p true with
        |false=>rfl
        |true=>exact absurd (qnh (by rw [hc];simp) ay) al
       ·have h4:L0.getD p false=true:=by
         rcases Bool.or_eq_true_iff.1 h3.2 with h4|h4
         ·exact absurd (by simpa using h4) hpD
         ·exact h4
        have h5:=hI.far p hpD;exfalso;apply al;simp only [Array.getD_eq_getD_getElem?] at h4 ⊢;rw [h5];exact h4
   refine ⟨fun h0=> ?_,fun j hj=> ?_⟩
   ·obtain ⟨r,hr⟩:=ad u ao ag;rw [h0] at hr;cases hr
   ·obtain ⟨af, am, ai⟩ := qek.1 hj
    have ac:j ∈ D:=by
     refine Classical.byContradiction fun ac=> ?_;have h1:=ap j am;rcases Bool.or_eq_true_iff.1 h1 with h1|h1
     ·have h5:=hI.far j ac;simp only [Array.getD_eq_getD_getElem?] at h1 af;rw [h5,h1] at af;cases af
     ·rcases Bool.or_eq_true_iff.1 h1 with h1|h1
      ·exact ac (by simpa using h1)
      ·have h2:=List.all_eq_true.1 h1 u ao;have h3:=qdI hI.closed _ j ai h2;rw [qhs ag] at h3;cases h3
    obtain ⟨o,ho⟩:∃o,ops[j]? =some o:=⟨ops[j],Array.getElem?_eq_getElem am⟩;have ae:=qmn (P:=P) (ops:=ops) (o:=o) (a:=a) (A:=A) (fun cs b=>Region.noSelect_spec aj j o cs b ho) (fun t ht=>by
     rcases hI.tmps t with h|⟨i,hi,h2,h3⟩
     ·exact h
     ·exfalso;have h4:=au j ac i hi;rw [h3,ho] at h4;simp only [Bool.or_eq_true,Bool.not_eq_true',List.contains_iff_mem] at h4;rcases h4 with h4|h4
      ·have :(o.looksAt ops).contains t=true:=List.contains_iff_mem.2 ht;rw [this] at h4;cases h4
      ·have h5:=ai i h4;rw [qhs h2] at h5;cases h5)
    have ab : ∀ v w', A.put o.dst v = A -> S w' -> wpAnyIn F n P md ops Q (m + fuel) (listed.setIfInBounds j true) (a.put o.dst v) w' := fun v w' hv av => by
     have aq:j<listed.size:=(by rw [hI.size];omega);refine ih _ _ _ ⟨by rw [Array.size_setIfInBounds];exact hI.size,fun k hk=> ?_,fun k hk p hp=> ?_, ?_, ?_,fun d=> ?_⟩ ?_ av
     ·rw [Array.getElem?_setIfInBounds_ne (by rintro rfl;exact hk ac)];exact hI.far k hk
     ·by_cases hkj:k=j
      ·subst hkj;exact getD_set_true (ai p hp)
      ·rw [getD_set_ne false (Ne.symm hkj)] at hk;exact getD_set_true (hI.closed k hk p hp)
     ·rw [<-hI.tsize];unfold Act.put;cases o.dst<;>simp
     ·rw [<-hI.defers];unfold Act.put;cases o.dst<;>rfl
     ·cases hd:o.dst with
      | none =>
        rcases hI.tmps d with h|⟨i,hi,h2,h3⟩
        ·exact .inl h
        ·refine .inr ⟨i,hi, ?_,h3⟩;rw [getD_set_ne true]
         ·exact h2
         ·rintro rfl;rw [ho] at h3;simp [hd] at h3
      | some t =>
        by_cases htd:t=d
        ·subst htd;left;rw [hd] at hv;have h1:(A.put (some t) v).tmps[t]? =A.tmps[t]? :=(by rw [hv]);rw [<-h1];simp [Act.put,Array.getElem?_setIfInBounds,hI.tsize]
        ·have h1:(a.put (some t) v).tmps[d]? =a.tmps[d]? :=(by simp [Act.put,Array.getElem?_setIfInBounds_ne htd]);rw [h1];rcases hI.tmps d with h|⟨i,hi,h2,h3⟩
         ·exact .inl h
         ·refine .inr ⟨i,hi, ?_,h3⟩;rw [getD_set_ne true]
          ·exact h2
          ·rintro rfl;rw [ho] at h3;simp [hd] at h3;exact htd h3
     ·have e:(D.filter fun i=> !(listed.setIfInBounds j true).getD i true)=(D.filter fun i=> !listed.getD i true).erase j:=by
       rw [List.Nodup.erase_eq_filter (List.Pairwise.filter _ aw),List.filter_filter];refine List.filter_congr fun i hi=> ?_;by_cases hij:i=j
       ·subst hij;simp [aq]
       ·rw [getD_set_ne true (Ne.symm hij)];simp [hij]
      rw [e,List.length_erase_of_mem (List.mem_filter.2 ⟨ac,by rw [af];rfl⟩),hm];rfl
    have h9:=hq j ac o ho w (fun a' w'=>a'=A∧S w') hS (fun w' h=>⟨rfl,h⟩);unfold wpOpIn;simp only [ho];rw [ae.2.1,ae.2.2 w]
    split
    case isTrue hw=>
     rw [if_pos hw] at h9;exact qqm (qcx hro ho) ae.1 (ae.2.2 w) h9 ab
    case isFalse hw=>
     rw [if_neg hw] at h9;exact ⟨h9.1,ab undef w h9.2.1 h9.2.2⟩
def AllQ (F:Fence) (n:Nat) (P:Program) (ops:Array Oper) (S:World->Prop) (A:Act) (D:List Nat):Prop:=
 ∀i ∈ D,∀o,ops[i]? =some o->∀(w:World) (K':Act->World->Prop),S w->(∀w',S w'->K' A w')->if Region.wanted o (yielded ops A.tmps)=true then Oper.wpIn F n P o A w K' (fun _ _ _=>False) else (∀f,o.about P w A.eval=some f->F.fn f)∧K' (A.put o.dst undef) w
theorem AllQ.nil {S:World->Prop} {A:Act}:AllQ F n P ops S A []:=fun i hi=>by cases hi
theorem AllQ.cons {S:World->Prop} {A:Act} {i:Nat} {o:Oper} {D:List Nat} (ho:ops[i]? =some o)
  (h:∀(w:World) (K':Act->World->Prop),S w->(∀w',S w'->K' A w')->if Region.wanted o (yielded ops A.tmps)=true then Oper.wpIn F n P o A w K' (fun _ _ _=>False) else (∀f,o.about P w A.eval=some f->F.fn f)∧K' (A.put o.dst undef) w)
  (hs:AllQ F n P ops S A D):AllQ F n P ops S A (i::D):=fun j hj o' aa=>by
 rcases List.mem_cons.1 hj with rfl|hj
 ·rw [ho] at aa;injection aa with aa;subst aa;exact h
 ·exact hs j hj o' aa
theorem qbh (hro : qc2 ops = true) {L0 : Array Bool} (D : List Nat) (S : World -> Prop) (vs : List (Option Tmp × Value)) {fuel : Nat} {a : Act} {w : World}
  (hchk:qfU md ops L0 D=true) (hv:vs.map (fun x=>x.1)=D.map fun i=>(ops[i]?).bind fun o=>o.dst) (hlen:D.length+(fuel-D.length)=fuel) (hS:S w) (A:Act) (hA:vs.foldl (fun a x=>a.put x.1 x.2) a=A)
  (hq:AllQ F n P ops S A D)
  (hfin:∀w,S w->wpAnyIn F n P md ops Q (fuel-D.length) (D.foldl (fun l i=>l.setIfInBounds i true) L0) A w):wpAnyIn F n P md ops Q fuel L0 a w:=by
 have aa:=hchk;unfold qfU at aa;simp only [Bool.and_eq_true,decide_eq_true_eq,List.all_eq_true,List.mem_range] at aa;obtain ⟨_,_,ag,ad,af,_⟩:=aa;have ac:∀(vs:List (Option Tmp×Value)) (a:Act),(vs.foldl (fun a x=>a.put x.1 x.2) a).tmps.size=a.tmps.size∧(vs.foldl (fun a x=>a.put x.1 x.2) a).defers=a.defers∧∀d,a.tmps[d]? =(vs.foldl (fun a x=>a.put x.1 x.2) a).tmps[d]? ∨some d ∈ vs.map fun x=>x.1:=by
  intro vs
  induction vs with
  |nil=>exact fun a=>⟨rfl,rfl,fun d=>.inl rfl⟩
  | cons x vs ih =>
    intro a;obtain ⟨h1,h2,h3⟩:=ih (a.put x.1 x.2);obtain ⟨t,v⟩:=x;refine ⟨h1.trans (by cases t<;>simp [Act.put]),h2.trans (by cases t<;>simp [Act.put]),fun d=> ?_⟩;rcases h3 d with h|h
    ·cases t with
     |none=>exact .inl h
     | some t =>
       by_cases htd:t=d
       ·subst htd;right;simp
       ·left;rw [List.foldl_cons,<-h];simp [Act.put,Array.getElem?_setIfInBounds_ne htd]
    ·right;rw [List.map_cons];exact List.mem_cons_of_mem _ h
 obtain ⟨h1,h2,h3⟩:=ac vs a;rw [hA] at h1 h2 h3;have ab:∀i ∈ D,L0.getD i true=false:=fun i hi=>by simpa using ad i hi
 rw [<-hlen];refine qeI hro hchk S A hq _ hfin D.length L0 a w ⟨rfl,fun _ _=>rfl,fun k hk p hp=> ?_,h1.symm,h2.symm,fun d=> ?_⟩ ?_ hS
 ·have ae:k<ops.size:=by
   rcases Nat.lt_or_ge k L0.size with h|h
   ·omega
   ·simp [Array.getElem?_eq_none h] at hk
  have h4:=af k ae;rw [hk] at h4;rcases Bool.or_eq_true_iff.1 h4 with h4|h4
  ·cases h4
  ·exact List.all_eq_true.1 h4 p hp
 ·rcases h3 d with h|h
  ·exact .inl h
  ·rw [hv] at h;obtain ⟨i,hi,e⟩:=List.mem_map.1 h;exact .inr ⟨i,hi,ab i hi,e⟩
 ·rw [List.filter_eq_self.2 fun i hi=>by rw [ab i hi];rfl]
end
end Go.Proofs.YtnkelahimiipjaaGreatDoor
namespace Go.Proofs.YtnkelahimiipjaaGreatDoor
open Go.RowKit
section
variable {kt:TypeId->Bool}
theorem qhN {α :Type} {Z:Nat} {F:Fence} {n:Nat} {P:Program} {g:Operand} {ps:Array Tmp} {assign body:Code} {Q:Exit->Act->World->Prop} {a:Act} {w:World}
  (hro:F.round=none) (h1:1<=n) {gf:Nat} {lb:Array Value} (hg:a.eval g=.func (.func gf) #[] lb) (hFg:F.fn gf) (eg:∀args w,(callFunc gf args).run P w=.ok (.enter gf args) w)
  {encs: α ->Array Value} {New:List α ->World->World-> α ->Prop} {S Sp:List α ->Prop} {N:Nat} {w0:World} (hZ:Z<=w.heap.size) (hseq:qjD kt Z F (n-1) P gf lb encs New S Sp N w0) (hb0:Below w0.heap.size w0 w) (hps:∀x,(encs x).size=ps.size)
  (hNew:∀pre A B x l o,New pre A B x->l<A.heap.size->New pre (A.putObj l o) (B.putObj l o) x)
  (I Ix:List α ->World->Prop) (hI:∀s A l r o,I s A->w.heap.size<l->A.heap[l]? =some (.loop r)->I s (A.putObj l o)) (hIx:∀s A l r o,Ix s A->w.heap.size<l->A.heap[l]? =some (.loop r)->Ix s (A.putObj l o)) (h0:∀B,Below w.heap.size w B->I [] B) (a₁: α ->World->Act) (w₁: α ->World->World)
  (hcb:∀(x: α) (W:World),Below W.heap.size W (w₁ x W)) (hca:∀(x: α) (W:World) (l:Nat) (o:Obj),a₁ x (W.putObj l o)=a₁ x W) (hcw:∀(x: α) (W:World) (l:Nat) (o:Obj),l<W.heap.size->w₁ x (W.putObj l o)=(w₁ x W).putObj l o)
  (hassign:∀(l:Nat) (x: α) (W:World) (K:Act->World->Prop),(∃pre A B,New pre A B x)->K (a₁ x W) (w₁ x W)->
    assign.wpIn (F.inRound l) (n-1-1) P (Exit.then K (fun _ _ _=>False)) { tmps:=(ps.zip (encs x)).foldl (fun t (p,v)=>t.setIfInBounds p v) a.tmps,defers:=[] } W)
  (hbody:∀(l:Nat) (pre:List α) (x: α) (W0 W1:World),w.heap.size<l->l<W0.heap.size->I pre W0->pre.length<N->Below W0.heap.size W0 W1->New pre W0 W1 x->
    body.wpIn (F.inRound l) (n-1-1) P (fun e _ W'=>(e=.normal∧KpT kt Z W1 W'∧I (pre++[x]) W')∨(e=.ret∧KpT (fun _=>true) Z W1 W'∧Ix (pre++[x]) W')) (a₁ x W1) (w₁ x W1))
  (hdone:∀(xs:List α) (W0 W:World),S xs->I xs W0->Below W0.heap.size W0 W->w.heap.size<W0.heap.size->W.heap[w.heap.size]? =some (.deferred (some []))->Q .normal { a with defers:= { target:=.collected w.heap.size,args:= #[] }::a.defers } W)
  (hstop:∀(xs:List α) (W0 W:World),Sp xs->Ix xs W0->Below W0.heap.size W0 W->w.heap.size<W0.heap.size->W.heap[w.heap.size]? =some (.deferred (some []))->Code.ret.wpIn F n P Q { a with defers:= { target:=.collected w.heap.size,args:= #[] }::a.defers } W):
  (Code.rangeFunc g ps assign body).wpIn F n P Q a w:=by
 refine wpIn_rangeFunc fun fn ax=> ?_;rw [hro]
 let rec0:LoopState->Option Code->Loop:=fun st pe=> { state:=st,pending:=pe,fn,tmps:=a.tmps,params:=ps,assign,body,defers:=w.heap.size }
 obtain ⟨d0,an⟩:∃d,d=w.heap.size:=⟨_,rfl⟩;obtain ⟨l,hl⟩:∃l,l=w.heap.size+1:=⟨_,rfl⟩;obtain ⟨W1,aj⟩:∃W1,W1=(w.alloc (.deferred (some []))).alloc (.loop (rec0 .ready none)):=⟨_,rfl⟩;have aw:W1.heap[l]? =some (.loop (rec0 .ready none)):=by
  have :=World.alloc_heap_new (w.alloc (.deferred (some []))) (.loop (rec0 .ready none));rw [World.size_alloc] at this;rw [aj,hl];exact this
 have av:W1.heap[d0]? =some (.deferred (some [])):=by
  rw [aj,an];exact (Below.heap_alloc _ _ _ (by simp)).trans (World.alloc_heap_new w _)
 have ap:Below w.heap.size w W1:=by
  rw [aj];exact ((Below.refl _ w).alloc (Nat.le_refl _) _).alloc (by simp) _
 refine ⟨w.heap.size+1,[{ target:=.collected w.heap.size,args:= #[] }],W1, { target:=.fn (.func gf) lb,args:= #[.func (.yield (w.heap.size+1)) #[] #[]] },W1,gf,
  #[.func (.yield (w.heap.size+1)) #[] #[]]++lb,W1,by rw [aj];exact run_enterLoop_outer _ _ _ _ _,by simp only [resolve,hg];simp [go_sem],fun f' ar=>by simp [Target.leads] at ar;subst ar;exact hFg,by simp [invoke,go_sem,eg],fun _=>h1, ?_⟩
 rw [<-hl];refine (hseq l (fun pre W=>I pre W∧W.heap[l]? =some (.loop (rec0 .ready none))∧W.heap[d0]? =some (.deferred (some []))) (fun pre W=>Ix pre W∧W.heap[l]? =some (.loop (rec0 .done (some .ret)))∧W.heap[d0]? =some (.deferred (some []))) W1 (hb0.trans (ap.mono hb0.size)) ?_ ⟨h0 _ ap,aw,av⟩).mono ?_
 ·rintro pre x W0 Wb ⟨hi,ab,ae⟩ au aa ah;have ad:l<W0.heap.size:=(Array.getElem?_eq_some_iff.1 ab).1;have ac:d0<W0.heap.size:=(Array.getElem?_eq_some_iff.1 ae).1;have ag:Wb.heap[l]? =some (.loop (rec0 .ready none)):=(aa.block l ad).trans ab;have ai:Wb.heap[d0]? =some (.deferred (some [])):=(aa.block d0 ac).trans ae;have hy:=run_yield (P:=P) (args:=encs x) ag (hps x);refine ⟨fn,_,assign,body,hy,roundIn_of_wpIn ax (hassign l x Wb _ ⟨_,_,_,ah⟩ ⟨_,run_beginRound (((hcb x Wb).block l (Nat.lt_of_lt_of_le ad aa.size)).trans ag) rfl, ?_⟩)⟩;rw [<-hcw x Wb l _ (Nat.lt_of_lt_of_le ad aa.size),<-hca x Wb l (.loop (rec0 .busy none))];have ak:d0≠l:=by omega
  have aq:(Wb.putObj l (.loop (rec0 .busy none))).heap[l]? =some (.loop (rec0 .busy none)):=World.putObj_heap_same (Array.getElem?_eq_some_iff.1 ag).1;have ao:(Wb.putObj l (.loop (rec0 .busy none))).heap[d0]? =some (.deferred (some [])):=(World.putObj_heap_other ak).trans ai;refine wpIn_mono (hbody l pre x (W0.putObj l (.loop (rec0 .busy none))) _ (by omega) (by rw [World.putObj_size];exact ad) (hI _ _ _ _ _ hi (by omega) ab) au (qbn aa _ _) (hNew _ _ _ _ _ _ ah ad)) ?_;rintro e a3 W3 (⟨rfl,hk,am⟩|⟨rfl,hk,am⟩)
  ·have af:=hk.2 _ _ aq rfl;have al:=hk.2 _ _ ao rfl;refine ⟨_,_,run_endRound none af,.inl ⟨rfl,⟨hI _ _ _ _ _ am (by omega) af,World.putObj_heap_same (Array.getElem?_eq_some_iff.1 af).1,(World.putObj_heap_other ak).trans al⟩,((KpU.putLoop ag (by omega) _).trans hk.u).trans (KpU.putLoop af (by omega) _)⟩⟩
  ·have af:=hk.2 _ _ aq rfl;have al:=hk.2 _ _ ao rfl;exact ⟨_,_,run_endRound (some .ret) af,.inr ⟨rfl,hIx _ _ _ _ _ am (by omega) af,World.putObj_heap_same (Array.getElem?_eq_some_iff.1 af).1,(World.putObj_heap_other ak).trans al⟩⟩
 ·rintro e W2 ⟨⟨v,rfl⟩,(⟨xs,W0,hS,⟨hi,ab,ae⟩,aa⟩|⟨xs,W0,hS,⟨hi,ab,ae⟩,aa⟩)⟩
  ·have ad:l<W0.heap.size:=(Array.getElem?_eq_some_iff.1 ab).1;have ac:d0<W0.heap.size:=(Array.getElem?_eq_some_iff.1 ae).1;have ag:=(aa.block l ad).trans ab;have ai:=(aa.block d0 ac).trans ae;exact ⟨none,_,run_endLoop ag (by intro h;cases h),hdone xs _ _ hS (hI _ _ _ _ _ hi (by omega) ab) (qbn aa _ _) (by rw [World.putObj_size];omega) (by rw [<-an];exact (World.putObj_heap_other (by omega)).trans ai)⟩
  ·have ad:l<W0.heap.size:=(Array.getElem?_eq_some_iff.1 ab).1;have ac:d0<W0.heap.size:=(Array.getElem?_eq_some_iff.1 ae).1;have ag:=(aa.block l ad).trans ab;have ai:=(aa.block d0 ac).trans ae;exact ⟨some .ret,_,run_endLoop ag (by intro h;cases h),hstop xs _ _ hS (hIx _ _ _ _ _ hi (by omega) ab) (qbn aa _ _) (by rw [World.putObj_size];omega) (by rw [<-an];exact (World.putObj_heap_other (by omega)).trans ai)⟩
end
end Go.Proofs.YtnkelahimiipjaaGreatDoor
namespace Go.Proofs.YtnkelahimiipjaaGreatDoor
section
variable {F:Fence} {n:Nat} {P:Program} {ops:Array Oper} {Q:Exit->Act->World->Prop} {md:Region.Mode} {S:World->Prop}
def heldIn (F:Fence) (n:Nat) (P:Program) (md:Region.Mode) (ops:Array Oper) (Q:Exit->Act->World->Prop) (S:World->Prop):Nat->Array Bool->Act->World->Prop
 |0,listed,a,w=>Region.ready md ops listed=[]∧Q .normal a w
 |f+1,listed,a,w=>(Region.ready md ops listed=[]->Q .normal a w)∧∀i ∈ Region.ready md ops listed,wpOpIn F n P ops Q i (fun a' w'=>S w'∧heldIn F n P md ops Q S f (listed.setIfInBounds i true) a' w') a w
theorem qaL:∀(f:Nat) (listed:Array Bool) (a:Act) (w:World),heldIn F n P md ops Q S f listed a w->wpAnyIn F n P md ops Q f listed a w
 |0,_,_,_,h=>h
 |f+1,_,_,_,h=>⟨h.1,fun i hi=>wpOpIn_mono (fun a' w' h'=>qaL f _ a' w' h'.2) (h.2 i hi)⟩
def LooksH (P:Program) (ops:Array Oper) (S:World->Prop) (o:Oper) (v:Value) (a:Act):Prop:=
 ((Region.wanted o (yielded ops a.tmps)=true∧∀w,S w->(execOp a.eval o).run P w=.ok (.value v) w)∨(Region.wanted o (yielded ops a.tmps)=false∧v=undef))∧∀w,o.about P w a.eval=none
theorem LooksH.op {i:Nat} {o:Oper} {v:Value} {a:Act} (hro:qc2 ops=true) (ho:ops[i]? =some o) (h:LooksH P ops S o v a) {K:Act->World->Prop} {w:World} (hS:S w) (hK:K (a.put o.dst v) w):wpOpIn F n P ops Q i K a w:=by
 unfold wpOpIn;simp only [ho];have aa:∀f,o.about P w a.eval=some f->F.fn f:=fun f hf=>by rw [h.2 w] at hf;cases hf
 rcases h.1 with ⟨hw,hv⟩|⟨hw,rfl⟩
 ·rw [if_pos hw];unfold Oper.wpIn;rw [Oper.semAt_eq _ _ _ (qcx hro ho),hv w hS];exact ⟨aa,hK⟩
 ·rw [if_neg (by rw [hw];simp)];exact ⟨aa,hK⟩
theorem qnA {o:Oper} {a b:Act} {w:World} (hro:∀c,o.op≠ .defer c) (he:execOp a.eval o=execOp b.eval o) (hab:o.about P w a.eval=o.about P w b.eval)
  {K K':Act->World->Prop} (h:Oper.wpIn F n P o b w K Q) (hK:∀v w',K (b.put o.dst v) w'->K' (a.put o.dst v) w') (hD:∀d w',K (({ b with defers:=d::b.defers }:Act).put o.dst undef) w'->K' (({ a with defers:=d::a.defers }:Act).put o.dst undef) w')
  (hQ:∀c w',Q (.panic c) b w'->Q (.panic c) a w'):Oper.wpIn F n P o a w K' Q:=by
 unfold Oper.wpIn at *;rw [hab];refine ⟨h.1, ?_⟩;have h:=h.2;rw [Oper.semAt_eq _ _ _ hro] at h ⊢;rw [he];generalize (execOp b.eval o).run P w=r at *;cases r with
 | ok x w' =>
   cases x<;>simp only [Oper.uponIn] at h ⊢
   case value u=>exact hK u w' h
   case skip=>exact hK undef w' h
   case defer d=>exact hD d w' h
   case enter f args=>exact ⟨h.1,CallsIn.mono h.2 fun e w'' he=>by
    cases e with
    |returned u=>exact hK u w'' he
    |panicked c=>exact hQ c w'' he
    |outgrown=>exact he⟩
   case row row args=>exact ⟨h.1,RowsIn.mono h.2 fun u w'' he=>hK u w'' he⟩
   case round l f tmps assign body=>exact ⟨h.1,RoundIn.mono h.2 fun e w'' he=>by
    cases e with
    |returned u=>exact hK u w'' he
    |panicked c=>exact hQ c w'' he
    |outgrown=>exact he⟩
 | halt x w' =>
   cases x<;>simp only [Oper.uponIn] at h ⊢
   case panic v=>exact hQ _ _ h
theorem LooksH.same {o:Oper} {v:Value} {a b:Act} (h:LooksH P ops S o v a) (hs:∀cs c,o.op≠ .select cs c) (ht:∀t ∈ o.looksAt ops,b.tmps[t]? =a.tmps[t]?):LooksH P ops S o v b:=by
 obtain ⟨h1,h2,h3⟩:=qmn (P:=P) hs ht;unfold LooksH at *;rw [h1,h2];exact ⟨h.1,fun w=>by rw [h3 w];exact h.2 w⟩
theorem qlx {a:Act} {dst:Option Tmp} {v:Value} {t:Tmp} (h:dst≠some t):(a.put dst v).tmps[t]? =a.tmps[t]? :=by
 cases dst with
 |none=>rfl
 | some d =>
   have hd:d≠t:=fun e=>h (by rw [e]);simp [Act.put,Array.getElem?_setIfInBounds_ne hd]
theorem qgv {i:Nat} {oi:Oper} {v:Value} (hro:qc2 ops=true) (hi:ops[i]? =some oi) (hsel:∀(j:Nat) (o:Oper) cs b,ops[j]? =some o->o.op≠ .select cs b)
  (hQ:∀c a w,Q (.panic c) (a.put oi.dst v) w->Q (.panic c) a w):
  ∀(f:Nat) (listed:Array Bool) (a:Act) (w:World),
   (∀j oj,ops[j]? =some oj->j≠i->listed.getD j true=false->(∀e ∈ oj.after,Region.binds md e=true->e.on≠i)->oi.apart ops oj=true)->
   i ∈ Region.ready md ops listed->LooksH P ops S oi v a->S w->
   heldIn F n P md ops Q S f (listed.setIfInBounds i true) (a.put oi.dst v) w->heldIn F n P md ops Q S (f+1) listed a w:=by
 intro f
 induction f with
 | zero =>
   intro listed a w _ hr hy hS H;refine ⟨fun h=>(by rw [h] at hr;cases hr),fun j hj=> ?_⟩;by_cases hji:j=i
   ·subst hji;exact hy.op hro hi hS ⟨hS,H⟩
   ·have h1:=ready_mono hj hji;rw [H.1] at h1;cases h1
 | succ f ih =>
   intro listed a w aa hr hy hS H;refine ⟨fun h=>(by rw [h] at hr;cases hr),fun j hj=> ?_⟩;by_cases hji:j=i
   ·subst hji;exact hy.op hro hi hS ⟨hS,H⟩
   ·have h1:=H.2 j (ready_mono hj hji);obtain ⟨ac,oj,af,ai⟩:=mem_ready.1 hj;have ag:∀e ∈ oj.after,Region.binds md e=true->e.on≠i:=fun e he hb an=>by
     have h2:=ai e he hb;rw [an] at h2;rw [qhs (mem_ready.1 hr).1] at h2;cases h2
    obtain ⟨p1,p2,p3⟩:=Oper.apart_spec (aa j oj af hji ac ag);have ae:=qmn (P:=P) (ops:=ops) (o:=oj) (a:=a) (A:=a.put oi.dst v) (fun cs b=>hsel j oj cs b af) (fun t ht=>(qlx (fun e=>p1 t e ht)).symm);have ad:∀(b:Act) (u:Value),LooksH P ops S oi v b->LooksH P ops S oi v (b.put oj.dst u):=fun b u hb=>hb.same (fun cs c=>hsel i oi cs c hi) (fun t ht=>qlx fun e=>p3 t e ht);have ab:∀k ok,ops[k]? =some ok->k≠i->(listed.setIfInBounds j true).getD k true=false->(∀e ∈ ok.after,Region.binds md e=true->e.on≠i)->oi.apart ops ok=true:=fun k ok hk am ak al=>by
     refine aa k ok hk am ?_ al;by_cases hjk:j=k
     ·subst hjk;exact ac
     ·rw [getD_set_ne true hjk] at ak;exact ak
    have ah:∀(b:Act) (u:Value) (w':World),LooksH P ops S oi v b->S w'->heldIn F n P md ops Q S f ((listed.setIfInBounds i true).setIfInBounds j true) ((b.put oi.dst v).put oj.dst u) w'->S w'∧heldIn F n P md ops Q S (f+1) (listed.setIfInBounds j true) (b.put oj.dst u) w':=fun b u w' hb aj hh=>by
     refine ⟨aj,ih _ _ _ ab (ready_mono hr (Ne.symm hji)) (ad b u hb) aj ?_⟩;rw [Array.setIfInBounds_comm _ _ hji,<-Act.put_comm b v u p2];exact hh
    unfold wpOpIn at h1 ⊢;simp only [af] at h1 ⊢;rw [ae.2.1,ae.2.2 w]
    split at h1
    case isTrue hw=>
     rw [if_pos hw];refine qnA (qcx hro af) ae.1 (ae.2.2 w) h1 (fun u w' hh=>ah a u w' hy hh.1 hh.2) (fun d w' hh=> ?_) (fun c w' hh=>hQ c a w' hh);refine ah { a with defers:=d::a.defers } undef w' (hy.same (fun cs c=>hsel i oi cs c hi) (fun t _=>rfl)) hh.1 ?_;have h2:=hh.2;rw [<-Act.put_defers] ;exact h2
    case isFalse hw=>
     rw [if_neg hw];exact ⟨h1.1,ah a undef w hy h1.2.1 h1.2.2⟩
theorem heldIn_take {i:Nat} {oi:Oper} {v:Value} {f:Nat} {listed:Array Bool} {a:Act} {w:World} (hro:qc2 ops=true) (hi:ops[i]? =some oi)
  (hs:Region.noSelect ops=true) (hf:Region.free md ops listed i=true) (hr:(Region.ready md ops listed).contains i=true)
  (hQ:∀c a w,Q (.panic c) (a.put oi.dst v) w->Q (.panic c) a w) (hy:LooksH P ops S oi v a) (hS:S w)
  (h:heldIn F n P md ops Q S f (listed.setIfInBounds i true) (a.put oi.dst v) w):heldIn F n P md ops Q S (f+1) listed a w:=
 qgv hro hi (Region.noSelect_spec hs) hQ f listed a w (Region.free_spec hi hf) (by simpa using hr) hy hS h
theorem qam {i:Nat} {o:Oper} {f:Nat} {listed:Array Bool} {a:Act} {w:World} (hr:Region.ready md ops listed=[i]) (ho:ops[i]? =some o)
  (h:∀K':Act->World->Prop,(∀a w,S w->heldIn F n P md ops Q S f (listed.setIfInBounds i true) a w->K' a w)->if Region.wanted o (yielded ops a.tmps)=true then Oper.wpIn F n P o a w K' Q else (∀f,o.about P w a.eval=some f->F.fn f)∧K' (a.put o.dst undef) w):heldIn F n P md ops Q S (f+1) listed a w:=by
 refine ⟨fun h0=>(by rw [hr] at h0;cases h0),fun j hj=> ?_⟩;rw [hr,List.mem_singleton] at hj;subst hj;exact wpOpIn_step ho fun K' hK=>h K' fun a w h1 h2=>hK a w ⟨h1,h2⟩
theorem qcI {i j:Nat} {o o':Oper} {f:Nat} {listed:Array Bool} {a:Act} {w:World} (hr:Region.ready md ops listed=[i,j]) (ho:ops[i]? =some o) (ho':ops[j]? =some o')
  (h:∀K':Act->World->Prop,(∀a w,S w->heldIn F n P md ops Q S f (listed.setIfInBounds i true) a w->K' a w)->if Region.wanted o (yielded ops a.tmps)=true then Oper.wpIn F n P o a w K' Q else (∀f,o.about P w a.eval=some f->F.fn f)∧K' (a.put o.dst undef) w)
  (h':∀K':Act->World->Prop,(∀a w,S w->heldIn F n P md ops Q S f (listed.setIfInBounds j true) a w->K' a w)->if Region.wanted o' (yielded ops a.tmps)=true then Oper.wpIn F n P o' a w K' Q else (∀f,o'.about P w a.eval=some f->F.fn f)∧K' (a.put o'.dst undef) w):heldIn F n P md ops Q S (f+1) listed a w:=by
 refine ⟨fun h0=>(by rw [hr] at h0;cases h0),fun k hk=> ?_⟩;rw [hr] at hk;rcases List.mem_cons.1 hk with rfl|hk
 ·exact wpOpIn_step ho fun K' hK=>h K' fun a w h1 h2=>hK a w ⟨h1,h2⟩
 ·rw [List.mem_singleton] at hk;subst hk;exact wpOpIn_step ho' fun K' hK=>h' K' fun a w h1 h2=>hK a w ⟨h1,h2⟩
theorem qbc {listed:Array Bool} {a:Act} {w:World} (hr:Region.ready md ops listed=[]) (h:Q .normal a w):∀f,heldIn F n P md ops Q S f listed a w
 |0=>⟨hr,h⟩
 |_+1=>⟨fun _=>h,by rw [hr];simp⟩
theorem qgE:∀(f:Nat) (listed:Array Bool) (a:Act) (w:World),wpAnyIn F n P md ops Q f listed a w->heldIn F n P md ops Q (fun _=>True) f listed a w
 |0,_,_,_,h=>h
 |f+1,_,_,_,h=>⟨h.1,fun i hi=>wpOpIn_mono (fun a' w' h'=>⟨trivial,qgE f _ a' w' h'⟩) (h.2 i hi)⟩
theorem wpAnyIn_takeR {i:Nat} {oi:Oper} {v:Value} {f:Nat} {listed:Array Bool} {a:Act} {w:World} (hro:qc2 ops=true) (hi:ops[i]? =some oi)
  (hs:Region.noSelect ops=true) (hf:Region.free md ops listed i=true) (hr:(Region.ready md ops listed).contains i=true)
  (hQ:∀c a w,Q (.panic c) (a.put oi.dst v) w->Q (.panic c) a w) (hy:Yields P ops oi v a) (hab:∀w,oi.about P w a.eval=none)
  (h:wpAnyIn F n P md ops Q f (listed.setIfInBounds i true) (a.put oi.dst v) w):wpAnyIn F n P md ops Q (f+1) listed a w:=
 qaL _ _ _ _ (heldIn_take hro hi hs hf hr hQ ⟨hy.imp (fun h=>⟨h.1,fun w _=>h.2 w⟩) id,hab⟩ trivial (qgE _ _ _ _ h))
def calmQ (Q:Exit->Act->World->Prop):Exit->Act->World->Prop:=fun e a w=>e=.normal∧Q .normal a w
theorem qbV {c:Code} {a:Act} {w:World} (h:c.wpIn F n P (calmQ Q) a w):c.wpIn F n P Q a w:=Code.wpIn_mono (fun e a w h=>by obtain ⟨rfl,h⟩:=h;exact h) h
theorem calm_panic {c:List PanicEntry} {a a':Act} {w:World} (h:calmQ Q (.panic c) a w):calmQ Q (.panic c) a' w:=by cases h.1
end
end Go.Proofs.YtnkelahimiipjaaGreatDoor
