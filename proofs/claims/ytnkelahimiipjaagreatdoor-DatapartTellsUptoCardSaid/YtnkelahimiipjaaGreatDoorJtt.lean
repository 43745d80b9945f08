/-
 What comes in, with its bulk: rows of points, of numbers, of bytes; an Asked.
-/
import Derived.Test.YtnkelahimiipjaaGreatDoorJqt
import Derived.Test.YtnkelahimiipjaaGreatDoorQpt
import Derived.Lib.SmallJoins
import Derived.Deep.DeepHandedRow
import Derived.Test.YtnkelahimiipjaaGreatDoorJrt
import Derived.Test.YtnkelahimiipjaaGreatDoorCzt
import Derived.Test.YtnkelahimiipjaaGreatDoorBqt
import Derived.Test.YtnkelahimiipjaaGreatDoorHut
import Derived.Test.YtnkelahimiipjaaGreatDoorHpt
set_option maxRecDepth 100000
set_option maxHeartbeats 8000000
namespace Go.Proofs.YtnkelahimiipjaaGreatDoor
open Go.RowKit Go.ChangeShapes Go.WideShapes Go.ChangeAt Go.Deep
theorem qm1 {H:Type} (d:DataW H):1<=Rows.uptoBulk d:=by
 cases d with
 |lit l=>cases l<;>simp [Rows.uptoBulk]
 |nil=>simp [Rows.uptoBulk]
 |ptr d=>simp [Rows.uptoBulk]
 |slice elems spare=>simp [Rows.uptoBulk]
 |agg parts=>simp [Rows.uptoBulk]
 |iface t d=>simp [Rows.uptoBulk]
 |map entries=>simp [Rows.uptoBulk]
 |held h=>simp [Rows.uptoBulk]
theorem qmC {H:Type} (l:List (DataW H)):l.length<=Rows.uptoBulkAll l:=by
 induction l with
 |nil=>simp [Rows.uptoBulkAll]
 |cons x r ih=>have :=qm1 x;simp only [Rows.uptoBulkAll,List.length_cons];omega
theorem qe6 {H:Type} (l s:List (DataW H)):Rows.uptoBulkAll l+1<=Rows.uptoBulk (.slice l s):=by
 simp only [Rows.uptoBulk];omega
theorem qi5 {H:Type}:∀(l:List Pts) (m:List (DataW H)),l.length=m.length->(∀i (h1:i<l.length) (h2:i<m.length),l[i].2.length+1<=Rows.uptoBulk m[i])->l.length+qad l<=Rows.uptoBulkAll m
 | [],_,_,_=>by simp [qad]
 |p::l,[],hl,_=>by simp at hl
 | p :: l, d :: m, hl, h => by
   have h0:p.2.length+1<=Rows.uptoBulk d:=h 0 (by simp) (by simp);have ih:=qi5 l m (by simpa using hl) (fun i h1 h2=>h (i+1) (by simpa using h1) (by simpa using h2));have e:qad (p::l)=p.2.length+qad l:=(by simp [qad]);rw [e];simp only [Rows.uptoBulkAll,List.length_cons];omega
section
variable {H:Type} {enc:TypeId×Value->H} {W:World}
theorem qhR {t e:TypeId} {k fuel:Nat} {cs:List Value} {x:DataW H×List MemPlace} (ht:Tryz.prog.underlying t=some (.slice e)) (hk:Tryz.prog.cellsOf e=k) (hk0:0<k) (h:DataW.trod enc Tryz.prog W 0 (fun _=>true) true fuel t cs=some x):
  ∃A n c,cs=[.slice A n c]∧n<=c∧(A=none->n=0∧c=0)∧(n=0∨∃b o D S,x.1=.slice ((List.range n).map D) S∧A=some ⟨b,o,none⟩∧b<W.heap.size∧∀i,i<n->∃cs' fl y,cs'.length=k∧(∀j,j<k->W.cell? ⟨b,o+i*k+j,none⟩=cs'[j]?)∧DataW.trod enc Tryz.prog W 0 (fun _=>true) true fl e cs'=some y∧y.1=D i):=by
 rcases open_slice ht h with ⟨h0,_⟩|⟨a,len,cap,m,n,D,Pl,h0,_,ae,_,hm,ac,hx⟩
 ·exact ⟨none,0,0,h0,Nat.le_refl _,fun _=>⟨rfl,rfl⟩,.inl rfl⟩
 ·have ag:m=cap:=by rw [hm];rfl
  have ad:x.1=.slice ((List.range len).map D) ((List.range (m-len)).map fun j=>D (len+j)):=congrArg (·.1) ac;refine ⟨some a,len,cap,h0,ae,fun e=>(by cases e), ?_⟩;rcases Nat.eq_zero_or_pos len with h1|h1
  ·exact .inl h1
  ·have each:∀i,i<len->∃cs',cs'.length=k∧(∀j,j<k->W.cell? (a.add (i*k+j))=cs'[j]?)∧∃y,DataW.trod enc Tryz.prog W 0 (fun _=>true) true n e cs'=some y∧y.1=D i:=by
    intro i hi;obtain ⟨cs',k1,k2⟩:=hx i (by omega);rw [hk] at k1;obtain ⟨_,hl,hc⟩:=World.cells?_some k1;refine ⟨cs',hl,fun j hj=> ?_,_,k2,rfl⟩;have :=hc j hj
    rwa [add_add] at this
   obtain ⟨b,o,spot⟩:=a;obtain ⟨cs0,ab,af,_,_⟩:=each 0 h1;have aa:W.cell? ((⟨b,o,spot⟩:Addr).add (0*k+0))=some (cs0[0]'(by rw [ab];exact hk0)):=(af 0 hk0).trans (List.getElem?_eq_getElem (by rw [ab];exact hk0));have hs:spot=none:=(by simpa [Addr.add] using World.cell?_spot aa);subst hs;rw [qiG] at aa;refine .inr ⟨b,o,D,_,ad,rfl,qaa aa,fun i hi=> ?_⟩;obtain ⟨cs',k1,k2,y,k3,k4⟩:=each i hi;refine ⟨cs',n,y,k1,fun j hj=> ?_,k3,k4⟩;have :=k2 j hj;rw [qiG,<-Nat.add_assoc] at this;exact this
theorem qiN {x:DataW H} {n:Nat} {D:Nat->DataW H} {S:List (DataW H)} (h:x=.slice ((List.range n).map D) S):n<=Rows.uptoBulk x:=by
 have h1:=qmC ((List.range n).map D);have h2:=qe6 ((List.range n).map D) S;rw [<-h] at h2;rw [List.length_map,List.length_range] at h1;omega
theorem qoY {fuel:Nat} {cs:List Value} {x:DataW H×List MemPlace} (h:DataW.trod enc Tryz.prog W 0 (fun _=>true) true fuel 60 cs=some x):∃v l,cs=[v]∧Rd W W.heap.size v l∧Nz v∧l.length<=Rows.uptoBulk x.1:=by
 have c4:Tryz.prog.cellsOf 66=4:=by kernel_rfl
 obtain ⟨A,n,c,rfl,hc,hz,hA⟩:=qhR Tryz.underlying60 c4 (by decide) h;have aa:Nz (.slice A n c):=fun n' c' e=>by injection e with e1 e2 e3;subst e1 e3;exact (hz rfl).2
 rcases hA with rfl|⟨b,o,D,S,ab,rfl,hb,hx⟩
 ·exact ⟨_,[],rfl,⟨A,c,rfl,hc,.inl rfl⟩,aa,Nat.zero_le _⟩
 ·obtain ⟨l,hl,hq⟩:=qcv (Q:=fun i (y:Smp)=>Cell4 W b (o+i*4) y) (n:=n) fun i hi=>by
   obtain ⟨cs',fl,y,k1,k2,k3,_⟩:=hx i hi;obtain ⟨s,rfl⟩:=qnQ k3;exact ⟨s,k2 0 (by decide),k2 1 (by decide),k2 2 (by decide),k2 3 (by decide)⟩
  exact ⟨_,l,rfl,⟨_,c,by rw [hl],by rw [hl];exact hc,.inr ⟨b,o,rfl,hb,hq⟩⟩,aa,by rw [hl];exact qiN ab⟩
theorem qpa {fuel:Nat} {cs:List Value} {x:DataW H×List MemPlace} (h:DataW.trod enc Tryz.prog W 0 (fun _=>true) true fuel 37 cs=some x):∃v l,cs=[v]∧RdZ W W.heap.size v l∧Nz v∧l.length<=Rows.uptoBulk x.1∧∀z ∈ l,(Lit.int .i64 z).wf=true:=by
 have c1:Tryz.prog.cellsOf 3=1:=by kernel_rfl
 obtain ⟨A,n,c,rfl,hc,hz,hA⟩:=qhR Tryz.underlying37 c1 (by decide) h;have aa:Nz (.slice A n c):=fun n' c' e=>by injection e with e1 e2 e3;subst e1 e3;exact (hz rfl).2
 rcases hA with rfl|⟨b,o,D,S,ab,rfl,hb,hx⟩
 ·exact ⟨_,[],rfl,⟨A,c,rfl,hc,.inl rfl⟩,aa,Nat.zero_le _,fun z hz=>absurd hz List.not_mem_nil⟩
 ·obtain ⟨l,hl,hq⟩:=qcv (Q:=fun i (y:Int)=>W.cell? ⟨b,o+i,none⟩=some (.int .i64 y)∧(Lit.int .i64 y).wf=true) (n:=n) fun i hi=>by
   obtain ⟨cs',fl,y,k1,k2,k3,_⟩:=hx i hi;obtain ⟨z,rfl,_,ac⟩:=DataW.trod_int Tryz.underlying3 k3;have :=k2 0 (by decide);rw [Nat.mul_one,Nat.add_zero] at this;exact ⟨z,this,ac⟩
  refine ⟨_,l,rfl,⟨_,c,by rw [hl],by rw [hl];exact hc,.inr ⟨b,o,rfl,hb,fun i hi=>(hq i hi).1⟩⟩,aa,by rw [hl];exact qiN ab,fun z hz=> ?_⟩;obtain ⟨i,hi,rfl⟩:=List.getElem_of_mem hz;exact (hq i hi).2
theorem qmT {fuel:Nat} {cs:List Value} {x:DataW H×List MemPlace} (h:DataW.trod enc Tryz.prog W 0 (fun _=>true) true fuel 62 cs=some x):∃id v l,cs=[.int .i64 id,v]∧(Lit.int .i64 id).wf=true∧Rd W W.heap.size v l∧Nz v∧l.length+1<=Rows.uptoBulk x.1:=by
 obtain ⟨xs,k,_,ad,hc,aa,hf⟩:=DataW.trod_struct Tryz.underlying62 h;have c2:Tryz.prog.cellsOf 62=2:=by kernel_rfl
 have ci:Tryz.prog.cellsOf 3=1:=by kernel_rfl
 have cs1:Tryz.prog.cellsOf 60=1:=by kernel_rfl
 rw [c2] at hc;have g0:=hf 0 ⟨"Id",3,0,false, "", "",0⟩ rfl;have g1:=hf 1 ⟨"Samples",60,1,false, "", "",8⟩ rfl;have aa:xs.length=2:=aa;rw [List.getElem?_eq_getElem (by omega)] at g0 g1;obtain ⟨t,e0,_,ae⟩:=DataW.trod_int Tryz.underlying3 g0;obtain ⟨v,l,e1,hR,hz,ac⟩:=qoY g1;have ab:l.length+1<=Rows.uptoBulk x.1:=by
  have e:x.1=.agg (xs.map (·.1)):=congrArg (·.1) ad;obtain ⟨x0,x1,rfl⟩:∃x0 x1,xs=[x0,x1]:=by
   cases xs with
   |nil=>simp at aa
   | cons a r =>
     cases r with
     |nil=>simp at aa
     | cons b r =>
       cases r with
       |nil=>exact ⟨a,b,rfl⟩
       |cons _ _=>simp at aa
  have ac:l.length<=Rows.uptoBulk x1.1:=ac;rw [e];simp only [List.map_cons,List.map_nil,Rows.uptoBulk,Rows.uptoBulkAll];omega
 obtain ⟨a,b,rfl⟩:∃a b,cs=[a,b]:=by
  cases cs with
  |nil=>simp at hc
  | cons a r =>
    cases r with
    |nil=>simp at hc
    | cons b r =>
      cases r with
      |nil=>exact ⟨a,b,rfl⟩
      |cons _ _=>simp at hc
 have e0:([a,b].drop 0).take (Tryz.prog.cellsOf 3)=[.int .i64 t]:=e0;have e1:([a,b].drop 1).take (Tryz.prog.cellsOf 60)=[v]:=e1;rw [ci] at e0;rw [cs1] at e1;simp at e0 e1;exact ⟨t,v,l,by rw [e0,e1],ae,hR,hz,ab⟩
theorem qiO {base:Nat} {v:Value} {d:DataW H} {p:List MemPlace} (hval:Value.okWide Tryz.prog W .any base 22 v) (h:DataW.Trod enc Tryz.prog W 0 (fun _=>true) true 22 v d p):∃l,RdP W W.heap.size v l∧(∀p ∈ l,(Lit.int .i64 p.1).wf=true)∧l.length+qad l<=Rows.uptoBulk d:=by
 obtain ⟨fuel,hf⟩:=h;obtain ⟨a',len',cap',rfl⟩:=okWide_slice Tryz.underlying22 hval;have c2:Tryz.prog.cellsOf 62=2:=by kernel_rfl
 obtain ⟨A,n,c,e,hc,hz,hA⟩:=qhR Tryz.underlying22 c2 (by decide) hf;have e:[Value.slice a' len' cap']=[.slice A n c]:=e;injection e with e _;injection e with e1 e2 e3;subst e1 e2 e3;rcases hA with rfl|⟨b,o,D,S,aa,rfl,hb,hx⟩
 ·exact ⟨[],⟨_,_,rfl,hc,.inl rfl⟩,fun p hp=>absurd hp List.not_mem_nil,by simp [qad]⟩
 ·obtain ⟨l,hl,hq⟩:=qcv (Q:=fun i (y:Pts)=>PtAt W W.heap.size b (o+i*2) y∧(Lit.int .i64 y.1).wf=true∧y.2.length+1<=Rows.uptoBulk (D i)) (n:=len') fun i hi=>by
   obtain ⟨cs',fl,y,k1,k2,k3,k4⟩:=hx i hi;obtain ⟨id,v,s,rfl,ac,hR,ad,ab⟩:=qmT k3;rw [k4] at ab;exact ⟨(id,s),⟨k2 0 (by decide),v,k2 1 (by decide),hR,ad⟩,ac,ab⟩
  refine ⟨l,⟨_,_,by rw [hl],by rw [hl];exact hc,.inr ⟨b,o,rfl,hb,fun i hi=>(hq i hi).1⟩⟩,fun p hp=> ?_, ?_⟩
  ·obtain ⟨i,hi,rfl⟩:=List.getElem_of_mem hp;exact (hq i hi).2.1
  ·have h1:=qi5 l ((List.range len').map D) (by rw [hl];simp) (fun i h1 h2=>by rw [List.getElem_map,List.getElem_range];exact (hq i h1).2.2);have h2:=qe6 ((List.range len').map D) S;have aa:d=.slice ((List.range len').map D) S:=aa;rw [<-aa] at h2;omega
theorem qqe {b0:Nat} {v:Value} {d:DataW H} {p:List MemPlace} (hv:Value.okWide Tryz.prog W .any b0 39 v) (h:DataW.Trod enc Tryz.prog W 0 (fun _=>true) true 39 v d p):
  ∃(iv:Value) (ids:List Int) (f t:Int),v=.agg #[iv,.int .i64 f,.int .i64 t]∧RdZ W W.heap.size iv ids∧(∀z ∈ ids,(Lit.int .i64 z).wf=true)∧(Lit.int .i64 f).wf=true∧(Lit.int .i64 t).wf=true∧ids.length<=Rows.uptoBulk d:=by
 obtain ⟨v0,v1,v2,y0,y1,y2,n,rfl,ab,_,h0,h1,h2⟩:=Go.Joins.open_agg3 Tryz.underlying39 (by kernel_rfl) (by kernel_rfl) hv h;obtain ⟨gv,g,e0,hR,hz,hl,aa⟩:=qpa h0;obtain ⟨f,e1,_,wf1⟩:=DataW.trod_int Tryz.underlying2 h1;obtain ⟨t,e2,_,wf2⟩:=DataW.trod_int Tryz.underlying2 h2;injection e0 with e0 _;injection e1 with e1 _;injection e2 with e2 _;refine ⟨gv,g,f,t,by rw [e0,e1,e2],hR,aa,wf1,wf2, ?_⟩;rw [ab];simp only [Rows.uptoBulk,Rows.uptoBulkAll];omega
end
theorem qbM {H:Type} {enc:TypeId×Value->H} {C:Checked} {os:Os} {f:FuncId} {fn:Func} {s:OpenSpec} {conds:List PathCond} {apart:Bool} {laid:List (String×DataW Unit)} (modest:Bool) (w0:World) (args:Array Value) (hos:w0.os=os)
  (hsh:(w0.forCall (fun _ _=>0) ⟨#[],args,[]⟩).Shaped C.prog)
  (hok:Input.okWideB C.prog (w0.forCall (fun _ _=>0) ⟨#[],args,[]⟩) f ⟨#[],args,[]⟩=true)
  (hrow:s.preRow enc C.prog fn conds apart laid (w0.forCall (fun _ _=>0) ⟨#[],args,[]⟩).memory args):
  ∃(w:World) (tape:Tape) (i:Input),w.os=os∧(w.forCall tape i).Shaped C.prog∧i.vars=[]∧Input.okWide C.prog (w.forCall tape i) .any w.heap.size f i∧
   s.preRow enc C.prog fn conds apart laid (w.forCall tape i).memory i.args∧({ modest:=modest }:Assume).holds C.prog (lone (Frame.enter C.prog f i.args .normal) [] (w.forCall tape i)):=
 ⟨w0, fun _ _ => 0, ⟨#[], args, []⟩, hos, hsh, (Input.okWide_of_okWideB (base := 0) hok).1, (Input.okWide_of_okWideB hok).2, hrow, by
  simp only [Assume.holds];exact ⟨by simp,by simp,fun _=>Modest.zero,by simp,by simp⟩⟩
theorem qcG {W:World} (h:laidMetH Tryz.prog lst W):TabT W∧TabH W:=by
 rw [MakeChecks.laidMetH_plain _ _ _ (by kernel_rfl)] at h;obtain ⟨ps,hL,_⟩:=h;have hm:∀x,x ∈ [("esker/decimal.tens",Rows.laid_esker_decimal_tens),("esker/frame.halves",Rows.laid_esker_frame_halves)]->x ∈ lst:=by
  intro x hx;unfold lst Rows.datapartBuildsRow;simp only [List.mem_cons,List.not_mem_nil,or_false] at hx ⊢;rcases hx with h|h<;>simp only [h,true_or,or_true]
 exact ⟨qlN hL (hm _ (.head _)),ql5 hL (hm _ (.tail _ (.head _)))⟩
end Go.Proofs.YtnkelahimiipjaaGreatDoor
namespace Go.Proofs.YtnkelahimiipjaaGreatDoor
open Go.RowKit Go.Sort
theorem RdO.split {w:World} {base:Nat} {v:Value} {l:List Pts} (h:RdO w base v l):∃cs:List PtX,RdG EP w w.heap.size v cs∧cs.length=l.length∧∀i (h:i<cs.length) (h':i<l.length),cs[i].1=l[i].1∧Own w base 66 (qbC cs[i]) l[i].2:=by
 obtain ⟨A,c,rfl,hc,⟨rfl,hn⟩|⟨b,o,rfl,ab,hb,_,aa⟩⟩:=h
 ·exact ⟨[],⟨A,c,rfl,hc,hn,.inl rfl⟩,rfl,fun i h _=>by cases h⟩
 ·obtain ⟨cs,h1,h2⟩:=qcv (Q:=fun i (x:PtX)=>CellG EP w b (o+i*2) x∧∀h:i<l.length,x.1=l[i].1∧Own w base 66 (qbC x) l[i].2) (n:=l.length) fun i hi=>by
   obtain ⟨q1,sv,q2,q3,_⟩:=aa i hi;obtain ⟨A',c',e,_⟩:=q3.rd;subst e;exact ⟨(l[i].1,A',l[i].2.length,c'),qoT.2 ⟨q1,q2⟩,fun _=>⟨rfl,q3⟩⟩
  refine ⟨cs,⟨_,c,by rw [h1],by rw [h1];exact hc,fun e=>(by cases e),.inr ⟨b,o,rfl,hb,fun i hi=>(h2 i hi).1⟩⟩,h1,fun i hi h'=>(h2 i hi).2 h'⟩
theorem qnr {w:World} {v:Value} {cs1 cs2:List PtX} {l1 l2:List Pts} {b1 b2:Nat} (h:RdG EP w w.heap.size v (cs1++cs2)) (e1:cs1.length=l1.length) (e2:cs2.length=l2.length)
  (a1:∀i (h:i<cs1.length) (h':i<l1.length),cs1[i].1=l1[i].1∧Own w b1 66 (qbC cs1[i]) l1[i].2) (a2:∀i (h:i<cs2.length) (h':i<l2.length),cs2[i].1=l2[i].1∧Own w b2 66 (qbC cs2[i]) l2[i].2):RdP w w.heap.size v (l1++l2):=by
 refine qlX h (by simp [e1,e2]) fun i h1 h2=> ?_;by_cases hlt:i<cs1.length
 ·have aa:i<l1.length:=by rw [<-e1];exact hlt
  rw [List.getElem_append_left hlt,List.getElem_append_left aa];obtain ⟨q1,q2⟩:=a1 i hlt aa;exact ⟨q1,q2.rd,q2.nz⟩
 ·have ac:cs1.length<=i:=Nat.le_of_not_lt hlt;have ab:l1.length<=i:=by rw [<-e1];exact ac
  rw [List.length_append] at h1 h2;have k1:i-cs1.length<cs2.length:=by omega
  have k2:i-l1.length<l2.length:=by omega
  rw [List.getElem_append_right ac,List.getElem_append_right ab];obtain ⟨q1,q2⟩:=a2 (i-cs1.length) k1 (by omega);have e3:i-cs1.length=i-l1.length:=by rw [e1]
  simp only [e3] at q1 q2 ⊢;exact ⟨q1,q2.rd,q2.nz⟩
theorem qgc {w:World} {pb:Nat} {c:List Pts} (h:Prt w pb c) (T:Tabs w) (hc:Fil c) (z f t:Int):Calls Tryz.prog 18 #[.pointer (some ⟨pb,0,none⟩),.slice (some ⟨w.heap.size,0,none⟩) 1 1,.int .i64 f,.int .i64 t] (w.alloc (.cells #[.int .i64 z] 3)) fun e w'=>
  ∃A n k,n=(ofV c [z] f t).1.length∧e=.returned (.tuple #[.slice A n k,.int .i64 ((ofV c [z] f t).2:Int)])∧RdO w' w.heap.size (.slice A n k) (ofV c [z] f t).1∧Below w.heap.size w w':=by
 have aa:Below w.heap.size w (w.alloc (.cells #[.int .i64 z] 3)):=(Below.refl _ _).alloc (Nat.le_refl _) _;have ad:(w.alloc (.cells #[.int .i64 z] 3)).heap[w.heap.size]? =some (.cells #[.int .i64 z] 3 (0,0)):=heap_alloc_new w _;have ab:RdZ (w.alloc (.cells #[.int .i64 z] 3)) (w.alloc (.cells #[.int .i64 z] 3)).heap.size (.slice (some ⟨w.heap.size,0,none⟩) 1 1) [z]:=⟨_,1,rfl,Nat.le_refl _,.inr ⟨w.heap.size,0,rfl,(Array.getElem?_eq_some_iff.1 ad).1,fun i hi=>by
  have ae:i=0:=by have :i<1:=hi;omega
  subst ae;have hc:=qak w #[.int .i64 z] 3 0;exact hc⟩⟩
 refine (qiF (h.on aa) (T.below aa) hc _ [z] f t ab (by rw [List.length_singleton];omega)).mono ?_;rintro e w' ⟨r,rfl,hO,hB⟩;obtain ⟨A,k,e9,ac⟩:=hO;have hO:RdO w' (w.alloc (.cells #[.int .i64 z] 3)).heap.size r (ofV c [z] f t).1:=⟨A,k,e9,ac⟩;subst e9;exact ⟨A,_,k,rfl,rfl,hO.lower aa.size,aa.trans (hB.mono aa.size)⟩
theorem qh8 (v:Value) (l:List Pts) (id at_:Int) (W:World) (T:Tabs W) (hT:TabT W) (hH:TabH W) (hR:RdP W W.heap.size v l) (hwf:∀p ∈ l,(Lit.int .i64 p.1).wf=true) (h1:l.length<=1048576) (h2:qad l<=1048576) (_wi:(Lit.int .i64 id).wf=true) (_wa:(Lit.int .i64 at_).wf=true):
  Calls Tryz.prog 7 #[v,.int .i64 id,.int .i64 at_] W fun e w'=>e=.returned (.bool true)∧Below W.heap.size W w':=by
 have KA:=Lib.hid (qdE W T hT hH);have an:Hid (∀w,Below W.heap.size W w->Tabs w):=fun w h=>T.below h;have HT:Hid (∀w,Below W.heap.size W w->TabT w):=fun w h i hi=>(h.cell (qaa (hT i hi))).trans (hT i hi);have HH:Hid (∀w,Below W.heap.size W w->TabH w):=fun w h=>TabH.below hH h;have HR:Hid (∀w,Below W.heap.size W w->RdP w w.heap.size v l):=fun w h=>hR.on h;have HW:=Lib.hid hwf;have HS:Hid (l.length<=1048576∧qad l<=1048576):=⟨h1,h2⟩;obtain ⟨A,c,rfl,_⟩:=hR;obtain ⟨n,hn⟩:∃n,n=l.length:=⟨_,rfl⟩;rw [<-hn] at HR ⊢;clear T hT hH hwf h1 h2 hn _wi _wa;go_enter Tryz.func7,Tryz.ntmps7;go_wp2_with fail;refine KA.out.mono ?_;rintro e w1 ⟨rfl,bj⟩;have ar:=Lib.hid bj;have KF:=Lib.hid (qfi _ l w1 (HR.out w1 bj) HS.out.1 HS.out.2);clear bj KA;go_wp2_with fail;refine KF.out.mono ?_;rintro e wx ⟨rfl,bt⟩;have bt:=bt.symm;subst bt;clear KF;by_cases hf:l.length+qad l<=200
 ·rw [decide_eq_true hf];by_cases ha0:at_<0
  ·go_wp2_with fail;go_ret;exact ⟨rfl,ar.out⟩
  by_cases ha1:1099511627776<=at_
  ·go_wp2_with fail;go_ret;exact ⟨rfl,ar.out⟩
  obtain ⟨a,rfl⟩:∃a:Nat,at_=(a:Int):=⟨at_.toNat,by omega⟩;have ci:Hid ((a:Int)<1099511627776):=by show _<_;omega
  have dc:decide ((a:Int)<0)=false:=decide_eq_false (by omega);have cg:decide ((1099511627776:Int)<=(a:Int))=false:=decide_eq_false ha1;clear ha0 ha1;have KC:=Lib.hid (qiW _ l w1 (HR.out _ ar.out) (by omega) (by omega));go_wp2_with fail;refine KC.out.mono ?_;rintro e w0 ⟨rfl,cz⟩;have ao:Hid (Below W.heap.size W w0):=ar.out.trans (cz.mono ar.out.size);clear cz KC;obtain ⟨ck,bh⟩:∃ck,ck=chkV l:=⟨_,rfl⟩;rw [<-bh];by_cases hc0:ck=0
  ·subst hc0;have df:=qnU bh.symm;have KB:=Lib.hid (qcJ _ l w0 (an.out _ ao.out) (HT.out _ ao.out) (HH.out _ ao.out) (HR.out _ ao.out) HW.out (by have :=HS.out;omega) (by have :=HS.out;omega));have db:Hid (l.length<=200∧qad l<=200):=⟨by omega,by omega⟩;have bx:=Lib.hid df;clear bh df hf dc cg;go_wp2_with fail;refine KB.out.mono ?_;rintro e w2 ⟨v2,rfl,ax,cm⟩;rw [bx.out] at ax ⊢;dsimp only at ax ⊢;obtain ⟨A2,n2,c2,rfl⟩:=ax.sl;have a2:Hid (Below W.heap.size W w2):=ao.out.trans (cm.mono ao.out.size);have ai:=Fil.of bx.out;have KO:=Lib.hid (qms _ (qcj (qae l)) w2 (an.out _ a2.out) (HT.out _ a2.out) (HH.out _ a2.out) ax.rd (qc8 (fun b hb=>(qbj ai.cl b hb).1.2.2.1)) (Nat.le_trans (qds ai db.out.2) (by omega)));have cd:=Lib.hid (qeC bx.out);have af:=Lib.hid ai;clear ax cm KB ai;go_wp2_with fail;refine KO.out.mono ?_;rintro e w3 ⟨cf,⟨hn,_⟩|⟨c9,pb,ho,_,rfl,bu⟩⟩
   ·rw [cd.out] at hn;cases hn
   rw [cd.out] at ho;injection ho with ho;subst ho;have bv:Hid (Below W.heap.size W w3):=a2.out.trans (cf.mono a2.out.size);have dh:=Lib.hid bu;have KO1:=Lib.hid (qgc bu (an.out _ bv.out) af.out id 0 a);clear cf bu KO;go_wp2_with fail;refine KO1.out.mono ?_;rintro e w4 ⟨A4,n4,c4,c1,rfl,cr,bp⟩;have dp:=Lib.hid c1;have b5:Hid (Below W.heap.size W w4):=bv.out.trans (bp.mono bv.out.size);have bq:=Lib.hid (dh.out.on bp);have cn:=Lib.hid cr;obtain ⟨k1,b7⟩:∃k1,k1=(ofV l [id] 0 a).2:=⟨_,rfl⟩;rw [<-b7];have dg:=Lib.hid b7;have e1:IntKind.i64.wrap ((a:Int)+1)=(a:Int)+1:=IntWalk.i64_in _ (by have :=ci.out;omega);have KO2:=Lib.hid (qgc bq.out (an.out _ b5.out) af.out id ((a:Int)+1) 1099511627776);clear bp cr c1 b7 KO1;go_wp2_with fail;refine KO2.out.mono ?_;rintro e w5 ⟨A5,n5,c5,cs,rfl,ca,bi⟩;have dn:=Lib.hid cs;have b9:Hid (Below W.heap.size W w5):=b5.out.trans (bi.mono b5.out.size);have b6:=Lib.hid (bq.out.on bi);have a4:=Lib.hid (cn.out.on bi);have ce:=Lib.hid ca;obtain ⟨k2,bn⟩:∃k2,k2=(ofV l [id] ((a:Int)+1) 1099511627776).2:=⟨_,rfl⟩;rw [<-bn];have dj:=Lib.hid bn;have KO3:=Lib.hid (qgc b6.out (an.out _ b9.out) af.out id 0 1099511627776);clear bi ca cs bn KO2 cn bq;go_wp2_with fail;refine KO3.out.mono ?_;rintro e w6 ⟨A6,n6,c6,cx,rfl,c3,a3⟩;have dq:=Lib.hid cx;have bm:Hid (Below W.heap.size W w6):=b9.out.trans (a3.mono b9.out.size);have br:=Lib.hid (b6.out.on a3);have a6:=Lib.hid (a4.out.on a3);have ba:=Lib.hid (ce.out.on a3);have cy:=Lib.hid c3;obtain ⟨k3,b4⟩:∃k3,k3=(ofV l [id] 0 1099511627776).2:=⟨_,rfl⟩
   rw [<-b4];have dm:=Lib.hid b4;have KO4:=Lib.hid (qiF br.out (an.out _ bm.out) af.out (.slice none 0 0) [] 0 1099511627776 ⟨none,0,rfl,Nat.le_refl _,.inl rfl⟩ (by decide));clear a3 c3 cx b4 KO3 a4 b6 ce;go_wp2_with fail;refine KO4.out.mono ?_;rintro e w7 ⟨r7,rfl,bo,au⟩;rw [qpf] at bo ⊢;dsimp only at bo ⊢;obtain ⟨A7,c7,rfl,_⟩:=bo;have bz:Hid (Below W.heap.size W w7):=bm.out.trans (au.mono bm.out.size);have cb:=Lib.hid (br.out.on au);have bb:=Lib.hid (a6.out.on au);have bg:=Lib.hid (ba.out.on au);have be:=Lib.hid (cy.out.on au);have KO5:=Lib.hid (qgc cb.out (an.out _ bz.out) af.out id ((a:Int)+1) a);clear au KO4 a6 br ba cy;go_wp2_with fail;refine KO5.out.mono ?_;rintro e w8 ⟨A8,n8,c8,cv,rfl,dk,bd⟩;rw [qkm af.out.cl] at cv;obtain rfl:n8=0:=cv;have ct:Hid (Below W.heap.size W w8):=bz.out.trans (bd.mono bz.out.size);have ay:=Lib.hid (bb.out.on bd);have az:=Lib.hid (bg.out.on bd);have a0:=Lib.hid (be.out.on bd);obtain ⟨k5,bw⟩:∃k5,k5=(ofV l [id] ((a:Int)+1) a).2:=⟨_,rfl⟩;rw [<-bw];have dl:=Lib.hid bw;clear bd dk bw KO5 bb cb bg be;obtain ⟨cs1,c0,cj,cu⟩:=ay.out.split;obtain ⟨cs2,co,cq,cc⟩:=az.out.split;have ac:Hid (∀f t:Int,(ofV l [id] f t).1.length<=200∧qad (ofV l [id] f t).1<=200∧(ofV l [id] f t).2<=200):=fun f t=>by
    have q1:=qd2 (qdc l [id] f t);have q2:=qiE af.out.cl [id] f t;have q3:=qnf l [id] f t;have q4:=(qbH l (qbK af.out.cl)).1;have q5:=db.out;exact ⟨by omega,by omega,by omega⟩
   have de:=Lib.hid c0;have cw:=Lib.hid co;have b0:=Lib.hid (And.intro cj cq);have bl:=Lib.hid cu;have bs:=Lib.hid cc;have cp:Hid ((([]:List PtX).length+cs1.length)*32<=140737488355328):=(by have :=ac.out 0 a;show _<=_;simp;omega);have da:Hid ((cs1.length+cs2.length)*32<=140737488355328):=(by have :=ac.out 0 a;have :=ac.out ((a:Int)+1) 1099511627776;show _<=_;omega);clear c0 co cj cq cu cc ay az;go_wp2_with (first|(at_builtin;refine qhS EP rfl _ _ 22 62 rfl Tryz.underlying22 qgS rfl (by decide) w8.heap.size _ [] _ cs1 _ rfl (OwnG.nil _ _) rfl de.out cp.out ?cc1 ?_)|fail)
   case cc1=>exact Nat.le_refl _
   intro v9 w9 ad dd a7 bk;clear bk;have am:Below w8.heap.size w8 w9:=(OwnG.nil (E:=EP) (ty:=62) w8 w8.heap.size).step (Below.refl _ _) (Nat.le_refl _) dd;obtain ⟨A9,n9,k9,e9⟩:=ad.sl;subst e9;have aj:=Lib.hid am;have ag:=Lib.hid ad;have aw:=Lib.hid (cw.out.on am);clear ad dd a7 am de cw cp;go_wp2_with (first|(at_builtin;refine qhS EP rfl _ _ 22 62 rfl Tryz.underlying22 qgS rfl (by decide) w8.heap.size _ cs1 _ cs2 _ rfl ag.out rfl aw.out da.out ?cc2 ?_)|fail)
   case cc2=>exact aj.out.size
   intro v10 w10 ab a1 ap bf;clear bf;have aa:Below w8.heap.size w8 w10:=ag.out.step aj.out aj.out.size a1;have ak:=qnr ab.rd b0.out.1 b0.out.2 (fun i h h'=>⟨(bl.out i h h').1,(bl.out i h h').2.below aa⟩) (fun i h h'=>⟨(bs.out i h h').1,(bs.out i h h').2.below aa⟩);obtain ⟨A10,n10,k10,e10⟩:=ab.sl;subst e10;have ch:=Lib.hid ak;have a9:Hid (Below W.heap.size W w10):=ct.out.trans (aa.mono ct.out.size);have ae:=Lib.hid (a0.out.on aa);have KM:=Lib.hid (qdq _ _ w10 ae.out.rdP (by have :=ac.out 0 1099511627776;omega) (by have :=ac.out 0 1099511627776;omega));rw [qkO] at KM;clear ab a1 ap aa ak ag aw da a0 aj bl bs b0;obtain ⟨mm,b8⟩:∃mm,mm=qad (ofV l [id] 0 1099511627776).1:=⟨_,rfl⟩;rw [<-b8] at KM;have di:=Lib.hid b8;clear b8;go_wp2_with fail;refine KM.out.mono ?_;rintro e w11 ⟨rfl,ah⟩;have bc:Hid (Below W.heap.size W w11):=a9.out.trans (ah.mono a9.out.size);have al:=Lib.hid (ae.out.on ah);have KCl:=Lib.hid (qcf _ _ w11 (ch.out.on ah) (by rw [List.length_append];have :=ac.out 0 a;have :=ac.out ((a:Int)+1) 1099511627776;omega) (by
    have e:qad ((ofV l [id] 0 a).1++(ofV l [id] ((a:Int)+1) 1099511627776).1)=qad (ofV l [id] 0 a).1+qad (ofV l [id] ((a:Int)+1) 1099511627776).1:=(by unfold qad;rw [List.flatMap_append,List.length_append]);rw [e];have :=ac.out 0 a;have :=ac.out ((a:Int)+1) 1099511627776;omega))
   rw [qgs af.out.cl id a (by omega) ci.out] at KCl;clear ah KM ch ae;go_wp2_with fail;refine KCl.out.mono ?_;rintro e w12 ⟨r12,rfl,a8,aq⟩;have a5:Hid (Below W.heap.size W w12):=bc.out.trans (aq.mono bc.out.size);have KSm:=Lib.hid (qbQ r12 _ _ _ w12 a8 (al.out.on aq).rdP (qa3 (qdc l [id] 0 1099511627776) (by have :=ac.out 0 1099511627776;omega)));rw [decide_eq_true rfl] at KSm;obtain ⟨A12,c12,rfl,_⟩:=a8;obtain ⟨p1,p2,p3⟩:=qhl af.out.cl id a;obtain ⟨p4,p5⟩:=qka af.out.cl id;have b1:=(ac.out 0 a).2.2;have b2:=(ac.out ((a:Int)+1) 1099511627776).2.2;have b3:=(ac.out 0 1099511627776).2.2;rw [<-dg.out] at p1 p2 b1;rw [<-dj.out] at p1 p2 b2;rw [<-dm.out] at p1 p2 p4 p5 b3;rw [<-dl.out] at p3;rw [<-di.out] at p4 p5;clear aq KCl al ac;go_wp2_with fail;refine KSm.out.mono ?_;rintro e w13 ⟨rfl,hE⟩;have av:Hid (Below W.heap.size W w13):=a5.out.trans (hE.below.mono a5.out.size);have q1:IntKind.i64.wrap ((k1:Int)+(k2:Int))=(k1:Int)+(k2:Int):=IntWalk.i64_in _ (by omega);have q2:IntKind.i64.wrap ((k3:Int)+1)=(k3:Int)+1:=IntWalk.i64_in _ (by omega);have q3:IntKind.i64.wrap ((k3:Int)*16)=(k3:Int)*16:=IntWalk.i64_in _ (by omega);have i1:(k3:Int)<=(k1:Int)+(k2:Int):=(by omega);have i2:(k1:Int)+(k2:Int)<=(k3:Int)+1:=(by omega);have i3:(k5:Int)<=1:=(by omega);have i4:(k3:Int)<=(mm:Int):=(by omega);have i5:(mm:Int)<=(k3:Int)*16:=(by omega);clear hE KSm;by_cases hz:k3=0
   ·have g1:((k3:Int)==0)=true:=(by simp [hz]);have g2:((mm:Int)==0)=true:=(by simp;omega);clear p1 p2 p3 p4 p5 b1 b2 b3 hz;go_wp2_with fail;go_ret;exact ⟨rfl,av.out⟩
   ·have g1:((k3:Int)==0)=false:=(by simp [hz]);have g2:((mm:Int)==0)=false:=(by simp;omega);clear p1 p2 p3 p4 p5 b1 b2 b3 hz;go_wp2_with fail;go_ret;exact ⟨rfl,av.out⟩
  ·have g:(ck==0)=false:=(by simp [hc0]);have g2:(ck != 0)=true:=(by simp [hc0]);clear bh dc cg hc0;go_wp2_with fail;go_ret;exact ⟨rfl,ao.out⟩
 ·rw [decide_eq_false hf];go_wp2_with fail;go_ret;exact ⟨rfl,ar.out⟩
theorem qj5 (v:Value) (l:List Val) (W:World) (hR:RdG EV W W.heap.size v l) (hn:l.length<=1000) (hr:∀v ∈ l,qaH v=true):
  Calls Tryz.prog 54 #[v] W fun e w'=>PckR W l e w':=by
 have ah:Tryz.f54.results= #[.tmp 2,.tmp 3,.tmp 4]:=by kernel_rfl
 obtain ⟨A,c,rfl,hc,ag,hA⟩:=hR;obtain ⟨n,aa⟩:∃n,n=l.length:=⟨_,rfl⟩;have ai:RdG EV W W.heap.size (.slice A n c) l:=⟨A,c,by rw [aa],hc,ag,hA⟩;have ad:Hid (∀w k,Below W.heap.size W w->k<=n->RdG EV w w.heap.size (.slice A k c) (l.take k)):=fun w k h hk=>(ai.cutTo aa hk).on h;have KO:Hid (∀w k,Below W.heap.size W w->k<=n->Calls Tryz.prog 90 #[.slice A k c] w fun e w'=>OneR w (l.take k) e w'):=fun w k h hk=>
  ql1 _ _ w (ad.out w k h hk) (by rw [List.length_take];omega) (fun v hv=>hr v (List.mem_of_mem_take hv))
 have KL:Hid (∀w k,Below W.heap.size W w->k<=n->Calls Tryz.prog 91 #[.slice A k c] w fun e w'=>e=.returned (.int .i64 (qah (l.take k)).1)∧w'=w):=fun w k h hk=>
  qew _ _ w (ad.out w k h hk) (by rw [List.length_take];omega)
 rw [<-aa] at hc hn ⊢;have HN:=Lib.hid aa;clear aa hA hr ai ag ad;go_enter Tryz.func54,Tryz.ntmps54;go_wp2_with fail
 go_loopw [5,6,7] (fun i _ _ wl=>∃(k:Nat),k<=n∧i=.int .i64 k∧Hid (qa7 l n=qa7 l k)∧Hid (Below W.heap.size W wl)) (fun i _ _ _=>(intOf i).toNat)
 case atStart=>exact ⟨n,Nat.le_refl _,rfl,rfl,Below.refl _ _⟩
 case round =>
  obtain ⟨k,hk,rfl,HP,HB⟩:=hrel;by_cases h0:k=0
  ·subst h0;have ak:qa7 l n=0:=(by rw [HP.out];rfl);have ao:=Lib.hid ak;have al:Hid (∀(x:Int) r w,1<=qa7 l n->x=(qah (l.take (qa7 l n))).1∧OwnG EI 2 w W.heap.size r (oneV (l.take (qa7 l n)))):=fun x r w h=>(by omega);clear ak;go_wp2_with fail;refine bodyPost_ret (v:=.tuple #[.slice none 0 0,.int .i64 0,.int .i64 0]) (by unfold results;rw [ah];go_simp) rfl (show PckR W l (.returned (.tuple #[.slice none 0 0,.int .i64 0,.int .i64 0])) _ from ?_);unfold PckR;rw [<-HN.out];exact ⟨_,0,by rw [ao.out];rfl,al.out _ _ _,HB.out⟩
  ·have i1:(0:Int)<(k:Int):=(by omega);have i2:k<=c:=(by omega);have K1:=Lib.hid (KO.out wr k HB.out hk);go_wp2_with fail;refine K1.out.mono ?_;rintro _ w2 ⟨r2,rfl,af,aj⟩;have ae:Hid (Below W.heap.size W w2):=HB.out.trans (aj.mono HB.out.size);obtain ⟨q,hq⟩:∃q,q=qaJ (l.take k):=⟨_,rfl⟩;rw [<-hq] at af ⊢;have HQ:=Lib.hid hq;have an:Hid (q=true->OwnG EI 2 w2 W.heap.size r2 (oneV (l.take k))):=fun h=>(af h).lower HB.out.size;clear aj af hq K1;obtain ⟨k',rfl⟩:∃k',k=k'+1:=⟨k-1,by omega⟩;cases q with
   | true =>
     have hp:qa7 l n=k'+1:=(by rw [HP.out];unfold qa7;rw [if_pos HQ.out.symm]);have ab:=Lib.hid hp;have am:=Lib.hid (an.out rfl);have K2:=Lib.hid (KL.out w2 (k'+1) ae.out hk);obtain ⟨x,hx⟩:∃x,x=(qah (l.take (k'+1))).1:=⟨_,rfl⟩;rw [<-hx] at K2;have HX:=Lib.hid hx;clear hp hx;go_wp2_with fail;refine K2.out.mono ?_;rintro _ wx ⟨rfl,ac⟩;have ac:=ac.symm;subst ac;clear K2;go_wp2_with fail;refine bodyPost_ret (v:=.tuple #[r2,.int .i64 x,.int .i64 ((k'+1:Nat):Int)]) (by unfold results;rw [ah];go_simp) rfl (show PckR W l (.returned (.tuple #[r2,.int .i64 x,.int .i64 ((k'+1:Nat):Int)])) _ from ?_);unfold PckR;rw [<-HN.out];exact ⟨_,x,by rw [ab.out],fun _=>by rw [ab.out];exact ⟨HX.out,am.out⟩,ae.out⟩
   | false =>
     have hp:qa7 l n=qa7 l k':=by
      rw [HP.out];show (if qaJ (l.take (k'+1))=true then k'+1 else qa7 l k')=_;rw [if_neg (by rw [<-HQ.out];simp)]
     have ab:=Lib.hid hp;clear hp;go_wp2_with fail;go_roundw
     case rel=>exact ⟨k',by omega,by go_num,ab.out,ae.out⟩
     case measure=>first|(simp [intOf];done)|(simp [intOf];omega)
theorem qgK (v:Value) (l:List Smp) (W:World) (hR:Rd W W.heap.size v l) (hn:l.length<=1000000):
  Calls Tryz.prog 55 #[v] W fun e w'=>∃r,e=.returned r∧OwnG EV 64 w' W.heap.size r (qar l)∧Below W.heap.size W w':=by
 obtain ⟨A,c,rfl,hc,hA⟩:=hR;obtain ⟨n,ae⟩:∃n,n=l.length:=⟨_,rfl⟩;rw [<-ae] at hc hn ⊢;have HN:=Lib.hid ae;have HA:=Lib.hid hA;clear ae hA;go_enter Tryz.func55,Tryz.ntmps55;go_wp2_with fail
 go_loopw [3,4] (fun o i wl=>∃(k:Nat),k<=n∧i=.int .i64 k∧Hid (OwnG EV 64 wl W.heap.size o (qar (l.take k)))∧Hid (Below W.heap.size W wl)) (fun _ i _=>n-(intOf i).toNat)
 case atStart=>exact ⟨0,Nat.zero_le _,rfl,OwnG.nil _ _,Below.refl _ _⟩
 case round=>
  obtain ⟨k,hk,rfl,HO,HB⟩:=hrel;by_cases hlt:k<n
  ·have ac:k<l.length:=(by rw [<-HN.out];exact hlt);rcases HA.out with h0|⟨b,o,e,hb,af⟩
   ·subst h0;simp at ac
   subst e;obtain ⟨y,hy⟩:∃y,y=l[k]:=⟨_,rfl⟩;have aa:=(af k ac).below HB.out hb;rw [<-hy] at aa;obtain ⟨_,c0,c1,c2⟩:=aa;have hT:qar (l.take (k+1))=qar (l.take k)++[y.2]:=(by rw [List.take_succ_eq_append_getElem ac,<-hy];unfold qar;rw [List.map_append];rfl);have HT:=Lib.hid hT;have HL:Hid (((qar (l.take k)).length+1)*24<=140737488355328):=(by show _<=_;unfold qar;rw [List.length_map,List.length_take];omega);have i1:(k:Int)<(n:Int):=(by omega);clear hy af ac hb hT;go_wp2_with (first|(at_builtin;refine qd1 EV rfl _ _ 103 64 rfl Tryz.underlying103 qiy rfl (by decide) W.heap.size _ (qar (l.take k)) y.2 rfl (HO.out.alloc _) _ 0 1 rfl (CellG.mk (E:=EV) rfl _) HL.out ?sz ?_)|fail)
   case sz=>have :=HB.out.size;simp;omega
   intro v3 w3 ab hg ad;have ah:Hid (Below W.heap.size W w3):=HO.out.alloc (.cells #[.int .i64 y.2.1,.int .i64 y.2.2.1,.int .i64 y.2.2.2] 64) |>.step (HB.out.alloc HB.out.size _) (by have :=HB.out.size;simp;omega) hg;have ai:Hid (OwnG EV 64 w3 W.heap.size v3 (qar (l.take (k+1)))):=by
    show OwnG _ _ _ _ _ _;rw [HT.out];exact ab
   clear ab hg ad c0 c1 c2;go_wp2_with fail;go_roundw
   case rel=>exact ⟨k+1,by omega,by go_num,ai.out,ah.out⟩
   case measure=>simp [intOf];omega
  ·have ag:k=n:=(by omega);have i1:¬(k:Int)<(n:Int):=(by omega);have hO:=HO.out;rw [ag,HN.out,List.take_length] at hO;have aj:=Lib.hid hO;clear hO;go_wp2_with fail;go_ret;exact ⟨_,rfl,aj.out,HB.out⟩
theorem Rd.lift {w w':World} {v:Value} {l:List Smp} (h:Rd w w.heap.size v l) (k:Below w.heap.size w w'):Rd w' w'.heap.size v l:=(h.below k).mono k.size
structure RBk (W:World) (cs:List PtX) (bl:List Blk):Prop where
 len:cs.length=bl.length
 at_:∀i (h:i<cs.length) (h':i<bl.length),cs[i].1=bl[i].1∧Rd W W.heap.size (qbC cs[i]) bl[i].2
theorem RBk.nil (W:World):RBk W [] []:=⟨rfl,fun i h _=>by cases h⟩
theorem RBk.snoc {W:World} {cs:List PtX} {bl:List Blk} {x:PtX} {b:Blk} (h:RBk W cs bl) (h1:x.1=b.1) (h2:Rd W W.heap.size (qbC x) b.2):RBk W (cs++[x]) (bl++[b]):=by
 refine ⟨by simp [h.len],fun i hi ab=> ?_⟩;by_cases hlt:i<cs.length
 ·have aa:i<bl.length:=by rw [<-h.len];exact hlt
  rw [List.getElem_append_left hlt,List.getElem_append_left aa];exact h.at_ i hlt aa
 ·have e1:i=cs.length:=by simp at hi;omega
  have e2:i=bl.length:=by rw [<-h.len];exact e1
  have a1:(cs++[x])[i]=x:=by simp [e1]
  have a2:(bl++[b])[i]=b:=by simp [e2]
  rw [a1,a2];exact ⟨h1,h2⟩
theorem qo2:(Tryz.prog.info? 80).map (fun i=>(i.zero,i.size,i.bytes))=some (some (.agg #[.int .i64 0,.slice none 0 0]),2,32):=by kernel_rfl
theorem qdB (v : Value) (l : List Pts) (W : World) (hR : RdP W W.heap.size v l) (hk : ∀ p ∈ l, ∀ s ∈ p.2, qai s = true) (hnl : l.length <= 100000) (hm : qad l <= 2000) :
  Calls Tryz.prog 25 #[v] W fun e w'=>∃r cs,e=.returned r∧OwnG EP 80 w' W.heap.size r cs∧RBk W cs (qae l)∧Below W.heap.size W w':=by
 have bq:Hid (∀k,(qae (l.take k)).length<=2000):=fun k=>by
  have h1:=(qbH (l.take k) (fun p hp=>hk p (List.mem_of_mem_take hp))).1;have h2:=qbU l k;exact Nat.le_trans h1 (Nat.le_trans h2 hm)
 have bw:Hid (∀p ∈ l,p.2.length<=2000):=fun p hp=>Nat.le_trans (qcH hp) hm;have HK:=Lib.hid hk;obtain ⟨A,c,rfl,hc,hA⟩:=hR;obtain ⟨n,a1⟩:∃n,n=l.length:=⟨_,rfl⟩;rw [<-a1] at hc hnl ⊢;have HN:=Lib.hid a1;have HA:=Lib.hid hA;clear a1 hA hk hm;go_enter Tryz.func25,Tryz.ntmps25;go_wp2_with fail
 go_loopw [3,4,5,6,7,8,9] (fun o i _ _ _ _ _ wl=>∃(k:Nat) (cs:List PtX),k<=n∧i=.int .i64 k∧Hid (OwnG EP 80 wl W.heap.size o cs)∧Hid (RBk W cs (qae (l.take k)))∧Hid (Below W.heap.size W wl)) (fun _ i _ _ _ _ _ _=>n-(intOf i).toNat)
 case atStart=>exact ⟨0,[],Nat.zero_le _,rfl,OwnG.nil _ _,RBk.nil _,Below.refl _ _⟩
 case round =>
  obtain ⟨k,cs0,b7,rfl,ay,aq,ao⟩:=hrel;by_cases hlt:k<n
  ·have ak : k < l.length := by rw [<- HN.out]; exact hlt
   rcases HA.out with h0|⟨b,o,e,hb,bi⟩
   ·subst h0;simp at ak
   subst e;obtain ⟨p,hp⟩:∃p,p=l[k]:=⟨_,rfl⟩;obtain ⟨d0,sv,d1,al,_⟩:PtAt W W.heap.size b (o+k*2) p:=(by rw [hp];exact bi k ak);have ap:p ∈ l:=(by rw [hp];exact List.getElem_mem ak);have aa:=Lib.hid (HK.out p ap);have bx:=bw.out p ap;have c1:wr.cell? ⟨b,o+k*2+1,none⟩=some sv:=(ao.out.cell hb).trans d1;have am:Hid (∀w',Below W.heap.size W w'->w'.cell? ⟨b,o+k*2,none⟩=some (.int .i64 p.1)):=fun w' h=>(h.cell hb).trans d0;have a3:qae (l.take (k+1))=qae (l.take k)++(qaV p.2.length p.2).map (fun s=>(p.1,s)):=(by rw [qgI ak,<-hp]);have az:=Lib.hid a3;obtain ⟨As,cs,rfl,_⟩:=id al;obtain ⟨R,av⟩:∃R,R=p.2.length:=⟨_,rfl⟩;rw [<-av] at c1 al bx;have b2:=Lib.hid al;have b4:=Lib.hid av;have i1:(k:Int)<(n:Int):=(by omega);have bo:k<n:=hlt;clear hp d0 d1 al bi ak ap a3 av;go_wp2_with fail
   go_loopw [3,5,6,7,8,9] (fun o rv _ _ _ _ wl=>∃(m:Nat) (A':Option Addr) (c':Nat) (ls:List Smp) (cs:List PtX),rv=.slice A' m c'∧m<=R∧Hid (m=ls.length)∧Hid (Rd W W.heap.size (.slice A' m c') ls)∧Hid (∀s ∈ ls,qai s=true)∧Hid (∃bl,RBk W cs bl∧bl++(qaV ls.length ls).map (fun s=>(p.1,s))=qae (l.take (k+1)))∧Hid (OwnG EP 80 wl W.heap.size o cs)∧Hid (Below W.heap.size W wl)) (fun _ rv _ _ _ _ _=>qh0 rv)
   case atStart=>exact ⟨R,As,cs,p.2,cs0,rfl,Nat.le_refl _,b4.out,b2.out,aa.out,⟨_,aq.out,az.out.symm⟩,ay.out,ao.out⟩
   case round =>
    clear aq ay ao aa;obtain ⟨m,A',c',ls,cs2,rfl,cd,HM,ah,aa,aj,HO,HB⟩:=hrel;by_cases hm0:m=0
    ·have b1:Hid (RBk W cs2 (qae (l.take (k+1)))):=by
      obtain ⟨bl,h1,h2⟩:=aj.out;have e:ls=[]:=List.eq_nil_of_length_eq_zero (by rw [<-HM.out];exact hm0);rw [e] at h2;show RBk _ _ _;rw [<-h2];simpa [qaV] using h1
     have i2:¬(0:Int)<(m:Int):=(by omega);go_wp2_with fail;go_roundw
     case rel=>
      exact ⟨k+1,cs2,bo,by go_num,HO.out,b1.out,HB.out⟩
     case measure=>simp [intOf];omega
    ·have i2:(0:Int)<(m:Int):=(by omega);obtain ⟨A2,c2,e2,bs,bm⟩:=id ah.out;have ab:=HM.out;rw [<-ab] at e2 bs;injection e2 with e2 e3 e4;subst e2 e4;rcases bm with h0|⟨g,o2,rfl,b5,_⟩
     ·rw [h0] at ab;exact absurd ab hm0
     obtain ⟨q,hq⟩:∃q,q=min m 16:=⟨_,rfl⟩;have b8:min (m:Int) 16=(q:Int):=(by omega);have bv:q<=m:=(by omega);have b9:q<=16:=(by omega);have cb:q<=c':=(by omega);have bd:=qiR (ls:=ls) (q:=q) (by rw [<-ab];exact hq);have bc:=(ah.out.cutTo ab bv);have KV:Hid (∀w,Below W.heap.size W w->Calls Tryz.prog 55 #[.slice (some ⟨g,o2,none⟩) q c'] w fun e w'=>∃r,e=.returned r∧OwnG EV 64 w' w.heap.size r (qar (ls.take q))∧Below w.heap.size w w'):=fun w h=>qgK _ _ w (Rd.lift bc h) (by rw [List.length_take];omega);have a6:∀v ∈ qar (ls.take q),qaH v=true:=fun v hv=>by
      unfold qar at hv;obtain ⟨s,hs,rfl⟩:=List.mem_map.1 hv;have h1:=aa.out s (List.mem_of_mem_take hs);unfold qai at h1;rw [Bool.and_eq_true] at h1;exact h1.2
     have b3:(qar (ls.take q)).length<=16:=(by unfold qar;rw [List.length_map,List.length_take];omega);have KP:Hid (∀w r B,OwnG EV 64 w B r (qar (ls.take q))->Calls Tryz.prog 54 #[r] w fun e w'=>∃x y,e=.returned (.tuple #[x,.int .i64 y,.int .i64 (cutN ls:Nat)])∧Below w.heap.size w w'):=fun w r B h=>(qj5 r _ w h.rd (by omega) a6).mono (by
      rintro e w' ⟨x,y,rfl,_,hb⟩;exact ⟨x,y,by rw [bd.1],hb⟩)
     obtain ⟨kk,af⟩:∃kk,kk=cutN ls:=⟨_,rfl⟩;rw [<-af] at KP;have ce:1<=kk:=(by rw [af];exact qc0 aa.out (fun e=>hm0 (by rw [ab,e];rfl)));have au:=(qcU ls).1;rw [<-af,<-ab] at au;have bj:=Lib.hid af;have K1:=Lib.hid (KV.out wr HB.out);have ca:kk<=c':=(by omega);clear bd bc a6 b3 af hq KV e3 ab b5;go_wp2_with fail;refine K1.out.mono ?_;rintro e w2 ⟨r2,rfl,a4,aw⟩;have ax:Hid (Below W.heap.size W w2):=HB.out.trans (aw.mono HB.out.size);have a5:=Lib.hid (HO.out.below aw);have K2:=Lib.hid (KP.out w2 r2 _ a4);clear a4 aw K1 KP;go_wp2_with fail;refine K2.out.mono ?_;rintro e w3 ⟨x3,y3,rfl,ar⟩;have ae:Hid (Below W.heap.size W w3):=ax.out.trans (ar.mono ax.out.size);have be:=Lib.hid (a5.out.below ar);clear ar K2 a5;have i3:¬(kk:Int)<1:=(by omega);obtain ⟨pid,ad⟩:∃pid,pid=p.1:=⟨_,rfl⟩;rw [<-ad] at am aj az;have ag:=Lib.hid ad;have bg:Hid (Rd W W.heap.size (.slice (some ⟨g,o2,none⟩) kk c') (ls.take kk)):=ah.out.cutTo HM.out au;have bb:Hid (∃bl,RBk W (cs2++[(pid,some ⟨g,o2,none⟩,kk,c')]) bl∧bl++(qaV (ls.drop kk).length (ls.drop kk)).map (fun s=>(pid,s))=qae (l.take (k+1))):=by
      obtain ⟨bl,h1,h2⟩:=aj.out;refine ⟨_,h1.snoc (x:=(pid,some ⟨g,o2,none⟩,kk,c')) (b:=(pid,ls.take kk)) rfl bg.out, ?_⟩;have h3:=qg9 h2 (fun e=>hm0 (by rw [HM.out,e];rfl)) aa.out;rw [<-bj.out] at h3;exact h3
     have bz:Hid ((cs2.length+1)*32<=140737488355328):=by
      obtain ⟨bl,h1,h2⟩:=aj.out;have h4:=congrArg List.length h2;rw [List.length_append] at h4;have h5:=bq.out (k+1);have h6:=h1.len;show _<=_;omega
     have bk:Hid (Rd W W.heap.size (.slice (some ⟨g,o2+kk*4,none⟩) (m-kk) (c'-kk)) (ls.drop kk)):=Rd.cutFrom0 HM.out ah.out au;have a8:Hid (∀s ∈ ls.drop kk,qai s=true):=fun s hs=>aa.out s (List.mem_of_mem_drop hs);have a2:Hid (m-kk=(ls.drop kk).length):=(by show _=_;rw [List.length_drop,<-HM.out]);have c0:=am.out w3 ae.out;have an:Hid (∀w' o,Below w3.heap.size w3 w'->Below w3.heap.size w3 (w'.alloc o)):=fun w' o h=>h.alloc h.size _;have b6:Hid (∀w',Below w3.heap.size w3 w'->OwnG EP 80 w' W.heap.size u3 cs2):=fun w' h=>be.out.below h;have bu:Hid (∀w',Below w3.heap.size w3 w'->W.heap.size<=w'.heap.size):=fun w' h=>Nat.le_trans ae.out.size h.size;have br:Hid (∀w',Below w3.heap.size w3 w'->w'.cell? ⟨b,o+k*2,none⟩=some (.int .i64 pid)):=fun w' h=>am.out w' (ae.out.trans (h.mono ae.out.size));have bp:Hid (∀w' w7,Below w3.heap.size w3 w'->w'.grownBy w7 u3.ownBlock->Below W.heap.size W w7∧w7.cell? ⟨b,o+k*2,none⟩=some (.int .i64 pid)):=fun w' w7 h hg=>by
      have hx:=(ae.out.trans (h.mono ae.out.size)).grown hg (Nat.le_trans ae.out.size h.size) (fun _ e=>(be.out.blk e).1);exact ⟨hx,am.out w7 hx⟩
     have bt:Hid (∀w':World,CellG EP (w'.alloc (.cells #[.int .i64 pid,.slice (some ⟨g,o2,none⟩) kk c'] 80)) w'.heap.size 0 (pid,some ⟨g,o2,none⟩,kk,c')):=fun w'=>CellG.mk (E:=EP) (w:=w') (cs:= #[.int .i64 pid,.slice (some ⟨g,o2,none⟩) kk c']) (x:=(pid,some ⟨g,o2,none⟩,kk,c')) rfl _;clear ad aj az aa ah bg HO HB ax HM;go_wp2_with fail
     go_region_held3 (fun w'=>w'.cell? ⟨b,o+k*2,none⟩=some (.int .i64 pid))
      (first|exact c0|assumption|exact br.out _ (by repeat (first|exact Below.refl _ _|assumption|refine an.out _ _ ?_|refine Below.drew ?_)))
      ((refine qe2 EP (by rfl) _ _ 50 80 (by rfl) Tryz.underlying50 qo2 (by rfl) (by decide) W.heap.size _ cs2 (pid,some ⟨g,o2,none⟩,kk,c') (by rfl) (b6.out _ (by repeat (first|exact Below.refl _ _|assumption|refine an.out _ _ ?_|refine Below.drew ?_))) _ 0 1 (by rfl) (bt.out _) bz.out (bu.out _ (by repeat (first|exact Below.refl _ _|assumption|refine an.out _ _ ?_|refine Below.drew ?_))) ?_;intro v7 w7 ac a9 ai;have bh:=Lib.hid (bp.out _ w7 (by repeat (first|exact Below.refl _ _|assumption|refine an.out _ _ ?_|refine Below.drew ?_)) a9);have a7:=Lib.hid ac;have c7:=bh.out.2;clear ac a9 ai))
     all_goals (
      have ba:=Lib.hid bh.out.1;clear c7;by_cases hkc3:kk=c'
      ·have bf:Hid (0=(ls.drop kk).length):=(by show _=_;rw [<-a2.out];omega);have b0:Hid (Rd W W.heap.size (.slice (some ⟨g,o2,none⟩) 0 0) (ls.drop kk)):=by
        have e:ls.drop kk=[]:=List.eq_nil_of_length_eq_zero bf.out.symm;show Rd _ _ _ _;rw [e];exact ⟨_,0,rfl,Nat.le_refl _,.inl rfl⟩
       have cc:m=kk:=(by omega);go_wp2_with fail;go_roundw
       case rel=>exact ⟨0,some ⟨g,o2,none⟩,0,ls.drop kk,cs2++[((pid,some (⟨g,o2,none⟩:Addr),kk,c'):PtX)],rfl,by omega,bf.out,b0.out,a8.out,by rw [<-ag.out];exact bb.out,a7.out,ba.out⟩
       case measure=>simp [qh0];omega
      ·go_wp2_with fail;go_roundw
       case rel=>exact ⟨m-kk,some ⟨g,o2+kk*4,none⟩,c'-kk,ls.drop kk,cs2++[((pid,some (⟨g,o2,none⟩:Addr),kk,c'):PtX)],rfl,by omega,a2.out,bk.out,a8.out,by rw [<-ag.out];exact bb.out,a7.out,ba.out⟩
       case measure=>simp [qh0];omega)
  ·have a0:k=n:=(by omega);have i1:¬(k:Int)<(n:Int):=(by omega);have hO:=aq.out;rw [a0,HN.out,List.take_length] at hO;have bn:=Lib.hid hO;clear hO;go_wp2_with fail;go_ret;exact ⟨_,rfl,cs0,ay.out,bn.out,ao.out⟩
end Go.Proofs.YtnkelahimiipjaaGreatDoor
