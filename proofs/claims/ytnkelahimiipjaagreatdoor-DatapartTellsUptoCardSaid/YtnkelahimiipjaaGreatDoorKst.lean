/-
 A map whose elements are rows of samples that the call made itself: no two keys' rows in one block.
-/
import Derived.Test.YtnkelahimiipjaaGreatDoorOwt
import Derived.Maps.OwnOps
import Derived.Maps.OwnSet
import Derived.Maps.Views
import Derived.Test.YtnkelahimiipjaaGreatDoorQpt
import Derived.Deep.AppendLies
import Derived.Deep.RegionHeld3
import Derived.Deep.DrawnRows
import Derived.StillTailTactics
import Derived.Shelf.SlIterI.Stops
import Derived.Shelf.SlIterI.Sorted
import Derived.Shelf.Sort.Plain
import Derived.Shelf.Slices.In.SortNone
import Derived.Test.YtnkelahimiipjaaGreatDoorMapShelf
set_option maxRecDepth 100000
set_option maxHeartbeats 8000000
namespace Go.Proofs.YtnkelahimiipjaaGreatDoor
open Go.RowKit Go.Sort Go.Maps
def slE:Value->Option (DataW Unit×List MemPlace)
 | .slice none 0 0=>some (.nil,[])
 | .slice (some ⟨g,0,none⟩) n c=>some (.agg [.lit (.int .i64 g),.lit (.int .i64 n),.lit (.int .i64 c)],[])
 |_=>none
theorem qfZ {v:Value} {y:DataW Unit×List MemPlace} (h:slE v=some y):(v=.slice none 0 0∧y=(.nil,[]))∨∃g n c:Nat,v=.slice (some ⟨g,0,none⟩) n c∧y=(.agg [.lit (.int .i64 g),.lit (.int .i64 n),.lit (.int .i64 c)],[]):=by
 unfold slE at h
 split at h
 ·exact .inl ⟨rfl,(Option.some.inj h).symm⟩
 ·exact .inr ⟨_,_,_,rfl,(Option.some.inj h).symm⟩
 ·cases h
theorem qfW {v v':Value} {d:DataW Unit} {p p':List MemPlace} (h:slE v=some (d,p)) (h':slE v'=some (d,p')):v=v':=by
 rcases qfZ h with ⟨rfl,e⟩|⟨g,n,c,rfl,e⟩<;>rcases qfZ h' with ⟨rfl,e'⟩|⟨g',n',c',rfl,e'⟩
 ·rfl
 ·have e1:=(Prod.mk.inj e).1;have e2:=(Prod.mk.inj e').1;rw [e1] at e2;cases e2
 ·have e1:=(Prod.mk.inj e).1;have e2:=(Prod.mk.inj e').1;rw [e1] at e2;cases e2
 ·have e1:=(Prod.mk.inj e).1;have e2:=(Prod.mk.inj e').1;rw [e1] at e2;simp at e2;obtain ⟨r1,r2,r3⟩:=e2;obtain rfl:g=g':=by omega
  obtain rfl:n=n':=by omega
  obtain rfl:c=c':=by omega
  rfl
theorem Own.slE {w:World} {B e:Nat} {v:Value} {l:List Smp} (h:Own w B e v l):∃d,slE v=some (d,[]):=by
 rcases h.2 with ⟨rfl,_⟩|⟨g,cap,cur,rfl,_⟩
 ·exact ⟨_,rfl⟩
 ·exact ⟨_,rfl⟩
structure GM (w:World) (b B n:Nat) (D:DataW Unit) (L:Int->List Smp) (S:Int->Bool):Prop where
 map:w.ownsMap Tryz.prog 3 slE b n D
 lt:b<B
 isMap:IsMap D
 val:∀k,∃v,slE v=some (D.atKey (.int .i64 k) .nil,[])∧Own w B 66 v (L k)
 apart:∀k k' v v',k≠k'->slE v=some (D.atKey (.int .i64 k) .nil,[])->slE v'=some (D.atKey (.int .i64 k') .nil,[])->v.ownBlock=none∨v.ownBlock≠v'.ownBlock
 has:∀k,Maps.has D (.int .i64 k)=S k
theorem qn7 {k k':Int} (h:k≠k'):(Lit.int .i64 k)≠Lit.int .i64 k':=fun e=>h (by injection e)
theorem qoe (k:Int):WideAt.IsKeyLit (.int .i64 k):=trivial
theorem GM.made (w:World):GM (w.alloc (.map #[] 0)) w.heap.size (w.heap.size+1) 0 (.map []) (fun _=>[]) (fun _=>false):=
 ⟨World.ownsMap_made w _ _ _, Nat.lt_succ_self _, isMap_empty, fun _ => ⟨.slice none 0 0, rfl, Own.nil _ _ _⟩,
  fun k k' v v' _ h _=>.inl (by
   rcases qfZ h with ⟨rfl,_⟩|⟨g,n,c,_,e⟩
   ·rfl
   ·have :=(Prod.mk.inj e).1;cases this),fun _=>rfl⟩
theorem qlA {w:World} {B e b:Nat} {v:Value} {l:List Smp} (h:Own w B e v l) (hb:b<B):v.ownBlock=none∨v.ownBlock≠some b:=by
 cases hv:v.ownBlock with
 |none=>exact .inl rfl
 | some g =>
   refine .inr fun e=> ?_;have :=(h.blk hv).1;injection e with e;omega
theorem GM.kept {w w':World} {b B n:Nat} {D:DataW Unit} {L:Int->List Smp} {S:Int->Bool} (h:GM w b B n D L S) (hg:w.grownBy w' none):GM w' b B n D L S:=by
 refine ⟨h.map.kept hg (by simp),h.lt,h.isMap,fun x=> ?_,h.apart,h.has⟩;obtain ⟨v,h1,h2⟩:=h.val x;refine ⟨v,h1,h2.kept hg ?_⟩;cases v.ownBlock with
 |none=>exact .inl rfl
 |some g=>exact .inr (by simp)
theorem GM.step {w w1 w2:World} {b B n:Nat} {D:DataW Unit} {L:Int->List Smp} {S:Int->Bool} (h:GM w b B n D L S) {k:Int} {v v':Value} {s:List Smp} {d:DataW Unit} (hv:slE v=some (D.atKey (.int .i64 k) .nil,[]))
  (hg:w.grownBy w1 v.ownBlock) (ho:Own w1 B 66 v' (L k++s)) (hloc:v'.ownBlock=v.ownBlock∨v'.ownBlock=some w.heap.size) (hd:slE v'=some (d,[])) (hm:w2.ownsMap Tryz.prog 3 slE b (n+1) (D.put (.int .i64 k) d)) (hg2:w1.grownBy w2 (some b)):
  GM w2 b B (n+1) (D.put (.int .i64 k) d) (fun x=>if x=k then L k++s else L x) (fun x=>decide (x=k) || S x):=by
 have aa:(D.put (.int .i64 k) d).atKey (.int .i64 k) .nil=d:=atKey_put_same h.isMap (qoe k) _ _;have ab:∀x,x≠k->(D.put (.int .i64 k) d).atKey (.int .i64 x) .nil=D.atKey (.int .i64 x) .nil:=fun x hx=>atKey_put_other (qn7 hx) _ _;have ad:∀x u,x≠k->slE u=some (D.atKey (.int .i64 x) .nil,[])->u.ownBlock=none∨u.ownBlock≠v'.ownBlock:=by
  intro x u hx hu;rcases hloc with e|e
  ·rw [e];exact h.apart x k u v hx hu hv
  ·obtain ⟨u',h1,h2⟩:=h.val x;obtain rfl:=qfW h1 hu;cases hub:u'.ownBlock with
   |none=>exact .inl rfl
   | some g =>
     refine .inr fun e'=> ?_;rw [e] at e';injection e' with e';have :=(h2.blk hub).2;omega
 refine ⟨hm,h.lt,h.isMap.put _ _,fun x=> ?_,fun x x' u u' ae hu ac=> ?_,fun x=> ?_⟩
 ·by_cases hx:x=k
  ·subst hx;rw [aa,if_pos rfl];exact ⟨v',hd,ho.kept hg2 (qlA ho h.lt)⟩
  ·rw [ab x hx,if_neg hx];obtain ⟨u,h1,h2⟩:=h.val x;have h3:=h2.kept hg (h.apart x k u v hx h1 hv);exact ⟨u,h1,h3.kept hg2 (qlA h3 h.lt)⟩
 ·by_cases hx:x=k
  ·subst hx;rw [aa] at hu;rw [ab x' (Ne.symm ae)] at ac;obtain rfl:=qfW hu hd;rcases ad x' u' (Ne.symm ae) ac with e|e
   ·cases hb:u.ownBlock with
    |none=>exact .inl rfl
    |some g=>exact .inr (by rw [e];simp)
   ·exact .inr (Ne.symm e)
  ·rw [ab x hx] at hu;by_cases hx':x'=k
   ·subst hx';rw [aa] at ac;obtain rfl:=qfW ac hd;exact ad x u hx hu
   ·rw [ab x' hx'] at ac;exact h.apart x x' u u' ae hu ac
 ·by_cases hx:x=k
  ·subst hx;rw [has_put_same h.isMap (qoe x)];simp
  ·rw [has_put_other (qn7 hx),h.has x];simp [hx]
theorem qlV (w:World):(zeroValue 60).run Tryz.prog w=.ok (.slice none 0 0) w:=by kernel_rfl
theorem qeZ {w:World} {b n:Nat} {D:DataW Unit} {k:Int} {v:Value} (h:w.ownsMap Tryz.prog 3 slE b n D) (hk:(Lit.int .i64 k).wf=true) (hv:slE v=some (D.atKey (.int .i64 k) .nil,[])):
  (Instr.lookup 155 (.map (some b)) (.int .i64 k) false).run Tryz.prog w=.ok v w:=by
 obtain ⟨u,ps,hr,hu⟩:=h.lookup (int_keyed Tryz.underlying3) Tryz.underlying155 (qlV w) (zd:=.nil) (zp:=[]) rfl (keyOf_int_mk Tryz.underlying3 hk);obtain rfl:=qfW hu hv;exact hr
theorem qj6 {w:World} {b n:Nat} {D:DataW Unit} {k:Int} {v:Value} {d:DataW Unit} (h:w.ownsMap Tryz.prog 3 slE b n D) (hn:n<maxLen) (hk:(Lit.int .i64 k).wf=true) (hv:slE v=some (d,[])):
  ∃w',(Instr.mapUpdate 155 (.map (some b)) (.int .i64 k) v).run Tryz.prog w=.ok () w'∧w'.ownsMap Tryz.prog 3 slE b (n+1) (D.put (.int .i64 k) d)∧w.grownBy w' (some b):=
 h.update (int_keyed Tryz.underlying3) Tryz.underlying155 hn (keyOf_int_mk Tryz.underlying3 hk) hv
theorem qnq {P:Program} {w:World} {o:Oper} {a:Act} {K:Act->World->Prop} {Q:Exit->Act->World->Prop} (s x:Operand) (t e:TypeId)
  (ho:o.op=.call { callee:=.builtin .append,args:= #[s,x],argTypes:= #[t,t] }) (ht:P.underlying t=some (.slice e))
  (hinf:(P.info? e).map (fun i=>(i.zero,i.size,i.bytes))=some (some (.agg #[.int .i64 0,.int .i64 0,.int .i64 0,.int .i64 0]),4,32))
  (base:Nat) (v:Value) (l:List Smp) (xv:Value) (l2:List Smp) (B:Nat) (hs:a.eval s=v) (hown:Own w base e v l) (hx:a.eval x=xv) (hR:Rd w B xv l2) (hz:Nz xv)
  (hl:(l.length+l2.length)*32<=140737488355328) (hbase:base<=w.heap.size)
  (h:∀v' w',Own w' base e v' (l++l2)->w.grownBy w' v.ownBlock->(v'.ownBlock=v.ownBlock∨v'.ownBlock=some w.heap.size)->K (a.put o.dst v') w'):
  o.wp P a w K Q:=by
 obtain ⟨i,hi,ah,ai,ac⟩:=qdj hinf;obtain ⟨A,c,rfl,hc,hA⟩:=hR;cases A with
 | none =>
   have ae:=hz _ _ rfl;subst ae;have af:l2=[]:=List.eq_nil_of_length_eq_zero (by omega);subst af;have ab:=run_append_owned_none (P:=P) (w:=w) base t o.type e i 4 ht hi v l.length (qaQ l) hown;unfold Oper.wp;simp [execOp,ho,resolve,invoke,builtin,hs,hx,ab,Result.andThen];exact h v w (by rw [List.append_nil];exact hown) ⟨rfl,rfl,rfl,Nat.le_refl _,fun _ _ _=>rfl⟩ (.inl rfl)
 | some ad =>
   have aa:∀j u,(qaQ l2)[j]? =some u->w.cell? (ad.add j)=some u:=by
    rcases hA with rfl|⟨b,o,h1,_,ag⟩
    ·intro j u hu;simp [qaQ] at hu
    ·injection h1 with h1;subst h1;exact qd8 ag
   obtain ⟨v',w',hr,h2,h3,_,h5⟩:=run_append_own_at (P:=P) w base t o.type e i _ 4 32 ht hi ah ai ac rfl (by decide) v l.length (qaQ l) hown ad l2.length c (qaQ l2) (qcs l2) aa (qeW l2) (by unfold maxLen;omega) hl hbase;unfold Oper.wp execOp;simp only [ho,resolve,invoke,builtin,Sem.run_bind,Sem.run_pure,Result.andThen_ok,List.map_toArray,List.map_cons,List.map_nil,hs,hx,hr];refine h v' w' ?_ h3 h5;unfold Own;rw [qcB,List.length_append];exact h2
theorem qlO {P:Program} {w:World} {ops:Array Oper} {o:Oper} {a:Act} {K:Act->World->Prop} {Q:Exit->Act->World->Prop} {E:Prop} (hgd:o.guard=none) (s x:Operand) (t e:TypeId)
  (ho:o.op=.call { callee:=.builtin .append,args:= #[s,x],argTypes:= #[t,t] }) (ht:P.underlying t=some (.slice e))
  (hinf:(P.info? e).map (fun i=>(i.zero,i.size,i.bytes))=some (some (.agg #[.int .i64 0,.int .i64 0,.int .i64 0,.int .i64 0]),4,32))
  (base:Nat) (v:Value) (l:List Smp) (xv:Value) (l2:List Smp) (B:Nat) (hs:a.eval s=v) (hown:Own w base e v l) (hx:a.eval x=xv) (hR:Rd w B xv l2) (hz:Nz xv)
  (hl:(l.length+l2.length)*32<=140737488355328) (hbase:base<=w.heap.size)
  (h:∀v' w',Own w' base e v' (l++l2)->w.grownBy w' v.ownBlock->(v'.ownBlock=v.ownBlock∨v'.ownBlock=some w.heap.size)->K (a.put o.dst v') w'):
  if Region.wanted o (yielded ops a.tmps)=true then o.wp P a w K Q else E:=by
 have hw:Region.wanted o (yielded ops a.tmps)=true:=by simp [Region.wanted,hgd]
 rw [if_pos hw];exact qnq s x t e ho ht hinf base v l xv l2 B hs hown hx hR hz hl hbase h
def ofL (l:List Pts) (k:Int):List Smp:=(l.filter (fun p=>p.1==k)).flatMap (fun p=>p.2)
def hasL (l:List Pts) (k:Int):Bool:=l.any (fun p=>p.1==k)
theorem qi8 (l:List Pts) (p:Pts) (k:Int):ofL (l++[p]) k=if k=p.1 then ofL l p.1++p.2 else ofL l k:=by
 unfold ofL;rw [List.filter_append,List.flatMap_append];by_cases h:k=p.1
 ·subst h;rw [if_pos rfl];simp
 ·rw [if_neg h];have :(p.1==k)=false:=by rw [beq_eq_false_iff_ne];exact fun e=>h e.symm
  simp [this]
theorem qmd (l:List Pts) (p:Pts) (k:Int):hasL (l++[p]) k=(decide (k=p.1) || hasL l k):=by
 unfold hasL;rw [List.any_append];have :(p.1==k)=decide (k=p.1):=by
  by_cases h:k=p.1
  ·rw [decide_eq_true h,beq_iff_eq];exact h.symm
  ·rw [decide_eq_false h,beq_eq_false_iff_ne];exact fun e=>h e.symm
 simp [this,Bool.or_comm]
def RdR (w:World) (B:Nat) (v:Value) (ll:List (List Pts)):Prop:=
 ∃A c,v=.slice A ll.length c∧ll.length<=c∧(ll=[]∨∃b o,A=some ⟨b,o,none⟩∧b<B∧∀i (h:i<ll.length),∃sv,w.cell? ⟨b,o+i,none⟩=some sv∧RdP w B sv ll[i])
def Gath (w:World) (b:Nat) (l:List Pts):Prop:=∃n D,n<=l.length∧GM w b (b+1) n D (ofL l) (hasL l)
theorem Gath.made (w:World):Gath (w.alloc (.map #[] 0)) w.heap.size []:=⟨0,.map [],Nat.le_refl _,GM.made w⟩
theorem Gath.kept {w w':World} {b:Nat} {l:List Pts} (h:Gath w b l) (hg:w.grownBy w' none):Gath w' b l:=by
 obtain ⟨n,D,hn,h⟩:=h;exact ⟨n,D,hn,h.kept hg⟩
theorem Gath.round {w:World} {b:Nat} {l:List Pts} {p:Pts} (h:Gath w b l) (hw:(Lit.int .i64 p.1).wf=true) (hl:l.length<1000000000):
  ∃ v, Own w (b + 1) 66 v (ofL l p.1) ∧
   (∀w',w.grownBy w' none->(Instr.lookup 155 (.map (some b)) (.int .i64 p.1) false).run Tryz.prog w'=.ok v w')∧
   (∀w' w1,w.grownBy w' none->w'.grownBy w1 v.ownBlock->(Instr.lookup 155 (.map (some b)) (.int .i64 p.1) false).run Tryz.prog w1=.ok v w1)∧
   ∀w' w1 v',w.grownBy w' none->w'.grownBy w1 v.ownBlock->Own w1 (b+1) 66 v' (ofL l p.1++p.2)->(v'.ownBlock=v.ownBlock∨v'.ownBlock=some w'.heap.size)->
    ∃w2,(Instr.mapUpdate 155 (.map (some b)) (.int .i64 p.1) v').run Tryz.prog w1=.ok () w2∧Gath w2 b (l++[p])∧w1.grownBy w2 (some b):=by
 obtain ⟨n,D,hn,G⟩:=h;obtain ⟨v,hv,ho⟩:=G.val p.1;have ac:v.ownBlock=none∨v.ownBlock≠some b:=qlA ho (Nat.lt_succ_self b);have ab:some b≠v.ownBlock:=by
  intro e;rcases ac with h|h
  ·rw [h] at e;cases e
  ·exact h e.symm
 refine ⟨v,ho,fun w' hg=>qeZ (G.map.kept hg (by simp)) hw hv,fun w' w1 hg hg1=>qeZ ((G.kept hg).map.kept hg1 ab) hw hv,fun w' w1 v' hg hg1 ho1 hloc=> ?_⟩;have G':=G.kept hg;obtain ⟨d,hd⟩:=ho1.slE;have ae:w1.ownsMap Tryz.prog 3 slE b n D:=G'.map.kept hg1 ab;obtain ⟨w2,hr,ad,aa⟩:=qj6 ae (by unfold maxLen;omega) hw hd;refine ⟨w2,hr,⟨n+1,D.put (.int .i64 p.1) d,(by rw [List.length_append];simp;exact hn), ?_⟩,aa⟩;have :=G'.step hv hg1 ho1 hloc hd ad aa;have e1:(fun x=>if x=p.1 then ofL l p.1++p.2 else ofL l x)=ofL (l++[p]):=by funext x;rw [qi8]
 have e2:(fun x=>decide (x=p.1) || hasL l x)=hasL (l++[p]):=by funext x;rw [qmd]
 rw [e1,e2] at this;exact this
end Go.Proofs.YtnkelahimiipjaaGreatDoor
namespace Go.Proofs.YtnkelahimiipjaaGreatDoor
open Go.RowKit Go.Sort Go.Maps
attribute [local go_sem ↓] Go.wp_at_zero Go.wp_at_succ
theorem qhZ (l:List Pts) (k:Int):(ofL l k).length<=(l.flatMap (fun p=>p.2)).length:=by
 induction l with
 |nil=>exact Nat.le_refl _
 | cons a l ih =>
   unfold ofL at *;rw [List.filter_cons]
   split
   ·rw [List.flatMap_cons,List.flatMap_cons,List.length_append,List.length_append];omega
   ·rw [List.flatMap_cons,List.length_append];omega
theorem qiv {ll:List (List Pts)} {k:Nat} (h:k<ll.length) (j:Nat):∃r,ll.flatten=(ll.take k).flatten++(ll[k]).take j++r:=by
 refine ⟨(ll[k]).drop j++(ll.drop (k+1)).flatten, ?_⟩;have e:ll=ll.take k++ll[k]::ll.drop (k+1):=by rw [<-List.drop_eq_getElem_cons h,List.take_append_drop]
 have e2:ll.flatten=(ll.take k++ll[k]::ll.drop (k+1)).flatten:=congrArg List.flatten e;rw [e2,List.flatten_append,List.flatten_cons,List.append_assoc,<-List.append_assoc (List.take j ll[k]),List.take_append_drop]
theorem qmG {ll:List (List Pts)} {k:Nat} (h:k<ll.length) (j:Nat):((ll.take k).flatten++(ll[k]).take j).length<=ll.flatten.length:=by
 obtain ⟨r,e⟩:=qiv h j;have h2:=congrArg List.length e;rw [List.length_append (bs:=r)] at h2;omega
theorem qkJ {ll:List (List Pts)} {k:Nat} (h:k<ll.length) (j:Nat):(((ll.take k).flatten++(ll[k]).take j).flatMap (fun p=>p.2)).length<=(ll.flatten.flatMap (fun p=>p.2)).length:=by
 obtain ⟨r,e⟩:=qiv h j;have h2:=congrArg (fun l=>(List.flatMap (fun p:Pts=>p.2) l).length) e;rw [List.flatMap_append (ys:=r),List.length_append] at h2;omega
theorem Gath.eq {w:World} {b:Nat} {l l':List Pts} (h:Gath w b l) (e:l=l'):Gath w b l':=e▸h
theorem Gath.lt {w:World} {b:Nat} {l:List Pts} (h:Gath w b l):b<w.heap.size:=by
 obtain ⟨n,D,_,G⟩:=h;exact G.map.lt
theorem qib (v : Value) (ll : List (List Pts)) (W : World) (hR : RdR W W.heap.size v ll) (hwf : ∀ r ∈ ll, ∀ p ∈ r, (Lit.int .i64 p.1).wf = true) (hn1 : ll.length <= 990000000) (hn2 : ll.flatten.length <= 990000000) (hn3 : (ll.flatten.flatMap (fun p => p.2)).length <= 990000000) :
  Calls Tryz.prog 107 #[v] W fun e w'=>e=.returned (.map (some W.heap.size))∧Gath w' W.heap.size ll.flatten∧Below W.heap.size W w':=by
 have bv:= @run_makeMap Tryz.prog;obtain ⟨A,c,rfl,hc,hA⟩:=hR;have HA:=Lib.hid hA;have bj:=Lib.hid hwf;have a8:=Lib.hid hn2;have bq:=Lib.hid hn3;obtain ⟨n,hn⟩:∃n,n=ll.length:=⟨_,rfl⟩;rw [<-hn] at hc hn1 ⊢;have HN:Hid (n=ll.length):=hn;clear hA hn hwf hn2 hn3;go_enter Tryz.func107,Tryz.ntmps107;go_wp2_with fail
 go_loopw [11] (fun i wl=>∃k:Nat,k<=n∧i=.int .i64 k∧Hid (Gath wl W.heap.size (ll.take k).flatten)∧Hid (Below W.heap.size W wl)) (fun i _=>n-(intOf i).toNat)
 case atStart=>exact ⟨0,Nat.zero_le _,rfl,Gath.made W,(Below.refl _ _).alloc (Nat.le_refl _) _⟩
 case round =>
  obtain ⟨k,hk,rfl,HG,HB⟩:=hrel;by_cases hlt:k<n
  ·have ac : k < ll.length := by rw [<- HN.out]; exact hlt
   rcases HA.out with h0|⟨b1,o1,e,bt,al⟩
   ·subst h0;simp at ac
   subst e;obtain ⟨sv,a2,ab⟩:=al k ac;obtain ⟨row,ao⟩:∃row,row=ll[k]:=⟨_,rfl⟩;rw [<-ao] at ab;have an:=Lib.hid ao;have c0:wr.cell? ⟨b1,o1+k,none⟩=some sv:=(HB.out.cell bt).trans a2;obtain ⟨A2,cc,rfl,bp,a4⟩:=ab.below HB.out;obtain ⟨m,hm⟩:∃m,m=row.length:=⟨_,rfl⟩;rw [<-hm] at bp c0;have HM:Hid (m=row.length):=hm;have bs:=Lib.hid a4;have bz:m<=990000000:=by
    have h1:=a8.out;have :row.length<=ll.flatten.length:=(by rw [ao];exact (List.sublist_flatten_of_mem (List.getElem_mem ac)).length_le);omega
   have i1:(k:Int)<(n:Int):=(by omega);clear al a2 ab ao hm a4;go_wp2_with fail
   go_loopw [17] (fun i wl=>∃j:Nat,j<=m∧i=.int .i64 j∧Hid (Gath wl W.heap.size ((ll.take k).flatten++row.take j))∧Hid (Below W.heap.size W wl)∧Hid (Below W.heap.size wr wl)) (fun i _=>m-(intOf i).toNat)
   case atStart=>exact ⟨0,Nat.zero_le _,rfl,by show Gath _ _ _;rw [List.take_zero,List.append_nil];exact HG.out,HB.out,Below.refl _ _⟩
   case round =>
    rename_i wo;obtain ⟨j,hj,rfl,ad,ap,a5⟩:=hrel;by_cases hlt2:j<m
    ·have af:j<row.length:=(by rw [<-HM.out];exact hlt2);rcases bs.out with h0|⟨b2,o2,e2,br,ag⟩
     ·subst h0;simp at af
     subst e2;obtain ⟨p,hp⟩:∃p,p=row[j]:=⟨_,rfl⟩;obtain ⟨c1,ps,c2,bc,bd⟩:PtAt wr W.heap.size b2 (o2+j*2) p:=(by rw [hp];exact (ag j af).below a5.out br);have HP:=Lib.hid hp;have bi:(Lit.int .i64 p.1).wf=true:=bj.out row (by rw [an.out];exact List.getElem_mem ac) p (by rw [HP.out];exact List.getElem_mem af);have az:=Lib.hid bc;have be:=Lib.hid bd;obtain ⟨A3,c3,rfl,_,_⟩:=bc;obtain ⟨n3,hn3⟩:∃n3,n3=p.2.length:=⟨_,rfl⟩;rw [<-hn3] at az be c2;clear hp ag bd hn3;go_wp2_with fail;obtain ⟨wp,ae⟩:∃wp,wp=wr.alloc (.cells #[.int .i64 p.1,.slice A3 n3 c3] 62):=⟨_,rfl⟩;have aa:Hid (Below wr.heap.size wr wp):=(by show Below _ _ _;rw [ae];exact (Below.refl _ _).alloc (Nat.le_refl _) _);have d0:wp.cell? ⟨wr.heap.size,0,none⟩=some (.int .i64 p.1):=(by rw [ae];simp);have d1:wp.cell? ⟨wr.heap.size,1,none⟩=some (.slice A3 n3 c3):=(by rw [ae];simp);have bu:wp.heap.size=wr.heap.size+1:=(by rw [ae];simp);obtain ⟨v,aj,a1,a7,au⟩:=ad.out.round bi (by
      have h1:=a8.out;have h9:=qmG ac j;rw [<-an.out] at h9;omega)
     have ah:((ofL ((ll.take k).flatten++row.take j) p.1).length+p.2.length)*32<=140737488355328:=by
      have h1:=bq.out;have h9:=qkJ ac (j+1);rw [<-an.out,List.take_succ_eq_append_getElem af,<-HP.out,<-List.append_assoc,List.flatMap_append,List.length_append] at h9;have h8:=qhZ ((ll.take k).flatten++row.take j) p.1;have bo:([p].flatMap (fun p:Pts=>p.2)).length=p.2.length:=(by simp);rw [bo] at h9;omega
     have bb:Rd wp wp.heap.size (.slice A3 n3 c3) p.2:=(az.out.mono ap.out.size).below aa.out |>.mono aa.out.size;have bf:W.heap.size+1<=wp.heap.size:=by
      have :=ap.out.size;omega
     have aq:∀q,wr.grownBy (wp.drewN q) none:=fun q=>⟨aa.out.os,aa.out.tape,aa.out.output,aa.out.size,fun i hi _=>aa.out.block i hi⟩;have ar:Own wp (W.heap.size+1) 66 v (ofL ((ll.take k).flatten++row.take j) p.1):=aj.kept (aq 0) (by cases v.ownBlock with |none=>exact .inl rfl|some g=>exact .inr (by simp));obtain ⟨lp,ay⟩:∃lp,lp=(ll.take k).flatten++row.take j:=⟨_,rfl⟩;rw [<-ay] at aj ar au ah;have bx:(Instr.lookup 155 (.map (some W.heap.size)) (.int .i64 p.1) false).run Tryz.prog wp.drew=.ok v wp.drew:=a1 _ (aq 1);have e0:wp.drew.cell? ⟨wr.heap.size,0,none⟩=some (.int .i64 p.1):=d0;have e1:wp.drew.cell? ⟨wr.heap.size,1,none⟩=some (.slice A3 n3 c3):=d1;have bm:=Lib.hid au;have b0:=Lib.hid a7;have bn:=Lib.hid ar;have bh:=Lib.hid bb;have ax:W.heap.size<wr.heap.size:=ad.out.lt;have bk:Hid (∀w1 w2,wp.drew.grownBy w1 v.ownBlock->w1.grownBy w2 (some W.heap.size)->Below W.heap.size wr w2):=fun w1 w2 g1 g2=>by
      have h5:Below W.heap.size wr wp.drew:=(fun h:Below W.heap.size wr wp=>⟨h.os,h.tape,h.output,h.size,h.block⟩) (aa.out.mono (Nat.le_of_lt ax));have h6:W.heap.size<=wp.drew.heap.size:=(by show W.heap.size<=wp.heap.size;omega);refine (h5.grown g1 h6 fun q hq=> ?_).grown g2 (Nat.le_trans h6 g1.size) fun q hq=>(by injection hq with hq;omega);have :=(aj.blk hq).1;omega
     have a3:Hid (some wr.heap.size≠v.ownBlock):=by
      intro e9;have :=(aj.blk e9.symm).2;omega
     rw [<-ae];clear au a7 ar aj bb a1 ae
     go_region_held3 (fun w'=>w'.cell? ⟨wr.heap.size,0,none⟩=some (.int .i64 p.1)∧w'.cell? ⟨wr.heap.size,1,none⟩=some (.slice A3 n3 c3))
      (first|assumption|exact ⟨by assumption,by assumption⟩)
      ((refine qlO (by rfl) _ _ 60 66 (by rfl) Tryz.underlying60 qaM (W.heap.size + 1) v _ _ p.2 wp.heap.size (by rfl) bn.out (by rfl) bh.out be.out ah bf ?_; intro v1 w1 am ak ai;
        have k0:w1.cell? ⟨wr.heap.size,0,none⟩=some (.int .i64 p.1):=(ak.cell_far _ (by show wr.heap.size<wp.heap.size;omega) a3.out).trans e0;have k1:w1.cell? ⟨wr.heap.size,1,none⟩=some (.slice A3 n3 c3):=(ak.cell_far _ (by show wr.heap.size<wp.heap.size;omega) a3.out).trans e1;obtain ⟨w2,bl,bg,av⟩:=bm.out _ w1 v1 (aq 1) ak am ai;have bw:wp.heap.size<=w1.heap.size:=ak.size;have m0:w2.cell? ⟨wr.heap.size,0,none⟩=some (.int .i64 p.1):=(av.cell_far _ (by show wr.heap.size<w1.heap.size;omega) (by intro e9;injection e9 with e9;have e9:wr.heap.size=W.heap.size:=e9;omega)).trans k0;have m1:w2.cell? ⟨wr.heap.size,1,none⟩=some (.slice A3 n3 c3):=(av.cell_far _ (by show wr.heap.size<w1.heap.size;omega) (by intro e9;injection e9 with e9;have e9:wr.heap.size=W.heap.size:=e9;omega)).trans k1;have a9:=Lib.hid bg;have ba:Hid (Below W.heap.size wr w2):=bk.out _ _ ak av))
     have aw:=Lib.hid (a9.out.eq (show lp++[p]=(ll.take k).flatten++row.take (j+1) by rw [ay,HP.out,List.append_assoc,<-List.take_succ_eq_append_getElem af]));clear a9 ay;go_wp2_with fail;go_roundw
     case rel=>exact ⟨j+1,by omega,by go_num,aw.out,ap.out.trans ba.out,a5.out.trans ba.out⟩
     case measure=>simp [intOf];omega
    ·have a6:j=m:=(by omega);have aw:Hid (Gath wr W.heap.size (ll.take (k+1)).flatten):=by
      have h:=ad.out;rw [a6,HM.out,List.take_length,an.out] at h;have e:(ll.take (k+1)).flatten=(ll.take k).flatten++ll[k]:=by
       rw [List.take_succ_eq_append_getElem ac,List.flatten_append,List.flatten_cons,List.flatten_nil,List.append_nil]
      rw [<-e] at h;exact h
     clear a6 ad;go_wp2_with fail;go_roundw
     case rel=>exact ⟨k+1,by omega,by go_num,aw.out,ap.out⟩
     case measure=>simp [intOf];omega
  ·have a0:k=n:=(by omega);have ad:Hid (Gath wr W.heap.size ll.flatten):=(by have :=HG.out;rwa [a0,HN.out,List.take_length] at this);clear a0 HG;go_wp2_with fail;go_ret;exact ⟨rfl,ad.out,HB.out⟩
end Go.Proofs.YtnkelahimiipjaaGreatDoor
namespace Go.Proofs.YtnkelahimiipjaaGreatDoor
open Go.RowKit Go.Sort Go.Maps
theorem qon (m:Nat):AnyZI.SortsIn Tryz.prog Tryz.sortedI_ren Fence.wide m:=
 ⟨fun blk off cap ss W hH aa ab=>callsIn_wide.2 (Any.slices_Sort_int Tryz.sortIntL blk off cap ss W hH aa ab),fun p cap W=>callsIn_wide.2 (Any.slices_Sort_int_none Tryz.sortIntL p cap W)⟩
theorem qjR {H:Type} {P:Program} {k:TypeId} {R:Value->Option (DataW H×List MemPlace)} {w:World} {b n:Nat} {D:DataW H} (hown:w.ownsMap P k R b n D) (hk:P.underlying k=some (.int .i64)):(intKeys D).Nodup:=by
 obtain ⟨es,hD,ad,_⟩:=hown.entries (int_keyed hk);obtain ⟨es',ab,aa⟩:=hown.keysOf;obtain rfl:es=es':=by rw [hD] at ab;simpa using ab
 subst hD;refine List.pairwise_map.2 (ad.imp_of_mem fun {p q} ag ae ac e=>ac ?_);obtain ⟨v,hv⟩:=aa p ag;obtain ⟨a,_,ha,_⟩:=Maps.keyOf_i64 hk hv;obtain ⟨v',af⟩:=aa q ae;obtain ⟨c,_,hc,_⟩:=Maps.keyOf_i64 hk af;rw [ha,hc] at e ⊢;exact congrArg _ e
theorem qoJ {ss:List Int} (h:ss.Nodup):(ss.mergeSort (fun x y=>decide (x<=y))).Pairwise (· < ·):=by
 have h1:=List.pairwise_mergeSort (le:=fun x y:Int=>decide (x<=y)) (fun a b c h1 h2=>by simp only [decide_eq_true_eq] at *;omega) (fun a b=>by simp only [Bool.or_eq_true,decide_eq_true_eq];omega) ss;have h2:(ss.mergeSort (fun x y=>decide (x<=y))).Nodup:=(List.mergeSort_perm ss _).symm.nodup h;refine (h1.and h2).imp fun {a b} h=> ?_;have h3:=h.1;have h4:=h.2;simp only [decide_eq_true_eq] at h3;omega
theorem RdZ.of_owns {w:World} {base:Nat} {v:Value} {l:List Int} (h:w.ownsRow base 3 1 v l.length (l.map encZ)):RdZ w w.heap.size v l:=by
 rcases h.2 with ⟨rfl,hn⟩|⟨g,cap,cur,rfl,hb,hc,h1,h2,h3,h4⟩
 ·have :l=[]:=by simpa using hn
  subst this;exact ⟨none,0,rfl,Nat.zero_le _,.inl rfl⟩
 ·refine ⟨some ⟨g,0,none⟩,cap,rfl,h1,.inr ⟨g,0,rfl,(Array.getElem?_eq_some_iff.1 hc).1,fun i hi=> ?_⟩⟩;have hH:=holds_of_block_i (ss:=l) hc (by rw [<-h4];simp);exact (hH i (by simpa using hi)).1.trans (by simp [hi])
end Go.Proofs.YtnkelahimiipjaaGreatDoor
