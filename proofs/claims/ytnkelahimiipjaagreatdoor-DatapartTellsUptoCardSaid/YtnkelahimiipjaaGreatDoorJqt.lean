/-
 DatapartBack: what is built is opened, and built again it is the same; cut short, or with more behind, it is none.
-/
import Derived.Test.YtnkelahimiipjaaGreatDoorJht
import Derived.Test.YtnkelahimiipjaaGreatDoorQpt
import Derived.Lib.LaidTab
import Derived.Test.YtnkelahimiipjaaGreatDoorHpt
import Derived.Test.YtnkelahimiipjaaGreatDoorVrt
set_option maxRecDepth 100000
set_option maxHeartbeats 8000000
namespace Go.Proofs.YtnkelahimiipjaaGreatDoor
open Go.RowKit Go.Sort
end Go.Proofs.YtnkelahimiipjaaGreatDoor
namespace Go.Proofs.YtnkelahimiipjaaGreatDoor
open Go.RowKit Go.ChangeShapes Go.WideShapes Go.ChangeAt
theorem qit {W:World} {l:List (String×DataW Unit)} {ps:List MemPlace} (hL:DataW.LaidVars Tryz.prog W l ps) {name:String} {k:IntKind} {zs:List Int} {g:Nat} {t e:TypeId} {n:Nat} (hm:(name,Lib.tabData k zs) ∈ l)
  (hg:Tryz.prog.globalNamed name=some g) (hty:(Tryz.prog.globals[g]?).map (·.type)=some t) (ht:Tryz.prog.underlying t=some (.array n e)) (he:Tryz.prog.underlying e=some (.int k)) (hce:Tryz.prog.cellsOf e=1) (hct:Tryz.prog.cellsOf t=n):Lib.TabIs Tryz.prog W name k zs:=by
 obtain ⟨g',t',cs,fuel,p,ac,ab,aa,hd⟩:=qcZ hL hm;obtain rfl:=Option.some.inj (hg.symm.trans ac);obtain rfl:=Option.some.inj (hty.symm.trans ab);unfold Lib.TabIs;rw [aa,<-Lib.cells_of_tab ht he hce hct hd]
theorem qlN {W:World} {l:List (String×DataW Unit)} {ps:List MemPlace} (hL:DataW.LaidVars Tryz.prog W l ps) (hm:("esker/decimal.tens",Rows.laid_esker_decimal_tens) ∈ l):TabT W:=fun i hi=>by
 have h:=qit (k:=.i64) (zs:=(List.range 19).map fun (j:Nat)=>((10^j:Nat):Int)) (g:=0) (t:=137) (e:=2) (n:=19) hL hm (by kernel_rfl) (by kernel_rfl) Tryz.underlying137 Tryz.underlying2 (by kernel_rfl) (by kernel_rfl);have hc:=h.cell (g:=0) (by kernel_rfl) i (by simpa using hi);rw [hc,List.getD_eq_getElem?_getD,List.getElem?_map,List.getElem?_range hi];rfl
theorem ql5 {W:World} {l:List (String×DataW Unit)} {ps:List MemPlace} (hL:DataW.LaidVars Tryz.prog W l ps) (hm:("esker/frame.halves",Rows.laid_esker_frame_halves) ∈ l):TabH W:=fun i hi=>by
 have h:=qit (k:=.u32) (zs:=halvesL.map fun (j:Nat)=>(j:Int)) (g:=1) (t:=164) (e:=141) (n:=16) hL hm (by kernel_rfl) (by kernel_rfl) Tryz.underlying164 Tryz.underlying141 (by kernel_rfl) (by kernel_rfl);have hl:halvesL.length=16:=by decide
 have hc:=h.cell (g:=1) (by kernel_rfl) i (by rw [List.length_map,hl];exact hi);rw [hc,List.getD_eq_getElem?_getD,List.getElem?_map,List.getElem?_eq_getElem (by rw [hl];exact hi)];rw [List.getD_eq_getElem?_getD,List.getElem?_eq_getElem (by rw [hl];exact hi)];rfl
end Go.Proofs.YtnkelahimiipjaaGreatDoor
namespace Go.Proofs.YtnkelahimiipjaaGreatDoor
theorem qcv {α :Type} {Q:Nat-> α ->Prop}:∀{n:Nat},(∀i,i<n->∃y,Q i y)->∃l:List α,l.length=n∧∀i (hi:i<l.length),Q i l[i]
 |0,_=>⟨[],rfl,fun i hi=>by simp at hi⟩
 | n + 1, h => by
   obtain ⟨l,h1,h2⟩:=qcv (n:=n) fun i hi=>h i (by omega);obtain ⟨y,hy⟩:=h n (by omega);refine ⟨l++[y],by simp [h1],fun i hi=> ?_⟩;rw [List.length_append,List.length_singleton] at hi;by_cases hn:i<l.length
   ·rw [List.getElem_append_left hn];exact h2 i hn
   ·have aa:i=n:=(by omega);subst aa;rw [List.getElem_append_right (by omega)];simpa using hy
theorem qel (id:Int):∀c:List Pts,qae (c.filter (fun p=>decide (p.1=id)))=(qae c).filter (fun b=>decide (b.1=id))
 | []=>rfl
 | p :: c => by
   have ih:=qel id c;have e:qae (p::c)=qcP p++qae c:=(by unfold qae;rw [List.flatMap_cons]);rw [e,List.filter_append,<-ih];by_cases hp:p.1=id
   ·rw [List.filter_cons_of_pos (by simp [hp])];have e2:qae (p::c.filter (fun p=>decide (p.1=id)))=qcP p++qae (c.filter (fun p=>decide (p.1=id))):=(by unfold qae;rw [List.flatMap_cons]);rw [e2];congr 1;refine (List.filter_eq_self.2 fun b hb=> ?_).symm;unfold qcP at hb;obtain ⟨s,_,rfl⟩:=List.mem_map.1 hb;exact decide_eq_true hp
   ·rw [List.filter_cons_of_neg (by simp [hp])];have e3:(qcP p).filter (fun b=>decide (b.1=id))=[]:=List.filter_eq_nil_iff.2 fun b hb=>by
     unfold qcP at hb;obtain ⟨s,_,rfl⟩:=List.mem_map.1 hb;simp [hp]
    rw [e3,List.nil_append]
theorem qka {c:List Pts} (h:Clean c) (id:Int):(ofV c [id] 0 1099511627776).2<=qad (ofV c [id] 0 1099511627776).1∧qad (ofV c [id] 0 1099511627776).1<=16*(ofV c [id] 0 1099511627776).2:=by
 obtain ⟨d,hd⟩:∃d,d=c.filter (fun p=>decide (p.1=id)):=⟨_,rfl⟩;have aa:∀p,p ∈ d->p ∈ c∧p.1=id:=fun p hp=>by
  rw [hd] at hp;obtain ⟨h1,h2⟩:=List.mem_filter.1 hp;exact ⟨h1,of_decide_eq_true h2⟩
 have ab:Clean d:=⟨by rw [hd];exact h.ids.filter _,fun p hp=>h.inr p (aa p hp).1,fun p hp=>h.ne p (aa p hp).1,fun p hp=>h.up p (aa p hp).1,fun p hp=>h.bd p (aa p hp).1⟩;have e1:(ofV c [id] 0 1099511627776).1=d:=by
  refine qbX (qaj _) ab fun k=> ?_;show ofL (qag (ofB c [id] 0 1099511627776)) k=_;rw [qbJ];by_cases hk:inR k=true
  ·rw [if_pos hk,<-qdg ab k];refine qca fun x=> ?_;rw [qei h,qcc,qcc];constructor
   ·rintro ⟨h1,⟨q,hq,e,hx⟩,_⟩;rw [List.mem_singleton] at h1;refine ⟨q, ?_,e,hx⟩;rw [hd];exact List.mem_filter.2 ⟨hq,decide_eq_true (e.trans h1)⟩
   ·rintro ⟨q,hq,e,hx⟩;obtain ⟨h1,h2⟩:=aa q hq;exact ⟨by rw [List.mem_singleton,<-e];exact h2,⟨q,h1,e,hx⟩,qco (h.bd q h1 x hx)⟩
  ·rw [if_neg hk];exact (qbw fun q hq e=>hk (by rw [<-e];exact ab.inr q hq)).symm
 have e2:(ofV c [id] 0 1099511627776).2=(qae d).length:=by
  rw [hd,qel];show ((qae c).filter (qaz [id] 0 1099511627776)).length=_;rw [List.filter_congr fun b hb=> ?_];obtain ⟨k1,k2,k3⟩:=qhc h hb;obtain ⟨s,hs,e3⟩:=qcq k2;obtain ⟨s',ac,e4⟩:=qdV k2;have b1:=k3 s hs;have b2:=k3 s' ac;unfold qaz;rw [decide_eq_true (by omega:qaX b.2<=1099511627776),decide_eq_true (by omega:(0:Int)<=qbu b.2)];simp
 rw [e1,e2];exact qbH d (qbK ab)
theorem qdc (c:List Pts) (ids:List Int) (f t:Int):Clean (ofV c ids f t).1:=qaj _
theorem qkO (c:List Pts) (ids:List Int) (f t:Int):qag (ofV c ids f t).1=(ofV c ids f t).1:=qhA (qdc c ids f t)
end Go.Proofs.YtnkelahimiipjaaGreatDoor
namespace Go.Proofs.YtnkelahimiipjaaGreatDoor
open Go.RowKit Go.Sort
def chkV (l:List Pts):Int:=if 2000<qad (qag l) then 2 else if l=[]∨qag l≠l then 1 else 0
theorem qnU {l:List Pts} (h:chkV l=0):qaS l=(0,qcj (qae l)):=by
 unfold chkV at h
 split at h
 ·cases h
 ·split at h
  ·cases h
  ·rename_i h1 h2;have h3:l≠ []∧qag l=l:=⟨fun e=>h2 (.inl e),Classical.byContradiction fun e=>h2 (.inr e)⟩;exact qfu h3.1 h3.2 (by omega)
theorem qiW (v:Value) (l:List Pts) (W:World) (hR:RdP W W.heap.size v l) (hn:l.length<=100000) (hm:qad l<=10000):
  Calls Tryz.prog 17 #[v] W fun e w'=>e=.returned (.int .i64 (chkV l))∧Below W.heap.size W w':=by
 have KM:=Lib.hid (qdq v l W hR hn hm);have HR:Hid (∀w,Below W.heap.size W w->RdP w w.heap.size v l):=fun w h=>hR.on h;have HS:Hid (l.length<=100000∧qad l<=10000):=⟨hn,hm⟩;obtain ⟨A,c,rfl,_⟩:=hR;obtain ⟨n,af⟩:∃n,n=l.length:=⟨_,rfl⟩;rw [<-af] at HR KM ⊢;have HN:=Lib.hid af;obtain ⟨k,hk⟩:∃k,k=qad (qag l):=⟨_,rfl⟩;rw [<-hk] at KM;have HK:=Lib.hid hk;have ak:k<=10000:=by rw [hk];exact Nat.le_trans (qaZ l) hm
 clear hn hm af hk;go_enter Tryz.func17,Tryz.ntmps17;go_wp2_with fail;refine KM.out.mono ?_;rintro e w1 ⟨rfl,ag⟩;have aa:=Lib.hid ag;clear ag KM;by_cases h2:2000<k
 ·have i1:(2000:Int)<(k:Int):=by omega
  go_wp2_with fail;go_ret;refine ⟨?_,aa.out⟩;unfold chkV;rw [if_pos (by rw [<-HK.out];exact h2)];rfl
 ·have i1:¬(2000:Int)<(k:Int):=by omega
  have KC:=Lib.hid (qcf _ l w1 (HR.out _ aa.out) HS.out.1 HS.out.2);go_wp2_with fail;refine KC.out.mono ?_;rintro e w2 ⟨r,rfl,aj,ah⟩;have ae:Hid (Below W.heap.size W w2):=aa.out.trans (ah.mono aa.out.size);have KS:=Lib.hid (qbQ r _ (qag l) l w2 aj (HR.out _ ae.out) (qa3 (qaj l) (by rw [<-HK.out];omega)));obtain ⟨A2,c2,rfl,_⟩:=aj;clear ah KC;go_wp2_with fail;refine KS.out.mono ?_;rintro e w3 ⟨rfl,hE⟩;have ac:Hid (Below W.heap.size W w3):=ae.out.trans (hE.below.mono ae.out.size);clear hE KS;have ai:¬2000<qad (qag l):=by rw [<-HK.out];exact h2
  have ab:=Lib.hid ai;clear ai;by_cases hs:qag l=l
  ·rw [decide_eq_true hs];have ad:=Lib.hid hs;clear hs;by_cases h0:n=0
   ·have g0:((n:Int)==0)=true:=(by simp [h0]);go_wp2_with fail;go_ret;refine ⟨?_,ac.out⟩;unfold chkV;rw [if_neg ab.out,if_pos (.inl (List.eq_nil_of_length_eq_zero (by rw [<-HN.out];exact h0)))];rfl
   ·have g0:((n:Int)==0)=false:=(by simp [h0]);go_wp2_with fail;go_ret;refine ⟨?_,ac.out⟩;unfold chkV;rw [if_neg ab.out,if_neg (fun h=>h.elim (fun h=>h0 (by rw [HN.out,h];rfl)) (fun h=>h ad.out))];rfl
  ·rw [decide_eq_false hs];have ad:=Lib.hid hs;clear hs;go_wp2_with fail;go_ret;refine ⟨?_,ac.out⟩;unfold chkV;rw [if_neg ab.out,if_pos (.inr ad.out)];rfl
theorem qlD {c:List Pts} (h:∀p ∈ c,∀s ∈ p.2,qai s=true):qad (qae c)=qad c:=by
 induction c with
 |nil=>rfl
 | cons p c ih =>
   have e:qae (p::c)=qcP p++qae c:=(by unfold qae;rw [List.flatMap_cons]);have e2:qad (p::c)=p.2.length+qad c:=(by simp [qad]);have e3:qad (qcP p++qae c)=qad (qcP p)+qad (qae c):=(by unfold qad;rw [List.flatMap_append,List.length_append]);have e4:qad (qcP p)=p.2.length:=by
    have h5:=qcy p.2.length p.2 (Nat.le_refl _) (h p List.mem_cons_self);have h6:∀cs:List (List Smp),qad (cs.map (fun s=>(p.1,s)))=cs.flatten.length:=fun cs=>by
     induction cs with
     |nil=>rfl
     |cons a cs ih=>rw [List.map_cons,List.flatten_cons,List.length_append,<-ih];simp [qad]
    unfold qcP;rw [h6,h5]
   rw [e,e3,e4,e2,ih fun q hq=>h q (List.mem_cons_of_mem _ hq)]
theorem qir (f t:Int) (q:Blk->Bool):∀bl:List Blk,qad ((bl.filter q).map (fun b=>(b.1,delS f t b.2)))<=qad bl
 | []=>Nat.le_refl _
 | b :: bl => by
   have ih:=qir f t q bl;have e2:qad (b::bl)=b.2.length+qad bl:=(by simp [qad]);rw [e2];by_cases h:q b=true
   ·rw [List.filter_cons_of_pos h,List.map_cons];have e3:qad ((b.1,delS f t b.2)::(bl.filter q).map (fun b=>(b.1,delS f t b.2)))=(delS f t b.2).length+qad ((bl.filter q).map (fun b=>(b.1,delS f t b.2))):=(by simp [qad]);have e4:(delS f t b.2).length<=b.2.length:=List.length_filter_le _ _;omega
   ·rw [List.filter_cons_of_neg h];omega
theorem qiE {c:List Pts} (h:Clean c) (ids:List Int) (f t:Int):qad (ofV c ids f t).1<=qad c:=by
 rw [<-qlD (qbK h)];exact Nat.le_trans (qaZ _) (qir f t _ _)
theorem qnf (c:List Pts) (ids:List Int) (f t:Int):(ofV c ids f t).2<=(qae c).length:=List.length_filter_le _ _
theorem qd2 {c:List Pts} (h:Clean c):c.length<=qad c:=by
 have hn:=h.ne;clear h
 induction c with
 |nil=>exact Nat.zero_le _
 | cons p c ih =>
   have e2:qad (p::c)=p.2.length+qad c:=(by simp [qad]);have h1:=List.length_pos_iff.2 (hn p List.mem_cons_self);have h2:=ih fun q hq=>hn q (List.mem_cons_of_mem _ hq);rw [e2,List.length_cons];omega
end Go.Proofs.YtnkelahimiipjaaGreatDoor
