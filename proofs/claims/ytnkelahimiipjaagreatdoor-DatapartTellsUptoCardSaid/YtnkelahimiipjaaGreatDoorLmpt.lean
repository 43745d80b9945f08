/-
 eskerlaw16.at: points of some ticks.
-/
import Derived.Test.YtnkelahimiipjaaGreatDoorVrt
import Derived.Deep.RegionHeld3
import Derived.Deep.RegionLaw
import Derived.Laws.Rows
import Derived.Test.YtnkelahimiipjaaGreatDoorPzt
import Derived.Test.YtnkelahimiipjaaGreatDoorQpt
import Derived.Test.YtnkelahimiipjaaGreatDoorMo3t
import Derived.Test.YtnkelahimiipjaaGreatDoorPmt
namespace Go.Proofs.YtnkelahimiipjaaGreatDoor
open Go.RowKit Go.Sort Go.Maps
attribute [local go_sem ↓] Go.wp_at_zero Go.wp_at_succ
end Go.Proofs.YtnkelahimiipjaaGreatDoor
namespace Go.Proofs.YtnkelahimiipjaaGreatDoor
open Go.RowKit Go.Sort Go.Maps
end Go.Proofs.YtnkelahimiipjaaGreatDoor
namespace Go.Proofs.YtnkelahimiipjaaGreatDoor
open Go.RowKit Go.Sort Go.Maps
attribute [local go_sem ↓] Go.wp_at_zero Go.wp_at_succ
end Go.Proofs.YtnkelahimiipjaaGreatDoor
namespace Go.Proofs.YtnkelahimiipjaaGreatDoor
open Go.RowKit Go.Sort Go.Maps
attribute [local go_sem ↓] Go.wp_at_zero Go.wp_at_succ
end Go.Proofs.YtnkelahimiipjaaGreatDoor
namespace Go.Proofs.YtnkelahimiipjaaGreatDoor
theorem qni (p:Pts) (c:List Pts) (k:Int):ofL (p::c) k=if p.1=k then p.2++ofL c k else ofL c k:=by
 unfold ofL;rw [List.filter_cons];by_cases h:p.1=k
 ·rw [if_pos h,if_pos (by rw [h];exact beq_self_eq_true k),List.flatMap_cons]
 ·rw [if_neg h,if_neg (by rw [beq_iff_eq];exact h)]
theorem qkh (a b:List Pts) (k:Int):ofL (a++b) k=ofL a k++ofL b k:=by unfold ofL;rw [List.filter_append,List.flatMap_append]
theorem qbw {c:List Pts} {k:Int} (h:∀p ∈ c,p.1≠k):ofL c k=[]:=by
 unfold ofL;rw [List.filter_eq_nil_iff.2 fun p hp=>by rw [beq_iff_eq];exact h p hp];rfl
theorem qe8 {c:List Pts} (hc:c.Pairwise (fun a b=>a.1<b.1)):∀{p:Pts},p ∈ c->ofL c p.1=p.2:=by
 induction c with
 |nil=>intro p hp;exact absurd hp List.not_mem_nil
 | cons a c ih =>
   intro p hp;have h:=List.pairwise_cons.1 hc;rw [qni];rcases List.mem_cons.1 hp with rfl|hp
   ·rw [if_pos rfl,qbw fun q hq e=>by have :=h.1 q hq;omega,List.append_nil]
   ·rw [if_neg (by have :=h.1 p hp;omega),ih h.2 hp]
theorem qgX {c:List Pts} (hc:Clean c) (p:Pts):p ∈ c↔p.2≠ []∧ofL c p.1=p.2:=by
 constructor
 ·intro hp;exact ⟨hc.ne p hp,qe8 hc.ids hp⟩
 ·rintro ⟨h1,h2⟩;have :∃q ∈ c,q.1=p.1:=by
   apply Classical.byContradiction;intro hn;have :=qbw (c:=c) (k:=p.1) fun q hq e=>hn ⟨q,hq,e⟩;rw [this] at h2;exact h1 h2.symm
  obtain ⟨q,hq,e⟩:=this;have h3:=qe8 hc.ids hq;rw [e,h2] at h3;have :p=q:=Prod.ext e.symm h3;rw [this];exact hq
theorem qbX {a b:List Pts} (ha:Clean a) (hb:Clean b) (h:∀k,ofL a k=ofL b k):a=b:=by
 have hm:∀p,p ∈ a↔p ∈ b:=fun p=>by rw [qgX ha,qgX hb,h]
 have na:a.Nodup:=ha.ids.imp fun h e=>by rw [e] at h;omega
 have nb:b.Nodup:=hb.ids.imp fun h e=>by rw [e] at h;omega
 refine List.Perm.eq_of_pairwise (le:=fun x y:Pts=>x.1<=y.1) (fun x y hx hy h1 h2=> ?_) (ha.ids.imp fun h=>by omega) (hb.ids.imp fun h=>by omega) ((List.perm_ext_iff_of_nodup na nb).2 hm);have e:x.1=y.1:=by omega
 have h3:=qe8 hb.ids ((hm x).1 hx);have h4:=qe8 hb.ids hy;rw [e] at h3;exact Prod.ext e (h3.symm.trans h4)
theorem qeu:qaC []=[]:=qdN [] [] List.Pairwise.nil fun x=>by simp
theorem qmO {s:List Smp} (h:s.Pairwise ltS) (hr:∀x ∈ s,qai x=true):qaC s=s:=qdN s s h fun x=>⟨fun hx=>⟨hx,hr x hx⟩,fun hx=>hx.1⟩
theorem qnM {l:List Pts} {k:Int} (h:ofL l k≠ []):hasL l k=true:=by
 apply Classical.byContradiction;intro hn;refine h (qbw fun p hp e=>hn ?_);unfold hasL;exact List.any_eq_true.2 ⟨p,hp,by rw [e];exact beq_self_eq_true k⟩
theorem qpj {FO:Int->List Smp->List Smp} (hn:∀k,FO k []=[]) (l:List Pts) (k:Int):ofL (fosC FO (qcr l)) k=if inR k=true then FO k (qaC (ofL l k)) else []:=by
 have ab:(fosC FO (qcr l)).Pairwise (fun a b=>a.1<b.1):=qil (qgh l);have aa:(∀p ∈ fosC FO (qcr l),p.1≠k)->ofL (fosC FO (qcr l)) k=[]:=qbw;by_cases hk:inR k=true
 ·rw [if_pos hk];by_cases he:FO k (qaC (ofL l k))=[]
  ·rw [he];refine aa fun p hp e=> ?_;obtain ⟨h1,q,hq,rfl⟩:=qcb.1 hp;have h3:=(qbW.1 hq).2.2;dsimp only at e h1;rw [h3,e] at h1;exact h1 he
  ·have hl:hasL l k=true:=by
    refine qnM fun e=>he ?_;rw [e,qeu,hn]
   have hm:(k,FO k (qaC (ofL l k))) ∈ fosC FO (qcr l):=qcb.2 ⟨he,(k,qaC (ofL l k)),qbW.2 ⟨hl,hk,rfl⟩,rfl⟩;exact qe8 ab hm
 ·rw [if_neg hk];refine aa fun p hp e=> ?_;obtain ⟨_,q,hq,rfl⟩:=qcb.1 hp;have h3:=(qbW.1 hq).2.1;dsimp only at e;rw [e] at h3;exact hk h3
theorem qbJ (l:List Pts) (k:Int):ofL (qag l) k=if inR k=true then qaC (ofL l k) else []:=qpj (fun _=>rfl) l k
theorem qdg {c:List Pts} (hc:Clean c) (k:Int):qaC (ofL c k)=ofL c k:=by
 by_cases h:∃q ∈ c,q.1=k
 ·obtain ⟨q,hq,rfl⟩:=h;rw [qe8 hc.ids hq];exact qmO (hc.up q hq) (hc.bd q hq)
 ·rw [qbw fun q hq e=>h ⟨q,hq,e⟩,qeu]
theorem qhA {c:List Pts} (hc:Clean c):qag c=c:=by
 refine qbX (qaj c) hc fun k=> ?_;rw [qbJ,qdg hc];by_cases hk:inR k=true
 ·rw [if_pos hk]
 ·rw [if_neg hk,qbw fun p hp e=>hk (by rw [<-e];exact hc.inr p hp)]
end Go.Proofs.YtnkelahimiipjaaGreatDoor
