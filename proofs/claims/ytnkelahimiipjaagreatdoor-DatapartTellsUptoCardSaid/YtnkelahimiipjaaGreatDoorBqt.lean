/-
 The months' points: each lies in its month; together they are all points.
-/
import Derived.Test.YtnkelahimiipjaaGreatDoorLmpt
import Derived.Test.YtnkelahimiipjaaGreatDoorCct
import Derived.Test.YtnkelahimiipjaaGreatDoorPzt
namespace Go.Proofs.YtnkelahimiipjaaGreatDoor
theorem qcc {c:List Pts} {k:Int} {x:Smp}:x ∈ ofL c k↔ ∃p ∈ c,p.1=k∧x ∈ p.2:=by
 unfold ofL;simp only [List.mem_flatMap,List.mem_filter,beq_iff_eq,and_assoc]
abbrev Blk:=Int×List Smp
def qar (l:List Smp):List Val:=l.map (fun s=>s.2)
def qaO (l:List Smp):List Int:=l.map (fun s=>s.1)
def cutN (l:List Smp):Nat:=qa7 (qar (l.take 16)) (qar (l.take 16)).length
def qaV:Nat->List Smp->List (List Smp)
 |0,_=>[]
 |f+1,l=>if l=[] then [] else l.take (cutN l)::qaV f (l.drop (cutN l))
def qcP (p:Pts):List Blk:=(qaV p.2.length p.2).map (fun s=>(p.1,s))
def qae (l:List Pts):List Blk:=l.flatMap qcP
def expL (l:List Smp):Int:=(qah (qar l)).1
def qbp (l:List Smp):List Int:=(qar l).map (qaI (expL l))
def qaX (l:List Smp):Int:=(l.head?.map (fun s=>s.1)).getD 0
def qbu (l:List Smp):Int:=(l.getLast?.map (fun s=>s.1)).getD 0
def blkB (b:Blk):List Nat:=putV b.1.toNat++(encV (qaO b.2)++(allV [expL b.2]++encV (qbp b.2)))
def entB (o:Nat) (b:Blk):List Nat:=putV b.1.toNat++(putV b.2.length++(putV (qaX b.2).toNat++(putV (qbu b.2-qaX b.2).toNat++putV o)))
def qal (bl:List Blk):List Nat:=bl.flatMap (fun b=>qaq 3 (blkB b))
def qaD:Nat->List Blk->List Nat
 |_,[]=>[]
 |o,b::l=>entB o b++qaD (o+(qaq 3 (blkB b)).length) l
theorem qgH (l:List Blk) (b:Blk):qal (l++[b])=qal l++qaq 3 (blkB b):=by unfold qal;simp
theorem qhE (l:List Blk) (b:Blk):∀o,qaD o (l++[b])=qaD o l++entB (o+(qal l).length) b:=by
 induction l with
 |nil=>intro o;simp [qaD,qal]
 | cons x l ih =>
   intro o;rw [List.cons_append,qaD,ih,qaD,List.append_assoc];have :(qal (x::l)).length=(qaq 3 (blkB x)).length+(qal l).length:=(by unfold qal;simp);rw [this,Nat.add_assoc]
def qa4 (bl:List Blk):List Nat:=putV bl.length++qaD 0 bl
def qcj (bl:List Blk):List Nat:=qal bl++(qaq 4 (qa4 bl)++qdl (qal bl).length)
def qaS (l:List Pts):Int×List Nat:=
 if 2000<qad (qag l) then (2,[])
 else if l=[]∨qag l≠l then (1,[])
 else if 65535<(qa4 (qae l)).length then (2,[])
 else (0,qcj (qae l))
-- ---- blocks
theorem qcU (l:List Smp):cutN l<=l.length∧cutN l<=16:=by
 have h:=(qd7 (qar (l.take 16)) (qar (l.take 16)).length).1;have e:(qar (l.take 16)).length=min 16 l.length:=by unfold qar;rw [List.length_map,List.length_take]
 unfold cutN;omega
theorem qc0 {l:List Smp} (h:∀s ∈ l,qai s=true) (hl:l≠ []):1<=cutN l:=by
 unfold cutN;refine qnD (fun v hv=> ?_) ?_
 ·obtain ⟨s,hs,rfl⟩:=List.mem_map.1 hv;have h1:=h s (List.mem_of_mem_take hs);unfold qai at h1;simp only [Bool.and_eq_true] at h1;exact h1.2
 ·intro e;have e2:(qar (l.take 16)).length=0:=by rw [e];rfl
  unfold qar at e2;rw [List.length_map,List.length_take] at e2;have :=List.length_pos_iff.2 hl;omega
theorem qis (l:List Smp):qaJ (qar (l.take (cutN l)))=true:=by
 have h:=(qd7 (qar (l.take 16)) (qar (l.take 16)).length).2;have e:(qar (l.take 16)).take (cutN l)=qar (l.take (cutN l)):=by
  unfold qar;rw [<-List.map_take,List.take_take,Nat.min_eq_left (qcU l).2]
 rw [<-e];exact h
theorem qcy:∀(f:Nat) (l:List Smp),l.length<=f->(∀s ∈ l,qai s=true)->(qaV f l).flatten=l
 |0,l,h,_=>by rw [show l=[] from List.eq_nil_of_length_eq_zero (by omega)];rfl
 | f + 1, l, h, hr => by
   unfold qaV;by_cases h0:l=[]
   ·rw [if_pos h0,h0];rfl
   ·rw [if_neg h0,List.flatten_cons,qcy f (l.drop (cutN l)) (by have :=qc0 hr h0;rw [List.length_drop];omega) (fun s hs=>hr s (List.mem_of_mem_drop hs)),List.take_append_drop]
theorem qbq:∀(f:Nat) (l:List Smp),(∀s ∈ l,qai s=true)->∀c ∈ qaV f l,c≠ []∧c.length<=16∧qaJ (qar c)=true∧∀s ∈ c,s ∈ l
 |0,_,_,c,hc=>by simp [qaV] at hc
 | f + 1, l, hr, c, hc => by
   unfold qaV at hc;by_cases h0:l=[]
   ·rw [if_pos h0] at hc;cases hc
   ·rw [if_neg h0] at hc;rcases List.mem_cons.1 hc with rfl|hc
    ·have h1:=qc0 hr h0;have h2:=qcU l;refine ⟨?_,by rw [List.length_take];omega,qis l,fun s hs=>List.mem_of_mem_take hs⟩;intro e;have :(l.take (cutN l)).length=0:=(by rw [e];rfl);rw [List.length_take] at this;omega
    ·obtain ⟨k1,k2,k3,k4⟩:=qbq f _ (fun s hs=>hr s (List.mem_of_mem_drop hs)) c hc;exact ⟨k1,k2,k3,fun s hs=>List.mem_of_mem_drop (k4 s hs)⟩
theorem qfr {f:Nat} {l:List Smp} (h:l≠ []):qaV (f+1) l=l.take (cutN l)::qaV f (l.drop (cutN l)):=by
 rw [qaV,if_neg h]
theorem qgf:∀(f g:Nat) (l:List Smp),l.length<=f->l.length<=g->(∀s ∈ l,qai s=true)->qaV f l=qaV g l
 | 0, g, l, h, _, _ => by
   rw [show l=[] from List.eq_nil_of_length_eq_zero (by omega)];cases g<;>simp [qaV]
 | f + 1, 0, l, _, h, _ => by
   rw [show l=[] from List.eq_nil_of_length_eq_zero (by omega)];simp [qaV]
 | f + 1, g + 1, l, hf, hg, hr => by
   unfold qaV;by_cases h0:l=[]
   ·rw [if_pos h0,if_pos h0]
   ·have :=qc0 hr h0;rw [if_neg h0,if_neg h0,qgf f g _ (by rw [List.length_drop];omega) (by rw [List.length_drop];omega) (fun s hs=>hr s (List.mem_of_mem_drop hs))]
-- ---- a block's bytes, read
def qba (b : List Nat) : Option Pts :=
 if (qab b).1 = 0 ∧ (qab b).2.1 <= 1073741824 then
  (let t := decV (b.drop (qab b).2.2)
   if t.1 = 0 then
    (let x := qac 1 t.2.2
     if x.1 = 0 ∧ -1000 <= x.2.1.getD 0 0 ∧ x.2.1.getD 0 0 <= 1000 then
      (let m := decV x.2.2
       if m.1=0∧m.2.1.length=t.2.1.length then
        (match unpackV m.2.1 (x.2.1.getD 0 0) with
         |some v=>some (((qab b).2.1:Nat),t.2.1.zip v)
         |none=>none)
       else none)
     else none)
   else none)
 else none
theorem qp0 (l:List Smp):(qaO l).zip (qar l)=l:=by
 unfold qaO qar
 induction l with
 |nil=>rfl
 |cons s l ih=>simp [ih]
def BlkOk (b:Blk):Prop:=0<=b.1∧b.1<=1073741824∧b.2.length<=16∧qaJ (qar b.2)=true∧∀s ∈ b.2,In64 s.1
theorem BlkOk.mant {b:Blk} (h:BlkOk b):∀x ∈ qbp b.2,In64 x:=fun x hx=>by
 have hg:=qce h.2.2.2.1;unfold qbp at hx;obtain ⟨v,hv,rfl⟩:=List.mem_map.1 hx;exact qkt (hg v hv).1 (hg v hv).2
theorem BlkOk.tick {b:Blk} (h:BlkOk b):∀x ∈ qaO b.2,In64 x:=fun x hx=>by
 unfold qaO at hx;obtain ⟨s,hs,rfl⟩:=List.mem_map.1 hx;exact h.2.2.2.2 s hs
theorem BlkOk.exp {b:Blk} (h:BlkOk b): -300<=expL b.2∧expL b.2<=290:=qb5 (fun v hv=>(qce h.2.2.2.1 v hv).1)
theorem qfT {b:Blk} (h:BlkOk b):(blkB b).length<=1000:=by
 have aa:=h.2.2.1;have l1:(qaO b.2).length=b.2.length:=by unfold qaO;simp
 have l2:(qbp b.2).length=b.2.length:=by unfold qbp qar;simp
 have h1:=qax 9 b.1.toNat (by have :=h.2.1;omega);have h2:=qfO h.tick (by omega);have h3:=qfO h.mant (by omega);have h4:=qdS (l:=[expL b.2]) (fun n hn=>by
  obtain rfl:n=expL b.2:=by simpa using hn
  have :=h.exp;unfold In64;omega)
 rw [List.length_singleton] at h4;unfold blkB;simp only [List.length_append];omega
theorem qkN {b:Blk} (h:BlkOk b):qba (blkB b)=some b:=by
 obtain ⟨h1,h2,h3,h4,h5⟩:=h;have hg:=qce h4;have hm:=BlkOk.mant (b:=b) ⟨h1,h2,h3,h4,h5⟩;have ht:=BlkOk.tick (b:=b) ⟨h1,h2,h3,h4,h5⟩;have he:=qb5 (fun v hv=>(hg v hv).1);have e1:=qdR (u:=b.1.toNat) (by omega) (encV (qaO b.2)++(allV [expL b.2]++encV (qbp b.2)));have e2:=qk8 (allV [expL b.2]++encV (qbp b.2)) ht (by unfold qaO;simp;omega);have e3:qac 1 (allV [expL b.2]++encV (qbp b.2))=(0,[expL b.2],encV (qbp b.2)):=qgW (l:=[expL b.2]) _ (fun n hn=>by
  obtain rfl:n=expL b.2:=by simpa using hn
  unfold expL In64;omega)
 have e4:=qk8 (l:=qbp b.2) [] hm (by unfold qbp qar;simp;omega);rw [List.append_nil] at e4;have e5:unpackV (qbp b.2) (expL b.2)=some (qar b.2):=qhm h4;have e6:(qbp b.2).length=(qaO b.2).length:=by unfold qbp qar qaO;simp
 have e7:((b.1.toNat:Nat):Int)=b.1:=by omega
 unfold qba blkB;rw [e1];simp only;rw [if_pos ⟨trivial,by omega⟩,List.drop_left' rfl,e2];simp only;rw [if_pos trivial,e3];simp only;rw [if_pos ⟨trivial,by unfold expL;simp;omega,by unfold expL;simp;omega⟩,e4];simp only;rw [if_pos ⟨trivial,e6⟩];have e8:([expL b.2]:List Int).getD 0 0=expL b.2:=rfl;rw [e8,e5];simp only;rw [qp0,e7]
def qbs:Nat->List Nat->Option (List Pts)
 |0,_=>none
 | f + 1, b => if (qap b).1 ≠ 0 then none else if (qap b).2.1 ≠ 3 then some [] else match qba (qap b).2.2.1 with
   |none=>none
   | some p => match qbs f (qap b).2.2.2 with
     |none=>none
     |some l=>some (p::l)
theorem qd5:∀(bl:List Blk) (f:Nat) (t r:List Nat),bl.length<f->(∀b ∈ bl,BlkOk b)->t.length<=65535->qbs f (qal bl++(qaq 4 t++r))=some bl
 | [], f + 1, t, r, _, _, ht => by
   have e:qal []++(qaq 4 t++r)=qaq 4 t++r:=rfl;rw [e,qbs,qe3 ht];simp
 | b :: bl, f + 1, t, r, hf, hb, ht => by
   have e:qal (b::bl)++(qaq 4 t++r)=qaq 3 (blkB b)++(qal bl++(qaq 4 t++r)):=(by unfold qal;simp);have h1:=hb b List.mem_cons_self;have ih:=qd5 bl f t r (by simpa using hf) (fun x hx=>hb x (List.mem_cons_of_mem _ hx)) ht;rw [e,qbs,qe3 (by have :=qfT h1;omega)];simp only [ne_eq,not_true,if_false];rw [qkN h1,ih]
 | [],0,_,_,h,_,_=>by simp at h
 |_::_,0,_,_,h,_,_=>by simp at h
def qci (b:List Nat):Option (List Pts):=match qbs (b.length+1) b with
 |none=>none
 |some l=>if qaS (qag l)=(0,b) then some (qag l) else none
theorem qcM {c:List Pts} {b:Blk}:b ∈ qae c↔ ∃q ∈ c,b.1=q.1∧b.2 ∈ qaV q.2.length q.2:=by
 unfold qae qcP;rw [List.mem_flatMap];constructor
 ·rintro ⟨q,hq,hb⟩;obtain ⟨s,hs,rfl⟩:=List.mem_map.1 hb;exact ⟨q,hq,rfl,hs⟩
 ·rintro ⟨q,hq,h1,h2⟩;exact ⟨q,hq,List.mem_map.2 ⟨b.2,h2,by rw [<-h1]⟩⟩
theorem qfd {c:List Pts} (h:Clean c):qag (qae c)=c:=by
 refine qbX (qaj _) h fun k=> ?_;rw [qbJ];by_cases hk:inR k=true
 ·rw [if_pos hk,<-qdg h k];refine qca fun x=> ?_;rw [qcc,qcc];constructor
  ·rintro ⟨p,hp,e,hx⟩;obtain ⟨q,hq,h1,h2⟩:=qcM.1 hp;exact ⟨q,hq,by rw [<-h1];exact e,(qbq _ _ (h.bd q hq) _ h2).2.2.2 x hx⟩
  ·rintro ⟨q,hq,e,hx⟩;rw [<-qcy q.2.length q.2 (Nat.le_refl _) (h.bd q hq)] at hx;obtain ⟨s,hs,hx⟩:=List.mem_flatten.1 hx;exact ⟨(q.1,s),qcM.2 ⟨q,hq,rfl,hs⟩,e,hx⟩
 ·rw [if_neg hk,qbw fun p hp e=>hk (by rw [<-e];exact h.inr p hp)]
theorem qbj {c:List Pts} (h:Clean c):∀b ∈ qae c,BlkOk b∧b.2≠ []∧1<=b.1:=fun b hb=>by
 obtain ⟨q,hq,h1,h2⟩:=qcM.1 hb;obtain ⟨k1,k2,k3,k4⟩:=qbq _ _ (h.bd q hq) _ h2;have h3:=h.inr q hq;unfold inR at h3;rw [Bool.and_eq_true,decide_eq_true_eq,decide_eq_true_eq] at h3;refine ⟨⟨by omega,by omega,k2,k3,fun s hs=> ?_⟩,k1,by omega⟩;have :=qco (h.bd q hq s (k4 s hs));unfold In64;omega
theorem qjm (bl:List Blk):bl.length<=(qal bl).length:=by
 induction bl with
 |nil=>simp
 | cons b bl ih =>
   have :qal (b::bl)=qaq 3 (blkB b)++qal bl:=rfl;rw [this,List.length_append,qbO,List.length_cons];omega
theorem qeC {c:List Pts} {b:List Nat} (hb:qaS c=(0,b)):qci b=some c:=by
 have ab:=hb;unfold qaS at hb
 split at hb
 ·cases hb
 ·split at hb
  ·cases hb
  case isFalse h1=>
   split at hb
   ·cases hb
   case isFalse h2=>
    injection hb with _ hb;have aa:Clean c:=by
     have e:qag c=c:=Classical.byContradiction fun h=>h1 (.inr h);rw [<-e];exact qaj c
    have e:=qd5 (qae c) (b.length+1) (qa4 (qae c)) (qdl (qal (qae c)).length) (by
     rw [<-hb];unfold qcj;have :=qjm (qae c);rw [List.length_append];omega) (fun x hx=>(qbj aa x hx).1) (by omega)
    unfold qci;have e2:qal (qae c)++(qaq 4 (qa4 (qae c))++qdl (qal (qae c)).length)=b:=hb;rw [e2] at e;rw [e];simp only;rw [qfd aa,if_pos ab]
theorem qlm {b:List Nat} {c:List Pts} (h:qci b=some c):qaS c=(0,b)∧∃l,qbs (b.length+1) b=some l∧c=qag l:=by
 unfold qci at h;cases ho:qbs (b.length+1) b with
 |none=>rw [ho] at h;cases h
 | some l =>
   rw [ho] at h;simp only at h
   split at h
   case isTrue hb=>injection h with h;subst h;exact ⟨hb,l,rfl,rfl⟩
   case isFalse=>cases h
end Go.Proofs.YtnkelahimiipjaaGreatDoor
