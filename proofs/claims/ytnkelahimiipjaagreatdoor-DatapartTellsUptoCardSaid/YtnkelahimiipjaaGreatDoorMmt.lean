/-
 The numbers that are there and may be, rising; the points in order; those of some rows, put together.
-/
import Derived.Test.YtnkelahimiipjaaGreatDoorPmt
import Derived.Test.YtnkelahimiipjaaGreatDoorPlt
namespace Go.Proofs.YtnkelahimiipjaaGreatDoor
def putZ:List Int->Int->List Int
 | [],z=>[z]
 |a::l,z=>if a<z then a::putZ l z else if a=z then a::l else z::a::l
theorem qiL (r:List Int) (s x:Int):x ∈ putZ r s↔x ∈ r∨x=s:=by
 induction r with
 |nil=>simp [putZ]
 | cons a r ih =>
   unfold putZ
   split
   ·rw [List.mem_cons,ih,List.mem_cons,or_assoc]
   ·split
    ·rename_i h;constructor
     ·exact .inl
     ·rintro (h1|h1)
      ·exact h1
      ·rw [h1,<-h];exact List.mem_cons_self
    ·simp only [List.mem_cons];constructor
     ·rintro (h|h|h)
      ·exact .inr h
      ·exact .inl (.inl h)
      ·exact .inl (.inr h)
     ·rintro ((h|h)|h)
      ·exact .inr (.inl h)
      ·exact .inr (.inr h)
      ·exact .inl h
theorem qpc (r:List Int) (s:Int) (hr:r.Pairwise (· < ·)):(putZ r s).Pairwise (· < ·):=by
 induction r with
 |nil=>unfold putZ;exact List.pairwise_singleton _ _
 | cons a r ih =>
   have p:=List.pairwise_cons.1 hr;unfold putZ
   split
   ·rename_i h;refine List.pairwise_cons.2 ⟨fun b hb=> ?_,ih p.2⟩;rcases (qiL r s b).1 hb with h1|h1
    ·exact p.1 b h1
    ·rw [h1];exact h
   ·rename_i h
    split
    ·exact hr
    ·rename_i hne;refine List.pairwise_cons.2 ⟨fun b hb=> ?_,hr⟩;rcases List.mem_cons.1 hb with h1|h1
     ·rw [h1];omega
     ·have :=p.1 b h1;omega
theorem qh5 (l:List Int) (s:Int):(putZ l s).length<=l.length+1:=by
 induction l with
 |nil=>simp [putZ]
 |cons a l ih=>unfold putZ;split<;>(try split)<;>simp <;>omega
theorem qnx {l:List Int} {s:Int} (h:∀i (h:i<l.length),l[i]<s):putZ l s=l++[s]:=by
 induction l with
 |nil=>rfl
 | cons a l ih =>
   have h0:=h 0 (by simp);simp at h0;unfold putZ;rw [if_pos h0,ih fun i hi=>by have :=h (i+1) (by simp;omega);simpa using this];rfl
theorem qoM {l:List Int} {s:Int} {k:Nat} (hk:k<l.length) (h:∀i (h:i<l.length),i<k->l[i]<s) (hn:¬l[k]<s):
  putZ l s=if l[k]=s then l else l.take k++s::l.drop k:=by
 induction l generalizing k with
 |nil=>cases hk
 | cons a l ih =>
   cases k with
   | zero =>
     simp at hn;unfold putZ;rw [if_neg (by omega)];simp
   | succ k =>
     have h0:=h 0 (by simp) (by omega);simp at h0;unfold putZ;rw [if_pos h0,ih (k:=k) (by simpa using hk) (fun i hi aa=>by have :=h (i+1) (by simp;omega) (by omega);simpa using this) (by simpa using hn)];simp only [List.getElem_cons_succ]
     split<;>simp
def qeF (r:List Int) (p:Pts):List Int:=if inR p.1 then putZ r p.1 else r
def idsR (l:List Pts):List Int:=l.foldl qeF []
theorem qlc (r:List Int) (p:Pts) (x:Int):x ∈ qeF r p↔x ∈ r∨(x=p.1∧inR x=true):=by
 unfold qeF;by_cases h:inR p.1=true
 ·rw [if_pos h,qiL];constructor
  ·rintro (h1|rfl)
   ·exact .inl h1
   ·exact .inr ⟨rfl,h⟩
  ·rintro (h1|⟨h1,_⟩)
   ·exact .inl h1
   ·exact .inr h1
 ·rw [if_neg h];constructor
  ·exact .inl
  ·rintro (h1|⟨rfl,h2⟩)
   ·exact h1
   ·exact absurd h2 h
theorem qoS (l:List Pts):∀r:List Int,r.Pairwise (· < ·)->(l.foldl qeF r).Pairwise (· < ·)∧(∀x,x ∈ l.foldl qeF r↔x ∈ r∨(hasL l x=true∧inR x=true))∧(l.foldl qeF r).length<=r.length+l.length:=by
 induction l with
 |nil=>intro r hr;exact ⟨hr,fun x=>by simp [hasL],by simp⟩
 | cons p l ih =>
   intro r hr;have h1:(qeF r p).Pairwise (· < ·):=(by unfold qeF;split;exact qpc _ _ hr;exact hr);have h3:(qeF r p).length<=r.length+1:=(by unfold qeF;split;exact qh5 _ _;omega);obtain ⟨i1,i2,i3⟩:=ih (qeF r p) h1;refine ⟨i1,fun x=> ?_, ?_⟩
   ·rw [List.foldl_cons,i2,qlc];have e:hasL (p::l) x=((p.1==x) || hasL l x):=rfl;rw [e,Bool.or_eq_true,beq_iff_eq];constructor
    ·rintro ((h|⟨rfl,h⟩)|⟨h,h'⟩)
     ·exact .inl h
     ·exact .inr ⟨.inl rfl,h⟩
     ·exact .inr ⟨.inr h,h'⟩
    ·rintro (h|⟨rfl|h,h'⟩)
     ·exact .inl (.inl h)
     ·exact .inl (.inr ⟨rfl,h'⟩)
     ·exact .inr ⟨h,h'⟩
   ·rw [List.foldl_cons,List.length_cons];omega
theorem qfw (l:List Pts):(idsR l).Pairwise (· < ·):=(qoS l [] List.Pairwise.nil).1
theorem qdP (l:List Pts) (x:Int):x ∈ idsR l↔hasL l x=true∧inR x=true:=by
 have :=(qoS l [] List.Pairwise.nil).2.1 x;simpa [idsR] using this
theorem qb3 (l:List Pts):(idsR l).length<=l.length:=by
 have :=(qoS l [] List.Pairwise.nil).2.2;simpa [idsR] using this
theorem qkU {a b:List Int} (ha:a.Pairwise (· < ·)) (hb:b.Pairwise (· < ·)) (h:∀x,x ∈ a↔x ∈ b):a=b:=by
 have na:a.Nodup:=ha.imp fun h=>by omega
 have nb:b.Nodup:=hb.imp fun h=>by omega
 exact List.Perm.eq_of_pairwise (le:=fun x y:Int=>x<=y) (fun x y _ _ h1 h2=>by omega) (ha.imp fun h=>by omega) (hb.imp fun h=>by omega) ((List.perm_ext_iff_of_nodup na nb).2 h)
theorem IsKeys.ids {l:List Pts} {ks:List Int} (h:IsKeys l ks):ks.filter inR=idsR l:=
 qkU (h.1.filter _) (qfw l) fun x=>by rw [List.mem_filter,qdP,h.2 x]
def qcr (l:List Pts):List Pts:=(idsR l).map (fun k=>(k,qaC (ofL l k)))
theorem IsKeys.rows {l:List Pts} {ks:List Int} (h:IsKeys l ks):outs l ks=qcr l:=by unfold outs qcr;rw [h.ids]
theorem qgi (l:List Pts):(qcr l).length<=l.length:=by unfold qcr;rw [List.length_map];exact qb3 l
theorem qo3 (l : List Pts) : ∀ ks : List Int, ks.Nodup -> (ks.map (fun k => (ofL l k).length)).sum <= qad l := by
 induction l with
 | nil =>
   intro ks _;have :ks.map (fun k=>(ofL [] k).length)=ks.map (fun _=>0):=List.map_congr_left fun k _=>rfl;rw [this];have :∀ks:List Int,(ks.map (fun _=>0)).sum=0:=fun ks=>by induction ks with |nil=>rfl|cons a ks ih=>rw [List.map_cons,List.sum_cons,ih]
   rw [this];exact Nat.zero_le _
 | cons p l ih =>
   intro ks hn;have h1:=ih ks hn;have e:qad (p::l)=p.2.length+qad l:=by simp [qad]
   have h2 : ∀ ks : List Int, ks.Nodup -> (ks.map (fun k => (ofL (p :: l) k).length)).sum <= p.2.length + (ks.map (fun k => (ofL l k).length)).sum := by
    intro ks
    induction ks with
    |nil=>intro _;simp
    | cons k ks ih2 =>
      intro hn;have aa:=List.nodup_cons.1 hn;rw [List.map_cons,List.sum_cons,List.map_cons,List.sum_cons];by_cases hk:p.1=k
      ·have e1:ofL (p::l) k=p.2++ofL l k:=by
        unfold ofL;rw [List.filter_cons,if_pos (by rw [hk];exact beq_self_eq_true k)];rfl
       have e2:ks.map (fun k=>(ofL (p::l) k).length)=ks.map (fun k=>(ofL l k).length):=List.map_congr_left fun j hj=>by
        have ab:p.1≠j:=fun e=>aa.1 (by rw [<-hk,e];exact hj);unfold ofL;rw [List.filter_cons,if_neg (by rw [beq_iff_eq];exact ab)]
       rw [e1,e2,List.length_append];omega
      ·have e1:ofL (p::l) k=ofL l k:=by
        unfold ofL;rw [List.filter_cons,if_neg (by rw [beq_iff_eq];exact hk)]
       have :=ih2 aa.2;rw [e1];omega
   have :=h2 ks hn;omega
theorem qht (FO:Int->List Smp->List Smp) (l:List Pts):(fosC FO l).length<=l.length:=by
 unfold fosC;have h:=List.length_filter_le (fun p:Pts=>decide (p.2.length≠0)) (l.map (fun p=>(p.1,FO p.1 p.2)));rw [List.length_map] at h;simpa using h
theorem qkB (FO:Int->List Smp->List Smp) (h:∀k s,(FO k s).length<=s.length) (l:List Pts):qad (fosC FO l)<=qad l:=by
 induction l with
 |nil=>exact Nat.le_refl _
 | cons p l ih =>
   have e:qad (p::l)=p.2.length+qad l:=(by simp [qad]);have h2:=h p.1 p.2;have e2:qad (fosC FO (p::l))<=(FO p.1 p.2).length+qad (fosC FO l):=by
    unfold fosC;rw [List.map_cons,List.filter_cons]
    split
    ·simp [qad]
    ·omega
   omega
theorem qjt (l:List Pts):qad (qcr l)<=qad l:=by
 have h:=qo3 l (idsR l) ((qfw l).imp fun h=>by omega);refine Nat.le_trans ?_ h;unfold qcr;generalize idsR l=ks
 induction ks with
 |nil=>exact Nat.le_refl _
 | cons k ks ih =>
   have h:=qdy (ofL l k);simp only [List.map_cons,List.sum_cons];have e:qad ((k,qaC (ofL l k))::ks.map (fun k=>(k,qaC (ofL l k))))=(qaC (ofL l k)).length+qad (ks.map (fun k=>(k,qaC (ofL l k)))):=(by simp [qad]);rw [e];omega
def qag (l:List Pts):List Pts:=fosC (fun _ s=>s) (qcr l)
theorem qbg (l:List Pts):(qag l).length<=l.length:=Nat.le_trans (qht _ _) (qgi l)
theorem qaZ (l:List Pts):qad (qag l)<=qad l:=Nat.le_trans (qkB _ (fun _ _=>Nat.le_refl _) _) (qjt l)
end Go.Proofs.YtnkelahimiipjaaGreatDoor
namespace Go.Proofs.YtnkelahimiipjaaGreatDoor
open Go.RowKit Go.Sort Go.Maps
set_option maxHeartbeats 1000000 in
theorem qjF (gv:Value) (g:List Int) (z:Int) (W:World) (hR:RdZ W W.heap.size gv g) (hl:g.length<=1000000000000):
  Calls Tryz.prog 110 #[gv,.int .i64 z] W fun e w'=>(∃r:Int,e=.returned (.int .i64 r)∧(0<=r↔z ∈ g))∧w'=W:=by
 obtain ⟨A,c,rfl,hc,hA⟩:=hR;have HA:=Lib.hid hA;obtain ⟨n,hn⟩:∃n,n=g.length:=⟨_,rfl⟩;rw [<-hn] at hl hc ⊢;have HN:Hid (n=g.length):=hn;clear hn hA;go_enter Tryz.func110,Tryz.ntmps110;go_wp2_with fail
 go_loopw [5,8] (fun _ i wl=>∃k:Nat,k<=n∧i=.int .i64 k∧Hid (z ∉ g.take k)∧wl=W) (fun _ i _=>n-(intOf i).toNat)
 case atStart=>exact ⟨0,Nat.zero_le _,rfl,(by simp :z ∉ g.take 0),rfl⟩
 case round=>
  obtain ⟨k,hk,rfl,HT,rfl⟩:=hrel;by_cases hlt:k<n
  ·have ab:k<g.length:=(by rw [<-HN.out];exact hlt);rcases HA.out with h0|⟨b1,o1,e,af,aa⟩
   ·subst h0;simp at ab
   subst e;obtain ⟨x,hx⟩:∃x,x=g[k]:=⟨_,rfl⟩;have c0:wr.cell? ⟨b1,o1+k,none⟩=some (.int .i64 x):=(by rw [hx];exact aa k ab);have i1:(k:Int)<(n:Int):=(by omega);by_cases hxz:z=x
   ·have hm:Hid (z ∈ g):=(by show _ ∈ _;rw [hxz,hx];exact List.getElem_mem ab);have g1:((z:Int)==x)=true:=(by simp [hxz]);clear hx aa;go_wp2_with fail;go_ret;exact ⟨⟨_,rfl,⟨fun _=>hm.out,fun _=>by omega⟩⟩,rfl⟩
   ·have ae:Hid (z ∉ g.take (k+1)):=by
     show _;rw [List.take_succ_eq_append_getElem ab,List.mem_append,not_or];exact ⟨HT.out,by rw [<-hx];simp [hxz]⟩
    have g1:((z:Int)==x)=false:=beq_eq_false_iff_ne.2 hxz;clear hx aa;go_wp2_with fail;go_roundw
    case rel=>exact ⟨k+1,by omega,by go_num,ae,by first|trivial|rfl⟩
    case measure=>simp [intOf];omega
  ·have ac:k=n:=(by omega);have ad:Hid (z ∉ g):=(by have :=HT.out;rwa [ac,HN.out,List.take_length] at this);clear ac;go_wp2_with fail;go_ret;exact ⟨⟨_,rfl,⟨fun h=>by omega,fun h=>absurd h ad.out⟩⟩,rfl⟩
theorem qfP (gv:Value) (g:List Int) (id:Int) (W:World) (hR:RdZ W W.heap.size gv g) (hl:g.length<=1000000000000):
  Calls Tryz.prog 86 #[gv,.int .i64 id] W fun e w'=>e=.returned (.bool (decide (id ∈ g)))∧w'=W:=by
 have HK:=Lib.hid (qjF gv g id W hR hl);obtain ⟨A,c,rfl,hc,hA⟩:=hR;clear hA hl;obtain ⟨n,hn⟩:∃n,n=g.length:=⟨_,rfl⟩;rw [<-hn] at hc HK ⊢;clear hn;go_enter Tryz.func86,Tryz.ntmps86;go_wp2_with (go_at_call 110;refine HK.out.mono ?_;rintro e w1 ⟨⟨r,rfl,hr⟩,rfl⟩;have HR:=Lib.hid hr;clear hr);go_ret;refine ⟨qao ?_,rfl⟩;have h:=HR.out;by_cases h0:0<=r
 ·have h1:=h.1 h0;simp [h0,h1]
 ·have h1:id ∉ g:=fun h2=>h0 (h.2 h2);simp [h0,h1]
end Go.Proofs.YtnkelahimiipjaaGreatDoor
namespace Go.Proofs.YtnkelahimiipjaaGreatDoor
open Go.RowKit Go.Sort Go.Maps
attribute [local go_sem] Oper.semAt_some
end Go.Proofs.YtnkelahimiipjaaGreatDoor
