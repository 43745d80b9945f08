/-
 The reference's own words on points: Of, Ids.
-/
import Derived.Test.YtnkelahimiipjaaGreatDoorPzt
import Derived.Test.YtnkelahimiipjaaGreatDoorQpt
import Derived.Deep.RegionHeld3
set_option maxRecDepth 100000
set_option maxHeartbeats 8000000
namespace Go.Proofs.YtnkelahimiipjaaGreatDoor
open Go.RowKit Go.Sort Go.Maps
theorem qnG (v:Value) (l:List Pts) (id:Int) (W:World) (hR:RdP W W.heap.size v l) (hn:l.length<=100000) (hm:qad l<=10000):
  Calls Tryz.prog 57 #[v,.int .i64 id] W fun e w'=>∃r,e=.returned r∧Own w' W.heap.size 66 r (qaC (ofL l id))∧Below W.heap.size W w':=by
 obtain ⟨A,c,rfl,hc,hA⟩:=hR;obtain ⟨n,ad⟩:∃n,n=l.length:=⟨_,rfl⟩;rw [<-ad] at hc hn ⊢;have HN:=Lib.hid ad;have HA:=Lib.hid hA;have HM:=Lib.hid hm;have HL:Hid (∀k,(ofL (l.take k) id).length<=10000):=fun k=>by
  have h1:=qhZ (l.take k) id;have h2:=qbU l k;unfold qad at h2 hm;omega
 clear ad hA hc hm;go_enter Tryz.func57,Tryz.ntmps57;go_wp2_with fail
 go_loopw [5,6] (fun o i wl=>∃k:Nat,k<=n∧i=.int .i64 k∧Hid (Own wl W.heap.size 66 o (ofL (l.take k) id))∧Hid (Below W.heap.size W wl))
  (fun _ i _=>n-(intOf i).toNat)
 case atStart=>exact ⟨0,Nat.zero_le _,rfl,Own.nil _ _ _,Below.refl _ _⟩
 case round=>
  obtain ⟨k,hk,rfl,HO,HB⟩:=hrel;by_cases hlt:k<n
  ·have ac:k<l.length:=(by rw [<-HN.out];exact hlt);rcases HA.out with h0|⟨b,o,e,hb,ah⟩
   ·subst h0;simp at ac
   subst e;obtain ⟨p,hp⟩:∃p,p=l[k]:=⟨_,rfl⟩;obtain ⟨c0,ps,c1,af,ag⟩:PtAt wr W.heap.size b (o+k*2) p:=(by rw [hp];exact (ah k ac).below HB.out hb);have ai:=Lib.hid af;have an:=Lib.hid ag;have HT:Hid (ofL (l.take (k+1)) id=if id=p.1 then ofL (l.take k) id++p.2 else ofL (l.take k) id):=by
    show _=_;rw [List.take_succ_eq_append_getElem ac,<-hp,qi8]
    split
    ·rename_i h;rw [h]
    ·rfl
   have am:=Lib.hid (HL.out (k+1));have i1:(k:Int)<(n:Int):=(by omega);clear hp ah af ag;by_cases he:p.1=id
   ·have g1:((p.1:Int)==id)=true:=(by simp [he]);have ab:Hid (ofL (l.take (k+1)) id=ofL (l.take k) id++p.2):=(by show _=_;rw [HT.out,if_pos he.symm]);have aa:((ofL (l.take k) id).length+p.2.length)*32<=140737488355328:=by
     have h1:=am.out;rw [ab.out,List.length_append] at h1;omega
    have ae:=Lib.hid aa;clear he aa;go_wp2_with (at_builtin;refine appN rfl _ _ 60 66 rfl Tryz.underlying60 qaM W.heap.size _ _ _ p.2 W.heap.size rfl HO.out rfl ai.out an.out ae.out HB.out.size ?_;intro v1 w1 h1 h2 _ _;have al:=Lib.hid h1;have ak:Hid (Below W.heap.size W w1):=HB.out.grown h2 HB.out.size (fun g hg=>(HO.out.blk hg).1);clear h1 h2);go_roundw
    case rel=>exact ⟨k+1,by omega,by go_num,by show Own _ _ _ _ _;rw [ab.out];exact al.out,ak.out⟩
    case measure=>simp [intOf];omega
   ·have g1:((p.1:Int)==id)=false:=(by simp [he]);have ab:Hid (ofL (l.take (k+1)) id=ofL (l.take k) id):=(by show _=_;rw [HT.out,if_neg (fun h=>he h.symm)]);clear he;go_wp2_with fail;go_roundw
    case rel=>exact ⟨k+1,by omega,by go_num,by show Own _ _ _ _ _;rw [ab.out];exact HO.out,HB.out⟩
    case measure=>simp [intOf];omega
  ·obtain rfl:n=k:=(by omega);have h0:=HO.out;rw [HN.out,List.take_length] at h0;have aj:=Lib.hid h0;clear h0;have KS:=Lib.hid (qic _ (ofL l id) wr aj.out.rd (by have h:=HL.out n;rw [HN.out,List.take_length] at h;exact h));go_wp2_with (go_at_call 92;refine KS.out.mono ?_;rintro e w2 ⟨r,rfl,h1,h2⟩;rw [qk3] at h1;have H1:=Lib.hid h1;have H2:=Lib.hid h2;clear h1 h2);go_ret;exact ⟨r,rfl,H1.out.lower HB.out.size,HB.out.trans (H2.out.mono HB.out.size)⟩
theorem qgM (v:Value) (l:List Pts) (W:World) (hR:RdP W W.heap.size v l) (hn:l.length<=100000):
  Calls Tryz.prog 28 #[v] W fun e w'=>∃r,e=.returned r∧RdZ w' w'.heap.size r (idsR l)∧Nz r∧Below W.heap.size W w':=by
 obtain ⟨A,c,rfl,hc,hA⟩:=hR;obtain ⟨n,ac⟩:∃n,n=l.length:=⟨_,rfl⟩;rw [<-ac] at hc hn ⊢;have HN:=Lib.hid ac;have HA:=Lib.hid hA;have HL:Hid (∀k,(idsR (l.take k)).length<=1000000):=fun k=>by
  have h1:=qb3 (l.take k);rw [List.length_take] at h1;omega
 clear ac hA hc;go_enter Tryz.func28,Tryz.ntmps28;go_wp2_with fail
 go_loopw [3,4] (fun o i wl=>∃k:Nat,k<=n∧i=.int .i64 k∧Hid (RdZ wl wl.heap.size o (idsR (l.take k)))∧Hid (Nz o)∧Hid (Below W.heap.size W wl))
  (fun _ i _=>n-(intOf i).toNat)
 case atStart=>exact ⟨0,Nat.zero_le _,rfl,(OwZ.nil _ 0).rd,qi6,Below.refl _ _⟩
 case round=>
  obtain ⟨k,hk,rfl,HO,HZ,HB⟩:=hrel;by_cases hlt:k<n
  ·have ab:k<l.length:=(by rw [<-HN.out];exact hlt);rcases HA.out with h0|⟨b,o,e,hb,ad⟩
   ·subst h0;simp at ab
   subst e;obtain ⟨p,hp⟩:∃p,p=l[k]:=⟨_,rfl⟩;obtain ⟨c0,_⟩:PtAt wr W.heap.size b (o+k*2) p:=(by rw [hp];exact (ad k ab).below HB.out hb);have HT:Hid (idsR (l.take (k+1))=if inR p.1 then putZ (idsR (l.take k)) p.1 else idsR (l.take k)):=by
    show _=_;rw [List.take_succ_eq_append_getElem ab,<-hp];unfold idsR;rw [List.foldl_append];rfl
   have i1:(k:Int)<(n:Int):=(by omega);obtain ⟨z,hz⟩:∃z,z=p.1:=⟨_,rfl⟩;rw [<-hz] at c0 HT;have af:=Lib.hid c0;clear hp ad hz;by_cases hin:1<=z∧z<=1073741824
   ·obtain ⟨z1,z2⟩:=hin;have aa:Hid (idsR (l.take (k+1))=putZ (idsR (l.take k)) z):=(by show _=_;rw [HT.out,if_pos (by simp [inR,z1,z2])]);have KP:=Lib.hid (qlQ _ (idsR (l.take k)) z wr HO.out HZ.out (HL.out k));go_wp2_with (go_at_call 56;refine KP.out.mono ?_;rintro e w2 ⟨r,rfl,h1,h2,h3⟩;rw [<-aa.out] at h1;have H1:=Lib.hid h1;have H2:=Lib.hid h2;have H3:=Lib.hid (HB.out.trans (h3.mono HB.out.size));clear h1 h2 h3);go_roundw
    case rel=>exact ⟨k+1,by omega,by go_num,H1.out,H2.out,H3.out⟩
    case measure=>simp [intOf];omega
   ·have aa:Hid (idsR (l.take (k+1))=idsR (l.take k)):=by
     show _=_;rw [HT.out,if_neg];intro h;simp [inR] at h;exact hin h
    by_cases z1:1<=z
    ·have z2:¬z<=1073741824:=fun h=>hin ⟨z1,h⟩;go_wp2_with fail;go_roundw
     case rel=>exact ⟨k+1,by omega,by go_num,by show RdZ _ _ _ _;rw [aa.out];exact HO.out,HZ.out,HB.out⟩
     case measure=>simp [intOf];omega
    ·go_wp2_with fail;go_roundw
     case rel=>exact ⟨k+1,by omega,by go_num,by show RdZ _ _ _ _;rw [aa.out];exact HO.out,HZ.out,HB.out⟩
     case measure=>simp [intOf];omega
  ·obtain rfl:n=k:=(by omega);have h0:=HO.out;rw [HN.out,List.take_length] at h0;have ae:=Lib.hid h0;clear h0;go_wp2_with fail;go_ret;exact ⟨_,rfl,ae.out,HZ.out,HB.out⟩
theorem AwR.on {w w':World} {row:Option Nat} {v:Value} {l:List Smp} (h:AwR w row v l) (k:w.heap.size<=w'.heap.size):AwR w' row v l:=
 fun hl a n c e=>⟨(h hl a n c e).1,Nat.lt_of_lt_of_le (h hl a n c e).2 k⟩
theorem qok (cs:List Row) (id:Int) (v:Value) (s:List Smp):cut (cs++[(id,v,s)])=cut cs++[(id,s)]:=by simp [cut]
theorem qfS {α β :Type} (f: α -> β) (l:List α) (k:Nat) (h:k<l.length) (x: α) (hx:x=l[k]):(l.take (k+1)).map f=(l.take k).map f++[f x]:=by
 rw [List.take_succ_eq_append_getElem h,List.map_append,<-hx];rfl
theorem qcf (v:Value) (l:List Pts) (W:World) (hR:RdP W W.heap.size v l) (hn:l.length<=100000) (hm:qad l<=10000):
  Calls Tryz.prog 29 #[v] W fun e w'=>∃r,e=.returned r∧RdP w' w'.heap.size r (qag l)∧Below W.heap.size W w':=by
 have KI:=Lib.hid (qgM v l W hR hn);have KO:Hid (∀id w',Below W.heap.size W w'->Calls Tryz.prog 57 #[v,.int .i64 id] w' fun e w''=>∃r,e=.returned r∧Own w'' w'.heap.size 66 r (qaC (ofL l id))∧Below w'.heap.size w' w''):=fun id w' hb=>qnG v l id w' (hR.on hb) hn hm;have af:Hid ((idsR l).length<=100000):=by show _<=_;have :=qb3 l;omega
 obtain ⟨A,c,rfl,hc,hA⟩:=hR;obtain ⟨n0,ao⟩:∃n0,n0=l.length:=⟨_,rfl⟩;rw [<-ao] at hc hn KI KO ⊢;clear hA hc hm ao;go_enter Tryz.func29,Tryz.ntmps29;go_wp2_with fail;refine KI.out.mono ?_;rintro e w1 ⟨iv,rfl,hI,ar,aj⟩;obtain ⟨ks,ah⟩:∃ks,ks=idsR l:=⟨_,rfl⟩;rw [<-ah] at hI af;have au:=Lib.hid ah;obtain ⟨A2,c2,rfl,ax,al⟩:=hI;obtain ⟨m,hm⟩:∃m,m=ks.length:=⟨_,rfl⟩;rw [<-hm] at ax af ⊢;have HM:=Lib.hid hm;have a0:=Lib.hid al;have ad:=Lib.hid aj;have a3:=af.out;clear hm al aj ah ar KI af;go_wp2_with fail
 go_loopw [3,5,6] (fun o i _ wl=>∃(k:Nat) (cs:List Row),k<=m∧i=.int .i64 k∧Hid (OwP wl w1.heap.size o cs)∧Hid (cut cs=fosC (fun _ s=>s) ((ks.take k).map (fun k=>(k,qaC (ofL l k)))))∧Hid (cs.length<=k)∧Hid (Below w1.heap.size w1 wl))
  (fun _ i _ _=>m-(intOf i).toNat)
 case atStart=>exact ⟨0,[],Nat.zero_le _,rfl,OwP.nil _ _,rfl,Nat.le_refl _,Below.refl _ _⟩
 case round=>
  obtain ⟨k,cs,hk,rfl,HO,HC,HL,HB⟩:=hrel;by_cases hlt:k<m
  ·have ag:k<ks.length:=(by rw [<-HM.out];exact hlt);rcases a0.out with h0|⟨b,o,e,hb,ap⟩
   ·subst h0;simp at ag
   subst e;obtain ⟨z,hz⟩:∃z,z=ks[k]:=⟨_,rfl⟩;have c0:wr.cell? ⟨b,o+k,none⟩=some (.int .i64 z):=(by rw [hz];exact (HB.out.cell hb).trans (ap k ag));have a2:=Lib.hid c0;have ae:Hid (fosC (fun _ s=>s) ((ks.take (k+1)).map (fun k=>(k,qaC (ofL l k))))=if (qaC (ofL l z)).length=0 then cut cs else cut cs++[(z,qaC (ofL l z))]):=by
    show _=_;rw [qfS _ ks k ag z hz,qeE,<-HC.out]
   have aw:Hid (Below W.heap.size W wr):=ad.out.trans (HB.out.mono ad.out.size);have KO1:=Lib.hid (KO.out z wr aw.out);have i1:(k:Int)<(m:Int):=(by omega);clear hz ap;go_wp2_with fail;refine KO1.out.mono ?_;rintro e w2 ⟨r,rfl,h1,h2⟩;obtain ⟨s,hs⟩:∃s,s=qaC (ofL l z):=⟨_,rfl⟩;rw [<-hs] at h1 ae;have ai:=Lib.hid (HO.out.on h2);have ay:=Lib.hid h1;have ak:=Lib.hid (AwR.own HO.out h1);have ac:Hid (Below w1.heap.size w1 w2):=HB.out.trans (h2.mono HB.out.size);have an:=Lib.hid h1.rd;have aq:=Lib.hid h1.nz;have c1:w2.cell? ⟨b,o+k,none⟩=some (.int .i64 z):=(h2.cell (qaa c0)).trans c0;obtain ⟨A3,c3,rfl,a1,_⟩:=h1.rd;obtain ⟨n3,am⟩:∃n3,n3=s.length:=⟨_,rfl⟩;rw [<-am] at a1 ae ay ak an aq ⊢;clear h1 h2 hs c0 HC KO1 HO am;by_cases hne:n3=0
   ·have ab:Hid (cut cs=fosC (fun _ s=>s) ((ks.take (k+1)).map (fun k=>(k,qaC (ofL l k))))):=(by show _=_;rw [ae.out,if_pos hne]);subst hne;go_wp2_with fail;go_roundw
    case rel=>exact ⟨k+1,cs,by omega,by go_num,ai.out,ab.out,by show _<=_;have :=HL.out;omega,ac.out⟩
    case measure=>simp [intOf];omega
   ·have ab:Hid (cut (cs++[(z,.slice A3 n3 c3,s)])=fosC (fun _ s=>s) ((ks.take (k+1)).map (fun k=>(k,qaC (ofL l k))))):=(by show _=_;rw [ae.out,if_neg hne,qok]);have g1:0<n3:=(by omega);have g2:(0:Int)<(n3:Int):=(by omega);have aa:Hid (∀o,Below w2.heap.size w2 (w2.alloc o)):=fun o=>(Below.refl _ _).alloc (Nat.le_refl _) _;go_wp2_with (at_builtin;refine qqf rfl _ _ 22 rfl Tryz.underlying22 qov w1.heap.size _ cs (z,.slice A3 n3 c3,s) rfl (ai.out.on (aa.out _)) w2.heap.size 0 1 rfl (qaT _ _ _ 0) (qaT _ _ _ 1) ((an.out.below (aa.out _)).mono (aa.out _).size) aq.out (ak.out.on (aa.out _).size) (by have :=HL.out;omega) (Nat.le_trans ac.out.size (aa.out _).size) ?_;intro v4 w4 h1 h2 h3;have az:=Lib.hid h1;have av:Hid (Below w1.heap.size w1 w4):=(ac.out.alloc ac.out.size _).grown h2 (Nat.le_trans ac.out.size (aa.out _).size) (fun g hg=>(World.ownsRow.lt ai.out.row g hg).1);clear h1 h2 h3);go_roundw
    case rel=>exact ⟨k+1,_,by omega,by go_num,az.out,ab.out,by show _<=_;have :=HL.out;simp;omega,av.out⟩
    case measure=>simp [intOf];omega
  ·obtain rfl:m=k:=(by omega);have ab:Hid (cut cs=qag l):=by
    show _=_;rw [HC.out,HM.out,List.take_length,au.out];rfl
   go_wp2_with fail;go_ret;exact ⟨_,rfl,by rw [<-ab.out];exact HO.out.rdP,ad.out.trans (HB.out.mono ad.out.size)⟩
theorem qdq (v:Value) (l:List Pts) (W:World) (hR:RdP W W.heap.size v l) (hn:l.length<=100000) (hm:qad l<=10000):
  Calls Tryz.prog 23 #[v] W fun e w'=>e=.returned (.int .i64 (qad (qag l)))∧Below W.heap.size W w':=by
 have HK:=Lib.hid (qcf v l W hR hn hm);have aq:Hid ((qag l).length<=100000∧qad (qag l)<=100000):=⟨Nat.le_trans (qbg l) hn,Nat.le_trans (qaZ l) (by omega)⟩;obtain ⟨A,c,rfl,hc,_⟩:=hR;obtain ⟨n0,ak⟩:∃n0,n0=l.length:=⟨_,rfl⟩;rw [<-ak] at hc HK ⊢;clear hn hm ak;go_enter Tryz.func23,Tryz.ntmps23;go_wp2_with (go_at_call 29;refine HK.out.mono ?_;rintro e w1 ⟨r,rfl,h2,h3⟩;obtain ⟨q,hq⟩:∃q,q=qag l:=⟨_,rfl⟩;have ab:=aq.out;rw [<-hq] at h2 ab;obtain ⟨b1,b2⟩:=ab;have HQ:=Lib.hid hq;have HB:=Lib.hid h3;obtain ⟨A2,c2,rfl,ap,aj⟩:=h2;obtain ⟨m,hm⟩:∃m,m=q.length:=⟨_,rfl⟩;rw [<-hm] at ap b1;rw [<-hm];have HM:=Lib.hid hm;have HA:=Lib.hid aj;clear hq h3 aj hm)
 go_loopw [4,5] (fun s i wl=>∃k:Nat,k<=m∧s=.int .i64 (qad (q.take k))∧i=.int .i64 k∧Hid (Below w1.heap.size w1 wl)) (fun _ i _=>m-(intOf i).toNat)
 case atStart=>exact ⟨0,Nat.zero_le _,rfl,rfl,Below.refl _ _⟩
 case round=>
  obtain ⟨k,hk,rfl,rfl,af⟩:=hrel;by_cases hlt:k<m
  ·have ac:k<q.length:=(by rw [<-HM.out];exact hlt);rcases HA.out with h0|⟨b3,o3,e,ar,al⟩
   ·subst h0;simp at ac
   subst e;obtain ⟨p,hp⟩:∃p,p=q[k]:=⟨_,rfl⟩;obtain ⟨c3,sv,c4,am,_⟩:PtAt wr w1.heap.size b3 (o3+k*2) p:=(by rw [hp];exact (al k ac).below af.out ar);obtain ⟨A4,c5,rfl,an,_⟩:=am;have ai:q.take (k+1)=q.take k++[p]:=(by rw [hp];exact List.take_succ_eq_append_getElem ac);have aa:qad (q.take (k+1))=qad (q.take k)+p.2.length:=(by rw [ai,qdm]);have ao:=qbU q (k+1);obtain ⟨t0,ag⟩:∃t,t=qad (q.take k):=⟨_,rfl⟩;obtain ⟨n5,ad⟩:∃n,n=p.2.length:=⟨_,rfl⟩;rw [<-ag,<-ad] at aa;rw [<-ad] at c4 an;rw [<-ag];have HS:=Lib.hid aa;have i1:(k:Int)<(m:Int):=(by omega);have i2:t0+n5<=100000:=(by omega);clear hp al ai aa ao ag ad;go_wp2_with fail;go_roundw
   case rel=>exact ⟨k+1,by omega,by rw [HS.out];go_num,by go_num,af.out⟩
   case measure=>simp [intOf];omega
  ·have ah:k=m:=(by omega);have ae:Hid (q.take k=q):=(by show _=_;rw [ah,HM.out,List.take_length]);clear ah;go_wp2_with fail;go_ret;exact ⟨by rw [ae.out,HQ.out];rfl,HB.out.trans (af.out.mono HB.out.size)⟩
end Go.Proofs.YtnkelahimiipjaaGreatDoor
namespace Go.Proofs.YtnkelahimiipjaaGreatDoor
open Go.RowKit Go.Sort Go.Maps
attribute [local go_sem ↓] Go.wp_at_zero Go.wp_at_succ
def qd3 (x:Int×Int×Bool):Value:=.tuple #[.int .i64 x.1,.int .i64 x.2.1,.bool x.2.2]
theorem qjl (v:Value) (l:List Pts) (W:World) (T:Tabs W) (hR:RdP W W.heap.size v l) (hwf:∀p ∈ l,(Lit.int .i64 p.1).wf=true) (hn2:l.length<=990000000) (hn3:qad l<=990000000):
  Calls Tryz.prog 52 #[v] W fun e w'=>e=.returned (qd3 (qcW (qag l)))∧Below W.heap.size W w':=by
 have HK:=Lib.hid (qnY v l W T hR hwf hn2 hn3);obtain ⟨A,c,rfl,hc,_⟩:=hR;have ak:=Lib.hid (qaj l);have al:Hid ((qag l).length<=990000000):=Nat.le_trans (qbg l) hn2;have ax:Hid (∀p ∈ qag l,p.2.length<=990000000):=fun p hp=>by
  have h1:=qaZ l;have h2:=qcH hp;omega
 obtain ⟨n0,a0⟩:∃n0,n0=l.length:=⟨_,rfl⟩;rw [<-a0] at hc hn2 HK ⊢;clear hwf hn3 T a0 hn2;unfold qd3;obtain ⟨q,hq⟩:∃q,q=qag l:=⟨_,rfl⟩;rw [<-hq] at HK ak al ax ⊢;clear hq;go_enter Tryz.func52,Tryz.ntmps52;go_wp2_with fail;refine HK.out.mono ?_;rintro e w1 ⟨r,rfl,h2,h3⟩;have HB:=Lib.hid h3;obtain ⟨A2,c2,rfl,a8,ao⟩:=h2;obtain ⟨m,hm⟩:∃m,m=q.length:=⟨_,rfl⟩;have a4:=al.out;rw [<-hm] at a8 a4;rw [<-hm];have HM:=Lib.hid hm;have HA:=Lib.hid ao;clear h3 ao hm HK al;by_cases hm0:m=0
 ·have a3:Hid (qcW q=(0,0,false)):=by
   have :q=[]:=List.eq_nil_of_length_eq_zero (by rw [<-HM.out];exact hm0);show _=_;rw [this];rfl
  subst hm0;go_wp2_with fail
  go_ret3
  exact ⟨by rw [a3.out];rfl,HB.out⟩
 ·have g0:((m:Int)==0)=false:=by rw [beq_eq_false_iff_ne];omega
  have HS:Hid (qcW q=(mnT 1099511627776 (q.flatMap (fun p=>p.2)),mxT 0 (q.flatMap (fun p=>p.2)),true)):=by
   show _=_;unfold qcW;rw [if_neg];intro h;rw [h] at HM;exact hm0 HM.out
  go_wp2_with fail;clear g0
  go_loopw [6,7,17] (fun a b i wl=>∃(k:Nat),k<=m∧i=.int .i64 k∧a=.int .i64 (mnT 1099511627776 ((q.take k).flatMap (fun p=>p.2)))∧b=.int .i64 (mxT 0 ((q.take k).flatMap (fun p=>p.2)))∧Hid (Below w1.heap.size w1 wl)) (fun _ _ i _=>m-(intOf i).toNat)
  case atStart=>exact ⟨0,Nat.zero_le _,rfl,rfl,rfl,Below.refl _ _⟩
  case round=>
   obtain ⟨k,hk,rfl,rfl,rfl,ag⟩:=hrel;by_cases hlt:k<m
   ·have af:k<q.length:=(by rw [<-HM.out];exact hlt);rcases HA.out with h0|⟨b3,o3,e,a9,a1⟩
    ·subst h0;simp at af
    subst e;obtain ⟨p,hp⟩:∃p,p=q[k]:=⟨_,rfl⟩;have ae:p ∈ q:=(by rw [hp];exact List.getElem_mem af);have am:p.2≠ []:=ak.out.ne p ae;have ai:0<p.2.length:=List.length_pos_iff.2 am;have ab:p.2.length-1<p.2.length:=(by omega);have ay:=ak.out.up p ae;have a6:=ax.out p ae;obtain ⟨c3,sv,c4,a2,_⟩:PtAt wr w1.heap.size b3 (o3+k*2) p:=(by rw [hp];exact (a1 k af).below ag.out a9);obtain ⟨A4,c5,rfl,a7,a5⟩:=a2;rcases a5 with h0|⟨b4,o4,e,bb,aa⟩
    ·exact absurd h0 am
    subst e;have d0:=(aa 0 ai).1;have e0:=(aa (p.2.length-1) ab).1;have au:q.take (k+1)=q.take k++[p]:=(by rw [hp];exact List.take_succ_eq_append_getElem af);have ac:Hid (_∧_):=qmb (q.take k) 1099511627776 0 p ay ai ab;rw [<-au] at ac;obtain ⟨x0,ap⟩:∃x,x=p.2[0].1:=⟨_,rfl⟩;obtain ⟨x1,aw⟩:∃x,x=p.2[p.2.length-1].1:=⟨_,rfl⟩;rw [<-ap] at d0 ac;rw [<-aw] at e0 ac;rw [Nat.zero_mul,Nat.add_zero] at d0;obtain ⟨n5,an⟩:∃n,n=p.2.length:=⟨_,rfl⟩;rw [<-an] at c4 a7 ai e0 a6;obtain ⟨i5,av⟩:∃i,i=n5-1:=⟨_,rfl⟩;rw [<-av] at e0;have i1:(k:Int)<(m:Int):=(by omega);have g1:IntKind.i64.wrap ((n5:Int)-1)=(i5:Int):=(by rw [IntWalk.i64_in _ (by omega)];omega);have g2:(i5:Int)<(n5:Int):=(by omega);have g3:(0:Int)<(n5:Int):=(by omega);have g4:i5<n5:=(by omega);obtain ⟨ta,az⟩:∃t,t=mnT 1099511627776 ((q.take k).flatMap (fun p=>p.2)):=⟨_,rfl⟩;obtain ⟨tb,aq⟩:∃t,t=mxT 0 ((q.take k).flatMap (fun p=>p.2)):=⟨_,rfl⟩;rw [<-az,<-aq] at ac ⊢;have d0':wr.cell? ⟨b4,o4,none⟩=some (.int .i64 x0):=d0;have e0':wr.cell? ⟨b4,o4+i5*4,none⟩=some (.int .i64 x1):=e0;clear d0 e0 hp a1 aa au ap aw an av ae am ab ay az aq;go_wp2_with fail;obtain ⟨wp,ah⟩:∃wp,wp=wr.alloc (.cells #[.int .i64 p.1,.slice (some ⟨b4,o4,none⟩) n5 c5] 62):=⟨_,rfl⟩;have ad:Hid (Below wr.heap.size wr wp):=(by show Below _ _ _;rw [ah];exact (Below.refl _ _).alloc (Nat.le_refl _) _);have f1:wp.cell? ⟨wr.heap.size,1,none⟩=some (.slice (some ⟨b4,o4,none⟩) n5 c5):=(by rw [ah];simp);have f2:wp.cell? ⟨b4,o4,none⟩=some (.int .i64 x0):=(ad.out.cell (qaa d0')).trans d0'
    have f3:wp.cell? ⟨b4,o4+i5*4,none⟩=some (.int .i64 x1):=(ad.out.cell (qaa e0')).trans e0';have KY:Hid (∀w',Below wp.heap.size wp w'->w'.cell? ⟨wr.heap.size,1,none⟩=some (.slice (some ⟨b4,o4,none⟩) n5 c5)∧w'.cell? ⟨b4,o4,none⟩=some (.int .i64 x0)∧w'.cell? ⟨b4,o4+i5*4,none⟩=some (.int .i64 x1)):=fun w' h=>⟨(h.cell (qaa f1)).trans f1,(h.cell (qaa f2)).trans f2,(h.cell (qaa f3)).trans f3⟩;have ba:Below wp.heap.size wp wp:=Below.refl _ _;rw [<-ah];clear ah d0' e0'
    go_region_held3 (fun w'=>w'.cell? ⟨wr.heap.size,1,none⟩=some (.slice (some ⟨b4,o4,none⟩) n5 c5)∧w'.cell? ⟨b4,o4,none⟩=some (.int .i64 x0)∧w'.cell? ⟨b4,o4+i5*4,none⟩=some (.int .i64 x1)∧Below wp.heap.size wp w')
     (first|assumption|(have hd:=Below.drew (by assumption:Below wp.heap.size wp _);exact ⟨(KY.out _ hd).1,(KY.out _ hd).2.1,(KY.out _ hd).2.2,hd⟩)|exact ⟨by assumption,by assumption,by assumption,by assumption⟩)
     (fail)
    all_goals (
     go_wp2_with fail;go_roundw
     case rel=>exact ⟨k+1,by omega,by go_num,by rw [ac.out.1],by rw [ac.out.2],ag.out.trans ((ad.out.trans ((by first|assumption|exact Below.drew (by assumption):Below wp.heap.size wp _).mono ad.out.size)).mono ag.out.size)⟩
     case measure=>simp [intOf];omega)
   ·have ar:k=m:=(by omega);have aj:Hid (q.take k=q):=(by show _=_;rw [ar,HM.out,List.take_length]);clear ar;go_wp2_with fail
    go_ret3
    exact ⟨by rw [HS.out,aj.out];rfl,HB.out.trans (ag.out.mono HB.out.size)⟩
end Go.Proofs.YtnkelahimiipjaaGreatDoor
namespace Go.Proofs.YtnkelahimiipjaaGreatDoor
open Go.RowKit Go.Sort Go.Maps
theorem qjI (v:Value) (l:List Pts) (W:World) (hR:RdP W W.heap.size v l) (hn:l.length<=100000) (hm:qad l<=10000):
  Calls Tryz.prog 21 #[v] W fun e w'=>e=.returned (qd3 (qcW (qag l)))∧Below W.heap.size W w':=by
 have HK:=Lib.hid (qcf v l W hR hn hm);have av:=Lib.hid (qaj l);have ak:Hid ((qag l).length<=100000∧qad (qag l)<=100000):=⟨Nat.le_trans (qbg l) hn,Nat.le_trans (qaZ l) (by omega)⟩;have ax:Hid (∀p ∈ qag l,p.2.length<=100000):=fun p hp=>by
  have h1:=qaZ l;have h2:=qcH hp;omega
 obtain ⟨A,c,rfl,hc,_⟩:=hR;obtain ⟨n0,ay⟩:∃n0,n0=l.length:=⟨_,rfl⟩;rw [<-ay] at hc hn HK ⊢;clear hn hm ay;unfold qd3;obtain ⟨q,hq⟩:∃q,q=qag l:=⟨_,rfl⟩;rw [<-hq] at HK av ak ax ⊢;have a2:=Lib.hid (qo6 q av.out);rw [<-a2.out];clear hq;go_enter Tryz.func21,Tryz.ntmps21;go_wp2_with fail;refine HK.out.mono ?_;rintro e w1 ⟨r,rfl,h2,h3⟩;have HB:=Lib.hid h3;obtain ⟨A2,c2,rfl,a7,ao⟩:=h2;obtain ⟨m,hm⟩:∃m,m=q.length:=⟨_,rfl⟩;have a3:=ak.out.1;rw [<-hm] at a7 a3;rw [<-hm];have HM:=Lib.hid hm;have HA:=Lib.hid ao;clear h3 ao hm HK ak;go_wp2_with fail
 go_loopw [6,7,8,9,10,11] (fun sa sb si i _ _ wl=>∃(k:Nat) (a b:Int) (is:Bool),k<=m∧i=.int .i64 k∧sa=.int .i64 a∧sb=.int .i64 b∧si=.bool is∧Hid ((a,b,is)=((q.take k).flatMap (fun p=>p.2)).foldl (fun r x=>qaY r x.1) (0,0,false))∧Hid (Below w1.heap.size w1 wl)) (fun _ _ _ i _ _ _=>m-(intOf i).toNat)
 case atStart=>exact ⟨0,0,0,false,Nat.zero_le _,rfl,rfl,rfl,rfl,rfl,Below.refl _ _⟩
 case round =>
  obtain ⟨k,a,b,is,hk,rfl,rfl,rfl,rfl,HF,ah⟩:=hrel;by_cases hlt:k<m
  ·have ag:k<q.length:=(by rw [<-HM.out];exact hlt);rcases HA.out with h0|⟨b3,o3,e,al,az⟩
   ·subst h0;simp at ag
   subst e;obtain ⟨p,hp⟩:∃p,p=q[k]:=⟨_,rfl⟩;obtain ⟨c3,sv,c4,a0,_⟩:PtAt wr w1.heap.size b3 (o3+k*2) p:=(by rw [hp];exact (az k ag).below ah.out al);obtain ⟨A4,c5,rfl,a5,aq⟩:=a0;have au:q.take (k+1)=q.take k++[p]:=(by rw [hp];exact List.take_succ_eq_append_getElem ag);have HT:Hid (((q.take (k+1)).flatMap (fun p=>p.2)).foldl (fun r x=>qaY r x.1) (0,0,false)=p.2.foldl (fun r x=>qaY r x.1) (a,b,is)):=by
    show _=_;rw [au,List.flatMap_append,List.foldl_append,<-HF.out];simp
   have a4:=ax.out p (by rw [hp];exact List.getElem_mem ag);have a1:=Lib.hid aq;obtain ⟨n5,ai⟩:∃n,n=p.2.length:=⟨_,rfl⟩;rw [<-ai] at c4 a5 a4;have ap:=Lib.hid ai;have i1:(k:Int)<(m:Int):=(by omega);have am:=Lib.hid c4;have a9:=Lib.hid ah.out.size;clear hp az au aq ai c3;go_wp2_with fail
   go_loopw [6,7,8,10,11] (fun sa sb si i _ wl=>∃(j:Nat) (a' b':Int) (is':Bool),j<=n5∧i=.int .i64 j∧sa=.int .i64 a'∧sb=.int .i64 b'∧si=.bool is'∧Hid ((a',b',is')=(p.2.take j).foldl (fun r x=>qaY r x.1) (a,b,is))∧Hid (Below w1.heap.size w1 wl)∧Hid (Below w1.heap.size wr wl)) (fun _ _ _ i _ _=>n5-(intOf i).toNat)
   case atStart=>exact ⟨0,a,b,is,Nat.zero_le _,rfl,rfl,rfl,rfl,rfl,ah.out,Below.refl _ _⟩
   case round=>
    obtain ⟨j,a',b',is',hj,rfl,rfl,rfl,rfl,aw,ad,ac⟩:=hrel;by_cases hlt2:j<n5
    ·have af:j<p.2.length:=(by rw [<-ap.out];exact hlt2);rcases a1.out with h0|⟨b4,o4,e,a8,ae⟩
     ·rw [h0] at af;simp at af
     subst e;obtain ⟨x,hx⟩:∃x,x=p.2[j]:=⟨_,rfl⟩;have d0:wr.cell? ⟨b4,o4+j*4,none⟩=some (.int .i64 x.1):=(by rw [hx];exact ((ae j af).below ac.out a8).1);have c4':=(ac.out.cell al).trans am.out;have aa:Hid ((p.2.take (j+1)).foldl (fun r x=>qaY r x.1) (a,b,is)=qaY (a',b',is') x.1):=by
      show _=_;rw [List.take_succ_eq_append_getElem af,List.foldl_append,<-aw.out,<-hx];rfl
     obtain ⟨t,ht⟩:∃t,t=x.1:=⟨_,rfl⟩;rw [<-ht] at d0 aa;have i2:(j:Int)<(n5:Int):=(by omega);clear hx ae ht;have key:(is'=false)∨(is'=true):=(by cases is'<;>simp);rcases key with rfl|rfl
     ·have ab:Hid (qaY (a',b',false) t=(t,t,true)):=rfl;rw [ab.out] at aa;go_wp2_with fail;go_roundw
      case rel=>exact ⟨j+1,t,t,true,by omega,by go_num,rfl,rfl,rfl,aa.out.symm,ad.out,ac.out⟩
      case measure=>simp [intOf];omega
     ·by_cases h1:t<a'<;>by_cases h2:b'<t
      ·have ab:Hid (qaY (a',b',true) t=(t,t,true)):=(by show _=_;simp [qaY,h1,h2]);rw [ab.out] at aa;go_wp2_with fail;go_roundw
       case rel=>exact ⟨j+1,t,t,true,by omega,by go_num,rfl,rfl,rfl,aa.out.symm,ad.out,ac.out⟩
       case measure=>simp [intOf];omega
      ·have ab:Hid (qaY (a',b',true) t=(t,b',true)):=(by show _=_;simp [qaY,h1,h2]);rw [ab.out] at aa;go_wp2_with fail;go_roundw
       case rel=>exact ⟨j+1,t,b',true,by omega,by go_num,rfl,rfl,rfl,aa.out.symm,ad.out,ac.out⟩
       case measure=>simp [intOf];omega
      ·have ab:Hid (qaY (a',b',true) t=(a',t,true)):=(by show _=_;simp [qaY,h1,h2]);rw [ab.out] at aa;go_wp2_with fail;go_roundw
       case rel=>exact ⟨j+1,a',t,true,by omega,by go_num,rfl,rfl,rfl,aa.out.symm,ad.out,ac.out⟩
       case measure=>simp [intOf];omega
      ·have ab:Hid (qaY (a',b',true) t=(a',b',true)):=(by show _=_;simp [qaY,h1,h2]);rw [ab.out] at aa;go_wp2_with fail;go_roundw
       case rel=>exact ⟨j+1,a',b',true,by omega,by go_num,rfl,rfl,rfl,aa.out.symm,ad.out,ac.out⟩
       case measure=>simp [intOf];omega
    ·have an:j=n5:=(by omega);have c4':=(ac.out.cell al).trans am.out;have a6:Hid ((a',b',is')=((q.take (k+1)).flatMap (fun p=>p.2)).foldl (fun r x=>qaY r x.1) (0,0,false)):=by
      show _=_;rw [HT.out,aw.out,an,ap.out,List.take_length]
     clear an;go_wp2_with fail;go_roundw
     case rel=>exact ⟨k+1,a',b',is',by omega,by go_num,rfl,rfl,rfl,a6.out,ad.out⟩
     case measure=>simp [intOf];omega
  ·have ar:k=m:=(by omega);have aj:Hid (q.take k=q):=(by show _=_;rw [ar,HM.out,List.take_length]);clear ar;go_wp2_with fail
   go_ret3
   refine ⟨?_,HB.out.trans (ah.out.mono HB.out.size)⟩;have h:=HF.out;rw [aj.out] at h;rw [<-h];rfl
end Go.Proofs.YtnkelahimiipjaaGreatDoor
