/-
 eskerref17.Of: what points tell, of some numbers, from a tick to another one.
-/
import Derived.Test.YtnkelahimiipjaaGreatDoorJtt
import Derived.Test.YtnkelahimiipjaaGreatDoorJqt
import Derived.Test.YtnkelahimiipjaaGreatDoorVrt
set_option maxRecDepth 100000
set_option maxHeartbeats 8000000
namespace Go.Proofs.YtnkelahimiipjaaGreatDoor
open Go.RowKit Go.Sort
theorem Below.drewK {w w':World} (h:Below w.heap.size w w') (k:Nat):Below w.heap.size w (w'.drewN k):=h.trans ((((Ext.refl w').drewN k).below).mono h.size)
def qfH (ids:List Int) (f t:Int) (p:Pts):Bool:=decide (p.1 ∈ ids) && decide (delS f t p.2≠ [])
def qck (l:List Pts) (ids:List Int) (f t:Int):List Pts:=(l.filter (qfH ids f t)).map (fun p=>(p.1,delS f t p.2))
theorem qj7 (l:List Pts) (p:Pts) (ids:List Int) (f t:Int):qck (l++[p]) ids f t=if qfH ids f t p=true then qck l ids f t++[(p.1,delS f t p.2)] else qck l ids f t:=by
 unfold qck;rw [List.filter_append];by_cases h:qfH ids f t p=true
 ·rw [if_pos h,List.filter_cons_of_pos h];simp
 ·rw [if_neg h,List.filter_cons_of_neg h];simp
theorem qm0 {c:List Pts} (h:Clean c) (ids:List Int) (f t:Int):qck c ids f t=(ofV c ids f t).1:=by
 have aa:∀p ∈ qck c ids f t,∃q ∈ c,p.1=q.1∧p.1 ∈ ids∧p.2=delS f t q.2∧p.2≠ []:=fun p hp=>by
  unfold qck at hp;obtain ⟨q,hq,rfl⟩:=List.mem_map.1 hp;obtain ⟨h1,h2⟩:=List.mem_filter.1 hq;unfold qfH at h2;rw [Bool.and_eq_true,decide_eq_true_eq,decide_eq_true_eq] at h2;exact ⟨q,h1,rfl,h2.1,rfl,h2.2⟩
 have ac:Clean (qck c ids f t):=by
  refine ⟨?_,fun p hp=> ?_,fun p hp=> ?_,fun p hp=> ?_,fun p hp=> ?_⟩
  ·unfold qck;rw [List.pairwise_map];exact h.ids.filter _
  ·obtain ⟨q,hq,e,_⟩:=aa p hp;rw [e];exact h.inr q hq
  ·exact (aa p hp).choose_spec.2.2.2.2
  ·obtain ⟨q,hq,_,_,e,_⟩:=aa p hp;rw [e];exact (h.up q hq).filter _
  ·obtain ⟨q,hq,_,_,e,_⟩:=aa p hp;rw [e];exact fun x hx=>h.bd q hq x (List.mem_filter.1 hx).1
 refine qbX ac (qaj _) fun k=> ?_;show _=ofL (qag (ofB c ids f t)) k;rw [qbJ];by_cases hk:inR k=true
 ·rw [if_pos hk,<-qdg ac k];refine qca fun x=> ?_;rw [qei h,qcc,qcc];constructor
  ·rintro ⟨p,hp,e,hx⟩;obtain ⟨q,hq,e2,e3,e4,_⟩:=aa p hp;rw [e4] at hx;obtain ⟨ad,ab⟩:=List.mem_filter.1 hx;unfold outS at ab;simp at ab;exact ⟨by rw [<-e];exact e3,⟨q,hq,by rw [<-e2];exact e,ad⟩,by omega,by omega⟩
  ·rintro ⟨h1,⟨q,hq,e,hx⟩,h2,h3⟩;have ab:x ∈ delS f t q.2:=List.mem_filter.2 ⟨hx,by unfold outS;simp;omega⟩;refine ⟨(q.1,delS f t q.2), ?_,e,ab⟩;unfold qck;refine List.mem_map.2 ⟨q,List.mem_filter.2 ⟨hq, ?_⟩,rfl⟩;unfold qfH;rw [Bool.and_eq_true,decide_eq_true_eq,decide_eq_true_eq];exact ⟨by rw [e];exact h1,fun e9=>by rw [e9] at ab;cases ab⟩
 ·rw [if_neg hk];exact qbw fun q hq e=>hk (by rw [<-e];exact ac.inr q hq)
theorem qm5 {l:List Smp} (h:0<l.length):qaX l=l[0].1:=by
 cases l with
 |nil=>cases h
 |cons a l=>rfl
theorem qo9 {l:List Smp} (h:l.length-1<l.length):qbu l=l[l.length-1].1:=by
 have aa:l≠ []:=fun e=>by rw [e] at h;cases h
 unfold qbu;rw [List.getLast?_eq_some_getLast aa,List.getLast_eq_getElem];rfl
theorem qjL {bl:List Blk} {k:Nat} (h:k<bl.length) (q:Blk->Bool):((bl.take (k+1)).filter q).length=((bl.take k).filter q).length+if q bl[k]=true then 1 else 0:=by
 rw [List.take_succ_eq_append_getElem h,List.filter_append,List.length_append];by_cases hq:q bl[k]=true
 ·rw [if_pos hq,List.filter_cons_of_pos hq];rfl
 ·rw [if_neg hq,List.filter_cons_of_neg hq];rfl
theorem qj3 (v : Value) (l : List Pts) (iv : Value) (ids : List Int) (f t : Int) (W : World) (hR : RdP W W.heap.size v l) (hI : RdZ W W.heap.size iv ids) (hil : ids.length <= 1048576) (hcl : Clean l) (hm : qad l <= 2000) :
  Calls Tryz.prog 19 #[v,iv,.int .i64 f,.int .i64 t] W fun e w'=>∃r,e=.returned (.tuple #[r,.int .i64 ((ofV l ids f t).2:Int)])∧RdP w' w'.heap.size r (ofV l ids f t).1∧Below W.heap.size W w':=by
 have cl:Tryz.f19.results= #[.tmp 8,.tmp 9]:=by kernel_rfl
 have bv:Hid (∀w z,Below W.heap.size W w->Calls Tryz.prog 50 #[iv,.int .i64 z] w fun e w'=>e=.returned (.bool (decide (z ∈ ids)))∧Ext w w'):=fun w z h=>qpe iv ids z w (hI.on h) (by omega);have aj:Hid (∀w,Below W.heap.size W w->Calls Tryz.prog 25 #[v] w fun e w'=>∃r cs,e=.returned r∧OwnG EP 80 w' w.heap.size r cs∧RBk w cs (qae l)∧Below w.heap.size w w'):=fun w h=>qdB v l w (hR.on h) (qbK hcl) (by have :=qd2 hcl;omega) hm;have cd:Hid (∀p ∈ l,p.2.length<=2000):=fun p hp=>Nat.le_trans (qcH hp) hm;have b3:=Lib.hid (qm0 hcl ids f t);have b6:Hid (∀b ∈ qae l,b.2≠ []∧b.2.length<=16):=fun b hb=>⟨(qbj hcl b hb).2.1,(qbj hcl b hb).1.2.2.1⟩;have b1:Hid ((qae l).length<=2000):=Nat.le_trans (qbH l (qbK hcl)).1 hm;have cm:l.length<=2000:=Nat.le_trans (qd2 hcl) hm;obtain ⟨A,c,rfl,hc,hA⟩:=hR;obtain ⟨Ai,ci,rfl,_⟩:=hI;obtain ⟨n,bi⟩:∃n,n=l.length:=⟨_,rfl⟩;rw [<-bi] at hc cm aj ⊢;have HN:=Lib.hid bi;have HA:=Lib.hid hA;clear bi hA hcl hm;go_enter Tryz.func19,Tryz.ntmps19;go_wp2_with fail
 go_loopw [10,11,12,13] (fun o i _ _ wl=>∃(k:Nat) (cs:List PtX),k<=n∧i=.int .i64 k∧Hid (PtsO wl W.heap.size o cs (qck (l.take k) ids f t))∧Hid (cs.length<=k)∧Hid (Below W.heap.size W wl)) (fun _ i _ _ _=>n-(intOf i).toNat)
 case atStart=>exact ⟨0,[],Nat.zero_le _,rfl,PtsO.nil _ _,Nat.le_refl _,Below.refl _ _⟩
 case round =>
  obtain ⟨k,cs,hk,rfl,HO,HL,HB⟩:=hrel;by_cases hlt:k<n
  ·have ao:k<l.length:=(by rw [<-HN.out];exact hlt);rcases HA.out with h0|⟨b,o,e,hb,hcl⟩
   ·subst h0;simp at ao
   subst e;obtain ⟨p,hp⟩:∃p,p=l[k]:=⟨_,rfl⟩;obtain ⟨d0,sv,d1,a0,_⟩:PtAt W W.heap.size b (o+k*2) p:=(by rw [hp];exact hcl k ao);have ce:=cd.out p (by rw [hp];exact List.getElem_mem ao);have HD:Hid (∀w',Below W.heap.size W w'->w'.cell? ⟨b,o+k*2,none⟩=some (.int .i64 p.1)∧w'.cell? ⟨b,o+k*2+1,none⟩=some sv):=fun w' h=>⟨(h.cell hb).trans d0,(h.cell hb).trans d1⟩;have KCl:Hid (∀w',Below W.heap.size W w'->Calls Tryz.prog 51 #[sv,.int .i64 f,.int .i64 t] w' fun e w''=>∃r,e=.returned r∧Own w'' w'.heap.size 66 r (delS f t p.2)∧Below w'.heap.size w' w''):=fun w' h=>qjW sv p.2 f t w' (a0.lift h) (by omega);have HT:Hid (qck (l.take (k+1)) ids f t=if qfH ids f t p=true then qck (l.take k) ids f t++[(p.1,delS f t p.2)] else qck (l.take k) ids f t):=by
    show _=_;rw [List.take_succ_eq_append_getElem ao,<-hp,qj7]
   obtain ⟨As,csz,rfl,_⟩:=id a0;obtain ⟨c0,c1⟩:=HD.out wr HB.out;have i1:(k:Int)<(n:Int):=(by omega);have K1:=Lib.hid (bv.out wr p.1 HB.out);clear hp d0 d1 a0 hcl ao hb ce;go_wp2_with fail;refine K1.out.mono ?_;rintro _ w2 ⟨rfl,ba⟩;have ac:Hid (Below W.heap.size W w2):=HB.out.trans (ba.below.mono HB.out.size);have bu:=Lib.hid (HO.out.on ba.below);obtain ⟨c0,c1⟩:=HD.out w2 ac.out;have K2:=Lib.hid (KCl.out w2 ac.out);clear ba K1 HO;go_wp2_with fail;refine K2.out.mono ?_;rintro _ w3 ⟨r3,rfl,bd,a3⟩;have aa:Hid (Below W.heap.size W w3):=ac.out.trans (a3.mono ac.out.size);have ap:=Lib.hid (bu.out.on a3);have a8:Hid (Own w3 W.heap.size 66 r3 (delS f t p.2)):=bd.lower ac.out.size;obtain ⟨c0,c1⟩:=HD.out w3 aa.out;obtain ⟨A3,c3,rfl,_⟩:=bd.rd;obtain ⟨s3,az⟩:∃s3,s3=delS f t p.2:=⟨_,rfl⟩;rw [<-az] at a8 HT ⊢;obtain ⟨n3,a7⟩:∃n3,n3=s3.length:=⟨_,rfl⟩;rw [<-a7] at a8 ⊢;have bc:Hid (qfH ids f t p=(decide (p.1 ∈ ids) && decide (n3≠0))):=by
    show _=_;unfold qfH;rw [<-az,a7];congr 1;exact decide_eq_decide.2 (by rw [ne_eq,ne_eq,List.length_eq_zero_iff])
   clear bd a3 K2 az a7 KCl bu;by_cases hid:p.1 ∈ ids
   ·rw [decide_eq_true hid];have b4:=Lib.hid hid;clear hid;by_cases h0:n3=0
    ·have i2:¬(0:Int)<(n3:Int):=(by omega);have am:Hid (PtsO w3 W.heap.size u10 cs (qck (l.take (k+1)) ids f t)):=by
      show PtsO _ _ _ _ _;rw [HT.out,if_neg (by rw [bc.out];simp [h0])];exact ap.out
     go_wp2_with fail;go_roundw
     case rel=>exact ⟨k+1,cs,by omega,by go_num,am.out,by show _<=_;have :=HL.out;omega,aa.out⟩
     case measure=>simp [intOf];omega
    ·have i2:(0:Int)<(n3:Int):=(by omega);have i4:0<n3:=(by omega);have ch:Hid (qfH ids f t p=true):=(by show _=_;rw [bc.out,decide_eq_true b4.out];simp [h0]);have cf:Hid ((cs.length+1)*32<=140737488355328):=(by have :=HL.out;show _<=_;omega);have cc:Hid (∀w':World,CellG EP (w'.alloc (.cells #[.int .i64 p.1,.slice A3 n3 c3] 62)) w'.heap.size 0 (p.1,A3,n3,c3)):=fun w'=>CellG.mk (E:=EP) (w:=w') (cs:= #[.int .i64 p.1,.slice A3 n3 c3]) (x:=(p.1,A3,n3,c3)) rfl _;go_wp2_with (first|(at_builtin;refine qd1 EP rfl _ _ 22 62 rfl Tryz.underlying22 qgS rfl (by decide) W.heap.size _ cs (p.1,A3,n3,c3) rfl (ap.out.row.alloc _) _ 0 1 rfl (cc.out _) cf.out ?sz ?_)|fail)
     case sz=>have :=aa.out.size;simp;omega
     intro v4 w4 an hg a6;have ai:Below w3.heap.size w3 (w3.alloc (.cells #[.int .i64 p.1,.slice A3 n3 c3] 62)):=(Below.refl _ _).alloc (Nat.le_refl _) _;have cj:Hid (Below W.heap.size W w4):=(ap.out.on ai).row.step (aa.out.trans (ai.mono aa.out.size)) (Nat.le_trans aa.out.size ai.size) hg;have am:Hid (PtsO w4 W.heap.size v4 (cs++[(p.1,A3,n3,c3)]) (qck (l.take (k+1)) ids f t)):=by
      show PtsO _ _ _ _ _;rw [HT.out,if_pos ch.out];exact (ap.out.on ai).push rfl (a8.out.below ai) an hg
     clear an hg a6 ai;go_wp2_with fail;go_roundw
     case rel=>exact ⟨k+1,_,by omega,by go_num,am.out,by show _<=_;have :=HL.out;simp;omega,cj.out⟩
     case measure=>simp [intOf];omega
   ·rw [decide_eq_false hid];have am:Hid (PtsO w3 W.heap.size u10 cs (qck (l.take (k+1)) ids f t)):=by
     show PtsO _ _ _ _ _;rw [HT.out,if_neg (by rw [bc.out];simp [hid])];exact ap.out
    clear hid;go_wp2_with fail;go_roundw
    case rel=>exact ⟨k+1,cs,by omega,by go_num,am.out,by show _<=_;have :=HL.out;omega,aa.out⟩
    case measure=>simp [intOf];omega
  ·have bz : k = n := by omega
   have i1:¬(k:Int)<(n:Int):=(by omega);have hO:=HO.out;rw [bz,HN.out,List.take_length,b3.out] at hO;have bp:=Lib.hid hO;obtain ⟨w1,rfl⟩:∃w0,w0=wr:=⟨wr,rfl⟩;have bf:=HB;have KB:=Lib.hid (aj.out w1 bf.out);clear hO HO HL HB;go_wp2_with fail;refine KB.out.mono ?_;rintro _ w2 ⟨r2,cb,rfl,bq,ad,av⟩;have ac:Hid (Below W.heap.size W w2):=bf.out.trans (av.mono bf.out.size);have bb:=Lib.hid (bp.out.on av);have bw:=Lib.hid av;have be:=Lib.hid ad;obtain ⟨A2,c2,rfl,b9,_,bo⟩:=bq.rd;obtain ⟨m,hm⟩:∃m,m=cb.length:=⟨_,rfl⟩;rw [<-hm] at b9 ⊢;have HM:=Lib.hid hm;have ca:=Lib.hid bo;have cp:m<=2000:=(by rw [hm,ad.len];exact b1.out);clear bq ad av hm bo KB bp;go_wp2_with fail
   go_loopw [14,16,17] (fun nv i _ wl=>∃(k cnt:Nat),k<=m∧i=.int .i64 k∧nv=.int .i64 cnt∧cnt<=k∧Hid (cnt=(((qae l).take k).filter (qaz ids f t)).length)∧Hid (Below w2.heap.size w2 wl)) (fun _ i _ _=>m-(intOf i).toNat)
   case atStart=>exact ⟨0,0,Nat.zero_le _,rfl,rfl,Nat.le_refl _,rfl,Below.refl _ _⟩
   case round =>
    obtain ⟨k,cnt,co,rfl,rfl,cn,br,ah⟩:=hrel;by_cases hlt2:k<m
    ·have al:k<cb.length:=(by rw [<-HM.out];exact hlt2);have au:k<(qae l).length:=(by rw [<-be.out.len];exact al);rcases ca.out with h0|⟨b2,o2,e,a9,hcl⟩
     ·subst h0;simp at al
     subst e;obtain ⟨x,hx⟩:∃x,x=cb[k]:=⟨_,rfl⟩;obtain ⟨bk,ad⟩:∃bk,bk=(qae l)[k]:=⟨_,rfl⟩;obtain ⟨a1,a2⟩:=be.out.at_ k al au;rw [<-hx,<-ad] at a1 a2;have ab:=qoT.1 (hcl k al);rw [<-hx] at ab;have a4:=qjL au (qaz ids f t);rw [<-ad,<-br.out] at a4;have bt:=Lib.hid a4;obtain ⟨ay,b0⟩:=b6.out bk (by rw [ad];exact List.getElem_mem au);obtain ⟨xi,Ax,nx,cx⟩:=x;obtain ⟨A5,c5,e5,bx,ck⟩:=a2;have e5:Value.slice Ax nx cx=.slice A5 bk.2.length c5:=e5;injection e5 with e6 e7 e8;subst e6 e8;rcases ck with h0|⟨g,o5,e,bj,ag⟩
     ·exact absurd h0 ay
     subst e;have ae:0<bk.2.length:=List.length_pos_iff.2 ay;have bg:w1.cell? ⟨g,o5,none⟩=some (.int .i64 (qaX bk.2)):=by
      rw [qm5 ae];have h:=(ag 0 ae).1;simpa using h
     have aq:w1.cell? ⟨g,o5+(bk.2.length-1)*4,none⟩=some (.int .i64 (qbu bk.2)):=by
      rw [qo9 (by omega)];exact (ag (bk.2.length-1) (by omega)).1
     obtain ⟨ny,bs⟩:∃ny,ny=bk.2.length-1:=⟨_,rfl⟩;rw [<-bs] at aq;rw [<-e7] at b0 ae bx;have q1:IntKind.i64.wrap ((nx:Int)-1)=(ny:Int):=by
      rw [show (nx:Int)-1=(ny:Int) by omega];exact IntWalk.i64_in _ (by omega)
     have q2:(ny:Int)<(nx:Int):=(by omega);have q3:(0:Int)<(nx:Int):=(by omega);have q4:ny<nx:=(by omega);have q5:ny<=cx:=(by omega);obtain ⟨ft,bl⟩:∃ft,ft=qaX bk.2:=⟨_,rfl⟩;obtain ⟨lt,af⟩:∃lt,lt=qbu bk.2:=⟨_,rfl⟩;rw [<-bl] at bg;rw [<-af] at aq;have ar:Hid (qaz ids f t bk=(decide (xi ∈ ids) && (decide (ft<=t) && decide (f<=lt)))):=by
      show _=_;unfold qaz;rw [bl,af,show xi=bk.1 from a1]
     have HC:Hid (∀w',Below w2.heap.size w2 w'->w'.cell? ⟨b2,o2+k*2,none⟩=some (.int .i64 xi)∧w'.cell? ⟨b2,o2+k*2+1,none⟩=some (.slice (some ⟨g,o5,none⟩) nx cx)∧w'.cell? ⟨g,o5,none⟩=some (.int .i64 ft)∧w'.cell? ⟨g,o5+ny*4,none⟩=some (.int .i64 lt)):=fun w' h=>by
      have h2:=bw.out.trans (h.mono bw.out.size);exact ⟨(h.cell a9).trans ab.1,(h.cell a9).trans ab.2,(h2.cell bj).trans bg,(h2.cell bj).trans aq⟩
     have i3:(k:Int)<(m:Int):=(by omega);have K1:=Lib.hid (bv.out wr xi (ac.out.trans (ah.out.mono ac.out.size)));obtain ⟨z0,z1,_,_⟩:=HC.out wr ah.out;clear al au hcl hx ad a1 ab a4 ay bx ag bg aq bs bl af a9 bj e7;go_wp2_with fail;refine K1.out.mono ?_;rintro _ w3 ⟨rfl,bn⟩;have aa:Hid (Below w2.heap.size w2 w3):=ah.out.trans (bn.below.mono ah.out.size);clear bn K1 z0 z1;obtain ⟨z0,z1,z2,z3⟩:=HC.out w3 aa.out;have a5:Hid (qaz ids f t bk=false->cnt=(((qae l).take (k+1)).filter (qaz ids f t)).length):=fun h=>by
      rw [bt.out,h];rfl
     by_cases hid:xi ∈ ids
     ·rw [decide_eq_true hid]
      by_cases ax:ft<=t
      ·by_cases aw:f<=lt
       ·have b7:Hid (cnt+1=(((qae l).take (k+1)).filter (qaz ids f t)).length):=by
         show _=_;rw [bt.out,ar.out,decide_eq_true hid,decide_eq_true ax,decide_eq_true aw];rfl
        clear hid;go_wp2_with fail
        go_quiet (fail)
        go_wp2_with fail;go_roundw
        case rel=>exact ⟨k+1,cnt+1,by omega,by go_num,by go_num,by omega,b7.out,by first|exact Below.drewK aa.out _|exact aa.out⟩
        case measure=>simp [intOf];omega
       ·have aw:=decide_eq_false aw;have ak:=Lib.hid (a5.out (by rw [ar.out,aw];simp));clear hid;go_wp2_with fail
        go_quiet (fail)
        go_wp2_with fail;go_roundw
        case rel=>exact ⟨k+1,cnt,by omega,by go_num,rfl,by omega,ak.out,by first|exact Below.drewK aa.out _|exact aa.out⟩
        case measure=>simp [intOf];omega
      ·have ax:=decide_eq_false ax;have ak:=Lib.hid (a5.out (by rw [ar.out,ax];simp));clear hid;go_wp2_with fail
       go_quiet (fail)
       go_wp2_with fail;go_roundw
       case rel=>exact ⟨k+1,cnt,by omega,by go_num,rfl,by omega,ak.out,by first|exact Below.drewK aa.out _|exact aa.out⟩
       case measure=>simp [intOf];omega
     ·rw [decide_eq_false hid];have ak:=Lib.hid (a5.out (by rw [ar.out,decide_eq_false hid];simp));clear hid;go_wp2_with fail
      go_quiet (fail)
      go_wp2_with fail;go_roundw
      case rel=>exact ⟨k+1,cnt,by omega,by go_num,rfl,by omega,ak.out,by first|exact Below.drewK aa.out _|exact aa.out⟩
      case measure=>simp [intOf];omega
    ·have b5:k=m:=(by omega);have i3:¬(k:Int)<(m:Int):=(by omega);have bm:cnt=(ofV l ids f t).2:=by
      rw [br.out,b5,HM.out,be.out.len,List.take_length];rfl
     have bh:=Lib.hid bm;have b8:Hid (RdP wr wr.heap.size u10 (ofV l ids f t).1):=(bb.out.on ah.out).rdP;have cg:Hid (Below W.heap.size W wr):=ac.out.trans (ah.out.mono ac.out.size);clear bm;go_wp2_with fail;refine bodyPost_ret (v:=.tuple #[u10,.int .i64 (cnt:Int)]) (by unfold results;rw [cl];go_simp) rfl ⟨u10,by rw [bh.out],b8.out,cg.out⟩
theorem qkC {c:List Pts} (h:Clean c):c.map (fun p=>p.1)=idsR c:=by
 have h1:(c.map (fun p=>p.1)).Pairwise (· < ·):=by rw [List.pairwise_map];exact h.ids
 have h2:=qfw c;have hm:∀x,x ∈ c.map (fun p=>p.1)↔x ∈ idsR c:=fun x=>by
  rw [qdP,List.mem_map];unfold hasL;rw [List.any_eq_true];constructor
  ·rintro ⟨p,hp,rfl⟩;exact ⟨⟨p,hp,by simp⟩,h.inr p hp⟩
  ·rintro ⟨⟨p,hp,e⟩,_⟩;exact ⟨p,hp,by simpa using e⟩
 have n1:(c.map (fun p=>p.1)).Nodup:=h1.imp fun h e=>by omega
 have n2:(idsR c).Nodup:=h2.imp fun h e=>by omega
 exact List.Perm.eq_of_pairwise (le:=fun x y:Int=>x<=y) (fun x y _ _ h1 h2=>by omega) (h1.imp fun h=>by omega) (h2.imp fun h=>by omega) ((List.perm_ext_iff_of_nodup n1 n2).2 hm)
theorem qoR {w:World} {base:Nat} {v:Value} {l:List Int} (h:OwnG EI 3 w base v l):RdZ w w.heap.size v l:=by
 obtain ⟨A,c,rfl,hc,_,hA⟩:=h.rd;refine ⟨A,c,rfl,hc,hA.imp id ?_⟩;rintro ⟨b,o,rfl,hb,aa⟩;refine ⟨b,o,rfl,hb,fun i hi=> ?_⟩;have h2:=aa i hi 0 (by decide);have e:o+i*EI.k+0=o+i:=by show o+i*1+0=o+i;omega
 rw [e] at h2;exact h2
theorem qg4 (v:Value) (l:List Pts) (iv:Value) (ids:List Int) (f t:Int) (W:World) (T:Tabs W) (hT:TabT W) (hH:TabH W) (hR:RdP W W.heap.size v l) (hwf:∀p ∈ l,(Lit.int .i64 p.1).wf=true) (h1:l.length<=1048576) (h2:qad l<=1048576) (hI:RdZ W W.heap.size iv ids) (_hwi:∀z ∈ ids,(Lit.int .i64 z).wf=true) (_wf:(Lit.int .i64 f).wf=true) (_wt:(Lit.int .i64 t).wf=true) (hil:ids.length<=1048576):
  Calls Tryz.prog 4 #[v,.agg #[iv,.int .i64 f,.int .i64 t]] W fun e w'=>e=.returned (.bool true)∧Below W.heap.size W w':=by
 have ae:Hid (∀w,Below W.heap.size W w->Tabs w):=fun w h=>T.below h;have HT:Hid (∀w,Below W.heap.size W w->TabT w):=fun w h i hi=>(h.cell (qaa (hT i hi))).trans (hT i hi);have HH:Hid (∀w,Below W.heap.size W w->TabH w):=fun w h=>TabH.below hH h;have HR:Hid (∀w,Below W.heap.size W w->RdP w w.heap.size v l):=fun w h=>hR.on h;have b4:Hid (∀w,Below W.heap.size W w->RdZ w w.heap.size iv ids):=fun w h=>hI.on h;have HW:=Lib.hid hwf;have HS:Hid (l.length<=1048576∧qad l<=1048576):=⟨h1,h2⟩;obtain ⟨A,c,rfl,_⟩:=hR;obtain ⟨Ai,ci,rfl,_⟩:=hI;obtain ⟨n,hn⟩:∃n,n=l.length:=⟨_,rfl⟩;rw [<-hn] at HR ⊢;obtain ⟨ni,b9⟩:∃ni,ni=ids.length:=⟨_,rfl⟩;have c7:Hid (ids.length<=1048576):=hil;rw [<-b9] at hil b4 ⊢;have c4:=Lib.hid b9;clear T hT hH hwf h1 h2 hn b9 _hwi _wf _wt;go_enter Tryz.func4,Tryz.ntmps4;go_wp2_with fail;obtain ⟨W0,bh⟩:∃W0,W0=W.alloc (.cells #[.slice Ai ni ci,.int .i64 f,.int .i64 t] 39):=⟨_,rfl⟩;rw [<-bh];have a3:Hid (Below W.heap.size W W0):=by show Below _ _ _;rw [bh];exact (Below.refl _ _).alloc (Nat.le_refl _) _
 have a0:W0.heap[W.heap.size]? =some (.cells #[.slice Ai ni ci,.int .i64 f,.int .i64 t] 39 (0,0)):=by rw [bh];exact heap_alloc_new W _
 have HC:Hid (∀w,Below W0.heap.size W0 w->w.cell? ⟨W.heap.size,0,none⟩=some (.slice Ai ni ci)∧w.cell? ⟨W.heap.size,1,none⟩=some (.int .i64 f)∧w.cell? ⟨W.heap.size,2,none⟩=some (.int .i64 t)):=fun w h=>by
  have hb:=(h.block _ (Array.getElem?_eq_some_iff.1 a0).1).trans a0;exact ⟨by simp [World.cell?,hb],by simp [World.cell?,hb],by simp [World.cell?,hb]⟩
 have KA:=Lib.hid (qdE W0 (ae.out _ a3.out) (HT.out _ a3.out) (HH.out _ a3.out));clear bh a0;refine KA.out.mono ?_;rintro e w1 ⟨rfl,bn⟩;have bv:=Lib.hid bn;have az:Hid (Below W.heap.size W w1):=a3.out.trans (bn.mono a3.out.size);have KF:=Lib.hid (qfi _ l w1 (HR.out w1 az.out) HS.out.1 HS.out.2);clear bn KA;go_wp2_with fail;refine KF.out.mono ?_;rintro e wx ⟨rfl,ao⟩;have ao:=ao.symm;subst ao;clear KF;by_cases hf:l.length+qad l<=200
 ·rw [decide_eq_true hf];obtain ⟨c0,c1,c2⟩:=HC.out w1 bv.out;by_cases hi:50<ni
  ·have i1:(50:Int)<(ni:Int):=(by omega);go_wp2_with fail;go_ret;exact ⟨rfl,az.out⟩
  have i1:¬(50:Int)<(ni:Int):=by omega
  have KC:=Lib.hid (qiW _ l w1 (HR.out _ az.out) (by omega) (by omega));go_wp2_with fail;refine KC.out.mono ?_;rintro e w2 ⟨rfl,b1⟩;have am:Hid (Below W.heap.size W w2):=az.out.trans (b1.mono az.out.size);have cn:Hid (Below W0.heap.size W0 w2):=bv.out.trans (b1.mono bv.out.size);clear b1 KC c0 c1 c2;obtain ⟨ck,bf⟩:∃ck,ck=chkV l:=⟨_,rfl⟩;rw [<-bf];by_cases hc0:ck=0
  ·subst hc0;have cv:=qnU bf.symm;have KB:=Lib.hid (qcJ _ l w2 (ae.out _ am.out) (HT.out _ am.out) (HH.out _ am.out) (HR.out _ am.out) HW.out (by have :=HS.out;omega) (by have :=HS.out;omega));have ab:Hid (l.length<=200∧qad l<=200):=⟨by omega,by omega⟩;have b6:=Lib.hid cv;clear bf cv hf;go_wp2_with fail;refine KB.out.mono ?_;rintro e w3 ⟨v3,rfl,a7,bt⟩;rw [b6.out] at a7 ⊢;dsimp only at a7 ⊢;obtain ⟨A3,n3,c3,rfl⟩:=a7.sl;have a5:Hid (Below W.heap.size W w3):=am.out.trans (bt.mono am.out.size);have cj:Hid (Below W0.heap.size W0 w3):=cn.out.trans (bt.mono cn.out.size);have ac:=Fil.of b6.out;have KO:=Lib.hid (qms _ (qcj (qae l)) w3 (ae.out _ a5.out) (HT.out _ a5.out) (HH.out _ a5.out) a7.rd (qc8 (fun b hb=>(qbj ac.cl b hb).1.2.2.1)) (Nat.le_trans (qds ac ab.out.2) (by omega)));have ch:=Lib.hid (qeC b6.out);have aa:=Lib.hid ac;clear a7 bt KB ac;go_wp2_with fail;refine KO.out.mono ?_;rintro e w4 ⟨bx,⟨hn,_⟩|⟨c9,pb,ho,_,rfl,b2⟩⟩
   ·rw [ch.out] at hn;cases hn
   rw [ch.out] at ho;injection ho with ho;subst ho;have bj:Hid (Below W.heap.size W w4):=a5.out.trans (bx.mono a5.out.size);have bs:Hid (Below W0.heap.size W0 w4):=cj.out.trans (bx.mono cj.out.size);have cx:=Lib.hid b2;have KO1:=Lib.hid (qiF b2 (ae.out _ bj.out) aa.out _ ids f t (b4.out _ bj.out) (by have :=c4.out;omega));obtain ⟨c0,c1,c2⟩:=HC.out w4 bs.out;clear bx b2 KO;go_wp2_with fail;refine KO1.out.mono ?_;rintro e w5 ⟨r5,rfl,bo,bi⟩;have bl:Hid (Below W.heap.size W w5):=bj.out.trans (bi.mono bj.out.size);have cz:Hid (Below W0.heap.size W0 w5):=bs.out.trans (bi.mono bs.out.size);have cu:=Lib.hid (cx.out.on bi);have br:=Lib.hid bo;obtain ⟨A5,c5,rfl,_⟩:=id bo;obtain ⟨k1,bk⟩:∃k1,k1=(ofV l ids f t).2:=⟨_,rfl⟩;rw [<-bk];have c8:=Lib.hid bk;obtain ⟨n5,cp⟩:∃n5,n5=(ofV l ids f t).1.length:=⟨_,rfl⟩;rw [<-cp] at br ⊢;have KO2:=Lib.hid (qj3 _ l _ ids f t w5 (HR.out _ bl.out) (b4.out _ bl.out) c7.out aa.out.cl (by have :=ab.out;omega));rw [<-bk] at KO2;clear c0 c1 c2 bi bo bk cp KO1;obtain ⟨c0,c1,c2⟩:=HC.out w5 cz.out;go_wp2_with fail;refine KO2.out.mono ?_;rintro e w6 ⟨r6,rfl,b5,bg⟩;have bu:Hid (Below W.heap.size W w6):=bl.out.trans (bg.mono bl.out.size);have b0:=Lib.hid (cu.out.on bg);have cs:=Lib.hid (br.out.on bg);have bp:=Lib.hid b5;have KSp:=Lib.hid (qiB b0.out (ae.out _ bu.out) aa.out);clear c0 c1 c2 bg KO2 br cu;obtain ⟨A6,c6,rfl,_⟩:=id b5;obtain ⟨n6,cr⟩:∃n6,n6=(ofV l ids f t).1.length:=⟨_,rfl⟩;rw [<-cr] at bp ⊢;clear b5 cr;obtain ⟨s1,b8⟩:∃s1,s1=(qcW l).1:=⟨_,rfl⟩;obtain ⟨s2,bq⟩:∃s2,s2=(qcW l).2.1:=⟨_,rfl⟩
   obtain ⟨s3,ce⟩:∃s3,s3=(qcW l).2.2:=⟨_,rfl⟩;rw [<-b8,<-bq] at KSp;have cw:Hid (qd3 (qcW (qag l))=.tuple #[.int .i64 s1,.int .i64 s2,.bool s3]):=(by show _=_;rw [aa.out.fix,b8,bq,ce];rfl);clear b8 bq ce;go_wp2_with fail;refine KSp.out.mono ?_;rintro e w7 ⟨rfl,bd⟩;have b7:Hid (Below W.heap.size W w7):=bu.out.trans (bd.mono bu.out.size);have cg:=Lib.hid (b0.out.on bd);have co:=Lib.hid (cs.out.on bd);have cm:=Lib.hid (bp.out.on bd);have KRs:=Lib.hid (qjI _ l w7 (HR.out _ b7.out) (by have :=ab.out;omega) (by have :=ab.out;omega));rw [cw.out] at KRs;clear bd KSp cs bp b0;go_wp2_with fail;refine KRs.out.mono ?_;rintro e w8 ⟨rfl,bc⟩;have cq:Hid (Below W.heap.size W w8):=b7.out.trans (bc.mono b7.out.size);have cf:=Lib.hid (cg.out.on bc);have KS1:=Lib.hid (qbQ _ _ _ _ w8 (co.out.on bc).rdP (cm.out.on bc) (qa3 (qdc l ids f t) (by have :=qiE aa.out.cl ids f t;have :=ab.out;omega)));rw [decide_eq_true rfl] at KS1;clear bc KRs co cm cg;go_wp2_with fail;refine KS1.out.mono ?_;rintro e w9 ⟨rfl,cc⟩;have bz:Hid (Below W.heap.size W w9):=cq.out.trans (cc.below.mono cq.out.size);have bm:=Lib.hid (cf.out.on cc.below);have KLn:=Lib.hid (qml bm.out (ae.out _ bz.out) aa.out);obtain ⟨mm,ca⟩:∃mm,mm=qad l:=⟨_,rfl⟩;rw [<-ca] at KLn;have cy:=Lib.hid ca;clear cc KS1 cf ca;go_wp2_with fail;refine KLn.out.mono ?_;rintro e w10 ⟨rfl,aj⟩;have au:Hid (Below W.heap.size W w10):=bz.out.trans (aj.mono bz.out.size);have a8:=Lib.hid (bm.out.on aj);have KRm:=Lib.hid (qdq _ l w10 (HR.out _ au.out) (by have :=ab.out;omega) (by have :=ab.out;omega))
   rw [aa.out.fix,<-cy.out] at KRm;clear aj KLn bm;go_wp2_with fail;refine KRm.out.mono ?_;rintro e w11 ⟨rfl,ah⟩;have aw:Hid (Below W.heap.size W w11):=au.out.trans (ah.mono au.out.size);have an:=Lib.hid (a8.out.on ah);have KBk:=Lib.hid (qfn an.out);obtain ⟨nb,b3⟩:∃nb,nb=(qae l).length:=⟨_,rfl⟩;rw [<-b3] at KBk;have ct:=Lib.hid b3;clear ah KRm a8 b3;go_wp2_with fail;refine KBk.out.mono ?_;rintro e wx ⟨rfl,ao⟩;have ao:=ao.symm;subst ao;have KRb:=Lib.hid (qdB _ l w11 (HR.out _ aw.out) (qbK aa.out.cl) (by have :=ab.out;omega) (by have :=ab.out;omega));clear KBk;go_wp2_with fail;refine KRb.out.mono ?_;rintro e w12 ⟨r12,cb,rfl,aq,a0,ay⟩;obtain ⟨A12,n12,c12,rfl⟩:=aq.sl;have bw:n12=nb:=(by rw [aq.len,a0.len,ct.out]);subst bw;have ap:Hid (Below W.heap.size W w12):=aw.out.trans (ay.mono aw.out.size);have ax:=Lib.hid (an.out.on ay);have KId:=Lib.hid (qld ax.out (ae.out _ ap.out) aa.out);rw [qkC aa.out.cl] at KId;clear aq a0 ay KRb an ct;go_wp2_with fail;refine KId.out.mono ?_;rintro e w13 ⟨r13,rfl,ai,av⟩;have af:Hid (Below W.heap.size W w13):=ap.out.trans (av.mono ap.out.size);have a2:=Lib.hid (ax.out.on av);have be:=Lib.hid (qoR ai);obtain ⟨A13,n13,c13,rfl⟩:=ai.sl;have KRi:=Lib.hid (qgM _ l w13 (HR.out _ af.out) (by have :=ab.out;omega));clear ai av KId ax;go_wp2_with fail;refine KRi.out.mono ?_;rintro e w14 ⟨r14,rfl,al,_,ad⟩;have ba:Hid (Below W.heap.size W w14):=af.out.trans (ad.mono af.out.size);have a6:=Lib.hid (a2.out.on ad);have KSz:=Lib.hid (qjA _ _ _ _ w14 (be.out.on ad) al (by have :=qb3 l;have :=ab.out;omega))
   rw [decide_eq_true rfl] at KSz;obtain ⟨A14,c14,rfl,_⟩:=id al;obtain ⟨n14,a9⟩:∃n14,n14=(idsR l).length:=⟨_,rfl⟩;rw [<-a9] at KSz ⊢;clear al ad KRi a2 be a9;go_wp2_with fail;refine KSz.out.mono ?_;rintro e w15 ⟨rfl,ak⟩;have ag:Hid (Below W.heap.size W w15):=ba.out.trans (ak.below.mono ba.out.size);have KAl:=Lib.hid (qhB (a6.out.on ak.below) (ae.out _ ag.out) aa.out);clear ak KSz a6;go_wp2_with fail;refine KAl.out.mono ?_;rintro e w16 ⟨r16,rfl,a4,bb⟩;have ar:Hid (Below W.heap.size W w16):=ag.out.trans (bb.mono ag.out.size);have KSm:=Lib.hid (qbQ r16 _ l l w16 a4.rdP (HR.out _ ar.out) (qa3 aa.out.cl aa.out.many));rw [decide_eq_true rfl] at KSm;obtain ⟨A16,c16,rfl,_⟩:=a4;clear bb KAl;go_wp2_with fail;refine KSm.out.mono ?_;rintro e w17 ⟨rfl,a1⟩;have cd:Hid (Below W.heap.size W w17):=ar.out.trans (a1.below.mono ar.out.size);clear a1 KSm;go_wp2_with fail;go_ret;exact ⟨rfl,cd.out⟩
  ·have g:(ck==0)=false:=(by simp [hc0]);have g2:(ck != 0)=true:=(by simp [hc0]);clear bf;go_wp2_with fail;go_ret;exact ⟨rfl,am.out⟩
 ·rw [decide_eq_false hf];go_wp2_with fail;go_ret;exact ⟨rfl,az.out⟩
end Go.Proofs.YtnkelahimiipjaaGreatDoor
