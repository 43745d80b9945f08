/-
 decimal: Pack.
-/
import Derived.Test.YtnkelahimiipjaaGreatDoorJrt
import Derived.Test.YtnkelahimiipjaaGreatDoorCqt
import Derived.Test.YtnkelahimiipjaaGreatDoorCtt
import Derived.Test.YtnkelahimiipjaaGreatDoorRqt
import Derived.WalkMore
import Derived.StillTailTactics
import Derived.Deep.Cut
import Derived.Deep.CutRange
import Derived.Test.YtnkelahimiipjaaGreatDoorCct
set_option maxRecDepth 100000
set_option maxHeartbeats 8000000
namespace Go.Proofs.YtnkelahimiipjaaGreatDoor
open Go.RowKit Go.Sort
theorem qhf {l:List Val} {k:Nat} (h:k<l.length):l.take (k+1)=l.take k++[l.getD k (0,0,0)]:=by
 rw [List.take_succ_eq_append_getElem h,List.getD_eq_getElem?_getD,List.getElem?_eq_getElem h];rfl
theorem qjg (v : Value) (l : List Val) (W : World) (hT : TabT W) (hR : RdG EV W W.heap.size v l) (hb : ∀ y ∈ l, (-1000000 <= y.2.1 ∧ y.2.1 <= 1000000) ∧ In64 y.1 ∧ In64 y.2.2) (hl : l.length <= 1000000) :
  Calls Tryz.prog 62 #[v] W fun e w'=>∃mv,e=.returned (.tuple #[mv,.int .i64 (qah (l.take (qa7 l l.length))).1,.int .i64 (qa7 l l.length:Nat)])∧
   OwnG EI 2 w' W.heap.size mv ((l.take (qa7 l l.length)).map (qaI (qah (l.take (qa7 l l.length))).1))∧Below W.heap.size W w':=by
 have hr:Tryz.f62.results= #[.tmp 2,.tmp 3,.tmp 4]:=by kernel_rfl
 obtain ⟨N,hN⟩:∃N,N=l.length:=⟨_,rfl⟩;obtain ⟨A,c,rfl,hc,c7,hA⟩:=hR;rw [<-hN] at hc hl ⊢;have HN:=Lib.hid hN;have HC:=Lib.hid hc;have HT:=Lib.hid hT;have cj:=Lib.hid hb;have cf:Hid (∀j,j<N->∃b1 o1,A=some ⟨b1,o1,none⟩∧CellG EV W b1 (o1+j*3) (l.getD j (0,0,0))∧b1<W.heap.size):=fun j hj=>by
  rcases hA with h1|⟨b1,o1,e,am,bl⟩
  ·rw [h1] at hN;simp at hN;omega
  ·refine ⟨b1,o1,e, ?_,am⟩;have :=bl j (by omega);rw [List.getD_eq_getElem?_getD,List.getElem?_eq_getElem (by omega)];exact this
 clear hA c7 hT hb hN hc;go_enter Tryz.func62,Tryz.ntmps62;go_wp2_with fail
 go_step3
 go_wp2_with fail
 go_step3
 go_wp2_with fail
 go_loopw [5,6,7,9,10,12,18,41] (fun lv sv nv _ _ _ iv _ wl=>∃k:Nat,k<=N∧iv=.int .i64 (k:Int)∧nv=.int .i64 (k:Int)∧lv=.int .i64 (qah (l.take k)).1∧sv=.bool (qah (l.take k)).2∧Hid (qaJ (l.take k)=true)∧Hid (Ext W wl))
  (fun _ _ _ _ _ _ iv _ _=>N-(intOf iv).toNat)
 case atStart=>exact ⟨0,Nat.zero_le _,rfl,rfl,rfl,rfl,rfl,Ext.refl _⟩
 case round =>
  obtain ⟨k,hk,rfl,rfl,rfl,rfl,HG,HE⟩:=hrel;by_cases hlt:k<N
  case' pos =>
   have i1:(k:Int)<(N:Int):=(by omega);obtain ⟨b1,o1,rfl,bl,am⟩:=cf.out k hlt;have ch:l.take (k+1)=l.take k++[l.getD k (0,0,0)]:=qhf (by rw [<-HN.out];exact hlt);have af:l.getD k (0,0,0) ∈ l:=by
    rw [List.getD_eq_getElem?_getD,List.getElem?_eq_getElem (by rw [<-HN.out];exact hlt)];exact List.getElem_mem _
   have ci:=cj.out _ af;obtain ⟨y,hy⟩:∃y,y=l.getD k (0,0,0):=⟨_,rfl⟩;rw [<-hy] at bl ch ci;obtain ⟨m,x,s⟩:=y;obtain ⟨d0,d1,d2⟩:=qma.1 bl;have c0:wr.cell? ⟨b1,o1+k*3,none⟩=some (.int .i64 m):=(HE.out.cell am).trans d0;have c1:wr.cell? ⟨b1,o1+k*3+1,none⟩=some (.int .i64 x):=(HE.out.cell am).trans d1;have c2:wr.cell? ⟨b1,o1+k*3+2,none⟩=some (.int .i64 s):=(HE.out.cell am).trans d2;have ai:=Lib.hid ch;have cq:=Lib.hid hy;have KR:Hid (∀w,Calls Tryz.prog 93 #[.agg #[.int .i64 m,.int .i64 x,.int .i64 s]] w fun e w'=>e=.returned (.bool (qaH (m,x,s)))∧Ext w w'):=fun w=>qbe m x s w;have KN:Hid (∀w,Calls Tryz.prog 94 #[.agg #[.int .i64 m,.int .i64 x,.int .i64 s]] w fun e w'=>e=.returned (.bool (numB (m,x,s)))∧Ext w w'):=fun w=>qeg m x s w;obtain ⟨bx,ab⟩:∃b,b=wr.heap.size:=⟨_,rfl⟩;obtain ⟨wb,aa⟩:∃w,w=wr.alloc (.cells #[.int .i64 m,.int .i64 x,.int .i64 s] 64):=⟨_,rfl⟩;have ca:Hid (Ext W wb):=(by rw [aa];exact HE.out.alloc _);have bm:wb.cell? ⟨bx,0,none⟩=some (.int .i64 m):=(by rw [aa,ab];exact qak wr _ _ 0);have bxx:wb.cell? ⟨bx,1,none⟩=some (.int .i64 x):=(by rw [aa,ab];exact qak wr _ _ 1);have bs:wb.cell? ⟨bx,2,none⟩=some (.int .i64 s):=(by rw [aa,ab];exact qak wr _ _ 2);have b5:=Lib.hid (And.intro bm (And.intro bxx bs));obtain ⟨lx,bq⟩:∃x,x=(qah (l.take k)).1:=⟨_,rfl⟩;obtain ⟨ls,b9⟩:∃x,x=(qah (l.take k)).2:=⟨_,rfl⟩;have bk:Hid (qah (l.take k)=(lx,ls)):=(by show _=_;rw [bq,b9]);go_wp2_with fail;rw [<-aa,<-ab,<-bq,<-b9];clear aa ab bm bxx bs bq b9 c0 c1 c2
   refine (KR.out wb).mono ?_;rintro e w1 ⟨rfl,a2⟩;have az:Hid (Ext wb w1):=a2;clear a2;cases hrt:qaH (m,x,s)
   case' false=>
    have au:Hid (k<l.length->qaJ (l.take (k+1))=false):=fun _=>(by rw [ai.out];exact ql8 hrt);have a9:k<=N:=hk;have bj:=ca.out.trans az.out;have ag:(qah (l.take k)).1=lx:=(by rw [bk.out]);clear hk hlt hrt i1;rw [<-ag];clear ag
   case' true =>
    have br:=Lib.hid hrt;have bm:=az.out.cell_some b5.out.1;have bxx:=az.out.cell_some b5.out.2.1;have bs:=az.out.cell_some b5.out.2.2;clear hrt;go_wp2_with fail;refine (KN.out w1).mono ?_;rintro e w2 ⟨rfl,a2⟩;have a8:Hid (Ext w1 w2):=a2;have bm:=a8.out.cell_some bm;have bxx:=a8.out.cell_some bxx;have bs:=a8.out.cell_some bs;clear a2;cases aj:numB (m,x,s)
    case false=>
     have b7:Hid (qaJ (l.take (k+1))=true):=(by show _=_;rw [ai.out];exact qjy HG.out br.out aj);have co:Hid (qah (l.take (k+1))=(lx,ls)):=(by show _=_;rw [ai.out,qes aj];exact bk.out);clear aj;go_wp2_with fail;go_roundw
     case rel=>exact ⟨k+1,by omega,by go_num,by go_num,by rw [co.out],by rw [co.out],b7.out,(ca.out.trans az.out).trans a8.out⟩
     case measure=>simp [intOf];omega
    case' true =>
     have dp:=Lib.hid aj;obtain ⟨e2,cv⟩:∃e,qah (l.take (k+1))=(e,true)∧e=(if ls then min x lx else x):=⟨_,by rw [ai.out,qlj aj,bk.out],rfl⟩;clear aj;have ad:=Lib.hid cv;have HK:=Lib.hid hk;clear cv ci
     go_upto_if 32 with fail
     go_cut [10,18] from 18 to 57 (fun s10 s18 wx=>s10=.int .i64 e2∧s18=.int .i64 (k:Int)∧wx=w2)
     case first=>
      have he:=ad.out.2;cases ls with
      | false =>
        have e:e2=x:=(by simpa using he);clear he;go_wp2_with fail;go_meet;exact ⟨by rw [e],rfl,rfl⟩
      | true =>
        by_cases hml:x<=lx
        ·have e:e2=x:=(by rw [he];simp;omega);have cb:=Lib.hid e;clear he e;go_wp2_with fail;go_meet;exact ⟨by rw [cb.out],rfl,rfl⟩
        ·have e:e2=lx:=(by rw [he];simp;omega);have cb:=Lib.hid e;clear he e;go_wp2_with fail;go_meet;exact ⟨by rw [cb.out],rfl,rfl⟩
     case' rest =>
      obtain ⟨rfl,rfl,rfl⟩:=hcut;have cz:k+1<=c:=(by have :=HC.out;omega);have i2:(k:Int)+1<=(c:Int):=(by omega);have a7:Hid (∀j,j<k+1->qaH (l.getD j (0,0,0))=true):=fun j hj=>by
       by_cases e:j=k
       ·subst e;have h1:l.getD j (0,0,0) ∈ l.take (j+1):=(by rw [ai.out];simp [cq.out]);rw [<-cq.out];exact br.out
       ·have a1:j<l.length:=(by have :=HN.out;omega);refine (qb6.1 HG.out).1 _ ?_;rw [List.getD_eq_getElem?_getD,List.getElem?_eq_getElem a1,List.mem_take_iff_getElem];exact ⟨j,by omega,rfl⟩
      have bd: -300<=e2∧e2<=290:=by
       have h1:=qb5 (l:=l.take (k+1)) (fun v hv=>by
        obtain ⟨i,hi,rfl⟩:=List.getElem_of_mem hv;rw [List.length_take] at hi;have :=a7.out i (by omega);rw [List.getD_eq_getElem?_getD,List.getElem?_eq_getElem (by omega)] at this;rw [List.getElem_take];exact this)
       rw [ad.out.1] at h1;exact h1
      have c5:=Lib.hid bd;clear bd;go_wp2_with fail
      go_loopw [12,41] (fun _ jv wl=>∃j:Nat,j<=k+1∧jv=.int .i64 (j:Int)∧Hid (Ext W wl)∧Hid (∀i,i<j->numB (l.getD i (0,0,0))=true->fitB e2 (l.getD i (0,0,0))=true))
       (fun _ jv _=>k+1-(intOf jv).toNat)
      case atStart=>exact ⟨0,Nat.zero_le _,rfl,(ca.out.trans az.out).trans a8.out,fun i hi=>absurd hi (Nat.not_lt_zero _)⟩
      case' round=>
       obtain ⟨j,hj,rfl,bc,b2⟩:=hrel;by_cases ax:j<k+1
       case' pos=>
        have i3:(j:Int)<(k:Int)+1:=(by omega);have cg:j<N:=(by omega);obtain ⟨b3,o3,e3,an,bg⟩:=cf.out j cg;injection e3 with e3;injection e3 with e4 e5;subst e4 e5;have ak:l.getD j (0,0,0) ∈ l:=by
         rw [List.getD_eq_getElem?_getD,List.getElem?_eq_getElem (by rw [<-HN.out];exact cg)];exact List.getElem_mem _
        have ap:=cj.out _ ak;have bz:=a7.out j ax;obtain ⟨y3,cd⟩:∃y,y=l.getD j (0,0,0):=⟨_,rfl⟩;have bu:=Lib.hid cd;rw [<-cd] at an ap bz;obtain ⟨m3,x3,s3⟩:=y3;obtain ⟨d0,d1,d2⟩:=qma.1 an;have c0:wr.cell? ⟨b1,o1+j*3,none⟩=some (.int .i64 m3):=(bc.out.cell am).trans d0;have c1:wr.cell? ⟨b1,o1+j*3+1,none⟩=some (.int .i64 x3):=(bc.out.cell am).trans d1;have c2:wr.cell? ⟨b1,o1+j*3+2,none⟩=some (.int .i64 s3):=(bc.out.cell am).trans d2;have KN3:Hid (∀w,Calls Tryz.prog 94 #[.agg #[.int .i64 m3,.int .i64 x3,.int .i64 s3]] w fun e w'=>e=.returned (.bool (numB (m3,x3,s3)))∧Ext w w'):=fun w=>qeg m3 x3 s3 w;have KF3:Hid (∀w,Ext W w->numB (m3,x3,s3)=true->Calls Tryz.prog 95 #[.agg #[.int .i64 m3,.int .i64 x3,.int .i64 s3],.int .i64 e2] w fun r w'=>r=.returned (.bool (fitB e2 (m3,x3,s3)))∧Ext w w'):=fun w hw hn=>by
         have hq:=qcn bz hn;exact qlR m3 x3 s3 e2 w (HT.out.below hw.below) (by have :=hq.1;have :=hq.2.1;simp only at *;omega) ap.1 (by have :=c5.out;omega)
        obtain ⟨bx3,ab⟩:∃b,b=wr.heap.size:=⟨_,rfl⟩;obtain ⟨wb3,aa⟩:∃w,w=wr.alloc (.cells #[.int .i64 m3,.int .i64 x3,.int .i64 s3] 64):=⟨_,rfl⟩;have b0:Hid (Ext W wb3):=(by rw [aa];exact bc.out.alloc _);have bm3:wb3.cell? ⟨bx3,0,none⟩=some (.int .i64 m3):=(by rw [aa,ab];exact qak wr _ _ 0);have bx3c:wb3.cell? ⟨bx3,1,none⟩=some (.int .i64 x3):=(by rw [aa,ab];exact qak wr _ _ 1);have bs3:wb3.cell? ⟨bx3,2,none⟩=some (.int .i64 s3):=(by rw [aa,ab];exact qak wr _ _ 2);clear an d0 d1 d2 cd ak ap bz cg;cases hn3:numB (m3,x3,s3)
        case false=>
         have b6:Hid (∀i,i<j+1->numB (l.getD i (0,0,0))=true->fitB e2 (l.getD i (0,0,0))=true):=fun i hi bb=>by
          by_cases e:i=j
          ·subst e;rw [<-bu.out,hn3] at bb;cases bb
          ·exact b2.out i (by omega) bb
         rw [hn3] at KN3;clear hn3;go_wp2_with fail;rw [<-aa,<-ab];clear aa ab c0 c1 c2;refine (KN3.out wb3).mono ?_;rintro e w4 ⟨rfl,ac⟩;have av:=Lib.hid (b0.out.trans ac);clear ac;go_wp2_with fail;go_roundw
         case rel=>exact ⟨j+1,by omega,by go_num,av.out,b6.out⟩
         case measure=>simp [intOf];omega
        case' true=>
         have bv:=Lib.hid hn3;rw [hn3] at KN3;clear hn3;cases hf3:fitB e2 (m3,x3,s3)
         case true=>
          have b6:Hid (∀i,i<j+1->numB (l.getD i (0,0,0))=true->fitB e2 (l.getD i (0,0,0))=true):=fun i hi bb=>by
           by_cases e:i=j
           ·subst e;rw [<-bu.out];exact hf3
           ·exact b2.out i (by omega) bb
          rw [hf3] at KF3;clear hf3;go_wp2_with fail;rw [<-aa,<-ab];clear aa ab c0 c1 c2;refine (KN3.out wb3).mono ?_;rintro e w4 ⟨rfl,ac⟩;have av:=Lib.hid (b0.out.trans ac);have bm3:=ac.cell_some bm3;have bx3c:=ac.cell_some bx3c;have bs3:=ac.cell_some bs3;clear ac;go_wp2_with fail;refine (KF3.out w4 av.out bv.out).mono ?_;rintro e w5 ⟨rfl,ac⟩;have de:=Lib.hid (av.out.trans ac);clear ac;go_wp2_with fail;go_roundw
          case rel=>exact ⟨j+1,by omega,by go_num,de.out,b6.out⟩
          case measure=>simp [intOf];omega
         case' false=>
          have au:Hid (k<l.length->qaJ (l.take (k+1))=false):=fun dq=>by
           rw [ai.out];refine qo1 (x:=(m3,x3,s3)) ?_ bv.out (by rw [<-ai.out,ad.out.1];exact hf3);rw [<-ai.out,bu.out,List.getD_eq_getElem?_getD,List.getElem?_eq_getElem (show j<l.length by omega),List.mem_take_iff_getElem];exact ⟨j,by omega,rfl⟩
          rw [hf3] at KF3;clear hf3;go_wp2_with fail;rw [<-aa,<-ab];clear aa ab c0 c1 c2;refine (KN3.out wb3).mono ?_;rintro e w4 ⟨rfl,ac⟩;have av:=Lib.hid (b0.out.trans ac);have bm3:=ac.cell_some bm3;have bx3c:=ac.cell_some bx3c;have bs3:=ac.cell_some bs3;clear ac;go_wp2_with fail;refine (KF3.out w4 av.out bv.out).mono ?_;rintro e w5 ⟨rfl,ac⟩;have bj:=av.out.trans ac;have a9:k<=N:=HK.out;have ag:(qah (l.take k)).1=lx:=(by rw [bk.out]);clear ac hj ax i3 hk hlt i1 bm3 bx3c bs3 bm bxx bs i2 cz;rw [<-ag];clear ag
       case neg=>
        have cc:j=k+1:=(by omega);have i3:¬(j:Int)<(k:Int)+1:=(by omega);have b7:Hid (qaJ (l.take (k+1))=true):=by
         show _=_;rw [ai.out];refine qnc HG.out br.out (fun z hz hn=> ?_);rw [<-ai.out] at hz ⊢;obtain ⟨i,hi,rfl⟩:=List.getElem_of_mem hz;rw [List.length_take] at hi;rw [List.getElem_take] at hn ⊢;have h1:=b2.out i (by omega);rw [List.getD_eq_getElem?_getD,List.getElem?_eq_getElem (show i<l.length by omega)] at h1;rw [ad.out.1];exact h1 hn
        clear hj ax cc;go_wp2_with fail;go_roundw
        case rel=>exact ⟨k+1,by omega,by go_num,by go_num,by rw [ad.out.1],by rw [ad.out.1],b7.out,bc.out⟩
        case measure=>simp [intOf];omega
  case' neg=>
   have a9:k<=N:=hk;have au:Hid (k<l.length->qaJ (l.take (k+1))=false):=fun h=>absurd h (by rw [<-HN.out];exact hlt);have i1:¬(k:Int)<(N:Int):=(by omega);have bj:=HE.out;clear hk hlt
  all_goals
   have HK:=Lib.hid a9;have ck:Hid (qa7 l N=k):=by
    show _=_;rw [HN.out];exact qoF (by rw [<-HN.out];exact a9) HG.out (fun h=>au.out h)
   have dm:k<=c:=(by have :=HC.out;omega);have dj:k<=1000000:=(by omega);have i20:(k:Int)<=(c:Int):=(by omega);obtain ⟨Lx,b4⟩:∃x,x=(qah (l.take k)).1:=⟨_,rfl⟩;rw [<-b4];have bh:=Lib.hid b4;have dc:=Lib.hid bj;clear b4 a9 bj;go_wp2_with fail
   go_loopw [13,15,62] (fun ov _ iv wl=>∃j:Nat,j<=k∧iv=.int .i64 (j:Int)∧Hid (OwnG EI 2 wl W.heap.size ov ((l.take j).map (qaI Lx)))∧Hid (Below W.heap.size W wl))
    (fun _ _ iv _=>k-(intOf iv).toNat)
   case atStart=>exact ⟨0,Nat.zero_le _,rfl,OwnG.nil _ _,dc.out.below⟩
   case round =>
    obtain ⟨j,hj,rfl,HO,HB⟩:=hrel;by_cases hlt:j<k
    ·have i1:(j:Int)<(k:Int):=(by omega);obtain ⟨b3,o3,e3,ae,bg⟩:=cf.out j (by have :=HK.out;omega)
     first
      |subst e3
      | (injection e3 with e3
         injection e3 with e4 e5;have e4':=e4.symm;have e5':=e5.symm;subst e4' e5')
     obtain ⟨y,hy⟩:∃y,y=l.getD j (0,0,0):=⟨_,rfl⟩;rw [<-hy] at ae;have a1:j<l.length:=(by have :=HK.out;have :=HN.out;omega);have af:y ∈ l.take k:=by
      rw [hy,List.getD_eq_getElem?_getD,List.getElem?_eq_getElem a1,List.mem_take_iff_getElem];exact ⟨j,by omega,rfl⟩
     obtain ⟨bt,cu⟩:=qb6.1 HG.out;have ao:=bt y af;have ba:=cu y af;rw [<-bh.out] at ba;have ay:Hid ((l.take (j+1)).map (qaI Lx)=(l.take j).map (qaI Lx)++[qaI Lx y]):=by
      show _=_;rw [qhf a1,List.map_append,<-hy];rfl
     obtain ⟨L,hL⟩:∃L,L=(l.take j).map (qaI Lx):=⟨_,rfl⟩;have dr:L.length<=1000000:=(by rw [hL,List.length_map,List.length_take];have :=HK.out;omega);rw [<-hL] at HO;have HL:=Lib.hid hL;have da:=qb5 (l:=l.take k) bt;rw [<-bh.out] at da;clear bt cu af a1 hL hy;obtain ⟨m,x,s⟩:=y;obtain ⟨d0,d1,d2⟩:=qma.1 ae;have c0:wr.cell? ⟨b3,o3+j*3,none⟩=some (.int .i64 m):=(HB.out.cell bg).trans d0;have c1:wr.cell? ⟨b3,o3+j*3+1,none⟩=some (.int .i64 x):=(HB.out.cell bg).trans d1;have c2:wr.cell? ⟨b3,o3+j*3+2,none⟩=some (.int .i64 s):=(HB.out.cell bg).trans d2;obtain ⟨bx,ab⟩:∃b,b=wr.heap.size:=⟨_,rfl⟩;obtain ⟨wb,aa⟩:∃w,w=wr.alloc (.cells #[.int .i64 m,.int .i64 x,.int .i64 s] 64):=⟨_,rfl⟩;have bm:wb.cell? ⟨bx,0,none⟩=some (.int .i64 m):=(by rw [aa,ab];exact qak wr _ _ 0);have bxx:wb.cell? ⟨bx,1,none⟩=some (.int .i64 x):=(by rw [aa,ab];exact qak wr _ _ 1);have bs:wb.cell? ⟨bx,2,none⟩=some (.int .i64 s):=(by rw [aa,ab];exact qak wr _ _ 2);have bn:Hid (OwnG EI 2 wb W.heap.size u13 L):=(by rw [aa];exact HO.out.alloc _);have aw:Hid (Below W.heap.size W wb):=(by rw [aa];exact HB.out.alloc HB.out.size _);have bp:(L.length+1)*8<=140737488355328:=(by omega);have cx:Hid (TabT wb):=HT.out.below aw.out;by_cases hs0:s=0
     ·by_cases hm0:m=0
      ·have g1:(s != 0)=false:=(by simp [hs0]);have g2:(m==0)=true:=(by simp [hm0]);have hz:qaI Lx (m,x,s)=0:=(by unfold qaI;simp [hs0,hm0]);rw [hz] at ay;have a5:Hid (CellG EI ((wr.alloc (.cells #[.int .i64 m,.int .i64 x,.int .i64 s] 64)).alloc (.cells #[.int .i64 0] 2)) (wr.heap.size+1) 0 0):=by
        have h:=CellG.mk (E:=EI) (w:=(wr.alloc (.cells #[.int .i64 m,.int .i64 x,.int .i64 s] 64))) (x:=0) (cs:= #[.int .i64 0]) rfl 2;rw [World.size_alloc] at h;exact h
       have a0:Hid (OwnG EI 2 (wr.alloc (.cells #[.int .i64 m,.int .i64 x,.int .i64 s] 64)) W.heap.size u13 L):=HO.out.alloc _;have aq:Hid (Below W.heap.size W ((wr.alloc (.cells #[.int .i64 m,.int .i64 x,.int .i64 s] 64)).alloc (.cells #[.int .i64 0] 2))):=(HB.out.alloc HB.out.size _).alloc (HB.out.alloc HB.out.size _).size _;clear hs0 hm0 hz ae d0 d1 d2 ao ba aa ab bm bxx bs bn aw;go_wp2_with (first|(at_builtin;refine qd1 EI rfl _ _ 73 2 rfl Tryz.underlying73 qc5 rfl (by decide) W.heap.size _ L 0 rfl (a0.out.alloc _) _ 0 1 rfl a5.out bp aq.out.size ?_)|fail);intro v' w' ah hg ar;have a3:Hid (OwnG EI 2 w' W.heap.size v' ((l.take (j+1)).map (qaI Lx))):=by
        show OwnG _ _ _ _ _ _;rw [ay.out,<-HL.out];exact ah
       have a4:Hid (Below W.heap.size W w'):=aq.out.grown hg aq.out.size (fun _ e=>(a0.out.blk e).1);clear ah hg ar;go_wp2_with fail;go_roundw
       case rel=>exact ⟨j+1,by omega,by go_num,a3.out,a4.out⟩
       case measure=>simp [intOf];omega
      ·have g1:(s != 0)=false:=(by simp [hs0]);have g2:(m==0)=false:=(by simp [hm0]);have aj:numB (m,x,s)=true:=(by unfold numB;simp [hs0,hm0]);have bw:=ba aj;unfold fitB at bw;simp only [Bool.and_eq_true,decide_eq_true_eq] at bw;obtain ⟨⟨f1,f2⟩,f3⟩:=bw;obtain ⟨dd,c9⟩:∃d:Nat,x-Lx=(d:Int):=⟨(x-Lx).toNat,by omega⟩;obtain ⟨td,bi⟩:∃t,t=10^dd:=⟨_,rfl⟩;have bo:dd<=18:=(by omega);have ct:wb.cell? ⟨0,dd,none⟩=some (.int .i64 (td:Int)):=(by rw [cx.out dd (by omega),bi]);rw [show (x-Lx).toNat=dd by omega,<-bi] at f3;obtain ⟨z,bf⟩:∃z,z=m*(td:Int):=⟨_,rfl⟩;have df:z.natAbs<1000000000000000000:=(by rw [bf,Int.natAbs_mul];exact f3);have c3:IntKind.i64.wrap (m*(td:Int))=z:=(by rw [<-bf];exact IntWalk.i64_in _ (by omega));have di:wrap64 (m*(td:Int))=z:=(by rw [<-qlJ];exact c3);have hz:qaI Lx (m,x,s)=z:=by
        unfold qaI;simp only [hs0,ne_eq,not_true,if_false,hm0];rw [show (x-Lx).toNat=dd by omega,bf,bi,Int.natCast_pow];rfl
       rw [hz] at ay;have i30:(0:Int)<=(dd:Int):=(by omega);have dk:IntKind.i64.wrap (x-Lx)=(dd:Int):=(by rw [c9];exact IntWalk.i64_in _ (by omega));have db:IntKind.i64.wrap (dd:Int)=(dd:Int):=IntWalk.i64_in _ (by omega);have i31:(dd:Int)<19:=(by omega);have a5:Hid ((#[.int .i64 z]:Array Value).toList=EI.enc z):=rfl;clear hs0 hm0 hz ae d0 d1 d2 ao ba f1 f2 f3 df bf bi bo aj;have b8:Hid (∀k,u13.ownBlock=some k->W.heap.size<=k∧k≠bx):=fun k e=>⟨(HO.out.blk e).1,by have :=(HO.out.blk e).2;omega⟩;have cm:bx<wb.heap.size:=(by rw [aa,ab];simp);have c4:=Lib.hid cm;have cr:0<W.heap.size:=qaa (HT.out 0 (by omega));have dg:=Lib.hid cr;clear cm cr;go_wp2_with fail;rw [<-aa,<-ab];clear aa ab c0 c1 c2;go_wp2_with fail;have cp:∀w' o,Below wb.heap.size wb w'->Below wb.heap.size wb (w'.alloc o):=fun w' o h=>h.alloc h.size _;have be:=Lib.hid cp;have dh:Hid (∀w',Below wb.heap.size wb w'->OwnG EI 2 w' W.heap.size u13 L):=fun w' h=>bn.out.below h;have c8:Hid (∀w',Below wb.heap.size wb w'->W.heap.size<=w'.heap.size):=fun w' h=>Nat.le_trans aw.out.size h.size;have cl:Hid (∀w',Below wb.heap.size wb w'->w'.cell? ⟨bx,0,none⟩=some (.int .i64 m)∧w'.cell? ⟨bx,1,none⟩=some (.int .i64 x)∧w'.cell? ⟨0,dd,none⟩=some (.int .i64 (td:Int))):=fun w' h=>⟨(h.cell (qaa bm)).trans bm,(h.cell (qaa bxx)).trans bxx,(h.cell (qaa ct)).trans ct⟩;have cy:Hid (∀w' w7,Below wb.heap.size wb w'->w'.grownBy w7 u13.ownBlock->Below W.heap.size W w7∧w7.cell? ⟨bx,0,none⟩=some (.int .i64 m)∧w7.cell? ⟨bx,1,none⟩=some (.int .i64 x)∧w7.cell? ⟨0,dd,none⟩=some (.int .i64 (td:Int))):=fun w' w7 h hg=>by
        have c:=cl.out w' h;have hs:=h.size;have h1:=c4.out;have h2:=dg.out;have h3:=aw.out.size;have e1:∀i,w7.cell? ⟨bx,i,none⟩=w'.cell? ⟨bx,i,none⟩:=fun i=>World.cell?_of_block (hg.block bx (Nat.lt_of_lt_of_le h1 hs) fun e=>(b8.out _ e.symm).2 rfl);have e2:∀i,w7.cell? ⟨0,i,none⟩=w'.cell? ⟨0,i,none⟩:=fun i=>World.cell?_of_block (hg.block 0 (Nat.lt_of_lt_of_le (Nat.lt_of_lt_of_le h2 h3) hs) fun e=>by have :=(b8.out _ e.symm).1;omega);exact ⟨(aw.out.trans (h.mono h3)).grown hg (Nat.le_trans h3 hs) (fun _ e=>(b8.out _ e).1),(e1 0).trans c.1,(e1 1).trans c.2.1,(e2 dd).trans c.2.2⟩
       clear cp
       go_region_held3 (fun w'=>w'.cell? ⟨bx,0,none⟩=some (.int .i64 m)∧w'.cell? ⟨bx,1,none⟩=some (.int .i64 x)∧w'.cell? ⟨0,dd,none⟩=some (.int .i64 (td:Int)))
        (first|exact cw.out.2|exact cl.out _ (by repeat (first|exact Below.refl _ _|assumption|refine be.out _ _ ?_|refine Below.drew ?_)))
        ((refine qe2 EI (by rfl) _ _ 73 2 (by rfl) Tryz.underlying73 qc5 (by rfl) (by decide) W.heap.size _ L z (by rfl) (dh.out _ (by repeat (first|exact Below.refl _ _|assumption|refine be.out _ _ ?_|refine Below.drew ?_))) _ 0 1 (by rfl) (CellG.mk a5.out _) bp (c8.out _ (by repeat (first|exact Below.refl _ _|assumption|refine be.out _ _ ?_|refine Below.drew ?_))) ?_;intro v7 w7 al cn a6;have cw:=Lib.hid (cy.out _ w7 (by repeat (first|exact Below.refl _ _|assumption|refine be.out _ _ ?_|refine Below.drew ?_)) cn);have c6:=Lib.hid al;clear al cn a6))
       have a3:Hid (OwnG EI 2 w7 W.heap.size v7 ((l.take (j+1)).map (qaI Lx))):=by
        show OwnG _ _ _ _ _ _;rw [ay.out,<-HL.out];exact c6.out
       have a4:=Lib.hid cw.out.1;go_wp2_with fail;go_roundw
       case rel=>exact ⟨j+1,by omega,by go_num,a3.out,a4.out⟩
       case measure=>simp [intOf];omega
     ·have ce:m=0∧x=0∧1<=s∧s<=4:=by
       unfold qaH qau at ao;simp only at ao;rw [if_pos hs0] at ao;have :=of_decide_eq_true ao;omega
      have g1:(s != 0)=true:=(by simp [hs0]);have dn:=ce.2.2.1;have dl:=ce.2.2.2;clear ce;have hz:qaI Lx (m,x,s)= -9223372036854775808+s:=(by unfold qaI;simp [hs0]);rw [hz] at ay;have a5:Hid (CellG EI ((wr.alloc (.cells #[.int .i64 m,.int .i64 x,.int .i64 s] 64)).alloc (.cells #[.int .i64 (-9223372036854775808+s)] 2)) (wr.heap.size+1) 0 (-9223372036854775808+s)):=by
       have h:=CellG.mk (E:=EI) (w:=(wr.alloc (.cells #[.int .i64 m,.int .i64 x,.int .i64 s] 64))) (x:=(-9223372036854775808+s)) (cs:= #[.int .i64 (-9223372036854775808+s)]) rfl 2;rw [World.size_alloc] at h;exact h
      have a0:Hid (OwnG EI 2 (wr.alloc (.cells #[.int .i64 m,.int .i64 x,.int .i64 s] 64)) W.heap.size u13 L):=HO.out.alloc _;have aq:Hid (Below W.heap.size W ((wr.alloc (.cells #[.int .i64 m,.int .i64 x,.int .i64 s] 64)).alloc (.cells #[.int .i64 (-9223372036854775808+s)] 2))):=(HB.out.alloc HB.out.size _).alloc (HB.out.alloc HB.out.size _).size _;clear hs0 hz ae d0 d1 d2 ao ba aa ab bm bxx bs bn aw;go_wp2_with (first|(at_builtin;refine qd1 EI rfl _ _ 73 2 rfl Tryz.underlying73 qc5 rfl (by decide) W.heap.size _ L (-9223372036854775808+s) rfl (a0.out.alloc _) _ 0 1 rfl a5.out bp aq.out.size ?_)|fail);intro v' w' ah hg ar;have a3:Hid (OwnG EI 2 w' W.heap.size v' ((l.take (j+1)).map (qaI Lx))):=by
       show OwnG _ _ _ _ _ _;rw [ay.out,<-HL.out];exact ah
      have a4:Hid (Below W.heap.size W w'):=aq.out.grown hg aq.out.size (fun _ e=>(a0.out.blk e).1);clear ah hg ar;go_wp2_with fail;go_roundw
      case rel=>exact ⟨j+1,by omega,by go_num,a3.out,a4.out⟩
      case measure=>simp [intOf];omega
    ·have ax:j=k:=(by omega);have i1:¬(j:Int)<(k:Int):=(by omega);rw [ax] at HO;obtain ⟨OA,oc,rfl,_⟩:=HO.out.rd;clear hj hlt ax;go_wp2_with fail;refine bodyPost_ret (v:=.tuple #[.slice OA ((l.take k).map (qaI Lx)).length oc,.int .i64 Lx,.int .i64 (k:Int)]) ?_ rfl ⟨_,by rw [ck.out,<-bh.out],by rw [ck.out,<-bh.out];exact HO.out,HB.out⟩;unfold results;rw [hr]
     go_simp
theorem qdt (e:Int):∀(a b:List Int),qas e (a++b)=match qas e a,qas e b with |some r,some s=>some (r++s)|_,_=>none
 | [], b => by
   show qas e b=_;cases h:qas e b with
   |none=>rfl
   |some s=>rfl
 | k :: a, b => by
   have ih:=qdt e a b;rw [List.cons_append,qas,ih,qas];cases qa5 e k<;>cases qas e a<;>cases qas e b<;>rfl
theorem qeo {e:Int} {a:List Int} {k:Int} {r:List Val} (h:qas e a=some r):qas e (a++[k])=(qa5 e k).map (fun v=>r++[v]):=by
 rw [qdt,h];unfold qas;unfold qas;cases qa5 e k<;>rfl
theorem qjO {e:Int} {a b:List Int} {k:Int} {r:List Val} (h:qas e a=some r) (hk:qa5 e k=none):qas e (a++k::b)=none:=by
 rw [qdt,h];have :qas e (k::b)=none:=by rw [qas,hk]
 rw [this]
theorem qiy:(Tryz.prog.info? 64).map (fun i=>(i.zero,i.size,i.bytes))=some (some (.agg #[.int .i64 0,.int .i64 0,.int .i64 0]),3,24):=by kernel_rfl
def UnpR (W:World) (m:List Int) (x:Int) (e:Ending) (w':World):Prop:=
 ∃ov er,e=.returned (.tuple #[ov,.int .i64 er])∧Below W.heap.size W w'∧(∀r,unpackV m x=some r->er=0∧OwnG EV 64 w' W.heap.size ov r)∧(unpackV m x=none->er=20∧ov=.slice none 0 0)
theorem qhO (v : Value) (l : List Int) (x : Int) (W : World) (hT : TabT W) (hR : RdG EI W W.heap.size v l) (hi : ∀ y ∈ l, In64 y) (hl : l.length <= 1000000) :
  Calls Tryz.prog 78 #[v,.int .i64 x] W (UnpR W l x):=by
 have hr:Tryz.f78.results= #[.tmp 4,.tmp 5]:=by kernel_rfl
 obtain ⟨N,hN⟩:∃N,N=l.length:=⟨_,rfl⟩;obtain ⟨A,c,rfl,hc,a7,hA⟩:=hR;rw [<-hN] at hc hl ⊢;have HN:=Lib.hid hN;have HT:=Lib.hid hT;have a4:=Lib.hid hi;have a6:Hid (∀j,j<N->∃b1 o1,A=some ⟨b1,o1,none⟩∧W.cell? ⟨b1,o1+j,none⟩=some (.int .i64 (l.getD j 0))∧b1<W.heap.size):=fun j hj=>by
  rcases hA with h1|⟨b1,o1,e,aw,ah⟩
  ·rw [h1] at hN;simp at hN;omega
  ·refine ⟨b1,o1,e, ?_,aw⟩;have :=qfz.1 (ah j (by omega));rw [List.getD_eq_getElem?_getD,List.getElem?_eq_getElem (by omega)];simpa [EI] using this
 clear hA a7 hT hi hN hc;by_cases hx:x< -1000∨1000<x
 ·have hv:unpackV l x=none:=by unfold unpackV;rw [if_pos hx]
  have HV:=Lib.hid hv;clear hv;by_cases a5:x< -1000
  ·clear hx;go_enter Tryz.func78,Tryz.ntmps78;go_wp2_with fail;refine bodyPost_ret (v:=.tuple #[.slice none 0 0,.int .i64 20]) ?_ rfl (show UnpR W l x _ _ from ⟨.slice none 0 0,20,rfl,Below.refl _ _,fun r h=>(by rw [HV.out] at h;cases h),fun _=>⟨rfl,rfl⟩⟩);unfold results;rw [hr]
   go_simp
  ·have a2:x>1000:=(by omega);clear hx;go_enter Tryz.func78,Tryz.ntmps78;go_wp2_with fail;refine bodyPost_ret (v:=.tuple #[.slice none 0 0,.int .i64 20]) ?_ rfl (show UnpR W l x _ _ from ⟨.slice none 0 0,20,rfl,Below.refl _ _,fun r h=>(by rw [HV.out] at h;cases h),fun _=>⟨rfl,rfl⟩⟩);unfold results;rw [hr]
   go_simp
 ·have HV : Hid (unpackV l x = qas x l) := by show _ = _; unfold unpackV; rw [if_neg hx]
  have a5:¬x< -1000:=by omega
  have a2:¬x>1000:=by omega
  clear hx;go_enter Tryz.func78,Tryz.ntmps78;go_wp2_with fail
  go_loopw [6,8,9,10,11,20] (fun ov _ _ _ _ iv wl=>∃(k:Nat) (r:List Val),k<=N∧iv=.int .i64 (k:Int)∧Hid (qas x (l.take k)=some r)∧Hid (OwnG EV 64 wl W.heap.size ov r)∧Hid (Below W.heap.size W wl)∧Hid (r.length<=k))
   (fun _ _ _ _ _ iv _=>N-(intOf iv).toNat)
  case atStart=>exact ⟨0,[],Nat.zero_le _,rfl,rfl,OwnG.nil _ _,Below.refl _ _,Nat.le_refl _⟩
  case round =>
   obtain ⟨k,r,hk,rfl,HU,HO,HB,ap⟩:=hrel;by_cases hlt:k<N
   ·have i1 : (k : Int) < (N : Int) := by omega
    obtain ⟨b1,o1,rfl,ah,aw⟩:=a6.out k hlt;obtain ⟨z,hz⟩:∃z,z=l.getD k 0:=⟨_,rfl⟩;rw [<-hz] at ah;have al:k<l.length:=(by rw [<-HN.out];exact hlt);have aj:l[k]=z:=(by rw [hz,List.getD_eq_getElem?_getD,List.getElem?_eq_getElem al];rfl);have an:In64 z:=a4.out z (by rw [<-aj];exact List.getElem_mem _);have ay:Hid (l.take (k+1)=l.take k++[z]):=(by show _=_;rw [List.take_succ_eq_append_getElem al,aj]);have a3:Hid (l=l.take k++z::l.drop (k+1)):=(by show _=_;rw [<-aj,<-List.drop_eq_getElem_cons al,List.take_append_drop]);have c0:wr.cell? ⟨b1,o1+k,none⟩=some (.int .i64 z):=(HB.out.cell aw).trans ah;have am: -9223372036854775808<=z:=an.1;have ar:z<=9223372036854775807:=(by have :=an.2;omega);have a1:(r.length+1)*24<=140737488355328:=(by have :=ap.out;omega);clear hz aj an al ah;by_cases hsp:z<0∧1<=z+9223372036854775808∧z+9223372036854775808<=4
    ·have ad:qa5 x z=some (0,0,z+9223372036854775808):=(by unfold qa5;rw [if_pos hsp]);have av:Hid (qas x (l.take (k+1))=some (r++[(0,0,z+9223372036854775808)])):=(by show _=_;rw [ay.out,qeo HU.out,ad];rfl);obtain ⟨s1,s2,s3⟩:=hsp;have hw:IntKind.i64.wrap (z - -9223372036854775808)=z+9223372036854775808:=(by rw [show z - -9223372036854775808=z+9223372036854775808 by omega];exact IntWalk.i64_in _ (by omega));have ax:Hid (CellG EV (wr.alloc (.cells #[.int .i64 0,.int .i64 0,.int .i64 (z+9223372036854775808)] 64)) wr.heap.size 0 (0,0,z+9223372036854775808)):=CellG.mk (cs:= #[.int .i64 0,.int .i64 0,.int .i64 (z+9223372036854775808)]) rfl _;have HW:Hid (W.heap.size<=(wr.alloc (.cells #[.int .i64 0,.int .i64 0,.int .i64 (z+9223372036854775808)] 64)).heap.size):=(by have :=HB.out.size;show _<=_;simp;omega);clear ad;go_wp2_with (first|(at_builtin;refine qd1 EV rfl _ _ 103 64 rfl Tryz.underlying103 qiy rfl (by decide) W.heap.size _ r (0,0,z+9223372036854775808) rfl (HO.out.alloc _) wr.heap.size 0 1 rfl ax.out a1 HW.out ?_)|fail);intro v' w' ae hg af;have aq:=Lib.hid ae;have au:Hid (Below W.heap.size W w'):=(HB.out.alloc HB.out.size _).grown hg HW.out (fun _ e=>(HO.out.blk e).1);clear ae hg af;go_wp2_with fail;go_roundw
     case rel=>exact ⟨k+1,_,by omega,by go_num,av.out,aq.out,au.out,by have :=ap.out;simp;omega⟩
     case measure=>simp [intOf];omega
    ·have ad : qa5 x z = match qcR z x with | some (a, b) => if -1000000000000000000 < z ∧ z < 1000000000000000000 then some (a, b, 0) else none | none => none := by unfold qa5; rw [if_neg hsp]; rfl
     have KCl:Hid (∀w,Calls Tryz.prog 105 #[.int .i64 z,.int .i64 x] w fun e w'=>e=.returned (qcS z x)∧Ext w w'):=fun w=>qjq z x w am ar;have ag:Hid (qa5 x z=none->unpackV l x=none):=fun h=>(by rw [HV.out,a3.out];exact qjO HU.out h);have ak:Hid (∀y,qa5 x z=some y->qas x (l.take (k+1))=some (r++[y])):=fun y h=>(by rw [ay.out,qeo HU.out,h];rfl);have ac:(¬z<0)∨(z<0∧¬z+9223372036854775808≥1∧IntKind.i64.wrap (z - -9223372036854775808)=z+9223372036854775808)∨(z<0∧z+9223372036854775808≥1∧¬z+9223372036854775808<=4∧IntKind.i64.wrap (z - -9223372036854775808)=z+9223372036854775808):=by
      have hw:z<0->IntKind.i64.wrap (z - -9223372036854775808)=z+9223372036854775808:=fun h=>(by rw [show z - -9223372036854775808=z+9223372036854775808 by omega];exact IntWalk.i64_in _ (by omega));by_cases h1:z<0
      ·by_cases h2:z+9223372036854775808≥1
       ·exact .inr (.inr ⟨h1,h2,by omega,hw h1⟩)
       ·exact .inr (.inl ⟨h1,h2,hw h1⟩)
      ·exact .inl h1
     clear hsp;cases hcv:qcR z x with
     | none =>
       have hR:qcS z x=.tuple #[.agg #[.int .i64 0,.int .i64 0,.int .i64 0],.bool false]:=(by unfold qcS;rw [hcv]);rw [hR] at KCl;rw [hcv] at ad;have ai:=Lib.hid (ag.out ad);clear hcv ad hR ag ak;rcases ac with h1|⟨h1,h2,h3⟩|⟨h1,h2,h3,h4⟩
       all_goals
        go_wp2_with fail;refine (KCl.out _).mono ?_;rintro e w1 ⟨rfl,hE⟩;have aa:Hid (Below W.heap.size W w1):=HB.out.trans (hE.below.mono HB.out.size);clear hE;go_wp2_with fail;refine bodyPost_ret (v:=.tuple #[.slice none 0 0,.int .i64 20]) ?_ rfl (show UnpR W l x _ _ from ⟨.slice none 0 0,20,rfl,aa.out.alloc aa.out.size _,fun r h=>(by rw [ai.out] at h;cases h),fun _=>⟨rfl,rfl⟩⟩);unfold results;rw [hr]
        go_simp
     | some ab =>
       obtain ⟨a,b⟩:=ab;have hR:qcS z x=.tuple #[.agg #[.int .i64 a,.int .i64 b,.int .i64 0],.bool true]:=(by unfold qcS;rw [hcv]);rw [hR] at KCl;rw [hcv] at ad;simp only at ad;clear hcv hR;by_cases hin: -1000000000000000000<z∧z<1000000000000000000
       ·rw [if_pos hin] at ad;have av:=Lib.hid (ak.out _ ad);obtain ⟨q1,q2⟩:=hin;have q1':¬z<= -1000000000000000000:=(by omega);have q2':¬z≥1000000000000000000:=(by omega);clear ad ag ak;rcases ac with h1|⟨h1,h2,h3⟩|⟨h1,h2,h3,h4⟩;rotate_left
        ·exact absurd q1 (by omega)
        all_goals
         go_wp2_with fail;refine (KCl.out _).mono ?_;rintro e w1 ⟨rfl,hE⟩;have aa:Hid (Below W.heap.size W w1):=HB.out.trans (hE.below.mono HB.out.size);have a0:Hid (OwnG EV 64 w1 W.heap.size u6 r):=HO.out.below hE.below;have ct18:w1.cell? ⟨0,18,none⟩=some (.int .i64 1000000000000000000):=HT.out.below aa.out 18 (by omega);have ct19:(w1.alloc (.cells #[.int .i64 a,.int .i64 b,.int .i64 0] 64)).cell? ⟨0,18,none⟩=some (.int .i64 1000000000000000000):=((Ext.refl w1).alloc _).cell_some ct18;have ax:Hid (CellG EV ((w1.alloc (.cells #[.int .i64 a,.int .i64 b,.int .i64 0] 64)).alloc (.cells #[.int .i64 a,.int .i64 b,.int .i64 0] 64)) (w1.heap.size+1) 0 (a,b,0)):=by
          have h:=CellG.mk (E:=EV) (w:=w1.alloc (.cells #[.int .i64 a,.int .i64 b,.int .i64 0] 64)) (x:=(a,b,0)) (cs:= #[.int .i64 a,.int .i64 b,.int .i64 0]) rfl 64;rw [World.size_alloc] at h;exact h
         have ao:Hid (Below W.heap.size W ((w1.alloc (.cells #[.int .i64 a,.int .i64 b,.int .i64 0] 64)).alloc (.cells #[.int .i64 a,.int .i64 b,.int .i64 0] 64))):=(aa.out.alloc aa.out.size _).alloc (aa.out.alloc aa.out.size _).size _;clear hE;go_wp2_with (first|(at_builtin;refine qd1 EV rfl _ _ 103 64 rfl Tryz.underlying103 qiy rfl (by decide) W.heap.size _ r (a,b,0) rfl ((a0.out.alloc _).alloc _) _ 0 1 rfl ax.out a1 ao.out.size ?_)|fail);intro v' w' ae hg af;have aq:=Lib.hid ae;have au:Hid (Below W.heap.size W w'):=ao.out.grown hg ao.out.size (fun _ e=>(a0.out.blk e).1);clear ae hg af;go_wp2_with fail;go_roundw
         case rel=>exact ⟨k+1,_,by omega,by go_num,av.out,aq.out,au.out,by have :=ap.out;simp;omega⟩
         case measure=>simp [intOf];omega
       ·rw [if_neg hin] at ad;have ai:=Lib.hid (ag.out ad);clear ad ag ak;by_cases q1:z<= -1000000000000000000
        ·clear hin;rcases ac with h1|⟨h1,h2,h3⟩|⟨h1,h2,h3,h4⟩
         ·exact absurd q1 (by omega)
         all_goals
          go_wp2_with fail;refine (KCl.out _).mono ?_;rintro e w1 ⟨rfl,hE⟩;have aa:Hid (Below W.heap.size W w1):=HB.out.trans (hE.below.mono HB.out.size);have ct18:w1.cell? ⟨0,18,none⟩=some (.int .i64 1000000000000000000):=HT.out.below aa.out 18 (by omega);have ct19:(w1.alloc (.cells #[.int .i64 a,.int .i64 b,.int .i64 0] 64)).cell? ⟨0,18,none⟩=some (.int .i64 1000000000000000000):=((Ext.refl w1).alloc _).cell_some ct18;clear hE;go_wp2_with fail;refine bodyPost_ret (v:=.tuple #[.slice none 0 0,.int .i64 20]) ?_ rfl (show UnpR W l x _ _ from ⟨.slice none 0 0,20,rfl,aa.out.alloc aa.out.size _,fun r h=>(by rw [ai.out] at h;cases h),fun _=>⟨rfl,rfl⟩⟩);unfold results;rw [hr]
          go_simp
        ·have q2:z≥1000000000000000000:=(by omega);clear hin;rcases ac with h1|⟨h1,h2,h3⟩|⟨h1,h2,h3,h4⟩;rotate_left
         ·exact absurd h1 (by omega)
         ·exact absurd h1 (by omega)
         all_goals
          go_wp2_with fail;refine (KCl.out _).mono ?_;rintro e w1 ⟨rfl,hE⟩;have aa:Hid (Below W.heap.size W w1):=HB.out.trans (hE.below.mono HB.out.size);have ct18:w1.cell? ⟨0,18,none⟩=some (.int .i64 1000000000000000000):=HT.out.below aa.out 18 (by omega);have ct19:(w1.alloc (.cells #[.int .i64 a,.int .i64 b,.int .i64 0] 64)).cell? ⟨0,18,none⟩=some (.int .i64 1000000000000000000):=((Ext.refl w1).alloc _).cell_some ct18;clear hE;go_wp2_with fail;refine bodyPost_ret (v:=.tuple #[.slice none 0 0,.int .i64 20]) ?_ rfl (show UnpR W l x _ _ from ⟨.slice none 0 0,20,rfl,aa.out.alloc aa.out.size _,fun r h=>(by rw [ai.out] at h;cases h),fun _=>⟨rfl,rfl⟩⟩);unfold results;rw [hr]
          go_simp
   ·have az:k=N:=(by omega);have i1:¬(k:Int)<(N:Int):=(by omega);have HF:Hid (unpackV l x=some r):=by
     show _=_;rw [HV.out,<-HU.out,az,HN.out,List.take_length]
    obtain ⟨OA,oc,rfl,_⟩:=HO.out.rd;clear hk hlt az;go_wp2_with fail;refine bodyPost_ret (v:=.tuple #[.slice OA r.length oc,.int .i64 0]) ?_ rfl (show UnpR W l x _ _ from ⟨_,_,rfl,HB.out,fun r2 h=>(by
     rw [HF.out] at h;injection h with h;subst h;exact ⟨rfl,HO.out⟩),fun h=>(by rw [HF.out] at h;cases h)⟩)
    unfold results;rw [hr]
    go_simp
end Go.Proofs.YtnkelahimiipjaaGreatDoor
