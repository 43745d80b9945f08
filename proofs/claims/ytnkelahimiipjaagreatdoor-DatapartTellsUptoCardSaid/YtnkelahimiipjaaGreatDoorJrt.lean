/-
 codec: best, Encode.
-/
import Derived.Test.YtnkelahimiipjaaGreatDoorCut
import Derived.Test.YtnkelahimiipjaaGreatDoorCtt
import Derived.Test.YtnkelahimiipjaaGreatDoorCct
import Derived.Laws.BytesArg
import Derived.Laws.BytesString
import Derived.Lib.Strings
import Derived.Lib.AppendZerosOnto
import Derived.Test.YtnkelahimiipjaaGreatDoorRqt
set_option maxRecDepth 100000
set_option maxHeartbeats 8000000
namespace Go.Proofs.YtnkelahimiipjaaGreatDoor
open Go.RowKit Go.Sort
theorem qod (k:Nat) (hk:k<4) (l:List Int) (v:Value) (W:World) (hR:RdG EI W W.heap.size v l) (hi:∀x ∈ l,In64 x) (hl:l.length<=4096):
  Calls Tryz.prog 116 #[.int .i64 (k:Int),v] W (AsB k l W):=by
 match k,hk with
 |0,_=>exact qm7 l v W hR hi hl
 |1,_=>exact qmy l v W hR hi hl
 |2,_=>exact qna l v W hR hi hl
 |3,_=>exact qmK l v W hR hi hl
def qey (l:List Int) (j:Nat):Nat×List Nat:=([3,1,0].take j).foldl (qaN l) (2,(asV 2 l).getD [])
def qhF (j:Nat):Nat:=([3,1,0]:List Nat).getD j 0
theorem qoy (j:Nat):qhF j<4:=by
 unfold qhF
 match j with
 |0=>decide
 |1=>decide
 |2=>decide
 |n+3=>simp
theorem qi9 (l:List Int) {j:Nat} (h:j<3):qey l (j+1)=qaN l (qey l j) (qhF j):=by
 unfold qey qhF
 match j,h with
 |0,_=>rfl
 |1,_=>rfl
 |2,_=>rfl
theorem qlT {l:List Int} {s:Nat×List Nat} {k:Nat} (h:asV k l=none):qaN l s k=s:=by unfold qaN;rw [h]
theorem qiq {l:List Int} {s:Nat×List Nat} {k:Nat} {x:List Nat} (h:asV k l=some x) (hc:x.length<s.2.length∨x.length=s.2.length∧k<s.1):qaN l s k=(k,x):=by
 unfold qaN;rw [h];simp only;rw [if_pos hc]
theorem qlZ {l:List Int} {s:Nat×List Nat} {k:Nat} {x:List Nat} (h:asV k l=some x) (hc:¬(x.length<s.2.length∨x.length=s.2.length∧k<s.1)):qaN l s k=s:=by
 unfold qaN;rw [h];simp only;rw [if_neg hc]
def OwB (w:World) (base:Nat) (A:Option Addr) (n c:Nat) (x:List Nat):Prop:=OwnG EB 5 w base (.slice A n c) x∧n=x.length
theorem OwnG.ob {w:World} {base:Nat} {v:Value} {x:List Nat} (h:OwnG EB 5 w base v x):∃A n c,v=.slice A n c∧OwB w base A n c x:=by
 obtain ⟨A,c,e,_⟩:=id h.rd;exact ⟨A,_,c,e,by rw [<-e];exact h,rfl⟩
theorem qf8 (w:World) (a b c:Int) (t:TypeId) (j:Nat):(w.alloc (.cells #[.int .i64 a,.int .i64 b,.int .i64 c] t)).cell? ⟨w.heap.size,j,none⟩=(#[.int .i64 a,.int .i64 b,.int .i64 c]:Array Value)[j]? :=qak w _ _ j
theorem qkQ (l : List Int) (v : Value) (W : World) (hR : RdG EI W W.heap.size v l) (hi : ∀ x ∈ l, In64 x) (hl : l.length <= 4096) :
  Calls Tryz.prog 96 #[v] W fun e w'=>∃A n c,e=.returned (.tuple #[.int .i64 ((qmc l).1:Int),.slice A n c])∧OwB w' W.heap.size A n c (qmc l).2∧Below W.heap.size W w':=by
 have hr:Tryz.f96.results= #[.tmp 2,.tmp 3]:=by kernel_rfl
 have K2:Hid (Calls Tryz.prog 116 #[.int .i64 2,v] W (AsB 2 l W)):=qod 2 (by decide) l v W hR hi hl;have KA:Hid (∀w,Below W.heap.size W w->∀k:Nat,k<4->Calls Tryz.prog 116 #[.int .i64 (k:Int),v] w (AsB k l w)):=fun w hw k hk=>qod k hk l v w (hR.on hw) hi hl;obtain ⟨x2,ad⟩:∃x,asV 2 l=some x:=⟨_,by unfold asV;rw [if_neg (by omega)];rfl⟩;have H2:=Lib.hid ad;obtain ⟨A,c,rfl,_⟩:=hR;clear hi hl ad;go_enter Tryz.func96,Tryz.ntmps96;go_wp2_with fail;refine K2.out.mono ?_;rintro e w1 ⟨b1,rfl,al,ak,_⟩;obtain ⟨A1,n1,c1,rfl,hO⟩:=(ak x2 H2.out).ob;have HO:=Lib.hid hO;have HB:=Lib.hid al;rw [H2.out];clear al ak hO K2;go_wp2_with fail
 go_loopw [4,5,8,9,10,18] (fun kv bv _ _ _ iv wl=>∃(j k:Nat) (A1:Option Addr) (n1 c1:Nat),j<=3∧iv=.int .i64 (j:Int)∧kv=.int .i64 (k:Int)∧bv=.slice A1 n1 c1∧Hid (k=(qey l j).1)∧Hid (OwB wl W.heap.size A1 n1 c1 (qey l j).2)∧Hid (Below W.heap.size W wl)∧Hid (∀i,i<3->wl.cell? ⟨w1.heap.size,i,none⟩=some (.int .i64 (qhF i:Int)))∧Hid (w1.heap.size<wl.heap.size))
  (fun _ _ _ _ _ iv _=>3-(intOf iv).toNat)
 case atStart=>
  refine ⟨0,2,A1,n1,c1,by omega,rfl,rfl,rfl,rfl, ?_, ?_, ?_, ?_⟩
  ·show OwB _ _ _ _ _ _;have e:(qey l 0).2=x2:=(by unfold qey;rw [H2.out];rfl);rw [e];exact ⟨HO.out.1.alloc _,HO.out.2⟩
  ·exact HB.out.alloc HB.out.size _
  ·intro i hi
   match i,hi with
   |0,_=>exact qf8 w1 3 1 0 _ 0
   |1,_=>exact qf8 w1 3 1 0 _ 1
   |2,_=>exact qf8 w1 3 1 0 _ 2
  ·show _<_;simp
 case round =>
  obtain ⟨j,k1,A1,n1,c1,hj,rfl,rfl,rfl,HK,HO,HB,HC,HS⟩:=hrel;by_cases hlt:j<3
  ·have i1 : (j : Int) < 3 := by omega
   obtain ⟨k,hk⟩:∃k,k=qhF j:=⟨_,rfl⟩;have hc:=HC.out j hlt;rw [<-hk] at hc;have KK:Hid (Calls Tryz.prog 116 #[.int .i64 (k:Int),.slice A l.length c] wr (AsB k l wr)):=KA.out wr HB.out k (by rw [hk];exact qoy j);have HN:Hid (qey l (j+1)=qaN l (qey l j) k):=(by show _=_;rw [hk];exact qi9 l hlt);have ag:Hid (∀w,Below wr.heap.size wr w->(∀i,i<3->w.cell? ⟨w1.heap.size,i,none⟩=some (.int .i64 (qhF i:Int)))∧w1.heap.size<w.heap.size):=fun w hw=>⟨fun i hi=>(hw.cell HS.out).trans (HC.out i hi),Nat.lt_of_lt_of_le HS.out hw.size⟩;have ae:=HO.out.2;obtain ⟨s,hs⟩:∃s,s=qey l j:=⟨_,rfl⟩;rw [<-hs] at HK HO HN ae;clear hk hs HC HS;cases hq:asV k l with
   | none =>
     have HE:=Lib.hid (qlT (s:=s) hq);have HQ:=Lib.hid hq;clear hq ae;go_wp2_with fail;refine KK.out.mono ?_;rintro e w2 ⟨b2,rfl,aa,_,h0⟩;have e0:=h0 HQ.out;subst e0;rw [HQ.out];have ac:=Lib.hid aa;clear aa h0 KK;go_wp2_with fail;go_roundw
     case rel=>exact ⟨j+1,k1,A1,n1,c1,by omega,by go_num,rfl,rfl,by show _=_;rw [HN.out,HE.out];exact HK.out,by show OwB _ _ _ _ _ _;rw [HN.out,HE.out];exact ⟨HO.out.1.below ac.out,HO.out.2⟩,HB.out.trans (ac.out.mono HB.out.size),(ag.out _ ac.out).1,(ag.out _ ac.out).2⟩
     case measure=>simp [intOf];omega
   | some x =>
     have aj:=HK.out;by_cases h1:x.length<n1
     ·have HE:=Lib.hid (qiq (s:=s) hq (.inl (by rw [<-ae];exact h1)));have HQ:=Lib.hid hq;clear hq aj;go_wp2_with fail;refine KK.out.mono ?_;rintro e w2 ⟨b2,rfl,aa,ad,_⟩;obtain ⟨A2,n2,c2,rfl,ab⟩:=(ad x HQ.out).ob;rw [HQ.out];have af:=HB.out.trans (aa.mono HB.out.size);have ai:Hid (OwB w2 W.heap.size A2 n2 c2 x):=⟨ab.1.lower HB.out.size,ab.2⟩;have ac:=Lib.hid aa;have ah:=Lib.hid af;have g1:(n2:Int)<(n1:Int):=(by have :=ab.2;omega);clear aa af ab ad KK h1 ae;go_wp2_with fail;go_roundw
      case rel=>exact ⟨j+1,k,A2,n2,c2,by omega,by go_num,rfl,rfl,by show _=_;rw [HN.out,HE.out],by show OwB _ _ _ _ _ _;rw [HN.out,HE.out];exact ai.out,ah.out,(ag.out _ ac.out).1,(ag.out _ ac.out).2⟩
      case measure=>simp [intOf];omega
     ·by_cases h2:x.length=n1
      ·by_cases h3:k<k1
       ·have HE:=Lib.hid (qiq (s:=s) hq (.inr ⟨by rw [<-ae];exact h2,by rw [<-aj];exact h3⟩));have HQ:=Lib.hid hq;clear hq aj;go_wp2_with fail;refine KK.out.mono ?_;rintro e w2 ⟨b2,rfl,aa,ad,_⟩;obtain ⟨A2,n2,c2,rfl,ab⟩:=(ad x HQ.out).ob;rw [HQ.out];have af:=HB.out.trans (aa.mono HB.out.size);have ai:Hid (OwB w2 W.heap.size A2 n2 c2 x):=⟨ab.1.lower HB.out.size,ab.2⟩;have ac:=Lib.hid aa;have ah:=Lib.hid af;have g1:¬(n2:Int)<(n1:Int):=(by have :=ab.2;omega);have g2:((n2:Int)==(n1:Int))=true:=(by have :=ab.2;simp;omega);have g3:(k:Int)<(k1:Int):=(by omega);clear aa af ab ad KK h1 ae h2 h3;go_wp2_with fail;go_roundw
        case rel=>exact ⟨j+1,k,A2,n2,c2,by omega,by go_num,rfl,rfl,by show _=_;rw [HN.out,HE.out],by show OwB _ _ _ _ _ _;rw [HN.out,HE.out];exact ai.out,ah.out,(ag.out _ ac.out).1,(ag.out _ ac.out).2⟩
        case measure=>simp [intOf];omega
       ·have HE:=Lib.hid (qlZ (s:=s) hq (by rintro (h|⟨_,h⟩);exact h1 (by rw [ae];exact h);exact h3 (by rw [aj];exact h)));have HQ:=Lib.hid hq;clear hq aj;go_wp2_with fail;refine KK.out.mono ?_;rintro e w2 ⟨b2,rfl,aa,ad,_⟩;obtain ⟨A2,n2,c2,rfl,ab⟩:=(ad x HQ.out).ob;rw [HQ.out];have af:=HB.out.trans (aa.mono HB.out.size);have ai:Hid (OwB w2 W.heap.size A1 n1 c1 s.2):=⟨HO.out.1.below aa,HO.out.2⟩;have ac:=Lib.hid aa;have ah:=Lib.hid af;have g1:¬(n2:Int)<(n1:Int):=(by have :=ab.2;omega);have g2:((n2:Int)==(n1:Int))=true:=(by have :=ab.2;simp;omega);have g3:¬(k:Int)<(k1:Int):=(by omega);clear aa af ab ad KK h1 ae h2 h3;go_wp2_with fail;go_roundw
        case rel=>exact ⟨j+1,k1,A1,n1,c1,by omega,by go_num,rfl,rfl,by show _=_;rw [HN.out,HE.out];exact HK.out,by show OwB _ _ _ _ _ _;rw [HN.out,HE.out];exact ai.out,ah.out,(ag.out _ ac.out).1,(ag.out _ ac.out).2⟩
        case measure=>simp [intOf];omega
      ·have HE:=Lib.hid (qlZ (s:=s) hq (by rintro (h|⟨h,_⟩);exact h1 (by rw [ae];exact h);exact h2 (by rw [ae];exact h)));have HQ:=Lib.hid hq;clear hq aj;go_wp2_with fail;refine KK.out.mono ?_;rintro e w2 ⟨b2,rfl,aa,ad,_⟩;obtain ⟨A2,n2,c2,rfl,ab⟩:=(ad x HQ.out).ob;rw [HQ.out];have af:=HB.out.trans (aa.mono HB.out.size);have ai:Hid (OwB w2 W.heap.size A1 n1 c1 s.2):=⟨HO.out.1.below aa,HO.out.2⟩;have ac:=Lib.hid aa;have ah:=Lib.hid af;have g1:¬(n2:Int)<(n1:Int):=(by have :=ab.2;omega);have g2:((n2:Int)==(n1:Int))=false:=(by have :=ab.2;simp;omega);clear aa af ab ad KK h1 ae h2;go_wp2_with fail;go_roundw
       case rel=>exact ⟨j+1,k1,A1,n1,c1,by omega,by go_num,rfl,rfl,by show _=_;rw [HN.out,HE.out];exact HK.out,by show OwB _ _ _ _ _ _;rw [HN.out,HE.out];exact ai.out,ah.out,(ag.out _ ac.out).1,(ag.out _ ac.out).2⟩
       case measure=>simp [intOf];omega
  ·have am:j=3:=(by omega);have e:qey l j=qmc l:=(by rw [am];rfl);rw [e] at HO HK;have i1:¬(j:Int)<3:=(by omega);clear hj hlt am e HC HS;go_wp2_with fail;refine bodyPost_ret (v:=.tuple #[.int .i64 (k1:Int),.slice A1 n1 c1]) ?_ rfl ⟨A1,n1,c1,by rw [HK.out],HO.out,HB.out⟩;unfold results;rw [hr]
   go_simp
theorem qef (l:List Int) (v:Value) (W:World) (hR:RdG EI W W.heap.size v l) (hi:∀x ∈ l,In64 x) (hl:l.length<=4096):
  Calls Tryz.prog 63 #[v] W fun e w'=>∃A n c,e=.returned (.slice A n c)∧OwB w' W.heap.size A n c (encV l)∧Below W.heap.size W w':=by
 have KB:=Lib.hid (qkQ l v W hR hi hl);obtain ⟨A,c,rfl,_⟩:=hR;clear hi hl;go_enter Tryz.func63,Tryz.ntmps63;go_wp2_with fail;refine KB.out.mono ?_;rintro e w1 ⟨A1,n1,c1,rfl,hO,hB⟩;have HO:=Lib.hid hO;have HB:=Lib.hid hB;clear hO hB KB;go_wp2_with fail;go_ret;exact ⟨A1,n1,c1,rfl,HO.out,HB.out⟩
def TabT (w:World):Prop:=∀i,i<19->w.cell? ⟨0,i,none⟩=some (.int .i64 ((10^i:Nat):Int))
theorem TabT.below {w w':World} (h:TabT w) (k:Below w.heap.size w w'):TabT w':=fun i hi=>by
 have hc:=h i hi;exact (k.cell (qaa hc)).trans hc
theorem qox {d:Nat} (h:d<=18):1<=10^d∧10^d<=1000000000000000000∧1000000000000000000/10^d*10^d=1000000000000000000:=by
 have h:∀d,d<=18->1<=10^d∧10^d<=1000000000000000000∧1000000000000000000/10^d*10^d=1000000000000000000:=by decide
 exact h d ‹_›
theorem qlR (m x s e:Int) (W:World) (hT:TabT W) (hm: -1000000000000000000<=m∧m<=1000000000000000000) (hx: -1000000<=x∧x<=1000000) (he: -1000000<=e∧e<=1000000):
  Calls Tryz.prog 95 #[.agg #[.int .i64 m,.int .i64 x,.int .i64 s],.int .i64 e] W fun r w'=>r=.returned (.bool (fitB e (m,x,s)))∧Ext W w':=by
 obtain ⟨W1,ab⟩:∃W1,W1=W.alloc (.cells #[.int .i64 m,.int .i64 x,.int .i64 s] 64):=⟨_,rfl⟩;have hE:Ext W W1:=by rw [ab];exact (Ext.refl W).alloc _
 have c0:W1.cell? ⟨W.heap.size,0,none⟩=some (.int .i64 m):=by rw [ab];exact qak W _ _ 0
 have c1:W1.cell? ⟨W.heap.size,1,none⟩=some (.int .i64 x):=by rw [ab];exact qak W _ _ 1
 have HT:=Lib.hid (hT.below hE.below);have HE:=Lib.hid hE;clear hE hT;by_cases h1:e<=x
 ·obtain ⟨d,ae⟩:∃d:Nat,x-e=(d:Int):=⟨(x-e).toNat,by omega⟩;by_cases h2:d<=18
  ·obtain ⟨td,ad⟩:∃t,t=10^d:=⟨_,rfl⟩;obtain ⟨q1,q2,q3⟩:=qox h2;rw [<-ad] at q1 q2 q3;have ct:W1.cell? ⟨0,d,none⟩=some (.int .i64 (td:Int)):=(by rw [HT.out d (by omega),ad]);have ct18:W1.cell? ⟨0,18,none⟩=some (.int .i64 1000000000000000000):=HT.out 18 (by omega);obtain ⟨qq,ac⟩:∃q,q=1000000000000000000/td:=⟨_,rfl⟩;rw [<-ac] at q3;have f1:(1000000000000000000:Int).tdiv (td:Int)=(qq:Int):=by
    rw [Int.tdiv_eq_ediv_of_nonneg (by omega),ac,Int.natCast_ediv];rfl
   have f2:(1000000000000000000:Int).tmod (td:Int)=0:=by
    rw [Int.tmod_eq_emod_of_nonneg (by omega)];have e2:(1000000000000000000:Int)=((qq*td:Nat):Int):=(by omega);rw [e2,Int.natCast_mul,Int.mul_emod_left]
   have f3:(1000000000000000000:Int)/(td:Int)=(qq:Int):=(by rw [ac,Int.natCast_ediv];rfl);have f4:(1000000000000000000:Int)%(td:Int)=0:=(by rw [<-Int.tmod_eq_emod_of_nonneg (by omega)];exact f2);have hS:=qli m hm;obtain ⟨a,ha⟩:∃a,a=m.natAbs:=⟨_,rfl⟩;have aa:fitB e (m,x,s)=decide (a<qq):=by
    unfold fitB;simp only;rw [show (x-e).toNat=d by omega,<-ha,<-ad];have h9:=qk6 (m:=a) h2;rw [<-ad,f3] at h9;rw [show decide (e<=x∧x-e<=18)=true by simp;omega,Bool.true_and];exact decide_eq_decide.2 (by rw [<-h9];omega)
   have KS:Hid (∀n,Calls Tryz.prog 115 #[.int .i64 m] (W1.drewN n) fun r w'=>r=.returned (.int .i64 (a:Int))∧W1.drewN n=w'):=fun n=>(hS (W1.drewN n)).mono fun r w' ⟨h1,h2⟩=>⟨by rw [h1,ha],h2.symm⟩;rw [aa];have i1:(d:Int)≥0:=(by omega);have i2:(d:Int)<=18:=(by omega);have i3:(d:Int)<19:=(by omega);have i4:((td:Int)==0)=false:=(by simp;omega);have af:qq<=1000000000000000000:=(by rw [ac];exact Nat.div_le_self _ _);have i5:IntKind.i64.wrap ((qq:Int)+0)=(qq:Int):=(by rw [Int.add_zero];exact IntWalk.i64_in _ (by omega));have i6:IntKind.i64.wrap (qq:Int)=(qq:Int):=IntWalk.i64_in _ (by omega);clear aa ac ad q3 ha hS hm;go_enter Tryz.func95,Tryz.ntmps95;go_wp2_with fail;rw [<-ab];clear ab;go_wp2_with fail
   go_quiet ((go_at_call 115;exact qff (KS.out _)))
   go_wp2_with fail;go_ret;exact ⟨rfl,HE.out.drewN _⟩
  ·have aa:fitB e (m,x,s)=false:=by
    unfold fitB;simp only;rw [show decide (e<=x∧x-e<=18)=false by simp;omega,Bool.false_and]
   rw [aa];have i1:(d:Int)≥0:=(by omega);have i2:decide ((d:Int)<=18)=false:=(by simp;omega);clear aa;go_enter Tryz.func95,Tryz.ntmps95;go_wp2_with fail;rw [<-ab];clear ab;go_wp2_with fail
   go_quiet (fail)
   go_wp2_with fail;go_ret;exact ⟨rfl,HE.out.drewN _⟩
 ·have aa:fitB e (m,x,s)=false:=by
   unfold fitB;simp only;rw [show decide (e<=x∧x-e<=18)=false by simp;omega,Bool.false_and]
  rw [aa];have i1:decide ((0:Int)<=x-e)=false:=by simp;omega
  have i2:decide (e<=x)=false:=by simp;omega
  clear aa;go_enter Tryz.func95,Tryz.ntmps95;go_wp2_with fail;rw [<-ab];clear ab;go_wp2_with fail
  go_quiet (fail)
  go_wp2_with fail;go_ret;exact ⟨rfl,HE.out.drewN _⟩
theorem qgn {α :Type} {a b:List α} {k:Nat} (ha:k<a.length) (hb:k<b.length) (h:a.take k=b.take k):(a.take (k+1)=b.take (k+1))↔a[k]=b[k]:=by
 rw [List.take_succ_eq_append_getElem ha,List.take_succ_eq_append_getElem hb,h];exact ⟨fun e=>List.cons.inj (List.append_cancel_left e) |>.1,fun e=>by rw [e]⟩
theorem qhD (va vb:Value) (a b:List Nat) (W:World) (hRa:RdG EB W W.heap.size va a) (hRb:RdG EB W W.heap.size vb b) (hl:a.length<=1000000000):
  Calls Tryz.prog 74 #[va,vb] W fun e w'=>e=.returned (.bool (decide (a=b)))∧Ext W w':=by
 obtain ⟨A,ca,rfl,ah,_,hA⟩:=hRa;obtain ⟨B,cb,rfl,ag,_,hB⟩:=hRb;have HA:=Lib.hid hA;have HB:=Lib.hid hB;obtain ⟨q,hq⟩:∃q,q=decide (a=b):=⟨_,rfl⟩;have HQ:Hid (q=decide (a=b)):=hq;rw [<-hq];obtain ⟨n,hn⟩:∃n,n=a.length:=⟨_,rfl⟩;obtain ⟨m,hm⟩:∃m,m=b.length:=⟨_,rfl⟩;rw [<-hn] at hl ⊢;rw [<-hm];have HN:Hid (n=a.length):=hn;have HM:Hid (m=b.length):=hm;clear hq hA hB ah ag hn hm;by_cases hnm:n=m
 ·subst hnm;have g0:(((n:Int)) != (n:Int))=false:=by simp
  go_enter Tryz.func74,Tryz.ntmps74;go_wp2_with fail
  go_loopw [5,13] (fun _ i wl=>∃k:Nat,k<=n∧i=.int .i64 k∧Hid (a.take k=b.take k)∧Hid (Ext W wl))
   (fun _ i _=>n-(intOf i).toNat)
  case atStart=>exact ⟨0,Nat.zero_le _,rfl,rfl,Ext.refl _⟩
  case round=>
   obtain ⟨k,hk,rfl,HT,HE⟩:=hrel;by_cases hlt:k<n
   ·have ab:k<a.length:=(by rw [<-HN.out];exact hlt);have aa:k<b.length:=(by rw [<-HM.out];exact hlt);rcases HA.out with h0|⟨b1,o1,e,aj,ad⟩
    ·subst h0;simp at ab
    rcases HB.out with h0|⟨b2,o2,e',ai,ac⟩
    ·subst h0;simp at aa
    subst e e';obtain ⟨x,hx⟩:∃x,x=a[k]:=⟨_,rfl⟩;obtain ⟨y,hy⟩:∃y,y=b[k]:=⟨_,rfl⟩;have c0:wr.cell? ⟨b1,o1+k,none⟩=some (.int .u8 (x:Int)):=by
     have :=qdX.1 (ad k ab);rw [<-hx] at this;rw [HE.out.cell aj];simpa [EB] using this
    have c1:wr.cell? ⟨b2,o2+k,none⟩=some (.int .u8 (y:Int)):=by
     have :=qdX.1 (ac k aa);rw [<-hy] at this;rw [HE.out.cell ai];simpa [EB] using this
    have HF:Hid ((a.take (k+1)=b.take (k+1))↔x=y):=(by rw [hx,hy];exact qgn ab aa HT.out);have i1:(k:Int)<(n:Int):=(by omega);have i0:(0:Int)<=(k:Int):=(by omega);clear ab aa ad ac hx hy;by_cases hxy:x=y
    ·have g:((x:Int) != (y:Int))=false:=(by simp [hxy]);have ak:=Lib.hid hxy;clear hxy;go_wp2_with fail
     go_quiet (fail)
     go_wp2_with fail;go_roundw
     case rel=>exact ⟨k+1,by omega,by go_num,HF.out.2 ak.out,HE.out.drewN _⟩
     case measure=>simp [intOf];omega
    ·have g:((x:Int) != (y:Int))=true:=(by simp;omega);have ae:q=false:=by
      rw [HQ.out,decide_eq_false_iff_not];intro e;exact hxy (HF.out.1 (by rw [e]))
     subst ae;clear hxy;go_wp2_with fail
     go_quiet (fail)
     go_wp2_with fail;go_ret;exact ⟨rfl,HE.out.drewN _⟩
   ·have af:k=n:=(by omega);have i1:¬(k:Int)<(n:Int):=(by omega);have ae:q=true:=by
     have h:=HT.out;rw [af] at h;rw [HQ.out,decide_eq_true_eq];have e1:a.take n=a:=(by rw [HN.out,List.take_length]);have e2:b.take n=b:=(by rw [HM.out,List.take_length]);rw [e1,e2] at h;exact h
    subst ae;clear hk hlt af;go_wp2_with fail;go_ret;exact ⟨rfl,HE.out⟩
 ·have g0:(((n:Int)) != (m:Int))=true:=by simp;omega
  have ae:q=false:=by
   rw [HQ.out,decide_eq_false_iff_not];intro e;apply hnm;rw [HN.out,HM.out,e]
  subst ae;clear hnm;go_enter Tryz.func74,Tryz.ntmps74;go_wp2_with fail;go_ret;exact ⟨rfl,Ext.refl _⟩
def strB (l:List Nat):ByteArray:=strOfNums (List.map (fun n:Nat=>(n:Int)) l)
theorem qmx {a b:List Nat} (ha:∀c ∈ a,c<256) (hb:∀c ∈ b,c<256):strB a=strB b↔a=b:=by
 constructor
 ·intro h;have h1:=congrArg (fun s:ByteArray=>s.data.toList) h;simp only [strB,strOfNums_data] at h1;rw [List.map_map,List.map_map] at h1
  have key : ∀ (a b : List Nat), (∀ c ∈ a, c < 256) -> (∀ c ∈ b, c < 256) -> a.map ((fun n : Int => UInt8.ofNat n.toNat) ∘ fun n : Nat => (n : Int)) = b.map ((fun n : Int => UInt8.ofNat n.toNat) ∘ fun n : Nat => (n : Int)) -> a = b := by
   intro a
   induction a with
   | nil => intro b _ _ h; cases b with
     |nil=>rfl
     |cons y b=>simp at h
   | cons x a ih =>
     intro b ha hb h;cases b with
     |nil=>simp at h
     | cons y b =>
       rw [List.map_cons,List.map_cons] at h;injection h with h1 h2;have h3:=congrArg UInt8.toNat h1;simp only [Function.comp,Int.toNat_natCast,UInt8.toNat_ofNat'] at h3;have hx:=ha x List.mem_cons_self;have hy:=hb y List.mem_cons_self;have e:x=y:=(by omega);rw [e,ih b (fun c hc=>ha c (List.mem_cons_of_mem _ hc)) (fun c hc=>hb c (List.mem_cons_of_mem _ hc)) h2]
  exact key a b ha hb h1
 ·rintro rfl;rfl
theorem qiD {w:World} {B:Nat} {v:Value} {l:List Nat} (h:RdG EB w B v l):(convert 23 9 v).run Tryz.prog w=.ok (.string (strB l)) w:=by
 obtain ⟨A,c,rfl,hc,hn,hA⟩:=h;by_cases h0:l=[]
 ·subst h0;rw [show ([]:List Nat).length=0 from rfl];rw [run_convert_bytes_string w 23 9 5 _ 0 c Tryz.underlying23 Tryz.underlying5 Tryz.underlying9];cases A<;>simp [Conv.bytesToString,loadCells,loadCellsFrom]<;>rfl
 ·rcases hA with h1|⟨b,o,rfl,hb,aa⟩
  ·exact absurd h1 h0
  ·refine run_convert_bytes_arg w 23 5 Tryz.underlying23 Tryz.underlying5 b o l.length c _ (by simp) (fun i hi=> ?_) 9 Tryz.underlying9;have :=qdX.1 (aa i hi);rw [List.getD_eq_getElem?_getD,List.getElem?_map,List.getElem?_eq_getElem hi];simpa [EB] using this
theorem qgL (va vb:Value) (a b:List Nat) (W:World) (hRa:RdG EB W W.heap.size va a) (hRb:RdG EB W W.heap.size vb b) (ha:∀c ∈ a,c<256) (hb:∀c ∈ b,c<256):
  Calls Tryz.prog 44 #[va,vb] W fun e w'=>e=.returned (.bool (decide (a=b)))∧w'=W:=by
 have h1:=qiD hRa;have h2:=qiD hRb;have hi:=qmx ha hb;obtain ⟨A,ca,rfl,_⟩:=hRa;obtain ⟨B,cb,rfl,_⟩:=hRb;obtain ⟨s,hs⟩:∃s,s=strB a:=⟨_,rfl⟩;obtain ⟨t,ht⟩:∃s,s=strB b:=⟨_,rfl⟩;rw [<-hs] at h1 hi;rw [<-ht] at h2 hi;have HI:=Lib.hid hi;clear hi ha hb hs ht;go_enter Tryz.func44,Tryz.ntmps44;go_wp2_with fail;go_ret;refine ⟨qao ?_,rfl⟩;rw [Lib.toList_data,Lib.toList_data];by_cases e:a=b
 ·have h:=HI.out.2 e;subst h;simp [e]
 ·have h:(s.data.toList==t.data.toList)=false:=by
   rw [beq_eq_false_iff_ne];exact fun h=>e (HI.out.1 (by cases s;cases t;simpa using h))
  rw [h];simp [e]
theorem qke (n:Nat) (W:World) (hn:0<n) (hl:n<=140737488355328):
  Calls Tryz.prog 68 #[.slice none 0 0,.int .i64 (n:Int)] W fun e w'=>∃v',e=.returned v'∧OwnG EB 5 w' W.heap.size v' []∧Below W.heap.size W w':=by
 obtain ⟨i,hi,af,aj,aa⟩:=qbz qct;have ae:0+n=n:=by omega
 have hold:(Builtin.firstCells i.size 0 (.slice none 0 0)).run Tryz.prog W.drew=.ok (#[]:Array Value) W.drew:=run_firstCells_none W.drew i.size 0 0 0;have ad:∀ty,(Builtin.append_ #[23,3] ty #[.slice none 0 0,.int .i64 (n:Int)]).run Tryz.prog W=
   .ok (.slice (some ⟨W.heap.size,0,none⟩) n (grownCap W n 0 5)) (W.drew.alloc (.cells ((#[]:Array Value)++Builtin.zeroCells (Value.int .u8 0).cells n++Builtin.zeroCells (Value.int .u8 0).cells (grownCap W n 0 5-n)) 5)):=fun ty=>by
  have h:=Lib.run_append_grow_zeros W 23 3 ty 5 i (.int .u8 0) .i64 .i64 Tryz.underlying23 Tryz.underlying3 hi af none 0 0 [] hold n hn (by omega) (by omega) (by omega) (by rw [aa];omega) (by rw [ae,aa];exact growslice_fits hn (by omega));rw [ae] at h;exact h
 have ah:n<=grownCap W n 0 5:=grownCap_ge W _ _ _;have ac:=grownCap_le_maxLen W n 0 5 (by unfold maxLen;omega);obtain ⟨G,hG⟩:∃G,G=grownCap W n 0 5:=⟨_,rfl⟩;rw [<-hG] at ad ah ac;obtain ⟨cs,ab⟩:∃cs,cs=(#[]:Array Value)++Builtin.zeroCells (Value.int .u8 0).cells n++Builtin.zeroCells (Value.int .u8 0).cells (G-n):=⟨_,rfl⟩;have ag:cs.size=G*1:=by rw [ab];simp [Builtin.zeroCells,Value.cells];omega
 rw [<-ab] at ad;have hO:OwnG EB 5 (W.drew.alloc (.cells cs 5)) W.heap.size (.slice (some ⟨W.heap.size,0,none⟩) 0 G) []:=World.ownsRow_made W.drew cs G (Nat.le_refl _) ac ag;have HO:=Lib.hid hO;have HE:Hid (Ext W (W.drew.alloc (.cells cs 5))):=((Ext.refl W).drewN _).alloc _;have h1:¬((n:Int)<0):=by omega
 have h4:(n:Int)>0:=by omega
 have ai:G<=9223372036854775807:=by unfold maxLen at ac;omega
 clear hold ae hG ab ag hO hi af aj aa;go_enter Tryz.func68,Tryz.ntmps68;go_wp2_with (at_builtin;refine Lib.wpList_append_run _ rfl _ _ _ _ rfl _ _ rfl rfl _ _ (ad _) ?_);go_ret;exact ⟨_,rfl,HO.out,HE.out.below⟩
theorem qcT {ls:List (List Nat)} {k:Nat} (h:k<ls.length):(ls.take (k+1)).flatten=(ls.take k).flatten++ls[k]:=by
 rw [List.take_succ_eq_append_getElem h,List.flatten_append,List.flatten_singleton]
theorem qdv (ls:List (List Nat)) (k:Nat):(ls.take k).flatten.length<=ls.flatten.length:=by
 have :ls.flatten=(ls.take k).flatten++(ls.drop k).flatten:=by rw [<-List.flatten_append,List.take_append_drop]
 rw [this,List.length_append];omega
theorem qh1 (g o c n:Nat) (ls:List (List Nat)) (W:World) (hn:n=ls.length) (hn1:n<=1000000) (hcl:∀i (h:i<ls.length),∃v,W.cell? ⟨g,o+i,none⟩=some v∧RdG EB W W.heap.size v ls[i]) (hg:g<W.heap.size) (h0:0<ls.flatten.length) (hl:ls.flatten.length<=1000000000):
  Calls Tryz.prog 37 #[.slice (some ⟨g,o,none⟩) n c] W fun e w'=>∃v',e=.returned v'∧OwnG EB 5 w' W.heap.size v' ls.flatten∧Below W.heap.size W w':=by
 have HN:=Lib.hid hn;have HC:=Lib.hid hcl;have H0:=Lib.hid h0;have HL:=Lib.hid hl;have HG:=Lib.hid hg;clear hn hcl h0 hl hg;go_enter Tryz.func37,Tryz.ntmps37;go_wp2_with fail
 go_loopw [3,5,11] (fun s _ i wl=>∃k:Nat,k<=n∧i=.int .i64 k∧(∃m:Nat,s=.int .i64 m∧Hid (m=(ls.take k).flatten.length))∧W=wl)
  (fun _ _ i _=>n-(intOf i).toNat)
 case atStart=>exact ⟨0,Nat.zero_le _,rfl,⟨0,rfl,rfl⟩,rfl⟩
 case round =>
  obtain ⟨k,hk,rfl,⟨m,rfl,HM⟩,rfl⟩:=hrel;by_cases hlt:k<n
  ·have aa:k<ls.length:=(by rw [<-HN.out];exact hlt);obtain ⟨v,c0,hv⟩:=HC.out k aa;have HF:=Lib.hid (qcT aa);have HT:=Lib.hid (qdv ls (k+1));obtain ⟨r,hr⟩:∃r,r=ls[k].length:=⟨_,rfl⟩;obtain ⟨A,c2,rfl,_⟩:=hv;rw [<-hr] at c0;have HR:=Lib.hid hr;have hm:m+r<=1000000000:=by
    have h1:=HM.out;have h2:=HF.out;have h3:=HT.out;have h4:=HL.out;rw [h2,List.length_append] at h3;omega
   have i1:(k:Int)<(n:Int):=(by omega);have s0:IntKind.i64.wrap ((m:Int)+(r:Int))=((m+r:Nat):Int):=by
    rw [show (m:Int)+(r:Int)=((m+r:Nat):Int) by omega];exact qfJ (by unfold In64;omega)
   have i2:¬((m+r:Nat):Int)<0:=(by omega);clear hr;go_wp2_with fail;go_roundw
   case rel=>exact ⟨k+1,by omega,by go_num,⟨m+r,by go_num,by unfold Hid;rw [HF.out,List.length_append,<-HR.out,<-HM.out]⟩,trivial⟩
   case measure=>simp [intOf];omega
  ·have ac:k=n:=(by omega);have ae:m=ls.flatten.length:=(by rw [HM.out,ac,HN.out,List.take_length]);have KG:=Lib.hid (qke m W (by rw [ae];exact H0.out) (by have :=HL.out;omega));have i1:¬(k:Int)<(n:Int):=(by omega);clear ae HM;go_wp2_with fail;refine KG.out.mono ?_;rintro e w1 ⟨v1,rfl,hO,hB⟩;have HO:=Lib.hid hO;have HB:=Lib.hid hB;clear hO hB KG;go_wp2_with fail
   go_loopw [6,8,27] (fun s _ i wl=>∃k:Nat,k<=n∧i=.int .i64 k∧Hid (OwnG EB 5 wl W.heap.size s (ls.take k).flatten)∧Hid (Below W.heap.size W wl))
    (fun _ _ i _=>n-(intOf i).toNat)
   case atStart=>exact ⟨0,Nat.zero_le _,rfl,HO,HB⟩
   case round=>
    obtain ⟨k,hk,rfl,HO,HB⟩:=hrel;by_cases hlt:k<n
    ·have aa:k<ls.length:=(by rw [<-HN.out];exact hlt);obtain ⟨v,c0,hv⟩:=HC.out k aa;have c1:=(HB.out.cell HG.out).trans c0;have HV:Hid (RdG EB wr wr.heap.size v ls[k]):=hv.on HB.out;have HF:=Lib.hid (qcT aa);have HT:Hid ((ls.take k).flatten.length+ls[k].length<=1000000000):=by
      have h1:=qdv ls (k+1);have h2:=HL.out;rw [HF.out,List.length_append] at h1;exact Nat.le_trans h1 h2
     have HZ:=Lib.hid HB.out.size;have i1:(k:Int)<(n:Int):=(by omega);clear hv c0;go_wp2_with (first|(at_builtin;refine qhS EB rfl _ _ 23 5 rfl Tryz.underlying23 qct rfl (by decide) W.heap.size _ _ _ _ wr.heap.size rfl HO.out rfl HV.out ?c1 ?c2 ?_)|fail)
     case c1=>have :=HT.out;omega
     case c2=>exact HZ.out
     intro v' w3 ab hg ad ah;have af:Hid (OwnG EB 5 w3 W.heap.size v' (ls.take (k+1)).flatten):=(by rw [HF.out];exact ab);have ag:Hid (Below W.heap.size W w3):=HO.out.step HB.out HB.out.size hg;clear ab hg ad ah;go_wp2_with fail;go_roundw
     case rel=>exact ⟨k+1,by omega,by go_num,af,ag⟩
     case measure=>simp [intOf];omega
    ·have ac:k=n:=(by omega);have HA:Hid ((ls.take k).flatten=ls.flatten):=(by unfold Hid;rw [ac,HN.out,List.take_length]);have i1:¬(k:Int)<(n:Int):=(by omega);go_wp2_with fail;go_ret;exact ⟨_,rfl,HA.out▸HO.out,HB.out⟩
theorem qew (v : Value) (l : List Val) (W : World) (hR : RdG EV W W.heap.size v l) (hn : l.length <= 1000000) :
  Calls Tryz.prog 91 #[v] W fun e w'=>e=.returned (.int .i64 (qah l).1)∧w'=W:=by
 obtain ⟨A,c,rfl,hc,_,hA⟩:=hR;obtain ⟨n,ac⟩:∃n,n=l.length:=⟨_,rfl⟩;rw [<-ac] at hc hn ⊢;have HN:=Lib.hid ac;have HA:=Lib.hid hA;clear ac hA;go_enter Tryz.func91,Tryz.ntmps91;go_wp2_with fail
 go_loopw [3,4,5] (fun e f i wl=>∃(k:Nat) (x:Int) (q:Bool),k<=n∧i=.int .i64 k∧e=.int .i64 x∧f=.bool q∧Hid (qah (l.take k)=(x, !q))∧wl=W) (fun _ _ i _=>n-(intOf i).toNat)
 case atStart=>exact ⟨0,0,true,Nat.zero_le _,rfl,rfl,rfl,rfl,rfl⟩
 case round=>
  obtain ⟨k,x,q,hk,rfl,rfl,rfl,HL,rfl⟩:=hrel;by_cases hlt:k<n
  ·have ab : k < l.length := by rw [<- HN.out]; exact hlt
   rcases HA.out with h0|⟨b,o,e,hb,ad⟩
   ·subst h0;simp at ab
   subst e;obtain ⟨y,hy⟩:∃y,y=l[k]:=⟨_,rfl⟩;have aa:=ad k ab;rw [<-hy] at aa;obtain ⟨c0,c1,c2⟩:=qma.1 aa;have hT:qah (l.take (k+1))=qcA (x, !q) y:=(by rw [List.take_succ_eq_append_getElem ab,<-hy,qcL,HL.out]);obtain ⟨m,E,s⟩:=y;have c0:wr.cell? ⟨b,o+k*3,none⟩=some (.int .i64 m):=c0;have c1:wr.cell? ⟨b,o+k*3+1,none⟩=some (.int .i64 E):=c1;have c2:wr.cell? ⟨b,o+k*3+2,none⟩=some (.int .i64 s):=c2;have i1:(k:Int)<(n:Int):=(by omega);clear hy aa ad ab hb;by_cases hs:s=0
   ·subst hs;by_cases hm:m=0
    ·subst hm;have HT:Hid (qah (l.take (k+1))=(x, !q)):=(by show _=_;rw [hT];rfl);clear hT;go_wp2_with fail;go_roundw
     case rel=>exact ⟨k+1,x,q,by omega,by go_num,rfl,rfl,HT.out,by first|trivial|rfl⟩
     case measure=>simp [intOf];omega
    ·have g1:(m==0)=false:=(by simp [hm]);cases q with
     | true =>
       have HT:Hid (qah (l.take (k+1))=(E, !false)):=(by show _=_;rw [hT];simp [qcA,numB,hm]);clear hT;go_wp2_with fail;go_roundw
       case rel=>exact ⟨k+1,E,false,by omega,by go_num,rfl,rfl,HT.out,by first|trivial|rfl⟩
       case measure=>simp [intOf];omega
     | false =>
       by_cases hE:E<x
       ·have HT:Hid (qah (l.take (k+1))=(E, !false)):=(by show _=_;rw [hT];simp [qcA,numB,hm];omega);clear hT;go_wp2_with fail;go_roundw
        case rel=>exact ⟨k+1,E,false,by omega,by go_num,rfl,rfl,HT.out,by first|trivial|rfl⟩
        case measure=>simp [intOf];omega
       ·have HT:Hid (qah (l.take (k+1))=(x, !false)):=(by show _=_;rw [hT];simp [qcA,numB,hm];omega);clear hT;go_wp2_with fail;go_roundw
        case rel=>exact ⟨k+1,x,false,by omega,by go_num,rfl,rfl,HT.out,by first|trivial|rfl⟩
        case measure=>simp [intOf];omega
   ·have g1:(s==0)=false:=(by simp [hs]);have HT:Hid (qah (l.take (k+1))=(x, !q)):=(by show _=_;rw [hT];simp [qcA,numB,hs]);clear hT;go_wp2_with fail;go_roundw
    case rel=>exact ⟨k+1,x,q,by omega,by go_num,rfl,rfl,HT.out,by first|trivial|rfl⟩
    case measure=>simp [intOf];omega
  ·have ae:k=n:=(by omega);have i1:¬(k:Int)<(n:Int):=(by omega);have HE:Hid ((qah l).1=x):=by
    have h:=HL.out;rw [ae,HN.out,List.take_length] at h;show _=_;rw [h]
   go_wp2_with fail;go_ret;exact ⟨by rw [HE.out];rfl,by first|trivial|rfl⟩
def qbB (e:Int) (v:Val):Int×Bool:=if !numB v || fitB e v then (qaI e v,true) else (0,false)
theorem qmJ {m:Int} {j:Nat}:m*10^j*10=m*10^(j+1):=by rw [Int.pow_succ,Int.mul_assoc]
theorem qnv (a j:Nat):a*10^(j+1)=a*10^j*10:=by rw [Nat.pow_succ,Nat.mul_assoc]
theorem qlh (m:Int) (j:Nat):(m*10^j).natAbs=m.natAbs*10^j:=by rw [Int.natAbs_mul,Int.natAbs_pow];rfl
theorem qjn (m x s e : Int) (W : World) (hr : qaH (m, x, s) = true) (he : -1000 <= e ∧ e <= 1000) :
  Calls Tryz.prog 112 #[.agg #[.int .i64 m,.int .i64 x,.int .i64 s],.int .i64 e] W fun r w'=>r=.returned (.tuple #[.int .i64 (qbB e (m,x,s)).1,.bool (qbB e (m,x,s)).2])∧Ext W w':=by
 have aa:Tryz.f112.results= #[.tmp 4,.tmp 5]:=by kernel_rfl
 obtain ⟨W1,ac⟩:∃W1,W1=W.alloc (.cells #[.int .i64 m,.int .i64 x,.int .i64 s] 64):=⟨_,rfl⟩;have hE:Ext W W1:=by rw [ac];exact (Ext.refl W).alloc _
 have c0:W1.cell? ⟨W.heap.size,0,none⟩=some (.int .i64 m):=by rw [ac];exact qak W _ _ 0
 have c1:W1.cell? ⟨W.heap.size,1,none⟩=some (.int .i64 x):=by rw [ac];exact qak W _ _ 1
 have c2:W1.cell? ⟨W.heap.size,2,none⟩=some (.int .i64 s):=by rw [ac];exact qak W _ _ 2
 have HE:=Lib.hid hE;have KR:=Lib.hid (qbk m x s W1);rw [show qau m x s=true from hr] at KR;clear hE;go_enter Tryz.func112,Tryz.ntmps112;go_wp2_with fail;rw [<-ac];clear ac;go_wp2_with fail;refine KR.out.mono ?_;rintro _ w2 ⟨rfl,ae⟩;have ab:Hid (Ext W w2):=HE.out.trans ae;have c0:w2.cell? ⟨W.heap.size,0,none⟩=some (.int .i64 m):=(ae.below.cell (qaa c0)).trans c0;have c1:w2.cell? ⟨W.heap.size,1,none⟩=some (.int .i64 x):=(ae.below.cell (qaa c1)).trans c1;have c2:w2.cell? ⟨W.heap.size,2,none⟩=some (.int .i64 s):=(ae.below.cell (qaa c2)).trans c2;clear ae KR HE;by_cases hs:s=0
 ·subst hs
  by_cases hm:m=0
  ·subst hm;have hv:qbB e (0,x,0)=(0,true):=(by simp [qbB,numB,qaI]);have HV:=Lib.hid hv;clear hv;go_wp2_with fail;refine bodyPost_ret (v:=.tuple #[.int .i64 0,.bool true]) (by unfold results;rw [aa];go_simp) rfl ⟨by rw [HV.out],ab.out⟩
  ·have hn : numB (m, x, 0) = true := by simp [numB, hm]
   obtain ⟨q1,q2,q3,q4,q5,q6,q7⟩:=qcn hr hn;have q1: -1000000000000000<m:=q1;have q2:m<1000000000000000:=q2;have q6:x<=290:=q6;have g1:(m==0)=false:=(by simp [hm]);have ad:fitB e (m,x,0)=false->qbB e (m,x,0)=(0,false):=fun h=>(by simp [qbB,hn,h]);by_cases hE:x<e
   ·have HV:=Lib.hid (ad (by unfold fitB;rw [show decide (e<=x∧x-e<=18)=false by simp;omega,Bool.false_and]));clear ad;go_wp2_with fail;refine bodyPost_ret (v:=.tuple #[.int .i64 0,.bool false]) (by unfold results;rw [aa];go_simp) rfl ⟨by rw [HV.out],ab.out⟩
   ·obtain ⟨d,hd⟩:∃d:Nat,x-e=(d:Int):=⟨(x-e).toNat,by omega⟩;have g3:IntKind.i64.wrap (x-e)=(d:Int):=(by rw [hd];exact IntWalk.i64_in _ (by omega));by_cases h18:18<d
    ·have g4:(18:Int)<(d:Int):=(by omega);have HV:=Lib.hid (ad (by unfold fitB;rw [show decide (e<=x∧x-e<=18)=false by simp;omega,Bool.false_and]));clear ad;go_wp2_with fail;refine bodyPost_ret (v:=.tuple #[.int .i64 0,.bool false]) (by unfold results;rw [aa];go_simp) rfl ⟨by rw [HV.out],ab.out⟩
    ·have g4:¬(18:Int)<(d:Int):=(by omega);have af:∀b,decide (m.natAbs*10^d<1000000000000000000)=b->fitB e (m,x,0)=b:=fun b h=>by
      unfold fitB;simp only;rw [show (x-e).toNat=d by omega,show decide (e<=x∧x-e<=18)=true by simp;omega,Bool.true_and];exact h
     have ag:Hid (∀z:Int,∀j,j<d->z=m*10^j->99999999999999999<z.natAbs->qbB e (m,x,0)=(0,false)):=fun z j hj hz hb=>ad (af false (by
      refine decide_eq_false (Nat.not_lt.2 ?_);have h1:z.natAbs=m.natAbs*10^j:=(by rw [hz,qlh]);have h2:m.natAbs*10^(j+1)<=m.natAbs*10^d:=Nat.mul_le_mul_left _ (Nat.pow_le_pow_right (by decide) hj);rw [qnv,<-h1] at h2;omega))
     have aj:Hid (∀z:Int,z=m*10^d->z.natAbs<1000000000000000000->qbB e (m,x,0)=(z,true)):=fun z hz hb=>by
      have h1:z.natAbs=m.natAbs*10^d:=(by rw [hz,qlh]);have h2:=af true (decide_eq_true (by rw [<-h1];exact hb));unfold qbB;rw [h2,if_pos (by simp)];unfold qaI;rw [if_neg (by simp),if_neg hm,show ((m,x,(0:Int)).2.1-e).toNat=d by simp only;omega,hz]
     clear ad af;go_wp2_with fail
     go_loopw [7,8] (fun mv i wl=>∃(j:Nat) (z:Int),j<=d∧mv=.int .i64 z∧i=.int .i64 (e+(j:Int))∧Hid (z=m*10^j)∧ -1000000000000000000<z∧z<1000000000000000000∧wl=w2) (fun _ i _=>d-(intOf i-e).toNat)
     case atStart=>exact ⟨0,m,Nat.zero_le _,rfl,by simp,by show _=_;simp,by omega,by omega,rfl⟩
     case round=>
      obtain ⟨j,z,hj,rfl,rfl,HZ,ak,am,rfl⟩:=hrel;by_cases hlt:j<d
      ·have i1:e+(j:Int)<x:=(by omega);by_cases hb:99999999999999999<z
       ·have HV:=Lib.hid (ag.out z j hlt HZ.out (by omega));go_wp2_with fail;refine bodyPost_ret (v:=.tuple #[.int .i64 0,.bool false]) (by unfold results;rw [aa];go_simp) rfl ⟨by rw [HV.out],ab.out⟩
       ·by_cases hb2:z< -99999999999999999
        ·have HV:=Lib.hid (ag.out z j hlt HZ.out (by omega));go_wp2_with fail;refine bodyPost_ret (v:=.tuple #[.int .i64 0,.bool false]) (by unfold results;rw [aa];go_simp) rfl ⟨by rw [HV.out],ab.out⟩
        ·have ah:Hid (z*10=m*10^(j+1)):=(by show _=_;rw [HZ.out,qmJ]);have g5:IntKind.i64.wrap (z*10)=z*10:=IntWalk.i64_in _ (by omega);go_wp2_with fail;go_roundw
         case rel=>exact ⟨j+1,z*10,by omega,by first|rfl|go_num,by first|(rw [show e+((j+1:Nat):Int)=e+(j:Int)+1 by omega];go_num)|go_num,ah.out,by omega,by omega,by first|trivial|rfl⟩
         case measure=>simp [intOf];omega
      ·have ai:j=d:=(by omega);subst ai;have i1:¬e+(j:Int)<x:=(by omega);have HV:=Lib.hid (aj.out z HZ.out (by omega));go_wp2_with fail;refine bodyPost_ret (v:=.tuple #[.int .i64 z,.bool true]) (by unfold results;rw [aa];go_simp) rfl ⟨by rw [HV.out],ab.out⟩
 ·have g1:(s==0)=false:=by simp [hs]
  have hv:qbB e (m,x,s)=(-9223372036854775808+s,true):=by simp [qbB,numB,qaI,hs]
  have al:1<=s∧s<=4:=by
   unfold qaH qau at hr;rw [if_pos hs] at hr;have h9:=of_decide_eq_true hr;exact ⟨h9.1,h9.2.1⟩
  have g2:IntKind.i64.wrap (-9223372036854775808+s)= -9223372036854775808+s:=IntWalk.i64_in _ (by omega);have HV:=Lib.hid hv;clear hv;go_wp2_with fail;refine bodyPost_ret (v:=.tuple #[.int .i64 (-9223372036854775808+s),.bool true]) (by unfold results;rw [aa];go_simp) rfl ⟨by rw [HV.out],ab.out⟩
def oneV (l:List Val):List Int:=l.map (qaI (qah l).1)
theorem ql7 {l:List Val} (hr:∀v ∈ l,qaH v=true):qaJ l=true↔ ∀v ∈ l,(qbB (qah l).1 v).2=true:=by
 rw [qb6];constructor
 ·rintro ⟨_,h⟩ v hv;unfold qbB;cases hn:numB v with
  |false=>simp
  |true=>rw [h v hv hn];simp
 ·intro h;refine ⟨hr,fun v hv hn=> ?_⟩;have h2:=h v hv;unfold qbB at h2;rw [hn] at h2;cases hf:fitB (qah l).1 v with
  |true=>rfl
  |false=>rw [hf] at h2;simp at h2
theorem qmr {e:Int} {v:Val} (h:(qbB e v).2=true):(qbB e v).1=qaI e v:=by
 unfold qbB at h ⊢
 split
 ·rfl
 ·rename_i hc;rw [if_neg hc] at h;cases h
def OneR (W:World) (l:List Val) (e:Ending) (w':World):Prop:=
 ∃r,e=.returned (.tuple #[r,.bool (qaJ l)])∧(qaJ l=true->OwnG EI 2 w' W.heap.size r (oneV l))∧Below W.heap.size W w'
theorem ql1 (v:Value) (l:List Val) (W:World) (hR:RdG EV W W.heap.size v l) (hn:l.length<=1000) (hr:∀v ∈ l,qaH v=true):
  Calls Tryz.prog 90 #[v] W fun e w'=>OneR W l e w':=by
 have am:Tryz.f90.results= #[.tmp 2,.tmp 3]:=by kernel_rfl
 have KL:=Lib.hid (qew v l W hR (by omega));have au:=Lib.hid hr;have a0:=qb5 hr;have af:=Lib.hid (ql7 hr);have ap:Hid (∀w,Below W.heap.size W w->RdG EV w w.heap.size v l):=fun w h=>hR.on h;obtain ⟨A,c,rfl,hc,_,hA⟩:=hR;obtain ⟨n,aj⟩:∃n,n=l.length:=⟨_,rfl⟩;rw [<-aj] at hc hn KL ap ⊢;have HN:=Lib.hid aj;have HA:=Lib.hid hA;obtain ⟨x,hx⟩:∃x,x=(qah l).1:=⟨_,rfl⟩;rw [<-hx] at KL a0 af;have HX:=Lib.hid hx;clear aj hA hr hx;go_enter Tryz.func90,Tryz.ntmps90;go_wp2_with fail;refine KL.out.mono ?_;rintro _ wx ⟨rfl,ae⟩;have ae:=ae.symm;subst ae;clear KL;go_wp2_with fail
 go_loopw [5,6,7,8] (fun o i _ _ wl=>∃(k:Nat),k<=n∧i=.int .i64 k∧Hid (OwnG EI 2 wl W.heap.size o ((l.take k).map (qaI x)))∧Hid (∀v ∈ l.take k,(qbB x v).2=true)∧Hid (Below W.heap.size W wl)) (fun _ i _ _ _=>n-(intOf i).toNat)
 case atStart=>exact ⟨0,Nat.zero_le _,rfl,OwnG.nil _ _,fun v h=>by simp at h,Below.refl _ _⟩
 case round =>
  obtain ⟨k,hk,rfl,HO,HM,HB⟩:=hrel;by_cases hlt:k<n
  ·have ac:k<l.length:=(by rw [<-HN.out];exact hlt);rcases HA.out with h0|⟨b,o,e,hb,ao⟩
   ·subst h0;simp at ac
   subst e;obtain ⟨y,hy⟩:∃y,y=l[k]:=⟨_,rfl⟩;have aa:=(ao k ac).below HB.out hb;rw [<-hy] at aa;obtain ⟨c0,c1,c2⟩:=qma.1 aa;have ag:y ∈ l:=(by rw [hy];exact List.getElem_mem ac);have hT:l.take (k+1)=l.take k++[y]:=(by rw [List.take_succ_eq_append_getElem ac,<-hy]);have HT:=Lib.hid hT;have ar:=Lib.hid ag;have KM:Hid (∀w,Calls Tryz.prog 112 #[.agg #[.int .i64 y.1,.int .i64 y.2.1,.int .i64 y.2.2],.int .i64 x] w fun r w'=>r=.returned (.tuple #[.int .i64 (qbB x y).1,.bool (qbB x y).2])∧Ext w w'):=fun w=>qjn y.1 y.2.1 y.2.2 x w (au.out y ag) (by omega);have c0:wr.cell? ⟨b,o+k*3,none⟩=some (.int .i64 y.1):=c0;have c1:wr.cell? ⟨b,o+k*3+1,none⟩=some (.int .i64 y.2.1):=c1;have c2:wr.cell? ⟨b,o+k*3+2,none⟩=some (.int .i64 y.2.2):=c2;have i1:(k:Int)<(n:Int):=(by omega);clear hy aa ao ac hb hT ag;go_wp2_with fail;refine (KM.out _).mono ?_;rintro _ w2 ⟨rfl,ai⟩;have an:=Lib.hid (HO.out.below ai.below);have ad:Hid (Below W.heap.size W w2):=HB.out.trans (ai.below.mono HB.out.size);obtain ⟨q,hq⟩:∃q,q=(qbB x y).2:=⟨_,rfl⟩;obtain ⟨z,hz⟩:∃z,z=(qbB x y).1:=⟨_,rfl⟩;rw [<-hq,<-hz];have HQ:=Lib.hid hq;have HZ:=Lib.hid hz;clear ai KM hq hz c0 c1 c2;cases q with
   | false =>
     have hg:qaJ l=false:=by
      rw [<-Bool.not_eq_true,af.out];intro h;have :=h y ar.out;rw [<-HQ.out] at this;cases this
     have HG:=Lib.hid hg;have ay:Hid (∀w r,qaJ l=true->OwnG EI 2 w W.heap.size r (oneV l)):=fun w r h=>(by rw [hg] at h;cases h);clear hg;go_wp2_with fail;refine bodyPost_ret (v:=.tuple #[.slice none 0 0,.bool false]) (by unfold results;rw [am];go_simp) rfl (show OneR W l (.returned (.tuple #[.slice none 0 0,.bool false])) _ from ⟨_,by rw [HG.out],ay.out _ _,ad.out⟩)
   | true =>
     have al:z=qaI x y:=(by rw [HZ.out];exact qmr HQ.out.symm);have HL:Hid ((((l.take k).map (qaI x)).length+1)*8<=140737488355328):=(by show _<=_;rw [List.length_map,List.length_take];omega);have ax:Hid (∀v ∈ l.take (k+1),(qbB x v).2=true):=fun v hv=>by
      rw [HT.out] at hv;rcases List.mem_append.1 hv with hv|hv
      ·exact HM.out v hv
      ·rw [List.mem_singleton] at hv;subst hv;exact HQ.out.symm
     have aw:=Lib.hid al;clear al HM;go_wp2_with (first|(at_builtin;refine qd1 EI rfl _ _ 73 2 rfl Tryz.underlying73 qc5 rfl (by decide) W.heap.size _ ((l.take k).map (qaI x)) z rfl (an.out.alloc _) _ 0 1 rfl (CellG.mk (E:=EI) rfl _) HL.out ?sz ?_)|fail)
     case sz=>have :=ad.out.size;simp;omega
     intro v3 w3 ab hg ah;have aq:Hid (Below W.heap.size W w3):=an.out.alloc (.cells #[.int .i64 z] 2) |>.step (ad.out.alloc ad.out.size _) (by have :=ad.out.size;simp;omega) hg;have az:Hid (OwnG EI 2 w3 W.heap.size v3 ((l.take (k+1)).map (qaI x))):=by
      show OwnG _ _ _ _ _ _;rw [HT.out,List.map_append,List.map_singleton,<-aw.out];simpa only [List.map_take] using ab
     clear ab hg ah;go_wp2_with fail;go_roundw
     case rel=>exact ⟨k+1,by omega,by go_num,az.out,ax.out,aq.out⟩
     case measure=>simp [intOf];omega
  ·have ak:k=n:=(by omega);have i1:¬(k:Int)<(n:Int):=(by omega);have hg:qaJ l=true:=af.out.2 (by have h:=HM.out;rw [ak,HN.out,List.take_length] at h;exact h);have hO:=HO.out;rw [ak,HN.out,List.take_length,HX.out] at hO;have HG:=Lib.hid hg;have av:=Lib.hid hO;clear hg hO;go_wp2_with fail;refine bodyPost_ret (v:=.tuple #[u5,.bool true]) (by unfold results;rw [am];go_simp) rfl (show OneR W l (.returned (.tuple #[u5,.bool true])) _ from ⟨_,by rw [HG.out],fun _=>av.out,HB.out⟩)
def PckR (W:World) (l:List Val) (e:Ending) (w':World):Prop:=
 ∃r x,e=.returned (.tuple #[r,.int .i64 x,.int .i64 (qa7 l l.length:Nat)])∧(1<=qa7 l l.length->x=(qah (l.take (qa7 l l.length))).1∧OwnG EI 2 w' W.heap.size r (oneV (l.take (qa7 l l.length))))∧Below W.heap.size W w'
end Go.Proofs.YtnkelahimiipjaaGreatDoor
