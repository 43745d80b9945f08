/-
 decimal: number, size.
-/
import Derived.Test.YtnkelahimiipjaaGreatDoorCjt
import Derived.Test.YtnkelahimiipjaaGreatDoorCct
import Derived.Test.YtnkelahimiipjaaGreatDoorBbt
import Derived.Laws.OwnMore
set_option maxRecDepth 100000
set_option maxHeartbeats 8000000
namespace Go.Proofs.YtnkelahimiipjaaGreatDoor
open Go.RowKit Go.Sort
theorem qeg (m x s:Int) (W:World):Calls Tryz.prog 94 #[.agg #[.int .i64 m,.int .i64 x,.int .i64 s]] W fun e w'=>e=.returned (.bool (numB (m,x,s)))∧Ext W w':=by
 obtain ⟨W1,aa⟩:∃W1,W1=W.alloc (.cells #[.int .i64 m,.int .i64 x,.int .i64 s] 64):=⟨_,rfl⟩;have hE:Ext W W1:=by rw [aa];exact (Ext.refl W).alloc _
 have c0:W1.cell? ⟨W.heap.size,0,none⟩=some (.int .i64 m):=by rw [aa];exact qak W _ _ 0
 have c2:W1.cell? ⟨W.heap.size,2,none⟩=some (.int .i64 s):=by rw [aa];exact qak W _ _ 2
 have HE:=Lib.hid hE;clear hE;by_cases hs:s=0
 ·have g:(s==0)=true:=by simp [hs]
  have HS:=Lib.hid hs;clear hs;go_enter Tryz.func94,Tryz.ntmps94;go_wp2_with fail;rw [<-aa];clear aa;go_wp2_with fail;go_ret;refine ⟨?_,HE.out⟩;unfold numB;simp [HS.out]
  first|done|rfl|(by_cases hm:m=0<;>simp [hm])
 ·have g:(s==0)=false:=by simp [hs]
  have HS:=Lib.hid hs;clear hs;go_enter Tryz.func94,Tryz.ntmps94;go_wp2_with fail;rw [<-aa];clear aa;go_wp2_with fail;go_ret;refine ⟨?_,HE.out⟩;unfold numB;simp [HS.out]
theorem qli (m:Int) (h: -1000000000000000000<=m∧m<=1000000000000000000) (W:World):Calls Tryz.prog 115 #[.int .i64 m] W fun e w'=>e=.returned (.int .i64 (m.natAbs:Int))∧w'=W:=by
 by_cases h0:m<0
 ·have hw:IntKind.i64.wrap (-m)= -m:=IntWalk.i64_in _ (by omega);have e:(m.natAbs:Int)= -m:=by omega
  rw [e];go_enter Tryz.func115,Tryz.ntmps115;go_wp2_with fail;go_ret;exact ⟨by first|rfl|simp [hw],rfl⟩
 ·have e:(m.natAbs:Int)=m:=by omega
  rw [e];go_enter Tryz.func115,Tryz.ntmps115;go_wp2_with fail;go_ret;exact ⟨rfl,rfl⟩
theorem qoP (l:List Int) (rv:Value) (p i:Nat) (W:World) (hp:W.cell? ⟨p,0,none⟩=some rv) (hR:RdG EI W W.heap.size rv l) (hi:i<l.length):
  Calls Tryz.prog 140 #[.int .i64 (i:Int),.pointer (some ⟨p,0,none⟩)] W fun e w'=>e=.returned (.int .i64 (l.getD i 0))∧w'=W:=by
 obtain ⟨A,c,rfl,_,_,hA⟩:=hR;rcases hA with h0|⟨b1,o1,e,ac,aa⟩
 ·rw [h0] at hi;simp at hi
 subst e;have ab:W.cell? ⟨b1,o1+i,none⟩=some (.int .i64 (l.getD i 0)):=by
  have :=qfz.1 (aa i hi);rw [List.getD_eq_getElem?_getD,List.getElem?_eq_getElem hi];simpa [EI] using this
 obtain ⟨n,hn⟩:∃n,n=l.length:=⟨_,rfl⟩;rw [<-hn] at hp hi;have i1:(i:Int)<(n:Int):=by omega
 clear aa hn;go_enter Tryz.func140,Tryz.ntmps140;go_wp2_with fail;go_ret;exact ⟨rfl,rfl⟩
theorem qdr (A:Option Addr) (n c:Nat) (W:World):Calls Tryz.prog 141 #[.slice A n c] W fun e w'=>e=.returned (.func (.func 151) #[] #[.pointer (some ⟨W.heap.size,0,none⟩)])∧w'=W.alloc (.cells #[.slice A n c] 174):=by
 have aa:∀(fn:Fn) (first cap:Array Value) (w:World),(Instr.makeFunc fn first cap).run Tryz.prog w=.ok (.func fn first cap) w:=fun _ _ _ _=>rfl;go_enter Tryz.func141,Tryz.ntmps141;go_wp2_with fail;go_ret;exact ⟨rfl,rfl⟩
theorem qet (l:List Int) (rv:Value) (p i:Nat) (W:World) (hp:W.cell? ⟨p,0,none⟩=some rv) (hR:RdG EI W W.heap.size rv l) (hi:i+1<l.length) (hl:l.length<=1000000):
  Calls Tryz.prog 151 #[.int .i64 ((i+1:Nat):Int),.pointer (some ⟨p,0,none⟩)] W fun e w'=>e=.returned (.int .i64 (dV l (i+1)))∧Ext W w':=by
 obtain ⟨A,c,rfl,_,_,hA⟩:=hR;rcases hA with h0|⟨b1,o1,e,ad,aa⟩
 ·rw [h0] at hi;simp at hi
 subst e;obtain ⟨x,hx⟩:∃x,x=l.getD (i+1) 0:=⟨_,rfl⟩;obtain ⟨y,hy⟩:∃y,y=l.getD i 0:=⟨_,rfl⟩;have ab:W.drew.cell? ⟨b1,o1+(i+1),none⟩=some (.int .i64 x):=by
  have :=qfz.1 (aa (i+1) hi);rw [hx,List.getD_eq_getElem?_getD,List.getElem?_eq_getElem hi];simpa [EI] using this
 have ae:W.drew.cell? ⟨b1,o1+i,none⟩=some (.int .i64 y):=by
  have :=qfz.1 (aa i (by omega));rw [hy,List.getD_eq_getElem?_getD,List.getElem?_eq_getElem (by omega)];simpa [EI] using this
 have hd:dV l (i+1)=IntKind.i64.wrap (x-y):=by unfold dV;rw [Nat.add_sub_cancel,hx,hy]
 have ac:W.drew.cell? ⟨p,0,none⟩=some (.slice (some ⟨b1,o1,none⟩) l.length c):=hp;obtain ⟨n,hn⟩:∃n,n=l.length:=⟨_,rfl⟩;rw [<-hn] at hp ac hi hl;have i1:((i+1:Nat):Int)<(n:Int):=by omega
 have i2:(i:Int)<(n:Int):=by omega
 have hw:IntKind.i64.wrap (((i+1:Nat):Int)-1)=(i:Int):=by
  rw [show (((i+1:Nat):Int)-1)=(i:Int) by omega];exact IntWalk.i64_in _ (by omega)
 rw [hd];clear aa hn hx hy hd;obtain ⟨j,hj⟩:∃j,j=i+1:=⟨_,rfl⟩;rw [<-hj] at ab i1 hw ⊢;have j0:(0:Int)<=(j:Int):=by omega
 have j1:(0:Int)<=(i:Int):=by omega
 clear hj hi;go_enter Tryz.func151,Tryz.ntmps151;go_wp2_with fail
 go_region_held3 (fun w'=>w'=W.drew)
  (first|assumption|rfl)
  (fail)
 go_wp2_with fail;go_ret;exact ⟨rfl,(Ext.refl W).drew⟩
theorem qjj (l:List Int) (rv:Value) (p:Nat) (W:World) (hp:W.cell? ⟨p,0,none⟩=some rv) (hR:RdG EI W W.heap.size rv l) (hl:l.length<=1000000):
  Calls Tryz.prog 139 #[.int .i64 0,.int .i64 (l.length:Int),.func (.func 140) #[] #[.pointer (some ⟨p,0,none⟩)]] W fun e w'=>e=.returned (.bool (qdA l))∧w'=W:=by
 have KA:Hid (∀i:Nat,i<l.length->Calls Tryz.prog 140 #[.int .i64 (i:Int),.pointer (some ⟨p,0,none⟩)] W fun e w'=>e=.returned (.int .i64 (l.getD i 0))∧w'=W):=fun i hi=>qoP l rv p i W hp hR hi;obtain ⟨n,hn⟩:∃n,n=l.length:=⟨_,rfl⟩;obtain ⟨q,hq⟩:∃q,q=qdA l:=⟨_,rfl⟩;rw [<-hq];rw [<-hn] at hl ⊢;have HN:=Lib.hid hn;have HQ:=Lib.hid hq;clear hp hR hn hq;go_enter Tryz.func139,Tryz.ntmps139;go_wp2_with fail
 go_loopw [7] (fun iv wl=>∃k:Nat,k<=n∧iv=.int .i64 (k:Int)∧wl=W∧Hid (∀j,j<k->l.getD j 0=l.getD 0 0))
  (fun iv _=>n-(intOf iv).toNat)
 case atStart=>exact ⟨0,Nat.zero_le _,rfl,rfl,fun j hj=>absurd hj (Nat.not_lt_zero _)⟩
 case round=>
  obtain ⟨k,hk,rfl,rfl,HJ⟩:=hrel;by_cases hlt:k<n
  ·have ad:k<l.length:=(by rw [<-HN.out];exact hlt);have i1:(k:Int)<(n:Int):=(by omega);have K1:=Lib.hid (KA.out k ad);have K0:Hid (Calls Tryz.prog 140 #[.int .i64 0,.pointer (some ⟨p,0,none⟩)] wr fun e w'=>e=.returned (.int .i64 (l.getD 0 0))∧w'=wr):=KA.out 0 (by omega);obtain ⟨x,hx⟩:∃x,x=l.getD k 0:=⟨_,rfl⟩;obtain ⟨y,hy⟩:∃y,y=l.getD 0 0:=⟨_,rfl⟩;rw [<-hx] at K1;rw [<-hy] at K0 HJ;have aa:=Lib.hid (And.intro hx hy);clear ad hx hy;go_wp2_with fail;refine K1.out.mono ?_;rintro e w2 ⟨rfl,rfl⟩;go_wp2_with fail;refine K0.out.mono ?_;rintro e w3 ⟨rfl,rfl⟩;by_cases hxy:x=y
   ·have g:(x != y)=false:=(by simp [hxy]);have HE:=Lib.hid hxy;clear hxy;go_wp2_with fail;go_roundw
    case rel=>exact ⟨k+1,by omega,by go_num,by trivial,fun j hj=>by
     by_cases e:j=k
     ·subst e;rw [<-aa.out.1,<-aa.out.2];exact HE.out
     ·rw [<-aa.out.2];exact HJ.out j (by omega)⟩
    case measure=>simp [intOf];omega
   ·have g:(x != y)=true:=(by simp [hxy]);have HE:=Lib.hid hxy;have ab:q=false:=by
     rw [HQ.out];unfold qdA;rw [<-Bool.not_eq_true,List.all_eq_true];intro h;have h1:=of_decide_eq_true (h (l[k]'(by rw [<-HN.out];exact hlt)) (List.getElem_mem _));apply HE.out;rw [aa.out.1,aa.out.2,<-h1,List.getD_eq_getElem?_getD,List.getElem?_eq_getElem (by rw [<-HN.out];exact hlt)];rfl
    subst ab;clear hxy;go_wp2_with fail;go_ret;exact ⟨rfl,rfl⟩
  ·have ac:k=n:=(by omega);have i1:¬(k:Int)<(n:Int):=(by omega);have ab:q=true:=by
    rw [HQ.out];unfold qdA;rw [List.all_eq_true];intro z hz;obtain ⟨i,hi,rfl⟩:=List.getElem_of_mem hz;have :=HJ.out i (by rw [ac,HN.out];exact hi);rw [List.getD_eq_getElem?_getD,List.getElem?_eq_getElem hi] at this;exact decide_eq_true this
   subst ab;clear hk hlt ac;go_wp2_with fail;go_ret;exact ⟨rfl,rfl⟩
theorem ql6 {l:List Int} {rv:Value} {p:Nat} {W:World} (hp:W.cell? ⟨p,0,none⟩=some rv) (hR:RdG EI W W.heap.size rv l) (hl:l.length<=1000000) (w:World) (hE:Ext W w) (j:Nat) (h1:1<=j) (h2:j<l.length):
  Calls Tryz.prog 151 #[.int .i64 (j:Int),.pointer (some ⟨p,0,none⟩)] w fun e w'=>e=.returned (.int .i64 (dV l j))∧Ext w w':=by
 obtain ⟨i,rfl⟩:∃i,j=i+1:=⟨j-1,by omega⟩;exact qet l rv p i w (hE.cell_some hp) (hR.on hE.below) h2 hl
theorem qjz (l:List Int) (rv:Value) (p:Nat) (W:World) (hp:W.cell? ⟨p,0,none⟩=some rv) (hR:RdG EI W W.heap.size rv l) (hl:l.length<=1000000) (h2:2<=l.length):
  Calls Tryz.prog 139 #[.int .i64 1,.int .i64 (l.length:Int),.func (.func 151) #[] #[.pointer (some ⟨p,0,none⟩)]] W fun e w'=>e=.returned (.bool (qft l))∧Ext W w':=by
 have KA:Hid (∀w,Ext W w->∀j:Nat,1<=j->j<l.length->Calls Tryz.prog 151 #[.int .i64 (j:Int),.pointer (some ⟨p,0,none⟩)] w fun e w'=>e=.returned (.int .i64 (dV l j))∧Ext w w'):=fun w hE j a b=>ql6 hp hR hl w hE j a b;obtain ⟨n,hn⟩:∃n,n=l.length:=⟨_,rfl⟩;obtain ⟨q,hq⟩:∃q,q=qft l:=⟨_,rfl⟩;rw [<-hq];rw [<-hn] at hl h2 ⊢;have HN:=Lib.hid hn;have HQ:=Lib.hid hq;clear hp hR hn hq;go_enter Tryz.func139,Tryz.ntmps139;go_wp2_with fail
 go_loopw [7] (fun iv wl=>∃k:Nat,1<=k∧k<=n∧iv=.int .i64 (k:Int)∧Hid (Ext W wl)∧Hid (∀j,1<=j->j<k->dV l j=dV l 1))
  (fun iv _=>n-(intOf iv).toNat)
 case atStart=>exact ⟨1,Nat.le_refl _,by omega,rfl,Ext.refl _,fun j h1 hj=>by omega⟩
 case round=>
  obtain ⟨k,af,hk,rfl,HE,HJ⟩:=hrel;by_cases hlt:k<n
  ·have ad:k<l.length:=(by rw [<-HN.out];exact hlt);have i1:(k:Int)<(n:Int):=(by omega);have K1:=Lib.hid (KA.out wr HE.out k af ad);have K0:Hid (∀w,Ext W w->Calls Tryz.prog 151 #[.int .i64 1,.pointer (some ⟨p,0,none⟩)] w fun e w'=>e=.returned (.int .i64 (dV l 1))∧Ext w w'):=fun w hw=>KA.out w hw 1 (Nat.le_refl _) (by omega);obtain ⟨x,hx⟩:∃x,x=dV l k:=⟨_,rfl⟩;obtain ⟨y,hy⟩:∃y,y=dV l 1:=⟨_,rfl⟩;rw [<-hx] at K1;rw [<-hy] at K0 HJ;have aa:=Lib.hid (And.intro hx hy);clear ad hx hy;go_wp2_with fail;refine K1.out.mono ?_;rintro e w2 ⟨rfl,h2⟩;have K2:=Lib.hid (K0.out w2 (HE.out.trans h2));have H2:=Lib.hid h2;clear h2;go_wp2_with fail;refine K2.out.mono ?_;rintro e w3 ⟨rfl,h3⟩;have ae:=Lib.hid ((HE.out.trans H2.out).trans h3);clear h3;by_cases hxy:x=y
   ·have g:(x != y)=false:=(by simp [hxy]);have HE:=Lib.hid hxy;clear hxy;go_wp2_with fail;go_roundw
    case rel=>exact ⟨k+1,by omega,by omega,by go_num,ae.out,fun j h1 hj=>by
     by_cases e:j=k
     ·subst e;rw [<-aa.out.1,<-aa.out.2];exact HE.out
     ·rw [<-aa.out.2];exact HJ.out j h1 (by omega)⟩
    case measure=>simp [intOf];omega
   ·have g:(x != y)=true:=(by simp [hxy]);have HE:=Lib.hid hxy;have ab:q=false:=by
     rw [HQ.out];unfold qft;rw [<-Bool.not_eq_true,List.all_eq_true];intro h;have h1:=of_decide_eq_true (h (k-1) (List.mem_range.2 (by rw [<-HN.out];omega)));rw [show k-1+1=k by omega] at h1;exact HE.out (by rw [aa.out.1,aa.out.2];exact h1)
    subst ab;clear hxy;go_wp2_with fail;go_ret;exact ⟨rfl,ae.out⟩
  ·have ac:k=n:=(by omega);have i1:¬(k:Int)<(n:Int):=(by omega);have ab:q=true:=by
    rw [HQ.out];unfold qft;rw [List.all_eq_true];intro i hi;have ag:=List.mem_range.1 hi;exact decide_eq_true (HJ.out (i+1) (by omega) (by rw [ac,HN.out];omega))
   subst ab;clear hk hlt ac;go_wp2_with fail;go_ret;exact ⟨rfl,HE.out⟩
def AsC (kind:Nat) (l:List Int) (W:World) (e:Ending) (w':World):Prop:=
 ∃A n c,e=.returned (.tuple #[.slice A n c,.bool (asX kind l).isSome])∧Below W.heap.size W w'∧∀x,asX kind l=some x->RdG EI w' w'.heap.size (.slice A n c) x
theorem rd2 {w:World} {x0 x1:Int}:RdG EI (w.alloc (.cells #[.int .i64 x0,.int .i64 x1] 2)) (w.heap.size+1) (.slice (some ⟨w.heap.size,0,none⟩) 2 2) [x0,x1]:=by
 refine ⟨_,2,rfl,Nat.le_refl _,fun e=>(by cases e),.inr ⟨_,0,rfl,Nat.lt_succ_self _,fun i hi=> ?_⟩⟩;have hc:=fun j=>qak w #[.int .i64 x0,.int .i64 x1] 2 j
 match i,hi with
 |0,_=>exact qfz.2 (hc 0)
 |1,_=>exact qfz.2 (hc 1)
theorem qjM (l:List Int) (v:Value) (W:World) (hR:RdG EI W W.heap.size v l) (hl:l.length<=1000000):
  Calls Tryz.prog 128 #[v] W (AsC 0 l W):=by
 have ac:∀(fn:Fn) (first cap:Array Value) (w:World),(Instr.makeFunc fn first cap).run Tryz.prog w=.ok (.func fn first cap) w:=fun _ _ _ _=>rfl;have hr:Tryz.f128.results= #[.tmp 2,.tmp 3]:=by kernel_rfl
 obtain ⟨n,hn⟩:∃n,n=l.length:=⟨_,rfl⟩;have HR:=Lib.hid hR;obtain ⟨A,c,rfl,hc,ab,_⟩:=hR;rw [<-hn] at HR hc hl ⊢;have HN:=Lib.hid hn;have ad:=Lib.hid ab;have hB:Below W.heap.size W (W.alloc (.cells #[.slice A n c] 174)):=(Below.refl _ _).alloc (Nat.le_refl _) _;have HB:=Lib.hid hB;clear hB ab;by_cases h0:n=0
 ·have ha:asX 0 l=none:=by unfold asX;rw [if_pos rfl,if_neg (by rw [<-HN.out];omega)]
  have HA:=Lib.hid ha;subst h0;clear ha hn;go_enter Tryz.func128,Tryz.ntmps128;go_wp2_with fail;refine bodyPost_ret (v:=.tuple #[.slice none 0 0,.bool false]) ?_ rfl ⟨none,0,0,by rw [HA.out];rfl,HB.out,fun x hx=>by rw [HA.out] at hx;cases hx⟩;unfold results;rw [hr]
  go_simp
 ·have i1:¬(n:Int)<1:=by omega
  have KF:Hid (Calls Tryz.prog 139 #[.int .i64 0,.int .i64 (n:Int),.func (.func 140) #[] #[.pointer (some ⟨W.heap.size,0,none⟩)]] (W.alloc (.cells #[.slice A n c] 174)) fun e w'=>e=.returned (.bool (qdA l))∧w'=W.alloc (.cells #[.slice A n c] 174)):=by
   rw [HN.out];exact qjj l _ W.heap.size _ (by rw [<-HN.out];exact qak W _ _ 0) (by have :=HR.out.on HB.out;rw [HN.out] at this ⊢;exact this) (by omega)
  have aa:1<=l.length:=by omega
  cases hq:qdA l with
  | false =>
    have ha:asX 0 l=none:=(by unfold asX;rw [if_pos rfl,if_neg (by simp [hq])]);have HA:=Lib.hid ha;rw [hq] at KF;clear ha hq hn aa;go_enter Tryz.func128,Tryz.ntmps128;go_wp2_with fail;refine KF.out.mono ?_;rintro e w1 ⟨rfl,rfl⟩;go_wp2_with fail;refine bodyPost_ret (v:=.tuple #[.slice none 0 0,.bool false]) ?_ rfl ⟨none,0,0,by rw [HA.out];rfl,HB.out,fun x hx=>by rw [HA.out] at hx;cases hx⟩;unfold results;rw [hr]
    go_simp
  | true =>
    have ha:asX 0 l=some [l.getD 0 0]:=(by unfold asX;rw [if_pos rfl,if_pos ⟨aa,hq⟩]);have HA:=Lib.hid ha;have HT:Hid (RdG EI (W.alloc (.cells #[.slice A n c] 174)) (W.alloc (.cells #[.slice A n c] 174)).heap.size (.slice A 1 c) [l.getD 0 0]):=by
     have h1:=(HR.out.on HB.out).cutTo HN.out (k:=1) (by omega);have e:l.take 1=[l.getD 0 0]:=by
      cases l with
      |nil=>simp at aa
      |cons x l=>rfl
     rw [e] at h1;exact h1
    rw [hq] at KF;have i2:(1:Int)<=(c:Int):=(by omega);clear ha hq hn aa;go_enter Tryz.func128,Tryz.ntmps128;go_wp2_with fail;refine KF.out.mono ?_;rintro e w1 ⟨rfl,rfl⟩;go_wp2_with fail;refine bodyPost_ret (v:=.tuple #[.slice A 1 c,.bool true]) ?_ rfl ⟨A,1,c,by rw [HA.out];rfl,HB.out,fun x hx=>by
     rw [HA.out] at hx;injection hx with hx;subst hx;exact HT.out⟩
    unfold results;rw [hr]
    go_simp
theorem qkn (l:List Int) (v:Value) (W:World) (hR:RdG EI W W.heap.size v l) (hl:l.length<=1000000):
  Calls Tryz.prog 129 #[v] W (AsC 1 l W):=by
 have hr:Tryz.f129.results= #[.tmp 2,.tmp 3]:=by kernel_rfl
 obtain ⟨n,hn⟩:∃n,n=l.length:=⟨_,rfl⟩;have HR:=Lib.hid hR;obtain ⟨A,c,rfl,hc,aj,hA⟩:=hR;rw [<-hn] at HR hc hl ⊢;have HN:=Lib.hid hn;have ai:=Lib.hid hA;have hB:Below W.heap.size W (W.alloc (.cells #[.slice A n c] 174)):=(Below.refl _ _).alloc (Nat.le_refl _) _;have HB:=Lib.hid hB;have KD:Hid (Calls Tryz.prog 141 #[.slice A n c] W fun e w'=>e=.returned (.func (.func 151) #[] #[.pointer (some ⟨W.heap.size,0,none⟩)])∧w'=W.alloc (.cells #[.slice A n c] 174)):=qdr A n c W;clear hB aj hA;by_cases h0:n<2
 ·have ha:asX 1 l=none:=by unfold asX;rw [if_neg (by decide),if_pos rfl,if_neg (by rw [<-HN.out];omega)]
  have HA:=Lib.hid ha;have i1:(n:Int)<2:=by omega
  clear ha hn;go_enter Tryz.func129,Tryz.ntmps129;go_wp2_with fail;refine KD.out.mono ?_;rintro e w1 ⟨rfl,rfl⟩;go_wp2_with fail;refine bodyPost_ret (v:=.tuple #[.slice none 0 0,.bool false]) ?_ rfl ⟨none,0,0,by rw [HA.out];rfl,HB.out,fun x hx=>by rw [HA.out] at hx;cases hx⟩;unfold results;rw [hr]
  go_simp
 ·have i1:¬(n:Int)<2:=by omega
  have ab:2<=l.length:=by omega
  have hp:(W.alloc (.cells #[.slice A n c] 174)).cell? ⟨W.heap.size,0,none⟩=some (.slice A n c):=qak W _ _ 0;have aa:RdG EI (W.alloc (.cells #[.slice A n c] 174)) (W.alloc (.cells #[.slice A n c] 174)).heap.size (.slice A n c) l:=HR.out.on HB.out;have KF:Hid (Calls Tryz.prog 139 #[.int .i64 1,.int .i64 (n:Int),.func (.func 151) #[] #[.pointer (some ⟨W.heap.size,0,none⟩)]] (W.alloc (.cells #[.slice A n c] 174)) fun e w'=>e=.returned (.bool (qft l))∧Ext (W.alloc (.cells #[.slice A n c] 174)) w'):=by
   rw [HN.out] at hp aa ⊢;exact qjz l _ W.heap.size _ hp aa (by omega) ab
  cases hq:qft l with
  | false =>
    have ha:asX 1 l=none:=(by unfold asX;rw [if_neg (by decide),if_pos rfl,if_neg (by simp [hq])]);have HA:=Lib.hid ha;rw [hq] at KF;clear ha hq hn ab hp aa;go_enter Tryz.func129,Tryz.ntmps129;go_wp2_with fail;refine KD.out.mono ?_;rintro e w1 ⟨rfl,rfl⟩;go_wp2_with fail;refine KF.out.mono ?_;rintro e w1 ⟨rfl,hE⟩;have HE:=Lib.hid hE;clear hE;go_wp2_with fail;refine bodyPost_ret (v:=.tuple #[.slice none 0 0,.bool false]) ?_ rfl ⟨none,0,0,by rw [HA.out];rfl,HB.out.trans (HE.out.below.mono HB.out.size),fun x hx=>by rw [HA.out] at hx;cases hx⟩;unfold results;rw [hr]
    go_simp
  | true =>
    have ha:asX 1 l=some [l.getD 0 0,dV l 1]:=(by unfold asX;rw [if_neg (by decide),if_pos rfl,if_pos ⟨ab,hq⟩]);have HA:=Lib.hid ha;obtain ⟨d,hd⟩:∃d,d=dV l 1:=⟨_,rfl⟩;obtain ⟨x0,af⟩:∃x,x=l.getD 0 0:=⟨_,rfl⟩;rw [<-hd,<-af] at HA;rw [hq] at KF;have K1:Hid (∀w,Ext (W.alloc (.cells #[.slice A n c] 174)) w->Calls Tryz.prog 151 #[.int .i64 1,.pointer (some ⟨W.heap.size,0,none⟩)] w fun e w'=>e=.returned (.int .i64 d)∧Ext w w'):=fun w hw=>by
     rw [hd];rw [HN.out] at hp aa;exact ql6 hp aa (by omega) w (by rw [<-HN.out];exact hw) 1 (Nat.le_refl _) (by omega)
    have ac:∃b1 o1,A=some ⟨b1,o1,none⟩∧(W.alloc (.cells #[.slice A n c] 174)).cell? ⟨b1,o1,none⟩=some (.int .i64 x0):=by
     rcases ai.out with h0|⟨b1,o1,e,ak,al⟩
     ·rw [h0] at ab;simp at ab
     refine ⟨b1,o1,e, ?_⟩;have :=qfz.1 (al 0 (by omega));rw [HB.out.cell ak,af,List.getD_eq_getElem?_getD,List.getElem?_eq_getElem (by omega)];simpa [EI] using this
    obtain ⟨b1,o1,rfl,ag⟩:=ac;have HC:=Lib.hid ag;have i2:(0:Int)<(n:Int):=(by omega);have i3:0<n:=(by omega);clear ha hq hn ab hp aa hd af ag;go_enter Tryz.func129,Tryz.ntmps129;go_wp2_with fail;refine KD.out.mono ?_;rintro e w1 ⟨rfl,rfl⟩;go_wp2_with fail;refine KF.out.mono ?_;rintro e w2 ⟨rfl,hE⟩;have HE:=Lib.hid hE;have c9:=hE.cell_some HC.out;clear hE;go_wp2_with fail
    go_region_held3 (fun w'=>w'.cell? ⟨b1,o1,none⟩=some (.int .i64 x0)∧Ext w2 w')
     (first|exact ⟨c9,Ext.refl _⟩|exact ⟨c9,(Ext.refl _).drew⟩|exact ⟨c8,Ext.trans (by first|exact Ext.refl _|exact (Ext.refl _).drew) ad.out⟩|exact ⟨((Ext.refl _).alloc _).cell_some c8,(Ext.trans (by first|exact Ext.refl _|exact (Ext.refl _).drew) ad.out).alloc _⟩)
     (first|(go_at_call 151;refine (K1.out _ (by first|exact HE.out|exact HE.out.drew)).mono ?_;rintro e w3 ⟨rfl,ae⟩;have c8:=ae.cell_some c9;have ad:=Lib.hid ae;clear ae))
    go_wp2_with fail;have ah:Hid (Below W.heap.size W w3):=(HB.out.trans (HE.out.below.mono HB.out.size)).trans ((Ext.trans (by first|exact Ext.refl _|exact (Ext.refl _).drew) ad.out).below.mono (HB.out.trans (HE.out.below.mono HB.out.size)).size);refine bodyPost_ret (v:=.tuple #[.slice (some ⟨w3.heap.size,0,none⟩) 2 2,.bool true]) ?_ rfl ⟨_,2,2,by rw [HA.out];rfl,ah.out.alloc ah.out.size _,fun x hx=>by
     rw [HA.out] at hx;injection hx with hx;subst hx;have h:=rd2 (w:=w3) (x0:=x0) (x1:=d);simpa using h⟩
    unfold results;rw [hr]
    go_simp
theorem EI.flat_map (l:List Int):EI.flat l=l.map (fun n=>Value.int .i64 n):=by
 induction l with
 |nil=>rfl
 |cons a l ih=>unfold Enc.flat at *;rw [List.flatMap_cons,ih];rfl
theorem OwnG.storeI {w:World} {base g n c i:Nat} {l:List Int} (h:OwnG EI 2 w base (.slice (some ⟨g,0,none⟩) n c) l) (hn:n=l.length) (hi:i<n) (x:Int):
  OwnG EI 2 (w.setCell ⟨g,i,none⟩ (.int .i64 x)) base (.slice (some ⟨g,0,none⟩) n c) (l.set i x)∧w.cell? ⟨g,i,none⟩=some (.int .i64 (l.getD i 0))∧w.frozen? ⟨g,i,none⟩=false:=by
 subst hn;refine ⟨?_, ?_,World.ownsRow.frozenAt h i⟩
 ·have h1:=(World.ownsRow.stored h i (.int .i64 x)).1;unfold OwnG;rw [List.length_set];have e:EI.flat (l.set i x)=(EI.flat l).set i (.int .i64 x):=by
   rw [EI.flat_map,EI.flat_map,List.map_set]
  rw [e];exact h1
 ·have h1:=World.ownsRow.cellAt h i (by show i<l.length*1;omega);rw [h1,EI.flat_map,List.getElem?_map,List.getElem?_eq_getElem hi,List.getD_eq_getElem?_getD,List.getElem?_eq_getElem hi];rfl
theorem qfx {α :Type} {E:Enc α} {ty:TypeId} {w:World} {base n c:Nat} {A:Option Addr} {l:List α} (h:OwnG E ty w base (.slice A n c) l) (hn:0<n):∃g,A=some ⟨g,0,none⟩∧base<=g∧g<w.heap.size:=by
 rcases h.2 with ⟨h0,_⟩|⟨g,cap,cur,h0,hb,hh,_⟩
 ·injection h0 with _ h0 _;omega
 ·injection h0 with h0 _ _;exact ⟨g,h0,hb,(Array.getElem?_eq_some_iff.1 hh).1⟩
def mixV (f:Nat->Int) (l:List Int) (k:Nat):List Int:=(List.range l.length).map (fun i=>if i<k then f i else l.getD i 0)
theorem qfR (f:Nat->Int) (l:List Int) (k:Nat):(mixV f l k).length=l.length:=by unfold mixV;simp
theorem qdZ (f:Nat->Int) (l:List Int) (k i:Nat):(mixV f l k)[i]? =if i<l.length then some (if i<k then f i else l.getD i 0) else none:=by
 unfold mixV;rw [List.getElem?_map];by_cases h:i<l.length
 ·rw [List.getElem?_range h,if_pos h];rfl
 ·rw [List.getElem?_eq_none (by simp;omega),if_neg h];rfl
theorem qix (f:Nat->Int) (l:List Int):mixV f l 0=l:=by
 apply List.ext_getElem?;intro i;rw [qdZ];by_cases h:i<l.length
 ·rw [if_pos h,if_neg (by omega),List.getElem?_eq_getElem h,List.getD_eq_getElem?_getD,List.getElem?_eq_getElem h];rfl
 ·rw [if_neg h,List.getElem?_eq_none (by omega)]
theorem qhX {f:Nat->Int} {l:List Int} {k:Nat} (hk:k<l.length):(mixV f l k).set k (f k)=mixV f l (k+1):=by
 apply List.ext_getElem?;intro i;rw [List.getElem?_set,qdZ,qdZ,qfR];by_cases e:k=i
 ·subst e;rw [if_pos rfl,if_pos hk,if_pos hk,if_pos (by omega)]
 ·rw [if_neg e];by_cases h:i<k
  ·rw [if_pos h,if_pos (show i<k+1 by omega)]
  ·rw [if_neg h,if_neg (show ¬i<k+1 by omega)]
theorem qnj {f:Nat->Int} {l:List Int} {k:Nat} (h:f k=l.getD k 0):mixV f l k=mixV f l (k+1):=by
 unfold mixV;refine List.map_congr_left fun i _=> ?_;by_cases e:i=k
 ·subst e;simp [h]
 ·by_cases h2:i<k
  ·rw [if_pos h2,if_pos (by omega)]
  ·rw [if_neg h2,if_neg (by omega)]
theorem qhx (f:Nat->Int) (l:List Int):mixV f l l.length=(List.range l.length).map f:=by
 unfold mixV;refine List.map_congr_left fun i hi=> ?_;rw [if_pos (List.mem_range.1 hi)]
theorem qeR (l:List Int) (v:Value) (W:World) (hR:RdG EI W W.heap.size v l) (hl:l.length<=1000000):
  Calls Tryz.prog 130 #[v] W fun e w'=>∃A n c,e=.returned (.tuple #[.slice A n c,.bool true])∧OwnG EI 2 w' (W.heap.size+1) (.slice A n c) (qaE l)∧Below W.heap.size W w':=by
 have hr:Tryz.f130.results= #[.tmp 2,.tmp 3]:=by kernel_rfl
 obtain ⟨n,hn⟩:∃n,n=l.length:=⟨_,rfl⟩;have HR:=Lib.hid hR;obtain ⟨A,c,rfl,hc,al,hA⟩:=hR;rw [<-hn] at HR hc hl ⊢;have HN:=Lib.hid hn;have hB:Below W.heap.size W (W.alloc (.cells #[.slice A n c] 174)):=(Below.refl _ _).alloc (Nat.le_refl _) _;have HB:=Lib.hid hB;have KD:Hid (Calls Tryz.prog 141 #[.slice A n c] W fun e w'=>e=.returned (.func (.func 151) #[] #[.pointer (some ⟨W.heap.size,0,none⟩)])∧w'=W.alloc (.cells #[.slice A n c] 174)):=qdr A n c W;have hp:(W.alloc (.cells #[.slice A n c] 174)).cell? ⟨W.heap.size,0,none⟩=some (.slice A n c):=qak W _ _ 0;have ab:RdG EI (W.alloc (.cells #[.slice A n c] 174)) (W.alloc (.cells #[.slice A n c] 174)).heap.size (.slice A n c) l:=HR.out.on HB.out;have KD1:Hid (∀w,Below (W.alloc (.cells #[.slice A n c] 174)).heap.size (W.alloc (.cells #[.slice A n c] 174)) w->∀j:Nat,1<=j->j<n->Calls Tryz.prog 151 #[.int .i64 (j:Int),.pointer (some ⟨W.heap.size,0,none⟩)] w fun e w'=>e=.returned (.int .i64 (dV l j))∧Ext w w'):=fun w hw j h1 h2=>by
  obtain ⟨i,rfl⟩:∃i,j=i+1:=⟨j-1,by omega⟩;refine qet l _ W.heap.size i w ((hw.cell (by simp)).trans hp) ?_ (by rw [<-HN.out];exact h2) (by omega);exact ab.on hw
 have KC:Hid (Calls Tryz.prog 142 #[.slice A n c] (W.alloc (.cells #[.slice A n c] 174)) fun e w'=>∃A1 c1,e=.returned (.slice A1 n c1)∧OwnG EI 2 w' (W.heap.size+1) (.slice A1 n c1) l∧Below (W.alloc (.cells #[.slice A n c] 174)).heap.size (W.alloc (.cells #[.slice A n c] 174)) w'):=
  (qhJ _ l _ ab (by omega)).mono fun e w' ⟨v9,h1,h2,h3⟩=>by
    obtain ⟨A3,c3,e3,_⟩:=id h2.rd;rw [World.size_alloc] at h2;rw [<-hn] at e3;exact ⟨A3,c3,by rw [h1,e3],by rw [<-e3];exact h2,h3⟩
 clear hB al hA hp ab hn;go_enter Tryz.func130,Tryz.ntmps130
 go_wp2_with fail;refine KD.out.mono ?_;rintro e w1 ⟨rfl,rfl⟩;go_wp2_with fail;refine KC.out.mono ?_;rintro e w2 ⟨A1,c1,rfl,hO,af⟩;have HO:=Lib.hid hO;have ai:=Lib.hid af;clear hO af KC KD;go_wp2_with fail
 go_loopw [6,13] (fun _ iv wl=>∃k:Nat,k<=n∧iv=.int .i64 (k:Int)∧Hid (OwnG EI 2 wl (W.heap.size+1) (.slice A1 n c1) (mixV (qaW l) l k))∧Hid (Below (W.heap.size+1) (W.alloc (.cells #[.slice A n c] 174)) wl))
  (fun _ iv _=>n-(intOf iv).toNat)
 case atStart=>exact ⟨0,Nat.zero_le _,rfl,by show OwnG _ _ _ _ _ _;rw [qix];exact HO.out,by have h:=ai.out;rw [World.size_alloc] at h;exact h⟩
 case round=>
  obtain ⟨k,hk,rfl,HO,aa⟩:=hrel;by_cases hlt:k<n
  ·have i1:(k:Int)<(n:Int):=(by omega);by_cases hk0:k=0
   ·have i2:¬(k:Int)>0:=(by omega);have HM:Hid (mixV (qaW l) l k=mixV (qaW l) l (k+1)):=qnj (by subst hk0;rfl);clear hk0;go_wp2_with fail;go_roundw
    case rel=>exact ⟨k+1,by omega,by go_num,by rw [<-HM.out];exact HO.out,aa.out⟩
    case measure=>simp [intOf];omega
   ·have i2:(k:Int)>0:=(by omega);obtain ⟨g,rfl,ae,ah⟩:=qfx HO.out (by omega);have KK:=Lib.hid (KD1.out wr (by rw [World.size_alloc];exact aa.out) k (by omega) hlt);obtain ⟨d,hd⟩:∃d,d=dV l k:=⟨_,rfl⟩;rw [<-hd] at KK;have HM:Hid ((mixV (qaW l) l k).set k d=mixV (qaW l) l (k+1)):=by
     show _=_;have e:d=qaW l k:=(by unfold qaW;rw [if_neg hk0];exact hd);rw [e];exact qhX (by rw [<-HN.out];exact hlt)
    clear hk0 hd;go_wp2_with fail;refine KK.out.mono ?_;rintro e w3 ⟨rfl,hE⟩;have ad:OwnG EI 2 w3 (W.heap.size+1) (.slice (some ⟨g,0,none⟩) n c1) (mixV (qaW l) l k):=HO.out.below hE.below;obtain ⟨s1,s2,s3⟩:=ad.storeI (by rw [qfR];exact HN.out) hlt d;have aj:Hid (OwnG EI 2 (w3.setCell ⟨g,k,none⟩ (.int .i64 d)) (W.heap.size+1) (.slice (some ⟨g,0,none⟩) n c1) (mixV (qaW l) l (k+1))):=by
     show OwnG _ _ _ _ _ _;rw [<-HM.out];exact s1
    have ak:Hid (Below (W.heap.size+1) (W.alloc (.cells #[.slice A n c] 174)) (w3.setCell ⟨g,k,none⟩ (.int .i64 d))):=(aa.out.trans (hE.below.mono (by have :=aa.out.size;simpa using this))).setCell ae _;clear s1 ad hE ae ah;go_wp2_with fail;go_roundw
    case rel=>exact ⟨k+1,by omega,by go_num,aj.out,ak.out⟩
    case measure=>simp [intOf];omega
  ·have ac:k=n:=(by omega);have i1:¬(k:Int)<(n:Int):=(by omega);have HF:Hid (OwnG EI 2 wr (W.heap.size+1) (.slice A1 n c1) (qaE l)):=by
    show OwnG _ _ _ _ _ _;have e:qaE l=mixV (qaW l) l k:=(by rw [ac,HN.out,qhx];rfl);rw [e];exact HO.out
   have ag:Hid (Below W.heap.size W wr):=HB.out.trans (aa.out.mono (by omega));clear hk hlt ac HO aa;go_wp2_with fail;refine bodyPost_ret (v:=.tuple #[.slice A1 n c1,.bool true]) ?_ rfl ⟨_,_,_,rfl,HF.out,ag.out⟩;unfold results;rw [hr]
   go_simp
theorem qlJ (n:Int):IntKind.i64.wrap n=wrap64 n:=by
 rw [qe1];unfold wrap64;split<;>omega
theorem qbt (l:List Int):(qaE l).length=l.length:=by unfold qaE;simp
theorem qjv (l:List Int):mixV (qaR l) (qaE l) 2=qaE l:=by
 apply List.ext_getElem?;intro i;rw [qdZ,qbt];by_cases h:i<l.length
 ·have e:(qaE l)[i]? =some (qaW l i):=by unfold qaE;rw [List.getElem?_map,List.getElem?_range h];rfl
  rw [if_pos h,e,List.getD_eq_getElem?_getD,e];by_cases h2:i<2
  ·rw [if_pos h2];unfold qaR;rw [if_pos h2]
  ·rw [if_neg h2];rfl
 ·rw [if_neg h,List.getElem?_eq_none (by rw [qbt];omega)]
theorem qhu (l:List Int) (v:Value) (W:World) (hR:RdG EI W W.heap.size v l) (hl:l.length<=1000000):
  Calls Tryz.prog 131 #[v] W (AsC 3 l W):=by
 have hr:Tryz.f131.results= #[.tmp 2,.tmp 3]:=by kernel_rfl
 obtain ⟨n,hn⟩:∃n,n=l.length:=⟨_,rfl⟩;have HR:=Lib.hid hR;obtain ⟨A,c,rfl,hc,ah,hA⟩:=hR;rw [<-hn] at HR hc hl ⊢;have HN:=Lib.hid hn;by_cases h0:n<2
 ·have ha:asX 3 l=none:=by unfold asX;rw [if_neg (by decide),if_neg (by decide),if_neg (by decide),if_pos rfl,if_neg (by rw [<-HN.out];omega)]
  have HA:=Lib.hid ha;have i1:(n:Int)<2:=by omega
  clear ha hn ah hA;go_enter Tryz.func131,Tryz.ntmps131;go_wp2_with fail;refine bodyPost_ret (v:=.tuple #[.slice none 0 0,.bool false]) ?_ rfl ⟨none,0,0,by rw [HA.out];rfl,Below.refl _ _,fun x hx=>by rw [HA.out] at hx;cases hx⟩;unfold results;rw [hr]
  go_simp
 ·have ha:asX 3 l=some (qa6 l):=by unfold asX;rw [if_neg (by decide),if_neg (by decide),if_neg (by decide),if_pos rfl,if_pos (by omega)]
  have HA:=Lib.hid ha;have i1:¬(n:Int)<2:=by omega
  have an:2<=n:=by omega
  have hB:Below W.heap.size W (W.alloc (.cells #[.slice A n c] 174)):=(Below.refl _ _).alloc (Nat.le_refl _) _;have HB:=Lib.hid hB;have KD:Hid (Calls Tryz.prog 141 #[.slice A n c] W fun e w'=>e=.returned (.func (.func 151) #[] #[.pointer (some ⟨W.heap.size,0,none⟩)])∧w'=W.alloc (.cells #[.slice A n c] 174)):=qdr A n c W;have hp:(W.alloc (.cells #[.slice A n c] 174)).cell? ⟨W.heap.size,0,none⟩=some (.slice A n c):=qak W _ _ 0;have ab:RdG EI (W.alloc (.cells #[.slice A n c] 174)) (W.alloc (.cells #[.slice A n c] 174)).heap.size (.slice A n c) l:=HR.out.on HB.out;have KD1:Hid (∀w,Below (W.heap.size+1) (W.alloc (.cells #[.slice A n c] 174)) w->∀j:Nat,1<=j->j<n->Calls Tryz.prog 151 #[.int .i64 (j:Int),.pointer (some ⟨W.heap.size,0,none⟩)] w fun e w'=>e=.returned (.int .i64 (dV l j))∧Ext w w'):=fun w hw j h1 h2=>by
   obtain ⟨i,rfl⟩:∃i,j=i+1:=⟨j-1,by omega⟩;have hw:Below (W.alloc (.cells #[.slice A n c] 174)).heap.size (W.alloc (.cells #[.slice A n c] 174)) w:=(by rw [World.size_alloc];exact hw);refine qet l _ W.heap.size i w ((hw.cell (by simp)).trans hp) ?_ (by rw [<-HN.out];exact h2) (by omega);exact ab.on hw
  have KC:Hid (Calls Tryz.prog 130 #[.slice A n c] (W.alloc (.cells #[.slice A n c] 174)) fun e w'=>∃A1 c1,e=.returned (.tuple #[.slice A1 n c1,.bool true])∧OwnG EI 2 w' (W.heap.size+1) (.slice A1 n c1) (qaE l)∧Below (W.heap.size+1) (W.alloc (.cells #[.slice A n c] 174)) w'):=
   (qeR l _ _ ab (by omega)).mono fun e w' ⟨A1,n1,c1,h1,h2,h3⟩=>by
     obtain ⟨A3,c3,e3,_⟩:=id h2.rd;rw [World.size_alloc] at h2 h3;rw [qbt,<-hn] at e3;injection e3 with q1 q2 q3;subst q2;exact ⟨A1,c1,h1,h2.lower (by omega),h3⟩
  clear hB ah hA hp ab hn h0 ha;go_enter Tryz.func131,Tryz.ntmps131;go_wp2_with fail;refine KD.out.mono ?_;rintro e w1 ⟨rfl,rfl⟩;go_wp2_with fail;refine KC.out.mono ?_;rintro e w2 ⟨A1,c1,rfl,hO,ag⟩;have HO:=Lib.hid hO;have am:=Lib.hid ag;clear hO ag KC KD;go_wp2_with fail
  go_loopw [7] (fun iv wl=>∃k:Nat,2<=k∧k<=n∧iv=.int .i64 (k:Int)∧Hid (OwnG EI 2 wl (W.heap.size+1) (.slice A1 n c1) (mixV (qaR l) (qaE l) k))∧Hid (Below (W.heap.size+1) (W.alloc (.cells #[.slice A n c] 174)) wl))
   (fun iv _=>n-(intOf iv).toNat)
  case atStart=>exact ⟨2,Nat.le_refl _,an,rfl,by show OwnG _ _ _ _ _ _;rw [qjv];exact HO.out,am.out⟩
  case round=>
   obtain ⟨k,ap,hk,rfl,HO,aa⟩:=hrel;by_cases hlt:k<n
   ·have i1:(k:Int)<(n:Int):=(by omega);obtain ⟨g,rfl,af,al⟩:=qfx HO.out (by omega);obtain ⟨x,hx⟩:∃d,d=dV l k:=⟨_,rfl⟩;obtain ⟨y,hy⟩:∃d,d=dV l (k-1):=⟨_,rfl⟩;have K1:=Lib.hid (KD1.out wr aa.out k (by omega) hlt);have K2:Hid (∀w,Ext wr w->Calls Tryz.prog 151 #[.int .i64 ((k:Int)-1),.pointer (some ⟨W.heap.size,0,none⟩)] w fun e w'=>e=.returned (.int .i64 y)∧Ext w w'):=fun w hw=>by
     rw [show (k:Int)-1=((k-1:Nat):Int) by omega,hy];exact KD1.out w (aa.out.trans (hw.below.mono (by have :=aa.out.size;simpa using this))) (k-1) (by omega) (by omega)
    rw [<-hx] at K1;have HM:Hid ((mixV (qaR l) (qaE l) k).set k (IntKind.i64.wrap (x-y))=mixV (qaR l) (qaE l) (k+1)):=by
     show _=_;have e:IntKind.i64.wrap (x-y)=qaR l k:=(by unfold qaR;rw [if_neg (by omega),hx,hy]);rw [e];exact qhX (by rw [qbt,<-HN.out];exact hlt)
    clear hx hy;go_wp2_with fail;refine K1.out.mono ?_;rintro e w3 ⟨rfl,hE⟩;have K3:=Lib.hid (K2.out w3 hE);have ak:=Lib.hid hE;clear hE;go_wp2_with fail;refine K3.out.mono ?_;rintro e w4 ⟨rfl,hE⟩;have ae:=Lib.hid (ak.out.trans hE);have ad:OwnG EI 2 w4 (W.heap.size+1) (.slice (some ⟨g,0,none⟩) n c1) (mixV (qaR l) (qaE l) k):=HO.out.below ae.out.below;obtain ⟨s1,s2,s3⟩:=ad.storeI (by rw [qfR,qbt];exact HN.out) hlt (IntKind.i64.wrap (x-y));have ao:Hid (OwnG EI 2 (w4.setCell ⟨g,k,none⟩ (.int .i64 (IntKind.i64.wrap (x-y)))) (W.heap.size+1) (.slice (some ⟨g,0,none⟩) n c1) (mixV (qaR l) (qaE l) (k+1))):=by
     show OwnG _ _ _ _ _ _;rw [<-HM.out];exact s1
    have aj:Hid (Below (W.heap.size+1) (W.alloc (.cells #[.slice A n c] 174)) (w4.setCell ⟨g,k,none⟩ (.int .i64 (IntKind.i64.wrap (x-y))))):=(aa.out.trans (ae.out.below.mono (by have :=aa.out.size;simpa using this))).setCell af _;clear s1 ad hE af al;go_wp2_with fail;go_roundw
    case rel=>exact ⟨k+1,by omega,by omega,by go_num,by have h:=ao.out;rw [qlJ] at h;exact h,by have h:=aj.out;rw [qlJ] at h;exact h⟩
    case measure=>simp [intOf];omega
   ·have ac:k=n:=(by omega);have i1:¬(k:Int)<(n:Int):=(by omega);have HF:Hid (RdG EI wr wr.heap.size (.slice A1 n c1) (qa6 l)):=by
     show RdG _ _ _ _ _;have e:qa6 l=mixV (qaR l) (qaE l) k:=(by rw [ac,HN.out,<-qbt l,qhx,qbt];rfl);rw [e];exact HO.out.rd
    have ai:Hid (Below W.heap.size W wr):=HB.out.trans (aa.out.mono (by omega));clear hk hlt ac HO aa;go_wp2_with fail;refine bodyPost_ret (v:=.tuple #[.slice A1 n c1,.bool true]) ?_ rfl ⟨A1,n,c1,by rw [HA.out];rfl,ai.out,fun x hx=>by
     rw [HA.out] at hx;injection hx with hx;subst hx;exact HF.out⟩
    unfold results;rw [hr]
    go_simp
end Go.Proofs.YtnkelahimiipjaaGreatDoor
