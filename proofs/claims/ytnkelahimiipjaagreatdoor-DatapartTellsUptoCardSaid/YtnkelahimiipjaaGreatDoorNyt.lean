import Derived.Test.YtnkelahimiipjaaGreatDoorNwt
import Derived.Test.YtnkelahimiipjaaGreatDoorRfBaset
set_option maxRecDepth 100000
set_option maxHeartbeats 8000000
namespace Go.Proofs.YtnkelahimiipjaaGreatDoor
open Go.RowKit Go.Sort
def F0:Nat:=1060
theorem qnt:F0=1060:=rfl
attribute [irreducible] F0
def F1:Nat:=10000
theorem qpZ:F1=10000:=rfl
attribute [irreducible] F1
theorem qoU {n:Nat} (h:n<2^F0*2):n<65536^F1:=by
 refine Nat.lt_of_lt_of_le h ?_;rw [show (65536:Nat)=2^16 from rfl,<-Nat.pow_mul,<-Nat.pow_succ];exact Nat.pow_le_pow_right (by decide) (by rw [qnt,qpZ];omega)
def Big (n:Nat):Prop:=n<65536^10000
theorem Big.bd {n:Nat} (h:Big n):n<65536^10000:=h
theorem Big.le {n m:Nat} (h:Big m) (k:n<=m):Big n:=Nat.lt_of_le_of_lt k h
theorem qeQ {n:Nat} (h:n<2^F0*2):Big n:=by
 have :=qoU h
 rwa [qpZ] at this
attribute [irreducible] Big
theorem qlC {va vb:Value} {n m:Nat} {W:World} (hRa:RdN W va n) (hRb:RdN W vb m) (hn:Big n) (hm:Big m) (h:n<m):
  Calls Tryz.prog 191 #[va,vb] W fun e w'=>e=.returned (.bool true)∧Ext W w':=qmB hRa hRb hn.bd hm.bd h
theorem qlk {va vb:Value} {n m:Nat} {W:World} (hRa:RdN W va n) (hRb:RdN W vb m) (hn:Big n) (hm:Big m) (h:m<=n):
  Calls Tryz.prog 191 #[va,vb] W fun e w'=>e=.returned (.bool false)∧Ext W w':=qow hRa hRb hn.bd hm.bd h
theorem qpm (va vb:Value) (n m:Nat) (W:World) (hRa:RdN W va n) (hRb:RdN W vb m) (hn:Big n) (hmn:m<=n):
  Calls Tryz.prog 192 #[va,vb] W (RetN W (n-m)):=qkb va vb n m W hRa hRb hn.bd hmn
theorem qpF (m:Nat) (x:Int) (hm:m<=999999999999999) (hx:x<=290):rN m x<2^F0:=by
 unfold rN;refine Nat.lt_of_le_of_lt (Nat.mul_le_mul hm (Nat.pow_le_pow_right (by decide) (show x.toNat<=290 by omega))) ?_;rw [qnt];decide+kernel
theorem qqb (x:Int) (hx: -300<=x):rD x*2^53<2^F0:=by
 unfold rD;refine Nat.lt_of_le_of_lt (Nat.mul_le_mul_right _ (Nat.pow_le_pow_right (by decide) (show (-x).toNat<=300 by omega))) ?_;rw [qnt];decide+kernel
def G0:Nat:=1049
theorem qp8:G0=1049:=rfl
attribute [irreducible] G0
theorem qpH (x:Int) (hx: -300<=x):rD x*2^52<2^G0:=by
 unfold rD;refine Nat.lt_of_le_of_lt (Nat.mul_le_mul_right _ (Nat.pow_le_pow_right (by decide) (show (-x).toNat<=300 by omega))) ?_;rw [qp8];decide+kernel
theorem s_bd {N D s:Nat} (hN:1<=N) (h:N*2^s<D*2^52) (hD:D*2^52<2^G0):s<1049:=by
 have h1:1*2^s<=N*2^s:=Nat.mul_le_mul_right _ hN;rw [Nat.one_mul] at h1;have h2:2^s<2^G0:=by omega
 have :=(Nat.pow_lt_pow_iff_right (by decide:1<2)).1 h2
 rwa [qp8] at this
theorem qpO {N D s:Nat} (hN:N<2^F0) (hD:D*2^53<2^F0) (h:s=0∨N*2^(s-1)<D*2^52):N*2^s<2^F0:=by
 rcases Nat.eq_zero_or_pos s with h0|h0
 ·subst h0;simpa using hN
 ·have h1:N*2^(s-1)<D*2^52:=by omega
  have e:N*2^s=N*2^(s-1)*2:=by rw [Nat.mul_assoc,<-Nat.pow_succ,show (s-1).succ=s by omega]
  rw [e];have e2:D*2^53=D*2^52*2:=by rw [Nat.mul_assoc,<-Nat.pow_succ]
  rw [e2] at hD;omega
theorem u_bd {N D u:Nat} (hN:N<2^F0) (hD:1<=D) (h:D*2^u*2^53<=N):u<1010:=by
 have h1:1*2^(u+53)<=D*2^(u+53):=Nat.mul_le_mul_right _ hD;rw [Nat.one_mul,Nat.pow_add,<-Nat.mul_assoc] at h1;rw [<-Nat.pow_add] at h1;have h2:2^(u+53)<2^F0:=by omega
 have :=(Nat.pow_lt_pow_iff_right (by decide:1<2)).1 h2;rw [qnt] at this;omega
theorem qp4 (m:Nat) (x:Int) (hm:1<=m):1<=rN m x:=Nat.mul_pos hm (Nat.pow_pos (by decide))
theorem qpY (x:Int):1<=rD x:=Nat.pow_pos (by decide)
theorem p53 (z:Nat):z*2^53=z*2^52*2:=by rw [Nat.mul_assoc,<-Nat.pow_succ]
theorem p53s (z u:Nat):z*2^(u+1)*2^53=z*2^u*2^53*2:=by
 rw [Nat.pow_succ,<-Nat.mul_assoc,Nat.mul_right_comm]
theorem p52s (z u:Nat):z*2^(u+1)*2^52=z*2^u*2^53:=by
 rw [p53,Nat.pow_succ,<-Nat.mul_assoc,Nat.mul_right_comm]
theorem q_bd {N D q t r:Nat} (hN:N<D*2^53) (h:N=q*(D*2^t)+r):q<=9007199254740991:=by
 have h1:q*(D*2^t)<D*2^53:=by omega
 rw [Nat.mul_left_comm] at h1;have h2:=Nat.lt_of_mul_lt_mul_left h1;have h3:q*1<=q*2^t:=Nat.mul_le_mul_left _ (Nat.two_pow_pos t);have h4:(2:Nat)^53=9007199254740992:=by decide
 omega
theorem q_lo {N D q r:Nat} (hN:D*2^52<=N) (h:N=q*(D*2^0)+r) (hr:r<D*2^0):4503599627370496<=q:=by
 rw [Nat.pow_zero,Nat.mul_one] at h hr;have h1:D*2^52<D*(q+1):=by
  refine Nat.lt_of_le_of_lt hN ?_;rw [h,Nat.mul_add,Nat.mul_one,Nat.mul_comm D q];omega
 have h2:=Nat.lt_of_mul_lt_mul_left h1;have h4:(2:Nat)^52=4503599627370496:=by decide
 omega
theorem qkW (v:Value) (n:Nat) (W:World) (hR:RdN W v n) (hn:Big n):
  Calls Tryz.prog 190 #[v,.int .i64 10,.int .i64 0] W (RetN W (n*10)):=qfo v n 10 W hR (by decide) (by decide) hn.bd
theorem qec (v:Value) (n:Nat) (W:World) (hR:RdN W v n) (hn:Big n):
  Calls Tryz.prog 190 #[v,.int .i64 2,.int .i64 0] W (RetN W (n*2)):=qfo v n 2 W hR (by decide) (by decide) hn.bd
theorem qqc (w:World):RdN (w.alloc (.cells #[.int .i64 1] 3)) (.slice (some ⟨w.heap.size,0,none⟩) 1 1) 1:=
 ⟨[1], ⟨_, 1, rfl, Nat.le_refl _, .inr ⟨w.heap.size, 0, rfl, by simp, ⟨_, _, heap_alloc_new _ _⟩, fun i hi => by
  have :i=0:=by simpa using hi
  subst this;exact qb7 _ _ _⟩⟩,⟨fun x hx=>by simp at hx;omega,rfl,by simp⟩⟩
theorem qdJ (m : Nat) (x : Int) (W : World) (hm : 1 <= m) (hm' : m <= 999999999999999) (hx : -300 <= x) (hx' : x <= 290) :
  Calls Tryz.prog 174 #[.int .i64 m,.int .i64 x] W fun e w'=>e=.returned (.int .u64 (qa8 m x))∧Below W.heap.size W w':=by
 have br:=Lib.hid (qpF m x hm' hx');have a3:=Lib.hid (qqb x hx);have KN:=Lib.hid (qgz m W hm');go_enter Tryz.func174,Tryz.ntmps174;go_wp2_with fail;refine KN.out.mono ?_;rintro e w1 ⟨r,rfl,hr,hB⟩;have HR:=Lib.hid hr;have HB:=Lib.hid hB;clear hr hB KN;go_wp2_with fail;obtain ⟨w2,a1⟩:∃w2,w2=w1.alloc (.cells #[.int .i64 1] 3):=⟨_,rfl⟩;have c4:Hid (Below W.heap.size W w2):=by show Below _ _ _;rw [a1];exact HB.out.alloc HB.out.size _
 have c3:Hid (RdN w2 r m):=HR.out.on (by rw [a1];exact (Below.refl _ _).alloc (Nat.le_refl _) _);have ck:Hid (RdN w2 (.slice (some ⟨w1.heap.size,0,none⟩) 1 1) 1):=by show RdN _ _ _;rw [a1];exact qqc w1
 rw [<-a1];clear a1 HR HB;obtain ⟨dv,cq⟩:∃dv,dv=Value.slice (some ⟨w1.heap.size,0,none⟩) 1 1:=⟨_,rfl⟩;rw [<-cq] at ck
 go_loopw [5,7] (fun v i wl=>∃t:Int,i=.int .i64 t∧0<=t∧(t=0∨t<=x)∧t<=290∧Hid (RdN wl v (m*10^t.toNat))∧Hid (RdN wl dv 1)∧Hid (Below W.heap.size W wl))
  (fun _ i _=>(x-intOf i).toNat)
 case atStart=>exact ⟨0,rfl,by omega,by omega,by omega,by show RdN _ _ _;simpa using c3.out,ck.out,c4.out⟩
 case round =>
  obtain ⟨t,rfl,bo,bj,bm,HR,HO,HB⟩:=hrel;by_cases hlt:t<x
  ·have HX:Hid (Big (m*10^t.toNat)):=by
    refine qeQ (Nat.lt_of_lt_of_le (qpF m t hm' (by omega)) (by omega))
   have HE:Hid (m*10^t.toNat*10=m*10^(t+1).toNat):=by
    show _=_;rw [show (t+1).toNat=t.toNat+1 by omega,Nat.pow_succ,Nat.mul_assoc]
   go_wp2_with fail;refine (qkW _ _ _ HR.out HX.out).mono ?_;rintro e w3 ⟨r3,rfl,hr,hB⟩;have aw:=Lib.hid hr;have aj:=Lib.hid hB;clear hr hB;go_wp2_with fail;go_roundw
   case rel=>exact ⟨t+1,rfl,by omega,by omega,by omega,HE.out▸aw.out,HO.out.on aj.out,HB.out.trans (aj.out.mono HB.out.size)⟩
   case measure=>simp [intOf];omega
  ·obtain ⟨N0, bu⟩ : ∃ N0, N0 = rN m x := ⟨_, rfl⟩
   have al:Hid (N0=rN m x):=bu;have aa:Hid (RdN wr u5 N0):=by
    have e:m*10^t.toNat=N0:=(by rw [bu];unfold rN;rw [show t.toNat=x.toNat by omega]);exact e▸HR.out
   clear bu HR bj bm;go_wp2_with fail;clear hlt bo
   go_loopw [6,8] (fun v i wl=>∃t:Int,i=.int .i64 t∧t<=0∧(t=0∨x<=t)∧ -300<=t∧Hid (RdN wl v (10^(-t).toNat))∧Hid (RdN wl u5 N0)∧Hid (Below W.heap.size W wl))
    (fun _ i _=>(intOf i-x).toNat)
   case atStart=>exact ⟨0,rfl,by omega,by omega,by omega,by show RdN _ _ _;simpa [cq] using HO.out,aa.out,HB.out⟩
   case round =>
    obtain ⟨t,rfl,bo,bj,bm,HR,HO,HB⟩:=hrel;by_cases hlt:x<t
    ·have HX:Hid (Big (10^(-t).toNat)):=by
      refine qeQ (Nat.lt_of_le_of_lt (Nat.le_mul_of_pos_right _ (by decide:0<2^53)) (Nat.lt_of_lt_of_le (qqb t bm) (by omega)))
     have HE:Hid (10^(-t).toNat*10=10^(-(t-1)).toNat):=by
      show _=_;rw [show (-(t-1)).toNat=(-t).toNat+1 by omega,Nat.pow_succ]
     go_wp2_with fail;refine (qkW _ _ _ HR.out HX.out).mono ?_;rintro e w3 ⟨r3,rfl,hr,hB⟩;have aw:=Lib.hid hr;have aj:=Lib.hid hB;clear hr hB;go_wp2_with fail;go_roundw
     case rel=>exact ⟨t-1,rfl,by omega,by omega,by omega,HE.out▸aw.out,HO.out.on aj.out,HB.out.trans (aj.out.mono HB.out.size)⟩
     case measure=>simp [intOf];omega
    ·obtain ⟨D0, bl⟩ : ∃ D0, D0 = rD x := ⟨_, rfl⟩
     have ae:Hid (D0=rD x):=bl;have ab:Hid (RdN wr u6 D0):=by
      have e:10^(-t).toNat=D0:=(by rw [bl];unfold rD;rw [show (-t).toNat=(-x).toNat by omega]);exact e▸HR.out
     rw [<-bl] at a3;rw [<-al.out] at br;clear bl HR bj bm;have aa:Hid (RdN wr u5 N0):=HO;clear HO;go_wp2_with fail;clear hlt bo
     go_loopw [10,11] (fun v i wl=>∃t:Nat,i=.int .i64 t∧t<=52∧Hid (RdN wl v (D0*2^t))∧Hid (RdN wl u5 N0)∧Hid (RdN wl u6 D0)∧Hid (Below W.heap.size W wl))
      (fun _ i _=>52-(intOf i).toNat)
     case atStart=>exact ⟨0,rfl,by omega,by show RdN _ _ _;simpa using ab.out,aa.out,ab.out,HB.out⟩
     case round =>
      obtain ⟨t,rfl,ht,HR,aa,ab,HB⟩:=hrel;by_cases hlt:t<52
      ·have HX:Hid (Big (D0*2^t)):=by
        refine qeQ (Nat.lt_of_le_of_lt (Nat.mul_le_mul_left _ (Nat.pow_le_pow_right (by decide) (by omega:t<=53))) (Nat.lt_of_lt_of_le a3.out (by omega)))
       go_wp2_with fail;refine (qec _ _ _ HR.out HX.out).mono ?_;rintro e w3 ⟨r3,rfl,hr,hB⟩;have aw:Hid (RdN w3 r3 (D0*2^(t+1))):=(by show RdN _ _ _;rw [Nat.pow_succ,<-Nat.mul_assoc];exact hr);have aj:=Lib.hid hB;clear hr hB;go_wp2_with fail;go_roundw
       case rel=>exact ⟨t+1,by go_num,by omega,aw.out,aa.out.on aj.out,ab.out.on aj.out,HB.out.trans (aj.out.mono HB.out.size)⟩
       case measure=>simp [intOf];omega
      ·obtain rfl : t = 52 := by omega
       clear hlt ht;have ba:Hid (D0*2^52<2^G0):=(by show _<_;rw [ae.out];exact qpH x hx);have cm:Hid (1<=N0):=(by show _<=_;rw [al.out];exact qp4 m x hm);have cn:Hid (1<=D0):=(by show _<=_;rw [ae.out];exact qpY x);have bp:Hid (Big (D0*2^52)):=by
        refine qeQ (Nat.lt_of_le_of_lt (Nat.mul_le_mul_left _ (Nat.pow_le_pow_right (by decide) (by decide:52<=53))) (Nat.lt_of_lt_of_le a3.out (by omega)))
       go_wp2_with fail
       go_loopw [5,9] (fun v i wl=>∃t:Int,i=.int .i64 t∧t<=0∧ -1049<=t∧Hid (RdN wl v (N0*2^(-t).toNat))∧Hid ((-t).toNat=0∨N0*2^((-t).toNat-1)<D0*2^52)∧Hid (RdN wl u10 (D0*2^52))∧Hid (RdN wl u6 D0)∧Hid (Below W.heap.size W wl))
        (fun _ i _=>(intOf i+1049).toNat)
       case atStart=>exact ⟨0,rfl,by omega,by omega,by show RdN _ _ _;simpa using aa.out,.inl rfl,HR.out,ab.out,HB.out⟩
       case round =>
        obtain ⟨t,rfl,bo,bj,aa,HS,HR,ab,HB⟩:=hrel;have ay:Hid (N0*2^(-t).toNat<2^F0):=qpO br.out a3.out HS.out;have ap:Hid (Big (N0*2^(-t).toNat)):=qeQ (by have :=ay.out;omega);by_cases hlt:N0*2^(-t).toNat<D0*2^52
        ·have HT:=Lib.hid hlt;have hs:=s_bd cm.out HT.out ba.out;clear hlt;go_wp2_with fail;refine (qlC aa.out HR.out ap.out bp.out HT.out).mono ?_;rintro e w3 ⟨rfl,hE⟩;have HE:=Lib.hid hE.below;clear hE;go_wp2_with fail;refine (qec _ _ _ (aa.out.on HE.out) ap.out).mono ?_;rintro e w4 ⟨r3,rfl,hr,hB⟩;have ac:Hid (Below wr.heap.size wr w4):=HE.out.trans (hB.mono HE.out.size);have aw:Hid (RdN w4 r3 (N0*2^(-(t-1)).toNat)):=by
          show RdN _ _ _;rw [show (-(t-1)).toNat=(-t).toNat+1 by omega,Nat.pow_succ,<-Nat.mul_assoc];exact hr
         clear hr hB;go_wp2_with fail;go_roundw
         case rel=>((repeat apply Exists.intro);exact ⟨⟨t-1,rfl,by omega,by omega,aw.out,.inr (by rw [show (-(t-1)).toNat-1=(-t).toNat by omega];exact HT.out),HR.out.on ac.out,ab.out.on ac.out,HB.out.trans (ac.out.mono HB.out.size)⟩,rfl⟩)
         case measure=>simp [intOf];omega
        ·have HT : Hid (D0 * 2 ^ 52 <= N0 * 2 ^ (-t).toNat) := by show _ <= _; omega
         clear hlt;go_wp2_with fail;refine (qlk aa.out HR.out ap.out bp.out HT.out).mono ?_;rintro e w3 ⟨rfl,hE⟩;have HE:=Lib.hid hE.below;clear hE;go_wp2_with fail;refine (qec _ _ _ (HR.out.on HE.out) bp.out).mono ?_;rintro e w4 ⟨r3,rfl,hr,hB⟩;have ac:Hid (Below wr.heap.size wr w4):=HE.out.trans (hB.mono HE.out.size);have av:Hid (RdN w4 r3 (D0*2^53)):=by
          show RdN _ _ _;rw [p53];exact hr
         clear hr hB;obtain ⟨N1,cc⟩:∃N1,N1=N0*2^(-t).toNat:=⟨_,rfl⟩;rw [<-cc] at aa ay ap HT;have cr:=Lib.hid cc;have bt:Hid (RdN w4 u5 N1):=aa.out.on ac.out;have ca:Hid (RdN w4 u10 (D0*2^52)):=HR.out.on ac.out;have ak:Hid (RdN w4 u6 D0):=ab.out.on ac.out;have da:Hid (Below W.heap.size W w4):=HB.out.trans (ac.out.mono HB.out.size);clear cc aa HR ab HB ac HE HS;go_wp2_with fail
         go_loopw [6,9,10,12] (fun d i l h wl=>∃(k:Int) (u:Nat),i=.int .i64 k∧k=t+u∧u<=1010∧Hid (RdN wl d (D0*2^u))∧Hid (RdN wl l (D0*2^u*2^52))∧Hid (RdN wl h (D0*2^u*2^53))∧Hid (D0*2^u*2^52<=N1)∧Hid (RdN wl u5 N1)∧Hid (Below W.heap.size W wl))
          (fun _ i _ _ _=>(1010+t-intOf i).toNat)
         case atStart=>exact ⟨t,0,rfl,by omega,by omega,by show RdN _ _ _;simpa using ak.out,by show RdN _ _ _;simpa using ca.out,by show RdN _ _ _;simpa using av.out,by show _<=_;simpa using HT.out,bt.out,da.out⟩
         case round =>
          obtain ⟨k,u,rfl,hk,hu,ab,cv,av,HT,aa,HB⟩:=hrel;subst hk;have ai:Hid (Big (D0*2^u*2^53)):=by
           refine qeQ ?_;have h1:=HT.out;have h2:=ay.out;rw [p53];exact Nat.mul_lt_mul_of_pos_right (Nat.lt_of_le_of_lt h1 h2) (by decide)
          have b8:Hid (Big (D0*2^u)):=by
           have h2:D0*2^u*1<=D0*2^u*2^53:=Nat.mul_le_mul_left _ (by decide);rw [Nat.mul_one] at h2;exact ai.out.le h2
          have bv:=ay;by_cases hlt:D0*2^u*2^53<=N1
          ·have ao:=Lib.hid hlt;have dc:=u_bd ay.out cn.out ao.out;clear hlt;go_wp2_with fail;refine (qlk aa.out av.out ap.out ai.out ao.out).mono ?_;rintro e w5 ⟨rfl,hE⟩;have HE:=Lib.hid hE.below;clear hE;go_wp2_with fail;refine (qec _ _ _ (ab.out.on HE.out) b8.out).mono ?_;rintro e w6 ⟨r5,rfl,hr,hB⟩;have bk:Hid (Below wr.heap.size wr w6):=HE.out.trans (hB.mono HE.out.size);have ct:Hid (RdN w6 r5 (D0*2^(u+1))):=(by show RdN _ _ _;rw [Nat.pow_succ,<-Nat.mul_assoc];exact hr);clear hr hB HE;go_wp2_with fail;refine (qec _ _ _ (av.out.on bk.out) ai.out).mono ?_;rintro e w7 ⟨r6,rfl,hr,hB⟩;have b5:Hid (Below wr.heap.size wr w7):=bk.out.trans (hB.mono bk.out.size);have bz:Hid (RdN w7 r5 (D0*2^(u+1))):=ct.out.on hB;have cx:Hid (RdN w7 r6 (D0*2^(u+1)*2^53)):=by
            show RdN _ _ _;rw [p53s];exact hr
           have c9:Hid (RdN w7 u12 (D0*2^(u+1)*2^52)):=by
            have :=av.out.on b5.out;show RdN _ _ _
            rwa [p52s]
           have c6:Hid (D0*2^(u+1)*2^52<=N1):=by
            show _<=_;rw [p52s];exact ao.out
           clear hr hB bk ct;go_wp2_with fail;go_roundw
           case rel=>exact ⟨t+u+1,u+1,rfl,by omega,by omega,bz.out,c9.out,cx.out,c6.out,aa.out.on b5.out,HB.out.trans (b5.out.mono HB.out.size)⟩
           case measure=>simp [intOf];omega
          ·have ao : Hid (N1 < D0 * 2 ^ u * 2 ^ 53) := by show _ < _; omega
           clear hlt;go_wp2_with fail;refine (qlC aa.out av.out ap.out ai.out ao.out).mono ?_;rintro e w5 ⟨rfl,hE⟩;have HE:=Lib.hid hE.below;clear hE;obtain ⟨D1,b3⟩:∃D1,D1=D0*2^u:=⟨_,rfl⟩;rw [<-b3] at ab HT ao ai b8;have bf:=Lib.hid b3;have b6:Hid (RdN w5 u5 N1):=aa.out.on HE.out;have a4:Hid (RdN w5 u6 D1):=ab.out.on HE.out;have a0:Hid (Below W.heap.size W w5):=HB.out.trans (HE.out.mono HB.out.size);clear b3 aa ab cv av HB HE;go_wp2_with fail
           go_loopw [14,15,16] (fun pv p i wl=>∃(j:Nat) (vs:List Value),i=.int .i64 j∧j<=53∧OwnV wl W.heap.size pv vs∧Hid (vs.length=j∧∀a (h:a<vs.length),RdN wl vs[a] (D1*2^a))∧Hid (RdN wl p (D1*2^j))∧Hid (RdN wl u5 N1)∧Hid (RdN wl u6 D1)∧Hid (Below W.heap.size W wl))
            (fun _ _ i _=>53-(intOf i).toNat)
           case atStart=>exact ⟨0,[],rfl,by omega,OwnV.nil _ _,⟨rfl,fun a h=>by simp at h⟩,by show RdN _ _ _;simpa using a4.out,b6.out,a4.out,a0.out⟩
           case round =>
            obtain ⟨j,vs,rfl,hj,ag,HV,HP,aa,ab,HB⟩:=hrel;by_cases hlt:j<=52
            ·have HX:Hid (Big (D1*2^j)):=by
              have h2:D1*2^j<=D1*2^53:=Nat.mul_le_mul_left _ (Nat.pow_le_pow_right (by decide) (by omega));exact ai.out.le h2
             obtain ⟨Ap,np,cp,c8⟩:∃Ap np cp,u15=.slice Ap np cp:=by
              obtain ⟨lp,⟨Ap,cp,h,_⟩,_⟩:=HP.out;exact ⟨_,_,_,h⟩
             subst c8;have hy:=HP.out.one;have HY:=Lib.hid hy;clear hy;have HA:Hid (∀u t,Below wr.heap.size wr (wr.alloc (.cells #[u] t))):=fun u t=>(Below.refl _ _).alloc (Nat.le_refl _) _;have co:Hid (W.heap.size<=wr.heap.size):=HB.out.size;have b7:=Lib.hid HV.out.1;go_wp2_with (first|(at_builtin;refine qqg rfl _ _ rfl W.heap.size _ vs (.slice Ap np cp) rfl (ag.alloc _) wr.heap.size 0 1 rfl (qb7 _ _ _) ?c0 ?c1 ?c2 ?_)|fail)
             case c0=>exact HY.out
             case c1=>have :=b7.out;omega
             case c2=>have :=co.out;simp;omega
             ·intro v' w6 an hg;have ad:∀(v:Value) (n:Nat),RdN wr v n->RdN w6 v n:=fun v n h=>(h.on (HA.out _ _)).kept hg (fun g bw=>((ag.alloc _).blk bw).2);have ci:Hid (Below W.heap.size W w6):=(HB.out.trans ((HA.out _ _).mono HB.out.size)).grown hg (by have :=co.out;simp;omega) (fun g bw=>(ag.blk bw).1);have cl:=Lib.hid (ad _ _ HP.out);have b0:=Lib.hid (ad _ _ aa.out);have bx:=Lib.hid (ad _ _ ab.out);have cf:Hid ((vs++[Value.slice Ap np cp]).length=j+1∧∀a (h:a<(vs++[Value.slice Ap np cp]).length),RdN w6 (vs++[Value.slice Ap np cp])[a] (D1*2^a)):=by
               refine ⟨by simp [b7.out],fun a h=> ?_⟩;rw [List.getElem_append]
               split
               ·exact ad _ _ (HV.out.2 a (by assumption))
               ·have :a=j:=(by have :=b7.out;simp at h;omega);subst this;simpa using cl.out
              have c5:=Lib.hid an;clear hg ad an ag HV HP aa ab;go_wp2_with fail;refine (qec _ _ _ cl.out HX.out).mono ?_;rintro e w7 ⟨r6,rfl,hr,hB⟩;have a9:=Lib.hid hB;have bz:Hid (RdN w7 r6 (D1*2^(j+1))):=(by show RdN _ _ _;rw [Nat.pow_succ,<-Nat.mul_assoc];exact hr);clear hr hB;go_wp2_with fail;go_roundw
              case rel=>exact ⟨j+1,_,by go_num,by omega,c5.out.below a9.out,⟨cf.out.1,fun a h=>(cf.out.2 a h).on a9.out⟩,bz.out,b0.out.on a9.out,bx.out.on a9.out,ci.out.trans (a9.out.mono ci.out.size)⟩
              case measure=>simp [intOf];omega
            ·obtain rfl : j = 53 := by omega
             have ce:vs≠ []:=(by intro e;have :=HV.out.1;rw [e] at this;simp at this);obtain ⟨g,cap,bc,bs,cu⟩:=ag.cells ce;rw [HV.out.1] at bc bs;have HC:Hid (∀a,a<53->∃pv,wr.cell? ⟨g,a,none⟩=some pv∧RdN wr pv (D1*2^a)):=fun a ha=>⟨vs[a]'(by rw [HV.out.1];exact ha),cu a (by rw [HV.out.1];exact ha),HV.out.2 a (by rw [HV.out.1];exact ha)⟩;have cd:=aa;have b4:=ab;have db:=HB;clear ag HV HP aa ab HB ce cu;subst bc;go_wp2_with fail;clear hlt;have bh:Hid (N1<D1*2^53):=ao
             go_loopw [5,13,17] (fun nv qv iv wl=>∃(i:Int) (q r:Nat),iv=.int .i64 i∧ -1<=i∧i<=52∧qv=.int .u64 q∧q<=9007199254740991∧Hid (RdN wl nv r)∧Hid (N1=q*(D1*2^(i+1).toNat)+r∧r<D1*2^(i+1).toNat)∧Hid (∀a,a<53->∃pv,wl.cell? ⟨g,a,none⟩=some pv∧RdN wl pv (D1*2^a))∧Hid (RdN wl u6 D1)∧Hid (Below W.heap.size W wl))
              (fun _ _ i _=>(intOf i+1).toNat)
             case atStart=>exact ⟨52,0,N1,rfl,by omega,by omega,rfl,by omega,cd.out,⟨by simp,bh.out⟩,HC.out,b4.out,db.out⟩
             case round =>
              obtain ⟨i,q,r,rfl,cy,cw,rfl,hq,aa,HQ,HC,ab,HB⟩:=hrel;have bb:Hid (Big (r)):=ap.out.le (by have :=HQ.out.1;omega);by_cases hi0:0<=i
              ·obtain ⟨t,rfl⟩:=Int.eq_ofNat_of_zero_le hi0;obtain ⟨pv,ah,bc⟩:=HC.out t (by omega);have bd:=Lib.hid bc;have a7:=Lib.hid ah;obtain ⟨q2,bi⟩:∃q2,q2=2*q:=⟨_,rfl⟩;have gq:IntKind.u64.wrap ((q:Int)*2)=(q2:Int):=(by rw [IntKind.wrap_u64];omega);obtain ⟨P,hP⟩:∃P,P=D1*2^t:=⟨_,rfl⟩;have hQ:N1=q*(2*P)+r∧r<2*P:=by
                have e:D1*2^((t:Int)+1).toNat=2*P:=by
                 rw [show ((t:Int)+1).toNat=t+1 by omega,Nat.pow_succ,<-Nat.mul_assoc,<-hP,Nat.mul_comm P 2]
                have :=HQ.out
                rwa [e] at this
               have bn:=Lib.hid hP;rw [<-hP] at bd;have cs:Hid (Big (P)):=by
                have h2:D1*2^t<=D1*2^53:=Nat.mul_le_mul_left _ (Nat.pow_le_pow_right (by decide) (by omega));show Big _;rw [hP];exact ai.out.le h2
               have cz:(t:Int)<53:=(by omega);clear bc hP;by_cases hle:P<=r
               ·obtain ⟨b1,b2⟩:=qoW hQ.1 hle hQ.2;rw [<-bi] at b1;obtain ⟨q3,ch⟩:∃q3,q3=q2+1:=⟨_,rfl⟩;rw [<-ch] at b1;have a8:q3<=9007199254740991:=q_bd bh.out (by rw [<-bn.out];exact b1);have gq3:IntKind.u64.wrap ((q2:Int)+1)=(q3:Int):=(by rw [IntKind.wrap_u64];omega);have a6:Hid (N1=q3*(D1*2^((t:Int)-1+1).toNat)+(r-P)∧r-P<D1*2^((t:Int)-1+1).toNat):=by
                 rw [show ((t:Int)-1+1).toNat=t by omega,<-bn.out];exact ⟨b1,b2⟩
                have cj:=Lib.hid hle;clear b1 b2 hle hQ bi ch;go_wp2_with fail;refine (qlk aa.out bd.out bb.out cs.out cj.out).mono ?_;rintro e w3 ⟨rfl,hE⟩;have au:=hE.cell_some a7.out;have af:=Lib.hid hE.below;clear hE;go_wp2_with fail;refine (qpm _ _ _ _ _ (aa.out.on af.out) (bd.out.on af.out) bb.out cj.out).mono ?_;rintro e w4 ⟨r4,rfl,hr,hB⟩;have cg:=Lib.hid hr;have ac:Hid (Below wr.heap.size wr w4):=af.out.trans (hB.mono af.out.size);clear hr hB ah au;have a5:Hid (∀a,a<53->∃pv,w4.cell? ⟨g,a,none⟩=some pv∧RdN w4 pv (D1*2^a)):=fun a ha=>by
                 obtain ⟨pv,h1,h2⟩:=HC.out a ha;exact ⟨pv,(ac.out.cell (qaa h1)).trans h1,h2.on ac.out⟩
                go_wp2_with fail;go_roundw
                case rel=>first|exact ⟨(t:Int)-1,q3,r-P,rfl,by omega,by omega,rfl,a8,cg.out,a6.out,a5.out,ab.out.on ac.out,HB.out.trans (ac.out.mono HB.out.size)⟩|((repeat apply Exists.intro);exact ⟨⟨(t:Int)-1,q3,r-P,rfl,by omega,by omega,rfl,a8,cg.out,a6.out,a5.out,ab.out.on ac.out,HB.out.trans (ac.out.mono HB.out.size)⟩,rfl⟩)
                case measure=>simp [intOf]
               ·obtain ⟨b1,b2⟩:=qqd hQ.1 (by omega:r<P);rw [<-bi] at b1;have a8:q2<=9007199254740991:=q_bd bh.out (by rw [<-bn.out];exact b1);have a6:Hid (N1=q2*(D1*2^((t:Int)-1+1).toNat)+r∧r<D1*2^((t:Int)-1+1).toNat):=by
                 rw [show ((t:Int)-1+1).toNat=t by omega,<-bn.out];exact ⟨b1,b2⟩
                have aq:=Lib.hid b2;clear b1 b2 hle hQ bi;go_wp2_with fail;refine (qlC aa.out bd.out bb.out cs.out aq.out).mono ?_;rintro e w3 ⟨rfl,hE⟩;have af:=Lib.hid hE.below;clear hE ah;have a5:Hid (∀a,a<53->∃pv,w3.cell? ⟨g,a,none⟩=some pv∧RdN w3 pv (D1*2^a)):=fun a ha=>by
                 obtain ⟨pv,h1,h2⟩:=HC.out a ha;exact ⟨pv,(af.out.cell (qaa h1)).trans h1,h2.on af.out⟩
                go_wp2_with fail;go_roundw
                case rel=>first|exact ⟨(t:Int)-1,q2,r,rfl,by omega,by omega,rfl,a8,aa.out.on af.out,a6.out,a5.out,ab.out.on af.out,HB.out.trans (af.out.mono HB.out.size)⟩|((repeat apply Exists.intro);exact ⟨⟨(t:Int)-1,q2,r,rfl,by omega,by omega,rfl,a8,aa.out.on af.out,a6.out,a5.out,ab.out.on af.out,HB.out.trans (af.out.mono HB.out.size)⟩,rfl⟩)
                case measure=>simp [intOf]
              ·obtain rfl:i= -1:=(by omega);have ar:=HQ.out;rw [show ((-1:Int)+1).toNat=0 from rfl] at ar;have c7:4503599627370496<=q:=q_lo HT.out ar.1 ar.2;rw [Nat.pow_zero,Nat.mul_one] at ar;have cb:=Lib.hid ar;have bg:Hid (Big (r*2)):=by
                refine ai.out.le ?_;have h1:=ar.2;have h2:D1*2<=D1*2^53:=Nat.mul_le_mul_left _ (by decide);omega
               have be:Hid (Big D1):=ai.out.le (Nat.le_mul_of_pos_right _ (by decide));clear ar HQ;go_wp2_with fail;refine (qec _ _ _ aa.out bb.out).mono ?_;rintro e w3 ⟨tv,rfl,hr,hB⟩;have b9:=Lib.hid hr;have aj:=Lib.hid hB;have ax:Hid (RdN w3 u6 D1):=ab.out.on hB;have bq:Hid (Below W.heap.size W w3):=HB.out.trans (hB.mono HB.out.size);clear hr hB ab HB aa HC;go_wp2_with fail;have am:Hid (∀c,up r D1 q=c->((qa8 m x:Nat):Int)=(1074+t+u)*4503599627370496+q+c):=by
                intro c hc;have hj:(1074+t+u).toNat+(-t).toNat=1074+u:=(by omega);have h1:=qm9 (m:=m) (x:=x) (s:=(-t).toNat) (u:=u) (q:=q) (r:=r) (j:=(1074+t+u).toNat) hm hx (by omega) hj c7 (by omega)
                 (by rw [<-ae.out,<-bf.out];exact cb.out.2) (by rw [<-al.out,<-cr.out,<-ae.out,<-bf.out];exact cb.out.1)
                rw [<-ae.out,<-bf.out,hc] at h1;rw [h1];omega
               clear hi0 cy cw cb cr bf al ae ay ap br a3 ba cm cn bp ai b8 bv HT ao bh bb;by_cases hA:D1<r*2
               ·have aq := Lib.hid hA
                clear hA;refine (qlC ax.out b9.out be.out bg.out aq.out).mono ?_;rintro e w4 ⟨rfl,hE⟩;have ac:Hid (Below W.heap.size W w4):=bq.out.trans (hE.below.mono bq.out.size);have HU:=Lib.hid (am.out 1 (by unfold up;rw [if_pos];left;have :=aq.out;omega));clear hE;go_wp2_with fail
                all_goals
                 go_ret;refine ⟨qbd ?_,ac.out⟩;rw [HU.out]
                 first
                  | (have h : ((q : Int) + 1 == 9007199254740992) = false := by assumption
                     omega)
                  | (have h : ((q : Int) + 1 == 9007199254740992) = true := by assumption
                     rw [beq_iff_eq] at h;rw [IntKind.wrap_u64,IntKind.wrap_u64];omega)
               ·have aq:Hid (r*2<=D1):=(by show _<=_;omega);clear hA;refine (qlk ax.out b9.out be.out bg.out aq.out).mono ?_;rintro e w4 ⟨rfl,hE⟩;have ac:Hid (Below W.heap.size W w4):=bq.out.trans (hE.below.mono bq.out.size);have ak:Hid (RdN w4 u6 D1):=ax.out.on hE.below;have a2:Hid (RdN w4 tv (r*2)):=b9.out.on hE.below;clear hE;go_wp2_with fail;rcases Nat.lt_or_ge (r*2) D1 with hA|hA
                ·have az:=Lib.hid hA;clear hA;refine (qlC a2.out ak.out bg.out be.out az.out).mono ?_;rintro e w5 ⟨rfl,hE⟩;have a0:Hid (Below W.heap.size W w5):=ac.out.trans (hE.below.mono ac.out.size);have HU:=Lib.hid (am.out 0 (by unfold up;rw [if_neg];have :=az.out;omega));clear hE;go_wp2_with fail;go_ret;refine ⟨qbd ?_,a0.out⟩;rw [HU.out];omega
                ·have az:=Lib.hid hA;clear hA;refine (qlk a2.out ak.out bg.out be.out az.out).mono ?_;rintro e w5 ⟨rfl,hE⟩;have a0:Hid (Below W.heap.size W w5):=ac.out.trans (hE.below.mono ac.out.size);clear hE;rcases Nat.mod_two_eq_zero_or_one q with h2|h2
                 ·have HU:=Lib.hid (am.out 0 (by unfold up;rw [if_neg];have :=az.out;have :=aq.out;omega));have g2:((q:Int)%2==1)=false:=(by rw [beq_eq_false_iff_ne];omega);clear h2;go_wp2_with fail;go_ret;refine ⟨qbd ?_,a0.out⟩;rw [HU.out];omega
                 ·have HU := Lib.hid (am.out 1 (by unfold up; rw [if_pos]; right; have := az.out; have := aq.out; exact ⟨by omega, h2⟩))
                  have g2:((q:Int)%2==1)=true:=(by rw [beq_iff_eq];omega);clear h2;go_wp2_with fail
                  all_goals
                   go_ret;refine ⟨qbd ?_,a0.out⟩;rw [HU.out]
                   first
                    | (have h : ((q : Int) + 1 == 9007199254740992) = false := by assumption
                       omega)
                    | (have h : ((q : Int) + 1 == 9007199254740992) = true := by assumption
                       rw [beq_iff_eq] at h;rw [IntKind.wrap_u64,IntKind.wrap_u64];omega)
end Go.Proofs.YtnkelahimiipjaaGreatDoor
