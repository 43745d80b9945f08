import Derived.Test.YtnkelahimiipjaaGreatDoorNyt
import Derived.Test.YtnkelahimiipjaaGreatDoorPst
import Derived.Test.YtnkelahimiipjaaGreatDoorCmqt
import Derived.Test.YtnkelahimiipjaaGreatDoorPlt
set_option maxRecDepth 100000
set_option maxHeartbeats 8000000
namespace Go.Proofs.YtnkelahimiipjaaGreatDoor
open Go.RowKit Go.Sort Ieee
theorem qqa (r:Nat):double.word true r=9223372036854775808+r:=by
 unfold Format.word;rw [qdM];simp
theorem qpy (r:Nat):double.word false r=r:=by
 unfold Format.word;simp
theorem qky (m:Nat) (x:Int) (w:World) (h1:1<=m) (h2:m<=999999999999999) (hx: -300<=x) (hx':x<=290) (hr:qau m x 0=true):
  Calls Tryz.prog 150 #[.agg #[.int .i64 m,.int .i64 x,.int .i64 0]] w fun e w'=>e=.returned (.tuple #[.int .u64 (qa8 m x),.int .i64 0])∧Below w.heap.size w w':=by
 have HR:=Lib.hid hr;have KN:=Lib.hid (fun W=>qdJ m x W h1 h2 hx hx');have hb:=(qgb m x h1 (by omega) hx hx').2;obtain ⟨b,ab⟩:∃b,b=qa8 m x:=⟨_,rfl⟩;rw [<-ab] at KN hb ⊢;have g0:((m:Int)==0)=false:=by rw [beq_eq_false_iff_ne];omega
 clear hr ab;go_enter Tryz.func150,Tryz.ntmps150;go_wp2_with fail;refine (qbk m x 0 _).mono ?_;rintro e w1 ⟨rfl,aa⟩;rw [HR.out];have ac:w1.cell? ⟨w.heap.size,0,none⟩=some (.int .i64 m):=aa.cell_some (by simp);have ae:w1.cell? ⟨w.heap.size,1,none⟩=some (.int .i64 x):=aa.cell_some (by simp);have ad:w1.cell? ⟨w.heap.size,2,none⟩=some (.int .i64 0):=aa.cell_some (by simp);have HE:Hid (Ext w w1):=((Ext.refl w).alloc _).trans aa;clear aa;go_wp2_with fail;refine (KN.out _).mono ?_;rintro e w2 ⟨rfl,hB⟩;have HB:Hid (Below w.heap.size w w2):=HE.out.below.trans (hB.mono HE.out.size);clear hB;go_wp2_with fail
 go_ret2
 exact ⟨rfl,HB.out⟩
theorem qkv (m:Nat) (x:Int) (w:World) (h1:1<=m) (h2:m<=999999999999999) (hx: -300<=x) (hx':x<=290) (hr:qau (-(m:Int)) x 0=true):
  Calls Tryz.prog 150 #[.agg #[.int .i64 (-(m:Int)),.int .i64 x,.int .i64 0]] w fun e w'=>e=.returned (.tuple #[.int .u64 (9223372036854775808+qa8 m x:Nat),.int .i64 0])∧Below w.heap.size w w':=by
 have HR:=Lib.hid hr;have KN:=Lib.hid (fun W=>qdJ m x W h1 h2 hx hx');have hb:=(qgb m x h1 (by omega) hx hx').2;obtain ⟨b,ab⟩:∃b,b=qa8 m x:=⟨_,rfl⟩;rw [<-ab] at KN hb ⊢;have g0:(-(m:Int)==0)=false:=by rw [beq_eq_false_iff_ne];omega
 have g1: -(m:Int)<0:=by omega
 clear hr ab;go_enter Tryz.func150,Tryz.ntmps150;go_wp2_with fail;refine (qbk (-(m:Int)) x 0 _).mono ?_;rintro e w1 ⟨rfl,aa⟩;rw [HR.out];have ac:w1.cell? ⟨w.heap.size,0,none⟩=some (.int .i64 (-(m:Int))):=aa.cell_some (by simp);have ae:w1.cell? ⟨w.heap.size,1,none⟩=some (.int .i64 x):=aa.cell_some (by simp);have ad:w1.cell? ⟨w.heap.size,2,none⟩=some (.int .i64 0):=aa.cell_some (by simp);have HE:Hid (Ext w w1):=((Ext.refl w).alloc _).trans aa;clear aa;go_wp2_with fail;refine (KN.out _).mono ?_;rintro e w2 ⟨rfl,hB⟩;have HB:Hid (Below w.heap.size w w2):=HE.out.below.trans (hB.mono HE.out.size);clear hB;go_wp2_with fail
 go_ret2
 exact ⟨by simp,HB.out⟩
theorem qls (m x s:Int) (w:World) (hr:qau m x s=false):
  Calls Tryz.prog 150 #[.agg #[.int .i64 m,.int .i64 x,.int .i64 s]] w fun e w'=>e=.returned (.tuple #[.int .u64 0,.int .i64 20])∧Below w.heap.size w w':=by
 have HR:=Lib.hid hr;clear hr;go_enter Tryz.func150,Tryz.ntmps150;go_wp2_with fail;refine (qbk m x s _).mono ?_;rintro e w1 ⟨rfl,aa⟩;rw [HR.out];have HE:Hid (Ext w w1):=((Ext.refl w).alloc _).trans aa;clear aa;go_wp2_with fail
 go_ret2
 exact ⟨rfl,HE.out.below⟩
theorem qbY (s:Int) (b:Nat) (w:World) (hs:(s=1∧b=9218868437227405314)∨(s=2∧b=9218868437227405312)∨(s=3∧b=18442240474082181120)∨(s=4∧b=9223372036854775808)∨(s=0∧b=0)):
  Calls Tryz.prog 150 #[.agg #[.int .i64 0,.int .i64 0,.int .i64 s]] w fun e w'=>e=.returned (.tuple #[.int .u64 b,.int .i64 0])∧Below w.heap.size w w':=by
 rcases hs with ⟨rfl,rfl⟩|⟨rfl,rfl⟩|⟨rfl,rfl⟩|⟨rfl,rfl⟩|⟨rfl,rfl⟩
 all_goals
  go_enter Tryz.func150,Tryz.ntmps150;go_wp2_with fail;refine (qbk 0 0 _ _).mono ?_;rintro e w1 ⟨rfl,aa⟩;rw [show qau 0 0 _=true from rfl];have ab:w1.cell? ⟨w.heap.size,0,none⟩=some (.int .i64 0):=aa.cell_some (by simp);have ac:w1.cell? ⟨w.heap.size,2,none⟩=some (.int .i64 _):=aa.cell_some (by simp;rfl);have HE:Hid (Ext w w1):=((Ext.refl w).alloc _).trans aa;clear aa;go_wp2_with fail
  go_ret2
  exact ⟨rfl,HE.out.below⟩
theorem qfl (m x:Int) (hm:m≠0) (h1: -1000000000000000<m) (h2:m<1000000000000000) (hx: -300<=x) (hx':x<=290):qfA m x=(if m<0 then 9223372036854775808 else 0)+qa8 m.natAbs x:=by
 unfold qfA;rw [if_neg hm,qjk m.natAbs x (by omega) (by omega) hx hx'];by_cases h:m<0
 ·rw [decide_eq_true h,qqa,if_pos h]
 ·rw [decide_eq_false h,qpy,if_neg h,Nat.zero_add]
theorem qeM (m x s:Int) (w:World):
  Calls Tryz.prog 150 #[.agg #[.int .i64 m,.int .i64 x,.int .i64 s]] w fun e w'=>e=.returned (.tuple #[.int .u64 (qbR m x s),.int .i64 (errV m x s)])∧Below w.heap.size w w':=by
 unfold qbR errV;cases hr:qau m x s
 ·exact qls m x s w hr
 ·simp only [Bool.true_eq_false,if_false,if_true];have h:=hr;unfold qau at h;by_cases hs:s=0
  ·subst hs;simp only [show (0:Int)≠1 from by decide,show (0:Int)≠2 from by decide,show (0:Int)≠3 from by decide,show (0:Int)≠4 from by decide,if_false];rw [if_neg (by decide)] at h
   split at h
   ·cases h
   ·split at h
    ·rename_i hm;simp only [decide_eq_true_eq] at h;subst hm;subst h;exact qbY 0 0 w (.inr (.inr (.inr (.inr ⟨rfl,rfl⟩))))
    ·simp only [decide_eq_true_eq] at h;have aa:m≠0:=(by assumption);rw [qfl m x aa (by omega) (by omega) h.2.1 h.2.2];rcases (by omega:0<m∨m<0) with hm|hm
     ·obtain ⟨n,rfl⟩:∃n:Nat,m=n:=⟨m.toNat,by omega⟩;rw [if_neg (by omega),Nat.zero_add,Int.natAbs_natCast];exact qky n x w (by omega) (by omega) h.2.1 h.2.2 hr
     ·obtain ⟨n,rfl⟩:∃n:Nat,m= -(n:Int):=⟨m.natAbs,by omega⟩;rw [if_pos hm,Int.natAbs_neg,Int.natAbs_natCast];exact qkv n x w (by omega) (by omega) h.2.1 h.2.2 hr
  ·rw [if_pos hs] at h;simp only [decide_eq_true_eq] at h;obtain ⟨h1,h2,rfl,rfl⟩:=h;have :s=1∨s=2∨s=3∨s=4:=(by omega);rcases this with rfl|rfl|rfl|rfl
   ·exact qbY 1 _ w (.inl ⟨rfl,rfl⟩)
   ·exact qbY 2 _ w (.inr (.inl ⟨rfl,rfl⟩))
   ·exact qbY 3 _ w (.inr (.inr (.inl ⟨rfl,rfl⟩)))
   ·exact qbY 4 _ w (.inr (.inr (.inr (.inl ⟨rfl,rfl⟩))))
end Go.Proofs.YtnkelahimiipjaaGreatDoor
namespace Go.Proofs.YtnkelahimiipjaaGreatDoor
open Go.RowKit Go.Sort
theorem qee {m x s:Int} (h:qau m x s=true):
  (s=0∧m=0∧x=0∧qbR m x s=0)∨
  (s=0∧m≠0∧ -1000000000000000<m∧m<1000000000000000∧ -300<=x∧x<=290∧m%10≠0∧qbR m x s=(if m<0 then 9223372036854775808 else 0)+qa8 m.natAbs x∧4503599627370496<=qa8 m.natAbs x∧qa8 m.natAbs x<9218868437227405312)∨
  (m=0∧x=0∧((s=1∧qbR m x s=9218868437227405314)∨(s=2∧qbR m x s=9218868437227405312)∨(s=3∧qbR m x s=18442240474082181120)∨(s=4∧qbR m x s=9223372036854775808))):=by
 have hb:qbR m x s=if s=1 then 9218868437227405314 else if s=2 then 9218868437227405312 else if s=3 then 18442240474082181120 else if s=4 then 9223372036854775808 else qfA m x:=by
  unfold qbR;rw [h,if_neg (show ¬(true=false) by decide)]
 unfold qau at h;by_cases hs:s=0
 ·have ab:qbR m x s=qfA m x:=by
   rw [hb,if_neg (by omega),if_neg (by omega),if_neg (by omega),if_neg (by omega)]
  rw [if_neg (by rw [hs];decide)] at h
  split at h
  ·cases h
  ·split at h
   ·rename_i hm;simp only [decide_eq_true_eq] at h;left;refine ⟨hs,hm,h, ?_⟩;rw [ab,hm];unfold qfA;rw [if_pos rfl]
   ·simp only [decide_eq_true_eq] at h;have aa:m≠0:=(by assumption);right;left;have hn:=qgb m.natAbs x (by omega) (by omega) h.2.1 h.2.2;exact ⟨hs,aa,by omega,by omega,h.2.1,h.2.2,h.1,ab.trans (qfl m x aa (by omega) (by omega) h.2.1 h.2.2),hn.1,hn.2⟩
 ·rw [if_pos hs] at h;simp only [decide_eq_true_eq] at h;obtain ⟨h1,h2,h3,h4⟩:=h;right;right;refine ⟨h3,h4, ?_⟩;rcases (by omega:s=1∨s=2∨s=3∨s=4) with e|e|e|e
  ·exact .inl ⟨e,by rw [hb,if_pos e]⟩
  ·exact .inr (.inl ⟨e,by rw [hb,if_neg (by omega),if_pos e]⟩)
  ·exact .inr (.inr (.inl ⟨e,by rw [hb,if_neg (by omega),if_neg (by omega),if_pos e]⟩))
  ·exact .inr (.inr (.inr ⟨e,by rw [hb,if_neg (by omega),if_neg (by omega),if_neg (by omega),if_pos e]⟩))
theorem qmv {m x s m' x' s':Int} (h:qau m x s=true) (h':qau m' x' s'=true) (e:qbR m x s=qbR m' x' s'):m=m'∧x=x'∧s=s':=by
 rcases qee h with ⟨a1,a2,a3,a4⟩|⟨a1,a2,a3,a4,a5,a6,a7,a8,a9,a10⟩|⟨a1,a2,a3⟩<;>
 rcases qee h' with ⟨b1,b2,b3,b4⟩|⟨b1,b2,b3,b4,b5,b6,b7,b8,b9,b10⟩|⟨b1,b2,b3⟩
 ·omega
 ·rw [a4,b8] at e;split at e<;>omega
 ·omega
 ·rw [a8,b4] at e;split at e<;>omega
 ·rw [a8,b8] at e;have hn:qa8 m.natAbs x=qa8 m'.natAbs x'∧(m<0↔m'<0):=by split at e<;>split at e<;>omega
  obtain ⟨h1,h2⟩:=qkS m.natAbs m'.natAbs x x' (by omega) (by omega) (by omega) (by omega) a5 b5 hn.1;omega
 ·rw [a8] at e;split at e<;>omega
 ·omega
 ·rw [b8] at e;split at e<;>omega
 ·omega
theorem qk1 (a b:Smp) (w:World):
  Calls Tryz.prog 138 #[.agg #[.int .i64 a.2.1,.int .i64 a.2.2.1,.int .i64 a.2.2.2],.agg #[.int .i64 b.2.1,.int .i64 b.2.2.1,.int .i64 b.2.2.2]] w fun e w'=>e=.returned (.int .i64 (cmpV a b))∧Below w.heap.size w w':=by
 obtain ⟨at_,am,ax,as_⟩:=a;obtain ⟨bt,bm,bx,bs⟩:=b;unfold cmpV Smp.bits;obtain ⟨u,hu⟩:∃u,u=qbR am ax as_:=⟨_,rfl⟩;obtain ⟨v,hv⟩:∃v,v=qbR bm bx bs:=⟨_,rfl⟩;have B1:∀w,Calls Tryz.prog 150 #[.agg #[.int .i64 am,.int .i64 ax,.int .i64 as_]] w fun e w'=>e=.returned (.tuple #[.int .u64 u,.int .i64 (errV am ax as_)])∧Below w.heap.size w w':=fun w=>by rw [hu];exact qeM am ax as_ w
 have B2:∀w,Calls Tryz.prog 150 #[.agg #[.int .i64 bm,.int .i64 bx,.int .i64 bs]] w fun e w'=>e=.returned (.tuple #[.int .u64 v,.int .i64 (errV bm bx bs)])∧Below w.heap.size w w':=fun w=>by rw [hv];exact qeM bm bx bs w
 simp only;rw [<-hu,<-hv];have K1:=Lib.hid B1;have K2:=Lib.hid B2;clear hu hv B1 B2;obtain ⟨w0,aa⟩:∃w0,w0=(w.alloc (.cells #[.int .i64 am,.int .i64 ax,.int .i64 as_] 64)).alloc (.cells #[.int .i64 bm,.int .i64 bx,.int .i64 bs] 64):=⟨_,rfl⟩;have af:Hid (Ext w w0):=by show Ext _ _;rw [aa];exact ((Ext.refl w).alloc _).alloc _
 have hs:w0.heap.size=w.heap.size+2:=by rw [aa];simp
 have HS:=Lib.hid hs;have d0:w0.cell? ⟨w.heap.size+1,0,none⟩=some (.int .i64 bm):=by rw [aa];simp
 have d1:w0.cell? ⟨w.heap.size+1,1,none⟩=some (.int .i64 bx):=by rw [aa];simp
 have d2:w0.cell? ⟨w.heap.size+1,2,none⟩=some (.int .i64 bs):=by rw [aa];simp
 have D0:=Lib.hid d0;have D1:=Lib.hid d1;have D2:=Lib.hid d2;clear hs d0 d1 d2;have ab:(u<v∧cmpI u v= -1)∨(u=v∧cmpI u v=0)∨(v<u∧cmpI u v=1):=by
  unfold cmpI;rcases Nat.lt_trichotomy u v with h|h|h
  ·exact .inl ⟨h,by rw [if_pos (by omega)]⟩
  ·exact .inr (.inl ⟨h,by rw [if_neg (by omega),if_neg (by omega)]⟩)
  ·exact .inr (.inr ⟨h,by rw [if_neg (by omega),if_pos (by omega)]⟩)
 rcases ab with ⟨h,hc⟩|⟨h,hc⟩|⟨h,hc⟩
 all_goals
  rw [hc];clear hc
  first|subst h|skip
  go_enter Tryz.func138,Tryz.ntmps138;go_wp2_with fail;rw [<-aa];refine (K1.out _).mono ?_;rintro e w1 ⟨rfl,ac⟩;have ah:w1.cell? ⟨w.heap.size+1,0,none⟩=some (.int .i64 bm):=(ac.cell (by have :=HS.out;simp;omega)).trans D0.out;have aj:w1.cell? ⟨w.heap.size+1,1,none⟩=some (.int .i64 bx):=(ac.cell (by have :=HS.out;simp;omega)).trans D1.out;have ai:w1.cell? ⟨w.heap.size+1,2,none⟩=some (.int .i64 bs):=(ac.cell (by have :=HS.out;simp;omega)).trans D2.out;have ad:Hid (Below w.heap.size w w1):=af.out.below.trans (ac.mono af.out.size);clear ac aa;go_wp2_with fail;refine (K2.out _).mono ?_;rintro e w2 ⟨rfl,ae⟩;have ag:Hid (Below w.heap.size w w2):=ad.out.trans (ae.mono ad.out.size);clear ae;go_wp2_with fail;go_ret;exact ⟨rfl,ag.out⟩
theorem qn2 {a b:Int} (h:a≠0):orI a b=a:=by unfold orI;rw [if_pos h]
theorem qnP (b:Int):orI 0 b=b:=by unfold orI;simp
theorem qjx (a b:Smp) (w:World):
  Calls Tryz.prog 126 #[vS a,vS b] w fun e w'=>e=.returned (.int .i64 (cmpS a b))∧Below w.heap.size w w':=by
 have KF:∀W,Calls Tryz.prog 138 #[.agg #[.int .i64 a.2.1,.int .i64 a.2.2.1,.int .i64 a.2.2.2],.agg #[.int .i64 b.2.1,.int .i64 b.2.2.1,.int .i64 b.2.2.2]] W fun e w'=>e=.returned (.int .i64 (cmpV a b))∧Below W.heap.size W w':=fun W=>qk1 a b W;obtain ⟨v,hv⟩:∃v,v=cmpV a b:=⟨_,rfl⟩;have ab:(a.1<b.1∧cmpS a b= -1)∨(b.1<a.1∧cmpS a b=1)∨(a.1=b.1∧cmpS a b=v):=by
  rw [hv];rcases Int.lt_trichotomy a.1 b.1 with h|h|h
  ·have e:cmpI a.1 b.1= -1:=(by unfold cmpI;rw [if_pos h]);exact .inl ⟨h,by unfold cmpS;rw [e];exact qn2 (by decide)⟩
  ·have e:cmpI a.1 b.1=0:=(by unfold cmpI;rw [if_neg (by omega),if_neg (by omega)]);exact .inr (.inr ⟨h,by unfold cmpS;rw [e];exact qnP _⟩)
  ·have e:cmpI a.1 b.1=1:=(by unfold cmpI;rw [if_neg (by omega),if_pos h]);exact .inr (.inl ⟨h,by unfold cmpS;rw [e];exact qn2 (by decide)⟩)
 rw [<-hv] at KF;have K:=Lib.hid KF;clear KF hv;unfold vS;obtain ⟨w0,aa⟩:∃w0,w0=(w.alloc (.cells #[.int .i64 a.1,.int .i64 a.2.1,.int .i64 a.2.2.1,.int .i64 a.2.2.2] 66)).alloc (.cells #[.int .i64 b.1,.int .i64 b.2.1,.int .i64 b.2.2.1,.int .i64 b.2.2.2] 66):=⟨_,rfl⟩;have ac:Hid (Ext w w0):=by show Ext _ _;rw [aa];exact ((Ext.refl w).alloc _).alloc _
 have a0:w0.cell? ⟨w.heap.size,0,none⟩=some (.int .i64 a.1):=by rw [aa];simp
 have a1:w0.cell? ⟨w.heap.size,1,none⟩=some (.int .i64 a.2.1):=by rw [aa];simp
 have a2:w0.cell? ⟨w.heap.size,2,none⟩=some (.int .i64 a.2.2.1):=by rw [aa];simp
 have a3:w0.cell? ⟨w.heap.size,3,none⟩=some (.int .i64 a.2.2.2):=by rw [aa];simp
 have b0:w0.cell? ⟨w.heap.size+1,0,none⟩=some (.int .i64 b.1):=by rw [aa];simp
 have b1:w0.cell? ⟨w.heap.size+1,1,none⟩=some (.int .i64 b.2.1):=by rw [aa];simp
 have b2:w0.cell? ⟨w.heap.size+1,2,none⟩=some (.int .i64 b.2.2.1):=by rw [aa];simp
 have b3:w0.cell? ⟨w.heap.size+1,3,none⟩=some (.int .i64 b.2.2.2):=by rw [aa];simp
 rcases ab with ⟨h,hc⟩|⟨h,hc⟩|⟨h,hc⟩
 ·rw [hc];clear hc;go_enter Tryz.func126,Tryz.ntmps126;go_wp2_with fail;rw [<-aa];clear aa;go_wp2_with fail;go_ret;exact ⟨rfl,ac.out.below⟩
 ·rw [hc];have h2:¬a.1<b.1:=by omega
  clear hc;go_enter Tryz.func126,Tryz.ntmps126;go_wp2_with fail;rw [<-aa];clear aa;go_wp2_with fail;go_ret;exact ⟨rfl,ac.out.below⟩
 ·rw [hc];have h2:¬a.1<b.1:=by omega
  have h3:¬b.1<a.1:=by omega
  clear hc h;go_enter Tryz.func126,Tryz.ntmps126;go_wp2_with fail;rw [<-aa];clear aa;go_wp2_with fail;refine (K.out _).mono ?_;rintro e w1 ⟨rfl,ad⟩;have ae:Hid (Below w.heap.size w w1):=ac.out.below.trans (ad.mono ac.out.size);clear ad;go_wp2_with fail;go_ret;exact ⟨rfl,ae.out⟩
theorem qgT (a:Smp) (w:World):
  Calls Tryz.prog 113 #[vS a] w fun e w'=>e=.returned (.bool (qai a))∧Ext w w':=by
 obtain ⟨t,m,x,s⟩:=a;unfold vS qai;simp only;obtain ⟨v,hv⟩:∃v,v=qau m x s:=⟨_,rfl⟩;have KR:∀W,Calls Tryz.prog 125 #[.agg #[.int .i64 m,.int .i64 x,.int .i64 s]] W fun e w'=>e=.returned (.bool v)∧Ext W w':=fun W=>by rw [hv];exact qbk m x s W
 rw [<-hv];have K:=Lib.hid KR;clear KR hv;obtain ⟨w0,aa⟩:∃w0,w0=w.alloc (.cells #[.int .i64 t,.int .i64 m,.int .i64 x,.int .i64 s] 66):=⟨_,rfl⟩;have ac:Hid (Ext w w0):=by show Ext _ _;rw [aa];exact (Ext.refl w).alloc _
 have c0:w0.cell? ⟨w.heap.size,0,none⟩=some (.int .i64 t):=by rw [aa];simp
 have C0:=Lib.hid c0;have c1:w0.cell? ⟨w.heap.size,1,none⟩=some (.int .i64 m):=by rw [aa];simp
 have c2:w0.cell? ⟨w.heap.size,2,none⟩=some (.int .i64 x):=by rw [aa];simp
 have c3:w0.cell? ⟨w.heap.size,3,none⟩=some (.int .i64 s):=by rw [aa];simp
 rcases (by omega:(0<=t∧t<=1099511627776)∨t<0∨(0<=t∧1099511627776<t)) with ⟨h1,h2⟩|h|⟨h1,h2⟩
 all_goals
  cases v
  all_goals
   first
    |(have g1:decide (0<=t)=true:=by simp;omega)
    |(have g1:decide (0<=t)=false:=by simp;omega)
   first
    |(have g2:decide (t<=1099511627776)=true:=by simp;omega)
    |(have g2:decide (t<=1099511627776)=false:=by simp;omega)
   have hd:Hid (decide (0<=t∧t<=1099511627776)=(decide (0<=t) && decide (t<=1099511627776))):=(by show _=_;simp);rw [hd.out,g1,g2];go_enter Tryz.func113,Tryz.ntmps113;go_wp2_with fail;rw [<-aa];clear aa;refine (K.out _).mono ?_;rintro e w1 ⟨rfl,ab⟩;have d0:=ab.cell_some C0.out;have HE:=Lib.hid (ac.out.trans ab);clear ab c0 c1 c2 c3 hd;go_wp2_with fail;go_ret;exact ⟨rfl,HE.out⟩
def putS:List Smp->Smp->List Smp
 | [],s=>[s]
 |a::l,s=>if cmpS a s<0 then a::putS l s else if a=s then a::l else s::a::l
theorem qmQ {l:List Smp} {s:Smp} (h:∀i (h:i<l.length),cmpS l[i] s<0):putS l s=l++[s]:=by
 induction l with
 |nil=>rfl
 | cons a l ih =>
   have h0:=h 0 (by simp);have h1:=ih fun i hi=>h (i+1) (by simpa using hi);unfold putS;rw [if_pos (by simpa using h0),h1];rfl
theorem qot {l:List Smp} {s:Smp} {k:Nat} (hk:k<l.length) (h:∀i (h:i<l.length),i<k->cmpS l[i] s<0) (hn:¬cmpS l[k] s<0):
  putS l s=if l[k]=s then l else l.take k++[s]++l.drop k:=by
 induction l generalizing k with
 |nil=>simp at hk
 | cons a l ih =>
   cases k with
   | zero =>
     unfold putS;simp only [List.getElem_cons_zero] at hn ⊢;rw [if_neg hn]
     split<;>simp
   | succ k =>
     have h0:=h 0 (by simp) (by omega);have h1:=ih (k:=k) (by simpa using hk) (fun i hi aa=>h (i+1) (by simpa using hi) (by omega)) (by simpa using hn);unfold putS;simp only [List.getElem_cons_zero,List.getElem_cons_succ] at h0 ⊢;rw [if_pos h0,h1]
     split<;>simp
theorem qh9 (l:List Smp) (s:Smp):(putS l s).length<=l.length+1:=by
 induction l with
 |nil=>simp [putS]
 |cons a l ih=>unfold putS;split<;>(try split)<;>simp <;>omega
theorem Rd.cutTo {w:World} {B:Nat} {A:Option Addr} {n c k:Nat} {l:List Smp} (hn:n=l.length) (h:Rd w B (.slice A n c) l) (hk:k<=n):Rd w B (.slice A k c) (l.take k):=by
 obtain ⟨A',c',e,hc,hA⟩:=h;injection e with e1 e2 e3;subst e1 e3;have hl:(l.take k).length=k:=by rw [List.length_take];omega
 refine ⟨A,c,by rw [hl],by omega, ?_⟩;rcases hA with rfl|⟨b,o,rfl,hb,ab⟩
 ·left;simp
 ·right;refine ⟨b,o,rfl,hb,fun i hi=> ?_⟩;have aa:i<l.length:=by omega
  rw [List.getElem_take];exact ab i aa
theorem Rd.cutFrom {w:World} {B b o:Nat} {n c k:Nat} {l:List Smp} (hn:n=l.length) (h:Rd w B (.slice (some ⟨b,o,none⟩) n c) l) (hk:k<n):Rd w B (.slice (some ⟨b,o+k*4,none⟩) (n-k) (c-k)) (l.drop k):=by
 obtain ⟨A',c',e,hc,hA⟩:=h;injection e with e1 e2 e3;subst e1 e3;have hl:(l.drop k).length=n-k:=by rw [List.length_drop];omega
 refine ⟨_,c-k,by rw [hl],by omega, ?_⟩;rcases hA with rfl|⟨b',o',e,hb,aa⟩
 ·simp at hn;omega
 ·injection e with e;injection e with e1 e2;subst e1 e2;right;refine ⟨b,_,rfl,hb,fun i hi=> ?_⟩;have :=aa (k+i) (by omega);rw [show o+k*4+i*4=o+(k+i)*4 by omega,List.getElem_drop];exact this
theorem Cell4.ext {w w':World} {b o:Nat} {s:Smp} (h:Cell4 w b o s) (k:Below w.heap.size w w'):Cell4 w' b o s:=h.below k (qaa h.1)
theorem qcw (a:Addr) (n c:Nat):Nz (.slice (some a) n c):=fun _ _ e=>by injection e with e;cases e
theorem qi6:Nz (.slice none 0 0):=fun _ _ e=>by injection e with _ _ e;exact e.symm
theorem qkq (v : Value) (l : List Smp) (s : Smp) (W : World) (hR : Rd W W.heap.size v l) (hz : Nz v) (hl : l.length <= 100000) :
  Calls Tryz.prog 114 #[v,vS s] W fun e w'=>∃r,e=.returned r∧Rd w' w'.heap.size r (putS l s)∧Nz r∧Below W.heap.size W w'∧(Own w' W.heap.size 66 r (putS l s)∨(r=v∧putS l s=l)):=by
 have KC:Hid (∀a W,Calls Tryz.prog 126 #[vS a,vS s] W fun e w'=>e=.returned (.int .i64 (cmpS a s))∧Below W.heap.size W w'):=fun a W=>qjx a s W;obtain ⟨W0,au⟩:∃W0,W0=W.alloc (.cells #[.int .i64 s.1,.int .i64 s.2.1,.int .i64 s.2.2.1,.int .i64 s.2.2.2] 66):=⟨_,rfl⟩;have a2:Hid (Below W.heap.size W W0):=by show Below _ _ _;rw [au];exact (Below.refl _ _).alloc (Nat.le_refl _) _
 have bg:Hid (Cell4 W0 W.heap.size 0 s):=by show Cell4 _ _ _ _;rw [au];exact Cell4.new W s _ _ rfl
 have bf:Hid (Rd W0 W0.heap.size v l):=(hR.below a2.out).mono a2.out.size;have HR:=Lib.hid hR;have HZ:=Lib.hid hz;obtain ⟨A,c,rfl,hc,hA⟩:=hR;obtain ⟨n,hn⟩:∃n,n=l.length:=⟨_,rfl⟩;rw [<-hn] at hc HR bf HZ hl ⊢;have HN:=Lib.hid hn;have HA:=Lib.hid hA;have HC:=Lib.hid hc;have e4:∀a:Smp,vS a=.agg #[.int .i64 a.1,.int .i64 a.2.1,.int .i64 a.2.2.1,.int .i64 a.2.2.2]:=fun _=>rfl;rw [e4];clear hz hn hA hc;go_enter Tryz.func114,Tryz.ntmps114;go_wp2_with fail;rw [<-au];clear au
 go_loopw [5] (fun i wl=>∃k:Nat,k<=n∧i=.int .i64 k∧Hid (∀i (h:i<l.length),i<k->cmpS l[i] s<0)∧Hid (Cell4 wl W.heap.size 0 s)∧Hid (Below W.heap.size W wl))
  (fun i _=>n-(intOf i).toNat)
 case atStart=>exact ⟨0,Nat.zero_le _,rfl,fun _ _ h=>by omega,bg.out,a2.out⟩
 case round =>
  obtain ⟨k,hk,rfl,HF,HS,HB⟩:=hrel;by_cases hlt:k<n
  ·have a1 : k < l.length := by rw [<- HN.out]; exact hlt
   rcases HA.out with e|⟨b,o,e,hb,bc⟩
   ·subst e;simp at a1
   subst e;obtain ⟨y,hy⟩:∃y,y=l[k]:=⟨_,rfl⟩;have HY:=Lib.hid hy;have ba:Cell4 wr b (o+k*4) y:=(by rw [hy];exact (bc k a1).below HB.out hb);have a7:=Lib.hid ba;clear bc hy;obtain ⟨c0,c1,c2,c3⟩:=ba;obtain ⟨d0,d1,d2,d3⟩:=HS.out;obtain ⟨cv,a6⟩:∃cv,cv=cmpS y s:=⟨_,rfl⟩;have KC1:Hid (∀W,Calls Tryz.prog 126 #[.agg #[.int .i64 y.1,.int .i64 y.2.1,.int .i64 y.2.2.1,.int .i64 y.2.2.2],.agg #[.int .i64 s.1,.int .i64 s.2.1,.int .i64 s.2.2.1,.int .i64 s.2.2.2]] W fun e w'=>e=.returned (.int .i64 cv)∧Below W.heap.size W w'):=fun W=>(by rw [a6];exact KC.out y W);have bb:=Lib.hid a6;clear a6;have g1:(k:Int)<(n:Int):=(by omega);have KX:Hid (∀w' w'',Below wr.heap.size wr w'->Below w'.heap.size w' w''->Below wr.heap.size wr w''):=fun w' w'' h e=>h.trans (e.mono h.size);have KY:Hid (∀w',Below wr.heap.size wr w'->Cell4 w' b (o+k*4) y∧Cell4 w' W.heap.size 0 s):=fun w' h=>⟨a7.out.below h (qaa a7.out.1),HS.out.below h (qaa HS.out.1)⟩;have bi:Below wr.heap.size wr wr:=Below.refl _ _;go_wp2_with fail
   go_region_held3 (fun w'=>w'.cell? ⟨b,o+k*4,none⟩=some (.int .i64 y.1)∧w'.cell? ⟨b,o+k*4+1,none⟩=some (.int .i64 y.2.1)∧w'.cell? ⟨b,o+k*4+2,none⟩=some (.int .i64 y.2.2.1)∧w'.cell? ⟨b,o+k*4+3,none⟩=some (.int .i64 y.2.2.2)∧w'.cell? ⟨W.heap.size,0,none⟩=some (.int .i64 s.1)∧w'.cell? ⟨W.heap.size,1,none⟩=some (.int .i64 s.2.1)∧w'.cell? ⟨W.heap.size,2,none⟩=some (.int .i64 s.2.2.1)∧w'.cell? ⟨W.heap.size,3,none⟩=some (.int .i64 s.2.2.2)∧Below wr.heap.size wr w')
    (first|assumption|(have hd:=Below.drew (by assumption:Below wr.heap.size wr _);exact ⟨(KY.out _ hd).1.1,(KY.out _ hd).1.2.1,(KY.out _ hd).1.2.2.1,(KY.out _ hd).1.2.2.2,(KY.out _ hd).2.1,(KY.out _ hd).2.2.1,(KY.out _ hd).2.2.2.1,(KY.out _ hd).2.2.2.2,hd⟩)|exact ⟨by assumption,by assumption,by assumption,by assumption,by assumption,by assumption,by assumption,by assumption,by assumption⟩)
    (first|(go_at_call 126;refine (KC1.out _).mono ?_;rintro e w' ⟨rfl,hN⟩;have az:=KX.out _ _ (by first|assumption|exact Below.drew (by assumption)) hN;obtain ⟨⟨c0',c1',c2',c3'⟩,⟨d0',d1',d2',d3'⟩⟩:=KY.out _ az))
   have ax:Hid (Below wr.heap.size wr _):=az;have aw:Hid (Cell4 _ W.heap.size 0 s):=⟨d0',d1',d2',d3'⟩;have a9:Hid (Cell4 _ b (o+k*4) y):=⟨c0',c1',c2',c3'⟩;clear c0 c1 c2 c3 d0 d1 d2 d3 c0' c1' c2' c3' d0' d1' d2' d3' az hN bi KX KY a7;by_cases aq:cv<0
   ·have ai:Hid (∀i (h:i<l.length),i<k+1->cmpS l[i] s<0):=by
     intro i hi bn;rcases (by omega:i<k∨i=k) with h|h
     ·exact HF.out i hi h
     ·subst h;rw [<-HY.out,<-bb.out];exact aq
    go_wp2_with fail;go_roundw
    case rel=>exact ⟨k+1,by omega,by go_num,ai.out,aw.out,HB.out.trans (ax.out.mono HB.out.size)⟩
    case measure=>simp [intOf];omega
   ·have HP : Hid (putS l s = if y = s then l else l.take k ++ [s] ++ l.drop k) := by
     show _=_;rw [qot a1 HF.out (by rw [<-HY.out,<-bb.out];exact aq),<-HY.out]
    obtain ⟨p,hp⟩:∃p,p=decide (y=s):=⟨_,rfl⟩;have be:∀w,(binOp .eql 66 (.agg #[.int .i64 y.1,.int .i64 y.2.1,.int .i64 y.2.2.1,.int .i64 y.2.2.2]) (.agg #[.int .i64 s.1,.int .i64 s.2.1,.int .i64 s.2.2.1,.int .i64 s.2.2.2])).run Tryz.prog w=.ok (.bool p) w:=fun w=>hp▸qol y s w;have av:=Lib.hid hp;obtain ⟨c0,c1,c2,c3⟩:=a9.out;obtain ⟨d0,d1,d2,d3⟩:=aw.out;clear hp;go_wp2_with fail
    go_quiet (fail)
    obtain ⟨w3,aj⟩:∃w3,w3=w'.drewN nq:=⟨_,rfl⟩;rw [<-aj];have ac:Hid (Below W.heap.size W w3):=by
     show Below _ _ _;rw [aj];exact HB.out.trans ((ax.out.trans (((Ext.refl w').drewN nq).below.mono ax.out.size)).mono HB.out.size)
    have a5:Hid (Cell4 w3 W.heap.size 0 s):=(by show Cell4 _ _ _ _;rw [aj];exact aw.out.ext ((Ext.refl w').drewN nq).below);clear aj c0 c1 c2 c3 d0 d1 d2 d3 ax aw a9 HB HS be;cases p with
    | true =>
      have ap:y=s:=of_decide_eq_true av.out.symm;have ai:Hid (putS l s=l):=(by show _=_;rw [HP.out,if_pos ap]);clear ap av;go_wp2_with fail;go_ret;refine ⟨_,rfl, ?_,HZ.out,ac.out,.inr ⟨rfl,ai.out⟩⟩;rw [ai.out];exact (HR.out.below ac.out).mono ac.out.size
    | false =>
      have ap:¬y=s:=of_decide_eq_false av.out.symm;have ai:Hid (putS l s=l.take k++s::l.drop k):=(by show _=_;rw [HP.out,if_neg ap];simp);have ar:Hid (Rd w3 w3.heap.size (.slice (some ⟨b,o,none⟩) n c) l):=(HR.out.below ac.out).mono ac.out.size;have bm:k<c:=(by have :=HC.out;omega);have bd:k<=n:=(by omega);have al:Hid ((l.take k).length<=100000):=(by show _<=_;rw [List.length_take];omega);have bh:Hid ((l.drop k).length<=100000):=(by show _<=_;rw [List.length_drop,<-HN.out];omega);have HT:=Lib.hid (ar.out.cutTo HN.out bd);have HD:=Lib.hid (ar.out.cutFrom HN.out hlt);clear ap av;go_wp2_with (first|(at_builtin;refine appN rfl _ _ 60 66 rfl Tryz.underlying60 qaM w3.heap.size (.slice none 0 0) [] _ (l.take k) w3.heap.size rfl (Own.nil _ _ _) rfl HT.out ?z1 ?z2 ?z3 ?_)|fail)
      case z1=>exact qcw _ _ _
      case z2=>have :=al.out;first|omega|(simp;omega)
      case z3=>exact Nat.le_refl _
      ·intro v1 w4 af hg ab _;have ak:Hid (Below w3.heap.size w3 w4):=(Below.refl _ _).grown hg (Nat.le_refl _) (fun g ah=>by simp [Value.ownBlock] at ah);obtain ⟨d0,d1,d2,d3⟩:Cell4 w4 W.heap.size 0 s:=a5.out.ext ak.out;clear hg ab;have a3:Hid (∀o,Below w3.heap.size w3 (w4.alloc o)):=fun o=>ak.out.alloc ak.out.size _;have ao:Hid (w3.heap.size<=w4.heap.size):=ak.out.size;go_wp2_with (first|(at_builtin;refine app1 rfl _ _ 60 66 rfl Tryz.underlying60 qaM w3.heap.size _ (l.take k) s rfl (af.alloc _) w4.heap.size 0 1 rfl (Cell4.new _ s _ _ rfl) ?y1 ?y2 ?_)|fail)
       case y1=>have :=al.out;omega
       case y2=>have :=ao.out;simp;omega
       ·intro v2 w5 ae hg ab;have ag:Hid (Below w3.heap.size w3 w5):=(a3.out _).grown hg (by have :=ao.out;simp;omega) (fun g ah=>(af.blk ah).1);clear hg ab af d0 d1 d2 d3;have bl:Hid (Rd w5 w5.heap.size (.slice (some ⟨b,o+k*4,none⟩) (n-k) (c-k)) (l.drop k)):=(HD.out.below ag.out).mono ag.out.size;go_wp2_with (first|(at_builtin;refine appN rfl _ _ 60 66 rfl Tryz.underlying60 qaM w3.heap.size _ (l.take k++[s]) _ (l.drop k) w5.heap.size rfl ae rfl bl.out ?x1 ?x2 ?x3 ?_)|fail)
        case x1=>exact qcw _ _ _
        case x2=>have :=al.out;have :=bh.out;simp only [List.length_append,List.length_singleton];omega
        case x3=>exact ag.out.size
        ·intro v3 w6 aa hg ab _;have am:Hid (Below w3.heap.size w3 w6):=ag.out.grown hg ag.out.size (fun g ah=>(ae.blk ah).1);have HO:=Lib.hid aa;clear hg ab ae aa;go_wp2_with fail;go_ret;exact ⟨_,rfl,ai.out▸HO.out.rd,HO.out.nz,ac.out.trans (am.out.mono ac.out.size),.inl (ai.out▸HO.out.lower ac.out.size)⟩
  ·obtain rfl:n=k:=(by omega);have ai:Hid (putS l s=l++[s]):=qmQ fun i hi=>HF.out i hi (by rw [HN.out];exact hi);have g1:decide ((n:Int)<(n:Int))=false:=(by simp);have a8:n<=c:=HC.out;go_wp2_with fail
   go_quiet (fail)
   obtain ⟨w1,ay⟩:∃w1,w1=wr.drewN nq:=⟨_,rfl⟩;rw [<-ay];have a0:Hid (Ext wr w1):=(by show Ext _ _;rw [ay];exact (Ext.refl wr).drewN nq);clear ay;go_wp2_with fail
   go_quiet (fail)
   obtain ⟨w3,aj⟩:∃w3,w3=w1.drewN nq:=⟨_,rfl⟩;rw [<-aj];have ac:Hid (Below W.heap.size W w3):=by
    show Below _ _ _;rw [aj];exact HB.out.trans ((a0.out.trans ((Ext.refl w1).drewN nq)).below.mono HB.out.size)
   have a5:Hid (Cell4 w3 W.heap.size 0 s):=(by show Cell4 _ _ _ _;rw [aj];exact HS.out.ext (a0.out.trans ((Ext.refl w1).drewN nq)).below);clear aj a0 HB HS HF;have ar:Hid (Rd w3 w3.heap.size (.slice A n c) l):=(HR.out.below ac.out).mono ac.out.size;have al:Hid (l.length<=100000):=(by show _<=_;rw [<-HN.out];exact hl);go_wp2_with (first|(at_builtin;refine appN rfl _ _ 60 66 rfl Tryz.underlying60 qaM w3.heap.size (.slice none 0 0) [] _ l w3.heap.size rfl (Own.nil _ _ _) rfl ar.out ?z1 ?z2 ?z3 ?_)|fail)
   case z1=>exact HZ.out
   case z2=>have :=al.out;first|omega|(simp;omega)
   case z3=>exact Nat.le_refl _
   ·intro v1 w4 af hg ab _;have ak:Hid (Below w3.heap.size w3 w4):=(Below.refl _ _).grown hg (Nat.le_refl _) (fun g ah=>by simp [Value.ownBlock] at ah);obtain ⟨d0,d1,d2,d3⟩:Cell4 w4 W.heap.size 0 s:=a5.out.ext ak.out;clear hg ab;have a3:Hid (∀o,Below w3.heap.size w3 (w4.alloc o)):=fun o=>ak.out.alloc ak.out.size _;have ao:Hid (w3.heap.size<=w4.heap.size):=ak.out.size;go_wp2_with (first|(at_builtin;refine app1 rfl _ _ 60 66 rfl Tryz.underlying60 qaM w3.heap.size _ l s rfl (af.alloc _) w4.heap.size 0 1 rfl (Cell4.new _ s _ _ rfl) ?y1 ?y2 ?_)|fail)
    case y1=>have :=al.out;omega
    case y2=>have :=ao.out;simp;omega
    ·intro v2 w5 ae hg ab;have ag:Hid (Below w3.heap.size w3 w5):=(a3.out _).grown hg (by have :=ao.out;simp;omega) (fun g ah=>(af.blk ah).1);clear hg ab af d0 d1 d2 d3;have an:=Lib.hid ae;clear ae;cases A with
     | none =>
       have aq:c=0:=HZ.out _ _ rfl;have bk:n=0:=(by omega);subst aq;clear a8 g1;subst bk;go_wp2_with (first|(at_builtin;refine appN rfl _ _ 60 66 rfl Tryz.underlying60 qaM w3.heap.size _ (l++[s]) _ [] w5.heap.size rfl an.out rfl ?x0 ?x1 ?x2 ?x3 ?_)|fail)
       case x0=>exact ⟨_,_,rfl,Nat.zero_le _,.inl rfl⟩
       case x1=>exact qi6
       case x2=>have :=al.out;simp;omega
       case x3=>exact ag.out.size
       ·intro v3 w6 aa hg ab _;have am:Hid (Below w3.heap.size w3 w6):=ag.out.grown hg ag.out.size (fun g ah=>(an.out.blk ah).1);have HO:=Lib.hid aa;clear hg ab aa;go_wp2_with fail;go_ret;exact ⟨_,rfl,ai.out▸HO.out.rd,HO.out.nz,ac.out.trans (am.out.mono ac.out.size),.inl (ai.out▸HO.out.lower ac.out.size)⟩
     | some ad =>
       rcases Nat.lt_or_ge n c with bj|a4
       ·go_wp2_with (first|(at_builtin;refine appN rfl _ _ 60 66 rfl Tryz.underlying60 qaM w3.heap.size _ (l++[s]) _ [] w5.heap.size rfl an.out rfl ?x0 ?x1 ?x2 ?x3 ?_)|fail)
        case x0=>exact ⟨_,_,rfl,Nat.zero_le _,.inl rfl⟩
        case x1=>exact qcw _ _ _
        case x2=>have :=al.out;simp;omega
        case x3=>exact ag.out.size
        ·intro v3 w6 aa hg ab _;have am:Hid (Below w3.heap.size w3 w6):=ag.out.grown hg ag.out.size (fun g ah=>(an.out.blk ah).1);have HO:=Lib.hid aa;clear hg ab aa;go_wp2_with fail;go_ret;exact ⟨_,rfl,ai.out▸HO.out.rd,HO.out.nz,ac.out.trans (am.out.mono ac.out.size),.inl (ai.out▸HO.out.lower ac.out.size)⟩
       ·obtain rfl:n=c:=(by omega);clear a4 hlt hk a8;go_wp2_with (first|(at_builtin;refine appN rfl _ _ 60 66 rfl Tryz.underlying60 qaM w3.heap.size _ (l++[s]) _ [] w5.heap.size rfl an.out rfl ?x0 ?x1 ?x2 ?x3 ?_)|fail)
        case x0=>exact ⟨_,_,rfl,Nat.zero_le _,.inl rfl⟩
        case x1=>exact qcw _ _ _
        case x2=>have :=al.out;simp;omega
        case x3=>exact ag.out.size
        ·intro v3 w6 aa hg ab _;have am:Hid (Below w3.heap.size w3 w6):=ag.out.grown hg ag.out.size (fun g ah=>(an.out.blk ah).1);have HO:=Lib.hid aa;clear hg ab aa;go_wp2_with fail;go_ret;exact ⟨_,rfl,ai.out▸HO.out.rd,HO.out.nz,ac.out.trans (am.out.mono ac.out.size),.inl (ai.out▸HO.out.lower ac.out.size)⟩
def qiP (l:List Smp):List Smp:=(l.filter qai).foldl putS []
theorem qep (l r:List Smp):(l.foldl putS r).length<=r.length+l.length:=by
 induction l generalizing r with
 |nil=>simp
 |cons a l ih=>have :=ih (putS r a);have :=qh9 r a;simp;omega
theorem qic (v:Value) (l:List Smp) (W:World) (hR:Rd W W.heap.size v l) (hl:l.length<=10000):
  Calls Tryz.prog 92 #[v] W fun e w'=>∃r,e=.returned r∧Own w' W.heap.size 66 r (qiP l)∧Below W.heap.size W w':=by
 obtain ⟨A,c,rfl,hc,hA⟩:=hR;obtain ⟨n,hn⟩:∃n,n=l.length:=⟨_,rfl⟩;rw [<-hn] at hc hl ⊢;have HN:=Lib.hid hn;have HA:=Lib.hid hA;have KR:Hid (∀(y:Smp) W,Calls Tryz.prog 113 #[.agg #[.int .i64 y.1,.int .i64 y.2.1,.int .i64 y.2.2.1,.int .i64 y.2.2.2]] W fun e w'=>e=.returned (.bool (qai y))∧Ext W w'):=fun y W=>qgT y W;have KP:Hid (∀v l (y:Smp) W,Rd W W.heap.size v l->Nz v->l.length<=100000->Calls Tryz.prog 114 #[v,.agg #[.int .i64 y.1,.int .i64 y.2.1,.int .i64 y.2.2.1,.int .i64 y.2.2.2]] W fun e w'=>∃r,e=.returned r∧Rd w' w'.heap.size r (putS l y)∧Nz r∧Below W.heap.size W w'∧(Own w' W.heap.size 66 r (putS l y)∨(r=v∧putS l y=l))):=fun v l y W h1 h2 h3=>qkq v l y W h1 h2 h3;clear hn hA hc;go_enter Tryz.func92,Tryz.ntmps92;go_wp2_with fail
 go_loopw [3,4] (fun o i wl=>∃(k:Nat) (r:List Smp),k<=n∧i=.int .i64 k∧Hid (r=((l.take k).filter qai).foldl putS [])∧Hid (Rd wl wl.heap.size o r)∧Hid (Nz o)∧Hid (Below W.heap.size W wl)∧Hid (Own wl W.heap.size 66 o r))
  (fun _ i _=>n-(intOf i).toNat)
 case atStart=>exact ⟨0,[],Nat.zero_le _,rfl,rfl,(Own.nil _ 0 0).rd,qi6,Below.refl _ _,Own.nil _ _ _⟩
 case round =>
  obtain ⟨k,r,hk,rfl,HF,HR,HZ,HB,ac⟩:=hrel;by_cases hlt:k<n
  ·have aa:k<l.length:=(by rw [<-HN.out];exact hlt);rcases HA.out with e|⟨b,o,e,hb,ae⟩
   ·subst e;simp at aa
   subst e;obtain ⟨y,hy⟩:∃y,y=l[k]:=⟨_,rfl⟩;have ad:Cell4 wr b (o+k*4) y:=(by rw [hy];exact (ae k aa).below HB.out hb);have ag:=Lib.hid ad;have HS:Hid (((l.take (k+1)).filter qai).foldl putS []=if qai y then putS r y else r):=by
    show _=_;rw [List.take_succ_eq_append_getElem aa,List.filter_append,List.foldl_append,<-HF.out,<-hy];cases h:qai y<;>simp [h]
   have HL:Hid (r.length<=100000):=by
    show _<=_;rw [HF.out];have h1:=qep ((l.take k).filter qai) [];have h2:=List.length_filter_le qai (l.take k);rw [List.length_take] at h2;simp at h1;omega
   clear ae hy;obtain ⟨c0,c1,c2,c3⟩:=ad;go_wp2_with fail;refine (KR.out y wr).mono ?_;rintro e w1 ⟨rfl,hE⟩;obtain ⟨d0,d1,d2,d3⟩:=ag.out.ext hE.below;have HE:=Lib.hid hE.below;clear hE c0 c1 c2 c3;cases hr:qai y with
   | false =>
     have ab:Hid (r=((l.take (k+1)).filter qai).foldl putS []):=(by show _=_;rw [HS.out,hr];rfl);clear hr;go_wp2_with fail;go_roundw
     case rel=>exact ⟨k+1,r,by omega,by go_num,ab.out,(HR.out.below HE.out).mono HE.out.size,HZ.out,HB.out.trans (HE.out.mono HB.out.size),ac.out.below HE.out⟩
     case measure=>simp [intOf];omega
   | true =>
     have ab:Hid (putS r y=((l.take (k+1)).filter qai).foldl putS []):=(by show _=_;rw [HS.out,hr];rfl);clear hr;go_wp2_with fail;refine (KP.out _ r y w1 ((HR.out.below HE.out).mono HE.out.size) HZ.out HL.out).mono ?_;rintro e w2 ⟨ov,rfl,h1,h2,h3,h4⟩;have H4:Hid (Own w2 W.heap.size 66 ov (putS r y)):=by
      rcases h4 with h4|⟨h4,h5⟩
      ·exact h4.lower (Nat.le_trans HB.out.size HE.out.size)
      ·show Own _ _ _ _ _;rw [h4,h5];exact (ac.out.below HE.out).below h3
     clear h4;have H1:=Lib.hid h1;have H2:=Lib.hid h2;have H3:Hid (Below wr.heap.size wr w2):=HE.out.trans (h3.mono HE.out.size);clear h1 h2 h3 d0 d1 d2 d3;go_wp2_with fail;go_roundw
     case rel=>exact ⟨k+1,putS r y,by omega,by go_num,ab.out,H1.out,H2.out,HB.out.trans (H3.out.mono HB.out.size),H4.out⟩
     case measure=>simp [intOf];omega
  ·obtain rfl:n=k:=(by omega);have af:Hid (r=qiP l):=(by show _=_;rw [HF.out,HN.out,List.take_length];rfl);go_wp2_with fail;go_ret;exact ⟨_,rfl,af.out▸ac.out,HB.out⟩
theorem qjW (v:Value) (l:List Smp) (f t:Int) (W:World) (hR:Rd W W.heap.size v l) (hl:l.length<=10000):
  Calls Tryz.prog 51 #[v,.int .i64 f,.int .i64 t] W fun e w'=>∃r,e=.returned r∧Own w' W.heap.size 66 r (delS f t l)∧Below W.heap.size W w':=by
 obtain ⟨A,c,rfl,hc,hA⟩:=hR;obtain ⟨n,hn⟩:∃n,n=l.length:=⟨_,rfl⟩;rw [<-hn] at hc hl ⊢;have HN:=Lib.hid hn;have HA:=Lib.hid hA;clear hn hA hc;go_enter Tryz.func51,Tryz.ntmps51;go_wp2_with fail
 go_loopw [7,8] (fun o i wl=>∃(k:Nat),k<=n∧i=.int .i64 k∧Own wl W.heap.size 66 o (delS f t (l.take k))∧Hid (Below W.heap.size W wl))
  (fun _ i _=>n-(intOf i).toNat)
 case atStart=>exact ⟨0,Nat.zero_le _,rfl,Own.nil _ _ _,Below.refl _ _⟩
 case round =>
  obtain ⟨k,hk,rfl,aa,HB⟩:=hrel;by_cases hlt:k<n
  ·have ad:k<l.length:=(by rw [<-HN.out];exact hlt);rcases HA.out with e|⟨b,o,e,hb,af⟩
   ·subst e;simp at ad
   subst e;obtain ⟨y,hy⟩:∃y,y=l[k]:=⟨_,rfl⟩;have ah:Cell4 wr b (o+k*4) y:=(by rw [hy];exact (af k ad).below HB.out hb);have HS:Hid (delS f t (l.take (k+1))=delS f t (l.take k)++if outS f t y then [] else [y]):=by
    show _=_;rw [List.take_succ_eq_append_getElem ad,<-hy];unfold delS;rw [List.filter_append];cases h:outS f t y<;>simp [h]
   have HL:Hid ((delS f t (l.take k)).length<=10000):=by
    show _<=_;unfold delS;refine Nat.le_trans (List.length_filter_le _ _) ?_;rw [List.length_take];omega
   obtain ⟨r,hr⟩:∃r,r=delS f t (l.take k):=⟨_,rfl⟩;rw [<-hr] at aa HL HS;clear af hy hr;obtain ⟨c0,c1,c2,c3⟩:=ah;have ak:Hid (∀o,Below W.heap.size W (wr.alloc o)):=fun o=>HB.out.alloc HB.out.size _;have ae:Hid (W.heap.size<=wr.heap.size):=HB.out.size;by_cases h1:y.1<f
   ·have ab:Hid (delS f t (l.take (k+1))=r):=by
     show _=_;rw [HS.out,if_pos (by unfold outS;simp [h1]),List.append_nil]
    have g1:¬f<=y.1:=(by omega);go_wp2_with fail;go_roundw
    case rel=>exact ⟨k+1,by omega,by go_num,ab.out▸aa,HB.out⟩
    case measure=>simp [intOf];omega
   ·by_cases h2:t<y.1
    ·have ab:Hid (delS f t (l.take (k+1))=r):=by
      show _=_;rw [HS.out,if_pos (by unfold outS;simp [h2]),List.append_nil]
     have g1:f<=y.1:=(by omega);have g2:¬y.1<=t:=(by omega);go_wp2_with fail;go_roundw
     case rel=>exact ⟨k+1,by omega,by go_num,ab.out▸aa,HB.out⟩
     case measure=>simp [intOf];omega
    ·have ab:Hid (delS f t (l.take (k+1))=r++[y]):=by
      show _=_;rw [HS.out,if_neg (by unfold outS;simp;omega)]
     have g1:f<=y.1:=(by omega);have g2:y.1<=t:=(by omega);clear h1 h2 HS;go_wp2_with (first|(at_builtin;refine app1 rfl _ _ 60 66 rfl Tryz.underlying60 qaM W.heap.size _ r y rfl (aa.alloc _) wr.heap.size 0 1 rfl (Cell4.new _ y _ _ rfl) ?y1 ?y2 ?_)|fail)
     case y1=>have :=HL.out;omega
     case y2=>have :=ae.out;simp;omega
     ·intro v' w2 ac hg ai;go_wp2_with fail;go_roundw
      case rel=>exact ⟨k+1,by omega,by go_num,ab.out▸ac,(ak.out _).grown hg (by have :=ae.out;simp;omega) (fun g ag=>(aa.blk ag).1)⟩
      case measure=>simp [intOf];omega
  ·obtain rfl:n=k:=(by omega);have aj:Hid (delS f t (l.take n)=delS f t l):=(by show _=_;rw [HN.out,List.take_length]);have HO:Hid (Own wr W.heap.size 66 u7 (delS f t l)):=aj.out▸aa;clear aa;go_wp2_with fail;go_ret;exact ⟨_,rfl,HO.out,HB.out⟩
end Go.Proofs.YtnkelahimiipjaaGreatDoor
