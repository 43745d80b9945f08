/-
  The reference's way to the nearest double: no program in sight.
-/
import Derived.Test.YtnkelahimiipjaaGreatDoorPat
import Derived.Test.YtnkelahimiipjaaGreatDoorProg
import Derived.Test.YtnkelahimiipjaaGreatDoorBaset
import Derived.Test.YtnkelahimiipjaaGreatDoorShelf
import Derived.Handy
import Derived.Deep.Light
import GoSem.PinnedTables
import Derived.Lib.ItoaNum
import Derived.Laws.FloatArith
set_option maxRecDepth 100000
set_option maxHeartbeats 8000000
namespace Go.Proofs.YtnkelahimiipjaaGreatDoor
theorem qhT {N0 D0 s u q r j:Nat} (_hD:0<D0) (hs:s<=1074) (hj:j+s=1074+u) (h1:4503599627370496<=q) (h2:q<9007199254740992) (hr:r<D0*2^u) (h:N0*2^s=q*(D0*2^u)+r):
    Near (N0*2^E0) D0 (j*4503599627370496+q+up r (D0*2^u) q):=by
  have hE:=qeK;obtain ⟨c,hc⟩:∃c,c+s=1074:=⟨1074-s,by omega⟩;have e1:N0*2^E0=2^c*(N0*2^s):=by
    rw [show E0=c+s by omega,Nat.pow_add,Nat.mul_left_comm]
  have e2:2^j*D0=2^c*(D0*2^u):=by
    rw [show j=c+u by omega,Nat.pow_add,Nat.mul_assoc,Nat.mul_comm (2^u)]
  obtain ⟨B,hB⟩:∃B,B=D0*2^u:=⟨_,rfl⟩;rw [<-hB] at hr h e2 ⊢;have aa:=Nat.two_pow_pos c;have e3:∀x,x*(2^c*B)=2^c*(x*B):=fun x=>Nat.mul_left_comm ..;refine ⟨j,q,h1,h2, ?_, ?_, ?_⟩
  · rw [e1,e2,h,e3];exact Nat.mul_le_mul_left _ (by omega)
  · rw [e1,e2,h,e3,Nat.add_mul,Nat.one_mul];exact Nat.mul_lt_mul_of_pos_left (by omega) aa
  · rw [e1,e2,h,e3,<-Nat.mul_sub,show q*B+r-q*B=r by omega,qdh _ _ _ _ aa]
def rN (m:Nat) (x:Int):Nat:=m*10^x.toNat
def rD (x:Int):Nat:=10^(-x).toNat
theorem qql (m:Nat) (x:Int):vN m x=rN m x*2^E0:=by
  unfold vN rN;split
  · rfl
  · rw [show x.toNat=0 by omega,Nat.pow_zero,Nat.mul_one]
theorem qpo (x:Int):vD x=rD x:=by
  unfold vD rD;split
  · rw [show (-x).toNat=0 by omega,Nat.pow_zero]
  · rfl
theorem qm9 {m:Nat} {x:Int} {s u q r j:Nat} (hm:1<=m) (hx: -300<=x) (hs:s<=1074) (hj:j+s=1074+u) (h1:4503599627370496<=q) (h2:q<9007199254740992) (hr:r<rD x*2^u) (h:rN m x*2^s=q*(rD x*2^u)+r):
    qa8 m x=j*4503599627370496+q+up r (rD x*2^u) q:=by
  have hn:=qbS m x hm hx;rw [qql,qpo] at hn;refine hn.unique (qhT ?_ hs hj h1 h2 hr h);rw [<-qpo];exact qfa x
theorem qoW {N q P r:Nat} (h:N=q*(2*P)+r) (hP:P<=r) (hr:r<2*P):N=(2*q+1)*P+(r-P)∧r-P<P:=by
  have e:(2*q+1)*P=2*(q*P)+P:=by rw [Nat.add_mul,Nat.one_mul,Nat.mul_assoc]
  have e2:q*(2*P)=2*(q*P):=Nat.mul_left_comm ..;rw [e2] at h;rw [e];omega
theorem qqd {N q P r:Nat} (h:N=q*(2*P)+r) (hP:r<P):N=2*q*P+r∧r<P:=by
  rw [Nat.mul_assoc,Nat.mul_left_comm];exact ⟨h,hP⟩
end Go.Proofs.YtnkelahimiipjaaGreatDoor
namespace Go.Proofs.YtnkelahimiipjaaGreatDoor
open Go.RowKit Go.Sort
theorem qbG (b:Bool) (w:World):Calls Tryz.prog 226 #[.bool b] w fun e w'=>e=.returned (.int .u64 b.toNat)∧w=w':=by
  cases b
  all_goals go_enter Tryz.func226,Tryz.ntmps226
  all_goals go_wp2
  all_goals go_ret
  all_goals exact ⟨rfl,rfl⟩
theorem qhY (b:Bool) (w:World):Calls Tryz.prog 214 #[.bool b] w fun e w'=>e=.returned (.int .i64 b.toNat)∧w=w':=by
  cases b
  all_goals go_enter Tryz.func214,Tryz.ntmps214
  all_goals go_wp2
  all_goals go_ret
  all_goals exact ⟨rfl,rfl⟩
theorem qhh (w:World):Calls Tryz.prog 240 #[.int .u64 9007199254740992] w fun e w'=>e=.returned (.int .u64 36028797018963966)∧w=w':=by
  go_enter Tryz.func240,Tryz.ntmps240
  go_wp2
  go_ret;exact ⟨rfl,rfl⟩
theorem qgQ (p:Int) (w:World) (h1: -1000<=p) (h2:p<=1000):Calls Tryz.prog 237 #[.int .i64 p] w fun e w'=>e=.returned (.int .i64 (p*108853/32768))∧w=w':=by
  go_enter Tryz.func237,Tryz.ntmps237
  go_wp2
  go_ret;exact ⟨rfl,rfl⟩
theorem qju (u:Nat) (w:World) (h:u<1152921504606846976):Calls Tryz.prog 242 #[.int .u64 u] w fun e w'=>e=.returned (.int .u64 ((u+1+u/4%2)/4:Nat))∧w=w':=by
  have hb:bits BinOp.and IntKind.u64 ((u:Int)/4) 1=(u:Int)/4%2:=and_one_u64 _ (by omega) (by omega);have hw:IntKind.u64.wrap ((u:Int)+1+(u:Int)/4%2)=(u:Int)+1+(u:Int)/4%2:=by rw [IntKind.wrap_u64];omega
  go_enter Tryz.func242,Tryz.ntmps242
  go_wp2
  go_ret;exact ⟨qbd (by simp),rfl⟩
def subW (a b:Nat):Nat:=if a<b then a+18446744073709551616-b else a-b
def qd6 (H M m2:Nat):Nat:=
  if H/256*256≠H then H/256 ||| 1
  else (H-(decide (M<m2)).toNat)/256 ||| (decide (1<subW M m2)).toNat
def usc (x hi lo:Nat):Nat:=qd6 (x*hi/18446744073709551616) (x*hi%18446744073709551616) (x*lo/18446744073709551616)
theorem qks (a b:Nat) (ha:a<=18446744073709551615) (hb:b<=18446744073709551615):IntKind.u64.wrap ((a:Int)-(b:Int))=(subW a b:Nat):=by
  rw [IntKind.wrap_u64];unfold subW;split<;>omega
theorem qla (a b:Nat) (ha:a<=18446744073709551615) (hb:b<=18446744073709551615):subW a b<=18446744073709551615:=by
  unfold subW;split<;>omega
theorem qbr (b:Bool):b.toNat<=1:=by cases b<;>decide
theorem qgG (x hi lo b H M m2 l2:Nat) (w:World) (hH0:0<H) (hH:H<=18446744073709551615) (hM:M<=18446744073709551615) (hm2:m2<=18446744073709551615)
    (hm:∀w,Calls Tryz.prog 246 #[.int .u64 x,.int .u64 hi] w fun e w'=>e=.returned (.tuple #[.int .u64 H,.int .u64 M])∧w'=w)
    (hmm:∀w,Calls Tryz.prog 246 #[.int .u64 x,.int .u64 lo] w fun e w'=>e=.returned (.tuple #[.int .u64 m2,.int .u64 l2])∧w'=w)
    (c0:w.cell? ⟨b,0,none⟩=some (.int .u64 hi)) (c1:w.cell? ⟨b,1,none⟩=some (.int .u64 lo)) (c2:w.cell? ⟨b,2,none⟩=some (.int .i64 8)):
    Calls Tryz.prog 239 #[.int .u64 x,.pointer (some ⟨b,0,none⟩)] w fun e w'=>e=.returned (.int .u64 (qd6 H M m2))∧∃n,w'=w.drewN n:=by
  have h8:bits BinOp.and IntKind.i64 8 63=8:=by decide
  have K1:=Lib.hid hm;have K2:=Lib.hid hmm;clear hm hmm;go_enter Tryz.func239,Tryz.ntmps239;go_wp2_with fail;refine (K1.out _).mono ?_;rintro e w' ⟨rfl,rfl⟩;go_wp2_with fail
  · rename_i ab
    have ho:bits BinOp.or IntKind.u64 ((H:Int)/256) 1=((H/256 ||| 1:Nat):Int):=by
      have :=u64_or_nat (H/256) 1 (by omega) (by omega);simpa using this
    have hf:qd6 H M m2=H/256 ||| 1:=by
      unfold qd6;rw [if_pos];simp at ab;omega
    go_ret;exact ⟨qbd (by rw [hf];simpa using ho),0,rfl⟩
  · have ab : ((H : Int) / 256 * 256 != (H : Int)) = false := by assumption
    refine (K2.out _).mono ?_;rintro e w1 ⟨rfl,rfl⟩;obtain ⟨H1,ac⟩:∃H1,H1=H-(decide (M<m2)).toNat:=⟨_,rfl⟩;obtain ⟨D,aa⟩:∃D,D=subW M m2:=⟨_,rfl⟩;have hD:D<=18446744073709551615:=(by rw [aa];exact qla _ _ hM hm2);have ad:H1<=18446744073709551615:=(by omega);have e1:IntKind.u64.wrap ((H:Int)-(((decide (M<m2)).toNat:Nat):Int))=(H1:Int):=by
      have :=qbr (decide (M<m2));rw [IntKind.wrap_u64];omega
    have e2:IntKind.u64.wrap ((M:Int)-(m2:Int))=(D:Int):=(by rw [aa];exact qks M m2 hM hm2);have e3:bits BinOp.or IntKind.u64 ((H1:Int)/256) (((decide ((1:Int)<(D:Int))).toNat:Nat):Int)=((H1/256 ||| (decide (1<D)).toNat:Nat):Int):=by
      rw [show decide ((1:Int)<(D:Int))=decide (1<D) from decide_eq_decide.2 (by omega)];have hq:=qbr (decide (1<D));have :=u64_or_nat (H1/256) (decide (1<D)).toNat (by omega) (by omega);simpa using this
    have hf:Hid (qd6 H M m2=H1/256 ||| (decide (1<D)).toNat):=by
      rw [ac,aa];show qd6 H M m2=_;unfold qd6;rw [if_neg (by simp at ab;omega)]
    clear ac aa;go_wp2_with (go_at_call 226;refine (qbG _ _).mono ?_;rintro e w' ⟨rfl,rfl⟩)
    go_quiet ((go_at_call 226;exact qff (qbG _ _)))
    go_wp2
    go_ret;exact ⟨qbd (by rw [hf.out]),_,rfl⟩
theorem qhU (x hi lo b:Nat) (w:World) (hx:x<18446744073709551616) (hh:hi<18446744073709551616) (hl:lo<18446744073709551616) (hxh:18446744073709551616<=x*hi)
    (c0:w.cell? ⟨b,0,none⟩=some (.int .u64 hi)) (c1:w.cell? ⟨b,1,none⟩=some (.int .u64 lo)) (c2:w.cell? ⟨b,2,none⟩=some (.int .i64 8)):
    Calls Tryz.prog 239 #[.int .u64 x,.pointer (some ⟨b,0,none⟩)] w fun e w'=>e=.returned (.int .u64 (usc x hi lo))∧∃n,w'=w.drewN n:=by
  have hd:∀y,y<18446744073709551616->x*y/18446744073709551616<=18446744073709551615:=fun y hy=>by
    have h1:x*y<18446744073709551616*18446744073709551616:=Nat.mul_lt_mul'' hx hy;have :=Nat.div_lt_of_lt_mul h1;omega
  exact qgG x hi lo b _ _ _ _ w (Nat.div_pos hxh (by decide)) (hd hi hh) (by omega) (hd lo hl) (Tryz.bits_Mul64 x hi hx hh) (Tryz.bits_Mul64 x lo hx hl) c0 c1 c2
end Go.Proofs.YtnkelahimiipjaaGreatDoor
namespace Go.Proofs.YtnkelahimiipjaaGreatDoor
open Go.RowKit Go.Sort
theorem qev (n:Int) (w:World):(callFunc 227 #[.int .u64 n]).run Tryz.prog w=.ok (.value (.float .f64 n.toNat)) w:=by
  rw [run_callFunc_extern Tryz.func227 (by kernel_rfl) (by kernel_rfl) (by kernel_rfl) (e:=Extern.MathFloatBits.float64frombits) (by kernel_rfl)];rfl
theorem qc4 (n:Nat) (w:World):(callFunc 187 #[.float .f64 n]).run Tryz.prog w=.ok (.value (.int .u64 n)) w:=by
  rw [run_callFunc_extern Tryz.func187 (by kernel_rfl) (by kernel_rfl) (by kernel_rfl) (e:=Extern.MathFloatBits.float64bits) (by kernel_rfl)];rfl
attribute [local go_sem] qev qc4
theorem qf7 (x lp:Int) (p:Nat) (hi lo:Int) (w:World) (hp:p<696) (hx: -10000<=x) (hx':x<=10000) (hl: -10000<=lp) (hl':lp<=10000) (hsz:14<w.heap.size)
    (c0:w.cell? ⟨14,p*2,none⟩=some (.int .u64 hi)) (c1:w.cell? ⟨14,p*2+1,none⟩=some (.int .u64 lo)):
    Calls Tryz.prog 238 #[.pointer (some ⟨w.heap.size,0,none⟩),.int .i64 x,.int .i64 ((p:Int)-348),.int .i64 lp] (w.alloc (.cells #[.int .u64 0,.int .u64 0,.int .i64 0] 301)) fun e w'=>e=.returned (.tuple #[])∧
      w'=w.alloc (.cells #[.int .u64 hi,.int .u64 lo,.int .i64 (-(x+lp+3))] 301):=by
  go_enter Tryz.func238,Tryz.ntmps238
  go_wp2
  go_end0
  exact ⟨rfl,rfl⟩
theorem qjQ (m m0 r:Nat) (x:Int) (w:World) (hx: -1074<=x) (hx':x<972) (_hm0:m0<=18446744073709551615)
    (ha:(bits BinOp.and IntKind.u64 (m:Int) 4503599627370496==0)=false)
    (hn:bits BinOp.andNot IntKind.u64 (m:Int) 4503599627370496=(m0:Int))
    (ho:Hid ((bits BinOp.or IntKind.u64 (m0:Int) ((1075+x)*4503599627370496)).toNat=r)):
    Calls Tryz.prog 245 #[.int .u64 m,.int .i64 x] w fun e w'=>e=.returned (.tuple #[.float .f64 r,.nilIface])∧w'=w:=by
  go_enter Tryz.func245,Tryz.ntmps245
  go_wp2
  go_ret2
  refine ⟨?_,rfl⟩;show Ending.returned (.tuple #[.float .f64 (bits BinOp.or IntKind.u64 (m0:Int) ((1075+x)*4503599627370496)).toNat,.nilIface])=_;rw [ho.out]
theorem qqp (s r:Nat) (hs:s=0∨s=9223372036854775808) (hr:4503599627370496<=r) (hr':r<9007199254740992):(s+r) &&& 4503599627370496=4503599627370496:=by
  rw [show (4503599627370496:Nat)=2^52 from by decide,nat_bit];have :(s+r)/2^52%2=1:=by rcases hs with rfl|rfl<;>omega
  omega
theorem qpI (s q k:Nat) (hs:s=0∨s=9223372036854775808) (hq:q<4503599627370496) (hk:k<2048):s ||| (k*4503599627370496 ||| q)=s+q+k*4503599627370496:=by
  rw [nat_join 52 (k*4503599627370496) q (by omega) (by omega),nat_join 63 s _ (by rcases hs with rfl|rfl<;>decide) (by omega)];omega
theorem or52 (s q k:Nat) (hs:s=0∨s=9223372036854775808) (hq:q<4503599627370496) (hk:k<2048):(s+q) ||| (k*4503599627370496)=s+q+k*4503599627370496:=by
  rw [<-qpI s q k hs hq hk,<-nat_join 63 s q (by rcases hs with rfl|rfl<;>decide) (by omega),Nat.or_assoc,Nat.or_comm q]
theorem qno (s r:Nat) (hs:s=0∨s=9223372036854775808) (hr:4503599627370496<=r) (hr':r<9007199254740992):(s+r) &&& (18446744073709551615-4503599627370496)=s+(r-4503599627370496):=by
  have e1:s+r=(s+(r-4503599627370496)) ||| (1*4503599627370496):=by rw [or52 s _ 1 hs (by omega) (by decide)];omega
  have aa:s+(r-4503599627370496)<2^64:=by rcases hs with rfl|rfl<;>omega
  have e2:(18446744073709551615-4503599627370496:Nat)=(2^64-1) ^^^ 4503599627370496:=by decide
  have e3:(s+(r-4503599627370496)) &&& 4503599627370496=0:=by
    rw [show (4503599627370496:Nat)=2^52 from by decide,nat_bit];have :(s+(r-2^52))/2^52%2=0:=(by rcases hs with rfl|rfl<;>omega);rw [this]
  have e4:(1*4503599627370496:Nat) &&& (18446744073709551615-4503599627370496)=0:=by decide
  rw [e1,Nat.and_or_distrib_right,e4,Nat.or_zero,e2,Nat.and_xor_distrib_left,e3,Nat.xor_zero];exact Nat.and_two_pow_sub_one_of_lt_two_pow aa
theorem qku (s r:Nat) (x:Int) (w:World) (hs:s=0∨s=9223372036854775808) (hr:4503599627370496<=r) (hr':r<9007199254740992) (hx: -1074<=x) (hx':x<972):
    Calls Tryz.prog 245 #[.int .u64 (s+r:Nat),.int .i64 x] w fun e w'=>e=.returned (.tuple #[.float .f64 (s+(r-4503599627370496)+(1075+x).toNat*4503599627370496),.nilIface])∧w'=w:=by
  have hl:s+r<18446744073709551616:=by rcases hs with rfl|rfl<;>omega
  refine qjQ (s+r) (s+(r-4503599627370496)) _ x w hx hx' (by omega) ?_ ?_ ?_
  · have := u64_and_nat (s + r) 4503599627370496 hl (by decide)
    rw [qqp s r hs hr hr'] at this;rw [show (4503599627370496:Int)=((4503599627370496:Nat):Int) from rfl,this];decide
  · have := u64_andNot_nat (s + r) 4503599627370496 hl (by decide)
    rw [qno s r hs hr hr'] at this;exact this
  · obtain ⟨k, hk⟩ : ∃ k : Nat, 1075 + x = (k : Int) := ⟨(1075 + x).toNat, by omega⟩
    show (bits _ _ _ _).toNat=_;rw [hk,Int.toNat_natCast];have :=u64_or_nat (s+(r-4503599627370496)) (k*4503599627370496) (by omega) (by omega);rw [or52 _ _ _ hs (by omega) (by omega)] at this;rw [show ((k:Int)*4503599627370496)=((k*4503599627370496:Nat):Int) from by omega,this,Int.toNat_natCast]
end Go.Proofs.YtnkelahimiipjaaGreatDoor
namespace Go.Proofs.YtnkelahimiipjaaGreatDoor
open Go.RowKit Go.Sort
attribute [local go_sem] qev qc4
theorem qjs (d b P s hi lo X u u1 r:Nat) (c:Bool) (lp:Int) (w:World) (hP:P<696) (hb:1<=b) (hb':b<=50) (hl: -1200<=lp) (hl':lp<=1200)
    (hsz:14<w.heap.size) (hlo: -1021-(b:Int)<lp)
    (hlen:∀w,Calls Tryz.prog 162 #[.int .u64 d] w fun e w'=>e=.returned (.int .i64 b)∧w'=w)
    (hlp:∀w,Calls Tryz.prog 237 #[.int .i64 ((P:Int)-348)] w fun e w'=>e=.returned (.int .i64 lp)∧w=w')
    (hc:decide ((36028797018963966:Int)<=(u:Int))=c)
    (hU:bits BinOp.or IntKind.u64 ((u:Int)/2^min c.toNat 64) (bits BinOp.and IntKind.u64 (u:Int) 1)=(u1:Int)) (hu1:u1<=72057594037927935)
    (hr:Hid ((u1+1+u1/4%2)/4=r)) (hr1:4503599627370496<=r) (hr2:r<9007199254740992) (hs:s=0∨s=9223372036854775808)
    (hO:bits BinOp.or IntKind.u64 (s:Int) (r:Int)=((s+r:Nat):Int)) (hx1: -1074<= -(53-(b:Int)-lp-(c.toNat:Int))) (hx2: -(53-(b:Int)-lp-(c.toNat:Int))<972)
    (hX:IntKind.u64.wrap ((d:Int)*2^(64-b))=(X:Int))
    (hus:∀(w:World) (k:Nat),w.cell? ⟨k,0,none⟩=some (.int .u64 hi)->w.cell? ⟨k,1,none⟩=some (.int .u64 lo)->w.cell? ⟨k,2,none⟩=some (.int .i64 8)->
      Calls Tryz.prog 239 #[.int .u64 X,.pointer (some ⟨k,0,none⟩)] w fun e w'=>e=.returned (.int .u64 u)∧∃n,w'=w.drewN n)
    (c0:w.cell? ⟨14,P*2,none⟩=some (.int .u64 hi)) (c1:w.cell? ⟨14,P*2+1,none⟩=some (.int .u64 lo)):
    Calls Tryz.prog 229 #[.int .u64 d,.int .i64 ((P:Int)-348),.int .u64 s] w fun e w'=>e=.returned (.tuple #[.float .f64 (s+(r-4503599627370496)+(1075+ -(53-(b:Int)-lp-(c.toNat:Int))).toNat*4503599627370496),.nilIface])∧Ext w w':=by
  have K1:=Lib.hid hlen;have K2:=Lib.hid hlp;have K3:=Lib.hid hus;have H1:=Lib.hid hr1;have H2:=Lib.hid hr2;have H3:=Lib.hid hs;clear hlen hlp hus hr1 hr2 hs;have aa:min (1074:Int) (53-(b:Int)-lp)=53-(b:Int)-lp:=by omega
  have e8: -(53-(b:Int)-lp-(64-(b:Int))+lp+3)=8:=by omega
  go_enter Tryz.func229,Tryz.ntmps229;go_wp2_with fail;refine (K1.out _).mono ?_;rintro e w' ⟨rfl,rfl⟩;go_wp2_with fail;refine (K2.out _).mono ?_;rintro e w' ⟨rfl,rfl⟩;go_wp2_with fail;refine (qf7 _ lp P hi lo _ hP (by omega) (by omega) (by omega) (by omega) hsz c0 c1).mono ?_;rintro e w1 ⟨rfl,rfl⟩;go_wp2_with fail;refine (K3.out _ _ (by simp) (by simp) (by simp)).mono ?_;rintro e w2 ⟨rfl,n1,rfl⟩;go_wp2_with fail;refine (qhh _).mono ?_;rintro e w3 ⟨rfl,rfl⟩;go_wp2_with fail;refine (qhY _ _).mono ?_;rintro e w4 ⟨rfl,rfl⟩;go_wp2_with fail;refine (qju u1 _ (by omega)).mono ?_;rintro e w5 ⟨rfl,rfl⟩;rw [hr.out];go_wp2_with fail;refine (qku s r _ _ H3.out H1.out H2.out hx1 hx2).mono ?_;rintro e w6 ⟨rfl,rfl⟩;go_wp2_with fail
  go_ret2
  refine ⟨rfl, ?_⟩;exact ((Ext.refl _).alloc _).drewN _
theorem qc7 (a:Nat):a ||| 1=a/2*2+1:=by
  by_cases h:a%2=0
  · rw [nat_join 1 a 1 (by omega) (by decide)];omega
  · have e : a = (a - 1) ||| 1 := by rw [nat_join 1 (a - 1) 1 (by omega) (by decide)]; omega
    have e2:a ||| 1=a:=by
      conv=>lhs;lhs;rw [e]
      rw [Nat.or_assoc,Nat.or_self,<-e]
    omega
def qgJ (a:Nat) (t:Bool):Nat:=if t then a/2*2+1 else a
theorem qiK (a:Nat) (t:Bool):a ||| t.toNat=qgJ a t:=by
  cases t
  · simp [qgJ]
  · simp [qgJ,qc7]
theorem qfX (a:Nat) (t:Bool):a<=qgJ a t∧qgJ a t<=a+1:=by unfold qgJ;split<;>omega
def tabHi (P:Nat):Nat:=(Go.Pinned.pow10Rows.getD P (0,0)).1
def tabLo (P:Nat):Nat:=(Go.Pinned.pow10Rows.getD P (0,0)).2
theorem qhV:Go.Pinned.pow10Rows.length=696∧Go.Pinned.pow10Rows.all (fun x=>decide (9223372036854775808<=x.1) && decide (x.1<=18446742974197923840) && decide (x.2<18446744073709551616))=true:=by decide+kernel
theorem qlF (P:Nat) (hP:P<696):9223372036854775808<=tabHi P∧tabHi P<=18446742974197923840∧tabLo P<18446744073709551616:=by
  have h:=List.all_eq_true.1 qhV.2 (Go.Pinned.pow10Rows.getD P (0,0)) (by
    rw [List.getD_eq_getElem?_getD,List.getElem?_eq_getElem (by rw [qhV.1];exact hP)];exact List.getElem_mem _)
  simp only [Bool.and_eq_true,decide_eq_true_eq] at h;exact ⟨h.1.1,h.1.2,h.2⟩
def pfU (d P:Nat):Nat:=usc (d*2^(64-Lib.bitLen d)) (tabHi P) (tabLo P)
def pfC (d P:Nat):Bool:=decide (36028797018963966<=pfU d P)
def pfV (d P:Nat):Nat:=if pfC d P then qgJ (pfU d P/2) (decide (pfU d P%2=1)) else pfU d P
def pfR (d P:Nat):Nat:=(pfV d P+1+pfV d P/4%2)/4
def qdw (d P:Nat):Nat:=pfR d P-4503599627370496+(1075+ -(53-(Lib.bitLen d:Int)-((P:Int)-348)*108853/32768-((pfC d P).toNat:Int))).toNat*4503599627370496
theorem qeH (d:Nat) (h0:1<=d) (h:d<18446744073709551616):1<=Lib.bitLen d∧Lib.bitLen d<=64∧2^(Lib.bitLen d-1)<=d∧d<2^Lib.bitLen d:=by
  have :=Lib.bitLenAux_bounds 64 d h (by omega);exact ⟨this.1,Lib.bitLen_le d 64 (by decide) h,this.2⟩
theorem qiZ (d:Nat) (h0:1<=d) (h:d<18446744073709551616):9223372036854775808<=d*2^(64-Lib.bitLen d)∧d*2^(64-Lib.bitLen d)<18446744073709551616:=by
  obtain ⟨h1,h2,h3,h4⟩:=qeH d h0 h;generalize Lib.bitLen d=b at *;constructor
  · calc 9223372036854775808=2^(b-1)*2^(64-b):=by rw [<-Nat.pow_add,show b-1+(64-b)=63 by omega]
      _<=_:=Nat.mul_le_mul_right _ h3
  · calc _<2^b*2^(64-b):=Nat.mul_lt_mul_of_pos_right h4 (Nat.two_pow_pos _)
      _=18446744073709551616:=by rw [<-Nat.pow_add,show b+(64-b)=64 by omega]
theorem qkE (d P:Nat) (h0:1<=d) (h:d<18446744073709551616) (hP:P<696):18014398509481983<=pfU d P∧pfU d P<=72057589742960641:=by
  obtain ⟨x1,x2⟩:=qiZ d h0 h;obtain ⟨t1,t2,t3⟩:=qlF P hP;unfold pfU usc;generalize d*2^(64-Lib.bitLen d)=x at *;generalize tabHi P=hi at *;generalize tabLo P=lo at *;have aa:4611686018427387904<=x*hi/18446744073709551616:=by
    rw [Nat.le_div_iff_mul_le (by decide)]
    calc 4611686018427387904*18446744073709551616=9223372036854775808*9223372036854775808:=by decide
      _<=x*hi:=Nat.mul_le_mul x1 t1
  have ab:x*hi/18446744073709551616<=18446742974197923840:=by
    apply Nat.div_le_of_le_mul;exact Nat.mul_le_mul (by omega) t2
  generalize x*hi/18446744073709551616=H at *;generalize x*hi%18446744073709551616=M;generalize x*lo/18446744073709551616=m;unfold qd6
  split
  · rw [qc7];omega
  · rw [qiK]
    have :=qfX ((H-(decide (M<m)).toNat)/256) (decide (1<subW M m));have :=qbr (decide (M<m));omega
theorem qnV (d P:Nat) (h0:1<=d) (h:d<18446744073709551616) (hP:P<696):4503599627370496<=pfR d P∧pfR d P<9007199254740992:=by
  obtain ⟨u1,u2⟩:=qkE d P h0 h hP;unfold pfR pfV pfC;generalize pfU d P=u at *
  split
  · rename_i hc
    simp only [decide_eq_true_eq] at hc;have :=qfX (u/2) (decide (u%2=1));omega
  · rename_i hc
    simp only [decide_eq_true_eq] at hc;omega
theorem qkx (d P s : Nat) (w : World) (hd : 1 <= d) (hd' : d <= 999999999999999) (hP0 : 48 <= P) (hP : P <= 638) (hs : s = 0 ∨ s = 9223372036854775808)
    (hsz:14<w.heap.size) (c0:w.cell? ⟨14,P*2,none⟩=some (.int .u64 (tabHi P))) (c1:w.cell? ⟨14,P*2+1,none⟩=some (.int .u64 (tabLo P))):
    Calls Tryz.prog 229 #[.int .u64 d,.int .i64 ((P:Int)-348),.int .u64 s] w fun e w'=>e=.returned (.tuple #[.float .f64 (s+qdw d P),.nilIface])∧Ext w w':=by
  obtain ⟨b1,b2,b3,b4⟩:=qeH d hd (by omega);obtain ⟨x1,x2⟩:=qiZ d hd (by omega);obtain ⟨t1,t2,t3⟩:=qlF P (by omega);obtain ⟨u1,u2⟩:=qkE d P hd (by omega) (by omega);obtain ⟨r1,r2⟩:=qnV d P hd (by omega) (by omega);have b5:Lib.bitLen d<=50:=Lib.bitLen_le d 50 (by decide) (by omega);have hv:pfV d P<=72057594037927935:=by
    unfold pfV;have :=qfX (pfU d P/2) (decide (pfU d P%2=1));split<;>omega
  have aa:(pfC d P).toNat<=1:=qbr _;refine (qjs d (Lib.bitLen d) P s (tabHi P) (tabLo P) (d*2^(64-Lib.bitLen d)) (pfU d P) (pfV d P) (pfR d P) (pfC d P) (((P:Int)-348)*108853/32768) w (by omega) b1 b5 (by omega) (by omega) hsz (by omega)
    ?_ ?_ ?_ ?_ hv rfl r1 r2 hs ?_ (by omega) (by omega) ?_ ?_ c0 c1).mono fun e w' ⟨he,hw⟩=>⟨?_,hw⟩
  · intro w;have :=Tryz.bits_Len64 (d:Int) w (by omega) (by omega);simpa using this
  · exact fun w=>qgQ _ w (by omega) (by omega)
  · unfold pfC;exact decide_eq_decide.2 (by omega)
  · rw [show bits BinOp.and IntKind.u64 (pfU d P : Int) 1 = ((pfU d P % 2 : Nat) : Int) from by rw [and_one_u64 _ (by omega) (by omega)]; omega]
    unfold pfV;cases hc:pfC d P
    · have := u64_or_nat (pfU d P) (pfU d P % 2) (by omega) (by omega)
      simp only [Bool.toNat_false,Nat.zero_min,Int.pow_zero,Int.ediv_one,if_false,Bool.false_eq_true];rw [this];have :pfU d P ||| pfU d P%2=pfU d P:=by
        rcases Nat.mod_two_eq_zero_or_one (pfU d P) with h|h<;>rw [h]
        · simp
        · rw [qc7];omega
      rw [this]
    · have := u64_or_nat (pfU d P / 2) (pfU d P % 2) (by omega) (by omega)
      have e:((pfU d P:Nat):Int)/2^min true.toNat 64=((pfU d P/2:Nat):Int):=(by simp);rw [e,this,if_pos rfl,<-qiK];rcases Nat.mod_two_eq_zero_or_one (pfU d P) with h|h<;>simp [h]
  · have := u64_or_nat s (pfR d P) (by omega) (by omega)
    rw [this,nat_join 63 s (pfR d P) (by rcases hs with rfl|rfl<;>decide) (by omega)]
  · rw [IntKind.wrap_u64, show ((d : Int) * 2 ^ (64 - Lib.bitLen d)) = ((d * 2 ^ (64 - Lib.bitLen d) : Nat) : Int) from by simp]
    omega
  · intro w k h0 h1 h2
    exact qhU _ _ _ k w x2 (by omega) t3 (by
      calc 18446744073709551616<=9223372036854775808*9223372036854775808:=by decide
        _<=_:=Nat.mul_le_mul x1 t1) h0 h1 h2
  · rw [he];unfold qdw;rw [Nat.add_assoc]
end Go.Proofs.YtnkelahimiipjaaGreatDoor
namespace Go.Proofs.YtnkelahimiipjaaGreatDoor
open Go.RowKit Go.Sort
def qmZ (g:Bool) (b:Nat):Nat:=if g then Op.negFloat .f64 b else b
theorem qog (b:Nat) (w:World):(Op.unary UnOp.neg (.float .f64 b)).run Tryz.prog w=.ok (.float .f64 (Op.negFloat .f64 b)) w:=rfl
attribute [local go_sem] qog
theorem qcl {g:Bool} {a b:Nat} (h:qmZ g a=b):(g=false∧a=b)∨(g=true∧Op.negFloat .f64 a=b):=by
  cases g
  · exact .inl ⟨rfl,h⟩
  · exact .inr ⟨rfl,h⟩
section
variable (d:Nat) (g:Bool) (w:World) (hd':d<=999999999999999) (hi:w.cell? ⟨8,0,none⟩=some (.int .u64 52)) (fb:Nat) (hf:qmZ g (floatOfInt .f64 d)=fb)
include hd' hi hf
theorem qpd:Calls Tryz.prog 228 #[.int .u64 d,.int .i64 0,.bool g] w fun e w'=>e=.returned (.tuple #[.float .f64 fb,.bool true])∧w'=w:=by
  have aa:((d:Int)/4503599627370496 != 0)=false:=by rw [bne_eq_false_iff_eq];omega
  rcases qcl hf with ⟨rfl,hf⟩|⟨rfl,hf⟩
  all_goals go_enter Tryz.func228,Tryz.ntmps228
  all_goals go_wp2
  all_goals go_ret2
  all_goals exact ⟨rfl,rfl⟩
theorem qoq (x:Int) (hx:37<x∨x< -22):Calls Tryz.prog 228 #[.int .u64 d,.int .i64 x,.bool g] w fun e w'=>e=.returned (.tuple #[.float .f64 fb,.bool false])∧w'=w:=by
  have aa:((d:Int)/4503599627370496 != 0)=false:=by rw [bne_eq_false_iff_eq];omega
  have ab:(x==0)=false:=by rw [beq_eq_false_iff_ne];omega
  rcases qcl hf with ⟨rfl,hf⟩|⟨rfl,hf⟩<;>rcases hx with hx|hx
  all_goals go_enter Tryz.func228,Tryz.ntmps228
  all_goals go_wp2
  all_goals go_ret2
  all_goals exact ⟨rfl,rfl⟩
theorem qpX (x pb po pc p r:Nat) (h1:1<=x) (h2:x<=22) (hsl:w.cell? ⟨11,0,none⟩=some (.slice (some ⟨pb,po,none⟩) 23 pc)) (hp:w.cell? ⟨pb,po+x,none⟩=some (.float .f64 p))
    (o1:FloatKind.f64.format.order fb 4831355200913801216=some .lt) (o2:FloatKind.f64.format.order fb 14054727237768577024=some .gt) (hm:floatBits .mul .f64 fb p=some r):
    Calls Tryz.prog 228 #[.int .u64 d,.int .i64 x,.bool g] w fun e w'=>e=.returned (.tuple #[.float .f64 r,.bool true])∧w'=w:=by
  have ac:((d:Int)/4503599627370496 != 0)=false:=by rw [bne_eq_false_iff_eq];omega
  have ab:((x:Int)==0)=false:=by rw [beq_eq_false_iff_ne];omega
  have aa:=fun w=>run_float_arith (P:=Tryz.prog) w .mul 225 .f64 fb p r hm;rcases qcl hf with ⟨rfl,hf⟩|⟨rfl,hf⟩
  all_goals go_enter Tryz.func228,Tryz.ntmps228
  all_goals go_wp2
  all_goals go_ret2
  all_goals exact ⟨rfl,rfl⟩
theorem qpA (x pb po pc p r:Nat) (h1:1<=x) (h2:x<=22) (hsl:w.cell? ⟨11,0,none⟩=some (.slice (some ⟨pb,po,none⟩) 23 pc)) (hp:w.cell? ⟨pb,po+x,none⟩=some (.float .f64 p))
    (hm:floatBits .quo .f64 fb p=some r):
    Calls Tryz.prog 228 #[.int .u64 d,.int .i64 (-(x:Int)),.bool g] w fun e w'=>e=.returned (.tuple #[.float .f64 r,.bool true])∧w'=w:=by
  have ac:((d:Int)/4503599627370496 != 0)=false:=by rw [bne_eq_false_iff_eq];omega
  have ab:(-(x:Int)==0)=false:=by rw [beq_eq_false_iff_ne];omega
  have aa:=fun w=>run_float_arith (P:=Tryz.prog) w .quo 225 .f64 fb p r hm;rcases qcl hf with ⟨rfl,hf⟩|⟨rfl,hf⟩
  all_goals go_enter Tryz.func228,Tryz.ntmps228
  all_goals go_wp2
  all_goals go_ret2
  all_goals exact ⟨rfl,rfl⟩
def qdC (f:Nat):Bool:=FloatKind.f64.format.order f 4831355200913801216==some .gt || FloatKind.f64.format.order f 14054727237768577024==some .lt
theorem qn3 (x pb po pc p q f r:Nat) (a b:Bool) (h1:23<=x) (h2:x<=37) (hsl:w.cell? ⟨11,0,none⟩=some (.slice (some ⟨pb,po,none⟩) 23 pc)) (hp:w.cell? ⟨pb,po+(x-22),none⟩=some (.float .f64 p))
    (hq:w.cell? ⟨pb,po+22,none⟩=some (.float .f64 q)) (hm:floatBits .mul .f64 fb p=some f) (hm2:floatBits .mul .f64 f q=some r)
    (ha:(FloatKind.f64.format.order f 4831355200913801216==some .gt)=a) (hb:(FloatKind.f64.format.order f 14054727237768577024==some .lt)=b):
    Calls Tryz.prog 228 #[.int .u64 d,.int .i64 x,.bool g] w fun e w'=>e=.returned (.tuple #[.float .f64 (if qdC f then f else r),.bool (!qdC f)])∧w'=w:=by
  have ad:Hid (qdC f=(a || b)):=by show qdC f=_;unfold qdC;rw [ha,hb]
  have ag:((d:Int)/4503599627370496 != 0)=false:=by rw [bne_eq_false_iff_eq];omega
  have af:((x:Int)==0)=false:=by rw [beq_eq_false_iff_ne];omega
  have ae:=fun w=>run_float_arith (P:=Tryz.prog) w .mul 225 .f64 fb p f hm;have aa:=fun w=>run_float_arith (P:=Tryz.prog) w .mul 225 .f64 f q r hm2;rw [ad.out];have ab:=ha;have ac:=hb;cases a<;>cases b<;>simp only [beq_iff_eq,beq_eq_false_iff_ne,ne_eq] at ab ac
  all_goals rcases qcl hf with ⟨rfl,hf⟩|⟨rfl,hf⟩
  all_goals go_enter Tryz.func228,Tryz.ntmps228
  all_goals go_wp2
  all_goals go_ret2
  all_goals exact ⟨rfl,rfl⟩
end
end Go.Proofs.YtnkelahimiipjaaGreatDoor
namespace Go.Proofs.YtnkelahimiipjaaGreatDoor
open Go.RowKit Go.Sort
theorem qhM (s:ByteArray) (w:World) (c:Nat) (h1:1<=s.size) (h2:s.size<=1000) (hc:(s[0]'h1).toNat=c) (c1:48<=c) (c2:c<=57):
    Calls Tryz.prog 232 #[.string s,.string { data:= #[105,110,102,105,110,105,116,121] }] w fun e w'=>e=.returned (.int .i64 0)∧w=w':=by
  have t1:((c:Int) != ((({ data:= #[105,110,102,105,110,105,116,121] }:ByteArray)[0]'(by decide)).toNat:Int))=true:=by
    rw [bne_iff_ne,show (({ data:= #[105,110,102,105,110,105,116,121] }:ByteArray)[0]'(by decide)).toNat=105 from rfl];omega
  have t2:(c:Int)<65:=by omega
  go_enter Tryz.func232,Tryz.ntmps232
  go_wp2
  all_goals refine wp_loop_rounds 1 ?_
  all_goals rw [rounds_succ]
  all_goals go_wp2
  all_goals go_ret
  all_goals exact ⟨rfl,rfl⟩
theorem qde (s:ByteArray) (w:World) (c:Nat) (h1:1<=s.size) (h2:s.size<=1000) (hc:(s[0]'h1).toNat=c) (c1:48<=c) (c2:c<=57):
    Calls Tryz.prog 217 #[.string s] w fun e w'=>e=.returned (.tuple #[.float .f64 0,.int .i64 0,.bool false])∧w=w':=by
  have t0:((s.size:Int)==0)=false:=by rw [beq_eq_false_iff_ne];omega
  have t1:((c:Int)==43)=false:=by rw [beq_eq_false_iff_ne];omega
  have t2:((c:Int)==45)=false:=by rw [beq_eq_false_iff_ne];omega
  have t3:((c:Int)==105)=false:=by rw [beq_eq_false_iff_ne];omega
  have t4:((c:Int)==73)=false:=by rw [beq_eq_false_iff_ne];omega
  have t5:((c:Int)==110)=false:=by rw [beq_eq_false_iff_ne];omega
  have t6:((c:Int)==78)=false:=by rw [beq_eq_false_iff_ne];omega
  go_enter Tryz.func217,Tryz.ntmps217
  go_wp2
  go_returns
  exact ⟨rfl,rfl⟩
theorem qga (s:ByteArray) (w:World) (c:Nat) (h1:2<=s.size) (h2:s.size<=1000) (h0:(s[0]'(by omega)).toNat=45) (hc:(s[1]'(by omega)).toNat=c) (c1:48<=c) (c2:c<=57):
    Calls Tryz.prog 217 #[.string s] w fun e w'=>e=.returned (.tuple #[.float .f64 0,.int .i64 0,.bool false])∧w=w':=by
  have t0:((s.size:Int)==0)=false:=by rw [beq_eq_false_iff_ne];omega
  go_enter Tryz.func217,Tryz.ntmps217;go_wp2_with fail;refine (qhM _ _ c (by simp;omega) (by simp;omega) (by rw [ByteArray.getElem_extract];exact hc) c1 c2).mono ?_;rintro e w1 ⟨rfl,rfl⟩
  go_wp2
  go_returns
  exact ⟨rfl,rfl⟩
theorem qbf (w:World):Calls Tryz.prog 235 #[.int .u8 101] w fun e w'=>e=.returned (.int .u8 101)∧w=w':=by
  go_enter Tryz.func235,Tryz.ntmps235
  go_wp2
  go_ret;exact ⟨rfl,rfl⟩
structure Numeral (s:ByteArray) (a n z m:Nat) (B V W:Nat->Nat):Prop where
  byte:∀i (h:i<s.size),(s[i]'h).toNat=B i
  size:s.size=a+n+1+z+m
  n1:1<=n
  n2:n<=15
  m1:1<=m
  m2:m<=4
  dig:∀k,k<n->48<=B (a+k)∧B (a+k)<=57
  fst:B a≠48
  e:B (a+n)=101
  v0:V 0=0
  v1:∀k,k<n->V (k+1)=V k*10+(B (a+k)-48)
  v2:∀k,k<=n->V k<=999999999999999
  edig:∀k,k<m->48<=B (a+n+1+z+k)∧B (a+n+1+z+k)<=57
  w0:W 0=0
  w1:∀k,k<m->W (k+1)=W k*10+(B (a+n+1+z+k)-48)
  w2:∀k,k<=m->W k<=9999
end Go.Proofs.YtnkelahimiipjaaGreatDoor
