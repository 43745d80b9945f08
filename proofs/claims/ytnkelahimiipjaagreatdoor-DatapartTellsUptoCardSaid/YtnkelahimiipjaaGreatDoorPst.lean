import Derived.Test.YtnkelahimiipjaaGreatDoorRfBaset
import Derived.Test.YtnkelahimiipjaaGreatDoorPat
import Derived.Lib.ItoaNum
import Derived.Test.YtnkelahimiipjaaGreatDoorRf00t
import Derived.Test.YtnkelahimiipjaaGreatDoorRf01t
import Derived.Test.YtnkelahimiipjaaGreatDoorRf10t
import Derived.Test.YtnkelahimiipjaaGreatDoorRf11t
set_option maxRecDepth 100000
set_option maxHeartbeats 8000000
namespace Go.Proofs.YtnkelahimiipjaaGreatDoor
open Go.RowKit Go.Sort Ieee
def exOK (d:Nat) (x:Int):Bool:=decide (-22<=x∧x<=22) || decide (23<=x∧x<=37∧d*10^(x-22).toNat<=1000000000000000)
structure Tabs (w:World):Prop where
  info:w.cell? ⟨8,0,none⟩=some (.int .u64 52)
  opt:w.cell? ⟨7,0,none⟩=some (.bool true)
  pow:∃pb po pc,w.cell? ⟨11,0,none⟩=some (.slice (some ⟨pb,po,none⟩) 23 pc)∧∀i,i<=22->w.cell? ⟨pb,po+i,none⟩=some (.float .f64 (P10.getD i 0))
  hi:∀P,P<696->w.cell? ⟨14,P*2,none⟩=some (.int .u64 (tabHi P))
  lo:∀P,P<696->w.cell? ⟨14,P*2+1,none⟩=some (.int .u64 (tabLo P))
  u64:Lib.TabIs Tryz.prog w "internal/strconv.uint64pow10" .u64 Lib.pow10Tab
theorem Tabs.size {w:World} (h:Tabs w):14<w.heap.size:=qaa (h.hi 0 (by decide))
theorem gU64:Tryz.prog.globalNamed "internal/strconv.uint64pow10" =some 5:=by kernel_rfl
theorem qkp {w w':World} (h:Lib.TabIs Tryz.prog w "internal/strconv.uint64pow10" .u64 Lib.pow10Tab) (k:Ext w w') (hs:5<w.heap.size):Lib.TabIs Tryz.prog w' "internal/strconv.uint64pow10" .u64 Lib.pow10Tab:=
  var?_below k.below gU64 hs h
theorem Tabs.ext {w w':World} (h:Tabs w) (k:Ext w w'):Tabs w':=by
  obtain ⟨pb,po,pc,h1,h2⟩:=h.pow;exact ⟨k.cell_some h.info,k.cell_some h.opt,⟨pb,po,pc,k.cell_some h1,fun i hi=>k.cell_some (h2 i hi)⟩,fun P hP=>k.cell_some (h.hi P hP),fun P hP=>k.cell_some (h.lo P hP),
    qkp h.u64 k (Nat.lt_of_lt_of_le (by decide) (Nat.le_of_lt h.size))⟩
theorem qpk {d:Nat} (hd':d<=999999999999999):d*2^E0<1000000000000000*2^E0:=Nat.mul_lt_mul_of_pos_right (by omega) (Nat.two_pow_pos _)
theorem qdp (n:Nat):1<=10^n:=Nat.pow_pos (by decide)
theorem qpP (d : Nat) (x : Int) (g : Bool) (w : World) (hd : 1 <= d) (hd' : d <= 999999999999999) (T : Tabs w) (hok : exOK d x = true) :
    Calls Tryz.prog 228 #[.int .u64 d,.int .i64 x,.bool g] w fun e w'=>e=.returned (.tuple #[.float .f64 (double.word g (qa8 d x)),.bool true])∧w'=w:=by
  have ad:=qhn d g hd (by omega);obtain ⟨fb,aa⟩:∃fb,fb=qmZ g (floatOfInt .f64 d):=⟨_,rfl⟩;have hR:Rep g fb (d*2^E0):=by rw [aa];exact ad
  obtain ⟨pb,po,pc,h1,h2⟩:=T.pow;have ac:FloatKind.f64.format.order fb 4831355200913801216=some .lt∧FloatKind.f64.format.order fb 14054727237768577024=some .gt:=by
    obtain ⟨j,q,e,q1,q2,q3,q4,q5⟩:=hR;rw [e];exact (qfV g j q q1 q2 (by omega)).1 (by rw [q3];exact qpk hd')
  rcases Int.lt_trichotomy x 0 with hx|rfl|hx
  · -- below 0
    obtain ⟨n,rfl⟩:∃n:Nat,x= -(n:Int):=⟨(-x).toNat,by omega⟩;have hn:n<=22:=by
      unfold exOK at hok;simp only [Bool.or_eq_true,decide_eq_true_eq] at hok;omega
    have ah:=qoB hR (qcX n hn) hd (qdp n) (Nat.pow_le_pow_right (by decide) hn);have hv:qa8 d (-(n:Int))=qbi (d*2^E0) (10^n):=by
      unfold qa8;rw [if_neg (by omega),show (-(-(n:Int))).toNat=n from by omega]
    rw [hv];exact qpA d g w hd' T.info fb aa.symm n pb po pc _ _ (by omega) hn h1 (h2 n hn) ah
  · have hv : fb = double.word g (qa8 d 0) := by
      rw [hR.eq];unfold qa8;rw [if_pos (by decide)];simp
    rw [<-hv];exact qpd d g w hd' T.info fb aa.symm
  · obtain ⟨n, rfl⟩ : ∃ n : Nat, x = (n : Int) := ⟨x.toNat, by omega⟩
    have hv:qa8 d (n:Int)=qbi (d*10^n*2^E0) 1:=by
      unfold qa8;rw [if_pos (by omega),Int.toNat_natCast]
    rw [hv];rcases Nat.lt_or_ge 22 n with hn|hn
    · have ab : n <= 37 ∧ d * 10 ^ (n - 22) <= 1000000000000000 := by
        unfold exOK at hok;simp only [Bool.or_eq_true,decide_eq_true_eq] at hok;rw [show ((n:Int)-22).toNat=n-22 from by omega] at hok;rcases hok with h|h
        · omega
        · exact ⟨by omega,h.2.2⟩
      have hm:=qf5 hR (qcX (n-22) (by omega)) hd (qdp _);have ae:1<=d*10^(n-22):=Nat.mul_pos hd (qdp _);have af:Rep g (double.word g (qbi (d*10^(n-22)*2^E0) 1)) (d*10^(n-22)*2^E0):=by
        have :=qhn (d*10^(n-22)) g ae (by omega);rw [<-this.eq];exact this
      have ag:=qf5 af (qcX 22 (by decide)) ae (qdp _);have ai:qdC (double.word g (qbi (d*10^(n-22)*2^E0) 1))=false:=by
        obtain ⟨j,q,e,q1,q2,q3,q4,q5⟩:=af;rw [e];exact (qfV g j q q1 q2 (by omega)).2.2 (by rw [q3];exact Nat.mul_le_mul_right _ ab.2)
      have hw:=qn3 d g w hd' T.info fb aa.symm n pb po pc _ _ _ _ _ _ (by omega) ab.1 h1 (h2 (n-22) (by omega)) (h2 22 (by decide)) hm ag rfl rfl;rw [ai] at hw;have e2:d*10^(n-22)*10^22=d*10^n:=(by rw [Nat.mul_assoc,<-Nat.pow_add,Nat.sub_add_cancel (by omega)]);rw [e2] at hw;simpa using hw
    · have hm := qf5 hR (qcX n hn) hd (qdp n)
      exact qpX d g w hd' T.info fb aa.symm n pb po pc _ _ (by omega) hn h1 (h2 n hn) ac.1 ac.2 hm
theorem qoQ {g : Bool} {N : Nat} (h15 : 1000000000000000 < N) (hN : N < 2 ^ 200) : qdC (double.word g (qbi (N * 2 ^ E0) 1)) = true ∧ ∃ j q, qbi (N * 2 ^ E0) 1 = j * 4503599627370496 + q ∧ 4503599627370496 <= q ∧ q < 9007199254740992 ∧ j <= 1400 ∧ 900 <= j := by
  have hE:=qeK;have hn:=qcd (N*2^E0) 1 (by decide) (by
    rw [Nat.div_one]
    calc 4503599627370496<=2^E0:=Nat.le_trans (by decide) qlW
      _<=N*2^E0:=Nat.le_mul_of_pos_left _ (by omega))
  obtain ⟨r,hr⟩:∃r,r=qbi (N*2^E0) 1:=⟨_,rfl⟩;rw [<-hr] at hn ⊢;obtain ⟨j,q,q1,q2,q3,q4,q5⟩:=hn;rw [Nat.mul_one] at q3 q4;have aa:1000000000000000*2^E0<q*2^j:=by
    rcases Nat.lt_or_ge E0 j with h|h
    · calc 1000000000000000*2^E0<9007199254740992*2^E0:=Nat.mul_lt_mul_of_pos_right (by decide) (Nat.two_pow_pos _)
        _=4503599627370496*2^(E0+1):=by rw [Nat.pow_succ 2 E0,Nat.mul_comm (2^E0) 2,<-Nat.mul_assoc]
        _<=q*2^j:=Nat.mul_le_mul q1 (Nat.pow_le_pow_right (by decide) h)
    · obtain ⟨t, ht⟩ : ∃ t, E0 = t + j := ⟨E0 - j, by omega⟩
      rw [ht,Nat.pow_add,<-Nat.mul_assoc] at q3 q4 ⊢;have a:=Nat.le_of_mul_le_mul_right q3 (Nat.two_pow_pos j);have b:=Nat.lt_of_mul_lt_mul_right q4;refine Nat.mul_lt_mul_of_pos_right ?_ (Nat.two_pow_pos j);have :q=N*2^t:=(by omega);rw [this];exact Nat.mul_lt_mul_of_pos_right h15 (Nat.two_pow_pos _)
  have hj:j<=1300:=by
    rcases Nat.lt_or_ge 1300 j with h|h
    · exfalso
      have a:q*2^j<2^200*2^E0:=Nat.lt_of_le_of_lt q3 (Nat.mul_lt_mul_of_pos_right hN (Nat.two_pow_pos _));have b:1*2^(200+E0)<=q*2^j:=Nat.mul_le_mul (by omega) (Nat.pow_le_pow_right (by decide) (by omega));rw [Nat.one_mul,Nat.pow_add] at b;omega
    · exact h
  have ab:900<=j:=by
    rcases Nat.lt_or_ge j 900 with h|h
    · exfalso
      obtain ⟨F,hF⟩:∃F,F=900:=⟨_,rfl⟩;have a:q*2^j<=9007199254740992*2^F:=Nat.mul_le_mul (by omega) (Nat.pow_le_pow_right (by decide) (by omega));have b:(9007199254740992:Nat)*2^F<=2^E0:=by
        rw [show (9007199254740992:Nat)=2^53 from by decide,<-Nat.pow_add];exact Nat.pow_le_pow_right (by decide) (by omega)
      have c:2^E0<=1000000000000000*2^E0:=Nat.le_mul_of_pos_left _ (by decide);exact absurd aa (Nat.not_lt.2 (Nat.le_trans a (Nat.le_trans b c)))
    · exact h
  have hu:=qoA (N*2^E0-q*(2^j*1)) (2^j*1) q;generalize up (N*2^E0-q*(2^j*1)) (2^j*1) q=u at q5 hu;unfold qdC;rcases Nat.lt_or_ge (q+u) 9007199254740992 with h|h
  · rw [q5, Nat.add_assoc]
    refine ⟨?_,j,q+u,rfl,by omega,h,by omega,by omega⟩;refine (qfV g j (q+u) (by omega) h (by omega)).2.1 (Nat.lt_of_lt_of_le aa (Nat.mul_le_mul_right _ (by omega)))
  · have e : j * 4503599627370496 + q + u = (j + 1) * 4503599627370496 + 4503599627370496 := by omega
    rw [q5,e];refine ⟨?_,j+1,4503599627370496,rfl,by omega,by omega,by omega,by omega⟩;refine (qfV g (j+1) 4503599627370496 (by omega) (by omega) (by omega)).2.1 (Nat.lt_of_lt_of_le aa ?_);rw [Nat.pow_succ 2 j,Nat.mul_comm (2^j) 2,<-Nat.mul_assoc];exact Nat.mul_le_mul_right _ (by omega)
theorem qpx (d : Nat) (x : Int) (g : Bool) (w : World) (hd : 1 <= d) (hd' : d <= 999999999999999) (T : Tabs w) (hok : exOK d x = false) :
    Calls Tryz.prog 228 #[.int .u64 d,.int .i64 x,.bool g] w fun e w'=>(∃v,e=.returned (.tuple #[.float .f64 v,.bool false]))∧w'=w:=by
  have ab:=qhn d g hd (by omega);obtain ⟨fb,aa⟩:∃fb,fb=qmZ g (floatOfInt .f64 d):=⟨_,rfl⟩;have hR:Rep g fb (d*2^E0):=by rw [aa];exact ab
  obtain ⟨pb,po,pc,h1,h2⟩:=T.pow;unfold exOK at hok;simp only [Bool.or_eq_false_iff,decide_eq_false_iff_not] at hok;by_cases hx:37<x∨x< -22
  · exact (qoq d g w hd' T.info fb aa.symm x hx).mono fun e w' h=>⟨⟨_,h.1⟩,h.2⟩
  · obtain ⟨n, rfl⟩ : ∃ n : Nat, x = (n : Int) := ⟨x.toNat, by omega⟩
    rw [show ((n:Int)-22).toNat=n-22 from by omega] at hok;have hN:1000000000000000<d*10^(n-22):=(by omega);have hm:=qf5 hR (qcX (n-22) (by omega)) hd (qdp _);have af:d*10^(n-22)<2^200:=by
      calc d*10^(n-22)<=999999999999999*10^15:=Nat.mul_le_mul hd' (Nat.pow_le_pow_right (by decide) (by omega))
        _<2^200:=by decide+kernel
    obtain ⟨ag,j,q,ad,k1,k2,k3,k4⟩:=qoQ (g:=g) hN af;have ac:∃r,floatBits .mul .f64 (double.word g (qbi (d*10^(n-22)*2^E0) 1)) (P10.getD 22 0)=some r:=by
      obtain ⟨j2,q2,e2,b1,b2,b3,b4,b5⟩:=qcX 22 (by decide);obtain ⟨P,hP⟩:∃P,j+j2=P+1074:=⟨j+j2-1074,by omega⟩;obtain ⟨r,e,_⟩:=qiu g j q j2 q2 P k1 k2 b1 b2 hP (by omega) (by omega);exact ⟨_,by rw [ad,e2];exact e⟩
    obtain ⟨r,ae⟩:=ac;have hw:=qn3 d g w hd' T.info fb aa.symm n pb po pc _ _ _ _ _ _ (by omega) (by omega) h1 (h2 (n-22) (by omega)) (h2 22 (by decide)) hm ae rfl rfl;rw [ag] at hw;exact hw.mono fun e w' h=>⟨⟨_,by simpa using h.1⟩,h.2⟩
end Go.Proofs.YtnkelahimiipjaaGreatDoor
namespace Go.Proofs.YtnkelahimiipjaaGreatDoor
open Go.RowKit Go.Sort Ieee
attribute [local go_sem] qev qc4
def qj9 (d:Nat) (x:Int):Nat:=if exOK d x then qa8 d x else qdw d (x+348).toNat
theorem qpp (s:ByteArray) (d:Nat) (x:Int) (g:Bool) (w:World) (v:Nat) (hd:1<=d) (hx: -300<=x) (hx':x<=290)
    (hopt:w.cell? ⟨7,0,none⟩=some (.bool true))
    (hsp:∀w,Calls Tryz.prog 217 #[.string s] w fun e w'=>e=.returned (.tuple #[.float .f64 0,.int .i64 0,.bool false])∧w=w')
    (hrf:∀w,Calls Tryz.prog 218 #[.string s] w fun e w'=>e=.returned (.tuple #[.int .u64 d,.int .i64 x,.bool g,.bool false,.bool false,.int .i64 s.size,.bool true])∧w=w')
    (hex:Calls Tryz.prog 228 #[.int .u64 d,.int .i64 x,.bool g] w fun e w'=>e=.returned (.tuple #[.float .f64 v,.bool true])∧w'=w):
    Calls Tryz.prog 210 #[.string s] w fun e w'=>e=.returned (.tuple #[.float .f64 v,.int .i64 s.size,.nilIface])∧Ext w w':=by
  have K1:=Lib.hid hsp;have K2:=Lib.hid hrf;have K3:=Lib.hid hex;clear hsp hrf hex;have aa:((d:Int)==0)=false:=by rw [beq_eq_false_iff_ne];omega
  go_enter Tryz.func210,Tryz.ntmps210;go_wp2_with fail;refine (K1.out _).mono ?_;rintro e w1 ⟨rfl,rfl⟩;go_wp2_with fail;refine (K2.out _).mono ?_;rintro e w2 ⟨rfl,rfl⟩;go_wp2_with fail;refine (qbG _ _).mono ?_;rintro e w3 ⟨rfl,rfl⟩;go_wp2_with fail;refine K3.out.mono ?_;rintro e w4 ⟨rfl,rfl⟩;go_wp2_with fail
  go_ret3
  exact ⟨rfl,Ext.refl _⟩
theorem qpS (s:ByteArray) (d:Nat) (x:Int) (g:Bool) (w:World) (v sg:Nat) (hd:1<=d) (hx: -300<=x) (hx':x<=290)
    (hopt:w.cell? ⟨7,0,none⟩=some (.bool true)) (hsg:IntKind.u64.wrap ((g.toNat:Int)*9223372036854775808)=(sg:Int))
    (hsp:∀w,Calls Tryz.prog 217 #[.string s] w fun e w'=>e=.returned (.tuple #[.float .f64 0,.int .i64 0,.bool false])∧w=w')
    (hrf:∀w,Calls Tryz.prog 218 #[.string s] w fun e w'=>e=.returned (.tuple #[.int .u64 d,.int .i64 x,.bool g,.bool false,.bool false,.int .i64 s.size,.bool true])∧w=w')
    (hex:Calls Tryz.prog 228 #[.int .u64 d,.int .i64 x,.bool g] w fun e w'=>(∃v,e=.returned (.tuple #[.float .f64 v,.bool false]))∧w'=w)
    (hpf:Calls Tryz.prog 229 #[.int .u64 d,.int .i64 x,.int .u64 sg] w fun e w'=>e=.returned (.tuple #[.float .f64 v,.nilIface])∧Ext w w'):
    Calls Tryz.prog 210 #[.string s] w fun e w'=>e=.returned (.tuple #[.float .f64 v,.int .i64 s.size,.nilIface])∧Ext w w':=by
  have K1:=Lib.hid hsp;have K2:=Lib.hid hrf;have K3:=Lib.hid hex;have K4:=Lib.hid hpf;clear hsp hrf hex hpf;have ab:((d:Int)==0)=false:=by rw [beq_eq_false_iff_ne];omega
  go_enter Tryz.func210,Tryz.ntmps210;go_wp2_with fail;refine (K1.out _).mono ?_;rintro e w1 ⟨rfl,rfl⟩;go_wp2_with fail;refine (K2.out _).mono ?_;rintro e w2 ⟨rfl,rfl⟩;go_wp2_with fail;refine (qbG _ _).mono ?_;rintro e w3 ⟨rfl,rfl⟩;go_wp2_with fail;refine K3.out.mono ?_;rintro e w4 ⟨⟨u,rfl⟩,rfl⟩;go_wp2_with fail;refine K4.out.mono ?_;rintro e w5 ⟨rfl,aa⟩;go_wp2_with fail
  go_ret3
  exact ⟨rfl,aa⟩
end Go.Proofs.YtnkelahimiipjaaGreatDoor
namespace Go.Proofs.YtnkelahimiipjaaGreatDoor
open Go.RowKit Go.Sort Ieee
def NP (P:Nat):Nat:=if 348<=P then 5^(P-348) else 2^(((348-P)*108853+32767)/32768-(348-P))
def MP (P:Nat):Nat:=if 348<=P then 2^((P-348)*108853/32768-(P-348)) else 5^(348-P)
def tabB (P hi lo:Nat):Bool:=
  decide (MP P<=NP P) && decide ((hi*18446744073709551616-lo-1)*MP P<NP P*170141183460469231731687303715884105728) && decide (NP P*170141183460469231731687303715884105728<=(hi*18446744073709551616-lo)*MP P) && gapB (NP P) (MP P)
def qgU:List (Nat×Nat)->Nat->Bool
  | [],_=>true
  |x::l,P=>(decide (P<48) || decide (638<P) || tabB P x.1 x.2) && qgU l (P+1)
theorem qmm:qgU Go.Pinned.pow10Rows 0=true:=by decide+kernel
theorem qeN:∀(l:List (Nat×Nat)) (s i:Nat),qgU l s=true->i<l.length->48<=s+i->s+i<=638->tabB (s+i) (l.getD i (0,0)).1 (l.getD i (0,0)).2=true
  | [],_,_,_,h,_,_=>by simp at h
  | x :: l, s, 0, h, _, h1, h2 => by
    unfold qgU at h;rw [Bool.and_eq_true,Bool.or_eq_true,Bool.or_eq_true,decide_eq_true_eq,decide_eq_true_eq] at h;rcases h.1 with (h|h)|h
    · omega
    · omega
    · exact h
  | x :: l, s, i + 1, h, hi, h1, h2 => by
    unfold qgU at h;rw [Bool.and_eq_true] at h;have :=qeN l (s+1) i h.2 (by simpa using hi) (by omega) (by omega);rw [show s+(i+1)=s+1+i by omega];exact this
theorem qkz {X D hi lo N M H Mi m2 l2 Y : Nat} (hM : 0 < M) (hD1 : 9007199254740992 <= D) (hD2 : D < 18014398509481984) (hX : X = D * 1024) (hlo : lo < 18446744073709551616)
    (e1:X*hi=H*18446744073709551616+Mi) (hMi:Mi<18446744073709551616) (e2:X*lo=m2*18446744073709551616+l2) (hl2:l2<18446744073709551616)
    (hY:Y+X*lo=X*hi*18446744073709551616) (t1:Y*M<N*170141183460469231731687303715884105728*X+X*M) (t2:N*170141183460469231731687303715884105728*X<=Y*M) (hH0:0<H) (hg:Gap N M):
    qhw (qd6 H Mi m2) (2*D*N) M:=by
  have am:X<=18446744073709551615:=by omega
  have ad:X*lo<=340282366920938463426481119284349108225:=by
    calc X*lo<=18446744073709551615*18446744073709551615:=Nat.mul_le_mul am (by omega)
      _=_:=by decide
  obtain ⟨DN,af⟩:∃DN,DN=D*N:=⟨_,rfl⟩;have hA:2*D*N=2*DN:=by rw [af,Nat.mul_assoc]
  have ac:N*170141183460469231731687303715884105728*X=2*DN*87112285931760246646623899502532662132736:=by
    rw [af,hX,Nat.mul_mul_mul_comm,Nat.mul_comm N D];clear t1 t2 hY e1 e2 ad;generalize D*N=z;omega
  rw [ac] at t1 t2;have aj:X*M+M<=18446744073709551616*M:=by
    have :(X+1)*M<=18446744073709551616*M:=Nat.mul_le_mul_right _ (by omega)
    rwa [Nat.add_mul,Nat.one_mul] at this
  rw [e1] at hY;rw [e2] at hY ad;have lo_lem:∀h,h*87112285931760246646623899502532662132736+18446744073709551616<=Y->h*M<2*DN:=by
    intro h hh;have :=Nat.mul_le_mul_right M hh;rw [Nat.add_mul,Nat.mul_right_comm] at this;exact qpW t1 aj this
  have hi_lem:∀h,Y<h*87112285931760246646623899502532662132736->2*DN<h*M:=by
    intro h hh;have :=Nat.mul_lt_mul_of_pos_right hh hM;rw [Nat.mul_right_comm] at this;exact qp7 t2 this
  rw [hA];have odd:∀h,h*87112285931760246646623899502532662132736+18446744073709551616<=Y->Y<(h+1)*87112285931760246646623899502532662132736->qhw (h ||| 1) (2*DN) M:=by
    intro h k1 k2;rw [qc7];have a1:=lo_lem h k1;have a2:=hi_lem (h+1) k2;right;exact ⟨by omega,Nat.lt_of_le_of_lt (Nat.mul_le_mul_right _ (by omega)) a1,Nat.lt_of_lt_of_le a2 (Nat.mul_le_mul_right _ (by omega))⟩
  unfold qd6;by_cases hH:H/256*256≠H
  · rw [if_pos hH]
    exact odd _ (qkl hMi ad hY hH).1 (qkl hMi ad hY hH).2
  · rw [if_neg hH]
    obtain ⟨D2,aa⟩:∃D2,D2=subW Mi m2:=⟨_,rfl⟩;have an:m2<=18446744073709551614:=(by clear hY t1 t2 e1 e2 ac;omega);obtain ⟨H1,ah⟩:∃H1,H1=H-(decide (Mi<m2)).toNat:=⟨_,rfl⟩;rw [<-aa,<-ah];have ab:Y+l2=H1*340282366920938463463374607431768211456+D2*18446744073709551616:=by
      rw [ah,aa];unfold subW;by_cases hlt:Mi<m2
      · rw [if_pos hlt,decide_eq_true hlt,Bool.toNat_true];exact qoL hl2 ad hY hlt hH0
      · rw [if_neg hlt,decide_eq_false hlt,Bool.toNat_false];exact qnR hY (by omega)
    by_cases h1:1<D2
    · rw [decide_eq_true h1, Bool.toNat_true]
      have hd:D2<=18446744073709551615:=(by rw [aa];exact qla _ _ (by clear hY t1 t2 e1 e2 ac;omega) (by clear hY t1 t2 e1 e2 ac;omega));exact odd _ (qpr hl2 hd h1 ab).1 (qpr hl2 hd h1 ab).2
    · rw [decide_eq_false h1, Bool.toNat_false, Nat.or_zero]
      have ak:m2<=Mi:=by
        rcases Nat.lt_or_ge Mi m2 with h|h
        · exfalso;rw [aa] at h1;unfold subW at h1;rw [if_pos h] at h1;clear hY t1 t2 e1 e2 ac ab;omega
        · exact h
      have ag:H1=H/256*256:=(by rw [ah,decide_eq_false (Nat.not_lt.2 ak),Bool.toNat_false];exact (Decidable.not_not.1 hH).symm);obtain ⟨h,hh⟩:∃h,h=H/256:=⟨_,rfl⟩;rw [<-hh] at ag;have hq:H1/256=h:=(by rw [ag];exact Nat.mul_div_cancel _ (by decide));rw [hq];rw [ag] at ab;obtain ⟨u1,u2⟩:=qqi hl2 h1 ab;rcases Nat.mod_two_eq_zero_or_one h with he|ho
      · left
        refine ⟨he, ?_⟩;obtain ⟨n,hn⟩:∃n,h=2*n:=⟨h/2,by clear hY t1 t2 e1 e2 ac ab u1 u2;omega⟩;have v1:=Nat.mul_le_mul_right M u1;have v2:=Nat.mul_le_mul_right M u2;rw [Nat.add_mul,Nat.mul_right_comm,hn,Nat.mul_assoc 2 n M] at v1;rw [Nat.add_mul,Nat.mul_right_comm,hn,Nat.mul_assoc 2 n M] at v2;rw [hn,Nat.mul_assoc];refine congrArg (2* ·) ?_;refine Classical.byContradiction fun al=> ?_;have ae:=hg D n (by clear hY t1 t2 e1 e2 ac ab u1 u2 v1 v2;omega) hD2 (by rw [<-af];exact al);rw [<-af] at ae;exact qoz t1 t2 aj v1 v2 ae
      · right
        refine ⟨ho, ?_, ?_⟩
        · refine lo_lem (h - 1) ?_
          obtain ⟨g,ai⟩:∃g,h=g+1:=⟨h-1,by clear hY t1 t2 e1 e2 ac ab u1 u2;omega⟩;rw [ai,Nat.add_sub_cancel];rw [ai] at u2;exact qqj u2
        · exact hi_lem (h+1) (qqo u1)
theorem qgo (d x lp b j:Nat) (hx:x<=lp) (hb:b<=54) (hj:j=1021+b+lp):
    d*10^x*2^E0*(4*2^(lp-x))=2*(d*2^(54-b))*5^x*(2^j*1):=by
  have hE:=qeK;have e1:d*10^x*2^E0*(4*2^(lp-x))=d*5^x*(2^x*2^E0*2^2*2^(lp-x)):=by
    rw [show (10:Nat)=2*5 from rfl,Nat.mul_pow,show (4:Nat)=2^2 from rfl];simp only [Nat.mul_assoc,Nat.mul_comm,Nat.mul_left_comm]
  have e2:2*(d*2^(54-b))*5^x*(2^j*1)=d*5^x*(2^1*2^(54-b)*2^j):=by
    rw [Nat.mul_one,Nat.pow_one];simp only [Nat.mul_assoc,Nat.mul_comm,Nat.mul_left_comm]
  rw [e1,e2,<-Nat.pow_add,<-Nat.pow_add,<-Nat.pow_add,<-Nat.pow_add,<-Nat.pow_add];congr 2;omega
theorem qgF (d y k b j:Nat) (hy:y<=k) (hb:b<=54) (hj:j+k=1021+b):
    d*2^E0*(4*5^y)=2*(d*2^(54-b))*2^(k-y)*(2^j*10^y):=by
  have hE:=qeK;have e1:d*2^E0*(4*5^y)=d*5^y*(2^E0*2^2):=by
    rw [show (4:Nat)=2^2 from rfl];simp only [Nat.mul_assoc,Nat.mul_comm,Nat.mul_left_comm]
  have e2:2*(d*2^(54-b))*2^(k-y)*(2^j*10^y)=d*5^y*(2^1*2^(54-b)*2^(k-y)*2^j*2^y):=by
    rw [show (10:Nat)=2*5 from rfl,Nat.mul_pow,Nat.pow_one];simp only [Nat.mul_assoc,Nat.mul_comm,Nat.mul_left_comm]
  rw [e1,e2,<-Nat.pow_add,<-Nat.pow_add,<-Nat.pow_add,<-Nat.pow_add,<-Nat.pow_add];congr 2;omega
theorem qo8 (d P : Nat) (hd : 1 <= d) (hd' : d <= 999999999999999) (hP0 : 48 <= P) (hP : P <= 638) : qdw d P = qa8 d ((P : Int) - 348) := by
  obtain ⟨b1,b2,b3,b4⟩:=qeH d hd (by omega);have ao:=qkE d P hd (by omega) (by omega);have aa:Lib.bitLen d<=50:=by
    rcases Nat.lt_or_ge 50 (Lib.bitLen d) with h|h
    · exfalso
      have :2^50<=2^(Lib.bitLen d-1):=Nat.pow_le_pow_right (by decide) (by omega);have :(2:Nat)^50=1125899906842624:=(by decide);omega
    · exact h
  have hT:tabB P (tabHi P) (tabLo P)=true:=by
    have :=qeN Go.Pinned.pow10Rows 0 P qmm (by rw [qhV.1];omega) (by omega) (by omega)
    rwa [Nat.zero_add] at this
  obtain ⟨k1,k2,k3⟩:=qlF P (by omega);unfold tabB at hT;simp only [Bool.and_eq_true,decide_eq_true_eq] at hT;obtain ⟨⟨⟨ag,t1⟩,t2⟩,al⟩:=hT;have hM:0<MP P:=by
    unfold MP;split
    · exact Nat.two_pow_pos _
    · exact Nat.pow_pos (by decide)
  obtain ⟨b,hb⟩:∃b,b=Lib.bitLen d:=⟨_,rfl⟩;rw [<-hb] at b1 b2 b3 b4 aa;obtain ⟨D,hD⟩:∃D,D=d*2^(54-b):=⟨_,rfl⟩;have ah:9007199254740992<=D:=by
    rw [hD]
    calc 9007199254740992=2^(b-1)*2^(54-b):=by rw [<-Nat.pow_add,show b-1+(54-b)=53 by omega]
      _<=_:=Nat.mul_le_mul_right _ b3
  have aj:D<18014398509481984:=by
    rw [hD]
    calc d*2^(54-b)<2^b*2^(54-b):=Nat.mul_lt_mul_of_pos_right b4 (Nat.two_pow_pos _)
      _=18014398509481984:=by rw [<-Nat.pow_add,show b+(54-b)=54 by omega]
  obtain ⟨X,hX⟩:∃X,X=d*2^(64-b):=⟨_,rfl⟩;have am:X=D*1024:=by rw [hX,hD,show 64-b=54-b+10 by omega,Nat.pow_add,Nat.mul_assoc]
  obtain ⟨pm,ae⟩:∃pm,pm=tabHi P*18446744073709551616-tabLo P:=⟨_,rfl⟩;rw [<-ae] at t1 t2;have ab:pm=pm-1+1:=by omega
  have af:qhw (pfU d P) (2*D*NP P) (MP P):=by
    have hu:pfU d P=qd6 (X*tabHi P/18446744073709551616) (X*tabHi P%18446744073709551616) (X*tabLo P/18446744073709551616):=by
      unfold pfU usc;rw [<-hb,<-hX]
    rw [hu];refine qkz (X:=X) (hi:=tabHi P) (lo:=tabLo P) (l2:=X*tabLo P%18446744073709551616) (Y:=X*pm) hM ah aj am k3 ?_ (Nat.mod_lt _ (by decide)) ?_ (Nat.mod_lt _ (by decide)) ?_ ?_ ?_ ?_ (qpM al)
    · have :=Nat.div_add_mod (X*tabHi P) 18446744073709551616;omega
    · have :=Nat.div_add_mod (X*tabLo P) 18446744073709551616;omega
    · rw [Nat.mul_assoc,<-Nat.mul_add,ae,Nat.sub_add_cancel (by omega)]
    · have e : X * pm * MP P = (pm - 1) * MP P * X + X * MP P := by
        rw [show X*pm=X*(pm-1)+X by rw [<-Nat.mul_succ,Nat.succ_eq_add_one,<-ab],Nat.add_mul];congr 1;rw [Nat.mul_assoc,Nat.mul_comm]
      rw [e];have :=Nat.mul_lt_mul_of_pos_right t1 (show 0<X by omega);omega
    · have := Nat.mul_le_mul_right X t2
      rwa [show pm*MP P*X=X*pm*MP P by rw [Nat.mul_right_comm,Nat.mul_comm pm X]] at this
    · refine Nat.div_pos ?_ (by decide)
      calc 18446744073709551616<=9223372036854775808*9223372036854775808:=by decide
        _<=X*tabHi P:=Nat.mul_le_mul (by omega) k1
  have hA:18014398509481984*MP P<=2*D*NP P:=Nat.mul_le_mul (by omega) ag
  -- the exponent
  obtain ⟨j,hj,ak⟩:∃j:Nat,(j:Int)=1021+b+((P:Int)-348)*108853/32768∧vN d ((P:Int)-348)*(4*MP P)=2*D*NP P*(2^j*vD ((P:Int)-348)):=by
    rcases Nat.lt_or_ge P 348 with an|ad
    · obtain ⟨y, hy⟩ : ∃ y, y = 348 - P := ⟨_, rfl⟩
      obtain ⟨k,hk⟩:∃k,k=(y*108853+32767)/32768:=⟨_,rfl⟩;refine ⟨1021+b-k,by omega, ?_⟩;have ev:vN d ((P:Int)-348)=d*2^E0:=(by unfold vN;rw [if_neg (by omega)]);have ed:vD ((P:Int)-348)=10^y:=(by unfold vD;rw [if_neg (by omega)];congr 1;omega);have em:MP P=5^y:=(by unfold MP;rw [if_neg (by omega),hy]);have en:NP P=2^(k-y):=(by unfold NP;rw [if_neg (by omega),<-hy,<-hk]);rw [ev,ed,em,en,hD];exact qgF d y k b _ (by omega) (by omega) (by omega)
    · obtain ⟨x, hx⟩ : ∃ x, x = P - 348 := ⟨_, rfl⟩
      obtain ⟨lp,ai⟩:∃lp,lp=x*108853/32768:=⟨_,rfl⟩;refine ⟨1021+b+lp,by omega, ?_⟩;have ev:vN d ((P:Int)-348)=d*10^x*2^E0:=(by unfold vN;rw [if_pos (by omega),show ((P:Int)-348).toNat=x by omega]);have ed:vD ((P:Int)-348)=1:=(by unfold vD;rw [if_pos (by omega)]);have em:MP P=2^(lp-x):=(by unfold MP;rw [if_pos ad,<-hx,<-ai]);have en:NP P=5^x:=(by unfold NP;rw [if_pos ad,hx]);rw [ev,ed,em,en,hD];exact qgo d x lp b _ (by omega) (by omega) rfl
  have hn:=qkg (c:=pfC d P) (v:=pfV d P) hM (qfa _) hA (by omega) af ak rfl (by
    unfold pfV qgJ;cases pfC d P
    · rfl
    · by_cases h : pfU d P % 2 = 1
      · simp [h]
      · simp [h])
  have hr:=qnV d P hd (by omega) (by omega);have hc:=qbr (pfC d P);have ac:qdw d P=(j+(pfC d P).toNat)*4503599627370496+(pfV d P+1+pfV d P/4%2)/4:=by
    have hR:pfR d P=(pfV d P+1+pfV d P/4%2)/4:=rfl;unfold qdw;rw [<-hR,<-hb];generalize pfR d P=r at *;generalize (pfC d P).toNat=c at *;rw [show (1075+ -(53-(b:Int)-((P:Int)-348)*108853/32768-(c:Int))).toNat=j+c+1 by omega];omega
  rw [ac];exact hn.unique (qbS d _ hd (by omega))
theorem qjk (d:Nat) (x:Int) (hd:1<=d) (hd':d<=999999999999999) (hx: -300<=x) (hx':x<=290):qj9 d x=qa8 d x:=by
  unfold qj9
  split
  · rfl
  · rw [qo8 d _ hd hd' (by omega) (by omega)]
    congr 1;omega
end Go.Proofs.YtnkelahimiipjaaGreatDoor
namespace Go.Proofs.YtnkelahimiipjaaGreatDoor
open Go.Lib
theorem qd9 (u:Nat) (h:1<=u):10^(nDigits u-1)<=u:=by
  induction u using Nat.strongRecOn with
  | _ u ih =>
    by_cases h10:u<10
    · rw [nDigits_small h10];simpa using h
    · rw [nDigits_big h10]
      have :=ih (u/10) (by omega) (by omega);have hp:=nDigits_pos (u/10);rw [Nat.add_sub_cancel,show nDigits (u/10)=(nDigits (u/10)-1)+1 by omega,Nat.pow_succ];omega
theorem qdi (u n:Nat) (h:u<10^n) (hn:1<=n):nDigits u<=n:=by
  rcases Nat.eq_zero_or_pos u with h0|h0
  · rw [h0,nDigits_small (by decide)];exact hn
  · rcases Nat.lt_or_ge n (nDigits u) with h1 | h1
    · exfalso
      have a:=qd9 u h0;have b:10^n<=10^(nDigits u-1):=Nat.pow_le_pow_right (by decide) (by omega);omega
    · exact h1
theorem qdD (u t:Nat) (ht:t<nDigits u):((decDigits u).getD t 0).toNat=48+u/10^(nDigits u-1-t)%10:=by
  rw [decDigits_eq,List.getD_eq_getElem?_getD,List.getElem?_map,List.getElem?_range ht];simp only [Option.map_some,Option.getD_some,dg];have :u/10^(nDigits u-1-t)%10<10:=Nat.mod_lt _ (by decide);simp [UInt8.toNat_ofNat'];omega
def preV (u k:Nat):Nat:=u/10^(nDigits u-k)
theorem qhj (u:Nat):preV u 0=0:=by
  unfold preV;rw [Nat.sub_zero];exact Nat.div_eq_of_lt (lt_pow_nDigits u)
theorem qby (u:Nat):preV u (nDigits u)=u:=by
  unfold preV;rw [Nat.sub_self];simp
theorem qg1 (u k:Nat) (h:k<nDigits u):preV u (k+1)=preV u k*10+u/10^(nDigits u-1-k)%10:=by
  unfold preV;obtain ⟨t,ht⟩:∃t,nDigits u-1-k=t:=⟨_,rfl⟩;rw [show nDigits u-(k+1)=t by omega,show nDigits u-k=t+1 by omega,ht,Nat.pow_succ,<-Nat.div_div_eq_div_mul];omega
theorem qlS (u k:Nat):preV u k<=u:=Nat.div_le_self _ _
theorem qfD {a b:List UInt8} {i:Nat} (h:i<a.length):(a++b).getD i 0=a.getD i 0:=by
  simp [List.getD_eq_getElem?_getD,List.getElem?_append,h]
theorem qav {a b:List UInt8} {n i:Nat} (h:a.length=n):(a++b).getD (n+i) 0=b.getD i 0:=by
  subst h;rw [List.getD_eq_getElem?_getD,List.getD_eq_getElem?_getD,List.getElem?_append_right (by omega),Nat.add_sub_cancel_left]
theorem qcE (s : ByteArray) (sg eg : List UInt8) (u v : Nat) (hs : s.data.toList = sg ++ (decDigits u ++ (101 :: (eg ++ decDigits v)))) (hu : 1 <= u) (hu' : u <= 999999999999999) (hv : v <= 9999) :
    Numeral s sg.length (nDigits u) eg.length (nDigits v) (fun i=>(s.data.toList.getD i 0).toNat) (preV u) (preV v):=by
  have ab:nDigits u<=15:=qdi u 15 (by omega) (by decide);have ae:nDigits v<=4:=qdi v 4 (by omega) (by decide);have ad:=decDigits_length u;have af:=decDigits_length v;have ac:∀k,k<nDigits u->(s.data.toList.getD (sg.length+k) 0).toNat=48+u/10^(nDigits u-1-k)%10:=fun k hk=>by
    rw [hs,qav rfl,qfD (by omega)];exact qdD u k hk
  have aa:∀k,k<nDigits v->(s.data.toList.getD (sg.length+nDigits u+1+eg.length+k) 0).toNat=48+v/10^(nDigits v-1-k)%10:=fun k hk=>by
    rw [hs,show sg.length+nDigits u+1+eg.length+k=sg.length+(nDigits u+(eg.length+k+1)) by omega,qav rfl,qav ad,List.getD_cons_succ,qav rfl];exact qdD v k hk
  refine { byte:= ?_,size:= ?_,n1:=nDigits_pos u,n2:=ab,m1:=nDigits_pos v,m2:=ae,dig:= ?_,fst:= ?_,e:= ?_,v0:=qhj u,v1:= ?_,v2:=fun k _=>Nat.le_trans (qlS u k) hu',edig:= ?_,w0:=qhj v,w1:= ?_,w2:=fun k _=>Nat.le_trans (qlS v k) hv }
  · intro i h
    have h':i<s.data.toList.length:=h;show (s[i]'h).toNat=(s.data.toList.getD i 0).toNat;rw [List.getD_eq_getElem?_getD,List.getElem?_eq_getElem h'];rfl
  · have : s.size = s.data.toList.length := rfl
    rw [this,hs];simp only [List.length_append,List.length_cons];omega
  · intro k hk
    show 48<=(s.data.toList.getD (sg.length+k) 0).toNat∧(s.data.toList.getD (sg.length+k) 0).toNat<=57;rw [ac k hk];omega
  · show (s.data.toList.getD sg.length 0).toNat ≠ 48
    have h0:=ac 0 (nDigits_pos u);rw [Nat.add_zero] at h0;rw [h0,Nat.sub_zero];have a:=qd9 u hu;have b:=lt_pow_nDigits u;have hp:=nDigits_pos u;have c:u/10^(nDigits u-1)<10:=by
      rw [Nat.div_lt_iff_lt_mul (Nat.pow_pos (by decide))]
      calc u<10^nDigits u:=b
        _=10*10^(nDigits u-1):=by rw [<-Nat.pow_succ',show (nDigits u-1).succ=nDigits u by omega]
    have d:1<=u/10^(nDigits u-1):=(Nat.le_div_iff_mul_le (Nat.pow_pos (by decide))).2 (by omega);omega
  · show (s.data.toList.getD (sg.length + nDigits u) 0).toNat = 101
    rw [hs,qav rfl,show nDigits u=nDigits u+0 from rfl,qav ad];rfl
  · intro k hk
    show preV u (k+1)=preV u k*10+((s.data.toList.getD (sg.length+k) 0).toNat-48);rw [ac k hk,qg1 u k hk];omega
  · intro k hk
    show 48<=(s.data.toList.getD (sg.length+nDigits u+1+eg.length+k) 0).toNat∧(s.data.toList.getD (sg.length+nDigits u+1+eg.length+k) 0).toNat<=57;rw [aa k hk];omega
  · intro k hk
    show preV v (k+1)=preV v k*10+((s.data.toList.getD (sg.length+nDigits u+1+eg.length+k) 0).toNat-48);rw [aa k hk,qg1 v k hk];omega
end Go.Proofs.YtnkelahimiipjaaGreatDoor
namespace Go.Proofs.YtnkelahimiipjaaGreatDoor
open Go.RowKit Go.Sort Go.Lib Ieee
def qaB (m x:Int):ByteArray:=⟨(itoa m++(101::itoa x)).toArray⟩
theorem qi1 (s:ByteArray) (d:Nat) (x:Int) (g:Bool) (w:World) (hd:1<=d) (hd':d<=999999999999999) (hx: -300<=x) (hx':x<=290) (T:Tabs w)
    (hsp:∀w,Calls Tryz.prog 217 #[.string s] w fun e w'=>e=.returned (.tuple #[.float .f64 0,.int .i64 0,.bool false])∧w=w')
    (hrf:∀w,Calls Tryz.prog 218 #[.string s] w fun e w'=>e=.returned (.tuple #[.int .u64 d,.int .i64 x,.bool g,.bool false,.bool false,.int .i64 s.size,.bool true])∧w=w'):
    Calls Tryz.prog 210 #[.string s] w fun e w'=>e=.returned (.tuple #[.float .f64 (double.word g (qj9 d x)),.int .i64 s.size,.nilIface])∧Ext w w':=by
  unfold qj9;cases hok:exOK d x
  · obtain ⟨P, hP⟩ : ∃ P : Nat, x = (P : Int) - 348 := ⟨(x + 348).toNat, by omega⟩
    have ab:(x+348).toNat=P:=(by omega);simp only [Bool.false_eq_true,if_false,ab];have aa:=fun sg hs=>qkx d P sg w hd hd' (by omega) (by omega) hs T.size (T.hi P (by omega)) (T.lo P (by omega));rw [<-hP] at aa;cases g
    · have := qpS s d x false w (0 + qdw d P) 0 hd hx hx' T.opt (by decide) hsp hrf (qpx d x false w hd hd' T hok) (aa 0 (.inl rfl))
      rw [Nat.zero_add] at this;exact this
    · exact qpS s d x true w (9223372036854775808+qdw d P) 9223372036854775808 hd hx hx' T.opt (by decide) hsp hrf (qpx d x true w hd hd' T hok) (aa 9223372036854775808 (.inr rfl))
  · simp only [if_true]
    exact qpp s d x g w _ hd hx hx' T.opt hsp hrf (qpP d x g w hd hd' T hok)
theorem qb8 (s:ByteArray) {a n z m:Nat} {B V W:Nat->Nat} (N:Numeral s a n z m B V W) (hz:z<=1) (ha:a=0∨(a=1∧B 0=45)) (w:World):
    Calls Tryz.prog 217 #[.string s] w fun e w'=>e=.returned (.tuple #[.float .f64 0,.int .i64 0,.bool false])∧w=w':=by
  have aa:=N.size;have h1:=N.n1;have h2:=N.n2;have h3:=N.m2;have h4:=N.m1;have d0:=N.dig 0 (by omega);rcases ha with rfl|⟨rfl,hB⟩
  · exact qde s w (B 0) (by omega) (by omega) (N.byte 0 (by omega)) (by simpa using d0.1) (by simpa using d0.2)
  · exact qga s w (B 1) (by omega) (by omega) ((N.byte 0 (by omega)).trans hB) (N.byte 1 (by omega)) (by simpa using d0.1) (by simpa using d0.2)
theorem qoN (m x:Int) (w:World) (hm:m≠0) (h1: -1000000000000000<m) (h2:m<1000000000000000) (hx: -300<=x) (hx':x<=290) (T:Tabs w):
    Calls Tryz.prog 210 #[.string (qaB m x)] w fun e w'=>e=.returned (.tuple #[.float .f64 (double.word (decide (m<0)) (qj9 m.natAbs x)),.int .i64 (qaB m x).size,.nilIface])∧Ext w w':=by
  have hu:1<=m.natAbs:=by omega
  have aa:m.natAbs<=999999999999999:=by omega
  have hv:x.natAbs<=9999:=by omega
  have hW:preV m.natAbs (nDigits m.natAbs)≠0:=by rw [qby];omega
  by_cases hm0:m<0<;>by_cases hx0:x<0
  · have hs : (qaB m x).data.toList = [45] ++ (decDigits m.natAbs ++ (101 :: ([45] ++ decDigits x.natAbs))) := by
      unfold qaB itoa;rw [if_pos hm0,if_pos hx0];simp
    have N:=qcE _ [45] [45] m.natAbs x.natAbs hs hu aa hv;have hB:(fun i=>((qaB m x).data.toList.getD i 0).toNat) 0=45:=(by simp only [hs];rfl);have hE:(fun i=>((qaB m x).data.toList.getD i 0).toNat) (1+nDigits m.natAbs+1)=45:=by
      simp only [hs];rw [show 1+nDigits m.natAbs+1=[(45:UInt8)].length+(nDigits m.natAbs+1) by simp;omega,qav rfl,qav (decDigits_length _)];rfl
    rw [decide_eq_true hm0];refine qi1 _ m.natAbs x true w hu aa hx hx' T (fun w=>qb8 _ N (by decide) (.inr ⟨rfl,hB⟩) w) (fun w=> ?_);have :=qk7 _ _ _ _ _ _ w N hW hB hE;rw [qby,qby,show -((x.natAbs:Nat):Int)=x by omega] at this;exact this
  · have hs : (qaB m x).data.toList = [45] ++ (decDigits m.natAbs ++ (101 :: ([] ++ decDigits x.natAbs))) := by
      unfold qaB itoa;rw [if_pos hm0,if_neg hx0,show x.toNat=x.natAbs by omega];simp
    have N:=qcE _ [45] [] m.natAbs x.natAbs hs hu aa hv;have hB:(fun i=>((qaB m x).data.toList.getD i 0).toNat) 0=45:=(by simp only [hs];rfl);rw [decide_eq_true hm0];refine qi1 _ m.natAbs x true w hu aa hx hx' T (fun w=>qb8 _ N (by decide) (.inr ⟨rfl,hB⟩) w) (fun w=> ?_);have :=qlo _ _ _ _ _ _ w N hW hB;rw [qby,qby,show ((x.natAbs:Nat):Int)=x by omega] at this;exact this
  · have hs : (qaB m x).data.toList = [] ++ (decDigits m.natAbs ++ (101 :: ([45] ++ decDigits x.natAbs))) := by
      unfold qaB itoa;rw [if_neg hm0,if_pos hx0,show m.toNat=m.natAbs by omega];simp
    have N:=qcE _ [] [45] m.natAbs x.natAbs hs hu aa hv;have hE:(fun i=>((qaB m x).data.toList.getD i 0).toNat) (0+nDigits m.natAbs+1)=45:=by
      simp only [hs];rw [List.nil_append,Nat.zero_add,qav (decDigits_length _)];rfl
    rw [decide_eq_false hm0];refine qi1 _ m.natAbs x false w hu aa hx hx' T (fun w=>qb8 _ N (by decide) (.inl rfl) w) (fun w=> ?_);have :=qlz _ _ _ _ _ _ w N hW hE;rw [qby,qby,show -((x.natAbs:Nat):Int)=x by omega] at this;exact this
  · have hs : (qaB m x).data.toList = [] ++ (decDigits m.natAbs ++ (101 :: ([] ++ decDigits x.natAbs))) := by
      unfold qaB itoa;rw [if_neg hm0,if_neg hx0,show m.toNat=m.natAbs by omega,show x.toNat=x.natAbs by omega];simp
    have N:=qcE _ [] [] m.natAbs x.natAbs hs hu aa hv;rw [decide_eq_false hm0];refine qi1 _ m.natAbs x false w hu aa hx hx' T (fun w=>qb8 _ N (by decide) (.inl rfl) w) (fun w=> ?_);have :=qlK _ _ _ _ _ _ w N hW;rw [qby,qby,show ((x.natAbs:Nat):Int)=x by omega] at this;exact this
end Go.Proofs.YtnkelahimiipjaaGreatDoor
