import Derived.Test.YtnkelahimiipjaaGreatDoorPst
import Derived.Test.YtnkelahimiipjaaGreatDoorRqt
import Derived.Deep.RegionHeld3
set_option maxRecDepth 100000
set_option maxHeartbeats 8000000
namespace Go.Proofs.YtnkelahimiipjaaGreatDoor
open Go.RowKit Go.Sort Go.Lib Ieee
attribute [local go_sem] qev qc4
theorem qpT (s:ByteArray) (w:World) (v:Value)
  (h:Calls Tryz.prog 210 #[.string s] w fun e w'=>e=.returned (.tuple #[v,.int .i64 s.size,.nilIface])∧Ext w w'):
  Calls Tryz.prog 200 #[.string s,.int .i64 64] w fun e w'=>e=.returned (.tuple #[v,.int .i64 s.size,.nilIface])∧Ext w w':=by
 have K:=Lib.hid h;clear h;go_enter Tryz.func200,Tryz.ntmps200;go_wp2_with fail;refine K.out.mono ?_;rintro e w1 ⟨rfl,hE⟩;go_wp2_with fail
 go_ret3
 exact ⟨rfl,hE⟩
theorem qpR (s:ByteArray) (w:World) (v:Value)
  (h:Calls Tryz.prog 210 #[.string s] w fun e w'=>e=.returned (.tuple #[v,.int .i64 s.size,.nilIface])∧Ext w w'):
  Calls Tryz.prog 195 #[.string s,.int .i64 64] w fun e w'=>e=.returned (.tuple #[v,.nilIface])∧Ext w w':=by
 have K:=Lib.hid (qpT s w v h);clear h;go_enter Tryz.func195,Tryz.ntmps195;go_wp2_with fail;refine K.out.mono ?_;rintro e w1 ⟨rfl,hE⟩;go_wp2_with fail
 go_ret2
 exact ⟨rfl,hE⟩
theorem qoc (s:ByteArray) (w:World) (v:Value)
  (h:Calls Tryz.prog 210 #[.string s] w fun e w'=>e=.returned (.tuple #[v,.int .i64 s.size,.nilIface])∧Ext w w'):
  Calls Tryz.prog 184 #[.string s,.int .i64 64] w fun e w'=>e=.returned (.tuple #[v,.nilIface])∧Ext w w':=by
 have K:=Lib.hid (qpR s w v h);clear h;go_enter Tryz.func184,Tryz.ntmps184;go_wp2_with fail;refine K.out.mono ?_;rintro e w1 ⟨rfl,hE⟩;go_wp2_with fail
 go_ret2
 exact ⟨rfl,hE⟩
theorem Tabs.drew {w:World} (h:Tabs w):Tabs w.drew:=h.ext (Ext.refl w).drew
theorem qi4 (m:Int) (w:World) (h1: -1000000000000000<m) (h2:m<1000000000000000) (T:Tabs w):
  Calls Tryz.prog 185 #[.int .i64 m,.int .i64 10] w fun e w'=>e=.returned (.string ⟨(itoa m).toArray⟩)∧Ext w w':=
 (Tryz.strconv_FormatInt_10 m (by omega) (by omega) w T.u64).mono fun _ _ ⟨he,_,_,hw⟩=>⟨he,qn0 hw⟩
theorem qge (x:Int) (w:World) (h1: -1000<=x) (h2:x<=1000) (T:Tabs w):
  Calls Tryz.prog 186 #[.int .i64 x] w fun e w'=>e=.returned (.string ⟨(itoa x).toArray⟩)∧Ext w w':=
 (Tryz.strconv_Itoa x (by omega) (by omega) w T.u64).mono fun _ _ ⟨he,_,_,hw⟩=>⟨he,qn0 hw⟩
theorem qfF (n:Int) (h1: -1000000000000000<n) (h2:n<1000000000000000):(itoa n).length<=16:=by
 have :=qdi n.natAbs 15 (by omega) (by decide);have e:=decDigits_length n.natAbs;unfold itoa;split
 ·simp;omega
 ·rw [show n.toNat=n.natAbs by omega];omega
theorem qfC (b a:List UInt8) (W:World) (ha:a.length<=100) (hb:b.length<=100):
  (Op.stringOp .add ⟨a.toArray⟩ ⟨b.toArray⟩).run Tryz.prog W=.ok (.string ⟨(a++b).toArray⟩) W:=
 run_string_add_lists W a b (by omega) (by omega)
def qfA (m x:Int):Nat:=if m=0 then 0 else double.word (decide (m<0)) (qj9 m.natAbs x)
theorem qpv (m x:Int) (w:World) (hm:m≠0) (h1: -1000000000000000<m) (h2:m<1000000000000000) (hx: -300<=x) (hx':x<=290) (T:Tabs w):
  Calls Tryz.prog 184 #[.string (qaB m x),.int .i64 64] w fun e w'=>e=.returned (.tuple #[.float .f64 (qfA m x),.nilIface])∧Ext w w':=by
 unfold qfA;rw [if_neg hm];exact qoc _ w _ (qoN m x w hm h1 h2 hx hx' T)
theorem qmR (m x:Int) (w:World) (hm:m≠0) (h1: -1000000000000000<m) (h2:m<1000000000000000) (hx: -300<=x) (hx':x<=290) (hr:qau m x 0=true) (T:Tabs w):
  Calls Tryz.prog 172 #[.agg #[.int .i64 m,.int .i64 x,.int .i64 0]] w fun e w'=>e=.returned (.tuple #[.int .u64 (qfA m x),.int .i64 0])∧Ext w w':=by
 have HR:=Lib.hid hr;clear hr;go_enter Tryz.func172,Tryz.ntmps172;go_wp2_with fail;refine (qbe m x 0 _).mono ?_;rintro e w1 ⟨rfl,ac⟩;rw [HR.out];have ag:w1.cell? ⟨w.heap.size,0,none⟩=some (.int .i64 m):=ac.cell_some (by simp);have ao:w1.cell? ⟨w.heap.size,1,none⟩=some (.int .i64 x):=ac.cell_some (by simp);have aq:w1.cell? ⟨w.heap.size,2,none⟩=some (.int .i64 0):=ac.cell_some (by simp);have hE:Ext w w1:=((Ext.refl w).alloc _).trans ac;have hT:Tabs w1:=T.ext hE;have r1:∀W:World,(Op.stringOp .add ⟨(itoa m).toArray⟩ ⟨#[101]⟩).run Tryz.prog W=.ok (.string ⟨(itoa m++[101]).toArray⟩) W:=fun W=>qfC [101] (itoa m) W (by have :=qfF m h1 h2;omega) (by simp);have r2:∀W:World,(Op.stringOp .add ⟨(itoa m++[101]).toArray⟩ ⟨(itoa x).toArray⟩).run Tryz.prog W=.ok (.string (qaB m x)) W:=fun W=>by
  have :=qfC (itoa x) (itoa m++[101]) W (by have :=qfF m h1 h2;simp;omega) (by have :=qfF x (by omega) (by omega);omega);rw [this];unfold qaB;simp
 go_wp2_with fail
 go_region_held3 (fun w'=>w'.cell? ⟨w.heap.size,0,none⟩=some (.int .i64 m)∧w'.cell? ⟨w.heap.size,1,none⟩=some (.int .i64 x)∧Ext w w'∧Tabs w')
  (refine ⟨?_, ?_, ?_, ?_⟩<;>first|assumption|exact Ext.drew (by assumption)|exact Tabs.drew (by assumption)|exact Ext.cell_some (by assumption) (by assumption)|exact Ext.trans (by assumption) (by assumption)|exact Tabs.ext (by assumption) (by assumption))
  (first|(go_at_call 185;refine (qi4 m _ h1 h2 ?_).mono ?_;(first|assumption|exact Tabs.drew (by assumption));rintro e w' ⟨rfl,ab⟩;have ak:=Tabs.ext (Tabs.drew hT) ab;have ah:=Ext.trans (Ext.drew hE) ab;have an:=Ext.cell_some ab ag;have aj:=Ext.cell_some ab ao)|(go_at_call 186;refine (qge x _ (by omega) (by omega) ?_).mono ?_;(first|assumption|exact Tabs.drew (by assumption));rintro e w'' ⟨rfl,aa⟩;have ae:=Tabs.ext ak aa;have af:=Ext.trans ah aa;have ai:=Ext.cell_some aa an;have am:=Ext.cell_some aa aj)|(go_at_call 184;refine (qpv m x _ hm h1 h2 hx hx' ?_).mono ?_;assumption;rintro e w3 ⟨rfl,ad⟩;have ar:=Tabs.ext ae ad;have al:=Ext.trans af ad;have au:=Ext.cell_some ad ai;have ap:=Ext.cell_some ad am))
 go_wp2_with fail
 go_ret2
 exact ⟨rfl,al⟩
end Go.Proofs.YtnkelahimiipjaaGreatDoor
namespace Go.Proofs.YtnkelahimiipjaaGreatDoor
open Go.RowKit Go.Sort Go.Lib Ieee
attribute [local go_sem] qev qc4
theorem qo7 (w:World):Calls Tryz.prog 218 #[.string { data:= #[48,101,48] }] w fun e w'=>e=.returned (.tuple #[.int .u64 0,.int .i64 0,.bool false,.bool false,.bool false,.int .i64 3,.bool true])∧w=w':=by
 have b0:(({ data:= #[48,101,48] }:ByteArray)[0]'(by decide)).toNat=48:=rfl;have b1:(({ data:= #[48,101,48] }:ByteArray)[1]'(by decide)).toNat=101:=rfl;have b2:(({ data:= #[48,101,48] }:ByteArray)[2]'(by decide)).toNat=48:=rfl;go_enter Tryz.func218,Tryz.ntmps218;go_wp2_with fail
 go_step3
 go_wp2_with (go_at_call 235;refine (qbf _).mono ?_;rintro e w' ⟨rfl,rfl⟩)
 go_step3
 go_wp2_with (go_at_call 235;refine (qbf _).mono ?_;rintro e w' ⟨rfl,rfl⟩);refine wp_loop_rounds 2 ?_;rw [rounds_succ];go_wp2_with (go_at_call 235;refine (qbf _).mono ?_;rintro e w' ⟨rfl,rfl⟩)
 all_goals rw [rounds_succ]
 all_goals go_wp2_with (go_at_call 235;refine (qbf _).mono ?_;rintro e w' ⟨rfl,rfl⟩)
 refine wp_loop_rounds 2 ?_;rw [rounds_succ];go_wp2_with fail;rw [rounds_succ];go_wp2_with fail;rw [Exit.noGoto_ret];refine bodyPost_ret (v:=.tuple #[.int .u64 0,.int .i64 0,.bool false,.bool false,.bool false,.int .i64 3,.bool true]) ?_ rfl ⟨rfl,rfl⟩;simp [results,Tryz.results218,go_sem]
theorem qop (w:World) (hopt:w.cell? ⟨7,0,none⟩=some (.bool true)):
  Calls Tryz.prog 210 #[.string { data:= #[48,101,48] }] w fun e w'=>e=.returned (.tuple #[.float .f64 0,.int .i64 3,.nilIface])∧Ext w w':=by
 have K1:=fun w=>qde { data:= #[48,101,48] } w 48 (by decide) (by decide) rfl (by decide) (by decide);have K2:=Lib.hid K1;clear K1;go_enter Tryz.func210,Tryz.ntmps210;go_wp2_with fail;refine (K2.out _).mono ?_;rintro e w1 ⟨rfl,rfl⟩;go_wp2_with fail;refine (qo7 _).mono ?_;rintro e w2 ⟨rfl,rfl⟩;go_wp2_with fail;refine (qbG _ _).mono ?_;rintro e w3 ⟨rfl,rfl⟩;go_wp2_with fail
 go_ret3
 exact ⟨rfl,Ext.refl _⟩
theorem qmW:itoa 0=[48]:=by
 unfold itoa;rw [if_neg (by decide),show (0:Int).toNat=0 from rfl,decDigits_one (by decide)];rfl
theorem qg2:qaB 0 0= { data:= #[48,101,48] }:=by unfold qaB;rw [qmW];rfl
theorem qor (w:World) (T:Tabs w):
  Calls Tryz.prog 184 #[.string (qaB 0 0),.int .i64 64] w fun e w'=>e=.returned (.tuple #[.float .f64 0,.nilIface])∧Ext w w':=by
 rw [qg2];exact qoc _ w _ (qop w T.opt)
theorem qkP (w:World) (T:Tabs w):
  Calls Tryz.prog 172 #[.agg #[.int .i64 0,.int .i64 0,.int .i64 0]] w fun e w'=>e=.returned (.tuple #[.int .u64 0,.int .i64 0])∧Ext w w':=by
 go_enter Tryz.func172,Tryz.ntmps172;go_wp2_with fail;refine (qbe 0 0 0 _).mono ?_;rintro e w1 ⟨rfl,ac⟩;rw [show qau 0 0 0=true from rfl];have ag:w1.cell? ⟨w.heap.size,0,none⟩=some (.int .i64 0):=ac.cell_some (by simp);have ao:w1.cell? ⟨w.heap.size,1,none⟩=some (.int .i64 0):=ac.cell_some (by simp);have aq:w1.cell? ⟨w.heap.size,2,none⟩=some (.int .i64 0):=ac.cell_some (by simp);have hE:Ext w w1:=((Ext.refl w).alloc _).trans ac;have hT:Tabs w1:=T.ext hE;have r1:∀W:World,(Op.stringOp .add ⟨(itoa 0).toArray⟩ ⟨#[101]⟩).run Tryz.prog W=.ok (.string ⟨(itoa 0++[101]).toArray⟩) W:=fun W=>qfC [101] (itoa 0) W (by rw [qmW];decide) (by decide);have r2:∀W:World,(Op.stringOp .add ⟨(itoa 0++[101]).toArray⟩ ⟨(itoa 0).toArray⟩).run Tryz.prog W=.ok (.string (qaB 0 0)) W:=fun W=>by
  have :=qfC (itoa 0) (itoa 0++[101]) W (by rw [qmW];decide) (by rw [qmW];decide);rw [this];unfold qaB;simp
 go_wp2_with fail
 go_region_held3 (fun w'=>w'.cell? ⟨w.heap.size,0,none⟩=some (.int .i64 0)∧w'.cell? ⟨w.heap.size,1,none⟩=some (.int .i64 0)∧Ext w w'∧Tabs w')
  (refine ⟨?_, ?_, ?_, ?_⟩<;>first|assumption|exact Ext.drew (by assumption)|exact Tabs.drew (by assumption)|exact Ext.cell_some (by assumption) (by assumption)|exact Ext.trans (by assumption) (by assumption)|exact Tabs.ext (by assumption) (by assumption))
  (first|(go_at_call 185;refine (qi4 0 _ (by decide) (by decide) ?_).mono ?_;(first|assumption|exact Tabs.drew (by assumption));rintro e w' ⟨rfl,ab⟩;have ak:=Tabs.ext (Tabs.drew hT) ab;have ah:=Ext.trans (Ext.drew hE) ab;have an:=Ext.cell_some ab ag;have aj:=Ext.cell_some ab ao)|(go_at_call 186;refine (qge 0 _ (by decide) (by decide) ?_).mono ?_;(first|assumption|exact Tabs.drew (by assumption));rintro e w'' ⟨rfl,aa⟩;have ae:=Tabs.ext ak aa;have af:=Ext.trans ah aa;have ai:=Ext.cell_some aa an;have am:=Ext.cell_some aa aj)|(go_at_call 184;refine (qor _ ?_).mono ?_;assumption;rintro e w3 ⟨rfl,ad⟩;have ar:=Tabs.ext ae ad;have al:=Ext.trans af ad;have au:=Ext.cell_some ad ai;have ap:=Ext.cell_some ad am))
 go_wp2_with fail
 go_ret2
 exact ⟨rfl,al⟩
def qbR (m x s:Int):Nat:=
 if qau m x s=false then 0 else if s=1 then 9218868437227405314 else if s=2 then 9218868437227405312 else if s=3 then 18442240474082181120 else if s=4 then 9223372036854775808 else qfA m x
def errV (m x s:Int):Int:=if qau m x s then 0 else 20
theorem qmP (m x s:Int) (w:World) (hr:qau m x s=false):
  Calls Tryz.prog 172 #[.agg #[.int .i64 m,.int .i64 x,.int .i64 s]] w fun e w'=>e=.returned (.tuple #[.int .u64 0,.int .i64 20])∧Ext w w':=by
 have HR:=Lib.hid hr;clear hr;go_enter Tryz.func172,Tryz.ntmps172;go_wp2_with fail;refine (qbe m x s _).mono ?_;rintro e w1 ⟨rfl,aa⟩;rw [HR.out];have hE:Ext w w1:=((Ext.refl w).alloc _).trans aa;go_wp2_with fail
 go_ret2
 exact ⟨rfl,hE⟩
theorem qdb (s:Int) (b:Nat) (w:World) (hs:(s=1∧b=9218868437227405314)∨(s=2∧b=9218868437227405312)∨(s=3∧b=18442240474082181120)∨(s=4∧b=9223372036854775808)):
  Calls Tryz.prog 172 #[.agg #[.int .i64 0,.int .i64 0,.int .i64 s]] w fun e w'=>e=.returned (.tuple #[.int .u64 b,.int .i64 0])∧Ext w w':=by
 rcases hs with ⟨rfl,rfl⟩|⟨rfl,rfl⟩|⟨rfl,rfl⟩|⟨rfl,rfl⟩
 all_goals
  go_enter Tryz.func172,Tryz.ntmps172;go_wp2_with fail;refine (qbe 0 0 _ _).mono ?_;rintro e w1 ⟨rfl,aa⟩;rw [show qau 0 0 _=true from rfl];have ab:w1.cell? ⟨w.heap.size,2,none⟩=some (.int .i64 _):=aa.cell_some (by simp;rfl);have hE:Ext w w1:=((Ext.refl w).alloc _).trans aa;go_wp2_with fail
  go_ret2
  exact ⟨rfl,hE⟩
theorem qgx (m x s:Int) (w:World) (T:Tabs w):
  Calls Tryz.prog 172 #[.agg #[.int .i64 m,.int .i64 x,.int .i64 s]] w fun e w'=>e=.returned (.tuple #[.int .u64 (qbR m x s),.int .i64 (errV m x s)])∧Ext w w':=by
 unfold qbR errV;cases hr:qau m x s
 ·exact qmP m x s w hr
 ·simp only [Bool.true_eq_false,if_false,if_true];have h:=hr;unfold qau at h;by_cases hs:s=0
  ·subst hs;simp only [show (0:Int)≠1 from by decide,show (0:Int)≠2 from by decide,show (0:Int)≠3 from by decide,show (0:Int)≠4 from by decide,if_false];rw [if_neg (by decide)] at h
   split at h
   ·cases h
   ·split at h
    ·rename_i hm;simp only [decide_eq_true_eq] at h;subst hm;subst h;exact qkP w T
    ·simp only [decide_eq_true_eq] at h;exact qmR m x w (by assumption) (by omega) (by omega) h.2.1 h.2.2 hr T
  ·rw [if_pos hs] at h;simp only [decide_eq_true_eq] at h;obtain ⟨h1,h2,rfl,rfl⟩:=h;have :s=1∨s=2∨s=3∨s=4:=(by omega);rcases this with rfl|rfl|rfl|rfl
   ·exact qdb 1 _ w (.inl ⟨rfl,rfl⟩)
   ·exact qdb 2 _ w (.inr (.inl ⟨rfl,rfl⟩))
   ·exact qdb 3 _ w (.inr (.inr (.inl ⟨rfl,rfl⟩)))
   ·exact qdb 4 _ w (.inr (.inr (.inr ⟨rfl,rfl⟩)))
end Go.Proofs.YtnkelahimiipjaaGreatDoor
namespace Go.Proofs.YtnkelahimiipjaaGreatDoor
open Go.RowKit Go.Sort
def cmpI (a b:Int):Int:=if a<b then -1 else if b<a then 1 else 0
abbrev Smp:=Int×Int×Int×Int
def Smp.bits (a:Smp):Nat:=qbR a.2.1 a.2.2.1 a.2.2.2
def cmpV (a b:Smp):Int:=cmpI (Smp.bits a) (Smp.bits b)
def orI (a b:Int):Int:=if a≠0 then a else b
def cmpS (a b:Smp):Int:=orI (cmpI a.1 b.1) (cmpV a b)
def encS (a:Smp):List Value:=[.int .i64 a.1,.int .i64 a.2.1,.int .i64 a.2.2.1,.int .i64 a.2.2.2]
theorem qj1 (a b:Int) (w:World):Calls Tryz.prog 148 #[.int .i64 a,.int .i64 b] w fun e w'=>e=.returned (.int .i64 (cmpI a b))∧w=w':=by
 rcases Int.lt_trichotomy a b with h|rfl|h
 ·have h1:decide (a<b)=true:=by simp [h]
  have hv:Hid (cmpI a b= -1):=by show cmpI a b= -1;unfold cmpI;rw [if_pos h]
  go_enter Tryz.func148,Tryz.ntmps148
  go_wp2
  go_ret;exact ⟨qbd hv.out.symm,rfl⟩
 ·have hv:Hid (cmpI a a=0):=by show cmpI a a=0;unfold cmpI;simp
  go_enter Tryz.func148,Tryz.ntmps148
  go_wp2
  go_ret;exact ⟨qbd hv.out.symm,rfl⟩
 ·have h1:¬a<b:=by omega
  have hv:Hid (cmpI a b=1):=by show cmpI a b=1;unfold cmpI;rw [if_neg h1,if_pos h]
  go_enter Tryz.func148,Tryz.ntmps148
  go_wp2
  go_ret;exact ⟨qbd hv.out.symm,rfl⟩
theorem qh3 (a b:Int) (w:World):Calls Tryz.prog 173 #[.int .u64 a,.int .u64 b] w fun e w'=>e=.returned (.int .i64 (cmpI a b))∧w=w':=by
 rcases Int.lt_trichotomy a b with h|rfl|h
 ·have h1:decide (a<b)=true:=by simp [h]
  have hv:Hid (cmpI a b= -1):=by show cmpI a b= -1;unfold cmpI;rw [if_pos h]
  go_enter Tryz.func173,Tryz.ntmps173
  go_wp2
  go_ret;exact ⟨qbd hv.out.symm,rfl⟩
 ·have hv:Hid (cmpI a a=0):=by show cmpI a a=0;unfold cmpI;simp
  go_enter Tryz.func173,Tryz.ntmps173
  go_wp2
  go_ret;exact ⟨qbd hv.out.symm,rfl⟩
 ·have h1:¬a<b:=by omega
  have hv:Hid (cmpI a b=1):=by show cmpI a b=1;unfold cmpI;rw [if_neg h1,if_pos h]
  go_enter Tryz.func173,Tryz.ntmps173
  go_wp2
  go_ret;exact ⟨qbd hv.out.symm,rfl⟩
theorem qo4 (a b:Int) (k c:Nat) (w:World) (h0:w.cell? ⟨k,0,none⟩=some (.int .i64 a)) (h1:w.cell? ⟨k,1,none⟩=some (.int .i64 b)):
  Calls Tryz.prog 147 #[.slice (some ⟨k,0,none⟩) 2 c] w fun e w'=>e=.returned (.int .i64 (orI a b))∧w=w':=by
 unfold orI;by_cases ha:a=0
 ·subst ha;by_cases hb:b=0
  ·subst hb;go_enter Tryz.func147,Tryz.ntmps147
   go_wp2
   refine wp_loop_rounds 3 ?_;rw [rounds_succ]
   go_wp2
   rw [rounds_succ]
   go_wp2
   rw [rounds_succ]
   go_wp2
   go_ret;exact ⟨rfl,rfl⟩
  ·have aa:(b != 0)=true:=(by simp [hb]);go_enter Tryz.func147,Tryz.ntmps147
   go_wp2
   refine wp_loop_rounds 3 ?_;rw [rounds_succ]
   go_wp2
   rw [rounds_succ]
   go_wp2
   go_ret;exact ⟨rfl,rfl⟩
 ·have ab:(a != 0)=true:=by simp [ha]
  rw [if_pos ha];go_enter Tryz.func147,Tryz.ntmps147
  go_wp2
  refine wp_loop_rounds 3 ?_;rw [rounds_succ]
  go_wp2
  go_ret;exact ⟨rfl,rfl⟩
theorem qmk (a b:Smp) (w:World) (T:Tabs w):
  Calls Tryz.prog 149 #[.agg #[.int .i64 a.2.1,.int .i64 a.2.2.1,.int .i64 a.2.2.2],.agg #[.int .i64 b.2.1,.int .i64 b.2.2.1,.int .i64 b.2.2.2]] w fun e w'=>e=.returned (.int .i64 (cmpV a b))∧Ext w w':=by
 obtain ⟨at_,am,ax,as_⟩:=a;obtain ⟨bt,bm,bx,bs⟩:=b;unfold cmpV Smp.bits;obtain ⟨u,hu⟩:∃u,u=qbR am ax as_:=⟨_,rfl⟩;obtain ⟨v,hv⟩:∃v,v=qbR bm bx bs:=⟨_,rfl⟩;have B1:∀w,Tabs w->Calls Tryz.prog 172 #[.agg #[.int .i64 am,.int .i64 ax,.int .i64 as_]] w fun e w'=>e=.returned (.tuple #[.int .u64 u,.int .i64 (errV am ax as_)])∧Ext w w':=fun w T=>by rw [hu];exact qgx am ax as_ w T
 have B2:∀w,Tabs w->Calls Tryz.prog 172 #[.agg #[.int .i64 bm,.int .i64 bx,.int .i64 bs]] w fun e w'=>e=.returned (.tuple #[.int .u64 v,.int .i64 (errV bm bx bs)])∧Ext w w':=fun w T=>by rw [hv];exact qgx bm bx bs w T
 simp only;rw [<-hu,<-hv];have K1:=Lib.hid B1;have K2:=Lib.hid B2;clear hu hv B1 B2;have af:w.heap.size<w.heap.size+1+1:=by omega
 have ac:w.heap.size+1<w.heap.size+1+1:=by omega
 go_enter Tryz.func149,Tryz.ntmps149;go_wp2_with fail;refine (K1.out _ (T.ext (((Ext.refl w).alloc _).alloc _))).mono ?_;rintro e w1 ⟨rfl,aa⟩;have ad:w1.cell? ⟨w.heap.size+1,0,none⟩=some (.int .i64 bm):=aa.cell_some (by simp);have ag:w1.cell? ⟨w.heap.size+1,1,none⟩=some (.int .i64 bx):=aa.cell_some (by simp);have ae:w1.cell? ⟨w.heap.size+1,2,none⟩=some (.int .i64 bs):=aa.cell_some (by simp);have hE:Ext w w1:=(((Ext.refl w).alloc _).alloc _).trans aa;go_wp2_with fail;refine (K2.out _ (T.ext hE)).mono ?_;rintro e w2 ⟨rfl,ab⟩;go_wp2_with fail;refine (qh3 _ _ _).mono ?_;rintro e w3 ⟨rfl,rfl⟩;go_wp2_with fail;go_ret;exact ⟨rfl,hE.trans ab⟩
def vS (a:Smp):Value:=.agg #[.int .i64 a.1,.int .i64 a.2.1,.int .i64 a.2.2.1,.int .i64 a.2.2.2]
theorem qaT (w:World) (cs:Array Value) (t:TypeId) (i:Nat):(w.alloc (.cells cs t)).cell? ⟨w.heap.size,i,none⟩=cs[i]? :=by
 unfold World.cell?;rw [heap_alloc_new];rfl
theorem qkY (a b:Smp) (w:World) (T:Tabs w):
  Calls Tryz.prog 137 #[vS a,vS b] w fun e w'=>e=.returned (.int .i64 (cmpS a b))∧Ext w w':=by
 obtain ⟨at_,am,ax,as_⟩:=a;obtain ⟨bt,bm,bx,bs⟩:=b;have KF:∀W,Tabs W->Calls Tryz.prog 149 #[.agg #[.int .i64 am,.int .i64 ax,.int .i64 as_],.agg #[.int .i64 bm,.int .i64 bx,.int .i64 bs]] W fun e w'=>e=.returned (.int .i64 (cmpV (at_,am,ax,as_) (bt,bm,bx,bs)))∧Ext W w':=fun W T=>qmk (at_,am,ax,as_) (bt,bm,bx,bs) W T;obtain ⟨v,hv⟩:∃v,v=cmpV (at_,am,ax,as_) (bt,bm,bx,bs):=⟨_,rfl⟩;have ac:Hid (cmpS (at_,am,ax,as_) (bt,bm,bx,bs)=orI (cmpI at_ bt) v):=by rw [hv];rfl
 rw [ac.out];rw [<-hv] at KF;have K:=Lib.hid KF;clear KF hv ac;obtain ⟨u,hu⟩:∃u,u=cmpI at_ bt:=⟨_,rfl⟩;have K2:Hid (∀W,Calls Tryz.prog 148 #[.int .i64 at_,.int .i64 bt] W fun e w'=>e=.returned (.int .i64 u)∧W=w'):=fun W=>by rw [hu];exact qj1 at_ bt W
 rw [<-hu];clear hu;unfold vS;have ae:w.heap.size+1<w.heap.size+1+1:=by omega
 go_enter Tryz.func137,Tryz.ntmps137;go_wp2_with fail;obtain ⟨w1,aa⟩:∃w1,w1=(w.alloc (.cells #[.int .i64 at_,.int .i64 am,.int .i64 ax,.int .i64 as_] 180)).alloc (.cells #[.int .i64 bt,.int .i64 bm,.int .i64 bx,.int .i64 bs] 180):=⟨_,rfl⟩;rw [<-aa];have a0:w1.cell? ⟨w.heap.size,0,none⟩=some (.int .i64 at_):=by rw [aa];simp
 have a1:w1.cell? ⟨w.heap.size,1,none⟩=some (.int .i64 am):=by rw [aa];simp
 have a2:w1.cell? ⟨w.heap.size,2,none⟩=some (.int .i64 ax):=by rw [aa];simp
 have a3:w1.cell? ⟨w.heap.size,3,none⟩=some (.int .i64 as_):=by rw [aa];simp
 have b0:w1.cell? ⟨w.heap.size+1,0,none⟩=some (.int .i64 bt):=by rw [aa];simp
 have b1:w1.cell? ⟨w.heap.size+1,1,none⟩=some (.int .i64 bm):=by rw [aa];simp
 have b2:w1.cell? ⟨w.heap.size+1,2,none⟩=some (.int .i64 bx):=by rw [aa];simp
 have b3:w1.cell? ⟨w.heap.size+1,3,none⟩=some (.int .i64 bs):=by rw [aa];simp
 have hE:Ext w w1:=by rw [aa];exact ((Ext.refl w).alloc _).alloc _
 have hT:Tabs w1:=T.ext hE;clear aa
 go_region_held3 (fun w'=>w'.cell? ⟨w.heap.size,0,none⟩=some (.int .i64 at_)∧w'.cell? ⟨w.heap.size,1,none⟩=some (.int .i64 am)∧w'.cell? ⟨w.heap.size,2,none⟩=some (.int .i64 ax)∧w'.cell? ⟨w.heap.size,3,none⟩=some (.int .i64 as_)∧w'.cell? ⟨w.heap.size+1,0,none⟩=some (.int .i64 bt)∧w'.cell? ⟨w.heap.size+1,1,none⟩=some (.int .i64 bm)∧w'.cell? ⟨w.heap.size+1,2,none⟩=some (.int .i64 bx)∧w'.cell? ⟨w.heap.size+1,3,none⟩=some (.int .i64 bs)∧Ext w w'∧Tabs w')
  (refine ⟨?_, ?_, ?_, ?_, ?_, ?_, ?_, ?_, ?_, ?_⟩<;>first|assumption|exact Ext.drew (by assumption)|exact Tabs.drew (by assumption)|exact Ext.cell_some (by assumption) (by assumption)|exact Ext.trans (Ext.drew (by assumption)) (by assumption)|exact Ext.trans (by assumption) (by assumption)|exact Tabs.ext (Tabs.drew (by assumption)) (by assumption)|exact Tabs.ext (by assumption) (by assumption)|exact Ext.cell_some (Ext.alloc (Ext.refl _) _) (by assumption)|exact Ext.alloc (by assumption) _|exact Tabs.ext (by assumption) (Ext.alloc (Ext.refl _) _))
  (first|(go_at_call 148;refine (K2.out _).mono ?_;rintro e w' ⟨rfl,rfl⟩)|(go_at_call 149;refine (K.out _ ?_).mono ?_;(first|assumption|exact Tabs.drew (by assumption));rintro e w' ⟨rfl,ab⟩;have ad:=Ext.trans (Ext.drew hE) ab;have af:=Tabs.ext (Tabs.drew hT) ab;have a0':=Ext.cell_some ab a0;have a1':=Ext.cell_some ab a1;have a2':=Ext.cell_some ab a2;have a3':=Ext.cell_some ab a3;have b0':=Ext.cell_some ab b0;have b1':=Ext.cell_some ab b1;have b2':=Ext.cell_some ab b2;have b3':=Ext.cell_some ab b3)|(go_at_call 147;refine (qo4 u v w'.heap.size 2 _ (qaT _ _ _ 0) (qaT _ _ _ 1)).mono ?_;rintro e w3 ⟨rfl,rfl⟩))
 go_wp2_with fail;go_ret;exact ⟨rfl,ad.alloc _⟩
def qai (a:Smp):Bool:=decide (0<=a.1∧a.1<=1099511627776) && qau a.2.1 a.2.2.1 a.2.2.2
theorem Tabs.below {w w':World} (h:Tabs w) (k:Below w.heap.size w w'):Tabs w':=by
 obtain ⟨pb,po,pc,h1,h2⟩:=h.pow;have kc:∀{b o v},w.cell? ⟨b,o,none⟩=some v->w'.cell? ⟨b,o,none⟩=some v:=fun hc=>(k.cell (qaa hc)).trans hc;exact ⟨kc h.info,kc h.opt,⟨pb,po,pc,kc h1,fun i hi=>kc (h2 i hi)⟩,fun P hP=>kc (h.hi P hP),fun P hP=>kc (h.lo P hP),
  var?_below k gU64 (Nat.lt_of_lt_of_le (by decide) (Nat.le_of_lt h.size)) h.u64⟩
theorem qhq (a:Smp) (w:World):
  Calls Tryz.prog 135 #[vS a] w fun e w'=>e=.returned (.bool (qai a))∧Ext w w':=by
 obtain ⟨t,m,x,s⟩:=a;unfold vS qai;simp only;obtain ⟨v,hv⟩:∃v,v=qau m x s:=⟨_,rfl⟩;have KR:∀W,Calls Tryz.prog 93 #[.agg #[.int .i64 m,.int .i64 x,.int .i64 s]] W fun e w'=>e=.returned (.bool v)∧Ext W w':=fun W=>by rw [hv];exact qbe m x s W
 rw [<-hv];have K:=Lib.hid KR;clear KR hv;by_cases h:0<=t∧t<=1099511627776
 ·have hd:Hid ((decide (0<=t∧t<=1099511627776) && v)=v):=by show _=_;simp [h]
  obtain ⟨h1,h2⟩:=h;rw [hd.out];have g1:decide (0<=t)=true:=by simp [h1]
  have g2:decide (t<=1099511627776)=true:=by simp [h2]
  go_enter Tryz.func135,Tryz.ntmps135;go_wp2_with fail;refine (K.out _).mono ?_;rintro e w1 ⟨rfl,aa⟩;go_wp2_with fail;go_ret;exact ⟨qao (by simp),((Ext.refl w).alloc _).trans aa⟩
 ·have hd:Hid ((decide (0<=t∧t<=1099511627776) && v)=false):=by show _=_;simp only [h,decide_false,Bool.false_and]
  rw [hd.out];by_cases h1:0<=t
  ·have g1:decide (0<=t)=true:=(by simp [h1]);have h2:1099511627776<t:=(by omega);go_enter Tryz.func135,Tryz.ntmps135;go_wp2_with fail;go_ret;exact ⟨rfl,(Ext.refl w).alloc _⟩
  ·have g1:decide (0<=t)=false:=(by simp;omega);have h2:t<0:=(by omega);go_enter Tryz.func135,Tryz.ntmps135;go_wp2_with fail;go_ret;exact ⟨rfl,(Ext.refl w).alloc _⟩
def ivN (d:Int):Int:=if d<1 then 1 else if 1073741824<d then 1073741824 else d
def ivT (t:Int):Int:=if t<0 then 0 else if 4611686018427387904<t then 4611686018427387904 else t
def ivl (t d:Int):Int:=(ivT t+ivN d-1)/ivN d
end Go.Proofs.YtnkelahimiipjaaGreatDoor
