/-
 frame: Next.
-/
import Derived.Test.YtnkelahimiipjaaGreatDoorJrt
import Derived.Test.YtnkelahimiipjaaGreatDoorCjt
import Derived.Test.YtnkelahimiipjaaGreatDoorCqt
import Derived.Test.YtnkelahimiipjaaGreatDoorBbt
import Derived.Test.YtnkelahimiipjaaGreatDoorCtt
import Derived.Test.YtnkelahimiipjaaGreatDoorCct
import Derived.Defers
import Derived.Deep.Cut
import Derived.Deep.CutRange
set_option maxRecDepth 100000
set_option maxHeartbeats 8000000
namespace Go.Proofs.YtnkelahimiipjaaGreatDoor
open Go.RowKit Go.Sort
theorem qkd (pe pk pb pr:Addr) (u:FrameMode) (w:World) (he:w.cell? pe=some (.int .i64 0)):
  CallsD Tryz.prog 72 #[.pointer (some pe),.pointer (some pk),.pointer (some pb),.pointer (some pr)] u w fun e u' w'=>u'=u∧(e=.returned (.tuple #[])∧w'=w):=by
 go_enter_d Tryz.func72,Tryz.ntmps72
 go_wp2_with fail
 first|go_end0|refine bodyPost_ret (results_none rfl _ _ _) rfl ?_
 exact ⟨rfl,rfl⟩
theorem qbZ (be bk bb br:Nat) (er:Int) (v0 v1 v2:Value) (u:FrameMode) (w:World) (h0:Boxed w bk 3 v0) (h1:Boxed w bb 23 v1) (h2:Boxed w br 23 v2) (h3:Boxed w be 26 (.int .i64 er)) (he:er≠0) (n1:bb≠bk) (n2:br≠bk) (n3:br≠bb):
  CallsD Tryz.prog 72 #[.pointer (some ⟨be,0,none⟩),.pointer (some ⟨bk,0,none⟩),.pointer (some ⟨bb,0,none⟩),.pointer (some ⟨br,0,none⟩)] u w fun e u' w'=>u'=u∧(e=.returned (.tuple #[])∧w'=((w.setCell ⟨bk,0,none⟩ (.int .i64 0)).setCell ⟨bb,0,none⟩ (.slice none 0 0)).setCell ⟨br,0,none⟩ (.slice none 0 0)):=by
 have c3:=h3.cell;have c0:=h0.cell;have f0:=h0.frozen;have aa:=qaf h1 (B':=bk) n1 (.int .i64 0);have c1:=aa.cell;have f1:=aa.frozen;have ab:=qaf (qaf h2 (B':=bk) n2 (.int .i64 0)) (B':=bb) n3 (.slice none 0 0);have c2:=ab.cell;have f2:=ab.frozen;have g:(er != 0)=true:=by simp [he]
 clear h0 h1 h2 h3 aa ab he
 go_enter_d Tryz.func72,Tryz.ntmps72
 go_wp2_with fail
 first|go_end0|refine bodyPost_ret (results_none rfl _ _ _) rfl ?_
 exact ⟨rfl,rfl⟩
theorem qfb {W w:World} {v0 v1 v2:Value} {er:Int} (q0:Boxed w W.heap.size 3 v0) (q1:Boxed w (W.heap.size+1) 23 v1) (q2:Boxed w (W.heap.size+1+1) 23 v2) (q3:Boxed w (W.heap.size+1+1+1) 26 (.int .i64 er)) (hB:Below W.heap.size W w):
  ∃w9,w9=((w.setCell ⟨W.heap.size,0,none⟩ (.int .i64 0)).setCell ⟨W.heap.size+1,0,none⟩ (.slice none 0 0)).setCell ⟨W.heap.size+1+1,0,none⟩ (.slice none 0 0)∧w9.cell? ⟨W.heap.size,0,none⟩=some (.int .i64 0)∧w9.cell? ⟨W.heap.size+1,0,none⟩=some (.slice none 0 0)∧w9.cell? ⟨W.heap.size+1+1,0,none⟩=some (.slice none 0 0)∧w9.cell? ⟨W.heap.size+1+1+1,0,none⟩=some (.int .i64 er)∧Below W.heap.size W w9:=by
 have a0:=q0.set (.int .i64 0);have a1:=qaf q1 (B':=W.heap.size) (by omega) (.int .i64 0);have a2:=qaf q2 (B':=W.heap.size) (by omega) (.int .i64 0);have a3:=qaf q3 (B':=W.heap.size) (by omega) (.int .i64 0);have b1:=a1.set (.slice none 0 0);have b2:=qaf a2 (B':=W.heap.size+1) (by omega) (.slice none 0 0);refine ⟨_,rfl,(qaf (qaf a0 (by omega) _) (by omega) _).cell,(qaf b1 (by omega) _).cell,(b2.set _).cell,(qaf (qaf a3 (by omega) _) (by omega) _).cell,((hB.setCell (by simp) _).setCell (by simp) _).setCell (by simp <;>omega) _⟩
theorem qfI {W w:World} {v0 v1 v2 v3:Value} (er0 er:Int) (q0:Boxed w W.heap.size 3 v0) (q1:Boxed w (W.heap.size+1) 23 v1) (q2:Boxed w (W.heap.size+1+1) 23 v2) (q3:Boxed w (W.heap.size+1+1+1) 26 v3) (hB:Below W.heap.size W w):
  ∃w9,w9=((((w.setCell ⟨W.heap.size+1+1+1,0,none⟩ (.int .i64 er0)).setCell ⟨W.heap.size,0,none⟩ (.int .i64 0)).setCell ⟨W.heap.size+1,0,none⟩ (.slice none 0 0)).setCell ⟨W.heap.size+1+1,0,none⟩ (.slice none 0 0)).setCell ⟨W.heap.size+1+1+1,0,none⟩ (.int .i64 er)∧
   (Boxed w9 W.heap.size 3 (.int .i64 0)∧Boxed w9 (W.heap.size+1) 23 (.slice none 0 0)∧Boxed w9 (W.heap.size+1+1) 23 (.slice none 0 0)∧Boxed w9 (W.heap.size+1+1+1) 26 (.int .i64 er))∧Below W.heap.size W w9:=by
 have p0:=qaf q0 (B':=W.heap.size+1+1+1) (by omega) (.int .i64 er0);have p1:=qaf q1 (B':=W.heap.size+1+1+1) (by omega) (.int .i64 er0);have p2:=qaf q2 (B':=W.heap.size+1+1+1) (by omega) (.int .i64 er0);have p3:=q3.set (.int .i64 er0);have a0:=p0.set (.int .i64 0);have a1:=qaf p1 (B':=W.heap.size) (by omega) (.int .i64 0);have a2:=qaf p2 (B':=W.heap.size) (by omega) (.int .i64 0);have a3:=qaf p3 (B':=W.heap.size) (by omega) (.int .i64 0);have b0:=qaf a0 (B':=W.heap.size+1) (by omega) (.slice none 0 0);have b1:=a1.set (.slice none 0 0);have b2:=qaf a2 (B':=W.heap.size+1) (by omega) (.slice none 0 0);have b3:=qaf a3 (B':=W.heap.size+1) (by omega) (.slice none 0 0);have c0:=qaf b0 (B':=W.heap.size+1+1) (by omega) (.slice none 0 0);have c1:=qaf b1 (B':=W.heap.size+1+1) (by omega) (.slice none 0 0);have c2:=b2.set (.slice none 0 0);have c3:=qaf b3 (B':=W.heap.size+1+1) (by omega) (.slice none 0 0);exact ⟨_,rfl,⟨qaf c0 (by omega) _,qaf c1 (by omega) _,qaf c2 (by omega) _,c3.set _⟩,((((hB.setCell (by simp <;>omega) _).setCell (by simp) _).setCell (by simp) _).setCell (by simp <;>omega) _).setCell (by simp <;>omega) _⟩
def NxC (W:World) (G u m:Nat) (D:List Nat) (wx:World):Prop:=
 ∃RA rc,Boxed wx W.heap.size 3 (.int .i64 0)∧Boxed wx (W.heap.size+1) 23 (.slice (some ⟨G,0,none⟩) u u)∧Boxed wx (W.heap.size+1+1) 23 (.slice RA m rc)∧Boxed wx (W.heap.size+1+1+1) 26 (.int .i64 0)∧
  RdG EB wx wx.heap.size (.slice (some ⟨G,0,none⟩) u u) (D.take u)∧RdG EB wx wx.heap.size (.slice RA m rc) (D.drop (u+4))∧Below W.heap.size W wx
theorem qkX {W w1:World} {base G L lc u:Nat} {D:List Nat} {RA:Option Addr} {rc:Nat} {v1 v2 v3:Value} (q0:Boxed w1 W.heap.size 3 (.int .i64 0)) (q1:Boxed w1 (W.heap.size+1) 23 v1) (q2:Boxed w1 (W.heap.size+1+1) 23 v2) (q3:Boxed w1 (W.heap.size+1+1+1) 26 v3) (hB:Below W.heap.size W w1) (hO:OwnG EB 5 w1 base (.slice (some ⟨G,0,none⟩) L lc) D) (hL:L=D.length) (hu:u+4<=L)
  (hRA:(lc=u+4∧RA=some ⟨G,0,none⟩∧rc=0)∨(lc≠u+4∧RA=some ⟨G,u+4,none⟩∧rc=lc-(u+4))):
  NxC W G u (L-(u+4)) D (((w1.setCell ⟨W.heap.size+1+1+1,0,none⟩ (.int .i64 0)).setCell ⟨W.heap.size+1,0,none⟩ (.slice (some ⟨G,0,none⟩) u u)).setCell ⟨W.heap.size+1+1,0,none⟩ (.slice RA (L-(u+4)) rc)).drew:=by
 have p0:=qaf q0 (B':=W.heap.size+1+1+1) (by omega) (.int .i64 0);have p1:=qaf q1 (B':=W.heap.size+1+1+1) (by omega) (.int .i64 0);have p2:=qaf q2 (B':=W.heap.size+1+1+1) (by omega) (.int .i64 0);have p3:=q3.set (.int .i64 0);have a0:=qaf p0 (B':=W.heap.size+1) (by omega) (.slice (some ⟨G,0,none⟩) u u);have a1:=p1.set (.slice (some ⟨G,0,none⟩) u u);have a2:=qaf p2 (B':=W.heap.size+1) (by omega) (.slice (some ⟨G,0,none⟩) u u);have a3:=qaf p3 (B':=W.heap.size+1) (by omega) (.slice (some ⟨G,0,none⟩) u u);have b0:=qaf a0 (B':=W.heap.size+1+1) (by omega) (.slice RA (L-(u+4)) rc);have b1:=qaf a1 (B':=W.heap.size+1+1) (by omega) (.slice RA (L-(u+4)) rc);have b2:=a2.set (.slice RA (L-(u+4)) rc);have b3:=qaf a3 (B':=W.heap.size+1+1) (by omega) (.slice RA (L-(u+4)) rc);have ab:=((hO.set q3 (by decide) (.int .i64 0)).set p1 (by decide) (.slice (some ⟨G,0,none⟩) u u)).set a2 (by decide) (.slice RA (L-(u+4)) rc);have aa:=ab.rd;obtain ⟨A',c',e',ac,_⟩:=id aa;injection e' with _ e1 e2;refine ⟨RA,rc,b0,b1,b2,b3, ?_, ?_,((((hB.setCell (by simp <;>omega) _).setCell (by simp <;>omega) _).setCell (by simp <;>omega) _)).drew⟩
 ·exact aa.cutTo3 hL (by omega) (Nat.le_refl _) (fun e=>by cases e)
 ·rcases hRA with ⟨h1,rfl,rfl⟩|⟨h1,rfl,rfl⟩
  ·have e:D.drop (u+4)=[]:=List.drop_eq_nil_of_le (by omega);have e2:L-(u+4)=0:=(by omega);rw [e,e2];exact ⟨_,0,rfl,Nat.le_refl _,fun e=>(by cases e),.inl rfl⟩
  ·have h2:=aa.cutFrom hL hu;rw [show 0+(u+4)*EB.k=u+4 by show 0+(u+4)*1=_;omega] at h2;exact h2
theorem qdn {x:Nat} {u:Value} (h:∀n:Int,u≠ .int .u8 n):∀z ∈ EB.enc x,z≠u:=fun z hz e=>by
 have hz:z ∈ [Value.int .u8 (x:Int)]:=hz;rw [List.mem_singleton] at hz;exact h _ (by rw [<-e,hz])
theorem qpw {W w9:World} {G u m kd:Nat} {RA A3:Option Addr} {rc n3 c3:Nat} {ev:Int} {D2 D4:List Nat} (b0:Boxed w9 W.heap.size 3 (.int .i64 (kd:Int))) (b1:Boxed w9 (W.heap.size+1) 23 (.slice (some ⟨G,0,none⟩) u u)) (b2:Boxed w9 (W.heap.size+1+1) 23 (.slice RA m rc)) (b3:Boxed w9 (W.heap.size+1+1+1) 26 (.int .i64 ev))
  (hbd:RdG EB w9 w9.heap.size (.slice (some ⟨G,0,none⟩) u u) D2) (hO:OwnG EB 5 w9 W.heap.size (.slice A3 n3 c3) D4) (hB:Below W.heap.size W w9):
  ∃x1 x2 x3 x4,x1=w9.setCell ⟨W.heap.size,0,none⟩ (.int .i64 (kd:Int))∧x2=x1.setCell ⟨W.heap.size+1,0,none⟩ (.slice (some ⟨G,0,none⟩) u u)∧x3=x2.setCell ⟨W.heap.size+1+1,0,none⟩ (.slice A3 n3 c3)∧x4=x3.setCell ⟨W.heap.size+1+1+1,0,none⟩ (.int .i64 ev)∧
   (∀x,x=x1∨x=x2∨x=x3∨x=x4->Boxed x W.heap.size 3 (.int .i64 (kd:Int))∧Boxed x (W.heap.size+1) 23 (.slice (some ⟨G,0,none⟩) u u)∧Boxed x (W.heap.size+1+1+1) 26 (.int .i64 ev))∧
   Boxed x1 (W.heap.size+1+1) 23 (.slice RA m rc)∧Boxed x2 (W.heap.size+1+1) 23 (.slice RA m rc)∧Boxed x4 (W.heap.size+1+1) 23 (.slice A3 n3 c3)∧
   RdG EB x4 x4.heap.size (.slice (some ⟨G,0,none⟩) u u) D2∧OwnG EB 5 x4 W.heap.size (.slice A3 n3 c3) D4∧Below W.heap.size W x4:=by
 have p0:=b0.set (.int .i64 (kd:Int));have p1:=qaf b1 (B':=W.heap.size) (by omega) (.int .i64 (kd:Int));have p2:=qaf b2 (B':=W.heap.size) (by omega) (.int .i64 (kd:Int));have p3:=qaf b3 (B':=W.heap.size) (by omega) (.int .i64 (kd:Int));have q0:=qaf p0 (B':=W.heap.size+1) (by omega) (.slice (some ⟨G,0,none⟩) u u);have q1:=p1.set (.slice (some ⟨G,0,none⟩) u u);have q2:=qaf p2 (B':=W.heap.size+1) (by omega) (.slice (some ⟨G,0,none⟩) u u);have q3:=qaf p3 (B':=W.heap.size+1) (by omega) (.slice (some ⟨G,0,none⟩) u u);have r0:=qaf q0 (B':=W.heap.size+1+1) (by omega) (.slice A3 n3 c3);have r1:=qaf q1 (B':=W.heap.size+1+1) (by omega) (.slice A3 n3 c3);have r2:=q2.set (.slice A3 n3 c3);have r3:=qaf q3 (B':=W.heap.size+1+1) (by omega) (.slice A3 n3 c3);have s0:=qaf r0 (B':=W.heap.size+1+1+1) (by omega) (.int .i64 ev);have s1:=qaf r1 (B':=W.heap.size+1+1+1) (by omega) (.int .i64 ev);have s2:=qaf r2 (B':=W.heap.size+1+1+1) (by omega) (.int .i64 ev);have s3:=r3.set (.int .i64 ev);have d1:=hbd.setBox b0 (fun x=>qdn (fun n e=>by cases e)) (.int .i64 (kd:Int));have d2:=d1.setBox p1 (fun x=>qdn (fun n e=>by cases e)) (.slice (some ⟨G,0,none⟩) u u);have d3:=d2.setBox q2 (fun x=>qdn (fun n e=>by cases e)) (.slice A3 n3 c3);have d4:=d3.setBox r3 (fun x=>qdn (fun n e=>by cases e)) (.int .i64 ev);have o4:=(((hO.set b0 (by decide) (.int .i64 (kd:Int))).set p1 (by decide) (.slice (some ⟨G,0,none⟩) u u)).set q2 (by decide) (.slice A3 n3 c3)).set r3 (by decide) (.int .i64 ev);refine ⟨_,_,_,_,rfl,rfl,rfl,rfl, ?_,p2,q2,s2,d4,o4,(((hB.setCell (by simp) _).setCell (by simp <;>omega) _).setCell (by simp <;>omega) _).setCell (by simp <;>omega) _⟩
 rintro x (rfl|rfl|rfl|rfl)
 ·exact ⟨p0,p1,p3⟩
 ·exact ⟨q0,q1,q3⟩
 ·exact ⟨r0,r1,r3⟩
 ·exact ⟨s0,s1,s3⟩
def NxD (W:World) (G u m kd:Nat) (ev:Int) (D:List Nat) (wx:World):Prop:=
 ∃RA rc,Boxed wx W.heap.size 3 (.int .i64 (kd:Int))∧Boxed wx (W.heap.size+1) 23 (.slice (some ⟨G,0,none⟩) u u)∧Boxed wx (W.heap.size+1+1) 23 (.slice RA m rc)∧Boxed wx (W.heap.size+1+1+1) 26 (.int .i64 ev)∧
  RdG EB wx wx.heap.size (.slice (some ⟨G,0,none⟩) u u) (D.take u)∧RdG EB wx wx.heap.size (.slice RA m rc) (D.drop (u+4))∧Below W.heap.size W wx
def qqn (W:World) (b:List Nat) (e:Ending) (w':World):Prop:=
 ∃bv rv,e=.returned (.tuple #[.int .i64 ((qap b).2.1:Int),bv,rv,.int .i64 (qap b).1])∧Below W.heap.size W w'∧
  if (qap b).1=0 then RdG EB w' w'.heap.size bv (qap b).2.2.1∧OwnG EB 5 w' W.heap.size rv (qap b).2.2.2 else bv=.slice none 0 0∧rv=.slice none 0 0
theorem qmh (v : Value) (b : List Nat) (W : World) (hT : TabH W) (hR : RdG EB W W.heap.size v b) (h8 : ∀ c ∈ b, c < 256) (hb : b.length <= 10000000) :
  Calls Tryz.prog 41 #[v] W (qqn W b):=by
 have hr:Tryz.f41.results= #[.cell 2 3,.cell 3 23,.cell 4 23,.cell 5 26]:=by kernel_rfl
 have dt:∀(fn:Fn) (first cap:Array Value) (w:World),(Instr.makeFunc fn first cap).run Tryz.prog w=.ok (.func fn first cap) w:=fun _ _ _ _=>rfl;obtain ⟨N,hN⟩:∃N,N=b.length:=⟨_,rfl⟩;have HR:=Lib.hid hR;have H8:=Lib.hid h8;have c4:=Lib.hid hT;obtain ⟨A,c,rfl,hc,bh,hA⟩:=hR;rw [<-hN] at HR hc hb ⊢;have HN:=Lib.hid hN;have bg:Below W.heap.size W ((((W.alloc (.cells #[.int .i64 0] 3)).alloc (.cells #[.slice none 0 0] 23)).alloc (.cells #[.slice none 0 0] 23)).alloc (.cells #[.int .i64 0] 26)):=
  ((((Below.refl _ W).alloc (Nat.le_refl _) _).alloc (by simp) _).alloc (by simp <;>omega) _).alloc (by simp <;>omega) _
 by_cases h0:N=0
 ·have HD:Hid (qap b=(10,0,[],[])):=by show _=_;unfold qap;rw [if_pos (by omega)]
  have g0:((N:Int)==0)=true:=by simp;omega
  clear hN hA bh hc hb h8 hT
  go_enter_defers Tryz.func41,Tryz.ntmps41
  go_wp2_with fail;have q0:Boxed ((((W.alloc (.cells #[.int .i64 0] 3)).alloc (.cells #[.slice none 0 0] 23)).alloc (.cells #[.slice none 0 0] 23)).alloc (.cells #[.int .i64 10] 26)) W.heap.size 3 (.int .i64 0):=((((qaw _ _ _ rfl).alloc _).alloc _).alloc _);have q1:Boxed ((((W.alloc (.cells #[.int .i64 0] 3)).alloc (.cells #[.slice none 0 0] 23)).alloc (.cells #[.slice none 0 0] 23)).alloc (.cells #[.int .i64 10] 26)) (W.heap.size+1) 23 (.slice none 0 0):=(((qaw _ _ _ (by simp)).alloc _).alloc _);have q2:Boxed ((((W.alloc (.cells #[.int .i64 0] 3)).alloc (.cells #[.slice none 0 0] 23)).alloc (.cells #[.slice none 0 0] 23)).alloc (.cells #[.int .i64 10] 26)) (W.heap.size+1+1) 23 (.slice none 0 0):=((qaw _ _ _ (by simp)).alloc _);have q3:Boxed ((((W.alloc (.cells #[.int .i64 0] 3)).alloc (.cells #[.slice none 0 0] 23)).alloc (.cells #[.slice none 0 0] 23)).alloc (.cells #[.int .i64 10] 26)) (W.heap.size+1+1+1) 26 (.int .i64 10):=(qaw _ _ _ (by simp));obtain ⟨w9,ae,d0,d1,d2,d3,ab⟩:=qfb q0 q1 q2 q3 (((((Below.refl _ W).alloc (Nat.le_refl _) _).alloc (by simp) _).alloc (by simp <;>omega) _).alloc (by simp <;>omega) _);refine leaves_cons (f:=72) (args:= #[.pointer (some ⟨W.heap.size+1+1+1,0,none⟩),.pointer (some ⟨W.heap.size,0,none⟩),.pointer (some ⟨W.heap.size+1,0,none⟩),.pointer (some ⟨W.heap.size+1+1,0,none⟩)]) (by simp) (by simp [go_sem]) ?_
  refine (qbZ _ _ _ _ 10 _ _ _ _ _ q0 q1 q2 q3 (by decide) (by omega) (by omega) (by omega)).mono ?_;rintro e u' w'' ⟨rfl,rfl,h9⟩;rw [<-ae] at h9;subst h9;clear ae;have ah:=Lib.hid ab;clear q0 q1 q2 q3 ab;exact ⟨.tuple #[.int .i64 0,.slice none 0 0,.slice none 0 0,.int .i64 10],by unfold results;rw [hr];go_simp,⟨_,_,by rw [HD.out];rfl,ah.out,by rw [if_neg (by rw [HD.out];exact (by decide))];exact ⟨rfl,rfl⟩⟩⟩
 ·have g0 : ((N : Int) == 0) = false := by simp; omega
  obtain ⟨g,o,rfl,ag,dj⟩:∃g o,A=some ⟨g,o,none⟩∧W.cell? ⟨g,o,none⟩=some (.int .u8 (b.getD 0 0:Nat))∧g<W.heap.size:=by
   rcases hA with h1|⟨b1,o1,e,dm,dn⟩
   ·rw [h1] at hN;simp at hN;omega
   ·refine ⟨b1,o1,e, ?_,dm⟩;have :=qdX.1 (dn 0 (by omega));rw [List.getD_eq_getElem?_getD,List.getElem?_eq_getElem (by omega)];simpa [EB] using this
  have dd:b.getD 0 0<256:=by
   rw [List.getD_eq_getElem?_getD,List.getElem?_eq_getElem (by omega)];exact h8 _ (List.getElem_mem _)
  obtain ⟨kd,be⟩:∃k,k=b.getD 0 0:=⟨_,rfl⟩;rw [<-be] at ag dd;have dh:=Lib.hid be;have cy:=Lib.hid ag;have i0:(0:Int)<(N:Int):=by omega
  have i00:0<N:=by omega
  have cl:=Lib.hid hb;have bi:b.length≠0:=by omega
  have bb:=Lib.hid bi;obtain ⟨T,a2⟩:∃T,T=qab (b.drop 1):=⟨_,rfl⟩;have HT:=Lib.hid a2;have br:∀c ∈ b.drop 1,c<256:=fun c hc=>h8 c (List.mem_of_mem_drop hc);obtain ⟨W4,ai⟩:∃W4,W4=((((W.alloc (.cells #[.int .i64 0] 3)).alloc (.cells #[.slice none 0 0] 23)).alloc (.cells #[.slice none 0 0] 23)).alloc (.cells #[.int .i64 0] 26)):=⟨_,rfl⟩;have aq:Below W.heap.size W W4:=by rw [ai];exact bg
  have ac:Hid (Boxed W4 W.heap.size 3 (.int .i64 0)∧Boxed W4 (W.heap.size+1) 23 (.slice none 0 0)∧Boxed W4 (W.heap.size+1+1) 23 (.slice none 0 0)∧Boxed W4 (W.heap.size+1+1+1) 26 (.int .i64 0)):=by
   rw [ai];exact ⟨((((qaw _ _ _ rfl).alloc _).alloc _).alloc _),(((qaw _ _ _ (by simp)).alloc _).alloc _),((qaw _ _ _ (by simp)).alloc _),(qaw _ _ _ (by simp))⟩
  have an:=Lib.hid aq;have KT:∀q,RdG EB W4 W4.heap.size q (b.drop 1)->Calls Tryz.prog 73 #[q] W4 fun e w'=>∃r,e=.returned (.tuple #[.int .u64 (if T.1=0 then (T.2.1:Int) else 0),r,.int .i64 T.1])∧Below W4.heap.size W4 w'∧if T.1=0 then OwnG EB 5 w' W4.heap.size r ((b.drop 1).drop T.2.2) else r=.slice none 0 0:=fun q hq=>by
   rw [a2];exact qdo q (b.drop 1) W4 hq br (by rw [List.length_drop];omega)
  by_cases hc1:c=1
  ·have du:N=1:=(by omega);have aj:b.drop 1=[]:=List.drop_eq_nil_of_le (by omega);have bn:T=(10,0,0):=(by rw [a2,aj];rfl);have HD:Hid (qap b=(10,0,[],[])):=by
    show _=_;unfold qap;rw [if_neg bi,<-a2,bn,if_pos (by decide)]
   have K1:=Lib.hid (KT (.slice (some ⟨g,o,none⟩) 0 0) (by rw [aj];exact ⟨_,0,rfl,Nat.le_refl _,fun _=>rfl,.inl rfl⟩));rw [bn] at K1;clear hN hA bh hb h8 be bi h0 a2 br KT aj bn hT bg aq ag
   go_enter_defers Tryz.func41,Tryz.ntmps41
   go_wp2_with fail;rw [<-ai];clear ai;refine K1.out.mono ?_;rintro e w1 ⟨r,rfl,hB,af⟩;have cu:r=.slice none 0 0:=af;subst cu;have am:Hid (Below W.heap.size W w1):=an.out.trans (hB.mono an.out.size);have aa:=Lib.hid (And.intro (qat ac.out.1 hB) (And.intro (qat ac.out.2.1 hB) (And.intro (qat ac.out.2.2.1 hB) (qat ac.out.2.2.2 hB))));have c3:=aa.out.2.2.2.cell;have f3:=aa.out.2.2.2.frozen;have c0:=aa.out.1.cell;have f0:=aa.out.1.frozen;have c1:=aa.out.2.1.cell;have f1:=aa.out.2.1.frozen;have c2:=aa.out.2.2.1.cell;have f2:=aa.out.2.2.1.frozen;clear hB af K1;go_wp2_with fail;go_region;go_wp2_with fail;obtain ⟨w5,ak,HQ,al⟩:=qfI 10 10 aa.out.1 aa.out.2.1 aa.out.2.2.1 aa.out.2.2.2 am.out;rw [<-ak];have HQ:=Lib.hid HQ;have a0:=Lib.hid al.drew;clear ak al c0 c1 c2 c3 f0 f1 f2 f3;have q0:Boxed w5.drew W.heap.size 3 (.int .i64 0):=HQ.out.1;have q1:Boxed w5.drew (W.heap.size+1) 23 (.slice none 0 0):=HQ.out.2.1;have q2:Boxed w5.drew (W.heap.size+1+1) 23 (.slice none 0 0):=HQ.out.2.2.1;have q3:Boxed w5.drew (W.heap.size+1+1+1) 26 (.int .i64 10):=HQ.out.2.2.2;obtain ⟨w9,ae,d0,d1,d2,d3,ab⟩:=qfb q0 q1 q2 q3 a0.out;refine leaves_cons (f:=72) (args:= #[.pointer (some ⟨W.heap.size+1+1+1,0,none⟩),.pointer (some ⟨W.heap.size,0,none⟩),.pointer (some ⟨W.heap.size+1,0,none⟩),.pointer (some ⟨W.heap.size+1+1,0,none⟩)]) (by simp) (by simp [go_sem]) ?_;refine (qbZ _ _ _ _ 10 _ _ _ _ _ q0 q1 q2 q3 (by decide) (by omega) (by omega) (by omega)).mono ?_;rintro e u' w'' ⟨rfl,rfl,h9⟩
   rw [<-ae] at h9;subst h9;clear ae;have ah:=Lib.hid ab;clear q0 q1 q2 q3 ab;exact ⟨.tuple #[.int .i64 0,.slice none 0 0,.slice none 0 0,.int .i64 10],by unfold results;rw [hr];go_simp,⟨_,_,by rw [HD.out];rfl,ah.out,by rw [if_neg (by rw [HD.out];exact (by decide))];exact ⟨rfl,rfl⟩⟩⟩
  ·have hcut := HR.out.cutFrom HN.out (k := 1) (by omega)
   rw [show 1*EB.k=1 from rfl] at hcut;have K1:=Lib.hid (KT _ (hcut.on aq));have dp:1<=c:=(by omega);obtain ⟨er,u,kk⟩:=T;simp only at K1 HT;clear hN hA bh hb h8 be h0 a2 KT hcut br hT bg aq ag;by_cases he:er=0
   ·subst he
    simp only [if_true] at K1;obtain ⟨bp,b7,ck⟩:=qf1 (b:=b.drop 1) (by rw [<-HT.out]);rw [<-HT.out] at bp b7 ck;simp only at bp b7 ck;rw [List.length_drop,<-HN.out] at bp;obtain ⟨D,hD⟩:∃D,D=(b.drop 1).drop kk:=⟨_,rfl⟩;rw [<-hD] at K1;obtain ⟨L,hL⟩:∃L,L=D.length:=⟨_,rfl⟩;have bd:L=N-1-kk:=(by rw [hL,hD,List.length_drop,List.length_drop,<-HN.out]);have cp:=Lib.hid hD;have HL:=Lib.hid hL;by_cases hu:65535<u
    ·have HD:Hid (qap b=(11,0,[],[])):=by
      show _=_;unfold qap;rw [if_neg bb.out,<-HT.out,if_neg (by simp),if_pos hu]
     have q1:(u:Int)>65535:=(by omega);clear hD hL bd
     go_enter_defers Tryz.func41,Tryz.ntmps41
     go_wp2_with fail;rw [<-ai];clear ai;refine K1.out.mono ?_;rintro e w1 ⟨r,rfl,hB,af⟩;have am:Hid (Below W.heap.size W w1):=an.out.trans (hB.mono an.out.size);have aa:=Lib.hid (And.intro (qat ac.out.1 hB) (And.intro (qat ac.out.2.1 hB) (And.intro (qat ac.out.2.2.1 hB) (qat ac.out.2.2.2 hB))));have a4:=Lib.hid af;obtain ⟨LA,lc,rfl,bc,_⟩:=af.rd;have c3:=aa.out.2.2.2.cell;have f3:=aa.out.2.2.2.frozen;have c0:=aa.out.1.cell;have f0:=aa.out.1.frozen;have c1:=aa.out.2.1.cell;have f1:=aa.out.2.1.frozen;have c2:=aa.out.2.2.1.cell;have f2:=aa.out.2.2.1.frozen;clear hB K1 af;go_wp2_with fail;obtain ⟨w5,ak,HQ,al⟩:=qfI 0 11 aa.out.1 aa.out.2.1 aa.out.2.2.1 aa.out.2.2.2 am.out;rw [<-ak];have HQ:=Lib.hid HQ;have a0:=Lib.hid al;clear ak al c0 c1 c2 c3 f0 f1 f2 f3;have q0:Boxed w5 W.heap.size 3 (.int .i64 0):=HQ.out.1;have q1:Boxed w5 (W.heap.size+1) 23 (.slice none 0 0):=HQ.out.2.1;have q2:Boxed w5 (W.heap.size+1+1) 23 (.slice none 0 0):=HQ.out.2.2.1;have q3:Boxed w5 (W.heap.size+1+1+1) 26 (.int .i64 11):=HQ.out.2.2.2;obtain ⟨w9,ae,d0,d1,d2,d3,ab⟩:=qfb q0 q1 q2 q3 a0.out;refine leaves_cons (f:=72) (args:= #[.pointer (some ⟨W.heap.size+1+1+1,0,none⟩),.pointer (some ⟨W.heap.size,0,none⟩),.pointer (some ⟨W.heap.size+1,0,none⟩),.pointer (some ⟨W.heap.size+1+1,0,none⟩)]) (by simp) (by simp [go_sem]) ?_;refine (qbZ _ _ _ _ 11 _ _ _ _ _ q0 q1 q2 q3 (by decide) (by omega) (by omega) (by omega)).mono ?_;rintro e u' w'' ⟨rfl,rfl,h9⟩;rw [<-ae] at h9;subst h9
     clear ae;have ah:=Lib.hid ab;clear q0 q1 q2 q3 ab;exact ⟨.tuple #[.int .i64 0,.slice none 0 0,.slice none 0 0,.int .i64 11],by unfold results;rw [hr];go_simp,⟨_,_,by rw [HD.out];rfl,ah.out,by rw [if_neg (by rw [HD.out];exact (by decide))];exact ⟨rfl,rfl⟩⟩⟩
    ·have q1 : ¬ (u : Int) > 65535 := by omega
     have dq:u<=65535:=(by omega);by_cases hs:L<u+4
     ·have HD:Hid (qap b=(10,0,[],[])):=by
       show _=_;unfold qap;rw [if_neg bb.out,<-HT.out,if_neg (by simp),if_neg hu,if_pos (by rw [<-hD,<-hL];exact hs)]
      have q2:(L:Int)<(u:Int)+4:=(by omega);clear hD hL bd hu
      go_enter_defers Tryz.func41,Tryz.ntmps41
      go_wp2_with fail;rw [<-ai];clear ai;refine K1.out.mono ?_;rintro e w1 ⟨r,rfl,hB,af⟩;have am:Hid (Below W.heap.size W w1):=an.out.trans (hB.mono an.out.size);have aa:=Lib.hid (And.intro (qat ac.out.1 hB) (And.intro (qat ac.out.2.1 hB) (And.intro (qat ac.out.2.2.1 hB) (qat ac.out.2.2.2 hB))));have a4:=Lib.hid af;obtain ⟨LA,lc,rfl,bc,_⟩:=af.rd;have c3:=aa.out.2.2.2.cell;have f3:=aa.out.2.2.2.frozen;have c0:=aa.out.1.cell;have f0:=aa.out.1.frozen;have c1:=aa.out.2.1.cell;have f1:=aa.out.2.1.frozen;have c2:=aa.out.2.2.1.cell;have f2:=aa.out.2.2.1.frozen;clear hB K1 af;rw [<-HL.out] at bc ⊢;go_wp2_with fail;obtain ⟨w5,ak,HQ,al⟩:=qfI 0 10 aa.out.1 aa.out.2.1 aa.out.2.2.1 aa.out.2.2.2 am.out;rw [<-ak];have HQ:=Lib.hid HQ;have a0:=Lib.hid al;clear ak al c0 c1 c2 c3 f0 f1 f2 f3;have q0:Boxed w5 W.heap.size 3 (.int .i64 0):=HQ.out.1;have q1:Boxed w5 (W.heap.size+1) 23 (.slice none 0 0):=HQ.out.2.1;have q2:Boxed w5 (W.heap.size+1+1) 23 (.slice none 0 0):=HQ.out.2.2.1;have q3:Boxed w5 (W.heap.size+1+1+1) 26 (.int .i64 10):=HQ.out.2.2.2;obtain ⟨w9,ae,d0,d1,d2,d3,ab⟩:=qfb q0 q1 q2 q3 a0.out;refine leaves_cons (f:=72) (args:= #[.pointer (some ⟨W.heap.size+1+1+1,0,none⟩),.pointer (some ⟨W.heap.size,0,none⟩),.pointer (some ⟨W.heap.size+1,0,none⟩),.pointer (some ⟨W.heap.size+1+1,0,none⟩)]) (by simp) (by simp [go_sem]) ?_;refine (qbZ _ _ _ _ 10 _ _ _ _ _ q0 q1 q2 q3 (by decide) (by omega) (by omega) (by omega)).mono ?_;rintro e u' w'' ⟨rfl,rfl,h9⟩
      rw [<-ae] at h9;subst h9;clear ae;have ah:=Lib.hid ab;clear q0 q1 q2 q3 ab;exact ⟨.tuple #[.int .i64 0,.slice none 0 0,.slice none 0 0,.int .i64 10],by unfold results;rw [hr];go_simp,⟨_,_,by rw [HD.out];rfl,ah.out,by rw [if_neg (by rw [HD.out];exact (by decide))];exact ⟨rfl,rfl⟩⟩⟩
     ·have q2 : ¬ (L : Int) < (u : Int) + 4 := by omega
      clear hD hL hu
      go_enter_defers Tryz.func41,Tryz.ntmps41
      go_wp2_with fail;rw [<-ai];clear ai;refine K1.out.mono ?_;rintro e w1 ⟨r,rfl,hB,af⟩;have am:Hid (Below W.heap.size W w1):=an.out.trans (hB.mono an.out.size);have aa:=Lib.hid (And.intro (qat ac.out.1 hB) (And.intro (qat ac.out.2.1 hB) (And.intro (qat ac.out.2.2.1 hB) (qat ac.out.2.2.2 hB))));have a4:=Lib.hid af;obtain ⟨LA,lc,rfl,bc,_⟩:=af.rd;have c3:=aa.out.2.2.2.cell;have f3:=aa.out.2.2.2.frozen;have c0:=aa.out.1.cell;have f0:=aa.out.1.frozen;have c1:=aa.out.2.1.cell;have f1:=aa.out.2.1.frozen;have c2:=aa.out.2.2.1.cell;have f2:=aa.out.2.2.1.frozen;clear hB K1 af;rw [<-HL.out] at bc ⊢;obtain ⟨G,rfl,_,_⟩:=qfx a4.out (by rw [<-HL.out];omega);have q3:(u:Int)+4<=(L:Int):=(by omega);have q4:(u:Int)<=(lc:Int):=(by omega);have bj:=Lib.hid bd;have ap:Hid (u+4<=L):=(by show _<=_;omega);clear bd;have ca:Hid (OwnG EB 5 w1 W4.heap.size (.slice (some ⟨G,0,none⟩) L lc) D):=(by show OwnG _ _ _ _ _ _;have h:=a4.out;rw [<-HL.out] at h;exact h);clear a4
      go_upto_region 11 with fail
      go_cut [6] from 31 to 39 (fun s6 wx=>s6=.int .u64 (u:Int)∧Hid (NxC W G u (L-(u+4)) D wx))
      case first=>
       by_cases hcu:lc=u+4
       ·have bx:=Lib.hid hcu;subst hcu;go_region;go_wp2_with fail;go_meet;have cz:L-(u+4)=0:=(by omega);have hF:=qkX aa.out.1 aa.out.2.1 aa.out.2.2.1 aa.out.2.2.2 am.out ca.out HL.out ap.out (.inl ⟨rfl,rfl,rfl⟩);rw [cz] at hF ⊢;exact ⟨rfl,hF⟩
       ·have di:u+4≠lc:=fun e=>hcu e.symm;have bx:=Lib.hid hcu;go_region;go_wp2_with fail;go_meet;exact ⟨rfl,qkX aa.out.1 aa.out.2.1 aa.out.2.2.1 aa.out.2.2.2 am.out ca.out HL.out ap.out (.inr ⟨bx.out,rfl,rfl⟩)⟩
      case rest =>
       obtain ⟨rfl,cd⟩:=hcut;obtain ⟨RA,rc,b0,b1,b2,b3,aj,av,au⟩:=cd.out;obtain ⟨m,hm⟩:∃m,m=L-(u+4):=⟨_,rfl⟩;rw [<-hm] at b2 av;have bt:=bj.out;have dc:=ap.out;have dl:(N:Int)-(m:Int)=((1+kk+u+4:Nat):Int):=(by omega);obtain ⟨nn,a1⟩:∃n,n=1+kk+u+4:=⟨_,rfl⟩;rw [<-a1] at dl;obtain ⟨n4,cm⟩:∃n,n=1+kk+u:=⟨_,rfl⟩;have c8:IntKind.i64.wrap ((nn:Int)-4)=(n4:Int):=(by rw [show (nn:Int)-4=(n4:Int) by omega];exact IntWalk.i64_in _ (by omega));have df:(nn:Int)-4=(n4:Int):=(by omega);have cj:IntKind.i64.wrap (n4:Int)=(n4:Int):=IntWalk.i64_in _ (by omega);have ct:IntKind.i64.wrap (nn:Int)=(nn:Int):=IntWalk.i64_in _ (by omega);have a7:n4<=N:=(by omega);have a6:nn<=N:=(by omega);have i5:(n4:Int)<=(c:Int):=(by omega);have i6:(nn:Int)<=(c:Int):=(by omega);have i7:(0:Int)<=(nn:Int):=(by omega);have i8:(0:Int)<=(n4:Int):=(by omega);have e0:=b0.cell;have g0:=b0.frozen;have e2:=b2.cell;have cv:wc.cell? ⟨g,o,none⟩=some (.int .u8 (kd:Int)):=(au.cell dj).trans cy.out;obtain ⟨w8,a3⟩:∃w,w=wc.setCell ⟨W.heap.size,0,none⟩ (.int .i64 (kd:Int)):=⟨_,rfl⟩;have bk:Hid (Below W.heap.size W w8):=(by rw [a3];exact au.setCell (Nat.le_refl _) _);have ar:Hid (Boxed w8 W.heap.size 3 (.int .i64 (kd:Int))∧Boxed w8 (W.heap.size+1) 23 (.slice (some ⟨G,0,none⟩) u u)∧Boxed w8 (W.heap.size+1+1) 23 (.slice RA m rc)∧Boxed w8 (W.heap.size+1+1+1) 26 (.int .i64 0)):=by
        rw [a3];exact ⟨b0.set _,qaf b1 (by omega) _,qaf b2 (by omega) _,qaf b3 (by omega) _⟩
       have bl:Hid (RdG EB w8 w8.heap.size (.slice (some ⟨G,0,none⟩) u u) (D.take u)):=(by rw [a3];exact aj.setBox b0 (fun x z hz e=>(by rw [e] at hz;simp [EB] at hz)) _);have bm:Hid (RdG EB w8 w8.heap.size (.slice RA m rc) (D.drop (u+4))):=(by rw [a3];exact av.setBox b0 (fun x z hz e=>(by rw [e] at hz;simp [EB] at hz)) _);have az:=bk.out;have bz:∀n,∀c ∈ b.take n,c<256:=fun n c hc=>H8.out c (List.mem_of_mem_take hc);obtain ⟨q,hq⟩:∃q,q=decide (qcO (b.take n4)=b.take nn):=⟨_,rfl⟩;have c7:=Lib.hid hq;have bo:(b.take n4).length<=10000000:=(by rw [List.length_take,<-HN.out];omega);have db:Hid (∀w',Below w8.heap.size w8 w'->Calls Tryz.prog 66 #[.slice (some ⟨g,o,none⟩) n4 c] w' fun e w''=>∃A3 n3 c3,e=.returned (.slice A3 n3 c3)∧OwnG EB 5 w'' w8.heap.size (.slice A3 n3 c3) (b.take n4)∧Below w8.heap.size w8 w''):=fun w' h=>by
        have h1:RdG EB w' w'.heap.size (.slice (some ⟨g,o,none⟩) n4 c) (b.take n4):=(HR.out.on (az.trans (h.mono az.size))).cutTo HN.out a7;refine (qa2 _ _ w' h1 (by omega)).mono ?_;rintro e w'' ⟨vA,h2,h3,h4⟩;obtain ⟨A3,n3,c3,rfl⟩:=h3.sl;exact ⟨A3,n3,c3,h2,h3.lower h.size,h.trans (h4.mono h.size)⟩
       have cw:Hid (∀w' vA,Below w8.heap.size w8 w'->OwnG EB 5 w' w8.heap.size vA (b.take n4)->Calls Tryz.prog 67 #[vA] w' fun e w''=>∃A3 n3 c3,e=.returned (.slice A3 n3 c3)∧OwnG EB 5 w'' w8.heap.size (.slice A3 n3 c3) (qcO (b.take n4))∧Below w8.heap.size w8 w''):=fun w' vA h hO=>by
        refine (qgP vA _ w8.heap.size w' (c4.out.below (az.trans (h.mono az.size))) hO h.size (bz n4) (by omega)).mono ?_;rintro e w'' ⟨vS,h2,h3⟩;obtain ⟨A3,n3,c3,rfl⟩:=h3.own.sl;exact ⟨A3,n3,c3,h2,h3.own,hO.step h h.size h3.by_⟩
       have de:Hid (∀w' vS,Below w8.heap.size w8 w'->OwnG EB 5 w' w8.heap.size vS (qcO (b.take n4))->Calls Tryz.prog 74 #[vS,.slice (some ⟨g,o,none⟩) nn c] w' fun e w''=>e=.returned (.bool q)∧Below w8.heap.size w8 w''):=fun w' vS h hO=>by
        have h1:RdG EB w' w'.heap.size (.slice (some ⟨g,o,none⟩) nn c) (b.take nn):=(HR.out.on (az.trans (h.mono az.size))).cutTo HN.out a6;refine (qhD vS _ _ _ w' hO.rd h1 (by rw [qeB];omega)).mono ?_;rintro e w'' ⟨h2,h3⟩;exact ⟨by rw [h2,hq],h.trans (h3.below.mono h.size)⟩
       have b8:Hid (nn=1+kk+u+4∧n4=1+kk+u):=⟨a1,cm⟩;have HM:=Lib.hid hm;clear hm bt dc a1 cm a7 a6 b0 b1 b2 b3 aj av au cd az bz hq bo;go_wp2_with fail;rw [<-a3];clear a3 e0 e2 g0 cv
       go_region_held3 (fun _=>True) (trivial)
        (first
          |(go_at_call 66;refine (db.out _ (by repeat (first|assumption|exact Below.refl _ _|refine Below.drew ?_))).mono ?_;rintro e wA ⟨A5,n5,c5,rfl,cs,ds⟩;have dk:=Lib.hid cs;clear cs)
          |(go_at_call 67;refine (cw.out _ _ (by repeat (first|assumption|exact Below.refl _ _|refine Below.drew ?_)) dk.out).mono ?_;rintro e wB ⟨A6,n6,c6,rfl,ch,dv⟩;have da:=Lib.hid ch;clear ch)
          |(go_at_call 74;refine (de.out _ _ (by repeat (first|assumption|exact Below.refl _ _|refine Below.drew ?_)) da.out).mono ?_;rintro e wC ⟨rfl,ao⟩))
       have ah:Hid (Below w8.heap.size w8 wC):=ao;obtain ⟨ev,co⟩:∃ev:Int,ev=if q then 0 else 50:=⟨_,rfl⟩
       have cb:NxD W G u m kd 0 D wC:=⟨RA,rc,qat ar.out.1 ao,qat ar.out.2.1 ao,qat ar.out.2.2.1 ao,qat ar.out.2.2.2 ao,bl.out.on ao,bm.out.on ao,bk.out.trans (ao.mono bk.out.size)⟩;have b4:=Lib.hid cb;have bs:=Lib.hid co;clear cb ao co
       go_upto_if 59 with fail
       go_cut [6] from 60 to 64 (fun s6 wx=>s6=.int .u64 (u:Int)∧Hid (NxD W G u m kd ev D wx))
       case first=>
        have he:=bs.out;cases q with
        | true =>
          have ax:ev=0:=(by simpa using he);have bq:=Lib.hid ax;clear he ax;go_wp2_with fail;go_meet;exact ⟨rfl,by rw [bq.out];exact b4.out⟩
        | false =>
          have ax:ev=50:=(by simpa using he);have bq:=Lib.hid ax;obtain ⟨RA2,rc2,b0,b1,b2,b3,aj,av,au⟩:=b4.out;have c3:=b3.cell;have f3:=b3.frozen;have cx:Hid (NxD W G u m kd 50 D (wC.setCell ⟨W.heap.size+1+1+1,0,none⟩ (.int .i64 50))):=
           ⟨RA2,rc2,qaf b0 (by omega) _,qaf b1 (by omega) _,qaf b2 (by omega) _,b3.set _,aj.setBox b3 (fun x=>qdn (fun n e=>by cases e)) _,av.setBox b3 (fun x=>qdn (fun n e=>by cases e)) _,au.setCell (by simp <;>omega) _⟩
          clear he ax b0 b1 b2 b3 aj av au;go_wp2_with fail;go_meet;exact ⟨rfl,by rw [bq.out];exact cx.out⟩
       case rest=>
        obtain ⟨rfl,b9⟩:=hcut;obtain ⟨RA2,rc2,b0,b1,b2,b3,aj,av,au⟩:=b9.out;have k0:=b0.cell;have k1:=b1.cell;have k2:=b2.cell;have k3:=b3.cell;have dr:m<=10000000:=(by have :=HM.out;have :=bj.out;have :=cl.out;omega);have dg:Hid (Calls Tryz.prog 66 #[.slice RA2 m rc2] wc.drew fun e w'=>∃A9 n9 c9,e=.returned (.slice A9 n9 c9)∧OwnG EB 5 w' wc.heap.size (.slice A9 n9 c9) (D.drop (u+4))∧Below wc.drew.heap.size wc.drew w'):=
         (qa2 _ _ wc.drew av (by rw [List.length_drop,<-HL.out];have :=bj.out;have :=cl.out;omega)).mono fun e w' ⟨v9,h1,h2,h3⟩=>by
           obtain ⟨A9,n9,c9,rfl⟩:=h2.sl;exact ⟨A9,n9,c9,h1,h2,h3⟩
        clear b9 av;go_wp2_with fail;refine wp_region_noPanic ?_;refine wp_region_held_drew (S:=fun w'=>w'.cell? ⟨W.heap.size,0,none⟩=some (.int .i64 (kd:Int))∧w'.cell? ⟨W.heap.size+1,0,none⟩=some (.slice (some ⟨G,0,none⟩) u u)∧w'.cell? ⟨W.heap.size+1+1+1,0,none⟩=some (.int .i64 ev)) (by kernel_rfl) ?_ (fun hHeld=> ?_)
        ·(try dsimp only)
         exact ⟨k0,k1,k3⟩
        refine qpg (i:=0) (v:= ?_) rfl (by kernel_rfl) (by kernel_rfl) (by kernel_rfl) (fun _ _ _ h=>h) (by rfl) ?_ (by assumption) ?_;rotate_left
        ·(intro w a5;(try dsimp only at a5);go_simp;try with_reducible rfl)
        simp only [Act.put,sA,sZ,sS];refine qpg (i:=1) (v:= ?_) rfl (by kernel_rfl) (by kernel_rfl) (by kernel_rfl) (fun _ _ _ h=>h) (by rfl) ?_ (by assumption) ?_;rotate_left
        ·(intro w a5;(try dsimp only at a5);go_simp;try with_reducible rfl)
        simp only [Act.put,sA,sZ,sS];refine qpg (i:=4) (v:= ?_) rfl (by kernel_rfl) (by kernel_rfl) (by kernel_rfl) (fun _ _ _ h=>h) (by rfl) ?_ (by assumption) ?_;rotate_left
        ·(intro w a5;(try dsimp only at a5);go_simp;try with_reducible rfl)
        simp only [Act.put,sA,sZ,sS];refine qjX (i:=2) rfl (by kernel_rfl) (by rfl) (fun K hK=> ?_)
        go_simp
        refine hK.out _ _ ?_ (fun hHeld=> ?_)
        ·(try dsimp only)
         exact ⟨k0,k1,k3⟩
        clear hK K
        try simp only [Act.put,sA,sZ,sS]
        refine qjX (i:=3) rfl (by kernel_rfl) (by rfl) (fun K hK=> ?_)
        go_simp
        refine (dg.out).mono ?_;rintro e w9 ⟨A9,n9,c9,rfl,b5,ab⟩;have y0:=qch b0 ab;have y1:=qch b1 ab;have y2:=qch b2 ab;have y3:=qch b3 ab;have a9:RdG EB w9 w9.heap.size (.slice (some ⟨G,0,none⟩) u u) (D.take u):=RdG.on (w:=wc.drew) aj ab;obtain ⟨x1,x2,x3,x4,cq,bv,b6,bw,hS,t1,t2,t4,a8,cf,ce⟩:=qpw y0 y1 y2 y3 a9 (b5.lower au.size) (qfL au ab);have bf:=hS x1 (.inl rfl);have ci:=hS x2 (.inr (.inl rfl));have ba:=hS x3 (.inr (.inr (.inl rfl)));have cn:=hS x4 (.inr (.inr (.inr rfl)));have z0:=y0.cell;have z0f:=y0.frozen;have z1:=bf.2.1.cell;have z1f:=bf.2.1.frozen;have z2:=t2.cell;have z2f:=t2.frozen;have z3:=ba.2.2.cell;have z3f:=ba.2.2.frozen;have HX:=Lib.hid (And.intro cq (And.intro bv (And.intro b6 bw)));have ad:=Lib.hid (And.intro bf (And.intro ci (And.intro ba cn)));have bu:=Lib.hid (And.intro y0 (And.intro y1 y3));have cr:=Lib.hid t4;have aw:=Lib.hid (And.intro a8 (And.intro cf ce));clear cq bv b6 bw hS bf ci ba cn t1 t2 t4 a8 cf ce a9 b5 y0 y1 y2 y3 ab;refine hK.out _ _ ?_ (fun hHeld=> ?_)
        ·(try dsimp only)
         exact ⟨bu.out.1.cell,bu.out.2.1.cell,bu.out.2.2.cell⟩
        clear hK K
        try simp only [Act.put,sA,sZ,sS]
        refine qjX (i:=5) rfl (by kernel_rfl) (by rfl) (fun K hK=> ?_)
        go_simp
        rw [<-HX.out.1];refine hK.out _ _ ?_ (fun hHeld=> ?_)
        ·(try dsimp only)
         exact ⟨ad.out.1.1.cell,ad.out.1.2.1.cell,ad.out.1.2.2.cell⟩
        clear hK K
        try simp only [Act.put,sA,sZ,sS]
        refine qjX (i:=6) rfl (by kernel_rfl) (by rfl) (fun K hK=> ?_)
        go_simp
        rw [<-HX.out.2.1];refine hK.out _ _ ?_ (fun hHeld=> ?_)
        ·(try dsimp only)
         exact ⟨ad.out.2.1.1.cell,ad.out.2.1.2.1.cell,ad.out.2.1.2.2.cell⟩
        clear hK K
        try simp only [Act.put,sA,sZ,sS]
        refine qjX (i:=7) rfl (by kernel_rfl) (by rfl) (fun K hK=> ?_)
        go_simp
        rw [<-HX.out.2.2.1];refine hK.out _ _ ?_ (fun hHeld=> ?_)
        ·(try dsimp only)
         exact ⟨ad.out.2.2.1.1.cell,ad.out.2.2.1.2.1.cell,ad.out.2.2.1.2.2.cell⟩
        clear hK K
        try simp only [Act.put,sA,sZ,sS]
        refine qjX (i:=8) rfl (by kernel_rfl) (by rfl) (fun K hK=> ?_)
        go_simp
        rw [<-HX.out.2.2.2];refine hK.out _ _ ?_ (fun hHeld=> ?_)
        ·(try dsimp only)
         exact ⟨ad.out.2.2.2.1.cell,ad.out.2.2.2.2.1.cell,ad.out.2.2.2.2.2.cell⟩
        clear hK K
        try simp only [Act.put,sA,sZ,sS]
        refine wpAnyH_done (by kernel_rfl) ?_ _;refine NoPanic.normal ?_;go_wp2_with fail;have ay:qcO (b.take (1+kk+u))=b.take (1+kk+u+4)↔q=true:=(by rw [c7.out,decide_eq_true_eq,b8.out.1,b8.out.2]);have cc:qap b=if q=true then (0,kd,D.take u,D.drop (u+4)) else (50,0,[],[]):=by
         unfold qap;rw [if_neg bb.out,<-HT.out,if_neg (by simp),if_neg (show ¬65535<u by omega),if_neg (by rw [<-cp.out,<-HL.out];have :=ap.out;omega),<-cp.out,<-dh.out];simp only [ay]
        have cg:=Lib.hid cc;clear cc ay;cases q with
        | true =>
          have ax:ev=0:=(by simpa using bs.out);subst ax;have HD:Hid (qap b=(0,kd,D.take u,D.drop (u+4))):=(by show _=_;rw [cg.out,if_pos rfl]);have d0:=ad.out.2.2.2.1.cell;have d1:=ad.out.2.2.2.2.1.cell;have d2:=cr.out.cell;have d3:=ad.out.2.2.2.2.2.cell;refine leaves_cons (f:=72) (args:= #[.pointer (some ⟨W.heap.size+1+1+1,0,none⟩),.pointer (some ⟨W.heap.size,0,none⟩),.pointer (some ⟨W.heap.size+1,0,none⟩),.pointer (some ⟨W.heap.size+1+1,0,none⟩)]) (by simp) (by simp [go_sem]) ?_;refine (qkd _ _ _ _ _ _ d3).mono ?_;rintro e u' w'' ⟨rfl,rfl,rfl⟩;exact ⟨.tuple #[.int .i64 (kd:Int),.slice (some ⟨G,0,none⟩) u u,.slice A9 n9 c9,.int .i64 0],by unfold results;rw [hr];go_simp,⟨_,_,by rw [HD.out],aw.out.2.2,by rw [if_pos (by rw [HD.out]),HD.out];exact ⟨aw.out.1,aw.out.2.1⟩⟩⟩
        | false =>
          have ax:ev=50:=(by simpa using bs.out);subst ax;have HD:Hid (qap b=(50,0,[],[])):=(by show _=_;rw [cg.out,if_neg (by simp)]);have q0:Boxed x4 W.heap.size 3 (.int .i64 (kd:Int)):=ad.out.2.2.2.1;have q1:Boxed x4 (W.heap.size+1) 23 (.slice (some ⟨G,0,none⟩) u u):=ad.out.2.2.2.2.1;have q2:Boxed x4 (W.heap.size+1+1) 23 (.slice A9 n9 c9):=cr.out;have q3:Boxed x4 (W.heap.size+1+1+1) 26 (.int .i64 50):=ad.out.2.2.2.2.2;obtain ⟨w9,ae,d0,d1,d2,d3,ab⟩:=qfb q0 q1 q2 q3 aw.out.2.2;refine leaves_cons (f:=72) (args:= #[.pointer (some ⟨W.heap.size+1+1+1,0,none⟩),.pointer (some ⟨W.heap.size,0,none⟩),.pointer (some ⟨W.heap.size+1,0,none⟩),.pointer (some ⟨W.heap.size+1+1,0,none⟩)]) (by simp) (by simp [go_sem]) ?_;refine (qbZ _ _ _ _ 50 _ _ _ _ _ q0 q1 q2 q3 (by decide) (by omega) (by omega) (by omega)).mono ?_;rintro e u' w'' ⟨rfl,rfl,h9⟩;rw [<-ae] at h9;subst h9;clear ae;have ah:=Lib.hid ab;clear q0 q1 q2 q3 ab;exact ⟨.tuple #[.int .i64 0,.slice none 0 0,.slice none 0 0,.int .i64 50],by unfold results;rw [hr];go_simp,⟨_,_,by rw [HD.out];rfl,ah.out,by rw [if_neg (by rw [HD.out];exact (by decide))];exact ⟨rfl,rfl⟩⟩⟩
   ·have HD:Hid (qap b=(er,0,[],[])):=by
     show _=_;unfold qap;rw [if_neg bb.out,<-HT.out,if_pos he]
    have g1:(er != 0)=true:=(by simp [he]);have HE:=Lib.hid he;rw [if_neg he] at K1;clear he
    go_enter_defers Tryz.func41,Tryz.ntmps41
    go_wp2_with fail;rw [<-ai];clear ai;refine K1.out.mono ?_;rintro e w1 ⟨r,rfl,hB,af⟩;rw [if_neg HE.out] at af;subst af;have am:Hid (Below W.heap.size W w1):=an.out.trans (hB.mono an.out.size);have aa:=Lib.hid (And.intro (qat ac.out.1 hB) (And.intro (qat ac.out.2.1 hB) (And.intro (qat ac.out.2.2.1 hB) (qat ac.out.2.2.2 hB))));have c3:=aa.out.2.2.2.cell;have f3:=aa.out.2.2.2.frozen;have c0:=aa.out.1.cell;have f0:=aa.out.1.frozen;have c1:=aa.out.2.1.cell;have f1:=aa.out.2.1.frozen;have c2:=aa.out.2.2.1.cell;have f2:=aa.out.2.2.1.frozen;clear hB K1;go_wp2_with fail;go_region;go_wp2_with fail;obtain ⟨w5,ak,HQ,al⟩:=qfI er er aa.out.1 aa.out.2.1 aa.out.2.2.1 aa.out.2.2.2 am.out;rw [<-ak];have HQ:=Lib.hid HQ;have a0:=Lib.hid al.drew;clear ak al c0 c1 c2 c3 f0 f1 f2 f3;have q0:Boxed w5.drew W.heap.size 3 (.int .i64 0):=HQ.out.1;have q1:Boxed w5.drew (W.heap.size+1) 23 (.slice none 0 0):=HQ.out.2.1;have q2:Boxed w5.drew (W.heap.size+1+1) 23 (.slice none 0 0):=HQ.out.2.2.1;have q3:Boxed w5.drew (W.heap.size+1+1+1) 26 (.int .i64 er):=HQ.out.2.2.2;obtain ⟨w9,ae,d0,d1,d2,d3,ab⟩:=qfb q0 q1 q2 q3 a0.out;refine leaves_cons (f:=72) (args:= #[.pointer (some ⟨W.heap.size+1+1+1,0,none⟩),.pointer (some ⟨W.heap.size,0,none⟩),.pointer (some ⟨W.heap.size+1,0,none⟩),.pointer (some ⟨W.heap.size+1+1,0,none⟩)]) (by simp) (by simp [go_sem]) ?_;refine (qbZ _ _ _ _ er _ _ _ _ _ q0 q1 q2 q3 HE.out (by omega) (by omega) (by omega)).mono ?_;rintro e u' w'' ⟨rfl,rfl,h9⟩
    rw [<-ae] at h9;subst h9;clear ae;have ah:=Lib.hid ab;clear q0 q1 q2 q3 ab;exact ⟨.tuple #[.int .i64 0,.slice none 0 0,.slice none 0 0,.int .i64 er],by unfold results;rw [hr];go_simp,⟨_,_,by rw [HD.out];rfl,ah.out,by rw [if_neg (by rw [HD.out];exact HE.out)];exact ⟨rfl,rfl⟩⟩⟩
end Go.Proofs.YtnkelahimiipjaaGreatDoor
