/-
 varint: TakeAll.
-/
import Derived.Test.YtnkelahimiipjaaGreatDoorCqt
import Derived.Test.YtnkelahimiipjaaGreatDoorJrt
set_option maxRecDepth 100000
set_option maxHeartbeats 8000000
namespace Go.Proofs.YtnkelahimiipjaaGreatDoor
open Go.RowKit Go.Sort
attribute [local go_sem] Oper.semAt_some
theorem KpT.belowD {kt:TypeId->Bool} {Z:Nat} {A B:World} (h:Below A.drew.heap.size A.drew B) (hz:Z<=A.heap.size):KpT kt Z A B:=
 ⟨(Below.refl Z A).drew.trans (h.mono hz),fun k _ hk _=>(h.block k (Array.getElem?_eq_some_iff.1 hk).1).trans hk⟩
structure TkI (W:World) (bv:Value) (n:Nat) (b:List Nat) (k:Nat) (W1:World):Prop where
 out:∃ov,Boxed W1 (W.heap.size+1+1+1+1+1) 73 ov∧OwnG EI 2 W1 W.heap.size ov (qac k b).2.1
 ok:(qac k b).1=0
 lt:k<n
 b:Boxed W1 W.heap.size 23 bv
 n:Boxed W1 (W.heap.size+1) 3 (.int .i64 (n:Int))
 r1:Boxed W1 (W.heap.size+1+1) 73 (.slice none 0 0)
 r2:Boxed W1 (W.heap.size+1+1+1) 23 (.slice none 0 0)
 r3:Boxed W1 (W.heap.size+1+1+1+1) 26 (.int .i64 0)
 below:Below W.heap.size W W1
theorem TkI.putLoop {W A:World} {bv:Value} {n k l:Nat} {b:List Nat} {r:Loop} (h:TkI W bv n b k A) (hl:A.heap[l]? =some (.loop r)) (hz:W.heap.size<=l) (o:Obj):TkI W bv n b k (A.putObj l o):=by
 obtain ⟨⟨ov,h1,h2⟩,h3,h4,h5,h6,h7,h8,h9,aa⟩:=h;exact ⟨⟨ov,qaP h1 hl o,h2.putO o hl rfl⟩,h3,h4,qaP h5 hl o,qaP h6 hl o,qaP h7 hl o,qaP h8 hl o,qaP h9 hl o,qbN aa hz o⟩
theorem TkI.on {W A A':World} {bv:Value} {n k:Nat} {b:List Nat} (h:TkI W bv n b k A) (hB:Below A.heap.size A A'):TkI W bv n b k A':=by
 obtain ⟨⟨ov,h1,h2⟩,h3,h4,h5,h6,h7,h8,h9,aa⟩:=h;exact ⟨⟨ov,qat h1 hB,h2.below hB⟩,h3,h4,qat h5 hB,qat h6 hB,qat h7 hB,qat h8 hB,qat h9 hB,aa.trans (hB.mono aa.size)⟩
def TkR (W:World) (n:Nat) (b:List Nat) (xv rv:Value) (er:Int) (W1:World):Prop:=
 er=(qac n b).1∧Below W.heap.size W W1∧if (qac n b).1=0 then OwnG EI 2 W1 W.heap.size xv (qac n b).2.1∧OwnG EB 5 W1 W.heap.size rv (qac n b).2.2 else xv=.slice none 0 0∧rv=.slice none 0 0
def TkX (W:World) (n:Nat) (b:List Nat) (W1:World):Prop:=
 ∃xv rv er,Boxed W1 (W.heap.size+1+1) 73 xv∧Boxed W1 (W.heap.size+1+1+1) 23 rv∧Boxed W1 (W.heap.size+1+1+1+1) 26 (.int .i64 er)∧TkR W n b xv rv er W1
theorem TkX.put {W A:World} {n l:Nat} {b:List Nat} {o0:Obj} (h:TkX W n b A) (hl:A.heap[l]? =some o0) (ho:o0.isCells=false) (hz:W.heap.size<=l) (o:Obj):TkX W n b (A.putObj l o):=by
 obtain ⟨xv,rv,er,h1,h2,h3,h4,h5,h6⟩:=h;refine ⟨xv,rv,er,qdF h1 hl ho o,qdF h2 hl ho o,qdF h3 hl ho o,h4,qbN h5 hz o, ?_⟩
 split
 case isTrue e=>rw [if_pos e] at h6;exact ⟨h6.1.putO o hl ho,h6.2.putO o hl ho⟩
 case isFalse e=>rw [if_neg e] at h6;exact h6
theorem TkI.push {W A A':World} {bv ov v':Value} {n k:Nat} {b:List Nat} {L:List Int} {z:Int} {tmp:Obj} (h:TkI W bv n b k A) (o1:Boxed A (W.heap.size+1+1+1+1+1) 73 ov) (o2:OwnG EI 2 A W.heap.size ov L)
  (hown:OwnG EI 2 A' W.heap.size v' (L++[z])) (hg:(A.alloc tmp).grownBy A' ov.ownBlock) (hok:(qac (k+1) b).1=0) (hL:(qac (k+1) b).2.1=L++[z]):
  Boxed A' (W.heap.size+1+1+1+1+1) 73 ov∧(∃w9,w9=A'.setCell ⟨W.heap.size+1+1+1+1+1,0,none⟩ v'∧KpT ktN W.heap.size A w9∧Boxed w9 (W.heap.size+1+1+1+1+1) 73 v'∧OwnG EI 2 w9 W.heap.size v' (L++[z])∧
   Boxed w9 W.heap.size 23 bv∧Boxed w9 (W.heap.size+1) 3 (.int .i64 (n:Int))∧Boxed w9 (W.heap.size+1+1) 73 (.slice none 0 0)∧Boxed w9 (W.heap.size+1+1+1) 23 (.slice none 0 0)∧Boxed w9 (W.heap.size+1+1+1+1) 26 (.int .i64 0)∧Below W.heap.size W w9∧(k+1<n->TkI W bv n b (k+1) w9)):=by
 obtain ⟨_,h3,h4,h5,h6,h7,h8,h9,ab⟩:=h;have hz:=ab.size;have b5:=qaG (o1.alloc tmp) hg (o2.alloc tmp) (by decide);have c0:=qaG (h5.alloc tmp) hg (o2.alloc tmp) (by decide);have c1:=qaG (h6.alloc tmp) hg (o2.alloc tmp) (by decide);have c2:=qaG (h7.alloc tmp) hg (o2.alloc tmp) (by decide);have c3:=qaG (h8.alloc tmp) hg (o2.alloc tmp) (by decide);have c4:=qaG (h9.alloc tmp) hg (o2.alloc tmp) (by decide);have ae:KpT ktN W.heap.size A (A.alloc tmp):=KpT.below ((Below.refl _ _).alloc (Nat.le_refl _) _) hz;have ad:KpT ktN W.heap.size (A.alloc tmp) A':=KpT.grown hg (by simp;omega) (fun k e=>by
  obtain ⟨q1,c,z,q2⟩:=(o2.alloc tmp).cellsAt k e;exact ⟨q1,c,_,z,q2,rfl⟩)
 have af:KpT ktN W.heap.size A' (A'.setCell ⟨W.heap.size+1+1+1+1+1,0,none⟩ v'):=KpT.setCell (e:=73) b5 rfl (by omega) _ _;have aa:=(ae.trans ad).trans af;have d0:=qaf c0 (B':=W.heap.size+1+1+1+1+1) (by omega) v';have d1:=qaf c1 (B':=W.heap.size+1+1+1+1+1) (by omega) v';have d2:=qaf c2 (B':=W.heap.size+1+1+1+1+1) (by omega) v';have d3:=qaf c3 (B':=W.heap.size+1+1+1+1+1) (by omega) v';have d4:=qaf c4 (B':=W.heap.size+1+1+1+1+1) (by omega) v';have d5:=b5.set v';have ho:=hown.set b5 (by decide) v';have hb:=ab.trans aa.1;exact ⟨b5,_,rfl,aa,d5,ho,d0,d1,d2,d3,d4,hb,fun ac=>⟨⟨_,d5,by rw [hL];exact ho⟩,hok,ac,d0,d1,d2,d3,d4,hb⟩⟩
theorem TkX.on {W A A':World} {n:Nat} {b:List Nat} (h:TkX W n b A) (hB:Below A.heap.size A A'):TkX W n b A':=by
 obtain ⟨xv,rv,er,h1,h2,h3,h4,h5,h6⟩:=h;refine ⟨xv,rv,er,qat h1 hB,qat h2 hB,qat h3 hB,h4,h5.trans (hB.mono h5.size), ?_⟩
 split
 case isTrue e=>rw [if_pos e] at h6;exact ⟨h6.1.below hB,h6.2.below hB⟩
 case isFalse e=>rw [if_neg e] at h6;exact h6
theorem qiU {W w8:World} {n:Nat} {b:List Nat} {xv rv x1 x2 x3:Value} {er:Int} (b1:Boxed w8 (W.heap.size+1+1) 73 x1) (b2:Boxed w8 (W.heap.size+1+1+1) 23 x2) (b3:Boxed w8 (W.heap.size+1+1+1+1) 26 x3) (hR:TkR W n b xv rv er w8):
  KpT (fun _=>true) W.heap.size w8 (((w8.setCell ⟨W.heap.size+1+1,0,none⟩ xv).setCell ⟨W.heap.size+1+1+1,0,none⟩ rv).setCell ⟨W.heap.size+1+1+1+1,0,none⟩ (.int .i64 er))∧
  TkX W n b (((w8.setCell ⟨W.heap.size+1+1,0,none⟩ xv).setCell ⟨W.heap.size+1+1+1,0,none⟩ rv).setCell ⟨W.heap.size+1+1+1+1,0,none⟩ (.int .i64 er)):=by
 have s1:=b1.set xv;have t2:=qaf b2 (B':=W.heap.size+1+1) (by omega) xv;have t3:=qaf b3 (B':=W.heap.size+1+1) (by omega) xv;have u3:=qaf t3 (B':=W.heap.size+1+1+1) (by omega) rv;obtain ⟨h1,h2,h3⟩:=hR;refine ⟨((KpT.setCell (e:=73) b1 rfl (by omega) _ _).trans (KpT.setCell (e:=23) t2 rfl (by omega) _ _)).trans (KpT.setCell (e:=26) u3 rfl (by omega) _ _),_,_,_,qaf (qaf s1 (by omega) _) (by omega) _,qaf (t2.set _) (by omega) _,u3.set _,h1,((h2.setCell (by simp <;>omega) _).setCell (by simp <;>omega) _).setCell (by simp <;>omega) _, ?_⟩
 split
 case isTrue e=>rw [if_pos e] at h3;exact ⟨((h3.1.set b1 (by decide) _).set t2 (by decide) _).set u3 (by decide) _,((h3.2.set b1 (by decide) _).set t2 (by decide) _).set u3 (by decide) _⟩
 case isFalse e=>rw [if_neg e] at h3;exact h3
theorem qgl (A:Option Addr) (n c:Nat) (W:World):Calls Tryz.prog 104 #[.slice A n c] W fun e w'=>e=.returned (.func (.func 119) #[] #[.pointer (some ⟨W.heap.size,0,none⟩)])∧w'=W.alloc (.cells #[.slice A n c] 23):=by
 have aa:∀(fn:Fn) (first cap:Array Value) (w:World),(Instr.makeFunc fn first cap).run Tryz.prog w=.ok (.func fn first cap) w:=fun _ _ _ _=>rfl;go_enter Tryz.func104,Tryz.ntmps104;go_wp2_with fail;go_ret;exact ⟨rfl,rfl⟩
theorem qdH (v : Value) (b : List Nat) (n : Nat) (W : World) (hR : RdG EB W W.heap.size v b) (hF : Flat v) (h8 : ∀ c ∈ b, c < 256) (hb : b.length <= 1000000000) (hn : n <= 1048576) :
  Calls Tryz.prog 77 #[v,.int .i64 (n:Int)] W fun e w'=>∃xv rv er,e=.returned (.tuple #[xv,rv,.int .i64 er])∧TkR W n b xv rv er w':=by
 have hr:Tryz.f77.results= #[.cell 4 73,.cell 5 23,.cell 6 26]:=by kernel_rfl
 have b4:∀(fn:Fn) (first cap:Array Value) (w:World),(Instr.makeFunc fn first cap).run Tryz.prog w=.ok (.func fn first cap) w:=fun _ _ _ _=>rfl;refine (callsIn_wide (n:=20)).1 ?_;have bz:Fence.wide.fn 104:=trivial;have bo:Fence.wide.fn 66:=trivial;have g1:¬(n:Int)<0:=by omega
 have g2:¬(n:Int)>1048576:=by omega
 obtain ⟨A,c,rfl,hc,bf,hA⟩:=id hR;obtain ⟨N,hN⟩:∃N,N=b.length:=⟨_,rfl⟩;rw [<-hN] at hc hb hR hF ⊢;have HN:=Lib.hid hN;have HR:=Lib.hid hR;have HF:=Lib.hid hF;have H8:=Lib.hid h8;clear hA bf hR hF h8 hN;refine callsIn_of_wp_marks Tryz.func77 rfl trivial ?_ rfl;simp only [Tryz.ntmps77,List.size_toArray,List.length_cons,List.length_nil,Nat.reduceAdd,Nat.reduceSub,Array.replicate_succ,Array.replicate_zero,List.push_toArray,List.append_toArray,List.nil_append,List.cons_append];by_cases h0:n=0
 ·subst h0;have KC:Hid (∀w,Below W.heap.size W w->CallsIn Fence.wide 19 Tryz.prog 66 #[.slice A N c] w fun e w'=>∃v',e=.returned v'∧OwnG EB 5 w' w.heap.size v' b∧Below w.heap.size w w'):=fun w hw=>callsIn_wide.2 (qa2 _ b w (HR.out.on hw) (by rw [<-HN.out];omega));gi_wp2_with fail;have ah:Below W.heap.size W (((((W.alloc (.cells #[.slice A N c] 23)).alloc (.cells #[.int .i64 0] 3)).alloc (.cells #[.slice none 0 0] 73)).alloc (.cells #[.slice none 0 0] 23)).alloc (.cells #[.int .i64 0] 26)):=
   (((((Below.refl _ W).alloc (Nat.le_refl _) _).alloc (by simp) _).alloc (by simp <;>omega) _).alloc (by simp <;>omega) _).alloc (by simp <;>omega) _
  refine (KC.out _ ah).mono ?_;rintro e w1 ⟨v1,rfl,hO,hB⟩;have HO:Hid (OwnG EB 5 w1 W.heap.size v1 b):=hO.lower (by simp <;>omega);have bi:Hid (Below W.heap.size W w1):=ah.trans (hB.mono (by simp <;>omega));have q1:Boxed w1 (W.heap.size+1+1) 73 (.slice none 0 0):=qat (((qaw _ _ _ (by simp)).alloc _).alloc _) hB;have q2:Boxed w1 (W.heap.size+1+1+1) 23 (.slice none 0 0):=qat ((qaw _ _ _ (by simp)).alloc _) hB;have q3:Boxed w1 (W.heap.size+1+1+1+1) 26 (.int .i64 0):=qat (qaw _ _ _ (by simp)) hB;have bu:=q1.cell;have bw:=q2.cell;have bs:=q3.cell;have bv:=q1.frozen;have bq:=q2.frozen;have bt:=q3.frozen;have HQ:=Lib.hid (And.intro q1 (And.intro q2 q3));obtain ⟨A1,c1,rfl,_⟩:=hO.rd;clear q1 q2 q3;clear hO hB ah KC;gi_wp2_with fail;have HX:=Lib.hid (qiU (n:=0) (b:=b) (xv:=.slice none 0 0) (rv:=.slice A1 b.length c1) (er:=0) HQ.out.1 HQ.out.2.1 HQ.out.2.2 ⟨rfl,bi.out,by
   show if (0:Int)=0 then _ else _
   rw [if_pos rfl];exact ⟨OwnG.nil _ _,HO.out⟩⟩).2
  obtain ⟨xv,rv,er,b1,b2,b3,aw⟩:=HX.out;have d1:=b1.cell;have d2:=b2.cell;have d3:=b3.cell;exact ⟨.tuple #[xv,rv,.int .i64 er],by unfold results;rw [hr];go_simp,xv,rv,er,rfl,aw⟩
 ·have g3 : ((n : Int) == 0) = false := by simp; omega
  have KN:∀w,CallsIn Fence.wide 19 Tryz.prog 104 #[.slice A N c] w fun e w'=>e=.returned (.func (.func 119) #[] #[.pointer (some ⟨w.heap.size,0,none⟩)])∧w'=w.alloc (.cells #[.slice A N c] 23):=fun w=>callsIn_wide.2 (qgl A N c w);gi_wp2_with fail;refine (KN _).mono ?_;rintro e w1 ⟨rfl,ai⟩;have ax:Below W.heap.size W ((((((W.alloc (.cells #[.slice A N c] 23)).alloc (.cells #[.int .i64 (n:Int)] 3)).alloc (.cells #[.slice none 0 0] 73)).alloc (.cells #[.slice none 0 0] 23)).alloc (.cells #[.int .i64 0] 26)).alloc (.cells #[.slice none 0 0] 73)):=
   ((((((Below.refl _ W).alloc (Nat.le_refl _) _).alloc (by simp) _).alloc (by simp <;>omega) _).alloc (by simp <;>omega) _).alloc (by simp <;>omega) _).alloc (by simp <;>omega) _
  have ah:Below W.heap.size W w1:=by rw [ai];exact ax.alloc (by simp <;>omega) _
  have bb:w1.heap.size=W.heap.size+7:=by rw [ai];simp
  have bl:Hid (TkI W (.slice A N c) n b 0 w1):=by
   rw [ai];exact ⟨⟨.slice none 0 0,(qaw _ _ _ (by simp)).alloc _,OwnG.nil _ _⟩,rfl,by omega,(((((((qaw _ _ _ rfl).alloc _).alloc _).alloc _).alloc _).alloc _).alloc _),((((((qaw _ _ _ (by simp)).alloc _).alloc _).alloc _).alloc _).alloc _),(((((qaw _ _ _ (by simp)).alloc _).alloc _).alloc _).alloc _),((((qaw _ _ _ (by simp)).alloc _).alloc _).alloc _),(((qaw _ _ _ (by simp)).alloc _).alloc _),ax.alloc (by simp <;>omega) _⟩
  have bk:w1.heap[W.heap.size+1+1+1+1+1+1]? =some (.cells #[.slice A N c] 23 (0,0)):=by
   rw [ai];exact qaw _ _ _ (by simp)
  clear ai ax;gi_wp2_with fail;refine qoO (kt:=ktN) (Z:=W.heap.size) (N:=b.length+1) (F:=Fence.wide) (n:=20) rfl (by omega) (gf:=119) (lb:= #[.pointer (some ⟨W.heap.size+1+1+1+1+1+1,0,none⟩)]) (by simp [Act.eval]) trivial (enters_of Tryz.func119 (by kernel_rfl) rfl) (encs:=encN) (New:=NewN b) (S:=fun xs=>(qac xs.length b).1≠0) (Sp:=fun _=>True) (w0:=w1) (by omega)
   (qhg W.heap.size 19 _ (.slice A N c) b w1 (by omega) bk (by omega) ((HR.out).below ah) HF.out H8.out (by rw [<-HN.out];exact hb)) (Below.refl _ _) (fun _=>rfl) (fun _ _ _ _ _ _ h _=>h)
   (fun pre W1=>TkI W (.slice A N c) n b pre.length W1) (fun _ W1=>TkX W n b W1) ?hI ?hIx ?h0 (fun x=> { tmps:= #[.slice A N c,.int .i64 (n:Int),.pointer (some ⟨W.heap.size,0,none⟩),.pointer (some ⟨W.heap.size+1,0,none⟩),.pointer (some ⟨W.heap.size+1+1,0,none⟩),.pointer (some ⟨W.heap.size+1+1+1,0,none⟩),.pointer (some ⟨W.heap.size+1+1+1+1,0,none⟩),.pointer (some ⟨W.heap.size+1+1+1+1+1,0,none⟩),.int .i64 x.1,.int .i64 x.2,.int .i64 (n:Int),.bool false,.bool false,.int .i64 (n:Int),.bool false,.bool false,.int .i64 (n:Int),.bool false,undef,undef,.slice A N c,.func (.func 119) #[] #[.pointer (some ⟨W.heap.size+1+1+1+1+1+1,0,none⟩)],.int .i64 x.1,.int .i64 x.2,undef,undef,undef,undef,undef,undef,undef,undef,undef,undef,undef,undef,undef,undef,undef,undef,undef],defers:=[] }) ?assign ?body ?done ?stop
  case hI=>intro s A1 l r o h hl av;exact h.putLoop av (by omega) o
  case hIx=>intro s A1 l r o h hl av;exact h.put av rfl (by omega) o
  case h0=>intro B hB;exact bl.out.on hB
  case assign=>
   intro l x W9 K hK;dsimp only [encN]
   gi_wp2
   exact hK
  case body =>
   rintro l pre x W0 Wb hl br hI bh ad ⟨aj,hx⟩;have hT:=hI.on ad;obtain ⟨k,hk⟩:∃k,k=pre.length:=⟨_,rfl⟩;have HP:Hid (pre.length=k):=hk.symm;rw [<-hk] at aj hx hT;obtain ⟨ov,o1,o2⟩:=hT.out;have h4:=hT.lt;have cn:=hT.n.cell;have cb:=hT.b.cell;have c0:=o1.cell;have c2:=hT.r1.cell;have f2:=hT.r1.frozen;have c3:=hT.r2.cell;have f3:=hT.r2.frozen;have c4:=hT.r3.cell;have f4:=hT.r3.frozen;have al:=qig aj;have ab:=(qan k b aj).2.2.2.1;have HT:=Lib.hid hT;have bn:=hT.below.size;clear hk hT hI ad;rcases al with ⟨a1,a2,a3,a4,a5,a6⟩|⟨a1,a2,a3,a4,a5,a6⟩
   ·obtain ⟨z,hz⟩:∃z,z=zagV (qab (b.drop (atV k b))).2.1:=⟨_,rfl⟩;obtain ⟨t2,aq⟩:∃t,t=atV (k+1) b:=⟨_,rfl⟩;obtain ⟨L,hL⟩:∃L,L=(qac k b).2.1:=⟨_,rfl⟩;rw [<-hz,<-aq] at a2;rw [<-hz,<-hL] at a4;rw [<-hL] at o2 ab;have e:=hx.trans a2;subst e;have HE:=Lib.hid (And.intro a3 a4);have a9:=Lib.hid aq;have an:Hid (t2<=N):=(by show _<=_;rw [aq,HN.out];exact (qan (k+1) b a3).2.1);have i1:¬(t2:Int)<0:=(by omega);have HO:=Lib.hid o2;have au:=Lib.hid o1;obtain ⟨OA,oc,rfl,_⟩:=o2.rd;rw [ab] at c0 HO au;have a7:=Lib.hid ab;have HC:Hid ((#[.int .i64 z]:Array Value).toList=EI.enc z):=rfl;have a8:(L.length+1)*8<=140737488355328:=(by rw [ab];omega);have HW:Hid (W.heap.size<=(Wb.alloc (.cells #[.int .i64 z] 2)).heap.size):=(by show _<=_;simp;omega);clear hz aq hL hx a2 a3 a4 a5 a6 a1 aj ab bh;dsimp only;by_cases hkn:k+1=n
    ·have g4:((k:Int)+1==(n:Int))=true:=(by simp;omega);have ap:=Lib.hid hkn;clear hkn;gi_wp2_with (first|(gi_at_builtin;refine qgB EI rfl _ _ 73 2 rfl Tryz.underlying73 qc5 rfl (by decide) W.heap.size _ L z rfl (HO.out.alloc _) Wb.heap.size 0 1 rfl (CellG.mk HC.out _) a8 HW.out ?_)|fail);intro v' w' aa hg ae;obtain ⟨b5,w9,ao,hK,q5,qo,q0,q1,q2,q3,q4,qb,_⟩:=HT.out.push au.out HO.out aa hg HE.out.1 HE.out.2;obtain ⟨A2,c2',e2,_⟩:=aa.rd;rw [show (L++[z]).length=k+1 by simp [a7.out]] at e2;subst e2;have p5:=b5.cell;have f5:=b5.frozen;have r5:=q5.cell;have rn:=q1.cell;have rb:=q0.cell;have r2:=q2.cell;have s2:=q2.frozen;have r3:=q3.cell;have s3:=q3.frozen;have r4:=q4.cell;have s4:=q4.frozen;have HK:=Lib.hid hK;have HQ:=Lib.hid (And.intro q2 (And.intro q3 (And.intro q4 qo)));have ac:=Lib.hid qb;have ba:=Lib.hid q5;clear aa hg ae b5 q5 qo q0 q1 q2 q3 q4 qb hK c0 c2 c3 c4 cb cn f2 f3 f4;subst ao;have b0:Tryz.prog.follows Departure.mixedOrders=true:=(by kernel_rfl);have bd:(c=t2∧Hid (∀w,Below W.heap.size W w->CallsIn (Fence.wide.inRound l) 17 Tryz.prog 66 #[.slice A 0 0] w fun e w'=>∃A3 n3 c3,e=.returned (.slice A3 n3 c3)∧OwnG EB 5 w' w.heap.size (.slice A3 n3 c3) (b.drop t2)∧Below w.heap.size w w'))∨
       (t2<c∧∃g o,A=some ⟨g,o,none⟩∧Hid (∀w,Below W.heap.size W w->CallsIn (Fence.wide.inRound l) 17 Tryz.prog 66 #[.slice (some ⟨g,o+t2,none⟩) (N-t2) (c-t2)] w fun e w'=>∃A3 n3 c3,e=.returned (.slice A3 n3 c3)∧OwnG EB 5 w' w.heap.size (.slice A3 n3 c3) (b.drop t2)∧Below w.heap.size w w')):=by
      have fin:∀q w,RdG EB w w.heap.size q (b.drop t2)->CallsIn (Fence.wide.inRound l) 17 Tryz.prog 66 #[q] w fun e w'=>∃A3 n3 c3,e=.returned (.slice A3 n3 c3)∧OwnG EB 5 w' w.heap.size (.slice A3 n3 c3) (b.drop t2)∧Below w.heap.size w w':=fun q w hq=>
       CallsIn.inRound l (callsIn_wide.2 ((qa2 q (b.drop t2) w hq (by rw [List.length_drop,<-HN.out];omega)).mono fun e w' ⟨v9,h1,h2,h3⟩=>by
        obtain ⟨A3,c3,e3,_⟩:=id h2.rd;exact ⟨A3,_,c3,by rw [h1,e3],by rw [<-e3];exact h2,h3⟩))
      have am:=an.out;by_cases az:c=t2
      ·left;have e:b.drop t2=[]:=List.drop_eq_nil_of_le (by rw [<-HN.out];omega);exact ⟨az,fun w hw=>fin _ w (by rw [e];exact ⟨A,0,rfl,Nat.le_refl _,fun _=>rfl,.inl rfl⟩)⟩
      ·right;refine ⟨by omega, ?_⟩;cases hA:A with
       | none =>
         obtain ⟨A',c',e',h1,h2,_⟩:=HR.out;injection e' with e1 _ e3;have :=h2 (by rw [<-e1];exact hA);omega
       | some a =>
         obtain ⟨g,o,e⟩:=HF.out a N c (by rw [hA]);subst e;refine ⟨g,o,rfl,fun w hw=>fin _ w ?_⟩;have h:=HR.out.on hw;rw [hA] at h;have h2:=h.cutFrom HN.out am
         rwa [show t2*EB.k=t2 from Nat.mul_one t2] at h2
     have am:=an.out;rcases bd with ⟨az,KC⟩|⟨az,g,o,hA,KC⟩
     ·have bx:N=t2:=(by omega);gi_wp2_with fail
      gi_region_with_o (gi_at_call 66;refine (KC.out _ (by first|exact ac.out|exact ac.out.drew|exact ac.out.drew.drew)).mono ?_;rintro e w8 ⟨A3,n3,c3,rfl,hO,hB⟩;have y2:=qch HQ.out.1 hB;have y3:=qch HQ.out.2.1 hB;have y4:=qch HQ.out.2.2.1 hB;have y5:=qch ba.out hB;have z2:=y2.cell;have z3:=y3.cell;have z4:=y4.cell;have z5:=y5.cell;have v2:=y2.frozen;have v3:=y3.frozen;have v4:=y4.frozen;have HY:=Lib.hid (And.intro y2 (And.intro y3 y4));have ar:=Lib.hid hO;have ag:=Lib.hid hB;clear y2 y3 y4 y5 hO hB)
      all_goals
       gi_wp2_with fail;have a0:TkR W n b (.slice A2 (k+1) c2') (.slice A3 n3 c3) 0 w8:=by
        refine ⟨by rw [<-ap.out];exact HE.out.1.symm,qfL ac.out ag.out, ?_⟩;rw [<-ap.out,if_pos HE.out.1,HE.out.2,(qan (k+1) b HE.out.1).2.2.1,<-a9.out];exact ⟨qnX HQ.out.2.2.2 ag.out,ar.out.lower (by have :=ac.out.size;simpa using this)⟩
       have af:=qiU HY.out.1 HY.out.2.1 HY.out.2.2 a0;exact ⟨(HK.out.all.trans (KpT.belowD ag.out (by have :=ac.out.size;simpa using this))).trans af.1,af.2⟩
     ·subst hA;have bc:t2≠c:=(by omega);gi_wp2_with fail
      gi_region_with_o (gi_at_call 66;refine (KC.out _ (by first|exact ac.out|exact ac.out.drew|exact ac.out.drew.drew)).mono ?_;rintro e w8 ⟨A3,n3,c3,rfl,hO,hB⟩;have y2:=qch HQ.out.1 hB;have y3:=qch HQ.out.2.1 hB;have y4:=qch HQ.out.2.2.1 hB;have y5:=qch ba.out hB;have z2:=y2.cell;have z3:=y3.cell;have z4:=y4.cell;have z5:=y5.cell;have v2:=y2.frozen;have v3:=y3.frozen;have v4:=y4.frozen;have HY:=Lib.hid (And.intro y2 (And.intro y3 y4));have ar:=Lib.hid hO;have ag:=Lib.hid hB;clear y2 y3 y4 y5 hO hB)
      all_goals
       gi_wp2_with fail;have a0:TkR W n b (.slice A2 (k+1) c2') (.slice A3 n3 c3) 0 w8:=by
        refine ⟨by rw [<-ap.out];exact HE.out.1.symm,qfL ac.out ag.out, ?_⟩;rw [<-ap.out,if_pos HE.out.1,HE.out.2,(qan (k+1) b HE.out.1).2.2.1,<-a9.out];exact ⟨qnX HQ.out.2.2.2 ag.out,ar.out.lower (by have :=ac.out.size;simpa using this)⟩
       have af:=qiU HY.out.1 HY.out.2.1 HY.out.2.2 a0;exact ⟨(HK.out.all.trans (KpT.belowD ag.out (by have :=ac.out.size;simpa using this))).trans af.1,af.2⟩
    ·have g4:((k:Int)+1==(n:Int))=false:=(by simp;omega);gi_wp2_with (first|(gi_at_builtin;refine qgB EI rfl _ _ 73 2 rfl Tryz.underlying73 qc5 rfl (by decide) W.heap.size _ L z rfl (HO.out.alloc _) Wb.heap.size 0 1 rfl (CellG.mk HC.out _) a8 HW.out ?_)|fail);intro v' w' aa hg ae;obtain ⟨b5,w9,ao,hK,q5,qo,q0,q1,q2,q3,q4,qb,qI⟩:=HT.out.push au.out HO.out aa hg HE.out.1 HE.out.2;obtain ⟨A2,c2',e2,_⟩:=aa.rd;rw [show (L++[z]).length=k+1 by simp [a7.out]] at e2;subst e2;have p5:=b5.cell;have f5:=b5.frozen;have r5:=q5.cell;have rn:=q1.cell;have HK:=Lib.hid hK;have bg:=Lib.hid (qI (by omega));have bm:=Lib.hid ao;clear aa hg ae b5 q5 qo q0 q1 q2 q3 q4 qb qI hK;subst ao;gi_wp2_with fail;exact ⟨HK.out,by rw [HP.out];exact bg.out⟩
   ·have e:=hx.trans a2;subst e;obtain ⟨er,ay⟩:∃e,e=(qab (b.drop (atV k b))).1:=⟨_,rfl⟩;rw [<-ay] at a1 a3 a4 a5 a6;have hw:IntKind.i64.wrap (- -er)=er:=(by rw [Int.neg_neg];exact IntWalk.i64_in _ (by omega));have i1: -er<0:=(by omega);have hE:(qac n b).1=er:=by
     have :=qeY (k:=k+1) (b:=b) (by rw [a3];exact a1) (n-(k+1));rw [show k+1+(n-(k+1))=n by omega] at this;rw [this,a3]
    have HE:=Lib.hid hE;have bj:=Lib.hid a1;clear a3 a4 hx aj ab hE o1 o2 a1;dsimp only;rw [<-ay];clear ay;gi_wp2_with fail;have af:=qiU (n:=n) (b:=b) (xv:=.slice none 0 0) (rv:=.slice none 0 0) (er:=er) HT.out.r1 HT.out.r2 HT.out.r3 ⟨HE.out.symm,HT.out.below,by rw [if_neg (by rw [HE.out];exact bj.out)];exact ⟨rfl,rfl⟩⟩;exact af
  case done=>
   rintro xs W0 W2 hS hI _ _ _;exact absurd hI.ok hS
  case stop=>
   rintro xs W0 W2 _ hX ad bp ak;have be:W.heap.size<=w1.heap.size:=(by omega);clear bb;obtain ⟨xv,rv,er,b1,b2,b3,aw⟩:=(hX.on ad).put ak rfl be (.deferred none);have d1:=b1.cell;have d2:=b2.cell;have d3:=b3.cell
   gi_wp2
   refine ⟨by simp,.inl ⟨_,_,rfl,run_takeDeferred ak, ?_⟩⟩;exact ⟨.tuple #[xv,rv,.int .i64 er],by unfold results;rw [hr];go_simp,xv,rv,er,rfl,aw⟩
end Go.Proofs.YtnkelahimiipjaaGreatDoor
namespace Go.Proofs.YtnkelahimiipjaaGreatDoor
open Go.RowKit Go.Sort
theorem qg3 {b:List Nat} (h:b.length=0):decV b=(10,[],[]):=by unfold decV;rw [if_pos h]
theorem qi3 {b:List Nat} (h0:b.length≠0) (h1:3<b.getD 0 0):decV b=(11,[],[]):=by unfold decV;rw [if_neg h0,if_pos h1]
theorem qf0 {b:List Nat} (h0:b.length≠0) (h1:¬3<b.getD 0 0) (h2:(qab (b.drop 1)).1≠0):decV b=((qab (b.drop 1)).1,[],[]):=by unfold decV;rw [if_neg h0,if_neg h1,if_pos h2]
theorem qij {b:List Nat} (h0:b.length≠0) (h1:¬3<b.getD 0 0) (h2:(qab (b.drop 1)).1=0) (h3:4096<(qab (b.drop 1)).2.1∨(qab (b.drop 1)).2.1<qcg (b.getD 0 0)):decV b=(11,[],[]):=by
 unfold decV;rw [if_neg h0,if_neg h1,if_neg (by simpa using h2),if_pos h3]
theorem qlU {b:List Nat} (h0:b.length≠0) (h1:¬3<b.getD 0 0) (h2:(qab (b.drop 1)).1=0) (h3:¬(4096<(qab (b.drop 1)).2.1∨(qab (b.drop 1)).2.1<qcg (b.getD 0 0)))
  (h4:(qac (qb4 (b.getD 0 0) (qab (b.drop 1)).2.1) ((b.drop 1).drop (qab (b.drop 1)).2.2)).1≠0):decV b=((qac (qb4 (b.getD 0 0) (qab (b.drop 1)).2.1) ((b.drop 1).drop (qab (b.drop 1)).2.2)).1,[],[]):=by
 unfold decV;rw [if_neg h0,if_neg h1,if_neg (by simpa using h2),if_neg h3,if_pos h4]
theorem qn4 {b:List Nat} (h0:b.length≠0) (h1:¬3<b.getD 0 0) (h2:(qab (b.drop 1)).1=0) (h3:¬(4096<(qab (b.drop 1)).2.1∨(qab (b.drop 1)).2.1<qcg (b.getD 0 0)))
  (h4:(qac (qb4 (b.getD 0 0) (qab (b.drop 1)).2.1) ((b.drop 1).drop (qab (b.drop 1)).2.2)).1=0):decV b=(0,(List.range (qab (b.drop 1)).2.1).map (fun i=>(qaU (b.getD 0 0) (qac (qb4 (b.getD 0 0) (qab (b.drop 1)).2.1) ((b.drop 1).drop (qab (b.drop 1)).2.2)).2.1 i).1),(qac (qb4 (b.getD 0 0) (qab (b.drop 1)).2.1) ((b.drop 1).drop (qab (b.drop 1)).2.2)).2.2):=by
 unfold decV;rw [if_neg h0,if_neg h1,if_neg (by simpa using h2),if_neg h3,if_neg (by simpa using h4)]
def DecR (W:World) (b:List Nat) (e:Ending) (w':World):Prop:=
 ∃xv rv,e=.returned (.tuple #[xv,rv,.int .i64 (decV b).1])∧Below W.heap.size W w'∧if (decV b).1=0 then OwnG EI 2 w' W.heap.size xv (decV b).2.1∧OwnG EB 5 w' W.heap.size rv (decV b).2.2 else xv=.slice none 0 0∧rv=.slice none 0 0
theorem DecR.err {W w':World} {b:List Nat} {er:Int} (h:decV b=(er,[],[])) (he:er≠0) (hB:Below W.heap.size W w'):DecR W b (.returned (.tuple #[.slice none 0 0,.slice none 0 0,.int .i64 er])) w':=
 ⟨_,_,by rw [h],hB,by rw [if_neg (by rw [h];exact he)];exact ⟨rfl,rfl⟩⟩
theorem qkL (k:Nat) (hk:k<=3) (w:World):(Instr.index 146 (.agg #[.int .i64 1,.int .i64 2,.int .i64 0,.int .i64 2]) (.int .i64 (k:Int))).run Tryz.prog w=.ok (.int .i64 (qcg k:Int)) w:=by
 have h:k=0∨k=1∨k=2∨k=3:=by omega
 rcases h with rfl|rfl|rfl|rfl<;>(show _=_;kernel_rfl)
theorem OwnG.atI {w:World} {base g n c i:Nat} {l:List Int} (h:OwnG EI 2 w base (.slice (some ⟨g,0,none⟩) n c) l) (hn:n=l.length) (hi:i<n):w.cell? ⟨g,i,none⟩=some (.int .i64 (l.getD i 0)):=
 (h.storeI hn hi 0).2.1
def outN (kd u:Nat) (x:List Int) (k:Nat):List Int:=mixV (fun i=>(qaU kd x i).1) (List.replicate u 0) k
def qm3 (kd:Nat) (x:List Int):Nat->Int
 |0=>0
 |k+1=>(qaU kd x k).2
theorem qny (kd u:Nat) (x:List Int) (k:Nat):(outN kd u x k).length=u:=by unfold outN;rw [qfR];simp
theorem qll (kd u:Nat) (x:List Int):outN kd u x 0=List.replicate u 0:=by unfold outN;rw [qix]
theorem qg6 {kd u:Nat} {x:List Int} {k:Nat} (h:k<u):(outN kd u x k).set k (qaU kd x k).1=outN kd u x (k+1):=by
 unfold outN;exact qhX (f:=fun i=>(qaU kd x i).1) (by simpa using h)
theorem qnz (kd u:Nat) (x:List Int):outN kd u x u=(List.range u).map (fun i=>(qaU kd x i).1):=by
 unfold outN;have :=qhx (fun i=>(qaU kd x i).1) (List.replicate u 0);rw [List.length_replicate] at this;exact this
theorem qoC {kd u:Nat} {x:List Int} {k:Nat} (h:k<u):(outN kd u x (k+1)).getD k 0=(qaU kd x k).1:=by
 unfold outN;rw [List.getD_eq_getElem?_getD,qdZ,if_pos (by simpa using h),if_pos (by omega)];rfl
def qc6 (kd:Nat) (x:List Int) (k:Nat) (s:Int):Int:=if kd=1 then x.getD 1 0 else if kd=2 then x.getD (k+1) 0 else if kd=3 then IntKind.i64.wrap (s+x.getD (k+1) 0) else s
theorem qgg (kd:Nat) (x:List Int) (k:Nat):qaU kd x (k+1)=(IntKind.i64.wrap ((qaU kd x k).1+qc6 kd x k (qaU kd x k).2),qc6 kd x k (qaU kd x k).2):=rfl
theorem qoX (kd:Nat) (x:List Int) (k:Nat):qm3 kd x (k+1)=(qaU kd x k).2:=rfl
theorem qlP {kd:Nat} {x:List Int} (hx:∀y ∈ x,In64 y):∀k,In64 (qaU kd x k).1∧In64 (qaU kd x k).2
 |0=>⟨qcz hx 0,by unfold In64;show _<=(0:Int)∧(0:Int)<_;omega⟩
 | k + 1 => by
   rw [qgg];refine ⟨qjH _, ?_⟩;unfold qc6
   split
   ·exact qcz hx _
   ·split
    ·exact qcz hx _
    ·split
     ·exact qjH _
     ·exact (qlP hx k).2
theorem qqk (w:World) (n:Nat) (hn:n<=1000000) (base:Nat) (hb:base<=w.heap.size):∃w',(Instr.makeSlice 73 (.int .i64 (n:Int)) (.int .i64 (n:Int))).run Tryz.prog w=.ok (.slice (some ⟨w.heap.size,0,none⟩) n n) w'∧
  OwnG EI 2 w' base (.slice (some ⟨w.heap.size,0,none⟩) n n) (List.replicate n 0)∧Below w.heap.size w w'∧w'.heap.size=w.heap.size+1:=by
 obtain ⟨i,hi,ac,aa,ab⟩:=qbz qc5;have hr:=run_make (P:=Tryz.prog) w 73 2 i _ Tryz.underlying73 hi ac .i64 .i64 n n (by omega) (Int.le_refl _) (by rw [ab];omega) (by omega);simp only [Int.toNat_natCast] at hr;refine ⟨_,hr, ?_,(Below.refl _ _).alloc (Nat.le_refl _) _,by simp⟩;have h:=World.ownsRow_lit (base:=base) (e:=2) (size:=1) w (madeCells (Value.int .i64 0).cells (n*i.size)) n hb (by unfold maxLen;omega) (by rw [aa];exact size_madeCells _ _);unfold OwnG;rw [List.length_replicate];have e:EI.flat (List.replicate n 0)=(madeCells (Value.int .i64 0).cells (n*i.size)).toList:=by
  rw [EI.flat_map,aa];have h2:=toList_madeCells_one (.int .i64 0) (n*1);rw [show (Value.int .i64 0).cells= #[.int .i64 0] from rfl,h2];simp
 rw [e];exact h
theorem qhP (v : Value) (b : List Nat) (W : World) (hR : RdG EB W W.heap.size v b) (h8 : ∀ c ∈ b, c < 256) (hb : b.length <= 100000000) :
  Calls Tryz.prog 76 #[v] W (DecR W b):=by
 have hr:Tryz.f76.results= #[.tmp 2,.tmp 3,.tmp 4]:=by kernel_rfl
 obtain ⟨N,hN⟩:∃N,N=b.length:=⟨_,rfl⟩;have HR:=Lib.hid hR;have H8:=Lib.hid h8;obtain ⟨A,c,rfl,hc,a0,hA⟩:=hR;rw [<-hN] at HR hc hb ⊢;have HN:=Lib.hid hN;by_cases h0:N=0
 ·have HD:=Lib.hid (qg3 (b:=b) (by omega));have g0:((N:Int)==0)=true:=by simp;omega
  clear hN hA a0 hc hb h8;go_enter Tryz.func76,Tryz.ntmps76;go_wp2_with fail;refine bodyPost_ret (v:=.tuple #[.slice none 0 0,.slice none 0 0,.int .i64 10]) ?_ rfl (DecR.err HD.out (by decide) (Below.refl _ _));unfold results;rw [hr]
  go_simp
 ·have g0 : ((N : Int) == 0) = false := by simp; omega
  obtain ⟨g,o,rfl,ap⟩:∃g o,A=some ⟨g,o,none⟩∧W.cell? ⟨g,o,none⟩=some (.int .u8 (b.getD 0 0:Nat)):=by
   rcases hA with h1|⟨b1,o1,e,ce,bb⟩
   ·rw [h1] at hN;simp at hN;omega
   ·refine ⟨b1,o1,e, ?_⟩;have :=qdX.1 (bb 0 (by omega));rw [List.getD_eq_getElem?_getD,List.getElem?_eq_getElem (by omega)];simpa [EB] using this
  have bz:b.getD 0 0<256:=by
   rw [List.getD_eq_getElem?_getD,List.getElem?_eq_getElem (by omega)];exact h8 _ (List.getElem_mem _)
  obtain ⟨kd,ai⟩:∃k,k=b.getD 0 0:=⟨_,rfl⟩;rw [<-ai] at ap bz;have av:=Lib.hid ai;have i0:(0:Int)<(N:Int):=by omega
  have i00:0<N:=by omega
  have ak:b.length≠0:=by omega
  have az:=Lib.hid ak;by_cases hk3:3<kd
  ·have HD:=Lib.hid (qi3 ak (by rw [<-ai];exact hk3));have i1:(kd:Int)>3:=(by omega);clear hN hA a0 hc hb h8 ai ak h0;go_enter Tryz.func76,Tryz.ntmps76;go_wp2_with fail;refine bodyPost_ret (v:=.tuple #[.slice none 0 0,.slice none 0 0,.int .i64 11]) ?_ rfl (DecR.err HD.out (by decide) (Below.refl _ _));unfold results;rw [hr]
   go_simp
  ·have i1 : ¬ (kd : Int) > 3 := by omega
   have au:Hid (¬3<b.getD 0 0):=(by rw [<-ai];exact hk3);obtain ⟨T,hT⟩:∃T,T=qab (b.drop 1):=⟨_,rfl⟩;have HT:=Lib.hid hT;have aw:∀c ∈ b.drop 1,c<256:=fun c hc=>h8 c (List.mem_of_mem_drop hc);have KT:∀q,RdG EB W W.heap.size q (b.drop 1)->Calls Tryz.prog 73 #[q] W fun e w'=>∃r,e=.returned (.tuple #[.int .u64 (if T.1=0 then (T.2.1:Int) else 0),r,.int .i64 T.1])∧Below W.heap.size W w'∧if T.1=0 then OwnG EB 5 w' W.heap.size r ((b.drop 1).drop T.2.2) else r=.slice none 0 0:=fun q hq=>by
    rw [hT];exact qdo q (b.drop 1) W hq aw (by rw [List.length_drop];omega)
   by_cases hc1:c=1
   ·have cc:N=1:=(by omega);have an:b.drop 1=[]:=List.drop_eq_nil_of_le (by omega);have bn:T=(10,0,0):=(by rw [hT,an];rfl);have HD:Hid (decV b=(10,[],[])):=by
     have :=qf0 ak au.out (by rw [an];decide);rw [an] at this;exact this
    have K1:=Lib.hid (KT (.slice (some ⟨g,o,none⟩) 0 0) (by rw [an];exact ⟨_,0,rfl,Nat.le_refl _,fun _=>rfl,.inl rfl⟩));rw [bn] at K1;clear hN hA a0 hb h8 ai ak h0 hT aw KT an bn hk3;go_enter Tryz.func76,Tryz.ntmps76;go_wp2_with fail;refine K1.out.mono ?_;rintro e w1 ⟨r,rfl,hB,aa⟩;have HB:=Lib.hid hB;have bp:r=.slice none 0 0:=aa;subst bp;clear hB aa K1;go_wp2_with fail;refine bodyPost_ret (v:=.tuple #[.slice none 0 0,.slice none 0 0,.int .i64 10]) ?_ rfl (DecR.err HD.out (by decide) HB.out);unfold results;rw [hr]
    go_simp
   ·have hcut := HR.out.cutFrom HN.out (k := 1) (by omega)
    rw [show 1*EB.k=1 from rfl] at hcut;have K1:=Lib.hid (KT _ hcut);have b6:1<=c:=(by omega);obtain ⟨er,u,kk⟩:=T;simp only at K1 HT;have a4:kd<=3:=(by omega);clear hN hA a0 h8 ai h0 hT KT hcut hk3;by_cases he:er=0
    ·subst he
     have cb:u<18446744073709551616:=by
      have :=qhI (b.drop 1);rw [<-HT.out] at this;exact this
     simp only [if_true] at K1;have hL:=qkL kd a4;by_cases hsz:4096<u∨u<qcg kd
     ·have HD:Hid (decV b=(11,[],[])):=by
       have :=qij az.out au.out (by rw [<-HT.out]) (by rw [<-HT.out,<-av.out];exact hsz);exact this
      by_cases hu:4096<u
      ·have q1:(u:Int)>4096:=(by omega);clear hsz;go_enter Tryz.func76,Tryz.ntmps76;go_wp2_with fail;refine K1.out.mono ?_;rintro e w1 ⟨r,rfl,hB,aa⟩;have HB:=Lib.hid hB;obtain ⟨A2,c2,rfl,_⟩:=aa.rd;clear hB K1 aa;go_wp2_with fail
       all_goals
        refine bodyPost_ret (v:=.tuple #[.slice none 0 0,.slice none 0 0,.int .i64 11]) ?_ rfl (DecR.err HD.out (by decide) HB.out);unfold results;rw [hr]
        go_simp
      ·have q1:¬(u:Int)>4096:=(by omega);have q2:(u:Int)<(qcg kd:Int):=(by omega);have q3:(u:Int)<=4097:=(by omega);clear hsz;go_enter Tryz.func76,Tryz.ntmps76;go_wp2_with fail;refine K1.out.mono ?_;rintro e w1 ⟨r,rfl,hB,aa⟩;have HB:=Lib.hid hB;obtain ⟨A2,c2,rfl,_⟩:=aa.rd;clear hB K1 aa;go_wp2_with fail
       all_goals
        refine bodyPost_ret (v:=.tuple #[.slice none 0 0,.slice none 0 0,.int .i64 11]) ?_ rfl (DecR.err HD.out (by decide) HB.out);unfold results;rw [hr]
        go_simp
     ·have q1 : ¬ (u : Int) > 4096 := by omega
      have q2:¬(u:Int)<(qcg kd:Int):=(by omega);have q3:(u:Int)<=4097:=(by omega);have hu:u<=4096:=(by omega);have bo:qcg kd<=u:=(by omega);obtain ⟨D,hD⟩:∃D,D=(b.drop 1).drop kk:=⟨_,rfl⟩;obtain ⟨hv,aj⟩:∃h,h=qb4 kd u:=⟨_,rfl⟩;obtain ⟨Y,hY⟩:∃Y,Y=qac hv D:=⟨_,rfl⟩;have aq:hv<=4097:=(by rw [aj];unfold qb4;split<;>omega);have a1:Hid (Y.1≠0->decV b=(Y.1,[],[])):=fun h=>by
       have h2:=qlU az.out au.out (by rw [<-HT.out]) (by rw [<-HT.out,<-av.out];exact hsz);rw [<-HT.out,<-av.out] at h2;simp only at h2;rw [<-aj,<-hD,<-hY] at h2;exact h2 h
      have bw:Hid (Y.1=0->decV b=(0,(List.range u).map (fun i=>(qaU kd Y.2.1 i).1),Y.2.2)):=fun h=>by
       have h2:=qn4 az.out au.out (by rw [<-HT.out]) (by rw [<-HT.out,<-av.out];exact hsz);rw [<-HT.out,<-av.out] at h2;simp only at h2;rw [<-aj,<-hD,<-hY] at h2;exact h2 h
      have ae:Y.1=0->Y.2.1.length=hv:=fun h=>(by rw [hY] at h ⊢;exact (qan hv D h).2.2.2.1);have bj:∀c ∈ D,c<256:=fun c hc=>(by rw [hD] at hc;exact aw c (List.mem_of_mem_drop hc));have bl:D.length<=1000000000:=(by rw [hD,List.length_drop,List.length_drop,<-HN.out];omega);rw [<-hD] at K1;have KTA:Hid (∀A2 c2 w1,OwnG EB 5 w1 W.heap.size (.slice A2 D.length c2) D->Calls Tryz.prog 77 #[.slice A2 D.length c2,.int .i64 (hv:Int)] w1 fun e w'=>∃xv rv,e=.returned (.tuple #[xv,rv,.int .i64 Y.1])∧TkR w1 hv D xv rv Y.1 w'):=fun A2 c2 w1 hO=>by
       refine (qdH _ D hv w1 hO.rd hO.flatV bj bl (by omega)).mono ?_;rintro e w' ⟨xv,rv,er2,rfl,h⟩;have h1:er2=Y.1:=(by rw [hY];exact h.1);subst h1;exact ⟨xv,rv,rfl,h⟩
      have bg:kd<=1->((hv:Nat):Int)=(kd:Int)+1:=fun h=>(by rw [aj];unfold qb4;rw [if_pos h];omega);have bm:¬kd<=1->((hv:Nat):Int)=(u:Int):=fun h=>(by rw [aj];unfold qb4;rw [if_neg h]);have bs:Hid (hv=qb4 kd u):=aj;have bi:Hid (Y=qac hv D):=hY;have b2:=Lib.hid aq;have bt:=Lib.hid ae;clear hD hY ae aj bj bl aw hsz aq;by_cases hk1:kd<=1
      all_goals
       first
        | (have i5 : (kd : Int) <= 1 := by omega
           rw [bg hk1] at KTA)
        | (have i5 : ¬ (kd : Int) <= 1 := by omega
           rw [bm hk1] at KTA)
       clear bg bm;go_enter Tryz.func76,Tryz.ntmps76;go_wp2_with fail;refine K1.out.mono ?_;rintro e w1 ⟨r,rfl,hB,aa⟩;have HB:=Lib.hid hB;obtain ⟨A2,c2,rfl,_⟩:=aa.rd;have K2:=Lib.hid (KTA.out A2 c2 w1 aa);clear hB K1 aa KTA;go_wp2_with fail;refine K2.out.mono ?_;rintro e w2 ⟨xv,rv,rfl,hk⟩;by_cases hy:Y.1=0
       ·obtain ⟨_,bk,ao⟩:=hk;rw [<-bi.out,if_pos hy] at ao;obtain ⟨hX,a6⟩:=ao;have g7:(Y.1 != 0)=false:=(by simp [hy]);have ar:Hid (Below W.heap.size W w2):=HB.out.trans (bk.mono HB.out.size);have HX:=Lib.hid hX;have b0:=Lib.hid a6;have ay:=Lib.hid (bt.out hy);have a8:=Lib.hid (bw.out hy);obtain ⟨A3,c3,e3,_⟩:=id hX.rd;rw [ay.out] at e3;subst e3;obtain ⟨A4,c4,rfl,_⟩:=a6.rd;clear bk hX a6 K2;have be:u<=1000000:=(by omega);obtain ⟨w3,b4,a5,bh,bd⟩:=qqk w2 u be W.heap.size ar.out.size;obtain ⟨G,hG⟩:∃G,G=w2.heap.size:=⟨_,rfl⟩;rw [<-hG] at b4 a5;have HG:=Lib.hid hG;have bx:=Lib.hid bh;have b5:=Lib.hid a5;have b8:=Lib.hid bd;clear a5 bh hG bd;have ca:Hid (kd=2∨1<=u):=by
         have :=bo;show _∨_;unfold qcg at this;by_cases e2:kd=2
         ·exact .inl e2
         ·by_cases e0:kd=0
          ·rw [if_pos e0] at this;exact .inr this
          ·rw [if_neg e0,if_neg e2] at this;exact .inr (by omega)
        have al:Hid ((1<=u->1<=hv)∧(kd=1->2<=hv)∧(2<=kd->hv=u)):=by
         have e:=bs.out;unfold qb4 at e;refine ⟨fun h=> ?_,fun h=> ?_,fun h=> ?_⟩
         ·by_cases h1:kd<=1
          ·rw [if_pos h1] at e;omega
          ·rw [if_neg h1] at e;omega
         ·rw [if_pos (by omega)] at e;omega
         ·rw [if_neg (by omega)] at e;exact e
        obtain ⟨x,hx⟩:∃x,x=Y.2.1:=⟨_,rfl⟩;rw [<-hx] at HX ay a8;have ax:Hid (∀i,i<hv->∃b3 o3,A3=some ⟨b3,o3,none⟩∧w2.cell? ⟨b3,o3+i,none⟩=some (.int .i64 (x.getD i 0))∧b3<G):=fun i hi=>by
         obtain ⟨A5,c5,e5,_,_,h5⟩:=HX.out.rd;injection e5 with e6 e7 e8;subst e6;rcases h5 with h5|⟨b3,o3,e9,ad,bb⟩
         ·have :=ay.out;rw [h5] at this;simp at this;omega
         ·refine ⟨b3,o3,e9, ?_,by rw [HG.out];exact ad⟩;have bf:i<x.length:=(by rw [ay.out];exact hi);have :=qfz.1 (bb i bf);rw [List.getD_eq_getElem?_getD,List.getElem?_eq_getElem bf];simpa [EI] using this
        have cd:Hid (∀y ∈ x,True):=fun _ _=>trivial;clear hx bo be i5 hk1 hy;go_wp2_with fail
        go_loopw [14,15,67,70,78,84,91] (fun st _ iv _ _ _ _ wl=>∃k:Nat,k<=u∧iv=.int .i64 (k:Int)∧st=.int .i64 (qm3 kd x k)∧Hid (OwnG EI 2 wl W.heap.size (.slice (some ⟨G,0,none⟩) u u) (outN kd u x k))∧Hid (Below G w2 wl))
         (fun _ _ iv _ _ _ _ _=>u-(intOf iv).toNat)
        case atStart=>exact ⟨0,Nat.zero_le _,rfl,rfl,by show OwnG _ _ _ _ _ _;rw [qll];exact b5.out,by have h:=bx.out;rw [<-HG.out] at h;exact h⟩
        case round =>
         obtain ⟨k,hk,rfl,rfl,HO,af⟩:=hrel;by_cases hlt:k<u
         ·have i1:(k:Int)<(u:Int):=(by omega);have ag:=qny kd u x k;by_cases hk0:k=0
          ·subst hk0;obtain ⟨b3,o3,rfl,ah,ad⟩:=ax.out 0 (al.out.1 (by omega));have a2:wr.cell? ⟨b3,o3,none⟩=some (.int .i64 (x.getD 0 0)):=(af.out.cell ad).trans ah;obtain ⟨s1,s2,s3⟩:=HO.out.storeI (i:=0) ag.symm hlt (x.getD 0 0);have a7:0<hv:=al.out.1 (by omega);have br:Hid (OwnG EI 2 (wr.setCell ⟨G,0,none⟩ (.int .i64 (x.getD 0 0))) W.heap.size (.slice (some ⟨G,0,none⟩) u u) (outN kd u x 1)):=by
            show OwnG _ _ _ _ _ _;rw [<-qg6 hlt];exact s1
           have am:Hid (Below G w2 (wr.setCell ⟨G,0,none⟩ (.int .i64 (x.getD 0 0)))):=af.out.setCell (Nat.le_refl _) _;clear s1 ag;go_wp2_with fail;go_roundw
           case rel=>exact ⟨1,by omega,rfl,rfl,br.out,am.out⟩
           case measure=>simp [intOf];omega
          ·obtain ⟨j,rfl⟩:∃j,k=j+1:=⟨k-1,by omega⟩;obtain ⟨p0,a9⟩:∃p,p=(qaU kd x j).1:=⟨_,rfl⟩;obtain ⟨s0,a3⟩:∃s,s=qm3 kd x (j+1):=⟨_,rfl⟩;have bq:=HO.out.atI (i:=j) ag.symm (by omega);rw [qoC (by omega),<-a9] at bq;rw [<-a3];have HU:Hid (qaU kd x (j+1)=(wrap64 (p0+qc6 kd x j s0),qc6 kd x j s0)):=(by show _=_;rw [qgg,qlJ,a9,a3];rfl);have b9:=(HO.out.storeI (i:=j+1) ag.symm hlt 0).2.2;have b7:=(HO.out.storeI (i:=j+1) ag.symm hlt 0).2.1;have ac:Hid (∀z,z=qc6 kd x j s0->OwnG EI 2 (wr.setCell ⟨G,j+1,none⟩ (.int .i64 (wrap64 (p0+z)))) W.heap.size (.slice (some ⟨G,0,none⟩) u u) (outN kd u x (j+1+1))∧qm3 kd x (j+1+1)=z):=fun z hz=>by
            subst hz;refine ⟨?_,by rw [qoX,HU.out]⟩;rw [<-qg6 hlt,HU.out];exact (HO.out.storeI (i:=j+1) ag.symm hlt _).1
           have am:Hid (∀z,Below G w2 (wr.setCell ⟨G,j+1,none⟩ z)):=fun z=>af.out.setCell (Nat.le_refl _) _;have g3:((j:Int)+1==0)=false:=(by simp;omega);have i8:(j:Int)+1<(u:Int):=(by omega);clear a9 a3 ag hk0 i1;by_cases k1:kd=1
           ·have e1:((kd:Int)==1)=true:=(by simp;omega);obtain ⟨b3,o3,rfl,ah,ad⟩:=ax.out 1 (al.out.2.1 k1);have a2:wr.cell? ⟨b3,o3+1,none⟩=some (.int .i64 (x.getD 1 0)):=(af.out.cell ad).trans ah;have a7:(1:Int)<(hv:Int):=(by have :=al.out.2.1 k1;omega);have ab:Hid (x.getD 1 0=qc6 kd x j s0):=(by show _=_;unfold qc6;rw [if_pos k1]);clear k1;go_wp2_with fail;go_roundw
            case rel=>exact ⟨j+1+1,by omega,by go_num,by first|(rw [(ac.out _ ab.out).2];done)|rw [(ac.out _ ab.out).2,List.getD_eq_getElem?_getD],(ac.out _ ab.out).1,am.out _⟩
            case measure=>simp [intOf];omega
           ·have e1:((kd:Int)==1)=false:=(by simp;omega);by_cases k2:kd=2
            ·have e2:((kd:Int)==2)=true:=(by simp;omega);have ba:=al.out.2.2 (by omega);obtain ⟨b3,o3,rfl,ah,ad⟩:=ax.out (j+1) (by omega);have a2:wr.cell? ⟨b3,o3+(j+1),none⟩=some (.int .i64 (x.getD (j+1) 0)):=(af.out.cell ad).trans ah;have a7:(j:Int)+1<(hv:Int):=(by omega);have ab:Hid (x.getD (j+1) 0=qc6 kd x j s0):=(by show _=_;unfold qc6;rw [if_neg k1,if_pos k2]);clear k1 k2 ba;go_wp2_with fail;go_roundw
             case rel=>exact ⟨j+1+1,by omega,by go_num,by first|(rw [(ac.out _ ab.out).2];done)|rw [(ac.out _ ab.out).2,List.getD_eq_getElem?_getD],(ac.out _ ab.out).1,am.out _⟩
             case measure=>simp [intOf];omega
            ·have e2:((kd:Int)==2)=false:=(by simp;omega);by_cases k3:kd=3
             ·have e3:((kd:Int)==3)=true:=(by simp;omega);have ba:=al.out.2.2 (by omega);obtain ⟨b3,o3,rfl,ah,ad⟩:=ax.out (j+1) (by omega);have a2:wr.cell? ⟨b3,o3+(j+1),none⟩=some (.int .i64 (x.getD (j+1) 0)):=(af.out.cell ad).trans ah;have a7:(j:Int)+1<(hv:Int):=(by omega);have ab:Hid (wrap64 (s0+x.getD (j+1) 0)=qc6 kd x j s0):=(by show _=_;unfold qc6;rw [if_neg k1,if_neg k2,if_pos k3,qlJ]);clear k1 k2 k3 ba;go_wp2_with fail;go_roundw
              case rel=>exact ⟨j+1+1,by omega,by go_num,by first|(rw [(ac.out _ ab.out).2];done)|rw [(ac.out _ ab.out).2,List.getD_eq_getElem?_getD],(ac.out _ ab.out).1,am.out _⟩
              case measure=>simp [intOf];omega
             ·have e3:((kd:Int)==3)=false:=(by simp;omega);have ab:Hid (s0=qc6 kd x j s0):=(by show _=_;unfold qc6;rw [if_neg k1,if_neg k2,if_neg k3]);clear k1 k2 k3;go_wp2_with fail;go_roundw
              case rel=>exact ⟨j+1+1,by omega,by go_num,by first|(rw [(ac.out _ ab.out).2];done)|rw [(ac.out _ ab.out).2,List.getD_eq_getElem?_getD],(ac.out _ ab.out).1,am.out _⟩
              case measure=>simp [intOf];omega
         ·have bc:k=u:=(by omega);have i1:¬(k:Int)<(u:Int):=(by omega);rw [bc,qnz] at HO;have HF:Hid (Below W.heap.size W wr):=ar.out.trans (af.out.mono (by rw [HG.out];exact ar.out.size));have bv:Hid (OwnG EB 5 wr W.heap.size (.slice A4 Y.2.2.length c4) Y.2.2):=(b0.out.below (by have h:=af.out;rw [HG.out] at h;exact h)).lower HB.out.size;clear hk hlt bc;go_wp2_with fail;refine bodyPost_ret (v:=.tuple #[.slice (some ⟨G,0,none⟩) u u,.slice A4 Y.2.2.length c4,.int .i64 0]) ?_ rfl (show DecR W b _ _ from ⟨_,_,by rw [a8.out],HF.out,by rw [a8.out];exact ⟨HO.out,bv.out⟩⟩);unfold results;rw [hr]
          go_simp
       ·have g7:(Y.1 != 0)=true:=(by simp [hy]);have bu:=Lib.hid (a1.out hy);have HY:=Lib.hid hy;have ar:Hid (Below W.heap.size W w2):=HB.out.trans (hk.2.1.mono HB.out.size);have ao:=hk.2.2;rw [<-bi.out,if_neg hy] at ao;obtain ⟨rfl,rfl⟩:=ao;clear hy hk K2;go_wp2_with fail;refine bodyPost_ret (v:=.tuple #[.slice none 0 0,.slice none 0 0,.int .i64 Y.1]) ?_ rfl (DecR.err bu.out HY.out ar.out);unfold results;rw [hr]
        go_simp
    ·have HD:Hid (decV b=(er,[],[])):=by
      have :=qf0 az.out au.out (by rw [<-HT.out];exact he);rw [<-HT.out] at this;exact this
     have g1:(er != 0)=true:=(by simp [he]);have HE:=Lib.hid he;rw [if_neg he] at K1;clear he aw ak;go_enter Tryz.func76,Tryz.ntmps76;go_wp2_with fail;refine K1.out.mono ?_;rintro e w1 ⟨r,rfl,hB,aa⟩;rw [if_neg HE.out] at aa;subst aa;have HB:=Lib.hid hB;clear hB K1;go_wp2_with fail;refine bodyPost_ret (v:=.tuple #[.slice none 0 0,.slice none 0 0,.int .i64 er]) ?_ rfl (DecR.err HD.out HE.out HB.out);unfold results;rw [hr]
     go_simp
end Go.Proofs.YtnkelahimiipjaaGreatDoor
