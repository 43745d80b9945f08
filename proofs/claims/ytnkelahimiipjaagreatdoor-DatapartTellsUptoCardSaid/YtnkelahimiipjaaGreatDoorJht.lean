/-
 datapart: (*Part).Of.
-/
import Derived.Test.YtnkelahimiipjaaGreatDoorJct
import Derived.Test.YtnkelahimiipjaaGreatDoorPlt
import Derived.Test.YtnkelahimiipjaaGreatDoorHpt
import Derived.Test.YtnkelahimiipjaaGreatDoorVrt
import Derived.Test.YtnkelahimiipjaaGreatDoorBqt
set_option maxRecDepth 100000
set_option maxHeartbeats 8000000
namespace Go.Proofs.YtnkelahimiipjaaGreatDoor
open Go.RowKit Go.Sort
attribute [local go_sem] Oper.semAt_some
def ktF (t:TypeId):Bool:=t==22 || (t==62 || t==3)
structure OfI (W:World) (B:Nat) (f t:Int) (lv:Value) (cs:List PtX) (l:List Pts) (m:Nat) (w:World):Prop where
 from_:Boxed w B 2 (.int .i64 f)
 to_:Boxed w (B+1) 2 (.int .i64 t)
 lb:Boxed w (B+1+1) 22 lv
 nb:Boxed w (B+1+1+1) 3 (.int .i64 (m:Int))
 row:PtsO w W.heap.size lv cs l
 below:Below W.heap.size W w
 low:W.heap.size<=B
variable {W w w':World} {B m:Nat} {f t:Int} {lv:Value} {cs:List PtX} {l:List Pts}
theorem OfI.on (h:OfI W B f t lv cs l m w) (k:Below w.heap.size w w'):OfI W B f t lv cs l m w':=
 ⟨qat h.from_ k,qat h.to_ k,qat h.lb k,qat h.nb k,h.row.on k,h.below.trans (k.mono h.below.size),h.low⟩
theorem PtsO.putO {w:World} {base:Nat} {v:Value} {cs:List PtX} {l:List Pts} (h:PtsO w base v cs l) {k:Nat} {o0:Obj} (o:Obj) (hl:w.heap[k]? =some o0) (ho:o0.isCells=false):PtsO (w.putObj k o) base v cs l:=
 ⟨h.row.putO o hl ho,h.len,fun i h1 h2=>⟨(h.at_ i h1 h2).1,ownsRow_putObj (h.at_ i h1 h2).2 o hl ho⟩⟩
theorem OfI.put {k:Nat} {o0:Obj} (h:OfI W B f t lv cs l m w) (hl:w.heap[k]? =some o0) (hc:o0.isCells=false) (hz:W.heap.size<=k) (o:Obj):OfI W B f t lv cs l m (w.putObj k o):=
 ⟨qdF h.from_ hl hc o,qdF h.to_ hl hc o,qdF h.lb hl hc o,qdF h.nb hl hc o,h.row.putO o hl hc,qbN h.below hz o,h.low⟩
theorem PtsO.setBox {w:World} {base b:Nat} {ty:TypeId} {u v:Value} {cs:List PtX} {l:List Pts} (h:PtsO w base v cs l) (hb:Boxed w b ty u) (h1:ty≠62) (h2:ty≠66) (u':Value):PtsO (w.setCell ⟨b,0,none⟩ u') base v cs l:=
 ⟨h.row.set hb h1 u',h.len,fun i k1 k2=>⟨(h.at_ i k1 k2).1,(h.at_ i k1 k2).2.kept (grownBy_setCell' w b u') (.inr (hb.not_row h2 (h.at_ i k1 k2).2).symm)⟩⟩
theorem OfI.push {w1:World} {lv':Value} {x:PtX} {p:Pts} (h:OfI W B f t lv cs l m w) (h1:x.1=p.1) (h2:Own w W.heap.size 66 (qbC x) p.2) (hown:OwnG EP 62 w1 W.heap.size lv' (cs++[x])) (hg:w.grownBy w1 lv.ownBlock):
  Boxed w1 (B+1+1) 22 lv∧OfI W B f t lv' (cs++[x]) (l++[p]) m (w1.setCell ⟨B+1+1,0,none⟩ lv')∧KpT ktF W.heap.size w (w1.setCell ⟨B+1+1,0,none⟩ lv'):=by
 have hl:=h.low;have hz:=h.below.size;have hr:=h.row.row;have b0:Boxed w1 B 2 (.int .i64 f):=qaG h.from_ hg hr (by decide);have b1:Boxed w1 (B+1) 2 (.int .i64 t):=qaG h.to_ hg hr (by decide);have b2:Boxed w1 (B+1+1) 22 lv:=qaG h.lb hg hr (by decide);have b3:Boxed w1 (B+1+1+1) 3 (.int .i64 (m:Int)):=qaG h.nb hg hr (by decide);have ab:KpT ktF W.heap.size w w1:=KpT.grown hg hz (fun k e=>by
  obtain ⟨q1,c,z,q2⟩:=hr.cellsAt k e;exact ⟨q1,c,_,z,q2,rfl⟩)
 have aa:KpT ktF W.heap.size w1 (w1.setCell ⟨B+1+1,0,none⟩ lv'):=KpT.setCell (e:=22) b2 rfl (by omega) _ _;have hk:=ab.trans aa;exact ⟨b2,⟨qaf b0 (by omega) _,qaf b1 (by omega) _,b2.set _,qaf b3 (by omega) _,(h.row.push h1 h2 hown hg).setBox b2 (by decide) (by decide) _,h.below.trans hk.1,hl⟩,hk⟩
theorem OfI.putN {m':Nat} (h:OfI W B f t lv cs l m w):OfI W B f t lv cs l m' (w.setCell ⟨B+1+1+1,0,none⟩ (.int .i64 (m':Int)))∧KpT ktF W.heap.size w (w.setCell ⟨B+1+1+1,0,none⟩ (.int .i64 (m':Int))):=by
 have hl:=h.low;have hk:KpT ktF W.heap.size w (w.setCell ⟨B+1+1+1,0,none⟩ (.int .i64 (m':Int))):=KpT.setCell (e:=3) h.nb rfl (by omega) _ _;exact ⟨⟨qaf h.from_ (by omega) _,qaf h.to_ (by omega) _,qaf h.lb (by omega) _,h.nb.set _,h.row.setBox h.nb (by decide) (by decide) _,h.below.trans hk.1,hl⟩,hk⟩
def OfR (W:World) (c:List Pts) (ids:List Int) (f t:Int) (e:Ending) (w':World):Prop:=
 ∃r,e=.returned (.tuple #[r,.int .i64 ((ofV c ids f t).2:Int)])∧RdO w' W.heap.size r (ofV c ids f t).1∧Below W.heap.size W w'
theorem qoi (pb hb:Nat) (pv hv iv:Value) (c:List Pts) (ids:List Int) (f t:Int) (W:World) (T:Tabs W) (hP:qdG W pb hb pv) (hh:W.cell? ⟨hb,0,none⟩=some hv) (hR:RdP W W.heap.size hv (qae c)) (hI:RdZ W W.heap.size iv ids) (hcl:Clean c) (hm:qad c<=2000) (hil:ids.length<=1000000):
  Calls Tryz.prog 18 #[.pointer (some ⟨pb,0,none⟩),iv,.int .i64 f,.int .i64 t] W fun e w'=>OfR W c ids f t e w':=by
 have hr:Tryz.f18.results= #[.tmp 8,.tmp 9]:=by kernel_rfl
 obtain ⟨dk,_⟩:=hP;have aw:=qbT hcl hm;have av:=qbj hcl;obtain ⟨Ai,ci,rfl,_⟩:=id hI;obtain ⟨ni,b9⟩:∃ni,ni=ids.length:=⟨_,rfl⟩;rw [<-b9] at hI ⊢;have HT:=Lib.hid T;have bw:=Lib.hid dk;have HH:=Lib.hid hh;have HR:=Lib.hid hR;have HI:=Lib.hid hI;have a5:=Lib.hid av;have am:=Lib.hid aw;have du:Fence.wide.fn 48:=trivial;have bf:Fence.wide.fn 43:=trivial;clear T hh hR hI av aw b9 hcl hm;refine (callsIn_wide (n:=40)).1 ?_;refine callsIn_of_wp_marks Tryz.func18 rfl trivial ?_ rfl;simp only [Tryz.ntmps18,List.size_toArray,List.length_cons,List.length_nil,Nat.reduceAdd,Nat.reduceSub,Array.replicate_succ,Array.replicate_zero,List.push_toArray,List.append_toArray,List.nil_append,List.cons_append];gi_wp2_with fail;obtain ⟨B,ak⟩:∃B,B=W.heap.size:=⟨_,rfl⟩;obtain ⟨Wa,ai⟩:∃Wa,Wa=(((W.alloc (.cells #[.int .i64 f] 2)).alloc (.cells #[.int .i64 t] 2)).alloc (.cells #[.slice none 0 0] 22)).alloc (.cells #[.int .i64 0] 3):=⟨_,rfl⟩;have br:Below W.heap.size W Wa:=by
  rw [ai];exact ((((Below.refl _ W).alloc (Nat.le_refl _) _).alloc (by simp) _).alloc (by simp <;>omega) _).alloc (by simp <;>omega) _
 have db:Wa.heap.size=B+4:=by rw [ai,ak];simp
 have a2:OfI W B f t (.slice none 0 0) [] [] 0 Wa:=by
  refine ⟨?_, ?_, ?_, ?_,PtsO.nil _ _,br,by omega⟩
  ·rw [ai,ak];exact (((qaw _ _ _ rfl).alloc _).alloc _).alloc _
  ·rw [ai,ak];exact ((qaw _ _ _ (by simp)).alloc _).alloc _
  ·rw [ai,ak];exact (qaw _ _ _ (by simp)).alloc _
  ·rw [ai,ak];exact qaw _ _ _ (by simp)
 have c4:=Lib.hid a2;have dt:=Lib.hid ak;have c5:=Lib.hid db;have bu:Wa.cell? ⟨pb,0,none⟩=some (.pointer (some ⟨hb,0,none⟩)):=(br.cell (qaa bw.out)).trans bw.out;have HC:=Lib.hid (And.intro bu (And.intro a2.from_.cell a2.to_.cell));have KO:∀w,CallsIn Fence.wide 39 Tryz.prog 48 #[.pointer (some ⟨hb,0,none⟩),.slice Ai ni ci,.int .i64 f,.int .i64 t] w _:=fun w=>callsIn_wide.2 (qmM hb Ai ni ci f t w);rw [<-ak,<-ai];clear ai br a2 ak bu;refine qbV ?_;refine wpIn_region_any (by kernel_rfl) ?_;change wpAnyIn _ _ _ _ _ _ _ _ _ (World.drew _);have aa:Below Wa.heap.size Wa (World.drew Wa):=((Ext.refl Wa).drewN _).below;refine qaL (S:=fun w'=>Below Wa.heap.size Wa w') _ _ _ _ ?_
 refine heldIn_take (i := 0) (v := ?_) (by kernel_rfl) rfl (by kernel_rfl) (by kernel_rfl) (by kernel_rfl) (fun _ _ _ h => calm_panic h) ⟨Or.inl ⟨by rfl, ?_⟩, fun _ => rfl⟩ aa ?_
 rotate_left
 · intro w' _
   (go_simp <;> with_reducible rfl)
 refine heldIn_take (i := 1) (v := ?_) (by kernel_rfl) rfl (by kernel_rfl) (by kernel_rfl) (by kernel_rfl) (fun _ _ _ h => calm_panic h) ⟨Or.inl ⟨by rfl, ?_⟩, fun _ => rfl⟩ aa ?_
 rotate_left
 · intro w' _
   (go_simp <;> with_reducible rfl)
 refine heldIn_take (i := 2) (v := ?_) (by kernel_rfl) rfl (by kernel_rfl) (by kernel_rfl) (by kernel_rfl) (fun _ _ _ h => calm_panic h) ⟨Or.inl ⟨by rfl, ?_⟩, fun _ => rfl⟩ aa ?_
 rotate_left
 · intro w' _
   (go_simp <;> with_reducible rfl)
 refine heldIn_take (i := 3) (v := ?_) (by kernel_rfl) rfl (by kernel_rfl) (by kernel_rfl) (by kernel_rfl) (fun _ _ _ h => calm_panic h) ⟨Or.inl ⟨by rfl, ?_⟩, fun _ => rfl⟩ aa ?_
 rotate_left
 · intro w' hS
   have c0 := (hS.cell (qaa HC.out.1)).trans HC.out.1
   (go_simp <;> with_reducible rfl)
 refine heldIn_take (i := 4) (v := ?_) (by kernel_rfl) rfl (by kernel_rfl) (by kernel_rfl) (by kernel_rfl) (fun _ _ _ h => calm_panic h) ⟨Or.inl ⟨by rfl, ?_⟩, fun _ => rfl⟩ aa ?_
 rotate_left
 · intro w' _
   (go_simp <;> with_reducible rfl)
 refine heldIn_take (i := 5) (v := ?_) (by kernel_rfl) rfl (by kernel_rfl) (by kernel_rfl) (by kernel_rfl) (fun _ _ _ h => calm_panic h) ⟨Or.inl ⟨by rfl, ?_⟩, fun _ => rfl⟩ aa ?_
 rotate_left
 · intro w' hS
   have c0 := (hS.cell (qaa HC.out.2.1)).trans HC.out.2.1
   (go_simp <;> with_reducible rfl)
 refine heldIn_take (i := 6) (v := ?_) (by kernel_rfl) rfl (by kernel_rfl) (by kernel_rfl) (by kernel_rfl) (fun _ _ _ h => calm_panic h) ⟨Or.inl ⟨by rfl, ?_⟩, fun _ => rfl⟩ aa ?_
 rotate_left
 · intro w' hS
   have c0 := (hS.cell (qaa HC.out.2.2)).trans HC.out.2.2
   (go_simp <;> with_reducible rfl)
 refine qam (i:=7) (by kernel_rfl) rfl (fun K hK=> ?_)
 go_simp
 refine (KO _).mono ?_;rintro e w9 ⟨rfl,al⟩;have c1:(World.drew Wa).heap.size=B+4:=c5.out;obtain ⟨D0,an⟩:∃D0,D0=(World.drew Wa).heap.size:=⟨_,rfl⟩;have b2:Below (World.drew Wa).heap.size (World.drew Wa) w9:=by
  rw [al];exact ((((Below.refl _ _).alloc (Nat.le_refl _) _).alloc (by simp) _).alloc (by simp <;>omega) _).alloc (by simp <;>omega) _
 have dh:w9.heap.size=D0+4:=by rw [al,an];simp
 have bk:Below Wa.heap.size Wa w9:=aa.trans (b2.mono aa.size);have cd:Boxed w9 D0 86 (.pointer (some ⟨hb,0,none⟩)):=by rw [al,an];exact (((qaw _ _ _ rfl).alloc _).alloc _).alloc _
 have b1:OfB (D0+1) (D0+3) (D0+2) (.slice Ai ni ci) f t w9:=by
  refine ⟨?_, ?_, ?_⟩
  ·rw [al,an];exact ((qaw _ _ _ (by simp)).alloc _).alloc _
  ·rw [al,an];exact qaw _ _ _ (by simp)
  ·rw [al,an];exact (qaw _ _ _ (by simp)).alloc _
 have bl:=c4.out.on bk;have ay:=Lib.hid bl;have ct:Hid (w9.cell? ⟨hb,0,none⟩=some hv):=(bl.below.cell (qaa HH.out)).trans HH.out;have dd:=Lib.hid cd;have c2:=Lib.hid b1;refine hK _ _ bk ?_;clear hK K al b2 cd b1 bl KO bk c1;refine qbc (by kernel_rfl) ⟨rfl, ?_⟩ _;rw [<-an];clear an aa;gi_wp2_with fail;have bq:W.heap.size<=w9.heap.size:=ay.out.below.size;have co:=Lib.hid bq;refine qhN (kt:=ktF) (Z:=W.heap.size) (N:=((qae c).filter (qaz ids f t)).length) (F:=Fence.wide) (n:=40) rfl (by omega) (gf:=85) (lb:= #[.pointer (some ⟨D0,0,none⟩),.pointer (some ⟨D0+1,0,none⟩),.pointer (some ⟨D0+3,0,none⟩),.pointer (some ⟨D0+2,0,none⟩)]) (by simp [Act.eval]) trivial (enters_of Tryz.func85 (by kernel_rfl) rfl) (encs:=encO) (New:=NewO w9 W.heap.size (qae c) ids f t) (S:=fun xs=>xs.map (fun x=>x.1)=(qae c).filter (qaz ids f t)) (Sp:=fun _=>True) (w0:=w9) bq
  (qpi ktF rfl rfl W.heap.size 39 D0 hb (D0+1) (D0+3) (D0+2) hv (.slice Ai ni ci) (qae c) ids f t w9 (by omega) dd.out ct.out c2.out bq (HR.out.below ay.out.below) (HI.out.below ay.out.below) (by have :=am.out.2.2;omega) hil (fun b hb=>⟨(a5.out b hb).2.1,by have :=(a5.out b hb).1.2.2.1;omega⟩)) (Below.refl _ _) (fun _=>rfl) (fun _ _ _ _ _ _ h _=>h)
  (fun pre W1=>∃lv cs,OfI W B f t lv cs (pre.map fun x=>(x.1.1,delS f t x.1.2)) pre.length W1) (fun _ _=>False) ?hI ?hIx ?h0 (fun x W9=> { tmps:= #[.pointer (some ⟨pb,0,none⟩),.slice Ai ni ci,.int .i64 f,.int .i64 t,undef,undef,.pointer (some ⟨B,0,none⟩),.pointer (some ⟨B+1,0,none⟩),.slice none 0 0,.int .i64 0,.pointer (some ⟨B+1+1,0,none⟩),.pointer (some ⟨B+1+1+1,0,none⟩),.pointer (some ⟨W9.heap.size,0,none⟩),.pointer (some ⟨pb,0,none⟩),.bool false,.pointer (some ⟨pb,0,none⟩),.pointer (some ⟨pb,0,none⟩),.pointer (some ⟨pb,0,none⟩),.pointer (some ⟨hb,0,none⟩),.slice Ai ni ci,.int .i64 f,.int .i64 t,.func (.func 85) #[] #[.pointer (some ⟨D0,0,none⟩),.pointer (some ⟨D0+1,0,none⟩),.pointer (some ⟨D0+3,0,none⟩),.pointer (some ⟨D0+2,0,none⟩)],.agg #[.int .i64 x.1.1,x.2],undef,undef,undef,undef,undef,undef,undef,undef,undef,undef,undef,undef,undef,undef,undef,undef],defers:=[] }) (fun x W9=>W9.alloc (.cells #[.int .i64 x.1.1,x.2] 71)) ?cb ?ca ?cw ?assign ?body ?done ?stop
 case hI=>rintro s A1 l1 r o ⟨lv,cs,h⟩ hl cu;exact ⟨lv,cs,h.put cu rfl (by omega) o⟩
 case hIx=>intro s A1 l1 r o h;exact h.elim
 case h0=>intro B1 hB;exact ⟨_,_,ay.out.on hB⟩
 case cb=>intro x W9;exact (Below.refl _ _).alloc (Nat.le_refl _) _
 case ca=>intro x W9 l1 o;rw [World.putObj_size]
 case cw=>intro x W9 l1 o hl;exact qex hl _ _
 case assign=>
  rintro l1 x W9 K ⟨_,_,_,_,az,_⟩ hK;obtain ⟨⟨pid,ps⟩,sv⟩:=x;obtain ⟨As,cs,ah,_⟩:=az;dsimp only at ah;subst ah;dsimp only [encO] at hK ⊢
  gi_wp2
  exact hK
 case body=>
  rintro l1 pre X W0 Wb dm dq ⟨lv,cs,hI⟩ dr ac ⟨hx,az,ck⟩;have b8:X.1 ∈ qae c:=(List.mem_filter.1 (List.mem_of_getElem? hx)).1;obtain ⟨av,_,_⟩:=a5.out _ b8;have cp:X.1.2.length<=16:=av.2.2.1;have ap:pre.length<=2000:=by
   have h1:=List.length_filter_le (qaz ids f t) (qae c);have h2:=am.out.2.2;omega
  obtain ⟨As,sc,ah,_⟩:=id az;obtain ⟨L,hL⟩:∃L,L=pre.map (fun x:Blk×Value=>(x.1.1,delS f t x.1.2)):=⟨_,rfl⟩;obtain ⟨m,hm⟩:∃m,m=pre.length:=⟨_,rfl⟩;rw [<-hL,<-hm] at hI;have HL:Hid (pre.map (fun x:Blk×Value=>(x.1.1,delS f t x.1.2))=L):=hL.symm;have HM:Hid (pre.length=m):=hm.symm;rw [<-hm] at ap;have dc:Hid (L.length=m):=by show _=_;rw [hL,hm,List.length_map]
  obtain ⟨Wc,a4⟩:∃Wc,Wc=Wb.alloc (.cells #[.int .i64 X.1.1,.slice As X.1.2.length sc] 71):=⟨_,rfl⟩;obtain ⟨ab,ag⟩:∃ab,ab=Wb.heap.size:=⟨_,rfl⟩;have bb:Below Wb.heap.size Wb Wc:=by rw [a4];exact (Below.refl _ _).alloc (Nat.le_refl _) _
  have a1:Wc.heap[ab]? =some (.cells #[.int .i64 X.1.1,.slice As X.1.2.length sc] 71 (0,0)):=by rw [a4,ag];exact heap_alloc_new Wb _
  have ba:=hI.on ac;have aq:=ba.on bb;obtain ⟨Al,nl,cl,rfl⟩:=aq.row.row.sl;have k0:Wc.cell? ⟨ab,0,none⟩=some (.int .i64 X.1.1):=by simp [World.cell?,a1]
  have k1:Wc.cell? ⟨ab,1,none⟩=some (.slice As X.1.2.length sc):=by simp [World.cell?,a1]
  have kl:=aq.lb.cell;have HK:=Lib.hid (And.intro k0 (And.intro k1 (And.intro aq.from_.cell (And.intro aq.to_.cell kl))));have ad:=Lib.hid aq;have cf:=Lib.hid a1;have bj:Hid (KpT ktF W.heap.size Wb Wc):=KpT.below bb ba.below.size;have bs:B+1+1+1<ab:=by rw [ag];exact ba.nb.lt
  have cr:ab<Wc.heap.size:=(Array.getElem?_eq_some_iff.1 a1).1;have bp:Hid (ab≠B+1+1∧ab<Wc.heap.size):=by show _∧_;omega
  have a0:∀w',Below Wc.heap.size Wc w'->w'.heap[B]? =Wc.heap[B]? ∧w'.heap[B+1]? =Wc.heap[B+1]? ∧w'.heap[ab]? =Wc.heap[ab]? :=fun w' h=>⟨h.block _ ad.out.from_.lt,h.block _ ad.out.to_.lt,h.block _ bp.out.2⟩;have af:=Lib.hid a0;have KCl:Hid (∀w',Below Wc.heap.size Wc w'->CallsIn (Fence.wide.inRound l1) 37 Tryz.prog 49 #[.slice As X.1.2.length sc,.int .i64 f,.int .i64 t] w' fun e w''=>∃A n c,e=.returned (.slice A n c)∧Own w'' W.heap.size 66 (.slice A n c) (delS f t X.1.2)∧Below Wc.heap.size Wc w''):=fun w' h=>CallsIn.inRound l1 (callsIn_wide.2 ((qlG _ X.1.2 f t w' (by
   have h1:Below W.heap.size W w':=ad.out.below.trans (h.mono ad.out.below.size);have h2:=(az.side ay.out.below h1).mono h1.size;rw [ah] at h2;exact h2) (by rw [<-ah];exact ck) (by omega)).mono (by
   rintro e w'' ⟨r,rfl,ho,hb⟩;have hz:W.heap.size<=w'.heap.size:=Nat.le_trans ad.out.below.size h.size;rcases ho.2 with ⟨h0,h1⟩|⟨g,cap,cur,h0,_⟩
   ·subst h0;exact ⟨_,_,_,rfl,ho.lower hz,h.trans (hb.mono h.size)⟩
   ·subst h0;exact ⟨_,_,_,rfl,ho.lower hz,h.trans (hb.mono h.size)⟩)))
  have dp:Fence.wide.fn 49:=trivial;have ds:=Lib.hid ah;dsimp only;rw [ah,<-ag,<-a4];clear hL hm a4 ag bb a1 ba aq hI a0 ah hx az ck b8 av ac bs cr;gi_wp2_with fail;refine qbV ?_;refine wpIn_region_any (by kernel_rfl) ?_;change wpAnyIn _ _ _ _ _ _ _ _ _ (World.drew _);have b3:Below Wc.heap.size Wc (World.drew Wc):=((Ext.refl Wc).drewN _).below;have aa:=af.out _ b3;have da:=Lib.hid b3;refine qaL (S:=fun w'=>w'.heap[B]? =Wc.heap[B]? ∧w'.heap[B+1]? =Wc.heap[B+1]? ∧w'.heap[ab]? =Wc.heap[ab]?) _ _ _ _ ?_
  refine heldIn_take (i := 1) (v := ?_) (by kernel_rfl) rfl (by kernel_rfl) (by kernel_rfl) (by kernel_rfl) (fun _ _ _ h => calm_panic h) ⟨Or.inl ⟨by rfl, ?_⟩, fun _ => rfl⟩ aa ?_
  rotate_left
  · intro w' _
    (go_simp <;> with_reducible rfl)
  refine heldIn_take (i := 2) (v := ?_) (by kernel_rfl) rfl (by kernel_rfl) (by kernel_rfl) (by kernel_rfl) (fun _ _ _ h => calm_panic h) ⟨Or.inl ⟨by rfl, ?_⟩, fun _ => rfl⟩ aa ?_
  rotate_left
  · intro w' hS
    have c0 := (qaF hS.2.2 0).trans HK.out.1
    (go_simp <;> with_reducible rfl)
  refine heldIn_take (i := 3) (v := ?_) (by kernel_rfl) rfl (by kernel_rfl) (by kernel_rfl) (by kernel_rfl) (fun _ _ _ h => calm_panic h) ⟨Or.inl ⟨by rfl, ?_⟩, fun _ => rfl⟩ aa ?_
  rotate_left
  · intro w' _
    (go_simp <;> with_reducible rfl)
  refine heldIn_take (i := 4) (v := ?_) (by kernel_rfl) rfl (by kernel_rfl) (by kernel_rfl) (by kernel_rfl) (fun _ _ _ h => calm_panic h) ⟨Or.inl ⟨by rfl, ?_⟩, fun _ => rfl⟩ aa ?_
  rotate_left
  · intro w' hS
    have c0 := (qaF hS.2.2 1).trans HK.out.2.1
    (go_simp <;> with_reducible rfl)
  refine heldIn_take (i := 5) (v := ?_) (by kernel_rfl) rfl (by kernel_rfl) (by kernel_rfl) (by kernel_rfl) (fun _ _ _ h => calm_panic h) ⟨Or.inl ⟨by rfl, ?_⟩, fun _ => rfl⟩ aa ?_
  rotate_left
  · intro w' hS
    have c0 := (qaF hS.1 0).trans HK.out.2.2.1
    (go_simp <;> with_reducible rfl)
  refine heldIn_take (i := 6) (v := ?_) (by kernel_rfl) rfl (by kernel_rfl) (by kernel_rfl) (by kernel_rfl) (fun _ _ _ h => calm_panic h) ⟨Or.inl ⟨by rfl, ?_⟩, fun _ => rfl⟩ aa ?_
  rotate_left
  · intro w' hS
    have c0 := (qaF hS.2.1 0).trans HK.out.2.2.2.1
    (go_simp <;> with_reducible rfl)
  refine qcI (i:=0) (j:=7) (by kernel_rfl) rfl rfl (fun K hK=> ?_) (fun K hK=> ?_)
  focus
   go_simp
   refine hK _ _ aa ?_;clear hK K;refine qam (i:=7) (by kernel_rfl) rfl (fun K hK=> ?_)
  all_goals
   go_simp
   refine (KCl.out _ da.out).mono ?_;rintro e w2 ⟨Ar,nr,crr,rfl,b5,bn⟩;have bm:=Lib.hid bn;have cz:=Lib.hid b5;have bg:=Lib.hid (af.out _ bn);refine hK _ _ bg.out ?_;clear hK K b5 bn
   refine heldIn_take (i := 8) (v := ?_) (by kernel_rfl) rfl (by kernel_rfl) (by kernel_rfl) (by kernel_rfl) (fun _ _ _ h => calm_panic h) ⟨Or.inl ⟨by rfl, ?_⟩, fun _ => rfl⟩ bg.out ?_
   rotate_left
   · intro w' _
     (go_simp <;> with_reducible rfl)
  rotate_left;refine qcI (i:=0) (j:=9) (by kernel_rfl) rfl rfl (fun K hK=> ?_) (fun K hK=> ?_)
  focus
   have kl2:=(bm.out.cell (qaa kl)).trans kl
   go_simp
   refine hK _ _ bg.out ?_;clear hK K kl2;refine qam (i:=9) (by kernel_rfl) rfl (fun K hK=> ?_)
  rotate_left;rotate_left
  focus
   refine qam (i:=9) (by kernel_rfl) rfl (fun K hK=> ?_)
  all_goals
   go_simp
   obtain ⟨wt,a9⟩:∃wt,wt=w2.alloc (.cells #[.int .i64 X.1.1,.slice Ar nr crr] 62):=⟨_,rfl⟩;have bd:Below w2.heap.size w2 wt:=(by rw [a9];exact (Below.refl _ _).alloc (Nat.le_refl _) _);have au:Hid (Below Wc.heap.size Wc wt):=bm.out.trans (bd.mono bm.out.size);have cy:=Lib.hid (cz.out.below bd);have cn:Hid (RdG EP wt wt.heap.size (.slice (some ⟨w2.heap.size,0,none⟩) 1 1) [(X.1.1,Ar,nr,crr)]):=by
    show RdG _ _ _ _ _;rw [a9];exact RdG.one1 (E:=EP) w2 62 rfl
   rw [<-a9];refine hK _ _ (af.out _ au.out) ?_;clear hK K a9 bd
  rotate_left;rotate_left
  focus
   have kl2:=(au.out.cell (qaa kl)).trans kl;refine qam (i:=0) (by kernel_rfl) rfl (fun K hK=> ?_)
   go_simp
   refine hK _ _ (af.out _ au.out) ?_;clear hK K kl2
  all_goals
   have be:=ad.out.on au.out;have aj:=Lib.hid be;have cg:(cs.length+ [(X.1.1,Ar,nr,crr)].length)*32<=140737488355328:=(by rw [be.row.len,dc.out,List.length_singleton];omega);have dg:=Lib.hid cg;clear be cg;refine qam (i:=10) (by kernel_rfl) rfl (fun K hK=> ?_);refine qc1 EP rfl _ _ 22 62 rfl Tryz.underlying22 qgS rfl (by decide) W.heap.size _ cs _ [(X.1.1,Ar,nr,crr)] wt.heap.size rfl aj.out.row.row rfl cn.out (by simp) dg.out aj.out.below.size ?_;intro v3 w3 ao hg bh;obtain ⟨q0,ar,b7⟩:=aj.out.push (x:=(X.1.1,Ar,nr,crr)) (p:=(X.1.1,delS f t X.1.2)) rfl cy.out ao hg;obtain ⟨A8,n8,c8,e8⟩:=ao.sl;subst e8;have d0:=q0.cell;have d1:=q0.frozen;have bf:Boxed w3 B 2 (.int .i64 f):=qaG aj.out.from_ hg aj.out.row.row (by decide);have ce:Boxed w3 (B+1) 2 (.int .i64 t):=qaG aj.out.to_ hg aj.out.row.row (by decide);have a8:wt.heap[ab]? =some (.cells #[.int .i64 X.1.1,.slice As X.1.2.length sc] 71 (0,0)):=(au.out.block _ bp.out.2).trans cf.out;have cj:w3.heap[ab]? =wt.heap[ab]? :=hg.block _ (Array.getElem?_eq_some_iff.1 a8).1 (qa0 a8 aj.out.row.row (by decide));have b4:Hid (w3.heap[B]? =Wc.heap[B]? ∧w3.heap[B+1]? =Wc.heap[B+1]? ∧w3.heap[ab]? =Wc.heap[ab]?):=⟨Eq.trans bf (Eq.symm ad.out.from_),Eq.trans ce (Eq.symm ad.out.to_),cj.trans (a8.trans cf.out.symm)⟩;have c9:Hid ((w3.setCell ⟨B+1+1,0,none⟩ (.slice A8 n8 c8)).heap[B]? =Wc.heap[B]? ∧(w3.setCell ⟨B+1+1,0,none⟩ (.slice A8 n8 c8)).heap[B+1]? =Wc.heap[B+1]? ∧(w3.setCell ⟨B+1+1,0,none⟩ (.slice A8 n8 c8)).heap[ab]? =Wc.heap[ab]?):=⟨Eq.trans ar.from_ (Eq.symm ad.out.from_),Eq.trans ar.to_ (Eq.symm ad.out.to_),(Below.heap_setCell _ _ _ _ bp.out.1).trans b4.out.2.2⟩
   have dn:=ar.nb.cell;have fn9:=ar.nb.frozen;obtain ⟨bz,b0⟩:=ar.putN (m':=m+1);have di:=Lib.hid bz;have de:Hid (KpT ktF W.heap.size Wb ((w3.setCell ⟨B+1+1,0,none⟩ (.slice A8 n8 c8)).setCell ⟨B+1+1+1,0,none⟩ (.int .i64 ((m:Int)+1)))):=(bj.out.trans (KpT.below au.out ad.out.below.size)).trans (b7.trans b0);refine hK _ _ b4.out ?_;clear hK K ao hg bh q0 ar b7 bz b0 bf ce a8 cj;refine qam (i:=11) (by kernel_rfl) rfl (fun K hK=> ?_)
   go_simp
   refine hK _ _ c9.out ?_;clear hK K;refine qbc (by kernel_rfl) ⟨rfl, ?_⟩ _;gi_wp2_with fail;rw [HL.out,HM.out];exact ⟨de.out,_,_,di.out⟩
 case done=>
  rintro xs W0 W2 hS ⟨lv,cs,hI⟩ ac cx ax;have ae:=hI.on ac;have bx:(xs.map fun x=>(x.1.1,delS f t x.1.2))=ofB c ids f t:=by
   unfold ofB;rw [<-hS,List.map_map];rfl
  have bv:xs.length=(ofV c ids f t).2:=by
   show xs.length=((qae c).filter (qaz ids f t)).length;rw [<-hS,List.length_map]
  rw [bx,bv] at ae;obtain ⟨m,hm⟩:∃m,m=(ofV c ids f t).2:=⟨_,rfl⟩;obtain ⟨L,hL⟩:∃L,L=ofB c ids f t:=⟨_,rfl⟩;rw [<-hm,<-hL] at ae;obtain ⟨Al,nl,cl,rfl⟩:=ae.row.row.sl;have a3:∀p ∈ L,0<=p.1∧p.1<=1073741824∧p.2.length<=4096:=fun p hp=>by
   rw [hL] at hp;unfold ofB at hp;obtain ⟨b,hb,rfl⟩:=List.mem_map.1 hp;obtain ⟨bt,_,_⟩:=a5.out b (List.mem_filter.1 hb).1;have cp:=bt.2.2.1;have hd:(delS f t b.2).length<=b.2.length:=List.length_filter_le _ _;exact ⟨bt.1,bt.2.1,by show (delS f t b.2).length<=_;omega⟩
  have df:L.length<=2000:=by
   have h1:=List.length_filter_le (qaz ids f t) (qae c);have h2:=am.out.2.2;rw [hL];unfold ofB;rw [List.length_map];omega
  have dl:=qgO (l:=L) (fun p hp=>(a3 p hp).2.2);have hcl:qag L=(ofV c ids f t).1:=by rw [hL];rfl
  have bi:=Lib.hid hcl;have c0:=Lib.hid hm;have KC:Hid (∀w',Below W2.heap.size W2 w'->CallsIn Fence.wide 39 Tryz.prog 43 #[.slice Al nl cl] w' fun e w''=>∃A n c,e=.returned (.slice A n c)∧RdO w'' W.heap.size (.slice A n c) (qag L)∧Below W2.heap.size W2 w''):=fun w' h=>callsIn_wide.2 ((qh7 _ L w' (HT.out.below (ae.below.trans (h.mono ae.below.size))) ((ae.row.on h).rdP) (fun p hp=>qnK (a3 p hp).1 (a3 p hp).2.1) (by omega) (by omega)).mono (by
   rintro e w'' ⟨r,rfl,ho,hb⟩;obtain ⟨A,c',rfl,_⟩:=id ho;exact ⟨A,_,c',rfl,ho.lower (Nat.le_trans ae.below.size h.size),h.trans (hb.mono h.size)⟩))
  have b6:=Lib.hid ae;have a6:=Lib.hid (And.intro ae.lb.cell ae.nb.cell);have c6:=Lib.hid ax;have cm:w9.heap.size<W2.heap.size:=Nat.lt_of_lt_of_le cx ac.size;have cq:=Lib.hid cm;clear hI ae bx bv hm hL a3 df dl hcl ac ax hS;have aa:Below W2.heap.size W2 (World.drew W2):=((Ext.refl W2).drewN _).below;gi_wp2_with fail;refine qbV ?_;refine wpIn_region_any (by kernel_rfl) ?_;change wpAnyIn _ _ _ _ _ _ _ _ _ (World.drew _);refine qaL (S:=fun w'=>Below W2.heap.size W2 w') _ _ _ _ ?_
  refine heldIn_take (i := 0) (v := ?_) (by kernel_rfl) rfl (by kernel_rfl) (by kernel_rfl) (by kernel_rfl) (fun _ _ _ h => calm_panic h) ⟨Or.inl ⟨by rfl, ?_⟩, fun _ => rfl⟩ aa ?_
  rotate_left
  · intro w' hS
    have c0 := (hS.cell (qaa a6.out.1)).trans a6.out.1
    (go_simp <;> with_reducible rfl)
  refine heldIn_take (i := 2) (v := ?_) (by kernel_rfl) rfl (by kernel_rfl) (by kernel_rfl) (by kernel_rfl) (fun _ _ _ h => calm_panic h) ⟨Or.inl ⟨by rfl, ?_⟩, fun _ => rfl⟩ aa ?_
  rotate_left
  · intro w' hS
    have c0 := (hS.cell (qaa a6.out.2)).trans a6.out.2
    (go_simp <;> with_reducible rfl)
  refine qam (i:=1) (by kernel_rfl) rfl (fun K hK=> ?_)
  go_simp
  refine (KC.out _ aa).mono ?_;rintro e w3 ⟨A3,n3,c3,rfl,ch,bo⟩;have dj:=Lib.hid ch;have a7:=Lib.hid bo;refine hK _ _ bo ?_;clear hK K ch bo KC
  refine heldIn_take (i := 3) (v := ?_) (by kernel_rfl) rfl (by kernel_rfl) (by kernel_rfl) (by kernel_rfl) (fun _ _ _ h => calm_panic h) ⟨Or.inl ⟨by rfl, ?_⟩, fun _ => rfl⟩ a7.out ?_
  rotate_left
  · intro w' _
    (go_simp <;> with_reducible rfl)
  refine qam (i:=4) (by kernel_rfl) rfl (fun K hK=> ?_)
  go_simp
  refine hK _ _ a7.out ?_;clear hK K;refine qbc (by kernel_rfl) ⟨rfl, ?_⟩ _;gi_wp2_with fail;have bc:w3.heap[D0+4]? =some (.deferred (some [])):=by rw [<-dh];exact (a7.out.block _ cq.out).trans c6.out
  refine ⟨by simp,.inl ⟨_,_,rfl,run_takeDeferred bc, ?_⟩⟩;have cv:Below W.heap.size W w3:=b6.out.below.trans (a7.out.mono b6.out.below.size);have c7:RdO (w3.putObj (D0+4) (.deferred none)) W.heap.size (.slice A3 n3 c3) (qag L):=dj.out.st (G:=fun b=>b≠D0+4) ⟨by rw [World.putObj_size];exact Nat.le_refl _,fun b hb=>World.putObj_heap_other hb⟩
   (fun g cc z h e=>by rw [e,bc] at h;cases h) (fun g cc z h e=>by rw [e,bc] at h;cases h)
  exact ⟨.tuple #[.slice A3 n3 c3,.int .i64 (m:Int)],by unfold results;rw [hr];go_simp,_,by rw [<-c0.out],by rw [<-bi.out];exact c7,qbN cv (by have :=co.out;omega) _⟩
 case stop=>rintro xs W0 W2 _ hX;exact hX.elim
end Go.Proofs.YtnkelahimiipjaaGreatDoor
namespace Go.Proofs.YtnkelahimiipjaaGreatDoor
open Go.RowKit Go.Sort
theorem qfi (v:Value) (l:List Pts) (W:World) (hR:RdP W W.heap.size v l) (h1:l.length<=1048576) (h2:qad l<=1048576):
  Calls Tryz.prog 10 #[v] W fun e w'=>e=.returned (.bool (decide (l.length+qad l<=200)))∧w'=W:=by
 obtain ⟨A,c,rfl,hc,hA⟩:=hR;obtain ⟨n,hn⟩:∃n,n=l.length:=⟨_,rfl⟩;rw [<-hn] at hc h1 ⊢;have HN:=Lib.hid hn;have HA:=Lib.hid hA;have HM:=Lib.hid h2;clear hn hA hc h2;go_enter Tryz.func10,Tryz.ntmps10;go_wp2_with fail
 go_loopw [3,4] (fun s i wl=>∃(k m:Nat),k<=n∧i=.int .i64 k∧s=.int .i64 m∧Hid (m=n+qad (l.take k))∧m<=2097152∧wl=W) (fun _ i _=>n-(intOf i).toNat)
 case atStart=>exact ⟨0,n,Nat.zero_le _,rfl,rfl,rfl,by omega,rfl⟩
 case round=>
  obtain ⟨k,m,hk,rfl,rfl,HF,hm,rfl⟩:=hrel;by_cases hlt:k<n
  ·have aa:k<l.length:=(by rw [<-HN.out];exact hlt);rcases HA.out with h0|⟨b,o,e,hb,ab⟩
   ·subst h0;simp at aa
   subst e;obtain ⟨p,hp⟩:∃p,p=l[k]:=⟨_,rfl⟩;obtain ⟨_,ps,c3,af,_⟩:PtAt wr wr.heap.size b (o+k*2) p:=(by rw [hp];exact ab k aa);obtain ⟨A3,c4,rfl,_,_⟩:=af;have HT:Hid (qad (l.take (k+1))=qad (l.take k)+p.2.length):=by
    show _=_;rw [List.take_succ_eq_append_getElem aa,<-hp,qdm]
   obtain ⟨x,hx⟩:∃x,x=p.2.length:=⟨_,rfl⟩;rw [<-hx] at c3 HT;have ae:=qbU l (k+1);have ag:m+x<=2097152:=(by have :=HF.out;have :=HT.out;have :=HM.out;omega);have ad:Hid (m+x=n+qad (l.take (k+1))):=(by have :=HF.out;have :=HT.out;show _=_;omega);have i1:(k:Int)<(n:Int):=(by omega);clear hp hx ab hb aa ae;go_wp2_with fail;go_roundw
   case rel=>exact ⟨k+1,m+x,by omega,by go_num,by go_num,ad.out,ag,by first|trivial|rfl⟩
   case measure=>simp [intOf];omega
  ·have ac:k=n:=(by omega);have HE:Hid (m=n+qad l):=by
    have h:=HF.out;rw [ac,HN.out,List.take_length] at h;rw [HN.out];exact h
   have i1:¬(k:Int)<(n:Int):=(by omega);have HQ:Hid (decide ((m:Int)<=200)=decide (n+qad l<=200)):=by
    show _=_;rw [<-HE.out];by_cases h:m<=200
    ·rw [decide_eq_true h,decide_eq_true (by omega)]
    ·rw [decide_eq_false h,decide_eq_false (by omega)]
   go_wp2_with fail;go_ret;exact ⟨by rw [<-HQ.out];rfl,by first|trivial|rfl⟩
end Go.Proofs.YtnkelahimiipjaaGreatDoor
namespace Go.Proofs.YtnkelahimiipjaaGreatDoor
def L20:List Smp:=(List.range 20).map (fun (i:Nat)=>(10*((i:Int)+1),3,0,0))
def l20:List Pts:=[(1,L20)]
theorem qie:qag l20=l20:=by decide+kernel
theorem qiJ:qad l20=20:=by decide+kernel
theorem qp9:(qae l20).length=2:=by decide+kernel
def s20:List Pts:=[(1,[(170,3,0,0),(180,3,0,0),(190,3,0,0),(200,3,0,0)])]
theorem of20:qag (ofB l20 [1] 170 1000)=s20:=by decide+kernel
theorem qqu:((qae l20).filter (qaz [1] 170 1000)).length=1:=by decide+kernel
theorem qpE:qcW l20=(10,200,true):=by decide+kernel
theorem qfM:qaS l20=(0,qcj (qae l20)):=qfu (by decide) qie (by rw [qie,qiJ];omega)
theorem qoa:qci (qcj (qae l20))=some l20:=qeC qfM
theorem cl20:Clean l20:=by rw [<-qie];exact qaj _
end Go.Proofs.YtnkelahimiipjaaGreatDoor
namespace Go.Proofs.YtnkelahimiipjaaGreatDoor
open Go.RowKit Go.Sort
def Prt (w:World) (pb:Nat) (c:List Pts):Prop:=∃hb pv hv,qdG w pb hb pv∧w.cell? ⟨hb,0,none⟩=some hv∧RdP w w.heap.size pv c∧RdP w w.heap.size hv (qae c)
theorem Prt.on {w w':World} {pb:Nat} {c:List Pts} (h:Prt w pb c) (k:Below w.heap.size w w'):Prt w' pb c:=by
 obtain ⟨hb,pv,hv,h1,h2,h3,h4⟩:=h;exact ⟨hb,pv,hv,⟨(k.cell (qaa h1.1)).trans h1.1,(k.cell (qaa h1.2)).trans h1.2⟩,(k.cell (qaa h2)).trans h2,h3.on k,h4.on k⟩
structure Fil (c:List Pts):Prop where
 cl:Clean c
 fix:qag c=c
 many:qad c<=2000
theorem Fil.of {c:List Pts} {b:List Nat} (h:qaS c=(0,b)):Fil c:=by
 obtain ⟨_,h1,h2⟩:=qgp h;exact ⟨by rw [<-h1];exact qaj c,h1,by rw [h1] at h2;exact h2⟩
theorem Fil.wf {c:List Pts} (h:Fil c):∀p ∈ c,(Lit.int .i64 p.1).wf=true:=fun p hp=>by
 have h3:=qea h.cl p hp;exact qnK h3.1 h3.2.1
theorem Fil.len {c:List Pts} (h:Fil c):c.length<=1000000:=(qa3 h.cl h.many).1
variable {w:World} {pb:Nat} {c:List Pts}
theorem qml (h:Prt w pb c) (T:Tabs w) (hc:Fil c):Calls Tryz.prog 22 #[.pointer (some ⟨pb,0,none⟩)] w fun e w'=>e=.returned (.int .i64 (qad c:Nat))∧Below w.heap.size w w':=by
 obtain ⟨hb,pv,hv,h1,h2,h3,h4⟩:=h;have hm:=hc.many;have hl:=hc.len;have k:=qmN pv c w T h3 hc.wf (by omega) (by omega);rw [hc.fix] at k;exact qkM pb hb pv _ _ w h1 k
theorem qfn (h:Prt w pb c):Calls Tryz.prog 24 #[.pointer (some ⟨pb,0,none⟩)] w fun e w'=>e=.returned (.int .i64 ((qae c).length:Nat))∧w'=w:=by
 obtain ⟨hb,pv,hv,h1,h2,h3,h4⟩:=h;obtain ⟨A,cc,rfl,_⟩:=h4;exact qgA pb hb pv A _ cc w h1 h2
theorem qiB (h:Prt w pb c) (T:Tabs w) (hc:Fil c):Calls Tryz.prog 20 #[.pointer (some ⟨pb,0,none⟩)] w fun e w'=>e=.returned (.tuple #[.int .i64 (qcW c).1,.int .i64 (qcW c).2.1])∧Below w.heap.size w w':=by
 obtain ⟨hb,pv,hv,h1,h2,h3,h4⟩:=h;have hm:=hc.many;have hl:=hc.len;have k:=qjl pv c w T h3 hc.wf (by omega) (by omega);rw [hc.fix] at k;exact qjJ pb hb pv _ _ (qcW c).2.2 _ w h1 k
theorem qhB (h:Prt w pb c) (T:Tabs w) (hc:Fil c):Calls Tryz.prog 16 #[.pointer (some ⟨pb,0,none⟩)] w fun e w'=>∃r,e=.returned r∧RdO w' w.heap.size r c∧Below w.heap.size w w':=by
 obtain ⟨hb,pv,hv,h1,h2,h3,h4⟩:=h;have hm:=hc.many;have hl:=hc.len;have k:=qh7 pv c w T h3 hc.wf (by omega) (by omega);rw [hc.fix] at k;exact qkT pb hb pv (fun r w'=>RdO w' w.heap.size r c∧Below w.heap.size w w') w h1 k
theorem qld (h:Prt w pb c) (T:Tabs w) (hc:Fil c):Calls Tryz.prog 27 #[.pointer (some ⟨pb,0,none⟩)] w fun e w'=>∃r,e=.returned r∧OwnG EI 3 w' w.heap.size r (c.map (fun p=>p.1))∧Below w.heap.size w w':=
 qmg _ c w hc.len ((qhB h T hc).mono fun _ _ ⟨r,h1,h2,h3⟩=>⟨r,h1,h2.rdP,h3⟩)
theorem qiF (h:Prt w pb c) (T:Tabs w) (hc:Fil c) (iv:Value) (ids:List Int) (f t:Int) (hI:RdZ w w.heap.size iv ids) (hil:ids.length<=1000000):Calls Tryz.prog 18 #[.pointer (some ⟨pb,0,none⟩),iv,.int .i64 f,.int .i64 t] w fun e w'=>OfR w c ids f t e w':=by
 obtain ⟨hb,pv,hv,h1,h2,h3,h4⟩:=h;exact qoi pb hb pv hv iv c ids f t w T h1 h2 h4 hI hc.cl hc.many hil
theorem qms (v:Value) (b:List Nat) (W:World) (T:Tabs W) (hT:TabT W) (hH:TabH W) (hR:RdG EB W W.heap.size v b) (h8:∀c ∈ b,c<256) (hl:b.length<=240000):
  Calls Tryz.prog 13 #[v] W fun e w'=>Below W.heap.size W w'∧((qci b=none∧e=.returned (.tuple #[.pointer none,.int .i64 170]))∨∃c pb,qci b=some c∧Fil c∧e=.returned (.tuple #[.pointer (some ⟨pb,0,none⟩),.int .i64 0])∧Prt w' pb c):=by
 refine (qko v b W T hT hH hR h8 hl).mono ?_;rintro e w' ⟨hB,h|⟨c,pb,hb,pv,hv,h1,h2,h3,_,h5,h6,h7⟩⟩
 ·exact ⟨hB,.inl h⟩
 ·exact ⟨hB,.inr ⟨c,pb,h1,Fil.of (qlm h1).1,h2,hb,pv,hv,h3,h5,h6.rdP,h7⟩⟩
theorem qds {c:List Pts} (h:Fil c) (hm:qad c<=200):(qcj (qae c)).length<=220000:=by
 have h1:=(qbH c (qbK h.cl)).1;have h2:=qdu (fun b hb=>(qbj h.cl b hb).1) (bl:=qae c);have h3:=qbT h.cl (by omega);have h4:=qdf h.cl (qae c) 0 (fun b hb=>hb) (by omega);have h5:=qax 1 (qae c).length (by omega);have h6:(qa4 (qae c)).length=(putV (qae c).length).length+(qaD 0 (qae c)).length:=by unfold qa4;rw [List.length_append]
 have h7:=qbO 4 (qa4 (qae c));have h8:=qax 9 (qa4 (qae c)).length (by omega);unfold qcj qdl;rw [List.length_append,List.length_append,h7];simp only [List.length_cons,List.length_nil];omega
end Go.Proofs.YtnkelahimiipjaaGreatDoor
namespace Go.Proofs.YtnkelahimiipjaaGreatDoor
open Go.RowKit Go.Sort
theorem qpG {k:Nat} (h:k<20):L20.take (k+1)=L20.take k++[(10*((k:Int)+1),3,0,0)]:=by
 have hl:k<L20.length:=by unfold L20;simp;exact h
 rw [List.take_succ_eq_append_getElem hl];have e:L20[k]? =some (10*((k:Int)+1),3,0,0):=by
  unfold L20;rw [List.getElem?_map,List.getElem?_range h];rfl
 rw [List.getElem?_eq_getElem hl] at e;injection e with e;rw [e]
theorem qdE (W:World) (T:Tabs W) (hT:TabT W) (hH:TabH W):
  Calls Tryz.prog 9 #[] W fun e w'=>e=.returned (.bool true)∧Below W.heap.size W w':=by
 have HT:=Lib.hid hT;have HH:=Lib.hid hH;have ac:=Lib.hid T;clear T hT hH;go_enter Tryz.func9,Tryz.ntmps9;go_wp2_with fail;have bv:(W.alloc (.cells #[.int .i64 1,.slice none 0 0] 62)).heap[W.heap.size]? =some (.cells #[.int .i64 1,.slice none 0 0] 62 (0,0)):=heap_alloc_new W _;have b2:=Lib.hid bv;have bz:Hid (Below W.heap.size W (W.alloc (.cells #[.int .i64 1,.slice none 0 0] 62))):=(Below.refl _ _).alloc (Nat.le_refl _) _;clear bv
 go_loopw [2] (fun iv wl=>∃(k:Nat) (A:Option Addr) (c:Nat),k<=20∧iv=.int .i64 ((k:Int)+1)∧Hid (wl.heap[W.heap.size]? =some (.cells #[.int .i64 1,.slice A k c] 62 (0,0)))∧Hid (OwnG ES 66 wl W.heap.size (.slice A k c) (L20.take k))∧Hid (Below W.heap.size W wl)) (fun iv _=>21-(intOf iv).toNat)
 case atStart=>exact ⟨0,none,0,Nat.zero_le _,rfl,b2.out,OwnG.nil _ _,bz.out⟩
 case round=>
  obtain ⟨k,A,c,hk,rfl,HP,HO,HB⟩:=hrel;have p1:wr.cell? ⟨W.heap.size,1,none⟩=some (.slice A k c):=by have h:=HP.out;simp [World.cell?,h]
  by_cases hlt:k<20
  ·have i1:(k:Int)+1<=20:=(by omega);have bk:=(Array.getElem?_eq_some_iff.1 HP.out).1;have bp:(L20.take k).length=k:=(by rw [List.length_take];unfold L20;simp;omega);have HC:Hid (CellG ES (wr.alloc (.cells #[.int .i64 (10*((k:Int)+1)),.int .i64 3,.int .i64 0,.int .i64 0] 66)) wr.heap.size 0 (10*((k:Int)+1),3,0,0)):=CellG.mk (E:=ES) (w:=wr) (cs:= #[.int .i64 (10*((k:Int)+1)),.int .i64 3,.int .i64 0,.int .i64 0]) rfl 66;have hl:((L20.take k).length+1)*32<=140737488355328:=(by rw [bp];omega);have HL:=Lib.hid hl;have bo:Hid (W.heap.size<=(wr.alloc (.cells #[.int .i64 (10*((k:Int)+1)),.int .i64 3,.int .i64 0,.int .i64 0] 66)).heap.size):=(by have :=HB.out.size;show _<=_;simp;omega);clear hl bp;go_wp2_with (first|(at_builtin;refine qd1 ES rfl _ _ 60 66 rfl Tryz.underlying60 qn6 rfl (by decide) W.heap.size _ (L20.take k) (10*((k:Int)+1),3,0,0) rfl (HO.out.alloc _) _ 0 1 rfl HC.out HL.out bo.out ?_)|fail);intro v2 w2 aa hg bc;rw [<-qpG hlt] at aa;obtain ⟨A2,n2,c2,e2⟩:=aa.sl;subst e2;have e3:=aa.len;have e4:(L20.take (k+1)).length=k+1:=(by rw [List.length_take];unfold L20;simp;omega);rw [e4] at e3;subst e3;have ao:Below wr.heap.size wr (wr.alloc (.cells #[.int .i64 (10*((k:Int)+1)),.int .i64 3,.int .i64 0,.int .i64 0] 66)):=(Below.refl _ _).alloc (Nat.le_refl _) _;have av:=(ao.block _ bk).trans HP.out;have ab:w2.heap[W.heap.size]? =some (.cells #[.int .i64 1,.slice A k c] 62 (0,0)):=(hg.block _ (Array.getElem?_eq_some_iff.1 av).1 (qa0 av (HO.out.alloc _) (by decide))).trans av
   have q1:w2.cell? ⟨W.heap.size,1,none⟩=some (.slice A k c):=(by simp [World.cell?,ab]);have q2:w2.frozen? ⟨W.heap.size,1,none⟩=false:=(by simp [World.frozen?,ab]);have aq:=Lib.hid (qmo ab (.slice A2 (k+1) c2));have b6:Hid (OwnG ES 66 (w2.setCell ⟨W.heap.size,1,none⟩ (.slice A2 (k+1) c2)) W.heap.size (.slice A2 (k+1) c2) (L20.take (k+1))):=aa.kept (qb9 w2 W.heap.size 1 (.slice A2 (k+1) c2)) (.inr (qa0 ab aa (by decide)).symm);have ae:Hid (Below W.heap.size W (w2.setCell ⟨W.heap.size,1,none⟩ (.slice A2 (k+1) c2))):=((HO.out.below ao).step (HB.out.trans (ao.mono HB.out.size)) bo.out hg).setCell (Nat.le_refl _) _;clear aa hg bc ao av ab e4 p1 bk;go_wp2_with fail;go_roundw
   case rel=>exact ⟨k+1,A2,c2,by omega,by go_num,aq.out,b6.out,ae.out⟩
   case measure=>simp [intOf];omega
  ·have bi:k=20:=(by omega);subst bi;have p0:wr.cell? ⟨W.heap.size,0,none⟩=some (.int .i64 1):=(by have h:=HP.out;simp [World.cell?,h]);have HL:Hid (OwnG ES 66 wr W.heap.size (.slice A 20 c) L20):=by
    have h:=HO.out;rw [List.take_of_length_le (by unfold L20;simp)] at h;exact h
   obtain ⟨Wl,au⟩:∃Wl,Wl=wr.alloc (.cells #[.int .i64 1,.slice A 20 c] 62):=⟨_,rfl⟩;have al:Below wr.heap.size wr Wl:=(by rw [au];exact (Below.refl _ _).alloc (Nat.le_refl _) _);have ar:Wl.heap[wr.heap.size]? =some (.cells #[.int .i64 1,.slice A 20 c] 62 (0,0)):=(by rw [au];exact heap_alloc_new wr _);have bl:Hid (RdP Wl Wl.heap.size (.slice (some ⟨wr.heap.size,0,none⟩) 1 1) l20):=by
    refine ⟨_,1,rfl,Nat.le_refl _,.inr ⟨wr.heap.size,0,rfl,(Array.getElem?_eq_some_iff.1 ar).1,fun i hi=> ?_⟩⟩;have a4:i=0:=(by have :i<1:=hi;omega);subst a4;exact ⟨by simp [World.cell?,ar];rfl,.slice A 20 c,by simp [World.cell?,ar],(qkD (HL.out.below al)).rd,(qkD (HL.out.below al)).nz⟩
   have ak:Hid (Below W.heap.size W Wl):=HB.out.trans (al.mono HB.out.size);have tabs:∀w,Below W.heap.size W w->TabT w:=fun w h i hi=>(h.cell (qaa (HT.out i hi))).trans (HT.out i hi);have b4:=Lib.hid tabs;have KB:=Lib.hid (qcJ _ l20 Wl (ac.out.below ak.out) (tabs _ ak.out) (TabH.below HH.out ak.out) bl.out (by decide+kernel) (by decide+kernel) (by decide+kernel));have b0:=Lib.hid au;clear au al ar tabs;go_wp2_with fail;rw [<-b0.out];refine KB.out.mono ?_;rintro e w1 ⟨v1,rfl,am,ay⟩;rw [qfM] at am ⊢;dsimp only;obtain ⟨A1,n1,c1,rfl⟩:=am.sl;have ai:Hid (Below W.heap.size W w1):=ak.out.trans (ay.mono ak.out.size);have a7:=Lib.hid (bl.out.on ay);have KO:=Lib.hid (qms _ _ w1 (ac.out.below ai.out) (b4.out _ ai.out) (TabH.below HH.out ai.out) am.rd (qc8 (fun b hb=>(qbj cl20 b hb).1.2.2.1)) (Nat.le_trans (qds (c:=l20) (Fil.of qfM) (by rw [qiJ];omega)) (by omega)));clear am ay KB;go_wp2_with fail;refine KO.out.mono ?_;rintro e w2 ⟨bg,⟨hn,_⟩|⟨c9,pb,ho,_,rfl,ab⟩⟩
   ·rw [qoa] at hn;cases hn
   rw [qoa] at ho;injection ho with ho;subst ho;have bw:Hid (Below W.heap.size W w2):=ai.out.trans (bg.mono ai.out.size);have bq:=Lib.hid ab;have bd:=Lib.hid (a7.out.on bg);have ah:=Lib.hid (Fil.of qfM);clear bg ab KO p0 p1;obtain ⟨Wi,an⟩:∃Wi,Wi=w2.alloc (.cells #[.int .i64 1] 3):=⟨_,rfl⟩;have af:Below w2.heap.size w2 Wi:=(by rw [an];exact (Below.refl _ _).alloc (Nat.le_refl _) _);have bb:Wi.heap[w2.heap.size]? =some (.cells #[.int .i64 1] 3 (0,0)):=(by rw [an];exact heap_alloc_new w2 _);have bt:RdZ Wi Wi.heap.size (.slice (some ⟨w2.heap.size,0,none⟩) 1 1) [1]:=⟨_,1,rfl,Nat.le_refl _,.inr ⟨w2.heap.size,0,rfl,(Array.getElem?_eq_some_iff.1 bb).1,fun i hi=>by
    have a4:i=0:=(by have :i<1:=hi;omega);subst a4;simp [World.cell?,bb]⟩⟩
   have bh:Below W.heap.size W Wi:=bw.out.trans (af.mono bw.out.size);have KF:=Lib.hid (qiF (bq.out.on af) (ac.out.below bh) ah.out _ [1] 170 1000 bt (by decide));have bs:=Lib.hid bh;have b3:=Lib.hid (bq.out.on af);have a1:=Lib.hid (bd.out.on af);have b5:=Lib.hid an;clear an af bb bt bh;go_wp2_with fail;rw [<-b5.out];refine KF.out.mono ?_;rintro e w3 ⟨r,rfl,a0,ap⟩;rw [show (ofV l20 [1] 170 1000).1=s20 from of20] at a0;rw [show (ofV l20 [1] 170 1000).2=1 from qqu];have ae:Hid (Below W.heap.size W w3):=bs.out.trans (ap.mono bs.out.size);have aq:=Lib.hid (b3.out.on ap);have a9:=Lib.hid (a1.out.on ap);obtain ⟨Ar,cr,rfl,b8,h0|⟨b,o,rfl,hb,bx⟩⟩:=a0.rdP
   ·cases h0
   obtain ⟨_,sv,ad,⟨A4,c4,rfl,_⟩,_⟩:=bx 0 (by decide);have ad:w3.cell? ⟨b,o+1,none⟩=some (.slice A4 4 c4):=ad;have b7:=Lib.hid ad;have KSp:=Lib.hid (qiB aq.out (ac.out.below ae.out) ah.out);rw [qpE] at KSp;clear a0 ap bx KF;go_wp2_with fail;refine KSp.out.mono ?_;rintro e w4 ⟨rfl,aj⟩;have a2:Hid (Below W.heap.size W w4):=ae.out.trans (aj.mono ae.out.size);have bu:=Lib.hid (aq.out.on aj);have bf:=Lib.hid (a9.out.on aj);have bj:=Lib.hid ((aj.cell (qaa ad)).trans ad);have KLn:=Lib.hid (qml bu.out (ac.out.below a2.out) ah.out);rw [qiJ] at KLn;clear aj ad KSp;go_wp2_with fail;refine KLn.out.mono ?_;rintro e w5 ⟨rfl,ag⟩;have ba:Hid (Below W.heap.size W w5):=a2.out.trans (ag.mono a2.out.size);have a3:=Lib.hid (bu.out.on ag);have ax:=Lib.hid (bf.out.on ag);have s5:w5.cell? ⟨b,o+1,none⟩=some (.slice A4 4 c4):=(ag.cell (qaa bj.out)).trans bj.out;have KBk:=Lib.hid (qfn a3.out);rw [qp9] at KBk;clear ag KLn;go_wp2_with fail;refine KBk.out.mono ?_;rintro e wx ⟨rfl,az⟩;have az:=az.symm;subst az;have KId:=Lib.hid (qld a3.out (ac.out.below ba.out) ah.out);clear KBk;go_wp2_with fail;refine KId.out.mono ?_;rintro e w6 ⟨r6,rfl,a8,aw⟩;obtain ⟨A6,n6,c6,rfl⟩:=a8.sl;have e6:n6=1:=a8.len;subst e6;have a6:Hid (Below W.heap.size W w6):=ba.out.trans (aw.mono ba.out.size);have a5:=Lib.hid (ax.out.on aw);have KAl:=Lib.hid (qhB (a3.out.on aw) (ac.out.below a6.out) ah.out);clear a8 aw KId s5;go_wp2_with fail;refine KAl.out.mono ?_;rintro e w7 ⟨r7,rfl,br,be⟩;have bn:Hid (Below W.heap.size W w7):=a6.out.trans (be.mono a6.out.size)
   have KSm:=Lib.hid (qbQ r7 _ l20 l20 w7 br.rdP (a5.out.on be) (qa3 cl20 (by rw [qiJ];omega)));rw [decide_eq_true rfl] at KSm;obtain ⟨A7,c7,rfl,_⟩:=br;clear be KAl;go_wp2_with fail;refine KSm.out.mono ?_;rintro e w8 ⟨rfl,bm⟩;have b1:Hid (Below W.heap.size W w8):=bn.out.trans (bm.below.mono bn.out.size);clear bm KSm;go_wp2_with fail;go_ret;exact ⟨rfl,b1.out⟩
end Go.Proofs.YtnkelahimiipjaaGreatDoor
