/-
 datapart.parse, where all is well.
-/
import Derived.Test.YtnkelahimiipjaaGreatDoorHvt
import Derived.LoopNIn
import Derived.LoopIn
import Derived.Shelf.RegionOpen
import Derived.TacticsInMore
import Derived.OwnWalkIn
import Derived.WalkKit
import Derived.Test.YtnkelahimiipjaaGreatDoorHut
import Derived.Test.YtnkelahimiipjaaGreatDoorHxt
import Derived.Test.YtnkelahimiipjaaGreatDoorHnt
set_option maxRecDepth 100000
set_option maxHeartbeats 8000000
namespace Go.Proofs.YtnkelahimiipjaaGreatDoor
open Go.RowKit Go.Sort
attribute [local go_sem] Oper.semAt_some
theorem qlb (v:Value) (b:List Nat) (W:World) (hT:TabT W) (hR:RdG EB W W.heap.size v b) (h8:∀c ∈ b,c<256) (hl:b.length<=1000000) (h0:(qab b).1=0∧(qab b).2.1<=1073741824) (b0:List Nat) (hb0:b0=b.drop (qab b).2.2) (ht:(decV b0).1=0) (b1:List Nat) (hb1:b1=(decV b0).2.2) (hx:(qac 1 b1).1=0∧ -1000<=(qac 1 b1).2.1.getD 0 0∧(qac 1 b1).2.1.getD 0 0<=1000) (b2:List Nat) (hb2:b2=(qac 1 b1).2.2) (hm:(decV b2).1=0∧(decV b2).2.1.length=(decV b0).2.1.length):
  Calls Tryz.prog 42 #[v] W (ParR W b):=by
 have hr:Tryz.f42.results= #[.cell 2 62,.tmp 3]:=by kernel_rfl
 have fd:∀(fn:Fn) (first cap:Array Value) (w:World),(Instr.makeFunc fn first cap).run Tryz.prog w=.ok (.func fn first cap) w:=fun _ _ _ _=>rfl;have hA:Below W.heap.size W (W.alloc (.cells #[.int .i64 0,.slice none 0 0] 62)):=(Below.refl _ _).alloc (Nat.le_refl _) _;have KT:Hid (CallsIn Fence.wide 19 Tryz.prog 73 #[v] (W.alloc (.cells #[.int .i64 0,.slice none 0 0] 62)) _):=callsIn_wide.2 (qdz v b _ (hR.on hA) h8 (by omega));have ff:Fence.wide.fn 73:=trivial;have fa:Fence.wide.fn 75:=trivial;have e7:Fence.wide.fn 77:=trivial;have e9:Fence.wide.fn 78:=trivial;have KN:Hid (∀bo br w,Boxed w bo 4 (.bool false)->CallsIn Fence.wide 19 Tryz.prog 75 #[.pointer (some ⟨bo,0,none⟩),.pointer (some ⟨br,0,none⟩)] w fun e w'=>e=.returned (.slice none 0 0)∧w'=w):=fun bo br w h=>callsIn_wide.2 (qcp bo br w h);obtain ⟨A,c,rfl,_⟩:=hR;have ce:=Lib.hid (qkV (b:=b) (b2:=b2) (x:=(qac 1 b1).2.1.getD 0 0) (t:=(decV b0).2.1) h0 (by rw [<-hb0];exact ht) (by rw [<-hb0,<-hb1];exact hx) (by rw [<-hb0,<-hb1];exact hb2) (by rw [<-hb0];exact hm) (by rw [<-hb0,<-hb1]) (by rw [<-hb0]));have cb:∀c ∈ b0,c<256:=fun c hc=>by rw [hb0] at hc;exact h8 c (List.mem_of_mem_drop hc)
 have c6:b0.length<=1000000:=by rw [hb0,List.length_drop];omega
 obtain ⟨u,hu⟩:∃u,u=(qab b).2.1:=⟨_,rfl⟩;rw [h0.1,if_pos rfl,<-hu,<-hb0] at KT;have g2:decide ((u:Int)<=1073741824)=true:=decide_eq_true (by have :=h0.2;omega);have HU:Hid (u=(qab b).2.1∧u<=1073741824):=⟨hu,by have :=h0.2;omega⟩;obtain ⟨dk,bv⟩:=(qbm b0 ht).2.2;have c4:∀c ∈ b1,c<256:=fun c hc=>by rw [hb1,bv] at hc;exact cb c (List.mem_of_mem_drop hc)
 have da:b1.length<=1000000:=by rw [hb1,bv,List.length_drop];omega
 have ee:=Lib.hid c4;have eh:=Lib.hid da;have dg:=Lib.hid ht;have b9:=Lib.hid hb1;have dq:∀c ∈ b2,c<256:=fun c hc=>by rw [hb2,(qan 1 b1 hx.1).2.2.1] at hc;exact c4 c (List.mem_of_mem_drop hc)
 have dl:b2.length<=1000000:=by rw [hb2,(qan 1 b1 hx.1).2.2.1,List.length_drop];omega
 have d5:=Lib.hid dq;have eo:=Lib.hid dl;have c0:=Lib.hid hb2;have bl:=Lib.hid hx;have ei:=Lib.hid cb;have d3:=Lib.hid c6;have b6:=Lib.hid hm;have db:=Lib.hid hT;have el:=Lib.hid (qbm b2 hm.1);clear hm hT;clear hu h0 h8 hl hA hb0 cb c6 ht hb1 c4 da bv dk hx hb2 dq dl;refine (callsIn_wide (n:=20)).1 ?_;refine callsIn_of_wp Tryz.func42 rfl trivial ?_ rfl;simp only [Tryz.ntmps42,List.size_toArray,List.length_cons,List.length_nil,Nat.reduceAdd,Nat.reduceSub,Array.replicate_succ,Array.replicate_zero,List.push_toArray,List.append_toArray,List.nil_append,List.cons_append];gi_wp2_with fail;refine KT.out.mono ?_;rintro e w1 ⟨A1,n1,c1,rfl,hB,hO⟩;have hI:=PrI.new (W:=W) (q:=true) (rv:=.slice A1 n1 c1) hB;obtain ⟨w2,bg⟩:∃w2,w2=(w1.alloc (.cells #[.slice A1 n1 c1] 23)).alloc (.cells #[.bool true] 4):=⟨_,rfl⟩;rw [<-bg] at hI;obtain ⟨bo,bx⟩:∃bo,bo=w1.heap.size+1:=⟨_,rfl⟩;obtain ⟨br,b5⟩:∃br,br=w1.heap.size:=⟨_,rfl⟩;have ak:Below w1.heap.size w1 w2:=by rw [bg];exact ((Below.refl _ w1).alloc (Nat.le_refl _) _).alloc (by simp) _
 have fc:Hid (Below (W.alloc (.cells #[.int .i64 0,.slice none 0 0] 62)).heap.size (W.alloc (.cells #[.int .i64 0,.slice none 0 0] 62)) w1):=hB;rw [<-bx,<-b5] at hI;have em:=Lib.hid hI;have d8:=Lib.hid hO;have et:=Lib.hid ak;have d4:=Lib.hid bg;have d6:=Lib.hid bx;have e4:=Lib.hid b5;clear hB hO hI bg ak bx b5 KT;gi_wp2_with fail;rw [<-d4.out,<-d6.out,<-e4.out];have aw:OwnG EB 5 w2 (W.alloc (.cells #[.int .i64 0,.slice none 0 0] 62)).heap.size (.slice A1 n1 c1) b0:=(d8.out (by first|rfl|trivial)).below et.out;have KR:Hid (CallsIn Fence.wide 19 Tryz.prog 75 #[.pointer (some ⟨bo,0,none⟩),.pointer (some ⟨br,0,none⟩)] w2 _):=callsIn_wide.2 (qa9 em.out aw.rd ei.out (by have :=d3.out;omega));clear aw;refine KR.out.mono ?_;rintro e w3 ⟨At,nt,ct,A2,n2,c2,rfl,hI,hK,hB,hO⟩;rw [decide_eq_true dg.out] at hI;have eu:=Lib.hid hI;obtain ⟨bw,ae⟩:=hO dg.out;rw [<-b9.out] at ae;obtain ⟨Tl,bt⟩:∃Tl,Tl=(decV b0).2.1:=⟨_,rfl⟩;rw [<-bt] at bw;have ds:=Lib.hid bt;have cz:=Lib.hid bw;have en:=Lib.hid ae;have KA:Hid (CallsIn Fence.wide 19 Tryz.prog 77 #[.slice A2 n2 c2,.int .i64 1] w3 _):=callsIn_wide.2 (qb1 _ b1 w3 ae.rd ae.flatV ee.out (by have :=eh.out;omega));have co:=hI.ok.cell;have cr:=hI.rest.cell;clear hI hK hB hO bw ae bt KR;gi_wp2_with fail;refine KA.out.mono ?_;rintro e w4 ⟨Ax,nx,cx,A3,n3,c3,rfl,hB,hO⟩;have am:=eu.out.on hB;have aq:=am.setRest (.slice A3 n3 c3);have co4:=am.ok.cell;have cr4:=am.rest.cell;have fr4:=am.rest.frozen
 have co5:=aq.ok.cell;have fo5:=aq.ok.frozen;have fe:=Lib.hid aq;have bu:=Lib.hid hB;have az:Hid (KeepN w4 (w4.setCell ⟨br,0,none⟩ (.slice A3 n3 c3))):=KeepN.set am.rest (by decide) (by decide) _;obtain ⟨a5,ae⟩:=hO bl.out.1;rw [<-c0.out] at ae;have ao:=(qan 1 b1 bl.out.1).2.2.2.1;obtain ⟨Xl,bh⟩:∃Xl,Xl=(qac 1 b1).2.1:=⟨_,rfl⟩;obtain ⟨x0,an⟩:∃x0,x0=(qac 1 b1).2.1.getD 0 0:=⟨_,rfl⟩;rw [<-bh] at a5 ao an;obtain ⟨gx,rfl,rfl,_⟩:=a5.some_ (by intro e;rw [e] at ao;simp at ao);have a1:=az.out.1 _ _ _ a5;have c8:=a1.atI rfl (by rw [ao];omega:0<Xl.length);rw [<-an] at c8;have ef:(0:Int)<(Xl.length:Int):=by rw [ao];decide
 rw [bl.out.1];have de:=bl.out.2;rw [<-bh,<-an] at de;have d1:decide (-1000<=x0)=true:=decide_eq_true (by omega);have d2:decide (x0<=1000)=true:=decide_eq_true (by omega);have bn:=aq.setOk true;obtain ⟨w6,be⟩:∃w6,w6=(w4.setCell ⟨br,0,none⟩ (.slice A3 n3 c3)).setCell ⟨bo,0,none⟩ (.bool true):=⟨_,rfl⟩;rw [<-be] at bn;have ag:KeepN w4 w6:=by rw [be];exact az.out.trans (KeepN.set aq.ok (by decide) (by decide) _)
 have e8:=Lib.hid bn;have b7:=Lib.hid (ag.2 _ _ _ ae);have ch:=Lib.hid (ag.1 _ _ _ a5);have a8:=Lib.hid (ag.1 _ _ _ (cz.out.below bu.out));have dm:Hid (x0=Xl.getD 0 0∧Xl.length=1):=⟨an,ao⟩;have e0:Hid (-1000<=x0∧x0<=1000∧x0=(qac 1 b1).2.1.getD 0 0):=⟨by omega,by omega,by rw [an,bh]⟩;have ej:=Lib.hid be;have KR2:Hid (CallsIn Fence.wide 19 Tryz.prog 75 #[.pointer (some ⟨bo,0,none⟩),.pointer (some ⟨br,0,none⟩)] w6 _):=callsIn_wide.2 (qa9 bn b7.out.rd d5.out (by have :=eo.out;omega));clear hB hO am aq bn KA co cr a5 ae a1 bh an de be ag;gi_wp2_with fail;rw [<-ej.out];refine KR2.out.mono ?_;rintro e w7 ⟨Am,nm,cm,A7,n7,c7,rfl,hI,hK,hB,hO⟩;rw [decide_eq_true b6.out.1] at hI;have dc:=Lib.hid hI;obtain ⟨bm,_⟩:=hO b6.out.1;obtain ⟨Ml,a3⟩:∃Ml,Ml=(decV b2).2.1:=⟨_,rfl⟩;rw [<-a3] at bm;have a0:=el.out;rw [<-a3] at a0;have e1:=bm.len;have e2:=a8.out.len;have df:Ml.length=Tl.length:=by rw [a3,ds.out];exact b6.out.2
 obtain rfl:nm=nt:=by rw [e1,e2];exact df
 have b8:=Lib.hid (hK.1 _ _ _ a8.out);have a6:=hK.1 _ _ _ ch.out;have ai:=a6.atI rfl (by rw [dm.out.2];omega:0<Xl.length);rw [<-dm.out.1] at ai;have ar:Hid (Ml.length=nm∧Tl.length=nm∧nm<=4096):=⟨e1.symm,e2.symm,by rw [e1];exact a0.2.1⟩;have ew:=Lib.hid a3;have di:TabT w7:=fun i hi=>(hI.below.cell (qaa (db.out i hi))).trans (db.out i hi);have KU:Hid (CallsIn Fence.wide 19 Tryz.prog 78 #[.slice Am nm cm,.int .i64 x0] w7 _):=callsIn_wide.2 (qnu _ Ml x0 w7 di bm.rd a0.1 (by have :=a0.2.1;omega));have co:=hI.ok.cell;clear hI hK hB hO KR2 c8 co4 cr4 fr4 co5 fo5 bm a3 a0 e1 e2 df a6 di;gi_wp2_with fail;refine KU.out.mono ?_;rintro e w8 ⟨Av,nv,cv,er,rfl,hB,hs,hn⟩;have au:=dc.out.on hB;have ck:=Lib.hid au;have cf:=Lib.hid (b8.out.below hB);have aa:=ce.out;rw [<-e0.out.2.2,<-ds.out,<-ew.out,<-HU.out.1] at aa;cases hu:unpackV Ml x0 with
 | none =>
   obtain rfl:=hn hu;have a7:Hid (qba b=none):=(by rw [hu] at aa;exact aa);clear hB hs hn au aa hu KU ai co;have co:=ck.out.ok.cell;have cr:=ck.out.cells;obtain ⟨cr0,cr1,cf0,cf1⟩:=cr;gi_wp2_with fail;refine bodyPost_ret (v:=.tuple #[.agg #[.int .i64 0,.slice none 0 0],.bool false]) ?_ rfl ⟨ck.out.end_ _ _,.inl ⟨a7.out,rfl⟩⟩;unfold results;rw [hr]
   go_simp
 | some Vl =>
   obtain ⟨rfl,bq⟩:=hs Vl hu;rw [hu] at aa;have ax:Hid (qba b=some (((u:Nat):Int),Tl.zip Vl)):=aa;have e1:=bq.len;have du:=qhC hu;obtain rfl:nv=nm:=(by rw [e1,du];exact ar.out.1);have cy:Hid (Vl.length=nv):=e1.symm;have cw:=Lib.hid (bq.lower dc.out.below.size);have e6:nv<=4096:=ar.out.2.2;have e5:IntKind.i64.wrap (u:Int)=(u:Int):=IntWalk.i64_in _ (by have :=HU.out.2;omega);obtain ⟨Pb,cl⟩:∃Pb,Pb=w8.heap.size:=⟨_,rfl⟩;obtain ⟨w9,bf⟩:∃w9,w9=w8.alloc (.cells #[.int .i64 (u:Int),.slice none 0 0] 62):=⟨_,rfl⟩;have ak:Below w8.heap.size w8 w9:=(by rw [bf];exact (Below.refl _ _).alloc (Nat.le_refl _) _);have dv:w9.heap[Pb]? =some (.cells #[.int .i64 (u:Int),.slice none 0 0] 62 (0,0)):=(by rw [bf,cl];exact heap_alloc_new w8 _);have ca:=au.on ak;have dd:Hid (W.heap.size<Pb):=by
    have h1:=(Array.getElem?_eq_some_iff.1 au.out).1;show _<_;omega
   have ey:=Lib.hid dv;have ea:=Lib.hid ca.below;have eb:=Lib.hid ca.out;have cg:=Lib.hid (cf.out.below ak);have b4:=Lib.hid (cw.out.below ak);have dy:=Lib.hid bf;have eq:=Lib.hid cl;clear hB hs hn au aa hu KU ai co e1 du bq bf ak cl dv ca;gi_wp2_with fail;rw [<-dy.out,<-eq.out]
   gi_loopw [14,79] (fun _ iv wl=>∃(i:Nat) (As:Option Addr) (cs:Nat),i<=nv∧iv=.int .i64 (i:Int)∧Hid (wl.heap[Pb]? =some (.cells #[.int .i64 (u:Int),.slice As i cs] 62 (0,0)))∧Hid (OwnG ES 66 wl W.heap.size (.slice As i cs) ((Tl.zip Vl).take i))∧Hid (OwnG EI 2 wl W.heap.size (.slice At nv ct) Tl)∧Hid (OwnG EV 64 wl W.heap.size (.slice Av nv cv) Vl)∧Hid (wl.heap[W.heap.size]? =some (.cells #[.int .i64 0,.slice none 0 0] 62 (0,0)))∧Hid (Below W.heap.size W wl))
    (fun _ iv _=>nv-(intOf iv).toNat)
   case atStart=>exact ⟨0,none,0,Nat.zero_le _,rfl,ey.out,OwnG.nil _ _,cg.out,b4.out,eb.out,ea.out⟩
   case round=>
    obtain ⟨i,As,cs,hi,rfl,ah,dr,ay,bc,af,bz⟩:=hrel;by_cases hlt:i<nv
    ·have bj:i<Tl.length:=(by rw [ar.out.2.1];exact hlt);have bp:i<Vl.length:=(by rw [cy.out];exact hlt);obtain ⟨gt,rfl, -, -⟩:=ay.out.some_ (by intro e;rw [e] at bj;simp at bj);obtain ⟨gv,rfl, -, -⟩:=bc.out.some_ (by intro e;rw [e] at bp;simp at bp);obtain ⟨xt,cn⟩:∃xt,xt=Tl[i]:=⟨_,rfl⟩;obtain ⟨xv,ci⟩:∃xv,xv=Vl[i]:=⟨_,rfl⟩;have k0:wr.cell? ⟨gt,i,none⟩=some (.int .i64 xt):=by
      have h:=ay.out.atI ar.out.2.1.symm hlt;rw [List.getD_eq_getElem?_getD,List.getElem?_eq_getElem bj] at h;rw [cn];exact h
     have a4:=bc.out.cellAt i bp;rw [<-ci] at a4;obtain ⟨va,vb,vc⟩:=xv;have k1:wr.cell? ⟨gv,i*3,none⟩=some (.int .i64 va):=a4 0 (by decide);have k2:wr.cell? ⟨gv,i*3+1,none⟩=some (.int .i64 vb):=a4 1 (by decide);have k3:wr.cell? ⟨gv,i*3+2,none⟩=some (.int .i64 vc):=a4 2 (by decide);have HZ:Hid ((Tl.zip Vl).take (i+1)=(Tl.zip Vl).take i++[(xt,va,vb,vc)]):=by
      have hz:i<(Tl.zip Vl).length:=(by rw [List.length_zip];omega);show _=_;rw [List.take_succ_eq_append_getElem hz,List.getElem_zip,<-cn,<-ci]
     have c9:((Tl.zip Vl).take i).length=i:=(by rw [List.length_take,List.length_zip];omega);have p1:wr.cell? ⟨Pb,1,none⟩=some (.slice As i cs):=(by have h:=ah.out;simp [World.cell?,h]);have cc:Pb<wr.heap.size:=(Array.getElem?_eq_some_iff.1 ah.out).1;have cd:gt<wr.heap.size:=qaa k0;have cu:gv<wr.heap.size:=qaa k1;have dw:W.heap.size<wr.heap.size:=(Array.getElem?_eq_some_iff.1 af.out).1;have HK:=Lib.hid (And.intro k0 (And.intro k1 (And.intro k2 k3)));have ap:=Lib.hid (And.intro cc (And.intro cd (And.intro cu dw)));obtain ⟨wt,a9⟩:∃wt,wt=(wr.alloc (.cells #[.int .i64 xt,.int .i64 va,.int .i64 vb,.int .i64 vc] 66)).drew:=⟨_,rfl⟩;have al:Below wr.heap.size wr wt:=(by rw [a9];exact ((Below.refl _ wr).alloc (Nat.le_refl _) _).trans ((((Ext.refl (wr.alloc (.cells #[.int .i64 xt,.int .i64 va,.int .i64 vb,.int .i64 vc] 66))).drewN _).below).mono (by simp)));have dn:wt.heap.size=wr.heap.size+1:=(by rw [a9];simp);have dp:RdG ES wt wt.heap.size (.slice (some ⟨wr.heap.size,0,none⟩) 1 1) [(xt,va,vb,vc)]:=by
      rw [a9];exact (RdG.one1 (E:=ES) wr 66 rfl).on (((Ext.refl (wr.alloc (.cells #[.int .i64 xt,.int .i64 va,.int .i64 vb,.int .i64 vc] 66))).drewN _).below)
     have p1t:wt.cell? ⟨Pb,1,none⟩=some (.slice As i cs):=(al.cell cc).trans p1;have dj:=dr.out.below al;have av:=Lib.hid dj;have d0:=Lib.hid dp;have ad:=Lib.hid al;have ek:=Lib.hid a9;have fb:=Lib.hid dn;have dt:(((Tl.zip Vl).take i).length+ [(xt,va,vb,vc)].length)*32<=140737488355328:=(by rw [c9];simp;omega);have ev:=Lib.hid dt;have i1:(i:Int)<(nv:Int):=(by omega);have ac:(World.drew wr).heap[gt]? =wr.heap[gt]? ∧(World.drew wr).heap[gv]? =wr.heap[gv]? :=⟨rfl,rfl⟩;have dx:Hid (wt.heap[gt]? =wr.heap[gt]? ∧wt.heap[gv]? =wr.heap[gv]?):=⟨al.block _ cd,al.block _ cu⟩;clear a4 cn ci bj bp c9 a9 al dn dp dj dt cc cd cu dw;gi_wp2_with fail;refine qbV ?_;refine wpIn_region_any (by kernel_rfl) ?_;change wpAnyIn _ _ _ _ _ _ _ _ _ (World.drew _);refine qaL (S:=fun w'=>w'.heap[gt]? =wr.heap[gt]? ∧w'.heap[gv]? =wr.heap[gv]?) _ _ _ _ ?_
     refine heldIn_take (i := 0) (v := ?_) (by kernel_rfl) rfl (by kernel_rfl) (by kernel_rfl) (by kernel_rfl) (fun _ _ _ h => calm_panic h) ⟨Or.inl ⟨by rfl, ?_⟩, fun _ => rfl⟩ ac ?_
     rotate_left
     · intro w' _
       (go_simp <;> with_reducible rfl)
     refine heldIn_take (i := 2) (v := ?_) (by kernel_rfl) rfl (by kernel_rfl) (by kernel_rfl) (by kernel_rfl) (fun _ _ _ h => calm_panic h) ⟨Or.inl ⟨by rfl, ?_⟩, fun _ => rfl⟩ ac ?_
     rotate_left
     · intro w' _
       (go_simp <;> with_reducible rfl)
     refine heldIn_take (i := 3) (v := ?_) (by kernel_rfl) rfl (by kernel_rfl) (by kernel_rfl) (by kernel_rfl) (fun _ _ _ h => calm_panic h) ⟨Or.inl ⟨by rfl, ?_⟩, fun _ => rfl⟩ ac ?_
     rotate_left
     · intro w' _
       (go_simp <;> with_reducible rfl)
     refine heldIn_take (i := 4) (v := ?_) (by kernel_rfl) rfl (by kernel_rfl) (by kernel_rfl) (by kernel_rfl) (fun _ _ _ h => calm_panic h) ⟨Or.inl ⟨by rfl, ?_⟩, fun _ => rfl⟩ ac ?_
     rotate_left
     · intro w' _
       (go_simp <;> with_reducible rfl)
     refine heldIn_take (i := 5) (v := ?_) (by kernel_rfl) rfl (by kernel_rfl) (by kernel_rfl) (by kernel_rfl) (fun _ _ _ h => calm_panic h) ⟨Or.inl ⟨by rfl, ?_⟩, fun _ => rfl⟩ ac ?_
     rotate_left
     · intro w' hS
       have c0 := (qaF hS.1 i).trans HK.out.1
       (go_simp <;> with_reducible rfl)
     refine heldIn_take (i := 6) (v := ?_) (by kernel_rfl) rfl (by kernel_rfl) (by kernel_rfl) (by kernel_rfl) (fun _ _ _ h => calm_panic h) ⟨Or.inl ⟨by rfl, ?_⟩, fun _ => rfl⟩ ac ?_
     rotate_left
     · intro w' _
       (go_simp <;> with_reducible rfl)
     refine heldIn_take (i := 7) (v := ?_) (by kernel_rfl) rfl (by kernel_rfl) (by kernel_rfl) (by kernel_rfl) (fun _ _ _ h => calm_panic h) ⟨Or.inl ⟨by rfl, ?_⟩, fun _ => rfl⟩ ac ?_
     rotate_left
     · intro w' _
       (go_simp <;> with_reducible rfl)
     refine heldIn_take (i := 8) (v := ?_) (by kernel_rfl) rfl (by kernel_rfl) (by kernel_rfl) (by kernel_rfl) (fun _ _ _ h => calm_panic h) ⟨Or.inl ⟨by rfl, ?_⟩, fun _ => rfl⟩ ac ?_
     rotate_left
     · intro w' _
       (go_simp <;> with_reducible rfl)
     refine heldIn_take (i := 9) (v := ?_) (by kernel_rfl) rfl (by kernel_rfl) (by kernel_rfl) (by kernel_rfl) (fun _ _ _ h => calm_panic h) ⟨Or.inl ⟨by rfl, ?_⟩, fun _ => rfl⟩ ac ?_
     rotate_left
     · intro w' hS
       have c0 := (qaF hS.2 _).trans HK.out.2.1
       have c1 := (qaF hS.2 _).trans HK.out.2.2.1
       have c2 := (qaF hS.2 _).trans HK.out.2.2.2
       (go_simp <;> with_reducible rfl)
     refine heldIn_take (i := 10) (v := ?_) (by kernel_rfl) rfl (by kernel_rfl) (by kernel_rfl) (by kernel_rfl) (fun _ _ _ h => calm_panic h) ⟨Or.inl ⟨by rfl, ?_⟩, fun _ => rfl⟩ ac ?_
     rotate_left
     · intro w' _
       (go_simp <;> with_reducible rfl)
     refine qcI (i:=1) (j:=11) (by kernel_rfl) rfl rfl (fun K hK=> ?_) (fun K hK=> ?_)
     focus
      go_simp
      refine hK _ _ ac ?_;clear hK K;refine qam (i:=11) (by kernel_rfl) rfl (fun K hK=> ?_)
     all_goals
      go_simp
      rw [<-ek.out];refine hK _ _ dx.out ?_;clear hK K
     rotate_left
     focus
      refine qam (i:=1) (by kernel_rfl) rfl (fun K hK=> ?_)
      go_simp
      refine hK _ _ dx.out ?_;clear hK K
     all_goals
      refine qam (i:=12) (by kernel_rfl) rfl (fun K hK=> ?_);refine qcV rfl ES rfl _ _ 60 66 rfl Tryz.underlying60 qn6 rfl (by decide) W.heap.size _ ((Tl.zip Vl).take i) _ [(xt,va,vb,vc)] wt.heap.size rfl av.out rfl d0.out (by simp) ev.out (Nat.le_trans (Nat.le_of_lt ap.out.2.2.2) ad.out.size) ?_;intro v2 w2 ab hg b3;rw [<-HZ.out] at ab;obtain ⟨A2',n2',c2',e2⟩:=ab.sl;subst e2;have e3:=ab.len;rw [List.length_take,List.length_zip,ar.out.2.1,cy.out] at e3;have e3:n2'=i+1:=(by omega);subst e3;have bs:=((ay.out.below ad.out).kept hg ((ay.out.below ad.out).other av.out (by decide)));have cq:=((bc.out.below ad.out).kept hg ((bc.out.below ad.out).other av.out (by decide)));have ba:∀k,k<wr.heap.size->(∀t c z,wr.heap[k]? =some (.cells c t z)->t≠66)->w2.heap[k]? =wr.heap[k]? :=fun k hk ht=>(hg.block k (Nat.lt_of_lt_of_le hk ad.out.size) (fun e=>by
       obtain ⟨_,c,z,h3⟩:=av.out.cellsAt k e.symm;rw [ad.out.block k hk] at h3;exact ht _ _ _ h3 rfl)).trans (ad.out.block k hk)
      have aj:w2.heap[Pb]? =some (.cells #[.int .i64 (u:Int),.slice As i cs] 62 (0,0)):=(ba Pb ap.out.1 (fun t c z h=>by rw [ah.out] at h;cases h;decide)).trans ah.out;have dh:w2.heap[W.heap.size]? =_:=(ba W.heap.size ap.out.2.2.2 (fun t c z h=>by rw [af.out] at h;cases h;decide)).trans af.out;obtain ⟨_,ct',zt',cp⟩:=ay.out.cellsAt gt rfl;obtain ⟨_,cv',zv',cj⟩:=bc.out.cellsAt gv rfl;have bi:Hid (w2.heap[gt]? =wr.heap[gt]? ∧w2.heap[gv]? =wr.heap[gv]?):=⟨ba gt ap.out.2.1 (fun t c z h=>by rw [cp] at h;cases h;decide),ba gv ap.out.2.2.1 (fun t c z h=>by rw [cj] at h;cases h;decide)⟩;have a2:Below W.heap.size W w2:=(bz.out.trans (ad.out.mono bz.out.size)).grown hg (by have :=ap.out.2.2.2;have :=ad.out.size;omega) (fun k e=>(av.out.blk e).1);have q1:w2.cell? ⟨Pb,1,none⟩=some (.slice As i cs):=(by simp [World.cell?,aj]);have q2:w2.frozen? ⟨Pb,1,none⟩=false:=(by simp [World.frozen?,aj]);have bk:=qb9 w2 Pb 1 (.slice A2' (i+1) c2');have d7:=Lib.hid (qmo aj (.slice A2' (i+1) c2'));have ex:Hid (OwnG ES 66 (w2.setCell ⟨Pb,1,none⟩ (.slice A2' (i+1) c2')) W.heap.size (.slice A2' (i+1) c2') ((Tl.zip Vl).take (i+1))):=ab.kept bk (.inr (qa0 aj ab (by decide)).symm);have ec:Hid (OwnG EI 2 (w2.setCell ⟨Pb,1,none⟩ (.slice A2' (i+1) c2')) W.heap.size (.slice (some ⟨gt,0,none⟩) nv ct) Tl):=bs.kept bk (.inr (qa0 aj bs (by decide)).symm);have dz:Hid (OwnG EV 64 (w2.setCell ⟨Pb,1,none⟩ (.slice A2' (i+1) c2')) W.heap.size (.slice (some ⟨gv,0,none⟩) nv cv) Vl):=cq.kept bk (.inr (qa0 aj cq (by decide)).symm)
      have c5:W.heap.size≠Pb:=Nat.ne_of_lt dd.out;have es:Hid ((w2.setCell ⟨Pb,1,none⟩ (.slice A2' (i+1) c2')).heap[W.heap.size]? =some (.cells #[.int .i64 0,.slice none 0 0] 62 (0,0))):=(Below.heap_setCell _ _ _ _ c5).trans dh;have ep:Hid (Below W.heap.size W (w2.setCell ⟨Pb,1,none⟩ (.slice A2' (i+1) c2'))):=a2.setCell (Nat.le_of_lt dd.out) _;have bd:gt≠Pb:=fun e=>by
       have h:=ah.out;rw [<-e,cp] at h;cases h
      have bb:gv≠Pb:=fun e=>by
       have h:=ah.out;rw [<-e,cj] at h;cases h
      have ed:Hid ((w2.setCell ⟨Pb,1,none⟩ (.slice A2' (i+1) c2')).heap[gt]? =wr.heap[gt]? ∧(w2.setCell ⟨Pb,1,none⟩ (.slice A2' (i+1) c2')).heap[gv]? =wr.heap[gv]?):=⟨(Below.heap_setCell _ _ _ _ bd).trans bi.out.1,(Below.heap_setCell _ _ _ _ bb).trans bi.out.2⟩;refine hK _ _ bi.out ?_;clear hK K ab hg b3 e3 bs cq ba aj dh cp cj a2 bk c5 bd bb k0 k1 k2 k3 p1 p1t
      refine heldIn_take (i := 13) (v := ?_) (by kernel_rfl) rfl (by kernel_rfl) (by kernel_rfl) (by kernel_rfl) (fun _ _ _ h => calm_panic h) ⟨Or.inl ⟨by rfl, ?_⟩, fun _ => rfl⟩ bi.out ?_
      rotate_left
      · intro w' _
        (go_simp <;> with_reducible rfl)
      refine qam (i:=14) (by kernel_rfl) rfl (fun K hK=> ?_)
      go_simp
      refine hK _ _ ed.out ?_;clear hK K;refine qbc (by kernel_rfl) ⟨rfl, ?_⟩ _;gi_wp2_with fail;go_roundw
      case rel=>exact ⟨i+1,A2',c2',by omega,by go_num,d7.out,ex.out,ec.out,dz.out,es.out,ep.out⟩
      case measure=>simp [intOf];omega
    ·have ez:i=nv:=(by omega);subst ez;have i1:¬(i:Int)<(i:Int):=(by omega);have p0:wr.cell? ⟨Pb,0,none⟩=some (.int .i64 (u:Int)):=(by have h:=ah.out;simp [World.cell?,h]);have p1:wr.cell? ⟨Pb,1,none⟩=some (.slice As i cs):=(by have h:=ah.out;simp [World.cell?,h]);have r0:wr.cell? ⟨W.heap.size,0,none⟩=some (.int .i64 0):=(by have h:=af.out;simp [World.cell?,h]);have r1:wr.cell? ⟨W.heap.size,1,none⟩=some (.slice none 0 0):=(by have h:=af.out;simp [World.cell?,h]);have f0:wr.frozen? ⟨W.heap.size,0,none⟩=false:=(by have h:=af.out;simp [World.frozen?,h]);have f1:wr.frozen? ⟨W.heap.size,1,none⟩=false:=(by have h:=af.out;simp [World.frozen?,h]);have a2:Below W.heap.size W ((wr.setCell ⟨W.heap.size,0,none⟩ (.int .i64 (u:Int))).setCell ⟨W.heap.size,1,none⟩ (.slice As i cs)):=(bz.out.setCell (Nat.le_refl _) _).setCell (Nat.le_refl _) _;have aw:OwnG ES 66 ((wr.setCell ⟨W.heap.size,0,none⟩ (.int .i64 (u:Int))).setCell ⟨W.heap.size,1,none⟩ (.slice As i cs)) W.heap.size (.slice As i cs) (Tl.zip Vl):=by
      have h1:=dr.out;rw [List.take_of_length_le (by rw [List.length_zip,ar.out.2.1,cy.out];omega)] at h1;have h2:=h1.kept (qb9 wr W.heap.size 0 (.int .i64 (u:Int))) (.inr (qa0 af.out h1 (by decide)).symm);exact h2.kept (qb9 _ W.heap.size 1 (.slice As i cs)) (.inr (qa0 af.out h1 (by decide)).symm)
     have eg:=Lib.hid a2;have d9:=Lib.hid aw;clear a2 aw;gi_wp2_with fail;refine bodyPost_ret (v:=.tuple #[.agg #[.int .i64 (u:Int),.slice As i cs],.bool true]) ?_ rfl ⟨eg.out,.inr ⟨((u:Int),Tl.zip Vl),As,i,cs,ax.out,rfl,qkD d9.out⟩⟩;unfold results;rw [hr]
     go_simp
theorem qj8 (v:Value) (b:List Nat) (W:World) (hT:TabT W) (hR:RdG EB W W.heap.size v b) (h8:∀c ∈ b,c<256) (hl:b.length<=1000000):
  Calls Tryz.prog 42 #[v] W (ParR W b):=by
 by_cases h0:(qab b).1=0∧(qab b).2.1<=1073741824
 ·obtain ⟨b0,aa⟩:∃b0,b0=b.drop (qab b).2.2:=⟨_,rfl⟩;by_cases ht:(decV b0).1=0
  ·obtain ⟨b1,ab⟩:∃b1,b1=(decV b0).2.2:=⟨_,rfl⟩;by_cases hx0:(qac 1 b1).1=0
   ·by_cases hx1: -1000<=(qac 1 b1).2.1.getD 0 0
    ·by_cases hx2:(qac 1 b1).2.1.getD 0 0<=1000
     ·obtain ⟨b2,ac⟩:∃b2,b2=(qac 1 b1).2.2:=⟨_,rfl⟩;by_cases hm0:(decV b2).1=0
      ·by_cases hm1:(decV b2).2.1.length=(decV b0).2.1.length
       ·exact qlb v b W hT hR h8 hl h0 b0 aa ht b1 ab ⟨hx0,hx1,hx2⟩ b2 ac ⟨hm0,hm1⟩
       ·exact qmL v b W hR h8 hl h0 b0 aa ht b1 ab ⟨hx0,hx1,hx2⟩ b2 ac ⟨hm0,hm1⟩
      ·exact qnJ v b W hR h8 hl h0 b0 aa ht b1 ab ⟨hx0,hx1,hx2⟩ b2 ac hm0
     ·exact qm4 v b W hR h8 hl h0 b0 aa ht b1 ab ⟨hx0,hx1,hx2⟩
    ·exact qmD v b W hR h8 hl h0 b0 aa ht b1 ab ⟨hx0,hx1⟩
   ·exact qnN v b W hR h8 hl h0 b0 aa ht b1 ab hx0
  ·exact qoj v b W hR h8 hl h0 b0 aa ht
 ·exact qnd v b W hR h8 hl h0
end Go.Proofs.YtnkelahimiipjaaGreatDoor
namespace Go.Proofs.YtnkelahimiipjaaGreatDoor
theorem qeU {b:List Nat} (h:(qap b).1=0):(qap b).2.2.2.length+5<=b.length∧(qap b).2.2.1.length<=65535∧(∀c ∈ (qap b).2.2.1,c ∈ b)∧∀c ∈ (qap b).2.2.2,c ∈ b:=by
 by_cases h0:b.length=0
 ·unfold qap at h;rw [if_pos h0] at h;cases h
 by_cases h1:(qab (b.drop 1)).1=0
 ·by_cases h2:65535<(qab (b.drop 1)).2.1
  ·unfold qap at h;rw [if_neg h0,if_neg (fun e=>e h1),if_pos h2] at h;cases h
  by_cases h3:((b.drop 1).drop (qab (b.drop 1)).2.2).length<(qab (b.drop 1)).2.1+4
  ·unfold qap at h;rw [if_neg h0,if_neg (fun e=>e h1),if_neg h2,if_pos h3] at h;cases h
  by_cases h4:qcO (b.take (1+(qab (b.drop 1)).2.2+(qab (b.drop 1)).2.1))=b.take (1+(qab (b.drop 1)).2.2+(qab (b.drop 1)).2.1+4)
  ·have e:qap b=(0,b.getD 0 0,((b.drop 1).drop (qab (b.drop 1)).2.2).take (qab (b.drop 1)).2.1,((b.drop 1).drop (qab (b.drop 1)).2.2).drop ((qab (b.drop 1)).2.1+4)):=by
    unfold qap;rw [if_neg h0,if_neg (fun e=>e h1),if_neg h2,if_neg h3,if_pos h4]
   rw [e];refine ⟨?_, ?_,fun c hc=>List.mem_of_mem_drop (List.mem_of_mem_drop (List.mem_of_mem_take hc)),fun c hc=>List.mem_of_mem_drop (List.mem_of_mem_drop (List.mem_of_mem_drop hc))⟩
   ·show (List.drop _ _).length+5<=_;rw [List.length_drop,List.length_drop,List.length_drop];rw [List.length_drop,List.length_drop] at h3;omega
   ·show (List.take _ _).length<=_;rw [List.length_take];omega
  ·unfold qap at h;rw [if_neg h0,if_neg (fun e=>e h1),if_neg h2,if_neg h3,if_neg h4] at h;cases h
 ·unfold qap at h;rw [if_neg h0,if_pos h1] at h;exact absurd h h1
theorem qlg {b:List Nat} {p:Pts} (h:qba b=some p):0<=p.1∧p.1<=1073741824∧p.2.length<=4096:=by
 by_cases h0:(qab b).1=0∧(qab b).2.1<=1073741824
 ·by_cases ht:(decV (b.drop (qab b).2.2)).1=0
  ·have hl:=(qbm _ ht).2.1;by_cases hx:(qac 1 (decV (b.drop (qab b).2.2)).2.2).1=0∧ -1000<=(qac 1 (decV (b.drop (qab b).2.2)).2.2).2.1.getD 0 0∧(qac 1 (decV (b.drop (qab b).2.2)).2.2).2.1.getD 0 0<=1000
   ·by_cases hm:(decV (qac 1 (decV (b.drop (qab b).2.2)).2.2).2.2).1=0∧(decV (qac 1 (decV (b.drop (qab b).2.2)).2.2).2.2).2.1.length=(decV (b.drop (qab b).2.2)).2.1.length
    ·rw [qkV h0 ht hx rfl hm rfl rfl] at h
     revert h
     generalize unpackV _ _=r;intro h;cases r with
     |none=>cases h
     | some v =>
       cases h;refine ⟨by show (0:Int)<=((qab b).2.1:Nat);omega,by show (((qab b).2.1:Nat):Int)<=_;omega, ?_⟩;show (List.zip _ _).length<=_;rw [List.length_zip];omega
    ·rw [qfQ rfl hm] at h;cases h
   ·rw [qfG rfl hx] at h;cases h
  ·rw [qiH ht] at h;cases h
 ·rw [qiC h0] at h;cases h
theorem qip {f:Nat} {b:List Nat} (h:(qap b).1≠0):qbs f b=none:=by
 cases f with
 |zero=>rfl
 |succ f=>rw [qbs,if_pos h]
theorem qiz {f:Nat} {b:List Nat} (h:(qap b).1=0) (h2:(qap b).2.1≠3):qbs (f+1) b=some []:=by
 rw [qbs,if_neg (fun e=>e h),if_pos h2]
theorem qiX {f:Nat} {b:List Nat} (h:(qap b).1=0) (h2:(qap b).2.1=3) (h3:qba (qap b).2.2.1=none):qbs (f+1) b=none:=by
 rw [qbs,if_neg (fun e=>e h),if_neg (fun e=>e h2),h3]
theorem qfp {f:Nat} {b:List Nat} {p:Pts} (h:(qap b).1=0) (h2:(qap b).2.1=3) (h3:qba (qap b).2.2.1=some p):qbs (f+1) b=(qbs f (qap b).2.2.2).map (fun l=>p::l):=by
 rw [qbs,if_neg (fun e=>e h),if_neg (fun e=>e h2),h3];simp only;cases qbs f (qap b).2.2.2<;>rfl
theorem qed:∀(f:Nat) (b:List Nat) (l:List Pts),qbs f b=some l->l.length<=b.length∧∀p ∈ l,0<=p.1∧p.1<=1073741824∧p.2.length<=4096
 |0,_,_,h=>by cases h
 | f + 1, b, l, h => by
   by_cases h1:(qap b).1=0
   ·by_cases h2:(qap b).2.1=3
    ·cases h3:qba (qap b).2.2.1 with
     |none=>rw [qiX h1 h2 h3] at h;cases h
     | some p =>
       rw [qfp h1 h2 h3] at h;obtain ⟨l',hl,rfl⟩:=Option.map_eq_some_iff.1 h;obtain ⟨k1,k2⟩:=qed f _ l' hl;have k3:=(qeU h1).1;refine ⟨by rw [List.length_cons];omega,fun q hq=> ?_⟩;rcases List.mem_cons.1 hq with rfl|hq
       ·exact qlg h3
       ·exact k2 q hq
    ·rw [qiz h1 h2] at h;cases h;exact ⟨Nat.zero_le _,fun p hp=>by cases hp⟩
   ·rw [qip h1] at h;cases h
theorem qgO {l:List Pts} (h:∀p ∈ l,p.2.length<=4096):qad l<=4096*l.length:=by
 induction l with
 |nil=>simp [qad]
 | cons p l ih =>
   have h1:=h p List.mem_cons_self;have h2:=ih fun q hq=>h q (List.mem_cons_of_mem _ hq);have h3:qad (p::l)=p.2.length+qad l:=(by unfold qad;simp);rw [h3,List.length_cons];omega
theorem qnK {x:Int} (h0:0<=x) (h1:x<=1073741824):(Lit.int .i64 x).wf=true:=by
 have h2:IntKind.i64.min= -9223372036854775808:=by decide
 have h3:IntKind.i64.max=9223372036854775807:=by decide
 show (decide (IntKind.i64.min<=x) && decide (x<=IntKind.i64.max))=true;rw [h2,h3,Bool.and_eq_true,decide_eq_true_eq,decide_eq_true_eq];omega
theorem qgp {c b:List _} (h:qaS c=(0,b)):c≠ []∧qag c=c∧qad (qag c)<=2000:=by
 unfold qaS at h
 split at h
 ·cases h
 case isFalse h1=>
  split at h
  ·cases h
  case isFalse h2=>exact ⟨fun e=>h2 (.inl e),Classical.byContradiction fun e=>h2 (.inr e),by omega⟩
theorem qjN {c:List Pts}:∀x ∈ (qaS c).2,x<256:=by
 intro x hx;unfold qaS at hx
 split at hx
 ·cases hx
 case isFalse h1=>
  split at hx
  ·cases hx
  case isFalse h2=>
   split at hx
   ·cases hx
   ·have hc:Clean c:=by
     have e:qag c=c:=Classical.byContradiction fun e=>h2 (.inr e);rw [<-e];exact qaj c
    exact qc8 (fun b hb=>(qbj hc b hb).1.2.2.1) x hx
end Go.Proofs.YtnkelahimiipjaaGreatDoor
namespace Go.Proofs.YtnkelahimiipjaaGreatDoor
open Go.RowKit Go.Sort
theorem qc1 {α :Type} {P:Program} {F:Fence} {nF:Nat} {w:World} {ops:Array Oper} {o:Oper} {a:Act} {K:Act->World->Prop} {Q:Exit->Act->World->Prop} (E:Enc α) (hgd:o.guard=none) (s x:Operand) (t e:TypeId) {z:Value} {bytes:Nat}
  (ho:o.op=.call { callee:=.builtin .append,args:= #[s,x],argTypes:= #[t,t] }) (ht:P.underlying t=some (.slice e))
  (hinf:(P.info? e).map (fun i=>(i.zero,i.size,i.bytes))=some (some z,E.k,bytes)) (hz:z.cells.size=E.k) (hb:0<bytes)
  (base:Nat) (v:Value) (l:List α) (xv:Value) (l2:List α) (B:Nat) (hs:a.eval s=v) (hown:OwnG E e w base v l) (hx:a.eval x=xv) (hR:RdG E w B xv l2) (hne:l2≠ [])
  (hl:(l.length+l2.length)*bytes<=140737488355328) (hbase:base<=w.heap.size)
  (h:∀v' w',OwnG E e w' base v' (l++l2)->w.grownBy w' v.ownBlock->(v'.ownBlock=v.ownBlock∨v'.ownBlock=some w.heap.size)->K (a.put o.dst v') w'):
  if Region.wanted o (yielded ops a.tmps)=true then Oper.wpIn F nF P o a w K Q else (∀f,o.about P w a.eval=some f->F.fn f)∧K (a.put o.dst undef) w:=by
 have hw:Region.wanted o (yielded ops a.tmps)=true:=by simp [Region.wanted,hgd]
 rw [if_pos hw];obtain ⟨i,hi,ac,ad,aa⟩:=qbz hinf;obtain ⟨A,c,rfl,hc,ae,hA⟩:=hR;rcases hA with h0|⟨b,off,rfl,_,ab⟩
 ·exact absurd h0 hne
 have hm:l.length+l2.length<=maxLen:=by
  have :=Nat.le_mul_of_pos_right (l.length+l2.length) hb;have e:maxLen=9223372036854775807:=rfl;omega
 obtain ⟨v',w',hr,h2,h3,_,h5⟩:=run_append_own_at (P:=P) w base t o.type e i _ E.k bytes ht hi ac ad aa hz E.pos v l.length (E.flat l) hown ⟨b,off,none⟩ l2.length c (E.flat l2) (E.flat_len l2) (qcD ab) (E.flat_cell l2) hm hl hbase;unfold Oper.wpIn;rw [Oper.semAt_eq _ _ _ (fun c e=>by rw [ho] at e;cases e)];refine ⟨fun f hf=> ?_, ?_⟩
 ·unfold Oper.about at hf;simp [ho,resolve,Target.leads] at hf
 ·unfold execOp;simp only [ho,resolve,invoke,builtin,Sem.run_bind,Sem.run_pure,Result.andThen_ok,List.map_toArray,List.map_cons,List.map_nil,hs,hx,hr];refine h v' w' ?_ h3 h5;unfold OwnG;rw [E.flat_app,List.length_append];exact h2
def ktO (t:TypeId):Bool:=t==89 || t==71
def encX (x:BlkX):PtX:=(x.1.1,match x.2.1 with | .slice A n c=>(A,n,c)|_=>(none,0,0))
def GdO (hb:Nat) (w9:World) (b:Nat):Prop:=∃o,w9.heap[b]? =some o∧(b<hb∨qpb ktO o=true)
theorem GdO.lt {hb b:Nat} {w9:World} (h:GdO hb w9 b):b<w9.heap.size:=by
 obtain ⟨o,ho,_⟩:=h;exact (Array.getElem?_eq_some_iff.1 ho).1
theorem GdO.keep {hb:Nat} {w9:World}:∀A B,StJ (GdO hb w9) w9 A->KpU ktO hb A B->StJ (GdO hb w9) A B:=fun A B h1 h2=>
 ⟨h2.1.size, fun b hg => by
  obtain ⟨o,ho,hk⟩:=id hg;have ha:A.heap[b]? =some o:=(h1.block b hg).trans ho;rcases hk with hk|hk
  ·exact h2.1.block b hk
  ·rw [ha];exact h2.2 b o ha hk⟩
structure HdI (W w9:World) (hb:Nat) (c:List Pts) (hv:Value) (pre:List BlkX) (w:World):Prop where
 box:Boxed w hb 89 hv
 own:OwnG EP 71 w w9.heap.size hv (pre.map encX)
 st:StJ (GdO hb w9) w9 w
 below:Below W.heap.size W w
 pre_:pre.map (fun x=>x.1)=(qae c).take pre.length
 rd:∀x ∈ pre,(∃A n k,x.2.1=.slice A n k)∧RdJ (GdO hb w9) w9 x.2.1 x.1.2∧Nz x.2.1
variable {W w9 w w':World} {hb:Nat} {c:List Pts} {hv:Value} {pre:List BlkX}
theorem HdI.on (h:HdI W w9 hb c hv pre w) (k:Below w.heap.size w w'):HdI W w9 hb c hv pre w':=
 ⟨qat h.box k,h.own.below k,h.st.trans (StJ.of_below k (fun _ hg=>Nat.lt_of_lt_of_le hg.lt h.st.size)),h.below.trans (k.mono h.below.size),h.pre_,h.rd⟩
theorem HdI.putLoop {l:Nat} {r:Loop} (h:HdI W w9 hb c hv pre w) (hl:w.heap[l]? =some (.loop r)) (hz:w9.heap.size<=l) (hW:W.heap.size<=w9.heap.size) (o:Obj):HdI W w9 hb c hv pre (w.putObj l o):=
 ⟨qaP h.box hl o,h.own.putO o hl rfl,⟨by rw [World.putObj_size];exact h.st.size,fun b hg=>(World.putObj_heap_other (by have :=hg.lt;omega)).trans (h.st.block b hg)⟩,qbN h.below (by omega) o,h.pre_,h.rd⟩
theorem HdI.put {l:Nat} {o0:Obj} (h:HdI W w9 hb c hv pre w) (hl:w.heap[l]? =some o0) (hc:o0.isCells=false) (hz:w9.heap.size<=l) (hW:W.heap.size<=w9.heap.size) (o:Obj):HdI W w9 hb c hv pre (w.putObj l o):=
 ⟨qdF h.box hl hc o,h.own.putO o hl hc,⟨by rw [World.putObj_size];exact h.st.size,fun b hg=>(World.putObj_heap_other (by have :=hg.lt;omega)).trans (h.st.block b hg)⟩,qbN h.below (by omega) o,h.pre_,h.rd⟩
theorem qpz {G:Nat->Prop} {A B:World} {base:Nat} {v:Value} {l:List Smp} (h:Own A base 66 v l) (k:StJ G A B) (hG:∀g c z,A.heap[g]? =some (.cells c 66 z)->G g):Own B base 66 v l:=by
 refine ⟨h.1,h.2.imp id ?_⟩;rintro ⟨g,cap,cur,e,hb,hh,hr⟩;exact ⟨g,cap,cur,e,hb,(k.block g (hG _ _ _ hh)).trans hh,hr⟩
theorem RdO.st {G:Nat->Prop} {A B:World} {base:Nat} {v:Value} {l:List Pts} (h:RdO A base v l) (k:StJ G A B) (hG:∀g c z,A.heap[g]? =some (.cells c 66 z)->G g) (hG2:∀g c z,A.heap[g]? =some (.cells c 62 z)->G g):RdO B base v l:=by
 obtain ⟨A',c',e,hc,hA⟩:=h;refine ⟨A',c',e,hc,hA.imp id ?_⟩;rintro ⟨b,o,e2,aa,hb,⟨cc,ht⟩,ab⟩;have hg:=hG2 _ _ _ ht;refine ⟨b,o,e2,aa,Nat.lt_of_lt_of_le hb k.size,⟨cc,(k.block b hg).trans ht⟩,fun i hi=> ?_⟩;obtain ⟨h1,sv,h2,h3,h4⟩:=ab i hi;exact ⟨(k.cell hg).trans h1,sv,(k.cell hg).trans h2,qpz h3 k hG,h4⟩
theorem HdI.push {w1:World} {hv':Value} {x:BlkX} (h:HdI W w9 hb c hv pre w) (hhb:W.heap.size<=hb) (hh9:hb<w9.heap.size) (hng:¬GdO hb w9 hb) (hx:(qae c)[pre.length]? =some x.1) (hs:∃A n k,x.2.1=.slice A n k) (hr:RdJ (GdO hb w9) w9 x.2.1 x.1.2) (hn:Nz x.2.1)
  (hg:w.grownBy w1 hv.ownBlock) (ho:OwnG EP 71 w1 w9.heap.size hv' (pre.map encX++[encX x])):
  Boxed w1 hb 89 hv∧HdI W w9 hb c hv' (pre++[x]) (w1.setCell ⟨hb,0,none⟩ hv')∧KpT ktO hb w (w1.setCell ⟨hb,0,none⟩ hv'):=by
 have hz:=h.st.size;have b1:Boxed w1 hb 89 hv:=qaG h.box hg h.own (by decide);have ac:KpT ktO hb w w1:=KpT.grown hg (by omega) (fun k e=>by
  obtain ⟨q1,cc,z,q2⟩:=h.own.cellsAt k e;exact ⟨by omega,cc,_,z,q2,rfl⟩)
 have ab:KpT ktO hb w1 (w1.setCell ⟨hb,0,none⟩ hv'):=KpT.setCell (e:=89) b1 rfl (Nat.le_refl _) _ _;have hk:=ac.trans ab;refine ⟨b1,⟨b1.set _, ?_,⟨Nat.le_trans hz hk.1.size,fun b aa=> ?_⟩,h.below.trans (hk.1.mono hhb), ?_, ?_⟩,hk⟩
 ·rw [List.map_append];exact ho.set b1 (by decide) _
 ·have ad:b≠hb:=fun e=>hng (e▸aa);have ae:=aa.lt;rw [Below.heap_setCell _ _ _ _ (show b≠hb from ad),hg.block b (by omega) (fun e=>by have :=(h.own.blk e.symm).1;omega)];exact h.st.block b aa
 ·rw [List.map_append,h.pre_,List.length_append,List.length_singleton,List.take_add_one,hx];rfl
 ·intro y hy;rcases List.mem_append.1 hy with hy|hy
  ·exact h.rd y hy
  ·rw [List.mem_singleton] at hy;subst hy;exact ⟨hs,hr,hn⟩
theorem HdI.heads (h:HdI W w9 hb c hv pre w) (hS:pre.map (fun x=>x.1)=qae c):RdP w w.heap.size hv (qae c):=by
 refine qlX h.own.rd (by rw [List.length_map,<-hS,List.length_map]) (fun i hi ab=> ?_);have aa:i<pre.length:=by simpa using hi
 obtain ⟨⟨A,n,k,e⟩,h2,h3⟩:=h.rd pre[i] (List.getElem_mem aa);have e1:(qae c)[i]=(pre[i]).1:=by simp [<-hS]
 have e2:(pre.map encX)[i]=encX pre[i]:=by simp
 rw [e1,e2];have e3:qbC (encX pre[i])=pre[i].2.1:=by
  unfold qbC encX;rw [e]
 rw [e3];have hq:=(h2.st h.st).rd (fun _ hg=>Nat.lt_of_lt_of_le hg.lt h.st.size);exact ⟨rfl,hq,h3⟩
end Go.Proofs.YtnkelahimiipjaaGreatDoor
