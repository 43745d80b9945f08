/-
 varint: Zig, Zag, PutAll.
-/
import Derived.Test.YtnkelahimiipjaaGreatDoorCct
import Derived.Laws.DeepNot64
import Derived.WalkMore
set_option maxRecDepth 100000
set_option maxHeartbeats 8000000
namespace Go.Proofs.YtnkelahimiipjaaGreatDoor
open Go.RowKit Go.Sort
theorem qmz (x:Int):IntKind.u64.wrap x=x%18446744073709551616:=by
 unfold IntKind.wrap;simp [IntKind.bits,IntKind.signed]
theorem qnl {n:Int} (h:In64 n):bits .xor .u64 (IntKind.u64.wrap (wrap64 (n*2))) (IntKind.u64.wrap (n/9223372036854775808))=(zigV n:Int):=by
 unfold In64 at h;rw [qmz,qmz];unfold wrap64 zigV;by_cases h0:0<=n
 ·rw [if_pos h0];have e1:((n*2+9223372036854775808)%18446744073709551616-9223372036854775808)%18446744073709551616=(((2*n).toNat:Nat):Int):=by omega
  have e2:n/9223372036854775808%18446744073709551616=((0:Nat):Int):=by omega
  rw [e1,e2,u64_xor_nat _ _ (by omega) (by omega),Nat.xor_zero]
 ·rw [if_neg h0];have e1:((n*2+9223372036854775808)%18446744073709551616-9223372036854775808)%18446744073709551616=(((18446744073709551616+2*n).toNat:Nat):Int):=by omega
  have e2:n/9223372036854775808%18446744073709551616=((18446744073709551615:Nat):Int):=by omega
  rw [e1,e2,u64_xor_nat _ _ (by omega) (by omega),qne (by omega)];omega
theorem qng {a:Nat} (h:a<9223372036854775808):bits .xor .i64 (a:Int) 0=(a:Int):=by
 show IntKind.i64.wrap ((BitVec.ofInt 64 (a:Int) ^^^ BitVec.ofInt 64 0).toNat:Int)=_;have h0:BitVec.ofInt 64 0=0#64:=by decide
 rw [h0,BitVec.xor_zero,BitVec.toNat_ofInt,qe1];have e:((((a:Int)%((2^64:Nat):Int)).toNat:Nat):Int)=(a:Int):=by
  have :((2^64:Nat):Int)=18446744073709551616:=rfl;rw [this];omega
 rw [e]
 split<;>omega
theorem qnC {u:Nat} (h:u<18446744073709551616):bits .xor .i64 ((u:Int)/2) (wrap64 (-wrap64 (bits .and .u64 (u:Int) 1)))=zagV u:=by
 have e1:bits .and .u64 (u:Int) 1=((u%2:Nat):Int):=by
  have e:=u64_and_nat u 1 h (by decide);rw [Nat.and_one_is_mod] at e;exact e
 have e2:(u:Int)/2=((u/2:Nat):Int):=by omega
 rw [e1,e2];unfold zagV;rcases Nat.mod_two_eq_zero_or_one u with h0|h0
 ·rw [if_pos h0,h0];have :wrap64 (-wrap64 ((0:Nat):Int))=0:=by unfold wrap64;omega
  rw [this,qng (by omega)]
 ·rw [if_neg (by omega),h0];have :wrap64 (-wrap64 ((1:Nat):Int))= -1:=by unfold wrap64;omega
  rw [this];have e3:bits .xor .i64 ((u/2:Nat):Int) (-1)=bits .xor .i64 (-1) ((u/2:Nat):Int):=by
   show IntKind.i64.wrap ((BitVec.ofInt 64 ((u/2:Nat):Int) ^^^ BitVec.ofInt 64 (-1)).toNat:Int)=IntKind.i64.wrap ((BitVec.ofInt 64 (-1) ^^^ BitVec.ofInt 64 ((u/2:Nat):Int)).toNat:Int);rw [BitVec.xor_comm]
  rw [e3,i64_not _ (by omega)];omega
theorem qmU (n:Int) (h:In64 n) (W:World):Calls Tryz.prog 97 #[.int .i64 n] W fun e w'=>e=.returned (.int .u64 (zigV n:Int))∧w'=W:=by
 have e:=qnl h;go_enter Tryz.func97,Tryz.ntmps97;go_wp2_with fail;go_ret;exact ⟨by rw [<-e];rfl,rfl⟩
theorem qi0 (u:Nat) (h:u<18446744073709551616) (W:World):Calls Tryz.prog 120 #[.int .u64 (u:Int)] W fun e w'=>e=.returned (.int .i64 (zagV u))∧w'=W:=by
 have e:=qnC h;go_enter Tryz.func120,Tryz.ntmps120;go_wp2_with fail;go_ret;exact ⟨by rw [<-e];rfl,rfl⟩
theorem qcu (v:Value) (b:List Nat) (lv:Value) (l:List Int) (W:World) (hR:RdG EB W W.heap.size v b) (hL:RdG EI W W.heap.size lv l) (hi:∀n ∈ l,In64 n) (hb:b.length<=100000) (hl:l.length<=10000):
  Calls Tryz.prog 64 #[v,lv] W fun e w'=>∃v',e=.returned v'∧OwnG EB 5 w' W.heap.size v' (b++allV l)∧Below W.heap.size W w':=by
 have KC:=Lib.hid (qa2 v b W hR (by omega));have HI:=Lib.hid hi;have ai:=Lib.hid hb;obtain ⟨A,c,rfl,_,_,_⟩:=hR;obtain ⟨LA,lc,rfl,_,_,ad⟩:=hL;have aj:=Lib.hid ad;obtain ⟨n,hn⟩:∃n,n=l.length:=⟨_,rfl⟩;rw [<-hn] at hl ⊢;have HN:=Lib.hid hn;clear hi hb ad hn;go_enter Tryz.func64,Tryz.ntmps64;go_wp2_with fail;refine KC.out.mono ?_;rintro e w1 ⟨v1,rfl,hO,hB⟩;have HB:=Lib.hid hB;have HO:=Lib.hid hO;clear hO hB KC;go_wp2_with fail
 go_loopw [5,7,12] (fun bv _ iv wl=>∃k:Nat,k<=n∧iv=.int .i64 k∧Hid (OwnG EB 5 wl W.heap.size bv (b++allV (l.take k)))∧Hid (Below W.heap.size W wl))
  (fun _ _ iv _=>n-(intOf iv).toNat)
 case atStart=>exact ⟨0,Nat.zero_le _,rfl,by (show OwnG _ _ _ _ _ _);simpa [allV] using HO.out,HB.out⟩
 case round=>
  obtain ⟨k,hk,rfl,HO,HB⟩:=hrel;by_cases hlt:k<n
  ·have aa:k<l.length:=(by rw [<-HN.out];exact hlt);rcases aj.out with h0|⟨b1,o1,e,ak,ae⟩
   ·rw [h0] at aa;simp at aa
   subst e;obtain ⟨y,hy⟩:∃y,y=l[k]:=⟨_,rfl⟩;have al:wr.cell? ⟨b1,o1+k,none⟩=some (.int .i64 y):=by
    have :=qfz.1 (ae k aa);rw [<-hy] at this;rw [HB.out.cell ak];simpa [EI] using this
   have ac:In64 y:=HI.out y (by rw [hy];exact List.getElem_mem aa);have HT:Hid (b++allV (l.take (k+1))=(b++allV (l.take k))++putV (zigV y)):=by
    show _=_;rw [List.take_succ_eq_append_getElem aa,<-hy,qhk,<-List.append_assoc];congr 1;unfold allV;simp
   have ab:(b++allV (l.take k)).length<=1000000:=by
    have :=qdS (l:=l.take k) (fun n hn=>HI.out n (List.mem_of_mem_take hn));rw [List.length_take] at this;have :=ai.out;rw [List.length_append];omega
   have KZ:=Lib.hid (qmU y ac wr);have KP:=Lib.hid (qgD _ _ (zigV y) W.heap.size wr HO.out HB.out.size (qkZ ac) ab);have i1:(k:Int)<(n:Int):=(by omega);clear aa ae hy ac ab;go_wp2_with fail;refine KZ.out.mono ?_;rintro e w2 ⟨rfl,rfl⟩;go_wp2_with fail;refine KP.out.mono ?_;rintro e w3 ⟨v3,rfl,hG⟩;have ah:=Lib.hid hG.own;have ag:=Lib.hid (HO.out.step HB.out HB.out.size hG.by_);clear hG KP KZ;go_wp2_with fail;go_roundw
   case rel=>exact ⟨k+1,by omega,by go_num,by rw [HT.out];exact ah.out,ag.out⟩
   case measure=>simp [intOf];omega
  ·have af:k=n:=(by omega);have i1:¬(k:Int)<(n:Int):=(by omega);rw [af,HN.out,List.take_length] at HO;clear hk hlt;go_wp2_with fail;go_ret;exact ⟨_,rfl,HO.out,HB.out⟩
theorem qe9 (v : Value) (b : List Nat) (W : World) (hR : RdG EB W W.heap.size v b) (h8 : ∀ c ∈ b, c < 256) :
  Calls Tryz.prog 103 #[v] W fun e w'=>e=.returned (.tuple #[.int .u64 ((qab b).2.1:Int),.int .i64 ((qab b).2.2:Int),.int .i64 (qab b).1])∧w'=W:=by
 have hr:Tryz.f103.results= #[.tmp 2,.tmp 3,.tmp 4]:=by kernel_rfl
 obtain ⟨A,c,rfl,_,_,hA⟩:=hR;have HA:=Lib.hid hA;have H8:=Lib.hid h8;obtain ⟨n,hn⟩:∃n,n=b.length:=⟨_,rfl⟩;rw [<-hn];have HN:=Lib.hid hn;obtain ⟨R,hR⟩:∃R,R=qab b:=⟨_,rfl⟩;have HR:=Lib.hid hR;rw [<-hR];clear hA h8 hn hR;go_enter Tryz.func103,Tryz.ntmps103;go_wp2_with fail
 go_step3
 go_wp2_with fail
 go_step3
 go_wp2_with fail
 go_loopw [5,6,7,8,11] (fun uv iv _ _ _ wl=>∃(k x:Nat),iv=.int .i64 (k:Int)∧uv=.int .u64 (x:Int)∧x<18446744073709551616∧k<=10∧k<=n∧Hid (k<=9->x=valV (b.take k))∧Hid (∀i (h:i<b.length),i<k->128<=b[i])∧wl=W)
  (fun _ iv _ _ _ _=>10-(intOf iv).toNat)
 case atStart=>exact ⟨0,0,rfl,rfl,by decide,by omega,Nat.zero_le _,fun _=>rfl,fun i h h'=>absurd h' (Nat.not_lt_zero _),rfl⟩
 case round =>
  obtain ⟨k,x,rfl,rfl,hx,hk,ak,HX,HL,rfl⟩:=hrel;have ac:=qme b k (by rw [<-HN.out];exact ak) HL.out;by_cases h10:k=10
  ·subst h10;have e:R=(11,0,0):=(by rw [HR.out];unfold qab;rw [if_pos ac.1]);have HE:=Lib.hid e;clear e ac;go_wp2_with fail
   (try rw [Exit.noGoto_ret])
   refine bodyPost_ret (v:=.tuple #[.int .u64 0,.int .i64 0,.int .i64 11]) ?_ rfl ⟨by rw [HE.out];rfl,rfl⟩;unfold results;rw [hr]
   go_simp
  ·have g1 : ((k : Int) == 10) = false := by simp; omega
   by_cases hkl:k=n
   ·have e:R=(10,0,0):=by
     rw [HR.out];unfold qab;have :=qoI b;have :=ac.1;rw [if_neg (by have :=HN.out;omega),if_pos (by have :=HN.out;omega)]
    have g2:((k:Int)==(n:Int))=true:=(by simp;omega);have HE:=Lib.hid e;clear e ac;go_wp2_with fail
    (try rw [Exit.noGoto_ret])
    refine bodyPost_ret (v:=.tuple #[.int .u64 0,.int .i64 0,.int .i64 10]) ?_ rfl ⟨by rw [HE.out];rfl,rfl⟩;unfold results;rw [hr]
    go_simp
   ·have g2:((k:Int)==(n:Int))=false:=(by simp;omega);have ab:k<b.length:=(by rw [<-HN.out];omega);rcases HA.out with h0|⟨b1,o1,e,aw,aj⟩
    ·rw [h0] at ab;simp at ab
    subst e;obtain ⟨y,hy⟩:∃y,y=b[k]:=⟨_,rfl⟩;have ar:wr.cell? ⟨b1,o1+k,none⟩=some (.int .u8 (y:Int)):=by
     have :=qdX.1 (aj k ab);rw [<-hy] at this;simpa [EB] using this
    have ap:y<256:=H8.out y (by rw [hy];exact List.getElem_mem ab);have i1:(k:Int)<(n:Int):=(by omega);have aq:k<=9:=(by omega);have ai:=HX.out aq;obtain ⟨z,hz⟩:∃z,z=x ||| (y%128*2^(7*k)%18446744073709551616):=⟨_,rfl⟩;have am:z<18446744073709551616:=by
     rw [hz];exact Nat.or_lt_two_pow (n:=64) hx (Nat.mod_lt _ (by decide))
    have HZ:Hid (bits .or .u64 (x:Int) (IntKind.u64.wrap (IntKind.u64.wrap (bits .and .u8 (y:Int) 127)*2^(7*k)))=(z:Int)):=by
     show _=_;have e1:bits .and .u8 (y:Int) 127=((y%128:Nat):Int):=by
      have e:=u8_and_nat y 127 ap (by decide);rw [qpL] at e;exact e
     have e2:((y%128:Nat):Int)%18446744073709551616*2^(7*k)=((y%128*2^(7*k):Nat):Int):=by
      have :((y%128:Nat):Int)%18446744073709551616=((y%128:Nat):Int):=(by omega);rw [this,Int.natCast_mul,Int.natCast_pow];rfl
     have e3:∀m:Nat,(m:Int)%18446744073709551616=((m%18446744073709551616:Nat):Int):=fun m=>(by omega);rw [e1,qmz,qmz,e2,e3,u64_or_nat _ _ hx (Nat.mod_lt _ (by decide)),hz]
    have af:Hid (k<=8∨y<=1->z=valV (b.take (k+1))):=fun hc=>by
     have ao:=qcY (b:=b) (n:=k) (by omega);have ag:2^(7*k)<=9223372036854775808:=Nat.le_trans (Nat.pow_le_pow_right (by decide) (show 7*k<=63 by omega)) (by decide);have an:y%128*2^(7*k)<18446744073709551616:=by
      rcases hc with hc|hc
      ·have ae:2^(7*k)<=72057594037927936:=Nat.le_trans (Nat.pow_le_pow_right (by decide) (show 7*k<=56 by omega)) (by decide);have :=Nat.mul_le_mul (show y%128<=127 by omega) ae;omega
      ·have :=Nat.mul_le_mul (show y%128<=1 by omega) ag;omega
     rw [hz,Nat.mod_eq_of_lt an,ai,qm2 ao,qih ab,<-hy]
    have HY:=Lib.hid hy;have aa:y<128->qbx b=k:=fun h=>ac.2 ab (by rw [<-hy];exact h);have au:=Lib.hid aa;have ad:Hid (y<128->R=if (k=9∧1<y)∨(0<k∧y=0) then (11,0,0) else (0,valV (b.take (k+1)),k+1)):=fun h=>by
     have e:=aa h;have eg:b.getD k 0=y:=(by rw [List.getD_eq_getElem?_getD,List.getElem?_eq_getElem ab,hy];rfl);rw [HR.out];unfold qab;rw [e,if_neg (by omega),if_neg (by omega),eg];by_cases h9:k=9
     ·subst h9;rw [eg]
     ·simp only [h9,false_and]
    have al:Hid (¬y<128->∀i (h:i<b.length),i<k+1->128<=b[i]):=fun h i hi av=>by
     by_cases e:i=k
     ·subst e;rw [<-hy];omega
     ·exact HL.out i hi (by omega)
    clear aj ac aa ai hz HL HX;clear hy;by_cases hyl:y<128
    ·have i2:(y:Int)<128:=(by omega);by_cases hk9':k=9
     ·subst hk9';by_cases hy1:1<y
      ·have i3:(y:Int)>1:=(by omega);have HE:Hid (R=(11,0,0)):=by show _=_;rw [ad.out hyl,if_pos (.inl ⟨rfl,hy1⟩)]
       (try clear hyl)
       go_wp2_with fail
       (try rw [Exit.noGoto_ret])
       refine bodyPost_ret (v:=.tuple #[.int .u64 0,.int .i64 0,.int .i64 11]) ?_ rfl ⟨by rw [HE.out]<;>rfl,rfl⟩;unfold results;rw [hr]
       go_simp
      ·have i3:¬(y:Int)>1:=(by omega);by_cases hy0:y=0
       ·have i4:((y:Int)==0)=true:=(by simp;omega);have HE:Hid (R=(11,0,0)):=by show _=_;rw [ad.out hyl,if_pos (.inr ⟨by omega,hy0⟩)]
        (try clear hyl)
        go_wp2_with fail
        (try rw [Exit.noGoto_ret])
        refine bodyPost_ret (v:=.tuple #[.int .u64 0,.int .i64 0,.int .i64 11]) ?_ rfl ⟨by rw [HE.out]<;>rfl,rfl⟩;unfold results;rw [hr]
        go_simp
       ·have i4:((y:Int)==0)=false:=(by simp;omega);have HE:Hid (R=(0,z,10)):=by show _=_;rw [ad.out hyl,if_neg (by omega),<-af.out (.inr (by omega))]
        (try clear hyl)
        go_wp2_with fail
        (try rw [Exit.noGoto_ret])
        refine bodyPost_ret (v:=.tuple #[.int .u64 (z:Int),.int .i64 ((10:Nat):Int),.int .i64 0]) ?_ rfl ⟨by rw [HE.out]<;>rfl,rfl⟩;unfold results;rw [hr]
        go_simp
        first|exact HZ.out|(have h:=HZ.out;simpa using h)|(have h:=HZ.out;exact ⟨by simpa using h,rfl⟩)
     ·have i5:(((k:Int)+1)==10)=false:=(by simp;omega);by_cases hk0:k=0
      ·have i6:¬(k:Int)+1>1:=(by omega);have HE:Hid (R=(0,z,k+1)):=(by show _=_;rw [ad.out hyl,if_neg (by omega),<-af.out (.inl (by omega))]);clear hk0
       (try clear hyl)
       go_wp2_with fail
       (try rw [Exit.noGoto_ret])
       refine bodyPost_ret (v:=.tuple #[.int .u64 (z:Int),.int .i64 ((k+1:Nat):Int),.int .i64 0]) ?_ rfl ⟨by rw [HE.out]<;>rfl,rfl⟩;unfold results;rw [hr]
       go_simp
       first|exact HZ.out|(have h:=HZ.out;simpa using h)|(have h:=HZ.out;exact ⟨by simpa using h,rfl⟩)
      ·have i6:(k:Int)+1>1:=(by omega);by_cases hy0:y=0
       ·have i4:((y:Int)==0)=true:=(by simp;omega);have HE:Hid (R=(11,0,0)):=by show _=_;rw [ad.out hyl,if_pos (.inr ⟨by omega,hy0⟩)]
        (try clear hyl)
        go_wp2_with fail
        (try rw [Exit.noGoto_ret])
        refine bodyPost_ret (v:=.tuple #[.int .u64 0,.int .i64 0,.int .i64 11]) ?_ rfl ⟨by rw [HE.out]<;>rfl,rfl⟩;unfold results;rw [hr]
        go_simp
       ·have i4:((y:Int)==0)=false:=(by simp;omega);have HE:Hid (R=(0,z,k+1)):=by show _=_;rw [ad.out hyl,if_neg (by omega),<-af.out (.inl (by omega))]
        (try clear hyl)
        go_wp2_with fail
        (try rw [Exit.noGoto_ret])
        refine bodyPost_ret (v:=.tuple #[.int .u64 (z:Int),.int .i64 ((k+1:Nat):Int),.int .i64 0]) ?_ rfl ⟨by rw [HE.out]<;>rfl,rfl⟩;unfold results;rw [hr]
        go_simp
        first|exact HZ.out|(have h:=HZ.out;simpa using h)|(have h:=HZ.out;exact ⟨by simpa using h,rfl⟩)
    ·have i2:¬(y:Int)<128:=(by omega);have ah:Hid (k+1<=10∧k+1<=n):=(by show _∧_;omega);clear hyl;go_wp2_with fail;go_roundw
     case rel=>exact ⟨k+1,z,by go_num,by rw [HZ.out],am,ah.out.1,ah.out.2,fun h=>af.out (.inl (by omega)),al.out (by omega),trivial⟩
     case measure=>have :=ah.out;simp [intOf];omega
theorem qdo (v:Value) (b:List Nat) (W:World) (hR:RdG EB W W.heap.size v b) (h8:∀c ∈ b,c<256) (hb:b.length<=1000000000):
  Calls Tryz.prog 73 #[v] W fun e w'=>∃r,e=.returned (.tuple #[.int .u64 (if (qab b).1=0 then ((qab b).2.1:Int) else 0),r,.int .i64 (qab b).1])∧Below W.heap.size W w'∧
   if (qab b).1=0 then OwnG EB 5 w' W.heap.size r (b.drop (qab b).2.2) else r=.slice none 0 0:=by
 have hr:Tryz.f73.results= #[.tmp 2,.tmp 3,.tmp 4]:=by kernel_rfl
 have KT:=Lib.hid (qe9 v b W hR h8);obtain ⟨R,ad⟩:∃R,R=qab b:=⟨_,rfl⟩;have ai:=Lib.hid ad;have aa:=qf1 (b:=b);rw [<-ad] at KT aa ⊢;obtain ⟨A,c,rfl,hc,af,hA⟩:=id hR;have ab:=Lib.hid hR;obtain ⟨n,hn⟩:∃n,n=b.length:=⟨_,rfl⟩;rw [<-hn] at KT ab hc ⊢;rw [<-hn] at aa;have HN:=Lib.hid hn;obtain ⟨er,u,k⟩:=R;simp only at KT aa ⊢;have HC:=Lib.hid hc;clear hR ad hA af hn hc;go_enter Tryz.func73,Tryz.ntmps73;go_wp2_with fail;refine KT.out.mono ?_;rintro e w1 ⟨rfl,rfl⟩;by_cases he:er=0
 ·subst he;obtain ⟨k1,k2,k3⟩:=aa rfl;have ae:∃b1 o1,A=some ⟨b1,o1,none⟩:=by
   obtain ⟨A',c',e',_,_,h⟩:=ab.out;injection e' with e1 _ _;rcases h with h0|⟨b1,o1,e2,_⟩
   ·have :=HN.out;rw [h0] at this;simp at this;omega
   ·exact ⟨b1,o1,e1.trans e2⟩
  obtain ⟨b1,o1,rfl⟩:=ae;have ag:n<=c:=HC.out;have ac:(b.drop k).length<=140737488355328:=by rw [List.length_drop];omega
  by_cases hkc:c=k
  ·have ah:n=k:=(by omega);have hD:RdG EB w1 w1.heap.size (.slice (some ⟨b1,o1,none⟩) 0 0) (b.drop k):=by
    have e:b.drop k=[]:=List.drop_eq_nil_of_le (by rw [<-HN.out];omega);rw [e];exact ⟨some ⟨b1,o1,none⟩,0,rfl,Nat.zero_le _,fun h=>(by cases h),.inl rfl⟩
   have KC:=Lib.hid (qa2 _ (b.drop k) w1 hD ac);clear aa k2 k3 hD ac h8 hb ab;go_wp2_with fail;refine KC.out.mono ?_;rintro e w2 ⟨v2,rfl,hO,hB⟩;have HO:=Lib.hid hO;have HB:=Lib.hid hB;clear hO hB KC;go_wp2_with fail;refine bodyPost_ret (v:=.tuple #[.int .u64 (u:Int),v2,.int .i64 0]) ?_ rfl ⟨v2,rfl,HB.out,HO.out⟩;unfold results;rw [hr]
   go_simp
  ·have hcut:=ab.out.cutFrom HN.out k1;rw [show k*EB.k=k from Nat.mul_one k] at hcut;have KC:=Lib.hid (qa2 _ (b.drop k) w1 hcut ac);clear hcut;clear aa k2 k3 ac h8 hb ab;go_wp2_with fail;refine KC.out.mono ?_;rintro e w2 ⟨v2,rfl,hO,hB⟩;have HO:=Lib.hid hO;have HB:=Lib.hid hB;clear hO hB KC;go_wp2_with fail;refine bodyPost_ret (v:=.tuple #[.int .u64 (u:Int),v2,.int .i64 0]) ?_ rfl ⟨v2,rfl,HB.out,HO.out⟩;unfold results;rw [hr]
   go_simp
 ·have g:(er != 0)=true:=by simp [he]
  have HE:=Lib.hid he;clear aa he;go_wp2_with fail;refine bodyPost_ret (v:=.tuple #[.int .u64 0,.slice none 0 0,.int .i64 er]) ?_ rfl (by first|exact ⟨rfl,Below.refl _ _⟩|exact ⟨.slice none 0 0,by rw [if_neg HE.out],Below.refl _ _,by rw [if_neg HE.out]⟩);unfold results;rw [hr]
  go_simp
def TabH (w:World):Prop:=∀i,i<16->w.cell? ⟨1,i,none⟩=some (.int .u32 (halvesL.getD i 0:Nat))
theorem qpN (a:Nat) (h:a<4294967296):bits .and .u32 (a:Int) 15=((a%16:Nat):Int):=by
 have e:=u32_and_nat a 15 h (by decide);rw [show a &&& 15=a%16 from Nat.and_two_pow_sub_one_eq_mod a 4] at e;exact e
theorem qnT (v:Value) (b:List Nat) (W:World) (hT:TabH W) (hR:RdG EB W W.heap.size v b) (h8:∀c ∈ b,c<256) (hb:b.length<=1000000000):
  Calls Tryz.prog 98 #[v] W fun e w'=>e=.returned (.int .u32 (sumV b:Nat))∧w'=W:=by
 obtain ⟨A,c,rfl,_,_,hA⟩:=hR;have HA:=Lib.hid hA;have H8:=Lib.hid h8;have HT:=Lib.hid hT;obtain ⟨n,hn⟩:∃n,n=b.length:=⟨_,rfl⟩;rw [<-hn] at hb ⊢;have HN:=Lib.hid hn;obtain ⟨s,hs⟩:∃s,s=sumV b:=⟨_,rfl⟩;have HS:=Lib.hid hs;rw [<-hs];clear hA h8 hn hs hT;go_enter Tryz.func98,Tryz.ntmps98;go_wp2_with fail
 go_loopw [3,5,8] (fun rv _ iv wl=>∃(k r:Nat),iv=.int .i64 (k:Int)∧rv=.int .u32 (r:Int)∧k<=n∧r<4294967296∧Hid (r=regV (b.take k))∧wl=W)
  (fun _ _ iv _=>n-(intOf iv).toNat)
 case atStart=>exact ⟨0,4294967295,rfl,rfl,Nat.zero_le _,by decide,rfl,rfl⟩
 case round =>
  obtain ⟨k,r,rfl,rfl,hk,hr,HX,rfl⟩:=hrel;by_cases hlt:k<n
  ·have aa:k<b.length:=(by rw [<-HN.out];exact hlt);rcases HA.out with h0|⟨b1,o1,e,aq,ah⟩
   ·rw [h0] at aa;simp at aa
   subst e;obtain ⟨y,hy⟩:∃y,y=b[k]:=⟨_,rfl⟩;have ao:wr.cell? ⟨b1,o1+k,none⟩=some (.int .u8 (y:Int)):=by
    have :=qdX.1 (ah k aa);rw [<-hy] at this;simpa [EB] using this
   have ap:y<256:=H8.out y (by rw [hy];exact List.getElem_mem aa);have aj:(k:Int)<(n:Int):=(by omega);obtain ⟨a,ha⟩:∃a,a=r ^^^ y:=⟨_,rfl⟩;have an:a<4294967296:=(by rw [ha];exact Nat.xor_lt_two_pow (n:=32) hr (by omega));obtain ⟨t1,ad⟩:∃t1,t1=halvesL.getD (a%16) 0:=⟨_,rfl⟩;have ac:t1<4294967296:=(by rw [ad];exact qgC _);obtain ⟨d,hd⟩:∃d,d=(a/16) ^^^ t1:=⟨_,rfl⟩;have am:d<4294967296:=(by rw [hd];exact Nat.xor_lt_two_pow (n:=32) (by omega) ac);obtain ⟨t2,ae⟩:∃t2,t2=halvesL.getD (d%16) 0:=⟨_,rfl⟩;have ab:t2<4294967296:=(by rw [ae];exact qgC _);obtain ⟨f,hf⟩:∃f,f=(d/16) ^^^ t2:=⟨_,rfl⟩;have al:f<4294967296:=(by rw [hf];exact Nat.xor_lt_two_pow (n:=32) (by omega) ab);have e1:bits .xor .u32 (r:Int) (y:Int)=(a:Int):=(by rw [u32_xor_nat _ _ hr (by omega),ha]);have e2:bits .and .u32 (a:Int) 15=((a%16:Nat):Int):=qpN a an;have e3:bits .xor .u32 ((a:Int)/16) (t1:Int)=(d:Int):=by
    rw [show (a:Int)/16=((a/16:Nat):Int) by omega,u32_xor_nat _ _ (by omega) ac,hd]
   have e4:bits .and .u32 (d:Int) 15=((d%16:Nat):Int):=qpN d am;have e5:bits .xor .u32 ((d:Int)/16) (t2:Int)=(f:Int):=by
    rw [show (d:Int)/16=((d/16:Nat):Int) by omega,u32_xor_nat _ _ (by omega) ab,hf]
   obtain ⟨m1,af⟩:∃m,m=a%16:=⟨_,rfl⟩;obtain ⟨m2,ag⟩:∃m,m=d%16:=⟨_,rfl⟩;have q1:wr.cell? ⟨1,m1,none⟩=some (.int .u32 (t1:Int)):=(by rw [HT.out m1 (by omega),ad,af]);have q2:wr.cell? ⟨1,m2,none⟩=some (.int .u32 (t2:Int)):=(by rw [HT.out m2 (by omega),ae,ag]);have l1:(m1:Int)<16:=(by omega);have l2:(m2:Int)<16:=(by omega);rw [<-af] at e2;rw [<-ag] at e4;have ak:Hid (f=regV (b.take (k+1))):=by
    show _=_;rw [List.take_succ_eq_append_getElem aa,<-hy,qkH,<-HX.out];unfold sumS qoE;rw [<-ha,<-ad,<-hd,<-ae,<-hf]
   clear ah hy aa ha ad hd ae hf af ag;go_wp2_with fail;go_roundw
   case rel=>exact ⟨k+1,f,by go_num,by first|rfl|rw [e5],by omega,al,ak.out,by trivial⟩
   case measure=>simp [intOf];omega
  ·have ai:k=n:=(by omega);have aj:¬(k:Int)<(n:Int):=(by omega);have e1:bits .xor .u32 4294967295 (r:Int)=(s:Int):=by
    have e:=u32_xor_nat 4294967295 r (by decide) hr;have e2:4294967295 ^^^ r=4294967295-r:=by
     rw [Nat.xor_comm];have e3:(4294967295:Nat)=2^32-1:=rfl;rw [e3];apply Nat.eq_of_testBit_eq;intro i;rw [Nat.testBit_xor,Nat.testBit_two_pow_sub_one,show 2^32-1-r=2^32-(r+1) by omega,Nat.testBit_two_pow_sub_succ (by omega)];by_cases hi:i<32
     ·simp [hi]
     ·have h2:r.testBit i=false:=Nat.testBit_lt_two_pow (Nat.lt_of_lt_of_le hr (Nat.le_trans (by decide) (Nat.pow_le_pow_right (by decide) (show 32<=i by omega))));simp [hi,h2]
    rw [e2] at e;have e4:s=4294967295-r:=by
     rw [HS.out,HX.out,ai,HN.out,List.take_length];rfl
    rw [e4];exact e
   clear hk hlt;go_wp2_with fail;go_ret;exact ⟨by first|rfl|(rw [<-e1];rfl),rfl⟩
theorem rd4 {w:World} {x0 x1 x2 x3:Int} {t:TypeId} {n0 n1 n2 n3:Nat} (h0:x0=n0) (h1:x1=n1) (h2:x2=n2) (h3:x3=n3):RdG EB (w.alloc (.cells #[.int .u8 x0,.int .u8 x1,.int .u8 x2,.int .u8 x3] t)) (w.heap.size+1) (.slice (some ⟨w.heap.size,0,none⟩) 4 4) [n0,n1,n2,n3]:=by
 subst h0 h1 h2 h3;refine ⟨_,4,rfl,Nat.le_refl _,fun e=>(by cases e),.inr ⟨_,0,rfl,Nat.lt_succ_self _,fun i hi=> ?_⟩⟩;have hc:=fun j=>qak w #[.int .u8 (n0:Int),.int .u8 (n1:Int),.int .u8 (n2:Int),.int .u8 (n3:Int)] t j
 match i,hi with
 |0,_=>exact qdX.2 (hc 0)
 |1,_=>exact qdX.2 (hc 1)
 |2,_=>exact qdX.2 (hc 2)
 |3,_=>exact qdX.2 (hc 3)
theorem qgP (v:Value) (b:List Nat) (base:Nat) (W:World) (hT:TabH W) (hO:OwnG EB 5 W base v b) (hbase:base<=W.heap.size) (h8:∀c ∈ b,c<256) (hb:b.length<=100000000):
  Calls Tryz.prog 67 #[v] W fun e w'=>∃v',e=.returned v'∧Grw EB 5 base W v w' v' (qcO b):=by
 have KS:=Lib.hid (qnT v b W hT hO.rd h8 (by omega));have HO:=Lib.hid hO;have ae:=Lib.hid hbase;have ac:=Lib.hid hb;have ad:sumV b<4294967296:=by unfold sumV;omega
 obtain ⟨s,hs⟩:∃s,s=sumV b:=⟨_,rfl⟩;have HS:=Lib.hid hs;rw [<-hs] at KS ad;clear hT hO hbase h8 hb hs;go_enter Tryz.func67,Tryz.ntmps67;go_wp2_with fail;refine KS.out.mono ?_;rintro e w1 ⟨rfl,rfl⟩;clear KS;go_wp2_with (first|(at_builtin;refine qhS EB rfl _ _ 23 5 rfl Tryz.underlying23 qct rfl (by decide) base _ b _ (qdl s) (w1.heap.size+1) rfl (HO.out.alloc _) rfl (rd4 ?c1 ?c2 ?c3 ?c4) ?c5 ?c6 ?_)|fail)
 case c1=>omega
 case c2=>omega
 case c3=>omega
 case c4=>omega
 case c5=>have :=ac.out;simp [qdl];omega
 case c6=>have :=ae.out;simp;omega
 intro v' w' aa hg ab _;have HG:=Lib.hid (((Grw.start HO.out).on ((Below.refl _ _).alloc (Nat.le_refl _) _)).push aa hg (by rw [World.size_alloc];exact ab));clear aa hg ab;go_wp2_with fail;go_ret;exact ⟨_,rfl,by unfold qcO;rw [<-HS.out];exact HG.out⟩
theorem TabH.below {w w':World} (h:TabH w) (k:Below w.heap.size w w'):TabH w':=fun i hi=>by
 have hc:=h i hi;exact (k.cell (qaa hc)).trans hc
theorem RdG.oneB (k:Nat) (W:World):RdG EB (W.alloc (.cells #[.int .u8 (k:Int)] 5)) (W.alloc (.cells #[.int .u8 (k:Int)] 5)).heap.size (.slice (some ⟨W.heap.size,0,none⟩) 1 1) [k]:=
 ⟨_, 1, rfl, Nat.le_refl _, fun e => (by cases e), .inr ⟨_, 0, rfl, by simp, fun i hi => by
  obtain rfl:i=0:=by simp at hi;exact hi
  exact CellG.mk rfl _⟩⟩
theorem qly (k:Nat) (hk:k<256) (v:Value) (body:List Nat) (W:World) (hT:TabH W) (hR:RdG EB W W.heap.size v body) (h8:∀c ∈ body,c<256) (hb:body.length<=65535):
  Calls Tryz.prog 36 #[.int .i64 (k:Int),v] W fun e w'=>∃v',e=.returned (.tuple #[v',.int .i64 0])∧OwnG EB 5 w' W.heap.size v' (qaq k body)∧Below W.heap.size W w':=by
 have hr:Tryz.f36.results= #[.tmp 4,.tmp 5]:=by kernel_rfl
 have HR:=Lib.hid hR;have H8:=Lib.hid h8;have HT:=Lib.hid hT;obtain ⟨A,c,rfl,_,_,_⟩:=hR;obtain ⟨n,hn⟩:∃n,n=body.length:=⟨_,rfl⟩;rw [<-hn] at hb HR ⊢;have HN:=Lib.hid hn;have g1:¬(k:Int)<0:=by omega
 have g2:¬(k:Int)>255:=by omega
 have g3:¬(n:Int)>65535:=by omega
 have hA:Below W.heap.size W (W.alloc (.cells #[.int .u8 (k:Int)] 5)):=(Below.refl _ _).alloc (Nat.le_refl _) _;have KP:=Lib.hid (qbo (.slice (some ⟨W.heap.size,0,none⟩) 1 1) [k] n (W.alloc (.cells #[.int .u8 (k:Int)] 5)) (RdG.oneB k W) (by omega) (by simp));have HA:=Lib.hid hA;clear hT h8 hn hA;go_enter Tryz.func36,Tryz.ntmps36;go_wp2_with fail;refine KP.out.mono ?_;rintro e w1 ⟨v1,rfl,hO,hB⟩;have HB:Hid (Below W.heap.size W w1):=HA.out.trans (hB.mono HA.out.size);have HO:Hid (OwnG EB 5 w1 W.heap.size v1 ([k]++putV n)):=hO.lower HA.out.size;have ag:(putV n).length<=10:=qax 9 n (by omega);clear hO hB KP;go_wp2_with (first|(at_builtin;refine qhS EB rfl _ _ 23 5 rfl Tryz.underlying23 qct rfl (by decide) W.heap.size _ ([k]++putV n) _ body W.heap.size rfl HO.out rfl (HR.out.below HB.out) ?c1 HB.out.size ?_)|fail)
 case c1=>have :=HN.out;simp;omega
 intro v2 w2 aa hg ac _;have ab:=Lib.hid (HO.out.step HB.out HB.out.size hg);have KS:=Lib.hid (qgP v2 _ W.heap.size w2 (HT.out.below ab.out) aa ab.out.size (fun c hc=>by
  rcases List.mem_cons.1 hc with rfl|hc
  ·exact hk
  ·rcases List.mem_append.1 hc with hc|hc
   ·exact qbF _ c hc
   ·exact H8.out c hc) (by have :=HN.out;simp;omega))
 have ae:=Lib.hid aa;clear aa hg ac;go_wp2_with fail;refine KS.out.mono ?_;rintro e w3 ⟨v3,rfl,hG⟩;have af:=Lib.hid hG.own;have ad:=Lib.hid (ae.out.step ab.out ab.out.size hG.by_);clear hG KS;go_wp2_with fail;have e9:qcO (([k]++putV n)++body)=qaq k body:=by unfold qaq;rw [<-HN.out];simp
 refine bodyPost_ret (v:=.tuple #[v3,.int .i64 0]) ?_ rfl ⟨v3,rfl,by rw [<-e9];exact af.out,ad.out⟩;unfold results;rw [hr]
 go_simp
theorem qhJ (v:Value) (l:List Int) (W:World) (hR:RdG EI W W.heap.size v l) (hl:l.length<=1000000000):
  Calls Tryz.prog 142 #[v] W fun e w'=>∃v',e=.returned v'∧OwnG EI 2 w' W.heap.size v' l∧Below W.heap.size W w':=by
 have q22:∀(w:World) (a:Option Addr) (n c n' c':Nat),(binOp .eql 174 (.slice a n c) (.slice none n' c')).run Tryz.prog w=.ok (.bool a.isNone) w:=fun w a n c n' c'=>Lib.run_eql_slice_nil w _ _ a n c n' c' Tryz.underlying174;have HR:=Lib.hid hR;obtain ⟨A,c,rfl,hc,ab,hA⟩:=hR;cases A with
 | none =>
   have ac:=ab rfl;subst ac;have ae:l=[]:=List.eq_nil_of_length_eq_zero (by omega);subst ae;go_enter Tryz.func142,Tryz.ntmps142;go_wp2_with fail;go_ret;exact ⟨_,rfl,OwnG.nil _ _,Below.refl _ _⟩
 | some ad =>
   have HL:=Lib.hid hl;have hO:OwnG EI 2 (W.alloc (.cells #[] 2)) W.heap.size (.slice (some ⟨W.heap.size,0,none⟩) 0 0) []:=World.ownsRow_made W #[] 0 (Nat.le_refl _) (Nat.zero_le _) rfl;have HO:=Lib.hid hO;clear hA ab hO hl;go_enter Tryz.func142,Tryz.ntmps142;go_wp2_with (first|(at_builtin;refine qhS EI rfl _ _ 174 2 rfl Tryz.underlying174 qc5 rfl (by decide) W.heap.size _ [] _ l W.heap.size rfl HO.out rfl (HR.out.below ((Ext.refl W).alloc _).below) ?c1 ?c2 ?_)|fail)
   case c1=>have :=HL.out;simp;omega
   case c2=>simp
   ·intro v' w3 aa hg af;go_wp2_with fail;go_ret;exact ⟨_,rfl,aa,((Below.refl W.heap.size W).alloc (Nat.le_refl _) _).grown hg (by simp) (by intro k hk;simp [Value.ownBlock] at hk;omega)⟩
end Go.Proofs.YtnkelahimiipjaaGreatDoor
