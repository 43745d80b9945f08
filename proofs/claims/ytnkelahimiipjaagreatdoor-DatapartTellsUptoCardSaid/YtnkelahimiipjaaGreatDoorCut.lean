/-
 codec: As at each kind.
-/
import Derived.Test.YtnkelahimiipjaaGreatDoorCtt
import Derived.Test.YtnkelahimiipjaaGreatDoorCjt
set_option maxRecDepth 100000
set_option maxHeartbeats 8000000
namespace Go.Proofs.YtnkelahimiipjaaGreatDoor
open Go.RowKit Go.Sort
theorem qnB (l:List Int) (v:Value) (W:World) (hR:RdG EI W W.heap.size v l) (hl:l.length<=1000000):
  Calls Tryz.prog 130 #[v] W (AsC 2 l W):=
 (qeR l v W hR hl).mono fun e w' ⟨A,n,c,h1,h2,h3⟩=>⟨A,n,c,h1,h3,fun x hx=>by
   have e:asX 2 l=some (qaE l):=rfl;rw [e] at hx;injection hx with hx;subst hx;exact h2.rd⟩
theorem qfN {kind:Nat} {l x:List Int} (h:asX kind l=some x):x.length<=l.length+2:=by
 unfold asX at h
 split at h
 ·split at h
  ·injection h with h;subst h;simp
  ·cases h
 ·split at h
  ·split at h
   ·injection h with h;subst h;simp
   ·cases h
  ·split at h
   ·injection h with h;subst h;rw [qbt];omega
   ·split at h
    ·split at h
     ·injection h with h;subst h;unfold qa6;simp
     ·cases h
    ·cases h
def AsB (kind:Nat) (l:List Int) (W:World) (e:Ending) (w':World):Prop:=
 ∃bv,e=.returned (.tuple #[bv,.bool (asV kind l).isSome])∧Below W.heap.size W w'∧(∀x,asV kind l=some x->OwnG EB 5 w' W.heap.size bv x)∧(asV kind l=none->bv=.slice none 0 0)
theorem qdU (k g:Nat) (fv:Value) (W:World) (hk:k<4) (hc:W.cell? ⟨g,k,none⟩=some fv):
  Calls Tryz.prog 127 #[.int .i64 (k:Int),.slice (some ⟨g,0,none⟩) 4 4] W fun e w'=>e=.returned fv∧w'=W:=by
 have i1:¬(k:Int)<0:=by omega
 have i2:¬(k:Int)≥4:=by omega
 have i3:(k:Int)<4:=by omega
 go_enter Tryz.func127,Tryz.ntmps127;go_wp2_with fail;go_ret;exact ⟨rfl,rfl⟩
theorem qm7 (l:List Int) (v:Value) (W:World) (hR:RdG EI W W.heap.size v l) (hi:∀x ∈ l,In64 x) (hl:l.length<=4096):
  Calls Tryz.prog 116 #[.int .i64 0,v] W (AsB 0 l W):=by
 have ax:∀(fn:Fn) (first cap:Array Value) (w:World),(Instr.makeFunc fn first cap).run Tryz.prog w=.ok (.func fn first cap) w:=fun _ _ _ _=>rfl;have qf:∀(w:World) (f:Fn) (a b:Array Value),(binOp .eql 175 (.func f a b) .nilFunc).run Tryz.prog w=.ok (.bool false) w:=fun _ _ _ _=>by kernel_rfl
 have hr:Tryz.f116.results= #[.tmp 4,.tmp 5]:=by kernel_rfl
 obtain ⟨n,hn⟩:∃n,n=l.length:=⟨_,rfl⟩;have HR:=Lib.hid hR;have HI:=Lib.hid hi;obtain ⟨A,c,rfl,hc,aw,hA⟩:=hR;rw [<-hn] at HR hc hl ⊢;have HN:=Lib.hid hn;have i1:¬(n:Int)>4096:=by omega
 have ad:Below W.heap.size W (W.alloc (.cells #[.func (.func 128) #[.slice A n c] #[],.func (.func 129) #[.slice A n c] #[],.func (.func 130) #[.slice A n c] #[],.func (.func 131) #[.slice A n c] #[]] 175)):=(Below.refl _ _).alloc (Nat.le_refl _) _;have KN:Hid (Calls Tryz.prog 127 #[.int .i64 0,.slice (some ⟨W.heap.size,0,none⟩) 4 4] (W.alloc (.cells #[.func (.func 128) #[.slice A n c] #[],.func (.func 129) #[.slice A n c] #[],.func (.func 130) #[.slice A n c] #[],.func (.func 131) #[.slice A n c] #[]] 175)) fun e w'=>e=.returned (.func (.func 128) #[.slice A n c] #[])∧w'=W.alloc (.cells #[.func (.func 128) #[.slice A n c] #[],.func (.func 129) #[.slice A n c] #[],.func (.func 130) #[.slice A n c] #[],.func (.func 131) #[.slice A n c] #[]] 175)):=
  qdU 0 W.heap.size _ _ (by decide) (qak W _ _ 0)
 obtain ⟨W1,ab⟩:∃W1,W1=W.alloc (.cells #[.func (.func 128) #[.slice A n c] #[],.func (.func 129) #[.slice A n c] #[],.func (.func 130) #[.slice A n c] #[],.func (.func 131) #[.slice A n c] #[]] 175):=⟨_,rfl⟩;rw [<-ab] at KN ad;have KF:Hid (Calls Tryz.prog 128 #[.slice A n c] W1 (AsC 0 l W1)):=by
  have h:=qjM l (.slice A n c) W1 (by have :=HR.out.on ad;exact this) (by omega);exact h
 have ae:=Lib.hid ad;clear ad aw hA hi;cases hq:asX 0 l with
 | none =>
   have ha:asV 0 l=none:=(by unfold asV;rw [if_neg (by omega),hq];rfl);have HA:=Lib.hid ha;have HQ:=Lib.hid hq;clear ha hn hq;go_enter Tryz.func116,Tryz.ntmps116;go_wp2_with fail;rw [<-ab];refine KN.out.mono ?_;rintro e w1 ⟨rfl,rfl⟩;clear ab KN;go_wp2_with fail;refine KF.out.mono ?_;rintro e w2 ⟨A2,n2,c2,rfl,ac,_⟩;rw [HQ.out];have aa:Hid (Below W.heap.size W w2):=ae.out.trans (ac.mono ae.out.size);clear ac KF;go_wp2_with fail;refine bodyPost_ret (v:=.tuple #[.slice none 0 0,.bool false]) ?_ rfl (show AsB 0 l W _ _ from ⟨.slice none 0 0,by rw [HA.out];rfl,aa.out,fun x hx=>(by rw [HA.out] at hx;cases hx),fun _=>rfl⟩);unfold results;rw [hr]
   go_simp
 | some x =>
   have ha:asV 0 l=some (0::(putV n++allV x)):=(by unfold asV;rw [if_neg (by omega),hq,<-hn];rfl);have HA:=Lib.hid ha;have HQ:=Lib.hid hq;have an:∀y ∈ x,In64 y:=qe5 HI.out hq;have ag:=qfN hq;have HX:=Lib.hid (And.intro an ag);clear ha hn hq an ag;go_enter Tryz.func116,Tryz.ntmps116;go_wp2_with fail;rw [<-ab];refine KN.out.mono ?_;rintro e w1 ⟨rfl,rfl⟩;clear ab KN;go_wp2_with fail;refine KF.out.mono ?_;rintro e w2 ⟨A2,n2,c2,rfl,ac,ai⟩;have ah:=ai x HQ.out;rw [HQ.out];have aa:Hid (Below W.heap.size W w2):=ae.out.trans (ac.mono ae.out.size);have ap:=Lib.hid ah;have ao:Below w2.heap.size w2 (w2.alloc (.cells #[.int .u8 0] 5)):=(Below.refl _ _).alloc (Nat.le_refl _) _;have KP:Hid (Calls Tryz.prog 35 #[.slice (some ⟨w2.heap.size,0,none⟩) 1 1,.int .u64 (n:Int)] (w2.alloc (.cells #[.int .u8 0] 5)) fun e w'=>∃A3 n3 c3,e=.returned (.slice A3 n3 c3)∧OwnG EB 5 w' (w2.heap.size+1) (.slice A3 n3 c3) ([0]++putV n)∧Below (w2.heap.size+1) (w2.alloc (.cells #[.int .u8 0] 5)) w'):=
    (qbo _ [0] n _ (RdG.oneB 0 w2) (by omega) (by simp)).mono fun e w' ⟨v9,h1,h2,h3⟩=>by
      obtain ⟨A3,c3,e3,_⟩:=id h2.rd;rw [World.size_alloc] at h2 h3;exact ⟨A3,_,c3,by rw [h1,e3],by rw [<-e3];exact h2,h3⟩
   have ar:=Lib.hid ao;clear ac KF ai ah ao;go_wp2_with fail;refine KP.out.mono ?_;rintro e w4 ⟨A3,n3,c3,rfl,aj,al⟩;have af:Hid (Below w2.heap.size w2 w4):=ar.out.trans (al.mono (by omega));have aq:=qax 9 n (by omega);have KA:=Lib.hid (qcu (.slice A3 n3 c3) ([0]++putV n) (.slice A2 n2 c2) x w4 aj.rd (ap.out.on af.out) HX.out.1 (by simp;omega) (by have :=HX.out.2;have :=HN.out;omega));clear aj al KP aq;go_wp2_with fail;refine KA.out.mono ?_;rintro e w5 ⟨v5,rfl,ak,am⟩;have au:Hid (Below W.heap.size W w5):=(aa.out.trans (af.out.mono aa.out.size)).trans (am.mono (Nat.le_trans aa.out.size af.out.size));have av:Hid (OwnG EB 5 w5 W.heap.size v5 (0::(putV n++allV x))):=by
    have h:=ak.lower (base':=W.heap.size) (Nat.le_trans aa.out.size af.out.size);have e:([0]++putV n)++allV x=0::(putV n++allV x):=(by simp);rw [e] at h;exact h
   clear ak am KA;go_wp2_with fail;refine bodyPost_ret (v:=.tuple #[v5,.bool true]) ?_ rfl ⟨_,by rw [HA.out];rfl,au.out,fun y hy=>by
    rw [HA.out] at hy;injection hy with hy;subst hy;exact av.out,fun h=>by rw [HA.out] at h;cases h⟩
   unfold results;rw [hr]
   go_simp
theorem qmy (l:List Int) (v:Value) (W:World) (hR:RdG EI W W.heap.size v l) (hi:∀x ∈ l,In64 x) (hl:l.length<=4096):
  Calls Tryz.prog 116 #[.int .i64 1,v] W (AsB 1 l W):=by
 have ax:∀(fn:Fn) (first cap:Array Value) (w:World),(Instr.makeFunc fn first cap).run Tryz.prog w=.ok (.func fn first cap) w:=fun _ _ _ _=>rfl;have qf:∀(w:World) (f:Fn) (a b:Array Value),(binOp .eql 175 (.func f a b) .nilFunc).run Tryz.prog w=.ok (.bool false) w:=fun _ _ _ _=>by kernel_rfl
 have hr:Tryz.f116.results= #[.tmp 4,.tmp 5]:=by kernel_rfl
 obtain ⟨n,hn⟩:∃n,n=l.length:=⟨_,rfl⟩;have HR:=Lib.hid hR;have HI:=Lib.hid hi;obtain ⟨A,c,rfl,hc,aw,hA⟩:=hR;rw [<-hn] at HR hc hl ⊢;have HN:=Lib.hid hn;have i1:¬(n:Int)>4096:=by omega
 have ad:Below W.heap.size W (W.alloc (.cells #[.func (.func 128) #[.slice A n c] #[],.func (.func 129) #[.slice A n c] #[],.func (.func 130) #[.slice A n c] #[],.func (.func 131) #[.slice A n c] #[]] 175)):=(Below.refl _ _).alloc (Nat.le_refl _) _;have KN:Hid (Calls Tryz.prog 127 #[.int .i64 1,.slice (some ⟨W.heap.size,0,none⟩) 4 4] (W.alloc (.cells #[.func (.func 128) #[.slice A n c] #[],.func (.func 129) #[.slice A n c] #[],.func (.func 130) #[.slice A n c] #[],.func (.func 131) #[.slice A n c] #[]] 175)) fun e w'=>e=.returned (.func (.func 129) #[.slice A n c] #[])∧w'=W.alloc (.cells #[.func (.func 128) #[.slice A n c] #[],.func (.func 129) #[.slice A n c] #[],.func (.func 130) #[.slice A n c] #[],.func (.func 131) #[.slice A n c] #[]] 175)):=
  qdU 1 W.heap.size _ _ (by decide) (qak W _ _ 1)
 obtain ⟨W1,ab⟩:∃W1,W1=W.alloc (.cells #[.func (.func 128) #[.slice A n c] #[],.func (.func 129) #[.slice A n c] #[],.func (.func 130) #[.slice A n c] #[],.func (.func 131) #[.slice A n c] #[]] 175):=⟨_,rfl⟩;rw [<-ab] at KN ad;have KF:Hid (Calls Tryz.prog 129 #[.slice A n c] W1 (AsC 1 l W1)):=by
  have h:=qkn l (.slice A n c) W1 (by have :=HR.out.on ad;exact this) (by omega);exact h
 have ae:=Lib.hid ad;clear ad aw hA hi;cases hq:asX 1 l with
 | none =>
   have ha:asV 1 l=none:=(by unfold asV;rw [if_neg (by omega),hq];rfl);have HA:=Lib.hid ha;have HQ:=Lib.hid hq;clear ha hn hq;go_enter Tryz.func116,Tryz.ntmps116;go_wp2_with fail;rw [<-ab];refine KN.out.mono ?_;rintro e w1 ⟨rfl,rfl⟩;clear ab KN;go_wp2_with fail;refine KF.out.mono ?_;rintro e w2 ⟨A2,n2,c2,rfl,ac,_⟩;rw [HQ.out];have aa:Hid (Below W.heap.size W w2):=ae.out.trans (ac.mono ae.out.size);clear ac KF;go_wp2_with fail;refine bodyPost_ret (v:=.tuple #[.slice none 0 0,.bool false]) ?_ rfl (show AsB 1 l W _ _ from ⟨.slice none 0 0,by rw [HA.out];rfl,aa.out,fun x hx=>(by rw [HA.out] at hx;cases hx),fun _=>rfl⟩);unfold results;rw [hr]
   go_simp
 | some x =>
   have ha:asV 1 l=some (1::(putV n++allV x)):=(by unfold asV;rw [if_neg (by omega),hq,<-hn];rfl);have HA:=Lib.hid ha;have HQ:=Lib.hid hq;have an:∀y ∈ x,In64 y:=qe5 HI.out hq;have ag:=qfN hq;have HX:=Lib.hid (And.intro an ag);clear ha hn hq an ag;go_enter Tryz.func116,Tryz.ntmps116;go_wp2_with fail;rw [<-ab];refine KN.out.mono ?_;rintro e w1 ⟨rfl,rfl⟩;clear ab KN;go_wp2_with fail;refine KF.out.mono ?_;rintro e w2 ⟨A2,n2,c2,rfl,ac,ai⟩;have ah:=ai x HQ.out;rw [HQ.out];have aa:Hid (Below W.heap.size W w2):=ae.out.trans (ac.mono ae.out.size);have ap:=Lib.hid ah;have ao:Below w2.heap.size w2 (w2.alloc (.cells #[.int .u8 1] 5)):=(Below.refl _ _).alloc (Nat.le_refl _) _;have KP:Hid (Calls Tryz.prog 35 #[.slice (some ⟨w2.heap.size,0,none⟩) 1 1,.int .u64 (n:Int)] (w2.alloc (.cells #[.int .u8 1] 5)) fun e w'=>∃A3 n3 c3,e=.returned (.slice A3 n3 c3)∧OwnG EB 5 w' (w2.heap.size+1) (.slice A3 n3 c3) ([1]++putV n)∧Below (w2.heap.size+1) (w2.alloc (.cells #[.int .u8 1] 5)) w'):=
    (qbo _ [1] n _ (RdG.oneB 1 w2) (by omega) (by simp)).mono fun e w' ⟨v9,h1,h2,h3⟩=>by
      obtain ⟨A3,c3,e3,_⟩:=id h2.rd;rw [World.size_alloc] at h2 h3;exact ⟨A3,_,c3,by rw [h1,e3],by rw [<-e3];exact h2,h3⟩
   have ar:=Lib.hid ao;clear ac KF ai ah ao;go_wp2_with fail;refine KP.out.mono ?_;rintro e w4 ⟨A3,n3,c3,rfl,aj,al⟩;have af:Hid (Below w2.heap.size w2 w4):=ar.out.trans (al.mono (by omega));have aq:=qax 9 n (by omega);have KA:=Lib.hid (qcu (.slice A3 n3 c3) ([1]++putV n) (.slice A2 n2 c2) x w4 aj.rd (ap.out.on af.out) HX.out.1 (by simp;omega) (by have :=HX.out.2;have :=HN.out;omega));clear aj al KP aq;go_wp2_with fail;refine KA.out.mono ?_;rintro e w5 ⟨v5,rfl,ak,am⟩;have au:Hid (Below W.heap.size W w5):=(aa.out.trans (af.out.mono aa.out.size)).trans (am.mono (Nat.le_trans aa.out.size af.out.size));have av:Hid (OwnG EB 5 w5 W.heap.size v5 (1::(putV n++allV x))):=by
    have h:=ak.lower (base':=W.heap.size) (Nat.le_trans aa.out.size af.out.size);have e:([1]++putV n)++allV x=1::(putV n++allV x):=(by simp);rw [e] at h;exact h
   clear ak am KA;go_wp2_with fail;refine bodyPost_ret (v:=.tuple #[v5,.bool true]) ?_ rfl ⟨_,by rw [HA.out];rfl,au.out,fun y hy=>by
    rw [HA.out] at hy;injection hy with hy;subst hy;exact av.out,fun h=>by rw [HA.out] at h;cases h⟩
   unfold results;rw [hr]
   go_simp
theorem qna (l:List Int) (v:Value) (W:World) (hR:RdG EI W W.heap.size v l) (hi:∀x ∈ l,In64 x) (hl:l.length<=4096):
  Calls Tryz.prog 116 #[.int .i64 2,v] W (AsB 2 l W):=by
 have ax:∀(fn:Fn) (first cap:Array Value) (w:World),(Instr.makeFunc fn first cap).run Tryz.prog w=.ok (.func fn first cap) w:=fun _ _ _ _=>rfl;have qf:∀(w:World) (f:Fn) (a b:Array Value),(binOp .eql 175 (.func f a b) .nilFunc).run Tryz.prog w=.ok (.bool false) w:=fun _ _ _ _=>by kernel_rfl
 have hr:Tryz.f116.results= #[.tmp 4,.tmp 5]:=by kernel_rfl
 obtain ⟨n,hn⟩:∃n,n=l.length:=⟨_,rfl⟩;have HR:=Lib.hid hR;have HI:=Lib.hid hi;obtain ⟨A,c,rfl,hc,aw,hA⟩:=hR;rw [<-hn] at HR hc hl ⊢;have HN:=Lib.hid hn;have i1:¬(n:Int)>4096:=by omega
 have aa:Below W.heap.size W (W.alloc (.cells #[.func (.func 128) #[.slice A n c] #[],.func (.func 129) #[.slice A n c] #[],.func (.func 130) #[.slice A n c] #[],.func (.func 131) #[.slice A n c] #[]] 175)):=(Below.refl _ _).alloc (Nat.le_refl _) _;have KN:Hid (Calls Tryz.prog 127 #[.int .i64 2,.slice (some ⟨W.heap.size,0,none⟩) 4 4] (W.alloc (.cells #[.func (.func 128) #[.slice A n c] #[],.func (.func 129) #[.slice A n c] #[],.func (.func 130) #[.slice A n c] #[],.func (.func 131) #[.slice A n c] #[]] 175)) fun e w'=>e=.returned (.func (.func 130) #[.slice A n c] #[])∧w'=W.alloc (.cells #[.func (.func 128) #[.slice A n c] #[],.func (.func 129) #[.slice A n c] #[],.func (.func 130) #[.slice A n c] #[],.func (.func 131) #[.slice A n c] #[]] 175)):=
  qdU 2 W.heap.size _ _ (by decide) (qak W _ _ 2)
 obtain ⟨W1,ad⟩:∃W1,W1=W.alloc (.cells #[.func (.func 128) #[.slice A n c] #[],.func (.func 129) #[.slice A n c] #[],.func (.func 130) #[.slice A n c] #[],.func (.func 131) #[.slice A n c] #[]] 175):=⟨_,rfl⟩;rw [<-ad] at KN aa;have KF:Hid (Calls Tryz.prog 130 #[.slice A n c] W1 (AsC 2 l W1)):=by
  have h:=qnB l (.slice A n c) W1 (by have :=HR.out.on aa;exact this) (by omega);exact h
 have am:=Lib.hid aa;clear aa aw hA hi;cases hq:asX 2 l with
 | none =>
   exact absurd hq (by simp [asX])
 | some x =>
   have ha:asV 2 l=some (2::(putV n++allV x)):=(by unfold asV;rw [if_neg (by omega),hq,<-hn];rfl);have HA:=Lib.hid ha;have HQ:=Lib.hid hq;have an:∀y ∈ x,In64 y:=qe5 HI.out hq;have ae:=qfN hq;have HX:=Lib.hid (And.intro an ae);clear ha hn hq an ae;go_enter Tryz.func116,Tryz.ntmps116;go_wp2_with fail;rw [<-ad];refine KN.out.mono ?_;rintro e w1 ⟨rfl,rfl⟩;clear ad KN;go_wp2_with fail;refine KF.out.mono ?_;rintro e w2 ⟨A2,n2,c2,rfl,al,ag⟩;have af:=ag x HQ.out;rw [HQ.out];have ab:Hid (Below W.heap.size W w2):=am.out.trans (al.mono am.out.size);have ap:=Lib.hid af;have ao:Below w2.heap.size w2 (w2.alloc (.cells #[.int .u8 2] 5)):=(Below.refl _ _).alloc (Nat.le_refl _) _;have KP:Hid (Calls Tryz.prog 35 #[.slice (some ⟨w2.heap.size,0,none⟩) 1 1,.int .u64 (n:Int)] (w2.alloc (.cells #[.int .u8 2] 5)) fun e w'=>∃A3 n3 c3,e=.returned (.slice A3 n3 c3)∧OwnG EB 5 w' (w2.heap.size+1) (.slice A3 n3 c3) ([2]++putV n)∧Below (w2.heap.size+1) (w2.alloc (.cells #[.int .u8 2] 5)) w'):=
    (qbo _ [2] n _ (RdG.oneB 2 w2) (by omega) (by simp)).mono fun e w' ⟨v9,h1,h2,h3⟩=>by
      obtain ⟨A3,c3,e3,_⟩:=id h2.rd;rw [World.size_alloc] at h2 h3;exact ⟨A3,_,c3,by rw [h1,e3],by rw [<-e3];exact h2,h3⟩
   have ar:=Lib.hid ao;clear al KF ag af ao;go_wp2_with fail;refine KP.out.mono ?_;rintro e w4 ⟨A3,n3,c3,rfl,ah,aj⟩;have ac:Hid (Below w2.heap.size w2 w4):=ar.out.trans (aj.mono (by omega));have aq:=qax 9 n (by omega);have KA:=Lib.hid (qcu (.slice A3 n3 c3) ([2]++putV n) (.slice A2 n2 c2) x w4 ah.rd (ap.out.on ac.out) HX.out.1 (by simp;omega) (by have :=HX.out.2;have :=HN.out;omega));clear ah aj KP aq;go_wp2_with fail;refine KA.out.mono ?_;rintro e w5 ⟨v5,rfl,ai,ak⟩;have au:Hid (Below W.heap.size W w5):=(ab.out.trans (ac.out.mono ab.out.size)).trans (ak.mono (Nat.le_trans ab.out.size ac.out.size));have av:Hid (OwnG EB 5 w5 W.heap.size v5 (2::(putV n++allV x))):=by
    have h:=ai.lower (base':=W.heap.size) (Nat.le_trans ab.out.size ac.out.size);have e:([2]++putV n)++allV x=2::(putV n++allV x):=(by simp);rw [e] at h;exact h
   clear ai ak KA;go_wp2_with fail;refine bodyPost_ret (v:=.tuple #[v5,.bool true]) ?_ rfl ⟨_,by rw [HA.out];rfl,au.out,fun y hy=>by
    rw [HA.out] at hy;injection hy with hy;subst hy;exact av.out,fun h=>by rw [HA.out] at h;cases h⟩
   unfold results;rw [hr]
   go_simp
theorem qmK (l:List Int) (v:Value) (W:World) (hR:RdG EI W W.heap.size v l) (hi:∀x ∈ l,In64 x) (hl:l.length<=4096):
  Calls Tryz.prog 116 #[.int .i64 3,v] W (AsB 3 l W):=by
 have ax:∀(fn:Fn) (first cap:Array Value) (w:World),(Instr.makeFunc fn first cap).run Tryz.prog w=.ok (.func fn first cap) w:=fun _ _ _ _=>rfl;have qf:∀(w:World) (f:Fn) (a b:Array Value),(binOp .eql 175 (.func f a b) .nilFunc).run Tryz.prog w=.ok (.bool false) w:=fun _ _ _ _=>by kernel_rfl
 have hr:Tryz.f116.results= #[.tmp 4,.tmp 5]:=by kernel_rfl
 obtain ⟨n,hn⟩:∃n,n=l.length:=⟨_,rfl⟩;have HR:=Lib.hid hR;have HI:=Lib.hid hi;obtain ⟨A,c,rfl,hc,aw,hA⟩:=hR;rw [<-hn] at HR hc hl ⊢;have HN:=Lib.hid hn;have i1:¬(n:Int)>4096:=by omega
 have ad:Below W.heap.size W (W.alloc (.cells #[.func (.func 128) #[.slice A n c] #[],.func (.func 129) #[.slice A n c] #[],.func (.func 130) #[.slice A n c] #[],.func (.func 131) #[.slice A n c] #[]] 175)):=(Below.refl _ _).alloc (Nat.le_refl _) _;have KN:Hid (Calls Tryz.prog 127 #[.int .i64 3,.slice (some ⟨W.heap.size,0,none⟩) 4 4] (W.alloc (.cells #[.func (.func 128) #[.slice A n c] #[],.func (.func 129) #[.slice A n c] #[],.func (.func 130) #[.slice A n c] #[],.func (.func 131) #[.slice A n c] #[]] 175)) fun e w'=>e=.returned (.func (.func 131) #[.slice A n c] #[])∧w'=W.alloc (.cells #[.func (.func 128) #[.slice A n c] #[],.func (.func 129) #[.slice A n c] #[],.func (.func 130) #[.slice A n c] #[],.func (.func 131) #[.slice A n c] #[]] 175)):=
  qdU 3 W.heap.size _ _ (by decide) (qak W _ _ 3)
 obtain ⟨W1,ab⟩:∃W1,W1=W.alloc (.cells #[.func (.func 128) #[.slice A n c] #[],.func (.func 129) #[.slice A n c] #[],.func (.func 130) #[.slice A n c] #[],.func (.func 131) #[.slice A n c] #[]] 175):=⟨_,rfl⟩;rw [<-ab] at KN ad;have KF:Hid (Calls Tryz.prog 131 #[.slice A n c] W1 (AsC 3 l W1)):=by
  have h:=qhu l (.slice A n c) W1 (by have :=HR.out.on ad;exact this) (by omega);exact h
 have ae:=Lib.hid ad;clear ad aw hA hi;cases hq:asX 3 l with
 | none =>
   have ha:asV 3 l=none:=(by unfold asV;rw [if_neg (by omega),hq];rfl);have HA:=Lib.hid ha;have HQ:=Lib.hid hq;clear ha hn hq;go_enter Tryz.func116,Tryz.ntmps116;go_wp2_with fail;rw [<-ab];refine KN.out.mono ?_;rintro e w1 ⟨rfl,rfl⟩;clear ab KN;go_wp2_with fail;refine KF.out.mono ?_;rintro e w2 ⟨A2,n2,c2,rfl,ac,_⟩;rw [HQ.out];have aa:Hid (Below W.heap.size W w2):=ae.out.trans (ac.mono ae.out.size);clear ac KF;go_wp2_with fail;refine bodyPost_ret (v:=.tuple #[.slice none 0 0,.bool false]) ?_ rfl (show AsB 3 l W _ _ from ⟨.slice none 0 0,by rw [HA.out];rfl,aa.out,fun x hx=>(by rw [HA.out] at hx;cases hx),fun _=>rfl⟩);unfold results;rw [hr]
   go_simp
 | some x =>
   have ha:asV 3 l=some (3::(putV n++allV x)):=(by unfold asV;rw [if_neg (by omega),hq,<-hn];rfl);have HA:=Lib.hid ha;have HQ:=Lib.hid hq;have an:∀y ∈ x,In64 y:=qe5 HI.out hq;have ag:=qfN hq;have HX:=Lib.hid (And.intro an ag);clear ha hn hq an ag;go_enter Tryz.func116,Tryz.ntmps116;go_wp2_with fail;rw [<-ab];refine KN.out.mono ?_;rintro e w1 ⟨rfl,rfl⟩;clear ab KN;go_wp2_with fail;refine KF.out.mono ?_;rintro e w2 ⟨A2,n2,c2,rfl,ac,ai⟩;have ah:=ai x HQ.out;rw [HQ.out];have aa:Hid (Below W.heap.size W w2):=ae.out.trans (ac.mono ae.out.size);have ap:=Lib.hid ah;have ao:Below w2.heap.size w2 (w2.alloc (.cells #[.int .u8 3] 5)):=(Below.refl _ _).alloc (Nat.le_refl _) _;have KP:Hid (Calls Tryz.prog 35 #[.slice (some ⟨w2.heap.size,0,none⟩) 1 1,.int .u64 (n:Int)] (w2.alloc (.cells #[.int .u8 3] 5)) fun e w'=>∃A3 n3 c3,e=.returned (.slice A3 n3 c3)∧OwnG EB 5 w' (w2.heap.size+1) (.slice A3 n3 c3) ([3]++putV n)∧Below (w2.heap.size+1) (w2.alloc (.cells #[.int .u8 3] 5)) w'):=
    (qbo _ [3] n _ (RdG.oneB 3 w2) (by omega) (by simp)).mono fun e w' ⟨v9,h1,h2,h3⟩=>by
      obtain ⟨A3,c3,e3,_⟩:=id h2.rd;rw [World.size_alloc] at h2 h3;exact ⟨A3,_,c3,by rw [h1,e3],by rw [<-e3];exact h2,h3⟩
   have ar:=Lib.hid ao;clear ac KF ai ah ao;go_wp2_with fail;refine KP.out.mono ?_;rintro e w4 ⟨A3,n3,c3,rfl,aj,al⟩;have af:Hid (Below w2.heap.size w2 w4):=ar.out.trans (al.mono (by omega));have aq:=qax 9 n (by omega);have KA:=Lib.hid (qcu (.slice A3 n3 c3) ([3]++putV n) (.slice A2 n2 c2) x w4 aj.rd (ap.out.on af.out) HX.out.1 (by simp;omega) (by have :=HX.out.2;have :=HN.out;omega));clear aj al KP aq;go_wp2_with fail;refine KA.out.mono ?_;rintro e w5 ⟨v5,rfl,ak,am⟩;have au:Hid (Below W.heap.size W w5):=(aa.out.trans (af.out.mono aa.out.size)).trans (am.mono (Nat.le_trans aa.out.size af.out.size));have av:Hid (OwnG EB 5 w5 W.heap.size v5 (3::(putV n++allV x))):=by
    have h:=ak.lower (base':=W.heap.size) (Nat.le_trans aa.out.size af.out.size);have e:([3]++putV n)++allV x=3::(putV n++allV x):=(by simp);rw [e] at h;exact h
   clear ak am KA;go_wp2_with fail;refine bodyPost_ret (v:=.tuple #[v5,.bool true]) ?_ rfl ⟨_,by rw [HA.out];rfl,au.out,fun y hy=>by
    rw [HA.out] at hy;injection hy with hy;subst hy;exact av.out,fun h=>by rw [HA.out] at h;cases h⟩
   unfold results;rw [hr]
   go_simp
end Go.Proofs.YtnkelahimiipjaaGreatDoor
