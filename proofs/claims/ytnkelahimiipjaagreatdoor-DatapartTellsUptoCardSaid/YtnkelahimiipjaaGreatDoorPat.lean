/-
  The plain functions: values and samples as numbers. No program in sight.
-/
import Ieee.Arith
import Derived.Laws.FloatArith
namespace Go.Proofs.YtnkelahimiipjaaGreatDoor
def qau (m e s:Int):Bool:=
  if s≠0 then decide (1<=s∧s<=4∧m=0∧e=0)
  else if m<= -1000000000000000∨1000000000000000<=m then false
  else if m=0 then decide (e=0)
  else decide (m%10≠0∧ -300<=e∧e<=290)
theorem qio (m:Int):(m.tmod 10=0)=(m%10=0):=by
  rw [<-Int.dvd_iff_tmod_eq_zero,Int.dvd_iff_emod_eq_zero]
def E0:Nat:=1074
theorem qeK:E0=1074:=rfl
attribute [irreducible] E0
def up (rem B q:Nat):Nat:=if B<2*rem∨(2*rem=B∧q%2=1) then 1 else 0
def Near (N D r:Nat):Prop:=∃j q,4503599627370496<=q∧q<9007199254740992∧q*(2^j*D)<=N∧N<(q+1)*(2^j*D)∧r=j*4503599627370496+q+up (N-q*(2^j*D)) (2^j*D) q
theorem qoA (rem B q:Nat):up rem B q<=1:=by unfold up;split<;>omega
theorem qdh (c rem B q:Nat) (hc:0<c):up (c*rem) (c*B) q=up rem B q:=by
  have h1:c*B<2*(c*rem)↔B<2*rem:=by
    rw [Nat.mul_left_comm];exact Nat.mul_lt_mul_left hc
  have h2:2*(c*rem)=c*B↔2*rem=B:=by
    rw [Nat.mul_left_comm];exact Nat.mul_right_inj (by omega)
  unfold up;simp only [h1,h2]
theorem Near.scale {N D r:Nat} (c:Nat) (hc:0<c) (h:Near N D r):Near (c*N) (c*D) r:=by
  obtain ⟨j,q,h1,h2,h3,h4,h5⟩:=h;have e:∀x,x*(2^j*(c*D))=c*(x*(2^j*D)):=fun x=>by
    rw [Nat.mul_left_comm (2^j),Nat.mul_left_comm x]
  refine ⟨j,q,h1,h2,by rw [e];exact Nat.mul_le_mul_left c h3,by rw [e];exact Nat.mul_lt_mul_of_pos_left h4 hc, ?_⟩;rw [h5,e,<-Nat.mul_sub,show 2^j*(c*D)=c*(2^j*D) from Nat.mul_left_comm ..,qdh c _ _ _ hc]
theorem Near.exp_le {N D j q j' q' : Nat} (h1 : 4503599627370496 <= q) (h4 : N < (q' + 1) * (2 ^ j' * D)) (h2' : q' < 9007199254740992) (h3 : q * (2 ^ j * D) <= N) : j <= j' := by
  rcases Nat.lt_or_ge j' j with h|h
  · exfalso
    obtain ⟨t,rfl⟩:∃t,j=j'+1+t:=⟨j-j'-1,by omega⟩;have a:q*(2^(j'+1+t)*D)<(q'+1)*(2^j'*D):=Nat.lt_of_le_of_lt h3 h4;have b:(q'+1)*(2^j'*D)<=q*(2^(j'+1+t)*D):=by
      calc (q'+1)*(2^j'*D)<=(q*2)*(2^j'*D):=Nat.mul_le_mul_right _ (by omega)
        _=q*(2^(j'+1)*D):=by rw [Nat.pow_succ,Nat.mul_assoc q,Nat.mul_left_comm 2,Nat.mul_comm 2 D,<-Nat.mul_assoc (2^j'),Nat.mul_assoc (2^j') 2 D,Nat.mul_comm 2 D,Nat.mul_assoc]
        _<=q*(2^(j'+1+t)*D):=Nat.mul_le_mul_left q (Nat.mul_le_mul_right D (Nat.pow_le_pow_right (by decide) (by omega)))
    omega
  · exact h
theorem Near.unique {N D r r':Nat} (h:Near N D r) (h':Near N D r'):r=r':=by
  obtain ⟨j,q,h1,h2,h3,h4,h5⟩:=h;obtain ⟨j',q',ad,ac,ab,aa,ae⟩:=h';have hj:j=j':=Nat.le_antisymm (Near.exp_le h1 aa ac h3) (Near.exp_le ad h4 h2 ab);subst hj;have hB:0<2^j*D:=by
    rcases Nat.eq_zero_or_pos (2^j*D) with h|h
    · rw [h] at h4;omega
    · exact h
  have hq:q=q':=by
    have a:q<q'+1:=Nat.lt_of_mul_lt_mul_right (Nat.lt_of_le_of_lt h3 aa);have b:q'<q+1:=Nat.lt_of_mul_lt_mul_right (Nat.lt_of_le_of_lt ab h4);omega
  subst hq;rw [h5,ae]
def qbi (N D:Nat):Nat:=
  let j:=(N/D).log2-52
  let q:=N/(2^j*D)
  j*4503599627370496+q+up (N-q*(2^j*D)) (2^j*D) q
theorem qcd (N D:Nat) (hD:0<D) (h:4503599627370496<=N/D):Near N D (qbi N D):=by
  unfold qbi;obtain ⟨x,hx⟩:∃x,x=N/D:=⟨_,rfl⟩;rw [<-hx] at h ⊢;have hl:52<=x.log2:=(Nat.le_log2 (by omega)).2 h;have aa:2^x.log2<=x:=Nat.log2_self_le (by omega);have ab:x<2^(x.log2+1):=Nat.lt_log2_self;obtain ⟨j,hj⟩:∃j,x.log2=52+j:=⟨x.log2-52,by omega⟩;rw [hj] at aa ab ⊢;simp only [Nat.add_sub_cancel_left];have hB:0<2^j*D:=Nat.mul_pos (Nat.two_pow_pos _) hD;have hq:N/(2^j*D)=x/2^j:=by rw [Nat.mul_comm,<-Nat.div_div_eq_div_mul,hx]
  refine ⟨j,N/(2^j*D), ?_, ?_,Nat.div_mul_le_self _ _, ?_,rfl⟩
  · rw [hq, Nat.le_div_iff_mul_le (Nat.two_pow_pos _)]
    calc 4503599627370496*2^j=2^(52+j):=by rw [Nat.pow_add]
      _<=x:=aa
  · rw [hq, Nat.div_lt_iff_lt_mul (Nat.two_pow_pos _)]
    calc x<2^(52+j+1):=ab
      _=9007199254740992*2^j:=by rw [show 52+j+1=53+j by omega,Nat.pow_add]
  · have := Nat.lt_mul_div_succ N hB
    rw [Nat.mul_comm] at this;exact this
theorem Near.eq_nearOf {N D r:Nat} (h:Near N D r):r=qbi N D:=by
  refine h.unique (qcd N D ?_ ?_)
  · obtain ⟨j, q, h1, h2, h3, h4, h5⟩ := h
    rcases Nat.eq_zero_or_pos D with hD|hD
    · rw [hD] at h4;simp at h4
    · exact hD
  · obtain ⟨j, q, h1, h2, h3, h4, h5⟩ := h
    have hD:0<D:=by
      rcases Nat.eq_zero_or_pos D with hD|hD
      · rw [hD] at h4;simp at h4
      · exact hD
    rw [Nat.le_div_iff_mul_le hD]
    calc 4503599627370496*D<=q*(2^j*D):=by
          rw [<-Nat.mul_assoc];exact Nat.mul_le_mul_right D (Nat.le_trans h1 (Nat.le_mul_of_pos_right _ (Nat.two_pow_pos _)))
      _<=N:=h3
theorem qhp {X n t P r : Nat} (hn : 0 < n) (ht : t = 2 * (X / n) + (if X % n = 0 then 0 else 1)) (hbig : 18014398509481984 <= t) (h : Near (t * 2 ^ P) 1 r) : Near (2 * X * 2 ^ P) n r := by
  obtain ⟨j,q,h1,h2,h3,h4,h5⟩:=h;rw [Nat.mul_one] at h3 h4 h5
  -- j is P and at least two more
  have af:P+2<=j:=by
    rcases Nat.lt_or_ge j (P+2) with h|h
    · exfalso
      have a:(q+1)*2^j<=9007199254740992*2^(P+1):=Nat.mul_le_mul (by omega) (Nat.pow_le_pow_right (by decide) (by omega));have b:9007199254740992*2^(P+1)<=t*2^P:=by
        rw [Nat.pow_succ,Nat.mul_comm (2^P) 2,<-Nat.mul_assoc];exact Nat.mul_le_mul_right _ (by omega)
      omega
    · exact h
  obtain ⟨g,rfl⟩:∃g,j=P+2+g:=⟨j-P-2,by omega⟩;have hG:2^(P+2+g)=4*2^g*2^P:=by rw [show P+2+g=2+g+P by omega,Nat.pow_add,Nat.pow_add]
  obtain ⟨G,aa⟩:∃G,G=2^g:=⟨_,rfl⟩;have ad:0<G:=by rw [aa];exact Nat.two_pow_pos _
  obtain ⟨p,hp⟩:∃p,p=2^P:=⟨_,rfl⟩;have ab:0<p:=by rw [hp];exact Nat.two_pow_pos _
  rw [hG,<-aa,<-hp] at h3 h4 h5;rw [<-Nat.mul_assoc] at h3 h4;have a3:q*(4*G)<=t:=Nat.le_of_mul_le_mul_right h3 ab;have a4:t<(q+1)*(4*G):=Nat.lt_of_mul_lt_mul_right h4;obtain ⟨F,hF⟩:∃F,F=X/n:=⟨_,rfl⟩;obtain ⟨R,hR⟩:∃R,R=X%n:=⟨_,rfl⟩;have hX:X=n*F+R:=by rw [hF,hR];exact (Nat.div_add_mod X n).symm
  have ae:R<n:=by rw [hR];exact Nat.mod_lt _ hn
  rw [<-hF,<-hR] at ht;have e3:q*(4*G)=2*(2*(q*G)):=by rw [Nat.mul_left_comm];omega
  have e4:(q+1)*(4*G)=2*(2*(q*G)+2*G):=by rw [Nat.add_mul,e3];omega
  have b3:2*(q*G)<=F:=by split at ht<;>omega
  have b4:F+1<=2*(q*G)+2*G:=by split at ht<;>omega
  obtain ⟨c,hc⟩:∃c,F=2*(q*G)+c:=⟨F-2*(q*G),by omega⟩;have c3:q*(4*G)*n<=2*X:=by
    rw [e3,hX]; 
    calc 2*(2*(q*G))*n=2*(n*(2*(q*G))):=by rw [Nat.mul_assoc,Nat.mul_comm n]
      _<=2*(n*F+R):=Nat.mul_le_mul_left 2 (Nat.le_trans (Nat.mul_le_mul_left n b3) (Nat.le_add_right _ _))
  have c4:2*X<(q+1)*(4*G)*n:=by
    rw [e4,hX]
    calc 2*(n*F+R)<2*(n*(F+1)):=by rw [Nat.mul_add n F 1];omega
      _<=2*(n*(2*(q*G)+2*G)):=Nat.mul_le_mul_left 2 (Nat.mul_le_mul_left n b4)
      _=_:=by rw [Nat.mul_assoc,Nat.mul_comm n]
  have f3:∀x,x*(4*G*p*n)=x*(4*G)*n*p:=fun x=>by
    rw [Nat.mul_assoc (x*(4*G)),Nat.mul_comm n p,<-Nat.mul_assoc (x*(4*G)),Nat.mul_assoc x,<-Nat.mul_assoc x,<-Nat.mul_assoc x]
  refine ⟨P+2+g,q,h1,h2, ?_, ?_, ?_⟩
  · rw [hG,<-aa,<-hp,f3];exact Nat.mul_le_mul_right p c3
  · rw [hG,<-aa,<-hp,f3];exact Nat.mul_lt_mul_of_pos_right c4 ab
  · have k1 : up (t * p - q * (4 * G * p)) (4 * G * p) q = up (2 * c + (if R = 0 then 0 else 1)) (4 * G) q := by
      rw [<-Nat.mul_assoc q,<-Nat.sub_mul,Nat.mul_comm _ p,Nat.mul_comm (4*G) p,qdh p _ _ _ ab];congr 1;rw [ht,e3,hc];omega
    have k2:up (2*X*p-q*(4*G*p*n)) (4*G*p*n) q=up (2*(n*c+R)) (4*(G*n)) q:=by
      rw [f3,<-Nat.sub_mul,Nat.mul_comm _ p,show 4*G*p*n=p*(4*(G*n)) from by rw [Nat.mul_comm (4*G) p,Nat.mul_assoc p,Nat.mul_assoc 4],qdh p _ _ _ ab];congr 1;have :q*(4*G)*n=2*(n*(2*(q*G))):=(by rw [e3,Nat.mul_assoc,Nat.mul_comm n]);rw [this,hX,hc,Nat.mul_add n];omega
    rw [h5,hG,<-aa,<-hp,k1,k2];congr 1;have g1:c<G->n*c+R<G*n:=fun h=>by
      calc n*c+R<n*c+n:=by omega
        _=n*(c+1):=by rw [Nat.mul_add,Nat.mul_one]
        _<=n*G:=Nat.mul_le_mul_left n h
        _=G*n:=Nat.mul_comm _ _
    have g2:G<c->G*n<n*c+R:=fun h=>by
      calc G*n<G*n+n:=by omega
        _=n*(G+1):=by rw [Nat.mul_add,Nat.mul_one,Nat.mul_comm]
        _<=n*c:=Nat.mul_le_mul_left n h
        _<=_:=Nat.le_add_right _ _
    have g3:c=G->n*c+R=G*n+R:=fun h=>(by rw [h,Nat.mul_comm]);obtain ⟨s,hs,ac⟩:∃s,s=(if R=0 then 0 else 1)∧((R=0∧s=0)∨(0<R∧s=1)):=by
      rcases Nat.eq_zero_or_pos R with h|h
      · exact ⟨0,by rw [if_pos h],.inl ⟨h,rfl⟩⟩
      · exact ⟨1,by rw [if_neg (by omega)],.inr ⟨h,rfl⟩⟩
    rw [<-hs];have i1:4*G<2*(2*c+s)↔4*(G*n)<2*(2*(n*c+R)):=by
      rcases Nat.lt_trichotomy c G with hl|hl|hl
      · have :=g1 hl;omega
      · have :=g3 hl;omega
      · have :=g2 hl;omega
    have i2:2*(2*c+s)=4*G↔2*(2*(n*c+R))=4*(G*n):=by
      rcases Nat.lt_trichotomy c G with hl|hl|hl
      · have :=g1 hl;omega
      · have :=g3 hl;omega
      · have :=g2 hl;omega
    unfold up;simp only [i1,i2]
def qhw (u A M:Nat):Prop:=(u%2=0∧A=u*M)∨(u%2=1∧(u-1)*M<A∧A<(u+1)*M)
theorem qd0 {v A M N' D' j : Nat} (hM : 0 < M) (hD : 0 < D') (h1 : 18014398509481984 <= v) (h2 : v < 36028797018963968) (hT : qhw v A M) (he : N' * (4 * M) = A * (2 ^ j * D')) :
    Near N' D' (j*4503599627370496+(v+1+v/4%2)/4):=by
  obtain ⟨J,hJ⟩:∃J,J=2^j*D':=⟨_,rfl⟩;have ad:0<J:=by rw [hJ];exact Nat.mul_pos (Nat.two_pow_pos _) hD
  rw [<-hJ] at he;have key:∀x y,x*J<=y*N'↔x*(4*M)<=y*A:=by
    intro x y;have e1:x*J*(4*M)=x*(4*M)*J:=Nat.mul_right_comm ..;have e2:y*N'*(4*M)=y*A*J:=(by rw [Nat.mul_assoc,he,<-Nat.mul_assoc]);rw [<-Nat.mul_le_mul_right_iff (show 0<4*M by omega),e1,e2,Nat.mul_le_mul_right_iff ad]
  have key2:∀x y,y*N'<=x*J↔y*A<=x*(4*M):=by
    intro x y;have e1:x*J*(4*M)=x*(4*M)*J:=Nat.mul_right_comm ..;have e2:y*N'*(4*M)=y*A*J:=(by rw [Nat.mul_assoc,he,<-Nat.mul_assoc]);rw [<-Nat.mul_le_mul_right_iff (show 0<4*M by omega),e1,e2,Nat.mul_le_mul_right_iff ad]
  obtain ⟨q,hq⟩:∃q,q=v/4:=⟨_,rfl⟩;have k1:=key q 1;have k2:=key (q+1) 1;have k3:=key (2*q+1) 2;have k4:=key2 (2*q+1) 2;have m1:∀y,(q+1)*y=q*y+y:=fun y=>by rw [Nat.add_mul,Nat.one_mul]
  have m2:∀y,(2*q+1)*y=2*(q*y)+y:=fun y=>by rw [Nat.add_mul,Nat.one_mul,Nat.mul_assoc]
  rw [m1,m1] at k2;rw [m2,m2] at k3 k4;obtain ⟨QJ,ab⟩:∃QJ,QJ=q*J:=⟨_,rfl⟩;obtain ⟨QM,ac⟩:∃QM,QM=q*(4*M):=⟨_,rfl⟩;have vM:∀c,(4*q+c)*M=QM+c*M:=fun c=>by
    rw [Nat.add_mul,ac,Nat.mul_comm 4 q,Nat.mul_assoc]
  rw [<-ab,<-ac] at k1 k2 k3 k4;have c0:4*q*M=QM:=by have :=vM 0;simpa using this
  have c2:=vM 2;have c4:=vM 4;have aa:(v%4=0∧A=QM)∨(v%4=1∧QM<A∧A<QM+2*M)∨(v%4=2∧A=QM+2*M)∨(v%4=3∧QM+2*M<A∧A<QM+4*M):=by
    rcases hT with ⟨t1,t2⟩|⟨t1,t2,t3⟩
    · rcases (by omega : v % 4 = 0 ∨ v % 4 = 2) with r | r
      · left;rw [show v=4*q by omega,c0] at t2;exact ⟨r,t2⟩
      · right;right;left;rw [show v=4*q+2 by omega,c2] at t2;exact ⟨r,t2⟩
    · rcases (by omega : v % 4 = 1 ∨ v % 4 = 3) with r | r
      · right; left
        rw [show v-1=4*q by omega,c0] at t2;rw [show v+1=4*q+2 by omega,c2] at t3;exact ⟨r,by omega,by omega⟩
      · right; right; right
        rw [show v-1=4*q+2 by omega,c2] at t2;rw [show v+1=4*q+4 by omega,c4] at t3;exact ⟨r,by omega,by omega⟩
  refine ⟨j,q,by omega,by omega, ?_, ?_, ?_⟩
  · rw [<-hJ,<-ab];omega
  · rw [<-hJ,m1,<-ab];omega
  · have hu : (v + 1 + v / 4 % 2) / 4 = q + up (N' - QJ) J q := by
      unfold up;rw [<-hq];rcases aa with ⟨r,e⟩|⟨r,e1,e2⟩|⟨r,e⟩|⟨r,e1,e2⟩
      · rw [if_neg (by omega)];omega
      · rw [if_neg (by omega)];omega
      · by_cases ho : q % 2 = 1
        · rw [if_pos (by omega)];omega
        · rw [if_neg (by omega)];omega
      · rw [if_pos (by omega)];omega
    rw [<-hJ,<-ab,hu,Nat.add_assoc]
theorem qkg {u A M N' D' j : Nat} (hM : 0 < M) (hD : 0 < D') (h1 : 18014398509481984 * M <= A) (h2 : u < 72057594037927936) (hT : qhw u A M) (he : N' * (4 * M) = A * (2 ^ j * D'))
    {c:Bool} (hc:c=decide (36028797018963966<=u)) {v:Nat} (hv:v=if c then (if u%2=1 then u/2/2*2+1 else u/2) else u):
    Near N' D' ((j+c.toNat)*4503599627370496+(v+1+v/4%2)/4):=by
  have aa:18014398509481984<=u:=by
    rcases hT with ⟨t1,t2⟩|⟨t1,t2,t3⟩
    · rw [t2] at h1;exact Nat.le_of_mul_le_mul_right h1 hM
    · have :=Nat.lt_of_mul_lt_mul_right (Nat.lt_of_le_of_lt h1 t3);omega
  by_cases hu:36028797018963966<=u
  · rw [decide_eq_true hu] at hc
    subst hc;simp only [if_true] at hv;simp only [Bool.toNat_true];by_cases hb:u<36028797018963968
    · -- between
      have ac:v=18014398509481983:=(by rw [hv];split<;>omega);have h:=qd0 hM hD aa (by omega) hT he;have e:j*4503599627370496+(u+1+u/4%2)/4=(j+1)*4503599627370496+(v+1+v/4%2)/4:=(by omega);rw [<-e];exact h
    · have ab : qhw v A (2 * M) := by
        have e:∀x,x*(2*M)=2*x*M:=fun x=>(by rw [Nat.mul_left_comm,Nat.mul_assoc]);unfold qhw;rw [e,e,e];rcases hT with ⟨t1,t2⟩|⟨t1,t2,t3⟩
        · rw [if_neg (by omega)] at hv
          rcases (by omega:v%2=0∨v%2=1) with r|r
          · left;exact ⟨r,by rw [t2,hv];congr 1;omega⟩
          · right
            refine ⟨r, ?_, ?_⟩
            · rw [t2];exact Nat.mul_lt_mul_of_pos_right (by omega) hM
            · rw [t2];exact Nat.mul_lt_mul_of_pos_right (by omega) hM
        · rw [if_pos t1] at hv
          right;refine ⟨by omega,Nat.lt_of_le_of_lt (Nat.mul_le_mul_right _ (by omega)) t2,Nat.lt_of_lt_of_le t3 (Nat.mul_le_mul_right _ (by omega))⟩
      exact qd0 (j:=j+1) (by omega) hD (by split at hv<;>omega) (by split at hv<;>omega) ab (by
        rw [Nat.pow_succ,show 4*(2*M)=4*M*2 by omega,<-Nat.mul_assoc,he,Nat.mul_assoc A,Nat.mul_right_comm])
  · rw [decide_eq_false hu] at hc
    subst hc;simp only [Bool.false_eq_true,if_false] at hv;subst hv;simpa using qd0 hM hD aa (by omega) hT he
def Gap (N M:Nat):Prop:=∀D n:Nat,0<D->D<18014398509481984->D*N≠n*M->M<=(D*N-n*M)*4722366482869645213696∧n*M<D*N∨M<=(n*M-D*N)*4722366482869645213696∧D*N<n*M
theorem ql2 {N M:Nat} (h:M<=4722366482869645213696):Gap N M:=by
  intro D n _ _ aa;rcases Nat.lt_or_ge (n*M) (D*N) with h1|h1
  · left;exact ⟨by omega,h1⟩
  · right;exact ⟨by omega,by omega⟩
theorem qmI {N M a b c d s t : Nat} (h0 : b * c = a * d + 1) (hbd : 18014398509481984 <= b + d) (hs : a * M + s = b * N) (ht : d * N + t = c * M) (hs2 : M <= s * 4722366482869645213696) (ht2 : M <= t * 4722366482869645213696) : Gap N M := by
  intro D n hD am al;obtain ⟨i,hi⟩:∃i:Int,i=(D:Int)*c-n*d:=⟨_,rfl⟩;obtain ⟨k,hk⟩:∃k:Int,k=(n:Int)*b-D*a:=⟨_,rfl⟩;have ab:(b:Int)*c=a*d+1:=by exact_mod_cast h0
  have ai:(a:Int)*M+s=b*N:=by exact_mod_cast hs
  have af:(d:Int)*N+t=c*M:=by exact_mod_cast ht
  have ah:(D:Int)=i*b+k*d:=by
    have e:i*b+k*d=D*(b*c-a*d):=by
      rw [hi,hk];simp only [Int.sub_mul,Int.mul_sub,Int.mul_assoc,Int.mul_comm,Int.mul_left_comm];omega
    rw [e,ab,show (a:Int)*d+1-a*d=1 by omega,Int.mul_one]
  have ad:(n:Int)=i*a+k*c:=by
    have e:i*a+k*c=n*(b*c-a*d):=by
      rw [hi,hk];simp only [Int.sub_mul,Int.mul_sub,Int.mul_assoc,Int.mul_comm,Int.mul_left_comm];omega
    rw [e,ab,show (a:Int)*d+1-a*d=1 by omega,Int.mul_one]
  have hg:(D:Int)*N-n*M=i*s-k*t:=by
    have e1:(i*b+k*d)*(N:Int)-(i*a+k*c)*M=i*(b*N-a*M)+k*(d*N-c*M):=by
      simp only [Int.mul_sub,Int.add_mul,Int.mul_assoc];omega
    rw [ah,ad,e1,show (b:Int)*N-a*M=s by omega,show (d:Int)*N-c*M= -t by omega,Int.mul_neg];omega
  clear hi hk ad ab ai af;have ag:(D:Int)*N=((D*N:Nat):Int):=by push_cast;rfl
  have aj:(n:Int)*M=((n*M:Nat):Int):=by push_cast;rfl
  rw [ag,aj] at hg;generalize D*N=DN at *;generalize n*M=nM at *;rcases (by omega:1<=i∨i<=0) with ac|ae
  · rcases (by omega : 1 <= k ∨ k <= 0) with aa | ak
    · exfalso
      have a1:1*(b:Int)<=i*b:=Int.mul_le_mul_of_nonneg_right ac (by omega);have a2:1*(d:Int)<=k*d:=Int.mul_le_mul_of_nonneg_right aa (by omega);omega
    · have a1 : 1 * (s : Int) <= i * s := Int.mul_le_mul_of_nonneg_right ac (by omega)
      have a2:k*(t:Int)<=0*t:=Int.mul_le_mul_of_nonneg_right ak (by omega);left;omega
  · have aa : 1 <= k := by
      rcases (by omega:1<=k∨k<=0) with h|h
      · exact h
      · exfalso
        have a1:i*(b:Int)<=0*b:=Int.mul_le_mul_of_nonneg_right ae (by omega);have a2:k*(d:Int)<=0*d:=Int.mul_le_mul_of_nonneg_right h (by omega);omega
    have a1:i*(s:Int)<=0*s:=Int.mul_le_mul_of_nonneg_right ae (by omega);have a2:1*(t:Int)<=k*t:=Int.mul_le_mul_of_nonneg_right aa (by omega);right;omega
def qk5 : Nat -> Nat -> Nat -> Nat -> Nat -> Nat -> Nat -> Nat × Nat × Nat × Nat
  |0,a,b,_,c,d,_=>(a,b,c,d)
  | f + 1, a, b, s, c, d, t =>
    if 18014398509481984<=b+d then (a,b,c,d)
    else if t<s then
      let k:=min ((s-1)/t) ((18014398509481984-(b+d)+(d-1))/d)
      qk5 f (a+k*c) (b+k*d) (s-k*t) c d t
    else
      let k:=min ((t-1)/s) ((18014398509481984-(b+d)+(b-1))/b)
      qk5 f a b s (c+k*a) (d+k*b) (t-k*s)
def qn1 (N M : Nat) (x : Nat × Nat × Nat × Nat) : Bool :=
  x.2.1*x.2.2.1==x.1*x.2.2.2+1 && decide (18014398509481984<=x.2.1+x.2.2.2) && decide (x.1*M<=x.2.1*N) && decide (x.2.2.2*N<=x.2.2.1*M) &&
    decide (M<=(x.2.1*N-x.1*M)*4722366482869645213696) && decide (M<=(x.2.2.1*M-x.2.2.2*N)*4722366482869645213696)
def gapB (N M:Nat):Bool:=decide (M<=4722366482869645213696) || qn1 N M (qk5 60 1 1 (N-M) 2 1 (2*M-N))
theorem qpM {N M:Nat} (h:gapB N M=true):Gap N M:=by
  unfold gapB at h;rw [Bool.or_eq_true,decide_eq_true_eq] at h;rcases h with h|h
  · exact ql2 h
  · unfold qn1 at h
    simp only [Bool.and_eq_true,decide_eq_true_eq,beq_iff_eq] at h;obtain ⟨⟨⟨⟨⟨h1,h2⟩,h3⟩,h4⟩,h5⟩,h6⟩:=h;exact qmI h1 h2 (by omega) (by omega) h5 h6
theorem qkl {H Mi m2 l2 Y:Nat} (hMi:Mi<18446744073709551616) (hX:m2*18446744073709551616+l2<=340282366920938463426481119284349108225) (hY:Y+(m2*18446744073709551616+l2)=(H*18446744073709551616+Mi)*18446744073709551616) (hH:H/256*256≠H):
    H/256*87112285931760246646623899502532662132736+18446744073709551616<=Y∧Y<(H/256+1)*87112285931760246646623899502532662132736:=by omega
theorem qoL {H Mi m2 l2 Y:Nat} (hl2:l2<18446744073709551616) (hX:m2*18446744073709551616+l2<=340282366920938463426481119284349108225) (hY:Y+(m2*18446744073709551616+l2)=(H*18446744073709551616+Mi)*18446744073709551616) (_hlt:Mi<m2) (hH:0<H):
    Y+l2=(H-1)*340282366920938463463374607431768211456+(Mi+18446744073709551616-m2)*18446744073709551616:=by omega
theorem qnR {H Mi m2 l2 Y:Nat} (hY:Y+(m2*18446744073709551616+l2)=(H*18446744073709551616+Mi)*18446744073709551616) (hlt:m2<=Mi):Y+l2=H*340282366920938463463374607431768211456+(Mi-m2)*18446744073709551616:=by omega
theorem qpr {H1 D l2 Y:Nat} (hl2:l2<18446744073709551616) (hD:D<=18446744073709551615) (h1:1<D) (hY:Y+l2=H1*340282366920938463463374607431768211456+D*18446744073709551616):H1/256*87112285931760246646623899502532662132736+18446744073709551616<=Y∧Y<(H1/256+1)*87112285931760246646623899502532662132736:=by omega
theorem qqi {h D l2 Y:Nat} (hl2:l2<18446744073709551616) (h1:¬1<D) (hY:Y+l2=h*256*340282366920938463463374607431768211456+D*18446744073709551616):Y<=h*87112285931760246646623899502532662132736+18446744073709551616∧h*87112285931760246646623899502532662132736<=Y+18446744073709551616:=by omega
theorem qoz {DN nM YM XM M:Nat} (t1:YM<2*DN*87112285931760246646623899502532662132736+XM) (t2:2*DN*87112285931760246646623899502532662132736<=YM) (hX:XM+M<=18446744073709551616*M) (v1:YM<=2*nM*87112285931760246646623899502532662132736+18446744073709551616*M) (v2:2*nM*87112285931760246646623899502532662132736<=YM+18446744073709551616*M)
    (hg:M<=(DN-nM)*4722366482869645213696∧nM<DN∨M<=(nM-DN)*4722366482869645213696∧DN<nM):False:=by omega
theorem qqj {g Y:Nat} (h:(g+1)*87112285931760246646623899502532662132736<=Y+18446744073709551616):g*87112285931760246646623899502532662132736+18446744073709551616<=Y:=by omega
theorem qqo {h Y:Nat} (u:Y<=h*87112285931760246646623899502532662132736+18446744073709551616):Y<(h+1)*87112285931760246646623899502532662132736:=by omega
theorem qpW {A hM YM XM M:Nat} (t1:YM<A*87112285931760246646623899502532662132736+XM) (hX:XM+M<=18446744073709551616*M) (h:hM*87112285931760246646623899502532662132736+18446744073709551616*M<=YM):hM<A:=by omega
theorem qp7 {A hM YM:Nat} (t2:A*87112285931760246646623899502532662132736<=YM) (h:YM<hM*87112285931760246646623899502532662132736):A<hM:=by omega
end Go.Proofs.YtnkelahimiipjaaGreatDoor
namespace Go.Proofs.YtnkelahimiipjaaGreatDoor
open Ieee
theorem qgZ:double.leastPlace= -1074:=rfl
theorem qfj:double.binade=4503599627370496:=rfl
theorem qk4:double.infRung=9218868437227405312:=rfl
theorem qdM:double.signWeight=9223372036854775808:=rfl
theorem qer (neg : Bool) (mag P : Nat) (h0 : 0 < mag) (hlo : 52 <= P + mag.log2) (hhi : P + mag.log2 <= 2096) :
    ∃r,double.nearest neg mag ((P:Int)-1074)=double.word neg r∧Near (mag*2^P) 1 r∧r<9218868437227405312:=by
  obtain ⟨L,hL⟩:∃L,L=mag.log2:=⟨_,rfl⟩;have ac:2^L<=mag:=by rw [hL];exact Nat.log2_self_le (by omega)
  have ab:mag<2^(L+1):=by rw [hL];exact Nat.lt_log2_self
  rw [<-hL] at hlo hhi;obtain ⟨j,hj⟩:∃j,P+L=52+j:=⟨P+L-52,by omega⟩;have aa:max ((P:Int)-1074+(L:Int)-((52:Nat):Int)) (-1074)=(j:Int)-1074:=by omega
  have af:(j:Int)-1074 - -1074=(j:Int):=by omega
  unfold Format.nearest;rw [if_neg (by omega),<-hL];have ak:double.fractionBits=52:=rfl;simp only [ak,qgZ,qfj,qk4,aa,af,Int.toNat_natCast];rcases Nat.lt_or_ge 52 L with h|h
  · -- digits are dropped
    obtain ⟨e,he⟩:∃e,L=52+(e+1):=⟨L-53,by omega⟩;have e1:((P:Int)-1074-((j:Int)-1074)).toNat=0:=(by omega);have e2:((j:Int)-1074-((P:Int)-1074)).toNat=e+1:=(by omega);have al:j=P+(e+1):=(by omega);rw [e1,e2];unfold Toward.cut;have ad:min (e+1) (mag.log2+2)=e+1:=by
      rw [<-hL];omega
    simp only [Nat.shiftLeft_zero,Nat.one_shiftLeft,ad];obtain ⟨g,hg⟩:∃g,g=2^(e+1):=⟨_,rfl⟩;have ae:0<g:=(by rw [hg];exact Nat.two_pow_pos _);rw [<-hg];have q1:4503599627370496<=mag/g:=by
      rw [Nat.le_div_iff_mul_le ae]
      calc 4503599627370496*g=2^L:=by rw [he,Nat.pow_add,<-hg]
        _<=mag:=ac
    have q2:mag/g<9007199254740992:=by
      rw [Nat.div_lt_iff_lt_mul ae]
      calc mag<2^(L+1):=ab
        _=9007199254740992*g:=by rw [he,show 52+(e+1)+1=53+(e+1) by omega,Nat.pow_add,<-hg]
    have am:g*(mag/g)+mag%g=mag:=Nat.div_add_mod mag g;have an:mag%g<g:=Nat.mod_lt _ ae;have aj:0<2^P:=Nat.two_pow_pos _;have ag:2^j*1=g*2^P:=by rw [Nat.mul_one,al,Nat.pow_add,<-hg,Nat.mul_comm]
    have ai : up (mag * 2 ^ P - mag / g * (2 ^ j * 1)) (2 ^ j * 1) (mag / g) = (decide (g < 2 * (mag % g)) || (g == 2 * (mag % g) && mag / g % 2 == 1)).toNat := by
      rw [ag,<-Nat.mul_assoc,<-Nat.sub_mul,Nat.mul_comm _ (2^P),Nat.mul_comm g (2^P),qdh _ _ _ _ aj];have :mag-mag/g*g=mag%g:=(by rw [Nat.mul_comm];omega);rw [this];unfold up;by_cases a:g<2*(mag%g)
      · simp [a]
      · by_cases b : 2 * (mag % g) = g
        · by_cases c : mag / g % 2 = 1
          · simp [b,c]
          · have : mag / g % 2 = 0 := by omega
            simp [b,this]
        · have : ¬ g = 2 * (mag % g) := fun h => b h.symm
          simp [a,b,beq_eq_false_iff_ne.2 this]
    have ah:=qoA (mag*2^P-mag/g*(2^j*1)) (2^j*1) (mag/g);rw [ai] at ah;refine ⟨j*4503599627370496+mag/g+(decide (g<2*(mag%g)) || (g==2*(mag%g) && mag/g%2==1)).toNat, ?_,⟨j,mag/g,q1,q2, ?_, ?_, ?_⟩, ?_⟩
    · rw [Nat.min_eq_left (by omega),Nat.add_assoc]
    · rw [ag,<-Nat.mul_assoc];exact Nat.mul_le_mul_right _ (Nat.div_mul_le_self _ _)
    · rw [ag, <- Nat.mul_assoc]; refine Nat.mul_lt_mul_of_pos_right ?_ aj
      rw [Nat.add_mul,Nat.one_mul,Nat.mul_comm];omega
    · rw [ai]
    · omega
  · -- all digits are kept
    have e1:((P:Int)-1074-((j:Int)-1074)).toNat=52-L:=(by omega);have e2:((j:Int)-1074-((P:Int)-1074)).toNat=0:=(by omega);rw [e1,e2];have hcut:Toward.even.cut neg (mag <<< (52-L)) 0=mag <<< (52-L):=by
      unfold Toward.cut;simp [Nat.mod_one]
    rw [hcut,Nat.shiftLeft_eq];have hP:P=j+(52-L):=(by omega);have q1:4503599627370496<=mag*2^(52-L):=by
      calc 4503599627370496=2^L*2^(52-L):=by rw [<-Nat.pow_add,show L+(52-L)=52 by omega]
        _<=_:=Nat.mul_le_mul_right _ ac
    have q2:mag*2^(52-L)<9007199254740992:=by
      calc mag*2^(52-L)<2^(L+1)*2^(52-L):=Nat.mul_lt_mul_of_pos_right ab (Nat.two_pow_pos _)
        _=9007199254740992:=by rw [<-Nat.pow_add,show L+1+(52-L)=53 by omega]
    have hm:mag*2^P=mag*2^(52-L)*(2^j*1):=(by rw [Nat.mul_one,hP,Nat.pow_add,Nat.mul_comm (2^j),Nat.mul_assoc]);refine ⟨j*4503599627370496+mag*2^(52-L), ?_,⟨j,mag*2^(52-L),q1,q2, ?_, ?_, ?_⟩, ?_⟩
    · rw [Nat.min_eq_left (by omega)]
    · rw [hm];exact Nat.le_refl _
    · rw [hm, Nat.add_mul]; have : 0 < 2 ^ j * 1 := by rw [Nat.mul_one]; exact Nat.two_pow_pos _
      omega
    · have : 0 < 2 ^ j * 1 := by rw [Nat.mul_one]; exact Nat.two_pow_pos _
      have hu:∀q,up 0 (2^j*1) q=0:=fun q=>(by unfold up;rw [if_neg (by omega)]);rw [hm,Nat.sub_self,hu,Nat.add_zero]
    · omega
theorem qbP (neg:Bool) (j q:Nat) (h1:4503599627370496<=q) (h2:q<9007199254740992) (hj:j<=2045):
    double.read (double.word neg (j*4503599627370496+q))=.number neg q ((j:Int)-1074):=by
  have hr:j*4503599627370496+q<9218868437227405312:=by omega
  have e1:double.word neg (j*4503599627370496+q)/9223372036854775808%2=neg.toNat:=by
    unfold Format.word;rw [qdM];cases neg<;>simp <;>omega
  have e2:double.word neg (j*4503599627370496+q)%9223372036854775808=j*4503599627370496+q:=by
    unfold Format.word;rw [qdM];cases neg<;>simp <;>omega
  unfold Format.read;simp only [qdM,qfj,qk4,qgZ,e1,e2];rw [if_neg (by omega),if_pos hr];have e3:(j*4503599627370496+q)/4503599627370496-1=j:=by omega
  have e4:4503599627370496+(j*4503599627370496+q)%4503599627370496=q:=by omega
  rw [e3,e4];have :((neg.toNat:Nat)==1)=neg:=by cases neg<;>rfl
  rw [this,show (-1074:Int)+(j:Int)=(j:Int)-1074 from by omega]
def P10:List Nat:=[4607182418800017408,4621819117588971520,4636737291354636288,4652007308841189376,4666723172467343360,4681608360884174848,4696837146684686336,4711630319722168320,4726483295884279808,4741671816366391296,4756540486875873280,4771362005757984768,4786511204640096256,4801453603149578240,4816244402031689728,4831355200913801216,4846369599423283200,4861130398305394688,4876203697187506176,4891288408196988160,4906019910204099648,4921056587992461136,4936209963552724370]
theorem qoV:((List.range 23).all fun i=>decide (P10.getD i 0/4503599627370496<=1100) && decide (1000<=P10.getD i 0/4503599627370496) && ((4503599627370496+P10.getD i 0%4503599627370496)*2^(P10.getD i 0/4503599627370496-1)==10^i*2^E0))=true:=by decide+kernel
theorem qp2 (i:Nat) (hi:i<=22):∃j q,P10.getD i 0=double.word false (j*4503599627370496+q)∧4503599627370496<=q∧q<9007199254740992∧q*2^j=10^i*2^E0∧999<=j∧j<=1099:=by
  have h:=List.all_eq_true.1 qoV i (List.mem_range.2 (by omega));simp only [Bool.and_eq_true,decide_eq_true_eq,beq_iff_eq] at h;generalize P10.getD i 0=p at *;refine ⟨p/4503599627370496-1,4503599627370496+p%4503599627370496, ?_,by omega,by omega,h.2,by omega,by omega⟩;unfold Format.word;simp only [Bool.false_eq_true,if_false];omega
theorem qkA (d:Nat) (h0:1<=d) (h:d<9007199254740992):∃j q,floatOfInt .f64 d=double.word false (j*4503599627370496+q)∧4503599627370496<=q∧q<9007199254740992∧q*2^j=d*2^E0∧1022<=j∧j<=1074:=by
  have hE:=qeK;have ae:d.log2<=52:=by
    rcases Nat.lt_or_ge 52 d.log2 with h1|h1
    · have :=(Nat.le_log2 (by omega)).1 (show 53<=d.log2 from h1);omega
    · exact h1
  obtain ⟨r,e,⟨j,q,n1,n2,n3,n4,n5⟩,hr⟩:=qer false d E0 (by omega) (by omega) (by omega);rw [Nat.mul_one] at n3 n4;have hj:j<=E0:=by
    rcases Nat.lt_or_ge E0 j with h1|h1
    · exfalso
      have a:4503599627370496*2^(E0+1)<=q*2^j:=Nat.mul_le_mul n1 (Nat.pow_le_pow_right (by decide) h1);have b:d*2^E0<9007199254740992*2^E0:=Nat.mul_lt_mul_of_pos_right h (Nat.two_pow_pos _);have c:2^(E0+1)=2*2^E0:=(by rw [Nat.pow_succ 2 E0,Nat.mul_comm]);rw [c,<-Nat.mul_assoc] at a;generalize 2^E0=z at *;generalize q*2^j=y at *;omega
    · exact h1
  have aa:q*2^j=d*2^E0:=by
    obtain ⟨t,ht⟩:∃t,E0=t+j:=⟨E0-j,by omega⟩;rw [ht,Nat.pow_add,<-Nat.mul_assoc] at n3 n4 ⊢;have a:=Nat.le_of_mul_le_mul_right n3 (Nat.two_pow_pos j);have b:=Nat.lt_of_mul_lt_mul_right n4;congr 1;omega
  have ad:1022<=j:=by
    rcases Nat.lt_or_ge j 1022 with h1|h1
    · exfalso
      obtain ⟨F,hF⟩:∃F,F=1021:=⟨_,rfl⟩;have a:q*2^j<9007199254740992*2^F:=Nat.lt_of_lt_of_le (Nat.mul_lt_mul_of_pos_right n2 (Nat.two_pow_pos _)) (Nat.mul_le_mul_left _ (Nat.pow_le_pow_right (by decide) (by omega)));have ac:E0=53+F:=(by omega);have b:1*2^(53+F)<=d*2^E0:=(by rw [ac];exact Nat.mul_le_mul_right _ h0);rw [Nat.one_mul,Nat.pow_add] at b;rw [aa] at a;have c:(2:Nat)^53=9007199254740992:=(by decide);rw [c] at b;generalize 9007199254740992*2^F=z at *;generalize d*2^E0=y at *;omega
    · exact h1
  refine ⟨j,q, ?_,n1,n2,aa,ad,by omega⟩;have ab:up (d*2^E0-q*(2^j*1)) (2^j*1) q=0:=by
    rw [Nat.mul_one,aa,Nat.sub_self];unfold up;have :=Nat.two_pow_pos j;rw [if_neg (by omega)]
  rw [ab,Nat.add_zero] at n5;rw [<-n5,<-e];show double.nearest (decide ((d:Int)<0)) (d:Int).natAbs 0=_;rw [show decide ((d:Int)<0)=false from by simp,Int.natAbs_natCast,show ((E0:Nat):Int)-1074=0 from by omega]
theorem qqq (r:Nat) (h:r<9223372036854775808):r ^^^ 2^63=9223372036854775808+r:=by
  have hx:(9223372036854775808:Nat)=2^63:=by decide
  rw [hx] at h ⊢;apply Nat.eq_of_testBit_eq;intro i;rw [Nat.testBit_xor,Nat.testBit_two_pow];rcases Nat.lt_trichotomy i 63 with hi|rfl|hi
  · rw [Nat.testBit_two_pow_add_gt hi,show decide (63=i)=false from by simp;omega,Bool.xor_false]
  · rw [Nat.testBit_two_pow_add_eq];simp
  · have a : r.testBit i = false := Nat.testBit_lt_two_pow (Nat.lt_trans h (Nat.pow_lt_pow_right (by decide) hi))
    have b:(2^63+r).testBit i=false:=Nat.testBit_lt_two_pow (Nat.lt_of_lt_of_le (show 2^63+r<2^64 by omega) (Nat.pow_le_pow_right (by decide) hi));rw [a,b,show decide (63=i)=false from by simp;omega];rfl
theorem qnk (r:Nat) (h:r<9223372036854775808):Op.negFloat .f64 (double.word false r)=double.word true r:=by
  show r ^^^ 2^63=_;rw [qqq r h];rfl
theorem qnZ {q:Nat} (h1:4503599627370496<=q) (h2:q<9007199254740992):q.log2=52:=by
  have a:=(Nat.le_log2 (n:=q) (by omega)).2 (show 2^52<=q from h1);have b:=(Nat.log2_lt (n:=q) (by omega)).2 (show q<2^53 from h2);omega
theorem qiu (g:Bool) (j1 q1 j2 q2 P:Nat) (a1:4503599627370496<=q1) (a2:q1<9007199254740992) (b1:4503599627370496<=q2) (b2:q2<9007199254740992) (hj:j1+j2=P+1074) (hj1:j1<=1500) (hj2:j2<=1500):
    ∃r,floatBits .mul .f64 (double.word g (j1*4503599627370496+q1)) (double.word false (j2*4503599627370496+q2))=some (double.word g r)∧Near (q1*q2*2^P) 1 r∧r<9218868437227405312:=by
  have c1:104<=(q1*q2).log2:=(Nat.le_log2 (n:=q1*q2) (Nat.pos_iff_ne_zero.1 (Nat.mul_pos (by omega) (by omega)))).2 (Nat.le_trans (by decide) (Nat.mul_le_mul a1 b1));have c2:(q1*q2).log2<106:=(Nat.log2_lt (n:=q1*q2) (Nat.pos_iff_ne_zero.1 (Nat.mul_pos (by omega) (by omega)))).2 (Nat.lt_of_lt_of_le (Nat.mul_lt_mul'' a2 b2) (by decide));obtain ⟨r,e,hn,hr⟩:=qer g (q1*q2) P (Nat.mul_pos (by omega) (by omega)) (by omega) (by omega);refine ⟨r, ?_,hn,hr⟩;show ((double.read _).product (double.read _)).map double.write=_;rw [qbP g j1 q1 a1 a2 (by omega),qbP false j2 q2 b1 b2 (by omega)];simp only [Datum.product,Option.map_some,Format.write,Bool.xor_false];rw [<-e];congr 2;omega
theorem qnF (g:Bool) (j1 q1 j2 q2 P:Nat) (a1:4503599627370496<=q1) (a2:q1<9007199254740992) (b1:4503599627370496<=q2) (b2:q2<9007199254740992) (hj:j1+1019=P+j2) (hP:P<=1500) (hj1:j1<=1500) (hj2:j2<=1500):
    ∃r,floatBits .quo .f64 (double.word g (j1*4503599627370496+q1)) (double.word false (j2*4503599627370496+q2))=some (double.word g r)∧Near (2*(q1*2^54)*2^P) q2 r∧r<9218868437227405312:=by
  obtain ⟨t,ht⟩:∃t,t=2*(q1*2^54/q2)+(if q1*2^54%q2=0 then 0 else 1):=⟨_,rfl⟩;have d1:9007199254740992<=q1*2^54/q2:=by
    rw [Nat.le_div_iff_mul_le (by omega)]
    calc 9007199254740992*q2<=9007199254740992*9007199254740992:=Nat.mul_le_mul_left _ (by omega)
      _=4503599627370496*2^54:=by decide
      _<=q1*2^54:=Nat.mul_le_mul_right _ a1
  have d2:q1*2^54/q2<=36028797018963968:=by
    apply Nat.div_le_of_le_mul
    calc q1*2^54<=9007199254740992*2^54:=Nat.mul_le_mul_right _ (by omega)
      _=4503599627370496*36028797018963968:=by decide
      _<=q2*36028797018963968:=Nat.mul_le_mul_right _ b1
  have t1:18014398509481984<=t:=by omega
  have t2:t<144115188075855872:=by split at ht<;>omega
  have c1:54<=t.log2:=(Nat.le_log2 (by omega)).2 t1;have c2:t.log2<57:=(Nat.log2_lt (by omega)).2 t2;obtain ⟨r,e,hn,hr⟩:=qer g t P (by omega) (by omega) (by omega);refine ⟨r, ?_,qhp (by omega) ht t1 hn,hr⟩;show ((double.read _).quotient (double.fractionBits+2) (double.read _)).map double.write=_;rw [qbP g j1 q1 a1 a2 (by omega),qbP false j2 q2 b1 b2 (by omega)];have aa:double.fractionBits+2+q2.log2-q1.log2=54:=by rw [qnZ a1 a2,qnZ b1 b2];decide
  simp only [Datum.quotient,aa,Bool.xor_false];rw [if_neg (by omega)];simp only [Option.map_some,Format.write,Nat.shiftLeft_eq];have hs:(q1*2^54%q2 != 0).toNat=if q1*2^54%q2=0 then 0 else 1:=by
    by_cases h:q1*2^54%q2=0
    · rw [h];rfl
    · rw [if_neg h,show (q1*2^54%q2 != 0)=true from by simp [h]];rfl
  rw [hs,<-ht,<-e];congr 2;omega
theorem qeh (g h:Bool) (j1 q1 j2 q2:Nat) (a1:4503599627370496<=q1) (a2:q1<9007199254740992) (b1:4503599627370496<=q2) (b2:q2<9007199254740992) (hj1:j1<=2045) (hj2:j2<=2045):
    FloatKind.f64.format.order (double.word g (j1*4503599627370496+q1)) (double.word h (j2*4503599627370496+q2))=
      some (compare (signed g (q1*2^(j1-min j1 j2)) 0) (signed h (q2*2^(j2-min j1 j2)) 0)):=by
  show (double.read _).order (double.read _)=_;rw [qbP g j1 q1 a1 a2 hj1,qbP h j2 q2 b1 b2 hj2];have e1:((j1:Int)-1074-min ((j1:Int)-1074) ((j2:Int)-1074)).toNat=j1-min j1 j2:=by omega
  have e2:((j2:Int)-1074-min ((j1:Int)-1074) ((j2:Int)-1074)).toNat=j2-min j1 j2:=by omega
  simp only [Datum.order,e1,e2,signed,Nat.shiftLeft_eq,Nat.pow_zero,Nat.mul_one]
def qa8 (d:Nat) (x:Int):Nat:=if 0<=x then qbi (d*10^x.toNat*2^E0) 1 else qbi (d*2^E0) (10^(-x).toNat)
theorem qgu {N D r N' D':Nat} (h:Near N D r) (hp:N*D'=N'*D) (hD':0<D') (hb:4503599627370496*D'<=N'):r=qbi N' D':=by
  have hD:0<D:=by
    obtain ⟨j,q,h1,h2,h3,h4,h5⟩:=h;rcases Nat.eq_zero_or_pos D with hD|hD
    · rw [hD] at h4;simp at h4
    · exact hD
  have a:=h.scale D' hD';have b:=(qcd N' D' hD' ((Nat.le_div_iff_mul_le hD').2 hb)).scale D hD;rw [show D'*N=D*N' from by rw [Nat.mul_comm,hp,Nat.mul_comm],Nat.mul_comm D' D] at a;exact a.unique b
def Rep (g:Bool) (f N:Nat):Prop:=∃j q,f=double.word g (j*4503599627370496+q)∧4503599627370496<=q∧q<9007199254740992∧q*2^j=N∧999<=j∧j<=1099
theorem qkj {j q:Nat} (h1:4503599627370496<=q) (h2:q<9007199254740992):Near (q*2^j) 1 (j*4503599627370496+q):=by
  have h0:=Nat.two_pow_pos j;refine ⟨j,q,h1,h2,by rw [Nat.mul_one];exact Nat.le_refl _,by rw [Nat.mul_one,Nat.add_mul];omega, ?_⟩;rw [Nat.mul_one,Nat.sub_self];unfold up;rw [if_neg (by omega),Nat.add_zero]
theorem Rep.eq {g:Bool} {f N:Nat} (h:Rep g f N):f=double.word g (qbi N 1):=by
  obtain ⟨j,q,rfl,h1,h2,rfl,_,_⟩:=h;rw [<-(qkj h1 h2).eq_nearOf]
theorem qhn (d:Nat) (g:Bool) (h0:1<=d) (h:d<9007199254740992):Rep g (if g then Op.negFloat .f64 (floatOfInt .f64 d) else floatOfInt .f64 d) (d*2^E0):=by
  obtain ⟨j,q,e,h1,h2,h3,h4,h5⟩:=qkA d h0 h;refine ⟨j,q, ?_,h1,h2,h3,by omega,by omega⟩;cases g
  · simp only [Bool.false_eq_true,if_false];rw [e]
  · simp only [if_true];rw [e,qnk _ (by omega)]
theorem qcX (i:Nat) (hi:i<=22):Rep false (P10.getD i 0) (10^i*2^E0):=by
  obtain ⟨j,q,e,h1,h2,h3,h4,h5⟩:=qp2 i hi;exact ⟨j,q,e,h1,h2,h3,h4,h5⟩
theorem qlW:4503599627370496*10^22<=2^E0:=by
  rw [qeK];decide+kernel
theorem qf5 {g:Bool} {f p A B:Nat} (hf:Rep g f (A*2^E0)) (hp:Rep false p (B*2^E0)) (hA:1<=A) (hB:1<=B):
    floatBits .mul .f64 f p=some (double.word g (qbi (A*B*2^E0) 1)):=by
  obtain ⟨j1,q1,rfl,a1,a2,a3,a4,a5⟩:=hf;obtain ⟨j2,q2,rfl,b1,b2,b3,b4,b5⟩:=hp;obtain ⟨P,hP⟩:∃P,j1+j2=P+1074:=⟨j1+j2-1074,by omega⟩;obtain ⟨r,e,hn,_⟩:=qiu g j1 q1 j2 q2 P a1 a2 b1 b2 hP (by omega) (by omega);rw [e];congr 2;refine qgu hn ?_ (by decide) ?_
  · rw [Nat.mul_one, Nat.mul_one]
    apply Nat.eq_of_mul_eq_mul_right (Nat.two_pow_pos E0)
    calc q1*q2*2^P*2^E0=q1*q2*2^(j1+j2):=by rw [Nat.mul_assoc,<-Nat.pow_add,hP,qeK]
      _=(q1*2^j1)*(q2*2^j2):=by rw [Nat.pow_add,Nat.mul_mul_mul_comm]
      _=A*B*2^E0*2^E0:=by rw [a3,b3,Nat.mul_mul_mul_comm,Nat.mul_assoc (A*B)]
  · rw [Nat.mul_one]
    calc 4503599627370496<=2^E0:=Nat.le_trans (by decide) qlW
      _<=A*B*2^E0:=Nat.le_mul_of_pos_left _ (Nat.mul_pos hA hB)
theorem qoB {g : Bool} {f p A B : Nat} (hf : Rep g f (A * 2 ^ E0)) (hp : Rep false p (B * 2 ^ E0)) (hA : 1 <= A) (hB : 1 <= B) (hB2 : B <= 10 ^ 22) :
    floatBits .quo .f64 f p=some (double.word g (qbi (A*2^E0) B)):=by
  obtain ⟨j1,q1,rfl,a1,a2,a3,a4,a5⟩:=hf;obtain ⟨j2,q2,rfl,b1,b2,b3,b4,b5⟩:=hp;obtain ⟨P,hP⟩:∃P,j1+1019=P+j2:=⟨j1+1019-j2,by omega⟩;obtain ⟨r,e,hn,_⟩:=qnF g j1 q1 j2 q2 P a1 a2 b1 b2 hP (by omega) (by omega) (by omega);rw [e];congr 2;refine qgu hn ?_ hB ?_
  · apply Nat.eq_of_mul_eq_mul_right (Nat.two_pow_pos j2)
    have aa : 2 * (q1 * 2 ^ 54) * 2 ^ P * 2 ^ j2 = (q1 * 2 ^ j1) * 2 ^ E0 := by
      calc 2*(q1*2^54)*2^P*2^j2=q1*(2^55*2^P*2^j2):=by
            rw [Nat.mul_left_comm,<-Nat.pow_succ',Nat.mul_assoc q1,Nat.mul_assoc q1]
        _ = q1 * (2 ^ j1 * 2 ^ E0) := by
            congr 1;rw [<-Nat.pow_add,<-Nat.pow_add,<-Nat.pow_add];congr 1;have :=qeK;omega
        _=_:=by rw [Nat.mul_assoc]
    calc 2*(q1*2^54)*2^P*B*2^j2=2*(q1*2^54)*2^P*2^j2*B:=by rw [Nat.mul_right_comm]
      _=A*2^E0*(B*2^E0):=by rw [aa,a3,Nat.mul_assoc (A*2^E0),Nat.mul_comm (2^E0) B]
      _=A*2^E0*q2*2^j2:=by rw [<-b3,Nat.mul_assoc (A*2^E0)]
  · calc 4503599627370496*B<=4503599627370496*10^22:=Nat.mul_le_mul_left _ hB2
      _<=2^E0:=qlW
      _<=A*2^E0:=Nat.le_mul_of_pos_left _ hA
theorem qfh {j1 q1 j2 q2:Nat}:q1*2^j1<q2*2^j2↔q1*2^(j1-min j1 j2)<q2*2^(j2-min j1 j2):=by
  have e1:q1*2^j1=q1*2^(j1-min j1 j2)*2^(min j1 j2):=by rw [Nat.mul_assoc,<-Nat.pow_add,Nat.sub_add_cancel (Nat.min_le_left _ _)]
  have e2:q2*2^j2=q2*2^(j2-min j1 j2)*2^(min j1 j2):=by rw [Nat.mul_assoc,<-Nat.pow_add,Nat.sub_add_cancel (Nat.min_le_right _ _)]
  rw [e1,e2];exact Nat.mul_lt_mul_right (Nat.two_pow_pos _)
theorem qgr {a b:Int} (h:a<b):compare a b=.lt:=by
  show compareOfLessAndEq a b=_;unfold compareOfLessAndEq;rw [if_pos h]
theorem qhd {a b:Int} (h:b<a):compare a b=.gt:=by
  show compareOfLessAndEq a b=_;unfold compareOfLessAndEq;rw [if_neg (by omega),if_neg (by omega)]
theorem qja {a b:Int} (h:a<=b):compare a b≠ .gt:=by
  rcases Int.lt_or_eq_of_le h with h|rfl
  · rw [qgr h];decide
  · show compareOfLessAndEq a a ≠ _
    unfold compareOfLessAndEq;rw [if_neg (by omega),if_pos rfl];decide
theorem qjd {a b:Int} (h:b<=a):compare a b≠ .lt:=by
  rcases Int.lt_or_eq_of_le h with h|rfl
  · rw [qhd h];decide
  · show compareOfLessAndEq b b ≠ _
    unfold compareOfLessAndEq;rw [if_neg (by omega),if_pos rfl];decide
theorem qaK (m:Nat):signed false m 0=(m:Int):=by simp [signed]
theorem qa1 (m:Nat):signed true m 0= -(m:Int):=by simp [signed]
theorem qqs:(14054727237768577024:Nat)=double.word true (4831355200913801216):=by decide
theorem qfV (g:Bool) (j q:Nat) (h1:4503599627370496<=q) (h2:q<9007199254740992) (hj:j<=2045):
    (q*2^j<1000000000000000*2^E0->FloatKind.f64.format.order (double.word g (j*4503599627370496+q)) 4831355200913801216=some .lt∧FloatKind.f64.format.order (double.word g (j*4503599627370496+q)) 14054727237768577024=some .gt)∧
    (1000000000000000*2^E0<q*2^j->(FloatKind.f64.format.order (double.word g (j*4503599627370496+q)) 4831355200913801216==some .gt || FloatKind.f64.format.order (double.word g (j*4503599627370496+q)) 14054727237768577024==some .lt)=true)∧
    (q*2^j<=1000000000000000*2^E0->(FloatKind.f64.format.order (double.word g (j*4503599627370496+q)) 4831355200913801216==some .gt || FloatKind.f64.format.order (double.word g (j*4503599627370496+q)) 14054727237768577024==some .lt)=false):=by
  obtain ⟨j2,q2,e,b1,b2,b3,b4,b5⟩:=qcX 15 (by decide);have hw:(4831355200913801216:Nat)=double.word false (j2*4503599627370496+q2):=e;have hr:(4831355200913801216:Nat)=j2*4503599627370496+q2:=hw;have aa:(14054727237768577024:Nat)=double.word true (j2*4503599627370496+q2):=by rw [qqs,<-hr]
  rw [aa];have o1:=qeh g false j q j2 q2 h1 h2 b1 b2 hj (by omega);have o2:=qeh g true j q j2 q2 h1 h2 b1 b2 hj (by omega);rw [<-hw] at o1;rw [o1,o2,show (1000000000000000:Nat)=10^15 from by decide,<-b3];have k1:=qfh (j1:=j) (q1:=q) (j2:=j2) (q2:=q2);have k2:=qfh (j1:=j2) (q1:=q2) (j2:=j) (q2:=q);rw [Nat.min_comm j2 j] at k2;have p1:0<q*2^(j-min j j2):=Nat.mul_pos (by omega) (Nat.two_pow_pos _);have p2:0<q2*2^(j2-min j j2):=Nat.mul_pos (by omega) (Nat.two_pow_pos _);generalize q*2^(j-min j j2)=A at *;generalize q2*2^(j2-min j j2)=B at *;refine ⟨fun h=> ?_,fun h=> ?_,fun h=> ?_⟩
  · have := k1.1 h
    cases g
    · rw [qaK,qaK,qa1,qgr (by omega),qhd (by omega)];exact ⟨rfl,rfl⟩
    · rw [qa1,qaK,qa1,qgr (by omega),qhd (by omega)];exact ⟨rfl,rfl⟩
  · have := k2.1 h
    cases g
    · rw [qaK,qaK,qhd (by omega)];rfl
    · rw [qa1,qa1,qgr (a:= -(A:Int)) (b:= -(B:Int)) (by omega)];simp
  · have ab : A <= B := Nat.le_of_not_lt (fun c => absurd (k2.2 c) (by omega))
    cases g
    · have a := qja (a := (A : Int)) (b := (B : Int)) (by omega)
      have b:=qhd (a:=(A:Int)) (b:= -(B:Int)) (by omega);rw [qaK,qaK,qa1,b];simp [a]
    · have a := qgr (a := -(A : Int)) (b := (B : Int)) (by omega)
      have b:=qjd (a:= -(A:Int)) (b:= -(B:Int)) (by omega);rw [qa1,qaK,qa1,a];simp [b]
end Go.Proofs.YtnkelahimiipjaaGreatDoor
namespace Go.Proofs.YtnkelahimiipjaaGreatDoor
def wJ (r:Nat):Nat:=r/4503599627370496-1
def wS (r:Nat):Nat:=4503599627370496+r%4503599627370496
theorem qeb {N D r : Nat} (h : Near N D r) : 0 < D ∧ 4503599627370496 <= r ∧ (2 * wS r - 1) * (2 ^ wJ r * D) <= 2 * N ∧ 2 * N <= (2 * wS r + 1) * (2 ^ wJ r * D) := by
  obtain ⟨j,q,h1,h2,h3,h4,h5⟩:=h;have hD:0<D:=by
    rcases Nat.eq_zero_or_pos D with hD|hD
    · rw [hD] at h4;simp at h4
    · exact hD
  obtain ⟨J,hJ⟩:∃J,J=2^j*D:=⟨_,rfl⟩;rw [<-hJ] at h3 h4 h5;obtain ⟨QJ,aa⟩:∃QJ,QJ=q*J:=⟨_,rfl⟩;have ag:0<J:=by rw [hJ];exact Nat.mul_pos (Nat.two_pow_pos _) hD
  rw [<-aa] at h3 h5;rw [Nat.add_mul,Nat.one_mul,<-aa] at h4;have ac:(up (N-QJ) J q=0∧2*(N-QJ)<=J)∨(up (N-QJ) J q=1∧J<=2*(N-QJ)):=by
    unfold up;split
    · right;exact ⟨rfl,by omega⟩
    · left;exact ⟨rfl,by omega⟩
  generalize up (N-QJ) J q=u at *;have hu:u<=1:=by omega
  refine ⟨hD,by omega, ?_⟩;have hm:∀c,(2*q+c)*J=2*QJ+c*J:=fun c=>by rw [Nat.add_mul,Nat.mul_assoc,<-aa]
  rcases Nat.lt_or_ge (q+u) 9007199254740992 with ae|ad
  · have e1 : wJ r = j := by unfold wJ; omega
    have e2:wS r=q+u:=(by unfold wS;omega);rw [e1,e2,<-hJ];rcases ac with ⟨rfl,ab⟩|⟨rfl,ab⟩
    · refine ⟨?_, ?_⟩
      · refine Nat.le_trans (Nat.mul_le_mul_right _ (by omega : 2 * (q + 0) - 1 <= 2 * q + 0)) ?_
        rw [hm];omega
      · rw [show 2*(q+0)+1=2*q+1 by omega,hm];omega
    · refine ⟨?_, ?_⟩
      · rw [show 2*(q+1)-1=2*q+1 by omega,hm];omega
      · rw [show 2*(q+1)+1=2*q+3 by omega,hm];omega
  · have hq : q = 9007199254740991 := by omega
    have af:u=1:=(by omega);have e1:wJ r=j+1:=(by unfold wJ;omega);have e2:wS r=4503599627370496:=(by unfold wS;omega);have eJ:2^(j+1)*D=2*J:=(by rw [Nat.pow_succ,Nat.mul_right_comm,<-hJ,Nat.mul_comm]);rw [e1,e2,eJ];rcases ac with ⟨h0,_⟩|⟨_,ab⟩
    · omega
    · subst hq
      omega
theorem qkc {N1 D1 r1 N2 D2 r2 : Nat} (h1 : Near N1 D1 r1) (h2 : Near N2 D2 r2) (hP : 0 < N1 * D2) (hg : N1 * D2 * 1000000000000001 <= N2 * D1 * 1000000000000000) : r1 < r2 := by
  rcases Nat.lt_or_ge r1 r2 with h|ae
  · exact h
  · exfalso
    obtain ⟨ah,al,a1,b1⟩:=qeb h1;obtain ⟨aj,ag,a2,b2⟩:=qeb h2
    -- the second is not above what the first's word allows
    have ab:(2*wS r2+1)*2^wJ r2<=(2*wS r1+1)*2^wJ r1:=by
      have ai:wS r1<9007199254740992:=(by unfold wS;omega);have ak:wS r2<9007199254740992:=(by unfold wS;omega);have af:4503599627370496<=wS r1:=(by unfold wS;omega);rcases Nat.lt_or_ge (wJ r2) (wJ r1) with hj|hj
      · obtain ⟨t, ht⟩ : ∃ t, wJ r1 = wJ r2 + 1 + t := ⟨wJ r1 - wJ r2 - 1, by omega⟩
        rw [ht,Nat.pow_add,Nat.pow_succ];have ad:=Nat.two_pow_pos t
        calc (2*wS r2+1)*2^wJ r2<=((2*wS r1+1)*2)*2^wJ r2:=Nat.mul_le_mul_right _ (by omega)
          _=(2*wS r1+1)*(2^wJ r2*2):=by rw [Nat.mul_assoc,Nat.mul_comm 2 (2^wJ r2)]
          _<=(2*wS r1+1)*(2^wJ r2*2*2^t):=Nat.mul_le_mul_left _ (Nat.le_mul_of_pos_right _ ad)
      · have ac : wJ r2 = wJ r1 := by unfold wJ at *; omega
        rw [ac];exact Nat.mul_le_mul_right _ (by unfold wJ wS at *;omega)
    have hs:4503599627370496<=wS r1:=(by unfold wS;omega);generalize wS r1=s at *;obtain ⟨p,hp⟩:∃p,p=2^wJ r1:=⟨_,rfl⟩;rw [<-hp] at a1 b1 ab
    -- 2 N2 D1 <= (2 s + 1) p D1 D2 ; (2 s - 1) p D1 D2 <= 2 N1 D2
    have c1:(2*s-1)*(p*D1)*D2<=2*N1*D2:=Nat.mul_le_mul_right _ a1;have c2:2*N2*D1<=(2*s+1)*p*D2*D1:=by
      refine Nat.le_trans (Nat.mul_le_mul_right _ b2) (Nat.mul_le_mul_right _ ?_);rw [<-Nat.mul_assoc];exact Nat.mul_le_mul_right _ ab
    obtain ⟨K,hK⟩:∃K,K=p*D1*D2:=⟨_,rfl⟩;have c3:(2*s-1)*K<=2*(N1*D2):=(by rw [hK,<-Nat.mul_assoc,<-Nat.mul_assoc 2];rw [<-Nat.mul_assoc] at c1;rw [<-Nat.mul_assoc];exact c1);have c4:2*(N2*D1)<=(2*s+1)*K:=by
      rw [hK,<-Nat.mul_assoc 2];refine Nat.le_trans c2 (Nat.le_of_eq ?_);simp only [Nat.mul_assoc,Nat.mul_comm,Nat.mul_left_comm]
    generalize N1*D2=P at *;generalize N2*D1=Q at *
    -- s K ≥ 2^52 K
    obtain ⟨SK,aa⟩:∃SK,SK=s*K:=⟨_,rfl⟩;have d1:(2*s-1)*K=2*SK-K:=(by rw [Nat.sub_mul,Nat.one_mul,Nat.mul_assoc,<-aa]);have d2:(2*s+1)*K=2*SK+K:=(by rw [Nat.add_mul,Nat.one_mul,Nat.mul_assoc,<-aa]);have d3:4503599627370496*K<=SK:=(by rw [aa];exact Nat.mul_le_mul_right _ hs);rw [d1] at c3;rw [d2] at c4;omega
def E3:Nat:=300
theorem qmj:E3=300:=rfl
attribute [irreducible] E3
def E5:Nat:=590
theorem qpD:E5=590:=rfl
attribute [irreducible] E5
def E4:Nat:=2040
theorem qpn:E4=2040:=rfl
attribute [irreducible] E4
def dec (d:Nat) (x:Int):Nat:=d*10^(x+300).toNat
def vN (d:Nat) (x:Int):Nat:=if 0<=x then d*10^x.toNat*2^E0 else d*2^E0
def vD (x:Int):Nat:=if 0<=x then 1 else 10^(-x).toNat
theorem qmH (d:Nat) (x:Int):qa8 d x=qbi (vN d x) (vD x):=by
  unfold qa8 vN vD;split<;>rfl
theorem qfa (x:Int):0<vD x:=by
  unfold vD;split
  · decide
  · exact Nat.pow_pos (by decide)
theorem qle (d:Nat) (x:Int) (hx: -300<=x):vN d x*10^E3=dec d x*2^E0*vD x:=by
  unfold vN vD dec
  split
  · rw [Nat.mul_one, show (x + 300).toNat = x.toNat + E3 by rw [qmj]; omega, Nat.pow_add]
    simp only [Nat.mul_comm,Nat.mul_left_comm]
  · rw [show 10 ^ E3 = 10 ^ (x + 300).toNat * 10 ^ (-x).toNat by rw [<- Nat.pow_add]; congr 1; rw [qmj]; omega]
    simp only [Nat.mul_assoc,Nat.mul_comm,Nat.mul_left_comm]
theorem qp1:4503599627370496*10^E3<=2^E0:=by
  rw [qeK,qmj];decide+kernel
theorem qbS (d:Nat) (x:Int) (hd:1<=d) (hx: -300<=x):Near (vN d x) (vD x) (qa8 d x):=by
  rw [qmH];refine qcd _ _ (qfa x) ?_;rw [Nat.le_div_iff_mul_le (qfa x)];have aa:vD x<=10^E3:=by
    unfold vD;split
    · exact Nat.pow_pos (by decide)
    · exact Nat.pow_le_pow_right (by decide) (by rw [qmj];omega)
  have hN:2^E0<=vN d x:=by
    unfold vN;split
    · exact Nat.le_mul_of_pos_left _ (Nat.mul_pos hd (Nat.pow_pos (by decide)))
    · exact Nat.le_mul_of_pos_left _ hd
  exact Nat.le_trans (Nat.le_trans (Nat.mul_le_mul_left _ aa) qp1) hN
theorem qkw (d1 d2:Nat) (x1 x2:Int) (h1:d1<1000000000000000) (h2:d2<1000000000000000) (hx1: -300<=x1) (hx2: -300<=x2) (h:dec d1 x1<dec d2 x2):
    dec d1 x1*1000000000000001<=dec d2 x2*1000000000000000:=by
  unfold dec at *;rcases (by omega:x1<=x2∨x2<x1) with hx|hx
  · obtain ⟨t, ht⟩ : ∃ t : Nat, (x2 + 300).toNat = t + (x1 + 300).toNat := ⟨(x2 - x1).toNat, by omega⟩
    rw [ht,Nat.pow_add,<-Nat.mul_assoc] at h ⊢;generalize 10^(x1+300).toNat=z at *;have h':=Nat.lt_of_mul_lt_mul_right h;generalize d2*10^t=w at *;have :d1*1000000000000001<=w*1000000000000000:=(by omega);have :=Nat.mul_le_mul_right z this
    rwa [Nat.mul_right_comm,Nat.mul_right_comm w] at this
  · obtain ⟨t, ht⟩ : ∃ t : Nat, (x1 + 300).toNat = t + (x2 + 300).toNat := ⟨(x1 - x2).toNat, by omega⟩
    rw [ht,Nat.pow_add,<-Nat.mul_assoc] at h ⊢;generalize 10^(x2+300).toNat=z at *;have h':=Nat.lt_of_mul_lt_mul_right h;generalize d1*10^t=w at *;have :w*1000000000000001<=d2*1000000000000000:=(by omega);have :=Nat.mul_le_mul_right z this
    rwa [Nat.mul_right_comm,Nat.mul_right_comm d2] at this
theorem qi7 (d1 d2:Nat) (x1 x2:Int) (l1:1<=d1) (h1:d1<1000000000000000) (h2:d2<1000000000000000) (hx1: -300<=x1) (hx2: -300<=x2) (h:dec d1 x1<dec d2 x2):qa8 d1 x1<qa8 d2 x2:=by
  have l2:1<=d2:=by
    rcases Nat.eq_zero_or_pos d2 with h0|h0
    · unfold dec at h;rw [h0] at h;simp at h
    · exact h0
  refine qkc (qbS d1 x1 l1 hx1) (qbS d2 x2 l2 hx2) ?_ ?_
  · refine Nat.mul_pos ?_ (qfa _)
    unfold vN;split
    · exact Nat.mul_pos (Nat.mul_pos l1 (Nat.pow_pos (by decide))) (Nat.two_pow_pos _)
    · exact Nat.mul_pos l1 (Nat.two_pow_pos _)
  · have hg := qkw d1 d2 x1 x2 h1 h2 hx1 hx2 h
    have e1:=qle d1 x1 hx1;have e2:=qle d2 x2 hx2;refine Nat.le_of_mul_le_mul_right ?_ (Nat.pow_pos (n:=E3) (show 0<10 by decide));have f1:vN d1 x1*vD x2*1000000000000001*10^E3=dec d1 x1*1000000000000001*(2^E0*vD x1*vD x2):=by
      rw [show vN d1 x1*vD x2*1000000000000001*10^E3=vN d1 x1*10^E3*(vD x2*1000000000000001) by simp only [Nat.mul_assoc,Nat.mul_comm,Nat.mul_left_comm],e1];simp only [Nat.mul_assoc,Nat.mul_comm,Nat.mul_left_comm]
    have f2:vN d2 x2*vD x1*1000000000000000*10^E3=dec d2 x2*1000000000000000*(2^E0*vD x1*vD x2):=by
      rw [show vN d2 x2*vD x1*1000000000000000*10^E3=vN d2 x2*10^E3*(vD x1*1000000000000000) by simp only [Nat.mul_assoc,Nat.mul_comm,Nat.mul_left_comm],e2];simp only [Nat.mul_assoc,Nat.mul_comm,Nat.mul_left_comm]
    rw [f1,f2];exact Nat.mul_le_mul_right _ hg
theorem qos (d1 d2:Nat) (x1 x2:Int) (h1:d1%10≠0) (h2:d2%10≠0) (hx1: -300<=x1) (hx2: -300<=x2) (h:dec d1 x1=dec d2 x2):d1=d2∧x1=x2:=by
  unfold dec at h;have aux:∀(a b:Nat) (x y:Int),a%10≠0-> -300<=x->x<y->a*10^(x+300).toNat=b*10^(y+300).toNat->False:=by
    intro a b x y ha hx aa e;obtain ⟨t,ht⟩:∃t:Nat,(y+300).toNat=t+1+(x+300).toNat:=⟨(y-x-1).toNat,by omega⟩;rw [ht,Nat.pow_add,<-Nat.mul_assoc] at e;have :=Nat.eq_of_mul_eq_mul_right (Nat.pow_pos (by decide)) e;rw [Nat.pow_succ,<-Nat.mul_assoc] at this;omega
  rcases (by omega:x1<x2∨x1=x2∨x2<x1) with hx|hx|hx
  · exact (aux d1 d2 x1 x2 h1 hx1 hx h).elim
  · subst hx
    exact ⟨Nat.eq_of_mul_eq_mul_right (Nat.pow_pos (by decide)) h,rfl⟩
  · exact (aux d2 d1 x2 x1 h2 hx2 hx h.symm).elim
theorem qkS (d1 d2:Nat) (x1 x2:Int) (g1:d1<1000000000000000) (g2:d2<1000000000000000) (h1:d1%10≠0) (h2:d2%10≠0) (hx1: -300<=x1) (hx2: -300<=x2) (h:qa8 d1 x1=qa8 d2 x2):d1=d2∧x1=x2:=by
  rcases Nat.lt_trichotomy (dec d1 x1) (dec d2 x2) with k|k|k
  · have :=qi7 d1 d2 x1 x2 (by omega) g1 g2 hx1 hx2 k;omega
  · exact qos d1 d2 x1 x2 h1 h2 hx1 hx2 k
  · have :=qi7 d2 d1 x2 x1 (by omega) g2 g1 hx2 hx1 k;omega
theorem qoZ:(1000000000000000:Nat)*10^E5*2^E0<10^E3*(4503599627370496*2^E4):=by
  rw [qeK,qmj,qpn,qpD];decide+kernel
theorem qgb (d : Nat) (x : Int) (hd : 1 <= d) (h1 : d < 1000000000000000) (hx : -300 <= x) (hx' : x <= 290) : 4503599627370496 <= qa8 d x ∧ qa8 d x < 9218868437227405312 := by
  obtain ⟨j,q,h2,h3,h4,h5,h6⟩:=qbS d x hd hx;have hu:=qoA (vN d x-q*(2^j*vD x)) (2^j*vD x) q
  have hj : j < E4 := by
    rcases Nat.lt_or_ge j E4 with h|h
    · exact h
    · exfalso
      have a:4503599627370496*2^E4*vD x<=vN d x:=by
        refine Nat.le_trans ?_ h4;rw [<-Nat.mul_assoc];exact Nat.mul_le_mul_right _ (Nat.mul_le_mul h2 (Nat.pow_le_pow_right (by decide) h))
      have b:=qle d x hx;have c:dec d x<=1000000000000000*10^E5:=by
        unfold dec;exact Nat.mul_le_mul (by omega) (Nat.pow_le_pow_right (by decide) (by rw [qpD];omega))
      have e:10^E3*(4503599627370496*2^E4)*vD x<=1000000000000000*10^E5*2^E0*vD x:=by
        calc 10^E3*(4503599627370496*2^E4)*vD x=4503599627370496*2^E4*vD x*10^E3:=by simp only [Nat.mul_assoc,Nat.mul_comm]
          _<=vN d x*10^E3:=Nat.mul_le_mul_right _ a
          _=dec d x*2^E0*vD x:=b
          _<=_:=Nat.mul_le_mul_right _ (Nat.mul_le_mul_right _ c)
      exact absurd (Nat.le_of_mul_le_mul_right e (qfa x)) (Nat.not_le.2 qoZ)
  rw [qpn] at hj;omega
def valD:List Nat->Nat
  | []=>0
  |x::l=>x+65536*valD l
def OkD (l:List Nat):Prop:=∀x ∈ l,x<65536
def Dig (l:List Nat) (n:Nat):Prop:=OkD l∧valD l=n∧l.getLast? ≠some 0
theorem qej (a b:List Nat):valD (a++b)=valD a+65536^a.length*valD b:=by
  induction a with
  |nil=>simp [valD]
  | cons x a ih =>
    simp only [List.cons_append,valD,ih,List.length_cons];rw [Nat.mul_add,Nat.pow_succ,Nat.add_assoc,Nat.mul_comm (65536^a.length) 65536,Nat.mul_assoc]
theorem qnp (x:Nat):valD [x]=x:=by simp [valD]
theorem qcm (a:List Nat) (x:Nat):valD (a++[x])=valD a+65536^a.length*x:=by rw [qej,qnp]
theorem qho (l:List Nat) (h:OkD l):valD l<65536^l.length:=by
  induction l with
  |nil=>simp [valD]
  | cons x l ih =>
    have h1:=ih fun y hy=>h y (List.mem_cons_of_mem _ hy);have h2:=h x List.mem_cons_self;simp only [valD,List.length_cons,Nat.pow_succ];omega
theorem OkD.snoc {l:List Nat} (h:OkD l) {x:Nat} (hx:x<65536):OkD (l++[x]):=by
  intro y hy;rcases List.mem_append.1 hy with hy|hy
  · exact h y hy
  · rw [List.mem_singleton.1 hy];exact hx
theorem OkD.take {l:List Nat} (h:OkD l) (k:Nat):OkD (l.take k):=fun x hx=>h x (List.mem_of_mem_take hx)
theorem OkD.at {l:List Nat} (h:OkD l) (i:Nat) (hi:i<l.length):l[i]<65536:=h _ (List.getElem_mem hi)
theorem qbb (l:List Nat) (k:Nat) (h:k<l.length):valD (l.take (k+1))=valD (l.take k)+65536^k*l[k]:=by
  rw [List.take_succ_eq_append_getElem h,qcm,List.length_take,Nat.min_eq_left (by omega)]
theorem qiQ (l:List Nat) (k:Nat) (hk:k<=l.length) (h:OkD l) (hv:valD (l.take k)=valD l) (hz:k=0∨∃h:k-1<l.length,l[k-1]≠0):Dig (l.take k) (valD l):=by
  refine ⟨h.take k,hv, ?_⟩;rcases hz with h0|⟨h1,h2⟩
  · subst h0;simp
  · rcases Nat.eq_zero_or_pos k with h0 | h0
    · subst h0;simp
    · rw [List.getLast?_eq_getElem?, List.length_take, Nat.min_eq_left hk, List.getElem?_take_of_lt (by omega), List.getElem?_eq_getElem h1]
      intro e;exact h2 (Option.some.inj e)
theorem Dig.low {l:List Nat} {n:Nat} (h:Dig l n) (h0:0<l.length):65536^(l.length-1)<=n:=by
  obtain ⟨h1,h2,h3⟩:=h;have e:=qbb l (l.length-1) (by omega);rw [show l.length-1+1=l.length by omega,List.take_length,h2] at e;have hx:l[l.length-1]≠0:=by
    intro hx;apply h3;rw [List.getLast?_eq_getElem?,List.getElem?_eq_getElem (by omega),hx]
  rw [e];exact Nat.le_trans (Nat.le_mul_of_pos_right _ (by omega)) (Nat.le_add_left _ _)
theorem Dig.high {l:List Nat} {n:Nat} (h:Dig l n):n<65536^l.length:=by rw [<-h.2.1];exact qho l h.1
theorem Dig.len_le {a b:List Nat} {n m:Nat} (ha:Dig a n) (hb:Dig b m) (h:m<=n):b.length<=a.length:=by
  rcases Nat.lt_or_ge a.length b.length with hl|hl
  · exfalso
    have h1:=ha.high;have h2:=hb.low (by omega);have h3:65536^a.length<=65536^(b.length-1):=Nat.pow_le_pow_right (by decide) (by omega);omega
  · exact hl
theorem Dig.lt_of_len {a b:List Nat} {n m:Nat} (ha:Dig a n) (hb:Dig b m) (h:a.length<b.length):n<m:=by
  rcases Nat.lt_or_ge n m with hl|hl
  · exact hl
  · have :=ha.len_le hb hl;omega
theorem Dig.len_bd {l:List Nat} {n:Nat} (h:Dig l n) (k:Nat) (hk:n<65536^k):l.length<=k:=by
  rcases Nat.lt_or_ge k l.length with hl|hl
  · have h1 := h.low (by omega)
    have h2:65536^k<=65536^(l.length-1):=Nat.pow_le_pow_right (by decide) (by omega);omega
  · exact hl
theorem qlM {a b:List Nat} {i:Nat} (ha:OkD a) (hb:OkD b) (hl:a.length=b.length) (hi:i<a.length) (he:a.drop (i+1)=b.drop (i+1)) (h:a[i]<b[i]):valD a<valD b:=by
  have e:∀l:List Nat,OkD l->∀h:i<l.length,valD l=valD (l.take i)+65536^i*(l[i]+65536*valD (l.drop (i+1))):=by
    intro l _ aa;have :=qej (l.take i) (l.drop i);rw [List.take_append_drop,List.length_take,Nat.min_eq_left (by omega),List.drop_eq_getElem_cons aa,valD] at this;exact this
  rw [e a ha hi,e b hb (by omega),he];have h1:=qho _ (ha.take i);rw [List.length_take,Nat.min_eq_left (by omega)] at h1;generalize valD (b.drop (i+1))=r at *;generalize 65536^i=p at *;have h2:p*(a[i]+65536*r)+p<=p*(b[i]+65536*r):=by
    rw [<-Nat.mul_succ];exact Nat.mul_le_mul_left p (by omega)
  omega
theorem qlu {a b:List Nat} {i:Nat} (hl:a.length=b.length) (hi:i<a.length) (he:a.drop (i+1)=b.drop (i+1)) (h:a[i]=b[i]):a.drop i=b.drop i:=by
  rw [List.drop_eq_getElem_cons hi,List.drop_eq_getElem_cons (by omega:i<b.length),he,h]
theorem qjr {l o:List Nat} {k c i x:Nat} (hi:i<l.length) (hol:o.length=i) (h:valD o+65536^i*c=valD (l.take i)*k) (hx:x=l[i]*k+c):
    valD (o++[x%65536])+65536^(i+1)*(x/65536)=valD (l.take (i+1))*k:=by
  rw [qcm,hol,qbb l i hi,Nat.add_mul,<-h,Nat.pow_succ];generalize 65536^i=p;have e:p*x=p*(x%65536)+p*65536*(x/65536):=by
    rw [Nat.mul_assoc,<-Nat.mul_add,Nat.mod_add_div]
  have e2:p*x=p*l[i]*k+p*c:=by rw [hx,Nat.mul_add,Nat.mul_assoc]
  omega
theorem qhr {x k c:Nat} (hx:x<65536) (hc:c<k) (h10:k<=10):(x*k+c)/65536<k∧x*k<=655350:=by
  have h1:x*k<=65535*k:=Nat.mul_le_mul_right _ (by omega);constructor
  · rw [Nat.div_lt_iff_lt_mul (by decide)];omega
  · omega
theorem qje {a b o:List Nat} {i:Nat} {q r:Nat} {x:Int} {d:Nat} (hi:i<a.length) (hol:o.length=i) (h:valD o+valD (b.take i)=valD (a.take i)+65536^i*q)
    (hx:x=(a[i]:Int)-q-(b.getD i 0:Nat)) (hd:(d:Int)=x+65536*(r:Nat)):
    valD (o++[d])+valD (b.take (i+1))=valD (a.take (i+1))+65536^(i+1)*r:=by
  rw [qcm,hol,qbb a i hi,Nat.pow_succ];have hb:valD (b.take (i+1))=valD (b.take i)+65536^i*b.getD i 0:=by
    rcases Nat.lt_or_ge i b.length with aa|ab
    · rw [qbb b i aa];simp [List.getD,List.getElem?_eq_getElem aa]
    · rw [List.take_of_length_le (by omega),List.take_of_length_le (by omega)];simp [List.getD,List.getElem?_eq_none ab]
  rw [hb];generalize 65536^i=p at *;generalize b.getD i 0=y at *;have e:d+y+q=a[i]+65536*r:=by omega
  have e2:p*d+p*y+p*q=p*a[i]+p*65536*r:=by
    rw [<-Nat.mul_add,<-Nat.mul_add,e,Nat.mul_add,Nat.mul_assoc]
  omega
theorem qlI {a b o:List Nat} {n m q:Nat} (ha:Dig a n) (hb:Dig b m) (hm:m<=n) (hol:o.length=a.length) (ho:OkD o) (h:valD o+valD (b.take a.length)=valD (a.take a.length)+65536^a.length*q):valD o=n-m:=by
  have hl:=ha.len_le hb hm;rw [List.take_of_length_le hl,List.take_length,ha.2.1,hb.2.1] at h;have h1:=qho o ho;rw [hol] at h1;rcases Nat.eq_zero_or_pos q with h0|h0
  · subst h0;rw [Nat.mul_zero] at h;omega
  · have := Nat.le_mul_of_pos_right (65536 ^ a.length) h0
    omega
end Go.Proofs.YtnkelahimiipjaaGreatDoor
