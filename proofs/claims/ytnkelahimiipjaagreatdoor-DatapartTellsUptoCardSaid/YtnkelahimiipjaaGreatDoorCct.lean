/-
 Some numbers ahead, one behind the other.
-/
import Derived.Test.YtnkelahimiipjaaGreatDoorBbt
import Derived.Test.YtnkelahimiipjaaGreatDoorRqt
import Derived.Laws.BitsAllLaws
import Derived.Test.YtnkelahimiipjaaGreatDoorProg
set_option maxRecDepth 100000
set_option maxHeartbeats 8000000
namespace Go.Proofs.YtnkelahimiipjaaGreatDoor
theorem qcF:∀(k:Nat) (b:List Nat),qac (k+1) b=if (qac k b).1=0 then (if (qab (qac k b).2.2).1=0 then (0,(qac k b).2.1++[zagV (qab (qac k b).2.2).2.1],(qac k b).2.2.drop (qab (qac k b).2.2).2.2) else ((qab (qac k b).2.2).1,[],[])) else qac k b
 | 0, b => by
   rw [qac];simp only [qac,if_true,List.nil_append]
 | k + 1, b => by
   have ih:=qcF k (b.drop (qab b).2.2);rw [qac];by_cases h1:(qab b).1=0
   ·rw [if_pos h1];have e:qac (k+1) b=if (qac k (b.drop (qab b).2.2)).1=0 then (0,zagV (qab b).2.1::(qac k (b.drop (qab b).2.2)).2.1,(qac k (b.drop (qab b).2.2)).2.2) else qac k (b.drop (qab b).2.2):=by
     rw [qac,if_pos h1]
    by_cases h2:(qac k (b.drop (qab b).2.2)).1=0
    ·rw [if_pos h2] at ih e;rw [e];simp only [if_true];by_cases h3:(qab (qac k (b.drop (qab b).2.2)).2.2).1=0
     ·rw [if_pos h3] at ih ⊢;rw [ih];simp
     ·rw [if_neg h3] at ih ⊢;rw [ih];simp only;rw [if_neg h3]
    ·rw [if_neg h2] at ih e;rw [ih,e,if_neg h2,if_neg h2]
   ·have e:qac (k+1) b=((qab b).1,[],[]):=(by rw [qac,if_neg h1]);rw [if_neg h1,e];simp only;rw [if_neg h1]
theorem qeY {k:Nat} {b:List Nat} (h:(qac k b).1≠0):∀j,qac (k+j) b=qac k b
 |0=>rfl
 | j + 1 => by
   have ih:=qeY h j;rw [show k+(j+1)=(k+j)+1 from rfl,qcF,ih,if_neg h]
def atV (k:Nat) (b:List Nat):Nat:=b.length-(qac k b).2.2.length
theorem qan:∀(k:Nat) (b:List Nat),(qac k b).1=0->k<=atV k b∧atV k b<=b.length∧(qac k b).2.2=b.drop (atV k b)∧(qac k b).2.1.length=k∧atV k b<=10*k
 | 0, b, _ => by
   have e:atV 0 b=0:=(by unfold atV qac;simp);rw [e];exact ⟨Nat.le_refl _,Nat.zero_le _,rfl,rfl,Nat.le_refl _⟩
 | k + 1, b, h => by
   have hs:=qcF k b;by_cases h1:(qac k b).1=0
   ·obtain ⟨i1,i2,i3,i4,i5⟩:=qan k b h1;rw [if_pos h1] at hs;by_cases h2:(qab (qac k b).2.2).1=0
    ·rw [if_pos h2] at hs;obtain ⟨j1,j2,j3⟩:=qf1 h2;have e:(qac (k+1) b).2.2=b.drop (atV k b+(qab (qac k b).2.2).2.2):=by
      rw [hs];simp only;rw [i3,List.drop_drop]
     have el:(qac k b).2.2.length=b.length-atV k b:=(by rw [i3,List.length_drop]);have ea:atV (k+1) b=atV k b+(qab (qac k b).2.2).2.2:=by
      unfold atV;rw [e,List.length_drop];have :atV k b=b.length-(qac k b).2.2.length:=rfl;omega
     refine ⟨by omega,by omega,by rw [e,ea], ?_,by omega⟩;rw [hs];simp [i4]
    ·rw [if_neg h2] at hs;rw [hs] at h;exact absurd h h2
   ·rw [if_neg h1] at hs;rw [hs] at h;exact absurd h h1
def numX (b:List Nat) (k:Nat):Int×Int:=
 if (qab (b.drop (atV k b))).1=0 then (zagV (qab (b.drop (atV k b))).2.1,((atV k b+(qab (b.drop (atV k b))).2.2:Nat):Int)) else (0, -(qab (b.drop (atV k b))).1)
theorem qj4 (b:List Nat):(qab b).1=0∨(qab b).1=10∨(qab b).1=11:=by
 unfold qab
 split
 ·simp
 ·split
  ·simp
  ·split<;>simp
theorem qig {k:Nat} {b:List Nat} (h:(qac k b).1=0):
  ((qab (b.drop (atV k b))).1=0∧numX b k=(zagV (qab (b.drop (atV k b))).2.1,((atV (k+1) b:Nat):Int))∧(qac (k+1) b).1=0∧(qac (k+1) b).2.1=(qac k b).2.1++[zagV (qab (b.drop (atV k b))).2.1]∧1<=(qab (b.drop (atV k b))).2.2∧atV (k+1) b=atV k b+(qab (b.drop (atV k b))).2.2)∨
  ((qab (b.drop (atV k b))).1≠0∧numX b k=(0, -(qab (b.drop (atV k b))).1)∧(qac (k+1) b).1=(qab (b.drop (atV k b))).1∧qac (k+1) b=((qab (b.drop (atV k b))).1,[],[])∧10<=(qab (b.drop (atV k b))).1∧(qab (b.drop (atV k b))).1<=11):=by
 have hs:=qcF k b;obtain ⟨i1,i2,i3,i4,i5⟩:=qan k b h;rw [if_pos h,i3] at hs;by_cases h2:(qab (b.drop (atV k b))).1=0
 ·left;rw [if_pos h2] at hs;have h3:(qac (k+1) b).1=0:=by rw [hs]
  obtain ⟨j1,j2,j3⟩:=qf1 h2;have ea:atV (k+1) b=atV k b+(qab (b.drop (atV k b))).2.2:=by
   unfold atV;rw [hs];simp only;rw [List.length_drop,List.length_drop];have :(b.drop (atV k b)).length=b.length-atV k b:=List.length_drop;have e:atV k b=b.length-(qac k b).2.2.length:=rfl;rw [<-e];omega
  refine ⟨h2, ?_,h3,by rw [hs],by omega,ea⟩;unfold numX;rw [if_pos h2,ea]
 ·right;rw [if_neg h2] at hs;have hc:=qj4 (b.drop (atV k b));refine ⟨h2,by unfold numX;rw [if_neg h2],by rw [hs],hs,by omega,by omega⟩
theorem qpq {u:Nat} (h:u<18446744073709551616):In64 (zagV u):=by
 unfold zagV In64
 split<;>omega
theorem qhI (b:List Nat):(qab b).2.1<18446744073709551616:=by
 unfold qab
 split
 ·simp
 ·split
  ·simp
  ·split
   ·simp
   case isFalse h1 h2 h3=>
    simp only;by_cases h9:qbx b=9
    ·have hl:9<b.length:=(by omega);have hd:¬1<b.getD 9 0:=fun h=>h3 (.inl ⟨h9,h⟩);have e:=qih hl;have hv:=qcY (b:=b) (n:=9) (by omega);rw [List.getD_eq_getElem?_getD,List.getElem?_eq_getElem hl] at hd;have aa:b[9]<=1:=(by simpa using hd);have hm:b[9]%128*2^(7*9)<=1*2^(7*9):=Nat.mul_le_mul_right _ (by omega);rw [h9,e];omega
    ·have hv:=qcY (b:=b) (n:=qbx b+1) (by omega);have hp:2^(7*(qbx b+1))<=2^63:=Nat.pow_le_pow_right (by decide) (by omega);omega
end Go.Proofs.YtnkelahimiipjaaGreatDoor
namespace Go.Proofs.YtnkelahimiipjaaGreatDoor
open Go.RowKit Go.Sort
def qcQ:Nat->Int->Int×Nat
 |0,m=>(m,0)
 |f+1,m=>if m%10=0 then ((qcQ f (m/10)).1,(qcQ f (m/10)).2+1) else (m,0)
theorem qiS (k:Nat):∀(f:Nat) (m':Int),k<=f->m'%10≠0->qcQ f (m'*10^k)=(m',k):=by
 induction k with
 | zero =>
   intro f m' _ h;cases f with
   |zero=>simp [qcQ]
   |succ f=>unfold qcQ;rw [Int.pow_zero,Int.mul_one,if_neg h]
 | succ k ih =>
   intro f m' hf h;cases f with
   |zero=>omega
   | succ f =>
     have e:m'*10^(k+1)=m'*10^k*10:=(by rw [Int.pow_succ,Int.mul_assoc]);unfold qcQ;rw [e,if_pos (by omega),Int.mul_ediv_cancel _ (by decide),ih f m' (by omega) h]
def qcR (m x:Int):Option (Int×Int):=
 if x< -1000∨1000<x then none
 else if m=0 then some (0,0)
 else if qau (qcQ 20 m).1 (x+(qcQ 20 m).2) 0 then some ((qcQ 20 m).1,x+(qcQ 20 m).2) else none
def qcS (m x:Int):Value:=match qcR m x with
 |some (a,b)=>.tuple #[.agg #[.int .i64 a,.int .i64 b,.int .i64 0],.bool true]
 |none=>.tuple #[.agg #[.int .i64 0,.int .i64 0,.int .i64 0],.bool false]
theorem qiM {m mm:Int} {k:Nat} (h:m=mm*10^k) (hm:m≠0) (h1: -9223372036854775808<=m) (h2:m<=9223372036854775807):k<=18:=by
 rcases Nat.lt_or_ge 18 k with hk|hk
 ·exfalso;obtain ⟨t,rfl⟩:∃t,k=19+t:=⟨k-19,by omega⟩;have h0:mm≠0:=by rintro rfl;simp at h;exact hm h
  have ha:m.natAbs=mm.natAbs*(10^19*10^t):=by
   rw [h,Int.natAbs_mul,Int.natAbs_pow,<-Nat.pow_add];rfl
  have hp:1<=mm.natAbs*10^t:=Nat.mul_pos (by omega) (Nat.pow_pos (by decide));rw [Nat.mul_left_comm] at ha;have hq:10^19*1<=10^19*(mm.natAbs*10^t):=Nat.mul_le_mul_left _ hp;have aa:(10:Nat)^19=10000000000000000000:=by decide
  omega
 ·exact hk
theorem qjq (m x:Int) (w:World) (h1: -9223372036854775808<=m) (h2:m<=9223372036854775807):
  Calls Tryz.prog 105 #[.int .i64 m,.int .i64 x] w fun e w'=>e=.returned (qcS m x)∧Ext w w':=by
 have hr:Tryz.f105.results= #[.cell 4 64,.tmp 5]:=by kernel_rfl
 obtain ⟨R,hR⟩:∃R,R=qcS m x:=⟨_,rfl⟩;rw [<-hR];by_cases hx:x< -1000∨1000<x
 ·have hv:R=.tuple #[.agg #[.int .i64 0,.int .i64 0,.int .i64 0],.bool false]:=by
   rw [hR];unfold qcS qcR;rw [if_pos hx]
  subst hv;clear hR;go_enter Tryz.func105,Tryz.ntmps105;rcases hx with hx|hx
  all_goals go_wp2
  all_goals refine bodyPost_ret (v:=.tuple #[.agg #[.int .i64 0,.int .i64 0,.int .i64 0],.bool false]) ?_ rfl ⟨rfl,(by repeat (first|exact Ext.refl _|(refine Ext.setCell ?_ (by simp) _)|apply Ext.drew|apply Ext.alloc))⟩
  all_goals (unfold results;rw [hr];go_simp)
 ·by_cases hm:m=0
  ·have hv:R=.tuple #[.agg #[.int .i64 0,.int .i64 0,.int .i64 0],.bool true]:=by
    rw [hR];unfold qcS qcR;rw [if_neg hx,if_pos hm]
   subst hv hm;clear hR;have ai: -1000<=x:=(by omega);have ah:x<=1000:=(by omega);clear hx;go_enter Tryz.func105,Tryz.ntmps105
   go_wp2
   all_goals refine bodyPost_ret (v:=.tuple #[.agg #[.int .i64 0,.int .i64 0,.int .i64 0],.bool true]) ?_ rfl ⟨rfl,(by repeat (first|exact Ext.refl _|(refine Ext.setCell ?_ (by simp) _)|apply Ext.drew|apply Ext.alloc))⟩
   all_goals (unfold results;rw [hr];go_simp)
  ·have HC:Hid (∀(mm:Int) (k:Nat),m=mm*10^k->mm%10≠0->R=if qau mm (x+k) 0 then .tuple #[.agg #[.int .i64 mm,.int .i64 (x+k),.int .i64 0],.bool true] else .tuple #[.agg #[.int .i64 0,.int .i64 0,.int .i64 0],.bool false]):=by
    intro mm k e h9;have hk:=qiM e hm h1 h2;rw [hR];unfold qcS qcR;rw [if_neg hx,if_neg hm,e,qiS k 20 mm (by omega) h9];by_cases h8:qau mm (x+k) 0=true
    ·simp only [h8,if_true]
    ·simp only [h8];simp
   have HM:Hid (m≠0∧ -9223372036854775808<=m∧m<=9223372036854775807):=⟨hm,h1,h2⟩;have ai: -1000<=x:=(by omega);have ah:x<=1000:=(by omega);have am:((m:Int)==0)=false:=(by rw [beq_eq_false_iff_ne];exact hm);clear hx hR hm;go_enter Tryz.func105,Tryz.ntmps105;go_wp2_with fail
   go_loopw [0,1] (fun a b wl=>∃(mm:Int) (k:Nat),a=.int .i64 mm∧b=.int .i64 (x+k)∧k<=18∧Hid (m=mm*10^k)∧ -9223372036854775808<=mm∧mm<=9223372036854775807∧Hid (Ext (w.alloc (.cells #[.int .i64 0,.int .i64 0,.int .i64 0] 64)) wl)) (fun _ b _=>(2000-intOf b).toNat)
   case atStart=>exact ⟨m,0,rfl,by simp,by omega,by show _=_;simp,h1,h2,by first|exact Ext.refl _|exact (Ext.refl _).drew⟩
   case round=>
    obtain ⟨mm,k,rfl,rfl,hk,HP,b1,b2,HE⟩:=hrel;by_cases h0:mm%10=0
    ·obtain ⟨q,hq⟩:∃q,mm=q*10:=⟨mm/10,by omega⟩;subst hq;have t1:Int.tmod (q*10) 10=0:=Int.mul_tmod_left q 10;have t2:Int.tdiv (q*10) 10=q:=Int.mul_tdiv_cancel q (by decide);have ae:Hid (m=q*10^(k+1)):=(by show _=_;rw [HP.out,Int.pow_succ,Int.mul_assoc,Int.mul_comm 10]);have ag:k+1<=18:=qiM ae.out HM.out.1 HM.out.2.1 HM.out.2.2;go_wp2_with fail;go_roundw
     case rel=>exact ⟨q,k+1,rfl,by go_num,ag,ae,by omega,by omega,HE⟩
     case measure=>simp [intOf];omega
    ·have t1:(Int.tmod mm 10==0)=false:=by
      rw [beq_eq_false_iff_ne];intro e;have :=Int.dvd_of_tmod_eq_zero e;omega
     have hR:=HC.out mm k HP.out h0;go_wp2_with fail;have ad:(wr.alloc (.cells #[.int .i64 mm,.int .i64 (x+k),.int .i64 0] 64)).heap.size=wr.heap.size+1:=(by simp);refine (qbe mm (x+k) 0 _).mono ?_;rintro e w2 ⟨rfl,ab⟩;have aa:=((HE.out.alloc (.cells #[.int .i64 mm,.int .i64 (x+k),.int .i64 0] 64)).trans ab);have ak:w2.cell? ⟨wr.heap.size,0,none⟩=some (.int .i64 mm):=ab.cell_some (by simp);have av:w2.cell? ⟨wr.heap.size,1,none⟩=some (.int .i64 (x+k)):=ab.cell_some (by simp);have ap:w2.cell? ⟨wr.heap.size,2,none⟩=some (.int .i64 0):=ab.cell_some (by simp);have an:=Lib.hid aa;have ac:∀o,w2.frozen? ⟨w.heap.size,o,none⟩=false:=fun o=>by
      rw [aa.frozen (b:=w.heap.size) (o:=o) (by simp)];exact World.frozen?_alloc_new _ _ _ _
     have au:w2.cell? ⟨w.heap.size,0,none⟩=some (.int .i64 0):=aa.cell_some (by simp);have ao:w2.cell? ⟨w.heap.size,1,none⟩=some (.int .i64 0):=aa.cell_some (by simp);have aj:w2.cell? ⟨w.heap.size,2,none⟩=some (.int .i64 0):=aa.cell_some (by simp);have al:=ac 0;have ar:=ac 1;have aq:=ac 2;have af:Hid (Ext w w2):=((Ext.refl w).alloc _).trans aa;clear ac;clear ab aa ad;cases hb:qau mm (x+k) 0
     ·rw [hb] at hR;have hv:R=.tuple #[.agg #[.int .i64 0,.int .i64 0,.int .i64 0],.bool false]:=hR;subst hv;clear hR;go_wp2_with fail
      all_goals refine bodyPost_ret (v:=.tuple #[.agg #[.int .i64 0,.int .i64 0,.int .i64 0],.bool false]) ?_ rfl ⟨rfl, ?_⟩
      all_goals first|(unfold results;rw [hr];go_simp;done)|(have :=af.out;repeat (first|assumption|(refine Ext.setCell ?_ (by simp) _)|apply Ext.drew|apply Ext.alloc))
     ·rw [hb] at hR;have hv:R=.tuple #[.agg #[.int .i64 mm,.int .i64 (x+k),.int .i64 0],.bool true]:=hR;subst hv;clear hR;go_wp2_with fail
      all_goals refine bodyPost_ret (v:=.tuple #[.agg #[.int .i64 mm,.int .i64 (x+k),.int .i64 0],.bool true]) ?_ rfl ⟨rfl, ?_⟩
      all_goals first|(unfold results;rw [hr];go_simp;done)|(have :=af.out;repeat (first|assumption|(refine Ext.setCell ?_ (by simp) _)|apply Ext.drew|apply Ext.alloc))
end Go.Proofs.YtnkelahimiipjaaGreatDoor
namespace Go.Proofs.YtnkelahimiipjaaGreatDoor
abbrev Val:=Int×Int×Int
def numB (v:Val):Bool:=decide (v.2.2=0) && decide (v.1≠0)
def qaH (v:Val):Bool:=qau v.1 v.2.1 v.2.2
def fitB (e:Int) (v:Val):Bool:=decide (e<=v.2.1∧v.2.1-e<=18) && decide (v.1.natAbs*10^(v.2.1-e).toNat<1000000000000000000)
def qcA (s:Int×Bool) (v:Val):Int×Bool:=if numB v then (if s.2 then min v.2.1 s.1 else v.2.1,true) else s
def qah (l:List Val):Int×Bool:=l.foldl qcA (0,false)
def qaJ (l:List Val):Bool:=l.all qaH && l.all (fun v=> !numB v || fitB (qah l).1 v)
def qa7 (l:List Val):Nat->Nat
 |0=>0
 |k+1=>if qaJ (l.take (k+1))=true then k+1 else qa7 l k
def qaI (e:Int) (v:Val):Int:=if v.2.2≠0 then -9223372036854775808+v.2.2 else if v.1=0 then 0 else v.1*10^(v.2.1-e).toNat
theorem qcL (l:List Val) (v:Val):qah (l++[v])=qcA (qah l) v:=by unfold qah;rw [List.foldl_append];rfl
theorem qbA (l : List Val) : ((qah l).2 = true ↔ ∃ v ∈ l, numB v = true) ∧ (∀ v ∈ l, numB v = true -> (qah l).1 <= v.2.1) ∧ ((qah l).2 = true -> ∃ v ∈ l, numB v = true ∧ (qah l).1 = v.2.1) ∧ ((qah l).2 = false -> (qah l).1 = 0) := by
 have key : ∀ r : List Val, (let l := r.reverse; ((qah l).2 = true ↔ ∃ v ∈ l, numB v = true) ∧ (∀ v ∈ l, numB v = true -> (qah l).1 <= v.2.1) ∧ ((qah l).2 = true -> ∃ v ∈ l, numB v = true ∧ (qah l).1 = v.2.1) ∧ ((qah l).2 = false -> (qah l).1 = 0)) := by
  intro r
  induction r with
  |nil=>simp [qah]
  | cons v r ih =>
    simp only [List.reverse_cons] at ih ⊢;obtain ⟨h1,h2,h3,h4⟩:=ih;rw [qcL];unfold qcA;cases hn:numB v with
    | false =>
      rw [if_neg (by simp)];refine ⟨?_, ?_, ?_,h4⟩
      ·rw [h1];constructor
       ·rintro ⟨x,hx,hy⟩;exact ⟨x,List.mem_append_left _ hx,hy⟩
       ·rintro ⟨x,hx,hy⟩;rcases List.mem_append.1 hx with hx|hx
        ·exact ⟨x,hx,hy⟩
        ·simp at hx;subst hx;rw [hn] at hy;cases hy
      ·intro x hx hy;rcases List.mem_append.1 hx with hx|hx
       ·exact h2 x hx hy
       ·simp at hx;subst hx;rw [hn] at hy;cases hy
      ·intro h;obtain ⟨x,hx,hy,hz⟩:=h3 h;exact ⟨x,List.mem_append_left _ hx,hy,hz⟩
    | true =>
      rw [if_pos rfl];refine ⟨⟨fun _=>⟨v,by simp,hn⟩,fun _=>rfl⟩, ?_, ?_,fun h=>by cases h⟩
      ·intro x hx hy;rcases List.mem_append.1 hx with hx|hx
       ·have :=h2 x hx hy;have hs:=h1.2 ⟨x,hx,hy⟩;simp only [hs,if_true];omega
       ·simp at hx;subst hx
        split<;>simp only <;>omega
      ·intro _;by_cases hs:(qah r.reverse).2=true
       ·obtain ⟨x,hx,hy,hz⟩:=h3 hs;simp only [hs,if_true];rcases Int.le_total v.2.1 (qah r.reverse).1 with h|h
        ·exact ⟨v,by simp,hn,by omega⟩
        ·exact ⟨x,List.mem_append_left _ hx,hy,by omega⟩
       ·exact ⟨v,by simp,hn,by simp [hs]⟩
 have :=key l.reverse;simpa using this
theorem qpt {e e':Int} {v:Val} (h:fitB e v=true) (h1:e<=e') (h2:e'<=v.2.1):fitB e' v=true:=by
 unfold fitB at h ⊢;simp only [Bool.and_eq_true,decide_eq_true_eq] at h ⊢;refine ⟨⟨h2,by omega⟩,Nat.lt_of_le_of_lt (Nat.mul_le_mul_left _ (Nat.pow_le_pow_right (by decide) ?_)) h.2⟩;omega
theorem qkR {l:List Val} (h:qaJ l=true) (k:Nat):qaJ (l.take k)=true:=by
 unfold qaJ at h ⊢;simp only [Bool.and_eq_true,List.all_eq_true] at h ⊢;refine ⟨fun v hv=>h.1 v (List.mem_of_mem_take hv),fun v hv=> ?_⟩;have aa:=List.mem_of_mem_take hv;have h2:=h.2 v aa;cases hn:numB v with
 |false=>rfl
 | true =>
   rw [hn] at h2;have h2:fitB (qah l).1 v=true:=(by simpa using h2);have h3:=(qbA (l.take k)).2.2.1 ((qbA (l.take k)).1.2 ⟨v,hv,hn⟩);obtain ⟨x,hx,hy,hz⟩:=h3;have h4:=(qbA l).2.1 x (List.mem_of_mem_take hx) hy;have h5:=(qbA (l.take k)).2.1 v hv hn;have :=qpt h2 (e':=(qah (l.take k)).1) (by omega) h5;simpa using this
theorem qoG {l:List Val} {j k:Nat} (h:qaJ (l.take k)=true) (hjk:j<=k):qaJ (l.take j)=true:=by
 have :=qkR h j
 rwa [List.take_take,Nat.min_eq_left hjk] at this
theorem qoF {l:List Val} {n:Nat} (hn:n<=l.length) (h1:qaJ (l.take n)=true) (h2:n<l.length->qaJ (l.take (n+1))=false):qa7 l l.length=n:=by
 have key:∀k,n<=k->k<=l.length->qa7 l k=n:=by
  intro k
  induction k with
  |zero=>intro h _;simp [qa7];omega
  | succ k ih =>
    intro h hk;unfold qa7;by_cases e:n=k+1
    ·subst e;rw [if_pos h1]
    ·have h3:=h2 (by omega);rw [if_neg,ih (by omega) (by omega)];intro h4;rw [qoG h4 (by omega)] at h3;cases h3
 exact key _ hn (Nat.le_refl _)
theorem qd7 (l:List Val):∀k,qa7 l k<=k∧qaJ (l.take (qa7 l k))=true
 |0=>⟨Nat.le_refl _,rfl⟩
 | k + 1 => by
   have ih:=qd7 l k;unfold qa7
   split
   case isTrue h=>exact ⟨Nat.le_refl _,h⟩
   case isFalse h=>exact ⟨by omega,ih.2⟩
theorem qmS {v:Val} (h:qaH v=true):qaJ [v]=true:=by
 unfold qaJ;simp only [List.all_cons,List.all_nil,Bool.and_true,Bool.and_eq_true];refine ⟨h, ?_⟩;cases hn:numB v with
 |false=>rfl
 | true =>
   have e:(qah [v]).1=v.2.1:=(by unfold qah qcA;simp [hn]);rw [e];unfold fitB;unfold qaH qau at h;unfold numB at hn;simp only [Bool.and_eq_true,decide_eq_true_eq] at hn;rw [if_neg (by simp [hn.1])] at h
   split at h
   ·cases h
   ·simp;omega
theorem qnD {l:List Val} (h:∀v ∈ l,qaH v=true) (hl:l≠ []):1<=qa7 l l.length:=by
 have key : ∀ k, 1 <= k -> 1 <= qa7 l k := by
  intro k
  induction k with
  |zero=>intro h;omega
  | succ k ih =>
    intro _;unfold qa7
    split
    ·omega
    case isFalse hg=>
     by_cases hk:k=0
     ·subst hk;exfalso;apply hg;cases l with
      |nil=>exact absurd rfl hl
      |cons v l=>simpa using qmS (h v List.mem_cons_self)
     ·exact ih (by omega)
 exact key _ (List.length_pos_iff.2 hl)
def qa5 (e k:Int):Option Val:=
 if k<0∧1<=k+9223372036854775808∧k+9223372036854775808<=4 then some (0,0,k+9223372036854775808)
 else match qcR k e with
  |some (a,b)=>if -1000000000000000000<k∧k<1000000000000000000 then some (a,b,0) else none
  |none=>none
def qas (e:Int):List Int->Option (List Val)
 | []=>some []
 | k :: l => match qa5 e k, qas e l with
   |some v,some r=>some (v::r)
   |_,_=>none
def unpackV (m:List Int) (e:Int):Option (List Val):=if e< -1000∨1000<e then none else qas e m
theorem qcn {v:Val} (h:qaH v=true) (hn:numB v=true): -1000000000000000<v.1∧v.1<1000000000000000∧v.1%10≠0∧v.1≠0∧ -300<=v.2.1∧v.2.1<=290∧v.2.2=0:=by
 unfold qaH qau at h;unfold numB at hn;simp only [Bool.and_eq_true,decide_eq_true_eq] at hn;rw [if_neg (by simp [hn.1])] at h
 split at h
 ·cases h
 ·rw [if_neg hn.2] at h;have :=of_decide_eq_true h;omega
theorem qia {v:Val} {e:Int} (h:qaH v=true) (he:numB v=true->fitB e v=true) (hb: -1000<=e∧e<=1000):qa5 e (qaI e v)=some v:=by
 obtain ⟨m,x,s⟩:=v;cases hn:numB (m,x,s) with
 | true =>
   obtain ⟨h1,h2,h3,h4,h5,h6,h7⟩:=qcn h hn;simp only at h1 h2 h3 h4 h5 h6 h7;subst h7;have hf:=he hn;unfold fitB at hf;simp only [Bool.and_eq_true,decide_eq_true_eq] at hf;obtain ⟨⟨f1,f2⟩,f3⟩:=hf;obtain ⟨d,hd⟩:∃d,d=(x-e).toNat:=⟨_,rfl⟩;rw [<-hd] at f3;have e1:qaI e (m,x,0)=m*10^d:=(by unfold qaI;simp [h4,hd]);have e2:(m*10^d).natAbs=m.natAbs*10^d:=(by rw [Int.natAbs_mul,Int.natAbs_pow];rfl);have e3:=qiS d 20 m (by omega) h3;have e4:m*10^d≠0:=by
    intro h0;rw [h0] at e2;have :1<=m.natAbs*10^d:=Nat.mul_pos (by omega) (Nat.pow_pos (by decide));simp at e2;omega
   rw [e1];generalize m*10^d=k at *;have hc:qcR k e=some (m,x):=by
    unfold qcR;rw [if_neg (by omega),if_neg e4,e3];simp only;have ex:e+(d:Int)=x:=(by omega);rw [ex];exact if_pos h
   unfold qa5;rw [if_neg (by omega),hc];simp only;rw [if_pos (by omega)]
 | false =>
   unfold numB at hn;simp only [Bool.and_eq_false_iff,decide_eq_false_iff_not,Classical.not_not] at hn;unfold qaH qau at h;by_cases hs:s=0
   ·subst hs;have hm:m=0:=(by rcases hn with hn|hn;exact absurd rfl hn;exact hn);subst hm;simp at h;subst h;unfold qaI qa5 qcR;simp;rw [if_neg (by omega)]
   ·rw [if_pos (by simpa using hs)] at h;have h:=of_decide_eq_true h;simp only at h;obtain ⟨h1,h2,rfl,rfl⟩:=h;have e1:qaI e (0,0,s)= -9223372036854775808+s:=(by unfold qaI;simp [hs]);rw [e1];unfold qa5;rw [if_pos (by omega)];congr 2;congr 1;omega
theorem qeT {e:Int} (hb: -1000<=e∧e<=1000):∀l:List Val,(∀v ∈ l,qaH v=true∧(numB v=true->fitB e v=true))->qas e (l.map (qaI e))=some l
 | [],_=>rfl
 | v :: l, h => by
   have ih:=qeT hb l (fun x hx=>h x (List.mem_cons_of_mem _ hx));have h1:=h v List.mem_cons_self;rw [List.map_cons,qas,qia h1.1 h1.2 hb,ih]
theorem qce {l:List Val} (h:qaJ l=true):∀v ∈ l,qaH v=true∧(numB v=true->fitB (qah l).1 v=true):=by
 unfold qaJ at h;simp only [Bool.and_eq_true,List.all_eq_true] at h;intro v hv;refine ⟨h.1 v hv,fun hn=> ?_⟩;have :=h.2 v hv;rw [hn] at this;simpa using this
theorem qb5 {l:List Val} (h:∀v ∈ l,qaH v=true): -300<=(qah l).1∧(qah l).1<=290:=by
 by_cases hs:(qah l).2=true
 ·obtain ⟨x,hx,hy,hz⟩:=(qbA l).2.2.1 hs;have :=qcn (h x hx) hy;omega
 ·have :=(qbA l).2.2.2 (by simpa using hs);omega
theorem qhm {l:List Val} (h:qaJ l=true):unpackV (l.map (qaI (qah l).1)) (qah l).1=some l:=by
 have h1:=qce h;have h2:=qb5 (fun v hv=>(h1 v hv).1);unfold unpackV;rw [if_neg (by omega)];exact qeT (by omega) l h1
theorem qkt {e:Int} {v:Val} (h:qaH v=true) (he:numB v=true->fitB e v=true):In64 (qaI e v):=by
 obtain ⟨m,x,s⟩:=v;cases hn:numB (m,x,s) with
 | true =>
   have h7:=(qcn h hn).2.2.2;simp only at h7;have hf:=he hn;unfold fitB at hf;simp only [Bool.and_eq_true,decide_eq_true_eq] at hf;obtain ⟨d,hd⟩:∃d,d=(x-e).toNat:=⟨_,rfl⟩;have e1:qaI e (m,x,s)=m*10^d:=(by unfold qaI;simp [h7.1,h7.2.2.2,hd]);have e2:(m*10^d).natAbs=m.natAbs*10^d:=(by rw [Int.natAbs_mul,Int.natAbs_pow];rfl);rw [<-hd] at hf;rw [e1];generalize m*10^d=k at *;unfold In64;omega
 | false =>
   unfold numB at hn;simp only [Bool.and_eq_false_iff,decide_eq_false_iff_not,Classical.not_not] at hn;unfold qaI;simp only;unfold qaH qau at h;by_cases hs:s=0
   ·subst hs;have hm:m=0:=(by rcases hn with hn|hn;exact absurd rfl hn;exact hn);subst hm;simp;exact ⟨by decide,by decide⟩
   ·rw [if_pos (by simpa using hs)] at h;have h:=of_decide_eq_true h;simp only at h;rw [if_pos hs];unfold In64;omega
theorem qb6 {l:List Val}:qaJ l=true↔(∀v ∈ l,qaH v=true)∧∀v ∈ l,numB v=true->fitB (qah l).1 v=true:=by
 unfold qaJ;rw [Bool.and_eq_true,List.all_eq_true,List.all_eq_true];refine and_congr Iff.rfl (forall_congr' fun v=>forall_congr' fun _=> ?_);cases numB v<;>simp
theorem qes {l:List Val} {v:Val} (hn:numB v=false):qah (l++[v])=qah l:=by
 rw [qcL];unfold qcA;rw [if_neg (by simp [hn])]
theorem qlj {l:List Val} {v:Val} (hn:numB v=true):qah (l++[v])=(if (qah l).2 then min v.2.1 (qah l).1 else v.2.1,true):=by
 rw [qcL];unfold qcA;rw [if_pos hn]
theorem qjy {l:List Val} {v:Val} (hg:qaJ l=true) (hr:qaH v=true) (hn:numB v=false):qaJ (l++[v])=true:=by
 rw [qb6] at hg ⊢;rw [qes hn];refine ⟨fun x hx=> ?_,fun x hx hx2=> ?_⟩
 ·rcases List.mem_append.1 hx with hx|hx
  ·exact hg.1 x hx
  ·rw [List.mem_singleton] at hx;subst hx;exact hr
 ·rcases List.mem_append.1 hx with hx|hx
  ·exact hg.2 x hx hx2
  ·rw [List.mem_singleton] at hx;subst hx;rw [hn] at hx2;cases hx2
theorem qnc {l:List Val} {v:Val} (hg:qaJ l=true) (hr:qaH v=true) (ha:∀x ∈ l++[v],numB x=true->fitB (qah (l++[v])).1 x=true):qaJ (l++[v])=true:=by
 rw [qb6] at hg ⊢;refine ⟨fun x hx=> ?_,ha⟩;rcases List.mem_append.1 hx with hx|hx
 ·exact hg.1 x hx
 ·rw [List.mem_singleton] at hx;subst hx;exact hr
theorem ql8 {l:List Val} {v:Val} (hr:qaH v=false):qaJ (l++[v])=false:=by
 rw [<-Bool.not_eq_true,qb6];intro h;rw [h.1 v (by simp)] at hr;cases hr
theorem qo1 {l:List Val} {v x:Val} (hx:x ∈ l++[v]) (hn:numB x=true) (hf:fitB (qah (l++[v])).1 x=false):qaJ (l++[v])=false:=by
 rw [<-Bool.not_eq_true,qb6];intro h;rw [h.2 x hx hn] at hf;cases hf
def EV:Enc Val:=⟨3,fun v=>[.int .i64 v.1,.int .i64 v.2.1,.int .i64 v.2.2],fun _=>rfl,fun x u hu=>by
 simp at hu;rcases hu with rfl|rfl|rfl<;>rfl,by decide⟩
theorem qma {w:World} {b o:Nat} {v:Val}:CellG EV w b o v↔w.cell? ⟨b,o,none⟩=some (.int .i64 v.1)∧w.cell? ⟨b,o+1,none⟩=some (.int .i64 v.2.1)∧w.cell? ⟨b,o+2,none⟩=some (.int .i64 v.2.2):=by
 constructor
 ·intro h;exact ⟨by simpa [EV] using h 0 (by decide),by simpa [EV] using h 1 (by decide),by simpa [EV] using h 2 (by decide)⟩
 ·rintro ⟨h0,h1,h2⟩ j hj;have hj:j<3:=hj
  match j,hj with
  |0,_=>simpa [EV] using h0
  |1,_=>simpa [EV] using h1
  |2,_=>simpa [EV] using h2
theorem qk6 {m:Nat} {d:Nat} (hd:d<=18):(m:Int)<(1000000000000000000:Int)/((10^d:Nat):Int)↔m*10^d<1000000000000000000:=by
 have h:∀d,d<=18->(1000000000000000000:Nat)/10^d*10^d=1000000000000000000:=by decide
 have h1:=h d hd;have hp:0<10^d:=Nat.pow_pos (by decide);have e:(1000000000000000000:Int)/((10^d:Nat):Int)=((1000000000000000000/10^d:Nat):Int):=by
  rw [Int.natCast_ediv];rfl
 rw [e];constructor
 ·intro h2;have h3:m<1000000000000000000/10^d:=by omega
  have :=Nat.mul_lt_mul_of_pos_right h3 hp;omega
 ·intro h2;have h3:m<1000000000000000000/10^d:=by
   apply Classical.byContradiction;intro h4;have :=Nat.mul_le_mul_right (10^d) (Nat.le_of_not_lt h4);omega
  omega
def halvesL:List Nat:=[0x00000000,0x1db71064,0x3b6e20c8,0x26d930ac,0x76dc4190,0x6b6b51f4,0x4db26158,0x5005713c,0xedb88320,0xf00f9344,0xd6d6a3e8,0xcb61b38c,0x9b64c2b0,0x86d3d2d4,0xa00ae278,0xbdbdf21c]
def qoE (r:Nat):Nat:=(r/16) ^^^ (halvesL.getD (r%16) 0)
def sumS (r c:Nat):Nat:=qoE (qoE (r ^^^ c))
def regV (b:List Nat):Nat:=b.foldl sumS 4294967295
def sumV (b:List Nat):Nat:=4294967295-regV b
theorem qgC (i:Nat):halvesL.getD i 0<4294967296:=by
 by_cases h:i<16
 ·have :∀i,i<16->halvesL.getD i 0<4294967296:=by decide
  exact this i h
 ·have :halvesL.getD i 0=0:=by
   rw [List.getD_eq_getElem?_getD,List.getElem?_eq_none (by simp [halvesL];omega)];rfl
  omega
theorem qkH (b:List Nat) (c:Nat):regV (b++[c])=sumS (regV b) c:=by unfold regV;rw [List.foldl_append];rfl
def qdl (s:Nat):List Nat:=[s/16777216%256,s/65536%256,s/256%256,s%256]
def qcO (b:List Nat):List Nat:=b++qdl (sumV b)
def qaq (kind:Nat) (body:List Nat):List Nat:=qcO (kind::(putV body.length++body))
theorem qeB (b:List Nat):(qcO b).length=b.length+4:=by unfold qcO qdl;simp
theorem qbO (k:Nat) (b:List Nat):(qaq k b).length=1+(putV b.length).length+b.length+4:=by
 unfold qaq;rw [qeB];simp;omega
theorem qeV (s:Nat):∀c ∈ qdl s,c<256:=by
 intro c hc;unfold qdl at hc;simp at hc;omega
theorem qez {k:Nat} {b:List Nat} (hk:k<256) (hb:∀c ∈ b,c<256):∀c ∈ qaq k b,c<256:=by
 intro c hc;unfold qaq qcO at hc;rcases List.mem_append.1 hc with hc|hc
 ·rcases List.mem_cons.1 hc with rfl|hc
  ·exact hk
  ·rcases List.mem_append.1 hc with hc|hc
   ·exact qbF _ c hc
   ·exact hb c hc
 ·exact qeV _ c hc
def qap (b:List Nat):Int×Nat×List Nat×List Nat:=
 if b.length=0 then (10,0,[],[])
 else if (qab (b.drop 1)).1≠0 then ((qab (b.drop 1)).1,0,[],[])
 else if 65535<(qab (b.drop 1)).2.1 then (11,0,[],[])
 else if ((b.drop 1).drop (qab (b.drop 1)).2.2).length<(qab (b.drop 1)).2.1+4 then (10,0,[],[])
 else if qcO (b.take (1+(qab (b.drop 1)).2.2+(qab (b.drop 1)).2.1))=b.take (1+(qab (b.drop 1)).2.2+(qab (b.drop 1)).2.1+4) then
  (0,b.getD 0 0,((b.drop 1).drop (qab (b.drop 1)).2.2).take (qab (b.drop 1)).2.1,((b.drop 1).drop (qab (b.drop 1)).2.2).drop ((qab (b.drop 1)).2.1+4))
 else (50,0,[],[])
theorem qe3 {k:Nat} {body:List Nat} (h:body.length<=65535) (r:List Nat):qap (qaq k body++r)=(0,k,body,r):=by
 obtain ⟨t,ht⟩:∃t,t=qdl (sumV (k::(putV body.length++body))):=⟨_,rfl⟩;have aa:t.length=4:=by rw [ht];rfl
 have e0:qaq k body++r=k::(putV body.length++(body++(t++r))):=by unfold qaq qcO;rw [<-ht];simp
 have e1:(qaq k body++r).drop 1=putV body.length++(body++(t++r)):=by rw [e0];rfl
 have e2:=qdR (u:=body.length) (by omega) (body++(t++r));have e3:(qaq k body++r).take (1+(putV body.length).length+body.length)=k::(putV body.length++body):=by
  have :qaq k body++r=(k::(putV body.length++body))++(t++r):=by rw [e0];simp
  rw [this,List.take_left' (by simp;omega)]
 have e4:(qaq k body++r).take (1+(putV body.length).length+body.length+4)=qcO (k::(putV body.length++body)):=by
  have :qaq k body++r=(qcO (k::(putV body.length++body)))++r:=rfl;rw [this,List.take_left' (by rw [qeB];simp;omega)]
 have e5:(qaq k body++r).getD 0 0=k:=by rw [e0];rfl
 have e6:(qaq k body++r).length≠0:=by rw [e0];simp
 unfold qap;rw [if_neg e6,e1,e2];simp only [ne_eq,not_true,if_false];rw [if_neg (by omega),List.drop_left' rfl,if_neg (by simp only [List.length_append,aa];omega),e3,e4,if_pos rfl,e5,List.take_left' rfl];have :(body++(t++r)).drop (body.length+4)=r:=by
  rw [<-List.append_assoc,List.drop_left' (by simp [aa])]
 rw [this]
theorem qif (t:Int):∀l:List (Int×Int),(∀x ∈ l,x.1<=x.2)->l.Pairwise (fun a b=>a.2<=b.1)->
  l.length<=l.countP (fun x=>decide (x.1<=t))+l.countP (fun x=>decide (t<x.2))∧l.countP (fun x=>decide (x.1<=t))+l.countP (fun x=>decide (t<x.2))<=l.length+1∧l.countP (fun x=>decide (x.1<=t) && decide (t<x.2))<=1
 | [],_,_=>by simp
 | x :: l, h1, h2 => by
   have hx:=h1 x List.mem_cons_self;obtain ⟨h3,h4⟩:=List.pairwise_cons.1 h2;obtain ⟨i1,i2,i3⟩:=qif t l (fun y hy=>h1 y (List.mem_cons_of_mem _ hy)) h4;rw [List.countP_cons,List.countP_cons,List.countP_cons,List.length_cons];by_cases ha:x.1<=t
   ·by_cases hb:t<x.2
    ·have z1:l.countP (fun x=>decide (x.1<=t))=0:=List.countP_eq_zero.2 fun y hy=>(by have :=h3 y hy;simp;omega);have z2:l.countP (fun x=>decide (x.1<=t) && decide (t<x.2))=0:=List.countP_eq_zero.2 fun y hy=>(by have :=h3 y hy;simp;omega);have z3:l.countP (fun x=>decide (t<x.2))<=l.length:=List.countP_le_length;simp only [ha,hb,decide_true,Bool.and_true,if_true];omega
    ·simp only [ha,hb,decide_true,decide_false,Bool.and_false,if_true,if_false,Bool.false_eq_true];omega
   ·have hb:t<x.2:=(by omega);simp only [ha,hb,decide_true,decide_false,Bool.false_and,if_true,if_false,Bool.false_eq_true];omega
end Go.Proofs.YtnkelahimiipjaaGreatDoor
namespace Go.Proofs.YtnkelahimiipjaaGreatDoor
open Go.RowKit
def EB:Enc Nat:=⟨1,fun n=>[.int .u8 (n:Int)],fun _=>rfl,fun x u hu=>by simp at hu;subst hu;rfl,by decide⟩
def EI:Enc Int:=⟨1,fun n=>[.int .i64 n],fun _=>rfl,fun x u hu=>by simp at hu;subst hu;rfl,by decide⟩
theorem qdX {w:World} {b o:Nat} {n:Nat}:CellG EB w b o n↔w.cell? ⟨b,o,none⟩=some (.int .u8 (n:Int)):=by
 constructor
 ·intro h;simpa [EB] using h 0 (by decide)
 ·intro h j hj;obtain rfl:j=0:=by have :j<1:=hj;omega
  simpa [EB] using h
theorem qfz {w:World} {b o:Nat} {n:Int}:CellG EI w b o n↔w.cell? ⟨b,o,none⟩=some (.int .i64 n):=by
 constructor
 ·intro h;simpa [EI] using h 0 (by decide)
 ·intro h j hj;obtain rfl:j=0:=by have :j<1:=hj;omega
  simpa [EI] using h
theorem qct:(Tryz.prog.info? 5).map (fun i=>(i.zero,i.size,i.bytes))=some (some (.int .u8 0),1,1):=by kernel_rfl
theorem qc5:(Tryz.prog.info? 2).map (fun i=>(i.zero,i.size,i.bytes))=some (some (.int .i64 0),1,8):=by kernel_rfl
section
variable {α :Type} {E:Enc α} {ty:TypeId} {base:Nat} {w0 w w':World} {v0 v v':Value} {l l':List α}
structure Grw (E:Enc α) (ty:TypeId) (base:Nat) (w0:World) (v0:Value) (w:World) (v:Value) (l:List α):Prop where
 own:OwnG E ty w base v l
 by_:w0.grownBy w v0.ownBlock
 loc:v.ownBlock=v0.ownBlock∨∃k,v.ownBlock=some k∧w0.heap.size<=k
theorem Grw.start (h:OwnG E ty w base v l):Grw E ty base w v w v l:=⟨h,⟨rfl,rfl,rfl,Nat.le_refl _,fun _ _ _=>rfl⟩,.inl rfl⟩
theorem Grw.push (h:Grw E ty base w0 v0 w v l) (hown:OwnG E ty w' base v' l') (hg:w.grownBy w' v.ownBlock) (hl:v'.ownBlock=v.ownBlock∨v'.ownBlock=some w.heap.size):Grw E ty base w0 v0 w' v' l':=by
 have hs:=h.by_.size;refine ⟨hown,⟨hg.os.trans h.by_.os,hg.tape.trans h.by_.tape,hg.output.trans h.by_.output,Nat.le_trans hs hg.size,fun k hk aa=> ?_⟩, ?_⟩
 ·refine (hg.block k (Nat.lt_of_lt_of_le hk hs) ?_).trans (h.by_.block k hk aa);rcases h.loc with e|⟨j,e,hj⟩
  ·rw [e];exact aa
  ·rw [e];intro e2;injection e2 with e2;omega
 ·rcases hl with e|e
  ·rw [e];exact h.loc
  ·exact .inr ⟨_,e,hs⟩
theorem Grw.on (h:Grw E ty base w0 v0 w v l) (k:Below w.heap.size w w'):Grw E ty base w0 v0 w' v l:=
 ⟨h.own.below k,⟨k.os.trans h.by_.os,k.tape.trans h.by_.tape,k.output.trans h.by_.output,Nat.le_trans h.by_.size k.size,fun i hi aa=>(k.block i (Nat.lt_of_lt_of_le hi h.by_.size)).trans (h.by_.block i hi aa)⟩,h.loc⟩
end
end Go.Proofs.YtnkelahimiipjaaGreatDoor
namespace Go.Proofs.YtnkelahimiipjaaGreatDoor
open Go.RowKit Go.Sort
theorem qgD (v:Value) (l:List Nat) (u base:Nat) (W:World) (h:OwnG EB 5 W base v l) (hb:base<=W.heap.size) (hu:u<18446744073709551616) (hl:l.length<=1000000):
  Calls Tryz.prog 65 #[v,.int .u64 (u:Int)] W fun e w'=>∃v',e=.returned v'∧Grw EB 5 base W v w' v' (l++putV u):=by
 have HG:=Lib.hid (Grw.start h);have hp:=qax 9 u (by omega);have HL:Hid (l.length+(putV u).length<=1000010):=by show _<=_;omega
 have HB:=Lib.hid hb;clear h hb hp hl;go_enter Tryz.func65,Tryz.ntmps65;go_wp2_with fail
 go_loopw [0,1] (fun bv uv wl=>∃(k:Nat) (l':List Nat),uv=.int .u64 (k:Int)∧k<18446744073709551616∧Hid (Grw EB 5 base W v wl bv l')∧Hid (l'++putV k=l++putV u))
  (fun _ uv _=>(intOf uv).toNat)
 case atStart=>exact ⟨u,l,rfl,hu,HG.out,rfl⟩
 case round=>
  obtain ⟨k,l',rfl,hk,HG,HT⟩:=hrel;have ac:l'.length+(putV k).length<=1000010:=by
   have :=congrArg List.length HT.out;rw [List.length_append,List.length_append] at this;have :=HL.out;omega
  have ag:=qdQ k;by_cases hlt:128<=k
  ·have i1:(k:Int)≥128:=(by omega);have HC:Hid ((#[.int .u8 (bits .or .u8 ((k:Int)%256) 128)]:Array Value).toList=EB.enc (k%128+128)):=by
    show [Value.int .u8 (bits .or .u8 ((k:Int)%256) 128)]=[Value.int .u8 ((k%128+128:Nat):Int)];have e:=u8_or_nat (k%256) 128 (Nat.mod_lt _ (by decide)) (by decide);rw [qqt] at e;have e2:((k%256:Nat):Int)=(k:Int)%256:=(by omega);rw [e2] at e;rw [<-e];rfl
   have af:Hid ((l'++[k%128+128])++putV (k/128)=l++putV u):=by
    show _=_;rw [<-HT.out,qbD hlt,List.append_assoc];rfl
   have ad:(l'.length+1)*1<=140737488355328:=(by omega);have HW:Hid (base<=(wr.alloc (.cells #[.int .u8 (bits .or .u8 ((k:Int)%256) 128)] 5)).heap.size):=by
    have :=HG.out.by_.size;have :=HB.out;show _<=_;simp;omega
   clear ac ag;go_wp2_with (first|(at_builtin;refine qd1 EB rfl _ _ 23 5 rfl Tryz.underlying23 qct rfl (by decide) base _ l' (k%128+128) rfl (HG.out.own.alloc _) wr.heap.size 0 1 rfl (CellG.mk HC.out _) ad HW.out ?_)|fail);intro v' w' aa hg ab;have ae:=Lib.hid ((HG.out.on ((Below.refl _ _).alloc (Nat.le_refl _) _)).push aa hg (by rw [World.size_alloc];exact ab));clear aa hg ab;go_wp2_with fail;go_roundw
   case rel=>exact ⟨k/128,l'++[k%128+128],by first|rfl|simp,by omega,ae.out,af.out⟩
   case measure=>simp [intOf];omega
  ·have i1:¬(k:Int)≥128:=(by omega);have HC:Hid ((#[.int .u8 (k:Int)]:Array Value).toList=EB.enc k):=rfl;have af:Hid (l'++[k]=l++putV u):=by
    show _=_;rw [<-HT.out,qbL (by omega)]
   have ad:(l'.length+1)*1<=140737488355328:=(by omega);have HW:Hid (base<=(wr.alloc (.cells #[.int .u8 (k:Int)] 5)).heap.size):=by
    have :=HG.out.by_.size;have :=HB.out;show _<=_;simp;omega
   clear ac ag;go_wp2_with (first|(at_builtin;refine qd1 EB rfl _ _ 23 5 rfl Tryz.underlying23 qct rfl (by decide) base _ l' k rfl (HG.out.own.alloc _) wr.heap.size 0 1 rfl (CellG.mk HC.out _) ad HW.out ?_)|fail);intro v' w' aa hg ab;have ae:=Lib.hid ((HG.out.on ((Below.refl _ _).alloc (Nat.le_refl _) _)).push aa hg (by rw [World.size_alloc];exact ab));clear aa hg ab;go_wp2_with fail;go_ret;exact ⟨_,rfl,by rw [<-af.out];exact ae.out⟩
theorem qa2 (v:Value) (l:List Nat) (W:World) (hR:RdG EB W W.heap.size v l) (hl:l.length<=140737488355328):
  Calls Tryz.prog 66 #[v] W fun e w'=>∃v',e=.returned v'∧OwnG EB 5 w' W.heap.size v' l∧Below W.heap.size W w':=by
 have q22:∀(w:World) (a:Option Addr) (n c n' c':Nat),(binOp .eql 23 (.slice a n c) (.slice none n' c')).run Tryz.prog w=.ok (.bool a.isNone) w:=fun w a n c n' c'=>Lib.run_eql_slice_nil w _ _ a n c n' c' Tryz.underlying23;have HR:=Lib.hid hR;obtain ⟨A,c,rfl,hc,ab,hA⟩:=hR;cases A with
 | none =>
   have ac:=ab rfl;subst ac;have ae:l=[]:=List.eq_nil_of_length_eq_zero (by omega);subst ae;go_enter Tryz.func66,Tryz.ntmps66;go_wp2_with fail;go_ret;exact ⟨_,rfl,OwnG.nil _ _,Below.refl _ _⟩
 | some ad =>
   have HL:=Lib.hid hl;have hO:OwnG EB 5 (W.alloc (.cells #[] 5)) W.heap.size (.slice (some ⟨W.heap.size,0,none⟩) 0 0) []:=World.ownsRow_made W #[] 0 (Nat.le_refl _) (Nat.zero_le _) rfl;have HO:=Lib.hid hO;clear hA ab hO hl;go_enter Tryz.func66,Tryz.ntmps66;go_wp2_with (first|(at_builtin;refine qhS EB rfl _ _ 23 5 rfl Tryz.underlying23 qct rfl (by decide) W.heap.size _ [] _ l W.heap.size rfl HO.out rfl (HR.out.below ((Ext.refl W).alloc _).below) ?c1 ?c2 ?_)|fail)
   case c1=>have :=HL.out;simp;omega
   case c2=>simp
   ·intro v' w3 aa hg af;go_wp2_with fail;go_ret;exact ⟨_,rfl,aa,((Below.refl W.heap.size W).alloc (Nat.le_refl _) _).grown hg (by simp) (by intro k hk;simp [Value.ownBlock] at hk;omega)⟩
theorem qbo (v:Value) (l:List Nat) (u:Nat) (W:World) (hR:RdG EB W W.heap.size v l) (hu:u<18446744073709551616) (hl:l.length<=1000000):
  Calls Tryz.prog 35 #[v,.int .u64 (u:Int)] W fun e w'=>∃v',e=.returned v'∧OwnG EB 5 w' W.heap.size v' (l++putV u)∧Below W.heap.size W w':=by
 have KC:=Lib.hid (qa2 v l W hR (by omega));have HU:=Lib.hid hu;have HL:=Lib.hid hl;obtain ⟨A,c,rfl,_,_,_⟩:=hR;clear hu hl;go_enter Tryz.func35,Tryz.ntmps35;go_wp2_with fail;refine KC.out.mono ?_;rintro e w1 ⟨v1,rfl,hO,hB⟩;have KP:=Lib.hid (qgD v1 l u W.heap.size w1 hO hB.size HU.out HL.out);have HB:=Lib.hid hB;have HO:=Lib.hid hO;clear hO hB KC;go_wp2_with fail;refine KP.out.mono ?_;rintro e w2 ⟨v2,rfl,hG⟩;have HG:=Lib.hid hG;clear hG KP;go_wp2_with fail;go_ret;exact ⟨_,rfl,HG.out.own,HO.out.step HB.out HB.out.size HG.out.by_⟩
end Go.Proofs.YtnkelahimiipjaaGreatDoor
