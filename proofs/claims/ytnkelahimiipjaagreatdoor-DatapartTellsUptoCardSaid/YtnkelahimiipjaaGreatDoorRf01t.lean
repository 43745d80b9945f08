import Derived.Test.YtnkelahimiipjaaGreatDoorRfBaset
set_option maxRecDepth 100000
set_option maxHeartbeats 8000000
namespace Go.Proofs.YtnkelahimiipjaaGreatDoor
open Go.RowKit Go.Sort
theorem qlz (s:ByteArray) (n m:Nat) (B V W:Nat->Nat) (w:World) (N:Numeral s 0 n 1 m B V W) (hW:V n≠0) (hE:B (0+n+1)=45):
  Calls Tryz.prog 218 #[.string s] w fun e w'=>e=.returned (.tuple #[.int .u64 (V n),.int .i64 (-(W m:Int)),.bool false,.bool false,.bool false,.int .i64 s.size,.bool true])∧w=w':=by
 have ai:=N.size;have aw:=N.n1;have a7:=N.n2;have a0:=N.m1;have a1:=N.m2;have af:0<s.size:=by omega
 have ax:¬s=ByteArray.empty:=by rintro rfl;simp at af
 have a5:(2:Int)<s.size:=by omega
 have b0:(s[0]'af).toNat=B 0:=N.byte 0 af;have d0:=N.dig 0 (by omega);have hf:=N.fst;rw [Nat.zero_add] at d0;have t1:((B 0:Int)==43)=false:=by rw [beq_eq_false_iff_ne];omega
 have t2:((B 0:Int)==45)=false:=by rw [beq_eq_false_iff_ne];omega
 have t3:((B 0:Int)==48)=false:=by rw [beq_eq_false_iff_ne];omega
 have HS:Hid (s.size=0+n+1+1+m):=ai;have HN:Hid (Numeral s 0 n 1 m B V W):=N;have HW:=Lib.hid hW;have HE:=Lib.hid hE;clear ai N hf hW hE;have az:s.size<=100:=by have :=HS.out;omega
 go_enter Tryz.func218,Tryz.ntmps218;go_wp2_with fail
 go_step3
 go_wp2_with fail
 go_step3
 go_wp2_with fail
 go_loop [2,5,7,9,13,14,15,16,17] (fun v2 v5 v7 v9 v13 v14 v15 v16 v17=>∃i k:Nat,Hid (i=0+k)∧k<=n∧v2=.int .u64 (V k)∧v5=.bool false∧v7=.int .i64 i∧v9=.bool false∧v13=.bool false∧v14=.bool (decide (0<k))∧v15=.int .i64 k∧v16=.int .i64 k∧v17=.int .i64 0)
  (fun _ _ v7 _ _ _ _ _ _=>100-(intOf v7).toNat)
 case atStart=>exact ⟨0,0,rfl,Nat.zero_le _,by rw [HN.out.v0];rfl,rfl,by go_num,rfl,rfl,rfl,rfl,rfl,rfl⟩
 case round=>
  obtain ⟨i,k,aa,hk,rfl,rfl,rfl,rfl,rfl,rfl,rfl,rfl,rfl⟩:=hrel;have ah:i<s.size:=by have :=HS.out;have :=aa.out;omega
  have an:(i:Int)<s.size:=by omega
  have bk:(s[i]'ah).toNat=B i:=HN.out.byte i ah;by_cases hlt:k<n
  ·have dk:48<=B i∧B i<=57:=(by rw [aa.out];exact HN.out.dig k hlt);have vk:=HN.out.v2 k hk;have ak:Hid (V (k+1)=V k*10+(B i-48)):=(by show V (k+1)=_;rw [aa.out];exact HN.out.v1 k hlt);have ay:V (k+1)<=999999999999999:=HN.out.v2 (k+1) hlt;have hf:=HN.out.fst;go_wp2_with fail
   ·exfalso;have ar:((k:Int)==0)=true:=(by assumption);have au:(B i:Int)=48:=(by assumption);rw [beq_iff_eq] at ar;have :i=0:=(by have :=aa.out;omega);subst this;omega
   all_goals
    go_round
    case rel=>exact ⟨i+1,k+1,by show i+1=_;rw [aa.out];omega,by omega,congrArg (Value.int .u64) (by rw [ak.out];omega),rfl,by go_num,rfl,rfl,by simp,by go_num,by go_num,rfl⟩
    case measure=>simp [intOf];omega
  ·have aj:k=n:=(by omega);subst aj;have be:B i=101:=(by rw [aa.out];exact HN.out.e);rw [be] at bk;clear be;have am:((i:Int)+1)<s.size:=(by have :=HS.out;have :=aa.out;omega);have ab:i+1<s.size:=(by omega);have bq:(s[i+1]'ab).toNat=B (i+1):=HN.out.byte (i+1) ab;have a2:=HN.out.v2 k hk;have hd:decide (0<k)=true:=(by simp;omega);have ao:i<=20:=(by have :=aa.out;omega);have bq45:B (i+1)=45:=(by rw [aa.out];exact HE.out);rw [bq45] at bq;have al:((i:Int)+1+1)<s.size:=(by have :=HS.out;have :=aa.out;omega);have ac:i+1+1<s.size:=(by omega);have br:(s[i+1+1]'ac).toNat=B (i+2):=HN.out.byte (i+2) ac;have dr:48<=B (i+2)∧B (i+2)<=57:=by
    have :=HN.out.edig 0 (by omega);rw [aa.out];simpa using this
   clear bq45;go_wp2_with (go_at_call 235;refine (qbf _).mono ?_;rintro e w' ⟨rfl,rfl⟩);have a3:=HW.out;have a4:((V k:Int) != 0)=true:=(by rw [bne_iff_ne];omega);clear bq br dr am ab al ac bk hlt
   go_loop [7,9,20] (fun v7 v9 v20=>∃q j:Nat,Hid (q=i+1+1+j)∧j<=m∧v7=.int .i64 q∧v9=.bool false∧v20=.int .i64 (W j)) (fun v7 _ _=>100-(intOf v7).toNat)
   case atStart=>exact ⟨i+1+1,0,rfl,Nat.zero_le _,by go_num,rfl,by rw [HN.out.w0];rfl⟩
   case round=>
    obtain ⟨q,j,ad,av,rfl,rfl,rfl⟩:=hrel;have a6:=HN.out.w2 j av;by_cases hj:j<m
    ·have ae:q<s.size:=(by have :=HS.out;have :=ad.out;have :=aa.out;omega);have aq:(q:Int)<s.size:=(by omega);have bi:(s[q]'ae).toNat=B q:=HN.out.byte q ae;have di:48<=B q∧B q<=57:=(by have :=HN.out.edig j hj;rw [ad.out,aa.out];exact this);have wj1:Hid (W (j+1)=W j*10+(B q-48)):=(by have :=HN.out.w1 j hj;show W (j+1)=_;rw [ad.out,aa.out];exact this);have ap:=HN.out.w2 (j+1) hj;have n95:((B q:Int)==95)=false:=(by rw [beq_eq_false_iff_ne];omega);go_wp2_with fail
     go_round
     case rel=>exact ⟨q+1,j+1,by show q+1=_;rw [ad.out];omega,hj,by go_num,rfl,congrArg (Value.int .i64) (by rw [wj1.out];omega)⟩
     case measure=>simp [intOf];omega
    ·have ag:j=m:=(by omega);subst ag;have ae:q=s.size:=(by have :=HS.out;have :=ad.out;have :=aa.out;omega);subst ae;go_wp2_with fail;refine bodyPost_ret (v:=.tuple #[.int .u64 (V k),.int .i64 (-(W j:Int)),.bool false,.bool false,.bool false,.int .i64 s.size,.bool true]) ?_ rfl ⟨rfl,rfl⟩;simp [results,Tryz.results218,go_sem];omega
end Go.Proofs.YtnkelahimiipjaaGreatDoor
