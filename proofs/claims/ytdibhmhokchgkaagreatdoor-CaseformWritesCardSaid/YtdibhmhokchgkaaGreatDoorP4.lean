/- A part of the proof; each theorem says what it holds. -/
import Derived.Laws.BitsLemmas
import Derived.Laws.RangeAny
import Derived.Laws.RangeString
import Derived.Lib.ItoaLen
import Derived.Lib.AtoiAllCases
import Derived.Lib.IndexMore
import Derived.Lib.IndexLaws
import Derived.Test.YtdibhmhokchgkaaGreatDoorP3
set_option linter.unusedVariables false
set_option linter.defProp false
set_option linter.unusedSimpArgs false
open Nat (ble beq)
open List (take drop replicate)
open Go.IntKind (wrap)
namespace Gx.Cf
open Go Go.Proofs
section
variable{R:Type}
def TY(c:CaseD):Prop:=∃(H:Nat)(res:List Int)(bs:List BusD)(ls:List LineD)(us:List UnitD)(ss:List StoreD)(ts:List TieD)(os:List OutD),
 BaseG H res bs ls us ss ts/\OutsG ls.length us.length os/\(os=[]\/In (kE true H res bs ls us ss ts os)=none)/\c=kE false H res bs ls us ss ts os
def Avj{N:Nat}{l:List Int}{o:Bool}(hN:4096<=N)(e:l.length<=9223372036854775807){H:Nat}{res:List Int}{bs:List BusD}{ls:List LineD}{us:List UnitD}{ss:List StoreD}{ts:List TieD}(b:BaseG H res bs ls us ss ts)(k:Nat)(f:k<=l.length):
  ∃ c,TY c/\∀ K:LA->O R,WU N K (Av l) l.length o (H:Int) res.length bs.length ls.length us.length ss.length (Av res) (bs.flatMap BusD.av) (ls.flatMap LineD.av) (us.flatMap UnitD.av) (ss.flatMap StoreD.av) (k:Int) ts.length (ts.flatMap TieD.av)=K c.av:=by
 obtain⟨y,j,y0,y1,d,m⟩:=nx (R:=R) (N:=N) (t:=false) (o:=o) e 4 (by omega) (by omega) k f
 obtain⟨n,hn⟩:∃ n:Nat,y=(n:Int):=⟨y.toNat,by omega⟩
 subst hn
 obtain⟨os,a1,a2,a3⟩:=Ak9 (R:=R) (o:=o) hN e b n N j [] (by omega) d (by simp;omega) ⟨by simp,by simp⟩ (.inl rfl)
 refine⟨_,⟨H,res,bs,ls,us,ss,ts,os,b,a1,a2,rfl⟩,fun K=>?_⟩
 unfold WU dV
 rw[m]
 simpa using a3 K
def Avk{N:Nat}{l:List Int}{o:Bool}(hN:4096<=N)(n:l.length<=9223372036854775807){H:Nat}{res:List Int}{bs:List BusD}{ls:List LineD}{us:List UnitD}{ss:List StoreD}(b:BaseG H res bs ls us ss [])(k:Nat)(T:k<=l.length):
  ∃ c,TY c/\∀ K:LA->O R,KE N K (bs.length:Int) (Av l) l.length o (H:Int) res.length bs.length ls.length us.length (Av res) (bs.flatMap BusD.av) (ls.flatMap LineD.av) (us.flatMap UnitD.av) (k:Int) ss.length (ss.flatMap StoreD.av)=K c.av:=by
 have Y:=b.bl;have hH:=b.h
 obtain⟨y50,u,y500,y501,f,j⟩:=nx (R:=R) (N:=N) (t:=false) (o:=o) n 3 (by omega) (by omega) k T
 by_cases S:y50=2
 ·have z:(y50==2)=true:=by simpa using S
  obtain⟨y52,A,y520,y521,v,y⟩:=nx (R:=R) (N:=N) (t:=false) (o:=o) n (bs.length:Int) (by omega) (by omega) u f
  obtain⟨B1,U,d,B,C,hB1⟩:=LU (R:=R) (N:=N) (m:=H) (t:=false) (o:=o) (by omega) n 12 (by omega) (by omega) (by omega) A v
  obtain⟨B2,V,q,D,F,hB2⟩:=LU (R:=R) (N:=N) (m:=H) (t:=false) (o:=o) (by omega) n 12 (by omega) (by omega) (by omega) U C
  obtain⟨B3,X,s,G,I,hB3⟩:=LU (R:=R) (N:=N) (m:=H) (t:=false) (o:=o) (by omega) n 40 (by omega) (by omega) (by omega) V F
  obtain⟨c,L,M⟩:=Avj (R:=R) (o:=o) hN n (ts:=[⟨[116,48],y52,.of B1 false false,.of B2 false false,.of B3 false false⟩]) ⟨b.h,b.rl,b.rr,b.bl,b.bg,b.ll,b.lg,b.ul,b.ug,b.sl,b.sg,by simp,by
   intro x hx;simp at hx;subst hx
   exact⟨rfl,⟨y520,y521⟩,d,B,q,D,s,G⟩⟩ X I
  refine⟨c,L,fun K=>?_⟩
  unfold KE NR
  rw[j,z,ct,y,hB1,hB2,hB3,Rs d.symm,Rs q.symm,Rs s.symm,<-M K,<-d]
  simp only[d]
  have e:List.flatMap TieD.av [⟨[116,48],y52,.of B1 false false,.of B2 false false,.of B3 false false⟩]=[.str ([116,48]:Lu),.int .i64 y52,.imm (B1.flatMap O9) H 1 false false,.imm (B2.flatMap O9) H 1 false false,.imm (B3.flatMap O9) H 1 false false]:=by
   simp[TieD.av,Sl.av,d,q,s]
  rw[e];rfl
 ·have z:(y50==2)=false:=by simpa using S
  obtain⟨c,L,M⟩:=Avj (R:=R) (o:=o) hN n b u f
  refine⟨c,L,fun K=>?_⟩
  unfold KE NR
  rw[j,z,cf,<-M K];rfl
def Avl{N:Nat}{l:List Int}{o:Bool}(hN:4096<=N)(d:l.length<=9223372036854775807){H:Nat}{res:List Int}{bs:List BusD}{ls:List LineD}(h:1<=H/\H<=3)(rl:res.length=H)(rr:∀ x∈res,0<=x/\x<5)(bl:1<=bs.length/\bs.length<=4)(bg:∀ i (h:i<bs.length),BusG i H bs[i])(ll:ls.length<=7)(lg:∀ i (h:i<ls.length),LineH bs.length i H ls[i]):
  ∀(n fuel k:Nat)(us:List UnitD),n<fuel->k<=l.length->us.length+n<=3->1<=us.length+n->(∀ i (h:i<us.length),UnitG i bs.length H us[i]) ->
  ∃ c,TY c/\∀ K:LA->O R,Qt N K (bs.length:Int) (Av l) l.length o (H:Int) res.length bs.length (Av res) (bs.flatMap BusD.av) fuel (n:Int) (k:Int) ls.length us.length (ls.flatMap LineD.av) (us.flatMap UnitD.av)=K c.av
| 0,fuel+1,k,us,_,T,hn,U,ug=>by
  obtain⟨y34,j,y340,y341,e,f⟩:=nx (R:=R) (N:=N) (t:=false) (o:=o) d 3 (by omega) (by omega) k T
  by_cases h2:y34=2
  ·have V:(y34==2)=true:=by simpa using h2
   obtain⟨y36,X,y360,y361,m,q⟩:=nx (R:=R) (N:=N) (t:=false) (o:=o) d (bs.length:Int) (by omega) (by omega) j e
   obtain⟨y38,Y,y380,y381,s,v⟩:=nx (R:=R) (N:=N) (t:=false) (o:=o) d 20 (by omega) (by omega) X m
   obtain⟨y40,k40,y400,y401,y,z⟩:=nx (R:=R) (N:=N) (t:=false) (o:=o) d 8 (by omega) (by omega) Y s
   obtain⟨y42,k42,y420,y421,A,B⟩:=nx (R:=R) (N:=N) (t:=false) (o:=o) d 8 (by omega) (by omega) k40 y
   obtain⟨y44,k44,y440,y441,C,D⟩:=nx (R:=R) (N:=N) (t:=false) (o:=o) d 4 (by omega) (by omega) k42 A
   obtain⟨y46,k46,y460,y461,F,G⟩:=nx (R:=R) (N:=N) (t:=false) (o:=o) d (y38+1) (by omega) (by omega) k44 C
   obtain⟨y48,k48,y480,y481,I,L⟩:=nx (R:=R) (N:=N) (t:=false) (o:=o) d (y38+1) (by omega) (by omega) k46 F
   obtain⟨c,M,S⟩:=Avk (R:=R) (o:=o) hN d (us:=us) (ss:=[⟨[115,48],y36,y38,y46,y48,y40,y42,⟨1+y44,4⟩⟩]) ⟨h,rl,rr,bl,bg,ll,lg,⟨by omega,by omega⟩,ug,by simp,by
    intro x hx;simp at hx;subst hx
    exact⟨rfl,⟨y360,y361⟩,⟨y380,y381⟩,⟨y460,by simp only;omega⟩,⟨y480,by simp only;omega⟩,⟨y400,y401⟩,⟨y420,y421⟩,by simp only;omega,by simp only;omega,rfl⟩,by simp,by simp⟩ k48 I
   refine⟨c,M,fun K=>?_⟩
   rw[Qt];unfold CN
   rw[show decide (((0:Nat):Int)>0)=false from rfl,cf,f,V,ct,q,v,z,B,D,Rr (a:=y38+1) (by omega),G,L,Rr (a:=1+y44) (by omega),<-S K]
   rfl
  ·have V:(y34==2)=false:=by simpa using h2
   obtain⟨c,M,S⟩:=Avk (R:=R) (o:=o) hN d (us:=us) (ss:=[]) ⟨h,rl,rr,bl,bg,ll,lg,⟨by omega,by omega⟩,ug,by simp,by simp,by simp,by simp⟩ j e
   refine⟨c,M,fun K=>?_⟩
   rw[Qt];unfold CN
   rw[show decide (((0:Nat):Int)>0)=false from rfl,cf,f,V,cf,<-S K]
   rfl
|n+1,fuel+1,k,us,hf,T,hn,U,ug=>by
  obtain⟨u,k1,gu,hk1,hu⟩:=sO (R:=R) (N:=N) (t:=false) (o:=o) (by omega) d (i:=us.length) (by omega) (nb:=(bs.length:Int)) (H:=(H:Int)) (by omega) (by omega) k T
  obtain⟨c,M,S⟩:=Avl (o:=o) hN d h rl rr bl bg ll lg n fuel k1 (us++[u]) (by omega) hk1 (by simp;omega) (by simp;omega) (fT (P:=fun i u=>UnitG i bs.length H u) ug gu)
  refine⟨c,M,fun K=>?_⟩
  rw[Qt];unfold CN
  have wn:wrap .i64 (((n+1:Nat):Int) - 1)=(n:Int):=mz (by omega)
  have c2:(ble (us.length+1) 140737488355328&&ble ((us.length+1)*216) 140737488355328)=true:=by rw[C1,C1];simp;omega
  have c3:take (us.length*22) (us.flatMap UnitD.av)++u.av=(us++[u]).flatMap UnitD.av:=by rw[Cx Ft _ rfl];simp
  rw[show decide (((n+1:Nat):Int)>0)=true from decide_eq_true (by omega),ct,hu,show((beq (List.length u.av) 22)&&(ble 22 22))=true from rfl,ct,c2,ct,wn,<-S K,<-c3,A8y]
  rfl
def A2x{N:Nat}{l:List Int}{o:Bool}(hN:4096<=N)(s:l.length<=9223372036854775807){H:Nat}{res:List Int}{bs:List BusD}(h:1<=H/\H<=3)(rl:res.length=H)(rr:∀ x∈res,0<=x/\x<5)(bl:1<=bs.length/\bs.length<=4)(bg:∀ i (h:i<bs.length),BusG i H bs[i]):
  ∀(n fuel k:Nat)(ls:List LineD),n<fuel->k<=l.length->ls.length+n<=7->(∀ i (h:i<ls.length),LineH bs.length i H ls[i]) ->
  ∃ c,TY c/\∀ K:LA->O R,Qu N K (bs.length:Int) (Av l) l.length o (H:Int) res.length bs.length (Av res) (bs.flatMap BusD.av) fuel (n:Int) (k:Int) ls.length (ls.flatMap LineD.av)=K c.av:=by
 have fin:∀(k:Nat)(ls:List LineD),k<=l.length->ls.length<=7->(∀ i (h:i<ls.length),LineH bs.length i H ls[i])->∃ c,TY c/\∀ K:LA->O R,(Ag N (3:Int) (Av l) l.length false o (k:Int) fun y22 y23=>Qt N K (bs.length:Int) (Av l) l.length o (H:Int) res.length bs.length (Av res) (bs.flatMap BusD.av) N (wrap .i64 ((1:Int)+y22)) y23 ls.length 0 (ls.flatMap LineD.av) [])=K c.av:=by
  intro k ls q ll lg
  obtain⟨y,B,y0,y1,d,G⟩:=nx (R:=R) (N:=N) (t:=false) (o:=o) s 3 (by omega) (by omega) k q
  obtain⟨n,hn⟩:∃ n:Nat,1+y=(n:Int):=⟨(1+y).toNat,by omega⟩
  obtain⟨c,j,m⟩:=Avl (R:=R) (o:=o) hN s h rl rr bl bg ll lg n N B [] (by omega) d (by simp;omega) (by simp;omega) (by simp)
  refine⟨c,j,fun K=>?_⟩
  rw[G,Rr (a:=1+y) (by omega),hn]
  simpa using m K
 intro n
 induction n with
|zero =>
  intro fuel k ls I q hn lg
  obtain⟨c,j,m⟩:=fin k ls q (by omega) lg
  refine⟨c,j,fun K=>?_⟩
  obtain⟨fuel,rfl⟩:∃ f,fuel=f+1:=⟨fuel - 1,by omega⟩
  rw[Qu];unfold CO
  rw[show decide (((0:Nat):Int)>0)=false from rfl,<-m K]
  rfl
| succ n L =>
  intro fuel k ls I q hn lg
  obtain⟨fuel,rfl⟩:∃ f,fuel=f+1:=⟨fuel - 1,by omega⟩
  by_cases M:bs.length=1
  ·obtain⟨c,j,m⟩:=fin k ls q (by omega) lg
   refine⟨c,j,fun K=>?_⟩
   rw[Qu];unfold CO
   rw[show decide (((n+1:Nat):Int)>0)=true from decide_eq_true (by omega),show decide ((bs.length:Int)>1)=false from decide_eq_false (by omega),<-m K]
   rfl
  ·obtain⟨y26,C,y260,y261,u,v⟩:=nx (R:=R) (N:=N) (t:=false) (o:=o) s (bs.length:Int) (by omega) (by omega) k q
   obtain⟨y28,D,y280,y281,z,A⟩:=nx (R:=R) (N:=N) (t:=false) (o:=o) s ((bs.length:Int) - 1) (by omega) (by omega) C u
   have tm:∃ tx:Int,Int.tmod (y26+1+y28) (bs.length:Int)=tx/\0<=tx/\tx<(bs.length:Int)/\y26≠tx:=by
    refine⟨_,rfl,Int.tmod_nonneg _ (by omega),Bdq _ (by omega),?_⟩
    by_cases F:y26+1+y28<(bs.length:Int)
    ·rw[Int.tmod_eq_of_lt (by omega) F];omega
    ·have:Int.tmod (y26+1+y28) (bs.length:Int)=y26+1+y28 - (bs.length:Int):=by
      have e:y26+1+y28=(y26+1+y28 - (bs.length:Int))+1*(bs.length:Int):=by omega
      rw[Int.tmod_eq_emod_of_nonneg (by omega)]
      conv=>lhs;rw[e]
      rw[Int.add_mul_emod_self_right,Int.emod_eq_of_lt (by omega) (by omega)]
     rw[this];omega
   obtain⟨tx,S,t0,t1,tne⟩:=tm
   obtain⟨x,B,gx,d,hx⟩:=hE (R:=R) (N:=N) (t:=false) (o:=o) s (i:=ls.length) (by omega) y26 tx (H:=(H:Int)) (by omega) D z
   obtain⟨c,j,m⟩:=L fuel B (ls++[x]) (by omega) d (by simp;omega) (fT (P:=fun i x=>LineH bs.length i H x) lg ⟨by rw[gx.fr,gx.tx];exact gx,by rw[gx.fr];exact⟨y260,y261⟩,by rw[gx.tx];exact⟨t0,t1⟩,by rw[gx.fr,gx.tx];exact tne⟩)
   refine⟨c,j,fun K=>?_⟩
   rw[Qu];unfold CO WS
   have wn:wrap .i64 (((n+1:Nat):Int) - 1)=(n:Int):=mz (by omega)
   have T:(ble (ls.length+1) 140737488355328&&ble ((ls.length+1)*120) 140737488355328)=true:=by rw[C1,C1];simp;omega
   have U:take (ls.length*12) (ls.flatMap LineD.av)++x.av=(ls++[x]).flatMap LineD.av:=by rw[Cx Cm _ rfl];simp
   rw[show decide (((n+1:Nat):Int)>0)=true from decide_eq_true (by omega),show decide ((bs.length:Int)>1)=true from decide_eq_true (by omega)]
   simp only[beq_self_eq_true,cond_true]
   rw[v,Rr (a:=(bs.length:Int) - 1) (by omega),A,show((bs.length:Int)==0)=false from beq_eq_false_iff_ne.2 (by omega),cf,Rr (a:=y26+1) (by omega),Rr (a:=y26+1+y28) (by omega),S,hx,show((beq (List.length x.av) 12)&&(ble 12 12))=true from rfl,ct,T,ct,wn,<-m K,<-U,A8y]
   rfl
def Avm{N:Nat}{l:List Int}{o:Bool}(hN:4096<=N)(e:l.length<=9223372036854775807){H:Nat}{res:List Int}{bs:List BusD}(h:1<=H/\H<=3)(rl:res.length=H)(rr:∀ x∈res,0<=x/\x<5)(bl:1<=bs.length/\bs.length<=4)(bg:∀ i (h:i<bs.length),BusG i H bs[i]):
  ∀(m j fuel k:Nat)(ls:List LineD),j+1+m=bs.length->m<fuel->k<=l.length->ls.length=j->(∀ i (h:i<ls.length),LineH bs.length i H ls[i]) ->
  ∃ c,TY c/\∀ K:LA->O R,Zf N K (Av l) l.length o (H:Int) res.length bs.length (Av res) (bs.flatMap BusD.av) fuel (bs.length:Int) ((j+1:Nat):Int) (k:Int) ls.length (ls.flatMap LineD.av)=K c.av
|0,j,fuel+1,k,ls,B,_,q,f,lg=>by
  obtain⟨y,s,y0,y1,d,u⟩:=nx (R:=R) (N:=N) (t:=false) (o:=o) e 5 (by omega) (by omega) k q
  obtain⟨n,hn⟩:∃ n:Nat,y=(n:Int):=⟨y.toNat,by omega⟩
  subst hn
  obtain⟨c,v,z⟩:=A2x (R:=R) (o:=o) hN e h rl rr bl bg n N s ls (by omega) d (by omega) lg
  refine⟨c,v,fun K=>?_⟩
  rw[Zf];unfold NS
  rw[Gu (by omega),cf,u];exact z K
|m+1,j,fuel+1,k,ls,B,G,q,f,lg=>by
  obtain⟨y,s,y0,y1,d,u⟩:=nx (R:=R) (N:=N) (t:=false) (o:=o) e ((j+1:Nat):Int) (by omega) (by omega) k q
  obtain⟨x,C,gx,A,hx⟩:=hE (R:=R) (N:=N) (t:=false) (o:=o) e (i:=ls.length) (by omega) y ((j+1:Nat):Int) (H:=(H:Int)) (by omega) s d
  obtain⟨c,v,z⟩:=Avm (o:=o) hN e h rl rr bl bg m (j+1) fuel C (ls++[x]) (by omega) (by omega) A (by simp[f]) (fT (P:=fun i x=>LineH bs.length i H x) lg ⟨by rw[gx.fr,gx.tx];exact gx,by rw[gx.fr];omega,by rw[gx.tx];omega,by rw[gx.fr,gx.tx];omega⟩)
  refine⟨c,v,fun K=>?_⟩
  rw[Zf];unfold NS
  have D:(ble (ls.length+1) 140737488355328&&ble ((ls.length+1)*120) 140737488355328)=true:=by rw[C1,C1];simp;omega
  have F:take (ls.length*12) (ls.flatMap LineD.av)++x.av=(ls++[x]).flatMap LineD.av:=by rw[Cx Cm _ rfl];simp
  rw[F1 (by omega),ct,u,hx,show((beq (List.length x.av) 12)&&(ble 12 12))=true from rfl,ct,D,ct,B0 (by omega),<-z K,<-F,A8y]
  rfl
def Avn{N:Nat}{l:List Int}{o:Bool}(hN:4096<=N)(q:l.length<=9223372036854775807){H:Nat}{res:List Int}(h:1<=H/\H<=3)(rl:res.length=H)(rr:∀ x∈res,0<=x/\x<5):
  ∀(n fuel k:Nat)(bs:List BusD),n<fuel->k<=l.length->bs.length+n<=4->1<=bs.length+n->(∀ i (h:i<bs.length),BusG i H bs[i]) ->
  ∃ c,TY c/\∀ K:LA->O R,Nv N K (Av l) l.length o res.length (Av res) fuel (n:Int) (k:Int) (H:Int) bs.length (bs.flatMap BusD.av)=K c.av
|0,fuel+1,k,bs,_,A,hn,C,bg=>by
  obtain⟨c,f,j⟩:=Avm (R:=R) (o:=o) hN q h rl rr ⟨by omega,by omega⟩ bg (bs.length - 1) 0 N k [] (by omega) (by omega) A rfl (by simp)
  refine⟨c,f,fun K=>?_⟩
  rw[Nv];unfold CP
  rw[show decide (((0:Nat):Int)>0)=false from rfl,cf,<-j K]
  rfl
| n+1,fuel+1,k,bs,V,A,hn,C,bg=>by
  obtain⟨B,M,z,S,D,hB⟩:=LU (R:=R) (N:=N) (m:=H) (t:=false) (o:=o) (by omega) q 14 (by omega) (by omega) (by omega) k A
  obtain⟨y12,u,y120,y121,d,e⟩:=nx (R:=R) (N:=N) (t:=false) (o:=o) q 2 (by omega) (by omega) M D
  have wn:wrap .i64 (((n+1:Nat):Int) - 1)=(n:Int):=mz (by omega)
  have I:(ble (bs.length+1) 140737488355328&&ble ((bs.length+1)*48) 140737488355328)=true:=by rw[C1,C1];simp;omega
  have T:∀ s:Int,take (bs.length*3) (bs.flatMap BusD.av)++[.str [98,A7q.getD bs.length 0],.imm (B.flatMap O9) H 1 false false,.int .i64 s]=(bs++[(⟨[98,A7q.getD bs.length 0],.of B false false,s⟩:BusD)]).flatMap BusD.av:=fun s=>by
   rw[Cx Ir _ rfl];simp[BusD.av,Sl.av,z]
  have go:∀(s:Int)(kk:Nat),0<=s->s<300->kk<=l.length->∃ c,TY c/\∀ K:LA->O R,Nv N K (Av l) l.length o res.length (Av res) fuel (n:Int) (kk:Int) (H:Int) (bs.length+1) (take (bs.length*3) (bs.flatMap BusD.av)++[.str [98,A7q.getD bs.length 0],.imm (B.flatMap O9) H 1 false false,.int .i64 s])=K c.av:=by
   intro s kk U s1 F
   have gb:BusG bs.length H (⟨[98,A7q.getD bs.length 0],.of B false false,s⟩:BusD):=⟨rfl,z,S,U,s1⟩
   obtain⟨c,f,j⟩:=Avn (o:=o) hN q h rl rr n fuel kk (bs++[(⟨[98,A7q.getD bs.length 0],.of B false false,s⟩:BusD)]) (by omega) F (by simp;omega) (by simp;omega) (fT (P:=fun i x=>BusG i H x) bg gb)
   refine⟨c,f,fun K=>?_⟩
   rw[T,<-j K,A8y]
   rfl
  by_cases L:y12=1
  ·have e1:(y12==1)=true:=by simpa using L
   obtain⟨y14,G,y140,y141,v,y⟩:=nx (R:=R) (N:=N) (t:=false) (o:=o) q 200 (by omega) (by omega) u d
   obtain⟨c,f,j⟩:=go (100+y14) G (by omega) (by omega) v
   refine⟨c,f,fun K=>?_⟩
   rw[Nv];unfold CP
   rw[show decide (((n+1:Nat):Int)>0)=true from decide_eq_true (by omega),ct,V3 (by omega),hB,e,e1,ct,y,I,ct,wn,Rr (a:=100+y14) (by omega),Rs z.symm,j]
  ·have e1:(y12==1)=false:=by simpa using L
   obtain⟨c,f,j⟩:=go 0 u (by omega) (by omega) d
   refine⟨c,f,fun K=>?_⟩
   rw[Nv];unfold CP
   rw[show decide (((n+1:Nat):Int)>0)=true from decide_eq_true (by omega),ct,V3 (by omega),hB,e,e1,cf,I,ct,wn,Rs z.symm,j]
def Ala{N:Nat}{l:List Int}{n:Nat}{t o:Bool}(hn:n=l.length)(hN:4096<=N)(d:l.length<=9223372036854775807):∃ c,TY c/\∀ K:LA->O R,WV N (Av l) n t o K=K c.av:=by
 subst hn
 obtain⟨y1,u,y10,y11,e,f⟩:=nx (R:=R) (N:=N) (t:=false) (o:=o) d 3 (by omega) (by omega) 0 (by omega)
 obtain⟨H,hH⟩:∃ H:Nat,1+y1=(H:Int):=⟨(1+y1).toNat,by omega⟩
 obtain⟨B,v,s,x,j,hB⟩:=LU (R:=R) (N:=N) (m:=H) (t:=false) (o:=o) (by omega) d 5 (by omega) (by omega) (by omega) u e
 obtain⟨y6,y,y60,y61,k,q⟩:=nx (R:=R) (N:=N) (t:=false) (o:=o) d 4 (by omega) (by omega) v j
 obtain⟨m,A⟩:∃ m:Nat,1+y6=(m:Int):=⟨(1+y6).toNat,by omega⟩
 obtain⟨c,C,D⟩:=Avn (R:=R) (o:=o) hN d (H:=H) (by omega) s x m N y [] (by omega) k (by simp;omega) (by simp;omega) (by simp)
 refine⟨c,C,fun K=>?_⟩
 rw[tp];unfold nz
 rw[yT];unfold Ais
 have z:Ag N 3 (Av l) l.length false o 0=Ag (R:=R) N 3 (Av l) l.length false o ((0:Nat):Int):=rfl
 rw[z,f,Rr (a:=1+y1) (by omega),hH,hB,q,Rr (a:=1+y6) (by omega),A,<-D K,s]
 rfl
def Dq(c:CaseD)(p:C7)(k i:Int):LA:=c.av++RO p k i
def Oe{N:Nat}{c:CaseD}{p:C7}{k i d j:Int}{w:Bool}{K:Bool->LA->O R}:
  dW N d j w (Dq c p k i) K=K w (Dq c p d j):=by
 rw[Agi];unfold Asu
 rcases p with _|⟨⟨a,b,f⟩,e,l⟩
 ·simp[Dq,CaseD.av,RO,A7,C3,C1,MI]
 ·have:(e==0)=false:=by simpa using l
  simp[Dq,CaseD.av,RO,A7,this]
def Ax{N:Nat}{c:CaseD}{p:C7}{k i f e:Int}{ok w:Bool}{K:Bool->LA->O R}(j:e≠0):
  A8 N ok f e w (Dq c p k i) K=K w (Dq c (nd p ok (k,i,f) ⟨e,j⟩) k i):=by
 rw[tq];unfold zQ
 rcases p with _|⟨⟨a,b,m⟩,l,d⟩
 ·cases ok<;>simp[Dq,CaseD.av,RO,A7,nd,C1,MI]
 ·have:(l==0)=false:=by simpa using d
  simp[Dq,CaseD.av,RO,A7,nd,this]
def Gj{N:Nat}{c:CaseD}{p:C7}{k i f n lo hi:Int}{w:Bool}{K:Bool->LA->O R}:
  Bg N f n lo hi w (Dq c p k i) K=K w (Dq c (nd p (Fv lo hi n) (k,i,f) ⟨3,by decide⟩) k i):=by
 rw[jh];unfold lS
 rw[Ax (by decide),Ax (by decide)]
 unfold Fv
 cases h:decide (n>=lo)with
|true=>simp at h;simp[h]
|false=>simp at h;simp[show ¬ lo<=n by omega]
def PF{N:Nat}{l:List Int}{t o:Bool}{K:Bool->O R}(hs:l.length<4611686018427387904):∀(m j fuel:Nat),j+1+m=l.length->m<fuel ->
  Gr N K (Av l) l.length t o fuel ((j+1:Nat):Int)=K (gM (l.drop j))
|0,j,fuel+1,e,_=>by
  rw[Gr];unfold Ml
  rw[Gu (by omega),cf,Cj (by omega),Dm (by omega),VY]
| m+1,j,fuel+1,e,f=>by
  rw[Gr];unfold Ml
  have h:j+1<l.length:=by omega
  have h':j<l.length:=by omega
  rw[F1 h,ct,Ab h,ct,Xx h,mz (by omega),Ab h',ct,Xx h',B0 (by omega),PF hs m (j+1) fuel (by omega) (by omega),Cj h',Cj h,Yz]
  by_cases d:l[j+1]<=l[j]
  ·have:¬ l[j]<l[j+1]:=by omega
   simp[d,this]
  ·have:l[j]<l[j+1]:=by omega
   simp[d,this]
def Xl{N:Nat}{l:List Int}{n:Nat}{t o:Bool}{K:Bool->O R}(hn:n=l.length)(hs:Gn l.length N):Ny N (Av l) n t o K=K (gM l):=by
 subst hn
 rw[SU];unfold BB
 rcases l with _|⟨a,r⟩
 ·have hN:=hs.1
  rcases N with _|N
  ·simp at hN
  ·rw[Gr];unfold Ml;simp[mw]
 ·have:=PF (R:=R) (N:=N) (t:=t) (o:=o) (K:=K) hs.2 r.length 0 N (by simp;omega) (by have:=hs.1;simp at this;omega)
  simpa using this
def LV{N:Nat}{v:Int}{l:List Int}{t o:Bool}{K:Int->O R}(hs:l.length<4611686018427387904):∀(m j fuel:Nat),j+m=l.length->m<fuel ->
  ∃ r:Int,(decide (r>=0)=(l.drop j).contains v)/\Cw N K (Av l) l.length t o v fuel (l.length:Int) (j:Int)=K r
|0,j,fuel+1,d,_=>by
  rw[Cw];unfold Gz
  rw[Gu (by omega),cf,Dm (by omega)];exact⟨-1,by simp,rfl⟩
|m+1,j,fuel+1,d,e=>by
  rw[Cw];unfold Gz
  have h:j<l.length:=by omega
  rw[F1 h,ct,Ab h,ct,Xx h,B0 (by omega),Cj h,Bb9]
  cases f:v==l[j]with
  |true=>exact⟨j,by simp,rfl⟩
  |false=>simpa using LV hs m (j+1) fuel (by omega) (by omega)
def kF{N:Nat}{v:Int}{l:List Int}{n:Nat}{t o:Bool}{K:Bool->O R}(hn:n=l.length)(hs:Gn l.length N):Fd N (Av l) n t o v K=K (l.contains v):=by
 subst hn
 rw[Oy];unfold Kl
 rw[Sz];unfold I0
 obtain⟨r,d,e⟩:=LV (R:=R) (N:=N) (v:=v) (t:=false) (o:=o) (K:=fun y1=>K (decide (y1>=0))) hs.2 l.length 0 N (by omega) hs.1
 simp only[A9f]at d
 rw[<-d]
 simpa using e
def Alb{N:Nat}{v:Int}{K:O R}(hN:8<=N):Fx N v K=K:=by
 rw[Lz];unfold Im
 rw[Oz];unfold G0
 rcases N with _|N
 ·omega
 ·rw[D3];unfold Il;rfl
def Mp{c:CaseD}{p:C7}{k i:Int}{f:Int->O R}:As .i64 (drop 11 (Dq c p k i)) f=f (B5 p):=by rcases p with _|⟨⟨a,b,d⟩,e,j⟩<;>simp[Dq,CaseD.av,RO,A7,B5]
def sT{c:CaseD}{k i:Int}{f:Int->O R}:As .i64 (drop 9 (Dq c none k i)) f=f i:=by simp[Dq,CaseD.av,RO,A7]
def pj{c:CaseD}{p:C7}{k i:Int}{f:Int->O R}:As .i64 (Dq c p k i) f=f c.hours:=by simp[Dq,CaseD.av,A7]
def Atw{c:CaseD}{p:C7}{k i:Int}{f:LA->Nat->O R}:Bh 1 (drop 1 (Dq c p k i)) f=f (Av c.reserve.l) c.reserve.l.length:=by simp[Dq,CaseD.av,Cq,By]
def pk{c:CaseD}{p:C7}{k i:Int}{f:LA->Nat->O R}:Bh 3 (drop 2 (Dq c p k i)) f=f (c.buses.l.flatMap BusD.av) c.buses.l.length:=by simp[Dq,CaseD.av,Cq]
def pm{c:CaseD}{p:C7}{k i:Int}{f:LA->Nat->O R}:Bh 12 (drop 3 (Dq c p k i)) f=f (c.lines.l.flatMap LineD.av) c.lines.l.length:=by simp[Dq,CaseD.av,Cq]
def pn{c:CaseD}{p:C7}{k i:Int}{f:LA->Nat->O R}:Bh 22 (drop 4 (Dq c p k i)) f=f (c.units.l.flatMap UnitD.av) c.units.l.length:=by simp[Dq,CaseD.av,Cq]
def sU{c:CaseD}{p:C7}{k i:Int}{f:LA->Nat->O R}:Bh 9 (drop 5 (Dq c p k i)) f=f (c.stores.l.flatMap StoreD.av) c.stores.l.length:=by simp[Dq,CaseD.av,Cq]
def Alc{c:CaseD}{p:C7}{k i:Int}{f:LA->Nat->O R}:Bh 5 (drop 6 (Dq c p k i)) f=f (c.ties.l.flatMap TieD.av) c.ties.l.length:=by simp[Dq,CaseD.av,Cq]
def xH{c:CaseD}{p:C7}{k i:Int}{f:LA->Nat->O R}:Bh 4 (drop 7 (Dq c p k i)) f=f (c.outs.l.flatMap OutD.av) c.outs.l.length:=by simp[Dq,CaseD.av,Cq]
def fU{N:Nat}{c:CaseD}{k i f lo hi:Int}{l:List Int}{t o w:Bool}{K:Bool->LA->O R}(hs:l.length<4611686018427387904):∀(m j fuel:Nat)(p:C7),j+m=l.length->m<fuel ->
  Nx N K f lo hi (Av l) l.length t o fuel (l.length:Int) (j:Int) w (Dq c p k i)=K w (Dq c (nd p ((l.drop j).all (Fv lo hi)) (k,i,f) ⟨3,by decide⟩) k i)
|0,j,fuel+1,p,d,_=>by
  rw[Nx];unfold BA
  rw[Gu (by omega),cf,Dm (by omega),A9z,Hp]
| m+1,j,fuel+1,p,d,q=>by
  rw[Nx];unfold BA
  have h:j<l.length:=by omega
  rw[F1 h,ct,Ab h,ct,Xx h,Mp,Gj,B0 (by omega),fU hs m (j+1) fuel _ (by omega) (by omega),Cj h,A9i,Sx]
  rcases p with _|⟨x,e,n⟩
  ·simp[B5]
  ·have:(e != 0)=true:=by simpa using n
   simp[B5,this,nd]
def Rt{N:Nat}{c:CaseD}{p:C7}{k i f lo hi:Int}{l:List Int}{n:Nat}{t o w:Bool}{K:Bool->LA->O R}(hn:n=l.length)(hs:Gn l.length N):
  Sg N f (Av l) n t o lo hi w (Dq c p k i) K=K w (Dq c (ZG c.hours l lo hi (k,i,f) p) k i):=by
 subst hn
 rw[ji];unfold WW
 rw[pj,Ax (by decide)]
 have:=fU (R:=R) (N:=N) (c:=c) (k:=k) (i:=i) (f:=f) (lo:=lo) (hi:=hi) (t:=t) (o:=o) (w:=w) (K:=K) hs.2 l.length 0 N (nd p ((l.length:Int)==c.hours) (k,i,f) ⟨4,by decide⟩) (by omega) hs.1
 simpa[ZG]using this
def po{N:Nat}{c:CaseD}{k i f:Int}{l:List Int}{t o w w0:Bool}{h0:LA}{K:Bool->LA->O R}(hs:Gn l.length N):∀(m j fuel:Nat)(p:C7),j+m=l.length->m<fuel ->
  U7 N K f (Av l) l.length t o w0 h0 fuel (l.length:Int) (j:Int) w (Dq c p k i)=K w (Dq c (nd (nd p ((l.drop j).all (Fv 0 (wrap .i64 (c.hours - 1)))) (k,i,f) ⟨3,by decide⟩) (gM l) (k,i,f) ⟨11,by decide⟩) k i)
|0,j,fuel+1,p,d,_=>by
  rw[U7];unfold NY
  rw[Gu (by omega),cf,Dm (by omega),A9z,Hp,Xl rfl hs,Ax (by decide)]
| m+1,j,fuel+1,p,d,s=>by
  rw[U7];unfold NY
  have h:j<l.length:=by omega
  have n:=hs.2
  rw[F1 h,ct,Ab h,ct,Xx h,Mp,pj,Gj,B0 (by omega),po hs m (j+1) fuel _ (by omega) (by omega),Cj h,A9i,Sx]
  rcases p with _|⟨x,e,q⟩
  ·simp[B5]
  ·have:(e != 0)=true:=by simpa using q
   simp[B5,this,nd]
def pp{N:Nat}{c:CaseD}{p:C7}{k i f:Int}{l:List Int}{n:Nat}{t o w:Bool}{K:Bool->LA->O R}(hn:n=l.length)(hs:Gn l.length N):
  g_ N f (Av l) n t o w (Dq c p k i) K=K w (Dq c (SA c.hours l (k,i,f) p) k i):=by
 subst hn
 rw[uA];unfold oI
 have:=po (R:=R) (N:=N) (c:=c) (k:=k) (i:=i) (f:=f) (t:=t) (o:=o) (w:=w) (w0:=w) (h0:=Dq c p k i) (K:=K) hs l.length 0 N p (by omega) hs.1
 simpa[SA]using this
def PG{N:Nat}{c:CaseD}{p:C7}{k i f b:Int}{w:Bool}{K:Bool->LA->O R}:
  eA N f b w (Dq c p k i) K=K w (Dq c (nd p (JO c b) (k,i,f) ⟨12,by decide⟩) k i):=by
 rw[zZ];unfold Aj3
 rw[pk,Ax (by decide),Ax (by decide)]
 unfold JO
 cases h:decide (b>=0)with
|true=>simp at h;simp[h]
|false=>simp at h;simp[show ¬ 0<=b by omega]
def kG{N:Nat}{f:FracD}{o:Bool}{K:Bool->O R}:KI N [.int .i64 f.num,.int .i64 f.den] o K=K (Fz f):=by
 rw[oH];unfold r_
 simp only[A9s,A9f,A7]
 unfold Fz Fv
 by_cases d:1<=f.den<;>by_cases e:f.den<=1048576<;>by_cases j:-1048576<=f.num<;>simp[d,e,j]
def pt{N:Nat}{s:Lu}{K:Bool->O R}(hs:s.length<4611686018427387904):∀(m j fuel:Nat),j+m=s.length->m<fuel ->
  Zg N K s fuel (s.length:Int) (j:Int)=K ((s.drop j).all Aw5)
|0,j,fuel+1,d,_=>by
  rw[Zg];unfold NV
  rw[Gu (by omega),cf,Dm (by omega)];rfl
| m+1,j,fuel+1,d,q=>by
  rw[Zg];unfold NV
  have h:j<s.length:=by omega
  rw[F1 h,ct,Ab h,ct,B0 (by omega),pt hs m (j+1) fuel (by omega) (by omega),Cj h,A9i,Ai4 h]
  unfold Aw5 V_
  generalize s[j].toNat=v
  generalize (s.drop (j+1)).all _=r
  by_cases e:97<=v<;>by_cases f:v<=122<;>by_cases k:48<=v<;>by_cases l:v<=57<;>by_cases n:v=95 <;>
   simp[e,f,k,l,show((v:Int)<97)↔¬ 97<=v by omega,show((v:Int)<48)↔¬ 48<=v by omega,show((122:Int)<v)↔¬ v<=122 by omega,show((57:Int)<v)↔¬ v<=57 by omega,show((v:Int) != 95)=!decide (v=95) by(by_cases v=95<;>simp_all<;>omega),n]
def El{N:Nat}{s:Lu}{K:Bool->O R}(hN:64<=N):Gc N s K=K (A1 s):=by
 rw[tv];unfold oC WX dY
 unfold A1
 by_cases d:1<=s.length
 ·by_cases e:s.length<=16
  ·have f:=pt (R:=R) (N:=N) (s:=s) (K:=K) (by omega) s.length 0 N (by omega) (by omega)
   simp only[A9f,Baa]at f
   rw[f]
   have h0:Ad 0 s.length=true:=Ab (i:=0) (by omega)
   rw[h0]
   simp only[d,e,show(decide ((s.length:Int)<1))=false by simp;omega,show(decide ((s.length:Int)>16))=false by simp;omega,decide_true,cond_true,cond_false,beq_self_eq_true]
   cases s==[99,111,114,114,101,99,116,105,118,101]
   ·unfold V_
    generalize (List.getD s 0 0).toNat=v
    by_cases j:97<=v<;>by_cases k:v<=122<;>simp[j,k,show((v:Int)<97)↔¬ 97<=v by omega,show((122:Int)<v)↔¬ v<=122 by omega]
   ·simp
  ·simp[d,e,show((s.length:Int)<1)↔¬ 1<=s.length by omega,show((16:Int)<s.length)↔¬ s.length<=16 by omega]
 ·simp[d,show((s.length:Int)<1)↔¬ 1<=s.length by omega]
end
end Gx.Cf
namespace Gx.Ct
open Go Go.Proofs Gx.Cf
section
variable{R:Type}{N:Nat}
def Dw(l:List Ar):take (l.length*1) (Au l)=Au l:=by rw[A9j,A80 (by simp[Au])]
def Jh(l:List Ar)(w:Ar):Au l++[.str w]=Au (l++[w]):=by simp[Au]
def ER{n:Nat}(h:n<=2000000000):((ble n 140737488355328)&&(ble (n*16) 140737488355328))=true:=by simp;omega
def Agy{l:List Ar}{d c:Bool}(hN:64<=N)(f:l.length<=1000000):∀(m j fuel:Nat),j+m=l.length->m<fuel ->
  ∃ v:Int,(decide (v>=0)=!(l.drop j).all A1)/\∀ K:Int->O R,A4 N K (Au l) l.length d c fuel (l.length:Int) (j:Int)=K v
|0,j,fuel+1,k,_=>by
  refine⟨-1,by rw[Eg (by omega)];rfl,fun K=>?_⟩
  rw[A4];unfold Cs
  rw[Gu (by omega),cf]
| m+1,j,fuel+1,k,n=>by
  have h:j<l.length:=by omega
  obtain⟨v,v1,v2⟩:=Agy (l:=l) (d:=d) (c:=c) hN f m (j+1) fuel (by omega) (by omega)
  have st:∀ K:Int->O R,A4 N K (Au l) l.length d c (fuel+1) (l.length:Int) (j:Int)=cond (!A1 l[j]) (K (j:Int)) (K v):=fun K=>by
   rw[A4];unfold Cs
   rw[F1 h,ct,Ab h,ct,A8z,A9j,Ju h,TB]
   unfold QI
   rw[El hN,OO (by omega),v2]
  cases e:A1 l[j]with
  |false=>exact⟨(j:Int),by rw[Ff h,A9i,e];simp,fun K=>by rw[st,e];rfl⟩
  |true=>exact⟨v,by rw[v1,Ff h,A9i,e];rfl,fun K=>by rw[st,e];rfl⟩
def Atx{l:List Ar}{n:Nat}{d c:Bool}{K:Bool->O R}(hN:1000000000<N)(hn:n=l.length)(e:l.length<=1000000):Az N (Au l) n d c K=K (!l.all A1):=by
 subst hn
 rw[H8];unfold Fe
 rw[H7];unfold C8
 obtain⟨v,v1,v2⟩:=Agy (R:=R) (N:=N) (l:=l) (d:=false) (c:=c) (by omega) e l.length 0 N (by omega) (by omega)
 refine(v2 _).trans ?_
 show K (decide (v>=0))=_
 rw[v1,A9f]
def Apy{l:List Ar}{w:Ar}{d f:Bool}(k:l.length<=1000000):∀(m j fuel:Nat),j+m=l.length->m<fuel ->
  ∃ v:Int,(decide (v>=0)=(l.drop j).contains w)/\∀ K:Int->O R,A2 N K (Au l) l.length d f w fuel (l.length:Int) (j:Int)=K v
|0,j,fuel+1,n,_=>by
  refine⟨-1,by rw[Eg (by omega)];rfl,fun K=>?_⟩
  rw[A2];unfold Br
  rw[Gu (by omega),cf]
| m+1,j,fuel+1,n,q=>by
  have h:j<l.length:=by omega
  obtain⟨v,v1,v2⟩:=Apy (l:=l) (w:=w) (d:=d) (f:=f) k m (j+1) fuel (by omega) (by omega)
  by_cases e:w=l[j]
  ·refine⟨(j:Int),by rw[Ff h,Bb9,e];simp,fun K=>?_⟩
   rw[A2];unfold Br
   rw[F1 h,ct,Ab h,ct,A8z,A9j,Ju h,show(w==l[j])=true by simpa using e,ct]
  ·refine⟨v,by rw[v1,Ff h,Bb9,show(w==l[j])=false by simpa using e,Bah],fun K=>?_⟩
   rw[A2];unfold Br
   rw[F1 h,ct,Ab h,ct,A8z,A9j,Ju h,show(w==l[j])=false by simpa using e,cf,OO (by omega),v2]
def Gt{l:List Ar}{w:Ar}{n:Nat}{d f:Bool}{K:Bool->O R}(hN:1000000000<N)(hn:n=l.length)(e:l.length<=1000000):Al N (Au l) n d f w K=K (l.contains w):=by
 subst hn
 rw[Jz];unfold Gw
 rw[Gv];unfold Dp
 obtain⟨v,v1,v2⟩:=Apy (R:=R) (N:=N) (l:=l) (w:=w) (d:=false) (f:=f) e l.length 0 N (by omega) (by omega)
 refine(v2 _).trans ?_
 show K (decide (v>=0))=_
 rw[v1,A9f]
def h_(l:List Ar)(j:Nat):take j (Au l)=Au (l.take j):=by unfold Au;rw[List.map_take]
def ES{l:List Ar}{j:Nat}(h:j<l.length):j=(l.take j).length:=(List.length_take_of_le (by omega)).symm
def sV{l:List Ar}{j:Nat}(h:j<l.length):((decide ((0:Int)<=(0:Int)))&&((decide (0<=(j:Int)))&&((decide ((j:Int)<=(l.length:Int)))&&(decide ((l.length:Int)<=(l.length:Int))))))=true:=by simp;omega
def TZ{l:List Ar}{j:Nat}(h:j<l.length):Hn (l.take j) (l.drop j)=((l.take j).contains l[j]||Hn (l.take (j+1)) (l.drop (j+1))):=by rw[Ff h,Hn,List.take_add_one,A84 h];rfl
def Avo{l:List Ar}{k7:Int->O R}{K:Int->O R}{n1 n2 n3 n4 n5:Nat}{s1 s2 s3 s4 s5:LA}{ar:Int}(hN:1000000000<N)(d:l.length<=1000000):∀(m j fuel:Nat),j+m=l.length->m<fuel ->
  Ra N k7 K l.length n1 n2 n3 n4 n5 (Au l) s1 s2 s3 s4 s5 fuel ar (l.length:Int) (j:Int)=cond (Hn (l.take j) (l.drop j)) (K 10) (k7 (wrap .i64 (ar+1)))
|0,j,fuel+1,e,_=>by
  rw[Ra];unfold HM
  rw[Gu (by omega),cf,Eg (by omega)];rfl
|m+1,j,fuel+1,e,k=>by
  rw[Ra];unfold HM
  have h:j<l.length:=by omega
  have f:=Avo (l:=l) (k7:=k7) (K:=K) (n1:=n1) (n2:=n2) (n3:=n3) (n4:=n4) (n5:=n5) (s1:=s1) (s2:=s2) (s3:=s3) (s4:=s4) (s5:=s5) (ar:=ar) hN d m (j+1) fuel (by omega) (by omega)
  rw[TZ h,F1 h,ct,Ab h,ct,A89,A8z,A9j,Ju h,sV h,ct,h_,Gt hN (ES h) (by rw[<-ES h];omega),OO (by omega),f]
  cases (l.take j).contains l[j]<;>rfl
def Apz{l:List Ar}{k7:Int->O R}{K:Int->O R}{n1 n2 n3 n4 n5:Nat}{s1 s2 s3 s4 s5:LA}{ar:Int}(hN:1000000000<N)(d:l.length<=1000000):∀(m j fuel:Nat),j+m=l.length->m<fuel ->
  N2 N k7 K l.length n1 n2 n3 n4 n5 (Au l) s1 s2 s3 s4 s5 fuel ar (l.length:Int) (j:Int)=cond (Hn (l.take j) (l.drop j)) (K 10) (k7 (wrap .i64 (ar+1)))
|0,j,fuel+1,e,_=>by
  rw[N2];unfold BH
  rw[Gu (by omega),cf,Eg (by omega)];rfl
|m+1,j,fuel+1,e,k=>by
  rw[N2];unfold BH
  have h:j<l.length:=by omega
  have f:=Apz (l:=l) (k7:=k7) (K:=K) (n1:=n1) (n2:=n2) (n3:=n3) (n4:=n4) (n5:=n5) (s1:=s1) (s2:=s2) (s3:=s3) (s4:=s4) (s5:=s5) (ar:=ar) hN d m (j+1) fuel (by omega) (by omega)
  rw[TZ h,F1 h,ct,Ab h,ct,A89,A8z,A9j,Ju h,sV h,ct,h_,Gt hN (ES h) (by rw[<-ES h];omega),OO (by omega),f]
  cases (l.take j).contains l[j]<;>rfl
def Ap0{l:List Ar}{k7:Int->O R}{K:Int->O R}{n1 n2 n3 n4 n5:Nat}{s1 s2 s3 s4 s5:LA}{ar:Int}(hN:1000000000<N)(d:l.length<=1000000):∀(m j fuel:Nat),j+m=l.length->m<fuel ->
  N3 N k7 K l.length n1 n2 n3 n4 n5 (Au l) s1 s2 s3 s4 s5 fuel ar (l.length:Int) (j:Int)=cond (Hn (l.take j) (l.drop j)) (K 10) (k7 (wrap .i64 (ar+1)))
|0,j,fuel+1,e,_=>by
  rw[N3];unfold BI
  rw[Gu (by omega),cf,Eg (by omega)];rfl
|m+1,j,fuel+1,e,k=>by
  rw[N3];unfold BI
  have h:j<l.length:=by omega
  have f:=Ap0 (l:=l) (k7:=k7) (K:=K) (n1:=n1) (n2:=n2) (n3:=n3) (n4:=n4) (n5:=n5) (s1:=s1) (s2:=s2) (s3:=s3) (s4:=s4) (s5:=s5) (ar:=ar) hN d m (j+1) fuel (by omega) (by omega)
  rw[TZ h,F1 h,ct,Ab h,ct,A89,A8z,A9j,Ju h,sV h,ct,h_,Gt hN (ES h) (by rw[<-ES h];omega),OO (by omega),f]
  cases (l.take j).contains l[j]<;>rfl
def Ap1{l:List Ar}{k7:Int->O R}{K:Int->O R}{n1 n2 n3 n4 n5:Nat}{s1 s2 s3 s4 s5:LA}{ar:Int}(hN:1000000000<N)(d:l.length<=1000000):∀(m j fuel:Nat),j+m=l.length->m<fuel ->
  N4 N k7 K l.length n1 n2 n3 n4 n5 (Au l) s1 s2 s3 s4 s5 fuel ar (l.length:Int) (j:Int)=cond (Hn (l.take j) (l.drop j)) (K 10) (k7 (wrap .i64 (ar+1)))
|0,j,fuel+1,e,_=>by
  rw[N4];unfold BJ
  rw[Gu (by omega),cf,Eg (by omega)];rfl
|m+1,j,fuel+1,e,k=>by
  rw[N4];unfold BJ
  have h:j<l.length:=by omega
  have f:=Ap1 (l:=l) (k7:=k7) (K:=K) (n1:=n1) (n2:=n2) (n3:=n3) (n4:=n4) (n5:=n5) (s1:=s1) (s2:=s2) (s3:=s3) (s4:=s4) (s5:=s5) (ar:=ar) hN d m (j+1) fuel (by omega) (by omega)
  rw[TZ h,F1 h,ct,Ab h,ct,A89,A8z,A9j,Ju h,sV h,ct,h_,Gt hN (ES h) (by rw[<-ES h];omega),OO (by omega),f]
  cases (l.take j).contains l[j]<;>rfl
def Ap2{l:List Ar}{k7:Int->O R}{K:Int->O R}{n1 n2 n3 n4 n5:Nat}{s1 s2 s3 s4 s5:LA}{ar:Int}(hN:1000000000<N)(d:l.length<=1000000):∀(m j fuel:Nat),j+m=l.length->m<fuel ->
  N5 N k7 K l.length n1 n2 n3 n4 n5 (Au l) s1 s2 s3 s4 s5 fuel ar (l.length:Int) (j:Int)=cond (Hn (l.take j) (l.drop j)) (K 10) (k7 (wrap .i64 (ar+1)))
|0,j,fuel+1,e,_=>by
  rw[N5];unfold BK
  rw[Gu (by omega),cf,Eg (by omega)];rfl
|m+1,j,fuel+1,e,k=>by
  rw[N5];unfold BK
  have h:j<l.length:=by omega
  have f:=Ap2 (l:=l) (k7:=k7) (K:=K) (n1:=n1) (n2:=n2) (n3:=n3) (n4:=n4) (n5:=n5) (s1:=s1) (s2:=s2) (s3:=s3) (s4:=s4) (s5:=s5) (ar:=ar) hN d m (j+1) fuel (by omega) (by omega)
  rw[TZ h,F1 h,ct,Ab h,ct,A89,A8z,A9j,Ju h,sV h,ct,h_,Gt hN (ES h) (by rw[<-ES h];omega),OO (by omega),f]
  cases (l.take j).contains l[j]<;>rfl
def Ap3{l:List Ar}{k7:Int->O R}{K:Int->O R}{n1 n2 n3 n4 n5:Nat}{s1 s2 s3 s4 s5:LA}{ar:Int}(hN:1000000000<N)(d:l.length<=1000000):∀(m j fuel:Nat),j+m=l.length->m<fuel ->
  N6 N k7 K l.length n1 n2 n3 n4 n5 (Au l) s1 s2 s3 s4 s5 fuel ar (l.length:Int) (j:Int)=cond (Hn (l.take j) (l.drop j)) (K 10) (k7 (wrap .i64 (ar+1)))
|0,j,fuel+1,e,_=>by
  rw[N6];unfold BL
  rw[Gu (by omega),cf,Eg (by omega)];rfl
|m+1,j,fuel+1,e,k=>by
  rw[N6];unfold BL
  have h:j<l.length:=by omega
  have f:=Ap3 (l:=l) (k7:=k7) (K:=K) (n1:=n1) (n2:=n2) (n3:=n3) (n4:=n4) (n5:=n5) (s1:=s1) (s2:=s2) (s3:=s3) (s4:=s4) (s5:=s5) (ar:=ar) hN d m (j+1) fuel (by omega) (by omega)
  rw[TZ h,F1 h,ct,Ab h,ct,A89,A8z,A9j,Ju h,sV h,ct,h_,Gt hN (ES h) (by rw[<-ES h];omega),OO (by omega),f]
  cases (l.take j).contains l[j]<;>rfl
def ET(X1 X2 X3 X4 X5 X6:List Ar)(i:Nat):List Ar:=[[],X1,X2,X3,X4,X5,X6].getD i []
section
variable{X1 X2 X3 X4 X5 X6:List Ar}{K:Int->O R}(hN:1000000000<N)(hX:∀ i,(ET X1 X2 X3 X4 X5 X6 i).length<=1000)
include hN hX
def Ap4:∀(m i fuel:Nat),i+m=7->m<fuel->Dx N K X1.length X2.length X3.length X4.length X5.length X6.length (Au X1) (Au X2) (Au X3) (Au X4) (Au X5) (Au X6) fuel (i:Int)=cond ((List.range' i m).any fun i=>Hn [] (ET X1 X2 X3 X4 X5 X6 i)) (K 10) (K 0)
|0,i,fuel+1,hi,_=>by
  rw[Dx];unfold W7
  rw[decide_eq_false (show ¬ (i:Int)<7 by omega),cf];rfl
| m+1,i,fuel+1,hi,j=>by
  have e:=Ap4 m (i+1) fuel (by omega) (by omega)
  rw[Dx];unfold W7
  have f:i=0\/i=1\/i=2\/i=3\/i=4\/i=5\/i=6:=by omega
  rw[Bc0,Bbt]
  rcases f with rfl|rfl|rfl|rfl|rfl|rfl|rfl
  ·obtain⟨M,rfl⟩:∃ M,N=M+1:=⟨N - 1,by omega⟩
   exact e
  ·have d:=hX 1
   refine Bby (Avo (l:=X1) hN (by simp only[ET]at d;exact Bag d (by decide)) _ 0 N (A89 _) (by simp only[ET]at d;exact Bam d (by omega))) ?_
   rw[show wrap .i64 (((1:Nat):Int)+1)=(((1:Nat)+1:Nat):Int)from rfl,e]
   show cond (Hn [] X1) _ _=cond (Hn [] X1||_) _ _
   cases Hn [] X1<;>rfl
  ·have d:=hX 2
   refine Bby (Apz (l:=X2) hN (by simp only[ET]at d;exact Bag d (by decide)) _ 0 N (A89 _) (by simp only[ET]at d;exact Bam d (by omega))) ?_
   rw[show wrap .i64 (((2:Nat):Int)+1)=(((2:Nat)+1:Nat):Int)from rfl,e]
   show cond (Hn [] X2) _ _=cond (Hn [] X2||_) _ _
   cases Hn [] X2<;>rfl
  ·have d:=hX 3
   refine Bby (Ap0 (l:=X3) hN (by simp only[ET]at d;exact Bag d (by decide)) _ 0 N (A89 _) (by simp only[ET]at d;exact Bam d (by omega))) ?_
   rw[show wrap .i64 (((3:Nat):Int)+1)=(((3:Nat)+1:Nat):Int)from rfl,e]
   show cond (Hn [] X3) _ _=cond (Hn [] X3||_) _ _
   cases Hn [] X3<;>rfl
  ·have d:=hX 4
   refine Bby (Ap1 (l:=X4) hN (by simp only[ET]at d;exact Bag d (by decide)) _ 0 N (A89 _) (by simp only[ET]at d;exact Bam d (by omega))) ?_
   rw[show wrap .i64 (((4:Nat):Int)+1)=(((4:Nat)+1:Nat):Int)from rfl,e]
   show cond (Hn [] X4) _ _=cond (Hn [] X4||_) _ _
   cases Hn [] X4<;>rfl
  ·have d:=hX 5
   refine Bby (Ap2 (l:=X5) hN (by simp only[ET]at d;exact Bag d (by decide)) _ 0 N (A89 _) (by simp only[ET]at d;exact Bam d (by omega))) ?_
   rw[show wrap .i64 (((5:Nat):Int)+1)=(((5:Nat)+1:Nat):Int)from rfl,e]
   show cond (Hn [] X5) _ _=cond (Hn [] X5||_) _ _
   cases Hn [] X5<;>rfl
  ·have d:=hX 6
   refine Bby (Ap3 (l:=X6) hN (by simp only[ET]at d;exact Bag d (by decide)) _ 0 N (A89 _) (by simp only[ET]at d;exact Bam d (by omega))) ?_
   rw[show wrap .i64 (((6:Nat):Int)+1)=(((6:Nat)+1:Nat):Int)from rfl,e]
   show cond (Hn [] X6) _ _=cond (Hn [] X6||_) _ _
   cases Hn [] X6<;>rfl
def Ap5:∀(m i fuel:Nat),i+m=7->m<fuel->La N K X1.length X2.length X3.length X4.length X5.length X6.length (Au X1) (Au X2) (Au X3) (Au X4) (Au X5) (Au X6) fuel (i:Int)=cond ((List.range' i m).all fun i=>(ET X1 X2 X3 X4 X5 X6 i).all A1) (Dx N K X1.length X2.length X3.length X4.length X5.length X6.length (Au X1) (Au X2) (Au X3) (Au X4) (Au X5) (Au X6) N 0) (K 9)
|0,i,fuel+1,hi,_=>by
  rw[La];unfold HN
  rw[decide_eq_false (show ¬ (i:Int)<7 by omega),cf];rfl
| m+1,i,fuel+1,hi,k=>by
  have d:=Ap5 m (i+1) fuel (by omega) (by omega)
  have step:∀(l:List Ar)(n:Nat)(c:LA),ET X1 X2 X3 X4 X5 X6 i=l->c=Au l->n=l.length->Az N c n false true (fun ca=>cond ca (K 9) (La N K X1.length X2.length X3.length X4.length X5.length X6.length (Au X1) (Au X2) (Au X3) (Au X4) (Au X5) (Au X6) fuel (wrap .i64 ((i:Int)+1))))=cond (l.all A1&&(List.range' (i+1) m).all fun i=>(ET X1 X2 X3 X4 X5 X6 i).all A1) (Dx N K X1.length X2.length X3.length X4.length X5.length X6.length (Au X1) (Au X2) (Au X3) (Au X4) (Au X5) (Au X6) N 0) (K 9):=fun l n c e1 e e3=>by
   have f:=hX i
   rw[e1]at f
   subst e
   rw[Atx hN e3 (by omega),OO (by omega),d]
   cases l.all A1<;>rfl
  rw[La];unfold HN
  have j:i=0\/i=1\/i=2\/i=3\/i=4\/i=5\/i=6:=by omega
  rw[Bc0,A9i]
  rcases j with rfl|rfl|rfl|rfl|rfl|rfl|rfl
  ·exact step [] 0 [] rfl rfl rfl
  ·exact step X1 _ _ rfl (Dw _) rfl
  ·exact step X2 _ _ rfl (Dw _) rfl
  ·exact step X3 _ _ rfl (Dw _) rfl
  ·exact step X4 _ _ rfl (Dw _) rfl
  ·exact step X5 _ _ rfl (Dw _) rfl
  ·exact step X6 _ _ rfl (Dw _) rfl
end
variable{c:CaseD}{b:Bool}
def Avp{X1 X2 X3 X4 X5:List Ar}{K:Int->O R}(f:c.outs.l.length<=1000000000):∀(m j fuel:Nat)(A:List Ar),j+m=c.outs.l.length->m<fuel->A.length=j ->
  Rb N K (c.outs.l.flatMap OutD.av) c.outs.l.length b X1.length X2.length X3.length X4.length X5.length (Au X1) (Au X2) (Au X3) (Au X4) (Au X5) fuel (c.outs.l.length:Int) (j:Int) A.length (Au A)=La N K X1.length X2.length X3.length X4.length X5.length (A++(c.outs.l.drop j).map OutD.name).length (Au X1) (Au X2) (Au X3) (Au X4) (Au X5) (Au (A++(c.outs.l.drop j).map OutD.name)) N 0
|0,j,fuel+1,A,k,_,hA=>by
  rw[Rb];unfold HO
  rw[Gu (by omega),cf,show c.outs.l.drop j=[]from Eg (by omega),A9x,A9g]
|m+1,j,fuel+1,A,k,n,hA=>by
  rw[Rb];unfold HO
  have h:j<c.outs.l.length:=by omega
  rw[F1 h,ct,Ab h,ct,I3 (e:=OutD.av) (sz:=4) (fun _=>rfl) h,ct,Fy (e:=OutD.av) (sz:=4) (fun _=>rfl) h,show((beq 0 0)&&((beq ((OutD.av c.outs.l[j]).length) 4)&&(beq 4 4)))=true from rfl,ct,show ∀ F:Ar->O R,Km (OutD.av c.outs.l[j]) F=F (c.outs.l[j]).name from fun _=>rfl,ER (by omega),ct,OO (by omega),Dw,Jh,Ff h,A9a]
  have d:=Avp (X1:=X1) (X2:=X2) (X3:=X3) (X4:=X4) (X5:=X5) (K:=K) f m (j+1) fuel (A++[(c.outs.l[j]).name]) (by omega) (by omega) (by simp[hA])
  rw[A8y,A94]at d
  refine d.trans ?_
  rw[A9l];rfl
def Avq{X1 X2 X3 X4:List Ar}{K:Int->O R}(f:c.ties.l.length<=1000000000):∀(m j fuel:Nat)(A:List Ar),j+m=c.ties.l.length->m<fuel->A.length=j ->
  Rc N K (c.ties.l.flatMap TieD.av) c.ties.l.length b c.av X1.length X2.length X3.length X4.length (Au X1) (Au X2) (Au X3) (Au X4) fuel (c.ties.l.length:Int) (j:Int) A.length (Au A)=Rb N K (c.outs.l.flatMap OutD.av) c.outs.l.length b X1.length X2.length X3.length X4.length (A++(c.ties.l.drop j).map TieD.name).length (Au X1) (Au X2) (Au X3) (Au X4) (Au (A++(c.ties.l.drop j).map TieD.name)) N (c.outs.l.length:Int) 0 0 []
|0,j,fuel+1,A,k,_,hA=>by
  rw[Rc];unfold HP
  rw[Gu (by omega),cf,show c.ties.l.drop j=[]from Eg (by omega),A9x,A9g,Pp]
|m+1,j,fuel+1,A,k,n,hA=>by
  rw[Rc];unfold HP
  have h:j<c.ties.l.length:=by omega
  rw[F1 h,ct,Ab h,ct,I3 (e:=TieD.av) (sz:=5) (fun _=>rfl) h,ct,Fy (e:=TieD.av) (sz:=5) (fun _=>rfl) h,show((beq 0 0)&&((beq ((TieD.av c.ties.l[j]).length) 5)&&(beq 5 5)))=true from rfl,ct,show ∀ F:Ar->O R,Km (TieD.av c.ties.l[j]) F=F (c.ties.l[j]).name from fun _=>rfl,ER (by omega),ct,OO (by omega),Dw,Jh,Ff h,A9a]
  have d:=Avq (X1:=X1) (X2:=X2) (X3:=X3) (X4:=X4) (K:=K) f m (j+1) fuel (A++[(c.ties.l[j]).name]) (by omega) (by omega) (by simp[hA])
  rw[A8y,A94]at d
  refine d.trans ?_
  rw[A9l];rfl
def Agz{X1 X2 X3:List Ar}{K:Int->O R}(f:c.stores.l.length<=1000000000):∀(m j fuel:Nat)(A:List Ar),j+m=c.stores.l.length->m<fuel->A.length=j ->
  Re N K (c.stores.l.flatMap StoreD.av) c.stores.l.length b c.av X1.length X2.length X3.length (Au X1) (Au X2) (Au X3) fuel (c.stores.l.length:Int) (j:Int) A.length (Au A)=Rc N K (c.ties.l.flatMap TieD.av) c.ties.l.length b c.av X1.length X2.length X3.length (A++(c.stores.l.drop j).map StoreD.name).length (Au X1) (Au X2) (Au X3) (Au (A++(c.stores.l.drop j).map StoreD.name)) N (c.ties.l.length:Int) 0 0 []
|0,j,fuel+1,A,k,_,hA=>by
  rw[Re];unfold HQ
  rw[Gu (by omega),cf,show c.stores.l.drop j=[]from Eg (by omega),A9x,A9g,Wo]
|m+1,j,fuel+1,A,k,n,hA=>by
  rw[Re];unfold HQ
  have h:j<c.stores.l.length:=by omega
  rw[F1 h,ct,Ab h,ct,I3 (e:=StoreD.av) (sz:=9) (fun _=>rfl) h,ct,Fy (e:=StoreD.av) (sz:=9) (fun _=>rfl) h,show((beq 0 0)&&((beq ((StoreD.av c.stores.l[j]).length) 9)&&(beq 9 9)))=true from rfl,ct,show ∀ F:Ar->O R,Km (StoreD.av c.stores.l[j]) F=F (c.stores.l[j]).name from fun _=>rfl,ER (by omega),ct,OO (by omega),Dw,Jh,Ff h,A9a]
  have d:=Agz (X1:=X1) (X2:=X2) (X3:=X3) (K:=K) f m (j+1) fuel (A++[(c.stores.l[j]).name]) (by omega) (by omega) (by simp[hA])
  rw[A8y,A94]at d
  refine d.trans ?_
  rw[A9l];rfl
def Ap6{X1 X2:List Ar}{K:Int->O R}(f:c.units.l.length<=1000000000):∀(m j fuel:Nat)(A:List Ar),j+m=c.units.l.length->m<fuel->A.length=j ->
  Rf N K (c.units.l.flatMap UnitD.av) c.units.l.length b c.av X1.length X2.length (Au X1) (Au X2) fuel (c.units.l.length:Int) (j:Int) A.length (Au A)=Re N K (c.stores.l.flatMap StoreD.av) c.stores.l.length b c.av X1.length X2.length (A++(c.units.l.drop j).map UnitD.name).length (Au X1) (Au X2) (Au (A++(c.units.l.drop j).map UnitD.name)) N (c.stores.l.length:Int) 0 0 []
|0,j,fuel+1,A,k,_,hA=>by
  rw[Rf];unfold HR
  rw[Gu (by omega),cf,show c.units.l.drop j=[]from Eg (by omega),A9x,A9g,O7]
|m+1,j,fuel+1,A,k,n,hA=>by
  rw[Rf];unfold HR
  have h:j<c.units.l.length:=by omega
  rw[F1 h,ct,Ab h,ct,I3 (e:=UnitD.av) (sz:=22) (fun _=>rfl) h,ct,Fy (e:=UnitD.av) (sz:=22) (fun _=>rfl) h,show((beq 0 0)&&((beq ((UnitD.av c.units.l[j]).length) 22)&&(beq 22 22)))=true from rfl,ct,show ∀ F:Ar->O R,Km (UnitD.av c.units.l[j]) F=F (c.units.l[j]).name from fun _=>rfl,ER (by omega),ct,OO (by omega),Dw,Jh,Ff h,A9a]
  have d:=Ap6 (X1:=X1) (X2:=X2) (K:=K) f m (j+1) fuel (A++[(c.units.l[j]).name]) (by omega) (by omega) (by simp[hA])
  rw[A8y,A94]at d
  refine d.trans ?_
  rw[A9l];rfl
def Ap7{X1:List Ar}{K:Int->O R}(f:c.lines.l.length<=1000000000):∀(m j fuel:Nat)(A:List Ar),j+m=c.lines.l.length->m<fuel->A.length=j ->
  Rg N K (c.lines.l.flatMap LineD.av) c.lines.l.length b c.av X1.length (Au X1) fuel (c.lines.l.length:Int) (j:Int) A.length (Au A)=Rf N K (c.units.l.flatMap UnitD.av) c.units.l.length b c.av X1.length (A++(c.lines.l.drop j).map LineD.name).length (Au X1) (Au (A++(c.lines.l.drop j).map LineD.name)) N (c.units.l.length:Int) 0 0 []
|0,j,fuel+1,A,k,_,hA=>by
  rw[Rg];unfold HS
  rw[Gu (by omega),cf,show c.lines.l.drop j=[]from Eg (by omega),A9x,A9g,Mi]
|m+1,j,fuel+1,A,k,n,hA=>by
  rw[Rg];unfold HS
  have h:j<c.lines.l.length:=by omega
  rw[F1 h,ct,Ab h,ct,I3 (e:=LineD.av) (sz:=12) (fun _=>rfl) h,ct,Fy (e:=LineD.av) (sz:=12) (fun _=>rfl) h,show((beq 0 0)&&((beq ((LineD.av c.lines.l[j]).length) 12)&&(beq 12 12)))=true from rfl,ct,show ∀ F:Ar->O R,Km (LineD.av c.lines.l[j]) F=F (c.lines.l[j]).name from fun _=>rfl,ER (by omega),ct,OO (by omega),Dw,Jh,Ff h,A9a]
  have d:=Ap7 (X1:=X1) (K:=K) f m (j+1) fuel (A++[(c.lines.l[j]).name]) (by omega) (by omega) (by simp[hA])
  rw[A8y,A94]at d
  refine d.trans ?_
  rw[A9l];rfl
def Ap8{K:Int->O R}(f:c.buses.l.length<=1000000000):∀(m j fuel:Nat)(A:List Ar),j+m=c.buses.l.length->m<fuel->A.length=j ->
  Rh N K (c.buses.l.flatMap BusD.av) c.buses.l.length b c.av fuel (c.buses.l.length:Int) (j:Int) A.length (Au A)=Rg N K (c.lines.l.flatMap LineD.av) c.lines.l.length b c.av (A++(c.buses.l.drop j).map BusD.name).length (Au (A++(c.buses.l.drop j).map BusD.name)) N (c.lines.l.length:Int) 0 0 []
|0,j,fuel+1,A,k,_,hA=>by
  rw[Rh];unfold HT
  rw[Gu (by omega),cf,show c.buses.l.drop j=[]from Eg (by omega),A9x,A9g,F9]
|m+1,j,fuel+1,A,k,n,hA=>by
  rw[Rh];unfold HT
  have h:j<c.buses.l.length:=by omega
  rw[F1 h,ct,Ab h,ct,I3 (e:=BusD.av) (sz:=3) (fun _=>rfl) h,ct,Fy (e:=BusD.av) (sz:=3) (fun _=>rfl) h,show((beq 0 0)&&((beq ((BusD.av c.buses.l[j]).length) 3)&&(beq 3 3)))=true from rfl,ct,show ∀ F:Ar->O R,Km (BusD.av c.buses.l[j]) F=F (c.buses.l[j]).name from fun _=>rfl,ER (by omega),ct,OO (by omega),Dw,Jh,Ff h,A9a]
  have d:=Ap8 (K:=K) f m (j+1) fuel (A++[(c.buses.l[j]).name]) (by omega) (by omega) (by simp[hA])
  rw[A8y,A94]at d
  refine d.trans ?_
  rw[A9l];rfl
def Aty{K:Int->O R}(hN:1000000000<N)(d:K3 c=true):eX N c.av b K=K (Ta c):=by
 unfold K3 at d
 simp only[A81,decide_eq_true_eq]at d
 obtain⟨c1,j,k,m,n,q⟩:=d
 rw[oh];unfold gh
 rw[Dn]
 refine(Ap8 (A:=[]) (by omega) c.buses.l.length 0 N (by omega) (by omega) rfl).trans ?_
 refine(Ap7 (A:=[]) (by omega) c.lines.l.length 0 N (by omega) (by omega) rfl).trans ?_
 refine(Ap6 (A:=[]) (by omega) c.units.l.length 0 N (by omega) (by omega) rfl).trans ?_
 refine(Agz (A:=[]) (by omega) c.stores.l.length 0 N (by omega) (by omega) rfl).trans ?_
 refine(Avq (A:=[]) (by omega) c.ties.l.length 0 N (by omega) (by omega) rfl).trans ?_
 refine(Avp (A:=[]) (by omega) c.outs.l.length 0 N (by omega) (by omega) rfl).trans ?_
 simp only[A9f,A9t]
 show La N K (Ci c).length (D5 c).length (Di c).length (Y0 c).length (rM c).length (rN c).length (Au (Ci c)) (Au (D5 c)) (Au (Di c)) (Au (Y0 c)) (Au (rM c)) (Au (rN c)) N 0=_
 have hX:∀ i,(ET (Ci c) (D5 c) (Di c) (Y0 c) (rM c) (rN c) i).length<=1000:=fun i=>by
  have:i=0\/i=1\/i=2\/i=3\/i=4\/i=5\/i=6\/7<=i:=by omega
  rcases this with rfl|rfl|rfl|rfl|rfl|rfl|rfl|h
  all_goals first
   |(simp[ET,Ci,D5,Di,Y0,rM,rN];omega)
   |(simp[ET];done)
   |(unfold ET;rw[A9e,Bbk (by simpa using h)];simp)
 refine(Ap5 hN hX 7 0 N (by omega) (by omega)).trans ?_
 have e:=Ap4 (K:=K) hN hX 7 0 N (by omega) (by omega)
 rw[show Dx N K (Ci c).length (D5 c).length (Di c).length (Y0 c).length (rM c).length (rN c).length (Au (Ci c)) (Au (D5 c)) (Au (Di c)) (Au (Y0 c)) (Au (rM c)) (Au (rN c)) N 0=_ from e]
 have e1:((List.range' 0 7).all fun i=>(ET (Ci c) (D5 c) (Di c) (Y0 c) (rM c) (rN c) i).all A1)=(Cz c).all fun l=>l.all A1:=by simp[ET,Cz,List.range']
 have f:((List.range' 0 7).any fun i=>Hn [] (ET (Ci c) (D5 c) (Di c) (Y0 c) (rM c) (rN c) i))=(Cz c).any (Hn []):=by simp[ET,Cz,List.range',Hn]
 rw[e1,f]
 unfold Ta
 cases (Cz c).all fun l=>l.all A1 with
|false=>rfl
|true=>cases (Cz c).any (Hn [])<;>rfl
end
end Gx.Ct
namespace Gx.Ct
open Go Go.Proofs Gx.Cf
section
variable{R:Type}{N:Nat}{c:CaseD}{b:Bool}
def A0q(o:OutD):Bool:=o.corr||o.moves.l.isEmpty
def Aci{K:Lu->Int->O R}(d:c.outs.l.length<=1000):∀(m j fuel:Nat),j+m=c.outs.l.length->m<fuel ->
  Sn N K (c.outs.l.flatMap OutD.av) c.outs.l.length b c.av fuel (c.outs.l.length:Int) (j:Int) =
   cond ((c.outs.l.drop j).all A0q) (Kq N c.av b false fun h o p=>cond o (K ([]:Lu) 3) (cond (decide ((h:Int)>1048576)) (K ([]:Lu) 8) (Option.bind (Z5 (p.take (h*1))) fun q=>K q 0))) (K [] 16)
|0,j,fuel+1,f,_=>by
  rw[Sn];unfold BM
  rw[Gu (by omega),cf,Eg (by omega),A9z,Ik,ct,D2];rfl
| m+1,j,fuel+1,f,n=>by
  rw[Sn];unfold BM
  have h:j<c.outs.l.length:=by omega
  have k:=Aci (K:=K) d m (j+1) fuel (by omega) (by omega)
  rw[F1 h,ct,Ab h,ct,I3 (e:=OutD.av) (sz:=4) (fun _=>rfl) h,ct,Fy (e:=OutD.av) (sz:=4) (fun _=>rfl) h,show((beq 0 0)&&((beq ((OutD.av c.outs.l[j]).length) 4)&&(beq 4 4)))=true from rfl,ct,OO (by omega),k,Ff h,A9i,
   show ∀ F:Bool->O R,RL (drop 2 (OutD.av c.outs.l[j])) F=F (c.outs.l[j]).corr from fun _=>rfl]
  have rm:∀ F:LA->Nat->O R,Bh 3 (drop 3 (OutD.av c.outs.l[j])) F=F ((c.outs.l[j]).moves.l.flatMap MoveD.av) (c.outs.l[j]).moves.l.length:=fun F=>by
   show Bh 3 ((c.outs.l[j]).moves.av 3 MoveD.av::_) F=_
   rw[Cq]
  rw[rm]
  unfold A0q
  cases (c.outs.l[j]).corr with
  |true=>rfl
  |false =>
   show cond (decide ((((c.outs.l[j]).moves.l.length:Nat):Int)>0)) _ _=_
   cases s:(c.outs.l[j]).moves.l with
   |nil=>rfl
   |cons x r=>rw[decide_eq_true (by simp)];rfl
def Ap9 {K:Lu->Int->O R} (hx:Ig) (t:∀ z,Asf (tx z)) (hN:20000000000000<N) (hI:CaseI 20000000000000 c):IN N c.av b K=K (Aw6 c) (i_ c):=by
 have fin:∀ e:Int,i_ c=e->e≠0->K [] e=K (Aw6 c) (i_ c):=fun e d j=>by unfold Aw6;rw[d,if_neg j]
 rw[jw];unfold XN
 rw[Ik,ct,D2,Ao4]
 cases d:K3 c with
|false=>exact fin 8 (by unfold i_;rw[if_pos d]) (by decide)
| true =>
  have u:=d
  unfold K3 at u
  simp only[A81,decide_eq_true_eq]at u
  have E1:i_ c=if c.hours<1\/c.hours>24 then 3 else if NE c=false then 4 else if Ta c≠0 then Ta c else if Tb c=false then 12 else if Wr c=false then 16 else if Sa c then 3 else if (FF c).length>1048576 then 8 else 0:=by
   unfold i_;rw[if_neg (by rw[d];decide)]
  show As .i64 c.av _=_
  rw[Ky]
  by_cases j:c.hours<1
  ·rw[decide_eq_true j];exact fin 3 (by rw[E1,if_pos (.inl j)]) (by decide)
  ·rw[decide_eq_false j,show((false:Bool)==false)=true from rfl,ct,Ky]
   show cond (decide (c.hours>24)) _ _=_
   by_cases m:c.hours>24
   ·rw[decide_eq_true m];exact fin 3 (by rw[E1,if_pos (.inr m)]) (by decide)
   ·have E2:i_ c=if NE c=false then 4 else if Ta c≠0 then Ta c else if Tb c=false then 12 else if Wr c=false then 16 else if Sa c then 3 else if (FF c).length>1048576 then 8 else 0:=by
     rw[E1,if_neg (fun h=>h.elim j m)]
    rw[decide_eq_false m,cf]
    unfold H' QK
    rw[Ik,ct,D2,Ao5 (by omega) (by omega) (by omega)]
    cases v:NE c with
    |false=>exact fin 4 (by rw[E2,if_pos v]) (by decide)
    | true =>
     have E3:i_ c=if Ta c≠0 then Ta c else if Tb c=false then 12 else if Wr c=false then 16 else if Sa c then 3 else if (FF c).length>1048576 then 8 else 0:=by
      rw[E2,if_neg (by rw[v];decide)]
     rw[show(!true)=false from rfl,cf,ct,Aty (by omega) d]
     by_cases f:Ta c=0
     ·have E4:i_ c=if Tb c=false then 12 else if Wr c=false then 16 else if Sa c then 3 else if (FF c).length>1048576 then 8 else 0:=by
       rw[E3,if_neg (fun h=>h f)]
      rw[f,show((0:Int) != 0)=false from rfl,cf,ct,Atr hN d hI.o]
      cases n:Tb c with
      |false=>exact fin 12 (by rw[E4,if_pos n]) (by decide)
      | true =>
       have E5:i_ c=if Wr c=false then 16 else if Sa c then 3 else if (FF c).length>1048576 then 8 else 0:=by
        rw[E4,if_neg (by rw[n];decide)]
       rw[show(!true)=false from rfl,cf,Pp]
       refine(Aci (by omega) c.outs.l.length 0 N (by omega) (by omega)).trans ?_
       rw[A9f,show c.outs.l.all A0q=Wr c from rfl]
       cases x:Wr c with
       |false=>exact fin 16 (by rw[E5,if_pos x]) (by decide)
       | true =>
        have E6:i_ c=if Sa c then 3 else if (FF c).length>1048576 then 8 else 0:=by
         rw[E5,if_neg (by rw[x];decide)]
        rw[ct]
        have k:∀ l∈Cz c,∀ s∈l,A1 s=true:=by
         unfold Ta at f
         split at f
         ·rename_i y
          simp only[A9b]at y
          exact y
         ·cases f
        have rd:Ready 20000000000000 c:=⟨hI,fun l C s hs=>by
         have:=k l C s hs
         unfold A1 at this
         simp only[A81,decide_eq_true_eq]at this
         exact this.2.1,n,d⟩
        rw[Atq hx hN rd]
        cases A:Sa c with
        |true=>exact fin 3 (by rw[E6,if_pos A]) (by decide)
        | false =>
         have E7:i_ c=if (FF c).length>1048576 then 8 else 0:=by
          rw[E6,if_neg (by rw[A];decide)]
         rw[cf]
         obtain⟨B,D⟩:=(Az6 ⟨hI,t,k,n⟩).out
         by_cases q:(FF c).length>1048576
         ·have:=B.2 q
          rw[decide_eq_true (show(((Js [] (CH c)).length:Nat):Int)>1048576 by omega)]
          exact fin 8 (by rw[E7,if_pos q]) (by decide)
         ·have F:¬ (Js [] (CH c)).length>1048576:=fun h=>q (B.1 h)
          have e:=D (by omega)
          have E8:i_ c=0:=by rw[E7,if_neg q]
          rw[decide_eq_false (show ¬ (((Js [] (CH c)).length:Nat):Int)>1048576 by omega),cf,Akk,jY,e]
          unfold Aw6;rw[E8,if_pos rfl];rfl
     ·rw[show(Ta c != 0)=true by simp[f],ct]
      exact fin (Ta c) (by rw[E3,if_pos f]) f
end
end Gx.Ct
namespace Gx.Ct
open Go Go.Proofs Gx.Cf
section
variable{R:Type}{N:Nat}{c:CaseD}{b:Bool}{K:Nat->LA->O R}
structure ListsOk(c:CaseD):Prop where
 b:c.buses.l.length<=1000000000
 l:c.lines.l.length<=1000000000
 u:c.units.l.length<=1000000000
 s:c.stores.l.length<=1000000000
 t:c.ties.l.length<=1000000000
 o:c.outs.l.length<=1000000000
end
end Gx.Ct
namespace Gx
open Go Go.Proofs
section
variable{R:Type}
def YB(x y:Nat):Int:=if x<y then -1 else if y<x then 1 else 0
def iA(x:Nat):YB x x=0:=by unfold YB;simp
def Acj{a b:Nat}(h:(Ch a).length<(Ch b).length):a<b:=Nat.lt_of_not_le fun d=>by have:=j3 d;omega
def Avr{u w p q P:Nat}(d:u<P)(e:w<P)(h:p<q):u+P*p<w+P*q:=by
 have:P*(p+1)<=P*q:=Bbx _ h
 rw[Bbi]at this
 omega
def Ag0{N:Nat}{x y:List Nat}{t u:Bool}{K:Int->O R}(hx:Bi x)(f:Bi y)(hs:x.length<=1000000000000)(k:x.length=y.length):∀(i fuel:Nat),i<=x.length->i<fuel ->
  G7 N K (Bu x) x.length t (Bu y) y.length u fuel ((i:Int) - 1)=K (YB (val (x.take i)) (val (y.take i)))
|0,fuel+1,_,_=>by
  rw[G7];unfold Pw
  rw[show decide ((((0:Nat):Int) - 1)>=0)=false by simp,cf]
  simp[iA]
| i+1,fuel+1,hi,l=>by
  rw[G7];unfold Pw
  rw[show(((i+1:Nat):Int) - 1)=(i:Int) by omega,show decide ((i:Int)>=0)=true by simp,ct,Ab (by omega),ct,Asm (by omega),Ab (by omega),ct,Asm (by omega),ct,Asm (by omega),ct,Asm (by omega),i64 (by omega),
   Ag0 hx f hs k i fuel (by omega) (by omega),Hv (by omega),Hv (by omega)]
  have d:=dC (WC hx i)
  have e:=dC (WC f i)
  rw[Bar,Bbh (by omega)]at d e
  by_cases c1:x[i]<y[i]
  ·have:=Avr d e c1
   rw[show decide (((x[i]:Nat):Int)<((y[i]:Nat):Int))=true by simp;exact c1,ct]
   unfold YB;rw[if_pos this]
  ·by_cases j:y[i]<x[i]
   ·have:=Avr e d j
    rw[show decide (((x[i]:Nat):Int)<((y[i]:Nat):Int))=false by simp;omega,cf,show decide (((x[i]:Nat):Int)>((y[i]:Nat):Int))=true by simp;exact j,ct]
    unfold YB;rw[if_neg (by omega),if_pos this]
   ·have:x[i]=y[i]:=by omega
    rw[show decide (((x[i]:Nat):Int)<((y[i]:Nat):Int))=false by simp;omega,cf,show decide (((x[i]:Nat):Int)>((y[i]:Nat):Int))=false by simp;omega,cf,this]
    unfold YB
    congr 1
    by_cases a1:val (x.take i)<val (y.take i)
    ·rw[if_pos a1,if_pos (by omega)]
    ·by_cases a2:val (y.take i)<val (x.take i)
     ·rw[if_neg a1,if_pos a2,if_neg (by omega),if_pos (by omega)]
     ·rw[if_neg a1,if_neg a2,if_neg (by omega),if_neg (by omega)]
def Ag1{N:Nat}{a b:List Nat}{n m:Nat}{t o t' o':Bool}{K:Int->O R}(hn:n=a.length)(k:m=b.length)(e:Bi a)(f:Bi b)(d:fit (a.length+b.length) N):
  Ht N (Bu a) n t o (Bu b) m t' o' K=K (YB (val a) (val b)):=by
 subst hn k
 have q:=d.1;have s:=d.2
 rw[NJ];unfold Ws
 dsimp only
 rw[Ei rfl e (d.le (by omega)),Ei rfl f (d.le (by omega))]
 have la:=(Pv e).2
 have lb:=(Pv f).2
 by_cases j:(Ch (val a)).length=(Ch (val b)).length
 ·rw[show((((Ch (val a)).length:Nat):Int) != (((Ch (val b)).length:Nat):Int))=false by simp;omega,cf,i64 (by omega),Ag0 (Cl _) (Cl _) (by omega) j _ N (A86 _) (by omega),Bas,j,Bas,Bx,Bx]
 ·rw[show((((Ch (val a)).length:Nat):Int) != (((Ch (val b)).length:Nat):Int))=true by simp;omega,ct]
  by_cases l:(Ch (val a)).length<(Ch (val b)).length
  ·have:=Acj l
   rw[show decide ((((Ch (val a)).length:Nat):Int)<(((Ch (val b)).length:Nat):Int))=true by simp;omega,ct]
   unfold YB;rw[if_pos this]
  ·have:=Acj (show(Ch (val b)).length<(Ch (val a)).length by omega)
   rw[show decide ((((Ch (val a)).length:Nat):Int)<(((Ch (val b)).length:Nat):Int))=false by simp;omega,cf]
   unfold YB;rw[if_neg (by omega),if_pos this]
def Ack{N:Nat}{a:List Nat}{n:Nat}{t o:Bool}{K:Int->O R}(hn:n=a.length)(e:Bi a)(d:fit a.length N):Y8 N (Bu a) n t o K=K (YB (val a) 0):=by
 subst hn
 have f:=d.1;have j:=d.2
 rw[dK];unfold NK
 dsimp only
 rw[Ei rfl e d,Axm (by omega)]
 by_cases h0:val a=0
 ·rw[h0,K4,iA]
  cases N with
  |zero=>omega
  |succ N =>
   rw[Ts];unfold J_
   rw[i64 (by simp)];simp
 ·have k:(Ch (val a)).length≠0:=fun h=>h0 (Oq.1 h)
  rw[show((((Ch (val a)).length:Nat):Int) != (0:Int))=true by simp;exact fun h=>h0 (yg.1 h),ct]
  rw[show decide ((((Ch (val a)).length:Nat):Int)<(0:Int))=false by simp,cf]
  unfold YB;rw[if_neg (by omega),if_pos (by omega)]
def Ald:∀{S:List Nat}{d v:Nat}(h:d<S.length),val (S.set d v)+4294967296 ^ d*S[d]=val S+4294967296 ^ d*v
|x::r,0,v,_=>by simp[val];omega
|x::r,d+1,v,h=>by
  have e:=Ald (S:=r) (d:=d) (v:=v) (by simpa using h)
  simp only[List.set_cons_succ,val,Bc7,Ba5]
  have e1:∀ y,4294967296 ^ d*4294967296*y=4294967296*(4294967296 ^ d*y):=fun y=>by rw[Bbp (4294967296 ^ d),Ba2]
  rw[e1,e1]
  omega
def Ag2(b:List Nat)(d:Nat):val (b.take (d+1))=val (b.take d)+4294967296 ^ d*b.getD d 0:=by
 by_cases h:d<b.length
 ·rw[Hv h,A9e,A84 h];rfl
 ·rw[A80 (by omega),A80 (by omega),A9e,Bbk (by omega)];simp
def ux(P s:Nat):P*(s%4294967296)+P*4294967296*(s/4294967296)=P*s:=by rw[Ba2,<-Bbi,Bcb,Bcm]
def A36(S:List Nat)(d:Nat):Prop:=∀ j (h:j<S.length),d<=j->S[j]=0
def xI{S:List Nat}{d v:Nat}(h:A36 S d):A36 (S.set d v) (d+1):=fun j e f=>by
 rw[List.getElem_set]
 rw[if_neg (by omega)]
 exact h j (by simpa using e) (by omega)
def kH(n:Nat):A36 (replicate n 0) 0:=fun j d _=>by simp
def xJ{S:List Nat}{d v:Nat}(h:A36 S d)(e:d<S.length):val (S.set d v)=val S+4294967296 ^ d*v:=by
 have:=Ald (v:=v) e
 rw[h d e (A86 _)]at this;simpa using this
def A8m{a:Nat}(h:a<=1000000000000):wrap .i64 ((a:Int)+(1:Int))=((a+1:Nat):Int):=wS h
def A7r{x:Nat}{m:List Nat}(h:x<m.length):((beq 1 1)&&((ble ((0+(x*1))+1) (List.length (Bu m)))&&(!false)))=true:=by rw[NG];simp;omega
def A6i{x v:Nat}{m:List Nat}:List.set (Bu m) (0+(x*1)) (.int .u32 (v:Int))=Bu (m.set x v):=by rw[A9j,A89,Anl]
def Acl{N:Nat}{a b:List Nat}{t u:Bool}(y:Bi a)(z:Bi b)(k:fit (a.length+1) N)(l:b.length<=a.length):∀(m d fuel:Nat)(S:List Nat)(c:Nat),d+m=a.length->m<fuel->Bi S->S.length=a.length+1->A36 S d->c<=1 ->
  val S+4294967296 ^ d*c=val (a.take d)+val (b.take d) ->
  ∃ S',Bi S'/\S'.length=a.length+1/\val S'=val a+val b/\∀ K:Nat->LA->O R,Y6 N K (Bu a) a.length t (Bu b) b.length u fuel (a.length+1) (c:Int) (a.length:Int) (d:Int) (Bu S)=K (Ch (val a+val b)).length (Bu S')
| 0,d,fuel+1,S,c,L,_,hS,n,q,M,I=>by
  have T:=k.1;have U:=k.2
  have A:d=a.length:=by omega
  subst A
  have v:val (S.set a.length c)=val a+val b:=by
   rw[xJ q (by omega),I,Bas,A80 l]
  have x:=Y3 hS (show c<4294967296 by omega) a.length
  refine⟨S.set a.length c,x,by simpa using n,v,fun K=>?_⟩
  rw[Y6];unfold JY
  rw[Gu (A86 _),cf,Ab (by omega),ct,A7r (by omega),ct,A65 (by omega),A6i,zH (by simp;omega) x (by simp only[List.length_set,n];exact k),v]
| m+1,d,fuel+1,S,c,L,V,hS,n,q,M,I=>by
  have T:=k.1;have U:=k.2
  have f:d<a.length:=by omega
  have ad:=Y2 y f
  have step:∀ s:Nat,s<8589934592->s=c+a[d]+b.getD d 0->val (S.set d (s%4294967296))+4294967296 ^ (d+1)*(s/4294967296)=val (a.take (d+1))+val (b.take (d+1)):=by
   intro s _ hs
   rw[xJ q (by omega),Hv f,Ag2 b d,Ba5]
   have e:=ux (4294967296 ^ d) s
   have X:4294967296 ^ d*s=4294967296 ^ d*c+4294967296 ^ d*a[d]+4294967296 ^ d*b.getD d 0:=by rw[hs,Bbi,Bbi]
   omega
  by_cases j:d<b.length
  ·have bd:=Y2 z j
   have B:b.getD d 0=b[d]:=by rw[A9e,A84 j];rfl
   obtain⟨S',C,D,F,G⟩:=Acl (t:=t) (u:=u) y z k l m (d+1) fuel (S.set d ((c+a[d]+b[d])%4294967296)) ((c+a[d]+b[d])/4294967296) (by omega) (by omega) (Y3 hS (by omega) d) (by simpa using n) (xI q) (by omega) (step _ (by omega) (by rw[B]))
   refine⟨S',C,D,F,fun K=>?_⟩
   rw[Y6];unfold JY
   rw[F1 f,ct,Ab f,ct,Asm f,F1 j,ct,Ab j,ct,Asm j,Ab (by omega),ct,A2j (by omega),ct,t_ (by omega),t_ (by omega),Aw9,t_ (by omega),Aw9,t_ (by omega),A2r,Az8,Axk,wS (by omega)]
   exact G K
  ·have B:b.getD d 0=0:=by rw[A9e,Bbk (by omega)];rfl
   obtain⟨S',C,D,F,G⟩:=Acl (t:=t) (u:=u) y z k l m (d+1) fuel (S.set d ((c+a[d])%4294967296)) ((c+a[d])/4294967296) (by omega) (by omega) (Y3 hS (by omega) d) (by simpa using n) (xI q) (by omega) (step _ (by omega) (by rw[B];rfl))
   refine⟨S',C,D,F,fun K=>?_⟩
   rw[Y6];unfold JY
   rw[F1 f,ct,Ab f,ct,Asm f,Gu (by omega),cf,Ab (by omega),ct,A2j (by omega),ct,t_ (by omega),Aw9,t_ (by omega),A2r,Az8,Axk,wS (by omega)]
   exact G K
def A0r{N:Nat}{a b:List Nat}{t u:Bool}(f:Bi a)(j:Bi b)(d:fit (a.length+1) N)(e:b.length<=a.length):
  ∃ S',Bi S'/\val S'=val a+val b/\∀ K:Nat->LA->O R,SF N K (Bu a) a.length t (Bu b) b.length u=K (Ch (val a+val b)).length (Bu S'):=by
 have n:=d.1;have q:=d.2
 obtain⟨S',k,_,l,m⟩:=Acl (R:=R) (t:=t) (u:=u) f j d e a.length 0 N (replicate (a.length+1) 0) 0 (by omega) (by omega) (EA _) (by simp) (kH _) (by omega) (by rw[AQ];simp[val])
 refine⟨S',k,l,fun K=>?_⟩
 unfold SF lF
 rw[A8m (by omega),A67 (by omega),ct,A8z,JT]
 exact m K
def A0s{N:Nat}{a b:List Nat}{n m:Nat}{t o t' o':Bool}(hn:n=a.length)(q:m=b.length)(f:Bi a)(j:Bi b)(d:fit (a.length+b.length+1) N):
  ∃ S',Bi S'/\val S'=val a+val b/\∀ K:Nat->LA->O R,yn N (Bu a) n t o (Bu b) m t' o' K=K (Ch (val a+val b)).length (Bu S'):=by
 subst hn q
 have la:=(Pv f).2
 have lb:=(Pv j).2
 by_cases s:(Ch (val a)).length<(Ch (val b)).length
 ·obtain⟨S',k,e,l⟩:=A0r (R:=R) (N:=N) (a:=Ch (val b)) (b:=Ch (val a)) (t:=o') (u:=o) (Cl _) (Cl _) (d.le (by omega)) (by omega)
  rw[Bx,Bx,Bcb]at e
  refine⟨S',k,e,fun K=>?_⟩
  rw[lG];unfold nM
  rw[Ei rfl f (d.le (by omega)),Ei rfl j (d.le (by omega)),F1 s,ct,l,Bx,Bx,Bcb (val b)]
 ·obtain⟨S',k,e,l⟩:=A0r (R:=R) (N:=N) (a:=Ch (val a)) (b:=Ch (val b)) (t:=o) (u:=o') (Cl _) (Cl _) (d.le (by omega)) (by omega)
  rw[Bx,Bx]at e
  refine⟨S',k,e,fun K=>?_⟩
  rw[lG];unfold nM
  rw[Ei rfl f (d.le (by omega)),Ei rfl j (d.le (by omega)),Gu (by omega),cf,l,Bx,Bx]
def Ag3{x y:Nat}(hx:x<4294967296)(e:y<=4294967296):∃ d c:Nat,d<4294967296/\c<=1/\x+4294967296*c=d+y/\wrap .u32 (wrap .u64 ((x:Int) - (y:Int)))=(d:Int)/\Int.fdiv (wrap .u64 ((x:Int) - (y:Int))) (2 ^ 63)=(c:Int):=by
 by_cases h:y<=x
 ·refine⟨x - y,0,by omega,by omega,by omega,?_,?_⟩
  ·rw[Az9 (by omega) h,A65 (by omega)]
  ·rw[Az9 (by omega) h,A6c,Bc2 (by omega)]
 ·refine⟨x+4294967296 - y,1,by omega,by omega,by omega,?_,?_⟩
  ·rw[A0a (by omega) (by omega),Az8];congr 1;omega
  ·rw[A0a (by omega) (by omega),A6c];congr 1;omega
def A2y{x c w:Nat}(hx:x<4294967296)(d:c<=1)(e:w<4294967296):wrap .u64 ((wrap .u64 ((x:Int) - (c:Int))) - (w:Int))=wrap .u64 ((x:Int) - ((c+w:Nat):Int)):=by rw[yh,yh,yh];omega
def Acm{N:Nat}{a b:List Nat}{t u:Bool}(A:Bi a)(B:Bi b)(q:fit a.length N)(l:b.length<=a.length)(s:val b<=val a):∀(m d fuel:Nat)(S:List Nat)(c:Nat),d+m=a.length->m<fuel->Bi S->S.length=a.length->A36 S d->c<=1 ->
  val S+val (b.take d)=val (a.take d)+4294967296 ^ d*c ->
  ∃ S',Bi S'/\val S'=val a - val b/\∀ K:Nat->Bool->LA->O R,Vq N K (Bu b) b.length t a.length (Bu a) u fuel (c:Int) (a.length:Int) (d:Int) (Bu S)=K (Ch (val a - val b)).length true (Bu S')
| 0,d,fuel+1,S,c,hd,_,hS,n,z,Y,hv=>by
  have C:d=a.length:=by omega
  subst C
  rw[Bas,A80 l]at hv
  have D:=dC hS
  rw[n]at D
  have F:c=0:=by
   rcases Bda 0 c with h|h
   ·exfalso
    have:c=1:=by omega
    subst this
    omega
   ·omega
  subst F
  have v:val S=val a - val b:=by omega
  refine⟨S,hS,v,fun K=>?_⟩
  rw[Vq];unfold JZ
  rw[Gu (A86 _),cf,zH n.symm hS (by rw[n];exact q),v]
| m+1,d,fuel+1,S,c,hd,hfu,hS,n,z,Y,hv=>by
  have h1:=q.1;have h2:=q.2
  have f:d<a.length:=by omega
  have ad:=Y2 A f
  have step:∀ y g k:Nat,y=c+b.getD d 0->a[d]+4294967296*k=g+y->val (S.set d g)+val (b.take (d+1))=val (a.take (d+1))+4294967296 ^ (d+1)*k:=by
   intro y g k hy x
   rw[xJ z (by omega),Hv f,Ag2 b d,Ba5,Ba2]
   have e:4294967296 ^ d*(a[d]+4294967296*k)=4294967296 ^ d*(g+(c+b.getD d 0)):=by rw[x,hy]
   rw[Bbi,Bbi,Bbi]at e
   omega
  by_cases j:d<b.length
  ·have bd:=Y2 B j
   have x:b.getD d 0=b[d]:=by rw[A9e,A84 j];rfl
   obtain⟨g,k,G,I,L,M,T⟩:=Ag3 ad (show c+b[d]<=4294967296 by omega)
   obtain⟨S',U,V,X⟩:=Acm (t:=t) (u:=u) A B q l s m (d+1) fuel (S.set d g) k (by omega) (by omega) (Y3 hS G d) (by simpa using n) (xI z) I (step _ _ _ (by rw[x]) L)
   refine⟨S',U,V,fun K=>?_⟩
   rw[Vq];unfold JZ
   rw[F1 f,ct,Ab f,ct,Asm f,F1 j,ct,Ab j,ct,Asm j,ct,A2j (by omega),ct,t_ (show a[d]<18446744073709551616 by omega),t_ (show b[d]<18446744073709551616 by omega),A2y ad Y bd,M,T,Axk,wS (by omega)]
   exact X K
  ·have x:b.getD d 0=0:=by rw[A9e,Bbk (by omega)];rfl
   obtain⟨g,k,G,I,L,M,T⟩:=Ag3 ad (show c<=4294967296 by omega)
   obtain⟨S',U,V,X⟩:=Acm (t:=t) (u:=u) A B q l s m (d+1) fuel (S.set d g) k (by omega) (by omega) (Y3 hS G d) (by simpa using n) (xI z) I (step _ _ _ (by rw[x];rfl) L)
   refine⟨S',U,V,fun K=>?_⟩
   rw[Vq];unfold JZ
   rw[F1 f,ct,Ab f,ct,Asm f,Gu (by omega),cf,ct,A2j (by omega),ct,t_ (show a[d]<18446744073709551616 by omega),M,T,Axk,wS (by omega)]
   exact X K
def Aqa{N:Nat}{a b:List Nat}{n m:Nat}{t o t' o':Bool}(hn:n=a.length)(q:m=b.length)(j:Bi a)(k:Bi b)(d:fit (a.length+b.length) N)(e:val b<=val a):
  ∃ S',Bi S'/\val S'=val a - val b/\∀ K:Nat->Bool->LA->O R,dH N (Bu a) n t o (Bu b) m t' o' K=K (Ch (val a - val b)).length true (Bu S'):=by
 subst hn q
 have x:=d.1;have y:=d.2
 have la:=(Pv j).2
 have lb:=(Pv k).2
 have f:=j3 e
 obtain⟨S',s,l,v⟩:=Acm (R:=R) (N:=N) (a:=Ch (val a)) (b:=Ch (val b)) (t:=o') (u:=o) (Cl _) (Cl _) (d.le (by omega)) f (by rw[Bx,Bx];exact e) (Ch (val a)).length 0 N (replicate (Ch (val a)).length 0) 0 (by omega) (by omega) (EA _) (by simp) (kH _) (by omega) (by rw[AQ];simp[val])
 rw[Bx,Bx]at l
 refine⟨S',s,l,fun K=>?_⟩
 rw[lH];unfold nN
 dsimp only
 rw[Ei rfl j (d.le (by omega)),Ei rfl k (d.le (by omega)),Ag1 rfl rfl (Cl _) (Cl _) (d.le (by omega)),Bx,Bx]
 have:decide (YB (val a) (val b)<0)=false:=by unfold YB;split<;>(try split)<;>simp<;>omega
 rw[this,cf,A67 (by omega),ct,JT]
 have:=v K
 rw[Bx,Bx]at this
 exact this
def A0t{N:Nat}{a b:List Nat}{n m:Nat}{t o t' o':Bool}{K:Nat->Bool->LA->O R}(hn:n=a.length)(k:m=b.length)(f:Bi a)(j:Bi b)(d:fit (a.length+b.length) N)(e:val a<val b):
  dH N (Bu a) n t o (Bu b) m t' o' K=K 0 false []:=by
 subst hn k
 have la:=(Pv f).2
 have lb:=(Pv j).2
 rw[lH];unfold nN
 dsimp only
 rw[Ei rfl f (d.le (by omega)),Ei rfl j (d.le (by omega)),Ag1 rfl rfl (Cl _) (Cl _) (d.le (by omega)),Bx,Bx]
 have:decide (YB (val a) (val b)<0)=true:=by unfold YB;rw[if_pos e];rfl
 rw[this,ct]
def A41{n:Nat}(h:n≠0):((n:Int)==(0:Int))=false:=by rw[beq_eq_false_iff_ne];omega
def A0u:∀{S:List Nat}{j:Nat}(h:j<S.length),4294967296 ^ j*S[j]<=val S
|x::r,0,_=>by simp[val]
|x::r,j+1,h=>by
  have:=A0u (S:=r) (j:=j) (by simpa using h)
  simp only[Bc7,val,Ba5]
  rw[Bbp (4294967296 ^ j),Ba2]
  omega
def A42{S:List Nat}{k:Nat}(h:val S<4294967296 ^ k):A36 S k:=fun j d e=>by
 have f:=A0u d
 have l:4294967296 ^ k<=4294967296 ^ j:=Ba1 (by omega) e
 rcases Baz S[j]with h0|h0
 ·exact h0
 ·have:=Bc4 (4294967296 ^ j) h0
  omega
def A0v{p q y s:Nat}(d:p<4294967296)(hq:q<4294967296)(e:y<4294967296)(hs:s<4294967296):p+(q*y+s)<18446744073709551616:=by
 have:q*y<=4294967295*4294967295:=Bdm (by omega) (by omega)
 omega
def A0w{N:Nat}{x y:List Nat}{c d:Bool}{f q J:Nat}(F:Bi y)(hq:q<4294967296)(I:f<x.length)(hs:x.length+y.length<=1000000000000):∀(m l fuel:Nat)(S:List Nat)(p:Nat)(v:Nat),l+m=y.length->m<fuel->Bi S->S.length=x.length+y.length->A36 S (f+y.length)->p<4294967296 ->
  val S+4294967296 ^ (f+l)*p=v+4294967296 ^ f*(q*val (y.take l)) ->
  ∃ S',Bi S'/\S'.length=x.length+y.length/\val S'=v+4294967296 ^ f*(q*val y)/\∀(t:Nat->Int->Int->LA->O R)(K:Nat->LA->O R),Y5 N t K (Bu y) y.length d (x.length+y.length) (f:Int) (q:Int) (Bu x) x.length c (J:Int) fuel (p:Int) (y.length:Int) (l:Int) (Bu S)=t (x.length+y.length) J ((f+1:Nat):Int) (Bu S')
|0,l,fuel+1,S,p,v,L,_,hS,k,A,z,B=>by
  have C:l=y.length:=by omega
  subst C
  rw[Bas]at B
  refine⟨S.set (f+y.length) p,Y3 hS z _,by simpa using k,by rw[xJ A (by omega),B],fun t K=>?_⟩
  rw[Y5];unfold WF
  rw[Gu (A86 _),cf,wA (by omega),Ab (by omega),ct,A2j (by omega),ct,A65 z,Axk,wS (by omega)]
| m+1,l,fuel+1,S,p,v,L,M,hS,k,A,z,B=>by
  have n:l<y.length:=by omega
  have yl:=Y2 F n
  have hi:f+l<S.length:=by omega
  have sl:=Y2 hS hi
  have T:=A0v z hq yl sl
  have D:q*y[l]<18446744073709551616:=by omega
  generalize u:p+(q*y[l]+S[f+l])=s at *
  have G:=Ald (v:=s%4294967296) hi
  have key:val (S.set (f+l) (s%4294967296))+4294967296 ^ (f+(l+1))*(s/4294967296)=v+4294967296 ^ f*(q*val (y.take (l+1))):=by
   rw[Hv n,<-A97 f l 1,Ba5]
   have e:=ux (4294967296 ^ (f+l)) s
   have e2:4294967296 ^ (f+l)*s=4294967296 ^ (f+l)*p+(4294967296 ^ (f+l)*(q*y[l])+4294967296 ^ (f+l)*S[f+l]):=by rw[<-u,Bbi,Bbi]
   have e3:4294967296 ^ f*(q*(val (y.take l)+4294967296 ^ l*y[l]))=4294967296 ^ f*(q*val (y.take l))+4294967296 ^ (f+l)*(q*y[l]):=by
    rw[Bbi,Bbi,Bcu]
    congr 1
    rw[Ba2];congr 1
    rw[<-Ba2,<-Ba2,Bbp q]
   omega
  obtain⟨S',U,V,X,Y⟩:=A0w (N:=N) (x:=x) (c:=c) (d:=d) (J:=J) F hq I hs m (l+1) fuel (S.set (f+l) (s%4294967296)) (s/4294967296) v (by omega) (by omega) (Y3 hS (by omega) _) (by simpa using k) (fun j hj hk=>by
   rw[List.getElem_set,if_neg (by omega)];exact A j (by simpa using hj) hk) (by omega) key
  refine⟨S',U,V,X,fun t K=>?_⟩
  rw[Y5];unfold WF
  rw[F1 n,ct,Ab n,ct,Asm n,wA (by omega),Ab (by omega),ct,A6e hi,ct,A2j hi,ct,t_ (show q<18446744073709551616 by omega),t_ (show y[l]<18446744073709551616 by omega),t_ (show S[f+l]<18446744073709551616 by omega),A6b,t_ D,Aw9,t_ (by omega),Aw9,u,t_ T,A2r,Az8,Axk,wS (by omega)]
  exact Y t K
def Ale{N:Nat}{x y:List Nat}{c d:Bool}(hx:Bi x)(t:Bi y)(j:fit (x.length+y.length) N):∀(m f fuel:Nat)(S:List Nat),f+m=x.length->m<fuel->Bi S->S.length=x.length+y.length ->
  val S=val (x.take f)*val y ->
  ∃ S',Bi S'/\val S'=val x*val y/\∀ K:Nat->LA->O R,Sb N K (Bu y) y.length d (Bu x) x.length c fuel (x.length+y.length) (x.length:Int) (f:Int) (Bu S)=K (Ch (val x*val y)).length (Bu S')
|0,f,fuel+1,S,C,_,hS,k,s=>by
  have u:f=x.length:=by omega
  subst u
  rw[Bas]at s
  refine⟨S,hS,s,fun K=>?_⟩
  rw[Sb];unfold JW
  rw[Gu (A86 _),cf,zH k.symm hS (by rw[k];exact j),s]
| m+1,f,fuel+1,S,C,D,hS,k,s=>by
  have T:=j.1;have U:=j.2
  have e:f<x.length:=by omega
  have xf:=Y2 hx e
  have B:=dC (WC hx f)
  rw[Bar,Bbh (by omega)]at B
  have F:=dC t
  have n:val S<4294967296 ^ (f+y.length):=by
   rw[s,Bcu];exact Bc5 B F
  have l:val (x.take (f+1))*val y=val S+4294967296 ^ f*(x[f]*val y):=by
   rw[Hv e,Ba0,s,Ba2]
  by_cases h0:x[f]=0
  ·obtain⟨S',v,z,A⟩:=Ale (c:=c) (d:=d) hx t j m (f+1) fuel S (by omega) (by omega) hS k (by rw[l,h0];simp)
   refine⟨S',v,z,fun K=>?_⟩
   rw[Sb];unfold JW
   rw[F1 e,ct,Ab e,ct,Asm e,show(((x[f]:Nat):Int)==0)=true by simp[h0],ct,wS (by omega)]
   exact A K
  ·obtain⟨S1,G,I,L,M⟩:=A0w (R:=R) (N:=N) (x:=x) (y:=y) (c:=c) (d:=d) (f:=f) (q:=x[f]) (J:=x.length) t xf e (by omega) y.length 0 N S 0 (val S) (by omega) (by omega) hS k (A42 n) (by omega) (by simp[val])
   obtain⟨S',v,z,A⟩:=Ale (c:=c) (d:=d) hx t j m (f+1) fuel S1 (by omega) (by omega) G I (by rw[L,l])
   refine⟨S',v,z,fun K=>?_⟩
   rw[Sb];unfold JW
   rw[F1 e,ct,Ab e,ct,Asm e,show(((x[f]:Nat):Int)==0)=false by simp;exact h0,cf]
   have:=M (Sb N K (Bu y) y.length d (Bu x) x.length c fuel) K
   simp only[Baa]at this
   dsimp only
   rw[this]
   exact A K
def A0x{N:Nat}{a b:List Nat}{n m:Nat}{t o t' o':Bool}(hn:n=a.length)(s:m=b.length)(k:Bi a)(l:Bi b)(e:fit (a.length+b.length) N):
  ∃ S',Bi S'/\val S'=val a*val b/\∀ K:Nat->LA->O R,dG N (Bu a) n t o (Bu b) m t' o' K=K (Ch (val a*val b)).length (Bu S'):=by
 subst hn s
 have z:=e.1;have A:=e.2
 have la:=(Pv k).2
 have lb:=(Pv l).2
 by_cases f:val a=0
 ·refine⟨[],gN,by rw[f];simp[val],fun K=>?_⟩
  rw[WG];unfold gV
  dsimp only
  rw[Ei rfl k (e.le (by omega)),Ei rfl l (e.le (by omega)),f,Bb1,K4];rfl
 ·by_cases j:val b=0
  ·refine⟨[],gN,by rw[j];simp[val],fun K=>?_⟩
   rw[WG];unfold gV
   dsimp only
   rw[Ei rfl k (e.le (by omega)),Ei rfl l (e.le (by omega)),j,Nat.mul_zero,K4]
   cases ((((Ch (val a)).length:Nat):Int)==0)<;>rfl
  ·obtain⟨S',u,q,v⟩:=Ale (R:=R) (N:=N) (x:=Ch (val a)) (y:=Ch (val b)) (c:=o) (d:=o') (Cl _) (Cl _) (e.le (by omega)) (Ch (val a)).length 0 N (replicate ((Ch (val a)).length+(Ch (val b)).length) 0) (by omega) (by omega) (EA _) (by simp) (by rw[AQ];simp[val])
   rw[Bx,Bx]at q
   refine⟨S',u,q,fun K=>?_⟩
   rw[WG];unfold gV
   dsimp only
   have n1:(Ch (val a)).length≠0:=fun h=>f (Oq.1 h)
   have n2:(Ch (val b)).length≠0:=fun h=>j (Oq.1 h)
   rw[Ei rfl k (e.le (by omega)),Ei rfl l (e.le (by omega)),A41 n1,show((false:Bool)==false)=true by rfl,ct,A8k,A41 n2,cf]
   unfold gR lE
   rw[wA (by omega),A67 (by omega),ct,A8z,JT]
   have:=v K
   rw[Bx,Bx]at this
   exact this
def A2z{v:Nat}(h:(Ch v).length<=2):v<18446744073709551616:=by
 have:=dC (Cl v)
 rw[Bx]at this
 have d:4294967296 ^ (Ch v).length<=4294967296 ^ 2:=Ba1 (by omega) h
 omega
def Alf{v:Nat}(h:v<18446744073709551616):(Ch v).length<=2:=dD (by simpa using h)
def Zn{N:Nat}{l:List Nat}{n:Nat}{t o:Bool}{K:Int->O R}(hn:n=l.length)(d:Bi l)(f:l.length<=2)(hN:4<=N):GP N (Bu l) n t o K=K (val l:Int):=by
 subst hn
 obtain⟨M,rfl⟩:∃ M,N=M+4:=⟨N - 4,by omega⟩
 rw[td];unfold nY
 match l,d,f with
|[],_,_ =>
  rw[Ls];unfold Mu
  simp[val]
|[x],d,_ =>
  have hx:=(Qn.1 d).1
  rw[Ls];unfold Mu
  simp only[A83,A9m,Int.toNat_zero,Bb1,A9f,gP,A7]
  rw[show decide ((0:Int)<((0+1:Nat):Int))=true by decide,ct,show Ad 0 (0+1)=true by decide,ct,show wrap .i64 ((32:Int)*0)=0 by decide,show decide ((0:Int)<0)=false by decide,cf]
  rw[Ls];unfold Mu
  rw[show wrap .i64 ((0:Int)+1)=1 by decide,show decide ((1:Int)<((0+1:Nat):Int))=false by decide,cf]
  have e:wrap .u64 ((wrap .u64 (x:Int))*2 ^ (min (Int.toNat 0) 64))=(x:Int):=by rw[t_ (by omega)];simp;exact t_ (by omega)
  rw[e,show(0:Int)=((0:Nat):Int) by rfl,A4v (by omega) (by omega)]
  simp[val]
| [x,y],d,_ =>
  have hx:=(Qn.1 d).1
  have k:=(Qn.1 (Qn.1 d).2).1
  rw[Ls];unfold Mu
  simp only[A83,A9m,Int.toNat_zero,Bb1,A9f,gP,A7]
  rw[show decide ((0:Int)<((0+1+1:Nat):Int))=true by decide,ct,show Ad 0 (0+1+1)=true by decide,ct,show wrap .i64 ((32:Int)*0)=0 by decide,show decide ((0:Int)<0)=false by decide,cf]
  rw[Ls];unfold Mu
  rw[show wrap .i64 ((0:Int)+1)=1 by decide,show decide ((1:Int)<((0+1+1:Nat):Int))=true by decide,ct,show Ad 1 (0+1+1)=true by decide,ct,show wrap .i64 ((32:Int)*1)=32 by decide,show decide ((32:Int)<0)=false by decide]
  simp only[show Int.toNat 1*1=1 by rfl,A9s,A9f,A7,cf]
  rw[Ls];unfold Mu
  rw[show wrap .i64 ((1:Int)+1)=2 by decide,show decide ((2:Int)<((0+1+1:Nat):Int))=false by decide,cf]
  have e:wrap .u64 ((wrap .u64 (x:Int))*2 ^ (min (Int.toNat 0) 64))=(x:Int):=by rw[t_ (by omega)];simp;exact t_ (by omega)
  have j:wrap .u64 ((wrap .u64 (y:Int))*2 ^ (min (Int.toNat 32) 64))=((y*2 ^ 32:Nat):Int):=by
   rw[t_ (by omega),show(2:Int) ^ (min (Int.toNat 32) 64)=((2 ^ 32:Nat):Int) by rfl,A6b,t_ (by omega)]
  rw[e,j,show(0:Int)=((0:Nat):Int) by rfl,A4v (by omega) (by omega),A4v (by simp;omega) (by omega),Nat.zero_or,Nat.or_comm,A4w (by omega)]
  congr 1;simp only[val];omega
def lp{N:Nat}{v:Nat}(f:v<18446744073709551616)(hN:4<=N):∃ S,Bi S/\val S=v/\∀ K:Nat->LA->O R,Du N (v:Int) K=K (Ch v).length (Bu S):=by
 have e:Bi [v%4294967296,v/4294967296]:=Qn.2 ⟨by omega,Qn.2 ⟨by omega,gN⟩⟩
 have d:val [v%4294967296,v/4294967296]=v:=by simp[val];omega
 refine⟨_,e,d,fun K=>?_⟩
 rw[NH];unfold JV
 rw[Az8,A2r,A65 (show v/4294967296<4294967296 by omega)]
 have:=yz (R:=R) (N:=N) (l:=[v%4294967296,v/4294967296]) (K:=fun c=>K c (Bu [v%4294967296,v/4294967296])) e (by simp) 2 N (by simp) (by omega)
 rw[show [v%4294967296,v/4294967296].take 2=[v%4294967296,v/4294967296] by rfl,d]at this
 rw[lC];unfold nH
 exact this
def uy{N:Nat}{l:List Nat}{n:Nat}{t o:Bool}{K:Int->Bool->O R}(hn:n=l.length)(e:Bi l)(d:fit l.length N):SI N (Bu l) n t o K=if val l<18446744073709551616 then K (val l:Int) true else K 0 false:=by
 have j:=d.1
 rw[j9];unfold lI
 rw[Ei hn e d]
 by_cases h:val l<18446744073709551616
 ·have:=Alf h
  rw[if_pos h,show decide ((((Ch (val l)).length:Nat):Int)>2)=false by simp;omega,cf,Zn rfl (Cl _) this (by omega),Bx]
 ·have:¬ (Ch (val l)).length<=2:=fun f=>h (A2z f)
  rw[if_neg h,show decide ((((Ch (val l)).length:Nat):Int)>2)=true by simp;omega,ct]
def Ax0{N:Nat}{l:List Nat}{n:Nat}{t o:Bool}{K:Nat->LA->O R}(hn:n=l.length)(e:Bi l)(d:fit l.length N):NI N (Bu l) n t o K=K (Ch (val l)).length (Bu (Ch (val l))):=by
 have f:=d.1;have j:=d.2
 have:=(Pv e).2
 rw[ta];unfold yk
 rw[Ei hn e d,A67 (by omega),ct,t8,Ba9,ct]
 congr 1
 unfold C3
 rw[Nat.min_self,A9j,Bac,A9t,A80 (by rw[NG];exact A86 _),Bbd (by simp[NG]),A9g]
def A37(a b:Nat):Int.tdiv (a:Int) (b:Int)=((a/b:Nat):Int):=rfl
def A38(a b:Nat):Int.tmod (a:Int) (b:Int)=((a%b:Nat):Int):=rfl
def A0y{x y:Nat}(e:1<=y)(h:y<=x):2*(y*(x%y))<=x*y:=by
 have f:=Bcm x y
 have j:=Bdb x (show 0<y by omega)
 have hq:1<=x/y:=by rw[Nat.le_div_iff_mul_le (by omega)];omega
 have k:y*1<=y*(x/y):=Bbx _ hq
 have d:2*(x%y)<=x:=by omega
 have:=Bbx y d
 rw[Bbp x y,Nat.mul_left_comm];exact this
inductive LS where
|nil
|of (l:List Nat) (t o:Bool)
def LS.l:LS->List Nat
|.nil=>[]
|.of l _ _=>l
def LS.av:LS->AV
|.nil=>.nsl
|.of l t o=>.imm (Bu l) l.length 1 t o
def Atz{s:LS}{r:LA}{f:LA->Nat->O R}:Bh 1 (s.av::r) f=f (Bu s.l) s.l.length:=by cases s<;>simp[Bh,LS.av,LS.l,Ay0,Bu]
def A39{b:Bool}{r:LA}{f:Bool->O R}:RL (.bool b::r) f=f b:=by simp[RL,asBool]
def LW(neg:Bool)(s:LS):LA:=[.bool neg,s.av]
def Mq(neg:Bool)(s:LS):Int:=if neg then -(val s.l:Int)else(val s.l:Int)
def uz(neg:Bool)(s:LS):(Mq neg s).natAbs=val s.l:=by unfold Mq;cases neg<;>simp
def pu{neg:Bool}{s:LS}{f:Bool->O R}:RL (LW neg s) f=f neg:=A39
def sW{neg:Bool}{s:LS}{f:LA->Nat->O R}:Bh 1 (drop 1 (LW neg s)) f=f (Bu s.l) s.l.length:=by rw[LW,A9s,A9f,Atz]
def Ru{N:Nat}{c:Bool}{a:Nat}{b:LA}{K:Bool->O R}:Mj N c a b K=K (c&&decide (0<a)):=by
 rw[j4];unfold lD
 cases c<;>simp
def T_{z:Int}{c:Bool}{m:Nat}(h:z=if c then -(m:Int)else(m:Int)):(c&&decide (0<(Ch m).length))=decide (z<0)/\z.natAbs=m:=by
 have e:z.natAbs=m:=by rw[h];cases c<;>simp
 refine⟨?_,e⟩
 by_cases h0:m=0
 ·subst h0;rw[h,K4];cases c<;>simp
 ·have:0<(Ch m).length:=by
   rcases Baz (Ch m).length with d|d
   ·exact absurd (Oq.1 d) h0
   ·exact d
  rw[h];cases c<;>simp[this]<;>omega
def T2{N:Nat}{v:Int}(j:-9223372036854775808<=v/\v<=9223372036854775807)(hN:4<=N):∃ S,Bi S/\val S=v.natAbs/\∀ K:Bool->Nat->LA->O R,Jt N v K=K (decide (v<0)) (Ch v.natAbs).length (Bu S):=by
 have f:v.natAbs<18446744073709551616:=by omega
 obtain⟨S,s1,s2,s3⟩:=lp (R:=R) (N:=N) f hN
 refine⟨S,s1,s2,fun K=>?_⟩
 rw[dF];unfold dE
 by_cases h:v<0
 ·have e:wrap .u64 ((0:Int) - wrap .u64 v)=(v.natAbs:Int):=by rw[yh,yh];omega
  rw[decide_eq_true h,ct,e,s3,Ru]
  have h0:v.natAbs≠0:=by omega
  have:0<(Ch v.natAbs).length:=by
   rcases Baz (Ch v.natAbs).length with d|d
   ·exact absurd (Oq.1 d) h0
   ·exact d
  simp[this]
 ·have e:wrap .u64 v=(v.natAbs:Int):=by rw[yh];omega
  rw[decide_eq_false h,cf,e,s3,Ru];rfl
def Acn{N:Nat}{neg:Bool}{s:LS}{o:Bool}{K:Int->O R}(hs:Bi s.l)(d:fit s.l.length N):NL N (LW neg s) o K=K (Mq neg s).sign:=by
 rw[tb];unfold yo
 rw[sW,Ack rfl hs d]
 unfold Mq
 by_cases h:val s.l=0
 ·rw[h,iA,show((0:Int)==0)=true by rfl,ct];cases neg<;>rfl
 ·have:YB (val s.l) 0=1:=by unfold YB;rw[if_neg (by omega),if_pos (by omega)]
  rw[this,show((1:Int)==0)=false by rfl,cf,pu]
  cases neg
  ·rw[cf];simp only[Bbl,if_false]
   congr 1
   rw[Bak];omega
  ·rw[ct];simp only[if_true]
   congr 1
   rw[A99];omega
def Ax1{N:Nat}{n1 n2:Bool}{s1 s2:LS}{o1 o2:Bool}(e:Bi s1.l)(f:Bi s2.l)(j:fit (s1.l.length+s2.l.length) N):∃ S,Bi S/\val S=(Mq n1 s1*Mq n2 s2).natAbs/\∀ K:Bool->Nat->LA->O R,JX N (LW n1 s1) o1 (LW n2 s2) o2 K=K (decide (Mq n1 s1*Mq n2 s2<0)) (Ch (Mq n1 s1*Mq n2 s2).natAbs).length (Bu S):=by
 obtain⟨S,a1,a2,a3⟩:=A0x (R:=R) (N:=N) (a:=s1.l) (b:=s2.l) (t:=false) (o:=o1) (t':=false) (o':=o2) rfl rfl e f j
 have k:Mq n1 s1*Mq n2 s2=if (!(n1==n2))then -((val s1.l*val s2.l:Nat):Int)else((val s1.l*val s2.l:Nat):Int):=by
  unfold Mq;cases n1<;>cases n2<;>simp[Int.mul_neg,Int.neg_mul]
 obtain⟨c1,d⟩:=T_ k
 refine⟨S,a1,by rw[a2,d],fun K=>?_⟩
 rw[yj];unfold Ajf
 rw[pu,pu,sW,sW,a3,Ru,c1,d]
def Ax2{N:Nat}{n1 n2:Bool}{s1 s2:LS}{o1 o2:Bool}(j:Bi s1.l)(k:Bi s2.l)(m:fit (s1.l.length+s2.l.length+1) N):∃ S,Bi S/\val S=(Mq n1 s1+Mq n2 s2).natAbs/\∀ K:Bool->Nat->LA->O R,Ajk N (LW n1 s1) o1 (LW n2 s2) o2 K=K (decide (Mq n1 s1+Mq n2 s2<0)) (Ch (Mq n1 s1+Mq n2 s2).natAbs).length (Bu S):=by
 by_cases hn:n1=n2
 ·subst hn
  obtain⟨S,a1,a2,a3⟩:=A0s (R:=R) (N:=N) (a:=s1.l) (b:=s2.l) (t:=false) (o:=o1) (t':=false) (o':=o2) rfl rfl j k m
  have e:Mq n1 s1+Mq n1 s2=if n1 then -((val s1.l+val s2.l:Nat):Int)else((val s1.l+val s2.l:Nat):Int):=by
   unfold Mq;cases n1<;>simp;omega
  obtain⟨c1,d⟩:=T_ e
  refine⟨S,a1,by rw[a2,d],fun K=>?_⟩
  rw[WH];unfold nP
  rw[pu,pu,show(n1==n1)=true by simp,ct,pu,sW,sW,a3,Ru,c1,d]
 ·have f:(n1==n2)=false:=by simp[hn]
  by_cases n:val s2.l<=val s1.l
  ·obtain⟨S,a1,a2,a3⟩:=Aqa (R:=R) (N:=N) (a:=s1.l) (b:=s2.l) (t:=false) (o:=o1) (t':=false) (o':=o2) rfl rfl j k (m.le (by omega)) n
   have e:Mq n1 s1+Mq n2 s2=if n1 then -((val s1.l - val s2.l:Nat):Int)else((val s1.l - val s2.l:Nat):Int):=by
    unfold Mq;cases n1<;>cases n2<;>simp at hn ⊢<;>omega
   obtain⟨c1,d⟩:=T_ e
   refine⟨S,a1,by rw[a2,d],fun K=>?_⟩
   rw[WH];unfold nP
   rw[pu,pu,f,cf,sW,sW,a3,ct,pu,Ru,c1,d]
  ·obtain⟨S,a1,a2,a3⟩:=Aqa (R:=R) (N:=N) (a:=s2.l) (b:=s1.l) (t:=false) (o:=o2) (t':=false) (o':=o1) rfl rfl k j (m.le (by omega)) (by omega)
   have e:Mq n1 s1+Mq n2 s2=if n2 then -((val s2.l - val s1.l:Nat):Int)else((val s2.l - val s1.l:Nat):Int):=by
    unfold Mq;cases n1<;>cases n2<;>simp at hn ⊢<;>omega
   obtain⟨c1,d⟩:=T_ e
   refine⟨S,a1,by rw[a2,d],fun K=>?_⟩
   rw[WH];unfold nP
   rw[pu,pu,f,cf,sW,sW,A0t rfl rfl j k (m.le (by omega)) (by omega),cf,sW,sW,a3,pu,Ru,c1,d]
def Ae6(x y:Int):Int:=if x<y then -1 else if y<x then 1 else 0
def A0z(z:Int)(d:Nat)(j:d≠0):(mkRat z d).num.natAbs=z.natAbs/Nat.gcd z.natAbs d/\((mkRat z d).num<0↔z<0)/\(mkRat z d).den=d/Nat.gcd z.natAbs d:=by
 have l:0<Nat.gcd z.natAbs d:=Bcx _ (by omega)
 rw[Rat.num_mkRat,Rat.den_mkRat,if_neg j,if_neg j,Bc9 d]
 have e:((Nat.gcd z.natAbs d:Nat):Int)∣z:=Int.dvd_natAbs.1 (Int.natCast_dvd_natCast.2 (Bc3 _ _))
 obtain⟨c,k⟩:=e
 have m:z.natAbs.gcd d=Nat.gcd z.natAbs d:=rfl
 generalize Nat.gcd z.natAbs d=g at *
 refine⟨?_,?_,rfl⟩
 ·rw[k,Bcw _ (by omega),Int.natAbs_mul,Bbm,Nat.mul_div_cancel_left _ l]
 ·rw[k,Bcw _ (by omega)]
  constructor
  ·intro h;exact Int.mul_neg_of_pos_of_neg (by omega) h
  ·intro h;rcases Int.lt_or_le c 0 with f|f
   ·exact f
   ·have:=Int.mul_nonneg (show(0:Int)<=g by omega) f;omega
structure RatD where
 neg:Bool
 ns:LS
 ds:LS
def RatD.av(x:RatD):LA:=[.bool x.neg,x.ns.av,x.ds.av]
def RatD.ok(x:RatD):Prop:=Bi x.ns.l/\Bi x.ds.l
def RatD.m(x:RatD):Nat:=max x.ns.l.length x.ds.l.length
def RatD.q(x:RatD):Rat:=mkRat (Mq x.neg x.ns) (val x.ds.l)
def RatD.can(x:RatD)(q:Rat):Prop:=x.neg=decide (q.num<0)/\x.ns.l=Ch q.num.natAbs/\x.ds.l=Ch q.den
def qm(q:Rat):Nat:=max (Ch q.num.natAbs).length (Ch q.den).length
def RatD.can.ok{x:RatD}{q:Rat}(h:x.can q):x.ok:=⟨by rw[h.2.1];exact Cl _,by rw[h.2.2];exact Cl _⟩
def RatD.can.m{x:RatD}{q:Rat}(h:x.can q):x.m=qm q:=by unfold RatD.m qm;rw[h.2.1,h.2.2]
def RatD.can.q{x:RatD}{q:Rat}(h:x.can q):x.q=q:=by
 unfold RatD.q Mq
 rw[h.1,h.2.1,h.2.2,Bx,Bx]
 have:(if decide (q.num<0)=true then -(q.num.natAbs:Int)else(q.num.natAbs:Int))=q.num:=by
  by_cases h0:q.num<0
  ·rw[if_pos (by simpa using h0)];omega
  ·rw[if_neg (by simpa using h0)];omega
 rw[this,Rat.mkRat_self]
def A43{x:RatD}{f:Bool->O R}:RL x.av f=f x.neg:=A39
def A44{x:RatD}{f:LA->Nat->O R}:Bh 1 (drop 1 x.av) f=f (Bu x.ns.l) x.ns.l.length:=by rw[RatD.av,A9s,A9f,Atz]
def At0{x:RatD}{f:LA->Nat->O R}:Bh 1 (drop 2 x.av) f=f (Bu x.ds.l) x.ds.l.length:=by rw[RatD.av,A9s,A9s,A9f,Atz]
def Aqb(x:RatD):ble 3 (List.length x.av)=true:=rfl
def vA(x:RatD):take 3 x.av=x.av:=rfl
def A6j(x:RatD):take 2 x.av=LW x.neg x.ns:=rfl
def A79(x:RatD):((beq 0 0)&&((beq (List.length x.av) 3)&&(beq 3 3)))=true:=rfl
def A7s(x:RatD):beq (List.length x.av) 3=true:=rfl
def A4a(n:Bool)(s:LS):((beq 0 0)&&((beq (List.length (LW n s)) 2)&&(beq 2 2)))=true:=rfl
def A00(n:Bool)(s:LS):ble 2 (List.length (LW n s))=true:=rfl
def A6k(n:Bool)(s:LS):take 2 (LW n s)=LW n s:=rfl
def Ax3:Bi [1]:=by intro x hx;simp at hx;omega
def BT:Ch 1=[1]:=by rw[NF (by omega)];simp[K4]
def J6{v:Nat}{S:List Nat}(d:Bi S)(e:val S=v):take ((Ch v).length*1) (Bu S)=Bu (Ch v):=by rw[<-e,Axl d]
def A20(neg:Bool)(l:List Nat)(t o:Bool):([.bool neg,.imm (Bu l) l.length 1 t o]:LA)=LW neg (.of l t o):=rfl
def Ae7{N:Nat}{v:Int}(e:-9223372036854775808<=v/\v<=9223372036854775807)(hN:4<=N):∃ d:RatD,d.can (v:Rat)/\∀ K:LA->O R,Y7 N v K=K d.av:=by
 obtain⟨S,s1,s2,s3⟩:=T2 (R:=R) (N:=N) e hN
 refine⟨⟨decide (v<0),.of (Ch v.natAbs) false false,.of (Ch 1) false false⟩,⟨rfl,rfl,rfl⟩,fun K=>?_⟩
 rw[dJ];unfold dI
 rw[s3,J6 s1 s2,BT];rfl
def lq{N:Nat}{x:RatD}{o:Bool}(hx:x.ok)(f:fit x.m N):∃(neg:Bool)(s:LS)(l:List Nat)(o1 o2:Bool),Bi s.l/\Bi l/\val l≠0/\s.l.length<=x.m/\l.length<=max x.m 1/\mkRat (Mq neg s) (val l)=x.q/\∀ K:LA->Bool->LA->Nat->Bool->O R,Wu N x.av o K=K (LW neg s) o1 (Bu l) l.length o2:=by
 have e:x.ns.l.length<=x.m:=Bdc _ _
 have d:x.ds.l.length<=x.m:=Nat.le_max_right _ _
 by_cases h0:val x.ds.l=0
 ·refine⟨false,.nil,[1],false,false,gN,Ax3,by decide,by simp[LS.l],by simp;omega,?_,fun K=>?_⟩
  ·unfold RatD.q;rw[h0];simp[Mq,LS.l,val]
  ·rw[WK];unfold gW
   rw[At0,Ack rfl hx.2 (f.le d),h0,iA];rfl
 ·refine⟨x.neg,x.ns,x.ds.l,o,o,hx.1,hx.2,h0,e,by omega,rfl,fun K=>?_⟩
  have:YB (val x.ds.l) 0=1:=by unfold YB;rw[if_neg (by omega),if_pos (by omega)]
  rw[WK];unfold gW
  rw[At0,Ack rfl hx.2 (f.le d),this,show((1:Int)==0)=false by rfl,cf,show ble 2 (List.length x.av)=true by rfl,ct,At0,A6j,A4a,ct,A00,ct,A6k]
def A6l(z:Int)(d:Nat)(f:d≠0):(mkRat z d).num.sign=z.sign:=by
 obtain⟨k,j,_⟩:=A0z z d f
 rcases Bcs z 0 with h|h|h
 ·rw[A99 h,A99 (j.2 h)]
 ·subst h;simp
 ·have hn:¬ (mkRat z d).num<0:=fun e=>by have:=j.1 e;omega
  have h0:(mkRat z d).num≠0:=fun e=>by
   have:mkRat z d=0:=Rat.num_eq_zero.1 e
   rw[Rat.mkRat_eq_zero f]at this;omega
  rw[Bak h,Bak (by omega)]
def Aco{N:Nat}{x:RatD}{o:Bool}{K:Int->O R}(hx:x.ok)(d:fit x.m N):nW N x.av o K=K x.q.num.sign:=by
 obtain⟨neg,s,l,o1,o2,e,t,f,j,u,k,n⟩:=lq (R:=R) (o:=o) hx d
 rw[tc];unfold yp
 rw[Aqb,ct,vA,n,A4a,ct,A00,ct,A6k,Acn e (d.le j),<-k,A6l _ _ f]
def Ag4{N:Nat}{a b c:Nat}{s:Int}(hN:4<=N)(t:a<18446744073709551616)(L:b<9223372036854775808)(u:0<c)(v:c∣a):∀(k fuel x y:Nat),k<fuel->x*y<2 ^ k->y<=x->Nat.gcd x y=c->∃ d:RatD,d.neg=decide (s<0)/\d.ns.l=Ch (a/c)/\d.ds.l=Ch (b/c)/\∀ K:LA->O R,Ed N K s (b:Int) (a:Int) fuel (x:Int) (y:Int)=K d.av:=by
 have base:∀(fuel:Nat),∃ d:RatD,d.neg=decide (s<0)/\d.ns.l=Ch (a/c)/\d.ds.l=Ch (b/c)/\∀ K:LA->O R,Ed N K s (b:Int) (a:Int) (fuel+1) (c:Int) ((0:Nat):Int)=K d.av:=by
  intro fuel
  have n:a/c<18446744073709551616:=Bam (Nat.div_le_self _ _) t
  have q:b/c<18446744073709551616:=Bam (Nat.div_le_self _ _) (by omega)
  obtain⟨S1,s1,s2,s3⟩:=lp (R:=R) (N:=N) n hN
  obtain⟨S2,t1,t2,t3⟩:=lp (R:=R) (N:=N) q hN
  refine⟨⟨decide (s<0),.of (Ch (a/c)) false false,.of (Ch (b/c)) false false⟩,rfl,rfl,rfl,fun K=>?_⟩
  rw[Ed];unfold Ot
  rw[show(((0:Nat):Int) != 0)=false by rfl,cf,A41 (by omega),cf,A37,t_ n,s3,cf,t_ (show b<18446744073709551616 by omega),A37,t_ q,t3,J6 s1 s2,J6 t1 t2];rfl
 intro k
 induction k with
| zero =>
  intro fuel x y z e j f
  obtain⟨fuel,rfl⟩:∃ F,fuel=F+1:=⟨fuel - 1,by omega⟩
  have A:y=0:=by
   rcases Baz y with h|h
   ·exact h
   ·have M:=Bbx x (show 1<=y by omega)
    rw[Bdx]at e;omega
  subst A
  rw[Bds]at f;subst f
  exact base fuel
| succ k B =>
  intro fuel x y z e j f
  obtain⟨fuel,rfl⟩:∃ F,fuel=F+1:=⟨fuel - 1,by omega⟩
  rcases Baz y with h|h
  ·subst h;rw[Bds]at f;subst f;exact base fuel
  ·have S:=A0y (show 1<=y by omega) j
   have T:=Bdb x h
   have m:Nat.gcd y (x%y)=Nat.gcd x y:=by rw[Bc9,<-Nat.gcd_rec,Bc9]
   obtain⟨d,C,D,G,I⟩:=B fuel y (x%y) (by omega) (by rw[Ba5]at e;omega) (by omega) (by rw[m,f])
   refine⟨d,C,D,G,fun K=>?_⟩
   rw[Ed];unfold Ot
   rw[show((y:Int) != 0)=true by rw[bne_iff_ne];omega,ct,A41 (by omega),cf,A38]
   exact I K
def Ae8{N:Nat}{s:Int}{b:Nat}(hs:-9223372036854775808<=s/\s<=9223372036854775807)(m:0<b)(x:b<9223372036854775808)(hN:1000<=N):∃ d:RatD,d.can (mkRat s b)/\∀ K:LA->O R,Qp N s (b:Int) K=K d.av:=by
 obtain⟨m1,m2,m3⟩:=A0z s b (by omega)
 have f:∀ d:RatD,d.neg=decide (s<0)->d.ns.l=Ch (s.natAbs/Nat.gcd s.natAbs b)->d.ds.l=Ch (b/Nat.gcd s.natAbs b)->d.can (mkRat s b):=by
  intro d y z A
  exact⟨by rw[y];congr 1;exact propext m2.symm,by rw[z,m1],by rw[A,m3]⟩
 have k:s.natAbs<18446744073709551616:=by omega
 have start:∀ K:LA->O R,Qp N s (b:Int) K=Ed N K s (b:Int) (s.natAbs:Int) N (b:Int) (s.natAbs:Int):=by
  intro K
  rw[ZI];unfold GQ Ww EB
  dsimp only
  by_cases h:s<0
  ·have e:wrap .u64 ((0:Int) - wrap .u64 s)=(s.natAbs:Int):=by rw[yh,yh];omega
   rw[decide_eq_true h,ct,e,t_ (by omega)]
  ·have e:wrap .u64 s=(s.natAbs:Int):=by rw[yh];omega
   rw[decide_eq_false h,cf,e,t_ (by omega)]
 have j:0<Nat.gcd s.natAbs b:=Bcx _ m
 by_cases n:s.natAbs<=b
 ·obtain⟨d,q,t,u,v⟩:=Ag4 (R:=R) (N:=N) (a:=s.natAbs) (b:=b) (c:=Nat.gcd s.natAbs b) (s:=s) (by omega) k x j (Bc3 _ _) 128 N b s.natAbs (by omega) (by
   have:=Bc5 (show b<18446744073709551616 by omega) k;exact this) n (Bc9 _ _)
  exact⟨d,f d q t u,fun K=>by rw[start,v]⟩
 ·obtain⟨F,hF⟩:∃ F,N=F+1:=⟨N - 1,by omega⟩
  obtain⟨d,q,t,u,v⟩:=Ag4 (R:=R) (N:=N) (a:=s.natAbs) (b:=b) (c:=Nat.gcd s.natAbs b) (s:=s) (by omega) k x j (Bc3 _ _) 128 F s.natAbs (b%s.natAbs) (by omega) (by
   rw[Ba4 (by omega)]
   have:=Bc5 k (show b<18446744073709551616 by omega);exact this) (by rw[Ba4 (by omega)];omega) (by rw[Ba4 (by omega)])
  refine⟨d,f d q t u,fun K=>?_⟩
  rw[start,<-v K]
  conv=>lhs;rw[show(Ed N K s (b:Int) (s.natAbs:Int) N)=Ed N K s (b:Int) (s.natAbs:Int) (F+1) by rw[<-hF]]
  rw[Ed];unfold Ot
  rw[show((s.natAbs:Int) != 0)=true by rw[bne_iff_ne];omega,ct,A41 (by omega),cf,A38]
def Aqc{N:Nat}{a b:Int}{K:Int->O R}:Ub N a b K=K (Ae6 a b):=by
 rw[FG];unfold Y9
 simp only[NM];unfold KA
 rw[show(a != a)=false by simp,show(b != b)=false by simp]
 dsimp only
 rw[cf,cf]
 unfold Ae6
 by_cases h:a<b
 ·rw[decide_eq_true h,ct,if_pos h]
 ·rw[decide_eq_false h,cf,if_neg h]
  by_cases d:b<a
  ·rw[decide_eq_true (show a>b from d),ct,if_pos d]
  ·rw[decide_eq_false (show ¬ a>b from d),cf,if_neg d]
def Ae9{N:Nat}{a b:Int}{K:Int->O R}:Px N a b K=K (Ae6 a b):=by
 rw[Xz];unfold U4
 simp only[FH];unfold Za
 rw[show(a != a)=false by simp,show(b != b)=false by simp]
 dsimp only
 rw[cf,cf]
 unfold Ae6
 by_cases h:a<b
 ·rw[decide_eq_true h,ct,if_pos h]
 ·rw[decide_eq_false h,cf,if_neg h]
  by_cases d:b<a
  ·rw[decide_eq_true (show a>b from d),ct,if_pos d]
  ·rw[decide_eq_false (show ¬ a>b from d),cf,if_neg d]
def bA(z:Int):LA:=LW (decide (z<0)) (.of (Ch z.natAbs) false false)
def A8n(z:Int):take 2 (bA z)=bA z:=rfl
def A7t(z:Int):ble 2 (List.length (bA z))=true:=rfl
def A6m(z:Int):beq (List.length (bA z)) 2=true:=rfl
def A8o(v:Nat):take ((Ch v).length*1) (Bu (Ch v))=Bu (Ch v):=J6 (Cl _) (Bx v)
end
end Gx
namespace Gx
open Go
def Eh(c:UInt8):Bool:=decide (48<=c.toNat)&&decide (c.toNat<=57)
def Ke(s:Lu):Nat:=s.foldl (fun a c=>10*a+(c.toNat - 48)) 0
def Aqd(s:Lu):Bool:=s.all Eh&&!s.isEmpty
def Th(s:Lu):Bool:=Aqd s&&(s==[48]||s.head? != some 48)
abbrev dec:=Lib.decDigits
def Ax4(s:Lu):∀ a,s.foldl (fun a c=>10*a+(c.toNat - 48)) a=a*10 ^ s.length+Ke s:=by
 unfold Ke
 induction s with
|nil=>intro a;simp
|cons c r d =>
  intro a
  rw[A9u,A9u,d,d (10*0+_),A83,Ba5,Ba0,Ba0]
  have:10*a*10 ^ r.length=a*(10 ^ r.length*10):=by rw[Bbp 10 a,Ba2,Bbp 10]
  rw[this];omega
def fV(a b:Lu):Ke (a++b)=Ke a*10 ^ b.length+Ke b:=by
 have:=Ax4 b (Ke a)
 unfold Ke at *
 rw[Bab];exact this
def Ax5(a:Lu)(c:UInt8):Ke (a++[c])=10*Ke a+(c.toNat - 48):=by rw[fV];simp[Ke];omega
def Ag5(c:UInt8)(r:Lu):Ke (c::r)=(c.toNat - 48)*10 ^ r.length+Ke r:=by
 have:=fV [c] r
 simpa[Ke]using this
def Avs{s:Lu}(h:s.all Eh=true):Ke s<10 ^ s.length:=by
 induction s with
|nil=>simp[Ke]
|cons c r d =>
  simp only[A9i,A81]at h
  have e:=d h.2
  have f:c.toNat<=57:=by have:=h.1;simp[Eh]at this;omega
  rw[Ag5,A83,Ba5]
  have:(c.toNat - 48)*10 ^ r.length<=9*10 ^ r.length:=A9y _ (by omega)
  omega
def T'{u:Nat}(h:u<10):dec u=[UInt8.ofNat (48+u)]:=by rw[dec,Lib.decDigits,dif_pos h]
def xK{u:Nat}(h:10<=u):dec u=dec (u/10)++[UInt8.ofNat (48+u%10)]:=by rw[dec,Lib.decDigits,dif_neg (by omega)]
def iB{k:Nat}(h:k<10):Eh (UInt8.ofNat (48+k))=true/\(UInt8.ofNat (48+k)).toNat=48+k:=by
 have:(UInt8.ofNat (48+k)).toNat=48+k:=by simp;omega
 exact⟨by simp[Eh,this];omega,this⟩
def pv:∀ u,(dec u).all Eh=true:=by
 intro u
 induction u using Nat.strongRecOn with
| ind u d =>
  by_cases h:u<10
  ·rw[T' h];simpa using(iB h).1
  ·rw[xK (by omega),List.all_append,d (u/10) (by omega)]
   simpa using(iB (k:=u%10) (by omega)).1
def Acp(u:Nat):dec u≠[]:=by
 by_cases h:u<10
 ·rw[T' h];simp
 ·rw[xK (by omega)];simp
def Acq:∀ u,Ke (dec u)=u:=by
 intro u
 induction u using Nat.strongRecOn with
|ind u d =>
  by_cases h:u<10
  ·rw[T' h];simp only[Ke,A9u,Ba8,(iB h).2];omega
  ·rw[xK (by omega),Ax5,d (u/10) (by omega),(iB (k:=u%10) (by omega)).2];omega
def A01:∀ u,0<u->(dec u).head?≠some 48:=by
 intro u
 induction u using Nat.strongRecOn with
| ind u f =>
  intro h0
  by_cases h:u<10
  ·rw[T' h]
   intro e
   simp at e
   have:=congrArg UInt8.toNat e
   simp at this;omega
  ·rw[xK (by omega)]
   have:=f (u/10) (by omega) (by omega)
   cases d:dec (u/10)with
   |nil=>exact absurd d (Acp _)
   |cons c r=>rw[d]at this;simpa using this
def sX(u:Nat):Th (dec u)=true:=by
 have d:=pv u
 have e:=Acp u
 rcases Baz u with h|h
 ·subst h;rw[T' (by omega)];decide
 ·have f:=A01 u h
  simp only[Th,Aqd,d,Bav,A81,Bb8,bne_iff_ne]
  refine⟨?_,.inr f⟩
  cases j:dec u with
  |nil=>exact absurd j e
  |cons c r=>rfl
end Gx
namespace Gx
open Go Go.Proofs
section
variable{R:Type}
def A02{v:Int}(h:v.natAbs<18446744073709551616):qm (v:Rat)<=2:=by
 unfold qm;rw[Bae,Bbj,BT]
 have:=Alf h
 simp;omega
def Ag6{N:Nat}{n1:Bool}{s1:LS}{o1:Bool}{K:Bool->Nat->LA->O R}(d:Bi s1.l)(e:fit s1.l.length N):rS N (LW n1 s1) o1 K=K (decide (-Mq n1 s1<0)) (Ch (Mq n1 s1).natAbs).length (Bu (Ch (Mq n1 s1).natAbs)):=by
 obtain⟨c1,f⟩:=T_ (z:=-Mq n1 s1) (c:=!n1) (m:=val s1.l) (by unfold Mq;cases n1<;>simp)
 rw[ym];unfold Ajg
 rw[pu,sW,Ax0 rfl d e,Ru,c1,uz]
def A8p(z:Int):((beq 0 0)&&((beq (List.length (bA z)) 2)&&(beq 2 2)))=true:=rfl
def A8a(z:Int)(f:Bool->O R):RL (bA z) f=f (decide (z<0)):=pu
def A8b(z:Int)(f:LA->Nat->O R):Bh 1 (drop 1 (bA z)) f=f (Bu (Ch z.natAbs)) (Ch z.natAbs).length:=sW
def A03(v:Nat):bA (v:Int)=LW false (.of (Ch v) false false):=by unfold bA;rw[decide_eq_false (by omega),Bbm]
def kI{N:Nat}{b:Lu}{c:UInt8}{K:Lu->Bool->O R}:Gf N (c::b) [c] K=K b true:=by
 rw[Pd];unfold Oa
 rw[Fo];unfold Ea
 rw[Fn];unfold D9
 have d:((decide ((((c::b).length:Nat):Int)>=((([c]:Lu).length:Nat):Int)))==true)=true:=by simp;omega
 have e:((decide ((0:Int)<=(0:Int)))&&((decide ((0:Int)<=((([c]:Lu).length:Nat):Int)))&&((decide (((([c]:Lu).length:Nat):Int)<=(((c::b).length:Nat):Int)))&&(decide ((((c::b).length:Nat):Int)<=(((c::b).length:Nat):Int))))))=true:=by simp;omega
 have f:((decide ((0:Int)<=((([c]:Lu).length:Nat):Int)))&&((decide (((([c]:Lu).length:Nat):Int)<=(((c::b).length:Nat):Int)))&&((decide ((((c::b).length:Nat):Int)<=(((c::b).length:Nat):Int)))&&(decide ((((c::b).length:Nat):Int)<=(((c::b).length:Nat):Int))))))=true:=by simp;omega
 rw[d,ct,e,ct,show cond true ((take ([c]:Lu).length (c::b))==[c]) false=true by simp]
 dsimp only
 rw[show(!true)=false by rfl,cf,f,ct]
 simp
def fW{N:Nat}{b:Lu}{c:UInt8}{K:Lu->Bool->O R}(h:b.head?≠some c):Gf N b [c] K=K b false:=by
 rw[Pd];unfold Oa
 rw[Fo];unfold Ea
 rw[Fn];unfold D9
 cases b with
|nil=>rfl
|cons d r =>
  have e:d≠c:=by simpa using h
  have f:((decide ((((d::r).length:Nat):Int)>=((([c]:Lu).length:Nat):Int)))==true)=true:=by simp;omega
  have j:((decide ((0:Int)<=(0:Int)))&&((decide ((0:Int)<=((([c]:Lu).length:Nat):Int)))&&((decide (((([c]:Lu).length:Nat):Int)<=(((d::r).length:Nat):Int)))&&(decide ((((d::r).length:Nat):Int)<=(((d::r).length:Nat):Int))))))=true:=by simp;omega
  rw[f,ct,j,ct,show cond true ((take ([c]:Lu).length (d::r))==[c]) false=false by simp[e]]
  rfl
def lw{s:Lu}{p:Nat}(h:p<s.length)(d:s[p].toNat<128):DR s (p:Int)=(s[p].toNat,1):=by
 unfold DR
 rw[A8z]
 exact decode_ascii ⟨⟨s⟩⟩ p h d
def Ax6{s:Lu}{p:Nat}(h:p<s.length)(d:128<=s[p].toNat):128<=(DR s (p:Int)).1:=by
 unfold DR
 rw[A8z]
 exact(decode_high ⟨⟨s⟩⟩ p h d).1
def Afa{N:Nat}{s:Lu}{K:Bool->O R}(hs:s≠[]):∀(m p fuel:Nat),p<=s.length->s.length - p=m->m<fuel->J3 N K s fuel (p:Int)=K ((s.drop p).all Eh):=by
 intro m
 induction m with
| zero =>
  intro p fuel e f j
  cases fuel with
  |zero=>omega
  |succ fuel =>
   rw[J3];unfold Up
   rw[Gu (by omega),cf,Bbd (by omega),show(!(s==([]:Lu)))=true by simp[hs]]
   rfl
| succ m k =>
  intro p fuel e f j
  cases fuel with
  |zero=>omega
  | succ fuel =>
   have d:p<s.length:=by omega
   rw[J3];unfold Up
   rw[F1 d,ct,Bai d,A9i]
   by_cases l:s[p].toNat<128
   ·rw[lw d l]
    simp only
    by_cases n:s[p].toNat<48
    ·rw[show(decide (((s[p].toNat:Nat):Int)<48)==false)=false by simp;omega,cf]
     have:Eh s[p]=false:=by simp[Eh];omega
     rw[this];rfl
    ·rw[show(decide (((s[p].toNat:Nat):Int)<48)==false)=true by simp;omega,ct]
     by_cases q:s[p].toNat>57
     ·rw[show cond false true (decide (((s[p].toNat:Nat):Int)>57))=true by simp;omega,ct]
      have:Eh s[p]=false:=by simp[Eh];omega
      rw[this];rfl
     ·rw[show cond false true (decide (((s[p].toNat:Nat):Int)>57))=false by simp;omega,cf]
      have:Eh s[p]=true:=by simp[Eh];omega
      rw[this,Bav,show((p:Int)+((1:Nat):Int))=((p+1:Nat):Int) by omega]
      exact k (p+1) fuel (by omega) (by omega) (by omega)
   ·have t:=Ax6 d (by omega)
    have:Eh s[p]=false:=by simp[Eh];omega
    rw[this,show(decide ((((DR s (p:Int)).1:Nat):Int)<48)==false)=true by simp;omega,ct,show cond false true (decide ((((DR s (p:Int)).1:Nat):Int)>57))=true by simp;omega,ct]
    rfl
def Afb{N:Nat}{s:Lu}{K:Bool->O R}(d:s.length<N):Vy N s K=K (Aqd s):=by
 rw[ZV];unfold IB
 cases s with
|nil =>
  obtain⟨n,rfl⟩:∃ n,N=n+1:=⟨N - 1,by simp at d;omega⟩
  rfl
|cons c r =>
  have:=Afa (R:=R) (N:=N) (s:=c::r) (K:=K) (by simp) (c::r).length 0 N (by omega) (by omega) d
  refine Bby this ?_
  congr 1
  simp[Aqd]
def pw{N:Nat}{s:Lu}{K:Bool->O R}(j:s.length<N):Zo N s K=K (Th s):=by
 rw[fB];unfold fA
 rw[Afb j]
 by_cases d:Aqd s=true
 ·rw[d,show(true==true)=true by rfl,ct]
  unfold Th
  rw[d,Bav]
  by_cases h0:s=[48]
  ·subst h0;rfl
  ·have k:(s==[48])=false:=by simpa using h0
   rw[k,show(false==false)=true by rfl,ct,Bah]
   cases s with
   |nil=>simp[Aqd]at d
   | cons c r =>
    rw[show Ad 0 (c::r).length=true by unfold Ad;simp,ct]
    congr 1
    simp only[cond_true,cond_false,List.getD_cons_zero,List.head?_cons]
    by_cases f:c=48
    ·subst f;rfl
    ·have:((c.toNat:Int) != 48)=true:=by
      rw[bne_iff_ne];intro e
      apply f;apply Bdd.1
      have:c.toNat=48:=by omega
      rw[this];rfl
     rw[this]
     have l:((some c:Option UInt8) != some 48)=true:=by rw[bne_iff_ne];simpa using f
     rw[l]
 ·have d:Aqd s=false:=by simpa using d
  rw[d,show(false==true)=false by rfl,cf]
  unfold Th
  rw[d];rfl
def sY(s:Lu):Bool:=match s with
|45::r=>Th r&&!(r==[48])
|s=>Th s
def kJ{N:Nat}{s:Lu}{K:Bool->O R}(d:s.length<N):Vz N s K=K (sY s):=by
 rw[ZW];unfold XO
 by_cases h:s.head?=some 45
 ·obtain⟨r,rfl⟩:∃ r,s=45::r:=by
   cases s with
   |nil=>simp at h
   |cons c r=>simp at h;exact⟨r,by rw[h]⟩
  rw[kI,pw (by simp at d;omega)]
  show _=K (Th r&&!(r==[48]))
  cases Th r
  ·rfl
  ·rw[Bav];cases r==[48]<;>rfl
 ·rw[fW h,pw d]
  have:sY s=Th s:=by
   unfold sY
   split
   ·simp at h
   ·rfl
  rw[this]
  cases Th s<;>rfl
def Alg(s:Lu):Nat:=s.countP Eh
def Alh{N:Nat}{s:Lu}{K:Bool->O R}(hs:∀ c∈s,c.toNat<128)(t:s.length<=1000000000000):∀(m p d fuel:Nat),p<=s.length->s.length - p=m->m<fuel->d<=p->Lx N K s fuel (d:Int) (p:Int)=K (decide (4096<d+Alg (s.drop p))):=by
 intro m
 induction m with
| zero =>
  intro p d fuel j k l n
  cases fuel with
  |zero=>omega
  |succ fuel =>
   rw[Lx];unfold Xh
   rw[Gu (by omega),cf,Bbd (by omega)]
   congr 1
   rw[decide_eq_decide];simp[Alg];omega
| succ m f =>
  intro p d fuel j k l n
  cases fuel with
  |zero=>omega
  | succ fuel =>
   have e:p<s.length:=by omega
   have q:s[p].toNat<128:=hs _ (A9c e)
   rw[Lx];unfold Xh
   rw[F1 e,ct,Bai e,lw e q]
   simp only
   rw[show((p:Int)+((1:Nat):Int))=((p+1:Nat):Int) by omega]
   have hn:Alg (s[p]::s.drop (p+1))=Alg (s.drop (p+1))+(if Eh s[p]then 1 else 0):=by unfold Alg;rw[List.countP_cons]
   rw[hn]
   by_cases u:48<=s[p].toNat
   ·rw[show(decide (((s[p].toNat:Nat):Int)>=48)==true)=true by simp;omega,ct]
    by_cases v:s[p].toNat<=57
    ·rw[show cond true (decide (((s[p].toNat:Nat):Int)<=57)) false=true by simp;omega,ct,wS (by omega),f (p+1) (d+1) fuel (by omega) (by omega) (by omega) (by omega)]
     have:Eh s[p]=true:=by simp[Eh];omega
     rw[this,if_pos rfl]
     congr 1;rw[decide_eq_decide];omega
    ·rw[show cond true (decide (((s[p].toNat:Nat):Int)<=57)) false=false by simp;omega,cf,f (p+1) d fuel (by omega) (by omega) (by omega) (by omega)]
     have:Eh s[p]=false:=by simp[Eh];omega
     rw[this];rfl
   ·rw[show(decide (((s[p].toNat:Nat):Int)>=48)==true)=false by simp;omega,cf,f (p+1) d fuel (by omega) (by omega) (by omega) (by omega)]
    have:Eh s[p]=false:=by simp[Eh];omega
    rw[this];rfl
def qA{N:Nat}{s:Lu}{K:Bool->O R}(hs:∀ c∈s,c.toNat<128)(d:s.length<=1000000000000)(e:s.length<N):Zp N s K=K (decide (4096<Alg s)):=by
 rw[fC];unfold OS
 have:=Alh (R:=R) (N:=N) (K:=K) hs d s.length 0 0 N (by omega) (by omega) e (by omega)
 simpa using this
def A04(m:Nat):(Int.tmod (m:Int) 2==1)=decide (m%2=1):=by
 rw[show Int.tmod (m:Int) 2=((m%2:Nat):Int) by rfl]
 rw[Bool.eq_iff_iff];simp;omega
def A05{m:Nat}(h:m<=1000000000000):wrap .i64 (Int.tdiv (m:Int) 2)=((m/2:Nat):Int):=by rw[show Int.tdiv (m:Int) 2=((m/2:Nat):Int) by rfl,i64 (by omega)]
def Avt(n:Bool)(s:LS)(x y:AV):C3 (LW n s) 0 [x,y]=[x,y]:=rfl
def A50(s:LS):Mq false s=(val s.l:Int):=rfl
def A06{N:Nat}{s1 s2:LS}{o1 o2:Bool}(d:Bi s1.l)(e:Bi s2.l)(f:fit (s1.l.length+s2.l.length) N):∃ S,Bi S/\val S=val s1.l*val s2.l/\∀ K:Bool->Nat->LA->O R,JX N (LW false s1) o1 (LW false s2) o2 K=K false (Ch (val s1.l*val s2.l)).length (Bu S):=by
 obtain⟨S,a1,a2,a3⟩:=Ax1 (R:=R) (N:=N) (n1:=false) (n2:=false) (o1:=o1) (o2:=o2) d e f
 rw[A50,A50,<-Int.natCast_mul]at a2 a3
 rw[Bbm]at a2 a3
 refine⟨S,a1,a2,fun K=>?_⟩
 rw[a3,decide_eq_false (by omega)]
def lx{P Q m j:Nat}(hP:1<=P)(hQ:1<=Q)(d:j<=m):P ^ j<=Q*P ^ m:=by
 have e:P ^ j<=P ^ m:=Ba1 hP d
 have f:1*P ^ m<=Q*P ^ m:=A9y _ hQ
 omega
def At1{N k:Nat}(D:fit (2*k+4) N):∀(fuel m P Q:Nat)(c:Bool)(s:LS)(S:List Nat),m<fuel->m<=1000000000->1<=P->1<=Q->Q*P ^ m<4294967296 ^ k->Bi s.l->val s.l=P->s.l.length<=k+1->Bi S->val S=Q ->
  ∃ S',Bi S'/\val S'=Q*P ^ m/\∀ K:Bool->Nat->LA->O R,Lf N K fuel (m:Int) c (LW false s) false (Ch Q).length (Bu S)=K false (Ch (Q*P ^ m)).length (Bu S'):=by
 intro fuel
 induction fuel with
|zero=>intro m P Q c s S h;omega
| succ fuel x =>
  intro m P Q c s S L G hP hQ f hs y z hS hSv
  rcases Baz m with h0|h0
  ·subst h0
   refine⟨S,hS,by simp[hSv],fun K=>?_⟩
   rw[Lf];unfold Sp
   rw[show decide (((0:Nat):Int)>0)=false by decide,cf,Bdx,A9j]
  ·have lQ:(Ch Q).length<=k:=dD (Bam (Bc4 Q (Nat.pow_pos hP)) f)
   have hPm:P ^ 1<=Q*P ^ m:=lx hP hQ h0
   obtain⟨S1,a1,a2,a3⟩:=A06 (R:=R) (N:=N) (s1:=.of (Ch Q) false true) (s2:=s) (o1:=true) (o2:=c) (Cl _) hs (D.le (show(Ch Q).length+s.l.length<=_ by omega))
   have vQ:val (LS.of (Ch Q) false true).l=Q:=Bx Q
   rw[vQ,y]at a2 a3
   obtain⟨S2,F,A,B⟩:=A06 (R:=R) (N:=N) (s1:=s) (s2:=s) (o1:=c) (o2:=c) hs hs (D.le (show s.l.length+s.l.length<=_ by omega))
   rw[y]at A B
   have sq:∀ n t:Nat,(P*P) ^ n=P ^ (2*n):=fun n t=>by rw[<-Bd7,<-Nat.pow_mul]
   have gt0:decide ((m:Int)>0)=true:=by simp;omega
   have cell:∀(t:Nat)(u:List Nat),([.bool false,.imm (take ((Ch t).length*1) (Bu u)) (Ch t).length 1 false false]:LA)=[.bool false,.imm (take ((Ch t).length*1) (Bu u)) (Ch t).length 1 false false]:=fun _ _=>rfl
   by_cases d:m%2=1
   ·by_cases I:1<m
    ·have e:Q*P ^ m=(Q*P)*(P*P) ^ (m/2):=by
      rw[sq _ 0,Ba2,<-Nat.pow_succ']
      congr 2;omega
     have l2:(Ch (P*P)).length<=k:=dD (Bam (by have:=lx (j:=2) hP hQ (show 2<=m by omega);rwa [Bd7]at this) f)
     obtain⟨S',c1,q,v⟩:=x (m/2) (P*P) (Q*P) (c||false) (.of (Ch (P*P)) false false) S1 (by omega) (by omega) (Bdn hP hP) (Bdn hQ hP) (by rw[<-e];exact f) (Cl _) (Bx _) (by show(Ch (P*P)).length<=_;omega) a1 a2
     refine⟨S',c1,by rw[q,e],fun K=>?_⟩
     rw[Lf];unfold Sp
     rw[gt0,ct,A04,decide_eq_true d,ct,A00,ct,A6k,J6 hS hSv,A20,a3,show decide ((m:Int)>1)=true by simp;omega,ct,ct,ct,B,show((beq 2 2)&&(true&&(!false)))=true by rfl,ct,A05 (by omega),Avt,J6 F A,A20,v,e]
    ·have C:m=1:=by omega
     subst C
     obtain⟨S',c1,q,v⟩:=x 0 P (Q*P) c s S1 (by omega) (by omega) hP (Bdn hQ hP) (by simpa using f) hs y z a1 a2
     rw[Bdx,A9j]at q v
     refine⟨S',c1,by rw[q,Nat.pow_one],fun K=>?_⟩
     rw[Lf];unfold Sp
     rw[gt0,ct,A04,decide_eq_true d,ct,A00,ct,A6k,J6 hS hSv,A20,a3,show decide (((1:Nat):Int)>1)=false by decide,cf,A05 (by omega),v,Nat.pow_one]
   ·have I:1<m:=by omega
    have e:Q*P ^ m=Q*(P*P) ^ (m/2):=by
     rw[sq _ 0];congr 2;omega
    have l2:(Ch (P*P)).length<=k:=dD (Bam (by have:=lx (j:=2) hP hQ (show 2<=m by omega);rwa [Bd7]at this) f)
    obtain⟨S',c1,q,v⟩:=x (m/2) (P*P) Q (c||false) (.of (Ch (P*P)) false false) S (by omega) (by omega) (Bdn hP hP) hQ (by rw[<-e];exact f) (Cl _) (Bx _) (by show(Ch (P*P)).length<=_;omega) hS hSv
    refine⟨S',c1,by rw[q,e],fun K=>?_⟩
    rw[Lf];unfold Sp
    rw[gt0,ct,A04,decide_eq_false d,cf,show decide ((m:Int)>1)=true by simp;omega,ct,A00,ct,ct,A6k,B,show((beq 2 2)&&(true&&(!false)))=true by rfl,ct,A05 (by omega),Avt,J6 F A,A20,v,e]
def A21:Ch 10=[10]:=by rw[NF (by omega)];simp[K4]
def A07(n:Nat):10 ^ n<4294967296 ^ (n+1):=by
 have d:10 ^ n<=4294967296 ^ n:=Nat.pow_le_pow_left (by omega) n
 have e:4294967296 ^ n<4294967296 ^ (n+1):=Nat.pow_lt_pow_right (by omega) (by omega)
 omega
def Ax7{N n:Nat}(d:fit (2*n+6) N):∃ S,Bi S/\val S=10 ^ n/\∀(K:Bool->Nat->LA->O R),(Jt N 10 fun g e i=>fD N [.bool g,.imm (i.take (e*1)) e 1 false true] true (n:Int) K)=K false (Ch (10 ^ n)).length (Bu S):=by
 have t:=d.1;have u:=d.2
 obtain⟨S0,a1,a2,a3⟩:=T2 (R:=R) (N:=N) (v:=1) (by omega) (by omega)
 obtain⟨S1,m,q,s⟩:=T2 (R:=R) (N:=N) (v:=10) (by omega) (by omega)
 obtain⟨S',c1,f,j⟩:=At1 (R:=R) (N:=N) (k:=n+1) (d.le (by omega)) N n 10 1 true (.of (Ch 10) false true) S0 (by omega) (by omega) (by omega) (by omega) (by rw[Bd6];exact A07 n) (Cl _) (Bx _) (by rw[A21];simp[LS.l]) a1 a2
 rw[Bd6]at f j
 refine⟨S',c1,f,fun K=>?_⟩
 rw[s,pI];unfold gk
 rw[a3]
 refine Bby ?_ (j K)
 rw[show(10:Int).natAbs=10 by rfl,show(1:Int).natAbs=1 by rfl]at *
 rw[J6 m q]
 rfl
def A7u:(Ch (10 ^ 9)).length<=1:=dD (by decide)
def UA(v:Nat)(a b:Bool):Bi (LS.of (Ch v) a b).l:=Cl v
def A08{N v:Nat}{o:Bool}{K:Int->O R}(d:fit ((Ch v).length) N):NL N (bA (v:Int)) o K=K (v:Int).sign:=by
 rw[A03,Acn (UA _ _ _) d,A50]
 simp only[LS.l]
 rw[Bx]
def At2(z:Int)(s:Lu):Lu:=if z<0 then 45::s else s
def A6n{a b:Nat}(h:a<=b):ble a b=true:=by simpa using h
def Ali(z:Int):Lu:=At2 z (dec z.natAbs)
end
end Gx
namespace Gx.Ct
open Go Go.Proofs Gx.Cf
def fX:Ig:=fun z h=>Bag (Lib.itoa_length_le z h.1 h.2) (by decide)
def BU(z:Int):tx z=Ali z:=by
 unfold tx Lib.itoa Ali At2
 by_cases d:z<0
 ·rw[if_pos d,if_pos d]
 ·rw[if_neg d,if_neg d];unfold dec
  first|rfl|(rw[show z.toNat=z.natAbs by omega])
def A09(u:Nat):Lib.decDigits u≠[]/\(Lib.decDigits u).getLast?≠some 10:=by
 have d:(Lib.decDigits u).length≠0:=by rw[Lib.decDigits_length];rw[Lib.nDigits];split<;>omega
 refine⟨fun e=>d (by rw[e];rfl),fun e=>?_⟩
 rw[Lib.decDigits]at e
 split at e
 ·simp at e
  rename_i h
  have:u=0\/u=1\/u=2\/u=3\/u=4\/u=5\/u=6\/u=7\/u=8\/u=9:=by omega
  rcases this with rfl|rfl|rfl|rfl|rfl|rfl|rfl|rfl|rfl|rfl<;>revert e<;>decide
 ·rw[Bch]at e
  simp at e
  generalize f:u%10=v at e
  have:v=0\/v=1\/v=2\/v=3\/v=4\/v=5\/v=6\/v=7\/v=8\/v=9:=by omega
  rcases this with rfl|rfl|rfl|rfl|rfl|rfl|rfl|rfl|rfl|rfl<;>revert e<;>decide
def Avu(z:Int):Asf (tx z):=by
 unfold tx Lib.itoa
 split
 ·obtain⟨d,e⟩:=A09 z.natAbs
  refine⟨by simp,?_⟩
  rw[show(45::Lib.decDigits z.natAbs)=[45]++Lib.decDigits z.natAbs from rfl,CI d]
  exact e
 ·exact A09 _
def I6{lo hi v:Int}(h:Fv lo hi v=true)(d:-1000000000000000000<=lo)(e:hi<=1000000000000000000):JR v:=by unfold Fv at h;simp only[A81,decide_eq_true_eq]at h;unfold JR;omega
def FT{v:Int}(h:-1000000000000000000<=v/\v<=1000000000000000000):JR v:=by unfold JR;omega
def Acr{f:FracD}(h:Fz f=true):JR f.num/\JR f.den:=by
 unfold Fz at h;simp only[A81]at h
 exact⟨I6 h.2 (by decide) (by decide),I6 h.1 (by decide) (by decide)⟩
def Ag7{M:Nat}(hM:1000<=M){c:CaseD}(g:TY c):CaseI M c/\ListsOk c:=by
 obtain⟨H,res,bs,ls,us,ss,ts,os,b,og,t,rfl⟩:=g
 have h:=b.h;have bl:=b.bl;have ll:=b.ll;have ul:=b.ul;have sl:=b.sl;have tl:=b.tl;have ol:=og.l
 refine⟨⟨FT (by simp only[kE];omega),⟨fun z d=>FT (by have:=b.rr z d;omega),by have:=b.rl;simp only[kE,Sl.l];omega⟩,fun x hx=>?_,fun x hx=>?_,fun x hx=>?_,fun x hx=>?_,fun x hx=>?_,fun x hx=>?_⟩,
  ⟨by simp only[kE,Sl.l];omega,by simp only[kE,Sl.l];omega,by simp only[kE,Sl.l];omega,by simp only[kE,Sl.l];omega,by simp only[kE,Sl.l];omega,by simp only[kE,Sl.l];omega⟩⟩
 all_goals simp only[kE,Sl.l]at hx
 ·obtain⟨i,hi,rfl⟩:=A9n hx
  have g:=b.bg i hi
  exact⟨⟨fun z d=>FT (by have:=g.dr z d;omega),by have:=g.dl;omega⟩,FT (by have:=g.shed;omega)⟩
 ·obtain⟨i,hi,rfl⟩:=A9n hx
  have g:=(b.lg i hi).g
  have f:=g.re;have j:=g.smin;have e:=g.smax;have n:=g.lim;have k:=g.em
  simp only[A81]at f j e
  refine⟨Acr f.1,Acr j.1,Acr e.1,⟨I6 n (by decide) (by decide),?_⟩,fun z d=>FT (by have:=g.awr z d;omega),by have:=g.aw;omega⟩
  unfold Fv at n k
  simp only[A81,decide_eq_true_eq]at n k
  exact FT (by omega)
 ·obtain⟨i,hi,rfl⟩:=A9n hx
  have g:=b.ug i hi
  have so:=A9b.1 g.sok
  refine⟨?_,⟨fun s hs=>?_,by have:=g.sl;omega⟩,fun z d=>FT (by have:=g.awr z d;omega),by have:=g.aw;omega⟩
  ·have f:=g.min;have j:=g.max;have e:=g.startRamp;have n:=g.stopRamp;have k:=g.output
   unfold Fv at f j e n k
   simp only[A81,decide_eq_true_eq]at f j e n k
   intro z d
   simp only[A88,A9v,or_false]at d
   rcases d with rfl|rfl|rfl|rfl|rfl|rfl|rfl|rfl|rfl|rfl|rfl|rfl|rfl|rfl|rfl|rfl|rfl
   ·exact FT (by omega)
   ·exact FT (by omega)
   ·exact I6 g.noLoad (by decide) (by decide)
   ·exact I6 g.rampUp (by decide) (by decide)
   ·exact I6 g.rampDown (by decide) (by decide)
   ·exact FT (by omega)
   ·exact FT (by omega)
   ·exact I6 g.upTime (by decide) (by decide)
   ·exact I6 g.downTime (by decide) (by decide)
   ·exact I6 g.startTime (by decide) (by decide)
   ·exact I6 g.hotCost (by decide) (by decide)
   ·exact I6 g.coldCost (by decide) (by decide)
   ·exact I6 g.hotHours (by decide) (by decide)
   ·exact I6 g.reserve (by decide) (by decide)
   ·exact I6 g.reservePrice (by decide) (by decide)
   ·exact I6 g.hours (by decide) (by decide)
   ·refine FT ?_
    cases hs:us[i].state==2<;>rw[hs]at k<;>simp at k<;>omega
  ·have:=so s hs
   unfold jf at this
   simp only[A81]at this
   exact⟨I6 this.1 (by decide) (by decide),I6 this.2 (by decide) (by decide)⟩
 ·have g:=b.sg x hx
  have f:=g.cap;have j:=g.ini;have e:=g.fin;have n:=g.ch;have k:=g.dis;have u:=g.eff
  refine⟨fun z d=>?_⟩
  simp only[A88,A9v,or_false]at d
  rcases d with rfl|rfl|rfl|rfl|rfl|rfl|rfl<;>exact FT (by omega)
 ·have g:=b.tg x hx
  have f:=g.il;have j:=g.el;have e:=g.pl
  exact⟨⟨fun z d=>FT (by have:=g.ir z d;omega),by omega⟩,⟨fun z d=>FT (by have:=g.er z d;omega),by omega⟩,⟨fun z d=>FT (by have:=g.pr z d;omega),by omega⟩⟩
 ·obtain⟨i,hi,rfl⟩:=A9n hx
  have g:=og.g i hi
  have f:=g.ll;have j:=g.ml;have e:=A9b.1 g.mi
  refine⟨by omega,fun m q=>?_,by omega⟩
  have:=e m q
  unfold vd at this
  simp only[A81]at this
  exact⟨I6 this.1 (by decide) (by decide),I6 this.2 (by decide) (by decide)⟩
end Gx.Ct
namespace Gx
open Go Go.Proofs
section
variable{R:Type}
def Aqe:∀(s:Lu)(d k:Nat),d<10 ^ k->s.length+k<=18->s.all Eh=true->Lib.parseUint10 d s=.ok (d*10 ^ s.length+Ke s)
|[],d,_,_,_,_=>by simp[Lib.parseUint10,Ke]
|c::r,d,k,q,n,f=>by
  simp only[A9i,A81]at f
  have m:=f.1
  simp[Eh]at m
  simp only[A83]at n
  have e:10 ^ (k+1)<=10 ^ 18:=Ba1 (by omega) (by omega)
  rw[Ba5]at e
  have j:d*10+(c.toNat - 48)<10 ^ k*10:=by omega
  have l:(10:Nat) ^ 18=1000000000000000000:=by decide
  rw[l]at e
  rw[Lib.parseUint10,if_pos m,if_neg (by omega),if_neg (by omega),Aqe r (d*10+(c.toNat - 48)) (k+1) (by rw[Ba5];exact j) (by omega) f.2,Ag5,A83,Ba5,Ba0]
  congr 1
  rw[show d*10*10 ^ r.length=d*(10 ^ r.length*10) by rw[Ba2,Bbp 10]]
  omega
def Ax8{N:Nat}{s:Lu}{K:Int->O R}(hs:s.all Eh=true)(h0:s≠[])(d:s.length<=18):GR N s K=K (Ke s:Int):=by
 have e:=Avs hs
 have f:10 ^ s.length<=10 ^ 18:=Ba1 (by omega) d
 have j:(10:Nat) ^ 18=1000000000000000000:=by decide
 have key:Lib.atoiAll s=.ok (Ke s:Int):=by
  cases s with
  |nil=>exact absurd rfl h0
  |cons c r =>
   have k:Eh c=true:=by simp only[A9i,A81]at hs;exact hs.1
   simp[Eh]at k
   rw[Lib.atoiAll_plain c r (by omega) (by omega),Lib.parseMag,if_neg h0,Aqe (c::r) 0 0 (by decide) (by omega) hs,Bb1,A89,Lib.signless,if_neg (by omega)]
 rw[Se];unfold Tx
 rw[A6n (by omega),ct,key]
def A22(k:Nat):10 ^ k<4294967296 ^ (k+1):=A07 k
def A4b{v k:Nat}(h:v<10 ^ k):(Ch v).length<=k+1:=dD (Nat.lt_trans h (A22 k))
def DA{N:Nat}{c:Bool}{q:Nat}{S9:List Nat}{K:LA->O R}(X:Bi S9)(Y:val S9=10 ^ q)(hq:q=9):∀(fuel j v:Nat)(g:Lu)(S:List Nat),g.length<fuel->g.all Eh=true->v<10 ^ j->(v=0\/g.length%9=0)->fit (j+g.length+20) N->Bi S->val S=v ->
  Lg N K c false (Ch (10 ^ q)).length (Bu S9) fuel g false (Ch v).length (Bu S)=K (bA (if c then -((v*10 ^ g.length+Ke g:Nat):Int)else((v*10 ^ g.length+Ke g:Nat):Int))):=by
 intro fuel
 induction fuel with
|zero=>intro j v g S h;omega
| succ fuel ih =>
  intro j v g S hl z B m k hS hSv
  have f1:=k.1;have f2:=k.2
  have C:(Ch (10 ^ q)).length<=1:=by rw[hq];exact A7u
  have hdv:=A4b B
  rw[Lg];unfold QQ
  cases n:g with
  | nil =>
   rw[show(!(([]:Lu)==[]))=false by rfl,cf]
   rw[show v*10 ^ ([]:Lu).length+Ke []=v by simp[Ke]]
   cases c
   ·rw[cf,J6 hS hSv,if_neg (by simp)]
    congr 1
   ·rw[ct,J6 hS hSv,A20,Ag6 (UA _ _ _) (k.le (by show(Ch v).length<=_;omega)),A50,show val (LS.of (Ch v) false true).l=v from Bx v,Bbm,A8o,if_pos rfl]
    congr 1
    unfold bA
    rw[Int.natAbs_neg,Bbm];rfl
  | cons d r =>
   rw[<-n]
   have s:g≠[]:=by rw[n];simp
   have G:=Bdo.2 s
   rw[show(!(g==[]))=true by simp[s],ct]
   have step:∀ o:Nat,1<=o->o<=9->o<=g.length->(g.length - o)%9=0->(v=0\/o=q)->Xi N (Lg N K c false (Ch (10 ^ q)).length (Bu S9) fuel) K c false (Ch (10 ^ q)).length (Bu S9) g (o:Int) false (Ch v).length (Bu S)=K (bA (if c then -((v*10 ^ g.length+Ke g:Nat):Int)else((v*10 ^ g.length+Ke g:Nat):Int))):=by
    intro o o1 o9 ol om oz
    have I:(g.take o).all Eh=true:=by
     rw[A9b]at z ⊢;exact fun x hx=>z x (Bb5 hx)
    have f:(g.take o).length=o:=by rw[Bar];omega
    have t:(g.drop o).length=g.length - o:=List.length_drop ..
    have u:=Avs I
    rw[f]at u
    have A:10 ^ o<=10 ^ q:=Ba1 (by omega) (by omega)
    have e9:10 ^ q=1000000000:=by rw[hq]
    obtain⟨S1,a1,a2,a3⟩:=A06 (R:=R) (N:=N) (s1:=.of (Ch v) false true) (s2:=.of (Ch (10 ^ q)) false true) (o1:=true) (o2:=true) (UA _ _ _) (UA _ _ _) (k.le (by have:=C;show(Ch v).length+(Ch (10 ^ q)).length<=_;omega))
    rw[show val (LS.of (Ch v) false true).l=v from Bx v,show val (LS.of (Ch (10 ^ q)) false true).l=10 ^ q from Bx _]at a2 a3
    obtain⟨S2,b1,L,M⟩:=T2 (R:=R) (N:=N) (v:=(Ke (g.take o):Int)) (by omega) (by omega)
    rw[Bbm]at L M
    have hm:v*10 ^ q<10 ^ (j+q):=by rw[Bcu];exact Nat.mul_lt_mul_of_pos_right B (Nat.pow_pos (by omega))
    have hdm:=A4b hm
    have hdx:(Ch (Ke (g.take o))).length<=1:=dD (by omega)
    obtain⟨S3,c1,T,U⟩:=Ax2 (R:=R) (N:=N) (n1:=false) (n2:=false) (s1:=.of (Ch (v*10 ^ q)) false true) (s2:=.of (Ch (Ke (g.take o))) false true) (o1:=true) (o2:=true) (UA _ _ _) (UA _ _ _) (k.le (by show(Ch (v*10 ^ q)).length+(Ch (Ke (g.take o))).length+1<=_;omega))
    rw[A50,A50,show val (LS.of (Ch (v*10 ^ q)) false true).l=v*10 ^ q from Bx _,show val (LS.of (Ch (Ke (g.take o))) false true).l=Ke (g.take o)from Bx _,Aw9,Bbm]at T U
    unfold Xi
    rw[show((decide ((0:Int)<=(0:Int)))&&((decide (0<=(o:Int)))&&((decide ((o:Int)<=((g.length:Nat):Int)))&&(decide (((g.length:Nat):Int)<=((g.length:Nat):Int))))))=true by simp;omega,ct,A8z]
    rw[Ax8 I (by intro e;rw[e]at f;simp at f;omega) (by omega)]
    rw[J6 hS hSv,J6 X Y,A20,A20,a3,M,J6 a1 a2,J6 b1 L,A20,show decide (((Ke (g.take o):Nat):Int)<0)=false by simp,A20,U]
    rw[show decide (((v*10 ^ q+Ke (g.take o):Nat):Int)<0)=false by rw[decide_eq_false_iff_not];omega]
    rw[show((decide (0<=(o:Int)))&&((decide ((o:Int)<=((g.length:Nat):Int)))&&((decide (((g.length:Nat):Int)<=((g.length:Nat):Int)))&&(decide (((g.length:Nat):Int)<=((g.length:Nat):Int))))))=true by simp;omega,ct]
    rw[A80 (l:=g.drop o) (by omega)]
    have D:v*10 ^ q+Ke (g.take o)<10 ^ (j+q):=by
     rcases oz with oz|oz
     ·subst oz;rw[Bb1,A89]
      have:10 ^ q<=10 ^ (j+q):=Ba1 (by omega) (by omega)
      omega
     ·have:(v+1)*10 ^ q<=10 ^ j*10 ^ q:=A9y _ B
      rw[Ba0,Bd6]at this
      rw[Bcu];omega
    have F:v*10 ^ q+Ke (g.take o)<10 ^ (j+o):=by
     rcases oz with oz|oz
     ·subst oz;rw[Bb1,A89]
      have:10 ^ o<=10 ^ (j+o):=Ba1 (by omega) (by omega)
      omega
     ·rw[show j+o=j+q by rw[oz]];exact D
    rw[ih (j+o) (v*10 ^ q+Ke (g.take o)) (g.drop o) S3 (by omega) (by rw[A9b]at z ⊢;exact fun x hx=>z x (List.mem_of_mem_drop hx)) F (.inr (by rw[t];exact om)) (k.le (by omega)) c1 T]
    have e:(v*10 ^ q+Ke (g.take o))*10 ^ (g.drop o).length+Ke (g.drop o)=v*10 ^ g.length+Ke g:=by
     have V:=fV (g.take o) (g.drop o)
     rw[List.take_append_drop]at V
     rw[V,Ba0,A97]
     congr 1
     rcases oz with oz|oz
     ·subst oz;simp
     ·rw[Ba2,<-Bcu,t];congr 2;omega
    rw[e]
   have y:Int.tmod (g.length:Int) 9=((g.length%9:Nat):Int):=rfl
   rw[y]
   by_cases A:g.length%9=0
   ·rw[A,show(((0:Nat):Int)==0)=true by rfl,ct]
    exact step 9 (by omega) (by omega) (by omega) (by omega) (.inr hq.symm)
   ·rw[A41 A,cf]
    exact step (g.length%9) (by omega) (by omega) (Nat.mod_le _ _) (by omega) (.inl (by rcases m with m|m;exact m;exact absurd m A))
def LX(s:Lu):Int:=match s with
|45::r=>-((Ke r:Nat):Int)
|s=>((Ke s:Nat):Int)
def YC(s:Lu):Bool:=match s with
|45::r=>r.all Eh
|s=>s.all Eh
def DB{N:Nat}{s:Lu}{K:LA->O R}(hs:YC s=true)(d:fit (s.length+30) N):Zs N s K=K (bA (LX s)):=by
 have k:=d.1;have m:=d.2
 obtain⟨S0,a1,a2,a3⟩:=T2 (R:=R) (N:=N) (v:=0) (by omega) (by omega)
 obtain⟨S,e,f,j⟩:=Ax7 (R:=R) (N:=N) (n:=9) (d.le (by omega))
 rw[kC];unfold XP
 by_cases h:s.head?=some 45
 ·obtain⟨r,rfl⟩:∃ r,s=45::r:=by
   cases s with
   |nil=>simp at h
   |cons c r=>simp at h;exact⟨r,by rw[h]⟩
  rw[kI,a3]
  refine Bby (j _) ?_
  have:=DA (R:=R) (N:=N) (c:=true) (K:=K) e f rfl N 0 0 r S0 (by rw[A83]at k;omega) hs (by decide) (.inl rfl) (d.le (by rw[A83];omega)) a1 a2
  rw[Bb1,A89]at this
  exact this
 ·have e1:LX s=((Ke s:Nat):Int):=by
   unfold LX
   split
   ·simp at h
   ·rfl
  have l:s.all Eh=true:=by
   rw[<-hs];unfold YC
   split
   ·simp at h
   ·rfl
  rw[fW h,a3]
  refine Bby (j _) ?_
  have:=DA (R:=R) (N:=N) (c:=false) (K:=K) e f rfl N 0 0 s S0 (by omega) l (by decide) (.inl rfl) (d.le (by omega)) a1 a2
  rw[Bb1,A89]at this
  rw[e1]
  exact this
def iC{s:Lu}(h:Th s=true):s.all Eh=true:=by simp only[Th,Aqd,A81]at h;exact h.1.1
def iD{s:Lu}(h:sY s=true):YC s=true:=by
 by_cases h0:s.head?=some 45
 ·obtain⟨r,rfl⟩:∃ r,s=45::r:=by
   cases s with
   |nil=>simp at h0
   |cons c r=>simp at h0;exact⟨r,by rw[h0]⟩
  have h:(Th r&&!(r==[48]))=true:=h
  simp only[A81]at h;exact iC h.1
 ·have e1:sY s=Th s:=by
   unfold sY;split
   ·simp at h0
   ·rfl
  have d:YC s=s.all Eh:=by
   unfold YC;split
   ·simp at h0
   ·rfl
  rw[d];rw[e1]at h;exact iC h
def Ag8{s:Lu}(h:s.all Eh=true):∀ c∈s,c.toNat<128:=by
 intro c d
 have:=A9b.1 h c d
 simp[Eh]at this;omega
def Aqf{s:Lu}(h:YC s=true):∀ c∈s,c.toNat<128:=by
 unfold YC at h
 split at h
 ·intro c d
  rcases A88.1 d with rfl|d
  ·decide
  ·exact Ag8 h c d
 ·exact Ag8 h
def Afc{N:Nat}{s:Lu}{K:LA->Int->O R}(hs:sY s=true)(d:fit (s.length+30) N):OW N s K=if 4096<Alg s then K [.bool false,.nsl] 8 else K (bA (LX s)) 0:=by
 have e:=d.1;have f:=d.2
 rw[Z_];unfold XQ
 rw[kJ (by omega),hs,show(!true)=false by rfl,cf,qA (Aqf (iD hs)) (by omega) (by omega)]
 by_cases h:4096<Alg s
 ·rw[decide_eq_true h,ct,if_pos h]
 ·rw[decide_eq_false h,cf,DB (iD hs) d,A8p,ct,A7t,ct,A8n,if_neg h]
def A1a(u:Nat):sY (dec u)=true:=by
 have d:=sX u
 unfold sY
 split
 ·rename_i r e
  have:=iC d
  rw[e]at this
  simp only[A9i,A81]at this
  exact absurd this.1 (by decide)
 ·exact d
def At3(u:Nat):LX (dec u)=(u:Int):=by
 unfold LX
 split
 ·rename_i r d
  have:=iC (sX u)
  rw[d]at this
  simp only[A9i,A81]at this
  exact absurd this.1 (by decide)
 ·rw[Acq]
def iE(z:Int):sY (Ali z)=true:=by
 unfold Ali At2
 by_cases h:z<0
 ·rw[if_pos h]
  show(Th (dec z.natAbs)&&!(dec z.natAbs==[48]))=true
  rw[sX,Bav]
  simp only[Bca,beq_eq_false_iff_ne]
  intro e
  have:=congrArg Ke e
  rw[Acq]at this
  have:z.natAbs=0:=this
  omega
 ·rw[if_neg h];exact A1a _
def fY(z:Int):LX (Ali z)=z:=by
 unfold Ali At2
 by_cases h:z<0
 ·rw[if_pos h]
  show -((Ke (dec z.natAbs):Nat):Int)=z
  rw[Acq];omega
 ·rw[if_neg h,At3];omega
def ly(c b:UInt8)(l:Lu):Lib.index (b::l) [c]=if c=b then 0 else if Lib.index l [c]=-1 then -1 else Lib.index l [c]+1:=by
 rw[Lib.index]
 have f:([c].isPrefixOf (b::l)=true)↔c=b:=by simp[List.isPrefixOf]
 by_cases h:c=b
 ·rw[if_pos (f.2 h),if_pos h]
 ·rw[if_neg (fun e=>h (f.1 e)),if_neg h]
  by_cases d:Lib.index l [c]=-1
  ·rw[d];rfl
  ·rw[if_neg (by simpa using d),if_neg d]
def Aqg(c:UInt8):∀ s:Lu,c∉s->Lib.index s [c]=-1
|[],_=>rfl
|b::l,h=>by rw[ly,if_neg (fun e=>h (by simp[e])),Aqg c l (fun e=>h (by simp[e])),if_pos rfl]
def UB(c:UInt8)(b:Lu):∀ a:Lu,c∉a->Lib.index (a++c::b) [c]=(a.length:Int)
|[],_=>by rw[A9t,ly,if_pos rfl];rfl
|d::l,h=>by
  have:=UB c b l (fun e=>h (by simp[e]))
  rw[A9k,ly,if_neg (fun e=>h (by simp[e])),this,if_neg (by omega),A83];omega
def A45{c:UInt8}{s:Lu}(h:c∉s):Lib.cut s [c]=(s,[],false):=by unfold Lib.cut;rw[Aqg c s h,if_neg (by omega)]
def A1b{c:UInt8}{a b:Lu}(h:c∉a):Lib.cut (a++c::b) [c]=(a,b,true):=by
 unfold Lib.cut;rw[UB c b a h,if_pos (by omega),A8z]
 rw[Bdl,A94,<-List.drop_drop,Bco];rfl
def A23{N:Nat}{s t:Lu}{K:Lu->Lu->Bool->O R}(h:s.length<=4294967280):strings_Cut N s t K=K (Lib.cut s t).1 (Lib.cut s t).2.1 (Lib.cut s t).2.2:=by rw[Uf];unfold Wx;rw[A6n h,ct]
def Ax9{N:Nat}{s:Lu}{K:Lu->Lu->Bool->O R}(hs:sY s=true)(d:s.length<N):fI N s K=K s [49] true:=by
 rw[pY];unfold gv
 rw[kJ d,hs,ct]
end
end Gx
namespace Gx.Ct
open Go Go.Proofs Gx.Cf
def smallI(z:Int):Prop:=-1073741824<=z/\z<=1073741824
def Vf(z:Int):Prop:=-2147483648<z/\z<2147483648
def smallI.j{z:Int}(h:smallI z):Vf z:=by unfold smallI at h;unfold Vf;omega
section
variable{R:Type}{N:Nat}
def Aya{x:RatD}{z:Int}(h:x.can (z:Rat))(d:Vf z):val x.ns.l=z.natAbs/\val x.ds.l=1/\z.natAbs<2147483648:=by
 unfold Vf at d
 refine⟨?_,?_,by omega⟩
 ·rw[h.2.1,Bae,Bx]
 ·rw[h.2.2,Bbj,Bx]
def Aqh{x:RatD}{z:Int}(h:x.can (z:Rat)):Mq x.neg x.ns=z:=by
 unfold Mq
 rw[h.1,h.2.1,Bae,Bx]
 by_cases h0:z<0
 ·rw[if_pos (by simpa using h0)];omega
 ·rw[if_neg (by simpa using h0)];omega
def sZ{x:RatD}{z:Int}{o:Bool}(hx:x.can (z:Rat))(k:Vf z)(f:fit x.m N){K:Int->Int->Bool->O R}:Wv N x.av o K=K z 1 true:=by
 have d:x.ns.l.length<=x.m:=Bdc _ _
 have e:x.ds.l.length<=x.m:=Nat.le_max_right _ _
 obtain⟨v1,v2,v3⟩:=Aya hx k
 have hi:=Aqh hx
 have hn:=uz x.neg x.ns
 rw[nZ];unfold gX
 rw[A44,uy rfl hx.ok.1 (f.le d),if_pos (by omega),At0,uy rfl hx.ok.2 (f.le e),if_pos (by omega),v2]
 rw[show((!true)==false)=true by rfl,ct,show((cond false true (!true))==false)=true by rfl,ct,show decide (((val x.ns.l:Nat):Int)>=2147483648)=false by rw[decide_eq_false_iff_not];omega]
 show CK N K (val x.ns.l:Int) ((1:Nat):Int) o x.av false=_
 unfold CK
 rw[cf,A41 (by omega),cf,A43,i64 (a:=((val x.ns.l:Nat):Int)) (by omega)]
 unfold Mq at hi
 cases j:x.neg
 ·rw[j,if_neg (by decide)]at hi
  rw[hi];rfl
 ·rw[j,if_pos rfl]at hi
  show K (wrap .i64 (0 - ((val x.ns.l:Nat):Int))) (wrap .i64 ((1:Nat):Int)) true=_
  rw[Gx.i64 (by omega),show(0:Int) - ((val x.ns.l:Nat):Int)=z by omega];rfl
def lz{x:RatD}{z:Int}{o:Bool}(hx:x.can (z:Rat))(e:Vf z)(f:fit (4*x.m+1000) N):∃ d:RatD,d.can (z:Rat)/\∀ K:LA->O R,gr N x.av o K=K d.av:=by
 have k:=f.1
 unfold Vf at e
 obtain⟨c,c1,j⟩:=Ae8 (R:=R) (N:=N) (s:=z) (b:=1) (by omega) (by omega) (by omega) (by omega)
 rw[Rat.mkRat_one]at c1
 refine⟨c,c1,fun K=>?_⟩
 rw[uR];unfold Abh
 rw[Aqb,ct,vA,sZ hx e (f.le (by omega)),ct]
 refine(j _).trans ?_
 rfl
def Ayb{x:RatD}{z:Int}(hx:x.can (z:Rat))(j:Vf z)(f:fit (4*x.m+1000) N):∃ d:RatD,d.can ((-z:Int):Rat)/\∀ K:LA->O R,Akw N x.av false K=K d.av:=by
 have e:RatD.can ⟨x.neg,.of x.ns.l false false,.of x.ds.l false false⟩ (z:Rat):=hx
 obtain⟨c,c1,k⟩:=lz (R:=R) (N:=N) (o:=false) e j f
 have n:c.ns.l.length<=x.m:=by
  rw[hx.m];rw[c1.2.1];exact Bdc _ _
 refine⟨⟨decide (-z<0),.of (Ch z.natAbs) false false,c.ds⟩,⟨by rw[Bae],by rw[Bae,Int.natAbs_neg];rfl,by rw[Bbj];exact c1.2.2⟩,fun K=>?_⟩
 rw[Abi];unfold Akv
 rw[A43,A44,At0,A7s,ct]
 refine(k _).trans ?_
 show rS N (LW c.neg c.ns) false _=_
 rw[Ag6 c1.ok.1 (f.le (by omega)),Aqh c1]
 rw[A80 (l:=Bu (Ch z.natAbs)) (by rw[show(Bu (Ch z.natAbs)).length=(Ch z.natAbs).length from A85 _];omega)]
 rfl
def Ag9{x y:RatD}{a b:Int}{o o':Bool}{K:Int->O R}(hx:x.can (a:Rat))(f:Vf a)(e:y.can (b:Rat))(j:Vf b)(d:fit (4*(x.m+y.m)+10) N):Zb N x.av o y.av o' K=K (Ae6 a b):=by
 have k:=d.1
 rw[dM];unfold NN
 rw[Aqb,ct,vA,Aco hx.ok (d.le (by omega)),Aqb,ct,vA,Aco e.ok (d.le (by omega)),hx.q,e.q,Bae,Bae]
 unfold Vf at f j
 by_cases hs:a.sign=b.sign
 ·rw[show(a.sign != b.sign)=false by simp[hs],cf,ct,sZ hx f (d.le (by omega)),ct,sZ e j (d.le (by omega)),show((true:Bool)==true)=true by rfl,ct,A7p,ct,Ae9,Int.mul_one,Int.mul_one,i64 (by omega),i64 (by omega)]
 ·rw[show(a.sign != b.sign)=true by simp[hs],ct,Aqc]
  congr 1
  unfold Ae6
  rcases Bcs a 0 with p|p|p<;>rcases Bcs b 0 with q|q|q
  all_goals first
   |(rw[A99 p,A99 q]at hs;exact absurd rfl hs)
   |(rw[Bak p,Bak q]at hs;exact absurd rfl hs)
   |(rw[p,q]at hs;exact absurd rfl hs)
   |skip
  ·rw[A99 p,q];rw[if_pos (by decide),if_pos (by omega)]
  ·rw[A99 p,Bak q];rw[if_pos (by decide),if_pos (by omega)]
  ·rw[p,A99 q];rw[if_neg (by decide),if_pos (by decide),if_neg (by omega),if_pos (by omega)]
  ·rw[p,Bak q];rw[if_pos (by decide),if_pos (by omega)]
  ·rw[Bak p,A99 q];rw[if_neg (by decide),if_pos (by decide),if_neg (by omega),if_pos (by omega)]
  ·rw[Bak p,q];rw[if_neg (by decide),if_pos (by decide),if_neg (by omega),if_pos (by omega)]
def Ayc{a:Int}(f:Vf a)(e:fit (4*((Ch a.natAbs).length+2)+1000) N):∃ d:RatD,d.can (a:Rat)/\∀ K:LA->Bool->O R,Abj N (bA a) false (bA 1) false K=K d.av true:=by
 have hx:RatD.can ⟨decide (a<0),.of (Ch a.natAbs) false false,.of [1] false false⟩ (a:Rat):=⟨by rw[Bae],by rw[Bae];rfl,by rw[Bbj,BT];rfl⟩
 have n:RatD.m ⟨decide (a<0),.of (Ch a.natAbs) false false,.of [1] false false⟩<=(Ch a.natAbs).length+1:=Nat.max_le.2 ⟨by show(Ch a.natAbs).length<=_;omega,by show 1<=_;omega⟩
 obtain⟨d,j,k⟩:=lz (R:=R) (N:=N) (o:=(false||(false||false))) hx f (e.le (by omega))
 refine⟨d,j,fun K=>?_⟩
 rw[Abk];unfold Akx
 rw[A8a,A8b,A6m,ct,A8a,A8b,A6m,ct]
 have e1:([.bool (decide ((1:Int)<0)),.imm (Bu (Ch (1:Int).natAbs)) (Ch (1:Int).natAbs).length 1 false false]:LA)=bA ((1:Nat):Int):=rfl
 rw[e1,A08 (e.le (by show(Ch 1).length<=_;rw[BT,A94];omega))]
 show cond ((1:Int).sign==0) _ _=_
 rw[show((1:Int).sign==0)=false from rfl,cf]
 have l:([.bool (!(decide (a<0)==decide ((1:Int)<0))),.imm (Bu (Ch a.natAbs)) (Ch a.natAbs).length 1 false false,.imm (Bu (Ch (1:Int).natAbs)) (Ch (1:Int).natAbs).length 1 false false]:LA)=RatD.av ⟨decide (a<0),.of (Ch a.natAbs) false false,.of [1] false false⟩:=by
  rw[show(1:Int).natAbs=1 from rfl,BT,show(!(decide (a<0)==decide ((1:Int)<0)))=decide (a<0) by cases decide (a<0)<;>rfl];rfl
 rw[l]
 refine(k _).trans ?_
 rfl
end
end Gx.Ct
namespace Gx.Ct
open Go Go.Proofs Gx.Cf
section
variable{R:Type}{N:Nat}
def s6{v:Nat}(h:v<4294967296):Ch v=if v=0 then []else [v]:=by
 by_cases h0:v=0
 ·rw[if_pos h0,h0,K4]
 ·rw[if_neg h0,NF (by omega),Ba4 h,Bc2 h,K4]
def Acs{x:RatD}{z:Int}(hx:x.can (z:Rat))(q:smallI z)(k:fit (4*(x.m+10)+1000) N){K:Int->Bool->O R}:LD N x.av false K=K z true:=by
 have f:=q
 unfold smallI at q
 have y:=k.1
 obtain⟨d,l,t⟩:=Ae7 (R:=R) (N:=N) (v:=1073741824) (by omega) (by omega)
 have md:d.m<=2:=by
  rw[l.m];show max (Ch (Rat.num ((1073741824:Int):Rat)).natAbs).length (Ch (Rat.den ((1073741824:Int):Rat))).length<=2
  rw[Bae,Bbj,s6 (by omega),BT];decide
 obtain⟨e,e1,u⟩:=Ayb (R:=R) (N:=N) l (by unfold Vf;omega) (k.le (by omega))
 have me:e.m<=2:=by
  rw[e1.m];show max (Ch (Rat.num ((-1073741824:Int):Rat)).natAbs).length (Ch (Rat.den ((-1073741824:Int):Rat))).length<=2
  rw[Bae,Bbj,s6 (by omega),BT];decide
 obtain⟨n,n1,n2⟩:=lz (R:=R) (N:=N) (x:=x) (o:=false) hx f.j (k.le (by omega))
 rw[pR];unfold gt
 rw[t,A79,ct,Aqb,ct,Aqb,ct,vA,vA,Ag9 hx f.j l (by unfold Vf;omega) (k.le (by omega))]
 rw[show decide (Ae6 z 1073741824>0)=false by unfold Ae6;rw[decide_eq_false_iff_not];split<;>(try split)<;>omega,show((false:Bool)==false)=true from rfl,ct,u]
 rw[Ag9 hx f.j e1 (by unfold Vf;omega) (k.le (by omega))]
 rw[show decide (Ae6 z (-1073741824)<0)=false by unfold Ae6;rw[decide_eq_false_iff_not];split<;>(try split)<;>omega]
 rw[show cond false true false=false from rfl,cf]
 unfold OY XS
 rw[Aqb,ct,vA,n2]
 rw[show setCells x.av 0 n.av=n.av from rfl]
 rw[ct,ct,show(beq (List.length n.av) 3&&(true&&!false))=true from rfl,ct]
 rw[At0,n1.2.2,Bbj,BT]
 rw[show(((((([1]:List Nat).length:Nat):Int) != 1)==false):Bool)=true from rfl,ct]
 rw[At0,n1.2.2,Bbj,BT]
 show OX N K false n.av=_
 rw[OX];unfold XR
 rw[A44,n1.2.1,Bae,s6 (by omega)]
 have s:∀ F:Bool->O R,RL n.av F=F (decide (z<0)):=fun F=>by rw[A43,n1.1,Bae]
 obtain⟨m,rfl⟩:∃ m,N=m+2:=⟨N - 2,by omega⟩
 by_cases h0:z.natAbs=0
 ·have:z=0:=by omega
  subst this
  rw[if_pos h0]
  show Ro (m+2) K (Bu []) 0 false n.av (m+2) 0 0 0=_
  rw[Ro];unfold ID
  rw[show decide ((0:Int)<0)=false from rfl,cf,s];rfl
 ·rw[if_neg h0]
  show Ro (m+2) K (Bu [z.natAbs]) 1 false n.av (m+1) (wrap .i64 (z.natAbs:Int)) 1 (wrap .i64 (0+1))=_
  rw[Gx.i64 (by omega),Ro];unfold ID
  rw[show decide (wrap .i64 (0+1)<1)=false from rfl,cf,s]
  by_cases hn:z<0
  ·rw[decide_eq_true hn]
   show K (wrap .i64 (0 - (z.natAbs:Int))) true=_
   rw[Gx.i64 (by omega)];congr 1;omega
  ·rw[decide_eq_false hn]
   show K (z.natAbs:Int) true=_
   congr 1;omega
def s7{z:Int}(d:smallI z):(tx z).length<=30/\Alg (tx z)<=4096:=by
 have h:=fX z (by unfold JR;unfold smallI at d;omega)
 exact⟨h,Bag (Bag List.countP_le_length h) (by omega)⟩
def Alj{z:Int}(d:smallI z)(f:fit 1500 N){K:Int->Bool->Int->O R}:OZ N (tx z) K=K z true 0:=by
 have j:=s7 d
 rw[uV];unfold Abq
 have e:LX (tx z)=z:=by rw[BU];exact fY z
 rw[Afc (by rw[BU];exact iE z) (f.le (by omega)),if_neg (by omega),e]
 show LD N (RatD.av ⟨decide (z<0),.of (Ch z.natAbs) false false,.of [1] false false⟩) false _=_
 have c:RatD.can ⟨decide (z<0),.of (Ch z.natAbs) false false,.of [1] false false⟩ (z:Rat):=⟨by rw[Bae],by rw[Bae];rfl,by rw[Bbj,BT];rfl⟩
 exact Acs c d (f.le (by
  rw[c.m]
  have:=A02 (v:=z) (by unfold smallI at d;omega)
  omega))
def Avv{s:RB}{z c d:Int}{r:List Ar}(e:smallI z)(l:c<=z)(m:z<=d)(f:fit 1500 N)(h:At s.nw s.cw s.nx (tx z::r))(j:s.er=0){K:Int->Int->Int->O R}{Y:O R}(k:∀ x,At s.nw s.cw x r->K z x 0=Y):O3 N c d s K=Y:=by
 rw[FN];unfold Zt
 refine Gi h j fun x hx=>?_
 show OZ N (tx z) _=_
 rw[Alj e f]
 show cond ((cond false true (decide (z<c)))==false) _ _=_
 rw[show decide (z<c)=false from decide_eq_false (by omega)]
 show cond (cond false true (decide (z>d))) _ _=_
 rw[show decide (z>d)=false from decide_eq_false (by omega)]
 exact k x hx
def A24{s:RB}{z:Int}{r:List Ar}(d:smallI z)(e:fit 1500 N)(h:At s.nw s.cw s.nx (tx z::r))(f:s.er=0){K:Int->Int->Int->O R}{Y:O R}(k:∀ x,At s.nw s.cw x r->K z x 0=Y):BS N s K=Y:=by
 rw[PD];unfold LM
 exact Avv d d.1 d.2 e h f k
def A46{d n:Nat}(h:d<n):Ad (d:Int) n=true:=by unfold Ad;simp;omega
def gD{pre post:Lu}{c:UInt8}:List.getD (pre++c::post) pre.length 0=c:=by simp
def A2c(c:UInt8):Bool:=Eh c||decide (c.toNat=45)
def Ayd{n:Nat}{b pre post:Lu}{c:UInt8}{K:Int->O R}(j:b=pre++c::post)(l:b.length<=1000000000)(f:A2c c=true):
  Hy N K b (n+1) (pre.length:Int)=Hy N K b n ((pre.length+1:Nat):Int):=by
 have d:pre.length<b.length:=by rw[j];simp
 have k:List.getD b (pre.length:Int).toNat 0=c:=by rw[A8z,j];exact gD
 rw[Hy];unfold BQ
 rw[k,F1 d,A46 d,Gx.wS (by omega)]
 unfold A2c Eh at f
 by_cases e:c.toNat=45
 ·rw[show decide ((c.toNat:Int)>=48)=false from decide_eq_false (by omega),e];rfl
 ·rw[decide_eq_false e,Bcg]at f
  simp only[A81,decide_eq_true_eq]at f
  rw[show decide ((c.toNat:Int)>=48)=true from decide_eq_true (by omega),show decide ((c.toNat:Int)<=57)=true from decide_eq_true (by omega)];rfl
def Aqi{b:Lu}{K:Int->O R}(f:b.length<=1000000000):∀(w pre:Lu)(n:Nat),b=pre++w->w.all A2c=true ->
  Hy N K b (n+w.length) (pre.length:Int)=Hy N K b n (b.length:Int)
|[],pre,n,d,_=>by rw[d,A9g];rfl
|c::w,pre,n,d,e=>by
  simp only[A9i,A81]at e
  have j:=Aqi (K:=K) f w (pre++[c]) n (by rw[d];simp) e.2
  rw[A8y,A94]at j
  rw[A83,<-A97,Ayd (post:=w) d f e.1,j]
def At4{t:Lu}{K:Int->O R}(k:t.all A2c=true)(d:t≠[])(s:t.length<=1000000000)(hN:t.length+5<=N):TM N t K=K (t.length:Int):=by
 rw[kD];unfold XT
 have l:=Aqi (R:=R) (N:=N) (K:=K) s t [] (N - t.length) rfl k
 rw[show N - t.length+t.length=N by omega,A9m]at l
 refine l.trans ?_
 obtain⟨n,hn⟩:∃ n,N - t.length=n+1:=⟨N - t.length - 1,by omega⟩
 rw[hn,Hy];unfold BQ
 rw[Gu (A86 _)]
 show Ss N K t N (t.length:Int)=_
 obtain⟨m,u⟩:∃ m,N=m+1:=⟨N - 1,by omega⟩
 have un:∀ j,Ss N K t (j+1) (t.length:Int)=K (t.length:Int):=fun j=>by
  rw[Ss];unfold QR
  obtain⟨r,z,hr⟩:∃ r z,t=r++[z]:=⟨t.dropLast,t.getLast d,(Bcl d).symm⟩
  have f:A2c z=true:=A9b.1 k z (by rw[hr];simp)
  have q:t.length=r.length+1:=by rw[hr];simp
  rw[show decide ((t.length:Int)>0)=true from decide_eq_true (by omega),show wrap .i64 ((t.length:Int) - 1)=(r.length:Int) by rw[Gx.i64 (by omega)];omega,A46 (show r.length<t.length by omega),A8z,hr,gD]
  rw[show((z.toNat:Int)==47)=false by
   rw[beq_eq_false_iff_ne]
   unfold A2c Eh at f
   intro e
   have v:z.toNat=47:=by omega
   rw[v] at f;revert f;decide]
  rfl
 have:=un m
 rw[<-u]at this;exact this
def A4c{t:Lu}(h:YC t=true):t.all A2c=true:=by
 unfold YC at h
 have q:∀ r:Lu,r.all Eh=true->r.all A2c=true:=fun r hr=>A9b.2 fun x hx=>by
  unfold A2c;rw[A9b.1 hr x hx];rfl
 split at h
 ·rw[A9i,q _ h];rfl
 ·exact q _ h
def Aye{z:Int}(e:smallI z)(d:fit 1500 N):∃ x:RatD,x.can (z:Rat)/\∀ K:LA->Int->O R,O' N (tx z) K=K x.av 0:=by
 have f:=s7 e
 have hn:sY (tx z)=true:=by rw[BU];exact iE z
 have hi:LX (tx z)=z:=by rw[BU];exact fY z
 have k:=d.1
 have l:(Ch z.natAbs).length<=2:=by unfold smallI at e;exact Alf (by omega)
 obtain⟨x,x1,x2⟩:=Ayc (R:=R) (N:=N) e.j (d.le (by omega))
 refine⟨x,x1,fun K=>?_⟩
 rw[Z'];unfold XU
 rw[Ax9 hn (by omega),show(!true)=false by rfl,cf,qA (Aqf (iD hn)) (by omega) (by omega),decide_eq_false (by omega),cf,Gx.DB (iD hn) (d.le (by omega)),Gx.DB (s:=[49]) (by decide) (d.le (by decide)),hi,show LX [49]=1 by decide,x2];rfl
def A7v:LA:=[.int .i64 0,.int .i64 0,.int .i64 0,.int .i64 0]
def A47{z:Int}(d:smallI z)(e:fit 2000 N):∃ x:RatD,x.can (z:Rat)/\∀ K:LA->LA->Int->O R,TN N (tx z) K=K x.av A7v 0:=by
 have f:=s7 d
 have j:=e.1
 have hn:sY (tx z)=true:=by rw[BU];exact iE z
 have hi:LX (tx z)=z:=by rw[BU];exact fY z
 obtain⟨x,x1,x2⟩:=Aye (R:=R) (N:=N) d (e.le (by omega))
 refine⟨x,x1,fun K=>?_⟩
 rw[pa];unfold gw
 rw[At4 (A4c (iD hn)) (Avu z).1 (by omega) (by omega)]
 rw[show((decide ((0:Int)<=(0:Int)))&&((decide (0<=(((tx z).length:Nat):Int)))&&((decide ((((tx z).length:Nat):Int)<=(((tx z).length:Nat):Int)))&&(decide ((((tx z).length:Nat):Int)<=(((tx z).length:Nat):Int))))))=true by simp,ct,A8z,Bas,x2]
 rw[A79,ct,show((0:Int) != 0)=false from rfl,cf]
 rw[show((decide (0<=(((tx z).length:Nat):Int)))&&((decide ((((tx z).length:Nat):Int)<=(((tx z).length:Nat):Int)))&&((decide ((((tx z).length:Nat):Int)<=(((tx z).length:Nat):Int)))&&(decide ((((tx z).length:Nat):Int)<=(((tx z).length:Nat):Int))))))=true by simp,ct]
 rw[List.drop_length,Nat.sub_self,show take 0 ([]:Lu)=[]from rfl,show(([]:Lu)==[])=true from rfl,ct]
 rfl
def A25(z:Int):∃ r c,tx z=r++[c]/\Eh c=true:=by
 have f:∀ n:Nat,∃ r c,dec n=r++[c]/\Eh c=true:=fun n =>
  ⟨_,_,(Bcl (Acp n)).symm,A9b.1 (pv n) _ (List.getLast_mem _)⟩
 obtain⟨r,c,e,h⟩:=f z.natAbs
 rw[BU];unfold Ali At2
 by_cases d:z<0
 ·rw[if_pos d,e];exact⟨45::r,c,rfl,h⟩
 ·rw[if_neg d,e];exact⟨r,c,rfl,h⟩
def A48(z:Int):(tx z).all A2c=true:=A4c (iD (by rw[BU];exact iE z))
def A6o(z:Int):(47:UInt8)∉tx z:=fun h=>by
 have:=A9b.1 (A48 z) _ h
 revert this;decide
def A1c{z:Int}(h:0<=z):∃ c r,tx z=c::r/\Eh c=true:=by
 rw[BU];unfold Ali At2
 rw[if_neg (by omega)]
 cases e:dec z.natAbs with
|nil=>exact absurd e (Acp _)
|cons c r=>exact⟨c,r,rfl,A9b.1 (pv z.natAbs) c (by rw[e];simp)⟩
def iF{s:RB}{z:Int}{b:LA}{o:Bool}{r:List Ar}(d:smallI z)(f:fit 2000 N)(h:At s.nw s.cw s.nx (tx z::r))(n:s.er=0){K:Int->Int->Int->O R}{Y:O R}(k:∀ x,At s.nw s.cw x r->K z x 0=Y):Dv N b o s K=Y:=by
 rw[DE];unfold P1
 refine Gi h n fun x hx=>?_
 obtain⟨y,y1,y2⟩:=A47 (R:=R) (N:=N) d f
 have q:=s7 d
 obtain⟨p,c,e,j⟩:=A25 z
 have l:(tx z).length=p.length+1:=by rw[e];simp
 show TN N (tx z) _=_
 rw[y2]
 show cond (Ad (wrap .i64 ((((tx z).length:Nat):Int) - 1)) (tx z).length) _ _=_
 rw[show wrap .i64 (((tx z).length:Int) - 1)=(p.length:Int) by rw[Gx.i64 (by omega)];omega,A46 (show p.length<(tx z).length by omega),ct,A8z]
 rw[show List.getD (tx z) p.length 0=c by rw[e];exact gD]
 unfold Eh at j
 simp only[A81,decide_eq_true_eq]at j
 rw[show decide ((c.toNat:Int)<48)=false from decide_eq_false (by omega),show decide ((c.toNat:Int)>57)=false from decide_eq_false (by omega)]
 show It N K s x 0 y.av=_
 unfold It
 rw[Aqb,ct,vA,Acs y1 d (f.le (by
  rw[y1.m]
  have:=A02 (v:=z) (by unfold smallI at d;omega)
  omega))]
 exact k x hx
def J7(f:FracD):Prop:=smallI f.num/\smallI f.den/\1<=f.den
def xL{s:RB}{f:FracD}{r:List Ar}(n:J7 f)(d:fit 2000 N)(h:At s.nw s.cw s.nx (Oo f::r))(q:s.er=0){K:LA->Int->Int->O R}{Y:O R}(k:∀ x,At s.nw s.cw x r->K [.int .i64 f.num,.int .i64 f.den] x 0=Y):Ca N s K=Y:=by
 obtain⟨j,l,t⟩:=n
 rw[Yc];unfold Ob
 refine Gi h q fun x hx=>?_
 have l1:=s7 j
 have l2:=s7 l
 show strings_Cut N (Oo f) [47] _=_
 rw[A23 (by unfold Oo;rw[A8y,A83];omega)]
 unfold Oo
 rw[A1b (A6o f.num)]
 show OZ N (tx f.num) _=_
 rw[Alj j (d.le (by omega))]
 show Ia N K f.num true s x 0 (tx f.den)=_
 unfold Ia Pe
 rw[Alj l (d.le (by omega))]
 obtain⟨c,w,e,m⟩:=A1c (show 0<=f.den by omega)
 unfold Eh at m
 simp only[A81,decide_eq_true_eq]at m
 rw[e]
 rw[show Ad 0 (c::w).length=true by unfold Ad;simp,show(((UInt8.toNat (List.getD (c::w) 0 0):Nat):Int)==45)=false by
  rw[beq_eq_false_iff_ne];show ¬ (c.toNat:Int)=45;omega]
 show Lj N K f.num true f.den true s x 0=_
 unfold Lj
 rw[show decide (f.den<1)=false from decide_eq_false (by omega)]
 exact k x hx
end
end Gx.Ct
namespace Gx
open Go Go.Proofs
set_option maxRecDepth 100000
noncomputable section
variable{R:Type}(N:Nat)
def EU(s:RB)(r0:Int->Int->Nat->Nat->LA->LA->O R):O R:=(P3 N s (fun x y=>Co N {s with nx:=x,er:=y} (fun e z aa=>Co N {s with nx:=z,er:=aa} (fun f ab ac=>Am N ([120]:Lu) {s with nx:=ab,er:=ac} (fun ad ae=>Ca N {s with nx:=ad,er:=ae} (fun c af ag=>cond ((beq c.length 2)&&((ble 5 12)&&(!false))) (Am N ([115,104,105,102,116]:Lu) {s with nx:=af,er:=ag} (fun ah ai=>Ca N {s with nx:=ah,er:=ai} (fun g aj ak=>cond ((beq g.length 2)&&((ble 7 ((setCells [.str ([]:Lu),.int .i64 e,.int .i64 f,Bfg,Bfg,Bfg,Bfg,Bfg,Bfg,Bfg,Bfg,.nsl] 3 c).length))&&(!false))) (Ca N {s with nx:=aj,er:=ak} (fun m al am=>cond ((beq m.length 2)&&((ble 9 ((setCells (setCells [.str ([]:Lu),.int .i64 e,.int .i64 f,Bfg,Bfg,Bfg,Bfg,Bfg,Bfg,Bfg,Bfg,.nsl] 3 c) 5 g).length))&&(!false))) (Am N ([108,105,109,105,116]:Lu) {s with nx:=al,er:=am} (fun an ao=>A5 N {s with nx:=an,er:=ao} (fun q ap aq=>cond ((beq 1 1)&&((ble 10 ((setCells (setCells (setCells [.str ([]:Lu),.int .i64 e,.int .i64 f,Bfg,Bfg,Bfg,Bfg,Bfg,Bfg,Bfg,Bfg,.nsl] 3 c) 5 g) 7 m).length))&&(!false))) (A5 N {s with nx:=ap,er:=aq} (fun t ar au=>cond ((beq 1 1)&&((ble 11 (((setCells (setCells (setCells [.str ([]:Lu),.int .i64 e,.int .i64 f,Bfg,Bfg,Bfg,Bfg,Bfg,Bfg,Bfg,Bfg,.nsl] 3 c) 5 g) 7 m).set 9 (.int .i64 q)).length))&&(!false))) (Am N ([97,119,97,121]:Lu) {s with nx:=ar,er:=au} (fun av aw=>J4 N ([]:Lu) {s with nx:=av,er:=aw} (fun o ax ay v=>cond ((beq 1 1)&&((ble 12 ((((setCells (setCells (setCells [.str ([]:Lu),.int .i64 e,.int .i64 f,Bfg,Bfg,Bfg,Bfg,Bfg,Bfg,Bfg,Bfg,.nsl] 3 c) 5 g) 7 m).set 9 (.int .i64 q)).set 10 (.int .i64 t)).length))&&(!false))) (cond (ble 12 (((((setCells (setCells (setCells [.str ([]:Lu),.int .i64 e,.int .i64 f,Bfg,Bfg,Bfg,Bfg,Bfg,Bfg,Bfg,Bfg,.nsl] 3 c) 5 g) 7 m).set 9 (.int .i64 q)).set 10 (.int .i64 t)).set 11 (.imm (v.take (o*1)) o 1 false false)).length)) (cond ((beq ((((((setCells (setCells (setCells [.str ([]:Lu),.int .i64 e,.int .i64 f,Bfg,Bfg,Bfg,Bfg,Bfg,Bfg,Bfg,Bfg,.nsl] 3 c) 5 g) 7 m).set 9 (.int .i64 q)).set 10 (.int .i64 t)).set 11 (.imm (v.take (o*1)) o 1 false false)).take 12).length) 12)&&(ble 12 12)) (cond ((ble (s.nL+1) 140737488355328)&&(ble ((s.nL+1)*120) 140737488355328)) (r0 ax ay (s.nL+1) s.zC ((s.cL.take (s.nL*12))++((setCells [.str ([]:Lu),Bfg,Bfg,Bfg,Bfg,Bfg,Bfg,Bfg,Bfg,Bfg,Bfg,.nsl] 0 (((((setCells (setCells (setCells [.str ([]:Lu),.int .i64 e,.int .i64 f,Bfg,Bfg,Bfg,Bfg,Bfg,Bfg,Bfg,Bfg,.nsl] 3 c) 5 g) 7 m).set 9 (.int .i64 q)).set 10 (.int .i64 t)).set 11 (.imm (v.take (o*1)) o 1 false false)).take 12)).take 12)) s.yC) none) none) none) none))) none)) none))) none)) none))) none))))) fun h az ba a b=>Co N {s with nx:=az,er:=ba,zC:=a,yC:=b} (fun i bb bc=>Co N {s with nx:=bb,er:=bc,zC:=a,yC:=b} (fun j bd be=>Am N ([120]:Lu) {s with nx:=bd,er:=be,zC:=a,yC:=b} (fun bf bh=>Ca N {s with nx:=bf,er:=bh,zC:=a,yC:=b} (fun d bi bj=>cond ((beq d.length 2)&&((ble 5 12)&&(!false))) (Am N ([115,104,105,102,116]:Lu) {s with nx:=bi,er:=bj,zC:=a,yC:=b} (fun bk bl=>Ca N {s with nx:=bk,er:=bl,zC:=a,yC:=b} (fun l bm bn=>cond ((beq l.length 2)&&((ble 7 ((setCells [.str h,.int .i64 i,.int .i64 j,Bfg,Bfg,Bfg,Bfg,Bfg,Bfg,Bfg,Bfg,.nsl] 3 d).length))&&(!false))) (Ca N {s with nx:=bm,er:=bn,zC:=a,yC:=b} (fun n bo bp=>cond ((beq n.length 2)&&((ble 9 ((setCells (setCells [.str h,.int .i64 i,.int .i64 j,Bfg,Bfg,Bfg,Bfg,Bfg,Bfg,Bfg,Bfg,.nsl] 3 d) 5 l).length))&&(!false))) (Am N ([108,105,109,105,116]:Lu) {s with nx:=bo,er:=bp,zC:=a,yC:=b} (fun bq br=>A5 N {s with nx:=bq,er:=br,zC:=a,yC:=b} (fun r bs bt=>cond ((beq 1 1)&&((ble 10 ((setCells (setCells (setCells [.str h,.int .i64 i,.int .i64 j,Bfg,Bfg,Bfg,Bfg,Bfg,Bfg,Bfg,Bfg,.nsl] 3 d) 5 l) 7 n).length))&&(!false))) (A5 N {s with nx:=bs,er:=bt,zC:=a,yC:=b} (fun u bu bv=>cond ((beq 1 1)&&((ble 11 (((setCells (setCells (setCells [.str h,.int .i64 i,.int .i64 j,Bfg,Bfg,Bfg,Bfg,Bfg,Bfg,Bfg,Bfg,.nsl] 3 d) 5 l) 7 n).set 9 (.int .i64 r)).length))&&(!false))) (Am N ([97,119,97,121]:Lu) {s with nx:=bu,er:=bv,zC:=a,yC:=b} (fun bw bx=>J4 N ([]:Lu) {s with nx:=bw,er:=bx,zC:=a,yC:=b} (fun p bz ca w=>cond ((beq 1 1)&&((ble 12 ((((setCells (setCells (setCells [.str h,.int .i64 i,.int .i64 j,Bfg,Bfg,Bfg,Bfg,Bfg,Bfg,Bfg,Bfg,.nsl] 3 d) 5 l) 7 n).set 9 (.int .i64 r)).set 10 (.int .i64 u)).length))&&(!false))) (cond (ble 12 (((((setCells (setCells (setCells [.str h,.int .i64 i,.int .i64 j,Bfg,Bfg,Bfg,Bfg,Bfg,Bfg,Bfg,Bfg,.nsl] 3 d) 5 l) 7 n).set 9 (.int .i64 r)).set 10 (.int .i64 u)).set 11 (.imm (w.take (p*1)) p 1 false false)).length)) (cond ((beq ((((((setCells (setCells (setCells [.str h,.int .i64 i,.int .i64 j,Bfg,Bfg,Bfg,Bfg,Bfg,Bfg,Bfg,Bfg,.nsl] 3 d) 5 l) 7 n).set 9 (.int .i64 r)).set 10 (.int .i64 u)).set 11 (.imm (w.take (p*1)) p 1 false false)).take 12).length) 12)&&(ble 12 12)) (cond ((ble (s.nL+1) 140737488355328)&&(ble ((s.nL+1)*120) 140737488355328)) (r0 bz ca (s.nL+1) a ((s.cL.take (s.nL*12))++((setCells [.str ([]:Lu),Bfg,Bfg,Bfg,Bfg,Bfg,Bfg,Bfg,Bfg,Bfg,Bfg,.nsl] 0 (((((setCells (setCells (setCells [.str h,.int .i64 i,.int .i64 j,Bfg,Bfg,Bfg,Bfg,Bfg,Bfg,Bfg,Bfg,.nsl] 3 d) 5 l) 7 n).set 9 (.int .i64 r)).set 10 (.int .i64 u)).set 11 (.imm (w.take (p*1)) p 1 false false)).take 12)).take 12)) b) none) none) none) none))) none)) none))) none)) none))) none)))))
def Xm:=(Ac (@EU R)).1
def LY:@Xm R=@EU R:=(Ac _).2
def qB(s:RB)(F:KF R):Int->Int->Nat->Nat->LA->LA->O R:=fun cb cc cd ce cf cg=>F (.tup []) [(100000,bN 0 [Bff 0 s.nw,iv cb,iv cc,iv s.th,Bff 1 s.nR,Bff 2 s.nB,Bff 3 cd,Bff 4 s.nU,Bff 5 s.nS,Bff 6 s.nT,Bff 7 s.nO,.bool s.bg,Bff 8 s.zA,Bff 9 s.zB,.own 300010 0 ce,.own 300011 0 s.zD,.own 300012 0 s.zE,.own 300013 0 s.zF,.own 300014 0 s.zG]),(300000,bQ 1 s.cw),(300001,bQ 1 s.cR),(300002,bQ 3 s.cB),(300003,bQ 12 cf),(300004,bQ 22 s.cU),(300005,bQ 9 s.cS),(300006,bQ 5 s.cT),(300007,bQ 4 s.cO),(300008,bQ 1 s.yA),(300009,bQ 1 s.yB),(300010,bQ 1 cg),(300011,bQ 1 s.yD),(300012,bQ 1 s.yE),(300013,bQ 1 s.yF),(300014,bQ 1 s.yG)]
def s8:=B4 N 95 [jC N,P4 N,Hi N,FS N,Mo N,TS N] Au3 (VJ fun
|[.optr 100000 0],s=>some fun _ k=>Xm N s (qB s k)
| _,_=>none) (aI fun _ s=>by split;intro R F;dsimp only;rw[LY];kernel_rfl;trivial)
def Vg(s:RB)(r0:Int->Int->O R)(r1:Lu->Int->Int->Nat->LA->O R):O R:=(B6 N s fun c d a b=>cond (!d) (r0 a b) (Gc N c fun e=>cond (!e) (Ap N 9 {s with nx:=a,er:=b} (fun f=>r0 a f)) (Al N (s.yD.take (s.zD*1)) s.zD false true c fun g=>cond g (Ap N 10 {s with nx:=a,er:=b} (fun h=>r0 a h)) (PB N 3 fun i=>cond (decide ((s.zD:Int)>=i)) (Ap N 8 {s with nx:=a,er:=b} (fun j=>r0 a j)) (cond ((ble (s.zD+1) 140737488355328)&&(ble ((s.zD+1)*16) 140737488355328)) (r1 c a b (s.zD+1) ((s.yD.take (s.zD*1))++[.str c])) none)))))
def P6:=(Ac (@Vg R)).1
def Yf:@P6 R=@Vg R:=(Ac _).2
def fZ(s:RB)(F:KF R):Lu->Int->Int->Nat->LA->O R:=fun l m n o p=>F (.str l) [(100000,bN 0 [Bff 0 s.nw,iv m,iv n,iv s.th,Bff 1 s.nR,Bff 2 s.nB,Bff 3 s.nL,Bff 4 s.nU,Bff 5 s.nS,Bff 6 s.nT,Bff 7 s.nO,.bool s.bg,Bff 8 s.zA,Bff 9 s.zB,.own 300010 0 s.zC,.own 300014 0 o,.own 300011 0 s.zE,.own 300012 0 s.zF,.own 300013 0 s.zG]),(300000,bQ 1 s.cw),(300001,bQ 1 s.cR),(300002,bQ 3 s.cB),(300003,bQ 12 s.cL),(300004,bQ 22 s.cU),(300005,bQ 9 s.cS),(300006,bQ 5 s.cT),(300007,bQ 4 s.cO),(300008,bQ 1 s.yA),(300009,bQ 1 s.yB),(300010,bQ 1 s.yC),(300011,bQ 1 s.yE),(300012,bQ 1 s.yF),(300013,bQ 1 s.yG),(300014,bQ 1 p)]
def jE:=B4 N 120 [B7 N,Jg N,Bq N,Bm N,IP N] yO (VJ fun
|[.optr 100000 0,.int .i64 3],s=>some fun _ k=>P6 N s (Am9 s k) (fZ s k)
| _,_=>none) (aI fun _ s=>by split;intro R F;dsimp only;rw[Yf];kernel_rfl;trivial)
def LZ(s:RB)(r0:Int->Int->Int->O R):O R:=(Dv N [Bfg,.int .i64 (-1),.int .i64 1,Bfg] false s fun a b c=>r0 a b c)
def BV:=(Ac (@LZ R)).1
def PH:@BV R=@LZ R:=(Ac _).2
def wj:=B4 N 126 [Hj N] Bt (VJ fun
|[.optr 100000 0],s=>some fun _ k=>BV N s (kp s k)
| _,_=>none) (aI fun _ s=>by split;intro R F;dsimp only;rw[PH];kernel_rfl;trivial)
def L_(s:RB)(r0:Int->Int->Int->O R):O R:=(Dv N [Bfg,.int .i64 1,Bfg,Bfg] false s fun a b c=>r0 a b c)
def Jd:=(Ac (@L_ R)).1
def PI:@Jd R=@L_ R:=(Ac _).2
def wk:=B4 N 127 [Hj N] Bt (VJ fun
|[.optr 100000 0],s=>some fun _ k=>Jd N s (kp s k)
| _,_=>none) (aI fun _ s=>by split;intro R F;dsimp only;rw[PI];kernel_rfl;trivial)
def EV(s:RB)(r0:Int->Int->Int->O R):O R:=(Dv N [Bfg,Bfg,.int .i64 1,Bfg] false s fun a b c=>r0 a b c)
def Rv:=(Ac (@EV R)).1
def MA:@Rv R=@EV R:=(Ac _).2
def s9:=B4 N 128 [Hj N] Bt (VJ fun
|[.optr 100000 0],s=>some fun _ k=>Rv N s (kp s k)
| _,_=>none) (aI fun _ s=>by split;intro R F;dsimp only;rw[MA];kernel_rfl;trivial)
def Zz(s:RB)(r0:Int->Int->Int->O R):O R:=(B6 N s fun c e a b=>cond (c==([111,102,102]:Lu)) (r0 0 a b) (cond (c==([115,116,97,114,116,105,110,103]:Lu)) (r0 1 a b) (cond (c==([111,110]:Lu)) (r0 2 a b) (Ap N 2 {s with nx:=a,er:=b} (fun d=>r0 0 a d)))))
def Ur:=(Ac (@Zz R)).1
def FU:@Ur R=@Zz R:=(Ac _).2
def qC:=B4 N 129 [B7 N,Bq N] Bt (VJ fun
|[.optr 100000 0],s=>some fun _ k=>Ur N s (kp s k)
| _,_=>none) (aI fun _ s=>by split;intro R F;dsimp only;rw[FU];kernel_rfl;trivial)
def Of(r0:Int->Int->Nat->Nat->LA->LA->O R)(s:RB)(k0:Int->Int->Nat->Lu->Int->Int->Int->Nat->LA->LA->O R)(g h:Int)(a:Nat)(i:Lu)(j l m:Int)(c:Nat)(b o:LA):O R:=(Hk N ([110,111,108,111,97,100]:Lu) {s with nx:=g,er:=h,zD:=a,yD:=b} (fun q=>cond q (A5 N {s with nx:=g,er:=h,zD:=a,yD:=b} (fun r t u=>H9 N {s with nx:=t,er:=u,zD:=a,yD:=b} (fun v w x=>cond ((ble (c+1) 140737488355328)&&(ble ((c+1)*16) 140737488355328)) (k0 w x a i j l m (c+1) b ((o.take (c*2))++[.int .i64 r,.int .i64 v])) none))) (Am N ([110,111,108,111,97,100]:Lu) {s with nx:=g,er:=h,zD:=a,yD:=b} (fun y z=>BV N {s with nx:=y,er:=z,zD:=a,yD:=b} (fun aa ab ac=>Am N ([114,97,109,112]:Lu) {s with nx:=ab,er:=ac,zD:=a,yD:=b} (fun ad ae=>A5 N {s with nx:=ad,er:=ae,zD:=a,yD:=b} (fun af ag ah=>A5 N {s with nx:=ag,er:=ah,zD:=a,yD:=b} (fun ai aj ak=>Am N ([115,116,97,114,116]:Lu) {s with nx:=aj,er:=ak,zD:=a,yD:=b} (fun al am=>A5 N {s with nx:=al,er:=am,zD:=a,yD:=b} (fun an ao ap=>Am N ([115,116,111,112]:Lu) {s with nx:=ao,er:=ap,zD:=a,yD:=b} (fun aq ar=>A5 N {s with nx:=aq,er:=ar,zD:=a,yD:=b} (fun au av aw=>Am N ([116,105,109,101,115]:Lu) {s with nx:=av,er:=aw,zD:=a,yD:=b} (fun ax ay=>Jd N {s with nx:=ax,er:=ay,zD:=a,yD:=b} (fun az ba bb=>Jd N {s with nx:=ba,er:=bb,zD:=a,yD:=b} (fun bc bd be=>Jd N {s with nx:=bd,er:=be,zD:=a,yD:=b} (fun bf bh bi=>Am N ([99,111,115,116]:Lu) {s with nx:=bh,er:=bi,zD:=a,yD:=b} (fun bj bk=>Rv N {s with nx:=bj,er:=bk,zD:=a,yD:=b} (fun bl bm bn=>Rv N {s with nx:=bm,er:=bn,zD:=a,yD:=b} (fun bo bp bq=>Jd N {s with nx:=bp,er:=bq,zD:=a,yD:=b} (fun br bs bt=>Am N ([114,101,115,101,114,118,101]:Lu) {s with nx:=bs,er:=bt,zD:=a,yD:=b} (fun bu bv=>A5 N {s with nx:=bu,er:=bv,zD:=a,yD:=b} (fun bw bx bz=>H9 N {s with nx:=bx,er:=bz,zD:=a,yD:=b} (fun ca cb cc=>Am N ([97,119,97,121]:Lu) {s with nx:=cb,er:=cc,zD:=a,yD:=b} (fun cd ce=>J4 N ([115,116,97,116,101]:Lu) {s with nx:=cd,er:=ce,zD:=a,yD:=b} (fun p cf cg ch=>Am N ([115,116,97,116,101]:Lu) {s with nx:=cf,er:=cg,zD:=a,yD:=b} (fun ci cj=>Ur N {s with nx:=ci,er:=cj,zD:=a,yD:=b} (fun ck cl cm=>Jd N {s with nx:=cl,er:=cm,zD:=a,yD:=b} (fun cn co cp=>A5 N {s with nx:=co,er:=cp,zD:=a,yD:=b} (fun cq cr cs=>cond ((ble (s.nU+1) 140737488355328)&&(ble ((s.nU+1)*216) 140737488355328)) (r0 cr cs (s.nU+1) a ((s.cU.take (s.nU*22))++[.str i,.int .i64 j,.int .i64 l,.int .i64 m,.imm (o.take (c*2)) c 2 false false,.int .i64 aa,.int .i64 af,.int .i64 ai,.int .i64 an,.int .i64 au,.int .i64 az,.int .i64 bc,.int .i64 bf,.int .i64 bl,.int .i64 bo,.int .i64 br,.int .i64 bw,.int .i64 ca,.imm (ch.take (p*1)) p 1 false false,.int .i64 ck,.int .i64 cn,.int .i64 cq]) b) none)))))))))))))))))))))))))))))
def Eu(r0:Int->Int->Nat->Nat->LA->LA->O R)(s:RB):Nat->Int->Int->Nat->Lu->Int->Int->Int->Nat->LA->LA->O R
|0=>fun _ _ _ _ _ _ _ _ _ _=>none
|n+1=>Of N r0 s (Eu r0 s n)
def Us(r0:Int->Int->Nat->Nat->LA->LA->O R)(q0:Int->Int->Nat->Lu->Int->Int->Int->Nat->LA->LA->O R)(s:RB):O R:=(P6 N s (fun ct cu=>Co N {s with nx:=ct,er:=cu} (fun cv cx cy=>Am N ([109,105,110]:Lu) {s with nx:=cx,er:=cy} (fun cz da=>A5 N {s with nx:=cz,er:=da} (fun db dc dd=>Am N ([109,97,120]:Lu) {s with nx:=dc,er:=dd} (fun de df=>A5 N {s with nx:=de,er:=df} (fun dg dh di=>Am N ([115,101,103,109,101,110,116,115]:Lu) {s with nx:=dh,er:=di} (fun dj dk=>q0 dj dk s.zD ([]:Lu) cv db dg 0 s.yD []))))))) fun dl dm dn d f=>Co N {s with nx:=dm,er:=dn,zD:=d,yD:=f} (fun dp dq dr=>Am N ([109,105,110]:Lu) {s with nx:=dq,er:=dr,zD:=d,yD:=f} (fun ds dt=>A5 N {s with nx:=ds,er:=dt,zD:=d,yD:=f} (fun du dv dw=>Am N ([109,97,120]:Lu) {s with nx:=dv,er:=dw,zD:=d,yD:=f} (fun dx dy=>A5 N {s with nx:=dx,er:=dy,zD:=d,yD:=f} (fun dz ea eb=>Am N ([115,101,103,109,101,110,116,115]:Lu) {s with nx:=ea,er:=eb,zD:=d,yD:=f} (fun ec ed=>q0 ec ed d dl dp du dz 0 f [])))))))
def Rw:=(Ac fun N s r0=>Us (R:=R) N r0 (Eu N r0 s N) s).1
def MB(s r0):(@Rw R N s r0)=(Us N r0 (Eu N r0 s N) s):=by rw[Rw,(Ac _).2]
def PJ:Hints:={H:=hK 8 (hS (hS (hP [0,2] hL) hL) hL),free:=[100001,100002,100003,100004,100005,100006,100007,100008,100009,100010,100011,100012,100013,100014,100015,100016,100017],cob:=[1000002]}
def UC:O6:=[jE N,P4 N,Hi N,Mo N,Vd N,Zu N,wj N,wk N,s9 N,TS N,qC N]
def qD(F:KF R):=Iq Tryz.f96 PJ (UC N) [100000,100001,100002,100003,100004,100005,100006,100007,100008,100009,100010,100011,100012,100013,100014,100015] N F
def P7(s:RB)(F:KF R):Int->Int->Nat->Nat->LA->LA->O R:=fun ee ef eg eh ei ej=>F (.tup []) [(100000,bN 0 [Bff 0 s.nw,iv ee,iv ef,iv s.th,Bff 1 s.nR,Bff 2 s.nB,Bff 3 s.nL,Bff 4 eg,Bff 5 s.nS,Bff 6 s.nT,Bff 7 s.nO,.bool s.bg,Bff 8 s.zA,Bff 9 s.zB,.own 300010 0 s.zC,.own 300011 0 eh,.own 300012 0 s.zE,.own 300013 0 s.zF,.own 300014 0 s.zG]),(300000,bQ 1 s.cw),(300001,bQ 1 s.cR),(300002,bQ 3 s.cB),(300003,bQ 12 s.cL),(300004,bQ 22 ei),(300005,bQ 9 s.cS),(300006,bQ 5 s.cT),(300007,bQ 4 s.cO),(300008,bQ 1 s.yA),(300009,bQ 1 s.yB),(300010,bQ 1 s.yC),(300011,bQ 1 ej),(300012,bQ 1 s.yE),(300013,bQ 1 s.yF),(300014,bQ 1 s.yG)]
def qE(s:RB)(K:St->O R):=fun g h a i j l m c b o=>K ⟨[(0,.optr 100000 0),(2,op 0)],[(100000,bN 0 [Bff 1 s.nw,iv g,iv h,iv s.th,Bff 2 s.nR,Bff 3 s.nB,Bff 4 s.nL,Bff 5 s.nU,Bff 6 s.nS,Bff 7 s.nT,Bff 8 s.nO,.bool s.bg,Bff 9 s.zA,.own 300010 0 s.zB,.own 300011 0 s.zC,.own 300012 0 a,.own 300013 0 s.zE,.own 300014 0 s.zF,.own 300015 0 s.zG]),(300000,bN 0 [.str i,iv j,iv l,iv m,.own 300016 0 c,iv 0,iv 0,iv 0,iv 0,iv 0,iv 0,iv 0,iv 0,iv 0,iv 0,iv 0,iv 0,iv 0,.own 300017 0 0,iv 0,iv 0,iv 0]),(300001,bQ 1 s.cw),(300002,bQ 1 s.cR),(300003,bQ 3 s.cB),(300004,bQ 12 s.cL),(300005,bQ 22 s.cU),(300006,bQ 9 s.cS),(300007,bQ 5 s.cT),(300008,bQ 4 s.cO),(300009,bQ 1 s.yA),(300010,bQ 1 s.yB),(300011,bQ 1 s.yC),(300012,bQ 1 b),(300013,bQ 1 s.yE),(300014,bQ 1 s.yF),(300015,bQ 1 s.yG),(300016,bQ 2 o),(300017,bQ 1 [])]⟩
def f8(F:KF R)s:∀ n,qE s (Ak (qD N F (pz 1398096) []) n)=(Eu N (P7 s F) s n):=Ds fun n e=>(Bs (Of N (P7 s F) s) e:_)
def s_:=B4 N 96 (UC N) PJ (VJ fun
|[.optr 100000 0],s=>some fun _ k=>Rw N s (P7 s k)
| _,_=>none) (aI fun _ s=>by split;intro R F;exact(Bs (Us N (P7 s F) · s) ((lW ..).trans (f8 ..)):_).trans (MB ..).symm;trivial)
def Vh(s:RB)(r0:Int->Int->O R)(r1:Lu->Int->Int->Nat->LA->O R):O R:=(B6 N s fun c d a b=>cond (!d) (r0 a b) (Gc N c fun e=>cond (!e) (Ap N 9 {s with nx:=a,er:=b} (fun f=>r0 a f)) (Al N (s.yE.take (s.zE*1)) s.zE false true c fun g=>cond g (Ap N 10 {s with nx:=a,er:=b} (fun h=>r0 a h)) (PB N 4 fun i=>cond (decide ((s.zE:Int)>=i)) (Ap N 8 {s with nx:=a,er:=b} (fun j=>r0 a j)) (cond ((ble (s.zE+1) 140737488355328)&&(ble ((s.zE+1)*16) 140737488355328)) (r1 c a b (s.zE+1) ((s.yE.take (s.zE*1))++[.str c])) none)))))
def P8:=(Ac (@Vh R)).1
def Yg:@P8 R=@Vh R:=(Ac _).2
def f9(s:RB)(F:KF R):Lu->Int->Int->Nat->LA->O R:=fun l m n o p=>F (.str l) [(100000,bN 0 [Bff 0 s.nw,iv m,iv n,iv s.th,Bff 1 s.nR,Bff 2 s.nB,Bff 3 s.nL,Bff 4 s.nU,Bff 5 s.nS,Bff 6 s.nT,Bff 7 s.nO,.bool s.bg,Bff 8 s.zA,Bff 9 s.zB,.own 300010 0 s.zC,.own 300011 0 s.zD,.own 300014 0 o,.own 300012 0 s.zF,.own 300013 0 s.zG]),(300000,bQ 1 s.cw),(300001,bQ 1 s.cR),(300002,bQ 3 s.cB),(300003,bQ 12 s.cL),(300004,bQ 22 s.cU),(300005,bQ 9 s.cS),(300006,bQ 5 s.cT),(300007,bQ 4 s.cO),(300008,bQ 1 s.yA),(300009,bQ 1 s.yB),(300010,bQ 1 s.yC),(300011,bQ 1 s.yD),(300012,bQ 1 s.yF),(300013,bQ 1 s.yG),(300014,bQ 1 p)]
def jF:=B4 N 120 [B7 N,Jg N,Bq N,Bm N,IP N] yO (VJ fun
|[.optr 100000 0,.int .i64 4],s=>some fun _ k=>P8 N s (Am9 s k) (f9 s k)
| _,_=>none) (aI fun _ s=>by split;intro R F;dsimp only;rw[Yg];kernel_rfl;trivial)
def Z0(s:RB)(r0:Int->Int->Int->O R):O R:=(Dv N [.int .i64 1,.int .i64 1,Bfg,Bfg] false s fun a b c=>r0 a b c)
def Fj:=(Ac (@Z0 R)).1
def FV:@Fj R=@Z0 R:=(Ac _).2
def qF:=B4 N 130 [Hj N] Bt (VJ fun
|[.optr 100000 0],s=>some fun _ k=>Fj N s (kp s k)
| _,_=>none) (aI fun _ s=>by split;intro R F;dsimp only;rw[FV];kernel_rfl;trivial)
def Z1(s:RB)(r0:Int->Int->Nat->Nat->LA->LA->O R):O R:=(P8 N s (fun t u=>Co N {s with nx:=t,er:=u} (fun e v w=>Am N ([99,97,112,97,99,105,116,121]:Lu) {s with nx:=v,er:=w} (fun x y=>Fj N {s with nx:=x,er:=y} (fun f z aa=>Am N ([108,101,118,101,108]:Lu) {s with nx:=z,er:=aa} (fun ab ac=>Fj N {s with nx:=ab,er:=ac} (fun g ad ae=>Fj N {s with nx:=ad,er:=ae} (fun h af ag=>Am N ([114,97,116,101]:Lu) {s with nx:=af,er:=ag} (fun ah ai=>A5 N {s with nx:=ah,er:=ai} (fun i aj ak=>A5 N {s with nx:=aj,er:=ak} (fun j al am=>Am N ([101,102,102,105,99,105,101,110,99,121]:Lu) {s with nx:=al,er:=am} (fun an ao=>Ca N {s with nx:=an,er:=ao} (fun c ap aq=>cond ((beq c.length 2)&&((ble 9 9)&&(!false))) (cond (ble 9 ((setCells [.str ([]:Lu),.int .i64 e,.int .i64 f,.int .i64 g,.int .i64 h,.int .i64 i,.int .i64 j,Bfg,Bfg] 7 c).length)) (cond ((beq (((setCells [.str ([]:Lu),.int .i64 e,.int .i64 f,.int .i64 g,.int .i64 h,.int .i64 i,.int .i64 j,Bfg,Bfg] 7 c).take 9).length) 9)&&(ble 9 9)) (cond ((ble (s.nS+1) 140737488355328)&&(ble ((s.nS+1)*80) 140737488355328)) (r0 ap aq (s.nS+1) s.zE ((s.cS.take (s.nS*9))++((setCells [.str ([]:Lu),Bfg,Bfg,Bfg,Bfg,Bfg,Bfg,Bfg,Bfg] 0 ((setCells [.str ([]:Lu),.int .i64 e,.int .i64 f,.int .i64 g,.int .i64 h,.int .i64 i,.int .i64 j,Bfg,Bfg] 7 c).take 9)).take 9)) s.yE) none) none) none) none)))))))))))) fun l ar au a b=>Co N {s with nx:=ar,er:=au,zE:=a,yE:=b} (fun m av aw=>Am N ([99,97,112,97,99,105,116,121]:Lu) {s with nx:=av,er:=aw,zE:=a,yE:=b} (fun ax ay=>Fj N {s with nx:=ax,er:=ay,zE:=a,yE:=b} (fun n az ba=>Am N ([108,101,118,101,108]:Lu) {s with nx:=az,er:=ba,zE:=a,yE:=b} (fun bb bc=>Fj N {s with nx:=bb,er:=bc,zE:=a,yE:=b} (fun o bd be=>Fj N {s with nx:=bd,er:=be,zE:=a,yE:=b} (fun p bf bh=>Am N ([114,97,116,101]:Lu) {s with nx:=bf,er:=bh,zE:=a,yE:=b} (fun bi bj=>A5 N {s with nx:=bi,er:=bj,zE:=a,yE:=b} (fun q bk bl=>A5 N {s with nx:=bk,er:=bl,zE:=a,yE:=b} (fun r bm bn=>Am N ([101,102,102,105,99,105,101,110,99,121]:Lu) {s with nx:=bm,er:=bn,zE:=a,yE:=b} (fun bo bp=>Ca N {s with nx:=bo,er:=bp,zE:=a,yE:=b} (fun d bq br=>cond ((beq d.length 2)&&((ble 9 9)&&(!false))) (cond (ble 9 ((setCells [.str l,.int .i64 m,.int .i64 n,.int .i64 o,.int .i64 p,.int .i64 q,.int .i64 r,Bfg,Bfg] 7 d).length)) (cond ((beq (((setCells [.str l,.int .i64 m,.int .i64 n,.int .i64 o,.int .i64 p,.int .i64 q,.int .i64 r,Bfg,Bfg] 7 d).take 9).length) 9)&&(ble 9 9)) (cond ((ble (s.nS+1) 140737488355328)&&(ble ((s.nS+1)*80) 140737488355328)) (r0 bq br (s.nS+1) a ((s.cS.take (s.nS*9))++((setCells [.str ([]:Lu),Bfg,Bfg,Bfg,Bfg,Bfg,Bfg,Bfg,Bfg] 0 ((setCells [.str l,.int .i64 m,.int .i64 n,.int .i64 o,.int .i64 p,.int .i64 q,.int .i64 r,Bfg,Bfg] 7 d).take 9)).take 9)) b) none) none) none) none))))))))))))
def Ut:=(Ac (@Z1 R)).1
def FW:@Ut R=@Z1 R:=(Ac _).2
def mA(s:RB)(F:KF R):Int->Int->Nat->Nat->LA->LA->O R:=fun bs bt bu bv bw bx=>F (.tup []) [(100000,bN 0 [Bff 0 s.nw,iv bs,iv bt,iv s.th,Bff 1 s.nR,Bff 2 s.nB,Bff 3 s.nL,Bff 4 s.nU,Bff 5 bu,Bff 6 s.nT,Bff 7 s.nO,.bool s.bg,Bff 8 s.zA,Bff 9 s.zB,.own 300010 0 s.zC,.own 300011 0 s.zD,.own 300012 0 bv,.own 300013 0 s.zF,.own 300014 0 s.zG]),(300000,bQ 1 s.cw),(300001,bQ 1 s.cR),(300002,bQ 3 s.cB),(300003,bQ 12 s.cL),(300004,bQ 22 s.cU),(300005,bQ 9 bw),(300006,bQ 5 s.cT),(300007,bQ 4 s.cO),(300008,bQ 1 s.yA),(300009,bQ 1 s.yB),(300010,bQ 1 s.yC),(300011,bQ 1 s.yD),(300012,bQ 1 bx),(300013,bQ 1 s.yF),(300014,bQ 1 s.yG)]
def qG:=B4 N 97 [jF N,P4 N,Hi N,qF N,Mo N,FS N] Au3 (VJ fun
|[.optr 100000 0],s=>some fun _ k=>Ut N s (mA s k)
| _,_=>none) (aI fun _ s=>by split;intro R F;dsimp only;rw[FW];kernel_rfl;trivial)
def Vi(s:RB)(r0:Int->Int->O R)(r1:Lu->Int->Int->Nat->LA->O R):O R:=(B6 N s fun c d a b=>cond (!d) (r0 a b) (Gc N c fun e=>cond (!e) (Ap N 9 {s with nx:=a,er:=b} (fun f=>r0 a f)) (Al N (s.yF.take (s.zF*1)) s.zF false true c fun g=>cond g (Ap N 10 {s with nx:=a,er:=b} (fun h=>r0 a h)) (PB N 5 fun i=>cond (decide ((s.zF:Int)>=i)) (Ap N 8 {s with nx:=a,er:=b} (fun j=>r0 a j)) (cond ((ble (s.zF+1) 140737488355328)&&(ble ((s.zF+1)*16) 140737488355328)) (r1 c a b (s.zF+1) ((s.yF.take (s.zF*1))++[.str c])) none)))))
def P9:=(Ac (@Vi R)).1
def Yh:@P9 R=@Vi R:=(Ac _).2
def f_(s:RB)(F:KF R):Lu->Int->Int->Nat->LA->O R:=fun l m n o p=>F (.str l) [(100000,bN 0 [Bff 0 s.nw,iv m,iv n,iv s.th,Bff 1 s.nR,Bff 2 s.nB,Bff 3 s.nL,Bff 4 s.nU,Bff 5 s.nS,Bff 6 s.nT,Bff 7 s.nO,.bool s.bg,Bff 8 s.zA,Bff 9 s.zB,.own 300010 0 s.zC,.own 300011 0 s.zD,.own 300012 0 s.zE,.own 300014 0 o,.own 300013 0 s.zG]),(300000,bQ 1 s.cw),(300001,bQ 1 s.cR),(300002,bQ 3 s.cB),(300003,bQ 12 s.cL),(300004,bQ 22 s.cU),(300005,bQ 9 s.cS),(300006,bQ 5 s.cT),(300007,bQ 4 s.cO),(300008,bQ 1 s.yA),(300009,bQ 1 s.yB),(300010,bQ 1 s.yC),(300011,bQ 1 s.yD),(300012,bQ 1 s.yE),(300013,bQ 1 s.yG),(300014,bQ 1 p)]
def jG:=B4 N 120 [B7 N,Jg N,Bq N,Bm N,IP N] yO (VJ fun
|[.optr 100000 0,.int .i64 5],s=>some fun _ k=>P9 N s (Am9 s k) (f_ s k)
| _,_=>none) (aI fun _ s=>by split;intro R F;dsimp only;rw[Yh];kernel_rfl;trivial)
def Ih(r0:Nat->Int->Int->LA->O R)(s:RB)(k0:Nat->Int->Int->Int->LA->O R)(a:Nat)(b c d:Int)(f:LA):O R:=(cond (decide (b<s.th)) (H9 N {s with nx:=c,er:=d} (fun g h i=>cond ((ble (a+1) 140737488355328)&&(ble ((a+1)*8) 140737488355328)) (k0 (a+1) (wrap .i64 (b+1)) h i ((f.take (a*1))++[.int .i64 g])) none)) (r0 a c d f))
def Cu(r0:Nat->Int->Int->LA->O R)(s:RB):Nat->Nat->Int->Int->Int->LA->O R
|0=>fun _ _ _ _ _=>none
|n+1=>Ih N r0 s (Cu r0 s n)
def Lk(N:Nat)(r0:Nat->Int->Int->LA->O R)(q0:Nat->Int->Int->Int->LA->O R)(s:RB):O R:=(q0 0 0 s.nx s.er [])
def Gl:=(Ac fun N s r0=>Lk (R:=R) N r0 (Cu N r0 s N) s).1
def V4(s r0):(@Gl R N s r0)=(Lk N r0 (Cu N r0 s N) s):=by rw[Gl,(Ac _).2]
def Xn:Hints:={H:=hK 2 (hS (hK 1 (hS (hP [1,5,10,11] hL) hL)) hL),nils:=[(4,1),(5,1)],modes:=[(2,1)]}
def Yi:O6:=[Zu N]
def YD(F:KF R):=Iq Tryz.f92 Xn (Yi N) [100000,100001,100002,100003,100004,100005,100006,100007,100008,100009,100010,100011,100012,100013,100014,100015] N F
def YE(s:RB)(K:St->O R):=fun a b c d f=>K ⟨[(1,.fn 1000121 [.optr 100000 0]),(5,Bff 0 a),(10,iv s.th),(11,iv b)],[(100000,bN 0 [.own 100001 0 s.nw,iv c,iv d,iv s.th,.own 100002 0 s.nR,.own 100003 0 s.nB,.own 100004 0 s.nL,.own 100005 0 s.nU,.own 100006 0 s.nS,.own 100007 0 s.nT,.own 100008 0 s.nO,.bool s.bg,.own 100009 0 s.zA,.own 100010 0 s.zB,.own 100011 0 s.zC,.own 100012 0 s.zD,.own 100013 0 s.zE,.own 100014 0 s.zF,.own 100015 0 s.zG]),(100001,bQ 1 s.cw),(100002,bQ 1 s.cR),(100003,bQ 3 s.cB),(100004,bQ 12 s.cL),(100005,bQ 22 s.cU),(100006,bQ 9 s.cS),(100007,bQ 5 s.cT),(100008,bQ 4 s.cO),(100009,bQ 1 s.yA),(100010,bQ 1 s.yB),(100011,bQ 1 s.yC),(100012,bQ 1 s.yD),(100013,bQ 1 s.yE),(100014,bQ 1 s.yF),(100015,bQ 1 s.yG),(300000,bQ 1 f)]⟩
def ML(F:KF R)s:∀ n,YE s (Ak (YD N F (pz 1348) []) n)=(Cu N (YZ s F) s n):=Ds fun n e=>(Bs (Ih N (YZ s F) s) e:_)
def bB:=B4 N 92 (Yi N) Xn (VJ fun
|[.optr 100000 0,.fn 1000121 [.optr 100000 0]],s=>some fun _ k=>Gl N s (YZ s k)
| _,_=>none) (aI fun _ s=>by split;intro R F;exact(Bs (Lk N (YZ s F) · s) ((lW ..).trans (ML ..)):_).trans (V4 ..).symm;trivial)
end
end Gx
namespace Gx
open Go
mutual
def A69:AV->AV->Bool
|.int k n,.int k' n'=>Qc k k'&&decide (n=n')
|.bool b,.bool b'=>b==b'
|.str s,.str s'=>s==s'
|.nsl,.nsl=>true
|.imm c n s t o,.imm c' n' s' t' o'=>beq n n'&&(beq s s'&&(t==t'&&(o==o'&&wl c c')))
|.iptr c o,.iptr c' o'=>o==o'&&wl c c'
|.pagg c o,.pagg c' o'=>o==o'&&wl c c'
|.own b f n,.own b' f' n'=>beq b b'&&(beq f f'&&beq n n')
|.optr b f,.optr b' f'=>beq b b'&&beq f f'
|.agg c,.agg c'=>wl c c'
|.tup c,.tup c'=>wl c c'
|.fn f c,.fn f' c'=>beq f f'&&wl c c'
|.nilptr,.nilptr=>true
|.nilfn,.nilfn=>true
|.undef,.undef=>true
|.omap b,.omap b'=>beq b b'
|_,_=>false
def wl:List AV->List AV->Bool
|[],[]=>true
|x::r,y::q=>A69 x y&&wl r q
|_,_=>false
end
mutual
def A1d:∀ a b,A69 a b=true->a=b:=by
 intro a b h
 cases a<;>cases b<;>simp only[A69,A81,Bc8,beq_iff_eq,Qc,decide_eq_true_eq,reduceCtorEq,Bbl]at h
 case int.int=>rw[h.1,h.2]
 case bool.bool=>rw[h]
 case str.str=>rw[h]
 case nsl.nsl=>rfl
 case imm.imm=>rw[h.1,h.2.1,h.2.2.1,h.2.2.2.1,IF _ _ h.2.2.2.2]
 case iptr.iptr=>rw[h.1,IF _ _ h.2]
 case pagg.pagg=>rw[h.1,IF _ _ h.2]
 case own.own=>rw[h.1,h.2.1,h.2.2]
 case optr.optr=>rw[h.1,h.2]
 case agg.agg=>rw[IF _ _ h]
 case tup.tup=>rw[IF _ _ h]
 case fn.fn=>rw[h.1,IF _ _ h.2]
 case nilptr.nilptr=>rfl
 case nilfn.nilfn=>rfl
 case undef.undef=>rfl
 case omap.omap=>rw[h]
def IF:∀ a b,wl a b=true->a=b:=by
 intro a b h
 cases a<;>cases b<;>simp only[wl,A81,Bbl]at h
 ·rfl
 ·rw[A1d _ _ h.1,IF _ _ h.2]
end
def A7a:Option (Nat×Nat)->Option (Nat×Nat)->Bool
|none,none=>true
|some (a,b),some (c,d)=>beq a c&&beq b d
|_,_=>false
def A7w(x y:Blk):Bool:=x.dead==y.dead&&(x.sealed==y.sealed&&(x.pure==y.pure&&(x.taint==y.taint&&(beq x.sz y.sz&&(x.mp==y.mp&&(A7a x.ty y.ty&&wl x.cells y.cells))))))
def A4d:A9->A9->Bool
|[],[]=>true
|(i,x)::r,(j,y)::q=>beq i j&&(A7w x y&&A4d r q)
|_,_=>false
def A49:∀ a b,A7a a b=true->a=b:=by
 intro a b h
 match a,b,h with
|none,none,_=>rfl
|some (a,b),some (c,d),h=>simp only[A7a,A81,Bc8]at h;rw[h.1,h.2]
|none,some _,h=>cases h
|some _,none,h=>simp[A7a]at h
def A5a(x y:Blk)(h:A7w x y=true):x=y:=by
 unfold A7w at h
 simp only[A81,Bc8,beq_iff_eq]at h
 obtain⟨f,j,k,l,m,n,d,e⟩:=h
 have:=A49 _ _ d;have:=IF _ _ e
 cases x;cases y;simp_all
def A1e:∀ a b,A4d a b=true->a=b:=by
 intro a
 induction a with
|nil=>intro b h;cases b<;>simp[A4d]at h ⊢
| cons p r d =>
  intro b h
  cases b with
  |nil=>simp[A4d]at h
  |cons q s =>
   obtain⟨i,x⟩:=p;obtain⟨j,y⟩:=q
   simp only[A4d,A81,Bc8]at h
   rw[h.1,A5a _ _ h.2.1,d _ h.2.2]
structure Pt where
 f:Nat
 args:List AV
 h:A9
 res:AV
 h':A9
def A6p(P:Program)(p:Pt):Prop:=A30 P p.f p.args p.h p.res p.h'
def Aha(P:Program):List Pt->Prop
|[]=>True
|p::r=>A6p P p/\Aha P r
def fa(f:Nat)(a:LA)(h:A9):List Pt->Option Pt
|[]=>none
|p::r=>cond (beq p.f f&&(wl p.args a&&A4d p.h h)) (some p) (fa f a h r)
def A1f{R:Type}(k:AV->A9->O R)(alt:O R):Option Pt->O R
|some p=>k p.res p.h'
|none=>alt
def A5b (l:List Pt) (f:Nat) (t:Tw):Tw:=⟨fun {R} a h k=>A1f k (t.runK a h k) (fa f a h l),fun {R} a h k=>by
 cases fa f a h l with
|none=>exact t.eq a h k
| some p=>rfl⟩
def Ahb{P:Program}{f:Nat}{a:LA}{h:A9}:∀{l:List Pt},Aha P l->∀{p},fa f a h l=some p->A30 P f a h p.res p.h'
|[],_,p,e=>by simp[fa]at e
| q::r,H,p,e=>by
  unfold fa at e
  cases d:beq q.f f&&(wl q.args a&&A4d q.h h)with
  |false=>rw[d]at e;exact Ahb H.2 e
  |true =>
   rw[d]at e
   simp only[cond_true,Bbe]at e
   subst e
   simp only[A81,Bc8]at d
   have:=IF _ _ d.2.1;have:=A1e _ _ d.2.2
   obtain⟨rfl,_,_⟩:=d
   subst_vars;exact H.1
def A26{P:Program}{l:List Pt}(H:Aha P l){f:Nat}{t:Tw}(d:qz P f t):qz P f (A5b l f t):=by
 intro a h res h' e
 have e:A1f (fun v h'=>some (v,h')) (t.runK a h fun v h'=>some (v,h')) (fa f a h l)=some (res,h'):=e
 cases hq:fa f a h l with
|none=>rw[hq]at e;exact d a h res h' e
|some p =>
  rw[hq]at e
  simp only[A1f,Bbe,Prod.mk.injEq]at e
  obtain⟨rfl,rfl⟩:=e
  exact Ahb H hq
def A5c(P:Program)(muts:Nat->List Bool)(N:Nat)(l:List Pt)(fs:List (Nat×Hints)):Nat->List (Nat×Tw)
|0=>[]
|d+1=>fs.map fun p=>(p.1,A5b l p.1 ⟨fun args h k=>yN P muts (A5c P muts N l fs d) p.2 N p.1 args h k,fun args h k=>by rw[RN,RN];exact kj ..⟩)
def A1g{P:Program}(f:P.follows .mixedOrders=true)(muts:Nat->List Bool)(N:Nat){l:List Pt}(H:Aha P l)(fs:List (Nat×Hints)):∀ d,xx P (A5c P muts N l fs d)
|0=>trivial
| d+1=>by
  rw[A5c]
  have key:∀(q:List (Nat×Hints)),xx P (q.map fun p=>((p.1,A5b l p.1 ⟨fun e h k=>yN P muts (A5c P muts N l fs d) p.2 N p.1 e h k,fun e h k=>by rw[RN,RN];exact kj ..⟩):Nat×Tw)):=by
   intro q
   induction q with
   |nil=>trivial
   |cons p r j =>
    refine⟨A26 H ?_,j⟩
    intro e h res h' m
    exact cC (A1g f muts N H fs d) f ((RN ..).symm.trans m)
  exact key fs
def A27(f:Nat):List (Nat×Hints)->Hints
|[]=>⟨.leaf,[],[],[],[]⟩
|p::r=>cond (beq p.1 f) p.2 (A27 f r)
def A1h(p:Pt):Option (AV×A9)->Bool
|some (v,h)=>A69 p.res v&&A4d p.h' h
|none=>false
def A4e{P:Program}(j:P.follows .mixedOrders=true){muts:Nat->List Bool}{N:Nat}{l:List Pt}(H:Aha P l){fs:List (Nat×Hints)}(d:Nat){p:Pt}
  (e:A1h p (yN P muts (A5c P muts N l fs d) (A27 p.f fs) N p.f p.args p.h fun v h=>some (v,h))=true):A6p P p:=by
 cases hq:yN P muts (A5c P muts N l fs d) (A27 p.f fs) N p.f p.args p.h fun v h=>some (v,h)with
|none=>rw[hq]at e;cases e
|some q =>
  rw[hq]at e
  obtain⟨v,h⟩:=q
  simp only[A1h,A81]at e
  have:=A1d _ _ e.1;have:=A1e _ _ e.2
  subst_vars
  exact cC (A1g j muts N H fs d) j ((RN ..).symm.trans hq)
end Gx
namespace Gx
open Go Go.Proofs
set_option maxRecDepth 100000
set_option linter.unusedVariables false
noncomputable section
def A7x:List (Nat×Hints):=[(5,{H:=hS hL (hS hL (hS (hS hL (hS (hP [2,4,26,27,28] hL) hL)) hL)),modes:=[(3,0),(0,0)]}),(18,{H:=hS hL (hS hL (hS (hP [1,8,9,10] hL) hL))}),(19,{H:=hS hL (hS hL (hS (hP [1,8,9,10] hL) hL))}),(20,{H:=hS hL (hS hL (hS (hP [1,8,9,10] hL) hL))}),(21,{H:=hS hL (hS hL (hS (hP [1,9,10,11] hL) hL))}),(22,{H:=hS hL (hS hL (hS (hP [1,8,9,10] hL) hL))}),(23,{H:=hS hL (hS hL (hS (hP [1,10,11,12] (hS hL (hS hL (hS (hS (hS hL (hS hL (hS hL (hS hL (hS hL (hS (hS hL (hS (hP [1,3,10,11,12,43,44,45] hL) hL)) hL)))))) hL) hL)))) hL))}),(24,{H:=hS hL (hS (hP [0,11,12] (hS hL (hS hL (hS (hS (hS hL (hS hL (hS hL (hS hL (hS (hP [0,2,3,4,11,12,31,32,33] hL) hL))))) hL) hL)))) hL)}),(35,{H:=hS hL (hS hL (hS hL (hS hL (hS (hS hL (hS (hP [0,1,2,3,10,11,12] hL) hL)) hL)))),modes:=[(3,0)]}),(36,{H:=hL,nils:=[(4,1)],modes:=[(2,1)]}),(54,{H:=hS hL (hS hL (hS (hP [0,1,3,4,23,24,25] hL) hL))}),(56,{H:=hS hL (hS hL (hS (hP [0,1,2,15,16] hL) hL))}),(61,{H:=hS (hS hL (hS (hP [0,1,2,8,9,10] hL) hL)) hL}),(67,{H:=hS hL (hS (hS hL (hS (hP [0,3] hL) hL)) hL)}),(68,{H:=hS hL (hS hL (hS hL (hS hL (hS hL (hS (hS hL (hS (hP [0,3,4,31,32,33] hL) hL)) (hS hL (hS hL (hS (hP [0,64,65,66] hL) hL)))))))),nils:=[(4,1)]}),(69,{H:=hS hL (hS hL (hS (hS hL (hS (hP [1,5,9,10,11] hL) hL)) hL)),nils:=[(4,1),(5,1)],modes:=[(2,1)]}),(70,{H:=hS hL (hS hL (hS (hS hL (hS (hP [1,2,3,7,20,21] hL) hL)) (hS hL (hS (hS hL (hS (hP [2,3,7,9,31,32,33] (hS hL (hS hL (hS (hS (hS hL (hS hL (hS hL (hS hL (hS hL (hS (hP [2,3,7,9,12,13,31,32,33,66,67] hL) hL)))))) hL) hL)))) hL)) hL))))}),(73,{H:=hS hL (hS hL (hS (hS hL (hS (hP [0,28,29] hL) hL)) hL))}),(131,{H:=hS hL (hS (hS hL (hS (hP [0,1,7,8] hL) hL)) hL)})]++[8,17,52,53,55,57,58,59,60,112].map fun f=>(f,{H:=hL})
structure PtL where
 l:List Pt
 ok:Aha Tryz.prog l
def A6q(s:PtL)(p:Pt)(e:A1h p (yN Tryz.prog muts (A5c Tryz.prog muts 1000000 s.l A7x 7) (A27 p.f A7x) 1000000 p.f p.args p.h fun v h=>some (v,h))=true):PtL:=⟨p::s.l,A4e follows s.ok _ e,s.ok⟩
def pl:PtL:=⟨[],trivial⟩
def A8q:=A6q pl ⟨5,[.pagg [iv 1,.imm [iv 0] 1 1 false false,.imm [.str [97],.imm [iv 0] 1 1 false false,iv 0,.str [98],.imm [iv 0] 1 1 false false,iv 0,.str [99],.imm [iv 0] 1 1 false false,iv 0] 3 3 false false,.imm [.str [107],iv 0,iv 1,iv 1,iv 1,iv 0,iv 1,iv 0,iv 1,iv 0,iv 0,.nsl,.str [108],iv 1,iv 2,iv 1,iv 1,iv 0,iv 1,iv 0,iv 1,iv 0,iv 0,.nsl] 2 12 false false,.nsl,.nsl,.nsl,.imm [.str [111],.imm [iv 0] 1 1 false false,.bool false,.nsl] 1 4 false false] false],[],.tup [.pagg [iv 6,iv 0,iv 0] false,iv 13],[]⟩ (by kernel_rfl)
def A8x:=A6q A8q ⟨5,[.pagg [iv 1,.imm [iv 0] 1 1 false false,.imm [.str [97],.imm [iv 0] 1 1 false false,iv 0,.str [98],.imm [iv 0] 1 1 false false,iv 0,.str [99],.imm [iv 0] 1 1 false false,iv 0] 3 3 false false,.imm [.str [107],iv 0,iv 1,iv 1,iv 1,iv 0,iv 1,iv 0,iv 1,iv 0,iv 0,.nsl,.str [108],iv 1,iv 2,iv 1,iv 1,iv 0,iv 1,iv 0,iv 1,iv 0,iv 0,.nsl] 2 12 false false,.nsl,.nsl,.nsl,.nsl] false],[],.tup [.pagg [iv 0,iv 0,iv 0] false,iv 0],[]⟩ (by kernel_rfl)
def sa:A30 Tryz.prog 8 [] [] (.bool true) []:=A4e follows (muts:=muts) (N:=1000000) A8x.ok (fs:=A7x) 7 (p:=⟨8,[],[],.bool true,[]⟩) (by kernel_rfl)
end
end Gx
namespace Gx
open Go Go.Proofs
noncomputable section
variable{R:Type}(N:Nat)
def qH(_N:Nat)(r0:Bool->O R):O R:=r0 true
def PK:=(Ac (@qH R)).1
def Uu:@PK R=@qH R:=(Ac _).2
def Afd:Bd Tryz.prog:=⟨8,fun
|[],[]=>some fun _ k=>PK N fun b=>k (.bool b) []
| _,_=>none,(fun a h g e R k=>by
  split at e
  ·cases e;dsimp only;rw[Uu,Uu];rfl
  ·cases e),(fun a h g res h' e hh=>by
  split at e
  ·cases e;dsimp only at hh;rw[Uu]at hh;cases hh;exact sa
  ·cases e)⟩
end
end Gx
namespace Gx
open Go Go.Proofs
set_option maxRecDepth 100000
noncomputable section
variable{R:Type}(N:Nat)
def MC(s:RB)(r0:Int->Int->Nat->Nat->LA->LA->O R):O R:=(P9 N s (fun i j=>Co N {s with nx:=i,er:=j} (fun l m n=>Am N ([105,109,112,111,114,116]:Lu) {s with nx:=m,er:=n} (fun o p=>C6 N {s with nx:=o,er:=p} (fun c q r t=>Am N ([101,120,112,111,114,116]:Lu) {s with nx:=q,er:=r} (fun u v=>C6 N {s with nx:=u,er:=v} (fun d w x y=>Am N ([112,114,105,99,101]:Lu) {s with nx:=w,er:=x} (fun z aa=>Gl N {s with nx:=z,er:=aa} (fun e ab ac ad=>cond ((ble (s.nT+1) 140737488355328)&&(ble ((s.nT+1)*96) 140737488355328)) (r0 ab ac (s.nT+1) s.zF ((s.cT.take (s.nT*5))++[.str ([]:Lu),.int .i64 l,.imm (t.take (c*1)) c 1 false false,.imm (y.take (d*1)) d 1 false false,.imm (ad.take (e*1)) e 1 false false]) s.yF) none)))))))) fun ae af ag a b=>Co N {s with nx:=af,er:=ag,zF:=a,yF:=b} (fun ah ai aj=>Am N ([105,109,112,111,114,116]:Lu) {s with nx:=ai,er:=aj,zF:=a,yF:=b} (fun ak al=>C6 N {s with nx:=ak,er:=al,zF:=a,yF:=b} (fun f am an ao=>Am N ([101,120,112,111,114,116]:Lu) {s with nx:=am,er:=an,zF:=a,yF:=b} (fun ap aq=>C6 N {s with nx:=ap,er:=aq,zF:=a,yF:=b} (fun g ar au av=>Am N ([112,114,105,99,101]:Lu) {s with nx:=ar,er:=au,zF:=a,yF:=b} (fun aw ax=>Gl N {s with nx:=aw,er:=ax,zF:=a,yF:=b} (fun h ay az ba=>cond ((ble (s.nT+1) 140737488355328)&&(ble ((s.nT+1)*96) 140737488355328)) (r0 ay az (s.nT+1) a ((s.cT.take (s.nT*5))++[.str ae,.int .i64 ah,.imm (ao.take (f*1)) f 1 false false,.imm (av.take (g*1)) g 1 false false,.imm (ba.take (h*1)) h 1 false false]) b) none))))))))
def BW:=(Ac (@MC R)).1
def PL:@BW R=@MC R:=(Ac _).2
def Og:=A5y (Vb N) (bB N) (Eq.refl 92)
def sb(s:RB)(F:KF R):Int->Int->Nat->Nat->LA->LA->O R:=fun bb bc bd be bf bh=>F (.tup []) [(100000,bN 0 [Bff 0 s.nw,iv bb,iv bc,iv s.th,Bff 1 s.nR,Bff 2 s.nB,Bff 3 s.nL,Bff 4 s.nU,Bff 5 s.nS,Bff 6 bd,Bff 7 s.nO,.bool s.bg,Bff 8 s.zA,Bff 9 s.zB,.own 300010 0 s.zC,.own 300011 0 s.zD,.own 300012 0 s.zE,.own 300013 0 be,.own 300014 0 s.zG]),(300000,bQ 1 s.cw),(300001,bQ 1 s.cR),(300002,bQ 3 s.cB),(300003,bQ 12 s.cL),(300004,bQ 22 s.cU),(300005,bQ 9 s.cS),(300006,bQ 5 bf),(300007,bQ 4 s.cO),(300008,bQ 1 s.yA),(300009,bQ 1 s.yB),(300010,bQ 1 s.yC),(300011,bQ 1 s.yD),(300012,bQ 1 s.yE),(300013,bQ 1 bh),(300014,bQ 1 s.yG)]
def wm:=B4 N 98 [jG N,P4 N,Hi N,Og N] Au3 (VJ fun
|[.optr 100000 0],s=>some fun _ k=>BW N s (sb s k)
| _,_=>none) (aI fun _ s=>by split;intro R F;dsimp only;rw[PL];kernel_rfl;trivial)
def Vj(s:RB)(r0:Lu->Int->Int->Nat->LA->O R):O R:=(B6 N s fun c d a b=>cond (!d) (r0 ([]:Lu) a b s.zG s.yG) (Gc N c fun e=>cond (!e) (Ap N 9 {s with nx:=a,er:=b} (fun f=>r0 ([]:Lu) a f s.zG s.yG)) (Al N (s.yG.take (s.zG*1)) s.zG false true c fun g=>cond g (Ap N 10 {s with nx:=a,er:=b} (fun h=>r0 ([]:Lu) a h s.zG s.yG)) (PB N 6 fun i=>cond (decide ((s.zG:Int)>=i)) (Ap N 8 {s with nx:=a,er:=b} (fun j=>r0 ([]:Lu) a j s.zG s.yG)) (cond ((ble (s.zG+1) 140737488355328)&&(ble ((s.zG+1)*16) 140737488355328)) (r0 c a b (s.zG+1) ((s.yG.take (s.zG*1))++[.str c])) none)))))
def Qa:=(Ac (@Vj R)).1
def Yj:@Qa R=@Vj R:=(Ac _).2
def fb(s:RB)(F:KF R):Lu->Int->Int->Nat->LA->O R:=fun l m n o p=>F (.str l) [(100000,bN 0 [Bff 0 s.nw,iv m,iv n,iv s.th,Bff 1 s.nR,Bff 2 s.nB,Bff 3 s.nL,Bff 4 s.nU,Bff 5 s.nS,Bff 6 s.nT,Bff 7 s.nO,.bool s.bg,Bff 8 s.zA,Bff 9 s.zB,.own 300010 0 s.zC,.own 300011 0 s.zD,.own 300012 0 s.zE,.own 300013 0 s.zF,.own 300014 0 o]),(300000,bQ 1 s.cw),(300001,bQ 1 s.cR),(300002,bQ 3 s.cB),(300003,bQ 12 s.cL),(300004,bQ 22 s.cU),(300005,bQ 9 s.cS),(300006,bQ 5 s.cT),(300007,bQ 4 s.cO),(300008,bQ 1 s.yA),(300009,bQ 1 s.yB),(300010,bQ 1 s.yC),(300011,bQ 1 s.yD),(300012,bQ 1 s.yE),(300013,bQ 1 s.yF),(300014,bQ 1 p)]
def jH:=B4 N 120 [B7 N,Jg N,Bq N,Bm N,IP N] yO (VJ fun
|[.optr 100000 0,.int .i64 6],s=>some fun _ k=>Qa N s (fb s k)
| _,_=>none) (aI fun _ s=>by split;intro R F;dsimp only;rw[Yj];kernel_rfl;trivial)
def Ti(s:RB)(r0:Int->Int->Int->O R):O R:=(B6 N s fun d e a b=>cond (!e) (r0 0 a b) (Ba N (s.yC.take (s.zC*1)) s.zC false true d fun c=>cond (decide (c<0)) (Ap N 12 {s with nx:=a,er:=b} (fun f=>r0 0 a f)) (r0 c a b)))
def Oh:=(Ac (@Ti R)).1
def Xo:@Oh R=@Ti R:=(Ac _).2
def fc:=B4 N 122 [B7 N,Et N,Bq N] Bt (VJ fun
|[.optr 100000 0,.int .i64 2],s=>some fun _ k=>Oh N s (kp s k)
| _,_=>none) (aI fun _ s=>by split;intro R F;dsimp only;rw[Xo];kernel_rfl;trivial)
def Tj(s:RB)(r0:Int->Int->Int->O R):O R:=(B6 N s fun d e a b=>cond (!e) (r0 0 a b) (Ba N (s.yD.take (s.zD*1)) s.zD false true d fun c=>cond (decide (c<0)) (Ap N 12 {s with nx:=a,er:=b} (fun f=>r0 0 a f)) (r0 c a b)))
def Oi:=(Ac (@Tj R)).1
def Xp:@Oi R=@Tj R:=(Ac _).2
def fe:=B4 N 122 [B7 N,Et N,Bq N] Bt (VJ fun
|[.optr 100000 0,.int .i64 3],s=>some fun _ k=>Oi N s (kp s k)
| _,_=>none) (aI fun _ s=>by split;intro R F;dsimp only;rw[Xp];kernel_rfl;trivial)
def Ll(r0:Int->Int->Nat->Nat->LA->LA->O R)(s:RB)(a:Nat)(c:Lu)(d:Nat)(g:Bool)(b f:LA)(k2:Int->Int->Nat->LA->O R)(l m:Int)(h:Nat)(q:LA):O R:=(F5 N {s with nx:=l,er:=m,zG:=a,yG:=b} (fun r=>cond r (Oi N {s with nx:=l,er:=m,zG:=a,yG:=b} (fun t u v=>A5 N {s with nx:=u,er:=v,zG:=a,yG:=b} (fun w x y=>A5 N {s with nx:=x,er:=y,zG:=a,yG:=b} (fun z aa ab=>cond ((ble (h+1) 140737488355328)&&(ble ((h+1)*24) 140737488355328)) (k2 aa ab (h+1) ((q.take (h*3))++[.int .i64 t,.int .i64 w,.int .i64 z])) none)))) (cond ((ble (s.nO+1) 140737488355328)&&(ble ((s.nO+1)*72) 140737488355328)) (r0 l m (s.nO+1) a ((s.cO.take (s.nO*4))++[.str c,.imm (f.take (d*1)) d 1 false false,.bool g,.imm (q.take (h*3)) h 3 false false]) b) none)))
def Gm(r0:Int->Int->Nat->Nat->LA->LA->O R)(s:RB)(a:Nat)(c:Lu)(d:Nat)(g:Bool)(b f:LA):Nat->Int->Int->Nat->LA->O R
|0=>fun _ _ _ _=>none
|n+1=>Ll N r0 s a c d g b f (Gm r0 s a c d g b f n)
def DM(N:Nat)(r0:Int->Int->Nat->Nat->LA->LA->O R)(s:RB)(a:Nat)(c:Lu)(d:Nat)(b f:LA)(q2:Bool->Int->Int->Nat->LA->O R)(o p:Int)(g:Bool):O R:=(q2 g o p 0 [])
def FX(r0:Int->Int->Nat->Nat->LA->LA->O R)(s:RB)(a:Nat)(c:Lu)(d:Nat)(b f:LA)(o p:Int)(g:Bool):O R:=DM N r0 s a c d b f (fun g=>Gm N r0 s a c d g b f N) o p g
def Lm(r0:Int->Int->Nat->Nat->LA->LA->O R)(s:RB)(a:Nat)(c:Lu)(b:LA)(k0:Int->Int->Nat->LA->O R)(q1:Nat->LA->Int->Int->Bool->O R)(i j:Int)(d:Nat)(f:LA):O R:=(Hk N ([99,111,114,114,101,99,116,105,118,101]:Lu) {s with nx:=i,er:=j,zG:=a,yG:=b} (fun ac=>cond ac (Oh N {s with nx:=i,er:=j,zG:=a,yG:=b} (fun ad ae af=>cond ((ble (d+1) 140737488355328)&&(ble ((d+1)*8) 140737488355328)) (k0 ae af (d+1) ((f.take (d*1))++[.int .i64 ad])) none)) (F5 N {s with nx:=i,er:=j,zG:=a,yG:=b} (fun ag=>cond ag (Am N ([99,111,114,114,101,99,116,105,118,101]:Lu) {s with nx:=i,er:=j,zG:=a,yG:=b} (fun ah ai=>q1 d f ah ai true)) (q1 d f i j false)))))
def Es(r0:Int->Int->Nat->Nat->LA->LA->O R)(s:RB)(a:Nat)(c:Lu)(b:LA):Nat->Int->Int->Nat->LA->O R
|0=>fun _ _ _ _=>none
|n+1=>Lm N r0 s a c b (Es r0 s a c b n) (fun d f=>FX N r0 s a c d b f)
def Qb(r0:Int->Int->Nat->Nat->LA->LA->O R)(q0:Nat->Lu->LA->Int->Int->Nat->LA->O R)(s:RB):O R:=(Qa N s fun c aj ak a b=>Am N ([108,105,110,101,115]:Lu) {s with nx:=aj,er:=ak,zG:=a,yG:=b} (fun al am=>q0 a c b al am 0 []))
def Mr:=(Ac fun N s r0=>Qb (R:=R) N r0 (fun a c b=>Es N r0 s a c b N) s).1
def DN(s r0):(@Mr R N s r0)=(Qb N r0 (fun a c b=>Es N r0 s a c b N) s):=by rw[Mr,(Ac _).2]
def FY:Hints:={H:=hK 3 (hS (hS (hP [0,2] hL) hL) (hJ [0,2] hL (hS (hS (hP [0,2] hL) hL) hL))),free:=[100001,100002,100003,100004,100005,100006,100007,100008,100009,100010,100011,100012,100013,100014,100015,100016,100017],cob:=[1000002]}
def Mt:=A5y (fc N) (fe N) (Eq.refl 122)
def MD:O6:=[jH N,Hi N,Vd N,Mt N,O0 N,Mo N]
def Tk(F:KF R):=Iq Tryz.f99 FY (MD N) [100000,100001,100002,100003,100004,100005,100006,100007,100008,100009,100010,100011,100012,100013,100014,100015] N F
def Dz(s:RB)(F:KF R):Int->Int->Nat->Nat->LA->LA->O R:=fun an ao ap aq ar au=>F (.tup []) [(100000,bN 0 [Bff 0 s.nw,iv an,iv ao,iv s.th,Bff 1 s.nR,Bff 2 s.nB,Bff 3 s.nL,Bff 4 s.nU,Bff 5 s.nS,Bff 6 s.nT,Bff 7 ap,.bool s.bg,Bff 8 s.zA,Bff 9 s.zB,.own 300010 0 s.zC,.own 300011 0 s.zD,.own 300012 0 s.zE,.own 300013 0 s.zF,.own 300014 0 aq]),(300000,bQ 1 s.cw),(300001,bQ 1 s.cR),(300002,bQ 3 s.cB),(300003,bQ 12 s.cL),(300004,bQ 22 s.cU),(300005,bQ 9 s.cS),(300006,bQ 5 s.cT),(300007,bQ 4 ar),(300008,bQ 1 s.yA),(300009,bQ 1 s.yB),(300010,bQ 1 s.yC),(300011,bQ 1 s.yD),(300012,bQ 1 s.yE),(300013,bQ 1 s.yF),(300014,bQ 1 au)]
def jI(s:RB)(a:Nat)(c:Lu)(d:Nat)(g:Bool)(b f:LA)(K:St->O R):=fun l m h q=>K ⟨[(0,.optr 100000 0),(2,op 0)],[(100000,bN 0 [Bff 1 s.nw,iv l,iv m,iv s.th,Bff 2 s.nR,Bff 3 s.nB,Bff 4 s.nL,Bff 5 s.nU,Bff 6 s.nS,Bff 7 s.nT,Bff 8 s.nO,.bool s.bg,Bff 9 s.zA,.own 300010 0 s.zB,.own 300011 0 s.zC,.own 300012 0 s.zD,.own 300013 0 s.zE,.own 300014 0 s.zF,.own 300015 0 a]),(300000,bN 0 [.str c,.own 300016 0 d,.bool g,.own 300017 0 h]),(300001,bQ 1 s.cw),(300002,bQ 1 s.cR),(300003,bQ 3 s.cB),(300004,bQ 12 s.cL),(300005,bQ 22 s.cU),(300006,bQ 9 s.cS),(300007,bQ 5 s.cT),(300008,bQ 4 s.cO),(300009,bQ 1 s.yA),(300010,bQ 1 s.yB),(300011,bQ 1 s.yC),(300012,bQ 1 s.yD),(300013,bQ 1 s.yE),(300014,bQ 1 s.yF),(300015,bQ 1 b),(300016,bQ 1 f),(300017,bQ 3 q)]⟩
def jJ(s:RB)(a:Nat)(c:Lu)(d:Nat)(b f:LA)(K:St->O R):=fun o p g=>K ⟨[(0,.optr 100000 0),(2,op 0)],[(100000,bN 0 [Bff 1 s.nw,iv o,iv p,iv s.th,Bff 2 s.nR,Bff 3 s.nB,Bff 4 s.nL,Bff 5 s.nU,Bff 6 s.nS,Bff 7 s.nT,Bff 8 s.nO,.bool s.bg,Bff 9 s.zA,.own 300010 0 s.zB,.own 300011 0 s.zC,.own 300012 0 s.zD,.own 300013 0 s.zE,.own 300014 0 s.zF,.own 300015 0 a]),(300000,bN 0 [.str c,.own 300016 0 d,.bool g,.own 300017 0 0]),(300001,bQ 1 s.cw),(300002,bQ 1 s.cR),(300003,bQ 3 s.cB),(300004,bQ 12 s.cL),(300005,bQ 22 s.cU),(300006,bQ 9 s.cS),(300007,bQ 5 s.cT),(300008,bQ 4 s.cO),(300009,bQ 1 s.yA),(300010,bQ 1 s.yB),(300011,bQ 1 s.yC),(300012,bQ 1 s.yD),(300013,bQ 1 s.yE),(300014,bQ 1 s.yF),(300015,bQ 1 b),(300016,bQ 1 f),(300017,bQ 3 [])]⟩
def jK(s:RB)(a:Nat)(c:Lu)(b:LA)(K:St->O R):=fun i j d f=>K ⟨[(0,.optr 100000 0),(2,op 0)],[(100000,bN 0 [Bff 1 s.nw,iv i,iv j,iv s.th,Bff 2 s.nR,Bff 3 s.nB,Bff 4 s.nL,Bff 5 s.nU,Bff 6 s.nS,Bff 7 s.nT,Bff 8 s.nO,.bool s.bg,Bff 9 s.zA,.own 300010 0 s.zB,.own 300011 0 s.zC,.own 300012 0 s.zD,.own 300013 0 s.zE,.own 300014 0 s.zF,.own 300015 0 a]),(300000,bN 0 [.str c,.own 300016 0 d,.bool false,.own 300017 0 0]),(300001,bQ 1 s.cw),(300002,bQ 1 s.cR),(300003,bQ 3 s.cB),(300004,bQ 12 s.cL),(300005,bQ 22 s.cU),(300006,bQ 9 s.cS),(300007,bQ 5 s.cT),(300008,bQ 4 s.cO),(300009,bQ 1 s.yA),(300010,bQ 1 s.yB),(300011,bQ 1 s.yC),(300012,bQ 1 s.yD),(300013,bQ 1 s.yE),(300014,bQ 1 s.yF),(300015,bQ 1 b),(300016,bQ 1 f),(300017,bQ 3 [])]⟩
def YF(F:KF R)(s a c d g b f):∀ n,jI s a c d g b f (Ak (Tk N F (pz 21840) []) n)=(Gm N (Dz s F) s a c d g b f n):=Ds fun n e=>(Bs (Ll N (Dz s F) s a c d g b f) e:_)
def YG(F:KF R)(s a c d b f):jJ s a c d b f (Bo (Tk N F (pz 1365) []))=(FX N (Dz s F) s a c d b f):=(Bs (DM N (Dz s F) s a c d b f) (qY fun g=>(lW ..).trans (YF ..)):_)
def YH(F:KF R)(s a c b):∀ n,jK s a c b (Ak (Tk N F (pz 1360) []) n)=(Es N (Dz s F) s a c b n):=Ds fun n e=>(Xs (Lm N (Dz s F) s a c b) e (MR fun d f=>(jW ..).trans (YG ..)):_)
def mB:=B4 N 99 (MD N) FY (VJ fun
|[.optr 100000 0],s=>some fun _ k=>Mr N s (Dz s k)
| _,_=>none) (aI fun _ s=>by split;intro R F;exact(Bs (Qb N (Dz s F) · s) (A2b fun a c b=>(lW ..).trans (YH ..)):_).trans (DN ..).symm;trivial)
def Cv(s:RB)(r0:Int->Int->Nat->Nat->Nat->Nat->Nat->Nat->Nat->Nat->Nat->Nat->Nat->Nat->LA->LA->LA->LA->LA->LA->LA->LA->LA->LA->LA->LA->O R)(r1:Int->Int->Int->Nat->LA->O R):O R:=(B6 N s fun c cp a b=>cond ((c==([99,97,115,101]:Lu))==s.bg) (Ap N 2 {s with nx:=a,er:=b} (fun ap=>r0 a ap s.nB s.nL s.nU s.nS s.nT s.nO s.zB s.zC s.zD s.zE s.zF s.zG s.cB s.cL s.cU s.cS s.cT s.cO s.yB s.yC s.yD s.yE s.yF s.yG)) (cond (c==([99,97,115,101]:Lu)) (O3 N 1 24 {s with nx:=a,er:=b,bg:=true} (fun d aq ar=>Am N ([114,101,115,101,114,118,101]:Lu) {s with nx:=aq,er:=ar,th:=d,bg:=true} (fun au av=>C6 N {s with nx:=au,er:=av,th:=d,bg:=true} (fun g h aw i=>Gg N {s with nx:=h,er:=aw,th:=d,nR:=g,bg:=true,cR:=i} (fun ax=>r1 h ax d g i))))) (cond (c==([98,117,115]:Lu)) (BR N {s with nx:=a,er:=b} (fun j ay l m n o=>Gg N {s with nx:=j,er:=ay,nB:=l,zB:=m,cB:=n,yB:=o} (fun az=>r0 j az l s.nL s.nU s.nS s.nT s.nO m s.zC s.zD s.zE s.zF s.zG n s.cL s.cU s.cS s.cT s.cO o s.yC s.yD s.yE s.yF s.yG))) (cond (c==([108,105,110,101]:Lu)) (Xm N {s with nx:=a,er:=b} (fun p ba q r t u=>Gg N {s with nx:=p,er:=ba,nL:=q,zC:=r,cL:=t,yC:=u} (fun bb=>r0 p bb s.nB q s.nU s.nS s.nT s.nO s.zB r s.zD s.zE s.zF s.zG s.cB t s.cU s.cS s.cT s.cO s.yB u s.yD s.yE s.yF s.yG))) (cond (c==([117,110,105,116]:Lu)) (Rw N {s with nx:=a,er:=b} (fun v bc w x y z=>Gg N {s with nx:=v,er:=bc,nU:=w,zD:=x,cU:=y,yD:=z} (fun bd=>r0 v bd s.nB s.nL w s.nS s.nT s.nO s.zB s.zC x s.zE s.zF s.zG s.cB s.cL y s.cS s.cT s.cO s.yB s.yC z s.yE s.yF s.yG))) (cond (c==([115,116,111,114,101]:Lu)) (Ut N {s with nx:=a,er:=b} (fun aa be ab ac ad ae=>Gg N {s with nx:=aa,er:=be,nS:=ab,zE:=ac,cS:=ad,yE:=ae} (fun bf=>r0 aa bf s.nB s.nL s.nU ab s.nT s.nO s.zB s.zC s.zD ac s.zF s.zG s.cB s.cL s.cU ad s.cT s.cO s.yB s.yC s.yD ae s.yF s.yG))) (cond (c==([116,105,101]:Lu)) (BW N {s with nx:=a,er:=b} (fun af bh ag ah ai aj=>Gg N {s with nx:=af,er:=bh,nT:=ag,zF:=ah,cT:=ai,yF:=aj} (fun bi=>r0 af bi s.nB s.nL s.nU s.nS ag s.nO s.zB s.zC s.zD s.zE ah s.zG s.cB s.cL s.cU s.cS ai s.cO s.yB s.yC s.yD s.yE aj s.yG))) (cond (c==([111,117,116,97,103,101]:Lu)) (Mr N {s with nx:=a,er:=b} (fun ak bj al am an ao=>Gg N {s with nx:=ak,er:=bj,nO:=al,zG:=am,cO:=an,yG:=ao} (fun bk=>r0 ak bk s.nB s.nL s.nU s.nS s.nT al s.zB s.zC s.zD s.zE s.zF am s.cB s.cL s.cU s.cS s.cT an s.yB s.yC s.yD s.yE s.yF ao))) (Ap N 2 {s with nx:=a,er:=b} (fun bl=>Gg N {s with nx:=a,er:=bl} (fun bm=>r0 a bm s.nB s.nL s.nU s.nS s.nT s.nO s.zB s.zC s.zD s.zE s.zF s.zG s.cB s.cL s.cU s.cS s.cT s.cO s.yB s.yC s.yD s.yE s.yF s.yG)))))))))))
def Bv:=(Ac (@Cv R)).1
def Ce:@Bv R=@Cv R:=(Ac _).2
def YI(s:RB)(F:KF R):Int->Int->Nat->Nat->Nat->Nat->Nat->Nat->Nat->Nat->Nat->Nat->Nat->Nat->LA->LA->LA->LA->LA->LA->LA->LA->LA->LA->LA->LA->O R:=fun e f bn bo bp bq br bs bt bu bv bw bx bz ca cb cc cd ce cf cg ch ci cj ck cl=>F (.tup []) [(100000,bN 0 [Bff 0 s.nw,iv e,iv f,iv s.th,Bff 1 s.nR,Bff 2 bn,Bff 3 bo,Bff 4 bp,Bff 5 bq,Bff 6 br,Bff 7 bs,.bool s.bg,Bff 8 s.zA,Bff 9 bt,.own 300010 0 bu,.own 300011 0 bv,.own 300012 0 bw,.own 300013 0 bx,.own 300014 0 bz]),(300000,bQ 1 s.cw),(300001,bQ 1 s.cR),(300002,bQ 3 ca),(300003,bQ 12 cb),(300004,bQ 22 cc),(300005,bQ 9 cd),(300006,bQ 5 ce),(300007,bQ 4 cf),(300008,bQ 1 s.yA),(300009,bQ 1 cg),(300010,bQ 1 ch),(300011,bQ 1 ci),(300012,bQ 1 cj),(300013,bQ 1 ck),(300014,bQ 1 cl)]
def YJ(s:RB)(F:KF R):Int->Int->Int->Nat->LA->O R:=fun e f cm cn co=>F (.tup []) [(100000,bN 0 [Bff 0 s.nw,iv e,iv f,iv cm,.own 300015 0 cn,Bff 2 s.nB,Bff 3 s.nL,Bff 4 s.nU,Bff 5 s.nS,Bff 6 s.nT,Bff 7 s.nO,.bool true,Bff 8 s.zA,Bff 9 s.zB,.own 300010 0 s.zC,.own 300011 0 s.zD,.own 300012 0 s.zE,.own 300013 0 s.zF,.own 300014 0 s.zG]),(300000,bQ 1 s.cw),(300001,bQ 1 s.cR),(300002,bQ 3 s.cB),(300003,bQ 12 s.cL),(300004,bQ 22 s.cU),(300005,bQ 9 s.cS),(300006,bQ 5 s.cT),(300007,bQ 4 s.cO),(300008,bQ 1 s.yA),(300009,bQ 1 s.yB),(300010,bQ 1 s.yC),(300011,bQ 1 s.yD),(300012,bQ 1 s.yE),(300013,bQ 1 s.yF),(300014,bQ 1 s.yG),(300015,bQ 1 co)]
def bC:=B4 N 33 [B7 N,Bq N,O_ N,Hi N,Vb N,Ab2 N,wh N,s8 N,s_ N,qG N,wm N,mB N] yO (VJ fun
|[.optr 100000 0],s=>some fun _ k=>Bv N s (YI s k) (YJ s k)
| _,_=>none) (aI fun _ s=>by split;intro R F;dsimp only;rw[Ce];kernel_rfl;trivial)
def Sv(r0:LA->Int->Int->O R)(k0:Lu->Int->Bool->Nat->Int->Int->Int->Nat->Nat->Nat->Nat->Nat->Nat->Nat->Bool->Nat->Nat->Nat->Nat->Nat->Nat->LA->LA->LA->LA->LA->LA->LA->LA->LA->LA->LA->LA->LA->LA->O R)(aj:Lu)(u:Int)(ak:Bool)(ap:Nat)(aq ar j:Int)(a b c d f g h:Nat)(l:Bool)(v w x y z aa:Nat)(au m o p q r s t ab ac ad ae af ag:LA):O R:=(cond ak (strings_Cut N aj ([10]:Lu) fun bz al am=>pC N bz fun ah ai=>F5 N (RB.mk ah 0 0 j a b c d f g h l 0 v w x y z aa ai m o p q r s t [] ab ac ad ae af ag) fun ca=>cond (!ca) (k0 al (wrap .i64 (u+1)) am ah 0 0 j a b c d f g h l v w x y z aa ai m o p q r s t ab ac ad ae af ag) (Bv N (RB.mk ah 0 0 j a b c d f g h l 0 v w x y z aa ai m o p q r s t [] ab ac ad ae af ag) (fun av an aw ax ay az ba bb bc bd be bf bg bh bi bj bk bl bm bn bo bp bq br bs bt=>Lw N (RB.mk ah av an j a aw ax ay az ba bb l 0 bc bd be bf bg bh ai m bi bj bk bl bm bn [] bo bp bq br bs bt) fun cb=>cond (!cb) (r0 [Bfg,.nsl,.nsl,.nsl,.nsl,.nsl,.nsl,.nsl] (wrap .i64 (u+1)) an) (k0 al (wrap .i64 (u+1)) am ah av an j a aw ax ay az ba bb l bc bd be bf bg bh ai m bi bj bk bl bm bn bo bp bq br bs bt)) fun bu ao bv bw bx=>Lw N (RB.mk ah bu ao bv bw b c d f g h true 0 v w x y z aa ai bx o p q r s t [] ab ac ad ae af ag) fun cc=>cond (!cc) (r0 [Bfg,.nsl,.nsl,.nsl,.nsl,.nsl,.nsl,.nsl] (wrap .i64 (u+1)) ao) (k0 al (wrap .i64 (u+1)) am ah bu ao bv bw b c d f g h true v w x y z aa ai bx o p q r s t ab ac ad ae af ag))) (cond (!l) (r0 [Bfg,.nsl,.nsl,.nsl,.nsl,.nsl,.nsl,.nsl] 1 2) (r0 [.int .i64 j,.imm (m.take (a*1)) a 1 false false,.imm (o.take (b*3)) b 3 false false,.imm (p.take (c*12)) c 12 false false,.imm (q.take (d*22)) d 22 false false,.imm (r.take (f*9)) f 9 false false,.imm (s.take (g*5)) g 5 false false,.imm (t.take (h*4)) h 4 false false] 0 0)))
def Ln(r0:LA->Int->Int->O R):Nat->Lu->Int->Bool->Nat->Int->Int->Int->Nat->Nat->Nat->Nat->Nat->Nat->Nat->Bool->Nat->Nat->Nat->Nat->Nat->Nat->LA->LA->LA->LA->LA->LA->LA->LA->LA->LA->LA->LA->LA->LA->O R
|0=>fun _ _ _ _ _ _ _ _ _ _ _ _ _ _ _ _ _ _ _ _ _ _ _ _ _ _ _ _ _ _ _ _ _ _ _=>none
|n+1=>Sv N r0 (Ln r0 n)
def iG(N:Nat)(r0:LA->Int->Int->O R)(q0:Lu->Int->Bool->Nat->Int->Int->Int->Nat->Nat->Nat->Nat->Nat->Nat->Nat->Bool->Nat->Nat->Nat->Nat->Nat->Nat->LA->LA->LA->LA->LA->LA->LA->LA->LA->LA->LA->LA->LA->LA->O R)(i:Lu):O R:=(cond (decide (((i.length:Nat):Int)>1048576)) (r0 [Bfg,.nsl,.nsl,.nsl,.nsl,.nsl,.nsl,.nsl] 0 8) (q0 i 0 true 0 0 0 0 0 0 0 0 0 0 0 false 0 0 0 0 0 0 [] [] [] [] [] [] [] [] [] [] [] [] [] []))
def UD:=(Ac fun N i r0=>iG (R:=R) N r0 (Ln N r0 N) i).1
def qI(i r0):(@UD R N i r0)=(iG N r0 (Ln N r0 N) i):=by rw[UD,(Ac _).2]
def vB:Hints:={H:=hK 4 (hS (hK 1 (hS (hP [0,2,5,6,7] hL) hL)) hL),modes:=[(3,0),(0,0),(0,0)],cob:=[13]}
def Acu:O6:=[P' N,Atc N,O0 N,bC N,ZU N]
def Aqj(F:KF R):=Iq Tryz.f7 vB (Acu N) [] N F
def PM(F:KF R):LA->Int->Int->O R:=fun cd ce cf=>F (.tup [.pagg cd false,iv ce,iv cf]) []
def Aqk(K:St->O R):=fun aj u ak ap aq ar j a b c d f g h l v w x y z aa au m o p q r s t ab ac ad ae af ag=>K ⟨[(0,.str aj),(2,op 0),(5,op 1),(6,iv u),(7,.bool ak)],hq [bN 0 [iv 0,.nsl,.nsl,.nsl,.nsl,.nsl,.nsl,.nsl],bN 0 [Bff 2 ap,iv aq,iv ar,iv j,Bff 3 a,Bff 4 b,Bff 5 c,Bff 6 d,Bff 7 f,Bff 8 g,Bff 9 h,.bool l,.own 300010 0 0,.own 300011 0 v,.own 300012 0 w,.own 300013 0 x,.own 300014 0 y,.own 300015 0 z,.own 300016 0 aa],bQ 1 au,bQ 1 m,bQ 3 o,bQ 12 p,bQ 22 q,bQ 9 r,bQ 5 s,bQ 4 t,bQ 1 [],bQ 1 ab,bQ 1 ac,bQ 1 ad,bQ 1 ae,bQ 1 af,bQ 1 ag]⟩
def Acv(F:KF R):∀ n,Aqk (Ak (Aqj N F (pz 21828) []) n)=(Ln N (PM F) n):=Ds fun n e=>(Bs (Sv N (PM F)) e:_)
def At5:=B4 N 7 (Acu N) vB (fun
|[.str i],[]=>some fun _ k=>UD N i (PM k)
| _,_=>none) fun _ _=>by split;intro R F;exact(Bs (iG N (PM F) · _) ((lW ..).trans (Acv ..)):_).trans (qI ..).symm;trivial
def Hz(r0:Bool->O R)(a:LA)(b:Nat)(d c:Bool)(k0:Int->Bool->LA->O R)(f:Int)(am:Bool)(g:LA):O R:=(cond (decide (f<2)) (cond (Ad f 2) (cond (ble 8 ((g.drop (0+(f.toNat*8))).length)) (cond ((beq 0 0)&&((beq (((g.drop (0+(f.toNat*8))).take 8).length) 8)&&(beq 8 8))) (cond (ble 8 (((g.drop (0+(f.toNat*8))).take 8).length)) (CX N (((g.drop (0+(f.toNat*8))).take 8).take 8) am fun ap aq=>cond ((beq ap.length 3)&&((ble 3 3)&&(!false))) (cond (aq != 0) (k0 (wrap .i64 (f+1)) am g) (cond (ble 8 (((g.drop (0+(f.toNat*8))).take 8).length)) (IN N (((g.drop (0+(f.toNat*8))).take 8).take 8) am fun ar au=>UD N ar fun an bc av=>cond ((beq 0 0)&&((beq an.length 8)&&(beq 8 8))) (cond (ble 8 an.length) (CX N (an.take 8) false fun aw ax=>cond ((beq aw.length 3)&&((ble 3 3)&&(!false))) (cond ((au != 0)==false) (cond ((cond false true (av != 0))==false) (cond (cond false true (ax != 0)) (r0 false) (k0 (wrap .i64 (f+1)) am g)) (r0 false)) (r0 false)) none) none) none) none)) none) none) none) none) none) (WV N a b false c fun ay=>CX N ay false fun az ba=>cond ((beq az.length 3)&&((ble 3 3)&&(!false))) (PK N fun bb=>cond (bb==true) (r0 (cond true (ba==0) false)) (r0 false)) none))
def Cg(r0:Bool->O R)(a:LA)(b:Nat)(d c:Bool):Nat->Int->Bool->LA->O R
|0=>fun _ _ _=>none
|n+1=>Hz N r0 a b d c (Cg r0 a b d c n)
def Kd(r0:Bool->O R)(q0:Int->Bool->LA->O R)(q:Int)(r:LA)(s:Nat)(t h:Bool)(u:LA)(v:Nat)(w i:Bool)(x:LA)(y:Nat)(z j:Bool)(aa:LA)(ab:Nat)(ac l:Bool)(ad:LA)(ae:Nat)(af m:Bool)(ag:LA)(ah:Nat)(ai o:Bool)(aj:LA)(ak:Nat)(al p:Bool)(a:LA)(b:Nat)(d c:Bool):O R:=(WV N a b false c fun ao=>cond ((beq ao.length 8)&&(ble 8 16)) (cond ((beq 8 8)&&(ble 16 ((setCells [Bfg,.nsl,.nsl,.nsl,.nsl,.nsl,.nsl,.nsl,Bfg,.nsl,.nsl,.nsl,.nsl,.nsl,.nsl,.nsl] 0 ao).length))) (q0 0 ((h||(i||(j||(l||(m||(o||(p||false)))))))||false) (C3 (setCells [Bfg,.nsl,.nsl,.nsl,.nsl,.nsl,.nsl,.nsl,Bfg,.nsl,.nsl,.nsl,.nsl,.nsl,.nsl,.nsl] 0 ao) 8 [.int .i64 q,.imm r s 1 t h,.imm u v 3 w i,.imm x y 12 z j,.imm aa ab 22 ac l,.imm ad ae 9 af m,.imm ag ah 5 ai o,.imm aj ak 4 al p])) none) none)
def Lo:=(Ac fun N q r s t h u v w i x y z j aa ab ac l ad ae af m ag ah ai o aj ak al p a b d c r0=>Kd (R:=R) N r0 (Cg N r0 a b d c N) q r s t h u v w i x y z j aa ab ac l ad ae af m ag ah ai o aj ak al p a b d c).1
def T3(q r s t h u v w i x y z j aa ab ac l ad ae af m ag ah ai o aj ak al p a b d c r0):(@Lo R N q r s t h u v w i x y z j aa ab ac l ad ae af m ag ah ai o aj ak al p a b d c r0)=(Kd N r0 (Cg N r0 a b d c N) q r s t h u v w i x y z j aa ab ac l ad ae af m ag ah ai o aj ak al p a b d c):=by rw[Lo,(Ac _).2]
def V5:Hints:={H:=hK 1 (hS (hK 1 (hS (hP [1,21,22,23] hL) hL)) hL)}
def Xq:O6:=[Axp N,As7 N,Ao6 N,At5 N,Afd N]
def UE(F:KF R):=Iq Tryz.f3 V5 (Xq N) [] N F
def UF(a:LA)(b:Nat)(d c:Bool)(K:St->O R):=fun f am g=>K ⟨[(1,.imm a b 1 d c),(21,Bff 0 2),(22,iv 2),(23,iv f)],hq [bP am 8 g]⟩
def ME(F:KF R)(a b d c):∀ n,UF a b d c (Ak (UE N F (pz 324) []) n)=(Cg N (Da F) a b d c n):=Ds fun n e=>(Bs (Hz N (Da F) a b d c) e:_)
def Xr:=B4 N 3 (Xq N) V5 (fun
|[.agg [.int .i64 q,.imm r s 1 t h,.imm u v 3 w i,.imm x y 12 z j,.imm aa ab 22 ac l,.imm ad ae 9 af m,.imm ag ah 5 ai o,.imm aj ak 4 al p],.imm a b 1 d c],[]=>some fun _ k=>Lo N q r s t h u v w i x y z j aa ab ac l ad ae af m ag ah ai o aj ak al p a b d c (Da k)
| _,_=>none) fun _ _=>by split;intro R F;exact(Bs (Kd N (Da F) · _ _ _ _ _ _ _ _ _ _ _ _ _ _ _ _ _ _ _ _ _ _ _ _ _ _ _ _ _ _ _ _ _) ((lW ..).trans (ME ..)):_).trans (T3 ..).symm;trivial
def V6:=(Xr N).tw
def UG:qz Tryz.prog 3 (V6 N):=(Xr N).tok
end
end Gx
namespace Gx.Ct
open Go Go.Proofs Gx.Cf
section
variable{R:Type}{N:Nat}
def LV{l:List Ar}{d f:Bool}(q:l.length<=1000000)(hn:l.Nodup){i:Nat}(hi:i<l.length){K:Int->O R}:∀(m j fuel:Nat),j+m=i->l.length<fuel+j ->
  A2 N K (Au l) l.length d f l[i] fuel (l.length:Int) (j:Int)=K (i:Int)
|0,j,0,k,n=>by omega
|m+1,j,0,k,n=>by omega
|0,j,fuel+1,k,_=>by
  have:j=i:=by omega
  subst this
  rw[A2];unfold Br
  rw[F1 hi,ct,Ab hi,ct,A8z,A9j,Ju hi,beq_self_eq_true,ct]
| m+1,j,fuel+1,k,n=>by
  have h:j<l.length:=by omega
  have e:¬ l[i]=l[j]:=fun e=>by
   have:=(List.getElem_inj hn).1 e
   omega
  rw[A2];unfold Br
  rw[F1 h,ct,Ab h,ct,A8z,A9j,Ju h,beq_false_of_ne e,cf,OO (by omega)]
  exact LV q hn hi m (j+1) fuel (by omega) (by omega)
def UB{l:List Ar}{n:Nat}{d f:Bool}(hN:1000000000<N)(hn:n=l.length)(e:l.length<=1000000)(j:l.Nodup){i:Nat}(hi:i<l.length){K:Int->O R}:Ba N (Au l) n d f l[i] K=K (i:Int):=by
 subst hn
 rw[Gv];unfold Dp
 exact LV e j hi i 0 N (by omega) (by omega)
def A1i{s:RB}{w:Ar}{r ns:List Ar}(hN:1000000000<N)(d:A1 w=true)(f:w∉ns)(n:ns.length<32)(j:s.zB=ns.length)(l:s.yB=Au ns)(h:At s.nw s.cw s.nx (w::r))(m:s.er=0){K:Int->Int->O R}{L:Lu->Int->Int->Nat->LA->O R}{Y:O R}(k:∀ x,At s.nw s.cw x r->L w x 0 (ns++[w]).length (Au (ns++[w]))=Y):Xj N s K L=Y:=by
 rw[LJ];unfold EP
 refine Gi h m fun x hx=>?_
 show Gc N w _=_
 rw[El (by omega),d]
 show Al N _ _ _ _ _ _=_
 rw[j,l,Dw,Gt hN rfl (by omega),show ns.contains w=false by simpa using f,cf,Rp]
 show cond (decide ((ns.length:Int)>=32)) _ _=_
 rw[show decide ((ns.length:Int)>=32)=false from decide_eq_false (by omega),cf,ER (by omega),ct,Jh]
 have e:ns.length+1=(ns++[w]).length:=by simp
 rw[e]
 exact k x hx
def A1j{s:RB}{w:Ar}{r ns:List Ar}(hN:1000000000<N)(d:A1 w=true)(f:w∉ns)(n:ns.length<64)(j:s.zC=ns.length)(l:s.yC=Au ns)(h:At s.nw s.cw s.nx (w::r))(m:s.er=0){K:Int->Int->O R}{L:Lu->Int->Int->Nat->LA->O R}{Y:O R}(k:∀ x,At s.nw s.cw x r->L w x 0 (ns++[w]).length (Au (ns++[w]))=Y):P3 N s K L=Y:=by
 rw[Yb];unfold Vc
 refine Gi h m fun x hx=>?_
 show Gc N w _=_
 rw[El (by omega),d]
 show Al N _ _ _ _ _ _=_
 rw[j,l,Dw,Gt hN rfl (by omega),show ns.contains w=false by simpa using f,cf,Rp]
 show cond (decide ((ns.length:Int)>=64)) _ _=_
 rw[show decide ((ns.length:Int)>=64)=false from decide_eq_false (by omega),cf,ER (by omega),ct,Jh]
 have e:ns.length+1=(ns++[w]).length:=by simp
 rw[e]
 exact k x hx
def A1k{s:RB}{w:Ar}{r ns:List Ar}(hN:1000000000<N)(d:A1 w=true)(f:w∉ns)(n:ns.length<16)(j:s.zD=ns.length)(l:s.yD=Au ns)(h:At s.nw s.cw s.nx (w::r))(m:s.er=0){K:Int->Int->O R}{L:Lu->Int->Int->Nat->LA->O R}{Y:O R}(k:∀ x,At s.nw s.cw x r->L w x 0 (ns++[w]).length (Au (ns++[w]))=Y):P6 N s K L=Y:=by
 rw[Yf];unfold Vg
 refine Gi h m fun x hx=>?_
 show Gc N w _=_
 rw[El (by omega),d]
 show Al N _ _ _ _ _ _=_
 rw[j,l,Dw,Gt hN rfl (by omega),show ns.contains w=false by simpa using f,cf,Rp]
 show cond (decide ((ns.length:Int)>=16)) _ _=_
 rw[show decide ((ns.length:Int)>=16)=false from decide_eq_false (by omega),cf,ER (by omega),ct,Jh]
 have e:ns.length+1=(ns++[w]).length:=by simp
 rw[e]
 exact k x hx
def A1l{s:RB}{w:Ar}{r ns:List Ar}(hN:1000000000<N)(d:A1 w=true)(f:w∉ns)(n:ns.length<8)(j:s.zE=ns.length)(l:s.yE=Au ns)(h:At s.nw s.cw s.nx (w::r))(m:s.er=0){K:Int->Int->O R}{L:Lu->Int->Int->Nat->LA->O R}{Y:O R}(k:∀ x,At s.nw s.cw x r->L w x 0 (ns++[w]).length (Au (ns++[w]))=Y):P8 N s K L=Y:=by
 rw[Yg];unfold Vh
 refine Gi h m fun x hx=>?_
 show Gc N w _=_
 rw[El (by omega),d]
 show Al N _ _ _ _ _ _=_
 rw[j,l,Dw,Gt hN rfl (by omega),show ns.contains w=false by simpa using f,cf,Rp]
 show cond (decide ((ns.length:Int)>=8)) _ _=_
 rw[show decide ((ns.length:Int)>=8)=false from decide_eq_false (by omega),cf,ER (by omega),ct,Jh]
 have e:ns.length+1=(ns++[w]).length:=by simp
 rw[e]
 exact k x hx
def A1m{s:RB}{w:Ar}{r ns:List Ar}(hN:1000000000<N)(d:A1 w=true)(f:w∉ns)(n:ns.length<8)(j:s.zF=ns.length)(l:s.yF=Au ns)(h:At s.nw s.cw s.nx (w::r))(m:s.er=0){K:Int->Int->O R}{L:Lu->Int->Int->Nat->LA->O R}{Y:O R}(k:∀ x,At s.nw s.cw x r->L w x 0 (ns++[w]).length (Au (ns++[w]))=Y):P9 N s K L=Y:=by
 rw[Yh];unfold Vi
 refine Gi h m fun x hx=>?_
 show Gc N w _=_
 rw[El (by omega),d]
 show Al N _ _ _ _ _ _=_
 rw[j,l,Dw,Gt hN rfl (by omega),show ns.contains w=false by simpa using f,cf,Rp]
 show cond (decide ((ns.length:Int)>=8)) _ _=_
 rw[show decide ((ns.length:Int)>=8)=false from decide_eq_false (by omega),cf,ER (by omega),ct,Jh]
 have e:ns.length+1=(ns++[w]).length:=by simp
 rw[e]
 exact k x hx
def A1n{s:RB}{w:Ar}{r ns:List Ar}(hN:1000000000<N)(d:A1 w=true)(f:w∉ns)(n:ns.length<64)(j:s.zG=ns.length)(l:s.yG=Au ns)(h:At s.nw s.cw s.nx (w::r))(m:s.er=0){L:Lu->Int->Int->Nat->LA->O R}{Y:O R}(k:∀ x,At s.nw s.cw x r->L w x 0 (ns++[w]).length (Au (ns++[w]))=Y):Qa N s L=Y:=by
 rw[Yj];unfold Vj
 refine Gi h m fun x hx=>?_
 show Gc N w _=_
 rw[El (by omega),d]
 show Al N _ _ _ _ _ _=_
 rw[j,l,Dw,Gt hN rfl (by omega),show ns.contains w=false by simpa using f,cf,Rp]
 show cond (decide ((ns.length:Int)>=64)) _ _=_
 rw[show decide ((ns.length:Int)>=64)=false from decide_eq_false (by omega),cf,ER (by omega),ct,Jh]
 have e:ns.length+1=(ns++[w]).length:=by simp
 rw[e]
 exact k x hx
def UH{s:RB}{i:Int}{r ns:List Ar}(hN:1000000000<N)(e:ns.Nodup)(h0:0<=i)(hi:i<(ns.length:Int))(f:ns.length<=1000000)(j:s.zB=ns.length)(l:s.yB=Au ns)(h:At s.nw s.cw s.nx (Bw ns i::r))(m:s.er=0){K:Int->Int->Int->O R}{Y:O R}(k:∀ x,At s.nw s.cw x r->K i x 0=Y):Co N s K=Y:=by
 rw[FQ];unfold Zv
 refine Gi h m fun x hx=>?_
 show Ba N _ _ _ _ _ _=_
 have d:i.toNat<ns.length:=by omega
 rw[j,l,Dw,show Bw ns i=ns[i.toNat] by unfold Bw;rw[A9e,A84 d];rfl,UB hN rfl f e d,show(i.toNat:Int)=i by omega,show decide (i<0)=false from decide_eq_false (by omega),cf]
 exact k x hx
def Ayf{s:RB}{i:Int}{r ns:List Ar}(hN:1000000000<N)(e:ns.Nodup)(h0:0<=i)(hi:i<(ns.length:Int))(f:ns.length<=1000000)(j:s.zC=ns.length)(l:s.yC=Au ns)(h:At s.nw s.cw s.nx (Bw ns i::r))(m:s.er=0){K:Int->Int->Int->O R}{Y:O R}(k:∀ x,At s.nw s.cw x r->K i x 0=Y):Oh N s K=Y:=by
 rw[Xo];unfold Ti
 refine Gi h m fun x hx=>?_
 show Ba N _ _ _ _ _ _=_
 have d:i.toNat<ns.length:=by omega
 rw[j,l,Dw,show Bw ns i=ns[i.toNat] by unfold Bw;rw[A9e,A84 d];rfl,UB hN rfl f e d,show(i.toNat:Int)=i by omega,show decide (i<0)=false from decide_eq_false (by omega),cf]
 exact k x hx
def Ayg{s:RB}{i:Int}{r ns:List Ar}(hN:1000000000<N)(e:ns.Nodup)(h0:0<=i)(hi:i<(ns.length:Int))(f:ns.length<=1000000)(j:s.zD=ns.length)(l:s.yD=Au ns)(h:At s.nw s.cw s.nx (Bw ns i::r))(m:s.er=0){K:Int->Int->Int->O R}{Y:O R}(k:∀ x,At s.nw s.cw x r->K i x 0=Y):Oi N s K=Y:=by
 rw[Xp];unfold Tj
 refine Gi h m fun x hx=>?_
 show Ba N _ _ _ _ _ _=_
 have d:i.toNat<ns.length:=by omega
 rw[j,l,Dw,show Bw ns i=ns[i.toNat] by unfold Bw;rw[A9e,A84 d];rfl,UB hN rfl f e d,show(i.toNat:Int)=i by omega,show decide (i<0)=false from decide_eq_false (by omega),cf]
 exact k x hx
def Iu{s:RB}{z:Int}{r:List Ar}(d:smallI z)(e:fit 2000 N)(h:At s.nw s.cw s.nx (tx z::r))(f:s.er=0){K:Int->Int->Int->O R}{Y:O R}(k:∀ x,At s.nw s.cw x r->K z x 0=Y):A5 N s K=Y:=by
 rw[LH];unfold EO
 exact iF d e h f k
def qJ{s:RB}{z:Int}{r:List Ar}(d:smallI z)(e:fit 2000 N)(h:At s.nw s.cw s.nx (tx z::r))(f:s.er=0){K:Int->Int->Int->O R}{Y:O R}(k:∀ x,At s.nw s.cw x r->K z x 0=Y):H9 N s K=Y:=by
 rw[LK];unfold EQ
 exact iF d e h f k
def A28{s:RB}{z:Int}{r:List Ar}(d:smallI z)(e:fit 2000 N)(h:At s.nw s.cw s.nx (tx z::r))(f:s.er=0){K:Int->Int->Int->O R}{Y:O R}(k:∀ x,At s.nw s.cw x r->K z x 0=Y):BV N s K=Y:=by
 rw[PH];unfold LZ
 exact iF d e h f k
def qK{s:RB}{z:Int}{r:List Ar}(d:smallI z)(e:fit 2000 N)(h:At s.nw s.cw s.nx (tx z::r))(f:s.er=0){K:Int->Int->Int->O R}{Y:O R}(k:∀ x,At s.nw s.cw x r->K z x 0=Y):Jd N s K=Y:=by
 rw[PI];unfold L_
 exact iF d e h f k
def Aql{s:RB}{z:Int}{r:List Ar}(d:smallI z)(e:fit 2000 N)(h:At s.nw s.cw s.nx (tx z::r))(f:s.er=0){K:Int->Int->Int->O R}{Y:O R}(k:∀ x,At s.nw s.cw x r->K z x 0=Y):Rv N s K=Y:=by
 rw[MA];unfold EV
 exact iF d e h f k
def sc{s:RB}{z:Int}{r:List Ar}(d:smallI z)(e:fit 2000 N)(h:At s.nw s.cw s.nx (tx z::r))(f:s.er=0){K:Int->Int->Int->O R}{Y:O R}(k:∀ x,At s.nw s.cw x r->K z x 0=Y):Fj N s K=Y:=by
 rw[FV];unfold Z0
 exact iF d e h f k
def Avw{n:Nat}(h:n<=2000000000):((ble n 140737488355328)&&(ble (n*8) 140737488355328))=true:=by simp;omega
def UI(l:List Int):take (l.length*1) (Av l)=Av l:=by rw[A9j,A80 (by rw[Fp];exact A86 _)]
def iH(l:List Int)(z:Int):Av l++[.int .i64 z]=Av (l++[z]):=by rw[<-MS];rfl
def Lp{α:Type}(l:List α)(z:α):l.length+1=(l++[z]).length:=by simp
def At6{nw:Nat}{cw:LA}{nx:Int}{r:List Ar}(h:At nw cw nx r):r.length<=2000000:=by
 obtain⟨p,e1,d,e3,e4⟩:=h
 rw[A8y]at e4;omega
def DO(l:List Int):(AV.imm (take (l.length*1) (Av l)) l.length 1 false false)=Sl.av 1 O9 (.of l false false):=by rw[UI];show _=AV.imm (l.flatMap O9) l.length 1 false false;rw[By]
def Acw{s:RB}(f:fit 2000 N){r:List Ar}{K:Nat->Int->Int->LA->O R}{Y:O R}:∀(l pre:List Int)(fuel:Nat)(x:Int),(∀ z∈l,smallI z)->l.length<fuel->pre.length+l.length<=1000000->((pre.length+l.length:Nat):Int)=s.th->At s.nw s.cw x (l.map tx++r)->(∀ y,At s.nw s.cw y r->K (pre++l).length y 0 (Av (pre++l))=Y)->Dy N K s fuel pre.length (pre.length:Int) x 0 (Av pre)=Y
|[],pre,fuel+1,x,d,j,m,e,h,k=>by
  rw[Dy];unfold Li
  rw[<-e]
  rw[A9m,Ban,Gu (A86 _),cf]
  have:=k x h
  rw[A9g]at this
  exact this
|z::l,pre,fuel+1,x,d,j,m,e,h,k=>by
  have hL:=At6 h
  rw[A8y,A85,A83]at hL
  rw[A83]at j e m
  rw[Dy];unfold Li
  rw[show decide ((pre.length:Int)<s.th)=true from decide_eq_true (by omega),ct]
  refine Iu (d z (Baf ..)) f h rfl fun y n=>?_
  show cond _ (Dy N K s fuel _ _ y 0 _) none=_
  rw[Avw (by omega),ct,OO (by omega),UI,iH,Lp pre z]
  have q:(pre++[z]).length=pre.length+1:=by simp
  refine Acw f l (pre++[z]) fuel y (fun w t=>d w (A9r _ t)) (by omega) (by omega) (by omega) n fun u v=>?_
  have:=k u v
  rw[Bcz]at this
  exact this
def iI{s:RB}(d:fit 2000 N)(hN:1000000000<N){l:List Int}{r:List Ar}(e:∀ z∈l,smallI z)(m:l.length<=1000)(f:(l.length:Int)=s.th)(h:At s.nw s.cw s.nx (l.map tx++r))(j:s.er=0){K:Nat->Int->Int->LA->O R}{Y:O R}(k:∀ x,At s.nw s.cw x r->K l.length x 0 (Av l)=Y):C6 N s K=Y:=by
 rw[DF];unfold P2
 rw[j]
 exact Acw d l [] N s.nx e (by omega) (by rw[A9m];omega) (by rw[A9m,A89];exact f) h k
def kK{s:RB}(f:fit 2000 N){r:List Ar}{K:Nat->Int->Int->LA->O R}{Y:O R}:∀(l pre:List Int)(fuel:Nat)(x:Int),(∀ z∈l,smallI z)->l.length<fuel->pre.length+l.length<=1000000->((pre.length+l.length:Nat):Int)=s.th->At s.nw s.cw x (l.map tx++r)->(∀ y,At s.nw s.cw y r->K (pre++l).length y 0 (Av (pre++l))=Y)->Cu N K s fuel pre.length (pre.length:Int) x 0 (Av pre)=Y
|[],pre,fuel+1,x,d,j,m,e,h,k=>by
  rw[Cu];unfold Ih
  rw[<-e]
  rw[A9m,Ban,Gu (A86 _),cf]
  have:=k x h
  rw[A9g]at this
  exact this
|z::l,pre,fuel+1,x,d,j,m,e,h,k=>by
  have hL:=At6 h
  rw[A8y,A85,A83]at hL
  rw[A83]at j e m
  rw[Cu];unfold Ih
  rw[show decide ((pre.length:Int)<s.th)=true from decide_eq_true (by omega),ct]
  refine qJ (d z (Baf ..)) f h rfl fun y n=>?_
  show cond _ (Cu N K s fuel _ _ y 0 _) none=_
  rw[Avw (by omega),ct,OO (by omega),UI,iH,Lp pre z]
  have q:(pre++[z]).length=pre.length+1:=by simp
  refine kK f l (pre++[z]) fuel y (fun w t=>d w (A9r _ t)) (by omega) (by omega) (by omega) n fun u v=>?_
  have:=k u v
  rw[Bcz]at this
  exact this
def Alk{s:RB}(d:fit 2000 N)(hN:1000000000<N){l:List Int}{r:List Ar}(e:∀ z∈l,smallI z)(m:l.length<=1000)(f:(l.length:Int)=s.th)(h:At s.nw s.cw s.nx (l.map tx++r))(j:s.er=0){K:Nat->Int->Int->LA->O R}{Y:O R}(k:∀ x,At s.nw s.cw x r->K l.length x 0 (Av l)=Y):Gl N s K=Y:=by
 rw[V4];unfold Lk
 rw[j]
 exact kK d l [] N s.nx e (by omega) (by rw[A9m];omega) (by rw[A9m,A89];exact f) h k
def Aqm{s:RB}{a:Ar}(e:fit 2000 N){r:List Ar}{K:Nat->Int->Int->LA->O R}{Y:O R}(f:∀ z:Int,tx z≠a)(hr:∀ w∈r.head?,w=a):∀(l pre:List Int)(fuel:Nat)(x:Int),(∀ z∈l,smallI z)->l.length<fuel->pre.length+l.length<=2000000->At s.nw s.cw x (l.map tx++r)->(∀ y,At s.nw s.cw y r->K (pre++l).length y 0 (Av (pre++l))=Y)->Gh N K a s fuel pre.length x 0 (Av pre)=Y
| [],pre,fuel+1,x,d,j,m,h,k=>by
  rw[Gh];unfold Oc
  have fin:K pre.length x 0 (Av pre)=Y:=by
   have:=k x h
   rw[A9g]at this
   exact this
  cases r with
  |nil=>exact u6 (s:={s with nx:=x,er:=0}) h rfl fin
  |cons w r =>
   refine Zw (s:={s with nx:=x,er:=0}) (a:=a) h rfl ?_
   rw[hr w rfl,beq_self_eq_true]
   exact fin
|z::l,pre,fuel+1,x,d,j,m,h,k=>by
  rw[A83]at j m
  rw[Gh];unfold Oc
  refine Zw (s:={s with nx:=x,er:=0}) (a:=a) h rfl ?_
  rw[beq_false_of_ne (f z)]
  refine A24 (s:={s with nx:=x,er:=0}) (d z (Baf ..)) (e.le (by omega)) h rfl fun y n=>?_
  rw[Avw (by omega),ct,UI,iH,Lp pre z]
  have q:(pre++[z]).length=pre.length+1:=by simp
  refine Aqm e f hr l (pre++[z]) fuel y (fun w t=>d w (A9r _ t)) (by omega) (by omega) n fun u v=>?_
  have:=k u v
  rw[Bcz]at this
  exact this
def Avx{s:RB}{a:Ar}(d:fit 2000 N)(hN:1000000000<N)(e:∀ z:Int,tx z≠a){l:List Int}{r:List Ar}(hr:∀ w∈r.head?,w=a)(f:∀ z∈l,smallI z)(h:At s.nw s.cw s.nx (l.map tx++r))(j:s.er=0){K:Nat->Int->Int->LA->O R}{Y:O R}(k:∀ x,At s.nw s.cw x r->K l.length x 0 (Av l)=Y):J4 N a s K=Y:=by
 rw[LN];unfold Uq
 rw[j]
 have hL:=At6 h
 rw[A8y,A85]at hL
 exact Aqm d e hr l [] N s.nx f (by omega) (by rw[A9m];omega) h k
def A1o{s:RB}{z:Int}{r:List Ar}(e:z=0\/z=1\/z=2)(h:At s.nw s.cw s.nx (DX z++r))(d:s.er=0){K:Int->Int->Int->O R}{Y:O R}(k:∀ x,At s.nw s.cw x r->K z x 0=Y):Ur N s K=Y:=by
 rw[FU];unfold Zz
 rcases e with rfl|rfl|rfl
 ·exact Gi (w:=Az2) h d fun x hx=>k x hx
 ·exact Gi (w:=lB) h d fun x hx=>k x hx
 ·exact Gi (w:=A4t) h d fun x hx=>k x hx
def kL{n k:Nat}(h:n<=2000000000)(d:k<=1000):((ble n 140737488355328)&&(ble (n*k) 140737488355328))=true:=by
 have:n*k<=2000000000*1000:=Bdm h d
 simp;omega
def A2d{α:Type}(l:Sl α):Sl α:=.of l.l false false
def Acx(b:BusD):BusD:={b with demand:=A2d b.demand}
def EW(l:LineD):LineD:={l with away:=A2d l.away}
def Aqn(t:TieD):TieD:={t with imp:=A2d t.imp,exp:=A2d t.exp,price:=A2d t.price}
def A7b(s:RB)(l:Sl Int):Prop:=(l.l.length:Int)=s.th/\l.l.length<=1000/\∀ z∈l.l,smallI z
def A5d(z:Int):tx z≠[]:=(Avu z).1
def A5e{s:RB}{b:BusD}{ns B r:List Ar}(e:fit 2000 N)(hN:1000000000<N)(f:A1 b.name=true)(j:b.name∉ns)(m:ns.length<32)(n:s.zB=ns.length)(q:s.yB=Au ns)(hn:s.nB<=1000000)(hdemand:A7b s b.demand)(d:smallI b.shed)(h:At s.nw s.cw s.nx (b.name::SB::(b.demand.l.map tx++(Ai5::tx b.shed::r))))(t:s.er=0){K:Int->Int->Nat->Nat->LA->LA->O R}{Y:O R}(k:∀ x,At s.nw s.cw x r->K x 0 (s.nB+1) (ns++[b.name]).length (s.cB.take (s.nB*3)++(Acx b).av) (Au (ns++[b.name]))=Y):BR N s K=Y:=by
 rw[PC];unfold LL
 refine A1i hN f j m n q h t fun x h=>?_
 refine Cy (w:=SB) h rfl fun x h=>?_
 refine iI e hN hdemand.2.2 hdemand.2.1 (by exact hdemand.1) h rfl fun x h=>?_
 refine Cy (w:=Ai5) h rfl fun x h=>?_
 refine qJ d e h rfl fun x h=>?_
 rw[kL (by omega) (by omega),ct,DO]
 exact k x h
def A1p{s:RB}{u:StoreD}{ns B r:List Ar}(f:fit 2000 N)(hN:1000000000<N)(l:A1 u.name=true)(m:u.name∉ns)(n:ns.length<8)(q:s.zE=ns.length)(t:s.yE=Au ns)(hn:s.nS<=1000000)(hB:B.Nodup)(hBl:B.length<=1000000)(hzB:s.zB=B.length)(hyB:s.yB=Au B)(e:0<=u.bus/\u.bus<(B.length:Int))(hcapacity:smallI u.capacity)(hinitial:smallI u.initial)(d:smallI u.final)(hcharge:smallI u.charge)(hdischarge:smallI u.discharge)(j:J7 u.eff)(h:At s.nw s.cw s.nx (u.name::Bw B u.bus::JQ::tx u.capacity::xB::tx u.initial::tx u.final::Ai6::tx u.charge::tx u.discharge::GJ::Oo u.eff::r))(v:s.er=0){K:Int->Int->Nat->Nat->LA->LA->O R}{Y:O R}(k:∀ x,At s.nw s.cw x r->K x 0 (s.nS+1) (ns++[u.name]).length (s.cS.take (s.nS*9)++u.av) (Au (ns++[u.name]))=Y):Ut N s K=Y:=by
 rw[FW];unfold Z1
 refine A1l hN l m n q t h v fun x h=>?_
 refine UH hN hB (e:_/\_).1 e.2 hBl (by exact hzB) (by exact hyB) h rfl fun x h=>?_
 refine Cy (w:=JQ) h rfl fun x h=>?_
 refine sc hcapacity f h rfl fun x h=>?_
 refine Cy (w:=xB) h rfl fun x h=>?_
 refine sc hinitial f h rfl fun x h=>?_
 refine sc d f h rfl fun x h=>?_
 refine Cy (w:=Ai6) h rfl fun x h=>?_
 refine Iu hcharge f h rfl fun x h=>?_
 refine Iu hdischarge f h rfl fun x h=>?_
 refine Cy (w:=GJ) h rfl fun x h=>?_
 refine xL j f h rfl fun x h=>?_
 show cond (_&&_) (K x 0 (s.nS+1) _ (s.cS.take (s.nS*9)++u.av) _) none=_
 rw[kL (by omega) (by omega),ct]
 exact k x h
def A5f{s:RB}{t:TieD}{ns B r:List Ar}(m:fit 2000 N)(hN:1000000000<N)(n:A1 t.name=true)(q:t.name∉ns)(u:ns.length<8)(v:s.zF=ns.length)(y:s.yF=Au ns)(hn:s.nT<=1000000)(hB:B.Nodup)(hBl:B.length<=1000000)(hzB:s.zB=B.length)(hyB:s.yB=Au B)(j:0<=t.bus/\t.bus<(B.length:Int))(e:A7b s t.imp)(f:A7b s t.exp)(d:A7b s t.price)(h:At s.nw s.cw s.nx (t.name::Bw B t.bus::SC::(t.imp.l.map tx++(dA::(t.exp.l.map tx++(nE::(t.price.l.map tx++r)))))))(z:s.er=0){K:Int->Int->Nat->Nat->LA->LA->O R}{Y:O R}(k:∀ x,At s.nw s.cw x r->K x 0 (s.nT+1) (ns++[t.name]).length (s.cT.take (s.nT*5)++(Aqn t).av) (Au (ns++[t.name]))=Y):BW N s K=Y:=by
 rw[PL];unfold MC
 refine A1m hN n q u v y h z fun x h=>?_
 refine UH hN hB (j:_/\_).1 j.2 hBl (by exact hzB) (by exact hyB) h rfl fun x h=>?_
 refine Cy (w:=SC) h rfl fun x h=>?_
 refine iI m hN e.2.2 e.2.1 (by exact e.1) h rfl fun x h=>?_
 refine Cy (w:=dA) h rfl fun x h=>?_
 refine iI m hN f.2.2 f.2.1 (by exact f.1) h rfl fun x h=>?_
 refine Cy (w:=nE) h rfl fun x h=>?_
 refine Alk m hN d.2.2 d.2.1 (by exact d.1) h rfl fun x h=>?_
 rw[kL (by omega) (by omega),ct,DO,DO,DO]
 exact k x h
def A29{s:RB}{l:LineD}{ns B r:List Ar}(n:fit 2000 N)(hN:1000000000<N)(v:A1 l.name=true)(y:l.name∉ns)(A:ns.length<64)(C:s.zC=ns.length)(D:s.yC=Au ns)(hn:s.nL<=1000000)(hB:B.Nodup)(hBl:B.length<=1000000)(hzB:s.zB=B.length)(hyB:s.yB=Au B)(q:0<=l.fr/\l.fr<(B.length:Int))(t:0<=l.tl/\l.tl<(B.length:Int))(u:J7 l.re)(e:J7 l.smin)(f:J7 l.smax)(d:smallI l.limit)(j:smallI l.emer)(m:∀ z∈l.away.l,smallI z)(hr:∀ w∈r.head?,w=([]:Ar))(h:At s.nw s.cw s.nx (l.name::Bw B l.fr::Bw B l.tl::A58::Oo l.re::wz::Oo l.smin::Oo l.smax::xA::tx l.limit::tx l.emer::V'::(l.away.l.map tx++r)))(F:s.er=0){K:Int->Int->Nat->Nat->LA->LA->O R}{Y:O R}(k:∀ x,At s.nw s.cw x r->K x 0 (s.nL+1) (ns++[l.name]).length (s.cL.take (s.nL*12)++(EW l).av) (Au (ns++[l.name]))=Y):Xm N s K=Y:=by
 rw[LY];unfold EU
 refine A1j hN v y A C D h F fun x h=>?_
 refine UH hN hB (q:_/\_).1 q.2 hBl (by exact hzB) (by exact hyB) h rfl fun x h=>?_
 refine UH hN hB (t:_/\_).1 t.2 hBl (by exact hzB) (by exact hyB) h rfl fun x h=>?_
 refine Cy (w:=A58) h rfl fun x h=>?_
 refine xL u n h rfl fun x h=>?_
 refine Cy (w:=wz) h rfl fun x h=>?_
 refine xL e n h rfl fun x h=>?_
 refine xL f n h rfl fun x h=>?_
 refine Cy (w:=xA) h rfl fun x h=>?_
 refine Iu d n h rfl fun x h=>?_
 refine Iu j n h rfl fun x h=>?_
 refine Cy (w:=V') h rfl fun x h=>?_
 refine Avx n hN A5d hr m h rfl fun x h=>?_
 rw[DO]
 show cond (_&&_) (K x 0 (s.nL+1) _ (s.cL.take (s.nL*12)++(EW l).av) _) none=_
 rw[kL (by omega) (by omega),ct]
 exact k x h
def Acy(u:UnitD):UnitD:={u with segs:=A2d u.segs,away:=A2d u.away}
def ff(u:UnitD):List Int:=[u.min,u.max,u.noLoad,u.rampUp,u.rampDown,u.startRamp,u.stopRamp,u.upTime,u.downTime,u.startTime,u.hotCost,u.coldCost,u.hotHours,u.reserve,u.reservePrice,u.hours,u.output]
def Aqo(u:UnitD)(r:List Ar):List Ar:=CG::tx u.noLoad::yb::tx u.rampUp::tx u.rampDown::nC::tx u.startRamp::yc::tx u.stopRamp::nD::tx u.upTime::tx u.downTime::tx u.startTime::yd::tx u.hotCost::tx u.coldCost::tx u.hotHours::If::tx u.reserve::tx u.reservePrice::V'::(u.away.l.map tx++(WA::(DX u.state++(tx u.hours::tx u.output::r))))
def Ayh(z:Int):tx z≠CG:=fun e=>by have:=A48 z;rw[e]at this;revert this;decide
def A1q(z:Int):tx z≠WA:=fun e=>by have:=A48 z;rw[e]at this;revert this;decide
def A1r(l:List SegD):(AV.imm (take (l.length*2) (l.flatMap SegD.av)) l.length 2 false false)=Sl.av 2 SegD.av (.of l false false):=by rw[A80 (by rw[DL (e:=SegD.av) (sz:=2) (fun _=>rfl)];exact A86 _)];rfl
def Ayi{s:RB}{u:UnitD}{a:Nat}{b:LA}{fuel:Nat}{x:Int}{r:List Ar}(d:fit 2000 N)(hN:1000000000<N)(hn:s.nU<=1000000)(j:∀ z∈ff u,smallI z)(e:∀ z∈u.away.l,smallI z)(f:u.state=0\/u.state=1\/u.state=2)(h:At s.nw s.cw x (Aqo u r)){K:Int->Int->Nat->Nat->LA->LA->O R}{Y:O R}(k:∀ x,At s.nw s.cw x r->K x 0 (s.nU+1) a (s.cU.take (s.nU*22)++(Acy u).av) b=Y):Eu N K s (fuel+1) x 0 a u.name u.bus u.min u.max u.segs.l.length b (u.segs.l.flatMap SegD.av)=Y:=by
 unfold Aqo at h
 have q:∀ z:Int,z∈ff u->smallI z:=j
 unfold ff at q
 rw[Eu];unfold Of
 refine Zw (w:=CG) h rfl ?_
 rw[show(CG==([110,111,108,111,97,100]:Lu))=true from rfl,Bat,cf]
 refine Cy (w:=CG) h rfl fun x h=>?_
 refine A28 (q u.noLoad (by simp)) d h rfl fun x h=>?_
 refine Cy (w:=yb) h rfl fun x h=>?_
 refine Iu (q u.rampUp (by simp)) d h rfl fun x h=>?_
 refine Iu (q u.rampDown (by simp)) d h rfl fun x h=>?_
 refine Cy (w:=nC) h rfl fun x h=>?_
 refine Iu (q u.startRamp (by simp)) d h rfl fun x h=>?_
 refine Cy (w:=yc) h rfl fun x h=>?_
 refine Iu (q u.stopRamp (by simp)) d h rfl fun x h=>?_
 refine Cy (w:=nD) h rfl fun x h=>?_
 refine qK (q u.upTime (by simp)) d h rfl fun x h=>?_
 refine qK (q u.downTime (by simp)) d h rfl fun x h=>?_
 refine qK (q u.startTime (by simp)) d h rfl fun x h=>?_
 refine Cy (w:=yd) h rfl fun x h=>?_
 refine Aql (q u.hotCost (by simp)) d h rfl fun x h=>?_
 refine Aql (q u.coldCost (by simp)) d h rfl fun x h=>?_
 refine qK (q u.hotHours (by simp)) d h rfl fun x h=>?_
 refine Cy (w:=If) h rfl fun x h=>?_
 refine Iu (q u.reserve (by simp)) d h rfl fun x h=>?_
 refine qJ (q u.reservePrice (by simp)) d h rfl fun x h=>?_
 refine Cy (w:=V') h rfl fun x h=>?_
 refine Avx (a:=WA) d hN A1q (by intro w m;cases m;rfl) e h rfl fun x h=>?_
 refine Cy (w:=WA) h rfl fun x h=>?_
 refine A1o f h rfl fun x h=>?_
 refine qK (q u.hours (by simp)) d h rfl fun x h=>?_
 refine Iu (q u.output (by simp)) d h rfl fun x h=>?_
 rw[kL (by omega) (by omega),ct,DO,A1r]
 exact k x h
def Aqp{s:RB}{u:UnitD}{a:Nat}{b:LA}{r:List Ar}(j:fit 2000 N)(hN:1000000000<N)(hn:s.nU<=1000000)(n:∀ z∈ff u,smallI z)(d:∀ z∈u.away.l,smallI z)(f:u.state=0\/u.state=1\/u.state=2){K:Int->Int->Nat->Nat->LA->LA->O R}{Y:O R}(k:∀ x,At s.nw s.cw x r->K x 0 (s.nU+1) a (s.cU.take (s.nU*22)++(Acy u).av) b=Y):∀(l pre:List SegD)(fuel:Nat)(x:Int),pre++l=u.segs.l->(∀ g∈l,smallI g.width/\smallI g.price)->l.length<fuel->u.segs.l.length<=1000000->At s.nw s.cw x (l.flatMap Adt++Aqo u r)->Eu N K s fuel x 0 a u.name u.bus u.min u.max pre.length b (pre.flatMap SegD.av)=Y
|[],pre,fuel+1,x,e,m,q,t,h=>by
  rw[A9g]at e
  rw[e]
  exact Ayi j hN hn n d f h k
|g::l,pre,fuel+1,x,e,m,q,t,h=>by
  have v:=m g (Baf ..)
  rw[A83]at q
  have A:(pre++g::l).length=u.segs.l.length:=by rw[e]
  rw[A8y,A83]at A
  have e3:(pre++[g])++l=u.segs.l:=by rw[<-e,A9l];rfl
  rw[Eu];unfold Of
  have y:At s.nw s.cw x (tx g.width::tx g.price::(l.flatMap Adt++Aqo u r)):=h
  refine Zw y rfl ?_
  rw[show(tx g.width==([110,111,108,111,97,100]:Lu))=false from beq_false_of_ne (Ayh g.width),A98,ct]
  refine Iu v.1 j y rfl fun x h=>?_
  refine qJ v.2 j h rfl fun x h=>?_
  rw[kL (by omega) (by omega),ct,Lp pre g]
  rw[A80 (by rw[DL (e:=SegD.av) (sz:=2) (fun _=>rfl)];exact A86 _)]
  rw[show List.flatMap SegD.av pre++[.int .i64 g.width,.int .i64 g.price]=List.flatMap SegD.av (pre++[g]) by rw[Ba6];rfl]
  exact Aqp j hN hn n d f k l (pre++[g]) fuel x e3 (fun w B=>m w (A9r _ B)) (by omega) t h
def A3a{s:RB}{u:UnitD}{ns B r:List Ar}(f:fit 2000 N)(hN:1000000000<N)(v:A1 u.name=true)(y:u.name∉ns)(A:ns.length<16)(C:s.zD=ns.length)(D:s.yD=Au ns)(hn:s.nU<=1000000)(hB:B.Nodup)(hBl:B.length<=1000000)(hzB:s.zB=B.length)(hyB:s.yB=Au B)(d:0<=u.bus/\u.bus<(B.length:Int))(t:∀ z∈ff u,smallI z)(e:∀ z∈u.away.l,smallI z)(j:u.state=0\/u.state=1\/u.state=2)(m:∀ g∈u.segs.l,smallI g.width/\smallI g.price)(n:u.segs.l.length<=1000000)(h:At s.nw s.cw s.nx (u.name::Bw B u.bus::Af7::tx u.min::Ani::tx u.max::JP::(u.segs.l.flatMap Adt++Aqo u r)))(F:s.er=0){K:Int->Int->Nat->Nat->LA->LA->O R}{Y:O R}(k:∀ x,At s.nw s.cw x r->K x 0 (s.nU+1) (ns++[u.name]).length (s.cU.take (s.nU*22)++(Acy u).av) (Au (ns++[u.name]))=Y):Rw N s K=Y:=by
 have q:∀ z:Int,z∈ff u->smallI z:=t
 unfold ff at q
 rw[MB];unfold Us
 refine A1k hN v y A C D h F fun x h=>?_
 refine UH hN hB d.1 d.2 hBl (by exact hzB) (by exact hyB) h rfl fun x h=>?_
 refine Cy (w:=Af7) h rfl fun x h=>?_
 refine Iu (q u.min (by simp)) f h rfl fun x h=>?_
 refine Cy (w:=Ani) h rfl fun x h=>?_
 refine Iu (q u.max (by simp)) f h rfl fun x h=>?_
 refine Cy (w:=JP) h rfl fun x h=>?_
 exact Aqp f hN hn t e j k u.segs.l [] N x rfl m (by omega) n h
def Alt(o:OutD):OutD:={o with lines:=A2d o.lines,moves:=A2d o.moves}
def Ayj(l:List MoveD):(AV.imm (take (l.length*3) (l.flatMap MoveD.av)) l.length 3 false false)=Sl.av 3 MoveD.av (.of l false false):=by rw[A80 (by rw[DL (e:=MoveD.av) (sz:=3) (fun _=>rfl)];exact A86 _)];rfl
def Ahc{s:RB}{o:OutD}{U:List Ar}{a:Nat}{b:LA}(f:fit 2000 N)(hN:1000000000<N)(hn:s.nO<=1000000)(hU:U.Nodup)(hUl:U.length<=1000000)(hzD:s.zD=U.length)(hyD:s.yD=Au U){K:Int->Int->Nat->Nat->LA->LA->O R}{Y:O R}(k:∀ x,At s.nw s.cw x []->K x 0 (s.nO+1) a (s.cO.take (s.nO*4)++(Alt o).av) b=Y):∀(l pre:List MoveD)(fuel:Nat)(x:Int),pre++l=o.moves.l->(∀ m∈l,(0<=m.unit/\m.unit<(U.length:Int))/\smallI m.up/\smallI m.down)->l.length<fuel->o.moves.l.length<=1000000->At s.nw s.cw x (l.flatMap (NC U))->Gm N K s a o.name o.lines.l.length o.corr b (Av o.lines.l) fuel x 0 pre.length (pre.flatMap MoveD.av)=Y
|[],pre,fuel+1,x,e,j,n,q,h=>by
  rw[A9g]at e
  rw[e]
  rw[Gm];unfold Ll
  refine fQ h rfl ?_
  rw[cf,kL (by omega) (by omega),ct,DO,Ayj]
  exact k x h
|g::l,pre,fuel+1,x,e,j,n,q,h=>by
  have d:=j g (Baf ..)
  rw[A83]at n
  have u:(pre++g::l).length=o.moves.l.length:=by rw[e]
  rw[A8y,A83]at u
  have e3:(pre++[g])++l=o.moves.l:=by rw[<-e,A9l];rfl
  rw[Gm];unfold Ll
  have t:At s.nw s.cw x (Bw U g.unit::tx g.up::tx g.down::l.flatMap (NC U)):=h
  refine gy t rfl ?_
  rw[ct]
  refine Ayg hN hU d.1.1 d.1.2 hUl (by exact hzD) (by exact hyD) t rfl fun x h=>?_
  refine Iu d.2.1 f h rfl fun x h=>?_
  refine Iu d.2.2 f h rfl fun x h=>?_
  rw[kL (by omega) (by omega),ct,Lp pre g]
  rw[A80 (by rw[DL (e:=MoveD.av) (sz:=3) (fun _=>rfl)];exact A86 _)]
  rw[show List.flatMap MoveD.av pre++[.int .i64 g.unit,.int .i64 g.up,.int .i64 g.down]=List.flatMap MoveD.av (pre++[g]) by rw[Ba6];rfl]
  exact Ahc f hN hn hU hUl hzD hyD k l (pre++[g]) fuel x e3 (fun w v=>j w (A9r _ v)) (by omega) q h
def Aqq(U:List Ar)(o:OutD):List Ar:=cond o.corr [Cr] []++o.moves.l.flatMap (NC U)
def A3b{U:List Ar}{o:OutD}(e:o.corr=false)(d:(o.corr||o.moves.l.isEmpty)=true):Aqq U o=[]:=by
 unfold Aqq
 rw[e]at d ⊢
 have:o.moves.l=[]:=by simpa using d
 rw[this];rfl
def Avy{s:RB}{o:OutD}{L U:List Ar}{a:Nat}{b:LA}(y:fit 2000 N)(hN:1000000000<N)(hn:s.nO<=1000000)(hU:U.Nodup)(hUl:U.length<=1000000)(hzD:s.zD=U.length)(hyD:s.yD=Au U)(hL:L.Nodup)(hLl:L.length<=1000000)(hzC:s.zC=L.length)(hyC:s.yC=Au L)(hLk:Cr∉L)(f:(o.corr||o.moves.l.isEmpty)=true)(j:∀ m∈o.moves.l,(0<=m.unit/\m.unit<(U.length:Int))/\smallI m.up/\smallI m.down)(n:o.moves.l.length<=1000000){K:Int->Int->Nat->Nat->LA->LA->O R}{Y:O R}(k:∀ x,At s.nw s.cw x []->K x 0 (s.nO+1) a (s.cO.take (s.nO*4)++(Alt o).av) b=Y):∀(l pre:List Int)(fuel:Nat)(x:Int),pre++l=o.lines.l->(∀ i∈l,0<=i/\i<(L.length:Int))->l.length<fuel->o.lines.l.length<=1000000->At s.nw s.cw x (l.map (Bw L)++Aqq U o)->Es N K s a o.name b fuel x 0 pre.length (Av pre)=Y
| [],pre,fuel+1,x,e,v,z,A,h=>by
  rw[A9g]at e
  rw[e]
  rw[Es];unfold Lm
  have fin:=Ahc (R:=R) (N:=N) (o:=o) (a:=a) (b:=b) y hN hn hU hUl hzD hyD k o.moves.l [] N
  cases u:o.corr with
  | true =>
   have d:At s.nw s.cw x (Cr::o.moves.l.flatMap (NC U)):=by
    have t:At s.nw s.cw x (Aqq U o):=h
    unfold Aqq at t;rw[u]at t;exact t
   refine Zw d rfl ?_
   rw[show(Cr==([99,111,114,114,101,99,116,105,118,101]:Lu))=true from rfl,Bat,cf]
   refine gy d rfl ?_
   rw[ct]
   refine Cy (w:=Cr) d rfl fun x h=>?_
   have:=fin x rfl j (by omega) n h
   rw[u]at this
   exact this
  | false =>
   have d:At s.nw s.cw x []:=by
    have t:At s.nw s.cw x (Aqq U o):=h
    rw[A3b u f]at t;exact t
   refine u6 d rfl ?_
   rw[cf]
   refine fQ d rfl ?_
   rw[cf]
   have B:o.moves.l=[]:=by rw[u]at f;simpa using f
   have:=fin x rfl j (by omega) n (by rw[B];exact d)
   rw[u]at this
   exact this
| i::l,pre,fuel+1,x,e,v,z,A,h=>by
  have hi:=v i (Baf ..)
  rw[A83]at z
  have C:(pre++i::l).length=o.lines.l.length:=by rw[e]
  rw[A8y,A83]at C
  have e3:(pre++[i])++l=o.lines.l:=by rw[<-e,A9l];rfl
  have d:At s.nw s.cw x (Bw L i::(l.map (Bw L)++Aqq U o)):=h
  have ne:Bw L i≠Cr:=fun q=>hLk (by
   rw[<-q];unfold Bw
   have:i.toNat<L.length:=by omega
   rw[A9e,A84 this];exact A9c _)
  rw[Es];unfold Lm
  refine Zw d rfl ?_
  rw[show(Bw L i==([99,111,114,114,101,99,116,105,118,101]:Lu))=false from beq_false_of_ne ne,A98,ct]
  refine Ayf hN hL hi.1 hi.2 hLl (by exact hzC) (by exact hyC) d rfl fun x h=>?_
  rw[Avw (by omega),ct,UI,iH,Lp pre i]
  exact Avy y hN hn hU hUl hzD hyD hL hLl hzC hyC hLk f j n k l (pre++[i]) fuel x e3 (fun w D=>v w (A9r _ D)) (by omega) A h
def Ayk{s:RB}{o:OutD}{ns L U:List Ar}(q:fit 2000 N)(hN:1000000000<N)(t:A1 o.name=true)(u:o.name∉ns)(v:ns.length<64)(y:s.zG=ns.length)(z:s.yG=Au ns)(hn:s.nO<=1000000)(hU:U.Nodup)(hUl:U.length<=1000000)(hzD:s.zD=U.length)(hyD:s.yD=Au U)(hL:L.Nodup)(hLl:L.length<=1000000)(hzC:s.zC=L.length)(hyC:s.yC=Au L)(hLk:Cr∉L)(d:(o.corr||o.moves.l.isEmpty)=true)(e:∀ m∈o.moves.l,(0<=m.unit/\m.unit<(U.length:Int))/\smallI m.up/\smallI m.down)(f:o.moves.l.length<=1000000)(j:∀ i∈o.lines.l,0<=i/\i<(L.length:Int))(n:o.lines.l.length<=1000000)(h:At s.nw s.cw s.nx (o.name::NB::(o.lines.l.map (Bw L)++Aqq U o)))(A:s.er=0){K:Int->Int->Nat->Nat->LA->LA->O R}{Y:O R}(k:∀ x,At s.nw s.cw x []->K x 0 (s.nO+1) (ns++[o.name]).length (s.cO.take (s.nO*4)++(Alt o).av) (Au (ns++[o.name]))=Y):Mr N s K=Y:=by
 rw[DN];unfold Qb
 refine A1n hN t u v y z h A fun x h=>?_
 refine Cy (w:=NB) h rfl fun x h=>?_
 exact Avy q hN hn hU hUl hzD hyD hL hLl hzC hyC hLk d e f k o.lines.l [] N x rfl j (by omega) n h
end
end Gx.Ct
namespace Gx.Ct
open Go Go.Proofs Gx.Cf
structure Rd where
 bg:Bool
 th:Int
 rs:List Int
 bs:List BusD
 ls:List LineD
 us:List UnitD
 ss:List StoreD
 ts:List TieD
 os:List OutD
def Rd.rb(d:Rd)(nw:Nat)(cw:LA)(nx:Int):RB:=RB.mk nw nx 0 d.th d.rs.length d.bs.length d.ls.length d.us.length d.ss.length d.ts.length d.os.length d.bg 0 d.bs.length d.ls.length d.us.length d.ss.length d.ts.length d.os.length cw (Av d.rs) (d.bs.flatMap BusD.av) (d.ls.flatMap LineD.av) (d.us.flatMap UnitD.av) (d.ss.flatMap StoreD.av) (d.ts.flatMap TieD.av) (d.os.flatMap OutD.av) [] (Au (d.bs.map BusD.name)) (Au (d.ls.map LineD.name)) (Au (d.us.map UnitD.name)) (Au (d.ss.map StoreD.name)) (Au (d.ts.map TieD.name)) (Au (d.os.map OutD.name))
section
variable{R:Type}{N:Nat}
def All(r0:Int->Int->Nat->Nat->Nat->Nat->Nat->Nat->Nat->Nat->Nat->Nat->Nat->Nat->LA->LA->LA->LA->LA->LA->LA->LA->LA->LA->LA->LA->O R)(d:Rd)(x:Int):O R:=r0 x 0 d.bs.length d.ls.length d.us.length d.ss.length d.ts.length d.os.length d.bs.length d.ls.length d.us.length d.ss.length d.ts.length d.os.length (d.bs.flatMap BusD.av) (d.ls.flatMap LineD.av) (d.us.flatMap UnitD.av) (d.ss.flatMap StoreD.av) (d.ts.flatMap TieD.av) (d.os.flatMap OutD.av) (Au (d.bs.map BusD.name)) (Au (d.ls.map LineD.name)) (Au (d.us.map UnitD.name)) (Au (d.ss.map StoreD.name)) (Au (d.ts.map TieD.name)) (Au (d.os.map OutD.name))
def IQ{α:Type}{e:α->LA}{sz:Nat}(d:∀ a,(e a).length=sz)(l:List α)(a b:α)(f:e b=e a):take (l.length*sz) (l.flatMap e)++e b=(l++[a]).flatMap e:=by rw[A80 (by rw[DL d];exact A86 _),Ba6,f];simp
def UJ{α:Type}(f:α->Ar)(l:List α)(a:α):(l.map f++[f a])=(l++[a]).map f:=by simp
def mC{s:RB}(h:At s.nw s.cw s.nx [])(d:s.er=0){K:Int->O R}{Y:O R}(k:K 0=Y):Gg N s K=Y:=by
 rw[TO];unfold QS
 refine fQ h d ?_
 rw[cf,d];exact k
def A5g{d:Rd}{b:BusD}{nw:Nat}{cw:LA}{nx:Int}(m:fit 2000 N)(hN:1000000000<N)(f:d.bg=true)(n:A1 b.name=true)(q:b.name∉d.bs.map BusD.name)(s:d.bs.length<32)(hdemand:(b.demand.l.length:Int)=d.th/\b.demand.l.length<=1000/\∀ z∈b.demand.l,smallI z)(e:smallI b.shed)(h:At nw cw nx (nF b)){j:Int->Int->Nat->Nat->Nat->Nat->Nat->Nat->Nat->Nat->Nat->Nat->Nat->Nat->LA->LA->LA->LA->LA->LA->LA->LA->LA->LA->LA->LA->O R}{t:Int->Int->Int->Nat->LA->O R}{Y:O R}(k:∀ x,All j {d with bs:=d.bs++[Acx b]} x=Y):Bv N (d.rb nw cw nx) j t=Y:=by
 rw[Ce];unfold Cv
 refine Gi (w:=Pq) h rfl fun x h=>?_
 rw[show((Pq==([99,97,115,101]:Lu))==(d.rb nw cw nx).bg)=false from by show((Pq==Do)==d.bg)=false;rw[f];rfl,cf]
 show cond (Pq==Do) _ _=_
 rw[show(Pq==Do)=false from rfl,cf]
 show cond (Pq==Pq) _ _=_
 rw[show(Pq==Pq)=true from rfl,ct]
 refine A5e (B:=[]) (ns:=d.bs.map BusD.name) (r:=[]) m hN n q (by rw[A85];exact s) (A85 _).symm rfl (by show d.bs.length<=1000000;omega) (by exact hdemand) e (by exact h) rfl fun x h=>?_
 refine mC h rfl ?_
 simp only[Rd.rb]
 rw[IQ Ir d.bs (Acx b) (Acx b) rfl,show d.bs.map BusD.name++[b.name]=(d.bs++[Acx b]).map BusD.name from UJ BusD.name d.bs (Acx b),A85,Lp d.bs (Acx b)]
 exact k x
def A3c{d:Rd}{l:LineD}{nw:Nat}{cw:LA}{nx:Int}(A:fit 2000 N)(hN:1000000000<N)(q:d.bg=true)(s:A1 l.name=true)(C:l.name∉d.ls.map LineD.name)(D:d.ls.length<64)(hBn:(d.bs.map BusD.name).Nodup)(hBl:d.bs.length<=1000000)(t:0<=l.fr/\l.fr<(d.bs.length:Int))(u:0<=l.tl/\l.tl<(d.bs.length:Int))(v:J7 l.re)(f:J7 l.smin)(j:J7 l.smax)(e:smallI l.limit)(m:smallI l.emer)(n:∀ z∈l.away.l,smallI z)(h:At nw cw nx (Vp (d.bs.map BusD.name) l)){y:Int->Int->Nat->Nat->Nat->Nat->Nat->Nat->Nat->Nat->Nat->Nat->Nat->Nat->LA->LA->LA->LA->LA->LA->LA->LA->LA->LA->LA->LA->O R}{F:Int->Int->Int->Nat->LA->O R}{Y:O R}(k:∀ x,All y {d with ls:=d.ls++[EW l]} x=Y):Bv N (d.rb nw cw nx) y F=Y:=by
 rw[Ce];unfold Cv
 refine Gi (w:=Jr) h rfl fun x h=>?_
 rw[show((Jr==([99,97,115,101]:Lu))==(d.rb nw cw nx).bg)=false from by show((Jr==Do)==d.bg)=false;rw[q];rfl,cf]
 show cond (Jr==Do) _ _=_
 rw[show(Jr==Do)=false from rfl,cf]
 show cond (Jr==Pq) _ _=_
 rw[show(Jr==Pq)=false from rfl,cf]
 show cond (Jr==Jr) _ _=_
 rw[show(Jr==Jr)=true from rfl,ct]
 refine A29 (ns:=d.ls.map LineD.name) (B:=d.bs.map BusD.name) (r:=[]) A hN s C (by rw[A85];exact D) (A85 _).symm rfl (by show d.ls.length<=1000000;omega) hBn (by rw[A85];exact hBl) (A85 _).symm rfl (by rw[A85];exact t) (by rw[A85];exact u) v f j e m n (by intro w s;cases s) (by rw[A9g];exact h) rfl fun x h=>?_
 refine mC h rfl ?_
 simp only[Rd.rb]
 rw[IQ Cm d.ls (EW l) (EW l) rfl,show d.ls.map LineD.name++[l.name]=(d.ls++[EW l]).map LineD.name from UJ LineD.name d.ls (EW l),A85,Lp d.ls (EW l)]
 exact k x
def A3d{d:Rd}{u:UnitD}{nw:Nat}{cw:LA}{nx:Int}(t:fit 2000 N)(hN:1000000000<N)(j:d.bg=true)(v:A1 u.name=true)(y:u.name∉d.us.map UnitD.name)(A:d.us.length<16)(hBn:(d.bs.map BusD.name).Nodup)(hBl:d.bs.length<=1000000)(f:0<=u.bus/\u.bus<(d.bs.length:Int))(C:∀ z∈ff u,smallI z)(e:∀ z∈u.away.l,smallI z)(m:u.state=0\/u.state=1\/u.state=2)(n:∀ g∈u.segs.l,smallI g.width/\smallI g.price)(q:u.segs.l.length<=1000000)(h:At nw cw nx (Ps (d.bs.map BusD.name) u)){s:Int->Int->Nat->Nat->Nat->Nat->Nat->Nat->Nat->Nat->Nat->Nat->Nat->Nat->LA->LA->LA->LA->LA->LA->LA->LA->LA->LA->LA->LA->O R}{D:Int->Int->Int->Nat->LA->O R}{Y:O R}(k:∀ x,All s {d with us:=d.us++[Acy u]} x=Y):Bv N (d.rb nw cw nx) s D=Y:=by
 rw[Ce];unfold Cv
 refine Gi (w:=Iy) h rfl fun x h=>?_
 rw[show((Iy==([99,97,115,101]:Lu))==(d.rb nw cw nx).bg)=false from by show((Iy==Do)==d.bg)=false;rw[j];rfl,cf]
 show cond (Iy==Do) _ _=_
 rw[show(Iy==Do)=false from rfl,cf]
 show cond (Iy==Pq) _ _=_
 rw[show(Iy==Pq)=false from rfl,cf]
 show cond (Iy==Jr) _ _=_
 rw[show(Iy==Jr)=false from rfl,cf]
 show cond (Iy==Iy) _ _=_
 rw[show(Iy==Iy)=true from rfl,ct]
 refine A3a (ns:=d.us.map UnitD.name) (B:=d.bs.map BusD.name) (r:=[]) t hN v y (by rw[A85];exact A) (A85 _).symm rfl (by show d.us.length<=1000000;omega) hBn (by rw[A85];exact hBl) (A85 _).symm rfl (by rw[A85];exact f) C e m n q (by exact h) rfl fun x h=>?_
 refine mC h rfl ?_
 simp only[Rd.rb]
 rw[IQ Ft d.us (Acy u) (Acy u) rfl,show d.us.map UnitD.name++[u.name]=(d.us++[Acy u]).map UnitD.name from UJ UnitD.name d.us (Acy u),A85,Lp d.us (Acy u)]
 exact k x
def A1s{d:Rd}{u:StoreD}{nw:Nat}{cw:LA}{nx:Int}(n:fit 2000 N)(hN:1000000000<N)(l:d.bg=true)(q:A1 u.name=true)(s:u.name∉d.ss.map StoreD.name)(t:d.ss.length<8)(hBn:(d.bs.map BusD.name).Nodup)(hBl:d.bs.length<=1000000)(f:0<=u.bus/\u.bus<(d.bs.length:Int))(hcapacity:smallI u.capacity)(hinitial:smallI u.initial)(e:smallI u.final)(hcharge:smallI u.charge)(hdischarge:smallI u.discharge)(j:J7 u.eff)(h:At nw cw nx (Kk (d.bs.map BusD.name) u)){m:Int->Int->Nat->Nat->Nat->Nat->Nat->Nat->Nat->Nat->Nat->Nat->Nat->Nat->LA->LA->LA->LA->LA->LA->LA->LA->LA->LA->LA->LA->O R}{v:Int->Int->Int->Nat->LA->O R}{Y:O R}(k:∀ x,All m {d with ss:=d.ss++[u]} x=Y):Bv N (d.rb nw cw nx) m v=Y:=by
 rw[Ce];unfold Cv
 refine Gi (w:=Ga) h rfl fun x h=>?_
 rw[show((Ga==([99,97,115,101]:Lu))==(d.rb nw cw nx).bg)=false from by show((Ga==Do)==d.bg)=false;rw[l];rfl,cf]
 show cond (Ga==Do) _ _=_
 rw[show(Ga==Do)=false from rfl,cf]
 show cond (Ga==Pq) _ _=_
 rw[show(Ga==Pq)=false from rfl,cf]
 show cond (Ga==Jr) _ _=_
 rw[show(Ga==Jr)=false from rfl,cf]
 show cond (Ga==Iy) _ _=_
 rw[show(Ga==Iy)=false from rfl,cf]
 show cond (Ga==Ga) _ _=_
 rw[show(Ga==Ga)=true from rfl,ct]
 refine A1p (ns:=d.ss.map StoreD.name) (B:=d.bs.map BusD.name) (r:=[]) n hN q s (by rw[A85];exact t) (A85 _).symm rfl (by show d.ss.length<=1000000;omega) hBn (by rw[A85];exact hBl) (A85 _).symm rfl (by rw[A85];exact f) hcapacity hinitial e hcharge hdischarge j (by exact h) rfl fun x h=>?_
 refine mC h rfl ?_
 simp only[Rd.rb]
 rw[IQ Fk d.ss u u rfl,show d.ss.map StoreD.name++[u.name]=(d.ss++[u]).map StoreD.name from UJ StoreD.name d.ss u,A85,Lp d.ss u]
 exact k x
def A5h{d:Rd}{t:TieD}{nw:Nat}{cw:LA}{nx:Int}(s:fit 2000 N)(hN:1000000000<N)(n:d.bg=true)(u:A1 t.name=true)(v:t.name∉d.ts.map TieD.name)(y:d.ts.length<8)(hBn:(d.bs.map BusD.name).Nodup)(hBl:d.bs.length<=1000000)(f:0<=t.bus/\t.bus<(d.bs.length:Int))(j:(t.imp.l.length:Int)=d.th/\t.imp.l.length<=1000/\∀ z∈t.imp.l,smallI z)(m:(t.exp.l.length:Int)=d.th/\t.exp.l.length<=1000/\∀ z∈t.exp.l,smallI z)(e:(t.price.l.length:Int)=d.th/\t.price.l.length<=1000/\∀ z∈t.price.l,smallI z)(h:At nw cw nx (GK (d.bs.map BusD.name) t)){q:Int->Int->Nat->Nat->Nat->Nat->Nat->Nat->Nat->Nat->Nat->Nat->Nat->Nat->LA->LA->LA->LA->LA->LA->LA->LA->LA->LA->LA->LA->O R}{A:Int->Int->Int->Nat->LA->O R}{Y:O R}(k:∀ x,All q {d with ts:=d.ts++[Aqn t]} x=Y):Bv N (d.rb nw cw nx) q A=Y:=by
 rw[Ce];unfold Cv
 refine Gi (w:=Pr) h rfl fun x h=>?_
 rw[show((Pr==([99,97,115,101]:Lu))==(d.rb nw cw nx).bg)=false from by show((Pr==Do)==d.bg)=false;rw[n];rfl,cf]
 show cond (Pr==Do) _ _=_
 rw[show(Pr==Do)=false from rfl,cf]
 show cond (Pr==Pq) _ _=_
 rw[show(Pr==Pq)=false from rfl,cf]
 show cond (Pr==Jr) _ _=_
 rw[show(Pr==Jr)=false from rfl,cf]
 show cond (Pr==Iy) _ _=_
 rw[show(Pr==Iy)=false from rfl,cf]
 show cond (Pr==Ga) _ _=_
 rw[show(Pr==Ga)=false from rfl,cf]
 show cond (Pr==Pr) _ _=_
 rw[show(Pr==Pr)=true from rfl,ct]
 refine A5f (ns:=d.ts.map TieD.name) (B:=d.bs.map BusD.name) (r:=[]) s hN u v (by rw[A85];exact y) (A85 _).symm rfl (by show d.ts.length<=1000000;omega) hBn (by rw[A85];exact hBl) (A85 _).symm rfl (by rw[A85];exact f) (by exact j) (by exact m) (by exact e) (by rw[A9g];exact h) rfl fun x h=>?_
 refine mC h rfl ?_
 simp only[Rd.rb]
 rw[IQ H2 d.ts (Aqn t) (Aqn t) rfl,show d.ts.map TieD.name++[t.name]=(d.ts++[Aqn t]).map TieD.name from UJ TieD.name d.ts (Aqn t),A85,Lp d.ts (Aqn t)]
 exact k x
def Ayl{d:Rd}{o:OutD}{nw:Nat}{cw:LA}{nx:Int}(u:fit 2000 N)(hN:1000000000<N)(e:d.bg=true)(v:A1 o.name=true)(y:o.name∉d.os.map OutD.name)(z:d.os.length<64)(hUn:(d.us.map UnitD.name).Nodup)(hUl:d.us.length<=1000000)(hLn:(d.ls.map LineD.name).Nodup)(hLl:d.ls.length<=1000000)(hLk:Cr∉d.ls.map LineD.name)(f:(o.corr||o.moves.l.isEmpty)=true)(j:∀ m∈o.moves.l,(0<=m.unit/\m.unit<(d.us.length:Int))/\smallI m.up/\smallI m.down)(n:o.moves.l.length<=1000000)(q:∀ i∈o.lines.l,0<=i/\i<(d.ls.length:Int))(s:o.lines.l.length<=1000000)(h:At nw cw nx (U3 (d.ls.map LineD.name) (d.us.map UnitD.name) o)){t:Int->Int->Nat->Nat->Nat->Nat->Nat->Nat->Nat->Nat->Nat->Nat->Nat->Nat->LA->LA->LA->LA->LA->LA->LA->LA->LA->LA->LA->LA->O R}{A:Int->Int->Int->Nat->LA->O R}{Y:O R}(k:∀ x,All t {d with os:=d.os++[Alt o]} x=Y):Bv N (d.rb nw cw nx) t A=Y:=by
 rw[Ce];unfold Cv
 refine Gi (w:=Dc) h rfl fun x h=>?_
 rw[show((Dc==([99,97,115,101]:Lu))==(d.rb nw cw nx).bg)=false from by show((Dc==Do)==d.bg)=false;rw[e];rfl,cf]
 show cond (Dc==Do) _ _=_
 rw[show(Dc==Do)=false from rfl,cf]
 show cond (Dc==Pq) _ _=_
 rw[show(Dc==Pq)=false from rfl,cf]
 show cond (Dc==Jr) _ _=_
 rw[show(Dc==Jr)=false from rfl,cf]
 show cond (Dc==Iy) _ _=_
 rw[show(Dc==Iy)=false from rfl,cf]
 show cond (Dc==Ga) _ _=_
 rw[show(Dc==Ga)=false from rfl,cf]
 show cond (Dc==Pr) _ _=_
 rw[show(Dc==Pr)=false from rfl,cf]
 show cond (Dc==Dc) _ _=_
 rw[show(Dc==Dc)=true from rfl,ct]
 refine Ayk (ns:=d.os.map OutD.name) (L:=d.ls.map LineD.name) (U:=d.us.map UnitD.name) u hN v y (by rw[A85];exact z) (A85 _).symm rfl (by show d.os.length<=1000000;omega) hUn (by rw[A85];exact hUl) (A85 _).symm rfl hLn (by rw[A85];exact hLl) (A85 _).symm rfl hLk f (by rw[A85];exact j) n (by rw[A85];exact q) s (by exact h) rfl fun x h=>?_
 refine mC h rfl ?_
 simp only[Rd.rb]
 rw[IQ Dd d.os (Alt o) (Alt o) rfl,show d.os.map OutD.name++[o.name]=(d.os++[Alt o]).map OutD.name from UJ OutD.name d.os (Alt o),A85,Lp d.os (Alt o)]
 exact k x
end
end Gx.Ct
namespace Gx.Ct
open Go Go.Proofs Gx.Cf
section
variable{R:Type}{N:Nat}
def A3e{d:Rd}{z:Int}{l:List Int}{nw:Nat}{cw:LA}{nx:Int}(f:fit 2000 N)(hN:1000000000<N)(e:d.bg=false)(m:1<=z)(n:z<=24)(q:(l.length:Int)=z)(s:∀ z∈l,smallI z)(h:At nw cw nx ([Do,tx z,If]++l.map tx)){t:Int->Int->Nat->Nat->Nat->Nat->Nat->Nat->Nat->Nat->Nat->Nat->Nat->Nat->LA->LA->LA->LA->LA->LA->LA->LA->LA->LA->LA->LA->O R}{j:Int->Int->Int->Nat->LA->O R}{Y:O R}(k:∀ x,j x 0 z l.length (Av l)=Y):Bv N (d.rb nw cw nx) t j=Y:=by
 rw[Ce];unfold Cv
 refine Gi (w:=Do) h rfl fun x h=>?_
 rw[show((Do==([99,97,115,101]:Lu))==(d.rb nw cw nx).bg)=false from by show((Do==Do)==d.bg)=false;rw[e];rfl,cf]
 show cond (Do==Do) _ _=_
 rw[show(Do==Do)=true from rfl,ct]
 refine Avv (z:=z) (by unfold smallI;omega) m n (f.le (by omega)) h rfl fun x h=>?_
 refine Cy (w:=If) h rfl fun x h=>?_
 refine iI (l:=l) (r:=[]) f hN s (by omega) (by exact q) (by rw[A9g];exact h) rfl fun x h=>?_
 refine mC h rfl ?_
 exact k x
noncomputable def pq(N:Nat)(K:LA->Int->Int->O R)(d:Rd)(fuel:Nat)(rem:Lu)(u:Int)(more:Bool)(nw:Nat)(nx:Int)(cw:LA):O R:=Ln N K fuel rem u more nw nx 0 d.th d.rs.length d.bs.length d.ls.length d.us.length d.ss.length d.ts.length d.os.length d.bg d.bs.length d.ls.length d.us.length d.ss.length d.ts.length d.os.length cw (Av d.rs) (d.bs.flatMap BusD.av) (d.ls.flatMap LineD.av) (d.us.flatMap UnitD.av) (d.ss.flatMap StoreD.av) (d.ts.flatMap TieD.av) (d.os.flatMap OutD.av) (Au (d.bs.map BusD.name)) (Au (d.ls.map LineD.name)) (Au (d.us.map UnitD.name)) (Au (d.ss.map StoreD.name)) (Au (d.ts.map TieD.name)) (Au (d.os.map OutD.name))
def O4(N:Nat)(R:Type)(s:Lu)(ws:List Ar):Prop:=∀ K:Nat->LA->O R,pC N s K=K ws.length (ws.map AV.str)
def Aqr{K:LA->Int->Int->O R}{d:Rd}{fuel:Nat}{rem s R4:Lu}{u:Int}{m:Bool}{nw:Nat}{nx:Int}{cw:LA}{Y:O R}(e:Lib.cut rem [10]=(s,R4,m))(hr:rem.length<=4294967280)(hs:O4 N R s [])(k:pq N K d fuel R4 (wrap .i64 (u+1)) m 0 0 []=Y):pq N K d (fuel+1) rem u true nw nx cw=Y:=by
 unfold pq
 rw[Ln];unfold Sv
 rw[ct,A23 hr,e]
 dsimp only
 rw[hs]
 exact fQ (s:=d.rb 0 [] 0) (Ab3 (ws:=[]) (by decide)) rfl k
def A3f{K:LA->Int->Int->O R}{d d':Rd}{fuel:Nat}{rem s R4:Lu}{u:Int}{m:Bool}{nw:Nat}{nx:Int}{cw:LA}{w:Ar}{ws:List Ar}{Y:O R}(l:Lib.cut rem [10]=(s,R4,m))(hr:rem.length<=4294967280)(hs:O4 N R s (w::ws))(n:(w::ws).length<=2000000)(q:d'.th=d.th)(t:d'.bg=d.bg)(e:d'.rs=d.rs)
  (st:∀(f:Int->Int->Nat->Nat->Nat->Nat->Nat->Nat->Nat->Nat->Nat->Nat->Nat->Nat->LA->LA->LA->LA->LA->LA->LA->LA->LA->LA->LA->LA->O R)(v:Int->Int->Int->Nat->LA->O R),At (w::ws).length ((w::ws).map AV.str) 0 (w::ws)->(∀ x,All f d' x=Y)->Bv N (d.rb (w::ws).length ((w::ws).map AV.str) 0) f v=Y)
  (k:∀ x,pq N K d' fuel R4 (wrap .i64 (u+1)) m (w::ws).length x ((w::ws).map AV.str)=Y):pq N K d (fuel+1) rem u true nw nx cw=Y:=by
 unfold pq
 rw[Ln];unfold Sv
 rw[ct,A23 hr,l]
 dsimp only
 rw[hs]
 have j:=Ab3 n
 refine gy (s:=d.rb (w::ws).length ((w::ws).map AV.str) 0) j rfl ?_
 rw[Bat,cf]
 refine st _ _ j fun x=>?_
 unfold All
 refine xF rfl ?_
 rw[Bat,cf]
 have:=k x
 unfold pq at this
 rw[q,t,e]at this
 exact this
def A3g{K:LA->Int->Int->O R}{d:Rd}{z:Int}{l:List Int}{fuel:Nat}{rem s R4:Lu}{u:Int}{m:Bool}{nw:Nat}{nx:Int}{cw:LA}{Y:O R}(n:fit 2000 N)(hN:1000000000<N)(e:d.bg=false)(q:1<=z)(t:z<=24)(f:(l.length:Int)=z)(v:∀ z∈l,smallI z)(y:Lib.cut rem [10]=(s,R4,m))(hr:rem.length<=4294967280)(hs:O4 N R s ([Do,tx z,If]++l.map tx))
  (k:∀ x,pq N K {d with bg:=true,th:=z,rs:=l} fuel R4 (wrap .i64 (u+1)) m ([Do,tx z,If]++l.map tx).length x (([Do,tx z,If]++l.map tx).map AV.str)=Y):pq N K d (fuel+1) rem u true nw nx cw=Y:=by
 unfold pq
 rw[Ln];unfold Sv
 rw[ct,A23 hr,y]
 dsimp only
 rw[hs]
 have j:=Ab3 (ws:=[Do,tx z,If]++l.map tx) (by rw[A8y,A85];show 3+l.length<=_;omega)
 refine gy (s:=d.rb _ _ 0) j rfl ?_
 rw[Bat,cf]
 refine A3e (d:=d) n hN e q t f v j fun x=>?_
 refine xF rfl ?_
 rw[Bat,cf]
 exact k x
def Afe(b:UInt8):Bool:=b==32||(b==9||b==13)
def fw:Lu->Ar->List Ar
|[],w=>if w=[]then []else [w]
|b::r,w=>if Afe b=true then(if w=[]then fw r []else w::fw r [])else fw r (w++[b])
def At7(p:Nat×Nat):LA:=[.int .i64 (p.1:Int),.int .i64 (p.2:Int)]
def Ayz(a:Lu)(p:Nat×Nat):Ar:=take (p.2 - p.1) (drop p.1 a)
def A3h(a:Lu)(p:Nat×Nat):Prop:=p.1<=p.2/\p.2<=a.length
def A5i{c:UInt8}{K:Bool->O R}:IA N (c.toNat:Int) K=K (Afe c):=by
 rw[TE];unfold QL Afe
 have e:∀ k:UInt8,((c.toNat:Int)==(k.toNat:Int))=(c==k):=fun k=>by
  rw[Bool.eq_iff_iff];simp only[beq_iff_eq]
  exact⟨fun h=>Bdd.1 (by omega),fun h=>by rw[h]⟩
 have e1:((c.toNat:Int)==32)=(c==32):=e 32
 have d:((c.toNat:Int)==9)=(c==9):=e 9
 have e3:((c.toNat:Int)==13)=(c==13):=e 13
 rw[e1,d,e3]
 cases c==32<;>cases c==9<;>cases c==13<;>rfl
def A3i{h:Int}(d:0<=h/\h<=4611686018427387904):Aio .i64 (-1) h=-h - 1:=by
 obtain⟨n,rfl⟩:∃ n:Nat,h=(n:Int):=⟨h.toNat,by omega⟩
 unfold Aio
 show wrap .i64 (((BitVec.ofInt 64 (-1) ^^^ BitVec.ofInt 64 (n:Int)).toNat:Nat):Int)=_
 rw[show BitVec.ofInt 64 (-1)=BitVec.allOnes 64 by decide,BitVec.allOnes_xor,BitVec.toNat_not,BitVec.toNat_ofInt,IntKind.wrap_i64]
 have:(((n:Int)%((2 ^ 64:Nat):Int)).toNat)=n:=by omega
 rw[this]
 omega
def Avz(sp:List (Nat×Nat)):take (sp.length*2) (sp.flatMap At7)=sp.flatMap At7:=by rw[A80 (by rw[DL (e:=At7) (sz:=2) (fun _=>rfl)];exact A86 _)]
def Acz{a:Lu}(n:∀ c∈a,c.toNat<128)(u:a.length<=2000000){K:Nat->LA->O R}:∀(r pre w:Lu)(sp:List (Nat×Nat))(fuel:Nat)(h:Int),a=pre++(w++r)->r.length<fuel->sp.length+r.length<=2000000->(w=[]/\h<0\/w≠[]/\h=(pre.length:Int))->(∀ p∈sp,A3h a p) ->
  ∃ d:List (Nat×Nat),d.length<=2000001/\(∀ p∈d,A3h a p)/\d.map (Ayz a)=sp.map (Ayz a)++fw r w/\D0 N K a fuel sp.length h (sp.flatMap At7) ((pre.length+w.length:Nat):Int)=Kc N K a d.length (d.flatMap At7)
| [],pre,w,sp,fuel+1,h,e,y,f,v,hs=>by
  have A:a.length=pre.length+w.length:=by rw[e];simp
  rw[D0];unfold I5
  rw[Gu (by omega),cf]
  rcases v with⟨w0,h0⟩|⟨w0,h0⟩
  ·refine⟨sp,by simp at f;omega,hs,by rw[w0];simp[fw],?_⟩
   rw[show decide (h>=0)=false from decide_eq_false (by omega),cf]
  ·refine⟨sp++[(pre.length,a.length)],by rw[A8y];simp at f ⊢;omega,fun p f=>?_,?_,?_⟩
   ·rcases A87.1 f with q|q
    ·exact hs p q
    ·rw[Bbb.1 q];exact⟨by show pre.length<=a.length;omega,A86 _⟩
   ·rw[A93];congr 1
    show [Ayz a (pre.length,a.length)]=fw [] w
    rw[fw,if_neg w0];congr 1
    show take (a.length - pre.length) (drop pre.length a)=w
    rw[e,Bco,A9g,A80 (by simp)]
   ·rw[show decide (h>=0)=true from decide_eq_true (by omega),ct,kL (by simp at f;omega) (by omega),ct,Avz,Lp sp (pre.length,a.length),Ba6,h0];rfl
| c::r,pre,w,sp,fuel+1,h,e,y,f,v,hs=>by
  rw[A83]at y f
  have A:a.length=pre.length+(w.length+(r.length+1)):=by rw[e];simp
  have t:pre.length+w.length<a.length:=by omega
  have B:a[pre.length+w.length]=c:=by
   simp only[e,<-A9l]
   rw[List.getElem_append_right (by simp)];simp
  have z:=lw (s:=a) (p:=pre.length+w.length) t (n _ (A9c _))
  rw[B]at z
  rw[D0];unfold I5
  rw[F1 t,ct,z]
  dsimp only
  rw[A5i]
  have st:(((pre.length+w.length:Nat):Int)+((1:Nat):Int))=((pre.length+w.length+1:Nat):Int):=by omega
  rw[st]
  cases x:Afe c with
  | true =>
   rw[ct]
   rcases v with⟨w0,h0⟩|⟨w0,h0⟩
   ·subst w0
    obtain⟨d,j,k,l,m⟩:=Acz n u (K:=K) r (pre++[c]) [] sp fuel h (by rw[e];simp) (by omega) (by omega) (.inl ⟨rfl,h0⟩) hs
    refine⟨d,j,k,by rw[l,fw,if_pos x,if_pos rfl],?_⟩
    rw[show decide (h>=0)=false from decide_eq_false (by omega),cf]
    rw[<-m];simp
   ·have C:Aio .i64 (-1) h=-h - 1:=A3i (by omega)
    obtain⟨d,j,k,l,m⟩:=Acz n u (K:=K) r (pre++(w++[c])) [] (sp++[(pre.length,pre.length+w.length)]) fuel (-h - 1) (by rw[e];simp) (by omega) (by rw[A8y];simp;omega) (.inl ⟨rfl,by omega⟩) (fun p f=>by
     rcases A87.1 f with q|q
     ·exact hs p q
     ·rw[Bbb.1 q];exact⟨by show pre.length<=_;omega,by show pre.length+w.length<=_;omega⟩)
    refine⟨d,j,k,?_,?_⟩
    ·rw[l,fw,if_pos x,if_neg w0,A93,A9l];congr 1
     show [Ayz a (pre.length,pre.length+w.length)]++_=_
     rw[show Ayz a (pre.length,pre.length+w.length)=w by
      show take (pre.length+w.length - pre.length) (drop pre.length a)=w
      rw[e,Bco,Bc1,Bdl]]
     rfl
    ·rw[show decide (h>=0)=true from decide_eq_true (by omega),ct,kL (by omega) (by omega),ct,Avz,C,<-m,Lp sp (pre.length,pre.length+w.length),Ba6,h0]
     simp[At7,A97]
  | false =>
   rw[cf]
   rcases v with⟨w0,h0⟩|⟨w0,h0⟩
   ·subst w0
    obtain⟨d,j,k,l,m⟩:=Acz n u (K:=K) r pre [c] sp fuel (pre.length:Int) (by rw[e];simp) (by omega) (by omega) (.inr ⟨by simp,rfl⟩) hs
    refine⟨d,j,k,by rw[l,fw,if_neg (by rw[x];simp)];rfl,?_⟩
    rw[show decide (h<0)=true from decide_eq_true (by omega),ct]
    rw[<-m];simp
   ·obtain⟨d,j,k,l,m⟩:=Acz n u (K:=K) r pre (w++[c]) sp fuel h (by rw[e];simp) (by omega) (by omega) (.inr ⟨by simp,h0⟩) hs
    refine⟨d,j,k,by rw[l,fw,if_neg (by rw[x];simp)],?_⟩
    rw[show decide (h<0)=false from decide_eq_false (by omega),cf]
    rw[<-m];simp[A97]
def A6r{sp:List (Nat×Nat)}{j:Nat}(h:j<sp.length):take 2 (drop (0+Int.toNat (j:Int)*2) (sp.flatMap At7))=At7 sp[j]:=by rw[A89];exact Fy (e:=At7) (fun _=>rfl) h
def A5j{sp:List (Nat×Nat)}{j:Nat}(h:j<sp.length):ble 2 (List.length (drop (0+Int.toNat (j:Int)*2) (sp.flatMap At7)))=true:=by rw[A89];exact I3 (e:=At7) (fun _=>rfl) h
def A1t{a:Lu}(e:a.length<=2000000){sp:List (Nat×Nat)}(hs:∀ p∈sp,A3h a p)(hn:sp.length<=2000001){K:Nat->LA->O R}:∀(m j fuel:Nat),j+m=sp.length->m<fuel ->
  E9 N K a sp.length (sp.flatMap At7) fuel (sp.length:Int) (j:Int) (Au ((sp.take j).map (Ayz a))++replicate m (.str []))=K sp.length (Au (sp.map (Ayz a)))
|0,j,fuel+1,f,_=>by
  rw[E9];unfold I4
  rw[Gu (by omega),cf,A80 (by omega)]
  simp
|m+1,j,fuel+1,f,q=>by
  have h:j<sp.length:=by omega
  have k:=hs _ (A9c h)
  unfold A3h at k
  rw[E9];unfold I4
  rw[F1 h,ct,Ab h,ct,A5j h,ct,A6r h]
  have l:∀ F:Int->Int->O R,As .i64 (setCells [Bfg,Bfg] 0 (At7 sp[j])) (fun m=>As .i64 ((setCells [Bfg,Bfg] 0 (At7 sp[j])).drop 1) fun o=>F m o)=F ((sp[j].1:Nat):Int) ((sp[j].2:Nat):Int):=fun F=>rfl
  rw[show((beq (List.length (At7 sp[j])) 2)&&((ble 2 2)&&(!false)))=true from rfl,ct]
  rw[l]
  rw[show((decide (0<=((sp[j].1:Nat):Int)))&&((decide (((sp[j].1:Nat):Int)<=((sp[j].2:Nat):Int)))&&((decide (((sp[j].2:Nat):Int)<=(a.length:Int)))&&(decide ((a.length:Int)<=(a.length:Int))))))=true by simp;omega,ct,ct]
  have d:(Au ((sp.take j).map (Ayz a))).length=j:=by simp[Au];omega
  rw[show((beq 1 1)&&((ble ((0+(Int.toNat (j:Int))*1)+1) (List.length (Au ((sp.take j).map (Ayz a))++replicate (m+1) (.str []))))&&(!false)))=true by rw[A8y,d,List.length_replicate];simp,ct,OO (by omega)]
  have n:=A1t e hs hn (K:=K) m (j+1) fuel (by omega) (by omega)
  refine Bby ?_ n
  congr 1
  rw[show 0+Int.toNat (j:Int)*1=j by omega]
  rw[Bcd _ _ (by omega),d,Nat.sub_self,Bb7,Bcq]
  rw[List.take_add_one,A84 h]
  show _=Au (List.map (Ayz a) (take j sp++[sp[j]]))++_
  rw[A93,show List.map (Ayz a) [sp[j]]=[Ayz a sp[j]]from rfl,<-Jh,A9l]
  rfl
def Ahd{a:Lu}(e:∀ c∈a,c.toNat<128)(m:a.length<=1048576)(hN:1000000000<N){K:Nat->LA->O R}:Hf N a K=K (fw a []).length (Au (fw a [])):=by
 rw[Xc];unfold Mc
 obtain⟨sp,f,j,d,k⟩:=Acz (N:=N) e (by omega) (K:=K) a [] [] [] N (-1) rfl (by omega) (by rw[A9m];omega) (.inl ⟨rfl,by omega⟩) (by intro p l;cases l)
 refine k.trans ?_
 unfold Kc N9
 rw[show((decide (0<=(sp.length:Int)))&&((decide ((sp.length:Int)<=(sp.length:Int)))&&((decide ((sp.length:Int)<=140737488355328))&&(decide (((sp.length:Int)*((16:Nat):Int))<=140737488355328)))))=true by simp;omega,ct]
 have:=A1t (N:=N) (a:=a) (by omega) j f (K:=K) sp.length 0 N (by omega) (by omega)
 refine Bby ?_ (this.trans ?_)
 ·simp[Au]
 ·rw[d];simp only[A9x,A9t]
  have:=congrArg List.length d
  rw[A85]at this
  rw[this];rfl
def Aym:Lu->Lu
|[]=>[]
|c::r=>if c=35 then []else c::Aym r
def Ahe:∀ s:Lu,(Lib.indexByte s 35=-1/\Aym s=s)\/∃ n:Nat,Lib.indexByte s 35=(n:Int)/\n<=s.length/\Aym s=s.take n
|[]=>.inl ⟨rfl,rfl⟩
| c::r=>by
  have d:=Ahe r
  rw[Lib.indexByte,Aym]
  by_cases h:c=35
  ·right;refine⟨0,?_,by omega,?_⟩
   ·rw[if_pos (by simpa using h)];rfl
   ·rw[if_pos h];rfl
  ·rw[if_neg h]
   rcases d with⟨i1,i2⟩|⟨n,i1,i2,i3⟩
   ·left
    refine⟨?_,by rw[i2]⟩
    rw[i1];simp[h]
   ·right
    refine⟨n+1,?_,by rw[A83];omega,by rw[Bbf,i3]⟩
    rw[i1];simp[h]<;>omega
def A3j(s:Lu):∀ c∈Aym s,c∈s:=by
 induction s with
|nil=>intro c d;exact d
| cons a r e =>
  intro c d
  rw[Aym]at d
  split at d
  ·cases d
  ·rcases A88.1 d with q|q
   ·rw[q];simp
   ·exact A9r _ (e c q)
def Aqs{s:Lu}(e:∀ c∈s,c.toNat<128)(k:s.length<=1048576)(hN:1000000000<N):O4 N R s (fw (Aym s) []):=fun K=>by
 rw[pD];unfold rq
 rw[X9];unfold Va
 rw[Dg];unfold D8
 rw[show(Int.toNat 35).toUInt8=(35:UInt8)from rfl]
 rcases Ahe s with⟨d,f⟩|⟨n,d,f,j⟩
 ·rw[d,f]
  dsimp only
  rw[show decide ((-1:Int)>=0)=false from rfl,cf,Ahd e k hN];rfl
 ·rw[d]
  dsimp only
  rw[show decide ((n:Int)>=0)=true from decide_eq_true (by omega),ct]
  rw[show((decide ((0:Int)<=(0:Int)))&&(true&&((decide ((n:Int)<=(s.length:Int)))&&(decide ((s.length:Int)<=(s.length:Int))))))=true by simp;omega,ct,A8z,<-j]
  have l:(Aym s).length<=1048576:=by rw[j,Bar];omega
  rw[Ahd (fun c m=>e c (A3j s c m)) l hN];rfl
end
end Gx.Ct
namespace Gx.Ct
open Go Go.Proofs Gx.Cf
def A7y(w:Ar):Prop:=w≠[]/\∀ c∈w,Afe c=false/\c≠10/\c≠35/\c.toNat<128
def Av0:∀(s r:Lu),(∀ c∈s,Afe c=true)->fw (s++r) []=fw r []
|[],r,_=>rfl
|c::s,r,h=>by
  rw[A9k,fw,if_pos (h c (Baf ..)),if_pos rfl]
  exact Av0 s r fun x hx=>h x (A9r _ hx)
def Alm:∀(w r v:Lu),(∀ c∈w,Afe c=false)->fw (w++r) v=fw r (v++w)
|[],r,v,_=>by rw[A9t,A9g]
|c::w,r,v,h=>by rw[A9k,fw,if_neg (by rw[h c (Baf ..)];decide),Alm w r (v++[c]) fun x hx=>h x (A9r _ hx),A9l];rfl
def A3k{w s r:Lu}(d:A7y w)(hs:s≠[])(e:∀ c∈s,Afe c=true):fw (w++(s++r)) []=w::fw r []:=by
 rw[Alm w _ [] fun c h=>(d.2 c h).1,A9t]
 cases s with
|nil=>exact absurd rfl hs
|cons c s =>
  rw[A9k,fw,if_pos (e c (Baf ..)),if_neg d.1,Av0 s r fun x hx=>e x (A9r _ hx)]
def Av1:∀(a b:Lu),(∀ c∈a,c≠35)->Aym (a++b)=a++Aym b
|[],b,_=>rfl
|c::a,b,h=>by rw[A9k,Aym,if_neg (h c (Baf ..)),Av1 a b fun x hx=>h x (A9r _ hx)];rfl
def txt:List Lu->Lu->Lu
|[],e=>e
|l::r,e=>l++10::txt r e
def Av2{l:Lu}{r:List Lu}{e:Lu}(h:(10:UInt8)∉l):Lib.cut (txt (l::r) e) [10]=(l,txt r e,true):=A1b h
def A3l{e:Lu}(h:(10:UInt8)∉e):Lib.cut (txt [] e) [10]=(e,[],false):=A45 h
def Av3:∀(L:List Lu)(e:Lu),L.length<=(txt L e).length
|[],e=>by simp
|l::r,e=>by
  have:=Av3 r e
  rw[txt,A8y,A83,A83];omega
end Gx.Ct
namespace Gx.Ct
open Go Go.Proofs Gx.Cf
section
variable{R:Type}{N:Nat}
def Step(N:Nat)(R:Type)(d:Rd)(ws:List Ar)(d':Rd):Prop:=∀ ⦃K:LA->Int->Int->O R⦄ ⦃fuel:Nat⦄ ⦃rem s R4:Lu⦄ ⦃u:Int⦄ ⦃m:Bool⦄ ⦃nw:Nat⦄ ⦃nx:Int⦄ ⦃cw:LA⦄ ⦃Y:O R⦄,Lib.cut rem [10]=(s,R4,m)->rem.length<=4294967280->O4 N R s ws->(∀ nw' x cw',pq N K d' fuel R4 (wrap .i64 (u+1)) m nw' x cw'=Y)->pq N K d (fuel+1) rem u true nw nx cw=Y
inductive Walk(N:Nat)(R:Type):List (List UInt8)->Rd->Rd->Prop
|nil (d:Rd):Walk N R [] d d
|skip {l:List UInt8} {L:List (List UInt8)} {d d':Rd}:(10:UInt8)∉l->O4 N R l []->Walk N R L d d'->Walk N R (l::L) d d'
|stmt {l:List UInt8} {L:List (List UInt8)} {ws:List Ar} {d e d':Rd}:(10:UInt8)∉l->O4 N R l ws->Step N R d ws e->Walk N R L e d'->Walk N R (l::L) d d'
def A1u{K:LA->Int->Int->O R}{e:Lu}{L:List Lu}{d d':Rd}(w:Walk N R L d d'):∀{fuel v:Nat}{nw:Nat}{nx:Int}{cw:LA}{Y:O R},(txt L e).length<=4294967280->v+L.length<=1000000000->(∀ f x j,pq N K d' fuel e ((v+L.length:Nat):Int) true f x j=Y)->pq N K d (fuel+L.length) (txt L e) (v:Int) true nw nx cw=Y:=by
 induction w with
|nil d=>intro fuel v nw nx cw Y _ _ k;exact k _ _ _
|skip m n _ q =>
  intro fuel v nw nx cw Y l s k
  rw[txt,A8y,A83]at l
  rw[A83]at s
  refine Aqr (Av2 m) (by rw[txt,A8y,A83];exact l) n ?_
  rw[OO (by omega)]
  refine q (v:=v+1) (by omega) (by omega) fun f x j=>?_
  rw[A97,Bcb 1];exact k _ _ _
|stmt m n t _ q =>
  intro fuel v nw nx cw Y l s k
  rw[txt,A8y,A83]at l
  rw[A83]at s
  refine t (Av2 m) (by rw[txt,A8y,A83];exact l) n fun f x j=>?_
  rw[OO (by omega)]
  refine q (v:=v+1) (by omega) (by omega) fun f x j=>?_
  rw[A97,Bcb 1];exact k _ _ _
def iJ{d d':Rd}{w:Ar}{ws:List Ar}(j:(w::ws).length<=2000000)(l:d'.th=d.th)(m:d'.bg=d.bg)(e:d'.rs=d.rs)
  (st:∀{Y:O R}{f:Int->Int->Nat->Nat->Nat->Nat->Nat->Nat->Nat->Nat->Nat->Nat->Nat->Nat->LA->LA->LA->LA->LA->LA->LA->LA->LA->LA->LA->LA->O R}{n:Int->Int->Int->Nat->LA->O R},At (w::ws).length ((w::ws).map AV.str) 0 (w::ws)->(∀ x,All f d' x=Y)->Bv N (d.rb (w::ws).length ((w::ws).map AV.str) 0) f n=Y):Step N R d (w::ws) d':=fun _ _ _ _ _ _ _ _ _ _ _ q hr hs k=>A3f q hr hs j l m e (fun _ _ s kk=>st s kk) fun x=>k _ _ _
def A1v{d:Rd}{b:BusD}(k:fit 2000 N)(hN:1000000000<N)(j:d.bg=true)(m:A1 b.name=true)(n:b.name∉d.bs.map BusD.name)(q:d.bs.length<32)(hdemand:(b.demand.l.length:Int)=d.th/\b.demand.l.length<=1000/\∀ z∈b.demand.l,smallI z)(e:smallI b.shed)(f:(nF b).length<=2000000):Step N R d (nF b) {d with bs:=d.bs++[Acx b]}:=iJ (w:=Pq) (ws:=(nF b).tail) (d':={d with bs:=d.bs++[Acx b]}) f rfl rfl rfl (fun s kk=>A5g k hN j m n q hdemand e s kk)
def Ayn{d:Rd}{l:LineD}(v:fit 2000 N)(hN:1000000000<N)(q:d.bg=true)(x:A1 l.name=true)(y:l.name∉d.ls.map LineD.name)(A:d.ls.length<64)(hBn:(d.bs.map BusD.name).Nodup)(hBl:d.bs.length<=1000000)(s:0<=l.fr/\l.fr<(d.bs.length:Int))(t:0<=l.tl/\l.tl<(d.bs.length:Int))(u:J7 l.re)(f:J7 l.smin)(j:J7 l.smax)(e:smallI l.limit)(k:smallI l.emer)(m:∀ z∈l.away.l,smallI z)(n:(Vp (d.bs.map BusD.name) l).length<=2000000):Step N R d (Vp (d.bs.map BusD.name) l) {d with ls:=d.ls++[EW l]}:=iJ (w:=Jr) (ws:=(Vp (d.bs.map BusD.name) l).tail) (d':={d with ls:=d.ls++[EW l]}) n rfl rfl rfl (fun B kk=>A3c v hN q x y A hBn hBl s t u f j e k m B kk)
def Ayo{d:Rd}{u:UnitD}(s:fit 2000 N)(hN:1000000000<N)(k:d.bg=true)(t:A1 u.name=true)(v:u.name∉d.us.map UnitD.name)(x:d.us.length<16)(hBn:(d.bs.map BusD.name).Nodup)(hBl:d.bs.length<=1000000)(f:0<=u.bus/\u.bus<(d.bs.length:Int))(y:∀ z∈ff u,smallI z)(e:∀ z∈u.away.l,smallI z)(m:u.state=0\/u.state=1\/u.state=2)(n:∀ g∈u.segs.l,smallI g.width/\smallI g.price)(q:u.segs.l.length<=1000000)(j:(Ps (d.bs.map BusD.name) u).length<=2000000):Step N R d (Ps (d.bs.map BusD.name) u) {d with us:=d.us++[Acy u]}:=iJ (w:=Iy) (ws:=(Ps (d.bs.map BusD.name) u).tail) (d':={d with us:=d.us++[Acy u]}) j rfl rfl rfl (fun A kk=>A3d s hN k t v x hBn hBl f y e m n q A kk)
def At8{d:Rd}{u:StoreD}(m:fit 2000 N)(hN:1000000000<N)(l:d.bg=true)(n:A1 u.name=true)(q:u.name∉d.ss.map StoreD.name)(s:d.ss.length<8)(hBn:(d.bs.map BusD.name).Nodup)(hBl:d.bs.length<=1000000)(f:0<=u.bus/\u.bus<(d.bs.length:Int))(hcapacity:smallI u.capacity)(hinitial:smallI u.initial)(e:smallI u.final)(hcharge:smallI u.charge)(hdischarge:smallI u.discharge)(j:J7 u.eff)(k:(Kk (d.bs.map BusD.name) u).length<=2000000):Step N R d (Kk (d.bs.map BusD.name) u) {d with ss:=d.ss++[u]}:=iJ (w:=Ga) (ws:=(Kk (d.bs.map BusD.name) u).tail) (d':={d with ss:=d.ss++[u]}) k rfl rfl rfl (fun t kk=>A1s m hN l n q s hBn hBl f hcapacity hinitial e hcharge hdischarge j t kk)
def A1w{d:Rd}{t:TieD}(q:fit 2000 N)(hN:1000000000<N)(n:d.bg=true)(s:A1 t.name=true)(u:t.name∉d.ts.map TieD.name)(v:d.ts.length<8)(hBn:(d.bs.map BusD.name).Nodup)(hBl:d.bs.length<=1000000)(f:0<=t.bus/\t.bus<(d.bs.length:Int))(j:(t.imp.l.length:Int)=d.th/\t.imp.l.length<=1000/\∀ z∈t.imp.l,smallI z)(k:(t.exp.l.length:Int)=d.th/\t.exp.l.length<=1000/\∀ z∈t.exp.l,smallI z)(e:(t.price.l.length:Int)=d.th/\t.price.l.length<=1000/\∀ z∈t.price.l,smallI z)(m:(GK (d.bs.map BusD.name) t).length<=2000000):Step N R d (GK (d.bs.map BusD.name) t) {d with ts:=d.ts++[Aqn t]}:=iJ (w:=Pr) (ws:=(GK (d.bs.map BusD.name) t).tail) (d':={d with ts:=d.ts++[Aqn t]}) m rfl rfl rfl (fun x kk=>A5h q hN n s u v hBn hBl f j k e x kk)
def Aqt{d:Rd}{o:OutD}(t:fit 2000 N)(hN:1000000000<N)(f:d.bg=true)(u:A1 o.name=true)(v:o.name∉d.os.map OutD.name)(x:d.os.length<64)(hUn:(d.us.map UnitD.name).Nodup)(hUl:d.us.length<=1000000)(hLn:(d.ls.map LineD.name).Nodup)(hLl:d.ls.length<=1000000)(hLk:Cr∉d.ls.map LineD.name)(j:(o.corr||o.moves.l.isEmpty)=true)(k:∀ m∈o.moves.l,(0<=m.unit/\m.unit<(d.us.length:Int))/\smallI m.up/\smallI m.down)(n:o.moves.l.length<=1000000)(q:∀ i∈o.lines.l,0<=i/\i<(d.ls.length:Int))(s:o.lines.l.length<=1000000)(e:(U3 (d.ls.map LineD.name) (d.us.map UnitD.name) o).length<=2000000):Step N R d (U3 (d.ls.map LineD.name) (d.us.map UnitD.name) o) {d with os:=d.os++[Alt o]}:=iJ (w:=Dc) (ws:=(U3 (d.ls.map LineD.name) (d.us.map UnitD.name) o).tail) (d':={d with os:=d.os++[Alt o]}) e rfl rfl rfl (fun y kk=>Ayl t hN f u v x hUn hUl hLn hLl hLk j k n q s y kk)
def Ayp{d:Rd}{z:Int}{l:List Int}(f:fit 2000 N)(hN:1000000000<N)(e:d.bg=false)(j:1<=z)(m:z<=24)(n:(l.length:Int)=z)(q:∀ z∈l,smallI z):Step N R d ([Do,tx z,If]++l.map tx) {d with bg:=true,th:=z,rs:=l}:=fun _ _ _ _ _ _ _ _ _ _ _ s hr hs k=>A3g f hN e j m n q s hr hs fun x=>k _ _ _
inductive Says(N:Nat)(R:Type):List (List UInt8)->List (List Ar)->Prop
|nil:Says N R [] []
|skip {l:List UInt8} {L:List (List UInt8)} {W:List (List Ar)}:(10:UInt8)∉l->O4 N R l []->Says N R L W->Says N R (l::L) W
|stmt {l:List UInt8} {L:List (List UInt8)} {ws:List Ar} {W:List (List Ar)}:(10:UInt8)∉l->O4 N R l ws->Says N R L W->Says N R (l::L) (ws::W)
inductive Chain(N:Nat)(R:Type):Rd->List (List Ar)->Rd->Prop
|nil (d:Rd):Chain N R d [] d
|cons {d e d':Rd} {ws:List Ar} {W:List (List Ar)}:Step N R d ws e->Chain N R e W d'->Chain N R d (ws::W) d'
def A3m{L:List Lu}{W:List (List Ar)}(s:Says N R L W):∀{d d':Rd},Chain N R d W d'->Walk N R L d d':=by
 induction s with
|nil=>intro d d' c;cases c;exact .nil _
|skip e f _ j=>intro d d' c;exact .skip e f (j c)
|stmt e f _ j =>
  intro d d' c
  cases c with
  |cons st c=>exact .stmt e f st (j c)
def UK{d e d':Rd}{V W:List (List Ar)}(a:Chain N R d V e)(b:Chain N R e W d'):Chain N R d (V++W) d':=by
 induction a with
|nil=>exact b
|cons st _ f=>exact .cons st (f b)
def Vk{α:Type}{f:α->List Ar}{st:List α->Rd}:∀(l pre:List α),(∀ p a q,pre++l=p++a::q->pre.length<=p.length->Step N R (st p) (f a) (st (p++[a])))->Chain N R (st pre) (l.map f) (st (pre++l))
|[],pre,_=>by rw[A9g];exact .nil _
|a::l,pre,h=>by
  refine .cons (h pre a l rfl (A86 _)) ?_
  have:=Vk l (pre++[a]) fun p b q e d=>h p b q (by rw[<-e,A9l];rfl) (by simp at d;omega)
  rw[A9l]at this
  exact this
def kM(c:CaseD)(l:Sl Int):Prop:=(l.l.length:Int)=c.hours/\∀ z∈l.l,smallI z
def RL(c:CaseD)(p:List BusD):Rd:=⟨true,c.hours,c.reserve.l,p.map Acx,[],[],[],[],[]⟩
def fg{α:Type}{f:α->Ar}{re:α->α}(h:∀ a,f (re a)=f a)(l:List α):(l.map re).map f=l.map f:=by rw[Bbv];exact Bbs fun a _=>h a
def IR{α:Type}{f:α->Ar}{l p q:List α}{a:α}(h:(l.map f).Nodup)(e:l=p++a::q):f a∉p.map f:=fun d=>by
 rw[e,A93,A9a]at h
 exact(List.nodup_append.1 h).2.2 _ d _ (Baf ..) rfl
def Ayq{c:CaseD}(k:fit 2000 N)(hN:1000000000<N)(v:1<=c.hours/\c.hours<=24)(hn:(c.buses.l.map BusD.name).Nodup)(m:∀ b∈c.buses.l,A1 b.name=true/\kM c b.demand/\smallI b.shed)(x:c.buses.l.length<=32):Chain N R (RL c []) (c.buses.l.map nF) (RL c c.buses.l):=by
 refine Vk c.buses.l [] fun p a q e _=>?_
 rw[A9t]at e
 obtain⟨n,⟨s,w3⟩,t⟩:=m a (by rw[e];simp)
 have j:p.length<c.buses.l.length:=by rw[e];simp
 have:=A1v (R:=R) (d:=RL c p) k hN rfl n (by show a.name∉(p.map Acx).map BusD.name;rw[fg (f:=BusD.name) (re:=Acx) (fun _=>rfl)];exact IR hn e) (by show(p.map Acx).length<32;rw[A85];omega) ⟨s,by omega,w3⟩ t (by simp[nF];omega)
 have u:RL c (p++[a])={RL c p with bs:=(RL c p).bs++[Acx a]}:=by simp[RL]
 rw[u];exact this
def Bh(c:CaseD)(p:List LineD):Rd:=⟨true,c.hours,c.reserve.l,c.buses.l.map Acx,p.map EW,[],[],[],[]⟩
def iK(c:CaseD):Prop:=(c.buses.l.map BusD.name).Nodup/\c.buses.l.length<=32
def fi(c:CaseD):(c.buses.l.map Acx).map BusD.name=Ci c:=fg (f:=BusD.name) (re:=Acx) (fun _=>rfl) c.buses.l
def At9{c:CaseD}(n:fit 2000 N)(hN:1000000000<N)(hB:iK c)(hn:(c.lines.l.map LineD.name).Nodup)(s:∀ l∈c.lines.l,A1 l.name=true/\(0<=l.fr/\l.fr<(c.buses.l.length:Int))/\(0<=l.tl/\l.tl<(c.buses.l.length:Int))/\(J7 l.re/\J7 l.smin/\J7 l.smax)/\smallI l.limit/\smallI l.emer/\(∀ z∈l.away.l,smallI z)/\(Vp (Ci c) l).length<=2000000)(F:c.lines.l.length<=64):Chain N R (Bh c []) (c.lines.l.map (Vp (Ci c))) (Bh c c.lines.l):=by
 refine Vk c.lines.l [] fun p a q e _=>?_
 rw[A9t]at e
 obtain⟨t,u,w3,⟨v,x,y⟩,A,B,C,j⟩:=s a (by rw[e];simp)
 have m:p.length<c.lines.l.length:=by rw[e];simp
 have eb:(Bh c p).bs.map BusD.name=Ci c:=fi c
 have k:(Bh c p).bs.length=c.buses.l.length:=A85 _
 have:=Ayn (R:=R) (d:=Bh c p) n hN rfl t (by show a.name∉(p.map EW).map LineD.name;rw[fg (f:=LineD.name) (re:=EW) (fun _=>rfl)];exact IR hn e) (by show(p.map EW).length<64;rw[A85];omega) (by rw[eb];exact hB.1) (by rw[k];have:=hB.2;omega) (by rw[k];exact u) (by rw[k];exact w3) v x y A B C (by rw[eb];exact j)
 rw[eb]at this
 have D:Bh c (p++[a])={Bh c p with ls:=(Bh c p).ls++[EW a]}:=by simp[Bh]
 rw[D];exact this
end
end Gx.Ct
