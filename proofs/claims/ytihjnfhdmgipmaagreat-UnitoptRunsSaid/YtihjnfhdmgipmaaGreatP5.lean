/- A part of the proof; each theorem says what it holds. -/
import Derived.JoinedOf
import Derived.Test.YtihjnfhdmgipmaaGreatP4
set_option linter.unusedVariables false
set_option linter.defProp false
set_option linter.unusedSimpArgs false
open Nat (ble beq)
open List (take drop replicate)
open Go.IntKind (wrap)
namespace Gx.Cf
open Go Go.Proofs
section
variable{R:Type}
def f_(c:CaseD):Prop:=∃(H:Nat)(res:List Int)(bs:List BusD)(ls:List LineD)(us:List UnitD)(ss:List StoreD)(ts:List TieD)(os:List OutD),
 BaseG H res bs ls us ss ts/\OutsG ls.length us.length os/\(os=[]\/TQ (uC true H res bs ls us ss ts os)=none)/\c=uC false H res bs ls us ss ts os
def Ahf{N:Nat}{l:List Int}{o:Bool}(hN:4096<=N)(D:l.length<=9223372036854775807){H:Nat}{res:List Int}{bs:List BusD}{ls:List LineD}{us:List UnitD}{ss:List StoreD}{ts:List TieD}(b:BaseG H res bs ls us ss ts)(k:Nat)(G:k<=l.length):
  ∃ c,f_ c/\∀ K:LA->O R,LN N K (Aj l) l.length o (H:Int) res.length bs.length ls.length us.length ss.length (Aj res) (bs.flatMap BusD.av) (ls.flatMap LineD.av) (us.flatMap UnitD.av) (ss.flatMap StoreD.av) (k:Int) ts.length (ts.flatMap TieD.av)=K c.av:=by
 obtain⟨y,I,y0,y1,C,L⟩:=nx (R:=R) (N:=N) (t:=false) (o:=o) D 4 (by omega) (by omega) k G
 obtain⟨n,hn⟩:∃ n:Nat,y=(n:Int):=⟨y.toNat,by omega⟩
 subst hn
 obtain⟨os,a1,a2,a3⟩:=yz (R:=R) (o:=o) hN D b n N I [] (by omega) C (by simp;omega) ⟨by simp,by simp⟩ (.inl rfl)
 refine⟨_,⟨H,res,bs,ls,us,ss,ts,os,b,a1,a2,rfl⟩,fun K=>?_⟩
 unfold LN RX
 rw[L]
 simpa using a3 K
def Ahg{N:Nat}{l:List Int}{o:Bool}(hN:4096<=N)(I:l.length<=9223372036854775807){H:Nat}{res:List Int}{bs:List BusD}{ls:List LineD}{us:List UnitD}{ss:List StoreD}(b:BaseG H res bs ls us ss [])(k:Nat)(hk:k<=l.length):
  ∃ c,f_ c/\∀ K:LA->O R,BM N K (bs.length:Int) (Aj l) l.length o (H:Int) res.length bs.length ls.length us.length (Aj res) (bs.flatMap BusD.av) (ls.flatMap LineD.av) (us.flatMap UnitD.av) (k:Int) ss.length (ss.flatMap StoreD.av)=K c.av:=by
 have hb:=b.bl;have hH:=b.h
 obtain⟨y50,Y,y500,y501,D,G⟩:=nx (R:=R) (N:=N) (t:=false) (o:=o) I 3 (by omega) (by omega) k hk
 by_cases h2:y50=2
 ·have e2:(y50==2)=true:=by simpa using h2
  obtain⟨y52,k52,y520,y521,hk52,hy52⟩:=nx (R:=R) (N:=N) (t:=false) (o:=o) I (bs.length:Int) (by omega) (by omega) Y D
  obtain⟨B1,k1,C,b12,hk1,hB1⟩:=CU (R:=R) (N:=N) (m:=H) (t:=false) (o:=o) (by omega) I 12 (by omega) (by omega) (by omega) k52 hk52
  obtain⟨B2,k2,L,b22,hk2,hB2⟩:=CU (R:=R) (N:=N) (m:=H) (t:=false) (o:=o) (by omega) I 12 (by omega) (by omega) (by omega) k1 hk1
  obtain⟨B3,k3,T,b32,hk3,hB3⟩:=CU (R:=R) (N:=N) (m:=H) (t:=false) (o:=o) (by omega) I 40 (by omega) (by omega) (by omega) k2 hk2
  obtain⟨c,g1,g2⟩:=Ahf (R:=R) (o:=o) hN I (ts:=[⟨[116,48],y52,.of B1 false false,.of B2 false false,.of B3 false false⟩]) ⟨b.h,b.rl,b.rr,b.bl,b.bg,b.ll,b.lg,b.ul,b.ug,b.sl,b.sg,by simp,by
   intro x hx;simp at hx;subst hx
   exact⟨rfl,⟨y520,y521⟩,C,b12,L,b22,T,b32⟩⟩ k3 hk3
  refine⟨c,g1,fun K=>?_⟩
  unfold BM DY
  rw[G,e2,ct,hy52,hB1,hB2,hB3,Oi C.symm,Oi L.symm,Oi T.symm,<-g2 K,<-C]
  simp only[C]
  have e:List.flatMap TieD.av [⟨[116,48],y52,.of B1 false false,.of B2 false false,.of B3 false false⟩]=[.str ([116,48]:Lu),.int .i64 y52,.imm (B1.flatMap CM) H 1 false false,.imm (B2.flatMap CM) H 1 false false,.imm (B3.flatMap CM) H 1 false false]:=by
   simp[TieD.av,Sl.av,C,L,T]
  rw[e];rfl
 ·have e2:(y50==2)=false:=by simpa using h2
  obtain⟨c,g1,g2⟩:=Ahf (R:=R) (o:=o) hN I b Y D
  refine⟨c,g1,fun K=>?_⟩
  unfold BM DY
  rw[G,e2,cf,<-g2 K];rfl
def Ahh{N:Nat}{l:List Int}{o:Bool}(hN:4096<=N)(C:l.length<=9223372036854775807){H:Nat}{res:List Int}{bs:List BusD}{ls:List LineD}(h:1<=H/\H<=3)(rl:res.length=H)(rr:∀ x∈res,0<=x/\x<5)(bl:1<=bs.length/\bs.length<=4)(bg:∀ i (h:i<bs.length),BusG i H bs[i])(ll:ls.length<=7)(lg:∀ i (h:i<ls.length),LineH bs.length i H ls[i]):
  ∀(n fuel k:Nat)(us:List UnitD),n<fuel->k<=l.length->us.length+n<=3->1<=us.length+n->(∀ i (h:i<us.length),UnitG i bs.length H us[i]) ->
  ∃ c,f_ c/\∀ K:LA->O R,Nu N K (bs.length:Int) (Aj l) l.length o (H:Int) res.length bs.length (Aj res) (bs.flatMap BusD.av) fuel (n:Int) (k:Int) ls.length us.length (ls.flatMap LineD.av) (us.flatMap UnitD.av)=K c.av
| 0,fuel+1,k,us,_,hk,hn,hn1,ug=>by
  obtain⟨y34,I,y340,y341,D,G⟩:=nx (R:=R) (N:=N) (t:=false) (o:=o) C 3 (by omega) (by omega) k hk
  by_cases h2:y34=2
  ·have e2:(y34==2)=true:=by simpa using h2
   obtain⟨y36,k36,y360,y361,L,T⟩:=nx (R:=R) (N:=N) (t:=false) (o:=o) C (bs.length:Int) (by omega) (by omega) I D
   obtain⟨y38,k38,y380,y381,Y,hy38⟩:=nx (R:=R) (N:=N) (t:=false) (o:=o) C 20 (by omega) (by omega) k36 L
   obtain⟨y40,k40,y400,y401,hk40,hy40⟩:=nx (R:=R) (N:=N) (t:=false) (o:=o) C 8 (by omega) (by omega) k38 Y
   obtain⟨y42,k42,y420,y421,hk42,hy42⟩:=nx (R:=R) (N:=N) (t:=false) (o:=o) C 8 (by omega) (by omega) k40 hk40
   obtain⟨y44,k44,y440,y441,hk44,hy44⟩:=nx (R:=R) (N:=N) (t:=false) (o:=o) C 4 (by omega) (by omega) k42 hk42
   obtain⟨y46,k46,y460,y461,hk46,hy46⟩:=nx (R:=R) (N:=N) (t:=false) (o:=o) C (y38+1) (by omega) (by omega) k44 hk44
   obtain⟨y48,k48,y480,y481,hk48,hy48⟩:=nx (R:=R) (N:=N) (t:=false) (o:=o) C (y38+1) (by omega) (by omega) k46 hk46
   obtain⟨c,g1,g2⟩:=Ahg (R:=R) (o:=o) hN C (us:=us) (ss:=[⟨[115,48],y36,y38,y46,y48,y40,y42,⟨1+y44,4⟩⟩]) ⟨h,rl,rr,bl,bg,ll,lg,⟨by omega,by omega⟩,ug,by simp,by
    intro x hx;simp at hx;subst hx
    exact⟨rfl,⟨y360,y361⟩,⟨y380,y381⟩,⟨y460,by simp only;omega⟩,⟨y480,by simp only;omega⟩,⟨y400,y401⟩,⟨y420,y421⟩,by simp only;omega,by simp only;omega,rfl⟩,by simp,by simp⟩ k48 hk48
   refine⟨c,g1,fun K=>?_⟩
   rw[Nu];unfold Wv
   rw[show decide (((0:Nat):Int)>0)=false from rfl,cf,G,e2,ct,T,hy38,hy40,hy42,hy44,Pa (a:=y38+1) (by omega),hy46,hy48,Pa (a:=1+y44) (by omega),<-g2 K]
   rfl
  ·have e2:(y34==2)=false:=by simpa using h2
   obtain⟨c,g1,g2⟩:=Ahg (R:=R) (o:=o) hN C (us:=us) (ss:=[]) ⟨h,rl,rr,bl,bg,ll,lg,⟨by omega,by omega⟩,ug,by simp,by simp,by simp,by simp⟩ I D
   refine⟨c,g1,fun K=>?_⟩
   rw[Nu];unfold Wv
   rw[show decide (((0:Nat):Int)>0)=false from rfl,cf,G,e2,cf,<-g2 K]
   rfl
|n+1,fuel+1,k,us,hf,hk,hn,hn1,ug=>by
  obtain⟨u,k1,gu,hk1,hu⟩:=Aj5 (R:=R) (N:=N) (t:=false) (o:=o) (by omega) C (i:=us.length) (by omega) (nb:=(bs.length:Int)) (H:=(H:Int)) (by omega) (by omega) k hk
  obtain⟨c,g1,g2⟩:=Ahh (o:=o) hN C h rl rr bl bg ll lg n fuel k1 (us++[u]) (by omega) hk1 (by simp;omega) (by simp;omega) (TR (P:=fun i u=>UnitG i bs.length H u) ug gu)
  refine⟨c,g1,fun K=>?_⟩
  rw[Nu];unfold Wv
  have wn:wrap .i64 (((n+1:Nat):Int) - 1)=(n:Int):=rt (by omega)
  have c2:(ble (us.length+1) 140737488355328&&ble ((us.length+1)*216) 140737488355328)=true:=by rw[Ey,Ey];simp;omega
  have c3:take (us.length*22) (us.flatMap UnitD.av)++u.av=(us++[u]).flatMap UnitD.av:=by rw[B0 O8 _ rfl];simp
  rw[show decide (((n+1:Nat):Int)>0)=true from decide_eq_true (by omega),ct,hu,show((beq (List.length u.av) 22)&&(ble 22 22))=true from rfl,ct,c2,ct,wn,<-g2 K,<-c3,Ax1]
  rfl
def Ape{N:Nat}{l:List Int}{o:Bool}(hN:4096<=N)(L:l.length<=9223372036854775807){H:Nat}{res:List Int}{bs:List BusD}(h:1<=H/\H<=3)(rl:res.length=H)(rr:∀ x∈res,0<=x/\x<5)(bl:1<=bs.length/\bs.length<=4)(bg:∀ i (h:i<bs.length),BusG i H bs[i]):
  ∀(n fuel k:Nat)(ls:List LineD),n<fuel->k<=l.length->ls.length+n<=7->(∀ i (h:i<ls.length),LineH bs.length i H ls[i]) ->
  ∃ c,f_ c/\∀ K:LA->O R,Nv N K (bs.length:Int) (Aj l) l.length o (H:Int) res.length bs.length (Aj res) (bs.flatMap BusD.av) fuel (n:Int) (k:Int) ls.length (ls.flatMap LineD.av)=K c.av:=by
 have fin:∀(k:Nat)(ls:List LineD),k<=l.length->ls.length<=7->(∀ i (h:i<ls.length),LineH bs.length i H ls[i])->∃ c,f_ c/\∀ K:LA->O R,(Ag N (3:Int) (Aj l) l.length false o (k:Int) fun y22 y23=>Nu N K (bs.length:Int) (Aj l) l.length o (H:Int) res.length bs.length (Aj res) (bs.flatMap BusD.av) N (wrap .i64 ((1:Int)+y22)) y23 ls.length 0 (ls.flatMap LineD.av) [])=K c.av:=by
  intro k ls I ll lg
  obtain⟨y,k1,y0,y1,C,hy⟩:=nx (R:=R) (N:=N) (t:=false) (o:=o) L 3 (by omega) (by omega) k I
  obtain⟨n,hn⟩:∃ n:Nat,1+y=(n:Int):=⟨(1+y).toNat,by omega⟩
  obtain⟨c,D,G⟩:=Ahh (R:=R) (o:=o) hN L h rl rr bl bg ll lg n N k1 [] (by omega) C (by simp;omega) (by simp;omega) (by simp)
  refine⟨c,D,fun K=>?_⟩
  rw[hy,Pa (a:=1+y) (by omega),hn]
  simpa using G K
 intro n
 induction n with
|zero =>
  intro fuel k ls hf I hn lg
  obtain⟨c,D,G⟩:=fin k ls I (by omega) lg
  refine⟨c,D,fun K=>?_⟩
  obtain⟨fuel,rfl⟩:∃ f,fuel=f+1:=⟨fuel - 1,by omega⟩
  rw[Nv];unfold Ww
  rw[show decide (((0:Nat):Int)>0)=false from rfl,<-G K]
  rfl
| succ n ih =>
  intro fuel k ls hf I hn lg
  obtain⟨fuel,rfl⟩:∃ f,fuel=f+1:=⟨fuel - 1,by omega⟩
  by_cases hb1:bs.length=1
  ·obtain⟨c,D,G⟩:=fin k ls I (by omega) lg
   refine⟨c,D,fun K=>?_⟩
   rw[Nv];unfold Ww
   rw[show decide (((n+1:Nat):Int)>0)=true from decide_eq_true (by omega),show decide ((bs.length:Int)>1)=false from decide_eq_false (by omega),<-G K]
   rfl
  ·obtain⟨y26,k26,y260,y261,T,Y⟩:=nx (R:=R) (N:=N) (t:=false) (o:=o) L (bs.length:Int) (by omega) (by omega) k I
   obtain⟨y28,k28,y280,y281,hk28,hy28⟩:=nx (R:=R) (N:=N) (t:=false) (o:=o) L ((bs.length:Int) - 1) (by omega) (by omega) k26 T
   have tm:∃ tx:Int,Int.tmod (y26+1+y28) (bs.length:Int)=tx/\0<=tx/\tx<(bs.length:Int)/\y26≠tx:=by
    refine⟨_,rfl,Int.tmod_nonneg _ (by omega),A2y _ (by omega),?_⟩
    by_cases hlt:y26+1+y28<(bs.length:Int)
    ·rw[Int.tmod_eq_of_lt (by omega) hlt];omega
    ·have:Int.tmod (y26+1+y28) (bs.length:Int)=y26+1+y28 - (bs.length:Int):=by
      have e:y26+1+y28=(y26+1+y28 - (bs.length:Int))+1*(bs.length:Int):=by omega
      rw[A2x (by omega)]
      conv=>lhs;rw[e]
      rw[Int.add_mul_emod_self_right,Int.emod_eq_of_lt (by omega) (by omega)]
     rw[this];omega
   obtain⟨tx,ht,t0,t1,tne⟩:=tm
   obtain⟨x,k1,gx,C,hx⟩:=wF (R:=R) (N:=N) (t:=false) (o:=o) L (i:=ls.length) (by omega) y26 tx (H:=(H:Int)) (by omega) k28 hk28
   obtain⟨c,D,G⟩:=ih fuel k1 (ls++[x]) (by omega) C (by simp;omega) (TR (P:=fun i x=>LineH bs.length i H x) lg ⟨by rw[gx.fr,gx.tx];exact gx,by rw[gx.fr];exact⟨y260,y261⟩,by rw[gx.tx];exact⟨t0,t1⟩,by rw[gx.fr,gx.tx];exact tne⟩)
   refine⟨c,D,fun K=>?_⟩
   rw[Nv];unfold Ww LL
   have wn:wrap .i64 (((n+1:Nat):Int) - 1)=(n:Int):=rt (by omega)
   have c2:(ble (ls.length+1) 140737488355328&&ble ((ls.length+1)*120) 140737488355328)=true:=by rw[Ey,Ey];simp;omega
   have c3:take (ls.length*12) (ls.flatMap LineD.av)++x.av=(ls++[x]).flatMap LineD.av:=by rw[B0 G5 _ rfl];simp
   rw[show decide (((n+1:Nat):Int)>0)=true from decide_eq_true (by omega),show decide ((bs.length:Int)>1)=true from decide_eq_true (by omega)]
   simp only[beq_self_eq_true,cond_true]
   rw[Y,Pa (a:=(bs.length:Int) - 1) (by omega),hy28,show((bs.length:Int)==0)=false from beq_eq_false_iff_ne.2 (by omega),cf,Pa (a:=y26+1) (by omega),Pa (a:=y26+1+y28) (by omega),ht,hx,show((beq (List.length x.av) 12)&&(ble 12 12))=true from rfl,ct,c2,ct,wn,<-G K,<-c3,Ax1]
   rfl
def Ahi{N:Nat}{l:List Int}{o:Bool}(hN:4096<=N)(D:l.length<=9223372036854775807){H:Nat}{res:List Int}{bs:List BusD}(h:1<=H/\H<=3)(rl:res.length=H)(rr:∀ x∈res,0<=x/\x<5)(bl:1<=bs.length/\bs.length<=4)(bg:∀ i (h:i<bs.length),BusG i H bs[i]):
  ∀(m j fuel k:Nat)(ls:List LineD),j+1+m=bs.length->m<fuel->k<=l.length->ls.length=j->(∀ i (h:i<ls.length),LineH bs.length i H ls[i]) ->
  ∃ c,f_ c/\∀ K:LA->O R,Uw N K (Aj l) l.length o (H:Int) res.length bs.length (Aj res) (bs.flatMap BusD.av) fuel (bs.length:Int) ((j+1:Nat):Int) (k:Int) ls.length (ls.flatMap LineD.av)=K c.av
|0,j,fuel+1,k,ls,hj,_,I,G,lg=>by
  obtain⟨y,L,y0,y1,C,T⟩:=nx (R:=R) (N:=N) (t:=false) (o:=o) D 5 (by omega) (by omega) k I
  obtain⟨n,hn⟩:∃ n:Nat,y=(n:Int):=⟨y.toNat,by omega⟩
  subst hn
  obtain⟨c,Y,g2⟩:=Ape (R:=R) (o:=o) hN D h rl rr bl bg n N L ls (by omega) C (by omega) lg
  refine⟨c,Y,fun K=>?_⟩
  rw[Uw];unfold DZ
  rw[Ki (by omega),cf,T];exact g2 K
|m+1,j,fuel+1,k,ls,hj,hf,I,G,lg=>by
  obtain⟨y,L,y0,y1,C,T⟩:=nx (R:=R) (N:=N) (t:=false) (o:=o) D ((j+1:Nat):Int) (by omega) (by omega) k I
  obtain⟨x,k2,gx,hk2,hx⟩:=wF (R:=R) (N:=N) (t:=false) (o:=o) D (i:=ls.length) (by omega) y ((j+1:Nat):Int) (H:=(H:Int)) (by omega) L C
  obtain⟨c,Y,g2⟩:=Ahi (o:=o) hN D h rl rr bl bg m (j+1) fuel k2 (ls++[x]) (by omega) (by omega) hk2 (by simp[G]) (TR (P:=fun i x=>LineH bs.length i H x) lg ⟨by rw[gx.fr,gx.tx];exact gx,by rw[gx.fr];omega,by rw[gx.tx];omega,by rw[gx.fr,gx.tx];omega⟩)
  refine⟨c,Y,fun K=>?_⟩
  rw[Uw];unfold DZ
  have c2:(ble (ls.length+1) 140737488355328&&ble ((ls.length+1)*120) 140737488355328)=true:=by rw[Ey,Ey];simp;omega
  have c3:take (ls.length*12) (ls.flatMap LineD.av)++x.av=(ls++[x]).flatMap LineD.av:=by rw[B0 G5 _ rfl];simp
  rw[Jo (by omega),ct,T,hx,show((beq (List.length x.av) 12)&&(ble 12 12))=true from rfl,ct,c2,ct,Fb (by omega),<-g2 K,<-c3,Ax1]
  rfl
def Ahj{N:Nat}{l:List Int}{o:Bool}(hN:4096<=N)(L:l.length<=9223372036854775807){H:Nat}{res:List Int}(h:1<=H/\H<=3)(rl:res.length=H)(rr:∀ x∈res,0<=x/\x<5):
  ∀(n fuel k:Nat)(bs:List BusD),n<fuel->k<=l.length->bs.length+n<=4->1<=bs.length+n->(∀ i (h:i<bs.length),BusG i H bs[i]) ->
  ∃ c,f_ c/\∀ K:LA->O R,K5 N K (Aj l) l.length o res.length (Aj res) fuel (n:Int) (k:Int) (H:Int) bs.length (bs.flatMap BusD.av)=K c.av
|0,fuel+1,k,bs,_,hk,hn,hn1,bg=>by
  obtain⟨c,G,I⟩:=Ahi (R:=R) (o:=o) hN L h rl rr ⟨by omega,by omega⟩ bg (bs.length - 1) 0 N k [] (by omega) (by omega) hk rfl (by simp)
  refine⟨c,G,fun K=>?_⟩
  rw[K5];unfold Wx
  rw[show decide (((0:Nat):Int)>0)=false from rfl,cf,<-I K]
  rfl
| n+1,fuel+1,k,bs,hf,hk,hn,hn1,bg=>by
  obtain⟨B,k1,b1,b2,hk1,hB⟩:=CU (R:=R) (N:=N) (m:=H) (t:=false) (o:=o) (by omega) L 14 (by omega) (by omega) (by omega) k hk
  obtain⟨y12,T,y120,y121,C,D⟩:=nx (R:=R) (N:=N) (t:=false) (o:=o) L 2 (by omega) (by omega) k1 hk1
  have wn:wrap .i64 (((n+1:Nat):Int) - 1)=(n:Int):=rt (by omega)
  have c2:(ble (bs.length+1) 140737488355328&&ble ((bs.length+1)*48) 140737488355328)=true:=by rw[Ey,Ey];simp;omega
  have c3:∀ s:Int,take (bs.length*3) (bs.flatMap BusD.av)++[.str [98,Avw.getD bs.length 0],.imm (B.flatMap CM) H 1 false false,.int .i64 s]=(bs++[(⟨[98,Avw.getD bs.length 0],.of B false false,s⟩:BusD)]).flatMap BusD.av:=fun s=>by
   rw[B0 IV _ rfl];simp[BusD.av,Sl.av,b1]
  have go:∀(s:Int)(kk:Nat),0<=s->s<300->kk<=l.length->∃ c,f_ c/\∀ K:LA->O R,K5 N K (Aj l) l.length o res.length (Aj res) fuel (n:Int) (kk:Int) (H:Int) (bs.length+1) (take (bs.length*3) (bs.flatMap BusD.av)++[.str [98,Avw.getD bs.length 0],.imm (B.flatMap CM) H 1 false false,.int .i64 s])=K c.av:=by
   intro s kk s0 s1 hkk
   have gb:BusG bs.length H (⟨[98,Avw.getD bs.length 0],.of B false false,s⟩:BusD):=⟨rfl,b1,b2,s0,s1⟩
   obtain⟨c,G,I⟩:=Ahj (o:=o) hN L h rl rr n fuel kk (bs++[(⟨[98,Avw.getD bs.length 0],.of B false false,s⟩:BusD)]) (by omega) hkk (by simp;omega) (by simp;omega) (TR (P:=fun i x=>BusG i H x) bg gb)
   refine⟨c,G,fun K=>?_⟩
   rw[c3,<-I K,Ax1]
   rfl
  by_cases h1:y12=1
  ·have e1:(y12==1)=true:=by simpa using h1
   obtain⟨y14,k14,y140,y141,Y,hy14⟩:=nx (R:=R) (N:=N) (t:=false) (o:=o) L 200 (by omega) (by omega) T C
   obtain⟨c,G,I⟩:=go (100+y14) k14 (by omega) (by omega) Y
   refine⟨c,G,fun K=>?_⟩
   rw[K5];unfold Wx
   rw[show decide (((n+1:Nat):Int)>0)=true from decide_eq_true (by omega),ct,Rt (by omega),hB,D,e1,ct,hy14,c2,ct,wn,Pa (a:=100+y14) (by omega),Oi b1.symm,I]
  ·have e1:(y12==1)=false:=by simpa using h1
   obtain⟨c,G,I⟩:=go 0 T (by omega) (by omega) C
   refine⟨c,G,fun K=>?_⟩
   rw[K5];unfold Wx
   rw[show decide (((n+1:Nat):Int)>0)=true from decide_eq_true (by omega),ct,Rt (by omega),hB,D,e1,cf,c2,ct,wn,Oi b1.symm,I]
def zA{N:Nat}{l:List Int}{n:Nat}{t o:Bool}(hn:n=l.length)(hN:4096<=N)(k:l.length<=9223372036854775807):∃ c,f_ c/\∀ K:LA->O R,dK N (Aj l) n t o K=K c.av:=by
 subst hn
 obtain⟨y1,T,y10,y11,C,D⟩:=nx (R:=R) (N:=N) (t:=false) (o:=o) k 3 (by omega) (by omega) 0 (by omega)
 obtain⟨H,hH⟩:∃ H:Nat,1+y1=(H:Int):=⟨(1+y1).toNat,by omega⟩
 obtain⟨B,Y,b1,b2,G,hB⟩:=CU (R:=R) (N:=N) (m:=H) (t:=false) (o:=o) (by omega) k 5 (by omega) (by omega) (by omega) T C
 obtain⟨y6,k3,y60,y61,I,L⟩:=nx (R:=R) (N:=N) (t:=false) (o:=o) k 4 (by omega) (by omega) Y G
 obtain⟨m,hm⟩:∃ m:Nat,1+y6=(m:Int):=⟨(1+y6).toNat,by omega⟩
 obtain⟨c,g1,g2⟩:=Ahj (R:=R) (o:=o) hN k (H:=H) (by omega) b1 b2 m N k3 [] (by omega) I (by simp;omega) (by simp;omega) (by simp)
 refine⟨c,g1,fun K=>?_⟩
 rw[kH];unfold dJ
 rw[pN];unfold xd
 have z:Ag N 3 (Aj l) l.length false o 0=Ag (R:=R) N 3 (Aj l) l.length false o ((0:Nat):Int):=rfl
 rw[z,D,Pa (a:=1+y1) (by omega),hH,hB,L,Pa (a:=1+y6) (by omega),hm,<-g2 K,b1]
 rfl
end
end Gx.Cf
namespace Gx
open Go Go.Proofs
section
variable{R:Type}
def Apf(s:Cf.SegD):SegD:=⟨s.width,s.price⟩
def TS:Cf.Sl Cf.SegD->Sl SegD
|.nil=>.nil
|.of l t o=>.of (l.map Apf) t o
def jS:Cf.Sl Int->Sl Int
|.nil=>.nil
|.of l t o=>.of l t o
def Akf(u:Cf.UnitD):UnitD:=⟨u.name,u.bus,u.min,u.max,TS u.segs,u.noLoad,u.rampUp,u.rampDown,u.startRamp,u.stopRamp,u.upTime,u.downTime,u.startTime,u.hotCost,u.coldCost,u.hotHours,u.reserve,u.reservePrice,jS u.away,u.state,u.hours,u.output⟩
def Acw:∀ l:List Cf.SegD,(l.map Apf).flatMap SegD.av=l.flatMap Cf.SegD.av
|[]=>rfl
|a::r=>by rw[Ayc,Aye,Aye,Acw r];rfl
def Aj7(s:Cf.Sl Cf.SegD):(TS s).av 2 SegD.av=s.av 2 Cf.SegD.av:=by
 cases s with
|nil=>rfl
|of l t o=>simp only[TS,Sl.av,Cf.Sl.av,Acw,Azv]
def Aj8(s:Cf.Sl Int):(jS s).av 1 CM=s.av 1 Cf.CM:=by cases s<;>rfl
def Ar0(u:Cf.UnitD):(Akf u).av=u.av:=by
 unfold UnitD.av Cf.UnitD.av
 rw[show(Akf u).segs=TS u.segs from rfl,show(Akf u).away=jS u.away from rfl,Aj7,Aj8];rfl
def sK(s:Cf.Sl Cf.SegD):(TS s).l=s.l.map Apf:=by cases s<;>rfl
def Acx(s:Cf.Sl Int):(jS s).l=s.l:=by cases s<;>rfl
def ff(a b n:Int):Cf.Fc a b n=Hu a b n:=by rw[A0o];simp[Cf.Fc,Hu]<;>omega
def wK:∀(l:List Cf.SegD)(p:Int),l.all Cf.Ed=true->Cf.TL l=true->(∀ s∈l.head?,p<=s.price)->Ed p (l.map Apf)=true
|[],_,_,_,_=>rfl
|[a],p,k,_,C=>by
  simp[Cf.Ed,ff]at k
  have:=C a (by simp)
  simp[Ed,Apf,k,this]
|a::b::r,p,k,D,C=>by
  have I:=C a (by simp)
  simp only[Az3,Axr]at k
  simp only[Cf.TL,Axr]at D
  have L:=wK (b::r) a.price (by simp only[Az3,Axr];exact k.2) D.2 (by intro s hs;simp at hs;subst hs;have:=D.1;simp at this;exact this)
  have G:=k.1
  simp[Cf.Ed,ff]at G
  rw[Ayc,Ed,show(Apf a).price=a.price from rfl,L]
  simp[Apf,G,I]
def wL:∀(l:List Cf.SegD)(a:Int),l.all Cf.Ed=true->l.length<=100->-1000000000000<=a - 1048576*(100 - (l.length:Int))->(0<=a/\a<=1048576*(100 - (l.length:Int)))->Cf.NE a l=a+Nd (l.map Apf)
|[],a,_,_,_,_=>by simp[Cf.NE,Nd]
|s::r,a,k,C,D,G=>by
  simp only[Az3,Axr]at k
  have I:=k.1
  simp[Cf.Ed,ff,Hu]at I
  rw[Ayb]at C D G
  rw[Cf.NE,i64 (by omega),wL r (a+s.width) k.2 (by omega) (by omega) (by omega),Ayc,Nd]
  simp[Apf];omega
def sL{i:Nat}{nb H c:Int}{u:Cf.UnitD}(g:Cf.UnitG i nb H u)(hH:1<=H/\H<=c)(hc:c<=24):A8 (Akf u) c=true:=by
 have e:=g
 obtain⟨_,_,h1,h2,h3,h4,h5,h6,h7,h8,h9,C,D,G,I,L,T,Y,h17,h18,h19,h20,h21,h22,_,h24,h25,k⟩:=e
 simp only[ff]at h1 h2 h7 h8 h9 C D G I L T Y h17 h18 h19 h22 h24 k
 have hw:=wL u.segs.l 0 h4 (by omega) (by omega) (by omega)
 have hm1:=h1;have hm2:=h2
 simp only[Hu,Axr,decide_eq_true_eq]at hm1 hm2
 have hsum:Nd (Akf u).segs.l=u.max - u.min:=by
  have:Cf.NE 0 u.segs.l=wrap .i64 (u.max - u.min):=by simpa using h6
  rw[hw,i64 (by omega)]at this
  show Nd (TS u.segs).l=_
  rw[sK];omega
 have hseg:Ed (-1048576) (Akf u).segs.l=true:=by
  show Ed _ (TS u.segs).l=true
  rw[sK]
  refine wK _ _ h4 h5 fun s hs=>?_
  have hs':s∈u.segs.l:=List.mem_of_mem_head? hs
  have:=A04.1 h4 s hs'
  simp[Cf.Ed,ff,Hu]at this;omega
 have hlen:(Akf u).segs.l.length<=8:=by
  show(TS u.segs).l.length<=8
  rw[sK,Azv];omega
 have haw:MU (c - 1) (-1) (Akf u).away.l=true:=by
  show MU _ _ (jS u.away).l=true
  rw[Acx]
  cases hl:u.away.l with
  |nil=>rfl
  | cons x r =>
   have hr:r=[]:=by
    have:=h20;rw[hl]at this;simp at this;exact this
   subst hr
   have:=h21 x (by rw[hl];simp)
   simp[MU,Hu];omega
 have hst:ii (Akf u)=true:=by
  unfold ii
  show(Hu 0 24 u.upTime&&(Hu 0 24 u.downTime&&(Hu 0 24 u.startTime&&(Hu 0 24 u.hotHours&&((u.state==0||(u.state==1||u.state==2))&&(Hu 1 48 u.hours&&(!(u.state==1)||decide (u.hours<=u.startTime))))))))=true
  have hs3:(u.state==0||(u.state==1||u.state==2))=true:=by
   simp only[Hu,Axr,decide_eq_true_eq]at h22
   simp;omega
  rw[G,I,L,h17,h24,hs3]
  exact h25
 have hsB:rQ (Akf u)=true:=by
  unfold rQ;rw[hseg,hsum];simp[hlen];rfl
 have hoB:Ai5 (Akf u)=true:=by
  unfold Ai5
  show cond (u.state==2) (Hu u.min u.max u.output) (u.output==0)=true
  cases hb:(u.state==2)with
  |true=>rw[hb]at k;exact k
  |false=>rw[hb]at k;simp[Hu]at k;simp;omega
 have hmx:Hu 0 1048576 u.max=true:=by simp[Hu];omega
 have hle:decide (u.min<=u.max)=true:=by simp;omega
 have hcc:Hu 1 24 c=true:=by simp[Hu];omega
 unfold A8
 rw[hst,haw,hsB,hoB]
 show(Hu 1 24 c&&(true&&(Hu 0 1048576 u.min&&(Hu 0 1048576 u.max&&(Hu 0 1048576 u.rampUp&&(Hu 0 1048576 u.rampDown&&(Hu 0 1048576 u.reserve&&(decide (u.min<=u.max)&&(Hu u.min u.max u.startRamp&&(Hu u.min u.max u.stopRamp&&(Hu 0 1048576 u.noLoad&&(Hu 0 1048576 u.hotCost&&(Hu 0 1048576 u.coldCost&&(Hu 0 1048576 u.reservePrice&&(true&&(true&&true))))))))))))))))=true
 rw[hcc,h1,hmx,h8,h9,h18,hle,C,D,h7,T,Y,h19];rfl
def Aft{N:Nat}{X:O R}{K:LA->Int->O R}{l:List Int}{n:Nat}{t o:Bool}(hn:n=l.length)(hN:4096<=N)(C:l.length<=9223372036854775807)
  (h:∀(u:UnitD)(H:Int),1<=H->H<=3->A8 u H=true->A8 u 24=true->u.away.l.length<=1->K u.av H=X):nV N (Aj l) n t o K=X:=by
 rw[kI];unfold pf
 obtain⟨c,hc,e⟩:=Cf.zA (R:=R) (N:=N) (l:=l) (n:=n) (t:=false) (o:=o) hn hN C
 rw[show Aj l=Cf.Aj l from rfl,e]
 obtain⟨H,res,bs,ls,us,ss,ts,os,hB,_,_,rfl⟩:=hc
 obtain⟨u0,k,rfl⟩:∃ u0 k,us=u0::k:=by
  cases us with
  |nil=>have:=hB.ul;simp at this
  |cons a r=>exact⟨a,r,rfl⟩
 have g:=hB.ug 0 (by simp)
 simp only[A08]at g
 have hH:=hB.h
 have:=h (Akf u0) (H:Int) (by omega) (by omega) (sL g (by omega) (by omega)) (sL g (by omega) (by omega)) (by show(jS u0.away).l.length<=1;rw[Acx];exact g.aw)
 rw[Ar0]at this
 refine Eq.trans ?_ this
 rw[show drop 4 (Cf.uC false H res bs ls (u0::k) ss ts os).av=(Cf.Sl.of (u0::k) false false).av 22 Cf.UnitD.av::drop 5 (Cf.uC false H res bs ls (u0::k) ss ts os).av from rfl,Cf.H0]
 rw[show(Cf.Sl.of (u0::k) false false).l=u0::k from rfl,Aye,show Ac (0:Int) (u0::k).length=true from Aa (i:=0) (by simp),show ble 22 (List.length (u0.av++k.flatMap Cf.UnitD.av))=true from rfl,show take 22 (u0.av++k.flatMap Cf.UnitD.av)=u0.av from rfl]
 rw[show ∀ F:Int->O R,Aq .i64 (Cf.uC false H res bs ls (u0::k) ss ts os).av F=F (H:Int)from fun F=>Av]
 rfl
end
end Gx
namespace Gx.Uo
open Go Go.Proofs
section
variable{R:Type}{N:Nat}{X:O R}
def Ar1{hh:Int}{K:LA->O R}{u:UnitD}{x y E W:RatD}{a b e D:Rat}{o1 o2 o3 o4 o5:Bool}(C:A8 u hh=true)(G:x.is a 100)(I:y.is b 100)(hE:E.is e 100)(hW:W.is D 100)(T:(u.min:Rat)<=a)(k:fit 1000000 N):
  eS N u.av o1 x.av o2 y.av o3 E.av o4 W.av o5 K=K (bK (e*a+cU u a+(D - u.reservePrice)*b)).av:=by
 have hN:100001000<=N:=by have:=k.1;omega
 have Y:=Ce C;have hs:=Ja C;have hr:=fW C
 have qx:=G.qm;have qy:=I.qm;have qe:=hE.qm;have qw:=hW.qm
 rw[eT];unfold i8
 have m1:=J4 e a;have m2:=J4 D b
 have m3:=Oc (e*a) (D*b)
 simp only[b3,ct,Ys]
 rw[Aow hE G (k.le (by omega)),Aow hW I (k.le (by omega)),Ams (Ly (m:=210) (by omega)) (Ly (m:=210) (by omega)) (k.le (by omega)),c3,ct,b3,ct,fG,ct,MT,Ys,yg G (IR C) hs.1 (by omega) (k.le (by omega)) (by omega),Avd,Yt (by omega) (by omega)]
 have ip:=qi (v:=u.reservePrice) (by omega)
 have m4:=J4 (u.reservePrice:Rat) b
 have im:=qi (v:=u.min) (by omega)
 have m5:=Od a (u.min:Rat)
 have ec:YG (a - (u.min:Rat)) u.segs.l=Ew (a - (u.min:Rat)) u.segs.l:=Ace (fun s L=>by have:=n9 hs.2.1 s L;omega) (by grind)
 have m6:=fT (A:=110) u.segs.l (a - (u.min:Rat)) (IR C) (by omega) (by omega)
 have m7:u.segs.l.length*(110+3*u.segs.l.length+31)<=8*(110+24+31):=Azk hs.1 (by omega)
 have m8:=Oc (Ew (a - (u.min:Rat)) u.segs.l) ((u.reservePrice:Rat)*b)
 rw[ec,Aow (Ly (m:=2) ip) I (k.le (by omega)),Ams (Ly (m:=1400) (by omega)) (Ly (m:=210) (by omega)) (k.le (by omega)),Ajm (Ly (m:=500) (by omega)) (Ly (m:=2000) (by omega)) (k.le (by omega)),c3,ct,b3,ct,Ys]
 unfold cU rk
 congr 3
 grind
def Apg{hh:Int}{u:UnitD}{a b e k:Rat}(C:A8 u hh=true)(D:qm a<=100)(G:qm b<=100)(hE:qm e<=101)(hW:qm k<=101):qm (e*a+cU u a+(k - u.reservePrice)*b)<=3000:=by
 have I:=Ce C;have hs:=Ja C;have hr:=fW C
 have ip:=qi (v:=u.reservePrice) (by omega)
 have im:=qi (v:=u.min) (by omega)
 have m5:=Od a (u.min:Rat)
 have m6:=fT (A:=110) u.segs.l (a - (u.min:Rat)) (IR C) (by omega) (by omega)
 have m7:u.segs.l.length*(110+3*u.segs.l.length+31)<=8*(110+24+31):=Azk hs.1 (by omega)
 have m1:=J4 e a
 have m2:=Od k (u.reservePrice:Rat)
 have m3:=J4 (k - (u.reservePrice:Rat)) b
 have m4:=Oc (e*a) (cU u a)
 have m8:=Oc (e*a+cU u a) ((k - (u.reservePrice:Rat))*b)
 have m9:qm (cU u a)=qm (Ew (a - (u.min:Rat)) u.segs.l):=by unfold cU rk;rw[yf]
 omega
def Ahk{K:Bool->O R}:W1 N K=K true:=by rw[Qh];rfl
end
end Gx.Uo
namespace Gx.Uo
open Go Go.Proofs
noncomputable section
variable{R:Type}{N:Nat}{X:O R}
def At0(fi:Int)(b:LA)(h f:Nat)(Ex:LA->LA->O R):Nat->Int->LA->LA->O R
|0=>fun _ _ _=>none
|n+1=>fun w i j=>cond (decide (w>fi)) (cond (Ac (wrap .i64 (w - 1)) h) (Aq .i64 (i.drop (0+(((wrap .i64 (w - 1)).toNat)*1))) fun br=>cond (Ac w h) (Aq .i64 (i.drop (0+(w.toNat*1))) fun bs=>Aq .i64 (b.drop 6) fun bt=>cond (Ac (wrap .i64 (w - 1)) f) (Aq .i64 (j.drop (0+(((wrap .i64 (w - 1)).toNat)*1))) fun bu=>cond (Ac w f) (Aq .i64 (j.drop (0+(w.toNat*1))) fun bv=>Aq .i64 (b.drop 7) fun bw=>cond (Ac (wrap .i64 (w - 1)) h) (cond ((beq 1 1)&&((ble ((0+(((wrap .i64 (w - 1)).toNat)*1))+1) i.length)&&(!false))) (cond (Ac (wrap .i64 (w - 1)) f) (cond ((beq 1 1)&&((ble ((0+(((wrap .i64 (w - 1)).toNat)*1))+1) j.length)&&(!false))) (At0 fi b h f Ex n (wrap .i64 (w - 1)) (i.set (0+(((wrap .i64 (w - 1)).toNat)*1)) (.int .i64 (Mj br (wrap .i64 (bs - bt))))) (j.set (0+(((wrap .i64 (w - 1)).toNat)*1)) (.int .i64 (Ca bu (wrap .i64 (bv+bw)))))) none) none) none) none) none) none) none) none) (Ex i j)
section
variable(hs fi la:Int)(b:LA)(g:LA)(f:Nat)(k5:Int->Int->Nat->Nat->Nat->LA->LA->LA->O R)
def Aun(N:Nat)(x:Int)(q r s:Nat)(t u v:LA)(ac az:Int):O R:=(Bg N x fun ba=>Bg N az fun bb=>cond (Ac ac q) (cond ((beq 1 1)&&((ble ((0+(ac.toNat*1))+1) t.length)&&(!false))) (cond (Ac ac r) (cond ((beq ba.length 3)&&((ble ((0+(ac.toNat*3))+3) u.length)&&(!false))) (cond (Ac ac s) (cond ((beq bb.length 3)&&((ble ((0+(ac.toNat*3))+3) v.length)&&(!false))) (k5 x (wrap .i64 (ac+1)) q r s (t.set (0+(ac.toNat*1)) (.int .i64 2)) (setCells u (0+(ac.toNat*3)) ba) (setCells v (0+(ac.toNat*3)) bb)) none) none) none) none) none) none)
def Aqf(N:Nat)(x:Int)(q r s:Nat)(t u v:LA)(aj aw:Int):O R:=(cond (decide ((wrap .i64 (hs+aj))<(f:Int))) (cond (Ac (wrap .i64 (hs+aj)) f) (Aq .i64 (g.drop (((wrap .i64 (hs+aj)).toNat)*1)) fun bs=>Aq .i64 (b.drop 16) fun bt=>Mb N bs (wrap .i64 ((Ca bt (wrap .i64 (aw - x)))+1)) fun bu=>Aun k5 N x q r s t u v aj bu) none) (Aun k5 N x q r s t u v aj 0))
def Auo(N:Nat)(q r s:Nat)(t u v:LA)(ao ae x:Int):O R:=(Aq .i64 (b.drop 3) fun bc=>Aq .i64 (b.drop 6) fun bd=>cond ((ae==fi)==true) (cond ((ae==0)==true) (Aq .i64 (b.drop 19) fun bv=>cond (cond true (!(cond true (bv==2) false)) false) (Aq .i64 (b.drop 8) fun bw=>Aqf hs b g f k5 N x q r s t u v ae bw) (Aqf hs b g f k5 N x q r s t u v ae (Ca bc (wrap .i64 (ao+bd))))) (Aq .i64 (b.drop 8) fun bx=>Aqf hs b g f k5 N x q r s t u v ae bx)) (Aqf hs b g f k5 N x q r s t u v ae (Ca bc (wrap .i64 (ao+bd)))))
def Aup(N:Nat)(q r s:Nat)(t u v:LA)(ap ak an ax:Int):O R:=(cond (decide (ak<(f:Int))) (cond (Ac ak f) (Aq .i64 (g.drop (ak.toNat*1)) fun bz=>Mb N bz (wrap .i64 ((wrap .i64 (ax - an))+1)) fun ca=>Auo hs fi b g f k5 N q r s t u v ap ak (wrap .i64 (an+ca))) none) (Auo hs fi b g f k5 N q r s t u v ap ak an))
def Ar2(N:Nat)(r0:LA->Bool->O R)(m h:Nat)(o p:LA)(aq af:Int)(q r s:Nat)(t u v:LA):O R:=(cond (decide (af<=la)) (cond (Ac af m) (Aq .i64 (o.drop (0+(af.toNat*1))) fun be=>cond (Ac af h) (Aq .i64 (p.drop (0+(af.toNat*1))) fun bf=>cond (decide (af>fi)) (Aq .i64 (b.drop 7) fun cb=>Aq .i64 (b.drop 6) fun cc=>Aup hs fi b g f k5 N q r s t u v aq af (Mj be (wrap .i64 (aq - cb))) (Ca bf (wrap .i64 (aq+cc)))) (Aup hs fi b g f k5 N q r s t u v aq af be bf)) none) none) (r0 [.imm (t.take (q*1)) q 1 false false,.imm (u.take (r*3)) r 3 false false,.imm (v.take (s*3)) s 3 false false] true))
end
def Asp(hs fi la:Int)(b g:LA)(f N:Nat)(r0:LA->Bool->O R)(m h:Nat)(o p:LA):Nat->Int->Int->Nat->Nat->Nat->LA->LA->LA->O R
|0=>fun _ _ _ _ _ _ _ _=>none
|n+1=>Ar2 hs fi la b g f (Asp hs fi la b g f N r0 m h o p n) N r0 m h o p
def fq(u:Un)(j i:Nat)(e:Int):Nat->Int×Int
|0=>(Bs u j i,e)
|k+1=>(Wj (Bs u j (i - (k+1))) ((fq u j i e k).1 - u.ru),F4 (D2 u j (i - (k+1))) ((fq u j i e k).2+u.rd))
section
variable{u:UnitD}{hh:Int}
def Afu{j i:Nat}{e:Int}(ko:(un u).Ok)(C:Bs (un u) j i<=e)(D:e<=D2 (un u) j i):∀ k,k<=i->Bs (un u) j (i - k)<=(fq (un u) j i e k).1/\(fq (un u) j i e k).1<=(fq (un u) j i e k).2/\(fq (un u) j i e k).2<=D2 (un u) j (i - k)
|0,_=>⟨A1f _,C,D⟩
| k+1,I=>by
  have G:=Afu ko C D k (by omega)
  have r0:=ko.ru0.1;have r1:=ko.rd0.1
  have e1:i - k=i - (k+1)+1:=by omega
  rw[e1]at G
  have st:=D6 (a:=fun _=>0) (b:=fun _=>0) (fi:=j) ko (i - (k+1))
  have l1:=st.l1
  have a1:Bs (un u) j (i - (k+1)) - (un u).rd<=Bs (un u) j (i - (k+1)+1):=by
   show _<=Wj _ _;unfold Wj;split<;>omega
  have a2:D2 (un u) j (i - (k+1)+1)<=D2 (un u) j (i - (k+1))+(un u).ru:=by
   show F4 _ _<=_;unfold F4;split<;>omega
  show _<=Wj _ _/\Wj _ _<=F4 _ _/\F4 _ _<=_
  unfold Wj F4
  split<;>split<;>omega
def Aqg{H j i:Nat}{e:Int}{Ex:LA->LA->O R}(C:A8 u hh=true)(I:Bs (un u) j i<=e)(L:e<=D2 (un u) j i)(hH:H<=1000)(T:j+i<H)
  (g:∀ lo hi,lo.length=H->hi.length=H->(∀ t,t<=i->lo[j+t]?=some (fq (un u) j i e (i - t)).1/\hi[j+t]?=some (fq (un u) j i e (i - t)).2)->Ex (Aj lo) (Aj hi)=X):∀(t fuel:Nat)(lo hi:List Int),t<=i->t<fuel->lo.length=H->hi.length=H->(∀ t',t'<=i->lo[j+t']?=some (if t<=t' then(fq (un u) j i e (i - t')).1 else Bs (un u) j t')/\hi[j+t']?=some (if t<=t' then(fq (un u) j i e (i - t')).2 else D2 (un u) j t')) ->
  At0 (j:Int) u.av H H Ex fuel ((j+t:Nat):Int) (Aj lo) (Aj hi)=X
|0,fuel+1,lo,hi,_,_,l1,l2,k=>by
  rw[At0];dsimp only
  rw[decide_eq_false (show ¬ ((j+0:Nat):Int)>(j:Int) by omega),cf]
  exact g lo hi l1 l2 fun t Y=>by have:=k t Y;rw[if_pos (A07 _),if_pos (A07 _)]at this;exact this
| t+1,fuel+1,lo,hi,hti,hfu,l1,l2,k=>by
  have ko:=Rr C
  have hmn:=Ce C
  have hR:=(Db C).2.1
  have v2:=hR.2.2.1;have v3:=hR.2.2.2.1
  have p0:=k t (by omega);have p1:=k (t+1) (by omega)
  rw[if_neg (by omega),if_neg (by omega)]at p0
  rw[if_pos (Axo _),if_pos (Axo _)]at p1
  have ok1:=Afu ko I L (i - (t+1)) (by omega)
  have st:=D6 (a:=fun _=>0) (b:=fun _=>0) (fi:=j) ko (i - (i - (t+1)))
  have b0:u.min<=Bs (un u) j (i - (i - (t+1))):=st.l0
  have b2:D2 (un u) j (i - (i - (t+1)))<=u.max:=st.l2
  have w1:wrap .i64 (((j+(t+1):Nat):Int) - 1)=((j+t:Nat):Int):=by rw[Ar _ (by omega)];omega
  rw[At0];dsimp only
  rw[decide_eq_true (show((j+(t+1):Nat):Int)>(j:Int) by omega),ct,w1,Aa (by omega),ct,gI p0.1,Aa (by omega),ct,gI p1.1,u6,ct,gI p0.2,ct,gI p1.2,u7,ct,Ang (by omega),ct,ct,Ang (by omega),ct,uA,uA,Ar _ (by omega),Ar _ (by omega),NA,Le]
  refine Aqg C I L hH T g t fuel _ _ (by omega) (by omega) (by simp[l1]) (by simp[l2]) fun t' G=>?_
  have ei:i - t=i - (t+1)+1:=by omega
  have en:fq (un u) j i e (i - t)=(Wj (Bs (un u) j t) ((fq (un u) j i e (i - (t+1))).1 - u.rampUp),F4 (D2 (un u) j t) ((fq (un u) j i e (i - (t+1))).2+u.rampDown)):=by
   rw[ei]
   show(Wj (Bs (un u) j (i - (i - (t+1)+1))) _,F4 (D2 (un u) j (i - (i - (t+1)+1))) _)=_
   rw[show i - (i - (t+1)+1)=t by omega];rfl
  by_cases h:t'=t
  ·subst h
   rw[if_pos (Axo _),if_pos (Axo _),en]
   exact⟨Ayo (by omega),Ayo (by omega)⟩
  ·rw[Ayg (by omega),Ayg (by omega)]
   have p:=k t' G
   by_cases D:t<=t'
   ·rw[if_pos D,if_pos D];rw[if_pos (by omega),if_pos (by omega)]at p;exact p
   ·rw[if_neg D,if_neg D];rw[if_neg (by omega),if_neg (by omega)]at p;exact p
end
end
end Gx.Uo
namespace Gx.Uo
open Go Go.Proofs
noncomputable section
variable{R:Type}{N:Nat}{X:O R}
section
variable{u:UnitD}{hh:Int}{raw:List Int}{k5:Int->Int->Nat->Nat->Nat->LA->LA->LA->O R}{H:Nat}
def Nums(l:List RatD):Prop:=∀ d∈l,∃ q,d.is q 2
def Nums.set{l:List RatD}{i:Nat}{d:RatD}{q:Rat}(h:Nums l)(k:d.is q 2):Nums (l.set i d):=fun e C=>by
 rcases A23 C with D|rfl
 ·exact h e D
 ·exact⟨q,k⟩
def Aqh{s:Nat}{x z:Int}{St:List Int}{En Re:List RatD}(C:-10000000<=x/\x<=10000000)(D:-10000000<=z/\z<=10000000)(hN:4000<=N)(G:St.length=H)(I:En.length=H)(L:Re.length=H)(hs:s<H)(hH:H<=1000)
  (k:∀ d e:RatD,d.is (x:Rat) 2->e.is (z:Rat) 2->k5 x ((s:Int)+1) H H H (Aj (St.set s 2)) ((En.set s d).flatMap RatD.av) ((Re.set s e).flatMap RatD.av)=X):Aun k5 N x H H H (Aj St) (En.flatMap RatD.av) (Re.flatMap RatD.av) (s:Int) z=X:=by
 unfold Aun
 rw[Yt (by omega) hN,Yt (by omega) hN,Aa hs,ct,Ang (by omega),ct,ct]
 rw[Axm,Ax0,Xb,Xb,show((beq (List.length (bK (x:Rat)).av) 3)&&((ble (s*3+3) (En.length*3))&&(!false)))=true by rw[show ble (s*3+3) (En.length*3)=true by rw[Ays];omega];rfl,ct,ct,show((beq (List.length (bK (z:Rat)).av) 3)&&((ble (s*3+3) (Re.length*3))&&(!false)))=true by rw[show ble (s*3+3) (Re.length*3)=true by rw[Ays];omega];rfl,ct,Ag8 (by omega),Ag8 (by omega),Ar _ (by omega),Ax0,Ax4,show(Aj St).set s (.int .i64 2)=Aj (St.set s 2) by unfold Aj;rw[A11]]
 exact k _ _ (Ajn (by omega)) (Ajn (by omega))
def Aqi{s:Nat}{x top:Int}{St:List Int}{En Re:List RatD}(L:A8 u hh=true)(Y:0<=x/\x<=1048576)(ht:x<=top/\top<=10000000)(hN:4000<=N)(C:St.length=H)(D:En.length=H)(G:Re.length=H)(hs:s<H)(hH:H<=1000)(I:raw.length<=1000000000000)
  (k:∀(z:Int)(d e:RatD),d.is (x:Rat) 2->e.is (z:Rat) 2->k5 x ((s:Int)+1) H H H (Aj (St.set s 2)) ((En.set s d).flatMap RatD.av) ((Re.set s e).flatMap RatD.av)=X):Aqf (H:Int) u.av (Aj raw) raw.length k5 N x H H H (Aj St) (En.flatMap RatD.av) (Re.flatMap RatD.av) (s:Int) top=X:=by
 have v4:=(Db L).2.1.2.2.2.2.1
 have T:wrap .i64 ((H:Int)+(s:Int))=((H+s:Nat):Int):=by rw[Ar _ (by omega)];omega
 unfold Aqf
 rw[T]
 by_cases h:H+s<raw.length
 ·rw[Jo h,ct,Aa h,ct,Et h,Asg,Le,Ar (top - x) (by omega)]
  have m1:0<=F4 u.reserve (top - x)/\F4 u.reserve (top - x)<=1048576:=by unfold F4;split<;>omega
  rw[Ar _ (by omega),Al3 (by omega) (by omega)]
  have m2:=fI raw[H+s] (show(0:Int)<F4 u.reserve (top - x)+1 by omega)
  exact Aqh (by omega) (by omega) hN C D G hs hH (k _)
 ·rw[Ki (by omega),cf]
  exact Aqh (by omega) (by omega) hN C D G hs hH (k _)
def Aqj{j s:Nat}{v x:Int}{St:List Int}{En Re:List RatD}(D:A8 u hh=true)(I:0<=x/\x<=1048576)(hvv:0<=v/\v<=1048576)(t0:s=j->Kb (un u) j=false->x<=u.startRamp)(t1:(s=j->Kb (un u) j=true)->x<=F4 u.max (v+u.rampUp))(hN:4000<=N)(L:St.length=H)(T:En.length=H)(Y:Re.length=H)(hs:s<H)(hH:H<=1000)(C:raw.length<=1000000000000)
  (k:∀(z:Int)(d e:RatD),d.is (x:Rat) 2->e.is (z:Rat) 2->k5 x ((s:Int)+1) H H H (Aj (St.set s 2)) ((En.set s d).flatMap RatD.av) ((Re.set s e).flatMap RatD.av)=X):Auo (H:Int) (j:Int) u.av (Aj raw) raw.length k5 N H H H (Aj St) (En.flatMap RatD.av) (Re.flatMap RatD.av) v (s:Int) x=X:=by
 have hR:=(Db D).2.1
 have v1:=hR.2.1;have v2:=hR.2.2.1;have v6:=hR.2.2.2.2.2.1
 have A:x<=u.startRamp->Aqf (H:Int) u.av (Aj raw) raw.length k5 N x H H H (Aj St) (En.flatMap RatD.av) (Re.flatMap RatD.av) (s:Int) u.startRamp=X:=fun h=>Aqi D I ⟨h,by omega⟩ hN L T Y hs hH C k
 have B:x<=F4 u.max (v+u.rampUp)->Aqf (H:Int) u.av (Aj raw) raw.length k5 N x H H H (Aj St) (En.flatMap RatD.av) (Re.flatMap RatD.av) (s:Int) (F4 u.max (v+u.rampUp))=X:=fun h=>Aqi D I ⟨h,by unfold F4;split<;>omega⟩ hN L T Y hs hH C k
 unfold Auo
 rw[u3,u6,u8,Aq6,Ar (v+u.rampUp) (by omega),Le]
 by_cases e:s=j
 ·subst e
  rw[show(((s:Int)==(s:Int))==true)=true by simp,ct]
  by_cases G:s=0
  ·subst G
   rw[show((((0:Nat):Int)==0)==true)=true from rfl,ct]
   cases hc:(u.state==2)with
   |true =>
    rw[show(cond true (!(cond true true false)) false)=false from rfl,cf]
    exact B (t1 fun _=>by unfold Kb;show(true&&(u.state==2))=true;rw[hc];rfl)
   |false =>
    rw[show(cond true (!(cond true false false)) false)=true from rfl,ct]
    exact A (t0 rfl (by unfold Kb;show(true&&(u.state==2))=false;rw[hc];rfl))
  ·rw[show(((s:Int)==0)==true)=false by simp;exact G,cf]
   exact A (t0 rfl (by unfold Kb;rw[show(s==0)=false by simp[G]];rfl))
 ·rw[show(((s:Int)==(j:Int))==true)=false by simp;omega,cf]
  exact B (t1 fun h=>absurd h e)
def Aqk{j s:Nat}{v p q:Int}{St:List Int}{En Re:List RatD}(G:A8 u hh=true)(Y:0<=p/\p<=q/\q<=1048576)(D:0<=v/\v<=1048576)(t0:s=j->Kb (un u) j=false->q<=u.startRamp)(t1:(s=j->Kb (un u) j=true)->q<=F4 u.max (v+u.rampUp))(hN:4000<=N)(I:St.length=H)(L:En.length=H)(T:Re.length=H)(hs:s<H)(hH:H<=1000)(C:raw.length<=1000000000000)
  (k:∀(x z:Int)(d e:RatD),p<=x->x<=q->d.is (x:Rat) 2->e.is (z:Rat) 2->k5 x ((s:Int)+1) H H H (Aj (St.set s 2)) ((En.set s d).flatMap RatD.av) ((Re.set s e).flatMap RatD.av)=X):Aup (H:Int) (j:Int) u.av (Aj raw) raw.length k5 N H H H (Aj St) (En.flatMap RatD.av) (Re.flatMap RatD.av) v (s:Int) p q=X:=by
 unfold Aup
 by_cases h:s<raw.length
 ·rw[Jo h,ct,Aa h,ct,Et h,Ar (q - p) (by omega),Ar (q - p+1) (by omega),Al3 (by omega) (by omega)]
  have m2:=fI raw[s] (show(0:Int)<q - p+1 by omega)
  rw[Ar _ (by omega)]
  exact Aqj G (by omega) D (fun e c=>by have:=t0 e c;omega) (fun c=>by have:=t1 c;omega) hN I L T hs hH C fun z d e=>k _ z d e (by omega) (by omega)
 ·rw[Ki (by omega),cf]
  exact Aqj G (by omega) D (fun e c=>by have:=t0 e c;omega) (fun c=>by have:=t1 c;omega) hN I L T hs hH C fun z d e=>k _ z d e (by omega) (by omega)
def Aql{r0:LA->Bool->O R}{j i:Nat}{e:Int}{lo hi:List Int}(D:A8 u hh=true)(x1:Bs (un u) j i<=e)(x2:e<=D2 (un u) j i)(hH:H<=1000)(hj:j+i<H)(hN:4000<=N)(C:raw.length<=1000000000000)(hl:∀ t,t<=i->lo[j+t]?=some (fq (un u) j i e (i - t)).1/\hi[j+t]?=some (fq (un u) j i e (i - t)).2)
  (k:∀(St:List Int)(En Re:List RatD),St.length=H->En.length=H->Re.length=H->Nums En->Nums Re->r0 (jI St En Re) true=X):∀(m t fuel:Nat)(v:Int)(St:List Int)(En Re:List RatD),t+m=i+1->m<fuel->(0<=v/\v<=1048576)->(t=0->v=u.output)->(∀ t',t=t'+1->(fq (un u) j i e (i - t')).1<=v/\v<=(fq (un u) j i e (i - t')).2)->St.length=H->En.length=H->Re.length=H->Nums En->Nums Re ->
  Asp (H:Int) (j:Int) ((j+i:Nat):Int) u.av (Aj raw) raw.length N r0 H H (Aj lo) (Aj hi) fuel v ((j+t:Nat):Int) H H H (Aj St) (En.flatMap RatD.av) (Re.flatMap RatD.av)=X
|0,t,fuel+1,v,St,En,Re,hm,_,_,_,_,G,I,L,n2,n3=>by
  rw[Asp];unfold Ar2
  rw[decide_eq_false (show ¬ ((j+t:Nat):Int)<=((j+i:Nat):Int) by omega),cf]
  have t1:(Aj St).take (H*1)=Aj St:=Axl (by rw[Lz];omega)
  have t2:(En.flatMap RatD.av).take (H*3)=En.flatMap RatD.av:=Axl (by rw[Xb];omega)
  have t3:(Re.flatMap RatD.av).take (H*3)=Re.flatMap RatD.av:=Axl (by rw[Xb];omega)
  rw[t1,t2,t3]
  have:=k St En Re G I L n2 n3
  unfold jI at this;rw[G,I,L]at this;exact this
| m+1,t,fuel+1,v,St,En,Re,hm,hfu,T,hv0,hv1,G,I,L,n2,n3=>by
  have ko:=Rr D
  have hmn:=Ce D
  have hR:=(Db D).2.1
  have v1:=hR.2.1;have v2:=hR.2.2.1;have v3:=hR.2.2.2.1
  have ht:t<=i:=by omega
  have p:=hl t ht
  have ok:=Afu ko x1 x2 (i - t) (by omega)
  rw[show i - (i - t)=t by omega]at ok
  have st:=D6 (a:=fun _=>0) (b:=fun _=>0) (fi:=j) ko t
  have b0:u.min<=Bs (un u) j t:=st.l0
  have b2:D2 (un u) j t<=u.max:=st.l2
  have next:∀(x z:Int)(d e':RatD),(fq (un u) j i e (i - t)).1<=x->x<=(fq (un u) j i e (i - t)).2->d.is (x:Rat) 2->e'.is (z:Rat) 2->Asp (H:Int) (j:Int) ((j+i:Nat):Int) u.av (Aj raw) raw.length N r0 H H (Aj lo) (Aj hi) fuel x (((j+t:Nat):Int)+1) H H H (Aj (St.set (j+t) 2)) ((En.set (j+t) d).flatMap RatD.av) ((Re.set (j+t) e').flatMap RatD.av)=X:=fun x z d e' Y q2 hd he=>by
   rw[show((j+t:Nat):Int)+1=((j+(t+1):Nat):Int) by omega]
   have hv2:∀ t',t+1=t'+1->(fq (un u) j i e (i - t')).1<=x/\x<=(fq (un u) j i e (i - t')).2:=fun t' ht'=>by
    have:t'=t:=by omega
    subst this;exact⟨Y,q2⟩
   exact Aql D x1 x2 hH hj hN C hl k m (t+1) fuel x _ _ _ (by omega) (by omega) (by omega) (by omega) hv2 (by simp[G]) (by simp[I]) (by simp[L]) (n2.set hd) (n3.set he)
  rw[Asp];unfold Ar2
  have hs:j+t<H:=by omega
  have ll:=(Axw.1 p.1).1
  rw[decide_eq_true (show((j+t:Nat):Int)<=((j+i:Nat):Int) by omega),ct,Aa hs,ct,gI p.1,ct,gI p.2]
  cases t with
  | zero =>
   rw[decide_eq_false (show ¬ ((j+0:Nat):Int)>(j:Int) by omega),cf]
   have ev:=hv0 rfl
   refine Aqk D (by omega) T (fun _ hc=>?_) (fun hc=>?_) hN G I L hs hH C fun x z d e' Y q2=>next x z d e' Y q2
   ·have:=ok.2.2
    unfold D2 at this;rw[if_neg (by rw[hc];simp)]at this;exact this
   ·have:=ok.2.2
    unfold D2 at this;rw[if_pos (hc rfl)]at this
    rw[ev];exact this
  | succ t0 =>
   obtain⟨c1,c2⟩:=hv1 t0 rfl
   have ei:i - t0=i - (t0+1)+1:=by omega
   have en:fq (un u) j i e (i - t0)=(Wj (Bs (un u) j t0) ((fq (un u) j i e (i - (t0+1))).1 - u.rampUp),F4 (D2 (un u) j t0) ((fq (un u) j i e (i - (t0+1))).2+u.rampDown)):=by
    rw[ei]
    show(Wj (Bs (un u) j (i - (i - (t0+1)+1))) _,F4 (D2 (un u) j (i - (i - (t0+1)+1))) _)=_
    rw[show i - (i - (t0+1)+1)=t0 by omega];rfl
   rw[en]at c1 c2
   have c1:(fq (un u) j i e (i - (t0+1))).1 - u.rampUp<=v:=by revert c1;show Wj _ _<=v->_;unfold Wj;split<;>omega
   have c2:v<=(fq (un u) j i e (i - (t0+1))).2+u.rampDown:=by revert c2;show v<=F4 _ _->_;unfold F4;split<;>omega
   rw[decide_eq_true (show((j+(t0+1):Nat):Int)>(j:Int) by omega),ct,u7,u6,Ar (v - u.rampDown) (by omega),Ar (v+u.rampUp) (by omega),NA,Le]
   generalize (fq (un u) j i e (i - (t0+1))).1=P at *
   generalize (fq (un u) j i e (i - (t0+1))).2=Q at *
   have m1:P<=Wj P (v - u.rampDown)/\Wj P (v - u.rampDown)<=F4 Q (v+u.rampUp)/\F4 Q (v+u.rampUp)<=Q/\F4 Q (v+u.rampUp)<=v+u.rampUp:=by
    unfold Wj F4;split<;>split<;>omega
   refine Aqk D (by omega) T (fun e _=>by omega) (fun _=>?_) hN G I L hs hH C fun x z d e' Y q2=>next x z d e' (by omega) (by omega)
   unfold F4 at m1 ⊢;split<;>split at m1<;>omega
end
end
end Gx.Uo
namespace Gx.Uo
open Go Go.Proofs
noncomputable section
variable{R:Type}{N:Nat}{X:O R}
section
variable{r0:LA->Bool->O R}{a c d:Int}{g:Bool}{b:LA}
def Anu(a:Int)(z:Nat):Bool:=(decide (0<=a))&&((decide (a<=a))&&((decide (a<=140737488355328))&&(decide ((a*(z:Int))<=140737488355328))))
def Afv{H z:Nat}(hH:H<=1000)(k:z<=1000):Anu (H:Int) z=true:=by
 unfold Anu
 have:H*z<=1000*1000:=Azk hH k
 have:((H*z:Nat):Int)<=140737488355328:=by omega
 rw[Int.natCast_mul]at this
 rw[decide_eq_true (show(0:Int)<=(H:Int) by omega),decide_eq_true (show(H:Int)<=(H:Int) by omega),decide_eq_true (show(H:Int)<=140737488355328 by omega),decide_eq_true this];rfl
end
section
variable{r0:LA->Bool->O R}{u:UnitD}{hh:Int}{g:Bool}
def bM(H:Nat):(List.flatten (replicate H ([.bool false,.nsl,.nsl]:LA)))=(replicate H Ajl).flatMap RatD.av:=by rw[List.flatMap_def,A4i];rfl
end
end
end Gx.Uo
namespace Gx.Uo
open Go Go.Proofs
noncomputable section
variable{R:Type}{N:Nat}{K:Bool->O R}
def Pq(A:List RatD)(h:Nat):Rat:=((A[h]?).map RatD.q).getD 0
end
end Gx.Uo
namespace Gx
open Go Go.Proofs
set_option maxRecDepth 100000
noncomputable section
variable{R:Type}(N:Nat)
def jT(N:Nat)(c:LA)(a:Nat)(d e:Bool)(f:LA)(b:Nat)(g h:Bool)(r0:Bool->O R):O R:=(cond ((decide ((a:Int)<=200))==true) (r0 (cond true (decide ((b:Int)<=200)) false)) (r0 false))
def sM:=(Ai (@jT R)).1
def fg:@sM R=@jT R:=(Ai _).2
def Afw:=B9 N 11 [] Eh (fun
|[.imm c a 1 d e,.imm f b 1 g h],[]=>some fun _ k=>sM N c a d e f b g h (Cc k)
| _,_=>none) fun _ _=>by split;intro R F;dsimp only;rw[fg];kernel_rfl;trivial
def Pb(r0:Nat->LA->O R)(c:LA)(a:Nat)(f g:Bool)(d b:Int)(k0:Nat->Int->LA->O R)(h:Nat)(i:Int)(j:LA):O R:=(cond (decide (i<d)) (cond (decide (i<(a:Int))) (cond (Ac i a) (Aq .i64 (c.drop (i.toNat*1)) fun o=>Mb N o 80 fun p=>iY N (wrap .i64 (b+p)) 2 fun l=>cond ((beq l.length 3)&&(ble 3 3)) (cond ((ble (h+1) 140737488355328)&&(ble ((h+1)*56) 140737488355328)) (k0 (h+1) (wrap .i64 (i+1)) ((j.take (h*3))++((setCells [.bool false,.nsl,.nsl] 0 l).take 3))) none) none) none) (iY N b 2 fun m=>cond ((beq m.length 3)&&(ble 3 3)) (cond ((ble (h+1) 140737488355328)&&(ble ((h+1)*56) 140737488355328)) (k0 (h+1) (wrap .i64 (i+1)) ((j.take (h*3))++((setCells [.bool false,.nsl,.nsl] 0 m).take 3))) none) none)) (r0 h j))
def E5(r0:Nat->LA->O R)(c:LA)(a:Nat)(f g:Bool)(d b:Int):Nat->Nat->Int->LA->O R
|0=>fun _ _ _=>none
|n+1=>Pb N r0 c a f g d b (E5 r0 c a f g d b n)
def Wf(N:Nat)(r0:Nat->LA->O R)(q0:Nat->Int->LA->O R)(c:LA)(a:Nat)(f g:Bool)(d b:Int):O R:=(q0 0 0 [])
def Pd:=(Ai fun N c a f g d b r0=>Wf (R:=R) N r0 (E5 N r0 c a f g d b N) c a f g d b).1
def I_(c a f g d b r0):(@Pd R N c a f g d b r0)=(Wf N r0 (E5 N r0 c a f g d b N) c a f g d b):=by rw[Pd,(Ai _).2]
def PF:Hints:={H:=hK 2 (hS (hK 1 (hS (hP [0,1,2,7,8] hL) hL)) hL),nils:=[(6,3),(7,3)],modes:=[(2,3)]}
def TT:Ru:=[RY N,Alu N]
def mq(F:KF R):=J7 Tryz.f13 PF (TT N) [] N F
def Ql(F:KF R):Nat->LA->O R:=fun q r=>F (A6q 0 q) (hq [bQ 3 r])
def mt(c:LA)(a:Nat)(f g:Bool)(d b:Int)(K:St->O R):=fun h i j=>K ⟨[(0,.imm c a 1 f g),(1,iv d),(2,iv b),(7,A6q 0 h),(8,iv i)],hq [bQ 3 j]⟩
def aZ(F:KF R)(c a f g d b):∀ n,mt c a f g d b (Au (mq N F (pz 1348) []) n)=(E5 N (Ql F) c a f g d b n):=Gn fun n e=>(B5 (Pb N (Ql F) c a f g d b) e:_)
def sN:=B9 N 13 (TT N) PF (fun
|[.imm c a 1 f g,.int .i64 d,.int .i64 b],[]=>some fun _ k=>Pd N c a f g d b (Ql k)
| _,_=>none) fun _ _=>by split;intro R F;exact(B5 (Wf N (Ql F) · _ _ _ _ _ _) ((lW ..).trans (aZ ..)):_).trans (I_ ..).symm;trivial
def PG(N:Nat)(k0:Nat->Nat->Int->LA->LA->O R)(r0:LA->Bool->O R)(a c d:Int)(g:LA)(f:Nat)(i j:Bool)(m h:Nat)(l:Bool)(b z:LA)(am:Int)(ay:LA):O R:=(cond (Ac am m) (Aq .i64 (z.drop (0+(am.toNat*1))) fun bg=>cond (Ac am h) (Aq .i64 (ay.drop (0+(am.toNat*1))) fun bh=>cond (decide (bg>bh)) (r0 [.nsl,.nsl,.nsl] false) (k0 m h (wrap .i64 (am+1)) z ay)) none) none)
def JA(N:Nat)(k0:Nat->Nat->Int->LA->LA->O R)(r0:LA->Bool->O R)(a c d:Int)(g:LA)(f:Nat)(i j:Bool)(m h:Nat)(l:Bool)(b:LA)(q4:LA->Int->LA->O R)(ab:Int)(z ai:LA):O R:=(cond ((ab==d)==true) (cond (cond true (decide (d<(wrap .i64 (a - 1)))) false) (cond (Ac ab h) (Aq .i64 (ai.drop (0+(ab.toNat*1))) fun bi=>Aq .i64 (b.drop 9) fun bj=>cond (Ac ab h) (cond ((beq 1 1)&&((ble ((0+(ab.toNat*1))+1) ai.length)&&(!false))) (q4 z ab (ai.set (0+(ab.toNat*1)) (.int .i64 (Ca bi bj)))) none) none) none) (q4 z ab ai)) (q4 z ab ai))
def Qm(k0:Nat->Nat->Int->LA->LA->O R)(r0:LA->Bool->O R)(a c d:Int)(g:LA)(f:Nat)(i j:Bool)(m h:Nat)(l:Bool)(b:LA)(ab:Int)(z ai:LA):O R:=JA N k0 r0 a c d g f i j m h l b (fun z=>PG N k0 r0 a c d g f i j m h l b z) ab z ai
def JB(N:Nat)(k0:Nat->Nat->Int->LA->LA->O R)(r0:LA->Bool->O R)(a c d:Int)(g:LA)(f:Nat)(i j:Bool)(m h:Nat)(l:Bool)(b:LA)(q1:Int->LA->LA->O R)(y:Int)(av:Bool)(al ad:LA):O R:=(cond av (cond (Ac y m) (Aq .i64 (al.drop (0+(y.toNat*1))) fun bk=>Aq .i64 (b.drop 21) fun bl=>Aq .i64 (b.drop 7) fun bm=>cond (Ac y h) (Aq .i64 (ad.drop (0+(y.toNat*1))) fun bn=>Aq .i64 (b.drop 21) fun bo=>Aq .i64 (b.drop 6) fun bp=>cond (Ac y m) (cond ((beq 1 1)&&((ble ((0+(y.toNat*1))+1) al.length)&&(!false))) (cond (Ac y h) (cond ((beq 1 1)&&((ble ((0+(y.toNat*1))+1) ad.length)&&(!false))) (q1 y (al.set (0+(y.toNat*1)) (.int .i64 (Mj bk (wrap .i64 (bl - bm))))) (ad.set (0+(y.toNat*1)) (.int .i64 (Ca bn (wrap .i64 (bo+bp)))))) none) none) none) none) none) none) (cond (Ac y h) (Aq .i64 (ad.drop (0+(y.toNat*1))) fun bq=>Aq .i64 (b.drop 8) fun br=>cond (Ac y h) (cond ((beq 1 1)&&((ble ((0+(y.toNat*1))+1) ad.length)&&(!false))) (q1 y al (ad.set (0+(y.toNat*1)) (.int .i64 (Ca bq br)))) none) none) none))
def Xy(k0:Nat->Nat->Int->LA->LA->O R)(r0:LA->Bool->O R)(a c d:Int)(g:LA)(f:Nat)(i j:Bool)(m h:Nat)(l:Bool)(b:LA)(y:Int)(av:Bool)(al ad:LA):O R:=JB N k0 r0 a c d g f i j m h l b (Qm N k0 r0 a c d g f i j m h l b) y av al ad
def PH(k5:Int->Int->Nat->Nat->Nat->LA->LA->LA->O R)(r0:LA->Bool->O R)(a c d:Int)(g:LA)(f:Nat)(i j:Bool)(m h:Nat)(x:Int)(l:Bool)(b o p:LA)(q r s:Nat)(t u v:LA)(ac az:Int):O R:=(Bg N x fun ba=>Bg N az fun bb=>cond (Ac ac q) (cond ((beq 1 1)&&((ble ((0+(ac.toNat*1))+1) t.length)&&(!false))) (cond (Ac ac r) (cond ((beq ba.length 3)&&((ble ((0+(ac.toNat*3))+3) u.length)&&(!false))) (cond (Ac ac s) (cond ((beq bb.length 3)&&((ble ((0+(ac.toNat*3))+3) v.length)&&(!false))) (k5 x (wrap .i64 (ac+1)) q r s (t.set (0+(ac.toNat*1)) (.int .i64 2)) (setCells u (0+(ac.toNat*3)) ba) (setCells v (0+(ac.toNat*3)) bb)) none) none) none) none) none) none)
def JC(k5:Int->Int->Nat->Nat->Nat->LA->LA->LA->O R)(r0:LA->Bool->O R)(a c d:Int)(g:LA)(f:Nat)(i j:Bool)(m h:Nat)(x:Int)(l:Bool)(b o p:LA)(q r s:Nat)(t u v:LA)(q9:Int->Int->O R)(aj aw:Int):O R:=(cond (decide ((wrap .i64 (a+aj))<(f:Int))) (cond (Ac (wrap .i64 (a+aj)) f) (Aq .i64 (g.drop (((wrap .i64 (a+aj)).toNat)*1)) fun bs=>Aq .i64 (b.drop 16) fun bt=>Mb N bs (wrap .i64 ((Ca bt (wrap .i64 (aw - x)))+1)) fun bu=>q9 aj bu) none) (q9 aj 0))
def PI(k5:Int->Int->Nat->Nat->Nat->LA->LA->LA->O R)(r0:LA->Bool->O R)(a c d:Int)(g:LA)(f:Nat)(i j:Bool)(m h:Nat)(x:Int)(l:Bool)(b o p:LA)(q r s:Nat)(t u v:LA)(aj aw:Int):O R:=JC N k5 r0 a c d g f i j m h x l b o p q r s t u v (PH N k5 r0 a c d g f i j m h x l b o p q r s t u v) aj aw
def JD(N:Nat)(k5:Int->Int->Nat->Nat->Nat->LA->LA->LA->O R)(r0:LA->Bool->O R)(a c d:Int)(g:LA)(f:Nat)(i j:Bool)(m h:Nat)(l:Bool)(b o p:LA)(q r s:Nat)(t u v:LA)(q8:Int->Int->Int->O R)(ao ae x:Int):O R:=(Aq .i64 (b.drop 3) fun bc=>Aq .i64 (b.drop 6) fun bd=>cond ((ae==c)==true) (cond ((ae==0)==true) (Aq .i64 (b.drop 19) fun bv=>cond (cond true (!(cond true (bv==2) false)) false) (Aq .i64 (b.drop 8) fun bw=>q8 x ae bw) (q8 x ae (Ca bc (wrap .i64 (ao+bd))))) (Aq .i64 (b.drop 8) fun bx=>q8 x ae bx)) (q8 x ae (Ca bc (wrap .i64 (ao+bd)))))
def PJ(k5:Int->Int->Nat->Nat->Nat->LA->LA->LA->O R)(r0:LA->Bool->O R)(a c d:Int)(g:LA)(f:Nat)(i j:Bool)(m h:Nat)(l:Bool)(b o p:LA)(q r s:Nat)(t u v:LA)(ao ae x:Int):O R:=JD N k5 r0 a c d g f i j m h l b o p q r s t u v (fun x=>PI N k5 r0 a c d g f i j m h x l b o p q r s t u v) ao ae x
def JE(k5:Int->Int->Nat->Nat->Nat->LA->LA->LA->O R)(r0:LA->Bool->O R)(a c d:Int)(g:LA)(f:Nat)(i j:Bool)(m h:Nat)(l:Bool)(b o p:LA)(q r s:Nat)(t u v:LA)(q7:Int->Int->Int->O R)(ap ak an ax:Int):O R:=(cond (decide (ak<(f:Int))) (cond (Ac ak f) (Aq .i64 (g.drop (ak.toNat*1)) fun bz=>Mb N bz (wrap .i64 ((wrap .i64 (ax - an))+1)) fun ca=>q7 ap ak (wrap .i64 (an+ca))) none) (q7 ap ak an))
def Xz(k5:Int->Int->Nat->Nat->Nat->LA->LA->LA->O R)(r0:LA->Bool->O R)(a c d:Int)(g:LA)(f:Nat)(i j:Bool)(m h:Nat)(l:Bool)(b o p:LA)(q r s:Nat)(t u v:LA)(ap ak an ax:Int):O R:=JE N k5 r0 a c d g f i j m h l b o p q r s t u v (PJ N k5 r0 a c d g f i j m h l b o p q r s t u v) ap ak an ax
def JF(N:Nat)(r0:LA->Bool->O R)(a c d:Int)(g:LA)(f:Nat)(i j:Bool)(m h:Nat)(l:Bool)(b o p:LA)(k5:Int->Int->Nat->Nat->Nat->LA->LA->LA->O R)(q6:Nat->Nat->Nat->LA->LA->LA->Int->Int->Int->Int->O R)(aq af:Int)(q r s:Nat)(t u v:LA):O R:=(cond (decide (af<=d)) (cond (Ac af m) (Aq .i64 (o.drop (0+(af.toNat*1))) fun be=>cond (Ac af h) (Aq .i64 (p.drop (0+(af.toNat*1))) fun bf=>cond (decide (af>c)) (Aq .i64 (b.drop 7) fun cb=>Aq .i64 (b.drop 6) fun cc=>q6 q r s t u v aq af (Mj be (wrap .i64 (aq - cb))) (Ca bf (wrap .i64 (aq+cc)))) (q6 q r s t u v aq af be bf)) none) none) (r0 [.imm (t.take (q*1)) q 1 false false,.imm (u.take (r*3)) r 3 false false,.imm (v.take (s*3)) s 3 false false] true))
def Gk(r0:LA->Bool->O R)(a c d:Int)(g:LA)(f:Nat)(i j:Bool)(m h:Nat)(l:Bool)(b o p:LA):Nat->Int->Int->Nat->Nat->Nat->LA->LA->LA->O R
|0=>fun _ _ _ _ _ _ _ _=>none
|n+1=>JF N r0 a c d g f i j m h l b o p (Gk r0 a c d g f i j m h l b o p n) (fun q r s t u v=>Xz N (Gk r0 a c d g f i j m h l b o p n) r0 a c d g f i j m h l b o p q r s t u v)
def JG(N:Nat)(r0:LA->Bool->O R)(a c d:Int)(g:LA)(f:Nat)(i j:Bool)(m h:Nat)(l:Bool)(b:LA)(k3:Int->LA->LA->O R)(q5:LA->LA->Int->Int->Nat->Nat->Nat->LA->LA->LA->O R)(aa:Int)(o p:LA):O R:=(cond (decide (aa>c)) (cond (Ac (wrap .i64 (aa - 1)) m) (Aq .i64 (o.drop (0+(((wrap .i64 (aa - 1)).toNat)*1))) fun cd=>cond (Ac aa m) (Aq .i64 (o.drop (0+(aa.toNat*1))) fun ce=>Aq .i64 (b.drop 6) fun cf=>cond (Ac (wrap .i64 (aa - 1)) h) (Aq .i64 (p.drop (0+(((wrap .i64 (aa - 1)).toNat)*1))) fun cg=>cond (Ac aa h) (Aq .i64 (p.drop (0+(aa.toNat*1))) fun ch=>Aq .i64 (b.drop 7) fun ci=>cond (Ac (wrap .i64 (aa - 1)) m) (cond ((beq 1 1)&&((ble ((0+(((wrap .i64 (aa - 1)).toNat)*1))+1) o.length)&&(!false))) (cond (Ac (wrap .i64 (aa - 1)) h) (cond ((beq 1 1)&&((ble ((0+(((wrap .i64 (aa - 1)).toNat)*1))+1) p.length)&&(!false))) (k3 (wrap .i64 (aa - 1)) (o.set (0+(((wrap .i64 (aa - 1)).toNat)*1)) (.int .i64 (Mj cd (wrap .i64 (ce - cf))))) (p.set (0+(((wrap .i64 (aa - 1)).toNat)*1)) (.int .i64 (Ca cg (wrap .i64 (ch+ci)))))) none) none) none) none) none) none) none) none) (cond ((decide (0<=a))&&((decide (a<=a))&&((decide (a<=140737488355328))&&(decide ((a*((8:Nat):Int))<=140737488355328))))) (cond ((decide (0<=a))&&((decide (a<=a))&&((decide (a<=140737488355328))&&(decide ((a*((56:Nat):Int))<=140737488355328))))) (cond ((decide (0<=a))&&((decide (a<=a))&&((decide (a<=140737488355328))&&(decide ((a*((56:Nat):Int))<=140737488355328))))) (Aq .i64 (b.drop 21) fun cj=>q5 o p cj c a.toNat a.toNat a.toNat (replicate a.toNat A6r) (List.flatten (replicate a.toNat ([.bool false,.nsl,.nsl]:LA))) (List.flatten (replicate a.toNat ([.bool false,.nsl,.nsl]:LA)))) none) none) none))
def Gl(r0:LA->Bool->O R)(a c d:Int)(g:LA)(f:Nat)(i j:Bool)(m h:Nat)(l:Bool)(b:LA):Nat->Int->LA->LA->O R
|0=>fun _ _ _=>none
|n+1=>JG N r0 a c d g f i j m h l b (Gl r0 a c d g f i j m h l b n) (fun o p=>Gk N r0 a c d g f i j m h l b o p N)
def JH(N:Nat)(r0:LA->Bool->O R)(a c d:Int)(g:LA)(f:Nat)(i j l:Bool)(b:LA)(k0:Nat->Nat->Int->LA->LA->O R)(q1:Nat->Nat->Int->LA->LA->O R)(q2:Nat->Nat->Int->Bool->LA->LA->O R)(q3:Nat->Nat->Int->LA->LA->O R)(m h:Nat)(w:Int)(ag ah:LA):O R:=(cond (decide (w<=d)) (Aq .i64 (b.drop 2) fun ar=>Aq .i64 (b.drop 3) fun au=>cond (Ac w m) (cond ((beq 1 1)&&((ble ((0+(w.toNat*1))+1) ag.length)&&(!false))) (cond (Ac w h) (cond ((beq 1 1)&&((ble ((0+(w.toNat*1))+1) ah.length)&&(!false))) (cond (decide (w>c)) (cond (Ac w m) (Aq .i64 ((ag.set (0+(w.toNat*1)) (.int .i64 ar)).drop (0+(w.toNat*1))) fun ck=>cond (Ac (wrap .i64 (w - 1)) m) (Aq .i64 ((ag.set (0+(w.toNat*1)) (.int .i64 ar)).drop (0+(((wrap .i64 (w - 1)).toNat)*1))) fun cl=>Aq .i64 (b.drop 7) fun cm=>cond (Ac w h) (Aq .i64 ((ah.set (0+(w.toNat*1)) (.int .i64 au)).drop (0+(w.toNat*1))) fun cn=>cond (Ac (wrap .i64 (w - 1)) h) (Aq .i64 ((ah.set (0+(w.toNat*1)) (.int .i64 au)).drop (0+(((wrap .i64 (w - 1)).toNat)*1))) fun co=>Aq .i64 (b.drop 6) fun cp=>cond (Ac w m) (cond ((beq 1 1)&&((ble ((0+(w.toNat*1))+1) ((ag.set (0+(w.toNat*1)) (.int .i64 ar)).length))&&(!false))) (cond (Ac w h) (cond ((beq 1 1)&&((ble ((0+(w.toNat*1))+1) ((ah.set (0+(w.toNat*1)) (.int .i64 au)).length))&&(!false))) (q1 m h w ((ag.set (0+(w.toNat*1)) (.int .i64 ar)).set (0+(w.toNat*1)) (.int .i64 (Mj ck (wrap .i64 (cl - cm))))) ((ah.set (0+(w.toNat*1)) (.int .i64 au)).set (0+(w.toNat*1)) (.int .i64 (Ca cn (wrap .i64 (co+cp)))))) none) none) none) none) none) none) none) none) (cond ((w==0)==true) (Aq .i64 (b.drop 19) fun cq=>q2 m h w (cond true (cq==2) false) (ag.set (0+(w.toNat*1)) (.int .i64 ar)) (ah.set (0+(w.toNat*1)) (.int .i64 au))) (q2 m h w false (ag.set (0+(w.toNat*1)) (.int .i64 ar)) (ah.set (0+(w.toNat*1)) (.int .i64 au))))) none) none) none) none) (q3 m h d ag ah))
def E6(r0:LA->Bool->O R)(a c d:Int)(g:LA)(f:Nat)(i j l:Bool)(b:LA):Nat->Nat->Nat->Int->LA->LA->O R
|0=>fun _ _ _ _ _=>none
|n+1=>JH N r0 a c d g f i j l b (E6 r0 a c d g f i j l b n) (fun m h=>Qm N (E6 r0 a c d g f i j l b n) r0 a c d g f i j m h l b) (fun m h=>Xy N (E6 r0 a c d g f i j l b n) r0 a c d g f i j m h l b) (fun m h=>Gl N r0 a c d g f i j m h l b N)
def Wg(N:Nat)(r0:LA->Bool->O R)(q0:Nat->Nat->Int->LA->LA->O R)(b:LA)(l:Bool)(a c d:Int)(g:LA)(f:Nat)(i j:Bool):O R:=(cond ((decide (0<=a))&&((decide (a<=a))&&((decide (a<=140737488355328))&&(decide ((a*((8:Nat):Int))<=140737488355328))))) (cond ((decide (0<=a))&&((decide (a<=a))&&((decide (a<=140737488355328))&&(decide ((a*((8:Nat):Int))<=140737488355328))))) (q0 a.toNat a.toNat c (replicate a.toNat A6r) (replicate a.toNat A6r)) none) none)
def Pe:=(Ai fun N b l a c d g f i j r0=>Wg (R:=R) N r0 (E6 N r0 a c d g f i j l b N) b l a c d g f i j).1
def JI(b l a c d g f i j r0):(@Pe R N b l a c d g f i j r0)=(Wg N r0 (E6 N r0 a c d g f i j l b N) b l a c d g f i j):=by rw[Pe,(Ai _).2]
def PK:Hints:={H:=hK 2 (hS (hK 1 (hS (hP [1,2,3,4,5,10,12,13,14] (hK 1 (hS (hS (hK 1 (hJ [1,2,3,4,5,10,12,13,14] (hS (hK 2 (hJ [1,2,3,4,5,10,12,13,14,89] hL hL)) hL) (hJ [1,2,3,4,5,10,12,13,14] hL hL))) hL) hL))) hL)) (hS (hK 1 (hS (hP [1,2,3,4,5,10,12,13,15] hL) hL)) (hK 2 (hS (hK 1 (hS (hP [1,2,3,4,5,10,12,13,16,17,18] (hK 1 (hS (hS (hK 1 (hJ [1,2,3,4,5,10,12,13,16,17,18,19,20] hL (hJ [1,2,3,4,5,10,12,13,16,17,18,19] hL (hK 1 (hJ [1,2,3,4,5,10,12,13,16,18,19,21] hL (hK 1 (hJ [1,2,3,4,5,10,12,13,16,18,19,22] hL hL))))))) hL) hL))) hL)) hL)))),modes:=[(3,0),(0,0)]}
def TU:Ru:=[RY N,Mf N]
def C7(F:KF R):=J7 Tryz.f37 PK (TU N) [] N F
def mu(a c d:Int)(g:LA)(f:Nat)(i j:Bool)(m h:Nat)(l:Bool)(b z:LA)(K:St->O R):=fun am ay=>K ⟨[(1,iv a),(2,iv c),(3,iv d),(4,.imm g f 1 i j),(5,op 0),(10,op 1),(12,A6q 2 m),(13,A6q 3 h),(14,iv am)],hq [bP l 0 b,bN 0 [.nsl,.nsl,.nsl],bQ 1 z,bQ 1 ay]⟩
def mv(a c d:Int)(g:LA)(f:Nat)(i j:Bool)(m h:Nat)(l:Bool)(b:LA)(K:St->O R):=fun ab z ai=>K ⟨[(1,iv a),(2,iv c),(3,iv d),(4,.imm g f 1 i j),(5,op 0),(10,op 1),(12,A6q 2 m),(13,A6q 3 h),(14,iv ab)],hq [bP l 0 b,bN 0 [.nsl,.nsl,.nsl],bQ 1 z,bQ 1 ai]⟩
def mw(a c d:Int)(g:LA)(f:Nat)(i j:Bool)(m h:Nat)(l:Bool)(b:LA)(K:St->O R):=fun y av al ad=>K ⟨[(1,iv a),(2,iv c),(3,iv d),(4,.imm g f 1 i j),(5,op 0),(10,op 1),(12,A6q 2 m),(13,A6q 3 h),(14,iv y),(89,.bool av)],hq [bP l 0 b,bN 0 [.nsl,.nsl,.nsl],bQ 1 al,bQ 1 ad]⟩
def mz(a c d:Int)(g:LA)(f:Nat)(i j:Bool)(m h:Nat)(x:Int)(l:Bool)(b o p:LA)(q r s:Nat)(t u v:LA)(K:St->O R):=fun ac az=>K ⟨[(1,iv a),(2,iv c),(3,iv d),(4,.imm g f 1 i j),(5,op 0),(10,op 1),(12,A6q 2 m),(13,A6q 3 h),(16,op 4),(18,iv ac),(19,iv x),(22,iv az)],hq [bP l 0 b,bN 0 [.nsl,.nsl,.nsl],bQ 1 o,bQ 1 p,bN 0 [A6q 5 q,A6q 6 r,A6q 7 s],bQ 1 t,bQ 3 u,bQ 3 v]⟩
def nA(a c d:Int)(g:LA)(f:Nat)(i j:Bool)(m h:Nat)(x:Int)(l:Bool)(b o p:LA)(q r s:Nat)(t u v:LA)(K:St->O R):=fun aj aw=>K ⟨[(1,iv a),(2,iv c),(3,iv d),(4,.imm g f 1 i j),(5,op 0),(10,op 1),(12,A6q 2 m),(13,A6q 3 h),(16,op 4),(18,iv aj),(19,iv x),(21,iv aw)],hq [bP l 0 b,bN 0 [.nsl,.nsl,.nsl],bQ 1 o,bQ 1 p,bN 0 [A6q 5 q,A6q 6 r,A6q 7 s],bQ 1 t,bQ 3 u,bQ 3 v]⟩
def nB(a c d:Int)(g:LA)(f:Nat)(i j:Bool)(m h:Nat)(l:Bool)(b o p:LA)(q r s:Nat)(t u v:LA)(K:St->O R):=fun ao ae x=>K ⟨[(1,iv a),(2,iv c),(3,iv d),(4,.imm g f 1 i j),(5,op 0),(10,op 1),(12,A6q 2 m),(13,A6q 3 h),(16,op 4),(17,iv ao),(18,iv ae),(19,iv x)],hq [bP l 0 b,bN 0 [.nsl,.nsl,.nsl],bQ 1 o,bQ 1 p,bN 0 [A6q 5 q,A6q 6 r,A6q 7 s],bQ 1 t,bQ 3 u,bQ 3 v]⟩
def nC(a c d:Int)(g:LA)(f:Nat)(i j:Bool)(m h:Nat)(l:Bool)(b o p:LA)(q r s:Nat)(t u v:LA)(K:St->O R):=fun ap ak an ax=>K ⟨[(1,iv a),(2,iv c),(3,iv d),(4,.imm g f 1 i j),(5,op 0),(10,op 1),(12,A6q 2 m),(13,A6q 3 h),(16,op 4),(17,iv ap),(18,iv ak),(19,iv an),(20,iv ax)],hq [bP l 0 b,bN 0 [.nsl,.nsl,.nsl],bQ 1 o,bQ 1 p,bN 0 [A6q 5 q,A6q 6 r,A6q 7 s],bQ 1 t,bQ 3 u,bQ 3 v]⟩
def E7(a c d:Int)(g:LA)(f:Nat)(i j:Bool)(m h:Nat)(l:Bool)(b o p:LA)(K:St->O R):=fun aq af q r s t u v=>K ⟨[(1,iv a),(2,iv c),(3,iv d),(4,.imm g f 1 i j),(5,op 0),(10,op 1),(12,A6q 2 m),(13,A6q 3 h),(16,op 4),(17,iv aq),(18,iv af)],hq [bP l 0 b,bN 0 [.nsl,.nsl,.nsl],bQ 1 o,bQ 1 p,bN 0 [A6q 5 q,A6q 6 r,A6q 7 s],bQ 1 t,bQ 3 u,bQ 3 v]⟩
def nD(a c d:Int)(g:LA)(f:Nat)(i j:Bool)(m h:Nat)(l:Bool)(b:LA)(K:St->O R):=fun aa o p=>K ⟨[(1,iv a),(2,iv c),(3,iv d),(4,.imm g f 1 i j),(5,op 0),(10,op 1),(12,A6q 2 m),(13,A6q 3 h),(15,iv aa)],hq [bP l 0 b,bN 0 [.nsl,.nsl,.nsl],bQ 1 o,bQ 1 p]⟩
def H8(a c d:Int)(g:LA)(f:Nat)(i j l:Bool)(b:LA)(K:St->O R):=fun m h w ag ah=>K ⟨[(1,iv a),(2,iv c),(3,iv d),(4,.imm g f 1 i j),(5,op 0),(10,op 1),(12,A6q 2 m),(13,A6q 3 h),(14,iv w)],hq [bP l 0 b,bN 0 [.nsl,.nsl,.nsl],bQ 1 ag,bQ 1 ah]⟩
def a_ Q0 (F:KF R) (a c d g f i j m h l b z):mu a c d g f i j m h l b z (A2 (C7 N F (pz 22086677) [Q0]))=(PG N (H8 a c d g f i j l b Q0) (FP F) a c d g f i j m h l b z):=by kernel_rfl
def CV Q0 (F:KF R) (a c d g f i j m h l b):mv a c d g f i j m h l b (A2 (C7 N F (pz 5521669) [Q0]))=(Qm N (H8 a c d g f i j l b Q0) (FP F) a c d g f i j m h l b):=(B5 (JA N (H8 a c d g f i j l b Q0) (FP F) a c d g f i j m h l b) (Aan fun z=>(jW ..).trans (a_ ..)):_)
def bA Q0 (F:KF R) (a c d g f i j m h l b):mw a c d g f i j m h l b (A2 (C7 N F (pz 1413547029) [Q0]))=(Xy N (H8 a c d g f i j l b Q0) (FP F) a c d g f i j m h l b):=(B5 (JB N (H8 a c d g f i j l b Q0) (FP F) a c d g f i j m h l b) ((jW ..).trans (CV ..)):_)
def bB Q5 (F:KF R) (a c d g f i j m h x l b o p q r s t u v):mz a c d g f i j m h x l b o p q r s t u v (A2 (C7 N F (pz 1465943070037) [Q5]))=(PH N (E7 a c d g f i j m h l b o p Q5) (FP F) a c d g f i j m h x l b o p q r s t u v):=by kernel_rfl
def bC Q5 (F:KF R) (a c d g f i j m h x l b o p q r s t u v):nA a c d g f i j m h x l b o p q r s t u v (A2 (C7 N F (pz 91621441877) [Q5]))=(PI N (E7 a c d g f i j m h l b o p Q5) (FP F) a c d g f i j m h x l b o p q r s t u v):=(B5 (JC N (E7 a c d g f i j m h l b o p Q5) (FP F) a c d g f i j m h x l b o p q r s t u v) ((jW ..).trans (bB ..)):_)
def bD Q5 (F:KF R) (a c d g f i j m h l b o p q r s t u v):nB a c d g f i j m h l b o p q r s t u v (A2 (C7 N F (pz 5726340117) [Q5]))=(PJ N (E7 a c d g f i j m h l b o p Q5) (FP F) a c d g f i j m h l b o p q r s t u v):=(B5 (JD N (E7 a c d g f i j m h l b o p Q5) (FP F) a c d g f i j m h l b o p q r s t u v) (Aan fun x=>(jW ..).trans (bC ..)):_)
def bE Q5 (F:KF R) (a c d g f i j m h l b o p q r s t u v):nC a c d g f i j m h l b o p q r s t u v (A2 (C7 N F (pz 1431585029) [Q5]))=(Xz N (E7 a c d g f i j m h l b o p Q5) (FP F) a c d g f i j m h l b o p q r s t u v):=(B5 (JE N (E7 a c d g f i j m h l b o p Q5) (FP F) a c d g f i j m h l b o p q r s t u v) ((jW ..).trans (bD ..)):_)
def bF(F:KF R)(a c d g f i j m h l b o p):∀ n,E7 a c d g f i j m h l b o p (Au (C7 N F (pz 349508) []) n)=(Gk N (FP F) a c d g f i j m h l b o p n):=Gn fun n e=>(KH (JF N (FP F) a c d g f i j m h l b o p) e (An6 fun q r s t u v=>(jW ..).trans ((bE ..).trans (ot (Xz _ · _ _ _ _ _ _ _ _ _ _ _ _ _ _ _ _ _ _ _ _) e))):_)
def bG(F:KF R)(a c d g f i j m h l b):∀ n,nD a c d g f i j m h l b (Au (C7 N F (pz 5444) []) n)=(Gl N (FP F) a c d g f i j m h l b n):=Gn fun n e=>(KH (JG N (FP F) a c d g f i j m h l b) e (ld fun o p=>(lW ..).trans (bF ..)):_)
def bH(F:KF R)(a c d g f i j l b):∀ n,H8 a c d g f i j l b (Au (C7 N F (pz 1348) []) n)=(E6 N (FP F) a c d g f i j l b n):=Gn fun n e=>(Awo (JH N (FP F) a c d g f i j l b) e (ld fun m h=>(jW ..).trans ((CV ..).trans (ot (Qm _ · _ _ _ _ _ _ _ _ _ _ _ _) e))) (ld fun m h=>(jW ..).trans ((bA ..).trans (ot (Xy _ · _ _ _ _ _ _ _ _ _ _ _ _) e))) (ld fun m h=>(lW ..).trans (bG ..)):_)
def sO:=B9 N 37 (TU N) PK (fun
|[.pagg b l,.int .i64 a,.int .i64 c,.int .i64 d,.imm g f 1 i j],[]=>some fun _ k=>Pe N b l a c d g f i j (FP k)
| _,_=>none) fun _ _=>by split;intro R F;exact(B5 (Wg N (FP F) · _ _ _ _ _ _ _ _ _) ((lW ..).trans (bH ..)):_).trans (JI ..).symm;trivial
def Zu(k2:Bool->Int->Bool->LA->O R)(r0:Bool->O R)(d f g:Int)(m:Bool)(i:Int)(h:Bool)(b:LA)(a:Bool)(c:LA)(j:Bool)(l o:LA)(s:LA):O R:=(cond ((!m)==true) (cond (ble 3 o.length) (Aq .i64 (b.drop 8) fun aa=>Bg N aa fun ab=>C6 N (o.take 3) false ab false fun ac=>cond (cond true (decide (ac>0)) false) (r0 false) (cond (ble 3 l.length) (cond ((beq ((l.take 3).length) 3)&&((ble 3 s.length)&&(!false))) (k2 true (wrap .i64 (i+1)) (j||a) (setCells s 0 (l.take 3))) none) none)) none) (cond (ble 3 l.length) (cond ((beq ((l.take 3).length) 3)&&((ble 3 s.length)&&(!false))) (k2 true (wrap .i64 (i+1)) (j||a) (setCells s 0 (l.take 3))) none) none))
def GC(k2:Bool->Int->Bool->LA->O R)(r0:Bool->O R)(d f g:Int)(m:Bool)(i:Int)(h:Bool)(b:LA)(a:Bool)(c:LA)(j:Bool)(l o:LA)(q6:LA->O R)(r:LA):O R:=(cond (m==true) (cond (ble 3 o.length) (cond (ble 3 r.length) (Tb N (o.take 3) false (r.take 3) j fun ad=>Aq .i64 (b.drop 6) fun ae=>Bg N ae fun af=>C6 N ad false af false fun ag=>cond ((decide (ag>0))==false) (cond (ble 3 r.length) (cond (ble 3 l.length) (Tb N (r.take 3) j (l.take 3) a fun ah=>Aq .i64 (b.drop 7) fun ai=>Bg N ai fun aj=>C6 N ah false aj false fun ak=>cond (cond true (cond false true (decide (ak>0))) false) (r0 false) (q6 r)) none) none) (r0 false)) none) none) (q6 r))
def NL(k2:Bool->Int->Bool->LA->O R)(r0:Bool->O R)(d f g:Int)(m:Bool)(i:Int)(h:Bool)(b:LA)(a:Bool)(c:LA)(j:Bool)(l o:LA)(r:LA):O R:=GC N k2 r0 d f g m i h b a c j l o (Zu N k2 r0 d f g m i h b a c j l o) r
def GD(k2:Bool->Int->Bool->LA->O R)(r0:Bool->O R)(d f g:Int)(m:Bool)(i:Int)(h:Bool)(b:LA)(a:Bool)(c:LA)(j:Bool)(l p:LA)(q5:LA->LA->O R)(v:LA):O R:=(cond (ble 3 l.length) (cond (ble 3 p.length) (Wb N (l.take 3) a (p.take 3) a fun o=>cond ((beq 0 0)&&((beq o.length 3)&&(beq 3 3))) (Bq 1 c fun al am=>cond (Ac i am) (Aq .i64 (al.drop (i.toNat*1)) fun an=>cond ((an != 2)==false) (cond (ble 3 l.length) (Aq .i64 (b.drop 2) fun ao=>Bg N ao fun ap=>C6 N (l.take 3) a ap false fun aq=>cond ((cond false true (decide (aq<0)))==false) (cond (ble 3 p.length) (Aq .i64 (b.drop 16) fun ar=>ML N (p.take 3) a 0 ar fun au=>cond ((cond false true (!au))==false) (cond (ble 3 o.length) (Aq .i64 (b.drop 3) fun av=>Bg N av fun aw=>C6 N (o.take 3) false aw false fun ax=>cond (cond false true (decide (ax>0))) (r0 false) (q5 o v)) none) (r0 false)) none) (r0 false)) none) (r0 false)) none) none) none) none)
def Zv(k2:Bool->Int->Bool->LA->O R)(r0:Bool->O R)(d f g:Int)(m:Bool)(i:Int)(h:Bool)(b:LA)(a:Bool)(c:LA)(j:Bool)(l p:LA)(v:LA):O R:=GD N k2 r0 d f g m i h b a c j l p (fun o=>NL N k2 r0 d f g m i h b a c j l o) v
def Wh(k2:Bool->Int->Bool->LA->O R)(r0:Bool->O R)(d f g:Int)(m:Bool)(i:Int)(h:Bool)(b:LA)(a:Bool)(c:LA)(j:Bool)(q4:LA->LA->LA->O R)(w:Bool)(t l p:LA):O R:=(cond w (Bq 1 c fun ay az=>cond (Ac i az) (Aq .i64 (ay.drop (i.toNat*1)) fun ba=>cond ((ba != 0)==false) (cond (ble 3 l.length) (B_ N (l.take 3) a fun bb=>cond ((cond false true (bb != 0))==false) (cond (ble 3 p.length) (B_ N (p.take 3) a fun bc=>cond (cond false true (bc != 0)) (r0 false) (k2 m (wrap .i64 (i+1)) j t)) none) (r0 false)) none) (r0 false)) none) (q4 l p t))
def Lf(k2:Bool->Int->Bool->LA->O R)(r0:Bool->O R)(d f g:Int)(m:Bool)(i:Int)(h:Bool)(b:LA)(a:Bool)(c:LA)(j w:Bool)(t l p:LA):O R:=Wh N k2 r0 d f g m i h b a c j (fun l p=>Zv N k2 r0 d f g m i h b a c j l p) w t l p
def Wi(r0:Bool->O R)(d f g:Int)(h:Bool)(b:LA)(a:Bool)(c:LA)(k2:Bool->Int->Bool->LA->O R)(q3:Bool->Int->Bool->Bool->LA->LA->LA->O R)(m:Bool)(i:Int)(j:Bool)(u:LA):O R:=(cond (decide (i<d)) (Bq 3 (c.drop 1) fun y bd=>cond (Ac i bd) (cond (ble 3 ((y.drop (i.toNat*3)).length)) (Bq 3 (c.drop 2) fun z be=>cond (Ac i be) (cond (ble 3 ((z.drop (i.toNat*3)).length)) (cond ((beq 0 0)&&((beq (((y.drop (i.toNat*3)).take 3).length) 3)&&(beq 3 3))) (cond ((beq 0 0)&&((beq (((z.drop (i.toNat*3)).take 3).length) 3)&&(beq 3 3))) (cond ((decide (i<f))==false) (q3 m i j (cond false true (decide (i>g))) u ((y.drop (i.toNat*3)).take 3) ((z.drop (i.toNat*3)).take 3)) (q3 m i j true u ((y.drop (i.toNat*3)).take 3) ((z.drop (i.toNat*3)).take 3))) none) none) none) none) none) none) (cond ((g==(wrap .i64 (d - 1)))==false) (cond (ble 3 u.length) (Aq .i64 (b.drop 9) fun bf=>Bg N bf fun bg=>C6 N (u.take 3) j bg false fun bh=>r0 (cond false true (decide (bh<=0)))) none) (r0 true)))
def Ir(r0:Bool->O R)(d f g:Int)(h:Bool)(b:LA)(a:Bool)(c:LA):Nat->Bool->Int->Bool->LA->O R
|0=>fun _ _ _ _=>none
|n+1=>Wi N r0 d f g h b a c (Ir r0 d f g h b a c n) (fun m i j=>Lf N (Ir r0 d f g h b a c n) r0 d f g m i h b a c j)
def GF(N:Nat)(r0:Bool->O R)(d f g:Int)(h:Bool)(b:LA)(a:Bool)(c q:LA)(q2:Bool->Int->Bool->LA->O R)(x:Bool):O R:=(q2 x 0 false q)
def Zw(r0:Bool->O R)(d f g:Int)(h:Bool)(b:LA)(a:Bool)(c q:LA)(x:Bool):O R:=GF N r0 d f g h b a c q (Ir N r0 d f g h b a c N) x
def GG(r0:Bool->O R)(d f g:Int)(h:Bool)(b:LA)(a:Bool)(c:LA)(q1:LA->Bool->O R):O R:=(Aq .i64 (b.drop 21) fun bi=>Bg N bi fun q=>cond ((f==0)==true) (Aq .i64 (b.drop 19) fun bj=>cond ((beq 0 0)&&((beq q.length 3)&&(beq 3 3))) (q1 q (cond true (bj==2) false)) none) (cond ((beq 0 0)&&((beq q.length 3)&&(beq 3 3))) (q1 q false) none))
def Zx(r0:Bool->O R)(d f g:Int)(h:Bool)(b:LA)(a:Bool)(c:LA):O R:=GG N r0 d f g h b a c fun q=>Zw N r0 d f g h b a c q
def NM(N:Nat)(r0:Bool->O R)(q0:O R)(b:LA)(h:Bool)(d f g:Int)(c:LA)(a:Bool):O R:=(Bq 1 c fun bn bk=>cond (((bk:Int) != d)==false) (Bq 3 (c.drop 1) fun bo bl=>cond ((cond false true ((bl:Int) != d))==false) (Bq 3 (c.drop 2) fun bp bm=>cond (cond false true ((bm:Int) != d)) (r0 false) q0) (r0 false)) (r0 false))
def AD:=(Ai fun N b h d f g c a r0=>NM (R:=R) N r0 (Zx N r0 d f g h b a c) b h d f g c a).1
def YI(b h d f g c a r0):(@AD R N b h d f g c a r0)=(NM N r0 (Zx N r0 d f g h b a c) b h d f g c a):=by rw[AD,(Ai _).2]
def fh:Hints:={H:=hK 1 (hJ [1,2,3,5,9] hL (hJ [1,2,3,5,9,11,12] hL (hS (hK 1 (hS (hP [1,2,3,5,9,11,12,13] (hK 1 (hS (hS (hK 1 (hJ [1,2,3,5,9,11,12,13,14,15] (hJ [1,2,3,5,9,11,12,13,14,15,68] hL hL) (hK 1 (hJ [1,2,3,5,9,11,12,13,14,16] hL (hJ [1,2,3,5,9,11,12,13,14,16] hL hL))))) hL) hL))) hL)) hL)))}
def lU:Ru:=[Mf N,Wc N,q_ N,IC N,yZ N,ID N]
def Lg(F:KF R):=J7 Tryz.f38 fh (lU N) [] N F
def zB(d f g:Int)(m:Bool)(i:Int)(h:Bool)(b:LA)(a:Bool)(c:LA)(j:Bool)(l o:LA)(K:St->O R):=fun s=>K ⟨[(1,iv d),(2,iv f),(3,iv g),(5,op 0),(9,op 1),(11,op 2),(12,.bool m),(13,iv i),(14,op 3),(16,op 4)],hq [bP h 0 b,bP a 0 c,bP j 0 s,bP a 0 l,bQ 0 o]⟩
def zC(d f g:Int)(m:Bool)(i:Int)(h:Bool)(b:LA)(a:Bool)(c:LA)(j:Bool)(l o:LA)(K:St->O R):=fun r=>K ⟨[(1,iv d),(2,iv f),(3,iv g),(5,op 0),(9,op 1),(11,op 2),(12,.bool m),(13,iv i),(14,op 3),(16,op 4)],hq [bP h 0 b,bP a 0 c,bP j 0 r,bP a 0 l,bQ 0 o]⟩
def zD(d f g:Int)(m:Bool)(i:Int)(h:Bool)(b:LA)(a:Bool)(c:LA)(j:Bool)(l p:LA)(K:St->O R):=fun v=>K ⟨[(1,iv d),(2,iv f),(3,iv g),(5,op 0),(9,op 1),(11,op 2),(12,.bool m),(13,iv i),(14,op 3),(15,op 4)],hq [bP h 0 b,bP a 0 c,bP j 0 v,bP a 0 l,bP a 0 p]⟩
def zE(d f g:Int)(m:Bool)(i:Int)(h:Bool)(b:LA)(a:Bool)(c:LA)(j:Bool)(K:St->O R):=fun w t l p=>K ⟨[(1,iv d),(2,iv f),(3,iv g),(5,op 0),(9,op 1),(11,op 2),(12,.bool m),(13,iv i),(14,op 3),(15,op 4),(68,.bool w)],hq [bP h 0 b,bP a 0 c,bP j 0 t,bP a 0 l,bP a 0 p]⟩
def Is(d f g:Int)(h:Bool)(b:LA)(a:Bool)(c:LA)(K:St->O R):=fun m i j u=>K ⟨[(1,iv d),(2,iv f),(3,iv g),(5,op 0),(9,op 1),(11,op 2),(12,.bool m),(13,iv i)],hq [bP h 0 b,bP a 0 c,bP j 0 u]⟩
def zF(d f g:Int)(h:Bool)(b:LA)(a:Bool)(c q:LA)(K:St->O R):=fun x=>K ⟨[(1,iv d),(2,iv f),(3,iv g),(5,op 0),(9,op 1),(11,op 2),(12,.bool x)],hq [bP h 0 b,bP a 0 c,bQ 0 q]⟩
def zG(d f g:Int)(h:Bool)(b:LA)(a:Bool)(c:LA)(K:St->O R):=K ⟨[(1,iv d),(2,iv f),(3,iv g),(5,op 0),(9,op 1)],hq [bP h 0 b,bP a 0 c]⟩
def nF Q2 (F:KF R) (d f g m i h b a c j l o):zB d f g m i h b a c j l o (A2 (Lg N F (pz 1427128661) [Q2]))=(Zu N (Is d f g h b a c Q2) (Cc F) d f g m i h b a c j l o):=by kernel_rfl
def nG Q2 (F:KF R) (d f g m i h b a c j l o):zC d f g m i h b a c j l o (A2 (Lg N F (pz 356782165) [Q2]))=(NL N (Is d f g h b a c Q2) (Cc F) d f g m i h b a c j l o):=(B5 (GC N (Is d f g h b a c Q2) (Cc F) d f g m i h b a c j l o) ((jW ..).trans (nF ..)):_)
def nH Q2 (F:KF R) (d f g m i h b a c j l p):zD d f g m i h b a c j l p (A2 (Lg N F (pz 22298885) [Q2]))=(Zv N (Is d f g h b a c Q2) (Cc F) d f g m i h b a c j l p):=(B5 (GD N (Is d f g h b a c Q2) (Cc F) d f g m i h b a c j l p) (Aan fun o=>(jW ..).trans (nG ..)):_)
def nI Q2 (F:KF R) (d f g m i h b a c j):zE d f g m i h b a c j (A2 (Lg N F (pz 89195537) [Q2]))=(Lf N (Is d f g h b a c Q2) (Cc F) d f g m i h b a c j):=(B5 (Wh N (Is d f g h b a c Q2) (Cc F) d f g m i h b a c j) (ld fun l p=>(jW ..).trans (nH ..)):_)
def nK(F:KF R)(d f g h b a c):∀ n,Is d f g h b a c (Au (Lg N F (pz 5444) []) n)=(Ir N (Cc F) d f g h b a c n):=Gn fun n e=>(KH (Wi N (Cc F) d f g h b a c) e (Aqx fun m i j=>(jW ..).trans ((nI ..).trans (ot (Lf _ · _ _ _ _ _ _ _ _ _ _ _) e))):_)
def nL(F:KF R)(d f g h b a c q):zF d f g h b a c q (A2 (Lg N F (pz 85) []))=(Zw N (Cc F) d f g h b a c q):=(B5 (GF N (Cc F) d f g h b a c q) ((lW ..).trans (nK ..)):_)
def nM(F:KF R)(d f g h b a c):zG d f g h b a c (A2 (Lg N F (pz 21) []))=(Zx N (Cc F) d f g h b a c):=(B5 (GG N (Cc F) d f g h b a c) (Aan fun q=>(jW ..).trans (nL ..)):_)
def Acy:=B9 N 38 (lU N) fh (fun
|[.pagg b h,.int .i64 d,.int .i64 f,.int .i64 g,.pagg c a],[]=>some fun _ k=>AD N b h d f g c a (Cc k)
| _,_=>none) fun _ _=>by split;intro R F;exact(B5 (NM N (Cc F) · _ _ _ _ _ _ _) ((jW ..).trans (nM ..)):_).trans (YI ..).symm;trivial
def FG(r0:LA->O R)(g:Int)(b:LA)(h:Nat)(o i:Bool)(c:LA)(j:Nat)(p l m:Bool)(a:LA)(d:Bool)(f:LA)(k0:Int->LA->O R)(q:Int)(r:LA):O R:=(cond (decide (q<=g)) (cond (ble 3 r.length) (cond (ble 22 a.length) (Bq 3 (f.drop 1) fun u y=>cond (Ac q y) (cond (ble 3 ((u.drop (q.toNat*3)).length)) (Bq 3 (f.drop 2) fun v z=>cond (Ac q z) (cond (ble 3 ((v.drop (q.toNat*3)).length)) (cond (Ac q h) (cond (ble 3 ((b.drop (q.toNat*3)).length)) (cond (Ac q j) (cond (ble 3 ((c.drop (q.toNat*3)).length)) (eS N (a.take 22) m ((u.drop (q.toNat*3)).take 3) d ((v.drop (q.toNat*3)).take 3) d ((b.drop (q.toNat*3)).take 3) i ((c.drop (q.toNat*3)).take 3) l fun aa=>Wb N (r.take 3) false aa false fun t=>cond ((beq t.length 3)&&((ble 3 r.length)&&(!false))) (cond (ble 3 ((setCells r 0 t).length)) (Aq .i64 (a.drop 5) fun ab=>Bg N ab fun ac=>Tb N ((setCells r 0 t).take 3) false ac false fun w=>cond ((beq w.length 3)&&((ble 3 ((setCells r 0 t).length))&&(!false))) (k0 (wrap .i64 (q+1)) (setCells (setCells r 0 t) 0 w)) none) none) none) none) none) none) none) none) none) none) none) none) none) (cond (ble 3 r.length) (cond ((beq 0 0)&&((beq ((r.take 3).length) 3)&&(beq 3 3))) (cond (ble 3 ((r.take 3).length)) (r0 ((r.take 3).take 3)) none) none) none))
def Q8(r0:LA->O R)(g:Int)(b:LA)(h:Nat)(o i:Bool)(c:LA)(j:Nat)(p l m:Bool)(a:LA)(d:Bool)(f:LA):Nat->Int->LA->O R
|0=>fun _ _=>none
|n+1=>FG N r0 g b h o i c j p l m a d f (Q8 r0 g b h o i c j p l m a d f n)
def fj(r0:LA->O R)(q0:Int->LA->O R)(a:LA)(m:Bool)(s g:Int)(f:LA)(d:Bool)(b:LA)(h:Nat)(o i:Bool)(c:LA)(j:Nat)(p l:Bool):O R:=(HY N fun x=>cond ((beq 0 0)&&((beq x.length 3)&&(beq 3 3))) (q0 s x) none)
def VK:=(Ai fun N a m s g f d b h o i c j p l r0=>fj (R:=R) N r0 (Q8 N r0 g b h o i c j p l m a d f N) a m s g f d b h o i c j p l).1
def lV(a m s g f d b h o i c j p l r0):(@VK R N a m s g f d b h o i c j p l r0)=(fj N r0 (Q8 N r0 g b h o i c j p l m a d f N) a m s g f d b h o i c j p l):=by rw[VK,(Ai _).2]
def sP:Hints:={H:=hK 2 (hS (hK 1 (hS (hP [2,4,5,6,9,12,13,14] hL) hL)) hL),modes:=[(3,0)]}
def wN:Ru:=[aA N,Aez N,IC N,Mf N,ID N]
def Afx(F:KF R):=J7 Tryz.f39 sP (wN N) [] N F
def Afy(g:Int)(b:LA)(h:Nat)(o i:Bool)(c:LA)(j:Nat)(p l m:Bool)(a:LA)(d:Bool)(f:LA)(K:St->O R):=fun q r=>K ⟨[(2,iv g),(4,.imm b h 3 o i),(5,.imm c j 3 p l),(6,op 0),(9,op 1),(12,op 2),(13,op 3),(14,iv q)],hq [bP m 0 a,bP d 0 f,bN 0 [.bool false,.nsl,.nsl],bQ 0 r]⟩
def uD(F:KF R)(g b h o i c j p l m a d f):∀ n,Afy g b h o i c j p l m a d f (Au (Afx N F (pz 1348) []) n)=(Q8 N (Cl F) g b h o i c j p l m a d f n):=Gn fun n e=>(B5 (FG N (Cl F) g b h o i c j p l m a d f) e:_)
def Aj9:=B9 N 39 (wN N) sP (fun
|[.pagg a m,.int .i64 s,.int .i64 g,.pagg f d,.imm b h 3 o i,.imm c j 3 p l],[]=>some fun _ k=>VK N a m s g f d b h o i c j p l (Cl k)
| _,_=>none) fun _ _=>by split;intro R F;exact(B5 (fj N (Cl F) · _ _ _ _ _ _ _ _ _ _ _ _ _ _) ((lW ..).trans (uD ..)):_).trans (lV ..).symm;trivial
def Oj(r0:Bool->O R)(b z c:Int)(d e:Nat)(a h i f g:LA):O R:=(cond (ble 22 a.length) (cond (ble 3 g.length) (AD N (a.take 22) false c b z (g.take 3) false fun ag=>cond ((!ag)==false) (cond (ble 22 a.length) (cond (ble 3 g.length) (VK N (a.take 22) false b z (g.take 3) false (h.take (d*3)) d false true (i.take (e*3)) e false true fun ah=>cond (ble 3 f.length) (C6 N ah false (f.take 3) false fun ai=>r0 (cond false true (decide (ai<=0)))) none) none) none) (r0 true)) none) none)
def Mn(r0:Bool->O R)(b c:Int)(d e:Nat)(aa:Int)(a h i j f g:LA)(q2:Int->O R)(z:Int):O R:=(cond (aa != 0) (Bq 1 j fun aq aj=>r0 ((aj:Int)==0)) (cond (ble 22 a.length) (cond (ble 3 j.length) (AD N (a.take 22) false c b z (j.take 3) false fun ak=>cond ((!ak)==false) (cond (ble 3 f.length) (cond (ble 22 a.length) (cond (ble 3 j.length) (VK N (a.take 22) false b z (j.take 3) false (h.take (d*3)) d false true (i.take (e*3)) e false true fun al=>C6 N (f.take 3) false al false fun am=>cond (cond false true (am != 0)) (r0 false) (q2 z)) none) none) none) (r0 false)) none) none))
def Ef(r0:Bool->O R)(b c:Int)(d e:Nat)(aa:Int)(a h i j f g:LA)(z:Int):O R:=Mn N r0 b c d e aa a h i j f g (fun z=>Oj N r0 b z c d e a h i f g) z
def Mo(r0:Bool->O R)(l:LA)(m:Nat)(ab n:Bool)(o:LA)(p:Nat)(ac q:Bool)(t u:Int)(v:LA)(r:Nat)(ad w:Bool)(x:LA)(s:Nat)(ae y:Bool)(q1:Int->Int->Nat->Nat->Int->LA->LA->LA->LA->LA->LA->Int->O R):O R:=(nV N l m false n fun a c=>cond ((beq 0 0)&&((beq a.length 22)&&(beq 22 22))) (Mb N t c fun b=>Mb N u (wrap .i64 (c - b)) fun af=>Pd N v r false w c (-10) fun d h=>Pd N x s false y c 0 fun e i=>cond (ble 22 a.length) (rN N (a.take 22) false c b (wrap .i64 (b+af)) (h.take (d*3)) d false true (i.take (e*3)) e false true fun j f aa=>cond ((beq 0 0)&&((beq j.length 3)&&(beq 3 3))) (cond ((beq 0 0)&&((beq f.length 3)&&(beq 3 3))) (cond (ble 22 a.length) (Pe N (a.take 22) false c b (wrap .i64 (b+af)) o p false q fun g an=>cond ((beq 0 0)&&((beq g.length 3)&&(beq 3 3))) (W1 N fun ao=>cond ((!ao)==false) (cond ((cond false true (!(an==(aa==0))))==false) (cond ((aa != 0)==true) (cond (cond false true (cond true (aa != 7) false)) (r0 false) (q1 b c d e aa a h i j f g (wrap .i64 (b+af)))) (q1 b c d e aa a h i j f g (wrap .i64 (b+af)))) (r0 false)) (r0 false)) none) none) none) none) none) none)
def It(r0:Bool->O R)(l:LA)(m:Nat)(ab n:Bool)(o:LA)(p:Nat)(ac q:Bool)(t u:Int)(v:LA)(r:Nat)(ad w:Bool)(x:LA)(s:Nat)(ae y:Bool):O R:=Mo N r0 l m ab n o p ac q t u v r ad w x s ae y fun b c d e aa a h i j f g=>Ef N r0 b c d e aa a h i j f g
def Lh(r0:Bool->O R)(q0:O R)(l:LA)(m:Nat)(ab n:Bool)(o:LA)(p:Nat)(ac q:Bool)(t u:Int)(v:LA)(r:Nat)(ad w:Bool)(x:LA)(s:Nat)(ae y:Bool):O R:=(sM N l m false n o p false q fun ap=>cond ((!ap)==false) (cond ((cond false true (decide ((r:Int)>30)))==false) (cond (cond false true (decide ((s:Int)>30))) (r0 true) q0) (r0 true)) (r0 true))
def Nb:=(Ai fun N l m ab n o p ac q t u v r ad w x s ae y r0=>Lh (R:=R) N r0 (It N r0 l m ab n o p ac q t u v r ad w x s ae y) l m ab n o p ac q t u v r ad w x s ae y).1
def T3(l m ab n o p ac q t u v r ad w x s ae y r0):(@Nb R N l m ab n o p ac q t u v r ad w x s ae y r0)=(Lh N r0 (It N r0 l m ab n o p ac q t u v r ad w x s ae y) l m ab n o p ac q t u v r ad w x s ae y):=by rw[Nb,(Ai _).2]
def Xh:Hints:={H:=hK 1 (hJ [0,1,2,3,4,5] hL (hK 6 (hJ [2,3,13,14,15,16,17,18,19,20] hL (hK 1 (hJ [2,3,13,14,15,16,18,20] hL hL)))))}
def Yu:Ru:=[Afw N,Aii N,RY N,sN N,Al2 N,sO N,t8 N,Acy N,Aj9 N,Wc N]
def Ol(F:KF R):=J7 Tryz.f9 Xh (Yu N) [] N F
def TV(b z c:Int)(d e:Nat)(a h i f g:LA)(K:St->O R):=K ⟨[(2,iv b),(3,iv z),(13,op 0),(14,iv c),(15,A6q 1 d),(16,A6q 2 e),(18,op 3),(20,op 4)],hq [bQ 0 a,bQ 3 h,bQ 3 i,bQ 0 f,bQ 0 g]⟩
def TW(b c:Int)(d e:Nat)(aa:Int)(a h i j f g:LA)(K:St->O R):=fun z=>K ⟨[(2,iv b),(3,iv z),(13,op 0),(14,iv c),(15,A6q 1 d),(16,A6q 2 e),(17,op 3),(18,op 4),(19,iv aa),(20,op 5)],hq [bQ 0 a,bQ 3 h,bQ 3 i,bQ 0 j,bQ 0 f,bQ 0 g]⟩
def TX(l:LA)(m:Nat)(ab n:Bool)(o:LA)(p:Nat)(ac q:Bool)(t u:Int)(v:LA)(r:Nat)(ad w:Bool)(x:LA)(s:Nat)(ae y:Bool)(K:St->O R):=K ⟨[(0,.imm l m 1 ab n),(1,.imm o p 1 ac q),(2,iv t),(3,iv u),(4,.imm v r 1 ad w),(5,.imm x s 1 ae y)],[]⟩
def JJ(F:KF R)(b z c d e a h i f g):TV b z c d e a h i f g (A2 (Ol N F (pz 5592405) []))=(Oj N (Cc F) b z c d e a h i f g):=by kernel_rfl
def JK(F:KF R)(b c d e aa a h i j f g):TW b c d e aa a h i j f g (A2 (Ol N F (pz 349525) []))=(Ef N (Cc F) b c d e aa a h i j f g):=(B5 (Mn N (Cc F) b c d e aa a h i j f g) (Aan fun z=>(jW ..).trans (JJ ..)):_)
def JL(F:KF R)(l m ab n o p ac q t u v r ad w x s ae y):TX l m ab n o p ac q t u v r ad w x s ae y (A2 (Ol N F (pz 21) []))=(It N (Cc F) l m ab n o p ac q t u v r ad w x s ae y):=(B5 (Mo N (Cc F) l m ab n o p ac q t u v r ad w x s ae y) (Av3 fun b c d e aa=>An6 fun a h i j f g=>(jW ..).trans (JK ..)):_)
def Yv:=B9 N 9 (Yu N) Xh (fun
|[.imm l m 1 ab n,.imm o p 1 ac q,.int .i64 t,.int .i64 u,.imm v r 1 ad w,.imm x s 1 ae y],[]=>some fun _ k=>Nb N l m ab n o p ac q t u v r ad w x s ae y (Cc k)
| _,_=>none) fun _ _=>by split;intro R F;exact(B5 (Lh N (Cc F) · _ _ _ _ _ _ _ _ _ _ _ _ _ _ _ _ _ _) ((jW ..).trans (JL ..)):_).trans (T3 ..).symm;trivial
def Xi:=(Yv N).tw
def TY:xO Tryz.prog 9 (Xi N):=(Yv N).tok
end
end Gx
namespace Gx.Uo
open Go Go.Proofs
noncomputable section
variable{R:Type}{N:Nat}{X:O R}
def P_(U:Un)(st:Nat->Int)(en re:Nat->Rat)(H j l:Nat):Nat->Nat->Bool->Rat->Prop
|0,_,_,q=>l+1=H\/q<=U.tr
|n+1,h,was,q=>if h<j\/l<h then(st h=0/\en h=0/\re h=0)/\P_ U st en re H j l n (h+1) was q else(st h=2/\HourOk U was q (en h) (re h))/\P_ U st en re H j l n (h+1) true (en h)
section
variable{K:Bool->O R}{u:UnitD}{hh:Int}{g:Bool}{St:List Int}{En Re:List RatD}
def Ar3{f:LA->Nat->O R}:Bq 1 (jI St En Re) f=f (Aj St) St.length:=rfl
def Ar4{f:LA->Nat->O R}:Bq 3 ((jI St En Re).drop 1) f=f (En.flatMap RatD.av) En.length:=rfl
def Ar5{f:LA->Nat->O R}:Bq 3 ((jI St En Re).drop 2) f=f (Re.flatMap RatD.av) Re.length:=rfl
def Avx{I:Bool->Int->Bool->LA->O R}{H j l:Int}{h:Nat}{was fl:Bool}{x y p:RatD}{e r q:Rat}(T:A8 u hh=true)(C:fit 1000000 N)(hs:h<St.length)(hH:St.length<=1000)(L:x.is e 2)(Y:y.is r 2)(hp:p.is q 2)
  (yes:St[h]=2->HourOk (un u) was q e r->∀ D,I true ((h:Int)+1) D x.av=X) (no:¬ (St[h]=2/\HourOk (un u) was q e r)->K false=X) :
  Zv N I K H j l was (h:Int) g u.av false (jI St En Re) fl x.av y.av p.av=X:=by
 have hN:100001000<=N:=by have:=C.1;omega
 have hm:=Ce T;have hr:=fW T
 have hR:=(Db T).2.1
 have v2:=hR.2.2.1;have v3:=hR.2.2.2.1;have v6:=hR.2.2.2.2.2.1
 have qx:=L.qm;have qy:=Y.qm;have qp:=hp.qm
 have a1:=Oc e r;have a2:=Od (e+r) q;have a3:=Od q e
 unfold Zv GD
 simp only[b3,Ys,ct]
 rw[Ams L Y (C.le (by omega)),c3,ct,Ar3,Aa hs,ct,Et hs]
 by_cases c1:St[h]=2
 ·rw[show((St[h] != 2)==false)=true by simp[c1],ct,u2,Yt (by omega) (by omega),tz L (Ajn (by omega)) (C.le (by omega)),Aox]
  by_cases c2:e<(u.min:Rat)
  ·rw[decide_eq_true c2,show((cond false true true)==false)=false from rfl,cf]
   exact no fun z=>by have:=z.2.lo;have:(u.min:Rat)<=e:=this;grind
  rw[decide_eq_false c2,show((cond false true false)==false)=true from rfl,ct,Asg,Acd Y (by omega) (by omega) (C.le (by omega)) (by omega)]
  cases k:As6 r 0 u.reserve with
  |false =>
   rw[show((cond false true (!false))==false)=false from rfl,cf]
   refine no fun z=>?_
   have z0:=z.2.r0;have z1:r<=(u.reserve:Rat):=z.2.r1
   unfold As6 at k
   rw[decide_eq_true (show((0:Int):Rat)<=r from z0),decide_eq_true z1]at k;cases k
  | true =>
   unfold As6 at k
   simp only[Axr,decide_eq_true_eq]at k
   rw[show((cond false true (!true))==false)=true from rfl,ct,u3,Yt (by omega) (by omega),b3,ct,Ys,tz (Ly (m:=20) (by omega)) (Ajn (by omega)) (C.le (by omega)),fV]
   by_cases c4:(u.max:Rat)<e+r
   ·rw[decide_eq_true c4,show(cond false true true)=true from rfl,ct]
    exact no fun z=>by have:e+r<=(u.max:Rat):=z.2.hi;grind
   rw[decide_eq_false c4,show(cond false true false)=false from rfl,cf]
   have base:(if was then e+r - q<=(u.rampUp:Rat)/\q - e<=(u.rampDown:Rat)else e+r<=(u.startRamp:Rat))->HourOk (un u) was q e r:=fun w=>⟨by show(u.min:Rat)<=e;grind,k.1,k.2,by show e+r<=(u.max:Rat);grind,w⟩
   unfold NL GC
   simp only[b3,Ys,ct]
   have last:∀ D,I true (wrap .i64 ((h:Int)+1)) D (setCells p.av 0 x.av)=I true ((h:Int)+1) D x.av:=fun D=>by rw[Afd,Ar _ (by omega)]
   cases was with
   | true =>
    rw[show(true==true)=true from rfl,ct,Ajm (Ly (m:=20) (by omega)) hp (C.le (by omega)),u6,Yt (by omega) (by omega),tz (Ly (m:=40) (by omega)) (Ajn (by omega)) (C.le (by omega)),fV]
    by_cases G:(u.rampUp:Rat)<e+r - q
    ·rw[decide_eq_true G,show(true==false)=false from rfl,cf]
     exact no fun z=>by have w:e+r - q<=(u.rampUp:Rat):=z.2.ramp.1;grind
    rw[decide_eq_false G,show(false==false)=true from rfl,ct,Ajm hp L (C.le (by omega)),u7,Yt (by omega) (by omega),tz (Ly (m:=20) (by omega)) (Ajn (by omega)) (C.le (by omega)),fV]
    by_cases c6:(u.rampDown:Rat)<q - e
    ·rw[decide_eq_true c6,show(cond true (cond false true true) false)=true from rfl,ct]
     exact no fun z=>by have w:q - e<=(u.rampDown:Rat):=z.2.ramp.2;grind
    rw[decide_eq_false c6,show(cond true (cond false true false) false)=false from rfl,cf]
    unfold Zu
    rw[show((!true)==true)=false from rfl,cf,b3,ct,Ys,show((beq (List.length x.av) 3)&&((ble 3 (List.length p.av))&&(!false)))=true from rfl,ct,last]
    exact yes c1 (base (by rw[if_pos rfl];exact⟨by grind,by grind⟩)) _
   | false =>
    rw[show(false==true)=false from rfl,cf]
    unfold Zu
    simp only[b3,Ys,ct]
    rw[show((!false)==true)=true from rfl,ct,u8,Yt (by omega) (by omega),tz (Ly (m:=20) (by omega)) (Ajn (by omega)) (C.le (by omega)),fV]
    by_cases G:(u.startRamp:Rat)<e+r
    ·rw[decide_eq_true G,show(cond true true false)=true from rfl,ct]
     exact no fun z=>by have w:e+r<=(u.startRamp:Rat):=z.2.ramp;grind
    rw[decide_eq_false G,show(cond true false false)=false from rfl,cf,show((beq (List.length x.av) 3)&&(true&&(!false)))=true from rfl,ct,last]
    exact yes c1 (base (by rw[if_neg (by simp)];grind)) _
 ·rw[show((St[h] != 2)==false)=false by simp[c1],cf]
  exact no fun z=>c1 z.1
def At1{C:Bool->Int->Bool->LA->O R}{H j l:Int}{h:Nat}{was fl:Bool}{x y p:RatD}{e r:Rat}(D:fit 1000000 N)(hs:h<St.length)(hH:St.length<=1000)(G:x.is e 2)(I:y.is r 2)
  (yes:St[h]=0->e=0->r=0->C was ((h:Int)+1) fl p.av=X) (no:¬ (St[h]=0/\e=0/\r=0)->K false=X) :
  Lf N C K H j l was (h:Int) g u.av false (jI St En Re) fl true p.av x.av y.av=X:=by
 unfold Lf Wh
 simp only[b3,Ys,ct]
 rw[Ar3,Aa hs,ct,Et hs]
 by_cases c1:St[h]=0
 ·rw[show((St[h] != 0)==false)=true by simp[c1],ct,Ate G (D.le (by omega))]
  have s:∀ q:Rat,(q.num.sign != 0)=!(decide (q=0)):=fun q=>by unfold bne;rw[Aju]
  rw[s]
  by_cases k:e=0
  ·rw[decide_eq_true k,show((cond false true (!true))==false)=true from rfl,ct,Ate I (D.le (by omega)),s]
   by_cases c3:r=0
   ·rw[decide_eq_true c3,show(cond false true (!true))=false from rfl,cf,Ar _ (by omega)]
    exact yes c1 k c3
   ·rw[decide_eq_false c3,show(cond false true (!false))=true from rfl,ct]
    exact no fun z=>c3 z.2.2
  ·rw[decide_eq_false k,show((cond false true (!false))==false)=false from rfl,cf]
   exact no fun z=>k z.2.1
 ·rw[show((St[h] != 0)==false)=false by simp[c1],cf]
  exact no fun z=>c1 z.1
def Aph(St:List Int)(h:Nat):Int:=(St[h]?).getD 0
def FH{l:List RatD}(o:Nums l){h:Nat}(hh:h<l.length):l[h].is (Pq l h) 2:=by
 obtain⟨q,hq⟩:=o _ (Axv hh)
 have e:Pq l h=(l[h]).q:=by unfold Pq;rw[Axn hh];rfl
 rw[e,hq.2.1];exact hq
set_option maxHeartbeats 2000000 in
def zH{H j l:Nat}(D:A8 u hh=true)(k:fit 1000000 N)(hH:H<=1000)(L:l<=1000)(l1:St.length=H)(l2:En.length=H)(l3:Re.length=H)(n2:Nums En)(n3:Nums Re):∀(n h fuel:Nat)(was fl:Bool)(q:Rat)(d:RatD),h+n=H->n<fuel->d.is q 2 ->
  (P_ (un u) (Aph St) (Pq En) (Pq Re) H j l n h was q->K true=X)->(¬ P_ (un u) (Aph St) (Pq En) (Pq Re) H j l n h was q->K false=X) ->
  Ir N K (H:Int) (j:Int) (l:Int) g u.av false (jI St En Re) fuel was (h:Int) fl d.av=X
| 0,h,fuel+1,was,fl,q,d,hn,_,G,yes,no=>by
  have hN:100001000<=N:=by have:=k.1;omega
  have hm:=Ce D
  have hR:=(Db D).2.1
  have v7:=hR.2.2.2.2.2.2.1
  have qd:=G.qm
  rw[Ir];unfold Wi
  rw[Ki (by omega),cf]
  by_cases c:l+1=H
  ·rw[Ar _ (by omega),show(((l:Int)==(H:Int) - 1)==false)=false by rw[show((l:Int)==(H:Int) - 1)=true by rw[beq_iff_eq];omega];rfl,cf]
   exact yes (.inl c)
  ·rw[Ar _ (by omega),show(((l:Int)==(H:Int) - 1)==false)=true by rw[show((l:Int)==(H:Int) - 1)=false by rw[beq_eq_false_iff_ne];omega];rfl,ct,b3,ct,Ys,u9,Yt (by omega) (by omega),tz G (Ajn (by omega)) (k.le (by omega)),Afe]
   by_cases C:q<=(u.stopRamp:Rat)
   ·rw[decide_eq_true C];exact yes (.inr C)
   ·rw[decide_eq_false C];exact no fun z=>z.elim c C
| n+1,h,fuel+1,was,fl,q,d,hn,T,G,yes,no=>by
  have e1:Aph St h=St[h]'(by omega):=by unfold Aph;rw[Axn (by omega)];rfl
  rw[Ir];unfold Wi
  rw[Jo (by omega),ct,Ar4,Aa (by omega),ct,CO (by omega),vh,ct,Ar5,Aa (by omega),ct,CO (by omega),vh,ct,jG,jG,c3,ct,c3,ct]
  have off:(h<j\/l<h)->Lf N (Ir N K (H:Int) (j:Int) (l:Int) g u.av false (jI St En Re) fuel) K (H:Int) (j:Int) (l:Int) was (h:Int) g u.av false (jI St En Re) fl true d.av (En[h]'(by omega)).av (Re[h]'(by omega)).av=X:=fun I=>by
   refine At1 k (by omega) (by omega) (FH n2 (by omega)) (FH n3 (by omega)) (fun a b c=>?_) fun z=>no fun w=>?_
   ·rw[show(h:Int)+1=((h+1:Nat):Int) by omega]
    refine zH D k hH L l1 l2 l3 n2 n3 n (h+1) fuel was fl q d (by omega) (by omega) G (fun w=>yes ?_) fun w=>no fun w'=>w ?_
    ·rw[P_,if_pos I];exact⟨⟨e1.trans a,b,c⟩,w⟩
    ·rw[P_,if_pos I]at w';exact w'.2
   ·rw[P_,if_pos I,e1]at w;exact z w.1
  by_cases c1:h<j
  ·rw[decide_eq_true (show(h:Int)<(j:Int) by omega),show(true==false)=false from rfl,cf]
   exact off (.inl c1)
  ·rw[decide_eq_false (show ¬ (h:Int)<(j:Int) by omega),show(false==false)=true from rfl,ct]
   by_cases C:l<h
   ·rw[decide_eq_true (show(h:Int)>(l:Int) by omega),show(cond false true true)=true from rfl]
    exact off (.inr C)
   ·rw[decide_eq_false (show ¬ (h:Int)>(l:Int) by omega),show(cond false true false)=false from rfl]
    dsimp only
    unfold Lf Wh
    rw[cf]
    refine Avx D k (by omega) (by omega) (FH n2 (by omega)) (FH n3 (by omega)) G (fun a b Y=>?_) fun z=>no fun w=>?_
    ·rw[show(h:Int)+1=((h+1:Nat):Int) by omega]
     refine zH D k hH L l1 l2 l3 n2 n3 n (h+1) fuel true Y (Pq En h) _ (by omega) (by omega) (FH n2 (by omega)) (fun w=>yes ?_) fun w=>no fun w'=>w ?_
     ·rw[P_,if_neg (by omega)];exact⟨⟨e1.trans a,b⟩,w⟩
     ·rw[P_,if_neg (by omega)]at w';exact w'.2
    ·rw[P_,if_neg (by omega),e1]at w;exact z w.1
def At2{H j l:Nat}(k:A8 u hh=true)(C:fit 1000000 N)(hH:H<=1000)(D:l<=1000)(l1:St.length=H)(l2:En.length=H)(l3:Re.length=H)(n2:Nums En)(n3:Nums Re)
  (yes:P_ (un u) (Aph St) (Pq En) (Pq Re) H j l H 0 (Kb (un u) j) u.output->K true=X) (no:¬ P_ (un u) (Aph St) (Pq En) (Pq Re) H j l H 0 (Kb (un u) j) u.output->K false=X) :
  AD N u.av g (H:Int) (j:Int) (l:Int) (jI St En Re) false K=X:=by
 have hN:100001000<=N:=by have:=C.1;omega
 have G:=(Db k).2.1.2.2.2.2.2.2.2.2.2.2.2
 rw[YI];unfold NM
 have ne:∀ n:Nat,n=H->((n:Int) != (H:Int))=false:=fun n h=>by subst h;simp
 rw[Ar3,ne _ l1,show(false==false)=true from rfl,ct,Ar4,ne _ l2,show((cond false true false)==false)=true from rfl,ct,Ar5,ne _ l3,show(cond false true false)=false from rfl,cf]
 unfold Zx GG
 rw[Ash,Yt (by omega) (by omega)]
 have fin:Zw N K (H:Int) (j:Int) (l:Int) g u.av false (jI St En Re) (bK (u.output:Rat)).av (Kb (un u) j)=X:=by
  unfold Zw GF
  exact zH k C hH D l1 l2 l3 n2 n3 H 0 N (Kb (un u) j) false u.output _ (by omega) (by omega) (Ajn (by omega)) yes no
 by_cases c:j=0
 ·subst c
  rw[show((((0:Nat):Int)==0)==true)=true from rfl,ct,Aq6,c3,ct]
  exact fin
 ·rw[show(((j:Int)==0)==true)=false by simp[c],cf,c3,ct]
  have e:Kb (un u) j=false:=by unfold Kb;rw[show(j==0)=false by simp[c]];rfl
  rw[e]at fin;exact fin
end
end
end Gx.Uo
namespace Gx.Uo
open Go Go.Proofs
noncomputable section
variable{R:Type}{N:Nat}{X:O R}
section
variable{u:UnitD}{hh:Int}{St:List Int}{E Q En Re:List RatD}{a b:Nat->Rat}{m g b1 b2 b3 b4:Bool}
def Api{e p w r:Rat}:e*p+cU u p+(w - (u.reservePrice:Rat))*r - (u.noLoad:Rat)=P' (un u) e w p r:=by
 unfold P' own
 show _=e*p+cU u p - (u.noLoad:Rat)+(w - (u.reservePrice:Rat))*r
 grind
def Acz(u:UnitD)(a b:Nat->Rat)(j:Nat)(p r:Nat->Rat):Nat->Rat
|0=>0
|t+1=>Acz u a b j p r t+P' (un u) (a (j+t)) (b (j+t)) (p t) (r t)
def Anv{j:Nat}{p r:Nat->Rat}:∀ t,Acz u a b j p r (t+1)=YK (un u) a b j p r t
|0=>by show 0+P' (un u) (a (j+0)) (b (j+0)) (p 0) (r 0)=_;rw[A3r];rfl
|t+1=>by rw[Acz,Anv t];rfl
def Avy{t:Nat}(h:t<=5):16*(2+t*3010+3000)+80<=1000000:=by omega
def zd:RatD:=⟨false,.of [] false false,.of [1] false false⟩
def At3:zd.is 0 2:=by
 refine⟨⟨?_,?_⟩,?_,?_⟩
 ·intro x k;simp[zd,LS.l]at k
 ·intro x k;simp[zd,LS.l]at k;omega
 ·simp[zd,RatD.q,LS.l,Ax,val]
 ·simp[zd,RatD.m,LS.l]
def Ac0{K:LA->O R}{H j i:Nat}(T:A8 u hh=true)(L:fit 1000000 N)(h6:H<=6)(hj:j+i<H)(pa:∀ h,h<H->Pr E h (a h))(pb:∀ h,h<H->Pr Q h (b h))(l2:En.length=H)(l3:Re.length=H)(n2:Nums En)(n3:Nums Re)(lo:∀ t,t<=i->(u.min:Rat)<=Pq En (j+t)):∀(k t fuel:Nat)(d:RatD),t+k=i+1->k<fuel->d.is (Acz u a b j (fun t=>Pq En (j+t)) (fun t=>Pq Re (j+t)) t) (2+t*3010) ->
  (∀ d:RatD,d.is (Acz u a b j (fun t=>Pq En (j+t)) (fun t=>Pq Re (j+t)) (i+1)) 20000->K d.av=X) ->
  Q8 N K ((j+i:Nat):Int) (E.flatMap RatD.av) E.length b1 b2 (Q.flatMap RatD.av) Q.length b3 b4 m u.av g (jI St En Re) fuel ((j+t:Nat):Int) d.av=X
|0,t,fuel+1,d,ht,_,I,fin=>by
  have:t=i+1:=by omega
  subst this
  rw[Q8];unfold FG
  rw[decide_eq_false (show ¬ ((j+(i+1):Nat):Int)<=((j+i:Nat):Int) by omega),cf]
  simp only[Gx.b3,Ys,ct,Gx.c3]
  exact fin d ⟨I.1,I.2.1,by have:=I.2.2;omega⟩
| k+1,t,fuel+1,d,ht,hfu,I,fin=>by
  have hN4:4000<=N:=by have:=L.1;omega
  have t5:t<=5:=by omega
  obtain⟨M,hM⟩:∃ M:Nat,M=22000:=⟨_,rfl⟩
  have f2:2+t*3010+1+3000+1<=M:=by omega
  have f3:16*(M+2)+100<=1000000:=by omega
  have f1:16*(2+t*3010+3000)+80<=1000000:=Avy t5
  have hR:=(Db T).2.1
  have v8:=hR.2.2.2.2.2.2.2.1
  have Y:j+t<En.length:=by omega
  have h2:j+t<Re.length:=by omega
  have C:=pa (j+t) (by omega);have D:=pb (j+t) (by omega)
  have qe:=C.is.qm;have qw:=D.is.qm
  have x1:=FH n2 Y;have x2:=FH n3 h2
  have q1:=x1.qm;have q2:=x2.qm;have qd:=I.qm
  have qg:=Apg (a:=Pq En (j+t)) (b:=Pq Re (j+t)) T (by omega) (by omega) (show qm (a (j+t))<=101 by omega) (show qm (b (j+t))<=101 by omega)
  have w:∀{x:RatD}{q:Rat}{n:Nat},x.is q n->n<=100->x.is q 100:=fun h hn=>⟨h.1,h.2.1,Ay7 h.2.2 hn⟩
  rw[Q8];unfold FG
  rw[decide_eq_true (show((j+t:Nat):Int)<=((j+i:Nat):Int) by omega),ct,Gx.b3,ct,fG,ct,Ar4,Aa Y,ct,CO Y,vh,ct,Ar5,Aa h2,ct,CO h2,vh,ct,Aa C.lt,ct,CO C.lt,vh,ct,Aa D.lt,ct,CO D.lt,vh,ct,MT,jG,jG,jG,jG]
  rw[Ar1 T (w x1 (by omega)) (w x2 (by omega)) (w C.is (by omega)) (w D.is (by omega)) (lo t (by omega)) L]
  generalize eG:a (j+t)*Pq En (j+t)+cU u (Pq En (j+t))+(b (j+t) - (u.reservePrice:Rat))*Pq Re (j+t)=G at *
  generalize eA:Acz u a b j (fun t=>Pq En (j+t)) (fun t=>Pq Re (j+t)) t=A at *
  have m1:=Oc A G
  have qAG:qm (A+G)<=M:=Ay7 m1 (Ay7 (Nat.add_le_add_right (Nat.add_le_add qd qg) 1) f2)
  have m2:=Od (A+G) (u.noLoad:Rat)
  have iv:=qi (v:=u.noLoad) (by omega)
  simp only[Ys]
  rw[Ams I (Ly (m:=3000) qg) (L.le f1),Afd,show((beq (List.length (bK (A+G)).av) 3)&&(true&&(!false)))=true from rfl,ct,Gx.b3,ct,u5,Yt (by omega) hN4,Ys,Ajm (Ly (m:=M) qAG) (Ajn (by omega)) (L.le f3),show ∀ y:RatD,((beq (List.length y.av) 3)&&(true&&(!false)))=true from fun _=>rfl,ct,Afd,Ar _ (by omega)]
  rw[show((j+t:Nat):Int)+1=((j+(t+1):Nat):Int) by omega]
  have e:A+G - (u.noLoad:Rat)=Acz u a b j (fun t=>Pq En (j+t)) (fun t=>Pq Re (j+t)) (t+1):=by
   rw[Acz,eA,<-Api,eG];grind
  refine Ac0 T L h6 hj pa pb l2 l3 n2 n3 lo k (t+1) fuel _ (by omega) (by omega) ?_ fin
  rw[<-e]
  have hd2:=I.2.2
  exact Ly (by have:=qd;omega)
def Aqm{K:LA->O R}{H j i:Nat}(C:A8 u hh=true)(k:fit 1000000 N)(D:H<=6)(G:j+i<H)(pa:∀ h,h<H->Pr E h (a h))(pb:∀ h,h<H->Pr Q h (b h))(l2:En.length=H)(l3:Re.length=H)(n2:Nums En)(n3:Nums Re)(lo:∀ t,t<=i->(u.min:Rat)<=Pq En (j+t))
  (fin:∀ d:RatD,d.is (YK (un u) a b j (fun t=>Pq En (j+t)) (fun t=>Pq Re (j+t)) i) 20000->K d.av=X) :
  VK N u.av m (j:Int) ((j+i:Nat):Int) (jI St En Re) g (E.flatMap RatD.av) E.length b1 b2 (Q.flatMap RatD.av) Q.length b3 b4 K=X:=by
 have hN:100001000<=N:=by have:=k.1;omega
 rw[lV];unfold fj
 rw[LZ];unfold VB
 rw[show([.bool false,.imm [] 0 1 false false,.imm [.int .u32 1] 1 1 false false]:LA)=zd.av from rfl]
 dsimp only
 rw[Gx.c3,ct]
 exact Ac0 C k D G pa pb l2 l3 n2 n3 lo (i+1) 0 N zd (by omega) (by omega) At3 fun d I=>fin d (by rw[<-Anv];exact I)
end
end
end Gx.Uo
namespace Gx.Uo
open Go Go.Proofs
noncomputable section
variable{R:Type}{N:Nat}{X:O R}
section
variable{r0:LA->Bool->O R}{a c d:Int}{g:LA}{f:Nat}{i j l:Bool}{b:LA}
def At4{Ex:Nat->Nat->LA->LA->O R}(hE:Ex=fun m h ag ah=>Gl N r0 a c d g f i j m h l b N d ag ah):∀ n,E6 N r0 a c d g f i j l b n=Arv a c d b (r0 Ars false) Ex n
|0=>rfl
|n+1=>by rw[E6,At4 hE n];subst hE;rfl
def At5{m h:Nat}{Ex:LA->LA->O R}(hE:Ex=fun o p=>cond (Anu a 8) (cond (Anu a 56) (cond (Anu a 56) (Aq .i64 (b.drop 21) fun bx=>Gk N r0 a c d g f i j m h l b o p N bx c a.toNat a.toNat a.toNat (replicate a.toNat A6r) (List.flatten (replicate a.toNat ([.bool false,.nsl,.nsl]:LA))) (List.flatten (replicate a.toNat ([.bool false,.nsl,.nsl]:LA)))) none) none) none):∀ n,Gl N r0 a c d g f i j m h l b n=At0 c b m h Ex n
|0=>rfl
|n+1=>by rw[Gl,At5 hE n];subst hE;rfl
def At6{m h:Nat}{o p:LA}:∀ n,Gk N r0 a c d g f i j m h l b o p n=Asp a c d b g f N r0 m h o p n
|0=>rfl
|n+1=>by rw[Gk,At6 n];rfl
end
section
variable{r0:LA->Bool->O R}{u:UnitD}{hh:Int}{g a b:Bool}{raw:List Int}
def Anw{H j i:Nat}(C:A8 u hh=true)(hH:H<=1000)(G:j+i<H)(hN:4000<=N)(D:raw.length<=1000000000000)(f:Nc (un u) H j i<Bs (un u) j i->r0 Ars false=X)
  (k:¬ Nc (un u) H j i<Bs (un u) j i->∀(St:List Int)(En Re:List RatD),St.length=H->En.length=H->Re.length=H->Nums En->Nums Re->r0 (jI St En Re) true=X):Pe N u.av g (H:Int) (j:Int) ((j+i:Nat):Int) (Aj raw) raw.length a b r0=X:=by
 have T:=(Db C).2.1.2.2.2.2.2.2.2.2.2.2.2
 rw[JI];unfold Wg
 rw[show((decide (0<=(H:Int)))&&((decide ((H:Int)<=(H:Int)))&&((decide ((H:Int)<=140737488355328))&&(decide (((H:Int)*((8:Nat):Int))<=140737488355328)))))=true from Afv hH (by omega),ct,ct,At4 rfl,Axm]
 have L:(replicate H A6r:LA)=Aj (replicate H 0):=by unfold Aj;rw[A4i]
 rw[L]
 have:=Aqc (Ex:=fun m h ac ad=>Gl N r0 (H:Int) (j:Int) ((j+i:Nat):Int) (Aj raw) raw.length a b m h g u.av N ((j+i:Nat):Int) ac ad) (F:=r0 Ars false) (X:=X) C hH G f (fun I lo hi l1 l2 Y=>?_) (i+1) 0 N (replicate H 0) (replicate H 0) (by omega) (by omega) (by simp) (by simp) (by omega) (fun t' h=>by omega)
 ·exact this
 ·have st:=D6 (a:=fun _=>0) (b:=fun _=>0) (fi:=j) (Rr C) i
  have x1:Bs (un u) j i<=Nc (un u) H j i:=by omega
  have x2:Nc (un u) H j i<=D2 (un u) j i:=by
   unfold Nc;split
   ·unfold F4;split<;>omega
   ·exact A1f _
  rw[At5 rfl]
  refine Aqg (e:=Nc (un u) H j i) C x1 x2 hH G (fun lo' hi' q1 q2 hq=>?_) i N lo hi (Axo _) (by omega) l1 l2 fun t ht=>?_
  ·rw[Afv hH (by omega),Afv hH (by omega),ct,ct,ct,Ash,At6,Axm,L,bM]
   have z:Nums (replicate H Ajl):=fun d hd=>by
    rw[List.eq_of_mem_replicate hd];exact⟨0,Aou⟩
   exact Aql (raw:=raw) C x1 x2 hH G hN D hq (k I) (i+1) 0 N u.output _ _ _ (by omega) (by omega) T (fun _=>rfl) (fun t' h=>by omega) (by simp) (by simp) (by simp) z z
  ·have p:=Y t ht
   by_cases e:t=i
   ·subst e
    rw[if_pos (Axo _),if_pos (Axo _),A2p]
    rw[if_pos rfl]at p;exact p
   ·rw[if_neg (by omega),if_neg (by omega)]
    rw[if_neg e]at p;exact p
end
end
end Gx.Uo
namespace Gx.Uo
open Go Go.Proofs
noncomputable section
section
variable{U:Un}{a b:Nat->Rat}
def Aka(k:U.Ok){H f n:Nat}{p r:Nat->Rat}(h:VM U f p r n)(G:f+n+1<H->p n<=U.tr):¬ Nc U H f n<Bs U f n/\YK U a b f p r n<=(runF U a b f n).1 (Qn U a b H f n):=by
 obtain⟨I,C,D⟩:=zN k (a:=a) (b:=b) n h
 have st:=D6 (a:=a) (b:=b) (fi:=f) k n
 have pe:p n<=Nc U H f n:=by
  unfold Nc
  split
  ·rename_i c;have:=G c;rw[Akh];unfold mn;grind
  ·exact D
 have lo:Bs U f n<=Nc U H f n:=Ayr.1 (A2s C pe)
 exact⟨by omega,A2s I (Akn st lo C D pe)⟩
variable(U)(en:Nat->Rat)(j i:Nat)
def WQ(h:Nat):Bool:=if h<=j then Kb U j else true
def NN(h:Nat):Rat:=if h<=j then(U.out:Rat)else if h<=j+i+1 then en (h - 1)else en (j+i)
def lX(st:Nat->Int)(re:Nat->Rat)(h:Nat):Prop:=if h<j\/j+i<h then st h=0/\en h=0/\re h=0 else st h=2/\HourOk U (WQ U j h) (NN U en j i h) (en h) (re h)
variable{U}{en}{j}{i}{st:Nat->Int}{re:Nat->Rat}{H:Nat}
def sQ:∀ n h,h+n=H->(P_ U st en re H j (j+i) n h (WQ U j h) (NN U en j i h)↔(∀ h',h<=h'->h'<H->lX U en j i st re h')/\(j+i+1=H\/NN U en j i H<=U.tr))
|0,h,e=>by
  have:h=H:=by omega
  subst this
  rw[P_]
  exact⟨fun x=>⟨fun h' a b=>by omega,x⟩,fun x=>x.2⟩
| n+1,h,e=>by
  rw[P_]
  have split':∀ P:Prop,((∀ h',h<=h'->h'<H->lX U en j i st re h')/\P)↔lX U en j i st re h/\(∀ h',h+1<=h'->h'<H->lX U en j i st re h')/\P:=fun P=>by
   constructor
   ·exact fun x=>⟨x.1 h (Axo _) (by omega),fun h' a b=>x.1 h' (by omega) b,x.2⟩
   ·refine fun x=>⟨fun h' a b=>?_,x.2.2⟩
    by_cases c:h'=h
    ·subst c;exact x.1
    ·exact x.2.1 h' (by omega) b
  rw[split',<-sQ n (h+1) (by omega)]
  by_cases c:h<j\/j+i<h
  ·have e1:WQ U j (h+1)=WQ U j h:=by unfold WQ;rcases c with c|c;rw[if_pos (by omega),if_pos (by omega)];rw[if_neg (by omega),if_neg (by omega)]
   have k:NN U en j i (h+1)=NN U en j i h:=by
    unfold NN
    rcases c with c|c
    ·rw[if_pos (by omega),if_pos (by omega)]
    ·rw[if_neg (by omega),if_neg (by omega),if_neg (by omega)]
     by_cases C:h<=j+i+1
     ·rw[if_pos C,show h - 1=j+i by omega]
     ·rw[if_neg C]
   rw[if_pos c,e1,k];unfold lX;rw[if_pos c]
  ·have e1:WQ U j (h+1)=true:=by unfold WQ;rw[if_neg (by omega)]
   have k:NN U en j i (h+1)=en h:=by unfold NN;rw[if_neg (by omega),if_pos (by omega),show h+1 - 1=h by omega]
   rw[if_neg c,e1,k];unfold lX;rw[if_neg c]
def TZ:∀ n,n<=i->(VM U j (fun t=>en (j+t)) (fun t=>re (j+t)) n↔∀ t,t<=n->HourOk U (WQ U j (j+t)) (NN U en j i (j+t)) (en (j+t)) (re (j+t)))
| 0,_=>by
  have e1:WQ U j (j+0)=Kb U j:=by unfold WQ;rw[if_pos (by omega)]
  have k:NN U en j i (j+0)=U.out:=by unfold NN;rw[if_pos (by omega)]
  unfold VM
  constructor
  ·intro h t C
   have:t=0:=by omega
   subst this;rw[e1,k];exact h
  ·intro h;have:=h 0 (Axo _);rw[e1,k]at this;exact this
| n+1,hn=>by
  have e1:WQ U j (j+(n+1))=true:=by unfold WQ;rw[if_neg (by omega)]
  have k:NN U en j i (j+(n+1))=en (j+n):=by unfold NN;rw[if_neg (by omega),if_pos (by omega),show j+(n+1) - 1=j+n by omega]
  unfold VM
  rw[TZ n (by omega)]
  constructor
  ·rintro⟨D,G⟩ t C
   by_cases c:t=n+1
   ·subst c;rw[e1,k];exact G
   ·exact D t (by omega)
  ·intro h
   refine⟨fun t C=>h t (by omega),?_⟩
   have:=h (n+1) (Axo _)
   rw[e1,k]at this;exact this
def wO(D:j+i<H)(h:P_ U st en re H j (j+i) H 0 (Kb U j) U.out):VM U j (fun t=>en (j+t)) (fun t=>re (j+t)) i/\(j+i+1<H->en (j+i)<=U.tr):=by
 have e1:WQ U j 0=Kb U j:=by unfold WQ;rw[if_pos (by omega)]
 have k:NN U en j i 0=U.out:=by unfold NN;rw[if_pos (by omega)]
 rw[<-e1,<-k,sQ H 0 (by omega)]at h
 refine⟨(TZ i (Axo _)).2 fun t G=>?_,fun c=>?_⟩
 ·have:=h.1 (j+t) (by omega) (by omega)
  unfold lX at this
  rw[if_neg (by omega)]at this;exact this.2
 ·have:=h.2.resolve_left (by omega)
  unfold NN at this
  rw[if_neg (by omega)]at this
  by_cases C:H<=j+i+1
  ·omega
  ·rw[if_neg C]at this;exact this
def Akb(G:j+i<H)(k:VM U j (fun t=>en (j+t)) (fun t=>re (j+t)) i)(C:j+i+1<H->en (j+i)<=U.tr)(on:∀ t,t<=i->st (j+t)=2)(off:∀ h,h<H->¬ (j<=h/\h<=j+i)->st h=0/\en h=0/\re h=0):P_ U st en re H j (j+i) H 0 (Kb U j) U.out:=by
 have e1:WQ U j 0=Kb U j:=by unfold WQ;rw[if_pos (by omega)]
 have D:NN U en j i 0=U.out:=by unfold NN;rw[if_pos (by omega)]
 rw[<-e1,<-D,sQ H 0 (by omega)]
 refine⟨fun h' _ hh=>?_,?_⟩
 ·unfold lX
  by_cases c:h'<j\/j+i<h'
  ·rw[if_pos c];exact off h' hh (by omega)
  ·rw[if_neg c]
   have:=(TZ i (Axo _)).1 k (h' - j) (by omega)
   have o:=on (h' - j) (by omega)
   rw[show j+(h' - j)=h' by omega]at this o
   exact⟨o,this⟩
 ·by_cases c:j+i+1=H
  ·exact .inl c
  ·refine .inr ?_
   unfold NN
   rw[if_neg (by omega),if_neg (by omega)];exact C (by omega)
end
section
variable{u:UnitD}{hh:Int}{St:List Int}{En Re:List RatD}{H j i:Nat}{a b:Nat->Rat}
def Aqn{h:Nat}{k:Int}{p r:Rat}(o:At St En Re h k p r):Aph St h=k/\Pq En h=p/\Pq Re h=r:=by
 obtain⟨d,e1,C⟩:=o.en
 obtain⟨d',e3,e4⟩:=o.re
 refine⟨by unfold Aph;rw[o.st];rfl,?_,?_⟩
 ·unfold Pq;rw[e1];exact C.q
 ·unfold Pq;rw[e3];exact e4.q
def Apj(D:A8 u hh=true)(hj:j+i<H)(I:¬ Nc (un u) H j i<Bs (un u) j i)(o:Disp St En Re H j i (fP (un u) a b j i (Qn (un u) a b H j i)) (fR (un u) a b j i (Qn (un u) a b H j i))):
  Nums En/\Nums Re/\P_ (un u) (Aph St) (Pq En) (Pq Re) H j (j+i) H 0 (Kb (un u) j) u.output/\YK (un u) a b j (fun t=>Pq En (j+t)) (fun t=>Pq Re (j+t)) i=(runF (un u) a b j i).1 (Qn (un u) a b H j i):=by
 obtain⟨x1,x2,x3⟩:=rn (a:=a) (b:=b) D I
 have ko:=Rr D
 obtain⟨f1,f2⟩:=zO (u:=un u) ko (a:=a) (b:=b) (fi:=j) i _ x1 x2
 have on:=fun t (C:t<=i)=>Aqn (o.on t C)
 have eP:∀ t,t<=i->((fP (un u) a b j i (Qn (un u) a b H j i) t:Int):Rat)=Pq En (j+t)/\((fR (un u) a b j i (Qn (un u) a b H j i) t:Int):Rat)=Pq Re (j+t):=fun t C=>⟨(on t C).2.1.symm,(on t C).2.2.symm⟩
 have Y:=YL i eP f1
 have g2:=(fv (u:=un u) (a:=a) (b:=b) (fi:=j) i eP).symm.trans f2
 have hm:=Ce D
 have hR:=fW D
 have bnd:∀ t,t<=i->(-1<=fP (un u) a b j i (Qn (un u) a b H j i) t/\fP (un u) a b j i (Qn (un u) a b H j i) t<=1048576)/\(-1<=fR (un u) a b j i (Qn (un u) a b H j i) t/\fR (un u) a b j i (Qn (un u) a b H j i) t<=1048576):=fun t C=>by
  have G:=(TZ (i:=i) i (Axo _)).1 Y t C
  have e:=eP t C
  rw[<-e.1,<-e.2]at G
  have l1:(u.min:Rat)<=(fP (un u) a b j i (Qn (un u) a b H j i) t:Int):=G.lo
  have l2:=G.r0
  have l3:((fP (un u) a b j i (Qn (un u) a b H j i) t:Int):Rat)+(fR (un u) a b j i (Qn (un u) a b H j i) t:Int)<=(u.max:Rat):=G.hi
  generalize fP (un u) a b j i (Qn (un u) a b H j i) t=p at *
  generalize fR (un u) a b j i (Qn (un u) a b H j i) t=r at *
  rw[<-Aza]at l3
  have l3:=Ayr.1 l3
  have l1:=Ayr.1 l1
  have l2:((0:Int):Rat)<=(r:Rat):=l2
  have l2:=Ayr.1 l2
  omega
 have all:∀ h,h<H->∃ k p r,At St En Re h k p r/\qm p<=2/\qm r<=2:=fun h hh=>by
  by_cases c:j<=h/\h<=j+i
  ·have:=o.on (h - j) (by omega)
   rw[show j+(h - j)=h by omega]at this
   have b:=bnd (h - j) (by omega)
   exact⟨_,_,_,this,qi (by omega),qi (by omega)⟩
  ·exact⟨_,_,_,o.off h hh c,qi (v:=0) (by omega),qi (v:=0) (by omega)⟩
 refine⟨fun d L=>?_,fun d L=>?_,?_,g2⟩
 ·obtain⟨h,hh,rfl⟩:=Azu.1 L
  obtain⟨k,p,r,o',q1,q2⟩:=all h (by rw[<-o.l2];exact hh)
  obtain⟨d,e1,T⟩:=o'.en
  rw[Axn hh]at e1
  cases e1
  exact⟨p,T.is q1⟩
 ·obtain⟨h,hh,rfl⟩:=Azu.1 L
  obtain⟨k,p,r,o',q1,q2⟩:=all h (by rw[<-o.l3];exact hh)
  obtain⟨d,e1,T⟩:=o'.re
  rw[Axn hh]at e1
  cases e1
  exact⟨r,T.is q2⟩
 ·refine Akb hj Y (fun c=>?_) (fun t C=>(on t C).1) fun h hh c=>Aqn (o.off h hh c)
  rw[<-(eP i (Axo _)).1,nO]
  exact Bo (x3 c)
end
end
end Gx.Uo
namespace Gx.Uo
open Go Go.Proofs
noncomputable section
variable{R:Type}{N:Nat}{X:O R}
def lY{K:Nat->LA->O R}{raw:List Int}{H:Nat}{b:Int}{f g:Bool}(hH:H<=1000)(C:-1000<=b/\b<=1000)(hN:4000<=N)(k:∀ L:List RatD,L.length=H->Nums L->K H (L.flatMap RatD.av)=X):∀(m t fuel:Nat)(L:List RatD),t+m=H->m<fuel->L.length=t->Nums L ->
  E5 N K (Aj raw) raw.length f g (H:Int) b fuel t (t:Int) (L.flatMap RatD.av)=X
|0,t,fuel+1,L,D,_,e1,n1=>by
  rw[E5];unfold Pb
  have:t=H:=by omega
  subst this
  rw[Ki (by omega),cf]
  exact k L e1 n1
| m+1,t,fuel+1,L,D,G,e1,n1=>by
  rw[E5];unfold Pb
  have I:(ble (t+1) 140737488355328&&ble ((t+1)*56) 140737488355328)=true:=by
   rw[show ble (t+1) 140737488355328=true by rw[Ays];omega,show ble ((t+1)*56) 140737488355328=true by rw[Ays];omega];rfl
  have next:∀ z:Int,-2000<=z->z<=2000->(iY N z 2 fun l=>cond ((beq l.length 3)&&(ble 3 3)) (cond ((ble (t+1) 140737488355328)&&(ble ((t+1)*56) 140737488355328)) (E5 N K (Aj raw) raw.length f g (H:Int) b fuel (t+1) (wrap .i64 ((t:Int)+1)) (((L.flatMap RatD.av).take (t*3))++((setCells [.bool false,.nsl,.nsl] 0 l).take 3))) none) none)=X:=fun z z1 z2=>by
   rw[Amr (by omega) (by omega) (by omega),show cq (mkRat z (2:Int).natAbs)=(bK (mkRat z 2)).av from rfl,show((beq (List.length (bK (mkRat z 2)).av) 3)&&(ble 3 3))=true from rfl,ct,I,ct,wS (by omega)]
   have s2:(L.flatMap RatD.av).take (t*3)++take 3 (setCells [.bool false,.nsl,.nsl] 0 (bK (mkRat z 2)).av)=(L++[bK (mkRat z 2)]).flatMap RatD.av:=by
    rw[Axl (by rw[Xb,e1];omega),A0d];simp;rfl
   rw[s2]
   refine lY hH C hN k m (t+1) fuel _ (by omega) (by omega) (by simp[e1]) fun d T=>?_
   rcases Axz.1 T with h|h
   ·exact n1 d h
   ·simp at h;subst h;exact⟨_,Ly (Ag0 z 2 2 (by omega) (by omega) (by omega))⟩
  rw[Jo (by omega),ct]
  by_cases c:t<raw.length
  ·rw[Jo c,ct,Aa c,ct,Et c,Al3 (by omega) (by omega)]
   have:=fI raw[t] (show(0:Int)<80 by omega)
   rw[Ar _ (by omega)]
   exact next _ (by omega) (by omega)
  ·rw[Ki (by omega),cf]
   exact next _ (by omega) (by omega)
def Ac1{K:Nat->LA->O R}{raw:List Int}{H:Nat}{b:Int}{f g:Bool}(hH:H<=1000)(C:-1000<=b/\b<=1000)(hN:4000<=N)(k:∀ L:List RatD,L.length=H->Nums L->K H (L.flatMap RatD.av)=X):Pd N (Aj raw) raw.length f g (H:Int) b K=X:=by
 rw[I_];unfold Wf
 exact lY hH C hN k H 0 N [] (by omega) (by omega) rfl (fun d D=>by cases D)
def n_{l:List RatD}(o:Nums l)(h:Nat)(hh:h<l.length):Pr l h (Pq l h):=by
 have:=FH o hh
 exact⟨hh,this.1,this.2.1,by have:=this.2.2;omega⟩
section
variable{K:Bool->O R}{u:UnitD}{hh:Int}{E Q:List RatD}
def Avz:16*(20001+20000)+100<=1000000:=A0t rfl
def Av0:16*(20000+20001)+100<=1000000:=A0t rfl
def At7{H j i:Nat}{St St':List Int}{En Re En' Re':List RatD}{d:RatD}(C:A8 u hh=true)(D:fit 1000000 N)(Y:H<=6)(G:j+i<H)(eE:E.length=H)(eQ:Q.length=H)(nE:Nums E)(nQ:Nums Q)(L:¬ Nc (un u) H j i<Bs (un u) j i)
  (o:Disp St En Re H j i (fP (un u) (Pq E) (Pq Q) j i (Qn (un u) (Pq E) (Pq Q) H j i)) (fR (un u) (Pq E) (Pq Q) j i (Qn (un u) (Pq E) (Pq Q) H j i))) (hd:d.can ((runF (un u) (Pq E) (Pq Q) j i).1 (Qn (un u) (Pq E) (Pq Q) H j i)))
  (l1:St'.length=H) (l2:En'.length=H) (l3:Re'.length=H) (n2:Nums En') (n3:Nums Re') :
  Ef N K (j:Int) (H:Int) E.length Q.length 0 u.av (E.flatMap RatD.av) (Q.flatMap RatD.av) (jI St En Re) d.av (jI St' En' Re') ((j+i:Nat):Int)=K true:=by
 obtain⟨m2,m3,ok,net⟩:=Apj C G L o
 have ko:=Rr C
 have pE:∀ h,h<H->Pr E h (Pq E h):=fun h hh=>n_ nE h (by omega)
 have pQ:∀ h,h<H->Pr Q h (Pq Q h):=fun h hh=>n_ nQ h (by omega)
 have tE:(E.flatMap RatD.av).take (E.length*3)=E.flatMap RatD.av:=Axl (by rw[Xb];omega)
 have tQ:(Q.flatMap RatD.av).take (Q.length*3)=Q.flatMap RatD.av:=Axl (by rw[Xb];omega)
 have lows:∀{en re:Nat->Rat},VM (un u) j (fun t=>en (j+t)) (fun t=>re (j+t)) i->∀ t,t<=i->(u.min:Rat)<=en (j+t):=fun h t ht=>((TZ (i:=i) i (Axo _)).1 h t ht).lo
 unfold Ef Mn
 rw[show((0:Int) != 0)=false from rfl,cf,fG,ct,MT,show ble 3 (List.length (jI St En Re))=true from rfl,ct,show take 3 (jI St En Re)=jI St En Re from rfl]
 refine At2 C D (by omega) (by omega) o.l1 o.l2 o.l3 m2 m3 (fun _=>?_) (fun c=>absurd ok c)
 rw[show((!true)==false)=true from rfl,ct,Gx.b3,ct,ct,tE,tQ,Ys]
 refine Aqm (a:=Pq E) (b:=Pq Q) C D Y G pE pQ o.l2 o.l3 m2 m3 (lows (wO G ok).1) fun d2 k=>?_
 rw[net]at k
 generalize eV:(runF (un u) (Pq E) (Pq Q) j i).1 (Qn (un u) (Pq E) (Pq Q) H j i)=V at *
 have qv:qm V<=20001:=k.qm
 have I:d.is V 20001:=hd.is qv
 rw[tz I k (D.le Avz),Amy,show(cond false true ((0:Int) != 0))=false from rfl,cf]
 dsimp only
 unfold Oj
 rw[fG,ct,MT,show ble 3 (List.length (jI St' En' Re'))=true from rfl,ct,show take 3 (jI St' En' Re')=jI St' En' Re' from rfl]
 refine At2 C D (by omega) (by omega) l1 l2 l3 n2 n3 (fun ok2=>?_) (fun _=>rfl)
 obtain⟨fe,ft⟩:=wO G ok2
 rw[show((!true)==false)=true from rfl,ct,ct,tE,tQ]
 refine Aqm (a:=Pq E) (b:=Pq Q) C D Y G pE pQ l2 l3 n2 n3 (lows fe) fun d3 T=>?_
 have best:=(Aka ko (a:=Pq E) (b:=Pq Q) (H:=H) fe ft).2
 rw[eV]at best
 rw[Gx.b3,ct,Ys,tz T I (D.le Av0),Afe,decide_eq_true best]
 rfl
def jU(I:fit 1000000 N){l o v x:List Int}(hl:l.length<=9223372036854775807){ab n ac q ad w ae y:Bool}{t s:Int}:
  Nb N (Aj l) l.length ab n (Aj o) o.length ac q t s (Aj v) v.length ad w (Aj x) x.length ae y K=K true:=by
 have hN:100001000<=N:=by have:=I.1;omega
 have hN4:4000<=N:=by omega
 rw[T3];unfold Lh
 rw[fg];unfold jT
 by_cases Y:(l.length:Int)<=200
 ·rw[decide_eq_true Y,show(true==true)=true from rfl,ct]
  by_cases g2:(o.length:Int)<=200
  ·rw[decide_eq_true g2]
   dsimp only
   rw[show((!(cond true true false))==false)=true from rfl,ct]
   by_cases g3:(v.length:Int)>30
   ·rw[decide_eq_true g3];rfl
   ·rw[decide_eq_false g3,show((cond false true false)==false)=true from rfl,ct]
    by_cases g4:(x.length:Int)>30
    ·rw[decide_eq_true g4];rfl
    ·rw[decide_eq_false g4,show(cond false true false)=false from rfl,cf]
     unfold It Mo
     refine Aft rfl (by omega) hl fun u H h1 h2 G _ ha=>?_
     obtain⟨n',rfl⟩:∃ n':Nat,H=(n':Int):=⟨H.toNat,by omega⟩
     have m1:=fI t (show(0:Int)<(n':Int) by omega)
     rw[show((beq 0 0)&&((beq (List.length u.av) 22)&&(beq 22 22)))=true from rfl,ct,Al3 (by omega) (by omega)]
     generalize t%(n':Int)=b at m1
     rw[Ar _ (by omega),Al3 (by omega) (by omega)]
     have m2:=fI s (show(0:Int)<(n':Int) - b by omega)
     generalize s%((n':Int) - b)=c at m2
     obtain⟨j,rfl⟩:∃ j:Nat,b=(j:Int):=⟨b.toNat,by omega⟩
     obtain⟨i,rfl⟩:∃ i:Nat,c=(i:Int):=⟨c.toNat,by omega⟩
     have L:j+i<n':=by omega
     refine Ac1 (by omega) (by omega) hN4 fun E eE nE=>Ac1 (by omega) (by omega) hN4 fun Q eQ nQ=>?_
     have tE:(E.flatMap RatD.av).take (n'*3)=E.flatMap RatD.av:=Axl (by rw[Xb];omega)
     have tQ:(Q.flatMap RatD.av).take (n'*3)=Q.flatMap RatD.av:=Axl (by rw[Xb];omega)
     rw[show wrap .i64 ((j:Int)+(i:Int))=((j+i:Nat):Int) by rw[Ar _ (by omega)];omega,fG,ct,MT,tE,tQ]
     have e1:ro u (n':Int) (j:Int) ((j+i:Nat):Int) E.length Q.length=if Nc (un u) n' j i<Bs (un u) j i then 7 else 0:=by
      have:=Aqb (fi:=(j:Int)) (la:=((j+i:Nat):Int)) G (nE:=E.length) (nQ:=Q.length) (by omega) (by omega) (by omega)
      rw[this,Axm,Axm,show(((j+i:Nat):Int) - (j:Int)).toNat=i by omega]
     have go:=Att (N:=N) (u:=u) (g:=false) (hs:=(n':Int)) (fi:=(j:Int)) (la:=((j+i:Nat):Int)) (E:=E) (Q:=Q) (a:=Pq E) (b:=Pq Q) (b1:=false) (b2:=true) (b3:=false) (b4:=true) (X:=K true) (K:=fun T f aa=>cond ((beq 0 0)&&((beq T.length 3)&&(beq 3 3))) (cond ((beq 0 0)&&((beq f.length 3)&&(beq 3 3))) (cond true (Pe N u.av false (n':Int) (j:Int) ((j+i:Nat):Int) (Aj o) o.length false q fun g an=>cond ((beq 0 0)&&((beq g.length 3)&&(beq 3 3))) (W1 N fun ao=>cond ((!ao)==false) (cond ((cond false true (!(an==(aa==0))))==false) (cond ((aa != 0)==true) (cond (cond false true (cond true (aa != 7) false)) (K false) (Ef N K (j:Int) (n':Int) n' n' aa u.av (E.flatMap RatD.av) (Q.flatMap RatD.av) T f g ((j+i:Nat):Int))) (Ef N K (j:Int) (n':Int) n' n' aa u.av (E.flatMap RatD.av) (Q.flatMap RatD.av) T f g ((j+i:Nat):Int))) (K false)) (K false)) none) none) none) none) (by omega) (fun _=>by omega) (fun h hh=>n_ nE h hh) (fun h hh=>n_ nQ h hh) I (fun e C D=>?_) (fun D St En Re d od hd=>?_)
     ·rw[eE,eQ]at go;exact go
     ·rw[e1]at C
      by_cases k:Nc (un u) n' j i<Bs (un u) j i
      ·rw[if_pos k]at C
       subst C
       rw[show((beq 0 0)&&((beq (List.length Ars) 3)&&(beq 3 3)))=true from rfl,ct,Gx.c3,ct,ct]
       refine Anw G (by omega) L hN4 (by omega) (fun _=>?_) (fun c=>absurd k c)
       rw[show((beq 0 0)&&((beq (List.length Ars) 3)&&(beq 3 3)))=true from rfl,ct,Ahk]
       rfl
      ·rw[if_neg k]at C;exact absurd C.symm D
     ·rw[e1]at D
      have k:¬ Nc (un u) n' j i<Bs (un u) j i:=fun c=>by rw[if_pos c]at D;cases D
      rw[Axm,Axm,show(((j+i:Nat):Int) - (j:Int)).toNat=i by omega]at od hd
      rw[show((beq 0 0)&&((beq (List.length (jI St En Re)) 3)&&(beq 3 3)))=true from rfl,ct,Gx.c3,ct,ct]
      refine Anw G (by omega) L hN4 (by omega) (fun c=>absurd c k) (fun _ St' En' Re' l1 l2 l3 n2 n3=>?_)
      rw[show((beq 0 0)&&((beq (List.length (jI St' En' Re')) 3)&&(beq 3 3)))=true from rfl,ct,Ahk]
      have:=At7 (K:=K) (N:=N) (St':=St') (En':=En') (Re':=Re') G I (by omega) L eE eQ nE nQ k od hd l1 l2 l3 n2 n3
      rw[eE,eQ]at this
      exact this
  ·rw[decide_eq_false g2];rfl
 ·rw[decide_eq_false Y];rfl
end
end
end Gx.Uo
namespace Gx
open Go Go.Proofs Go.RowKit
def At8{W:World}:GlobOk (fun _ k=>k<W.heap.size) W:=⟨(fun _ C=>by cases C),(fun _ D=>by cases D)⟩
def T_{p:Int->Prop}:∀ m:List {n:Int // p n},m.flatMap (fun n=>[AV.int .i64 n.1])=Aj (m.map (·.1))
|[]=>rfl
|a::r=>by rw[Aye,T_ r];rfl
end Gx
namespace Gx
open Go
def am{a b:Bool}(k:a=true)(C:b=true):(a&&b)=true:=by rw[k,C];rfl
def Ar6{P:Program}(h2:laidOutB P=true)(h3:mapsRowed P=true)(h7:(P.stops==[])=true)(h9:(P.stopKnobs==[])=true)(C:P.stopsHeard=true)(D:P.mayEnter=true){f:FuncId}{fn:Func}{s:ChangeSpec}{c:OpenClaim}(G:(c.inPlace==P.inPlace f)=true)(I:(c.unfollowed==P.unfollowed f)=true)(L:(c.recurses==P.recurses f)=true)(T:(c.named==P.varsNamed f)=true)
  (Y:(c.lifted==P.liftsFinal)=true) (h28:(P.make==some c.make)=true) (h23:(c.plainKeys==P.plainKeys)=true)
  (h1:c.wf (OpenSpec.ofChange s)=true) (h4:fn.params.all (P.readableRec ·)=true) (h5:namedTie P c.named s.vars=true) (h6:(c.stops==[])=true) (h8:(c.knobs==[])=true)
  (h14:(c.maps==(fn.params.toList++s.plain.varTypes P).any (P.mapsRec ·))=true) (h15:(c.ifaces==(fn.params.toList++s.plain.varTypes P).any (P.ifacesRec ·))=true) (h16:(c.mapsOut==P.mapsAmong fn.resultTypes.toList)=true)
  (h17:(c.loops==(fn.params.toList++s.plain.varTypes P).any (P.loopsFrom ·))=true) (h18:(c.wideKeys==(fn.params.toList++s.plain.varTypes P++fn.resultTypes.toList).any (P.wideKeysFrom ·))=true)
  (h19:s.vars.all (P.varReadable ·)=true) (h20:fn.resultTypes.all (fun t=>P.readableRec t&&decide (t<P.types.size))=true) (h21:(c.ifacesOut==fn.resultTypes.toList.any (P.ifacesRec ·))=true) (h22:(c.loopsOut==fn.resultTypes.toList.any (P.loopsFrom ·))=true)
  (h24:c.shortTexts.isNone=true) (h29:(c.kinds==(if c.domain.isEmpty then []else fn.params.toList.map fun t=>match P.underlying t with|some (.int k)=>some k|_=>none))=true) (h30:(c.pinned==c.pinnedBy)=true)
  (h31:(c.veiled==(fn.params.toList++s.plain.varTypes P++fn.resultTypes.toList).any (P.veiledRec ·))=true) (h32:c.veiledFits P fn.params.toList (fn.params.toList++s.plain.varTypes P++fn.resultTypes.toList)=true):joinedFacts P f fn s c=true:=by
 unfold joinedFacts
 exact am (am (am (am (am (am (am (am (am (am (am (am (am (am (am (am (am (am (am (am (am (am (am (am (am (am (am (am (am (am (am h1 h2) h3) h4) h5) h6) h7) h8) h9) G) I) L) T) h14) h15) h16) h17) h18) h19) h20) h21) h22) h23) h24) C) D) Y) h28) h29) h30) h31) h32
end Gx
